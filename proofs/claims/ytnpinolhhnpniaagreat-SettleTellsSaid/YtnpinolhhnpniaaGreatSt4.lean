/- settle.Settle, Gross. -/
import Derived.Test.YtnpinolhhnpniaaGreatClA
import Derived.Test.YtnpinolhhnpniaaGreatTyAcc
import Derived.Test.YtnpinolhhnpniaaGreatSetP
import Derived.Test.YtnpinolhhnpniaaGreatNt3
import Derived.Test.YtnpinolhhnpniaaGreatPo2
set_option linter.unusedSimpArgs false
set_option linter.unusedVariables false
namespace Go.Proofs.YtnpinolhhnpniaaGreat
open Go.RowKit Go.Lib
/-- A function value, as an element of a row. -/
structure Fv where
  v : Value
  one : v.oneCell' = true
def fnT : Ty Fv := { e := 49, sz := 1, enc := fun f => [f.v], pos := by decide, len := fun _ => rfl, one := fun x u hu => by simp at hu; subst hu; exact x.one }
theorem fnS : SlT Tryz.prog 43 fnT 8 .nilFunc := ⟨Tryz.underlying43, by kernel_rfl, rfl, by decide⟩
theorem Row.fn {w : World} {A : Option Addr} {n : Nat} {l : List Fv} (h : Row fnT w A n l) {k : Nat} (hk : k < n) :
    ∃ ad f, A = some ad ∧ l[k]? = some f ∧ w.cell? (ad.add k) = some f.v := by
  obtain ⟨ad, o, e, ho, h0, _⟩ := h.at_ hk
  exact ⟨ad, o, e, ho, by have h := h0 _ rfl; rwa [show k * fnT.sz = k from Nat.mul_one k] at h⟩
/-- Accounts that are handed back: a slice that reads so. -/
def Rd (w : World) (v : Value) (l : List Acc) : Prop := ∃ A n c, v = .slice A n c ∧ n ≤ c ∧ Row accT w A n l
theorem Rd.bel {w w1 : World} {v : Value} {l : List Acc} (h : Rd w v l) (b : Bel w w1) : Rd w1 v l := by
  obtain ⟨A, n, c, e, hc, r⟩ := h
  exact ⟨A, n, c, e, hc, r.bel b⟩
theorem Rd.none_ (w : World) : Rd w (.slice none 0 0) [] := ⟨none, 0, 0, rfl, Nat.le_refl _, Row.none_ _ _ _⟩
theorem Own.rd {w : World} {b : Nat} {v : Value} {l : List Acc} (h : Own accT w b v l) : Rd w v l := by
  obtain ⟨A, c, e, hc, r⟩ := h.reads
  exact ⟨A, _, c, e, hc, r⟩
abbrev Stp := List Acc → Int × List Acc
/-- What a function value does with accounts of I, wherever nothing of w has turned. -/
def StepAt (w : World) (v : Value) (g : Stp) (I : List Acc → Prop) : Prop :=
  ∃ k lb, v = .func (.func k) #[] lb ∧ (∀ args W, (callFunc k args).run Tryz.prog W = .ok (.enter k args) W) ∧
    ∀ (W : World) (A : Option Addr) (n c : Nat) (l : List Acc), Bel w W → Row accT W A n l → n ≤ c → I l →
      Calls Tryz.prog k (#[.slice A n c] ++ lb) W fun e w' => ∃ v, e = .returned (.tuple #[v, .int .i64 (g l).1]) ∧ Rd w' v (g l).2 ∧ Bel W w'
theorem StepAt.bel {w w1 : World} {v : Value} {g : Stp} {I : List Acc → Prop} (h : StepAt w v g I) (b : Bel w w1) : StepAt w1 v g I := by
  obtain ⟨k, lb, e, eg, hc⟩ := h
  exact ⟨k, lb, e, eg, fun W A n c l hb => hc W A n c l (b.trans hb)⟩
/-- Steps, one behind the other, up to the first error. -/
def thrGo : List Stp → Stp
  | [], l => (0, l)
  | g :: gs, l => if (g l).1 = 0 then thrGo gs (g l).2 else ((g l).1, [])
theorem thr_step {gs : List Stp} {k : Nat} {g : Stp} (h : gs[k]? = some g) (l : List Acc) (h0 : (g l).1 = 0) : thrGo (gs.drop k) l = thrGo (gs.drop (k + 1)) (g l).2 := by
  obtain ⟨hl, e⟩ := List.getElem?_eq_some_iff.1 h
  rw [List.drop_eq_getElem_cons hl, e]
  show (if (g l).1 = 0 then _ else _) = _
  rw [if_pos h0]
theorem thr_stop {gs : List Stp} {k : Nat} {g : Stp} (h : gs[k]? = some g) (l : List Acc) (h0 : (g l).1 ≠ 0) : thrGo (gs.drop k) l = ((g l).1, []) := by
  obtain ⟨hl, e⟩ := List.getElem?_eq_some_iff.1 h
  rw [List.drop_eq_getElem_cons hl, e]
  show (if (g l).1 = 0 then _ else _) = _
  rw [if_neg h0]
set_option maxRecDepth 10000 in
set_option maxHeartbeats 1000000 in
theorem through_any (A : Option Addr) (n c : Nat) (l : List Acc) (B : Option Addr) (m d : Nat) (fs : List Fv) (gs : List Stp) (I : Nat → List Acc → Prop) (w : World) (hA : Row accT w A n l) (hn : n ≤ 100000)
    (hB : Row fnT w B m fs) (hg : gs.length = m) (hI : I 0 l) (hs : ∀ i f g, fs[i]? = some f → gs[i]? = some g → StepAt w f.v g (I i)) (hk : ∀ i g l, gs[i]? = some g → I i l → (g l).1 = 0 → I (i + 1) (g l).2) :
    Calls Tryz.prog 20 #[.slice A n c, .slice B m d] w fun e w' => ∃ v, e = .returned (.tuple #[v, .int .i64 (thrGo gs l).1]) ∧ Rd w' v (thrGo gs l).2 ∧ Bel w w' := by
  have hm63 := hB.2.1
  have HA := hid_ hA
  have HB := hid_ hB
  have HG := hid_ hg
  have HI := hid_ hI
  have HS := hid_ hs
  have HK := hid_ hk
  obtain ⟨rr, hr⟩ : ∃ r, thrGo gs l = r := ⟨_, rfl⟩
  rw [hr]
  have HR := hid_ hr
  clear hA hB hg hI hs hk hr
  go_enter Tryz.func20, Tryz.ntmps20
  go_wp2_with fail
  refine (cloneA_any A n c l w HA.out hn).mono ?_
  rintro e w1 ⟨v1, rfl, o1, b1⟩
  have R1 := hid_ o1.rd
  have B1 := hid_ b1
  clear o1 b1 hn
  go_wp2_with fail
  go_loopw [0, 14] (fun v i wr => ∃ (k : Nat) (lk : List Acc), k ≤ m ∧ i = .int .i64 k ∧ Hid (Rd wr v lk) ∧ Hid (thrGo (gs.drop k) lk = rr) ∧ Hid (I k lk) ∧ Hid (Bel w wr)) (fun _ i _ => m - (intOf i).toNat)
  case atStart => exact ⟨0, l, Nat.zero_le _, rfl, R1, hid_ (by rw [List.drop_zero]; exact HR.out), HI, B1⟩
  case round =>
    obtain ⟨k, lk, hk, rfl, hR, hT, hIk, hW⟩ := hrel
    by_cases hkm : k < m
    · obtain ⟨ad, f, rfl, hf, hc⟩ := (HB.out.bel hW.out).fn hkm
      obtain ⟨g, hg⟩ : ∃ g, gs[k]? = some g := ⟨_, List.getElem?_eq_getElem (by rw [HG.out]; exact hkm)⟩
      obtain ⟨kf, lb, hv, eg, hcall⟩ := HS.out k f g hf hg
      rw [hv] at hc
      obtain ⟨Ak, nk, ck, rfl, hck, rk⟩ := hR.out
      have hcl := hcall wr Ak nk ck lk hW.out rk hck hIk.out
      obtain ⟨re, hre⟩ : ∃ r, (g lk).1 = r := ⟨_, rfl⟩
      obtain ⟨ro, hro⟩ : ∃ r, (g lk).2 = r := ⟨_, rfl⟩
      rw [hre, hro] at hcl
      have HCL := hid_ hcl
      clear hcall hcl hv hf
      by_cases h0 : re = 0
      · have HN := hid_ (HK.out k g lk hg hIk.out (hre.trans h0))
        have HT := hid_ ((thr_step hg lk (hre.trans h0)).symm.trans hT.out)
        rw [hro] at HN HT
        subst h0
        clear hre hro hg rk hR hT hIk
        go_wp2_with (go_at_fn kf; refine HCL.out.mono ?_; rintro e w2 ⟨v2, rfl, r2, b2⟩)
        case roundEnd =>
          go_round
          case rel => exact ⟨k + 1, ro, by omega, by go_num, hid_ r2, HT, HN, hid_ (hW.out.trans b2)⟩
          case measure => simp [intOf]; omega
      · have q : (re != 0) = true := by simp [h0]
        have HF := hid_ ((thr_stop hg lk (by rw [hre]; exact h0)).symm.trans hT.out)
        rw [hre] at HF
        clear hre hro hg rk hR hT hIk h0
        go_wp2_with (go_at_fn kf; refine HCL.out.mono ?_; rintro e w2 ⟨v2, rfl, r2, b2⟩)
        go_ret2
        exact ⟨.slice none 0 0, by rw [← HF.out]; rfl, by rw [← HF.out]; exact Rd.none_ _, hW.out.trans b2⟩
    · obtain rfl : m = k := by omega
      have HF : Hid ((0, lk) = rr) := hid_ (by have h := hT.out; rw [List.drop_of_length_le (by rw [HG.out]; exact Nat.le_refl _)] at h; exact h)
      obtain ⟨Ak, nk, ck, rfl, hck, rk⟩ := hR.out
      have RK := hid_ (And.intro hck rk)
      clear hR hT hIk hkm hk rk hck
      go_wp2
      go_ret2
      exact ⟨_, by rw [← HF.out]; rfl, by rw [← HF.out]; exact ⟨_, _, _, rfl, RK.out.1, RK.out.2⟩, hW.out⟩
end Go.Proofs.YtnpinolhhnpniaaGreat
set_option linter.unusedSimpArgs false
set_option linter.unusedVariables false
namespace Go.Proofs.YtnpinolhhnpniaaGreat
open Go.RowKit Go.Lib
def frS (d : Due) : Stp := fun l => (freE l d, freO l d)
theorem freeGo_thr : ∀ (ds : List Due) (l : List Acc), freeGo ds l = thrGo (ds.map frS) l
  | [], l => rfl
  | d :: ds, l => by
    show (if freE l d = 0 then freeGo ds (freO l d) else (freE l d, [])) = if freE l d = 0 then thrGo (ds.map frS) (freO l d) else (freE l d, [])
    rw [freeGo_thr ds]
theorem sf_0 {l : List Acc} {ds : List Due} (h : grossE ds = 0) : sfE l ds = (thrGo ((grossO ds).map frS) l).1 ∧ sfO l ds = (thrGo ((grossO ds).map frS) l).2 := by
  unfold sfE sfO
  rw [if_pos h, if_pos h, freeGo_thr]
  exact ⟨rfl, rfl⟩
theorem sf_1 {l : List Acc} {ds : List Due} (h : grossE ds ≠ 0) : sfE l ds = grossE ds ∧ sfO l ds = [] := by
  unfold sfE sfO
  rw [if_neg h, if_neg h]
  exact ⟨rfl, rfl⟩
def FrI (l : List Acc) : Prop := Srt l ∧ l.length ≤ 99999
theorem egFree1 : ∀ args w, (callFunc 18 args).run Tryz.prog w = .ok (.enter 18 args) w := enters_of Tryz.func18 (by kernel_rfl) rfl
set_option maxRecDepth 10000 in
theorem free1_at (g : Nat) (d : Due) (w : World) (hk : Bx w g 39 [.string d.who, .string d.asset, .int .i64 d.amount]) (h1 : d.who.size ≤ 9223372036854775807) (h2 : d.asset.size ≤ 9223372036854775807) :
    StepAt w (.func (.func 18) #[] #[.pointer (some ⟨g, 0, none⟩)]) (frS d) FrI := by
  refine ⟨_, _, rfl, egFree1, fun W A n c l hb hA hc hI => ?_⟩
  obtain ⟨d0, d1, d2⟩ := d
  have hk' := hk.bel hb
  have q0 := hk'.cell 0 rfl
  have q1 := hk'.cell 1 rfl
  have q2 := hk'.cell 2 rfl
  have HA := hid_ hA
  have HI := hid_ hI
  have HN := hid_ hA.1
  have HZ := hid_ (And.intro h1 h2)
  obtain ⟨re, hre⟩ : ∃ r, (frS ⟨d0, d1, d2⟩ l).1 = r := ⟨_, rfl⟩
  obtain ⟨ro, hro⟩ : ∃ r, (frS ⟨d0, d1, d2⟩ l).2 = r := ⟨_, rfl⟩
  rw [hre, hro]
  have HC : Hid (Calls Tryz.prog 19 #[.slice A n c, .string d0, .string d1, .int .i64 d2] W fun e w' => ∃ v, e = .returned (.tuple #[v, .int .i64 re]) ∧ Own accT w' W.heap.size v ro ∧ Bel W w') := hid_ (by
    subst hre hro
    exact free_any A n c l d0 d1 d2 W HA.out hc HI.out.1 (by have h := HI.out.2; rw [HN.out] at h; exact h) HZ.out.1 HZ.out.2)
  clear hA hI h1 h2 hk hk' hb hre hro hc
  go_enter Tryz.func18, Tryz.ntmps18
  go_wp2_with fail
  refine HC.out.mono ?_
  rintro e w1 ⟨v1, rfl, o1, b1⟩
  go_wp2
  go_ret2
  exact ⟨v1, rfl, o1.rd, b1⟩
theorem StepAt.mono {w : World} {v : Value} {g : Stp} {I J : List Acc → Prop} (h : StepAt w v g I) (hj : ∀ l, J l → I l) : StepAt w v g J := by
  obtain ⟨k, lb, e, eg, hc⟩ := h
  exact ⟨k, lb, e, eg, fun W A n c l hb hA hn hJ => hc W A n c l hb hA hn (hj l hJ)⟩
/-- Function values that free these dues, each with its due in a box of its own, not the row's. -/
def FrFs (w : World) (row : Option Nat) (fs : List Fv) (ds : List Due) : Prop := fs.length = ds.length ∧ ∀ (i : Nat) (f : Fv) (d : Due), fs[i]? = some f → ds[i]? = some d →
  ∃ g, f.v = .func (.func 18) #[] #[.pointer (some ⟨g, 0, none⟩)] ∧ Bx w g 39 [.string d.who, .string d.asset, .int .i64 d.amount] ∧ row ≠ some g
theorem FrFs.bel {w w1 : World} {row : Option Nat} {fs : List Fv} {ds : List Due} (h : FrFs w row fs ds) (b : Bel w w1) : FrFs w1 row fs ds := ⟨h.1, fun i f d hf hd => by
  obtain ⟨g, e, hk, hne⟩ := h.2 i f d hf hd
  exact ⟨g, e, hk.bel b, hne⟩⟩
theorem FrFs.snoc {w w1 : World} {row row1 : Option Nat} {fs : List Fv} {ds : List Due} {d : Due} {f : Fv} {g : Nat} (h : FrFs w row fs ds) (e : f.v = .func (.func 18) #[] #[.pointer (some ⟨g, 0, none⟩)])
    (hk : Bx w g 39 [.string d.who, .string d.asset, .int .i64 d.amount]) (hne : row ≠ some g) (hg : w.grownBy w1 row) (hr : row1 = row ∨ ∃ b, row1 = some b ∧ w.heap.size ≤ b) : FrFs w1 row1 (fs ++ [f]) (ds ++ [d]) := by
  have key : ∀ (g : Nat) (d : Due), Bx w g 39 [.string d.who, .string d.asset, .int .i64 d.amount] → row ≠ some g → Bx w1 g 39 [.string d.who, .string d.asset, .int .i64 d.amount] ∧ row1 ≠ some g := fun g d hk hn => by
    refine ⟨?_, ?_⟩
    · unfold Bx
      rw [hg.block g hk.lt (fun k => hn k.symm)]
      exact hk
    · rcases hr with rfl | ⟨b, rfl, hb⟩
      · exact hn
      · intro k
        injection k with k
        have := hk.lt
        omega
  refine ⟨by rw [List.length_append, List.length_append, h.1]; rfl, fun i f' d' h1 h2 => ?_⟩
  rcases Nat.lt_trichotomy i fs.length with hi | hi | hi
  · rw [List.getElem?_append_left hi] at h1
    rw [List.getElem?_append_left (by rw [← h.1]; exact hi)] at h2
    obtain ⟨g', e', hk', hn'⟩ := h.2 i f' d' h1 h2
    exact ⟨g', e', (key g' d' hk' hn').1, (key g' d' hk' hn').2⟩
  · subst hi
    rw [List.getElem?_append_right (Nat.le_refl _), Nat.sub_self] at h1
    rw [List.getElem?_append_right (by rw [h.1]; exact Nat.le_refl _), h.1, Nat.sub_self] at h2
    injection h1 with h1
    injection h2 with h2
    subst h1 h2
    exact ⟨g, e, (key g d hk hne).1, (key g d hk hne).2⟩
  · rw [List.getElem?_append_right (by omega)] at h1
    obtain ⟨z, hz⟩ : ∃ z, i - fs.length = z + 1 := ⟨i - fs.length - 1, by omega⟩
    rw [hz] at h1
    cases h1
theorem take_snoc {α : Type} {l : List α} {k : Nat} {x : α} (h : l[k]? = some x) : l.take (k + 1) = l.take k ++ [x] := by
  rw [List.take_add_one, h]
  rfl
def FiI (n : Nat) (i : Nat) (l : List Acc) : Prop := OkL l ∧ BalI l ∧ l.length ≤ n + i
set_option maxRecDepth 10000 in
set_option maxHeartbeats 1000000 in
theorem sfree_any (A : Option Addr) (n c : Nat) (l : List Acc) (B : Option Addr) (m d : Nat) (ds : List Due) (w : World) (hA : Row accT w A n l) (hl : OkL l) (hb : BalI l) (hn : n ≤ 9000) (hB : Row dueT w B m ds) (hm : m ≤ 9000)
    (hz : ∀ x ∈ ds, x.who.size ≤ 9223372036854775807 ∧ x.asset.size ≤ 9223372036854775807 ∧ i64w' x.amount) (hgz : ∀ x ∈ grossO ds, x.who.size ≤ 9223372036854775807 ∧ x.asset.size ≤ 9223372036854775807) :
    Calls Tryz.prog 6 #[.slice A n c, .slice B m d] w fun e w' => ∃ v, e = .returned (.tuple #[v, .int .i64 (sfE l ds)]) ∧ Rd w' v (sfO l ds) ∧ Bel w w' := by
  have HA := hid_ hA
  have HL := hid_ (And.intro hl hb)
  have HN := hid_ hn
  have HB := hid_ hB
  have HM := hid_ hm
  have HZ := hid_ hz
  have HGZ := hid_ hgz
  have HGL : Hid ((grossO ds).length ≤ m) := hid_ (by
    have h0 := hB.1
    by_cases h : grossE ds = 0
    · rw [(gross_ok h).2]
      have h1 := net_len (owedL ds)
      have h2 := owedL_len ds
      omega
    · unfold grossO
      split
      · simp
      · exact Nat.le_trans (net_len _) (by have h2 := owedL_len ds; omega))
  have HG64 : Hid (∀ x ∈ grossO ds, x.amount ≤ 9223372036854775807) := hid_ (fun x hx => (by
      unfold grossO at hx
      split at hx
      · cases hx
      · exact (net_i64 hx).2))
  obtain ⟨re, hre⟩ : ∃ r, sfE l ds = r := ⟨_, rfl⟩
  obtain ⟨ro, hro⟩ : ∃ r, sfO l ds = r := ⟨_, rfl⟩
  rw [hre, hro]
  have HR := hid_ (And.intro hre hro)
  clear hA hl hb hn hB hm hz hgz hre hro
  go_enter Tryz.func6, Tryz.ntmps6
  go_wp2_with fail
  refine (gross_any B m d ds w HB.out (Nat.le_trans HM.out (by omega)) HZ.out).mono ?_
  rintro e w1 ⟨v1, rfl, o1, b1⟩
  by_cases hg : grossE ds = 0
  · have HE := hid_ (sf_0 (l := l) hg)
    rw [hg]
    clear hg
    obtain ⟨gs, hgs⟩ : ∃ gs, grossO ds = gs := ⟨_, rfl⟩
    rw [hgs] at HE HGL HG64 HGZ o1
    obtain ⟨gn, hgn⟩ : ∃ gn, gs.length = gn := ⟨_, rfl⟩
    have HLN := hid_ hgn
    obtain ⟨G, cg, rfl, hcg, rg⟩ := o1.reads
    rw [hgn] at HGL rg hcg ⊢
    have hgn63 := rg.2.1
    have RG := hid_ rg
    have B1 := hid_ b1
    clear rg b1 o1 hcg hgs hgn
    go_wp2_with fail
    go_loopw [8, 21] (fun v i wr => ∃ (j : Nat) (fs : List Fv), j ≤ gn ∧ i = .int .i64 j ∧ Hid (Own fnT wr w1.heap.size v fs) ∧ Hid (FrFs wr v.ownBlock fs (gs.take j)) ∧ Hid (Bel w1 wr)) (fun _ i _ => gn - (intOf i).toNat)
    case atStart => exact ⟨0, [], Nat.zero_le _, rfl, hid_ (Own.nil_ _ _ _), hid_ ⟨by simp, fun i f d h => by cases h⟩, hid_ (Bel.refl _)⟩
    case round =>
      obtain ⟨j, fs, hj, rfl, hO, hF, hW⟩ := hrel
      by_cases hjn : j < gn
      · obtain ⟨ad, g0, g1, g2, rfl, ho, d0, d1, d2⟩ := (RG.out.bel hW.out).due hjn
        have HT := hid_ (take_snoc ho)
        have HSZ := hid_ (HGZ.out _ (List.mem_of_getElem? ho))
        have i1 : (j : Int) < (gn : Int) := by omega
        have k1 := hid_ (Bx.new wr 39 [.string g0, .string g1, .int .i64 g2])
        have hne := fun k => Nat.lt_irrefl _ (World.ownsRow.lt hO.out wr.heap.size k).2
        have HNE := hid_ hne
        clear hne
        have B2 := hid_ (hW.out.alloc (.cells #[.string g0, .string g1, .int .i64 g2] 39))
        have O1 := hid_ (hO.out.alloc_ (.cells #[.string g0, .string g1, .int .i64 g2] 39))
        have F1 := hid_ (hF.out.bel ((Bel.refl wr).alloc (.cells #[.string g0, .string g1, .int .i64 g2] 39)))
        clear ho hO hF hW
        go_upto_region 8 with (fail)
        generalize wr.alloc (.cells #[.string g0, .string g1, .int .i64 g2] 39) = W1 at k1 B2 O1 F1 ⊢
        generalize wr.heap.size = gG at k1 HNE ⊢
        clear d0 d1 d2
        have HFL : Hid (fs.length ≤ 9000) := hid_ (by rw [F1.out.1, List.length_take]; have h1 := HGL.out; have h2 := HM.out; omega)
        go_wp2_with (at_builtin; refine wpApp (w0 := w1) fnS rfl _ _ rfl _ fs [⟨.func (.func 18) #[] #[.pointer (some ⟨gG, 0, none⟩)], rfl⟩] (some ⟨W1.heap.size, 0, none⟩) 1 1 rfl rfl (O1.out.alloc_ _) (Row.one (T := fnT) ⟨.func (.func 18) #[] #[.pointer (some ⟨gG, 0, none⟩)], rfl⟩ rfl rfl) (B2.out.alloc _) (by have h := HFL.out; omega) ?_; intro v1 x1 hO1 hb1 hg1 hat1)
        case roundEnd =>
          have hF1 := FrFs.snoc (f := ⟨.func (.func 18) #[] #[.pointer (some ⟨gG, 0, none⟩)], rfl⟩) (d := ⟨g0, g1, g2⟩) (F1.out.bel ((Bel.refl W1).alloc _)) rfl (k1.out.alloc _) HNE.out hg1 hat1
          rw [← HT.out] at hF1
          go_round
          case rel => exact ⟨j + 1, _, by omega, by go_num, hid_ hO1, hid_ hF1, hid_ hb1⟩
          case measure => simp [intOf]; omega
      · obtain rfl : gn = j := by omega
        have hF2 := hF.out
        rw [List.take_of_length_le (by rw [HLN.out]; exact Nat.le_refl _)] at hF2
        obtain ⟨X, k, rfl, hk, rx⟩ := hO.out.reads
        have HFL : fs.length = gn := by rw [hF2.1]; exact HLN.out
        rw [HFL] at rx hk ⊢
        have HTH := hid_ (through_any A n c l X gn k fs (gs.map frS) (FiI n) wr ((HA.out.bel B1.out).bel hW.out) (Nat.le_trans HN.out (by omega)) rx (by rw [List.length_map]; exact HLN.out)
          ⟨HL.out.1, HL.out.2, by rw [HA.out.1]; exact Nat.le_refl _⟩
          (fun i f g h1 h2 => by
            rw [List.getElem?_map] at h2
            obtain ⟨x, hx, rfl⟩ := Option.map_eq_some_iff.1 h2
            obtain ⟨gg, ee, kk, _⟩ := hF2.2 i f x h1 hx
            have hs := HGZ.out x (List.mem_of_getElem? hx)
            rw [ee]
            refine (free1_at gg x wr kk hs.1 hs.2).mono (fun l hl => ⟨hl.1.srt, ?_⟩)
            have h3 := (List.getElem?_eq_some_iff.1 hx).1
            have h4 := hl.2.2
            have h5 := HN.out
            have h6 := HM.out
            have h7 := HGL.out
            have h8 := HLN.out
            omega)
          (fun i g l h1 h2 h3 => by
            rw [List.getElem?_map] at h1
            obtain ⟨x, hx, rfl⟩ := Option.map_eq_some_iff.1 h1
            obtain ⟨k1, k2, _⟩ := free_step h2.1 h2.2.1 (HG64.out _ (List.mem_of_getElem? hx)) h3
            exact ⟨k1, k2, Nat.le_trans (freO_len l x) (by have h := h2.2.2; omega)⟩))
        have HW := hid_ (B1.out.trans hW.out)
        clear hO hF hF2 hk rx hjn hj hW
        go_wp2_with fail
        refine HTH.out.mono ?_
        rintro e w3 ⟨v3, rfl, r3, b3⟩
        go_wp2
        go_ret2
        exact ⟨v3, by rw [← HR.out.1, HE.out.1]; rfl, by rw [← HR.out.2, HE.out.2]; exact r3, HW.out.trans b3⟩
  · have HE := hid_ (sf_1 (l := l) hg)
    have q : (grossE ds != 0) = true := by simp [hg]
    have HQ := hid_ b1
    clear o1 b1
    obtain ⟨ge, hge⟩ : ∃ r, grossE ds = r := ⟨_, rfl⟩
    rw [hge] at q HE hg ⊢
    clear hge
    go_wp2
    go_ret2
    exact ⟨.slice none 0 0, by rw [← HR.out.1, HE.out.1]; rfl, by rw [← HR.out.2, HE.out.2]; exact Rd.none_ _, HQ.out⟩
end Go.Proofs.YtnpinolhhnpniaaGreat
set_option linter.unusedSimpArgs false
set_option linter.unusedVariables false
namespace Go.Proofs.YtnpinolhhnpniaaGreat
open Go.RowKit Go.Lib
def poS (legs : List Due) : Stp := fun l => (poE l legs, poO l legs)
def PoI (l : List Acc) : Prop := Srt l ∧ l.length ≤ 90000 ∧ ∀ a ∈ l, i64w a.balance
theorem egPost1 : ∀ args w, (callFunc 51 args).run Tryz.prog w = .ok (.enter 51 args) w := enters_of Tryz.func51 (by kernel_rfl) rfl
theorem po_0 {l : List Acc} {legs : List Due} (h : legs = []) : poE l legs = 0 ∧ poO l legs = l := by
  unfold poE poO
  rw [if_pos h, if_pos h]
  exact ⟨rfl, rfl⟩
theorem po_1 {l : List Acc} {legs : List Due} (h : legs ≠ []) : poE l legs = postE l legs ∧ poO l legs = postO l legs := by
  unfold poE poO
  rw [if_neg h, if_neg h]
  exact ⟨rfl, rfl⟩
set_option maxRecDepth 10000 in
theorem post1_at (g : Nat) (B : Option Addr) (m d : Nat) (legs : List Due) (w : World) (hk : Bx w g 29 [.slice B m d]) (hB : Row legT w B m legs) (hz : ∀ x ∈ legs, x.who.size ≤ 9223372036854775807 ∧ x.asset.size ≤ 9223372036854775807 ∧ i64w x.amount) :
    StepAt w (.func (.func 51) #[] #[.pointer (some ⟨g, 0, none⟩)]) (poS legs) PoI := by
  refine ⟨_, _, rfl, egPost1, fun W A n c l hb hA hc hI => ?_⟩
  have hk' := hk.bel hb
  have q0 := hk'.cell 0 rfl
  have HA := hid_ hA
  have HN := hid_ hA.1
  obtain ⟨re, hre⟩ : ∃ r, (poS legs l).1 = r := ⟨_, rfl⟩
  obtain ⟨ro, hro⟩ : ∃ r, (poS legs l).2 = r := ⟨_, rfl⟩
  rw [hre, hro]
  have hm63 := hB.2.1
  have hlen := hB.1
  by_cases h0 : m = 0
  · subst h0
    have hnil : legs = [] := List.eq_nil_of_length_eq_zero hlen
    have HF : Hid (re = 0 ∧ ro = l) := hid_ ⟨hre.symm.trans (po_0 hnil).1, hro.symm.trans (po_0 hnil).2⟩
    have HC := hid_ hc
    clear hA hI hk hk' hb hre hro hc hB hlen hz hnil
    go_enter Tryz.func51, Tryz.ntmps51
    go_wp2
    go_ret2
    exact ⟨_, by rw [HF.out.1]; rfl, ⟨A, n, c, rfl, HC.out, by rw [HF.out.2]; exact HA.out⟩, Bel.refl _⟩
  · have hne : legs ≠ [] := fun k => h0 (by rw [← hlen, k]; rfl)
    have HC : Hid (Calls Tryz.prog 52 #[.slice A n c, .slice B m d] W fun e w' => ∃ v, e = .returned (.tuple #[v, .int .i64 re]) ∧ Own accT w' W.heap.size v ro ∧ Bel W w') := hid_ (by
      have e1 : re = postE l legs := hre.symm.trans (po_1 hne).1
      have e2 : ro = postO l legs := hro.symm.trans (po_1 hne).2
      rw [e1, e2]
      exact post_any A n c l B m d legs W hA hI.1 (by have h := hI.2.1; rw [hA.1] at h; exact h) (hB.bel hb) hz hI.2.2)
    have q : ((m : Int) == 0) = false := by simp [h0]
    clear hA hI hk hk' hb hre hro hc hB hlen hz hne h0
    go_enter Tryz.func51, Tryz.ntmps51
    go_wp2_with fail
    refine HC.out.mono ?_
    rintro e w1 ⟨v1, rfl, o1, b1⟩
    go_wp2
    go_ret2
    exact ⟨v1, rfl, o1.rd, b1⟩
set_option maxRecDepth 10000 in
theorem spost_any (B : Option Addr) (m d : Nat) (w : World) :
    Calls Tryz.prog 29 #[.slice B m d] w fun e w' => ∃ g, e = .returned (.func (.func 51) #[] #[.pointer (some ⟨g, 0, none⟩)]) ∧ Bx w' g 29 [.slice B m d] ∧ Bel w w' := by
  have K := hid_ (Bx.new w 29 [.slice B m d])
  have HB := hid_ ((Bel.refl w).alloc (.cells #[.slice B m d] 29))
  go_enter Tryz.func29, Tryz.ntmps29
  go_wp2
  go_ret
  exact ⟨_, rfl, K.out, HB.out⟩
set_option maxRecDepth 10000 in
theorem slegs_any (B : Option Addr) (m d : Nat) (ds : List Due) (w : World) (hB : Row dueT w B m ds) (hm : m ≤ 9000)
    (hz : ∀ x ∈ ds, x.who.size ≤ 9223372036854775807 ∧ x.asset.size ≤ 9223372036854775807 ∧ i64w' x.amount) :
    Calls Tryz.prog 8 #[.slice B m d] w fun e w' => ∃ v, e = .returned (.tuple #[v, .int .i64 (slE ds)]) ∧ Own legT w' w.heap.size v (slO ds) ∧ Bel w w' := by
  have HB := hid_ hB
  have HM := hid_ hm
  have HZ := hid_ hz
  have HNL : Hid ((netO ds).length ≤ m) := hid_ (by have h := net_len ds; rw [hB.1] at h; exact h)
  obtain ⟨re, hre⟩ : ∃ r, slE ds = r := ⟨_, rfl⟩
  obtain ⟨ro, hro⟩ : ∃ r, slO ds = r := ⟨_, rfl⟩
  rw [hre, hro]
  have HR := hid_ (And.intro hre hro)
  clear hB hm hz hre hro
  have bad : ∀ x : Int, slE ds = x → x ≠ 0 → slO ds = [] := fun x h k => by unfold slO; rw [if_neg (by rw [h]; exact k)]
  have HBAD := hid_ bad
  clear bad
  go_enter Tryz.func8, Tryz.ntmps8
  go_wp2_with fail
  refine (zero_any B m d ds w HB.out (Nat.le_trans HM.out (by omega)) HZ.out).mono ?_
  rintro e w1 ⟨rfl, b1⟩
  have B1 := hid_ b1
  clear b1
  obtain ⟨zb, hzb⟩ : ∃ b, zeroB ds = b := ⟨_, rfl⟩
  rw [hzb]
  have HZB := hid_ hzb
  clear hzb
  cases zb
  · have h1 : slE ds = 120 := by unfold slE; rw [HZB.out]; rfl
    have HF : Hid (re = 120 ∧ ro = []) := hid_ ⟨HR.out.1.symm.trans h1, HR.out.2.symm.trans (HBAD.out _ h1 (by decide))⟩
    clear h1
    go_wp2
    go_ret2
    exact ⟨.slice none 0 0, by rw [HF.out.1]; rfl, by rw [HF.out.2]; exact Own.nil_ _ _ _, B1.out⟩
  · have h1 : slE ds = if netE ds = 0 then (if 200 < (netO ds).length then 120 else 0) else netE ds := by unfold slE; rw [HZB.out]; rfl
    have H1 := hid_ h1
    clear h1
    go_wp2_with fail
    refine (net_any B m d ds w1 (HB.out.bel B1.out) (Nat.le_trans HM.out (by omega)) HZ.out).mono ?_
    rintro e w2 ⟨v2, rfl, o2, b2⟩
    have B2 := hid_ (B1.out.trans b2)
    by_cases hn : netE ds = 0
    · rw [hn]
      obtain ⟨X, k, rfl, hk, rx⟩ := o2.reads
      have HX := hid_ rx
      obtain ⟨nn, hnn⟩ : ∃ r, (netO ds).length = r := ⟨_, rfl⟩
      rw [hnn] at HX hk HNL ⊢
      by_cases hlt : 200 < nn
      · have h2 : slE ds = 120 := by rw [H1.out, if_pos hn, hnn, if_pos hlt]
        have HF : Hid (re = 120 ∧ ro = []) := hid_ ⟨HR.out.1.symm.trans h2, HR.out.2.symm.trans (HBAD.out _ h2 (by decide))⟩
        have hlt' : (200 : Int) < (nn : Int) := by omega
        clear h2 hn rx o2 b2 hnn hk
        go_wp2
        go_ret2
        exact ⟨.slice none 0 0, by rw [HF.out.1]; rfl, by rw [HF.out.2]; exact Own.nil_ _ _ _, B2.out⟩
      · have h2 : slE ds = 0 := by rw [H1.out, if_pos hn, hnn, if_neg hlt]
        have HF : Hid (re = 0 ∧ ro = netO ds) := hid_ ⟨HR.out.1.symm.trans h2, HR.out.2.symm.trans (by unfold slO; rw [if_pos h2])⟩
        have hlt' : ¬ (200 : Int) < (nn : Int) := by omega
        have hn63 := HX.out.2.1
        have HSZ := hid_ ((Bel.refl w).trans B2.out).size
        clear h2 hn rx o2 b2 hnn hk
        go_wp2_with fail
        refine (legs_any X nn k (netO ds) w2 HX.out (Nat.le_trans HNL.out (Nat.le_trans HM.out (by omega)))).mono ?_
        rintro e w3 ⟨v3, rfl, o3, b3⟩
        have O3 := hid_ (o3.mono_ HSZ.out)
        have B3 := hid_ (B2.out.trans b3)
        clear o3 b3
        go_wp2
        go_ret2
        exact ⟨v3, by rw [HF.out.1]; rfl, by rw [HF.out.2]; exact O3.out, B3.out⟩
    · have h2 : slE ds = netE ds := by rw [H1.out, if_neg hn]
      have HF : Hid (re = netE ds ∧ ro = []) := hid_ ⟨HR.out.1.symm.trans h2, HR.out.2.symm.trans (HBAD.out _ h2 hn)⟩
      obtain ⟨ne, hne⟩ : ∃ r, netE ds = r := ⟨_, rfl⟩
      rw [hne] at hn HF ⊢
      have q : (ne != 0) = true := by simp [hn]
      clear h2 o2 b2 hne
      go_wp2
      go_ret2
      exact ⟨.slice none 0 0, by rw [HF.out.1]; rfl, by rw [HF.out.2]; exact Own.nil_ _ _ _, B2.out⟩
end Go.Proofs.YtnpinolhhnpniaaGreat
set_option linter.unusedSimpArgs false
set_option linter.unusedVariables false
namespace Go.Proofs.YtnpinolhhnpniaaGreat
open Go.RowKit Go.Lib
/-- What dues have to be for these walks. -/
structure DueI (ds : List Due) : Prop where
  len : ds.length ≤ 9000
  sz : ∀ x ∈ ds, x.who.size ≤ 9223372036854775807 ∧ x.asset.size ≤ 9223372036854775807 ∧ i64w' x.amount
theorem DueI.gross {ds : List Due} (h : DueI ds) : ∀ x ∈ grossO ds, x.who.size ≤ 9223372036854775807 ∧ x.asset.size ≤ 9223372036854775807 := by
  intro x hx
  unfold grossO at hx
  split at hx
  · cases hx
  · obtain ⟨d, hd, e1, e2⟩ := net_mem hx
    obtain ⟨d', hd', _, e'⟩ := owed_mem hd
    have hs := h.sz d' hd'
    subst e'
    rw [← e1, ← e2]
    exact ⟨hs.1, hs.2.1⟩
theorem DueI.net {ds : List Due} (h : DueI ds) : ∀ x ∈ netO ds, x.who.size ≤ 9223372036854775807 ∧ x.asset.size ≤ 9223372036854775807 ∧ i64w x.amount := by
  intro x hx
  obtain ⟨d, hd, e1, e2⟩ := net_mem hx
  have hs := h.sz d hd
  rw [← e1, ← e2]
  exact ⟨hs.1, hs.2.1, net_i64 hx⟩
theorem sfO_len (l : List Acc) (ds : List Due) : (sfO l ds).length ≤ l.length + ds.length := by
  unfold sfO
  split
  · refine Nat.le_trans (freeGo_len _ _) ?_
    have : (grossO ds).length ≤ ds.length := by
      unfold grossO
      split
      · simp
      · exact Nat.le_trans (net_len _) (owedL_len ds)
    omega
  · simp
theorem sf_poI {l : List Acc} {ds : List Due} (hl : OkL l) (hb : BalI l) (h : sfE l ds = 0) (hn : l.length ≤ 9000) (hm : ds.length ≤ 9000) : PoI (sfO l ds) := by
  obtain ⟨m, _⟩ := moved_free hl hb h
  exact ⟨m.ok.srt, by have := sfO_len l ds; omega, m.bal⟩
theorem thr_one (f : Stp) (l : List Acc) (h : (f l).1 ≠ 0 → (f l).2 = []) : thrGo [f] l = f l := by
  show (if (f l).1 = 0 then ((0 : Int), (f l).2) else ((f l).1, [])) = f l
  split
  · rename_i h0; exact Prod.ext h0.symm rfl
  · rename_i h0; exact Prod.ext rfl (h h0).symm
theorem poS_bad (legs : List Due) (l : List Acc) (hs : Srt l) (h : (poS legs l).1 ≠ 0) : (poS legs l).2 = [] := by
  by_cases h0 : legs = []
  · exact absurd (po_0 h0).1 h
  · have h1 := (po_1 (l := l) h0)
    show poO l legs = []
    rw [h1.2]
    have h2 : postE l legs ≠ 0 := by rw [← h1.1]; exact h
    exact postO_err hs h2
def sfS (ds : List Due) : Stp := fun l => (sfE l ds, sfO l ds)
theorem sfS_bad (ds : List Due) (l : List Acc) (h : (sfS ds l).1 ≠ 0) : (sfS ds l).2 = [] := by
  show sfO l ds = []
  have h' : sfE l ds ≠ 0 := h
  unfold sfE at h'
  unfold sfO
  by_cases hg : grossE ds = 0
  · rw [if_pos hg] at h' ⊢
    exact freeGo_err _ _ h'
  · rw [if_neg hg]
theorem st_0 {l : List Acc} {ds : List Due} (h : sfE l ds ≠ 0) : stE l ds = sfE l ds ∧ stO l ds = [] ∧ stL l ds = [] := by
  have h1 : stE l ds = sfE l ds := by unfold stE; rw [if_neg h]
  unfold stO stL
  rw [h1, if_neg h, if_neg h]
  exact ⟨rfl, rfl, rfl⟩
theorem st_1 {l : List Acc} {ds : List Due} (h : sfE l ds = 0) (h2 : slE ds ≠ 0) : stE l ds = slE ds ∧ stO l ds = [] ∧ stL l ds = [] := by
  have h1 : stE l ds = slE ds := by unfold stE; rw [if_pos h, if_neg h2]
  unfold stO stL
  rw [h1, if_neg h2, if_neg h2]
  exact ⟨rfl, rfl, rfl⟩
theorem st_2 {l : List Acc} {ds : List Due} (hs : Srt (sfO l ds)) (h : sfE l ds = 0) (h2 : slE ds = 0) : stE l ds = (poS (slO ds) (sfO l ds)).1 ∧ stO l ds = (poS (slO ds) (sfO l ds)).2 ∧ ((poS (slO ds) (sfO l ds)).1 = 0 → stL l ds = slO ds) ∧ ((poS (slO ds) (sfO l ds)).1 ≠ 0 → stL l ds = [] ∧ stO l ds = []) := by
  have h1 : stE l ds = (poS (slO ds) (sfO l ds)).1 := by unfold stE; rw [if_pos h, if_pos h2]; rfl
  refine ⟨h1, ?_, ?_, ?_⟩
  · unfold stO
    rw [h1]
    by_cases k : (poS (slO ds) (sfO l ds)).1 = 0
    · rw [if_pos k]; rfl
    · rw [if_neg k, poS_bad _ _ hs k]
  · intro k
    unfold stL
    rw [h1, if_pos k]
  · intro k
    unfold stL stO
    rw [h1, if_neg k, if_neg k]
    exact ⟨rfl, rfl⟩
theorem one_at {α : Type} {x y : α} {i : Nat} (h : [x][i]? = some y) : i = 0 ∧ y = x := by
  cases i with
  | zero => injection h with h; exact ⟨rfl, h.symm⟩
  | succ i => cases h
set_option maxRecDepth 10000 in
set_option maxHeartbeats 1000000 in
theorem settle_any (A : Option Addr) (n c : Nat) (l : List Acc) (B : Option Addr) (m d : Nat) (ds : List Due) (w : World) (hA : Row accT w A n l) (hl : OkL l) (hb : BalI l) (hn : n ≤ 9000) (hB : Row dueT w B m ds) (hD : DueI ds) :
    Calls Tryz.prog 10 #[.slice A n c, .slice B m d] w fun e w' => ∃ v u, e = .returned (.tuple #[v, u, .int .i64 (stE l ds)]) ∧ Rd w' v (stO l ds) ∧ Own legT w' w.heap.size u (stL l ds) ∧ Bel w w' := by
  have HA := hid_ hA
  have HL := hid_ (And.intro hl (And.intro hb hn))
  have HB := hid_ hB
  have HD := hid_ hD
  have HM : Hid (m ≤ 9000) := hid_ (by rw [← hB.1]; exact hD.len)
  obtain ⟨re, hre⟩ : ∃ r, stE l ds = r := ⟨_, rfl⟩
  obtain ⟨ro, hro⟩ : ∃ r, stO l ds = r := ⟨_, rfl⟩
  obtain ⟨rl, hrl⟩ : ∃ r, stL l ds = r := ⟨_, rfl⟩
  rw [hre, hro, hrl]
  have HR := hid_ (And.intro hre (And.intro hro hrl))
  clear hA hl hb hn hB hD hre hro hrl
  go_enter Tryz.func10, Tryz.ntmps10
  go_wp2_with fail
  refine (sfree_any A n c l B m d ds w HA.out HL.out.1 HL.out.2.1 HL.out.2.2 HB.out HM.out HD.out.sz HD.out.gross).mono ?_
  rintro e w1 ⟨v1, rfl, r1, b1⟩
  have R1 := hid_ r1
  have B1 := hid_ b1
  clear r1 b1
  by_cases h1 : sfE l ds = 0
  · rw [h1]
    have H1 := hid_ h1
    clear h1
    go_wp2_with fail
    refine (slegs_any B m d ds w1 (HB.out.bel B1.out) HM.out HD.out.sz).mono ?_
    rintro e w2 ⟨v2, rfl, o2, b2⟩
    have B2 := hid_ (B1.out.trans b2)
    have R2 := hid_ (R1.out.bel b2)
    have O2 := hid_ (o2.mono_ B1.out.size_)
    clear o2 b2 R1
    by_cases h2 : slE ds = 0
    · rw [h2]
      have HPI := hid_ (sf_poI HL.out.1 HL.out.2.1 H1.out (by rw [HA.out.1]; exact HL.out.2.2) HD.out.len)
      have HE := hid_ (st_2 HPI.out.1 H1.out h2)
      have H2 := hid_ h2
      clear h2
      obtain ⟨A1, n1, c1, rfl, hc1, ra⟩ := R2.out
      have RA := hid_ ra
      have HN1 : Hid (n1 ≤ 18000) := hid_ (by have h := sfO_len l ds; rw [ra.1, HA.out.1] at h; have h2 := HL.out.2.2; have h3 := HD.out.len; omega)
      obtain ⟨X, k, rfl, hk, rx⟩ := O2.out.reads
      obtain ⟨q, hq⟩ : ∃ q, (slO ds).length = q := ⟨_, rfl⟩
      rw [hq] at rx hk O2 ⊢
      have RX := hid_ rx
      clear ra rx hq
      go_wp2_with fail
      refine (spost_any X q k w2).mono ?_
      rintro e w3 ⟨g, rfl, kg, b3⟩
      have B3 := hid_ (B2.out.trans b3)
      have hS := post1_at g X q k (slO ds) w3 kg (RX.out.bel b3) (fun x hx => HD.out.net x (by have h := hx; unfold slO at h; rw [if_pos H2.out] at h; exact h))
      have O3 := hid_ (O2.out.bel b3)
      have RA3 := hid_ (RA.out.bel b3)
      have HT := hid_ (through_any A1 n1 c1 (sfO l ds) (some ⟨w3.heap.size, 0, none⟩) 1 1 [⟨.func (.func 51) #[] #[.pointer (some ⟨g, 0, none⟩)], rfl⟩] [poS (slO ds)] (fun i l => i = 0 → PoI l)
        (w3.alloc (.cells #[.func (.func 51) #[] #[.pointer (some ⟨g, 0, none⟩)]] 49)) (RA3.out.bel ((Bel.refl w3).alloc _)) (Nat.le_trans HN1.out (by omega)) (Row.one (T := fnT) ⟨.func (.func 51) #[] #[.pointer (some ⟨g, 0, none⟩)], rfl⟩ rfl rfl) rfl (fun _ => HPI.out)
        (fun i f g h1 h2 => by
          obtain ⟨rfl, rfl⟩ := one_at h1
          obtain ⟨_, rfl⟩ := one_at h2
          exact (hS.bel ((Bel.refl w3).alloc _)).mono (fun l h => h rfl))
        (fun i g l _ _ _ h => absurd h (by omega)))
      rw [thr_one _ _ (poS_bad (slO ds) (sfO l ds) HPI.out.1)] at HT
      clear hS kg b3
      go_wp2_with fail
      refine HT.out.mono ?_
      rintro e w4 ⟨v4, rfl, r4, b4⟩
      have R4 := hid_ r4
      have B4 := hid_ (B3.out.trans (((Bel.refl w3).alloc _).trans b4))
      have O4 := hid_ (O3.out.bel (((Bel.refl w3).alloc _).trans b4))
      clear r4 b4 HT
      obtain ⟨pe, hpe⟩ : ∃ r, (poS (slO ds) (sfO l ds)).1 = r := ⟨_, rfl⟩
      obtain ⟨po, hpo⟩ : ∃ r, (poS (slO ds) (sfO l ds)).2 = r := ⟨_, rfl⟩
      rw [hpe, hpo] at HE
      rw [hpe]
      rw [hpo] at R4
      clear hpe hpo
      by_cases h3 : pe = 0
      · have HF : Hid (re = 0 ∧ ro = po ∧ rl = slO ds) := hid_ ⟨by rw [← HR.out.1, HE.out.1, h3], by rw [← HR.out.2.1, HE.out.2.1], by rw [← HR.out.2.2, HE.out.2.2.1 h3]⟩
        subst h3
        clear HE
        go_wp2
        go_ret3
        exact ⟨v4, _, by rw [HF.out.1]; rfl, by rw [HF.out.2.1]; exact R4.out, by rw [HF.out.2.2]; exact O4.out, B4.out⟩
      · have HF : Hid (re = pe ∧ ro = [] ∧ rl = []) := hid_ ⟨by rw [← HR.out.1, HE.out.1], by rw [← HR.out.2.1, (HE.out.2.2.2 h3).2], by rw [← HR.out.2.2, (HE.out.2.2.2 h3).1]⟩
        have q : (pe != 0) = true := by simp [h3]
        clear HE h3
        go_wp2
        go_ret3
        exact ⟨.slice none 0 0, .slice none 0 0, by rw [HF.out.1]; rfl, by rw [HF.out.2.1]; exact Rd.none_ _, by rw [HF.out.2.2]; exact Own.nil_ _ _ _, B4.out⟩
    · have HE := hid_ (st_1 H1.out h2)
      obtain ⟨pe, hpe⟩ : ∃ r, slE ds = r := ⟨_, rfl⟩
      rw [hpe] at HE h2 ⊢
      have q : (pe != 0) = true := by simp [h2]
      have HF : Hid (re = pe ∧ ro = [] ∧ rl = []) := hid_ ⟨HR.out.1.symm.trans HE.out.1, HR.out.2.1.symm.trans HE.out.2.1, HR.out.2.2.symm.trans HE.out.2.2⟩
      clear h2 hpe
      go_wp2
      go_ret3
      exact ⟨.slice none 0 0, .slice none 0 0, by rw [HF.out.1]; rfl, by rw [HF.out.2.1]; exact Rd.none_ _, by rw [HF.out.2.2]; exact Own.nil_ _ _ _, B2.out⟩
  · have HE := hid_ (st_0 h1)
    obtain ⟨pe, hpe⟩ : ∃ r, sfE l ds = r := ⟨_, rfl⟩
    rw [hpe] at HE h1 ⊢
    have q : (pe != 0) = true := by simp [h1]
    have HF : Hid (re = pe ∧ ro = [] ∧ rl = []) := hid_ ⟨HR.out.1.symm.trans HE.out.1, HR.out.2.1.symm.trans HE.out.2.1, HR.out.2.2.symm.trans HE.out.2.2⟩
    clear h1 hpe
    go_wp2
    go_ret3
    exact ⟨.slice none 0 0, .slice none 0 0, by rw [HF.out.1]; rfl, by rw [HF.out.2.1]; exact Rd.none_ _, by rw [HF.out.2.2]; exact Own.nil_ _ _ _, B1.out⟩
/-- Two steps. -/
theorem thr_two (f g : Stp) (l : List Acc) (h : (g (f l).2).1 ≠ 0 → (g (f l).2).2 = []) : thrGo [f, g] l = if (f l).1 = 0 then g (f l).2 else ((f l).1, []) := by
  show (if (f l).1 = 0 then thrGo [g] (f l).2 else ((f l).1, [])) = _
  rw [thr_one g _ h]
theorem sg_0 {l : List Acc} {ds : List Due} (h : zeroB ds = false) : sgE l ds = 120 ∧ sgO l ds = [] := by
  have h1 : sgE l ds = 120 := by unfold sgE; rw [h]; rfl
  unfold sgO
  rw [h1]
  exact ⟨rfl, rfl⟩
theorem sg_1 {l : List Acc} {ds : List Due} (h : zeroB ds = true) (hs : sfE l ds = 0 → Srt (sfO l ds)) : sgE l ds = (thrGo [sfS ds, poS ds] l).1 ∧ sgO l ds = (thrGo [sfS ds, poS ds] l).2 := by
  have h1 : sgE l ds = if sfE l ds = 0 then poE (sfO l ds) ds else sfE l ds := by unfold sgE; rw [h]; rfl
  unfold sgO
  rw [h1]
  by_cases k : sfE l ds = 0
  · rw [thr_two _ _ _ (fun h => poS_bad ds (sfO l ds) (hs k) h), if_pos k, if_pos (show (sfS ds l).1 = 0 from k)]
    refine ⟨rfl, ?_⟩
    by_cases k2 : poE (sfO l ds) ds = 0
    · rw [if_pos k2]; rfl
    · rw [if_neg k2]; exact (poS_bad ds (sfO l ds) (hs k) k2).symm
  · have e : thrGo [sfS ds, poS ds] l = (sfE l ds, []) := by
      show (if sfE l ds = 0 then thrGo [poS ds] (sfS ds l).2 else (sfE l ds, [])) = _
      rw [if_neg k]
    rw [e, if_neg k, if_neg k]
    exact ⟨rfl, rfl⟩
theorem egGross1 : ∀ args w, (callFunc 31 args).run Tryz.prog w = .ok (.enter 31 args) w := enters_of Tryz.func31 (by kernel_rfl) rfl
def SfI (l : List Acc) : Prop := OkL l ∧ BalI l ∧ l.length ≤ 9000
set_option maxRecDepth 10000 in
theorem gross1_at (g : Nat) (B : Option Addr) (m d : Nat) (ds : List Due) (w : World) (hk : Bx w g 23 [.slice B m d]) (hB : Row dueT w B m ds) (hD : DueI ds) :
    StepAt w (.func (.func 31) #[] #[.pointer (some ⟨g, 0, none⟩)]) (sfS ds) SfI := by
  refine ⟨_, _, rfl, egGross1, fun W A n c l hb hA hc hI => ?_⟩
  have hk' := hk.bel hb
  have q0 := hk'.cell 0 rfl
  obtain ⟨re, hre⟩ : ∃ r, (sfS ds l).1 = r := ⟨_, rfl⟩
  obtain ⟨ro, hro⟩ : ∃ r, (sfS ds l).2 = r := ⟨_, rfl⟩
  rw [hre, hro]
  have HC : Hid (Calls Tryz.prog 6 #[.slice A n c, .slice B m d] W fun e w' => ∃ v, e = .returned (.tuple #[v, .int .i64 re]) ∧ Rd w' v ro ∧ Bel W w') := hid_ (by
    subst hre hro
    exact sfree_any A n c l B m d ds W hA hI.1 hI.2.1 (by have h := hI.2.2; rw [hA.1] at h; exact h) (hB.bel hb) (by rw [← hB.1]; exact hD.len) hD.sz hD.gross)
  clear hA hI hk hk' hb hre hro hc hB hD
  go_enter Tryz.func31, Tryz.ntmps31
  go_wp2_with fail
  refine HC.out.mono ?_
  rintro e w1 ⟨v1, rfl, o1, b1⟩
  go_wp2
  go_ret2
  exact ⟨v1, rfl, o1, b1⟩
theorem two_at {α : Type} {x y z : α} {i : Nat} (h : [x, y][i]? = some z) : (i = 0 ∧ z = x) ∨ (i = 1 ∧ z = y) := by
  cases i with
  | zero => injection h with h; exact .inl ⟨rfl, h.symm⟩
  | succ i =>
    cases i with
    | zero => injection h with h; exact .inr ⟨rfl, h.symm⟩
    | succ i => cases h
theorem Row.two {W : World} {α : Type} {T : Ty α} (x y : α) {cs : Array Value} {b : Nat} (hcs : cs = (T.enc x ++ T.enc y).toArray) (hb : b = W.heap.size) : Row T (W.alloc (.cells cs T.e)) (some ⟨b, 0, none⟩) 2 [x, y] := by
  subst hcs hb
  have h := Row.lit (T := T) W [x, y] (0, 0) (by simp)
  simpa using h
set_option maxRecDepth 10000 in
set_option maxHeartbeats 1000000 in
theorem sgross_any (A : Option Addr) (n c : Nat) (l : List Acc) (B : Option Addr) (m d : Nat) (ds : List Due) (w : World) (hA : Row accT w A n l) (hl : OkL l) (hb : BalI l) (hn : n ≤ 9000) (hB : Row dueT w B m ds) (hD : DueI ds) :
    Calls Tryz.prog 12 #[.slice A n c, .slice B m d] w fun e w' => ∃ v, e = .returned (.tuple #[v, .int .i64 (sgE l ds)]) ∧ Rd w' v (sgO l ds) ∧ Bel w w' := by
  have hm63 := hB.2.1
  have HM : Hid (m ≤ 9000) := hid_ (by rw [← hB.1]; exact hD.len)
  have HD := hid_ hD
  have HN : Hid (l.length ≤ 9000 ∧ n ≤ 9000) := hid_ ⟨by rw [hA.1]; exact hn, hn⟩
  have K := hid_ (Bx.new w 23 [.slice B m d])
  have B0 := hid_ ((Bel.refl w).alloc (.cells #[.slice B m d] 23))
  have HA := hid_ (hA.bel B0.out)
  have HB := hid_ (hB.bel B0.out)
  have HL := hid_ (And.intro hl hb)
  have HPI : Hid (sfE l ds = 0 → PoI (sfO l ds)) := hid_ (fun h => sf_poI hl hb h HN.out.1 hD.len)
  obtain ⟨re, hre⟩ : ∃ r, sgE l ds = r := ⟨_, rfl⟩
  obtain ⟨ro, hro⟩ : ∃ r, sgO l ds = r := ⟨_, rfl⟩
  rw [hre, hro]
  have HR := hid_ (And.intro hre hro)
  clear hA hl hb hn hB hD hre hro
  have q0 := K.out.cell 0 rfl
  go_enter Tryz.func12, Tryz.ntmps12
  go_wp2_with fail
  generalize w.alloc (.cells #[.slice B m d] 23) = W0 at K B0 HA HB q0 ⊢
  generalize w.heap.size = gD at K q0 ⊢
  refine (zero_any B m d ds W0 HB.out (Nat.le_trans HM.out (by omega)) HD.out.sz).mono ?_
  rintro e w1 ⟨rfl, b1⟩
  have B1 := hid_ b1
  obtain ⟨zb, hzb⟩ : ∃ b, zeroB ds = b := ⟨_, rfl⟩
  rw [hzb]
  have q1 := b1.cell_ q0
  clear b1 q0
  cases zb
  · have HE := hid_ (sg_0 (l := l) hzb)
    clear hzb q1
    go_wp2
    go_ret2
    exact ⟨.slice none 0 0, by rw [← HR.out.1, HE.out.1]; rfl, by rw [← HR.out.2, HE.out.2]; exact Rd.none_ _, B0.out.trans B1.out⟩
  · have HE := hid_ (sg_1 (l := l) hzb (fun h => (HPI.out h).1))
    clear hzb
    go_wp2_with fail
    refine (legs_any B m d ds w1 (HB.out.bel B1.out) (Nat.le_trans HM.out (by omega))).mono ?_
    rintro e w2 ⟨v2, rfl, o2, b2⟩
    have B2 := hid_ (B1.out.trans b2)
    obtain ⟨X, k, rfl, hk, rx⟩ := o2.reads
    obtain ⟨q, hq⟩ : ∃ q, ds.length = q := ⟨_, rfl⟩
    rw [hq] at rx hk ⊢
    have RX := hid_ rx
    clear rx hq o2 b2 q1
    go_wp2_with fail
    refine (spost_any X q k w2).mono ?_
    rintro e w3 ⟨g, rfl, kg, b3⟩
    have B3 := hid_ (B2.out.trans b3)
    have hS := post1_at g X q k ds w3 kg (RX.out.bel b3) (fun x hx => HD.out.sz x hx)
    have hG := gross1_at gD B m d ds w3 (K.out.bel B3.out) (HB.out.bel B3.out) HD.out
    have HT := hid_ (through_any A n c l (some ⟨w3.heap.size, 0, none⟩) 2 2 [⟨.func (.func 31) #[] #[.pointer (some ⟨gD, 0, none⟩)], rfl⟩, ⟨.func (.func 51) #[] #[.pointer (some ⟨g, 0, none⟩)], rfl⟩] [sfS ds, poS ds] (fun i l => (i = 0 → SfI l) ∧ (i = 1 → PoI l))
      (w3.alloc (.cells #[.func (.func 31) #[] #[.pointer (some ⟨gD, 0, none⟩)], .func (.func 51) #[] #[.pointer (some ⟨g, 0, none⟩)]] 49)) ((HA.out.bel B3.out).bel ((Bel.refl w3).alloc _)) (Nat.le_trans HN.out.2 (by omega))
      (Row.two (T := fnT) ⟨.func (.func 31) #[] #[.pointer (some ⟨gD, 0, none⟩)], rfl⟩ ⟨.func (.func 51) #[] #[.pointer (some ⟨g, 0, none⟩)], rfl⟩ rfl rfl) rfl ⟨fun _ => ⟨HL.out.1, HL.out.2, HN.out.1⟩, fun h => absurd h (by omega)⟩
      (fun i f g h1 h2 => by
        rcases two_at h1 with ⟨rfl, rfl⟩ | ⟨rfl, rfl⟩ <;> rcases two_at h2 with ⟨k, rfl⟩ | ⟨k, rfl⟩
        · exact (hG.bel ((Bel.refl w3).alloc _)).mono (fun l h => h.1 rfl)
        · cases k
        · cases k
        · exact (hS.bel ((Bel.refl w3).alloc _)).mono (fun l h => h.2 rfl))
      (fun i g l h1 h2 h3 => by
        rcases two_at h1 with ⟨rfl, rfl⟩ | ⟨rfl, rfl⟩
        · exact ⟨fun h => absurd h (by omega), fun _ => sf_poI (h2.1 rfl).1 (h2.1 rfl).2.1 h3 (h2.1 rfl).2.2 HD.out.len⟩
        · exact ⟨fun h => absurd h (by omega), fun h => absurd h (by omega)⟩))
    rw [← HE.out.1, ← HE.out.2, HR.out.1, HR.out.2] at HT
    clear hS hG kg b3
    go_wp2_with fail
    refine HT.out.mono ?_
    rintro e w4 ⟨v4, rfl, r4, b4⟩
    have R4 := hid_ r4
    have B4 := hid_ ((B0.out.trans B3.out).trans (((Bel.refl w3).alloc _).trans b4))
    clear r4 b4 HT
    go_wp2
    go_ret2
    exact ⟨v4, rfl, R4.out, B4.out⟩
end Go.Proofs.YtnpinolhhnpniaaGreat
