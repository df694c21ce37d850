/- netting.Net. -/
import Derived.Test.YtgnninpfhnpjoaaNtS
import Derived.Test.YtgnninpfhnpjoaaNetP
import Derived.Test.YtgnninpfhnpjoaaPoW
import Derived.Test.YtgnninpfhnpjoaaTyPn
import Derived.Test.YtgnninpfhnpjoaaSum
set_option linter.unusedSimpArgs false
set_option linter.unusedVariables false
namespace Go.Proofs.Ytgnninpfhnpjoaa
open Go.RowKit Go.Lib Go.Maps
def netF (l : List Due) (dn : List Plc) : List Due := (dn.filter (fun p => !decide ((amts l p).sum = 0))).map (netD l)
theorem netF_snoc (l : List Due) (dn : List Plc) (p : Plc) : netF l (dn ++ [p]) = netF l dn ++ (if (amts l p).sum = 0 then [] else [netD l p]) := by
  unfold netF
  rw [List.filter_append, List.map_append]
  by_cases e : (amts l p).sum = 0 <;> simp [e]
theorem netF_len (l : List Due) (dn : List Plc) : (netF l dn).length ≤ dn.length := by
  unfold netF
  rw [List.length_map]
  exact List.length_filter_le _ _
/-- All places are taken, each once, and their sums may be. -/
theorem netF_all {l ys : List Due} {dn : List Plc} (hn : dn.Nodup) (h1 : ∀ p ∈ dn, sumOk (amts l p) = true) (h2 : ∀ p, amts l p ≠ [] → p ∈ dn) (hU : Up (ys.map Due.plc)) (hy : ∀ d, d ∈ ys ↔ d ∈ netF l dn) : netE l = 0 ∧ netO l = ys := by
  have hok : netOk l = true := netOk_iff.2 (fun p => by
    by_cases e : amts l p = []
    · rw [e]; exact sumOk_nil
    · exact h1 p (h2 p e))
  refine ⟨netE_0 hok, (due_ext hU (net_up l) (fun d => ?_)).symm⟩
  rw [hy]
  unfold netO netF
  rw [if_pos hok]
  simp only [List.mem_map, List.mem_filter]
  constructor
  · rintro ⟨p, ⟨hp, hs⟩, rfl⟩
    exact ⟨p, mem_netPs.2 (by simpa using hs), rfl⟩
  · rintro ⟨p, hp, rfl⟩
    have hs := mem_netPs.1 hp
    exact ⟨p, ⟨h2 p (fun e => hs (by rw [e]; rfl)), by simpa using hs⟩, rfl⟩
theorem netF_nodup {l : List Due} {dn : List Plc} (hn : dn.Nodup) : ((netF l dn).map Due.plc).Nodup := by
  unfold netF
  rw [List.map_map]
  rw [show (Due.plc ∘ netD l) = id from rfl, List.map_id]
  exact List.Pairwise.filter _ hn
theorem net_bad {l : List Due} {p : Plc} (h : sumOk (amts l p) = false) : netE l = 10 ∧ netO l = [] := by
  refine netE_10 ?_
  cases k : netOk l
  · rfl
  · rw [netOk_iff.1 k p] at h; cases h
theorem own_openT {α : Type} {T : Ty α} {w : World} {base : Nat} {v : Value} {xs : List α} (h : Own T w base v xs) (hn : xs ≠ []) : ∃ g cap cur, v = .slice (some ⟨g, 0, none⟩) xs.length cap ∧ base ≤ g ∧ w.heap[g]? = some (.cells cur T.e (0, 0)) ∧ xs.length ≤ cap ∧ cap ≤ maxLen ∧ cur.size = cap * T.sz ∧ cur.toList.take (xs.length * T.sz) = xs.flatMap T.enc := by
  rcases h.2 with ⟨_, h0⟩ | ⟨g, cap, cur, h1, h2, h3, h4, h5, h6, h7⟩
  · exact absurd (List.eq_nil_of_length_eq_zero h0) hn
  · exact ⟨g, cap, cur, h1, h2, h3, h4, h5, h6, h7⟩
def i64w' (n : Int) : Prop := -9223372036854775808 ≤ n ∧ n ≤ 9223372036854775807
set_option maxRecDepth 10000 in
set_option maxHeartbeats 4000000 in
theorem net_any (A : Option Addr) (n c : Nat) (l : List Due) (w : World) (hA : Row dueT w A n l) (hn : n ≤ 90000) (hz : ∀ x ∈ l, x.who.size ≤ 9223372036854775807 ∧ x.asset.size ≤ 9223372036854775807 ∧ i64w' x.amount) :
    Calls Try.prog 17 #[.slice A n c] w fun e w' => ∃ v, e = .returned (.tuple #[v, .int .i64 (netE l)]) ∧ Own dueT w' w.heap.size v (netO l) ∧ Bel w w' := by
  have hn63 := hA.2.1
  have HA := hid_ hA
  have HZ := hid_ hz
  have HN := hid_ hn
  have HL := hid_ hA.1
  obtain ⟨re, hre⟩ : ∃ r, netE l = r := ⟨_, rfl⟩
  obtain ⟨ro, hro⟩ : ∃ r, netO l = r := ⟨_, rfl⟩
  rw [hre, hro]
  have HR := hid_ (And.intro hre hro)
  clear hA hz hn hre hro
  go_enter Try.func17, Try.ntmps17
  have hmk : (Instr.makeMap 56 none).run Try.prog w = .ok (.map (some w.heap.size)) (w.alloc (.map #[] 0)) := rfl
  go_wp2_with fail
  clear hmk
  have hM0 := MapG.made plcKn i64T w
  obtain ⟨W0, hW0⟩ : ∃ W0, w.alloc (.map #[] 0) = W0 := ⟨_, rfl⟩
  obtain ⟨b, hb⟩ : ∃ b, w.heap.size = b := ⟨_, rfl⟩
  rw [hW0] at hM0 ⊢
  rw [hb] at hM0 ⊢
  have HM0 := hid_ hM0
  have HBE : Hid (b = w.heap.size) := hid_ hb.symm
  have HB0 : Hid (Bel w W0) := hid_ (by rw [← hW0]; exact (Bel.refl w).alloc _)
  have hsz0 : W0.heap.size = b + 1 := by rw [← hW0, ← hb]; exact sizeAl _ _
  have HSZ := hid_ hsz0
  clear hM0 hW0 hb hsz0
  have HK : Hid (∀ W : World, (zeroValue 36).run Try.prog W = .ok (.slice none 0 0) W) := hid_ (fun W => Try.zeroValue36 W)
  go_loopw [6, 7, 15] (fun _ _ i wr => ∃ (j : Nat) (D : DataW Value) (g : Plc → Value), j ≤ n ∧ i = .int .i64 j ∧ Hid (MapG plcKn i64T wr (b + 1) b j (fun p => amts (l.take j) p) D g) ∧ Hid (Bel w wr)) (fun _ _ i _ => n - (intOf i).toNat)
  case atStart => exact ⟨0, _, _, Nat.zero_le _, rfl, HM0, HB0⟩
  case round =>
    obtain ⟨j, D, g, hj, rfl, hMG, hBR⟩ := hrel
    by_cases hjm : j < n
    · obtain ⟨ad, g0, g1, g2, rfl, ho, e0, e1, e2⟩ := (HA.out.bel hBR.out).due hjm
      have HO := hid_ ho
      have hmem : (⟨g0, g1, g2⟩ : Due) ∈ l := List.mem_of_getElem? ho
      have HZ1 := hid_ (HZ.out _ hmem)
      clear ho
      have k1 := hid_ (Bx.new wr 33 [.string g0, .string g1, .int .i64 g2])
      have B1 := hid_ (hBR.out.alloc (.cells #[.string g0, .string g1, .int .i64 g2] 33))
      have M1 := hid_ (hMG.out.bel ((Bel.refl wr).alloc (.cells #[.string g0, .string g1, .int .i64 g2] 33)))
      clear hMG hBR
      go_upto_region 5 with (fail)
      generalize wr.alloc (.cells #[.string g0, .string g1, .int .i64 g2] 33) = W2 at k1 B1 M1 ⊢
      generalize wr.heap.size = gG at k1 ⊢
      clear e0 e1 e2
      have q0 := k1.out.cell 0 rfl
      have q1 := k1.out.cell 1 rfl
      obtain ⟨W3, hW3⟩ : ∃ W3, W2.alloc (.cells #[.string g0, .string g1] 58) = W3 := ⟨_, rfl⟩
      have b3 : Bel W2 W3 := by rw [← hW3]; exact (Bel.refl W2).alloc _
      have b4 : Bel W2 (W3.alloc (.cells #[.int .i64 g2] 2)) := b3.alloc _
      have M4 := M1.out.bel b4
      have R4 : Row i64T (W3.alloc (.cells #[.int .i64 g2] 2)) (some ⟨W3.heap.size, 0, none⟩) 1 [g2] := Row.one (T := i64T) g2 rfl rfl
      have hltb : b < W3.heap.size := (M1.out.bel b3).own.lt
      obtain ⟨st, w5, hE, hg5, hsz5, hO5, hS5⟩ := M4.entry (x := (⟨g0, g1⟩ : Plc)) plcKLn Try.underlying56 HK.out (by have := HN.out; simp only [maxLen]; omega) (by
        have := HZ1.out
        exact ⟨by simp only [maxLen]; exact this.1, by simp only [maxLen]; exact this.2.1⟩)
      have R5 := R4.kept' hg5 (fun ad e => by cases e; exact ⟨by show W3.heap.size ≠ b; omega, by show W3.heap.size < _; rw [sizeAl]; omega⟩)
      have B5 : Bel w w5 := Below.grown (B1.out.trans b4) hg5 (B1.out.trans b4).size (fun k e => by cases e; rw [HBE.out]; exact Nat.le_refl _)
      have O5 := hO5.mono_ (base' := w.heap.size) (by rw [HBE.out]; exact Nat.le_succ _)
      obtain ⟨v, hv⟩ : ∃ v, g ⟨g0, g1⟩ = v := ⟨_, rfl⟩
      rw [hv] at hE hO5 hS5 O5
      have H5 := hid_ (And.intro hO5 hS5)
      have HR5 := hid_ R5
      have HB5 := hid_ B5
      have HO5 := hid_ O5
      have HSZ5 := hid_ hsz5
      have HLT := hid_ hltb
      have hE : (Instr.mapEntry 56 (.map (some b)) (.agg #[.string g0, .string g1])).run Try.prog (W3.alloc (.cells #[.int .i64 g2] 2)) = .ok (.tuple #[v, .int .i64 (st : Int)]) w5 := hE
      have P3 := Bx.new W2 58 [.string g0, .string g1]
      have P3 : Bx W3 W2.heap.size 58 [.string g0, .string g1] := by rw [← hW3]; exact P3
      have p0 := P3.cell 0 rfl
      have p1 := P3.cell 1 rfl
      have q2 := k1.out.cell 2 rfl
      have r2 : W3.cell? ⟨gG, 2, none⟩ = some (.int .i64 g2) := by rw [← hW3]; exact (k1.out.alloc (.cells #[.string g0, .string g1] 58)).cell 2 rfl
      have HSL : Hid (((amts (l.take j) ⟨g0, g1⟩).length + 1) * 8 ≤ 140737488355328) := hid_ (by
        have h1 := amts_len (l.take j) ⟨g0, g1⟩
        have h2 : (l.take j).length ≤ j := by rw [List.length_take]; omega
        have h3 := HN.out
        omega)
      clear M1 b3 b4 P3 M4 R4 hltb hg5 hsz5 hO5 hS5 R5 B5 O5 hv
      go_wp2_with (at_builtin; refine wpApp (w0 := w) i64S rfl _ _ rfl v (amts (l.take j) ⟨g0, g1⟩) [g2] (some ⟨W3.heap.size, 0, none⟩) 1 1 rfl rfl HO5.out HR5.out HB5.out HSL.out ?_; intro v1 x1 hO1 hb1 hg1 hat1; obtain ⟨w6, hst, M6, hg6⟩ := H5.out.2 x1 v1 _ hg1 (hO1.raise (fun k hk => by
          rcases hat1 with e | ⟨c1, e, hc1⟩
          · exact H5.out.1.base_ k (e ▸ hk)
          · have e2 : k = c1 := by rw [hk] at e; injection e
            have h1 := HSZ5.out
            have h2 := HLT.out
            rw [sizeAl] at h1
            omega)) (by simp) hat1)
      obtain ⟨D7, g7, M7⟩ : ∃ D7 g7, MapG plcKn i64T w6 (b + 1) b (j + 1) (fun p => amts (l.take (j + 1)) p) D7 g7 := ⟨_, _, M6.congr (amts_fun HO.out ⟨g0, g1⟩ rfl (fun y => Classical.propDecidable _))⟩
      have HM7 := hid_ M7
      have HB6 : Hid (Bel w w6) := hid_ (Below.grown hb1 hg6 hb1.size (fun k e => by cases e; rw [HBE.out]; exact Nat.le_refl _))
      clear M6 M7 hst hg6 hO1 hb1 hg1 hat1 hE p0 p1 q2 r2
      case roundEnd =>
        go_round
        case rel => exact ⟨j + 1, D7, g7, by omega, by go_num, HM7, HB6⟩
        case measure => simp [intOf]; omega
    · obtain rfl : j = n := by omega
      have hMG2 := hMG.out
      rw [show l.take j = l from List.take_of_length_le (by rw [HL.out]; exact Nat.le_refl _)] at hMG2
      have HMG := hid_ hMG2
      have HB1 := hid_ hBR.out
      have HI := hid_ (amts_i64 (legs := l) (fun x hx => (HZ.out x hx).2.2))
      have HAL : Hid (∀ p, (amts l p).length ≤ 1000000) := hid_ (fun p => Nat.le_trans (amts_len l p) (by rw [HL.out]; exact Nat.le_trans HN.out (by decide)))
      have HOKP : Hid (∀ p, amts l p ≠ [] → plcOkn p) := hid_ (fun p hp => by
        have : p ∈ l.map Due.plc := Classical.byContradiction (fun k => hp (amts_no k))
        obtain ⟨d, hd, rfl⟩ := List.mem_map.1 this
        have := HZ.out d hd
        exact ⟨by simp only [maxLen]; exact this.1, by simp only [maxLen]; exact this.2.1⟩)
      clear hMG hMG2 hjm hBR
      have HGT : Hid (∀ x, plcOkn x → ∀ k, (g x).ownBlock = some k → k < wr.heap.size) := hid_ (fun x hx => (HMG.out.row x hx).lt_)
      go_wp2_with (first | (at_range; refine wpRangeG rfl _ _ 36 rfl rfl HMG.out Try.underlying56 ?_; intro w1 hrg1 hg1 hs1))
      have HR1 := hid_ hrg1
      have HB2 : Hid (Bel w w1) := hid_ (Below.grown HB1.out hg1 HB1.out.size (fun k e => by cases e))
      have HS1 : Hid (wr.heap.size < w1.heap.size) := hid_ (by omega)
      obtain ⟨r, hr⟩ : ∃ r, wr.heap.size = r := ⟨_, rfl⟩
      rw [hr] at HR1 HS1 HGT ⊢
      have HWR : Hid (w.heap.size ≤ r) := hid_ (by rw [← hr]; exact HB1.out.size_)
      have HBR : Hid (b < r) := hid_ (by rw [← hr]; exact HMG.out.own.lt)
      clear hrg1 hg1 hs1 hr HMG HB1
      go_frame
      go_loopw [2] (fun v wr => ∃ (dn : List Plc) (cnt : Nat), Hid (RngG plcKn i64T wr (b + 1) b r j (fun p => amts l p) D g dn cnt) ∧ Hid (Own dueT wr w.heap.size v (netF l dn)) ∧ Hid (∀ k, v.ownBlock = some k → w1.heap.size ≤ k) ∧ Hid (∀ p ∈ dn, sumOk (amts l p) = true) ∧ Hid (Bel w wr) ∧ Hid (w1.heap.size ≤ wr.heap.size)) (fun _ wr => wr.rangeLeft b r)
      case atStart => exact ⟨[], _, HR1, hid_ (Own.nil_ _ _ _), hid_ (fun k hk => by cases hk), hid_ (by simp), HB2, hid_ (Nat.le_refl _)⟩
      case round =>
        obtain ⟨dn, cnt, hR, hO, hV, hS, hB, hZ⟩ := hrel
        have hrb : ∀ x, plcOkn x → (g x).ownBlock ≠ some r := fun x hx e => by have := HGT.out x hx r e; omega
        have HRB := hid_ hrb
        clear hrb
        go_wp2_with (first | (at_next; refine wpNextG rfl _ rfl rfl hR.out HRB.out ?_ ?_))
        · intro hc0 hall
          have HALL : Hid (∀ p, amts l p ≠ [] → p ∈ dn) := hid_ (fun p hp => hall p (HOKP.out p hp) hp)
          have HND := hid_ hR.out.nd
          have HLD : Hid (dn.length ≤ 90000) := hid_ (by
            have h1 : dn.Perm (dueP l) := (List.perm_ext_iff_of_nodup HND.out ((up_plcs _).imp (fun h => ltP_ne h))).2 (fun p => ⟨fun h => by
              have h2 := (hR.out.dok p h).2
              exact mem_dueP.2 (Classical.byContradiction (fun k => h2 (amts_no k))), fun h => by
              obtain ⟨d, hd, rfl⟩ := List.mem_map.1 (mem_dueP.1 h)
              refine HALL.out _ (fun e => ?_)
              have h3 : d ∈ l.filter (fun x => decide (x.plc = d.plc)) := List.mem_filter.2 ⟨hd, by simp⟩
              unfold amts at e
              rw [List.map_eq_nil_iff.1 e] at h3
              cases h3⟩)
            rw [h1.length_eq]
            have h4 := plcs_len (l.map Due.plc)
            rw [List.length_map, HL.out] at h4
            exact Nat.le_trans h4 HN.out)
          clear hc0 hall hR HRB
          by_cases he : netF l dn = []
          · have hO1 := hO.out
            rw [he] at hO1
            obtain ⟨Y, cy, rfl, _, _⟩ := hO1.reads
            have HEN := hid_ he
            have HF := hid_ (netF_all (ys := []) HND.out hS.out HALL.out List.Pairwise.nil (by rw [he]; simp))
            have HO1 := hid_ hO1
            clear hO1 hO he
            go_wp2_with fail
            refine (sortD_nil Y cy wr).mono ?_
            rintro e _ ⟨rfl, rfl⟩
            go_wp2
            go_ret2
            exact ⟨_, by rw [← HR.out.1, HF.out.1]; rfl, by rw [← HR.out.2, HF.out.2]; exact HO1.out, hB.out⟩
          · obtain ⟨gs, cap, cur, e, c1, c2, c3, c4, c5, c6⟩ := own_openT hO.out he
            subst e
            have HC := hid_ (And.intro c1 (And.intro c2 (And.intro c3 (And.intro c4 (And.intro c5 c6)))))
            clear c1 c2 c3 c4 c5 c6 hO he
            go_wp2_with fail
            refine (sortD_any w.heap.size gs cap cur (netF l dn) wr HC.out.1 HC.out.2.1 HC.out.2.2.1 HC.out.2.2.2.1 HC.out.2.2.2.2.1 HC.out.2.2.2.2.2 (netF_nodup HND.out) (Nat.le_trans (netF_len l dn) (Nat.le_trans HLD.out (by decide)))).mono ?_
            rintro e w2 ⟨rfl, ys, hyl, hU, hy, hO, hg⟩
            have HF := hid_ (netF_all HND.out hS.out HALL.out hU hy)
            have HO := hid_ hO
            have HBF : Hid (Bel w w2) := hid_ (Below.grown hB.out hg hB.out.size (fun k e => by cases e; exact HC.out.1))
            clear hyl hU hy hO hg HC hS HND HALL
            go_wp2
            go_ret2
            exact ⟨_, by rw [← HR.out.1, HF.out.1]; rfl, by rw [← HR.out.2, HF.out.2]; exact HO.out, HBF.out⟩
        · intro x w2 cnt' hx hf hd hrg2 hlt hg2 hs2 hen
          obtain ⟨p0, p1⟩ := x
          have hx : plcOkn ⟨p0, p1⟩ := hx
          obtain ⟨X, kx, hgx, hkx, rx⟩ := (hrg2.row _ hx).reads
          rw [hgx] at hen ⊢
          simp only [plcKn, plcVn] at hen ⊢
          have RX := hid_ rx
          have O2 := hO.out.kept_ hg2 (by
            cases hv : u2.ownBlock with
            | none => exact .inl rfl
            | some c => exact .inr (fun e => by injection e with e; have h1 := hV.out c hv; have h2 := HS1.out; omega))
          have B2 : Bel w w2 := Below.grown hB.out hg2 hB.out.size (fun k e => by cases e; exact HWR.out)
          have HR2 := hid_ hrg2
          have HO2 := hid_ O2
          have HB3 := hid_ B2
          have HZ2 : Hid (w1.heap.size ≤ w2.heap.size ∧ cnt' < cnt ∧ wr.rangeLeft b r = cnt) := hid_ ⟨by rw [hs2]; exact hZ.out, hlt, hR.out.left_eq⟩
          have k3 := hid_ (Bx.new w2 58 [.string p0, .string p1])
          have b3 := hid_ ((Bel.refl w2).alloc (.cells #[.string p0, .string p1] 58))
          clear hx hf hd hrg2 hlt hg2 hs2 hkx rx O2 B2 hO hB hZ hR HRB hgx
          go_wp2_with fail
          generalize w2.alloc (.cells #[.string p0, .string p1] 58) = W3 at k3 b3 ⊢
          generalize w2.heap.size = g3 at k3 ⊢
          clear hen
          refine (sum_any X _ kx (amts l ⟨p0, p1⟩) W3 (RX.out.bel b3.out) (HAL.out _) (HI.out _)).mono ?_
          rintro e W4 ⟨rfl, b4⟩
          have b34 := b3.out.trans b4
          have K4 := hid_ (k3.out.bel b4)
          have R4 := hid_ (HR2.out.bel b34)
          have O4 := hid_ (HO2.out.bel b34)
          have B4 := hid_ (HB3.out.trans b34)
          have Z4 : Hid (w1.heap.size ≤ W4.heap.size ∧ cnt' < cnt ∧ wr.rangeLeft b r = cnt) := hid_ ⟨Nat.le_trans HZ2.out.1 b34.size_, HZ2.out.2⟩
          clear b4 b34 b3 k3 HR2 HO2 HB3 RX HZ2
          obtain ⟨so, hso⟩ : ∃ so, sumOk (amts l ⟨p0, p1⟩) = so := ⟨_, rfl⟩
          obtain ⟨sm, hsm⟩ : ∃ sm, (amts l ⟨p0, p1⟩).sum = sm := ⟨_, rfl⟩
          have HSM := hid_ hsm
          cases so
          · have HF := hid_ (net_bad hso)
            rw [show sumV (amts l ⟨p0, p1⟩) = 0 by unfold sumV; rw [hso]; rfl, show sumE (amts l ⟨p0, p1⟩) = 10 by unfold sumE; rw [hso]; rfl]
            clear hso hsm R4 O4 hS K4
            go_wp2
            go_ret2
            exact ⟨.slice none 0 0, by rw [← HR.out.1, HF.out.1]; rfl, by rw [← HR.out.2, HF.out.2]; exact Own.nil_ _ _ _, B4.out⟩
          rw [show sumV (amts l ⟨p0, p1⟩) = sm by unfold sumV; rw [hso, if_pos rfl, hsm], show sumE (amts l ⟨p0, p1⟩) = 0 by unfold sumE; rw [hso]; rfl]
          have HS2 : Hid (∀ p ∈ dn ++ [⟨p0, p1⟩], sumOk (amts l p) = true) := hid_ (fun p hp => by
            rcases List.mem_append.1 hp with hp | hp
            · exact hS.out p hp
            · simp at hp; subst hp; exact hso)
          have HFS := hid_ (netF_snoc l dn ⟨p0, p1⟩)
          clear hso hsm hS
          by_cases hz0 : sm = 0
          · have HN2 : Hid (netF l (dn ++ [⟨p0, p1⟩]) = netF l dn) := hid_ (by rw [HFS.out, if_pos (by rw [HSM.out]; exact hz0), List.append_nil])
            subst hz0
            clear HFS K4 HSM
            go_wp2
            case roundEnd =>
              go_roundw
              case rel => exact ⟨dn ++ [⟨p0, p1⟩], cnt', R4, hid_ (by rw [HN2.out]; exact O4.out), hV, HS2, B4, hid_ Z4.out.1⟩
              case measure => rw [R4.out.left_eq, Z4.out.2.2]; exact Z4.out.2.1
          · have HN2 : Hid (netF l (dn ++ [⟨p0, p1⟩]) = netF l dn ++ [⟨p0, p1, sm⟩]) := hid_ (by rw [HFS.out, if_neg (by rw [HSM.out]; exact hz0)]; unfold netD; rw [HSM.out])
            have j0 : (sm != 0) = true := by simp [hz0]
            have q0 := K4.out.cell 0 rfl
            have q1 := K4.out.cell 1 rfl
            have HLN : Hid ((netF l dn).length ≤ 1000000) := hid_ (by
              have h1 := netF_len l dn
              have h2 : dn.length ≤ 90000 := by
                have h3 : (dn.Nodup ∧ ∀ p ∈ dn, p ∈ dueP l) := ⟨(List.nodup_append.1 R4.out.nd).1, fun p hp => by
                  have h2 := (R4.out.dok p (List.mem_append_left _ hp)).2
                  exact mem_dueP.2 (Classical.byContradiction (fun k => h2 (amts_no k)))⟩
                have h5 : dn.length ≤ (dueP l).length := nodup_len h3.1 h3.2
                have h4 := plcs_len (l.map Due.plc)
                rw [List.length_map, HL.out] at h4
                exact Nat.le_trans h5 (Nat.le_trans h4 HN.out)
              omega)
            clear HFS hz0 HSM
            go_wp2_with (at_builtin; refine wpApp (w0 := w) dueS rfl _ _ rfl _ (netF l dn) [⟨p0, p1, sm⟩] (some ⟨W4.heap.size, 0, none⟩) 1 1 rfl rfl (O4.out.alloc_ _) (Row.one (T := dueT) ⟨p0, p1, sm⟩ rfl rfl) (B4.out.alloc _) (by have := HLN.out; omega) ?_; intro v1 x1 hO1 hb1 hg1 hat1)
            have R5 := hid_ ((R4.out.bel ((Bel.refl W4).alloc (.cells #[.string p0, .string p1, .int .i64 sm] 33))).kept hg1 (fun e => by have h1 := hV.out b e.symm; have h2 := HS1.out; have h3 := R4.out.hb; have h4 := HBR.out; omega) (fun e => by have h1 := hV.out r e.symm; have h2 := HS1.out; omega) (fun c hc => .inr (fun x hx e => by have h1 := hV.out c hc; have h2 := HGT.out x hx c e; have h3 := HS1.out; omega)))
            have V5 : Hid (∀ k, v1.ownBlock = some k → w1.heap.size ≤ k) := hid_ (fun k hk => by
              rcases hat1 with e | ⟨c1, e, hc1⟩
              · exact hV.out k (e ▸ hk)
              · rw [hk] at e
                injection e with e
                have h1 := Z4.out.1
                rw [sizeAl] at hc1
                omega)
            have Z5 : Hid (w1.heap.size ≤ x1.heap.size) := hid_ (by have h1 := hg1.size; rw [sizeAl] at h1; have h2 := Z4.out.1; omega)
            case roundEnd =>
              go_roundw
              case rel => exact ⟨dn ++ [⟨p0, p1⟩], cnt', R5, hid_ (by rw [HN2.out]; exact hO1), V5, HS2, hid_ hb1, Z5⟩
              case measure => rw [R5.out.left_eq, Z4.out.2.2]; exact Z4.out.2.1
end Go.Proofs.Ytgnninpfhnpjoaa
