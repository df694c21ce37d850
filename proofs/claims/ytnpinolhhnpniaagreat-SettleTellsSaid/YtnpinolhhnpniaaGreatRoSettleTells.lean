/- What is freed, the legs, and the accounts behind a settlement, by nets and one by one, are what the document says, or its error; proved for every input of at most a hundred accounts that may be and a hundred dues of texts of at most a hundred bytes (others are let through). -/
import Derived.Test.YtnpinolhhnpniaaGreatSt4
import Derived.Test.YtnpinolhhnpniaaGreatNtR2
import Derived.Test.YtnpinolhhnpniaaGreatAcPR
import Derived.Deep.DeepCutAuto
import Derived.Deep.QuietTactic
import Derived.Test.YtnpinolhhnpniaaGreatStL
import Derived.Test.YtnpinolhhnpniaaGreatRows
import Derived.ChangeOld
set_option linter.unusedSimpArgs false
set_option linter.unusedVariables false
namespace Go.Proofs.YtnpinolhhnpniaaGreat
open Go.RowKit Go.Lib
set_option maxRecDepth 10000 in
theorem slegsR_any (B : Option Addr) (m d : Nat) (ds : List Due) (w : World) (hB : Row dueT w B m ds) (hm : m ≤ 9000)
    (hz : ∀ x ∈ ds, x.who.size ≤ 9223372036854775807 ∧ x.asset.size ≤ 9223372036854775807 ∧ i64w' x.amount) :
    Calls Tryz.prog 9 #[.slice B m d] w fun e w' => ∃ v, e = .returned (.tuple #[v, .int .i64 (slE ds)]) ∧ Own legT w' w.heap.size v (slO ds) ∧ Bel w w' := by
  have HB := hid_ hB
  have HM := hid_ hm
  have HZ := hid_ hz
  have HNL : Hid ((netO ds).length ≤ m) := hid_ (by have h := net_len ds; rw [hB.1] at h; exact h)
  obtain ⟨re, hre⟩ : ∃ r, slE ds = r := ⟨_, rfl⟩
  obtain ⟨ro, hro⟩ : ∃ r, slO ds = r := ⟨_, rfl⟩
  rw [hre, hro]
  have HR := hid_ (And.intro hre hro)
  clear hB hm hz hre hro
  have bad : ∀ x : Int, slE ds = x → x ≠ 0 → slO ds = [] := fun x h k => by unfold slO; rw [if_neg (by rw [h]; exact k)]
  have HBAD := hid_ bad
  clear bad
  go_enter Tryz.func9, Tryz.ntmps9
  go_wp2_with fail
  refine (zeroR_any B m d ds w HB.out (Nat.le_trans HM.out (by omega)) HZ.out).mono ?_
  rintro e w1 ⟨rfl, b1⟩
  have B1 := hid_ b1
  clear b1
  obtain ⟨zb, hzb⟩ : ∃ b, zeroB ds = b := ⟨_, rfl⟩
  rw [hzb]
  have HZB := hid_ hzb
  clear hzb
  cases zb
  · have h1 : slE ds = 120 := by unfold slE; rw [HZB.out]; rfl
    have HF : Hid (re = 120 ∧ ro = []) := hid_ ⟨HR.out.1.symm.trans h1, HR.out.2.symm.trans (HBAD.out _ h1 (by decide))⟩
    clear h1
    go_wp2
    go_ret2
    exact ⟨.slice none 0 0, by rw [HF.out.1]; rfl, by rw [HF.out.2]; exact Own.nil_ _ _ _, B1.out⟩
  · have h1 : slE ds = if netE ds = 0 then (if 200 < (netO ds).length then 120 else 0) else netE ds := by unfold slE; rw [HZB.out]; rfl
    have H1 := hid_ h1
    clear h1
    go_wp2_with fail
    refine (netR_any B m d ds w1 (HB.out.bel B1.out) (Nat.le_trans HM.out (by omega)) HZ.out).mono ?_
    rintro e w2 ⟨v2, rfl, o2, b2⟩
    have B2 := hid_ (B1.out.trans b2)
    by_cases hn : netE ds = 0
    · rw [hn]
      obtain ⟨X, k, rfl, hk, rx⟩ := o2.reads
      have HX := hid_ rx
      obtain ⟨nn, hnn⟩ : ∃ r, (netO ds).length = r := ⟨_, rfl⟩
      rw [hnn] at HX hk HNL ⊢
      by_cases hlt : 200 < nn
      · have h2 : slE ds = 120 := by rw [H1.out, if_pos hn, hnn, if_pos hlt]
        have HF : Hid (re = 120 ∧ ro = []) := hid_ ⟨HR.out.1.symm.trans h2, HR.out.2.symm.trans (HBAD.out _ h2 (by decide))⟩
        have hlt' : (200 : Int) < (nn : Int) := by omega
        clear h2 hn rx o2 b2 hnn hk
        go_wp2
        go_ret2
        exact ⟨.slice none 0 0, by rw [HF.out.1]; rfl, by rw [HF.out.2]; exact Own.nil_ _ _ _, B2.out⟩
      · have h2 : slE ds = 0 := by rw [H1.out, if_pos hn, hnn, if_neg hlt]
        have HF : Hid (re = 0 ∧ ro = netO ds) := hid_ ⟨HR.out.1.symm.trans h2, HR.out.2.symm.trans (by unfold slO; rw [if_pos h2])⟩
        have hlt' : ¬ (200 : Int) < (nn : Int) := by omega
        have hn63 := HX.out.2.1
        have HSZ := hid_ ((Bel.refl w).trans B2.out).size
        clear h2 hn rx o2 b2 hnn hk
        go_wp2_with fail
        refine (legsR_any X nn k (netO ds) w2 HX.out (Nat.le_trans HNL.out (Nat.le_trans HM.out (by omega)))).mono ?_
        rintro e w3 ⟨v3, rfl, o3, b3⟩
        have O3 := hid_ (o3.mono_ HSZ.out)
        have B3 := hid_ (B2.out.trans b3)
        clear o3 b3
        go_wp2
        go_ret2
        exact ⟨v3, by rw [HF.out.1]; rfl, by rw [HF.out.2]; exact O3.out, B3.out⟩
    · have h2 : slE ds = netE ds := by rw [H1.out, if_neg hn]
      have HF : Hid (re = netE ds ∧ ro = []) := hid_ ⟨HR.out.1.symm.trans h2, HR.out.2.symm.trans (HBAD.out _ h2 hn)⟩
      obtain ⟨ne, hne⟩ : ∃ r, netE ds = r := ⟨_, rfl⟩
      rw [hne] at hn HF ⊢
      have q : (ne != 0) = true := by simp [hn]
      clear h2 o2 b2 hne
      go_wp2
      go_ret2
      exact ⟨.slice none 0 0, by rw [HF.out.1]; rfl, by rw [HF.out.2]; exact Own.nil_ _ _ _, B2.out⟩
set_option maxRecDepth 10000 in
theorem postedR_any (A : Option Addr) (n c : Nat) (l : List Acc) (B : Option Addr) (m d : Nat) (legs : List Due) (w : World) (hA : Row accT w A n l) (hnc : n ≤ c) (hI : PoI l) (hB : Row legT w B m legs) (hz : ∀ x ∈ legs, x.who.size ≤ 4294967280 ∧ x.asset.size ≤ 4294967280 ∧ i64w x.amount) :
    Calls Tryz.prog 30 #[.slice A n c, .slice B m d] w fun e w' => ∃ v, e = .returned (.tuple #[v, .int .i64 (poE l legs)]) ∧ Rd w' v (poO l legs) ∧ Bel w w' := by
  have HA := hid_ hA
  obtain ⟨re, hre⟩ : ∃ r, poE l legs = r := ⟨_, rfl⟩
  obtain ⟨ro, hro⟩ : ∃ r, poO l legs = r := ⟨_, rfl⟩
  rw [hre, hro]
  have hm63 := hB.2.1
  have hlen := hB.1
  by_cases h0 : m = 0
  · subst h0
    have hnil : legs = [] := List.eq_nil_of_length_eq_zero hlen
    have HF : Hid (re = 0 ∧ ro = l) := hid_ ⟨hre.symm.trans (po_0 hnil).1, hro.symm.trans (po_0 hnil).2⟩
    have HC := hid_ hnc
    clear hA hI hre hro hnc hB hlen hz hnil
    go_enter Tryz.func30, Tryz.ntmps30
    go_wp2
    go_ret2
    exact ⟨_, by rw [HF.out.1]; rfl, ⟨A, n, c, rfl, HC.out, by rw [HF.out.2]; exact HA.out⟩, Bel.refl _⟩
  · have hne : legs ≠ [] := fun k => h0 (by rw [← hlen, k]; rfl)
    have HC : Hid (Calls Tryz.prog 53 #[.slice A n c, .slice B m d] w fun e w' => ∃ v, e = .returned (.tuple #[v, .int .i64 re]) ∧ Own accT w' w.heap.size v ro ∧ Bel w w') := hid_ (by
      have e1 : re = postE l legs := hre.symm.trans (po_1 hne).1
      have e2 : ro = postO l legs := hro.symm.trans (po_1 hne).2
      rw [e1, e2]
      exact postR_any A n c l B m d legs w hA hI.1 (by have h := hI.2.1; rw [hA.1] at h; exact h) hB hz hI.2.2)
    have q : ((m : Int) == 0) = false := by simp [h0]
    clear hA hI hre hro hnc hB hlen hz hne h0
    go_enter Tryz.func30, Tryz.ntmps30
    go_wp2_with fail
    refine HC.out.mono ?_
    rintro e w1 ⟨v1, rfl, o1, b1⟩
    go_wp2
    go_ret2
    exact ⟨v1, rfl, o1.rd, b1⟩
theorem freeGo_at {ds : List Due} {k : Nat} {d : Due} (h : ds[k]? = some d) (l : List Acc) : freeGo (ds.drop k) l = if freE l d = 0 then freeGo (ds.drop (k + 1)) (freO l d) else (freE l d, []) := by
  obtain ⟨hl, e⟩ := List.getElem?_eq_some_iff.1 h
  rw [List.drop_eq_getElem_cons hl, e]
  rfl
theorem sf_fg {l : List Acc} {ds : List Due} (h : grossE ds = 0) : sfE l ds = (freeGo (grossO ds) l).1 ∧ sfO l ds = (freeGo (grossO ds) l).2 := by
  unfold sfE sfO
  rw [if_pos h, if_pos h]
  exact ⟨rfl, rfl⟩
set_option maxRecDepth 10000 in
set_option maxHeartbeats 1000000 in
theorem sfreeR_any (A : Option Addr) (n c : Nat) (l : List Acc) (B : Option Addr) (m d : Nat) (ds : List Due) (w : World) (hA : Row accT w A n l) (hl : OkL l) (hb : BalI l) (hn : n ≤ 9000) (hB : Row dueT w B m ds) (hm : m ≤ 9000)
    (hz : ∀ x ∈ ds, x.who.size ≤ 9223372036854775807 ∧ x.asset.size ≤ 9223372036854775807 ∧ i64w' x.amount) (hgz : ∀ x ∈ grossO ds, x.who.size ≤ 4294967280 ∧ x.asset.size ≤ 4294967280) :
    Calls Tryz.prog 7 #[.slice A n c, .slice B m d] w fun e w' => ∃ v, e = .returned (.tuple #[v, .int .i64 (sfE l ds)]) ∧ Rd w' v (sfO l ds) ∧ Bel w w' := by
  have HA := hid_ hA
  have HL := hid_ (And.intro hl hb)
  have HN := hid_ hn
  have HB := hid_ hB
  have HM := hid_ hm
  have HZ := hid_ hz
  have HGZ := hid_ hgz
  have HGL : Hid ((grossO ds).length ≤ m) := hid_ (by
    have h0 := hB.1
    unfold grossO
    split
    · simp
    · exact Nat.le_trans (net_len _) (by have h2 := owedL_len ds; omega))
  have HG64 : Hid (∀ x ∈ grossO ds, x.amount ≤ 9223372036854775807) := hid_ (fun x hx => (by
      unfold grossO at hx
      split at hx
      · cases hx
      · exact (net_i64 hx).2))
  obtain ⟨re, hre⟩ : ∃ r, sfE l ds = r := ⟨_, rfl⟩
  obtain ⟨ro, hro⟩ : ∃ r, sfO l ds = r := ⟨_, rfl⟩
  rw [hre, hro]
  have HR := hid_ (And.intro hre hro)
  clear hA hl hb hn hB hm hz hgz hre hro
  go_enter Tryz.func7, Tryz.ntmps7
  go_wp2_with fail
  refine (grossR_any B m d ds w HB.out (Nat.le_trans HM.out (by omega)) HZ.out).mono ?_
  rintro e w1 ⟨v1, rfl, o1, b1⟩
  by_cases hg : grossE ds = 0
  · have HE := hid_ (sf_fg (l := l) hg)
    rw [hg]
    clear hg
    obtain ⟨gs, hgs⟩ : ∃ gs, grossO ds = gs := ⟨_, rfl⟩
    rw [hgs] at HE HGL HG64 HGZ o1
    obtain ⟨gn, hgn⟩ : ∃ gn, gs.length = gn := ⟨_, rfl⟩
    have HLN := hid_ hgn
    obtain ⟨G, cg, rfl, hcg, rg⟩ := o1.reads
    rw [hgn] at HGL rg hcg ⊢
    have hgn63 := rg.2.1
    have RG := hid_ rg
    have B1 := hid_ b1
    have FA := hid_ (HA.out.bel b1)
    clear rg b1 o1 hcg hgs hgn
    go_wp2_with (at_builtin; refine wpApp (w0 := w1) accS rfl _ _ rfl _ [] l A n c rfl rfl (Own.litE (T := accT) w1 w1.heap.size _ _ rfl rfl (Nat.le_refl _)) (FA.out.bel ((Bel.refl w1).alloc _)) ((Bel.refl w1).alloc _) (by have h1 := HN.out; simp only [List.length_nil]; omega) ?_; intro v8 x8 hO8 hb8 _ _)
    have hO8 : Own accT x8 w1.heap.size v8 l := by simpa using hO8
    have R8 := hid_ hO8.rd
    have B8 := hid_ hb8
    clear hO8 hb8
    go_loopw [8, 9] (fun v i wr => ∃ (j : Nat) (lk : List Acc), j ≤ gn ∧ i = .int .i64 j ∧ Hid (Rd wr v lk) ∧ Hid (freeGo (gs.drop j) lk = (re, ro)) ∧ Hid (FiI n j lk) ∧ Hid (Bel w1 wr)) (fun _ i _ => gn - (intOf i).toNat)
    case atStart => exact ⟨0, l, Nat.zero_le _, rfl, R8, hid_ (by rw [List.drop_zero, ← HR.out.1, ← HR.out.2, HE.out.1, HE.out.2]), hid_ ⟨HL.out.1, HL.out.2, by rw [HA.out.1]; exact Nat.le_refl _⟩, B8⟩
    case round =>
      obtain ⟨j, lk, hj, rfl, hR, hT, hI, hW⟩ := hrel
      by_cases hjn : j < gn
      · obtain ⟨ad, g0, g1, g2, rfl, ho, d0, d1, d2⟩ := (RG.out.bel hW.out).due hjn
        obtain ⟨Ak, nk, ck, rfl, hck, rk⟩ := hR.out
        have HT1 := hid_ ((freeGo_at ho lk).symm.trans hT.out)
        have hs := HGZ.out _ (List.mem_of_getElem? ho)
        have h64 := HG64.out _ (List.mem_of_getElem? ho)
        obtain ⟨fe, hfe⟩ : ∃ r, freE lk ⟨g0, g1, g2⟩ = r := ⟨_, rfl⟩
        obtain ⟨fo, hfo⟩ : ∃ r, freO lk ⟨g0, g1, g2⟩ = r := ⟨_, rfl⟩
        have HST : Hid (fe = 0 → OkL fo ∧ BalI fo ∧ fo.length ≤ n + (j + 1)) := hid_ (fun h => by
          obtain ⟨k1, k2, _⟩ := free_step hI.out.1 hI.out.2.1 h64 (hfe.trans h)
          rw [hfo] at k1 k2
          exact ⟨k1, k2, by have h1 := freO_len lk ⟨g0, g1, g2⟩; have h2 := hI.out.2.2; rw [hfo] at h1; omega⟩)
        rw [hfe, hfo] at HT1
        obtain ⟨W0, hW0⟩ : ∃ W0, wr = W0 := ⟨_, rfl⟩
        rw [hW0] at hW d0 d1 d2 rk ⊢
        clear hW0 hR
        have HC : Hid (∀ W, Bel W0 W → Calls Tryz.prog 22 #[.slice Ak nk ck, .string g0, .string g1, .int .i64 g2] W fun e w' => ∃ v, e = .returned (.tuple #[v, .int .i64 fe]) ∧ Own accT w' W.heap.size v fo ∧ Bel W w') := hid_ (fun W hb => by
          subst hfe hfo
          refine freeR_any Ak nk ck lk g0 g1 g2 W (rk.bel hb) hI.out.1.srt ?_ hs.1 hs.2
          have h1 := hI.out.2.2
          rw [rk.1] at h1
          have h2 := HN.out
          have h3 := HM.out
          have h4 := HGL.out
          omega)
        have i0 : (0 : Int) ≤ (j : Int) := by omega
        have i1 : (j : Int) < (gn : Int) := by omega
        have HBW := hid_ hW.out
        have HJ := hid_ hjn
        clear hs h64 hfe hfo ho rk hck hT hI hW hj
        go_upto_region 8 with (fail)
        have hKP : ∀ W, Bel W0 W → (fun W => Bel W0 W ∧ W.cell? (ad.add (j * 3)) = some (.string g0) ∧ W.cell? ⟨(ad.add (j * 3)).block, (ad.add (j * 3)).off + 1, none⟩ = some (.string g1) ∧ W.cell? ⟨(ad.add (j * 3)).block, (ad.add (j * 3)).off + 2, none⟩ = some (.int .i64 g2)) W := fun W b => ⟨b, b.cell_ d0, b.cell_ d1, b.cell_ d2⟩
        have HKP := hid_ hKP
        clear hKP
        go_region_held3 (fun W => Bel W0 W ∧ W.cell? (ad.add (j * 3)) = some (.string g0) ∧ W.cell? ⟨(ad.add (j * 3)).block, (ad.add (j * 3)).off + 1, none⟩ = some (.string g1) ∧ W.cell? ⟨(ad.add (j * 3)).block, (ad.add (j * 3)).off + 2, none⟩ = some (.int .i64 g2)) ((refine HKP.out _ ?_; (repeat first | with_reducible exact Bel.refl _ | with_reducible exact bz0 | with_reducible apply Bel.drew | with_reducible apply Bel.alloc)))
          (first
            | (go_at_call 22; refine' Calls.mono (HC.out _ (by (repeat first | with_reducible exact Bel.refl _ | with_reducible exact bz0 | with_reducible apply Bel.drew | with_reducible apply Bel.alloc))) ?_; rintro e w9 ⟨v9, rfl, o9, b9⟩; have bz0 : Bel W0 w9 := Bel.trans (by (repeat first | with_reducible exact Bel.refl _ | with_reducible exact bz0 | with_reducible apply Bel.drew | with_reducible apply Bel.alloc)) b9))
        have R9 := hid_ o9.rd
        have B9 := hid_ (HBW.out.trans bz0)
        clear o9 b9 HKP bz0 d0 d1 d2
        by_cases h0 : fe = 0
        · have HS := hid_ (HST.out h0)
          have HT2 : Hid (freeGo (gs.drop (j + 1)) fo = (re, ro)) := hid_ (by have h := HT1.out; rw [if_pos h0] at h; exact h)
          subst h0
          clear HT1
          go_wp2
          case roundEnd =>
            go_round
            case rel => exact ⟨j + 1, fo, HJ.out, by go_num, R9, HT2, HS, B9⟩
            case measure => have := HJ.out; simp [intOf]; omega
        · have HT2 : Hid (re = fe ∧ ro = []) := hid_ (by have h := HT1.out; rw [if_neg h0] at h; obtain ⟨k1, k2⟩ := Prod.mk.inj h; exact ⟨k1.symm, k2.symm⟩)
          have q : (fe != 0) = true := by simp [h0]
          clear HT1 h0
          go_wp2
          go_ret2
          exact ⟨.slice none 0 0, by rw [HT2.out.1]; rfl, by rw [HT2.out.2]; exact Rd.none_ _, B1.out.trans B9.out⟩
      · obtain rfl : gn = j := by omega
        have HF : Hid (re = 0 ∧ ro = lk) := hid_ (by have h := hT.out; rw [List.drop_of_length_le (by rw [HLN.out]; exact Nat.le_refl _)] at h; obtain ⟨k1, k2⟩ := Prod.mk.inj h; exact ⟨k1.symm, k2.symm⟩)
        obtain ⟨Ak, nk, ck, rfl, hck, rk⟩ := hR.out
        have RK := hid_ (And.intro hck rk)
        clear hR hT hI hjn hj rk hck
        go_wp2
        go_ret2
        exact ⟨_, by rw [HF.out.1]; rfl, by rw [HF.out.2]; exact ⟨_, _, _, rfl, RK.out.1, RK.out.2⟩, B1.out.trans hW.out⟩
  · have HE := hid_ (sf_1 (l := l) hg)
    have q : (grossE ds != 0) = true := by simp [hg]
    have HQ := hid_ b1
    clear o1 b1
    obtain ⟨ge, hge⟩ : ∃ r, grossE ds = r := ⟨_, rfl⟩
    rw [hge] at q HE hg ⊢
    clear hge
    go_wp2
    go_ret2
    exact ⟨.slice none 0 0, by rw [← HR.out.1, HE.out.1]; rfl, by rw [← HR.out.2, HE.out.2]; exact Rd.none_ _, HQ.out⟩
/-- Texts of at most 4 gigabytes. -/
def Sz4 (ds : List Due) : Prop := ∀ x ∈ ds, x.who.size ≤ 4294967280 ∧ x.asset.size ≤ 4294967280
theorem Sz4.net {ds : List Due} (h : Sz4 ds) : ∀ x ∈ netO ds, x.who.size ≤ 4294967280 ∧ x.asset.size ≤ 4294967280 := by
  intro x hx
  obtain ⟨d, hd, e1, e2⟩ := net_mem hx
  rw [← e1, ← e2]
  exact h d hd
theorem Sz4.gross {ds : List Due} (h : Sz4 ds) : ∀ x ∈ grossO ds, x.who.size ≤ 4294967280 ∧ x.asset.size ≤ 4294967280 := by
  intro x hx
  unfold grossO at hx
  split at hx
  · cases hx
  · obtain ⟨d, hd, e1, e2⟩ := net_mem hx
    obtain ⟨d', hd', _, e'⟩ := owed_mem hd
    have hs := h d' hd'
    subst e'
    rw [← e1, ← e2]
    exact hs
set_option maxRecDepth 10000 in
set_option maxHeartbeats 1000000 in
theorem settleR_any (A : Option Addr) (n c : Nat) (l : List Acc) (B : Option Addr) (m d : Nat) (ds : List Due) (w : World) (hA : Row accT w A n l) (hl : OkL l) (hb : BalI l) (hn : n ≤ 9000) (hB : Row dueT w B m ds) (hD : DueI ds) (hS : Sz4 ds) :
    Calls Tryz.prog 11 #[.slice A n c, .slice B m d] w fun e w' => ∃ v u, e = .returned (.tuple #[v, u, .int .i64 (stE l ds)]) ∧ Rd w' v (stO l ds) ∧ Own legT w' w.heap.size u (stL l ds) ∧ Bel w w' := by
  have HA := hid_ hA
  have HL := hid_ (And.intro hl (And.intro hb hn))
  have HB := hid_ hB
  have HD := hid_ hD
  have HS4 := hid_ hS
  have HM : Hid (m ≤ 9000) := hid_ (by rw [← hB.1]; exact hD.len)
  obtain ⟨re, hre⟩ : ∃ r, stE l ds = r := ⟨_, rfl⟩
  obtain ⟨ro, hro⟩ : ∃ r, stO l ds = r := ⟨_, rfl⟩
  obtain ⟨rl, hrl⟩ : ∃ r, stL l ds = r := ⟨_, rfl⟩
  rw [hre, hro, hrl]
  have HR := hid_ (And.intro hre (And.intro hro hrl))
  clear hA hl hb hn hB hD hS hre hro hrl
  go_enter Tryz.func11, Tryz.ntmps11
  go_wp2_with fail
  refine (sfreeR_any A n c l B m d ds w HA.out HL.out.1 HL.out.2.1 HL.out.2.2 HB.out HM.out HD.out.sz HS4.out.gross).mono ?_
  rintro e w1 ⟨v1, rfl, r1, b1⟩
  have R1 := hid_ r1
  have B1 := hid_ b1
  clear r1 b1
  by_cases h1 : sfE l ds = 0
  · rw [h1]
    have H1 := hid_ h1
    clear h1
    go_wp2_with fail
    refine (slegsR_any B m d ds w1 (HB.out.bel B1.out) HM.out HD.out.sz).mono ?_
    rintro e w2 ⟨v2, rfl, o2, b2⟩
    have B2 := hid_ (B1.out.trans b2)
    have R2 := hid_ (R1.out.bel b2)
    have O2 := hid_ (o2.mono_ B1.out.size_)
    clear o2 b2 R1
    by_cases h2 : slE ds = 0
    · rw [h2]
      have HPI := hid_ (sf_poI HL.out.1 HL.out.2.1 H1.out (by rw [HA.out.1]; exact HL.out.2.2) HD.out.len)
      have HE := hid_ (st_2 HPI.out.1 H1.out h2)
      have H2 := hid_ h2
      clear h2
      obtain ⟨A1, n1, c1, rfl, hc1, ra⟩ := R2.out
      have RA := hid_ ra
      have HN1 : Hid (n1 ≤ 18000) := hid_ (by have h := sfO_len l ds; rw [ra.1, HA.out.1] at h; have h2 := HL.out.2.2; have h3 := HD.out.len; omega)
      obtain ⟨X, k, rfl, hk, rx⟩ := O2.out.reads
      obtain ⟨q, hq⟩ : ∃ q, (slO ds).length = q := ⟨_, rfl⟩
      rw [hq] at rx hk O2 ⊢
      have RX := hid_ rx
      clear ra rx hq
      have HT := hid_ (postedR_any A1 n1 c1 (sfO l ds) X q k (slO ds) w2 RA.out hc1 HPI.out RX.out (fun x hx => by
        have h := hx
        unfold slO at h
        rw [if_pos H2.out] at h
        exact ⟨(HS4.out.net x h).1, (HS4.out.net x h).2, (HD.out.net x h).2.2⟩))
      clear hc1
      go_wp2_with fail
      refine HT.out.mono ?_
      rintro e w4 ⟨v4, rfl, r4, b4⟩
      have R4 := hid_ r4
      have B4 := hid_ (B2.out.trans b4)
      have O4 := hid_ (O2.out.bel b4)
      clear r4 b4 HT
      have R4 : Hid (Rd w4 v4 (poS (slO ds) (sfO l ds)).2) := R4
      rw [show poE (sfO l ds) (slO ds) = (poS (slO ds) (sfO l ds)).1 from rfl]
      obtain ⟨pe, hpe⟩ : ∃ r, (poS (slO ds) (sfO l ds)).1 = r := ⟨_, rfl⟩
      obtain ⟨po, hpo⟩ : ∃ r, (poS (slO ds) (sfO l ds)).2 = r := ⟨_, rfl⟩
      rw [hpe, hpo] at HE
      rw [hpe]
      rw [hpo] at R4
      clear hpe hpo
      by_cases h3 : pe = 0
      · have HF : Hid (re = 0 ∧ ro = po ∧ rl = slO ds) := hid_ ⟨by rw [← HR.out.1, HE.out.1, h3], by rw [← HR.out.2.1, HE.out.2.1], by rw [← HR.out.2.2, HE.out.2.2.1 h3]⟩
        subst h3
        clear HE
        go_wp2
        go_ret3
        exact ⟨v4, _, by rw [HF.out.1]; rfl, by rw [HF.out.2.1]; exact R4.out, by rw [HF.out.2.2]; exact O4.out, B4.out⟩
      · have HF : Hid (re = pe ∧ ro = [] ∧ rl = []) := hid_ ⟨by rw [← HR.out.1, HE.out.1], by rw [← HR.out.2.1, (HE.out.2.2.2 h3).2], by rw [← HR.out.2.2, (HE.out.2.2.2 h3).1]⟩
        have q : (pe != 0) = true := by simp [h3]
        clear HE h3
        go_wp2
        go_ret3
        exact ⟨.slice none 0 0, .slice none 0 0, by rw [HF.out.1]; rfl, by rw [HF.out.2.1]; exact Rd.none_ _, by rw [HF.out.2.2]; exact Own.nil_ _ _ _, B4.out⟩
    · have HE := hid_ (st_1 H1.out h2)
      obtain ⟨pe, hpe⟩ : ∃ r, slE ds = r := ⟨_, rfl⟩
      rw [hpe] at HE h2 ⊢
      have q : (pe != 0) = true := by simp [h2]
      have HF : Hid (re = pe ∧ ro = [] ∧ rl = []) := hid_ ⟨HR.out.1.symm.trans HE.out.1, HR.out.2.1.symm.trans HE.out.2.1, HR.out.2.2.symm.trans HE.out.2.2⟩
      clear h2 hpe
      go_wp2
      go_ret3
      exact ⟨.slice none 0 0, .slice none 0 0, by rw [HF.out.1]; rfl, by rw [HF.out.2.1]; exact Rd.none_ _, by rw [HF.out.2.2]; exact Own.nil_ _ _ _, B2.out⟩
  · have HE := hid_ (st_0 h1)
    obtain ⟨pe, hpe⟩ : ∃ r, sfE l ds = r := ⟨_, rfl⟩
    rw [hpe] at HE h1 ⊢
    have q : (pe != 0) = true := by simp [h1]
    have HF : Hid (re = pe ∧ ro = [] ∧ rl = []) := hid_ ⟨HR.out.1.symm.trans HE.out.1, HR.out.2.1.symm.trans HE.out.2.1, HR.out.2.2.symm.trans HE.out.2.2⟩
    clear h1 hpe
    go_wp2
    go_ret3
    exact ⟨.slice none 0 0, .slice none 0 0, by rw [HF.out.1]; rfl, by rw [HF.out.2.1]; exact Rd.none_ _, by rw [HF.out.2.2]; exact Own.nil_ _ _ _, B1.out⟩
theorem sg_2 {l : List Acc} {ds : List Due} (h : zeroB ds = true) (h2 : sfE l ds ≠ 0) : sgE l ds = sfE l ds ∧ sgO l ds = [] := by
  have h1 : sgE l ds = sfE l ds := by unfold sgE; rw [h, if_pos rfl, if_neg h2]
  unfold sgO
  rw [h1, if_neg h2]
  exact ⟨rfl, rfl⟩
theorem sg_3 {l : List Acc} {ds : List Due} (h : zeroB ds = true) (h2 : sfE l ds = 0) (hs : Srt (sfO l ds)) : sgE l ds = poE (sfO l ds) ds ∧ sgO l ds = poO (sfO l ds) ds := by
  have h1 : sgE l ds = poE (sfO l ds) ds := by unfold sgE; rw [h, if_pos rfl, if_pos h2]
  refine ⟨h1, ?_⟩
  unfold sgO
  rw [h1]
  by_cases k : poE (sfO l ds) ds = 0
  · rw [if_pos k]
  · rw [if_neg k]; exact (poS_bad ds (sfO l ds) hs k).symm
set_option maxRecDepth 10000 in
set_option maxHeartbeats 1000000 in
theorem sgrossR_any (A : Option Addr) (n c : Nat) (l : List Acc) (B : Option Addr) (m d : Nat) (ds : List Due) (w : World) (hA : Row accT w A n l) (hl : OkL l) (hb : BalI l) (hn : n ≤ 9000) (hB : Row dueT w B m ds) (hD : DueI ds) (hS : Sz4 ds) :
    Calls Tryz.prog 13 #[.slice A n c, .slice B m d] w fun e w' => ∃ v, e = .returned (.tuple #[v, .int .i64 (sgE l ds)]) ∧ Rd w' v (sgO l ds) ∧ Bel w w' := by
  have HA := hid_ hA
  have HL := hid_ (And.intro hl (And.intro hb hn))
  have HB := hid_ hB
  have HD := hid_ hD
  have HS4 := hid_ hS
  have HM : Hid (m ≤ 9000) := hid_ (by rw [← hB.1]; exact hD.len)
  obtain ⟨re, hre⟩ : ∃ r, sgE l ds = r := ⟨_, rfl⟩
  obtain ⟨ro, hro⟩ : ∃ r, sgO l ds = r := ⟨_, rfl⟩
  rw [hre, hro]
  have HR := hid_ (And.intro hre hro)
  clear hA hl hb hn hB hD hS hre hro
  go_enter Tryz.func13, Tryz.ntmps13
  go_wp2_with fail
  refine (zeroR_any B m d ds w HB.out (Nat.le_trans HM.out (by omega)) HD.out.sz).mono ?_
  rintro e w1 ⟨rfl, b1⟩
  have B1 := hid_ b1
  clear b1
  obtain ⟨zb, hzb⟩ : ∃ b, zeroB ds = b := ⟨_, rfl⟩
  rw [hzb]
  have HZB := hid_ hzb
  clear hzb
  cases zb
  · have HE := hid_ (sg_0 (l := l) HZB.out)
    go_wp2
    go_ret2
    exact ⟨.slice none 0 0, by rw [← HR.out.1, HE.out.1]; rfl, by rw [← HR.out.2, HE.out.2]; exact Rd.none_ _, B1.out⟩
  · go_wp2_with fail
    refine (sfreeR_any A n c l B m d ds w1 (HA.out.bel B1.out) HL.out.1 HL.out.2.1 HL.out.2.2 (HB.out.bel B1.out) HM.out HD.out.sz HS4.out.gross).mono ?_
    rintro e w2 ⟨v2, rfl, r2, b2⟩
    have R2 := hid_ r2
    have B2 := hid_ (B1.out.trans b2)
    clear r2 b2
    obtain ⟨fe, hfe⟩ : ∃ r, sfE l ds = r := ⟨_, rfl⟩
    rw [hfe]
    by_cases h0 : fe = 0
    · subst h0
      have HPI := hid_ (sf_poI HL.out.1 HL.out.2.1 hfe (by rw [HA.out.1]; exact HL.out.2.2) HD.out.len)
      have HE := hid_ (sg_3 HZB.out hfe HPI.out.1)
      clear hfe
      go_wp2_with fail
      refine (legsR_any B m d ds w2 (HB.out.bel B2.out) (Nat.le_trans HM.out (by omega))).mono ?_
      rintro e w3 ⟨v3, rfl, o3, b3⟩
      have B3 := hid_ (B2.out.trans b3)
      have R3 := hid_ (R2.out.bel b3)
      obtain ⟨X, k, rfl, hk, rx⟩ := o3.reads
      obtain ⟨q, hq⟩ : ∃ q, ds.length = q := ⟨_, rfl⟩
      rw [hq] at rx hk ⊢
      have RX := hid_ rx
      obtain ⟨A1, n1, c1, rfl, hc1, ra⟩ := R3.out
      have HT := hid_ (postedR_any A1 n1 c1 (sfO l ds) X q k ds w3 ra hc1 HPI.out RX.out (fun x hx => ⟨(HS4.out x hx).1, (HS4.out x hx).2, (HD.out.sz x hx).2.2⟩))
      rw [← HE.out.1, ← HE.out.2, HR.out.1, HR.out.2] at HT
      clear rx hq o3 b3 ra hc1 hk R2 R3
      go_wp2_with fail
      refine HT.out.mono ?_
      rintro e w4 ⟨v4, rfl, r4, b4⟩
      have R4 := hid_ r4
      have B4 := hid_ (B3.out.trans b4)
      clear r4 b4 HT
      go_wp2
      go_ret2
      exact ⟨v4, rfl, R4.out, B4.out⟩
    · have HE := hid_ (sg_2 HZB.out (by rw [hfe]; exact h0))
      rw [hfe] at HE
      have q : (fe != 0) = true := by simp [h0]
      clear hfe h0
      go_wp2
      go_ret2
      exact ⟨.slice none 0 0, by rw [← HR.out.1, HE.out.1]; rfl, by rw [← HR.out.2, HE.out.2]; exact Rd.none_ _, B2.out⟩
end Go.Proofs.YtnpinolhhnpniaaGreat
set_option linter.unusedSimpArgs false
set_option linter.unusedVariables false
namespace Go.Proofs.YtnpinolhhnpniaaGreat
open Go.RowKit Go.Lib
set_option maxRecDepth 10000 in
set_option maxHeartbeats 4000000 in
theorem walkSettleTells (w : World) (A : Option Addr) (n c : Nat) (l : List Acc) (ha : n ≤ c ∧ Row accT w A n l ∧ ∀ x ∈ l, accWf x) (B : Option Addr) (m d : Nat) (ds : List Due) (hb : m ≤ d ∧ Row dueT w B m ds ∧ ∀ x ∈ ds, dueWf x) :
    Calls Tryz.prog 3 #[.slice A n c, .slice B m d] w fun e w' => e = .returned (.bool true) ∧ Bel w w' := by
  obtain ⟨_, hA, hwa⟩ := ha
  obtain ⟨_, hB, hwb⟩ := hb
  have HWA := hid_ hwa
  have HWB := hid_ hwb
  have HLA := hid_ hA.1
  have FA := hid_ hA
  have FD := hid_ hB
  have FB := hid_ (Bel.refl w)
  clear hA hB hwa hwb
  go_enter Tryz.func3, Tryz.ntmps3
  go_wp2_with fail
  refine (awake18 _).mono ?_
  rintro e v1 ⟨rfl, b⟩
  have FB := hid_ (FB.out.trans b)
  have FA := hid_ (FA.out.bel b)
  have FD := hid_ (FD.out.bel b)
  clear b
  go_wp2_with fail
  refine (few18_any A n c l B m d ds _ FA.out FD.out (wf_sz HWA.out)).mono ?_
  rintro e v2 ⟨rfl, b⟩
  have FB := hid_ (FB.out.trans b)
  have FA := hid_ (FA.out.bel b)
  have FD := hid_ (FD.out.bel b)
  clear b
  obtain ⟨fb, hfb⟩ : ∃ fb, few18 l ds = fb := ⟨_, rfl⟩
  rw [hfb]
  cases fb
  · clear hfb
    go_wp2
    go_ret
    exact ⟨rfl, FB.out⟩
  have HQ := hid_ (few18_in hfb HWA.out HWB.out)
  have HS4 : Hid (Sz4 ds) := hid_ (fun x hx => by have h := (few18_iff.1 hfb).2.2.2 x hx; omega)
  have HN : Hid (n ≤ 9000) := hid_ (by rw [← HLA.out]; have := HQ.out.1; omega)
  have HM : Hid (m ≤ 9000) := hid_ (by rw [← FD.out.1]; exact HQ.out.2.2.2.len)
  clear hfb
  obtain ⟨e1, he1⟩ : ∃ e, sfE l ds = e := ⟨_, rfl⟩
  obtain ⟨e2, he2⟩ : ∃ e, slE ds = e := ⟨_, rfl⟩
  obtain ⟨e3, he3⟩ : ∃ e, stE l ds = e := ⟨_, rfl⟩
  obtain ⟨e4, he4⟩ : ∃ e, sgE l ds = e := ⟨_, rfl⟩
  have HE := hid_ (And.intro he1 (And.intro he2 (And.intro he3 he4)))
  clear he1 he2 he3 he4
  go_wp2_with fail
  refine (sfree_any A n c l B m d ds _ FA.out HQ.out.2.1 HQ.out.2.2.1 HN.out FD.out HM.out HQ.out.2.2.2.sz HQ.out.2.2.2.gross).mono ?_
  rintro e v3 ⟨x1, rfl, r, b⟩
  rw [HE.out.1]
  have FB := hid_ (FB.out.trans b)
  have FA := hid_ (FA.out.bel b)
  have FD := hid_ (FD.out.bel b)
  have R1 := hid_ r
  clear b r
  go_wp2_with fail
  refine (sfreeR_any A n c l B m d ds _ FA.out HQ.out.2.1 HQ.out.2.2.1 HN.out FD.out HM.out HQ.out.2.2.2.sz HS4.out.gross).mono ?_
  rintro e v4 ⟨x2, rfl, r, b⟩
  rw [HE.out.1]
  have FB := hid_ (FB.out.trans b)
  have FA := hid_ (FA.out.bel b)
  have FD := hid_ (FD.out.bel b)
  have R1 := hid_ (R1.out.bel b)
  have R2 := hid_ r
  clear b r
  go_wp2_with fail
  refine (slegs_any B m d ds _ FD.out HM.out HQ.out.2.2.2.sz).mono ?_
  rintro e v5 ⟨x3, rfl, r, b⟩
  rw [HE.out.2.1]
  have FB := hid_ (FB.out.trans b)
  have FA := hid_ (FA.out.bel b)
  have FD := hid_ (FD.out.bel b)
  have R1 := hid_ (R1.out.bel b)
  have R2 := hid_ (R2.out.bel b)
  have R3 := hid_ r
  clear b r
  go_wp2_with fail
  refine (slegsR_any B m d ds _ FD.out HM.out HQ.out.2.2.2.sz).mono ?_
  rintro e v6 ⟨x4, rfl, r, b⟩
  rw [HE.out.2.1]
  have FB := hid_ (FB.out.trans b)
  have FA := hid_ (FA.out.bel b)
  have FD := hid_ (FD.out.bel b)
  have R1 := hid_ (R1.out.bel b)
  have R2 := hid_ (R2.out.bel b)
  have R3 := hid_ (R3.out.bel b)
  have R4 := hid_ r
  clear b r
  go_wp2_with fail
  refine (settle_any A n c l B m d ds _ FA.out HQ.out.2.1 HQ.out.2.2.1 HN.out FD.out HQ.out.2.2.2).mono ?_
  rintro e v7 ⟨x5, x6, rfl, r, q, b⟩
  rw [HE.out.2.2.1]
  have FB := hid_ (FB.out.trans b)
  have FA := hid_ (FA.out.bel b)
  have FD := hid_ (FD.out.bel b)
  have R1 := hid_ (R1.out.bel b)
  have R2 := hid_ (R2.out.bel b)
  have R3 := hid_ (R3.out.bel b)
  have R4 := hid_ (R4.out.bel b)
  have R5 := hid_ r
  have R6 := hid_ q
  clear b r q
  go_wp2_with fail
  refine (settleR_any A n c l B m d ds _ FA.out HQ.out.2.1 HQ.out.2.2.1 HN.out FD.out HQ.out.2.2.2 HS4.out).mono ?_
  rintro e v8 ⟨x7, x8, rfl, r, q, b⟩
  rw [HE.out.2.2.1]
  have FB := hid_ (FB.out.trans b)
  have FA := hid_ (FA.out.bel b)
  have FD := hid_ (FD.out.bel b)
  have R1 := hid_ (R1.out.bel b)
  have R2 := hid_ (R2.out.bel b)
  have R3 := hid_ (R3.out.bel b)
  have R4 := hid_ (R4.out.bel b)
  have R5 := hid_ (R5.out.bel b)
  have R6 := hid_ (R6.out.bel b)
  have R7 := hid_ r
  have R8 := hid_ q
  clear b r q
  go_wp2_with fail
  refine (sgross_any A n c l B m d ds _ FA.out HQ.out.2.1 HQ.out.2.2.1 HN.out FD.out HQ.out.2.2.2).mono ?_
  rintro e v9 ⟨x9, rfl, r, b⟩
  rw [HE.out.2.2.2]
  have FB := hid_ (FB.out.trans b)
  have FA := hid_ (FA.out.bel b)
  have FD := hid_ (FD.out.bel b)
  have R1 := hid_ (R1.out.bel b)
  have R2 := hid_ (R2.out.bel b)
  have R3 := hid_ (R3.out.bel b)
  have R4 := hid_ (R4.out.bel b)
  have R5 := hid_ (R5.out.bel b)
  have R6 := hid_ (R6.out.bel b)
  have R7 := hid_ (R7.out.bel b)
  have R8 := hid_ (R8.out.bel b)
  have R9 := hid_ r
  clear b r
  go_wp2_with fail
  refine (sgrossR_any A n c l B m d ds _ FA.out HQ.out.2.1 HQ.out.2.2.1 HN.out FD.out HQ.out.2.2.2 HS4.out).mono ?_
  rintro e v10 ⟨x10, rfl, r, b⟩
  rw [HE.out.2.2.2]
  have FB := hid_ (FB.out.trans b)
  have FA := hid_ (FA.out.bel b)
  have FD := hid_ (FD.out.bel b)
  have R1 := hid_ (R1.out.bel b)
  have R2 := hid_ (R2.out.bel b)
  have R3 := hid_ (R3.out.bel b)
  have R4 := hid_ (R4.out.bel b)
  have R5 := hid_ (R5.out.bel b)
  have R6 := hid_ (R6.out.bel b)
  have R7 := hid_ (R7.out.bel b)
  have R8 := hid_ (R8.out.bel b)
  have R9 := hid_ (R9.out.bel b)
  have R10 := hid_ r
  clear b r
  obtain ⟨A1, n1, c1, rfl, _, r1⟩ := R1.out
  have R1 := hid_ r1
  clear r1
  obtain ⟨A2, n2, c2, rfl, _, r2⟩ := R2.out
  have R2 := hid_ r2
  clear r2
  obtain ⟨A5, n5, c5, rfl, _, r5⟩ := R5.out
  have R5 := hid_ r5
  clear r5
  obtain ⟨A7, n7, c7, rfl, _, r7⟩ := R7.out
  have R7 := hid_ r7
  clear r7
  obtain ⟨A9, n9, c9, rfl, _, r9⟩ := R9.out
  have R9 := hid_ r9
  clear r9
  obtain ⟨A10, n10, c10, rfl, _, r10⟩ := R10.out
  have R10 := hid_ r10
  clear r10
  obtain ⟨A3, c3, rfl, _, r3⟩ := R3.out.reads
  obtain ⟨n3, hn3⟩ : ∃ k, (slO ds).length = k := ⟨_, rfl⟩
  rw [hn3] at r3 ⊢
  have R3 := hid_ r3
  clear r3 hn3
  obtain ⟨A4, c4, rfl, _, r4⟩ := R4.out.reads
  obtain ⟨n4, hn4⟩ : ∃ k, (slO ds).length = k := ⟨_, rfl⟩
  rw [hn4] at r4 ⊢
  have R4 := hid_ r4
  clear r4 hn4
  obtain ⟨A6, c6, rfl, _, r6⟩ := R6.out.reads
  obtain ⟨n6, hn6⟩ : ∃ k, (stL l ds).length = k := ⟨_, rfl⟩
  rw [hn6] at r6 ⊢
  have R6 := hid_ r6
  clear r6 hn6
  obtain ⟨A8, c8, rfl, _, r8⟩ := R8.out.reads
  obtain ⟨n8, hn8⟩ : ∃ k, (stL l ds).length = k := ⟨_, rfl⟩
  rw [hn8] at r8 ⊢
  have R8 := hid_ r8
  clear r8 hn8
  go_wp2_with fail
  refine (sameAcc_any A1 n1 c1 (sfO l ds) A2 n2 c2 (sfO l ds) _ R1.out R2.out).mono ?_
  rintro e v11 ⟨rfl, b⟩
  rw [show eqB (sfO l ds) (sfO l ds) = true from eqB_1 rfl]
  have FB := hid_ (FB.out.trans b)
  have R1 := hid_ (R1.out.bel b)
  have R2 := hid_ (R2.out.bel b)
  have R3 := hid_ (R3.out.bel b)
  have R4 := hid_ (R4.out.bel b)
  have R5 := hid_ (R5.out.bel b)
  have R6 := hid_ (R6.out.bel b)
  have R7 := hid_ (R7.out.bel b)
  have R8 := hid_ (R8.out.bel b)
  have R9 := hid_ (R9.out.bel b)
  have R10 := hid_ (R10.out.bel b)
  clear b
  go_wp2_with fail
  refine (sameLeg_any A3 n3 c3 (slO ds) A4 n4 c4 (slO ds) _ R3.out R4.out).mono ?_
  rintro e v12 ⟨rfl, b⟩
  rw [show eqB (slO ds) (slO ds) = true from eqB_1 rfl]
  have FB := hid_ (FB.out.trans b)
  have R1 := hid_ (R1.out.bel b)
  have R2 := hid_ (R2.out.bel b)
  have R3 := hid_ (R3.out.bel b)
  have R4 := hid_ (R4.out.bel b)
  have R5 := hid_ (R5.out.bel b)
  have R6 := hid_ (R6.out.bel b)
  have R7 := hid_ (R7.out.bel b)
  have R8 := hid_ (R8.out.bel b)
  have R9 := hid_ (R9.out.bel b)
  have R10 := hid_ (R10.out.bel b)
  clear b
  go_wp2_with fail
  refine (sameAcc_any A5 n5 c5 (stO l ds) A7 n7 c7 (stO l ds) _ R5.out R7.out).mono ?_
  rintro e v13 ⟨rfl, b⟩
  rw [show eqB (stO l ds) (stO l ds) = true from eqB_1 rfl]
  have FB := hid_ (FB.out.trans b)
  have R1 := hid_ (R1.out.bel b)
  have R2 := hid_ (R2.out.bel b)
  have R3 := hid_ (R3.out.bel b)
  have R4 := hid_ (R4.out.bel b)
  have R5 := hid_ (R5.out.bel b)
  have R6 := hid_ (R6.out.bel b)
  have R7 := hid_ (R7.out.bel b)
  have R8 := hid_ (R8.out.bel b)
  have R9 := hid_ (R9.out.bel b)
  have R10 := hid_ (R10.out.bel b)
  clear b
  go_wp2_with fail
  refine (sameLeg_any A6 n6 c6 (stL l ds) A8 n8 c8 (stL l ds) _ R6.out R8.out).mono ?_
  rintro e v14 ⟨rfl, b⟩
  rw [show eqB (stL l ds) (stL l ds) = true from eqB_1 rfl]
  have FB := hid_ (FB.out.trans b)
  have R1 := hid_ (R1.out.bel b)
  have R2 := hid_ (R2.out.bel b)
  have R3 := hid_ (R3.out.bel b)
  have R4 := hid_ (R4.out.bel b)
  have R5 := hid_ (R5.out.bel b)
  have R6 := hid_ (R6.out.bel b)
  have R7 := hid_ (R7.out.bel b)
  have R8 := hid_ (R8.out.bel b)
  have R9 := hid_ (R9.out.bel b)
  have R10 := hid_ (R10.out.bel b)
  clear b
  go_wp2_with fail
  refine (sameAcc_any A9 n9 c9 (sgO l ds) A10 n10 c10 (sgO l ds) _ R9.out R10.out).mono ?_
  rintro e v15 ⟨rfl, b⟩
  rw [show eqB (sgO l ds) (sgO l ds) = true from eqB_1 rfl]
  have FB := hid_ (FB.out.trans b)
  have R1 := hid_ (R1.out.bel b)
  have R2 := hid_ (R2.out.bel b)
  have R3 := hid_ (R3.out.bel b)
  have R4 := hid_ (R4.out.bel b)
  have R5 := hid_ (R5.out.bel b)
  have R6 := hid_ (R6.out.bel b)
  have R7 := hid_ (R7.out.bel b)
  have R8 := hid_ (R8.out.bel b)
  have R9 := hid_ (R9.out.bel b)
  have R10 := hid_ (R10.out.bel b)
  clear b
  go_wp2
  go_ret
  exact ⟨rfl, FB.out⟩
end Go.Proofs.YtnpinolhhnpniaaGreat
set_option linter.unusedSimpArgs false
set_option linter.unusedVariables false
namespace Go.Proofs.YtnpinolhhnpniaaGreat.settleTells
open Go.ChangeShapes Go.WideShapes Go.ChangeAt Go.RowKit
open Go.ChangeMaps (open_string shut_string)
theorem own : ownKnob Tryz.prog.godebug = none := by kernel_rfl
theorem laidOut : laidOutB Tryz.prog = true := by kernel_rfl
set_option maxRecDepth 100000 in
theorem lifted (os : Os) (started : os.Started) (H : Type) (enc : TypeId × Value → H) :
    ReturnsInHanded {} Tryz.checked os 3 .any (Rows.settleTellsSpec.pre6 enc Tryz.prog Tryz.f3 Rows.settleTellsRow.domain false) (Rows.settleTellsSpec.post enc Tryz.prog Tryz.f3 false true false false) := by
  refine returnsInHanded_of_change (C := Tryz.checked) own started (by kernel_rfl) Tryz.func3
    (ChangeSpec.witness6 (enc := enc) (C := Tryz.checked) false ⟨#[], #[.slice none 0 0, .slice none 0 0], []⟩ 8 (by kernel_rfl) (by kernel_rfl) (by kernel_rfl) (by kernel_rfl)) ?_
  intro W base args ds gs before hval0 hW hcnd _
  have hval : ∀ (j : Nat) t v, Tryz.f3.params[j]? = some t → args[j]? = some v → Value.okWide Tryz.prog W .any base t v := hval0
  have hW' := hW
  obtain ⟨p, q, hA0, hV, rfl, hfz, hnd⟩ := hW
  have hA : DataW.TrodAll enc Tryz.prog W 0 (fun _ => true) true Tryz.f3.params.toList args.toList ds p := hA0
  rw [Tryz.params3] at hA hval
  obtain ⟨v0, vs0, d0, ds0, p0, q0, hargs, rfl, rfl, h0, r0⟩ := trodAll_cons hA
  obtain ⟨v1, vs1, d1, ds1, p1, q1, rfl, rfl, rfl, h1, r1⟩ := trodAll_cons r0
  obtain ⟨rfl, rfl, rfl⟩ := trodAll_nil r1
  obtain rfl : args = #[v0, v1] := by cases args; simp_all
  obtain ⟨rfl, rfl⟩ := trodVars_none hV
  have k0 := h0
  have lt0 : ∀ x ∈ p0, x.block < W.heap.size := by obtain ⟨m, hm⟩ := k0; exact DataW.trod_lt m _ _ _ hm
  obtain ⟨A0, n0, c0, l0, rfl, w0⟩ := openAccs (hval 0 22 v0 rfl rfl) h0
  have k1 := h1
  have lt1 : ∀ x ∈ p1, x.block < W.heap.size := by obtain ⟨m, hm⟩ := k1; exact DataW.trod_lt m _ _ _ hm
  obtain ⟨A1, n1, c1, l1, rfl, w1⟩ := openDues (hval 1 23 v1 rfl rfl) h1
  clear hA0 hval0
  refine (walkSettleTells W A0 n0 c0 l0 w0 A1 n1 c1 l1 w1).mono fun e W' ⟨he, bel⟩ => ?_
  subst he
  exact ⟨_, rfl, _, _, _, [], _, [], hW', trodAll_mk1 (shut_bool Tryz.underlying4 _), (trodAll_cons_mk (Below.trod laidOut (by kernel_rfl) (of_decide_eq_true (by kernel_rfl)) k0 bel lt0) (trodAll_cons_mk (Below.trod laidOut (by kernel_rfl) (of_decide_eq_true (by kernel_rfl)) k1 bel lt1) trodAll_mk0)), rfl, bel.frame _, fun h => by cases h⟩
theorem over : Rows.settleTellsRow.holds Tryz.pinned (OpenSpec.ofChange Rows.settleTellsSpec) :=
  OpenClaim.holds_of_wide 3 Tryz.f3 rfl rfl rfl rfl rfl rfl rfl ⟨rfl, rfl, rfl, rfl, rfl⟩ rfl rfl rfl rfl rfl (by kernel_rfl) Tryz.func3 (by kernel_rfl)
    (of_decide_eq_true (by kernel_rfl)) (by unfold Func.isWrapper; first | (rw [if_pos (by decide +kernel)]; kernel_rfl) | (rw [if_neg (by decide +kernel)]; exact ⟨rfl, rfl⟩))
    (fun os started H enc _ => lifted os started H enc)
/-- The statement. -/
theorem proved : Rows.SettleTellsSaid := over
end Go.Proofs.YtnpinolhhnpniaaGreat.settleTells
