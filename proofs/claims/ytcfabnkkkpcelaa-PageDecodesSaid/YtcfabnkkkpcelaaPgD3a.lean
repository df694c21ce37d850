/- (*reader).page of a leaf: the walk. -/
import Derived.Test.YtcfabnkkkpcelaaPgD2
import Derived.Deep.DeepCutAuto
set_option linter.unusedSimpArgs false
set_option linter.unusedVariables false
namespace Go.Proofs.Ytcfabnkkkpcelaa
open Go.RowKit
set_option maxRecDepth 10000 in
set_option maxHeartbeats 4000000 in
theorem rpage1_any (w0 U : World) (g : Nat) (ep : Int) (rest : List Int) (h : Rd w0 U g (pgC (zE 0 ep) nilV nilV nilV nilV) rest) (hlen : 2 ≤ rest.length) :
    Calls Try.prog 46 #[.pointer (some ⟨g, 0, none⟩), .int .i64 1] U (RP w0 U g 1 ep rest) := by
  unfold pgC nilV zE at h
  simp only [pgZ] at h
  have c1 := h.cell 0 rfl
  have f1 := h.fz 1
  have HR0 := hid_ (h.set 0 (.int .i64 1))
  have HG0 := hid_ (setG U g 1 (.int .i64 1))
  simp only [List.set] at HR0
  have HL := hid_ h.lt
  clear h
  go_enter Try.func46, Try.ntmps46
  obtain ⟨x1, r1, e1, l1⟩ := rd2_ex hlen
  have hb1 := rd2_rng HR0.out.byt e1
  obtain ⟨n, rfl⟩ : ∃ n : Nat, x1 = (n : Int) := ⟨x1.toNat, by omega⟩
  have HN : Hid (n < 65536) := hid_ (by omega)
  have HRP : Hid (∀ ps r, rdLeaf n [] r1 = rdLeaf 0 ps r → rdP 1 ep rest = some { pgZ with kind := 1, epoch := ep, pairs := ps }) := hid_ (fun ps r hh => by
    rw [rdP, if_pos rfl, rd1]
    simp only [e1, Int.toNat_natCast, hh, rdLeaf])
  have HRN : Hid (rdLeaf n [] r1 = none → rdP 1 ep rest = none) := hid_ (fun hh => by
    rw [rdP, if_pos rfl, rd1]
    simp only [e1, Int.toNat_natCast, hh])
  have HE1 := hid_ e1
  clear e1 l1 hb1 hlen
  go_upto_region 3 with (fail)
  generalize U.setCell ⟨g, 1, none⟩ (.int .i64 1) = V at HR0 HG0 ⊢
  have HT := hid_ (two_ok w0 V g _ _ _ _ HR0.out HE1.out)
  clear c1 f1
  go_wp2_with (first | (go_at_call 59; with_reducible refine HT.out.mono ?_; rintro e w1 ⟨rfl, hR1, hG1⟩))
  have HG1 := hid_ (grown2 HG0.out hG1)
  have HR1 := hid_ hR1
  clear hR1 hG1 HT HR0 HG0 HE1
  go_loopw [4, 19] (fun _ i wr => ∃ (k : Nat) (ps : List PairV) (r : List Int) (v : Value), k ≤ n ∧ i = .int .i64 k ∧ Hid (Rd w0 wr g [.int .i64 1, v, .slice none 0 0, .slice none 0 0, .slice none 0 0, .int .i64 0, .int .u64 ep, .int .i64 0, .int .i64 0, .int .i64 0, .int .i64 0] r) ∧ Hid (Own pairT wr U.heap.size v ps) ∧ Hid (U.grownBy wr (some g)) ∧ Hid (rdLeaf n [] r1 = rdLeaf (n - k) ps r)) (fun _ i _ => n - (Go.RowKit.intOf i).toNat)
  case atStart => exact ⟨0, [], r1, .slice none 0 0, by omega, rfl, HR1, hid_ (Own.nil_ _ _ _), HG1, hid_ rfl⟩
  case round =>
    obtain ⟨k, ps, r, v, hk, rfl, hR, hO, hG, hE⟩ := hrel
    clear HR1 HG1
    obtain ⟨A, c, rfl, hc, hr⟩ := hO.out.reads
    clear hc hr
    by_cases hkn : k < n
    · have hst : rdLeaf (n - k) ps r = (if ps.length < 6 then match rdT r with | none => none | some (y, r2) => (match rdT r2 with | none => none | some (z, r3) => rdLeaf (n - (k + 1)) (ps ++ [⟨y, z⟩]) r3) else none) := by
        rw [show n - k = (n - (k + 1)) + 1 by omega, rdLeaf]
        split
        · cases rdT r with
          | none => rfl
          | some p =>
            obtain ⟨y, r2⟩ := p
            simp only
            cases rdT r2 <;> rfl
        · rfl
      have HNE := hid_ (ownNeG hO.out HL.out)
      have c2 := hR.out.cell 1 rfl
      by_cases h6 : ps.length < 6
      · rw [if_pos h6] at hst
        have H6 := hid_ h6
        have HD6 := hid_ (decide_eq_true (show (ps.length : Int) < 6 by omega))
        cases hd : rdT r with
        | none =>
          rw [hd] at hst
          have HF := hid_ (HRN.out (hE.out.trans hst))
          have HT := hid_ (stext_no w0 wr g _ _ hR.out hd)
          clear hst hd
          go_wp2_with (first | (go_at_call 44; rw [HD6.out]; refine (needs_ok _).mono ?_; rintro e _ ⟨rfl, rfl⟩) | (go_at_call 60; with_reducible refine HT.out.mono ?_; rintro e w2 ⟨rfl, hB2, hG2⟩))
          exact ⟨rfl, .inr ⟨HF.out, rfl, hB2, grown2 hG.out hG2⟩⟩
        | some p =>
          obtain ⟨y, r2⟩ := p
          rw [hd] at hst
          have HT := hid_ (stext_ok w0 wr g _ _ _ _ hR.out hd)
          have HST := hid_ (hE.out.trans hst)
          clear hst hd
          go_upto_region 7 with (first | (go_at_call 44; rw [HD6.out]; refine (needs_ok _).mono ?_; rintro e _ ⟨rfl, rfl⟩) | (go_at_call 60; with_reducible refine HT.out.mono ?_; rintro e wt ⟨rfl, hRt, hGt⟩))
          have HRt := hid_ hRt
          have HGt := hid_ (grown2 hG.out hGt)
          have HOt := hid_ (hO.out.kept_ hGt (.inr HNE.out))
          clear HT hRt hGt hG hO hR c2 h6
          have c2 := HRt.out.cell 1 rfl
          cases hd2 : rdT r2 with
          | none =>
            have HF := hid_ (HRN.out (HST.out.trans (by simp only [hd2])))
            have HT := hid_ (stext_no w0 wt.drew g _ _ HRt.out.drew hd2)
            have HGE := hid_ (grown2 HGt.out (((Bel.refl wt).drew).gG _))
            clear hd2
            go_region_dies
            all_goals (
              refine HT.out.mono ?_
              rintro e w2 ⟨rfl, hB2, hG2⟩
              go_wp2
              exact ⟨rfl, .inr ⟨HF.out, rfl, hB2, grown2 HGE.out hG2⟩⟩)
          | some p2 =>
            obtain ⟨z, r3⟩ := p2
            have HST2 : Hid (rdLeaf n [] r1 = rdLeaf (n - (k + 1)) (ps ++ [⟨y, z⟩]) r3) := hid_ (HST.out.trans (by simp only [hd2]))
            have HT := hid_ (stext_ok w0 wt.drew g _ _ _ _ HRt.out.drew hd2)
            have HOD := hid_ (HOt.out.bel ((Bel.refl wt).drew))
            have HGD := hid_ (grown2 HGt.out (((Bel.refl wt).drew).gG _))
            have HUS : Hid (∀ w1 : World, wt.drew.grownBy w1 (some g) → U.heap.size ≤ (w1.alloc (.cells #[.string y, .string z] 44)).heap.size) := hid_ (fun w1 hw => by have h1 := (grown2 HGD.out hw).size; simp; omega)
            have HKN := hid_ hkn
            have hnb := HN.out
            have HLN : Hid ((ps.length + 1) * 32 ≤ 140737488355328) := hid_ (by have := H6.out; omega)
            have HLQ : Hid ((ps ++ [(⟨y, z⟩ : PairV)]).length = ps.length + 1) := hid_ (by simp)
            have HUW : Hid (w0.heap.size ≤ U.heap.size) := hid_ (by have h1 := HRt.out.le; have h2 := HL.out; omega)
            clear hd2 HST
            go_region_law (first
              | (refine stepAppB pairS rfl _ _ rfl (.slice A ps.length c) ps [⟨y, z⟩] (some ⟨w1.heap.size, 0, none⟩) 1 1 rfl rfl (hO1.alloc_ _) (Row.one (T := pairT) ⟨y, z⟩ rfl rfl) (HUS.out w1 hG1) HLN.out ?_; intro v1 x1 hOx hgx hatx; have hBx := (hR1.bel.alloc _).grown_ hgx (fun q hq => Nat.le_trans HUW.out (HOD.out.base_ q hq)); have hRx := (hR1.alloc _).keep hgx HNE.out hBx; obtain ⟨A1, c1, rfl, hc1, hr1⟩ := hOx.readsN' HLQ.out; have k5x := hRx.cell 1 rfl; have f5x := hRx.fz 2)
              | (go_simp; go_wp2_with (go_at_call 60; with_reducible refine' Calls.mono HT.out ?_; rintro e w1 ⟨rfl, hR1, hG1⟩; have k5 := hR1.cell 1 rfl; have k5a := (hR1.alloc (.cells #[.string y, .string z] 44)).cell 1 rfl; have hO1 := HOD.out.kept_ hG1 (.inr HNE.out))))
            all_goals (
              have hRz := hRx.set 1 (.slice A1 (ps.length + 1) c1)
              simp only [List.set] at hRz
              have hOz := hOx.kept_ (setG x1 g 2 (.slice A1 (ps.length + 1) c1)) (.inr (ownNeG hOx HL.out))
              have hGx : U.grownBy x1 (some g) := grownT (grown2 (grown2 HGD.out hG1) (((Bel.refl w1).alloc _).gG _)) hgx HOD.out.base_
              have hGz := grown2 hGx (setG x1 g 2 (.slice A1 (ps.length + 1) c1))
              have HRz := hid_ hRz
              have HOz := hid_ hOz
              have HGz := hid_ hGz
              clear hRz hOz hGz hGx hRx hBx hOx hgx hatx k5x f5x hR1 hG1 k5 k5a hO1 c2 hr1 hc1 HT HOD HGD
              go_wp2
              case roundEnd =>
                go_roundw
                case rel => exact ⟨k + 1, ps ++ [⟨y, z⟩], r3, _, HKN.out, by go_num, HRz, HOz, HGz, HST2⟩
                case measure => have := HKN.out; simp [Go.RowKit.intOf]; omega)
      · rw [if_neg h6] at hst
        have HF := hid_ (HRN.out (hE.out.trans hst))
        have HD6 := hid_ (decide_eq_false (show ¬ (ps.length : Int) < 6 by omega))
        clear hst h6
        go_wp2_with (first | (go_at_call 44; rw [HD6.out]; refine (needs_no _).mono ?_; rintro e _ ⟨rfl, rfl⟩))
        exact ⟨rfl, .inr ⟨HF.out, rfl, hR.out.bel, hG.out⟩⟩
    · obtain rfl : k = n := by omega
      have h0 : rdLeaf (k - k) ps r = rdLeaf 0 ps r := by rw [Nat.sub_self]
      have HF := hid_ (HRP.out ps r (hE.out.trans h0))
      obtain ⟨A9, c9, e9, hc9, hr9⟩ := hO.out.reads
      injection e9 with e91 e92 e93
      subst e91 e93
      have HR9 := hid_ hr9
      have HC9 := hid_ hc9
      clear h0 hE HRN hr9 hc9 e92
      go_wp2
      first | go_end0 | (refine bodyPost_ret (results_none rfl _ _ _) rfl ?_)
      exact .inl ⟨_, _, nilV, nilV, nilV, r, HF.out, rfl, hR.out, ⟨A, _, c, none, 0, 0, none, 0, 0, none, 0, 0, rfl, HC9.out, Nat.le_refl _, Nat.le_refl _, Nat.le_refl _, ⟨HR9.out, Row.none_ _ _ _, Row.none_ _ _ _, Row.none_ _ _ _⟩⟩, hG.out⟩
end Go.Proofs.Ytcfabnkkkpcelaa
