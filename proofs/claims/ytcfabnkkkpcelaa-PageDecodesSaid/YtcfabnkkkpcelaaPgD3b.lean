/- (*reader).page of a branch: the walk. -/
import Derived.Test.YtcfabnkkkpcelaaPgD2
import Derived.Deep.DeepCutAuto
set_option linter.unusedSimpArgs false
set_option linter.unusedVariables false
namespace Go.Proofs.Ytcfabnkkkpcelaa
open Go.RowKit
set_option maxRecDepth 10000 in
set_option maxHeartbeats 4000000 in
theorem rpage2_any (w0 U : World) (g : Nat) (ep : Int) (rest : List Int) (h : Rd w0 U g (pgC (zE 0 ep) nilV nilV nilV nilV) rest) (hlen : 4 ≤ rest.length) :
    Calls Try.prog 46 #[.pointer (some ⟨g, 0, none⟩), .int .i64 2] U (RP w0 U g 2 ep rest) := by
  unfold pgC nilV zE at h
  simp only [pgZ] at h
  have c1 := h.cell 0 rfl
  have f1 := h.fz 1
  have HR0 := hid_ (h.set 0 (.int .i64 2))
  have HG0 := hid_ (setG U g 1 (.int .i64 2))
  simp only [List.set] at HR0
  have HL := hid_ h.lt
  clear h
  go_enter Try.func46, Try.ntmps46
  obtain ⟨x1, r0, e1, l1⟩ := rd2_ex (show 2 ≤ rest.length by omega)
  obtain ⟨d0, r1, e2, l2⟩ := rd2_ex (show 2 ≤ r0.length by omega)
  have hb1 := rd2_rng HR0.out.byt e1
  obtain ⟨n, rfl⟩ : ∃ n : Nat, x1 = (n : Int) := ⟨x1.toNat, by omega⟩
  have HN : Hid (n < 65536) := hid_ (by omega)
  have HRP : Hid (∀ ps ds r, rdBr n [] [d0] r1 = rdBr 0 ps ds r → rdP 2 ep rest = some { pgZ with kind := 2, epoch := ep, keys := ps, kids := ds }) := hid_ (fun ps ds r hh => by
    rw [rdP, if_neg (by decide), if_pos rfl, rdK2]
    simp only [e1, e2, Int.toNat_natCast, hh, rdBr])
  have HRN : Hid (rdBr n [] [d0] r1 = none → rdP 2 ep rest = none) := hid_ (fun hh => by
    rw [rdP, if_neg (by decide), if_pos rfl, rdK2]
    simp only [e1, e2, Int.toNat_natCast, hh])
  have HE1 := hid_ e1
  have HE2 := hid_ e2
  clear e1 e2 l1 l2 hb1 hlen
  go_upto_region 10 with (fail)
  generalize U.setCell ⟨g, 1, none⟩ (.int .i64 2) = V at HR0 HG0 ⊢
  have HT := hid_ (two_ok w0 V g _ _ _ _ HR0.out HE1.out)
  clear c1 f1
  go_upto_region 11 with (first | (go_at_call 59; with_reducible refine HT.out.mono ?_; rintro e w1 ⟨rfl, hR1, hG1⟩))
  have HG1 := hid_ (grown2 HG0.out hG1)
  have HR1 := hid_ hR1
  clear hR1 hG1 HT HR0 HG0 HE1
  have c4 := HR1.out.cell 3 rfl
  have HT := hid_ (two_ok w0 w1.drew g _ _ _ _ HR1.out.drew HE2.out)
  have HOD : Hid (Own intT w1.drew U.heap.size (.slice none 0 0) []) := hid_ (Own.nil_ _ _ _)
  have HGD := hid_ (grown2 HG1.out (((Bel.refl w1).drew).gG _))
  have HUS : Hid (∀ w2 : World, w1.drew.grownBy w2 (some g) → U.heap.size ≤ (w2.alloc (.cells #[.int .i64 d0] 3)).heap.size) := hid_ (fun w2 hw => by have h1 := (grown2 HGD.out hw).size; simp; omega)
  have HLN : Hid ((([] : List Int).length + 1) * 8 ≤ 140737488355328) := hid_ (by simp)
  have HLQ : Hid ((([] : List Int) ++ [d0]).length = 1) := hid_ rfl
  have HUW : Hid (w0.heap.size ≤ U.heap.size) := hid_ (by have h1 := HR1.out.le; have h2 := HL.out; omega)
  have HNN : Hid (Value.ownBlock (.slice none 0 0) ≠ some g) := hid_ (by simp [Value.ownBlock])
  go_region_law (first
    | (refine stepAppB intS rfl _ _ rfl (.slice none 0 0) [] [d0] (some ⟨w2.heap.size, 0, none⟩) 1 1 rfl rfl (hO1.alloc_ _) (Row.one (T := intT) d0 rfl rfl) (HUS.out w2 hG2) HLN.out ?_; intro v1 x1 hOx hgx hatx; have hBx := (hR2.bel.alloc _).grown_ hgx (fun q hq => Nat.le_trans HUW.out (HOD.out.base_ q hq)); have hRx := (hR2.alloc _).keep hgx HNN.out hBx; obtain ⟨A1, c1, rfl, hc1, hr1⟩ := hOx.readsN' HLQ.out; have k5x := hRx.cell 3 rfl; have f5x := hRx.fz 4)
    | (go_simp; go_wp2_with (go_at_call 59; with_reducible refine' Calls.mono HT.out ?_; rintro e w2 ⟨rfl, hR2, hG2⟩; have k5 := hR2.cell 3 rfl; have k5a := (hR2.alloc (.cells #[.int .i64 d0] 3)).cell 3 rfl; have hO1 := HOD.out.kept_ hG2 (.inr HNN.out))))
  all_goals (
    have hRz := hRx.set 3 (.slice A1 1 c1)
    simp only [List.set] at hRz
    have hOz := hOx.kept_ (setG x1 g 4 (.slice A1 1 c1)) (.inr (ownNeG hOx HL.out))
    have hGx : U.grownBy x1 (some g) := grownT (grown2 (grown2 HGD.out hG2) (((Bel.refl w2).alloc _).gG _)) hgx HOD.out.base_
    have hGz := grown2 hGx (setG x1 g 4 (.slice A1 1 c1))
    have HRz := hid_ hRz
    have HOz := hid_ hOz
    have HGz := hid_ hGz
    clear hRz hOz hGz hGx hRx hBx hOx hgx hatx k5x f5x hR2 hG2 k5 k5a hO1 c4 hr1 hc1 HT HOD HGD HUS HLN HLQ HNN HR1 HG1
    go_wp2_with fail
    go_loopw [73] (fun i wr => ∃ (k : Nat) (ps : List ByteArray) (ds r : List Int) (v u : Value), k ≤ n ∧ i = .int .i64 k ∧ Hid (Rd w0 wr g [.int .i64 2, .slice none 0 0, v, u, .slice none 0 0, .int .i64 0, .int .u64 ep, .int .i64 0, .int .i64 0, .int .i64 0, .int .i64 0] r) ∧ Hid (Own strT wr U.heap.size v ps) ∧ Hid (Own intT wr U.heap.size u ds) ∧ Hid (NeRow v u) ∧ Hid (U.grownBy wr (some g)) ∧ Hid (rdBr n [] [d0] r1 = rdBr (n - k) ps ds r) ∧ Hid (ds.length = k + 1)) (fun i _ => n - (Go.RowKit.intOf i).toNat)
    case atStart => exact ⟨0, [], [d0], r1, .slice none 0 0, _, by omega, rfl, HRz, hid_ (Own.nil_ _ _ _), HOz, hid_ (NeRow.nilL _), HGz, hid_ rfl, hid_ rfl⟩
    case round =>
      obtain ⟨k, ps, ds, r, v, u, hk, rfl, hR, hO, hU, hNE, hG, hE, hD⟩ := hrel
      clear HRz HOz HGz
      obtain ⟨A, c, rfl, hc, hr⟩ := hO.out.reads
      clear hc hr
      by_cases hkn : k < n
      · have hst : rdBr (n - k) ps ds r = (if ps.length < 12 then match rdT r with | none => none | some (y, r2) => (match rd2 r2 with | none => none | some (z, r3) => rdBr (n - (k + 1)) (ps ++ [y]) (ds ++ [z]) r3) else none) := by
          rw [show n - k = (n - (k + 1)) + 1 by omega, rdBr]
          split
          · cases rdT r with
            | none => rfl
            | some p =>
              obtain ⟨y, r2⟩ := p
              simp only
              cases rd2 r2 <;> rfl
          · rfl
        have HNV := hid_ (ownNeG hO.out HL.out)
        have HNU := hid_ (ownNeG hU.out HL.out)
        have c3 := hR.out.cell 2 rfl
        by_cases h6 : ps.length < 12
        · rw [if_pos h6] at hst
          have H6 := hid_ h6
          have HD6 := hid_ (decide_eq_true (show (ps.length : Int) < 12 by omega))
          clear h6
          go_upto_region 15 with (first | (go_at_call 44; rw [HD6.out]; refine (needs_ok _).mono ?_; rintro e _ ⟨rfl, rfl⟩))
          cases hd : rdT r with
          | none =>
            rw [hd] at hst
            have HF := hid_ (HRN.out (hE.out.trans hst))
            have HT := hid_ (stext_no w0 wr.drew g _ _ hR.out.drew hd)
            have HGE := hid_ (grown2 hG.out (((Bel.refl wr).drew).gG _))
            clear hst hd
            go_region_dies
            all_goals (
              refine HT.out.mono ?_
              rintro e w2 ⟨rfl, hB2, hG2⟩
              go_wp2
              exact ⟨rfl, .inr ⟨HF.out, rfl, hB2, grown2 HGE.out hG2⟩⟩)
          | some p =>
            obtain ⟨y, r2⟩ := p
            rw [hd] at hst
            have HST := hid_ (hE.out.trans hst)
            have HT := hid_ (stext_ok w0 wr.drew g _ _ _ _ hR.out.drew hd)
            have HOD := hid_ (hO.out.bel ((Bel.refl wr).drew))
            have HUD := hid_ (hU.out.bel ((Bel.refl wr).drew))
            have HGD := hid_ (grown2 hG.out (((Bel.refl wr).drew).gG _))
            have HUS : Hid (∀ w1 : World, wr.drew.grownBy w1 (some g) → U.heap.size ≤ (w1.alloc (.cells #[.string y] 9)).heap.size) := hid_ (fun w1 hw => by have h1 := (grown2 HGD.out hw).size; simp; omega)
            have HLN : Hid ((ps.length + 1) * 16 ≤ 140737488355328) := hid_ (by have := H6.out; omega)
            have HLQ : Hid ((ps ++ [y]).length = ps.length + 1) := hid_ (by simp)
            clear hst hd
            go_region_law (first
              | (refine stepAppB strS rfl _ _ rfl (.slice A ps.length c) ps [y] (some ⟨w1.heap.size, 0, none⟩) 1 1 rfl rfl (hO1.alloc_ _) (Row.one (T := strT) y rfl rfl) (HUS.out w1 hG1) HLN.out ?_; intro v1 x1 hOx hgx hatx; have hBx := (hR1.bel.alloc _).grown_ hgx (fun q hq => Nat.le_trans HUW.out (HOD.out.base_ q hq)); have hRx := (hR1.alloc _).keep hgx HNV.out hBx; obtain ⟨A1, c1, rfl, hc1, hr1⟩ := hOx.readsN' HLQ.out; have k5x := hRx.cell 2 rfl; have f5x := hRx.fz 3)
              | (go_simp; go_wp2_with (go_at_call 60; with_reducible refine' Calls.mono HT.out ?_; rintro e w1 ⟨rfl, hR1, hG1⟩; have k5 := hR1.cell 2 rfl; have k5a := (hR1.alloc (.cells #[.string y] 9)).cell 2 rfl; have hO1 := HOD.out.kept_ hG1 (.inr HNV.out); have hU1 := HUD.out.kept_ hG1 (.inr HNU.out))))
            all_goals (
              have hRz := hRx.set 2 (.slice A1 (ps.length + 1) c1)
              simp only [List.set] at hRz
              have hUx := (hU1.alloc_ _).kept_ hgx hNE.out.other
              have hNx := hNE.out.app hatx (hU1.alloc_ _)
              have hOz := hOx.kept_ (setG x1 g 3 (.slice A1 (ps.length + 1) c1)) (.inr (ownNeG hOx HL.out))
              have hUz := hUx.kept_ (setG x1 g 3 (.slice A1 (ps.length + 1) c1)) (.inr HNU.out)
              have hGx : U.grownBy x1 (some g) := grownT (grown2 (grown2 HGD.out hG1) (((Bel.refl w1).alloc _).gG _)) hgx HOD.out.base_
              have hGz := grown2 hGx (setG x1 g 3 (.slice A1 (ps.length + 1) c1))
              clear hRx hBx hOx hgx hatx k5x f5x hR1 hG1 k5 k5a hO1 hU1 hUx hGx c3 hr1 hc1 HT HOD HUD HGD HUS HLN HLQ
              generalize hx2 : x1.setCell ⟨g, 3, none⟩ (.slice A1 (ps.length + 1) c1) = wt at hRz hOz hUz hGz
              go_upto_region 16 with (fail)
              try rw [hx2]
              clear hx2
              have HRt := hid_ hRz
              have HOt := hid_ hOz
              have HUt := hid_ hUz
              have HGt := hid_ hGz
              have HNt := hid_ hNx
              have HNV2 := hid_ (ownNeG hOz HL.out)
              clear hRz hOz hUz hGz hNx
              have c4 := HRt.out.cell 3 rfl
              cases hd2 : rd2 r2 with
              | none =>
                have HF := hid_ (HRN.out (HST.out.trans (by simp only [hd2])))
                have HT := hid_ (two_no w0 wt.drew g _ _ HRt.out.drew hd2)
                have HBE := hid_ HRt.out.bel.drew
                have HGE := hid_ (grown2 HGt.out (((Bel.refl wt).drew).gG _))
                clear hd2
                go_region_dies
                all_goals (
                  refine HT.out.mono ?_
                  rintro e w2 ⟨rfl, rfl⟩
                  go_wp2
                  exact ⟨rfl, .inr ⟨HF.out, rfl, HBE.out, HGE.out⟩⟩)
              | some p2 =>
                obtain ⟨z, r3⟩ := p2
                have HST2 : Hid (rdBr n [] [d0] r1 = rdBr (n - (k + 1)) (ps ++ [y]) (ds ++ [z]) r3) := hid_ (HST.out.trans (by simp only [hd2]))
                have HT := hid_ (two_ok w0 wt.drew g _ _ _ _ HRt.out.drew hd2)
                have HOD := hid_ (HOt.out.bel ((Bel.refl wt).drew))
                have HUD := hid_ (HUt.out.bel ((Bel.refl wt).drew))
                have HGD := hid_ (grown2 HGt.out (((Bel.refl wt).drew).gG _))
                have HUS : Hid (∀ w1 : World, wt.drew.grownBy w1 (some g) → U.heap.size ≤ (w1.alloc (.cells #[.int .i64 z] 3)).heap.size) := hid_ (fun w1 hw => by have h1 := (grown2 HGD.out hw).size; simp; omega)
                have HKN := hid_ hkn
                have hnb := HN.out
                have HLN : Hid ((ds.length + 1) * 8 ≤ 140737488355328) := hid_ (by have := hD.out; omega)
                have HLQ : Hid ((ds ++ [z]).length = k + 1 + 1) := hid_ (by have := hD.out; simp [this])
                clear hd2 HST
                go_region_law (first
                  | (refine stepAppB intS rfl _ _ rfl u ds [z] (some ⟨w1.heap.size, 0, none⟩) 1 1 rfl rfl (hU1.alloc_ _) (Row.one (T := intT) z rfl rfl) (HUS.out w1 hG1) HLN.out ?_; intro v1 x1 hUx hgx hatx; have hBx := (hR1.bel.alloc _).grown_ hgx (fun q hq => Nat.le_trans HUW.out (HUD.out.base_ q hq)); have hRx := (hR1.alloc _).keep hgx HNU.out hBx; obtain ⟨A2, c2, rfl, hc2, hr2⟩ := hUx.readsN' HLQ.out; have k5x := hRx.cell 3 rfl; have f5x := hRx.fz 4)
                  | (go_simp; go_wp2_with (go_at_call 59; with_reducible refine' Calls.mono HT.out ?_; rintro e w1 ⟨rfl, hR1, hG1⟩; have k5 := hR1.cell 3 rfl; have k5a := (hR1.alloc (.cells #[.int .i64 z] 3)).cell 3 rfl; have hO1 := HOD.out.kept_ hG1 (.inr HNV2.out); have hU1 := HUD.out.kept_ hG1 (.inr HNU.out))))
                all_goals (
                  have hRz := hRx.set 3 (.slice A2 (k + 1 + 1) c2)
                  simp only [List.set] at hRz
                  have hOx := (hO1.alloc_ _).kept_ hgx HNt.out.symm.other
                  have hNx := (HNt.out.symm.app hatx (hO1.alloc_ _)).symm
                  have hOz := hOx.kept_ (setG x1 g 4 (.slice A2 (k + 1 + 1) c2)) (.inr HNV2.out)
                  have hUz := hUx.kept_ (setG x1 g 4 (.slice A2 (k + 1 + 1) c2)) (.inr (ownNeG hUx HL.out))
                  have hGx : U.grownBy x1 (some g) := grownT (grown2 (grown2 HGD.out hG1) (((Bel.refl w1).alloc _).gG _)) hgx HUD.out.base_
                  have hGz := grown2 hGx (setG x1 g 4 (.slice A2 (k + 1 + 1) c2))
                  have HRz := hid_ hRz
                  have HOz := hid_ hOz
                  have HUz := hid_ hUz
                  have HGz := hid_ hGz
                  have HNz := hid_ hNx
                  clear hRz hOz hUz hGz hNx hOx hGx hRx hBx hUx hgx hatx k5x f5x hR1 hG1 k5 k5a hO1 hU1 c4 hr2 hc2 HT HOD HUD HGD
                  go_wp2
                  case roundEnd =>
                    go_roundw
                    case rel => exact ⟨k + 1, ps ++ [y], ds ++ [z], r3, _, _, HKN.out, by go_num, HRz, HOz, HUz, HNz, HGz, HST2, HLQ⟩
                    case measure => have := HKN.out; simp [Go.RowKit.intOf]; omega))
        · rw [if_neg h6] at hst
          have HF := hid_ (HRN.out (hE.out.trans hst))
          have HD6 := hid_ (decide_eq_false (show ¬ (ps.length : Int) < 12 by omega))
          clear hst h6
          go_wp2_with (first | (go_at_call 44; rw [HD6.out]; refine (needs_no _).mono ?_; rintro e _ ⟨rfl, rfl⟩))
          exact ⟨rfl, .inr ⟨HF.out, rfl, hR.out.bel, hG.out⟩⟩
      · obtain rfl : k = n := by omega
        have h0 : rdBr (k - k) ps ds r = rdBr 0 ps ds r := by rw [Nat.sub_self]
        have HF := hid_ (HRP.out ps ds r (hE.out.trans h0))
        obtain ⟨A9, c9, e9, hc9, hr9⟩ := hO.out.reads
        injection e9 with e91 e92 e93
        subst e91 e93
        obtain ⟨A8, c8, rfl, hc8, hr8⟩ := hU.out.reads
        have HR9 := hid_ hr9
        have HC9 := hid_ hc9
        have HR8 := hid_ hr8
        have HC8 := hid_ hc8
        clear h0 hE HRN hr9 hc9 e92 hr8 hc8
        go_wp2
        first | go_end0 | (refine bodyPost_ret (results_none rfl _ _ _) rfl ?_)
        exact .inl ⟨_, nilV, _, _, nilV, r, HF.out, rfl, hR.out, ⟨none, 0, 0, A, _, c, A8, _, c8, none, 0, 0, rfl, Nat.le_refl _, HC9.out, HC8.out, Nat.le_refl _, ⟨Row.none_ _ _ _, HR9.out, HR8.out, Row.none_ _ _ _⟩⟩, hG.out⟩)
end Go.Proofs.Ytcfabnkkkpcelaa
