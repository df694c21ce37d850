/- The document's Check of a pool. -/
import Derived.Test.YtboaidjhhlidkaaAl11
set_option linter.unusedSimpArgs false
set_option linter.unusedVariables false
namespace Go.Proofs.Ytboaidjhhlidkaa
open Go.RowKit
theorem eqBel' {w w' : World} (h : w = w') : Bel w w' := h ▸ Bel.refl w
theorem bothB_comm (F L : List Int) : bothB F L = bothB L F := by
  have : (bothB F L = true) ↔ (bothB L F = true) := by
    unfold bothB
    simp only [List.any_eq_true, decide_eq_true_eq]
    exact ⟨fun ⟨x, h1, h2⟩ => ⟨x, h2, h1⟩, fun ⟨x, h1, h2⟩ => ⟨x, h2, h1⟩⟩
  exact Bool.eq_iff_iff.2 this
set_option maxRecDepth 10000 in
set_option maxHeartbeats 4000000 in
theorem checkR_any (h most : Int) (A B : Option Addr) (n c m d : Nat) (F L : List Int) (w : World) (hA : Row intT w A n F) (hB : Row intT w B m L) :
    Calls Try.prog 41 #[.agg #[.int .i64 h, .slice A n c, .slice B m d], .int .i64 most] w fun e w' => e = .returned (.int .i64 (chkP h most F L)) ∧ Bel w w' := by
  have hm64 := hB.2.1
  have hO0 : okP h most F L = (decide (2 ≤ h) && (decide (h ≤ most) && (fineB h 1 F && (fineB h 1 L && !bothB L F)))) := by rw [okP, bothB_comm]
  have HO0 := hid_ hO0
  clear hO0
  go_enter Try.func41, Try.ntmps41
  have q := fun j => cell_of_row (w.alloc (.cells #[.int .i64 h, .slice A n c, .slice B m d] 48)) w.heap.size j _ _ _ (heap_alloc_new w _)
  have hb : Bel w (w.alloc (.cells #[.int .i64 h, .slice A n c, .slice B m d] 48)) := (Bel.refl w).alloc _
  go_wp2_with fail
  refine (fineR_any A n c F h _ (hA.bel hb)).mono ?_
  rintro e w1 ⟨rfl, b1⟩
  have k0 := b1.blk (heap_alloc_new w (.cells #[.int .i64 h, .slice A n c, .slice B m d] 48))
  have hb1 := hb.trans b1
  clear q hb b1
  have q := fun j => cell_of_row w1 _ j _ _ _ k0
  have K0 := hid_ k0
  clear k0
  go_wp2_with fail
  refine (fineR_any B m d L h _ (hB.bel hb1)).mono ?_
  rintro e w2 ⟨rfl, b2⟩
  have k0 := b2.blk K0.out
  have hb2 := hb1.trans b2
  clear q hb1 b2 K0
  have c0 := cell_of_row w2 _ 0 _ _ _ k0
  have c1 := cell_of_row w2 _ 1 _ _ _ k0
  have c2 := cell_of_row w2 _ 2 _ _ _ k0
  simp only [List.getElem?_toArray, List.getElem?_cons_succ, List.getElem?_cons_zero] at c0 c1 c2
  clear k0
  have rA := hA.bel hb2
  have rB := hB.bel hb2
  clear hA hB
  obtain ⟨f1, h1⟩ : ∃ f1, fineB h 1 F = f1 := ⟨_, rfl⟩
  obtain ⟨f2, h2⟩ : ∃ f2, fineB h 1 L = f2 := ⟨_, rfl⟩
  rw [h1, h2] at HO0 ⊢
  clear h1 h2
  by_cases q1 : h < 2
  · have HM : Hid (chkP h most F L = 61) := chkP_no (by rw [okP, decide_eq_false (show ¬ 2 ≤ h by omega), Bool.false_and])
    cases f1 <;> cases f2
    all_goals go_wp2
    all_goals go_ret
    all_goals exact ⟨by rw [HM.out]; rfl, hb2⟩
  · by_cases q2 : most < h
    · have HM : Hid (chkP h most F L = 61) := chkP_no (by rw [okP, decide_eq_false (show ¬ h ≤ most by omega), Bool.false_and, Bool.and_false])
      cases f1 <;> cases f2
      all_goals go_wp2
      all_goals go_ret
      all_goals exact ⟨by rw [HM.out]; rfl, hb2⟩
    · have HO : Hid (okP h most F L = (f1 && (f2 && !bothB L F))) := by rw [HO0.out, decide_eq_true (show 2 ≤ h by omega), decide_eq_true (show h ≤ most by omega), Bool.true_and, Bool.true_and]; exact rfl
      clear HO0
      cases f1
      · have HM : Hid (chkP h most F L = 61) := chkP_no HO.out
        clear HO
        cases f2
        all_goals go_wp2
        all_goals go_ret
        all_goals exact ⟨by rw [HM.out]; rfl, hb2⟩
      · cases f2
        · have HM : Hid (chkP h most F L = 61) := chkP_no HO.out
          clear HO
          go_wp2
          all_goals go_ret
          all_goals exact ⟨by rw [HM.out]; rfl, hb2⟩
        · go_wp2_with fail
          go_loopw [7, 8] (fun i _ wr => ∃ k : Nat, k ≤ m ∧ i = .int .i64 k ∧ bothB (L.take k) F = false ∧ Bel w2 wr) (fun i _ _ => m - (intOf i).toNat)
          case atStart => exact ⟨0, by omega, rfl, rfl, Bel.refl _⟩
          case round =>
            obtain ⟨k, hk, rfl, hx, hbr⟩ := hrel
            have e0 := hbr.cell_ c0
            have e1 := hbr.cell_ c1
            have e2 := hbr.cell_ c2
            by_cases hkm : k < m
            · have rB1 := rB.bel hbr
              obtain ⟨ad, y, rfl, ho, d0⟩ := rB1.int hkm
              have hst := any_take (fun x => decide (x ∈ F)) L k ho
              have htr := any_true (fun x => decide (x ∈ F)) L k ho
              have HST := hid_ hst
              have HTR := hid_ htr
              have HX := hid_ hx
              have RA := hid_ (rA.bel hbr)
              clear hst htr hx ho rA rB rB1 c0 c1 c2
              go_wp2_with fail
              go_region_held3 (fun W => W.cell? ⟨w.heap.size, 1, none⟩ = some (.slice A n c) ∧ W.cell? ⟨w.heap.size, 2, none⟩ = some (.slice (some ad) m d) ∧ W.cell? (ad.add k) = some (.int .i64 y)) (first | exact ⟨e1, e2, d0⟩ | exact ⟨(Bel.refl wr).drew.cell_ e1, (Bel.refl wr).drew.cell_ e2, (Bel.refl wr).drew.cell_ d0⟩ | exact ⟨b6.cell_ e1, b6.cell_ e2, b6.cell_ d0⟩)
                (first | (go_at_call 74; refine' (in_any A n c F y _ (RA.out.bel (by first | exact Bel.refl _ | exact (Bel.refl _).drew))).mono ?_; rintro e w6 ⟨rfl, hw⟩; have b6 : Bel wr w6 := Bel.trans (by first | exact Bel.refl _ | exact (Bel.refl _).drew) (eqBel' hw)))
              obtain ⟨t, ht⟩ : ∃ t, decide (y ∈ F) = t := ⟨_, rfl⟩
              rw [ht]
              have HT := hid_ ht
              have HB6 : Hid (Bel w2 w6) := hbr.trans b6
              clear ht b6 hw e0 e1 e2 d0 hbr RA
              cases t
              · go_wp2
                case roundEnd =>
                  go_roundw
                  case rel => exact ⟨k + 1, by omega, by go_num, by have h1 := HX.out; unfold bothB at h1 ⊢; rw [HST.out, h1, HT.out]; rfl, HB6.out⟩
                  case measure => simp [intOf]; omega
              · have h1 : bothB L F = true := HTR.out HT.out
                rw [h1] at HO
                have HM : Hid (chkP h most F L = 61) := chkP_no HO.out
                clear h1 HO HST HTR HX HT
                go_wp2
                go_ret
                exact ⟨by rw [HM.out]; rfl, hb2.trans HB6.out⟩
            · have : k = m := by omega
              subst this
              have hfull : L.take k = L := by rw [← rB.1, List.take_length]
              rw [hfull] at hx
              rw [hx] at HO
              have HM : Hid (chkP h most F L = 0) := chkP_yes HO.out
              clear hx HO hfull
              go_wp2
              go_ret
              exact ⟨by rw [HM.out]; rfl, hb2.trans hbr⟩
end Go.Proofs.Ytboaidjhhlidkaa
