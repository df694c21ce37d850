/- The document's laid. -/
import Derived.Test.YtboaidjhhlidkaaAl5
set_option linter.unusedSimpArgs false
set_option linter.unusedVariables false
namespace Go.Proofs.Ytboaidjhhlidkaa
open Go.RowKit
theorem Own.lit' (w : World) (base b : Nat) (hb : b = w.heap.size) (hw : base ≤ w.heap.size) : Own intT (w.alloc (.cells #[] intT.e)) base (.slice (some ⟨b, 0, none⟩) 0 0) [] := by
  subst hb
  exact Own.lit (T := intT) w base [] hw (by simp)
theorem Row.grown_ {α : Type} {T : Ty α} {W w1 : World} {A : Option Addr} {n : Nat} {xs : List α} {row : Option Nat} (h : Row T W A n xs) (hg : W.grownBy w1 row) (hne : ∀ ad, A = some ad → some ad.block ≠ row) : Row T w1 A n xs := by
  refine ⟨h.1, h.2.1, fun hn => ?_⟩
  obtain ⟨ad, e, hc⟩ := h.2.2 hn
  refine ⟨ad, e, fun j x hj i u hu => hg.cell (hc j x hj i u hu) ?_⟩
  have hb : (ad.add (j * T.sz + i)).block = ad.block := by unfold Addr.add; split <;> rfl
  rw [hb]
  exact hne ad e
set_option maxRecDepth 10000 in
set_option maxHeartbeats 2000000 in
theorem laidR_any (A : Option Addr) (n c : Nat) (l : List Int) (page : Int) (w : World) (h1 : Row intT w A n l) (hc : n ≤ c) (hs : n ≤ 100000) :
    Calls Try.prog 66 #[.slice A n c, .int .i64 page] w fun e w' => ∃ v, e = .returned v ∧ Own intT w' w.heap.size v (laidP l page) ∧ Bel w w' := by
  have hn := h1.2.1
  go_enter Try.func66, Try.ntmps66
  go_wp2
  go_loop [5] (fun i => ∃ k : Nat, k ≤ n ∧ i = .int .i64 k ∧ k ≤ atP l page) (fun i => n - (intOf i).toNat)
  case atStart => exact ⟨0, by omega, rfl, by omega⟩
  case round =>
    obtain ⟨k, hk, rfl, hx⟩ := hrel
    by_cases hkn : k < n
    · obtain ⟨ad, y, rfl, ho, d0⟩ := h1.int hkn
      have hst := atP_step l page k y hx ho
      have HST := hid_ hst
      clear hst ho
      by_cases hxy : y < page
      · clear hx
        go_wp2
        case roundEnd =>
          go_round
          case rel => exact ⟨k + 1, by omega, by go_num, HST.out.1 hxy⟩
          case measure => simp [intOf]; omega
      · have hat := HST.out.2 hxy
        clear HST hx
        obtain ⟨A', hcut, hrow⟩ := intS.cutFrom .i64 (some ad) n c k hk hc
        have hcut2 := fun W => intS.cutTo .i64 (some ad) n c k (by omega) W
        have ra := hrow _ _ h1
        have rt := h1.take_ hk
        have hL : laidP l page = [] ++ l.take k ++ [page] ++ l.drop k := by unfold laidP; rw [hat]; rfl
        have hlt : (l.take k).length = k := by rw [List.length_take, h1.1]; omega
        have HL := hid_ hL
        clear hrow hL hat h1
        go_wp2_with fail
        go_region_held3 (fun W => Bel w W) (repeat first | exact Bel.refl _ | exact hb1 | exact hb2 | exact hb3 | apply Bel.drew | apply Bel.alloc)
          (first | (refine stepApp (w0 := w) intS rfl _ _ rfl _ [] (l.take k) ((some ad)) k c rfl rfl ((Own.lit (T := intT) w w.heap.size [] (Nat.le_refl _) (by simp)).bel (by repeat first | exact Bel.refl _ | apply Bel.drew | apply Bel.alloc)) (rt.bel (by repeat first | exact Bel.refl _ | apply Bel.drew | apply Bel.alloc)) (by repeat first | exact Bel.refl _ | apply Bel.drew | apply Bel.alloc) (by simp; omega) ?_; intro v1 x1 hO1 hb1 hg1 hat1) | (refine stepApp (w0 := w) intS rfl _ _ rfl _ [] (l.take k) ((some ad)) k c rfl rfl ((Own.lit' (w.alloc (.cells #[.int .i64 page] 3)) w.heap.size (w.heap.size + 1) (sizeAl _ _).symm (by rw [sizeAl]; omega)).bel (by repeat first | exact Bel.refl _ | apply Bel.drew | apply Bel.alloc)) (rt.bel (by repeat first | exact Bel.refl _ | apply Bel.drew | apply Bel.alloc)) (by repeat first | exact Bel.refl _ | apply Bel.drew | apply Bel.alloc) (by simp; omega) ?_; intro v1 x1 hO1 hb1 hg1 hat1) | (refine stepApp (w0 := w) intS rfl _ _ rfl v1 ([] ++ l.take k) [page] (some ⟨x1.heap.size, 0, none⟩) 1 1 rfl rfl (hO1.bel ((Bel.refl _).alloc _)) (Row.one (T := intT) _ rfl rfl) (hb1.alloc _) (by simp; omega) ?_; intro v2 x2 hO2 hb2 hg2 hat2) | (refine stepApp (w0 := w) intS rfl _ _ rfl v1 ([] ++ l.take k) [page] (some ⟨w.heap.size + 1, 0, none⟩) 1 1 rfl rfl hO1 (Row.grown_ ((Row.one (T := intT) (W := w.alloc (.cells #[] 3)) page rfl (sizeAl _ _).symm).bel (Bel.refl _).drew) hg1 (by intro ad e; cases e; show some (w.heap.size + 1) ≠ some w.heap.size; simp)) hb1 (by simp; omega) ?_; intro v2 x2 hO2 hb2 hg2 hat2) | (refine stepApp (w0 := w) intS rfl _ _ rfl v1 ([] ++ l.take k) [page] (some ⟨w.heap.size, 0, none⟩) 1 1 rfl rfl hO1 (Row.grown_ (((Row.one (T := intT) (W := w) page rfl rfl).bel ((Bel.refl _).alloc _)).bel (Bel.refl _).drew) hg1 (by intro ad e; cases e; show some w.heap.size ≠ some (w.heap.size + 1); simp)) hb1 (by simp; omega) ?_; intro v2 x2 hO2 hb2 hg2 hat2) | (refine stepApp (w0 := w) intS rfl _ _ rfl v2 ([] ++ l.take k ++ [page]) (l.drop k) A' (n - k) (c - k) rfl rfl hO2 (ra.bel hb2) hb2 (by simp; omega) ?_; intro v3 x3 hO3 hb3 hg3 hat3))
        all_goals rw [← HL.out] at hO3
        all_goals clear hO1 hO2 hb1 hb2 hg1 hg2 hg3 hat1 hat2 hat3 ra rt HL
        all_goals go_wp2
        all_goals go_ret
        all_goals exact ⟨_, rfl, hO3, hb3⟩
    · have : k = n := by omega
      subst this
      have hat : atP l page = k := by have := atP_le l page; rw [h1.1] at this; omega
      clear hx
      obtain ⟨A', hcut, hrow⟩ := intS.cutFrom .i64 A k c k hk hc
      have hcut2 := fun W => intS.cutTo .i64 A k c k (by omega) W
      have ra := hrow _ _ h1
      have rt := h1.take_ hk
      have hL : laidP l page = [] ++ l.take k ++ [page] ++ l.drop k := by unfold laidP; rw [hat]; rfl
      have hlt : (l.take k).length = k := by rw [List.length_take, h1.1]; omega
      have hz : k - k = 0 := Nat.sub_self k
      rw [hz] at ra
      simp only [Nat.sub_self] at hcut
      have HL := hid_ hL
      clear hrow hL hat h1
      go_wp2_with fail
      go_region_held3 (fun W => Bel w W) (repeat first | exact Bel.refl _ | exact hb1 | exact hb2 | exact hb3 | apply Bel.drew | apply Bel.alloc)
        (first | (refine stepApp (w0 := w) intS rfl _ _ rfl _ [] (l.take k) (A) k c rfl rfl ((Own.lit (T := intT) w w.heap.size [] (Nat.le_refl _) (by simp)).bel (by repeat first | exact Bel.refl _ | apply Bel.drew | apply Bel.alloc)) (rt.bel (by repeat first | exact Bel.refl _ | apply Bel.drew | apply Bel.alloc)) (by repeat first | exact Bel.refl _ | apply Bel.drew | apply Bel.alloc) (by simp; omega) ?_; intro v1 x1 hO1 hb1 hg1 hat1) | (refine stepApp (w0 := w) intS rfl _ _ rfl _ [] (l.take k) (A) k c rfl rfl ((Own.lit' (w.alloc (.cells #[.int .i64 page] 3)) w.heap.size (w.heap.size + 1) (sizeAl _ _).symm (by rw [sizeAl]; omega)).bel (by repeat first | exact Bel.refl _ | apply Bel.drew | apply Bel.alloc)) (rt.bel (by repeat first | exact Bel.refl _ | apply Bel.drew | apply Bel.alloc)) (by repeat first | exact Bel.refl _ | apply Bel.drew | apply Bel.alloc) (by simp; omega) ?_; intro v1 x1 hO1 hb1 hg1 hat1) | (refine stepApp (w0 := w) intS rfl _ _ rfl v1 ([] ++ l.take k) [page] (some ⟨x1.heap.size, 0, none⟩) 1 1 rfl rfl (hO1.bel ((Bel.refl _).alloc _)) (Row.one (T := intT) _ rfl rfl) (hb1.alloc _) (by simp; omega) ?_; intro v2 x2 hO2 hb2 hg2 hat2) | (refine stepApp (w0 := w) intS rfl _ _ rfl v1 ([] ++ l.take k) [page] (some ⟨w.heap.size + 1, 0, none⟩) 1 1 rfl rfl hO1 (Row.grown_ ((Row.one (T := intT) (W := w.alloc (.cells #[] 3)) page rfl (sizeAl _ _).symm).bel (Bel.refl _).drew) hg1 (by intro ad e; cases e; show some (w.heap.size + 1) ≠ some w.heap.size; simp)) hb1 (by simp; omega) ?_; intro v2 x2 hO2 hb2 hg2 hat2) | (refine stepApp (w0 := w) intS rfl _ _ rfl v1 ([] ++ l.take k) [page] (some ⟨w.heap.size, 0, none⟩) 1 1 rfl rfl hO1 (Row.grown_ (((Row.one (T := intT) (W := w) page rfl rfl).bel ((Bel.refl _).alloc _)).bel (Bel.refl _).drew) hg1 (by intro ad e; cases e; show some w.heap.size ≠ some (w.heap.size + 1); simp)) hb1 (by simp; omega) ?_; intro v2 x2 hO2 hb2 hg2 hat2) | (refine stepApp (w0 := w) intS rfl _ _ rfl v2 ([] ++ l.take k ++ [page]) (l.drop k) A' (0) (c - k) rfl rfl hO2 (ra.bel hb2) hb2 (by simp; omega) ?_; intro v3 x3 hO3 hb3 hg3 hat3))
      all_goals rw [← HL.out] at hO3
      all_goals clear hO1 hO2 hb1 hb2 hg1 hg2 hg3 hat1 hat2 hat3 ra rt HL
      all_goals go_wp2
      all_goals go_ret
      all_goals exact ⟨_, rfl, hO3, hb3⟩
end Go.Proofs.Ytboaidjhhlidkaa
