/- The document's own. -/
import Derived.Test.YtboaidjhhlidkaaAl7
set_option linter.unusedSimpArgs false
set_option linter.unusedVariables false
namespace Go.Proofs.Ytboaidjhhlidkaa
open Go.RowKit
theorem ownNe1 {w : World} {base : Nat} {v : Value} {xs : List Int} (h : Own intT w base v xs) : v.ownBlock = none ∨ v.ownBlock ≠ some w.heap.size := by
  cases hv : v.ownBlock with
  | none => exact .inl rfl
  | some k =>
    refine .inr fun e => ?_
    have := (World.ownsRow.lt h k hv).2
    injection e with e
    omega
theorem ownNe2 {v1 v : Value} {q s : Nat} (h : v1.ownBlock = v.ownBlock ∨ ∃ b, v1.ownBlock = some b ∧ s ≤ b) (h1 : v.ownBlock ≠ some q) (h2 : q < s) : v1.ownBlock = none ∨ v1.ownBlock ≠ some q := by
  rcases h with h | ⟨b, h, hb⟩
  · rw [h]; exact .inr h1
  · rw [h]
    refine .inr fun e => ?_
    injection e with e
    omega
set_option maxRecDepth 10000 in
set_option maxHeartbeats 20000000 in
theorem ownR_any (h : Int) (A B : Option Addr) (n c m d : Nat) (F L : List Int) (w : World) (hA : Row intT w A n F) (hB : Row intT w B m L) (hs1 : n ≤ 1000000) (hs2 : m ≤ 1000000) :
    Calls Try.prog 62 #[.agg #[.int .i64 h, .slice A n c, .slice B m d]] w fun e w' => ∃ v1 v2, e = .returned (.agg #[.int .i64 h, v1, v2]) ∧ Own intT w' w.heap.size v1 F ∧ Own intT w' w.heap.size v2 L ∧ Bel w w' := by
  go_enter Try.func62, Try.ntmps62
  go_wp2_with fail
  have k0 := blkOld' (heap_alloc_new w (.cells #[.int .i64 h, .slice A n c, .slice B m d] 48)) (.cells #[.int .i64 0, .slice none 0 0, .slice none 0 0] 48)
  have k1 := heap_alloc_new (w.alloc (.cells #[.int .i64 h, .slice A n c, .slice B m d] 48)) (.cells #[.int .i64 0, .slice none 0 0, .slice none 0 0] 48)
  rw [sizeAl] at k1
  have hb : Bel w ((w.alloc (.cells #[.int .i64 h, .slice A n c, .slice B m d] 48)).alloc (.cells #[.int .i64 0, .slice none 0 0, .slice none 0 0] 48)) := ((Bel.refl w).alloc _).alloc _
  have hsz : ((w.alloc (.cells #[.int .i64 h, .slice A n c, .slice B m d] 48)).alloc (.cells #[.int .i64 0, .slice none 0 0, .slice none 0 0] 48)).heap.size = w.heap.size + 2 := by rw [sizeAl, sizeAl]
  generalize (w.alloc (.cells #[.int .i64 h, .slice A n c, .slice B m d] 48)).alloc (.cells #[.int .i64 0, .slice none 0 0, .slice none 0 0] 48) = W0 at *
  have c0 := cell_of_row W0 _ 0 _ _ _ k0
  have c1 := cell_of_row W0 _ 1 _ _ _ k0
  have c2 := cell_of_row W0 _ 2 _ _ _ k0
  simp only [List.getElem?_toArray, List.getElem?_cons_succ, List.getElem?_cons_zero] at c0 c1 c2
  have K1 := hid_ k1
  clear k0 k1
  have HS := hid_ hsz
  clear hsz
  have rA := hA.bel hb
  have rB := hB.bel hb
  go_region_held3 (fun W => W.cell? ⟨w.heap.size, 0, none⟩ = some (.int .i64 h) ∧ W.cell? ⟨w.heap.size, 1, none⟩ = some (.slice A n c) ∧ W.cell? ⟨w.heap.size, 2, none⟩ = some (.slice B m d)) (first | exact ⟨((World.cell?_setCell_far _ _ _ _ (by simp)).trans ((World.cell?_setCell_far _ _ _ _ (by simp)).trans (World.cell?_setCell_far _ _ _ _ (by simp)))).trans (hb2.cell_ c0), ((World.cell?_setCell_far _ _ _ _ (by simp)).trans ((World.cell?_setCell_far _ _ _ _ (by simp)).trans (World.cell?_setCell_far _ _ _ _ (by simp)))).trans (hb2.cell_ c1), ((World.cell?_setCell_far _ _ _ _ (by simp)).trans ((World.cell?_setCell_far _ _ _ _ (by simp)).trans (World.cell?_setCell_far _ _ _ _ (by simp)))).trans (hb2.cell_ c2)⟩ | exact ⟨Bel.cell_ (w := W0) (by (repeat first | exact Bel.refl _ | exact hb1 | exact hb2 | apply Bel.drew | apply Bel.alloc)) c0, Bel.cell_ (w := W0) (by (repeat first | exact Bel.refl _ | exact hb1 | exact hb2 | apply Bel.drew | apply Bel.alloc)) c1, Bel.cell_ (w := W0) (by (repeat first | exact Bel.refl _ | exact hb1 | exact hb2 | apply Bel.drew | apply Bel.alloc)) c2⟩)
    (first | (refine stepApp (w0 := W0) intS rfl _ _ rfl _ [] F A n c rfl rfl ((Own.lit' W0 W0.heap.size W0.heap.size rfl (Nat.le_refl _)).bel (by (repeat first | exact Bel.refl _ | apply Bel.drew | apply Bel.alloc))) (rA.bel (by (repeat first | exact Bel.refl _ | apply Bel.drew | apply Bel.alloc))) (by (repeat first | exact Bel.refl _ | apply Bel.drew | apply Bel.alloc)) (by simp; omega) ?_; intro v1 x1 hO1 hb1 hg1 hat1) | (refine stepApp (w0 := W0) intS rfl _ _ rfl _ [] F A n c rfl rfl ((Own.lit' (W0.alloc (Obj.cells #[] 3)) W0.heap.size (W0.heap.size + 1) (sizeAl _ _).symm (by rw [sizeAl]; omega)).bel (by (repeat first | exact Bel.refl _ | apply Bel.drew | apply Bel.alloc))) (rA.bel (by (repeat first | exact Bel.refl _ | apply Bel.drew | apply Bel.alloc))) (by (repeat first | exact Bel.refl _ | apply Bel.drew | apply Bel.alloc)) (by simp; omega) ?_; intro v1 x1 hO1 hb1 hg1 hat1) | (refine stepApp (w0 := W0) intS rfl _ _ rfl _ [] L B m d rfl rfl (Own.lit' x1 W0.heap.size x1.heap.size rfl hb1.size_) (rB.bel (hb1.alloc _)) (hb1.alloc _) (by simp; omega) ?_; intro v2 x2 hO2 hb2 hg2 hat2; have hO1' : Own intT x2 W0.heap.size v1 ([] ++ F) := (hO1.alloc_ _).kept_ hg2 (ownNe1 hO1); have hne := hid_ hO1'; obtain ⟨X5, d5, rfl, hc5, _⟩ := hO1.reads; obtain ⟨X6, d6, rfl, hc6, _⟩ := hO2.reads; have k1 := hid_ (hb2.blk K1.out); have e0 := cell_of_row x2 _ 0 _ _ _ k1.out; have e1 := cell_of_row x2 _ 1 _ _ _ k1.out; have e2 := cell_of_row x2 _ 2 _ _ _ k1.out; simp only [List.getElem?_toArray, List.getElem?_cons_succ, List.getElem?_cons_zero] at e0 e1 e2; have fz := fun j => frozen_of_row x2 _ j _ _ k1.out) | (refine stepApp (w0 := W0) intS rfl _ _ rfl _ [] L B m d rfl rfl (((Own.lit' (W0.alloc (Obj.cells #[] 3)) W0.heap.size (W0.heap.size + 1) (sizeAl _ _).symm (by rw [sizeAl]; omega)).bel (Bel.refl _).drew).kept_ hg1 (.inr (by show some (W0.heap.size + 1) ≠ some W0.heap.size; simp))) (rB.bel (hb1)) (hb1) (by simp; omega) ?_; intro v2 x2 hO2 hb2 hg2 hat2; have hO1' : Own intT x2 W0.heap.size v1 ([] ++ F) := hO1.kept_ hg2 (ownNe2 (q := W0.heap.size + 1) hat1 (by show some W0.heap.size ≠ some (W0.heap.size + 1); simp) (by show W0.heap.size + 1 < ((W0.alloc (Obj.cells #[] 3)).alloc (Obj.cells #[] 3)).heap.size; rw [sizeAl, sizeAl]; omega)); have hne := hid_ hO1'; obtain ⟨X5, d5, rfl, hc5, _⟩ := hO1.reads; obtain ⟨X6, d6, rfl, hc6, _⟩ := hO2.reads; have k1 := hid_ (hb2.blk K1.out); have e0 := cell_of_row x2 _ 0 _ _ _ k1.out; have e1 := cell_of_row x2 _ 1 _ _ _ k1.out; have e2 := cell_of_row x2 _ 2 _ _ _ k1.out; simp only [List.getElem?_toArray, List.getElem?_cons_succ, List.getElem?_cons_zero] at e0 e1 e2; have fz := fun j => frozen_of_row x2 _ j _ _ k1.out) | (refine stepApp (w0 := W0) intS rfl _ _ rfl _ [] L B m d rfl rfl ((((Own.lit' W0 W0.heap.size W0.heap.size rfl (Nat.le_refl _)).alloc_ (Obj.cells #[] 3)).bel (Bel.refl _).drew).kept_ hg1 (.inr (by show some W0.heap.size ≠ some (W0.heap.size + 1); simp))) (rB.bel (hb1)) (hb1) (by simp; omega) ?_; intro v2 x2 hO2 hb2 hg2 hat2; have hO1' : Own intT x2 W0.heap.size v1 ([] ++ F) := hO1.kept_ hg2 (ownNe2 (q := W0.heap.size) hat1 (by show some (W0.heap.size + 1) ≠ some W0.heap.size; simp) (by show W0.heap.size < ((W0.alloc (Obj.cells #[] 3)).alloc (Obj.cells #[] 3)).heap.size; rw [sizeAl, sizeAl]; omega)); have hne := hid_ hO1'; obtain ⟨X5, d5, rfl, hc5, _⟩ := hO1.reads; obtain ⟨X6, d6, rfl, hc6, _⟩ := hO2.reads; have k1 := hid_ (hb2.blk K1.out); have e0 := cell_of_row x2 _ 0 _ _ _ k1.out; have e1 := cell_of_row x2 _ 1 _ _ _ k1.out; have e2 := cell_of_row x2 _ 2 _ _ _ k1.out; simp only [List.getElem?_toArray, List.getElem?_cons_succ, List.getElem?_cons_zero] at e0 e1 e2; have fz := fun j => frozen_of_row x2 _ j _ _ k1.out))
  all_goals have k9 := heap_setCell_same _ _ 2 _ _ (.slice X6 L.length d6) (heap_setCell_same _ _ 1 _ _ (.slice X5 F.length d5) (heap_setCell_same _ _ 0 _ _ (.int .i64 h) k1.out))
  all_goals have hg2 : w.heap.size + 1 < W0.heap.size := by rw [HS.out]; omega
  all_goals have p5 := ((hne.out.set_ (o := 0) (u := .int .i64 h) hg2).set_ (o := 1) (u := .slice X5 ([] ++ F).length d5) hg2).set_ (o := 2) (u := .slice X6 ([] ++ L).length d6) hg2
  all_goals have p6 := ((hO2.set_ (o := 0) (u := .int .i64 h) hg2).set_ (o := 1) (u := .slice X5 ([] ++ F).length d5) hg2).set_ (o := 2) (u := .slice X6 ([] ++ L).length d6) hg2
  all_goals have b9 : Bel w (((x2.setCell ⟨w.heap.size + 1, 0, none⟩ (.int .i64 h)).setCell ⟨w.heap.size + 1, 1, none⟩ (.slice X5 F.length d5)).setCell ⟨w.heap.size + 1, 2, none⟩ (.slice X6 L.length d6)) := (((hb.trans hb2).set_ (Nat.le_succ _) _).set_ (Nat.le_succ _) _).set_ (Nat.le_succ _) _
  all_goals have hm5 : w.heap.size ≤ W0.heap.size := by omega
  all_goals have r5 : Own intT (((x2.setCell ⟨w.heap.size + 1, 0, none⟩ (.int .i64 h)).setCell ⟨w.heap.size + 1, 1, none⟩ (.slice X5 F.length d5)).setCell ⟨w.heap.size + 1, 2, none⟩ (.slice X6 L.length d6)) w.heap.size (.slice X5 F.length d5) F := p5.mono_ hm5
  all_goals have r6 : Own intT (((x2.setCell ⟨w.heap.size + 1, 0, none⟩ (.int .i64 h)).setCell ⟨w.heap.size + 1, 1, none⟩ (.slice X5 F.length d5)).setCell ⟨w.heap.size + 1, 2, none⟩ (.slice X6 L.length d6)) w.heap.size (.slice X6 L.length d6) L := p6.mono_ hm5
  all_goals generalize ((x2.setCell ⟨w.heap.size + 1, 0, none⟩ (.int .i64 h)).setCell ⟨w.heap.size + 1, 1, none⟩ (.slice X5 F.length d5)).setCell ⟨w.heap.size + 1, 2, none⟩ (.slice X6 L.length d6) = W9 at k9 r5 r6 b9 ⊢
  all_goals have K9 := hid_ k9
  all_goals have R5 := hid_ r5
  all_goals have R6 := hid_ r6
  all_goals have B9 := hid_ b9
  all_goals clear k9 p5 p6 b9 r5 r6 hO1 hO2 hO1' hne hb1 hb2 hg1 hg2 hat1 hat2 e0 e1 e2 fz c0 c1 c2 rA rB K1
  all_goals go_wp2_with fail
  all_goals refine bodyPost_ret (results_c rfl _ _ (w.heap.size + 1) 48 _ (0, 0) _ rfl K9.out Try.underlying48 rfl (by kernel_rfl)) rfl ?_
  all_goals exact ⟨_, _, rfl, R5.out, R6.out, B9.out⟩
end Go.Proofs.Ytboaidjhhlidkaa
