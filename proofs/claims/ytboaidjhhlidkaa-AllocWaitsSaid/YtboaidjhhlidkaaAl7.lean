/- alloc.own (both). -/
import Derived.Test.YtboaidjhhlidkaaAl6
import Derived.Laws.CopyOwn
set_option linter.unusedSimpArgs false
set_option linter.unusedVariables false
namespace Go.Proofs.Ytboaidjhhlidkaa
open Go.RowKit
theorem blkOld' {W : World} {g : Nat} {o : Obj} (h : W.heap[g]? = some o) (o' : Obj) : (W.alloc o').heap[g]? = some o := ((Bel.refl W).alloc o').blk h
theorem grownSet (w : World) (g o : Nat) (u : Value) : w.grownBy (w.setCell ⟨g, o, none⟩ u) (some g) := ⟨rfl, rfl, rfl, by simp, fun i hi hne => heap_setCell_other w _ i u (fun e => hne (by rw [e]))⟩
theorem Own.set_ {α : Type} {T : Ty α} {w : World} {base g o : Nat} {v u : Value} {xs : List α} (h : Own T w base v xs) (hg : g < base) : Own T (w.setCell ⟨g, o, none⟩ u) base v xs := by
  refine h.kept_ (grownSet w g o u) ?_
  cases hv : v.ownBlock with
  | none => exact .inl rfl
  | some k =>
    refine .inr fun e => ?_
    have := h.base_ k hv
    injection e with e
    omega
set_option maxRecDepth 10000 in
set_option maxHeartbeats 2000000 in
theorem own_any (h : Int) (A B : Option Addr) (n c m d : Nat) (F L : List Int) (w : World) (hA : Row intT w A n F) (hB : Row intT w B m L) (hs1 : n ≤ 1000000) (hs2 : m ≤ 1000000) :
    Calls Try.prog 61 #[.agg #[.int .i64 h, .slice A n c, .slice B m d]] w fun e w' => ∃ v1 v2, e = .returned (.agg #[.int .i64 h, v1, v2]) ∧ Own intT w' w.heap.size v1 F ∧ Own intT w' w.heap.size v2 L ∧ Bel w w' := by
  go_enter Try.func61, Try.ntmps61
  go_wp2_with fail
  have k0 := blkOld' (heap_alloc_new w (.cells #[.int .i64 h, .slice A n c, .slice B m d] 48)) (.cells #[.int .i64 0, .slice none 0 0, .slice none 0 0] 48)
  have k1 := heap_alloc_new (w.alloc (.cells #[.int .i64 h, .slice A n c, .slice B m d] 48)) (.cells #[.int .i64 0, .slice none 0 0, .slice none 0 0] 48)
  rw [sizeAl] at k1
  have hb : Bel w ((w.alloc (.cells #[.int .i64 h, .slice A n c, .slice B m d] 48)).alloc (.cells #[.int .i64 0, .slice none 0 0, .slice none 0 0] 48)) := ((Bel.refl w).alloc _).alloc _
  have hsz : ((w.alloc (.cells #[.int .i64 h, .slice A n c, .slice B m d] 48)).alloc (.cells #[.int .i64 0, .slice none 0 0, .slice none 0 0] 48)).heap.size = w.heap.size + 2 := by rw [sizeAl, sizeAl]
  generalize (w.alloc (.cells #[.int .i64 h, .slice A n c, .slice B m d] 48)).alloc (.cells #[.int .i64 0, .slice none 0 0, .slice none 0 0] 48) = W0 at *
  have c0 := cell_of_row W0 _ 0 _ _ _ k0
  have c1 := cell_of_row W0 _ 1 _ _ _ k0
  have c2 := cell_of_row W0 _ 2 _ _ _ k0
  simp only [List.getElem?_toArray, List.getElem?_cons_succ, List.getElem?_cons_zero] at c0 c1 c2
  have K1 := hid_ k1
  clear k0 k1
  have rA := hA.bel hb
  have rB := hB.bel hb
  go_region_held3 (fun W => W.cell? ⟨w.heap.size, 0, none⟩ = some (.int .i64 h) ∧ W.cell? ⟨w.heap.size, 1, none⟩ = some (.slice A n c) ∧ W.cell? ⟨w.heap.size, 2, none⟩ = some (.slice B m d)) (first | exact ⟨c0, c1, c2⟩ | exact ⟨((World.cell?_setCell_far _ _ _ _ (by simp)).trans ((World.cell?_setCell_far _ _ _ _ (by simp)).trans (World.cell?_setCell_far _ _ _ _ (by simp)))).trans (b6.cell_ (b5.cell_ c0)), ((World.cell?_setCell_far _ _ _ _ (by simp)).trans ((World.cell?_setCell_far _ _ _ _ (by simp)).trans (World.cell?_setCell_far _ _ _ _ (by simp)))).trans (b6.cell_ (b5.cell_ c1)), ((World.cell?_setCell_far _ _ _ _ (by simp)).trans ((World.cell?_setCell_far _ _ _ _ (by simp)).trans (World.cell?_setCell_far _ _ _ _ (by simp)))).trans (b6.cell_ (b5.cell_ c2))⟩ | exact ⟨b6.cell_ (b5.cell_ c0), b6.cell_ (b5.cell_ c1), b6.cell_ (b5.cell_ c2)⟩ | exact ⟨b5.cell_ c0, b5.cell_ c1, b5.cell_ c2⟩)
    (first | (go_at_call 68; refine' (clone_any A n c F _ (rA.bel (by first | exact Bel.refl _ | exact (Bel.refl _).drew)) hs1).mono ?_; rintro e w5 ⟨v5, rfl, o5, b⟩; have b5 : Bel W0 w5 := Bel.trans (by first | exact Bel.refl _ | exact (Bel.refl _).drew) b; obtain ⟨X5, d5, rfl, hc5, _⟩ := o5.reads) | (go_at_call 68; refine' (clone_any B m d L _ (rB.bel (by first | exact b5 | exact b5.drew)) hs2).mono ?_; rintro e w6 ⟨v6, rfl, o6, b6⟩; obtain ⟨X6, d6, rfl, hc6, _⟩ := o6.reads; have k1 := hid_ (b6.blk (b5.blk K1.out)); have e0 := cell_of_row w6 _ 0 _ _ _ k1.out; have e1 := cell_of_row w6 _ 1 _ _ _ k1.out; have e2 := cell_of_row w6 _ 2 _ _ _ k1.out; simp only [List.getElem?_toArray, List.getElem?_cons_succ, List.getElem?_cons_zero] at e0 e1 e2; have fz := fun j => frozen_of_row w6 _ j _ _ k1.out))
  have k9 := heap_setCell_same _ _ 2 _ _ (.slice X6 L.length d6) (heap_setCell_same _ _ 1 _ _ (.slice X5 F.length d5) (heap_setCell_same _ _ 0 _ _ (.int .i64 h) k1.out))
  have hg2 : w.heap.size + 1 < W0.drew.heap.size := by rw [show W0.drew.heap.size = W0.heap.size from rfl, hsz]; omega
  have hg6 : w.heap.size + 1 < w5.heap.size := Nat.lt_of_lt_of_le (by rw [hsz]; omega) b5.size_
  have p5 := (((o5.bel b6).set_ (o := 0) (u := .int .i64 h) hg2).set_ (o := 1) (u := .slice X5 F.length d5) hg2).set_ (o := 2) (u := .slice X6 L.length d6) hg2
  have p6 := ((o6.set_ (o := 0) (u := .int .i64 h) hg6).set_ (o := 1) (u := .slice X5 F.length d5) hg6).set_ (o := 2) (u := .slice X6 L.length d6) hg6
  have b9 : Bel w (((w6.setCell ⟨w.heap.size + 1, 0, none⟩ (.int .i64 h)).setCell ⟨w.heap.size + 1, 1, none⟩ (.slice X5 F.length d5)).setCell ⟨w.heap.size + 1, 2, none⟩ (.slice X6 L.length d6)) := (((hb.trans (b5.trans b6)).set_ (Nat.le_succ _) _).set_ (Nat.le_succ _) _).set_ (Nat.le_succ _) _
  have hm5 : w.heap.size ≤ W0.drew.heap.size := by omega
  have hm6 : w.heap.size ≤ w5.heap.size := by omega
  have r5 := p5.mono_ hm5
  have r6 := p6.mono_ hm6
  generalize ((w6.setCell ⟨w.heap.size + 1, 0, none⟩ (.int .i64 h)).setCell ⟨w.heap.size + 1, 1, none⟩ (.slice X5 F.length d5)).setCell ⟨w.heap.size + 1, 2, none⟩ (.slice X6 L.length d6) = W9 at k9 r5 r6 b9 ⊢
  have K9 := hid_ k9
  have R5 := hid_ r5
  have R6 := hid_ r6
  have B9 := hid_ b9
  clear k9 p5 p6 b9 r5 r6 o5 o6 b5 b6 e0 e1 e2 fz c0 c1 c2 rA rB K1
  go_wp2_with fail
  refine bodyPost_ret (results_c rfl _ _ (w.heap.size + 1) 48 _ (0, 0) _ rfl K9.out Try.underlying48 rfl (by kernel_rfl)) rfl ?_
  exact ⟨_, _, rfl, R5.out, R6.out, B9.out⟩
end Go.Proofs.Ytboaidjhhlidkaa
