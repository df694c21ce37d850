/- The document's Take. -/
import Derived.Test.YtboaidjhhlidkaaAl14
import Derived.Test.YtboaidjhhlidkaaAl8
import Derived.Test.YtboaidjhhlidkaaAl18
set_option linter.unusedSimpArgs false
set_option linter.unusedVariables false
namespace Go.Proofs.Ytboaidjhhlidkaa
open Go.RowKit
set_option maxRecDepth 10000 in
set_option maxHeartbeats 4000000 in
theorem takeR_any (h most : Int) (A B : Option Addr) (n c m d : Nat) (F L : List Int) (w : World) (hA : Row intT w A n F) (hB : Row intT w B m L) (hs1 : n ≤ 1000000) (hs2 : m ≤ 1000000) :
    Calls Try.prog 32 #[.agg #[.int .i64 h, .slice A n c, .slice B m d], .int .i64 most] w fun e w' => ∃ v, e = .returned (.tuple #[v, .int .i64 (takeN h most F), .int .i64 (takeE h most F)]) ∧ PoolV w' v (takeH h most F) (takeF F) (takeL h most F L) ∧ Bel w w' := by
  go_enter Try.func32, Try.ntmps32
  have k0 : Bx ((w.alloc (.cells #[.int .i64 h, .slice A n c, .slice B m d] 48)).alloc (.cells #[.int .i64 0, .slice none 0 0, .slice none 0 0] 48)) w.heap.size 48 [.int .i64 h, .slice A n c, .slice B m d] := (Bx.new w _ _).alloc _
  have k1 : Bx ((w.alloc (.cells #[.int .i64 h, .slice A n c, .slice B m d] 48)).alloc (.cells #[.int .i64 0, .slice none 0 0, .slice none 0 0] 48)) (w.heap.size + 1) 48 [.int .i64 0, .slice none 0 0, .slice none 0 0] := by
    have := Bx.new (w.alloc (.cells #[.int .i64 h, .slice A n c, .slice B m d] 48)) 48 [.int .i64 0, .slice none 0 0, .slice none 0 0]
    rw [sizeAl] at this
    exact this
  have hb : Bel w ((w.alloc (.cells #[.int .i64 h, .slice A n c, .slice B m d] 48)).alloc (.cells #[.int .i64 0, .slice none 0 0, .slice none 0 0] 48)) := ((Bel.refl w).alloc _).alloc _
  have c0 := k0.cell 0 rfl
  have c1 := k0.cell 1 rfl
  have c2 := k0.cell 2 rfl
  have K0 := hid_ k0
  have K1 := hid_ k1
  clear k0 k1
  go_wp2_with fail
  refine (ownR_any h A B n c m d F L _ (hA.bel hb) (hB.bel hb) hs1 hs2).mono ?_
  rintro e w1 ⟨v1, v2, rfl, o1, o2, b1⟩
  obtain ⟨X, k, rfl, hk, r1', hx'⟩ := o1.rowAtB
  obtain ⟨Y, j, rfl, hj, r2', hy'⟩ := o2.rowAtB
  have k1' := K1.out.bel b1
  have hlt : w.heap.size + 1 < w1.heap.size := k1'.lt
  have hle : w.heap.size ≤ w1.heap.size := by omega
  have hxn : ∀ ad, X = some ad → ad.block ≠ w1.heap.size := fun ad e => by have := hx' ad e; omega
  have hyn : ∀ ad, Y = some ad → ad.block ≠ w1.heap.size := fun ad e => by have := hy' ad e; omega
  have hx1 : ∀ ad, X = some ad → ad.block ≠ w.heap.size + 1 := fun ad e => by have := (hx' ad e).1; rw [sizeAl, sizeAl] at this; omega
  have hy1 : ∀ ad, Y = some ad → ad.block ≠ w.heap.size + 1 := fun ad e => by have := (hy' ad e).1; rw [sizeAl, sizeAl] at this; omega
  have BB := hid_ (hb.trans b1)
  have HXN := hid_ hxn
  have HYN := hid_ hyn
  have HX1 := hid_ hx1
  have HY1 := hid_ hy1
  have HLT := hid_ hlt
  have HLE := hid_ hle
  clear hx' hy' hxn hyn hx1 hy1 c0 c1 c2 K0 K1
  rcases F with _ | ⟨x, F⟩
  · replace hk : 0 ≤ k := hk
    replace r1' : Row intT w1 X 0 [] := r1'
    have k0 := Bx.new w1 48 [.int .i64 h, .slice X 0 k, .slice Y L.length j]
    have e0 := k0.cell 0 rfl
    have e1 := k0.cell 1 rfl
    have e2 := k0.cell 2 rfl
    have f0 := fun j => k0.frozen j
    have f1 := fun j => k1'.frozen j
    have g0 := k1'.cell 0 rfl
    have g1 := k1'.cell 1 rfl
    have g2 := k1'.cell 2 rfl
    have KK1 := hid_ k1'
    clear k0 k1'
    by_cases hm : most ≤ h
    · have t1 : Hid (takeN h most [] = 0) := if_pos hm
      have t2 : Hid (takeE h most [] = 60) := if_pos hm
      have t3 : Hid (takeH h most [] = 0) := if_pos hm
      have t4 : Hid (takeL h most [] L = []) := if_pos hm
      go_wp2_with fail
      have k1' := KK1.out
      have k9 := (((k1'.set 0 (.int .i64 0)).set 1 (.slice none 0 0)).set 2 (.slice none 0 0)).alloc (.cells #[Value.int .i64 h, .slice X 0 k, .slice Y L.length j] 48)
      have b9 := (((BB.out.setBx (j := 0) (Nat.le_succ _) (.int .i64 0)).setBx (j := 1) (Nat.le_succ _) (.slice none 0 0)).setBx (j := 2) (Nat.le_succ _) (.slice none 0 0)).alloc (.cells #[Value.int .i64 h, .slice X 0 k, .slice Y L.length j] 48)
      refine bodyPost_ret (results_ctt rfl _ _ (w.heap.size + 1) 48 _ (0, 0) _ rfl k9 Try.underlying48 rfl (by kernel_rfl)) rfl ?_
      rw [t1.out, t2.out, t3.out, t4.out]
      exact ⟨_, rfl, ⟨none, 0, 0, none, 0, 0, rfl, Nat.le_refl _, Nat.le_refl _, Row.none_ _ _ _, Row.none_ _ _ _⟩, b9⟩
    · have t1 : Hid (takeN h most [] = IntKind.i64.wrap (wrap64 (h + 1) - 1)) := (if_neg hm).trans (IntWalk.i64_left _).symm
      have t2 : Hid (takeE h most [] = 0) := if_neg hm
      have t3 : Hid (takeH h most [] = wrap64 (h + 1)) := if_neg hm
      have t4 : Hid (takeL h most [] L = L) := if_neg hm
      go_wp2_with fail
      have k8 := Bx.new w1 48 [.int .i64 (wrap64 (h + 1)), .slice X 0 k, .slice Y L.length j]
      have k9 := KK1.out.alloc (.cells #[Value.int .i64 (wrap64 (h + 1)), .slice X 0 k, .slice Y L.length j] 48)
      have b9 := BB.out.alloc (.cells #[Value.int .i64 (wrap64 (h + 1)), .slice X 0 k, .slice Y L.length j] 48)
      have r9 := r2'.bel ((Bel.refl w1).alloc (.cells #[Value.int .i64 (wrap64 (h + 1)), .slice X 0 k, .slice Y L.length j] 48))
      generalize w1.alloc (.cells #[.int .i64 (wrap64 (h + 1)), .slice X 0 k, .slice Y L.length j] 48) = W4 at k8 k9 b9 r9 ⊢
      have c0 := k8.cell 0 rfl
      have c1 := k8.cell 1 rfl
      have c2 := k8.cell 2 rfl
      have z0 := k9.cell 0 rfl
      have z1 := k9.cell 1 rfl
      have z2 := k9.cell 2 rfl
      have y0 := fun j => k8.frozen j
      have y1 := fun j => k9.frozen j
      have K8 := hid_ k8
      have K9 := hid_ k9
      clear k8 k9 e0 e1 e2 g0 g1 g2 f0 f1 KK1 r1' r2' o1 o2 b1 hb
      have hn12 : w.heap.size + 1 ≠ w1.heap.size := Nat.ne_of_lt HLT.out
      go_region_held3 (fun W => W.cell? ⟨w1.heap.size, 0, none⟩ = some (.int .i64 (wrap64 (h + 1))) ∧ W.cell? ⟨w1.heap.size, 1, none⟩ = some (.slice X 0 k) ∧ W.cell? ⟨w1.heap.size, 2, none⟩ = some (.slice Y L.length j)) (first | exact ⟨c0, c1, c2⟩ | exact ⟨far3 hn12 c0, far3 hn12 c1, far3 hn12 c2⟩) (fail)
      have k10 := (((K9.out.set 0 (.int .i64 (wrap64 (h + 1)))).set 1 (.slice X 0 k)).set 2 (.slice Y L.length j)).bel ((Bel.refl _).drew)
      have b10 := (((b9.setBx (j := 0) (Nat.le_succ _) (.int .i64 (wrap64 (h + 1)))).setBx (j := 1) (Nat.le_succ _) (.slice X 0 k)).setBx (j := 2) (Nat.le_succ _) (.slice Y L.length j)).drew
      have r10 := (((r9.far (j := 0) (.int .i64 (wrap64 (h + 1))) HY1.out).far (j := 1) (.slice X 0 k) HY1.out).far (j := 2) (.slice Y L.length j) HY1.out).bel ((Bel.refl _).drew)
      have K10 := hid_ k10
      have B10 := hid_ b10
      have R10 := hid_ r10
      clear k10 b10 r10 r9 b9 c0 c1 c2 z0 z1 z2 y0 y1 K8 K9
      go_wp2_with fail
      refine bodyPost_ret (results_ctt rfl _ _ (w.heap.size + 1) 48 _ (0, 0) _ rfl K10.out Try.underlying48 rfl (by kernel_rfl)) rfl ?_
      rw [t1.out, t2.out, t3.out, t4.out]
      exact ⟨_, rfl, ⟨X, 0, k, Y, L.length, j, rfl, Nat.zero_le _, hj, ⟨rfl, by omega, fun h => absurd h (by omega)⟩, R10.out⟩, B10.out⟩
  · have t1 : Hid (takeN h most (x :: F) = x) := rfl
    obtain ⟨ad, x', rfl, hx', d0⟩ := r1'.int (k := 0) (by simp)
    have k0 := Bx.new w1 48 [.int .i64 h, .slice (some ad) (F.length + 1) k, .slice Y L.length j]
    have e0 := k0.cell 0 rfl
    have e1 := k0.cell 1 rfl
    have e2 := k0.cell 2 rfl
    have f0 := fun j => k0.frozen j
    have f1 := fun j => k1'.frozen j
    have g0 := k1'.cell 0 rfl
    have g1 := k1'.cell 1 rfl
    have g2 := k1'.cell 2 rfl
    have KK1 := hid_ k1'
    clear k0 k1'
    replace d0 := cellOld d0 (.cells #[.int .i64 h, .slice (some ad) (F.length + 1) k, .slice Y L.length j] 48)
    have hxx : x = x' := by simpa using hx'
    subst hxx
    have hA0 : ad.add 0 = ad := by unfold Addr.add; simp
    rw [hA0] at d0
    obtain ⟨A', hcut, hblk, hrow⟩ := cutFromB .i64 ad (F.length + 1) k 1 (by omega) hk
    have hcut' : ∀ W : World, (Instr.slice 46 (.slice (some ad) (F.length + 1) k) (some (.int .i64 1)) none none).run Try.prog W = .ok (.slice A' F.length (k - 1)) W := hcut
    have ra := hrow _ _ r1'
    clear hcut hrow hx'
    go_wp2_with fail
    have hn1 : ∀ ad', A' = some ad' → ad'.block ≠ w.heap.size + 1 := fun ad' e => by rw [hblk ad' e]; exact HX1.out ad rfl
    have k1' := KK1.out
    have k9 := (((k1'.set 0 (.int .i64 h)).set 1 (.slice A' F.length (k - 1))).set 2 (.slice Y L.length j)).alloc (.cells #[Value.int .i64 h, .slice A' F.length (k - 1), .slice Y L.length j] 48)
    have b9 := (((BB.out.setBx (j := 0) (Nat.le_succ _) (.int .i64 h)).setBx (j := 1) (Nat.le_succ _) (.slice A' F.length (k - 1))).setBx (j := 2) (Nat.le_succ _) (.slice Y L.length j)).alloc (.cells #[Value.int .i64 h, .slice A' F.length (k - 1), .slice Y L.length j] 48)
    have r9 := ((((r2'.far (j := 0) (.int .i64 h) HY1.out).far (j := 1) (.slice A' F.length (k - 1)) HY1.out).far (j := 2) (.slice Y L.length j) HY1.out).bel ((Bel.refl _).alloc (.cells #[Value.int .i64 h, .slice A' F.length (k - 1), .slice Y L.length j] 48)))
    have s9 := ((((ra.far (j := 0) (.int .i64 h) hn1).far (j := 1) (.slice A' F.length (k - 1)) hn1).far (j := 2) (.slice Y L.length j) hn1).bel ((Bel.refl _).alloc (.cells #[Value.int .i64 h, .slice A' F.length (k - 1), .slice Y L.length j] 48)))
    refine bodyPost_ret (results_ctt rfl _ _ (w.heap.size + 1) 48 _ (0, 0) _ rfl k9 Try.underlying48 rfl (by kernel_rfl)) rfl ?_
    exact ⟨_, rfl, ⟨A', F.length, k - 1, Y, L.length, j, rfl, by simp at hk; omega, hj, s9, r9⟩, b9⟩
end Go.Proofs.Ytboaidjhhlidkaa
