/- cmp.Compare, cmp.Or, the orders of sides. -/
import Derived.Test.YtnpcnahnkfdgpaaSo11
import Derived.Test.YtnpcnahnkfdgpaaSo12
import Derived.Test.YtnpcnahnkfdgpaaTyI
import Derived.Test.YtnpcnahnkfdgpaaBox
import Derived.Deep.DeepCutAuto
set_option linter.unusedSimpArgs false
set_option linter.unusedVariables false
set_option linter.unusedSectionVars false
namespace Go.Proofs.Ytnpcnahnkfdgpaa
open Go.RowKit Go.Lib Go.Sort Go.Shelf
def cmpI (x y : Int) : Int := if x < y then -1 else if y < x then 1 else 0
theorem cmp_i64 (x y : Int) (w : World) : Calls Try.prog 25 #[.int .i64 x, .int .i64 y] w fun e w' => e = .returned (.int .i64 (cmpI x y)) ∧ w = w' := by
  have nan : ∀ z w, Calls Try.prog 44 #[.int .i64 z] w fun e w' => e = .returned (.bool false) ∧ w = w' := by
    intro z w
    have q : (z != z) = false := by simp
    go_enter Try.func44, Try.ntmps44
    go_wp2
    go_ret
    exact ⟨rfl, rfl⟩
  go_enter Try.func25, Try.ntmps25
  go_wp2_with fail
  refine (nan _ _).mono ?_
  rintro e _ ⟨rfl, rfl⟩
  go_wp2_with fail
  refine (nan _ _).mono ?_
  rintro e _ ⟨rfl, rfl⟩
  by_cases h1 : x < y
  · have HF : Hid (cmpI x y = -1) := hid_ (if_pos h1)
    go_wp2
    go_ret
    exact ⟨by rw [HF.out]; rfl, rfl⟩
  · by_cases h2 : y < x
    · have HF : Hid (cmpI x y = 1) := hid_ (by unfold cmpI; rw [if_neg h1, if_pos h2])
      go_wp2
      go_ret
      exact ⟨by rw [HF.out]; rfl, rfl⟩
    · have HF : Hid (cmpI x y = 0) := hid_ (by unfold cmpI; rw [if_neg h1, if_neg h2])
      go_wp2
      go_ret
      exact ⟨by rw [HF.out]; rfl, rfl⟩
theorem cmp_u64 (x y : Int) (w : World) : Calls Try.prog 26 #[.int .u64 x, .int .u64 y] w fun e w' => e = .returned (.int .i64 (cmpI x y)) ∧ w = w' := by
  have nan : ∀ z w, Calls Try.prog 45 #[.int .u64 z] w fun e w' => e = .returned (.bool false) ∧ w = w' := by
    intro z w
    have q : (z != z) = false := by simp
    go_enter Try.func45, Try.ntmps45
    go_wp2
    go_ret
    exact ⟨rfl, rfl⟩
  go_enter Try.func26, Try.ntmps26
  go_wp2_with fail
  refine (nan _ _).mono ?_
  rintro e _ ⟨rfl, rfl⟩
  go_wp2_with fail
  refine (nan _ _).mono ?_
  rintro e _ ⟨rfl, rfl⟩
  by_cases h1 : x < y
  · have HF : Hid (cmpI x y = -1) := hid_ (if_pos h1)
    go_wp2
    go_ret
    exact ⟨by rw [HF.out]; rfl, rfl⟩
  · by_cases h2 : y < x
    · have HF : Hid (cmpI x y = 1) := hid_ (by unfold cmpI; rw [if_neg h1, if_pos h2])
      go_wp2
      go_ret
      exact ⟨by rw [HF.out]; rfl, rfl⟩
    · have HF : Hid (cmpI x y = 0) := hid_ (by unfold cmpI; rw [if_neg h1, if_neg h2])
      go_wp2
      go_ret
      exact ⟨by rw [HF.out]; rfl, rfl⟩
/-- The first that is not 0. -/
def orI : List Int → Int
  | [] => 0
  | x :: l => if x = 0 then orI l else x
theorem orI_skip : ∀ (l : List Int) (j : Nat) (x : Int), (∀ (i : Nat) (y : Int), i < j → l[i]? = some y → y = 0) → l[j]? = some x → x ≠ 0 → orI l = x
  | [], _, _, _, h, _ => by simp at h
  | y :: l, 0, x, _, h, hx => by simp at h; subst h; simp [orI, hx]
  | y :: l, j + 1, x, h0, h, hx => by
    have hy := h0 0 y (by omega) rfl
    rw [orI, if_pos hy]
    exact orI_skip l j x (fun i z hi hz => h0 (i + 1) z (by omega) (by simpa using hz)) (by simpa using h) hx
theorem orI_none : ∀ (l : List Int), (∀ (i : Nat) (y : Int), l[i]? = some y → y = 0) → orI l = 0
  | [], _ => rfl
  | y :: l, h0 => by
    have hy := h0 0 y rfl
    rw [orI, if_pos hy]
    exact orI_none l (fun i z hz => h0 (i + 1) z (by simpa using hz))
set_option maxRecDepth 10000 in
theorem cmp_or (A : Option Addr) (n c : Nat) (l : List Int) (w : World) (hA : Row intT w A n l) : Calls Try.prog 24 #[.slice A n c] w fun e w' => e = .returned (.int .i64 (orI l)) ∧ w = w' := by
  have hn := hA.2.1
  have HL := hid_ hA.1
  obtain ⟨r, hr⟩ : ∃ r, orI l = r := ⟨_, rfl⟩
  rw [hr]
  have HR := hid_ hr
  clear hr
  go_enter Try.func24, Try.ntmps24
  go_wp2_with fail
  go_loop [8] (fun i => ∃ j : Nat, j ≤ n ∧ i = .int .i64 j ∧ Hid (∀ (i : Nat) (y : Int), i < j → l[i]? = some y → y = 0)) (fun i => n - (intOf i).toNat)
  case atStart => exact ⟨0, Nat.zero_le _, rfl, hid_ (fun i y h => absurd h (by omega))⟩
  case round =>
    obtain ⟨j, hj, rfl, hx⟩ := hrel
    by_cases hjn : j < n
    · obtain ⟨ad, x, rfl, ho, d0⟩ := hA.int hjn
      have HO := hid_ ho
      clear ho
      by_cases h0 : x = 0
      · have HX : Hid (∀ (i : Nat) (y : Int), i < j + 1 → l[i]? = some y → y = 0) := hid_ (by
          intro i y hi hy
          rcases Nat.lt_or_ge i j with h | h
          · exact hx.out i y h hy
          · obtain rfl : i = j := by omega
            rw [HO.out] at hy
            cases hy
            exact h0)
        have q : (x != 0) = false := by simp [h0]
        clear hx HO h0
        go_wp2
        case roundEnd =>
          go_round
          case rel => exact ⟨j + 1, by omega, by go_num, HX⟩
          case measure => simp [intOf]; omega
      · have HF : Hid (r = x) := hid_ (by rw [← HR.out]; exact orI_skip l j x hx.out HO.out h0)
        have q : (x != 0) = true := by simp [h0]
        clear hx HO h0
        go_wp2
        go_ret
        exact ⟨by rw [HF.out]; rfl, rfl⟩
    · obtain rfl : j = n := by omega
      have HF : Hid (r = 0) := hid_ (by rw [← HR.out]; exact orI_none l (fun i y h => hx.out i y (by have := (List.getElem?_eq_some_iff.1 h).1; rw [HL.out] at this; exact this) h))
      clear hx
      go_wp2
      go_ret
      exact ⟨by rw [HF.out]; rfl, rfl⟩
/-- The order of who sells: the price, then the number. -/
def cfS (x y : Ord) : Int := orI [cmpI x.price y.price, cmpI x.number y.number]
/-- The order of who buys: the higher price, then the number. -/
def cfB (x y : Ord) : Int := orI [cmpI y.price x.price, cmpI x.number y.number]
set_option maxRecDepth 10000 in
set_option maxHeartbeats 1000000 in
theorem cmpS_any (x y : Ord) (W : World) : Calls Try.prog 23 #[.agg (ordC x).toArray, .agg (ordC y).toArray] W fun e w' => e = .returned (.int .i64 (cfS x y)) ∧ ∃ q os', w' = grow (W.drewN q) os' := by
  obtain ⟨x0, x1, x2, x3, x4, x5⟩ := x
  obtain ⟨y0, y1, y2, y3, y4, y5⟩ := y
  simp only [ordC]
  obtain ⟨r, hr⟩ : ∃ r, cfS ⟨x0, x1, x2, x3, x4, x5⟩ ⟨y0, y1, y2, y3, y4, y5⟩ = r := ⟨_, rfl⟩
  rw [hr]
  have HR := hid_ hr
  clear hr
  go_enter Try.func23, Try.ntmps23
  go_upto_region 1 with (fail)
  have bx : Bx ((W.alloc (.cells #[.int .u64 x0, .string x1, .string x2, .bool x3, .int .i64 x4, .int .i64 x5] 27)).alloc (.cells #[.int .u64 y0, .string y1, .string y2, .bool y3, .int .i64 y4, .int .i64 y5] 27)) W.heap.size 27 [.int .u64 x0, .string x1, .string x2, .bool x3, .int .i64 x4, .int .i64 x5] := (Bx.new W _ _).alloc _
  have bY := Bx.new (W.alloc (.cells #[.int .u64 x0, .string x1, .string x2, .bool x3, .int .i64 x4, .int .i64 x5] 27)) 27 [.int .u64 y0, .string y1, .string y2, .bool y3, .int .i64 y4, .int .i64 y5]
  rw [sizeAl] at bY
  have HG : Hid (∃ os, (W.alloc (.cells #[.int .u64 x0, .string x1, .string x2, .bool x3, .int .i64 x4, .int .i64 x5] 27)).alloc (.cells #[.int .u64 y0, .string y1, .string y2, .bool y3, .int .i64 y4, .int .i64 y5] 27) = grow W os) := hid_ ⟨_, by rw [alloc_eq_grow, alloc_eq_grow, grow_grow]⟩
  have c0 := bx.cell 0 rfl
  have c4 := bx.cell 4 rfl
  have d0 := bY.cell 0 rfl
  have d4 := bY.cell 4 rfl
  clear bx bY
  generalize (W.alloc (.cells #[.int .u64 x0, .string x1, .string x2, .bool x3, .int .i64 x4, .int .i64 x5] 27)).alloc (.cells #[.int .u64 y0, .string y1, .string y2, .bool y3, .int .i64 y4, .int .i64 y5] 27) = W2 at c0 c4 d0 d4 HG ⊢
  generalize W.heap.size + 1 = gy at d0 d4 ⊢
  generalize W.heap.size = gx at c0 c4 ⊢
  go_region_held3 (fun w => w.cell? ⟨gx, 0, none⟩ = some (.int .u64 x0) ∧ w.cell? ⟨gx, 4, none⟩ = some (.int .i64 x4) ∧ w.cell? ⟨gy, 0, none⟩ = some (.int .u64 y0) ∧ w.cell? ⟨gy, 4, none⟩ = some (.int .i64 y4)) (first | exact ⟨c0, c4, d0, d4⟩ | exact ⟨cellOld c0 _, cellOld c4 _, cellOld d0 _, cellOld d4 _⟩)
    (first
    | (go_at_call 25; with_reducible refine' Calls.mono (cmp_i64 _ _ _) ?_; rintro e _ ⟨rfl, rfl⟩)
    | (go_at_call 26; with_reducible refine' Calls.mono (cmp_u64 _ _ _) ?_; rintro e _ ⟨rfl, rfl⟩)
    | (go_at_call 24; refine' Calls.mono (cmp_or _ 2 2 [cmpI x4 y4, cmpI x0 y0] _ (Row.lit (T := intT) _ [cmpI x4 y4, cmpI x0 y0] (0, 0) (by simp))) ?_; rintro e _ ⟨rfl, rfl⟩))
  all_goals (
    have HF : Hid (orI [cmpI x4 y4, cmpI x0 y0] = r) := hid_ HR.out
    go_wp2
    go_ret
    refine ⟨by rw [HF.out]; rfl, ?_⟩
    obtain ⟨os, hos⟩ := HG.out
    rw [hos]
    exact ⟨1, os ++ #[.cells #[.int .i64 (cmpI x4 y4), .int .i64 (cmpI x0 y0)] 3], by rw [alloc_eq_grow]; exact (grow_grow W.drew os _)⟩)
set_option maxRecDepth 10000 in
set_option maxHeartbeats 1000000 in
theorem cmpB_any (x y : Ord) (W : World) : Calls Try.prog 27 #[.agg (ordC x).toArray, .agg (ordC y).toArray] W fun e w' => e = .returned (.int .i64 (cfB x y)) ∧ ∃ q os', w' = grow (W.drewN q) os' := by
  obtain ⟨x0, x1, x2, x3, x4, x5⟩ := x
  obtain ⟨y0, y1, y2, y3, y4, y5⟩ := y
  simp only [ordC]
  obtain ⟨r, hr⟩ : ∃ r, cfB ⟨x0, x1, x2, x3, x4, x5⟩ ⟨y0, y1, y2, y3, y4, y5⟩ = r := ⟨_, rfl⟩
  rw [hr]
  have HR := hid_ hr
  clear hr
  go_enter Try.func27, Try.ntmps27
  go_upto_region 1 with (fail)
  have bx : Bx ((W.alloc (.cells #[.int .u64 x0, .string x1, .string x2, .bool x3, .int .i64 x4, .int .i64 x5] 27)).alloc (.cells #[.int .u64 y0, .string y1, .string y2, .bool y3, .int .i64 y4, .int .i64 y5] 27)) W.heap.size 27 [.int .u64 x0, .string x1, .string x2, .bool x3, .int .i64 x4, .int .i64 x5] := (Bx.new W _ _).alloc _
  have bY := Bx.new (W.alloc (.cells #[.int .u64 x0, .string x1, .string x2, .bool x3, .int .i64 x4, .int .i64 x5] 27)) 27 [.int .u64 y0, .string y1, .string y2, .bool y3, .int .i64 y4, .int .i64 y5]
  rw [sizeAl] at bY
  have HG : Hid (∃ os, (W.alloc (.cells #[.int .u64 x0, .string x1, .string x2, .bool x3, .int .i64 x4, .int .i64 x5] 27)).alloc (.cells #[.int .u64 y0, .string y1, .string y2, .bool y3, .int .i64 y4, .int .i64 y5] 27) = grow W os) := hid_ ⟨_, by rw [alloc_eq_grow, alloc_eq_grow, grow_grow]⟩
  have c0 := bx.cell 0 rfl
  have c4 := bx.cell 4 rfl
  have d0 := bY.cell 0 rfl
  have d4 := bY.cell 4 rfl
  clear bx bY
  generalize (W.alloc (.cells #[.int .u64 x0, .string x1, .string x2, .bool x3, .int .i64 x4, .int .i64 x5] 27)).alloc (.cells #[.int .u64 y0, .string y1, .string y2, .bool y3, .int .i64 y4, .int .i64 y5] 27) = W2 at c0 c4 d0 d4 HG ⊢
  generalize W.heap.size + 1 = gy at d0 d4 ⊢
  generalize W.heap.size = gx at c0 c4 ⊢
  go_region_held3 (fun w => w.cell? ⟨gx, 0, none⟩ = some (.int .u64 x0) ∧ w.cell? ⟨gx, 4, none⟩ = some (.int .i64 x4) ∧ w.cell? ⟨gy, 0, none⟩ = some (.int .u64 y0) ∧ w.cell? ⟨gy, 4, none⟩ = some (.int .i64 y4)) (first | exact ⟨c0, c4, d0, d4⟩ | exact ⟨cellOld c0 _, cellOld c4 _, cellOld d0 _, cellOld d4 _⟩)
    (first
    | (go_at_call 25; with_reducible refine' Calls.mono (cmp_i64 _ _ _) ?_; rintro e _ ⟨rfl, rfl⟩)
    | (go_at_call 26; with_reducible refine' Calls.mono (cmp_u64 _ _ _) ?_; rintro e _ ⟨rfl, rfl⟩)
    | (go_at_call 24; refine' Calls.mono (cmp_or _ 2 2 [cmpI y4 x4, cmpI x0 y0] _ (Row.lit (T := intT) _ [cmpI y4 x4, cmpI x0 y0] (0, 0) (by simp))) ?_; rintro e _ ⟨rfl, rfl⟩))
  all_goals (
    have HF : Hid (orI [cmpI y4 x4, cmpI x0 y0] = r) := hid_ HR.out
    go_wp2
    go_ret
    refine ⟨by rw [HF.out]; rfl, ?_⟩
    obtain ⟨os, hos⟩ := HG.out
    rw [hos]
    exact ⟨1, os ++ #[.cells #[.int .i64 (cmpI y4 x4), .int .i64 (cmpI x0 y0)] 3], by rw [alloc_eq_grow]; exact (grow_grow W.drew os _)⟩)
end Go.Proofs.Ytnpcnahnkfdgpaa
