/- slices.SortStableFunc at a row of the call's own. -/
import Derived.Test.YtoachnhdedpbdaaSo11
import Derived.Test.YtoachnhdedpbdaaSo12
import Derived.Test.YtoachnhdedpbdaaTyI
import Derived.Test.YtoachnhdedpbdaaCmpOr
import Derived.Test.YtoachnhdedpbdaaBox
import Derived.Deep.DeepCutAuto
set_option linter.unusedSimpArgs false
set_option linter.unusedVariables false
set_option linter.unusedSectionVars false
namespace Go.Proofs.Ytoachnhdedpbdaa
open Go.RowKit Go.Lib Go.Sort Go.Shelf
def cmpI (x y : Int) : Int := if x < y then -1 else if y < x then 1 else 0
theorem cmp_i64 (x y : Int) (w : World) : Calls Try.prog 41 #[.int .i64 x, .int .i64 y] w fun e w' => e = .returned (.int .i64 (cmpI x y)) ∧ w = w' := by
  have nan : ∀ z w, Calls Try.prog 77 #[.int .i64 z] w fun e w' => e = .returned (.bool false) ∧ w = w' := by
    intro z w
    have q : (z != z) = false := by simp
    go_enter Try.func77, Try.ntmps77
    go_wp2
    go_ret
    exact ⟨rfl, rfl⟩
  go_enter Try.func41, Try.ntmps41
  go_wp2_with fail
  refine (nan _ _).mono ?_
  rintro e _ ⟨rfl, rfl⟩
  go_wp2_with fail
  refine (nan _ _).mono ?_
  rintro e _ ⟨rfl, rfl⟩
  by_cases h1 : x < y
  · have HF : Hid (cmpI x y = -1) := hid_ (if_pos h1)
    go_wp2
    go_ret
    exact ⟨by rw [HF.out]; rfl, rfl⟩
  · by_cases h2 : y < x
    · have HF : Hid (cmpI x y = 1) := hid_ (by unfold cmpI; rw [if_neg h1, if_pos h2])
      go_wp2
      go_ret
      exact ⟨by rw [HF.out]; rfl, rfl⟩
    · have HF : Hid (cmpI x y = 0) := hid_ (by unfold cmpI; rw [if_neg h1, if_neg h2])
      go_wp2
      go_ret
      exact ⟨by rw [HF.out]; rfl, rfl⟩
theorem cmp_u64 (x y : Int) (w : World) : Calls Try.prog 42 #[.int .u64 x, .int .u64 y] w fun e w' => e = .returned (.int .i64 (cmpI x y)) ∧ w = w' := by
  have nan : ∀ z w, Calls Try.prog 78 #[.int .u64 z] w fun e w' => e = .returned (.bool false) ∧ w = w' := by
    intro z w
    have q : (z != z) = false := by simp
    go_enter Try.func78, Try.ntmps78
    go_wp2
    go_ret
    exact ⟨rfl, rfl⟩
  go_enter Try.func42, Try.ntmps42
  go_wp2_with fail
  refine (nan _ _).mono ?_
  rintro e _ ⟨rfl, rfl⟩
  go_wp2_with fail
  refine (nan _ _).mono ?_
  rintro e _ ⟨rfl, rfl⟩
  by_cases h1 : x < y
  · have HF : Hid (cmpI x y = -1) := hid_ (if_pos h1)
    go_wp2
    go_ret
    exact ⟨by rw [HF.out]; rfl, rfl⟩
  · by_cases h2 : y < x
    · have HF : Hid (cmpI x y = 1) := hid_ (by unfold cmpI; rw [if_neg h1, if_pos h2])
      go_wp2
      go_ret
      exact ⟨by rw [HF.out]; rfl, rfl⟩
    · have HF : Hid (cmpI x y = 0) := hid_ (by unfold cmpI; rw [if_neg h1, if_neg h2])
      go_wp2
      go_ret
      exact ⟨by rw [HF.out]; rfl, rfl⟩
/-- The order of who sells: the price, then the number. -/
def cfS (x y : Ord) : Int := orI [cmpI x.price y.price, cmpI x.number y.number]
/-- The order of who buys: the higher price, then the number. -/
def cfB (x y : Ord) : Int := orI [cmpI y.price x.price, cmpI x.number y.number]
set_option maxRecDepth 10000 in
set_option maxHeartbeats 1000000 in
theorem cmpS_any (x y : Ord) (W : World) : Calls Try.prog 39 #[.agg (ordC x).toArray, .agg (ordC y).toArray] W fun e w' => e = .returned (.int .i64 (cfS x y)) ∧ ∃ q os', w' = grow (W.drewN q) os' := by
  obtain ⟨x0, x1, x2, x3, x4, x5⟩ := x
  obtain ⟨y0, y1, y2, y3, y4, y5⟩ := y
  simp only [ordC]
  obtain ⟨r, hr⟩ : ∃ r, cfS ⟨x0, x1, x2, x3, x4, x5⟩ ⟨y0, y1, y2, y3, y4, y5⟩ = r := ⟨_, rfl⟩
  rw [hr]
  have HR := hid_ hr
  clear hr
  go_enter Try.func39, Try.ntmps39
  go_upto_region 1 with (fail)
  have bx : Bx ((W.alloc (.cells #[.int .u64 x0, .string x1, .string x2, .bool x3, .int .i64 x4, .int .i64 x5] 30)).alloc (.cells #[.int .u64 y0, .string y1, .string y2, .bool y3, .int .i64 y4, .int .i64 y5] 30)) W.heap.size 30 [.int .u64 x0, .string x1, .string x2, .bool x3, .int .i64 x4, .int .i64 x5] := (Bx.new W _ _).alloc _
  have bY := Bx.new (W.alloc (.cells #[.int .u64 x0, .string x1, .string x2, .bool x3, .int .i64 x4, .int .i64 x5] 30)) 30 [.int .u64 y0, .string y1, .string y2, .bool y3, .int .i64 y4, .int .i64 y5]
  rw [sizeAl] at bY
  have HG : Hid (∃ os, (W.alloc (.cells #[.int .u64 x0, .string x1, .string x2, .bool x3, .int .i64 x4, .int .i64 x5] 30)).alloc (.cells #[.int .u64 y0, .string y1, .string y2, .bool y3, .int .i64 y4, .int .i64 y5] 30) = grow W os) := hid_ ⟨_, by rw [alloc_eq_grow, alloc_eq_grow, grow_grow]⟩
  have c0 := bx.cell 0 rfl
  have c4 := bx.cell 4 rfl
  have d0 := bY.cell 0 rfl
  have d4 := bY.cell 4 rfl
  clear bx bY
  generalize (W.alloc (.cells #[.int .u64 x0, .string x1, .string x2, .bool x3, .int .i64 x4, .int .i64 x5] 30)).alloc (.cells #[.int .u64 y0, .string y1, .string y2, .bool y3, .int .i64 y4, .int .i64 y5] 30) = W2 at c0 c4 d0 d4 HG ⊢
  generalize W.heap.size + 1 = gy at d0 d4 ⊢
  generalize W.heap.size = gx at c0 c4 ⊢
  go_region_held3 (fun w => w.cell? ⟨gx, 0, none⟩ = some (.int .u64 x0) ∧ w.cell? ⟨gx, 4, none⟩ = some (.int .i64 x4) ∧ w.cell? ⟨gy, 0, none⟩ = some (.int .u64 y0) ∧ w.cell? ⟨gy, 4, none⟩ = some (.int .i64 y4)) (first | exact ⟨c0, c4, d0, d4⟩ | exact ⟨cellOld c0 _, cellOld c4 _, cellOld d0 _, cellOld d4 _⟩)
    (first
    | (go_at_call 41; with_reducible refine' Calls.mono (cmp_i64 _ _ _) ?_; rintro e _ ⟨rfl, rfl⟩)
    | (go_at_call 42; with_reducible refine' Calls.mono (cmp_u64 _ _ _) ?_; rintro e _ ⟨rfl, rfl⟩)
    | (go_at_call 40; refine' Calls.mono (cmp_or _ 2 2 [cmpI x4 y4, cmpI x0 y0] _ (Row.lit (T := intT) _ [cmpI x4 y4, cmpI x0 y0] (0, 0) (by simp))) ?_; rintro e _ ⟨rfl, rfl⟩))
  all_goals (
    have HF : Hid (orI [cmpI x4 y4, cmpI x0 y0] = r) := hid_ HR.out
    go_wp2
    go_ret
    refine ⟨by rw [HF.out]; rfl, ?_⟩
    obtain ⟨os, hos⟩ := HG.out
    rw [hos]
    exact ⟨1, os ++ #[.cells #[.int .i64 (cmpI x4 y4), .int .i64 (cmpI x0 y0)] 3], by rw [alloc_eq_grow]; exact (grow_grow W.drew os _)⟩)
set_option maxRecDepth 10000 in
set_option maxHeartbeats 1000000 in
theorem cmpB_any (x y : Ord) (W : World) : Calls Try.prog 43 #[.agg (ordC x).toArray, .agg (ordC y).toArray] W fun e w' => e = .returned (.int .i64 (cfB x y)) ∧ ∃ q os', w' = grow (W.drewN q) os' := by
  obtain ⟨x0, x1, x2, x3, x4, x5⟩ := x
  obtain ⟨y0, y1, y2, y3, y4, y5⟩ := y
  simp only [ordC]
  obtain ⟨r, hr⟩ : ∃ r, cfB ⟨x0, x1, x2, x3, x4, x5⟩ ⟨y0, y1, y2, y3, y4, y5⟩ = r := ⟨_, rfl⟩
  rw [hr]
  have HR := hid_ hr
  clear hr
  go_enter Try.func43, Try.ntmps43
  go_upto_region 1 with (fail)
  have bx : Bx ((W.alloc (.cells #[.int .u64 x0, .string x1, .string x2, .bool x3, .int .i64 x4, .int .i64 x5] 30)).alloc (.cells #[.int .u64 y0, .string y1, .string y2, .bool y3, .int .i64 y4, .int .i64 y5] 30)) W.heap.size 30 [.int .u64 x0, .string x1, .string x2, .bool x3, .int .i64 x4, .int .i64 x5] := (Bx.new W _ _).alloc _
  have bY := Bx.new (W.alloc (.cells #[.int .u64 x0, .string x1, .string x2, .bool x3, .int .i64 x4, .int .i64 x5] 30)) 30 [.int .u64 y0, .string y1, .string y2, .bool y3, .int .i64 y4, .int .i64 y5]
  rw [sizeAl] at bY
  have HG : Hid (∃ os, (W.alloc (.cells #[.int .u64 x0, .string x1, .string x2, .bool x3, .int .i64 x4, .int .i64 x5] 30)).alloc (.cells #[.int .u64 y0, .string y1, .string y2, .bool y3, .int .i64 y4, .int .i64 y5] 30) = grow W os) := hid_ ⟨_, by rw [alloc_eq_grow, alloc_eq_grow, grow_grow]⟩
  have c0 := bx.cell 0 rfl
  have c4 := bx.cell 4 rfl
  have d0 := bY.cell 0 rfl
  have d4 := bY.cell 4 rfl
  clear bx bY
  generalize (W.alloc (.cells #[.int .u64 x0, .string x1, .string x2, .bool x3, .int .i64 x4, .int .i64 x5] 30)).alloc (.cells #[.int .u64 y0, .string y1, .string y2, .bool y3, .int .i64 y4, .int .i64 y5] 30) = W2 at c0 c4 d0 d4 HG ⊢
  generalize W.heap.size + 1 = gy at d0 d4 ⊢
  generalize W.heap.size = gx at c0 c4 ⊢
  go_region_held3 (fun w => w.cell? ⟨gx, 0, none⟩ = some (.int .u64 x0) ∧ w.cell? ⟨gx, 4, none⟩ = some (.int .i64 x4) ∧ w.cell? ⟨gy, 0, none⟩ = some (.int .u64 y0) ∧ w.cell? ⟨gy, 4, none⟩ = some (.int .i64 y4)) (first | exact ⟨c0, c4, d0, d4⟩ | exact ⟨cellOld c0 _, cellOld c4 _, cellOld d0 _, cellOld d4 _⟩)
    (first
    | (go_at_call 41; with_reducible refine' Calls.mono (cmp_i64 _ _ _) ?_; rintro e _ ⟨rfl, rfl⟩)
    | (go_at_call 42; with_reducible refine' Calls.mono (cmp_u64 _ _ _) ?_; rintro e _ ⟨rfl, rfl⟩)
    | (go_at_call 40; refine' Calls.mono (cmp_or _ 2 2 [cmpI y4 x4, cmpI x0 y0] _ (Row.lit (T := intT) _ [cmpI y4 x4, cmpI x0 y0] (0, 0) (by simp))) ?_; rintro e _ ⟨rfl, rfl⟩))
  all_goals (
    have HF : Hid (orI [cmpI y4 x4, cmpI x0 y0] = r) := hid_ HR.out
    go_wp2
    go_ret
    refine ⟨by rw [HF.out]; rfl, ?_⟩
    obtain ⟨os, hos⟩ := HG.out
    rw [hos]
    exact ⟨1, os ++ #[.cells #[.int .i64 (cmpI y4 x4), .int .i64 (cmpI x0 y0)] 3], by rw [alloc_eq_grow]; exact (grow_grow W.drew os _)⟩)
end Go.Proofs.Ytoachnhdedpbdaa
set_option linter.unusedSimpArgs false
set_option linter.unusedVariables false
set_option linter.unusedSectionVars false
namespace Go.Proofs.Ytoachnhdedpbdaa
open Go.RowKit Go.Lib Go.Sort Go.Shelf
theorem insNil (f : Value) (W : World) : Calls Try.prog 108 #[.slice none 0 0, .int .i64 0, .int .i64 0, f] W fun e w' => e = .returned (.tuple #[]) ∧ W = w' := by
  go_enter Try.func108, Try.ntmps108
  go_wp2_with fail
  go_loop [8] (fun i => i = .int .i64 1) (fun _ => 0)
  case atStart => rfl
  case round =>
    subst hrel
    go_wp2
    go_end0
    exact ⟨rfl, rfl⟩
theorem stableNil (f : Value) (W : World) : Calls Try.prog 96 #[.slice none 0 0, .int .i64 0, f] W fun e w' => e = .returned (.tuple #[]) ∧ W = w' := by
  go_enter Try.func96, Try.ntmps96
  go_wp2_with fail
  go_loop [7, 8] (fun s t => s = .int .i64 0 ∧ t = .int .i64 20) (fun _ _ => 0)
  case atStart => exact ⟨rfl, rfl⟩
  case round =>
    obtain ⟨rfl, rfl⟩ := hrel
    go_wp2_with fail
    refine (insNil f W).mono ?_
    rintro e _ ⟨rfl, rfl⟩
    go_wp2_with fail
    go_loop [6] (fun s => s = .int .i64 20) (fun _ => 0)
    case atStart => rfl
    case round =>
      subst hrel
      go_wp2
      go_end0
      exact ⟨rfl, rfl⟩
theorem sortStable_any (cf : Ord → Ord → Int) (hO : SWO (ltOf cf)) (gc : Nat) (cb : Array Value) (eg : ∀ args w, (callFunc gc args).run Try.prog w = .ok (.enter gc args) w) (hcmp : ∀ x y w, Calls Try.prog gc (#[.agg (ordC x).toArray, .agg (ordC y).toArray] ++ cb) w fun e w' => e = .returned (.int .i64 (cf x y)) ∧ ∃ q os', w' = grow (w.drewN q) os') (v : Value) (xs : List Ord) (base : Nat) (W : World) (HO : Own ordT W base v xs) (hn : xs.length ≤ 100000) :
    Calls Try.prog 76 #[v, .func (.func gc) #[] cb] W fun e w' => e = .returned (.tuple #[]) ∧ Own ordT w' base v (st (ltOf cf) xs) ∧ W.grownBy w' v.ownBlock := by
  have hlays : ∀ (g off size : Nat) (w : World), CmpLays Try.prog gc cb ordC 6 cf g off size w := fun g off size w m os dk hs x y => hcmp x y _
  have HCM := hid_ hcmp
  clear hcmp
  rcases HO.2 with ⟨rfl, h0⟩ | ⟨g, cap, cur, rfl, hbase, hb, hnc, hcm, hcs, htake⟩
  · obtain rfl : xs = [] := List.eq_nil_of_length_eq_zero h0
    clear HO hlays HCM eg
    go_enter Try.func76, Try.ntmps76
    go_wp2_with fail
    refine (stableNil _ W).mono ?_
    rintro e _ ⟨rfl, rfl⟩
    go_wp2
    go_end0
    exact ⟨rfl, Own.nil_ _ _ _, World.grownBy.refl _ _⟩
  · have hg : g < W.heap.size := (Array.getElem?_eq_some_iff.1 hb).1
    have R : RowK ordC 6 W g 0 xs.toArray := ⟨ordLen, ordOne, own_holds (T := ordT) hb htake, hg⟩
    have hst := stable_any cf hO gc cb g 0 cap xs.toArray W eg (fun w => hlays _ _ _ w) R (by simpa using hn)
    have HST := hid_ hst
    have FIN : Hid (∀ (d : Array Ord) (w' : World), SWK ordC 6 W g 0 d w' → d.size = xs.toArray.size → d.toList = st (ltOf cf) xs.toArray.toList → Own ordT w' base (.slice (some ⟨g, 0, none⟩) xs.length cap) (st (ltOf cf) xs) ∧ W.grownBy w' (some g)) := hid_ (fun d w' h1 h2 h3 => by
      have := own_sorted (T := ordT) (base := base) (cap := cap) h1 (by simpa using h2 : d.size = xs.length) hbase hb hnc hcm hcs
      rw [h3] at this
      exact this)
    obtain ⟨n, hnn⟩ : ∃ n, xs.length = n := ⟨_, rfl⟩
    have hsz : xs.toArray.size = n := by simpa using hnn
    rw [hsz] at HST
    rw [hnn]
    rw [hnn] at FIN
    clear HO hlays HCM hst R hb htake hcs hcm hnc hsz
    have HNN := hid_ hnn
    clear hnn
    go_enter Try.func76, Try.ntmps76
    go_wp2_with fail
    refine HST.out.mono ?_
    rintro e w' ⟨rfl, d, h1, h2, h3⟩
    have HF := hid_ (FIN.out d w' h1 (by rw [h2]; simp [HNN.out]) h3)
    clear h1 h2 h3 FIN HST
    go_wp2
    go_end0
    exact ⟨rfl, HF.out⟩
/-! ### The two orders -/
theorem cmpI_neg (x y : Int) : cmpI x y < 0 ↔ x < y := by
  unfold cmpI
  by_cases h1 : x < y
  · simp [h1]
  · by_cases h2 : y < x <;> simp [h1, h2]
theorem cmpI_zero (x y : Int) : cmpI x y = 0 ↔ x = y := by
  unfold cmpI
  by_cases h1 : x < y
  · simp [h1]; omega
  · by_cases h2 : y < x
    · simp [h1, h2]; omega
    · simp [h1, h2]; omega
theorem orI_two (a b : Int) : orI [a, b] < 0 ↔ a < 0 ∨ (a = 0 ∧ b < 0) := by
  unfold orI
  by_cases h : a = 0
  · subst h
    simp [orI]
    by_cases hb : b = 0 <;> simp [hb]
  · simp [h]
def ltS (x y : Ord) : Bool := decide (x.price < y.price ∨ (x.price = y.price ∧ x.number < y.number))
def ltB (x y : Ord) : Bool := decide (y.price < x.price ∨ (x.price = y.price ∧ x.number < y.number))
theorem ltOf_S : ltOf cfS = ltS := by
  funext x y
  unfold ltOf ltS cfS
  apply decide_eq_decide.2
  rw [orI_two, cmpI_neg, cmpI_zero, cmpI_neg]
theorem ltOf_B : ltOf cfB = ltB := by
  funext x y
  unfold ltOf ltB cfB
  apply decide_eq_decide.2
  rw [orI_two, cmpI_neg, cmpI_zero, cmpI_neg]
  constructor
  · rintro (h | ⟨h1, h2⟩)
    · exact .inl h
    · exact .inr ⟨h1.symm, h2⟩
  · rintro (h | ⟨h1, h2⟩)
    · exact .inl h
    · exact .inr ⟨h1.symm, h2⟩
theorem swoS : SWO ltS where
  irrefl x := by simp [ltS]
  trans x y z h1 h2 := by simp [ltS] at *; omega
  ntrans x y z h1 h2 := by simp [ltS] at *; omega
theorem swoB : SWO ltB where
  irrefl x := by simp [ltB]
  trans x y z h1 h2 := by simp [ltB] at *; omega
  ntrans x y z h1 h2 := by simp [ltB] at *; omega
end Go.Proofs.Ytoachnhdedpbdaa
