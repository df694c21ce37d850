/- slices.SortStableFunc at a row of the call's own. -/
import Derived.Test.YtnpcnahnkfdgpaaSo13
set_option linter.unusedSimpArgs false
set_option linter.unusedVariables false
set_option linter.unusedSectionVars false
namespace Go.Proofs.Ytnpcnahnkfdgpaa
open Go.RowKit Go.Lib Go.Sort Go.Shelf
theorem insNil (f : Value) (W : World) : Calls Try.prog 64 #[.slice none 0 0, .int .i64 0, .int .i64 0, f] W fun e w' => e = .returned (.tuple #[]) ∧ W = w' := by
  go_enter Try.func64, Try.ntmps64
  go_wp2_with fail
  go_loop [8] (fun i => i = .int .i64 1) (fun _ => 0)
  case atStart => rfl
  case round =>
    subst hrel
    go_wp2
    go_end0
    exact ⟨rfl, rfl⟩
theorem stableNil (f : Value) (W : World) : Calls Try.prog 57 #[.slice none 0 0, .int .i64 0, f] W fun e w' => e = .returned (.tuple #[]) ∧ W = w' := by
  go_enter Try.func57, Try.ntmps57
  go_wp2_with fail
  go_loop [7, 8] (fun s t => s = .int .i64 0 ∧ t = .int .i64 20) (fun _ _ => 0)
  case atStart => exact ⟨rfl, rfl⟩
  case round =>
    obtain ⟨rfl, rfl⟩ := hrel
    go_wp2_with fail
    refine (insNil f W).mono ?_
    rintro e _ ⟨rfl, rfl⟩
    go_wp2_with fail
    go_loop [6] (fun s => s = .int .i64 20) (fun _ => 0)
    case atStart => rfl
    case round =>
      subst hrel
      go_wp2
      go_end0
      exact ⟨rfl, rfl⟩
theorem sortStable_any (cf : Ord → Ord → Int) (hO : SWO (ltOf cf)) (gc : Nat) (cb : Array Value) (eg : ∀ args w, (callFunc gc args).run Try.prog w = .ok (.enter gc args) w) (hcmp : ∀ x y w, Calls Try.prog gc (#[.agg (ordC x).toArray, .agg (ordC y).toArray] ++ cb) w fun e w' => e = .returned (.int .i64 (cf x y)) ∧ ∃ q os', w' = grow (w.drewN q) os') (v : Value) (xs : List Ord) (base : Nat) (W : World) (HO : Own ordT W base v xs) (hn : xs.length ≤ 100000) :
    Calls Try.prog 43 #[v, .func (.func gc) #[] cb] W fun e w' => e = .returned (.tuple #[]) ∧ Own ordT w' base v (st (ltOf cf) xs) ∧ W.grownBy w' v.ownBlock := by
  have hlays : ∀ (g off size : Nat) (w : World), CmpLays Try.prog gc cb ordC 6 cf g off size w := fun g off size w m os dk hs x y => hcmp x y _
  have HCM := hid_ hcmp
  clear hcmp
  rcases HO.2 with ⟨rfl, h0⟩ | ⟨g, cap, cur, rfl, hbase, hb, hnc, hcm, hcs, htake⟩
  · obtain rfl : xs = [] := List.eq_nil_of_length_eq_zero h0
    clear HO hlays HCM eg
    go_enter Try.func43, Try.ntmps43
    go_wp2_with fail
    refine (stableNil _ W).mono ?_
    rintro e _ ⟨rfl, rfl⟩
    go_wp2
    go_end0
    exact ⟨rfl, Own.nil_ _ _ _, World.grownBy.refl _ _⟩
  · have hg : g < W.heap.size := (Array.getElem?_eq_some_iff.1 hb).1
    have R : RowK ordC 6 W g 0 xs.toArray := ⟨ordLen, ordOne, own_holds (T := ordT) hb htake, hg⟩
    have hst := stable_any cf hO gc cb g 0 cap xs.toArray W eg (fun w => hlays _ _ _ w) R (by simpa using hn)
    have HST := hid_ hst
    have FIN : Hid (∀ (d : Array Ord) (w' : World), SWK ordC 6 W g 0 d w' → d.size = xs.toArray.size → d.toList = st (ltOf cf) xs.toArray.toList → Own ordT w' base (.slice (some ⟨g, 0, none⟩) xs.length cap) (st (ltOf cf) xs) ∧ W.grownBy w' (some g)) := hid_ (fun d w' h1 h2 h3 => by
      have := own_sorted (T := ordT) (base := base) (cap := cap) h1 (by simpa using h2 : d.size = xs.length) hbase hb hnc hcm hcs
      rw [h3] at this
      exact this)
    obtain ⟨n, hnn⟩ : ∃ n, xs.length = n := ⟨_, rfl⟩
    have hsz : xs.toArray.size = n := by simpa using hnn
    rw [hsz] at HST
    rw [hnn]
    rw [hnn] at FIN
    clear HO hlays HCM hst R hb htake hcs hcm hnc hsz
    have HNN := hid_ hnn
    clear hnn
    go_enter Try.func43, Try.ntmps43
    go_wp2_with fail
    refine HST.out.mono ?_
    rintro e w' ⟨rfl, d, h1, h2, h3⟩
    have HF := hid_ (FIN.out d w' h1 (by rw [h2]; simp [HNN.out]) h3)
    clear h1 h2 h3 FIN HST
    go_wp2
    go_end0
    exact ⟨rfl, HF.out⟩
/-! ### The two orders -/
theorem cmpI_neg (x y : Int) : cmpI x y < 0 ↔ x < y := by
  unfold cmpI
  by_cases h1 : x < y
  · simp [h1]
  · by_cases h2 : y < x <;> simp [h1, h2]
theorem cmpI_zero (x y : Int) : cmpI x y = 0 ↔ x = y := by
  unfold cmpI
  by_cases h1 : x < y
  · simp [h1]; omega
  · by_cases h2 : y < x
    · simp [h1, h2]; omega
    · simp [h1, h2]; omega
theorem orI_two (a b : Int) : orI [a, b] < 0 ↔ a < 0 ∨ (a = 0 ∧ b < 0) := by
  unfold orI
  by_cases h : a = 0
  · subst h
    simp [orI]
    by_cases hb : b = 0 <;> simp [hb]
  · simp [h]
def ltS (x y : Ord) : Bool := decide (x.price < y.price ∨ (x.price = y.price ∧ x.number < y.number))
def ltB (x y : Ord) : Bool := decide (y.price < x.price ∨ (x.price = y.price ∧ x.number < y.number))
theorem ltOf_S : ltOf cfS = ltS := by
  funext x y
  unfold ltOf ltS cfS
  apply decide_eq_decide.2
  rw [orI_two, cmpI_neg, cmpI_zero, cmpI_neg]
theorem ltOf_B : ltOf cfB = ltB := by
  funext x y
  unfold ltOf ltB cfB
  apply decide_eq_decide.2
  rw [orI_two, cmpI_neg, cmpI_zero, cmpI_neg]
  constructor
  · rintro (h | ⟨h1, h2⟩)
    · exact .inl h
    · exact .inr ⟨h1.symm, h2⟩
  · rintro (h | ⟨h1, h2⟩)
    · exact .inl h
    · exact .inr ⟨h1.symm, h2⟩
theorem swoS : SWO ltS where
  irrefl x := by simp [ltS]
  trans x y z h1 h2 := by simp [ltS] at *; omega
  ntrans x y z h1 h2 := by simp [ltS] at *; omega
theorem swoB : SWO ltB where
  irrefl x := by simp [ltB]
  trans x y z h1 h2 := by simp [ltB] at *; omega
  ntrans x y z h1 h2 := by simp [ltB] at *; omega
end Go.Proofs.Ytnpcnahnkfdgpaa
