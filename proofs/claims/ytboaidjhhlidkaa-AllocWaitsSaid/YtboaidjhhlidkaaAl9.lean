/- alloc: Known, may (both), Same: walks that read a boxed pool. -/
import Derived.Test.YtboaidjhhlidkaaBx
set_option linter.unusedSimpArgs false
set_option linter.unusedVariables false
namespace Go.Proofs.Ytboaidjhhlidkaa
open Go.RowKit
set_option maxRecDepth 10000 in
set_option maxHeartbeats 2000000 in
theorem known_any (h : Int) (A B : Option Addr) (n c m d : Nat) (F L : List Int) (x : Int) (w : World) (hA : Row intT w A n F) (hB : Row intT w B m L) :
    Calls Try.prog 120 #[.agg #[.int .i64 h, .slice A n c, .slice B m d], .int .i64 x] w fun e w' => e = .returned (.bool (decide (x ∈ F) || decide (x ∈ L))) ∧ Bel w w' := by
  go_enter Try.func120, Try.ntmps120
  have q := fun j => cell_of_row (w.alloc (.cells #[.int .i64 h, .slice A n c, .slice B m d] 48)) w.heap.size j _ _ _ (heap_alloc_new w _)
  have hb : Bel w (w.alloc (.cells #[.int .i64 h, .slice A n c, .slice B m d] 48)) := (Bel.refl w).alloc _
  go_wp2_with fail
  refine (in_any A n c F x _ (hA.bel hb)).mono ?_
  rintro e w1 ⟨rfl, hw⟩
  subst hw
  go_wp2_with fail
  refine (in_any B m d L x _ (hB.bel hb)).mono ?_
  rintro e w2 ⟨rfl, hw⟩
  subst hw
  obtain ⟨b1, h1⟩ : ∃ b1, decide (x ∈ F) = b1 := ⟨_, rfl⟩
  obtain ⟨b2, h2⟩ : ∃ b2, decide (x ∈ L) = b2 := ⟨_, rfl⟩
  rw [h1, h2]
  have H1 := hid_ h1
  have H2 := hid_ h2
  clear h1 h2
  cases b1 <;> cases b2
  all_goals go_wp2
  all_goals go_ret
  all_goals exact ⟨by rw [H1.out, H2.out]; rfl, hb⟩
def mayP (h : Int) (F L : List Int) (x : Int) : Bool := decide (2 ≤ x) && (decide (x < h) && !(decide (x ∈ F) || decide (x ∈ L)))
set_option maxRecDepth 10000 in
set_option maxHeartbeats 2000000 in
theorem mayR_any (h : Int) (A B : Option Addr) (n c m d : Nat) (F L : List Int) (x : Int) (w : World) (hA : Row intT w A n F) (hB : Row intT w B m L) :
    Calls Try.prog 65 #[.agg #[.int .i64 h, .slice A n c, .slice B m d], .int .i64 x] w fun e w' => e = .returned (.bool (mayP h F L x)) ∧ Bel w w' := by
  have hM : ∀ b, (decide (x ∈ F) || decide (x ∈ L)) = b → mayP h F L x = (decide (2 ≤ x) && (decide (x < h) && !b)) := fun b e => by rw [mayP, e]
  go_enter Try.func65, Try.ntmps65
  have q := fun j => cell_of_row (w.alloc (.cells #[.int .i64 h, .slice A n c, .slice B m d] 48)) w.heap.size j _ _ _ (heap_alloc_new w _)
  have hb : Bel w (w.alloc (.cells #[.int .i64 h, .slice A n c, .slice B m d] 48)) := (Bel.refl w).alloc _
  go_wp2_with fail
  refine (known_any h A B n c m d F L x _ (hA.bel hb) (hB.bel hb)).mono ?_
  rintro e w1 ⟨rfl, b1⟩
  have k0 := b1.blk (heap_alloc_new w _)
  have HB : Hid (Bel w w1) := hb.trans b1
  clear q hb b1
  have c0 := cell_of_row w1 _ 0 _ _ _ k0
  simp only [List.getElem?_toArray, List.getElem?_cons_succ, List.getElem?_cons_zero] at c0
  clear k0
  obtain ⟨b, hbb⟩ : ∃ b, (decide (x ∈ F) || decide (x ∈ L)) = b := ⟨_, rfl⟩
  have HM := hid_ (hM b hbb)
  rw [hbb]
  clear hM hbb
  by_cases q1 : 2 ≤ x
  · by_cases q2 : x < h
    · have HM2 : Hid (mayP h F L x = !b) := by rw [HM.out, decide_eq_true q1, decide_eq_true q2, Bool.true_and, Bool.true_and]; exact rfl
      cases b
      all_goals go_wp2
      all_goals go_ret
      all_goals exact ⟨by rw [HM2.out]; rfl, HB.out⟩
    · have HM2 : Hid (mayP h F L x = false) := by rw [HM.out, decide_eq_false q2, Bool.false_and, Bool.and_false]; exact rfl
      go_wp2
      all_goals go_ret
      all_goals exact ⟨by rw [HM2.out]; rfl, HB.out⟩
  · have HM2 : Hid (mayP h F L x = false) := by rw [HM.out, decide_eq_false q1, Bool.false_and]; exact rfl
    go_wp2
    all_goals go_ret
    all_goals exact ⟨by rw [HM2.out]; rfl, HB.out⟩
end Go.Proofs.Ytboaidjhhlidkaa
