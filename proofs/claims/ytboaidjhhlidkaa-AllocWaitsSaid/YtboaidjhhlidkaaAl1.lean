/- alloc: the walks that read alone: Index, Contains, in, fine (both), Ints. -/
import Derived.Test.YtboaidjhhlidkaaTyInt
import Derived.Deep.QuietTactic
import Derived.BigQuiet
set_option linter.unusedSimpArgs false
set_option linter.unusedVariables false
namespace Go.Proofs.Ytboaidjhhlidkaa
open Go.RowKit

theorem mem_take_succ {l : List Int} {k : Nat} {y x : Int} (h : l[k]? = some y) : x ∈ l.take (k + 1) ↔ x ∈ l.take k ∨ x = y := by
  rw [List.take_add_one, h]
  simp
set_option maxRecDepth 10000 in
set_option maxHeartbeats 1000000 in
theorem index_any (A : Option Addr) (n c : Nat) (l : List Int) (x : Int) (w : World) (h1 : Row intT w A n l) :
    Calls Try.prog 121 #[.slice A n c, .int .i64 x] w fun e w' => ∃ r : Int, e = .returned (.int .i64 r) ∧ (0 ≤ r ↔ x ∈ l) ∧ w = w' := by
  have hn := h1.2.1
  go_enter Try.func121, Try.ntmps121
  go_wp2
  go_loop [5, 8] (fun _ i => ∃ k : Nat, k ≤ n ∧ i = .int .i64 k ∧ ¬ x ∈ l.take k) (fun _ i => n - (intOf i).toNat)
  case atStart => exact ⟨0, by omega, rfl, by simp⟩
  case round =>
    obtain ⟨k, hk, rfl, hx⟩ := hrel
    by_cases hkn : k < n
    · obtain ⟨ad, y, rfl, ho, d0⟩ := h1.int hkn
      have hm := mem_take_succ (x := x) ho
      have HM := hid_ hm
      have HX := hid_ hx
      clear hm hx
      by_cases hxy : x = y
      · subst hxy
        have hmem := List.mem_of_getElem? ho
        have HMEM := hid_ hmem
        clear hmem ho
        go_wp2
        go_ret
        exact ⟨_, rfl, ⟨fun _ => HMEM.out, fun _ => Int.natCast_nonneg k⟩, rfl⟩
      · have hxy' : (x == y) = false := by simp [hxy]
        clear ho
        go_wp2
        case roundEnd =>
          go_round
          case rel => exact ⟨k + 1, by omega, by go_num, fun h => by
            rcases HM.out.1 h with h | h
            · exact HX.out h
            · exact hxy h⟩
          case measure => simp [intOf]; omega
    · have : k = n := by omega
      subst this
      have hfull : l.take k = l := by rw [← h1.1, List.take_length]
      rw [hfull] at hx
      have HX := hid_ hx
      clear hx
      go_wp2
      go_ret
      exact ⟨_, rfl, ⟨fun h => absurd h (by omega), fun h => absurd h HX.out⟩, rfl⟩
set_option maxRecDepth 10000 in
set_option maxHeartbeats 1000000 in
theorem contains_any (A : Option Addr) (n c : Nat) (l : List Int) (x : Int) (w : World) (h1 : Row intT w A n l) :
    Calls Try.prog 70 #[.slice A n c, .int .i64 x] w fun e w' => e = .returned (.bool (decide (x ∈ l))) ∧ w = w' := by
  go_enter Try.func70, Try.ntmps70
  go_wp2_with fail
  refine (index_any A n c l x _ h1).mono ?_
  rintro e _ ⟨r, rfl, hr, rfl⟩
  have HR : Hid (decide (0 ≤ r) = decide (x ∈ l)) := decide_eq_decide.2 hr
  clear hr
  go_wp2
  go_ret
  exact ⟨by rw [← HR.out]; rfl, rfl⟩
set_option maxRecDepth 10000 in
set_option maxHeartbeats 1000000 in
theorem in_any (A : Option Addr) (n c : Nat) (l : List Int) (x : Int) (w : World) (h1 : Row intT w A n l) :
    Calls Try.prog 74 #[.slice A n c, .int .i64 x] w fun e w' => e = .returned (.bool (decide (x ∈ l))) ∧ w = w' := by
  have hn := h1.2.1
  go_enter Try.func74, Try.ntmps74
  go_wp2
  go_loop [5] (fun i => ∃ k : Nat, k ≤ n ∧ i = .int .i64 k ∧ ¬ x ∈ l.take k) (fun i => n - (intOf i).toNat)
  case atStart => exact ⟨0, by omega, rfl, by simp⟩
  case round =>
    obtain ⟨k, hk, rfl, hx⟩ := hrel
    by_cases hkn : k < n
    · obtain ⟨ad, y, rfl, ho, d0⟩ := h1.int hkn
      have hm := mem_take_succ (x := x) ho
      have HM := hid_ hm
      have HX := hid_ hx
      clear hm hx
      by_cases hxy : y = x
      · subst hxy
        have hmem := List.mem_of_getElem? ho
        have HMEM := hid_ hmem
        clear hmem ho
        go_wp2
        go_ret
        exact ⟨by rw [decide_eq_true HMEM.out]; rfl, rfl⟩
      · have hxy' : (y == x) = false := by simp [hxy]
        clear ho
        go_wp2
        case roundEnd =>
          go_round
          case rel => exact ⟨k + 1, by omega, by go_num, fun h => by
            rcases HM.out.1 h with h | h
            · exact HX.out h
            · exact hxy h.symm⟩
          case measure => simp [intOf]; omega
    · have : k = n := by omega
      subst this
      have hfull : l.take k = l := by rw [← h1.1, List.take_length]
      rw [hfull] at hx
      have HX := hid_ hx
      clear hx
      go_wp2
      go_ret
      exact ⟨by rw [decide_eq_false HX.out]; rfl, rfl⟩
/-- Rising from beyond 'last' to beneath 'high'. -/
def fineB (high : Int) : Int → List Int → Bool
  | _, [] => true
  | last, n :: l => decide (last < n) && (decide (n < high) && fineB high n l)
theorem fineB_drop (high last : Int) (l : List Int) (k : Nat) {x : Int} (h : l[k]? = some x) : fineB high last (l.drop k) = (decide (last < x) && (decide (x < high) && fineB high x (l.drop (k + 1)))) := by
  obtain ⟨hk, rfl⟩ := List.getElem?_eq_some_iff.1 h
  rw [List.drop_eq_getElem_cons hk, fineB]
set_option maxRecDepth 10000 in
set_option maxHeartbeats 1000000 in
theorem fine_any (A : Option Addr) (n c : Nat) (l : List Int) (high : Int) (w : World) (h1 : Row intT w A n l) :
    Calls Try.prog 71 #[.slice A n c, .int .i64 high] w fun e w' => e = .returned (.bool (fineB high 1 l)) ∧ w = w' := by
  have hn := h1.2.1
  go_enter Try.func71, Try.ntmps71
  go_wp2
  go_loop [5, 7, 10] (fun s _ i => ∃ (k : Nat) (last : Int), k ≤ n ∧ i = .int .i64 k ∧ s = .int .i64 last ∧ fineB high 1 l = fineB high last (l.drop k)) (fun _ _ i => n - (intOf i).toNat)
  case atStart => exact ⟨0, 1, by omega, rfl, rfl, rfl⟩
  case round =>
    obtain ⟨k, last, hk, rfl, rfl, hx⟩ := hrel
    by_cases hkn : k < n
    · obtain ⟨ad, y, rfl, ho, d0⟩ := h1.int hkn
      rw [fineB_drop high last l k ho] at hx
      have HX := hid_ hx
      clear hx ho
      by_cases q1 : y ≤ last
      · go_wp2
        go_ret
        exact ⟨by rw [HX.out, decide_eq_false (show ¬ last < y by omega)]; rfl, rfl⟩
      · by_cases q2 : high ≤ y
        · go_wp2
          go_ret
          exact ⟨by rw [HX.out, decide_eq_false (show ¬ y < high by omega), Bool.false_and, Bool.and_false]; rfl, rfl⟩
        · go_wp2
          case roundEnd =>
            go_round
            case rel => exact ⟨k + 1, y, by omega, by go_num, rfl, by rw [HX.out, decide_eq_true (show last < y by omega), decide_eq_true (show y < high by omega)]; rfl⟩
            case measure => simp [intOf]; omega
    · have : k = n := by omega
      subst this
      have hfull : l.drop k = [] := by rw [← h1.1, List.drop_length]
      rw [hfull, fineB] at hx
      have HX := hid_ hx
      clear hx
      go_wp2
      go_ret
      exact ⟨by rw [HX.out]; rfl, rfl⟩
end Go.Proofs.Ytboaidjhhlidkaa
