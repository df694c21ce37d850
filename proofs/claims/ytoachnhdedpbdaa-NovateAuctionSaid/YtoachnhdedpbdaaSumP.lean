/- Sums of whole numbers: plain. -/
import Derived.WalkKit
set_option linter.unusedSimpArgs false
set_option linter.unusedVariables false
namespace Go.Proofs.Ytoachnhdedpbdaa
def hi32 (l : List Int) : Int := (l.map (· / 4294967296)).sum
def lo32 (l : List Int) : Int := (l.map (· % 4294967296)).sum
theorem half_step {l : List Int} {k : Nat} {x : Int} (h : l[k]? = some x) : hi32 (l.take (k + 1)) = hi32 (l.take k) + x / 4294967296 ∧ lo32 (l.take (k + 1)) = lo32 (l.take k) + x % 4294967296 := by
  unfold hi32 lo32
  rw [List.take_add_one, h]
  simp
theorem half_sum : ∀ l : List Int, l.sum = hi32 l * 4294967296 + lo32 l
  | [] => rfl
  | x :: l => by
    have ih := half_sum l
    simp only [List.sum_cons, hi32, lo32, List.map_cons] at ih ⊢
    rw [ih]
    omega
theorem half_le {l : List Int} (hl : ∀ x ∈ l, -9223372036854775808 ≤ x ∧ x ≤ 9223372036854775807) : ∀ k : Nat, -2147483648 * (k : Int) ≤ hi32 (l.take k) ∧ hi32 (l.take k) ≤ 2147483648 * (k : Int) ∧ 0 ≤ lo32 (l.take k) ∧ lo32 (l.take k) ≤ 4294967296 * (k : Int)
  | 0 => by simp [hi32, lo32]
  | k + 1 => by
    have ih := half_le hl k
    cases hx : l[k]? with
    | none => rw [List.take_of_length_le (by have := List.getElem?_eq_none_iff.1 hx; omega)]; rw [List.take_of_length_le (by have := List.getElem?_eq_none_iff.1 hx; omega)] at ih; omega
    | some x =>
      have h1 := hl x (List.mem_of_getElem? hx)
      rw [(half_step hx).1, (half_step hx).2]
      omega
def sumOk (l : List Int) : Bool := decide (-9223372036854775808 ≤ l.sum) && decide (l.sum ≤ 9223372036854775807)
def sumV (l : List Int) : Int := if sumOk l then l.sum else 0
def sumE (l : List Int) : Int := if sumOk l then 0 else 10
end Go.Proofs.Ytoachnhdedpbdaa
