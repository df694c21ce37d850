/- novate.joined, the closure of novate.Dues. -/
import Derived.Test.YtgdonempmblhhaaNv11
import Derived.Test.YtgdonempmblhhaaNv12
set_option linter.unusedSimpArgs false
set_option linter.unusedVariables false
namespace Go.Proofs.Ytgdonempmblhhaa
open Go.RowKit Go.Lib
set_option maxRecDepth 10000 in
theorem joined_any (A : Option Addr) (n c : Nat) (ss : List DV) (xs : List (List Due)) (w : World) (h1 : Row dvT w A n ss) (h2 : RowsD w ss xs) (hs : xs.flatten.length ≤ 100000) :
    Calls Try.prog 39 #[.slice A n c] w fun e w' => ∃ v, e = .returned v ∧ Own dueT w' w.heap.size v xs.flatten ∧ Bel w w' := by
  go_enter Try.func39, Try.ntmps39
  go_wp2_with fail
  refine (concatD_any A n c ss xs w h1 h2 hs).mono ?_
  rintro e w1 ⟨v, rfl, o, b⟩
  have HO := hid_ o
  have HB := hid_ b
  clear o b h1 h2 hs
  go_wp2
  go_ret
  exact ⟨_, rfl, HO.out, HB.out⟩
/-- Two dues of one party. -/
def twoD (who a c : ByteArray) (x y : Int) : List Due := [⟨who, a, x⟩, ⟨who, c, y⟩]
set_option maxRecDepth 10000 in
theorem dues1_any (who a c : ByteArray) (x y : Int) (ga gc : Nat) (w : World) (h1 : w.cell? ⟨ga, 0, none⟩ = some (.string a)) (h2 : w.cell? ⟨gc, 0, none⟩ = some (.string c)) :
    Calls Try.prog 38 #[.string who, .int .i64 x, .int .i64 y, .pointer (some ⟨ga, 0, none⟩), .pointer (some ⟨gc, 0, none⟩)] w fun e w' => ∃ A, e = .returned (.slice A 2 2) ∧ Row dueT w' A 2 (twoD who a c x y) ∧ Bel w w' := by
  have hr := Row.lit (T := dueT) w (twoD who a c x y) (0, 0) (by simp [twoD])
  have HR : Hid (Row dueT (w.alloc (.cells #[.string who, .string a, .int .i64 x, .string who, .string c, .int .i64 y] 41)) (some ⟨w.heap.size, 0, none⟩) 2 (twoD who a c x y)) := hid_ hr
  clear hr
  go_enter Try.func38, Try.ntmps38
  go_wp2
  go_ret
  exact ⟨_, rfl, HR.out, (Bel.refl _).alloc _⟩
end Go.Proofs.Ytgdonempmblhhaa
