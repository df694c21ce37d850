/- coin.Mul at amounts that may be. -/
import Derived.Test.YtoachnhdedpbdaaWd
import Derived.Test.YtoachnhdedpbdaaProg
import Derived.Lib.Mul64
import Derived.Laws.Bits64b
import Derived.Shelf.Bits.Mul64
set_option linter.unusedSimpArgs false
set_option linter.unusedVariables false
namespace Go.Proofs.Ytoachnhdedpbdaa
open Go.RowKit Go.Lib
set_option maxHeartbeats 1000000 in
theorem mul64_any (x y : Nat) (hx : x < 18446744073709551616) (hy : y < 18446744073709551616) (w : World) :
    Calls Try.prog 83 #[.int .u64 x, .int .u64 y] w fun e w' => e = .returned (.tuple #[.int .u64 ((x * y / 18446744073709551616 : Nat) : Int), .int .u64 ((x * y % 18446744073709551616 : Nat) : Int)]) ∧ w' = w := by
  obtain ⟨bd, bt, bw, hhi⟩ := Lib.mul64_hi x y hx hy
  have ba := Lib.half_mul_le (a := x / 4294967296) (b := y / 4294967296) (by omega) (by omega)
  have bb := Lib.half_mul_le (a := x / 4294967296) (b := y % 4294967296) (by omega) (by omega)
  have bc := Lib.half_mul_le (a := x % 4294967296) (b := y / 4294967296) (by omega) (by omega)
  have ba' : x / 4294967296 * (y / 4294967296) < 18446744073709551616 := by omega
  have bb' : x / 4294967296 * (y % 4294967296) < 18446744073709551616 := by omega
  have bc' : x % 4294967296 * (y / 4294967296) < 18446744073709551616 := by omega
  have bh1 : x / 4294967296 * (y / 4294967296) + (x / 4294967296 * (y % 4294967296) + x % 4294967296 * (y % 4294967296) / 4294967296) / 4294967296 < 18446744073709551616 := by omega
  have bh : x / 4294967296 * (y / 4294967296) + (x / 4294967296 * (y % 4294967296) + x % 4294967296 * (y % 4294967296) / 4294967296) / 4294967296 + ((x / 4294967296 * (y % 4294967296) + x % 4294967296 * (y % 4294967296) / 4294967296) % 4294967296 + x % 4294967296 * (y / 4294967296)) / 4294967296 < 18446744073709551616 := by omega
  go_enter Try.func83, Try.ntmps83
  go_wp2
  simp only [Mul64.maskN x hx, Mul64.maskN y hy, Mul64.divN, Mul64.mulN, Mul64.addN, Mul64.wrapN _ bd, Mul64.wrapN _ bb', Mul64.wrapN _ bt, Mul64.maskN _ bt, Mul64.wrapN _ bc', Mul64.wrapN _ bw, Mul64.wrapN _ ba', Mul64.wrapN _ bh1, Mul64.wrapN _ bh, Mul64.wrapM (x * y)]
  rw [hhi]
  go_ret2
  exact ⟨rfl, rfl⟩
theorem far_any (a : Nat) (h : a ≤ 1000000) (w : World) :
    Calls Try.prog 84 #[.int .i64 (a : Int)] w fun e w' => e = .returned (.int .u64 (a : Int)) ∧ w = w' := by
  have h0 : ¬ (a : Int) < 0 := by omega
  have hw : IntKind.u64.wrap (a : Int) = (a : Int) := Mul64.wrapN a (by omega)
  go_enter Try.func84, Try.ntmps84
  go_wp2
  go_ret
  exact ⟨rfl, rfl⟩
set_option maxRecDepth 10000 in
set_option maxHeartbeats 1000000 in
theorem mul_any (a b : Nat) (ha : a ≤ 1000000) (hb : b ≤ 1000000) (w : World) :
    Calls Try.prog 53 #[.int .i64 (a : Int), .int .i64 (b : Int)] w fun e w' => e = .returned (.tuple #[.int .i64 ((a * b : Nat) : Int), .int .i64 0]) ∧ w = w' := by
  have hab : a * b ≤ 1000000 * 1000000 := Nat.mul_le_mul ha hb
  have HAB := hid_ hab
  clear hab
  go_enter Try.func53, Try.ntmps53
  go_wp2_with fail
  refine (far_any a ha w).mono ?_
  rintro e _ ⟨rfl, rfl⟩
  go_wp2_with fail
  refine (far_any b hb w).mono ?_
  rintro e _ ⟨rfl, rfl⟩
  go_wp2_with fail
  refine (mul64_any a b (by omega) (by omega) w).mono ?_
  rintro e w1 ⟨rfl, hw⟩
  subst hw
  have h1 : a * b / 18446744073709551616 = 0 := by have := HAB.out; omega
  have h2 : a * b % 18446744073709551616 = a * b := by have := HAB.out; omega
  rw [h1, h2]
  obtain ⟨p, hp⟩ : ∃ p, a * b = p := ⟨_, rfl⟩
  rw [hp]
  have HP := hid_ hp
  have hpl : p ≤ 1000000000000 := by have := HAB.out; rw [hp] at this; omega
  have ca : ¬ (a : Int) < 0 := by omega
  have cb : ¬ (b : Int) < 0 := by omega
  have cl : ¬ (9223372036854775807 : Int) < (p : Int) := by omega
  have cw : IntKind.i64.wrap (p : Int) = (p : Int) := by rw [IntWalk.i64_left]; exact IntWalk.wrap64_in _ (by omega)
  clear h1 h2 hp ha hb
  go_wp2_with fail
  all_goals go_ret2
  all_goals exact ⟨by rw [HP.out]; rfl, rfl⟩
end Go.Proofs.Ytoachnhdedpbdaa
