/- coin.Add. -/
import Derived.Test.YtnpinolhhnpniaaGreatSum
import Derived.Test.YtnpinolhhnpniaaGreatAccL
set_option linter.unusedSimpArgs false
set_option linter.unusedVariables false
namespace Go.Proofs.YtnpinolhhnpniaaGreat
open Go.RowKit Go.Lib
theorem wrap_bv (X : BitVec 64) : IntKind.i64.wrap (X.toNat : Nat) = X.toInt := by
  rw [IntKind.wrap_i64, BitVec.toInt_eq_toNat_cond]
  have := X.isLt
  split <;> omega
theorem xor64 (a b : Int) : bits .xor .i64 a b = (BitVec.ofInt 64 a ^^^ BitVec.ofInt 64 b).toInt := wrap_bv _
theorem and64 (a b : Int) : bits .and .i64 a b = (BitVec.ofInt 64 a &&& BitVec.ofInt 64 b).toInt := wrap_bv _
theorem msb64 {a : Int} (h : -9223372036854775808 ≤ a ∧ a ≤ 9223372036854775807) : (BitVec.ofInt 64 a).msb = decide (a < 0) := by
  rw [BitVec.msb_eq_toInt, BitVec.toInt_ofInt]
  have : a.bmod (2 ^ 64) = a := by
    rw [Int.bmod_def]
    omega
  rw [this]
theorem over64 (a b : Int) (ha : -9223372036854775808 ≤ a ∧ a ≤ 9223372036854775807) (hb : -9223372036854775808 ≤ b ∧ b ≤ 9223372036854775807) :
    bits .and .i64 (bits .xor .i64 a (wrap64 (a + b))) (bits .xor .i64 b (wrap64 (a + b))) < 0 ↔ i64B (a + b) = false := by
  have hs : -9223372036854775808 ≤ wrap64 (a + b) ∧ wrap64 (a + b) ≤ 9223372036854775807 := by unfold wrap64; omega
  have e : bits .and .i64 (bits .xor .i64 a (wrap64 (a + b))) (bits .xor .i64 b (wrap64 (a + b))) = ((BitVec.ofInt 64 a ^^^ BitVec.ofInt 64 (wrap64 (a + b))) &&& (BitVec.ofInt 64 b ^^^ BitVec.ofInt 64 (wrap64 (a + b)))).toInt := by
    rw [and64, xor64, xor64, BitVec.ofInt_toInt, BitVec.ofInt_toInt]
  rw [e]
  have h1 : ∀ X : BitVec 64, X.toInt < 0 ↔ X.msb = true := fun X => by rw [BitVec.msb_eq_toInt, decide_eq_true_eq]
  rw [h1, BitVec.msb_and, BitVec.msb_xor, BitVec.msb_xor, msb64 ha, msb64 hb, msb64 hs]
  unfold i64B
  by_cases c1 : a < 0 <;> by_cases c2 : b < 0 <;> by_cases c3 : wrap64 (a + b) < 0 <;> simp [c1, c2, c3] <;> (unfold wrap64 at c3; omega)
def addV (a b : Int) : Int := if i64B (a + b) then a + b else 0
def addE (a b : Int) : Int := if i64B (a + b) then 0 else 10
theorem add_any (a b : Int) (w : World) (ha : -9223372036854775808 ≤ a ∧ a ≤ 9223372036854775807) (hb : -9223372036854775808 ≤ b ∧ b ≤ 9223372036854775807) :
    Calls Tryz.prog 67 #[.int .i64 a, .int .i64 b] w fun e w' => e = .returned (.tuple #[.int .i64 (addV a b), .int .i64 (addE a b)]) ∧ w = w' := by
  have HO := over64 a b ha hb
  obtain ⟨x, hx⟩ : ∃ x, bits .and .i64 (bits .xor .i64 a (wrap64 (a + b))) (bits .xor .i64 b (wrap64 (a + b))) = x := ⟨_, rfl⟩
  rw [hx] at HO
  obtain ⟨v, hv⟩ : ∃ v, addV a b = v := ⟨_, rfl⟩
  obtain ⟨e, he⟩ : ∃ e, addE a b = e := ⟨_, rfl⟩
  rw [hv, he]
  cases hk : i64B (a + b)
  · have h0 : x < 0 := HO.2 hk
    have ev : v = 0 := by rw [← hv]; unfold addV; rw [hk]; rfl
    have ee : e = 10 := by rw [← he]; unfold addE; rw [hk]; rfl
    subst ev ee
    clear HO hk hv he
    go_enter Tryz.func67, Tryz.ntmps67
    go_wp2
    go_ret2
    exact ⟨rfl, rfl⟩
  · have h0 : decide (x < 0) = false := decide_eq_false (fun h => by rw [HO.1 h] at hk; cases hk)
    have hsw : wrap64 (a + b) = a + b := by have := (i64B_iff _).1 hk; unfold wrap64; omega
    have ev : v = a + b := by rw [← hv]; unfold addV; rw [hk]; rfl
    have ee : e = 0 := by rw [← he]; unfold addE; rw [hk]; rfl
    rw [hsw] at hx
    subst ev ee
    clear HO hk hv he
    go_enter Tryz.func67, Tryz.ntmps67
    go_wp2
    go_ret2
    refine ⟨?_, rfl⟩
    show Ending.returned (.tuple #[.int .i64 (wrap64 (a + b)), .int .i64 0]) = _
    rw [hsw]
end Go.Proofs.YtnpinolhhnpniaaGreat
