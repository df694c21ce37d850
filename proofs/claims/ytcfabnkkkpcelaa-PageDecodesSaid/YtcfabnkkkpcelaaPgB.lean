/- Words on bits, for pages. -/
import Derived.Test.YtcfabnkkkpcelaaPgTy
import Derived.Laws.Bits128
set_option linter.unusedSimpArgs false
set_option linter.unusedVariables false
namespace Go.Proofs.Ytcfabnkkkpcelaa
open Go.RowKit Go.Lib
theorem orI (a b : Int) : bits .or .i64 a b = (BitVec.ofInt 64 a ||| BitVec.ofInt 64 b).toInt := by
  show IntKind.i64.wrap ((BitVec.ofInt 64 a ||| BitVec.ofInt 64 b).toNat : Nat) = _
  generalize BitVec.ofInt 64 a ||| BitVec.ofInt 64 b = x
  rw [IntKind.wrap_i64, BitVec.toInt_eq_toNat_cond]
  have := x.isLt
  split <;> omega
theorem ofInt_zero {a : Int} (h0 : -9223372036854775808 ≤ a) (h1 : a ≤ 9223372036854775807) : BitVec.ofInt 64 a = 0#64 ↔ a = 0 := by
  constructor
  · intro h
    have := congrArg BitVec.toNat h
    rw [BitVec.toNat_ofInt] at this
    simp at this
    omega
  · rintro rfl
    rfl
theorem or_zero {x y : BitVec 64} : x ||| y = 0#64 ↔ x = 0#64 ∧ y = 0#64 := BitVec.or_eq_zero_iff
def i64R (a : Int) : Prop := -9223372036854775808 ≤ a ∧ a ≤ 9223372036854775807
theorem orFour {a b c d : Int} (ha : i64R a) (hb : i64R b) (hc : i64R c) (hd : i64R d) :
    (bits .or .i64 (bits .or .i64 (bits .or .i64 a b) c) d = 0) ↔ (a = 0 ∧ b = 0 ∧ c = 0 ∧ d = 0) := by
  rw [orI, orI a b, orI, BitVec.ofInt_toInt, BitVec.ofInt_toInt]
  have key : ∀ x : BitVec 64, x.toInt = 0 ↔ x = 0#64 := fun x => by
    constructor
    · intro h
      exact BitVec.eq_of_toInt_eq (by rw [h]; rfl)
    · rintro rfl; rfl
  rw [key, or_zero, or_zero, or_zero, ofInt_zero ha.1 ha.2, ofInt_zero hb.1 hb.2, ofInt_zero hc.1 hc.2, ofInt_zero hd.1 hd.2]
  constructor
  · rintro ⟨⟨⟨h1, h2⟩, h3⟩, h4⟩; exact ⟨h1, h2, h3, h4⟩
  · rintro ⟨h1, h2, h3, h4⟩; exact ⟨⟨⟨h1, h2⟩, h3⟩, h4⟩
theorem and16 (n : Int) : bits .and .i64 n 65535 = n % 65536 := by
  have hm : (BitVec.ofInt 64 65535).toNat = 2 ^ 16 - 1 := by decide
  have key : (BitVec.ofInt 64 n &&& BitVec.ofInt 64 65535).toNat = (n % ((2 ^ 64 : Nat) : Int)).toNat % 2 ^ 16 := by
    rw [BitVec.toNat_and, BitVec.toNat_ofInt, hm, Nat.and_two_pow_sub_one_eq_mod]
  show IntKind.i64.wrap ((BitVec.ofInt 64 n &&& BitVec.ofInt 64 65535).toNat : Nat) = n % 65536
  rw [key, IntKind.wrap_i64]
  omega
theorem or8 (a b : Int) (h0 : 0 ≤ a) (h1 : a < 36028797018963968) (h2 : 0 ≤ b) (h3 : b < 256) : bits .or .i64 (a * 256) b = a * 256 + b := by
  have hA : (BitVec.ofInt 64 (a * 256)).toNat = 2 ^ 8 * a.toNat := by
    rw [BitVec.toNat_ofInt]
    omega
  have hB : (BitVec.ofInt 64 b).toNat = b.toNat := by
    rw [BitVec.toNat_ofInt]
    omega
  have key : (BitVec.ofInt 64 (a * 256) ||| BitVec.ofInt 64 b).toNat = 2 ^ 8 * a.toNat + b.toNat := by
    rw [BitVec.toNat_or, hA, hB, Nat.two_pow_add_eq_or_of_lt (by omega)]
  show IntKind.i64.wrap ((BitVec.ofInt 64 (a * 256) ||| BitVec.ofInt 64 b).toNat : Nat) = _
  rw [key, IntKind.wrap_i64]
  omega
theorem or16 (a b : Int) (h0 : 0 ≤ a) (h1 : a < 65536) (h2 : 0 ≤ b) (h3 : b < 65536) : bits .or .i64 (a * 65536) b = a * 65536 + b := by
  have hA : (BitVec.ofInt 64 (a * 65536)).toNat = 2 ^ 16 * a.toNat := by
    rw [BitVec.toNat_ofInt]
    omega
  have hB : (BitVec.ofInt 64 b).toNat = b.toNat := by
    rw [BitVec.toNat_ofInt]
    omega
  have key : (BitVec.ofInt 64 (a * 65536) ||| BitVec.ofInt 64 b).toNat = 2 ^ 16 * a.toNat + b.toNat := by
    rw [BitVec.toNat_or, hA, hB, Nat.two_pow_add_eq_or_of_lt (by omega)]
  show IntKind.i64.wrap ((BitVec.ofInt 64 (a * 65536) ||| BitVec.ofInt 64 b).toNat : Nat) = _
  rw [key, IntKind.wrap_i64]
  omega
theorem or8u (a b : Int) (h0 : 0 ≤ a) (h1 : a < 72057594037927936) (h2 : 0 ≤ b) (h3 : b < 256) : bits .or .u64 (a * 256) b = a * 256 + b := by
  have hA : (BitVec.ofInt 64 (a * 256)).toNat = 2 ^ 8 * a.toNat := by
    rw [BitVec.toNat_ofInt]
    omega
  have hB : (BitVec.ofInt 64 b).toNat = b.toNat := by
    rw [BitVec.toNat_ofInt]
    omega
  have key : (BitVec.ofInt 64 (a * 256) ||| BitVec.ofInt 64 b).toNat = 2 ^ 8 * a.toNat + b.toNat := by
    rw [BitVec.toNat_or, hA, hB, Nat.two_pow_add_eq_or_of_lt (by omega)]
  show IntKind.u64.wrap ((BitVec.ofInt 64 (a * 256) ||| BitVec.ofInt 64 b).toNat : Nat) = _
  rw [key, IntKind.wrap_u64]
  omega
end Go.Proofs.Ytcfabnkkkpcelaa
