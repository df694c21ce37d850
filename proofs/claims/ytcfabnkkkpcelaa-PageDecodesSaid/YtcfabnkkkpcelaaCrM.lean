import Derived.Laws.BitsAllLaws
import Derived.Laws.Wrap64
namespace Go.Proofs.Ytcfabnkkkpcelaa

/-! The check sum over 64-bit words, in plain Lean. -/

abbrev W64 := BitVec 64
def poly : W64 := 0xC96C5795D7870F42#64
/-- One bit. -/
def stp (x : W64) : W64 := (x >>> 1) ^^^ (if x.getLsbD 0 then poly else 0#64)
def stps : Nat → W64 → W64
  | 0, x => x
  | n + 1, x => stps n (stp x)
/-- One byte. -/
def byt (x : W64) (b : Int) : W64 := stps 8 (x ^^^ BitVec.ofNat 64 b.toNat)
def run (x : W64) (bs : List Int) : W64 := bs.foldl byt x
def more (s : W64) (bs : List Int) : W64 := ~~~ (run (~~~ s) bs)

theorem xlc (a b c : W64) : a ^^^ (b ^^^ c) = b ^^^ (a ^^^ c) := by rw [← BitVec.xor_assoc, BitVec.xor_comm a b, BitVec.xor_assoc]

theorem stp_xor (x y : W64) : stp (x ^^^ y) = stp x ^^^ stp y := by
  unfold stp
  rw [BitVec.ushiftRight_xor_distrib, BitVec.getLsbD_xor]
  generalize x >>> 1 = a
  generalize y >>> 1 = b
  cases x.getLsbD 0 <;> cases y.getLsbD 0 <;> simp only [Bool.xor_false, Bool.xor_true, Bool.not_true, Bool.not_false, if_true, Bool.false_eq_true, if_false, BitVec.xor_zero]
  · rw [BitVec.xor_assoc]
  · rw [BitVec.xor_assoc, BitVec.xor_assoc, BitVec.xor_comm b poly]
  · rw [BitVec.xor_assoc, BitVec.xor_comm poly, BitVec.xor_assoc, BitVec.xor_self, BitVec.xor_zero]

theorem stp_zero : stp 0#64 = 0#64 := by decide
theorem stps_zero : ∀ n, stps n 0#64 = 0#64
  | 0 => rfl
  | n + 1 => by rw [stps, stp_zero, stps_zero n]
theorem stps_xor : ∀ n (x y : W64), stps n (x ^^^ y) = stps n x ^^^ stps n y
  | 0, _, _ => rfl
  | n + 1, x, y => by simp only [stps]; rw [stp_xor, stps_xor n]
theorem stps_add : ∀ m n (x : W64), stps (m + n) x = stps n (stps m x)
  | 0, n, x => by simp [stps]
  | m + 1, n, x => by rw [Nat.add_right_comm]; simp only [stps]; rw [stps_add m]

theorem stp_ker (z : W64) (h : stp z = 0#64) : z = 0#64 := by
  unfold stp at h
  by_cases hb : z.getLsbD 0 = true
  · rw [if_pos hb] at h
    have h63 := congrArg (fun v => BitVec.getLsbD v 63) h
    simp [poly] at h63
  · rw [if_neg hb] at h
    simp only [BitVec.xor_zero] at h
    apply BitVec.eq_of_getLsbD_eq
    intro i hi
    rcases i with _ | i
    · simpa using hb
    · have := congrArg (fun v => BitVec.getLsbD v i) h
      simp at this
      rw [Nat.add_comm]
      simpa using this

theorem xor_eq_zero {x y : W64} (h : x ^^^ y = 0#64) : x = y := by
  have := congrArg (fun v => v ^^^ y) h
  simpa [BitVec.xor_assoc] using this

theorem stp_inj {x y : W64} (h : stp x = stp y) : x = y := by
  apply xor_eq_zero
  apply stp_ker
  rw [stp_xor, h, BitVec.xor_self]
theorem stps_inj : ∀ n {x y : W64}, stps n x = stps n y → x = y
  | 0, _, _, h => h
  | n + 1, _, _, h => stp_inj (stps_inj n h)

theorem stp_even (z : W64) (h : z.getLsbD 0 = false) : stp z = z >>> 1 := by
  unfold stp
  rw [h]
  simp
theorem four (x : W64) : stps 4 x = (x >>> 4) ^^^ stps 4 (x &&& 15#64) := by
  have hx : x = (x &&& ~~~ 15#64) ^^^ (x &&& 15#64) := by
    apply BitVec.eq_of_getLsbD_eq
    intro i hi
    simp only [BitVec.getLsbD_xor, BitVec.getLsbD_and, BitVec.getLsbD_not, hi, decide_true, Bool.true_and]
    cases x.getLsbD i <;> cases (15#64).getLsbD i <;> rfl
  have h0 : ∀ i, i < 4 → (x &&& ~~~ 15#64).getLsbD i = false := by
    intro i hi
    simp only [BitVec.getLsbD_and, BitVec.getLsbD_not]
    have : (15#64).getLsbD i = true := by
      rcases i with _ | _ | _ | _ | i <;> first | rfl | omega
    simp [this]
  have h4 : (x &&& ~~~ 15#64) >>> 4 = x >>> 4 := by
    apply BitVec.eq_of_getLsbD_eq
    intro i hi
    simp only [BitVec.getLsbD_ushiftRight, BitVec.getLsbD_and, BitVec.getLsbD_not]
    have hlt : 15 < 2 ^ (4 + i) := Nat.lt_of_lt_of_le (by decide : 15 < 2 ^ 4) (Nat.pow_le_pow_right (by decide) (by omega))
    have hf : (15#64).getLsbD (4 + i) = false := by
      rw [BitVec.getLsbD_ofNat, Nat.testBit_lt_two_pow hlt, Bool.and_false]
    rw [hf]
    by_cases hb : 4 + i < 64
    · simp only [hb, decide_true, Bool.not_false, Bool.and_true]
    · rw [BitVec.getLsbD_of_ge x (4 + i) (by omega), Bool.false_and]
  have hz : stps 4 (x &&& ~~~ 15#64) = x >>> 4 := by
    rw [← h4]
    generalize x &&& ~~~ 15#64 = z at h0
    simp only [stps]
    rw [stp_even z (h0 0 (by omega))]
    rw [stp_even (z >>> 1) (by rw [BitVec.getLsbD_ushiftRight]; exact h0 1 (by omega))]
    rw [stp_even (z >>> 1 >>> 1) (by rw [BitVec.getLsbD_ushiftRight, BitVec.getLsbD_ushiftRight]; exact h0 2 (by omega))]
    rw [stp_even (z >>> 1 >>> 1 >>> 1) (by rw [BitVec.getLsbD_ushiftRight, BitVec.getLsbD_ushiftRight, BitVec.getLsbD_ushiftRight]; exact h0 3 (by omega))]
    simp only [← BitVec.shiftRight_add]
  conv => lhs; rw [hx]
  rw [stps_xor, hz]

theorem run_append (x : W64) (a b : List Int) : run x (a ++ b) = run (run x a) b := by simp [run, List.foldl_append]
theorem more_append (s : W64) (a b : List Int) : more (more s a) b = more s (a ++ b) := by simp [more, run_append]

theorem byt_inj {x y : W64} {b : Int} (h : byt x b = byt y b) : x = y := by
  have h' := stps_inj 8 h
  have := congrArg (fun v => v ^^^ BitVec.ofNat 64 b.toNat) h'
  simpa [BitVec.xor_assoc] using this
theorem run_inj : ∀ (bs : List Int) {x y : W64}, run x bs = run y bs → x = y
  | [], _, _, h => h
  | _ :: bs, _, _, h => byt_inj (run_inj bs h)
theorem more_inj {bs : List Int} {x y : W64} (h : more x bs = more y bs) : x = y := by
  have h1 : run (~~~ x) bs = run (~~~ y) bs := by
    have := congrArg (fun v => ~~~ v) h
    simpa [more] using this
  have := congrArg (fun v => ~~~ v) (run_inj bs h1)
  simpa using this
theorem byt_inj_byte {x : W64} {b c : Int} (hb : 0 ≤ b ∧ b < 256) (hc : 0 ≤ c ∧ c < 256) (h : byt x b = byt x c) : b = c := by
  have h' := stps_inj 8 h
  have := congrArg (fun v => x ^^^ v) h'
  simp only [← BitVec.xor_assoc, BitVec.xor_self, BitVec.zero_xor] at this
  have := congrArg BitVec.toNat this
  simp at this
  omega

/-- Of three runs. -/
theorem byt_three (x y z : W64) (a b c d : Int) (h : BitVec.ofNat 64 d.toNat = BitVec.ofNat 64 a.toNat ^^^ BitVec.ofNat 64 b.toNat ^^^ BitVec.ofNat 64 c.toNat) :
    byt (x ^^^ y ^^^ z) d = byt x a ^^^ byt y b ^^^ byt z c := by
  unfold byt
  rw [h, ← stps_xor, ← stps_xor]
  congr 1
  generalize BitVec.ofNat 64 a.toNat = a
  generalize BitVec.ofNat 64 b.toNat = b
  generalize BitVec.ofNat 64 c.toNat = c
  simp only [BitVec.xor_assoc]
  congr 1
  rw [xlc y b, ← BitVec.xor_assoc a, ← BitVec.xor_assoc]
  simp only [BitVec.xor_assoc, BitVec.xor_comm, xlc]

end Go.Proofs.Ytcfabnkkkpcelaa
