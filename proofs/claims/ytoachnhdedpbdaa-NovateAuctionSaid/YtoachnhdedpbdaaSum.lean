/- Words for coin.Sum: the halves of a number. -/
import Derived.Test.YtoachnhdedpbdaaProg
import Derived.Test.YtoachnhdedpbdaaWd
import Derived.Test.YtoachnhdedpbdaaTyI
import Derived.Test.YtoachnhdedpbdaaSumP
import Derived.Deep.QuietTactic
import Derived.Deep.DeepCutAuto
import Derived.Laws.Bits128
import Derived.Test.YtoachnhdedpbdaaBx2
import Derived.Test.YtoachnhdedpbdaaBox
set_option linter.unusedSimpArgs false
set_option linter.unusedVariables false
namespace Go.Proofs.Ytoachnhdedpbdaa
open Go.RowKit Go.Lib
theorem and32i (n : Int) : bits .and .i64 n 4294967295 = n % 4294967296 := by
  have hm : (BitVec.ofInt 64 4294967295).toNat = 2 ^ 32 - 1 := by decide
  have key : (BitVec.ofInt 64 n &&& BitVec.ofInt 64 4294967295).toNat = (n % ((2 ^ 64 : Nat) : Int)).toNat % 2 ^ 32 := by
    rw [BitVec.toNat_and, BitVec.toNat_ofInt, hm, Nat.and_two_pow_sub_one_eq_mod]
  show IntKind.i64.wrap ((BitVec.ofInt 64 n &&& BitVec.ofInt 64 4294967295).toNat : Nat) = n % 4294967296
  rw [key, IntKind.wrap_i64]
  omega
theorem or32i (a b : Int) (h0 : -2147483648 ≤ a) (h1 : a ≤ 2147483647) (h2 : 0 ≤ b) (h3 : b < 4294967296) : bits .or .i64 (a * 4294967296) b = a * 4294967296 + b := by
  have hA : (BitVec.ofInt 64 (a * 4294967296)).toNat = 2 ^ 32 * (a % 4294967296).toNat := by
    rw [BitVec.toNat_ofInt]
    omega
  have hB : (BitVec.ofInt 64 b).toNat = b.toNat := by
    rw [BitVec.toNat_ofInt]
    omega
  have key : (BitVec.ofInt 64 (a * 4294967296) ||| BitVec.ofInt 64 b).toNat = 2 ^ 32 * (a % 4294967296).toNat + b.toNat := by
    rw [BitVec.toNat_or, hA, hB, Nat.two_pow_add_eq_or_of_lt (by omega)]
  show IntKind.i64.wrap ((BitVec.ofInt 64 (a * 4294967296) ||| BitVec.ofInt 64 b).toNat : Nat) = _
  rw [key, IntKind.wrap_i64]
  omega
def i64T : Ty Int where
  e := 2
  sz := 1
  enc := fun x => [.int .i64 x]
  pos := by decide
  len := fun _ => rfl
  one := fun x u hu => by simp at hu; subst hu; rfl
theorem i64S : SlT Try.prog 41 i64T 8 (.int .i64 0) where
  ut := by kernel_rfl
  info := by kernel_rfl
  zs := rfl
  by0 := by decide
theorem Row.i64 {w : World} {A : Option Addr} {n : Nat} {l : List Int} (h : Row i64T w A n l) {k : Nat} (hk : k < n) : ∃ ad x, A = some ad ∧ l[k]? = some x ∧ w.cell? (ad.add k) = some (.int .i64 x) := by
  obtain ⟨ad, x, e, ho, h0, _⟩ := h.at_ hk
  refine ⟨ad, x, e, ho, ?_⟩
  have := h0 _ rfl
  simpa [i64T] using this
set_option maxRecDepth 10000 in
set_option maxHeartbeats 1000000 in
theorem sum_any (A : Option Addr) (n c : Nat) (l : List Int) (w : World) (hA : Row i64T w A n l) (hn : n ≤ 1000000) (hl : ∀ x ∈ l, -9223372036854775808 ≤ x ∧ x ≤ 9223372036854775807) :
    Calls Try.prog 13 #[.slice A n c] w fun e w' => e = .returned (.tuple #[.int .i64 (sumV l), .int .i64 (sumE l)]) ∧ Bel w w' := by
  have HA := hid_ hA
  have HL := hid_ hA.1
  have hz := Bx.new w 90 [.int .i64 0, .int .i64 0]
  have HZ := hid_ hz
  have HI := hid_ hl
  clear hA hz hl
  go_enter Try.func13, Try.ntmps13
  go_wp2_with fail
  go_loopw [10] (fun i wr => ∃ k : Nat, k ≤ n ∧ i = .int .i64 k ∧ Hid (Bx wr w.heap.size 90 [.int .i64 (hi32 (l.take k)), .int .i64 (lo32 (l.take k))]) ∧ Bel w wr) (fun i _ => n - (intOf i).toNat)
  case atStart => exact ⟨0, Nat.zero_le _, rfl, HZ, (Bel.refl w).alloc _⟩
  case round =>
    obtain ⟨k, hk, rfl, hz, hbr⟩ := hrel
    by_cases hkn : k < n
    · obtain ⟨ad, x, rfl, hx, d0⟩ := (HA.out.bel hbr).i64 hkn
      obtain ⟨h, hh⟩ : ∃ h, hi32 (l.take k) = h := ⟨_, rfl⟩
      obtain ⟨g, hg⟩ : ∃ h, lo32 (l.take k) = h := ⟨_, rfl⟩
      rw [hh, hg] at hz
      have BR := hid_ hbr
      have HS := hid_ (half_step hx)
      have hb := half_le HI.out k
      rw [hh, hg] at hb HS
      have hx2 := HI.out x (List.mem_of_getElem? hx)
      have hw1 : wrap64 (h + x / 4294967296) = h + x / 4294967296 := by unfold wrap64; omega
      have hw2 : wrap64 (g + x % 4294967296) = g + x % 4294967296 := by unfold wrap64; omega
      have HW := hid_ (And.intro hw1 hw2)
      have KF := hid_ ((hz.out.set 0 (.int .i64 (wrap64 (h + x / 4294967296)))).set 1 (.int .i64 (wrap64 (g + x % 4294967296))))
      have BF := hid_ ((BR.out.setBx (j := 0) (Nat.le_refl _) (.int .i64 (wrap64 (h + x / 4294967296)))).setBx (j := 1) (Nat.le_refl _) (.int .i64 (wrap64 (g + x % 4294967296))))
      clear hw1 hw2 hb hx2 hx hh hg hbr
      have z0 := hz.out.cell 0 rfl
      have z1 := hz.out.cell 1 rfl
      have zf := fun j => hz.out.frozen j
      have k0 : (0 : Int) ≤ (k : Int) := by omega
      have k1 : (k : Int) < (n : Int) := by omega
      have ha := and32i x
      go_wp2
      case roundEnd =>
        go_roundw
        case rel => exact ⟨k + 1, by omega, by go_num, by rw [show hi32 (l.take (k + 1)) = wrap64 (h + x / 4294967296) from by rw [HS.out.1, HW.out.1], show lo32 (l.take (k + 1)) = wrap64 (g + x % 4294967296) from by rw [HS.out.2, HW.out.2]]; exact KF, BF.out⟩
        case measure => simp [intOf]; omega
    · obtain rfl : n = k := by omega
      have hfull : l.take n = l := by rw [← HL.out, List.take_length]
      have hb := half_le HI.out n
      rw [hfull] at hz hb
      have hs := half_sum l
      obtain ⟨h, hh⟩ : ∃ h, hi32 l = h := ⟨_, rfl⟩
      obtain ⟨g, hg⟩ : ∃ h, lo32 l = h := ⟨_, rfl⟩
      rw [hh, hg] at hz hb hs
      have BR := hid_ hbr
      have z0 := hz.out.cell 0 rfl
      have z1 := hz.out.cell 1 rfl
      have k1 : ¬ (n : Int) < (n : Int) := by omega
      have ha := and32i g
      obtain ⟨q, hq⟩ : ∃ q, h + g / 4294967296 = q := ⟨_, rfl⟩
      have hw : wrap64 (h + g / 4294967296) = q := by unfold wrap64; omega
      have ok : sumOk l = (decide (-2147483648 ≤ q) && decide (q ≤ 2147483647)) := by
        unfold sumOk
        rw [hs]
        rw [Bool.eq_iff_iff]
        simp only [Bool.and_eq_true, decide_eq_true_eq]
        omega
      have HOK := hid_ ok
      have hor : -2147483648 ≤ q → q ≤ 2147483647 → bits .or .i64 (q * 4294967296) (g % 4294967296) = l.sum := fun a b => by rw [or32i q _ a b (by omega) (by omega), hs]; omega
      have HOR := hid_ hor
      clear hfull hh hg hb hs hbr hq ok hor hz
      by_cases c1 : q < -2147483648
      · have HV : Hid (sumV l = 0 ∧ sumE l = 10) := hid_ (by unfold sumV sumE; rw [HOK.out, decide_eq_false (show ¬ -2147483648 ≤ q by omega)]; exact ⟨rfl, rfl⟩)
        go_wp2
        go_ret2
        exact ⟨by rw [HV.out.1, HV.out.2]; rfl, BR.out⟩
      · have d1 : decide (q < -2147483648) = false := decide_eq_false c1
        by_cases c2 : 2147483647 < q
        · have HV : Hid (sumV l = 0 ∧ sumE l = 10) := hid_ (by unfold sumV sumE; rw [HOK.out, decide_eq_false (show ¬ q ≤ 2147483647 by omega), Bool.and_false]; exact ⟨rfl, rfl⟩)
          go_wp2
          go_ret2
          exact ⟨by rw [HV.out.1, HV.out.2]; rfl, BR.out⟩
        · have d2 : decide (2147483647 < q) = false := decide_eq_false c2
          have HV : Hid (sumV l = l.sum ∧ sumE l = 0) := hid_ (by unfold sumV sumE; rw [HOK.out, decide_eq_true (show -2147483648 ≤ q by omega), decide_eq_true (show q ≤ 2147483647 by omega)]; exact ⟨rfl, rfl⟩)
          have ho := HOR.out (by omega) (by omega)
          have hw3 : wrap64 (q * 4294967296) = q * 4294967296 := by unfold wrap64; omega
          go_wp2
          go_ret2
          exact ⟨by rw [HV.out.1, HV.out.2]; rfl, BR.out⟩
end Go.Proofs.Ytoachnhdedpbdaa
