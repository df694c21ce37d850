/- Acc: '==' and '!='; cambistref11.Same. -/
import Derived.Test.YtnpinolhhnpniaaTyAcc
import Derived.Test.YtnpinolhhnpniaaEqb
import Derived.Laws.StructEq
import Derived.Deep.DeepCutAuto
import Derived.Deep.QuietTactic
import Derived.BigQuiet
set_option linter.unusedSimpArgs false
set_option linter.unusedVariables false
namespace Go.Proofs.Ytnpinolhhnpniaa
open Go.RowKit Go.Lib
def accEq (x y : Acc) : Bool := decide (x.who = y.who) && (decide (x.asset = y.asset) && (decide (x.balance = y.balance) && (decide (x.held = y.held))))
theorem accEq_iff (x y : Acc) : accEq x y = true ↔ x = y := by
  obtain ⟨p0, p1, p2, p3⟩ := x
  obtain ⟨q0, q1, q2, q3⟩ := y
  simp [accEq]
theorem neqAcc (a0 : ByteArray) (a1 : ByteArray) (a2 : Int) (a3 : Int) (b0 : ByteArray) (b1 : ByteArray) (b2 : Int) (b3 : Int) (w : World) : (binOp .neq 38 (.agg #[.string a0, .string a1, .int .i64 a2, .int .i64 a3]) (.agg #[.string b0, .string b1, .int .i64 b2, .int .i64 b3])).run Try.prog w = .ok (.bool (!accEq ⟨a0, a1, a2, a3⟩ ⟨b0, b1, b2, b3⟩)) w := by
  have ui64 := Try.underlying2
  have ii64 := Try.isAgg2
  have zi64 := Try.sizeOf2
  have ustring := Try.underlying9
  have istring := Try.isAgg9
  have zstring := Try.sizeOf9
  have hS : Try.prog.underlying 38 = some (.struct (Try.prog.fieldsOf 38)) := by kernel_rfl
  have hp : Try.prog.stoodInHeld 38 = false := by kernel_rfl
  rw [run_neq_struct, show (10000 : Nat) = 9999 + 1 from rfl, run_equalIn_agg w 9999 38 _ _ hS hp]
  simp only [Program.fieldsOf, Try.underlying38]
  go_simp
  simp only [accEq]
  by_cases h0 : a0 = b0 <;> by_cases h1 : a1 = b1 <;> by_cases h2 : a2 = b2 <;> by_cases h3 : a3 = b3 <;> simp [listsIff, h0, h1, h2, h3]
theorem eqlAcc (a0 : ByteArray) (a1 : ByteArray) (a2 : Int) (a3 : Int) (b0 : ByteArray) (b1 : ByteArray) (b2 : Int) (b3 : Int) (w : World) : (binOp .eql 38 (.agg #[.string a0, .string a1, .int .i64 a2, .int .i64 a3]) (.agg #[.string b0, .string b1, .int .i64 b2, .int .i64 b3])).run Try.prog w = .ok (.bool (accEq ⟨a0, a1, a2, a3⟩ ⟨b0, b1, b2, b3⟩)) w := by
  have ui64 := Try.underlying2
  have ii64 := Try.isAgg2
  have zi64 := Try.sizeOf2
  have ustring := Try.underlying9
  have istring := Try.isAgg9
  have zstring := Try.sizeOf9
  have hS : Try.prog.underlying 38 = some (.struct (Try.prog.fieldsOf 38)) := by kernel_rfl
  have hp : Try.prog.stoodInHeld 38 = false := by kernel_rfl
  rw [run_eql_struct, show (10000 : Nat) = 9999 + 1 from rfl, run_equalIn_agg w 9999 38 _ _ hS hp]
  simp only [Program.fieldsOf, Try.underlying38]
  go_simp
  simp only [accEq]
  by_cases h0 : a0 = b0 <;> by_cases h1 : a1 = b1 <;> by_cases h2 : a2 = b2 <;> by_cases h3 : a3 = b3 <;> simp [listsIff, h0, h1, h2, h3]
set_option maxRecDepth 10000 in
set_option maxHeartbeats 1000000 in
theorem sameAcc_any (A : Option Addr) (n c : Nat) (xs : List Acc) (B : Option Addr) (m d : Nat) (ys : List Acc) (w : World) (hA : Row accT w A n xs) (hB : Row accT w B m ys) :
    Calls Try.prog 10 #[.slice A n c, .slice B m d] w fun e w' => e = .returned (.bool (eqB xs ys)) ∧ Bel w w' := by
  have hn := hA.2.1
  have hm := hB.2.1
  obtain ⟨q, hq⟩ : ∃ q, eqB xs ys = q := ⟨_, rfl⟩
  rw [hq]
  have HQ := hid_ hq
  have HL1 := hid_ hA.1
  have HL2 := hid_ hB.1
  clear hq
  go_enter Try.func10, Try.ntmps10
  by_cases hl : n = m
  · subst hl
    go_wp2_with fail
    go_loopw [5] (fun i wr => ∃ j : Nat, j ≤ n ∧ i = .int .i64 j ∧ Hid (xs.take j = ys.take j) ∧ Bel w wr) (fun i _ => n - (intOf i).toNat)
    case atStart => exact ⟨0, Nat.zero_le _, rfl, hid_ rfl, Bel.refl _⟩
    case round =>
      obtain ⟨j, hj, rfl, hx, hb⟩ := hrel
      have BR := hid_ hb
      by_cases hjn : j < n
      · obtain ⟨ad, a0, a1, a2, a3, rfl, ho, d0, d1, d2, d3⟩ := (hA.bel hb).acc hjn
        obtain ⟨bd, b0, b1, b2, b3, rfl, ho', e0, e1, e2, e3⟩ := (hB.bel hb).acc hjn
        have hneq := neqAcc a0 a1 a2 a3 b0 b1 b2 b3
        obtain ⟨r, hr⟩ : ∃ r, accEq ⟨a0, a1, a2, a3⟩ ⟨b0, b1, b2, b3⟩ = r := ⟨_, rfl⟩
        rw [hr] at hneq
        have HR := hid_ hr
        have HO := hid_ ho
        have HO' := hid_ ho'
        have i0 : (0 : Int) ≤ (j : Int) := by omega
        have i1 : (j : Int) < (n : Int) := by omega
        clear hr ho ho' hb
        go_upto_region 6 with (fail)
        cases r
        · have HF : Hid (q = false) := hid_ (by
            rw [← HQ.out]
            refine eqB_0 fun e => ?_
            have h1 := HO.out
            rw [e, HO'.out] at h1
            have h2 := (accEq_iff ⟨a0, a1, a2, a3⟩ ⟨b0, b1, b2, b3⟩).2 (Option.some.inj h1).symm
            rw [HR.out] at h2
            cases h2)
          clear hx HO HO' HR
          go_quiet (fail)
          go_wp2
          go_ret
          exact ⟨by rw [HF.out]; rfl, BR.out.drewN _⟩
        · have HX : Hid (xs.take (j + 1) = ys.take (j + 1)) := hid_ (by
            rw [List.take_add_one, List.take_add_one, HO.out, HO'.out, hx.out, (accEq_iff ⟨a0, a1, a2, a3⟩ ⟨b0, b1, b2, b3⟩).1 HR.out])
          clear hx HO HO' HR
          go_quiet (fail)
          go_wp2
          go_roundw
          case rel => exact ⟨j + 1, by omega, by go_num, HX, BR.out.drewN _⟩
          case measure => simp [intOf]; omega
      · obtain rfl : j = n := by omega
        have HF : Hid (q = true) := hid_ (by
          rw [← HQ.out]
          refine eqB_1 ?_
          have h1 := hx.out
          rw [List.take_of_length_le (by rw [HL1.out]; omega), List.take_of_length_le (by rw [HL2.out]; omega)] at h1
          exact h1)
        clear hx hb
        go_wp2
        go_ret
        exact ⟨by rw [HF.out]; rfl, BR.out⟩
  · have HF : Hid (q = false) := hid_ (by
      rw [← HQ.out]
      exact eqB_0 fun e => hl (by rw [← HL1.out, ← HL2.out, e]))
    have e1 : ((n : Int) != (m : Int)) = true := by simp; omega
    go_wp2
    go_ret
    exact ⟨by rw [HF.out]; rfl, Bel.refl _⟩
end Go.Proofs.Ytnpinolhhnpniaa
