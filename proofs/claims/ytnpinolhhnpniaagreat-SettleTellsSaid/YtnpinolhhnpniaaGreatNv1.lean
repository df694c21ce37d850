/- Names: strings.IndexByte, label.of, Who, Asset. -/
import Derived.Test.YtnpinolhhnpniaaGreatTyDue
import Derived.Test.YtnpinolhhnpniaaGreatLab
import Derived.Laws.Strings3
import Derived.Lib.Strings
import Derived.Lib.Slices
set_option linter.unusedSimpArgs false
set_option linter.unusedVariables false
namespace Go.Proofs.YtnpinolhhnpniaaGreat
open Go.RowKit Go.Lib
set_option maxRecDepth 10000 in
set_option maxHeartbeats 1000000 in
theorem litIndexByte_any (s : ByteArray) (c : Int) (w : World) :
    Calls Tryz.prog 99 #[.string s, .int .u8 c] w fun e w' => e = .returned (.int .i64 (indexByte s.data.toList c.toNat.toUInt8)) ∧ w = w' := by
  go_enter Tryz.func99, Tryz.ntmps99
  go_wp2
  rw [run_callFunc_extern Tryz.func109 (by kernel_rfl) (by kernel_rfl) (by kernel_rfl) (e := Extern.BytealgIndexByte.indexByte) (by kernel_rfl), Lib.run_indexByteString]
  simp only [Result.andThen]
  rw [Oper.upon_value]
  go_wp2
  go_ret
  exact ⟨rfl, rfl⟩
set_option maxRecDepth 10000 in
theorem indexByte_any (s : ByteArray) (c : Int) (w : World) :
    Calls Tryz.prog 88 #[.string s, .int .u8 c] w fun e w' => e = .returned (.int .i64 (indexByte s.data.toList c.toNat.toUInt8)) ∧ w = w' := by
  go_enter Tryz.func88, Tryz.ntmps88
  go_wp2_with fail
  refine (litIndexByte_any s c w).mono ?_
  rintro e w1 ⟨rfl, rfl⟩
  go_wp2
  go_ret
  exact ⟨rfl, rfl⟩
theorem any_take' {α : Type} (f : α → Bool) (l : List α) (k : Nat) {x : α} (h : l[k]? = some x) : (l.take (k + 1)).any f = ((l.take k).any f || f x) := by
  rw [List.take_add_one, h, List.any_append]
  simp
theorem all_take' {α : Type} (f : α → Bool) (l : List α) (k : Nat) {x : α} (h : l[k]? = some x) : (l.take (k + 1)).all f = ((l.take k).all f && f x) := by
  rw [List.take_add_one, h, List.all_append]
  simp
theorem any_true' {α : Type} (f : α → Bool) (l : List α) (k : Nat) {x : α} (h : l[k]? = some x) (hx : f x = true) : l.any f = true := List.any_eq_true.2 ⟨x, List.mem_of_getElem? h, hx⟩
theorem all_false' {α : Type} (f : α → Bool) (l : List α) (k : Nat) {x : α} (h : l[k]? = some x) (hx : f x = false) : l.all f = false := List.all_eq_false.2 ⟨x, List.mem_of_getElem? h, by simp [hx]⟩
set_option maxRecDepth 10000 in
set_option maxHeartbeats 1000000 in
theorem ofIn_any (b : Nat) (c : UInt8) (A : Option Addr) (n k : Nat) (signs : List ByteArray) (w : World) (hc : w.cell? ⟨b, 0, none⟩ = some (.slice A n k)) (hA : Row strT w A n signs) :
    Calls Tryz.prog 87 #[.int .u8 (c.toNat : Int), .pointer (some ⟨b, 0, none⟩)] w fun e w' => e = .returned (.bool (signB signs c)) ∧ w = w' := by
  have hn := hA.2.1
  go_enter Tryz.func87, Tryz.ntmps87
  go_wp2_with fail
  go_loop [5, 8] (fun _ i => ∃ j : Nat, j ≤ n ∧ i = .int .i64 j ∧ Hid (signB (signs.take j) c = false)) (fun _ i => n - (intOf i).toNat)
  case atStart => exact ⟨0, Nat.zero_le _, rfl, rfl⟩
  case round =>
    obtain ⟨j, hj, rfl, hx⟩ := hrel
    by_cases hjn : j < n
    · obtain ⟨ad, s, rfl, ho, d0⟩ := hA.str hjn
      have hst := any_take' (fun l : ByteArray => decide (0 ≤ indexByte l.data.toList c)) signs j ho
      have htr := any_true' (fun l : ByteArray => decide (0 ≤ indexByte l.data.toList c)) signs j ho
      have HST := hid_ hst
      have HTR := hid_ htr
      clear hst htr ho
      go_wp2_with fail
      refine (indexByte_any s (c.toNat : Int) w).mono ?_
      rintro e _ ⟨rfl, rfl⟩
      have hcc : ((c.toNat : Int)).toNat.toUInt8 = c := by rw [Int.toNat_natCast]; exact UInt8.ofNat_toNat
      rw [hcc]
      obtain ⟨r, hr⟩ : ∃ r, indexByte s.data.toList c = r := ⟨_, rfl⟩
      rw [hr]
      have HR := hid_ hr
      clear hr hcc
      by_cases h0 : 0 ≤ r
      · have HF : Hid (signB signs c = true) := HTR.out (by rw [HR.out]; exact decide_eq_true h0)
        clear HTR HST
        go_wp2
        go_ret
        exact ⟨by rw [HF.out]; rfl, rfl⟩
      · have HF : Hid (signB (signs.take (j + 1)) c = false) := hid_ (by
          have h1 := HST.out
          have h2 := hx.out
          unfold signB at h2 ⊢
          rw [h1, h2, HR.out, decide_eq_false h0]
          rfl)
        clear HTR HST hx
        go_wp2
        case roundEnd =>
          go_round
          case rel => exact ⟨j + 1, by omega, by go_num, HF⟩
          case measure => simp [intOf]; omega
    · have hjn' : j = n := by omega
      subst hjn'
      have hfull : signs.take j = signs := by rw [← hA.1, List.take_length]
      have HF : Hid (signB signs c = false) := hid_ (by have := hx.out; rw [hfull] at this; exact this)
      clear hx hfull
      go_wp2
      go_ret
      exact ⟨by rw [HF.out]; rfl, rfl⟩
end Go.Proofs.YtnpinolhhnpniaaGreat
