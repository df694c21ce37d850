/- label.of, Who, Asset. -/
import Derived.Test.YtoachnhdedpbdaaTyDue
import Derived.Test.YtoachnhdedpbdaaLab
import Derived.Laws.Strings3
import Derived.Lib.Strings
import Derived.Lib.Slices
import Derived.Lib.ConvBytes
set_option linter.unusedSimpArgs false
set_option linter.unusedVariables false
namespace Go.Proofs.Ytoachnhdedpbdaa
open Go.RowKit Go.Lib
set_option maxRecDepth 10000 in
set_option maxHeartbeats 1000000 in
theorem litIndexByte_any (s : ByteArray) (c : Int) (w : World) :
    Calls Try.prog 111 #[.string s, .int .u8 c] w fun e w' => e = .returned (.int .i64 (indexByte s.data.toList c.toNat.toUInt8)) ∧ w = w' := by
  go_enter Try.func111, Try.ntmps111
  go_wp2
  rw [run_callFunc_extern Try.func118 (by kernel_rfl) (by kernel_rfl) (by kernel_rfl) (e := Extern.BytealgIndexByte.indexByte) (by kernel_rfl), Lib.run_indexByteString]
  simp only [Result.andThen]
  rw [Oper.upon_value]
  go_wp2
  go_ret
  exact ⟨rfl, rfl⟩
set_option maxRecDepth 10000 in
theorem indexByte_any (s : ByteArray) (c : Int) (w : World) :
    Calls Try.prog 102 #[.string s, .int .u8 c] w fun e w' => e = .returned (.int .i64 (indexByte s.data.toList c.toNat.toUInt8)) ∧ w = w' := by
  go_enter Try.func102, Try.ntmps102
  go_wp2_with fail
  refine (litIndexByte_any s c w).mono ?_
  rintro e w1 ⟨rfl, rfl⟩
  go_wp2
  go_ret
  exact ⟨rfl, rfl⟩
theorem any_take' {α : Type} (f : α → Bool) (l : List α) (k : Nat) {x : α} (h : l[k]? = some x) : (l.take (k + 1)).any f = ((l.take k).any f || f x) := by
  rw [List.take_add_one, h, List.any_append]
  simp
theorem all_take' {α : Type} (f : α → Bool) (l : List α) (k : Nat) {x : α} (h : l[k]? = some x) : (l.take (k + 1)).all f = ((l.take k).all f && f x) := by
  rw [List.take_add_one, h, List.all_append]
  simp
theorem any_true' {α : Type} (f : α → Bool) (l : List α) (k : Nat) {x : α} (h : l[k]? = some x) (hx : f x = true) : l.any f = true := List.any_eq_true.2 ⟨x, List.mem_of_getElem? h, hx⟩
theorem all_false' {α : Type} (f : α → Bool) (l : List α) (k : Nat) {x : α} (h : l[k]? = some x) (hx : f x = false) : l.all f = false := List.all_eq_false.2 ⟨x, List.mem_of_getElem? h, by simp [hx]⟩
set_option maxRecDepth 10000 in
set_option maxHeartbeats 1000000 in
theorem ofIn_any (b : Nat) (c : UInt8) (A : Option Addr) (n k : Nat) (signs : List ByteArray) (w : World) (hc : w.cell? ⟨b, 0, none⟩ = some (.slice A n k)) (hA : Row strT w A n signs) :
    Calls Try.prog 101 #[.int .u8 (c.toNat : Int), .pointer (some ⟨b, 0, none⟩)] w fun e w' => e = .returned (.bool (signB signs c)) ∧ w = w' := by
  have hn := hA.2.1
  go_enter Try.func101, Try.ntmps101
  go_wp2_with fail
  go_loop [5, 8] (fun _ i => ∃ j : Nat, j ≤ n ∧ i = .int .i64 j ∧ Hid (signB (signs.take j) c = false)) (fun _ i => n - (intOf i).toNat)
  case atStart => exact ⟨0, Nat.zero_le _, rfl, rfl⟩
  case round =>
    obtain ⟨j, hj, rfl, hx⟩ := hrel
    by_cases hjn : j < n
    · obtain ⟨ad, s, rfl, ho, d0⟩ := hA.str hjn
      have hst := any_take' (fun l : ByteArray => decide (0 ≤ indexByte l.data.toList c)) signs j ho
      have htr := any_true' (fun l : ByteArray => decide (0 ≤ indexByte l.data.toList c)) signs j ho
      have HST := hid_ hst
      have HTR := hid_ htr
      clear hst htr ho
      go_wp2_with fail
      refine (indexByte_any s (c.toNat : Int) w).mono ?_
      rintro e _ ⟨rfl, rfl⟩
      have hcc : ((c.toNat : Int)).toNat.toUInt8 = c := by rw [Int.toNat_natCast]; exact UInt8.ofNat_toNat
      rw [hcc]
      obtain ⟨r, hr⟩ : ∃ r, indexByte s.data.toList c = r := ⟨_, rfl⟩
      rw [hr]
      have HR := hid_ hr
      clear hr hcc
      by_cases h0 : 0 ≤ r
      · have HF : Hid (signB signs c = true) := HTR.out (by rw [HR.out]; exact decide_eq_true h0)
        clear HTR HST
        go_wp2
        go_ret
        exact ⟨by rw [HF.out]; rfl, rfl⟩
      · have HF : Hid (signB (signs.take (j + 1)) c = false) := hid_ (by
          have h1 := HST.out
          have h2 := hx.out
          unfold signB at h2 ⊢
          rw [h1, h2, HR.out, decide_eq_false h0]
          rfl)
        clear HTR HST hx
        go_wp2
        case roundEnd =>
          go_round
          case rel => exact ⟨j + 1, by omega, by go_num, HF⟩
          case measure => simp [intOf]; omega
    · have hjn' : j = n := by omega
      subst hjn'
      have hfull : signs.take j = signs := by rw [← hA.1, List.take_length]
      have HF : Hid (signB signs c = false) := hid_ (by have := hx.out; rw [hfull] at this; exact this)
      clear hx hfull
      go_wp2
      go_ret
      exact ⟨by rw [HF.out]; rfl, rfl⟩
end Go.Proofs.Ytoachnhdedpbdaa
set_option linter.unusedSimpArgs false
set_option linter.unusedVariables false
namespace Go.Proofs.Ytoachnhdedpbdaa
open Go.RowKit Go.Lib
theorem belBytes (w : World) (e : TypeId) (s : ByteArray) : Bel w (bytesWorld w e s) :=
  ⟨rfl, rfl, rfl, by rw [bytesWorld_size]; omega, fun j hj => bytesWorld_at_old w e s j hj⟩
theorem rowBytes (w : World) (s : ByteArray) (h : s.size ≤ 9223372036854775807) : Row byteT (bytesWorld w 5 s) (some ⟨w.heap.size, 0, none⟩) s.size s.data.toList := by
  have hl : s.data.toList.length = s.size := by simp
  refine ⟨hl, h, fun _ => ⟨_, rfl, fun j x hj i u hu => ?_⟩⟩
  have hjs : j < s.size := by have := (List.getElem?_eq_some_iff.1 hj).1; omega
  have hx : s.data.toList.getD j 0 = x := by rw [List.getD_eq_getElem?_getD, hj]; rfl
  have hi : i = 0 ∧ u = .int .u8 (x.toNat : Int) := by
    rcases i with _ | i
    · exact ⟨rfl, by simpa [byteT] using hu.symm⟩
    · simp [byteT] at hu
  obtain ⟨rfl, rfl⟩ := hi
  rw [add0, Nat.add_zero, show j * byteT.sz = j from Nat.mul_one j, bytesWorld_cell w _ s j hjs, hx]
set_option maxRecDepth 10000 in
set_option maxHeartbeats 1000000 in
theorem of_any (s : ByteArray) (most : Int) (A : Option Addr) (n k : Nat) (signs : List ByteArray) (w : World) (hA : Row strT w A n signs) (hs : s.size ≤ 4294967280) :
    Calls Try.prog 82 #[.string s, .int .i64 most, .slice A n k] w fun e w' => e = .returned (.bool (ofB s most signs)) ∧ Bel w w' := by
  have hmf : ∀ (fn : Fn) (first cap : Array Value) (w : World), (Instr.makeFunc fn first cap).run Try.prog w = .ok (.func fn first cap) w := fun _ _ _ _ => rfl
  have hcv : ∀ W : World, (convert 9 134 (.string s)).run Try.prog W = .ok (.slice (some ⟨W.heap.size, 0, none⟩) s.size (grownCap W s.size 0 5)) (bytesWorld W 5 s) := fun W => Go.Lib.run_convert_string_bytes W _ _ _ s Try.underlying9 Try.underlying134 Try.underlying5
  have hb : Bel w (bytesWorld (w.alloc (.cells #[.slice A n k] 131)) 5 s) := ((Bel.refl w).alloc _).trans (belBytes _ _ _)
  have rb := rowBytes (w.alloc (.cells #[.slice A n k] 131)) s (by omega)
  rw [World.size_alloc] at rb
  have kb := (belBytes (w.alloc (.cells #[.slice A n k] 131)) 5 s).cell_ (cellNew w #[.slice A n k] 131 (0, 0) w.heap.size 0 rfl)
  have rA := hA.bel hb
  have HB := hid_ hb
  have RB := hid_ rb
  have KB := hid_ kb
  have RA := hid_ rA
  have hs63 : s.size ≤ 9223372036854775807 := by omega
  clear hb rb kb rA hs
  go_enter Try.func82, Try.ntmps82
  go_wp2_with fail
  generalize bytesWorld (w.alloc (.cells #[.slice A n k] 131)) 5 s = W1 at HB RB KB RA ⊢
  generalize grownCap (w.alloc (.cells #[.slice A n k] 131)) s.size 0 5 = G
  clear hcv hmf
  go_loop [9, 14] (fun _ i => ∃ j : Nat, j ≤ s.size ∧ i = .int .i64 j ∧ Hid ((s.data.toList.take j).all (signB signs) = true)) (fun _ i => s.size - (intOf i).toNat)
  case atStart => exact ⟨0, Nat.zero_le _, rfl, rfl⟩
  case round =>
    obtain ⟨j, hj, rfl, hx⟩ := hrel
    by_cases hjn : j < s.size
    · obtain ⟨ad, c, e, ho, d0⟩ := RB.out.byte hjn
      cases e
      rw [add0] at d0
      have hst := all_take' (signB signs) s.data.toList j ho
      have htr := all_false' (signB signs) s.data.toList j ho
      have HST := hid_ hst
      have HTR := hid_ htr
      have hadd : (⟨w.heap.size + 1, 0, none⟩ : Addr).add j = ⟨w.heap.size + 1, j, none⟩ := add0 _ _
      clear hst htr ho
      go_wp2_with fail
      refine (ofIn_any w.heap.size c A n k signs _ KB.out RA.out).mono ?_
      rintro e W2 ⟨rfl, hW⟩
      subst hW
      obtain ⟨b, hbb⟩ : ∃ b, signB signs c = b := ⟨_, rfl⟩
      rw [hbb]
      have HBB := hid_ hbb
      clear hbb
      cases b
      · have HF : Hid (ofB s most signs = false) := hid_ (by unfold ofB; rw [HTR.out HBB.out]; rfl)
        clear HTR HST
        go_wp2
        go_ret
        exact ⟨by rw [HF.out]; rfl, HB.out⟩
      · have HF : Hid ((s.data.toList.take (j + 1)).all (signB signs) = true) := hid_ (by rw [HST.out, hx.out, HBB.out]; rfl)
        clear HTR HST hx
        go_wp2
        case roundEnd =>
          go_round
          case rel => exact ⟨j + 1, by omega, by go_num, HF⟩
          case measure => simp [intOf]; omega
    · have hjn' : j = s.size := by omega
      subst hjn'
      have hfull : s.data.toList.take s.size = s.data.toList := by
        have : s.data.toList.length = s.size := by simp
        rw [← this, List.take_length]
      have HF : Hid (ofB s most signs = (decide (1 ≤ s.size) && decide ((s.size : Int) ≤ most))) := hid_ (by
        have h1 := hx.out
        rw [hfull] at h1
        unfold ofB
        rw [h1]
        rfl)
      clear hx hfull
      by_cases h1 : (1 : Int) ≤ (s.size : Int)
      · by_cases h2 : (s.size : Int) ≤ most
        · have HF2 : Hid (ofB s most signs = true) := hid_ (by rw [HF.out, decide_eq_true (show 1 ≤ s.size by omega), decide_eq_true h2]; rfl)
          clear HF
          go_wp2
          go_ret
          exact ⟨by rw [HF2.out]; rfl, HB.out⟩
        · have HF2 : Hid (ofB s most signs = false) := hid_ (by rw [HF.out, decide_eq_false h2, Bool.and_false])
          clear HF
          go_wp2
          go_ret
          exact ⟨by rw [HF2.out]; rfl, HB.out⟩
      · have HF2 : Hid (ofB s most signs = false) := hid_ (by rw [HF.out, decide_eq_false (show ¬ 1 ≤ s.size by omega), Bool.false_and])
        clear HF
        go_wp2
        go_ret
        exact ⟨by rw [HF2.out]; rfl, HB.out⟩
end Go.Proofs.Ytoachnhdedpbdaa
