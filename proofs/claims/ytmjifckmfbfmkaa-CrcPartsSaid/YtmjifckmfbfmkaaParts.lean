/- Sums may be taken part by part, wherever the cut is: for every input. -/
import Derived.Test.YtmjifckmfbfmkaaRows
import Derived.Test.YtmjifckmfbfmkaaAwake
import Derived.WalkKit
import Derived.ProofKit
import Derived.OpenShut
import Derived.ShutString
import Derived.ChangeOld
import Derived.Below
import Derived.Deep.RegionHeld3
namespace Go.Proofs.Ytmjifckmfbfmkaa.crcParts
open Go.ChangeShapes Go.WideShapes Go.ChangeAt Go.RowKit
open Go.ChangeMaps (open_string shut_string)
set_option linter.unusedVariables false

theorem own : ownKnob Try.prog.godebug = none := by kernel_rfl
theorem laidOut : laidOutB Try.prog = true := by kernel_rfl

/-- WHAT THE WALK IS TOLD OF A SLICE OF INTEGERS THAT CAME IN: it is nil; or it leads to a row of 'cap' cells, the numbers 'zs' (the first 'len' are its elements, the rest its spare room), each fitting its kind. -/
def IsRow (k : IntKind) (w : World) (a : Option Addr) (len cap : Nat) (zs : List Int) : Prop :=
  (a = none ∧ len = 0 ∧ cap = 0 ∧ zs = []) ∨
  ∃ x, a = some x ∧ len ≤ cap ∧ cap ≤ maxLen ∧ zs.length = cap ∧ (∀ i, i < zs.length → w.cell? (x.add i) = some (.int k (zs.getD i 0))) ∧ ∀ n ∈ zs, (Lit.int k n).wf = true

/-- 'b[m:]'. -/
theorem cutFrom (A : Option Addr) (n c m : Nat) (hm : m ≤ n) (hc : n ≤ c) :
    ∃ A' : Option Addr, (∀ W : World, (Instr.slice 23 (.slice A n c) (some (.int .i64 (m : Int))) none none).run Try.prog W = .ok (.slice A' (n - m) (c - m)) W) ∧
      ∀ (w : World) (bs : List Int), Byts w A n bs → Byts w A' (n - m) (bs.drop m) := by
  have hel : Try.prog.elem 23 = 5 := by simp [Program.elem, Try.underlying23]
  have hu : Try.prog.underlying 23 = some (.slice (Try.prog.elem 23)) := by rw [hel]; exact Try.underlying23
  obtain ⟨i5, hi5, hsz⟩ : ∃ i, Try.prog.info? 5 = some i ∧ i.size = 1 := by
    have h : (Try.prog.info? 5).map (fun i => i.size) = some 1 := by kernel_rfl
    exact Option.map_eq_some_iff.1 h
  refine ⟨if c = m then A else A.map (·.add m), fun W => ?_, fun w bs h => ?_⟩
  · rw [run_slice_l W 23 A n c hu .i64 (m : Int) (Int.natCast_nonneg _) (by omega), hel]
    simp [sizeOf, typeInfo, hi5, hsz, sliced, Result.andThen]
  · refine ⟨by rw [List.length_drop, h.1], by have := h.2.1; omega, fun hp => ?_, fun b hb => h.2.2.2 b (List.mem_of_mem_drop hb)⟩
    obtain ⟨ad, rfl, hcell⟩ := h.2.2.1 (by omega)
    rw [if_neg (by omega)]
    refine ⟨ad.add m, rfl, fun j hj => ?_⟩
    have ha : (ad.add m).add j = ad.add (m + j) := by
      unfold Addr.add
      by_cases h1 : m = 0 <;> by_cases h2 : j = 0 <;> simp [h1, h2, Nat.add_assoc]
    rw [ha, hcell (m + j) (by omega)]
    simp [List.getD_eq_getElem?_getD, List.getElem?_drop]
/-- 'b[:m]'. -/
theorem cutTo {w : World} {A : Option Addr} {n m : Nat} {bs : List Int} (h : Byts w A n bs) (hm : m ≤ n) : Byts w A m (bs.take m) := by
  refine ⟨by rw [List.length_take, h.1]; omega, by have := h.2.1; omega, fun hp => ?_, fun b hb => h.2.2.2 b (List.mem_of_mem_take hb)⟩
  obtain ⟨ad, e, hc⟩ := h.2.2.1 (by omega)
  refine ⟨ad, e, fun j hj => ?_⟩
  rw [hc j (by omega)]
  simp [List.getD_eq_getElem?_getD, hj]
theorem cutHigh (A : Option Addr) (n c m : Nat) (hm : m ≤ c) (W : World) : (Instr.slice 23 (.slice A n c) none (some (.int .i64 (m : Int))) none).run Try.prog W = .ok (.slice A m c) W := by
  have hel : Try.prog.elem 23 = 5 := by simp [Program.elem, Try.underlying23]
  have hu : Try.prog.underlying 23 = some (.slice (Try.prog.elem 23)) := by rw [hel]; exact Try.underlying23
  obtain ⟨i5, hi5, hsz⟩ : ∃ i, Try.prog.info? 5 = some i ∧ i.size = 1 := by
    have h : (Try.prog.info? 5).map (fun i => i.size) = some 1 := by kernel_rfl
    exact Option.map_eq_some_iff.1 h
  rw [run_slice_h W 23 A n c hu .i64 (m : Int) (Int.natCast_nonneg _) (by omega), hel]
  have h0 : A.map (·.add 0) = A := by cases A <;> rfl
  simp [sizeOf, typeInfo, hi5, hsz, sliced, Result.andThen, h0]
theorem tmod_nat (a : Int) (n : Nat) (h : 0 ≤ a) : ∃ m : Nat, a.tmod ((n : Int) + 1) = (m : Int) ∧ m ≤ n := by
  rw [Int.tmod_eq_emod_of_nonneg h]
  have h1 := Int.emod_nonneg a (show (n : Int) + 1 ≠ 0 by omega)
  have h2 := Int.emod_lt_of_pos a (show (0 : Int) < (n : Int) + 1 by omega)
  exact ⟨(a % ((n : Int) + 1)).toNat, by omega, by omega⟩
theorem wrap_back {a : Int} (h0 : -9223372036854775808 ≤ a) (h : a < 0) : wrap64 (-wrap64 (a + 1)) = -(a + 1) := by unfold wrap64; omega

set_option maxHeartbeats 1000000 in
theorem walk (a0 : Option Addr) (len0 cap0 : Nat) (z0 : List Int) (a1 : Int) (w : World) (w0 : IsRow .u8 w a0 len0 cap0 z0) (w1 : (Lit.int .i64 a1).wf = true) :
    Calls Try.prog 4 #[.slice a0 len0 cap0, .int .i64 a1] w fun e w' => e = .returned (.bool true) ∧ Below w.heap.size w w' := by
  obtain ⟨hb, hcap⟩ := byts_arg w0
  have hi : -9223372036854775808 ≤ a1 ∧ a1 ≤ 9223372036854775807 := by
    simp [Lit.wf, IntKind.min, IntKind.max, IntKind.signed, IntKind.bits] at w1
    omega
  clear w0 w1
  generalize z0.take len0 = bs at hb
  go_enter Try.func4, Try.ntmps4
  go_wp2_with fail
  refine (awake_any _).mono ?_
  rintro e wa ⟨rfl, hb1⟩
  by_cases hl : 3000 < len0
  · clear hi
    go_wp2
    go_ret
    exact ⟨rfl, hb1⟩
  · by_cases hn : a1 < 0
    · have hw1 := wrap_back hi.1 hn
      obtain ⟨m, hm, hml⟩ : ∃ m : Nat, (wrap64 (-wrap64 (a1 + 1))).tmod ((len0 : Int) + 1) = (m : Int) ∧ m ≤ len0 := by
        rw [hw1]
        exact tmod_nat _ _ (by omega)
      clear hw1 hi
      obtain ⟨A', hcut, hA'⟩ := cutFrom a0 len0 cap0 m hml hcap
      have hcutT := cutHigh a0 len0 cap0 m (by omega)
      have hK1 := hA' _ _ hb
      have hK2 := cutTo hb hml
      have hj : more (more 0#64 (bs.take m)) (bs.drop m) = more 0#64 bs := by rw [more_append, List.take_append_drop]
      have hj0 : more (more 0#64 bs) [] = more 0#64 bs := more_nil _
      clear hA'
      go_wp2
      have hb1d := hb1.drew
      have hN := byts_nil w
      go_region_held3 (fun W => Below w.heap.size w W) (first | exact hbx | exact hb1d) (first
        | (go_at_call 11; refine' (sumB (w := w) ?_ ?_).mono ?_; rotate_left; (first | exact hK2 | exact hb); assumption; rintro e wx ⟨rfl, hbx⟩)
        | (go_at_call 9; refine' (moreB (w := w) ?_ ?_).mono ?_; rotate_left; (first | exact hK1 | exact hN); assumption; rintro e wx ⟨rfl, hbx⟩))
      go_wp2
      go_ret
      exact ⟨rfl, by assumption⟩
    · obtain ⟨m, hm, hml⟩ : ∃ m : Nat, a1.tmod ((len0 : Int) + 1) = (m : Int) ∧ m ≤ len0 := tmod_nat _ _ (by omega)
      clear hi
      obtain ⟨A', hcut, hA'⟩ := cutFrom a0 len0 cap0 m hml hcap
      have hcutT := cutHigh a0 len0 cap0 m (by omega)
      have hK1 := hA' _ _ hb
      have hK2 := cutTo hb hml
      have hj : more (more 0#64 (bs.take m)) (bs.drop m) = more 0#64 bs := by rw [more_append, List.take_append_drop]
      have hj0 : more (more 0#64 bs) [] = more 0#64 bs := more_nil _
      clear hA'
      go_wp2
      have hb1d := hb1.drew
      have hN := byts_nil w
      go_region_held3 (fun W => Below w.heap.size w W) (first | exact hbx | exact hb1d) (first
        | (go_at_call 11; refine' (sumB (w := w) ?_ ?_).mono ?_; rotate_left; (first | exact hK2 | exact hb); assumption; rintro e wx ⟨rfl, hbx⟩)
        | (go_at_call 9; refine' (moreB (w := w) ?_ ?_).mono ?_; rotate_left; (first | exact hK1 | exact hN); assumption; rintro e wx ⟨rfl, hbx⟩))
      go_wp2
      go_ret
      exact ⟨rfl, by assumption⟩

/-! ### THE ROW's STEP: WRITTEN OUT: LEAVE IT -/
set_option maxRecDepth 100000 in
theorem lifted (os : Os) (started : os.Started) (H : Type) (enc : TypeId × Value → H) :
    ReturnsInHanded {} Try.checked os 4 .any (Rows.crcPartsSpec.pre6 enc Try.prog Try.f4 Rows.crcPartsRow.domain false) (Rows.crcPartsSpec.post enc Try.prog Try.f4 false true false false) := by
  refine returnsInHanded_of_change (C := Try.checked) own started (by kernel_rfl) Try.func4
    (ChangeSpec.witness6 (enc := enc) (C := Try.checked) false ⟨#[], #[.slice none 0 0, .int .i64 0], []⟩ 8 (by kernel_rfl) (by kernel_rfl) (by kernel_rfl) (by kernel_rfl)) ?_
  intro W base args ds gs before hval0 hW hcnd _
  have hval : ∀ (j : Nat) t v, Try.f4.params[j]? = some t → args[j]? = some v → Value.okWide Try.prog W .any base t v := hval0
  have hW' := hW
  obtain ⟨p, q, hA0, hV, rfl, hfz, hnd⟩ := hW
  have hA : DataW.TrodAll enc Try.prog W 0 (fun _ => true) true Try.f4.params.toList args.toList ds p := hA0
  rw [Try.params4] at hA hval
  obtain ⟨v0, vs0, d0, ds0, p0, q0, hargs, rfl, rfl, h0, r0⟩ := trodAll_cons hA
  obtain ⟨v1, vs1, d1, ds1, p1, q1, rfl, rfl, rfl, h1, r1⟩ := trodAll_cons r0
  obtain ⟨rfl, rfl, rfl⟩ := trodAll_nil r1
  obtain rfl : args = #[v0, v1] := by cases args; simp_all
  obtain ⟨rfl, rfl⟩ := trodVars_none hV
  obtain ⟨a0, len0, cap0, rfl⟩ := okWide_slice Try.underlying23 (hval 0 23 v0 rfl rfl)
  have k0 := h0
  have lt0 : ∀ x ∈ p0, x.block < W.heap.size := by obtain ⟨m, hm⟩ := k0; exact DataW.trod_lt m _ _ _ hm
  obtain ⟨z0, w0⟩ : ∃ zs, IsRow .u8 W a0 len0 cap0 zs := by
    obtain ⟨fuel, hf⟩ := h0
    rcases open_ints Try.underlying23 Try.underlying5 (by kernel_rfl) hf with ⟨hcs, _⟩ | ⟨x, l, c, zs, hcs, _, hl, hm, hz, _, hcell, hwz⟩
    · simp [Value.cells] at hcs
      obtain ⟨rfl, rfl, rfl⟩ := hcs
      exact ⟨[], .inl ⟨rfl, rfl, rfl, rfl⟩⟩
    · simp [Value.cells] at hcs
      obtain ⟨rfl, rfl, rfl⟩ := hcs
      exact ⟨zs, .inr ⟨_, rfl, hl, hm, by simpa using hz, hcell, hwz⟩⟩
  obtain ⟨a1, rfl, rfl, rfl, w1⟩ := open_int Try.underlying3 (hval 1 3 v1 rfl rfl) h1
  clear hA0 hval0
  refine (walk a0 len0 cap0 z0 a1 W w0 w1).mono fun e W' ⟨he, bel⟩ => ?_
  subst he
  exact ⟨_, rfl, _, _, _, [], _, [], hW', trodAll_mk1 (shut_bool Try.underlying4 _), (trodAll_cons_mk (Below.trod laidOut (by kernel_rfl) (of_decide_eq_true (by kernel_rfl)) k0 bel lt0) (trodAll_cons_mk (shut_int Try.underlying3 w1) trodAll_mk0)), rfl, bel.frame _, fun h => by cases h⟩

theorem over : Rows.crcPartsRow.holds Try.pinned (OpenSpec.ofChange Rows.crcPartsSpec) :=
  OpenClaim.holds_of_wide 4 Try.f4 rfl rfl rfl rfl rfl rfl rfl ⟨rfl, rfl, rfl, rfl, rfl⟩ rfl rfl rfl rfl rfl (by kernel_rfl) Try.func4 (by kernel_rfl)
    (of_decide_eq_true (by kernel_rfl)) (by unfold Func.isWrapper; first | (rw [if_pos (by decide +kernel)]; kernel_rfl) | (rw [if_neg (by decide +kernel)]; exact ⟨rfl, rfl⟩))
    (fun os started H enc _ => lifted os started H enc)

/-- ████ THE STATEMENT ████ -/
theorem proved : Rows.CrcPartsSaid := over
end Go.Proofs.Ytmjifckmfbfmkaa.crcParts
