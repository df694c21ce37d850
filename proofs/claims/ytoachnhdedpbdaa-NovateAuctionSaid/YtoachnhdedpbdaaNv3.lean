/- label.Who, Asset; strings.Cut at a bar. -/
import Derived.Test.YtoachnhdedpbdaaNv2
import Derived.Shelf.RegionOpenPlain
set_option linter.unusedSimpArgs false
set_option linter.unusedVariables false
namespace Go.Proofs.Ytoachnhdedpbdaa
open Go.RowKit Go.Lib
set_option maxRecDepth 10000 in
set_option maxHeartbeats 1000000 in
theorem asset_any (s : ByteArray) (w : World) (hs : s.size ≤ 4294967280) :
    Calls Try.prog 51 #[.string s] w fun e w' => e = .returned (.bool (assetB s)) ∧ Bel w w' := by
  go_enter Try.func51, Try.ntmps51
  go_wp2_with fail
  refine (of_any s 6 _ 1 1 [largeS] _ (Row.one (T := strT) largeS rfl rfl) hs).mono ?_
  rintro e w1 ⟨rfl, b⟩
  rw [of_asset]
  have HB := hid_ (((Bel.refl w).alloc _).trans b)
  clear b
  go_wp2
  go_ret
  exact ⟨rfl, HB.out⟩
set_option maxRecDepth 10000 in
set_option maxHeartbeats 1000000 in
theorem who_any (s : ByteArray) (w : World) (hs : s.size ≤ 4294967280) :
    Calls Try.prog 73 #[.string s] w fun e w' => e = .returned (.bool (whoB s)) ∧ Bel w w' := by
  go_enter Try.func73, Try.ntmps73
  go_wp2_with fail
  refine (of_any s 8 _ 2 2 [smallS, digitS] _ (Row.lit (T := strT) w [smallS, digitS] (0, 0) (by decide)) hs).mono ?_
  rintro e w1 ⟨rfl, b⟩
  have HB := hid_ (((Bel.refl w).alloc _).trans b)
  clear b
  obtain ⟨q, hq⟩ : ∃ q, ofB s 8 [smallS, digitS] = q := ⟨_, rfl⟩
  rw [hq]
  have hw := of_who s
  rw [hq] at hw
  have HW := hid_ hw
  clear hq hw
  cases q
  · have HF : Hid (whoB s = false) := hid_ (by unfold whoB; rw [← HW.out]; rfl)
    go_wp2
    go_ret
    exact ⟨by rw [HF.out]; rfl, HB.out⟩
  · have h1 : 1 ≤ s.size := by
      have := HW.out
      simp at this
      omega
    have h1' : (1 : Int) ≤ (s.size : Int) := by omega
    have HF : Hid (whoB s = ofB (s.extract 0 1) 1 [smallS]) := hid_ (by unfold whoB; rw [← HW.out, of_first s h1]; rfl)
    have hsz : (s.extract 0 1).size ≤ 4294967280 := by rw [ByteArray.size_extract]; omega
    have HSZ := hid_ hsz
    clear hsz h1
    go_wp2_with fail
    refine (of_any (s.extract 0 1) 1 _ 1 1 [smallS] _ (Row.one (T := strT) smallS rfl rfl) HSZ.out).mono ?_
    rintro e w2 ⟨rfl, b⟩
    have HB2 := hid_ ((HB.out.alloc _).trans b)
    rw [← HF.out]
    clear b
    go_wp2
    go_ret
    exact ⟨rfl, HB2.out⟩
def dashS : ByteArray := ⟨#[45]⟩
set_option maxRecDepth 10000 in
set_option maxHeartbeats 1000000 in
theorem index_any (s : ByteArray) (w : World) :
    Calls Try.prog 100 #[.string s, .string ⟨#[45]⟩] w fun e w' => e = .returned (.int .i64 (indexByte s.data.toList dash)) ∧ w = w' := by
  go_enter Try.func100, Try.ntmps100
  by_cases he : s.data.toList = [45]
  · have e1 : (([45] : List UInt8) == s.toList) = true := by rw [Lib.toList_data, he]; rfl
    have HF : Hid (indexByte s.data.toList dash = 0) := hid_ (by rw [he]; rfl)
    clear he
    go_wp2
    go_ret
    exact ⟨by rw [HF.out]; rfl, rfl⟩
  · have e1 : (([45] : List UInt8) == s.toList) = false := by rw [Lib.toList_data]; exact beq_eq_false_iff_ne.2 (fun e => he e.symm)
    clear he
    go_wp2_with fail
    refine (litIndexByte_any s _ w).mono ?_
    rintro e _ ⟨rfl, rfl⟩
    go_wp2
    go_ret
    exact ⟨rfl, rfl⟩
/-- What strings.Cut answers at a bar. -/
theorem size_le (s : ByteArray) (i : Nat) (h : indexByte s.data.toList dash = (i : Int)) : i + 1 ≤ s.size := by
  have h1 : s.data.toList.length = s.size := by simp
  have h2 : ∀ (l : List UInt8) (i : Nat), indexByte l dash = (i : Int) → i + 1 ≤ l.length := by
    intro l
    induction l with
    | nil => intro i h; simp [indexByte] at h
    | cons b l ih =>
      intro i h
      unfold indexByte at h
      split at h
      · simp only [List.length_cons]; omega
      · split at h
        · omega
        · have hg := indexByte_ge l dash
          have h3 : ¬ indexByte l dash = -1 := fun e => by rename_i hh; exact hh (by rw [e]; rfl)
          have := ih (i - 1) (by omega)
          simp only [List.length_cons]
          omega
  rw [← h1]
  exact h2 _ i h
set_option maxRecDepth 10000 in
set_option maxHeartbeats 1000000 in
theorem litCut_any (s : ByteArray) (w : World) (hs : s.size ≤ 4294967280) :
    Calls Try.prog 81 #[.string s, .string ⟨#[45]⟩] w fun e w' => (indexByte s.data.toList dash = -1 → e = .returned (.tuple #[.string s, .string ⟨#[]⟩, .bool false])) ∧ (∀ i : Nat, indexByte s.data.toList dash = (i : Int) → e = .returned (.tuple #[.string (s.extract 0 i), .string (s.extract (i + 1) s.size), .bool true])) ∧ Bel w w' := by
  go_enter Try.func81, Try.ntmps81
  go_wp2_with fail
  refine (index_any s w).mono ?_
  rintro e _ ⟨rfl, rfl⟩
  have hg := indexByte_ge s.data.toList dash
  by_cases h0 : indexByte s.data.toList dash = -1
  · have H0 := hid_ h0
    rw [h0]
    clear hg h0
    go_wp2
    go_ret3
    exact ⟨fun _ => rfl, fun i h => (by exfalso; have := H0.out; omega), Bel.refl _⟩
  · obtain ⟨i, hi⟩ : ∃ i : Nat, indexByte s.data.toList dash = (i : Int) := ⟨(indexByte s.data.toList dash).toNat, by omega⟩
    have hle := size_le s i hi
    have HI := hid_ hi
    rw [hi]
    have c1 : (0 : Int) ≤ (i : Int) := by omega
    have c2 : (i : Int) ≤ (s.size : Int) := by omega
    have c3 : (i : Int) + 1 ≤ (s.size : Int) := by omega
    have c4 : (0 : Int) ≤ (i : Int) + 1 := by omega
    have cw : IntKind.i64.wrap ((i : Int) + 1) = (i : Int) + 1 := by rw [IntWalk.i64_left]; exact IntWalk.wrap64_in _ (by omega)
    have cn : ((i : Int) + 1).toNat = i + 1 := by omega
    have mixed : Try.prog.follows Departure.mixedOrders = true := by kernel_rfl
    clear hg h0 hi hle
    go_wp2_with fail
    go_region_o
    go_wp2
    go_ret3
    exact ⟨fun h => (by exfalso; have := HI.out; omega), fun j h => (by have h' := HI.out; obtain rfl : i = j := by omega
                                                                        rfl), (by first | exact Bel.refl _ | exact (Bel.refl _).drew | exact (Bel.refl _).drewN _)⟩
set_option maxRecDepth 10000 in
set_option maxHeartbeats 1000000 in
theorem cut_any (s : ByteArray) (w : World) (hs : s.size ≤ 4294967280) :
    Calls Try.prog 50 #[.string s, .string ⟨#[45]⟩] w fun e w' => (indexByte s.data.toList dash = -1 → e = .returned (.tuple #[.string s, .string ⟨#[]⟩, .bool false])) ∧ (∀ i : Nat, indexByte s.data.toList dash = (i : Int) → e = .returned (.tuple #[.string (s.extract 0 i), .string (s.extract (i + 1) s.size), .bool true])) ∧ Bel w w' := by
  go_enter Try.func50, Try.ntmps50
  go_wp2_with fail
  refine (litCut_any s w hs).mono ?_
  rintro e w1 ⟨h1, h2, b⟩
  have hg := indexByte_ge s.data.toList dash
  by_cases h0 : indexByte s.data.toList dash = -1
  · have he := h1 h0
    subst he
    have H0 := hid_ h0
    have HB := hid_ b
    clear h1 h2 hg h0 b
    go_wp2
    go_ret3
    exact ⟨fun _ => rfl, fun i h => (by exfalso; have := H0.out; omega), HB.out⟩
  · obtain ⟨i, hi⟩ : ∃ i : Nat, indexByte s.data.toList dash = (i : Int) := ⟨(indexByte s.data.toList dash).toNat, by omega⟩
    have he := h2 i hi
    subst he
    have HI := hid_ hi
    have HB := hid_ b
    clear h1 h2 hg h0 b hi
    go_wp2
    go_ret3
    exact ⟨fun h => (by exfalso; have := HI.out; omega), fun j h => (by have h' := HI.out; obtain rfl : i = j := by omega
                                                                        rfl), HB.out⟩
end Go.Proofs.Ytoachnhdedpbdaa
