/- slices.ContainsFunc, IsSorted, Compact at ints: the walks. -/
import Derived.Test.YtcfabnkkkpcelaaPg2
import Derived.Test.YtcfabnkkkpcelaaShCmp
import Derived.Sort.OwnSortedInts
set_option linter.unusedSimpArgs false
set_option linter.unusedVariables false
namespace Go.Proofs.Ytcfabnkkkpcelaa
open Go.RowKit
theorem all_take {α : Type} (f : α → Bool) (l : List α) (k : Nat) {x : α} (h : l[k]? = some x) : (l.take (k + 1)).all f = ((l.take k).all f && f x) := by
  rw [List.take_add_one, h, List.all_append]
  simp
theorem all_false {α : Type} (f : α → Bool) (l : List α) (k : Nat) {x : α} (h : l[k]? = some x) (hx : f x = false) : l.all f = false := by
  cases h' : l.all f with
  | false => rfl
  | true => rw [(List.all_eq_true.1 h') x (List.mem_of_getElem? h)] at hx; cases hx
set_option maxRecDepth 10000 in
set_option maxHeartbeats 1000000 in
theorem indexBad_any (A : Option Addr) (n c : Nat) (F : List Int) (w : World) (h1 : Row intT w A n F) :
    Calls Try.prog 56 #[.slice A n c, .func (.func 31) #[] #[]] w fun e w' => ∃ r : Int, e = .returned (.int .i64 r) ∧ decide (0 ≤ r) = !(F.all placeB) ∧ w = w' := by
  have hn := h1.2.1
  go_enter Try.func56, Try.ntmps56
  go_wp2_with fail
  go_loop [5, 8] (fun _ i => ∃ k : Nat, k ≤ n ∧ i = .int .i64 k ∧ (F.take k).all placeB = true) (fun _ i => n - (intOf i).toNat)
  case atStart => exact ⟨0, by omega, rfl, rfl⟩
  case round =>
    obtain ⟨k, hk, rfl, hx⟩ := hrel
    by_cases hkn : k < n
    · obtain ⟨ad, y, rfl, ho, d0⟩ := h1.int hkn
      have hst := all_take placeB F k ho
      have htr := all_false placeB F k ho
      have HST := hid_ hst
      have HTR := hid_ htr
      have HX := hid_ hx
      clear hst htr hx ho
      go_wp2_with fail
      refine (bad_any y w).mono ?_
      rintro e _ ⟨rfl, rfl⟩
      obtain ⟨t, ht⟩ : ∃ t, placeB y = t := ⟨_, rfl⟩
      rw [ht]
      have HT := hid_ ht
      clear ht
      cases t
      · go_wp2
        go_ret
        exact ⟨_, rfl, by have h1 := HTR.out HT.out; rw [h1]; exact decide_eq_true (Int.natCast_nonneg k), rfl⟩
      · go_wp2
        case roundEnd =>
          go_round
          case rel => exact ⟨k + 1, by omega, by go_num, by rw [HST.out, HX.out, HT.out]; rfl⟩
          case measure => simp [intOf]; omega
    · have : k = n := by omega
      subst this
      have hfull : F.take k = F := by rw [← h1.1, List.take_length]
      rw [hfull] at hx
      have HX := hid_ hx
      clear hx
      go_wp2
      go_ret
      exact ⟨_, rfl, by rw [HX.out]; rfl, rfl⟩
set_option maxRecDepth 10000 in
set_option maxHeartbeats 1000000 in
theorem containsBad_any (A : Option Addr) (n c : Nat) (F : List Int) (w : World) (h1 : Row intT w A n F) :
    Calls Try.prog 34 #[.slice A n c, .func (.func 31) #[] #[]] w fun e w' => e = .returned (.bool (!(F.all placeB))) ∧ w = w' := by
  go_enter Try.func34, Try.ntmps34
  go_wp2_with fail
  refine (indexBad_any A n c F w h1).mono ?_
  rintro e _ ⟨r, rfl, hr, rfl⟩
  have HR := hid_ hr
  clear hr
  go_wp2
  go_ret
  exact ⟨by rw [← HR.out]; rfl, rfl⟩
theorem nan_any (z : Int) (w : World) : Calls Try.prog 63 #[.int .i64 z] w fun e w' => e = .returned (.bool false) ∧ w = w' := by
  have q : (z != z) = false := by simp
  go_enter Try.func63, Try.ntmps63
  go_wp2
  go_ret
  exact ⟨rfl, rfl⟩
theorem less_any (x y : Int) (w : World) : Calls Try.prog 57 #[.int .i64 x, .int .i64 y] w fun e w' => e = .returned (.bool (decide (x < y))) ∧ w = w' := by
  go_enter Try.func57, Try.ntmps57
  go_wp2_with fail
  refine (nan_any _ _).mono ?_
  rintro e _ ⟨rfl, rfl⟩
  go_wp2
  go_ret
  exact ⟨rfl, rfl⟩
theorem sort_at {l : List Int} {k : Nat} {x y : Int} (hk : 0 < k) (hx : l[k]? = some x) (hy : l[k - 1]? = some y) : sortAt l k = !decide (x < y) := by
  rw [sortAt, decide_eq_false (show ¬ k = 0 by omega), List.getD_eq_getElem?_getD, List.getD_eq_getElem?_getD, hx, hy]
  rfl
set_option maxRecDepth 10000 in
set_option maxHeartbeats 1000000 in
theorem sorted_any (A : Option Addr) (n c : Nat) (l : List Int) (w : World) (h1 : Row intT w A n l) :
    Calls Try.prog 35 #[.slice A n c] w fun e w' => e = .returned (.bool (sortB l)) ∧ Bel w w' := by
  have hn := h1.2.1
  have HL := hid_ h1.1
  go_enter Try.func35, Try.ntmps35
  go_wp2
  go_loopw [3] (fun i wr => Bel w wr ∧ ((n = 0 ∧ i = .int .i64 (-1)) ∨ ∃ k : Nat, k < n ∧ i = .int .i64 k ∧ ∀ j, k < j → j < n → sortAt l j = true)) (fun i _ => (intOf i).toNat)
  case atStart =>
    refine ⟨Bel.refl _, ?_⟩
    rcases Nat.eq_zero_or_pos n with h0 | h0
    · subst h0
      exact .inl ⟨rfl, rfl⟩
    · exact .inr ⟨n - 1, by omega, by show Value.int _ _ = _; congr 1; omega, fun j h2 h3 => absurd h2 (by omega)⟩
  case round =>
    obtain ⟨hB, hrel⟩ := hrel
    rcases hrel with ⟨rfl, rfl⟩ | ⟨k, hk, rfl, hx⟩
    · have HE : Hid (sortB l = true) := hid_ (by rw [sortB, HL.out]; rfl)
      go_wp2
      go_ret
      exact ⟨by rw [HE.out]; rfl, hB⟩
    · rcases Nat.eq_zero_or_pos k with h0 | h0
      · have HE : Hid (sortB l = true) := hid_ (by
          rw [sortB, HL.out]
          refine all_range fun j hj => ?_
          rcases Nat.eq_zero_or_pos j with h | h
          · subst h; rfl
          · exact hx j (by omega) hj)
        clear hx
        have h0' : ¬ 0 < k := by omega
        clear h0
        go_wp2
        go_ret
        exact ⟨by rw [HE.out]; rfl, hB⟩
      · have h1r := h1.bel hB
        obtain ⟨ad, x, rfl, ho, d0⟩ := h1r.int hk
        obtain ⟨ad', y, e, ho', d1⟩ := h1r.int (show k - 1 < n by omega)
        injection e with e
        subst e
        have hat := sort_at h0 ho ho'
        have HAT := hid_ hat
        have HX := hid_ hx
        have HB := hid_ hB
        clear hat hx ho ho' h1r
        have i0 : (0 : Int) ≤ (k : Int) := by omega
        have i1 : (k : Int) ≤ (n : Int) := by omega
        have i2 : IntKind.i64.wrap ((k : Int) - 1) = ((k - 1 : Nat) : Int) := by rw [IntWalk.i64_left]; unfold wrap64; omega
        have i3 : (0 : Int) ≤ ((k - 1 : Nat) : Int) := by omega
        have i4 : ((k - 1 : Nat) : Int) ≤ (n : Int) := by omega
        have i5 : k - 1 < n := by omega
        have hKP : ∀ W, Bel wr W → (fun W => Bel wr W ∧ W.cell? (ad.add k) = some (.int .i64 x) ∧ W.cell? (ad.add (k - 1)) = some (.int .i64 y)) W := fun W hW => ⟨hW, hW.cell_ d0, hW.cell_ d1⟩
        have HKP := hid_ hKP
        clear hKP hB
        go_wp2_with fail
        go_region_held3 (fun W => Bel wr W ∧ W.cell? (ad.add k) = some (.int .i64 x) ∧ W.cell? (ad.add (k - 1)) = some (.int .i64 y)) ((refine HKP.out _ ?_; (repeat first | with_reducible exact Bel.refl _ | with_reducible apply Bel.drew)))
          (first | (go_at_call 57; with_reducible refine' Calls.mono (less_any _ _ _) ?_; rintro e _ ⟨rfl, rfl⟩))
        all_goals (
          clear HKP i0 i1 i2 i3 i4 i5
          have HBD : Hid (Bel w wr.drew) := hid_ HB.out.drew
          rename_i hHeld
          clear hHeld
          by_cases q : x < y
          · go_wp2
            go_ret
            exact ⟨by rw [show sortB l = false from all_range_no (j := k) (by rw [HL.out]; exact hk) (by rw [HAT.out, decide_eq_true q]; rfl)]; rfl, HBD.out⟩
          · have q' : y ≤ x := by omega
            go_wp2
            case roundEnd =>
              go_roundw
              case rel =>
                refine ⟨HBD.out, .inr ⟨k - 1, by omega, by show Value.int _ _ = _; congr 1; omega, fun j h2 h3 => ?_⟩⟩
                rcases Nat.lt_or_ge k j with h | h
                · exact HX.out j h h3
                · have : j = k := by omega
                  rw [this, HAT.out, decide_eq_false q]; rfl
              case measure => simp [intOf]; omega)
theorem keeps_neq (l : List Int) (j : Nat) (hj : j < l.length) : Lib.keeps l.toArray j = neqAt l j := by
  have h1 : ∀ i, l.toArray[i]! = l.getD i 0 := fun i => by
    rw [List.getD_eq_getElem?_getD]
    simp only [List.getElem!_toArray]
    rw [List.getElem!_eq_getElem?_getD]
    rfl
  rw [Lib.keeps, neqAt, h1, h1]
  by_cases h : j = 0 <;> by_cases h' : l.getD j 0 = l.getD (j - 1) 0 <;> simp [h, h']
theorem compact_len (l : List Int) : decide ((Lib.compact l).length = l.length) = neqB l := by
  have h1 : (Lib.compact l).length = ((List.range l.length).filter (neqAt l)).length := by
    rw [Lib.compact, Lib.compactUpTo, List.length_map]
    congr 1
    exact List.filter_congr (fun j hj => keeps_neq l j (List.mem_range.1 hj))
  rw [h1, neqB]
  cases h : (List.range l.length).all (neqAt l) with
  | true =>
    rw [List.filter_eq_self.2 (List.all_eq_true.1 h), List.length_range]
    simp
  | false =>
    apply decide_eq_false
    intro e
    have := List.length_filter_eq_length_iff.1 (e.trans List.length_range.symm)
    rw [List.all_eq_true.2 this] at h
    cases h
set_option maxRecDepth 10000 in
set_option maxHeartbeats 1000000 in
/-- slices.Compact of a slice of the call's own. -/
theorem compact_any (w0 w : World) (v : Value) (l : List Int) (h : Own intT w w0.heap.size v l) (hb : Bel w0 w) :
    Calls Try.prog 36 #[v] w fun e w' => ∃ A m c, e = .returned (.slice A m c) ∧ decide (m = l.length) = neqB l ∧ Bel w0 w' := by
  rcases h.2 with ⟨rfl, h0⟩ | ⟨g, cap, cur, rfl, hbg, hh, hnc, hcm, hcs, htake⟩
  · have : l = [] := List.eq_nil_of_length_eq_zero h0
    subst this
    refine (Any.slices_Compact_int_empty Try.cmpct none 0 w).mono ?_
    rintro e w' ⟨rfl, rfl⟩
    exact ⟨_, _, _, rfl, rfl, hb⟩
  · have hH : Go.Sort.Holds (Value.int .i64) w g 0 l.toArray := fun j hj => by
      have hj' : j < l.length := by simpa using hj
      have hc := World.ownsRow.cells h (g := g) rfl j (.int .i64 l[j]) (by have := intT.flatAt l j _ (List.getElem?_eq_getElem hj') 0 (.int .i64 l[j]) rfl; simpa [intT] using this)
      rw [add0] at hc
      refine ⟨?_, by simp [World.frozen?, hh]⟩
      rw [Nat.zero_add, hc]
      simp [hj']
    refine (Any.slices_Compact_int Try.cmpct g 0 cap l w hH (by simp only [maxLen] at hcm; omega) hnc).mono ?_
    rintro e w' ⟨rfl, q, rfl⟩
    refine ⟨_, _, _, rfl, compact_len l, ?_⟩
    have := Go.grownBy_sortedI (w := w) (g := g) (n := q) (os := #[]) (Lib.compact l ++ List.replicate (l.length - (Lib.compact l).length) 0).toArray
    rw [Go.Sort.grow_empty] at this
    exact hb.grown_ this (fun k hk => by injection hk with hk; omega)
end Go.Proofs.Ytcfabnkkkpcelaa
