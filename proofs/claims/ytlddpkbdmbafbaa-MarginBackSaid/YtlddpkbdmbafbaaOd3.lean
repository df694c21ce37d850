/- slices.Grow of nil, slices.Concat at orders. -/
import Derived.Test.YtlddpkbdmbafbaaTyOrd
import Derived.Test.YtlddpkbdmbafbaaBox
import Derived.Lib.AppendZerosOnto
set_option linter.unusedSimpArgs false
set_option linter.unusedVariables false
namespace Go.Proofs.Ytlddpkbdmbafbaa
open Go.RowKit Go.Lib
set_option maxRecDepth 10000 in
set_option maxHeartbeats 1000000 in
theorem growO_nil (n : Nat) (w : World) (hn : n ≤ 100000) :
    Calls Try.prog 99 #[.slice none 0 0, .int .i64 n] w fun e w' => ∃ v, e = .returned v ∧ Own ordT w' w.heap.size v [] ∧ Bel w w' := by
  have h1 : ¬ ((n : Int) < 0) := by omega
  have hw0 : wrap64 (n : Int) = n := IntWalk.wrap64_in _ (by omega)
  rcases Nat.eq_zero_or_pos n with h0 | h0
  · subst h0
    clear hw0 h1
    go_enter Try.func99, Try.ntmps99
    go_wp2
    go_ret
    exact ⟨_, rfl, Own.nil_ _ _ _, Bel.refl _⟩
  · obtain ⟨i0, hi, hzz⟩ := Option.map_eq_some_iff.1 ordS.info
    simp only [Prod.mk.injEq] at hzz
    obtain ⟨hz0, hz1, hz2⟩ := hzz
    have hs1 : i0.size = 6 := hz1
    have hold : (Builtin.firstCells i0.size 0 (.slice none 0 0)).run Try.prog w.drew = .ok ([] : List Value).toArray w.drew := run_firstCells_none w.drew i0.size 0 0 0
    have hrz0 : ∀ ty, (Builtin.append_ #[22, 3] ty #[.slice none 0 0, .int .i64 n]).run Try.prog w =
        .ok (.slice (some ⟨w.heap.size, 0, none⟩) (0 + n) (grownCap w (0 + n) 0 30)) (w.drew.alloc (.cells (([] : List Value).toArray ++ Builtin.zeroCells ordZ.cells n ++ Builtin.zeroCells ordZ.cells (grownCap w (0 + n) 0 30 - (0 + n))) 30)) := fun ty =>
      Lib.run_append_grow_zeros w 22 3 ty 30 i0 ordZ .i64 .i64 ordS.ut Try.underlying3 hi hz0 none 0 0 [] hold n h0 (by omega) (by omega) (by omega) (by rw [hz2]; omega) (by rw [hz2]; exact growslice_fits (by omega) (by omega))
    have hG1 : 0 + n ≤ grownCap w (0 + n) 0 30 := grownCap_ge w _ _ _
    have hG2 := grownCap_le_maxLen w (0 + n) 0 30 (by unfold maxLen; omega)
    have hcs : (([] : List Value).toArray ++ Builtin.zeroCells ordZ.cells n ++ Builtin.zeroCells ordZ.cells (grownCap w (0 + n) 0 30 - (0 + n))).size = grownCap w (0 + n) 0 30 * 6 := by
      simp only [Array.size_append, size_zeroCells]
      rw [show ordZ.cells.size = 6 from rfl, show (([] : List Value).toArray).size = 0 from rfl]
      omega
    obtain ⟨cs, hcs0⟩ : ∃ cs, ([] : List Value).toArray ++ Builtin.zeroCells ordZ.cells n ++ Builtin.zeroCells ordZ.cells (grownCap w (0 + n) 0 30 - (0 + n)) = cs := ⟨_, rfl⟩
    rw [hcs0] at hcs
    simp only [hcs0] at hrz0
    have HO : Hid (Own ordT (w.alloc (.cells cs 30)).drew w.heap.size (.slice (some ⟨w.heap.size, 0, none⟩) 0 (grownCap w (0 + n) 0 30)) []) :=
      ⟨rfl, .inr ⟨w.heap.size, _, cs, rfl, Nat.le_refl _, heap_alloc_new w _, Nat.zero_le _, hG2, hcs, by simp⟩⟩
    clear hold hcs hcs0
    generalize grownCap w (0 + n) 0 30 = G at *
    have hm : maxLen = 9223372036854775807 := by decide
    rw [hm] at hG2
    simp only [Nat.zero_add] at hrz0 hG1
    have h2 : (0 : Int) < (n : Int) := by omega
    clear hi hz0 hz1 hz2 hs1 hm
    go_enter Try.func99, Try.ntmps99
    go_wp2_with (at_builtin; refine Lib.wpList_append_run _ rfl _ _ _ _ rfl _ _ rfl rfl _ _ (hrz0 _) ?_)
    all_goals go_ret
    all_goals exact ⟨_, rfl, HO.out, ((Bel.refl _).alloc _).drew⟩

/-- A slice of slices: its elements. -/
abbrev OV := Option Addr × Nat × Nat
def ovT : Ty OV where
  e := 22
  sz := 1
  enc := fun s => [.slice s.1 s.2.1 s.2.2]
  pos := by decide
  len := fun _ => rfl
  one := fun x u hu => by simp at hu; subst hu; rfl
theorem ovS : SlT Try.prog 134 ovT 24 (.slice none 0 0) where
  ut := by kernel_rfl
  info := by kernel_rfl
  zs := rfl
  by0 := by decide
theorem Row.ov {w : World} {A : Option Addr} {n : Nat} {l : List OV} (h : Row ovT w A n l) {k : Nat} (hk : k < n) :
    ∃ ad X m c, A = some ad ∧ l[k]? = some (X, m, c) ∧ w.cell? (ad.add k) = some (.slice X m c) := by
  obtain ⟨ad, x, e, ho, h0, _⟩ := h.at_ hk
  refine ⟨ad, x.1, x.2.1, x.2.2, e, ho, ?_⟩
  have := h0 _ rfl
  rwa [show k * ovT.sz = k from Nat.mul_one k] at this
/-- The slices' own elements. -/
def RowsO (w : World) (ss : List OV) (xs : List (List Ord)) : Prop := ss.length = xs.length ∧ ∀ (k : Nat) (s : OV) (x : List Ord), ss[k]? = some s → xs[k]? = some x → Row ordT w s.1 s.2.1 x
theorem RowsO.bel {w w1 : World} {ss : List OV} {xs : List (List Ord)} (h : RowsO w ss xs) (hb : Bel w w1) : RowsO w1 ss xs := ⟨h.1, fun k s x h1 h2 => (h.2 k s x h1 h2).bel hb⟩
theorem RowsO.at {w : World} {ss : List OV} {xs : List (List Ord)} (h : RowsO w ss xs) {k : Nat} {s : OV} (hs : ss[k]? = some s) : ∃ x, xs[k]? = some x ∧ Row ordT w s.1 s.2.1 x := by
  have hk := (List.getElem?_eq_some_iff.1 hs).1
  rw [h.1] at hk
  exact ⟨xs[k], List.getElem?_eq_getElem hk, h.2 k s _ hs (List.getElem?_eq_getElem hk)⟩
theorem flat_takeO (xs : List (List Ord)) (k : Nat) {x : List Ord} (h : xs[k]? = some x) : (xs.take (k + 1)).flatten = (xs.take k).flatten ++ x := by
  rw [List.take_add_one, h]
  simp
theorem flat_leO (xs : List (List Ord)) (k : Nat) : (xs.take k).flatten.length ≤ xs.flatten.length := by
  conv => rhs; rw [← List.take_append_drop k xs, List.flatten_append, List.length_append]
  omega
set_option maxRecDepth 10000 in
set_option maxHeartbeats 100000 in
theorem concatO_any (A : Option Addr) (n c : Nat) (ss : List OV) (xs : List (List Ord)) (w : World) (h1 : Row ovT w A n ss) (h2 : RowsO w ss xs) (hs : xs.flatten.length ≤ 100000) :
    Calls Try.prog 50 #[.slice A n c] w fun e w' => ∃ v, e = .returned v ∧ Own ordT w' w.heap.size v xs.flatten ∧ Bel w w' := by
  have hn := h1.2.1
  have HL : Hid (∀ k, (xs.take k).flatten.length ≤ 100000) := fun k => Nat.le_trans (flat_leO xs k) hs
  clear hs
  go_enter Try.func50, Try.ntmps50
  go_wp2
  go_loop [3, 5, 11] (fun s _ i => ∃ k : Nat, k ≤ n ∧ i = .int .i64 k ∧ s = .int .i64 ((xs.take k).flatten.length : Nat)) (fun _ _ i => n - (intOf i).toNat)
  case atStart => exact ⟨0, by omega, rfl, rfl⟩
  case round =>
    obtain ⟨k, hk, rfl, rfl⟩ := hrel
    by_cases hkn : k < n
    · obtain ⟨ad, X, m, cc, rfl, ho, d0⟩ := h1.ov hkn
      obtain ⟨x, hx, hr⟩ := h2.at ho
      have hm : x.length = m := hr.1
      have hf := flat_takeO xs k hx
      have hl1 := HL.out (k + 1)
      have hl0 := HL.out k
      rw [hf, List.length_append, hm] at hl1
      have hw : wrap64 ((((xs.take k).flatten.length : Nat) : Int) + (m : Int)) = (((xs.take k).flatten.length + m : Nat) : Int) := by rw [IntWalk.wrap64_in _ (by omega)]; omega
      have hlen : (xs.take (k + 1)).flatten.length = (xs.take k).flatten.length + m := by rw [hf, List.length_append, hm]
      have HF := hid_ hlen
      generalize (xs.take k).flatten.length = q at *
      have hneg : ¬ ((q : Int) + (m : Int) < 0) := by omega
      clear hf hr hx ho hm hlen hl0
      go_wp2
      case roundEnd =>
        go_round
        case rel => exact ⟨k + 1, by omega, by go_num, by rw [HF.out]; rfl⟩
        case measure => simp [intOf]; omega
    · have : k = n := by omega
      subst this
      have hlk := HL.out k
      generalize (xs.take k).flatten.length = q at hlk ⊢
      go_wp2_with fail
      refine (growO_nil q _ hlk).mono ?_
      rintro e w1 ⟨v0, rfl, o, b⟩
      clear hlk
      go_wp2_with fail
      go_loopw [6, 8, 27] (fun v _ i wr => ∃ j : Nat, j ≤ k ∧ i = .int .i64 j ∧ Own ordT wr w.heap.size v (xs.take j).flatten ∧ Bel w wr) (fun _ _ i _ => k - (intOf i).toNat)
      case atStart => exact ⟨0, by omega, rfl, o, b⟩
      case round =>
        obtain ⟨j, hj, rfl, hO, hbr⟩ := hrel
        by_cases hjn : j < k
        · obtain ⟨ad, X, m, cc, rfl, ho, d0⟩ := (h1.bel hbr).ov hjn
          obtain ⟨x, hx, hr⟩ := (h2.bel hbr).at ho
          have hm : x.length = m := hr.1
          have hf := flat_takeO xs j hx
          have hl1 := HL.out (j + 1)
          rw [hf, List.length_append, hm] at hl1
          have HF := hid_ hf
          have HL1 := hid_ hl1
          have HO := hid_ hO
          have HR := hid_ hr
          clear hf hl1 hx ho hm h1 hO hr o b
          go_wp2_with (at_builtin; refine wpApp (w0 := w) ordS rfl _ _ rfl _ (xs.take j).flatten x X m cc rfl rfl HO.out HR.out hbr (by have := HL1.out; omega) ?_; intro v1 x1 hO1 hb1 _ _)
          case roundEnd =>
            go_roundw
            case rel => exact ⟨j + 1, by omega, by go_num, by rw [HF.out]; exact hO1, hb1⟩
            case measure => simp [intOf]; omega
        · have hjk : j = k := by omega
          clear hj hjn
          subst hjk
          have hfull : xs.take j = xs := by rw [← h1.1, h2.1, List.take_length]
          rw [hfull] at hO
          have HO := hid_ hO
          clear hO hfull o b h1 h2 HL
          go_wp2
          go_ret
          exact ⟨_, rfl, HO.out, hbr⟩
end Go.Proofs.Ytlddpkbdmbafbaa
