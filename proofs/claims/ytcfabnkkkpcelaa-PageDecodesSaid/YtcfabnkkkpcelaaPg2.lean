/- leaf: the walk. -/
import Derived.Test.YtcfabnkkkpcelaaPg1
set_option linter.unusedSimpArgs false
set_option linter.unusedVariables false
namespace Go.Proofs.Ytcfabnkkkpcelaa
open Go.RowKit
theorem vals_take {l : List PairV} {k : Nat} {x : PairV} (h : l[k]? = some x) : valsB (l.take (k + 1)) = (valsB (l.take k) && decide (x.val.size ≤ 100)) := by
  rw [valsB, valsB, List.take_add_one, h, List.all_append]
  simp
theorem vals_no {l : List PairV} {k : Nat} {x : PairV} (h : l[k]? = some x) (hx : ¬ x.val.size ≤ 100) : leafB l = false := by
  have : valsB l = false := by
    cases h' : valsB l with
    | false => rfl
    | true =>
      exact absurd (of_decide_eq_true ((List.all_eq_true.1 h') x (List.mem_of_getElem? h))) hx
  rw [leafB, this]
  rfl
set_option maxRecDepth 10000 in
set_option maxHeartbeats 1000000 in
theorem leaf_any (A : Option Addr) (n c : Nat) (l : List PairV) (w : World) (h1 : Row pairT w A n l) (hs : n ≤ 4398046511104) :
    Calls Try.prog 32 #[.slice A n c] w fun e w' => e = .returned (.bool (leafB l)) ∧ Bel w w' := by
  have hn := h1.2.1
  have hln := h1.1
  go_enter Try.func32, Try.ntmps32
  go_wp2
  go_loopw [3, 5, 8] (fun v _ i wr => ∃ k : Nat, k ≤ n ∧ i = .int .i64 k ∧ Bel w wr ∧ Own strT wr w.heap.size v ((l.take k).map PairV.key) ∧ valsB (l.take k) = true) (fun _ _ i _ => n - (intOf i).toNat)
  case atStart => exact ⟨0, by omega, rfl, Bel.refl _, Own.nil_ _ _ _, rfl⟩
  case round =>
    obtain ⟨k, hk, rfl, hB, hO, hv⟩ := hrel
    by_cases hkn : k < n
    · have h1' := h1.bel hB
      obtain ⟨ad, y, rfl, ho, d0, d1⟩ := h1'.pair hkn
      have VT := hid_ (vals_take ho)
      have VN := hid_ (vals_no ho)
      have HV := hid_ hv
      have HO := hid_ ho
      clear hv ho h1'
      by_cases q1 : 100 < y.val.size
      · go_wp2
        go_ret
        exact ⟨by rw [VN.out (by omega)]; rfl, hB.alloc _⟩
      · have hlk : (l.take k).length = k := by rw [List.length_take]; omega
        have HLK := hid_ hlk
        clear hlk
        go_wp2_with (at_builtin; refine wpApp (w0 := w) strS rfl _ _ rfl _ ((l.take k).map PairV.key) [y.key] (some ⟨wr.heap.size + 1, 0, none⟩) 1 1 rfl rfl ((hO.alloc_ _).alloc_ _) (Row.one y.key rfl (by simp)) ((hB.alloc _).alloc _) (by rw [List.length_map, HLK.out]; omega) ?_; intro v1 x1 hO1 hb1 hg1 hat1)
        case roundEnd =>
          go_roundw
          case rel =>
            refine ⟨k + 1, by omega, by go_num, hb1, ?_, ?_⟩
            · rw [List.take_add_one, HO.out, List.map_append]
              exact hO1
            · rw [VT.out, HV.out, decide_eq_true (show y.val.size ≤ 100 by omega)]
              rfl
          case measure => simp [intOf]; omega
    · have : k = n := by omega
      subst this
      have hfull : l.take k = l := by rw [← hln, List.take_length]
      rw [hfull] at hO hv
      obtain ⟨A', c', rfl, hc', hR⟩ := hO.reads
      rw [List.length_map, hln] at hR hc' ⊢
      have HV := hid_ hv
      have HLN := hid_ hln
      clear hv hln
      by_cases q1 : k < 1
      · go_wp2
        go_ret
        exact ⟨by rw [leafB, HLN.out, decide_eq_false (show ¬ 1 ≤ k by omega), Bool.false_and, Bool.and_false]; rfl, hB⟩
      · by_cases q2 : 6 < k
        · go_wp2
          go_ret
          exact ⟨by rw [leafB, HLN.out, decide_eq_false (show ¬ k ≤ 6 by omega), Bool.false_and, Bool.and_false, Bool.and_false]; rfl, hB⟩
        · go_wp2_with (go_at_call 33; refine (rise_any _ _ _ _ _ hR).mono ?_; rintro e w1 ⟨rfl, rfl⟩)
          go_ret
          exact ⟨by rw [leafB, HV.out, HLN.out, decide_eq_true (show 1 ≤ k by omega), decide_eq_true (show k ≤ 6 by omega)]; rfl, hB⟩
end Go.Proofs.Ytcfabnkkkpcelaa
