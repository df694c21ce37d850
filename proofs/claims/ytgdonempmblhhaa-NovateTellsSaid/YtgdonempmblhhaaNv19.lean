/- cambistref15.first. -/
import Derived.Test.YtgdonempmblhhaaNv16
set_option linter.unusedSimpArgs false
set_option linter.unusedVariables false
namespace Go.Proofs.Ytgdonempmblhhaa
open Go.RowKit Go.Lib
section
variable {P : Program}
theorem results_ct {fn : Func} {p u : Tmp} {ty : TypeId} (h : fn.results = #[.cell p ty, .tmp u]) (tmps : Array Value) (w : World) (g : Nat) (t : TypeId) (cs : Array Value) (fr : Nat × Nat) (d : TypeDesc)
    (hp : tmps.getD p undef = .pointer (some ⟨g, 0, none⟩)) (hg : w.heap[g]? = some (.cells cs t fr))
    (hu : P.underlying ty = some d) (hd : (match d with | .struct _ | .array _ _ => true | _ => false) = true) (hi : (P.info? ty).map (·.size) = some cs.size) :
    (results fn tmps).run P w = .ok (.tuple #[.agg cs, tmps.getD u undef]) w := by
  have hp' : tmps[p]?.getD undef = .pointer (some ⟨g, 0, none⟩) := by simpa using hp
  simp [results, h, hp', asAddr, run_loadVar_row w g t ty cs fr d hg hu hd hi]
end
def ordZ0 : Ord := ⟨0, ⟨#[]⟩, ⟨#[]⟩, false, 0, 0⟩
def firstO (l : List Ord) (n : Int) : Ord := match atN l n with | some k => (l[k]?).getD ordZ0 | none => ordZ0
def firstB (l : List Ord) (n : Int) : Bool := (atN l n).isSome
set_option maxRecDepth 10000 in
set_option maxHeartbeats 1000000 in
theorem first_any (A : Option Addr) (n c : Nat) (l : List Ord) (nu : Int) (w : World) (hA : Row ordT w A n l) :
    Calls Try.prog 44 #[.slice A n c, .int .u64 nu] w fun e w' => e = .returned (.tuple #[.agg (ordC (firstO l nu)).toArray, .bool (firstB l nu)]) ∧ Bel w w' := by
  have hn := hA.2.1
  have HL := hid_ hA.1
  have HA := hid_ (hA.bel ((Bel.refl w).alloc (.cells #[.int .u64 0, .string ⟨#[]⟩, .string ⟨#[]⟩, .bool false, .int .i64 0, .int .i64 0] 27)))
  clear hA
  go_enter Try.func44, Try.ntmps44
  go_wp2_with fail
  go_loop [6] (fun i => ∃ j : Nat, j ≤ n ∧ i = .int .i64 j ∧ Hid (∀ i x, i < j → l[i]? = some x → (x.number == nu) = false)) (fun i => n - (intOf i).toNat)
  case atStart => exact ⟨0, Nat.zero_le _, rfl, hid_ (fun i x h => absurd h (by omega))⟩
  case round =>
    obtain ⟨j, hj, rfl, hx⟩ := hrel
    by_cases hjn : j < n
    · obtain ⟨ad, o0, o1, o2, o3, o4, o5, rfl, ho, d0, d1, d2, d3, d4, d5⟩ := HA.out.ord hjn
      have HO := hid_ ho
      clear ho
      obtain ⟨eq, heq⟩ : ∃ eq, (o0 == nu) = eq := ⟨_, rfl⟩
      cases eq
      · have HN : Hid (∀ i x, i < j + 1 → l[i]? = some x → (x.number == nu) = false) := hid_ (by
          intro i x hi hix
          rcases Nat.lt_or_ge i j with h | h
          · exact hx.out i x h hix
          · obtain rfl : i = j := by omega
            rw [HO.out] at hix
            cases hix
            exact heq)
        clear hx HO
        go_wp2
        case roundEnd =>
          go_round
          case rel => exact ⟨j + 1, by omega, by go_num, HN⟩
          case measure => simp [intOf]; omega
      · have HF : Hid (firstO l nu = ⟨o0, o1, o2, o3, o4, o5⟩ ∧ firstB l nu = true) := hid_ (by
          have := atN_hit l nu j _ HO.out heq hx.out
          unfold firstO firstB
          rw [this]
          refine ⟨?_, rfl⟩
          show (l[j]?).getD ordZ0 = _
          rw [HO.out]
          rfl)
        clear hx HO
        go_wp2_with fail
        refine bodyPost_ret (results_ct rfl _ _ w.heap.size 27 _ (0, 0) _ rfl (heap_alloc_new w _) Try.underlying27 rfl (by kernel_rfl)) rfl ?_
        exact ⟨by rw [HF.out.1, HF.out.2]; rfl, (Bel.refl _).alloc _⟩
    · obtain rfl : j = n := by omega
      have HF : Hid (firstO l nu = ordZ0 ∧ firstB l nu = false) := hid_ (by
        have := atN_no l nu (fun i x h => hx.out i x (by have := (List.getElem?_eq_some_iff.1 h).1; rw [HL.out] at this; exact this) h)
        unfold firstO firstB
        rw [this]
        exact ⟨rfl, rfl⟩)
      clear hx
      go_wp2_with fail
      refine bodyPost_ret (results_ct rfl _ _ w.heap.size 27 _ (0, 0) _ rfl (heap_alloc_new w _) Try.underlying27 rfl (by kernel_rfl)) rfl ?_
      exact ⟨by rw [HF.out.1, HF.out.2]; rfl, (Bel.refl _).alloc _⟩
end Go.Proofs.Ytgdonempmblhhaa
