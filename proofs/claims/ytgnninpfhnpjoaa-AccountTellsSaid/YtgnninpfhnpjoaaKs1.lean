/- maps.Keys at a map of places, its iterator; slices.AppendSeq, Collect at places. -/
import Derived.Test.YtgnninpfhnpjoaaTyPl
import Derived.RangeFuncNested
import Derived.RangeFuncBound
import Derived.RangeFuncCalls
import Derived.RangeFuncLeaves
import Derived.RangeFuncSeq
import Derived.Sort.MapsRangeIn
import Derived.Shelf.Abstract
import Derived.Shelf.RegionOpen
import Derived.OwnWalkIn
import Derived.TacticsInMore
import Derived.LoopNIn
import Derived.LoopIn
import Derived.Sort.QuietIn
set_option linter.unusedSimpArgs false
set_option linter.unusedVariables false
namespace Go.Proofs.Ytgnninpfhnpjoaa
open Go.RowKit Go.Shelf Go.Maps Go.Lib
attribute [local go_sem] Oper.semAt_some
/-- The keys with something behind them, each once. -/
def KeysS (f : Plc → List Int) (ys : List Plc) : Prop := ys.Nodup ∧ (∀ x ∈ ys, plcOk x ∧ f x ≠ []) ∧ ∀ x, plcOk x → f x ≠ [] → x ∈ ys
def plcE (p : Plc) : Array Value := #[plcV p]
set_option maxRecDepth 100000 in
set_option maxHeartbeats 2000000 in
theorem keys1_stops (m : Nat) (hm : 1 ≤ m) (Bm b nn : Nat) (D0 : DataW Value) (f : Plc → List Int) (w : World) (hb : w.cell? ⟨Bm, 0, none⟩ = some (.map (some b))) (hown : w.ownsMap Try.prog 75 hvR b nn D0)
    (hhas : ∀ l, Maps.has D0 l = true ↔ ∃ x, plcOk x ∧ l = plcL x ∧ f x ≠ []) :
    SeqStopsK Fence.wide m Try.prog 80 #[.pointer (some ⟨Bm, 0, none⟩)] plcE KeepsWalks (KeysS f) (fun _ => True) (Maps.size D0) w := fun l J Jx W hW hJa _ hY h0 => by
  have hb1 : W.cell? ⟨Bm, 0, none⟩ = some (.map (some b)) := Bel.cell_ (w := w) hW hb
  have HH := hid_ hhas
  clear hhas
  have hown1 := hown.kept (grown_of_bel hW none) (by simp)
  refine callsIn_of_wp Try.func80 rfl trivial ?_ rfl
  simp only [Try.ntmps80, List.size_toArray, List.length_cons, List.length_nil, Nat.reduceAdd, Nat.reduceSub, Array.replicate_succ, Array.replicate_zero, List.push_toArray, List.append_toArray, List.nil_append, List.cons_append]
  gi_wp2_with (first
    | (gi_at_range; refine wpListIn_range_own _ rfl _ 78 rfl 75 36 plcLaw Try.underlying78 _ b nn _ rfl hown1 ?_; intro w0 hrg0 hg0 hs0)
    | gi_in)
  go_frame
  gi_loopw [3] (fun _ wr => ∃ (left : Lit → Bool) (cnt : Nat) (ss : List Plc), wr.ranges Try.prog 75 hvR b W.heap.size nn D0 left cnt ∧ Hid (∀ l, left l = true ↔ ∃ x, plcOk x ∧ l = plcL x ∧ f x ≠ [] ∧ x ∉ ss) ∧ ss.Nodup ∧ (∀ x ∈ ss, plcOk x ∧ f x ≠ []) ∧ ss.length + cnt ≤ Maps.size D0 ∧ J ss wr)
    (fun _ wr => wr.rangeLeft b W.heap.size)
  case atStart =>
    exact ⟨_, _, [], hrg0, hid_ (fun l => by rw [HH.out l]; simp), List.nodup_nil, by simp, by simp, hJa [] W w0 none h0 hg0 (fun r e => by cases e)⟩
  case round =>
    obtain ⟨left, cnt, ss, hrg, hC, hnd, hss, hcn, hJs⟩ := hrel
    gi_wp2_with (first
      | (gi_at_next; refine wpListIn_next_ranges _ rfl _ rfl 75 plcLaw hvR id id (fun key kl hk => ⟨key, rfl⟩) (fun v _ _ => ⟨v, rfl⟩) b W.heap.size nn _ _ _ rfl hrg ?_ ?_)
      | gi_in)
    · intro hc0 hl0
      gi_wp2
      go_end0
      exact ⟨⟨_, rfl⟩, .inl ⟨ss, ⟨hnd, hss, fun x hx hf => Classical.byContradiction fun hn => by have := (hC.out (plcL x)).2 ⟨x, hx, rfl, hf, hn⟩; rw [hl0] at this; cases this⟩, hJs⟩⟩
    · intro x c kl yd yp w2 cnt2 hkey hlk hv hat hrg2 hlt hg2 hs2 hen
      obtain ⟨p, hp, rfl, hf, hd⟩ := (hC.out kl).1 hlk
      obtain rfl : x = plcV p := plcLaw.inj hkey (plcKey p hp)
      have hJ2 : J ss w2 := hJa ss wr w2 (some W.heap.size) hJs hg2 (fun r e => by cases e; exact ⟨Nat.le_refl _, hrg.iter_walk⟩)
      have hrg4 := hrg2.kept (grown_of_bel ((Bel.refl w2).alloc (.cells #[.string p.who, .string p.asset] 75)) none) (by simp) (by simp)
      have hJ4 := hJa ss w2 _ none hJ2 (grown_of_bel ((Bel.refl w2).alloc (.cells #[.string p.who, .string p.asset] 75)) none) (fun r e => by cases e)
      obtain ⟨fn, tmps, assign, body, hy, hR⟩ := hY ss p _ hJ4 (by omega)
      dsimp only [plcE, plcV] at hy
      clear hs2
      simp only [id, plcV] at hen ⊢
      gi_wp2
      refine hR.mono ?_
      have hC2 : Hid (∀ l, (left l && !l.sameKey (plcL p)) = true ↔ ∃ x, plcOk x ∧ l = plcL x ∧ f x ≠ [] ∧ x ∉ ss ++ [p]) := hid_ (by
        intro l
        simp only [Bool.and_eq_true, Bool.not_eq_true']
        constructor
        · rintro ⟨h1, h2⟩
          obtain ⟨z, hz, rfl, hzf, hzd⟩ := (hC.out l).1 h1
          refine ⟨z, hz, rfl, hzf, ?_⟩
          simp only [List.mem_append, List.mem_singleton, not_or]
          refine ⟨hzd, fun e => ?_⟩
          subst e
          rw [show (plcL z).sameKey (plcL z) = true from WideAt.sameKey_self (plcK.isKey hz)] at h2
          cases h2
        · rintro ⟨z, hz, rfl, hzf, hzd⟩
          simp only [List.mem_append, List.mem_singleton, not_or] at hzd
          refine ⟨(hC.out _).2 ⟨z, hz, rfl, hzf, hzd.1⟩, ?_⟩
          cases hs : (plcL z).sameKey (plcL p)
          · rfl
          · exact absurd (plcK.inj hz hp (WideAt.sameKey_eq hs)) hzd.2)
      have hN2 : (ss ++ [p]).Nodup := by
        rw [List.nodup_append]
        refine ⟨hnd, by simp, fun a ha c hc => ?_⟩
        simp at hc
        subst hc
        intro e
        exact hd (e ▸ ha)
      have hS2 : ∀ x ∈ ss ++ [p], plcOk x ∧ f x ≠ [] := by
        intro z hz
        rcases List.mem_append.1 hz with hz | hz
        · exact hss z hz
        · simp at hz
          subst hz
          exact ⟨hp, hf⟩
      rintro e W3 (⟨rfl, hJ3, hk3⟩ | ⟨rfl, hJx3⟩)
      · gi_wp2
        have hrg3 := hrg4.of_walks hk3
        go_roundw
        case rel => exact ⟨_, cnt2, ss ++ [p], hrg3, hC2, hN2, hS2, by rw [List.length_append]; simp only [List.length_singleton]; omega, hJ3⟩
        case measure => rw [hrg3.left_eq, hrg.left_eq]; exact hlt
      · gi_wp2
        refine bodyPost_ret (results_none rfl _ _ _) rfl ?_
        exact ⟨⟨_, rfl⟩, .inr ⟨_, trivial, hJx3⟩⟩
end Go.Proofs.Ytgnninpfhnpjoaa
