/- slices.Chunk, its iterator. -/
import Derived.Test.YtboaidjhhlidkaaAl22
import Derived.RangeFuncNested
import Derived.RangeFuncBound
import Derived.RangeFuncCalls
import Derived.RangeFuncLeaves
import Derived.Shelf.Abstract
import Derived.Shelf.RegionOpen
import Derived.OwnWalkIn
import Derived.TacticsInMore
import Derived.LoopNIn
import Derived.LoopIn
import Derived.Sort.QuietIn
set_option linter.unusedSimpArgs false
set_option linter.unusedVariables false
namespace Go.Proofs.Ytboaidjhhlidkaa
open Go.RowKit Go.Shelf
attribute [local go_sem] Oper.semAt_some
/-- 'b[i:j:j]'. -/
theorem cutLHM (A : Option Addr) (n c i e : Nat) (hi : i + e ≤ n) (hc : n ≤ c) :
    ∃ A' : Option Addr, (∀ W : World, (Instr.slice 46 (.slice A n c) (some (.int .i64 (i : Int))) (some (.int .i64 ((i + e : Nat) : Int))) (some (.int .i64 ((i + e : Nat) : Int)))).run Try.prog W = .ok (.slice A' e e) W) ∧
      ∀ (w : World) (xs : List Int), Row intT w A n xs → Row intT w A' e ((xs.drop i).take e) := by
  have hel : Try.prog.elem 46 = intT.e := by simp [Program.elem, intS.ut]
  have hu : Try.prog.underlying 46 = some (.slice (Try.prog.elem 46)) := by rw [hel]; exact intS.ut
  obtain ⟨q, hq, hsz⟩ := intS.size
  refine ⟨if e = 0 then A else A.map (·.add (i * intT.sz)), fun W => ?_, fun w xs h => ?_⟩
  · rw [run_slice_lhm W 46 A n c hu .i64 .i64 .i64 (i : Int) ((i + e : Nat) : Int) ((i + e : Nat) : Int) (Int.natCast_nonneg _) (by omega) (by omega) (by omega), hel]
    have e1 : ((i + e : Nat) : Int).toNat = i + e := Int.toNat_natCast _
    have e2 : ((i : Nat) : Int).toNat = i := Int.toNat_natCast _
    have e3 : (i + e = i) = (e = 0) := by simp
    have e4 : i + e - i = e := by omega
    simp only [e1, e2, sizeOf, typeInfo, sliced]
    simp [hq, hsz, e4, Result.andThen, sizeOf, typeInfo]
  · refine ⟨by rw [List.length_take, List.length_drop, h.1]; omega, by have := h.2.1; omega, fun hp => ?_⟩
    obtain ⟨ad, rfl, hcell⟩ := h.2.2 (by omega)
    rw [if_neg (by omega)]
    refine ⟨ad.add (i * intT.sz), rfl, fun j x hj a u hu => ?_⟩
    rw [addAdd, ← Nat.add_assoc, ← Nat.add_mul]
    rw [List.getElem?_take] at hj
    split at hj
    · exact hcell (i + j) x (by rw [← List.getElem?_drop]; exact hj) a u hu
    · cases hj
theorem take_all_eq (l : List Int) {a b : Nat} (ha : l.length ≤ a) (hb : l.length ≤ b) : l.take a = l.take b := by rw [List.take_of_length_le ha, List.take_of_length_le hb]
def svEnc (s : SV) : Array Value := #[.slice s.1 s.2.1 s.2.2]
set_option maxRecDepth 100000 in
set_option maxHeartbeats 2000000 in
theorem chunkQ_stops (m : Nat) (hm : 1 ≤ m) (Bs Bn : Nat) (A : Option Addr) (n c : Nat) (R : List Int) (w : World) (hs : w.cell? ⟨Bs, 0, none⟩ = some (.slice A n c)) (h2 : w.cell? ⟨Bn, 0, none⟩ = some (.int .i64 200))
    (hR : Row intT w A n R) (hc : n ≤ c) (hle : n ≤ 80000) :
    SeqStopsK Fence.wide m Try.prog 124 #[.pointer (some ⟨Bs, 0, none⟩), .pointer (some ⟨Bn, 0, none⟩)] svEnc (Below w.heap.size) (fun ys => RowsAt w ys (chunksP R)) (fun _ => True) (chunksP R).length w := fun l J Jx W hW hJa _ hY h0 => by
  refine callsIn_of_wp Try.func124 rfl trivial ?_ rfl
  simp only [Try.ntmps124, List.size_toArray, List.length_cons, List.length_nil, Nat.reduceAdd, Nat.reduceSub, Array.replicate_succ, Array.replicate_zero, List.push_toArray, List.append_toArray, List.nil_append, List.cons_append]
  gi_wp2
  gi_loopw [4, 5] (fun i _ wr => ∃ (k : Nat) (pre : List SV) (ys : List (List Int)), i = .int .i64 k ∧ k ≤ 100000 ∧ RowsAt w pre ys ∧ ys ++ chunksP (R.drop k) = chunksP R ∧ J pre wr ∧ Below w.heap.size w wr) (fun i _ _ => 100000 - (intOf i).toNat)
  case atStart => exact ⟨0, [], [], rfl, by omega, ⟨rfl, fun k s x hs => by simp at hs⟩, rfl, h0, hW⟩
  case round =>
    obtain ⟨k, pre, ys, rfl, hk, hpre, hys, hJ, hbr⟩ := hrel
    have hs1 : wr.cell? ⟨Bs, 0, none⟩ = some (.slice A n c) := Bel.cell_ (w := w) hbr hs
    have hs2 : wr.cell? ⟨Bn, 0, none⟩ = some (.int .i64 200) := Bel.cell_ (w := w) hbr h2
    by_cases hkn : k < n
    · have hl := hR.1
      have hpl : pre.length < (chunksP R).length := by
        have hcc := chunksP_cons (l := R.drop k) (by rw [List.length_drop]; omega)
        rw [← hys, List.length_append, hpre.1, hcc, List.length_cons]
        omega
      by_cases h200 : 200 ≤ n - k
      · obtain ⟨A1, hcut, _⟩ := intS.cutFrom .i64 A n c k (by omega) hc
        obtain ⟨A2, hcut3', hrow⟩ := cutLHM A n c k 200 (by omega) hc
        have hcut3 : ∀ W : World, (Instr.slice 46 (.slice A n c) (some (.int .i64 (k : Int))) (some (.int .i64 ((k : Int) + 200))) (some (.int .i64 ((k : Int) + 200)))).run Try.prog W = .ok (.slice A2 200 200) W := fun W => by have := hcut3' W; rw [Int.natCast_add] at this; exact this
        have hwr : wrap64 ((k : Int) + 200) = (k : Int) + 200 := IntWalk.wrap64_in _ (by omega)
        have hrr := hrow _ _ hR
        clear hrow hcut3'
        gi_wp2
        gi_quiet (fail)
        obtain ⟨W2, hW2, hb2⟩ : ∃ W2, wr.drewN nq = W2 ∧ Bel wr W2 := ⟨_, rfl, (Bel.refl wr).drewN _⟩
        rw [hW2]
        have hJ2 := hJa pre wr W2 none hJ (grown_of_bel hb2 none) (fun r e => by cases e)
        have hb3 : Below w.heap.size w W2 := Bel.trans hbr hb2
        have t1 := hb2.cell_ hs1
        have t2 := hb2.cell_ hs2
        obtain ⟨fn, tmps, assign, body, hy, hRR⟩ := hY pre (A2, 200, 200) W2 hJ2 hpl
        dsimp only [svEnc] at hy
        clear hW2
        gi_wp2
        refine hRR.mono ?_
        rintro e W3 (⟨rfl, hJ3, hk3⟩ | ⟨rfl, hJx3⟩)
        · have hb4 := hb3.trans hk3
          have t3 := Bel.cell_ (w := w) hb4 hs
          have t4 := Bel.cell_ (w := w) hb4 h2
          gi_wp2
          go_roundw
          case rel => exact ⟨k + 200, pre ++ [(A2, 200, 200)], ys ++ [(R.drop k).take 200], by go_num, by omega, rowsAt_snoc hpre hrr, by rw [List.append_assoc, List.singleton_append]; rw [← hys, chunksP_cons (l := R.drop k) (by rw [List.length_drop]; omega), List.drop_drop], hJ3, hb4⟩
          case measure => simp [intOf]; omega
        · gi_wp2
          refine bodyPost_ret (results_none rfl _ _ _) rfl ?_
          exact ⟨⟨_, rfl⟩, .inr ⟨_, trivial, hJx3⟩⟩
      · obtain ⟨A1, hcut, _⟩ := intS.cutFrom .i64 A n c k (by omega) hc
        obtain ⟨A2, hcut3', hrow⟩ := cutLHM A n c k (n - k) (by omega) hc
        have hcut3 : ∀ W : World, (Instr.slice 46 (.slice A n c) (some (.int .i64 (k : Int))) (some (.int .i64 ((k : Int) + ((n - k : Nat) : Int)))) (some (.int .i64 ((k : Int) + ((n - k : Nat) : Int))))).run Try.prog W = .ok (.slice A2 (n - k) (n - k)) W := fun W => by have := hcut3' W; rw [Int.natCast_add] at this; exact this
        have hwr : wrap64 ((k : Int) + ((n - k : Nat) : Int)) = (k : Int) + ((n - k : Nat) : Int) := IntWalk.wrap64_in _ (by omega)
        have hrr := hrow _ _ hR
        clear hrow hcut3'
        gi_wp2
        gi_quiet (fail)
        obtain ⟨W2, hW2, hb2⟩ : ∃ W2, wr.drewN nq = W2 ∧ Bel wr W2 := ⟨_, rfl, (Bel.refl wr).drewN _⟩
        rw [hW2]
        have hJ2 := hJa pre wr W2 none hJ (grown_of_bel hb2 none) (fun r e => by cases e)
        have hb3 : Below w.heap.size w W2 := Bel.trans hbr hb2
        have t1 := hb2.cell_ hs1
        have t2 := hb2.cell_ hs2
        obtain ⟨fn, tmps, assign, body, hy, hRR⟩ := hY pre (A2, (n - k), (n - k)) W2 hJ2 hpl
        dsimp only [svEnc] at hy
        clear hW2
        gi_wp2
        refine hRR.mono ?_
        rintro e W3 (⟨rfl, hJ3, hk3⟩ | ⟨rfl, hJx3⟩)
        · have hb4 := hb3.trans hk3
          have t3 := Bel.cell_ (w := w) hb4 hs
          have t4 := Bel.cell_ (w := w) hb4 h2
          gi_wp2
          go_roundw
          case rel => exact ⟨k + 200, pre ++ [(A2, (n - k), (n - k))], ys ++ [(R.drop k).take 200], by go_num, by omega, rowsAt_snoc hpre (by rw [take_all_eq (R.drop k) (by rw [List.length_drop, hl]; omega) (show (R.drop k).length ≤ n - k by rw [List.length_drop, hl]; exact Nat.le_refl _)]; exact hrr), by rw [List.append_assoc, List.singleton_append]; rw [← hys, chunksP_cons (l := R.drop k) (by rw [List.length_drop]; omega), List.drop_drop], hJ3, hb4⟩
          case measure => simp [intOf]; omega
        · gi_wp2
          refine bodyPost_ret (results_none rfl _ _ _) rfl ?_
          exact ⟨⟨_, rfl⟩, .inr ⟨_, trivial, hJx3⟩⟩
    · have hz : chunksP (R.drop k) = [] := chunksP_nil (by rw [List.length_drop, hR.1]; omega)
      rw [hz, List.append_nil] at hys
      gi_wp2
      go_end0
      exact ⟨⟨_, rfl⟩, .inl ⟨_, by rw [← hys]; exact hpre, hJ⟩⟩
end Go.Proofs.Ytboaidjhhlidkaa
