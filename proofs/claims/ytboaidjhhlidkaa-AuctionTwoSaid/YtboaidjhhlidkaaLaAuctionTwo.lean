/- Of one buy and one sell just the lesser of both is traded, at the seller's price: the law and its walk. -/
import Derived.Test.YtboaidjhhlidkaaAucL
import Derived.Test.YtboaidjhhlidkaaOpOrd
import Derived.Deep.QuietTactic
import Derived.BigQuiet
set_option linter.unusedSimpArgs false
set_option linter.unusedVariables false
namespace Go.Proofs.Ytboaidjhhlidkaa
open Go.RowKit
theorem okO_iff (o : Ord) : okO o = true ↔ 1 ≤ o.price ∧ o.price ≤ 1000000 ∧ 1 ≤ o.left ∧ o.left ≤ 1000000 := by simp [okO]
theorem wsum_one (o : Ord) (h : okO o = true) : wsum [o] = o.left := by
  have := (okO_iff o).1 h
  simp only [wsum, List.foldl_cons, List.foldl_nil]
  unfold wrap64
  omega
theorem two_law (b s : Ord) (hb : okO b = true) (hs : okO s = true) :
    (b.price < s.price → price [b] [s] = (0, 0) ∧ trades [b] [s] = []) ∧
    (¬ b.price < s.price → price [b] [s] = (s.price, min b.left s.left) ∧ trades [b] [s] = [⟨b.number, s.number, min b.left s.left, s.price⟩]) := by
  have hb' := (okO_iff b).1 hb
  have hs' := (okO_iff s).1 hs
  have hw0 : wsum [] = 0 := rfl
  constructor
  · intro h
    have hv : vol [b] [s] s.price = 0 := by
      have h1 : highs [b] s.price = [] := by simp [highs]; omega
      have h2 : lows [s] s.price = [s] := by simp [lows]
      rw [vol, h1, h2, hw0, wsum_one s hs]
      omega
    have hp : price [b] [s] = (0, 0) := by
      simp [price, priceStep, better, hv]
    refine ⟨hp, ?_⟩
    have hA : tradesA [b] [s] = [] := by
      rw [tradesA, hp]
      have : highs [b] 0 = [b] := by simp [highs]; omega
      simp [this, fills]
    unfold trades
    rw [hA]
    cases hn : ([] : List Fil).length + (tradesB [b] [s]).length <;> simp [pair]
  · intro h
    have h1 : highs [b] s.price = [b] := by simp [highs]; omega
    have h2 : lows [s] s.price = [s] := by simp [lows]
    have hv : vol [b] [s] s.price = min b.left s.left := by rw [vol, h1, h2, wsum_one b hb, wsum_one s hs]
    have hpos : 0 < min b.left s.left := by omega
    have hp : price [b] [s] = (s.price, min b.left s.left) := by
      simp [price, priceStep, better, hv]
      omega
    refine ⟨hp, ?_⟩
    have hA : tradesA [b] [s] = [⟨b.number, min b.left s.left⟩] := by
      rw [tradesA, hp]
      simp only
      rw [h1, fills, if_neg (by omega), fills]
      congr 2
      omega
    have hB : tradesB [b] [s] = [⟨s.number, min b.left s.left⟩] := by
      rw [tradesB, hp]
      simp only
      rw [h2, fills, if_neg (by omega), fills]
      congr 2
      omega
    unfold trades
    rw [hA, hB, hp]
    have hm : min (min b.left s.left) (min b.left s.left) = min b.left s.left := by omega
    have hz : wrap64 0 = 0 := by unfold wrap64; omega
    simp [pair, hm, hz]

theorem blkOld {W : World} {g : Nat} {o : Obj} (h : W.heap[g]? = some o) (o' : Obj) : (W.alloc o').heap[g]? = some o := ((Bel.refl W).alloc o').blk h
theorem eqBel {w w' : World} (h : w = w') : Bel w w' := h ▸ Bel.refl w
theorem sizeAlloc (W : World) (o : Obj) : (W.alloc o).heap.size = W.heap.size + 1 := by simp
set_option maxHeartbeats 2000000 in
theorem walkAuctionTwo (w : World) (o0 : Ord) (w0 : ordWf o0) (o1 : Ord) (w1 : ordWf o1) :
    Calls Try.prog 6 #[.agg (ordC o0).toArray, .agg (ordC o1).toArray] w fun e w' => e = .returned (.bool true) ∧ Below w.heap.size w w' := by
  obtain ⟨n0, x0, m0, y0, p0, l0⟩ := o0
  obtain ⟨n1, x1, m1, y1, p1, l1⟩ := o1
  simp only [ordC]
  go_enter Try.func6, Try.ntmps6
  go_wp2_with fail
  refine (awake_any _).mono ?_
  rintro e wa ⟨rfl, b1⟩
  have k0 := b1.blk (blkOld (heap_alloc_new w _) _)
  have k1 := b1.blk (heap_alloc_new _ _)
  have hw : Bel w wa := (((Bel.refl w).alloc _).alloc _).trans b1
  simp only [sizeAlloc] at k1
  have K0 := hid_ k0
  have K1 := hid_ k1
  have q0 := fun j => cell_of_row wa _ j _ _ _ K0.out
  have q1 := fun j => cell_of_row wa _ j _ _ _ K1.out
  clear k0 k1
  go_wp2_with fail
  have rM := Row.lit (T := ordT) wa [⟨n0, x0, m0, y0, p0, l0⟩, ⟨n1, x1, m1, y1, p1, l1⟩] (0, 0) (by simp)
  refine (may_any _ 2 2 [⟨n0, x0, m0, y0, p0, l0⟩, ⟨n1, x1, m1, y1, p1, l1⟩] _ rM).mono ?_
  rintro e wb ⟨rfl, hwb⟩
  have hb2 := eqBel hwb
  have k0 := hb2.blk (blkOld K0.out _)
  have k1 := hb2.blk (blkOld K1.out _)
  have hwb' : Bel w wb := (hw.alloc _).trans hb2
  clear q0 q1 rM hb2 hwb K0 K1 b1 hw
  have K0 := hid_ k0
  have K1 := hid_ k1
  have q0 := fun j => cell_of_row wb _ j _ _ _ K0.out
  have q1 := fun j => cell_of_row wb _ j _ _ _ K1.out
  clear k0 k1
  by_cases hok : mayB [⟨n0, x0, m0, y0, p0, l0⟩, ⟨n1, x1, m1, y1, p1, l1⟩] = true
  · rw [hok]
    have hboth : okO ⟨n0, x0, m0, y0, p0, l0⟩ = true ∧ okO ⟨n1, x1, m1, y1, p1, l1⟩ = true := by simpa [mayB] using hok
    have hlaw := two_law _ _ hboth.1 hboth.2
    have HL := hid_ hlaw
    clear hok hboth hlaw
    have q1' := fun j o => cell_of_row (wb.alloc o) _ j _ _ _ (blkOld K1.out o)
    go_wp2_with fail
    have rB := Row.lit (T := ordT) wb [⟨n0, x0, m0, y0, p0, l0⟩] (0, 0) (by simp)
    have rS := Row.lit (T := ordT) (wb.alloc (.cells (List.flatMap ordT.enc [⟨n0, x0, m0, y0, p0, l0⟩]).toArray ordT.e)) [⟨n1, x1, m1, y1, p1, l1⟩] (0, 0) (by simp)
    rw [sizeAlloc] at rS
    refine (trades_any _ _ 1 1 1 1 [⟨n0, x0, m0, y0, p0, l0⟩] [⟨n1, x1, m1, y1, p1, l1⟩] _ (rB.bel ((Bel.refl _).alloc _)) rS (by omega) (by omega)).mono ?_
    rintro e wc ⟨v, rfl, o, hb3⟩
    have k0 := hb3.blk (blkOld (blkOld K0.out _) _)
    have k1 := hb3.blk (blkOld (blkOld K1.out _) _)
    have hwc : Bel w wc := ((hwb'.alloc _).alloc _).trans hb3
    clear q0 q1 q1' rB rS hb3 K0 K1 hwb'
    have K0 := hid_ k0
    have K1 := hid_ k1
    have q0 := fun j => cell_of_row wc _ j _ _ _ K0.out
    have q1 := fun j => cell_of_row wc _ j _ _ _ K1.out
    clear k0 k1
    by_cases hlt : p0 < p1
    · obtain ⟨hp, ht⟩ := HL.out.1 hlt
      rw [hp]
      rw [ht] at o
      obtain ⟨X, c, rfl, _⟩ := o.reads
      clear hp ht HL o
      go_wp2
      go_ret
      exact ⟨rfl, hwc⟩
    · obtain ⟨hp, ht⟩ := HL.out.2 (by omega)
      rw [hp]
      rw [ht] at o
      obtain ⟨X, c, rfl, _, r⟩ := o.reads
      obtain ⟨ad, t1, t2, t3, t4, rfl, et, d0, d1, d2, d3⟩ := r.trd (k := 0) (by simp)
      injection et with et
      injection et with e1 e2 e3 e4
      subst e1 e2 e3 e4
      simp [Addr.add] at d0 d1 d2 d3
      clear hp ht HL o r
      have a0 := q0 0
      have a5 := q0 5
      have a4 := q0 4
      have b0 := q1 0
      have b4 := q1 4
      have b5 := q1 5
      simp only [List.getElem?_toArray, List.getElem?_cons_succ, List.getElem?_cons_zero] at a0 a5 a4 b0 b4 b5
      clear q0 q1
      by_cases hm : l1 < l0
      · have hmin : min l0 l1 = l1 := by omega
        rw [hmin] at d2
        clear hmin
        go_wp2
        go_quiet (fail)
        go_wp2
        go_ret
        exact ⟨rfl, hwc.drewN _⟩
      · have hmin : min l0 l1 = l0 := by omega
        rw [hmin] at d2
        clear hmin
        go_wp2
        go_quiet (fail)
        go_wp2
        go_ret
        exact ⟨rfl, hwc.drewN _⟩
  · have hf : mayB [⟨n0, x0, m0, y0, p0, l0⟩, ⟨n1, x1, m1, y1, p1, l1⟩] = false := by simpa using hok
    rw [hf]
    clear hok hf
    go_wp2
    go_ret
    exact ⟨rfl, hwb'⟩
end Go.Proofs.Ytboaidjhhlidkaa
