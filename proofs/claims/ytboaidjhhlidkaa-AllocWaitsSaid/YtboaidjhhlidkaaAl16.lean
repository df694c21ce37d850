/- The document's Give, Back. -/
import Derived.Test.YtboaidjhhlidkaaAl15
import Derived.Test.YtboaidjhhlidkaaAl8
import Derived.Test.YtboaidjhhlidkaaAl18
set_option linter.unusedSimpArgs false
set_option linter.unusedVariables false
namespace Go.Proofs.Ytboaidjhhlidkaa
open Go.RowKit
set_option maxRecDepth 10000 in
set_option maxHeartbeats 4000000 in
theorem giveR_any (h x : Int) (A B : Option Addr) (n c m d : Nat) (F L : List Int) (w : World) (hA : Row intT w A n F) (hB : Row intT w B m L) (hs1 : n ≤ 90000) (hs2 : m ≤ 90000) :
    Calls Try.prog 34 #[.agg #[.int .i64 h, .slice A n c, .slice B m d], .int .i64 x] w fun e w' => ∃ v, e = .returned (.tuple #[v, .int .i64 (giveE h F L x)]) ∧ PoolV w' v (giveH h F L x) (giveF h F L x) (giveL h F L x) ∧ Bel w w' := by
  go_enter Try.func34, Try.ntmps34
  have k0 : Bx ((w.alloc (.cells #[.int .i64 h, .slice A n c, .slice B m d] 48)).alloc (.cells #[.int .i64 0, .slice none 0 0, .slice none 0 0] 48)) w.heap.size 48 [.int .i64 h, .slice A n c, .slice B m d] := (Bx.new w _ _).alloc _
  have k1 : Bx ((w.alloc (.cells #[.int .i64 h, .slice A n c, .slice B m d] 48)).alloc (.cells #[.int .i64 0, .slice none 0 0, .slice none 0 0] 48)) (w.heap.size + 1) 48 [.int .i64 0, .slice none 0 0, .slice none 0 0] := by
    have := Bx.new (w.alloc (.cells #[.int .i64 h, .slice A n c, .slice B m d] 48)) 48 [.int .i64 0, .slice none 0 0, .slice none 0 0]
    rw [sizeAl] at this
    exact this
  have hb : Bel w ((w.alloc (.cells #[.int .i64 h, .slice A n c, .slice B m d] 48)).alloc (.cells #[.int .i64 0, .slice none 0 0, .slice none 0 0] 48)) := ((Bel.refl w).alloc _).alloc _
  have c0 := k0.cell 0 rfl
  have c1 := k0.cell 1 rfl
  have c2 := k0.cell 2 rfl
  have K0 := hid_ k0
  have K1 := hid_ k1
  clear k0 k1
  go_wp2_with fail
  refine (mayR_any h A B n c m d F L x _ (hA.bel hb) (hB.bel hb)).mono ?_
  rintro e w0 ⟨rfl, b0⟩
  have k0 := K0.out.bel b0
  have k1 := K1.out.bel b0
  have hb0 := hb.trans b0
  have c0' := k0.cell 0 rfl
  have c1' := k0.cell 1 rfl
  have c2' := k0.cell 2 rfl
  have f0 := fun j => k0.frozen j
  have f1 := fun j => k1.frozen j
  have g0 := k1.cell 0 rfl
  have g1 := k1.cell 1 rfl
  have g2 := k1.cell 2 rfl
  have KK0 := hid_ k0
  have KK1 := hid_ k1
  clear c0 c1 c2 K0 K1 k0 k1 b0 hb
  obtain ⟨b, hbb⟩ : ∃ b, mayP h F L x = b := ⟨_, rfl⟩
  rw [hbb]
  have HB := hid_ hbb
  clear hbb
  cases b
  · go_wp2_with fail
    have k9 := ((KK1.out.set 0 (.int .i64 0)).set 1 (.slice none 0 0)).set 2 (.slice none 0 0)
    have b9 := ((hb0.setBx (j := 0) (Nat.le_succ _) (.int .i64 0)).setBx (j := 1) (Nat.le_succ _) (.slice none 0 0)).setBx (j := 2) (Nat.le_succ _) (.slice none 0 0)
    refine bodyPost_ret (results_ct rfl _ _ (w.heap.size + 1) 48 _ (0, 0) _ rfl k9 Try.underlying48 rfl (by kernel_rfl)) rfl ?_
    rw [giveE_0 HB.out, giveH_0 HB.out, giveF_0 HB.out, giveL_0 HB.out]
    exact ⟨_, rfl, ⟨none, 0, 0, none, 0, 0, rfl, Nat.le_refl _, Nat.le_refl _, Row.none_ _ _ _, Row.none_ _ _ _⟩, b9⟩
  · go_wp2_with fail
    refine (ownR_any h A B n c m d F L _ (hA.bel hb0) (hB.bel hb0) (by omega) (by omega)).mono ?_
    rintro e w1 ⟨v1, v2, rfl, o1, o2, b1⟩
    obtain ⟨X, k, rfl, hk, r1', hx'⟩ := o1.rowAtB
    obtain ⟨Y, j, rfl, hj, r2', hy'⟩ := o2.rowAtB
    have HSZ := hid_ KK1.out.lt
    have k1' := KK1.out.bel b1
    have hlt : w.heap.size + 1 < w1.heap.size := k1'.lt
    have hle : w.heap.size ≤ w1.heap.size := by omega
    have hxn : ∀ ad, X = some ad → ad.block ≠ w1.heap.size := fun ad e => by have := hx' ad e; omega
    have hyn : ∀ ad, Y = some ad → ad.block ≠ w1.heap.size := fun ad e => by have := hy' ad e; omega
    have hx1 : ∀ ad, X = some ad → ad.block ≠ w.heap.size + 1 := fun ad e => by have := (hx' ad e).1; have := HSZ.out; omega
    have hy1 : ∀ ad, Y = some ad → ad.block ≠ w.heap.size + 1 := fun ad e => by have := (hy' ad e).1; have := HSZ.out; omega
    have BB := hid_ (hb0.trans b1)
    have HXN := hid_ hxn
    have HYN := hid_ hyn
    have HX1 := hid_ hx1
    have HY1 := hid_ hy1
    have HLT := hid_ hlt
    have HLE := hid_ hle
    clear hx' hy' hxn hyn hx1 hy1 c0' c1' c2' f0 f1 g0 g1 g2 KK0
    clear KK1
    have k0 := Bx.new w1 48 [.int .i64 h, .slice X F.length k, .slice Y L.length j]
    have k1 := k1'.alloc (.cells #[.int .i64 h, .slice X F.length k, .slice Y L.length j] 48)
    have r1 := r1'.bel ((Bel.refl w1).alloc (.cells #[.int .i64 h, .slice X F.length k, .slice Y L.length j] 48))
    have r2 := r2'.bel ((Bel.refl w1).alloc (.cells #[.int .i64 h, .slice X F.length k, .slice Y L.length j] 48))
    have hbb := (BB.out).alloc (.cells #[.int .i64 h, .slice X F.length k, .slice Y L.length j] 48)
    have e0 := k0.cell 0 rfl
    have e1 := k0.cell 1 rfl
    have e2 := k0.cell 2 rfl
    have f0 := fun j => k0.frozen j
    have f1 := fun j => k1'.frozen j
    have g0 := k1'.cell 0 rfl
    have g1 := k1'.cell 1 rfl
    have g2 := k1'.cell 2 rfl
    clear r1' r2' k1'
    have k3 := k0
    have l3 := k1
    have b3 := hbb
    have rX := r1
    have rY := r2
    have K3 := hid_ k3
    have L3 := hid_ l3
    have B3 := hid_ b3
    have RX := hid_ rX
    have RY := hid_ rY
    have lF := o1.length_
    have lL := o2.length_
    have hF : F.length ≤ 90000 := by rw [hA.1]; exact hs1
    have hL : L.length ≤ 90000 := by rw [hB.1]; exact hs2
    clear k3 l3 b3 rX rY k0 k1 r1 r2 b1 hbb hb0
    go_wp2_with fail
    refine (laidR_any Y L.length j L x _ RY.out hj (by omega)).mono ?_
    rintro e w4 ⟨v3, rfl, o3, b4⟩
    obtain ⟨Z, l, rfl, hl, r3, hz⟩ := o3.rowAt
    have hlt3 : w.heap.size + 1 < (w1.alloc (.cells #[.int .i64 h, .slice X F.length k, .slice Y L.length j] 48)).heap.size := L3.out.lt
    have hlt4 := K3.out.lt
    have hz0 : ∀ ad, Z = some ad → ad.block ≠ w1.heap.size := fun ad e => by have := hz ad e; have := hlt4; omega
    have hz1 : ∀ ad, Z = some ad → ad.block ≠ w.heap.size + 1 := fun ad e => by have := hz ad e; have := hlt3; omega
    have k4 := K3.out.bel b4
    have l4 := L3.out.bel b4
    have bb := B3.out.trans b4
    have q1 := RX.out.bel b4
    have q2 := RY.out.bel b4
    clear f0 f1 e0 e1 e2 g0 g1 g2 hlt3 hlt4 hz b4 o1 o2 lF lL
    have f0 := fun j => k4.frozen j
    have f1 := fun j => l4.frozen j
    have k5 := k4.set 2 (.slice Z (laidP L x).length l)
    have e0 := k5.cell 0 rfl
    have e1 := k5.cell 1 rfl
    have e2 := k5.cell 2 rfl
    have e3 := k4.cell 2 rfl
    have l5 := l4.far (j := 2) (show w.heap.size + 1 ≠ w1.heap.size from Nat.ne_of_lt HLT.out) (.slice Z (laidP L x).length l)
    have p0 := l5.cell 0 rfl
    have p1 := l5.cell 1 rfl
    have p2 := l5.cell 2 rfl
    have K5 := hid_ k5
    have L5 := hid_ l5
    clear k4 l4 k5 l5
    go_wp2_with fail
    have k9 := (((L5.out.set 0 (.int .i64 h)).set 1 (.slice X F.length k)).set 2 (.slice Z (laidP L x).length l))
    have b9 := ((((bb.setBx (j := 2) HLE.out (.slice Z (laidP L x).length l)).setBx (j := 0) (Nat.le_succ _) (.int .i64 h)).setBx (j := 1) (Nat.le_succ _) (.slice X F.length k)).setBx (j := 2) (Nat.le_succ _) (.slice Z (laidP L x).length l))
    have r9 := ((((q1.far (j := 2) (.slice Z (laidP L x).length l) HXN.out).far (j := 0) (.int .i64 h) HX1.out).far (j := 1) (.slice X F.length k) HX1.out).far (j := 2) (.slice Z (laidP L x).length l) HX1.out)
    have s9 := ((((r3.far (j := 2) (.slice Z (laidP L x).length l) hz0).far (j := 0) (.int .i64 h) hz1).far (j := 1) (.slice X F.length k) hz1).far (j := 2) (.slice Z (laidP L x).length l) hz1)
    refine bodyPost_ret (results_ct rfl _ _ (w.heap.size + 1) 48 _ (0, 0) _ rfl k9 Try.underlying48 rfl (by kernel_rfl)) rfl ?_
    rw [giveE_1 HB.out]
    exact ⟨_, rfl, ⟨X, F.length, k, Z, (laidP L x).length, l, by rw [giveH_1 HB.out]; rfl, hk, hl, by rw [giveF_1 HB.out]; exact r9, by rw [giveL_1 HB.out]; exact s9⟩, b9⟩
set_option maxRecDepth 10000 in
set_option maxHeartbeats 4000000 in
theorem backR_any (h x : Int) (A B : Option Addr) (n c m d : Nat) (F L : List Int) (w : World) (hA : Row intT w A n F) (hB : Row intT w B m L) (hs1 : n ≤ 90000) (hs2 : m ≤ 90000) :
    Calls Try.prog 36 #[.agg #[.int .i64 h, .slice A n c, .slice B m d], .int .i64 x] w fun e w' => ∃ v, e = .returned (.tuple #[v, .int .i64 (giveE h F L x)]) ∧ PoolV w' v (giveH h F L x) (backF h F L x) (backL h F L x) ∧ Bel w w' := by
  go_enter Try.func36, Try.ntmps36
  have k0 : Bx ((w.alloc (.cells #[.int .i64 h, .slice A n c, .slice B m d] 48)).alloc (.cells #[.int .i64 0, .slice none 0 0, .slice none 0 0] 48)) w.heap.size 48 [.int .i64 h, .slice A n c, .slice B m d] := (Bx.new w _ _).alloc _
  have k1 : Bx ((w.alloc (.cells #[.int .i64 h, .slice A n c, .slice B m d] 48)).alloc (.cells #[.int .i64 0, .slice none 0 0, .slice none 0 0] 48)) (w.heap.size + 1) 48 [.int .i64 0, .slice none 0 0, .slice none 0 0] := by
    have := Bx.new (w.alloc (.cells #[.int .i64 h, .slice A n c, .slice B m d] 48)) 48 [.int .i64 0, .slice none 0 0, .slice none 0 0]
    rw [sizeAl] at this
    exact this
  have hb : Bel w ((w.alloc (.cells #[.int .i64 h, .slice A n c, .slice B m d] 48)).alloc (.cells #[.int .i64 0, .slice none 0 0, .slice none 0 0] 48)) := ((Bel.refl w).alloc _).alloc _
  have c0 := k0.cell 0 rfl
  have c1 := k0.cell 1 rfl
  have c2 := k0.cell 2 rfl
  have K0 := hid_ k0
  have K1 := hid_ k1
  clear k0 k1
  go_wp2_with fail
  refine (mayR_any h A B n c m d F L x _ (hA.bel hb) (hB.bel hb)).mono ?_
  rintro e w0 ⟨rfl, b0⟩
  have k0 := K0.out.bel b0
  have k1 := K1.out.bel b0
  have hb0 := hb.trans b0
  have c0' := k0.cell 0 rfl
  have c1' := k0.cell 1 rfl
  have c2' := k0.cell 2 rfl
  have f0 := fun j => k0.frozen j
  have f1 := fun j => k1.frozen j
  have g0 := k1.cell 0 rfl
  have g1 := k1.cell 1 rfl
  have g2 := k1.cell 2 rfl
  have KK0 := hid_ k0
  have KK1 := hid_ k1
  clear c0 c1 c2 K0 K1 k0 k1 b0 hb
  obtain ⟨b, hbb⟩ : ∃ b, mayP h F L x = b := ⟨_, rfl⟩
  rw [hbb]
  have HB := hid_ hbb
  clear hbb
  cases b
  · go_wp2_with fail
    have k9 := ((KK1.out.set 0 (.int .i64 0)).set 1 (.slice none 0 0)).set 2 (.slice none 0 0)
    have b9 := ((hb0.setBx (j := 0) (Nat.le_succ _) (.int .i64 0)).setBx (j := 1) (Nat.le_succ _) (.slice none 0 0)).setBx (j := 2) (Nat.le_succ _) (.slice none 0 0)
    refine bodyPost_ret (results_ct rfl _ _ (w.heap.size + 1) 48 _ (0, 0) _ rfl k9 Try.underlying48 rfl (by kernel_rfl)) rfl ?_
    rw [giveE_0 HB.out, giveH_0 HB.out, backF_0 HB.out, backL_0 HB.out]
    exact ⟨_, rfl, ⟨none, 0, 0, none, 0, 0, rfl, Nat.le_refl _, Nat.le_refl _, Row.none_ _ _ _, Row.none_ _ _ _⟩, b9⟩
  · go_wp2_with fail
    refine (ownR_any h A B n c m d F L _ (hA.bel hb0) (hB.bel hb0) (by omega) (by omega)).mono ?_
    rintro e w1 ⟨v1, v2, rfl, o1, o2, b1⟩
    obtain ⟨X, k, rfl, hk, r1', hx'⟩ := o1.rowAtB
    obtain ⟨Y, j, rfl, hj, r2', hy'⟩ := o2.rowAtB
    have HSZ := hid_ KK1.out.lt
    have k1' := KK1.out.bel b1
    have hlt : w.heap.size + 1 < w1.heap.size := k1'.lt
    have hle : w.heap.size ≤ w1.heap.size := by omega
    have hxn : ∀ ad, X = some ad → ad.block ≠ w1.heap.size := fun ad e => by have := hx' ad e; omega
    have hyn : ∀ ad, Y = some ad → ad.block ≠ w1.heap.size := fun ad e => by have := hy' ad e; omega
    have hx1 : ∀ ad, X = some ad → ad.block ≠ w.heap.size + 1 := fun ad e => by have := (hx' ad e).1; have := HSZ.out; omega
    have hy1 : ∀ ad, Y = some ad → ad.block ≠ w.heap.size + 1 := fun ad e => by have := (hy' ad e).1; have := HSZ.out; omega
    have BB := hid_ (hb0.trans b1)
    have HXN := hid_ hxn
    have HYN := hid_ hyn
    have HX1 := hid_ hx1
    have HY1 := hid_ hy1
    have HLT := hid_ hlt
    have HLE := hid_ hle
    clear hx' hy' hxn hyn hx1 hy1 c0' c1' c2' f0 f1 g0 g1 g2 KK0
    clear KK1
    have k0 := Bx.new w1 48 [.int .i64 h, .slice X F.length k, .slice Y L.length j]
    have k1 := k1'.alloc (.cells #[.int .i64 h, .slice X F.length k, .slice Y L.length j] 48)
    have r1 := r1'.bel ((Bel.refl w1).alloc (.cells #[.int .i64 h, .slice X F.length k, .slice Y L.length j] 48))
    have r2 := r2'.bel ((Bel.refl w1).alloc (.cells #[.int .i64 h, .slice X F.length k, .slice Y L.length j] 48))
    have hbb := (BB.out).alloc (.cells #[.int .i64 h, .slice X F.length k, .slice Y L.length j] 48)
    have e0 := k0.cell 0 rfl
    have e1 := k0.cell 1 rfl
    have e2 := k0.cell 2 rfl
    have f0 := fun j => k0.frozen j
    have f1 := fun j => k1'.frozen j
    have g0 := k1'.cell 0 rfl
    have g1 := k1'.cell 1 rfl
    have g2 := k1'.cell 2 rfl
    clear r1' r2' k1'
    have k3 := k0
    have l3 := k1
    have b3 := hbb
    have rX := r1
    have rY := r2
    have K3 := hid_ k3
    have L3 := hid_ l3
    have B3 := hid_ b3
    have RX := hid_ rX
    have RY := hid_ rY
    have lF := o1.length_
    have lL := o2.length_
    have hF : F.length ≤ 90000 := by rw [hA.1]; exact hs1
    have hL : L.length ≤ 90000 := by rw [hB.1]; exact hs2
    clear k3 l3 b3 rX rY k0 k1 r1 r2 b1 hbb hb0
    go_wp2_with fail
    refine (laidR_any X F.length k F x _ RX.out hk (by omega)).mono ?_
    rintro e w4 ⟨v3, rfl, o3, b4⟩
    obtain ⟨Z, l, rfl, hl, r3, hz⟩ := o3.rowAt
    have hlt3 : w.heap.size + 1 < (w1.alloc (.cells #[.int .i64 h, .slice X F.length k, .slice Y L.length j] 48)).heap.size := L3.out.lt
    have hlt4 := K3.out.lt
    have hz0 : ∀ ad, Z = some ad → ad.block ≠ w1.heap.size := fun ad e => by have := hz ad e; have := hlt4; omega
    have hz1 : ∀ ad, Z = some ad → ad.block ≠ w.heap.size + 1 := fun ad e => by have := hz ad e; have := hlt3; omega
    have k4 := K3.out.bel b4
    have l4 := L3.out.bel b4
    have bb := B3.out.trans b4
    have q1 := RX.out.bel b4
    have q2 := RY.out.bel b4
    clear f0 f1 e0 e1 e2 g0 g1 g2 hlt3 hlt4 hz b4 o1 o2 lF lL
    have f0 := fun j => k4.frozen j
    have f1 := fun j => l4.frozen j
    have k5 := k4.set 1 (.slice Z (laidP F x).length l)
    have e0 := k5.cell 0 rfl
    have e1 := k5.cell 1 rfl
    have e2 := k5.cell 2 rfl
    have e3 := k4.cell 1 rfl
    have l5 := l4.far (j := 1) (show w.heap.size + 1 ≠ w1.heap.size from Nat.ne_of_lt HLT.out) (.slice Z (laidP F x).length l)
    have p0 := l5.cell 0 rfl
    have p1 := l5.cell 1 rfl
    have p2 := l5.cell 2 rfl
    have K5 := hid_ k5
    have L5 := hid_ l5
    clear k4 l4 k5 l5
    go_wp2_with fail
    have k9 := (((L5.out.set 0 (.int .i64 h)).set 1 (.slice Z (laidP F x).length l)).set 2 (.slice Y L.length j))
    have b9 := ((((bb.setBx (j := 1) HLE.out (.slice Z (laidP F x).length l)).setBx (j := 0) (Nat.le_succ _) (.int .i64 h)).setBx (j := 1) (Nat.le_succ _) (.slice Z (laidP F x).length l)).setBx (j := 2) (Nat.le_succ _) (.slice Y L.length j))
    have r9 := ((((r3.far (j := 1) (.slice Z (laidP F x).length l) hz0).far (j := 0) (.int .i64 h) hz1).far (j := 1) (.slice Z (laidP F x).length l) hz1).far (j := 2) (.slice Y L.length j) hz1)
    have s9 := ((((q2.far (j := 1) (.slice Z (laidP F x).length l) HYN.out).far (j := 0) (.int .i64 h) HY1.out).far (j := 1) (.slice Z (laidP F x).length l) HY1.out).far (j := 2) (.slice Y L.length j) HY1.out)
    refine bodyPost_ret (results_ct rfl _ _ (w.heap.size + 1) 48 _ (0, 0) _ rfl k9 Try.underlying48 rfl (by kernel_rfl)) rfl ?_
    rw [giveE_1 HB.out]
    exact ⟨_, rfl, ⟨Z, (laidP F x).length, l, Y, L.length, j, by rw [giveH_1 HB.out]; rfl, hl, hj, by rw [backF_1 HB.out]; exact r9, by rw [backL_1 HB.out]; exact s9⟩, b9⟩
end Go.Proofs.Ytboaidjhhlidkaa
