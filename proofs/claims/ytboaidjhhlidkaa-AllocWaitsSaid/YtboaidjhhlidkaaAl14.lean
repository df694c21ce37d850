/- alloc.Give, Back. -/
import Derived.Test.YtboaidjhhlidkaaAl13
set_option linter.unusedSimpArgs false
set_option linter.unusedVariables false
namespace Go.Proofs.Ytboaidjhhlidkaa
open Go.RowKit
def giveE (h : Int) (F L : List Int) (x : Int) : Int := if mayP h F L x then 0 else 1
def giveH (h : Int) (F L : List Int) (x : Int) : Int := if mayP h F L x then h else 0
def giveF (h : Int) (F L : List Int) (x : Int) : List Int := if mayP h F L x then F else []
def giveL (h : Int) (F L : List Int) (x : Int) : List Int := if mayP h F L x then laidP L x else []
def backF (h : Int) (F L : List Int) (x : Int) : List Int := if mayP h F L x then laidP F x else []
def backL (h : Int) (F L : List Int) (x : Int) : List Int := if mayP h F L x then L else []
theorem giveE_0 {h : Int} {F L : List Int} {x : Int} (e : mayP h F L x = false) : giveE h F L x = 1 := by rw [giveE, e]; rfl
theorem giveE_1 {h : Int} {F L : List Int} {x : Int} (e : mayP h F L x = true) : giveE h F L x = 0 := by rw [giveE, e]; rfl
theorem giveH_0 {h : Int} {F L : List Int} {x : Int} (e : mayP h F L x = false) : giveH h F L x = 0 := by rw [giveH, e]; rfl
theorem giveH_1 {h : Int} {F L : List Int} {x : Int} (e : mayP h F L x = true) : giveH h F L x = h := by rw [giveH, e]; rfl
theorem giveF_0 {h : Int} {F L : List Int} {x : Int} (e : mayP h F L x = false) : giveF h F L x = [] := by rw [giveF, e]; rfl
theorem giveF_1 {h : Int} {F L : List Int} {x : Int} (e : mayP h F L x = true) : giveF h F L x = F := by rw [giveF, e]; rfl
theorem giveL_0 {h : Int} {F L : List Int} {x : Int} (e : mayP h F L x = false) : giveL h F L x = [] := by rw [giveL, e]; rfl
theorem giveL_1 {h : Int} {F L : List Int} {x : Int} (e : mayP h F L x = true) : giveL h F L x = laidP L x := by rw [giveL, e]; rfl
theorem backF_0 {h : Int} {F L : List Int} {x : Int} (e : mayP h F L x = false) : backF h F L x = [] := by rw [backF, e]; rfl
theorem backF_1 {h : Int} {F L : List Int} {x : Int} (e : mayP h F L x = true) : backF h F L x = laidP F x := by rw [backF, e]; rfl
theorem backL_0 {h : Int} {F L : List Int} {x : Int} (e : mayP h F L x = false) : backL h F L x = [] := by rw [backL, e]; rfl
theorem backL_1 {h : Int} {F L : List Int} {x : Int} (e : mayP h F L x = true) : backL h F L x = L := by rw [backL, e]; rfl
theorem Own.length_ {w : World} {base : Nat} {v : Value} {xs : List Int} (h : Own intT w base v xs) : xs.length = xs.length := rfl
set_option maxRecDepth 10000 in
set_option maxHeartbeats 4000000 in
theorem give_any (h x : Int) (A B : Option Addr) (n c m d : Nat) (F L : List Int) (w : World) (hA : Row intT w A n F) (hB : Row intT w B m L) (hs1 : n ≤ 90000) (hs2 : m ≤ 90000) :
    Calls Try.prog 33 #[.agg #[.int .i64 h, .slice A n c, .slice B m d], .int .i64 x] w fun e w' => ∃ v, e = .returned (.tuple #[v, .int .i64 (giveE h F L x)]) ∧ PoolV w' v (giveH h F L x) (giveF h F L x) (giveL h F L x) ∧ Bel w w' := by
  go_enter Try.func33, Try.ntmps33
  have k0 : Bx ((w.alloc (.cells #[.int .i64 h, .slice A n c, .slice B m d] 48)).alloc (.cells #[.int .i64 0, .slice none 0 0, .slice none 0 0] 48)) w.heap.size 48 [.int .i64 h, .slice A n c, .slice B m d] := (Bx.new w _ _).alloc _
  have k1 : Bx ((w.alloc (.cells #[.int .i64 h, .slice A n c, .slice B m d] 48)).alloc (.cells #[.int .i64 0, .slice none 0 0, .slice none 0 0] 48)) (w.heap.size + 1) 48 [.int .i64 0, .slice none 0 0, .slice none 0 0] := by
    have := Bx.new (w.alloc (.cells #[.int .i64 h, .slice A n c, .slice B m d] 48)) 48 [.int .i64 0, .slice none 0 0, .slice none 0 0]
    rw [sizeAl] at this
    exact this
  have hb : Bel w ((w.alloc (.cells #[.int .i64 h, .slice A n c, .slice B m d] 48)).alloc (.cells #[.int .i64 0, .slice none 0 0, .slice none 0 0] 48)) := ((Bel.refl w).alloc _).alloc _
  have c0 := k0.cell 0 rfl
  have c1 := k0.cell 1 rfl
  have c2 := k0.cell 2 rfl
  have K0 := hid_ k0
  have K1 := hid_ k1
  clear k0 k1
  go_wp2_with fail
  refine (may_anyA h A B n c m d F L x _ (hA.bel hb) (hB.bel hb) (by omega) (by omega)).mono ?_
  rintro e w0 ⟨rfl, b0⟩
  have k0 := K0.out.bel b0
  have k1 := K1.out.bel b0
  have hb0 := hb.trans b0
  have c0' := k0.cell 0 rfl
  have c1' := k0.cell 1 rfl
  have c2' := k0.cell 2 rfl
  have f0 := fun j => k0.frozen j
  have f1 := fun j => k1.frozen j
  have g0 := k1.cell 0 rfl
  have g1 := k1.cell 1 rfl
  have g2 := k1.cell 2 rfl
  have KK0 := hid_ k0
  have KK1 := hid_ k1
  clear c0 c1 c2 K0 K1 k0 k1 b0 hb
  obtain ⟨b, hbb⟩ : ∃ b, mayP h F L x = b := ⟨_, rfl⟩
  rw [hbb]
  have HB := hid_ hbb
  clear hbb
  cases b
  · go_wp2_with fail
    have k9 := ((KK1.out.set 0 (.int .i64 0)).set 1 (.slice none 0 0)).set 2 (.slice none 0 0)
    have b9 := ((hb0.setBx (j := 0) (Nat.le_succ _) (.int .i64 0)).setBx (j := 1) (Nat.le_succ _) (.slice none 0 0)).setBx (j := 2) (Nat.le_succ _) (.slice none 0 0)
    refine bodyPost_ret (results_ct rfl _ _ (w.heap.size + 1) 48 _ (0, 0) _ rfl k9 Try.underlying48 rfl (by kernel_rfl)) rfl ?_
    rw [giveE_0 HB.out, giveH_0 HB.out, giveF_0 HB.out, giveL_0 HB.out]
    exact ⟨_, rfl, ⟨none, 0, 0, none, 0, 0, rfl, Nat.le_refl _, Nat.le_refl _, Row.none_ _ _ _, Row.none_ _ _ _⟩, b9⟩
  · go_wp2_with fail
    refine (own_any h A B n c m d F L _ (hA.bel hb0) (hB.bel hb0) (by omega) (by omega)).mono ?_
    rintro e w1 ⟨v1, v2, rfl, o1, o2, b1⟩
    obtain ⟨X, k, rfl, hk, r1, hx⟩ := o1.rowAt
    obtain ⟨Y, j, rfl, hj, r2, hy⟩ := o2.rowAt
    have hlt := KK1.out.lt
    have hx0 : ∀ ad, X = some ad → ad.block ≠ w.heap.size := fun ad e => by have := hx ad e; omega
    have hx1 : ∀ ad, X = some ad → ad.block ≠ w.heap.size + 1 := fun ad e => by have := hx ad e; omega
    have hy0 : ∀ ad, Y = some ad → ad.block ≠ w.heap.size := fun ad e => by have := hy ad e; omega
    have hy1 : ∀ ad, Y = some ad → ad.block ≠ w.heap.size + 1 := fun ad e => by have := hy ad e; omega
    have k0 := KK0.out.bel b1
    have k1 := KK1.out.bel b1
    have hb1 := hb0.trans b1
    clear c0' c1' c2' f0 f1 g0 g1 g2
    have f0 := fun j => k0.frozen j
    have f1 := fun j => k1.frozen j
    have e0 := k0.cell 0 rfl
    have e1 := k0.cell 1 rfl
    have e2 := k0.cell 2 rfl
    have k3 := ((k0.set 0 (.int .i64 h)).set 1 (.slice X F.length k)).set 2 (.slice Y L.length j)
    have l3 := (((k1.far (j := 0) (show w.heap.size + 1 ≠ w.heap.size by omega) (.int .i64 h)).far (j := 1) (show w.heap.size + 1 ≠ w.heap.size by omega) (.slice X F.length k)).far (j := 2) (show w.heap.size + 1 ≠ w.heap.size by omega) (.slice Y L.length j))
    have b3 := (((hb1.setBx (j := 0) (Nat.le_refl _) (.int .i64 h)).setBx (j := 1) (Nat.le_refl _) (.slice X F.length k)).setBx (j := 2) (Nat.le_refl _) (.slice Y L.length j))
    have rX := (((r1.far (j := 0) (.int .i64 h) hx0).far (j := 1) (.slice X F.length k) hx0).far (j := 2) (.slice Y L.length j) hx0)
    have rY := (((r2.far (j := 0) (.int .i64 h) hy0).far (j := 1) (.slice X F.length k) hy0).far (j := 2) (.slice Y L.length j) hy0)
    have K3 := hid_ k3
    have L3 := hid_ l3
    have B3 := hid_ b3
    have RX := hid_ rX
    have RY := hid_ rY
    have lF := o1.length_
    have lL := o2.length_
    have hF : F.length ≤ 90000 := by rw [hA.1]; exact hs1
    have hL : L.length ≤ 90000 := by rw [hB.1]; exact hs2
    have HX0 := hid_ hx0
    have HX1 := hid_ hx1
    have HY0 := hid_ hy0
    have HY1 := hid_ hy1
    clear k3 l3 b3 rX rY k0 k1 KK0 KK1 r1 r2 hx hy b1 hb1 hb0 hx0 hx1 hy0 hy1
    go_wp2_with fail
    refine (laid_any Y L.length j L x _ RY.out hj (by omega)).mono ?_
    rintro e w4 ⟨v3, rfl, o3, b4⟩
    obtain ⟨Z, l, rfl, hl, r3, hz⟩ := o3.rowAt
    have hlt3 : w.heap.size + 1 < (((w1.setCell ⟨w.heap.size, 0, none⟩ (.int .i64 h)).setCell ⟨w.heap.size, 1, none⟩ (.slice X F.length k)).setCell ⟨w.heap.size, 2, none⟩ (.slice Y L.length j)).heap.size := L3.out.lt
    have hz0 : ∀ ad, Z = some ad → ad.block ≠ w.heap.size := fun ad e => by have := hz ad e; omega
    have hz1 : ∀ ad, Z = some ad → ad.block ≠ w.heap.size + 1 := fun ad e => by have := hz ad e; omega
    have k4 := K3.out.bel b4
    have l4 := L3.out.bel b4
    have bb := B3.out.trans b4
    have q1 := RX.out.bel b4
    have q2 := RY.out.bel b4
    clear f0 f1 e0 e1 e2 hlt hlt3 hz b4 o1 o2 lF lL
    have f0 := fun j => k4.frozen j
    have f1 := fun j => l4.frozen j
    have k5 := k4.set 2 (.slice Z (laidP L x).length l)
    have e0 := k5.cell 0 rfl
    have e1 := k5.cell 1 rfl
    have e2 := k5.cell 2 rfl
    have e3 := k4.cell 2 rfl
    have l5 := l4.far (j := 2) (show w.heap.size + 1 ≠ w.heap.size by omega) (.slice Z (laidP L x).length l)
    have p0 := l5.cell 0 rfl
    have p1 := l5.cell 1 rfl
    have p2 := l5.cell 2 rfl
    have K5 := hid_ k5
    have L5 := hid_ l5
    clear k4 l4 k5 l5
    go_wp2_with fail
    have k9 := (((L5.out.set 0 (.int .i64 h)).set 1 (.slice X F.length k)).set 2 (.slice Z (laidP L x).length l))
    have b9 := ((((bb.setBx (j := 2) (Nat.le_refl _) (.slice Z (laidP L x).length l)).setBx (j := 0) (Nat.le_succ _) (.int .i64 h)).setBx (j := 1) (Nat.le_succ _) (.slice X F.length k)).setBx (j := 2) (Nat.le_succ _) (.slice Z (laidP L x).length l))
    have r9 := ((((q1.far (j := 2) (.slice Z (laidP L x).length l) HX0.out).far (j := 0) (.int .i64 h) HX1.out).far (j := 1) (.slice X F.length k) HX1.out).far (j := 2) (.slice Z (laidP L x).length l) HX1.out)
    have s9 := ((((r3.far (j := 2) (.slice Z (laidP L x).length l) hz0).far (j := 0) (.int .i64 h) hz1).far (j := 1) (.slice X F.length k) hz1).far (j := 2) (.slice Z (laidP L x).length l) hz1)
    refine bodyPost_ret (results_ct rfl _ _ (w.heap.size + 1) 48 _ (0, 0) _ rfl k9 Try.underlying48 rfl (by kernel_rfl)) rfl ?_
    rw [giveE_1 HB.out]
    exact ⟨_, rfl, ⟨X, F.length, k, Z, (laidP L x).length, l, by rw [giveH_1 HB.out]; rfl, hk, hl, by rw [giveF_1 HB.out]; exact r9, by rw [giveL_1 HB.out]; exact s9⟩, b9⟩
set_option maxRecDepth 10000 in
set_option maxHeartbeats 4000000 in
theorem back_any (h x : Int) (A B : Option Addr) (n c m d : Nat) (F L : List Int) (w : World) (hA : Row intT w A n F) (hB : Row intT w B m L) (hs1 : n ≤ 90000) (hs2 : m ≤ 90000) :
    Calls Try.prog 35 #[.agg #[.int .i64 h, .slice A n c, .slice B m d], .int .i64 x] w fun e w' => ∃ v, e = .returned (.tuple #[v, .int .i64 (giveE h F L x)]) ∧ PoolV w' v (giveH h F L x) (backF h F L x) (backL h F L x) ∧ Bel w w' := by
  go_enter Try.func35, Try.ntmps35
  have k0 : Bx ((w.alloc (.cells #[.int .i64 h, .slice A n c, .slice B m d] 48)).alloc (.cells #[.int .i64 0, .slice none 0 0, .slice none 0 0] 48)) w.heap.size 48 [.int .i64 h, .slice A n c, .slice B m d] := (Bx.new w _ _).alloc _
  have k1 : Bx ((w.alloc (.cells #[.int .i64 h, .slice A n c, .slice B m d] 48)).alloc (.cells #[.int .i64 0, .slice none 0 0, .slice none 0 0] 48)) (w.heap.size + 1) 48 [.int .i64 0, .slice none 0 0, .slice none 0 0] := by
    have := Bx.new (w.alloc (.cells #[.int .i64 h, .slice A n c, .slice B m d] 48)) 48 [.int .i64 0, .slice none 0 0, .slice none 0 0]
    rw [sizeAl] at this
    exact this
  have hb : Bel w ((w.alloc (.cells #[.int .i64 h, .slice A n c, .slice B m d] 48)).alloc (.cells #[.int .i64 0, .slice none 0 0, .slice none 0 0] 48)) := ((Bel.refl w).alloc _).alloc _
  have c0 := k0.cell 0 rfl
  have c1 := k0.cell 1 rfl
  have c2 := k0.cell 2 rfl
  have K0 := hid_ k0
  have K1 := hid_ k1
  clear k0 k1
  go_wp2_with fail
  refine (may_anyA h A B n c m d F L x _ (hA.bel hb) (hB.bel hb) (by omega) (by omega)).mono ?_
  rintro e w0 ⟨rfl, b0⟩
  have k0 := K0.out.bel b0
  have k1 := K1.out.bel b0
  have hb0 := hb.trans b0
  have c0' := k0.cell 0 rfl
  have c1' := k0.cell 1 rfl
  have c2' := k0.cell 2 rfl
  have f0 := fun j => k0.frozen j
  have f1 := fun j => k1.frozen j
  have g0 := k1.cell 0 rfl
  have g1 := k1.cell 1 rfl
  have g2 := k1.cell 2 rfl
  have KK0 := hid_ k0
  have KK1 := hid_ k1
  clear c0 c1 c2 K0 K1 k0 k1 b0 hb
  obtain ⟨b, hbb⟩ : ∃ b, mayP h F L x = b := ⟨_, rfl⟩
  rw [hbb]
  have HB := hid_ hbb
  clear hbb
  cases b
  · go_wp2_with fail
    have k9 := ((KK1.out.set 0 (.int .i64 0)).set 1 (.slice none 0 0)).set 2 (.slice none 0 0)
    have b9 := ((hb0.setBx (j := 0) (Nat.le_succ _) (.int .i64 0)).setBx (j := 1) (Nat.le_succ _) (.slice none 0 0)).setBx (j := 2) (Nat.le_succ _) (.slice none 0 0)
    refine bodyPost_ret (results_ct rfl _ _ (w.heap.size + 1) 48 _ (0, 0) _ rfl k9 Try.underlying48 rfl (by kernel_rfl)) rfl ?_
    rw [giveE_0 HB.out, giveH_0 HB.out, backF_0 HB.out, backL_0 HB.out]
    exact ⟨_, rfl, ⟨none, 0, 0, none, 0, 0, rfl, Nat.le_refl _, Nat.le_refl _, Row.none_ _ _ _, Row.none_ _ _ _⟩, b9⟩
  · go_wp2_with fail
    refine (own_any h A B n c m d F L _ (hA.bel hb0) (hB.bel hb0) (by omega) (by omega)).mono ?_
    rintro e w1 ⟨v1, v2, rfl, o1, o2, b1⟩
    obtain ⟨X, k, rfl, hk, r1, hx⟩ := o1.rowAt
    obtain ⟨Y, j, rfl, hj, r2, hy⟩ := o2.rowAt
    have hlt := KK1.out.lt
    have hx0 : ∀ ad, X = some ad → ad.block ≠ w.heap.size := fun ad e => by have := hx ad e; omega
    have hx1 : ∀ ad, X = some ad → ad.block ≠ w.heap.size + 1 := fun ad e => by have := hx ad e; omega
    have hy0 : ∀ ad, Y = some ad → ad.block ≠ w.heap.size := fun ad e => by have := hy ad e; omega
    have hy1 : ∀ ad, Y = some ad → ad.block ≠ w.heap.size + 1 := fun ad e => by have := hy ad e; omega
    have k0 := KK0.out.bel b1
    have k1 := KK1.out.bel b1
    have hb1 := hb0.trans b1
    clear c0' c1' c2' f0 f1 g0 g1 g2
    have f0 := fun j => k0.frozen j
    have f1 := fun j => k1.frozen j
    have e0 := k0.cell 0 rfl
    have e1 := k0.cell 1 rfl
    have e2 := k0.cell 2 rfl
    have k3 := ((k0.set 0 (.int .i64 h)).set 1 (.slice X F.length k)).set 2 (.slice Y L.length j)
    have l3 := (((k1.far (j := 0) (show w.heap.size + 1 ≠ w.heap.size by omega) (.int .i64 h)).far (j := 1) (show w.heap.size + 1 ≠ w.heap.size by omega) (.slice X F.length k)).far (j := 2) (show w.heap.size + 1 ≠ w.heap.size by omega) (.slice Y L.length j))
    have b3 := (((hb1.setBx (j := 0) (Nat.le_refl _) (.int .i64 h)).setBx (j := 1) (Nat.le_refl _) (.slice X F.length k)).setBx (j := 2) (Nat.le_refl _) (.slice Y L.length j))
    have rX := (((r1.far (j := 0) (.int .i64 h) hx0).far (j := 1) (.slice X F.length k) hx0).far (j := 2) (.slice Y L.length j) hx0)
    have rY := (((r2.far (j := 0) (.int .i64 h) hy0).far (j := 1) (.slice X F.length k) hy0).far (j := 2) (.slice Y L.length j) hy0)
    have K3 := hid_ k3
    have L3 := hid_ l3
    have B3 := hid_ b3
    have RX := hid_ rX
    have RY := hid_ rY
    have lF := o1.length_
    have lL := o2.length_
    have hF : F.length ≤ 90000 := by rw [hA.1]; exact hs1
    have hL : L.length ≤ 90000 := by rw [hB.1]; exact hs2
    have HX0 := hid_ hx0
    have HX1 := hid_ hx1
    have HY0 := hid_ hy0
    have HY1 := hid_ hy1
    clear k3 l3 b3 rX rY k0 k1 KK0 KK1 r1 r2 hx hy b1 hb1 hb0 hx0 hx1 hy0 hy1
    go_wp2_with fail
    refine (laid_any X F.length k F x _ RX.out hk (by omega)).mono ?_
    rintro e w4 ⟨v3, rfl, o3, b4⟩
    obtain ⟨Z, l, rfl, hl, r3, hz⟩ := o3.rowAt
    have hlt3 : w.heap.size + 1 < (((w1.setCell ⟨w.heap.size, 0, none⟩ (.int .i64 h)).setCell ⟨w.heap.size, 1, none⟩ (.slice X F.length k)).setCell ⟨w.heap.size, 2, none⟩ (.slice Y L.length j)).heap.size := L3.out.lt
    have hz0 : ∀ ad, Z = some ad → ad.block ≠ w.heap.size := fun ad e => by have := hz ad e; omega
    have hz1 : ∀ ad, Z = some ad → ad.block ≠ w.heap.size + 1 := fun ad e => by have := hz ad e; omega
    have k4 := K3.out.bel b4
    have l4 := L3.out.bel b4
    have bb := B3.out.trans b4
    have q1 := RX.out.bel b4
    have q2 := RY.out.bel b4
    clear f0 f1 e0 e1 e2 hlt hlt3 hz b4 o1 o2 lF lL
    have f0 := fun j => k4.frozen j
    have f1 := fun j => l4.frozen j
    have k5 := k4.set 1 (.slice Z (laidP F x).length l)
    have e0 := k5.cell 0 rfl
    have e1 := k5.cell 1 rfl
    have e2 := k5.cell 2 rfl
    have e3 := k4.cell 1 rfl
    have l5 := l4.far (j := 1) (show w.heap.size + 1 ≠ w.heap.size by omega) (.slice Z (laidP F x).length l)
    have p0 := l5.cell 0 rfl
    have p1 := l5.cell 1 rfl
    have p2 := l5.cell 2 rfl
    have K5 := hid_ k5
    have L5 := hid_ l5
    clear k4 l4 k5 l5
    go_wp2_with fail
    have k9 := (((L5.out.set 0 (.int .i64 h)).set 1 (.slice Z (laidP F x).length l)).set 2 (.slice Y L.length j))
    have b9 := ((((bb.setBx (j := 1) (Nat.le_refl _) (.slice Z (laidP F x).length l)).setBx (j := 0) (Nat.le_succ _) (.int .i64 h)).setBx (j := 1) (Nat.le_succ _) (.slice Z (laidP F x).length l)).setBx (j := 2) (Nat.le_succ _) (.slice Y L.length j))
    have r9 := ((((r3.far (j := 1) (.slice Z (laidP F x).length l) hz0).far (j := 0) (.int .i64 h) hz1).far (j := 1) (.slice Z (laidP F x).length l) hz1).far (j := 2) (.slice Y L.length j) hz1)
    have s9 := ((((q2.far (j := 1) (.slice Z (laidP F x).length l) HY0.out).far (j := 0) (.int .i64 h) HY1.out).far (j := 1) (.slice Z (laidP F x).length l) HY1.out).far (j := 2) (.slice Y L.length j) HY1.out)
    refine bodyPost_ret (results_ct rfl _ _ (w.heap.size + 1) 48 _ (0, 0) _ rfl k9 Try.underlying48 rfl (by kernel_rfl)) rfl ?_
    rw [giveE_1 HB.out]
    exact ⟨_, rfl, ⟨Z, (laidP F x).length, l, Y, L.length, j, by rw [giveH_1 HB.out]; rfl, hl, hj, by rw [backF_1 HB.out]; exact r9, by rw [backL_1 HB.out]; exact s9⟩, b9⟩
end Go.Proofs.Ytboaidjhhlidkaa
