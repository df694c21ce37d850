/- Of (both). -/
import Derived.Test.YtboaidjhhlidkaaAl19
set_option linter.unusedSimpArgs false
set_option linter.unusedVariables false
namespace Go.Proofs.Ytboaidjhhlidkaa
open Go.RowKit
def ofH (h : Int) (l : List (List Int)) : Int := if okP h 4096 l.flatten [] then h else 0
def ofF (h : Int) (l : List (List Int)) : List Int := if okP h 4096 l.flatten [] then l.flatten else []
def ofE (h : Int) (l : List (List Int)) : Int := chkP h 4096 l.flatten []
theorem ofE_0 {h : Int} {l : List (List Int)} (e : okP h 4096 l.flatten [] = false) : ofE h l = 61 := chkP_no e
theorem ofE_1 {h : Int} {l : List (List Int)} (e : okP h 4096 l.flatten [] = true) : ofE h l = 0 := chkP_yes e
theorem ofH_0 {h : Int} {l : List (List Int)} (e : okP h 4096 l.flatten [] = false) : ofH h l = 0 := by rw [ofH, e]; rfl
theorem ofH_1 {h : Int} {l : List (List Int)} (e : okP h 4096 l.flatten [] = true) : ofH h l = h := by rw [ofH, e]; rfl
theorem ofF_0 {h : Int} {l : List (List Int)} (e : okP h 4096 l.flatten [] = false) : ofF h l = [] := by rw [ofF, e]; rfl
theorem ofF_1 {h : Int} {l : List (List Int)} (e : okP h 4096 l.flatten [] = true) : ofF h l = l.flatten := by rw [ofF, e]; rfl
set_option maxRecDepth 10000 in
set_option maxHeartbeats 4000000 in
theorem of_any (h : Int) (A : Option Addr) (n c : Nat) (ss : List SV) (xs : List (List Int)) (w : World) (h1 : Row svT w A n ss) (h2 : RowsAt w ss xs) (hs : xs.flatten.length ≤ 1000000) :
    Calls Try.prog 42 #[.int .i64 h, .slice A n c] w fun e w' => ∃ v, e = .returned (.tuple #[v, .int .i64 (ofE h xs)]) ∧ PoolV w' v (ofH h xs) (ofF h xs) [] ∧ Bel w w' := by
  go_enter Try.func42, Try.ntmps42
  have k1 := Bx.new w 48 [.int .i64 0, .slice none 0 0, .slice none 0 0]
  have hb : Bel w (w.alloc (.cells #[.int .i64 0, .slice none 0 0, .slice none 0 0] 48)) := (Bel.refl w).alloc _
  have K1 := hid_ k1
  clear k1
  go_wp2_with fail
  refine (all_any' A n c ss xs _ (h1.bel hb) (h2.bel hb) hs).mono ?_
  rintro e w1 ⟨v1, rfl, o1, b1⟩
  obtain ⟨X, k, rfl, hk, r1, hx⟩ := o1.rowAtB
  have hlt := (K1.out.bel b1).lt
  have hx1 : ∀ ad, X = some ad → ad.block ≠ w.heap.size := fun ad e => by have := (hx ad e).1; rw [sizeAl] at this; omega
  have kr := (K1.out.bel b1).alloc (.cells #[.int .i64 h, .slice X xs.flatten.length k, .slice none 0 0] 48)
  have ko := Bx.new w1 48 [.int .i64 h, .slice X xs.flatten.length k, .slice none 0 0]
  have bw := (hb.trans b1).alloc (.cells #[.int .i64 h, .slice X xs.flatten.length k, .slice none 0 0] 48)
  have rx := r1.bel ((Bel.refl w1).alloc (.cells #[.int .i64 h, .slice X xs.flatten.length k, .slice none 0 0] 48))
  have KR := hid_ kr
  have KO := hid_ ko
  have BW := hid_ bw
  have RX := hid_ rx
  have HX := hid_ hx1
  have HK := hid_ hk
  obtain ⟨q, hq⟩ : ∃ q, xs.flatten.length = q := ⟨_, rfl⟩
  rw [hq] at RX KO KR BW HK
  rw [hq]
  have HQ := hid_ hq
  have e0 := KO.out.cell 0 rfl
  have e1 := KO.out.cell 1 rfl
  have e2 := KO.out.cell 2 rfl
  have f0 := fun j => KO.out.frozen j
  clear kr ko bw rx hx1 hx hk r1 o1 b1 hb K1 hlt hq hs
  go_wp2_with fail
  refine (check_any h 4096 X none q k 0 0 xs.flatten [] _ RX.out (Row.none_ _ _ _)).mono ?_
  rintro e w2 ⟨rfl, b2⟩
  have kr := KR.out.bel b2
  have ko := KO.out.bel b2
  have bw := BW.out.trans b2
  have rx := RX.out.bel b2
  clear e0 e1 e2 f0 KO BW RX b2
  have e0 := ko.cell 0 rfl
  have e1 := ko.cell 1 rfl
  have e2 := ko.cell 2 rfl
  have f0 := fun j => kr.frozen j
  have g0 := kr.cell 0 rfl
  have g1 := kr.cell 1 rfl
  have g2 := kr.cell 2 rfl
  have KR2 := hid_ kr
  have B2 := hid_ bw
  have R2 := hid_ rx
  clear kr ko bw rx KR
  obtain ⟨b, hbb⟩ : ∃ b, okP h 4096 xs.flatten [] = b := ⟨_, rfl⟩
  have HBB := hid_ hbb
  clear hbb
  cases b
  · have t1 : Hid (ofE h xs = 61) := ofE_0 HBB.out
    rw [chkP_no HBB.out]
    go_wp2_with fail
    have k9 := ((KR2.out.set 0 (.int .i64 0)).set 1 (.slice none 0 0)).set 2 (.slice none 0 0)
    have b9 := ((B2.out.setBx (j := 0) (Nat.le_refl _) (.int .i64 0)).setBx (j := 1) (Nat.le_refl _) (.slice none 0 0)).setBx (j := 2) (Nat.le_refl _) (.slice none 0 0)
    refine bodyPost_ret (results_ct rfl _ _ w.heap.size 48 _ (0, 0) _ rfl k9 Try.underlying48 rfl (by kernel_rfl)) rfl ?_
    rw [t1.out, ofH_0 HBB.out, ofF_0 HBB.out]
    exact ⟨_, rfl, ⟨none, 0, 0, none, 0, 0, rfl, Nat.le_refl _, Nat.le_refl _, Row.none_ _ _ _, Row.none_ _ _ _⟩, b9⟩
  · have t1 : Hid (ofE h xs = 0) := ofE_1 HBB.out
    rw [chkP_yes HBB.out]
    go_wp2_with fail
    have k9 := ((KR2.out.set 0 (.int .i64 h)).set 1 (.slice X q k)).set 2 (.slice none 0 0)
    have b9 := ((B2.out.setBx (j := 0) (Nat.le_refl _) (.int .i64 h)).setBx (j := 1) (Nat.le_refl _) (.slice X q k)).setBx (j := 2) (Nat.le_refl _) (.slice none 0 0)
    have r9 := ((R2.out.far (j := 0) (.int .i64 h) HX.out).far (j := 1) (.slice X q k) HX.out).far (j := 2) (.slice none 0 0) HX.out
    refine bodyPost_ret (results_ct rfl _ _ w.heap.size 48 _ (0, 0) _ rfl k9 Try.underlying48 rfl (by kernel_rfl)) rfl ?_
    rw [t1.out, ofH_1 HBB.out, ofF_1 HBB.out]
    exact ⟨_, rfl, ⟨X, q, k, none, 0, 0, rfl, HK.out, Nat.le_refl _, r9, Row.none_ _ _ _⟩, b9⟩
end Go.Proofs.Ytboaidjhhlidkaa
