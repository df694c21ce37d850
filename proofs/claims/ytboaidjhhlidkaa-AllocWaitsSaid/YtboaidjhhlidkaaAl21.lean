/- The document's Of. -/
import Derived.Test.YtboaidjhhlidkaaAl20
import Derived.Deep.RegionLaw
set_option linter.unusedSimpArgs false
set_option linter.unusedVariables false
namespace Go.Proofs.Ytboaidjhhlidkaa
open Go.RowKit
theorem Own.readsQ {w : World} {base q : Nat} {v : Value} {xs : List Int} (h : Own intT w base v xs) (e : xs.length = q) : ∃ A c, v = .slice A q c ∧ q ≤ c ∧ Row intT w A q xs := by
  subst e
  exact h.reads
theorem Bx.grown {W w1 : World} {g : Nat} {t : TypeId} {vs : List Value} {row : Option Nat} (h : Bx W g t vs) (hg : W.grownBy w1 row) (hne : ∀ k, row = some k → k ≠ g) : Bx w1 g t vs :=
  (hg.block g h.lt (fun e => hne g e.symm rfl)).trans h
theorem ownNe {W : World} {v v1 : Value} {g : Nat} (h : v1.ownBlock = v.ownBlock ∨ ∃ b, v1.ownBlock = some b ∧ W.heap.size ≤ b) (hv : ∀ k, v.ownBlock = some k → k ≠ g) (hg : g < W.heap.size) : ∀ k, v1.ownBlock = some k → k ≠ g := by
  rcases h with h | ⟨b, h, hb⟩
  · rw [h]; exact hv
  · intro k hk
    rw [h] at hk
    injection hk with hk
    omega
set_option maxRecDepth 10000 in
set_option maxHeartbeats 4000000 in
theorem ofR_any (h : Int) (A : Option Addr) (n c : Nat) (ss : List SV) (xs : List (List Int)) (w : World) (h1 : Row svT w A n ss) (h2 : RowsAt w ss xs) (hs : xs.flatten.length ≤ 1000000) :
    Calls Try.prog 43 #[.int .i64 h, .slice A n c] w fun e w' => ∃ v, e = .returned (.tuple #[v, .int .i64 (ofE h xs)]) ∧ PoolV w' v (ofH h xs) (ofF h xs) [] ∧ Bel w w' := by
  have hn := h1.2.1
  have hfl : ∀ k, (xs.take k).flatten.length ≤ 1000000 := fun k => Nat.le_trans (flat_le xs k) hs
  have HFL := hid_ hfl
  clear hfl hs
  go_enter Try.func43, Try.ntmps43
  have k1 : Bx ((w.alloc (.cells #[.int .i64 0, .slice none 0 0, .slice none 0 0] 48)).alloc (.cells #[.int .i64 h, .slice none 0 0, .slice none 0 0] 48)) w.heap.size 48 [.int .i64 0, .slice none 0 0, .slice none 0 0] := (Bx.new w _ _).alloc _
  have k2 : Bx ((w.alloc (.cells #[.int .i64 0, .slice none 0 0, .slice none 0 0] 48)).alloc (.cells #[.int .i64 h, .slice none 0 0, .slice none 0 0] 48)) (w.heap.size + 1) 48 [.int .i64 h, .slice none 0 0, .slice none 0 0] := by
    have := Bx.new (w.alloc (.cells #[.int .i64 0, .slice none 0 0, .slice none 0 0] 48)) 48 [.int .i64 h, .slice none 0 0, .slice none 0 0]
    rw [sizeAl] at this
    exact this
  have hb : Bel w ((w.alloc (.cells #[.int .i64 0, .slice none 0 0, .slice none 0 0] 48)).alloc (.cells #[.int .i64 h, .slice none 0 0, .slice none 0 0] 48)) := ((Bel.refl w).alloc _).alloc _
  have K1 := hid_ k1
  have K2 := hid_ k2
  have HB := hid_ hb
  clear k1 k2 hb
  go_wp2_with fail
  go_loopw [7] (fun i wr => ∃ (j : Nat) (X : Option Addr) (q k : Nat), j ≤ n ∧ i = .int .i64 j ∧ (xs.take j).flatten.length = q ∧ Bx wr (w.heap.size + 1) 48 [.int .i64 h, .slice X q k, .slice none 0 0] ∧ Own intT wr w.heap.size (.slice X q k) (xs.take j).flatten ∧ q ≤ k ∧ (∀ b, (Value.slice X q k).ownBlock = some b → b ≠ w.heap.size) ∧ (∀ b, (Value.slice X q k).ownBlock = some b → b ≠ w.heap.size + 1) ∧ Bx wr w.heap.size 48 [.int .i64 0, .slice none 0 0, .slice none 0 0] ∧ Bel w wr) (fun i _ => n - (intOf i).toNat)
  case atStart => exact ⟨0, none, 0, 0, Nat.zero_le _, rfl, rfl, K2.out, Own.nil_ _ _ _, Nat.le_refl _, (fun b e => by cases e), (fun b e => by cases e), K1.out, HB.out⟩
  case round =>
    clear K1 K2 HB
    obtain ⟨j, X, q, k, hj, rfl, hq, ho, hO, hk, hx0, hx1, hR, hbr⟩ := hrel
    by_cases hjn : j < n
    · obtain ⟨ad, Y, m, cc, rfl, hox, d0⟩ := (h1.bel hbr).sv hjn
      obtain ⟨x, hxx, hr⟩ := (h2.bel hbr).at hox
      have hf := flat_take xs j hxx
      obtain ⟨q', hq'⟩ : ∃ q', (xs.take (j + 1)).flatten.length = q' := ⟨_, rfl⟩
      have hl1 := HFL.out (j + 1)
      rw [hq'] at hl1
      have hqm : q' = q + m := by rw [← hq', hf, List.length_append, hq, hr.1]
      have hsz : (((xs.take j).flatten).length + m) * 8 ≤ 140737488355328 := by rw [hq]; omega
      have e1 := ho.cell 1 rfl
      have HQ := hid_ hq'
      have HO := hid_ ho
      have HOO := hid_ hO
      have HX0 := hid_ hx0
      have HX1 := hid_ hx1
      have HRR := hid_ hR
      have HBR := hid_ hbr
      have HF := hid_ hf
      have HRX := hid_ hr
      have HSZ := hid_ hsz
      clear hqm hl1 hf hxx hr hox hq hq' ho hO hx0 hx1 hR hbr hsz hk
      go_wp2_with fail
      go_region_law (first | (refine stepApp (w0 := w) intS rfl _ _ rfl (.slice X q k) (xs.take j).flatten x Y m cc rfl rfl (HOO.out.bel (by first | exact Bel.refl _ | exact (Bel.refl _).drew)) (HRX.out.bel (by first | exact Bel.refl _ | exact (Bel.refl _).drew)) (HBR.out.trans (by first | exact Bel.refl _ | exact (Bel.refl _).drew)) HSZ.out ?_; intro v1 x1 hO1 hb1 hg1 hat1; rw [← HF.out] at hO1; obtain ⟨X1, d1, rfl, hc1, rr1⟩ := hO1.readsQ HQ.out; have k2 := hid_ ((HO.out.bel ((Bel.refl _).drew)).grown hg1 HX1.out); have l2 := hid_ ((HRR.out.bel ((Bel.refl _).drew)).grown hg1 HX0.out); have e5 := k2.out.cell 1 rfl; have fz := fun j => k2.out.frozen j))
      all_goals (
        have n0 := ownNe hat1 HX0.out HRR.out.lt
        have n1 := ownNe hat1 HX1.out HO.out.lt
        have k3 := k2.out.set 1 (.slice X1 q' d1)
        have l3 := l2.out.far (j := 1) (show w.heap.size ≠ w.heap.size + 1 by omega) (.slice X1 q' d1)
        have b3 := hb1.setBx (j := 1) (Nat.le_succ _) (.slice X1 q' d1)
        have o3 := hO1.kept_ (grownSet _ (w.heap.size + 1) 1 (.slice X1 q' d1)) (.inr (fun e => n1 _ e rfl))
        have K3 := hid_ k3
        have L3 := hid_ l3
        have B3 := hid_ b3
        have O3 := hid_ o3
        have N0 := hid_ n0
        have N1 := hid_ n1
        have HC := hid_ hc1
        clear k3 l3 b3 o3 n0 n1 hc1 rr1 hO1 hg1 hat1 hb1 k2 l2 e5 fz e1 d0
        go_wp2
        case roundEnd =>
          go_roundw
          case rel => exact ⟨j + 1, X1, q', d1, by omega, by go_num, HQ.out, K3.out, O3.out, HC.out, N0.out, N1.out, L3.out, B3.out⟩
          case measure => simp [intOf]; omega)
    · have hjn' : j = n := by omega
      subst hjn'
      have hfull : xs.take j = xs := by rw [← h1.1, h2.1, List.take_length]
      rw [hfull] at hO hq
      obtain ⟨A', c', e', hc', rx⟩ := hO.readsQ hq
      injection e' with e1 e2 e3
      subst e1 e3
      have hx : ∀ ad, X = some ad → ad.block ≠ w.heap.size := fun ad e => hx0 ad.block (by rw [e]; rfl)
      have e0 := ho.cell 0 rfl
      have e1 := ho.cell 1 rfl
      have e2 := ho.cell 2 rfl
      have HO := hid_ ho
      have HRR := hid_ hR
      have HBR := hid_ hbr
      have HX := hid_ hx
      have HK := hid_ hk
      have RX := hid_ rx
      clear hO hq hx0 hx1 hR hbr rx hx hc' ho hfull hk
      go_wp2_with fail
      refine (checkR_any h 4096 X none q k 0 0 xs.flatten [] _ RX.out (Row.none_ _ _ _)).mono ?_
      rintro e w2 ⟨rfl, b2⟩
      have kr := HRR.out.bel b2
      have ko := HO.out.bel b2
      have bw := HBR.out.trans b2
      have rx := RX.out.bel b2
      clear e0 e1 e2 HO HRR HBR RX b2
      have e0 := ko.cell 0 rfl
      have e1 := ko.cell 1 rfl
      have e2 := ko.cell 2 rfl
      have f0 := fun j => kr.frozen j
      have g0 := kr.cell 0 rfl
      have g1 := kr.cell 1 rfl
      have g2 := kr.cell 2 rfl
      have KR2 := hid_ kr
      have B2 := hid_ bw
      have R2 := hid_ rx
      clear kr ko bw rx
      obtain ⟨b, hbb⟩ : ∃ b, okP h 4096 xs.flatten [] = b := ⟨_, rfl⟩
      have HBB := hid_ hbb
      clear hbb
      cases b
      · have t1 : Hid (ofE h xs = 61) := ofE_0 HBB.out
        rw [chkP_no HBB.out]
        go_wp2_with fail
        have k9 := ((KR2.out.set 0 (.int .i64 0)).set 1 (.slice none 0 0)).set 2 (.slice none 0 0)
        have b9 := ((B2.out.setBx (j := 0) (Nat.le_refl _) (.int .i64 0)).setBx (j := 1) (Nat.le_refl _) (.slice none 0 0)).setBx (j := 2) (Nat.le_refl _) (.slice none 0 0)
        refine bodyPost_ret (results_ct rfl _ _ w.heap.size 48 _ (0, 0) _ rfl k9 Try.underlying48 rfl (by kernel_rfl)) rfl ?_
        rw [t1.out, ofH_0 HBB.out, ofF_0 HBB.out]
        exact ⟨_, rfl, ⟨none, 0, 0, none, 0, 0, rfl, Nat.le_refl _, Nat.le_refl _, Row.none_ _ _ _, Row.none_ _ _ _⟩, b9⟩
      · have t1 : Hid (ofE h xs = 0) := ofE_1 HBB.out
        rw [chkP_yes HBB.out]
        go_wp2_with fail
        have k9 := ((KR2.out.set 0 (.int .i64 h)).set 1 (.slice X q k)).set 2 (.slice none 0 0)
        have b9 := ((B2.out.setBx (j := 0) (Nat.le_refl _) (.int .i64 h)).setBx (j := 1) (Nat.le_refl _) (.slice X q k)).setBx (j := 2) (Nat.le_refl _) (.slice none 0 0)
        have r9 := ((R2.out.far (j := 0) (.int .i64 h) HX.out).far (j := 1) (.slice X q k) HX.out).far (j := 2) (.slice none 0 0) HX.out
        refine bodyPost_ret (results_ct rfl _ _ w.heap.size 48 _ (0, 0) _ rfl k9 Try.underlying48 rfl (by kernel_rfl)) rfl ?_
        rw [t1.out, ofH_1 HBB.out, ofF_1 HBB.out]
        exact ⟨_, rfl, ⟨X, q, k, none, 0, 0, rfl, HK.out, Nat.le_refl _, r9, Row.none_ _ _ _⟩, b9⟩
end Go.Proofs.Ytboaidjhhlidkaa
