/- alloc.Turn. -/
import Derived.Test.YtboaidjhhlidkaaAl14
import Derived.Test.YtboaidjhhlidkaaAl18
set_option linter.unusedSimpArgs false
set_option linter.unusedVariables false
namespace Go.Proofs.Ytboaidjhhlidkaa
open Go.RowKit
def turnP (F L : List Int) : List Int := L.foldl laidP F
theorem turnP_len (F L : List Int) : (turnP F L).length = F.length + L.length := by
  induction L generalizing F with
  | nil => rfl
  | cons x L ih =>
    have h := ih (laidP F x)
    unfold turnP at h ⊢
    rw [List.foldl_cons, h, laidP_len, List.length_cons]
    omega
theorem turnP_take (F L : List Int) (k : Nat) {x : Int} (h : L[k]? = some x) : turnP F (L.take (k + 1)) = laidP (turnP F (L.take k)) x := by
  unfold turnP
  rw [List.take_add_one, h, List.foldl_append]
  rfl
set_option maxRecDepth 10000 in
set_option maxHeartbeats 4000000 in
theorem turn_any (h : Int) (A B : Option Addr) (n c m d : Nat) (F L : List Int) (w : World) (hA : Row intT w A n F) (hB : Row intT w B m L) (hs1 : n ≤ 40000) (hs2 : m ≤ 40000) :
    Calls Try.prog 38 #[.agg #[.int .i64 h, .slice A n c, .slice B m d]] w fun e w' => ∃ v, e = .returned v ∧ PoolV w' v h (turnP F L) [] ∧ Bel w w' := by
  go_enter Try.func38, Try.ntmps38
  go_wp2_with fail
  have k0 : Bx ((w.alloc (.cells #[.int .i64 h, .slice A n c, .slice B m d] 48)).alloc (.cells #[.int .i64 0, .slice none 0 0, .slice none 0 0] 48)) w.heap.size 48 [.int .i64 h, .slice A n c, .slice B m d] := (Bx.new w _ _).alloc _
  have k1 : Bx ((w.alloc (.cells #[.int .i64 h, .slice A n c, .slice B m d] 48)).alloc (.cells #[.int .i64 0, .slice none 0 0, .slice none 0 0] 48)) (w.heap.size + 1) 48 [.int .i64 0, .slice none 0 0, .slice none 0 0] := by
    have := Bx.new (w.alloc (.cells #[.int .i64 h, .slice A n c, .slice B m d] 48)) 48 [.int .i64 0, .slice none 0 0, .slice none 0 0]
    rw [sizeAl] at this
    exact this
  have hb : Bel w ((w.alloc (.cells #[.int .i64 h, .slice A n c, .slice B m d] 48)).alloc (.cells #[.int .i64 0, .slice none 0 0, .slice none 0 0] 48)) := ((Bel.refl w).alloc _).alloc _
  have hlt := k1.lt
  generalize (w.alloc (.cells #[.int .i64 h, .slice A n c, .slice B m d] 48)).alloc (.cells #[.int .i64 0, .slice none 0 0, .slice none 0 0] 48) = W0 at *
  have c0 := k0.cell 0 rfl
  have c1 := k0.cell 1 rfl
  have c2 := k0.cell 2 rfl
  have K0 := hid_ k0
  have K1 := hid_ k1
  have HLT := hid_ hlt
  clear k0 k1
  have rA := hA.bel hb
  have rB := hB.bel hb
  go_region_held3 (fun W => W.cell? ⟨w.heap.size, 0, none⟩ = some (.int .i64 h) ∧ W.cell? ⟨w.heap.size, 1, none⟩ = some (.slice A n c)) (first | exact ⟨c0, c1⟩ | (refine ⟨Bel.cell_ (w := W0) ?_ c0, Bel.cell_ (w := W0) ?_ c1⟩ <;> (repeat first | exact Bel.refl _ | exact b5 | apply Bel.drew | apply Bel.alloc) <;> done) | exact ⟨far3 (Nat.ne_of_gt (Nat.lt_of_succ_lt hlt)) (b5.cell_ c0), far3 (Nat.ne_of_gt (Nat.lt_of_succ_lt hlt)) (b5.cell_ c1)⟩)
    (first | (go_at_call 68; refine' (clone_any A n c F _ (rA.bel (by ((repeat first | exact Bel.refl _ | apply Bel.drew | apply Bel.alloc); done))) (by omega)).mono ?_; rintro e w5 ⟨v5, rfl, o5, b⟩; have b5 : Bel W0 w5 := Bel.trans (by ((repeat first | exact Bel.refl _ | apply Bel.drew | apply Bel.alloc); done)) b; have hs5 : w.heap.size + 1 < w5.heap.size := Nat.lt_of_lt_of_le hlt b5.size_; obtain ⟨X5, d5, rfl, hc5, r5, hx5⟩ := o5.rowAtB; have k9 := hid_ (Bx.bel (Bx.bel (Bx.new W0 48 [.int .i64 0, .slice none 0 0, .slice none 0 0]) ((Bel.refl _).drew)) b); have e0 := k9.out.cell 0 rfl; have e1 := k9.out.cell 1 rfl; have e2 := k9.out.cell 2 rfl; have fz := fun j => k9.out.frozen j) | (go_at_call 68; refine' (clone_any A n c F _ (rA.bel (by ((repeat first | exact Bel.refl _ | apply Bel.drew | apply Bel.alloc); done))) (by omega)).mono ?_; rintro e w5 ⟨v5, rfl, o5, b⟩; have b5 : Bel W0 w5 := Bel.trans (by ((repeat first | exact Bel.refl _ | apply Bel.drew | apply Bel.alloc); done)) b; have hs5 : w.heap.size + 1 < w5.heap.size := Nat.lt_of_lt_of_le hlt b5.size_; obtain ⟨X5, d5, rfl, hc5, r5, hx5⟩ := o5.rowAtB; have k9 := hid_ (Bx.new w5 48 [.int .i64 0, .slice none 0 0, .slice none 0 0]); have e0 := k9.out.cell 0 rfl; have e1 := k9.out.cell 1 rfl; have e2 := k9.out.cell 2 rfl; have fz := fun j => k9.out.frozen j))
  · have ko : Bx (w5.alloc (.cells #[.int .i64 h, .slice X5 F.length d5, .slice none 0 0] 48)) w5.heap.size 48 [.int .i64 h, .slice X5 F.length d5, .slice none 0 0] := Bx.new w5 _ _
    have kr := (K1.out.bel b5).alloc (.cells #[.int .i64 h, .slice X5 F.length d5, .slice none 0 0] 48)
    have kp := (K0.out.bel b5).alloc (.cells #[.int .i64 h, .slice X5 F.length d5, .slice none 0 0] 48)
    have bw := (hb.trans b5).alloc (.cells #[.int .i64 h, .slice X5 F.length d5, .slice none 0 0] 48)
    have rx := r5.bel ((Bel.refl w5).alloc (.cells #[.int .i64 h, .slice X5 F.length d5, .slice none 0 0] 48))
    have hgr : w.heap.size + 1 ≠ w5.heap.size := Nat.ne_of_lt hs5
    have hhg : w.heap.size ≤ w5.heap.size := Nat.le_of_succ_le (Nat.le_of_lt hs5)
    have HX : Hid (∀ ad, X5 = some ad → ad.block ≠ w5.heap.size ∧ ad.block ≠ w.heap.size + 1) := fun ad e => by have h1 := hx5 ad e; have h2 : W0.drew.heap.size = W0.heap.size := rfl; omega
    have hx5' : ∀ ad, X5 = some ad → ad.block ≠ w5.heap.size ∧ ad.block ≠ w.heap.size + 1 := fun ad e => HX.out ad e
    have z2 := kp.cell 2 rfl
    have HKO := hid_ ko
    have HKR := hid_ kr
    have HB := hid_ bw
    have HRX := hid_ rx
    have HX5 := hid_ hx5'
    have HGR := hid_ hgr
    have HHG := hid_ hhg
    clear kp ko kr bw rx hx5' hgr hhg b b5 hs5 o5 r5 hx5 k9 e0 e1 e2 fz c0 c1 c2 K0 K1 HLT rA rB hlt hb HX
    go_wp2_with fail
    clear z2
    go_loopw [5, 15] (fun _ i wr => ∃ (j : Nat) (X : Option Addr) (k : Nat), j ≤ m ∧ i = .int .i64 j ∧ Bx wr w5.heap.size 48 [.int .i64 h, .slice X (F.length + j) k, .slice none 0 0] ∧ F.length + j ≤ k ∧ Row intT wr X (F.length + j) (turnP F (L.take j)) ∧ (∀ ad, X = some ad → ad.block ≠ w5.heap.size ∧ ad.block ≠ w.heap.size + 1) ∧ Bx wr (w.heap.size + 1) 48 [.int .i64 0, .slice none 0 0, .slice none 0 0] ∧ Bel w wr) (fun _ i _ => m - (intOf i).toNat)
    case atStart => exact ⟨0, X5, d5, Nat.zero_le _, rfl, HKO.out, hc5, HRX.out, HX5.out, HKR.out, HB.out⟩
    case round =>
      obtain ⟨j, X, k, hj, rfl, ho, hk, hr, hx, hR, hbr⟩ := hrel
      have LF : Hid (F.length = n) := hA.1
      by_cases hjm : j < m
      · obtain ⟨ad, x, rfl, hox, d0⟩ := (hB.bel hbr).int hjm
        have hst := turnP_take F L j hox
        have e1 := ho.cell 1 rfl
        have HO := hid_ ho
        have HR := hid_ hr
        have HX := hid_ hx
        have HRR := hid_ hR
        have HBR := hid_ hbr
        have HST := hid_ hst
        have hltG := hid_ ho.lt
        have hltR := hid_ hR.lt
        clear hst hox ho hr hx hR hbr HKO HKR HB HRX HX5
        go_wp2_with fail
        refine (laid_any X (F.length + j) k (turnP F (L.take j)) x _ HR.out hk (by have := LF.out; omega)).mono ?_
        rintro e w2 ⟨v, rfl, o, b2⟩
        obtain ⟨Z, l, rfl, hl, rz, hz⟩ := o.rowAt
        have hlen : (laidP (turnP F (L.take j)) x).length = F.length + (j + 1) := by rw [laidP_len, HR.out.1]; omega
        rw [hlen] at hl rz ⊢
        have hz0 : ∀ ad, Z = some ad → ad.block ≠ w5.heap.size ∧ ad.block ≠ w.heap.size + 1 := fun ad e => by have := hz ad e; have h1 := hltG.out; have h2 := hltR.out; omega
        have k2 := HO.out.bel b2
        have l2 := HRR.out.bel b2
        have bb := HBR.out.trans b2
        clear e1
        have e1 := k2.cell 1 rfl
        have fz := fun j => k2.frozen j
        have k3 := k2.set 1 (.slice Z (F.length + (j + 1)) l)
        have l3 := l2.far (j := 1) HGR.out (.slice Z (F.length + (j + 1)) l)
        have b3 := bb.setBx (j := 1) HHG.out (.slice Z (F.length + (j + 1)) l)
        have r3 := rz.far (j := 1) (.slice Z (F.length + (j + 1)) l) (fun ad e => (hz0 ad e).1)
        have K3 := hid_ k3
        have L3 := hid_ l3
        have B3 := hid_ b3
        have R3 := hid_ r3
        have HZ := hid_ hz0
        have HL := hid_ hl
        clear k3 l3 b3 r3 hz0 k2 l2 bb o rz hz hlen hl
        go_wp2
        case roundEnd =>
          go_roundw
          case rel => exact ⟨j + 1, Z, l, by omega, by go_num, K3.out, HL.out, by rw [HST.out]; exact R3.out, HZ.out, L3.out, B3.out⟩
          case measure => simp [intOf]; omega
      · have hjm' : j = m := by omega
        subst hjm'
        have hfull : L.take j = L := by rw [← hB.1, List.take_length]
        rw [hfull] at hr
        have e0 := ho.cell 0 rfl
        have e1 := ho.cell 1 rfl
        have e2 := ho.cell 2 rfl
        have f0 := fun j => ho.frozen j
        have g0 := hR.cell 0 rfl
        have g1 := hR.cell 1 rfl
        have g2 := hR.cell 2 rfl
        have f1 := fun j => hR.frozen j
        have k9 := ((hR.set 0 (.int .i64 h)).set 1 (.slice X (F.length + j) k)).set 2 (.slice none 0 0)
        have b9 := ((hbr.setBx (j := 0) (Nat.le_succ _) (.int .i64 h)).setBx (j := 1) (Nat.le_succ _) (.slice X (F.length + j) k)).setBx (j := 2) (Nat.le_succ _) (.slice none 0 0)
        have r9 := ((hr.far (j := 0) (.int .i64 h) (fun ad e => (hx ad e).2)).far (j := 1) (.slice X (F.length + j) k) (fun ad e => (hx ad e).2)).far (j := 2) (.slice none 0 0) (fun ad e => (hx ad e).2)
        have K9 := hid_ k9
        have B9 := hid_ b9
        have R9 := hid_ r9
        have HK := hid_ hk
        clear k9 b9 r9 hr ho hR hx hbr hfull hk HKO HKR HB HRX HX5
        go_wp2_with fail
        refine bodyPost_ret (results_c rfl _ _ (w.heap.size + 1) 48 _ (0, 0) _ rfl K9.out Try.underlying48 rfl (by kernel_rfl)) rfl ?_
        exact ⟨_, rfl, ⟨X, F.length + j, k, none, 0, 0, rfl, HK.out, Nat.le_refl _, R9.out, Row.none_ _ _ _⟩, B9.out⟩
  · have ko := ((k9.out.set 0 (.int .i64 h)).set 1 (.slice X5 F.length d5)).set 2 (.slice none 0 0)
    have kr := (((K1.out.bel b5).far (j := 0) (Nat.ne_of_lt hlt) (.int .i64 h)).far (j := 1) (Nat.ne_of_lt hlt) (.slice X5 F.length d5)).far (j := 2) (Nat.ne_of_lt hlt) (.slice none 0 0)
    have hw0 : w.heap.size ≠ W0.heap.size := by omega
    have hle0 : w.heap.size ≤ W0.heap.size := by omega
    have HX : Hid (∀ ad, X5 = some ad → ad.block ≠ W0.heap.size ∧ ad.block ≠ w.heap.size + 1) := fun ad e => by have h1 := hx5 ad e; have h2 : (W0.alloc (.cells #[.int .i64 0, .slice none 0 0, .slice none 0 0] 48)).drew.heap.size = W0.heap.size + 1 := sizeAl _ _; omega
    have kp := (((K0.out.bel b5).far (j := 0) hw0 (.int .i64 h)).far (j := 1) hw0 (.slice X5 F.length d5)).far (j := 2) hw0 (.slice none 0 0)
    have bw := (((hb.trans b5).setBx (j := 0) hle0 (.int .i64 h)).setBx (j := 1) hle0 (.slice X5 F.length d5)).setBx (j := 2) hle0 (.slice none 0 0)
    have rx := ((r5.far (j := 0) (.int .i64 h) (fun ad e => (HX.out ad e).1)).far (j := 1) (.slice X5 F.length d5) (fun ad e => (HX.out ad e).1)).far (j := 2) (.slice none 0 0) (fun ad e => (HX.out ad e).1)
    have hgr : w.heap.size + 1 ≠ W0.heap.size := Nat.ne_of_lt hlt
    have hhg : w.heap.size ≤ W0.heap.size := hle0
    clear hw0 hle0
    generalize ((w5.setCell ⟨W0.heap.size, 0, none⟩ (.int .i64 h)).setCell ⟨W0.heap.size, 1, none⟩ (.slice X5 F.length d5)).setCell ⟨W0.heap.size, 2, none⟩ (.slice none 0 0) = Wx at *
    have hx5' : ∀ ad, X5 = some ad → ad.block ≠ W0.heap.size ∧ ad.block ≠ w.heap.size + 1 := fun ad e => HX.out ad e
    have z2 := kp.cell 2 rfl
    have HKO := hid_ ko
    have HKR := hid_ kr
    have HB := hid_ bw
    have HRX := hid_ rx
    have HX5 := hid_ hx5'
    have HGR := hid_ hgr
    have HHG := hid_ hhg
    clear kp ko kr bw rx hx5' hgr hhg b b5 hs5 o5 r5 hx5 k9 e0 e1 e2 fz c0 c1 c2 K0 K1 HLT rA rB hlt hb HX
    go_wp2_with fail
    clear z2
    go_loopw [5, 15] (fun _ i wr => ∃ (j : Nat) (X : Option Addr) (k : Nat), j ≤ m ∧ i = .int .i64 j ∧ Bx wr W0.heap.size 48 [.int .i64 h, .slice X (F.length + j) k, .slice none 0 0] ∧ F.length + j ≤ k ∧ Row intT wr X (F.length + j) (turnP F (L.take j)) ∧ (∀ ad, X = some ad → ad.block ≠ W0.heap.size ∧ ad.block ≠ w.heap.size + 1) ∧ Bx wr (w.heap.size + 1) 48 [.int .i64 0, .slice none 0 0, .slice none 0 0] ∧ Bel w wr) (fun _ i _ => m - (intOf i).toNat)
    case atStart => exact ⟨0, X5, d5, Nat.zero_le _, rfl, HKO.out, hc5, HRX.out, HX5.out, HKR.out, HB.out⟩
    case round =>
      obtain ⟨j, X, k, hj, rfl, ho, hk, hr, hx, hR, hbr⟩ := hrel
      have LF : Hid (F.length = n) := hA.1
      by_cases hjm : j < m
      · obtain ⟨ad, x, rfl, hox, d0⟩ := (hB.bel hbr).int hjm
        have hst := turnP_take F L j hox
        have e1 := ho.cell 1 rfl
        have HO := hid_ ho
        have HR := hid_ hr
        have HX := hid_ hx
        have HRR := hid_ hR
        have HBR := hid_ hbr
        have HST := hid_ hst
        have hltG := hid_ ho.lt
        have hltR := hid_ hR.lt
        clear hst hox ho hr hx hR hbr HKO HKR HB HRX HX5
        go_wp2_with fail
        refine (laid_any X (F.length + j) k (turnP F (L.take j)) x _ HR.out hk (by have := LF.out; omega)).mono ?_
        rintro e w2 ⟨v, rfl, o, b2⟩
        obtain ⟨Z, l, rfl, hl, rz, hz⟩ := o.rowAt
        have hlen : (laidP (turnP F (L.take j)) x).length = F.length + (j + 1) := by rw [laidP_len, HR.out.1]; omega
        rw [hlen] at hl rz ⊢
        have hz0 : ∀ ad, Z = some ad → ad.block ≠ W0.heap.size ∧ ad.block ≠ w.heap.size + 1 := fun ad e => by have := hz ad e; have h1 := hltG.out; have h2 := hltR.out; omega
        have k2 := HO.out.bel b2
        have l2 := HRR.out.bel b2
        have bb := HBR.out.trans b2
        clear e1
        have e1 := k2.cell 1 rfl
        have fz := fun j => k2.frozen j
        have k3 := k2.set 1 (.slice Z (F.length + (j + 1)) l)
        have l3 := l2.far (j := 1) HGR.out (.slice Z (F.length + (j + 1)) l)
        have b3 := bb.setBx (j := 1) HHG.out (.slice Z (F.length + (j + 1)) l)
        have r3 := rz.far (j := 1) (.slice Z (F.length + (j + 1)) l) (fun ad e => (hz0 ad e).1)
        have K3 := hid_ k3
        have L3 := hid_ l3
        have B3 := hid_ b3
        have R3 := hid_ r3
        have HZ := hid_ hz0
        have HL := hid_ hl
        clear k3 l3 b3 r3 hz0 k2 l2 bb o rz hz hlen hl
        go_wp2
        case roundEnd =>
          go_roundw
          case rel => exact ⟨j + 1, Z, l, by omega, by go_num, K3.out, HL.out, by rw [HST.out]; exact R3.out, HZ.out, L3.out, B3.out⟩
          case measure => simp [intOf]; omega
      · have hjm' : j = m := by omega
        subst hjm'
        have hfull : L.take j = L := by rw [← hB.1, List.take_length]
        rw [hfull] at hr
        have e0 := ho.cell 0 rfl
        have e1 := ho.cell 1 rfl
        have e2 := ho.cell 2 rfl
        have f0 := fun j => ho.frozen j
        have g0 := hR.cell 0 rfl
        have g1 := hR.cell 1 rfl
        have g2 := hR.cell 2 rfl
        have f1 := fun j => hR.frozen j
        have k9 := ((hR.set 0 (.int .i64 h)).set 1 (.slice X (F.length + j) k)).set 2 (.slice none 0 0)
        have b9 := ((hbr.setBx (j := 0) (Nat.le_succ _) (.int .i64 h)).setBx (j := 1) (Nat.le_succ _) (.slice X (F.length + j) k)).setBx (j := 2) (Nat.le_succ _) (.slice none 0 0)
        have r9 := ((hr.far (j := 0) (.int .i64 h) (fun ad e => (hx ad e).2)).far (j := 1) (.slice X (F.length + j) k) (fun ad e => (hx ad e).2)).far (j := 2) (.slice none 0 0) (fun ad e => (hx ad e).2)
        have K9 := hid_ k9
        have B9 := hid_ b9
        have R9 := hid_ r9
        have HK := hid_ hk
        clear k9 b9 r9 hr ho hR hx hbr hfull hk HKO HKR HB HRX HX5
        go_wp2_with fail
        refine bodyPost_ret (results_c rfl _ _ (w.heap.size + 1) 48 _ (0, 0) _ rfl K9.out Try.underlying48 rfl (by kernel_rfl)) rfl ?_
        exact ⟨_, rfl, ⟨X, F.length + j, k, none, 0, 0, rfl, HK.out, Nat.le_refl _, R9.out, Row.none_ _ _ _⟩, B9.out⟩
end Go.Proofs.Ytboaidjhhlidkaa
