/- The document's Turn. -/
import Derived.Test.YtboaidjhhlidkaaAl17
import Derived.Test.YtboaidjhhlidkaaAl8
import Derived.Deep.RegionWith
set_option linter.unusedSimpArgs false
set_option linter.unusedVariables false
namespace Go.Proofs.Ytboaidjhhlidkaa
open Go.RowKit
set_option maxRecDepth 10000 in
set_option maxHeartbeats 4000000 in
theorem turnR_any (h : Int) (A B : Option Addr) (n c m d : Nat) (F L : List Int) (w : World) (hA : Row intT w A n F) (hB : Row intT w B m L) (hs1 : n ≤ 40000) (hs2 : m ≤ 40000) :
    Calls Try.prog 39 #[.agg #[.int .i64 h, .slice A n c, .slice B m d]] w fun e w' => ∃ v, e = .returned v ∧ PoolV w' v h (turnP F L) [] ∧ Bel w w' := by
  go_enter Try.func39, Try.ntmps39
  have k0 : Bx ((w.alloc (.cells #[.int .i64 h, .slice A n c, .slice B m d] 48)).alloc (.cells #[.int .i64 0, .slice none 0 0, .slice none 0 0] 48)) w.heap.size 48 [.int .i64 h, .slice A n c, .slice B m d] := (Bx.new w _ _).alloc _
  have k1 : Bx ((w.alloc (.cells #[.int .i64 h, .slice A n c, .slice B m d] 48)).alloc (.cells #[.int .i64 0, .slice none 0 0, .slice none 0 0] 48)) (w.heap.size + 1) 48 [.int .i64 0, .slice none 0 0, .slice none 0 0] := by
    have := Bx.new (w.alloc (.cells #[.int .i64 h, .slice A n c, .slice B m d] 48)) 48 [.int .i64 0, .slice none 0 0, .slice none 0 0]
    rw [sizeAl] at this
    exact this
  have hb : Bel w ((w.alloc (.cells #[.int .i64 h, .slice A n c, .slice B m d] 48)).alloc (.cells #[.int .i64 0, .slice none 0 0, .slice none 0 0] 48)) := ((Bel.refl w).alloc _).alloc _
  have c0 := k0.cell 0 rfl
  have c1 := k0.cell 1 rfl
  have c2 := k0.cell 2 rfl
  have K0 := hid_ k0
  have K1 := hid_ k1
  clear k0 k1
  go_wp2_with fail
  refine (ownR_any h A B n c m d F L _ (hA.bel hb) (hB.bel hb) (by omega) (by omega)).mono ?_
  rintro e w1 ⟨v1, v2, rfl, o1, o2, b1⟩
  obtain ⟨X1, q1, rfl, hq1, r1, hx1⟩ := o1.rowAtB
  obtain ⟨Y, q2, rfl, hq2, r2, hy2⟩ := o2.rowAtB
  have k1' := K1.out.bel b1
  have hlt : w.heap.size + 1 < w1.heap.size := k1'.lt
  have HLT := hid_ hlt
  have hle : w.heap.size ≤ w1.heap.size := by omega
  have hx : ∀ ad, X1 = some ad → ad.block ≠ w1.heap.size ∧ ad.block ≠ w.heap.size + 1 := fun ad e => by have := hx1 ad e; rw [sizeAl, sizeAl] at this; omega
  have ko := Bx.new w1 48 [.int .i64 h, .slice X1 F.length q1, .slice Y L.length q2]
  have kr := k1'.alloc (.cells #[.int .i64 h, .slice X1 F.length q1, .slice Y L.length q2] 48)
  have kp := (K0.out.bel b1).alloc (.cells #[.int .i64 h, .slice X1 F.length q1, .slice Y L.length q2] 48)
  have bw := (hb.trans b1).alloc (.cells #[.int .i64 h, .slice X1 F.length q1, .slice Y L.length q2] 48)
  have rx := r1.bel ((Bel.refl w1).alloc (.cells #[.int .i64 h, .slice X1 F.length q1, .slice Y L.length q2] 48))
  have HKO := hid_ ko
  have HKR := hid_ kr
  have HKP := hid_ kp
  have HB := hid_ bw
  have HRX := hid_ rx
  have HX := hid_ hx
  have HLE := hid_ hle
  have HQ := hid_ hq1
  have f0 := fun j => ko.frozen j
  have e0 := ko.cell 0 rfl
  have e1 := ko.cell 1 rfl
  have e2 := ko.cell 2 rfl
  clear ko kr kp bw rx hx hle hlt hx1 hy2 r1 r2 o1 o2 b1 k1' c0 c1 c2 K0 K1 hb hq1 hq2
  go_wp2_with fail
  clear e0 e1 e2 f0
  go_loopw [4] (fun i wr => ∃ (j : Nat) (X : Option Addr) (k : Nat), j ≤ m ∧ i = .int .i64 j ∧ Bx wr w1.heap.size 48 [.int .i64 h, .slice X (F.length + j) k, .slice Y L.length q2] ∧ F.length + j ≤ k ∧ Row intT wr X (F.length + j) (turnP F (L.take j)) ∧ (∀ ad, X = some ad → ad.block ≠ w1.heap.size ∧ ad.block ≠ w.heap.size + 1) ∧ Bx wr (w.heap.size + 1) 48 [.int .i64 0, .slice none 0 0, .slice none 0 0] ∧ Bx wr w.heap.size 48 [.int .i64 h, .slice A n c, .slice B m d] ∧ Bel w wr) (fun i _ => m - (intOf i).toNat)
  case atStart => exact ⟨0, X1, q1, Nat.zero_le _, rfl, HKO.out, HQ.out, HRX.out, HX.out, HKR.out, HKP.out, HB.out⟩
  case round =>
    clear HKO HKR HKP HB HRX HX HQ
    obtain ⟨j, X, k, hj, rfl, ho, hk, hr, hx, hR, hP, hbr⟩ := hrel
    have LF : Hid (F.length = n) := hA.1
    by_cases hjm : j < m
    · obtain ⟨ad, x, rfl, hox, d0'⟩ := hB.int hjm
      have hlt0 := World.block_lt_of_cell? w _ d0'
      have d0 := hbr.cell_ d0'
      have hnd : w1.heap.size ≠ (ad.add j).block := by have := HLE.out; omega
      have hnp : w1.heap.size ≠ w.heap.size := by have := HLT.out; omega
      clear hlt0 d0'
      have hst := turnP_take F L j hox
      have p2 := hP.cell 2 rfl
      have e1 := ho.cell 1 rfl
      have HO := hid_ ho
      have HR := hid_ hr
      have HX := hid_ hx
      have HRR := hid_ hR
      have HPP := hid_ hP
      have HBR := hid_ hbr
      have HST := hid_ hst
      have HK := hid_ hk
      have hltG := hid_ ho.lt
      have hltR := hid_ hR.lt
      clear hst hox ho hr hx hR hbr hP hk
      go_wp2_with fail
      go_region_with (first | (go_at_call 66; refine' (laidR_any X (F.length + j) k (turnP F (L.take j)) x _ (HR.out.bel (by first | exact Bel.refl _ | exact (Bel.refl _).drew)) HK.out (by have := LF.out; omega)).mono ?_; rintro e w5 ⟨v5, rfl, o5, b⟩; have b5 : Bel wr w5 := Bel.trans (by first | exact Bel.refl _ | exact (Bel.refl _).drew) b; obtain ⟨Z, l, rfl, hl, rz, hz⟩ := o5.rowAt; have k2 := hid_ (HO.out.bel b5); have l2 := hid_ (HRR.out.bel b5); have m2 := hid_ (HPP.out.bel b5); have e5 := k2.out.cell 1 rfl; have fz := fun j => k2.out.frozen j))
      all_goals (
        have hlen : (laidP (turnP F (L.take j)) x).length = F.length + (j + 1) := by rw [laidP_len, HR.out.1]; omega
        rw [hlen] at hl rz ⊢
        have hz0 : ∀ ad, Z = some ad → ad.block ≠ w1.heap.size ∧ ad.block ≠ w.heap.size + 1 := fun ad e => by have := hz ad e; have h1 := hltG.out; have h2 := hltR.out; have h3 : wr.drew.heap.size = wr.heap.size := rfl; omega
        have bb := HBR.out.trans b5
        have k3 := k2.out.set 1 (.slice Z (F.length + (j + 1)) l)
        have l3 := l2.out.far (j := 1) (Nat.ne_of_lt HLT.out) (.slice Z (F.length + (j + 1)) l)
        have m3 := m2.out.far (j := 1) (Nat.ne_of_lt (Nat.lt_of_succ_lt HLT.out)) (.slice Z (F.length + (j + 1)) l)
        have b3 := bb.setBx (j := 1) HLE.out (.slice Z (F.length + (j + 1)) l)
        have r3 := rz.far (j := 1) (.slice Z (F.length + (j + 1)) l) (fun ad e => (hz0 ad e).1)
        have K3 := hid_ k3
        have L3 := hid_ l3
        have M3 := hid_ m3
        have B3 := hid_ b3
        have R3 := hid_ r3
        have HZ := hid_ hz0
        have HL := hid_ hl
        clear k3 l3 m3 b3 r3 hz0 k2 l2 m2 bb o5 rz hz hlen hl b5 b e5 fz e1 p2 d0
        go_wp2
        case roundEnd =>
          go_roundw
          case rel => exact ⟨j + 1, Z, l, by omega, by go_num, K3.out, HL.out, by rw [HST.out]; exact R3.out, HZ.out, L3.out, M3.out, B3.out⟩
          case measure => simp [intOf]; omega)
    · have hjm' : j = m := by omega
      subst hjm'
      have hfull : L.take j = L := by rw [← hB.1, List.take_length]
      rw [hfull] at hr
      have p2 := hP.cell 2 rfl
      have e0 := ho.cell 0 rfl
      have e1 := ho.cell 1 rfl
      have e2 := ho.cell 2 rfl
      have f0 := fun j => ho.frozen j
      have ho2 := ho.set 2 (.slice none 0 0)
      have hR2 := hR.far (j := 2) (Nat.ne_of_lt HLT.out) (.slice none 0 0)
      have z0 := ho2.cell 0 rfl
      have z1 := ho2.cell 1 rfl
      have z2 := ho2.cell 2 rfl
      have g0 := hR2.cell 0 rfl
      have g1 := hR2.cell 1 rfl
      have g2 := hR2.cell 2 rfl
      have f1 := fun j => hR2.frozen j
      have k9 := ((hR2.set 0 (.int .i64 h)).set 1 (.slice X (F.length + j) k)).set 2 (.slice none 0 0)
      have b9 := (((hbr.setBx (j := 2) HLE.out (.slice none 0 0)).setBx (j := 0) (Nat.le_succ _) (.int .i64 h)).setBx (j := 1) (Nat.le_succ _) (.slice X (F.length + j) k)).setBx (j := 2) (Nat.le_succ _) (.slice none 0 0)
      have r9 := (((hr.far (j := 2) (.slice none 0 0) (fun ad e => (hx ad e).1)).far (j := 0) (.int .i64 h) (fun ad e => (hx ad e).2)).far (j := 1) (.slice X (F.length + j) k) (fun ad e => (hx ad e).2)).far (j := 2) (.slice none 0 0) (fun ad e => (hx ad e).2)
      have K9 := hid_ k9
      have B9 := hid_ b9
      have R9 := hid_ r9
      have HK := hid_ hk
      clear k9 b9 r9 hr ho hR hx hbr hfull hk hP ho2 hR2
      go_wp2_with fail
      refine bodyPost_ret (results_c rfl _ _ (w.heap.size + 1) 48 _ (0, 0) _ rfl K9.out Try.underlying48 rfl (by kernel_rfl)) rfl ?_
      exact ⟨_, rfl, ⟨X, F.length + j, k, none, 0, 0, rfl, HK.out, Nat.le_refl _, R9.out, Row.none_ _ _ _⟩, B9.out⟩
end Go.Proofs.Ytboaidjhhlidkaa
