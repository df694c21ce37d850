/- cambistref17.Gross, Zero, Legs. -/
import Derived.Test.YtnpinolhhnpniaaGreatNxP
import Derived.Test.YtnpinolhhnpniaaGreatBox
import Derived.Test.YtnpinolhhnpniaaGreatTyDue
import Derived.Test.YtnpinolhhnpniaaGreatAcR
import Derived.Deep.QuietTactic
import Derived.Deep.DeepCutAuto
import Derived.Test.YtnpinolhhnpniaaGreatNt3
import Derived.Test.YtnpinolhhnpniaaGreatRSum
import Derived.Deep.LoopGhost
set_option linter.unusedSimpArgs false
set_option linter.unusedVariables false
namespace Go.Proofs.YtnpinolhhnpniaaGreat
open Go.RowKit Go.Lib
set_option maxRecDepth 10000 in
set_option maxHeartbeats 4000000 in
theorem next17_true (A : Option Addr) (n c : Nat) (l : List Due) (q0 q1 : ByteArray) (w : World) (hA : Row dueT w A n l) :
    Calls Tryz.prog 50 #[.slice A n c, .string q0, .string q1, .bool true] w fun e w' => ∃ (r : Plc) (a : Int) (f : Bool), e = .returned (.tuple #[.agg #[.string r.who, .string r.asset, .int .i64 a], .bool f]) ∧ nfold true ⟨q0, q1⟩ l = (if f then some r else none) ∧ Bel w w' := by
  have h63 := hA.2.1
  have HL := hid_ hA.1
  have HA := hid_ hA
  obtain ⟨fin, hfin⟩ : ∃ r, nfold true ⟨q0, q1⟩ l = r := ⟨_, rfl⟩
  have HFIN := hid_ hfin
  rw [hfin]
  clear hA hfin
  go_enter Tryz.func50, Tryz.ntmps50
  have k8 : Bx ((w.alloc (.cells #[.string ⟨#[]⟩, .string ⟨#[]⟩, .int .i64 0] 39)).alloc (.cells #[.string ⟨#[]⟩, .string ⟨#[]⟩, .int .i64 0] 39)) w.heap.size 39 [.string ⟨#[]⟩, .string ⟨#[]⟩, .int .i64 0] := (Bx.new w _ _).alloc _
  have k10 := Bx.new (w.alloc (.cells #[.string ⟨#[]⟩, .string ⟨#[]⟩, .int .i64 0] 39)) 39 [.string ⟨#[]⟩, .string ⟨#[]⟩, .int .i64 0]
  rw [sizeAl] at k10
  have K8 := hid_ k8
  have K10 := hid_ k10
  have BW : Hid (Bel w ((w.alloc (.cells #[.string ⟨#[]⟩, .string ⟨#[]⟩, .int .i64 0] 39)).alloc (.cells #[.string ⟨#[]⟩, .string ⟨#[]⟩, .int .i64 0] 39))) := hid_ (((Bel.refl w).alloc _).alloc _)
  clear k8 k10
  go_wp2_with fail
  generalize (w.alloc (.cells #[.string ⟨#[]⟩, .string ⟨#[]⟩, .int .i64 0] 39)).alloc (.cells #[.string ⟨#[]⟩, .string ⟨#[]⟩, .int .i64 0] 39) = W0 at K8 K10 BW ⊢
  obtain ⟨g10, hg10⟩ : ∃ g, w.heap.size + 1 = g := ⟨_, rfl⟩
  rw [hg10] at K10 ⊢
  obtain ⟨g8, hg8⟩ : ∃ g, w.heap.size = g := ⟨_, rfl⟩
  rw [hg8] at K8 ⊢
  have HG : Hid (g8 < g10 ∧ w.heap.size ≤ g8) := hid_ (by omega)
  clear hg8 hg10
  go_loopw [11, 12, 13, 14] (fun f i _ _ wr => ∃ (j : Nat) (s : Option Plc) (p : Plc) (a : Int), j ≤ n ∧ i = .int .i64 j ∧ f = .bool s.isSome ∧ Hid (Bx wr g10 39 [.string p.who, .string p.asset, .int .i64 a]) ∧ Hid (Bx wr g8 39 [.string ⟨#[]⟩, .string ⟨#[]⟩, .int .i64 0]) ∧ Hid (s = none ∨ s = some p) ∧ Hid (nfold true ⟨q0, q1⟩ (l.take j) = s) ∧ Hid (Bel w wr)) (fun _ i _ _ _ => n - (intOf i).toNat)
  case atStart => exact ⟨0, none, emP, 0, Nat.zero_le _, rfl, rfl, K10, K8, hid_ (.inl rfl), hid_ rfl, BW⟩
  case round =>
    obtain ⟨j, s, p, a, hj, rfl, rfl, hK, h8, hS, hN, hB⟩ := hrel
    obtain ⟨p0, p1⟩ := p
    simp only at hK
    by_cases hjn : j < n
    · obtain ⟨ad, x0, x1, x2, rfl, ho, d0, d1, d2⟩ := (HA.out.bel hB.out).due hjn
      have HST := hid_ (nfold_step (st := true) (q := ⟨q0, q1⟩) ho)
      clear ho
      have i0 : (0 : Int) ≤ (j : Int) := by omega
      have i1 : (j : Int) < (n : Int) := by omega
      have b0 := hK.out.cell 0 rfl
      have b1 := hK.out.cell 1 rfl
      have b2 := hK.out.cell 2 rfl
      have fz0 := hK.out.frozen 0
      have fz1 := hK.out.frozen 1
      have fz2 := hK.out.frozen 2
      obtain ⟨bb, hbb⟩ : ∃ bb, behB true ⟨q0, q1⟩ ⟨x0, x1⟩ = bb := ⟨_, rfl⟩
      have HBB := hid_ hbb
      clear hbb
      rcases hS.out with hs | hs
      · subst hs
        go_upto_region 6 with (fail)
        go_quiet (fail)
        obtain ⟨W1, hW1, qW1⟩ : ∃ W, wr.drewN nq = W ∧ Bel wr W := ⟨_, rfl, (Bel.refl _).drewN _⟩
        rw [hW1]
        clear hW1
        have d0 := qW1.cell_ d0
        have d1 := qW1.cell_ d1
        have d2 := qW1.cell_ d2
        have b0 := qW1.cell_ b0
        have b1 := qW1.cell_ b1
        have b2 := qW1.cell_ b2
        have HB1 := hid_ (hB.out.trans qW1)
        have H81 := hid_ (h8.out.bel qW1)
        have HK1 := hid_ (hK.out.bel qW1)
        have fz0 := HK1.out.frozen 0
        have fz1 := HK1.out.frozen 1
        have fz2 := HK1.out.frozen 2
        clear hB h8 hK qW1
        go_upto_region 7 with (fail)
        go_quiet (fail)
        obtain ⟨W2, hW2, qW2⟩ : ∃ W, W1.drewN nq = W ∧ Bel W1 W := ⟨_, rfl, (Bel.refl _).drewN _⟩
        rw [hW2]
        clear hW2
        have d0 := qW2.cell_ d0
        have d1 := qW2.cell_ d1
        have d2 := qW2.cell_ d2
        have b0 := qW2.cell_ b0
        have b1 := qW2.cell_ b1
        have b2 := qW2.cell_ b2
        have HB2 := hid_ (HB1.out.trans qW2)
        have H82 := hid_ (H81.out.bel qW2)
        have HK2 := hid_ (HK1.out.bel qW2)
        have fz0 := HK2.out.frozen 0
        have fz1 := HK2.out.frozen 1
        have fz2 := HK2.out.frozen 2
        clear HB1 H81 HK1 qW2
        obtain rfl : bb = true := HBB.out.symm
        have HN2 : Hid (nfold true ⟨q0, q1⟩ (l.take (j + 1)) = some ⟨x0, x1⟩) := hid_ (by rw [HST.out, hN.out]; unfold nstep; rw [show behB true ⟨q0, q1⟩ (Due.plc ⟨x0, x1, x2⟩) = _ from HBB.out]; rfl)
        have kn : Bx (((W2.setCell ⟨g10, 0, none⟩ (.string x0)).setCell ⟨g10, 1, none⟩ (.string x1)).setCell ⟨g10, 2, none⟩ (.int .i64 x2)) g10 39 [.string x0, .string x1, .int .i64 x2] := ((HK2.out.set 0 (.string x0)).set 1 (.string x1)).set 2 (.int .i64 x2)
        have k8n : Bx (((W2.setCell ⟨g10, 0, none⟩ (.string x0)).setCell ⟨g10, 1, none⟩ (.string x1)).setCell ⟨g10, 2, none⟩ (.int .i64 x2)) g8 39 [.string ⟨#[]⟩, .string ⟨#[]⟩, .int .i64 0] := ((H82.out.far (Nat.ne_of_lt HG.out.1) _).far (Nat.ne_of_lt HG.out.1) _).far (Nat.ne_of_lt HG.out.1) _
        have hgw : w.heap.size ≤ g10 := by have := HG.out; omega
        have bn : Bel w (((W2.setCell ⟨g10, 0, none⟩ (.string x0)).setCell ⟨g10, 1, none⟩ (.string x1)).setCell ⟨g10, 2, none⟩ (.int .i64 x2)) := ((HB2.out.setBx hgw _).setBx hgw _).setBx hgw _
        have KN := hid_ kn
        have K8N := hid_ k8n
        have BN := hid_ bn
        clear hN HST HK2 H82 HB2 kn k8n bn hgw
        go_wp2
        case roundEnd =>
          go_roundw
          case rel => exact ⟨j + 1, some ⟨x0, x1⟩, ⟨x0, x1⟩, x2, by omega, by go_num, rfl, KN, K8N, hid_ (.inr rfl), HN2, BN⟩
          case measure => simp [intOf]; omega
      · subst hs
        obtain ⟨lb, hlb⟩ : ∃ lb, ltP ⟨x0, x1⟩ ⟨p0, p1⟩ = lb := ⟨_, rfl⟩
        have HLB := hid_ hlb
        clear hlb
        go_upto_region 6 with (fail)
        go_quiet (fail)
        obtain ⟨W1, hW1, qW1⟩ : ∃ W, wr.drewN nq = W ∧ Bel wr W := ⟨_, rfl, (Bel.refl _).drewN _⟩
        rw [hW1]
        clear hW1
        have d0 := qW1.cell_ d0
        have d1 := qW1.cell_ d1
        have d2 := qW1.cell_ d2
        have b0 := qW1.cell_ b0
        have b1 := qW1.cell_ b1
        have b2 := qW1.cell_ b2
        have HB1 := hid_ (hB.out.trans qW1)
        have H81 := hid_ (h8.out.bel qW1)
        have HK1 := hid_ (hK.out.bel qW1)
        have fz0 := HK1.out.frozen 0
        have fz1 := HK1.out.frozen 1
        have fz2 := HK1.out.frozen 2
        clear hB h8 hK qW1
        go_upto_region 7 with (fail)
        go_quiet ((go_at_call 60; exact Calls.quiet_of_same (before_same x0 x1 p0 p1 _)))
        rw [show ltP ⟨x0, x1⟩ ⟨p0, p1⟩ = lb from HLB.out]
        obtain ⟨W2, hW2, qW2⟩ : ∃ W, W1.drewN nq = W ∧ Bel W1 W := ⟨_, rfl, (Bel.refl _).drewN _⟩
        rw [hW2]
        clear hW2
        have d0 := qW2.cell_ d0
        have d1 := qW2.cell_ d1
        have d2 := qW2.cell_ d2
        have b0 := qW2.cell_ b0
        have b1 := qW2.cell_ b1
        have b2 := qW2.cell_ b2
        have HB2 := hid_ (HB1.out.trans qW2)
        have H82 := hid_ (H81.out.bel qW2)
        have HK2 := hid_ (HK1.out.bel qW2)
        have fz0 := HK2.out.frozen 0
        have fz1 := HK2.out.frozen 1
        have fz2 := HK2.out.frozen 2
        clear HB1 H81 HK1 qW2
        obtain rfl : bb = true := HBB.out.symm
        cases lb
        · skip
          have HN2 : Hid (nfold true ⟨q0, q1⟩ (l.take (j + 1)) = some ⟨p0, p1⟩) := hid_ (by rw [HST.out, hN.out]; unfold nstep; rw [show behB true ⟨q0, q1⟩ (Due.plc ⟨x0, x1, x2⟩) = _ from HBB.out]; show (if (true && ltP ⟨x0, x1⟩ ⟨p0, p1⟩) = true then some (⟨x0, x1⟩ : Plc) else some ⟨p0, p1⟩) = _; rw [HLB.out]; rfl)
          clear hN HST d0 d1 d2 b0 b1 b2 fz0 fz1 fz2
          go_wp2
          case roundEnd =>
            go_roundw
            case rel => exact ⟨j + 1, some ⟨p0, p1⟩, ⟨p0, p1⟩, a, by omega, by go_num, rfl, HK2, H82, hid_ (.inr rfl), HN2, HB2⟩
            case measure => simp [intOf]; omega
        · skip
          have HN2 : Hid (nfold true ⟨q0, q1⟩ (l.take (j + 1)) = some ⟨x0, x1⟩) := hid_ (by rw [HST.out, hN.out]; unfold nstep; rw [show behB true ⟨q0, q1⟩ (Due.plc ⟨x0, x1, x2⟩) = _ from HBB.out]; show (if (true && ltP ⟨x0, x1⟩ ⟨p0, p1⟩) = true then some (⟨x0, x1⟩ : Plc) else some ⟨p0, p1⟩) = _; rw [HLB.out]; rfl)
          have kn : Bx (((W2.setCell ⟨g10, 0, none⟩ (.string x0)).setCell ⟨g10, 1, none⟩ (.string x1)).setCell ⟨g10, 2, none⟩ (.int .i64 x2)) g10 39 [.string x0, .string x1, .int .i64 x2] := ((HK2.out.set 0 (.string x0)).set 1 (.string x1)).set 2 (.int .i64 x2)
          have k8n : Bx (((W2.setCell ⟨g10, 0, none⟩ (.string x0)).setCell ⟨g10, 1, none⟩ (.string x1)).setCell ⟨g10, 2, none⟩ (.int .i64 x2)) g8 39 [.string ⟨#[]⟩, .string ⟨#[]⟩, .int .i64 0] := ((H82.out.far (Nat.ne_of_lt HG.out.1) _).far (Nat.ne_of_lt HG.out.1) _).far (Nat.ne_of_lt HG.out.1) _
          have hgw : w.heap.size ≤ g10 := by have := HG.out; omega
          have bn : Bel w (((W2.setCell ⟨g10, 0, none⟩ (.string x0)).setCell ⟨g10, 1, none⟩ (.string x1)).setCell ⟨g10, 2, none⟩ (.int .i64 x2)) := ((HB2.out.setBx hgw _).setBx hgw _).setBx hgw _
          have KN := hid_ kn
          have K8N := hid_ k8n
          have BN := hid_ bn
          clear hN HST HK2 H82 HB2 kn k8n bn hgw
          go_wp2
          case roundEnd =>
            go_roundw
            case rel => exact ⟨j + 1, some ⟨x0, x1⟩, ⟨x0, x1⟩, x2, by omega, by go_num, rfl, KN, K8N, hid_ (.inr rfl), HN2, BN⟩
            case measure => simp [intOf]; omega
    · obtain rfl : n = j := by omega
      have HF : Hid (fin = s) := hid_ (by
        have h1 := hN.out
        rw [show l.take n = l from List.take_of_length_le (by rw [HL.out]; exact Nat.le_refl _), HFIN.out] at h1
        exact h1)
      have b0 := hK.out.cell 0 rfl
      have b1 := hK.out.cell 1 rfl
      have b2 := hK.out.cell 2 rfl
      have hne : g8 ≠ g10 := Nat.ne_of_lt HG.out.1
      have kn : Bx (((wr.setCell ⟨g8, 0, none⟩ (.string p0)).setCell ⟨g8, 1, none⟩ (.string p1)).setCell ⟨g8, 2, none⟩ (.int .i64 a)) g8 39 [.string p0, .string p1, .int .i64 a] := ((h8.out.set 0 (.string p0)).set 1 (.string p1)).set 2 (.int .i64 a)
      have bn : Bel w (((wr.setCell ⟨g8, 0, none⟩ (.string p0)).setCell ⟨g8, 1, none⟩ (.string p1)).setCell ⟨g8, 2, none⟩ (.int .i64 a)) := ((hB.out.setBx HG.out.2 _).setBx HG.out.2 _).setBx HG.out.2 _
      have KN := hid_ kn
      have BN := hid_ bn
      have e0 := h8.out.cell 0 rfl
      have e1 := h8.out.cell 1 rfl
      have e2 := h8.out.cell 2 rfl
      have fz0 := h8.out.frozen 0
      have fz1 := h8.out.frozen 1
      have fz2 := h8.out.frozen 2
      clear hB h8 hK kn bn hjn
      have HSF : Hid (fin = if s.isSome then some ⟨p0, p1⟩ else none) := hid_ (by rw [HF.out]; rcases hS.out with h | h <;> rw [h] <;> rfl)
      go_wp2
      refine bodyPost_ret (results_ct1 rfl _ _ g8 39 _ (0, 0) _ rfl KN.out Tryz.underlying39 rfl (by kernel_rfl)) rfl ?_
      exact ⟨⟨p0, p1⟩, a, s.isSome, rfl, HSF.out, BN.out⟩
set_option maxRecDepth 10000 in
set_option maxHeartbeats 4000000 in
theorem next17_false (A : Option Addr) (n c : Nat) (l : List Due) (q0 q1 : ByteArray) (w : World) (hA : Row dueT w A n l) :
    Calls Tryz.prog 50 #[.slice A n c, .string q0, .string q1, .bool false] w fun e w' => ∃ (r : Plc) (a : Int) (f : Bool), e = .returned (.tuple #[.agg #[.string r.who, .string r.asset, .int .i64 a], .bool f]) ∧ nfold false ⟨q0, q1⟩ l = (if f then some r else none) ∧ Bel w w' := by
  have h63 := hA.2.1
  have HL := hid_ hA.1
  have HA := hid_ hA
  obtain ⟨fin, hfin⟩ : ∃ r, nfold false ⟨q0, q1⟩ l = r := ⟨_, rfl⟩
  have HFIN := hid_ hfin
  rw [hfin]
  clear hA hfin
  go_enter Tryz.func50, Tryz.ntmps50
  have k8 : Bx ((w.alloc (.cells #[.string ⟨#[]⟩, .string ⟨#[]⟩, .int .i64 0] 39)).alloc (.cells #[.string ⟨#[]⟩, .string ⟨#[]⟩, .int .i64 0] 39)) w.heap.size 39 [.string ⟨#[]⟩, .string ⟨#[]⟩, .int .i64 0] := (Bx.new w _ _).alloc _
  have k10 := Bx.new (w.alloc (.cells #[.string ⟨#[]⟩, .string ⟨#[]⟩, .int .i64 0] 39)) 39 [.string ⟨#[]⟩, .string ⟨#[]⟩, .int .i64 0]
  rw [sizeAl] at k10
  have K8 := hid_ k8
  have K10 := hid_ k10
  have BW : Hid (Bel w ((w.alloc (.cells #[.string ⟨#[]⟩, .string ⟨#[]⟩, .int .i64 0] 39)).alloc (.cells #[.string ⟨#[]⟩, .string ⟨#[]⟩, .int .i64 0] 39))) := hid_ (((Bel.refl w).alloc _).alloc _)
  clear k8 k10
  go_wp2_with fail
  generalize (w.alloc (.cells #[.string ⟨#[]⟩, .string ⟨#[]⟩, .int .i64 0] 39)).alloc (.cells #[.string ⟨#[]⟩, .string ⟨#[]⟩, .int .i64 0] 39) = W0 at K8 K10 BW ⊢
  obtain ⟨g10, hg10⟩ : ∃ g, w.heap.size + 1 = g := ⟨_, rfl⟩
  rw [hg10] at K10 ⊢
  obtain ⟨g8, hg8⟩ : ∃ g, w.heap.size = g := ⟨_, rfl⟩
  rw [hg8] at K8 ⊢
  have HG : Hid (g8 < g10 ∧ w.heap.size ≤ g8) := hid_ (by omega)
  clear hg8 hg10
  go_loopw [11, 12, 13, 14] (fun f i _ _ wr => ∃ (j : Nat) (s : Option Plc) (p : Plc) (a : Int), j ≤ n ∧ i = .int .i64 j ∧ f = .bool s.isSome ∧ Hid (Bx wr g10 39 [.string p.who, .string p.asset, .int .i64 a]) ∧ Hid (Bx wr g8 39 [.string ⟨#[]⟩, .string ⟨#[]⟩, .int .i64 0]) ∧ Hid (s = none ∨ s = some p) ∧ Hid (nfold false ⟨q0, q1⟩ (l.take j) = s) ∧ Hid (Bel w wr)) (fun _ i _ _ _ => n - (intOf i).toNat)
  case atStart => exact ⟨0, none, emP, 0, Nat.zero_le _, rfl, rfl, K10, K8, hid_ (.inl rfl), hid_ rfl, BW⟩
  case round =>
    obtain ⟨j, s, p, a, hj, rfl, rfl, hK, h8, hS, hN, hB⟩ := hrel
    obtain ⟨p0, p1⟩ := p
    simp only at hK
    by_cases hjn : j < n
    · obtain ⟨ad, x0, x1, x2, rfl, ho, d0, d1, d2⟩ := (HA.out.bel hB.out).due hjn
      have HST := hid_ (nfold_step (st := false) (q := ⟨q0, q1⟩) ho)
      clear ho
      have i0 : (0 : Int) ≤ (j : Int) := by omega
      have i1 : (j : Int) < (n : Int) := by omega
      have b0 := hK.out.cell 0 rfl
      have b1 := hK.out.cell 1 rfl
      have b2 := hK.out.cell 2 rfl
      have fz0 := hK.out.frozen 0
      have fz1 := hK.out.frozen 1
      have fz2 := hK.out.frozen 2
      obtain ⟨bb, hbb⟩ : ∃ bb, behB false ⟨q0, q1⟩ ⟨x0, x1⟩ = bb := ⟨_, rfl⟩
      have HBB := hid_ hbb
      clear hbb
      rcases hS.out with hs | hs
      · subst hs
        go_upto_region 6 with (fail)
        go_quiet ((go_at_call 60; exact Calls.quiet_of_same (before_same q0 q1 x0 x1 _)))
        rw [show ltP ⟨q0, q1⟩ ⟨x0, x1⟩ = bb from HBB.out]
        obtain ⟨W1, hW1, qW1⟩ : ∃ W, wr.drewN nq = W ∧ Bel wr W := ⟨_, rfl, (Bel.refl _).drewN _⟩
        rw [hW1]
        clear hW1
        have d0 := qW1.cell_ d0
        have d1 := qW1.cell_ d1
        have d2 := qW1.cell_ d2
        have b0 := qW1.cell_ b0
        have b1 := qW1.cell_ b1
        have b2 := qW1.cell_ b2
        have HB1 := hid_ (hB.out.trans qW1)
        have H81 := hid_ (h8.out.bel qW1)
        have HK1 := hid_ (hK.out.bel qW1)
        have fz0 := HK1.out.frozen 0
        have fz1 := HK1.out.frozen 1
        have fz2 := HK1.out.frozen 2
        clear hB h8 hK qW1
        go_upto_region 7 with (fail)
        go_quiet (fail)
        obtain ⟨W2, hW2, qW2⟩ : ∃ W, W1.drewN nq = W ∧ Bel W1 W := ⟨_, rfl, (Bel.refl _).drewN _⟩
        rw [hW2]
        clear hW2
        have d0 := qW2.cell_ d0
        have d1 := qW2.cell_ d1
        have d2 := qW2.cell_ d2
        have b0 := qW2.cell_ b0
        have b1 := qW2.cell_ b1
        have b2 := qW2.cell_ b2
        have HB2 := hid_ (HB1.out.trans qW2)
        have H82 := hid_ (H81.out.bel qW2)
        have HK2 := hid_ (HK1.out.bel qW2)
        have fz0 := HK2.out.frozen 0
        have fz1 := HK2.out.frozen 1
        have fz2 := HK2.out.frozen 2
        clear HB1 H81 HK1 qW2
        cases bb
        · skip
          have HN2 : Hid (nfold false ⟨q0, q1⟩ (l.take (j + 1)) = none) := hid_ (by rw [HST.out, hN.out]; unfold nstep; rw [show behB false ⟨q0, q1⟩ (Due.plc ⟨x0, x1, x2⟩) = _ from HBB.out]; rfl)
          clear hN HST d0 d1 d2 b0 b1 b2 fz0 fz1 fz2
          go_wp2
          case roundEnd =>
            go_roundw
            case rel => exact ⟨j + 1, none, ⟨p0, p1⟩, a, by omega, by go_num, rfl, HK2, H82, hid_ (.inl rfl), HN2, HB2⟩
            case measure => simp [intOf]; omega
        · skip
          have HN2 : Hid (nfold false ⟨q0, q1⟩ (l.take (j + 1)) = some ⟨x0, x1⟩) := hid_ (by rw [HST.out, hN.out]; unfold nstep; rw [show behB false ⟨q0, q1⟩ (Due.plc ⟨x0, x1, x2⟩) = _ from HBB.out]; rfl)
          have kn : Bx (((W2.setCell ⟨g10, 0, none⟩ (.string x0)).setCell ⟨g10, 1, none⟩ (.string x1)).setCell ⟨g10, 2, none⟩ (.int .i64 x2)) g10 39 [.string x0, .string x1, .int .i64 x2] := ((HK2.out.set 0 (.string x0)).set 1 (.string x1)).set 2 (.int .i64 x2)
          have k8n : Bx (((W2.setCell ⟨g10, 0, none⟩ (.string x0)).setCell ⟨g10, 1, none⟩ (.string x1)).setCell ⟨g10, 2, none⟩ (.int .i64 x2)) g8 39 [.string ⟨#[]⟩, .string ⟨#[]⟩, .int .i64 0] := ((H82.out.far (Nat.ne_of_lt HG.out.1) _).far (Nat.ne_of_lt HG.out.1) _).far (Nat.ne_of_lt HG.out.1) _
          have hgw : w.heap.size ≤ g10 := by have := HG.out; omega
          have bn : Bel w (((W2.setCell ⟨g10, 0, none⟩ (.string x0)).setCell ⟨g10, 1, none⟩ (.string x1)).setCell ⟨g10, 2, none⟩ (.int .i64 x2)) := ((HB2.out.setBx hgw _).setBx hgw _).setBx hgw _
          have KN := hid_ kn
          have K8N := hid_ k8n
          have BN := hid_ bn
          clear hN HST HK2 H82 HB2 kn k8n bn hgw
          go_wp2
          case roundEnd =>
            go_roundw
            case rel => exact ⟨j + 1, some ⟨x0, x1⟩, ⟨x0, x1⟩, x2, by omega, by go_num, rfl, KN, K8N, hid_ (.inr rfl), HN2, BN⟩
            case measure => simp [intOf]; omega
      · subst hs
        obtain ⟨lb, hlb⟩ : ∃ lb, ltP ⟨x0, x1⟩ ⟨p0, p1⟩ = lb := ⟨_, rfl⟩
        have HLB := hid_ hlb
        clear hlb
        go_upto_region 6 with (fail)
        go_quiet ((go_at_call 60; exact Calls.quiet_of_same (before_same q0 q1 x0 x1 _)))
        rw [show ltP ⟨q0, q1⟩ ⟨x0, x1⟩ = bb from HBB.out]
        obtain ⟨W1, hW1, qW1⟩ : ∃ W, wr.drewN nq = W ∧ Bel wr W := ⟨_, rfl, (Bel.refl _).drewN _⟩
        rw [hW1]
        clear hW1
        have d0 := qW1.cell_ d0
        have d1 := qW1.cell_ d1
        have d2 := qW1.cell_ d2
        have b0 := qW1.cell_ b0
        have b1 := qW1.cell_ b1
        have b2 := qW1.cell_ b2
        have HB1 := hid_ (hB.out.trans qW1)
        have H81 := hid_ (h8.out.bel qW1)
        have HK1 := hid_ (hK.out.bel qW1)
        have fz0 := HK1.out.frozen 0
        have fz1 := HK1.out.frozen 1
        have fz2 := HK1.out.frozen 2
        clear hB h8 hK qW1
        go_upto_region 7 with (fail)
        go_quiet ((go_at_call 60; exact Calls.quiet_of_same (before_same x0 x1 p0 p1 _)))
        rw [show ltP ⟨x0, x1⟩ ⟨p0, p1⟩ = lb from HLB.out]
        obtain ⟨W2, hW2, qW2⟩ : ∃ W, W1.drewN nq = W ∧ Bel W1 W := ⟨_, rfl, (Bel.refl _).drewN _⟩
        rw [hW2]
        clear hW2
        have d0 := qW2.cell_ d0
        have d1 := qW2.cell_ d1
        have d2 := qW2.cell_ d2
        have b0 := qW2.cell_ b0
        have b1 := qW2.cell_ b1
        have b2 := qW2.cell_ b2
        have HB2 := hid_ (HB1.out.trans qW2)
        have H82 := hid_ (H81.out.bel qW2)
        have HK2 := hid_ (HK1.out.bel qW2)
        have fz0 := HK2.out.frozen 0
        have fz1 := HK2.out.frozen 1
        have fz2 := HK2.out.frozen 2
        clear HB1 H81 HK1 qW2
        cases bb
        · skip
          have HN2 : Hid (nfold false ⟨q0, q1⟩ (l.take (j + 1)) = some ⟨p0, p1⟩) := hid_ (by rw [HST.out, hN.out]; unfold nstep; rw [show behB false ⟨q0, q1⟩ (Due.plc ⟨x0, x1, x2⟩) = _ from HBB.out]; rfl)
          clear hN HST d0 d1 d2 b0 b1 b2 fz0 fz1 fz2
          go_wp2
          case roundEnd =>
            go_roundw
            case rel => exact ⟨j + 1, some ⟨p0, p1⟩, ⟨p0, p1⟩, a, by omega, by go_num, rfl, HK2, H82, hid_ (.inr rfl), HN2, HB2⟩
            case measure => simp [intOf]; omega
        · skip
          cases lb
          · skip
            have HN2 : Hid (nfold false ⟨q0, q1⟩ (l.take (j + 1)) = some ⟨p0, p1⟩) := hid_ (by rw [HST.out, hN.out]; unfold nstep; rw [show behB false ⟨q0, q1⟩ (Due.plc ⟨x0, x1, x2⟩) = _ from HBB.out]; show (if (true && ltP ⟨x0, x1⟩ ⟨p0, p1⟩) = true then some (⟨x0, x1⟩ : Plc) else some ⟨p0, p1⟩) = _; rw [HLB.out]; rfl)
            clear hN HST d0 d1 d2 b0 b1 b2 fz0 fz1 fz2
            go_wp2
            case roundEnd =>
              go_roundw
              case rel => exact ⟨j + 1, some ⟨p0, p1⟩, ⟨p0, p1⟩, a, by omega, by go_num, rfl, HK2, H82, hid_ (.inr rfl), HN2, HB2⟩
              case measure => simp [intOf]; omega
          · skip
            have HN2 : Hid (nfold false ⟨q0, q1⟩ (l.take (j + 1)) = some ⟨x0, x1⟩) := hid_ (by rw [HST.out, hN.out]; unfold nstep; rw [show behB false ⟨q0, q1⟩ (Due.plc ⟨x0, x1, x2⟩) = _ from HBB.out]; show (if (true && ltP ⟨x0, x1⟩ ⟨p0, p1⟩) = true then some (⟨x0, x1⟩ : Plc) else some ⟨p0, p1⟩) = _; rw [HLB.out]; rfl)
            have kn : Bx (((W2.setCell ⟨g10, 0, none⟩ (.string x0)).setCell ⟨g10, 1, none⟩ (.string x1)).setCell ⟨g10, 2, none⟩ (.int .i64 x2)) g10 39 [.string x0, .string x1, .int .i64 x2] := ((HK2.out.set 0 (.string x0)).set 1 (.string x1)).set 2 (.int .i64 x2)
            have k8n : Bx (((W2.setCell ⟨g10, 0, none⟩ (.string x0)).setCell ⟨g10, 1, none⟩ (.string x1)).setCell ⟨g10, 2, none⟩ (.int .i64 x2)) g8 39 [.string ⟨#[]⟩, .string ⟨#[]⟩, .int .i64 0] := ((H82.out.far (Nat.ne_of_lt HG.out.1) _).far (Nat.ne_of_lt HG.out.1) _).far (Nat.ne_of_lt HG.out.1) _
            have hgw : w.heap.size ≤ g10 := by have := HG.out; omega
            have bn : Bel w (((W2.setCell ⟨g10, 0, none⟩ (.string x0)).setCell ⟨g10, 1, none⟩ (.string x1)).setCell ⟨g10, 2, none⟩ (.int .i64 x2)) := ((HB2.out.setBx hgw _).setBx hgw _).setBx hgw _
            have KN := hid_ kn
            have K8N := hid_ k8n
            have BN := hid_ bn
            clear hN HST HK2 H82 HB2 kn k8n bn hgw
            go_wp2
            case roundEnd =>
              go_roundw
              case rel => exact ⟨j + 1, some ⟨x0, x1⟩, ⟨x0, x1⟩, x2, by omega, by go_num, rfl, KN, K8N, hid_ (.inr rfl), HN2, BN⟩
              case measure => simp [intOf]; omega
    · obtain rfl : n = j := by omega
      have HF : Hid (fin = s) := hid_ (by
        have h1 := hN.out
        rw [show l.take n = l from List.take_of_length_le (by rw [HL.out]; exact Nat.le_refl _), HFIN.out] at h1
        exact h1)
      have b0 := hK.out.cell 0 rfl
      have b1 := hK.out.cell 1 rfl
      have b2 := hK.out.cell 2 rfl
      have hne : g8 ≠ g10 := Nat.ne_of_lt HG.out.1
      have kn : Bx (((wr.setCell ⟨g8, 0, none⟩ (.string p0)).setCell ⟨g8, 1, none⟩ (.string p1)).setCell ⟨g8, 2, none⟩ (.int .i64 a)) g8 39 [.string p0, .string p1, .int .i64 a] := ((h8.out.set 0 (.string p0)).set 1 (.string p1)).set 2 (.int .i64 a)
      have bn : Bel w (((wr.setCell ⟨g8, 0, none⟩ (.string p0)).setCell ⟨g8, 1, none⟩ (.string p1)).setCell ⟨g8, 2, none⟩ (.int .i64 a)) := ((hB.out.setBx HG.out.2 _).setBx HG.out.2 _).setBx HG.out.2 _
      have KN := hid_ kn
      have BN := hid_ bn
      have e0 := h8.out.cell 0 rfl
      have e1 := h8.out.cell 1 rfl
      have e2 := h8.out.cell 2 rfl
      have fz0 := h8.out.frozen 0
      have fz1 := h8.out.frozen 1
      have fz2 := h8.out.frozen 2
      clear hB h8 hK kn bn hjn
      have HSF : Hid (fin = if s.isSome then some ⟨p0, p1⟩ else none) := hid_ (by rw [HF.out]; rcases hS.out with h | h <;> rw [h] <;> rfl)
      go_wp2
      refine bodyPost_ret (results_ct1 rfl _ _ g8 39 _ (0, 0) _ rfl KN.out Tryz.underlying39 rfl (by kernel_rfl)) rfl ?_
      exact ⟨⟨p0, p1⟩, a, s.isSome, rfl, HSF.out, BN.out⟩
end Go.Proofs.YtnpinolhhnpniaaGreat
set_option linter.unusedSimpArgs false
set_option linter.unusedVariables false
namespace Go.Proofs.YtnpinolhhnpniaaGreat
open Go.RowKit Go.Lib
theorem netF_done {l : List Due} (h : ∀ p ∈ dueP l, sumOk (amts l p) = true) : netE l = 0 ∧ netO l = netF l (dueP l) := by
  have hok : netOk l = true := List.all_eq_true.2 h
  refine ⟨netE_0 hok, ?_⟩
  unfold netO netF
  rw [if_pos hok]
  rfl
theorem Bx.grown1 {W w1 : World} {g : Nat} {t : TypeId} {vs : List Value} {row : Option Nat} (h : Bx W g t vs) (hg : W.grownBy w1 row) (hne : ∀ k, row = some k → k ≠ g) : Bx w1 g t vs :=
  (hg.block g h.lt (fun e => hne g e.symm rfl)).trans h
theorem Own.setNe {α : Type} {T : Ty α} {w : World} {base : Nat} {v : Value} {xs : List α} (h : Own T w base v xs) {g j : Nat} (u : Value) (hne : ∀ k, v.ownBlock = some k → k ≠ g) : Own T (w.setCell ⟨g, j, none⟩ u) base v xs :=
  h.kept_ (grownSet w g j u) (by
    cases hv : v.ownBlock with
    | none => exact .inl rfl
    | some k => exact .inr (fun e => hne k hv (by injection e)))
set_option maxRecDepth 10000 in
set_option maxHeartbeats 4000000 in
theorem netR_any (A : Option Addr) (n c : Nat) (l : List Due) (w : World) (hA : Row dueT w A n l) (hn : n ≤ 90000) (hz : ∀ x ∈ l, x.who.size ≤ 9223372036854775807 ∧ x.asset.size ≤ 9223372036854775807 ∧ i64w' x.amount) :
    Calls Tryz.prog 27 #[.slice A n c] w fun e w' => ∃ v, e = .returned (.tuple #[v, .int .i64 (netE l)]) ∧ Own dueT w' w.heap.size v (netO l) ∧ Bel w w' := by
  have hn63 := hA.2.1
  have HA := hid_ hA
  have HZ := hid_ hz
  have HN := hid_ hn
  have HL := hid_ hA.1
  obtain ⟨re, hre⟩ : ∃ r, netE l = r := ⟨_, rfl⟩
  obtain ⟨ro, hro⟩ : ∃ r, netO l = r := ⟨_, rfl⟩
  rw [hre, hro]
  have HR := hid_ (And.intro hre hro)
  have HI := hid_ (amts_i64 (legs := l) (fun x hx => (HZ.out x hx).2.2))
  have HAL : Hid (∀ p, (amts l p).length ≤ 1000000) := hid_ (fun p => Nat.le_trans (amts_len l p) (by rw [HL.out]; exact Nat.le_trans HN.out (by decide)))
  obtain ⟨P, hP⟩ : ∃ P, dueP l = P := ⟨_, rfl⟩
  have HP := hid_ hP
  have HPL : Hid (P.length ≤ 90000) := hid_ (by
    rw [← hP]
    have h4 := plcs_len (l.map Due.plc)
    rw [List.length_map, HL.out] at h4
    exact Nat.le_trans h4 HN.out)
  clear hA hz hn hre hro hP
  go_enter Tryz.func27, Tryz.ntmps27
  go_wp2_with fail
  refine (next17_true A n c l ⟨#[]⟩ ⟨#[]⟩ w HA.out).mono ?_
  rintro e v1 ⟨⟨r0, r1⟩, a, f, rfl, hN, b⟩
  have HN0 := hid_ (hN.symm.trans (nfold_start _ l))
  have HA1 := hid_ (HA.out.bel (b.alloc (.cells #[.string r0, .string r1, .int .i64 a] 39)))
  have HB1 := hid_ (b.alloc (.cells #[.string r0, .string r1, .int .i64 a] 39))
  have HK1 := hid_ (Bx.new v1 39 [.string r0, .string r1, .int .i64 a])
  have HG : Hid (w.heap.size ≤ v1.heap.size) := hid_ b.size_
  clear hN b
  go_wp2_with fail
  generalize v1.alloc (.cells #[.string r0, .string r1, .int .i64 a] 39) = W0 at HA1 HB1 HK1 ⊢
  generalize v1.heap.size = g5 at HK1 HG ⊢
  go_loopg [4, 6] (P.length) (fun k v f wr => ∃ (j : Nat) (r : Plc) (a : Int) (fb : Bool), j ≤ P.length ∧ k = P.length - j ∧ f = .bool fb ∧ Hid ((if fb then some r else none) = P[j]?) ∧ Hid (Bx wr g5 39 [.string r.who, .string r.asset, .int .i64 a]) ∧ Hid (Own dueT wr w.heap.size v (netF l (P.take j))) ∧ Hid (∀ k, v.ownBlock = some k → g5 < k) ∧ Hid (∀ p ∈ P.take j, sumOk (amts l p) = true) ∧ Hid (Bel w wr))
  case atStart => exact ⟨0, ⟨r0, r1⟩, a, f, Nat.zero_le _, rfl, rfl, hid_ (by rw [HN0.out, HP.out]), HK1, hid_ (Own.nil_ _ _ _), hid_ (fun k hk => by cases hk), hid_ (by simp), HB1⟩
  case round =>
    obtain ⟨j, ⟨r0, r1⟩, a, fb, hj, rfl, rfl, hF, hK, hO, hV, hS, hB⟩ := hrel
    cases fb
    · have HF2 : Hid (re = 0 ∧ ro = netF l (P.take j)) := hid_ (by
        have h1 : P[j]? = none := hF.out.symm
        rw [List.getElem?_eq_none_iff] at h1
        have h2 : P.take j = P := List.take_of_length_le h1
        have h3 := hS.out
        rw [h2, ← HP.out] at h3
        have h4 := netF_done h3
        rw [h2, ← HP.out, ← HR.out.1, ← HR.out.2]
        exact h4)
      clear hF hK hV hS
      go_wp2
      go_ret2
      exact ⟨_, by rw [HF2.out.1]; rfl, by rw [HF2.out.2]; exact hO.out, hB.out⟩
    · have HPJ : Hid (P[j]? = some ⟨r0, r1⟩) := hid_ hF.out.symm
      have HK : Hid (Bx wr g5 39 [.string r0, .string r1, .int .i64 a]) := hK
      have HA2 := hid_ (HA.out.bel hB.out)
      have HJ : Hid (j < P.length) := hid_ ((List.getElem?_eq_some_iff.1 HPJ.out).1)
      obtain ⟨W3, hW3⟩ : ∃ W3, wr = W3 := ⟨_, rfl⟩
      rw [hW3] at HK HA2 hO hB ⊢
      clear hF hK hj hW3
      have HA3 := HA2
      have HK3 := HK
      go_wp2_with fail
      go_loopw [7, 8] (fun v i wr => ∃ q : Nat, q ≤ n ∧ i = .int .i64 q ∧ Hid (Own i64T wr W3.heap.size v (amts (l.take q) ⟨r0, r1⟩)) ∧ Hid (Bel W3 wr)) (fun _ i _ => n - (intOf i).toNat)
      case atStart => exact ⟨0, Nat.zero_le _, rfl, hid_ (Own.nil_ _ _ _), hid_ (Bel.refl _)⟩
      case round =>
              obtain ⟨q, hq, rfl, hOq, hBq⟩ := hrel
              by_cases hqn : q < n
              · obtain ⟨adx, k0, k1, k2, rfl, hox, c0, c1, c2⟩ := (HA3.out.bel hBq.out).due hqn
                have HOX := hid_ (amts_step hox ⟨r0, r1⟩)
                have HK5 := hid_ (HK3.out.bel hBq.out)
                have zc0 := HK5.out.cell 0 rfl
                have zc1 := HK5.out.cell 1 rfl
                have i2 : (0 : Int) ≤ (q : Int) := by omega
                have i3 : (q : Int) < (n : Int) := by omega
                have HQQ := hid_ (And.intro hq hqn)
                clear hox hq hqn
                obtain ⟨e1, he1⟩ : ∃ e1, (k0.toList == r0.toList) = e1 := ⟨_, rfl⟩
                obtain ⟨e2, he2⟩ : ∃ e2, (k1.toList == r1.toList) = e2 := ⟨_, rfl⟩
                have h1 := he1
                have h2 := he2
                rw [bytesEq] at h1 h2
                have HEQ : Hid ((e1 && e2) = decide ((⟨k0, k1⟩ : Plc) = ⟨r0, r1⟩)) := hid_ (by rw [← h1, ← h2, ← Bool.decide_and]; simp only [Plc.mk.injEq])
                have HLN : Hid ((amts (l.take q) ⟨r0, r1⟩).length ≤ 90000) := hid_ (by
                  have a1 := amts_len (l.take q) ⟨r0, r1⟩
                  have a2 : (l.take q).length ≤ q := by rw [List.length_take]; omega
                  have a3 := HN.out
                  have a4 := HQQ.out
                  omega)
                clear h1 h2
                cases e1
                · have HN2 : Hid (amts (l.take (q + 1)) ⟨r0, r1⟩ = amts (l.take q) ⟨r0, r1⟩) := hid_ (by rw [HOX.out, if_neg (fun e => by have := HEQ.out; rw [decide_eq_true (show (⟨k0, k1⟩ : Plc) = ⟨r0, r1⟩ from e)] at this; cases this), List.append_nil])
                  go_upto_region 8 with (fail)
                  go_quiet (fail)
                  obtain ⟨W5, hW5, hb5⟩ : ∃ W5, wr.drewN nq = W5 ∧ Bel wr W5 := ⟨_, rfl, (Bel.refl wr).drewN _⟩
                  rw [hW5]
                  have O5 := hid_ (hOq.out.bel hb5)
                  have B5 := hid_ (hBq.out.trans hb5)
                  clear hW5 hb5 hOq hBq c0 c1 c2 zc0 zc1 he1 he2
                  go_wp2
                  case roundEnd =>
                    go_roundw
                    case rel => exact ⟨q + 1, HQQ.out.2, by go_num, hid_ (by rw [HN2.out]; exact O5.out), B5⟩
                    case measure => have := HQQ.out.2; simp [intOf]; omega
                · cases e2
                  · have HN2 : Hid (amts (l.take (q + 1)) ⟨r0, r1⟩ = amts (l.take q) ⟨r0, r1⟩) := hid_ (by rw [HOX.out, if_neg (fun e => by have := HEQ.out; rw [decide_eq_true (show (⟨k0, k1⟩ : Plc) = ⟨r0, r1⟩ from e)] at this; cases this), List.append_nil])
                    go_upto_region 8 with (fail)
                    go_quiet (fail)
                    obtain ⟨W5, hW5, hb5⟩ : ∃ W5, wr.drewN nq = W5 ∧ Bel wr W5 := ⟨_, rfl, (Bel.refl wr).drewN _⟩
                    rw [hW5]
                    have O5 := hid_ (hOq.out.bel hb5)
                    have B5 := hid_ (hBq.out.trans hb5)
                    clear hW5 hb5 hOq hBq c0 c1 c2 zc0 zc1 he1 he2
                    go_wp2
                    case roundEnd =>
                      go_roundw
                      case rel => exact ⟨q + 1, HQQ.out.2, by go_num, hid_ (by rw [HN2.out]; exact O5.out), B5⟩
                      case measure => have := HQQ.out.2; simp [intOf]; omega
                  · have HN2 : Hid (amts (l.take (q + 1)) ⟨r0, r1⟩ = amts (l.take q) ⟨r0, r1⟩ ++ [k2]) := hid_ (by rw [HOX.out, if_pos]; exact of_decide_eq_true HEQ.out.symm)
                    go_upto_region 8 with (fail)
                    go_quiet (fail)
                    obtain ⟨W5, hW5, hb5⟩ : ∃ W5, wr.drewN nq = W5 ∧ Bel wr W5 := ⟨_, rfl, (Bel.refl wr).drewN _⟩
                    rw [hW5]
                    have O5 := hid_ (hOq.out.bel hb5)
                    have B5 := hid_ (hBq.out.trans hb5)
                    have c2 := hb5.cell_ c2
                    clear hW5 hb5 hOq hBq c0 c1 zc0 zc1 he1 he2
                    go_wp2_with (at_builtin; refine wpApp (w0 := W3) i64S rfl _ _ rfl _ (amts (l.take q) ⟨r0, r1⟩) [k2] (some ⟨W5.heap.size, 0, none⟩) 1 1 rfl rfl (O5.out.alloc_ _) (Row.one (T := i64T) k2 rfl rfl) (B5.out.alloc _) (by have := HLN.out; omega) ?_; intro v1 x1 hO1 hb1 hg1 hat1)
                    case roundEnd =>
                      go_roundw
                      case rel => exact ⟨q + 1, HQQ.out.2, by go_num, hid_ (by rw [HN2.out]; exact hO1), hid_ hb1⟩
                      case measure => have := HQQ.out.2; simp [intOf]; omega
              · obtain rfl : n = q := by omega
                have hO2 := hOq.out
                rw [show l.take n = l from List.take_of_length_le (by rw [HL.out]; exact Nat.le_refl _)] at hO2
                have HO2 := hid_ hO2
                clear hOq hO2 hqn hq
                obtain ⟨Y, ky, rfl, hky, ry⟩ := HO2.out.reads
                have RY := hid_ ry
                clear hky ry HO2
                go_wp2_with fail
                refine (sumR_any Y _ ky (amts l ⟨r0, r1⟩) wr RY.out (HAL.out _) (HI.out _)).mono ?_
                rintro e W6 ⟨rfl, b6⟩
                have HB6 := hid_ (hBq.out.trans b6)
                clear b6 RY hBq
                have HK6 := hid_ (HK3.out.bel HB6.out)
                have HO6 := hid_ (hO.out.bel HB6.out)
                have HW6 := hid_ (hB.out.trans HB6.out)
                have HA6 := hid_ (HA2.out.bel HB6.out)
                clear HK3 hO hB HA2 HA3 HK
                obtain ⟨so, hso⟩ : ∃ so, sumOk (amts l ⟨r0, r1⟩) = so := ⟨_, rfl⟩
                obtain ⟨sm, hsm⟩ : ∃ sm, (amts l ⟨r0, r1⟩).sum = sm := ⟨_, rfl⟩
                have HSM := hid_ hsm
                cases so
                · have HF := hid_ (net_bad hso)
                  rw [show sumV (amts l ⟨r0, r1⟩) = 0 by unfold sumV; rw [hso]; rfl, show sumE (amts l ⟨r0, r1⟩) = 10 by unfold sumE; rw [hso]; rfl]
                  clear hso hsm HK6 HO6 hS
                  go_wp2
                  go_ret2
                  exact ⟨.slice none 0 0, by rw [← HR.out.1, HF.out.1]; rfl, by rw [← HR.out.2, HF.out.2]; exact Own.nil_ _ _ _, HW6.out⟩
                rw [show sumV (amts l ⟨r0, r1⟩) = sm by unfold sumV; rw [hso, if_pos rfl, hsm], show sumE (amts l ⟨r0, r1⟩) = 0 by unfold sumE; rw [hso]; rfl]
                have HTK : Hid (P.take (j + 1) = P.take j ++ [⟨r0, r1⟩]) := hid_ (by rw [List.take_add_one, HPJ.out]; rfl)
                have HS2 : Hid (∀ p ∈ P.take (j + 1), sumOk (amts l p) = true) := hid_ (fun p hp => by
                  rw [HTK.out] at hp
                  rcases List.mem_append.1 hp with hp | hp
                  · exact hS.out p hp
                  · simp at hp; subst hp; exact hso)
                have HFS := hid_ (netF_snoc l (P.take j) ⟨r0, r1⟩)
                have HNX : Hid (nfold false ⟨r0, r1⟩ l = P[j + 1]?) := hid_ (by rw [← HP.out]; exact nfold_next l (by rw [HP.out]; exact HPJ.out))
                clear hso hsm hS
                by_cases hz0 : sm = 0
                · have HN2 : Hid (netF l (P.take (j + 1)) = netF l (P.take j)) := hid_ (by rw [HTK.out, HFS.out, if_pos (by rw [HSM.out]; exact hz0), List.append_nil])
                  subst hz0
                  have q0 := HK6.out.cell 0 rfl
                  have q1 := HK6.out.cell 1 rfl
                  clear HFS HSM
                  go_wp2_with fail
                  refine (next17_false _ n c l r0 r1 W6 HA6.out).mono ?_
                  rintro e W7 ⟨⟨s0, s1⟩, b, f', rfl, hN, b7⟩
                  have HV7 := hid_ hV.out
                  have HO7 := hid_ (HO6.out.bel b7)
                  clear q0 q1
                  have HN7 := hid_ (hN.symm.trans HNX.out)
                  have HK7 := hid_ (HK6.out.bel b7)
                  have HW7 := hid_ (HW6.out.trans b7)
                  clear hN b7 HK6 HW6
                  have q0 := HK7.out.cell 0 rfl
                  have q1 := HK7.out.cell 1 rfl
                  have q2 := HK7.out.cell 2 rfl
                  have fz0 := HK7.out.frozen 0
                  have fz1 := HK7.out.frozen 1
                  have fz2 := HK7.out.frozen 2
                  have kn : Bx (((W7.setCell ⟨g5, 0, none⟩ (.string s0)).setCell ⟨g5, 1, none⟩ (.string s1)).setCell ⟨g5, 2, none⟩ (.int .i64 b)) g5 39 [.string s0, .string s1, .int .i64 b] := ((HK7.out.set 0 (.string s0)).set 1 (.string s1)).set 2 (.int .i64 b)
                  have bn : Bel w (((W7.setCell ⟨g5, 0, none⟩ (.string s0)).setCell ⟨g5, 1, none⟩ (.string s1)).setCell ⟨g5, 2, none⟩ (.int .i64 b)) := ((HW7.out.setBx HG.out _).setBx HG.out _).setBx HG.out _
                  have on := ((HO7.out.setNe (g := g5) (j := 0) (.string s0) (fun k e => by have := HV7.out k e; omega)).setNe (g := g5) (j := 1) (.string s1) (fun k e => by have := HV7.out k e; omega)).setNe (g := g5) (j := 2) (.int .i64 b) (fun k e => by have := HV7.out k e; omega)
                  have KN := hid_ kn
                  have BN := hid_ bn
                  have ON := hid_ on
                  clear kn bn on HK7 HW7 HO7
                  go_wp2
                  go_roundg (P.length - (j + 1))
                  case measure => have := HJ.out; omega
                  case rel => exact ⟨j + 1, ⟨s0, s1⟩, b, f', HJ.out, rfl, rfl, HN7, KN, hid_ (by rw [HN2.out]; exact ON.out), HV7, HS2, BN⟩
                · have HN2 : Hid (netF l (P.take (j + 1)) = netF l (P.take j) ++ [⟨r0, r1, sm⟩]) := hid_ (by rw [HTK.out, HFS.out, if_neg (by rw [HSM.out]; exact hz0)]; unfold netD; rw [HSM.out])
                  have j0 : (sm != 0) = true := by simp [hz0]
                  have q0 := HK6.out.cell 0 rfl
                  have q1 := HK6.out.cell 1 rfl
                  have HLN : Hid ((netF l (P.take j)).length ≤ 90000) := hid_ (by
                    have h1 := netF_len l (P.take j)
                    have h2 : (P.take j).length ≤ P.length := by rw [List.length_take]; omega
                    have h3 := HPL.out
                    omega)
                  clear HFS hz0 HSM
                  go_wp2_with (at_builtin; refine wpApp (w0 := w) dueS rfl _ _ rfl _ (netF l (P.take j)) [⟨r0, r1, sm⟩] (some ⟨W6.heap.size, 0, none⟩) 1 1 rfl rfl (HO6.out.alloc_ _) (Row.one (T := dueT) ⟨r0, r1, sm⟩ rfl rfl) (HW6.out.alloc _) (by have := HLN.out; omega) ?_; intro v1 x1 hO1 hb1 hg1 hat1; have HK8 := hid_ (Bx.grown1 (HK6.out.alloc (.cells #[.string r0, .string r1, .int .i64 sm] 39)) hg1 (fun k e e' => by have := hV.out k e; omega)); have q0 := HK8.out.cell 0 rfl; have q1 := HK8.out.cell 1 rfl)
                  refine (next17_false _ n c l r0 r1 x1 (HA.out.bel hb1)).mono ?_
                  rintro e W7 ⟨⟨s0, s1⟩, b, f', rfl, hN, b7⟩
                  have HV7 : Hid (∀ k, v1.ownBlock = some k → g5 < k) := hid_ (fun k hk => by
                    rcases hat1 with e | ⟨c1, e, hc1⟩
                    · exact hV.out k (e ▸ hk)
                    · rw [hk] at e
                      injection e with e
                      have h1 := HK6.out.lt
                      rw [sizeAl] at hc1
                      omega)
                  have HO7 : Hid (Own dueT W7 w.heap.size v1 (netF l (P.take (j + 1)))) := hid_ (by rw [HN2.out]; exact hO1.bel b7)
                  have HK6 := HK8
                  have HW6 := hid_ hb1
                  clear q0 q1 hO1 hb1 hg1 hat1
                  have HN7 := hid_ (hN.symm.trans HNX.out)
                  have HK7 := hid_ (HK6.out.bel b7)
                  have HW7 := hid_ (HW6.out.trans b7)
                  clear hN b7 HK6 HW6
                  have q0 := HK7.out.cell 0 rfl
                  have q1 := HK7.out.cell 1 rfl
                  have q2 := HK7.out.cell 2 rfl
                  have fz0 := HK7.out.frozen 0
                  have fz1 := HK7.out.frozen 1
                  have fz2 := HK7.out.frozen 2
                  have kn : Bx (((W7.setCell ⟨g5, 0, none⟩ (.string s0)).setCell ⟨g5, 1, none⟩ (.string s1)).setCell ⟨g5, 2, none⟩ (.int .i64 b)) g5 39 [.string s0, .string s1, .int .i64 b] := ((HK7.out.set 0 (.string s0)).set 1 (.string s1)).set 2 (.int .i64 b)
                  have bn : Bel w (((W7.setCell ⟨g5, 0, none⟩ (.string s0)).setCell ⟨g5, 1, none⟩ (.string s1)).setCell ⟨g5, 2, none⟩ (.int .i64 b)) := ((HW7.out.setBx HG.out _).setBx HG.out _).setBx HG.out _
                  have on := ((HO7.out.setNe (g := g5) (j := 0) (.string s0) (fun k e => by have := HV7.out k e; omega)).setNe (g := g5) (j := 1) (.string s1) (fun k e => by have := HV7.out k e; omega)).setNe (g := g5) (j := 2) (.int .i64 b) (fun k e => by have := HV7.out k e; omega)
                  have KN := hid_ kn
                  have BN := hid_ bn
                  have ON := hid_ on
                  clear kn bn on HK7 HW7 HO7
                  go_wp2
                  go_roundg (P.length - (j + 1))
                  case measure => have := HJ.out; omega
                  case rel => exact ⟨j + 1, ⟨s0, s1⟩, b, f', HJ.out, rfl, rfl, HN7, KN, ON, HV7, HS2, BN⟩
end Go.Proofs.YtnpinolhhnpniaaGreat
set_option linter.unusedSimpArgs false
set_option linter.unusedVariables false
namespace Go.Proofs.YtnpinolhhnpniaaGreat
open Go.RowKit Go.Lib
set_option maxRecDepth 10000 in
set_option maxHeartbeats 4000000 in
theorem grossR_any (A : Option Addr) (n c : Nat) (l : List Due) (w : World) (hA : Row dueT w A n l) (hn : n ≤ 90000) (hz : ∀ x ∈ l, x.who.size ≤ 9223372036854775807 ∧ x.asset.size ≤ 9223372036854775807 ∧ i64w' x.amount) :
    Calls Tryz.prog 21 #[.slice A n c] w fun e w' => ∃ v, e = .returned (.tuple #[v, .int .i64 (grossE l)]) ∧ Own dueT w' w.heap.size v (grossO l) ∧ Bel w w' := by
  have hn63 := hA.2.1
  have HA := hid_ hA
  have HZ := hid_ hz
  have HN := hid_ hn
  have HL := hid_ hA.1
  obtain ⟨re, hre⟩ : ∃ r, grossE l = r := ⟨_, rfl⟩
  obtain ⟨ro, hro⟩ : ∃ r, grossO l = r := ⟨_, rfl⟩
  rw [hre, hro]
  have HR := hid_ (And.intro hre hro)
  clear hA hz hn hre hro
  go_enter Tryz.func21, Tryz.ntmps21
  go_wp2_with fail
  go_loopw [4, 5] (fun v i wr => ∃ j : Nat, j ≤ n ∧ i = .int .i64 j ∧ Hid (Own dueT wr w.heap.size v (owedL (l.take j))) ∧ Hid (leastB (l.take j) = false) ∧ Hid (Bel w wr)) (fun _ i _ => n - (intOf i).toNat)
  case atStart => exact ⟨0, Nat.zero_le _, rfl, hid_ (Own.nil_ _ _ _), hid_ rfl, hid_ (Bel.refl _)⟩
  case round =>
    obtain ⟨j, hj, rfl, hO, hLs, hB⟩ := hrel
    by_cases hjn : j < n
    · obtain ⟨ad, g0, g1, g2, rfl, ho, z0, z1, z2⟩ := HA.out.due hjn
      have d0 := hB.out.cell_ z0
      have d1 := hB.out.cell_ z1
      have d2 := hB.out.cell_ z2
      have HST := hid_ (And.intro (owedL_step ho) (least_take ho))
      have HMM := hid_ (List.mem_of_getElem? ho)
      have HG := hid_ (HZ.out _ (List.mem_of_getElem? ho)).2.2
      clear ho
      have i0 : (0 : Int) ≤ (j : Int) := by omega
      have i1 : (j : Int) < (n : Int) := by omega
      by_cases hmin : g2 = -9223372036854775808
      · have HF := hid_ (least_at HMM.out hmin)
        subst hmin
        clear HST hO hLs
        go_wp2
        go_ret2
        exact ⟨.slice none 0 0, by rw [← HR.out.1, HF.out.1]; rfl, by rw [← HR.out.2, HF.out.2]; exact Own.nil_ _ _ _, hB.out⟩
      have dm : (g2 == (-9223372036854775808 : Int)) = false := by simp [hmin]
      by_cases hneg : g2 < 0
      · have HF : Hid (owedL (l.take (j + 1)) = owedL (l.take j) ++ [⟨g0, g1, -g2⟩] ∧ leastB (l.take (j + 1)) = false) := hid_ (by
          constructor
          · rw [HST.out.1, if_pos hneg]
          · rw [HST.out.2, hLs.out, decide_eq_false hmin]; rfl)
        have HNG : Hid (IntKind.i64.wrap (-g2) = -g2) := hid_ (by have h : i64w' g2 := HG.out; unfold i64w' at h; rw [IntKind.wrap_i64]; omega)
        have HSL : Hid (((owedL (l.take j)).length + 1) * 40 ≤ 140737488355328) := hid_ (by
          have h1 := owedL_len (l.take j)
          have h2 : (l.take j).length ≤ j := by rw [List.length_take]; omega
          have h3 := HN.out
          omega)
        clear HST hLs hmin
        go_upto_region 8 with (fail)
        obtain ⟨W0, hW0⟩ : ∃ W0, wr = W0 := ⟨_, rfl⟩
        rw [hW0] at hO hB d0 d1 d2 ⊢
        clear hW0 dm
        have HR1 : Hid (Row dueT (W0.alloc (.cells #[.string g0, .string g1, .int .i64 (IntKind.i64.wrap (-g2))] 39)) (some ⟨W0.heap.size, 0, none⟩) 1 [⟨g0, g1, IntKind.i64.wrap (-g2)⟩]) := hid_ (Row.one (T := dueT) ⟨g0, g1, IntKind.i64.wrap (-g2)⟩ rfl rfl)
        have hKP : ∀ W, Bel w W → (fun W => Bel w W ∧ W.cell? (ad.add (j * 3)) = some (.string g0) ∧ W.cell? ⟨(ad.add (j * 3)).block, (ad.add (j * 3)).off + 1, none⟩ = some (.string g1) ∧ W.cell? ⟨(ad.add (j * 3)).block, (ad.add (j * 3)).off + 2, none⟩ = some (.int .i64 g2)) W := fun W b => ⟨b, b.cell_ z0, b.cell_ z1, b.cell_ z2⟩
        have HKP := hid_ hKP
        have hBR := hB.out
        clear hKP
        go_region_held3 (fun W => Bel w W ∧ W.cell? (ad.add (j * 3)) = some (.string g0) ∧ W.cell? ⟨(ad.add (j * 3)).block, (ad.add (j * 3)).off + 1, none⟩ = some (.string g1) ∧ W.cell? ⟨(ad.add (j * 3)).block, (ad.add (j * 3)).off + 2, none⟩ = some (.int .i64 g2)) ((refine HKP.out _ ?_; repeat first | with_reducible exact hBR | with_reducible exact hb1 | with_reducible apply Bel.drew | with_reducible apply Bel.alloc))
          (first | (refine stepApp (w0 := w) dueS rfl _ _ rfl _ (owedL (l.take j)) [⟨g0, g1, IntKind.i64.wrap (-g2)⟩] (some ⟨W0.heap.size, 0, none⟩) 1 1 rfl rfl (hO.out.bel (by repeat first | with_reducible exact Bel.refl _ | with_reducible apply Bel.drew | with_reducible apply Bel.alloc)) (HR1.out.bel (by repeat first | with_reducible exact Bel.refl _ | with_reducible apply Bel.drew | with_reducible apply Bel.alloc)) (hB.out.trans (by repeat first | with_reducible exact Bel.refl _ | with_reducible apply Bel.drew | with_reducible apply Bel.alloc)) HSL.out ?_; intro v1 x1 hO1 hb1 hg1 hat1))
        all_goals (
          have HN1 : Hid (Own dueT x1 w.heap.size v1 (owedL (l.take (j + 1)))) := hid_ (by rw [HF.out.1]; rw [HNG.out] at hO1; exact hO1)
          have HB1 := hid_ hb1
          clear hO1 hb1 hg1 hat1 hO hB hBR HKP d0 d1 d2 z0 z1 z2
          go_wp2
          case roundEnd =>
            go_round
            case rel => exact ⟨j + 1, by omega, by go_num, HN1, hid_ HF.out.2, HB1⟩
            case measure => simp [intOf]; omega)
      · have HF : Hid (owedL (l.take (j + 1)) = owedL (l.take j) ∧ leastB (l.take (j + 1)) = false) := hid_ (by
          constructor
          · rw [HST.out.1, if_neg hneg, List.append_nil]
          · rw [HST.out.2, hLs.out, decide_eq_false hmin]; rfl)
        have dn : decide (g2 < 0) = false := decide_eq_false hneg
        clear HST hLs hmin
        go_wp2
        case roundEnd =>
          go_round
          case rel => exact ⟨j + 1, by omega, by go_num, hid_ (by rw [HF.out.1]; exact hO.out), hid_ HF.out.2, hB⟩
          case measure => simp [intOf]; omega
    · obtain rfl : n = j := by omega
      have hO2 := hO.out
      have hL2 := hLs.out
      rw [show l.take n = l from List.take_of_length_le (by rw [HL.out]; exact Nat.le_refl _)] at hO2 hL2
      have HF := hid_ (gross_not hL2)
      obtain ⟨X, k, rfl, hk, rx⟩ := hO2.reads
      have RX := hid_ rx
      have HZO : Hid (∀ x ∈ owedL l, x.who.size ≤ 9223372036854775807 ∧ x.asset.size ≤ 9223372036854775807 ∧ i64w' x.amount) := hid_ (by
        intro x hx
        obtain ⟨y, hy, hn, rfl⟩ := owed_mem hx
        have h1 := HZ.out y hy
        have h2 := h1.2.2
        have h3 : ¬ y.amount = -9223372036854775808 := fun e => by
          have : leastB l = true := List.any_eq_true.2 ⟨y, hy, by simpa using e⟩
          rw [hL2] at this
          cases this
        unfold i64w' at h2 ⊢
        exact ⟨h1.1, h1.2.1, by show _ ≤ -y.amount ∧ -y.amount ≤ _; omega⟩)
      clear hO hO2 hLs hL2 hk rx hjn hj
      go_wp2_with fail
      refine (netR_any X _ k (owedL l) wr RX.out (by have h1 := owedL_len l; rw [HL.out] at h1; exact Nat.le_trans h1 HN.out) HZO.out).mono ?_
      rintro e w2 ⟨v, rfl, o, b⟩
      have HO := hid_ (o.mono_ hB.out.size_)
      have HB2 := hid_ (hB.out.trans b)
      clear o b RX hB
      go_wp2
      go_ret2
      exact ⟨v, by rw [← HR.out.1, HF.out.1]; rfl, by rw [← HR.out.2, HF.out.2]; exact HO.out, HB2.out⟩
set_option maxRecDepth 10000 in
set_option maxHeartbeats 4000000 in
theorem legsR_any (A : Option Addr) (n c : Nat) (l : List Due) (w : World) (hA : Row dueT w A n l) (hn : n ≤ 90000) :
    Calls Tryz.prog 28 #[.slice A n c] w fun e w' => ∃ v, e = .returned v ∧ Own legT w' w.heap.size v l ∧ Bel w w' := by
  have hn63 := hA.2.1
  have HA := hid_ hA
  have HN := hid_ hn
  have HL := hid_ hA.1
  clear hA hn
  go_enter Tryz.func28, Tryz.ntmps28
  go_wp2_with fail
  go_loopw [3, 4] (fun v i wr => ∃ j : Nat, j ≤ n ∧ i = .int .i64 j ∧ Hid (Own legT wr w.heap.size v (l.take j)) ∧ Hid (Bel w wr)) (fun _ i _ => n - (intOf i).toNat)
  case atStart => exact ⟨0, Nat.zero_le _, rfl, hid_ (Own.nil_ _ _ _), hid_ (Bel.refl _)⟩
  case round =>
    obtain ⟨j, hj, rfl, hO, hB⟩ := hrel
    by_cases hjn : j < n
    · obtain ⟨ad, g0, g1, g2, rfl, ho, z0, z1, z2⟩ := HA.out.due hjn
      have d0 := hB.out.cell_ z0
      have d1 := hB.out.cell_ z1
      have d2 := hB.out.cell_ z2
      have HST : Hid (l.take (j + 1) = l.take j ++ [⟨g0, g1, g2⟩]) := hid_ (by rw [List.take_add_one, ho]; rfl)
      clear ho
      have i0 : (0 : Int) ≤ (j : Int) := by omega
      have i1 : (j : Int) < (n : Int) := by omega
      have HSL : Hid (((l.take j).length + 1) * 40 ≤ 140737488355328) := hid_ (by
        have h2 : (l.take j).length ≤ j := by rw [List.length_take]; omega
        have h3 := HN.out
        omega)
      go_upto_region 5 with (fail)
      obtain ⟨W0, hW0⟩ : ∃ W0, wr = W0 := ⟨_, rfl⟩
      rw [hW0] at hO hB d0 d1 d2 ⊢
      clear hW0
      have HR1 : Hid (Row legT (W0.alloc (.cells #[.string g0, .string g1, .int .i64 g2] 52)) (some ⟨W0.heap.size, 0, none⟩) 1 [⟨g0, g1, g2⟩]) := hid_ (Row.one (T := legT) ⟨g0, g1, g2⟩ rfl rfl)
      have hKP : ∀ W, Bel w W → (fun W => Bel w W ∧ W.cell? (ad.add (j * 3)) = some (.string g0) ∧ W.cell? ⟨(ad.add (j * 3)).block, (ad.add (j * 3)).off + 1, none⟩ = some (.string g1) ∧ W.cell? ⟨(ad.add (j * 3)).block, (ad.add (j * 3)).off + 2, none⟩ = some (.int .i64 g2)) W := fun W b => ⟨b, b.cell_ z0, b.cell_ z1, b.cell_ z2⟩
      have HKP := hid_ hKP
      have hBR := hB.out
      clear hKP
      go_region_held3 (fun W => Bel w W ∧ W.cell? (ad.add (j * 3)) = some (.string g0) ∧ W.cell? ⟨(ad.add (j * 3)).block, (ad.add (j * 3)).off + 1, none⟩ = some (.string g1) ∧ W.cell? ⟨(ad.add (j * 3)).block, (ad.add (j * 3)).off + 2, none⟩ = some (.int .i64 g2)) ((refine HKP.out _ ?_; repeat first | with_reducible exact hBR | with_reducible exact hb1 | with_reducible apply Bel.drew | with_reducible apply Bel.alloc))
        (first | (refine stepApp (w0 := w) legS rfl _ _ rfl _ (l.take j) [⟨g0, g1, g2⟩] (some ⟨W0.heap.size, 0, none⟩) 1 1 rfl rfl (hO.out.bel (by repeat first | with_reducible exact Bel.refl _ | with_reducible apply Bel.drew | with_reducible apply Bel.alloc)) (HR1.out.bel (by repeat first | with_reducible exact Bel.refl _ | with_reducible apply Bel.drew | with_reducible apply Bel.alloc)) (hB.out.trans (by repeat first | with_reducible exact Bel.refl _ | with_reducible apply Bel.drew | with_reducible apply Bel.alloc)) HSL.out ?_; intro v1 x1 hO1 hb1 hg1 hat1))
      all_goals (
        have HN1 : Hid (Own legT x1 w.heap.size v1 (l.take (j + 1))) := hid_ (by rw [HST.out]; exact hO1)
        have HB1 := hid_ hb1
        clear hO1 hb1 hg1 hat1 hO hB hBR HKP d0 d1 d2 z0 z1 z2
        go_wp2
        case roundEnd =>
          go_round
          case rel => exact ⟨j + 1, by omega, by go_num, HN1, HB1⟩
          case measure => simp [intOf]; omega)
    · obtain rfl : n = j := by omega
      have hO2 := hO.out
      rw [show l.take n = l from List.take_of_length_le (by rw [HL.out]; exact Nat.le_refl _)] at hO2
      have HO := hid_ hO2
      clear hO hO2 hjn hj
      go_wp2
      go_ret
      exact ⟨_, rfl, HO.out, hB.out⟩
set_option maxRecDepth 10000 in
set_option maxHeartbeats 4000000 in
theorem zeroR_any (A : Option Addr) (n c : Nat) (l : List Due) (w : World) (hA : Row dueT w A n l) (hn : n ≤ 90000) (hz : ∀ x ∈ l, x.who.size ≤ 9223372036854775807 ∧ x.asset.size ≤ 9223372036854775807 ∧ i64w' x.amount) :
    Calls Tryz.prog 26 #[.slice A n c] w fun e w' => e = .returned (.bool (zeroB l)) ∧ Bel w w' := by
  have hn63 := hA.2.1
  have HA := hid_ hA
  have HZ := hid_ hz
  have HN := hid_ hn
  have HL := hid_ hA.1
  have HI := hid_ (assL_i64 (legs := l) (fun x hx => (HZ.out x hx).2.2))
  have HAL : Hid (∀ p, (assL l p).length ≤ 1000000) := hid_ (fun p => Nat.le_trans (assL_len l p) (by rw [HL.out]; exact Nat.le_trans HN.out (by decide)))
  obtain ⟨re, hre⟩ : ∃ r, zeroB l = r := ⟨_, rfl⟩
  rw [hre]
  have HR := hid_ hre
  clear hA hz hn hre
  go_enter Tryz.func26, Tryz.ntmps26
  go_wp2_with fail
  go_loopw [3, 4, 5, 6, 7] (fun i _ _ _ _ wr => ∃ j : Nat, j ≤ n ∧ i = .int .i64 j ∧ Hid (∀ d ∈ l.take j, (assL l d.asset).sum = 0) ∧ Hid (Bel w wr)) (fun i _ _ _ _ _ => n - (intOf i).toNat)
  case atStart => exact ⟨0, Nat.zero_le _, rfl, hid_ (by simp), hid_ (Bel.refl _)⟩
  case round =>
    obtain ⟨j, hj, rfl, hS, hB⟩ := hrel
    by_cases hjn : j < n
    · obtain ⟨ad, g0, g1, g2, rfl, ho, d0, d1, d2⟩ := (HA.out.bel hB.out).due hjn
      have HTK : Hid (l.take (j + 1) = l.take j ++ [⟨g0, g1, g2⟩]) := hid_ (by rw [List.take_add_one, ho]; rfl)
      clear ho
      obtain ⟨W3, hW3⟩ : ∃ W3, wr = W3 := ⟨_, rfl⟩
      rw [hW3] at hB d1 ⊢
      clear hW3 d0 d2
      have HD := hid_ d1
      have HA3 := hid_ (HA.out.bel hB.out)
      have HJ := hid_ (And.intro hj hjn)
      have i0 : (0 : Int) ≤ (j : Int) := by omega
      have i1 : (j : Int) < (n : Int) := by omega
      clear d1
      go_wp2_with fail
      go_loopw [4, 5] (fun v i wr => ∃ q : Nat, q ≤ n ∧ i = .int .i64 q ∧ Hid (Own i64T wr W3.heap.size v (assL (l.take q) g1)) ∧ Hid (Bel W3 wr)) (fun _ i _ => n - (intOf i).toNat)
      case atStart => exact ⟨0, Nat.zero_le _, rfl, hid_ (Own.nil_ _ _ _), hid_ (Bel.refl _)⟩
      case round =>
        obtain ⟨q, hq, rfl, hOq, hBq⟩ := hrel
        by_cases hqn : q < n
        · obtain ⟨adx, k0, k1, k2, ex, hox, c0, c1, c2⟩ := (HA3.out.bel hBq.out).due hqn
          cases ex
          have HOX := hid_ (assL_step hox g1)
          have zc := hBq.out.cell_ HD.out
          have i2 : (0 : Int) ≤ (q : Int) := by omega
          have i3 : (q : Int) < (n : Int) := by omega
          have HQQ := hid_ (And.intro hq hqn)
          clear hox hq hqn c0
          obtain ⟨e1, he1⟩ : ∃ e1, (k1.toList == g1.toList) = e1 := ⟨_, rfl⟩
          have h1 := he1
          rw [bytesEq] at h1
          have HEQ := hid_ h1
          have HLN : Hid ((assL (l.take q) g1).length ≤ 90000) := hid_ (by
            have a1 := assL_len (l.take q) g1
            have a2 : (l.take q).length ≤ q := by rw [List.length_take]; omega
            have a3 := HN.out
            have a4 := HQQ.out
            omega)
          clear h1
          cases e1
          · have HN2 : Hid (assL (l.take (q + 1)) g1 = assL (l.take q) g1) := hid_ (by rw [HOX.out, if_neg (of_decide_eq_false HEQ.out), List.append_nil])
            go_upto_region 8 with (fail)
            go_quiet (fail)
            obtain ⟨W5, hW5, hb5⟩ : ∃ W5, wr.drewN nq = W5 ∧ Bel wr W5 := ⟨_, rfl, (Bel.refl wr).drewN _⟩
            rw [hW5]
            have O5 := hid_ (hOq.out.bel hb5)
            have B5 := hid_ (hBq.out.trans hb5)
            clear hW5 hb5 hOq hBq c1 c2 zc he1
            go_wp2
            case roundEnd =>
              go_roundw
              case rel => exact ⟨q + 1, HQQ.out.2, by go_num, hid_ (by rw [HN2.out]; exact O5.out), B5⟩
              case measure => have := HQQ.out.2; simp [intOf]; omega
          · have HN2 : Hid (assL (l.take (q + 1)) g1 = assL (l.take q) g1 ++ [k2]) := hid_ (by rw [HOX.out, if_pos (of_decide_eq_true HEQ.out)])
            go_upto_region 8 with (fail)
            go_quiet (fail)
            obtain ⟨W5, hW5, hb5⟩ : ∃ W5, wr.drewN nq = W5 ∧ Bel wr W5 := ⟨_, rfl, (Bel.refl wr).drewN _⟩
            rw [hW5]
            have O5 := hid_ (hOq.out.bel hb5)
            have B5 := hid_ (hBq.out.trans hb5)
            have c2 := hb5.cell_ c2
            clear hW5 hb5 hOq hBq c1 zc he1
            go_wp2_with (at_builtin; refine wpApp (w0 := W3) i64S rfl _ _ rfl _ (assL (l.take q) g1) [k2] (some ⟨W5.heap.size, 0, none⟩) 1 1 rfl rfl (O5.out.alloc_ _) (Row.one (T := i64T) k2 rfl rfl) (B5.out.alloc _) (by have := HLN.out; omega) ?_; intro v1 x1 hO1 hb1 hg1 hat1)
            case roundEnd =>
              go_roundw
              case rel => exact ⟨q + 1, HQQ.out.2, by go_num, hid_ (by rw [HN2.out]; exact hO1), hid_ hb1⟩
              case measure => have := HQQ.out.2; simp [intOf]; omega
        · obtain rfl : n = q := by omega
          have hO2 := hOq.out
          rw [show l.take n = l from List.take_of_length_le (by rw [HL.out]; exact Nat.le_refl _)] at hO2
          obtain ⟨Y, ky, rfl, hky, ry⟩ := hO2.reads
          have RY := hid_ ry
          have HB5 := hid_ (hB.out.trans hBq.out)
          clear hOq hO2 hqn hq hky ry hB hBq
          go_wp2_with fail
          refine (sumR_any Y _ ky (assL l g1) wr RY.out (HAL.out _) (HI.out _)).mono ?_
          rintro e W6 ⟨rfl, b6⟩
          have HB6 := hid_ (HB5.out.trans b6)
          clear b6 RY HB5
          by_cases hz0 : (assL l g1).sum = 0
          · obtain ⟨z1, z2⟩ := (sum_zero_iff _).2 hz0
            rw [z1, z2]
            have HS2 : Hid (∀ d ∈ l.take (j + 1), (assL l d.asset).sum = 0) := hid_ (fun p hp => by
              rw [HTK.out] at hp
              rcases List.mem_append.1 hp with hp | hp
              · exact hS.out p hp
              · simp at hp; subst hp; exact hz0)
            clear hz0 z1 z2 hS HTK
            go_wp2
            case roundEnd =>
              go_roundw
              case rel => exact ⟨j + 1, HJ.out.2, by go_num, HS2, HB6⟩
              case measure => have := HJ.out.2; simp [intOf]; omega
          · have HF : Hid (re = false) := hid_ (by rw [← HR.out]; exact zero_no hz0)
            cases hso : sumOk (assL l g1)
            · rw [show sumV (assL l g1) = 0 by unfold sumV; rw [hso]; rfl, show sumE (assL l g1) = 10 by unfold sumE; rw [hso]; rfl]
              clear hso hz0 hS HTK
              go_wp2
              go_ret
              exact ⟨by rw [HF.out]; rfl, HB6.out⟩
            · rw [show sumV (assL l g1) = (assL l g1).sum by unfold sumV; rw [hso, if_pos rfl], show sumE (assL l g1) = 0 by unfold sumE; rw [hso]; rfl]
              obtain ⟨sm, hsm⟩ : ∃ sm, (assL l g1).sum = sm := ⟨_, rfl⟩
              rw [hsm] at hz0 ⊢
              have j0 : (sm != 0) = true := by simp [hz0]
              clear hso hz0 hS hsm HTK
              go_wp2
              go_ret
              exact ⟨by rw [HF.out]; rfl, HB6.out⟩
    · obtain rfl : n = j := by omega
      have HF : Hid (re = true) := hid_ (by
        have h := hS.out
        rw [show l.take n = l from List.take_of_length_le (by rw [HL.out]; exact Nat.le_refl _)] at h
        rw [← HR.out]
        exact List.all_eq_true.2 (fun d hd => decide_eq_true (h d hd)))
      clear hS hjn hj
      go_wp2
      go_ret
      exact ⟨by rw [HF.out]; rfl, hB.out⟩
end Go.Proofs.YtnpinolhhnpniaaGreat
