/- The references' next: layer 11. -/
import Derived.Test.YtgnninpfhnpjoaaNxP
import Derived.Test.YtgnninpfhnpjoaaBox
import Derived.Test.YtgnninpfhnpjoaaTyLeg
import Derived.Test.YtgnninpfhnpjoaaAcR
import Derived.Deep.QuietTactic
import Derived.Deep.DeepCutAuto
set_option linter.unusedSimpArgs false
set_option linter.unusedVariables false
namespace Go.Proofs.Ytgnninpfhnpjoaa
open Go.RowKit Go.Lib
set_option maxRecDepth 10000 in
set_option maxHeartbeats 4000000 in
theorem next11 (A : Option Addr) (n c : Nat) (l : List Due) (q0 q1 : ByteArray) (w : World) (hA : Row legT w A n l) :
    Calls Try.prog 63 #[.slice A n c, .string q0, .string q1] w fun e w' => ∃ (r : Plc) (a : Int) (f : Bool), e = .returned (.tuple #[.agg #[.string r.who, .string r.asset, .int .i64 a], .bool f]) ∧ nfold false ⟨q0, q1⟩ l = (if f then some r else none) ∧ Bel w w' := by
  have h63 := hA.2.1
  have HL := hid_ hA.1
  have HA := hid_ hA
  obtain ⟨fin, hfin⟩ : ∃ r, nfold false ⟨q0, q1⟩ l = r := ⟨_, rfl⟩
  have HFIN := hid_ hfin
  rw [hfin]
  clear hA hfin
  go_enter Try.func63, Try.ntmps63
  have k8 : Bx ((w.alloc (.cells #[.string ⟨#[]⟩, .string ⟨#[]⟩, .int .i64 0] 52)).alloc (.cells #[.string ⟨#[]⟩, .string ⟨#[]⟩, .int .i64 0] 52)) w.heap.size 52 [.string ⟨#[]⟩, .string ⟨#[]⟩, .int .i64 0] := (Bx.new w _ _).alloc _
  have k10 := Bx.new (w.alloc (.cells #[.string ⟨#[]⟩, .string ⟨#[]⟩, .int .i64 0] 52)) 52 [.string ⟨#[]⟩, .string ⟨#[]⟩, .int .i64 0]
  rw [sizeAl] at k10
  have K8 := hid_ k8
  have K10 := hid_ k10
  have BW : Hid (Bel w ((w.alloc (.cells #[.string ⟨#[]⟩, .string ⟨#[]⟩, .int .i64 0] 52)).alloc (.cells #[.string ⟨#[]⟩, .string ⟨#[]⟩, .int .i64 0] 52))) := hid_ (((Bel.refl w).alloc _).alloc _)
  clear k8 k10
  go_wp2_with fail
  generalize (w.alloc (.cells #[.string ⟨#[]⟩, .string ⟨#[]⟩, .int .i64 0] 52)).alloc (.cells #[.string ⟨#[]⟩, .string ⟨#[]⟩, .int .i64 0] 52) = W0 at K8 K10 BW ⊢
  obtain ⟨g10, hg10⟩ : ∃ g, w.heap.size + 1 = g := ⟨_, rfl⟩
  rw [hg10] at K10 ⊢
  obtain ⟨g8, hg8⟩ : ∃ g, w.heap.size = g := ⟨_, rfl⟩
  rw [hg8] at K8 ⊢
  have HG : Hid (g8 < g10 ∧ w.heap.size ≤ g8) := hid_ (by omega)
  clear hg8 hg10
  go_loopw [9, 10, 11, 12] (fun f i _ _ wr => ∃ (j : Nat) (s : Option Plc) (p : Plc) (a : Int), j ≤ n ∧ i = .int .i64 j ∧ f = .bool s.isSome ∧ Hid (Bx wr g10 52 [.string p.who, .string p.asset, .int .i64 a]) ∧ Hid (Bx wr g8 52 [.string ⟨#[]⟩, .string ⟨#[]⟩, .int .i64 0]) ∧ Hid (s = none ∨ s = some p) ∧ Hid (nfold false ⟨q0, q1⟩ (l.take j) = s) ∧ Hid (Bel w wr)) (fun _ i _ _ _ => n - (intOf i).toNat)
  case atStart => exact ⟨0, none, emP, 0, Nat.zero_le _, rfl, rfl, K10, K8, hid_ (.inl rfl), hid_ rfl, BW⟩
  case round =>
    obtain ⟨j, s, p, a, hj, rfl, rfl, hK, h8, hS, hN, hB⟩ := hrel
    obtain ⟨p0, p1⟩ := p
    simp only at hK
    by_cases hjn : j < n
    · obtain ⟨ad, x0, x1, x2, rfl, ho, d0, d1, d2⟩ := (HA.out.bel hB.out).leg hjn
      have HST := hid_ (nfold_step (st := false) (q := ⟨q0, q1⟩) ho)
      clear ho
      have i0 : (0 : Int) ≤ (j : Int) := by omega
      have i1 : (j : Int) < (n : Int) := by omega
      have b0 := hK.out.cell 0 rfl
      have b1 := hK.out.cell 1 rfl
      have b2 := hK.out.cell 2 rfl
      have fz0 := hK.out.frozen 0
      have fz1 := hK.out.frozen 1
      have fz2 := hK.out.frozen 2
      obtain ⟨bb, hbb⟩ : ∃ bb, behB false ⟨q0, q1⟩ ⟨x0, x1⟩ = bb := ⟨_, rfl⟩
      have HBB := hid_ hbb
      clear hbb
      rcases hS.out with hs | hs
      · subst hs
        go_upto_region 6 with (fail)
        go_quiet ((go_at_call 57; exact Calls.quiet_of_same (before_same q0 q1 x0 x1 _)))
        rw [show ltP ⟨q0, q1⟩ ⟨x0, x1⟩ = bb from HBB.out]
        obtain ⟨W1, hW1, qW1⟩ : ∃ W, wr.drewN nq = W ∧ Bel wr W := ⟨_, rfl, (Bel.refl _).drewN _⟩
        rw [hW1]
        clear hW1
        have d0 := qW1.cell_ d0
        have d1 := qW1.cell_ d1
        have d2 := qW1.cell_ d2
        have b0 := qW1.cell_ b0
        have b1 := qW1.cell_ b1
        have b2 := qW1.cell_ b2
        have HB1 := hid_ (hB.out.trans qW1)
        have H81 := hid_ (h8.out.bel qW1)
        have HK1 := hid_ (hK.out.bel qW1)
        have fz0 := HK1.out.frozen 0
        have fz1 := HK1.out.frozen 1
        have fz2 := HK1.out.frozen 2
        clear hB h8 hK qW1
        go_upto_region 7 with (fail)
        go_quiet (fail)
        obtain ⟨W2, hW2, qW2⟩ : ∃ W, W1.drewN nq = W ∧ Bel W1 W := ⟨_, rfl, (Bel.refl _).drewN _⟩
        rw [hW2]
        clear hW2
        have d0 := qW2.cell_ d0
        have d1 := qW2.cell_ d1
        have d2 := qW2.cell_ d2
        have b0 := qW2.cell_ b0
        have b1 := qW2.cell_ b1
        have b2 := qW2.cell_ b2
        have HB2 := hid_ (HB1.out.trans qW2)
        have H82 := hid_ (H81.out.bel qW2)
        have HK2 := hid_ (HK1.out.bel qW2)
        have fz0 := HK2.out.frozen 0
        have fz1 := HK2.out.frozen 1
        have fz2 := HK2.out.frozen 2
        clear HB1 H81 HK1 qW2
        cases bb
        · skip
          have HN2 : Hid (nfold false ⟨q0, q1⟩ (l.take (j + 1)) = none) := hid_ (by rw [HST.out, hN.out]; unfold nstep; rw [show behB false ⟨q0, q1⟩ (Due.plc ⟨x0, x1, x2⟩) = _ from HBB.out]; rfl)
          clear hN HST d0 d1 d2 b0 b1 b2 fz0 fz1 fz2
          go_wp2
          case roundEnd =>
            go_roundw
            case rel => exact ⟨j + 1, none, ⟨p0, p1⟩, a, by omega, by go_num, rfl, HK2, H82, hid_ (.inl rfl), HN2, HB2⟩
            case measure => simp [intOf]; omega
        · skip
          have HN2 : Hid (nfold false ⟨q0, q1⟩ (l.take (j + 1)) = some ⟨x0, x1⟩) := hid_ (by rw [HST.out, hN.out]; unfold nstep; rw [show behB false ⟨q0, q1⟩ (Due.plc ⟨x0, x1, x2⟩) = _ from HBB.out]; rfl)
          have kn : Bx (((W2.setCell ⟨g10, 0, none⟩ (.string x0)).setCell ⟨g10, 1, none⟩ (.string x1)).setCell ⟨g10, 2, none⟩ (.int .i64 x2)) g10 52 [.string x0, .string x1, .int .i64 x2] := ((HK2.out.set 0 (.string x0)).set 1 (.string x1)).set 2 (.int .i64 x2)
          have k8n : Bx (((W2.setCell ⟨g10, 0, none⟩ (.string x0)).setCell ⟨g10, 1, none⟩ (.string x1)).setCell ⟨g10, 2, none⟩ (.int .i64 x2)) g8 52 [.string ⟨#[]⟩, .string ⟨#[]⟩, .int .i64 0] := ((H82.out.far (Nat.ne_of_lt HG.out.1) _).far (Nat.ne_of_lt HG.out.1) _).far (Nat.ne_of_lt HG.out.1) _
          have hgw : w.heap.size ≤ g10 := by have := HG.out; omega
          have bn : Bel w (((W2.setCell ⟨g10, 0, none⟩ (.string x0)).setCell ⟨g10, 1, none⟩ (.string x1)).setCell ⟨g10, 2, none⟩ (.int .i64 x2)) := ((HB2.out.setBx hgw _).setBx hgw _).setBx hgw _
          have KN := hid_ kn
          have K8N := hid_ k8n
          have BN := hid_ bn
          clear hN HST HK2 H82 HB2 kn k8n bn hgw
          go_wp2
          case roundEnd =>
            go_roundw
            case rel => exact ⟨j + 1, some ⟨x0, x1⟩, ⟨x0, x1⟩, x2, by omega, by go_num, rfl, KN, K8N, hid_ (.inr rfl), HN2, BN⟩
            case measure => simp [intOf]; omega
      · subst hs
        obtain ⟨lb, hlb⟩ : ∃ lb, ltP ⟨x0, x1⟩ ⟨p0, p1⟩ = lb := ⟨_, rfl⟩
        have HLB := hid_ hlb
        clear hlb
        go_upto_region 6 with (fail)
        go_quiet ((go_at_call 57; exact Calls.quiet_of_same (before_same q0 q1 x0 x1 _)))
        rw [show ltP ⟨q0, q1⟩ ⟨x0, x1⟩ = bb from HBB.out]
        obtain ⟨W1, hW1, qW1⟩ : ∃ W, wr.drewN nq = W ∧ Bel wr W := ⟨_, rfl, (Bel.refl _).drewN _⟩
        rw [hW1]
        clear hW1
        have d0 := qW1.cell_ d0
        have d1 := qW1.cell_ d1
        have d2 := qW1.cell_ d2
        have b0 := qW1.cell_ b0
        have b1 := qW1.cell_ b1
        have b2 := qW1.cell_ b2
        have HB1 := hid_ (hB.out.trans qW1)
        have H81 := hid_ (h8.out.bel qW1)
        have HK1 := hid_ (hK.out.bel qW1)
        have fz0 := HK1.out.frozen 0
        have fz1 := HK1.out.frozen 1
        have fz2 := HK1.out.frozen 2
        clear hB h8 hK qW1
        go_upto_region 7 with (fail)
        go_quiet ((go_at_call 57; exact Calls.quiet_of_same (before_same x0 x1 p0 p1 _)))
        rw [show ltP ⟨x0, x1⟩ ⟨p0, p1⟩ = lb from HLB.out]
        obtain ⟨W2, hW2, qW2⟩ : ∃ W, W1.drewN nq = W ∧ Bel W1 W := ⟨_, rfl, (Bel.refl _).drewN _⟩
        rw [hW2]
        clear hW2
        have d0 := qW2.cell_ d0
        have d1 := qW2.cell_ d1
        have d2 := qW2.cell_ d2
        have b0 := qW2.cell_ b0
        have b1 := qW2.cell_ b1
        have b2 := qW2.cell_ b2
        have HB2 := hid_ (HB1.out.trans qW2)
        have H82 := hid_ (H81.out.bel qW2)
        have HK2 := hid_ (HK1.out.bel qW2)
        have fz0 := HK2.out.frozen 0
        have fz1 := HK2.out.frozen 1
        have fz2 := HK2.out.frozen 2
        clear HB1 H81 HK1 qW2
        cases bb
        · skip
          have HN2 : Hid (nfold false ⟨q0, q1⟩ (l.take (j + 1)) = some ⟨p0, p1⟩) := hid_ (by rw [HST.out, hN.out]; unfold nstep; rw [show behB false ⟨q0, q1⟩ (Due.plc ⟨x0, x1, x2⟩) = _ from HBB.out]; rfl)
          clear hN HST d0 d1 d2 b0 b1 b2 fz0 fz1 fz2
          go_wp2
          case roundEnd =>
            go_roundw
            case rel => exact ⟨j + 1, some ⟨p0, p1⟩, ⟨p0, p1⟩, a, by omega, by go_num, rfl, HK2, H82, hid_ (.inr rfl), HN2, HB2⟩
            case measure => simp [intOf]; omega
        · skip
          cases lb
          · skip
            have HN2 : Hid (nfold false ⟨q0, q1⟩ (l.take (j + 1)) = some ⟨p0, p1⟩) := hid_ (by rw [HST.out, hN.out]; unfold nstep; rw [show behB false ⟨q0, q1⟩ (Due.plc ⟨x0, x1, x2⟩) = _ from HBB.out]; show (if (true && ltP ⟨x0, x1⟩ ⟨p0, p1⟩) = true then some (⟨x0, x1⟩ : Plc) else some ⟨p0, p1⟩) = _; rw [HLB.out]; rfl)
            clear hN HST d0 d1 d2 b0 b1 b2 fz0 fz1 fz2
            go_wp2
            case roundEnd =>
              go_roundw
              case rel => exact ⟨j + 1, some ⟨p0, p1⟩, ⟨p0, p1⟩, a, by omega, by go_num, rfl, HK2, H82, hid_ (.inr rfl), HN2, HB2⟩
              case measure => simp [intOf]; omega
          · skip
            have HN2 : Hid (nfold false ⟨q0, q1⟩ (l.take (j + 1)) = some ⟨x0, x1⟩) := hid_ (by rw [HST.out, hN.out]; unfold nstep; rw [show behB false ⟨q0, q1⟩ (Due.plc ⟨x0, x1, x2⟩) = _ from HBB.out]; show (if (true && ltP ⟨x0, x1⟩ ⟨p0, p1⟩) = true then some (⟨x0, x1⟩ : Plc) else some ⟨p0, p1⟩) = _; rw [HLB.out]; rfl)
            have kn : Bx (((W2.setCell ⟨g10, 0, none⟩ (.string x0)).setCell ⟨g10, 1, none⟩ (.string x1)).setCell ⟨g10, 2, none⟩ (.int .i64 x2)) g10 52 [.string x0, .string x1, .int .i64 x2] := ((HK2.out.set 0 (.string x0)).set 1 (.string x1)).set 2 (.int .i64 x2)
            have k8n : Bx (((W2.setCell ⟨g10, 0, none⟩ (.string x0)).setCell ⟨g10, 1, none⟩ (.string x1)).setCell ⟨g10, 2, none⟩ (.int .i64 x2)) g8 52 [.string ⟨#[]⟩, .string ⟨#[]⟩, .int .i64 0] := ((H82.out.far (Nat.ne_of_lt HG.out.1) _).far (Nat.ne_of_lt HG.out.1) _).far (Nat.ne_of_lt HG.out.1) _
            have hgw : w.heap.size ≤ g10 := by have := HG.out; omega
            have bn : Bel w (((W2.setCell ⟨g10, 0, none⟩ (.string x0)).setCell ⟨g10, 1, none⟩ (.string x1)).setCell ⟨g10, 2, none⟩ (.int .i64 x2)) := ((HB2.out.setBx hgw _).setBx hgw _).setBx hgw _
            have KN := hid_ kn
            have K8N := hid_ k8n
            have BN := hid_ bn
            clear hN HST HK2 H82 HB2 kn k8n bn hgw
            go_wp2
            case roundEnd =>
              go_roundw
              case rel => exact ⟨j + 1, some ⟨x0, x1⟩, ⟨x0, x1⟩, x2, by omega, by go_num, rfl, KN, K8N, hid_ (.inr rfl), HN2, BN⟩
              case measure => simp [intOf]; omega
    · obtain rfl : n = j := by omega
      have HF : Hid (fin = s) := hid_ (by
        have h1 := hN.out
        rw [show l.take n = l from List.take_of_length_le (by rw [HL.out]; exact Nat.le_refl _), HFIN.out] at h1
        exact h1)
      have b0 := hK.out.cell 0 rfl
      have b1 := hK.out.cell 1 rfl
      have b2 := hK.out.cell 2 rfl
      have hne : g8 ≠ g10 := Nat.ne_of_lt HG.out.1
      have kn : Bx (((wr.setCell ⟨g8, 0, none⟩ (.string p0)).setCell ⟨g8, 1, none⟩ (.string p1)).setCell ⟨g8, 2, none⟩ (.int .i64 a)) g8 52 [.string p0, .string p1, .int .i64 a] := ((h8.out.set 0 (.string p0)).set 1 (.string p1)).set 2 (.int .i64 a)
      have bn : Bel w (((wr.setCell ⟨g8, 0, none⟩ (.string p0)).setCell ⟨g8, 1, none⟩ (.string p1)).setCell ⟨g8, 2, none⟩ (.int .i64 a)) := ((hB.out.setBx HG.out.2 _).setBx HG.out.2 _).setBx HG.out.2 _
      have KN := hid_ kn
      have BN := hid_ bn
      have e0 := h8.out.cell 0 rfl
      have e1 := h8.out.cell 1 rfl
      have e2 := h8.out.cell 2 rfl
      have fz0 := h8.out.frozen 0
      have fz1 := h8.out.frozen 1
      have fz2 := h8.out.frozen 2
      clear hB h8 hK kn bn hjn
      have HSF : Hid (fin = if s.isSome then some ⟨p0, p1⟩ else none) := hid_ (by rw [HF.out]; rcases hS.out with h | h <;> rw [h] <;> rfl)
      go_wp2
      refine bodyPost_ret (results_ct1 rfl _ _ g8 52 _ (0, 0) _ rfl KN.out Try.underlying52 rfl (by kernel_rfl)) rfl ?_
      exact ⟨⟨p0, p1⟩, a, s.isSome, rfl, HSF.out, BN.out⟩
end Go.Proofs.Ytgnninpfhnpjoaa
