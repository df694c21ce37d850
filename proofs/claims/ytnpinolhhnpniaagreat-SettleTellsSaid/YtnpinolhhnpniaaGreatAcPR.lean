/- cambistref11.sum, Post. -/
import Derived.Test.YtnpinolhhnpniaaGreatNxP
import Derived.Test.YtnpinolhhnpniaaGreatBox
import Derived.Test.YtnpinolhhnpniaaGreatTyLeg
import Derived.Test.YtnpinolhhnpniaaGreatAcR
import Derived.Deep.QuietTactic
import Derived.Deep.DeepCutAuto
import Derived.Test.YtnpinolhhnpniaaGreatAc2
import Derived.Test.YtnpinolhhnpniaaGreatNv7
import Derived.BigQuiet
import Derived.Test.YtnpinolhhnpniaaGreatAc7
import Derived.Test.YtnpinolhhnpniaaGreatRSum
import Derived.Test.YtnpinolhhnpniaaGreatTotP
import Derived.Test.YtnpinolhhnpniaaGreatPo2
import Derived.Test.YtnpinolhhnpniaaGreatLit
import Derived.Deep.LoopGhost
set_option linter.unusedSimpArgs false
set_option linter.unusedVariables false
namespace Go.Proofs.YtnpinolhhnpniaaGreat
open Go.RowKit Go.Lib
set_option maxRecDepth 10000 in
set_option maxHeartbeats 4000000 in
theorem next11 (A : Option Addr) (n c : Nat) (l : List Due) (q0 q1 : ByteArray) (w : World) (hA : Row legT w A n l) :
    Calls Tryz.prog 68 #[.slice A n c, .string q0, .string q1] w fun e w' => ∃ (r : Plc) (a : Int) (f : Bool), e = .returned (.tuple #[.agg #[.string r.who, .string r.asset, .int .i64 a], .bool f]) ∧ nfold false ⟨q0, q1⟩ l = (if f then some r else none) ∧ Bel w w' := by
  have h63 := hA.2.1
  have HL := hid_ hA.1
  have HA := hid_ hA
  obtain ⟨fin, hfin⟩ : ∃ r, nfold false ⟨q0, q1⟩ l = r := ⟨_, rfl⟩
  have HFIN := hid_ hfin
  rw [hfin]
  clear hA hfin
  go_enter Tryz.func68, Tryz.ntmps68
  have k8 : Bx ((w.alloc (.cells #[.string ⟨#[]⟩, .string ⟨#[]⟩, .int .i64 0] 52)).alloc (.cells #[.string ⟨#[]⟩, .string ⟨#[]⟩, .int .i64 0] 52)) w.heap.size 52 [.string ⟨#[]⟩, .string ⟨#[]⟩, .int .i64 0] := (Bx.new w _ _).alloc _
  have k10 := Bx.new (w.alloc (.cells #[.string ⟨#[]⟩, .string ⟨#[]⟩, .int .i64 0] 52)) 52 [.string ⟨#[]⟩, .string ⟨#[]⟩, .int .i64 0]
  rw [sizeAl] at k10
  have K8 := hid_ k8
  have K10 := hid_ k10
  have BW : Hid (Bel w ((w.alloc (.cells #[.string ⟨#[]⟩, .string ⟨#[]⟩, .int .i64 0] 52)).alloc (.cells #[.string ⟨#[]⟩, .string ⟨#[]⟩, .int .i64 0] 52))) := hid_ (((Bel.refl w).alloc _).alloc _)
  clear k8 k10
  go_wp2_with fail
  generalize (w.alloc (.cells #[.string ⟨#[]⟩, .string ⟨#[]⟩, .int .i64 0] 52)).alloc (.cells #[.string ⟨#[]⟩, .string ⟨#[]⟩, .int .i64 0] 52) = W0 at K8 K10 BW ⊢
  obtain ⟨g10, hg10⟩ : ∃ g, w.heap.size + 1 = g := ⟨_, rfl⟩
  rw [hg10] at K10 ⊢
  obtain ⟨g8, hg8⟩ : ∃ g, w.heap.size = g := ⟨_, rfl⟩
  rw [hg8] at K8 ⊢
  have HG : Hid (g8 < g10 ∧ w.heap.size ≤ g8) := hid_ (by omega)
  clear hg8 hg10
  go_loopw [9, 10, 11, 12] (fun f i _ _ wr => ∃ (j : Nat) (s : Option Plc) (p : Plc) (a : Int), j ≤ n ∧ i = .int .i64 j ∧ f = .bool s.isSome ∧ Hid (Bx wr g10 52 [.string p.who, .string p.asset, .int .i64 a]) ∧ Hid (Bx wr g8 52 [.string ⟨#[]⟩, .string ⟨#[]⟩, .int .i64 0]) ∧ Hid (s = none ∨ s = some p) ∧ Hid (nfold false ⟨q0, q1⟩ (l.take j) = s) ∧ Hid (Bel w wr)) (fun _ i _ _ _ => n - (intOf i).toNat)
  case atStart => exact ⟨0, none, emP, 0, Nat.zero_le _, rfl, rfl, K10, K8, hid_ (.inl rfl), hid_ rfl, BW⟩
  case round =>
    obtain ⟨j, s, p, a, hj, rfl, rfl, hK, h8, hS, hN, hB⟩ := hrel
    obtain ⟨p0, p1⟩ := p
    simp only at hK
    by_cases hjn : j < n
    · obtain ⟨ad, x0, x1, x2, rfl, ho, d0, d1, d2⟩ := (HA.out.bel hB.out).leg hjn
      have HST := hid_ (nfold_step (st := false) (q := ⟨q0, q1⟩) ho)
      clear ho
      have i0 : (0 : Int) ≤ (j : Int) := by omega
      have i1 : (j : Int) < (n : Int) := by omega
      have b0 := hK.out.cell 0 rfl
      have b1 := hK.out.cell 1 rfl
      have b2 := hK.out.cell 2 rfl
      have fz0 := hK.out.frozen 0
      have fz1 := hK.out.frozen 1
      have fz2 := hK.out.frozen 2
      obtain ⟨bb, hbb⟩ : ∃ bb, behB false ⟨q0, q1⟩ ⟨x0, x1⟩ = bb := ⟨_, rfl⟩
      have HBB := hid_ hbb
      clear hbb
      rcases hS.out with hs | hs
      · subst hs
        go_upto_region 6 with (fail)
        go_quiet ((go_at_call 60; exact Calls.quiet_of_same (before_same q0 q1 x0 x1 _)))
        rw [show ltP ⟨q0, q1⟩ ⟨x0, x1⟩ = bb from HBB.out]
        obtain ⟨W1, hW1, qW1⟩ : ∃ W, wr.drewN nq = W ∧ Bel wr W := ⟨_, rfl, (Bel.refl _).drewN _⟩
        rw [hW1]
        clear hW1
        have d0 := qW1.cell_ d0
        have d1 := qW1.cell_ d1
        have d2 := qW1.cell_ d2
        have b0 := qW1.cell_ b0
        have b1 := qW1.cell_ b1
        have b2 := qW1.cell_ b2
        have HB1 := hid_ (hB.out.trans qW1)
        have H81 := hid_ (h8.out.bel qW1)
        have HK1 := hid_ (hK.out.bel qW1)
        have fz0 := HK1.out.frozen 0
        have fz1 := HK1.out.frozen 1
        have fz2 := HK1.out.frozen 2
        clear hB h8 hK qW1
        go_upto_region 7 with (fail)
        go_quiet (fail)
        obtain ⟨W2, hW2, qW2⟩ : ∃ W, W1.drewN nq = W ∧ Bel W1 W := ⟨_, rfl, (Bel.refl _).drewN _⟩
        rw [hW2]
        clear hW2
        have d0 := qW2.cell_ d0
        have d1 := qW2.cell_ d1
        have d2 := qW2.cell_ d2
        have b0 := qW2.cell_ b0
        have b1 := qW2.cell_ b1
        have b2 := qW2.cell_ b2
        have HB2 := hid_ (HB1.out.trans qW2)
        have H82 := hid_ (H81.out.bel qW2)
        have HK2 := hid_ (HK1.out.bel qW2)
        have fz0 := HK2.out.frozen 0
        have fz1 := HK2.out.frozen 1
        have fz2 := HK2.out.frozen 2
        clear HB1 H81 HK1 qW2
        cases bb
        · skip
          have HN2 : Hid (nfold false ⟨q0, q1⟩ (l.take (j + 1)) = none) := hid_ (by rw [HST.out, hN.out]; unfold nstep; rw [show behB false ⟨q0, q1⟩ (Due.plc ⟨x0, x1, x2⟩) = _ from HBB.out]; rfl)
          clear hN HST d0 d1 d2 b0 b1 b2 fz0 fz1 fz2
          go_wp2
          case roundEnd =>
            go_roundw
            case rel => exact ⟨j + 1, none, ⟨p0, p1⟩, a, by omega, by go_num, rfl, HK2, H82, hid_ (.inl rfl), HN2, HB2⟩
            case measure => simp [intOf]; omega
        · skip
          have HN2 : Hid (nfold false ⟨q0, q1⟩ (l.take (j + 1)) = some ⟨x0, x1⟩) := hid_ (by rw [HST.out, hN.out]; unfold nstep; rw [show behB false ⟨q0, q1⟩ (Due.plc ⟨x0, x1, x2⟩) = _ from HBB.out]; rfl)
          have kn : Bx (((W2.setCell ⟨g10, 0, none⟩ (.string x0)).setCell ⟨g10, 1, none⟩ (.string x1)).setCell ⟨g10, 2, none⟩ (.int .i64 x2)) g10 52 [.string x0, .string x1, .int .i64 x2] := ((HK2.out.set 0 (.string x0)).set 1 (.string x1)).set 2 (.int .i64 x2)
          have k8n : Bx (((W2.setCell ⟨g10, 0, none⟩ (.string x0)).setCell ⟨g10, 1, none⟩ (.string x1)).setCell ⟨g10, 2, none⟩ (.int .i64 x2)) g8 52 [.string ⟨#[]⟩, .string ⟨#[]⟩, .int .i64 0] := ((H82.out.far (Nat.ne_of_lt HG.out.1) _).far (Nat.ne_of_lt HG.out.1) _).far (Nat.ne_of_lt HG.out.1) _
          have hgw : w.heap.size ≤ g10 := by have := HG.out; omega
          have bn : Bel w (((W2.setCell ⟨g10, 0, none⟩ (.string x0)).setCell ⟨g10, 1, none⟩ (.string x1)).setCell ⟨g10, 2, none⟩ (.int .i64 x2)) := ((HB2.out.setBx hgw _).setBx hgw _).setBx hgw _
          have KN := hid_ kn
          have K8N := hid_ k8n
          have BN := hid_ bn
          clear hN HST HK2 H82 HB2 kn k8n bn hgw
          go_wp2
          case roundEnd =>
            go_roundw
            case rel => exact ⟨j + 1, some ⟨x0, x1⟩, ⟨x0, x1⟩, x2, by omega, by go_num, rfl, KN, K8N, hid_ (.inr rfl), HN2, BN⟩
            case measure => simp [intOf]; omega
      · subst hs
        obtain ⟨lb, hlb⟩ : ∃ lb, ltP ⟨x0, x1⟩ ⟨p0, p1⟩ = lb := ⟨_, rfl⟩
        have HLB := hid_ hlb
        clear hlb
        go_upto_region 6 with (fail)
        go_quiet ((go_at_call 60; exact Calls.quiet_of_same (before_same q0 q1 x0 x1 _)))
        rw [show ltP ⟨q0, q1⟩ ⟨x0, x1⟩ = bb from HBB.out]
        obtain ⟨W1, hW1, qW1⟩ : ∃ W, wr.drewN nq = W ∧ Bel wr W := ⟨_, rfl, (Bel.refl _).drewN _⟩
        rw [hW1]
        clear hW1
        have d0 := qW1.cell_ d0
        have d1 := qW1.cell_ d1
        have d2 := qW1.cell_ d2
        have b0 := qW1.cell_ b0
        have b1 := qW1.cell_ b1
        have b2 := qW1.cell_ b2
        have HB1 := hid_ (hB.out.trans qW1)
        have H81 := hid_ (h8.out.bel qW1)
        have HK1 := hid_ (hK.out.bel qW1)
        have fz0 := HK1.out.frozen 0
        have fz1 := HK1.out.frozen 1
        have fz2 := HK1.out.frozen 2
        clear hB h8 hK qW1
        go_upto_region 7 with (fail)
        go_quiet ((go_at_call 60; exact Calls.quiet_of_same (before_same x0 x1 p0 p1 _)))
        rw [show ltP ⟨x0, x1⟩ ⟨p0, p1⟩ = lb from HLB.out]
        obtain ⟨W2, hW2, qW2⟩ : ∃ W, W1.drewN nq = W ∧ Bel W1 W := ⟨_, rfl, (Bel.refl _).drewN _⟩
        rw [hW2]
        clear hW2
        have d0 := qW2.cell_ d0
        have d1 := qW2.cell_ d1
        have d2 := qW2.cell_ d2
        have b0 := qW2.cell_ b0
        have b1 := qW2.cell_ b1
        have b2 := qW2.cell_ b2
        have HB2 := hid_ (HB1.out.trans qW2)
        have H82 := hid_ (H81.out.bel qW2)
        have HK2 := hid_ (HK1.out.bel qW2)
        have fz0 := HK2.out.frozen 0
        have fz1 := HK2.out.frozen 1
        have fz2 := HK2.out.frozen 2
        clear HB1 H81 HK1 qW2
        cases bb
        · skip
          have HN2 : Hid (nfold false ⟨q0, q1⟩ (l.take (j + 1)) = some ⟨p0, p1⟩) := hid_ (by rw [HST.out, hN.out]; unfold nstep; rw [show behB false ⟨q0, q1⟩ (Due.plc ⟨x0, x1, x2⟩) = _ from HBB.out]; rfl)
          clear hN HST d0 d1 d2 b0 b1 b2 fz0 fz1 fz2
          go_wp2
          case roundEnd =>
            go_roundw
            case rel => exact ⟨j + 1, some ⟨p0, p1⟩, ⟨p0, p1⟩, a, by omega, by go_num, rfl, HK2, H82, hid_ (.inr rfl), HN2, HB2⟩
            case measure => simp [intOf]; omega
        · skip
          cases lb
          · skip
            have HN2 : Hid (nfold false ⟨q0, q1⟩ (l.take (j + 1)) = some ⟨p0, p1⟩) := hid_ (by rw [HST.out, hN.out]; unfold nstep; rw [show behB false ⟨q0, q1⟩ (Due.plc ⟨x0, x1, x2⟩) = _ from HBB.out]; show (if (true && ltP ⟨x0, x1⟩ ⟨p0, p1⟩) = true then some (⟨x0, x1⟩ : Plc) else some ⟨p0, p1⟩) = _; rw [HLB.out]; rfl)
            clear hN HST d0 d1 d2 b0 b1 b2 fz0 fz1 fz2
            go_wp2
            case roundEnd =>
              go_roundw
              case rel => exact ⟨j + 1, some ⟨p0, p1⟩, ⟨p0, p1⟩, a, by omega, by go_num, rfl, HK2, H82, hid_ (.inr rfl), HN2, HB2⟩
              case measure => simp [intOf]; omega
          · skip
            have HN2 : Hid (nfold false ⟨q0, q1⟩ (l.take (j + 1)) = some ⟨x0, x1⟩) := hid_ (by rw [HST.out, hN.out]; unfold nstep; rw [show behB false ⟨q0, q1⟩ (Due.plc ⟨x0, x1, x2⟩) = _ from HBB.out]; show (if (true && ltP ⟨x0, x1⟩ ⟨p0, p1⟩) = true then some (⟨x0, x1⟩ : Plc) else some ⟨p0, p1⟩) = _; rw [HLB.out]; rfl)
            have kn : Bx (((W2.setCell ⟨g10, 0, none⟩ (.string x0)).setCell ⟨g10, 1, none⟩ (.string x1)).setCell ⟨g10, 2, none⟩ (.int .i64 x2)) g10 52 [.string x0, .string x1, .int .i64 x2] := ((HK2.out.set 0 (.string x0)).set 1 (.string x1)).set 2 (.int .i64 x2)
            have k8n : Bx (((W2.setCell ⟨g10, 0, none⟩ (.string x0)).setCell ⟨g10, 1, none⟩ (.string x1)).setCell ⟨g10, 2, none⟩ (.int .i64 x2)) g8 52 [.string ⟨#[]⟩, .string ⟨#[]⟩, .int .i64 0] := ((H82.out.far (Nat.ne_of_lt HG.out.1) _).far (Nat.ne_of_lt HG.out.1) _).far (Nat.ne_of_lt HG.out.1) _
            have hgw : w.heap.size ≤ g10 := by have := HG.out; omega
            have bn : Bel w (((W2.setCell ⟨g10, 0, none⟩ (.string x0)).setCell ⟨g10, 1, none⟩ (.string x1)).setCell ⟨g10, 2, none⟩ (.int .i64 x2)) := ((HB2.out.setBx hgw _).setBx hgw _).setBx hgw _
            have KN := hid_ kn
            have K8N := hid_ k8n
            have BN := hid_ bn
            clear hN HST HK2 H82 HB2 kn k8n bn hgw
            go_wp2
            case roundEnd =>
              go_roundw
              case rel => exact ⟨j + 1, some ⟨x0, x1⟩, ⟨x0, x1⟩, x2, by omega, by go_num, rfl, KN, K8N, hid_ (.inr rfl), HN2, BN⟩
              case measure => simp [intOf]; omega
    · obtain rfl : n = j := by omega
      have HF : Hid (fin = s) := hid_ (by
        have h1 := hN.out
        rw [show l.take n = l from List.take_of_length_le (by rw [HL.out]; exact Nat.le_refl _), HFIN.out] at h1
        exact h1)
      have b0 := hK.out.cell 0 rfl
      have b1 := hK.out.cell 1 rfl
      have b2 := hK.out.cell 2 rfl
      have hne : g8 ≠ g10 := Nat.ne_of_lt HG.out.1
      have kn : Bx (((wr.setCell ⟨g8, 0, none⟩ (.string p0)).setCell ⟨g8, 1, none⟩ (.string p1)).setCell ⟨g8, 2, none⟩ (.int .i64 a)) g8 52 [.string p0, .string p1, .int .i64 a] := ((h8.out.set 0 (.string p0)).set 1 (.string p1)).set 2 (.int .i64 a)
      have bn : Bel w (((wr.setCell ⟨g8, 0, none⟩ (.string p0)).setCell ⟨g8, 1, none⟩ (.string p1)).setCell ⟨g8, 2, none⟩ (.int .i64 a)) := ((hB.out.setBx HG.out.2 _).setBx HG.out.2 _).setBx HG.out.2 _
      have KN := hid_ kn
      have BN := hid_ bn
      have e0 := h8.out.cell 0 rfl
      have e1 := h8.out.cell 1 rfl
      have e2 := h8.out.cell 2 rfl
      have fz0 := h8.out.frozen 0
      have fz1 := h8.out.frozen 1
      have fz2 := h8.out.frozen 2
      clear hB h8 hK kn bn hjn
      have HSF : Hid (fin = if s.isSome then some ⟨p0, p1⟩ else none) := hid_ (by rw [HF.out]; rcases hS.out with h | h <;> rw [h] <;> rfl)
      go_wp2
      refine bodyPost_ret (results_ct1 rfl _ _ g8 52 _ (0, 0) _ rfl KN.out Tryz.underlying52 rfl (by kernel_rfl)) rfl ?_
      exact ⟨⟨p0, p1⟩, a, s.isSome, rfl, HSF.out, BN.out⟩
end Go.Proofs.YtnpinolhhnpniaaGreat
set_option linter.unusedSimpArgs false
set_option linter.unusedVariables false
namespace Go.Proofs.YtnpinolhhnpniaaGreat
open Go.RowKit Go.Lib
set_option maxRecDepth 10000 in
theorem namesR_any (who asset : ByteArray) (w : World) (h1 : who.size ≤ 4294967280) (h2 : asset.size ≤ 4294967280) :
    Calls Tryz.prog 39 #[.string who, .string asset] w fun e w' => e = .returned (.bool (namedB ⟨who, asset⟩)) ∧ w = w' := by
  have SZ := hid_ (And.intro h1 h2)
  clear h1 h2
  obtain ⟨r, hr⟩ : ∃ r, namedB ⟨who, asset⟩ = r := ⟨_, rfl⟩
  rw [hr]
  have HR := hid_ hr
  clear hr
  go_enter Tryz.func39, Tryz.ntmps39
  go_wp2_with fail
  refine (whoR_any who w SZ.out.1).mono ?_
  rintro e _ ⟨rfl, rfl⟩
  obtain ⟨a, ha⟩ : ∃ q, whoB who = q := ⟨_, rfl⟩
  rw [ha]
  have HA := hid_ ha
  clear ha
  go_wp2_with fail
  refine (assetR_any asset w SZ.out.2).mono ?_
  rintro e _ ⟨rfl, rfl⟩
  obtain ⟨b, hb⟩ : ∃ q, assetB asset = q := ⟨_, rfl⟩
  rw [hb]
  have HF : Hid (r = (a && b)) := hid_ (by rw [← HR.out, ← HA.out, ← hb]; rfl)
  clear hb HR HA
  cases a
  · go_wp2
    go_ret
    exact ⟨by rw [HF.out]; rfl, rfl⟩
  · go_wp2
    go_ret
    exact ⟨by rw [HF.out]; rfl, rfl⟩
theorem find_hit {l : List Acc} {p : Plc} {j : Nat} {x : Acc} (hx : l[j]? = some x) (hp : x.plc = p) (h : ∀ (i : Nat) (y : Acc), i < j → l[i]? = some y → y.plc ≠ p) : findA l p = x := by
  unfold findA
  have hj := (List.getElem?_eq_some_iff.1 hx).1
  have : l.find? (fun a => decide (a.plc = p)) = some x := by
    rw [List.find?_eq_some_iff_getElem]
    refine ⟨by simpa using hp, j, hj, (List.getElem?_eq_some_iff.1 hx).2, fun i hij => ?_⟩
    have := h i l[i] hij (List.getElem?_eq_getElem (by omega))
    simp [this]
  rw [this]
  rfl
theorem find_miss {l : List Acc} {p : Plc} (h : ∀ (i : Nat) (y : Acc), l[i]? = some y → y.plc ≠ p) : findA l p = accZ p := by
  unfold findA
  rw [find_none]
  · rfl
  · intro x hx
    obtain ⟨i, hi, rfl⟩ := List.getElem_of_mem hx
    exact h i _ (List.getElem?_eq_getElem hi)
set_option maxRecDepth 10000 in
set_option maxHeartbeats 1000000 in
theorem findR_any (A : Option Addr) (n c : Nat) (l : List Acc) (p0 p1 : ByteArray) (w : World) (hA : Row accT w A n l) :
    Calls Tryz.prog 40 #[.slice A n c, .string p0, .string p1] w fun e w' => e = .returned (.agg (accC (findA l ⟨p0, p1⟩)).toArray) ∧ Bel w w' := by
  have hA63 := hA.2.1
  have HL := hid_ hA.1
  obtain ⟨f, hf⟩ : ∃ f, findA l ⟨p0, p1⟩ = f := ⟨_, rfl⟩
  rw [hf]
  have HFI := hid_ hf
  have KZ := hid_ (Bx.new w 37 [.string ⟨#[]⟩, .string ⟨#[]⟩, .int .i64 0, .int .i64 0])
  have HB := hid_ ((Bel.refl w).alloc (.cells #[.string ⟨#[]⟩, .string ⟨#[]⟩, .int .i64 0, .int .i64 0] 37))
  have HA := hid_ (hA.bel HB.out)
  clear hA hf
  go_enter Tryz.func40, Tryz.ntmps40
  go_wp2_with fail
  generalize w.alloc (.cells #[.string ⟨#[]⟩, .string ⟨#[]⟩, .int .i64 0, .int .i64 0] 37) = W0 at KZ HB HA ⊢
  obtain ⟨gZ, hgZ⟩ : ∃ g, w.heap.size = g := ⟨_, rfl⟩
  have HG := hid_ hgZ
  rw [hgZ] at KZ
  try rw [hgZ]
  clear hgZ
  go_loop [7] (fun i => ∃ k : Nat, k ≤ n ∧ i = .int .i64 k ∧ Hid (∀ (j : Nat) (y : Acc), j < k → l[j]? = some y → y.plc ≠ ⟨p0, p1⟩)) (fun i => n - (intOf i).toNat)
  case atStart => exact ⟨0, Nat.zero_le _, rfl, hid_ (fun j y h => absurd h (by omega))⟩
  case round =>
    obtain ⟨k, hk, rfl, hx⟩ := hrel
    by_cases hkn : k < n
    · obtain ⟨ad, o0, o1, o2, o3, rfl, ho, d0, d1, d2, d3⟩ := HA.out.acc hkn
      have HO := hid_ ho
      clear ho
      have HN : Hid (Acc.plc ⟨o0, o1, o2, o3⟩ ≠ ⟨p0, p1⟩ → ∀ (j : Nat) (y : Acc), j < k + 1 → l[j]? = some y → y.plc ≠ ⟨p0, p1⟩) := hid_ (fun hne j y hj hy => by
        rcases Nat.lt_or_ge j k with h | h
        · exact hx.out j y h hy
        · obtain rfl : j = k := by omega
          rw [HO.out] at hy
          cases hy
          exact hne)
      have HH : Hid (Acc.plc ⟨o0, o1, o2, o3⟩ = ⟨p0, p1⟩ → f = ⟨o0, o1, o2, o3⟩) := hid_ (fun h => by rw [← HFI.out]; exact find_hit HO.out h hx.out)
      clear hx HO
      by_cases c1 : o0 = p0
      · have q1 : (o0.toList == p0.toList) = true := by rw [bytesEq]; exact decide_eq_true c1
        have C1 := hid_ c1
        clear c1
        by_cases c2 : o1 = p1
        · have q2 : (o1.toList == p1.toList) = true := by rw [bytesEq]; exact decide_eq_true c2
          have HF : Hid (f = ⟨o0, o1, o2, o3⟩) := hid_ (HH.out (by rw [← C1.out, ← c2]; rfl))
          clear c2 HH HN
          have HLE : Hid (w.heap.size ≤ gZ) := hid_ (Nat.le_of_eq HG.out)
          have ks := ((((KZ.out.set 0 (.string o0)).set 1 (.string o1)).set 2 (.int .i64 o2)).set 3 (.int .i64 o3))
          have KS := hid_ ks
          have BS := hid_ ((((HB.out.setBx (g := gZ) (j := 0) HLE.out (.string o0)).setBx (j := 1) HLE.out (.string o1)).setBx (j := 2) HLE.out (.int .i64 o2)).setBx (j := 3) HLE.out (.int .i64 o3))
          clear ks
          have z0 := KZ.out.cell 0 rfl
          have z1 := KZ.out.cell 1 rfl
          have z2 := KZ.out.cell 2 rfl
          have z3 := KZ.out.cell 3 rfl
          have zf := fun j => KZ.out.frozen j
          go_wp2
          refine bodyPost_ret (results_c rfl _ _ gZ 37 _ (0, 0) _ rfl KS.out Tryz.underlying37 rfl (by kernel_rfl)) rfl ?_
          exact ⟨by rw [HF.out]; rfl, BS.out⟩
        · have q2 : (o1.toList == p1.toList) = false := by rw [bytesEq]; exact decide_eq_false c2
          have HX := hid_ (HN.out (fun h => c2 (congrArg Plc.asset h)))
          clear c2 HH HN
          go_wp2
          case roundEnd =>
            go_round
            case rel => exact ⟨k + 1, by omega, by go_num, HX⟩
            case measure => simp [intOf]; omega
      · have q1 : (o0.toList == p0.toList) = false := by rw [bytesEq]; exact decide_eq_false c1
        have HX := hid_ (HN.out (fun h => c1 (congrArg Plc.who h)))
        clear c1 HH HN
        go_wp2
        case roundEnd =>
          go_round
          case rel => exact ⟨k + 1, by omega, by go_num, HX⟩
          case measure => simp [intOf]; omega
    · obtain rfl : k = n := by omega
      have HF : Hid (f = accZ ⟨p0, p1⟩) := hid_ (by rw [← HFI.out]; exact find_miss (fun i y h => hx.out i y (by have := (List.getElem?_eq_some_iff.1 h).1; rw [HL.out] at this; exact this) h))
      clear hx
      have HLE : Hid (w.heap.size ≤ gZ) := hid_ (Nat.le_of_eq HG.out)
      have ks := ((((KZ.out.set 0 (.string p0)).set 1 (.string p1)).set 2 (.int .i64 0)).set 3 (.int .i64 0))
      have KS := hid_ ks
      have BS := hid_ ((((HB.out.setBx (g := gZ) (j := 0) HLE.out (.string p0)).setBx (j := 1) HLE.out (.string p1)).setBx (j := 2) HLE.out (.int .i64 0)).setBx (j := 3) HLE.out (.int .i64 0))
      clear ks
      have z0 := KZ.out.cell 0 rfl
      have z1 := KZ.out.cell 1 rfl
      have z2 := KZ.out.cell 2 rfl
      have z3 := KZ.out.cell 3 rfl
      have zf := fun j => KZ.out.frozen j
      go_wp2
      refine bodyPost_ret (results_c rfl _ _ gZ 37 _ (0, 0) _ rfl KS.out Tryz.underlying37 rfl (by kernel_rfl)) rfl ?_
      exact ⟨by rw [HF.out]; rfl, BS.out⟩
end Go.Proofs.YtnpinolhhnpniaaGreat
set_option linter.unusedSimpArgs false
set_option linter.unusedVariables false
namespace Go.Proofs.YtnpinolhhnpniaaGreat
open Go.RowKit Go.Lib
def wstep (a : Acc) (s : List Acc × Bool) (x : Acc) : List Acc × Bool :=
  if x.plc = a.plc then s else if s.2 = false ∧ ltP a.plc x.plc = true then (s.1 ++ [a, x], true) else (s.1 ++ [x], s.2)
def wfold (l : List Acc) (a : Acc) : List Acc × Bool := l.foldl (wstep a) ([], decide (a.balance = 0))
def wend (a : Acc) (s : List Acc × Bool) : List Acc := if s.2 = false then s.1 ++ [a] else s.1
theorem wfold_lo {a : Acc} : ∀ (L : List Acc) (s : List Acc × Bool), (∀ x ∈ L, ltP x.plc a.plc = true) → L.foldl (wstep a) s = (s.1 ++ L, s.2)
  | [], s, _ => by simp
  | x :: L, s, h => by
    have hx := h x (by simp)
    rw [List.foldl_cons]
    have e : wstep a s x = (s.1 ++ [x], s.2) := by
      unfold wstep
      rw [if_neg (ltP_ne hx), if_neg (by simp [ltP_asym hx])]
    rw [e, wfold_lo L _ (fun y hy => h y (by simp [hy]))]
    simp
theorem wfold_hi {a : Acc} : ∀ (R : List Acc) (s : List Acc × Bool), s.2 = true → (∀ x ∈ R, x.plc ≠ a.plc) → R.foldl (wstep a) s = (s.1 ++ R, true)
  | [], s, h, _ => by simp [← h]
  | x :: R, s, h, hn => by
    rw [List.foldl_cons]
    have e : wstep a s x = (s.1 ++ [x], true) := by
      unfold wstep
      rw [if_neg (hn x (by simp)), if_neg (by simp [h]), h]
    rw [e, wfold_hi R _ rfl (fun y hy => hn y (by simp [hy]))]
    simp
theorem wend_eq {l : List Acc} (hs : Srt l) (a : Acc) : wend a (wfold l a) = withA l a := by
  obtain ⟨L, M, R, hC⟩ := srt_cut hs a.plc
  rw [hC.with_]
  unfold wfold
  rw [hC.eq, List.foldl_append, List.foldl_append, wfold_lo L _ hC.lo]
  have hm : ∀ s, M.toList.foldl (wstep a) s = s := fun s => by
    cases M with
    | none => rfl
    | some x => simp [wstep, hC.at_ x rfl]
  rw [hm]
  by_cases hb : a.balance = 0
  · rw [decide_eq_true hb, wfold_hi R _ rfl hC.hiNe, if_pos hb]
    simp [wend]
  · rw [decide_eq_false hb, if_neg hb]
    cases R with
    | nil => simp [wend]
    | cons x R =>
      have hx := hC.hi x (by simp)
      have hne := hC.hiNe x (by simp)
      rw [List.foldl_cons]
      have e : wstep a (([] : List Acc) ++ L, false) x = (L ++ [a, x], true) := by
        unfold wstep
        rw [if_neg hne, if_pos ⟨rfl, hx⟩]
        simp
      rw [e, wfold_hi R _ rfl (fun y hy => hC.hiNe y (by simp [hy]))]
      simp [wend]
theorem wfold_step {l : List Acc} {a x : Acc} {k : Nat} (h : l[k]? = some x) : wfold (l.take (k + 1)) a = wstep a (wfold (l.take k) a) x := by
  unfold wfold
  rw [List.take_add_one, h]
  simp [List.foldl_append]
theorem before_bel (p0 p1 q0 q1 : ByteArray) (w : World) : Calls Tryz.prog 60 #[.string p0, .string p1, .string q0, .string q1] w fun e w' => e = .returned (.bool (ltP ⟨p0, p1⟩ ⟨q0, q1⟩)) ∧ Bel w w' := (before_any p0 p1 q0 q1 w).mono fun _ _ ⟨h, k⟩ => ⟨h, k ▸ Bel.refl w⟩
set_option maxRecDepth 10000 in
set_option maxHeartbeats 4000000 in
theorem withR_any (A : Option Addr) (n c : Nat) (l : List Acc) (a0 a1 : ByteArray) (a2 a3 : Int) (w : World) (hA : Row accT w A n l) (hs : Srt l) (hn : n ≤ 99999) :
    Calls Tryz.prog 41 #[.slice A n c, .agg #[.string a0, .string a1, .int .i64 a2, .int .i64 a3]] w fun e w' => ∃ v, e = .returned v ∧ Own accT w' w.heap.size v (withA l ⟨a0, a1, a2, a3⟩) ∧ Bel w w' := by
  have HL := hid_ hA.1
  have hA63 := hA.2.1
  obtain ⟨ro, hro⟩ : ∃ r, withA l ⟨a0, a1, a2, a3⟩ = r := ⟨_, rfl⟩
  rw [hro]
  have HRO : Hid (wend ⟨a0, a1, a2, a3⟩ (wfold l ⟨a0, a1, a2, a3⟩) = ro) := hid_ (by rw [wend_eq hs]; exact hro)
  have HN := hid_ hn
  clear hs hn hro
  have k0 := Bx.new w 37 [.string a0, .string a1, .int .i64 a2, .int .i64 a3]
  have k0 : Bx (w.alloc (.cells #[.string a0, .string a1, .int .i64 a2, .int .i64 a3] 37)) (w.heap.size) 37 [.string a0, .string a1, .int .i64 a2, .int .i64 a3] := k0
  have kB : Bel w (w.alloc (.cells #[.string a0, .string a1, .int .i64 a2, .int .i64 a3] 37)) := (Bel.refl w).alloc _
  have FO := hid_ k0
  have FB := hid_ kB
  clear k0 kB
  have FA := hid_ (hA.bel FB.out)
  clear hA
  go_enter Tryz.func41, Tryz.ntmps41
  obtain ⟨d0, hd0⟩ : ∃ d, (a2 == 0) = d := ⟨_, rfl⟩
  have HD : Hid (wfold [] ⟨a0, a1, a2, a3⟩ = ([], d0)) := hid_ (by rw [← hd0]; unfold wfold; rw [List.foldl_nil, show decide (Acc.balance ⟨a0, a1, a2, a3⟩ = 0) = (a2 == 0) from (by rw [Bool.eq_iff_iff]; simp)])
  have qO0 := FO.out.cell 0 rfl
  have qO1 := FO.out.cell 1 rfl
  have qO2 := FO.out.cell 2 rfl
  have qO3 := FO.out.cell 3 rfl
  go_wp2_with fail
  clear hd0
  generalize (w.alloc (.cells #[.string a0, .string a1, .int .i64 a2, .int .i64 a3] 37)) = W0 at FO FB FA ⊢
  obtain ⟨gO, hgO⟩ : ∃ g, w.heap.size = g := ⟨_, rfl⟩
  have HGO := hid_ hgO
  rw [hgO] at FO
  try rw [hgO]
  clear hgO
  go_loopw [5, 6, 7] (fun v d i wr => ∃ (k : Nat) (xs : List Acc) (b : Bool), k ≤ n ∧ i = .int .i64 k ∧ d = .bool b ∧ Own accT wr W0.heap.size v xs ∧ Hid (wfold (l.take k) ⟨a0, a1, a2, a3⟩ = (xs, b) ∧ xs.length ≤ k + (if b then 1 else 0)) ∧ Bel W0 wr) (fun _ _ i _ => n - (intOf i).toNat)
  case atStart => exact ⟨0, [], d0, Nat.zero_le _, rfl, rfl, Own.nil_ _ _ _, hid_ ⟨by rw [List.take_zero]; exact HD.out, Nat.zero_le _⟩, Bel.refl _⟩
  case round =>
    obtain ⟨k, xs, b, hk, rfl, rfl, hO, hx, hbr⟩ := hrel
    have BR := hid_ hbr
    have HOW := hid_ hO
    have B0 := hid_ (FB.out.trans hbr)
    clear hO
    by_cases hkn : k < n
    · obtain ⟨ad, o0, o1, o2, o3, rfl, ho, y0, y1, y2, y3⟩ := FA.out.acc hkn
      have DW := hid_ (And.intro y0 (And.intro y1 (And.intro y2 y3)))
      have d0' := hbr.cell_ y0
      have d1 := hbr.cell_ y1
      have d2 := hbr.cell_ y2
      have d3 := hbr.cell_ y3
      clear y0 y1 y2 y3
      have q0 := (FO.out.bel hbr).cell 0 rfl
      have q1 := (FO.out.bel hbr).cell 1 rfl
      have q2 := (FO.out.bel hbr).cell 2 rfl
      have q3 := (FO.out.bel hbr).cell 3 rfl
      have hst := wfold_step (a := ⟨a0, a1, a2, a3⟩) ho
      rw [hx.out.1] at hst
      have HST := hid_ hst
      have hxl := hx.out.2
      have HXL := hid_ hxl
      have i0 : (0 : Int) ≤ (k : Int) := by omega
      have i1 : (k : Int) < (n : Int) := by omega
      clear hbr ho hst hx hxl
      by_cases cp : Acc.plc (Acc.mk o0 o1 o2 o3) = Acc.plc (Acc.mk a0 a1 a2 a3)
      · have q4 : (o0.toList == a0.toList) = true := by rw [bytesEq]; exact decide_eq_true (congrArg Plc.who cp)
        have q5 : (o1.toList == a1.toList) = true := by rw [bytesEq]; exact decide_eq_true (congrArg Plc.asset cp)
        have HR9 : Hid (wfold (l.take (k + 1)) (Acc.mk a0 a1 a2 a3) = (xs, b) ∧ xs.length ≤ k + 1 + (if b then 1 else 0)) := hid_ ⟨by rw [HST.out]; unfold wstep; rw [if_pos cp], by have := HXL.out; omega⟩
        clear cp HST HXL
        go_wp2_with fail
        go_quiet (fail)
        obtain ⟨W2, hW2, hb2⟩ : ∃ W2, wr.drewN nq = W2 ∧ Bel wr W2 := ⟨_, rfl, (Bel.refl wr).drewN _⟩
        rw [hW2]
        clear hW2
        have HO9 := hid_ (HOW.out.bel hb2)
        have B9 := hid_ (BR.out.trans hb2)
        clear q0 q1 q2 q3 d0' d1 d2 d3 hb2
        go_wp2
        case roundEnd =>
          go_roundw
          case rel => exact ⟨k + 1, xs, b, by omega, by go_num, rfl, HO9.out, HR9, B9.out⟩
          case measure => simp [intOf]; omega
      · have HNE := hid_ cp
        clear cp
        obtain ⟨lt, hlt⟩ : ∃ b, ltP ⟨a0, a1⟩ ⟨o0, o1⟩ = b := ⟨_, rfl⟩
        have HLT := hid_ hlt
        clear hlt
        by_cases c1 : o0 = a0
        · have q4 : (o0.toList == a0.toList) = true := by rw [bytesEq]; exact decide_eq_true c1
          have q5 : (o1.toList == a1.toList) = false := by rw [bytesEq]; exact decide_eq_false (fun h => HNE.out (by rw [show Acc.plc (Acc.mk o0 o1 o2 o3) = ⟨o0, o1⟩ from rfl, c1, h]; rfl))
          clear c1
          go_wp2_with fail
          go_quiet (fail)
          obtain ⟨W2, hW2, hb2⟩ : ∃ W2, wr.drewN nq = W2 ∧ Bel wr W2 := ⟨_, rfl, (Bel.refl wr).drewN _⟩
          rw [hW2]
          clear hW2
          have q0w := hb2.cell_ q0
          have q1w := hb2.cell_ q1
          have q2w := hb2.cell_ q2
          have q3w := hb2.cell_ q3
          have d0'w := hb2.cell_ d0'
          have d1w := hb2.cell_ d1
          have d2w := hb2.cell_ d2
          have d3w := hb2.cell_ d3
          have HOW2 := hid_ (HOW.out.bel hb2)
          have B2 := hid_ (B0.out.trans hb2)
          have BR2 := hid_ (BR.out.trans hb2)
          clear hb2 q0 q1 q2 q3 d0' d1 d2 d3
          go_wp2_with fail
          have hKP : ∀ W, Bel W2 W → (fun W => Bel W2 W ∧ W.cell? ⟨gO, 0, none⟩ = some (.string a0) ∧ W.cell? ⟨gO, 1, none⟩ = some (.string a1) ∧ W.cell? ⟨gO, 2, none⟩ = some (.int .i64 a2) ∧ W.cell? ⟨gO, 3, none⟩ = some (.int .i64 a3) ∧ W.cell? (ad.add (k * 4)) = some (.string o0) ∧ W.cell? ⟨(ad.add (k * 4)).block, (ad.add (k * 4)).off + 1, none⟩ = some (.string o1) ∧ W.cell? ⟨(ad.add (k * 4)).block, (ad.add (k * 4)).off + 2, none⟩ = some (.int .i64 o2) ∧ W.cell? ⟨(ad.add (k * 4)).block, (ad.add (k * 4)).off + 3, none⟩ = some (.int .i64 o3)) W := fun W b => ⟨b, b.cell_ q0w, b.cell_ q1w, b.cell_ q2w, b.cell_ q3w, b.cell_ d0'w, b.cell_ d1w, b.cell_ d2w, b.cell_ d3w⟩
          have HKP := hid_ hKP
          clear hKP
          go_region_held3 (fun W => Bel W2 W ∧ W.cell? ⟨gO, 0, none⟩ = some (.string a0) ∧ W.cell? ⟨gO, 1, none⟩ = some (.string a1) ∧ W.cell? ⟨gO, 2, none⟩ = some (.int .i64 a2) ∧ W.cell? ⟨gO, 3, none⟩ = some (.int .i64 a3) ∧ W.cell? (ad.add (k * 4)) = some (.string o0) ∧ W.cell? ⟨(ad.add (k * 4)).block, (ad.add (k * 4)).off + 1, none⟩ = some (.string o1) ∧ W.cell? ⟨(ad.add (k * 4)).block, (ad.add (k * 4)).off + 2, none⟩ = some (.int .i64 o2) ∧ W.cell? ⟨(ad.add (k * 4)).block, (ad.add (k * 4)).off + 3, none⟩ = some (.int .i64 o3)) ((refine HKP.out _ ?_; (repeat first | with_reducible exact Bel.refl _ | with_reducible exact bz0 | with_reducible apply Bel.drew | with_reducible apply Bel.alloc)))
            (first
              | (go_at_call 60; refine' Calls.mono (before_bel a0 a1 o0 o1 _) ?_; rintro e w9 ⟨rfl, b9⟩; have bz0 : Bel W2 w9 := Bel.trans (by (repeat first | with_reducible exact Bel.refl _ | with_reducible exact bz0 | with_reducible apply Bel.drew | with_reducible apply Bel.alloc)) b9; rw [HLT.out]))
          clear HKP
          have q0v := bz0.cell_ q0w
          have q1v := bz0.cell_ q1w
          have q2v := bz0.cell_ q2w
          have q3v := bz0.cell_ q3w
          have d0'v := bz0.cell_ d0'w
          have d1v := bz0.cell_ d1w
          have d2v := bz0.cell_ d2w
          have d3v := bz0.cell_ d3w
          have HOW3 := hid_ (HOW2.out.bel bz0)
          have B3 := hid_ (B2.out.trans bz0)
          have BR3 := hid_ (BR2.out.trans bz0)
          clear q0w q1w q2w q3w d0'w d1w d2w d3w
          clear bz0 HOW2 B2 BR2 HOW
          try clear hw9
          cases b
          · cases lt
            · have HR9 : Hid (wfold (l.take (k + 1)) (Acc.mk a0 a1 a2 a3) = (xs ++ [(Acc.mk o0 o1 o2 o3)], false) ∧ (xs ++ [(Acc.mk o0 o1 o2 o3)]).length ≤ k + 1 + (if false then 1 else 0)) := hid_ ⟨by rw [HST.out]; unfold wstep; rw [if_neg HNE.out, if_neg (by rw [show ltP (Acc.plc (Acc.mk a0 a1 a2 a3)) (Acc.plc (Acc.mk o0 o1 o2 o3)) = false from HLT.out]; simp)], by have := HXL.out; simp at this ⊢; omega⟩
              have HS1 : Hid ((xs.length + 1) * 48 ≤ 140737488355328) := hid_ (by have h1 := HXL.out; have h2 := HN.out; simp at h1; omega)
              clear HST HXL HNE
              go_wp2_with (at_builtin; refine wpApp (w0 := W0) accS rfl _ _ rfl _ xs [(Acc.mk o0 o1 o2 o3)] (some ⟨_, 0, none⟩) 1 1 rfl rfl (HOW3.out.alloc_ _) (Row.one (T := accT) (Acc.mk o0 o1 o2 o3) rfl rfl) (BR3.out.alloc _) HS1.out ?_; intro v1 x1 hO1 hb1 _ _)
              have HO9 := hid_ hO1
              have HB9 := hid_ hb1
              clear hO1 hb1
              try go_wp2
              case roundEnd =>
                go_roundw
                case rel => exact ⟨k + 1, xs ++ [(Acc.mk o0 o1 o2 o3)], false, by omega, by go_num, rfl, HO9.out, HR9, HB9.out⟩
                case measure => simp [intOf]; omega
            · have HR9 : Hid (wfold (l.take (k + 1)) (Acc.mk a0 a1 a2 a3) = (xs ++ [(Acc.mk a0 a1 a2 a3)] ++ [(Acc.mk o0 o1 o2 o3)], true) ∧ (xs ++ [(Acc.mk a0 a1 a2 a3)] ++ [(Acc.mk o0 o1 o2 o3)]).length ≤ k + 1 + (if true then 1 else 0)) := hid_ ⟨by rw [HST.out]; unfold wstep; rw [if_neg HNE.out, if_pos ⟨rfl, HLT.out⟩]; simp, by have := HXL.out; simp at this ⊢; omega⟩
              have HS1 : Hid ((xs.length + 1) * 48 ≤ 140737488355328) := hid_ (by have h1 := HXL.out; have h2 := HN.out; simp at h1; omega)
              have HS2 : Hid (((xs ++ [(Acc.mk a0 a1 a2 a3)]).length + 1) * 48 ≤ 140737488355328) := hid_ (by have h1 := HXL.out; have h2 := HN.out; simp at h1 ⊢; omega)
              clear HST HXL HNE
              have tok1 : True := trivial
              go_wp2_with (first | (at_builtin; have _t := tok1; refine wpApp (w0 := W0) accS rfl _ _ rfl _ xs [(Acc.mk a0 a1 a2 a3)] (some ⟨_, 0, none⟩) 1 1 rfl rfl (HOW3.out.alloc_ _) (Row.one (T := accT) (Acc.mk a0 a1 a2 a3) rfl rfl) (BR3.out.alloc _) HS1.out ?_; intro v1 x1 hO1 hb1 _ _; clear tok1 _t; have e0 := hb1.cell_ DW.out.1; have e1 := hb1.cell_ DW.out.2.1; have e2 := hb1.cell_ DW.out.2.2.1; have e3 := hb1.cell_ DW.out.2.2.2) | (at_builtin; refine wpApp (w0 := W0) accS rfl _ _ rfl _ (xs ++ [(Acc.mk a0 a1 a2 a3)]) [(Acc.mk o0 o1 o2 o3)] (some ⟨_, 0, none⟩) 1 1 rfl rfl (hO1.alloc_ _) (Row.one (T := accT) (Acc.mk o0 o1 o2 o3) rfl rfl) (hb1.alloc _) HS2.out ?_; intro v2 x2 hO2 hb2 _ _))
              have HO9 := hid_ hO2
              have HB9 := hid_ hb2
              clear hO1 hb1 hO2 hb2 e0 e1 e2 e3
              try go_wp2
              case roundEnd =>
                go_roundw
                case rel => exact ⟨k + 1, xs ++ [(Acc.mk a0 a1 a2 a3)] ++ [(Acc.mk o0 o1 o2 o3)], true, by omega, by go_num, rfl, HO9.out, HR9, HB9.out⟩
                case measure => simp [intOf]; omega
          · have HR9 : Hid (wfold (l.take (k + 1)) (Acc.mk a0 a1 a2 a3) = (xs ++ [(Acc.mk o0 o1 o2 o3)], true) ∧ (xs ++ [(Acc.mk o0 o1 o2 o3)]).length ≤ k + 1 + (if true then 1 else 0)) := hid_ ⟨by rw [HST.out]; unfold wstep; rw [if_neg HNE.out, if_neg (by simp)], by have := HXL.out; simp at this ⊢; omega⟩
            have HS1 : Hid ((xs.length + 1) * 48 ≤ 140737488355328) := hid_ (by have h1 := HXL.out; have h2 := HN.out; simp at h1; omega)
            clear HST HXL HNE
            go_wp2_with (at_builtin; refine wpApp (w0 := W0) accS rfl _ _ rfl _ xs [(Acc.mk o0 o1 o2 o3)] (some ⟨_, 0, none⟩) 1 1 rfl rfl (HOW3.out.alloc_ _) (Row.one (T := accT) (Acc.mk o0 o1 o2 o3) rfl rfl) (BR3.out.alloc _) HS1.out ?_; intro v1 x1 hO1 hb1 _ _)
            have HO9 := hid_ hO1
            have HB9 := hid_ hb1
            clear hO1 hb1
            try go_wp2
            case roundEnd =>
              go_roundw
              case rel => exact ⟨k + 1, xs ++ [(Acc.mk o0 o1 o2 o3)], true, by omega, by go_num, rfl, HO9.out, HR9, HB9.out⟩
              case measure => simp [intOf]; omega
        · have q4 : (o0.toList == a0.toList) = false := by rw [bytesEq]; exact decide_eq_false c1
          clear c1
          go_wp2_with fail
          go_quiet (fail)
          obtain ⟨W2, hW2, hb2⟩ : ∃ W2, wr.drewN nq = W2 ∧ Bel wr W2 := ⟨_, rfl, (Bel.refl wr).drewN _⟩
          rw [hW2]
          clear hW2
          have q0w := hb2.cell_ q0
          have q1w := hb2.cell_ q1
          have q2w := hb2.cell_ q2
          have q3w := hb2.cell_ q3
          have d0'w := hb2.cell_ d0'
          have d1w := hb2.cell_ d1
          have d2w := hb2.cell_ d2
          have d3w := hb2.cell_ d3
          have HOW2 := hid_ (HOW.out.bel hb2)
          have B2 := hid_ (B0.out.trans hb2)
          have BR2 := hid_ (BR.out.trans hb2)
          clear hb2 q0 q1 q2 q3 d0' d1 d2 d3
          go_wp2_with fail
          have hKP : ∀ W, Bel W2 W → (fun W => Bel W2 W ∧ W.cell? ⟨gO, 0, none⟩ = some (.string a0) ∧ W.cell? ⟨gO, 1, none⟩ = some (.string a1) ∧ W.cell? ⟨gO, 2, none⟩ = some (.int .i64 a2) ∧ W.cell? ⟨gO, 3, none⟩ = some (.int .i64 a3) ∧ W.cell? (ad.add (k * 4)) = some (.string o0) ∧ W.cell? ⟨(ad.add (k * 4)).block, (ad.add (k * 4)).off + 1, none⟩ = some (.string o1) ∧ W.cell? ⟨(ad.add (k * 4)).block, (ad.add (k * 4)).off + 2, none⟩ = some (.int .i64 o2) ∧ W.cell? ⟨(ad.add (k * 4)).block, (ad.add (k * 4)).off + 3, none⟩ = some (.int .i64 o3)) W := fun W b => ⟨b, b.cell_ q0w, b.cell_ q1w, b.cell_ q2w, b.cell_ q3w, b.cell_ d0'w, b.cell_ d1w, b.cell_ d2w, b.cell_ d3w⟩
          have HKP := hid_ hKP
          clear hKP
          go_region_held3 (fun W => Bel W2 W ∧ W.cell? ⟨gO, 0, none⟩ = some (.string a0) ∧ W.cell? ⟨gO, 1, none⟩ = some (.string a1) ∧ W.cell? ⟨gO, 2, none⟩ = some (.int .i64 a2) ∧ W.cell? ⟨gO, 3, none⟩ = some (.int .i64 a3) ∧ W.cell? (ad.add (k * 4)) = some (.string o0) ∧ W.cell? ⟨(ad.add (k * 4)).block, (ad.add (k * 4)).off + 1, none⟩ = some (.string o1) ∧ W.cell? ⟨(ad.add (k * 4)).block, (ad.add (k * 4)).off + 2, none⟩ = some (.int .i64 o2) ∧ W.cell? ⟨(ad.add (k * 4)).block, (ad.add (k * 4)).off + 3, none⟩ = some (.int .i64 o3)) ((refine HKP.out _ ?_; (repeat first | with_reducible exact Bel.refl _ | with_reducible exact bz0 | with_reducible apply Bel.drew | with_reducible apply Bel.alloc)))
            (first
              | (go_at_call 60; refine' Calls.mono (before_bel a0 a1 o0 o1 _) ?_; rintro e w9 ⟨rfl, b9⟩; have bz0 : Bel W2 w9 := Bel.trans (by (repeat first | with_reducible exact Bel.refl _ | with_reducible exact bz0 | with_reducible apply Bel.drew | with_reducible apply Bel.alloc)) b9; rw [HLT.out]))
          clear HKP
          have q0v := bz0.cell_ q0w
          have q1v := bz0.cell_ q1w
          have q2v := bz0.cell_ q2w
          have q3v := bz0.cell_ q3w
          have d0'v := bz0.cell_ d0'w
          have d1v := bz0.cell_ d1w
          have d2v := bz0.cell_ d2w
          have d3v := bz0.cell_ d3w
          have HOW3 := hid_ (HOW2.out.bel bz0)
          have B3 := hid_ (B2.out.trans bz0)
          have BR3 := hid_ (BR2.out.trans bz0)
          clear q0w q1w q2w q3w d0'w d1w d2w d3w
          clear bz0 HOW2 B2 BR2 HOW
          try clear hw9
          cases b
          · cases lt
            · have HR9 : Hid (wfold (l.take (k + 1)) (Acc.mk a0 a1 a2 a3) = (xs ++ [(Acc.mk o0 o1 o2 o3)], false) ∧ (xs ++ [(Acc.mk o0 o1 o2 o3)]).length ≤ k + 1 + (if false then 1 else 0)) := hid_ ⟨by rw [HST.out]; unfold wstep; rw [if_neg HNE.out, if_neg (by rw [show ltP (Acc.plc (Acc.mk a0 a1 a2 a3)) (Acc.plc (Acc.mk o0 o1 o2 o3)) = false from HLT.out]; simp)], by have := HXL.out; simp at this ⊢; omega⟩
              have HS1 : Hid ((xs.length + 1) * 48 ≤ 140737488355328) := hid_ (by have h1 := HXL.out; have h2 := HN.out; simp at h1; omega)
              clear HST HXL HNE
              go_wp2_with (at_builtin; refine wpApp (w0 := W0) accS rfl _ _ rfl _ xs [(Acc.mk o0 o1 o2 o3)] (some ⟨_, 0, none⟩) 1 1 rfl rfl (HOW3.out.alloc_ _) (Row.one (T := accT) (Acc.mk o0 o1 o2 o3) rfl rfl) (BR3.out.alloc _) HS1.out ?_; intro v1 x1 hO1 hb1 _ _)
              have HO9 := hid_ hO1
              have HB9 := hid_ hb1
              clear hO1 hb1
              try go_wp2
              case roundEnd =>
                go_roundw
                case rel => exact ⟨k + 1, xs ++ [(Acc.mk o0 o1 o2 o3)], false, by omega, by go_num, rfl, HO9.out, HR9, HB9.out⟩
                case measure => simp [intOf]; omega
            · have HR9 : Hid (wfold (l.take (k + 1)) (Acc.mk a0 a1 a2 a3) = (xs ++ [(Acc.mk a0 a1 a2 a3)] ++ [(Acc.mk o0 o1 o2 o3)], true) ∧ (xs ++ [(Acc.mk a0 a1 a2 a3)] ++ [(Acc.mk o0 o1 o2 o3)]).length ≤ k + 1 + (if true then 1 else 0)) := hid_ ⟨by rw [HST.out]; unfold wstep; rw [if_neg HNE.out, if_pos ⟨rfl, HLT.out⟩]; simp, by have := HXL.out; simp at this ⊢; omega⟩
              have HS1 : Hid ((xs.length + 1) * 48 ≤ 140737488355328) := hid_ (by have h1 := HXL.out; have h2 := HN.out; simp at h1; omega)
              have HS2 : Hid (((xs ++ [(Acc.mk a0 a1 a2 a3)]).length + 1) * 48 ≤ 140737488355328) := hid_ (by have h1 := HXL.out; have h2 := HN.out; simp at h1 ⊢; omega)
              clear HST HXL HNE
              have tok1 : True := trivial
              go_wp2_with (first | (at_builtin; have _t := tok1; refine wpApp (w0 := W0) accS rfl _ _ rfl _ xs [(Acc.mk a0 a1 a2 a3)] (some ⟨_, 0, none⟩) 1 1 rfl rfl (HOW3.out.alloc_ _) (Row.one (T := accT) (Acc.mk a0 a1 a2 a3) rfl rfl) (BR3.out.alloc _) HS1.out ?_; intro v1 x1 hO1 hb1 _ _; clear tok1 _t; have e0 := hb1.cell_ DW.out.1; have e1 := hb1.cell_ DW.out.2.1; have e2 := hb1.cell_ DW.out.2.2.1; have e3 := hb1.cell_ DW.out.2.2.2) | (at_builtin; refine wpApp (w0 := W0) accS rfl _ _ rfl _ (xs ++ [(Acc.mk a0 a1 a2 a3)]) [(Acc.mk o0 o1 o2 o3)] (some ⟨_, 0, none⟩) 1 1 rfl rfl (hO1.alloc_ _) (Row.one (T := accT) (Acc.mk o0 o1 o2 o3) rfl rfl) (hb1.alloc _) HS2.out ?_; intro v2 x2 hO2 hb2 _ _))
              have HO9 := hid_ hO2
              have HB9 := hid_ hb2
              clear hO1 hb1 hO2 hb2 e0 e1 e2 e3
              try go_wp2
              case roundEnd =>
                go_roundw
                case rel => exact ⟨k + 1, xs ++ [(Acc.mk a0 a1 a2 a3)] ++ [(Acc.mk o0 o1 o2 o3)], true, by omega, by go_num, rfl, HO9.out, HR9, HB9.out⟩
                case measure => simp [intOf]; omega
          · have HR9 : Hid (wfold (l.take (k + 1)) (Acc.mk a0 a1 a2 a3) = (xs ++ [(Acc.mk o0 o1 o2 o3)], true) ∧ (xs ++ [(Acc.mk o0 o1 o2 o3)]).length ≤ k + 1 + (if true then 1 else 0)) := hid_ ⟨by rw [HST.out]; unfold wstep; rw [if_neg HNE.out, if_neg (by simp)], by have := HXL.out; simp at this ⊢; omega⟩
            have HS1 : Hid ((xs.length + 1) * 48 ≤ 140737488355328) := hid_ (by have h1 := HXL.out; have h2 := HN.out; simp at h1; omega)
            clear HST HXL HNE
            go_wp2_with (at_builtin; refine wpApp (w0 := W0) accS rfl _ _ rfl _ xs [(Acc.mk o0 o1 o2 o3)] (some ⟨_, 0, none⟩) 1 1 rfl rfl (HOW3.out.alloc_ _) (Row.one (T := accT) (Acc.mk o0 o1 o2 o3) rfl rfl) (BR3.out.alloc _) HS1.out ?_; intro v1 x1 hO1 hb1 _ _)
            have HO9 := hid_ hO1
            have HB9 := hid_ hb1
            clear hO1 hb1
            try go_wp2
            case roundEnd =>
              go_roundw
              case rel => exact ⟨k + 1, xs ++ [(Acc.mk o0 o1 o2 o3)], true, by omega, by go_num, rfl, HO9.out, HR9, HB9.out⟩
              case measure => simp [intOf]; omega
    · obtain rfl : k = n := by omega
      have h := hx.out.1
      rw [← HL.out, List.take_length] at h
      have h2 := HRO.out
      rw [h] at h2
      have HE := hid_ h2
      have HXL := hid_ hx.out.2
      have q0 := (FO.out.bel hbr).cell 0 rfl
      have q1 := (FO.out.bel hbr).cell 1 rfl
      have q2 := (FO.out.bel hbr).cell 2 rfl
      have q3 := (FO.out.bel hbr).cell 3 rfl
      clear hx hbr h h2
      cases b
      · have HEE : Hid (xs ++ [⟨a0, a1, a2, a3⟩] = ro) := hid_ HE.out
        have HS1 : Hid ((xs.length + 1) * 48 ≤ 140737488355328) := hid_ (by have h1 := HXL.out; have h2 := HN.out; simp at h1; omega)
        clear HE
        go_wp2_with (at_builtin; refine wpApp (w0 := W0) accS rfl _ _ rfl _ xs [⟨a0, a1, a2, a3⟩] (some ⟨wr.heap.size, 0, none⟩) 1 1 rfl rfl (HOW.out.alloc_ _) (Row.one (T := accT) ⟨a0, a1, a2, a3⟩ rfl rfl) (BR.out.alloc _) HS1.out ?_; intro v1 x1 hO1 hb1 _ _)
        rw [HEE.out] at hO1
        have HO1 := hid_ (hO1.mono_ FB.out.size_)
        have HB1 := hid_ (FB.out.trans hb1)
        clear hO1 hb1
        try go_wp2
        go_ret
        exact ⟨_, rfl, HO1.out, HB1.out⟩
      · have HEE : Hid (xs = ro) := hid_ HE.out
        clear HE
        rw [HEE.out] at HOW
        go_wp2
        go_ret
        exact ⟨_, rfl, HOW.out.mono_ FB.out.size_, B0.out⟩
end Go.Proofs.YtnpinolhhnpniaaGreat
set_option linter.unusedSimpArgs false
set_option linter.unusedVariables false
namespace Go.Proofs.YtnpinolhhnpniaaGreat
open Go.RowKit Go.Lib
theorem wrap_sub (h m : Int) : wrap64 (h + wrap64 (-m)) = wrap64 (h - m) := by unfold wrap64; omega
set_option maxRecDepth 10000 in
set_option maxHeartbeats 2000000 in
theorem freeR_any (A : Option Addr) (n c : Nat) (l : List Acc) (p0 p1 : ByteArray) (m : Int) (w : World) (hA : Row accT w A n l) (hs : Srt l) (hn : n ≤ 99999) (h1 : p0.size ≤ 4294967280) (h2 : p1.size ≤ 4294967280) :
    Calls Tryz.prog 22 #[.slice A n c, .string p0, .string p1, .int .i64 m] w fun e w' => ∃ v, e = .returned (.tuple #[v, .int .i64 (mvE ⟨p0, p1⟩ m (if (findA l ⟨p0, p1⟩).held < m then 112 else 0))]) ∧ Own accT w' w.heap.size v (mvO l ⟨p0, p1⟩ m (if (findA l ⟨p0, p1⟩).held < m then 112 else 0) (wrap64 (-m))) ∧ Bel w w' := by
  have HA := hid_ hA
  have HS := hid_ hs
  have HN := hid_ hn
  have SZ := hid_ (And.intro h1 h2)
  obtain ⟨er, her⟩ : ∃ er : Int, (if (findA l ⟨p0, p1⟩).held < m then 112 else 0) = er := ⟨_, rfl⟩
  rw [her]
  obtain ⟨rm, hrm⟩ : ∃ r, mvE ⟨p0, p1⟩ m er = r := ⟨_, rfl⟩
  obtain ⟨ro, hro⟩ : ∃ r, mvO l ⟨p0, p1⟩ m er (wrap64 (-m)) = r := ⟨_, rfl⟩
  rw [hrm, hro]
  have HR := hid_ (And.intro hrm hro)
  have HER := hid_ her
  clear hA hs hn h1 h2 hrm hro her
  go_enter Tryz.func22, Tryz.ntmps22
  go_wp2_with fail
  refine (namesR_any p0 p1 w SZ.out.1 SZ.out.2).mono ?_
  rintro e _ ⟨rfl, rfl⟩
  obtain ⟨nb, hnb⟩ : ∃ b, namedB ⟨p0, p1⟩ = b := ⟨_, rfl⟩
  rw [hnb]
  have HNB := hid_ hnb
  clear hnb
  by_cases c1 : m < 1
  · have HF : Hid (rm = 1 ∧ ro = []) := hid_ (by have h := mv_0 (l := l) (p := ⟨p0, p1⟩) (m := m) (er := er) (d := wrap64 (-m)) (by unfold mvB; rw [decide_eq_true c1]; rfl); exact ⟨by rw [← HR.out.1, h.1], by rw [← HR.out.2, h.2]⟩)
    clear HR
    go_wp2
    go_ret2
    exact ⟨.slice none 0 0, by rw [HF.out.1]; rfl, by rw [HF.out.2]; exact Own.nil_ _ _ _, Bel.refl _⟩
  by_cases c2 : p0 = worldS
  · have HF : Hid (rm = 1 ∧ ro = []) := hid_ (by have h := mv_0 (l := l) (p := ⟨p0, p1⟩) (m := m) (er := er) (d := wrap64 (-m)) (by unfold mvB; rw [decide_eq_false c1, decide_eq_true c2]; rfl); exact ⟨by rw [← HR.out.1, h.1], by rw [← HR.out.2, h.2]⟩)
    have q : (p0.toList == ([119, 111, 114, 108, 100] : List UInt8)) = true := by rw [worldEq]; exact decide_eq_true c2
    clear HR c2
    go_wp2
    go_ret2
    exact ⟨.slice none 0 0, by rw [HF.out.1]; rfl, by rw [HF.out.2]; exact Own.nil_ _ _ _, Bel.refl _⟩
  have HC2 := hid_ c2
  have q : (p0.toList == ([119, 111, 114, 108, 100] : List UInt8)) = false := by rw [worldEq]; exact decide_eq_false c2
  clear c2
  cases nb
  · have HF : Hid (rm = 1 ∧ ro = []) := hid_ (by have h := mv_0 (l := l) (p := ⟨p0, p1⟩) (m := m) (er := er) (d := wrap64 (-m)) (by unfold mvB; rw [HNB.out, Bool.and_false, Bool.and_false]); exact ⟨by rw [← HR.out.1, h.1], by rw [← HR.out.2, h.2]⟩)
    clear HR
    go_wp2
    go_ret2
    exact ⟨.slice none 0 0, by rw [HF.out.1]; rfl, by rw [HF.out.2]; exact Own.nil_ _ _ _, Bel.refl _⟩
  have HOK : Hid (mvB ⟨p0, p1⟩ m = true) := hid_ (by unfold mvB; rw [HNB.out, decide_eq_false (show ¬ m < 1 by omega), decide_eq_false (show ¬ (Plc.mk p0 p1).who = worldS from HC2.out)]; rfl)
  go_wp2_with fail
  refine (findR_any A n c l p0 p1 _ HA.out).mono ?_
  rintro e w2 ⟨rfl, b⟩
  have B2 := hid_ b
  clear b
  obtain ⟨⟨f0, f1, f2, f3⟩, hf⟩ : ∃ f, findA l ⟨p0, p1⟩ = f := ⟨_, rfl⟩
  rw [hf]
  have HPL : Hid (f0 = p0 ∧ f1 = p1) := hid_ (by
    have h := findA_plc l ⟨p0, p1⟩
    rw [hf] at h
    simp only [Acc.plc, Plc.mk.injEq] at h
    exact h)
  have HE2 : Hid ((if f3 < m then (112 : Int) else 0) = er) := hid_ (by rw [← HER.out, hf])
  have HFI := hid_ hf
  simp only [accC]
  clear hf HER
  have K3 := hid_ (Bx.new w2 37 [.string f0, .string f1, .int .i64 f2, .int .i64 f3])
  have B3 := hid_ (B2.out.alloc (.cells #[.string f0, .string f1, .int .i64 f2, .int .i64 f3] 37))
  have HLE : Hid (w.heap.size ≤ w2.heap.size) := hid_ B2.out.size_
  by_cases c3 : f3 < m
  · have he : er ≠ 0 := by have := HE2.out; rw [if_pos c3] at this; omega
    have HF : Hid (rm = 112 ∧ ro = []) := hid_ (by have h := mv_1 (l := l) (d := wrap64 (-m)) HOK.out he; have h2 := HE2.out; rw [if_pos c3] at h2; exact ⟨by rw [← HR.out.1, h.1, h2], by rw [← HR.out.2, h.2]⟩)
    clear HR he HE2
    have z2 := K3.out.cell 2 rfl
    have z3 := K3.out.cell 3 rfl
    go_wp2
    go_ret2
    exact ⟨.slice none 0 0, by rw [HF.out.1]; rfl, by rw [HF.out.2]; exact Own.nil_ _ _ _, B3.out⟩
  · have he : er = 0 := by have := HE2.out; rw [if_neg c3] at this; exact this.symm
    subst he
    clear HE2
    have KS := hid_ (Bx.new w2 37 [.string f0, .string f1, .int .i64 f2, .int .i64 (wrap64 (f3 - m))])
    have BS := hid_ (B2.out.alloc (.cells #[.string f0, .string f1, .int .i64 f2, .int .i64 (wrap64 (f3 - m))] 37))
    have z0 := K3.out.cell 0 rfl
    have z1 := K3.out.cell 1 rfl
    have z2 := K3.out.cell 2 rfl
    have z3 := K3.out.cell 3 rfl
    have zf := fun j => K3.out.frozen j
    go_wp2_with fail
    generalize w2.alloc (.cells #[.string f0, .string f1, .int .i64 f2, .int .i64 (wrap64 (f3 - m))] 37) = w5 at KS BS ⊢
    refine (withR_any A n c l f0 f1 f2 (wrap64 (f3 - m)) w5 (HA.out.bel BS.out) HS.out HN.out).mono ?_
    rintro e w6 ⟨v, rfl, o, b⟩
    have HO : Hid (Own accT w6 w.heap.size v ro) := hid_ (by
      have h := (mv_2 (l := l) (d := wrap64 (-m)) HOK.out).2
      rw [HFI.out] at h
      have e : ro = withA l ⟨f0, f1, f2, wrap64 (f3 - m)⟩ := by rw [← HR.out.2, h, HPL.out.1, HPL.out.2]; simp only; rw [wrap_sub]
      rw [e]
      exact o.mono_ BS.out.size_)
    have HF : Hid (rm = 0) := hid_ (by rw [← HR.out.1]; exact (mv_2 (l := l) (d := wrap64 (-m)) HOK.out).1)
    have B6 := hid_ (BS.out.trans b)
    clear o b z0 z1 z2 z3 zf HR KS BS
    go_wp2
    go_ret2
    exact ⟨v, by rw [HF.out]; rfl, HO.out, B6.out⟩
end Go.Proofs.YtnpinolhhnpniaaGreat
set_option linter.unusedSimpArgs false
set_option linter.unusedVariables false
namespace Go.Proofs.YtnpinolhhnpniaaGreat
open Go.RowKit Go.Lib
set_option maxRecDepth 10000 in
set_option maxHeartbeats 2000000 in
theorem sum11_any (A : Option Addr) (n c : Nat) (l : List Due) (p0 p1 : ByteArray) (w : World) (hA : Row legT w A n l) (hn : n ≤ 90000) (hz : ∀ x ∈ l, -9223372036854775808 ≤ x.amount ∧ x.amount ≤ 9223372036854775807) :
    Calls Tryz.prog 69 #[.slice A n c, .string p0, .string p1] w fun e w' => e = .returned (.tuple #[.int .i64 (sumV (amts l ⟨p0, p1⟩)), .int .i64 (sumE (amts l ⟨p0, p1⟩))]) ∧ Bel w w' := by
  have hn63 := hA.2.1
  have HA := hid_ hA
  have HL := hid_ hA.1
  have HN := hid_ hn
  have HI := hid_ (amts_i64 (legs := l) hz ⟨p0, p1⟩)
  obtain ⟨rv, hrv⟩ : ∃ r, sumV (amts l ⟨p0, p1⟩) = r := ⟨_, rfl⟩
  obtain ⟨re, hre⟩ : ∃ r, sumE (amts l ⟨p0, p1⟩) = r := ⟨_, rfl⟩
  rw [hrv, hre]
  have HR := hid_ (And.intro hrv hre)
  clear hA hn hz hrv hre
  go_enter Tryz.func69, Tryz.ntmps69
  go_wp2_with fail
  go_loopw [8, 9] (fun v i wr => ∃ j : Nat, j ≤ n ∧ i = .int .i64 j ∧ Hid (Own i64T wr w.heap.size v (amts (l.take j) ⟨p0, p1⟩)) ∧ Hid (Bel w wr)) (fun _ i _ => n - (intOf i).toNat)
  case atStart => exact ⟨0, Nat.zero_le _, rfl, hid_ (Own.nil_ _ _ _), hid_ (Bel.refl _)⟩
  case round =>
    obtain ⟨j, hj, rfl, hO, hB⟩ := hrel
    by_cases hjn : j < n
    · obtain ⟨ad, k0, k1, k2, rfl, ho, d0, d1, d2⟩ := (HA.out.bel hB.out).leg hjn
      have HST := hid_ (amts_step ho ⟨p0, p1⟩)
      clear ho
      have i0 : (0 : Int) ≤ (j : Int) := by omega
      have i1 : (j : Int) < (n : Int) := by omega
      obtain ⟨e1, he1⟩ : ∃ e1, (k0.toList == p0.toList) = e1 := ⟨_, rfl⟩
      obtain ⟨e2, he2⟩ : ∃ e2, (k1.toList == p1.toList) = e2 := ⟨_, rfl⟩
      have h1 := he1
      have h2 := he2
      rw [bytesEq] at h1 h2
      have HEQ : Hid ((e1 && e2) = decide ((⟨k0, k1⟩ : Plc) = ⟨p0, p1⟩)) := hid_ (by rw [← h1, ← h2, ← Bool.decide_and]; simp only [Plc.mk.injEq])
      clear h1 h2
      cases e1
      · have HF : Hid (amts (l.take (j + 1)) ⟨p0, p1⟩ = amts (l.take j) ⟨p0, p1⟩) := hid_ (by rw [HST.out, if_neg (fun e => by have := HEQ.out; rw [decide_eq_true (show (⟨k0, k1⟩ : Plc) = ⟨p0, p1⟩ from e)] at this; cases this), List.append_nil])
        clear HST HEQ
        go_wp2
        case roundEnd =>
          go_round
          case rel => exact ⟨j + 1, by omega, by go_num, hid_ (by rw [HF.out]; exact hO.out), hB⟩
          case measure => simp [intOf]; omega
      · cases e2
        · have HF : Hid (amts (l.take (j + 1)) ⟨p0, p1⟩ = amts (l.take j) ⟨p0, p1⟩) := hid_ (by rw [HST.out, if_neg (fun e => by have := HEQ.out; rw [decide_eq_true (show (⟨k0, k1⟩ : Plc) = ⟨p0, p1⟩ from e)] at this; cases this), List.append_nil])
          clear HST HEQ
          go_wp2
          case roundEnd =>
            go_round
            case rel => exact ⟨j + 1, by omega, by go_num, hid_ (by rw [HF.out]; exact hO.out), hB⟩
            case measure => simp [intOf]; omega
        · have HF : Hid (amts (l.take (j + 1)) ⟨p0, p1⟩ = amts (l.take j) ⟨p0, p1⟩ ++ [k2]) := hid_ (by rw [HST.out, if_pos]; exact of_decide_eq_true HEQ.out.symm)
          have HSL : Hid (((amts (l.take j) ⟨p0, p1⟩).length + 1) * 8 ≤ 140737488355328) := hid_ (by
            have h1 := amts_len (l.take j) ⟨p0, p1⟩
            have h2 : (l.take j).length ≤ j := by rw [List.length_take]; omega
            have h3 := HN.out
            omega)
          clear HST HEQ
          go_wp2_with (at_builtin; refine wpApp (w0 := w) i64S rfl _ _ rfl _ (amts (l.take j) ⟨p0, p1⟩) [k2] (some ⟨wr.heap.size, 0, none⟩) 1 1 rfl rfl (hO.out.alloc_ _) (Row.one (T := i64T) k2 rfl rfl) (hB.out.alloc _) HSL.out ?_; intro v1 x1 hO1 hb1 _ _)
          case roundEnd =>
            go_round
            case rel => exact ⟨j + 1, by omega, by go_num, hid_ (by rw [HF.out]; exact hO1), hid_ hb1⟩
            case measure => simp [intOf]; omega
    · obtain rfl : n = j := by omega
      have hO2 := hO.out
      rw [show l.take n = l from List.take_of_length_le (by rw [HL.out]; exact Nat.le_refl _)] at hO2
      obtain ⟨X, kx, rfl, hkx, rx⟩ := hO2.reads
      have RX := hid_ rx
      clear hO hO2 hjn hj hkx rx
      go_wp2_with fail
      refine (sumR_any X _ kx (amts l ⟨p0, p1⟩) wr RX.out (by have h1 := amts_len l ⟨p0, p1⟩; rw [HL.out] at h1; have := HN.out; omega) HI.out).mono ?_
      rintro e w2 ⟨rfl, b⟩
      have HB2 := hid_ (hB.out.trans b)
      rw [HR.out.1, HR.out.2]
      clear b RX hB
      go_wp2
      go_ret2
      exact ⟨rfl, HB2.out⟩
theorem who_pos {s : ByteArray} (h : whoB s = true) : ltX ⟨#[]⟩ s = true := by
  rcases ltX_tot (a := (⟨#[]⟩ : ByteArray)) (b := s) (fun e => by rw [← e] at h; exact absurd h (by decide +kernel)) with k | k
  · exact k
  · exfalso
    unfold ltX at k
    cases hs : s.toList with
    | nil => rw [hs] at k; exact absurd k (by decide +kernel)
    | cons x r => rw [hs, show ByteArray.toList (⟨#[]⟩ : ByteArray) = [] by decide +kernel] at k; simp [Op.bytesLess] at k
theorem emP_lt {p : Plc} (h : namedB p = true) : ltP emP p = true := by
  unfold namedB at h
  rw [Bool.and_eq_true] at h
  rw [ltP_iff]
  exact .inl (who_pos h.1)
theorem names_same (who asset : ByteArray) (w : World) (h1 : who.size ≤ 4294967280) (h2 : asset.size ≤ 4294967280) :
    Calls Tryz.prog 39 #[.string who, .string asset] w fun e w' => e = .returned (.bool (namedB ⟨who, asset⟩)) ∧ w' = w := (namesR_any who asset w h1 h2).mono fun _ _ ⟨h, k⟩ => ⟨h, k.symm⟩
set_option maxRecDepth 10000 in
set_option maxHeartbeats 8000000 in
theorem postR_any (A : Option Addr) (n c : Nat) (l : List Acc) (B : Option Addr) (m d : Nat) (legs : List Due) (w : World) (hA : Row accT w A n l) (hs : Srt l) (hn : n ≤ 90000) (hB : Row legT w B m legs)
    (hz : ∀ x ∈ legs, x.who.size ≤ 4294967280 ∧ x.asset.size ≤ 4294967280 ∧ i64w x.amount) (hbal : ∀ a ∈ l, i64w a.balance) :
    Calls Tryz.prog 53 #[.slice A n c, .slice B m d] w fun e w' => ∃ v, e = .returned (.tuple #[v, .int .i64 (postE l legs)]) ∧ Own accT w' w.heap.size v (postO l legs) ∧ Bel w w' := by
  have hm63 := hB.2.1
  have HA := hid_ hA
  have HB := hid_ hB
  have HS := hid_ hs
  have HZ := hid_ hz
  have HBL := hid_ hbal
  have HLB := hid_ hB.1
  have HLA := hid_ hA.1
  have HN := hid_ hn
  obtain ⟨re, hre⟩ : ∃ r, postE l legs = r := ⟨_, rfl⟩
  obtain ⟨ro, hro⟩ : ∃ r, postO l legs = r := ⟨_, rfl⟩
  rw [hre, hro]
  have HR := hid_ (And.intro hre hro)
  clear hA hB hs hz hbal hre hro hn
  have HNO : Hid (mayPost legs = false → re = 1 ∧ ro = []) := hid_ (fun h => by
    have := postE_no (l := l) h
    exact ⟨HR.out.1 ▸ this.1, HR.out.2 ▸ this.2⟩)
  go_enter Tryz.func53, Tryz.ntmps53
  by_cases h1 : m < 1
  · have HF := hid_ (HNO.out (by unfold mayPost; rw [HLB.out, decide_eq_false (show ¬ 1 ≤ m by omega)]; rfl))
    go_wp2
    go_ret2
    exact ⟨.slice none 0 0, by rw [HF.out.1]; rfl, by rw [HF.out.2]; exact Own.nil_ _ _ _, Bel.refl _⟩
  by_cases h2 : 200 < m
  · have HF := hid_ (HNO.out (by unfold mayPost; rw [HLB.out, decide_eq_false (show ¬ m ≤ 200 by omega)]; simp))
    go_wp2
    go_ret2
    exact ⟨.slice none 0 0, by rw [HF.out.1]; rfl, by rw [HF.out.2]; exact Own.nil_ _ _ _, Bel.refl _⟩
  have HM : Hid (1 ≤ m ∧ m ≤ 200) := hid_ (by omega)
  have d1 : decide (m < 1) = false := decide_eq_false h1
  have d2 : decide (200 < m) = false := decide_eq_false h2
  go_wp2_with fail
  clear d1 d2 h1 h2
  go_loopw [6, 7] (fun i _ wr => ∃ j : Nat, j ≤ m ∧ i = .int .i64 j ∧ Hid (∀ x ∈ legs.take j, namedB x.plc = true) ∧ Hid (Bel w wr)) (fun i _ _ => m - (intOf i).toNat)
  case atStart => exact ⟨0, Nat.zero_le _, rfl, hid_ (by simp), hid_ (Bel.refl _)⟩
  case round =>
    obtain ⟨j, hj, rfl, hNM, hBR⟩ := hrel
    by_cases hjm : j < m
    · obtain ⟨ad, g0, g1, g2, rfl, ho, e0, e1, e2⟩ := (HB.out.bel hBR.out).leg hjm
      have HO := hid_ ho
      have HZ1 := hid_ (HZ.out _ (List.mem_of_getElem? ho))
      have HMM := hid_ (List.mem_of_getElem? ho)
      clear ho e2
      have i0 : (0 : Int) ≤ (j : Int) := by omega
      have i1 : (j : Int) < (m : Int) := by omega
      obtain ⟨nb, hnb⟩ : ∃ nb, namedB ⟨g0, g1⟩ = nb := ⟨_, rfl⟩
      have HNB := hid_ hnb
      clear hnb
      go_upto_region 6 with (fail)
      go_quiet ((go_at_call 39; exact Calls.quiet_of_same (names_same g0 g1 _ HZ1.out.1 HZ1.out.2.1)))
      rw [show namedB ⟨g0, g1⟩ = nb from HNB.out]
      obtain ⟨W2, hW2, hb2⟩ : ∃ W2, wr.drewN nq = W2 ∧ Bel wr W2 := ⟨_, rfl, (Bel.refl wr).drewN _⟩
      rw [hW2]
      have HB2 := hid_ (hBR.out.trans hb2)
      clear hW2 hb2 hBR e0 e1
      cases nb
      · have HF := hid_ (HNO.out (by
          unfold mayPost
          have : legs.all (fun d => namedB d.plc) = false := by
            cases ha : legs.all (fun d => namedB d.plc)
            · rfl
            · have := List.all_eq_true.1 ha _ HMM.out
              rw [show namedB (Due.plc ⟨g0, g1, g2⟩) = false from HNB.out] at this
              cases this
          rw [this]; simp))
        go_wp2
        go_ret2
        exact ⟨.slice none 0 0, by rw [HF.out.1]; rfl, by rw [HF.out.2]; exact Own.nil_ _ _ _, HB2.out⟩
      · have HN6 : Hid (∀ x ∈ legs.take (j + 1), namedB x.plc = true) := hid_ (by
          intro x hx
          rw [List.take_add_one, HO.out] at hx
          rcases List.mem_append.1 hx with hx | hx
          · exact hNM.out x hx
          · simp at hx
            subst hx
            exact HNB.out)
        clear hNM
        go_wp2
        case roundEnd =>
          go_round
          case rel => exact ⟨j + 1, by omega, by go_num, HN6, HB2⟩
          case measure => simp [intOf]; omega
    · obtain rfl : m = j := by omega
      have HALL : Hid (∀ x ∈ legs, namedB x.plc = true) := hid_ (by
        have h3 := hNM.out
        rw [List.take_of_length_le (by rw [HLB.out]; exact Nat.le_refl _)] at h3
        exact h3)
      have HNM : Hid (mayPost legs = true) := hid_ (by
        unfold mayPost
        rw [HLB.out, decide_eq_true HM.out.1, decide_eq_true HM.out.2, List.all_eq_true.2 HALL.out]
        rfl)
      have HST := hid_ (post_start (l := l) HNM.out)
      obtain ⟨P, hP⟩ : ∃ P, legP legs = P := ⟨_, rfl⟩
      have HP := hid_ hP
      have HPD : Hid (dueP legs = P) := hid_ hP
      have HPN : Hid (P.length ≤ 200) := hid_ (by rw [← hP]; exact Nat.le_trans (legP_len legs) (by rw [HLB.out]; exact HM.out.2))
      rw [hP] at HST
      obtain ⟨W0, hW0⟩ : ∃ W0, wr = W0 := ⟨_, rfl⟩
      rw [hW0] at hBR ⊢
      have FA := hid_ (HA.out.bel hBR.out)
      clear hNM hjm hj hP hW0
      go_wp2_with (at_builtin; refine wpApp (w0 := W0) accS rfl _ _ rfl _ [] l A n c rfl rfl (Own.litE (T := accT) W0 W0.heap.size _ _ rfl rfl (Nat.le_refl _)) (FA.out.bel ((Bel.refl W0).alloc _)) ((Bel.refl W0).alloc _) (by have := HN.out; simp; omega) ?_; intro v4 w4 hO4 hb4 _ _)
      have hO5 : Own accT w4 W0.heap.size v4 l := hO4
      obtain ⟨A4, c4, rfl, hc4, r4⟩ := hO5.reads
      rw [HLA.out] at hc4 r4 ⊢
      have HW4 := hid_ (hBR.out.trans hb4)
      have HRL0 := hid_ (And.intro hc4 (And.intro r4 ((show Own accT w4 W0.heap.size (.slice A4 n c4) l by rw [← HLA.out]; exact hO5).mono_ hBR.out.size_)))
      clear hO4 hO5 hc4 r4 hb4 hBR FA
      go_loopg [8, 9, 10] (P.length) (fun k v s9 s10 wr => ∃ (j : Nat) (L : List Acc) (q : Plc) (A' : Option Addr) (n' c' : Nat), j ≤ P.length ∧ k = P.length - j ∧ v = .slice A' n' c' ∧ s9 = .string q.who ∧ s10 = .string q.asset ∧ Hid ((j = 0 ∧ q = emP) ∨ (∃ i, j = i + 1 ∧ P[i]? = some q)) ∧ Hid (n' ≤ c' ∧ Row accT wr A' n' L ∧ Own accT wr w.heap.size (.slice A' n' c') L) ∧ Hid (Srt L ∧ (∀ a ∈ L, i64w a.balance) ∧ n' ≤ 90000 + j) ∧ Hid (postGo legs (P.drop j) L = (re, ro)) ∧ Hid (Bel w wr))
      case atStart => exact ⟨0, l, emP, A4, n, c4, Nat.zero_le _, rfl, rfl, rfl, rfl, hid_ (.inl ⟨rfl, rfl⟩), HRL0, hid_ ⟨HS.out, HBL.out, Nat.le_trans HN.out (by omega)⟩, hid_ (by rw [List.drop_zero, HST.out, HR.out.1, HR.out.2]), HW4⟩
      case round =>
        obtain ⟨j, L, ⟨q0, q1⟩, A', n', c', hj, rfl, rfl, rfl, rfl, hQ, hRL, hSL, hPG, hBr⟩ := hrel
        have HNX : Hid (nfold false ⟨q0, q1⟩ legs = P[j]?) := hid_ (by
          rcases hQ.out with ⟨rfl, e⟩ | ⟨i, rfl, e⟩
          · rw [e, ← HPD.out]
            exact nfold_empty (fun d hd => emP_lt (HALL.out d hd))
          · rw [← HPD.out]
            exact nfold_next legs (by rw [HPD.out]; exact e))
        clear hQ
        go_wp2_with fail
        refine (next11 _ m d legs q0 q1 wr (HB.out.bel hBr.out)).mono ?_
        rintro e Wn ⟨⟨r0, r1⟩, a, f, rfl, hN, bn⟩
        have HN2 : Hid ((if f then some (⟨r0, r1⟩ : Plc) else none) = P[j]?) := hid_ (hN.symm.trans HNX.out)
        have k11 := hid_ (Bx.new Wn 52 [.string r0, .string r1, .int .i64 a])
        have BA := hid_ (bn.alloc (.cells #[.string r0, .string r1, .int .i64 a] 52))
        clear hN bn HNX
        cases f
        · have HF := hid_ (post_end hPG.out (by
            have h1 : P[j]? = none := HN2.out.symm
            exact List.getElem?_eq_none_iff.1 h1))
          have HO := hid_ hRL.out.2.2
          have HBF := hid_ (hBr.out.trans BA.out)
          have HO2 := hid_ (HO.out.bel BA.out)
          clear hRL hSL hPG hBr HO
          go_wp2
          go_ret2
          exact ⟨_, by rw [HF.out.1]; rfl, by rw [HF.out.2]; exact HO2.out, HBF.out⟩
        have HPJ : Hid (P[j]? = some ⟨r0, r1⟩) := hid_ HN2.out.symm
        have HJ : Hid (j < P.length) := hid_ ((List.getElem?_eq_some_iff.1 HPJ.out).1)
        clear HN2
        go_upto_region 15 with (fail)
        generalize Wn.alloc (.cells #[.string r0, .string r1, .int .i64 a] 52) = Wa at k11 BA ⊢
        generalize Wn.heap.size = g11 at k11 ⊢
        have q0' := k11.out.cell 0 rfl
        have q1' := k11.out.cell 1 rfl
        obtain ⟨x2, x3, hfx⟩ : ∃ x2 x3, findA L ⟨r0, r1⟩ = ⟨r0, r1, x2, x3⟩ := by
          have h := findA_plc L ⟨r0, r1⟩
          obtain ⟨y, hy⟩ : ∃ y, findA L ⟨r0, r1⟩ = y := ⟨_, rfl⟩
          rw [hy] at h ⊢
          obtain ⟨y0, y1, y2, y3⟩ := y
          simp only [Acc.plc, Plc.mk.injEq] at h
          exact ⟨y2, y3, by rw [h.1, h.2]⟩
        have HFX := hid_ hfx
        have HX2 : Hid (i64w x2) := hid_ (by have := find_i64 hSL.out.2.1 ⟨r0, r1⟩; rw [hfx] at this; exact this)
        have HSTEP := hid_ (post_step hPG.out HPJ.out hfx)
        clear hfx hj
        go_wp2_with fail
        refine (findR_any A' n' c' L r0 r1 Wa (hRL.out.2.1.bel BA.out)).mono ?_
        rintro e Wb ⟨rfl, bb⟩
        rw [HFX.out, show (accC ⟨r0, r1, x2, x3⟩).toArray = #[.string r0, .string r1, .int .i64 x2, .int .i64 x3] from rfl]
        have kc := hid_ (Bx.new Wb 37 [.string r0, .string r1, .int .i64 x2, .int .i64 x3])
        have BC := hid_ ((BA.out.trans bb).alloc (.cells #[.string r0, .string r1, .int .i64 x2, .int .i64 x3] 37))
        have HGA : Hid (wr.heap.size ≤ Wb.heap.size) := hid_ (BA.out.trans bb).size_
        clear q0' q1' k11 bb BA
        go_wp2_with fail
        generalize Wb.alloc (.cells #[.string r0, .string r1, .int .i64 x2, .int .i64 x3] 37) = Wc at kc BC ⊢
        obtain ⟨gA, hgA⟩ : ∃ g, Wb.heap.size = g := ⟨_, rfl⟩
        rw [hgA] at kc HGA ⊢
        clear hgA
        refine (sum11_any _ m d legs r0 r1 Wc (HB.out.bel (hBr.out.trans BC.out)) (Nat.le_trans HM.out.2 (by decide)) (fun x hx => (HZ.out x hx).2.2)).mono ?_
        rintro e Wd ⟨rfl, bd⟩
        have kd := hid_ (kc.out.bel bd)
        have BD := hid_ (BC.out.trans bd)
        clear kc BC bd
        obtain ⟨so, hso⟩ : ∃ so, sumOk (amts legs ⟨r0, r1⟩) = so := ⟨_, rfl⟩
        obtain ⟨sm, hsm⟩ : ∃ sm, (amts legs ⟨r0, r1⟩).sum = sm := ⟨_, rfl⟩
        have HSM := hid_ hsm
        have q2 := kd.out.cell 2 rfl
        cases so
        · have HF := hid_ (HSTEP.out.1 hso)
          have HBF := hid_ (hBr.out.trans BD.out)
          rw [show sumV (amts legs ⟨r0, r1⟩) = 0 by unfold sumV; rw [hso]; rfl, show sumE (amts legs ⟨r0, r1⟩) = 10 by unfold sumE; rw [hso]; rfl]
          clear hso hsm HSTEP hRL hSL hPG hBr
          go_wp2
          go_ret2
          exact ⟨.slice none 0 0, by rw [HF.out.1]; rfl, by rw [HF.out.2]; exact Own.nil_ _ _ _, HBF.out⟩
        rw [show sumV (amts legs ⟨r0, r1⟩) = sm by unfold sumV; rw [hso, if_pos rfl, hsm], show sumE (amts legs ⟨r0, r1⟩) = 0 by unfold sumE; rw [hso]; rfl]
        have HI2 : Hid (i64w sm) := hid_ (by unfold sumOk at hso; rw [hsm] at hso; simpa [i64w] using hso)
        have HST2 := hid_ (HSTEP.out.2)
        have HSO := hid_ hso
        clear hso hsm HSTEP
        go_wp2_with fail
        clear q2
        refine (addR_any x2 sm Wd HX2.out HI2.out).mono ?_
        rintro e _ ⟨rfl, rfl⟩
        obtain ⟨y, hy⟩ : ∃ y, x2 + sm = y := ⟨_, rfl⟩
        rw [HSM.out, hy] at HST2
        obtain ⟨ib, hib⟩ : ∃ ib, i64B y = ib := ⟨_, rfl⟩
        have q0 := kd.out.cell 0 rfl
        have q1 := kd.out.cell 1 rfl
        have q2 := kd.out.cell 2 rfl
        have q3 := kd.out.cell 3 rfl
        have fz := kd.out.frozen 2
        cases ib
        · have HF := hid_ (HST2.out.1 HSO.out hib)
          have HBF := hid_ (hBr.out.trans BD.out)
          rw [show addV x2 sm = 0 by unfold addV; rw [hy, hib]; rfl, show addE x2 sm = 10 by unfold addE; rw [hy, hib]; rfl]
          clear hib hy HST2 hRL hSL hPG hBr
          go_wp2
          go_ret2
          exact ⟨.slice none 0 0, by rw [HF.out.1]; rfl, by rw [HF.out.2]; exact Own.nil_ _ _ _, HBF.out⟩
        rw [show addV x2 sm = y by unfold addV; rw [hy, hib]; rfl, show addE x2 sm = 0 by unfold addE; rw [hy, hib]; rfl]
        have HIB := hid_ hib
        have HY : Hid (x2 + sm = y ∧ i64w y) := hid_ ⟨hy, by have := (i64B_iff y).1 hib; exact this⟩
        have BS := hid_ (Bel.setBx (j := 2) BD.out HGA.out (.int .i64 y))
        have HBF := hid_ (hBr.out.trans BD.out)
        clear hib hy
        by_cases hw : r0 = worldS
        · have qw : (r0.toList == ([119, 111, 114, 108, 100] : List UInt8)) = true := by rw [worldEq]; exact decide_eq_true hw
          have HNW : Hid (¬ (r0 ≠ worldS ∧ y < x3)) := hid_ (fun h => h.1 hw)
          clear hw
          have HPG2 := hid_ (HST2.out.2.2 HSO.out HIB.out HNW.out)
          have HWL := hid_ (with_len L ⟨r0, r1, y, x3⟩)
          go_wp2_with fail
          clear q0 q1 q2 q3 fz qw
          refine (withR_any A' n' c' L r0 r1 y x3 _ (hRL.out.2.1.bel BS.out) hSL.out.1 (by have := hSL.out.2.2; have := HPN.out; have := HJ.out; omega)).mono ?_
          rintro e Ww ⟨v, rfl, o, bw⟩
          obtain ⟨A2, c2, rfl, hc2, r2⟩ := o.reads
          have HRL2 := hid_ (And.intro hc2 (And.intro r2 (o.mono_ (hBr.out.trans BS.out).size_)))
          have HBW := hid_ (hBr.out.trans (BS.out.trans bw))
          have HSL2 : Hid (Srt (withA L ⟨r0, r1, y, x3⟩) ∧ (∀ a ∈ withA L ⟨r0, r1, y, x3⟩, i64w a.balance) ∧ (withA L ⟨r0, r1, y, x3⟩).length ≤ 90000 + (j + 1)) := hid_ ⟨srt_with hSL.out.1 _, fun a ha => by
            rcases mem_with hSL.out.1 ha with ⟨h, _⟩ | ⟨h, _⟩
            · exact hSL.out.2.1 a h
            · rw [h]; exact HY.out.2, by have h1 := HWL.out; have h2 := hSL.out.2.2; have h3 := hRL.out.2.1.1; omega⟩
          clear o bw hc2 r2
          go_wp2
          go_roundg (P.length - (j + 1))
          case measure => have := HJ.out; omega
          case rel => exact ⟨j + 1, _, ⟨r0, r1⟩, A2, _, c2, HJ.out, rfl, rfl, rfl, rfl, hid_ (.inr ⟨j, rfl, HPJ.out⟩), HRL2, HSL2, HPG2, HBW⟩
        have qw : (r0.toList == ([119, 111, 114, 108, 100] : List UInt8)) = false := by rw [worldEq]; exact decide_eq_false hw
        have HW := hid_ hw
        clear hw
        by_cases hlt : y < x3
        · have HF := hid_ (HST2.out.2.1 HSO.out HIB.out ⟨HW.out, hlt⟩)
          clear HST2 hRL hSL hPG hBr
          go_wp2
          go_ret2
          exact ⟨.slice none 0 0, by rw [HF.out.1]; rfl, by rw [HF.out.2]; exact Own.nil_ _ _ _, HBF.out⟩
        · have HNW : Hid (¬ (r0 ≠ worldS ∧ y < x3)) := hid_ (fun h => hlt h.2)
          have dl : decide (y < x3) = false := decide_eq_false hlt
          have HPG2 := hid_ (HST2.out.2.2 HSO.out HIB.out HNW.out)
          have HWL := hid_ (with_len L ⟨r0, r1, y, x3⟩)
          go_wp2_with fail
          clear q0 q1 q2 q3 fz qw dl hlt
          refine (withR_any A' n' c' L r0 r1 y x3 _ (hRL.out.2.1.bel BS.out) hSL.out.1 (by have := hSL.out.2.2; have := HPN.out; have := HJ.out; omega)).mono ?_
          rintro e Ww ⟨v, rfl, o, bw⟩
          obtain ⟨A2, c2, rfl, hc2, r2⟩ := o.reads
          have HRL2 := hid_ (And.intro hc2 (And.intro r2 (o.mono_ (hBr.out.trans BS.out).size_)))
          have HBW := hid_ (hBr.out.trans (BS.out.trans bw))
          have HSL2 : Hid (Srt (withA L ⟨r0, r1, y, x3⟩) ∧ (∀ a ∈ withA L ⟨r0, r1, y, x3⟩, i64w a.balance) ∧ (withA L ⟨r0, r1, y, x3⟩).length ≤ 90000 + (j + 1)) := hid_ ⟨srt_with hSL.out.1 _, fun a ha => by
            rcases mem_with hSL.out.1 ha with ⟨h, _⟩ | ⟨h, _⟩
            · exact hSL.out.2.1 a h
            · rw [h]; exact HY.out.2, by have h1 := HWL.out; have h2 := hSL.out.2.2; have h3 := hRL.out.2.1.1; omega⟩
          clear o bw hc2 r2
          go_wp2
          go_roundg (P.length - (j + 1))
          case measure => have := HJ.out; omega
          case rel => exact ⟨j + 1, _, ⟨r0, r1⟩, A2, _, c2, HJ.out, rfl, rfl, rfl, rfl, hid_ (.inr ⟨j, rfl, HPJ.out⟩), HRL2, HSL2, HPG2, HBW⟩
end Go.Proofs.YtnpinolhhnpniaaGreat
