/- (*reader).page of no kind: the walk. -/
import Derived.Test.YtcfabnkkkpcelaaPgD2
import Derived.Deep.DeepCutAuto
set_option linter.unusedSimpArgs false
set_option linter.unusedVariables false
namespace Go.Proofs.Ytcfabnkkkpcelaa
open Go.RowKit
set_option maxRecDepth 10000 in
set_option maxHeartbeats 4000000 in
theorem rpage3_any (w0 U : World) (g : Nat) (ep : Int) (rest : List Int) (h : Rd w0 U g (pgC (zE 0 ep) nilV nilV nilV nilV) rest) (hlen : 2 ≤ rest.length) :
    Calls Try.prog 46 #[.pointer (some ⟨g, 0, none⟩), .int .i64 3] U (RP w0 U g 3 ep rest) := by
  unfold pgC nilV zE at h
  simp only [pgZ] at h
  have c1 := h.cell 0 rfl
  have f1 := h.fz 1
  have HR0 := hid_ (h.set 0 (.int .i64 3))
  have HG0 := hid_ (setG U g 1 (.int .i64 3))
  simp only [List.set] at HR0
  have HL := hid_ h.lt
  clear h
  go_enter Try.func46, Try.ntmps46
  obtain ⟨x1, r1, e1, l1⟩ := rd2_ex hlen
  have hb1 := rd2_rng HR0.out.byt e1
  obtain ⟨n, rfl⟩ : ∃ n : Nat, x1 = (n : Int) := ⟨x1.toNat, by omega⟩
  have HN : Hid (n < 65536) := hid_ (by omega)
  have HRP : Hid (∀ ps r, rdFr n [] r1 = rdFr 0 ps r → rdP 3 ep rest = (match rd2 r with | none => none | some (x, _) => some { pgZ with kind := 3, epoch := ep, pages := ps, next := x })) := hid_ (fun ps r hh => by
    rw [rdP, if_neg (by decide), if_neg (by decide), if_pos rfl, rd3]
    simp only [e1, Int.toNat_natCast, hh, rdFr]
    cases rd2 r <;> rfl)
  have HRN : Hid (rdFr n [] r1 = none → rdP 3 ep rest = none) := hid_ (fun hh => by
    rw [rdP, if_neg (by decide), if_neg (by decide), if_pos rfl, rd3]
    simp only [e1, Int.toNat_natCast, hh])
  have HE1 := hid_ e1
  clear e1 l1 hb1 hlen
  go_upto_region 19 with (fail)
  generalize U.setCell ⟨g, 1, none⟩ (.int .i64 3) = V at HR0 HG0 ⊢
  have HT := hid_ (two_ok w0 V g _ _ _ _ HR0.out HE1.out)
  clear c1 f1
  go_wp2_with (first | (go_at_call 59; with_reducible refine HT.out.mono ?_; rintro e w1 ⟨rfl, hR1, hG1⟩))
  have HG1 := hid_ (grown2 HG0.out hG1)
  have HR1 := hid_ hR1
  clear hR1 hG1 HT HR0 HG0 HE1
  go_loopw [120] (fun i wr => ∃ (k : Nat) (ps r : List Int) (v : Value), k ≤ n ∧ i = .int .i64 k ∧ Hid (Rd w0 wr g [.int .i64 3, .slice none 0 0, .slice none 0 0, .slice none 0 0, v, .int .i64 0, .int .u64 ep, .int .i64 0, .int .i64 0, .int .i64 0, .int .i64 0] r) ∧ Hid (Own intT wr U.heap.size v ps) ∧ Hid (U.grownBy wr (some g)) ∧ Hid (rdFr n [] r1 = rdFr (n - k) ps r) ∧ Hid (ps.length = k)) (fun i _ => n - (Go.RowKit.intOf i).toNat)
  case atStart => exact ⟨0, [], r1, .slice none 0 0, by omega, rfl, HR1, hid_ (Own.nil_ _ _ _), HG1, hid_ rfl, hid_ rfl⟩
  case round =>
    obtain ⟨k, ps, r, v, hk, rfl, hR, hO, hG, hE, hP⟩ := hrel
    clear HR1 HG1
    by_cases hkn : k < n
    · have hst : rdFr (n - k) ps r = (match rd2 r with | none => none | some (d, r2) => rdFr (n - (k + 1)) (ps ++ [d]) r2) := by
        rw [show n - k = (n - (k + 1)) + 1 by omega, rdFr]
        cases rd2 r <;> rfl
      have HNE := hid_ (ownNeG hO.out HL.out)
      have c5 := hR.out.cell 4 rfl
      have f5 := hR.out.fz 5
      cases hd : rd2 r with
      | none =>
        rw [hd] at hst
        have HF := hid_ (HRN.out (hE.out.trans hst))
        have HT := hid_ (two_no w0 wr.drew g _ _ hR.out.drew hd)
        have HBE := hid_ hR.out.bel.drew
        have HGE := hid_ (grown2 hG.out (((Bel.refl wr).drew).gG _))
        clear hst hd
        go_upto_region 21 with (fail)
        go_region_dies
        all_goals (
          refine HT.out.mono ?_
          rintro e w2 ⟨rfl, rfl⟩
          go_wp2
          exact ⟨rfl, .inr ⟨HF.out, rfl, HBE.out, HGE.out⟩⟩)
      | some p =>
        obtain ⟨d, r2⟩ := p
        rw [hd] at hst
        have HST := hid_ (hE.out.trans hst)
        have HT := hid_ (two_ok w0 wr.drew g _ _ _ _ hR.out.drew hd)
        have HOD := hid_ (hO.out.bel ((Bel.refl wr).drew))
        have HGD := hid_ (grown2 hG.out (((Bel.refl wr).drew).gG _))
        have HUS : Hid (∀ w1 : World, wr.drew.grownBy w1 (some g) → U.heap.size ≤ (w1.alloc (.cells #[.int .i64 d] 3)).heap.size) := hid_ (fun w1 hw => by have h1 := (grown2 HGD.out hw).size; simp; omega)
        have HKN := hid_ hkn
        have hnb := HN.out
        have HLN : Hid ((ps.length + 1) * 8 ≤ 140737488355328) := hid_ (by have := hP.out; have := HN.out; omega)
        have HLQ : Hid ((ps ++ [d]).length = k + 1) := hid_ (by have := hP.out; simp [this])
        have HUW : Hid (w0.heap.size ≤ U.heap.size) := hid_ (by have h1 := hR.out.le; have h2 := HL.out; omega)
        clear hst hd
        go_upto_region 21 with (fail)
        go_region_law (first
          | (refine stepAppB intS rfl _ _ rfl v ps [d] (some ⟨w1.heap.size, 0, none⟩) 1 1 rfl rfl (hO1.alloc_ _) (Row.one (T := intT) d rfl rfl) (HUS.out w1 hG1) HLN.out ?_; intro v1 x1 hOx hgx hatx; have hBx := (hR1.bel.alloc _).grown_ hgx (fun q hq => Nat.le_trans HUW.out (HOD.out.base_ q hq)); have hRx := (hR1.alloc _).keep hgx HNE.out hBx; obtain ⟨A1, c1, rfl, hc1, hr1⟩ := hOx.readsN' HLQ.out; have k5x := hRx.cell 4 rfl; have f5x := hRx.fz 5)
          | (go_simp; go_wp2_with (go_at_call 59; with_reducible refine' Calls.mono HT.out ?_; rintro e w1 ⟨rfl, hR1, hG1⟩; have k5 := hR1.cell 4 rfl; have k5a := (hR1.alloc (.cells #[.int .i64 d] 3)).cell 4 rfl; have hO1 := HOD.out.kept_ hG1 (.inr HNE.out))))
        all_goals (
          have hRz := hRx.set 4 (.slice A1 (k + 1) c1)
          simp only [List.set] at hRz
          have hOz := hOx.kept_ (setG x1 g 5 (.slice A1 (k + 1) c1)) (.inr (ownNeG hOx HL.out))
          have hGx : U.grownBy x1 (some g) := grownT (grown2 (grown2 HGD.out hG1) (((Bel.refl w1).alloc _).gG _)) hgx HOD.out.base_
          have hGz := grown2 hGx (setG x1 g 5 (.slice A1 (k + 1) c1))
          have HRz := hid_ hRz
          have HOz := hid_ hOz
          have HGz := hid_ hGz
          clear hRz hOz hGz hGx hRx hBx hOx hgx hatx k5x f5x hR1 hG1 k5 k5a hO1 c5 f5 hr1 hc1 HT HOD HGD
          go_wp2
          case roundEnd =>
            go_roundw
            case rel => exact ⟨k + 1, ps ++ [d], r2, _, HKN.out, by go_num, HRz, HOz, HGz, HST, HLQ⟩
            case measure => have := HKN.out; simp [Go.RowKit.intOf]; omega)
    · obtain rfl : k = n := by omega
      have h0 : rdFr (k - k) ps r = rdFr 0 ps r := by rw [Nat.sub_self]
      have HF := hid_ (HRP.out ps r (hE.out.trans h0))
      clear h0 hE HRN
      cases hd : rd2 r with
      | none =>
        have HT := hid_ (two_no w0 wr g _ _ hR.out hd)
        have HF2 : Hid (rdP 3 ep rest = none) := hid_ (by rw [HF.out, hd])
        clear hd
        go_wp2_with (first | (go_at_call 59; with_reducible refine HT.out.mono ?_; rintro e w2 ⟨rfl, rfl⟩))
        exact ⟨rfl, .inr ⟨HF2.out, rfl, hR.out.bel, hG.out⟩⟩
      | some p =>
        obtain ⟨x, r2⟩ := p
        have HT := hid_ (two_ok w0 wr g _ _ _ _ hR.out hd)
        have HF2 : Hid (rdP 3 ep rest = some { pgZ with kind := 3, epoch := ep, pages := ps, next := x }) := hid_ (by rw [HF.out, hd])
        have HNE := hid_ (ownNeG hO.out HL.out)
        clear hd
        go_wp2_with (first | (go_at_call 59; with_reducible refine HT.out.mono ?_; rintro e w2 ⟨rfl, hR2, hG2⟩; have k6 := hR2.cell 5 rfl; have f6 := hR2.fz 6))
        first | go_end0 | (refine bodyPost_ret (results_none rfl _ _ _) rfl ?_)
        have hRz := hR2.set 5 (.int .i64 x)
        simp only [List.set] at hRz
        have hOz := (hO.out.kept_ hG2 (.inr HNE.out)).kept_ (setG w2 g 6 (.int .i64 x)) (.inr HNE.out)
        obtain ⟨A1, c1, rfl, hc1, hr1⟩ := hOz.reads
        exact .inl ⟨_, nilV, nilV, nilV, _, r2, HF2.out, rfl, hRz, ⟨none, 0, 0, none, 0, 0, none, 0, 0, A1, _, c1, rfl, Nat.le_refl _, Nat.le_refl _, Nat.le_refl _, hc1, ⟨Row.none_ _ _ _, Row.none_ _ _ _, Row.none_ _ _ _, hr1⟩⟩, grown2 (grown2 hG.out hG2) (setG w2 g 6 (.int .i64 x))⟩
end Go.Proofs.Ytcfabnkkkpcelaa
set_option linter.unusedSimpArgs false
set_option linter.unusedVariables false
namespace Go.Proofs.Ytcfabnkkkpcelaa
open Go.RowKit
set_option maxRecDepth 10000 in
set_option maxHeartbeats 4000000 in
theorem rpage4_any (w0 U : World) (g : Nat) (ep : Int) (rest : List Int) (h : Rd w0 U g (pgC (zE 0 ep) nilV nilV nilV nilV) rest) (hlen : 12 ≤ rest.length) :
    Calls Try.prog 46 #[.pointer (some ⟨g, 0, none⟩), .int .i64 4] U (RP w0 U g 4 ep rest) := by
  unfold pgC nilV zE at h
  simp only [pgZ] at h
  have c1 := h.cell 0 rfl
  have f1 := h.fz 1
  have HR0 := hid_ (h.set 0 (.int .i64 4))
  have HG0 := hid_ (setG U g 1 (.int .i64 4))
  simp only [List.set] at HR0
  have HL := hid_ h.lt
  clear h
  go_enter Try.func46, Try.ntmps46
  obtain ⟨x1, r1, e1, l1⟩ := rd2_ex (show 2 ≤ rest.length by omega)
  obtain ⟨x2, r2, e2, l2⟩ := rd2_ex (show 2 ≤ r1.length by omega)
  obtain ⟨x3, r3, e3, l3⟩ := rd2_ex (show 2 ≤ r2.length by omega)
  obtain ⟨x4, r4, e4, l4⟩ := rd2_ex (show 2 ≤ r3.length by omega)
  obtain ⟨x5, r5, e5, l5⟩ := rd2_ex (show 2 ≤ r4.length by omega)
  obtain ⟨x6, r6, e6, l6⟩ := rd2_ex (show 2 ≤ r5.length by omega)
  have HRP : Hid (rdP 4 ep rest = some ⟨4, [], [], [], [], x6, ep, x1, x2, x3 * 65536 + x4, x5⟩) := hid_ (by
    rw [rdP, if_neg (by decide), if_neg (by decide), if_neg (by decide), if_pos rfl, rd4]
    simp only [e1, e2, e3, e4, e5, e6]
    rfl)
  have HE1 := hid_ e1
  have HE2 := hid_ e2
  have HE3 := hid_ e3
  have HE4 := hid_ e4
  have HE5 := hid_ e5
  have HE6 := hid_ e6
  clear e1 e2 e3 e4 e5 e6 l1 l2 l3 l4 l5 l6 hlen
  go_upto_region 25 with (fail)
  generalize U.setCell ⟨g, 1, none⟩ (.int .i64 4) = V at HR0 HG0 ⊢
  have HT := hid_ (two_ok w0 V.drew g _ _ _ _ HR0.out.drew HE1.out)
  clear c1 f1
  go_region_with (first
    | (go_at_call 59; with_reducible refine' Calls.mono HT.out ?_; rintro e w1 ⟨rfl, hR1, hG1⟩; have HT2 := hid_ (two_ok w0 w1 g _ _ _ _ hR1 HE2.out))
    | (go_at_call 59; with_reducible refine' Calls.mono HT2.out ?_; rintro e w2 ⟨rfl, hR2, hG2⟩; have k8 := hR2.cell 7 rfl; have k9 := hR2.cell 8 rfl; have f8 := hR2.fz 8; have f9 := hR2.fz 9))
  have hR3 := (hR2.set 7 (.int .i64 x1)).set 8 (.int .i64 x2)
  simp only [List.set] at hR3
  have hG3 := grown2 (grown2 (grown2 (grown2 (grown2 HG0.out (((Bel.refl V).drew).gG _)) hG1) hG2) (setG w2 g 8 (.int .i64 x1))) (setG (w2.setCell ⟨g, 8, none⟩ (.int .i64 x1)) g 9 (.int .i64 x2))
  clear HT HT2 hR1 hG1 hR2 hG2 k8 k9 f8 f9 HR0 HG0
  generalize (w2.setCell ⟨g, 8, none⟩ (.int .i64 x1)).setCell ⟨g, 9, none⟩ (.int .i64 x2) = W3 at hR3 hG3 ⊢
  have HG3 := hid_ hG3
  have hb3 := rd2_rng hR3.byt HE3.out
  have HT3 := hid_ (two_ok w0 W3 g _ _ _ _ hR3 HE3.out)
  clear hR3 hG3
  go_upto_region 27 with (first | (go_at_call 59; with_reducible refine HT3.out.mono ?_; rintro e w4 ⟨rfl, hR4, hG4⟩))
  have hb4 := rd2_rng hR4.byt HE4.out
  have HG4 := hid_ (grown2 HG3.out hG4)
  have HT4 := hid_ (two_ok w0 w4 g _ _ _ _ hR4 HE4.out)
  have q1 : IntKind.i64.wrap (x3 * 65536) = x3 * 65536 := by rw [IntWalk.i64_left]; unfold wrap64; omega
  have q2 : bits .or .i64 (x3 * 65536) x4 = x3 * 65536 + x4 := or16 x3 x4 hb3.1 hb3.2 hb4.1 hb4.2
  clear hR4 hG4 HT3 HG3
  go_upto_region 28 with (first | (go_at_call 59; with_reducible refine HT4.out.mono ?_; rintro e w5 ⟨rfl, hR5, hG5⟩; have k10 := hR5.cell 9 rfl; have f10 := hR5.fz 10))
  have hR6 := hR5.set 9 (.int .i64 (x3 * 65536 + x4))
  simp only [List.set] at hR6
  have hG6 := grown2 (grown2 HG4.out hG5) (setG w5 g 10 (.int .i64 (x3 * 65536 + x4)))
  clear hR5 hG5 HG4 HT4 k10 f10 q1 q2 hb3 hb4
  generalize w5.setCell ⟨g, 10, none⟩ (.int .i64 (x3 * 65536 + x4)) = W6 at hR6 hG6 ⊢
  have HG6 := hid_ hG6
  have HT5 := hid_ (two_ok w0 W6.drew g _ _ _ _ hR6.drew HE5.out)
  clear hR6 hG6
  go_region_with (first
    | (go_at_call 59; with_reducible refine' Calls.mono HT5.out ?_; rintro e w7 ⟨rfl, hR7, hG7⟩; have HT6 := hid_ (two_ok w0 w7 g _ _ _ _ hR7 HE6.out))
    | (go_at_call 59; with_reducible refine' Calls.mono HT6.out ?_; rintro e w8 ⟨rfl, hR8, hG8⟩; have k11 := hR8.cell 10 rfl; have k6 := hR8.cell 5 rfl; have f11 := hR8.fz 11; have f6 := hR8.fz 6))
  have hR9 := (hR8.set 10 (.int .i64 x5)).set 5 (.int .i64 x6)
  simp only [List.set] at hR9
  have hG9 := grown2 (grown2 (grown2 (grown2 (grown2 HG6.out (((Bel.refl W6).drew).gG _)) hG7) hG8) (setG w8 g 11 (.int .i64 x5))) (setG (w8.setCell ⟨g, 11, none⟩ (.int .i64 x5)) g 6 (.int .i64 x6))
  clear HT5 HT6 hR7 hG7 hR8 hG8 k11 k6 f11 f6 HG6
  go_wp2
  first | go_end0 | (refine bodyPost_ret (results_none rfl _ _ _) rfl ?_)
  exact .inl ⟨_, nilV, nilV, nilV, nilV, r6, HRP.out, rfl, hR9, pgIn0 _ _ rfl rfl rfl rfl, hG9⟩
end Go.Proofs.Ytcfabnkkkpcelaa
set_option linter.unusedSimpArgs false
set_option linter.unusedVariables false
namespace Go.Proofs.Ytcfabnkkkpcelaa
open Go.RowKit
set_option maxRecDepth 10000 in
set_option maxHeartbeats 4000000 in
theorem rpage5_any (w0 U : World) (g : Nat) (ep k : Int) (rest : List Int) (h : Rd w0 U g (pgC (zE 0 ep) nilV nilV nilV nilV) rest) (h1 : ¬ k = 1) (h2 : ¬ k = 2) (h3 : ¬ k = 3) (h4 : ¬ k = 4) :
    Calls Try.prog 46 #[.pointer (some ⟨g, 0, none⟩), .int .i64 k] U (RP w0 U g k ep rest) := by
  unfold pgC nilV zE at h
  simp only [pgZ] at h
  have c1 := h.cell 0 rfl
  have f1 := h.fz 1
  have HR0 := hid_ (h.set 0 (.int .i64 k))
  have HG0 := hid_ (setG U g 1 (.int .i64 k))
  simp only [List.set] at HR0
  have HL := hid_ h.lt
  clear h
  have HRP : Hid (rdP k ep rest = some (zE k ep)) := hid_ (by unfold rdP; rw [if_neg h1, if_neg h2, if_neg h3, if_neg h4]; rfl)
  have j1 : (k == 1) = false := by simp [h1]
  have j2 : (k == 2) = false := by simp [h2]
  have j3 : (k == 3) = false := by simp [h3]
  have j4 : (k == 4) = false := by simp [h4]
  clear h1 h2 h3 h4
  go_enter Try.func46, Try.ntmps46
  go_wp2
  first | go_end0 | (refine bodyPost_ret (results_none rfl _ _ _) rfl ?_)
  exact .inl ⟨zE k ep, nilV, nilV, nilV, nilV, rest, HRP.out, rfl, HR0.out, pgIn0 _ _ rfl rfl rfl rfl, HG0.out⟩
end Go.Proofs.Ytcfabnkkkpcelaa
