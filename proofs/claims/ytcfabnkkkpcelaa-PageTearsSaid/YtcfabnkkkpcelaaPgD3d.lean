/- (*reader).page of a superblock: the walk. -/
import Derived.Test.YtcfabnkkkpcelaaPgD2
import Derived.Deep.DeepCutAuto
set_option linter.unusedSimpArgs false
set_option linter.unusedVariables false
namespace Go.Proofs.Ytcfabnkkkpcelaa
open Go.RowKit
set_option maxRecDepth 10000 in
set_option maxHeartbeats 4000000 in
theorem rpage4_any (w0 U : World) (g : Nat) (ep : Int) (rest : List Int) (h : Rd w0 U g (pgC (zE 0 ep) nilV nilV nilV nilV) rest) (hlen : 12 ≤ rest.length) :
    Calls Try.prog 46 #[.pointer (some ⟨g, 0, none⟩), .int .i64 4] U (RP w0 U g 4 ep rest) := by
  unfold pgC nilV zE at h
  simp only [pgZ] at h
  have c1 := h.cell 0 rfl
  have f1 := h.fz 1
  have HR0 := hid_ (h.set 0 (.int .i64 4))
  have HG0 := hid_ (setG U g 1 (.int .i64 4))
  simp only [List.set] at HR0
  have HL := hid_ h.lt
  clear h
  go_enter Try.func46, Try.ntmps46
  obtain ⟨x1, r1, e1, l1⟩ := rd2_ex (show 2 ≤ rest.length by omega)
  obtain ⟨x2, r2, e2, l2⟩ := rd2_ex (show 2 ≤ r1.length by omega)
  obtain ⟨x3, r3, e3, l3⟩ := rd2_ex (show 2 ≤ r2.length by omega)
  obtain ⟨x4, r4, e4, l4⟩ := rd2_ex (show 2 ≤ r3.length by omega)
  obtain ⟨x5, r5, e5, l5⟩ := rd2_ex (show 2 ≤ r4.length by omega)
  obtain ⟨x6, r6, e6, l6⟩ := rd2_ex (show 2 ≤ r5.length by omega)
  have HRP : Hid (rdP 4 ep rest = some ⟨4, [], [], [], [], x6, ep, x1, x2, x3 * 65536 + x4, x5⟩) := hid_ (by
    rw [rdP, if_neg (by decide), if_neg (by decide), if_neg (by decide), if_pos rfl, rd4]
    simp only [e1, e2, e3, e4, e5, e6]
    rfl)
  have HE1 := hid_ e1
  have HE2 := hid_ e2
  have HE3 := hid_ e3
  have HE4 := hid_ e4
  have HE5 := hid_ e5
  have HE6 := hid_ e6
  clear e1 e2 e3 e4 e5 e6 l1 l2 l3 l4 l5 l6 hlen
  go_upto_region 25 with (fail)
  generalize U.setCell ⟨g, 1, none⟩ (.int .i64 4) = V at HR0 HG0 ⊢
  have HT := hid_ (two_ok w0 V.drew g _ _ _ _ HR0.out.drew HE1.out)
  clear c1 f1
  go_region_with (first
    | (go_at_call 59; with_reducible refine' Calls.mono HT.out ?_; rintro e w1 ⟨rfl, hR1, hG1⟩; have HT2 := hid_ (two_ok w0 w1 g _ _ _ _ hR1 HE2.out))
    | (go_at_call 59; with_reducible refine' Calls.mono HT2.out ?_; rintro e w2 ⟨rfl, hR2, hG2⟩; have k8 := hR2.cell 7 rfl; have k9 := hR2.cell 8 rfl; have f8 := hR2.fz 8; have f9 := hR2.fz 9))
  have hR3 := (hR2.set 7 (.int .i64 x1)).set 8 (.int .i64 x2)
  simp only [List.set] at hR3
  have hG3 := grown2 (grown2 (grown2 (grown2 (grown2 HG0.out (((Bel.refl V).drew).gG _)) hG1) hG2) (setG w2 g 8 (.int .i64 x1))) (setG (w2.setCell ⟨g, 8, none⟩ (.int .i64 x1)) g 9 (.int .i64 x2))
  clear HT HT2 hR1 hG1 hR2 hG2 k8 k9 f8 f9 HR0 HG0
  generalize (w2.setCell ⟨g, 8, none⟩ (.int .i64 x1)).setCell ⟨g, 9, none⟩ (.int .i64 x2) = W3 at hR3 hG3 ⊢
  have HG3 := hid_ hG3
  have hb3 := rd2_rng hR3.byt HE3.out
  have HT3 := hid_ (two_ok w0 W3 g _ _ _ _ hR3 HE3.out)
  clear hR3 hG3
  go_upto_region 27 with (first | (go_at_call 59; with_reducible refine HT3.out.mono ?_; rintro e w4 ⟨rfl, hR4, hG4⟩))
  have hb4 := rd2_rng hR4.byt HE4.out
  have HG4 := hid_ (grown2 HG3.out hG4)
  have HT4 := hid_ (two_ok w0 w4 g _ _ _ _ hR4 HE4.out)
  have q1 : IntKind.i64.wrap (x3 * 65536) = x3 * 65536 := by rw [IntWalk.i64_left]; unfold wrap64; omega
  have q2 : bits .or .i64 (x3 * 65536) x4 = x3 * 65536 + x4 := or16 x3 x4 hb3.1 hb3.2 hb4.1 hb4.2
  clear hR4 hG4 HT3 HG3
  go_upto_region 28 with (first | (go_at_call 59; with_reducible refine HT4.out.mono ?_; rintro e w5 ⟨rfl, hR5, hG5⟩; have k10 := hR5.cell 9 rfl; have f10 := hR5.fz 10))
  have hR6 := hR5.set 9 (.int .i64 (x3 * 65536 + x4))
  simp only [List.set] at hR6
  have hG6 := grown2 (grown2 HG4.out hG5) (setG w5 g 10 (.int .i64 (x3 * 65536 + x4)))
  clear hR5 hG5 HG4 HT4 k10 f10 q1 q2 hb3 hb4
  generalize w5.setCell ⟨g, 10, none⟩ (.int .i64 (x3 * 65536 + x4)) = W6 at hR6 hG6 ⊢
  have HG6 := hid_ hG6
  have HT5 := hid_ (two_ok w0 W6.drew g _ _ _ _ hR6.drew HE5.out)
  clear hR6 hG6
  go_region_with (first
    | (go_at_call 59; with_reducible refine' Calls.mono HT5.out ?_; rintro e w7 ⟨rfl, hR7, hG7⟩; have HT6 := hid_ (two_ok w0 w7 g _ _ _ _ hR7 HE6.out))
    | (go_at_call 59; with_reducible refine' Calls.mono HT6.out ?_; rintro e w8 ⟨rfl, hR8, hG8⟩; have k11 := hR8.cell 10 rfl; have k6 := hR8.cell 5 rfl; have f11 := hR8.fz 11; have f6 := hR8.fz 6))
  have hR9 := (hR8.set 10 (.int .i64 x5)).set 5 (.int .i64 x6)
  simp only [List.set] at hR9
  have hG9 := grown2 (grown2 (grown2 (grown2 (grown2 HG6.out (((Bel.refl W6).drew).gG _)) hG7) hG8) (setG w8 g 11 (.int .i64 x5))) (setG (w8.setCell ⟨g, 11, none⟩ (.int .i64 x5)) g 6 (.int .i64 x6))
  clear HT5 HT6 hR7 hG7 hR8 hG8 k11 k6 f11 f6 HG6
  go_wp2
  first | go_end0 | (refine bodyPost_ret (results_none rfl _ _ _) rfl ?_)
  exact .inl ⟨_, nilV, nilV, nilV, nilV, r6, HRP.out, rfl, hR9, pgIn0 _ _ rfl rfl rfl rfl, hG9⟩
end Go.Proofs.Ytcfabnkkkpcelaa
