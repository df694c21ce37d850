/- account.seek, account.Find. -/
import Derived.Test.YtgnninpfhnpjoaaAc3
set_option linter.unusedSimpArgs false
set_option linter.unusedVariables false
namespace Go.Proofs.Ytgnninpfhnpjoaa
open Go.RowKit Go.Lib Go.Sort Go.Shelf
set_option maxRecDepth 10000 in
set_option maxHeartbeats 1000000 in
theorem seek_any (A : Option Addr) (n c : Nat) (l : List Acc) (p0 p1 : ByteArray) (w : World) (hA : Row accT w A n l) (hs : Srt l) :
    Calls Try.prog 70 #[.slice A n c, .agg #[.string p0, .string p1]] w fun e w' => e = .returned (.tuple #[.int .i64 (cntA l ⟨p0, p1⟩ : Nat), .bool (isA l ⟨p0, p1⟩)]) ∧ Bel w w' := by
  have HS := hid_ hs
  clear hs
  have k0 := Bx.new w 75 [.string p0, .string p1]
  have k0 : Bx (w.alloc (.cells #[.string p0, .string p1] 75)) (w.heap.size) 75 [.string p0, .string p1] := k0
  have kB : Bel w (w.alloc (.cells #[.string p0, .string p1] 75)) := (Bel.refl w).alloc _
  have FP := hid_ k0
  have FB := hid_ kB
  clear k0 kB
  have FA := hid_ (hA.bel FB.out)
  clear hA
  go_enter Try.func70, Try.ntmps70
  go_wp2_with fail
  generalize (w.alloc (.cells #[.string p0, .string p1] 75)) = W0 at FP FB FA ⊢
  obtain ⟨gP, hgP⟩ : ∃ g, w.heap.size = g := ⟨_, rfl⟩
  rw [hgP] at FP
  try rw [hgP]
  clear hgP
  refine (bsearch_any A n c l p0 p1 _ FA.out HS.out).mono ?_
  rintro e v1 ⟨rfl, b⟩
  have bb := b
  have f1P := hid_ (FP.out.bel bb)
  have f1B := hid_ (FB.out.trans bb)
  have f1A := hid_ (FA.out.bel bb)
  clear b bb FP FB FA
  go_wp2
  go_ret2
  exact ⟨rfl, f1B.out⟩
set_option maxRecDepth 10000 in
set_option maxHeartbeats 1000000 in
theorem find_any (A : Option Addr) (n c : Nat) (l : List Acc) (p0 p1 : ByteArray) (w : World) (hA : Row accT w A n l) (hs : Srt l) :
    Calls Try.prog 42 #[.slice A n c, .string p0, .string p1] w fun e w' => e = .returned (.agg (accC (findA l ⟨p0, p1⟩)).toArray) ∧ Bel w w' := by
  have HS := hid_ hs
  have HL := hid_ hA.1
  have HA := hid_ hA
  have hA63 := hA.2.1
  obtain ⟨f, hf⟩ : ∃ f, findA l ⟨p0, p1⟩ = f := ⟨_, rfl⟩
  rw [hf]
  have HFI := hid_ hf
  clear hs hA hf
  go_enter Try.func42, Try.ntmps42
  go_wp2_with fail
  refine (seek_any A n c l p0 p1 _ (HA.out.bel ((Bel.refl w).alloc _)) HS.out).mono ?_
  rintro e w1 ⟨rfl, b⟩
  obtain ⟨is, his⟩ : ∃ is, isA l ⟨p0, p1⟩ = is := ⟨_, rfl⟩
  rw [his]
  have HI := hid_ his
  clear his
  have kz := Bx.new w 49 [.string ⟨#[]⟩, .string ⟨#[]⟩, .int .i64 0, .int .i64 0]
  have kz1 := kz.bel b
  have KZ := hid_ kz1
  have HB := hid_ (((Bel.refl w).alloc _).trans b)
  clear kz kz1 b
  cases is
  · have HF : Hid (f = accZ ⟨p0, p1⟩) := hid_ (by
      obtain ⟨L, M, R, hC⟩ := srt_cut HS.out ⟨p0, p1⟩
      have h1 := HI.out
      rw [hC.is] at h1
      rw [← HFI.out, hC.find]
      cases M with
      | none => rfl
      | some x => cases h1)
    obtain ⟨gZ, hgZ⟩ : ∃ g, w.heap.size = g := ⟨_, rfl⟩
    have HG := hid_ hgZ
    rw [hgZ] at KZ
    try rw [hgZ]
    clear hgZ
    have HLE : Hid (w.heap.size ≤ gZ) := hid_ (Nat.le_of_eq HG.out)
    have ks := ((((KZ.out.set 0 (.string p0)).set 1 (.string p1)).set 2 (.int .i64 0)).set 3 (.int .i64 0))
    have KS := hid_ ks
    have BS := hid_ ((((HB.out.setBx (g := gZ) (j := 0) HLE.out (.string p0)).setBx (j := 1) HLE.out (.string p1)).setBx (j := 2) HLE.out (.int .i64 0)).setBx (j := 3) HLE.out (.int .i64 0))
    clear ks
    have z0 := KZ.out.cell 0 rfl
    have z1 := KZ.out.cell 1 rfl
    have z2 := KZ.out.cell 2 rfl
    have z3 := KZ.out.cell 3 rfl
    have zf := fun j => KZ.out.frozen j
    go_wp2
    refine bodyPost_ret (results_c rfl _ _ gZ 49 _ (0, 0) _ rfl KS.out Try.underlying49 rfl (by kernel_rfl)) rfl ?_
    exact ⟨by rw [HF.out]; rfl, BS.out⟩
  · have HMM : Hid (cntA l ⟨p0, p1⟩ < n ∧ ∃ x, l[cntA l ⟨p0, p1⟩]? = some x ∧ f = x) := hid_ (by
      obtain ⟨L, M, R, hC⟩ := srt_cut HS.out ⟨p0, p1⟩
      have h1 := HI.out
      rw [hC.is] at h1
      rw [← HFI.out, hC.find, hC.cnt, ← HL.out, hC.eq]
      cases M with
      | none => cases h1
      | some x => exact ⟨by simp, x, by simp, rfl⟩)
    obtain ⟨k, hk⟩ : ∃ k, cntA l ⟨p0, p1⟩ = k := ⟨_, rfl⟩
    rw [hk]
    rw [hk] at HMM
    have hkn := HMM.out.1
    obtain ⟨ad, o0, o1, o2, o3, rfl, ho, d0, d1, d2, d3⟩ := (HA.out.bel HB.out).acc hkn
    have HF : Hid (f = ⟨o0, o1, o2, o3⟩) := hid_ (by
      obtain ⟨_, x, h1, h2⟩ := HMM.out
      rw [ho] at h1
      cases h1
      exact h2)
    have hk64 := hA63
    have hki : (k : Int) < (n : Int) := by omega
    clear ho hk hkn HMM
    obtain ⟨gZ, hgZ⟩ : ∃ g, w.heap.size = g := ⟨_, rfl⟩
    have HG := hid_ hgZ
    rw [hgZ] at KZ
    try rw [hgZ]
    clear hgZ
    have HLE : Hid (w.heap.size ≤ gZ) := hid_ (Nat.le_of_eq HG.out)
    have ks := ((((KZ.out.set 0 (.string o0)).set 1 (.string o1)).set 2 (.int .i64 o2)).set 3 (.int .i64 o3))
    have KS := hid_ ks
    have BS := hid_ ((((HB.out.setBx (g := gZ) (j := 0) HLE.out (.string o0)).setBx (j := 1) HLE.out (.string o1)).setBx (j := 2) HLE.out (.int .i64 o2)).setBx (j := 3) HLE.out (.int .i64 o3))
    clear ks
    have z0 := KZ.out.cell 0 rfl
    have z1 := KZ.out.cell 1 rfl
    have z2 := KZ.out.cell 2 rfl
    have z3 := KZ.out.cell 3 rfl
    have zf := fun j => KZ.out.frozen j
    go_wp2
    refine bodyPost_ret (results_c rfl _ _ gZ 49 _ (0, 0) _ rfl KS.out Try.underlying49 rfl (by kernel_rfl)) rfl ?_
    exact ⟨by rw [HF.out]; rfl, BS.out⟩
end Go.Proofs.Ytgnninpfhnpjoaa
