/- account.seek, account.Find. -/
import Derived.Test.YtnpinolhhnpniaaGreatAc2
import Derived.BigQuiet
import Derived.IntWalk
set_option linter.unusedSimpArgs false
set_option linter.unusedVariables false
namespace Go.Proofs.YtnpinolhhnpniaaGreat
open Go.RowKit Go.Lib Go.Sort Go.Shelf
theorem cut_at {l : List Acc} {p : Plc} (hs : Srt l) {h : Nat} {x : Acc} (hx : l[h]? = some x) : (ltP x.plc p = true ↔ h < cntA l p) ∧ (h = cntA l p → (x.plc = p ↔ isA l p = true)) := by
  obtain ⟨L, M, R, hC⟩ := srt_cut hs p
  rw [hC.cnt, hC.is]
  rw [hC.eq] at hx
  by_cases hl : h < L.length
  · rw [List.getElem?_append_left hl] at hx
    have := hC.lo x (List.mem_of_getElem? hx)
    exact ⟨⟨fun _ => hl, fun _ => this⟩, fun e => absurd e (by omega)⟩
  · rw [List.getElem?_append_right (by omega)] at hx
    have hm := List.mem_of_getElem? hx
    have hnl : ltP x.plc p = false := by
      rcases List.mem_append.1 hm with h1 | h1
      · rw [hC.at_ x (by simpa using h1), ltP_irr]
      · exact ltP_asym (hC.hi x h1)
    refine ⟨by simp [hnl, hl], fun e => ?_⟩
    subst e
    rw [Nat.sub_self] at hx
    cases M with
    | none =>
      have : x ∈ R := List.mem_of_getElem? (by simpa using hx)
      have := hC.hiNe x this
      simp [this]
    | some y =>
      simp at hx
      subst hx
      simp [hC.at_ y rfl]
theorem cnt_le (l : List Acc) (p : Plc) : cntA l p ≤ l.length := List.IsPrefix.length_le (List.takeWhile_prefix _)
theorem cut_none {l : List Acc} {p : Plc} (hs : Srt l) (h : cntA l p = l.length) : isA l p = false := by
  obtain ⟨L, M, R, hC⟩ := srt_cut hs p
  rw [hC.cnt, hC.eq, List.length_append, List.length_append] at h
  rw [hC.is]
  cases M with
  | none => rfl
  | some y => simp at h
set_option maxRecDepth 10000 in
set_option maxHeartbeats 1000000 in
theorem seek1_any (a0 a1 : ByteArray) (a2 a3 : Int) (p0 p1 : ByteArray) (w : World) :
    Calls Tryz.prog 90 #[.agg #[.string a0, .string a1, .int .i64 a2, .int .i64 a3], .agg #[.string p0, .string p1]] w fun e w' => e = .returned (.int .i64 (cmpP ⟨a0, a1⟩ ⟨p0, p1⟩)) ∧ Bel w w' := by
  have z0 := sizeAl w (.cells #[.string a0, .string a1, .int .i64 a2, .int .i64 a3] 37)
  have k0 := (Bx.new w 37 [.string a0, .string a1, .int .i64 a2, .int .i64 a3]).alloc (.cells #[.string p0, .string p1] 56)
  have k0 : Bx ((w.alloc (.cells #[.string a0, .string a1, .int .i64 a2, .int .i64 a3] 37)).alloc (.cells #[.string p0, .string p1] 56)) (w.heap.size) 37 [.string a0, .string a1, .int .i64 a2, .int .i64 a3] := k0
  have k1 := Bx.new (w.alloc (.cells #[.string a0, .string a1, .int .i64 a2, .int .i64 a3] 37)) 56 [.string p0, .string p1]
  rw [z0] at k1
  have k1 : Bx ((w.alloc (.cells #[.string a0, .string a1, .int .i64 a2, .int .i64 a3] 37)).alloc (.cells #[.string p0, .string p1] 56)) (w.heap.size + 1) 56 [.string p0, .string p1] := k1
  have kB : Bel w ((w.alloc (.cells #[.string a0, .string a1, .int .i64 a2, .int .i64 a3] 37)).alloc (.cells #[.string p0, .string p1] 56)) := ((Bel.refl w).alloc _).alloc _
  have FA := hid_ k0
  have FP := hid_ k1
  have FB := hid_ kB
  clear k0 k1 z0 kB
  obtain ⟨r, hr⟩ : ∃ r, cmpP ⟨a0, a1⟩ ⟨p0, p1⟩ = r := ⟨_, rfl⟩
  rw [hr]
  have HR := hid_ hr
  clear hr
  go_enter Tryz.func90, Tryz.ntmps90
  go_upto_region 1 with (fail)
  generalize ((w.alloc (.cells #[.string a0, .string a1, .int .i64 a2, .int .i64 a3] 37)).alloc (.cells #[.string p0, .string p1] 56)) = W0 at FA FP FB ⊢
  generalize w.heap.size + 1 = gP at FP ⊢
  obtain ⟨gA, hgA⟩ : ∃ g, w.heap.size = g := ⟨_, rfl⟩
  rw [hgA] at FA
  try rw [hgA]
  clear hgA
  have hKP : ∀ W, Bel W0 W → (fun W => Bel W0 W ∧ W.cell? ⟨gA, 0, none⟩ = some (.string a0) ∧ W.cell? ⟨gA, 1, none⟩ = some (.string a1) ∧ W.cell? ⟨gA, 2, none⟩ = some (.int .i64 a2) ∧ W.cell? ⟨gA, 3, none⟩ = some (.int .i64 a3) ∧ W.cell? ⟨gP, 0, none⟩ = some (.string p0) ∧ W.cell? ⟨gP, 1, none⟩ = some (.string p1)) W := fun W b => ⟨b, b.cell_ (FA.out.cell 0 rfl), b.cell_ (FA.out.cell 1 rfl), b.cell_ (FA.out.cell 2 rfl), b.cell_ (FA.out.cell 3 rfl), b.cell_ (FP.out.cell 0 rfl), b.cell_ (FP.out.cell 1 rfl)⟩
  have HKP := hid_ hKP
  clear hKP
  go_region_held3 (fun W => Bel W0 W ∧ W.cell? ⟨gA, 0, none⟩ = some (.string a0) ∧ W.cell? ⟨gA, 1, none⟩ = some (.string a1) ∧ W.cell? ⟨gA, 2, none⟩ = some (.int .i64 a2) ∧ W.cell? ⟨gA, 3, none⟩ = some (.int .i64 a3) ∧ W.cell? ⟨gP, 0, none⟩ = some (.string p0) ∧ W.cell? ⟨gP, 1, none⟩ = some (.string p1)) ((refine HKP.out _ ?_; (repeat first | with_reducible exact Bel.refl _ | with_reducible exact bz0 | with_reducible exact bz1 | with_reducible apply Bel.drew | with_reducible apply Bel.alloc)))
    (first
      | (go_at_call 34; refine' Calls.mono (of_acc a0 a1 a2 a3 _) ?_; rintro e w9 ⟨rfl, b9⟩; have bz0 : Bel W0 w9 := Bel.trans (by (repeat first | with_reducible exact Bel.refl _ | with_reducible exact bz0 | with_reducible exact bz1 | with_reducible apply Bel.drew | with_reducible apply Bel.alloc)) b9)
      | (go_at_call 33; refine' Calls.mono (order_any a0 a1 p0 p1 _) ?_; rintro e w9 ⟨rfl, b9⟩; have bz1 : Bel W0 w9 := Bel.trans (by (repeat first | with_reducible exact Bel.refl _ | with_reducible exact bz0 | with_reducible exact bz1 | with_reducible apply Bel.drew | with_reducible apply Bel.alloc)) b9; rw [HR.out]))
  clear HKP HR
  go_wp2
  go_ret
  exact ⟨rfl, FB.out.trans (by (repeat first | with_reducible exact Bel.refl _ | with_reducible exact bz0 | with_reducible exact bz1 | with_reducible apply Bel.drew | with_reducible apply Bel.alloc))⟩
set_option maxRecDepth 10000 in
set_option maxHeartbeats 2000000 in
theorem bsearch_any (A : Option Addr) (n c : Nat) (l : List Acc) (p0 p1 : ByteArray) (w : World) (hA : Row accT w A n l) (hs : Srt l) :
    Calls Tryz.prog 89 #[.slice A n c, .agg #[.string p0, .string p1], .func (.func 90) #[] #[]] w fun e w' => e = .returned (.tuple #[.int .i64 (cntA l ⟨p0, p1⟩ : Nat), .bool (isA l ⟨p0, p1⟩)]) ∧ Bel w w' := by
  have hn := hA.2.1
  have HL := hid_ hA.1
  have HS := hid_ hs
  have HCL := hid_ (cnt_le l ⟨p0, p1⟩)
  clear hs
  have k0 := Bx.new w 56 [.string p0, .string p1]
  have k0 : Bx (w.alloc (.cells #[.string p0, .string p1] 56)) (w.heap.size) 56 [.string p0, .string p1] := k0
  have kB : Bel w (w.alloc (.cells #[.string p0, .string p1] 56)) := (Bel.refl w).alloc _
  have FP := hid_ k0
  have FB := hid_ kB
  clear k0 kB
  have FA := hid_ (hA.bel FB.out)
  clear hA
  go_enter Tryz.func89, Tryz.ntmps89
  go_wp2_with fail
  generalize (w.alloc (.cells #[.string p0, .string p1] 56)) = W0 at FP FB FA ⊢
  obtain ⟨gP, hgP⟩ : ∃ g, w.heap.size = g := ⟨_, rfl⟩
  rw [hgP] at FP
  try rw [hgP]
  clear hgP
  go_loopw [9, 10] (fun i j wr => ∃ a b : Nat, a ≤ b ∧ b ≤ n ∧ i = .int .i64 a ∧ j = .int .i64 b ∧ Hid (a ≤ cntA l ⟨p0, p1⟩ ∧ cntA l ⟨p0, p1⟩ ≤ b) ∧ Bel W0 wr) (fun i j _ => (intOf j).toNat - (intOf i).toNat)
  case atStart => exact ⟨0, n, Nat.zero_le _, Nat.le_refl _, rfl, rfl, hid_ ⟨Nat.zero_le _, by have := HCL.out; rw [HL.out] at this; exact this⟩, Bel.refl _⟩
  case round =>
    obtain ⟨a, b, hab, hbn, rfl, rfl, hx, hbr⟩ := hrel
    have BR := hid_ hbr
    by_cases hlt : a < b
    · obtain ⟨m, hm⟩ : ∃ m, (a + b) / 2 = m := ⟨_, rfl⟩
      have hmn : m < n := by omega
      obtain ⟨ad, o0, o1, o2, o3, rfl, ho, d0, d1, d2, d3⟩ := (FA.out.bel hbr).acc hmn
      have HO := hid_ ho
      have q0 := (FP.out.bel hbr).cell 0 rfl
      have q1 := (FP.out.bel hbr).cell 1 rfl
      have BN : Hid (a ≤ m ∧ m < b) := hid_ (by omega)
      have hh : wrap64 (IntKind.u64.wrap (wrap64 ((a : Int) + (b : Int))) / 2) = (m : Int) := by rw [IntKind.wrap_u64]; unfold wrap64; omega
      clear hbr ho
      obtain ⟨r, hr⟩ : ∃ r, cmpP ⟨o0, o1⟩ ⟨p0, p1⟩ = r := ⟨_, rfl⟩
      have HR := hid_ hr
      clear hr
      go_upto_region 5 with (fail)
      rw [hh]
      clear hh
      have hKP : ∀ W, Bel wr W → (fun W => Bel wr W ∧ W.cell? ⟨gP, 0, none⟩ = some (.string p0) ∧ W.cell? ⟨gP, 1, none⟩ = some (.string p1) ∧ W.cell? (ad.add (m * 4)) = some (.string o0) ∧ W.cell? ⟨(ad.add (m * 4)).block, (ad.add (m * 4)).off + 1, none⟩ = some (.string o1) ∧ W.cell? ⟨(ad.add (m * 4)).block, (ad.add (m * 4)).off + 2, none⟩ = some (.int .i64 o2) ∧ W.cell? ⟨(ad.add (m * 4)).block, (ad.add (m * 4)).off + 3, none⟩ = some (.int .i64 o3)) W := fun W b => ⟨b, b.cell_ q0, b.cell_ q1, b.cell_ d0, b.cell_ d1, b.cell_ d2, b.cell_ d3⟩
      have HKP := hid_ hKP
      clear hKP
      go_region_held3 (fun W => Bel wr W ∧ W.cell? ⟨gP, 0, none⟩ = some (.string p0) ∧ W.cell? ⟨gP, 1, none⟩ = some (.string p1) ∧ W.cell? (ad.add (m * 4)) = some (.string o0) ∧ W.cell? ⟨(ad.add (m * 4)).block, (ad.add (m * 4)).off + 1, none⟩ = some (.string o1) ∧ W.cell? ⟨(ad.add (m * 4)).block, (ad.add (m * 4)).off + 2, none⟩ = some (.int .i64 o2) ∧ W.cell? ⟨(ad.add (m * 4)).block, (ad.add (m * 4)).off + 3, none⟩ = some (.int .i64 o3)) ((refine HKP.out _ ?_; (repeat first | with_reducible exact Bel.refl _ | with_reducible exact bz0 | with_reducible apply Bel.drew | with_reducible apply Bel.alloc)))
        (first
          | (go_at_call 90; refine' Calls.mono (seek1_any o0 o1 o2 o3 p0 p1 _) ?_; rintro e w9 ⟨rfl, b9⟩; have bz0 : Bel wr w9 := Bel.trans (by (repeat first | with_reducible exact Bel.refl _ | with_reducible exact bz0 | with_reducible apply Bel.drew | with_reducible apply Bel.alloc)) b9; rw [HR.out]))
      clear HKP
      have hc := (cut_at HS.out HO.out (p := ⟨p0, p1⟩)).1
      rw [← cmpP_neg, show cmpP (Acc.plc ⟨o0, o1, o2, o3⟩) ⟨p0, p1⟩ = r from HR.out] at hc
      have HC := hid_ hc
      clear hc d0 d1 d2 d3 q0 q1
      by_cases hr0 : r < 0
      · have HX : Hid (m + 1 ≤ cntA l ⟨p0, p1⟩ ∧ cntA l ⟨p0, p1⟩ ≤ b) := hid_ ⟨HC.out.1 hr0, hx.out.2⟩
        have hm1 : m + 1 ≤ b := by have := BN.out; omega
        clear hx HC HO HR
        go_wp2
        case roundEnd =>
          go_roundw
          case rel => exact ⟨m + 1, b, hm1, hbn, by go_num, rfl, HX, by (exact BR.out.trans (by (repeat first | with_reducible exact Bel.refl _ | with_reducible exact bz0 | with_reducible apply Bel.drew | with_reducible apply Bel.alloc)))⟩
          case measure => have := BN.out; simp [intOf]; omega
      · have HX : Hid (a ≤ cntA l ⟨p0, p1⟩ ∧ cntA l ⟨p0, p1⟩ ≤ m) := hid_ ⟨hx.out.1, by
          apply Nat.not_lt.1
          exact fun h => hr0 (HC.out.2 h)⟩
        clear hx HC HO HR
        have BM := hid_ hmn
        go_wp2
        case roundEnd =>
          go_roundw
          case rel => exact ⟨a, m, BN.out.1, Nat.le_of_lt BM.out, rfl, rfl, HX, by (exact BR.out.trans (by (repeat first | with_reducible exact Bel.refl _ | with_reducible exact bz0 | with_reducible apply Bel.drew | with_reducible apply Bel.alloc)))⟩
          case measure => have := BN.out; simp [intOf]; omega
    · obtain rfl : a = b := by omega
      have hcnt : cntA l ⟨p0, p1⟩ = a := by have := hx.out; omega
      have HCNT := hid_ hcnt
      clear hx hcnt
      have q0 := (FP.out.bel hbr).cell 0 rfl
      have q1 := (FP.out.bel hbr).cell 1 rfl
      by_cases han : a < n
      · obtain ⟨ad, o0, o1, o2, o3, rfl, ho, d0, d1, d2, d3⟩ := (FA.out.bel hbr).acc han
        have HO := hid_ ho
        clear hbr ho
        obtain ⟨r, hr⟩ : ∃ r, cmpP ⟨o0, o1⟩ ⟨p0, p1⟩ = r := ⟨_, rfl⟩
        have HR := hid_ hr
        clear hr
        go_upto_region 8 with (fail)
        have hKP : ∀ W, Bel wr W → (fun W => Bel wr W ∧ W.cell? ⟨gP, 0, none⟩ = some (.string p0) ∧ W.cell? ⟨gP, 1, none⟩ = some (.string p1) ∧ W.cell? (ad.add (a * 4)) = some (.string o0) ∧ W.cell? ⟨(ad.add (a * 4)).block, (ad.add (a * 4)).off + 1, none⟩ = some (.string o1) ∧ W.cell? ⟨(ad.add (a * 4)).block, (ad.add (a * 4)).off + 2, none⟩ = some (.int .i64 o2) ∧ W.cell? ⟨(ad.add (a * 4)).block, (ad.add (a * 4)).off + 3, none⟩ = some (.int .i64 o3)) W := fun W b => ⟨b, b.cell_ q0, b.cell_ q1, b.cell_ d0, b.cell_ d1, b.cell_ d2, b.cell_ d3⟩
        have HKP := hid_ hKP
        clear hKP
        go_region_held3 (fun W => Bel wr W ∧ W.cell? ⟨gP, 0, none⟩ = some (.string p0) ∧ W.cell? ⟨gP, 1, none⟩ = some (.string p1) ∧ W.cell? (ad.add (a * 4)) = some (.string o0) ∧ W.cell? ⟨(ad.add (a * 4)).block, (ad.add (a * 4)).off + 1, none⟩ = some (.string o1) ∧ W.cell? ⟨(ad.add (a * 4)).block, (ad.add (a * 4)).off + 2, none⟩ = some (.int .i64 o2) ∧ W.cell? ⟨(ad.add (a * 4)).block, (ad.add (a * 4)).off + 3, none⟩ = some (.int .i64 o3)) ((refine HKP.out _ ?_; (repeat first | with_reducible exact Bel.refl _ | with_reducible exact bz0 | with_reducible apply Bel.drew | with_reducible apply Bel.alloc)))
          (first
            | (go_at_call 90; refine' Calls.mono (seek1_any o0 o1 o2 o3 p0 p1 _) ?_; rintro e w9 ⟨rfl, b9⟩; have bz0 : Bel wr w9 := Bel.trans (by (repeat first | with_reducible exact Bel.refl _ | with_reducible exact bz0 | with_reducible apply Bel.drew | with_reducible apply Bel.alloc)) b9; rw [HR.out]))
        clear HKP
        have hc := (cut_at HS.out HO.out (p := ⟨p0, p1⟩)).2 HCNT.out.symm
        rw [← cmpP_zero, show cmpP (Acc.plc ⟨o0, o1, o2, o3⟩) ⟨p0, p1⟩ = r from HR.out] at hc
        have HF : Hid (isA l ⟨p0, p1⟩ = (r == 0)) := hid_ (by
          rw [Bool.eq_iff_iff, beq_iff_eq]
          exact hc.symm)
        clear hc HO HR d0 d1 d2 d3 q0 q1
        go_wp2
        go_ret2
        exact ⟨by rw [HF.out, HCNT.out]; rfl, FB.out.trans (by (exact BR.out.trans (by (repeat first | with_reducible exact Bel.refl _ | with_reducible exact bz0 | with_reducible apply Bel.drew | with_reducible apply Bel.alloc))))⟩
      · have han' : a = n := by omega
        have HF : Hid (isA l ⟨p0, p1⟩ = false) := hid_ (cut_none HS.out (by rw [HCNT.out, HL.out, han']))
        clear hbr
        go_upto_region 8 with (fail)
        go_quiet (fail)
        go_wp2
        go_ret2
        exact ⟨by rw [HF.out, HCNT.out]; rfl, FB.out.trans (BR.out.drewN _)⟩
end Go.Proofs.YtnpinolhhnpniaaGreat
set_option linter.unusedSimpArgs false
set_option linter.unusedVariables false
namespace Go.Proofs.YtnpinolhhnpniaaGreat
open Go.RowKit Go.Lib Go.Sort Go.Shelf
set_option maxRecDepth 10000 in
set_option maxHeartbeats 1000000 in
theorem seek_any (A : Option Addr) (n c : Nat) (l : List Acc) (p0 p1 : ByteArray) (w : World) (hA : Row accT w A n l) (hs : Srt l) :
    Calls Tryz.prog 71 #[.slice A n c, .agg #[.string p0, .string p1]] w fun e w' => e = .returned (.tuple #[.int .i64 (cntA l ⟨p0, p1⟩ : Nat), .bool (isA l ⟨p0, p1⟩)]) ∧ Bel w w' := by
  have HS := hid_ hs
  clear hs
  have k0 := Bx.new w 56 [.string p0, .string p1]
  have k0 : Bx (w.alloc (.cells #[.string p0, .string p1] 56)) (w.heap.size) 56 [.string p0, .string p1] := k0
  have kB : Bel w (w.alloc (.cells #[.string p0, .string p1] 56)) := (Bel.refl w).alloc _
  have FP := hid_ k0
  have FB := hid_ kB
  clear k0 kB
  have FA := hid_ (hA.bel FB.out)
  clear hA
  go_enter Tryz.func71, Tryz.ntmps71
  go_wp2_with fail
  generalize (w.alloc (.cells #[.string p0, .string p1] 56)) = W0 at FP FB FA ⊢
  obtain ⟨gP, hgP⟩ : ∃ g, w.heap.size = g := ⟨_, rfl⟩
  rw [hgP] at FP
  try rw [hgP]
  clear hgP
  refine (bsearch_any A n c l p0 p1 _ FA.out HS.out).mono ?_
  rintro e v1 ⟨rfl, b⟩
  have bb := b
  have f1P := hid_ (FP.out.bel bb)
  have f1B := hid_ (FB.out.trans bb)
  have f1A := hid_ (FA.out.bel bb)
  clear b bb FP FB FA
  go_wp2
  go_ret2
  exact ⟨rfl, f1B.out⟩
set_option maxRecDepth 10000 in
set_option maxHeartbeats 1000000 in
theorem find_any (A : Option Addr) (n c : Nat) (l : List Acc) (p0 p1 : ByteArray) (w : World) (hA : Row accT w A n l) (hs : Srt l) :
    Calls Tryz.prog 56 #[.slice A n c, .string p0, .string p1] w fun e w' => e = .returned (.agg (accC (findA l ⟨p0, p1⟩)).toArray) ∧ Bel w w' := by
  have HS := hid_ hs
  have HL := hid_ hA.1
  have HA := hid_ hA
  have hA63 := hA.2.1
  obtain ⟨f, hf⟩ : ∃ f, findA l ⟨p0, p1⟩ = f := ⟨_, rfl⟩
  rw [hf]
  have HFI := hid_ hf
  clear hs hA hf
  go_enter Tryz.func56, Tryz.ntmps56
  go_wp2_with fail
  refine (seek_any A n c l p0 p1 _ (HA.out.bel ((Bel.refl w).alloc _)) HS.out).mono ?_
  rintro e w1 ⟨rfl, b⟩
  obtain ⟨is, his⟩ : ∃ is, isA l ⟨p0, p1⟩ = is := ⟨_, rfl⟩
  rw [his]
  have HI := hid_ his
  clear his
  have kz := Bx.new w 37 [.string ⟨#[]⟩, .string ⟨#[]⟩, .int .i64 0, .int .i64 0]
  have kz1 := kz.bel b
  have KZ := hid_ kz1
  have HB := hid_ (((Bel.refl w).alloc _).trans b)
  clear kz kz1 b
  cases is
  · have HF : Hid (f = accZ ⟨p0, p1⟩) := hid_ (by
      obtain ⟨L, M, R, hC⟩ := srt_cut HS.out ⟨p0, p1⟩
      have h1 := HI.out
      rw [hC.is] at h1
      rw [← HFI.out, hC.find]
      cases M with
      | none => rfl
      | some x => cases h1)
    obtain ⟨gZ, hgZ⟩ : ∃ g, w.heap.size = g := ⟨_, rfl⟩
    have HG := hid_ hgZ
    rw [hgZ] at KZ
    try rw [hgZ]
    clear hgZ
    have HLE : Hid (w.heap.size ≤ gZ) := hid_ (Nat.le_of_eq HG.out)
    have ks := ((((KZ.out.set 0 (.string p0)).set 1 (.string p1)).set 2 (.int .i64 0)).set 3 (.int .i64 0))
    have KS := hid_ ks
    have BS := hid_ ((((HB.out.setBx (g := gZ) (j := 0) HLE.out (.string p0)).setBx (j := 1) HLE.out (.string p1)).setBx (j := 2) HLE.out (.int .i64 0)).setBx (j := 3) HLE.out (.int .i64 0))
    clear ks
    have z0 := KZ.out.cell 0 rfl
    have z1 := KZ.out.cell 1 rfl
    have z2 := KZ.out.cell 2 rfl
    have z3 := KZ.out.cell 3 rfl
    have zf := fun j => KZ.out.frozen j
    go_wp2
    refine bodyPost_ret (results_c rfl _ _ gZ 37 _ (0, 0) _ rfl KS.out Tryz.underlying37 rfl (by kernel_rfl)) rfl ?_
    exact ⟨by rw [HF.out]; rfl, BS.out⟩
  · have HMM : Hid (cntA l ⟨p0, p1⟩ < n ∧ ∃ x, l[cntA l ⟨p0, p1⟩]? = some x ∧ f = x) := hid_ (by
      obtain ⟨L, M, R, hC⟩ := srt_cut HS.out ⟨p0, p1⟩
      have h1 := HI.out
      rw [hC.is] at h1
      rw [← HFI.out, hC.find, hC.cnt, ← HL.out, hC.eq]
      cases M with
      | none => cases h1
      | some x => exact ⟨by simp, x, by simp, rfl⟩)
    obtain ⟨k, hk⟩ : ∃ k, cntA l ⟨p0, p1⟩ = k := ⟨_, rfl⟩
    rw [hk]
    rw [hk] at HMM
    have hkn := HMM.out.1
    obtain ⟨ad, o0, o1, o2, o3, rfl, ho, d0, d1, d2, d3⟩ := (HA.out.bel HB.out).acc hkn
    have HF : Hid (f = ⟨o0, o1, o2, o3⟩) := hid_ (by
      obtain ⟨_, x, h1, h2⟩ := HMM.out
      rw [ho] at h1
      cases h1
      exact h2)
    have hk64 := hA63
    have hki : (k : Int) < (n : Int) := by omega
    clear ho hk hkn HMM
    obtain ⟨gZ, hgZ⟩ : ∃ g, w.heap.size = g := ⟨_, rfl⟩
    have HG := hid_ hgZ
    rw [hgZ] at KZ
    try rw [hgZ]
    clear hgZ
    have HLE : Hid (w.heap.size ≤ gZ) := hid_ (Nat.le_of_eq HG.out)
    have ks := ((((KZ.out.set 0 (.string o0)).set 1 (.string o1)).set 2 (.int .i64 o2)).set 3 (.int .i64 o3))
    have KS := hid_ ks
    have BS := hid_ ((((HB.out.setBx (g := gZ) (j := 0) HLE.out (.string o0)).setBx (j := 1) HLE.out (.string o1)).setBx (j := 2) HLE.out (.int .i64 o2)).setBx (j := 3) HLE.out (.int .i64 o3))
    clear ks
    have z0 := KZ.out.cell 0 rfl
    have z1 := KZ.out.cell 1 rfl
    have z2 := KZ.out.cell 2 rfl
    have z3 := KZ.out.cell 3 rfl
    have zf := fun j => KZ.out.frozen j
    go_wp2
    refine bodyPost_ret (results_c rfl _ _ gZ 37 _ (0, 0) _ rfl KS.out Tryz.underlying37 rfl (by kernel_rfl)) rfl ?_
    exact ⟨by rw [HF.out]; rfl, BS.out⟩
end Go.Proofs.YtnpinolhhnpniaaGreat
