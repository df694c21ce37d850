/- Whether any accounts may be, and what legs make of them, what is held, freed, found, and all of an asset, are what the document says, or its error. -/
import Derived.Test.YtgnninpfhnpjoaaAw11
import Derived.Test.YtgnninpfhnpjoaaAcCR
import Derived.Test.YtgnninpfhnpjoaaSameAcc
import Derived.Test.YtgnninpfhnpjoaaOpLeg
import Derived.Test.YtgnninpfhnpjoaaRows
import Derived.ChangeOld
set_option linter.unusedSimpArgs false
set_option linter.unusedVariables false
namespace Go.Proofs.Ytgnninpfhnpjoaa
open Go.RowKit Go.Lib
theorem i64w_wf {x : Int} (h : (Lit.int .i64 x).wf = true) : i64w x := by
  simp [Lit.wf, IntKind.min, IntKind.max, IntKind.signed, IntKind.bits] at h
  exact h
set_option maxRecDepth 10000 in
set_option maxHeartbeats 4000000 in
theorem walkAccountTells (w : World) (A : Option Addr) (n c : Nat) (l : List Acc) (ha : n ≤ c ∧ Row accT w A n l ∧ ∀ x ∈ l, accWf x) (B : Option Addr) (m d : Nat) (legs : List Due) (hb : m ≤ d ∧ Row legT w B m legs ∧ ∀ x ∈ legs, legWf x) (who : ByteArray) (hs1 : who.size ≤ 9223372036854775807) (asset : ByteArray) (hs2 : asset.size ≤ 9223372036854775807) (q : Int) (wq : (Lit.int .i64 q).wf = true) : Calls Try.prog 9 #[.slice A n c, .slice B m d, .string who, .string asset, .int .i64 q] w fun e w' => e = .returned (.bool true) ∧ Bel w w' := by
  obtain ⟨hnc, hA, hwa⟩ := ha
  obtain ⟨hmd, hB, hwb⟩ := hb
  have hm63 := hB.2.1
  have HNC := hid_ hnc
  have HWA := hid_ hwa
  have HWB := hid_ hwb
  have HLA := hid_ hA.1
  have HLB := hid_ hB.1
  have FA := hid_ hA
  have FL := hid_ hB
  have FB := hid_ (Bel.refl w)
  have HSZ := hid_ (And.intro hs1 hs2)
  clear hA hB hwa hwb hnc hmd hs1 hs2 wq
  go_enter Try.func9, Try.ntmps9
  go_wp2_with fail
  ((with_reducible refine (awake11 _).mono ?_))
  rintro e v1 ⟨rfl, b⟩
  have bb := b
  have f1A := hid_ (FA.out.bel bb)
  have f1L := hid_ (FL.out.bel bb)
  have f1B := hid_ (FB.out.trans bb)
  clear b bb FA FL FB
  go_wp2_with fail
  ((with_reducible refine (few11_any A n c l B m d legs _ f1A.out f1L.out).mono ?_))
  rintro e v2 ⟨rfl, b⟩
  have bb := b
  have f2A := hid_ (f1A.out.bel bb)
  have f2L := hid_ (f1L.out.bel bb)
  have f2B := hid_ (f1B.out.trans bb)
  clear b bb f1A f1L f1B
  obtain ⟨fb, hfb⟩ : ∃ fb, few11 l legs = fb := ⟨_, rfl⟩
  rw [hfb]
  cases fb
  · clear hfb
    go_wp2
    go_ret
    exact ⟨rfl, f2B.out⟩
  have HQ := hid_ (few11_iff.1 hfb)
  clear hfb
  by_cases hwho : (100 : Int) < (who.size : Int)
  · skip
    go_wp2
    go_ret
    exact ⟨rfl, f2B.out⟩
  have dwho : decide ((100 : Int) < (who.size : Int)) = false := decide_eq_false hwho
  have ewho : decide (100 < who.size) = false := decide_eq_false (by omega)
  by_cases hasset : (100 : Int) < (asset.size : Int)
  · skip
    go_wp2
    go_ret
    exact ⟨rfl, f2B.out⟩
  have dasset : decide ((100 : Int) < (asset.size : Int)) = false := decide_eq_false hasset
  have easset : decide (100 < asset.size) = false := decide_eq_false (by omega)
  have HS2 : Hid (who.size ≤ 100 ∧ asset.size ≤ 100) := hid_ (by omega)
  go_wp2_with fail
  ((with_reducible refine (checkA_any A n c l _ f2A.out (fun a ha => by have := HQ.out.2.2.1 a ha; omega)).mono ?_))
  rintro e v3 ⟨rfl, b⟩
  have bb := b
  clear hwho hasset dwho dasset ewho easset
  have f3A := hid_ (f2A.out.bel bb)
  have f3L := hid_ (f2L.out.bel bb)
  have f3B := hid_ (f2B.out.trans bb)
  clear b bb f2A f2L f2B
  go_wp2_with fail
  ((with_reducible refine (checkR_any A n c l _ f3A.out (fun a ha => by have := HQ.out.2.2.1 a ha; omega)).mono ?_))
  rintro e v4 ⟨rfl, b⟩
  have bb := b
  have f4A := hid_ (f3A.out.bel bb)
  have f4L := hid_ (f3L.out.bel bb)
  have f4B := hid_ (f3B.out.trans bb)
  clear b bb f3A f3L f3B
  obtain ⟨ok, hok⟩ : ∃ ok, okL l = ok := ⟨_, rfl⟩
  have HOKB := hid_ hok
  obtain ⟨ce, hce⟩ : ∃ q, chkAE l = q := ⟨_, rfl⟩
  have HCE := hid_ hce
  rw [hce]
  clear hce hok
  go_wp2_with fail
  ((with_reducible refine (checkA_any A n c l _ f4A.out (fun a ha => by have := HQ.out.2.2.1 a ha; omega)).mono ?_))
  rintro e v5 ⟨rfl, b⟩
  have bb := b
  rw [HCE.out]
  have f5A := hid_ (f4A.out.bel bb)
  have f5L := hid_ (f4L.out.bel bb)
  have f5B := hid_ (f4B.out.trans bb)
  clear b bb f4A f4L f4B
  cases ok
  · have h110 : ce = 110 := by rw [← HCE.out]; unfold chkAE; rw [HOKB.out]; rfl
    subst h110
    go_wp2
    go_ret
    exact ⟨rfl, f5B.out⟩
  have h000 : ce = 0 := by rw [← HCE.out]; unfold chkAE; rw [HOKB.out]; rfl
  subst h000
  have HOK := hid_ (okL_iff.1 HOKB.out)
  clear HOKB HCE
  have HWI : Hid (∀ x ∈ l, -9223372036854775808 ≤ x.balance ∧ x.balance ≤ 9223372036854775807) := hid_ (fun a ha => i64w_wf (HWA.out a ha).2.2.1)
  have HWL : Hid (∀ a ∈ l, i64w a.balance) := hid_ (fun a ha => i64w_wf (HWA.out a ha).2.2.1)
  have HN2 : Hid (n ≤ 200) := hid_ (by have := HQ.out.1; rw [HLA.out] at this; exact this)
  have HZ1 : Hid (∀ x ∈ legs, x.who.size ≤ 9223372036854775807 ∧ x.asset.size ≤ 9223372036854775807 ∧ i64w x.amount) := hid_ (fun x hx => ⟨by have := HQ.out.2.2.2 x hx; omega, by have := HQ.out.2.2.2 x hx; omega, i64w_wf (HWB.out x hx).2.2⟩)
  have HZ2 : Hid (∀ x ∈ legs, x.who.size ≤ 4294967280 ∧ x.asset.size ≤ 4294967280 ∧ i64w x.amount) := hid_ (fun x hx => ⟨by have := HQ.out.2.2.2 x hx; omega, by have := HQ.out.2.2.2 x hx; omega, i64w_wf (HWB.out x hx).2.2⟩)
  have HS4 : Hid (who.size ≤ 4294967280 ∧ asset.size ≤ 4294967280) := hid_ (by have := HS2.out; omega)
  go_wp2_with fail
  ((with_reducible refine (post_any A n c l B m d legs _ f5A.out HOK.out.srt (Nat.le_trans HN2.out (by decide)) f5L.out HZ1.out HWL.out).mono ?_))
  rintro e v6 ⟨v, rfl, o, b⟩
  have bb := b
  obtain ⟨lp, hlp⟩ : ∃ q', (postO l legs) = q' := ⟨_, rfl⟩
  have Hlp := hid_ hlp
  rw [hlp] at o
  clear hlp
  obtain ⟨Q1, k1, rfl, hk1, q1⟩ := o.reads
  clear o hk1
  obtain ⟨pe, hpe⟩ : ∃ q', postE l legs = q' := ⟨_, rfl⟩
  have Hpe := hid_ hpe
  rw [hpe]
  clear hpe
  have f6A := hid_ (f5A.out.bel bb)
  have f6L := hid_ (f5L.out.bel bb)
  have f6B := hid_ (f5B.out.trans bb)
  have f6X1 := hid_ q1
  clear b bb f5A f5L f5B q1
  go_wp2_with fail
  ((with_reducible refine (postR_any A n c l B m d legs _ f6A.out HOK.out.srt (Nat.le_trans HN2.out (by decide)) f6L.out HZ2.out HWL.out).mono ?_))
  rintro e v7 ⟨v, rfl, o, b⟩
  have bb := b
  rw [Hlp.out] at o
  obtain ⟨Q2, k2, rfl, hk2, q2⟩ := o.reads
  clear o hk2
  rw [Hpe.out]
  have f7A := hid_ (f6A.out.bel bb)
  have f7L := hid_ (f6L.out.bel bb)
  have f7B := hid_ (f6B.out.trans bb)
  have f7X1 := hid_ (f6X1.out.bel bb)
  have f7X2 := hid_ q2
  clear b bb f6A f6L f6B f6X1 q2
  go_wp2_with fail
  ((with_reducible refine (hold_any A n c l who asset q _ f7A.out HNC.out HOK.out.srt (Nat.le_trans HN2.out (by decide)) HSZ.out.1 HSZ.out.2).mono ?_))
  rintro e v8 ⟨v, rfl, o, b⟩
  have bb := b
  obtain ⟨lh, hlh⟩ : ∃ q', (mvO l ⟨who, asset⟩ q (if wrap64 ((findA l ⟨who, asset⟩).balance - (findA l ⟨who, asset⟩).held) < q then 111 else 0) q) = q' := ⟨_, rfl⟩
  have Hlh := hid_ hlh
  rw [hlh] at o
  clear hlh
  obtain ⟨Q3, k3, rfl, hk3, q3⟩ := o.reads
  clear o hk3
  obtain ⟨he, hhe⟩ : ∃ q', mvE ⟨who, asset⟩ q (if wrap64 ((findA l ⟨who, asset⟩).balance - (findA l ⟨who, asset⟩).held) < q then 111 else 0) = q' := ⟨_, rfl⟩
  have Hhe := hid_ hhe
  rw [hhe]
  clear hhe
  have f8A := hid_ (f7A.out.bel bb)
  have f8L := hid_ (f7L.out.bel bb)
  have f8B := hid_ (f7B.out.trans bb)
  have f8X1 := hid_ (f7X1.out.bel bb)
  have f8X2 := hid_ (f7X2.out.bel bb)
  have f8X3 := hid_ q3
  clear b bb f7A f7L f7B f7X1 f7X2 q3
  go_wp2_with fail
  ((with_reducible refine (holdR_any A n c l who asset q _ f8A.out HOK.out.srt (Nat.le_trans HN2.out (by decide)) HS4.out.1 HS4.out.2).mono ?_))
  rintro e v9 ⟨v, rfl, o, b⟩
  have bb := b
  rw [Hlh.out] at o
  obtain ⟨Q4, k4, rfl, hk4, q4⟩ := o.reads
  clear o hk4
  rw [Hhe.out]
  have f9A := hid_ (f8A.out.bel bb)
  have f9L := hid_ (f8L.out.bel bb)
  have f9B := hid_ (f8B.out.trans bb)
  have f9X1 := hid_ (f8X1.out.bel bb)
  have f9X2 := hid_ (f8X2.out.bel bb)
  have f9X3 := hid_ (f8X3.out.bel bb)
  have f9X4 := hid_ q4
  clear b bb f8A f8L f8B f8X1 f8X2 f8X3 q4
  go_wp2_with fail
  ((with_reducible refine (free_any A n c l who asset q _ f9A.out HNC.out HOK.out.srt (Nat.le_trans HN2.out (by decide)) HSZ.out.1 HSZ.out.2).mono ?_))
  rintro e v10 ⟨v, rfl, o, b⟩
  have bb := b
  obtain ⟨lf, hlf⟩ : ∃ q', (mvO l ⟨who, asset⟩ q (if (findA l ⟨who, asset⟩).held < q then 112 else 0) (wrap64 (-q))) = q' := ⟨_, rfl⟩
  have Hlf := hid_ hlf
  rw [hlf] at o
  clear hlf
  obtain ⟨Q5, k5, rfl, hk5, q5⟩ := o.reads
  clear o hk5
  obtain ⟨fe, hfe⟩ : ∃ q', mvE ⟨who, asset⟩ q (if (findA l ⟨who, asset⟩).held < q then 112 else 0) = q' := ⟨_, rfl⟩
  have Hfe := hid_ hfe
  rw [hfe]
  clear hfe
  have f10A := hid_ (f9A.out.bel bb)
  have f10L := hid_ (f9L.out.bel bb)
  have f10B := hid_ (f9B.out.trans bb)
  have f10X1 := hid_ (f9X1.out.bel bb)
  have f10X2 := hid_ (f9X2.out.bel bb)
  have f10X3 := hid_ (f9X3.out.bel bb)
  have f10X4 := hid_ (f9X4.out.bel bb)
  have f10X5 := hid_ q5
  clear b bb f9A f9L f9B f9X1 f9X2 f9X3 f9X4 q5
  go_wp2_with fail
  ((with_reducible refine (freeR_any A n c l who asset q _ f10A.out HOK.out.srt (Nat.le_trans HN2.out (by decide)) HS4.out.1 HS4.out.2).mono ?_))
  rintro e v11 ⟨v, rfl, o, b⟩
  have bb := b
  rw [Hlf.out] at o
  obtain ⟨Q6, k6, rfl, hk6, q6⟩ := o.reads
  clear o hk6
  rw [Hfe.out]
  have f11A := hid_ (f10A.out.bel bb)
  have f11L := hid_ (f10L.out.bel bb)
  have f11B := hid_ (f10B.out.trans bb)
  have f11X1 := hid_ (f10X1.out.bel bb)
  have f11X2 := hid_ (f10X2.out.bel bb)
  have f11X3 := hid_ (f10X3.out.bel bb)
  have f11X4 := hid_ (f10X4.out.bel bb)
  have f11X5 := hid_ (f10X5.out.bel bb)
  have f11X6 := hid_ q6
  clear b bb f10A f10L f10B f10X1 f10X2 f10X3 f10X4 f10X5 q6
  go_wp2_with fail
  ((with_reducible refine (total_any A n c l asset _ f11A.out (Nat.le_trans HN2.out (by decide)) HWI.out).mono ?_))
  rintro e v12 ⟨rfl, b⟩
  have bb := b
  obtain ⟨tv, htv⟩ : ∃ q', sumV (balA l asset) = q' := ⟨_, rfl⟩
  have Htv := hid_ htv
  rw [htv]
  clear htv
  obtain ⟨te, hte⟩ : ∃ q', sumE (balA l asset) = q' := ⟨_, rfl⟩
  have Hte := hid_ hte
  rw [hte]
  clear hte
  have f12A := hid_ (f11A.out.bel bb)
  have f12L := hid_ (f11L.out.bel bb)
  have f12B := hid_ (f11B.out.trans bb)
  have f12X1 := hid_ (f11X1.out.bel bb)
  have f12X2 := hid_ (f11X2.out.bel bb)
  have f12X3 := hid_ (f11X3.out.bel bb)
  have f12X4 := hid_ (f11X4.out.bel bb)
  have f12X5 := hid_ (f11X5.out.bel bb)
  have f12X6 := hid_ (f11X6.out.bel bb)
  clear b bb f11A f11L f11B f11X1 f11X2 f11X3 f11X4 f11X5 f11X6
  go_wp2_with fail
  ((with_reducible refine (totalR_any A n c l asset _ f12A.out (Nat.le_trans HN2.out (by decide)) HWI.out).mono ?_))
  rintro e v13 ⟨rfl, b⟩
  have bb := b
  rw [Htv.out, Hte.out]
  have f13A := hid_ (f12A.out.bel bb)
  have f13L := hid_ (f12L.out.bel bb)
  have f13B := hid_ (f12B.out.trans bb)
  have f13X1 := hid_ (f12X1.out.bel bb)
  have f13X2 := hid_ (f12X2.out.bel bb)
  have f13X3 := hid_ (f12X3.out.bel bb)
  have f13X4 := hid_ (f12X4.out.bel bb)
  have f13X5 := hid_ (f12X5.out.bel bb)
  have f13X6 := hid_ (f12X6.out.bel bb)
  clear b bb f12A f12L f12B f12X1 f12X2 f12X3 f12X4 f12X5 f12X6
  go_wp2_with fail
  ((with_reducible refine (sameAcc_any Q1 _ k1 lp Q2 _ k2 lp _ f13X1.out f13X2.out).mono ?_))
  rintro e v14 ⟨rfl, b⟩
  have bb := b
  rw [eqB_1 (rfl : lp = lp)]
  have f14A := hid_ (f13A.out.bel bb)
  have f14L := hid_ (f13L.out.bel bb)
  have f14B := hid_ (f13B.out.trans bb)
  have f14X1 := hid_ (f13X1.out.bel bb)
  have f14X2 := hid_ (f13X2.out.bel bb)
  have f14X3 := hid_ (f13X3.out.bel bb)
  have f14X4 := hid_ (f13X4.out.bel bb)
  have f14X5 := hid_ (f13X5.out.bel bb)
  have f14X6 := hid_ (f13X6.out.bel bb)
  clear b bb f13A f13L f13B f13X1 f13X2 f13X3 f13X4 f13X5 f13X6
  go_wp2_with fail
  ((with_reducible refine (sameAcc_any Q3 _ k3 lh Q4 _ k4 lh _ f14X3.out f14X4.out).mono ?_))
  rintro e v15 ⟨rfl, b⟩
  have bb := b
  rw [eqB_1 (rfl : lh = lh)]
  have f15A := hid_ (f14A.out.bel bb)
  have f15L := hid_ (f14L.out.bel bb)
  have f15B := hid_ (f14B.out.trans bb)
  have f15X1 := hid_ (f14X1.out.bel bb)
  have f15X2 := hid_ (f14X2.out.bel bb)
  have f15X3 := hid_ (f14X3.out.bel bb)
  have f15X4 := hid_ (f14X4.out.bel bb)
  have f15X5 := hid_ (f14X5.out.bel bb)
  have f15X6 := hid_ (f14X6.out.bel bb)
  clear b bb f14A f14L f14B f14X1 f14X2 f14X3 f14X4 f14X5 f14X6
  go_wp2_with fail
  ((with_reducible refine (sameAcc_any Q5 _ k5 lf Q6 _ k6 lf _ f15X5.out f15X6.out).mono ?_))
  rintro e v16 ⟨rfl, b⟩
  have bb := b
  rw [eqB_1 (rfl : lf = lf)]
  have f16A := hid_ (f15A.out.bel bb)
  have f16L := hid_ (f15L.out.bel bb)
  have f16B := hid_ (f15B.out.trans bb)
  have f16X1 := hid_ (f15X1.out.bel bb)
  have f16X2 := hid_ (f15X2.out.bel bb)
  have f16X3 := hid_ (f15X3.out.bel bb)
  have f16X4 := hid_ (f15X4.out.bel bb)
  have f16X5 := hid_ (f15X5.out.bel bb)
  have f16X6 := hid_ (f15X6.out.bel bb)
  clear b bb f15A f15L f15B f15X1 f15X2 f15X3 f15X4 f15X5 f15X6
  clear f16X1 f16X2 f16X3 f16X4 f16X5 f16X6
  obtain ⟨x2, x3, hfx⟩ : ∃ x2 x3, findA l ⟨who, asset⟩ = ⟨who, asset, x2, x3⟩ := by
    have h := findA_plc l ⟨who, asset⟩
    obtain ⟨y, hy⟩ : ∃ y, findA l ⟨who, asset⟩ = y := ⟨_, rfl⟩
    rw [hy] at h ⊢
    obtain ⟨y0, y1, y2, y3⟩ := y
    simp only [Acc.plc, Plc.mk.injEq] at h
    exact ⟨y2, y3, by rw [h.1, h.2]⟩
  have HFX := hid_ hfx
  clear hfx
  go_wp2_with fail
  ((with_reducible refine (find_any A n c l who asset _ f16A.out HOK.out.srt).mono ?_))
  rintro e v17 ⟨rfl, b⟩
  have bb := b
  rw [HFX.out, show (accC ⟨who, asset, x2, x3⟩).toArray = #[.string who, .string asset, .int .i64 x2, .int .i64 x3] from rfl]
  have f17A := hid_ (f16A.out.bel bb)
  have f17L := hid_ (f16L.out.bel bb)
  have f17B := hid_ (f16B.out.trans bb)
  clear b bb f16A f16L f16B
  go_wp2_with fail
  ((with_reducible refine (findR_any A n c l who asset _ f17A.out).mono ?_))
  rintro e v18 ⟨rfl, b⟩
  have bb := b
  rw [HFX.out, show (accC ⟨who, asset, x2, x3⟩).toArray = #[.string who, .string asset, .int .i64 x2, .int .i64 x3] from rfl]
  have f18A := hid_ (f17A.out.bel bb)
  have f18L := hid_ (f17L.out.bel bb)
  have f18B := hid_ (f17B.out.trans bb)
  clear b bb f17A f17L f17B
  have E1 := eqlAcc who asset x2 x3 who asset x2 x3
  rw [accEq_iff _ _ |>.2 rfl] at E1
  go_wp2
  go_ret
  exact ⟨rfl, f18B.out⟩
end Go.Proofs.Ytgnninpfhnpjoaa
set_option linter.unusedSimpArgs false
set_option linter.unusedVariables false
namespace Go.Proofs.Ytgnninpfhnpjoaa.accountTells
open Go.ChangeShapes Go.WideShapes Go.ChangeAt Go.RowKit
open Go.ChangeMaps (open_string shut_string)
theorem own : ownKnob Try.prog.godebug = none := by kernel_rfl
theorem laidOut : laidOutB Try.prog = true := by kernel_rfl
set_option maxRecDepth 100000 in
theorem lifted (os : Os) (started : os.Started) (H : Type) (enc : TypeId × Value → H) :
    ReturnsInHanded {} Try.checked os 9 .any (Rows.accountTellsSpec.pre6 enc Try.prog Try.f9 Rows.accountTellsRow.domain false) (Rows.accountTellsSpec.post enc Try.prog Try.f9 false true false false) := by
  refine returnsInHanded_of_change (C := Try.checked) own started (by kernel_rfl) Try.func9
    (ChangeSpec.witness6 (enc := enc) (C := Try.checked) false ⟨#[], #[.slice none 0 0, .slice none 0 0, .string ByteArray.empty, .string ByteArray.empty, .int .i64 0], []⟩ 8 (by kernel_rfl) (by kernel_rfl) (by kernel_rfl) (by kernel_rfl)) ?_
  intro W base args ds gs before hval0 hW hcnd _
  have hval : ∀ (j : Nat) t v, Try.f9.params[j]? = some t → args[j]? = some v → Value.okWide Try.prog W .any base t v := hval0
  have hW' := hW
  obtain ⟨p, q, hA0, hV, rfl, hfz, hnd⟩ := hW
  have hA : DataW.TrodAll enc Try.prog W 0 (fun _ => true) true Try.f9.params.toList args.toList ds p := hA0
  rw [Try.params9] at hA hval
  obtain ⟨v0, vs0, d0, ds0, p0, q0, hargs, rfl, rfl, h0, r0⟩ := trodAll_cons hA
  obtain ⟨v1, vs1, d1, ds1, p1, q1, rfl, rfl, rfl, h1, r1⟩ := trodAll_cons r0
  obtain ⟨v2, vs2, d2, ds2, p2, q2, rfl, rfl, rfl, h2, r2⟩ := trodAll_cons r1
  obtain ⟨v3, vs3, d3, ds3, p3, q3, rfl, rfl, rfl, h3, r3⟩ := trodAll_cons r2
  obtain ⟨v4, vs4, d4, ds4, p4, q4, rfl, rfl, rfl, h4, r4⟩ := trodAll_cons r3
  obtain ⟨rfl, rfl, rfl⟩ := trodAll_nil r4
  obtain rfl : args = #[v0, v1, v2, v3, v4] := by cases args; simp_all
  obtain ⟨rfl, rfl⟩ := trodVars_none hV
  have k0 := h0
  have lt0 : ∀ x ∈ p0, x.block < W.heap.size := by obtain ⟨m, hm⟩ := k0; exact DataW.trod_lt m _ _ _ hm
  obtain ⟨A0, n0, c0, l0, rfl, w0⟩ := openAccs (hval 0 40 v0 rfl rfl) h0
  have k1 := h1
  have lt1 : ∀ x ∈ p1, x.block < W.heap.size := by obtain ⟨m, hm⟩ := k1; exact DataW.trod_lt m _ _ _ hm
  obtain ⟨A1, n1, c1, l1, rfl, w1⟩ := openLegs (hval 1 30 v1 rfl rfl) h1
  have k2 := h2
  have lt2 : ∀ x ∈ p2, x.block < W.heap.size := by obtain ⟨m, hm⟩ := k2; exact DataW.trod_lt m _ _ _ hm
  obtain ⟨a2, rfl, hd2, hp2, w2⟩ := open_string Try.underlying9 (hval 2 9 v2 rfl rfl) h2
  have k3 := h3
  have lt3 : ∀ x ∈ p3, x.block < W.heap.size := by obtain ⟨m, hm⟩ := k3; exact DataW.trod_lt m _ _ _ hm
  obtain ⟨a3, rfl, hd3, hp3, w3⟩ := open_string Try.underlying9 (hval 3 9 v3 rfl rfl) h3
  have k4 := h4
  have lt4 : ∀ x ∈ p4, x.block < W.heap.size := by obtain ⟨m, hm⟩ := k4; exact DataW.trod_lt m _ _ _ hm
  obtain ⟨a4, rfl, hd4, hp4, w4⟩ := open_int Try.underlying2 (hval 4 2 v4 rfl rfl) h4
  clear hA0 hval0
  refine (walkAccountTells W A0 n0 c0 l0 w0 A1 n1 c1 l1 w1 a2 w2 a3 w3 a4 w4).mono fun e W' ⟨he, bel⟩ => ?_
  subst he
  exact ⟨_, rfl, _, _, _, [], _, [], hW', trodAll_mk1 (shut_bool Try.underlying4 _), (trodAll_cons_mk (Below.trod laidOut (by kernel_rfl) (of_decide_eq_true (by kernel_rfl)) k0 bel lt0) (trodAll_cons_mk (Below.trod laidOut (by kernel_rfl) (of_decide_eq_true (by kernel_rfl)) k1 bel lt1) (trodAll_cons_mk (Below.trod laidOut (by kernel_rfl) (of_decide_eq_true (by kernel_rfl)) k2 bel lt2) (trodAll_cons_mk (Below.trod laidOut (by kernel_rfl) (of_decide_eq_true (by kernel_rfl)) k3 bel lt3) (trodAll_cons_mk (Below.trod laidOut (by kernel_rfl) (of_decide_eq_true (by kernel_rfl)) k4 bel lt4) trodAll_mk0))))), rfl, bel.frame _, fun h => by cases h⟩
theorem over : Rows.accountTellsRow.holds Try.pinned (OpenSpec.ofChange Rows.accountTellsSpec) :=
  OpenClaim.holds_of_wide 9 Try.f9 rfl rfl rfl rfl rfl rfl rfl ⟨rfl, rfl, rfl, rfl, rfl⟩ rfl rfl rfl rfl rfl (by kernel_rfl) Try.func9 (by kernel_rfl)
    (of_decide_eq_true (by kernel_rfl)) (by unfold Func.isWrapper; first | (rw [if_pos (by decide +kernel)]; kernel_rfl) | (rw [if_neg (by decide +kernel)]; exact ⟨rfl, rfl⟩))
    (fun os started H enc _ => lifted os started H enc)
/-- The statement. -/
theorem proved : Rows.AccountTellsSaid := over
end Go.Proofs.Ytgnninpfhnpjoaa.accountTells
