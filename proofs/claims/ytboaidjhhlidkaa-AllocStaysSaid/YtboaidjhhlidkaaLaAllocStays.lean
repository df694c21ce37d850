/- AllocStays, walked. -/
import Derived.Test.YtboaidjhhlidkaaAl25
import Derived.Test.YtboaidjhhlidkaaAlP
import Derived.Test.YtboaidjhhlidkaaOpPool
set_option linter.unusedSimpArgs false
set_option linter.unusedVariables false
namespace Go.Proofs.Ytboaidjhhlidkaa
open Go.RowKit
theorem stays_z {n m : Nat} (hn : n ≤ 600 ∧ m ≤ 600) : wrap64 ((m : Int) + 1) = (m : Int) + 1 ∧ wrap64 ((n : Int) + 1) = (n : Int) + 1 :=
  ⟨IntWalk.wrap64_in _ (by omega), IntWalk.wrap64_in _ (by omega)⟩
theorem stays_arith {h H most : Int} {n m n1 m1 : Nat} (hb1 : 2 ≤ H) (hb2 : H ≤ most) (hmo : most ≤ 9223372036854775807) (b1 : 2 ≤ h) (b2 : h ≤ most) (hn : n ≤ 600 ∧ m ≤ 600) (hl : n1 ≤ n ∧ m1 ≤ m) (heq : H - (n1 : Int) - (m1 : Int) = h - ((n : Int) + (m : Int)) + 1) :
    wrap64 (H - (n1 : Int)) = H - (n1 : Int) ∧ wrap64 (H - (n1 : Int) - (m1 : Int)) = H - (n1 : Int) - (m1 : Int) ∧ wrap64 (h - ((n : Int) + (m : Int))) = h - ((n : Int) + (m : Int)) ∧ wrap64 (h - ((n : Int) + (m : Int)) + 1) = h - ((n : Int) + (m : Int)) + 1 ∧ (H - (n1 : Int) - (m1 : Int) != h - ((n : Int) + (m : Int)) + 1) = false := by
  have e2 : wrap64 (H - (n1 : Int) - (m1 : Int)) = H - (n1 : Int) - (m1 : Int) := IntWalk.wrap64_in _ (by omega)
  refine ⟨IntWalk.wrap64_in _ (by omega), e2, IntWalk.wrap64_in _ (by omega), ?_, ?_⟩
  · rw [← heq]
    exact e2
  · rw [heq]
    simp
theorem takeF_len (F : List Int) : (takeF F).length ≤ F.length := by cases F <;> simp [takeF]
theorem takeL_len (h most : Int) (F L : List Int) : (takeL h most F L).length ≤ L.length := by
  cases F with
  | nil =>
    have e : takeL h most [] L = if most ≤ h then [] else L := rfl
    rw [e]
    split <;> simp
  | cons x F => exact Nat.le_refl _
theorem take_ok {h most : Int} {F L : List Int} (k : Ok h most F L) (hw : most ≤ 9223372036854775807) :
    takeE h most F = 60 ∨ (takeE h most F = 0 ∧ Ok (takeH h most F) most (takeF F) (takeL h most F L) ∧ takeH h most F - ((takeF F).length : Int) - ((takeL h most F L).length : Int) = h - ((F.length : Int) + (L.length : Int)) + 1) := by
  cases F with
  | nil =>
    by_cases hm : most ≤ h
    · exact .inl (take_full hm).2.1
    · have h0 := k.two
      obtain ⟨t1, t2, t3⟩ := take_new (show 0 ≤ h by omega) (show h < most by omega) hw
      rw [t2, t3, takeL_new L (show h < most by omega)]
      refine .inr ⟨rfl, k.more (by omega), ?_⟩
      simp only [takeF, List.length_nil]
      omega
  | cons x F =>
    refine .inr ⟨rfl, k.tail, ?_⟩
    show h - (F.length : Int) - (L.length : Int) = h - (((x :: F).length : Int) + (L.length : Int)) + 1
    rw [List.length_cons]
    omega
set_option maxRecDepth 10000 in
set_option maxHeartbeats 8000000 in
theorem walkAllocStays (w : World) (h : Int) (A B : Option Addr) (n c m d : Nat) (F L : List Int) (most page : Int) (hh : intWf h) (hnc : n ≤ c) (hmd : m ≤ d) (hA : Row intT w A n F) (hB : Row intT w B m L) (hF : ∀ y ∈ F, intWf y) (hL : ∀ y ∈ L, intWf y) (hmo : intWf most) (hpa : intWf page) :
    Calls Try.prog 10 #[.agg #[.int .i64 h, .slice A n c, .slice B m d], .int .i64 most, .int .i64 page] w fun e w' => e = .returned (.bool true) ∧ Bel w w' := by
  have hn63 := hA.2.1
  have hm63 := hB.2.1
  have HN := hid_ hn63
  have HM := hid_ hm63
  clear hn63 hm63
  go_enter Try.func10, Try.ntmps10
  have K0 := hid_ (Bx.new w 48 [.int .i64 h, .slice A n c, .slice B m d])
  have B0 : Hid (Bel w (w.alloc (.cells #[.int .i64 h, .slice A n c, .slice B m d] 48))) := (Bel.refl w).alloc _
  go_wp2_with fail
  refine (awake06 _).mono ?_
  rintro e w1 ⟨rfl, b1⟩
  have K1 := hid_ (K0.out.bel b1)
  have B1 := hid_ (B0.out.trans b1)
  have e0 := K1.out.cell 0 rfl
  have e1 := K1.out.cell 1 rfl
  have e2 := K1.out.cell 2 rfl
  clear K0 B0 b1
  go_wp2_with fail
  refine (few_any h A B n c m d _ HN.out HM.out).mono ?_
  rintro e w2 ⟨rfl, b2⟩
  have K2 := hid_ (K1.out.bel b2)
  have B2 := hid_ (B1.out.trans b2)
  clear K1 B1 b2 e0 e1 e2
  have e0 := K2.out.cell 0 rfl
  have e1 := K2.out.cell 1 rfl
  have e2 := K2.out.cell 2 rfl
  obtain ⟨fb, hfb⟩ : ∃ fb, fewB n m = fb := ⟨_, rfl⟩
  rw [hfb]
  have HF := hid_ hfb
  clear hfb
  cases fb
  · go_wp2
    go_ret
    exact ⟨rfl, B2.out⟩
  have hfew := few_le HF.out
  clear HF
  go_wp2_with fail
  refine (check_any h most A B n c m d F L _ (hA.bel B2.out) (hB.bel B2.out)).mono ?_
  rintro e w3 ⟨rfl, b3⟩
  have K3 := hid_ (K2.out.bel b3)
  have B3 := hid_ (B2.out.trans b3)
  clear K2 B2 b3 e0 e1 e2
  have e0 := K3.out.cell 0 rfl
  have e1 := K3.out.cell 1 rfl
  have e2 := K3.out.cell 2 rfl
  obtain ⟨ob, hob⟩ : ∃ ob, okP h most F L = ob := ⟨_, rfl⟩
  have HO := hid_ hob
  clear hob
  cases ob
  · rw [chkP_no HO.out]
    go_wp2
    go_ret
    exact ⟨rfl, B3.out⟩
  rw [chkP_yes HO.out]
  have HK : Hid (Ok h most F L) := ok_iff.1 HO.out
  clear HO
  have HFW := hid_ hfew
  have hfw0 := hfew
  clear hfew
  have HMO := hid_ (i64_le hmo)
  have hsum : wrap64 ((n : Int) + (m : Int)) = (n : Int) + (m : Int) := IntWalk.wrap64_in _ (by have := HFW.out; omega)
  have HSUM := hid_ hsum
  have ZZ := hid_ (stays_z hfw0)
  clear hfw0
  go_wp2_with fail
  refine (take_any h most A B n c m d F L _ (hA.bel B3.out) (hB.bel B3.out) (by have := HFW.out; omega) (by have := HFW.out; omega)).mono ?_
  rintro e w4 ⟨v, rfl, ⟨A1, n1, c1, B1, m1, d1, rfl, _, _, ra, rb⟩, b⟩
  have bb := b.alloc (.cells #[.int .i64 (takeH h most F), .slice A1 n1 c1, .slice B1 m1 d1] 48)
  have f1K := hid_ (K3.out.bel bb)
  have f1B := hid_ (B3.out.trans bb)
  have f1P1 := hid_ (Bx.new w4 48 [.int .i64 (takeH h most F), .slice A1 n1 c1, .slice B1 m1 d1])
  have f1RA1 := hid_ ((ra).bel ((Bel.refl w4).alloc (.cells #[.int .i64 (takeH h most F), .slice A1 n1 c1, .slice B1 m1 d1] 48)))
  have f1RB1 := hid_ ((rb).bel ((Bel.refl w4).alloc (.cells #[.int .i64 (takeH h most F), .slice A1 n1 c1, .slice B1 m1 d1] 48)))
  clear b bb K3 B3 e0 e1 e2 ra rb
  have q00 := f1K.out.cell 0 rfl
  have q01 := f1K.out.cell 1 rfl
  have q02 := f1K.out.cell 2 rfl
  go_wp2_with fail
  refine (give_any h page A B n c m d F L _ (hA.bel f1B.out) (hB.bel f1B.out) (by have := HFW.out; omega) (by have := HFW.out; omega)).mono ?_
  rintro e w5 ⟨v, rfl, ⟨A2, n2, c2, B2, m2, d2, rfl, _, _, ra, rb⟩, b⟩
  have bb := b.alloc (.cells #[.int .i64 (giveH h F L page), .slice A2 n2 c2, .slice B2 m2 d2] 48)
  have f2K := hid_ (f1K.out.bel bb)
  have f2B := hid_ (f1B.out.trans bb)
  have f2P1 := hid_ (f1P1.out.bel bb)
  have f2RA1 := hid_ (f1RA1.out.bel bb)
  have f2RB1 := hid_ (f1RB1.out.bel bb)
  have f2P2 := hid_ (Bx.new w5 48 [.int .i64 (giveH h F L page), .slice A2 n2 c2, .slice B2 m2 d2])
  have f2RA2 := hid_ ((ra).bel ((Bel.refl w5).alloc (.cells #[.int .i64 (giveH h F L page), .slice A2 n2 c2, .slice B2 m2 d2] 48)))
  have f2RB2 := hid_ ((rb).bel ((Bel.refl w5).alloc (.cells #[.int .i64 (giveH h F L page), .slice A2 n2 c2, .slice B2 m2 d2] 48)))
  clear b bb f1K f1B f1P1 f1RA1 f1RB1 q00 q01 q02 ra rb
  have q00 := f2K.out.cell 0 rfl
  have q01 := f2K.out.cell 1 rfl
  have q02 := f2K.out.cell 2 rfl
  go_wp2_with fail
  refine (back_any h page A B n c m d F L _ (hA.bel f2B.out) (hB.bel f2B.out) (by have := HFW.out; omega) (by have := HFW.out; omega)).mono ?_
  rintro e w6 ⟨v, rfl, ⟨A3, n3, c3, B3, m3, d3, rfl, _, _, ra, rb⟩, b⟩
  have bb := b.alloc (.cells #[.int .i64 (giveH h F L page), .slice A3 n3 c3, .slice B3 m3 d3] 48)
  have f3K := hid_ (f2K.out.bel bb)
  have f3B := hid_ (f2B.out.trans bb)
  have f3P1 := hid_ (f2P1.out.bel bb)
  have f3RA1 := hid_ (f2RA1.out.bel bb)
  have f3RB1 := hid_ (f2RB1.out.bel bb)
  have f3P2 := hid_ (f2P2.out.bel bb)
  have f3RA2 := hid_ (f2RA2.out.bel bb)
  have f3RB2 := hid_ (f2RB2.out.bel bb)
  have f3P3 := hid_ (Bx.new w6 48 [.int .i64 (giveH h F L page), .slice A3 n3 c3, .slice B3 m3 d3])
  have f3RA3 := hid_ ((ra).bel ((Bel.refl w6).alloc (.cells #[.int .i64 (giveH h F L page), .slice A3 n3 c3, .slice B3 m3 d3] 48)))
  have f3RB3 := hid_ ((rb).bel ((Bel.refl w6).alloc (.cells #[.int .i64 (giveH h F L page), .slice A3 n3 c3, .slice B3 m3 d3] 48)))
  clear b bb f2K f2B f2P1 f2RA1 f2RB1 f2P2 f2RA2 f2RB2 q00 q01 q02 ra rb
  have q00 := f3K.out.cell 0 rfl
  have q01 := f3K.out.cell 1 rfl
  have q02 := f3K.out.cell 2 rfl
  go_wp2_with fail
  refine (turn_any h A B n c m d F L _ (hA.bel f3B.out) (hB.bel f3B.out) (by have := HFW.out; omega) (by have := HFW.out; omega)).mono ?_
  rintro e w7 ⟨v, rfl, ⟨A4, n4, c4, B4, m4, d4, rfl, _, _, ra, rb⟩, b⟩
  have bb := b.alloc (.cells #[.int .i64 (h), .slice A4 n4 c4, .slice B4 m4 d4] 48)
  have f4K := hid_ (f3K.out.bel bb)
  have f4B := hid_ (f3B.out.trans bb)
  have f4P1 := hid_ (f3P1.out.bel bb)
  have f4RA1 := hid_ (f3RA1.out.bel bb)
  have f4RB1 := hid_ (f3RB1.out.bel bb)
  have f4P2 := hid_ (f3P2.out.bel bb)
  have f4RA2 := hid_ (f3RA2.out.bel bb)
  have f4RB2 := hid_ (f3RB2.out.bel bb)
  have f4P3 := hid_ (f3P3.out.bel bb)
  have f4RA3 := hid_ (f3RA3.out.bel bb)
  have f4RB3 := hid_ (f3RB3.out.bel bb)
  have f4P4 := hid_ (Bx.new w7 48 [.int .i64 (h), .slice A4 n4 c4, .slice B4 m4 d4])
  have f4RA4 := hid_ ((ra).bel ((Bel.refl w7).alloc (.cells #[.int .i64 (h), .slice A4 n4 c4, .slice B4 m4 d4] 48)))
  have f4RB4 := hid_ ((rb).bel ((Bel.refl w7).alloc (.cells #[.int .i64 (h), .slice A4 n4 c4, .slice B4 m4 d4] 48)))
  clear b bb f3K f3B f3P1 f3RA1 f3RB1 f3P2 f3RA2 f3RB2 f3P3 f3RA3 f3RB3 q00 q01 q02 ra rb
  have ll : (takeF F).length ≤ n ∧ (takeL h most F L).length ≤ m := ⟨by rw [← hA.1]; exact takeF_len F, by rw [← hB.1]; exact takeL_len h most F L⟩
  have l1 := f4RA1.out.1
  have l2 := f4RB1.out.1
  have l3 := f4RA4.out.1
  have l4 := f4RB4.out.1
  have l5 : (turnP F L).length = n + m := by rw [turnP_len, hA.1, hB.1]
  have l6 : (0 : Nat) = m4 := l4
  have l7 : n4 = n + m := by omega
  have LL : Hid (n1 ≤ n ∧ m1 ≤ m) := by rw [l1, l2] at ll; exact ll
  subst l6 l7
  have HL12 := hid_ (And.intro l1 l2)
  clear l1 l2 l3 l4 l5 ll
  have hc4 := chkP_yes (ok_iff.2 HK.out.turn)
  have HC4 := hid_ hc4
  clear hc4
  have htk := take_ok HK.out HMO.out
  rcases htk with htk | ⟨htk, hok1, heq1⟩
  · have HTK := hid_ htk
    clear htk hsum
    obtain ⟨mb, hmb⟩ : ∃ mb, mayP h F L page = mb := ⟨_, rfl⟩
    have HMB := hid_ hmb
    clear hmb
    cases mb
    · have HG : Hid (giveE h F L page = 1) := giveE_0 HMB.out
      rw [HTK.out, HG.out]
      have EK := f4K
      have EB := f4B
      have E2 := f4P2
      have E3 := f4P3
      have E4 := f4P4
      have E5 := f4RA4
      have E6 := f4RA2
      have E7 := f4RB2
      have E8 := f4RA3
      have E9 := f4RB3
      have q10 := EK.out.cell 0 rfl
      have q11 := EK.out.cell 1 rfl
      have q12 := EK.out.cell 2 rfl
      have q40 := E4.out.cell 0 rfl
      have q41 := E4.out.cell 1 rfl
      have q42 := E4.out.cell 2 rfl
      go_wp2_with fail
      refine (check_any h most A4 B4 (n + m) c4 0 d4 (turnP F L) [] _ E5.out (Row.zero _ _)).mono ?_
      rintro e w23 ⟨rfl, b23⟩
      rw [HC4.out]
      clear q10 q11 q12 q40 q41 q42  
      have FB := hid_ (EB.out.trans b23)
      have G4 := hid_ (E4.out.bel b23)
      clear b23 EB E4
      have q40 := G4.out.cell 0 rfl
      have q41 := G4.out.cell 1 rfl
      have q42 := G4.out.cell 2 rfl
      go_wp2
      go_ret
      exact ⟨rfl, FB.out⟩
    · have HG : Hid (giveE h F L page = 0) := giveE_1 HMB.out
      have HH : Hid (giveH h F L page = h) := giveH_1 HMB.out
      have k2 := chkP_yes (ok_iff.2 (HK.out.give HMB.out))
      have k3 := chkP_yes (ok_iff.2 (HK.out.back HMB.out))
      have x2 := f4RA2.out
      have x3 := f4RB2.out
      have x4 := f4RA3.out
      have x5 := f4RB3.out
      rw [giveF_1 HMB.out] at x2
      rw [giveL_1 HMB.out] at x3
      rw [backF_1 HMB.out] at x4
      rw [backL_1 HMB.out] at x5
      have y2 : n = n2 := by rw [← hA.1]; exact x2.1
      have y3 : m2 = m + 1 := by rw [← hB.1, ← x3.1, laidP_len]
      have y4 : n3 = n + 1 := by rw [← hA.1, ← x4.1, laidP_len]
      have y5 : m = m3 := by rw [← hB.1]; exact x5.1
      subst y2 y3 y4 y5
      have X2 := hid_ x2
      have X3 := hid_ x3
      have X4 := hid_ x4
      have X5 := hid_ x5
      have K2' := hid_ k2
      have K3' := hid_ k3
      have z1 := ZZ.out.1
      have z2 := ZZ.out.2
      clear x2 x3 x4 x5 k2 k3
      rw [HTK.out, HG.out]
      have EK := f4K
      have EB := f4B
      have E2 := f4P2
      have E3 := f4P3
      have E4 := f4P4
      have E5 := f4RA4
      have E6 := f4RA2
      have E7 := f4RB2
      have E8 := f4RA3
      have E9 := f4RB3
      have q10 := EK.out.cell 0 rfl
      have q11 := EK.out.cell 1 rfl
      have q12 := EK.out.cell 2 rfl
      have q20 := E2.out.cell 0 rfl
      have q21 := E2.out.cell 1 rfl
      have q22 := E2.out.cell 2 rfl
      rw [HH.out] at q20
      go_wp2_with fail
      refine (check_any h most A2 B2 n c2 (m + 1) d2 F (laidP L page) _ (by have := E6.out; rw [giveF_1 HMB.out] at this; exact this) (by have := E7.out; rw [giveL_1 HMB.out] at this; exact this)).mono ?_
      rintro e w21 ⟨rfl, b21⟩
      rw [K2'.out]
      clear q10 q11 q12 q20 q21 q22 
      have G2 := hid_ (E2.out.bel b21)
      have GK := hid_ (EK.out.bel b21)
      have GB := hid_ (EB.out.trans b21)
      have G3 := hid_ (E3.out.bel b21)
      have G4 := hid_ (E4.out.bel b21)
      have G5 := hid_ (E5.out.bel b21)
      have G8 := hid_ (E8.out.bel b21)
      have G9 := hid_ (E9.out.bel b21)
      clear b21 E2 EK EB E3 E4 E5 E8 E9
      have q10 := GK.out.cell 0 rfl
      have q11 := GK.out.cell 1 rfl
      have q12 := GK.out.cell 2 rfl
      have q20 := G2.out.cell 0 rfl
      have q21 := G2.out.cell 1 rfl
      have q22 := G2.out.cell 2 rfl
      have q30 := G3.out.cell 0 rfl
      have q31 := G3.out.cell 1 rfl
      have q32 := G3.out.cell 2 rfl
      rw [HH.out] at q20 q30
      go_wp2_with fail
      refine (check_any h most A3 B3 (n + 1) c3 m d3 (laidP F page) L _ (by have := G8.out; rw [backF_1 HMB.out] at this; exact this) (by have := G9.out; rw [backL_1 HMB.out] at this; exact this)).mono ?_
      rintro e w22 ⟨rfl, b22⟩
      rw [K3'.out]
      clear q10 q11 q12 q20 q21 q22 q30 q31 q32
      have EK := hid_ (GK.out.bel b22)
      have EB := hid_ (GB.out.trans b22)
      have E3 := hid_ (G3.out.bel b22)
      have E4 := hid_ (G4.out.bel b22)
      have E5 := hid_ (G5.out.bel b22)
      clear b22 G2 GK GB G3 G4 G5 G8 G9
      have q10 := EK.out.cell 0 rfl
      have q11 := EK.out.cell 1 rfl
      have q12 := EK.out.cell 2 rfl
      have q30 := E3.out.cell 0 rfl
      have q31 := E3.out.cell 1 rfl
      have q32 := E3.out.cell 2 rfl
      rw [HH.out] at q30
      have q40 := E4.out.cell 0 rfl
      have q41 := E4.out.cell 1 rfl
      have q42 := E4.out.cell 2 rfl
      go_wp2_with fail
      refine (check_any h most A4 B4 (n + m) c4 0 d4 (turnP F L) [] _ E5.out (Row.zero _ _)).mono ?_
      rintro e w23 ⟨rfl, b23⟩
      rw [HC4.out]
      clear q10 q11 q12 q40 q41 q42 q30 q31 q32 
      have FB := hid_ (EB.out.trans b23)
      have G4 := hid_ (E4.out.bel b23)
      clear b23 EB E4
      have q40 := G4.out.cell 0 rfl
      have q41 := G4.out.cell 1 rfl
      have q42 := G4.out.cell 2 rfl
      go_wp2
      go_ret
      exact ⟨rfl, FB.out⟩
  · have HTK := hid_ htk
    clear htk hsum
    have HOK1 := hid_ (chkP_yes (ok_iff.2 hok1))
    rw [HL12.out.1, HL12.out.2, hA.1, hB.1] at heq1
    obtain ⟨g1, g2, g3, g4, g5⟩ := stays_arith hok1.two hok1.top HMO.out HK.out.two HK.out.top HFW.out LL.out heq1
    clear heq1 hok1
    obtain ⟨mb, hmb⟩ : ∃ mb, mayP h F L page = mb := ⟨_, rfl⟩
    have HMB := hid_ hmb
    clear hmb
    cases mb
    · have HG : Hid (giveE h F L page = 1) := giveE_0 HMB.out
      rw [HTK.out, HG.out]
      have q00 := f4P1.out.cell 0 rfl
      have q01 := f4P1.out.cell 1 rfl
      have q02 := f4P1.out.cell 2 rfl
      have q10 := f4K.out.cell 0 rfl
      have q11 := f4K.out.cell 1 rfl
      have q12 := f4K.out.cell 2 rfl
      go_wp2_with fail
      refine (check_any (takeH h most F) most A1 B1 n1 c1 m1 d1 (takeF F) (takeL h most F L) _ f4RA1.out f4RB1.out).mono ?_
      rintro e w20 ⟨rfl, b20⟩
      rw [HOK1.out]
      clear q00 q01 q02 q10 q11 q12
      have E1 := hid_ (f4P1.out.bel b20)
      have EK := hid_ (f4K.out.bel b20)
      have EB := hid_ (f4B.out.trans b20)
      have E2 := hid_ (f4P2.out.bel b20)
      have E3 := hid_ (f4P3.out.bel b20)
      have E4 := hid_ (f4P4.out.bel b20)
      have E5 := hid_ (f4RA4.out.bel b20)
      have E6 := hid_ (f4RA2.out.bel b20)
      have E7 := hid_ (f4RB2.out.bel b20)
      have E8 := hid_ (f4RA3.out.bel b20)
      have E9 := hid_ (f4RB3.out.bel b20)
      clear b20
      have q00 := E1.out.cell 0 rfl
      have q01 := E1.out.cell 1 rfl
      have q02 := E1.out.cell 2 rfl
      have q10 := EK.out.cell 0 rfl
      have q11 := EK.out.cell 1 rfl
      have q12 := EK.out.cell 2 rfl
      have q40 := E4.out.cell 0 rfl
      have q41 := E4.out.cell 1 rfl
      have q42 := E4.out.cell 2 rfl
      go_wp2_with fail
      refine (check_any h most A4 B4 (n + m) c4 0 d4 (turnP F L) [] _ E5.out (Row.zero _ _)).mono ?_
      rintro e w23 ⟨rfl, b23⟩
      rw [HC4.out]
      clear q10 q11 q12 q40 q41 q42  q00 q01 q02
      have FB := hid_ (EB.out.trans b23)
      have G4 := hid_ (E4.out.bel b23)
      clear b23 EB E4
      have q40 := G4.out.cell 0 rfl
      have q41 := G4.out.cell 1 rfl
      have q42 := G4.out.cell 2 rfl
      go_wp2
      go_ret
      exact ⟨rfl, FB.out⟩
    · have HG : Hid (giveE h F L page = 0) := giveE_1 HMB.out
      have HH : Hid (giveH h F L page = h) := giveH_1 HMB.out
      have k2 := chkP_yes (ok_iff.2 (HK.out.give HMB.out))
      have k3 := chkP_yes (ok_iff.2 (HK.out.back HMB.out))
      have x2 := f4RA2.out
      have x3 := f4RB2.out
      have x4 := f4RA3.out
      have x5 := f4RB3.out
      rw [giveF_1 HMB.out] at x2
      rw [giveL_1 HMB.out] at x3
      rw [backF_1 HMB.out] at x4
      rw [backL_1 HMB.out] at x5
      have y2 : n = n2 := by rw [← hA.1]; exact x2.1
      have y3 : m2 = m + 1 := by rw [← hB.1, ← x3.1, laidP_len]
      have y4 : n3 = n + 1 := by rw [← hA.1, ← x4.1, laidP_len]
      have y5 : m = m3 := by rw [← hB.1]; exact x5.1
      subst y2 y3 y4 y5
      have X2 := hid_ x2
      have X3 := hid_ x3
      have X4 := hid_ x4
      have X5 := hid_ x5
      have K2' := hid_ k2
      have K3' := hid_ k3
      have z1 := ZZ.out.1
      have z2 := ZZ.out.2
      clear x2 x3 x4 x5 k2 k3
      rw [HTK.out, HG.out]
      have q00 := f4P1.out.cell 0 rfl
      have q01 := f4P1.out.cell 1 rfl
      have q02 := f4P1.out.cell 2 rfl
      have q10 := f4K.out.cell 0 rfl
      have q11 := f4K.out.cell 1 rfl
      have q12 := f4K.out.cell 2 rfl
      go_wp2_with fail
      refine (check_any (takeH h most F) most A1 B1 n1 c1 m1 d1 (takeF F) (takeL h most F L) _ f4RA1.out f4RB1.out).mono ?_
      rintro e w20 ⟨rfl, b20⟩
      rw [HOK1.out]
      clear q00 q01 q02 q10 q11 q12
      have E1 := hid_ (f4P1.out.bel b20)
      have EK := hid_ (f4K.out.bel b20)
      have EB := hid_ (f4B.out.trans b20)
      have E2 := hid_ (f4P2.out.bel b20)
      have E3 := hid_ (f4P3.out.bel b20)
      have E4 := hid_ (f4P4.out.bel b20)
      have E5 := hid_ (f4RA4.out.bel b20)
      have E6 := hid_ (f4RA2.out.bel b20)
      have E7 := hid_ (f4RB2.out.bel b20)
      have E8 := hid_ (f4RA3.out.bel b20)
      have E9 := hid_ (f4RB3.out.bel b20)
      clear b20
      have q00 := E1.out.cell 0 rfl
      have q01 := E1.out.cell 1 rfl
      have q02 := E1.out.cell 2 rfl
      have q10 := EK.out.cell 0 rfl
      have q11 := EK.out.cell 1 rfl
      have q12 := EK.out.cell 2 rfl
      have q20 := E2.out.cell 0 rfl
      have q21 := E2.out.cell 1 rfl
      have q22 := E2.out.cell 2 rfl
      rw [HH.out] at q20
      go_wp2_with fail
      refine (check_any h most A2 B2 n c2 (m + 1) d2 F (laidP L page) _ (by have := E6.out; rw [giveF_1 HMB.out] at this; exact this) (by have := E7.out; rw [giveL_1 HMB.out] at this; exact this)).mono ?_
      rintro e w21 ⟨rfl, b21⟩
      rw [K2'.out]
      clear q10 q11 q12 q20 q21 q22 q00 q01 q02 E1
      have G2 := hid_ (E2.out.bel b21)
      have GK := hid_ (EK.out.bel b21)
      have GB := hid_ (EB.out.trans b21)
      have G3 := hid_ (E3.out.bel b21)
      have G4 := hid_ (E4.out.bel b21)
      have G5 := hid_ (E5.out.bel b21)
      have G8 := hid_ (E8.out.bel b21)
      have G9 := hid_ (E9.out.bel b21)
      clear b21 E2 EK EB E3 E4 E5 E8 E9
      have q10 := GK.out.cell 0 rfl
      have q11 := GK.out.cell 1 rfl
      have q12 := GK.out.cell 2 rfl
      have q20 := G2.out.cell 0 rfl
      have q21 := G2.out.cell 1 rfl
      have q22 := G2.out.cell 2 rfl
      have q30 := G3.out.cell 0 rfl
      have q31 := G3.out.cell 1 rfl
      have q32 := G3.out.cell 2 rfl
      rw [HH.out] at q20 q30
      go_wp2_with fail
      refine (check_any h most A3 B3 (n + 1) c3 m d3 (laidP F page) L _ (by have := G8.out; rw [backF_1 HMB.out] at this; exact this) (by have := G9.out; rw [backL_1 HMB.out] at this; exact this)).mono ?_
      rintro e w22 ⟨rfl, b22⟩
      rw [K3'.out]
      clear q10 q11 q12 q20 q21 q22 q30 q31 q32
      have EK := hid_ (GK.out.bel b22)
      have EB := hid_ (GB.out.trans b22)
      have E3 := hid_ (G3.out.bel b22)
      have E4 := hid_ (G4.out.bel b22)
      have E5 := hid_ (G5.out.bel b22)
      clear b22 G2 GK GB G3 G4 G5 G8 G9
      have q10 := EK.out.cell 0 rfl
      have q11 := EK.out.cell 1 rfl
      have q12 := EK.out.cell 2 rfl
      have q30 := E3.out.cell 0 rfl
      have q31 := E3.out.cell 1 rfl
      have q32 := E3.out.cell 2 rfl
      rw [HH.out] at q30
      have q40 := E4.out.cell 0 rfl
      have q41 := E4.out.cell 1 rfl
      have q42 := E4.out.cell 2 rfl
      go_wp2_with fail
      refine (check_any h most A4 B4 (n + m) c4 0 d4 (turnP F L) [] _ E5.out (Row.zero _ _)).mono ?_
      rintro e w23 ⟨rfl, b23⟩
      rw [HC4.out]
      clear q10 q11 q12 q40 q41 q42 q30 q31 q32 
      have FB := hid_ (EB.out.trans b23)
      have G4 := hid_ (E4.out.bel b23)
      clear b23 EB E4
      have q40 := G4.out.cell 0 rfl
      have q41 := G4.out.cell 1 rfl
      have q42 := G4.out.cell 2 rfl
      go_wp2
      go_ret
      exact ⟨rfl, FB.out⟩
end Go.Proofs.Ytboaidjhhlidkaa
