/- MarginBack, walked. -/
import Derived.Test.YtlddpkbdmbafbaaAw16
import Derived.Test.YtlddpkbdmbafbaaMgB
import Derived.Test.YtlddpkbdmbafbaaFew16
import Derived.Test.YtlddpkbdmbafbaaSameAcc
import Derived.Test.YtlddpkbdmbafbaaOpOrd
import Derived.Test.YtlddpkbdmbafbaaOpAcc
set_option linter.unusedSimpArgs false
set_option linter.unusedVariables false
namespace Go.Proofs.Ytlddpkbdmbafbaa
open Go.RowKit Go.Lib
theorem named_size {p : Plc} (h : namedB p = true) : p.who.size ≤ 9223372036854775807 ∧ p.asset.size ≤ 9223372036854775807 := by
  unfold namedB whoB assetB at h
  simp only [Bool.and_eq_true, decide_eq_true_eq] at h
  omega
set_option maxRecDepth 10000 in
set_option maxHeartbeats 4000000 in
theorem walkMarginBack (w : World) (A : Option Addr) (n c : Nat) (l : List Acc) (hh : n ≤ c ∧ Row accT w A n l ∧ ∀ x ∈ l, accWf x) (o : Ord) (wo : ordWf o) : Calls Try.prog 8 #[.slice A n c, .agg (ordC o).toArray] w fun e w' => e = .returned (.bool true) ∧ Bel w w' := by
  obtain ⟨hnc, hA, hwf⟩ := hh
  obtain ⟨o0, o1, o2, o3, o4, o5⟩ := o
  simp only [ordC]
  have HNC := hid_ hnc
  have HWF := hid_ hwf
  have HL := hid_ hA.1
  have HN63 := hid_ hA.2.1
  have k0 := Bx.new w 30 [.int .u64 o0, .string o1, .string o2, .bool o3, .int .i64 o4, .int .i64 o5]
  have k0 : Bx (w.alloc (.cells #[.int .u64 o0, .string o1, .string o2, .bool o3, .int .i64 o4, .int .i64 o5] 30)) (w.heap.size) 30 [.int .u64 o0, .string o1, .string o2, .bool o3, .int .i64 o4, .int .i64 o5] := k0
  have kB : Bel w (w.alloc (.cells #[.int .u64 o0, .string o1, .string o2, .bool o3, .int .i64 o4, .int .i64 o5] 30)) := (Bel.refl w).alloc _
  have FO := hid_ k0
  have FB := hid_ kB
  clear k0 kB
  have FA := hid_ (hA.bel FB.out)
  clear hA hnc hwf
  go_enter Try.func8, Try.ntmps8
  go_wp2_with fail
  generalize (w.alloc (.cells #[.int .u64 o0, .string o1, .string o2, .bool o3, .int .i64 o4, .int .i64 o5] 30)) = W0 at FO FB FA ⊢
  obtain ⟨gO, hgO⟩ : ∃ g, w.heap.size = g := ⟨_, rfl⟩
  rw [hgO] at FO
  try rw [hgO]
  clear hgO
  refine (awake16 _).mono ?_
  rintro e v1 ⟨rfl, b⟩
  have bb := b
  have f1O := hid_ (FO.out.bel bb)
  have f1B := hid_ (FB.out.trans bb)
  have f1A := hid_ (FA.out.bel bb)
  clear b bb FO FB FA
  have qO0 := f1O.out.cell 0 rfl
  have qO1 := f1O.out.cell 1 rfl
  have qO2 := f1O.out.cell 2 rfl
  have qO3 := f1O.out.cell 3 rfl
  have qO4 := f1O.out.cell 4 rfl
  have qO5 := f1O.out.cell 5 rfl
  have RB : Row ordT (v1.alloc (.cells #[.int .u64 o0, .string o1, .string o2, .bool o3, .int .i64 o4, .int .i64 o5] 30)) (some ⟨v1.heap.size, 0, none⟩) 1 [⟨o0, o1, o2, o3, o4, o5⟩] := Row.one (T := ordT) ⟨o0, o1, o2, o3, o4, o5⟩ rfl rfl
  have HRB := hid_ RB
  clear RB
  go_wp2_with fail
  refine (few16_any A n c l (some ⟨v1.heap.size, 0, none⟩) 1 1 [⟨o0, o1, o2, o3, o4, o5⟩] none 0 0 _ (f1A.out.bel ((Bel.refl v1).alloc _)) HRB.out (fun a ha => ⟨(HWF.out a ha).1, (HWF.out a ha).2.1⟩) (by decide)).mono ?_
  rintro e v2 ⟨rfl, b⟩
  have bb := ((Bel.refl v1).alloc _).trans b
  clear HRB
  have f2O := hid_ (f1O.out.bel bb)
  have f2B := hid_ (f1B.out.trans bb)
  have f2A := hid_ (f1A.out.bel bb)
  clear b bb f1O f1B f1A qO0 qO1 qO2 qO3 qO4 qO5
  obtain ⟨fb, hfb⟩ : ∃ fb, few16 l [⟨o0, o1, o2, o3, o4, o5⟩] 0 = fb := ⟨_, rfl⟩
  rw [hfb]
  cases fb
  · clear hfb
    go_wp2
    go_ret
    exact ⟨rfl, f2B.out⟩
  obtain ⟨q1, _, _, q4, q5⟩ := few16_iff.1 hfb
  have q6 := q5 ⟨o0, o1, o2, o3, o4, o5⟩ (by simp)
  simp only at q6
  have HQ := hid_ (And.intro q1 q4)
  have SZ : Hid (o1.size ≤ 4294967280 ∧ o2.size ≤ 4294967280) := hid_ ⟨by omega, by omega⟩
  have HN : Hid (n ≤ 100) := hid_ (by have := HL.out; omega)
  clear hfb q1 q4 q5 q6
  have qO0 := f2O.out.cell 0 rfl
  have qO1 := f2O.out.cell 1 rfl
  have qO2 := f2O.out.cell 2 rfl
  have qO3 := f2O.out.cell 3 rfl
  have qO4 := f2O.out.cell 4 rfl
  have qO5 := f2O.out.cell 5 rfl
  go_wp2_with fail
  refine (place_any A n c l o0 o1 o2 o3 o4 o5 _ f2A.out HNC.out HQ.out.2.srt (Nat.le_trans HN.out (by decide)) SZ.out.1 SZ.out.2).mono ?_
  rintro e v3 ⟨v, rfl, o, b⟩
  have bb := b
  obtain ⟨A3, c3, rfl, hc3, r3⟩ := o.reads
  have HC3 := hid_ hc3
  clear o hc3
  have f3O := hid_ (f2O.out.bel bb)
  have f3B := hid_ (f2B.out.trans bb)
  have f3A := hid_ (f2A.out.bel bb)
  have f3H := hid_ r3
  clear b bb f2O f2B f2A qO0 qO1 qO2 qO3 qO4 qO5 r3
  obtain ⟨pe, hpe⟩ : ∃ pe, plE l ⟨o0, o1, o2, o3, o4, o5⟩ = pe := ⟨_, rfl⟩
  rw [hpe]
  by_cases h0 : pe = 0
  case neg =>
    have hz := plE_no (fun e => h0 (hpe.symm.trans e))
    rw [hz] at f3H ⊢
    have i0 : (pe == 0) = false := by simp [h0]
    clear hpe h0 hz
    simp only [List.length_nil]
    go_wp2
    go_ret
    exact ⟨rfl, f3B.out⟩
  subst h0
  have HP := hid_ (placed HQ.out.2 (fun a ha => by have := (HWF.out a ha).2.2.1; simp [Lit.wf, IntKind.min, IntKind.max, IntKind.signed, IntKind.bits] at this; omega) hpe)
  clear hpe
  have HLH := hid_ (withA_room (l := l) (o := ⟨o0, o1, o2, o3, o4, o5⟩))
  obtain ⟨h, hh⟩ : ∃ h, plO l ⟨o0, o1, o2, o3, o4, o5⟩ = h := ⟨_, rfl⟩
  rw [hh] at f3H HC3 HLH ⊢
  obtain ⟨n3, hn3⟩ : ∃ n3, h.length = n3 := ⟨_, rfl⟩
  rw [hn3] at f3H HC3 HLH ⊢
  have HH := hid_ hh
  have HN3 : Hid (n3 ≤ 101) := hid_ (by have := HLH.out; have := HL.out; have := HN.out; omega)
  clear hh hn3 HLH
  have qO0 := f3O.out.cell 0 rfl
  have qO1 := f3O.out.cell 1 rfl
  have qO2 := f3O.out.cell 2 rfl
  have qO3 := f3O.out.cell 3 rfl
  have qO4 := f3O.out.cell 4 rfl
  have qO5 := f3O.out.cell 5 rfl
  go_wp2_with fail
  refine (cancel_any A3 n3 c3 h o0 o1 o2 o3 o4 o5 _ f3H.out HC3.out (HH.out ▸ HP.out.ok.srt) (Nat.le_trans HN3.out (by decide)) SZ.out.1 SZ.out.2).mono ?_
  rintro e v4 ⟨v, rfl, o, b⟩
  have bb := b
  rw [show caE h ⟨o0, o1, o2, o3, o4, o5⟩ = 0 from HH.out ▸ HP.out.can]
  rw [show caO h ⟨o0, o1, o2, o3, o4, o5⟩ = l from HH.out ▸ HP.out.back] at o
  obtain ⟨A4, c4, rfl, hc4, r4⟩ := o.reads
  rw [HL.out] at r4 ⊢
  clear o hc4
  have f4O := hid_ (f3O.out.bel bb)
  have f4B := hid_ (f3B.out.trans bb)
  have f4A := hid_ (f3A.out.bel bb)
  have f4H := hid_ (f3H.out.bel bb)
  have f4C := hid_ r4
  clear b bb f3O f3B f3A f3H qO0 qO1 qO2 qO3 qO4 qO5 r4
  go_wp2_with fail
  refine (sameAcc_any A4 n c4 l A n c l _ f4C.out f4A.out).mono ?_
  rintro e v5 ⟨rfl, b⟩
  have bb := b
  rw [eqB_1 (rfl : l = l)]
  have f5O := hid_ (f4O.out.bel bb)
  have f5B := hid_ (f4B.out.trans bb)
  have f5A := hid_ (f4A.out.bel bb)
  have f5H := hid_ (f4H.out.bel bb)
  have f5C := hid_ (f4C.out.bel bb)
  clear b bb f4O f4B f4A f4H f4C
  have qO0 := f5O.out.cell 0 rfl
  have qO1 := f5O.out.cell 1 rfl
  have qO2 := f5O.out.cell 2 rfl
  have qO3 := f5O.out.cell 3 rfl
  have qO4 := f5O.out.cell 4 rfl
  have qO5 := f5O.out.cell 5 rfl
  go_wp2_with fail
  refine (need_any o0 o1 o2 o3 o4 o5 _ SZ.out.1 SZ.out.2).mono ?_
  rintro e v6 ⟨rfl, b⟩
  have bb := b
  have hN := needN_pos HP.out.chk
  have hE : needE ⟨o0, o1, o2, o3, o4, o5⟩ = 0 := by unfold needE; rw [HP.out.chk]; rfl
  rw [hE]
  obtain ⟨N, hN2⟩ : ∃ N, needN ⟨o0, o1, o2, o3, o4, o5⟩ = N := ⟨_, rfl⟩
  rw [hN2] at hN ⊢
  generalize needA ⟨o0, o1, o2, o3, o4, o5⟩ = na
  have j1 : decide ((1 : Int) ≤ N) = true := decide_eq_true hN.1
  clear hE hN2
  have f6O := hid_ (f5O.out.bel bb)
  have f6B := hid_ (f5B.out.trans bb)
  have f6A := hid_ (f5A.out.bel bb)
  have f6H := hid_ (f5H.out.bel bb)
  have f6C := hid_ (f5C.out.bel bb)
  clear b bb f5O f5B f5A f5H f5C qO0 qO1 qO2 qO3 qO4 qO5
  have i1 := hN.1
  clear hN
  go_wp2_with fail
  refine (checkA_any A3 n3 c3 h _ f6H.out (fun a ha => named_size ((HH.out ▸ HP.out.ok : OkL h).all a ha).named)).mono ?_
  rintro e v7 ⟨rfl, b⟩
  have bb := b
  rw [show chkAE h = 0 by unfold chkAE; rw [okL_iff.2 (HH.out ▸ HP.out.ok : OkL h)]; rfl]
  have f7O := hid_ (f6O.out.bel bb)
  have f7B := hid_ (f6B.out.trans bb)
  have f7A := hid_ (f6A.out.bel bb)
  have f7H := hid_ (f6H.out.bel bb)
  have f7C := hid_ (f6C.out.bel bb)
  clear b bb f6O f6B f6A f6H f6C
  go_wp2
  go_ret
  exact ⟨rfl, f7B.out⟩
end Go.Proofs.Ytlddpkbdmbafbaa
