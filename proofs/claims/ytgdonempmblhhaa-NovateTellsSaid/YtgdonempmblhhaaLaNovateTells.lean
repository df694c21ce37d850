/- NovateTells, walked. -/
import Derived.Test.YtgdonempmblhhaaNv23
import Derived.Test.YtgdonempmblhhaaOpOrd
import Derived.Test.YtgdonempmblhhaaOpTrd
set_option linter.unusedSimpArgs false
set_option linter.unusedVariables false
namespace Go.Proofs.Ytgdonempmblhhaa
open Go.RowKit Go.Lib
theorem few_sized {k : Nat} {l : List Ord} (h : fewO k l = true) : sized l := by
  intro j o ho
  have := (fewO_iff.1 h).2 o (List.mem_of_getElem? ho)
  exact ⟨by omega, by omega⟩
set_option maxRecDepth 10000 in
set_option maxHeartbeats 4000000 in
theorem walkNovateTells (w : World) (t : Trd) (wt : trdWf t) (b : Ord) (wb : ordWf b) (s : Ord) (ws : ordWf s) (A1 : Option Addr) (n1 c1 : Nat) (l1 : List Trd) (w1 : n1 ≤ c1 ∧ Row trdT w A1 n1 l1 ∧ ∀ x ∈ l1, trdWf x) (A2 : Option Addr) (n2 c2 : Nat) (l2 : List Ord) (w2 : n2 ≤ c2 ∧ Row ordT w A2 n2 l2 ∧ ∀ x ∈ l2, ordWf x) :
    Calls Try.prog 4 #[.agg (trdC t).toArray, .agg (ordC b).toArray, .agg (ordC s).toArray, .slice A1 n1 c1, .slice A2 n2 c2] w fun e w' => e = .returned (.bool true) ∧ Bel w w' := by
  obtain ⟨tb, ts, tq, tp⟩ := t
  obtain ⟨b0, b1, b2, b3, b4, b5⟩ := b
  obtain ⟨s0, s1, s2, s3, s4, s5⟩ := s
  simp only [trdC, ordC]
  obtain ⟨hnc1, hA, _⟩ := w1
  obtain ⟨hnc2, hO, _⟩ := w2
  have z0 := sizeAl w (.cells #[.int .u64 tb, .int .u64 ts, .int .i64 tq, .int .i64 tp] 25)
  have z1 := sizeAl (w.alloc (.cells #[.int .u64 tb, .int .u64 ts, .int .i64 tq, .int .i64 tp] 25)) (.cells #[.int .u64 b0, .string b1, .string b2, .bool b3, .int .i64 b4, .int .i64 b5] 27)
  rw [z0] at z1
  have k0 := ((Bx.new w 25 [.int .u64 tb, .int .u64 ts, .int .i64 tq, .int .i64 tp]).alloc (.cells #[.int .u64 b0, .string b1, .string b2, .bool b3, .int .i64 b4, .int .i64 b5] 27)).alloc (.cells #[.int .u64 s0, .string s1, .string s2, .bool s3, .int .i64 s4, .int .i64 s5] 27)
  have k0 : Bx (((w.alloc (.cells #[.int .u64 tb, .int .u64 ts, .int .i64 tq, .int .i64 tp] 25)).alloc (.cells #[.int .u64 b0, .string b1, .string b2, .bool b3, .int .i64 b4, .int .i64 b5] 27)).alloc (.cells #[.int .u64 s0, .string s1, .string s2, .bool s3, .int .i64 s4, .int .i64 s5] 27)) (w.heap.size) 25 [.int .u64 tb, .int .u64 ts, .int .i64 tq, .int .i64 tp] := k0
  have k1 := (Bx.new (w.alloc (.cells #[.int .u64 tb, .int .u64 ts, .int .i64 tq, .int .i64 tp] 25)) 27 [.int .u64 b0, .string b1, .string b2, .bool b3, .int .i64 b4, .int .i64 b5]).alloc (.cells #[.int .u64 s0, .string s1, .string s2, .bool s3, .int .i64 s4, .int .i64 s5] 27)
  rw [z0] at k1
  have k1 : Bx (((w.alloc (.cells #[.int .u64 tb, .int .u64 ts, .int .i64 tq, .int .i64 tp] 25)).alloc (.cells #[.int .u64 b0, .string b1, .string b2, .bool b3, .int .i64 b4, .int .i64 b5] 27)).alloc (.cells #[.int .u64 s0, .string s1, .string s2, .bool s3, .int .i64 s4, .int .i64 s5] 27)) (w.heap.size + 1) 27 [.int .u64 b0, .string b1, .string b2, .bool b3, .int .i64 b4, .int .i64 b5] := k1
  have k2 := Bx.new ((w.alloc (.cells #[.int .u64 tb, .int .u64 ts, .int .i64 tq, .int .i64 tp] 25)).alloc (.cells #[.int .u64 b0, .string b1, .string b2, .bool b3, .int .i64 b4, .int .i64 b5] 27)) 27 [.int .u64 s0, .string s1, .string s2, .bool s3, .int .i64 s4, .int .i64 s5]
  rw [z1] at k2
  have k2 : Bx (((w.alloc (.cells #[.int .u64 tb, .int .u64 ts, .int .i64 tq, .int .i64 tp] 25)).alloc (.cells #[.int .u64 b0, .string b1, .string b2, .bool b3, .int .i64 b4, .int .i64 b5] 27)).alloc (.cells #[.int .u64 s0, .string s1, .string s2, .bool s3, .int .i64 s4, .int .i64 s5] 27)) (w.heap.size + 1 + 1) 27 [.int .u64 s0, .string s1, .string s2, .bool s3, .int .i64 s4, .int .i64 s5] := k2
  have kB : Bel w (((w.alloc (.cells #[.int .u64 tb, .int .u64 ts, .int .i64 tq, .int .i64 tp] 25)).alloc (.cells #[.int .u64 b0, .string b1, .string b2, .bool b3, .int .i64 b4, .int .i64 b5] 27)).alloc (.cells #[.int .u64 s0, .string s1, .string s2, .bool s3, .int .i64 s4, .int .i64 s5] 27)) := (((Bel.refl w).alloc _).alloc _).alloc _
  have FT := hid_ k0
  have FP := hid_ k1
  have FS := hid_ k2
  have FB := hid_ kB
  clear k0 k1 k2 z0 z1 kB
  have FA := hid_ (hA.bel FB.out)
  have FO := hid_ (hO.bel FB.out)
  have HN := hid_ hA.2.1
  have HLO := hid_ hO.1
  clear hA hO hnc1 hnc2
  go_enter Try.func4, Try.ntmps4
  go_wp2_with fail
  generalize (((w.alloc (.cells #[.int .u64 tb, .int .u64 ts, .int .i64 tq, .int .i64 tp] 25)).alloc (.cells #[.int .u64 b0, .string b1, .string b2, .bool b3, .int .i64 b4, .int .i64 b5] 27)).alloc (.cells #[.int .u64 s0, .string s1, .string s2, .bool s3, .int .i64 s4, .int .i64 s5] 27)) = W0 at FT FP FS FB FA FO ⊢
  generalize w.heap.size + 1 + 1 = gS at FS ⊢
  generalize w.heap.size + 1 = gP at FP ⊢
  obtain ⟨gT, hgT⟩ : ∃ g, w.heap.size = g := ⟨_, rfl⟩
  rw [hgT] at FT
  try rw [hgT]
  clear hgT
  refine (awake15 _).mono ?_
  rintro e v1 ⟨rfl, b⟩
  have bb := b
  have f1T := hid_ (FT.out.bel bb)
  have f1P := hid_ (FP.out.bel bb)
  have f1S := hid_ (FS.out.bel bb)
  have f1B := hid_ (FB.out.trans bb)
  have f1A := hid_ (FA.out.bel bb)
  have f1O := hid_ (FO.out.bel bb)
  clear b bb FT FP FS FB FA FO
  have qP0 := f1P.out.cell 0 rfl
  have qP1 := f1P.out.cell 1 rfl
  have qP2 := f1P.out.cell 2 rfl
  have qP3 := f1P.out.cell 3 rfl
  have qP4 := f1P.out.cell 4 rfl
  have qP5 := f1P.out.cell 5 rfl
  have qS0 := f1S.out.cell 0 rfl
  have qS1 := f1S.out.cell 1 rfl
  have qS2 := f1S.out.cell 2 rfl
  have qS3 := f1S.out.cell 3 rfl
  have qS4 := f1S.out.cell 4 rfl
  have qS5 := f1S.out.cell 5 rfl
  go_wp2_with fail
  have rl := Row.lit (T := ordT) v1 [⟨b0, b1, b2, b3, b4, b5⟩, ⟨s0, s1, s2, s3, s4, s5⟩] (0, 0) (by simp)
  refine (few15_any _ 2 2 [⟨b0, b1, b2, b3, b4, b5⟩, ⟨s0, s1, s2, s3, s4, s5⟩] _ rl).mono ?_
  rintro e v2 ⟨rfl, b⟩
  have bb := ((Bel.refl v1).alloc _).trans b
  have f2T := hid_ (f1T.out.bel bb)
  have f2P := hid_ (f1P.out.bel bb)
  have f2S := hid_ (f1S.out.bel bb)
  have f2B := hid_ (f1B.out.trans bb)
  have f2A := hid_ (f1A.out.bel bb)
  have f2O := hid_ (f1O.out.bel bb)
  clear b bb f1T f1P f1S f1B f1A f1O qP0 qP1 qP2 qP3 qP4 qP5 qS0 qS1 qS2 qS3 qS4 qS5
  clear rl
  obtain ⟨fw, hfw⟩ : ∃ fw, fewO 200 [⟨b0, b1, b2, b3, b4, b5⟩, ⟨s0, s1, s2, s3, s4, s5⟩] = fw := ⟨_, rfl⟩
  rw [hfw]
  have HFW := hid_ hfw
  clear hfw
  cases fw
  · go_wp2
    go_ret
    exact ⟨rfl, f2B.out⟩
  have hs := (fewO_iff.1 HFW.out).2
  have hs1 := hs ⟨b0, b1, b2, b3, b4, b5⟩ (by simp)
  have hs2 := hs ⟨s0, s1, s2, s3, s4, s5⟩ (by simp)
  simp only at hs1 hs2
  have SZ : Hid ((b1.size ≤ 4294967280 ∧ b2.size ≤ 4294967280) ∧ (s1.size ≤ 4294967280 ∧ s2.size ≤ 4294967280)) := hid_ ⟨⟨by omega, by omega⟩, ⟨by omega, by omega⟩⟩
  clear hs hs1 hs2 HFW
  go_wp2_with fail
  refine (few15_any A2 n2 c2 l2 _ f2O.out).mono ?_
  rintro e v3 ⟨rfl, b⟩
  have bb := b
  have f3T := hid_ (f2T.out.bel bb)
  have f3P := hid_ (f2P.out.bel bb)
  have f3S := hid_ (f2S.out.bel bb)
  have f3B := hid_ (f2B.out.trans bb)
  have f3A := hid_ (f2A.out.bel bb)
  have f3O := hid_ (f2O.out.bel bb)
  clear b bb f2T f2P f2S f2B f2A f2O
  obtain ⟨fo, hfo⟩ : ∃ fo, fewO 200 l2 = fo := ⟨_, rfl⟩
  rw [hfo]
  have HFO := hid_ hfo
  clear hfo
  cases fo
  · go_wp2
    go_ret
    exact ⟨rfl, f3B.out⟩
  have HSZ : Hid (sized l2) := hid_ (few_sized HFO.out)
  clear HFO
  by_cases hbig : 200 < n1
  · go_wp2
    go_ret
    exact ⟨rfl, f3B.out⟩
  have qT0 := f3T.out.cell 0 rfl
  have qT1 := f3T.out.cell 1 rfl
  have qT2 := f3T.out.cell 2 rfl
  have qT3 := f3T.out.cell 3 rfl
  have qP0 := f3P.out.cell 0 rfl
  have qP1 := f3P.out.cell 1 rfl
  have qP2 := f3P.out.cell 2 rfl
  have qP3 := f3P.out.cell 3 rfl
  have qP4 := f3P.out.cell 4 rfl
  have qP5 := f3P.out.cell 5 rfl
  have qS0 := f3S.out.cell 0 rfl
  have qS1 := f3S.out.cell 1 rfl
  have qS2 := f3S.out.cell 2 rfl
  have qS3 := f3S.out.cell 3 rfl
  have qS4 := f3S.out.cell 4 rfl
  have qS5 := f3S.out.cell 5 rfl
  go_wp2_with fail
  refine (dues_any tb ts tq tp b0 b1 b2 b3 b4 b5 s0 s1 s2 s3 s4 s5 _ SZ.out.1.1 SZ.out.1.2 SZ.out.2.1 SZ.out.2.2).mono ?_
  rintro e v4 ⟨X3, m3, k3, rfl, r, b⟩
  have bb := b
  have f4T := hid_ (f3T.out.bel bb)
  have f4P := hid_ (f3P.out.bel bb)
  have f4S := hid_ (f3S.out.bel bb)
  have f4B := hid_ (f3B.out.trans bb)
  have f4A := hid_ (f3A.out.bel bb)
  have f4O := hid_ (f3O.out.bel bb)
  have f4R3 := hid_ r
  clear b bb f3T f3P f3S f3B f3A f3O qT0 qT1 qT2 qT3 qP0 qP1 qP2 qP3 qP4 qP5 qS0 qS1 qS2 qS3 qS4 qS5 r
  have qT0 := f4T.out.cell 0 rfl
  have qT1 := f4T.out.cell 1 rfl
  have qT2 := f4T.out.cell 2 rfl
  have qT3 := f4T.out.cell 3 rfl
  have qP0 := f4P.out.cell 0 rfl
  have qP1 := f4P.out.cell 1 rfl
  have qP2 := f4P.out.cell 2 rfl
  have qP3 := f4P.out.cell 3 rfl
  have qP4 := f4P.out.cell 4 rfl
  have qP5 := f4P.out.cell 5 rfl
  have qS0 := f4S.out.cell 0 rfl
  have qS1 := f4S.out.cell 1 rfl
  have qS2 := f4S.out.cell 2 rfl
  have qS3 := f4S.out.cell 3 rfl
  have qS4 := f4S.out.cell 4 rfl
  have qS5 := f4S.out.cell 5 rfl
  go_wp2_with fail
  refine (refDues_any tb ts tq tp b0 b1 b2 b3 b4 b5 s0 s1 s2 s3 s4 s5 _ SZ.out.1.1 SZ.out.1.2 SZ.out.2.1 SZ.out.2.2).mono ?_
  rintro e v5 ⟨X4, m4, k4, rfl, r, b⟩
  have bb := b
  have f5T := hid_ (f4T.out.bel bb)
  have f5P := hid_ (f4P.out.bel bb)
  have f5S := hid_ (f4S.out.bel bb)
  have f5B := hid_ (f4B.out.trans bb)
  have f5A := hid_ (f4A.out.bel bb)
  have f5O := hid_ (f4O.out.bel bb)
  have f5R3 := hid_ (f4R3.out.bel bb)
  have f5R4 := hid_ r
  clear b bb f4T f4P f4S f4B f4A f4O f4R3 qT0 qT1 qT2 qT3 qP0 qP1 qP2 qP3 qP4 qP5 qS0 qS1 qS2 qS3 qS4 qS5 r
  go_wp2_with fail
  refine (all_any A1 n1 c1 l1 A2 n2 c2 l2 _ f5A.out f5O.out (by omega) HSZ.out).mono ?_
  rintro e v6 ⟨X5, m5, k5, rfl, r, b⟩
  have bb := b
  have f6T := hid_ (f5T.out.bel bb)
  have f6P := hid_ (f5P.out.bel bb)
  have f6S := hid_ (f5S.out.bel bb)
  have f6B := hid_ (f5B.out.trans bb)
  have f6A := hid_ (f5A.out.bel bb)
  have f6O := hid_ (f5O.out.bel bb)
  have f6R3 := hid_ (f5R3.out.bel bb)
  have f6R4 := hid_ (f5R4.out.bel bb)
  have f6R5 := hid_ r
  clear b bb f5T f5P f5S f5B f5A f5O f5R3 f5R4 r
  go_wp2_with fail
  refine (refAll_any A1 n1 c1 l1 A2 n2 c2 l2 _ f6A.out f6O.out (by omega) HSZ.out).mono ?_
  rintro e v7 ⟨X6, m6, k6, rfl, r, b⟩
  have bb := b
  have f7T := hid_ (f6T.out.bel bb)
  have f7P := hid_ (f6P.out.bel bb)
  have f7S := hid_ (f6S.out.bel bb)
  have f7B := hid_ (f6B.out.trans bb)
  have f7A := hid_ (f6A.out.bel bb)
  have f7O := hid_ (f6O.out.bel bb)
  have f7R3 := hid_ (f6R3.out.bel bb)
  have f7R4 := hid_ (f6R4.out.bel bb)
  have f7R5 := hid_ (f6R5.out.bel bb)
  have f7R6 := hid_ r
  clear b bb f6T f6P f6S f6B f6A f6O f6R3 f6R4 f6R5 r
  go_wp2_with fail
  refine (sameDue_any X3 m3 k3 _ X4 m4 k4 _ _ f7R3.out f7R4.out).mono ?_
  rintro e v8 ⟨rfl, b⟩
  have bb := b
  have f8T := hid_ (f7T.out.bel bb)
  have f8P := hid_ (f7P.out.bel bb)
  have f8S := hid_ (f7S.out.bel bb)
  have f8B := hid_ (f7B.out.trans bb)
  have f8A := hid_ (f7A.out.bel bb)
  have f8O := hid_ (f7O.out.bel bb)
  have f8R3 := hid_ (f7R3.out.bel bb)
  have f8R4 := hid_ (f7R4.out.bel bb)
  have f8R5 := hid_ (f7R5.out.bel bb)
  have f8R6 := hid_ (f7R6.out.bel bb)
  clear b bb f7T f7P f7S f7B f7A f7O f7R3 f7R4 f7R5 f7R6
  rw [eqB_1 rfl]
  go_wp2_with fail
  refine (sameDue_any X5 m5 k5 _ X6 m6 k6 _ _ f8R5.out f8R6.out).mono ?_
  rintro e v9 ⟨rfl, b⟩
  have bb := b
  have f9T := hid_ (f8T.out.bel bb)
  have f9P := hid_ (f8P.out.bel bb)
  have f9S := hid_ (f8S.out.bel bb)
  have f9B := hid_ (f8B.out.trans bb)
  have f9A := hid_ (f8A.out.bel bb)
  have f9O := hid_ (f8O.out.bel bb)
  have f9R3 := hid_ (f8R3.out.bel bb)
  have f9R4 := hid_ (f8R4.out.bel bb)
  have f9R5 := hid_ (f8R5.out.bel bb)
  have f9R6 := hid_ (f8R6.out.bel bb)
  clear b bb f8T f8P f8S f8B f8A f8O f8R3 f8R4 f8R5 f8R6
  rw [eqB_1 rfl]
  go_wp2
  go_ret
  exact ⟨rfl, f9B.out⟩
end Go.Proofs.Ytgdonempmblhhaa
