/- awake of the statements of layer 6. -/
import Derived.Test.YtboaidjhhlidkaaAl24
import Derived.Test.YtboaidjhhlidkaaAl16
set_option linter.unusedSimpArgs false
set_option linter.unusedVariables false
namespace Go.Proofs.Ytboaidjhhlidkaa
open Go.RowKit
theorem Row.zero (w : World) (A : Option Addr) : Row intT w A 0 [] := ⟨rfl, by omega, fun h => absurd h (by omega)⟩
theorem takeH_c : takeH 2 4 ([] : List Int) = 3 := by
  have h : takeH 2 4 ([] : List Int) = if (4 : Int) ≤ 2 then 0 else wrap64 (2 + 1) := rfl
  rw [h, if_neg (by decide)]
  exact IntWalk.wrap64_in _ (by omega)
theorem takeN_c : takeN 2 4 ([] : List Int) = 2 := by
  have h : takeN 2 4 ([] : List Int) = if (4 : Int) ≤ 2 then 0 else wrap64 (wrap64 (2 + 1) - 1) := rfl
  rw [h, if_neg (by decide), IntWalk.wrap64_in (2 + 1) (by omega)]
  exact IntWalk.wrap64_in _ (by omega)
theorem aw1 (w : World) : Calls Try.prog 31 #[.agg #[.int .i64 2, .slice none 0 0, .slice none 0 0], .int .i64 4] w fun e w' => ∃ A c B d, e = .returned (.tuple #[.agg #[.int .i64 3, .slice A 0 c, .slice B 0 d], .int .i64 2, .int .i64 0]) ∧ Bel w w' := by
  refine (take_any 2 4 none none 0 0 0 0 [] [] w (Row.none_ _ _ _) (Row.none_ _ _ _) (by omega) (by omega)).mono ?_
  rintro e w1 ⟨v, rfl, ⟨A, n, c, B, m, d, rfl, _, _, rA, rB⟩, b⟩
  have h1 : takeF ([] : List Int) = [] := rfl
  have h2 : takeL 2 4 ([] : List Int) ([] : List Int) = [] := by decide
  rw [h1] at rA
  rw [h2] at rB
  obtain rfl : 0 = n := rA.1
  obtain rfl : 0 = m := rB.1
  exact ⟨A, c, B, d, by rw [takeH_c, takeN_c, show takeE 2 4 ([] : List Int) = 0 by decide], b⟩
theorem aw2 (w : World) : Calls Try.prog 31 #[.agg #[.int .i64 4, .slice none 0 0, .slice none 0 0], .int .i64 4] w fun e w' => ∃ H A n c B m d, e = .returned (.tuple #[.agg #[.int .i64 H, .slice A n c, .slice B m d], .int .i64 0, .int .i64 60]) ∧ Bel w w' := by
  refine (take_any 4 4 none none 0 0 0 0 [] [] w (Row.none_ _ _ _) (Row.none_ _ _ _) (by omega) (by omega)).mono ?_
  rintro e w1 ⟨v, rfl, ⟨A, n, c, B, m, d, rfl, _, _, rA, rB⟩, b⟩
  exact ⟨_, A, n, c, B, m, d, by rw [show takeN 4 4 ([] : List Int) = 0 by decide, show takeE 4 4 ([] : List Int) = 60 by decide], b⟩
theorem aw3 (w : World) (X : Option Addr) (hX : Row intT w X 1 [4]) : Calls Try.prog 33 #[.agg #[.int .i64 9, .slice X 1 1, .slice none 0 0], .int .i64 3] w fun e w' => ∃ A c B d, e = .returned (.tuple #[.agg #[.int .i64 9, .slice A 1 c, .slice B 1 d], .int .i64 0]) ∧ Row intT w' A 1 [4] ∧ Row intT w' B 1 [3] ∧ Bel w w' := by
  refine (give_any 9 3 X none 1 1 0 0 [4] [] w hX (Row.none_ _ _ _) (by omega) (by omega)).mono ?_
  rintro e w1 ⟨v, rfl, ⟨A, n, c, B, m, d, rfl, _, _, rA, rB⟩, b⟩
  have h1 : giveF 9 [4] [] 3 = [4] := by decide
  have h2 : giveL 9 [4] [] 3 = [3] := by decide
  rw [h1] at rA
  rw [h2] at rB
  obtain rfl : 1 = n := rA.1
  obtain rfl : 1 = m := rB.1
  exact ⟨A, c, B, d, by rw [show giveH 9 [4] [] 3 = 9 by decide, show giveE 9 [4] [] 3 = 0 by decide], rA, rB, b⟩
theorem aw4 (w : World) (A B : Option Addr) (c d : Nat) (hA : Row intT w A 1 [4]) (hB : Row intT w B 1 [3]) : Calls Try.prog 38 #[.agg #[.int .i64 9, .slice A 1 c, .slice B 1 d]] w fun e w' => ∃ A c B d, e = .returned (.agg #[.int .i64 9, .slice A 2 c, .slice B 0 d]) ∧ Row intT w' A 2 [3, 4] ∧ Bel w w' := by
  refine (turn_any 9 A B 1 c 1 d [4] [3] w hA hB (by omega) (by omega)).mono ?_
  rintro e w1 ⟨v, rfl, ⟨A, n, c, B, m, d, rfl, _, _, rA, rB⟩, b⟩
  have h1 : turnP [4] [3] = [3, 4] := by decide
  rw [h1] at rA
  obtain rfl : 2 = n := rA.1
  obtain rfl : 0 = m := rB.1
  exact ⟨A, c, B, d, rfl, rA, b⟩
theorem aw5 (w : World) (A B : Option Addr) (c d : Nat) : Calls Try.prog 35 #[.agg #[.int .i64 3, .slice A 0 c, .slice B 0 d], .int .i64 2] w fun e w' => ∃ H A c B m d, e = .returned (.tuple #[.agg #[.int .i64 H, .slice A 1 c, .slice B m d], .int .i64 0]) ∧ Bel w w' := by
  refine (back_any 3 2 A B 0 c 0 d [] [] w (Row.zero _ _) (Row.zero _ _) (by omega) (by omega)).mono ?_
  rintro e w1 ⟨v, rfl, ⟨A, n, c, B, m, d, rfl, _, _, rA, rB⟩, b⟩
  have h1 : backF 3 [] [] 2 = [2] := by decide
  rw [h1] at rA
  obtain rfl : 1 = n := rA.1
  exact ⟨_, A, c, B, m, d, by rw [show giveE 3 [] [] 2 = 0 by decide], b⟩
theorem aw6 (w : World) (A B : Option Addr) (c d : Nat) (hA : Row intT w A 1 [4]) (hB : Row intT w B 1 [3]) : Calls Try.prog 45 #[.agg #[.int .i64 9, .slice A 1 c, .slice B 1 d]] w fun e w' => ∃ X q k ss, e = .returned (.slice X q k) ∧ Row svT w' X q ss ∧ RowsAt w' ss [[3, 4]] ∧ Bel w w' := by
  refine (lists_any 9 A B 1 c 1 d [4] [3] w hA hB (by omega) (by omega)).mono ?_
  rintro e w1 ⟨X, q, k, ss, rfl, _, h2, h3, b⟩
  have h1 : chunksP (turnP [4] [3]) = [[3, 4]] := by decide
  rw [h1] at h3
  exact ⟨X, q, k, ss, rfl, h2, h3, b⟩
theorem aw7 (w : World) (X : Option Addr) (q k : Nat) (ss : List SV) (h1 : Row svT w X q ss) (h2 : RowsAt w ss [[3, 4]]) : Calls Try.prog 42 #[.int .i64 9, .slice X q k] w fun e w' => ∃ A c B d, e = .returned (.tuple #[.agg #[.int .i64 9, .slice A 2 c, .slice B 0 d], .int .i64 0]) ∧ Row intT w' A 2 [3, 4] ∧ Bel w w' := by
  refine (of_any 9 X q k ss [[3, 4]] w h1 h2 (by decide)).mono ?_
  rintro e w1 ⟨v, rfl, ⟨A, n, c, B, m, d, rfl, _, _, rA, rB⟩, b⟩
  have h1 : ofF 9 [[3, 4]] = [3, 4] := by decide
  rw [h1] at rA
  obtain rfl : 2 = n := rA.1
  obtain rfl : 0 = m := rB.1
  exact ⟨A, c, B, d, by rw [show ofH 9 [[3, 4]] = 9 by decide, show ofE 9 [[3, 4]] = 0 by decide], rA, b⟩
theorem aw8 (w : World) (A B A' B' : Option Addr) (c d c' d' : Nat) (h1 : Row intT w A 2 [3, 4]) (h2 : Row intT w A' 2 [3, 4]) : Calls Try.prog 37 #[.agg #[.int .i64 9, .slice A 2 c, .slice B 0 d], .agg #[.int .i64 9, .slice A' 2 c', .slice B' 0 d']] w fun e w' => e = .returned (.bool true) ∧ Bel w w' := by
  refine (same_any 9 9 A B A' B' 2 c 0 d 2 c' 0 d' [3, 4] [] [3, 4] [] w h1 (Row.zero _ _) h2 (Row.zero _ _)).mono ?_
  rintro e w1 ⟨rfl, b⟩
  exact ⟨by simp, b⟩
theorem aw9 (w : World) (A B : Option Addr) (c d : Nat) (h1 : Row intT w A 2 [3, 4]) : Calls Try.prog 40 #[.agg #[.int .i64 9, .slice A 2 c, .slice B 0 d], .int .i64 9] w fun e w' => e = .returned (.int .i64 0) ∧ Bel w w' := by
  refine (check_any 9 9 A B 2 c 0 d [3, 4] [] w h1 (Row.zero _ _)).mono ?_
  rintro e w1 ⟨rfl, b⟩
  exact ⟨by rw [show chkP 9 9 [3, 4] [] = 0 by decide], b⟩
theorem aw10 (w : World) : Calls Try.prog 40 #[.agg #[.int .i64 0, .slice none 0 0, .slice none 0 0], .int .i64 9] w fun e w' => e = .returned (.int .i64 61) ∧ Bel w w' := by
  refine (check_any 0 9 none none 0 0 0 0 [] [] w (Row.zero _ _) (Row.zero _ _)).mono ?_
  rintro e w1 ⟨rfl, b⟩
  exact ⟨by rw [show chkP 0 9 [] [] = 61 by decide], b⟩
set_option maxRecDepth 10000 in
set_option maxHeartbeats 4000000 in
theorem awake06 (w : World) : Calls Try.prog 29 #[] w fun e w' => e = .returned (.bool true) ∧ Bel w w' := by
  go_enter Try.func29, Try.ntmps29
  go_wp2_with fail
  refine (aw1 w).mono ?_
  rintro e w1 ⟨A1, c1, B1, d1, rfl, b1⟩
  have x1 := hid_ (Bx.new w1 48 [.int .i64 3, .slice A1 0 c1, .slice B1 0 d1])
  have z := hid_ (b1.alloc (.cells #[.int .i64 3, .slice A1 0 c1, .slice B1 0 d1] 48))
  clear b1
  go_wp2_with fail
  refine (aw2 _).mono ?_
  rintro e w2 ⟨H2, A2, n2, c2, B2, m2, d2, rfl, b2⟩
  have y1 := hid_ ((x1.out.bel b2).alloc (.cells #[.int .i64 H2, .slice A2 n2 c2, .slice B2 m2 d2] 48))
  have z2 := hid_ ((z.out.trans b2).alloc (.cells #[.int .i64 H2, .slice A2 n2 c2, .slice B2 m2 d2] 48))
  clear x1 z b2
  go_wp2_with fail
  refine (aw3 _ _ (Row.one (T := intT) 4 rfl (sizeAl _ _).symm)).mono ?_
  rintro e w3 ⟨A3, c3, B3, d3, rfl, r3, s3, b3⟩
  have b3' : Bel w2 w3 := (((Bel.refl w2).alloc _).alloc _).trans b3
  have x1 := hid_ ((y1.out.bel (((Bel.refl _).alloc _).trans b3)).alloc (.cells #[.int .i64 9, .slice A3 1 c3, .slice B3 1 d3] 48))
  have x3 := hid_ (Bx.new w3 48 [.int .i64 9, .slice A3 1 c3, .slice B3 1 d3])
  have z3 := hid_ ((z2.out.trans (((Bel.refl _).alloc _).trans b3)).alloc (.cells #[.int .i64 9, .slice A3 1 c3, .slice B3 1 d3] 48))
  have R3 := hid_ (r3.bel ((Bel.refl w3).alloc (.cells #[.int .i64 9, .slice A3 1 c3, .slice B3 1 d3] 48)))
  have S3 := hid_ (s3.bel ((Bel.refl w3).alloc (.cells #[.int .i64 9, .slice A3 1 c3, .slice B3 1 d3] 48)))
  have e0 := x3.out.cell 0 rfl
  have e1 := x3.out.cell 1 rfl
  have e2 := x3.out.cell 2 rfl
  clear y1 z2 r3 s3 b3 b3'
  go_wp2_with fail
  refine (aw4 _ A3 B3 c3 d3 R3.out S3.out).mono ?_
  rintro e w4 ⟨A4, c4, B4, d4, rfl, r4, b4⟩
  have y1 := hid_ ((x1.out.bel b4).alloc (.cells #[.int .i64 9, .slice A4 2 c4, .slice B4 0 d4] 48))
  have y3 := hid_ ((x3.out.bel b4).alloc (.cells #[.int .i64 9, .slice A4 2 c4, .slice B4 0 d4] 48))
  have y4 := hid_ (Bx.new w4 48 [.int .i64 9, .slice A4 2 c4, .slice B4 0 d4])
  have z4 := hid_ ((z3.out.trans b4).alloc (.cells #[.int .i64 9, .slice A4 2 c4, .slice B4 0 d4] 48))
  have R4 := hid_ (R3.out.bel (b4.alloc (.cells #[.int .i64 9, .slice A4 2 c4, .slice B4 0 d4] 48)))
  have S4 := hid_ (S3.out.bel (b4.alloc (.cells #[.int .i64 9, .slice A4 2 c4, .slice B4 0 d4] 48)))
  have T4 := hid_ (r4.bel ((Bel.refl w4).alloc (.cells #[.int .i64 9, .slice A4 2 c4, .slice B4 0 d4] 48)))
  clear x1 x3 z3 R3 S3 e0 e1 e2 b4 r4
  have e0 := y1.out.cell 0 rfl
  have e1 := y1.out.cell 1 rfl
  have e2 := y1.out.cell 2 rfl
  go_wp2_with fail
  refine (aw5 _ A1 B1 c1 d1).mono ?_
  rintro e w5 ⟨H5, A5, c5, B5, m5, d5, rfl, b5⟩
  have x1 := hid_ ((y1.out.bel b5).alloc (.cells #[.int .i64 H5, .slice A5 1 c5, .slice B5 m5 d5] 48))
  have x3 := hid_ ((y3.out.bel b5).alloc (.cells #[.int .i64 H5, .slice A5 1 c5, .slice B5 m5 d5] 48))
  have x4 := hid_ ((y4.out.bel b5).alloc (.cells #[.int .i64 H5, .slice A5 1 c5, .slice B5 m5 d5] 48))
  have x5 := hid_ (Bx.new w5 48 [.int .i64 H5, .slice A5 1 c5, .slice B5 m5 d5])
  have bb := b5.alloc (.cells #[.int .i64 H5, .slice A5 1 c5, .slice B5 m5 d5] 48)
  have z5 := hid_ (z4.out.trans bb)
  have R5 := hid_ (R4.out.bel bb)
  have S5 := hid_ (S4.out.bel bb)
  have T5 := hid_ (T4.out.bel bb)
  clear y1 y3 y4 z4 R4 S4 T4 e0 e1 e2 b5 bb
  have e0 := x3.out.cell 0 rfl
  have e1 := x3.out.cell 1 rfl
  have e2 := x3.out.cell 2 rfl
  go_wp2_with fail
  refine (aw6 _ A3 B3 c3 d3 R5.out S5.out).mono ?_
  rintro e w6 ⟨X6, q6, k6, ss6, rfl, r6, s6, b6⟩
  have R6 := hid_ r6
  have S6 := hid_ s6
  have B6 := hid_ b6
  clear r6 s6 b6 e0 e1 e2
  go_wp2_with fail
  refine (aw7 _ X6 q6 k6 ss6 R6.out S6.out).mono ?_
  rintro e w7 ⟨A7, c7, B7, d7, rfl, r7, b7⟩
  have bb := (B6.out.trans b7).alloc (.cells #[.int .i64 9, .slice A7 2 c7, .slice B7 0 d7] 48)
  have y1 := hid_ (x1.out.bel bb)
  have y3 := hid_ (x3.out.bel bb)
  have y4 := hid_ (x4.out.bel bb)
  have y5 := hid_ (x5.out.bel bb)
  have y7 := hid_ (Bx.new w7 48 [.int .i64 9, .slice A7 2 c7, .slice B7 0 d7])
  have z7 := hid_ (z5.out.trans bb)
  have T7 := hid_ (T5.out.bel bb)
  have U7 := hid_ (r7.bel ((Bel.refl w7).alloc (.cells #[.int .i64 9, .slice A7 2 c7, .slice B7 0 d7] 48)))
  clear x1 x3 x4 x5 z5 R5 S5 T5 R6 S6 B6 b7 r7 bb
  have e0 := y7.out.cell 0 rfl
  have e1 := y7.out.cell 1 rfl
  have e2 := y7.out.cell 2 rfl
  have f0 := y4.out.cell 0 rfl
  have f1 := y4.out.cell 1 rfl
  have f2 := y4.out.cell 2 rfl
  go_wp2_with fail
  refine (aw8 _ A7 B7 A4 B4 c7 d7 c4 d4 U7.out T7.out).mono ?_
  rintro e w8 ⟨rfl, b8⟩
  have x1 := y1.out.bel b8
  have x3 := y3.out.bel b8
  have x4 := y4.out.bel b8
  have x5 := y5.out.bel b8
  have z8 := hid_ (z7.out.trans b8)
  have T8 := hid_ (T7.out.bel b8)
  clear y1 y3 y4 y5 y7 z7 U7 e0 e1 e2 f0 f1 f2
  obtain ⟨ad, x, rfl, hx, d0⟩ := T8.out.int (k := 0) (by omega)
  obtain rfl : 3 = x := by simpa using hx
  have hA0 : ad.add 0 = ad := by unfold Addr.add; simp
  rw [hA0] at d0
  have e0 := x1.cell 0 rfl
  have e2 := x3.cell 2 rfl
  have f0 := x4.cell 0 rfl
  have f1 := x4.cell 1 rfl
  have f2 := x4.cell 2 rfl
  have g1 := x5.cell 1 rfl
  have X4 := hid_ x4
  clear x1 x3 x4 x5 b8 T7 hx hA0
  go_wp2_with fail
  refine (aw9 _ (some ad) B4 c4 d4 T8.out).mono ?_
  rintro e w9 ⟨rfl, b9⟩
  have z9 := hid_ (z8.out.trans b9)
  clear e0 e2 f0 f1 f2 g1 X4 T8 z8 b9 d0
  go_wp2_with fail
  refine (aw10 _).mono ?_
  rintro e w10 ⟨rfl, b10⟩
  have z10 := hid_ (z9.out.trans b10)
  clear z9 b10
  go_wp2
  go_ret
  exact ⟨rfl, z10.out⟩
end Go.Proofs.Ytboaidjhhlidkaa
