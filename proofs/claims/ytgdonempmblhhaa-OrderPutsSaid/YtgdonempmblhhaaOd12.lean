/- The head of layer 13's statements: awake. -/
import Derived.Test.YtgdonempmblhhaaOd11
import Derived.Test.YtgdonempmblhhaaOd6
import Derived.Test.YtgdonempmblhhaaSo16
import Derived.Test.YtgdonempmblhhaaBx2
set_option linter.unusedSimpArgs false
set_option linter.unusedVariables false
namespace Go.Proofs.Ytgdonempmblhhaa
open Go.RowKit Go.Lib
abbrev annS : ByteArray := ⟨#[97, 110, 110]⟩
abbrev bobS : ByteArray := ⟨#[98, 111, 98]⟩
abbrev xyzMS : ByteArray := ⟨#[88, 89, 90, 45, 85, 83, 68]⟩
abbrev mmS : ByteArray := ⟨#[88, 89, 90, 45, 88, 89, 90]⟩
abbrev xyzS : ByteArray := ⟨#[88, 89, 90]⟩
abbrev usdS : ByteArray := ⟨#[85, 83, 68]⟩
theorem szAnn : annS.size ≤ 4294967280 := by decide
theorem szBob : bobS.size ≤ 4294967280 := by decide
theorem szXyz : xyzMS.size ≤ 4294967280 := by decide
theorem szMM : mmS.size ≤ 4294967280 := by decide
abbrev awB13 : Ord := ⟨1, annS, xyzMS, true, 20, 5⟩
abbrev awD13 : Ord := ⟨2, bobS, xyzMS, true, 21, 5⟩
theorem aw13a : mktA xyzMS = xyzS := by decide +kernel
theorem aw13b : mktC xyzMS = usdS := by decide +kernel
theorem aw13c : mktE xyzMS = 0 := by decide +kernel
theorem aw13d : mktE mmS = 1 := by decide +kernel
theorem aw13e : needA awB13 = usdS := by decide +kernel
theorem aw13f : needN awB13 = 100 := by decide +kernel
theorem aw13g : needE awB13 = 0 := by decide +kernel
theorem aw13h : putO [awD13] awB13 = [awB13, awD13] := by kernel_rfl
theorem aw13i : putE [awD13] awB13 = 0 := by decide +kernel
theorem aw13j : buysL [awB13, awD13] xyzMS = [awD13, awB13] := by kernel_rfl
theorem aw13k : sellsL [awB13, awD13] xyzMS = [] := by kernel_rfl
theorem aw13l : dropL [awB13, awD13] 2 = [awB13] := by kernel_rfl
theorem aw13m : dropX [awB13, awD13] 2 = awD13 := by kernel_rfl
theorem aw13n : dropE [awB13, awD13] 2 = 0 := by decide +kernel
theorem aw13o : checkE annS xyzMS 20 5 = 0 := by decide +kernel
theorem aw13p : ordEq awB13 awB13 = true := by decide +kernel
theorem aw13q : ordEq awD13 awD13 = true := by decide +kernel
set_option maxRecDepth 10000 in
set_option maxHeartbeats 4000000 in
theorem awake13 (u : World) : Calls Try.prog 22 #[] u fun e w' => e = .returned (.bool true) ∧ Bel u w' := by
  go_enter Try.func22, Try.ntmps22
  go_wp2_with fail
  refine (market_any xyzMS _ szXyz).mono ?_
  rintro e u1 ⟨rfl, b1⟩
  rw [aw13a, aw13b, aw13c]
  go_wp2_with fail
  refine (market_any mmS _ szMM).mono ?_
  rintro e w ⟨rfl, b2⟩
  rw [aw13d]
  have BU := hid_ (b1.trans b2)
  clear b1 b2
  have z0 := sizeAl w (.cells #[.int .u64 1, .string annS, .string xyzMS, .bool true, .int .i64 20, .int .i64 5] 27)
  have k0 := (Bx.new w 27 [.int .u64 1, .string annS, .string xyzMS, .bool true, .int .i64 20, .int .i64 5]).alloc (.cells #[.int .u64 2, .string bobS, .string xyzMS, .bool true, .int .i64 21, .int .i64 5] 27)
  have k0 : Bx ((w.alloc (.cells #[.int .u64 1, .string annS, .string xyzMS, .bool true, .int .i64 20, .int .i64 5] 27)).alloc (.cells #[.int .u64 2, .string bobS, .string xyzMS, .bool true, .int .i64 21, .int .i64 5] 27)) (w.heap.size) 27 [.int .u64 1, .string annS, .string xyzMS, .bool true, .int .i64 20, .int .i64 5] := k0
  have k1 := Bx.new (w.alloc (.cells #[.int .u64 1, .string annS, .string xyzMS, .bool true, .int .i64 20, .int .i64 5] 27)) 27 [.int .u64 2, .string bobS, .string xyzMS, .bool true, .int .i64 21, .int .i64 5]
  rw [z0] at k1
  have k1 : Bx ((w.alloc (.cells #[.int .u64 1, .string annS, .string xyzMS, .bool true, .int .i64 20, .int .i64 5] 27)).alloc (.cells #[.int .u64 2, .string bobS, .string xyzMS, .bool true, .int .i64 21, .int .i64 5] 27)) (w.heap.size + 1) 27 [.int .u64 2, .string bobS, .string xyzMS, .bool true, .int .i64 21, .int .i64 5] := k1
  have kB : Bel w ((w.alloc (.cells #[.int .u64 1, .string annS, .string xyzMS, .bool true, .int .i64 20, .int .i64 5] 27)).alloc (.cells #[.int .u64 2, .string bobS, .string xyzMS, .bool true, .int .i64 21, .int .i64 5] 27)) := ((Bel.refl w).alloc _).alloc _
  have FP := hid_ k0
  have FQ := hid_ k1
  have FB := hid_ kB
  clear k0 k1 z0 kB
  go_wp2_with fail
  generalize ((w.alloc (.cells #[.int .u64 1, .string annS, .string xyzMS, .bool true, .int .i64 20, .int .i64 5] 27)).alloc (.cells #[.int .u64 2, .string bobS, .string xyzMS, .bool true, .int .i64 21, .int .i64 5] 27)) = W0 at FP FQ FB ⊢
  generalize w.heap.size + 1 = gQ at FQ ⊢
  obtain ⟨gP, hgP⟩ : ∃ g, w.heap.size = g := ⟨_, rfl⟩
  rw [hgP] at FP
  try rw [hgP]
  clear hgP
  have qP0 := FP.out.cell 0 rfl
  have qP1 := FP.out.cell 1 rfl
  have qP2 := FP.out.cell 2 rfl
  have qP3 := FP.out.cell 3 rfl
  have qP4 := FP.out.cell 4 rfl
  have qP5 := FP.out.cell 5 rfl
  refine (need_any 1 annS xyzMS true 20 5 _ szAnn szXyz).mono ?_
  rintro e v1 ⟨rfl, b⟩
  have bb := b
  rw [show needA ⟨1, annS, xyzMS, true, 20, 5⟩ = usdS from aw13e, show needN ⟨1, annS, xyzMS, true, 20, 5⟩ = 100 from aw13f, show needE ⟨1, annS, xyzMS, true, 20, 5⟩ = 0 from aw13g]
  have f1P := hid_ (FP.out.bel bb)
  have f1Q := hid_ (FQ.out.bel bb)
  have f1B := hid_ (FB.out.trans bb)
  clear b bb FP FQ FB qP0 qP1 qP2 qP3 qP4 qP5
  have qQ0 := f1Q.out.cell 0 rfl
  have qQ1 := f1Q.out.cell 1 rfl
  have qQ2 := f1Q.out.cell 2 rfl
  have qQ3 := f1Q.out.cell 3 rfl
  have qQ4 := f1Q.out.cell 4 rfl
  have qQ5 := f1Q.out.cell 5 rfl
  have rP0 := fun o => (f1P.out.alloc o).cell 0 rfl
  have rP1 := fun o => (f1P.out.alloc o).cell 1 rfl
  have rP2 := fun o => (f1P.out.alloc o).cell 2 rfl
  have rP3 := fun o => (f1P.out.alloc o).cell 3 rfl
  have rP4 := fun o => (f1P.out.alloc o).cell 4 rfl
  have rP5 := fun o => (f1P.out.alloc o).cell 5 rfl
  go_wp2_with fail
  refine (put_any (some ⟨v1.heap.size, 0, none⟩) 1 1 [awD13] 1 annS xyzMS true 20 5 _ (Row.one (T := ordT) (W := v1) awD13 rfl rfl) (Nat.le_refl _) szAnn szXyz (by omega)).mono ?_
  rintro e v2 ⟨A4, n4, c4, rfl, r4, hc4, b⟩
  have bb := ((Bel.refl v1).alloc _).trans b
  rw [show putE [awD13] ⟨1, annS, xyzMS, true, 20, 5⟩ = 0 from aw13i]
  rw [show putO [awD13] ⟨1, annS, xyzMS, true, 20, 5⟩ = [awB13, awD13] from aw13h] at r4
  obtain rfl : n4 = 2 := r4.1.symm
  have HC4 := hid_ hc4
  clear hc4
  have f2P := hid_ (f1P.out.bel bb)
  have f2Q := hid_ (f1Q.out.bel bb)
  have f2B := hid_ (f1B.out.trans bb)
  have f2L := hid_ r4
  clear b bb f1P f1Q f1B qQ0 qQ1 qQ2 qQ3 qQ4 qQ5 rP0 rP1 rP2 rP3 rP4 rP5 r4
  go_wp2_with fail
  refine (sides_any A4 2 c4 [awB13, awD13] xyzMS _ f2L.out (by omega)).mono ?_
  rintro e v3 ⟨t1, t2, rfl, o1, o2, b⟩
  have bb := b
  rw [aw13j] at o1
  rw [aw13k] at o2
  obtain ⟨A5, c5, rfl, _, r5⟩ := o1.reads
  obtain ⟨A6, c6, rfl, _, r6⟩ := o2.reads
  clear o1 o2
  have f3P := hid_ (f2P.out.bel bb)
  have f3Q := hid_ (f2Q.out.bel bb)
  have f3B := hid_ (f2B.out.trans bb)
  have f3L := hid_ (f2L.out.bel bb)
  have f3X := hid_ r5
  have f3Y := hid_ r6
  clear b bb f2P f2Q f2B f2L r5 r6
  go_wp2_with fail
  refine (drop_any A4 2 c4 [awB13, awD13] 2 _ f3L.out HC4.out (by omega)).mono ?_
  rintro e v4 ⟨A7, n7, c7, rfl, r7, _, b⟩
  have bb := b
  rw [aw13m, aw13n]
  rw [aw13l] at r7
  obtain rfl : n7 = 1 := r7.1.symm
  have f4P := hid_ (f3P.out.bel bb)
  have f4Q := hid_ (f3Q.out.bel bb)
  have f4B := hid_ (f3B.out.trans bb)
  have f4L := hid_ (f3L.out.bel bb)
  have f4X := hid_ (f3X.out.bel bb)
  have f4Y := hid_ (f3Y.out.bel bb)
  have f4K := hid_ r7
  clear b bb f3P f3Q f3B f3L f3X f3Y r7
  rw [show (ordC awD13).toArray = #[.int .u64 2, .string bobS, .string xyzMS, .bool true, .int .i64 21, .int .i64 5] from rfl]
  obtain ⟨add, xd0, xd1, xd2, xd3, xd4, xd5, e4, ho, d0, d1, d2, d3, d4, d5⟩ := (f4L.out.bel ((Bel.refl v4).alloc (.cells #[.int .u64 2, .string bobS, .string xyzMS, .bool true, .int .i64 21, .int .i64 5] 27))).ord (k := 0) (by decide)
  cases e4
  cases ho
  simp [Addr.add] at d0 d1 d2 d3 d4 d5
  obtain ⟨adf, xf0, xf1, xf2, xf3, xf4, xf5, e4, ho, f0, f1, f2, f3, f4, f5⟩ := (f4X.out.bel ((Bel.refl v4).alloc (.cells #[.int .u64 2, .string bobS, .string xyzMS, .bool true, .int .i64 21, .int .i64 5] 27))).ord (k := 0) (by decide)
  cases e4
  cases ho
  simp [Addr.add] at f0 f1 f2 f3 f4 f5
  have kO := Bx.new v4 27 [.int .u64 2, .string bobS, .string xyzMS, .bool true, .int .i64 21, .int .i64 5]
  have kP := f4P.out.bel ((Bel.refl v4).alloc (.cells #[.int .u64 2, .string bobS, .string xyzMS, .bool true, .int .i64 21, .int .i64 5] 27))
  have kQ := f4Q.out.bel ((Bel.refl v4).alloc (.cells #[.int .u64 2, .string bobS, .string xyzMS, .bool true, .int .i64 21, .int .i64 5] 27))
  have kB := BU.out.trans (f4B.out.trans ((Bel.refl v4).alloc (.cells #[.int .u64 2, .string bobS, .string xyzMS, .bool true, .int .i64 21, .int .i64 5] 27)))
  have o0 := kO.cell 0 rfl
  have o1 := kO.cell 1 rfl
  have o2 := kO.cell 2 rfl
  have o3 := kO.cell 3 rfl
  have o4 := kO.cell 4 rfl
  have o5 := kO.cell 5 rfl
  have p0 := kP.cell 0 rfl
  have p1 := kP.cell 1 rfl
  have p2 := kP.cell 2 rfl
  have p3 := kP.cell 3 rfl
  have p4 := kP.cell 4 rfl
  have p5 := kP.cell 5 rfl
  have q0 := kQ.cell 0 rfl
  have q1 := kQ.cell 1 rfl
  have q2 := kQ.cell 2 rfl
  have q3 := kQ.cell 3 rfl
  have q4 := kQ.cell 4 rfl
  have q5 := kQ.cell 5 rfl
  have HB := hid_ kB
  clear kO kP kQ kB f4P f4Q f4B f4L f4X f4Y f4K BU HC4
  go_wp2_with fail
  generalize v4.alloc (.cells #[.int .u64 2, .string bobS, .string xyzMS, .bool true, .int .i64 21, .int .i64 5] 27) = W0 at d0 d1 d2 d3 d4 d5 f0 f1 f2 f3 f4 f5 o0 o1 o2 o3 o4 o5 p0 p1 p2 p3 p4 p5 q0 q1 q2 q3 q4 q5 HB ⊢
  generalize v4.heap.size = gO at o0 o1 o2 o3 o4 o5 ⊢
  have hKP : ∀ W, Bel W0 W → (fun W => Bel W0 W ∧ W.cell? add = some (.int .u64 1) ∧ W.cell? ⟨add.block, add.off + 1, none⟩ = some (.string annS) ∧ W.cell? ⟨add.block, add.off + 2, none⟩ = some (.string xyzMS) ∧ W.cell? ⟨add.block, add.off + 3, none⟩ = some (.bool true) ∧ W.cell? ⟨add.block, add.off + 4, none⟩ = some (.int .i64 20) ∧ W.cell? ⟨add.block, add.off + 5, none⟩ = some (.int .i64 5) ∧ W.cell? adf = some (.int .u64 2) ∧ W.cell? ⟨adf.block, adf.off + 1, none⟩ = some (.string bobS) ∧ W.cell? ⟨adf.block, adf.off + 2, none⟩ = some (.string xyzMS) ∧ W.cell? ⟨adf.block, adf.off + 3, none⟩ = some (.bool true) ∧ W.cell? ⟨adf.block, adf.off + 4, none⟩ = some (.int .i64 21) ∧ W.cell? ⟨adf.block, adf.off + 5, none⟩ = some (.int .i64 5) ∧ W.cell? ⟨gO, 0, none⟩ = some (.int .u64 2) ∧ W.cell? ⟨gO, 1, none⟩ = some (.string bobS) ∧ W.cell? ⟨gO, 2, none⟩ = some (.string xyzMS) ∧ W.cell? ⟨gO, 3, none⟩ = some (.bool true) ∧ W.cell? ⟨gO, 4, none⟩ = some (.int .i64 21) ∧ W.cell? ⟨gO, 5, none⟩ = some (.int .i64 5) ∧ W.cell? ⟨gP, 0, none⟩ = some (.int .u64 1) ∧ W.cell? ⟨gP, 1, none⟩ = some (.string annS) ∧ W.cell? ⟨gP, 2, none⟩ = some (.string xyzMS) ∧ W.cell? ⟨gP, 3, none⟩ = some (.bool true) ∧ W.cell? ⟨gP, 4, none⟩ = some (.int .i64 20) ∧ W.cell? ⟨gP, 5, none⟩ = some (.int .i64 5) ∧ W.cell? ⟨gQ, 0, none⟩ = some (.int .u64 2) ∧ W.cell? ⟨gQ, 1, none⟩ = some (.string bobS) ∧ W.cell? ⟨gQ, 2, none⟩ = some (.string xyzMS) ∧ W.cell? ⟨gQ, 3, none⟩ = some (.bool true) ∧ W.cell? ⟨gQ, 4, none⟩ = some (.int .i64 21) ∧ W.cell? ⟨gQ, 5, none⟩ = some (.int .i64 5)) W := fun W b => ⟨b, b.cell_ d0, b.cell_ d1, b.cell_ d2, b.cell_ d3, b.cell_ d4, b.cell_ d5, b.cell_ f0, b.cell_ f1, b.cell_ f2, b.cell_ f3, b.cell_ f4, b.cell_ f5, b.cell_ o0, b.cell_ o1, b.cell_ o2, b.cell_ o3, b.cell_ o4, b.cell_ o5, b.cell_ p0, b.cell_ p1, b.cell_ p2, b.cell_ p3, b.cell_ p4, b.cell_ p5, b.cell_ q0, b.cell_ q1, b.cell_ q2, b.cell_ q3, b.cell_ q4, b.cell_ q5⟩
  have HKP := hid_ hKP
  clear hKP d0 d1 d2 d3 d4 d5 f0 f1 f2 f3 f4 f5 o0 o1 o2 o3 o4 o5 p0 p1 p2 p3 p4 p5 q0 q1 q2 q3 q4 q5
  have E1 := eqlOrd 1 annS xyzMS true 20 5 1 annS xyzMS true 20 5
  have E2 := eqlOrd 2 bobS xyzMS true 21 5 2 bobS xyzMS true 21 5
  rw [aw13p] at E1
  rw [aw13q] at E2
  go_region_held3 (fun W => Bel W0 W ∧ W.cell? add = some (.int .u64 1) ∧ W.cell? ⟨add.block, add.off + 1, none⟩ = some (.string annS) ∧ W.cell? ⟨add.block, add.off + 2, none⟩ = some (.string xyzMS) ∧ W.cell? ⟨add.block, add.off + 3, none⟩ = some (.bool true) ∧ W.cell? ⟨add.block, add.off + 4, none⟩ = some (.int .i64 20) ∧ W.cell? ⟨add.block, add.off + 5, none⟩ = some (.int .i64 5) ∧ W.cell? adf = some (.int .u64 2) ∧ W.cell? ⟨adf.block, adf.off + 1, none⟩ = some (.string bobS) ∧ W.cell? ⟨adf.block, adf.off + 2, none⟩ = some (.string xyzMS) ∧ W.cell? ⟨adf.block, adf.off + 3, none⟩ = some (.bool true) ∧ W.cell? ⟨adf.block, adf.off + 4, none⟩ = some (.int .i64 21) ∧ W.cell? ⟨adf.block, adf.off + 5, none⟩ = some (.int .i64 5) ∧ W.cell? ⟨gO, 0, none⟩ = some (.int .u64 2) ∧ W.cell? ⟨gO, 1, none⟩ = some (.string bobS) ∧ W.cell? ⟨gO, 2, none⟩ = some (.string xyzMS) ∧ W.cell? ⟨gO, 3, none⟩ = some (.bool true) ∧ W.cell? ⟨gO, 4, none⟩ = some (.int .i64 21) ∧ W.cell? ⟨gO, 5, none⟩ = some (.int .i64 5) ∧ W.cell? ⟨gP, 0, none⟩ = some (.int .u64 1) ∧ W.cell? ⟨gP, 1, none⟩ = some (.string annS) ∧ W.cell? ⟨gP, 2, none⟩ = some (.string xyzMS) ∧ W.cell? ⟨gP, 3, none⟩ = some (.bool true) ∧ W.cell? ⟨gP, 4, none⟩ = some (.int .i64 20) ∧ W.cell? ⟨gP, 5, none⟩ = some (.int .i64 5) ∧ W.cell? ⟨gQ, 0, none⟩ = some (.int .u64 2) ∧ W.cell? ⟨gQ, 1, none⟩ = some (.string bobS) ∧ W.cell? ⟨gQ, 2, none⟩ = some (.string xyzMS) ∧ W.cell? ⟨gQ, 3, none⟩ = some (.bool true) ∧ W.cell? ⟨gQ, 4, none⟩ = some (.int .i64 21) ∧ W.cell? ⟨gQ, 5, none⟩ = some (.int .i64 5)) ((refine HKP.out _ ?_; repeat first | with_reducible exact Bel.refl _ | with_reducible exact bz | with_reducible apply Bel.drew | with_reducible apply Bel.alloc))
    (first | (go_at_call 26; refine' Calls.mono (orderCheck_any 1 annS xyzMS true 20 5 _ szAnn szXyz) ?_; rintro e w9 ⟨rfl, b9⟩; have bz : Bel W0 w9 := Bel.trans (by repeat first | with_reducible exact Bel.refl _ | with_reducible apply Bel.drew | with_reducible apply Bel.alloc) b9; rw [aw13o]))
  clear HKP E1 E2
  try go_wp2
  first | go_ret2 | go_ret
  exact ⟨rfl, HB.out.trans (by repeat first | with_reducible exact Bel.refl _ | with_reducible exact bz | with_reducible apply Bel.drew | with_reducible apply Bel.alloc)⟩
end Go.Proofs.Ytgdonempmblhhaa
