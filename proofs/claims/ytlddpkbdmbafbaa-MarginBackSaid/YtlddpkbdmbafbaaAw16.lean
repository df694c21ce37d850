/- The head of layer 16's statements: awake. -/
import Derived.Test.YtlddpkbdmbafbaaMg6
set_option linter.unusedSimpArgs false
set_option linter.unusedVariables false
namespace Go.Proofs.Ytlddpkbdmbafbaa
open Go.RowKit Go.Lib
abbrev annN : ByteArray := ⟨#[97, 110, 110]⟩
abbrev wldN : ByteArray := ⟨#[119, 111, 114, 108, 100]⟩
abbrev xyzN : ByteArray := ⟨#[88, 89, 90, 45, 85, 83, 68]⟩
abbrev usdN : ByteArray := ⟨#[85, 83, 68]⟩
theorem szAnnN : annN.size ≤ 4294967280 := by decide
theorem szXyzN : xyzN.size ≤ 4294967280 := by decide
abbrev awB16 : Ord := ⟨1, annN, xyzN, true, 21, 5⟩
abbrev awA16 : Acc := ⟨annN, usdN, 200, 0⟩
abbrev awH16 : Acc := ⟨annN, usdN, 200, 105⟩
abbrev awW16 : Acc := ⟨wldN, usdN, -200, 0⟩
abbrev awF16 : Acc := ⟨annN, usdN, 100, 0⟩
theorem aw16a : fldO awB16 4 20 = ⟨1, annN, xyzN, true, 21, 1⟩ := by kernel_rfl
theorem aw16b : fldF awB16 4 20 = 4 := by decide +kernel
theorem aw16c : fldE awB16 4 20 = 0 := by decide +kernel
theorem aw16d : fldO awB16 4 22 = ordZo := by kernel_rfl
theorem aw16e : fldF awB16 4 22 = 0 := by decide +kernel
theorem aw16f : fldE awB16 4 22 = 160 := by decide +kernel
theorem aw16g : plE [awA16, awW16] awB16 = 0 := by decide +kernel
theorem aw16h : plO [awA16, awW16] awB16 = [awH16, awW16] := by kernel_rfl
theorem aw16i : caE [awH16, awW16] awB16 = 0 := by decide +kernel
theorem aw16j : caO [awH16, awW16] awB16 = [awA16, awW16] := by kernel_rfl
theorem aw16k : plE [awF16] awB16 = 111 := by decide +kernel
theorem aw16l : plO [awF16] awB16 = [] := by kernel_rfl
theorem srt16a : Srt [awA16, awW16] := by unfold Srt; decide +kernel
theorem srt16b : Srt [awH16, awW16] := by unfold Srt; decide +kernel
theorem srt16c : Srt [awF16] := by unfold Srt; decide +kernel
set_option maxRecDepth 10000 in
set_option maxHeartbeats 4000000 in
theorem awake16 (w : World) : Calls Try.prog 21 #[] w fun e w' => e = .returned (.bool true) ∧ Bel w w' := by
  have k0 := Bx.new w 30 [.int .u64 1, .string annN, .string xyzN, .bool true, .int .i64 21, .int .i64 5]
  have k0 : Bx (w.alloc (.cells #[.int .u64 1, .string annN, .string xyzN, .bool true, .int .i64 21, .int .i64 5] 30)) (w.heap.size) 30 [.int .u64 1, .string annN, .string xyzN, .bool true, .int .i64 21, .int .i64 5] := k0
  have kB : Bel w (w.alloc (.cells #[.int .u64 1, .string annN, .string xyzN, .bool true, .int .i64 21, .int .i64 5] 30)) := (Bel.refl w).alloc _
  have FP := hid_ k0
  have FB := hid_ kB
  clear k0 kB
  go_enter Try.func21, Try.ntmps21
  have qP0 := FP.out.cell 0 rfl
  have qP1 := FP.out.cell 1 rfl
  have qP2 := FP.out.cell 2 rfl
  have qP3 := FP.out.cell 3 rfl
  have qP4 := FP.out.cell 4 rfl
  have qP5 := FP.out.cell 5 rfl
  go_wp2_with fail
  generalize (w.alloc (.cells #[.int .u64 1, .string annN, .string xyzN, .bool true, .int .i64 21, .int .i64 5] 30)) = W0 at FP FB ⊢
  obtain ⟨gP, hgP⟩ : ∃ g, w.heap.size = g := ⟨_, rfl⟩
  rw [hgP] at FP
  try rw [hgP]
  clear hgP
  refine (filled_any 1 annN xyzN true 21 5 4 20 _ (Nat.le_trans szAnnN (by decide)) (Nat.le_trans szXyzN (by decide)) (by decide)).mono ?_
  rintro e v1 ⟨rfl, b⟩
  have bb := b
  rw [aw16a, aw16b, aw16c, show (ordC ⟨1, annN, xyzN, true, 21, 1⟩).toArray = #[.int .u64 1, .string annN, .string xyzN, .bool true, .int .i64 21, .int .i64 1] from rfl]
  have f1P := hid_ (FP.out.bel bb)
  have f1B := hid_ (FB.out.trans bb)
  clear b bb FP FB qP0 qP1 qP2 qP3 qP4 qP5
  have qP0 := f1P.out.cell 0 rfl
  have qP1 := f1P.out.cell 1 rfl
  have qP2 := f1P.out.cell 2 rfl
  have qP3 := f1P.out.cell 3 rfl
  have qP4 := f1P.out.cell 4 rfl
  have qP5 := f1P.out.cell 5 rfl
  have rP0 := fun o => (f1P.out.alloc o).cell 0 rfl
  have rP1 := fun o => (f1P.out.alloc o).cell 1 rfl
  have rP2 := fun o => (f1P.out.alloc o).cell 2 rfl
  have rP3 := fun o => (f1P.out.alloc o).cell 3 rfl
  have rP4 := fun o => (f1P.out.alloc o).cell 4 rfl
  have rP5 := fun o => (f1P.out.alloc o).cell 5 rfl
  go_wp2_with fail
  have BXQ : Bx (v1.alloc (.cells #[.int .u64 1, .string annN, .string xyzN, .bool true, .int .i64 21, .int .i64 1] 30)) v1.heap.size 30 [.int .u64 1, .string annN, .string xyzN, .bool true, .int .i64 21, .int .i64 1] := Bx.new v1 30 [.int .u64 1, .string annN, .string xyzN, .bool true, .int .i64 21, .int .i64 1]
  refine (filled_any 1 annN xyzN true 21 5 4 22 _ (Nat.le_trans szAnnN (by decide)) (Nat.le_trans szXyzN (by decide)) (by decide)).mono ?_
  rintro e v2 ⟨rfl, b⟩
  have bb := ((Bel.refl v1).alloc _).trans b
  rw [aw16d, aw16e, aw16f, show (ordC ordZo).toArray = #[.int .u64 0, .string ⟨#[]⟩, .string ⟨#[]⟩, .bool false, .int .i64 0, .int .i64 0] from rfl]
  generalize v1.heap.size = gQ at BXQ b ⊢
  have f2P := hid_ (f1P.out.bel bb)
  have f2B := hid_ (f1B.out.trans bb)
  have f2Q := hid_ (BXQ.bel b)
  clear b bb f1P f1B qP0 qP1 qP2 qP3 qP4 qP5 rP0 rP1 rP2 rP3 rP4 rP5
  clear BXQ
  have sz := sizeAl v2 (.cells #[.int .u64 0, .string ⟨#[]⟩, .string ⟨#[]⟩, .bool false, .int .i64 0, .int .i64 0] 30)
  have RL := Row.lit (T := accT) (v2.alloc (.cells #[.int .u64 0, .string ⟨#[]⟩, .string ⟨#[]⟩, .bool false, .int .i64 0, .int .i64 0] 30)) [awA16, awW16] (0, 0) (by decide)
  rw [sz] at RL
  have RL : Row accT ((v2.alloc (.cells #[.int .u64 0, .string ⟨#[]⟩, .string ⟨#[]⟩, .bool false, .int .i64 0, .int .i64 0] 30)).alloc (.cells #[.string annN, .string usdN, .int .i64 200, .int .i64 0, .string wldN, .string usdN, .int .i64 (-200), .int .i64 0] 65)) (some ⟨v2.heap.size + 1, 0, none⟩) 2 [awA16, awW16] := RL
  have HRL := hid_ RL
  clear RL sz
  have r0 := fun o o2 => ((f2P.out.alloc o).alloc o2).cell 0 rfl
  have r1 := fun o o2 => ((f2P.out.alloc o).alloc o2).cell 1 rfl
  have r2 := fun o o2 => ((f2P.out.alloc o).alloc o2).cell 2 rfl
  have r3 := fun o o2 => ((f2P.out.alloc o).alloc o2).cell 3 rfl
  have r4 := fun o o2 => ((f2P.out.alloc o).alloc o2).cell 4 rfl
  have r5 := fun o o2 => ((f2P.out.alloc o).alloc o2).cell 5 rfl
  go_wp2_with fail
  clear r0 r1 r2 r3 r4 r5
  refine (place_any (some ⟨v2.heap.size + 1, 0, none⟩) 2 2 [awA16, awW16] 1 annN xyzN true 21 5 _ HRL.out (Nat.le_refl _) srt16a (by decide) szAnnN szXyzN).mono ?_
  rintro e v3 ⟨v, rfl, o, b⟩
  have bb := (((Bel.refl v2).alloc _).alloc _).trans b
  rw [aw16g]
  rw [aw16h] at o
  obtain ⟨A3, c3, rfl, hc3, r3⟩ := o.reads
  have r3 : Row accT v3 A3 2 [awH16, awW16] := r3
  have HC3 := hid_ hc3
  have rL := HRL.out.bel b
  clear HRL o hc3
  have f3P := hid_ (f2P.out.bel bb)
  have f3B := hid_ (f2B.out.trans bb)
  have f3Q := hid_ (f2Q.out.bel bb)
  have f3H := hid_ r3
  have f3L := hid_ rL
  clear b bb f2P f2B f2Q r3 rL
  generalize v2.heap.size + 1 = gL at f3L ⊢
  have qP0 := f3P.out.cell 0 rfl
  have qP1 := f3P.out.cell 1 rfl
  have qP2 := f3P.out.cell 2 rfl
  have qP3 := f3P.out.cell 3 rfl
  have qP4 := f3P.out.cell 4 rfl
  have qP5 := f3P.out.cell 5 rfl
  go_wp2_with fail
  refine (cancel_any A3 2 c3 [awH16, awW16] 1 annN xyzN true 21 5 _ f3H.out HC3.out srt16b (by decide) szAnnN szXyzN).mono ?_
  rintro e v4 ⟨v, rfl, o, b⟩
  have bb := b
  rw [aw16i]
  rw [aw16j] at o
  obtain ⟨A4, c4, rfl, hc4, r4⟩ := o.reads
  have r4 : Row accT v4 A4 2 [awA16, awW16] := r4
  clear o hc4
  have f4P := hid_ (f3P.out.bel bb)
  have f4B := hid_ (f3B.out.trans bb)
  have f4Q := hid_ (f3Q.out.bel bb)
  have f4H := hid_ (f3H.out.bel bb)
  have f4L := hid_ (f3L.out.bel bb)
  have f4C := hid_ r4
  clear b bb f3P f3B f3Q f3H f3L qP0 qP1 qP2 qP3 qP4 qP5 r4
  have RF : Row accT (v4.alloc (.cells #[.string annN, .string usdN, .int .i64 100, .int .i64 0] 65)) (some ⟨v4.heap.size, 0, none⟩) 1 [awF16] := Row.one (T := accT) awF16 rfl rfl
  have HRF := hid_ RF
  clear RF
  have rP0 := fun o => (f4P.out.alloc o).cell 0 rfl
  have rP1 := fun o => (f4P.out.alloc o).cell 1 rfl
  have rP2 := fun o => (f4P.out.alloc o).cell 2 rfl
  have rP3 := fun o => (f4P.out.alloc o).cell 3 rfl
  have rP4 := fun o => (f4P.out.alloc o).cell 4 rfl
  have rP5 := fun o => (f4P.out.alloc o).cell 5 rfl
  go_wp2_with fail
  refine (place_any (some ⟨v4.heap.size, 0, none⟩) 1 1 [awF16] 1 annN xyzN true 21 5 _ HRF.out (Nat.le_refl _) srt16c (by decide) szAnnN szXyzN).mono ?_
  rintro e v5 ⟨v, rfl, o, b⟩
  have bb := ((Bel.refl v4).alloc _).trans b
  rw [aw16k]
  clear HRF o
  have f5P := hid_ (f4P.out.bel bb)
  have f5B := hid_ (f4B.out.trans bb)
  have f5Q := hid_ (f4Q.out.bel bb)
  have f5H := hid_ (f4H.out.bel bb)
  have f5L := hid_ (f4L.out.bel bb)
  have f5C := hid_ (f4C.out.bel bb)
  clear b bb f4P f4B f4Q f4H f4L f4C rP0 rP1 rP2 rP3 rP4 rP5
  have RT : Row trdT (v5.alloc (.cells #[.int .u64 0, .int .u64 0, .int .i64 0, .int .i64 0] 81)) (some ⟨v5.heap.size, 0, none⟩) 1 [⟨0, 0, 0, 0⟩] := Row.one (T := trdT) ⟨0, 0, 0, 0⟩ rfl rfl
  have HRT := hid_ RT
  clear RT
  go_wp2_with fail
  refine (fill_nil (some ⟨gL, 0, none⟩) 2 2 [awA16, awW16] ⟨v5.heap.size, 0, none⟩ 1 0 0 0 0 _ (f5L.out.bel ((Bel.refl v5).alloc _)) (by decide) HRT.out).mono ?_
  rintro e v6 ⟨rfl, b⟩
  have bb := ((Bel.refl v5).alloc _).trans b
  clear HRT
  have f6P := hid_ (f5P.out.bel bb)
  have f6B := hid_ (f5B.out.trans bb)
  have f6Q := hid_ (f5Q.out.bel bb)
  have f6H := hid_ (f5H.out.bel bb)
  have f6L := hid_ (f5L.out.bel bb)
  have f6C := hid_ (f5C.out.bel bb)
  clear b bb f5P f5B f5Q f5H f5L f5C
  obtain ⟨adh, wh, sh, bh, eh, e4, ho, h0, h1, h2, h3⟩ := f6H.out.acc (k := 0) (by decide)
  cases e4
  cases ho
  simp [Addr.add] at h0 h1 h2 h3
  obtain ⟨adc, wc, sc, bc, ec, e4, ho, c0, c1, c2, c3⟩ := f6C.out.acc (k := 0) (by decide)
  cases e4
  cases ho
  simp [Addr.add] at c0 c1 c2 c3
  have qQ0 := f6Q.out.cell 0 rfl
  have qQ1 := f6Q.out.cell 1 rfl
  have qQ2 := f6Q.out.cell 2 rfl
  have qQ3 := f6Q.out.cell 3 rfl
  have qQ4 := f6Q.out.cell 4 rfl
  have qQ5 := f6Q.out.cell 5 rfl
  have HB := hid_ f6B.out
  clear HC3 f6P f6B f6Q f6H f6L f6C
  go_wp2
  go_ret
  exact ⟨rfl, HB.out⟩
end Go.Proofs.Ytlddpkbdmbafbaa
