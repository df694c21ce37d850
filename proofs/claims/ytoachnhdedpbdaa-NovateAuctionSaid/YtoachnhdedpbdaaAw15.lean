/- The head of layer 15's statements: awake. -/
import Derived.Test.YtoachnhdedpbdaaNv22
import Derived.Test.YtoachnhdedpbdaaEqDue
import Derived.Test.YtoachnhdedpbdaaNv16
import Derived.Test.YtoachnhdedpbdaaBx2
set_option linter.unusedSimpArgs false
set_option linter.unusedVariables false
namespace Go.Proofs.Ytoachnhdedpbdaa
open Go.RowKit Go.Lib
abbrev annS : ByteArray := ⟨#[97, 110, 110]⟩
abbrev bobS : ByteArray := ⟨#[98, 111, 98]⟩
abbrev xyzMS : ByteArray := ⟨#[88, 89, 90, 45, 85, 83, 68]⟩
abbrev xyzS : ByteArray := ⟨#[88, 89, 90]⟩
abbrev usdS : ByteArray := ⟨#[85, 83, 68]⟩
abbrev awB15 : Ord := ⟨1, annS, xyzMS, true, 21, 5⟩
abbrev awS15 : Ord := ⟨2, bobS, xyzMS, false, 19, 5⟩
theorem aw15a : duesE ⟨1, 2, 4, 20⟩ awB15 awS15 = 0 := by decide +kernel
theorem aw15b : duesO ⟨1, 2, 4, 20⟩ awB15 awS15 = [⟨annS, xyzS, 4⟩, ⟨annS, usdS, -80⟩, ⟨bobS, xyzS, -4⟩, ⟨bobS, usdS, 80⟩] := by kernel_rfl
theorem aw15c : duesE ⟨1, 2, 4, 22⟩ awB15 awS15 = 150 := by decide +kernel
theorem aw15d : allE [⟨1, 2, 4, 20⟩] [awB15, awS15] = 0 := by kernel_rfl
theorem aw15e : allO [⟨1, 2, 4, 20⟩] [awB15, awS15] = [⟨annS, xyzS, 4⟩, ⟨annS, usdS, -80⟩, ⟨bobS, xyzS, -4⟩, ⟨bobS, usdS, 80⟩] := by kernel_rfl
theorem aw15f : dueEq ⟨annS, xyzS, 4⟩ ⟨annS, xyzS, 4⟩ = true := by decide +kernel
theorem aw15g : dueEq ⟨bobS, usdS, 80⟩ ⟨bobS, usdS, 80⟩ = true := by decide +kernel
theorem szAnn : annS.size ≤ 4294967280 := by decide
theorem szBob : bobS.size ≤ 4294967280 := by decide
theorem szXyz : xyzMS.size ≤ 4294967280 := by decide
theorem awSized : sized [awB15, awS15] := by
  intro k o h
  have : o ∈ [awB15, awS15] := List.mem_of_getElem? h
  simp only [List.mem_cons, List.not_mem_nil, or_false] at this
  rcases this with rfl | rfl
  · exact ⟨szAnn, szXyz⟩
  · exact ⟨szBob, szXyz⟩
set_option maxRecDepth 10000 in
set_option maxHeartbeats 4000000 in
theorem awake15 (w : World) : Calls Try.prog 6 #[] w fun e w' => e = .returned (.bool true) ∧ Bel w w' := by
  have z1 := sizeAl w (.cells #[.int .u64 1, .string annS, .string xyzMS, .bool true, .int .i64 21, .int .i64 5] 30)
  have z2 := sizeAl (w.alloc (.cells #[.int .u64 1, .string annS, .string xyzMS, .bool true, .int .i64 21, .int .i64 5] 30)) (.cells #[.int .u64 2, .string bobS, .string xyzMS, .bool false, .int .i64 19, .int .i64 5] 30)
  rw [z1] at z2
  have kb : Bx (((w.alloc (.cells #[.int .u64 1, .string annS, .string xyzMS, .bool true, .int .i64 21, .int .i64 5] 30)).alloc (.cells #[.int .u64 2, .string bobS, .string xyzMS, .bool false, .int .i64 19, .int .i64 5] 30)).alloc (.cells #[.int .u64 1, .int .u64 2, .int .i64 4, .int .i64 20] 65)) w.heap.size 30 [.int .u64 1, .string annS, .string xyzMS, .bool true, .int .i64 21, .int .i64 5] := ((Bx.new w _ _).alloc _).alloc _
  have ks := (Bx.new (w.alloc (.cells #[.int .u64 1, .string annS, .string xyzMS, .bool true, .int .i64 21, .int .i64 5] 30)) 30 [.int .u64 2, .string bobS, .string xyzMS, .bool false, .int .i64 19, .int .i64 5]).alloc (.cells #[.int .u64 1, .int .u64 2, .int .i64 4, .int .i64 20] 65)
  rw [z1] at ks
  have kt := Bx.new ((w.alloc (.cells #[.int .u64 1, .string annS, .string xyzMS, .bool true, .int .i64 21, .int .i64 5] 30)).alloc (.cells #[.int .u64 2, .string bobS, .string xyzMS, .bool false, .int .i64 19, .int .i64 5] 30)) 65 [.int .u64 1, .int .u64 2, .int .i64 4, .int .i64 20]
  rw [z2] at kt
  have hb : Bel w (((w.alloc (.cells #[.int .u64 1, .string annS, .string xyzMS, .bool true, .int .i64 21, .int .i64 5] 30)).alloc (.cells #[.int .u64 2, .string bobS, .string xyzMS, .bool false, .int .i64 19, .int .i64 5] 30)).alloc (.cells #[.int .u64 1, .int .u64 2, .int .i64 4, .int .i64 20] 65)) := (((Bel.refl w).alloc _).alloc _).alloc _
  have KB := hid_ kb
  have KS := hid_ ks
  have KT := hid_ kt
  have HB := hid_ hb
  clear z1 z2 kb ks kt hb
  go_enter Try.func6, Try.ntmps6
  go_wp2_with fail
  generalize ((w.alloc (.cells #[.int .u64 1, .string annS, .string xyzMS, .bool true, .int .i64 21, .int .i64 5] 30)).alloc (.cells #[.int .u64 2, .string bobS, .string xyzMS, .bool false, .int .i64 19, .int .i64 5] 30)).alloc (.cells #[.int .u64 1, .int .u64 2, .int .i64 4, .int .i64 20] 65) = W3 at KB KS KT HB ⊢
  refine (dues_any 1 2 4 20 1 annS xyzMS true 21 5 2 bobS xyzMS false 19 5 W3 szAnn szXyz szBob szXyz).mono ?_
  rintro e w4 ⟨A4, n4, c4, rfl, r4, b⟩
  rw [aw15a]
  rw [aw15b] at r4
  obtain rfl : n4 = 4 := r4.1.symm
  have KB4 := hid_ (KB.out.bel b)
  have KS4 := hid_ (KS.out.bel b)
  have KT4 := hid_ (KT.out.bel b)
  have HB4 := hid_ (HB.out.trans b)
  have R4 := hid_ r4
  have t0 := KT4.out.cell 0 rfl
  have t1 := KT4.out.cell 1 rfl
  have t2 := KT4.out.cell 2 rfl
  have t3 := KT4.out.cell 3 rfl
  have b0 := KB4.out.cell 0 rfl
  have b1 := KB4.out.cell 1 rfl
  have b2 := KB4.out.cell 2 rfl
  have b3 := KB4.out.cell 3 rfl
  have b4 := KB4.out.cell 4 rfl
  have b5 := KB4.out.cell 5 rfl
  have s0 := KS4.out.cell 0 rfl
  have s1 := KS4.out.cell 1 rfl
  have s2 := KS4.out.cell 2 rfl
  have s3 := KS4.out.cell 3 rfl
  have s4 := KS4.out.cell 4 rfl
  have s5 := KS4.out.cell 5 rfl
  have ft := KT4.out.frozen 3
  clear b r4 KB KS KT HB
  go_wp2_with fail
  have gne : w.heap.size + 1 + 1 ≠ w.heap.size ∧ w.heap.size + 1 + 1 ≠ w.heap.size + 1 := by omega
  have KB5 := hid_ (KB4.out.far (g' := w.heap.size + 1 + 1) (j := 3) gne.1.symm (.int .i64 22))
  have KS5 := hid_ (KS4.out.far (g' := w.heap.size + 1 + 1) (j := 3) gne.2.symm (.int .i64 22))
  have KT5 := hid_ (KT4.out.set 3 (.int .i64 22))
  have HB5 : Hid (Bel w (w4.setCell ⟨w.heap.size + 1 + 1, 3, none⟩ (.int .i64 22))) := hid_ (HB4.out.setBx (by omega) _)
  have R5 := hid_ (R4.out.setFar' (j := 3) (.int .i64 22) (R4.out.notBx KT4.out (by
    intro x hx u hu hm
    simp [dueT, dueC] at hu hm
    subst hu
    simp at hm)))
  clear t0 t1 t2 t3 b0 b1 b2 b3 b4 b5 s0 s1 s2 s3 s4 s5 ft KB4 KS4 KT4 HB4 R4
  generalize w4.setCell ⟨w.heap.size + 1 + 1, 3, none⟩ (.int .i64 22) = w5 at KB5 KS5 KT5 HB5 R5 ⊢
  refine (dues_any 1 2 4 22 1 annS xyzMS true 21 5 2 bobS xyzMS false 19 5 w5 szAnn szXyz szBob szXyz).mono ?_
  rintro e w6 ⟨A6, n6, c6, rfl, _, b⟩
  rw [aw15c]
  have KB6 := hid_ (KB5.out.bel b)
  have KS6 := hid_ (KS5.out.bel b)
  have KT6 := hid_ (KT5.out.bel b)
  have HB6 := hid_ (HB5.out.trans b)
  have R6 := hid_ (R5.out.bel b)
  have ft := KT6.out.frozen 3
  have t3 := KT6.out.cell 3 rfl
  clear b KB5 KS5 KT5 HB5 R5
  go_upto_region 8 with (fail)
  have KB7 := hid_ (KB6.out.far (g' := w.heap.size + 1 + 1) (j := 3) gne.1.symm (.int .i64 20))
  have KS7 := hid_ (KS6.out.far (g' := w.heap.size + 1 + 1) (j := 3) gne.2.symm (.int .i64 20))
  have KT7 := hid_ (KT6.out.set 3 (.int .i64 20))
  have HB7 : Hid (Bel w (w6.setCell ⟨w.heap.size + 1 + 1, 3, none⟩ (.int .i64 20))) := hid_ (HB6.out.setBx (by omega) _)
  have R7 := hid_ (R6.out.setFar' (j := 3) (.int .i64 20) (R6.out.notBx KT6.out (by
    intro x hx u hu hm
    simp [dueT, dueC] at hu hm
    subst hu
    simp at hm)))
  clear ft t3 KB6 KS6 KT6 HB6 R6
  generalize w6.setCell ⟨w.heap.size + 1 + 1, 3, none⟩ (.int .i64 20) = w7 at KB7 KS7 KT7 HB7 R7 ⊢
  have t0 := KT7.out.cell 0 rfl
  have t1 := KT7.out.cell 1 rfl
  have t2 := KT7.out.cell 2 rfl
  have t3 := KT7.out.cell 3 rfl
  have b0 := fun o => (KB7.out.alloc o).cell 0 rfl
  have b1 := fun o => (KB7.out.alloc o).cell 1 rfl
  have b2 := fun o => (KB7.out.alloc o).cell 2 rfl
  have b3 := fun o => (KB7.out.alloc o).cell 3 rfl
  have b4 := fun o => (KB7.out.alloc o).cell 4 rfl
  have b5 := fun o => (KB7.out.alloc o).cell 5 rfl
  have s0 := fun o => (KS7.out.alloc o).cell 0 rfl
  have s1 := fun o => (KS7.out.alloc o).cell 1 rfl
  have s2 := fun o => (KS7.out.alloc o).cell 2 rfl
  have s3 := fun o => (KS7.out.alloc o).cell 3 rfl
  have s4 := fun o => (KS7.out.alloc o).cell 4 rfl
  have s5 := fun o => (KS7.out.alloc o).cell 5 rfl
  go_wp2_with fail
  have rt := Row.lit (T := trdT) w7 [⟨1, 2, 4, 20⟩] (0, 0) (by decide)
  have ro := Row.lit (T := ordT) (w7.alloc (.cells #[.int .u64 1, .int .u64 2, .int .i64 4, .int .i64 20] 65)) [awB15, awS15] (0, 0) (by decide)
  rw [sizeAl] at ro
  have rt' : Row trdT ((w7.alloc (.cells #[.int .u64 1, .int .u64 2, .int .i64 4, .int .i64 20] 65)).alloc (.cells #[.int .u64 1, .string annS, .string xyzMS, .bool true, .int .i64 21, .int .i64 5, .int .u64 2, .string bobS, .string xyzMS, .bool false, .int .i64 19, .int .i64 5] 30)) (some ⟨w7.heap.size, 0, none⟩) 1 [⟨1, 2, 4, 20⟩] := rt.bel ((Bel.refl _).alloc _)
  have bb : Bel w7 ((w7.alloc (.cells #[.int .u64 1, .int .u64 2, .int .i64 4, .int .i64 20] 65)).alloc (.cells #[.int .u64 1, .string annS, .string xyzMS, .bool true, .int .i64 21, .int .i64 5, .int .u64 2, .string bobS, .string xyzMS, .bool false, .int .i64 19, .int .i64 5] 30)) := ((Bel.refl _).alloc _).alloc _
  refine (all_any _ 1 1 [⟨1, 2, 4, 20⟩] _ 2 2 [awB15, awS15] _ rt' ro (by omega) awSized).mono ?_
  rintro e w8 ⟨C, n8, c8, rfl, r8, b⟩
  rw [aw15d]
  rw [aw15e] at r8
  obtain rfl : n8 = 4 := r8.1.symm
  have HB8 := hid_ (HB7.out.trans (bb.trans b))
  obtain ⟨ad, x0, x1, x2, e4, ho, d0, d1, d2⟩ := (R7.out.bel (bb.trans b)).due (k := 0) (by decide)
  cases e4
  cases ho
  obtain ⟨ad', y0, y1, y2, e4, ho, f0, f1, f2⟩ := (R7.out.bel (bb.trans b)).due (k := 3) (by decide)
  cases e4
  cases ho
  obtain ⟨ad', v0, v1, v2, e4, ho, g0, g1, g2⟩ := r8.due (k := 1) (by decide)
  cases e4
  cases ho
  have e1 := eqlDue annS xyzS 4 annS xyzS 4
  have e2 := eqlDue bobS usdS 80 bobS usdS 80
  rw [aw15f] at e1
  rw [aw15g] at e2
  simp [Addr.add] at d0 d1 d2 f0 f1 f2 g0 g1 g2
  clear t0 t1 t2 t3 b0 b1 b2 b3 b4 b5 s0 s1 s2 s3 s4 s5 KB7 KS7 KT7 HB7 R7 r8 b bb rt rt' ro
  go_wp2
  go_ret
  exact ⟨rfl, HB8.out⟩
end Go.Proofs.Ytoachnhdedpbdaa
