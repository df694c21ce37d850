/- novate.Dues. -/
import Derived.Test.YtgdonempmblhhaaNv13
set_option linter.unusedSimpArgs false
set_option linter.unusedVariables false
namespace Go.Proofs.Ytgdonempmblhhaa
open Go.RowKit Go.Lib
def duesL (t : Trd) (b s : Ord) : List Due := twoD b.who (headB b.market) (tailB b.market) t.quantity (-(t.price * t.quantity)) ++ twoD s.who (headB b.market) (tailB b.market) (-t.quantity) (t.price * t.quantity)
def duesO (t : Trd) (b s : Ord) : List Due := if fitsP t b s then duesL t b s else []
def duesE (t : Trd) (b s : Ord) : Int := if fitsP t b s then 0 else 150
theorem fitsP_nums {t : Trd} {b s : Ord} (h : fitsP t b s = true) : ∃ p q : Nat, t.price = (p : Int) ∧ t.quantity = (q : Int) ∧ p ≤ 1000000 ∧ q ≤ 1000000 ∧ marketB b.market = true := by
  simp only [fitsP, fit1, checkB, withinB, Bool.and_eq_true, decide_eq_true_eq] at h
  refine ⟨t.price.toNat, t.quantity.toNat, ?_, ?_, ?_, ?_, ?_⟩
  · omega
  · omega
  · omega
  · omega
  · exact h.1.1.1
theorem dues_0 {t : Trd} {b s : Ord} (h : fitsP t b s = false) : duesO t b s = [] ∧ duesE t b s = 150 := by simp [duesO, duesE, h]
theorem dues_1 {t : Trd} {b s : Ord} (h : fitsP t b s = true) : duesO t b s = duesL t b s ∧ duesE t b s = 0 := by simp [duesO, duesE, h]
theorem rowsTwo (W : World) (A B : Option Addr) (n m : Nat) (c d : Nat) (xs ys : List Due) (h1 : Row dueT W A n xs) (h2 : Row dueT W B m ys) : RowsD W [(A, n, c), (B, m, d)] [xs, ys] := by
  refine ⟨rfl, fun k s x hs hx => ?_⟩
  rcases k with _ | _ | k
  · simp at hs hx; subst hs; subst hx; exact h1
  · simp at hs hx; subst hs; subst hx; exact h2
  · simp at hs
theorem litTwo (W w : World) (A B : Option Addr) (n m c d g : Nat) (hg : g = W.heap.size) (hb : Bel (W.alloc (.cells #[.slice A n c, .slice B m d] 31)) w) : Row dvT w (some ⟨g, 0, none⟩) 2 [(A, n, c), (B, m, d)] := by
  subst hg
  exact (Row.lit (T := dvT) W [(A, n, c), (B, m, d)] (0, 0) (by simp)).bel hb
set_option maxRecDepth 10000 in
set_option maxHeartbeats 1000000 in
theorem dues_any (tb ts tq tp b0 : Int) (b1 b2 : ByteArray) (b3 : Bool) (b4 b5 s0 : Int) (s1 s2 : ByteArray) (s3 : Bool) (s4 s5 : Int) (w : World) (hb1 : b1.size ≤ 4294967280) (hb2 : b2.size ≤ 4294967280) (hs1 : s1.size ≤ 4294967280) (hs2 : s2.size ≤ 4294967280) :
    Calls Try.prog 16 #[.agg #[.int .u64 tb, .int .u64 ts, .int .i64 tq, .int .i64 tp], .agg #[.int .u64 b0, .string b1, .string b2, .bool b3, .int .i64 b4, .int .i64 b5], .agg #[.int .u64 s0, .string s1, .string s2, .bool s3, .int .i64 s4, .int .i64 s5]] w fun e w' => ∃ A n c, e = .returned (.tuple #[.slice A n c, .int .i64 (duesE ⟨tb, ts, tq, tp⟩ ⟨b0, b1, b2, b3, b4, b5⟩ ⟨s0, s1, s2, s3, s4, s5⟩)]) ∧ Row dueT w' A n (duesO ⟨tb, ts, tq, tp⟩ ⟨b0, b1, b2, b3, b4, b5⟩ ⟨s0, s1, s2, s3, s4, s5⟩) ∧ Bel w w' := by
  obtain ⟨fo, hfo⟩ : ∃ fo, duesO ⟨tb, ts, tq, tp⟩ ⟨b0, b1, b2, b3, b4, b5⟩ ⟨s0, s1, s2, s3, s4, s5⟩ = fo := ⟨_, rfl⟩
  obtain ⟨fe, hfe⟩ : ∃ fe, duesE ⟨tb, ts, tq, tp⟩ ⟨b0, b1, b2, b3, b4, b5⟩ ⟨s0, s1, s2, s3, s4, s5⟩ = fe := ⟨_, rfl⟩
  rw [hfo, hfe]
  have HFO := hid_ hfo
  have HFE := hid_ hfe
  clear hfo hfe
  have z1 := sizeAl w (.cells #[.int .u64 tb, .int .u64 ts, .int .i64 tq, .int .i64 tp] 25)
  have z2 := sizeAl (w.alloc (.cells #[.int .u64 tb, .int .u64 ts, .int .i64 tq, .int .i64 tp] 25)) (.cells #[.int .u64 b0, .string b1, .string b2, .bool b3, .int .i64 b4, .int .i64 b5] 27)
  rw [z1] at z2
  have kt : Bx (((w.alloc (.cells #[.int .u64 tb, .int .u64 ts, .int .i64 tq, .int .i64 tp] 25)).alloc (.cells #[.int .u64 b0, .string b1, .string b2, .bool b3, .int .i64 b4, .int .i64 b5] 27)).alloc (.cells #[.int .u64 s0, .string s1, .string s2, .bool s3, .int .i64 s4, .int .i64 s5] 27)) w.heap.size 25 [.int .u64 tb, .int .u64 ts, .int .i64 tq, .int .i64 tp] := ((Bx.new w _ _).alloc _).alloc _
  have kb := (Bx.new (w.alloc (.cells #[.int .u64 tb, .int .u64 ts, .int .i64 tq, .int .i64 tp] 25)) 27 [.int .u64 b0, .string b1, .string b2, .bool b3, .int .i64 b4, .int .i64 b5]).alloc (.cells #[.int .u64 s0, .string s1, .string s2, .bool s3, .int .i64 s4, .int .i64 s5] 27)
  rw [z1] at kb
  have ks := Bx.new ((w.alloc (.cells #[.int .u64 tb, .int .u64 ts, .int .i64 tq, .int .i64 tp] 25)).alloc (.cells #[.int .u64 b0, .string b1, .string b2, .bool b3, .int .i64 b4, .int .i64 b5] 27)) 27 [.int .u64 s0, .string s1, .string s2, .bool s3, .int .i64 s4, .int .i64 s5]
  rw [z2] at ks
  have hb : Bel w (((w.alloc (.cells #[.int .u64 tb, .int .u64 ts, .int .i64 tq, .int .i64 tp] 25)).alloc (.cells #[.int .u64 b0, .string b1, .string b2, .bool b3, .int .i64 b4, .int .i64 b5] 27)).alloc (.cells #[.int .u64 s0, .string s1, .string s2, .bool s3, .int .i64 s4, .int .i64 s5] 27)) := (((Bel.refl w).alloc _).alloc _).alloc _
  have KT := hid_ kt
  have KB := hid_ kb
  have KS := hid_ ks
  have HB := hid_ hb
  have SZ : Hid ((b1.size ≤ 4294967280 ∧ b2.size ≤ 4294967280) ∧ (s1.size ≤ 4294967280 ∧ s2.size ≤ 4294967280)) := hid_ ⟨⟨hb1, hb2⟩, ⟨hs1, hs2⟩⟩
  clear z1 z2 kt kb ks hb hb1 hb2 hs1 hs2
  go_enter Try.func16, Try.ntmps16
  go_wp2_with fail
  generalize ((w.alloc (.cells #[.int .u64 tb, .int .u64 ts, .int .i64 tq, .int .i64 tp] 25)).alloc (.cells #[.int .u64 b0, .string b1, .string b2, .bool b3, .int .i64 b4, .int .i64 b5] 27)).alloc (.cells #[.int .u64 s0, .string s1, .string s2, .bool s3, .int .i64 s4, .int .i64 s5] 27) = W3 at KT KB KS HB ⊢
  generalize w.heap.size + 2 = gs at KS ⊢
  generalize w.heap.size + 1 = gb at KB ⊢
  obtain ⟨gt, hgt⟩ : ∃ gt, w.heap.size = gt := ⟨_, rfl⟩
  rw [hgt] at KT
  try rw [hgt]
  clear hgt
  refine (fits_any tb ts tq tp b0 b1 b2 b3 b4 b5 s0 s1 s2 s3 s4 s5 W3 SZ.out.1.1 SZ.out.1.2 SZ.out.2.1 SZ.out.2.2).mono ?_
  rintro e w4 ⟨rfl, b⟩
  obtain ⟨fp, hfp⟩ : ∃ fp, fitsP ⟨tb, ts, tq, tp⟩ ⟨b0, b1, b2, b3, b4, b5⟩ ⟨s0, s1, s2, s3, s4, s5⟩ = fp := ⟨_, rfl⟩
  rw [hfp]
  cases fp
  · have H0 := hid_ (dues_0 hfp)
    have HE := hid_ (HB.out.trans b)
    have HR : Hid (Row dueT w4 none 0 fo) := hid_ (by rw [← HFO.out, H0.out.1]; exact Row.none_ _ _ _)
    have HV : Hid (fe = 150) := hid_ (by rw [← HFE.out, H0.out.2])
    clear HFO HFE KT KB KS HB SZ hfp b H0
    go_wp2
    go_ret2
    exact ⟨_, _, _, by rw [HV.out]; rfl, HR.out, HE.out⟩
  obtain ⟨p, q, hp, hq, hp1, hq1, hm⟩ := fitsP_nums hfp
  simp only at hp hq hm
  subst hp
  subst hq
  have H1 := hid_ (dues_1 hfp)
  have HMK := hid_ (mkt_1 hm)
  have KT4 := hid_ (KT.out.bel b)
  have KB4 := hid_ (KB.out.bel b)
  have KS4 := hid_ (KS.out.bel b)
  have HB4 := hid_ (HB.out.trans b)
  have PQ : Hid (p ≤ 1000000 ∧ q ≤ 1000000) := hid_ ⟨hp1, hq1⟩
  have bw := KB4.out.cell 2 rfl
  clear hfp b KT KB KS HB hm hp1 hq1
  go_wp2_with fail
  refine (market_any b2 w4 SZ.out.1.2).mono ?_
  rintro e w5 ⟨rfl, b⟩
  rw [HMK.out.1, HMK.out.2.1, HMK.out.2.2]
  obtain ⟨ha, hha⟩ : ∃ ha, headB b2 = ha := ⟨_, rfl⟩
  obtain ⟨hc, hhc⟩ : ∃ hc, tailB b2 = hc := ⟨_, rfl⟩
  have HMA : Hid (headB b2 = ha ∧ tailB b2 = hc) := hid_ ⟨hha, hhc⟩
  rw [hha, hhc]
  clear hha hhc
  have b6 : Bel w4 ((w5.alloc (.cells #[.string ha] 9)).alloc (.cells #[.string hc] 9)) := (b.alloc _).alloc _
  have ka : Bx ((w5.alloc (.cells #[.string ha] 9)).alloc (.cells #[.string hc] 9)) w5.heap.size 9 [.string ha] := (Bx.new w5 _ _).alloc _
  have kc := Bx.new (w5.alloc (.cells #[.string ha] 9)) 9 [.string hc]
  rw [sizeAl] at kc
  have KA := hid_ ka
  have KC := hid_ kc
  have B6 := hid_ b6
  have t2 := (KT4.out.bel b6).cell 2 rfl
  have t3 := (KT4.out.bel b6).cell 3 rfl
  clear b b6 ka kc bw
  go_wp2_with fail
  generalize (w5.alloc (.cells #[.string ha] 9)).alloc (.cells #[.string hc] 9) = w6 at KA KC B6 t2 t3 ⊢
  generalize w5.heap.size + 1 = gc at KC ⊢
  generalize w5.heap.size = ga at KA ⊢
  refine (mul_any p q PQ.out.1 PQ.out.2 w6).mono ?_
  rintro e _ ⟨rfl, rfl⟩
  have hpq : p * q ≤ 1000000 * 1000000 := Nat.mul_le_mul PQ.out.1 PQ.out.2
  have hpc : (p : Int) * (q : Int) = ((p * q : Nat) : Int) := by simp
  have HPC := hid_ hpc
  generalize p * q = m at hpq HPC ⊢
  have w1 : IntKind.i64.wrap (-(m : Int)) = -(m : Int) := by rw [IntWalk.i64_left]; exact IntWalk.wrap64_in _ (by omega)
  have w2 : IntKind.i64.wrap (-(q : Int)) = -(q : Int) := by rw [IntWalk.i64_left]; have := PQ.out.2; exact IntWalk.wrap64_in _ (by omega)
  have b1w := (KB4.out.bel B6.out).cell 1 rfl
  have s1w := (KS4.out.bel B6.out).cell 1 rfl
  have ca := KA.out.cell 0 rfl
  have cc := KC.out.cell 0 rfl
  have C0 : Hid (w6.cell? ⟨ga, 0, none⟩ = some (.string ha)) := hid_ ca
  have C1 : Hid (w6.cell? ⟨gc, 0, none⟩ = some (.string hc)) := hid_ cc
  clear ca cc t3 hpq hpc
  go_wp2_with fail
  go_region_held3 (fun W => W.cell? ⟨gt, 2, none⟩ = some (.int .i64 (q : Int)) ∧ W.cell? ⟨gb, 1, none⟩ = some (.string b1) ∧ W.cell? ⟨gs, 1, none⟩ = some (.string s1)) (first | with_reducible exact ⟨b9.cell_ t2, b9.cell_ b1w, b9.cell_ s1w⟩ | with_reducible exact ⟨b8.cell_ t2, b8.cell_ b1w, b8.cell_ s1w⟩ | with_reducible exact ⟨b7.cell_ t2, b7.cell_ b1w, b7.cell_ s1w⟩ | with_reducible exact ⟨t2, b1w, s1w⟩ | (refine ⟨Bel.cell_ (w := w6) ?_ t2, Bel.cell_ (w := w6) ?_ b1w, Bel.cell_ (w := w6) ?_ s1w⟩ <;> (repeat first | with_reducible exact Bel.refl _ | with_reducible exact b7 | with_reducible exact b8 | apply Bel.drew | apply Bel.alloc) <;> done))
    (first
    | (go_at_call 38; with_reducible refine' Calls.mono (dues1_any b1 ha hc (q : Int) (-(m : Int)) ga gc _ (Bel.cell_ (w := w6) (by (repeat first | with_reducible exact Bel.refl _ | apply Bel.drew)) C0.out) (Bel.cell_ (w := w6) (by (repeat first | with_reducible exact Bel.refl _ | apply Bel.drew)) C1.out)) ?_; rintro e w7 ⟨A1, rfl, r1, b⟩; have b7 : Bel w6 w7 := Bel.trans (by (repeat first | with_reducible exact Bel.refl _ | apply Bel.drew)) b)
    | (go_at_call 38; with_reducible refine' Calls.mono (dues1_any s1 ha hc (-(q : Int)) (m : Int) ga gc _ (Bel.cell_ (w := w6) (by (repeat first | with_reducible exact b7 | apply Bel.drew)) C0.out) (Bel.cell_ (w := w6) (by (repeat first | with_reducible exact b7 | apply Bel.drew)) C1.out)) ?_; rintro e w8 ⟨A2, rfl, r2, bb⟩; have b78 : Bel w7 w8 := Bel.trans (by (repeat first | with_reducible exact Bel.refl _ | apply Bel.drew)) bb; have b8 : Bel w6 w8 := b7.trans b78)
    | (go_at_call 39; with_reducible refine' Calls.mono (joined_any _ 2 2 [(A1, 2, 2), (A2, 2, 2)] [twoD b1 ha hc (q : Int) (-(m : Int)), twoD s1 ha hc (-(q : Int)) (m : Int)] _ (litTwo w8 _ A1 A2 2 2 2 2 _ rfl (by (repeat first | with_reducible exact Bel.refl _ | apply Bel.drew))) (rowsTwo _ A1 A2 2 2 2 2 _ _ (r1.bel (Bel.trans b78 (by (repeat first | with_reducible exact Bel.refl _ | apply Bel.drew | apply Bel.alloc)))) (r2.bel (by (repeat first | with_reducible exact Bel.refl _ | apply Bel.drew | apply Bel.alloc)))) (by simp [twoD])) ?_; rintro e w9 ⟨vv, rfl, oo, bb⟩; have b9 : Bel w6 w9 := Bel.trans (by (repeat first | with_reducible exact b8 | apply Bel.drew | apply Bel.alloc)) bb))
  obtain ⟨A9, c9, hv9, _, r9⟩ := oo.reads
  subst hv9
  have hfl : [twoD b1 ha hc (q : Int) (-(m : Int)), twoD s1 ha hc (-(q : Int)) (m : Int)].flatten = fo := by
    rw [← HFO.out, H1.out.1]
    show _ = twoD b1 (headB b2) (tailB b2) (q : Int) (-((p : Int) * (q : Int))) ++ twoD s1 (headB b2) (tailB b2) (-(q : Int)) ((p : Int) * (q : Int))
    rw [HMA.out.1, HMA.out.2, HPC.out]
    simp
  rw [hfl] at r9
  have hn9 : fo.length = 4 := by rw [← hfl]; rfl
  rw [hn9] at r9
  have HR := hid_ r9
  have HV : Hid (fe = 0) := hid_ (by rw [← HFE.out, H1.out.2])
  have HE := hid_ (HB4.out.trans (B6.out.trans b9))
  clear r9 hn9 oo HFO HFE H1 KT4 KB4 KS4 HB4 PQ HMK HMA KA KC B6 t2 b1w s1w C0 C1 w1 w2 r1 r2 b7 b8 b9 b b78 hfl
  try clear bb
  go_wp2
  go_ret2
  exact ⟨A9, 4, c9, by rw [HV.out]; rfl, HR.out, HE.out⟩
end Go.Proofs.Ytgdonempmblhhaa
