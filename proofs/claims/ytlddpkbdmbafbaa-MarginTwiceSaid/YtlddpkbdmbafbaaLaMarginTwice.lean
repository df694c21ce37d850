/- MarginTwice, walked. -/
import Derived.Test.YtlddpkbdmbafbaaAw16
import Derived.Test.YtlddpkbdmbafbaaSameOrd
import Derived.Test.YtlddpkbdmbafbaaOpOrd
set_option linter.unusedSimpArgs false
set_option linter.unusedVariables false
namespace Go.Proofs.Ytlddpkbdmbafbaa
open Go.RowKit Go.Lib
theorem marginTwice {o0 : Int} {o1 o2 : ByteArray} {o3 : Bool} {o4 o5 a b p L : Int} (h : chk ⟨o0, o1, o2, o3, o4, o5⟩ = true) (ha : fldB ⟨o0, o1, o2, o3, o4, o5⟩ a p = true) (hb : 1 ≤ b) (hL : o5 - a = L) (h0 : L ≠ 0) :
    chk ⟨o0, o1, o2, o3, o4, L⟩ = true ∧ fldB ⟨o0, o1, o2, o3, o4, L⟩ b p = fldB ⟨o0, o1, o2, o3, o4, o5⟩ (a + b) p := by
  have h' := h
  simp only [chk, checkB, withinB, Bool.and_eq_true, decide_eq_true_eq] at h'
  simp only [fldB, betterM, Bool.and_eq_true, decide_eq_true_eq] at ha
  obtain ⟨b1, b2, b3, b4⟩ := ha
  refine ⟨?_, ?_⟩
  · simp only [chk, checkB, withinB, Bool.and_eq_true, decide_eq_true_eq] at h' ⊢
    simp_all
    omega
  · unfold fldB
    rw [Bool.eq_iff_iff]
    simp only [betterM, Bool.and_eq_true, decide_eq_true_eq]
    constructor
    · rintro ⟨x1, x2, x3, x4⟩
      exact ⟨by omega, by omega, x3, x4⟩
    · rintro ⟨x1, x2, x3, x4⟩
      exact ⟨by omega, by omega, x3, x4⟩
theorem fldF_le {o : Ord} {q p : Int} (h : fldOk o q p = true) : 0 ≤ fldF o q p ∧ fldF o q p ≤ 1000000000000 := by
  unfold fldF
  split
  case isFalse => omega
  case isTrue hh =>
  simp only [fldOk, Bool.and_eq_true] at h
  obtain ⟨a, c, ha, hc, a1, a2, c1, c2, _⟩ := chk_nums h.1
  have hb := h.2
  simp only [fldB, betterM, hh.2, if_true, Bool.and_eq_true, decide_eq_true_eq] at hb
  obtain ⟨b1, b2, b3, b4⟩ := hb
  obtain ⟨k, rfl⟩ : ∃ k : Nat, q = (k : Int) := ⟨q.toNat, by omega⟩
  obtain ⟨m, rfl⟩ : ∃ m : Nat, p = (m : Int) := ⟨p.toNat, by omega⟩
  have e2 : o.price - (m : Int) = ((a - m : Nat) : Int) := by omega
  have x1 : (a - m) * k ≤ 1000000 * 1000000 := Nat.mul_le_mul (by omega) (by omega)
  rw [e2, ← Int.natCast_mul]
  omega
theorem fldF_add {o0 : Int} {o1 o2 : ByteArray} {o3 : Bool} {o4 o5 a b p L : Int} (h1 : fldOk ⟨o0, o1, o2, o3, o4, o5⟩ a p = true) (h2 : fldOk ⟨o0, o1, o2, o3, o4, L⟩ b p = true) (h3 : fldOk ⟨o0, o1, o2, o3, o4, o5⟩ (a + b) p = true) :
    fldF ⟨o0, o1, o2, o3, o4, o5⟩ a p + fldF ⟨o0, o1, o2, o3, o4, L⟩ b p = fldF ⟨o0, o1, o2, o3, o4, o5⟩ (a + b) p := by
  unfold fldF
  rw [h1, h2, h3]
  cases o3
  · simp
  · simp only [and_self, if_true]
    rw [← Int.mul_add]
set_option maxRecDepth 10000 in
set_option maxHeartbeats 4000000 in
theorem walkMarginTwice (w : World) (o : Ord) (wo : ordWf o) (a : Int) (wa : (Lit.int .i64 a).wf = true) (bb0 : Int) (wb : (Lit.int .i64 bb0).wf = true) (p : Int) (wp : (Lit.int .i64 p).wf = true) : Calls Try.prog 6 #[.agg (ordC o).toArray, .int .i64 a, .int .i64 bb0, .int .i64 p] w fun e w' => e = .returned (.bool true) ∧ Bel w w' := by
  obtain ⟨o0, o1, o2, o3, o4, o5⟩ := o
  simp only [ordC]
  have HPB : Hid (p ≤ 9223372036854775807) := hid_ (by have h1 := wp; simp [Lit.wf, IntKind.min, IntKind.max, IntKind.signed, IntKind.bits] at h1; omega)
  have k0 := Bx.new w 30 [.int .u64 o0, .string o1, .string o2, .bool o3, .int .i64 o4, .int .i64 o5]
  have k0 : Bx (w.alloc (.cells #[.int .u64 o0, .string o1, .string o2, .bool o3, .int .i64 o4, .int .i64 o5] 30)) (w.heap.size) 30 [.int .u64 o0, .string o1, .string o2, .bool o3, .int .i64 o4, .int .i64 o5] := k0
  have kB : Bel w (w.alloc (.cells #[.int .u64 o0, .string o1, .string o2, .bool o3, .int .i64 o4, .int .i64 o5] 30)) := (Bel.refl w).alloc _
  have FO := hid_ k0
  have FB := hid_ kB
  clear k0 kB
  go_enter Try.func6, Try.ntmps6
  go_wp2_with fail
  generalize (w.alloc (.cells #[.int .u64 o0, .string o1, .string o2, .bool o3, .int .i64 o4, .int .i64 o5] 30)) = W0 at FO FB ⊢
  obtain ⟨gO, hgO⟩ : ∃ g, w.heap.size = g := ⟨_, rfl⟩
  rw [hgO] at FO
  try rw [hgO]
  clear hgO
  refine (awake16 _).mono ?_
  rintro e v1 ⟨rfl, b⟩
  have bb := b
  have f1O := hid_ (FO.out.bel bb)
  have f1B := hid_ (FB.out.trans bb)
  clear b bb FO FB
  have qO0 := f1O.out.cell 0 rfl
  have qO1 := f1O.out.cell 1 rfl
  have qO2 := f1O.out.cell 2 rfl
  have qO3 := f1O.out.cell 3 rfl
  have qO4 := f1O.out.cell 4 rfl
  have qO5 := f1O.out.cell 5 rfl
  by_cases h2 : 100 < o1.size
  · have i2 : (100 : Int) < (o1.size : Int) := by omega
    go_wp2
    go_ret
    exact ⟨rfl, f1B.out⟩
  have d2 : decide ((100 : Int) < (o1.size : Int)) = false := by simp; omega
  by_cases h3 : 100 < o2.size
  · have i3 : (100 : Int) < (o2.size : Int) := by omega
    go_wp2
    go_ret
    exact ⟨rfl, f1B.out⟩
  have d3 : decide ((100 : Int) < (o2.size : Int)) = false := by simp; omega
  have SZ : Hid (o1.size ≤ 4294967280 ∧ o2.size ≤ 4294967280) := hid_ ⟨by omega, by omega⟩
  clear h2 h3
  by_cases h4 : a < 1
  · skip
    go_wp2
    go_ret
    exact ⟨rfl, f1B.out⟩
  have d4 : decide (a < 1) = false := decide_eq_false h4
  by_cases h5 : bb0 < 1
  · skip
    go_wp2
    go_ret
    exact ⟨rfl, f1B.out⟩
  have d5 : decide (bb0 < 1) = false := decide_eq_false h5
  by_cases h6 : 1000000 < a
  · skip
    go_wp2
    go_ret
    exact ⟨rfl, f1B.out⟩
  have d6 : decide (1000000 < a) = false := decide_eq_false h6
  by_cases h7 : 1000000 < bb0
  · skip
    go_wp2
    go_ret
    exact ⟨rfl, f1B.out⟩
  have d7 : decide (1000000 < bb0) = false := decide_eq_false h7
  have HAB : Hid (1 ≤ a ∧ a ≤ 1000000 ∧ 1 ≤ bb0 ∧ bb0 ≤ 1000000) := hid_ (by omega)
  clear h4 h5 h6 h7
  go_wp2_with fail
  refine (filled_any o0 o1 o2 o3 o4 o5 a p _ (Nat.le_trans SZ.out.1 (by decide)) (Nat.le_trans SZ.out.2 (by decide)) HPB.out).mono ?_
  rintro e v2 ⟨rfl, b⟩
  have bb := b
  have f2O := hid_ (f1O.out.bel bb)
  have f2B := hid_ (f1B.out.trans bb)
  clear b bb f1O f1B qO0 qO1 qO2 qO3 qO4 qO5
  clear d2 d3 d4 d5 d6 d7
  obtain ⟨cb, hcb⟩ : ∃ cb, chk ⟨o0, o1, o2, o3, o4, o5⟩ = cb := ⟨_, rfl⟩
  obtain ⟨fb, hfb⟩ : ∃ fb, fldB ⟨o0, o1, o2, o3, o4, o5⟩ a p = fb := ⟨_, rfl⟩
  generalize hF1 : fldF ⟨o0, o1, o2, o3, o4, o5⟩ a p = F1
  by_cases hok : ¬ (cb = true ∧ fb = true)
  · have eF : fldO ⟨o0, o1, o2, o3, o4, o5⟩ a p = ordZo ∧ (fldE ⟨o0, o1, o2, o3, o4, o5⟩ a p = 130 ∨ fldE ⟨o0, o1, o2, o3, o4, o5⟩ a p = 160) := by
      cases cb
      · exact ⟨(fld_0 hcb).2.2, .inl (fld_0 hcb).1⟩
      · cases fb
        · exact ⟨(fld_1 hcb hfb).2.2, .inr (fld_1 hcb hfb).1⟩
        · exact absurd ⟨rfl, rfl⟩ hok
    rw [eF.1, show (ordC ordZo).toArray = #[.int .u64 0, .string ⟨#[]⟩, .string ⟨#[]⟩, .bool false, .int .i64 0, .int .i64 0] from rfl]
    have hE := eF.2
    clear eF hok hcb hfb hF1
    rcases hE with hE | hE
    · rw [hE]
      clear hE
      go_wp2
      go_ret
      exact ⟨rfl, f2B.out.alloc _⟩
    · rw [hE]
      clear hE
      go_wp2
      go_ret
      exact ⟨rfl, f2B.out.alloc _⟩
  obtain ⟨rfl, rfl⟩ := Classical.not_not.1 hok
  have e3 := fld_2 hcb hfb
  rw [e3.1, e3.2.2]
  simp only [ordC]
  obtain ⟨L, hL⟩ : ∃ L, o5 - a = L := ⟨_, rfl⟩
  rw [hL]
  have HC := hid_ (And.intro hcb (And.intro hfb hL))
  have HF1 := hid_ hF1
  clear hok hcb hfb hL e3 hF1
  have BXX : Bx (v2.alloc (.cells #[.int .u64 o0, .string o1, .string o2, .bool o3, .int .i64 o4, .int .i64 L] 30)) v2.heap.size 30 [.int .u64 o0, .string o1, .string o2, .bool o3, .int .i64 o4, .int .i64 L] := Bx.new v2 30 _
  have HX := hid_ BXX
  have HO := hid_ (f2O.out.alloc (.cells #[.int .u64 o0, .string o1, .string o2, .bool o3, .int .i64 o4, .int .i64 L] 30))
  have x0 := HX.out.cell 0 rfl
  have x1 := HX.out.cell 1 rfl
  have x2 := HX.out.cell 2 rfl
  have x3 := HX.out.cell 3 rfl
  have x4 := HX.out.cell 4 rfl
  have x5 := HX.out.cell 5 rfl
  clear BXX
  by_cases h0 : L = 0
  · subst h0
    go_wp2
    go_ret
    exact ⟨rfl, f2B.out.alloc _⟩
  have i0 : (L == 0) = false := by simp [h0]
  have HM := hid_ (marginTwice HC.out.1 HC.out.2.1 HAB.out.2.2.1 HC.out.2.2 h0)
  clear h0
  go_wp2_with fail
  clear x0 x1 x2 x3 x4 x5 i0
  refine (filled_any o0 o1 o2 o3 o4 L bb0 p _ (Nat.le_trans SZ.out.1 (by decide)) (Nat.le_trans SZ.out.2 (by decide)) HPB.out).mono ?_
  rintro e v3 ⟨rfl, b⟩
  have bb := ((Bel.refl v2).alloc _).trans b
  clear HX HO
  have f3O := hid_ (f2O.out.bel bb)
  have f3B := hid_ (f2B.out.trans bb)
  clear b bb f2O f2B
  have s1 : wrap64 (a + bb0) = a + bb0 := by have := HAB.out; unfold wrap64; omega
  obtain ⟨gb, hgb⟩ : ∃ gb, fldB ⟨o0, o1, o2, o3, o4, o5⟩ (a + bb0) p = gb := ⟨_, rfl⟩
  have HG := hid_ hgb
  have HG2 := hid_ (HM.out.2.trans hgb)
  clear hgb
  generalize hF2 : fldF ⟨o0, o1, o2, o3, o4, L⟩ bb0 p = F2
  have HF2 := hid_ hF2
  clear hF2
  cases gb
  · rw [(fld_1 HM.out.1 HG2.out).1, (fld_1 HM.out.1 HG2.out).2.2, show (ordC ordZo).toArray = #[.int .u64 0, .string ⟨#[]⟩, .string ⟨#[]⟩, .bool false, .int .i64 0, .int .i64 0] from rfl]
    have BY : Bx (v3.alloc (.cells #[.int .u64 0, .string ⟨#[]⟩, .string ⟨#[]⟩, .bool false, .int .i64 0, .int .i64 0] 30)) v3.heap.size 30 [.int .u64 0, .string ⟨#[]⟩, .string ⟨#[]⟩, .bool false, .int .i64 0, .int .i64 0] := Bx.new v3 30 _
    have HY := hid_ BY
    clear BY
    have qO0 := f3O.out.cell 0 rfl
    have qO1 := f3O.out.cell 1 rfl
    have qO2 := f3O.out.cell 2 rfl
    have qO3 := f3O.out.cell 3 rfl
    have qO4 := f3O.out.cell 4 rfl
    have qO5 := f3O.out.cell 5 rfl
    have rO0 := fun o => (f3O.out.alloc o).cell 0 rfl
    have rO1 := fun o => (f3O.out.alloc o).cell 1 rfl
    have rO2 := fun o => (f3O.out.alloc o).cell 2 rfl
    have rO3 := fun o => (f3O.out.alloc o).cell 3 rfl
    have rO4 := fun o => (f3O.out.alloc o).cell 4 rfl
    have rO5 := fun o => (f3O.out.alloc o).cell 5 rfl
    go_wp2_with fail
    refine (filled_any o0 o1 o2 o3 o4 o5 (a + bb0) p _ (Nat.le_trans SZ.out.1 (by decide)) (Nat.le_trans SZ.out.2 (by decide)) HPB.out).mono ?_
    rintro e v4 ⟨rfl, b⟩
    have bb := ((Bel.refl v3).alloc _).trans b
    have kY := HY.out.bel b
    clear HY
    have f4O := hid_ (f3O.out.bel bb)
    have f4B := hid_ (f3B.out.trans bb)
    have f4Y := hid_ kY
    clear b bb f3O f3B qO0 qO1 qO2 qO3 qO4 qO5 rO0 rO1 rO2 rO3 rO4 rO5 kY
    generalize v3.heap.size = gY at f4Y ⊢
    generalize hF3 : fldF ⟨o0, o1, o2, o3, o4, o5⟩ (a + bb0) p = F3
    have HF3 := hid_ hF3
    clear hF3
    rw [(fld_1 HC.out.1 HG.out).1, (fld_1 HC.out.1 HG.out).2.2, show (ordC ordZo).toArray = #[.int .u64 0, .string ⟨#[]⟩, .string ⟨#[]⟩, .bool false, .int .i64 0, .int .i64 0] from rfl]
    have BZ : Bx (v4.alloc (.cells #[.int .u64 0, .string ⟨#[]⟩, .string ⟨#[]⟩, .bool false, .int .i64 0, .int .i64 0] 30)) v4.heap.size 30 [.int .u64 0, .string ⟨#[]⟩, .string ⟨#[]⟩, .bool false, .int .i64 0, .int .i64 0] := Bx.new v4 30 _
    have z0 := BZ.cell 0 rfl
    have z1 := BZ.cell 1 rfl
    have z2 := BZ.cell 2 rfl
    have z3 := BZ.cell 3 rfl
    have z4 := BZ.cell 4 rfl
    have z5 := BZ.cell 5 rfl
    have y0 := (f4Y.out.alloc (.cells #[.int .u64 0, .string ⟨#[]⟩, .string ⟨#[]⟩, .bool false, .int .i64 0, .int .i64 0] 30)).cell 0 rfl
    have y1 := (f4Y.out.alloc (.cells #[.int .u64 0, .string ⟨#[]⟩, .string ⟨#[]⟩, .bool false, .int .i64 0, .int .i64 0] 30)).cell 1 rfl
    have y2 := (f4Y.out.alloc (.cells #[.int .u64 0, .string ⟨#[]⟩, .string ⟨#[]⟩, .bool false, .int .i64 0, .int .i64 0] 30)).cell 2 rfl
    have y3 := (f4Y.out.alloc (.cells #[.int .u64 0, .string ⟨#[]⟩, .string ⟨#[]⟩, .bool false, .int .i64 0, .int .i64 0] 30)).cell 3 rfl
    have y4 := (f4Y.out.alloc (.cells #[.int .u64 0, .string ⟨#[]⟩, .string ⟨#[]⟩, .bool false, .int .i64 0, .int .i64 0] 30)).cell 4 rfl
    have y5 := (f4Y.out.alloc (.cells #[.int .u64 0, .string ⟨#[]⟩, .string ⟨#[]⟩, .bool false, .int .i64 0, .int .i64 0] 30)).cell 5 rfl
    have Q1 := eqlOrd 0 ⟨#[]⟩ ⟨#[]⟩ false 0 0 0 ⟨#[]⟩ ⟨#[]⟩ false 0 0
    rw [(ordEq_iff ⟨0, ⟨#[]⟩, ⟨#[]⟩, false, 0, 0⟩ ⟨0, ⟨#[]⟩, ⟨#[]⟩, false, 0, 0⟩).2 rfl] at Q1
    clear BZ
    clear s1
    go_wp2
    go_ret
    exact ⟨rfl, f4B.out.alloc _⟩
  · rw [(fld_2 HM.out.1 HG2.out).1, (fld_2 HM.out.1 HG2.out).2.2]
    simp only [ordC]
    have BY : Bx (v3.alloc (.cells #[.int .u64 o0, .string o1, .string o2, .bool o3, .int .i64 o4, .int .i64 (L - bb0)] 30)) v3.heap.size 30 [.int .u64 o0, .string o1, .string o2, .bool o3, .int .i64 o4, .int .i64 (L - bb0)] := Bx.new v3 30 _
    have HY := hid_ BY
    clear BY
    have qO0 := f3O.out.cell 0 rfl
    have qO1 := f3O.out.cell 1 rfl
    have qO2 := f3O.out.cell 2 rfl
    have qO3 := f3O.out.cell 3 rfl
    have qO4 := f3O.out.cell 4 rfl
    have qO5 := f3O.out.cell 5 rfl
    have rO0 := fun o => (f3O.out.alloc o).cell 0 rfl
    have rO1 := fun o => (f3O.out.alloc o).cell 1 rfl
    have rO2 := fun o => (f3O.out.alloc o).cell 2 rfl
    have rO3 := fun o => (f3O.out.alloc o).cell 3 rfl
    have rO4 := fun o => (f3O.out.alloc o).cell 4 rfl
    have rO5 := fun o => (f3O.out.alloc o).cell 5 rfl
    go_wp2_with fail
    refine (filled_any o0 o1 o2 o3 o4 o5 (a + bb0) p _ (Nat.le_trans SZ.out.1 (by decide)) (Nat.le_trans SZ.out.2 (by decide)) HPB.out).mono ?_
    rintro e v4 ⟨rfl, b⟩
    have bb := ((Bel.refl v3).alloc _).trans b
    have kY := HY.out.bel b
    clear HY
    have f4O := hid_ (f3O.out.bel bb)
    have f4B := hid_ (f3B.out.trans bb)
    have f4Y := hid_ kY
    clear b bb f3O f3B qO0 qO1 qO2 qO3 qO4 qO5 rO0 rO1 rO2 rO3 rO4 rO5 kY
    generalize v3.heap.size = gY at f4Y ⊢
    generalize hF3 : fldF ⟨o0, o1, o2, o3, o4, o5⟩ (a + bb0) p = F3
    have HF3 := hid_ hF3
    clear hF3
    rw [(fld_2 HC.out.1 HG.out).1, (fld_2 HC.out.1 HG.out).2.2]
    simp only [ordC]
    rw [show o5 - (a + bb0) = L - bb0 by have := HC.out.2.2; omega]
    have BZ : Bx (v4.alloc (.cells #[.int .u64 o0, .string o1, .string o2, .bool o3, .int .i64 o4, .int .i64 (L - bb0)] 30)) v4.heap.size 30 [.int .u64 o0, .string o1, .string o2, .bool o3, .int .i64 o4, .int .i64 (L - bb0)] := Bx.new v4 30 _
    have z0 := BZ.cell 0 rfl
    have z1 := BZ.cell 1 rfl
    have z2 := BZ.cell 2 rfl
    have z3 := BZ.cell 3 rfl
    have z4 := BZ.cell 4 rfl
    have z5 := BZ.cell 5 rfl
    have y0 := (f4Y.out.alloc (.cells #[.int .u64 o0, .string o1, .string o2, .bool o3, .int .i64 o4, .int .i64 (L - bb0)] 30)).cell 0 rfl
    have y1 := (f4Y.out.alloc (.cells #[.int .u64 o0, .string o1, .string o2, .bool o3, .int .i64 o4, .int .i64 (L - bb0)] 30)).cell 1 rfl
    have y2 := (f4Y.out.alloc (.cells #[.int .u64 o0, .string o1, .string o2, .bool o3, .int .i64 o4, .int .i64 (L - bb0)] 30)).cell 2 rfl
    have y3 := (f4Y.out.alloc (.cells #[.int .u64 o0, .string o1, .string o2, .bool o3, .int .i64 o4, .int .i64 (L - bb0)] 30)).cell 3 rfl
    have y4 := (f4Y.out.alloc (.cells #[.int .u64 o0, .string o1, .string o2, .bool o3, .int .i64 o4, .int .i64 (L - bb0)] 30)).cell 4 rfl
    have y5 := (f4Y.out.alloc (.cells #[.int .u64 o0, .string o1, .string o2, .bool o3, .int .i64 o4, .int .i64 (L - bb0)] 30)).cell 5 rfl
    have Q1 := eqlOrd o0 o1 o2 o3 o4 (L - bb0) o0 o1 o2 o3 o4 (L - bb0)
    rw [(ordEq_iff ⟨o0, o1, o2, o3, o4, (L - bb0)⟩ ⟨o0, o1, o2, o3, o4, (L - bb0)⟩).2 rfl] at Q1
    clear BZ
    have HS : Hid (F1 + F2 = F3 ∧ 0 ≤ F1 ∧ F1 ≤ 1000000000000 ∧ 0 ≤ F2 ∧ F2 ≤ 1000000000000) := hid_ (by
      have k1 : fldOk ⟨o0, o1, o2, o3, o4, o5⟩ a p = true := by unfold fldOk; rw [HC.out.1, HC.out.2.1]; rfl
      have k2 : fldOk ⟨o0, o1, o2, o3, o4, L⟩ bb0 p = true := by unfold fldOk; rw [HM.out.1, HG2.out]; rfl
      have k3 : fldOk ⟨o0, o1, o2, o3, o4, o5⟩ (a + bb0) p = true := by unfold fldOk; rw [HC.out.1, HG.out]; rfl
      have e1 := fldF_le k1
      have e2 := fldF_le k2
      have e3 := fldF_add k1 k2 k3
      rw [HF1.out] at e1 e3
      rw [HF2.out] at e2 e3
      rw [HF3.out] at e3
      exact ⟨e3, e1.1, e1.2, e2.1, e2.2⟩)
    have s5 : wrap64 (F1 + F2) = F3 := by have := HS.out; unfold wrap64; omega
    clear s1
    go_wp2
    go_ret
    exact ⟨rfl, f4B.out.alloc _⟩
end Go.Proofs.Ytlddpkbdmbafbaa
