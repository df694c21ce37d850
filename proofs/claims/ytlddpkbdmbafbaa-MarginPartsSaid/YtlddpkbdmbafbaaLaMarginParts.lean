/- MarginParts, walked. -/
import Derived.Test.YtlddpkbdmbafbaaAw16
import Derived.Test.YtlddpkbdmbafbaaSameOrd
import Derived.Test.YtlddpkbdmbafbaaOpOrd
set_option linter.unusedSimpArgs false
set_option linter.unusedVariables false
namespace Go.Proofs.Ytlddpkbdmbafbaa
open Go.RowKit Go.Lib
/-- What an order needs is what is free of a fill, what the fill owes, and what the rest needs. -/
theorem marginParts {o0 : Int} {o1 o2 : ByteArray} {o3 : Bool} {o4 o5 q p : Int} (h : chk ⟨o0, o1, o2, o3, o4, o5⟩ = true) (hb : fldB ⟨o0, o1, o2, o3, o4, o5⟩ q p = true) :
    ∃ (F U R N : Int), (if o3 = true then (o4 - p) * q else 0) = F ∧ (if o3 = true then q * p else q) = U ∧ needN ⟨o0, o1, o2, o3, o4, o5⟩ = N ∧ needE ⟨o0, o1, o2, o3, o4, o5⟩ = 0 ∧ 0 ≤ F ∧ F ≤ 1000000000000 ∧ 0 ≤ U ∧ U ≤ 1000000000000 ∧ 0 ≤ R ∧ R ≤ 1000000000000 ∧ N = F + U + R ∧
      (0 < o5 - q → needN ⟨o0, o1, o2, o3, o4, o5 - q⟩ = R ∧ needE ⟨o0, o1, o2, o3, o4, o5 - q⟩ = 0) ∧ (¬ 0 < o5 - q → R = 0) ∧ 1 ≤ q ∧ q ≤ 1000000 ∧ o5 ≤ 1000000 ∧ q ≤ o5 := by
  have h' := h
  simp only [chk, checkB, withinB, Bool.and_eq_true, decide_eq_true_eq] at h'
  simp only [fldB, betterM, Bool.and_eq_true, decide_eq_true_eq] at hb
  obtain ⟨b1, b2, b3, b4⟩ := hb
  obtain ⟨a, c, ha, hc, a1, a2, c1, c2, _⟩ := chk_nums h
  simp only at ha hc b2
  subst ha
  subst hc
  have hq : 0 < (c : Int) - q → chk ⟨o0, o1, o2, o3, (a : Int), (c : Int) - q⟩ = true := by
    intro hq
    simp only [chk, checkB, withinB, Bool.and_eq_true, decide_eq_true_eq] at h' ⊢
    simp_all
    omega
  obtain ⟨k, rfl⟩ : ∃ k : Nat, q = (k : Int) := ⟨q.toNat, by omega⟩
  obtain ⟨m, rfl⟩ : ∃ m : Nat, p = (m : Int) := ⟨p.toNat, by omega⟩
  have e1 : (c : Int) - (k : Int) = ((c - k : Nat) : Int) := by omega
  cases o3
  · obtain ⟨n1, n2, n3⟩ := need_s h rfl
    refine ⟨0, k, ((c - k : Nat) : Int), c, by simp, by simp, n2, n3, by omega, by omega, by omega, by omega, by omega, by omega, by omega, fun hr => ?_, fun hr => by omega, by omega, by omega, by omega, by omega⟩
    obtain ⟨r1, r2, r3⟩ := need_s (hq hr) rfl
    exact ⟨by rw [r2]; exact e1, r3⟩
  · simp only [if_true] at b4
    have e2 : (a : Int) - (m : Int) = ((a - m : Nat) : Int) := by omega
    obtain ⟨n1, n2, n3⟩ := need_b h rfl
    have x1 : (a - m) * k ≤ 1000000 * 1000000 := Nat.mul_le_mul (by omega) (by omega)
    have x2 : k * m ≤ 1000000 * 1000000 := Nat.mul_le_mul (by omega) (by omega)
    have x3 : a * (c - k) ≤ 1000000 * 1000000 := Nat.mul_le_mul (by omega) (by omega)
    have x4 : a * c = (a - m) * k + k * m + a * (c - k) := by
      rw [Nat.mul_comm k m, ← Nat.add_mul, show a - m + m = a by omega, ← Nat.mul_add]
      congr 1
      omega
    refine ⟨(((a - m) * k : Nat) : Int), ((k * m : Nat) : Int), ((a * (c - k) : Nat) : Int), ((a * c : Nat) : Int), by simp only [if_true]; rw [e2, ← Int.natCast_mul], by simp only [if_true]; rw [← Int.natCast_mul], by rw [n2]; show (a : Int) * (c : Int) = _; rw [← Int.natCast_mul], n3, by omega, by omega, by omega, by omega, by omega, by omega, by omega, fun hr => ?_, fun hr => ?_, by omega, by omega, by omega, by omega⟩
    · obtain ⟨r1, r2, r3⟩ := need_b (hq hr) rfl
      exact ⟨by rw [r2]; show (a : Int) * ((c : Int) - (k : Int)) = _; rw [e1, ← Int.natCast_mul], r3⟩
    · rw [show c - k = 0 by omega, Nat.mul_zero]; rfl
set_option maxRecDepth 10000 in
set_option maxHeartbeats 4000000 in
theorem walkMarginParts (w : World) (o : Ord) (wo : ordWf o) (q : Int) (wq : (Lit.int .i64 q).wf = true) (p : Int) (wp : (Lit.int .i64 p).wf = true) : Calls Try.prog 5 #[.agg (ordC o).toArray, .int .i64 q, .int .i64 p] w fun e w' => e = .returned (.bool true) ∧ Bel w w' := by
  obtain ⟨o0, o1, o2, o3, o4, o5⟩ := o
  simp only [ordC]
  have HPB : Hid (p ≤ 9223372036854775807 ∧ -9223372036854775808 ≤ q) := hid_ (by have h1 := wp; have h2 := wq; simp [Lit.wf, IntKind.min, IntKind.max, IntKind.signed, IntKind.bits] at h1 h2; omega)
  have k0 := Bx.new w 30 [.int .u64 o0, .string o1, .string o2, .bool o3, .int .i64 o4, .int .i64 o5]
  have k0 : Bx (w.alloc (.cells #[.int .u64 o0, .string o1, .string o2, .bool o3, .int .i64 o4, .int .i64 o5] 30)) (w.heap.size) 30 [.int .u64 o0, .string o1, .string o2, .bool o3, .int .i64 o4, .int .i64 o5] := k0
  have kB : Bel w (w.alloc (.cells #[.int .u64 o0, .string o1, .string o2, .bool o3, .int .i64 o4, .int .i64 o5] 30)) := (Bel.refl w).alloc _
  have FO := hid_ k0
  have FB := hid_ kB
  clear k0 kB
  go_enter Try.func5, Try.ntmps5
  go_wp2_with fail
  generalize (w.alloc (.cells #[.int .u64 o0, .string o1, .string o2, .bool o3, .int .i64 o4, .int .i64 o5] 30)) = W0 at FO FB ⊢
  obtain ⟨gO, hgO⟩ : ∃ g, w.heap.size = g := ⟨_, rfl⟩
  rw [hgO] at FO
  try rw [hgO]
  clear hgO
  refine (awake16 _).mono ?_
  rintro e v1 ⟨rfl, b⟩
  have bb := b
  have f1O := hid_ (FO.out.bel bb)
  have f1B := hid_ (FB.out.trans bb)
  clear b bb FO FB
  have qO0 := f1O.out.cell 0 rfl
  have qO1 := f1O.out.cell 1 rfl
  have qO2 := f1O.out.cell 2 rfl
  have qO3 := f1O.out.cell 3 rfl
  have qO4 := f1O.out.cell 4 rfl
  have qO5 := f1O.out.cell 5 rfl
  by_cases h2 : 100 < o1.size
  · have i2 : (100 : Int) < (o1.size : Int) := by omega
    go_wp2
    go_ret
    exact ⟨rfl, f1B.out⟩
  have d2 : decide ((100 : Int) < (o1.size : Int)) = false := by simp; omega
  by_cases h3 : 100 < o2.size
  · have i3 : (100 : Int) < (o2.size : Int) := by omega
    go_wp2
    go_ret
    exact ⟨rfl, f1B.out⟩
  have d3 : decide ((100 : Int) < (o2.size : Int)) = false := by simp; omega
  have SZ : Hid (o1.size ≤ 4294967280 ∧ o2.size ≤ 4294967280) := hid_ ⟨by omega, by omega⟩
  clear h2 h3
  go_wp2_with fail
  refine (filled_any o0 o1 o2 o3 o4 o5 q p _ (Nat.le_trans SZ.out.1 (by decide)) (Nat.le_trans SZ.out.2 (by decide)) HPB.out.1).mono ?_
  rintro e v2 ⟨rfl, b⟩
  have bb := b
  have f2O := hid_ (f1O.out.bel bb)
  have f2B := hid_ (f1B.out.trans bb)
  clear b bb f1O f1B qO0 qO1 qO2 qO3 qO4 qO5
  clear d2 d3
  obtain ⟨cb, hcb⟩ : ∃ cb, chk ⟨o0, o1, o2, o3, o4, o5⟩ = cb := ⟨_, rfl⟩
  obtain ⟨fb, hfb⟩ : ∃ fb, fldB ⟨o0, o1, o2, o3, o4, o5⟩ q p = fb := ⟨_, rfl⟩
  by_cases hok : cb = true ∧ fb = true
  · obtain ⟨rfl, rfl⟩ := hok
    obtain ⟨F, U, R, N, eF, eU, eN, eE, f0, f1, u0, u1, r0, r1, hN, hpos, hzero, q0, q1, l0, l1⟩ := marginParts hcb hfb
    have e3 := fld_2 hcb hfb
    rw [e3.1, e3.2.1, e3.2.2]
    simp only [ordC]
    rw [eF]
    have HNE := hid_ (And.intro eN eE)
    have HR := hid_ (And.intro hpos hzero)
    have HU := hid_ eU
    have HL := hid_ (And.intro f0 (And.intro f1 (And.intro u0 (And.intro u1 (And.intro r0 (And.intro r1 hN))))))
    have HQ := hid_ (And.intro q0 (And.intro q1 (And.intro l0 l1)))
    clear hcb hfb e3 eF eU eN eE f0 f1 u0 u1 r0 r1 hN hpos hzero q0 q1 l0 l1
    have qO0 := f2O.out.cell 0 rfl
    have qO1 := f2O.out.cell 1 rfl
    have qO2 := f2O.out.cell 2 rfl
    have qO3 := f2O.out.cell 3 rfl
    have qO4 := f2O.out.cell 4 rfl
    have qO5 := f2O.out.cell 5 rfl
    have rO0 := fun o => (f2O.out.alloc o).cell 0 rfl
    have rO1 := fun o => (f2O.out.alloc o).cell 1 rfl
    have rO2 := fun o => (f2O.out.alloc o).cell 2 rfl
    have rO3 := fun o => (f2O.out.alloc o).cell 3 rfl
    have rO4 := fun o => (f2O.out.alloc o).cell 4 rfl
    have rO5 := fun o => (f2O.out.alloc o).cell 5 rfl
    go_wp2_with fail
    have BXX : Bx (v2.alloc (.cells #[.int .u64 o0, .string o1, .string o2, .bool o3, .int .i64 o4, .int .i64 (o5 - q)] 30)) v2.heap.size 30 [.int .u64 o0, .string o1, .string o2, .bool o3, .int .i64 o4, .int .i64 (o5 - q)] := Bx.new v2 30 _
    refine (need_any o0 o1 o2 o3 o4 o5 _ SZ.out.1 SZ.out.2).mono ?_
    rintro e v3 ⟨rfl, b⟩
    have bb := ((Bel.refl v2).alloc _).trans b
    rw [HNE.out.1, HNE.out.2]
    generalize needA ⟨o0, o1, o2, o3, o4, o5⟩ = na
    generalize v2.heap.size = gX at BXX ⊢
    have kX := BXX.bel b
    clear BXX
    have f3O := hid_ (f2O.out.bel bb)
    have f3B := hid_ (f2B.out.trans bb)
    have f3X := hid_ kX
    clear b bb f2O f2B qO0 qO1 qO2 qO3 qO4 qO5 rO0 rO1 rO2 rO3 rO4 rO5 kX
    have qO0 := f3O.out.cell 0 rfl
    have qO1 := f3O.out.cell 1 rfl
    have qO2 := f3O.out.cell 2 rfl
    have qO3 := f3O.out.cell 3 rfl
    have qO4 := f3O.out.cell 4 rfl
    have qO5 := f3O.out.cell 5 rfl
    have qX0 := f3X.out.cell 0 rfl
    have qX1 := f3X.out.cell 1 rfl
    have qX2 := f3X.out.cell 2 rfl
    have qX3 := f3X.out.cell 3 rfl
    have qX4 := f3X.out.cell 4 rfl
    have qX5 := f3X.out.cell 5 rfl
    have s1 : wrap64 (o5 - q) = o5 - q := by have := HQ.out; unfold wrap64; omega
    have j0 : decide ((0 : Int) ≤ F) = true := by have := HL.out; simp; omega
    by_cases hpos : 0 < o5 - q
    · have HR2 := hid_ (HR.out.1 hpos)
      go_wp2_with fail
      refine (need_any o0 o1 o2 o3 o4 (o5 - q) _ SZ.out.1 SZ.out.2).mono ?_
      rintro e v4 ⟨rfl, b⟩
      have bb := b
      rw [HR2.out.1, HR2.out.2]
      generalize needA ⟨o0, o1, o2, o3, o4, o5 - q⟩ = nb
      have f4O := hid_ (f3O.out.bel bb)
      have f4B := hid_ (f3B.out.trans bb)
      have f4X := hid_ (f3X.out.bel bb)
      clear b bb f3O f3B f3X qO0 qO1 qO2 qO3 qO4 qO5 qX0 qX1 qX2 qX3 qX4 qX5
      have qO0 := f4O.out.cell 0 rfl
      have qO1 := f4O.out.cell 1 rfl
      have qO2 := f4O.out.cell 2 rfl
      have qO3 := f4O.out.cell 3 rfl
      have qO4 := f4O.out.cell 4 rfl
      have qO5 := f4O.out.cell 5 rfl
      have qX0 := f4X.out.cell 0 rfl
      have qX1 := f4X.out.cell 1 rfl
      have qX2 := f4X.out.cell 2 rfl
      have qX3 := f4X.out.cell 3 rfl
      have qX4 := f4X.out.cell 4 rfl
      have qX5 := f4X.out.cell 5 rfl
      have s2 : wrap64 (F + U) = F + U := by have := HL.out; unfold wrap64; omega
      have s3 : wrap64 (F + U + R) = N := by have := HL.out; unfold wrap64; omega
      cases o3
      · have EU := HU.out
        simp only [Bool.false_eq_true, if_false] at EU
        subst EU
        go_wp2
        go_ret
        exact ⟨rfl, f4B.out⟩
      · have EU := HU.out
        simp only [if_true] at EU
        have s4 : wrap64 U = U := by have := HL.out; unfold wrap64; omega
        go_wp2
        go_ret
        exact ⟨rfl, f4B.out⟩
    · have HR2 := HR.out.2 (by omega)
      subst HR2
      obtain rfl : N = F + U := by have := HL.out; omega
      have s2 : wrap64 (F + U) = F + U := by have := HL.out; unfold wrap64; omega
      cases o3
      · have EU := HU.out
        simp only [Bool.false_eq_true, if_false] at EU
        subst EU
        go_wp2
        go_ret
        exact ⟨rfl, f3B.out⟩
      · have EU := HU.out
        simp only [if_true] at EU
        have s4 : wrap64 U = U := by have := HL.out; unfold wrap64; omega
        go_wp2
        go_ret
        exact ⟨rfl, f3B.out⟩
  · have eF : fldF ⟨o0, o1, o2, o3, o4, o5⟩ q p = 0 ∧ fldO ⟨o0, o1, o2, o3, o4, o5⟩ q p = ordZo ∧ (fldE ⟨o0, o1, o2, o3, o4, o5⟩ q p = 130 ∨ fldE ⟨o0, o1, o2, o3, o4, o5⟩ q p = 160) := by
      cases cb
      · exact ⟨(fld_0 hcb).2.1, (fld_0 hcb).2.2, .inl (fld_0 hcb).1⟩
      · cases fb
        · exact ⟨(fld_1 hcb hfb).2.1, (fld_1 hcb hfb).2.2, .inr (fld_1 hcb hfb).1⟩
        · exact absurd ⟨rfl, rfl⟩ hok
    rw [eF.1, eF.2.1, show (ordC ordZo).toArray = #[.int .u64 0, .string ⟨#[]⟩, .string ⟨#[]⟩, .bool false, .int .i64 0, .int .i64 0] from rfl]
    have hE := eF.2.2
    clear eF hok hcb hfb
    have Q1 := eqlOrd 0 ⟨#[]⟩ ⟨#[]⟩ false 0 0 0 ⟨#[]⟩ ⟨#[]⟩ false 0 0
    rw [show ordEq ⟨0, ⟨#[]⟩, ⟨#[]⟩, false, 0, 0⟩ ⟨0, ⟨#[]⟩, ⟨#[]⟩, false, 0, 0⟩ = true from by decide +kernel] at Q1
    rcases hE with hE | hE
    · rw [hE]
      clear hE
      go_wp2
      go_ret
      exact ⟨rfl, (f2B.out.alloc _)⟩
    · rw [hE]
      clear hE
      go_wp2
      go_ret
      exact ⟨rfl, (f2B.out.alloc _)⟩
end Go.Proofs.Ytlddpkbdmbafbaa
