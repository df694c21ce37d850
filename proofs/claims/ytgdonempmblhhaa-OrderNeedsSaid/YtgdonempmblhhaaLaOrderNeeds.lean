/- OrderNeeds, walked. -/
import Derived.Test.YtgdonempmblhhaaOd12
import Derived.Test.YtgdonempmblhhaaOpOrd
set_option linter.unusedSimpArgs false
set_option linter.unusedVariables false
namespace Go.Proofs.Ytgdonempmblhhaa
open Go.RowKit Go.Lib
theorem needs_parts {o1 o2 : ByteArray} {o0 : Int} {o3 : Bool} {o4 o5 p : Int} (h : chk ⟨o0, o1, o2, o3, o4, o5⟩ = true) (h1 : 1 ≤ p) (h2 : p < o5) :
    ∃ (x : ByteArray) (m k : Int), needA ⟨o0, o1, o2, o3, o4, o5⟩ = x ∧ needA ⟨o0, o1, o2, o3, o4, p⟩ = x ∧ needA ⟨o0, o1, o2, o3, o4, o5 - p⟩ = x ∧ needN ⟨o0, o1, o2, o3, o4, o5⟩ = m + k ∧ needN ⟨o0, o1, o2, o3, o4, p⟩ = m ∧ needN ⟨o0, o1, o2, o3, o4, o5 - p⟩ = k ∧ 1 ≤ m ∧ 1 ≤ k ∧ m ≤ 1000000000000 ∧ k ≤ 1000000000000 ∧ needE ⟨o0, o1, o2, o3, o4, o5⟩ = 0 ∧ needE ⟨o0, o1, o2, o3, o4, p⟩ = 0 ∧ needE ⟨o0, o1, o2, o3, o4, o5 - p⟩ = 0 := by
  have h' := h
  simp only [chk, checkB, withinB, Bool.and_eq_true, decide_eq_true_eq] at h'
  have hp : chk ⟨o0, o1, o2, o3, o4, p⟩ = true := by
    simp only [chk, checkB, withinB, Bool.and_eq_true, decide_eq_true_eq] at h' ⊢
    simp_all
    omega
  have hq : chk ⟨o0, o1, o2, o3, o4, o5 - p⟩ = true := by
    simp only [chk, checkB, withinB, Bool.and_eq_true, decide_eq_true_eq] at h' ⊢
    simp_all
    omega
  obtain ⟨a, c, ha, hc, a1, a2, c1, c2, _⟩ := chk_nums h
  simp only at ha hc
  subst ha
  subst hc
  obtain ⟨q, rfl⟩ : ∃ q : Nat, p = (q : Int) := ⟨p.toNat, by omega⟩
  have hq2 : ((c : Int) - (q : Int)) = ((c - q : Nat) : Int) := by omega
  have b1 : 1 ≤ a * q := Nat.mul_le_mul a1 (by omega : 1 ≤ q)
  have b2 : 1 ≤ a * (c - q) := Nat.mul_le_mul a1 (by omega : 1 ≤ c - q)
  have b3 : a * q ≤ 1000000 * 1000000 := Nat.mul_le_mul a2 (by omega)
  have b4 : a * (c - q) ≤ 1000000 * 1000000 := Nat.mul_le_mul a2 (by omega)
  have b5 : a * c = a * q + a * (c - q) := by rw [← Nat.mul_add]; congr 1; omega
  cases o3
  · obtain ⟨e1, e2, e3⟩ := need_s h rfl
    obtain ⟨f1, f2, f3⟩ := need_s hp rfl
    obtain ⟨g1, g2, g3⟩ := need_s hq rfl
    exact ⟨_, _, _, e1, f1, g1, by rw [e2]; show (c : Int) = (q : Int) + ((c : Int) - (q : Int)); omega, f2, g2, by simp; omega, by simp; omega, by simp; omega, by simp; omega, e3, f3, g3⟩
  · obtain ⟨e1, e2, e3⟩ := need_b h rfl
    obtain ⟨f1, f2, f3⟩ := need_b hp rfl
    obtain ⟨g1, g2, g3⟩ := need_b hq rfl
    refine ⟨_, ((a * q : Nat) : Int), ((a * (c - q) : Nat) : Int), e1, f1, g1, ?_, ?_, ?_, by omega, by omega, by omega, by omega, e3, f3, g3⟩
    · rw [e2]
      show (a : Int) * (c : Int) = _
      rw [← Int.natCast_mul, b5]
      omega
    · rw [f2]
      show (a : Int) * (q : Int) = _
      rw [← Int.natCast_mul]
    · rw [g2]
      show (a : Int) * ((c : Int) - (q : Int)) = _
      rw [hq2, ← Int.natCast_mul]
set_option maxRecDepth 10000 in
set_option maxHeartbeats 4000000 in
theorem walkOrderNeeds (w : World) (o : Ord) (wo : ordWf o) (part : Int) (wp : (Lit.int .i64 part).wf = true) : Calls Try.prog 12 #[.agg (ordC o).toArray, .int .i64 part] w fun e w' => e = .returned (.bool true) ∧ Bel w w' := by
  obtain ⟨o0, o1, o2, o3, o4, o5⟩ := o
  simp only [ordC]
  have k0 := Bx.new w 27 [.int .u64 o0, .string o1, .string o2, .bool o3, .int .i64 o4, .int .i64 o5]
  have k0 : Bx (w.alloc (.cells #[.int .u64 o0, .string o1, .string o2, .bool o3, .int .i64 o4, .int .i64 o5] 27)) (w.heap.size) 27 [.int .u64 o0, .string o1, .string o2, .bool o3, .int .i64 o4, .int .i64 o5] := k0
  have kB : Bel w (w.alloc (.cells #[.int .u64 o0, .string o1, .string o2, .bool o3, .int .i64 o4, .int .i64 o5] 27)) := (Bel.refl w).alloc _
  have FO := hid_ k0
  have FB := hid_ kB
  clear k0 kB
  go_enter Try.func12, Try.ntmps12
  go_wp2_with fail
  generalize (w.alloc (.cells #[.int .u64 o0, .string o1, .string o2, .bool o3, .int .i64 o4, .int .i64 o5] 27)) = W0 at FO FB ⊢
  obtain ⟨gO, hgO⟩ : ∃ g, w.heap.size = g := ⟨_, rfl⟩
  rw [hgO] at FO
  try rw [hgO]
  clear hgO
  refine (awake13 _).mono ?_
  rintro e v1 ⟨rfl, b⟩
  have bb := b
  have f1O := hid_ (FO.out.bel bb)
  have f1B := hid_ (FB.out.trans bb)
  clear b bb FO FB
  have qO0 := f1O.out.cell 0 rfl
  have qO1 := f1O.out.cell 1 rfl
  have qO2 := f1O.out.cell 2 rfl
  have qO3 := f1O.out.cell 3 rfl
  have qO4 := f1O.out.cell 4 rfl
  have qO5 := f1O.out.cell 5 rfl
  by_cases h2 : 100 < o1.size
  · have i2 : (100 : Int) < (o1.size : Int) := by omega
    go_wp2
    go_ret
    exact ⟨rfl, f1B.out⟩
  have d2 : decide ((100 : Int) < (o1.size : Int)) = false := by simp; omega
  by_cases h3 : 100 < o2.size
  · have i3 : (100 : Int) < (o2.size : Int) := by omega
    go_wp2
    go_ret
    exact ⟨rfl, f1B.out⟩
  have d3 : decide ((100 : Int) < (o2.size : Int)) = false := by simp; omega
  have SZ : Hid (o1.size ≤ 4294967280 ∧ o2.size ≤ 4294967280) := hid_ ⟨by omega, by omega⟩
  clear h2 h3
  go_wp2_with fail
  refine (orderCheck_any o0 o1 o2 o3 o4 o5 _ SZ.out.1 SZ.out.2).mono ?_
  rintro e v2 ⟨rfl, b⟩
  have bb := b
  have f2O := hid_ (f1O.out.bel bb)
  have f2B := hid_ (f1B.out.trans bb)
  clear b bb f1O f1B qO0 qO1 qO2 qO3 qO4 qO5
  clear d2 d3
  obtain ⟨cb, hcb⟩ : ∃ cb, chk ⟨o0, o1, o2, o3, o4, o5⟩ = cb := ⟨_, rfl⟩
  cases cb
  · have hE : checkE o1 o2 o4 o5 = 130 := check_no hcb
    rw [hE]
    clear hE
    go_wp2
    go_ret
    exact ⟨rfl, f2B.out⟩
  have hE : checkE o1 o2 o4 o5 = 0 := check_yes hcb
  rw [hE]
  have HC := hid_ hcb
  clear hE hcb
  by_cases h4 : part < 1
  · skip
    go_wp2
    go_ret
    exact ⟨rfl, f2B.out⟩
  have d4 : decide (part < 1) = false := by simp; omega
  have qO0 := f2O.out.cell 0 rfl
  have qO1 := f2O.out.cell 1 rfl
  have qO2 := f2O.out.cell 2 rfl
  have qO3 := f2O.out.cell 3 rfl
  have qO4 := f2O.out.cell 4 rfl
  have qO5 := f2O.out.cell 5 rfl
  by_cases h5 : o5 ≤ part
  · skip
    go_wp2
    go_ret
    exact ⟨rfl, f2B.out⟩
  have d5 : decide (o5 ≤ part) = false := by simp; omega
  obtain ⟨x, m, k, eA, eB, eC, nA, nB, nC, m1, k1, m2, k2, rA, rB, rC⟩ := needs_parts (p := part) HC.out (by omega) (by omega)
  have HPP := hid_ (And.intro eA (And.intro eB (And.intro eC (And.intro nA (And.intro nB (And.intro nC (And.intro rA (And.intro rB rC))))))))
  have HM := hid_ (And.intro m1 (And.intro k1 (And.intro m2 k2)))
  have HL : Hid (1 ≤ part ∧ part < o5 ∧ o5 ≤ 1000000) := hid_ ⟨by omega, by omega, by obtain ⟨_, q, _, hq, _, _, _, hq2, _⟩ := chk_nums HC.out; simp only at hq; omega⟩
  clear eA eB eC nA nB nC m1 k1 m2 k2 rA rB rC HC h4 h5
  have hwr : wrap64 (o5 - part) = o5 - part := by have := HL.out; unfold wrap64; omega
  have rO0 := fun o => (f2O.out.alloc o).cell 0 rfl
  have rO1 := fun o => (f2O.out.alloc o).cell 1 rfl
  have rO2 := fun o => (f2O.out.alloc o).cell 2 rfl
  have rO3 := fun o => (f2O.out.alloc o).cell 3 rfl
  have rO4 := fun o => (f2O.out.alloc o).cell 4 rfl
  have rO5 := fun o => (f2O.out.alloc o).cell 5 rfl
  have rr0 := fun a b => ((f2O.out.alloc a).alloc b).cell 0 rfl
  have rr1 := fun a b => ((f2O.out.alloc a).alloc b).cell 1 rfl
  have rr2 := fun a b => ((f2O.out.alloc a).alloc b).cell 2 rfl
  have rr3 := fun a b => ((f2O.out.alloc a).alloc b).cell 3 rfl
  have rr4 := fun a b => ((f2O.out.alloc a).alloc b).cell 4 rfl
  have rr5 := fun a b => ((f2O.out.alloc a).alloc b).cell 5 rfl
  go_wp2_with fail
  clear d4 d5 hwr
  have za := sizeAl v2 (.cells #[.int .u64 o0, .string o1, .string o2, .bool o3, .int .i64 o4, .int .i64 part] 27)
  have ka : Bx ((v2.alloc (.cells #[.int .u64 o0, .string o1, .string o2, .bool o3, .int .i64 o4, .int .i64 part] 27)).alloc (.cells #[.int .u64 o0, .string o1, .string o2, .bool o3, .int .i64 o4, .int .i64 (o5 - part)] 27)) v2.heap.size 27 [.int .u64 o0, .string o1, .string o2, .bool o3, .int .i64 o4, .int .i64 part] := (Bx.new v2 _ _).alloc _
  have kb := Bx.new (v2.alloc (.cells #[.int .u64 o0, .string o1, .string o2, .bool o3, .int .i64 o4, .int .i64 part] 27)) 27 [.int .u64 o0, .string o1, .string o2, .bool o3, .int .i64 o4, .int .i64 (o5 - part)]
  rw [za] at kb
  clear za
  refine (need_any o0 o1 o2 o3 o4 o5 _ SZ.out.1 SZ.out.2).mono ?_
  rintro e v3 ⟨rfl, b⟩
  have bb := (((Bel.refl v2).alloc _).alloc _).trans b
  have ka := ka.bel b
  have kb := kb.bel b
  rw [HPP.out.1, HPP.out.2.2.2.1, HPP.out.2.2.2.2.2.2.1]
  have f3O := hid_ (f2O.out.bel bb)
  have f3B := hid_ (f2B.out.trans bb)
  have f3X := hid_ ka
  have f3Y := hid_ kb
  clear b bb f2O f2B qO0 qO1 qO2 qO3 qO4 qO5 rO0 rO1 rO2 rO3 rO4 rO5 rr0 rr1 rr2 rr3 rr4 rr5 ka kb
  generalize v2.heap.size + 1 = gY at f3Y ⊢
  generalize v2.heap.size = gX at f3X ⊢
  have qX0 := f3X.out.cell 0 rfl
  have qX1 := f3X.out.cell 1 rfl
  have qX2 := f3X.out.cell 2 rfl
  have qX3 := f3X.out.cell 3 rfl
  have qX4 := f3X.out.cell 4 rfl
  have qX5 := f3X.out.cell 5 rfl
  go_wp2_with fail
  refine (need_any o0 o1 o2 o3 o4 part _ SZ.out.1 SZ.out.2).mono ?_
  rintro e v4 ⟨rfl, b⟩
  have bb := b
  rw [HPP.out.2.1, HPP.out.2.2.2.2.1, HPP.out.2.2.2.2.2.2.2.1]
  have f4O := hid_ (f3O.out.bel bb)
  have f4B := hid_ (f3B.out.trans bb)
  have f4X := hid_ (f3X.out.bel bb)
  have f4Y := hid_ (f3Y.out.bel bb)
  clear b bb f3O f3B f3X f3Y qX0 qX1 qX2 qX3 qX4 qX5
  have qY0 := f4Y.out.cell 0 rfl
  have qY1 := f4Y.out.cell 1 rfl
  have qY2 := f4Y.out.cell 2 rfl
  have qY3 := f4Y.out.cell 3 rfl
  have qY4 := f4Y.out.cell 4 rfl
  have qY5 := f4Y.out.cell 5 rfl
  go_wp2_with fail
  refine (need_any o0 o1 o2 o3 o4 (o5 - part) _ SZ.out.1 SZ.out.2).mono ?_
  rintro e v5 ⟨rfl, b⟩
  have bb := b
  rw [HPP.out.2.2.1, HPP.out.2.2.2.2.2.1, HPP.out.2.2.2.2.2.2.2.2]
  have f5O := hid_ (f4O.out.bel bb)
  have f5B := hid_ (f4B.out.trans bb)
  have f5X := hid_ (f4X.out.bel bb)
  have f5Y := hid_ (f4Y.out.bel bb)
  clear b bb f4O f4B f4X f4Y qY0 qY1 qY2 qY3 qY4 qY5
  have hw2 : wrap64 (m + k) = m + k := by have := HM.out; unfold wrap64; omega
  have i1 := HM.out.1
  have i2 := HM.out.2.1
  clear HPP HL HM
  go_wp2
  first | go_ret2 | go_ret
  exact ⟨rfl, f5B.out⟩
end Go.Proofs.Ytgdonempmblhhaa
