/- Words that the statements of layer 18 share. -/
import Derived.Test.YtnpinolhhnpniaaGreatWd
import Derived.Laws.StructEq
import Derived.ProofKit
import Derived.OpenShut
import Derived.ShutString
import Derived.Deep.Slices
import Derived.Test.YtnpinolhhnpniaaGreatTyAcc
import Derived.Test.YtnpinolhhnpniaaGreatTyLeg
import Derived.Test.YtnpinolhhnpniaaGreatTyDue
import Derived.Deep.DeepCutAuto
import Derived.Deep.QuietTactic
import Derived.BigQuiet
import Derived.Test.YtnpinolhhnpniaaGreatLab
import Derived.Test.YtnpinolhhnpniaaGreatWrl
import Derived.Test.YtnpinolhhnpniaaGreatNt3
import Derived.Test.YtnpinolhhnpniaaGreatAc8
import Derived.Test.YtnpinolhhnpniaaGreatNv1
import Derived.Test.YtnpinolhhnpniaaGreatSt4
namespace Go.Proofs.YtnpinolhhnpniaaGreat
open Go.RowKit Go.Lib
noncomputable def eqB {α : Type} (x y : α) : Bool := @decide (x = y) (Classical.propDecidable _)
theorem eqB_1 {α : Type} {x y : α} (h : x = y) : eqB x y = true := by
  unfold eqB
  exact @decide_eq_true _ (Classical.propDecidable _) h
theorem eqB_0 {α : Type} {x y : α} (h : x ≠ y) : eqB x y = false := by
  unfold eqB
  exact @decide_eq_false _ (Classical.propDecidable _) h
theorem eqB_of {α : Type} {x y : α} (h : eqB x y = true) : x = y := by
  unfold eqB at h
  exact @of_decide_eq_true _ (Classical.propDecidable _) h
theorem listsIff (a b : ByteArray) : a.toList = b.toList ↔ a = b := by
  rw [ByteArray.toList_eq, ByteArray.toList_eq]
  obtain ⟨⟨x⟩⟩ := a
  obtain ⟨⟨y⟩⟩ := b
  simp
end Go.Proofs.YtnpinolhhnpniaaGreat
namespace Go.Proofs.YtnpinolhhnpniaaGreat
open Go.RowKit Go.ChangeShapes Go.WideShapes Go.ChangeAt Go.Deep
variable {α : Type} {T : Ty α}
/-- A string that came in: its size. -/
def StrOk (s : ByteArray) : Prop := s.size ≤ 140737488355327
theorem open_row {H : Type} {enc : TypeId × Value → H} {P : Program} {W : World} (T : Ty α) (Wf : α → Prop) {t : TypeId} {v : Value} {d : DataW H} {p : List MemPlace}
    (hel : ∀ m cs x, cs.length = T.sz → DataW.trod enc P W 0 (fun _ => true) true m T.e cs = some x → ∃ a, cs = T.enc a ∧ Wf a)
    (ht : P.underlying t = some (.slice T.e)) (hc : P.cellsOf T.e = T.sz) {r : Reach} {b0 : Nat} (hv : Value.okWide P W r b0 t v) (h : DataW.Trod enc P W 0 (fun _ => true) true t v d p) :
    ∃ A n c xs, v = .slice A n c ∧ n ≤ c ∧ Row T W A n xs ∧ ∀ x ∈ xs, Wf x := by
  obtain ⟨A, n, c, rfl⟩ := okWide_slice ht hv
  obtain ⟨fuel, hf⟩ := h
  rcases open_slice ht hf with ⟨hcs, _⟩ | ⟨a, len, cap, m, k, D, Pl, hcs, _, hl, hm, hmm, _, hx⟩
  · simp [Value.cells] at hcs
    obtain ⟨rfl, rfl, rfl⟩ := hcs
    exact ⟨_, _, _, [], rfl, by omega, Row.none_ T W _, fun x hx => by cases hx⟩
  · simp [Value.cells] at hcs
    obtain ⟨rfl, rfl, rfl⟩ := hcs
    simp only [if_true] at hmm
    subst hmm
    have key : ∀ i, i < n → ∃ a', W.cells? 0 (a.add (i * T.sz)) T.sz = some (T.enc a') ∧ Wf a' := by
      intro i hi
      obtain ⟨cs', h1, h2⟩ := hx i (by omega)
      rw [hc] at h1
      obtain ⟨_, hlen, _⟩ := World.cells?_some h1
      obtain ⟨a', rfl, hw⟩ := hel _ _ _ hlen h2
      exact ⟨a', h1, hw⟩
    have keyc : ∀ i : Fin n, ∃ a', W.cells? 0 (a.add (i.1 * T.sz)) T.sz = some (T.enc a') ∧ Wf a' := fun i => key i.1 i.2
    obtain ⟨f, hfn⟩ : ∃ f : Fin n → α, ∀ i, W.cells? 0 (a.add (i.1 * T.sz)) T.sz = some (T.enc (f i)) ∧ Wf (f i) := ⟨fun i => Classical.choose (keyc i), fun i => Classical.choose_spec (keyc i)⟩
    refine ⟨_, _, _, List.ofFn f, rfl, hl, ⟨by simp, by simp only [maxLen] at hm; omega, fun _ => ⟨a, rfl, fun j x hj i u hu => ?_⟩⟩, fun x hx => ?_⟩
    · have hjn : j < n := by have := (List.getElem?_eq_some_iff.1 hj).1; simpa using this
      have hx' : x = f ⟨j, hjn⟩ := by simp [hjn] at hj; exact hj.symm
      subst hx'
      obtain ⟨_, hlen, hall⟩ := World.cells?_some (hfn ⟨j, hjn⟩).1
      have hi := (List.getElem?_eq_some_iff.1 hu).1
      rw [T.len] at hi
      rw [← addAdd]
      exact (hall i hi).trans hu
    · obtain ⟨i, rfl⟩ := (List.mem_ofFn).1 hx
      exact (hfn i).2
end Go.Proofs.YtnpinolhhnpniaaGreat
set_option linter.unusedSimpArgs false
set_option linter.unusedVariables false
namespace Go.Proofs.YtnpinolhhnpniaaGreat
open Go.RowKit Go.ChangeShapes Go.WideShapes Go.ChangeAt Go.Deep
def accWf (o : Acc) : Prop := o.who.size ≤ maxLen ∧ o.asset.size ≤ maxLen ∧ (Lit.int .i64 o.balance).wf = true ∧ (Lit.int .i64 o.held).wf = true
set_option maxRecDepth 100000 in
theorem accOpen {H : Type} {enc : TypeId × Value → H} {W : World} (m : Nat) (cs : List Value) (x : DataW H × List MemPlace) (hl : cs.length = 4) (h : DataW.trod enc Tryz.prog W 0 (fun _ => true) true m 37 cs = some x) : ∃ o, cs = accC o ∧ accWf o := by
  obtain ⟨xs, k, _, _, _, hlen, hf⟩ := DataW.trod_struct Tryz.underlying37 h
  match cs, hl with
  | [c0, c1, c2, c3], _ =>
    have z2 : Tryz.prog.cellsOf 2 = 1 := by kernel_rfl
    have z9 : Tryz.prog.cellsOf 9 = 1 := by kernel_rfl
    have g0 : DataW.trod enc Tryz.prog W 0 (fun _ => true) true k 9 [c0] = xs[0]? := by
      have g := hf 0 _ rfl
      simpa [z9] using g
    have g1 : DataW.trod enc Tryz.prog W 0 (fun _ => true) true k 9 [c1] = xs[1]? := by
      have g := hf 1 _ rfl
      simpa [z9] using g
    have g2 : DataW.trod enc Tryz.prog W 0 (fun _ => true) true k 2 [c2] = xs[2]? := by
      have g := hf 2 _ rfl
      simpa [z2] using g
    have g3 : DataW.trod enc Tryz.prog W 0 (fun _ => true) true k 2 [c3] = xs[3]? := by
      have g := hf 3 _ rfl
      simpa [z2] using g
    match xs, hlen with
    | [y0, y1, y2, y3], _ =>
      have g0 : _ = some y0 := g0
      obtain ⟨a0, e0, _, w0⟩ := DataW.trod_string Tryz.underlying9 g0
      injection e0 with e0 _
      subst e0
      have g1 : _ = some y1 := g1
      obtain ⟨a1, e1, _, w1⟩ := DataW.trod_string Tryz.underlying9 g1
      injection e1 with e1 _
      subst e1
      have g2 : _ = some y2 := g2
      obtain ⟨a2, e2, _, w2⟩ := DataW.trod_int Tryz.underlying2 g2
      injection e2 with e2 _
      subst e2
      have g3 : _ = some y3 := g3
      obtain ⟨a3, e3, _, w3⟩ := DataW.trod_int Tryz.underlying2 g3
      injection e3 with e3 _
      subst e3
      exact ⟨⟨a0, a1, a2, a3⟩, rfl, w0, w1, w2, w3⟩
set_option maxRecDepth 100000 in
theorem cellsAcc : Tryz.prog.cellsOf 37 = 4 := by kernel_rfl
set_option maxRecDepth 100000 in
theorem openAccs {H : Type} {enc : TypeId × Value → H} {W : World} {v : Value} {d : DataW H} {p : List MemPlace} {r : Reach} {b0 : Nat} (hv : Value.okWide Tryz.prog W r b0 22 v) (h : DataW.Trod enc Tryz.prog W 0 (fun _ => true) true 22 v d p) :
    ∃ A n c xs, v = .slice A n c ∧ n ≤ c ∧ Row accT W A n xs ∧ ∀ x ∈ xs, accWf x := open_row accT accWf accOpen Tryz.underlying22 cellsAcc hv h
set_option maxRecDepth 100000 in
theorem openAcc {H : Type} {enc : TypeId × Value → H} {W : World} {v : Value} {d : DataW H} {p : List MemPlace} {r : Reach} {b0 : Nat} (hv : Value.okWide Tryz.prog W r b0 37 v) (h : DataW.Trod enc Tryz.prog W 0 (fun _ => true) true 37 v d p) :
    ∃ o, v = .agg (accC o).toArray ∧ accWf o := by
  obtain ⟨cs, rfl, hsz⟩ := okWide_struct Tryz.underlying37 hv
  obtain ⟨fuel, hf⟩ := h
  rw [cellsAcc] at hsz
  have hc : (Value.agg cs).cells = cs := rfl
  rw [hc] at hf
  obtain ⟨o, e, w⟩ := accOpen fuel cs.toList _ (by rw [Array.length_toList]; exact hsz) hf
  exact ⟨o, by rw [← e], w⟩
end Go.Proofs.YtnpinolhhnpniaaGreat
set_option linter.unusedSimpArgs false
set_option linter.unusedVariables false
namespace Go.Proofs.YtnpinolhhnpniaaGreat
open Go.RowKit Go.ChangeShapes Go.WideShapes Go.ChangeAt Go.Deep
def legWf (o : Due) : Prop := o.who.size ≤ maxLen ∧ o.asset.size ≤ maxLen ∧ (Lit.int .i64 o.amount).wf = true
set_option maxRecDepth 100000 in
theorem legOpen {H : Type} {enc : TypeId × Value → H} {W : World} (m : Nat) (cs : List Value) (x : DataW H × List MemPlace) (hl : cs.length = 3) (h : DataW.trod enc Tryz.prog W 0 (fun _ => true) true m 52 cs = some x) : ∃ o, cs = legC o ∧ legWf o := by
  obtain ⟨xs, k, _, _, _, hlen, hf⟩ := DataW.trod_struct Tryz.underlying52 h
  match cs, hl with
  | [c0, c1, c2], _ =>
    have z2 : Tryz.prog.cellsOf 2 = 1 := by kernel_rfl
    have z9 : Tryz.prog.cellsOf 9 = 1 := by kernel_rfl
    have g0 : DataW.trod enc Tryz.prog W 0 (fun _ => true) true k 9 [c0] = xs[0]? := by
      have g := hf 0 _ rfl
      simpa [z9] using g
    have g1 : DataW.trod enc Tryz.prog W 0 (fun _ => true) true k 9 [c1] = xs[1]? := by
      have g := hf 1 _ rfl
      simpa [z9] using g
    have g2 : DataW.trod enc Tryz.prog W 0 (fun _ => true) true k 2 [c2] = xs[2]? := by
      have g := hf 2 _ rfl
      simpa [z2] using g
    match xs, hlen with
    | [y0, y1, y2], _ =>
      have g0 : _ = some y0 := g0
      obtain ⟨a0, e0, _, w0⟩ := DataW.trod_string Tryz.underlying9 g0
      injection e0 with e0 _
      subst e0
      have g1 : _ = some y1 := g1
      obtain ⟨a1, e1, _, w1⟩ := DataW.trod_string Tryz.underlying9 g1
      injection e1 with e1 _
      subst e1
      have g2 : _ = some y2 := g2
      obtain ⟨a2, e2, _, w2⟩ := DataW.trod_int Tryz.underlying2 g2
      injection e2 with e2 _
      subst e2
      exact ⟨⟨a0, a1, a2⟩, rfl, w0, w1, w2⟩
set_option maxRecDepth 100000 in
theorem cellsLeg : Tryz.prog.cellsOf 52 = 3 := by kernel_rfl
set_option maxRecDepth 100000 in
theorem openLegs {H : Type} {enc : TypeId × Value → H} {W : World} {v : Value} {d : DataW H} {p : List MemPlace} {r : Reach} {b0 : Nat} (hv : Value.okWide Tryz.prog W r b0 29 v) (h : DataW.Trod enc Tryz.prog W 0 (fun _ => true) true 29 v d p) :
    ∃ A n c xs, v = .slice A n c ∧ n ≤ c ∧ Row legT W A n xs ∧ ∀ x ∈ xs, legWf x := open_row legT legWf legOpen Tryz.underlying29 cellsLeg hv h
set_option maxRecDepth 100000 in
theorem openLeg {H : Type} {enc : TypeId × Value → H} {W : World} {v : Value} {d : DataW H} {p : List MemPlace} {r : Reach} {b0 : Nat} (hv : Value.okWide Tryz.prog W r b0 52 v) (h : DataW.Trod enc Tryz.prog W 0 (fun _ => true) true 52 v d p) :
    ∃ o, v = .agg (legC o).toArray ∧ legWf o := by
  obtain ⟨cs, rfl, hsz⟩ := okWide_struct Tryz.underlying52 hv
  obtain ⟨fuel, hf⟩ := h
  rw [cellsLeg] at hsz
  have hc : (Value.agg cs).cells = cs := rfl
  rw [hc] at hf
  obtain ⟨o, e, w⟩ := legOpen fuel cs.toList _ (by rw [Array.length_toList]; exact hsz) hf
  exact ⟨o, by rw [← e], w⟩
end Go.Proofs.YtnpinolhhnpniaaGreat
set_option linter.unusedSimpArgs false
set_option linter.unusedVariables false
namespace Go.Proofs.YtnpinolhhnpniaaGreat
open Go.RowKit Go.ChangeShapes Go.WideShapes Go.ChangeAt Go.Deep
def dueWf (o : Due) : Prop := o.who.size ≤ maxLen ∧ o.asset.size ≤ maxLen ∧ (Lit.int .i64 o.amount).wf = true
set_option maxRecDepth 100000 in
theorem dueOpen {H : Type} {enc : TypeId × Value → H} {W : World} (m : Nat) (cs : List Value) (x : DataW H × List MemPlace) (hl : cs.length = 3) (h : DataW.trod enc Tryz.prog W 0 (fun _ => true) true m 39 cs = some x) : ∃ o, cs = dueC o ∧ dueWf o := by
  obtain ⟨xs, k, _, _, _, hlen, hf⟩ := DataW.trod_struct Tryz.underlying39 h
  match cs, hl with
  | [c0, c1, c2], _ =>
    have z2 : Tryz.prog.cellsOf 2 = 1 := by kernel_rfl
    have z9 : Tryz.prog.cellsOf 9 = 1 := by kernel_rfl
    have g0 : DataW.trod enc Tryz.prog W 0 (fun _ => true) true k 9 [c0] = xs[0]? := by
      have g := hf 0 _ rfl
      simpa [z9] using g
    have g1 : DataW.trod enc Tryz.prog W 0 (fun _ => true) true k 9 [c1] = xs[1]? := by
      have g := hf 1 _ rfl
      simpa [z9] using g
    have g2 : DataW.trod enc Tryz.prog W 0 (fun _ => true) true k 2 [c2] = xs[2]? := by
      have g := hf 2 _ rfl
      simpa [z2] using g
    match xs, hlen with
    | [y0, y1, y2], _ =>
      have g0 : _ = some y0 := g0
      obtain ⟨a0, e0, _, w0⟩ := DataW.trod_string Tryz.underlying9 g0
      injection e0 with e0 _
      subst e0
      have g1 : _ = some y1 := g1
      obtain ⟨a1, e1, _, w1⟩ := DataW.trod_string Tryz.underlying9 g1
      injection e1 with e1 _
      subst e1
      have g2 : _ = some y2 := g2
      obtain ⟨a2, e2, _, w2⟩ := DataW.trod_int Tryz.underlying2 g2
      injection e2 with e2 _
      subst e2
      exact ⟨⟨a0, a1, a2⟩, rfl, w0, w1, w2⟩
set_option maxRecDepth 100000 in
theorem cellsDue : Tryz.prog.cellsOf 39 = 3 := by kernel_rfl
set_option maxRecDepth 100000 in
theorem openDues {H : Type} {enc : TypeId × Value → H} {W : World} {v : Value} {d : DataW H} {p : List MemPlace} {r : Reach} {b0 : Nat} (hv : Value.okWide Tryz.prog W r b0 23 v) (h : DataW.Trod enc Tryz.prog W 0 (fun _ => true) true 23 v d p) :
    ∃ A n c xs, v = .slice A n c ∧ n ≤ c ∧ Row dueT W A n xs ∧ ∀ x ∈ xs, dueWf x := open_row dueT dueWf dueOpen Tryz.underlying23 cellsDue hv h
set_option maxRecDepth 100000 in
theorem openDue {H : Type} {enc : TypeId × Value → H} {W : World} {v : Value} {d : DataW H} {p : List MemPlace} {r : Reach} {b0 : Nat} (hv : Value.okWide Tryz.prog W r b0 39 v) (h : DataW.Trod enc Tryz.prog W 0 (fun _ => true) true 39 v d p) :
    ∃ o, v = .agg (dueC o).toArray ∧ dueWf o := by
  obtain ⟨cs, rfl, hsz⟩ := okWide_struct Tryz.underlying39 hv
  obtain ⟨fuel, hf⟩ := h
  rw [cellsDue] at hsz
  have hc : (Value.agg cs).cells = cs := rfl
  rw [hc] at hf
  obtain ⟨o, e, w⟩ := dueOpen fuel cs.toList _ (by rw [Array.length_toList]; exact hsz) hf
  exact ⟨o, by rw [← e], w⟩
end Go.Proofs.YtnpinolhhnpniaaGreat
set_option linter.unusedSimpArgs false
set_option linter.unusedVariables false
namespace Go.Proofs.YtnpinolhhnpniaaGreat
open Go.RowKit Go.Lib
def accEq (x y : Acc) : Bool := decide (x.who = y.who) && (decide (x.asset = y.asset) && (decide (x.balance = y.balance) && (decide (x.held = y.held))))
theorem accEq_iff (x y : Acc) : accEq x y = true ↔ x = y := by
  obtain ⟨p0, p1, p2, p3⟩ := x
  obtain ⟨q0, q1, q2, q3⟩ := y
  simp [accEq]
theorem neqAcc (a0 : ByteArray) (a1 : ByteArray) (a2 : Int) (a3 : Int) (b0 : ByteArray) (b1 : ByteArray) (b2 : Int) (b3 : Int) (w : World) : (binOp .neq 37 (.agg #[.string a0, .string a1, .int .i64 a2, .int .i64 a3]) (.agg #[.string b0, .string b1, .int .i64 b2, .int .i64 b3])).run Tryz.prog w = .ok (.bool (!accEq ⟨a0, a1, a2, a3⟩ ⟨b0, b1, b2, b3⟩)) w := by
  have ui64 := Tryz.underlying2
  have ii64 := Tryz.isAgg2
  have zi64 := Tryz.sizeOf2
  have ustring := Tryz.underlying9
  have istring := Tryz.isAgg9
  have zstring := Tryz.sizeOf9
  have hS : Tryz.prog.underlying 37 = some (.struct (Tryz.prog.fieldsOf 37)) := by kernel_rfl
  have hp : Tryz.prog.stoodInHeld 37 = false := by kernel_rfl
  rw [run_neq_struct, show (10000 : Nat) = 9999 + 1 from rfl, run_equalIn_agg w 9999 37 _ _ hS hp]
  simp only [Program.fieldsOf, Tryz.underlying37]
  go_simp
  simp only [accEq]
  by_cases h0 : a0 = b0 <;> by_cases h1 : a1 = b1 <;> by_cases h2 : a2 = b2 <;> by_cases h3 : a3 = b3 <;> simp [listsIff, h0, h1, h2, h3]
theorem eqlAcc (a0 : ByteArray) (a1 : ByteArray) (a2 : Int) (a3 : Int) (b0 : ByteArray) (b1 : ByteArray) (b2 : Int) (b3 : Int) (w : World) : (binOp .eql 37 (.agg #[.string a0, .string a1, .int .i64 a2, .int .i64 a3]) (.agg #[.string b0, .string b1, .int .i64 b2, .int .i64 b3])).run Tryz.prog w = .ok (.bool (accEq ⟨a0, a1, a2, a3⟩ ⟨b0, b1, b2, b3⟩)) w := by
  have ui64 := Tryz.underlying2
  have ii64 := Tryz.isAgg2
  have zi64 := Tryz.sizeOf2
  have ustring := Tryz.underlying9
  have istring := Tryz.isAgg9
  have zstring := Tryz.sizeOf9
  have hS : Tryz.prog.underlying 37 = some (.struct (Tryz.prog.fieldsOf 37)) := by kernel_rfl
  have hp : Tryz.prog.stoodInHeld 37 = false := by kernel_rfl
  rw [run_eql_struct, show (10000 : Nat) = 9999 + 1 from rfl, run_equalIn_agg w 9999 37 _ _ hS hp]
  simp only [Program.fieldsOf, Tryz.underlying37]
  go_simp
  simp only [accEq]
  by_cases h0 : a0 = b0 <;> by_cases h1 : a1 = b1 <;> by_cases h2 : a2 = b2 <;> by_cases h3 : a3 = b3 <;> simp [listsIff, h0, h1, h2, h3]
set_option maxRecDepth 10000 in
set_option maxHeartbeats 1000000 in
theorem sameAcc_any (A : Option Addr) (n c : Nat) (xs : List Acc) (B : Option Addr) (m d : Nat) (ys : List Acc) (w : World) (hA : Row accT w A n xs) (hB : Row accT w B m ys) :
    Calls Tryz.prog 14 #[.slice A n c, .slice B m d] w fun e w' => e = .returned (.bool (eqB xs ys)) ∧ Bel w w' := by
  have hn := hA.2.1
  have hm := hB.2.1
  obtain ⟨q, hq⟩ : ∃ q, eqB xs ys = q := ⟨_, rfl⟩
  rw [hq]
  have HQ := hid_ hq
  have HL1 := hid_ hA.1
  have HL2 := hid_ hB.1
  clear hq
  go_enter Tryz.func14, Tryz.ntmps14
  by_cases hl : n = m
  · subst hl
    go_wp2_with fail
    go_loopw [5] (fun i wr => ∃ j : Nat, j ≤ n ∧ i = .int .i64 j ∧ Hid (xs.take j = ys.take j) ∧ Bel w wr) (fun i _ => n - (intOf i).toNat)
    case atStart => exact ⟨0, Nat.zero_le _, rfl, hid_ rfl, Bel.refl _⟩
    case round =>
      obtain ⟨j, hj, rfl, hx, hb⟩ := hrel
      have BR := hid_ hb
      by_cases hjn : j < n
      · obtain ⟨ad, a0, a1, a2, a3, rfl, ho, d0, d1, d2, d3⟩ := (hA.bel hb).acc hjn
        obtain ⟨bd, b0, b1, b2, b3, rfl, ho', e0, e1, e2, e3⟩ := (hB.bel hb).acc hjn
        have hneq := neqAcc a0 a1 a2 a3 b0 b1 b2 b3
        obtain ⟨r, hr⟩ : ∃ r, accEq ⟨a0, a1, a2, a3⟩ ⟨b0, b1, b2, b3⟩ = r := ⟨_, rfl⟩
        rw [hr] at hneq
        have HR := hid_ hr
        have HO := hid_ ho
        have HO' := hid_ ho'
        have i0 : (0 : Int) ≤ (j : Int) := by omega
        have i1 : (j : Int) < (n : Int) := by omega
        clear hr ho ho' hb
        go_upto_region 6 with (fail)
        cases r
        · have HF : Hid (q = false) := hid_ (by
            rw [← HQ.out]
            refine eqB_0 fun e => ?_
            have h1 := HO.out
            rw [e, HO'.out] at h1
            have h2 := (accEq_iff ⟨a0, a1, a2, a3⟩ ⟨b0, b1, b2, b3⟩).2 (Option.some.inj h1).symm
            rw [HR.out] at h2
            cases h2)
          clear hx HO HO' HR
          go_quiet (fail)
          go_wp2
          go_ret
          exact ⟨by rw [HF.out]; rfl, BR.out.drewN _⟩
        · have HX : Hid (xs.take (j + 1) = ys.take (j + 1)) := hid_ (by
            rw [List.take_add_one, List.take_add_one, HO.out, HO'.out, hx.out, (accEq_iff ⟨a0, a1, a2, a3⟩ ⟨b0, b1, b2, b3⟩).1 HR.out])
          clear hx HO HO' HR
          go_quiet (fail)
          go_wp2
          go_roundw
          case rel => exact ⟨j + 1, by omega, by go_num, HX, BR.out.drewN _⟩
          case measure => simp [intOf]; omega
      · obtain rfl : j = n := by omega
        have HF : Hid (q = true) := hid_ (by
          rw [← HQ.out]
          refine eqB_1 ?_
          have h1 := hx.out
          rw [List.take_of_length_le (by rw [HL1.out]; omega), List.take_of_length_le (by rw [HL2.out]; omega)] at h1
          exact h1)
        clear hx hb
        go_wp2
        go_ret
        exact ⟨by rw [HF.out]; rfl, BR.out⟩
  · have HF : Hid (q = false) := hid_ (by
      rw [← HQ.out]
      exact eqB_0 fun e => hl (by rw [← HL1.out, ← HL2.out, e]))
    have e1 : ((n : Int) != (m : Int)) = true := by simp; omega
    go_wp2
    go_ret
    exact ⟨by rw [HF.out]; rfl, Bel.refl _⟩
end Go.Proofs.YtnpinolhhnpniaaGreat
set_option linter.unusedSimpArgs false
set_option linter.unusedVariables false
namespace Go.Proofs.YtnpinolhhnpniaaGreat
open Go.RowKit Go.Lib
def legEq (x y : Due) : Bool := decide (x.who = y.who) && (decide (x.asset = y.asset) && (decide (x.amount = y.amount)))
theorem legEq_iff (x y : Due) : legEq x y = true ↔ x = y := by
  obtain ⟨p0, p1, p2⟩ := x
  obtain ⟨q0, q1, q2⟩ := y
  simp [legEq]
theorem neqLeg (a0 : ByteArray) (a1 : ByteArray) (a2 : Int) (b0 : ByteArray) (b1 : ByteArray) (b2 : Int) (w : World) : (binOp .neq 52 (.agg #[.string a0, .string a1, .int .i64 a2]) (.agg #[.string b0, .string b1, .int .i64 b2])).run Tryz.prog w = .ok (.bool (!legEq ⟨a0, a1, a2⟩ ⟨b0, b1, b2⟩)) w := by
  have ui64 := Tryz.underlying2
  have ii64 := Tryz.isAgg2
  have zi64 := Tryz.sizeOf2
  have ustring := Tryz.underlying9
  have istring := Tryz.isAgg9
  have zstring := Tryz.sizeOf9
  have hS : Tryz.prog.underlying 52 = some (.struct (Tryz.prog.fieldsOf 52)) := by kernel_rfl
  have hp : Tryz.prog.stoodInHeld 52 = false := by kernel_rfl
  rw [run_neq_struct, show (10000 : Nat) = 9999 + 1 from rfl, run_equalIn_agg w 9999 52 _ _ hS hp]
  simp only [Program.fieldsOf, Tryz.underlying52]
  go_simp
  simp only [legEq]
  by_cases h0 : a0 = b0 <;> by_cases h1 : a1 = b1 <;> by_cases h2 : a2 = b2 <;> simp [listsIff, h0, h1, h2]
theorem eqlLeg (a0 : ByteArray) (a1 : ByteArray) (a2 : Int) (b0 : ByteArray) (b1 : ByteArray) (b2 : Int) (w : World) : (binOp .eql 52 (.agg #[.string a0, .string a1, .int .i64 a2]) (.agg #[.string b0, .string b1, .int .i64 b2])).run Tryz.prog w = .ok (.bool (legEq ⟨a0, a1, a2⟩ ⟨b0, b1, b2⟩)) w := by
  have ui64 := Tryz.underlying2
  have ii64 := Tryz.isAgg2
  have zi64 := Tryz.sizeOf2
  have ustring := Tryz.underlying9
  have istring := Tryz.isAgg9
  have zstring := Tryz.sizeOf9
  have hS : Tryz.prog.underlying 52 = some (.struct (Tryz.prog.fieldsOf 52)) := by kernel_rfl
  have hp : Tryz.prog.stoodInHeld 52 = false := by kernel_rfl
  rw [run_eql_struct, show (10000 : Nat) = 9999 + 1 from rfl, run_equalIn_agg w 9999 52 _ _ hS hp]
  simp only [Program.fieldsOf, Tryz.underlying52]
  go_simp
  simp only [legEq]
  by_cases h0 : a0 = b0 <;> by_cases h1 : a1 = b1 <;> by_cases h2 : a2 = b2 <;> simp [listsIff, h0, h1, h2]
set_option maxRecDepth 10000 in
set_option maxHeartbeats 1000000 in
theorem sameLeg_any (A : Option Addr) (n c : Nat) (xs : List Due) (B : Option Addr) (m d : Nat) (ys : List Due) (w : World) (hA : Row legT w A n xs) (hB : Row legT w B m ys) :
    Calls Tryz.prog 15 #[.slice A n c, .slice B m d] w fun e w' => e = .returned (.bool (eqB xs ys)) ∧ Bel w w' := by
  have hn := hA.2.1
  have hm := hB.2.1
  obtain ⟨q, hq⟩ : ∃ q, eqB xs ys = q := ⟨_, rfl⟩
  rw [hq]
  have HQ := hid_ hq
  have HL1 := hid_ hA.1
  have HL2 := hid_ hB.1
  clear hq
  go_enter Tryz.func15, Tryz.ntmps15
  by_cases hl : n = m
  · subst hl
    go_wp2_with fail
    go_loopw [5] (fun i wr => ∃ j : Nat, j ≤ n ∧ i = .int .i64 j ∧ Hid (xs.take j = ys.take j) ∧ Bel w wr) (fun i _ => n - (intOf i).toNat)
    case atStart => exact ⟨0, Nat.zero_le _, rfl, hid_ rfl, Bel.refl _⟩
    case round =>
      obtain ⟨j, hj, rfl, hx, hb⟩ := hrel
      have BR := hid_ hb
      by_cases hjn : j < n
      · obtain ⟨ad, a0, a1, a2, rfl, ho, d0, d1, d2⟩ := (hA.bel hb).leg hjn
        obtain ⟨bd, b0, b1, b2, rfl, ho', e0, e1, e2⟩ := (hB.bel hb).leg hjn
        have hneq := neqLeg a0 a1 a2 b0 b1 b2
        obtain ⟨r, hr⟩ : ∃ r, legEq ⟨a0, a1, a2⟩ ⟨b0, b1, b2⟩ = r := ⟨_, rfl⟩
        rw [hr] at hneq
        have HR := hid_ hr
        have HO := hid_ ho
        have HO' := hid_ ho'
        have i0 : (0 : Int) ≤ (j : Int) := by omega
        have i1 : (j : Int) < (n : Int) := by omega
        clear hr ho ho' hb
        go_upto_region 6 with (fail)
        cases r
        · have HF : Hid (q = false) := hid_ (by
            rw [← HQ.out]
            refine eqB_0 fun e => ?_
            have h1 := HO.out
            rw [e, HO'.out] at h1
            have h2 := (legEq_iff ⟨a0, a1, a2⟩ ⟨b0, b1, b2⟩).2 (Option.some.inj h1).symm
            rw [HR.out] at h2
            cases h2)
          clear hx HO HO' HR
          go_quiet (fail)
          go_wp2
          go_ret
          exact ⟨by rw [HF.out]; rfl, BR.out.drewN _⟩
        · have HX : Hid (xs.take (j + 1) = ys.take (j + 1)) := hid_ (by
            rw [List.take_add_one, List.take_add_one, HO.out, HO'.out, hx.out, (legEq_iff ⟨a0, a1, a2⟩ ⟨b0, b1, b2⟩).1 HR.out])
          clear hx HO HO' HR
          go_quiet (fail)
          go_wp2
          go_roundw
          case rel => exact ⟨j + 1, by omega, by go_num, HX, BR.out.drewN _⟩
          case measure => simp [intOf]; omega
      · obtain rfl : j = n := by omega
        have HF : Hid (q = true) := hid_ (by
          rw [← HQ.out]
          refine eqB_1 ?_
          have h1 := hx.out
          rw [List.take_of_length_le (by rw [HL1.out]; omega), List.take_of_length_le (by rw [HL2.out]; omega)] at h1
          exact h1)
        clear hx hb
        go_wp2
        go_ret
        exact ⟨by rw [HF.out]; rfl, BR.out⟩
  · have HF : Hid (q = false) := hid_ (by
      rw [← HQ.out]
      exact eqB_0 fun e => hl (by rw [← HL1.out, ← HL2.out, e]))
    have e1 : ((n : Int) != (m : Int)) = true := by simp; omega
    go_wp2
    go_ret
    exact ⟨by rw [HF.out]; rfl, Bel.refl _⟩
end Go.Proofs.YtnpinolhhnpniaaGreat
set_option linter.unusedSimpArgs false
set_option linter.unusedVariables false
namespace Go.Proofs.YtnpinolhhnpniaaGreat
open Go.RowKit Go.Lib
def dueShort (a : Due) : Bool := decide (a.who.size ≤ 100) && decide (a.asset.size ≤ 100)
def few18 (l : List Acc) (ds : List Due) : Bool := decide (l.length ≤ 100) && (decide (ds.length ≤ 100) && (okL l && ds.all dueShort))
theorem few18_iff {l : List Acc} {ds : List Due} : few18 l ds = true ↔ l.length ≤ 100 ∧ ds.length ≤ 100 ∧ OkL l ∧ ∀ a ∈ ds, a.who.size ≤ 100 ∧ a.asset.size ≤ 100 := by
  unfold few18 dueShort
  rw [← okL_iff]
  simp only [Bool.and_eq_true, decide_eq_true_eq, List.all_eq_true]
theorem few18_no {l : List Acc} {ds : List Due} (h : ¬ (l.length ≤ 100 ∧ ds.length ≤ 100 ∧ okL l = true ∧ ds.all dueShort = true)) : few18 l ds = false := by
  cases h2 : few18 l ds
  · rfl
  · unfold few18 at h2
    simp only [Bool.and_eq_true, decide_eq_true_eq] at h2
    exact absurd h2 h
set_option maxRecDepth 10000 in
set_option maxHeartbeats 2000000 in
theorem few18_any (A : Option Addr) (n c : Nat) (l : List Acc) (B : Option Addr) (m d : Nat) (ds : List Due) (w : World) (hA : Row accT w A n l) (hB : Row dueT w B m ds) (hz : ∀ a ∈ l, a.who.size ≤ 9223372036854775807 ∧ a.asset.size ≤ 9223372036854775807) :
    Calls Tryz.prog 5 #[.slice A n c, .slice B m d] w fun e w' => e = .returned (.bool (few18 l ds)) ∧ Bel w w' := by
  have hn63 := hA.2.1
  have hm63 := hB.2.1
  have HA := hid_ hA
  have HB := hid_ hB
  have HL := hid_ hA.1
  have HLB := hid_ hB.1
  have HZ := hid_ hz
  obtain ⟨q, hq⟩ : ∃ q, few18 l ds = q := ⟨_, rfl⟩
  rw [hq]
  have HQ := hid_ hq
  clear hq hA hB hz
  go_enter Tryz.func5, Tryz.ntmps5
  by_cases h1 : 100 < n
  · have HF : Hid (q = false) := hid_ (by rw [← HQ.out]; exact few18_no (fun h => by have := h.1; rw [HL.out] at this; omega))
    go_wp2
    go_ret
    exact ⟨by rw [HF.out]; rfl, Bel.refl _⟩
  have d1 : decide (100 < n) = false := decide_eq_false h1
  by_cases h2 : 100 < m
  · have HF : Hid (q = false) := hid_ (by rw [← HQ.out]; exact few18_no (fun h => by have := h.2.1; rw [HLB.out] at this; omega))
    go_wp2
    go_ret
    exact ⟨by rw [HF.out]; rfl, Bel.refl _⟩
  have d2 : decide (100 < m) = false := decide_eq_false h2
  have HNN : Hid (n ≤ 100 ∧ m ≤ 100) := hid_ ⟨by omega, by omega⟩
  go_wp2_with fail
  refine (checkA_any A n c l w HA.out HZ.out).mono ?_
  rintro e w1 ⟨rfl, b1⟩
  have B1 := hid_ b1
  clear b1
  obtain ⟨ok, hok⟩ : ∃ b, okL l = b := ⟨_, rfl⟩
  rw [show chkAE l = if ok then 0 else 110 from by unfold chkAE; rw [hok]]
  cases ok
  · have HF : Hid (q = false) := hid_ (by rw [← HQ.out]; exact few18_no (fun h => by have := h.2.2.1; rw [hok] at this; cases this))
    rw [show (if false = true then (0 : Int) else 110) = 110 from rfl]
    clear hok
    go_wp2
    go_ret
    exact ⟨by rw [HF.out]; rfl, B1.out⟩
  rw [show (if true = true then (0 : Int) else 110) = 0 from rfl]
  have HOK := hid_ hok
  clear hok
  go_wp2_with fail
  clear d1 h1 d2 h2
  go_loop [5] (fun i => ∃ k : Nat, k ≤ m ∧ i = .int .i64 k ∧ Hid ((ds.take k).all dueShort = true)) (fun i => m - (intOf i).toNat)
  case atStart => exact ⟨0, Nat.zero_le _, rfl, hid_ rfl⟩
  case round =>
    obtain ⟨j, hj, rfl, hx⟩ := hrel
    by_cases hjm : j < m
    · obtain ⟨ad, who, asset, amount, rfl, ho, e0, e1, e2⟩ := (HB.out.bel B1.out).due hjm
      have HS := hid_ (all_take' dueShort ds j ho)
      have HFA := hid_ (all_false' dueShort ds j ho)
      clear ho
      have i0 : (0 : Int) ≤ (j : Int) := by omega
      have i1 : (j : Int) < (m : Int) := by omega
      by_cases q1 : (100 : Int) < (who.size : Int)
      · have HF : Hid (q = false) := hid_ (by rw [← HQ.out]; exact few18_no (fun h => by have h := h.2.2.2; rw [HFA.out (by unfold dueShort; rw [decide_eq_false (show ¬ who.size ≤ 100 by omega)]; rfl)] at h; cases h))
        clear hx HS HFA
        go_wp2
        go_ret
        exact ⟨by rw [HF.out]; rfl, B1.out⟩
      by_cases q2 : (100 : Int) < (asset.size : Int)
      · have HF : Hid (q = false) := hid_ (by rw [← HQ.out]; exact few18_no (fun h => by have h := h.2.2.2; rw [HFA.out (by unfold dueShort; rw [decide_eq_false (show ¬ asset.size ≤ 100 by omega), Bool.and_false])] at h; cases h))
        clear hx HS HFA
        go_wp2
        go_ret
        exact ⟨by rw [HF.out]; rfl, B1.out⟩
      · have HX : Hid ((ds.take (j + 1)).all dueShort = true) := hid_ (by rw [HS.out, hx.out]; unfold dueShort; rw [decide_eq_true (show who.size ≤ 100 by omega), decide_eq_true (show asset.size ≤ 100 by omega)]; rfl)
        clear hx HS HFA
        go_wp2
        case roundEnd =>
          go_round
          case rel => exact ⟨j + 1, by omega, by go_num, HX⟩
          case measure => simp [intOf]; omega
    · obtain rfl : j = m := by omega
      have HF : Hid (q = true) := hid_ (by
        have h2 := hx.out
        rw [List.take_of_length_le (by rw [HLB.out]; exact Nat.le_refl _)] at h2
        rw [← HQ.out]
        unfold few18
        rw [h2, HLB.out, HL.out, decide_eq_true HNN.out.1, decide_eq_true HNN.out.2, HOK.out]
        rfl)
      clear hx hjm
      go_wp2
      go_ret
      exact ⟨by rw [HF.out]; rfl, B1.out⟩
end Go.Proofs.YtnpinolhhnpniaaGreat
set_option linter.unusedSimpArgs false
set_option linter.unusedVariables false
namespace Go.Proofs.YtnpinolhhnpniaaGreat
open Go.RowKit Go.Lib
abbrev annT : ByteArray := ⟨#[97, 110, 110]⟩
abbrev bobT : ByteArray := ⟨#[98, 111, 98]⟩
abbrev usdT : ByteArray := ⟨#[85, 83, 68]⟩
abbrev xyzT : ByteArray := ⟨#[88, 89, 90]⟩
abbrev acT0 : List Acc := [⟨annT, usdT, 100, 80⟩, ⟨bobT, xyzT, 4, 4⟩]
abbrev duT0 : List Due := [⟨annT, xyzT, 4⟩, ⟨annT, usdT, -80⟩, ⟨bobT, xyzT, -4⟩, ⟨bobT, usdT, 80⟩]
abbrev acT1 : List Acc := [⟨annT, usdT, 20, 0⟩, ⟨annT, xyzT, 4, 0⟩, ⟨bobT, usdT, 80, 0⟩]
abbrev acT2 : List Acc := [⟨annT, usdT, 100, 0⟩, ⟨bobT, xyzT, 4, 0⟩]
abbrev leT : List Due := [⟨annT, usdT, -80⟩, ⟨annT, xyzT, 4⟩, ⟨bobT, usdT, 80⟩, ⟨bobT, xyzT, -4⟩]
theorem aw18a : sfE acT0 duT0 = 0 := by decide +kernel
theorem aw18b : sfO acT0 duT0 = acT2 := by kernel_rfl
theorem aw18c : slE duT0 = 0 := by decide +kernel
theorem aw18d : slO duT0 = leT := by kernel_rfl
theorem aw18e : stE acT0 duT0 = 0 := by decide +kernel
theorem aw18f : stO acT0 duT0 = acT1 := by kernel_rfl
theorem aw18g : stL acT0 duT0 = leT := by kernel_rfl
theorem aw18h : sgE acT0 duT0 = 0 := by decide +kernel
theorem aw18i : sgO acT0 duT0 = acT1 := by kernel_rfl
theorem aw18j : stE acT0 (duT0.take 2) = 120 := by decide +kernel
theorem aw18k : stO acT0 (duT0.take 2) = [] := by kernel_rfl
theorem aw18l : stL acT0 (duT0.take 2) = [] := by kernel_rfl
theorem aw18m : OkL acT0 := okL_iff.1 (by decide +kernel)
theorem aw18n : BalI acT0 := by unfold BalI; decide +kernel
theorem aw18z : DueI duT0 := ⟨by decide, by unfold i64w'; decide +kernel⟩
theorem aw18y : DueI (duT0.take 2) := ⟨by decide, fun x hx => aw18z.sz x (List.mem_of_mem_take hx)⟩
set_option maxRecDepth 10000 in
set_option maxHeartbeats 4000000 in
theorem awake18 (w : World) : Calls Tryz.prog 4 #[] w fun e w' => e = .returned (.bool true) ∧ Bel w w' := by
  have RA0 : Row accT (w.alloc (.cells #[.string annT, .string usdT, .int .i64 100, .int .i64 80, .string bobT, .string xyzT, .int .i64 4, .int .i64 4] 37)) (some ⟨w.heap.size, 0, none⟩) 2 acT0 := Row.lit (T := accT) w acT0 (0, 0) (by decide)
  have RD0 : Row dueT ((w.alloc (.cells #[.string annT, .string usdT, .int .i64 100, .int .i64 80, .string bobT, .string xyzT, .int .i64 4, .int .i64 4] 37)).alloc (.cells #[.string annT, .string xyzT, .int .i64 4, .string annT, .string usdT, .int .i64 (-80), .string bobT, .string xyzT, .int .i64 (-4), .string bobT, .string usdT, .int .i64 80] 39)) (some ⟨(w.alloc (.cells #[.string annT, .string usdT, .int .i64 100, .int .i64 80, .string bobT, .string xyzT, .int .i64 4, .int .i64 4] 37)).heap.size, 0, none⟩) 4 duT0 := Row.lit (T := dueT) _ duT0 (0, 0) (by decide)
  have FA := hid_ (RA0.bel ((Bel.refl _).alloc (.cells #[.string annT, .string xyzT, .int .i64 4, .string annT, .string usdT, .int .i64 (-80), .string bobT, .string xyzT, .int .i64 (-4), .string bobT, .string usdT, .int .i64 80] 39)))
  rw [sizeAl] at RD0
  have FD := hid_ RD0
  have FB := hid_ (((Bel.refl w).alloc (.cells #[.string annT, .string usdT, .int .i64 100, .int .i64 80, .string bobT, .string xyzT, .int .i64 4, .int .i64 4] 37)).alloc (.cells #[.string annT, .string xyzT, .int .i64 4, .string annT, .string usdT, .int .i64 (-80), .string bobT, .string xyzT, .int .i64 (-4), .string bobT, .string usdT, .int .i64 80] 39))
  clear RA0 RD0
  go_enter Tryz.func4, Tryz.ntmps4
  go_wp2_with fail
  generalize (w.alloc (.cells #[.string annT, .string usdT, .int .i64 100, .int .i64 80, .string bobT, .string xyzT, .int .i64 4, .int .i64 4] 37)).alloc (.cells #[.string annT, .string xyzT, .int .i64 4, .string annT, .string usdT, .int .i64 (-80), .string bobT, .string xyzT, .int .i64 (-4), .string bobT, .string usdT, .int .i64 80] 39) = W0 at FA FD FB ⊢
  obtain ⟨gA, hgA⟩ : ∃ g, w.heap.size = g := ⟨_, rfl⟩
  rw [hgA] at FA FD ⊢
  clear hgA
  refine (settle_any (some ⟨gA, 0, none⟩) 2 2 acT0 (some ⟨gA + 1, 0, none⟩) 4 4 duT0 W0 FA.out aw18m aw18n (by decide) FD.out aw18z).mono ?_
  rintro e w1 ⟨v, u, rfl, r, o, b⟩
  rw [aw18e]
  rw [aw18f] at r
  rw [aw18g] at o
  obtain ⟨A1, n1, c1, rfl, hc1, r1⟩ := r
  obtain rfl : n1 = 3 := r1.1.symm
  obtain ⟨A2, c2, rfl, hc2, r2⟩ := o.reads
  have G1 : Hid (Row accT w1 A1 3 acT1) := hid_ r1
  have FB := hid_ (FB.out.trans b)
  have FA := hid_ (FA.out.bel b)
  have FD := hid_ (FD.out.bel b)
  clear b o r1 r2 hc1 hc2
  go_wp2_with fail
  refine (sgross_any (some ⟨gA, 0, none⟩) 2 2 acT0 (some ⟨gA + 1, 0, none⟩) 4 4 duT0 w1 FA.out aw18m aw18n (by decide) FD.out aw18z).mono ?_
  rintro e w2 ⟨v, rfl, r, b⟩
  rw [aw18h]
  rw [aw18i] at r
  obtain ⟨A3, n3, c3, rfl, hc3, r3⟩ := r
  obtain rfl : n3 = 3 := r3.1.symm
  have FB := hid_ (FB.out.trans b)
  have FA := hid_ (FA.out.bel b)
  have FD := hid_ (FD.out.bel b)
  have G1 := hid_ (G1.out.bel b)
  clear b r3 hc3
  have hcut := fun W => dueS.cutTo (P := Tryz.prog) .i64 (some ⟨gA + 1, 0, none⟩) 4 4 2 (by decide) W
  simp only [show ((2 : Nat) : Int) = 2 from rfl] at hcut
  go_wp2_with fail
  refine (settle_any (some ⟨gA, 0, none⟩) 2 2 acT0 (some ⟨gA + 1, 0, none⟩) 2 4 (duT0.take 2) w2 FA.out aw18m aw18n (by decide) (FD.out.take_ (by decide)) aw18y).mono ?_
  rintro e w3 ⟨v, u, rfl, r, o, b⟩
  rw [aw18j]
  rw [aw18k] at r
  rw [aw18l] at o
  obtain ⟨A4, n4, c4, rfl, hc4, r4⟩ := r
  obtain ⟨A5, c5, rfl, hc5, r5⟩ := o.reads
  have FB := hid_ (FB.out.trans b)
  have FA := hid_ (FA.out.bel b)
  have FD := hid_ (FD.out.bel b)
  have G1 := hid_ (G1.out.bel b)
  clear b o r4 r5 hc4 hc5 hcut
  go_wp2_with fail
  refine (sfree_any (some ⟨gA, 0, none⟩) 2 2 acT0 (some ⟨gA + 1, 0, none⟩) 4 4 duT0 w3 FA.out aw18m aw18n (by decide) FD.out (by decide) aw18z.sz aw18z.gross).mono ?_
  rintro e w4 ⟨v, rfl, r, b⟩
  rw [aw18a]
  rw [aw18b] at r
  obtain ⟨A6, n6, c6, rfl, hc6, r6⟩ := r
  obtain rfl : n6 = 2 := r6.1.symm
  have G2 : Hid (Row accT w4 A6 2 acT2) := hid_ r6
  have FB := hid_ (FB.out.trans b)
  have FD := hid_ (FD.out.bel b)
  have G1 := hid_ (G1.out.bel b)
  clear b r6 hc6 FA
  go_wp2_with fail
  refine (slegs_any (some ⟨gA + 1, 0, none⟩) 4 4 duT0 w4 FD.out (by decide) aw18z.sz).mono ?_
  rintro e w5 ⟨v, rfl, o, b⟩
  rw [aw18c]
  rw [aw18d] at o
  obtain ⟨A7, c7, rfl, hc7, r7⟩ := o.reads
  have FB := hid_ (FB.out.trans b)
  have G1 := hid_ (G1.out.bel b)
  have G2 := hid_ (G2.out.bel b)
  clear b o r7 hc7 FD
  obtain ⟨ad0, x0, x1, x2, x3, e0, h0, z00, z01, z02, z03⟩ := G1.out.acc (k := 0) (by decide)
  cases e0
  cases h0
  simp [Addr.add] at z00 z01 z02 z03
  obtain ⟨ad1, x0, x1, x2, x3, e1, h1, z10, z11, z12, z13⟩ := G1.out.acc (k := 1) (by decide)
  cases e1
  cases h1
  simp [Addr.add] at z10 z11 z12 z13
  obtain ⟨ad2, x0, x1, x2, x3, e2, h2, z20, z21, z22, z23⟩ := G1.out.acc (k := 2) (by decide)
  cases e2
  cases h2
  simp [Addr.add] at z20 z21 z22 z23
  obtain ⟨ad3, x0, x1, x2, x3, e3, h3, z30, z31, z32, z33⟩ := G2.out.acc (k := 0) (by decide)
  cases e3
  cases h3
  simp [Addr.add] at z30 z31 z32 z33
  go_wp2
  go_ret
  exact ⟨rfl, FB.out⟩
end Go.Proofs.YtnpinolhhnpniaaGreat
set_option linter.unusedSimpArgs false
set_option linter.unusedVariables false
namespace Go.Proofs.YtnpinolhhnpniaaGreat
open Go.RowKit Go.Lib
theorem i64w_wf {x : Int} (h : (Lit.int .i64 x).wf = true) : i64w x := by
  simp [Lit.wf, IntKind.min, IntKind.max, IntKind.signed, IntKind.bits] at h
  exact h
/-- What few lets in, for the walks. -/
theorem few18_in {l : List Acc} {ds : List Due} (h : few18 l ds = true) (hwa : ∀ x ∈ l, accWf x) (hwb : ∀ x ∈ ds, dueWf x) : l.length ≤ 100 ∧ OkL l ∧ BalI l ∧ DueI ds := by
  obtain ⟨h1, h2, h3, h4⟩ := few18_iff.1 h
  exact ⟨h1, h3, fun a ha => i64w_wf (hwa a ha).2.2.1, ⟨by omega, fun x hx => ⟨by have := h4 x hx; omega, by have := h4 x hx; omega, i64w_wf (hwb x hx).2.2⟩⟩⟩
theorem wf_sz {l : List Acc} (hwa : ∀ x ∈ l, accWf x) : ∀ a ∈ l, a.who.size ≤ 9223372036854775807 ∧ a.asset.size ≤ 9223372036854775807 := fun a ha => by
  have h := hwa a ha
  unfold accWf maxLen at h
  exact ⟨by omega, by omega⟩
end Go.Proofs.YtnpinolhhnpniaaGreat
