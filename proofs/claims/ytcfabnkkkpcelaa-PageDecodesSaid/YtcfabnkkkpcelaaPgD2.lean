/- Words on the reader of pages. -/
import Derived.Test.YtcfabnkkkpcelaaPgD1
import Derived.Deep.DeepCutAuto
set_option linter.unusedSimpArgs false
set_option linter.unusedVariables false
namespace Go.Proofs.Ytcfabnkkkpcelaa
open Go.RowKit
def nilV : Value := .slice none 0 0
/-- The page of a reader, when it has read nothing but its Epoch. -/
def zE (k ep : Int) : Pg := { pgZ with kind := k, epoch := ep }
theorem Rd.set {w0 w : World} {g : Nat} {vs : List Value} {rest : List Int} (h : Rd w0 w g vs rest) (j : Nat) (u : Value) : Rd w0 (w.setCell ⟨g, j + 1, none⟩ u) g (vs.set j u) rest := by
  obtain ⟨A, n, c, hx, hc, hr⟩ := h.box
  exact ⟨⟨A, n, c, hx.set (j + 1) u, hc, hr⟩, h.bel.set_ h.le _, h.le, h.byt⟩
theorem Rd.cell {w0 w : World} {g : Nat} {vs : List Value} {rest : List Int} (h : Rd w0 w g vs rest) (j : Nat) {v : Value} (hv : vs[j]? = some v) : w.cell? ⟨g, j + 1, none⟩ = some v := by
  obtain ⟨A, n, c, hx, hc, hr⟩ := h.box
  exact hx.cell (j + 1) hv
theorem Rd.fz {w0 w : World} {g : Nat} {vs : List Value} {rest : List Int} (h : Rd w0 w g vs rest) (j : Nat) : w.frozen? ⟨g, j, none⟩ = false := by
  obtain ⟨A, n, c, hx, hc, hr⟩ := h.box
  exact hx.frozen j
theorem Rd.lt {w0 w : World} {g : Nat} {vs : List Value} {rest : List Int} (h : Rd w0 w g vs rest) : g < w.heap.size := by
  obtain ⟨A, n, c, hx, hc, hr⟩ := h.box
  exact hx.lt
theorem Rd.keep {w0 w w1 : World} {g : Nat} {vs : List Value} {rest : List Int} {row : Option Nat} (h : Rd w0 w g vs rest) (hg : w.grownBy w1 row) (hne : row ≠ some g) (hb : Bel w0 w1) : Rd w0 w1 g vs rest := by
  obtain ⟨A, n, c, hx, hc, hr⟩ := h.box
  refine ⟨⟨A, n, c, ?_, hc, hr⟩, hb, h.le, h.byt⟩
  unfold Bx at hx ⊢
  rw [hg.block g (Array.getElem?_eq_some_iff.1 hx).1 (fun e => hne e.symm)]
  exact hx
theorem Rd.drew {w0 w : World} {g : Nat} {vs : List Value} {rest : List Int} (h : Rd w0 w g vs rest) : Rd w0 w.drew g vs rest := h.keep (grown_of_bel ((Bel.refl w).drew) none) (by simp) h.bel.drew
theorem Rd.alloc {w0 w : World} {g : Nat} {vs : List Value} {rest : List Int} (h : Rd w0 w g vs rest) (o : Obj) : Rd w0 (w.alloc o) g vs rest := h.keep (grown_of_bel ((Bel.refl w).alloc o) none) (by simp) (h.bel.alloc o)
theorem setG (w : World) (g j : Nat) (u : Value) : w.grownBy (w.setCell ⟨g, j, none⟩ u) (some g) := grownSet w g j u
theorem Bel.gG {w w1 : World} (h : Bel w w1) (r : Option Nat) : w.grownBy w1 r := grown_of_bel h r
/-- What (*reader).page answers. -/
def RP (w0 U : World) (g : Nat) (kind ep : Int) (rest : List Int) (e : Ending) (w' : World) : Prop :=
  (∃ q a b c d r', rdP kind ep rest = some q ∧ e = .returned (.tuple #[]) ∧ Rd w0 w' g (pgC q a b c d) r' ∧ PgIn w' q (pgV q a b c d) ∧ U.grownBy w' (some g)) ∨
    (rdP kind ep rest = none ∧ e = .panicked pan ∧ Bel w0 w' ∧ U.grownBy w' (some g))
theorem pgIn0 (w : World) (q : Pg) (h1 : q.pairs = []) (h2 : q.keys = []) (h3 : q.kids = []) (h4 : q.pages = []) : PgIn w q (pgV q nilV nilV nilV nilV) :=
  ⟨none, 0, 0, none, 0, 0, none, 0, 0, none, 0, 0, rfl, Nat.le_refl _, Nat.le_refl _, Nat.le_refl _, Nat.le_refl _, ⟨by rw [h1]; exact Row.none_ _ _ _, by rw [h2]; exact Row.none_ _ _ _, by rw [h3]; exact Row.none_ _ _ _, by rw [h4]; exact Row.none_ _ _ _⟩⟩
def cutW (W : World) (b : Nat) : World := { W with heap := W.heap.extract 0 b }
theorem cutW_size (W : World) (b : Nat) (h : b ≤ W.heap.size) : (cutW W b).heap.size = b := by simp [cutW]; omega
theorem belCut (W : World) (b : Nat) (h : b ≤ W.heap.size) : Bel (cutW W b) W := by
  have hs := cutW_size W b h
  refine ⟨rfl, rfl, rfl, by rw [hs]; exact h, fun i hi => ?_⟩
  rw [hs] at hi
  simp only [cutW]
  rw [Array.getElem?_extract_of_lt (by omega)]
  simp
section
variable {P : Program} {ops : Array Oper} {rest : List Oper} {o : Oper} {a : Act} {Q : Exit → Act → World → Prop} {α : Type} {T : Ty α}
/-- An append as a step of a region that draws, the row's base a number. -/
theorem stepAppB {t : TypeId} {bytes : Nat} {z : Value} (S : SlT P t T bytes z) {base : Nat} {W : World} {K : Act → World → Prop} (hw : Region.wanted o (yielded ops a.tmps) = true) (s x : Operand)
    (ho : o.op = .call { callee := .builtin .append, args := #[s, x], argTypes := #[t, t] })
    (v : Value) (xs ys : List α) (A : Option Addr) (m c : Nat) (hs : a.eval s = v) (hx : a.eval x = .slice A m c)
    (HO : Own T W base v xs) (HR : Row T W A m ys) (HB : base ≤ W.heap.size) (hl : (xs.length + m) * bytes ≤ 140737488355328)
    (h : ∀ v1 w1, Own T w1 base v1 (xs ++ ys) → W.grownBy w1 v.ownBlock → (v1.ownBlock = v.ownBlock ∨ ∃ b, v1.ownBlock = some b ∧ W.heap.size ≤ b) → K (a.put o.dst v1) w1) :
    if Region.wanted o (yielded ops a.tmps) = true then Oper.wp P o a W K Q else K (a.put o.dst undef) W := by
  have e := cutW_size W base HB
  refine stepApp (w0 := cutW W base) S hw s x ho v xs ys A m c hs hx (by rw [e]; exact HO) HR (belCut W base HB) hl ?_
  intro v1 w1 h1 h2 h3 h4
  rw [e] at h1
  exact h v1 w1 h1 h3 h4
end
theorem ownNeG {α : Type} {T : Ty α} {w : World} {base g : Nat} {v : Value} {xs : List α} (h : Own T w base v xs) (hg : g < base) : v.ownBlock ≠ some g := fun e => by
  have := h.base_ g e
  omega
theorem grownT {w w1 w2 : World} {r r1 : Option Nat} (h : w.grownBy w1 r) (h1 : w1.grownBy w2 r1) (hr : ∀ b, r1 = some b → w.heap.size ≤ b) : w.grownBy w2 r := by
  refine ⟨h1.os.trans h.os, h1.tape.trans h.tape, h1.output.trans h.output, Nat.le_trans h.size h1.size, fun i hi hne => ?_⟩
  rw [← h.block i hi hne]
  refine h1.block i (Nat.lt_of_lt_of_le hi h.size) ?_
  intro e
  have := hr i e.symm
  omega
theorem Own.readsN' {α : Type} {T : Ty α} {w : World} {base q : Nat} {v : Value} {xs : List α} (h : Own T w base v xs) (e : xs.length = q) : ∃ A c, v = .slice A q c ∧ q ≤ c ∧ Row T w A q xs := by
  subst e
  exact h.reads
theorem rd2_len {l r : List Int} {x : Int} (h : rd2 l = some (x, r)) : l.length = r.length + 2 := by
  obtain ⟨a, b, rfl, _⟩ := rd2_some h
  simp
theorem rd2_ex {l : List Int} (h : 2 ≤ l.length) : ∃ x r, rd2 l = some (x, r) ∧ r.length + 2 = l.length := by
  match l, h with
  | a :: b :: r, _ => exact ⟨_, _, rfl, by simp⟩
theorem rd2_rng {l r : List Int} {x : Int} (hb : ∀ y ∈ l, 0 ≤ y ∧ y < 256) (h : rd2 l = some (x, r)) : 0 ≤ x ∧ x < 65536 := by
  obtain ⟨a, b, rfl, rfl⟩ := rd2_some h
  have h1 := hb a (List.mem_cons_self ..)
  have h2 := hb b (List.mem_cons_of_mem _ (List.mem_cons_self ..))
  omega
end Go.Proofs.Ytcfabnkkkpcelaa
