/- Words for the walks: flat elements in rows, rows that are read, rows of the call's own, worlds that only grow. -/
import Derived.WalkKit
import Derived.WalkSpells
import Derived.WalkLawsBesides
import Derived.Deep.AppendLies
import Derived.Deep.RegionHeld3
import Derived.Deep.Onto
import Derived.Maps.AppendAt
namespace Go.Proofs.Ytcfabnkkkpcelaa
open Go.RowKit

/-! ### 1. Worlds -/
/-- Nothing that was there has turned. -/
def Bel (w w' : World) : Prop := Below w.heap.size w w'
theorem Bel.refl (w : World) : Bel w w := Below.refl _ _
theorem Bel.trans {w w1 w2 : World} (h : Bel w w1) (k : Bel w1 w2) : Bel w w2 := Below.trans h (Below.mono k h.size)
theorem Bel.alloc {w w1 : World} (h : Bel w w1) (o : Obj) : Bel w (w1.alloc o) := Below.alloc h h.size o
theorem Bel.drew {w w1 : World} (h : Bel w w1) : Bel w w1.drew := Below.drew h
theorem Bel.drewN {w w1 : World} (h : Bel w w1) (n : Nat) : Bel w (w1.drewN n) := below_drewN h n
theorem Bel.size_ {w w1 : World} (h : Bel w w1) : w.heap.size ≤ w1.heap.size := h.size
theorem Bel.cell_ {w w1 : World} (h : Bel w w1) {a : Addr} {v : Value} (hc : w.cell? a = some v) : w1.cell? a = some v := (Below.cell h (World.block_lt_of_cell? w a hc)).trans hc
theorem Bel.blk {w w1 : World} (h : Bel w w1) {g : Nat} {o : Obj} (hb : w.heap[g]? = some o) : w1.heap[g]? = some o := (h.block g (Array.getElem?_eq_some_iff.1 hb).1).trans hb
theorem Bel.set_ {w w1 : World} (h : Bel w w1) {p : Addr} (hp : w.heap.size ≤ p.block) (u : Value) : Bel w (w1.setCell p u) := Below.setCell h hp u
theorem Bel.grown_ {w w1 w2 : World} {row : Option Nat} (h : Bel w w1) (hg : w1.grownBy w2 row) (hr : ∀ k, row = some k → w.heap.size ≤ k) : Bel w w2 := Below.grown h hg h.size hr
theorem add0 (g j : Nat) : (⟨g, 0, none⟩ : Addr).add j = ⟨g, j, none⟩ := by unfold Addr.add; split <;> simp_all
theorem addField (ad : Addr) (m j : Nat) (hj : 0 < j) : ad.add (m + j) = ⟨(ad.add m).block, (ad.add m).off + j, none⟩ := by
  unfold Addr.add
  by_cases hm : m = 0
  · subst hm
    simp [Nat.ne_of_gt hj]
  · simp [hm, Nat.add_assoc]
theorem addAdd (ad : Addr) (m j : Nat) : (ad.add m).add j = ad.add (m + j) := by
  unfold Addr.add
  by_cases h1 : m = 0 <;> by_cases h2 : j = 0 <;> simp [h1, h2, Nat.add_assoc]

/-- The cells of a new block; of the ones beneath. -/
theorem cellNew (W : World) (cs : Array Value) (t : TypeId) (fz : Nat × Nat) (b j : Nat) (hb : b = W.heap.size) : (W.alloc (.cells cs t fz)).cell? ⟨b, j, none⟩ = cs[j]? := by
  subst hb
  exact cell_of_row _ _ _ _ _ _ (heap_alloc_new W _)
theorem cellOld {W : World} {a : Addr} {v : Value} (h : W.cell? a = some v) (o : Obj) : (W.alloc o).cell? a = some v := ((Bel.refl W).alloc o).cell_ h

theorem hid_ {p : Prop} (h : p) : Hid p := h

/-! ### 2. Elements -/
structure Ty (α : Type) where
  e : TypeId
  sz : Nat
  enc : α → List Value
  pos : 0 < sz
  len : ∀ x, (enc x).length = sz
  one : ∀ x, ∀ u ∈ enc x, u.oneCell' = true
variable {α : Type} {T : Ty α}
theorem Ty.flat (T : Ty α) : ∀ (xs : List α), (xs.flatMap T.enc).length = xs.length * T.sz
  | [] => by simp
  | x :: xs => by rw [List.flatMap_cons, List.length_append, T.len, T.flat xs, List.length_cons, Nat.add_mul]; omega
theorem Ty.flatOne (T : Ty α) (xs : List α) : ∀ u ∈ xs.flatMap T.enc, u.oneCell' = true := by
  intro u hu
  obtain ⟨x, _, hx⟩ := List.mem_flatMap.1 hu
  exact T.one x u hx
theorem Ty.flatAt (T : Ty α) : ∀ (xs : List α) (j : Nat) (x : α), xs[j]? = some x → ∀ (i : Nat) (u : Value), (T.enc x)[i]? = some u → (xs.flatMap T.enc)[j * T.sz + i]? = some u
  | [], _, _, h, _, _, _ => by simp at h
  | y :: xs, 0, x, h, i, u, hu => by
    simp at h
    subst h
    have hi := (List.getElem?_eq_some_iff.1 hu).1
    rw [Nat.zero_mul, Nat.zero_add, List.flatMap_cons, List.getElem?_append_left hi]
    exact hu
  | y :: xs, j + 1, x, h, i, u, hu => by
    have h' : xs[j]? = some x := by simpa using h
    rw [List.flatMap_cons, Nat.add_mul, Nat.one_mul, List.getElem?_append_right (by rw [T.len]; omega), T.len]
    have : j * T.sz + T.sz + i - T.sz = j * T.sz + i := by omega
    rw [this]
    exact T.flatAt xs j x h' i u hu

/-! ### 3. A row that is read -/
def Row (T : Ty α) (w : World) (A : Option Addr) (n : Nat) (xs : List α) : Prop :=
  xs.length = n ∧ n ≤ 9223372036854775807 ∧ (0 < n → ∃ ad : Addr, A = some ad ∧ ∀ j x, xs[j]? = some x → ∀ i u, (T.enc x)[i]? = some u → w.cell? (ad.add (j * T.sz + i)) = some u)
theorem Row.none_ (T : Ty α) (w : World) (A : Option Addr) : Row T w A 0 [] := ⟨rfl, by omega, fun h => absurd h (by omega)⟩
theorem Row.bel {w w1 : World} {A : Option Addr} {n : Nat} {xs : List α} (h : Row T w A n xs) (hb : Bel w w1) : Row T w1 A n xs := by
  refine ⟨h.1, h.2.1, fun hn => ?_⟩
  obtain ⟨ad, e, hc⟩ := h.2.2 hn
  exact ⟨ad, e, fun j x hj i u hu => hb.cell_ (hc j x hj i u hu)⟩
/-- Element k: its cells, at the places where the walk asks for them. -/
theorem Row.at_ {w : World} {A : Option Addr} {n : Nat} {xs : List α} (h : Row T w A n xs) {k : Nat} (hk : k < n) :
    ∃ ad x, A = some ad ∧ xs[k]? = some x ∧ (∀ u, (T.enc x)[0]? = some u → w.cell? (ad.add (k * T.sz)) = some u) ∧
      ∀ i u, (T.enc x)[i + 1]? = some u → w.cell? ⟨(ad.add (k * T.sz)).block, (ad.add (k * T.sz)).off + (i + 1), none⟩ = some u := by
  obtain ⟨ad, e, hc⟩ := h.2.2 (by omega)
  have hl : k < xs.length := by rw [h.1]; exact hk
  refine ⟨ad, xs[k], e, List.getElem?_eq_getElem hl, fun u hu => hc k _ (List.getElem?_eq_getElem hl) 0 u hu, fun i u hu => ?_⟩
  rw [← addField ad _ _ (by omega)]
  exact hc k _ (List.getElem?_eq_getElem hl) (i + 1) u hu
theorem Row.take_ {w : World} {A : Option Addr} {n m : Nat} {xs : List α} (h : Row T w A n xs) (hm : m ≤ n) : Row T w A m (xs.take m) := by
  refine ⟨by rw [List.length_take, h.1]; omega, by have := h.2.1; omega, fun hp => ?_⟩
  obtain ⟨ad, e, hc⟩ := h.2.2 (by omega)
  refine ⟨ad, e, fun j x hj i u hu => hc j x ?_ i u hu⟩
  rw [List.getElem?_take] at hj
  split at hj
  · exact hj
  · cases hj

/-! ### 4. Slices -/
section
variable {P : Program}
structure SlT (P : Program) (t : TypeId) (T : Ty α) (bytes : Nat) (z : Value) : Prop where
  ut : P.underlying t = some (.slice T.e)
  info : (P.info? T.e).map (fun i => (i.zero, i.size, i.bytes)) = some (some z, T.sz, bytes)
  zs : z.cells.size = T.sz
  by0 : 0 < bytes
theorem SlT.size {t : TypeId} {bytes : Nat} {z : Value} (S : SlT P t T bytes z) : ∃ i, P.info? T.e = some i ∧ i.size = T.sz := by
  obtain ⟨i, hi, h⟩ := Option.map_eq_some_iff.1 S.info
  simp only [Prod.mk.injEq] at h
  exact ⟨i, hi, h.2.1⟩
/-- 'b[m:]': the address under a letter. -/
theorem SlT.cutFrom {t : TypeId} {bytes : Nat} {z : Value} (S : SlT P t T bytes z) (k : IntKind) (A : Option Addr) (n c m : Nat) (hm : m ≤ n) (hc : n ≤ c) :
    ∃ A' : Option Addr, (∀ W : World, (Instr.slice t (.slice A n c) (some (.int k (m : Int))) none none).run P W = .ok (.slice A' (n - m) (c - m)) W) ∧
      ∀ (w : World) (xs : List α), Row T w A n xs → Row T w A' (n - m) (xs.drop m) := by
  have hel : P.elem t = T.e := by simp [Program.elem, S.ut]
  have hu : P.underlying t = some (.slice (P.elem t)) := by rw [hel]; exact S.ut
  obtain ⟨i, hi, hsz⟩ := S.size
  refine ⟨if c = m then A else A.map (·.add (m * T.sz)), fun W => ?_, fun w xs h => ?_⟩
  · rw [run_slice_l W t A n c hu k (m : Int) (Int.natCast_nonneg _) (by omega), hel]
    simp [sizeOf, typeInfo, hi, hsz, sliced, Result.andThen]
  · refine ⟨by rw [List.length_drop, h.1], by have := h.2.1; omega, fun hp => ?_⟩
    obtain ⟨ad, rfl, hcell⟩ := h.2.2 (by omega)
    rw [if_neg (by omega)]
    refine ⟨ad.add (m * T.sz), rfl, fun j x hj i u hu => ?_⟩
    rw [addAdd, ← Nat.add_assoc, ← Nat.add_mul]
    exact hcell (m + j) x (by rw [← List.getElem?_drop]; exact hj) i u hu
/-- 'b[:m]'. -/
theorem SlT.cutTo {t : TypeId} {bytes : Nat} {z : Value} (S : SlT P t T bytes z) (k : IntKind) (A : Option Addr) (n c m : Nat) (hm : m ≤ c) (W : World) :
    (Instr.slice t (.slice A n c) none (some (.int k (m : Int))) none).run P W = .ok (.slice A m c) W := by
  have hel : P.elem t = T.e := by simp [Program.elem, S.ut]
  have hu : P.underlying t = some (.slice (P.elem t)) := by rw [hel]; exact S.ut
  obtain ⟨i, hi, hsz⟩ := S.size
  rw [run_slice_h W t A n c hu k (m : Int) (Int.natCast_nonneg _) (by omega), hel]
  have h0 : A.map (·.add 0) = A := by cases A <;> rfl
  simp [sizeOf, typeInfo, hi, hsz, sliced, Result.andThen, h0]
end

/-! ### 5. A row of the call's own -/
def Own (T : Ty α) (w : World) (base : Nat) (v : Value) (xs : List α) : Prop := w.ownsRow base T.e T.sz v xs.length (xs.flatMap T.enc)
theorem Own.nil_ (T : Ty α) (w : World) (base : Nat) : Own T w base (.slice none 0 0) [] := ⟨by simp, .inl ⟨rfl, rfl⟩⟩
theorem Own.base_ {w : World} {base : Nat} {v : Value} {xs : List α} (h : Own T w base v xs) : ∀ k, v.ownBlock = some k → base ≤ k := fun k hk => (World.ownsRow.lt h k hk).1
theorem Own.kept_ {w w1 : World} {row : Option Nat} {base : Nat} {v : Value} {xs : List α} (h : Own T w base v xs) (hg : w.grownBy w1 row) (hne : v.ownBlock = none ∨ v.ownBlock ≠ row) : Own T w1 base v xs := World.ownsRow.kept h hg hne
theorem grown_of_bel {w w1 : World} (h : Bel w w1) (row : Option Nat) : w.grownBy w1 row := ⟨h.os, h.tape, h.output, h.size, fun i hi _ => h.block i hi⟩
theorem Own.bel {w w1 : World} {base : Nat} {v : Value} {xs : List α} (h : Own T w base v xs) (hb : Bel w w1) : Own T w1 base v xs := World.ownsRow.kept h (grown_of_bel hb none) (by cases v.ownBlock <;> simp)
theorem Own.alloc_ {w : World} {base : Nat} {v : Value} {xs : List α} (h : Own T w base v xs) (o : Obj) : Own T (w.alloc o) base v xs := h.bel ((Bel.refl w).alloc o)
theorem Own.mono_ {w : World} {base base' : Nat} {v : Value} {xs : List α} (h : Own T w base v xs) (hb : base' ≤ base) : Own T w base' v xs := World.ownsRow.mono h hb
theorem Own.reads {w : World} {base : Nat} {v : Value} {xs : List α} (h : Own T w base v xs) : ∃ A c, v = .slice A xs.length c ∧ xs.length ≤ c ∧ Row T w A xs.length xs := by
  have hlen := h.1
  rcases h.2 with ⟨rfl, h0⟩ | ⟨g, cap, cur, rfl, hb, hh, hnc, hcm, hcs, htake⟩
  · have : xs = [] := List.eq_nil_of_length_eq_zero h0
    subst this
    exact ⟨none, 0, rfl, by simp, Row.none_ T w none⟩
  · refine ⟨_, cap, rfl, hnc, rfl, by simp only [maxLen] at hcm; omega, fun hp => ⟨_, rfl, fun j x hj i u hu => ?_⟩⟩
    exact World.ownsRow.cells h (g := g) rfl _ _ (T.flatAt xs j x hj i u hu)
/-- A literal. -/
theorem Own.lit (w : World) (base : Nat) (xs : List α) (hb : base ≤ w.heap.size) (hm : xs.length ≤ 9223372036854775807) :
    Own T (w.alloc (.cells (xs.flatMap T.enc).toArray T.e)) base (.slice (some ⟨w.heap.size, 0, none⟩) xs.length xs.length) xs := by
  have h := World.ownsRow_lit (base := base) (e := T.e) (size := T.sz) w (xs.flatMap T.enc).toArray xs.length hb (by simpa [maxLen] using hm) (by rw [List.size_toArray, T.flat])
  exact h
theorem Row.lit (w : World) (xs : List α) (fz : Nat × Nat) (hm : xs.length ≤ 9223372036854775807) :
    Row T (w.alloc (.cells (xs.flatMap T.enc).toArray T.e fz)) (some ⟨w.heap.size, 0, none⟩) xs.length xs := by
  refine ⟨rfl, hm, fun _ => ⟨_, rfl, fun j x hj i u hu => ?_⟩⟩
  rw [add0, cell_of_row _ _ _ _ _ _ (heap_alloc_new w _), List.getElem?_toArray]
  exact T.flatAt xs j x hj i u hu

section
variable {P : Program} {ops : Array Oper} {rest : List Oper} {o : Oper} {a : Act} {Q : Exit → Act → World → Prop}
/-- What an append of 'news' elements (read at A) to an own row leaves. -/
theorem run_app {t ty : TypeId} {bytes : Nat} {z : Value} (S : SlT P t T bytes z) {w0 W : World} (v : Value) (xs ys : List α) (A : Option Addr) (m c : Nat)
    (HO : Own T W w0.heap.size v xs) (HR : Row T W A m ys) (HB : Bel w0 W) (hl : (xs.length + m) * bytes ≤ 140737488355328) :
    ∃ v1 w1, (Builtin.append_ #[t, t] ty #[v, .slice A m c]).run P W = .ok v1 w1 ∧ Own T w1 w0.heap.size v1 (xs ++ ys) ∧ Bel w0 w1 ∧ W.grownBy w1 v.ownBlock ∧ (v1.ownBlock = v.ownBlock ∨ ∃ b, v1.ownBlock = some b ∧ W.heap.size ≤ b) := by
  obtain ⟨i0, hi, hzz⟩ := Option.map_eq_some_iff.1 S.info
  simp only [Prod.mk.injEq] at hzz
  obtain ⟨hz0, hz1, hz2⟩ := hzz
  have hm : ys.length = m := HR.1
  have hb0 := S.by0
  have hlen : xs.length + m ≤ 140737488355328 := Nat.le_trans (Nat.le_mul_of_pos_right _ hb0) hl
  rcases Nat.eq_zero_or_pos m with h0 | h0
  · subst h0
    obtain rfl : ys = [] := List.eq_nil_of_length_eq_zero hm
    refine ⟨v, W, ?_, by simpa using HO, HB, World.grownBy.refl W _, .inl rfl⟩
    rcases HO.2 with ⟨rfl, hn⟩ | ⟨g, cap, cur, rfl, _, _, hnc, _⟩
    · cases A <;> simp [Builtin.append_, run_underlying S.ut, sizeOf, typeInfo, hi, Builtin.lenOf, Builtin.firstCells, loadCells, loadCellsFrom]
    · cases A <;> simp [Builtin.append_, run_underlying S.ut, sizeOf, typeInfo, hi, Builtin.lenOf, Builtin.firstCells, hnc, storeCells, loadCells, loadCellsFrom]
  · obtain ⟨ad, rfl, hc⟩ := HR.2.2 h0
    obtain ⟨v1, w1, hr, h2, h3, _, h5⟩ := run_append_own_at (P := P) W w0.heap.size t ty T.e i0 z T.sz bytes S.ut hi hz0 hz1 hz2 S.zs T.pos v xs.length _ HO ad m c (ys.flatMap T.enc) (by rw [T.flat, hm])
      (by
        intro j u hu
        have hj : j < ys.length * T.sz := by rw [← T.flat]; exact (List.getElem?_eq_some_iff.1 hu).1
        have hp := T.pos
        have hq : j / T.sz < ys.length := Nat.div_lt_of_lt_mul (by rw [Nat.mul_comm]; exact hj)
        have hx := List.getElem?_eq_getElem hq
        have hr : j % T.sz < (T.enc ys[j / T.sz]).length := by rw [T.len]; exact Nat.mod_lt _ hp
        have hdm : j / T.sz * T.sz + j % T.sz = j := by rw [Nat.mul_comm]; exact Nat.div_add_mod j T.sz
        have h1 := T.flatAt ys (j / T.sz) _ hx (j % T.sz) _ (List.getElem?_eq_getElem hr)
        rw [hdm, hu] at h1
        injection h1 with h1
        have := hc (j / T.sz) _ hx (j % T.sz) _ (List.getElem?_eq_getElem hr)
        rw [hdm] at this
        rw [this, h1])
      (T.flatOne ys) (by simp only [maxLen]; omega) hl HB.size
    refine ⟨v1, w1, hr, ?_, HB.grown_ h3 HO.base_, h3, ?_⟩
    · unfold Own
      rw [List.length_append, hm, List.flatMap_append]
      exact h2
    · rcases h5 with h5 | h5
      · exact .inl h5
      · exact .inr ⟨_, h5, Nat.le_refl _⟩
/-- append(v, ys...) at the operation. -/
theorem wpApp {t : TypeId} {bytes : Nat} {z : Value} (S : SlT P t T bytes z) {w0 W : World} (hgd : o.guard = none) (s x : Operand)
    (ho : o.op = .call { callee := .builtin .append, args := #[s, x], argTypes := #[t, t] })
    (v : Value) (xs ys : List α) (A : Option Addr) (m c : Nat) (hs : a.eval s = v) (hx : a.eval x = .slice A m c)
    (HO : Own T W w0.heap.size v xs) (HR : Row T W A m ys) (HB : Bel w0 W) (hl : (xs.length + m) * bytes ≤ 140737488355328)
    (h : ∀ v1 w1, Own T w1 w0.heap.size v1 (xs ++ ys) → Bel w0 w1 → W.grownBy w1 v.ownBlock → (v1.ownBlock = v.ownBlock ∨ ∃ b, v1.ownBlock = some b ∧ W.heap.size ≤ b) → wpList P ops Q rest (a.put o.dst v1) w1) :
    wpList P ops Q (o :: rest) a W := by
  obtain ⟨v1, w1, hr, h1, h2, h3, h4⟩ := run_app (ty := o.type) S v xs ys A m c HO HR HB hl
  refine wpList_plain hgd fun K hK => ?_
  unfold Oper.wp execOp
  simp only [ho, resolve, invoke, builtin, Sem.run_bind, Sem.run_pure, Result.andThen_ok, List.map_toArray, List.map_cons, List.map_nil, hs, hx, hr]
  exact hK _ _ (h v1 w1 h1 h2 h3 h4)
/-- The same as a step of a region that draws. -/
theorem stepApp {t : TypeId} {bytes : Nat} {z : Value} (S : SlT P t T bytes z) {w0 W : World} {K : Act → World → Prop} (hw : Region.wanted o (yielded ops a.tmps) = true) (s x : Operand)
    (ho : o.op = .call { callee := .builtin .append, args := #[s, x], argTypes := #[t, t] })
    (v : Value) (xs ys : List α) (A : Option Addr) (m c : Nat) (hs : a.eval s = v) (hx : a.eval x = .slice A m c)
    (HO : Own T W w0.heap.size v xs) (HR : Row T W A m ys) (HB : Bel w0 W) (hl : (xs.length + m) * bytes ≤ 140737488355328)
    (h : ∀ v1 w1, Own T w1 w0.heap.size v1 (xs ++ ys) → Bel w0 w1 → W.grownBy w1 v.ownBlock → (v1.ownBlock = v.ownBlock ∨ ∃ b, v1.ownBlock = some b ∧ W.heap.size ≤ b) → K (a.put o.dst v1) w1) :
    if Region.wanted o (yielded ops a.tmps) = true then Oper.wp P o a W K Q else K (a.put o.dst undef) W := by
  obtain ⟨v1, w1, hr, h1, h2, h3, h4⟩ := run_app (ty := o.type) S v xs ys A m c HO HR HB hl
  rw [if_pos hw]
  unfold Oper.wp execOp
  simp only [ho, resolve, invoke, builtin, Sem.run_bind, Sem.run_pure, Result.andThen_ok, List.map_toArray, List.map_cons, List.map_nil, hs, hx, hr]
  exact h v1 w1 h1 h2 h3 h4
end
/-- The new element's block: a row of one. -/
theorem Row.one {W : World} (x : α) {cs : Array Value} {b : Nat} (hcs : cs = (T.enc x).toArray) (hb : b = W.heap.size) : Row T (W.alloc (.cells cs T.e)) (some ⟨b, 0, none⟩) 1 [x] := by
  subst hcs hb
  have h := Row.lit (T := T) W [x] (0, 0) (by simp)
  simpa using h

/-! ### 6. Two own rows: which does not touch which -/
def NeRow (v v' : Value) : Prop := ∀ k, v.ownBlock = some k → v'.ownBlock ≠ some k
theorem NeRow.symm {v v' : Value} (h : NeRow v v') : NeRow v' v := fun k hk hk' => h k hk' hk
theorem NeRow.other {v v' : Value} (h : NeRow v v') : v'.ownBlock = none ∨ v'.ownBlock ≠ v.ownBlock := by
  cases hv : v'.ownBlock with
  | none => exact .inl rfl
  | some k => exact .inr fun e => h k e.symm hv
theorem NeRow.nilL (v' : Value) : NeRow (.slice none 0 0) v' := fun k hk => by simp [Value.ownBlock] at hk
theorem Own.lt_ {w : World} {base : Nat} {v : Value} {xs : List α} (h : Own T w base v xs) : ∀ k, v.ownBlock = some k → k < w.heap.size := fun k hk => (World.ownsRow.lt h k hk).2
theorem NeRow.app {β : Type} {T' : Ty β} {W : World} {v v1 v' : Value} {base : Nat} {ys : List β} (h : NeRow v v') (hat : v1.ownBlock = v.ownBlock ∨ ∃ b, v1.ownBlock = some b ∧ W.heap.size ≤ b) (ho : Own T' W base v' ys) : NeRow v1 v' := by
  intro k hk hk'
  rcases hat with hat | ⟨b, hb, hle⟩
  · exact h k (hat ▸ hk) hk'
  · have := ho.lt_ k hk'
    rw [hb] at hk
    injection hk with hk
    omega
/-- A row made since W against a row of W's. -/
theorem NeRow.later {β : Type} {T' : Ty β} {W w1 : World} {v1 v' : Value} {base : Nat} {xs : List α} {ys : List β} (h1 : Own T w1 W.heap.size v1 xs) (ho : Own T' W base v' ys) : NeRow v1 v' := by
  intro k hk hk'
  have h2 := h1.base_ k hk
  have h3 := ho.lt_ k hk'
  omega

/-! ### 7. A result that lies in memory -/
section
variable {P : Program}
theorem results_c {fn : Func} {p : Tmp} {ty : TypeId} (h : fn.results = #[.cell p ty]) (tmps : Array Value) (w : World) (g : Nat) (t : TypeId) (cs : Array Value) (fr : Nat × Nat) (d : TypeDesc)
    (hp : tmps.getD p undef = .pointer (some ⟨g, 0, none⟩)) (hg : w.heap[g]? = some (.cells cs t fr))
    (hu : P.underlying ty = some d) (hd : (match d with | .struct _ | .array _ _ => true | _ => false) = true) (hi : (P.info? ty).map (·.size) = some cs.size) :
    (results fn tmps).run P w = .ok (.agg cs) w := by
  have hp' : tmps[p]?.getD undef = .pointer (some ⟨g, 0, none⟩) := by simpa using hp
  simp [results, h, hp', asAddr, run_loadVar_row w g t ty cs fr d hg hu hd hi]
end
end Go.Proofs.Ytcfabnkkkpcelaa
