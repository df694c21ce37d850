/- Maps of slices that are only read: made by a literal, ranged over. -/
import Derived.Test.YtcfabnkkkpcelaaMp
import Derived.Test.YtcfabnkkkpcelaaPgTy
set_option linter.unusedSimpArgs false
set_option linter.unusedVariables false
namespace Go.Proofs.Ytcfabnkkkpcelaa
open Go.RowKit Go.Maps
structure MapH (w : World) (b n : Nat) (D : DataW Value) (l : List (Int × Value)) : Prop where
  own : w.ownsMap Try.prog 3 hvR b n D
  at_ : ∀ x ∈ l, D.atKey (.int .i64 x.1) (.held (.slice none 0 0)) = .held x.2
  has : ∀ z, Maps.has D z = true ↔ ∃ x ∈ l, z = Lit.int .i64 x.1
def wfK (l : List (Int × Value)) : Prop := ∀ x ∈ l, (Lit.int .i64 x.1).wf = true
theorem intKd : Keyed Try.prog 3 := int_keyed Try.underlying3
theorem intMk {a : Int} (h : (Lit.int .i64 a).wf = true) : keyOf Try.prog 3 (.int .i64 a) = some (.int .i64 a) := keyOf_int_mk Try.underlying3 h
theorem MapH.made (w : World) : MapH (w.alloc (.map #[] 0)) w.heap.size 0 (.map []) [] where
  own := World.ownsMap_made w Try.prog 3 hvR
  at_ := fun x hx => by cases hx
  has := fun z => by simp [Maps.has]
theorem MapH.kept {w w' : World} {b n : Nat} {D : DataW Value} {l : List (Int × Value)} {row : Option Nat} (h : MapH w b n D l) (hg : w.grownBy w' row) (hne : some b ≠ row) : MapH w' b n D l := { h with own := h.own.kept hg hne }
theorem MapH.put {w : World} {b n : Nat} {D : DataW Value} {l : List (Int × Value)} (h : MapH w b n D l) (hn : n < maxLen) (a : Int) (v : Value) (ha : (Lit.int .i64 a).wf = true) (hf : ∀ x ∈ l, x.1 ≠ a) :
    ∃ w' D', (Instr.mapUpdate 50 (.map (some b)) (.int .i64 a) v).run Try.prog w = .ok () w' ∧ MapH w' b (n + 1) D' (l ++ [(a, v)]) ∧ w.grownBy w' (some b) := by
  obtain ⟨w', hrun, hown, hg⟩ := h.own.update intKd Try.underlying50 hn (key := .int .i64 a) (val := v) (intMk ha) (d := .held v) (ps := []) rfl
  have hIs : IsMap D := h.own.isMap
  have hK : WideAt.IsKeyLit (Lit.int .i64 a) := intKd.key (intMk ha)
  refine ⟨w', _, hrun, ⟨hown, fun x hx => ?_, fun z => ?_⟩, hg⟩
  · rcases List.mem_append.1 hx with hx | hx
    · rw [Maps.atKey_put_other (fun e => hf x hx (by injection e))]
      exact h.at_ x hx
    · simp only [List.mem_singleton] at hx
      subst hx
      exact Maps.atKey_put_same hIs hK _ _
  · by_cases e : z = Lit.int .i64 a
    · subst e
      rw [Maps.has_put_same hIs hK]
      simp
    · rw [Maps.has_put_other e, h.has z]
      constructor
      · rintro ⟨x, hx, rfl⟩
        exact ⟨x, List.mem_append.2 (.inl hx), rfl⟩
      · rintro ⟨x, hx, rfl⟩
        rcases List.mem_append.1 hx with hx | hx
        · exact ⟨x, hx, rfl⟩
        · simp only [List.mem_singleton] at hx
          subst hx
          exact absurd rfl e
structure RngH (w : World) (b r n : Nat) (D : DataW Value) (l : List (Int × Value)) (dn : List Int) (cnt : Nat) : Prop where
  rg : ∃ left, w.ranges Try.prog 3 hvR b r n D left cnt ∧ ∀ z, left z = true ↔ ∃ x ∈ l, z = Lit.int .i64 x.1 ∧ x.1 ∉ dn
  at_ : ∀ x ∈ l, D.atKey (.int .i64 x.1) (.held (.slice none 0 0)) = .held x.2
theorem RngH.kept {w w1 : World} {b r n : Nat} {D : DataW Value} {l : List (Int × Value)} {dn : List Int} {cnt : Nat} {row : Option Nat} (h : RngH w b r n D l dn cnt) (hg : w.grownBy w1 row) (h1 : some b ≠ row) (h2 : some r ≠ row) : RngH w1 b r n D l dn cnt := by
  obtain ⟨left, hl, hi⟩ := h.rg
  exact { h with rg := ⟨left, hl.kept hg h1 h2, hi⟩ }
theorem RngH.left_eq {w : World} {b r n : Nat} {D : DataW Value} {l : List (Int × Value)} {dn : List Int} {cnt : Nat} (h : RngH w b r n D l dn cnt) : w.rangeLeft b r = cnt := by
  obtain ⟨left, hl, _⟩ := h.rg
  exact hl.left_eq
theorem RngH.lt_r {w : World} {b r n : Nat} {D : DataW Value} {l : List (Int × Value)} {dn : List Int} {cnt : Nat} (h : RngH w b r n D l dn cnt) : r < w.heap.size := by
  obtain ⟨left, hl, _⟩ := h.rg
  exact hl.lt
theorem MapH.range {w : World} {b n : Nat} {D : DataW Value} {l : List (Int × Value)} (h : MapH w b n D l) :
    ∃ w', (Instr.range 50 (.map (some b))).run Try.prog w = .ok (.pointer (some ⟨w.heap.size, 0, none⟩)) w' ∧ RngH w' b w.heap.size n D l [] (Maps.size D) ∧ w.grownBy w' none ∧ w'.heap.size = w.heap.size + 1 := by
  obtain ⟨w', hrun, hr, hg, hs⟩ := h.own.range intKd Try.underlying50
  refine ⟨w', hrun, ⟨⟨_, hr, fun z => ?_⟩, h.at_⟩, hg, hs⟩
  rw [h.has z]
  simp
theorem RngH.next {w : World} {b r n : Nat} {D : DataW Value} {l : List (Int × Value)} {dn : List Int} {cnt : Nat} (hw : wfK l) (h : RngH w b r n D l dn cnt) (ty : TypeId) :
    (cnt = 0 ∧ (∀ x ∈ l, x.1 ∈ dn) ∧ (Instr.next (.pointer (some ⟨r, 0, none⟩)) false ty).run Try.prog w = .ok (.tuple #[.bool false]) w) ∨
    ∃ x w' cnt', x ∈ l ∧ x.1 ∉ dn ∧ (Instr.next (.pointer (some ⟨r, 0, none⟩)) false ty).run Try.prog w = .ok (.tuple #[.bool true, .int .i64 x.1, x.2]) w' ∧
      RngH w' b r n D l (dn ++ [x.1]) cnt' ∧ cnt' < cnt ∧ w.grownBy w' (some r) ∧ w'.heap.size = w.heap.size ∧ (Instr.entry (.pointer (some ⟨r, 0, none⟩))).run Try.prog w' = .ok (.tuple #[.int .i64 x.1, x.2]) w' := by
  obtain ⟨left, hl, hi⟩ := h.rg
  rcases hl.next intKd ty with ⟨h0, hno, hrun⟩ | ⟨key, v, kl, y, w', cnt', hkey, hlk, hv, hat, hrun, hrg, hlt, hg, hs, hen⟩
  · refine .inl ⟨h0, fun x hx => ?_, hrun⟩
    apply Classical.byContradiction
    intro hc
    have := (hi (.int .i64 x.1)).2 ⟨x, hx, rfl, hc⟩
    rw [hno] at this
    cases this
  · obtain ⟨x, hx, rfl, hd⟩ := (hi kl).1 hlk
    have ek : key = .int .i64 x.1 := intKd.inj hkey (intMk (hw x hx))
    subst ek
    have ev : v = x.2 := by
      have h1 := hat (.held (.slice none 0 0))
      rw [h.at_ x hx] at h1
      simp only [hvR, Option.some.injEq] at hv
      rw [← hv] at h1
      simp only [DataW.held.injEq] at h1
      exact h1.symm
    subst ev
    refine .inr ⟨x, w', cnt', hx, hd, hrun, ⟨⟨_, hrg, fun z => ?_⟩, h.at_⟩, hlt, hg, hs, hen⟩
    have hK : WideAt.IsKeyLit (Lit.int .i64 x.1) := intKd.key (intMk (hw x hx))
    simp only [Bool.and_eq_true, Bool.not_eq_true']
    constructor
    · rintro ⟨h1, h2⟩
      obtain ⟨z', hz, rfl, hzd⟩ := (hi z).1 h1
      refine ⟨z', hz, rfl, ?_⟩
      simp only [List.mem_append, List.mem_singleton, not_or]
      refine ⟨hzd, fun e => ?_⟩
      rw [e, WideAt.sameKey_self hK] at h2
      cases h2
    · rintro ⟨z', hz, rfl, hzd⟩
      simp only [List.mem_append, List.mem_singleton, not_or] at hzd
      refine ⟨(hi _).2 ⟨z', hz, rfl, hzd.1⟩, ?_⟩
      cases hs : (Lit.int .i64 z'.1).sameKey (Lit.int .i64 x.1)
      · rfl
      · exact absurd (by have := WideAt.sameKey_eq hs; injection this) hzd.2
section
variable {w : World} {b r n : Nat} {D : DataW Value} {l : List (Int × Value)} {dn : List Int} {cnt : Nat}
variable {ops : Array Oper} {rest : List Oper} {o : Oper} {a : Act} {Q : Exit → Act → World → Prop}
theorem wpRangeH (hg : o.guard = none) (m : Operand) (hop : o.op = Op.range 50 m) (hm : a.eval m = .map (some b)) (h : MapH w b n D l)
    (hK : ∀ w', RngH w' b w.heap.size n D l [] (Maps.size D) → w.grownBy w' none → w'.heap.size = w.heap.size + 1 → wpList Try.prog ops Q rest (a.put o.dst (.pointer (some ⟨w.heap.size, 0, none⟩))) w') :
    wpList Try.prog ops Q (o :: rest) a w := by
  refine wpList_plain hg fun K' hK' => ?_
  obtain ⟨w', hrun, r1, r2, r3⟩ := h.range
  unfold Oper.wp
  simp [execOp, hop, hm, hrun, Result.andThen]
  exact hK' _ _ (hK w' r1 r2 r3)
theorem wpNextH (hg : o.guard = none) (it : Operand) (hop : o.op = Op.next it false) (hit : a.eval it = .pointer (some ⟨r, 0, none⟩)) (hw : wfK l) (h : RngH w b r n D l dn cnt)
    (hDone : cnt = 0 → (∀ k v, (k, v) ∈ l → k ∈ dn) → wpList Try.prog ops Q rest (a.put o.dst (.tuple #[.bool false])) w)
    (hMore : ∀ k v w' cnt', (k, v) ∈ l → k ∉ dn → RngH w' b r n D l (dn ++ [k]) cnt' → cnt' < cnt → w.grownBy w' (some r) → w'.heap.size = w.heap.size → (Instr.entry (.pointer (some ⟨r, 0, none⟩))).run Try.prog w' = .ok (.tuple #[.int .i64 k, v]) w' → wpList Try.prog ops Q rest (a.put o.dst (.tuple #[.bool true, .int .i64 k, v])) w') :
    wpList Try.prog ops Q (o :: rest) a w := by
  refine wpList_plain hg fun K' hK' => ?_
  unfold Oper.wp
  rcases h.next hw o.type with ⟨h0, hl, hrun⟩ | ⟨x, w', cnt', hx, hd, hrun, hrg, hlt, hgr, hsz, hen⟩
  · simp [execOp, hop, hit, hrun, Result.andThen]
    exact hK' _ _ (hDone h0 (fun k v hx => hl (k, v) hx))
  · simp [execOp, hop, hit, hrun, Result.andThen]
    exact hK' _ _ (hMore x.1 x.2 w' cnt' hx hd hrg hlt hgr hsz hen)
end
end Go.Proofs.Ytcfabnkkkpcelaa
