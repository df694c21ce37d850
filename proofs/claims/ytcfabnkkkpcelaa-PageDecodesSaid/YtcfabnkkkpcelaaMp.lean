/- Maps of rows of the call's own, by whatever key; a range over such a map. -/
import Derived.Test.YtcfabnkkkpcelaaWd
import Derived.Maps.RangeWalk
set_option linter.unusedSimpArgs false
set_option linter.unusedVariables false
namespace Go.Proofs.Ytcfabnkkkpcelaa
open Go.RowKit Go.Maps
/-- An element reads as itself. -/
def hvR (v : Value) : Option (DataW Value × List MemPlace) := some (.held v, [])
structure KeyT (P : Program) (κ : Type) where
  k : TypeId
  val : κ → Value
  ok : κ → Prop
  lit : κ → Lit
  law : Keyed P k
  key : ∀ x, ok x → keyOf P k (val x) = some (lit x)
  mkInj : ∀ x y, val x = val y → x = y
variable {P : Program} {κ α : Type} {T : Ty α} {K : KeyT P κ}
theorem KeyT.inj (K : KeyT P κ) {x y : κ} (hx : K.ok x) (hy : K.ok y) (h : K.lit x = K.lit y) : x = y :=
  K.mkInj _ _ (K.law.inj (K.key x hx) (h ▸ K.key y hy))
theorem KeyT.isKey (K : KeyT P κ) {x : κ} (hx : K.ok x) : WideAt.IsKeyLit (K.lit x) := K.law.key (K.key x hx)
structure MapG (K : KeyT P κ) (T : Ty α) (w : World) (base b n : Nat) (f : κ → List α) (D : DataW Value) (g : κ → Value) : Prop where
  own : w.ownsMap P K.k hvR b n D
  lt : b < base
  at_ : ∀ x, K.ok x → D.atKey (K.lit x) (.held (.slice none 0 0)) = .held (g x)
  row : ∀ x, K.ok x → Own T w base (g x) (f x)
  ne : ∀ x y, K.ok x → K.ok y → x ≠ y → NeRow (g x) (g y)
  has1 : ∀ l, Maps.has D l = true → ∃ x, K.ok x ∧ l = K.lit x ∧ f x ≠ []
  has2 : ∀ x, K.ok x → f x ≠ [] → Maps.has D (K.lit x) = true
variable {w : World} {base b n : Nat} {f : κ → List α} {D : DataW Value} {g : κ → Value}
theorem MapG.made (K : KeyT P κ) (T : Ty α) (w : World) : MapG K T (w.alloc (.map #[] 0)) (w.heap.size + 1) w.heap.size 0 (fun _ => []) (.map []) (fun _ => .slice none 0 0) where
  own := World.ownsMap_made w P K.k hvR
  lt := Nat.lt_succ_self _
  at_ := fun x hx => rfl
  row := fun x hx => Own.nil_ _ _ _
  ne := fun x y _ _ _ => NeRow.nilL _
  has1 := fun l h => by simp [Maps.has] at h
  has2 := fun x _ h => absurd rfl h
theorem MapG.bel {w1 : World} (h : MapG K T w base b n f D g) (hb : Bel w w1) : MapG K T w1 base b n f D g :=
  { h with own := h.own.kept (grown_of_bel hb none) (by simp), row := fun x hx => (h.row x hx).bel hb }
/-- 'm[x]'. -/
theorem MapG.look {t e : TypeId} (h : MapG K T w base b n f D g) (ht : P.underlying t = some (.map K.k e)) (hz : (zeroValue e).run P w = .ok (.slice none 0 0) w) {x : κ} (hx : K.ok x) :
    (Instr.lookup t (.map (some b)) (K.val x) false).run P w = .ok (g x) w := by
  obtain ⟨v, ps, hrun, hv⟩ := h.own.lookup K.law ht hz (zd := .held (.slice none 0 0)) (zp := []) rfl (K.key x hx)
  rw [h.at_ x hx] at hv
  simp only [hvR, Option.some.injEq, Prod.mk.injEq, DataW.held.injEq] at hv
  rw [← hv.1]
  exact hrun
theorem MapG.base_ (h : MapG K T w base b n f D g) {x : κ} (hx : K.ok x) : ∀ k, (g x).ownBlock = some k → base ≤ k := (h.row x hx).base_
open Classical in
/-- 'm[x] = v1', v1 what was at x with something behind it. -/
theorem MapG.store {t e : TypeId} (h : MapG K T w base b n f D g) (ht : P.underlying t = some (.map K.k e)) (hn : n < maxLen) {x : κ} (hx : K.ok x) {w1 : World} {v1 : Value} {ys : List α}
    (hg : w.grownBy w1 (g x).ownBlock) (hO : Own T w1 base v1 ys) (hy : ys ≠ []) (hloc : v1.ownBlock = (g x).ownBlock ∨ ∃ c, v1.ownBlock = some c ∧ w.heap.size ≤ c) :
    ∃ w2, (Instr.mapUpdate t (.map (some b)) (K.val x) v1).run P w1 = .ok () w2 ∧ MapG K T w2 base b (n + 1) (fun y => if y = x then ys else f y) (D.put (K.lit x) (.held v1)) (fun y => if y = x then v1 else g y) ∧ w1.grownBy w2 (some b) := by
  have hbne : some b ≠ (g x).ownBlock := fun e => by
    have := h.base_ hx b e.symm
    have := h.lt
    omega
  have own1 := h.own.kept hg hbne
  obtain ⟨w2, hrun, own2, hg2⟩ := own1.update K.law ht hn (K.key x hx) (d := .held v1) (ps := []) rfl
  have own_ne : ∀ {v : Value} {zs : List α}, Own T w1 base v zs → v.ownBlock = none ∨ v.ownBlock ≠ some b := fun {v zs} ho => by
    cases hv : v.ownBlock with
    | none => exact .inl rfl
    | some c =>
      have := ho.base_ c hv
      have := h.lt
      exact .inr (fun e => by injection e with e; omega)
  have hIs : IsMap D := h.own.isMap
  refine ⟨w2, hrun, ⟨own2, h.lt, fun y hy' => ?_, fun y hy' => ?_, fun y z hy' hz' hne => ?_, fun l hl => ?_, fun y hy' hf => ?_⟩, hg2⟩
  · by_cases e : y = x
    · subst e
      rw [if_pos rfl, Maps.atKey_put_same hIs (K.isKey hx)]
    · rw [if_neg e, Maps.atKey_put_other (fun e' => e (K.inj hy' hx e')), h.at_ y hy']
  · by_cases e : y = x
    · rw [if_pos e, if_pos e]
      exact hO.kept_ hg2 (own_ne hO)
    · rw [if_neg e, if_neg e]
      have h1 : Own T w1 base (g y) (f y) := (h.row y hy').kept_ hg ((h.ne x y hx hy' (fun e' => e e'.symm)).other)
      exact h1.kept_ hg2 (own_ne h1)
  · have key : ∀ y, K.ok y → y ≠ x → NeRow v1 (g y) := fun y hy' e => (h.ne x y hx hy' (fun e' => e e'.symm)).app hloc (h.row y hy')
    by_cases ey : y = x
    · by_cases ez : z = x
      · exact absurd (ey.trans ez.symm) hne
      · rw [if_pos ey, if_neg ez]
        exact key z hz' ez
    · by_cases ez : z = x
      · rw [if_neg ey, if_pos ez]
        exact (key y hy' ey).symm
      · rw [if_neg ey, if_neg ez]
        exact h.ne y z hy' hz' hne
  · by_cases e : l = K.lit x
    · exact ⟨x, hx, e, by rw [if_pos rfl]; exact hy⟩
    · rw [Maps.has_put_other e] at hl
      obtain ⟨y, hy', rfl, hf⟩ := h.has1 l hl
      exact ⟨y, hy', rfl, by rw [if_neg (fun e' => e (by rw [e']))]; exact hf⟩
  · by_cases e : y = x
    · subst e
      exact Maps.has_put_same hIs (K.isKey hx) _
    · rw [if_neg e] at hf
      rw [Maps.has_put_other (fun e' => e (K.inj hy' hx e'))]
      exact h.has2 y hy' hf
/-! ### a range over it -/
structure RngG (K : KeyT P κ) (T : Ty α) (w : World) (base b r n : Nat) (f : κ → List α) (D : DataW Value) (g : κ → Value) (dn : List κ) (cnt : Nat) : Prop where
  rg : ∃ left, w.ranges P K.k hvR b r n D left cnt ∧ ∀ l, left l = true ↔ ∃ x, K.ok x ∧ l = K.lit x ∧ f x ≠ [] ∧ x ∉ dn
  at_ : ∀ x, K.ok x → D.atKey (K.lit x) (.held (.slice none 0 0)) = .held (g x)
  row : ∀ x, K.ok x → Own T w base (g x) (f x)
  nd : dn.Nodup
  dok : ∀ x ∈ dn, K.ok x ∧ f x ≠ []
  hb : b < base
variable {r : Nat} {dn : List κ} {cnt : Nat}
theorem RngG.kept {w1 : World} {row : Option Nat} (h : RngG K T w base b r n f D g dn cnt) (hg : w.grownBy w1 row) (h1 : some b ≠ row) (h2 : some r ≠ row) (h3 : ∀ c, row = some c → w.heap.size ≤ c ∨ ∀ x, K.ok x → (g x).ownBlock ≠ some c) : RngG K T w1 base b r n f D g dn cnt := by
  obtain ⟨left, hl, hi⟩ := h.rg
  refine { h with rg := ⟨left, hl.kept hg h1 h2, hi⟩, row := fun x hx => (h.row x hx).kept_ hg ?_ }
  cases hv : (g x).ownBlock with
  | none => exact .inl rfl
  | some c =>
    refine .inr (fun e => ?_)
    rcases h3 c e.symm with h4 | h4
    · have := (h.row x hx).lt_ c hv
      omega
    · exact h4 x hx hv
theorem RngG.bel {w1 : World} (h : RngG K T w base b r n f D g dn cnt) (hb : Bel w w1) : RngG K T w1 base b r n f D g dn cnt :=
  h.kept (grown_of_bel hb none) (by simp) (by simp) (fun c hc => by cases hc)
theorem RngG.left_eq (h : RngG K T w base b r n f D g dn cnt) : w.rangeLeft b r = cnt := by
  obtain ⟨left, hl, _⟩ := h.rg
  exact hl.left_eq
theorem RngG.ne_rb (h : RngG K T w base b r n f D g dn cnt) : r ≠ b := by
  obtain ⟨left, hl, _⟩ := h.rg
  exact hl.ne
theorem RngG.lt_r (h : RngG K T w base b r n f D g dn cnt) : r < w.heap.size := by
  obtain ⟨left, hl, _⟩ := h.rg
  exact hl.lt
/-- 'range m'. -/
theorem MapG.range {t e : TypeId} (h : MapG K T w base b n f D g) (ht : P.underlying t = some (.map K.k e)) :
    ∃ w', (Instr.range t (.map (some b))).run P w = .ok (.pointer (some ⟨w.heap.size, 0, none⟩)) w' ∧ RngG K T w' base b w.heap.size n f D g [] (Maps.size D) ∧ w.grownBy w' none ∧ w'.heap.size = w.heap.size + 1 := by
  obtain ⟨w', hrun, hr, hg, hs⟩ := h.own.range K.law ht
  refine ⟨w', hrun, ⟨⟨_, hr, fun l => ⟨fun hl => ?_, ?_⟩⟩, h.at_, fun x hx => (h.row x hx).kept_ hg (by cases (g x).ownBlock <;> simp), List.nodup_nil, by simp, h.lt⟩, hg, hs⟩
  · obtain ⟨x, hx, e, hf⟩ := h.has1 l hl
    exact ⟨x, hx, e, hf, by simp⟩
  · rintro ⟨x, hx, rfl, hf, _⟩
    exact h.has2 x hx hf
/-- The step. -/
theorem RngG.next (h : RngG K T w base b r n f D g dn cnt) (hrb : ∀ x, K.ok x → (g x).ownBlock ≠ some r) (ty : TypeId) :
    (cnt = 0 ∧ (∀ x, K.ok x → f x ≠ [] → x ∈ dn) ∧ (Instr.next (.pointer (some ⟨r, 0, none⟩)) false ty).run P w = .ok (.tuple #[.bool false]) w) ∨
    ∃ x w' cnt', K.ok x ∧ f x ≠ [] ∧ x ∉ dn ∧ (Instr.next (.pointer (some ⟨r, 0, none⟩)) false ty).run P w = .ok (.tuple #[.bool true, K.val x, g x]) w' ∧
      RngG K T w' base b r n f D g (dn ++ [x]) cnt' ∧ cnt' < cnt ∧ w.grownBy w' (some r) ∧ w'.heap.size = w.heap.size ∧ (Instr.entry (.pointer (some ⟨r, 0, none⟩))).run P w' = .ok (.tuple #[K.val x, g x]) w' := by
  obtain ⟨left, hl, hi⟩ := h.rg
  rcases hl.next K.law ty with ⟨h0, hno, hrun⟩ | ⟨key, v, kl, y, w', cnt', hkey, hlk, hv, hat, hrun, hrg, hlt, hg, hs, hen⟩
  · refine .inl ⟨h0, fun x hx hf => ?_, hrun⟩
    apply Classical.byContradiction
    intro hc
    have := (hi (K.lit x)).2 ⟨x, hx, rfl, hf, hc⟩
    rw [hno] at this
    cases this
  · obtain ⟨x, hx, rfl, hf, hd⟩ := (hi kl).1 hlk
    have ek : key = K.val x := K.law.inj hkey (K.key x hx)
    subst ek
    have ev : v = g x := by
      have h1 := hat (.held (.slice none 0 0))
      rw [h.at_ x hx] at h1
      simp only [hvR, Option.some.injEq] at hv
      rw [← hv] at h1
      simp only [DataW.held.injEq] at h1
      exact h1.symm
    subst ev
    refine .inr ⟨x, w', cnt', hx, hf, hd, hrun, ⟨⟨_, hrg, fun l => ?_⟩, h.at_, fun z hz => (h.row z hz).kept_ hg (.inr (hrb z hz)), ?_, ?_, h.hb⟩, hlt, hg, hs, hen⟩
    · simp only [Bool.and_eq_true, Bool.not_eq_true']
      constructor
      · rintro ⟨h1, h2⟩
        obtain ⟨z, hz, rfl, hzf, hzd⟩ := (hi l).1 h1
        refine ⟨z, hz, rfl, hzf, ?_⟩
        simp only [List.mem_append, List.mem_singleton, not_or]
        refine ⟨hzd, fun e => ?_⟩
        subst e
        rw [WideAt.sameKey_self (K.isKey hz)] at h2
        cases h2
      · rintro ⟨z, hz, rfl, hzf, hzd⟩
        simp only [List.mem_append, List.mem_singleton, not_or] at hzd
        refine ⟨(hi _).2 ⟨z, hz, rfl, hzf, hzd.1⟩, ?_⟩
        cases hs : (K.lit z).sameKey (K.lit x)
        · rfl
        · exact absurd (K.inj hz hx (WideAt.sameKey_eq hs)) hzd.2
    · rw [List.nodup_append]
      refine ⟨h.nd, by simp, fun a ha c hc => ?_⟩
      simp at hc
      subst hc
      intro e
      exact hd (e ▸ ha)
    · intro z hz
      rcases List.mem_append.1 hz with hz | hz
      · exact h.dok z hz
      · simp at hz
        subst hz
        exact ⟨hx, hf⟩
end Go.Proofs.Ytcfabnkkkpcelaa
