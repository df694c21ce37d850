/- Maps of rows of the call's own: 'm[k] = append(m[k], ..)'. -/
import Derived.Test.YtnpinolhhnpniaaGreatMp
import Derived.WideKeyEntry
set_option linter.unusedSimpArgs false
set_option linter.unusedVariables false
namespace Go.Proofs.YtnpinolhhnpniaaGreat
open Go.RowKit Go.Maps Go.ChangeMaps Go.ChangeShapes Go.WideShapes
variable {P : Program} {κ α : Type} {T : Ty α} {K : KeyT P κ}
variable {w : World} {base b n : Nat} {f : κ → List α} {D : DataW Value} {g : κ → Value}
open Classical in
theorem MapG.put {w3 : World} (h : MapG K T w base b n f D g) {x : κ} (hx : K.ok x) {v1 : Value} {ys : List α} (hown : w3.ownsMap P K.k hvR b (n + 1) (D.put (K.lit x) (.held v1)))
    (hO : Own T w3 base v1 ys) (hy : ys ≠ []) (hrow : ∀ y, K.ok y → y ≠ x → Own T w3 base (g y) (f y)) (hnr : ∀ y, K.ok y → y ≠ x → NeRow v1 (g y)) :
    MapG K T w3 base b (n + 1) (fun y => if y = x then ys else f y) (D.put (K.lit x) (.held v1)) (fun y => if y = x then v1 else g y) := by
  have hIs : IsMap D := h.own.isMap
  refine ⟨hown, h.lt, fun y hy' => ?_, fun y hy' => ?_, fun y z hy' hz' hne => ?_, fun l hl => ?_, fun y hy' hf => ?_⟩
  · by_cases e : y = x
    · subst e
      rw [if_pos rfl, Maps.atKey_put_same hIs (K.isKey hx)]
    · rw [if_neg e, Maps.atKey_put_other (fun e' => e (K.inj hy' hx e')), h.at_ y hy']
  · by_cases e : y = x
    · rw [if_pos e, if_pos e]
      exact hO
    · rw [if_neg e, if_neg e]
      exact hrow y hy' e
  · by_cases ey : y = x
    · by_cases ez : z = x
      · exact absurd (ey.trans ez.symm) hne
      · rw [if_pos ey, if_neg ez]
        exact hnr z hz' ez
    · by_cases ez : z = x
      · rw [if_neg ey, if_pos ez]
        exact (hnr y hy' ey).symm
      · rw [if_neg ey, if_neg ez]
        exact h.ne y z hy' hz' hne
  · by_cases e : l = K.lit x
    · exact ⟨x, hx, e, by rw [if_pos rfl]; exact hy⟩
    · rw [Maps.has_put_other e] at hl
      obtain ⟨y, hy', rfl, hf⟩ := h.has1 l hl
      exact ⟨y, hy', rfl, by rw [if_neg (fun e' => e (by rw [e']))]; exact hf⟩
  · by_cases e : y = x
    · subst e
      exact Maps.has_put_same hIs (K.isKey hx) _
    · rw [if_neg e] at hf
      rw [Maps.has_put_other (fun e' => e (K.inj hy' hx e'))]
      exact h.has2 y hy' hf
theorem key_once {l : List MapEntry} (h : l.Pairwise (fun x y => x.key ≠ y.key)) {a c : MapEntry} (ha : a ∈ l) (hc : c ∈ l) (e : a.key = c.key) : a = c := by
  induction l with
  | nil => cases ha
  | cons x l ih =>
    obtain ⟨h1, h2⟩ := List.pairwise_cons.1 h
    rcases List.mem_cons.1 ha with rfl | ha
    · rcases List.mem_cons.1 hc with rfl | hc
      · rfl
      · exact absurd e (h1 c hc)
    · rcases List.mem_cons.1 hc with hc | hc
      · exact absurd e.symm (by rw [hc]; exact h1 a ha)
      · exact ih h2 ha hc
open Classical in
/-- 'm[x] = append(m[x], ..)': the entry, and the store behind the append. -/
theorem MapG.entry {t e : TypeId} (KL : Go.WideMaps.KeyLaw P K.k) (h : MapG K T w base b n f D g) (ht : P.underlying t = some (.map K.k e)) (hz : ∀ u : World, (zeroValue e).run P u = .ok (.slice none 0 0) u) (hn : n < maxLen) {x : κ} (hx : K.ok x) :
    ∃ (st : Nat) (w1 : World), (Instr.mapEntry t (.map (some b)) (K.val x)).run P w = .ok (.tuple #[g x, .int .i64 (st : Int)]) w1 ∧ w.grownBy w1 (some b) ∧ w1.heap.size = w.heap.size ∧ Own T w1 base (g x) (f x) ∧
      ∀ (w2 : World) (v1 : Value) (ys : List α), w1.grownBy w2 (g x).ownBlock → Own T w2 base v1 ys → ys ≠ [] → (v1.ownBlock = (g x).ownBlock ∨ ∃ c, v1.ownBlock = some c ∧ w1.heap.size ≤ c) →
        ∃ w3, (Instr.entryStore t (.map (some b)) (.int .i64 (st : Int)) v1).run P w2 = .ok () w3 ∧ MapG K T w3 base b (n + 1) (fun y => if y = x then ys else f y) (D.put (K.lit x) (.held v1)) (fun y => if y = x then v1 else g y) ∧ w2.grownBy w3 (some b) := by
  have hlook := h.look ht (hz w) hx
  have hown := h.own
  obtain ⟨es, clock, hb, F, hs, hD⟩ := h.own
  obtain ⟨v0, st, es1, clock1, hrun, hv0, hstore⟩ := Go.WideElems.entry_then_store KL ht hz hb F (K.key x hx)
  have hg1 : w.grownBy (setBlock w b (.map es1 clock1)) (some b) := ⟨rfl, rfl, rfl, by simp [setBlock], fun i _ hi => heap_setBlock_other hb _ (fun e => hi (by rw [e]))⟩
  have hbne : some b ≠ (g x).ownBlock := fun e => by
    have := h.base_ hx b e.symm
    have := h.lt
    omega
  have own_ne : ∀ {W : World} {v : Value} {zs : List α}, Own T W base v zs → v.ownBlock = none ∨ v.ownBlock ≠ some b := fun {W v zs} ho => by
    cases hv : v.ownBlock with
    | none => exact .inl rfl
    | some c =>
      have := ho.base_ c hv
      have := h.lt
      exact .inr (fun e => by injection e with e; omega)
  have ev : v0 = g x := by
    rcases Maps.fit_look false K.law ht (hz w) hb F (K.key x hx) with ⟨hr, hno, _⟩ | ⟨e1, y, he1, hk1, hr, _, _, _⟩
    · rw [hlook] at hr
      simp only [Bool.false_eq_true, if_false, Result.ok.injEq, and_true] at hr
      rcases hv0 with ⟨e0, he0, hk0, rfl⟩ | ⟨_, rfl⟩
      · exact absurd hk0 (hno e0 he0)
      · exact hr.symm
    · rw [hlook] at hr
      simp only [Bool.false_eq_true, if_false, Result.ok.injEq, and_true] at hr
      rcases hv0 with ⟨e0, he0, hk0, rfl⟩ | ⟨hno, _⟩
      · have := key_once ((Go.MapKept.stamped_iff es clock).1 F.stamped).2.2 he0 he1 (hk0.trans hk1.symm)
        rw [this]
        exact hr.symm
      · exact absurd hk1 (hno e1 he1)
  subst ev
  refine ⟨st, _, hrun, hg1, by simp [setBlock], (h.row x hx).kept_ hg1 (own_ne (h.row x hx)), fun w2 v1 ys hg2 hO hy hloc => ?_⟩
  have hb1 : (setBlock w b (.map es1 clock1)).heap[b]? = some (.map es1 clock1) := heap_setBlock_same hb _
  have hb2 : w2.heap[b]? = some (.map es1 clock1) := (hg2.block b (Array.getElem?_eq_some_iff.1 hb1).1 (fun e => hbne e)).trans hb1
  obtain ⟨es', clock', hst, hup⟩ := hstore w2 v1 hb2
  have hg3 : w2.grownBy (setBlock w2 b (.map es' clock')) (some b) := ⟨rfl, rfl, rfl, by simp [setBlock], fun i _ hi => heap_setBlock_other hb2 _ (fun e => hi (by rw [e]))⟩
  have hownN : (setBlock w2 b (.map es' clock')).ownsMap P K.k hvR b (n + 1) (D.put (K.lit x) (.held v1)) := by
    obtain ⟨w', hrun', own', _⟩ := hown.update K.law ht hn (K.key x hx) (val := v1) (d := .held v1) (ps := []) rfl
    rw [hup] at hrun'
    simp only [Result.ok.injEq, true_and] at hrun'
    subst hrun'
    obtain ⟨es2, clock2, hbb, F2, hs2, hD2⟩ := own'
    rw [heap_setBlock_same hb _] at hbb
    injection hbb with hbb
    injection hbb with k1 k2
    subst k1
    subst k2
    exact ⟨_, _, heap_setBlock_same hb2 _, F2, hs2, hD2⟩
  refine ⟨_, hst, h.put hx hownN (hO.kept_ hg3 (own_ne hO)) hy (fun y hy' e => ?_) (fun y hy' e => ?_), hg3⟩
  · have r1 := (h.row y hy').kept_ hg1 (own_ne (h.row y hy'))
    have r2 := r1.kept_ hg2 ((h.ne x y hx hy' (fun e' => e e'.symm)).other)
    exact r2.kept_ hg3 (own_ne r2)
  · exact (h.ne x y hx hy' (fun e' => e e'.symm)).app (by simpa [setBlock] using hloc) (h.row y hy')
end Go.Proofs.YtnpinolhhnpniaaGreat
