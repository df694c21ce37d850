/- The first place behind one: plain. -/
import Derived.Test.YtnpinolhhnpniaaGreatNetP
set_option linter.unusedSimpArgs false
set_option linter.unusedVariables false
namespace Go.Proofs.YtnpinolhhnpniaaGreat
def emP : Plc := ⟨⟨#[]⟩, ⟨#[]⟩⟩
/-- Behind a place; any, where there is none. -/
def behB (st : Bool) (q p : Plc) : Bool := st || ltP q p
def nstep (st : Bool) (q : Plc) (s : Option Plc) (p : Plc) : Option Plc := if behB st q p && (match s with | none => true | some b => ltP p b) then some p else s
def nfold (st : Bool) (q : Plc) (l : List Due) : Option Plc := l.foldl (fun s d => nstep st q s d.plc) none
theorem nfold_step {st : Bool} {q : Plc} {l : List Due} {k : Nat} {o : Due} (h : l[k]? = some o) : nfold st q (l.take (k + 1)) = nstep st q (nfold st q (l.take k)) o.plc := by
  unfold nfold
  rw [List.take_add_one, h]
  simp
/-- What the fold gives: the least place behind. -/
theorem nfold_spec (st : Bool) (q : Plc) : ∀ (l : List Due), (nfold st q l = none ∧ ∀ d ∈ l, behB st q d.plc = false) ∨ ∃ p, nfold st q l = some p ∧ behB st q p = true ∧ (∃ d ∈ l, d.plc = p) ∧ ∀ d ∈ l, behB st q d.plc = true → ltP d.plc p = false := by
  intro l
  suffices ∀ (r l : List Due) (s : Option Plc), ((s = none ∧ ∀ d ∈ l, behB st q d.plc = false) ∨ ∃ p, s = some p ∧ behB st q p = true ∧ (∃ d ∈ l, d.plc = p) ∧ ∀ d ∈ l, behB st q d.plc = true → ltP d.plc p = false) →
      ((r.foldl (fun s d => nstep st q s d.plc) s = none ∧ ∀ d ∈ l ++ r, behB st q d.plc = false) ∨ ∃ p, r.foldl (fun s d => nstep st q s d.plc) s = some p ∧ behB st q p = true ∧ (∃ d ∈ l ++ r, d.plc = p) ∧ ∀ d ∈ l ++ r, behB st q d.plc = true → ltP d.plc p = false) from by
    have := this l [] none (.inl ⟨rfl, by simp⟩)
    simpa [nfold] using this
  intro r
  induction r with
  | nil => intro l s h; simpa using h
  | cons x r ih =>
    intro l s h
    have := ih (l ++ [x]) (nstep st q s x.plc) ?_
    · simpa using this
    · rcases h with ⟨rfl, h⟩ | ⟨p, rfl, h1, ⟨d0, hd0, e0⟩, h2⟩
      · cases hb : behB st q x.plc
        · refine .inl ⟨by simp [nstep, hb], fun d hd => ?_⟩
          rcases List.mem_append.1 hd with hd | hd
          · exact h d hd
          · simp at hd; rw [hd]; exact hb
        · refine .inr ⟨x.plc, by simp [nstep, hb], hb, ⟨x, by simp, rfl⟩, fun d hd hbd => ?_⟩
          rcases List.mem_append.1 hd with hd | hd
          · rw [h d hd] at hbd; cases hbd
          · simp at hd; rw [hd]; exact ltP_irr _
      · cases hc : (behB st q x.plc && ltP x.plc p)
        · refine .inr ⟨p, by simp [nstep, hc], h1, ⟨d0, by simp [hd0], e0⟩, fun d hd hbd => ?_⟩
          rcases List.mem_append.1 hd with hd | hd
          · exact h2 d hd hbd
          · simp at hd; subst hd; rw [hbd] at hc; simpa using hc
        · have hc' := hc
          simp only [Bool.and_eq_true] at hc'
          refine .inr ⟨x.plc, by simp [nstep, hc], hc'.1, ⟨x, by simp, rfl⟩, fun d hd hbd => ?_⟩
          rcases List.mem_append.1 hd with hd | hd
          · have h3 := h2 d hd hbd
            cases h4 : ltP d.plc x.plc
            · rfl
            · rw [ltP_trans h4 hc'.2] at h3; cases h3
          · simp at hd; rw [hd]; exact ltP_irr _
theorem up_at {ps : List Plc} (hu : Up ps) {i j : Nat} {p q : Plc} (hi : ps[i]? = some p) (hj : ps[j]? = some q) : ltP p q = true ↔ i < j := by
  obtain ⟨a1, b1⟩ := List.getElem?_eq_some_iff.1 hi
  obtain ⟨a2, b2⟩ := List.getElem?_eq_some_iff.1 hj
  have h := List.pairwise_iff_getElem.1 hu
  constructor
  · intro hlt
    apply Classical.byContradiction
    intro hn
    rcases Nat.lt_or_ge j i with hji | hji
    · have := h j i a2 a1 hji
      rw [b1, b2] at this
      rw [ltP_asym this] at hlt; cases hlt
    · obtain rfl : i = j := by omega
      rw [← b1, ← b2, ltP_irr] at hlt; cases hlt
  · intro hij
    have := h i j a1 a2 hij
    rwa [b1, b2] at this
/-- The first place of all; the one behind the k-th. -/
theorem nfold_start (q : Plc) (l : List Due) : nfold true q l = (dueP l)[0]? := by
  rcases nfold_spec true q l with ⟨h, hn⟩ | ⟨p, h, _, ⟨d, hd, e⟩, hm⟩
  · rw [h]
    cases hl : l with
    | nil => rfl
    | cons x r => have := hn x (by rw [hl]; simp); simp [behB] at this
  · rw [h]
    have hp : p ∈ dueP l := mem_dueP.2 (List.mem_map.2 ⟨d, hd, e⟩)
    obtain ⟨i, hi⟩ := List.mem_iff_getElem?.1 hp
    cases hi0 : (dueP l)[0]? with
    | none => rw [List.getElem?_eq_none_iff] at hi0; have := (List.getElem?_eq_some_iff.1 hi).1; omega
    | some p0 =>
      have hp0 : p0 ∈ dueP l := List.mem_of_getElem? hi0
      obtain ⟨d0, hd0, e0⟩ := List.mem_map.1 (mem_dueP.1 hp0)
      have h1 := hm d0 hd0 rfl
      rw [e0] at h1
      rcases Nat.eq_zero_or_pos i with rfl | hpos
      · rw [hi0] at hi; exact congrArg some (by injection hi with hi; exact hi.symm)
      · rw [(up_at (up_plcs _) hi0 hi).2 hpos] at h1; cases h1
theorem nfold_next (l : List Due) {k : Nat} {q : Plc} (hk : (dueP l)[k]? = some q) : nfold false q l = (dueP l)[k + 1]? := by
  rcases nfold_spec false q l with ⟨h, hn⟩ | ⟨p, h, hb, ⟨d, hd, e⟩, hm⟩
  · rw [h]
    cases hi : (dueP l)[k + 1]? with
    | none => rfl
    | some p1 =>
      obtain ⟨d1, hd1, e1⟩ := List.mem_map.1 (mem_dueP.1 (List.mem_of_getElem? hi))
      have h1 := hn d1 hd1
      rw [e1] at h1
      have h2 := (up_at (up_plcs _) hk hi).2 (by omega)
      simp [behB, h2] at h1
  · rw [h]
    have hp : p ∈ dueP l := mem_dueP.2 (List.mem_map.2 ⟨d, hd, e⟩)
    obtain ⟨i, hi⟩ := List.mem_iff_getElem?.1 hp
    have hki : k < i := (up_at (up_plcs _) hk hi).1 (by simpa [behB] using hb)
    cases hi1 : (dueP l)[k + 1]? with
    | none => rw [List.getElem?_eq_none_iff] at hi1; have := (List.getElem?_eq_some_iff.1 hi).1; omega
    | some p1 =>
      obtain ⟨d1, hd1, e1⟩ := List.mem_map.1 (mem_dueP.1 (List.mem_of_getElem? hi1))
      have h2 := (up_at (up_plcs _) hk hi1).2 (by omega)
      have h1 := hm d1 hd1 (by rw [e1]; simpa [behB] using h2)
      rw [e1] at h1
      rcases Nat.lt_or_ge (k + 1) i with hlt | hge
      · rw [(up_at (up_plcs _) hi1 hi).2 hlt] at h1; cases h1
      · obtain rfl : i = k + 1 := by omega
        rw [hi1] at hi; exact congrArg some (by injection hi with hi; exact hi.symm)
theorem nfold_empty {l : List Due} (h : ∀ d ∈ l, ltP emP d.plc = true) : nfold false emP l = (dueP l)[0]? := by
  have e : nfold false emP l = nfold true emP l := by
    rcases nfold_spec false emP l with ⟨h1, h2⟩ | ⟨p, h1, _, ⟨d, hd, e⟩, hm⟩
    · cases hl : l with
      | nil => rfl
      | cons x r => have a := h2 x (by rw [hl]; simp); have b := h x (by rw [hl]; simp); simp [behB, b] at a
    · rcases nfold_spec true emP l with ⟨h3, h4⟩ | ⟨p', h3, _, ⟨d', hd', e'⟩, hm'⟩
      · have := h4 d hd; simp [behB] at this
      · rw [h1, h3]
        by_cases k : p = p'
        · rw [k]
        · rcases ltP_tot k with k | k
          · have := hm' d hd (by simp [behB]); rw [e, k] at this; cases this
          · have := hm d' hd' (by simp [behB, h d' hd']); rw [e', k] at this; cases this
  rw [e, nfold_start]
end Go.Proofs.YtnpinolhhnpniaaGreat
