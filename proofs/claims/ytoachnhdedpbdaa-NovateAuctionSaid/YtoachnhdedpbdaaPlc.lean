/- Places (whose account of what), and their order. -/
import Derived.WalkKit
set_option linter.unusedSimpArgs false
set_option linter.unusedVariables false
namespace Go.Proofs.Ytoachnhdedpbdaa
open Go.RowKit
/-! ### 1. The order of texts -/
theorem bl_irr : ∀ l : List UInt8, Op.bytesLess l l = false
  | [] => rfl
  | a :: l => by
    have := bl_irr l
    simp only [Op.bytesLess, this, Bool.and_false, Bool.or_false, decide_eq_false_iff_not]
    exact UInt8.lt_irrefl a
theorem bl_cons (a b : UInt8) (x y : List UInt8) : Op.bytesLess (a :: x) (b :: y) = true ↔ a < b ∨ (a = b ∧ Op.bytesLess x y = true) := by
  simp [Op.bytesLess]
theorem bl_trans : ∀ (a b c : List UInt8), Op.bytesLess a b = true → Op.bytesLess b c = true → Op.bytesLess a c = true
  | _, [], _, h, _ => by simp [Op.bytesLess] at h
  | _, _ :: _, [], _, h => by simp [Op.bytesLess] at h
  | [], _ :: _, _ :: _, _, _ => rfl
  | a :: x, b :: y, c :: z, h, k => by
    rw [bl_cons] at h k ⊢
    rcases h with h | ⟨rfl, h⟩ <;> rcases k with k | ⟨rfl, k⟩
    · exact .inl (UInt8.lt_trans h k)
    · exact .inl h
    · exact .inl k
    · exact .inr ⟨rfl, bl_trans x y z h k⟩
theorem bl_tot : ∀ (a b : List UInt8), a ≠ b → Op.bytesLess a b = true ∨ Op.bytesLess b a = true
  | [], [], h => absurd rfl h
  | [], _ :: _, _ => .inl rfl
  | _ :: _, [], _ => .inr rfl
  | a :: x, b :: y, h => by
    rw [bl_cons, bl_cons]
    by_cases e : a = b
    · subst e
      have hxy : x ≠ y := fun e => h (by rw [e])
      rcases bl_tot x y hxy with k | k
      · exact .inl (.inr ⟨rfl, k⟩)
      · exact .inr (.inr ⟨rfl, k⟩)
    · rcases UInt8.lt_or_lt_of_ne e with k | k
      · exact .inl (.inl k)
      · exact .inr (.inl k)
def ltX (a b : ByteArray) : Bool := Op.bytesLess a.toList b.toList
theorem toList_inj {a b : ByteArray} (h : a.toList = b.toList) : a = b := by
  rw [ByteArray.toList_eq, ByteArray.toList_eq] at h
  obtain ⟨⟨x⟩⟩ := a
  obtain ⟨⟨y⟩⟩ := b
  simpa using h
theorem ltX_irr (a : ByteArray) : ltX a a = false := bl_irr _
theorem ltX_trans {a b c : ByteArray} (h : ltX a b = true) (k : ltX b c = true) : ltX a c = true := bl_trans _ _ _ h k
theorem ltX_asym {a b : ByteArray} (h : ltX a b = true) : ltX b a = false := by
  cases k : ltX b a
  · rfl
  · have := ltX_trans h k
    rw [ltX_irr] at this
    cases this
theorem ltX_tot {a b : ByteArray} (h : a ≠ b) : ltX a b = true ∨ ltX b a = true := bl_tot _ _ (fun e => h (toList_inj e))
theorem ltX_ne {a b : ByteArray} (h : ltX a b = true) : a ≠ b := fun e => by
  rw [e, ltX_irr] at h
  cases h
/-! ### 2. Places -/
structure Plc where
  who : ByteArray
  asset : ByteArray
deriving DecidableEq
def ltP (p q : Plc) : Bool := ltX p.who q.who || (decide (p.who = q.who) && ltX p.asset q.asset)
theorem ltP_iff (p q : Plc) : ltP p q = true ↔ ltX p.who q.who = true ∨ (p.who = q.who ∧ ltX p.asset q.asset = true) := by simp [ltP]
theorem ltP_irr (p : Plc) : ltP p p = false := by simp [ltP, ltX_irr]
theorem ltP_trans {p q r : Plc} (h : ltP p q = true) (k : ltP q r = true) : ltP p r = true := by
  rw [ltP_iff] at *
  rcases h with h | ⟨e, h⟩ <;> rcases k with k | ⟨e', k⟩
  · exact .inl (ltX_trans h k)
  · exact .inl (e' ▸ h)
  · exact .inl (e ▸ k)
  · exact .inr ⟨e.trans e', ltX_trans h k⟩
theorem ltP_asym {p q : Plc} (h : ltP p q = true) : ltP q p = false := by
  cases k : ltP q p
  · rfl
  · have := ltP_trans h k
    rw [ltP_irr] at this
    cases this
theorem ltP_ne {p q : Plc} (h : ltP p q = true) : p ≠ q := fun e => by
  rw [e, ltP_irr] at h
  cases h
theorem ltP_tot {p q : Plc} (h : p ≠ q) : ltP p q = true ∨ ltP q p = true := by
  rw [ltP_iff, ltP_iff]
  by_cases e : p.who = q.who
  · have : p.asset ≠ q.asset := fun e' => h (by cases p; cases q; simp_all)
    rcases ltX_tot this with k | k
    · exact .inl (.inr ⟨e, k⟩)
    · exact .inr (.inr ⟨e.symm, k⟩)
  · rcases ltX_tot e with k | k
    · exact .inl (.inl k)
    · exact .inr (.inl k)
/-! ### 3. The order as a number -/
def cmpX (a b : ByteArray) : Int := if ltX a b then -1 else if ltX b a then 1 else 0
theorem cmpX_neg {a b : ByteArray} : cmpX a b < 0 ↔ ltX a b = true := by
  unfold cmpX
  cases ltX a b <;> cases ltX b a <;> simp
theorem cmpX_zero {a b : ByteArray} : cmpX a b = 0 ↔ a = b := by
  constructor
  · intro h
    by_cases e : a = b
    · exact e
    · unfold cmpX at h
      rcases ltX_tot e with k | k
      · simp [k] at h
      · simp [k, ltX_asym k] at h
  · rintro rfl
    simp [cmpX, ltX_irr]
/-- -1, 0, 1. -/
def cmpP (p q : Plc) : Int := if cmpX p.who q.who = 0 then cmpX p.asset q.asset else cmpX p.who q.who
theorem cmpP_neg {p q : Plc} : cmpP p q < 0 ↔ ltP p q = true := by
  rw [ltP_iff]
  unfold cmpP
  by_cases e : p.who = q.who
  · rw [if_pos (cmpX_zero.2 e), cmpX_neg]
    constructor
    · exact fun h => .inr ⟨e, h⟩
    · rintro (h | ⟨_, h⟩)
      · exact absurd e (ltX_ne h)
      · exact h
  · rw [if_neg (fun h => e (cmpX_zero.1 h)), cmpX_neg]
    constructor
    · exact .inl
    · rintro (h | ⟨h, _⟩)
      · exact h
      · exact absurd h e
theorem cmpP_zero {p q : Plc} : cmpP p q = 0 ↔ p = q := by
  unfold cmpP
  by_cases e : p.who = q.who
  · rw [if_pos (cmpX_zero.2 e), cmpX_zero]
    constructor
    · intro h
      cases p
      cases q
      simp_all
    · rintro rfl
      rfl
  · rw [if_neg (fun h => e (cmpX_zero.1 h))]
    constructor
    · exact fun h => absurd (cmpX_zero.1 h) e
    · rintro rfl
      exact absurd rfl e
theorem cmpP_ge {p q : Plc} : 0 ≤ cmpP p q ↔ ltP p q = false := by
  rw [← Bool.not_eq_true, ← cmpP_neg]
  omega
end Go.Proofs.Ytoachnhdedpbdaa
