/- Dues, and legs: plain. -/
import Derived.Test.YtoachnhdedpbdaaPlc
namespace Go.Proofs.Ytoachnhdedpbdaa
structure Due where
  who : ByteArray
  asset : ByteArray
  amount : Int
deriving DecidableEq
def Due.plc (d : Due) : Plc := ⟨d.who, d.asset⟩
/-- Someone's amounts of an asset. -/
def amts (l : List Due) (p : Plc) : List Int := (l.filter (fun d => decide (d.plc = p))).map Due.amount
/-! ### places, each once, rising -/
def insU (p : Plc) : List Plc → List Plc
  | [] => [p]
  | q :: l => if p = q then q :: l else if ltP p q then p :: q :: l else q :: insU p l
def plcs (l : List Plc) : List Plc := l.foldr insU []
def Up (l : List Plc) : Prop := l.Pairwise (fun p q => ltP p q = true)
theorem mem_insU {p q : Plc} : ∀ {l : List Plc}, q ∈ insU p l ↔ q = p ∨ q ∈ l
  | [] => by simp [insU]
  | x :: l => by
    unfold insU
    split
    · rename_i e
      subst e
      simp
    · split
      · simp
      · simp only [List.mem_cons, mem_insU (l := l)]
        constructor
        · rintro (h | h | h)
          · exact .inr (.inl h)
          · exact .inl h
          · exact .inr (.inr h)
        · rintro (h | h | h)
          · exact .inr (.inl h)
          · exact .inl h
          · exact .inr (.inr h)
theorem up_insU (p : Plc) : ∀ {l : List Plc}, Up l → Up (insU p l)
  | [], _ => List.pairwise_singleton _ _
  | x :: l, h => by
    obtain ⟨h1, h2⟩ := List.pairwise_cons.1 h
    unfold insU
    split
    · exact h
    · rename_i hne
      split
      · rename_i hlt
        refine List.pairwise_cons.2 ⟨fun q hq => ?_, h⟩
        rcases List.mem_cons.1 hq with rfl | hq
        · exact hlt
        · exact ltP_trans hlt (h1 q hq)
      · rename_i hlt
        have hx : ltP x p = true := by
          rcases ltP_tot hne with k | k
          · exact absurd k hlt
          · exact k
        refine List.pairwise_cons.2 ⟨fun q hq => ?_, up_insU p h2⟩
        rcases mem_insU.1 hq with rfl | hq
        · exact hx
        · exact h1 q hq
theorem mem_plcs {p : Plc} : ∀ {l : List Plc}, p ∈ plcs l ↔ p ∈ l
  | [] => by simp [plcs]
  | x :: l => by
    show p ∈ insU x (plcs l) ↔ _
    rw [mem_insU, mem_plcs (l := l), List.mem_cons]
theorem up_plcs : ∀ (l : List Plc), Up (plcs l)
  | [] => List.Pairwise.nil
  | x :: l => up_insU x (up_plcs l)
theorem up_ext : ∀ {l m : List Plc}, Up l → Up m → (∀ p, p ∈ l ↔ p ∈ m) → l = m
  | [], [], _, _, _ => rfl
  | [], y :: m, _, _, h => by have := (h y).2 (by simp); cases this
  | x :: l, [], _, _, h => by have := (h x).1 (by simp); cases this
  | x :: l, y :: m, hl, hm, h => by
    obtain ⟨l1, l2⟩ := List.pairwise_cons.1 hl
    obtain ⟨m1, m2⟩ := List.pairwise_cons.1 hm
    have e : x = y := by
      rcases List.mem_cons.1 ((h x).1 (by simp)) with e | e
      · exact e
      · rcases List.mem_cons.1 ((h y).2 (by simp)) with e' | e'
        · exact e'.symm
        · have := ltP_trans (l1 y e') (m1 x e)
          rw [ltP_irr] at this
          cases this
    subst e
    rw [up_ext l2 m2 (fun p => ?_)]
    have := h p
    simp only [List.mem_cons] at this
    constructor
    · intro hp
      rcases this.1 (.inr hp) with e | e
      · exact absurd e.symm (ltP_ne (l1 p hp))
      · exact e
    · intro hp
      rcases this.2 (.inr hp) with e | e
      · exact absurd e.symm (ltP_ne (m1 p hp))
      · exact e
/-- A list whose members are those of l, each once, sorted by place: it is plcs l. -/
theorem plcs_of {l m : List Plc} (hm : Up m) (h : ∀ p, p ∈ m ↔ p ∈ l) : m = plcs l := up_ext hm (up_plcs l) (fun p => (h p).trans mem_plcs.symm)
theorem plcs_len (l : List Plc) : (plcs l).length ≤ l.length := by
  have ins : ∀ (p : Plc) (l : List Plc), (insU p l).length ≤ l.length + 1 := by
    intro p l
    induction l with
    | nil => simp [insU]
    | cons x l ih =>
      unfold insU
      split
      · simp
      · split
        · simp
        · simp only [List.length_cons]; omega
  induction l with
  | nil => simp [plcs]
  | cons x l ih =>
    have := ins x (plcs l)
    show (insU x (plcs l)).length ≤ _
    rw [List.length_cons]
    omega
/-- The first that is not 0. -/
def fstE (f : Plc → Int) : List Plc → Int
  | [] => 0
  | p :: l => if f p ≠ 0 then f p else fstE f l
theorem fstE_zero {f : Plc → Int} : ∀ {l : List Plc}, fstE f l = 0 ↔ ∀ p ∈ l, f p = 0
  | [] => by simp [fstE]
  | p :: l => by
    unfold fstE
    by_cases h : f p ≠ 0
    · rw [if_pos h]
      constructor
      · exact fun e => absurd e h
      · exact fun e => absurd (e p (by simp)) h
    · rw [if_neg h, fstE_zero]
      have h : f p = 0 := by simpa using h
      simp [h]
theorem fstE_congr {f g : Plc → Int} : ∀ {l : List Plc}, (∀ p ∈ l, f p = g p) → fstE f l = fstE g l
  | [], _ => rfl
  | p :: l, h => by
    unfold fstE
    rw [h p (by simp), fstE_congr (fun q hq => h q (by simp [hq]))]
/-- All errors are one: the first is it, or none. -/
theorem fstE_one {f : Plc → Int} {e : Int} : ∀ {l : List Plc}, (∀ p ∈ l, f p = 0 ∨ f p = e) → fstE f l = 0 ∨ fstE f l = e
  | [], _ => .inl rfl
  | p :: l, h => by
    unfold fstE
    split
    · rcases h p (by simp) with h | h
      · exact absurd h ‹_›
      · exact .inr h
    · exact fstE_one (fun q hq => h q (by simp [hq]))
end Go.Proofs.Ytoachnhdedpbdaa
