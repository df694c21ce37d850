/- Accounts: the plain law. -/
import Derived.Test.YtnpinolhhnpniaaGreatPlc
set_option linter.unusedSimpArgs false
set_option linter.unusedVariables false
namespace Go.Proofs.YtnpinolhhnpniaaGreat
structure Acc where
  who : ByteArray
  asset : ByteArray
  balance : Int
  held : Int
deriving DecidableEq
def Acc.plc (a : Acc) : Plc := ⟨a.who, a.asset⟩
def accZ (p : Plc) : Acc := ⟨p.who, p.asset, 0, 0⟩
theorem accZ_plc (p : Plc) : (accZ p).plc = p := rfl
/-- Places rise. -/
def Srt (l : List Acc) : Prop := l.Pairwise (fun a b => ltP a.plc b.plc = true)
/-- How many stand ahead of a place; whether one stands there. -/
def cntA (l : List Acc) (p : Plc) : Nat := (l.takeWhile (fun a => ltP a.plc p)).length
def isA (l : List Acc) (p : Plc) : Bool := l.any (fun a => decide (a.plc = p))
def findA (l : List Acc) (p : Plc) : Acc := (l.find? (fun a => decide (a.plc = p))).getD (accZ p)
def toA (l : List Acc) (p : Plc) : Nat := cntA l p + (isA l p).toNat
def withA (l : List Acc) (a : Acc) : List Acc :=
  if a.balance = 0 then l.take (cntA l a.plc) ++ l.drop (toA l a.plc) else l.take (cntA l a.plc) ++ (a :: l.drop (toA l a.plc))
/-- A list whose places rise, cut at a place. -/
structure Cut (l : List Acc) (p : Plc) (L : List Acc) (M : Option Acc) (R : List Acc) : Prop where
  eq : l = L ++ (M.toList ++ R)
  lo : ∀ x ∈ L, ltP x.plc p = true
  at_ : ∀ x, M = some x → x.plc = p
  hi : ∀ x ∈ R, ltP p x.plc = true
theorem srt_cut : ∀ {l : List Acc}, Srt l → ∀ p, ∃ L M R, Cut l p L M R
  | [], _, p => ⟨[], none, [], rfl, by simp, by simp, by simp⟩
  | x :: l, h, p => by
    obtain ⟨h1, h2⟩ := List.pairwise_cons.1 h
    by_cases hx : ltP x.plc p = true
    · obtain ⟨L, M, R, hC⟩ := srt_cut h2 p
      refine ⟨x :: L, M, R, by rw [hC.eq]; rfl, fun y hy => ?_, hC.at_, hC.hi⟩
      rcases List.mem_cons.1 hy with rfl | hy
      · exact hx
      · exact hC.lo y hy
    · by_cases e : x.plc = p
      · subst e
        exact ⟨[], some x, l, rfl, by simp, fun y hy => by cases hy; rfl, fun y hy => h1 y hy⟩
      · have hp : ltP p x.plc = true := by
          rcases ltP_tot e with k | k
          · exact absurd k hx
          · exact k
        refine ⟨[], none, x :: l, rfl, by simp, by simp, fun y hy => ?_⟩
        rcases List.mem_cons.1 hy with rfl | hy
        · exact hp
        · exact ltP_trans hp (h1 y hy)
variable {l : List Acc} {p : Plc} {L : List Acc} {M : Option Acc} {R : List Acc}
theorem Cut.cnt (h : Cut l p L M R) : cntA l p = L.length := by
  unfold cntA
  have hr : (M.toList ++ R).takeWhile (fun a => ltP a.plc p) = [] := by
    cases M with
    | some x =>
      have := h.at_ x rfl
      simp [List.takeWhile_cons, this, ltP_irr]
    | none =>
      cases R with
      | nil => rfl
      | cons y R =>
        have := ltP_asym (h.hi y (by simp))
        simp [List.takeWhile_cons, this]
  rw [h.eq, List.takeWhile_append_of_pos h.lo, hr, List.append_nil]
theorem Cut.loNe (h : Cut l p L M R) : ∀ x ∈ L, x.plc ≠ p := fun x hx => ltP_ne (h.lo x hx)
theorem Cut.hiNe (h : Cut l p L M R) : ∀ x ∈ R, x.plc ≠ p := fun x hx e => ltP_ne (h.hi x hx) e.symm
theorem Cut.is (h : Cut l p L M R) : isA l p = M.isSome := by
  unfold isA
  rw [h.eq, List.any_append, List.any_append]
  have h1 : L.any (fun a => decide (a.plc = p)) = false := by
    rw [List.any_eq_false]
    exact fun x hx => by simpa using h.loNe x hx
  have h2 : R.any (fun a => decide (a.plc = p)) = false := by
    rw [List.any_eq_false]
    exact fun x hx => by simpa using h.hiNe x hx
  rw [h1, h2]
  cases M with
  | none => rfl
  | some x => simp [h.at_ x rfl]
theorem Cut.find (h : Cut l p L M R) : findA l p = M.getD (accZ p) := by
  unfold findA
  rw [h.eq, List.find?_append, List.find?_append]
  have h1 : L.find? (fun a => decide (a.plc = p)) = none := by
    rw [List.find?_eq_none]
    exact fun x hx => by simpa using h.loNe x hx
  have h2 : R.find? (fun a => decide (a.plc = p)) = none := by
    rw [List.find?_eq_none]
    exact fun x hx => by simpa using h.hiNe x hx
  rw [h1, h2]
  cases M with
  | none => rfl
  | some x => simp [h.at_ x rfl]
theorem Cut.to (h : Cut l p L M R) : toA l p = (L ++ M.toList).length := by
  unfold toA
  rw [h.cnt, h.is]
  cases M <;> simp
theorem Cut.take (h : Cut l p L M R) : l.take (cntA l p) = L := by
  rw [h.cnt, h.eq, List.take_left']
  rfl
theorem Cut.drop (h : Cut l p L M R) : l.drop (toA l p) = R := by
  rw [h.to, h.eq, ← List.append_assoc, List.drop_left']
  rfl
theorem Cut.with_ {a : Acc} (h : Cut l a.plc L M R) : withA l a = L ++ ((if a.balance = 0 then [] else [a]) ++ R) := by
  unfold withA
  rw [h.take, h.drop]
  split <;> simp
/-- An account's place holds itself, or none. -/
theorem findA_plc (l : List Acc) (p : Plc) : (findA l p).plc = p := by
  unfold findA
  cases h : l.find? (fun a => decide (a.plc = p)) with
  | none => rfl
  | some x => simpa using List.find?_some h
theorem findA_mem {l : List Acc} {x : Acc} (hs : Srt l) (hx : x ∈ l) : findA l x.plc = x := by
  obtain ⟨L, M, R, hC⟩ := srt_cut hs x.plc
  rw [hC.find]
  rw [hC.eq] at hx
  rcases List.mem_append.1 hx with h | h
  · exact absurd rfl (hC.loNe x h)
  · rcases List.mem_append.1 h with h | h
    · cases M with
      | none => cases h
      | some y =>
        simp at h
        rw [h]
        rfl
    · exact absurd rfl (hC.hiNe x h)
theorem Cut.srt (hs : Srt l) (h : Cut l p L M R) : Srt L ∧ Srt R := by
  unfold Srt at *
  rw [h.eq] at hs
  have h1 := List.pairwise_append.1 hs
  exact ⟨h1.1, (List.pairwise_append.1 h1.2.1).2.1⟩
theorem Cut.mk_ {p : Plc} {L R : List Acc} (M : Option Acc) (lo : ∀ x ∈ L, ltP x.plc p = true) (at_ : ∀ x, M = some x → x.plc = p) (hi : ∀ x ∈ R, ltP p x.plc = true) : Cut (L ++ (M.toList ++ R)) p L M R := ⟨rfl, lo, at_, hi⟩
theorem Cut.cutWith {a : Acc} (h : Cut l a.plc L M R) : Cut (withA l a) a.plc L (if a.balance = 0 then none else some a) R := by
  rw [h.with_]
  have := Cut.mk_ (if a.balance = 0 then none else some a) h.lo (fun x hx => by split at hx <;> cases hx; rfl) h.hi
  split at this <;> simpa [*] using this
theorem srt_with {l : List Acc} (hs : Srt l) (a : Acc) : Srt (withA l a) := by
  obtain ⟨L, M, R, hC⟩ := srt_cut hs a.plc
  rw [hC.with_]
  obtain ⟨h1, h2⟩ := hC.srt hs
  unfold Srt at *
  rw [List.pairwise_append]
  refine ⟨h1, ?_, fun x hx y hy => ?_⟩
  · rw [List.pairwise_append]
    refine ⟨by split <;> simp, h2, fun x hx y hy => ?_⟩
    split at hx
    · cases hx
    · simp at hx
      rw [hx]
      exact hC.hi y hy
  · rcases List.mem_append.1 hy with hy | hy
    · split at hy
      · cases hy
      · simp at hy
        rw [hy]
        exact hC.lo x hx
    · exact ltP_trans (hC.lo x hx) (hC.hi y hy)
theorem find_none {l : List Acc} {p : Plc} (h : ∀ x ∈ l, x.plc ≠ p) : l.find? (fun a => decide (a.plc = p)) = none := by
  rw [List.find?_eq_none]
  exact fun x hx => by simpa using h x hx
theorem find_with {l : List Acc} (hs : Srt l) (a : Acc) (q : Plc) : findA (withA l a) q = if q = a.plc then (if a.balance = 0 then accZ q else a) else findA l q := by
  obtain ⟨L, M, R, hC⟩ := srt_cut hs a.plc
  by_cases e : q = a.plc
  · subst e
    rw [if_pos rfl, hC.cutWith.find]
    split <;> rfl
  · rw [if_neg e, hC.with_]
    unfold findA
    rw [hC.eq, List.find?_append, List.find?_append, List.find?_append, List.find?_append]
    have h1 : (if a.balance = 0 then [] else [a]).find? (fun x => decide (x.plc = q)) = none := find_none (fun x hx => by
      split at hx
      · cases hx
      · simp at hx
        rw [hx]
        exact fun e' => e e'.symm)
    have h2 : M.toList.find? (fun x => decide (x.plc = q)) = none := find_none (fun x hx => by
      rw [hC.at_ x (by simpa using hx)]
      exact fun e' => e e'.symm)
    rw [h1, h2]
theorem mem_with {l : List Acc} (hs : Srt l) {a x : Acc} (h : x ∈ withA l a) : (x ∈ l ∧ x.plc ≠ a.plc) ∨ (x = a ∧ a.balance ≠ 0) := by
  obtain ⟨L, M, R, hC⟩ := srt_cut hs a.plc
  rw [hC.with_] at h
  rw [hC.eq]
  rcases List.mem_append.1 h with h | h
  · exact .inl ⟨by simp [h], hC.loNe x h⟩
  · rcases List.mem_append.1 h with h | h
    · split at h
      · cases h
      · rename_i hb
        simp at h
        exact .inr ⟨h, hb⟩
    · exact .inl ⟨by simp [h], hC.hiNe x h⟩
theorem with_len (l : List Acc) (a : Acc) : (withA l a).length ≤ l.length + 1 := by
  have h1 : (l.take (cntA l a.plc)).length + (l.drop (toA l a.plc)).length ≤ l.length := by
    have : cntA l a.plc ≤ toA l a.plc := Nat.le_add_right _ _
    simp only [List.length_take, List.length_drop]
    omega
  unfold withA
  split
  · rw [List.length_append]; omega
  · rw [List.length_append, List.length_cons]; omega
/-- No balance is 0. -/
def Nz (l : List Acc) : Prop := ∀ x ∈ l, x.balance ≠ 0
theorem nz_with {l : List Acc} (hs : Srt l) (hz : Nz l) (a : Acc) : Nz (withA l a) := fun x hx => by
  rcases mem_with hs hx with ⟨h, _⟩ | ⟨rfl, h⟩
  · exact hz x h
  · exact h
/-- Lists of rising places without a balance of 0 are told by what is found. -/
theorem acc_ext : ∀ {l m : List Acc}, Srt l → Srt m → Nz l → Nz m → (∀ p, findA l p = findA m p) → l = m
  | [], [], _, _, _, _, _ => rfl
  | [], y :: m, _, hm, _, nm, h => by
    have h1 := h y.plc
    rw [findA_mem hm (List.mem_cons_self ..)] at h1
    have := nm y (by simp)
    rw [← h1] at this
    exact absurd rfl this
  | x :: l, [], hl, _, nl, _, h => by
    have h1 := h x.plc
    rw [findA_mem hl (List.mem_cons_self ..)] at h1
    have := nl x (by simp)
    rw [h1] at this
    exact absurd rfl this
  | x :: l, y :: m, hl, hm, nl, nm, h => by
    obtain ⟨l1, l2⟩ := List.pairwise_cons.1 hl
    obtain ⟨m1, m2⟩ := List.pairwise_cons.1 hm
    have inM : x ∈ y :: m := by
      have h1 := h x.plc
      rw [findA_mem hl (List.mem_cons_self ..)] at h1
      have hx := nl x (by simp)
      unfold findA at h1
      cases hf : (y :: m).find? (fun a => decide (a.plc = x.plc)) with
      | none => rw [hf] at h1; rw [h1] at hx; exact absurd rfl hx
      | some z => rw [hf] at h1; rw [h1]; exact List.mem_of_find?_eq_some hf
    have inL : y ∈ x :: l := by
      have h1 := h y.plc
      rw [findA_mem hm (List.mem_cons_self ..)] at h1
      have hx := nm y (by simp)
      unfold findA at h1
      cases hf : (x :: l).find? (fun a => decide (a.plc = y.plc)) with
      | none => rw [hf] at h1; rw [← h1] at hx; exact absurd rfl hx
      | some z => rw [hf] at h1; rw [← h1]; exact List.mem_of_find?_eq_some hf
    have exy : x = y := by
      rcases List.mem_cons.1 inM with e | e
      · exact e
      · rcases List.mem_cons.1 inL with e' | e'
        · exact e'.symm
        · have a1 := m1 x e
          have a2 := l1 y e'
          have := ltP_trans a1 a2
          rw [ltP_irr] at this
          cases this
    subst exy
    have hl' : ∀ z ∈ l, z.plc ≠ x.plc := fun z hz e => ltP_ne (l1 z hz) e.symm
    have hm' : ∀ z ∈ m, z.plc ≠ x.plc := fun z hz e => ltP_ne (m1 z hz) e.symm
    rw [acc_ext l2 m2 (fun z hz => nl z (by simp [hz])) (fun z hz => nm z (by simp [hz])) (fun p => ?_)]
    by_cases e : x.plc = p
    · subst e
      unfold findA
      rw [find_none hl', find_none hm']
    · have := h p
      unfold findA at this ⊢
      simpa [List.find?_cons, e] using this
end Go.Proofs.YtnpinolhhnpniaaGreat
