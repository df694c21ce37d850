/- The stable sort as a list; its blocks. -/
import Derived.Test.YtoachnhdedpbdaaSo7
set_option linter.unusedSimpArgs false
set_option linter.unusedVariables false
set_option linter.unusedSectionVars false
namespace Go.Proofs.Ytoachnhdedpbdaa
open Go.RowKit Go.Lib Go.Sort Go.Shelf
variable {α : Type} [Inhabited α]
/-- x behind all that it is not less than. -/
def ins (lt : α → α → Bool) : List α → α → List α
  | [], x => [x]
  | e :: r, x => if lt x e then x :: e :: r else e :: ins lt r x
def st (lt : α → α → Bool) (l : List α) : List α := l.foldl (ins lt) []
theorem ins_yes {lt : α → α → Bool} {e x : α} (r : List α) (h : lt x e = true) : ins lt (e :: r) x = x :: e :: r := by
  unfold ins
  rw [if_pos h]
theorem ins_no {lt : α → α → Bool} {e x : α} (r : List α) (h : lt x e = false) : ins lt (e :: r) x = e :: ins lt r x := by
  conv => lhs; unfold ins
  rw [if_neg (by rw [h]; decide)]
theorem ins_len (lt : α → α → Bool) (x : α) : ∀ l : List α, (ins lt l x).length = l.length + 1
  | [] => rfl
  | e :: r => by
    cases h : lt x e with
    | true => rw [ins_yes _ h]; rfl
    | false => rw [ins_no _ h, List.length_cons, ins_len lt x r]; rfl
theorem foldl_ins_len (lt : α → α → Bool) : ∀ (l t : List α), (l.foldl (ins lt) t).length = t.length + l.length
  | [], t => rfl
  | x :: l, t => by
    rw [List.foldl_cons, foldl_ins_len lt l, ins_len, List.length_cons]
    omega
theorem st_len (lt : α → α → Bool) (l : List α) : (st lt l).length = l.length := by
  unfold st
  rw [foldl_ins_len]
  simp
theorem ins_mem {lt : α → α → Bool} {x y : α} : ∀ {l : List α}, y ∈ ins lt l x ↔ y = x ∨ y ∈ l
  | [] => by simp [ins]
  | e :: r => by
    cases h : lt x e with
    | true => rw [ins_yes _ h, List.mem_cons]
    | false =>
      rw [ins_no _ h, List.mem_cons, ins_mem, List.mem_cons]
      constructor
      · rintro (h | h | h) <;> simp [h]
      · rintro (h | h | h) <;> simp [h]
theorem ins_perm (lt : α → α → Bool) (x : α) : ∀ l : List α, (ins lt l x).Perm (x :: l)
  | [] => List.Perm.refl _
  | e :: r => by
    cases h : lt x e with
    | true => rw [ins_yes _ h]
    | false => rw [ins_no _ h]; exact ((ins_perm lt x r).cons e).trans (List.Perm.swap x e r)
theorem foldl_ins_perm (lt : α → α → Bool) : ∀ (l t : List α), (l.foldl (ins lt) t).Perm (t ++ l)
  | [], t => by simp
  | x :: l, t => by
    rw [List.foldl_cons]
    refine (foldl_ins_perm lt l _).trans (((ins_perm lt x t).append_right l).trans ?_)
    rw [List.cons_append]
    exact List.perm_middle.symm
theorem st_perm (lt : α → α → Bool) (l : List α) : (st lt l).Perm l := by
  have := foldl_ins_perm lt l []
  simpa [st] using this
theorem asc_ins {lt : α → α → Bool} (hO : SWO lt) {x : α} : ∀ {l : List α}, Asc lt l → Asc lt (ins lt l x)
  | [], _ => List.pairwise_singleton _ _
  | e :: r, h => by
    obtain ⟨h1, h2⟩ := List.pairwise_cons.1 h
    cases hx : lt x e with
    | true =>
      rw [ins_yes _ hx]
      have hex : lt e x = false := by
        cases hh : lt e x with
        | false => rfl
        | true => have := hO.trans _ _ _ hx hh; rw [hO.irrefl] at this; cases this
      refine List.pairwise_cons.2 ⟨fun y hy => ?_, h⟩
      rcases List.mem_cons.1 hy with rfl | hy
      · exact hex
      · exact hO.ntrans _ _ _ (h1 y hy) hex
    | false =>
      rw [ins_no _ hx]
      refine List.pairwise_cons.2 ⟨fun y hy => ?_, asc_ins hO h2⟩
      rcases ins_mem.1 hy with rfl | hy
      · exact hx
      · exact h1 y hy
theorem asc_foldl {lt : α → α → Bool} (hO : SWO lt) : ∀ (l : List α) {t : List α}, Asc lt t → Asc lt (l.foldl (ins lt) t)
  | [], _, h => h
  | x :: l, _, h => by rw [List.foldl_cons]; exact asc_foldl hO l (asc_ins hO h)
theorem asc_st {lt : α → α → Bool} (hO : SWO lt) (l : List α) : Asc lt (st lt l) := asc_foldl hO l List.Pairwise.nil
theorem mrg_ins {lt : α → α → Bool} (hO : SWO lt) (x : α) : ∀ (S T : List α), mrg lt S (ins lt T x) = ins lt (mrg lt S T) x
  | [], T => by rw [mrg_nil, mrg_nil]
  | s :: S, [] => by
    rw [mrg_right, ins]
    cases h : lt x s with
    | true => rw [mrg_yes _ _ h, ins_yes _ h, mrg_right]
    | false =>
      have ih := mrg_ins hO x S []
      rw [mrg_right, ins] at ih
      rw [mrg_no _ _ h, ins_no _ h, ih]
  | s :: S, t :: T => by
    cases hts : lt t s with
    | true =>
      rw [mrg_yes _ _ hts]
      cases hxt : lt x t with
      | true => rw [ins_yes _ hxt, ins_yes _ hxt, mrg_yes _ _ (hO.trans _ _ _ hxt hts), mrg_yes _ _ hts]
      | false =>
        have ih := mrg_ins hO x (s :: S) T
        rw [ins_no _ hxt, ins_no _ hxt, mrg_yes _ _ hts, ih]
    | false =>
      rw [mrg_no _ _ hts]
      cases hxs : lt x s with
      | true =>
        have hxt : lt x t = true := swo_ge hO hxs hts
        rw [ins_yes _ hxt, ins_yes _ hxs, mrg_yes _ _ hxs, mrg_no _ _ hts]
      | false =>
        have ih := mrg_ins hO x S (t :: T)
        rw [ins_no _ hxs, ← ih]
        cases hxt : lt x t with
        | true => rw [ins_yes _ hxt, mrg_no _ _ hxs]
        | false => rw [ins_no _ hxt, mrg_no _ _ hts]
termination_by S T => S.length + T.length
theorem mrg_foldl {lt : α → α → Bool} (hO : SWO lt) (S : List α) : ∀ (B T : List α), mrg lt S (B.foldl (ins lt) T) = B.foldl (ins lt) (mrg lt S T)
  | [], T => rfl
  | x :: B, T => by rw [List.foldl_cons, List.foldl_cons, mrg_foldl hO S B, mrg_ins hO]
theorem mrg_st {lt : α → α → Bool} (hO : SWO lt) (A B : List α) : mrg lt (st lt A) (st lt B) = st lt (A ++ B) := by
  unfold st
  rw [mrg_foldl hO, mrg_right, List.foldl_append]
theorem ins_mrg {lt : α → α → Bool} (hO : SWO lt) (T : List α) (x : α) : ins lt T x = mrg lt T [x] := by
  have := mrg_ins hO x T []
  rw [mrg_right, ins] at this
  exact this.symm
/-- The blocks of bs, each in order. -/
def blk (lt : α → α → Bool) (bs : Nat) : Nat → List α → List α
  | 0, l => st lt l
  | n + 1, l => if l.length ≤ bs then st lt l else st lt (l.take bs) ++ blk lt bs n (l.drop bs)
theorem st_nil (lt : α → α → Bool) : st lt ([] : List α) = [] := rfl
/-- As many rounds as one likes. -/
theorem blk_more (lt : α → α → Bool) {bs : Nat} (hb : 0 < bs) : ∀ (n m : Nat) (l : List α), l.length ≤ n → l.length ≤ m → blk lt bs n l = blk lt bs m l
  | 0, 0, _, _, _ => rfl
  | 0, m + 1, l, h, _ => by
    rw [blk, blk, if_pos (by omega)]
  | n + 1, 0, l, _, h => by
    rw [blk, blk, if_pos (by omega)]
  | n + 1, m + 1, l, h1, h2 => by
    rw [blk, blk]
    split
    · rfl
    · rw [blk_more lt hb n m (l.drop bs) (by rw [List.length_drop]; omega) (by rw [List.length_drop]; omega)]
def blks (lt : α → α → Bool) (bs : Nat) (l : List α) : List α := blk lt bs l.length l
theorem blks_short (lt : α → α → Bool) {bs : Nat} {l : List α} (h : l.length ≤ bs) : blks lt bs l = st lt l := by
  unfold blks
  cases hl : l.length with
  | zero => rfl
  | succ n => rw [blk, if_pos h]
theorem blks_cut (lt : α → α → Bool) {bs : Nat} (hb : 0 < bs) {l : List α} (h : bs ≤ l.length) : blks lt bs l = st lt (l.take bs) ++ blks lt bs (l.drop bs) := by
  rcases Nat.eq_or_lt_of_le h with h | h
  · rw [blks_short lt (by omega), List.take_of_length_le (by omega), List.drop_of_length_le (by omega)]
    show _ = _ ++ st lt []
    rw [st_nil, List.append_nil]
  · unfold blks
    obtain ⟨n, hn⟩ : ∃ n, l.length = n + 1 := ⟨l.length - 1, by omega⟩
    rw [hn, blk, if_neg (by omega)]
    rw [blk_more lt hb n (l.drop bs).length _ (by rw [List.length_drop]; omega) (Nat.le_refl _)]
theorem blks_two {lt : α → α → Bool} (hO : SWO lt) {bs : Nat} (hb : 0 < bs) {l : List α} (h : 2 * bs ≤ l.length) :
    blks lt bs l = st lt (l.take bs) ++ (st lt ((l.drop bs).take bs) ++ blks lt bs (l.drop (2 * bs))) ∧
    blks lt (2 * bs) l = mrg lt (st lt (l.take bs)) (st lt ((l.drop bs).take bs)) ++ blks lt (2 * bs) (l.drop (2 * bs)) := by
  constructor
  · rw [blks_cut lt hb (by omega), blks_cut lt hb (l := l.drop bs) (by rw [List.length_drop]; omega), List.drop_drop]
    congr 3
    congr 1
    omega
  · rw [blks_cut lt (by omega) h, mrg_st hO]
    congr 2
    rw [show 2 * bs = bs + bs by omega, List.take_add]
theorem blks_last {lt : α → α → Bool} (hO : SWO lt) {bs : Nat} (hb : 0 < bs) {l : List α} (h1 : bs < l.length) (h : l.length < 2 * bs) :
    blks lt bs l = st lt (l.take bs) ++ st lt (l.drop bs) ∧ blks lt (2 * bs) l = mrg lt (st lt (l.take bs)) (st lt (l.drop bs)) := by
  constructor
  · rw [blks_cut lt hb (by omega), blks_short lt (l := l.drop bs) (by rw [List.length_drop]; omega)]
  · rw [blks_short lt (by omega), mrg_st hO, List.take_append_drop]
theorem blks_len (lt : α → α → Bool) {bs : Nat} (hb : 0 < bs) : ∀ (n : Nat) (l : List α), l.length ≤ n → (blks lt bs l).length = l.length
  | 0, l, h => by rw [blks_short lt (by omega), st_len]
  | n + 1, l, h => by
    rcases Nat.lt_or_ge bs l.length with h1 | h1
    · rw [blks_cut lt hb (by omega), List.length_append, st_len, blks_len lt hb n _ (by rw [List.length_drop]; omega), List.length_take, List.length_drop]
      omega
    · rw [blks_short lt h1, st_len]
/-! ### Go's insertion sort -/
theorem insInner_list {lt : α → α → Bool} (hO : SWO lt) (Pf : List α) (x : α) (T R : List α) (hT : Asc lt T) : ∀ (v : Nat) (d : Array α), UpI Pf x T R v d → v ≤ T.length → (v = T.length ∨ lt x T[v]! = true) → (insInner lt Pf.length (Pf.length + v) d).toList = Pf ++ (ins lt T x ++ R) ∧ (insInner lt Pf.length (Pf.length + v) d).size = d.size
  | v, d, hU, hv, hb => by
    have hs : d.size = Pf.length + (T.length + (1 + R.length)) := by
      rw [← Array.length_toList, show d.toList = _ from hU]
      simp only [List.length_append, List.length_cons, List.length_take, List.length_drop]
      omega
    have hat : d[Pf.length + v]! = x := by
      have h' : d.toList = (Pf ++ T.take v) ++ ([x] ++ (T.drop v ++ R)) := by rw [show d.toList = _ from hU]; simp
      exact atX h' 0 (by simp) _ (by rw [List.length_append, List.length_take]; omega)
    have stop : (v = 0 ∨ lt x T[v - 1]! = false) → d.toList = Pf ++ (ins lt T x ++ R) := by
      intro ha
      rw [ins_mrg hO, mrg_last hO hT v hv ha hb]
      rw [show d.toList = _ from hU]
      simp
    rcases Nat.eq_zero_or_pos v with h0 | h0
    · subst h0
      cases hp : Pf.length with
      | zero => rw [Nat.add_zero, insInner]; exact ⟨stop (.inl rfl), rfl⟩
      | succ q =>
        rw [Nat.add_zero, insInner, if_neg (by simp)]
        exact ⟨stop (.inl rfl), rfl⟩
    · obtain ⟨u, rfl⟩ : ∃ u, v = u + 1 := ⟨v - 1, by omega⟩
      have hprev : d[Pf.length + u]! = T[u]! := by
        have h' : d.toList = Pf ++ (T.take (u + 1) ++ ((x :: (T.drop (u + 1) ++ R)) ++ [])) := by rw [show d.toList = _ from hU]; simp
        rw [atX h' u (by rw [List.length_take]; omega) _ rfl, take_at T (u + 1) u (by rw [List.length_take]; omega)]
      rw [← Nat.add_assoc, insInner]
      rw [Nat.add_assoc, hat, hprev]
      cases hx : lt x T[u]! with
      | true =>
        rw [if_pos (by simp)]
        have hU' := UpI.prev hU (by omega) (Pf.length + u) (Pf.length + (u + 1)) rfl rfl
        have ih := insInner_list hO Pf x T R hT u (swp d (Pf.length + (u + 1)) (Pf.length + u)) hU' (by omega) (.inr hx)
        exact ⟨ih.1, by rw [ih.2, size_swp]⟩
      | false =>
        rw [if_neg (by simp)]
        exact ⟨stop (.inr (by rw [Nat.add_sub_cancel]; exact hx)), rfl⟩
theorem insOuter_list {lt : α → α → Bool} (hO : SWO lt) (Pf : List α) : ∀ (M T R : List α) (d : Array α), Asc lt T → d.toList = Pf ++ (T ++ (M ++ R)) → 0 < T.length → (insOuter lt Pf.length (Pf.length + T.length + M.length) (Pf.length + T.length) d).toList = Pf ++ (M.foldl (ins lt) T ++ R) ∧ (insOuter lt Pf.length (Pf.length + T.length + M.length) (Pf.length + T.length) d).size = d.size
  | [], T, R, d, hT, hd, h0 => by
    rw [insOuter, if_neg (by simp)]
    exact ⟨hd, rfl⟩
  | x :: M, T, R, d, hT, hd, h0 => by
    have hU : UpI Pf x T (M ++ R) T.length d := by
      unfold UpI
      rw [List.take_length, List.drop_length, hd]
      simp
    obtain ⟨h1, h2⟩ := insInner_list hO Pf x T (M ++ R) hT T.length d hU (Nat.le_refl _) (.inl rfl)
    have ih := insOuter_list hO Pf M (ins lt T x) R _ (asc_ins hO hT) h1 (by rw [ins_len]; omega)
    rw [ins_len] at ih
    rw [insOuter, if_pos (by simp), List.foldl_cons]
    rw [show Pf.length + T.length + (x :: M).length = Pf.length + (T.length + 1) + M.length by simp; omega, show Pf.length + T.length + 1 = Pf.length + (T.length + 1) by omega]
    exact ⟨ih.1, by rw [ih.2, h2]⟩
theorem insertion_list {lt : α → α → Bool} (hO : SWO lt) (Pf M R : List α) (d : Array α) (hd : d.toList = Pf ++ (M ++ R)) (a b : Nat) (ha : a = Pf.length) (hb : b = a + M.length) : (insertionSort lt d a b).toList = Pf ++ (st lt M ++ R) ∧ (insertionSort lt d a b).size = d.size := by
  subst ha hb
  unfold insertionSort
  cases M with
  | nil =>
    rw [insOuter, if_neg (by simp)]
    exact ⟨by rw [hd]; rfl, rfl⟩
  | cons x M =>
    have := insOuter_list hO Pf M [x] R d (List.pairwise_singleton _ _) (by rw [hd]; rfl) (by simp)
    rw [show Pf.length + (x :: M).length = Pf.length + [x].length + M.length by simp; omega, show Pf.length + 1 = Pf.length + [x].length from rfl]
    exact this
end Go.Proofs.Ytoachnhdedpbdaa
