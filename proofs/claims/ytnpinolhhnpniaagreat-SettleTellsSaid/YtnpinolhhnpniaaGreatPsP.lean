/- Sums over places: plain. -/
import Derived.Test.YtnpinolhhnpniaaGreatDueP
import Derived.Test.YtnpinolhhnpniaaGreatSumP
set_option linter.unusedSimpArgs false
set_option linter.unusedVariables false
namespace Go.Proofs.YtnpinolhhnpniaaGreat
theorem sumOk_congr {a b : List Int} (h : a.sum = b.sum) : sumOk a = sumOk b := by
  unfold sumOk
  rw [h]
theorem sumV_congr {a b : List Int} (h : a.sum = b.sum) : sumV a = sumV b ∧ sumE a = sumE b := by
  unfold sumV sumE
  rw [sumOk_congr h, h]
  exact ⟨rfl, rfl⟩
theorem amts_append (a b : List Due) (p : Plc) : amts (a ++ b) p = amts a p ++ amts b p := by
  unfold amts
  rw [List.filter_append, List.map_append]
theorem amts_cons (d : Due) (b : List Due) (p : Plc) : amts (d :: b) p = (if d.plc = p then [d.amount] else []) ++ amts b p := by
  unfold amts
  by_cases e : d.plc = p <;> simp [List.filter_cons, e]
theorem amts_no {l : List Due} {p : Plc} (h : p ∉ l.map Due.plc) : amts l p = [] := by
  unfold amts
  rw [List.filter_eq_nil_iff.2 (fun d hd e => h (List.mem_map.2 ⟨d, hd, by simpa using e⟩))]
  rfl
def turnL (legs : List Due) (k : Nat) : List Due := legs.drop k ++ legs.take k
def partsL (x : Due) (n : Int) (t : List Due) : List Due := ⟨x.who, x.asset, x.amount - n⟩ :: ⟨x.who, x.asset, n⟩ :: t
theorem turn_len (legs : List Due) (k : Nat) : (turnL legs k).length = legs.length := by unfold turnL; simp; omega
theorem turn_mem (legs : List Due) (k : Nat) (p : Plc) : p ∈ legs.map Due.plc ↔ p ∈ (turnL legs k).map Due.plc := by
  unfold turnL
  rw [List.map_append, List.mem_append, or_comm, ← List.mem_append, ← List.map_append, List.take_append_drop]
theorem turn_sum (legs : List Due) (k : Nat) (p : Plc) : (amts legs p).sum = (amts (turnL legs k) p).sum := by
  unfold turnL
  rw [amts_append, List.sum_append, Int.add_comm, ← List.sum_append, ← amts_append, List.take_append_drop]
theorem parts_sum (x : Due) (n : Int) (t : List Due) (p : Plc) : (amts (x :: t) p).sum = (amts (partsL x n t) p).sum := by
  unfold partsL
  rw [amts_cons, amts_cons, amts_cons]
  show ((if x.plc = p then [x.amount] else []) ++ amts t p).sum = ((if x.plc = p then [x.amount - n] else []) ++ ((if x.plc = p then [n] else []) ++ amts t p)).sum
  split
  · simp
    omega
  · simp
theorem turn_cons {legs : List Due} {k : Nat} {x : Due} (hx : legs[k]? = some x) : turnL legs k = x :: (turnL legs k).tail := by
  have hk := (List.getElem?_eq_some_iff.1 hx).1
  have h : legs.drop k = x :: legs.drop (k + 1) := by
    rw [List.drop_eq_getElem_cons hk]
    rw [(List.getElem?_eq_some_iff.1 hx).2]
  unfold turnL
  rw [h]
  rfl
/-! ### sums over places, each once -/
def sumAt (legs : List Due) (s : ByteArray) (ps : List Plc) : Int := (ps.map (fun p => if p.asset = s then (amts legs p).sum else 0)).sum
theorem sum_zero {α : Type} (ps : List α) (f : α → Int) (h : ∀ p ∈ ps, f p = 0) : (ps.map f).sum = 0 := by
  induction ps with
  | nil => rfl
  | cons p ps ih => rw [List.map_cons, List.sum_cons, h p (by simp), ih (fun q hq => h q (by simp [hq]))]; rfl
theorem sum_add {α : Type} (ps : List α) (f g : α → Int) : (ps.map (fun p => f p + g p)).sum = (ps.map f).sum + (ps.map g).sum := by
  induction ps with
  | nil => rfl
  | cons p ps ih => simp only [List.map_cons, List.sum_cons]; rw [ih]; omega
theorem sum_pick {ps : List Plc} (hu : Up ps) {q : Plc} (hq : q ∈ ps) (x : Int) : (ps.map (fun p => if q = p then x else 0)).sum = x := by
  induction ps with
  | nil => cases hq
  | cons p ps ih =>
    obtain ⟨u1, u2⟩ := List.pairwise_cons.1 hu
    rw [List.map_cons, List.sum_cons]
    by_cases e : q = p
    · rw [if_pos e, sum_zero ps _ (fun r hr => if_neg (fun e' => ltP_ne (u1 r hr) (by rw [← e, ← e'])))]
      omega
    · rw [if_neg e, ih u2 (by rcases List.mem_cons.1 hq with h | h; exact absurd h e; exact h)]
      omega
def assL (legs : List Due) (s : ByteArray) : List Int := (legs.filter (fun d => decide (d.asset = s))).map Due.amount
theorem sumAt_legs (s : ByteArray) {ps : List Plc} (hu : Up ps) : ∀ (legs : List Due), (∀ d ∈ legs, d.plc ∈ ps) → sumAt legs s ps = (assL legs s).sum
  | [], _ => by
    unfold sumAt assL
    exact sum_zero ps _ (fun p _ => by simp [amts])
  | d :: legs, h => by
    have ih := sumAt_legs s hu legs (fun x hx => h x (by simp [hx]))
    have e : sumAt (d :: legs) s ps = (ps.map (fun p => if d.plc = p then (if d.asset = s then d.amount else 0) else 0)).sum + sumAt legs s ps := by
      unfold sumAt
      rw [← sum_add]
      congr 1
      refine List.map_congr_left (fun p _ => ?_)
      rw [amts_cons]
      by_cases e1 : d.plc = p
      · have e2 : p.asset = d.asset := by rw [← e1]; rfl
        rw [if_pos e1, if_pos e1, e2]
        split <;> simp
      · rw [if_neg e1, if_neg e1]
        simp
    rw [e, ih, sum_pick hu (h d (by simp))]
    unfold assL
    by_cases e1 : d.asset = s <;> simp [List.filter_cons, e1]
theorem assL_step {l : List Due} {k : Nat} {o : Due} (h : l[k]? = some o) (s : ByteArray) : assL (l.take (k + 1)) s = assL (l.take k) s ++ (if o.asset = s then [o.amount] else []) := by
  unfold assL
  rw [List.take_add_one, h]
  simp only [Option.toList_some, List.filter_append, List.map_append]
  by_cases e : o.asset = s <;> simp [e]
theorem assL_len (l : List Due) (s : ByteArray) : (assL l s).length ≤ l.length := by
  unfold assL
  rw [List.length_map]
  exact List.length_filter_le _ _
theorem amts_step {l : List Due} {k : Nat} {o : Due} (h : l[k]? = some o) (p : Plc) : amts (l.take (k + 1)) p = amts (l.take k) p ++ (if o.plc = p then [o.amount] else []) := by
  unfold amts
  rw [List.take_add_one, h]
  simp only [Option.toList_some, List.filter_append, List.map_append]
  by_cases e : o.plc = p <;> simp [e]
end Go.Proofs.YtnpinolhhnpniaaGreat
