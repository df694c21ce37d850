/- Pools: the plain law. -/
import Derived.Test.YtboaidjhhlidkaaAl17
import Derived.Test.YtboaidjhhlidkaaAl22
import Derived.Test.YtboaidjhhlidkaaAl18
import Derived.Test.YtboaidjhhlidkaaOpPool
set_option linter.unusedSimpArgs false
set_option linter.unusedVariables false
namespace Go.Proofs.Ytboaidjhhlidkaa
open Go.RowKit
theorem fineB_iff (h : Int) : ∀ (l : List Int) (a : Int), fineB h a l = true ↔ (l.Pairwise (· < ·) ∧ ∀ x ∈ l, a < x ∧ x < h)
  | [], a => by simp [fineB]
  | n :: l, a => by
    have ih := fineB_iff h l n
    constructor
    · intro e
      simp only [fineB, Bool.and_eq_true, decide_eq_true_eq] at e
      obtain ⟨h1, h2, h3⟩ := e
      obtain ⟨p, q⟩ := ih.1 h3
      refine ⟨List.pairwise_cons.2 ⟨fun x hx => (q x hx).1, p⟩, fun x hx => ?_⟩
      rcases List.mem_cons.1 hx with rfl | hx
      · exact ⟨h1, h2⟩
      · exact ⟨by have := (q x hx).1; omega, (q x hx).2⟩
    · rintro ⟨p, q⟩
      obtain ⟨p1, p2⟩ := List.pairwise_cons.1 p
      have h0 := q n (List.mem_cons_self ..)
      simp only [fineB, Bool.and_eq_true, decide_eq_true_eq]
      exact ⟨h0.1, h0.2, ih.2 ⟨p2, fun x hx => ⟨p1 x hx, (q x (List.mem_cons_of_mem _ hx)).2⟩⟩⟩
theorem bothB_iff (F L : List Int) : bothB F L = false ↔ ∀ x ∈ F, x ∉ L := by
  unfold bothB
  rw [List.any_eq_false]
  simp
/-- A pool that may be. -/
structure Ok (h most : Int) (F L : List Int) : Prop where
  two : 2 ≤ h
  top : h ≤ most
  fs : F.Pairwise (· < ·)
  fr : ∀ x ∈ F, 1 < x ∧ x < h
  ls : L.Pairwise (· < ·)
  lr : ∀ x ∈ L, 1 < x ∧ x < h
  no : ∀ x ∈ F, x ∉ L
theorem ok_iff {h most : Int} {F L : List Int} : okP h most F L = true ↔ Ok h most F L := by
  unfold okP
  simp only [Bool.and_eq_true, decide_eq_true_eq, fineB_iff, Bool.not_eq_true', bothB_iff]
  constructor
  · rintro ⟨h1, h2, ⟨h3, h4⟩, ⟨h5, h6⟩, h7⟩
    exact ⟨h1, h2, h3, h4, h5, h6, h7⟩
  · rintro ⟨h1, h2, h3, h4, h5, h6, h7⟩
    exact ⟨h1, h2, ⟨h3, h4⟩, ⟨h5, h6⟩, h7⟩
theorem laidP_lt {y p : Int} (l : List Int) (h : y < p) : laidP (y :: l) p = y :: laidP l p := by simp [laidP, atP, h]
theorem laidP_ge {y p : Int} (l : List Int) (h : ¬ y < p) : laidP (y :: l) p = p :: y :: l := by simp [laidP, atP, h]
theorem mem_laidP {x p : Int} : ∀ l : List Int, x ∈ laidP l p ↔ x = p ∨ x ∈ l
  | [] => by simp [laidP, atP]
  | y :: l => by
    by_cases h : y < p
    · rw [laidP_lt l h, List.mem_cons, mem_laidP l, List.mem_cons]
      constructor <;> rintro (h | h | h) <;> simp [h]
    · rw [laidP_ge l h, List.mem_cons]
theorem sorted_laidP {p : Int} : ∀ l : List Int, l.Pairwise (· < ·) → p ∉ l → (laidP l p).Pairwise (· < ·)
  | [], _, _ => by simp [laidP, atP]
  | y :: l, hs, hp => by
    obtain ⟨h1, h2⟩ := List.pairwise_cons.1 hs
    by_cases h : y < p
    · rw [laidP_lt l h]
      refine List.pairwise_cons.2 ⟨fun z hz => ?_, sorted_laidP l h2 (fun e => hp (List.mem_cons_of_mem _ e))⟩
      rcases (mem_laidP l).1 hz with rfl | hz
      · exact h
      · exact h1 z hz
    · rw [laidP_ge l h]
      have hne : p ≠ y := fun e => hp (by rw [e]; exact List.mem_cons_self ..)
      refine List.pairwise_cons.2 ⟨fun z hz => ?_, hs⟩
      rcases List.mem_cons.1 hz with rfl | hz
      · omega
      · have := h1 z hz; omega
theorem mem_turnP {x : Int} : ∀ (L F : List Int), x ∈ turnP F L ↔ x ∈ F ∨ x ∈ L
  | [], F => by simp [turnP]
  | p :: L, F => by
    have : turnP F (p :: L) = turnP (laidP F p) L := rfl
    rw [this, mem_turnP L, mem_laidP, List.mem_cons]
    constructor
    · rintro ((h | h) | h) <;> simp [h]
    · rintro (h | h | h) <;> simp [h]
theorem sorted_turnP : ∀ (L F : List Int), F.Pairwise (· < ·) → L.Pairwise (· < ·) → (∀ x ∈ F, x ∉ L) → (turnP F L).Pairwise (· < ·)
  | [], F, hF, _, _ => hF
  | p :: L, F, hF, hL, hn => by
    obtain ⟨h1, h2⟩ := List.pairwise_cons.1 hL
    refine sorted_turnP L (laidP F p) (sorted_laidP F hF (fun e => hn p e (List.mem_cons_self ..))) h2 (fun x hx hx' => ?_)
    rcases (mem_laidP F).1 hx with rfl | hx
    · have := h1 x hx'; omega
    · exact hn x hx (List.mem_cons_of_mem _ hx')
theorem may_iff {h : Int} {F L : List Int} {x : Int} : mayP h F L x = true ↔ 2 ≤ x ∧ x < h ∧ x ∉ F ∧ x ∉ L := by
  unfold mayP
  simp only [Bool.and_eq_true, decide_eq_true_eq, Bool.not_eq_true', Bool.or_eq_false_iff, decide_eq_false_iff_not]
theorem Ok.give {h most : Int} {F L : List Int} {x : Int} (k : Ok h most F L) (m : mayP h F L x = true) : Ok h most F (laidP L x) := by
  obtain ⟨m1, m2, m3, m4⟩ := may_iff.1 m
  refine ⟨k.two, k.top, k.fs, k.fr, sorted_laidP L k.ls m4, fun y hy => ?_, fun y hy hy' => ?_⟩
  · rcases (mem_laidP L).1 hy with rfl | hy
    · omega
    · exact k.lr y hy
  · rcases (mem_laidP L).1 hy' with rfl | hy'
    · exact m3 hy
    · exact k.no y hy hy'
theorem Ok.back {h most : Int} {F L : List Int} {x : Int} (k : Ok h most F L) (m : mayP h F L x = true) : Ok h most (laidP F x) L := by
  obtain ⟨m1, m2, m3, m4⟩ := may_iff.1 m
  refine ⟨k.two, k.top, sorted_laidP F k.fs m3, fun y hy => ?_, k.ls, k.lr, fun y hy hy' => ?_⟩
  · rcases (mem_laidP F).1 hy with rfl | hy
    · omega
    · exact k.fr y hy
  · rcases (mem_laidP F).1 hy with rfl | hy
    · exact m4 hy'
    · exact k.no y hy hy'
theorem Ok.turn {h most : Int} {F L : List Int} (k : Ok h most F L) : Ok h most (turnP F L) [] :=
  ⟨k.two, k.top, sorted_turnP L F k.fs k.ls k.no, fun y hy => ((mem_turnP L F).1 hy).elim (k.fr y) (k.lr y), List.Pairwise.nil, fun y hy => by simp at hy, fun y hy => by simp⟩
theorem Ok.tail {h most x : Int} {F L : List Int} (k : Ok h most (x :: F) L) : Ok h most F L :=
  ⟨k.two, k.top, (List.pairwise_cons.1 k.fs).2, fun y hy => k.fr y (List.mem_cons_of_mem _ hy), k.ls, k.lr, fun y hy => k.no y (List.mem_cons_of_mem _ hy)⟩
theorem Ok.more {h most : Int} {L : List Int} (k : Ok h most [] L) (hm : h < most) : Ok (h + 1) most [] L :=
  ⟨by have := k.two; omega, by omega, List.Pairwise.nil, fun y hy => by simp at hy, k.ls, fun y hy => by have := k.lr y hy; omega, fun y hy => by simp at hy⟩
/-- What Take answers, case by case. -/
theorem take_full {h most : Int} (hm : most ≤ h) : takeN h most [] = 0 ∧ takeE h most [] = 60 ∧ takeH h most [] = 0 := ⟨if_pos hm, if_pos hm, if_pos hm⟩
theorem take_new {h most : Int} (h0 : 0 ≤ h) (hm : h < most) (hw : most ≤ 9223372036854775807) : takeN h most [] = h ∧ takeE h most [] = 0 ∧ takeH h most [] = h + 1 := by
  have hn : ¬ most ≤ h := by omega
  have e1 : wrap64 (h + 1) = h + 1 := IntWalk.wrap64_in _ (by omega)
  have e2 : wrap64 (h + 1 - 1) = h := by rw [show h + 1 - 1 = h by omega]; exact IntWalk.wrap64_in _ (by omega)
  refine ⟨?_, if_neg hn, ?_⟩
  · rw [show takeN h most [] = wrap64 (wrap64 (h + 1) - 1) from if_neg hn, e1, e2]
  · rw [show takeH h most [] = wrap64 (h + 1) from if_neg hn, e1]
theorem takeL_new {h most : Int} (L : List Int) (hm : h < most) : takeL h most [] L = L := if_neg (show ¬ most ≤ h by omega)
theorem few_le {n m : Nat} (e : fewB n m = true) : n ≤ 600 ∧ m ≤ 600 := by
  unfold fewB at e
  simpa using e
theorem i64_both {x : Int} (h : intWf x) : IntKind.i64.min ≤ x ∧ x ≤ IntKind.i64.max := by
  unfold intWf at h
  simpa [Lit.wf] using h
theorem i64_le {x : Int} (h : intWf x) : x ≤ 9223372036854775807 := (i64_both h).2
theorem i64_ge {x : Int} (h : intWf x) : -9223372036854775808 ≤ x := (i64_both h).1
end Go.Proofs.Ytboaidjhhlidkaa
