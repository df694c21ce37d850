/- few, SameLists. -/
import Derived.Test.YtboaidjhhlidkaaAl4
set_option linter.unusedSimpArgs false
set_option linter.unusedVariables false
namespace Go.Proofs.Ytboaidjhhlidkaa
open Go.RowKit
/-- A row of the call's own lies between its base and the world's end. -/
theorem Own.rowAtB {α : Type} {T : Ty α} {w : World} {base : Nat} {v : Value} {xs : List α} (h : Own T w base v xs) : ∃ A c, v = .slice A xs.length c ∧ xs.length ≤ c ∧ Row T w A xs.length xs ∧ ∀ ad, A = some ad → base ≤ ad.block ∧ ad.block < w.heap.size := by
  obtain ⟨A, c, rfl, hc, hr⟩ := h.reads
  exact ⟨A, c, rfl, hc, hr, fun ad e => World.ownsRow.lt h ad.block (by rw [e]; rfl)⟩
theorem far3 {W : World} {g g' j : Nat} {u0 u1 u2 v : Value} (hne : g' ≠ g) (h : W.cell? ⟨g, j, none⟩ = some v) : (((W.setCell ⟨g', 0, none⟩ u0).setCell ⟨g', 1, none⟩ u1).setCell ⟨g', 2, none⟩ u2).cell? ⟨g, j, none⟩ = some v :=
  ((World.cell?_setCell_far _ _ _ _ hne).trans ((World.cell?_setCell_far _ _ _ _ hne).trans (World.cell?_setCell_far _ _ _ _ hne))).trans h
def fewB (n m : Nat) : Bool := decide (n ≤ 600) && decide (m ≤ 600)
set_option maxRecDepth 10000 in
set_option maxHeartbeats 2000000 in
theorem few_any (h : Int) (A B : Option Addr) (n c m d : Nat) (w : World) (hn : n ≤ 9223372036854775807) (hm : m ≤ 9223372036854775807) :
    Calls Try.prog 30 #[.agg #[.int .i64 h, .slice A n c, .slice B m d]] w fun e w' => e = .returned (.bool (fewB n m)) ∧ Bel w w' := by
  go_enter Try.func30, Try.ntmps30
  have q := fun j => cell_of_row (w.alloc (.cells #[.int .i64 h, .slice A n c, .slice B m d] 48)) w.heap.size j _ _ _ (heap_alloc_new w _)
  have hb : Bel w (w.alloc (.cells #[.int .i64 h, .slice A n c, .slice B m d] 48)) := (Bel.refl w).alloc _
  by_cases h1 : n ≤ 600
  · by_cases h2 : m ≤ 600
    · have e : Hid (fewB n m = true) := by rw [fewB, decide_eq_true h1, decide_eq_true h2]; exact rfl
      have h1' : (n : Int) ≤ 600 := by omega
      have h2' : (m : Int) ≤ 600 := by omega
      go_wp2
      go_ret
      exact ⟨by rw [e.out]; rfl, hb⟩
    · have e : Hid (fewB n m = false) := by rw [fewB, decide_eq_false h2, Bool.and_false]; exact rfl
      have h1' : (n : Int) ≤ 600 := by omega
      have h2' : ¬ (m : Int) ≤ 600 := by omega
      go_wp2
      go_ret
      exact ⟨by rw [e.out]; rfl, hb⟩
  · have e : Hid (fewB n m = false) := by rw [fewB, decide_eq_false h1, Bool.false_and]; exact rfl
    have h1' : ¬ (n : Int) ≤ 600 := by omega
    go_wp2
    go_ret
    exact ⟨by rw [e.out]; rfl, hb⟩
theorem take_eq_succ' {α : Type} {l m : List α} {k : Nat} {x y : α} (hx : l[k]? = some x) (hy : m[k]? = some y) (h : l.take k = m.take k) : l.take (k + 1) = m.take (k + 1) ↔ x = y := by
  rw [List.take_add_one, List.take_add_one, hx, hy, h]
  simp
theorem getEq' {α : Type} {l m : List α} {k : Nat} {x y : α} (hx : l[k]? = some x) (hy : m[k]? = some y) (h : x ≠ y) : l ≠ m := by
  intro e
  subst e
  rw [hx] at hy
  injection hy with hy
  exact h hy
set_option maxRecDepth 10000 in
set_option maxHeartbeats 2000000 in
theorem sameLists_any (A1 A2 : Option Addr) (n1 c1 n2 c2 : Nat) (s1 s2 : List SV) (l1 l2 : List (List Int)) (w : World) (h1 : Row svT w A1 n1 s1) (h2 : Row svT w A2 n2 s2) (r1 : RowsAt w s1 l1) (r2 : RowsAt w s2 l2) :
    Calls Try.prog 44 #[.slice A1 n1 c1, .slice A2 n2 c2] w fun e w' => e = .returned (.bool (decide (l1 = l2))) ∧ Bel w w' := by
  have hn := h1.2.1
  have hl1 : l1.length = n1 := by rw [← r1.1, h1.1]
  have hl2 : l2.length = n2 := by rw [← r2.1, h2.1]
  have HL1 := hid_ hl1
  have HL2 := hid_ hl2
  clear hl1 hl2
  go_enter Try.func44, Try.ntmps44
  by_cases hne : n1 = n2
  · subst hne
    go_wp2
    go_loopw [5] (fun i wr => ∃ (k : Nat), k ≤ n1 ∧ i = .int .i64 k ∧ l1.take k = l2.take k ∧ Bel w wr) (fun i _ => n1 - (intOf i).toNat)
    case atStart => exact ⟨0, by omega, rfl, rfl, Bel.refl _⟩
    case round =>
      obtain ⟨k, hk, rfl, hx, hbr⟩ := hrel
      by_cases hkn : k < n1
      · obtain ⟨ad, X, m, c, rfl, ho, d0⟩ := (h1.bel hbr).sv hkn
        obtain ⟨ad2, Y, m', c', rfl, ho2, e0⟩ := (h2.bel hbr).sv hkn
        obtain ⟨x, hx1, rx⟩ := (r1.bel hbr).at ho
        obtain ⟨y, hy1, ry⟩ := (r2.bel hbr).at ho2
        have hs := take_eq_succ' hx1 hy1 hx
        have hg := getEq' hx1 hy1
        have HS := hid_ hs
        have HG := hid_ hg
        have HB := hid_ hbr
        clear hs hg ho ho2 hx hbr hx1 hy1
        go_wp2_with fail
        go_region_held3 (fun W => W.cell? (ad.add k) = some (.slice X m c) ∧ W.cell? (ad2.add k) = some (.slice Y m' c')) (first | exact ⟨d0, e0⟩ | exact ⟨b5.cell_ d0, b5.cell_ e0⟩)
          (first | (go_at_call 67; refine' (ints_any X Y m c m' c' x y _ (rx.bel (by (repeat first | exact Bel.refl _ | apply Bel.drew | apply Bel.alloc))) (ry.bel (by (repeat first | exact Bel.refl _ | apply Bel.drew | apply Bel.alloc)))).mono ?_; rintro e w5 ⟨rfl, b⟩; have b5 : Bel wr w5 := Bel.trans (by (repeat first | exact Bel.refl _ | apply Bel.drew | apply Bel.alloc)) b))
        obtain ⟨b, hbb⟩ : ∃ b, decide (x = y) = b := ⟨_, rfl⟩
        rw [hbb]
        have HBB := hid_ hbb
        clear hbb
        cases b
        · have HG2 : Hid (l1 ≠ l2) := hid_ (HG.out (of_decide_eq_false HBB.out))
          clear HG HS
          go_wp2
          go_ret
          exact ⟨by rw [decide_eq_false HG2.out]; rfl, HB.out.trans b5⟩
        · have HS2 : Hid (x = y) := hid_ (of_decide_eq_true HBB.out)
          clear HG
          go_wp2
          case roundEnd =>
            go_roundw
            case rel => exact ⟨k + 1, by omega, by go_num, HS.out.2 HS2.out, HB.out.trans b5⟩
            case measure => simp [intOf]; omega
      · have : k = n1 := by omega
        subst this
        have e1 : l1.take k = l1 := by rw [← HL1.out, List.take_length]
        have e2 : l2.take k = l2 := by rw [← HL2.out, List.take_length]
        rw [e1, e2] at hx
        have HX := hid_ hx
        clear hx e1 e2
        go_wp2
        go_ret
        exact ⟨by rw [decide_eq_true HX.out]; rfl, hbr⟩
  · have e1 : ((n1 : Int) != (n2 : Int)) = true := by simp [hne]; omega
    have hl : l1 ≠ l2 := fun e => hne (by rw [← HL1.out, ← HL2.out, e])
    have HL := hid_ hl
    clear hl
    go_wp2
    go_ret
    exact ⟨by rw [decide_eq_false HL.out]; rfl, Bel.refl _⟩
end Go.Proofs.Ytboaidjhhlidkaa
