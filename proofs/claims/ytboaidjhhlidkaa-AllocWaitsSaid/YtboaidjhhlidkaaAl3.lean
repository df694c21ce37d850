/- alloc: Ints; the place where a page is laid. -/
import Derived.Test.YtboaidjhhlidkaaAl2
set_option linter.unusedSimpArgs false
set_option linter.unusedVariables false
namespace Go.Proofs.Ytboaidjhhlidkaa
open Go.RowKit
theorem take_eq_succ {l m : List Int} {k : Nat} {x y : Int} (hx : l[k]? = some x) (hy : m[k]? = some y) (h : l.take k = m.take k) : l.take (k + 1) = m.take (k + 1) ↔ x = y := by
  rw [List.take_add_one, List.take_add_one, hx, hy, h]
  simp
theorem getEq {l m : List Int} {k : Nat} {x y : Int} (hx : l[k]? = some x) (hy : m[k]? = some y) (h : x ≠ y) : l ≠ m := by
  intro e
  subst e
  rw [hx] at hy
  injection hy with hy
  exact h hy
set_option maxRecDepth 10000 in
set_option maxHeartbeats 1000000 in
theorem ints_any (A1 A2 : Option Addr) (n1 c1 n2 c2 : Nat) (l1 l2 : List Int) (w : World) (h1 : Row intT w A1 n1 l1) (h2 : Row intT w A2 n2 l2) :
    Calls Try.prog 67 #[.slice A1 n1 c1, .slice A2 n2 c2] w fun e w' => e = .returned (.bool (decide (l1 = l2))) ∧ Bel w w' := by
  have hn := h1.2.1
  go_enter Try.func67, Try.ntmps67
  by_cases hne : n1 = n2
  · subst hne
    go_wp2
    go_loopw [5] (fun i wr => ∃ (k : Nat), k ≤ n1 ∧ i = .int .i64 k ∧ l1.take k = l2.take k ∧ Bel w wr) (fun i _ => n1 - (intOf i).toNat)
    case atStart => exact ⟨0, by omega, rfl, rfl, Bel.refl _⟩
    case round =>
      obtain ⟨k, hk, rfl, hx, hbr⟩ := hrel
      by_cases hkn : k < n1
      · obtain ⟨ad, x, rfl, ho, d0⟩ := (h1.bel hbr).int hkn
        obtain ⟨ad2, y, rfl, ho2, e0⟩ := (h2.bel hbr).int hkn
        have hs := take_eq_succ ho ho2 hx
        have hg := getEq ho ho2
        have HS := hid_ hs
        have HG := hid_ hg
        have HB := hid_ hbr
        clear hs hg ho ho2 hx hbr
        by_cases hxy : x = y
        · subst hxy
          clear HG
          go_wp2_with fail
          go_quiet (fail)
          go_wp2
          case roundEnd =>
            go_roundw
            case rel => exact ⟨k + 1, by omega, by go_num, by first | exact HS.out.2 rfl | exact HS.out.2 trivial, HB.out.drewN _⟩
            case measure => simp [intOf]; omega
        · have e1 : (x != y) = true := by simp [hxy]
          go_wp2_with fail
          go_quiet (fail)
          go_wp2
          go_ret
          exact ⟨by rw [decide_eq_false (HG.out hxy)]; rfl, HB.out.drewN _⟩
      · have : k = n1 := by omega
        subst this
        have e1 : l1.take k = l1 := by rw [← h1.1, List.take_length]
        have e2 : l2.take k = l2 := by rw [← h2.1, List.take_length]
        rw [e1, e2] at hx
        have HX := hid_ hx
        clear hx e1 e2
        go_wp2
        go_ret
        exact ⟨by rw [decide_eq_true HX.out]; rfl, hbr⟩
  · have e1 : ((n1 : Int) != (n2 : Int)) = true := by simp [hne]; omega
    have hl : l1 ≠ l2 := fun e => hne (by rw [← h1.1, ← h2.1, e])
    have HL := hid_ hl
    clear hl
    go_wp2
    go_ret
    exact ⟨by rw [decide_eq_false HL.out]; rfl, Bel.refl _⟩

/-- How many are beneath a page, from the first on. -/
def atP (l : List Int) (p : Int) : Nat := (l.takeWhile fun n => decide (n < p)).length
def laidP (l : List Int) (p : Int) : List Int := l.take (atP l p) ++ [p] ++ l.drop (atP l p)
theorem atP_le (l : List Int) (p : Int) : atP l p ≤ l.length := (List.takeWhile_prefix _).length_le
theorem atP_step : ∀ (l : List Int) (p : Int) (k : Nat) (x : Int), k ≤ atP l p → l[k]? = some x → (x < p → k + 1 ≤ atP l p) ∧ (¬ x < p → atP l p = k)
  | [], p, k, x, _, h => by simp at h
  | y :: l, p, 0, x, _, h => by
    have : y = x := by simpa using h
    subst this
    unfold atP
    rw [List.takeWhile_cons]
    by_cases hx : y < p
    · simp [hx]
    · simp [hx]
  | y :: l, p, k + 1, x, hk, h => by
    have h' : l[k]? = some x := by simpa using h
    by_cases hy : y < p
    · have e : atP (y :: l) p = atP l p + 1 := by
        unfold atP
        rw [List.takeWhile_cons]
        simp [hy]
      rw [e] at hk ⊢
      obtain ⟨h1, h2⟩ := atP_step l p k x (by omega) h'
      exact ⟨fun h => by have := h1 h; omega, fun h => by have := h2 h; omega⟩
    · have e : atP (y :: l) p = 0 := by
        unfold atP
        rw [List.takeWhile_cons]
        simp [hy]
      omega
theorem laidP_len (l : List Int) (p : Int) : (laidP l p).length = l.length + 1 := by
  have := atP_le l p
  unfold laidP
  simp
  omega
set_option maxHeartbeats 1000000 in
/-- laid's question of a page. -/
theorem laidQ_any (b : Nat) (x page : Int) (w : World) (hb : w.cell? ⟨b, 0, none⟩ = some (.int .i64 page)) :
    Calls Try.prog 119 #[.int .i64 x, .pointer (some ⟨b, 0, none⟩)] w fun e w' => e = .returned (.bool (decide (page ≤ x))) ∧ w = w' := by
  go_enter Try.func119, Try.ntmps119
  go_wp2
  go_ret
  exact ⟨rfl, rfl⟩
/-- What the library's search for it answers. -/
def placeI (l : List Int) (p : Int) : Int := if atP l p < l.length then (atP l p : Int) else -1
theorem placeI_pos {l : List Int} {p : Int} (h : atP l p < l.length) : placeI l p = (atP l p : Int) := if_pos h
theorem placeI_neg {l : List Int} {p : Int} (h : ¬ atP l p < l.length) : placeI l p = -1 := if_neg h
set_option maxRecDepth 10000 in
set_option maxHeartbeats 1000000 in
theorem indexLaid_any (A : Option Addr) (n c b : Nat) (l : List Int) (page : Int) (w : World) (h1 : Row intT w A n l) (hb : w.cell? ⟨b, 0, none⟩ = some (.int .i64 page)) :
    Calls Try.prog 118 #[.slice A n c, .func (.func 119) #[] #[.pointer (some ⟨b, 0, none⟩)]] w fun e w' => e = .returned (.int .i64 (placeI l page)) ∧ w = w' := by
  have hn := h1.2.1
  go_enter Try.func118, Try.ntmps118
  go_wp2_with fail
  go_loop [5, 8] (fun _ i => ∃ k : Nat, k ≤ n ∧ i = .int .i64 k ∧ k ≤ atP l page) (fun _ i => n - (intOf i).toNat)
  case atStart => exact ⟨0, by omega, rfl, by omega⟩
  case round =>
    obtain ⟨k, hk, rfl, hx⟩ := hrel
    by_cases hkn : k < n
    · obtain ⟨ad, y, rfl, ho, d0⟩ := h1.int hkn
      have hst := atP_step l page k y hx ho
      have HST := hid_ hst
      clear hst hx ho
      go_wp2_with fail
      refine (laidQ_any b y page w hb).mono ?_
      rintro e _ ⟨rfl, rfl⟩
      by_cases hxy : page ≤ y
      · have e1 := HST.out.2 (by omega)
        have e2 := placeI_pos (l := l) (p := page) (by rw [e1, h1.1]; exact hkn)
        rw [e1] at e2
        have HE := hid_ e2
        clear e1 e2
        go_wp2
        go_ret
        exact ⟨by rw [HE.out]; rfl, rfl⟩
      · go_wp2
        case roundEnd =>
          go_round
          case rel => exact ⟨k + 1, by omega, by go_num, HST.out.1 (by omega)⟩
          case measure => simp [intOf]; omega
    · have : k = n := by omega
      subst this
      have HX : Hid (placeI l page = -1) := placeI_neg (by rw [h1.1]; omega)
      clear hx
      go_wp2
      go_ret
      exact ⟨by rw [HX.out]; rfl, rfl⟩
end Go.Proofs.Ytboaidjhhlidkaa
