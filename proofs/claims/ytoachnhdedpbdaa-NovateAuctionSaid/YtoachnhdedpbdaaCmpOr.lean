/- cmp.Compare at texts, cmp.Or. -/
import Derived.Test.YtoachnhdedpbdaaTyI
import Derived.Test.YtoachnhdedpbdaaPlc
import Derived.Shelf.SlSorted.Search
set_option linter.unusedSimpArgs false
set_option linter.unusedVariables false
namespace Go.Proofs.Ytoachnhdedpbdaa
open Go.RowKit Go.Lib
/-- The first that is not 0. -/
def orI : List Int → Int
  | [] => 0
  | x :: l => if x = 0 then orI l else x
theorem orI_skip : ∀ (l : List Int) (j : Nat) (x : Int), (∀ (i : Nat) (y : Int), i < j → l[i]? = some y → y = 0) → l[j]? = some x → x ≠ 0 → orI l = x
  | [], _, _, _, h, _ => by simp at h
  | y :: l, 0, x, _, h, hx => by simp at h; subst h; simp [orI, hx]
  | y :: l, j + 1, x, h0, h, hx => by
    have hy := h0 0 y (by omega) rfl
    rw [orI, if_pos hy]
    exact orI_skip l j x (fun i z hi hz => h0 (i + 1) z (by omega) (by simpa using hz)) (by simpa using h) hx
theorem orI_none : ∀ (l : List Int), (∀ (i : Nat) (y : Int), l[i]? = some y → y = 0) → orI l = 0
  | [], _ => rfl
  | y :: l, h0 => by
    have hy := h0 0 y rfl
    rw [orI, if_pos hy]
    exact orI_none l (fun i z hz => h0 (i + 1) z (by simpa using hz))
set_option maxRecDepth 10000 in
theorem cmp_or (A : Option Addr) (n c : Nat) (l : List Int) (w : World) (hA : Row intT w A n l) : Calls Try.prog 40 #[.slice A n c] w fun e w' => e = .returned (.int .i64 (orI l)) ∧ w = w' := by
  have hn := hA.2.1
  have HL := hid_ hA.1
  obtain ⟨r, hr⟩ : ∃ r, orI l = r := ⟨_, rfl⟩
  rw [hr]
  have HR := hid_ hr
  clear hr
  go_enter Try.func40, Try.ntmps40
  go_wp2_with fail
  go_loop [8] (fun i => ∃ j : Nat, j ≤ n ∧ i = .int .i64 j ∧ Hid (∀ (i : Nat) (y : Int), i < j → l[i]? = some y → y = 0)) (fun i => n - (intOf i).toNat)
  case atStart => exact ⟨0, Nat.zero_le _, rfl, hid_ (fun i y h => absurd h (by omega))⟩
  case round =>
    obtain ⟨j, hj, rfl, hx⟩ := hrel
    by_cases hjn : j < n
    · obtain ⟨ad, x, rfl, ho, d0⟩ := hA.int hjn
      have HO := hid_ ho
      clear ho
      by_cases h0 : x = 0
      · have HX : Hid (∀ (i : Nat) (y : Int), i < j + 1 → l[i]? = some y → y = 0) := hid_ (by
          intro i y hi hy
          rcases Nat.lt_or_ge i j with h | h
          · exact hx.out i y h hy
          · obtain rfl : i = j := by omega
            rw [HO.out] at hy
            cases hy
            exact h0)
        have q : (x != 0) = false := by simp [h0]
        clear hx HO h0
        go_wp2
        case roundEnd =>
          go_round
          case rel => exact ⟨j + 1, by omega, by go_num, HX⟩
          case measure => simp [intOf]; omega
      · have HF : Hid (r = x) := hid_ (by rw [← HR.out]; exact orI_skip l j x hx.out HO.out h0)
        have q : (x != 0) = true := by simp [h0]
        clear hx HO h0
        go_wp2
        go_ret
        exact ⟨by rw [HF.out]; rfl, rfl⟩
    · obtain rfl : j = n := by omega
      have HF : Hid (r = 0) := hid_ (by rw [← HR.out]; exact orI_none l (fun i y h => hx.out i y (by have := (List.getElem?_eq_some_iff.1 h).1; rw [HL.out] at this; exact this) h))
      clear hx
      go_wp2
      go_ret
      exact ⟨by rw [HF.out]; rfl, rfl⟩
theorem orI_cmp (p q : Plc) : orI [cmpX p.who q.who, cmpX p.asset q.asset] = cmpP p q := by
  unfold cmpP orI orI orI
  by_cases h : cmpX p.who q.who = 0
  · rw [if_pos h, if_pos h]
    split <;> simp_all
  · rw [if_neg h, if_neg h]
set_option maxRecDepth 10000 in
theorem cmp_str (x y : ByteArray) (w : World) : Calls Try.prog 95 #[.string x, .string y] w fun e w' => e = .returned (.int .i64 (cmpX x y)) ∧ w = w' := by
  have nan : ∀ (z : ByteArray) w, Calls Try.prog 107 #[.string z] w fun e w' => e = .returned (.bool false) ∧ w = w' := by
    intro z w
    have q : (z.toList == z.toList) = true := by simp
    go_enter Try.func107, Try.ntmps107
    go_wp2
    go_ret
    exact ⟨rfl, rfl⟩
  go_enter Try.func95, Try.ntmps95
  go_wp2_with fail
  refine (nan _ _).mono ?_
  rintro e _ ⟨rfl, rfl⟩
  go_wp2_with fail
  refine (nan _ _).mono ?_
  rintro e _ ⟨rfl, rfl⟩
  by_cases h1 : ltX x y = true
  · have HF : Hid (cmpX x y = -1) := hid_ (by unfold cmpX; rw [h1]; rfl)
    have h1 : Op.bytesLess x.toList y.toList = true := h1
    go_wp2
    go_ret
    exact ⟨by rw [HF.out]; rfl, rfl⟩
  · by_cases h2 : x = y
    · subst h2
      have HF : Hid (cmpX x x = 0) := hid_ (cmpX_zero.2 rfl)
      have h1 : Op.bytesLess x.toList x.toList = false := by simpa [ltX] using h1
      have q : (x.toList == x.toList) = true := by simp
      go_wp2
      go_ret
      exact ⟨by rw [HF.out]; rfl, rfl⟩
    · have h3 : ltX y x = true := by
        rcases ltX_tot h2 with k | k
        · exact absurd k h1
        · exact k
      have HF : Hid (cmpX x y = 1) := hid_ (by unfold cmpX; rw [if_neg h1, if_pos h3])
      have h1 : Op.bytesLess x.toList y.toList = false := by simpa [ltX] using h1
      have q : (x.toList == y.toList) = false := by
        rw [beq_eq_false_iff_ne]
        exact fun e => h2 (toList_inj e)
      clear h2 h3
      go_wp2
      go_ret
      exact ⟨by rw [HF.out]; rfl, rfl⟩
end Go.Proofs.Ytoachnhdedpbdaa
