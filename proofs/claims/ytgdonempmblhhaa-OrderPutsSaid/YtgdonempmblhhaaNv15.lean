/- novate.All's closures, slices.IndexFunc with each (printed by mkidx.py). -/
import Derived.Test.YtgdonempmblhhaaNv14
set_option linter.unusedSimpArgs false
set_option linter.unusedVariables false
namespace Go.Proofs.Ytgdonempmblhhaa
open Go.RowKit Go.Lib
/-- The first order of a number. -/
def atN : List Ord → Int → Option Nat
  | [], _ => none
  | o :: l, n => if o.number == n then some 0 else (atN l n).map (· + 1)
def atI (l : List Ord) (n : Int) : Int := match atN l n with | some k => (k : Int) | none => -1
theorem atN_hit : ∀ (l : List Ord) (n : Int) (j : Nat) (o : Ord), l[j]? = some o → (o.number == n) = true → (∀ i x, i < j → l[i]? = some x → (x.number == n) = false) → atN l n = some j
  | [], _, _, _, h, _, _ => by simp at h
  | x :: l, n, 0, o, h, hn, _ => by simp at h; subst h; simp [atN, hn]
  | x :: l, n, j + 1, o, h, hn, hi => by
    have h0 := hi 0 x (by omega) rfl
    have := atN_hit l n j o (by simpa using h) hn (fun i y hij hy => hi (i + 1) y (by omega) (by simpa using hy))
    simp [atN, h0, this]
theorem atN_no : ∀ (l : List Ord) (n : Int), (∀ (i : Nat) (x : Ord), l[i]? = some x → (x.number == n) = false) → atN l n = none
  | [], _, _ => rfl
  | x :: l, n, hi => by
    have h0 := hi 0 x rfl
    have := atN_no l n (fun i y hy => hi (i + 1) y (by simpa using hy))
    simp [atN, h0, this]
theorem atN_some : ∀ (l : List Ord) (n : Int) (j : Nat), atN l n = some j → ∃ o, l[j]? = some o
  | [], _, _, h => by simp [atN] at h
  | x :: l, n, j, h => by
    unfold atN at h
    split at h
    · cases h; exact ⟨x, rfl⟩
    · obtain ⟨k, hk, rfl⟩ := Option.map_eq_some_iff.1 h
      obtain ⟨o, ho⟩ := atN_some l n k hk
      exact ⟨o, by simpa using ho⟩
theorem atI_hit {l : List Ord} {n : Int} {j : Nat} (h : atN l n = some j) : atI l n = (j : Int) := by simp [atI, h]
theorem atI_no {l : List Ord} {n : Int} (h : atN l n = none) : atI l n = -1 := by simp [atI, h]
set_option maxRecDepth 10000 in
theorem all1_any (o0 : Int) (o1 o2 : ByteArray) (o3 : Bool) (o4 o5 : Int) (n : Int) (g : Nat) (w : World) (h : w.cell? ⟨g, 0, none⟩ = some (.int .u64 n)) :
    Calls Try.prog 42 #[.agg #[.int .u64 o0, .string o1, .string o2, .bool o3, .int .i64 o4, .int .i64 o5], .pointer (some ⟨g, 0, none⟩)] w fun e w' => e = .returned (.bool (o0 == n)) ∧ Bel w w' := by
  have h1 := cellOld h (.cells #[.int .u64 o0, .string o1, .string o2, .bool o3, .int .i64 o4, .int .i64 o5] 27)
  have h2 := cellNew w #[.int .u64 o0, .string o1, .string o2, .bool o3, .int .i64 o4, .int .i64 o5] 27 (0, 0) w.heap.size 0 rfl
  have HB := hid_ ((Bel.refl w).alloc (.cells #[.int .u64 o0, .string o1, .string o2, .bool o3, .int .i64 o4, .int .i64 o5] 27))
  clear h
  go_enter Try.func42, Try.ntmps42
  go_wp2
  go_ret
  exact ⟨rfl, HB.out⟩
set_option maxRecDepth 10000 in
set_option maxHeartbeats 1000000 in
theorem indexAll1_any (A : Option Addr) (n c : Nat) (l : List Ord) (nu : Int) (g : Nat) (w : World) (hA : Row ordT w A n l) (hg : w.cell? ⟨g, 0, none⟩ = some (.int .u64 nu)) :
    Calls Try.prog 41 #[.slice A n c, .func (.func 42) #[] #[.pointer (some ⟨g, 0, none⟩)]] w fun e w' => e = .returned (.int .i64 (atI l nu)) ∧ Bel w w' := by
  have HG := hid_ hg
  have HA := hid_ hA
  have hn := hA.2.1
  have HL := hid_ hA.1
  clear hg hA
  go_enter Try.func41, Try.ntmps41
  go_wp2_with fail
  go_loopw [5, 8] (fun _ i wr => ∃ j : Nat, j ≤ n ∧ i = .int .i64 j ∧ Hid (∀ i x, i < j → l[i]? = some x → (x.number == nu) = false) ∧ Bel w wr) (fun _ i _ => n - (intOf i).toNat)
  case atStart => exact ⟨0, Nat.zero_le _, rfl, hid_ (fun i x h => absurd h (by omega)), Bel.refl _⟩
  case round =>
    obtain ⟨j, hj, rfl, hx, hbr⟩ := hrel
    have BR := hid_ hbr
    by_cases hjn : j < n
    · obtain ⟨ad, o0, o1, o2, o3, o4, o5, rfl, ho, d0, d1, d2, d3, d4, d5⟩ := (HA.out.bel hbr).ord hjn
      have HO := hid_ ho
      clear ho hbr
      go_wp2_with fail
      refine (all1_any o0 o1 o2 o3 o4 o5 nu g wr (BR.out.cell_ HG.out)).mono ?_
      rintro e w5 ⟨rfl, b⟩
      have BR5 := hid_ (BR.out.trans b)
      clear b BR d0 d1 d2 d3 d4 d5
      obtain ⟨eq, heq⟩ : ∃ eq, (o0 == nu) = eq := ⟨_, rfl⟩
      rw [heq]
      have HEQ := hid_ heq
      clear heq
      cases eq
      · have HN : Hid (∀ i x, i < j + 1 → l[i]? = some x → (x.number == nu) = false) := hid_ (by
          intro i x hi hix
          rcases Nat.lt_or_ge i j with h | h
          · exact hx.out i x h hix
          · obtain rfl : i = j := by omega
            rw [HO.out] at hix
            cases hix
            exact HEQ.out)
        clear hx HO HEQ
        go_wp2
        case roundEnd =>
          go_roundw
          case rel => exact ⟨j + 1, by omega, by go_num, HN, BR5.out⟩
          case measure => simp [intOf]; omega
      · have HF : Hid (atI l nu = (j : Int)) := hid_ (atI_hit (atN_hit l nu j _ HO.out HEQ.out hx.out))
        clear hx HO HEQ
        go_wp2
        go_ret
        exact ⟨by rw [HF.out]; rfl, BR5.out⟩
    · obtain rfl : j = n := by omega
      have HF : Hid (atI l nu = -1) := hid_ (atI_no (atN_no l nu (fun i x h => hx.out i x (by have := (List.getElem?_eq_some_iff.1 h).1; rw [HL.out] at this; exact this) h)))
      clear hx hbr
      go_wp2
      go_ret
      exact ⟨by rw [HF.out]; rfl, BR.out⟩
set_option maxRecDepth 10000 in
theorem all2_any (o0 : Int) (o1 o2 : ByteArray) (o3 : Bool) (o4 o5 : Int) (n : Int) (g : Nat) (w : World) (h : w.cell? ⟨g, 1, none⟩ = some (.int .u64 n)) :
    Calls Try.prog 43 #[.agg #[.int .u64 o0, .string o1, .string o2, .bool o3, .int .i64 o4, .int .i64 o5], .pointer (some ⟨g, 0, none⟩)] w fun e w' => e = .returned (.bool (o0 == n)) ∧ Bel w w' := by
  have h1 := cellOld h (.cells #[.int .u64 o0, .string o1, .string o2, .bool o3, .int .i64 o4, .int .i64 o5] 27)
  have h2 := cellNew w #[.int .u64 o0, .string o1, .string o2, .bool o3, .int .i64 o4, .int .i64 o5] 27 (0, 0) w.heap.size 0 rfl
  have HB := hid_ ((Bel.refl w).alloc (.cells #[.int .u64 o0, .string o1, .string o2, .bool o3, .int .i64 o4, .int .i64 o5] 27))
  clear h
  go_enter Try.func43, Try.ntmps43
  go_wp2
  go_ret
  exact ⟨rfl, HB.out⟩
set_option maxRecDepth 10000 in
set_option maxHeartbeats 1000000 in
theorem indexAll2_any (A : Option Addr) (n c : Nat) (l : List Ord) (nu : Int) (g : Nat) (w : World) (hA : Row ordT w A n l) (hg : w.cell? ⟨g, 1, none⟩ = some (.int .u64 nu)) :
    Calls Try.prog 41 #[.slice A n c, .func (.func 43) #[] #[.pointer (some ⟨g, 0, none⟩)]] w fun e w' => e = .returned (.int .i64 (atI l nu)) ∧ Bel w w' := by
  have HG := hid_ hg
  have HA := hid_ hA
  have hn := hA.2.1
  have HL := hid_ hA.1
  clear hg hA
  go_enter Try.func41, Try.ntmps41
  go_wp2_with fail
  go_loopw [5, 8] (fun _ i wr => ∃ j : Nat, j ≤ n ∧ i = .int .i64 j ∧ Hid (∀ i x, i < j → l[i]? = some x → (x.number == nu) = false) ∧ Bel w wr) (fun _ i _ => n - (intOf i).toNat)
  case atStart => exact ⟨0, Nat.zero_le _, rfl, hid_ (fun i x h => absurd h (by omega)), Bel.refl _⟩
  case round =>
    obtain ⟨j, hj, rfl, hx, hbr⟩ := hrel
    have BR := hid_ hbr
    by_cases hjn : j < n
    · obtain ⟨ad, o0, o1, o2, o3, o4, o5, rfl, ho, d0, d1, d2, d3, d4, d5⟩ := (HA.out.bel hbr).ord hjn
      have HO := hid_ ho
      clear ho hbr
      go_wp2_with fail
      refine (all2_any o0 o1 o2 o3 o4 o5 nu g wr (BR.out.cell_ HG.out)).mono ?_
      rintro e w5 ⟨rfl, b⟩
      have BR5 := hid_ (BR.out.trans b)
      clear b BR d0 d1 d2 d3 d4 d5
      obtain ⟨eq, heq⟩ : ∃ eq, (o0 == nu) = eq := ⟨_, rfl⟩
      rw [heq]
      have HEQ := hid_ heq
      clear heq
      cases eq
      · have HN : Hid (∀ i x, i < j + 1 → l[i]? = some x → (x.number == nu) = false) := hid_ (by
          intro i x hi hix
          rcases Nat.lt_or_ge i j with h | h
          · exact hx.out i x h hix
          · obtain rfl : i = j := by omega
            rw [HO.out] at hix
            cases hix
            exact HEQ.out)
        clear hx HO HEQ
        go_wp2
        case roundEnd =>
          go_roundw
          case rel => exact ⟨j + 1, by omega, by go_num, HN, BR5.out⟩
          case measure => simp [intOf]; omega
      · have HF : Hid (atI l nu = (j : Int)) := hid_ (atI_hit (atN_hit l nu j _ HO.out HEQ.out hx.out))
        clear hx HO HEQ
        go_wp2
        go_ret
        exact ⟨by rw [HF.out]; rfl, BR5.out⟩
    · obtain rfl : j = n := by omega
      have HF : Hid (atI l nu = -1) := hid_ (atI_no (atN_no l nu (fun i x h => hx.out i x (by have := (List.getElem?_eq_some_iff.1 h).1; rw [HL.out] at this; exact this) h)))
      clear hx hbr
      go_wp2
      go_ret
      exact ⟨by rw [HF.out]; rfl, BR.out⟩
end Go.Proofs.Ytgdonempmblhhaa
