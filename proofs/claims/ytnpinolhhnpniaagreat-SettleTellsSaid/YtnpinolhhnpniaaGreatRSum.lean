/- cambistref01.Add, Sum. -/
import Derived.Test.YtnpinolhhnpniaaGreatCAdd
import Derived.Test.YtnpinolhhnpniaaGreatBox
set_option linter.unusedSimpArgs false
set_option linter.unusedVariables false
namespace Go.Proofs.YtnpinolhhnpniaaGreat
open Go.RowKit Go.Lib
theorem addR_any (a b : Int) (w : World) (ha : -9223372036854775808 ≤ a ∧ a ≤ 9223372036854775807) (hb : -9223372036854775808 ≤ b ∧ b ≤ 9223372036854775807) :
    Calls Tryz.prog 64 #[.int .i64 a, .int .i64 b] w fun e w' => e = .returned (.tuple #[.int .i64 (addV a b), .int .i64 (addE a b)]) ∧ w = w' := by
  obtain ⟨a0, a1⟩ := ha
  obtain ⟨b0, b1⟩ := hb
  obtain ⟨rv, hv⟩ : ∃ v, addV a b = v := ⟨_, rfl⟩
  obtain ⟨re, he⟩ : ∃ e, addE a b = e := ⟨_, rfl⟩
  rw [hv, he]
  have HF : Hid (∀ k, i64B (a + b) = k → (k = true → rv = a + b ∧ re = 0) ∧ (k = false → rv = 0 ∧ re = 10)) := hid_ (fun k hk => by
    unfold addV at hv
    unfold addE at he
    rw [hk] at hv he
    constructor
    · rintro rfl
      exact ⟨hv.symm, he.symm⟩
    · rintro rfl
      exact ⟨hv.symm, he.symm⟩)
  clear hv he
  by_cases p1 : 0 < b
  · by_cases p2 : 9223372036854775807 - b < a
    · obtain ⟨rfl, rfl⟩ := (HF.out false (by rw [← Bool.not_eq_true, i64B_iff]; omega)).2 rfl
      clear HF
      go_enter Tryz.func64, Tryz.ntmps64
      go_wp2
      go_ret2
      exact ⟨rfl, rfl⟩
    · obtain ⟨rfl, rfl⟩ := (HF.out true ((i64B_iff _).2 (by omega))).1 rfl
      have hs1 : -9223372036854775808 ≤ a + b := by omega
      have hs2 : a + b ≤ 9223372036854775807 := by omega
      have d2 : decide (9223372036854775807 - b < a) = false := decide_eq_false p2
      have d3 : decide (b < 0) = false := decide_eq_false (by omega)
      clear HF
      go_enter Tryz.func64, Tryz.ntmps64
      go_wp2
      go_ret2
      exact ⟨rfl, rfl⟩
  · have d1 : decide (0 < b) = false := decide_eq_false p1
    by_cases p3 : b < 0
    · by_cases p2 : a < -9223372036854775808 - b
      · obtain ⟨rfl, rfl⟩ := (HF.out false (by rw [← Bool.not_eq_true, i64B_iff]; omega)).2 rfl
        clear HF
        go_enter Tryz.func64, Tryz.ntmps64
        go_wp2
        go_ret2
        exact ⟨rfl, rfl⟩
      · obtain ⟨rfl, rfl⟩ := (HF.out true ((i64B_iff _).2 (by omega))).1 rfl
        have hs1 : -9223372036854775808 ≤ a + b := by omega
        have hs2 : a + b ≤ 9223372036854775807 := by omega
        have d2 : decide (a < -9223372036854775808 - b) = false := decide_eq_false p2
        clear HF
        go_enter Tryz.func64, Tryz.ntmps64
        go_wp2
        go_ret2
        exact ⟨rfl, rfl⟩
    · obtain rfl : b = 0 := by omega
      obtain ⟨rfl, rfl⟩ := (HF.out true ((i64B_iff _).2 (by omega))).1 rfl
      clear HF
      go_enter Tryz.func64, Tryz.ntmps64
      go_wp2
      go_ret2
      exact ⟨by simp, rfl⟩
def upI (l : List Int) : List Int := l.filter (fun x => decide (0 ≤ x))
def loI (l : List Int) : List Int := l.filter (fun x => decide (x < 0))
theorem upI_step {l : List Int} {k : Nat} {x : Int} (h : l[k]? = some x) : upI (l.take (k + 1)) = upI (l.take k) ++ (if 0 ≤ x then [x] else []) ∧ loI (l.take (k + 1)) = loI (l.take k) ++ (if x < 0 then [x] else []) := by
  unfold upI loI
  rw [List.take_add_one, h]
  simp only [Option.toList_some, List.filter_append]
  constructor
  · by_cases e : 0 ≤ x <;> simp [e]
  · by_cases e : x < 0 <;> simp [e]
theorem upI_len (l : List Int) : (upI l).length ≤ l.length ∧ (loI l).length ≤ l.length := ⟨List.length_filter_le _ _, List.length_filter_le _ _⟩
theorem upI_sum : ∀ l : List Int, (upI l).sum + (loI l).sum = l.sum
  | [] => rfl
  | x :: l => by
    have ih := upI_sum l
    unfold upI loI at ih ⊢
    by_cases e : 0 ≤ x
    · have e2 : ¬ x < 0 := by omega
      rw [List.filter_cons, if_pos (by simpa using e), List.filter_cons, if_neg (by simpa using e2)]
      simp only [List.sum_cons]
      omega
    · have e2 : x < 0 := by omega
      rw [List.filter_cons, if_neg (by simpa using e), List.filter_cons, if_pos (by simpa using e2)]
      simp only [List.sum_cons]
      omega
theorem up_nonneg : ∀ {l : List Int}, (∀ x ∈ l, 0 ≤ x) → 0 ≤ l.sum
  | [], _ => Int.le_refl _
  | x :: l, h => by
    have h1 := h x (by simp)
    have h2 := up_nonneg (fun y hy => h y (List.mem_cons_of_mem _ hy))
    simp only [List.sum_cons]
    omega
theorem lo_neg : ∀ {l : List Int}, (∀ x ∈ l, x < 0) → l.sum ≤ 0
  | [], _ => Int.le_refl _
  | x :: l, h => by
    have h1 := h x (by simp)
    have h2 := lo_neg (fun y hy => h y (List.mem_cons_of_mem _ hy))
    simp only [List.sum_cons]
    omega
/-- What is left to be summed. -/
structure SumS (T s : Int) (U D : List Int) : Prop where
  eq : s + U.sum + D.sum = T
  lo : -9223372036854775808 ≤ s
  hi : s ≤ 9223372036854775807
  up : ∀ x ∈ U, 0 ≤ x ∧ x ≤ 9223372036854775807
  dn : ∀ x ∈ D, x < 0 ∧ -9223372036854775808 ≤ x
theorem SumS.takeUp {T s u : Int} {U D : List Int} (h : SumS T s (u :: U) D) (hc : s < 0 ∨ D = []) : (i64B (s + u) = true ∧ SumS T (s + u) U D) ∨ (i64B (s + u) = false ∧ ¬ T ≤ 9223372036854775807) := by
  have h1 := h.eq
  have h2 := h.lo
  have h3 := h.hi
  have h4 := h.up u (by simp)
  have h5 := up_nonneg (fun x hx => (h.up x (List.mem_cons_of_mem _ hx)).1)
  rw [List.sum_cons] at h1
  cases hk : i64B (s + u)
  · refine .inr ⟨rfl, ?_⟩
    rw [← Bool.not_eq_true, i64B_iff] at hk
    rcases hc with hc | rfl
    · omega
    · rw [List.sum_nil] at h1
      omega
  · have hk := (i64B_iff _).1 hk
    exact .inl ⟨rfl, by omega, hk.1, hk.2, fun x hx => h.up x (List.mem_cons_of_mem _ hx), h.dn⟩
theorem SumS.takeDn {T s u : Int} {U D : List Int} (h : SumS T s U (u :: D)) (hc : 0 ≤ s ∨ U = []) : (i64B (s + u) = true ∧ SumS T (s + u) U D) ∨ (i64B (s + u) = false ∧ ¬ -9223372036854775808 ≤ T) := by
  have h1 := h.eq
  have h2 := h.lo
  have h3 := h.hi
  have h4 := h.dn u (by simp)
  have h5 := lo_neg (fun x hx => (h.dn x (List.mem_cons_of_mem _ hx)).1)
  rw [List.sum_cons] at h1
  cases hk : i64B (s + u)
  · refine .inr ⟨rfl, ?_⟩
    rw [← Bool.not_eq_true, i64B_iff] at hk
    rcases hc with hc | rfl
    · omega
    · rw [List.sum_nil] at h1
      omega
  · have hk := (i64B_iff _).1 hk
    exact .inl ⟨rfl, by omega, hk.1, hk.2, h.up, fun x hx => h.dn x (List.mem_cons_of_mem _ hx)⟩
def vLn : Value → Nat
  | .slice _ m _ => m
  | _ => 0
theorem add_0 (ad : Addr) : ad.add 0 = ad := rfl
theorem cons_of {l : List Int} {n : Nat} (h : l.length = n) (hn : 0 < n) : ∃ x r, l = x :: r := by
  cases l with
  | nil => simp at h; omega
  | cons x r => exact ⟨x, r, rfl⟩
set_option maxRecDepth 10000 in
set_option maxHeartbeats 2000000 in
theorem sumR_any (A : Option Addr) (n c : Nat) (l : List Int) (w : World) (hA : Row i64T w A n l) (hn : n ≤ 1000000) (hl : ∀ x ∈ l, -9223372036854775808 ≤ x ∧ x ≤ 9223372036854775807) :
    Calls Tryz.prog 49 #[.slice A n c] w fun e w' => e = .returned (.tuple #[.int .i64 (sumV l), .int .i64 (sumE l)]) ∧ Bel w w' := by
  have h63 := hA.2.1
  have HL := hid_ hA.1
  have HA := hid_ hA
  have HZ := hid_ hl
  have HN := hid_ hn
  obtain ⟨rv, hrv⟩ : ∃ r, sumV l = r := ⟨_, rfl⟩
  obtain ⟨re, hre⟩ : ∃ r, sumE l = r := ⟨_, rfl⟩
  rw [hrv, hre]
  have HR : Hid ((i64B l.sum = true → rv = l.sum ∧ re = 0) ∧ (i64B l.sum = false → rv = 0 ∧ re = 10)) := hid_ (by
    rw [← hrv, ← hre]
    unfold sumV sumE
    rw [show sumOk l = i64B l.sum from rfl]
    constructor
    · intro h; rw [h]; exact ⟨rfl, rfl⟩
    · intro h; rw [h]; exact ⟨rfl, rfl⟩)
  clear hA hn hl hrv hre
  go_enter Tryz.func49, Tryz.ntmps49
  go_wp2_with fail
  go_loopw [4, 5, 6] (fun v u i wr => ∃ j : Nat, j ≤ n ∧ i = .int .i64 j ∧ Hid (Own i64T wr w.heap.size v (upI (l.take j))) ∧ Hid (Own i64T wr w.heap.size u (loI (l.take j))) ∧ Hid (NeRow v u) ∧ Hid (Bel w wr)) (fun _ _ i _ => n - (intOf i).toNat)
  case atStart => exact ⟨0, Nat.zero_le _, rfl, hid_ (Own.nil_ _ _ _), hid_ (Own.nil_ _ _ _), hid_ (NeRow.nilL _), hid_ (Bel.refl _)⟩
  case round =>
    obtain ⟨j, hj, rfl, hO, hU, hNe, hB⟩ := hrel
    by_cases hjn : j < n
    · obtain ⟨ad, x, rfl, ho, d0⟩ := (HA.out.bel hB.out).i64 hjn
      have HST := hid_ (upI_step ho)
      clear ho
      have i0 : (0 : Int) ≤ (j : Int) := by omega
      have i1 : (j : Int) < (n : Int) := by omega
      have HLE : Hid ((upI (l.take j)).length ≤ j ∧ (loI (l.take j)).length ≤ j) := hid_ (by
        have h1 := upI_len (l.take j)
        have h2 : (l.take j).length ≤ j := by rw [List.length_take]; omega
        omega)
      by_cases hx : 0 ≤ x
      · have HF : Hid (upI (l.take (j + 1)) = upI (l.take j) ++ [x] ∧ loI (l.take (j + 1)) = loI (l.take j)) := hid_ (by rw [HST.out.1, HST.out.2, if_pos hx, if_neg (by omega), List.append_nil]; exact ⟨rfl, rfl⟩)
        clear HST
        go_wp2_with (at_builtin; refine wpApp (w0 := w) i64S rfl _ _ rfl _ (upI (l.take j)) [x] (some ⟨wr.heap.size, 0, none⟩) 1 1 rfl rfl (hO.out.alloc_ _) (Row.one (T := i64T) x rfl rfl) (hB.out.alloc _) (by have := HLE.out; have := HN.out; omega) ?_; intro v1 x1 hO1 hb1 hg1 hat1)
        have hU1 := (hU.out.alloc_ _).kept_ hg1 hNe.out.other
        have hN1 := hNe.out.app hat1 (hU.out.alloc_ _)
        case roundEnd =>
          go_round
          case rel => exact ⟨j + 1, by omega, by go_num, hid_ (by rw [HF.out.1]; exact hO1), hid_ (by rw [HF.out.2]; exact hU1), hid_ hN1, hid_ hb1⟩
          case measure => simp [intOf]; omega
      · have HF : Hid (upI (l.take (j + 1)) = upI (l.take j) ∧ loI (l.take (j + 1)) = loI (l.take j) ++ [x]) := hid_ (by rw [HST.out.1, HST.out.2, if_neg hx, if_pos (by omega), List.append_nil]; exact ⟨rfl, rfl⟩)
        clear HST
        go_wp2_with (at_builtin; refine wpApp (w0 := w) i64S rfl _ _ rfl _ (loI (l.take j)) [x] (some ⟨wr.heap.size, 0, none⟩) 1 1 rfl rfl (hU.out.alloc_ _) (Row.one (T := i64T) x rfl rfl) (hB.out.alloc _) (by have := HLE.out; have := HN.out; omega) ?_; intro v1 x1 hO1 hb1 hg1 hat1)
        have hU1 := (hO.out.alloc_ _).kept_ hg1 hNe.out.symm.other
        have hN1 := (hNe.out.symm.app hat1 (hO.out.alloc_ _)).symm
        case roundEnd =>
          go_round
          case rel => exact ⟨j + 1, by omega, by go_num, hid_ (by rw [HF.out.1]; exact hU1), hid_ (by rw [HF.out.2]; exact hO1), hid_ hN1, hid_ hb1⟩
          case measure => simp [intOf]; omega
    · obtain rfl : n = j := by omega
      have hO2 := hO.out
      have hU2 := hU.out
      rw [show l.take n = l from List.take_of_length_le (by rw [HL.out]; exact Nat.le_refl _)] at hO2 hU2
      obtain ⟨X, k, rfl, hk, rx⟩ := hO2.reads
      obtain ⟨Y, m, rfl, hm, ry⟩ := hU2.reads
      have RX := hid_ rx
      have RY := hid_ ry
      have HK := hid_ (And.intro hk hm)
      have HS : Hid (SumS l.sum 0 (upI l) (loI l)) := hid_ ⟨by have := upI_sum l; omega, by omega, by omega, fun x hx => by
        obtain ⟨h1, h2⟩ := List.mem_filter.1 hx
        exact ⟨by simpa using h2, (HZ.out x h1).2⟩, fun x hx => by
        obtain ⟨h1, h2⟩ := List.mem_filter.1 hx
        exact ⟨by simpa using h2, (HZ.out x h1).1⟩⟩
      obtain ⟨U, hU⟩ : ∃ U, upI l = U := ⟨_, rfl⟩
      obtain ⟨D, hD⟩ : ∃ D, loI l = D := ⟨_, rfl⟩
      rw [hU, hD] at HS
      rw [hU] at RX HK ⊢
      rw [hD] at RY HK ⊢
      clear hO hO2 hU2 hk hm rx ry hNe hjn hU hD hj
      go_wp2_with fail
      go_loop [4, 5, 7, 8, 9, 10, 11] (fun v u s _ _ _ _ => ∃ (X Y : Option Addr) (a b ca cb : Nat) (U D : List Int) (t : Int), v = .slice X a ca ∧ u = .slice Y b cb ∧ s = .int .i64 t ∧ Hid (Row i64T wr X a U ∧ a ≤ ca) ∧ Hid (Row i64T wr Y b D ∧ b ≤ cb) ∧ Hid (SumS l.sum t U D)) (fun v u _ _ _ _ _ => vLn v + vLn u)
      case atStart => exact ⟨X, Y, _, _, k, m, U, D, 0, rfl, rfl, rfl, hid_ ⟨RX.out, HK.out.1⟩, hid_ ⟨RY.out, HK.out.2⟩, HS⟩
      case round =>
        obtain ⟨X, Y, a, b, ca, cb, U, D, t, rfl, rfl, rfl, hX, hY, hS⟩ := hrel
        by_cases ha : 0 < a
        · have ea : (a == 0) = false := by simp; omega
          by_cases hb : 0 < b
          · have eb : (b == 0) = false := by simp; omega
            by_cases ht : t < 0
            · have dt : decide (0 ≤ t) = false := by simp; omega
              have HC : Hid (t < 0 ∨ D = []) := hid_ (.inl ht)
              obtain ⟨x, U', hU⟩ := cons_of hX.out.1.1 ha
              subst hU
              obtain ⟨ad, x', rfl, ho, d0⟩ := hX.out.1.i64 ha
              rw [add_0] at d0
              obtain rfl : x' = x := by simpa using ho.symm
              clear ho
              have HB := hid_ (And.intro (And.intro hS.out.lo hS.out.hi) (And.intro (show -9223372036854775808 ≤ x' by have := (hS.out.up x' (by simp)).1; omega) (hS.out.up x' (by simp)).2))
              obtain ⟨A', hcut, hrow⟩ := i64S.cutFrom (P := Tryz.prog) .i64 (some ad) a ca 1 (by omega) hX.out.2
              simp only [show ((1 : Nat) : Int) = 1 from rfl] at hcut
              have HX1 := hid_ (hrow _ _ hX.out.1)
              clear hrow
              go_wp2_with fail
              refine (addR_any t x' _ HB.out.1 HB.out.2).mono ?_
              rintro e _ ⟨rfl, rfl⟩
              rcases hS.out.takeUp HC.out with ⟨h1, h2⟩ | ⟨h1, h2⟩
              · rw [show addV t x' = t + x' by unfold addV; rw [h1]; rfl, show addE t x' = 0 by unfold addE; rw [h1]; rfl]
                have H2 := hid_ h2
                have hR1 : Hid (Row i64T wr A' (a - 1) U' ∧ a - 1 ≤ ca - 1) := hid_ ⟨HX1.out, by have := hX.out.2; omega⟩
                clear h1 h2 hX hS d0
                go_wp2
                case roundEnd =>
                  go_round
                  case rel => exact ⟨A', Y, a - 1, b, ca - 1, cb, U', D, t + x', rfl, rfl, rfl, hR1, hY, H2⟩
                  case measure => simp [vLn]; omega
              · have HF := hid_ (HR.out.2 (by rw [← Bool.not_eq_true, i64B_iff]; exact fun k => h2 k.2))
                rw [show addV t x' = 0 by unfold addV; rw [h1]; rfl, show addE t x' = 10 by unfold addE; rw [h1]; rfl]
                clear h1 h2 hS d0
                go_wp2
                go_ret2
                exact ⟨by rw [HF.out.1, HF.out.2]; rfl, hB.out⟩
            · have dt : decide (t < 0) = false := by simp; omega
              have dt2 : 0 ≤ t := by omega
              have HC : Hid (0 ≤ t ∨ U = []) := hid_ (.inl dt2)
              obtain ⟨x, D', hD⟩ := cons_of hY.out.1.1 hb
              subst hD
              obtain ⟨ad, x', rfl, ho, d0⟩ := hY.out.1.i64 hb
              rw [add_0] at d0
              obtain rfl : x' = x := by simpa using ho.symm
              clear ho
              have HB := hid_ (And.intro (And.intro hS.out.lo hS.out.hi) (And.intro (hS.out.dn x' (by simp)).2 (show x' ≤ 9223372036854775807 by have := (hS.out.dn x' (by simp)).1; omega)))
              obtain ⟨A', hcut, hrow⟩ := i64S.cutFrom (P := Tryz.prog) .i64 (some ad) b cb 1 (by omega) hY.out.2
              simp only [show ((1 : Nat) : Int) = 1 from rfl] at hcut
              have HX1 := hid_ (hrow _ _ hY.out.1)
              clear hrow
              go_wp2_with fail
              refine (addR_any t x' _ HB.out.1 HB.out.2).mono ?_
              rintro e _ ⟨rfl, rfl⟩
              rcases hS.out.takeDn HC.out with ⟨h1, h2⟩ | ⟨h1, h2⟩
              · rw [show addV t x' = t + x' by unfold addV; rw [h1]; rfl, show addE t x' = 0 by unfold addE; rw [h1]; rfl]
                have H2 := hid_ h2
                have hR1 : Hid (Row i64T wr A' (b - 1) D' ∧ b - 1 ≤ cb - 1) := hid_ ⟨HX1.out, by have := hY.out.2; omega⟩
                clear h1 h2 hY hS d0
                go_wp2
                case roundEnd =>
                  go_round
                  case rel => exact ⟨X, A', a, b - 1, ca, cb - 1, U, D', t + x', rfl, rfl, rfl, hX, hR1, H2⟩
                  case measure => simp [vLn]; omega
              · have HF := hid_ (HR.out.2 (by rw [← Bool.not_eq_true, i64B_iff]; exact fun k => h2 k.1))
                rw [show addV t x' = 0 by unfold addV; rw [h1]; rfl, show addE t x' = 10 by unfold addE; rw [h1]; rfl]
                clear h1 h2 hS d0
                go_wp2
                go_ret2
                exact ⟨by rw [HF.out.1, HF.out.2]; rfl, hB.out⟩
          · obtain rfl : b = 0 := by omega
            by_cases ht : t < 0
            · skip
              have HC : Hid (t < 0 ∨ D = []) := hid_ (.inr (List.eq_nil_of_length_eq_zero hY.out.1.1))
              obtain ⟨x, U', hU⟩ := cons_of hX.out.1.1 ha
              subst hU
              obtain ⟨ad, x', rfl, ho, d0⟩ := hX.out.1.i64 ha
              rw [add_0] at d0
              obtain rfl : x' = x := by simpa using ho.symm
              clear ho
              have HB := hid_ (And.intro (And.intro hS.out.lo hS.out.hi) (And.intro (show -9223372036854775808 ≤ x' by have := (hS.out.up x' (by simp)).1; omega) (hS.out.up x' (by simp)).2))
              obtain ⟨A', hcut, hrow⟩ := i64S.cutFrom (P := Tryz.prog) .i64 (some ad) a ca 1 (by omega) hX.out.2
              simp only [show ((1 : Nat) : Int) = 1 from rfl] at hcut
              have HX1 := hid_ (hrow _ _ hX.out.1)
              clear hrow
              go_wp2_with fail
              refine (addR_any t x' _ HB.out.1 HB.out.2).mono ?_
              rintro e _ ⟨rfl, rfl⟩
              rcases hS.out.takeUp HC.out with ⟨h1, h2⟩ | ⟨h1, h2⟩
              · rw [show addV t x' = t + x' by unfold addV; rw [h1]; rfl, show addE t x' = 0 by unfold addE; rw [h1]; rfl]
                have H2 := hid_ h2
                have hR1 : Hid (Row i64T wr A' (a - 1) U' ∧ a - 1 ≤ ca - 1) := hid_ ⟨HX1.out, by have := hX.out.2; omega⟩
                clear h1 h2 hX hS d0
                go_wp2
                case roundEnd =>
                  go_round
                  case rel => exact ⟨A', Y, a - 1, 0, ca - 1, cb, U', D, t + x', rfl, rfl, rfl, hR1, hY, H2⟩
                  case measure => simp [vLn]; omega
              · have HF := hid_ (HR.out.2 (by rw [← Bool.not_eq_true, i64B_iff]; exact fun k => h2 k.2))
                rw [show addV t x' = 0 by unfold addV; rw [h1]; rfl, show addE t x' = 10 by unfold addE; rw [h1]; rfl]
                clear h1 h2 hS d0
                go_wp2
                go_ret2
                exact ⟨by rw [HF.out.1, HF.out.2]; rfl, hB.out⟩
            · have dt : decide (t < 0) = false := by simp; omega
              have HC : Hid (t < 0 ∨ D = []) := hid_ (.inr (List.eq_nil_of_length_eq_zero hY.out.1.1))
              obtain ⟨x, U', hU⟩ := cons_of hX.out.1.1 ha
              subst hU
              obtain ⟨ad, x', rfl, ho, d0⟩ := hX.out.1.i64 ha
              rw [add_0] at d0
              obtain rfl : x' = x := by simpa using ho.symm
              clear ho
              have HB := hid_ (And.intro (And.intro hS.out.lo hS.out.hi) (And.intro (show -9223372036854775808 ≤ x' by have := (hS.out.up x' (by simp)).1; omega) (hS.out.up x' (by simp)).2))
              obtain ⟨A', hcut, hrow⟩ := i64S.cutFrom (P := Tryz.prog) .i64 (some ad) a ca 1 (by omega) hX.out.2
              simp only [show ((1 : Nat) : Int) = 1 from rfl] at hcut
              have HX1 := hid_ (hrow _ _ hX.out.1)
              clear hrow
              go_wp2_with fail
              refine (addR_any t x' _ HB.out.1 HB.out.2).mono ?_
              rintro e _ ⟨rfl, rfl⟩
              rcases hS.out.takeUp HC.out with ⟨h1, h2⟩ | ⟨h1, h2⟩
              · rw [show addV t x' = t + x' by unfold addV; rw [h1]; rfl, show addE t x' = 0 by unfold addE; rw [h1]; rfl]
                have H2 := hid_ h2
                have hR1 : Hid (Row i64T wr A' (a - 1) U' ∧ a - 1 ≤ ca - 1) := hid_ ⟨HX1.out, by have := hX.out.2; omega⟩
                clear h1 h2 hX hS d0
                go_wp2
                case roundEnd =>
                  go_round
                  case rel => exact ⟨A', Y, a - 1, 0, ca - 1, cb, U', D, t + x', rfl, rfl, rfl, hR1, hY, H2⟩
                  case measure => simp [vLn]; omega
              · have HF := hid_ (HR.out.2 (by rw [← Bool.not_eq_true, i64B_iff]; exact fun k => h2 k.2))
                rw [show addV t x' = 0 by unfold addV; rw [h1]; rfl, show addE t x' = 10 by unfold addE; rw [h1]; rfl]
                clear h1 h2 hS d0
                go_wp2
                go_ret2
                exact ⟨by rw [HF.out.1, HF.out.2]; rfl, hB.out⟩
        · obtain rfl : a = 0 := by omega
          by_cases hb : 0 < b
          · have eb : (b == 0) = false := by simp; omega
            have HC : Hid (0 ≤ t ∨ U = []) := hid_ (.inr (List.eq_nil_of_length_eq_zero hX.out.1.1))
            obtain ⟨x, D', hD⟩ := cons_of hY.out.1.1 hb
            subst hD
            obtain ⟨ad, x', rfl, ho, d0⟩ := hY.out.1.i64 hb
            rw [add_0] at d0
            obtain rfl : x' = x := by simpa using ho.symm
            clear ho
            have HB := hid_ (And.intro (And.intro hS.out.lo hS.out.hi) (And.intro (hS.out.dn x' (by simp)).2 (show x' ≤ 9223372036854775807 by have := (hS.out.dn x' (by simp)).1; omega)))
            obtain ⟨A', hcut, hrow⟩ := i64S.cutFrom (P := Tryz.prog) .i64 (some ad) b cb 1 (by omega) hY.out.2
            simp only [show ((1 : Nat) : Int) = 1 from rfl] at hcut
            have HX1 := hid_ (hrow _ _ hY.out.1)
            clear hrow
            go_wp2_with fail
            refine (addR_any t x' _ HB.out.1 HB.out.2).mono ?_
            rintro e _ ⟨rfl, rfl⟩
            rcases hS.out.takeDn HC.out with ⟨h1, h2⟩ | ⟨h1, h2⟩
            · rw [show addV t x' = t + x' by unfold addV; rw [h1]; rfl, show addE t x' = 0 by unfold addE; rw [h1]; rfl]
              have H2 := hid_ h2
              have hR1 : Hid (Row i64T wr A' (b - 1) D' ∧ b - 1 ≤ cb - 1) := hid_ ⟨HX1.out, by have := hY.out.2; omega⟩
              clear h1 h2 hY hS d0
              go_wp2
              case roundEnd =>
                go_round
                case rel => exact ⟨X, A', 0, b - 1, ca, cb - 1, U, D', t + x', rfl, rfl, rfl, hX, hR1, H2⟩
                case measure => simp [vLn]; omega
            · have HF := hid_ (HR.out.2 (by rw [← Bool.not_eq_true, i64B_iff]; exact fun k => h2 k.1))
              rw [show addV t x' = 0 by unfold addV; rw [h1]; rfl, show addE t x' = 10 by unfold addE; rw [h1]; rfl]
              clear h1 h2 hS d0
              go_wp2
              go_ret2
              exact ⟨by rw [HF.out.1, HF.out.2]; rfl, hB.out⟩
          · obtain rfl : b = 0 := by omega
            have HF : Hid (rv = t ∧ re = 0) := hid_ (by
              have hU : U = [] := List.eq_nil_of_length_eq_zero hX.out.1.1
              have hD : D = [] := List.eq_nil_of_length_eq_zero hY.out.1.1
              have h1 := hS.out.eq
              rw [hU, hD] at h1
              have h1 : t = l.sum := by simpa using h1
              have h2 := hS.out.lo
              have h3 := hS.out.hi
              have := HR.out.1 ((i64B_iff _).2 (by omega))
              rw [h1]
              exact this)
            clear hX hY hS
            go_wp2
            go_ret2
            exact ⟨by rw [HF.out.1, HF.out.2]; rfl, hB.out⟩
end Go.Proofs.YtnpinolhhnpniaaGreat
