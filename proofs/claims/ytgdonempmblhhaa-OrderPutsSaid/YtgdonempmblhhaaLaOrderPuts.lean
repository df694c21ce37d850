/- OrderPuts, walked. -/
import Derived.Test.YtgdonempmblhhaaLaOrderDrops
import Derived.Test.YtgdonempmblhhaaCk
import Derived.Test.YtgdonempmblhhaaOpOrd
set_option linter.unusedSimpArgs false
set_option linter.unusedVariables false
namespace Go.Proofs.Ytgdonempmblhhaa
open Go.RowKit Go.Lib
def inc (a : List Ord) : Prop := a.Pairwise fun x y => x.number < y.number
theorem putI_cons (x : Ord) (r : List Ord) (n : Int) : putI (x :: r) n = if n < x.number then 0 else putI r n + 1 := by
  unfold putI
  rw [List.findIdx?_cons]
  by_cases h : n < x.number
  · simp [h]
  · simp only [h, decide_false, if_false, Bool.false_eq_true]
    cases r.findIdx? (fun x => decide (n < x.number)) <;> simp
theorem putL_nil (o : Ord) : putL [] o = [o] := rfl
theorem putL_lt {x o : Ord} (r : List Ord) (h : o.number < x.number) : putL (x :: r) o = o :: x :: r := by
  unfold putL
  rw [putI_cons, if_pos h]
  rfl
theorem putL_ge {x o : Ord} (r : List Ord) (h : ¬ o.number < x.number) : putL (x :: r) o = x :: putL r o := by
  unfold putL
  rw [putI_cons, if_neg h]
  rfl
theorem inc_putL {o : Ord} : ∀ {l : List Ord}, inc l → (∀ x ∈ l, x.number ≠ o.number) → inc (putL l o)
  | [], _, _ => List.pairwise_singleton _ _
  | x :: r, h, hn => by
    have h1 := List.pairwise_cons.1 h
    by_cases hlt : o.number < x.number
    · rw [putL_lt r hlt]
      refine List.pairwise_cons.2 ⟨fun y hy => ?_, h⟩
      rcases List.mem_cons.1 hy with rfl | hy
      · exact hlt
      · have := h1.1 y hy; omega
    · rw [putL_ge r hlt]
      refine List.pairwise_cons.2 ⟨fun y hy => ?_, inc_putL h1.2 (fun y hy => hn y (List.mem_cons_of_mem _ hy))⟩
      rcases List.mem_cons.1 ((putL_perm r o).mem_iff.1 hy) with rfl | hy
      · have := hn x (List.mem_cons_self ..); omega
      · exact h1.1 y hy
theorem good_puts (l : List Ord) : inc (putsL l) ∧ ∀ x ∈ putsL l, chk x = true ∧ x ∈ l := by
  unfold putsL
  suffices ∀ (r a : List Ord), (∀ x ∈ r, x ∈ l) → (inc a ∧ ∀ x ∈ a, chk x = true ∧ x ∈ l) → (inc (r.foldl putF a) ∧ ∀ x ∈ r.foldl putF a, chk x = true ∧ x ∈ l) from this l [] (fun _ h => h) ⟨List.Pairwise.nil, fun x h => absurd h (by simp)⟩
  intro r
  induction r with
  | nil => intro a _ h; exact h
  | cons o r ih =>
    intro a hr h
    refine ih _ (fun x hx => hr x (List.mem_cons_of_mem _ hx)) ?_
    unfold putF
    split
    · rename_i hk
      refine ⟨inc_putL h.1 (putOk_new hk), fun x hx => ?_⟩
      rcases List.mem_cons.1 ((putL_perm a o).mem_iff.1 hx) with rfl | hx
      · refine ⟨?_, hr x (List.mem_cons_self ..)⟩
        simp only [putOk, Bool.and_eq_true] at hk
        exact hk.1
      · exact h.2 x hx
    · exact h
theorem inc_at {a : List Ord} (h : inc a) {i j : Nat} {x y : Ord} (hi : a[i]? = some x) (hj : a[j]? = some y) (hij : i < j) : x.number < y.number := by
  obtain ⟨a1, b1⟩ := List.getElem?_eq_some_iff.1 hi
  obtain ⟨a2, b2⟩ := List.getElem?_eq_some_iff.1 hj
  have := List.pairwise_iff_getElem.1 h i j a1 a2 hij
  rw [b1, b2] at this
  exact this
theorem put_rev {a : List Ord} (h : inc a) (hc : ∀ x ∈ a, chk x = true) (hl : a.length ≤ 50) {k : Nat} {x : Ord} (hk : a[k]? = some x) : putOk (a.drop (k + 1)) x = true ∧ putL (a.drop (k + 1)) x = a.drop k := by
  obtain ⟨hlt, hg⟩ := List.getElem?_eq_some_iff.1 hk
  have hd : a.drop k = x :: a.drop (k + 1) := by rw [← hg]; exact List.drop_eq_getElem_cons hlt
  have hp : inc (x :: a.drop (k + 1)) := by rw [← hd]; exact List.Pairwise.sublist (List.drop_sublist _ _) h
  have h1 := (List.pairwise_cons.1 hp).1
  constructor
  · unfold putOk
    rw [hc x (List.mem_of_getElem? hk)]
    have h2 : (a.drop (k + 1)).findIdx? (fun y => y.number == x.number) = none := by
      rw [List.findIdx?_eq_none_iff]
      intro y hy
      have := h1 y hy
      simp
      omega
    have h3 : (a.drop (k + 1)).length < 200 := by rw [List.length_drop]; omega
    rw [h2, decide_eq_true h3]
    rfl
  · rw [hd]
    cases hr : a.drop (k + 1) with
    | nil => rfl
    | cons y r =>
      rw [putL_lt r (h1 y (by rw [hr]; exact List.mem_cons_self ..))]
theorem unl_of_inc {a : List Ord} (h : inc a) : unl a := by
  unfold unl List.Nodup
  rw [List.pairwise_map]
  exact List.Pairwise.imp (fun hlt => by omega) h
theorem put_drop {a : List Ord} {o : Ord} (h : inc a) (hk : putOk a o = true) : dropL (putL a o) o.number = a ∧ dropX (putL a o) o.number = o ∧ dropE (putL a o) o.number = 0 ∧ putE (putL a o) o = 130 ∧ (putL a o).length = a.length + 1 := by
  have hi := putI_le a o.number
  have hu : unl (putL a o) := unl_of_inc (inc_putL h (putOk_new hk))
  have hlt : (a.take (putI a o.number)).length = putI a o.number := by rw [List.length_take]; omega
  have hat : (putL a o)[putI a o.number]? = some o := by
    unfold putL
    rw [List.getElem?_append_right (by omega), hlt]
    simp
  obtain ⟨h1, h2, h3⟩ := drop_unl hu hat
  refine ⟨?_, h2, h3, ?_, by rw [(putL_perm a o).length_eq]; rfl⟩
  · rw [h1]
    unfold putL
    rw [List.take_append_of_le_length (by omega), List.take_take, Nat.min_self, List.drop_append]
    rw [List.drop_eq_nil_of_le (by omega), hlt]
    simp
  · refine (put_0 ?_).2
    unfold putOk
    rw [unl_at hu hat]
    simp
theorem put_not {a : List Ord} {o : Ord} (h : inc a) (hc : chk o = true) (hl : a.length ≤ 50) (hk : putOk a o = false) : dropE a o.number = 0 := by
  unfold putOk at hk
  rw [hc, decide_eq_true (show a.length < 200 by omega)] at hk
  unfold dropE
  cases hf : a.findIdx? (fun x => x.number == o.number) with
  | none => rw [hf] at hk; simp at hk
  | some k => rfl
set_option maxRecDepth 10000 in
set_option maxHeartbeats 4000000 in
theorem walkOrderPuts (w : World) (A : Option Addr) (n c : Nat) (l : List Ord) (w1 : n ≤ c ∧ Row ordT w A n l ∧ ∀ x ∈ l, ordWf x) (o : Ord) (wo : ordWf o) : Calls Try.prog 10 #[.slice A n c, .agg (ordC o).toArray] w fun e w' => e = .returned (.bool true) ∧ Bel w w' := by
  obtain ⟨o0, o1, o2, o3, o4, o5⟩ := o
  simp only [ordC]
  obtain ⟨hnc, hA, _⟩ := w1
  have HWO : Hid (o1.size ≤ 9223372036854775807 ∧ o2.size ≤ 9223372036854775807) := hid_ ⟨wo.2.1, wo.2.2.1⟩
  clear wo
  have k0 := Bx.new w 27 [.int .u64 o0, .string o1, .string o2, .bool o3, .int .i64 o4, .int .i64 o5]
  have k0 : Bx (w.alloc (.cells #[.int .u64 o0, .string o1, .string o2, .bool o3, .int .i64 o4, .int .i64 o5] 27)) (w.heap.size) 27 [.int .u64 o0, .string o1, .string o2, .bool o3, .int .i64 o4, .int .i64 o5] := k0
  have kB : Bel w (w.alloc (.cells #[.int .u64 o0, .string o1, .string o2, .bool o3, .int .i64 o4, .int .i64 o5] 27)) := (Bel.refl w).alloc _
  have FO := hid_ k0
  have FB := hid_ kB
  clear k0 kB
  have FA := hid_ (hA.bel FB.out)
  have HLN := hid_ hA.1
  clear hA hnc
  go_enter Try.func10, Try.ntmps10
  go_wp2_with fail
  generalize (w.alloc (.cells #[.int .u64 o0, .string o1, .string o2, .bool o3, .int .i64 o4, .int .i64 o5] 27)) = W0 at FO FB FA ⊢
  obtain ⟨gO, hgO⟩ : ∃ g, w.heap.size = g := ⟨_, rfl⟩
  rw [hgO] at FO
  try rw [hgO]
  clear hgO
  refine (awake13 _).mono ?_
  rintro e v1 ⟨rfl, b⟩
  have bb := b
  have f1O := hid_ (FO.out.bel bb)
  have f1B := hid_ (FB.out.trans bb)
  have f1A := hid_ (FA.out.bel bb)
  clear b bb FO FB FA
  go_wp2_with fail
  refine (few13_any A n c l _ f1A.out).mono ?_
  rintro e v2 ⟨rfl, b⟩
  have bb := b
  have f2O := hid_ (f1O.out.bel bb)
  have f2B := hid_ (f1B.out.trans bb)
  have f2A := hid_ (f1A.out.bel bb)
  clear b bb f1O f1B f1A
  obtain ⟨fo, hfo⟩ : ∃ fo, fewO 210 l = fo := ⟨_, rfl⟩
  rw [hfo]
  have HFO := hid_ hfo
  clear hfo
  cases fo
  · go_wp2
    go_ret
    exact ⟨rfl, f2B.out⟩
  have HSZ : Hid (∀ (o : Ord), o ∈ l → o.who.size ≤ 9223372036854775807 ∧ o.market.size ≤ 9223372036854775807) := hid_ (by intro o h; have := (fewO_iff.1 HFO.out).2 o h; exact ⟨by omega, by omega⟩)
  clear HFO
  by_cases hbig : 50 < n
  · go_wp2
    go_ret
    exact ⟨rfl, f2B.out⟩
  have dbig : decide ((50 : Int) < (n : Int)) = false := by simp; omega
  have dbig2 : decide (50 < n) = false := by simp; omega
  have HN5 := hid_ (show n ≤ 50 by omega)
  clear hbig
  have qO0 := f2O.out.cell 0 rfl
  have qO1 := f2O.out.cell 1 rfl
  have qO2 := f2O.out.cell 2 rfl
  have qO3 := f2O.out.cell 3 rfl
  have qO4 := f2O.out.cell 4 rfl
  have qO5 := f2O.out.cell 5 rfl
  go_wp2_with fail
  refine (orderCheck_big o0 o1 o2 o3 o4 o5 _ HWO.out.1 HWO.out.2).mono ?_
  rintro e v3 ⟨rfl, b⟩
  have bb := b
  have f3O := hid_ (f2O.out.bel bb)
  have f3B := hid_ (f2B.out.trans bb)
  have f3A := hid_ (f2A.out.bel bb)
  clear b bb f2O f2B f2A qO0 qO1 qO2 qO3 qO4 qO5
  clear dbig dbig2
  obtain ⟨cb, hcb⟩ : ∃ cb, chk ⟨o0, o1, o2, o3, o4, o5⟩ = cb := ⟨_, rfl⟩
  cases cb
  · have hE : checkE o1 o2 o4 o5 = 130 := check_no hcb
    rw [hE]
    clear hE
    go_wp2
    go_ret
    exact ⟨rfl, f3B.out⟩
  have hE : checkE o1 o2 o4 o5 = 0 := check_yes hcb
  rw [hE]
  have HC := hid_ hcb
  clear hE hcb
  have qO0 := f3O.out.cell 0 rfl
  have qO1 := f3O.out.cell 1 rfl
  have qO2 := f3O.out.cell 2 rfl
  have qO3 := f3O.out.cell 3 rfl
  have qO4 := f3O.out.cell 4 rfl
  have qO5 := f3O.out.cell 5 rfl
  by_cases h2 : 100 < o1.size
  · have i2 : (100 : Int) < (o1.size : Int) := by omega
    go_wp2
    go_ret
    exact ⟨rfl, f3B.out⟩
  have d2 : decide ((100 : Int) < (o1.size : Int)) = false := by simp; omega
  clear h2
  go_wp2_with fail
  clear d2
  go_loopw [6, 8] (fun v i wr => ∃ (j m ca : Nat) (X : Option Addr), j ≤ n ∧ i = .int .i64 j ∧ v = .slice X m ca ∧ Hid (m ≤ ca) ∧ Hid (Row ordT wr X m (putsL (l.take j))) ∧ Bel v3 wr) (fun _ i _ => n - (intOf i).toNat)
  case atStart => exact ⟨0, 0, 0, none, Nat.zero_le _, rfl, rfl, hid_ (Nat.le_refl _), hid_ (Row.none_ _ _ _), Bel.refl _⟩
  case round =>
    obtain ⟨j, m, ca, X, hj, rfl, rfl, hmc, hrow, hbr⟩ := hrel
    obtain ⟨wo, hwo⟩ : ∃ wo, wo = wr := ⟨_, rfl⟩
    subst hwo
    have BR := hid_ hbr
    by_cases hjn : j < n
    · obtain ⟨ad, p0, p1, p2, p3, p4, p5, rfl, ho, d0, d1, d2, d3, d4, d5⟩ := (f3A.out.bel hbr).ord hjn
      have HST := hid_ (putsL_step ho)
      have SZ := hid_ (HSZ.out _ (List.mem_of_getElem? ho))
      clear ho hbr
      have i0 : (0 : Int) ≤ (j : Int) := by omega
      have i1 : (j : Int) < (n : Int) := by omega
      have hm5 : m ≤ 50 := by have h1 := hrow.out.1; have h2 := puts_len (l.take j); have h3 := List.length_take_le j l; have h4 := HN5.out; omega
      have HM5 := hid_ hm5
      clear hm5
      obtain ⟨a, ha⟩ : ∃ a, putsL (l.take j) = a := ⟨_, rfl⟩
      rw [ha] at hrow HST
      clear ha
      go_wp2_with fail
      refine (put_big X m ca a p0 p1 p2 p3 p4 p5 _ hrow.out hmc.out SZ.out.1 SZ.out.2 (by have := HM5.out; omega)).mono ?_
      rintro e w5 ⟨X5, m5, k5, rfl, r5, hk5, b⟩
      have R5 := hid_ r5
      have K5 := hid_ hk5
      have RA := hid_ (hrow.out.bel b)
      have B5 := hid_ (BR.out.trans b)
      clear r5 hk5 b d0 d1 d2 d3 d4 d5 hrow BR
      have hn50 := HN5.out
      obtain ⟨pk, hpk⟩ : ∃ p, putOk a ⟨p0, p1, p2, p3, p4, p5⟩ = p := ⟨_, rfl⟩
      cases pk
      · have HE := (put_0 hpk).2
        rw [HE]
        have R6 : Hid (Row ordT w5 X m (putsL (l.take (j + 1)))) := hid_ (by rw [HST.out]; unfold putF; rw [hpk]; exact RA.out)
        clear HE hpk HST RA R5
        go_wp2
        case roundEnd =>
          go_roundw
          case rel => exact ⟨j + 1, m, ca, X, by omega, by go_num, rfl, hmc, R6, B5.out⟩
          case measure => simp [intOf]; omega
      · have HE := (put_1 hpk).2
        rw [HE]
        have R6 : Hid (Row ordT w5 X5 m5 (putsL (l.take (j + 1)))) := hid_ (by rw [HST.out]; unfold putF; rw [hpk, if_pos rfl, ← (put_1 hpk).1]; exact R5.out)
        clear HE hpk HST RA R5
        go_wp2
        case roundEnd =>
          go_roundw
          case rel => exact ⟨j + 1, m5, k5, X5, by omega, by go_num, rfl, K5, R6, B5.out⟩
          case measure => simp [intOf]; omega
    · obtain rfl : j = n := by omega
      have hfull : l.take j = l := by rw [← HLN.out, List.take_length]
      rw [hfull] at hrow
      have i1 : ¬ (j : Int) < (j : Int) := by omega
      have hm5 : m ≤ 50 := by have h1 := hrow.out.1; have h2 := puts_len l; have h3 := HLN.out; have h4 := HN5.out; omega
      have HU := hid_ (good_puts l)
      have HB0 := hid_ (f3B.out.trans BR.out)
      have KO := hid_ (f3O.out.bel BR.out)
      obtain ⟨a, ha⟩ : ∃ a, putsL l = a := ⟨_, rfl⟩
      rw [ha] at hrow HU
      have HLA := hid_ hrow.out.1
      clear ha hfull hbr BR f3B f3O
      go_wp2_with fail
      go_loopw [7, 11] (fun v i wq => ∃ (q m2 c2 : Nat) (X2 : Option Addr), q ≤ m ∧ i = .int .i64 q ∧ v = .slice X2 m2 c2 ∧ Hid (m2 ≤ c2) ∧ Hid (Row ordT wq X2 m2 (a.drop (m - q))) ∧ Bel wo wq) (fun _ i _ => m - (intOf i).toNat)
      case atStart => exact ⟨0, 0, 0, none, Nat.zero_le _, rfl, rfl, hid_ (Nat.le_refl _), hid_ (by rw [Nat.sub_zero, List.drop_eq_nil_of_le (Nat.le_of_eq HLA.out)]; exact Row.none_ _ _ _), Bel.refl _⟩
      case round =>
        obtain ⟨q, m2, c2, X2, hq, rfl, rfl, hmc2, hrow2, hbq⟩ := hrel
        have BQ := hid_ hbq
        have RA := hid_ (hrow.out.bel hbq)
        clear hbq
        by_cases hqm : q < m
        · obtain ⟨k, hk⟩ : ∃ k, m - 1 - q = k := ⟨_, rfl⟩
          have hkm : k < m := by omega
          have hk1 : m - q = k + 1 := by omega
          obtain ⟨ad, x0, x1, x2, x3, x4, x5, rfl, hx, d0, d1, d2, d3, d4, d5⟩ := RA.out.ord hkm
          have HPR := hid_ (put_rev HU.out.1 (fun x h => (HU.out.2 x h).1) (by rw [HLA.out]; exact hm5) hx)
          have SZ := hid_ (HSZ.out _ (HU.out.2 _ (List.mem_of_getElem? hx)).2)
          have hs1 : m - (q + 1) = k := by omega
          have HS1 := hid_ hs1
          have H2 : Hid (m2 ≤ 50) := hid_ (by have h1 := hrow2.out.1; rw [List.length_drop, HLA.out] at h1; omega)
          rw [hk1] at hrow2
          have i2 : (q : Int) < (m : Int) := by omega
          have i3 : (0 : Int) ≤ (q : Int) := by omega
          have i4 : (k : Int) < (m : Int) := by omega
          have i5 : (0 : Int) ≤ (k : Int) := by omega
          have hx1 : (m : Int) - 1 - (q : Int) = (k : Int) := by omega
          have hx2 : wrap64 ((m : Int) - 1) = (m : Int) - 1 := by unfold wrap64; omega
          have hx3 : wrap64 ((m : Int) - 1 - (q : Int)) = (k : Int) := by unfold wrap64; omega
          clear hx hk hk1 hs1
          go_wp2_with fail
          refine (put_big X2 m2 c2 (a.drop (k + 1)) x0 x1 x2 x3 x4 x5 _ hrow2.out hmc2.out SZ.out.1 SZ.out.2 (by have := H2.out; omega)).mono ?_
          rintro e w5 ⟨X5, m5, k5, rfl, r5, hk5, b⟩
          rw [(put_1 HPR.out.1).2]
          rw [(put_1 HPR.out.1).1, HPR.out.2] at r5
          have R5 : Hid (Row ordT w5 X5 m5 (a.drop (m - (q + 1)))) := hid_ (by rw [HS1.out]; exact r5)
          have K5 := hid_ hk5
          have RA5 := hid_ (RA.out.bel b)
          have B5 := hid_ (BQ.out.trans b)
          clear b r5 hk5 d0 d1 d2 d3 d4 d5 RA hrow2 hx1 hx2 hx3
          obtain ⟨ad1, y0, y1, y2, y3, y4, y5, e1, hy, f0, f1, f2, f3, f4, f5⟩ := RA5.out.ord hqm
          cases e1
          rcases Nat.eq_zero_or_pos q with hq0 | hq0
          · have j1 : decide ((0 : Int) < (q : Int)) = false := by simp; omega
            have j2 : decide (0 < q) = false := by simp; omega
            clear hq0 hy
            go_upto_region 19 with (fail)
            go_quiet (fail)
            go_wp2
            case roundEnd =>
              go_roundw
              case rel => exact ⟨q + 1, m5, k5, X5, by omega, by go_num, rfl, K5, hid_ (R5.out.bel ((Bel.refl _).drewN _)), B5.out.drewN _⟩
              case measure => simp [intOf]; omega
          · obtain ⟨r, hr⟩ : ∃ r, q = r + 1 := ⟨q - 1, by omega⟩
            obtain ⟨ad2, z0, z1, z2, z3, z4, z5, e2, hz, g0, g1, g2, g3, g4, g5⟩ := RA5.out.ord (show r < m by omega)
            cases e2
            have hlt := inc_at HU.out.1 hz hy (by omega)
            simp only at hlt
            have s1 : ¬ y0 ≤ z0 := by omega
            have s2 : decide (y0 ≤ z0) = false := decide_eq_false s1
            have j1 : (0 : Int) < (q : Int) := by omega
            have j2 : decide (0 < q) = true := by simp; omega
            have j3 : (r : Int) < (m : Int) := by omega
            have j4 : (0 : Int) ≤ (r : Int) := by omega
            have j5 : wrap64 ((q : Int) - 1) = (r : Int) := by unfold wrap64; omega
            have j6 : IntKind.i64.wrap ((q : Int) - 1) = (r : Int) := by rw [IntWalk.i64_left]; exact j5
            clear hz hy hlt hr hq0
            go_upto_region 19 with (fail)
            go_quiet (fail)
            go_wp2
            case roundEnd =>
              go_roundw
              case rel => exact ⟨q + 1, m5, k5, X5, by omega, by go_num, rfl, K5, hid_ (R5.out.bel ((Bel.refl _).drewN _)), B5.out.drewN _⟩
              case measure => simp [intOf]; omega
        · obtain rfl : q = m := by omega
          rw [Nat.sub_self, List.drop_zero] at hrow2
          have i2 : ¬ (q : Int) < (q : Int) := by omega
          have hm2 : m2 = q := by have h1 := hrow2.out.1; have h2 := HLA.out; omega
          subst hm2
          have GB := hid_ (HB0.out.trans BQ.out)
          have GO := hid_ (KO.out.bel BQ.out)
          have HPN := hid_ (fun h => put_not HU.out.1 HC.out (by rw [HLA.out]; exact hm5) h)
          have HPD := hid_ (fun h => put_drop (o := ⟨o0, o1, o2, o3, o4, o5⟩) HU.out.1 h)
          have HM5 := hid_ hm5
          clear hq hqm hj hjn BQ KO HB0 hrow HU HSZ hm5
          go_wp2_with fail
          refine (sameOrd_any X m2 ca a X2 m2 c2 a _ RA.out hrow2.out).mono ?_
          rintro e v11 ⟨rfl, b⟩
          have bb := b
          rw [eqB_1 rfl]
          have f11B := hid_ (GB.out.trans bb)
          have f11O := hid_ (GO.out.bel bb)
          have f11A := hid_ (RA.out.bel bb)
          have f11R := hid_ (hrow2.out.bel bb)
          clear b bb GB GO RA hrow2
          have qO0 := f11O.out.cell 0 rfl
          have qO1 := f11O.out.cell 1 rfl
          have qO2 := f11O.out.cell 2 rfl
          have qO3 := f11O.out.cell 3 rfl
          have qO4 := f11O.out.cell 4 rfl
          have qO5 := f11O.out.cell 5 rfl
          go_wp2_with fail
          refine (put_big X m2 ca a o0 o1 o2 o3 o4 o5 _ f11A.out hmc.out HWO.out.1 HWO.out.2 (by have := HM5.out; omega)).mono ?_
          rintro e v12 ⟨X3, m3, k3, rfl, r3, hk3, b⟩
          have bb := b
          have K3 := hid_ hk3
          clear hk3
          have f12B := hid_ (f11B.out.trans bb)
          have f12O := hid_ (f11O.out.bel bb)
          have f12A := hid_ (f11A.out.bel bb)
          have f12R := hid_ (f11R.out.bel bb)
          have f12P := hid_ r3
          clear b bb f11B f11O f11A f11R qO0 qO1 qO2 qO3 qO4 qO5 r3
          obtain ⟨pk, hpk⟩ : ∃ p, putOk a ⟨o0, o1, o2, o3, o4, o5⟩ = p := ⟨_, rfl⟩
          cases pk
          · have HE := (put_0 hpk).2
            rw [HE]
            have HD := hid_ (HPN.out hpk)
            clear HE hpk HPN HPD
            have qO0 := f12O.out.cell 0 rfl
            have qO1 := f12O.out.cell 1 rfl
            have qO2 := f12O.out.cell 2 rfl
            have qO3 := f12O.out.cell 3 rfl
            have qO4 := f12O.out.cell 4 rfl
            have qO5 := f12O.out.cell 5 rfl
            go_wp2_with fail
            refine (drop_any X m2 ca a o0 _ f12A.out hmc.out (by have := HM5.out; omega)).mono ?_
            rintro e v13 ⟨X4, m4, k4, rfl, _, _, b⟩
            have bb := b
            rw [show dropE a o0 = 0 from HD.out]
            simp only [ordC]
            have f13B := hid_ (f12B.out.trans bb)
            have f13O := hid_ (f12O.out.bel bb)
            have f13A := hid_ (f12A.out.bel bb)
            have f13R := hid_ (f12R.out.bel bb)
            have f13P := hid_ (f12P.out.bel bb)
            clear b bb f12B f12O f12A f12R f12P qO0 qO1 qO2 qO3 qO4 qO5
            go_wp2
            first | go_ret2 | go_ret
            exact ⟨rfl, by first | exact f13B.out | exact f13B.out.alloc _ | exact (f13B.out.alloc _).drewN _⟩
          · have HE := (put_1 hpk).2
            rw [HE]
            have HD := hid_ (HPD.out hpk)
            have r9 := f12P.out
            rw [(put_1 hpk).1] at r9
            have R9 := hid_ r9
            clear r9 f12P HE hpk HPN HPD
            have hm3 : m3 ≤ 51 := by have h1 := R9.out.1; have h2 := HD.out.2.2.2.2; have h3 := HLA.out; have h4 := HM5.out; omega
            have HM3 := hid_ hm3
            clear hm3
            have qO0 := f12O.out.cell 0 rfl
            have qO1 := f12O.out.cell 1 rfl
            have qO2 := f12O.out.cell 2 rfl
            have qO3 := f12O.out.cell 3 rfl
            have qO4 := f12O.out.cell 4 rfl
            have qO5 := f12O.out.cell 5 rfl
            go_wp2_with fail
            refine (drop_any X3 m3 k3 (putL a ⟨o0, o1, o2, o3, o4, o5⟩) o0 _ R9.out K3.out (by have := HM3.out; omega)).mono ?_
            rintro e v13 ⟨X4, m4, k4, rfl, r4, _, b⟩
            have bb := b
            rw [show dropE (putL a ⟨o0, o1, o2, o3, o4, o5⟩) o0 = 0 from HD.out.2.2.1, show dropX (putL a ⟨o0, o1, o2, o3, o4, o5⟩) o0 = ⟨o0, o1, o2, o3, o4, o5⟩ from HD.out.2.1]
            rw [show dropL (putL a ⟨o0, o1, o2, o3, o4, o5⟩) o0 = a from HD.out.1] at r4
            simp only [ordC]
            have f13B := hid_ (f12B.out.trans bb)
            have f13O := hid_ (f12O.out.bel bb)
            have f13A := hid_ (f12A.out.bel bb)
            have f13R := hid_ (f12R.out.bel bb)
            have f13P := hid_ (R9.out.bel bb)
            have f13D := hid_ r4
            clear b bb f12B f12O f12A f12R R9 qO0 qO1 qO2 qO3 qO4 qO5 r4
            have kx := Bx.new v13 27 [.int .u64 o0, .string o1, .string o2, .bool o3, .int .i64 o4, .int .i64 o5]
            go_wp2_with fail
            refine (sameOrd_any X4 m4 k4 a X m2 ca a _ (f13D.out.bel ((Bel.refl v13).alloc _)) (f13A.out.bel ((Bel.refl v13).alloc _))).mono ?_
            rintro e v14 ⟨rfl, b⟩
            have bb := ((Bel.refl v13).alloc _).trans b
            rw [eqB_1 rfl]
            have kx := kx.bel b
            have f14B := hid_ (f13B.out.trans bb)
            have f14O := hid_ (f13O.out.bel bb)
            have f14A := hid_ (f13A.out.bel bb)
            have f14R := hid_ (f13R.out.bel bb)
            have f14P := hid_ (f13P.out.bel bb)
            have f14D := hid_ (f13D.out.bel bb)
            have f14Z := hid_ kx
            clear b bb f13B f13O f13A f13R f13P f13D kx
            have qO0 := f14O.out.cell 0 rfl
            have qO1 := f14O.out.cell 1 rfl
            have qO2 := f14O.out.cell 2 rfl
            have qO3 := f14O.out.cell 3 rfl
            have qO4 := f14O.out.cell 4 rfl
            have qO5 := f14O.out.cell 5 rfl
            go_wp2_with fail
            refine (put_big X3 m3 k3 (putL a ⟨o0, o1, o2, o3, o4, o5⟩) o0 o1 o2 o3 o4 o5 _ f14P.out K3.out HWO.out.1 HWO.out.2 (by have := HM3.out; omega)).mono ?_
            rintro e v15 ⟨X6, m6, k6, rfl, _, _, b⟩
            have bb := b
            rw [HD.out.2.2.2.1]
            have f15B := hid_ (f14B.out.trans bb)
            have f15O := hid_ (f14O.out.bel bb)
            have f15A := hid_ (f14A.out.bel bb)
            have f15R := hid_ (f14R.out.bel bb)
            have f15P := hid_ (f14P.out.bel bb)
            have f15D := hid_ (f14D.out.bel bb)
            have f15Z := hid_ (f14Z.out.bel bb)
            clear b bb f14B f14O f14A f14R f14P f14D f14Z qO0 qO1 qO2 qO3 qO4 qO5
            have qO0 := f15O.out.cell 0 rfl
            have qO1 := f15O.out.cell 1 rfl
            have qO2 := f15O.out.cell 2 rfl
            have qO3 := f15O.out.cell 3 rfl
            have qO4 := f15O.out.cell 4 rfl
            have qO5 := f15O.out.cell 5 rfl
            have qZ0 := f15Z.out.cell 0 rfl
            have qZ1 := f15Z.out.cell 1 rfl
            have qZ2 := f15Z.out.cell 2 rfl
            have qZ3 := f15Z.out.cell 3 rfl
            have qZ4 := f15Z.out.cell 4 rfl
            have qZ5 := f15Z.out.cell 5 rfl
            have E1 := eqlOrd o0 o1 o2 o3 o4 o5 o0 o1 o2 o3 o4 o5
            rw [ordEq_iff _ _ |>.2 rfl] at E1
            go_wp2
            first | go_ret2 | go_ret
            exact ⟨rfl, f15B.out⟩
end Go.Proofs.Ytgdonempmblhhaa
