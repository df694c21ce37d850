/- OrderSides, walked. -/
import Derived.Test.YtgdonempmblhhaaOd12
import Derived.Test.YtgdonempmblhhaaOpOrd
set_option linter.unusedSimpArgs false
set_option linter.unusedVariables false
namespace Go.Proofs.Ytgdonempmblhhaa
open Go.RowKit Go.Lib
def cntM (l : List Ord) (mk : ByteArray) : Nat := (l.filter fun o => decide (o.market = mk)).length
theorem cntM_step {l : List Ord} {mk : ByteArray} {j : Nat} {o : Ord} (h : l[j]? = some o) : cntM (l.take (j + 1)) mk = cntM (l.take j) mk + (if o.market = mk then 1 else 0) := by
  unfold cntM
  rw [List.take_add_one, h, List.filter_append, List.length_append]
  congr 1
  by_cases e : o.market = mk <;> simp [e]
theorem cntM_le (l : List Ord) (mk : ByteArray) : cntM l mk ≤ l.length := List.length_filter_le _ _
theorem sides_len (l : List Ord) (mk : ByteArray) : (buysL l mk).length + (sellsL l mk).length = cntM l mk := by
  unfold buysL sellsL cntM
  rw [(st_perm ltB _).length_eq, (st_perm ltS _).length_eq]
  induction l with
  | nil => rfl
  | cons o l ih =>
    simp only [List.filter_cons, pick]
    obtain ⟨a, b, c, d, f, g⟩ := o
    cases d <;> by_cases e : c = mk <;> simp [e] <;> omega
theorem buys_at {l : List Ord} {mk : ByteArray} {j : Nat} {o : Ord} (h : (buysL l mk)[j]? = some o) : o.buy = true ∧ o.market = mk := by
  have h1 := (st_perm ltB _).mem_iff.1 (List.mem_of_getElem? h)
  have h2 := (List.mem_filter.1 h1).2
  simp [pick] at h2
  exact ⟨h2.2, h2.1⟩
theorem sells_at {l : List Ord} {mk : ByteArray} {j : Nat} {o : Ord} (h : (sellsL l mk)[j]? = some o) : o.buy = false ∧ o.market = mk := by
  have h1 := (st_perm ltS _).mem_iff.1 (List.mem_of_getElem? h)
  have h2 := (List.mem_filter.1 h1).2
  simp [pick] at h2
  exact ⟨h2.2, h2.1⟩
theorem asc_at {lt : Ord → Ord → Bool} {l : List Ord} (h : Asc lt l) {k : Nat} {p o : Ord} (h1 : l[k]? = some p) (h2 : l[k + 1]? = some o) : lt o p = false := by
  obtain ⟨a1, b1⟩ := List.getElem?_eq_some_iff.1 h1
  obtain ⟨a2, b2⟩ := List.getElem?_eq_some_iff.1 h2
  have := List.pairwise_iff_getElem.1 h k (k + 1) a1 a2 (by omega)
  rw [b1, b2] at this
  exact this
theorem buys_asc {l : List Ord} {mk : ByteArray} {k : Nat} {p o : Ord} (h1 : (buysL l mk)[k]? = some p) (h2 : (buysL l mk)[k + 1]? = some o) : ¬ p.price < o.price ∧ ¬ (o.price = p.price ∧ o.number < p.number) := by
  have h := asc_at (asc_st swoB _) h1 h2
  simp [ltB] at h
  exact ⟨by omega, fun e => by have := h.2 e.1; omega⟩
theorem sells_asc {l : List Ord} {mk : ByteArray} {k : Nat} {p o : Ord} (h1 : (sellsL l mk)[k]? = some p) (h2 : (sellsL l mk)[k + 1]? = some o) : ¬ o.price < p.price ∧ ¬ (o.price = p.price ∧ o.number < p.number) := by
  have h := asc_at (asc_st swoS _) h1 h2
  simp [ltS] at h
  exact ⟨by omega, fun e => by have := h.2 e.1; omega⟩
set_option maxRecDepth 10000 in
set_option maxHeartbeats 4000000 in
theorem walkOrderSides (w : World) (A : Option Addr) (n c : Nat) (l : List Ord) (w1 : n ≤ c ∧ Row ordT w A n l ∧ ∀ x ∈ l, ordWf x) (mk : ByteArray) (wm : mk.size ≤ maxLen) : Calls Try.prog 11 #[.slice A n c, .string mk] w fun e w' => e = .returned (.bool true) ∧ Bel w w' := by
  obtain ⟨_, hA, _⟩ := w1
  have FA := hid_ hA
  have HLN := hid_ hA.1
  have HNB := hid_ hA.2.1
  clear hA
  have FB := hid_ (Bel.refl w)
  go_enter Try.func11, Try.ntmps11
  go_wp2_with fail
  refine (awake13 _).mono ?_
  rintro e v1 ⟨rfl, b⟩
  have bb := b
  have f1A := hid_ (FA.out.bel bb)
  have f1B := hid_ (FB.out.trans bb)
  clear b bb FA FB
  go_wp2_with fail
  refine (few13_any A n c l _ f1A.out).mono ?_
  rintro e v2 ⟨rfl, b⟩
  have bb := b
  have f2A := hid_ (f1A.out.bel bb)
  have f2B := hid_ (f1B.out.trans bb)
  clear b bb f1A f1B
  obtain ⟨fo, hfo⟩ : ∃ fo, fewO 210 l = fo := ⟨_, rfl⟩
  rw [hfo]
  have HFO := hid_ hfo
  clear hfo
  cases fo
  · go_wp2
    go_ret
    exact ⟨rfl, f2B.out⟩
  have HN : Hid (n ≤ 210) := hid_ (by have := (fewO_iff.1 HFO.out).1; rw [HLN.out] at this; exact this)
  clear HFO
  by_cases h3 : 100 < mk.size
  · have i2 : (100 : Int) < (mk.size : Int) := by omega
    go_wp2
    go_ret
    exact ⟨rfl, f2B.out⟩
  have d3 : decide ((100 : Int) < (mk.size : Int)) = false := by simp; omega
  clear h3
  go_wp2_with fail
  refine (sides_any A n c l mk _ f2A.out (by have := HN.out; omega)).mono ?_
  rintro e v3 ⟨t1, t2, rfl, o1, o2, b⟩
  have bb := b
  obtain ⟨X, cx, rfl, _, rx⟩ := o1.reads
  obtain ⟨Y, cy, rfl, _, ry⟩ := o2.reads
  clear o1 o2 d3
  have f3A := hid_ (f2A.out.bel bb)
  have f3B := hid_ (f2B.out.trans bb)
  have f3X := hid_ rx
  have f3Y := hid_ ry
  clear b bb f2A f2B rx ry
  obtain ⟨nx, hnx⟩ : ∃ nx, (buysL l mk).length = nx := ⟨_, rfl⟩
  rw [hnx]
  have HX := hid_ hnx
  clear hnx
  rw [HX.out] at f3X
  obtain ⟨ny, hny⟩ : ∃ ny, (sellsL l mk).length = ny := ⟨_, rfl⟩
  rw [hny]
  have HY := hid_ hny
  clear hny
  rw [HY.out] at f3Y

  have HXN := hid_ f3X.out.2.1
  have HYN := hid_ f3Y.out.2.1
  have hcl := cntM_le l mk
  rw [HLN.out] at hcl
  have HCL := hid_ hcl
  clear hcl
  have HSM : Hid (nx + ny = cntM l mk) := hid_ (by rw [← HX.out, ← HY.out]; exact sides_len l mk)
  have HCC : Hid (nx + ny ≤ 210) := hid_ (by have := HSM.out; have := HCL.out; have := HN.out; omega)
  have H0 := hid_ (f3B.out)
  go_wp2_with fail
  go_loop [8, 9] (fun g i => ∃ j : Nat, j ≤ n ∧ i = .int .i64 j ∧ g = .int .i64 (cntM (l.take j) mk : Nat)) (fun _ i => n - (intOf i).toNat)
  case atStart => exact ⟨0, Nat.zero_le _, rfl, rfl⟩
  case round =>
    obtain ⟨j, hj, rfl, rfl⟩ := hrel
    by_cases hjn : j < n
    · obtain ⟨ad, o0, o1, o2, o3, o4, o5, e_ad, hoo, co0, co1, co2, co3, co4, co5⟩ := (f3A.out).ord (k := j) hjn
      subst e_ad
      have HST := hid_ (cntM_step (mk := mk) hoo)
      clear hoo
      have i0 : (0 : Int) ≤ (j : Int) := by omega
      have i1 : (j : Int) < (n : Int) := by omega
      have hcw : wrap64 ((cntM (l.take j) mk : Nat) + 1) = ((cntM (l.take j) mk + 1 : Nat) : Int) := by have h1 := cntM_le (l.take j) mk; have h2 := List.length_take_le j l; have h3 := HN.out; unfold wrap64; omega
      obtain ⟨qc, hqc⟩ : ∃ q, cntM (l.take j) mk = q := ⟨_, rfl⟩
      rw [hqc] at hcw HST
      rw [hqc]
      clear hqc
      obtain ⟨qd, hqd⟩ : ∃ q, decide (o2 = mk) = q := ⟨_, rfl⟩
      have e1 := bytesEq o2 mk
      rw [hqd] at e1
      have hn2 := HN.out
      cases qd
      case true =>
        have HS2 : Hid (cntM (l.take (j + 1)) mk = qc + 1) := hid_ (by rw [HST.out, if_pos (of_decide_eq_true hqd)])
        clear HST
        go_wp2
        case roundEnd =>
          go_round
          case rel => exact ⟨j + 1, by omega, by go_num, by rw [HS2.out, hcw]⟩
          case measure => simp [intOf]; omega
      case false =>
        have HS2 : Hid (cntM (l.take (j + 1)) mk = qc) := hid_ (by rw [HST.out, if_neg (of_decide_eq_false hqd)]; rfl)
        clear HST
        go_wp2
        case roundEnd =>
          go_round
          case rel => exact ⟨j + 1, by omega, by go_num, by rw [HS2.out]⟩
          case measure => simp [intOf]; omega
    · obtain rfl : j = n := by omega
      have hfull : l.take j = l := by rw [← HLN.out, List.take_length]
      rw [hfull]
      rw [← HSM.out]
      clear hfull hjn hj HSM HLN HN HNB HCL f3A H0
      go_wp2_with fail
      go_loopw [10] (fun i wr => ∃ k : Nat, k ≤ nx ∧ i = .int .i64 k ∧ Bel v3 wr) (fun i _ => nx - (intOf i).toNat)
      case atStart => exact ⟨0, Nat.zero_le _, rfl, Bel.refl _⟩
      case round =>
        obtain ⟨k, hk, rfl, hbr⟩ := hrel
        have BR := hid_ hbr
        have RX := hid_ (f3X.out.bel hbr)
        clear hbr
        by_cases hkn : k < nx
        · obtain ⟨ad, o0, o1, o2, o3, o4, o5, e_ad, hoo, co0, co1, co2, co3, co4, co5⟩ := (RX.out).ord (k := k) hkn
          obtain ⟨hb_, hm_⟩ := buys_at hoo
          simp only at hb_ hm_
          subst hb_ hm_ e_ad
          have i0 : (0 : Int) ≤ (k : Int) := by omega
          have i1 : (k : Int) < (nx : Int) := by omega
          rcases Nat.eq_zero_or_pos k with hk0 | hk0
          · have i5 : decide ((0 : Int) < (k : Int)) = false := by simp; omega
            have i6 : decide (0 < k) = false := by simp; omega
            clear hoo hk0
            go_upto_region 14 with (fail)
            go_quiet (fail)
            have hxn := HXN.out
            go_wp2
            case roundEnd =>
              go_roundw
              case rel => exact ⟨k + 1, by omega, by go_num, BR.out.drewN _⟩
              case measure => simp [intOf]; omega
          · obtain ⟨p, hp⟩ : ∃ p, k = p + 1 := ⟨k - 1, by omega⟩
            obtain ⟨ad2, y0, y1, y2, y3, y4, y5, e_ad2, hoy, cy0, cy1, cy2, cy3, cy4, cy5⟩ := (RX.out).ord (k := p) (by omega)
            have HAS := hid_ (buys_asc hoy (by rw [← hp]; exact hoo))
            cases e_ad2
            have hw : wrap64 ((k : Int) - 1) = (p : Int) := by have := HXN.out; unfold wrap64; omega
            have i2 : (0 : Int) < (k : Int) := by omega
            have i7 : decide (0 < k) = true := by simp; omega
            have i3 : (p : Int) < (nx : Int) := by omega
            have i4 : (0 : Int) ≤ (p : Int) := by omega
            have s1 := HAS.out.1
            have s2 : decide (y4 < o4) = false := decide_eq_false s1
            clear hoo hoy hp hk0
            by_cases s3 : o4 = y4
            · subst s3
              have s4 : ¬ o0 < y0 := fun h => HAS.out.2 ⟨rfl, h⟩
              have s5 : decide (o0 < y0) = false := decide_eq_false s4
              go_upto_region 14 with (fail)
              go_quiet (fail)
              have hxn := HXN.out
              go_wp2
              case roundEnd =>
                go_roundw
                case rel => exact ⟨k + 1, by omega, by go_num, BR.out.drewN _⟩
                case measure => simp [intOf]; omega
            · have s6 : (o4 == y4) = false := by simpa using s3
              have s7 : decide (o4 = y4) = false := decide_eq_false s3
              go_upto_region 14 with (fail)
              go_quiet (fail)
              have hxn := HXN.out
              go_wp2
              case roundEnd =>
                go_roundw
                case rel => exact ⟨k + 1, by omega, by go_num, BR.out.drewN _⟩
                case measure => simp [intOf]; omega
        · obtain rfl : nx = k := by omega
          have B1 := hid_ BR.out
          clear RX BR hkn hk
          go_wp2_with fail
          go_loopw [11] (fun i wr => ∃ k : Nat, k ≤ ny ∧ i = .int .i64 k ∧ Bel v3 wr) (fun i _ => ny - (intOf i).toNat)
          case atStart => exact ⟨0, Nat.zero_le _, rfl, B1.out⟩
          case round =>
            obtain ⟨k, hk, rfl, hbr⟩ := hrel
            have BR := hid_ hbr
            have RX := hid_ (f3Y.out.bel hbr)
            clear hbr
            by_cases hkn : k < ny
            · obtain ⟨ad, o0, o1, o2, o3, o4, o5, e_ad, hoo, co0, co1, co2, co3, co4, co5⟩ := (RX.out).ord (k := k) hkn
              obtain ⟨hb_, hm_⟩ := sells_at hoo
              simp only at hb_ hm_
              subst hb_ hm_ e_ad
              have i0 : (0 : Int) ≤ (k : Int) := by omega
              have i1 : (k : Int) < (ny : Int) := by omega
              rcases Nat.eq_zero_or_pos k with hk0 | hk0
              · have i5 : decide ((0 : Int) < (k : Int)) = false := by simp; omega
                have i6 : decide (0 < k) = false := by simp; omega
                clear hoo hk0
                go_upto_region 19 with (fail)
                go_quiet (fail)
                have hxn := HYN.out
                go_wp2
                case roundEnd =>
                  go_roundw
                  case rel => exact ⟨k + 1, by omega, by go_num, BR.out.drewN _⟩
                  case measure => simp [intOf]; omega
              · obtain ⟨p, hp⟩ : ∃ p, k = p + 1 := ⟨k - 1, by omega⟩
                obtain ⟨ad2, y0, y1, y2, y3, y4, y5, e_ad2, hoy, cy0, cy1, cy2, cy3, cy4, cy5⟩ := (RX.out).ord (k := p) (by omega)
                have HAS := hid_ (sells_asc hoy (by rw [← hp]; exact hoo))
                cases e_ad2
                have hw : wrap64 ((k : Int) - 1) = (p : Int) := by have := HYN.out; unfold wrap64; omega
                have i2 : (0 : Int) < (k : Int) := by omega
                have i7 : decide (0 < k) = true := by simp; omega
                have i3 : (p : Int) < (ny : Int) := by omega
                have i4 : (0 : Int) ≤ (p : Int) := by omega
                have s1 := HAS.out.1
                have s2 : decide (o4 < y4) = false := decide_eq_false s1
                clear hoo hoy hp hk0
                by_cases s3 : o4 = y4
                · subst s3
                  have s4 : ¬ o0 < y0 := fun h => HAS.out.2 ⟨rfl, h⟩
                  have s5 : decide (o0 < y0) = false := decide_eq_false s4
                  go_upto_region 19 with (fail)
                  go_quiet (fail)
                  have hxn := HYN.out
                  go_wp2
                  case roundEnd =>
                    go_roundw
                    case rel => exact ⟨k + 1, by omega, by go_num, BR.out.drewN _⟩
                    case measure => simp [intOf]; omega
                · have s6 : (o4 == y4) = false := by simpa using s3
                  have s7 : decide (o4 = y4) = false := decide_eq_false s3
                  go_upto_region 19 with (fail)
                  go_quiet (fail)
                  have hxn := HYN.out
                  go_wp2
                  case roundEnd =>
                    go_roundw
                    case rel => exact ⟨k + 1, by omega, by go_num, BR.out.drewN _⟩
                    case measure => simp [intOf]; omega
            · obtain rfl : ny = k := by omega
              have hw9 : wrap64 ((nx : Int) + (ny : Int)) = (nx : Int) + (ny : Int) := by have h1 := HCC.out; unfold wrap64; omega
              clear RX hkn hk
              go_wp2
              first | go_ret2 | go_ret
              exact ⟨rfl, f3B.out.trans BR.out⟩
end Go.Proofs.Ytgdonempmblhhaa
