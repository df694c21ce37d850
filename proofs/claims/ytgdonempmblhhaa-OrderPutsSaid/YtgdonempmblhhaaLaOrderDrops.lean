/- OrderDrops, walked. -/
import Derived.Test.YtgdonempmblhhaaOd12
import Derived.Test.YtgdonempmblhhaaOpOrd
set_option linter.unusedSimpArgs false
set_option linter.unusedVariables false
namespace Go.Proofs.Ytgdonempmblhhaa
open Go.RowKit Go.Lib
/-- An order put among others if it may be. -/
def putF (a : List Ord) (o : Ord) : List Ord := if putOk a o then putL a o else a
def putsL (l : List Ord) : List Ord := l.foldl putF []
theorem putsL_step {l : List Ord} {j : Nat} {o : Ord} (h : l[j]? = some o) : putsL (l.take (j + 1)) = putF (putsL (l.take j)) o := by
  unfold putsL
  rw [List.take_add_one, h, List.foldl_append]
  rfl
def unl (l : List Ord) : Prop := (l.map (·.number)).Nodup
theorem putL_perm (l : List Ord) (o : Ord) : (putL l o).Perm (o :: l) := by
  unfold putL
  have := List.perm_middle (a := o) (l₁ := l.take (putI l o.number)) (l₂ := l.drop (putI l o.number))
  rw [List.take_append_drop] at this
  exact this
theorem putOk_new {l : List Ord} {o : Ord} (h : putOk l o = true) : ∀ x ∈ l, x.number ≠ o.number := by
  simp only [putOk, Bool.and_eq_true, Bool.not_eq_true', Option.isSome_eq_false_iff, Option.isNone_iff_eq_none] at h
  intro x hx
  simpa using List.findIdx?_eq_none_iff.1 h.2.2 x hx
theorem unl_putF {l : List Ord} {o : Ord} (h : unl l) : unl (putF l o) := by
  unfold putF
  split
  · rename_i hk
    unfold unl
    rw [((putL_perm l o).map _).nodup_iff]
    rw [List.map_cons, List.nodup_cons]
    refine ⟨fun hm => ?_, h⟩
    obtain ⟨x, hx, e⟩ := List.mem_map.1 hm
    exact putOk_new hk x hx e
  · exact h
theorem unl_puts (l : List Ord) : unl (putsL l) := by
  unfold putsL
  suffices ∀ (l a : List Ord), unl a → unl (l.foldl putF a) from this l [] List.nodup_nil
  intro l
  induction l with
  | nil => intro a h; exact h
  | cons o l ih => intro a h; exact ih _ (unl_putF h)
theorem putF_len (l : List Ord) (o : Ord) : (putF l o).length ≤ l.length + 1 := by
  unfold putF
  split
  · rw [(putL_perm l o).length_eq]; simp
  · omega
theorem puts_len (l : List Ord) : (putsL l).length ≤ l.length := by
  unfold putsL
  suffices ∀ (l a : List Ord), (l.foldl putF a).length ≤ a.length + l.length from by simpa using this l []
  intro l
  induction l with
  | nil => intro a; simp
  | cons o l ih => intro a; have h1 := ih (putF a o); have h2 := putF_len a o; simp only [List.foldl_cons, List.length_cons]; omega
/-- The place of a number among unlike ones. -/
theorem unl_at {l : List Ord} (h : unl l) {k : Nat} {o : Ord} (hk : l[k]? = some o) : l.findIdx? (fun x => x.number == o.number) = some k := by
  obtain ⟨hlt, hg⟩ := List.getElem?_eq_some_iff.1 hk
  rw [List.findIdx?_eq_some_iff_getElem]
  refine ⟨hlt, by simp [hg], fun j hj => ?_⟩
  have hn := List.pairwise_iff_getElem.1 h j k (by simp; omega) (by simp; omega) hj
  simp only [List.getElem_map, hg] at hn
  simpa using hn
theorem drop_unl {l : List Ord} (h : unl l) {k : Nat} {o : Ord} (hk : l[k]? = some o) : dropL l o.number = l.take k ++ l.drop (k + 1) ∧ dropX l o.number = o ∧ dropE l o.number = 0 := by
  unfold dropL dropX dropE
  rw [unl_at h hk]
  simp [hk]
theorem drop_len {l : List Ord} {k : Nat} (hk : k < l.length) : (l.take k ++ l.drop (k + 1)).length = l.length - 1 := by
  simp
  omega
theorem drop_perm {l : List Ord} {k : Nat} {o : Ord} (hk : l[k]? = some o) : l.Perm (o :: (l.take k ++ l.drop (k + 1))) := by
  obtain ⟨hlt, hg⟩ := List.getElem?_eq_some_iff.1 hk
  have h1 : l = l.take k ++ (o :: l.drop (k + 1)) := by
    rw [← hg, ← List.drop_eq_getElem_cons hlt, List.take_append_drop]
  have h2 := List.perm_middle (a := o) (l₁ := l.take k) (l₂ := l.drop (k + 1))
  rw [← h1] at h2
  exact h2
theorem drop_left {l : List Ord} (h : unl l) {k : Nat} {o : Ord} (hk : l[k]? = some o) : unl (l.take k ++ l.drop (k + 1)) ∧ dropE (l.take k ++ l.drop (k + 1)) o.number = 130 := by
  have h1 := h
  unfold unl at h1
  rw [((drop_perm hk).map _).nodup_iff, List.map_cons, List.nodup_cons] at h1
  refine ⟨h1.2, ?_⟩
  unfold dropE
  have h2 : (l.take k ++ l.drop (k + 1)).findIdx? (fun x => x.number == o.number) = none := by
    rw [List.findIdx?_eq_none_iff]
    intro x hx
    have : x.number ≠ o.number := fun e => h1.1 (List.mem_map.2 ⟨x, hx, e⟩)
    simpa using this
  rw [h2]
def vLen : Value → Nat
  | .slice _ m _ => m
  | _ => 0
theorem drop_unl' {l : List Ord} (h : unl l) {k : Nat} {o : Ord} (hk : l[k]? = some o) {b : List Ord} (hb : l.take k ++ l.drop (k + 1) = b) : dropL l o.number = b ∧ dropX l o.number = o ∧ dropE l o.number = 0 ∧ unl b ∧ dropE b o.number = 130 ∧ b.length = l.length - 1 := by
  subst hb
  obtain ⟨h1, h2, h3⟩ := drop_unl h hk
  obtain ⟨h4, h5⟩ := drop_left h hk
  exact ⟨h1, h2, h3, h4, h5, drop_len (List.getElem?_eq_some_iff.1 hk).1⟩
set_option maxRecDepth 10000 in
set_option maxHeartbeats 4000000 in
theorem walkOrderDrops (w : World) (A : Option Addr) (n c : Nat) (l : List Ord) (w1 : n ≤ c ∧ Row ordT w A n l ∧ ∀ x ∈ l, ordWf x) (at_ : Int) (wat : (Lit.int .i64 at_).wf = true) : Calls Try.prog 13 #[.slice A n c, .int .i64 at_] w fun e w' => e = .returned (.bool true) ∧ Bel w w' := by
  obtain ⟨hnc, hA, _⟩ := w1
  have FA := hid_ hA
  have HLN := hid_ hA.1
  have HNC := hid_ hnc
  have FB := hid_ (Bel.refl w)
  have HAT := hid_ wat
  clear hA hnc wat
  go_enter Try.func13, Try.ntmps13
  go_wp2_with fail
  refine (awake13 _).mono ?_
  rintro e v1 ⟨rfl, b⟩
  have bb := b
  have f1A := hid_ (FA.out.bel bb)
  have f1B := hid_ (FB.out.trans bb)
  clear b bb FA FB
  go_wp2_with fail
  refine (few13_any A n c l _ f1A.out).mono ?_
  rintro e v2 ⟨rfl, b⟩
  have bb := b
  have f2A := hid_ (f1A.out.bel bb)
  have f2B := hid_ (f1B.out.trans bb)
  clear b bb f1A f1B
  obtain ⟨fo, hfo⟩ : ∃ fo, fewO 210 l = fo := ⟨_, rfl⟩
  rw [hfo]
  have HFO := hid_ hfo
  clear hfo
  cases fo
  · go_wp2
    go_ret
    exact ⟨rfl, f2B.out⟩
  have HSZ : Hid (∀ (k : Nat) (o : Ord), l[k]? = some o → o.who.size ≤ 4294967280 ∧ o.market.size ≤ 4294967280) := hid_ (by intro k o h; have := (fewO_iff.1 HFO.out).2 o (List.mem_of_getElem? h); exact ⟨by omega, by omega⟩)
  clear HFO
  by_cases hbig : 50 < n
  · go_wp2
    go_ret
    exact ⟨rfl, f2B.out⟩
  have dbig : decide ((50 : Int) < (n : Int)) = false := by simp; omega
  have dbig2 : decide (50 < n) = false := by simp; omega
  have hat : -9223372036854775808 ≤ at_ ∧ at_ ≤ 9223372036854775807 := by have := HAT.out; simp [Lit.wf, IntKind.min, IntKind.max, IntKind.signed, IntKind.bits] at this; exact this
  have HAT2 := hid_ hat
  clear hat HAT
  have hn50 : n ≤ 50 := by omega
  have HN5 := hid_ hn50
  clear hn50
  go_wp2_with fail
  clear dbig dbig2
  go_loopw [6, 7] (fun v i wr => ∃ (j m ca : Nat) (X : Option Addr), j ≤ n ∧ i = .int .i64 j ∧ v = .slice X m ca ∧ Hid (m ≤ ca) ∧ Hid (Row ordT wr X m (putsL (l.take j))) ∧ Bel v2 wr) (fun _ i _ => n - (intOf i).toNat)
  case atStart => exact ⟨0, 0, 0, none, Nat.zero_le _, rfl, rfl, hid_ (Nat.le_refl _), hid_ (Row.none_ _ _ _), Bel.refl _⟩
  case round =>
    obtain ⟨j, m, ca, X, hj, rfl, rfl, hmc, hrow, hbr⟩ := hrel
    have BR := hid_ hbr
    by_cases hjn : j < n
    · obtain ⟨ad, o0, o1, o2, o3, o4, o5, rfl, ho, d0, d1, d2, d3, d4, d5⟩ := (f2A.out.bel hbr).ord hjn
      have HST := hid_ (putsL_step ho)
      have SZ := hid_ (HSZ.out _ _ ho)
      clear ho hbr
      have i0 : (0 : Int) ≤ (j : Int) := by omega
      have i1 : (j : Int) < (n : Int) := by omega
      have hm5 : m ≤ 50 := by have h1 := hrow.out.1; have h2 := puts_len (l.take j); have h3 := List.length_take_le j l; have h4 := HN5.out; omega
      have HM5 := hid_ hm5
      clear hm5
      obtain ⟨a, ha⟩ : ∃ a, putsL (l.take j) = a := ⟨_, rfl⟩
      rw [ha] at hrow HST
      clear ha
      go_wp2_with fail
      refine (put_any X m ca a o0 o1 o2 o3 o4 o5 _ hrow.out hmc.out SZ.out.1 SZ.out.2 (by have := HM5.out; omega)).mono ?_
      rintro e w5 ⟨X5, m5, k5, rfl, r5, hk5, b⟩
      have R5 := hid_ r5
      have K5 := hid_ hk5
      have RA := hid_ (hrow.out.bel b)
      have B5 := hid_ (BR.out.trans b)
      clear r5 hk5 b d0 d1 d2 d3 d4 d5 hrow BR
      obtain ⟨pk, hpk⟩ : ∃ p, putOk a ⟨o0, o1, o2, o3, o4, o5⟩ = p := ⟨_, rfl⟩
      cases pk
      · have HE := (put_0 hpk).2
        rw [HE]
        have R6 : Hid (Row ordT w5 X m (putsL (l.take (j + 1)))) := hid_ (by rw [HST.out]; unfold putF; rw [hpk]; exact RA.out)
        clear HE hpk HST RA R5
        go_wp2
        case roundEnd =>
          go_roundw
          case rel => exact ⟨j + 1, m, ca, X, by omega, by go_num, rfl, hmc, R6, B5.out⟩
          case measure => simp [intOf]; omega
      · have HE := (put_1 hpk).2
        rw [HE]
        have R6 : Hid (Row ordT w5 X5 m5 (putsL (l.take (j + 1)))) := hid_ (by rw [HST.out]; unfold putF; rw [hpk, if_pos rfl, ← (put_1 hpk).1]; exact R5.out)
        clear HE hpk HST RA R5
        go_wp2
        case roundEnd =>
          go_roundw
          case rel => exact ⟨j + 1, m5, k5, X5, by omega, by go_num, rfl, K5, R6, B5.out⟩
          case measure => simp [intOf]; omega
    · obtain rfl : j = n := by omega
      have hfull : l.take j = l := by rw [← HLN.out, List.take_length]
      rw [hfull] at hrow
      have i1 : ¬ (j : Int) < (j : Int) := by omega
      have hm5 : m ≤ 50 := by have h1 := hrow.out.1; have h2 := puts_len l; have h3 := HLN.out; have h4 := HN5.out; omega
      have HU := hid_ (unl_puts l)
      have HM5 := hid_ hm5
      have HB0 := hid_ (f2B.out.trans BR.out)
      obtain ⟨a, ha⟩ : ∃ a, putsL l = a := ⟨_, rfl⟩
      rw [ha] at hrow HU
      clear ha hfull hm5 hbr BR HSZ
      obtain ⟨wo, hwo⟩ : ∃ wo, wo = wr := ⟨_, rfl⟩
      subst hwo
      obtain ⟨t, hta⟩ : ∃ t : Nat, (t : Int) = if at_ < 0 then -(at_ + 1) else at_ := ⟨(if at_ < 0 then -(at_ + 1) else at_).toNat, by split <;> omega⟩
      by_cases hneg : at_ < 0
      · rw [if_pos hneg] at hta
        have hw1 : wrap64 (at_ + 1) = at_ + 1 := by have := HAT2.out; unfold wrap64; omega
        have hw2 : wrap64 (-(at_ + 1)) = (t : Int) := by have := HAT2.out; rw [hta]; unfold wrap64; omega
        clear hta
        go_wp2_with fail
        go_loopw [6] (fun v wq => ∃ (a : List Ord) (m ca : Nat) (X : Option Addr), v = .slice X m ca ∧ Hid (m ≤ ca) ∧ Hid (unl a ∧ m ≤ 50) ∧ Hid (Row ordT wq X m a) ∧ Bel wo wq) (fun v _ => vLen v)
        case atStart => exact ⟨a, m, ca, X, rfl, hmc, hid_ ⟨HU.out, HM5.out⟩, hrow, Bel.refl _⟩
        case round =>
          obtain ⟨a2, m2, c2, X2, rfl, hmc2, hu2, hrow2, hbq⟩ := hrel
          have BQ := hid_ (HB0.out.trans hbq)
          have BI := hid_ hbq
          clear hbq
          by_cases h0 : 0 < m2
          · obtain ⟨k, hk⟩ : ∃ k, t % m2 = k := ⟨_, rfl⟩
            have hkm : k < m2 := by rw [← hk]; exact Nat.mod_lt _ h0
            have hmod1 : (t : Int).tmod (m2 : Int) = (k : Int) := by rw [← hk]; rfl
            have hmod2 : (t : Int) % (m2 : Int) = (k : Int) := by rw [← hk]; rfl
            have hm0 : ((m2 : Int) == 0) = false := by simp; omega
            have hm1 : ¬ (m2 : Int) = 0 := by omega
            have hm2 : (0 : Int) < (m2 : Int) := by omega
            have hk0 : (0 : Int) ≤ (k : Int) := by omega
            have hk1 : (k : Int) < (m2 : Int) := by omega
            obtain ⟨ad, x0, x1, x2, x3, x4, x5, rfl, hx, d0, d1, d2, d3, d4, d5⟩ := hrow2.out.ord hkm
            obtain ⟨bl, hbl⟩ : ∃ b, a2.take k ++ a2.drop (k + 1) = b := ⟨_, rfl⟩
            have HD := hid_ (drop_unl' hu2.out.1 hx hbl)
            clear hx hbl hk
            go_wp2_with fail
            refine (drop_any (some ad) m2 c2 a2 x0 _ hrow2.out hmc2.out (by have := hu2.out.2; omega)).mono ?_
            rintro e w5 ⟨X5, m5, k5, rfl, r5, hk5, b⟩
            rw [show dropX a2 x0 = ⟨x0, x1, x2, x3, x4, x5⟩ from HD.out.2.1, show dropE a2 x0 = 0 from HD.out.2.2.1]
            rw [show dropL a2 x0 = bl from HD.out.1] at r5
            simp only [ordC]
            have hm5 : m5 + 1 = m2 := by have h1 := r5.1; have h2 := HD.out.2.2.2.2.2; have h3 := hrow2.out.1; omega
            have R5 := hid_ r5
            have K5 := hid_ hk5
            have HM6 := hid_ hm5
            have kx := Bx.new w5 27 [.int .u64 x0, .string x1, .string x2, .bool x3, .int .i64 x4, .int .i64 x5]
            have KX := hid_ kx
            have b2 : Bel wr (w5.alloc (.cells #[.int .u64 x0, .string x1, .string x2, .bool x3, .int .i64 x4, .int .i64 x5] 27)) := (b).alloc _
            have B2 := hid_ b2
            have rd0 := b2.cell_ d0
            clear b b2 kx r5 hk5 hm5
            go_wp2_with fail
            refine (drop_any X5 m5 k5 bl x0 _ (R5.out.bel ((Bel.refl w5).alloc _)) K5.out (by have := hu2.out.2; have := HM6.out; omega)).mono ?_
            rintro e w7 ⟨X7, m7, k7, rfl, _, _, b⟩
            rw [show dropE bl x0 = 130 from HD.out.2.2.2.2.1]
            simp only [ordC]
            have KX7 := hid_ (KX.out.bel b)
            have B7 := hid_ (B2.out.trans b)
            have R7 := hid_ (R5.out.bel (((Bel.refl w5).alloc _).trans b))
            clear rd0 KX B2 R5
            have E1 := eqlOrd x0 x1 x2 x3 x4 x5 x0 x1 x2 x3 x4 x5
            have E2 := neqOrd x0 x1 x2 x3 x4 x5 x0 x1 x2 x3 x4 x5
            rw [ordEq_iff _ _ |>.2 rfl] at E1 E2
            have q0 := fun o => (KX7.out.alloc o).cell 0 rfl
            have q1 := fun o => (KX7.out.alloc o).cell 1 rfl
            have q2 := fun o => (KX7.out.alloc o).cell 2 rfl
            have q3 := fun o => (KX7.out.alloc o).cell 3 rfl
            have q4 := fun o => (KX7.out.alloc o).cell 4 rfl
            have q5 := fun o => (KX7.out.alloc o).cell 5 rfl
            have f0 := fun o => cellOld (B7.out.cell_ d0) o
            have f1 := fun o => cellOld (B7.out.cell_ d1) o
            have f2 := fun o => cellOld (B7.out.cell_ d2) o
            have f3 := fun o => cellOld (B7.out.cell_ d3) o
            have f4 := fun o => cellOld (B7.out.cell_ d4) o
            have f5 := fun o => cellOld (B7.out.cell_ d5) o
            clear d0 d1 d2 d3 d4 d5 hmod1 hmod2 hm0 hm1
            have hw5 : wrap64 ((m2 : Int) - 1) = (m5 : Int) := by have h1 := HM6.out; have h2 := hu2.out.2; unfold wrap64; omega
            have hw6 : IntKind.i64.wrap ((m2 : Int) - 1) = (m5 : Int) := by rw [IntWalk.i64_left]; exact hw5
            go_upto_region 17 with (fail)
            go_quiet (fail)
            go_wp2
            case roundEnd =>
              go_roundw
              case rel => exact ⟨bl, m5, k5, X5, rfl, K5, hid_ ⟨HD.out.2.2.2.1, by have h1 := HM6.out; have h2 := hu2.out.2; omega⟩, hid_ (R7.out.bel (((Bel.refl w7).alloc _).drewN _)), (((BI.out.trans B7.out).alloc _).drewN _)⟩
              case measure => have := HM6.out; show m5 < m2; omega
          · obtain rfl : m2 = 0 := by omega
            go_wp2
            go_ret
            exact ⟨rfl, BQ.out⟩
      · rw [if_neg hneg] at hta
        subst hta
        have hneg2 : decide ((t : Int) < 0) = false := by simp
        go_wp2_with fail
        go_loopw [6] (fun v wq => ∃ (a : List Ord) (m ca : Nat) (X : Option Addr), v = .slice X m ca ∧ Hid (m ≤ ca) ∧ Hid (unl a ∧ m ≤ 50) ∧ Hid (Row ordT wq X m a) ∧ Bel wo wq) (fun v _ => vLen v)
        case atStart => exact ⟨a, m, ca, X, rfl, hmc, hid_ ⟨HU.out, HM5.out⟩, hrow, Bel.refl _⟩
        case round =>
          obtain ⟨a2, m2, c2, X2, rfl, hmc2, hu2, hrow2, hbq⟩ := hrel
          have BQ := hid_ (HB0.out.trans hbq)
          have BI := hid_ hbq
          clear hbq
          by_cases h0 : 0 < m2
          · obtain ⟨k, hk⟩ : ∃ k, t % m2 = k := ⟨_, rfl⟩
            have hkm : k < m2 := by rw [← hk]; exact Nat.mod_lt _ h0
            have hmod1 : (t : Int).tmod (m2 : Int) = (k : Int) := by rw [← hk]; rfl
            have hmod2 : (t : Int) % (m2 : Int) = (k : Int) := by rw [← hk]; rfl
            have hm0 : ((m2 : Int) == 0) = false := by simp; omega
            have hm1 : ¬ (m2 : Int) = 0 := by omega
            have hm2 : (0 : Int) < (m2 : Int) := by omega
            have hk0 : (0 : Int) ≤ (k : Int) := by omega
            have hk1 : (k : Int) < (m2 : Int) := by omega
            obtain ⟨ad, x0, x1, x2, x3, x4, x5, rfl, hx, d0, d1, d2, d3, d4, d5⟩ := hrow2.out.ord hkm
            obtain ⟨bl, hbl⟩ : ∃ b, a2.take k ++ a2.drop (k + 1) = b := ⟨_, rfl⟩
            have HD := hid_ (drop_unl' hu2.out.1 hx hbl)
            clear hx hbl hk
            go_wp2_with fail
            refine (drop_any (some ad) m2 c2 a2 x0 _ hrow2.out hmc2.out (by have := hu2.out.2; omega)).mono ?_
            rintro e w5 ⟨X5, m5, k5, rfl, r5, hk5, b⟩
            rw [show dropX a2 x0 = ⟨x0, x1, x2, x3, x4, x5⟩ from HD.out.2.1, show dropE a2 x0 = 0 from HD.out.2.2.1]
            rw [show dropL a2 x0 = bl from HD.out.1] at r5
            simp only [ordC]
            have hm5 : m5 + 1 = m2 := by have h1 := r5.1; have h2 := HD.out.2.2.2.2.2; have h3 := hrow2.out.1; omega
            have R5 := hid_ r5
            have K5 := hid_ hk5
            have HM6 := hid_ hm5
            have kx := Bx.new w5 27 [.int .u64 x0, .string x1, .string x2, .bool x3, .int .i64 x4, .int .i64 x5]
            have KX := hid_ kx
            have b2 : Bel wr (w5.alloc (.cells #[.int .u64 x0, .string x1, .string x2, .bool x3, .int .i64 x4, .int .i64 x5] 27)) := (b).alloc _
            have B2 := hid_ b2
            have rd0 := b2.cell_ d0
            clear b b2 kx r5 hk5 hm5
            go_wp2_with fail
            refine (drop_any X5 m5 k5 bl x0 _ (R5.out.bel ((Bel.refl w5).alloc _)) K5.out (by have := hu2.out.2; have := HM6.out; omega)).mono ?_
            rintro e w7 ⟨X7, m7, k7, rfl, _, _, b⟩
            rw [show dropE bl x0 = 130 from HD.out.2.2.2.2.1]
            simp only [ordC]
            have KX7 := hid_ (KX.out.bel b)
            have B7 := hid_ (B2.out.trans b)
            have R7 := hid_ (R5.out.bel (((Bel.refl w5).alloc _).trans b))
            clear rd0 KX B2 R5
            have E1 := eqlOrd x0 x1 x2 x3 x4 x5 x0 x1 x2 x3 x4 x5
            have E2 := neqOrd x0 x1 x2 x3 x4 x5 x0 x1 x2 x3 x4 x5
            rw [ordEq_iff _ _ |>.2 rfl] at E1 E2
            have q0 := fun o => (KX7.out.alloc o).cell 0 rfl
            have q1 := fun o => (KX7.out.alloc o).cell 1 rfl
            have q2 := fun o => (KX7.out.alloc o).cell 2 rfl
            have q3 := fun o => (KX7.out.alloc o).cell 3 rfl
            have q4 := fun o => (KX7.out.alloc o).cell 4 rfl
            have q5 := fun o => (KX7.out.alloc o).cell 5 rfl
            have f0 := fun o => cellOld (B7.out.cell_ d0) o
            have f1 := fun o => cellOld (B7.out.cell_ d1) o
            have f2 := fun o => cellOld (B7.out.cell_ d2) o
            have f3 := fun o => cellOld (B7.out.cell_ d3) o
            have f4 := fun o => cellOld (B7.out.cell_ d4) o
            have f5 := fun o => cellOld (B7.out.cell_ d5) o
            clear d0 d1 d2 d3 d4 d5 hmod1 hmod2 hm0 hm1
            have hw5 : wrap64 ((m2 : Int) - 1) = (m5 : Int) := by have h1 := HM6.out; have h2 := hu2.out.2; unfold wrap64; omega
            have hw6 : IntKind.i64.wrap ((m2 : Int) - 1) = (m5 : Int) := by rw [IntWalk.i64_left]; exact hw5
            go_upto_region 17 with (fail)
            go_quiet (fail)
            go_wp2
            case roundEnd =>
              go_roundw
              case rel => exact ⟨bl, m5, k5, X5, rfl, K5, hid_ ⟨HD.out.2.2.2.1, by have h1 := HM6.out; have h2 := hu2.out.2; omega⟩, hid_ (R7.out.bel (((Bel.refl w7).alloc _).drewN _)), (((BI.out.trans B7.out).alloc _).drewN _)⟩
              case measure => have := HM6.out; show m5 < m2; omega
          · obtain rfl : m2 = 0 := by omega
            go_wp2
            go_ret
            exact ⟨rfl, BQ.out⟩
end Go.Proofs.Ytgdonempmblhhaa
