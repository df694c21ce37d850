/- novate.All. -/
import Derived.Test.YtoachnhdedpbdaaNv15
set_option linter.unusedSimpArgs false
set_option linter.unusedVariables false
namespace Go.Proofs.Ytoachnhdedpbdaa
open Go.RowKit Go.Lib
def duesAt (t : Trd) (os : List Ord) : Option (List Due) :=
  (atN os t.buy).bind fun i => (atN os t.sell).bind fun k => os[i]?.bind fun b => os[k]?.bind fun s => if fitsP t b s then some (duesL t b s) else none
def allD : List Trd → List Ord → Option (List Due)
  | [], _ => some []
  | t :: ts, os => (duesAt t os).bind fun d => (allD ts os).map (d ++ ·)
def allO (ts : List Trd) (os : List Ord) : List Due := (allD ts os).getD []
def allE (ts : List Trd) (os : List Ord) : Int := if (allD ts os).isSome then 0 else 150
theorem allD_snoc : ∀ (l : List Trd) (t : Trd) (os : List Ord), allD (l ++ [t]) os = (allD l os).bind fun a => (duesAt t os).map (a ++ ·)
  | [], t, os => by simp [allD]
  | x :: l, t, os => by
    simp only [List.cons_append, allD, allD_snoc l t os]
    cases duesAt x os <;> simp
    cases allD l os <;> simp
    cases duesAt t os <;> simp
theorem allD_none : ∀ (l r : List Trd) (os : List Ord), allD l os = none → allD (l ++ r) os = none
  | [], _, _, h => by simp [allD] at h
  | x :: l, r, os, h => by
    simp only [List.cons_append, allD] at h ⊢
    cases hx : duesAt x os with
    | none => simp
    | some d =>
      simp only [hx, Option.bind_some, Option.map_eq_none_iff] at h ⊢
      exact allD_none l r os h
theorem allD_step {ts : List Trd} {os : List Ord} {k : Nat} {t : Trd} {a : List Due} (ht : ts[k]? = some t) (h : allD (ts.take k) os = some a) : allD (ts.take (k + 1)) os = (duesAt t os).map (a ++ ·) := by
  rw [List.take_add_one, ht]
  simp only [Option.toList_some]
  rw [allD_snoc, h]
  rfl
theorem allD_stop {ts : List Trd} {os : List Ord} {k : Nat} {t : Trd} {a : List Due} (ht : ts[k]? = some t) (h : allD (ts.take k) os = some a) (hd : duesAt t os = none) : allD ts os = none := by
  rw [← List.take_append_drop (k + 1) ts]
  refine allD_none _ _ _ ?_
  rw [allD_step ht h, hd]
  rfl
theorem duesAt_len {t : Trd} {os : List Ord} {d : List Due} (h : duesAt t os = some d) : d.length = 4 := by
  simp only [duesAt, Option.bind_eq_some_iff] at h
  obtain ⟨i, _, k, _, b, _, s, _, h⟩ := h
  split at h
  · cases h; rfl
  · cases h
theorem allD_len : ∀ (l : List Trd) (os : List Ord) (d : List Due), allD l os = some d → d.length = 4 * l.length
  | [], _, _, h => by simp [allD] at h; subst h; rfl
  | x :: l, os, d, h => by
    simp only [allD] at h
    cases hx : duesAt x os with
    | none => simp [hx] at h
    | some e =>
      simp only [hx, Option.bind_some, Option.map_eq_some_iff] at h
      obtain ⟨f, hf, rfl⟩ := h
      rw [List.length_append, duesAt_len hx, allD_len l os f hf, List.length_cons]
      omega
theorem duesAt_eq {t : Trd} {os : List Ord} {i k : Nat} {b s : Ord} (h1 : atN os t.buy = some i) (h2 : atN os t.sell = some k) (hb : os[i]? = some b) (hs : os[k]? = some s) : duesAt t os = if fitsP t b s then some (duesL t b s) else none := by
  simp [duesAt, h1, h2, hb, hs]
theorem duesAt_no1 {t : Trd} {os : List Ord} (h1 : atN os t.buy = none) : duesAt t os = none := by simp [duesAt, h1]
theorem duesAt_no2 {t : Trd} {os : List Ord} (h1 : atN os t.sell = none) : duesAt t os = none := by
  unfold duesAt
  cases atN os t.buy <;> simp [h1]
def sized (os : List Ord) : Prop := ∀ (k : Nat) (o : Ord), os[k]? = some o → ordSz o
set_option maxRecDepth 10000 in
set_option maxHeartbeats 1000000 in
theorem all_any (A : Option Addr) (n c : Nat) (ts : List Trd) (B : Option Addr) (m d : Nat) (os : List Ord) (w : World) (hA : Row trdT w A n ts) (hB : Row ordT w B m os) (hn : n ≤ 20000) (hz : sized os) :
    Calls Try.prog 11 #[.slice A n c, .slice B m d] w fun e w' => ∃ C n c, e = .returned (.tuple #[.slice C n c, .int .i64 (allE ts os)]) ∧ Row dueT w' C n (allO ts os) ∧ Bel w w' := by
  have HA := hid_ hA
  have HB := hid_ hB
  have HZ := hid_ hz
  have HN := hid_ hn
  obtain ⟨fo, hfo⟩ : ∃ fo, allO ts os = fo := ⟨_, rfl⟩
  obtain ⟨fe, hfe⟩ : ∃ fe, allE ts os = fe := ⟨_, rfl⟩
  rw [hfo, hfe]
  have HFO := hid_ hfo
  have HFE := hid_ hfe
  clear hA hB hz hfo hfe
  go_enter Try.func11, Try.ntmps11
  go_wp2_with fail
  go_loopw [4, 7, 8, 9, 10, 11, 14] (fun v _ _ _ _ _ i wr => ∃ j : Nat, j ≤ n ∧ i = .int .i64 j ∧ (∃ V p q, v = .slice V p q ∧ Hid (∃ x, allD (ts.take j) os = some x ∧ Row dueT wr V p x)) ∧ Bel w wr) (fun _ _ _ _ _ _ i _ => n - (intOf i).toNat)
  case atStart => exact ⟨0, Nat.zero_le _, rfl, ⟨_, _, _, rfl, hid_ ⟨[], rfl, Row.none_ _ _ _⟩⟩, Bel.refl _⟩
  case round =>
    obtain ⟨j, hj, rfl, ⟨V, p, q, rfl, hx⟩, hbr⟩ := hrel
    have BR := hid_ hbr
    by_cases hjn : j < n
    · obtain ⟨ad, tb, ts', tq, tp, rfl, ho, d0, d1, d2, d3⟩ := (HA.out.bel hbr).trd hjn
      have HO := hid_ ho
      clear ho hbr
      have KT := hid_ (Bx.new wr 65 [.int .u64 tb, .int .u64 ts', .int .i64 tq, .int .i64 tp])
      have B4 := hid_ (BR.out.alloc (.cells #[.int .u64 tb, .int .u64 ts', .int .i64 tq, .int .i64 tp] 65))
      have X4 : Hid (∃ x, allD (ts.take j) os = some x ∧ Row dueT (wr.alloc (.cells #[.int .u64 tb, .int .u64 ts', .int .i64 tq, .int .i64 tp] 65)) V p x) := hid_ (by
        obtain ⟨x, h1, h2⟩ := hx.out
        exact ⟨x, h1, h2.bel ((Bel.refl _).alloc _)⟩)
      clear hx BR
      go_wp2_with fail
      generalize wr.alloc (.cells #[.int .u64 tb, .int .u64 ts', .int .i64 tq, .int .i64 tp] 65) = w4 at KT B4 X4 ⊢
      generalize wr.heap.size = gt at KT ⊢
      clear d0 d1 d2 d3
      refine (indexAll1_any B m d os tb gt w4 (HB.out.bel B4.out) (KT.out.cell 0 rfl)).mono ?_
      rintro e w5 ⟨rfl, b⟩
      have B5 := hid_ b
      clear b
      go_wp2_with fail
      refine (indexAll2_any B m d os ts' gt w5 (HB.out.bel (B4.out.trans B5.out)) (B5.out.cell_ (KT.out.cell 1 rfl))).mono ?_
      rintro e w6 ⟨rfl, b⟩
      have B6 := hid_ (B5.out.trans b)
      clear b B5
      have HST : Hid (duesAt ⟨tb, ts', tq, tp⟩ os = none → fo = [] ∧ fe = 150) := hid_ (by
        intro h
        obtain ⟨x, h1, h2⟩ := X4.out
        have := allD_stop HO.out h1 h
        rw [← HFO.out, ← HFE.out]
        unfold allO allE
        rw [this]
        exact ⟨rfl, rfl⟩)
      obtain ⟨i1, hi1⟩ : ∃ i1, atN os tb = i1 := ⟨_, rfl⟩
      cases i1
      case none =>
        have HF := hid_ (HST.out (duesAt_no1 hi1))
        have HE := hid_ (B4.out.trans B6.out)
        rw [atI_no hi1]
        clear hi1 HST HO X4 KT B4 B6
        go_wp2
        go_ret2
        exact ⟨none, 0, 0, by rw [HF.out.2]; rfl, by rw [HF.out.1]; exact Row.none_ _ _ _, HE.out⟩
      case some i =>
      obtain ⟨k1, hk1⟩ : ∃ k1, atN os ts' = k1 := ⟨_, rfl⟩
      cases k1
      case none =>
        have HF := hid_ (HST.out (duesAt_no2 hk1))
        have HE := hid_ (B4.out.trans B6.out)
        rw [atI_no hk1, atI_hit hi1]
        clear hi1 hk1 HST HO X4 KT B4 B6
        go_wp2
        go_ret2
        exact ⟨none, 0, 0, by rw [HF.out.2]; rfl, by rw [HF.out.1]; exact Row.none_ _ _ _, HE.out⟩
      case some k =>
      rw [atI_hit hk1, atI_hit hi1]
      obtain ⟨ob, hob⟩ := atN_some _ _ _ hi1
      obtain ⟨ok, hok⟩ := atN_some _ _ _ hk1
      have hi : i < m := by have := (List.getElem?_eq_some_iff.1 hob).1; rw [HB.out.1] at this; exact this
      have hk : k < m := by have := (List.getElem?_eq_some_iff.1 hok).1; rw [HB.out.1] at this; exact this
      have RB := HB.out.bel (B4.out.trans B6.out)
      obtain ⟨bd, b0, b1, b2, b3, b4, b5, rfl, hob', e0, e1, e2, e3, e4, e5⟩ := RB.ord hi
      obtain ⟨bd2, s0, s1, s2, s3, s4, s5, hbd, hok', f0, f1, f2, f3, f4, f5⟩ := RB.ord hk
      cases hbd
      have HDE := hid_ (duesAt_eq (t := ⟨tb, ts', tq, tp⟩) hi1 hk1 hob' hok')
      have Z1 : Hid (b1.size ≤ 4294967280 ∧ b2.size ≤ 4294967280) := hid_ (HZ.out _ _ hob')
      have Z2 : Hid (s1.size ≤ 4294967280 ∧ s2.size ≤ 4294967280) := hid_ (HZ.out _ _ hok')
      clear RB hob' hok' hob hok hi1 hk1
      have t0 := (KT.out.bel B6.out).cell 0 rfl
      have t1 := (KT.out.bel B6.out).cell 1 rfl
      have t2 := (KT.out.bel B6.out).cell 2 rfl
      have t3 := (KT.out.bel B6.out).cell 3 rfl
      have i0 : (0 : Int) ≤ (i : Int) := by omega
      have i1 : (i : Int) < (m : Int) := by omega
      have k0 : (0 : Int) ≤ (k : Int) := by omega
      have k1 : (k : Int) < (m : Int) := by omega
      go_wp2_with fail
      go_region_held3 (fun W => (W.cell? ⟨gt, 0, none⟩ = some (.int .u64 tb) ∧ W.cell? ⟨gt, 1, none⟩ = some (.int .u64 ts') ∧ W.cell? ⟨gt, 2, none⟩ = some (.int .i64 tq) ∧ W.cell? ⟨gt, 3, none⟩ = some (.int .i64 tp))
          ∧ (W.cell? (bd.add (i * 6)) = some (.int .u64 b0) ∧ W.cell? ⟨(bd.add (i * 6)).block, (bd.add (i * 6)).off + 1, none⟩ = some (.string b1) ∧ W.cell? ⟨(bd.add (i * 6)).block, (bd.add (i * 6)).off + 2, none⟩ = some (.string b2) ∧ W.cell? ⟨(bd.add (i * 6)).block, (bd.add (i * 6)).off + 3, none⟩ = some (.bool b3) ∧ W.cell? ⟨(bd.add (i * 6)).block, (bd.add (i * 6)).off + 4, none⟩ = some (.int .i64 b4) ∧ W.cell? ⟨(bd.add (i * 6)).block, (bd.add (i * 6)).off + 5, none⟩ = some (.int .i64 b5))
          ∧ (W.cell? (bd.add (k * 6)) = some (.int .u64 s0) ∧ W.cell? ⟨(bd.add (k * 6)).block, (bd.add (k * 6)).off + 1, none⟩ = some (.string s1) ∧ W.cell? ⟨(bd.add (k * 6)).block, (bd.add (k * 6)).off + 2, none⟩ = some (.string s2) ∧ W.cell? ⟨(bd.add (k * 6)).block, (bd.add (k * 6)).off + 3, none⟩ = some (.bool s3) ∧ W.cell? ⟨(bd.add (k * 6)).block, (bd.add (k * 6)).off + 4, none⟩ = some (.int .i64 s4) ∧ W.cell? ⟨(bd.add (k * 6)).block, (bd.add (k * 6)).off + 5, none⟩ = some (.int .i64 s5)))
        (first | with_reducible exact ⟨⟨b7.cell_ t0, b7.cell_ t1, b7.cell_ t2, b7.cell_ t3⟩, ⟨b7.cell_ e0, b7.cell_ e1, b7.cell_ e2, b7.cell_ e3, b7.cell_ e4, b7.cell_ e5⟩, ⟨b7.cell_ f0, b7.cell_ f1, b7.cell_ f2, b7.cell_ f3, b7.cell_ f4, b7.cell_ f5⟩⟩ | exact ⟨⟨t0, t1, t2, t3⟩, ⟨e0, e1, e2, e3, e4, e5⟩, ⟨f0, f1, f2, f3, f4, f5⟩⟩)
        (first
        | (go_at_call 29; with_reducible refine' Calls.mono (dues_any tb ts' tq tp b0 b1 b2 b3 b4 b5 s0 s1 s2 s3 s4 s5 _ Z1.out.1 Z1.out.2 Z2.out.1 Z2.out.2) ?_; rintro e w7 ⟨A7, n7, c7, rfl, r7, b⟩; have b7 : Bel w6 w7 := Bel.trans (by (repeat first | with_reducible exact Bel.refl _ | apply Bel.drew)) b))
      have B7 := hid_ b7
      have R7 := hid_ r7
      have E7 := hid_ ((B4.out.trans B6.out).trans b7)
      clear b7 r7 b t0 t1 t2 t3 e0 e1 e2 e3 e4 e5 f0 f1 f2 f3 f4 f5 i0 i1 k0 k1 hi hk
      obtain ⟨fp, hfp⟩ : ∃ fp, fitsP ⟨tb, ts', tq, tp⟩ ⟨b0, b1, b2, b3, b4, b5⟩ ⟨s0, s1, s2, s3, s4, s5⟩ = fp := ⟨_, rfl⟩
      cases fp
      · rw [(dues_0 hfp).2]
        have HF := hid_ (HST.out (by rw [HDE.out, hfp]; rfl))
        clear HST HO X4 KT B4 B6 HDE hfp R7 B7 Z1 Z2
        go_wp2
        go_ret2
        exact ⟨none, 0, 0, by rw [HF.out.2]; rfl, by rw [HF.out.1]; exact Row.none_ _ _ _, E7.out⟩
      rw [(dues_1 hfp).2]
      have HR : Hid (∃ x y, duesAt ⟨tb, ts', tq, tp⟩ os = some y ∧ y.length = 4 ∧ allD (ts.take j) os = some x ∧ x.length ≤ 80000 ∧ RowsD w7 [(V, p, q), (A7, n7, c7)] [x, y]) := hid_ (by
        obtain ⟨x, h1, h2⟩ := X4.out
        have h3 := R7.out
        rw [(dues_1 hfp).1] at h3
        refine ⟨x, _, by rw [HDE.out, hfp]; rfl, rfl, h1, ?_, rowsTwo _ _ _ _ _ _ _ _ _ (h2.bel (B6.out.trans B7.out)) h3⟩
        have := allD_len _ _ _ h1
        have h4 := List.length_take_le j ts
        rw [this]
        have := HN.out
        omega)
      clear HST KT B6 B7 HDE hfp R7 X4 Z1 Z2 B4
      go_wp2_with fail
      obtain ⟨x, y, hy, hy4, hx, hxl, hrd⟩ := HR.out
      have HX : Hid (allD (ts.take (j + 1)) os = some (x ++ y)) := hid_ (by rw [allD_step HO.out hx, hy]; rfl)
      clear HR hx hy HO
      refine (joined_any _ 2 2 [(V, p, q), (A7, n7, c7)] [x, y] _ (litTwo w7 _ V A7 p n7 q c7 _ rfl (Bel.refl _)) (hrd.bel ((Bel.refl _).alloc _)) (by simp; omega)).mono ?_
      rintro e w9 ⟨v9, rfl, oo, b9⟩
      obtain ⟨A9, c9, hv9, _, r9⟩ := oo.reads
      subst hv9
      have hxy : [x, y].flatten = x ++ y := by simp
      rw [hxy] at r9 ⊢
      rw [List.length_append] at r9
      have HR9 := hid_ r9
      have HB9 := hid_ (E7.out.trans (((Bel.refl _).alloc _).trans b9))
      clear r9 oo b9 hrd hxy hxl hy4 E7
      go_wp2
      case roundEnd =>
        go_roundw
        case rel => exact ⟨j + 1, by omega, by go_num, ⟨_, _, _, rfl, hid_ ⟨_, HX.out, HR9.out⟩⟩, HB9.out⟩
        case measure => simp [intOf]; omega
    · obtain rfl : j = n := by omega
      have HF : Hid (fe = 0 ∧ Row dueT wr V p fo) := hid_ (by
        obtain ⟨x, h1, h2⟩ := hx.out
        have hfull : ts.take j = ts := by rw [← HA.out.1, List.take_length]
        rw [hfull] at h1
        rw [← HFE.out, ← HFO.out]
        unfold allE allO
        rw [h1]
        exact ⟨rfl, h2⟩)
      clear hx hbr HFE HFO HA HB HZ
      go_wp2
      go_ret2
      exact ⟨V, p, q, by rw [HF.out.1]; rfl, HF.out.2, BR.out⟩
end Go.Proofs.Ytoachnhdedpbdaa
