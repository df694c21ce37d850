/- cambistref15.All. -/
import Derived.Test.YtgdonempmblhhaaNv18
import Derived.Test.YtgdonempmblhhaaNv19
set_option linter.unusedSimpArgs false
set_option linter.unusedVariables false
namespace Go.Proofs.Ytgdonempmblhhaa
open Go.RowKit Go.Lib
theorem first_at (A : Option Addr) (n c : Nat) (l : List Ord) (nu : Int) (w : World) (hA : Row ordT w A n l) (o0 : Int) (o1 o2 : ByteArray) (o3 : Bool) (o4 o5 : Int) (h : firstO l nu = ⟨o0, o1, o2, o3, o4, o5⟩) :
    Calls Try.prog 44 #[.slice A n c, .int .u64 nu] w fun e w' => e = .returned (.tuple #[.agg #[.int .u64 o0, .string o1, .string o2, .bool o3, .int .i64 o4, .int .i64 o5], .bool (firstB l nu)]) ∧ Bel w w' := by
  have := first_any A n c l nu w hA
  rw [h] at this
  exact this
theorem first_sz {l : List Ord} (hz : sized l) (nu : Int) : ordSz (firstO l nu) := by
  unfold firstO
  cases h : atN l nu with
  | none => show ordSz ordZ0; exact ⟨by decide, by decide⟩
  | some k =>
    obtain ⟨o, ho⟩ := atN_some l nu k h
    show ordSz ((l[k]?).getD ordZ0)
    rw [ho]
    exact hz k o ho
theorem refAt {t : Trd} {os : List Ord} (h1 : firstB os t.buy = true) (h2 : firstB os t.sell = true) : duesAt t os = if fitsP t (firstO os t.buy) (firstO os t.sell) then some (duesL t (firstO os t.buy) (firstO os t.sell)) else none := by
  obtain ⟨i, hi⟩ := Option.isSome_iff_exists.1 h1
  obtain ⟨k, hk⟩ := Option.isSome_iff_exists.1 h2
  obtain ⟨b, hb⟩ := atN_some _ _ _ hi
  obtain ⟨s, hs⟩ := atN_some _ _ _ hk
  have e1 : firstO os t.buy = b := by
    unfold firstO
    rw [hi]
    show (os[i]?).getD ordZ0 = b
    rw [hb]
    rfl
  have e2 : firstO os t.sell = s := by
    unfold firstO
    rw [hk]
    show (os[k]?).getD ordZ0 = s
    rw [hs]
    rfl
  rw [e1, e2]
  exact duesAt_eq hi hk hb hs
theorem refNo1 {t : Trd} {os : List Ord} (h1 : firstB os t.buy = false) : duesAt t os = none := duesAt_no1 (by simpa [firstB] using h1)
theorem refNo2 {t : Trd} {os : List Ord} (h1 : firstB os t.sell = false) : duesAt t os = none := duesAt_no2 (by simpa [firstB] using h1)
set_option maxRecDepth 10000 in
set_option maxHeartbeats 1000000 in
theorem refAll_any (A : Option Addr) (n c : Nat) (ts : List Trd) (B : Option Addr) (m d : Nat) (os : List Ord) (w : World) (hA : Row trdT w A n ts) (hB : Row ordT w B m os) (hn : n ≤ 20000) (hz : sized os) :
    Calls Try.prog 19 #[.slice A n c, .slice B m d] w fun e w' => ∃ C n c, e = .returned (.tuple #[.slice C n c, .int .i64 (allE ts os)]) ∧ Row dueT w' C n (allO ts os) ∧ Bel w w' := by
  have HA := hid_ hA
  have HB := hid_ hB
  have HZ := hid_ hz
  have HN := hid_ hn
  obtain ⟨fo, hfo⟩ : ∃ fo, allO ts os = fo := ⟨_, rfl⟩
  obtain ⟨fe, hfe⟩ : ∃ fe, allE ts os = fe := ⟨_, rfl⟩
  rw [hfo, hfe]
  have HFO := hid_ hfo
  have HFE := hid_ hfe
  clear hA hB hz hfo hfe
  go_enter Try.func19, Try.ntmps19
  go_wp2_with fail
  go_loopw [6, 7, 8, 9, 10, 11, 12, 13] (fun v i _ _ _ _ _ _ wr => ∃ j : Nat, j ≤ n ∧ i = .int .i64 j ∧ Hid (∃ x, allD (ts.take j) os = some x ∧ Own dueT wr w.heap.size v x) ∧ Bel w wr) (fun _ i _ _ _ _ _ _ _ => n - (intOf i).toNat)
  case atStart => exact ⟨0, Nat.zero_le _, rfl, hid_ ⟨[], rfl, Own.nil_ _ _ _⟩, Bel.refl _⟩
  case round =>
    obtain ⟨j, hj, rfl, hx, hbr⟩ := hrel
    have BR := hid_ hbr
    by_cases hjn : j < n
    · obtain ⟨ad, tb, ts', tq, tp, rfl, ho, d0, d1, d2, d3⟩ := (HA.out.bel hbr).trd hjn
      have D0 := hid_ d0
      have D1 := hid_ d1
      have D2 := hid_ d2
      have D3 := hid_ d3
      have HO := hid_ ho
      clear ho hbr d1 d2 d3
      obtain ⟨⟨b0, b1, b2, b3, b4, b5⟩, hfb⟩ : ∃ o, firstO os tb = o := ⟨_, rfl⟩
      obtain ⟨⟨s0, s1, s2, s3, s4, s5⟩, hfs⟩ : ∃ o, firstO os ts' = o := ⟨_, rfl⟩
      have Z1 : Hid (b1.size ≤ 4294967280 ∧ b2.size ≤ 4294967280) := hid_ (by have := first_sz HZ.out tb; rw [hfb] at this; exact this)
      have Z2 : Hid (s1.size ≤ 4294967280 ∧ s2.size ≤ 4294967280) := hid_ (by have := first_sz HZ.out ts'; rw [hfs] at this; exact this)
      have FB := hid_ hfb
      have FS := hid_ hfs
      clear hfb hfs
      go_wp2_with fail
      refine (first_at B m d os tb wr (HB.out.bel BR.out) b0 b1 b2 b3 b4 b5 FB.out).mono ?_
      rintro e w5 ⟨rfl, b⟩
      have B5 := hid_ b
      have KB := hid_ (Bx.new w5 27 [.int .u64 b0, .string b1, .string b2, .bool b3, .int .i64 b4, .int .i64 b5])
      have B6 := hid_ (b.alloc (.cells #[.int .u64 b0, .string b1, .string b2, .bool b3, .int .i64 b4, .int .i64 b5] 27))
      have g1 := B6.out.cell_ D1.out
      clear b d0
      go_wp2_with fail
      generalize w5.alloc (.cells #[.int .u64 b0, .string b1, .string b2, .bool b3, .int .i64 b4, .int .i64 b5] 27) = w6 at KB B6 g1 ⊢
      generalize w5.heap.size = gb at KB ⊢
      refine (first_at B m d os ts' w6 (HB.out.bel (BR.out.trans B6.out)) s0 s1 s2 s3 s4 s5 FS.out).mono ?_
      rintro e w7 ⟨rfl, b⟩
      have KS := hid_ (Bx.new w7 27 [.int .u64 s0, .string s1, .string s2, .bool s3, .int .i64 s4, .int .i64 s5])
      have B8 := hid_ (b.alloc (.cells #[.int .u64 s0, .string s1, .string s2, .bool s3, .int .i64 s4, .int .i64 s5] 27))
      clear b g1
      have t0 := B8.out.cell_ (B6.out.cell_ D0.out)
      have t1 := B8.out.cell_ (B6.out.cell_ D1.out)
      have t2 := B8.out.cell_ (B6.out.cell_ D2.out)
      have t3 := B8.out.cell_ (B6.out.cell_ D3.out)
      have e0 := (KB.out.bel B8.out).cell 0 rfl
      have e1 := (KB.out.bel B8.out).cell 1 rfl
      have e2 := (KB.out.bel B8.out).cell 2 rfl
      have e3 := (KB.out.bel B8.out).cell 3 rfl
      have e4 := (KB.out.bel B8.out).cell 4 rfl
      have e5 := (KB.out.bel B8.out).cell 5 rfl
      have f0 := KS.out.cell 0 rfl
      have f1 := KS.out.cell 1 rfl
      have f2 := KS.out.cell 2 rfl
      have f3 := KS.out.cell 3 rfl
      have f4 := KS.out.cell 4 rfl
      have f5 := KS.out.cell 5 rfl
      go_wp2_with fail
      generalize w7.alloc (.cells #[.int .u64 s0, .string s1, .string s2, .bool s3, .int .i64 s4, .int .i64 s5] 27) = w8 at KS B8 t0 t1 t2 t3 e0 e1 e2 e3 e4 e5 f0 f1 f2 f3 f4 f5 ⊢
      generalize w7.heap.size = gs at KS f0 f1 f2 f3 f4 f5 ⊢
      have HST : Hid (duesAt ⟨tb, ts', tq, tp⟩ os = none → fo = [] ∧ fe = 150) := hid_ (by
        intro h
        obtain ⟨x, h1, h2⟩ := hx.out
        have := allD_stop HO.out h1 h
        rw [← HFO.out, ← HFE.out]
        unfold allO allE
        rw [this]
        exact ⟨rfl, rfl⟩)
      go_region_held3 (fun W => (W.cell? (ad.add (j * 4)) = some (.int .u64 tb) ∧ W.cell? ⟨(ad.add (j * 4)).block, (ad.add (j * 4)).off + 1, none⟩ = some (.int .u64 ts') ∧ W.cell? ⟨(ad.add (j * 4)).block, (ad.add (j * 4)).off + 2, none⟩ = some (.int .i64 tq) ∧ W.cell? ⟨(ad.add (j * 4)).block, (ad.add (j * 4)).off + 3, none⟩ = some (.int .i64 tp))
          ∧ (W.cell? ⟨gb, 0, none⟩ = some (.int .u64 b0) ∧ W.cell? ⟨gb, 1, none⟩ = some (.string b1) ∧ W.cell? ⟨gb, 2, none⟩ = some (.string b2) ∧ W.cell? ⟨gb, 3, none⟩ = some (.bool b3) ∧ W.cell? ⟨gb, 4, none⟩ = some (.int .i64 b4) ∧ W.cell? ⟨gb, 5, none⟩ = some (.int .i64 b5))
          ∧ (W.cell? ⟨gs, 0, none⟩ = some (.int .u64 s0) ∧ W.cell? ⟨gs, 1, none⟩ = some (.string s1) ∧ W.cell? ⟨gs, 2, none⟩ = some (.string s2) ∧ W.cell? ⟨gs, 3, none⟩ = some (.bool s3) ∧ W.cell? ⟨gs, 4, none⟩ = some (.int .i64 s4) ∧ W.cell? ⟨gs, 5, none⟩ = some (.int .i64 s5)))
        (first | with_reducible exact ⟨⟨b7.cell_ t0, b7.cell_ t1, b7.cell_ t2, b7.cell_ t3⟩, ⟨b7.cell_ e0, b7.cell_ e1, b7.cell_ e2, b7.cell_ e3, b7.cell_ e4, b7.cell_ e5⟩, ⟨b7.cell_ f0, b7.cell_ f1, b7.cell_ f2, b7.cell_ f3, b7.cell_ f4, b7.cell_ f5⟩⟩ | exact ⟨⟨t0, t1, t2, t3⟩, ⟨e0, e1, e2, e3, e4, e5⟩, ⟨f0, f1, f2, f3, f4, f5⟩⟩)
        (first
        | (go_at_call 17; with_reducible refine' Calls.mono (refDues_any tb ts' tq tp b0 b1 b2 b3 b4 b5 s0 s1 s2 s3 s4 s5 _ Z1.out.1 Z1.out.2 Z2.out.1 Z2.out.2) ?_; rintro e w9 ⟨A7, n7, c7, rfl, r7, b⟩; have b7 : Bel w8 w9 := Bel.trans (by (repeat first | with_reducible exact Bel.refl _ | apply Bel.drew)) b))
      have B7 := hid_ b7
      have R7 := hid_ r7
      have E7 := hid_ (((BR.out.trans B6.out).trans B8.out).trans b7)
      have X7 : Hid (∃ x, allD (ts.take j) os = some x ∧ Own dueT w9 w.heap.size u6 x) := hid_ (by
        obtain ⟨x, h1, h2⟩ := hx.out
        exact ⟨x, h1, h2.bel ((B6.out.trans B8.out).trans b7)⟩)
      clear b7 r7 b t0 t1 t2 t3 e0 e1 e2 e3 e4 e5 f0 f1 f2 f3 f4 f5 hx KB KS B5 B6 B8 D0 D1 D2 D3
      obtain ⟨q1, hq1⟩ : ∃ q, firstB os tb = q := ⟨_, rfl⟩
      obtain ⟨q2, hq2⟩ : ∃ q, firstB os ts' = q := ⟨_, rfl⟩
      rw [hq1, hq2]
      have Q1 := hid_ hq1
      have Q2 := hid_ hq2
      clear hq1 hq2
      cases q1
      · have HF := hid_ (HST.out (refNo1 Q1.out))
        clear HST HO X7 R7 B7 Z1 Z2
        go_wp2
        go_ret2
        exact ⟨none, 0, 0, by rw [HF.out.2]; rfl, by rw [HF.out.1]; exact Row.none_ _ _ _, E7.out⟩
      cases q2
      · have HF := hid_ (HST.out (refNo2 Q2.out))
        clear HST HO X7 R7 B7 Z1 Z2
        go_wp2
        go_ret2
        exact ⟨none, 0, 0, by rw [HF.out.2]; rfl, by rw [HF.out.1]; exact Row.none_ _ _ _, E7.out⟩
      have HDE := hid_ (refAt (t := ⟨tb, ts', tq, tp⟩) Q1.out Q2.out)
      obtain ⟨fp, hfp⟩ : ∃ fp, fitsP ⟨tb, ts', tq, tp⟩ ⟨b0, b1, b2, b3, b4, b5⟩ ⟨s0, s1, s2, s3, s4, s5⟩ = fp := ⟨_, rfl⟩
      cases fp
      · rw [(dues_0 hfp).2]
        have HF := hid_ (HST.out (by rw [HDE.out]; show (if fitsP _ (firstO os tb) (firstO os ts') then _ else _) = none; rw [FB.out, FS.out, hfp]; rfl))
        clear HST HO X7 HDE hfp R7 B7 Z1 Z2
        go_wp2
        go_ret2
        exact ⟨none, 0, 0, by rw [HF.out.2]; rfl, by rw [HF.out.1]; exact Row.none_ _ _ _, E7.out⟩
      rw [(dues_1 hfp).2]
      have HR : Hid (∃ x y, duesAt ⟨tb, ts', tq, tp⟩ os = some y ∧ y.length = 4 ∧ allD (ts.take j) os = some x ∧ x.length ≤ 80000 ∧ Own dueT w9 w.heap.size u6 x ∧ Row dueT w9 A7 n7 y) := hid_ (by
        obtain ⟨x, h1, h2⟩ := X7.out
        have h3 := R7.out
        rw [(dues_1 hfp).1] at h3
        refine ⟨x, _, by rw [HDE.out]; show (if fitsP _ (firstO os tb) (firstO os ts') then _ else _) = _; rw [FB.out, FS.out, hfp]; rfl, rfl, h1, ?_, h2, h3⟩
        have := allD_len _ _ _ h1
        have h4 := List.length_take_le j ts
        rw [this]
        have := HN.out
        omega)
      clear HST B7 HDE hfp R7 X7 Z1 Z2
      obtain ⟨x, y, hy, hy4, hx, hxl, hO, hR⟩ := HR.out
      have HX : Hid (allD (ts.take (j + 1)) os = some (x ++ y)) := hid_ (by rw [allD_step HO.out hx, hy]; rfl)
      have HOO := hid_ hO
      have HRR := hid_ hR
      have HLL : Hid (x.length ≤ 80000 ∧ n7 = 4) := hid_ ⟨hxl, by rw [← hy4]; exact hR.1.symm⟩
      clear HR hx hy HO hO hR hxl hy4 FB FS
      go_wp2_with (at_builtin; refine wpApp (w0 := w) dueS rfl _ _ rfl _ x y A7 n7 c7 rfl rfl HOO.out HRR.out E7.out (by have := HLL.out; omega) ?_; intro v1 x1 hO1 hb1 _ _)
      case roundEnd =>
        go_roundw
        case rel => exact ⟨j + 1, by omega, by go_num, hid_ ⟨_, HX.out, hO1⟩, hb1⟩
        case measure => simp [intOf]; omega
    · obtain rfl : j = n := by omega
      have HF : Hid (fe = 0 ∧ ∃ A c, u6 = .slice A fo.length c ∧ Row dueT wr A fo.length fo) := hid_ (by
        obtain ⟨x, h1, h2⟩ := hx.out
        have hfull : ts.take j = ts := by rw [← HA.out.1, List.take_length]
        rw [hfull] at h1
        have e1 : fo = x := by rw [← HFO.out]; unfold allO; rw [h1]; rfl
        have e2 : fe = 0 := by rw [← HFE.out]; unfold allE; rw [h1]; rfl
        subst e1
        obtain ⟨A, c, e, _, r⟩ := h2.reads
        exact ⟨e2, A, c, e, r⟩)
      clear hx hbr HFE HFO HA HB HZ
      obtain ⟨e2, A9, c9, rfl, r9⟩ := HF.out
      have HR9 := hid_ r9
      have HE9 := hid_ e2
      clear HF e2 r9
      go_wp2
      go_ret2
      exact ⟨A9, _, c9, by rw [HE9.out]; rfl, HR9.out, BR.out⟩
end Go.Proofs.Ytgdonempmblhhaa
