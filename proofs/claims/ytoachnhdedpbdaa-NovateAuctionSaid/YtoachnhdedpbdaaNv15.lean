/- novate.All's closures, slices.IndexFunc with each (printed by mkidx.py). -/
import Derived.Test.YtoachnhdedpbdaaNv9
import Derived.Test.YtoachnhdedpbdaaNv10
import Derived.Test.YtoachnhdedpbdaaTyTrd
import Derived.Test.YtoachnhdedpbdaaBox
import Derived.Test.YtoachnhdedpbdaaTyDue
import Derived.Lib.AppendZerosOnto
set_option linter.unusedSimpArgs false
set_option linter.unusedVariables false
namespace Go.Proofs.Ytoachnhdedpbdaa
open Go.RowKit Go.Lib
def fit1 (q : Int) (o : Ord) : Bool := checkB o.who o.market o.price o.left && decide (q ≤ o.left)
def fitsP (t : Trd) (b s : Ord) : Bool := fit1 t.quantity b && (fit1 t.quantity s && (b.buy && (!s.buy && (decide (t.buy = b.number) && (decide (t.sell = s.number) && (decide (b.market = s.market) && (decide (1 ≤ t.quantity) && (decide (t.price ≤ b.price) && decide (s.price ≤ t.price)))))))))
/-- A text that came in is no longer than it may be. -/
def ordSz (o : Ord) : Prop := o.who.size ≤ 4294967280 ∧ o.market.size ≤ 4294967280
set_option maxRecDepth 10000 in
set_option maxHeartbeats 4000000 in
theorem fits_any (tb ts tq tp b0 : Int) (b1 b2 : ByteArray) (b3 : Bool) (b4 b5 s0 : Int) (s1 s2 : ByteArray) (s3 : Bool) (s4 s5 : Int) (w : World) (hb1 : b1.size ≤ 4294967280) (hb2 : b2.size ≤ 4294967280) (hs1 : s1.size ≤ 4294967280) (hs2 : s2.size ≤ 4294967280) :
    Calls Try.prog 70 #[.agg #[.int .u64 tb, .int .u64 ts, .int .i64 tq, .int .i64 tp], .agg #[.int .u64 b0, .string b1, .string b2, .bool b3, .int .i64 b4, .int .i64 b5], .agg #[.int .u64 s0, .string s1, .string s2, .bool s3, .int .i64 s4, .int .i64 s5]] w fun e w' => e = .returned (.bool (fitsP ⟨tb, ts, tq, tp⟩ ⟨b0, b1, b2, b3, b4, b5⟩ ⟨s0, s1, s2, s3, s4, s5⟩)) ∧ Bel w w' := by
  obtain ⟨fp, hfp⟩ : ∃ fp, fitsP ⟨tb, ts, tq, tp⟩ ⟨b0, b1, b2, b3, b4, b5⟩ ⟨s0, s1, s2, s3, s4, s5⟩ = fp := ⟨_, rfl⟩
  rw [hfp]
  have HFP := hid_ hfp
  clear hfp
  have z1 := sizeAl w (.cells #[.int .u64 tb, .int .u64 ts, .int .i64 tq, .int .i64 tp] 65)
  have z2 := sizeAl (w.alloc (.cells #[.int .u64 tb, .int .u64 ts, .int .i64 tq, .int .i64 tp] 65)) (.cells #[.int .u64 b0, .string b1, .string b2, .bool b3, .int .i64 b4, .int .i64 b5] 30)
  rw [z1] at z2
  have z3 := sizeAl ((w.alloc (.cells #[.int .u64 tb, .int .u64 ts, .int .i64 tq, .int .i64 tp] 65)).alloc (.cells #[.int .u64 b0, .string b1, .string b2, .bool b3, .int .i64 b4, .int .i64 b5] 30)) (.cells #[.int .u64 s0, .string s1, .string s2, .bool s3, .int .i64 s4, .int .i64 s5] 30)
  rw [z2] at z3
  have kt : Bx (((w.alloc (.cells #[.int .u64 tb, .int .u64 ts, .int .i64 tq, .int .i64 tp] 65)).alloc (.cells #[.int .u64 b0, .string b1, .string b2, .bool b3, .int .i64 b4, .int .i64 b5] 30)).alloc (.cells #[.int .u64 s0, .string s1, .string s2, .bool s3, .int .i64 s4, .int .i64 s5] 30)) w.heap.size 65 [.int .u64 tb, .int .u64 ts, .int .i64 tq, .int .i64 tp] := ((Bx.new w _ _).alloc _).alloc _
  have kb := (Bx.new (w.alloc (.cells #[.int .u64 tb, .int .u64 ts, .int .i64 tq, .int .i64 tp] 65)) 30 [.int .u64 b0, .string b1, .string b2, .bool b3, .int .i64 b4, .int .i64 b5]).alloc (.cells #[.int .u64 s0, .string s1, .string s2, .bool s3, .int .i64 s4, .int .i64 s5] 30)
  rw [z1] at kb
  have ks := Bx.new ((w.alloc (.cells #[.int .u64 tb, .int .u64 ts, .int .i64 tq, .int .i64 tp] 65)).alloc (.cells #[.int .u64 b0, .string b1, .string b2, .bool b3, .int .i64 b4, .int .i64 b5] 30)) 30 [.int .u64 s0, .string s1, .string s2, .bool s3, .int .i64 s4, .int .i64 s5]
  rw [z2] at ks
  have hb : Bel w (((w.alloc (.cells #[.int .u64 tb, .int .u64 ts, .int .i64 tq, .int .i64 tp] 65)).alloc (.cells #[.int .u64 b0, .string b1, .string b2, .bool b3, .int .i64 b4, .int .i64 b5] 30)).alloc (.cells #[.int .u64 s0, .string s1, .string s2, .bool s3, .int .i64 s4, .int .i64 s5] 30)) := (((Bel.refl w).alloc _).alloc _).alloc _
  have rl0 := Row.lit (T := ordT) (((w.alloc (.cells #[.int .u64 tb, .int .u64 ts, .int .i64 tq, .int .i64 tp] 65)).alloc (.cells #[.int .u64 b0, .string b1, .string b2, .bool b3, .int .i64 b4, .int .i64 b5] 30)).alloc (.cells #[.int .u64 s0, .string s1, .string s2, .bool s3, .int .i64 s4, .int .i64 s5] 30)) [⟨b0, b1, b2, b3, b4, b5⟩, ⟨s0, s1, s2, s3, s4, s5⟩] (0, 0) (by simp)
  rw [z3] at rl0
  have rl : Row ordT ((((w.alloc (.cells #[.int .u64 tb, .int .u64 ts, .int .i64 tq, .int .i64 tp] 65)).alloc (.cells #[.int .u64 b0, .string b1, .string b2, .bool b3, .int .i64 b4, .int .i64 b5] 30)).alloc (.cells #[.int .u64 s0, .string s1, .string s2, .bool s3, .int .i64 s4, .int .i64 s5] 30)).alloc (.cells (List.flatMap ordT.enc [⟨b0, b1, b2, b3, b4, b5⟩, ⟨s0, s1, s2, s3, s4, s5⟩]).toArray ordT.e)) (some ⟨w.heap.size + 3, 0, none⟩) 2 [⟨b0, b1, b2, b3, b4, b5⟩, ⟨s0, s1, s2, s3, s4, s5⟩] := rl0
  have KT := hid_ (kt.alloc (.cells (List.flatMap ordT.enc [⟨b0, b1, b2, b3, b4, b5⟩, ⟨s0, s1, s2, s3, s4, s5⟩]).toArray ordT.e))
  have KB := hid_ (kb.alloc (.cells (List.flatMap ordT.enc [⟨b0, b1, b2, b3, b4, b5⟩, ⟨s0, s1, s2, s3, s4, s5⟩]).toArray ordT.e))
  have KS := hid_ (ks.alloc (.cells (List.flatMap ordT.enc [⟨b0, b1, b2, b3, b4, b5⟩, ⟨s0, s1, s2, s3, s4, s5⟩]).toArray ordT.e))
  have HB := hid_ (hb.alloc (.cells (List.flatMap ordT.enc [⟨b0, b1, b2, b3, b4, b5⟩, ⟨s0, s1, s2, s3, s4, s5⟩]).toArray ordT.e))
  have RL := hid_ rl
  have SZ : Hid ((b1.size ≤ 4294967280 ∧ b2.size ≤ 4294967280) ∧ (s1.size ≤ 4294967280 ∧ s2.size ≤ 4294967280)) := hid_ ⟨⟨hb1, hb2⟩, ⟨hs1, hs2⟩⟩
  clear z1 z2 z3 kt kb ks hb rl rl0 hb1 hb2 hs1 hs2
  go_enter Try.func70, Try.ntmps70
  go_wp2_with fail
  obtain ⟨W4, hW4⟩ : ∃ W4, (((w.alloc (.cells #[.int .u64 tb, .int .u64 ts, .int .i64 tq, .int .i64 tp] 65)).alloc (.cells #[.int .u64 b0, .string b1, .string b2, .bool b3, .int .i64 b4, .int .i64 b5] 30)).alloc (.cells #[.int .u64 s0, .string s1, .string s2, .bool s3, .int .i64 s4, .int .i64 s5] 30)).alloc (.cells (List.flatMap ordT.enc [⟨b0, b1, b2, b3, b4, b5⟩, ⟨s0, s1, s2, s3, s4, s5⟩]).toArray ordT.e) = W4 := ⟨_, rfl⟩
  rw [hW4] at KT KB KS HB RL
  have hW4' : (((w.alloc (.cells #[.int .u64 tb, .int .u64 ts, .int .i64 tq, .int .i64 tp] 65)).alloc (.cells #[.int .u64 b0, .string b1, .string b2, .bool b3, .int .i64 b4, .int .i64 b5] 30)).alloc (.cells #[.int .u64 s0, .string s1, .string s2, .bool s3, .int .i64 s4, .int .i64 s5] 30)).alloc (.cells #[.int .u64 b0, .string b1, .string b2, .bool b3, .int .i64 b4, .int .i64 b5, .int .u64 s0, .string s1, .string s2, .bool s3, .int .i64 s4, .int .i64 s5] 30) = W4 := hW4
  rw [hW4']
  clear hW4 hW4'
  generalize (⟨w.heap.size + 3, 0, none⟩ : Addr) = AD at RL ⊢
  go_loopw [14] (fun i wr => ∃ j : Nat, j ≤ 2 ∧ i = .int .i64 j ∧ Hid (∀ k o, k < j → [(⟨b0, b1, b2, b3, b4, b5⟩ : Ord), ⟨s0, s1, s2, s3, s4, s5⟩][k]? = some o → fit1 tq o = true) ∧ Bel W4 wr) (fun i _ => 2 - (intOf i).toNat)
  case atStart => exact ⟨0, by omega, rfl, hid_ (fun k o h => absurd h (by omega)), Bel.refl _⟩
  case round =>
    obtain ⟨j, hj, rfl, hx, hbr⟩ := hrel
    have BR := hid_ hbr
    have t2 := (KT.out.bel hbr).cell 2 rfl
    clear hbr
    by_cases hj2 : j < 2
    · obtain ⟨ad, o0, o1, o2, o3, o4, o5, e, ho, d0, d1, d2, d3, d4, d5⟩ := (RL.out.bel BR.out).ord hj2
      cases e
      have HO := hid_ ho
      have SO : Hid (o1.size ≤ 4294967280 ∧ o2.size ≤ 4294967280) := hid_ (by
        rcases j with _ | _ | j
        · simp at ho; obtain ⟨_, rfl, rfl, _⟩ := ho; exact SZ.out.1
        · simp at ho; obtain ⟨_, rfl, rfl, _⟩ := ho; exact SZ.out.2
        · omega)
      clear ho
      go_wp2_with fail
      refine (orderCheck_any o0 o1 o2 o3 o4 o5 _ SO.out.1 SO.out.2).mono ?_
      rintro e w5 ⟨rfl, b⟩
      have b5 : Bel W4 w5 := BR.out.trans (((Bel.refl wr).alloc _).trans b)
      have KO := hid_ ((Bx.new wr 30 [.int .u64 o0, .string o1, .string o2, .bool o3, .int .i64 o4, .int .i64 o5]).bel b)
      have BR5 := hid_ b5
      clear d0 d1 d2 d3 d4 d5 t2
      have t2 := (KT.out.bel b5).cell 2 rfl
      have q5 := KO.out.cell 5 rfl
      clear b b5
      obtain ⟨cb, hcb⟩ : ∃ cb, checkB o1 o2 o4 o5 = cb := ⟨_, rfl⟩
      have CB := hid_ hcb
      clear hcb
      have hbad : fit1 tq ⟨o0, o1, o2, o3, o4, o5⟩ = false → fp = false := by
        intro hf
        rw [← HFP.out]
        have h1 := HO.out
        rcases j with _ | _ | j
        · have h2 : (⟨b0, b1, b2, b3, b4, b5⟩ : Ord) = ⟨o0, o1, o2, o3, o4, o5⟩ := by simpa using h1
          unfold fitsP
          rw [h2, hf]
          rfl
        · have h2 : (⟨s0, s1, s2, s3, s4, s5⟩ : Ord) = ⟨o0, o1, o2, o3, o4, o5⟩ := by simpa using h1
          unfold fitsP
          rw [h2, hf, Bool.false_and, Bool.and_false]
        · simp at h1
      have HBAD := hid_ hbad
      clear hbad
      cases cb
      · have HF : Hid (fp = false) := hid_ (HBAD.out (by unfold fit1; rw [CB.out]; rfl))
        rw [check_no CB.out]
        go_wp2
        go_ret
        exact ⟨by rw [HF.out]; rfl, HB.out.trans BR5.out⟩
      rw [check_yes CB.out]
      by_cases hq : o5 < tq
      · have HF : Hid (fp = false) := hid_ (HBAD.out (by unfold fit1; rw [decide_eq_false (show ¬ tq ≤ o5 by omega), Bool.and_false]))
        go_wp2
        go_ret
        exact ⟨by rw [HF.out]; rfl, HB.out.trans BR5.out⟩
      · have HN : Hid (∀ k o, k < j + 1 → [(⟨b0, b1, b2, b3, b4, b5⟩ : Ord), ⟨s0, s1, s2, s3, s4, s5⟩][k]? = some o → fit1 tq o = true) := hid_ (by
          intro k o hk hko
          rcases Nat.lt_or_ge k j with h | h
          · exact hx.out k o h hko
          · obtain rfl : k = j := by omega
            rw [HO.out] at hko
            cases hko
            unfold fit1
            rw [CB.out, decide_eq_true (show tq ≤ o5 by omega)]
            rfl)
        clear HBAD hx HO SO CB
        go_wp2
        case roundEnd =>
          go_roundw
          case rel => exact ⟨j + 1, by omega, by go_num, HN, BR5.out⟩
          case measure => simp [intOf]; omega
    · obtain rfl : j = 2 := by omega
      have f1 : fit1 tq ⟨b0, b1, b2, b3, b4, b5⟩ = true := hx.out 0 _ (by omega) rfl
      have f2 : fit1 tq ⟨s0, s1, s2, s3, s4, s5⟩ = true := hx.out 1 _ (by omega) rfl
      have hfp := HFP.out
      unfold fitsP at hfp
      rw [f1, f2, Bool.true_and, Bool.true_and] at hfp
      have HFP2 := hid_ hfp
      have HE := hid_ (HB.out.trans BR.out)
      have u0 := (KT.out.bel BR.out).cell 0 rfl
      have u1 := (KT.out.bel BR.out).cell 1 rfl
      have u3 := (KT.out.bel BR.out).cell 3 rfl
      have v0 := (KB.out.bel BR.out).cell 0 rfl
      have v2 := (KB.out.bel BR.out).cell 2 rfl
      have v3 := (KB.out.bel BR.out).cell 3 rfl
      have v4 := (KB.out.bel BR.out).cell 4 rfl
      have x0 := (KS.out.bel BR.out).cell 0 rfl
      have x2 := (KS.out.bel BR.out).cell 2 rfl
      have x3 := (KS.out.bel BR.out).cell 3 rfl
      have x4 := (KS.out.bel BR.out).cell 4 rfl
      clear hfp f1 f2 hx HFP KT KB KS HB RL SZ BR
      obtain ⟨em, hem⟩ : ∃ em, decide (b2 = s2) = em := ⟨_, rfl⟩
      have e1 := bytesEq b2 s2
      rw [hem] at e1
      have EM := hid_ hem
      clear hem
      cases b3
      · have HF : Hid (fp = false) := hid_ (by rw [← HFP2.out]; rfl)
        clear HFP2
        go_wp2
        go_ret
        exact ⟨by rw [HF.out]; rfl, HE.out⟩
      cases s3
      · by_cases c1 : tb = b0
        · by_cases c2 : ts = s0
          · cases em
            · have HF : Hid (fp = false) := hid_ (by rw [← HFP2.out, EM.out]; simp)
              clear HFP2
              have g1 : (tb == b0) = true := by simp [c1]
              have g2 : (ts == s0) = true := by simp [c2]
              clear c1 c2
              go_wp2
              go_ret
              exact ⟨by rw [HF.out]; rfl, HE.out⟩
            · have g1 : (tb == b0) = true := by simp [c1]
              have g2 : (ts == s0) = true := by simp [c2]
              by_cases c3 : 1 ≤ tq
              · by_cases c4 : tp ≤ b4
                · by_cases c5 : s4 ≤ tp
                  · have HF : Hid (fp = true) := hid_ (by rw [← HFP2.out, EM.out, decide_eq_true c1, decide_eq_true c2, decide_eq_true c3, decide_eq_true c4, decide_eq_true c5]; rfl)
                    clear HFP2 c1 c2
                    go_wp2
                    go_ret
                    exact ⟨by rw [HF.out]; rfl, HE.out⟩
                  · have HF : Hid (fp = false) := hid_ (by rw [← HFP2.out, decide_eq_false c5]; simp)
                    clear HFP2 c1 c2
                    go_wp2
                    go_ret
                    exact ⟨by rw [HF.out]; rfl, HE.out⟩
                · have HF : Hid (fp = false) := hid_ (by rw [← HFP2.out, decide_eq_false c4]; simp)
                  clear HFP2 c1 c2
                  go_wp2
                  go_ret
                  exact ⟨by rw [HF.out]; rfl, HE.out⟩
              · have HF : Hid (fp = false) := hid_ (by rw [← HFP2.out, decide_eq_false c3]; simp)
                clear HFP2 c1 c2
                go_wp2
                go_ret
                exact ⟨by rw [HF.out]; rfl, HE.out⟩
          · have HF : Hid (fp = false) := hid_ (by rw [← HFP2.out, decide_eq_false c2]; simp)
            have g1 : (tb == b0) = true := by simp [c1]
            have g2 : (ts == s0) = false := by simp [c2]
            clear HFP2 c1 c2
            go_wp2
            go_ret
            exact ⟨by rw [HF.out]; rfl, HE.out⟩
        · have HF : Hid (fp = false) := hid_ (by rw [← HFP2.out, decide_eq_false c1]; simp)
          have g1 : (tb == b0) = false := by simp [c1]
          clear HFP2 c1
          go_wp2
          go_ret
          exact ⟨by rw [HF.out]; rfl, HE.out⟩
      · have HF : Hid (fp = false) := hid_ (by rw [← HFP2.out]; rfl)
        clear HFP2
        go_wp2
        go_ret
        exact ⟨by rw [HF.out]; rfl, HE.out⟩
end Go.Proofs.Ytoachnhdedpbdaa
set_option linter.unusedSimpArgs false
set_option linter.unusedVariables false
namespace Go.Proofs.Ytoachnhdedpbdaa
open Go.RowKit Go.Lib
set_option maxRecDepth 10000 in
set_option maxHeartbeats 1000000 in
theorem growD_nil (n : Nat) (w : World) (hn : n ≤ 100000) :
    Calls Try.prog 99 #[.slice none 0 0, .int .i64 n] w fun e w' => ∃ v, e = .returned v ∧ Own dueT w' w.heap.size v [] ∧ Bel w w' := by
  have h1 : ¬ ((n : Int) < 0) := by omega
  have hw0 : wrap64 (n : Int) = n := IntWalk.wrap64_in _ (by omega)
  rcases Nat.eq_zero_or_pos n with h0 | h0
  · subst h0
    clear hw0 h1
    go_enter Try.func99, Try.ntmps99
    go_wp2
    go_ret
    exact ⟨_, rfl, Own.nil_ _ _ _, Bel.refl _⟩
  · obtain ⟨i0, hi, hzz⟩ := Option.map_eq_some_iff.1 dueS.info
    simp only [Prod.mk.injEq] at hzz
    obtain ⟨hz0, hz1, hz2⟩ := hzz
    have hs1 : i0.size = 3 := hz1
    have hold : (Builtin.firstCells i0.size 0 (.slice none 0 0)).run Try.prog w.drew = .ok ([] : List Value).toArray w.drew := run_firstCells_none w.drew i0.size 0 0 0
    have hrz0 : ∀ ty, (Builtin.append_ #[36, 3] ty #[.slice none 0 0, .int .i64 n]).run Try.prog w =
        .ok (.slice (some ⟨w.heap.size, 0, none⟩) (0 + n) (grownCap w (0 + n) 0 43)) (w.drew.alloc (.cells (([] : List Value).toArray ++ Builtin.zeroCells dueZ.cells n ++ Builtin.zeroCells dueZ.cells (grownCap w (0 + n) 0 43 - (0 + n))) 43)) := fun ty =>
      Lib.run_append_grow_zeros w 36 3 ty 43 i0 dueZ .i64 .i64 dueS.ut Try.underlying3 hi hz0 none 0 0 [] hold n h0 (by omega) (by omega) (by omega) (by rw [hz2]; omega) (by rw [hz2]; exact growslice_fits (by omega) (by omega))
    have hG1 : 0 + n ≤ grownCap w (0 + n) 0 43 := grownCap_ge w _ _ _
    have hG2 := grownCap_le_maxLen w (0 + n) 0 43 (by unfold maxLen; omega)
    have hcs : (([] : List Value).toArray ++ Builtin.zeroCells dueZ.cells n ++ Builtin.zeroCells dueZ.cells (grownCap w (0 + n) 0 43 - (0 + n))).size = grownCap w (0 + n) 0 43 * 3 := by
      simp only [Array.size_append, size_zeroCells]
      rw [show dueZ.cells.size = 3 from rfl, show (([] : List Value).toArray).size = 0 from rfl]
      omega
    obtain ⟨cs, hcs0⟩ : ∃ cs, ([] : List Value).toArray ++ Builtin.zeroCells dueZ.cells n ++ Builtin.zeroCells dueZ.cells (grownCap w (0 + n) 0 43 - (0 + n)) = cs := ⟨_, rfl⟩
    rw [hcs0] at hcs
    simp only [hcs0] at hrz0
    have HO : Hid (Own dueT (w.alloc (.cells cs 43)).drew w.heap.size (.slice (some ⟨w.heap.size, 0, none⟩) 0 (grownCap w (0 + n) 0 43)) []) :=
      ⟨rfl, .inr ⟨w.heap.size, _, cs, rfl, Nat.le_refl _, heap_alloc_new w _, Nat.zero_le _, hG2, hcs, by simp⟩⟩
    clear hold hcs hcs0
    generalize grownCap w (0 + n) 0 43 = G at *
    have hm : maxLen = 9223372036854775807 := by decide
    rw [hm] at hG2
    simp only [Nat.zero_add] at hrz0 hG1
    have h2 : (0 : Int) < (n : Int) := by omega
    clear hi hz0 hz1 hz2 hs1 hm
    go_enter Try.func99, Try.ntmps99
    go_wp2_with (at_builtin; refine Lib.wpList_append_run _ rfl _ _ _ _ rfl _ _ rfl rfl _ _ (hrz0 _) ?_)
    all_goals go_ret
    all_goals exact ⟨_, rfl, HO.out, ((Bel.refl _).alloc _).drew⟩

/-- A slice of slices: its elements. -/
abbrev DV := Option Addr × Nat × Nat
def dvT : Ty DV where
  e := 36
  sz := 1
  enc := fun s => [.slice s.1 s.2.1 s.2.2]
  pos := by decide
  len := fun _ => rfl
  one := fun x u hu => by simp at hu; subst hu; rfl
theorem dvS : SlT Try.prog 117 dvT 24 (.slice none 0 0) where
  ut := by kernel_rfl
  info := by kernel_rfl
  zs := rfl
  by0 := by decide
theorem Row.dv {w : World} {A : Option Addr} {n : Nat} {l : List DV} (h : Row dvT w A n l) {k : Nat} (hk : k < n) :
    ∃ ad X m c, A = some ad ∧ l[k]? = some (X, m, c) ∧ w.cell? (ad.add k) = some (.slice X m c) := by
  obtain ⟨ad, x, e, ho, h0, _⟩ := h.at_ hk
  refine ⟨ad, x.1, x.2.1, x.2.2, e, ho, ?_⟩
  have := h0 _ rfl
  rwa [show k * dvT.sz = k from Nat.mul_one k] at this
/-- The slices' own elements. -/
def RowsD (w : World) (ss : List DV) (xs : List (List Due)) : Prop := ss.length = xs.length ∧ ∀ (k : Nat) (s : DV) (x : List Due), ss[k]? = some s → xs[k]? = some x → Row dueT w s.1 s.2.1 x
theorem RowsD.bel {w w1 : World} {ss : List DV} {xs : List (List Due)} (h : RowsD w ss xs) (hb : Bel w w1) : RowsD w1 ss xs := ⟨h.1, fun k s x h1 h2 => (h.2 k s x h1 h2).bel hb⟩
theorem RowsD.at {w : World} {ss : List DV} {xs : List (List Due)} (h : RowsD w ss xs) {k : Nat} {s : DV} (hs : ss[k]? = some s) : ∃ x, xs[k]? = some x ∧ Row dueT w s.1 s.2.1 x := by
  have hk := (List.getElem?_eq_some_iff.1 hs).1
  rw [h.1] at hk
  exact ⟨xs[k], List.getElem?_eq_getElem hk, h.2 k s _ hs (List.getElem?_eq_getElem hk)⟩
theorem flat_take (xs : List (List Due)) (k : Nat) {x : List Due} (h : xs[k]? = some x) : (xs.take (k + 1)).flatten = (xs.take k).flatten ++ x := by
  rw [List.take_add_one, h]
  simp
theorem flat_le (xs : List (List Due)) (k : Nat) : (xs.take k).flatten.length ≤ xs.flatten.length := by
  conv => rhs; rw [← List.take_append_drop k xs, List.flatten_append, List.length_append]
  omega
set_option maxRecDepth 10000 in
set_option maxHeartbeats 100000 in
theorem concatD_any (A : Option Addr) (n c : Nat) (ss : List DV) (xs : List (List Due)) (w : World) (h1 : Row dvT w A n ss) (h2 : RowsD w ss xs) (hs : xs.flatten.length ≤ 100000) :
    Calls Try.prog 80 #[.slice A n c] w fun e w' => ∃ v, e = .returned v ∧ Own dueT w' w.heap.size v xs.flatten ∧ Bel w w' := by
  have hn := h1.2.1
  have HL : Hid (∀ k, (xs.take k).flatten.length ≤ 100000) := fun k => Nat.le_trans (flat_le xs k) hs
  clear hs
  go_enter Try.func80, Try.ntmps80
  go_wp2
  go_loop [3, 5, 11] (fun s _ i => ∃ k : Nat, k ≤ n ∧ i = .int .i64 k ∧ s = .int .i64 ((xs.take k).flatten.length : Nat)) (fun _ _ i => n - (intOf i).toNat)
  case atStart => exact ⟨0, by omega, rfl, rfl⟩
  case round =>
    obtain ⟨k, hk, rfl, rfl⟩ := hrel
    by_cases hkn : k < n
    · obtain ⟨ad, X, m, cc, rfl, ho, d0⟩ := h1.dv hkn
      obtain ⟨x, hx, hr⟩ := h2.at ho
      have hm : x.length = m := hr.1
      have hf := flat_take xs k hx
      have hl1 := HL.out (k + 1)
      have hl0 := HL.out k
      rw [hf, List.length_append, hm] at hl1
      have hw : wrap64 ((((xs.take k).flatten.length : Nat) : Int) + (m : Int)) = (((xs.take k).flatten.length + m : Nat) : Int) := by rw [IntWalk.wrap64_in _ (by omega)]; omega
      have hlen : (xs.take (k + 1)).flatten.length = (xs.take k).flatten.length + m := by rw [hf, List.length_append, hm]
      have HF := hid_ hlen
      generalize (xs.take k).flatten.length = q at *
      have hneg : ¬ ((q : Int) + (m : Int) < 0) := by omega
      clear hf hr hx ho hm hlen hl0
      go_wp2
      case roundEnd =>
        go_round
        case rel => exact ⟨k + 1, by omega, by go_num, by rw [HF.out]; rfl⟩
        case measure => simp [intOf]; omega
    · have : k = n := by omega
      subst this
      have hlk := HL.out k
      generalize (xs.take k).flatten.length = q at hlk ⊢
      go_wp2_with fail
      refine (growD_nil q _ hlk).mono ?_
      rintro e w1 ⟨v0, rfl, o, b⟩
      clear hlk
      go_wp2_with fail
      go_loopw [6, 8, 27] (fun v _ i wr => ∃ j : Nat, j ≤ k ∧ i = .int .i64 j ∧ Own dueT wr w.heap.size v (xs.take j).flatten ∧ Bel w wr) (fun _ _ i _ => k - (intOf i).toNat)
      case atStart => exact ⟨0, by omega, rfl, o, b⟩
      case round =>
        obtain ⟨j, hj, rfl, hO, hbr⟩ := hrel
        by_cases hjn : j < k
        · obtain ⟨ad, X, m, cc, rfl, ho, d0⟩ := (h1.bel hbr).dv hjn
          obtain ⟨x, hx, hr⟩ := (h2.bel hbr).at ho
          have hm : x.length = m := hr.1
          have hf := flat_take xs j hx
          have hl1 := HL.out (j + 1)
          rw [hf, List.length_append, hm] at hl1
          have HF := hid_ hf
          have HL1 := hid_ hl1
          have HO := hid_ hO
          have HR := hid_ hr
          clear hf hl1 hx ho hm h1 hO hr o b
          go_wp2_with (at_builtin; refine wpApp (w0 := w) dueS rfl _ _ rfl _ (xs.take j).flatten x X m cc rfl rfl HO.out HR.out hbr (by have := HL1.out; omega) ?_; intro v1 x1 hO1 hb1 _ _)
          case roundEnd =>
            go_roundw
            case rel => exact ⟨j + 1, by omega, by go_num, by rw [HF.out]; exact hO1, hb1⟩
            case measure => simp [intOf]; omega
        · have hjk : j = k := by omega
          clear hj hjn
          subst hjk
          have hfull : xs.take j = xs := by rw [← h1.1, h2.1, List.take_length]
          rw [hfull] at hO
          have HO := hid_ hO
          clear hO hfull o b h1 h2 HL
          go_wp2
          go_ret
          exact ⟨_, rfl, HO.out, hbr⟩
end Go.Proofs.Ytoachnhdedpbdaa
set_option linter.unusedSimpArgs false
set_option linter.unusedVariables false
namespace Go.Proofs.Ytoachnhdedpbdaa
open Go.RowKit Go.Lib
set_option maxRecDepth 10000 in
theorem joined_any (A : Option Addr) (n c : Nat) (ss : List DV) (xs : List (List Due)) (w : World) (h1 : Row dvT w A n ss) (h2 : RowsD w ss xs) (hs : xs.flatten.length ≤ 100000) :
    Calls Try.prog 49 #[.slice A n c] w fun e w' => ∃ v, e = .returned v ∧ Own dueT w' w.heap.size v xs.flatten ∧ Bel w w' := by
  go_enter Try.func49, Try.ntmps49
  go_wp2_with fail
  refine (concatD_any A n c ss xs w h1 h2 hs).mono ?_
  rintro e w1 ⟨v, rfl, o, b⟩
  have HO := hid_ o
  have HB := hid_ b
  clear o b h1 h2 hs
  go_wp2
  go_ret
  exact ⟨_, rfl, HO.out, HB.out⟩
/-- Two dues of one party. -/
def twoD (who a c : ByteArray) (x y : Int) : List Due := [⟨who, a, x⟩, ⟨who, c, y⟩]
set_option maxRecDepth 10000 in
theorem dues1_any (who a c : ByteArray) (x y : Int) (ga gc : Nat) (w : World) (h1 : w.cell? ⟨ga, 0, none⟩ = some (.string a)) (h2 : w.cell? ⟨gc, 0, none⟩ = some (.string c)) :
    Calls Try.prog 71 #[.string who, .int .i64 x, .int .i64 y, .pointer (some ⟨ga, 0, none⟩), .pointer (some ⟨gc, 0, none⟩)] w fun e w' => ∃ A, e = .returned (.slice A 2 2) ∧ Row dueT w' A 2 (twoD who a c x y) ∧ Bel w w' := by
  have hr := Row.lit (T := dueT) w (twoD who a c x y) (0, 0) (by simp [twoD])
  have HR : Hid (Row dueT (w.alloc (.cells #[.string who, .string a, .int .i64 x, .string who, .string c, .int .i64 y] 43)) (some ⟨w.heap.size, 0, none⟩) 2 (twoD who a c x y)) := hid_ hr
  clear hr
  go_enter Try.func71, Try.ntmps71
  go_wp2
  go_ret
  exact ⟨_, rfl, HR.out, (Bel.refl _).alloc _⟩
end Go.Proofs.Ytoachnhdedpbdaa
set_option linter.unusedSimpArgs false
set_option linter.unusedVariables false
namespace Go.Proofs.Ytoachnhdedpbdaa
open Go.RowKit Go.Lib
def duesL (t : Trd) (b s : Ord) : List Due := twoD b.who (headB b.market) (tailB b.market) t.quantity (-(t.price * t.quantity)) ++ twoD s.who (headB b.market) (tailB b.market) (-t.quantity) (t.price * t.quantity)
def duesO (t : Trd) (b s : Ord) : List Due := if fitsP t b s then duesL t b s else []
def duesE (t : Trd) (b s : Ord) : Int := if fitsP t b s then 0 else 150
theorem fitsP_nums {t : Trd} {b s : Ord} (h : fitsP t b s = true) : ∃ p q : Nat, t.price = (p : Int) ∧ t.quantity = (q : Int) ∧ p ≤ 1000000 ∧ q ≤ 1000000 ∧ marketB b.market = true := by
  simp only [fitsP, fit1, checkB, withinB, Bool.and_eq_true, decide_eq_true_eq] at h
  refine ⟨t.price.toNat, t.quantity.toNat, ?_, ?_, ?_, ?_, ?_⟩
  · omega
  · omega
  · omega
  · omega
  · exact h.1.1.1
theorem dues_0 {t : Trd} {b s : Ord} (h : fitsP t b s = false) : duesO t b s = [] ∧ duesE t b s = 150 := by simp [duesO, duesE, h]
theorem dues_1 {t : Trd} {b s : Ord} (h : fitsP t b s = true) : duesO t b s = duesL t b s ∧ duesE t b s = 0 := by simp [duesO, duesE, h]
theorem rowsTwo (W : World) (A B : Option Addr) (n m : Nat) (c d : Nat) (xs ys : List Due) (h1 : Row dueT W A n xs) (h2 : Row dueT W B m ys) : RowsD W [(A, n, c), (B, m, d)] [xs, ys] := by
  refine ⟨rfl, fun k s x hs hx => ?_⟩
  rcases k with _ | _ | k
  · simp at hs hx; subst hs; subst hx; exact h1
  · simp at hs hx; subst hs; subst hx; exact h2
  · simp at hs
theorem litTwo (W w : World) (A B : Option Addr) (n m c d g : Nat) (hg : g = W.heap.size) (hb : Bel (W.alloc (.cells #[.slice A n c, .slice B m d] 36)) w) : Row dvT w (some ⟨g, 0, none⟩) 2 [(A, n, c), (B, m, d)] := by
  subst hg
  exact (Row.lit (T := dvT) W [(A, n, c), (B, m, d)] (0, 0) (by simp)).bel hb
set_option maxRecDepth 10000 in
set_option maxHeartbeats 1000000 in
theorem dues_any (tb ts tq tp b0 : Int) (b1 b2 : ByteArray) (b3 : Bool) (b4 b5 s0 : Int) (s1 s2 : ByteArray) (s3 : Bool) (s4 s5 : Int) (w : World) (hb1 : b1.size ≤ 4294967280) (hb2 : b2.size ≤ 4294967280) (hs1 : s1.size ≤ 4294967280) (hs2 : s2.size ≤ 4294967280) :
    Calls Try.prog 29 #[.agg #[.int .u64 tb, .int .u64 ts, .int .i64 tq, .int .i64 tp], .agg #[.int .u64 b0, .string b1, .string b2, .bool b3, .int .i64 b4, .int .i64 b5], .agg #[.int .u64 s0, .string s1, .string s2, .bool s3, .int .i64 s4, .int .i64 s5]] w fun e w' => ∃ A n c, e = .returned (.tuple #[.slice A n c, .int .i64 (duesE ⟨tb, ts, tq, tp⟩ ⟨b0, b1, b2, b3, b4, b5⟩ ⟨s0, s1, s2, s3, s4, s5⟩)]) ∧ Row dueT w' A n (duesO ⟨tb, ts, tq, tp⟩ ⟨b0, b1, b2, b3, b4, b5⟩ ⟨s0, s1, s2, s3, s4, s5⟩) ∧ Bel w w' := by
  obtain ⟨fo, hfo⟩ : ∃ fo, duesO ⟨tb, ts, tq, tp⟩ ⟨b0, b1, b2, b3, b4, b5⟩ ⟨s0, s1, s2, s3, s4, s5⟩ = fo := ⟨_, rfl⟩
  obtain ⟨fe, hfe⟩ : ∃ fe, duesE ⟨tb, ts, tq, tp⟩ ⟨b0, b1, b2, b3, b4, b5⟩ ⟨s0, s1, s2, s3, s4, s5⟩ = fe := ⟨_, rfl⟩
  rw [hfo, hfe]
  have HFO := hid_ hfo
  have HFE := hid_ hfe
  clear hfo hfe
  have z1 := sizeAl w (.cells #[.int .u64 tb, .int .u64 ts, .int .i64 tq, .int .i64 tp] 65)
  have z2 := sizeAl (w.alloc (.cells #[.int .u64 tb, .int .u64 ts, .int .i64 tq, .int .i64 tp] 65)) (.cells #[.int .u64 b0, .string b1, .string b2, .bool b3, .int .i64 b4, .int .i64 b5] 30)
  rw [z1] at z2
  have kt : Bx (((w.alloc (.cells #[.int .u64 tb, .int .u64 ts, .int .i64 tq, .int .i64 tp] 65)).alloc (.cells #[.int .u64 b0, .string b1, .string b2, .bool b3, .int .i64 b4, .int .i64 b5] 30)).alloc (.cells #[.int .u64 s0, .string s1, .string s2, .bool s3, .int .i64 s4, .int .i64 s5] 30)) w.heap.size 65 [.int .u64 tb, .int .u64 ts, .int .i64 tq, .int .i64 tp] := ((Bx.new w _ _).alloc _).alloc _
  have kb := (Bx.new (w.alloc (.cells #[.int .u64 tb, .int .u64 ts, .int .i64 tq, .int .i64 tp] 65)) 30 [.int .u64 b0, .string b1, .string b2, .bool b3, .int .i64 b4, .int .i64 b5]).alloc (.cells #[.int .u64 s0, .string s1, .string s2, .bool s3, .int .i64 s4, .int .i64 s5] 30)
  rw [z1] at kb
  have ks := Bx.new ((w.alloc (.cells #[.int .u64 tb, .int .u64 ts, .int .i64 tq, .int .i64 tp] 65)).alloc (.cells #[.int .u64 b0, .string b1, .string b2, .bool b3, .int .i64 b4, .int .i64 b5] 30)) 30 [.int .u64 s0, .string s1, .string s2, .bool s3, .int .i64 s4, .int .i64 s5]
  rw [z2] at ks
  have hb : Bel w (((w.alloc (.cells #[.int .u64 tb, .int .u64 ts, .int .i64 tq, .int .i64 tp] 65)).alloc (.cells #[.int .u64 b0, .string b1, .string b2, .bool b3, .int .i64 b4, .int .i64 b5] 30)).alloc (.cells #[.int .u64 s0, .string s1, .string s2, .bool s3, .int .i64 s4, .int .i64 s5] 30)) := (((Bel.refl w).alloc _).alloc _).alloc _
  have KT := hid_ kt
  have KB := hid_ kb
  have KS := hid_ ks
  have HB := hid_ hb
  have SZ : Hid ((b1.size ≤ 4294967280 ∧ b2.size ≤ 4294967280) ∧ (s1.size ≤ 4294967280 ∧ s2.size ≤ 4294967280)) := hid_ ⟨⟨hb1, hb2⟩, ⟨hs1, hs2⟩⟩
  clear z1 z2 kt kb ks hb hb1 hb2 hs1 hs2
  go_enter Try.func29, Try.ntmps29
  go_wp2_with fail
  generalize ((w.alloc (.cells #[.int .u64 tb, .int .u64 ts, .int .i64 tq, .int .i64 tp] 65)).alloc (.cells #[.int .u64 b0, .string b1, .string b2, .bool b3, .int .i64 b4, .int .i64 b5] 30)).alloc (.cells #[.int .u64 s0, .string s1, .string s2, .bool s3, .int .i64 s4, .int .i64 s5] 30) = W3 at KT KB KS HB ⊢
  generalize w.heap.size + 2 = gs at KS ⊢
  generalize w.heap.size + 1 = gb at KB ⊢
  obtain ⟨gt, hgt⟩ : ∃ gt, w.heap.size = gt := ⟨_, rfl⟩
  rw [hgt] at KT
  try rw [hgt]
  clear hgt
  refine (fits_any tb ts tq tp b0 b1 b2 b3 b4 b5 s0 s1 s2 s3 s4 s5 W3 SZ.out.1.1 SZ.out.1.2 SZ.out.2.1 SZ.out.2.2).mono ?_
  rintro e w4 ⟨rfl, b⟩
  obtain ⟨fp, hfp⟩ : ∃ fp, fitsP ⟨tb, ts, tq, tp⟩ ⟨b0, b1, b2, b3, b4, b5⟩ ⟨s0, s1, s2, s3, s4, s5⟩ = fp := ⟨_, rfl⟩
  rw [hfp]
  cases fp
  · have H0 := hid_ (dues_0 hfp)
    have HE := hid_ (HB.out.trans b)
    have HR : Hid (Row dueT w4 none 0 fo) := hid_ (by rw [← HFO.out, H0.out.1]; exact Row.none_ _ _ _)
    have HV : Hid (fe = 150) := hid_ (by rw [← HFE.out, H0.out.2])
    clear HFO HFE KT KB KS HB SZ hfp b H0
    go_wp2
    go_ret2
    exact ⟨_, _, _, by rw [HV.out]; rfl, HR.out, HE.out⟩
  obtain ⟨p, q, hp, hq, hp1, hq1, hm⟩ := fitsP_nums hfp
  simp only at hp hq hm
  subst hp
  subst hq
  have H1 := hid_ (dues_1 hfp)
  have HMK := hid_ (mkt_1 hm)
  have KT4 := hid_ (KT.out.bel b)
  have KB4 := hid_ (KB.out.bel b)
  have KS4 := hid_ (KS.out.bel b)
  have HB4 := hid_ (HB.out.trans b)
  have PQ : Hid (p ≤ 1000000 ∧ q ≤ 1000000) := hid_ ⟨hp1, hq1⟩
  have bw := KB4.out.cell 2 rfl
  clear hfp b KT KB KS HB hm hp1 hq1
  go_wp2_with fail
  refine (market_any b2 w4 SZ.out.1.2).mono ?_
  rintro e w5 ⟨rfl, b⟩
  rw [HMK.out.1, HMK.out.2.1, HMK.out.2.2]
  obtain ⟨ha, hha⟩ : ∃ ha, headB b2 = ha := ⟨_, rfl⟩
  obtain ⟨hc, hhc⟩ : ∃ hc, tailB b2 = hc := ⟨_, rfl⟩
  have HMA : Hid (headB b2 = ha ∧ tailB b2 = hc) := hid_ ⟨hha, hhc⟩
  rw [hha, hhc]
  clear hha hhc
  have b6 : Bel w4 ((w5.alloc (.cells #[.string ha] 9)).alloc (.cells #[.string hc] 9)) := (b.alloc _).alloc _
  have ka : Bx ((w5.alloc (.cells #[.string ha] 9)).alloc (.cells #[.string hc] 9)) w5.heap.size 9 [.string ha] := (Bx.new w5 _ _).alloc _
  have kc := Bx.new (w5.alloc (.cells #[.string ha] 9)) 9 [.string hc]
  rw [sizeAl] at kc
  have KA := hid_ ka
  have KC := hid_ kc
  have B6 := hid_ b6
  have t2 := (KT4.out.bel b6).cell 2 rfl
  have t3 := (KT4.out.bel b6).cell 3 rfl
  clear b b6 ka kc bw
  go_wp2_with fail
  generalize (w5.alloc (.cells #[.string ha] 9)).alloc (.cells #[.string hc] 9) = w6 at KA KC B6 t2 t3 ⊢
  generalize w5.heap.size + 1 = gc at KC ⊢
  generalize w5.heap.size = ga at KA ⊢
  refine (mul_any p q PQ.out.1 PQ.out.2 w6).mono ?_
  rintro e _ ⟨rfl, rfl⟩
  have hpq : p * q ≤ 1000000 * 1000000 := Nat.mul_le_mul PQ.out.1 PQ.out.2
  have hpc : (p : Int) * (q : Int) = ((p * q : Nat) : Int) := by simp
  have HPC := hid_ hpc
  generalize p * q = m at hpq HPC ⊢
  have w1 : IntKind.i64.wrap (-(m : Int)) = -(m : Int) := by rw [IntWalk.i64_left]; exact IntWalk.wrap64_in _ (by omega)
  have w2 : IntKind.i64.wrap (-(q : Int)) = -(q : Int) := by rw [IntWalk.i64_left]; have := PQ.out.2; exact IntWalk.wrap64_in _ (by omega)
  have b1w := (KB4.out.bel B6.out).cell 1 rfl
  have s1w := (KS4.out.bel B6.out).cell 1 rfl
  have ca := KA.out.cell 0 rfl
  have cc := KC.out.cell 0 rfl
  have C0 : Hid (w6.cell? ⟨ga, 0, none⟩ = some (.string ha)) := hid_ ca
  have C1 : Hid (w6.cell? ⟨gc, 0, none⟩ = some (.string hc)) := hid_ cc
  clear ca cc t3 hpq hpc
  go_wp2_with fail
  go_region_held3 (fun W => W.cell? ⟨gt, 2, none⟩ = some (.int .i64 (q : Int)) ∧ W.cell? ⟨gb, 1, none⟩ = some (.string b1) ∧ W.cell? ⟨gs, 1, none⟩ = some (.string s1)) (first | with_reducible exact ⟨b9.cell_ t2, b9.cell_ b1w, b9.cell_ s1w⟩ | with_reducible exact ⟨b8.cell_ t2, b8.cell_ b1w, b8.cell_ s1w⟩ | with_reducible exact ⟨b7.cell_ t2, b7.cell_ b1w, b7.cell_ s1w⟩ | with_reducible exact ⟨t2, b1w, s1w⟩ | (refine ⟨Bel.cell_ (w := w6) ?_ t2, Bel.cell_ (w := w6) ?_ b1w, Bel.cell_ (w := w6) ?_ s1w⟩ <;> (repeat first | with_reducible exact Bel.refl _ | with_reducible exact b7 | with_reducible exact b8 | apply Bel.drew | apply Bel.alloc) <;> done))
    (first
    | (go_at_call 71; with_reducible refine' Calls.mono (dues1_any b1 ha hc (q : Int) (-(m : Int)) ga gc _ (Bel.cell_ (w := w6) (by (repeat first | with_reducible exact Bel.refl _ | apply Bel.drew)) C0.out) (Bel.cell_ (w := w6) (by (repeat first | with_reducible exact Bel.refl _ | apply Bel.drew)) C1.out)) ?_; rintro e w7 ⟨A1, rfl, r1, b⟩; have b7 : Bel w6 w7 := Bel.trans (by (repeat first | with_reducible exact Bel.refl _ | apply Bel.drew)) b)
    | (go_at_call 71; with_reducible refine' Calls.mono (dues1_any s1 ha hc (-(q : Int)) (m : Int) ga gc _ (Bel.cell_ (w := w6) (by (repeat first | with_reducible exact b7 | apply Bel.drew)) C0.out) (Bel.cell_ (w := w6) (by (repeat first | with_reducible exact b7 | apply Bel.drew)) C1.out)) ?_; rintro e w8 ⟨A2, rfl, r2, bb⟩; have b78 : Bel w7 w8 := Bel.trans (by (repeat first | with_reducible exact Bel.refl _ | apply Bel.drew)) bb; have b8 : Bel w6 w8 := b7.trans b78)
    | (go_at_call 49; with_reducible refine' Calls.mono (joined_any _ 2 2 [(A1, 2, 2), (A2, 2, 2)] [twoD b1 ha hc (q : Int) (-(m : Int)), twoD s1 ha hc (-(q : Int)) (m : Int)] _ (litTwo w8 _ A1 A2 2 2 2 2 _ rfl (by (repeat first | with_reducible exact Bel.refl _ | apply Bel.drew))) (rowsTwo _ A1 A2 2 2 2 2 _ _ (r1.bel (Bel.trans b78 (by (repeat first | with_reducible exact Bel.refl _ | apply Bel.drew | apply Bel.alloc)))) (r2.bel (by (repeat first | with_reducible exact Bel.refl _ | apply Bel.drew | apply Bel.alloc)))) (by simp [twoD])) ?_; rintro e w9 ⟨vv, rfl, oo, bb⟩; have b9 : Bel w6 w9 := Bel.trans (by (repeat first | with_reducible exact b8 | apply Bel.drew | apply Bel.alloc)) bb))
  obtain ⟨A9, c9, hv9, _, r9⟩ := oo.reads
  subst hv9
  have hfl : [twoD b1 ha hc (q : Int) (-(m : Int)), twoD s1 ha hc (-(q : Int)) (m : Int)].flatten = fo := by
    rw [← HFO.out, H1.out.1]
    show _ = twoD b1 (headB b2) (tailB b2) (q : Int) (-((p : Int) * (q : Int))) ++ twoD s1 (headB b2) (tailB b2) (-(q : Int)) ((p : Int) * (q : Int))
    rw [HMA.out.1, HMA.out.2, HPC.out]
    simp
  rw [hfl] at r9
  have hn9 : fo.length = 4 := by rw [← hfl]; rfl
  rw [hn9] at r9
  have HR := hid_ r9
  have HV : Hid (fe = 0) := hid_ (by rw [← HFE.out, H1.out.2])
  have HE := hid_ (HB4.out.trans (B6.out.trans b9))
  clear r9 hn9 oo HFO HFE H1 KT4 KB4 KS4 HB4 PQ HMK HMA KA KC B6 t2 b1w s1w C0 C1 w1 w2 r1 r2 b7 b8 b9 b b78 hfl
  try clear bb
  go_wp2
  go_ret2
  exact ⟨A9, 4, c9, by rw [HV.out]; rfl, HR.out, HE.out⟩
end Go.Proofs.Ytoachnhdedpbdaa
set_option linter.unusedSimpArgs false
set_option linter.unusedVariables false
namespace Go.Proofs.Ytoachnhdedpbdaa
open Go.RowKit Go.Lib
/-- The first order of a number. -/
def atN : List Ord → Int → Option Nat
  | [], _ => none
  | o :: l, n => if o.number == n then some 0 else (atN l n).map (· + 1)
def atI (l : List Ord) (n : Int) : Int := match atN l n with | some k => (k : Int) | none => -1
theorem atN_hit : ∀ (l : List Ord) (n : Int) (j : Nat) (o : Ord), l[j]? = some o → (o.number == n) = true → (∀ i x, i < j → l[i]? = some x → (x.number == n) = false) → atN l n = some j
  | [], _, _, _, h, _, _ => by simp at h
  | x :: l, n, 0, o, h, hn, _ => by simp at h; subst h; simp [atN, hn]
  | x :: l, n, j + 1, o, h, hn, hi => by
    have h0 := hi 0 x (by omega) rfl
    have := atN_hit l n j o (by simpa using h) hn (fun i y hij hy => hi (i + 1) y (by omega) (by simpa using hy))
    simp [atN, h0, this]
theorem atN_no : ∀ (l : List Ord) (n : Int), (∀ (i : Nat) (x : Ord), l[i]? = some x → (x.number == n) = false) → atN l n = none
  | [], _, _ => rfl
  | x :: l, n, hi => by
    have h0 := hi 0 x rfl
    have := atN_no l n (fun i y hy => hi (i + 1) y (by simpa using hy))
    simp [atN, h0, this]
theorem atN_some : ∀ (l : List Ord) (n : Int) (j : Nat), atN l n = some j → ∃ o, l[j]? = some o
  | [], _, _, h => by simp [atN] at h
  | x :: l, n, j, h => by
    unfold atN at h
    split at h
    · cases h; exact ⟨x, rfl⟩
    · obtain ⟨k, hk, rfl⟩ := Option.map_eq_some_iff.1 h
      obtain ⟨o, ho⟩ := atN_some l n k hk
      exact ⟨o, by simpa using ho⟩
theorem atI_hit {l : List Ord} {n : Int} {j : Nat} (h : atN l n = some j) : atI l n = (j : Int) := by simp [atI, h]
theorem atI_no {l : List Ord} {n : Int} (h : atN l n = none) : atI l n = -1 := by simp [atI, h]
set_option maxRecDepth 10000 in
theorem all1_any (o0 : Int) (o1 o2 : ByteArray) (o3 : Bool) (o4 o5 : Int) (n : Int) (g : Nat) (w : World) (h : w.cell? ⟨g, 0, none⟩ = some (.int .u64 n)) :
    Calls Try.prog 47 #[.agg #[.int .u64 o0, .string o1, .string o2, .bool o3, .int .i64 o4, .int .i64 o5], .pointer (some ⟨g, 0, none⟩)] w fun e w' => e = .returned (.bool (o0 == n)) ∧ Bel w w' := by
  have h1 := cellOld h (.cells #[.int .u64 o0, .string o1, .string o2, .bool o3, .int .i64 o4, .int .i64 o5] 30)
  have h2 := cellNew w #[.int .u64 o0, .string o1, .string o2, .bool o3, .int .i64 o4, .int .i64 o5] 30 (0, 0) w.heap.size 0 rfl
  have HB := hid_ ((Bel.refl w).alloc (.cells #[.int .u64 o0, .string o1, .string o2, .bool o3, .int .i64 o4, .int .i64 o5] 30))
  clear h
  go_enter Try.func47, Try.ntmps47
  go_wp2
  go_ret
  exact ⟨rfl, HB.out⟩
set_option maxRecDepth 10000 in
set_option maxHeartbeats 1000000 in
theorem indexAll1_any (A : Option Addr) (n c : Nat) (l : List Ord) (nu : Int) (g : Nat) (w : World) (hA : Row ordT w A n l) (hg : w.cell? ⟨g, 0, none⟩ = some (.int .u64 nu)) :
    Calls Try.prog 33 #[.slice A n c, .func (.func 47) #[] #[.pointer (some ⟨g, 0, none⟩)]] w fun e w' => e = .returned (.int .i64 (atI l nu)) ∧ Bel w w' := by
  have HG := hid_ hg
  have HA := hid_ hA
  have hn := hA.2.1
  have HL := hid_ hA.1
  clear hg hA
  go_enter Try.func33, Try.ntmps33
  go_wp2_with fail
  go_loopw [5, 8] (fun _ i wr => ∃ j : Nat, j ≤ n ∧ i = .int .i64 j ∧ Hid (∀ i x, i < j → l[i]? = some x → (x.number == nu) = false) ∧ Bel w wr) (fun _ i _ => n - (intOf i).toNat)
  case atStart => exact ⟨0, Nat.zero_le _, rfl, hid_ (fun i x h => absurd h (by omega)), Bel.refl _⟩
  case round =>
    obtain ⟨j, hj, rfl, hx, hbr⟩ := hrel
    have BR := hid_ hbr
    by_cases hjn : j < n
    · obtain ⟨ad, o0, o1, o2, o3, o4, o5, rfl, ho, d0, d1, d2, d3, d4, d5⟩ := (HA.out.bel hbr).ord hjn
      have HO := hid_ ho
      clear ho hbr
      go_wp2_with fail
      refine (all1_any o0 o1 o2 o3 o4 o5 nu g wr (BR.out.cell_ HG.out)).mono ?_
      rintro e w5 ⟨rfl, b⟩
      have BR5 := hid_ (BR.out.trans b)
      clear b BR d0 d1 d2 d3 d4 d5
      obtain ⟨eq, heq⟩ : ∃ eq, (o0 == nu) = eq := ⟨_, rfl⟩
      rw [heq]
      have HEQ := hid_ heq
      clear heq
      cases eq
      · have HN : Hid (∀ i x, i < j + 1 → l[i]? = some x → (x.number == nu) = false) := hid_ (by
          intro i x hi hix
          rcases Nat.lt_or_ge i j with h | h
          · exact hx.out i x h hix
          · obtain rfl : i = j := by omega
            rw [HO.out] at hix
            cases hix
            exact HEQ.out)
        clear hx HO HEQ
        go_wp2
        case roundEnd =>
          go_roundw
          case rel => exact ⟨j + 1, by omega, by go_num, HN, BR5.out⟩
          case measure => simp [intOf]; omega
      · have HF : Hid (atI l nu = (j : Int)) := hid_ (atI_hit (atN_hit l nu j _ HO.out HEQ.out hx.out))
        clear hx HO HEQ
        go_wp2
        go_ret
        exact ⟨by rw [HF.out]; rfl, BR5.out⟩
    · obtain rfl : j = n := by omega
      have HF : Hid (atI l nu = -1) := hid_ (atI_no (atN_no l nu (fun i x h => hx.out i x (by have := (List.getElem?_eq_some_iff.1 h).1; rw [HL.out] at this; exact this) h)))
      clear hx hbr
      go_wp2
      go_ret
      exact ⟨by rw [HF.out]; rfl, BR.out⟩
set_option maxRecDepth 10000 in
theorem all2_any (o0 : Int) (o1 o2 : ByteArray) (o3 : Bool) (o4 o5 : Int) (n : Int) (g : Nat) (w : World) (h : w.cell? ⟨g, 1, none⟩ = some (.int .u64 n)) :
    Calls Try.prog 48 #[.agg #[.int .u64 o0, .string o1, .string o2, .bool o3, .int .i64 o4, .int .i64 o5], .pointer (some ⟨g, 0, none⟩)] w fun e w' => e = .returned (.bool (o0 == n)) ∧ Bel w w' := by
  have h1 := cellOld h (.cells #[.int .u64 o0, .string o1, .string o2, .bool o3, .int .i64 o4, .int .i64 o5] 30)
  have h2 := cellNew w #[.int .u64 o0, .string o1, .string o2, .bool o3, .int .i64 o4, .int .i64 o5] 30 (0, 0) w.heap.size 0 rfl
  have HB := hid_ ((Bel.refl w).alloc (.cells #[.int .u64 o0, .string o1, .string o2, .bool o3, .int .i64 o4, .int .i64 o5] 30))
  clear h
  go_enter Try.func48, Try.ntmps48
  go_wp2
  go_ret
  exact ⟨rfl, HB.out⟩
set_option maxRecDepth 10000 in
set_option maxHeartbeats 1000000 in
theorem indexAll2_any (A : Option Addr) (n c : Nat) (l : List Ord) (nu : Int) (g : Nat) (w : World) (hA : Row ordT w A n l) (hg : w.cell? ⟨g, 1, none⟩ = some (.int .u64 nu)) :
    Calls Try.prog 33 #[.slice A n c, .func (.func 48) #[] #[.pointer (some ⟨g, 0, none⟩)]] w fun e w' => e = .returned (.int .i64 (atI l nu)) ∧ Bel w w' := by
  have HG := hid_ hg
  have HA := hid_ hA
  have hn := hA.2.1
  have HL := hid_ hA.1
  clear hg hA
  go_enter Try.func33, Try.ntmps33
  go_wp2_with fail
  go_loopw [5, 8] (fun _ i wr => ∃ j : Nat, j ≤ n ∧ i = .int .i64 j ∧ Hid (∀ i x, i < j → l[i]? = some x → (x.number == nu) = false) ∧ Bel w wr) (fun _ i _ => n - (intOf i).toNat)
  case atStart => exact ⟨0, Nat.zero_le _, rfl, hid_ (fun i x h => absurd h (by omega)), Bel.refl _⟩
  case round =>
    obtain ⟨j, hj, rfl, hx, hbr⟩ := hrel
    have BR := hid_ hbr
    by_cases hjn : j < n
    · obtain ⟨ad, o0, o1, o2, o3, o4, o5, rfl, ho, d0, d1, d2, d3, d4, d5⟩ := (HA.out.bel hbr).ord hjn
      have HO := hid_ ho
      clear ho hbr
      go_wp2_with fail
      refine (all2_any o0 o1 o2 o3 o4 o5 nu g wr (BR.out.cell_ HG.out)).mono ?_
      rintro e w5 ⟨rfl, b⟩
      have BR5 := hid_ (BR.out.trans b)
      clear b BR d0 d1 d2 d3 d4 d5
      obtain ⟨eq, heq⟩ : ∃ eq, (o0 == nu) = eq := ⟨_, rfl⟩
      rw [heq]
      have HEQ := hid_ heq
      clear heq
      cases eq
      · have HN : Hid (∀ i x, i < j + 1 → l[i]? = some x → (x.number == nu) = false) := hid_ (by
          intro i x hi hix
          rcases Nat.lt_or_ge i j with h | h
          · exact hx.out i x h hix
          · obtain rfl : i = j := by omega
            rw [HO.out] at hix
            cases hix
            exact HEQ.out)
        clear hx HO HEQ
        go_wp2
        case roundEnd =>
          go_roundw
          case rel => exact ⟨j + 1, by omega, by go_num, HN, BR5.out⟩
          case measure => simp [intOf]; omega
      · have HF : Hid (atI l nu = (j : Int)) := hid_ (atI_hit (atN_hit l nu j _ HO.out HEQ.out hx.out))
        clear hx HO HEQ
        go_wp2
        go_ret
        exact ⟨by rw [HF.out]; rfl, BR5.out⟩
    · obtain rfl : j = n := by omega
      have HF : Hid (atI l nu = -1) := hid_ (atI_no (atN_no l nu (fun i x h => hx.out i x (by have := (List.getElem?_eq_some_iff.1 h).1; rw [HL.out] at this; exact this) h)))
      clear hx hbr
      go_wp2
      go_ret
      exact ⟨by rw [HF.out]; rfl, BR.out⟩
end Go.Proofs.Ytoachnhdedpbdaa
