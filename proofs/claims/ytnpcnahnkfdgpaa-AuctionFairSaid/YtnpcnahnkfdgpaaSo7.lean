/- slices.symMergeCmpFunc where the right list is of one. -/
import Derived.Test.YtnpcnahnkfdgpaaSo6
set_option linter.unusedSimpArgs false
set_option linter.unusedVariables false
set_option linter.unusedSectionVars false
namespace Go.Proofs.Ytnpcnahnkfdgpaa
open Go.RowKit Go.Lib Go.Sort Go.Shelf
variable {P : Program} {α : Type} [Inhabited α]
theorem swp_turn (d : Array α) (i j : Nat) (hi : i < d.size) (hj : j < d.size) : swp d j i = swp d i j := by
  refine Array.ext (by simp [size_swp]) fun t h1 h2 => ?_
  have e1 := swp_get d hj hi t
  have e2 := swp_get d hi hj t
  rw [getElem!_pos _ t h1] at e1
  rw [getElem!_pos _ t h2] at e2
  rw [e1, e2]
  by_cases a : t = i
  · by_cases b : t = j
    · rw [if_pos a, if_pos b, ← a, ← b]
    · rw [if_pos a, if_neg b, if_pos a]
  · by_cases b : t = j
    · rw [if_neg a, if_pos b, if_pos b]
    · rw [if_neg a, if_neg b, if_neg b, if_neg a]
theorem UpI.prev {Pf : List α} {x : α} {Y Sf : List α} {v : Nat} {d : Array α} (h : UpI Pf x Y Sf (v + 1) d) (hv : v < Y.length) (i j : Nat) (hi : i = Pf.length + v) (hj : j = i + 1) : UpI Pf x Y Sf v (swp d j i) := by
  have hs : d.size = Pf.length + (Y.length + (1 + Sf.length)) := by
    rw [← Array.length_toList, show d.toList = _ from h]
    simp only [List.length_append, List.length_cons, List.length_take, List.length_drop]
    omega
  rw [swp_turn d i j (by omega) (by omega)]
  unfold UpI at h ⊢
  rw [List.take_succ_eq_append_getElem hv, ← List.append_assoc, ← List.append_assoc, List.append_assoc _ [Y[v]]] at h
  have := swp_next (Pf := Pf ++ Y.take v) (x := Y[v]) (y := x) h i j (by rw [List.length_append, List.length_take]; omega) (by rw [List.length_append, List.length_take]; omega)
  rw [this, List.append_assoc, List.drop_eq_getElem_cons hv]
  rfl
set_option maxHeartbeats 8000000 in
set_option maxRecDepth 1000000 in
theorem sym_right (k : Nat) (L : StP P k) (enc : α → List Value) (cf : α → α → Int) (hO : SWO (ltOf cf)) (gc : Nat) (cb : Array Value) (g off cap a m b : Nat) (d0 d : Array α) (w0 W : World) (eg : ∀ args w, (callFunc gc args).run P w = .ok (.enter gc args) w) (hcmp : CmpLays P gc cb enc k cf g off d0.size w0) (R : RowK enc k w0 g off d0) (hs : d0.size = d.size) (S : SWK enc k w0 g off d W) (Pf X : List α) (y : α) (Sf : List α) (hd : d.toList = Pf ++ (X ++ ([y] ++ Sf))) (ha : a = Pf.length) (h1 : a + 1 < m) (h2 : b = m + 1) (hm : m = a + X.length) (hX : Asc (ltOf cf) X) (hsz : d.size < 4611686018427387904) :
    Calls P 65 #[.slice (some ⟨g, off, none⟩) d.size cap, .int .i64 a, .int .i64 m, .int .i64 b, .func (.func gc) #[] cb] W fun e w' => e = .returned (.tuple #[]) ∧ ∃ d', SWK enc k w0 g off d' w' ∧ d'.size = d.size ∧ d'.toList = Pf ++ (mrg (ltOf cf) X [y] ++ Sf) := by
  have mixed := L.mixed; have t0 := L.t0; have a0 := L.a0; have z0 := L.z0; have v0 := L.v0; have t3 := L.t3; have a3 := L.a3; have z3 := L.z3; have v3 := L.v3; have t4 := L.t4; have a4 := L.a4; have z4 := L.z4; have v4 := L.v4; have tu := L.tu; have au := L.au; have zu := L.zu; have vu := L.vu; have ts := L.ts; have asl := L.asl; have zs := L.zs; have vs := L.vs; have tf := L.tf; have af := L.af; have zf := L.zf; have vf := L.vf; have aE := L.aE; have zE := L.zE
  have HC : Aside _ := hcmp
  have S0 : Aside (SWK enc k w0 g off d W) := S
  have hsd := size_of hd
  simp only [List.length_singleton] at hsd
  have h3 : b ≤ d.size := by omega
  have h2a : m < b := by omega
  have D0 : Hid (d.toList = Pf ++ (X ++ ([y] ++ Sf))) := hid_ hd
  have LA := hid_ ha
  have LM := hid_ hm
  have HXX := hid_ hX
  have q1 : ((m : Int) - (a : Int) == 1) = false := by simp; omega
  have q2 : ((b : Int) - (m : Int) == 1) = true := by simp; omega
  have q3 : (b : Int) - (m : Int) = 1 := by omega
  have HB := hid_ h2
  clear hcmp S hd hsd ha hm hX h2
  go_enter L.fSym, Try.ntmps65
  go_wp2_with fail
  go_loopw [14, 15] (fun s t wr => ∃ (i j : Nat), s = .int .i64 i ∧ t = .int .i64 j ∧ a ≤ i ∧ i ≤ j ∧ j ≤ m ∧ Hid ((a < i → ltOf cf d[m]! d[i - 1]! = false) ∧ (j < m → ltOf cf d[m]! d[j]! = true)) ∧ Aside (SWK enc k w0 g off d wr)) (fun s t _ => (intOf t).toNat - (intOf s).toNat)
  case atStart => exact ⟨a, m, rfl, rfl, by omega, by omega, by omega, hid_ ⟨fun h => absurd h (by omega), fun h => absurd h (by omega)⟩, S0⟩
  case round =>
    clear S0
    obtain ⟨i, j, rfl, rfl, hmi, hij, hjb, HI, S1⟩ := hrel
    by_cases hlt : i < j
    · have hltz : (i : Int) < (j : Int) := by omega
      obtain ⟨h, hh⟩ : ∃ h, h = (i + j) / 2 := ⟨_, rfl⟩
      have eh : ((i : Int) + (j : Int)) / 2 = (h : Int) := by omega
      have b1 : i ≤ h := by omega
      have b2 : h < j := by omega
      have wh : IntKind.i64.wrap ((h : Int) + 1) = ((h + 1 : Nat) : Int) := by rw [IntKind.wrap_i64]; omega
      clear hh
      go_upto_region 17 with (fail)
      clear eh
      cases hlv : ltOf cf d[m]! d[h]! with
      | false =>
        have HI2 : Hid ((a < h + 1 → ltOf cf d[m]! d[h + 1 - 1]! = false) ∧ (j < m → ltOf cf d[m]! d[j]! = true)) := hid_ ⟨fun _ => by rw [Nat.add_sub_cancel]; exact hlv, HI.out.2⟩
        clear HI
        have e1a : ((m : Int)).toNat = m := by omega
        have p1a : (0 : Int) ≤ (m : Int) := by omega
        have b1a : (m : Int) < (d.size : Int) := by omega
        have r1a : IntKind.i64.wrap ((m : Int)) = (m : Int) := by rw [IntKind.wrap_i64]; omega
        have e1c : ((h : Int)).toNat = h := by omega
        have p1c : (0 : Int) ≤ (h : Int) := by omega
        have b1c : (h : Int) < (d.size : Int) := by omega
        have r1c : IntKind.i64.wrap ((h : Int)) = (h : Int) := by rw [IntKind.wrap_i64]; omega
        obtain ⟨x1, hx1⟩ : ∃ x, x = d[m]! := ⟨_, rfl⟩
        obtain ⟨y1, hy1⟩ : ∃ x, x = d[h]! := ⟨_, rfl⟩
        have l1a := S1.out.ld R (by omega) P (m) (by omega)
        have l1b := S1.out.ld R (by omega) P (h) (by omega)
        rw [← hx1] at l1a
        rw [← hy1] at l1b
        have hc1 := S1.out.cmp HC.out (by omega) x1 y1
        have hv1 : ¬ cf x1 y1 < 0 := by rw [hx1, hy1]; exact of_decide_eq_false hlv
        have hd1 : decide (cf x1 y1 < 0) = false := decide_eq_false hv1
        clear hx1 hy1
        go_quiet_grown (first | (go_at_fn gc; refine Calls.grown_of (hc1 _ _)))
        have S2 : Aside (SWK enc k w0 g off d (grow (wr.drewN nq) osq)) := S1.out.grown nq osq
        clear l1a l1b hc1 S1
        generalize grow (wr.drewN nq) osq = w2 at S2 ⊢
        clear nq osq
        go_wp2
        go_roundw
        case rel => exact ⟨h + 1, j, by go_num, rfl, by omega, by omega, by omega, HI2, S2⟩
        case measure => simp [intOf]; omega
      | true =>
        have HI2 : Hid ((a < i → ltOf cf d[m]! d[i - 1]! = false) ∧ (h < m → ltOf cf d[m]! d[h]! = true)) := hid_ ⟨HI.out.1, fun _ => hlv⟩
        clear HI
        have e1a : ((m : Int)).toNat = m := by omega
        have p1a : (0 : Int) ≤ (m : Int) := by omega
        have b1a : (m : Int) < (d.size : Int) := by omega
        have r1a : IntKind.i64.wrap ((m : Int)) = (m : Int) := by rw [IntKind.wrap_i64]; omega
        have e1c : ((h : Int)).toNat = h := by omega
        have p1c : (0 : Int) ≤ (h : Int) := by omega
        have b1c : (h : Int) < (d.size : Int) := by omega
        have r1c : IntKind.i64.wrap ((h : Int)) = (h : Int) := by rw [IntKind.wrap_i64]; omega
        obtain ⟨x1, hx1⟩ : ∃ x, x = d[m]! := ⟨_, rfl⟩
        obtain ⟨y1, hy1⟩ : ∃ x, x = d[h]! := ⟨_, rfl⟩
        have l1a := S1.out.ld R (by omega) P (m) (by omega)
        have l1b := S1.out.ld R (by omega) P (h) (by omega)
        rw [← hx1] at l1a
        rw [← hy1] at l1b
        have hc1 := S1.out.cmp HC.out (by omega) x1 y1
        have hv1 : cf x1 y1 < 0 := by rw [hx1, hy1]; exact of_decide_eq_true hlv
        have hd1 : decide (cf x1 y1 < 0) = true := decide_eq_true hv1
        clear hx1 hy1
        go_quiet_grown (first | (go_at_fn gc; refine Calls.grown_of (hc1 _ _)))
        have S2 : Aside (SWK enc k w0 g off d (grow (wr.drewN nq) osq)) := S1.out.grown nq osq
        clear l1a l1b hc1 S1
        generalize grow (wr.drewN nq) osq = w2 at S2 ⊢
        clear nq osq
        go_wp2
        go_roundw
        case rel => exact ⟨i, h, rfl, rfl, by omega, by omega, by omega, HI2, S2⟩
        case measure => simp [intOf]; omega
    · obtain rfl : i = j := by omega
      have HM : Hid (mrg (ltOf cf) X [y] = X.take (i - a) ++ (y :: X.drop (i - a))) := hid_ (by
        have hLA := LA.out
        have hLM := LM.out
        have hax : d[m]! = y := atY D0.out 0 (by simp) m (by omega)
        have hI := HI.out
        rw [hax] at hI
        refine mrg_last hO HXX.out (i - a) (by omega) ?_ ?_
        · rcases Nat.lt_or_ge a i with h | h
          · refine .inr ?_
            rw [← atX D0.out (i - a - 1) (by omega) (i - 1) (by omega)]
            exact hI.1 h
          · exact .inl (by omega)
        · rcases Nat.lt_or_ge i m with h | h
          · refine .inr ?_
            rw [← atX D0.out (i - a) (by omega) i (by omega)]
            exact hI.2 h
          · exact .inl (by omega))
      have U0 : Hid (UpI Pf y X Sf (m - a) d) := hid_ (by have := D0.out; have h := LM.out; unfold UpI; rw [this, List.take_of_length_le (by omega), List.drop_of_length_le (by omega)]; rfl)
      clear HI D0 HXX
      go_wp2_with fail
      go_loopw [17] (fun s wr => ∃ (c : Nat) (dk : Array α), s = .int .i64 c ∧ i ≤ c ∧ c ≤ m ∧ dk.size = d.size ∧ Hid (UpI Pf y X Sf (c - a) dk) ∧ Aside (SWK enc k w0 g off dk wr)) (fun s _ => (intOf s).toNat)
      case atStart => exact ⟨m, d, rfl, by omega, by omega, rfl, U0, S1⟩
      case round =>
        clear S1 U0
        obtain ⟨c, dk, rfl, hci, hcm, hds, U1, S1⟩ := hrel
        by_cases hlt2 : i < c
        · obtain ⟨c, rfl⟩ : ∃ c', c = c' + 1 := ⟨c - 1, by omega⟩
          have hltz : (i : Int) < (c : Int) + 1 := by omega
          have HU : Hid (UpI Pf y X Sf (c - a) (swp dk (c + 1) c)) := hid_ (UpI.prev (by have h := U1.out; rw [show c + 1 - a = c - a + 1 by omega] at h; exact h) (by have := LM.out; omega) c (c + 1) (by rw [← LA.out]; omega) rfl)
          clear U1
          go_upto_region 23 with (fail)
          have e2a : ((c : Int) + 1).toNat = c + 1 := by omega
          have p2a : (0 : Int) ≤ (c : Int) + 1 := by omega
          have b2a : (c : Int) + 1 < (d.size : Int) := by omega
          have r2a : IntKind.i64.wrap ((c : Int) + 1) = (c : Int) + 1 := by rw [IntKind.wrap_i64]; omega
          have e2c : ((c : Int)).toNat = c := by omega
          have p2c : (0 : Int) ≤ (c : Int) := by omega
          have b2c : (c : Int) < (d.size : Int) := by omega
          have r2c : IntKind.i64.wrap ((c : Int)) = (c : Int) := by rw [IntKind.wrap_i64]; omega
          have S2 : Aside (SWK enc k w0 g off (swp dk (c + 1) (c)) ((wr.drew.setCells g (off + (c + 1) * k) (enc dk[c]!)).setCells g (off + (c) * k) (enc dk[c + 1]!))) := S1.out.swapped R (c + 1) (c) (by omega) (by omega)
          have l2a := S1.out.ld1 R (by omega) P (c + 1) (by omega)
          have l2b := S1.out.ld1 R (by omega) P (c) (by omega)
          have s2a := S1.out.st1 R (by omega) P (c + 1) (by omega) dk[c]!
          have s2b := S1.out.st2 R (by omega) P (c + 1) (c) (by omega) (by omega) dk[c]! dk[c + 1]!
          have n2a : (enc dk[c + 1]!).length = k := R.hk _
          have n2b : (enc dk[c]!).length = k := R.hk _
          generalize enc dk[c + 1]! = cI2 at S2 l2a s2b n2a
          generalize enc dk[c]! = cJ2 at S2 l2b s2a s2b n2b
          clear S1
          go_wp2_with fail
          go_big_region_o
          clear l2a l2b s2a s2b
          generalize (wr.drew.setCells g (off + (c + 1) * k) cJ2).setCells g (off + (c) * k) cI2 = w2 at S2 ⊢
          go_wp2
          go_roundw
          case rel => exact ⟨c, _, by go_num, by omega, by omega, by rw [size_swp]; exact hds, HU, S2⟩
          case measure => simp [intOf]
        · have hnz : ¬ (i : Int) < (c : Int) := by omega
          obtain rfl : i = c := by omega
          have HF : Hid (dk.toList = Pf ++ (mrg (ltOf cf) X [y] ++ Sf)) := hid_ (by
            have h := U1.out
            unfold UpI at h
            rw [h, HM.out]
            simp)
          clear U1 HM
          go_wp2
          refine bodyPost_ret (results_none rfl _ _ _) rfl ?_
          exact ⟨rfl, dk, S1.out, hds, HF.out⟩
end Go.Proofs.Ytnpcnahnkfdgpaa
