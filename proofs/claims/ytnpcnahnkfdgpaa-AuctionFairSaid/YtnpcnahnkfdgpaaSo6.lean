/- slices.symMergeCmpFunc where the left list is of one. -/
import Derived.Test.YtnpcnahnkfdgpaaSo5
import Derived.Deep.DeepCutAuto
set_option linter.unusedSimpArgs false
set_option linter.unusedVariables false
set_option linter.unusedSectionVars false
namespace Go.Proofs.Ytnpcnahnkfdgpaa
open Go.RowKit Go.Lib Go.Sort Go.Shelf
variable {P : Program} {α : Type} [Inhabited α]
theorem atX {d : Array α} {Pf X Y Sf : List α} (h : d.toList = Pf ++ (X ++ (Y ++ Sf))) (t : Nat) (ht : t < X.length) (u : Nat) (hu : u = Pf.length + t) : d[u]! = X[t]! := by
  subst hu
  rw [get_of_toList d _ h _ (by simp; omega), getElem!_pos _ _ (by simp; omega), getElem!_pos X t ht]
  rw [List.getElem_append_right (by omega), List.getElem_append_left (by omega)]
  congr 1
  omega
theorem atY {d : Array α} {Pf X Y Sf : List α} (h : d.toList = Pf ++ (X ++ (Y ++ Sf))) (t : Nat) (ht : t < Y.length) (u : Nat) (hu : u = Pf.length + X.length + t) : d[u]! = Y[t]! := by
  have h' : d.toList = (Pf ++ X) ++ (Y ++ (Sf ++ [])) := by rw [h]; simp
  refine atX h' t ht u ?_
  rw [List.length_append]
  exact hu
theorem swp_next {d : Array α} {Pf : List α} {x y : α} {Sf : List α} (h : d.toList = Pf ++ (x :: y :: Sf)) (i j : Nat) (hi : i = Pf.length) (hj : j = Pf.length + 1) : (swp d i j).toList = Pf ++ (y :: x :: Sf) :=
  swr_toList d Pf [x] [] [y] Sf (by rw [h]; rfl) rfl i j hi (by rw [hj]; rfl)
theorem size_of {d : Array α} {Pf X Y Sf : List α} (h : d.toList = Pf ++ (X ++ (Y ++ Sf))) : d.size = Pf.length + (X.length + (Y.length + Sf.length)) := by
  rw [← Array.length_toList, h]
  simp
/-- Till k the one has gone up through the right list. -/
def UpI (Pf : List α) (x : α) (Y Sf : List α) (v : Nat) (d : Array α) : Prop := d.toList = Pf ++ (Y.take v ++ (x :: (Y.drop v ++ Sf)))
theorem UpI.next {Pf : List α} {x : α} {Y Sf : List α} {v : Nat} {d : Array α} (h : UpI Pf x Y Sf v d) (hv : v < Y.length) (i j : Nat) (hi : i = Pf.length + v) (hj : j = i + 1) : UpI Pf x Y Sf (v + 1) (swp d i j) := by
  unfold UpI at h ⊢
  have e : Y.drop v = Y[v] :: Y.drop (v + 1) := List.drop_eq_getElem_cons hv
  rw [e, ← List.append_assoc, List.cons_append] at h
  have := swp_next h i j (by rw [List.length_append, List.length_take]; omega) (by rw [List.length_append, List.length_take]; omega)
  rw [this, List.take_succ_eq_append_getElem hv, List.append_assoc, List.append_assoc]
  rfl
set_option maxHeartbeats 8000000 in
set_option maxRecDepth 1000000 in
theorem sym_left (k : Nat) (L : StP P k) (enc : α → List Value) (cf : α → α → Int) (hO : SWO (ltOf cf)) (gc : Nat) (cb : Array Value) (g off cap a m b : Nat) (d0 d : Array α) (w0 W : World) (eg : ∀ args w, (callFunc gc args).run P w = .ok (.enter gc args) w) (hcmp : CmpLays P gc cb enc k cf g off d0.size w0) (R : RowK enc k w0 g off d0) (hs : d0.size = d.size) (S : SWK enc k w0 g off d W) (Pf : List α) (x : α) (Y Sf : List α) (hd : d.toList = Pf ++ ([x] ++ (Y ++ Sf))) (ha : a = Pf.length) (h1 : m = a + 1) (h2 : m < b) (hb : b = m + Y.length) (hY : Asc (ltOf cf) Y) (hsz : d.size < 4611686018427387904) :
    Calls P 65 #[.slice (some ⟨g, off, none⟩) d.size cap, .int .i64 a, .int .i64 m, .int .i64 b, .func (.func gc) #[] cb] W fun e w' => e = .returned (.tuple #[]) ∧ ∃ d', SWK enc k w0 g off d' w' ∧ d'.size = d.size ∧ d'.toList = Pf ++ (mrg (ltOf cf) [x] Y ++ Sf) := by
  have mixed := L.mixed; have t0 := L.t0; have a0 := L.a0; have z0 := L.z0; have v0 := L.v0; have t3 := L.t3; have a3 := L.a3; have z3 := L.z3; have v3 := L.v3; have t4 := L.t4; have a4 := L.a4; have z4 := L.z4; have v4 := L.v4; have tu := L.tu; have au := L.au; have zu := L.zu; have vu := L.vu; have ts := L.ts; have asl := L.asl; have zs := L.zs; have vs := L.vs; have tf := L.tf; have af := L.af; have zf := L.zf; have vf := L.vf; have aE := L.aE; have zE := L.zE
  have HC : Aside _ := hcmp
  have S0 : Aside (SWK enc k w0 g off d W) := S
  have hsd := size_of hd
  simp only [List.length_singleton] at hsd
  have h3 : b ≤ d.size := by omega
  have D0 : Hid (d.toList = Pf ++ ([x] ++ (Y ++ Sf))) := hid_ hd
  have LA := hid_ ha
  have LB := hid_ hb
  have HY := hid_ hY
  have h1a : a < m := by omega
  have q1 : ((m : Int) - (a : Int) == 1) = true := by simp; omega
  have q2 : (m : Int) - (a : Int) = 1 := by omega
  have H1 := hid_ h1
  clear hcmp S hd hsd ha hb hY h1
  go_enter L.fSym, Try.ntmps65
  go_wp2_with fail
  go_loopw [10, 11] (fun s t wr => ∃ (i j : Nat), s = .int .i64 i ∧ t = .int .i64 j ∧ m ≤ i ∧ i ≤ j ∧ j ≤ b ∧ Hid ((m < i → ltOf cf d[i - 1]! d[a]! = true) ∧ (j < b → ltOf cf d[j]! d[a]! = false)) ∧ Aside (SWK enc k w0 g off d wr)) (fun s t _ => (intOf t).toNat - (intOf s).toNat)
  case atStart => exact ⟨m, b, rfl, rfl, by omega, by omega, by omega, hid_ ⟨fun h => absurd h (by omega), fun h => absurd h (by omega)⟩, S0⟩
  case round =>
    clear S0
    obtain ⟨i, j, rfl, rfl, hmi, hij, hjb, HI, S1⟩ := hrel
    by_cases hlt : i < j
    · have hltz : (i : Int) < (j : Int) := by omega
      obtain ⟨h, hh⟩ : ∃ h, h = (i + j) / 2 := ⟨_, rfl⟩
      have eh : ((i : Int) + (j : Int)) / 2 = (h : Int) := by omega
      have b1 : i ≤ h := by omega
      have b2 : h < j := by omega
      have wh : IntKind.i64.wrap ((h : Int) + 1) = ((h + 1 : Nat) : Int) := by rw [IntKind.wrap_i64]; omega
      clear hh
      go_upto_region 5 with (fail)
      clear eh
      cases hlv : ltOf cf d[h]! d[a]! with
      | true =>
        have HI2 : Hid ((m < h + 1 → ltOf cf d[h + 1 - 1]! d[a]! = true) ∧ (j < b → ltOf cf d[j]! d[a]! = false)) := hid_ ⟨fun _ => by rw [Nat.add_sub_cancel]; exact hlv, HI.out.2⟩
        clear HI
        have e1a : ((h : Int)).toNat = h := by omega
        have p1a : (0 : Int) ≤ (h : Int) := by omega
        have b1a : (h : Int) < (d.size : Int) := by omega
        have r1a : IntKind.i64.wrap ((h : Int)) = (h : Int) := by rw [IntKind.wrap_i64]; omega
        have e1c : ((a : Int)).toNat = a := by omega
        have p1c : (0 : Int) ≤ (a : Int) := by omega
        have b1c : (a : Int) < (d.size : Int) := by omega
        have r1c : IntKind.i64.wrap ((a : Int)) = (a : Int) := by rw [IntKind.wrap_i64]; omega
        obtain ⟨x1, hx1⟩ : ∃ x, x = d[h]! := ⟨_, rfl⟩
        obtain ⟨y1, hy1⟩ : ∃ x, x = d[a]! := ⟨_, rfl⟩
        have l1a := S1.out.ld R (by omega) P (h) (by omega)
        have l1b := S1.out.ld R (by omega) P (a) (by omega)
        rw [← hx1] at l1a
        rw [← hy1] at l1b
        have hc1 := S1.out.cmp HC.out (by omega) x1 y1
        have hv1 : cf x1 y1 < 0 := by rw [hx1, hy1]; exact of_decide_eq_true hlv
        have hd1 : decide (cf x1 y1 < 0) = true := decide_eq_true hv1
        clear hx1 hy1
        go_quiet_grown (first | (go_at_fn gc; refine Calls.grown_of (hc1 _ _)))
        have S2 : Aside (SWK enc k w0 g off d (grow (wr.drewN nq) osq)) := S1.out.grown nq osq
        clear l1a l1b hc1 S1
        generalize grow (wr.drewN nq) osq = w2 at S2 ⊢
        clear nq osq
        go_wp2
        go_roundw
        case rel => exact ⟨h + 1, j, by go_num, rfl, by omega, by omega, by omega, HI2, S2⟩
        case measure => simp [intOf]; omega
      | false =>
        have HI2 : Hid ((m < i → ltOf cf d[i - 1]! d[a]! = true) ∧ (h < b → ltOf cf d[h]! d[a]! = false)) := hid_ ⟨HI.out.1, fun _ => hlv⟩
        clear HI
        have e1a : ((h : Int)).toNat = h := by omega
        have p1a : (0 : Int) ≤ (h : Int) := by omega
        have b1a : (h : Int) < (d.size : Int) := by omega
        have r1a : IntKind.i64.wrap ((h : Int)) = (h : Int) := by rw [IntKind.wrap_i64]; omega
        have e1c : ((a : Int)).toNat = a := by omega
        have p1c : (0 : Int) ≤ (a : Int) := by omega
        have b1c : (a : Int) < (d.size : Int) := by omega
        have r1c : IntKind.i64.wrap ((a : Int)) = (a : Int) := by rw [IntKind.wrap_i64]; omega
        obtain ⟨x1, hx1⟩ : ∃ x, x = d[h]! := ⟨_, rfl⟩
        obtain ⟨y1, hy1⟩ : ∃ x, x = d[a]! := ⟨_, rfl⟩
        have l1a := S1.out.ld R (by omega) P (h) (by omega)
        have l1b := S1.out.ld R (by omega) P (a) (by omega)
        rw [← hx1] at l1a
        rw [← hy1] at l1b
        have hc1 := S1.out.cmp HC.out (by omega) x1 y1
        have hv1 : ¬ cf x1 y1 < 0 := by rw [hx1, hy1]; exact of_decide_eq_false hlv
        have hd1 : decide (cf x1 y1 < 0) = false := decide_eq_false hv1
        clear hx1 hy1
        go_quiet_grown (first | (go_at_fn gc; refine Calls.grown_of (hc1 _ _)))
        have S2 : Aside (SWK enc k w0 g off d (grow (wr.drewN nq) osq)) := S1.out.grown nq osq
        clear l1a l1b hc1 S1
        generalize grow (wr.drewN nq) osq = w2 at S2 ⊢
        clear nq osq
        go_wp2
        go_roundw
        case rel => exact ⟨i, h, rfl, rfl, by omega, by omega, by omega, HI2, S2⟩
        case measure => simp [intOf]; omega
    · obtain rfl : i = j := by omega
      have HM : Hid (mrg (ltOf cf) [x] Y = Y.take (i - m) ++ (x :: Y.drop (i - m))) := hid_ (by
        have hax : d[a]! = x := atX D0.out 0 (by simp) a (by rw [LA.out, Nat.add_zero])
        have hI := HI.out
        rw [hax] at hI
        have hLA := LA.out
        have hLB := LB.out
        have h1 := H1.out
        refine mrg_one hO HY.out (i - m) (by omega) ?_ ?_
        · rcases Nat.lt_or_ge i b with h | h
          · refine .inr ?_
            rw [← atY D0.out (i - m) (by omega) i (by simp only [List.length_singleton]; omega)]
            exact hI.2 h
          · exact .inl (by omega)
        · rcases Nat.lt_or_ge m i with h | h
          · refine .inr ?_
            rw [← atY D0.out (i - m - 1) (by omega) (i - 1) (by simp only [List.length_singleton]; omega)]
            exact hI.1 h
          · exact .inl (by omega))
      have U0 : Hid (UpI Pf x Y Sf 0 d) := hid_ (by have := D0.out; simpa [UpI] using this)
      have hwi : IntKind.i64.wrap ((i : Int) - 1) = ((i - 1 : Nat) : Int) := by rw [IntKind.wrap_i64]; omega
      have hz3 : (i : Int) - 1 = ((i - 1 : Nat) : Int) := by omega
      clear HI D0 HY
      go_wp2_with fail
      go_loopw [13] (fun s wr => ∃ (v : Nat) (dk : Array α), s = .int .i64 ((a + v : Nat) : Int) ∧ v ≤ i - m ∧ dk.size = d.size ∧ Hid (UpI Pf x Y Sf v dk) ∧ Aside (SWK enc k w0 g off dk wr)) (fun s _ => i - (intOf s).toNat)
      case atStart => exact ⟨0, d, by simp, by omega, rfl, U0, S1⟩
      case round =>
        clear S1 U0
        obtain ⟨v, dk, rfl, hv, hds, U1, S1⟩ := hrel
        obtain ⟨c, hc⟩ : ∃ c, c = a + v := ⟨_, rfl⟩
        rw [← hc]
        have HCV := hid_ hc
        have hca : a ≤ c := by omega
        have hcv : c - a = v := by omega
        have HCW := hid_ hcv
        clear hc hcv
        by_cases hlt2 : c < i - 1
        · have hltz : (c : Int) < ((i - 1 : Nat) : Int) := by omega
          have HU : Hid (UpI Pf x Y Sf (v + 1) (swp dk c (c + 1))) := hid_ (U1.out.next (by have := LB.out; have := HCV.out; have := H1.out; omega) c (c + 1) (by rw [HCV.out, LA.out]) rfl)
          have hw2 : IntKind.i64.wrap ((c : Int) + 1) = (c : Int) + 1 := by rw [IntKind.wrap_i64]; omega
          clear U1 hz3 hwi
          go_upto_region 11 with (fail)
          have e2a : ((c : Int)).toNat = c := by omega
          have p2a : (0 : Int) ≤ (c : Int) := by omega
          have b2a : (c : Int) < (d.size : Int) := by omega
          have r2a : IntKind.i64.wrap ((c : Int)) = (c : Int) := by rw [IntKind.wrap_i64]; omega
          have e2c : ((c : Int) + 1).toNat = c + 1 := by omega
          have p2c : (0 : Int) ≤ (c : Int) + 1 := by omega
          have b2c : (c : Int) + 1 < (d.size : Int) := by omega
          have r2c : IntKind.i64.wrap ((c : Int) + 1) = (c : Int) + 1 := by rw [IntKind.wrap_i64]; omega
          have S2 : Aside (SWK enc k w0 g off (swp dk (c) (c + 1)) ((wr.drew.setCells g (off + (c) * k) (enc dk[c + 1]!)).setCells g (off + (c + 1) * k) (enc dk[c]!))) := S1.out.swapped R (c) (c + 1) (by omega) (by omega)
          have l2a := S1.out.ld1 R (by omega) P (c) (by omega)
          have l2b := S1.out.ld1 R (by omega) P (c + 1) (by omega)
          have s2a := S1.out.st1 R (by omega) P (c) (by omega) dk[c + 1]!
          have s2b := S1.out.st2 R (by omega) P (c) (c + 1) (by omega) (by omega) dk[c + 1]! dk[c]!
          have n2a : (enc dk[c]!).length = k := R.hk _
          have n2b : (enc dk[c + 1]!).length = k := R.hk _
          generalize enc dk[c]! = cI2 at S2 l2a s2b n2a
          generalize enc dk[c + 1]! = cJ2 at S2 l2b s2a s2b n2b
          clear S1
          go_wp2_with fail
          go_big_region_o
          clear l2a l2b s2a s2b
          generalize (wr.drew.setCells g (off + (c) * k) cJ2).setCells g (off + (c + 1) * k) cI2 = w2 at S2 ⊢
          go_wp2
          go_roundw
          case rel => exact ⟨v + 1, _, by rw [HCV.out]; go_num, by have := HCV.out; have := H1.out; omega, by rw [size_swp]; exact hds, HU, S2⟩
          case measure => simp [intOf]; omega
        · have hnz : ¬ (c : Int) < ((i - 1 : Nat) : Int) := by omega
          have hvi : v = i - m := by have := HCV.out; have := H1.out; omega
          have HF : Hid (dk.toList = Pf ++ (mrg (ltOf cf) [x] Y ++ Sf)) := hid_ (by
            have h := U1.out
            unfold UpI at h
            rw [hvi] at h
            rw [h, HM.out]
            simp)
          clear U1 HM hvi
          go_wp2
          refine bodyPost_ret (results_none rfl _ _ _) rfl ?_
          exact ⟨rfl, dk, S1.out, hds, HF.out⟩
end Go.Proofs.Ytnpcnahnkfdgpaa
