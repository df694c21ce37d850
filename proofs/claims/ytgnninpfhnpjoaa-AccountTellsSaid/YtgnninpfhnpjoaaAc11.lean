/- The document's Hold, Free. -/
import Derived.Test.YtgnninpfhnpjoaaAc2
import Derived.Test.YtgnninpfhnpjoaaNv7
import Derived.BigQuiet
import Derived.Test.YtgnninpfhnpjoaaAc7
import Derived.Test.YtgnninpfhnpjoaaAcR
set_option linter.unusedSimpArgs false
set_option linter.unusedVariables false
namespace Go.Proofs.Ytgnninpfhnpjoaa
open Go.RowKit Go.Lib
set_option maxRecDepth 10000 in
theorem namesR_any (who asset : ByteArray) (w : World) (h1 : who.size ≤ 4294967280) (h2 : asset.size ≤ 4294967280) :
    Calls Try.prog 56 #[.string who, .string asset] w fun e w' => e = .returned (.bool (namedB ⟨who, asset⟩)) ∧ w = w' := by
  have SZ := hid_ (And.intro h1 h2)
  clear h1 h2
  obtain ⟨r, hr⟩ : ∃ r, namedB ⟨who, asset⟩ = r := ⟨_, rfl⟩
  rw [hr]
  have HR := hid_ hr
  clear hr
  go_enter Try.func56, Try.ntmps56
  go_wp2_with fail
  refine (whoR_any who w SZ.out.1).mono ?_
  rintro e _ ⟨rfl, rfl⟩
  obtain ⟨a, ha⟩ : ∃ q, whoB who = q := ⟨_, rfl⟩
  rw [ha]
  have HA := hid_ ha
  clear ha
  go_wp2_with fail
  refine (assetR_any asset w SZ.out.2).mono ?_
  rintro e _ ⟨rfl, rfl⟩
  obtain ⟨b, hb⟩ : ∃ q, assetB asset = q := ⟨_, rfl⟩
  rw [hb]
  have HF : Hid (r = (a && b)) := hid_ (by rw [← HR.out, ← HA.out, ← hb]; rfl)
  clear hb HR HA
  cases a
  · go_wp2
    go_ret
    exact ⟨by rw [HF.out]; rfl, rfl⟩
  · go_wp2
    go_ret
    exact ⟨by rw [HF.out]; rfl, rfl⟩
theorem find_hit {l : List Acc} {p : Plc} {j : Nat} {x : Acc} (hx : l[j]? = some x) (hp : x.plc = p) (h : ∀ (i : Nat) (y : Acc), i < j → l[i]? = some y → y.plc ≠ p) : findA l p = x := by
  unfold findA
  have hj := (List.getElem?_eq_some_iff.1 hx).1
  have : l.find? (fun a => decide (a.plc = p)) = some x := by
    rw [List.find?_eq_some_iff_getElem]
    refine ⟨by simpa using hp, j, hj, (List.getElem?_eq_some_iff.1 hx).2, fun i hij => ?_⟩
    have := h i l[i] hij (List.getElem?_eq_getElem (by omega))
    simp [this]
  rw [this]
  rfl
theorem find_miss {l : List Acc} {p : Plc} (h : ∀ (i : Nat) (y : Acc), l[i]? = some y → y.plc ≠ p) : findA l p = accZ p := by
  unfold findA
  rw [find_none]
  · rfl
  · intro x hx
    obtain ⟨i, hi, rfl⟩ := List.getElem_of_mem hx
    exact h i _ (List.getElem?_eq_getElem hi)
set_option maxRecDepth 10000 in
set_option maxHeartbeats 1000000 in
theorem findR_any (A : Option Addr) (n c : Nat) (l : List Acc) (p0 p1 : ByteArray) (w : World) (hA : Row accT w A n l) :
    Calls Try.prog 43 #[.slice A n c, .string p0, .string p1] w fun e w' => e = .returned (.agg (accC (findA l ⟨p0, p1⟩)).toArray) ∧ Bel w w' := by
  have hA63 := hA.2.1
  have HL := hid_ hA.1
  obtain ⟨f, hf⟩ : ∃ f, findA l ⟨p0, p1⟩ = f := ⟨_, rfl⟩
  rw [hf]
  have HFI := hid_ hf
  have KZ := hid_ (Bx.new w 49 [.string ⟨#[]⟩, .string ⟨#[]⟩, .int .i64 0, .int .i64 0])
  have HB := hid_ ((Bel.refl w).alloc (.cells #[.string ⟨#[]⟩, .string ⟨#[]⟩, .int .i64 0, .int .i64 0] 49))
  have HA := hid_ (hA.bel HB.out)
  clear hA hf
  go_enter Try.func43, Try.ntmps43
  go_wp2_with fail
  generalize w.alloc (.cells #[.string ⟨#[]⟩, .string ⟨#[]⟩, .int .i64 0, .int .i64 0] 49) = W0 at KZ HB HA ⊢
  obtain ⟨gZ, hgZ⟩ : ∃ g, w.heap.size = g := ⟨_, rfl⟩
  have HG := hid_ hgZ
  rw [hgZ] at KZ
  try rw [hgZ]
  clear hgZ
  go_loop [7] (fun i => ∃ k : Nat, k ≤ n ∧ i = .int .i64 k ∧ Hid (∀ (j : Nat) (y : Acc), j < k → l[j]? = some y → y.plc ≠ ⟨p0, p1⟩)) (fun i => n - (intOf i).toNat)
  case atStart => exact ⟨0, Nat.zero_le _, rfl, hid_ (fun j y h => absurd h (by omega))⟩
  case round =>
    obtain ⟨k, hk, rfl, hx⟩ := hrel
    by_cases hkn : k < n
    · obtain ⟨ad, o0, o1, o2, o3, rfl, ho, d0, d1, d2, d3⟩ := HA.out.acc hkn
      have HO := hid_ ho
      clear ho
      have HN : Hid (Acc.plc ⟨o0, o1, o2, o3⟩ ≠ ⟨p0, p1⟩ → ∀ (j : Nat) (y : Acc), j < k + 1 → l[j]? = some y → y.plc ≠ ⟨p0, p1⟩) := hid_ (fun hne j y hj hy => by
        rcases Nat.lt_or_ge j k with h | h
        · exact hx.out j y h hy
        · obtain rfl : j = k := by omega
          rw [HO.out] at hy
          cases hy
          exact hne)
      have HH : Hid (Acc.plc ⟨o0, o1, o2, o3⟩ = ⟨p0, p1⟩ → f = ⟨o0, o1, o2, o3⟩) := hid_ (fun h => by rw [← HFI.out]; exact find_hit HO.out h hx.out)
      clear hx HO
      by_cases c1 : o0 = p0
      · have q1 : (o0.toList == p0.toList) = true := by rw [bytesEq]; exact decide_eq_true c1
        have C1 := hid_ c1
        clear c1
        by_cases c2 : o1 = p1
        · have q2 : (o1.toList == p1.toList) = true := by rw [bytesEq]; exact decide_eq_true c2
          have HF : Hid (f = ⟨o0, o1, o2, o3⟩) := hid_ (HH.out (by rw [← C1.out, ← c2]; rfl))
          clear c2 HH HN
          have HLE : Hid (w.heap.size ≤ gZ) := hid_ (Nat.le_of_eq HG.out)
          have ks := ((((KZ.out.set 0 (.string o0)).set 1 (.string o1)).set 2 (.int .i64 o2)).set 3 (.int .i64 o3))
          have KS := hid_ ks
          have BS := hid_ ((((HB.out.setBx (g := gZ) (j := 0) HLE.out (.string o0)).setBx (j := 1) HLE.out (.string o1)).setBx (j := 2) HLE.out (.int .i64 o2)).setBx (j := 3) HLE.out (.int .i64 o3))
          clear ks
          have z0 := KZ.out.cell 0 rfl
          have z1 := KZ.out.cell 1 rfl
          have z2 := KZ.out.cell 2 rfl
          have z3 := KZ.out.cell 3 rfl
          have zf := fun j => KZ.out.frozen j
          go_wp2
          refine bodyPost_ret (results_c rfl _ _ gZ 49 _ (0, 0) _ rfl KS.out Try.underlying49 rfl (by kernel_rfl)) rfl ?_
          exact ⟨by rw [HF.out]; rfl, BS.out⟩
        · have q2 : (o1.toList == p1.toList) = false := by rw [bytesEq]; exact decide_eq_false c2
          have HX := hid_ (HN.out (fun h => c2 (congrArg Plc.asset h)))
          clear c2 HH HN
          go_wp2
          case roundEnd =>
            go_round
            case rel => exact ⟨k + 1, by omega, by go_num, HX⟩
            case measure => simp [intOf]; omega
      · have q1 : (o0.toList == p0.toList) = false := by rw [bytesEq]; exact decide_eq_false c1
        have HX := hid_ (HN.out (fun h => c1 (congrArg Plc.who h)))
        clear c1 HH HN
        go_wp2
        case roundEnd =>
          go_round
          case rel => exact ⟨k + 1, by omega, by go_num, HX⟩
          case measure => simp [intOf]; omega
    · obtain rfl : k = n := by omega
      have HF : Hid (f = accZ ⟨p0, p1⟩) := hid_ (by rw [← HFI.out]; exact find_miss (fun i y h => hx.out i y (by have := (List.getElem?_eq_some_iff.1 h).1; rw [HL.out] at this; exact this) h))
      clear hx
      have HLE : Hid (w.heap.size ≤ gZ) := hid_ (Nat.le_of_eq HG.out)
      have ks := ((((KZ.out.set 0 (.string p0)).set 1 (.string p1)).set 2 (.int .i64 0)).set 3 (.int .i64 0))
      have KS := hid_ ks
      have BS := hid_ ((((HB.out.setBx (g := gZ) (j := 0) HLE.out (.string p0)).setBx (j := 1) HLE.out (.string p1)).setBx (j := 2) HLE.out (.int .i64 0)).setBx (j := 3) HLE.out (.int .i64 0))
      clear ks
      have z0 := KZ.out.cell 0 rfl
      have z1 := KZ.out.cell 1 rfl
      have z2 := KZ.out.cell 2 rfl
      have z3 := KZ.out.cell 3 rfl
      have zf := fun j => KZ.out.frozen j
      go_wp2
      refine bodyPost_ret (results_c rfl _ _ gZ 49 _ (0, 0) _ rfl KS.out Try.underlying49 rfl (by kernel_rfl)) rfl ?_
      exact ⟨by rw [HF.out]; rfl, BS.out⟩
end Go.Proofs.Ytgnninpfhnpjoaa
set_option linter.unusedSimpArgs false
set_option linter.unusedVariables false
namespace Go.Proofs.Ytgnninpfhnpjoaa
open Go.RowKit Go.Lib
def wstep (a : Acc) (s : List Acc × Bool) (x : Acc) : List Acc × Bool :=
  if x.plc = a.plc then s else if s.2 = false ∧ ltP a.plc x.plc = true then (s.1 ++ [a, x], true) else (s.1 ++ [x], s.2)
def wfold (l : List Acc) (a : Acc) : List Acc × Bool := l.foldl (wstep a) ([], decide (a.balance = 0))
def wend (a : Acc) (s : List Acc × Bool) : List Acc := if s.2 = false then s.1 ++ [a] else s.1
theorem wfold_lo {a : Acc} : ∀ (L : List Acc) (s : List Acc × Bool), (∀ x ∈ L, ltP x.plc a.plc = true) → L.foldl (wstep a) s = (s.1 ++ L, s.2)
  | [], s, _ => by simp
  | x :: L, s, h => by
    have hx := h x (by simp)
    rw [List.foldl_cons]
    have e : wstep a s x = (s.1 ++ [x], s.2) := by
      unfold wstep
      rw [if_neg (ltP_ne hx), if_neg (by simp [ltP_asym hx])]
    rw [e, wfold_lo L _ (fun y hy => h y (by simp [hy]))]
    simp
theorem wfold_hi {a : Acc} : ∀ (R : List Acc) (s : List Acc × Bool), s.2 = true → (∀ x ∈ R, x.plc ≠ a.plc) → R.foldl (wstep a) s = (s.1 ++ R, true)
  | [], s, h, _ => by simp [← h]
  | x :: R, s, h, hn => by
    rw [List.foldl_cons]
    have e : wstep a s x = (s.1 ++ [x], true) := by
      unfold wstep
      rw [if_neg (hn x (by simp)), if_neg (by simp [h]), h]
    rw [e, wfold_hi R _ rfl (fun y hy => hn y (by simp [hy]))]
    simp
theorem wend_eq {l : List Acc} (hs : Srt l) (a : Acc) : wend a (wfold l a) = withA l a := by
  obtain ⟨L, M, R, hC⟩ := srt_cut hs a.plc
  rw [hC.with_]
  unfold wfold
  rw [hC.eq, List.foldl_append, List.foldl_append, wfold_lo L _ hC.lo]
  have hm : ∀ s, M.toList.foldl (wstep a) s = s := fun s => by
    cases M with
    | none => rfl
    | some x => simp [wstep, hC.at_ x rfl]
  rw [hm]
  by_cases hb : a.balance = 0
  · rw [decide_eq_true hb, wfold_hi R _ rfl hC.hiNe, if_pos hb]
    simp [wend]
  · rw [decide_eq_false hb, if_neg hb]
    cases R with
    | nil => simp [wend]
    | cons x R =>
      have hx := hC.hi x (by simp)
      have hne := hC.hiNe x (by simp)
      rw [List.foldl_cons]
      have e : wstep a (([] : List Acc) ++ L, false) x = (L ++ [a, x], true) := by
        unfold wstep
        rw [if_neg hne, if_pos ⟨rfl, hx⟩]
        simp
      rw [e, wfold_hi R _ rfl (fun y hy => hC.hiNe y (by simp [hy]))]
      simp [wend]
theorem wfold_step {l : List Acc} {a x : Acc} {k : Nat} (h : l[k]? = some x) : wfold (l.take (k + 1)) a = wstep a (wfold (l.take k) a) x := by
  unfold wfold
  rw [List.take_add_one, h]
  simp [List.foldl_append]
theorem before_bel (p0 p1 q0 q1 : ByteArray) (w : World) : Calls Try.prog 57 #[.string p0, .string p1, .string q0, .string q1] w fun e w' => e = .returned (.bool (ltP ⟨p0, p1⟩ ⟨q0, q1⟩)) ∧ Bel w w' := (before_any p0 p1 q0 q1 w).mono fun _ _ ⟨h, k⟩ => ⟨h, k ▸ Bel.refl w⟩
set_option maxRecDepth 10000 in
set_option maxHeartbeats 4000000 in
theorem withR_any (A : Option Addr) (n c : Nat) (l : List Acc) (a0 a1 : ByteArray) (a2 a3 : Int) (w : World) (hA : Row accT w A n l) (hs : Srt l) (hn : n ≤ 99999) :
    Calls Try.prog 66 #[.slice A n c, .agg #[.string a0, .string a1, .int .i64 a2, .int .i64 a3]] w fun e w' => ∃ v, e = .returned v ∧ Own accT w' w.heap.size v (withA l ⟨a0, a1, a2, a3⟩) ∧ Bel w w' := by
  have HL := hid_ hA.1
  have hA63 := hA.2.1
  obtain ⟨ro, hro⟩ : ∃ r, withA l ⟨a0, a1, a2, a3⟩ = r := ⟨_, rfl⟩
  rw [hro]
  have HRO : Hid (wend ⟨a0, a1, a2, a3⟩ (wfold l ⟨a0, a1, a2, a3⟩) = ro) := hid_ (by rw [wend_eq hs]; exact hro)
  have HN := hid_ hn
  clear hs hn hro
  have k0 := Bx.new w 49 [.string a0, .string a1, .int .i64 a2, .int .i64 a3]
  have k0 : Bx (w.alloc (.cells #[.string a0, .string a1, .int .i64 a2, .int .i64 a3] 49)) (w.heap.size) 49 [.string a0, .string a1, .int .i64 a2, .int .i64 a3] := k0
  have kB : Bel w (w.alloc (.cells #[.string a0, .string a1, .int .i64 a2, .int .i64 a3] 49)) := (Bel.refl w).alloc _
  have FO := hid_ k0
  have FB := hid_ kB
  clear k0 kB
  have FA := hid_ (hA.bel FB.out)
  clear hA
  go_enter Try.func66, Try.ntmps66
  obtain ⟨d0, hd0⟩ : ∃ d, (a2 == 0) = d := ⟨_, rfl⟩
  have HD : Hid (wfold [] ⟨a0, a1, a2, a3⟩ = ([], d0)) := hid_ (by rw [← hd0]; unfold wfold; rw [List.foldl_nil, show decide (Acc.balance ⟨a0, a1, a2, a3⟩ = 0) = (a2 == 0) from (by rw [Bool.eq_iff_iff]; simp)])
  have qO0 := FO.out.cell 0 rfl
  have qO1 := FO.out.cell 1 rfl
  have qO2 := FO.out.cell 2 rfl
  have qO3 := FO.out.cell 3 rfl
  go_wp2_with fail
  clear hd0
  generalize (w.alloc (.cells #[.string a0, .string a1, .int .i64 a2, .int .i64 a3] 49)) = W0 at FO FB FA ⊢
  obtain ⟨gO, hgO⟩ : ∃ g, w.heap.size = g := ⟨_, rfl⟩
  have HGO := hid_ hgO
  rw [hgO] at FO
  try rw [hgO]
  clear hgO
  go_loopw [5, 6, 7] (fun v d i wr => ∃ (k : Nat) (xs : List Acc) (b : Bool), k ≤ n ∧ i = .int .i64 k ∧ d = .bool b ∧ Own accT wr W0.heap.size v xs ∧ Hid (wfold (l.take k) ⟨a0, a1, a2, a3⟩ = (xs, b) ∧ xs.length ≤ k + (if b then 1 else 0)) ∧ Bel W0 wr) (fun _ _ i _ => n - (intOf i).toNat)
  case atStart => exact ⟨0, [], d0, Nat.zero_le _, rfl, rfl, Own.nil_ _ _ _, hid_ ⟨by rw [List.take_zero]; exact HD.out, Nat.zero_le _⟩, Bel.refl _⟩
  case round =>
    obtain ⟨k, xs, b, hk, rfl, rfl, hO, hx, hbr⟩ := hrel
    have BR := hid_ hbr
    have HOW := hid_ hO
    have B0 := hid_ (FB.out.trans hbr)
    clear hO
    by_cases hkn : k < n
    · obtain ⟨ad, o0, o1, o2, o3, rfl, ho, y0, y1, y2, y3⟩ := FA.out.acc hkn
      have DW := hid_ (And.intro y0 (And.intro y1 (And.intro y2 y3)))
      have d0' := hbr.cell_ y0
      have d1 := hbr.cell_ y1
      have d2 := hbr.cell_ y2
      have d3 := hbr.cell_ y3
      clear y0 y1 y2 y3
      have q0 := (FO.out.bel hbr).cell 0 rfl
      have q1 := (FO.out.bel hbr).cell 1 rfl
      have q2 := (FO.out.bel hbr).cell 2 rfl
      have q3 := (FO.out.bel hbr).cell 3 rfl
      have hst := wfold_step (a := ⟨a0, a1, a2, a3⟩) ho
      rw [hx.out.1] at hst
      have HST := hid_ hst
      have hxl := hx.out.2
      have HXL := hid_ hxl
      have i0 : (0 : Int) ≤ (k : Int) := by omega
      have i1 : (k : Int) < (n : Int) := by omega
      clear hbr ho hst hx hxl
      by_cases cp : Acc.plc (Acc.mk o0 o1 o2 o3) = Acc.plc (Acc.mk a0 a1 a2 a3)
      · have q4 : (o0.toList == a0.toList) = true := by rw [bytesEq]; exact decide_eq_true (congrArg Plc.who cp)
        have q5 : (o1.toList == a1.toList) = true := by rw [bytesEq]; exact decide_eq_true (congrArg Plc.asset cp)
        have HR9 : Hid (wfold (l.take (k + 1)) (Acc.mk a0 a1 a2 a3) = (xs, b) ∧ xs.length ≤ k + 1 + (if b then 1 else 0)) := hid_ ⟨by rw [HST.out]; unfold wstep; rw [if_pos cp], by have := HXL.out; omega⟩
        clear cp HST HXL
        go_wp2_with fail
        go_quiet (fail)
        obtain ⟨W2, hW2, hb2⟩ : ∃ W2, wr.drewN nq = W2 ∧ Bel wr W2 := ⟨_, rfl, (Bel.refl wr).drewN _⟩
        rw [hW2]
        clear hW2
        have HO9 := hid_ (HOW.out.bel hb2)
        have B9 := hid_ (BR.out.trans hb2)
        clear q0 q1 q2 q3 d0' d1 d2 d3 hb2
        go_wp2
        case roundEnd =>
          go_roundw
          case rel => exact ⟨k + 1, xs, b, by omega, by go_num, rfl, HO9.out, HR9, B9.out⟩
          case measure => simp [intOf]; omega
      · have HNE := hid_ cp
        clear cp
        obtain ⟨lt, hlt⟩ : ∃ b, ltP ⟨a0, a1⟩ ⟨o0, o1⟩ = b := ⟨_, rfl⟩
        have HLT := hid_ hlt
        clear hlt
        by_cases c1 : o0 = a0
        · have q4 : (o0.toList == a0.toList) = true := by rw [bytesEq]; exact decide_eq_true c1
          have q5 : (o1.toList == a1.toList) = false := by rw [bytesEq]; exact decide_eq_false (fun h => HNE.out (by rw [show Acc.plc (Acc.mk o0 o1 o2 o3) = ⟨o0, o1⟩ from rfl, c1, h]; rfl))
          clear c1
          go_wp2_with fail
          go_quiet (fail)
          obtain ⟨W2, hW2, hb2⟩ : ∃ W2, wr.drewN nq = W2 ∧ Bel wr W2 := ⟨_, rfl, (Bel.refl wr).drewN _⟩
          rw [hW2]
          clear hW2
          have q0w := hb2.cell_ q0
          have q1w := hb2.cell_ q1
          have q2w := hb2.cell_ q2
          have q3w := hb2.cell_ q3
          have d0'w := hb2.cell_ d0'
          have d1w := hb2.cell_ d1
          have d2w := hb2.cell_ d2
          have d3w := hb2.cell_ d3
          have HOW2 := hid_ (HOW.out.bel hb2)
          have B2 := hid_ (B0.out.trans hb2)
          have BR2 := hid_ (BR.out.trans hb2)
          clear hb2 q0 q1 q2 q3 d0' d1 d2 d3
          go_wp2_with fail
          have hKP : ∀ W, Bel W2 W → (fun W => Bel W2 W ∧ W.cell? ⟨gO, 0, none⟩ = some (.string a0) ∧ W.cell? ⟨gO, 1, none⟩ = some (.string a1) ∧ W.cell? ⟨gO, 2, none⟩ = some (.int .i64 a2) ∧ W.cell? ⟨gO, 3, none⟩ = some (.int .i64 a3) ∧ W.cell? (ad.add (k * 4)) = some (.string o0) ∧ W.cell? ⟨(ad.add (k * 4)).block, (ad.add (k * 4)).off + 1, none⟩ = some (.string o1) ∧ W.cell? ⟨(ad.add (k * 4)).block, (ad.add (k * 4)).off + 2, none⟩ = some (.int .i64 o2) ∧ W.cell? ⟨(ad.add (k * 4)).block, (ad.add (k * 4)).off + 3, none⟩ = some (.int .i64 o3)) W := fun W b => ⟨b, b.cell_ q0w, b.cell_ q1w, b.cell_ q2w, b.cell_ q3w, b.cell_ d0'w, b.cell_ d1w, b.cell_ d2w, b.cell_ d3w⟩
          have HKP := hid_ hKP
          clear hKP
          go_region_held3 (fun W => Bel W2 W ∧ W.cell? ⟨gO, 0, none⟩ = some (.string a0) ∧ W.cell? ⟨gO, 1, none⟩ = some (.string a1) ∧ W.cell? ⟨gO, 2, none⟩ = some (.int .i64 a2) ∧ W.cell? ⟨gO, 3, none⟩ = some (.int .i64 a3) ∧ W.cell? (ad.add (k * 4)) = some (.string o0) ∧ W.cell? ⟨(ad.add (k * 4)).block, (ad.add (k * 4)).off + 1, none⟩ = some (.string o1) ∧ W.cell? ⟨(ad.add (k * 4)).block, (ad.add (k * 4)).off + 2, none⟩ = some (.int .i64 o2) ∧ W.cell? ⟨(ad.add (k * 4)).block, (ad.add (k * 4)).off + 3, none⟩ = some (.int .i64 o3)) ((refine HKP.out _ ?_; (repeat first | with_reducible exact Bel.refl _ | with_reducible exact bz0 | with_reducible apply Bel.drew | with_reducible apply Bel.alloc)))
            (first
              | (go_at_call 57; refine' Calls.mono (before_bel a0 a1 o0 o1 _) ?_; rintro e w9 ⟨rfl, b9⟩; have bz0 : Bel W2 w9 := Bel.trans (by (repeat first | with_reducible exact Bel.refl _ | with_reducible exact bz0 | with_reducible apply Bel.drew | with_reducible apply Bel.alloc)) b9; rw [HLT.out]))
          clear HKP
          have q0v := bz0.cell_ q0w
          have q1v := bz0.cell_ q1w
          have q2v := bz0.cell_ q2w
          have q3v := bz0.cell_ q3w
          have d0'v := bz0.cell_ d0'w
          have d1v := bz0.cell_ d1w
          have d2v := bz0.cell_ d2w
          have d3v := bz0.cell_ d3w
          have HOW3 := hid_ (HOW2.out.bel bz0)
          have B3 := hid_ (B2.out.trans bz0)
          have BR3 := hid_ (BR2.out.trans bz0)
          clear q0w q1w q2w q3w d0'w d1w d2w d3w
          clear bz0 HOW2 B2 BR2 HOW
          try clear hw9
          cases b
          · cases lt
            · have HR9 : Hid (wfold (l.take (k + 1)) (Acc.mk a0 a1 a2 a3) = (xs ++ [(Acc.mk o0 o1 o2 o3)], false) ∧ (xs ++ [(Acc.mk o0 o1 o2 o3)]).length ≤ k + 1 + (if false then 1 else 0)) := hid_ ⟨by rw [HST.out]; unfold wstep; rw [if_neg HNE.out, if_neg (by rw [show ltP (Acc.plc (Acc.mk a0 a1 a2 a3)) (Acc.plc (Acc.mk o0 o1 o2 o3)) = false from HLT.out]; simp)], by have := HXL.out; simp at this ⊢; omega⟩
              have HS1 : Hid ((xs.length + 1) * 48 ≤ 140737488355328) := hid_ (by have h1 := HXL.out; have h2 := HN.out; simp at h1; omega)
              clear HST HXL HNE
              go_wp2_with (at_builtin; refine wpApp (w0 := W0) accS rfl _ _ rfl _ xs [(Acc.mk o0 o1 o2 o3)] (some ⟨_, 0, none⟩) 1 1 rfl rfl (HOW3.out.alloc_ _) (Row.one (T := accT) (Acc.mk o0 o1 o2 o3) rfl rfl) (BR3.out.alloc _) HS1.out ?_; intro v1 x1 hO1 hb1 _ _)
              have HO9 := hid_ hO1
              have HB9 := hid_ hb1
              clear hO1 hb1
              try go_wp2
              case roundEnd =>
                go_roundw
                case rel => exact ⟨k + 1, xs ++ [(Acc.mk o0 o1 o2 o3)], false, by omega, by go_num, rfl, HO9.out, HR9, HB9.out⟩
                case measure => simp [intOf]; omega
            · have HR9 : Hid (wfold (l.take (k + 1)) (Acc.mk a0 a1 a2 a3) = (xs ++ [(Acc.mk a0 a1 a2 a3)] ++ [(Acc.mk o0 o1 o2 o3)], true) ∧ (xs ++ [(Acc.mk a0 a1 a2 a3)] ++ [(Acc.mk o0 o1 o2 o3)]).length ≤ k + 1 + (if true then 1 else 0)) := hid_ ⟨by rw [HST.out]; unfold wstep; rw [if_neg HNE.out, if_pos ⟨rfl, HLT.out⟩]; simp, by have := HXL.out; simp at this ⊢; omega⟩
              have HS1 : Hid ((xs.length + 1) * 48 ≤ 140737488355328) := hid_ (by have h1 := HXL.out; have h2 := HN.out; simp at h1; omega)
              have HS2 : Hid (((xs ++ [(Acc.mk a0 a1 a2 a3)]).length + 1) * 48 ≤ 140737488355328) := hid_ (by have h1 := HXL.out; have h2 := HN.out; simp at h1 ⊢; omega)
              clear HST HXL HNE
              have tok1 : True := trivial
              go_wp2_with (first | (at_builtin; have _t := tok1; refine wpApp (w0 := W0) accS rfl _ _ rfl _ xs [(Acc.mk a0 a1 a2 a3)] (some ⟨_, 0, none⟩) 1 1 rfl rfl (HOW3.out.alloc_ _) (Row.one (T := accT) (Acc.mk a0 a1 a2 a3) rfl rfl) (BR3.out.alloc _) HS1.out ?_; intro v1 x1 hO1 hb1 _ _; clear tok1 _t; have e0 := hb1.cell_ DW.out.1; have e1 := hb1.cell_ DW.out.2.1; have e2 := hb1.cell_ DW.out.2.2.1; have e3 := hb1.cell_ DW.out.2.2.2) | (at_builtin; refine wpApp (w0 := W0) accS rfl _ _ rfl _ (xs ++ [(Acc.mk a0 a1 a2 a3)]) [(Acc.mk o0 o1 o2 o3)] (some ⟨_, 0, none⟩) 1 1 rfl rfl (hO1.alloc_ _) (Row.one (T := accT) (Acc.mk o0 o1 o2 o3) rfl rfl) (hb1.alloc _) HS2.out ?_; intro v2 x2 hO2 hb2 _ _))
              have HO9 := hid_ hO2
              have HB9 := hid_ hb2
              clear hO1 hb1 hO2 hb2 e0 e1 e2 e3
              try go_wp2
              case roundEnd =>
                go_roundw
                case rel => exact ⟨k + 1, xs ++ [(Acc.mk a0 a1 a2 a3)] ++ [(Acc.mk o0 o1 o2 o3)], true, by omega, by go_num, rfl, HO9.out, HR9, HB9.out⟩
                case measure => simp [intOf]; omega
          · have HR9 : Hid (wfold (l.take (k + 1)) (Acc.mk a0 a1 a2 a3) = (xs ++ [(Acc.mk o0 o1 o2 o3)], true) ∧ (xs ++ [(Acc.mk o0 o1 o2 o3)]).length ≤ k + 1 + (if true then 1 else 0)) := hid_ ⟨by rw [HST.out]; unfold wstep; rw [if_neg HNE.out, if_neg (by simp)], by have := HXL.out; simp at this ⊢; omega⟩
            have HS1 : Hid ((xs.length + 1) * 48 ≤ 140737488355328) := hid_ (by have h1 := HXL.out; have h2 := HN.out; simp at h1; omega)
            clear HST HXL HNE
            go_wp2_with (at_builtin; refine wpApp (w0 := W0) accS rfl _ _ rfl _ xs [(Acc.mk o0 o1 o2 o3)] (some ⟨_, 0, none⟩) 1 1 rfl rfl (HOW3.out.alloc_ _) (Row.one (T := accT) (Acc.mk o0 o1 o2 o3) rfl rfl) (BR3.out.alloc _) HS1.out ?_; intro v1 x1 hO1 hb1 _ _)
            have HO9 := hid_ hO1
            have HB9 := hid_ hb1
            clear hO1 hb1
            try go_wp2
            case roundEnd =>
              go_roundw
              case rel => exact ⟨k + 1, xs ++ [(Acc.mk o0 o1 o2 o3)], true, by omega, by go_num, rfl, HO9.out, HR9, HB9.out⟩
              case measure => simp [intOf]; omega
        · have q4 : (o0.toList == a0.toList) = false := by rw [bytesEq]; exact decide_eq_false c1
          clear c1
          go_wp2_with fail
          go_quiet (fail)
          obtain ⟨W2, hW2, hb2⟩ : ∃ W2, wr.drewN nq = W2 ∧ Bel wr W2 := ⟨_, rfl, (Bel.refl wr).drewN _⟩
          rw [hW2]
          clear hW2
          have q0w := hb2.cell_ q0
          have q1w := hb2.cell_ q1
          have q2w := hb2.cell_ q2
          have q3w := hb2.cell_ q3
          have d0'w := hb2.cell_ d0'
          have d1w := hb2.cell_ d1
          have d2w := hb2.cell_ d2
          have d3w := hb2.cell_ d3
          have HOW2 := hid_ (HOW.out.bel hb2)
          have B2 := hid_ (B0.out.trans hb2)
          have BR2 := hid_ (BR.out.trans hb2)
          clear hb2 q0 q1 q2 q3 d0' d1 d2 d3
          go_wp2_with fail
          have hKP : ∀ W, Bel W2 W → (fun W => Bel W2 W ∧ W.cell? ⟨gO, 0, none⟩ = some (.string a0) ∧ W.cell? ⟨gO, 1, none⟩ = some (.string a1) ∧ W.cell? ⟨gO, 2, none⟩ = some (.int .i64 a2) ∧ W.cell? ⟨gO, 3, none⟩ = some (.int .i64 a3) ∧ W.cell? (ad.add (k * 4)) = some (.string o0) ∧ W.cell? ⟨(ad.add (k * 4)).block, (ad.add (k * 4)).off + 1, none⟩ = some (.string o1) ∧ W.cell? ⟨(ad.add (k * 4)).block, (ad.add (k * 4)).off + 2, none⟩ = some (.int .i64 o2) ∧ W.cell? ⟨(ad.add (k * 4)).block, (ad.add (k * 4)).off + 3, none⟩ = some (.int .i64 o3)) W := fun W b => ⟨b, b.cell_ q0w, b.cell_ q1w, b.cell_ q2w, b.cell_ q3w, b.cell_ d0'w, b.cell_ d1w, b.cell_ d2w, b.cell_ d3w⟩
          have HKP := hid_ hKP
          clear hKP
          go_region_held3 (fun W => Bel W2 W ∧ W.cell? ⟨gO, 0, none⟩ = some (.string a0) ∧ W.cell? ⟨gO, 1, none⟩ = some (.string a1) ∧ W.cell? ⟨gO, 2, none⟩ = some (.int .i64 a2) ∧ W.cell? ⟨gO, 3, none⟩ = some (.int .i64 a3) ∧ W.cell? (ad.add (k * 4)) = some (.string o0) ∧ W.cell? ⟨(ad.add (k * 4)).block, (ad.add (k * 4)).off + 1, none⟩ = some (.string o1) ∧ W.cell? ⟨(ad.add (k * 4)).block, (ad.add (k * 4)).off + 2, none⟩ = some (.int .i64 o2) ∧ W.cell? ⟨(ad.add (k * 4)).block, (ad.add (k * 4)).off + 3, none⟩ = some (.int .i64 o3)) ((refine HKP.out _ ?_; (repeat first | with_reducible exact Bel.refl _ | with_reducible exact bz0 | with_reducible apply Bel.drew | with_reducible apply Bel.alloc)))
            (first
              | (go_at_call 57; refine' Calls.mono (before_bel a0 a1 o0 o1 _) ?_; rintro e w9 ⟨rfl, b9⟩; have bz0 : Bel W2 w9 := Bel.trans (by (repeat first | with_reducible exact Bel.refl _ | with_reducible exact bz0 | with_reducible apply Bel.drew | with_reducible apply Bel.alloc)) b9; rw [HLT.out]))
          clear HKP
          have q0v := bz0.cell_ q0w
          have q1v := bz0.cell_ q1w
          have q2v := bz0.cell_ q2w
          have q3v := bz0.cell_ q3w
          have d0'v := bz0.cell_ d0'w
          have d1v := bz0.cell_ d1w
          have d2v := bz0.cell_ d2w
          have d3v := bz0.cell_ d3w
          have HOW3 := hid_ (HOW2.out.bel bz0)
          have B3 := hid_ (B2.out.trans bz0)
          have BR3 := hid_ (BR2.out.trans bz0)
          clear q0w q1w q2w q3w d0'w d1w d2w d3w
          clear bz0 HOW2 B2 BR2 HOW
          try clear hw9
          cases b
          · cases lt
            · have HR9 : Hid (wfold (l.take (k + 1)) (Acc.mk a0 a1 a2 a3) = (xs ++ [(Acc.mk o0 o1 o2 o3)], false) ∧ (xs ++ [(Acc.mk o0 o1 o2 o3)]).length ≤ k + 1 + (if false then 1 else 0)) := hid_ ⟨by rw [HST.out]; unfold wstep; rw [if_neg HNE.out, if_neg (by rw [show ltP (Acc.plc (Acc.mk a0 a1 a2 a3)) (Acc.plc (Acc.mk o0 o1 o2 o3)) = false from HLT.out]; simp)], by have := HXL.out; simp at this ⊢; omega⟩
              have HS1 : Hid ((xs.length + 1) * 48 ≤ 140737488355328) := hid_ (by have h1 := HXL.out; have h2 := HN.out; simp at h1; omega)
              clear HST HXL HNE
              go_wp2_with (at_builtin; refine wpApp (w0 := W0) accS rfl _ _ rfl _ xs [(Acc.mk o0 o1 o2 o3)] (some ⟨_, 0, none⟩) 1 1 rfl rfl (HOW3.out.alloc_ _) (Row.one (T := accT) (Acc.mk o0 o1 o2 o3) rfl rfl) (BR3.out.alloc _) HS1.out ?_; intro v1 x1 hO1 hb1 _ _)
              have HO9 := hid_ hO1
              have HB9 := hid_ hb1
              clear hO1 hb1
              try go_wp2
              case roundEnd =>
                go_roundw
                case rel => exact ⟨k + 1, xs ++ [(Acc.mk o0 o1 o2 o3)], false, by omega, by go_num, rfl, HO9.out, HR9, HB9.out⟩
                case measure => simp [intOf]; omega
            · have HR9 : Hid (wfold (l.take (k + 1)) (Acc.mk a0 a1 a2 a3) = (xs ++ [(Acc.mk a0 a1 a2 a3)] ++ [(Acc.mk o0 o1 o2 o3)], true) ∧ (xs ++ [(Acc.mk a0 a1 a2 a3)] ++ [(Acc.mk o0 o1 o2 o3)]).length ≤ k + 1 + (if true then 1 else 0)) := hid_ ⟨by rw [HST.out]; unfold wstep; rw [if_neg HNE.out, if_pos ⟨rfl, HLT.out⟩]; simp, by have := HXL.out; simp at this ⊢; omega⟩
              have HS1 : Hid ((xs.length + 1) * 48 ≤ 140737488355328) := hid_ (by have h1 := HXL.out; have h2 := HN.out; simp at h1; omega)
              have HS2 : Hid (((xs ++ [(Acc.mk a0 a1 a2 a3)]).length + 1) * 48 ≤ 140737488355328) := hid_ (by have h1 := HXL.out; have h2 := HN.out; simp at h1 ⊢; omega)
              clear HST HXL HNE
              have tok1 : True := trivial
              go_wp2_with (first | (at_builtin; have _t := tok1; refine wpApp (w0 := W0) accS rfl _ _ rfl _ xs [(Acc.mk a0 a1 a2 a3)] (some ⟨_, 0, none⟩) 1 1 rfl rfl (HOW3.out.alloc_ _) (Row.one (T := accT) (Acc.mk a0 a1 a2 a3) rfl rfl) (BR3.out.alloc _) HS1.out ?_; intro v1 x1 hO1 hb1 _ _; clear tok1 _t; have e0 := hb1.cell_ DW.out.1; have e1 := hb1.cell_ DW.out.2.1; have e2 := hb1.cell_ DW.out.2.2.1; have e3 := hb1.cell_ DW.out.2.2.2) | (at_builtin; refine wpApp (w0 := W0) accS rfl _ _ rfl _ (xs ++ [(Acc.mk a0 a1 a2 a3)]) [(Acc.mk o0 o1 o2 o3)] (some ⟨_, 0, none⟩) 1 1 rfl rfl (hO1.alloc_ _) (Row.one (T := accT) (Acc.mk o0 o1 o2 o3) rfl rfl) (hb1.alloc _) HS2.out ?_; intro v2 x2 hO2 hb2 _ _))
              have HO9 := hid_ hO2
              have HB9 := hid_ hb2
              clear hO1 hb1 hO2 hb2 e0 e1 e2 e3
              try go_wp2
              case roundEnd =>
                go_roundw
                case rel => exact ⟨k + 1, xs ++ [(Acc.mk a0 a1 a2 a3)] ++ [(Acc.mk o0 o1 o2 o3)], true, by omega, by go_num, rfl, HO9.out, HR9, HB9.out⟩
                case measure => simp [intOf]; omega
          · have HR9 : Hid (wfold (l.take (k + 1)) (Acc.mk a0 a1 a2 a3) = (xs ++ [(Acc.mk o0 o1 o2 o3)], true) ∧ (xs ++ [(Acc.mk o0 o1 o2 o3)]).length ≤ k + 1 + (if true then 1 else 0)) := hid_ ⟨by rw [HST.out]; unfold wstep; rw [if_neg HNE.out, if_neg (by simp)], by have := HXL.out; simp at this ⊢; omega⟩
            have HS1 : Hid ((xs.length + 1) * 48 ≤ 140737488355328) := hid_ (by have h1 := HXL.out; have h2 := HN.out; simp at h1; omega)
            clear HST HXL HNE
            go_wp2_with (at_builtin; refine wpApp (w0 := W0) accS rfl _ _ rfl _ xs [(Acc.mk o0 o1 o2 o3)] (some ⟨_, 0, none⟩) 1 1 rfl rfl (HOW3.out.alloc_ _) (Row.one (T := accT) (Acc.mk o0 o1 o2 o3) rfl rfl) (BR3.out.alloc _) HS1.out ?_; intro v1 x1 hO1 hb1 _ _)
            have HO9 := hid_ hO1
            have HB9 := hid_ hb1
            clear hO1 hb1
            try go_wp2
            case roundEnd =>
              go_roundw
              case rel => exact ⟨k + 1, xs ++ [(Acc.mk o0 o1 o2 o3)], true, by omega, by go_num, rfl, HO9.out, HR9, HB9.out⟩
              case measure => simp [intOf]; omega
    · obtain rfl : k = n := by omega
      have h := hx.out.1
      rw [← HL.out, List.take_length] at h
      have h2 := HRO.out
      rw [h] at h2
      have HE := hid_ h2
      have HXL := hid_ hx.out.2
      have q0 := (FO.out.bel hbr).cell 0 rfl
      have q1 := (FO.out.bel hbr).cell 1 rfl
      have q2 := (FO.out.bel hbr).cell 2 rfl
      have q3 := (FO.out.bel hbr).cell 3 rfl
      clear hx hbr h h2
      cases b
      · have HEE : Hid (xs ++ [⟨a0, a1, a2, a3⟩] = ro) := hid_ HE.out
        have HS1 : Hid ((xs.length + 1) * 48 ≤ 140737488355328) := hid_ (by have h1 := HXL.out; have h2 := HN.out; simp at h1; omega)
        clear HE
        go_wp2_with (at_builtin; refine wpApp (w0 := W0) accS rfl _ _ rfl _ xs [⟨a0, a1, a2, a3⟩] (some ⟨wr.heap.size, 0, none⟩) 1 1 rfl rfl (HOW.out.alloc_ _) (Row.one (T := accT) ⟨a0, a1, a2, a3⟩ rfl rfl) (BR.out.alloc _) HS1.out ?_; intro v1 x1 hO1 hb1 _ _)
        rw [HEE.out] at hO1
        have HO1 := hid_ (hO1.mono_ FB.out.size_)
        have HB1 := hid_ (FB.out.trans hb1)
        clear hO1 hb1
        try go_wp2
        go_ret
        exact ⟨_, rfl, HO1.out, HB1.out⟩
      · have HEE : Hid (xs = ro) := hid_ HE.out
        clear HE
        rw [HEE.out] at HOW
        go_wp2
        go_ret
        exact ⟨_, rfl, HOW.out.mono_ FB.out.size_, B0.out⟩
end Go.Proofs.Ytgnninpfhnpjoaa
set_option linter.unusedSimpArgs false
set_option linter.unusedVariables false
namespace Go.Proofs.Ytgnninpfhnpjoaa
open Go.RowKit Go.Lib
theorem wrap_sub (h m : Int) : wrap64 (h + wrap64 (-m)) = wrap64 (h - m) := by unfold wrap64; omega
set_option maxRecDepth 10000 in
set_option maxHeartbeats 2000000 in
theorem holdR_any (A : Option Addr) (n c : Nat) (l : List Acc) (p0 p1 : ByteArray) (m : Int) (w : World) (hA : Row accT w A n l) (hs : Srt l) (hn : n ≤ 99999) (h1 : p0.size ≤ 4294967280) (h2 : p1.size ≤ 4294967280) :
    Calls Try.prog 36 #[.slice A n c, .string p0, .string p1, .int .i64 m] w fun e w' => ∃ v, e = .returned (.tuple #[v, .int .i64 (mvE ⟨p0, p1⟩ m (if wrap64 ((findA l ⟨p0, p1⟩).balance - (findA l ⟨p0, p1⟩).held) < m then 111 else 0))]) ∧ Own accT w' w.heap.size v (mvO l ⟨p0, p1⟩ m (if wrap64 ((findA l ⟨p0, p1⟩).balance - (findA l ⟨p0, p1⟩).held) < m then 111 else 0) (m)) ∧ Bel w w' := by
  have HA := hid_ hA
  have HS := hid_ hs
  have HN := hid_ hn
  have SZ := hid_ (And.intro h1 h2)
  obtain ⟨er, her⟩ : ∃ er : Int, (if wrap64 ((findA l ⟨p0, p1⟩).balance - (findA l ⟨p0, p1⟩).held) < m then 111 else 0) = er := ⟨_, rfl⟩
  rw [her]
  obtain ⟨rm, hrm⟩ : ∃ r, mvE ⟨p0, p1⟩ m er = r := ⟨_, rfl⟩
  obtain ⟨ro, hro⟩ : ∃ r, mvO l ⟨p0, p1⟩ m er (m) = r := ⟨_, rfl⟩
  rw [hrm, hro]
  have HR := hid_ (And.intro hrm hro)
  have HER := hid_ her
  clear hA hs hn h1 h2 hrm hro her
  go_enter Try.func36, Try.ntmps36
  go_wp2_with fail
  refine (namesR_any p0 p1 w SZ.out.1 SZ.out.2).mono ?_
  rintro e _ ⟨rfl, rfl⟩
  obtain ⟨nb, hnb⟩ : ∃ b, namedB ⟨p0, p1⟩ = b := ⟨_, rfl⟩
  rw [hnb]
  have HNB := hid_ hnb
  clear hnb
  by_cases c1 : m < 1
  · have HF : Hid (rm = 1 ∧ ro = []) := hid_ (by have h := mv_0 (l := l) (p := ⟨p0, p1⟩) (m := m) (er := er) (d := m) (by unfold mvB; rw [decide_eq_true c1]; rfl); exact ⟨by rw [← HR.out.1, h.1], by rw [← HR.out.2, h.2]⟩)
    clear HR
    go_wp2
    go_ret2
    exact ⟨.slice none 0 0, by rw [HF.out.1]; rfl, by rw [HF.out.2]; exact Own.nil_ _ _ _, Bel.refl _⟩
  by_cases c2 : p0 = worldS
  · have HF : Hid (rm = 1 ∧ ro = []) := hid_ (by have h := mv_0 (l := l) (p := ⟨p0, p1⟩) (m := m) (er := er) (d := m) (by unfold mvB; rw [decide_eq_false c1, decide_eq_true c2]; rfl); exact ⟨by rw [← HR.out.1, h.1], by rw [← HR.out.2, h.2]⟩)
    have q : (p0.toList == ([119, 111, 114, 108, 100] : List UInt8)) = true := by rw [worldEq]; exact decide_eq_true c2
    clear HR c2
    go_wp2
    go_ret2
    exact ⟨.slice none 0 0, by rw [HF.out.1]; rfl, by rw [HF.out.2]; exact Own.nil_ _ _ _, Bel.refl _⟩
  have HC2 := hid_ c2
  have q : (p0.toList == ([119, 111, 114, 108, 100] : List UInt8)) = false := by rw [worldEq]; exact decide_eq_false c2
  clear c2
  cases nb
  · have HF : Hid (rm = 1 ∧ ro = []) := hid_ (by have h := mv_0 (l := l) (p := ⟨p0, p1⟩) (m := m) (er := er) (d := m) (by unfold mvB; rw [HNB.out, Bool.and_false, Bool.and_false]); exact ⟨by rw [← HR.out.1, h.1], by rw [← HR.out.2, h.2]⟩)
    clear HR
    go_wp2
    go_ret2
    exact ⟨.slice none 0 0, by rw [HF.out.1]; rfl, by rw [HF.out.2]; exact Own.nil_ _ _ _, Bel.refl _⟩
  have HOK : Hid (mvB ⟨p0, p1⟩ m = true) := hid_ (by unfold mvB; rw [HNB.out, decide_eq_false (show ¬ m < 1 by omega), decide_eq_false (show ¬ (Plc.mk p0 p1).who = worldS from HC2.out)]; rfl)
  go_wp2_with fail
  refine (findR_any A n c l p0 p1 _ HA.out).mono ?_
  rintro e w2 ⟨rfl, b⟩
  have B2 := hid_ b
  clear b
  obtain ⟨⟨f0, f1, f2, f3⟩, hf⟩ : ∃ f, findA l ⟨p0, p1⟩ = f := ⟨_, rfl⟩
  rw [hf]
  have HPL : Hid (f0 = p0 ∧ f1 = p1) := hid_ (by
    have h := findA_plc l ⟨p0, p1⟩
    rw [hf] at h
    simp only [Acc.plc, Plc.mk.injEq] at h
    exact h)
  have HE2 : Hid ((if wrap64 (f2 - f3) < m then (111 : Int) else 0) = er) := hid_ (by rw [← HER.out, hf])
  have HFI := hid_ hf
  simp only [accC]
  clear hf HER
  have K3 := hid_ (Bx.new w2 49 [.string f0, .string f1, .int .i64 f2, .int .i64 f3])
  have B3 := hid_ (B2.out.alloc (.cells #[.string f0, .string f1, .int .i64 f2, .int .i64 f3] 49))
  have HLE : Hid (w.heap.size ≤ w2.heap.size) := hid_ B2.out.size_
  by_cases c3 : wrap64 (f2 - f3) < m
  · have he : er ≠ 0 := by have := HE2.out; rw [if_pos c3] at this; omega
    have HF : Hid (rm = 111 ∧ ro = []) := hid_ (by have h := mv_1 (l := l) (d := m) HOK.out he; have h2 := HE2.out; rw [if_pos c3] at h2; exact ⟨by rw [← HR.out.1, h.1, h2], by rw [← HR.out.2, h.2]⟩)
    clear HR he HE2
    have z2 := K3.out.cell 2 rfl
    have z3 := K3.out.cell 3 rfl
    go_wp2
    go_ret2
    exact ⟨.slice none 0 0, by rw [HF.out.1]; rfl, by rw [HF.out.2]; exact Own.nil_ _ _ _, B3.out⟩
  · have he : er = 0 := by have := HE2.out; rw [if_neg c3] at this; exact this.symm
    subst he
    clear HE2
    have KS := hid_ (Bx.new w2 49 [.string f0, .string f1, .int .i64 f2, .int .i64 (wrap64 (f3 + m))])
    have BS := hid_ (B2.out.alloc (.cells #[.string f0, .string f1, .int .i64 f2, .int .i64 (wrap64 (f3 + m))] 49))
    have z0 := K3.out.cell 0 rfl
    have z1 := K3.out.cell 1 rfl
    have z2 := K3.out.cell 2 rfl
    have z3 := K3.out.cell 3 rfl
    have zf := fun j => K3.out.frozen j
    go_wp2_with fail
    generalize w2.alloc (.cells #[.string f0, .string f1, .int .i64 f2, .int .i64 (wrap64 (f3 + m))] 49) = w5 at KS BS ⊢
    refine (withR_any A n c l f0 f1 f2 (wrap64 (f3 + m)) w5 (HA.out.bel BS.out) HS.out HN.out).mono ?_
    rintro e w6 ⟨v, rfl, o, b⟩
    have HO : Hid (Own accT w6 w.heap.size v ro) := hid_ (by
      have h := (mv_2 (l := l) (d := m) HOK.out).2
      rw [HFI.out] at h
      have e : ro = withA l ⟨f0, f1, f2, wrap64 (f3 + m)⟩ := by rw [← HR.out.2, h, HPL.out.1, HPL.out.2]
      rw [e]
      exact o.mono_ BS.out.size_)
    have HF : Hid (rm = 0) := hid_ (by rw [← HR.out.1]; exact (mv_2 (l := l) (d := m) HOK.out).1)
    have B6 := hid_ (BS.out.trans b)
    clear o b z0 z1 z2 z3 zf HR KS BS
    go_wp2
    go_ret2
    exact ⟨v, by rw [HF.out]; rfl, HO.out, B6.out⟩
set_option maxRecDepth 10000 in
set_option maxHeartbeats 2000000 in
theorem freeR_any (A : Option Addr) (n c : Nat) (l : List Acc) (p0 p1 : ByteArray) (m : Int) (w : World) (hA : Row accT w A n l) (hs : Srt l) (hn : n ≤ 99999) (h1 : p0.size ≤ 4294967280) (h2 : p1.size ≤ 4294967280) :
    Calls Try.prog 38 #[.slice A n c, .string p0, .string p1, .int .i64 m] w fun e w' => ∃ v, e = .returned (.tuple #[v, .int .i64 (mvE ⟨p0, p1⟩ m (if (findA l ⟨p0, p1⟩).held < m then 112 else 0))]) ∧ Own accT w' w.heap.size v (mvO l ⟨p0, p1⟩ m (if (findA l ⟨p0, p1⟩).held < m then 112 else 0) (wrap64 (-m))) ∧ Bel w w' := by
  have HA := hid_ hA
  have HS := hid_ hs
  have HN := hid_ hn
  have SZ := hid_ (And.intro h1 h2)
  obtain ⟨er, her⟩ : ∃ er : Int, (if (findA l ⟨p0, p1⟩).held < m then 112 else 0) = er := ⟨_, rfl⟩
  rw [her]
  obtain ⟨rm, hrm⟩ : ∃ r, mvE ⟨p0, p1⟩ m er = r := ⟨_, rfl⟩
  obtain ⟨ro, hro⟩ : ∃ r, mvO l ⟨p0, p1⟩ m er (wrap64 (-m)) = r := ⟨_, rfl⟩
  rw [hrm, hro]
  have HR := hid_ (And.intro hrm hro)
  have HER := hid_ her
  clear hA hs hn h1 h2 hrm hro her
  go_enter Try.func38, Try.ntmps38
  go_wp2_with fail
  refine (namesR_any p0 p1 w SZ.out.1 SZ.out.2).mono ?_
  rintro e _ ⟨rfl, rfl⟩
  obtain ⟨nb, hnb⟩ : ∃ b, namedB ⟨p0, p1⟩ = b := ⟨_, rfl⟩
  rw [hnb]
  have HNB := hid_ hnb
  clear hnb
  by_cases c1 : m < 1
  · have HF : Hid (rm = 1 ∧ ro = []) := hid_ (by have h := mv_0 (l := l) (p := ⟨p0, p1⟩) (m := m) (er := er) (d := wrap64 (-m)) (by unfold mvB; rw [decide_eq_true c1]; rfl); exact ⟨by rw [← HR.out.1, h.1], by rw [← HR.out.2, h.2]⟩)
    clear HR
    go_wp2
    go_ret2
    exact ⟨.slice none 0 0, by rw [HF.out.1]; rfl, by rw [HF.out.2]; exact Own.nil_ _ _ _, Bel.refl _⟩
  by_cases c2 : p0 = worldS
  · have HF : Hid (rm = 1 ∧ ro = []) := hid_ (by have h := mv_0 (l := l) (p := ⟨p0, p1⟩) (m := m) (er := er) (d := wrap64 (-m)) (by unfold mvB; rw [decide_eq_false c1, decide_eq_true c2]; rfl); exact ⟨by rw [← HR.out.1, h.1], by rw [← HR.out.2, h.2]⟩)
    have q : (p0.toList == ([119, 111, 114, 108, 100] : List UInt8)) = true := by rw [worldEq]; exact decide_eq_true c2
    clear HR c2
    go_wp2
    go_ret2
    exact ⟨.slice none 0 0, by rw [HF.out.1]; rfl, by rw [HF.out.2]; exact Own.nil_ _ _ _, Bel.refl _⟩
  have HC2 := hid_ c2
  have q : (p0.toList == ([119, 111, 114, 108, 100] : List UInt8)) = false := by rw [worldEq]; exact decide_eq_false c2
  clear c2
  cases nb
  · have HF : Hid (rm = 1 ∧ ro = []) := hid_ (by have h := mv_0 (l := l) (p := ⟨p0, p1⟩) (m := m) (er := er) (d := wrap64 (-m)) (by unfold mvB; rw [HNB.out, Bool.and_false, Bool.and_false]); exact ⟨by rw [← HR.out.1, h.1], by rw [← HR.out.2, h.2]⟩)
    clear HR
    go_wp2
    go_ret2
    exact ⟨.slice none 0 0, by rw [HF.out.1]; rfl, by rw [HF.out.2]; exact Own.nil_ _ _ _, Bel.refl _⟩
  have HOK : Hid (mvB ⟨p0, p1⟩ m = true) := hid_ (by unfold mvB; rw [HNB.out, decide_eq_false (show ¬ m < 1 by omega), decide_eq_false (show ¬ (Plc.mk p0 p1).who = worldS from HC2.out)]; rfl)
  go_wp2_with fail
  refine (findR_any A n c l p0 p1 _ HA.out).mono ?_
  rintro e w2 ⟨rfl, b⟩
  have B2 := hid_ b
  clear b
  obtain ⟨⟨f0, f1, f2, f3⟩, hf⟩ : ∃ f, findA l ⟨p0, p1⟩ = f := ⟨_, rfl⟩
  rw [hf]
  have HPL : Hid (f0 = p0 ∧ f1 = p1) := hid_ (by
    have h := findA_plc l ⟨p0, p1⟩
    rw [hf] at h
    simp only [Acc.plc, Plc.mk.injEq] at h
    exact h)
  have HE2 : Hid ((if f3 < m then (112 : Int) else 0) = er) := hid_ (by rw [← HER.out, hf])
  have HFI := hid_ hf
  simp only [accC]
  clear hf HER
  have K3 := hid_ (Bx.new w2 49 [.string f0, .string f1, .int .i64 f2, .int .i64 f3])
  have B3 := hid_ (B2.out.alloc (.cells #[.string f0, .string f1, .int .i64 f2, .int .i64 f3] 49))
  have HLE : Hid (w.heap.size ≤ w2.heap.size) := hid_ B2.out.size_
  by_cases c3 : f3 < m
  · have he : er ≠ 0 := by have := HE2.out; rw [if_pos c3] at this; omega
    have HF : Hid (rm = 112 ∧ ro = []) := hid_ (by have h := mv_1 (l := l) (d := wrap64 (-m)) HOK.out he; have h2 := HE2.out; rw [if_pos c3] at h2; exact ⟨by rw [← HR.out.1, h.1, h2], by rw [← HR.out.2, h.2]⟩)
    clear HR he HE2
    have z2 := K3.out.cell 2 rfl
    have z3 := K3.out.cell 3 rfl
    go_wp2
    go_ret2
    exact ⟨.slice none 0 0, by rw [HF.out.1]; rfl, by rw [HF.out.2]; exact Own.nil_ _ _ _, B3.out⟩
  · have he : er = 0 := by have := HE2.out; rw [if_neg c3] at this; exact this.symm
    subst he
    clear HE2
    have KS := hid_ (Bx.new w2 49 [.string f0, .string f1, .int .i64 f2, .int .i64 (wrap64 (f3 - m))])
    have BS := hid_ (B2.out.alloc (.cells #[.string f0, .string f1, .int .i64 f2, .int .i64 (wrap64 (f3 - m))] 49))
    have z0 := K3.out.cell 0 rfl
    have z1 := K3.out.cell 1 rfl
    have z2 := K3.out.cell 2 rfl
    have z3 := K3.out.cell 3 rfl
    have zf := fun j => K3.out.frozen j
    go_wp2_with fail
    generalize w2.alloc (.cells #[.string f0, .string f1, .int .i64 f2, .int .i64 (wrap64 (f3 - m))] 49) = w5 at KS BS ⊢
    refine (withR_any A n c l f0 f1 f2 (wrap64 (f3 - m)) w5 (HA.out.bel BS.out) HS.out HN.out).mono ?_
    rintro e w6 ⟨v, rfl, o, b⟩
    have HO : Hid (Own accT w6 w.heap.size v ro) := hid_ (by
      have h := (mv_2 (l := l) (d := wrap64 (-m)) HOK.out).2
      rw [HFI.out] at h
      have e : ro = withA l ⟨f0, f1, f2, wrap64 (f3 - m)⟩ := by rw [← HR.out.2, h, HPL.out.1, HPL.out.2]; simp only; rw [wrap_sub]
      rw [e]
      exact o.mono_ BS.out.size_)
    have HF : Hid (rm = 0) := hid_ (by rw [← HR.out.1]; exact (mv_2 (l := l) (d := wrap64 (-m)) HOK.out).1)
    have B6 := hid_ (BS.out.trans b)
    clear o b z0 z1 z2 z3 zf HR KS BS
    go_wp2
    go_ret2
    exact ⟨v, by rw [HF.out]; rfl, HO.out, B6.out⟩
end Go.Proofs.Ytgnninpfhnpjoaa
