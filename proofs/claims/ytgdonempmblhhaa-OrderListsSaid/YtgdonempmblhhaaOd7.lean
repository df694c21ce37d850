/- cambistref13.at, Put. -/
import Derived.Test.YtgdonempmblhhaaBox
import Derived.Test.YtgdonempmblhhaaOd6
import Derived.Test.YtgdonempmblhhaaNv9
import Derived.Deep.QuietTactic
import Derived.Deep.DeepCutAuto
import Derived.BigQuiet
set_option linter.unusedSimpArgs false
set_option linter.unusedVariables false
namespace Go.Proofs.Ytgdonempmblhhaa
open Go.RowKit
theorem Own.litE {α : Type} {T : Ty α} (w : World) (base b : Nat) (e : TypeId) (he : e = T.e) (hb : b = w.heap.size) (hw : base ≤ w.heap.size) : Own T (w.alloc (.cells #[] e)) base (.slice (some ⟨b, 0, none⟩) 0 0) [] := by
  subst hb
  subst he
  exact Own.lit (T := T) w base [] hw (by simp)
end Go.Proofs.Ytgdonempmblhhaa
set_option linter.unusedSimpArgs false
set_option linter.unusedVariables false
namespace Go.Proofs.Ytgdonempmblhhaa
open Go.RowKit Go.Lib
set_option maxRecDepth 10000 in
set_option maxHeartbeats 1000000 in
theorem atR_any (A : Option Addr) (n c : Nat) (l : List Ord) (nu : Int) (w : World) (hA : Row ordT w A n l) :
    Calls Try.prog 55 #[.slice A n c, .int .u64 nu] w fun e w' => e = .returned (.int .i64 (idxI (fun x => x.number == nu) l)) ∧ w = w' := by
  have hn := hA.2.1
  have HL := hid_ hA.1
  obtain ⟨r, hr⟩ : ∃ r, idxI (fun x => x.number == nu) l = r := ⟨_, rfl⟩
  rw [hr]
  have HR := hid_ hr
  clear hr
  go_enter Try.func55, Try.ntmps55
  go_wp2_with fail
  go_loop [5] (fun i => ∃ j : Nat, j ≤ n ∧ i = .int .i64 j ∧ Hid (∀ (i : Nat) (x : Ord), i < j → l[i]? = some x → (x.number == nu) = false)) (fun i => n - (intOf i).toNat)
  case atStart => exact ⟨0, Nat.zero_le _, rfl, hid_ (fun i x h => absurd h (by omega))⟩
  case round =>
    obtain ⟨j, hj, rfl, hx⟩ := hrel
    by_cases hjn : j < n
    · obtain ⟨ad, o0, o1, o2, o3, o4, o5, rfl, ho, d0, d1, d2, d3, d4, d5⟩ := hA.ord hjn
      have HO := hid_ ho
      clear ho
      have i0 : (0 : Int) ≤ (j : Int) := by omega
      have i1 : (j : Int) < (n : Int) := by omega
      obtain ⟨eq, heq⟩ : ∃ eq, (o0 == nu) = eq := ⟨_, rfl⟩
      cases eq
      · have HN : Hid (∀ (i : Nat) (x : Ord), i < j + 1 → l[i]? = some x → (x.number == nu) = false) := hid_ (by
          intro i x hi hix
          rcases Nat.lt_or_ge i j with h | h
          · exact hx.out i x h hix
          · obtain rfl : i = j := by omega
            rw [HO.out] at hix
            cases hix
            exact heq)
        clear hx HO
        go_wp2
        case roundEnd =>
          go_round
          case rel => exact ⟨j + 1, by omega, by go_num, HN⟩
          case measure => simp [intOf]; omega
      · have HF : Hid (r = (j : Int)) := hid_ (by rw [← HR.out]; unfold idxI; rw [idxI_hit HO.out heq hx.out])
        clear hx HO
        go_wp2
        go_ret
        exact ⟨by rw [HF.out]; rfl, rfl⟩
    · obtain rfl : j = n := by omega
      have HF : Hid (r = -1) := hid_ (by rw [← HR.out]; unfold idxI; rw [idxI_no (fun i x h => hx.out i x (by have := (List.getElem?_eq_some_iff.1 h).1; rw [HL.out] at this; exact this) h)])
      clear hx
      go_wp2
      go_ret
      exact ⟨by rw [HF.out]; rfl, rfl⟩
/-- The first place whose number is not less. -/
theorem putI_at {l : List Ord} {n : Int} {i : Nat} (hi : i ≤ l.length) (h0 : l.findIdx? (fun x => x.number == n) = none) (h1 : ∀ (j : Nat) (x : Ord), j < i → l[j]? = some x → x.number < n) (h2 : ∀ x, l[i]? = some x → ¬ x.number < n) : putI l n = i := by
  have hne : ∀ x ∈ l, x.number ≠ n := fun x hx => by simpa using List.findIdx?_eq_none_iff.1 h0 x hx
  unfold putI
  rcases Nat.lt_or_ge i l.length with hlt | hge
  · have hx := List.getElem?_eq_getElem hlt
    have h3 := h2 _ hx
    have h4 := hne _ (List.getElem_mem hlt)
    rw [idxI_hit (p := fun x => decide (n < x.number)) hx (by simp; omega) (fun j x hj hjx => by have := h1 j x hj hjx; simp; omega)]
    rfl
  · rw [idxI_no (p := fun x => decide (n < x.number)) (fun j x hjx => by have := h1 j x (by have := (List.getElem?_eq_some_iff.1 hjx).1; omega) hjx; simp; omega)]
    show l.length = i
    omega
set_option maxRecDepth 10000 in
set_option maxHeartbeats 4000000 in
theorem putR_any (A : Option Addr) (n c : Nat) (l : List Ord) (o0 : Int) (o1 o2 : ByteArray) (o3 : Bool) (o4 o5 : Int) (w : World) (hA : Row ordT w A n l) (hnc : n ≤ c) (hs1 : o1.size ≤ 4294967280) (hs2 : o2.size ≤ 4294967280) (hn : n ≤ 100000) :
    Calls Try.prog 30 #[.slice A n c, .agg #[.int .u64 o0, .string o1, .string o2, .bool o3, .int .i64 o4, .int .i64 o5]] w fun e w' => ∃ A' n' c', e = .returned (.tuple #[.slice A' n' c', .int .i64 (putE l ⟨o0, o1, o2, o3, o4, o5⟩)]) ∧ Row ordT w' A' n' (putO l ⟨o0, o1, o2, o3, o4, o5⟩) ∧ Bel w w' := by
  have SZ : Hid (o1.size ≤ 4294967280 ∧ o2.size ≤ 4294967280) := hid_ ⟨hs1, hs2⟩
  obtain ⟨ro, hro⟩ : ∃ r, putO l ⟨o0, o1, o2, o3, o4, o5⟩ = r := ⟨_, rfl⟩
  obtain ⟨re, hre⟩ : ∃ r, putE l ⟨o0, o1, o2, o3, o4, o5⟩ = r := ⟨_, rfl⟩
  rw [hro, hre]
  have Hro := hid_ hro
  have Hre := hid_ hre
  have HL := hid_ hA.1
  have HNC := hid_ hnc
  have hb := (Bel.refl w).alloc (.cells #[.int .u64 o0, .string o1, .string o2, .bool o3, .int .i64 o4, .int .i64 o5] 27)
  have k0 : Bx (w.alloc (.cells #[.int .u64 o0, .string o1, .string o2, .bool o3, .int .i64 o4, .int .i64 o5] 27)) w.heap.size 27 [.int .u64 o0, .string o1, .string o2, .bool o3, .int .i64 o4, .int .i64 o5] := Bx.new w 27 [.int .u64 o0, .string o1, .string o2, .bool o3, .int .i64 o4, .int .i64 o5]
  have KO := hid_ k0
  have B0 := hid_ hb
  have A0 := hid_ (hA.bel hb)
  clear hro hre hA hnc hs1 hs2 hb k0
  go_enter Try.func30, Try.ntmps30
  go_wp2_with fail
  generalize w.alloc (.cells #[.int .u64 o0, .string o1, .string o2, .bool o3, .int .i64 o4, .int .i64 o5] 27) = w1 at KO B0 A0 ⊢
  obtain ⟨gO, hgO⟩ : ∃ g, w.heap.size = g := ⟨_, rfl⟩
  rw [hgO] at KO
  try rw [hgO]
  clear hgO
  have q0 := KO.out.cell 0 rfl
  have q1 := KO.out.cell 1 rfl
  have q2 := KO.out.cell 2 rfl
  have q3 := KO.out.cell 3 rfl
  have q4 := KO.out.cell 4 rfl
  have q5 := KO.out.cell 5 rfl
  refine (refCheck_any o0 o1 o2 o3 o4 o5 w1 SZ.out.1 SZ.out.2).mono ?_
  rintro e w2 ⟨rfl, b⟩
  have K2 := hid_ (KO.out.bel b)
  have B2 := hid_ (B0.out.trans b)
  have A2 := hid_ (A0.out.bel b)
  clear b KO B0 A0 q0 q1 q2 q3 q4 q5
  obtain ⟨cb, hcb⟩ : ∃ cb, chk ⟨o0, o1, o2, o3, o4, o5⟩ = cb := ⟨_, rfl⟩
  have HCB := hid_ hcb
  cases cb
  · have HE : checkE o1 o2 o4 o5 = 130 := check_no hcb
    rw [HE]
    have HF : Hid (ro = [] ∧ re = 130) := hid_ (by have h := put_0 (l := l) (o := ⟨o0, o1, o2, o3, o4, o5⟩) (by unfold putOk; rw [HCB.out]; rfl); exact ⟨by rw [← Hro.out, h.1], by rw [← Hre.out, h.2]⟩)
    clear HE hcb Hro Hre
    go_wp2
    go_ret2
    exact ⟨none, 0, 0, by rw [HF.out.2]; rfl, by rw [HF.out.1]; exact Row.none_ _ _ _, B2.out⟩
  have HE : checkE o1 o2 o4 o5 = 0 := check_yes hcb
  rw [HE]
  clear HE hcb
  by_cases hbig : 200 ≤ n
  · have z2 : (200 : Int) ≤ (n : Int) := by omega
    have HF : Hid (ro = [] ∧ re = 130) := hid_ (by have h := put_0 (l := l) (o := ⟨o0, o1, o2, o3, o4, o5⟩) (by unfold putOk; rw [HL.out, decide_eq_false (show ¬ n < 200 by omega)]; simp); exact ⟨by rw [← Hro.out, h.1], by rw [← Hre.out, h.2]⟩)
    clear Hro Hre
    go_wp2
    go_ret2
    exact ⟨none, 0, 0, by rw [HF.out.2]; rfl, by rw [HF.out.1]; exact Row.none_ _ _ _, B2.out⟩
  have z2 : decide ((200 : Int) ≤ (n : Int)) = false := by simp; omega
  have HN2 := hid_ (show n < 200 by omega)
  have q0 := K2.out.cell 0 rfl
  go_wp2_with fail
  refine (atR_any A n c l o0 w2 A2.out).mono ?_
  rintro e _ ⟨rfl, rfl⟩
  rw [idxI_eq]
  obtain ⟨fi, hfi⟩ : ∃ fi, l.findIdx? (fun x => x.number == o0) = fi := ⟨_, rfl⟩
  rw [hfi]
  have HFI := hid_ hfi
  clear hfi
  cases fi
  case some i =>
    have HF : Hid (ro = [] ∧ re = 130) := hid_ (by have h := put_0 (l := l) (o := ⟨o0, o1, o2, o3, o4, o5⟩) (by unfold putOk; rw [show l.findIdx? (fun x => x.number == (⟨o0, o1, o2, o3, o4, o5⟩ : Ord).number) = some i from HFI.out]; simp); exact ⟨by rw [← Hro.out, h.1], by rw [← Hre.out, h.2]⟩)
    clear Hro Hre HFI
    rw [show oI (some i) = (i : Int) from rfl]
    go_wp2
    go_ret2
    exact ⟨none, 0, 0, by rw [HF.out.2]; rfl, by rw [HF.out.1]; exact Row.none_ _ _ _, B2.out⟩
  have HOK : Hid (putOk l ⟨o0, o1, o2, o3, o4, o5⟩ = true) := hid_ (by unfold putOk; rw [HCB.out, show l.findIdx? (fun x => x.number == (⟨o0, o1, o2, o3, o4, o5⟩ : Ord).number) = none from HFI.out, HL.out, decide_eq_true HN2.out]; rfl)
  rw [show oI none = -1 from rfl]
  clear HCB hbig
  go_wp2_with fail
  go_loopw [6] (fun i wr => ∃ j : Nat, j ≤ n ∧ i = .int .i64 j ∧ Hid (∀ (k : Nat) (x : Ord), k < j → l[k]? = some x → x.number < o0) ∧ Bel w2 wr) (fun i _ => n - (intOf i).toNat)
  case atStart => exact ⟨0, Nat.zero_le _, rfl, hid_ (fun k x h => absurd h (by omega)), Bel.refl _⟩
  case round =>
    obtain ⟨j, hj, rfl, hx, hbr⟩ := hrel
    have BR := hid_ hbr
    have KR := hid_ (K2.out.bel hbr)
    have AR := hid_ (A2.out.bel hbr)
    have ER := hid_ (B2.out.trans hbr)
    clear hbr
    have fin : (∀ x, l[j]? = some x → ¬ x.number < o0) → putI l o0 = j := fun h => putI_at (by rw [HL.out]; exact hj) HFI.out hx.out h
    have FIN := hid_ fin
    clear fin
    have c0 := KR.out.cell 0 rfl
    have done : Hid (putI l o0 = j → ro = l.take j ++ (⟨o0, o1, o2, o3, o4, o5⟩ :: l.drop j) ∧ re = 0) := hid_ (fun h => by
      have h2 := put_1 HOK.out
      refine ⟨?_, by rw [← Hre.out, h2.2]⟩
      rw [← Hro.out, h2.1]
      show l.take (putI l o0) ++ (⟨o0, o1, o2, o3, o4, o5⟩ :: l.drop (putI l o0)) = _
      rw [h])
    by_cases hjn : j < n
    · obtain ⟨ad, p0, p1, p2, p3, p4, p5, rfl, ho, d0, d1, d2, d3, d4, d5⟩ := AR.out.ord hjn
      have HO := hid_ ho
      have i0 : (0 : Int) ≤ (j : Int) := by omega
      have i1 : (j : Int) < (n : Int) := by omega
      clear ho d1 d2 d3 d4 d5
      by_cases hlt : p0 < o0
      · have HX : Hid (∀ (k : Nat) (x : Ord), k < j + 1 → l[k]? = some x → x.number < o0) := hid_ (by
          intro k x hk hkx
          rcases Nat.lt_or_ge k j with h | h
          · exact hx.out k x h hkx
          · obtain rfl : k = j := by omega
            rw [HO.out] at hkx
            cases hkx
            exact hlt)
        clear hx FIN done
        go_upto_region 4 with (fail)
        go_quiet (fail)
        go_wp2
        case roundEnd =>
          go_roundw
          case rel => exact ⟨j + 1, by omega, by go_num, HX, BR.out.drewN _⟩
          case measure => simp [intOf]; omega
      · have HF := hid_ (done.out (FIN.out (fun x h => by rw [HO.out] at h; cases h; exact hlt)))
        clear hx FIN done
        go_upto_region 4 with (fail)
        go_quiet (fail)
        go_wp2_with fail
        obtain ⟨W0, hW0, hb0⟩ : ∃ W0, wr.drewN nq = W0 ∧ Bel wr W0 := ⟨_, rfl, (Bel.refl wr).drewN _⟩
        rw [hW0]
        clear hW0
        obtain ⟨A', hcut, hrow⟩ := ordS.cutFrom (P := Try.prog) .i64 (some ad) n c j (by omega) HNC.out
        have hcut2 := fun W => ordS.cutTo (P := Try.prog) .i64 (some ad) n c j (by have := HNC.out; omega) W
        have ra := hid_ (hrow _ _ (AR.out.bel hb0))
        have rt := hid_ ((AR.out.bel hb0).take_ (show j ≤ n by omega))
        have hKP : ∀ W, Bel W0 W → (Bel W0 W ∧ W.cell? ⟨gO, 0, none⟩ = some (.int .u64 o0) ∧ W.cell? ⟨gO, 1, none⟩ = some (.string o1) ∧ W.cell? ⟨gO, 2, none⟩ = some (.string o2) ∧ W.cell? ⟨gO, 3, none⟩ = some (.bool o3) ∧ W.cell? ⟨gO, 4, none⟩ = some (.int .i64 o4) ∧ W.cell? ⟨gO, 5, none⟩ = some (.int .i64 o5)) := fun W b => ⟨b, b.cell_ ((KR.out.bel hb0).cell 0 rfl), b.cell_ ((KR.out.bel hb0).cell 1 rfl), b.cell_ ((KR.out.bel hb0).cell 2 rfl), b.cell_ ((KR.out.bel hb0).cell 3 rfl), b.cell_ ((KR.out.bel hb0).cell 4 rfl), b.cell_ ((KR.out.bel hb0).cell 5 rfl)⟩
        have HKP := hid_ hKP
        have q0 := (KR.out.bel hb0).cell 0 rfl
        have q1 := (KR.out.bel hb0).cell 1 rfl
        have q2 := (KR.out.bel hb0).cell 2 rfl
        have q3 := (KR.out.bel hb0).cell 3 rfl
        have q4 := (KR.out.bel hb0).cell 4 rfl
        have q5 := (KR.out.bel hb0).cell 5 rfl
        have E0 := hid_ (ER.out.trans hb0)
        have hlt : (l.take j).length = j := by rw [List.length_take, HL.out]; omega
        have hld : (l.drop j).length = n - j := by rw [List.length_drop, HL.out]
        have HLT := hid_ hlt
        have hLL : ([] ++ l.take j ++ [⟨o0, o1, o2, o3, o4, o5⟩] ++ l.drop j : List Ord) = ro := by rw [HF.out.1]; simp
        have HLL := hid_ hLL
        clear hrow hKP hb0 hlt hld hLL AR KR ER BR c0 d0
        go_upto_region 6 with (fail)
        go_region_held3 (fun W => Bel W0 W ∧ W.cell? ⟨gO, 0, none⟩ = some (.int .u64 o0) ∧ W.cell? ⟨gO, 1, none⟩ = some (.string o1) ∧ W.cell? ⟨gO, 2, none⟩ = some (.string o2) ∧ W.cell? ⟨gO, 3, none⟩ = some (.bool o3) ∧ W.cell? ⟨gO, 4, none⟩ = some (.int .i64 o4) ∧ W.cell? ⟨gO, 5, none⟩ = some (.int .i64 o5)) ((refine HKP.out _ ?_; repeat first | with_reducible exact Bel.refl _ | with_reducible exact hb1 | with_reducible exact hb2 | with_reducible exact hb3 | with_reducible apply Bel.drew | with_reducible apply Bel.alloc))
          (first | (refine stepApp (w0 := W0) ordS rfl _ _ rfl _ [] (l.take j) (some ad) j c rfl rfl ((Own.litE (T := ordT) W0 W0.heap.size _ 27 rfl rfl (Nat.le_refl _)).bel (by repeat first | with_reducible exact Bel.refl _ | with_reducible apply Bel.drew | with_reducible apply Bel.alloc)) (rt.out.bel (by repeat first | with_reducible exact Bel.refl _ | with_reducible apply Bel.drew | with_reducible apply Bel.alloc)) (by repeat first | with_reducible exact Bel.refl _ | with_reducible apply Bel.drew | with_reducible apply Bel.alloc) (by have := HLT.out; simp only [List.length_append, List.length_nil, List.length_cons, this]; omega) ?_; intro v1 x1 hO1 hb1 hg1 hat1) | (refine stepApp (w0 := W0) ordS rfl _ _ rfl _ [] (l.take j) (some ad) j c rfl rfl ((Own.litE (T := ordT) (W0.alloc (.cells #[.int .u64 o0, .string o1, .string o2, .bool o3, .int .i64 o4, .int .i64 o5] 27)) W0.heap.size (W0.heap.size + 1) 27 rfl (sizeAl _ _).symm (by rw [sizeAl]; omega)).bel (by repeat first | with_reducible exact Bel.refl _ | with_reducible apply Bel.drew | with_reducible apply Bel.alloc)) (rt.out.bel (by repeat first | with_reducible exact Bel.refl _ | with_reducible apply Bel.drew | with_reducible apply Bel.alloc)) (by repeat first | with_reducible exact Bel.refl _ | with_reducible apply Bel.drew | with_reducible apply Bel.alloc) (by have := HLT.out; simp only [List.length_append, List.length_nil, List.length_cons, this]; omega) ?_; intro v1 x1 hO1 hb1 hg1 hat1) | (refine stepApp (w0 := W0) ordS rfl _ _ rfl v1 ([] ++ l.take j) [⟨o0, o1, o2, o3, o4, o5⟩] (some ⟨x1.heap.size, 0, none⟩) 1 1 rfl rfl (hO1.bel ((Bel.refl _).alloc _)) (Row.one (T := ordT) _ rfl rfl) (hb1.alloc _) (by have := HLT.out; simp only [List.length_append, List.length_nil, List.length_cons, this]; omega) ?_; intro v2 x2 hO2 hb2 hg2 hat2) | (refine stepApp (w0 := W0) ordS rfl _ _ rfl v1 ([] ++ l.take j) [⟨o0, o1, o2, o3, o4, o5⟩] (some ⟨W0.heap.size + 1, 0, none⟩) 1 1 rfl rfl hO1 (Row.grown_ ((Row.one (T := ordT) (W := W0.alloc (.cells #[] 27)) ⟨o0, o1, o2, o3, o4, o5⟩ rfl (sizeAl _ _).symm).bel (Bel.refl _).drew) hg1 (by intro ad e; cases e; show some (W0.heap.size + 1) ≠ some W0.heap.size; simp)) hb1 (by have := HLT.out; simp only [List.length_append, List.length_nil, List.length_cons, this]; omega) ?_; intro v2 x2 hO2 hb2 hg2 hat2) | (refine stepApp (w0 := W0) ordS rfl _ _ rfl v1 ([] ++ l.take j) [⟨o0, o1, o2, o3, o4, o5⟩] (some ⟨W0.heap.size, 0, none⟩) 1 1 rfl rfl hO1 (Row.grown_ (((Row.one (T := ordT) (W := W0) ⟨o0, o1, o2, o3, o4, o5⟩ rfl rfl).bel ((Bel.refl _).alloc _)).bel (Bel.refl _).drew) hg1 (by intro ad e; cases e; show some W0.heap.size ≠ some (W0.heap.size + 1); simp)) hb1 (by have := HLT.out; simp only [List.length_append, List.length_nil, List.length_cons, this]; omega) ?_; intro v2 x2 hO2 hb2 hg2 hat2) | (refine stepApp (w0 := W0) ordS rfl _ _ rfl v2 ([] ++ l.take j ++ [⟨o0, o1, o2, o3, o4, o5⟩]) (l.drop j) (A') (n - j) (c - j) rfl rfl hO2 (ra.out.bel hb2) hb2 (by have := HLT.out; simp only [List.length_append, List.length_nil, List.length_cons, this]; omega) ?_; intro v3 x3 hO3 hb3 hg3 hat3))
        all_goals rw [HLL.out] at hO3
        all_goals obtain ⟨A9, c9, hv9, _, r9⟩ := hO3.reads
        all_goals subst hv9
        all_goals have R9 := hid_ r9
        all_goals have E9 := hid_ (E0.out.trans hb3)
        all_goals clear hO1 hO2 hb1 hb2 hg1 hg2 hg3 hat1 hat2 hat3 hO3 hb3 r9 ra rt HLL hcut hcut2 q0 q1 q2 q3 q4 q5 HKP
        all_goals go_wp2
        all_goals go_ret2
        all_goals exact ⟨A9, _, c9, by rw [HF.out.2]; rfl, R9.out, E9.out⟩
    · obtain rfl : j = n := by omega
      have HF := hid_ (done.out (FIN.out (fun x h => by have := (List.getElem?_eq_some_iff.1 h).1; rw [HL.out] at this; omega)))
      have i1 : ¬ (j : Int) < (j : Int) := by omega
      clear hx FIN done
      go_upto_region 4 with (fail)
      go_quiet (fail)
      go_wp2_with fail
      obtain ⟨W0, hW0, hb0⟩ : ∃ W0, wr.drewN nq = W0 ∧ Bel wr W0 := ⟨_, rfl, (Bel.refl wr).drewN _⟩
      rw [hW0]
      clear hW0
      obtain ⟨A', hcut, hrow⟩ := ordS.cutFrom (P := Try.prog) .i64 (A) j c j (by omega) HNC.out
      have hcut2 := fun W => ordS.cutTo (P := Try.prog) .i64 (A) j c j (by have := HNC.out; omega) W
      have ra := hid_ (hrow _ _ (AR.out.bel hb0))
      have rt := hid_ ((AR.out.bel hb0).take_ (show j ≤ j by omega))
      have hz : j - j = 0 := Nat.sub_self j
      have ra' := ra.out
      rw [hz] at ra'
      simp only [Nat.sub_self] at hcut
      clear ra
      have ra := hid_ ra'
      clear ra' hz
      have hKP : ∀ W, Bel W0 W → (Bel W0 W ∧ W.cell? ⟨gO, 0, none⟩ = some (.int .u64 o0) ∧ W.cell? ⟨gO, 1, none⟩ = some (.string o1) ∧ W.cell? ⟨gO, 2, none⟩ = some (.string o2) ∧ W.cell? ⟨gO, 3, none⟩ = some (.bool o3) ∧ W.cell? ⟨gO, 4, none⟩ = some (.int .i64 o4) ∧ W.cell? ⟨gO, 5, none⟩ = some (.int .i64 o5)) := fun W b => ⟨b, b.cell_ ((KR.out.bel hb0).cell 0 rfl), b.cell_ ((KR.out.bel hb0).cell 1 rfl), b.cell_ ((KR.out.bel hb0).cell 2 rfl), b.cell_ ((KR.out.bel hb0).cell 3 rfl), b.cell_ ((KR.out.bel hb0).cell 4 rfl), b.cell_ ((KR.out.bel hb0).cell 5 rfl)⟩
      have HKP := hid_ hKP
      have q0 := (KR.out.bel hb0).cell 0 rfl
      have q1 := (KR.out.bel hb0).cell 1 rfl
      have q2 := (KR.out.bel hb0).cell 2 rfl
      have q3 := (KR.out.bel hb0).cell 3 rfl
      have q4 := (KR.out.bel hb0).cell 4 rfl
      have q5 := (KR.out.bel hb0).cell 5 rfl
      have E0 := hid_ (ER.out.trans hb0)
      have hlt : (l.take j).length = j := by rw [List.length_take, HL.out]; omega
      have hld : (l.drop j).length = j - j := by rw [List.length_drop, HL.out]
      have HLT := hid_ hlt
      have hLL : ([] ++ l.take j ++ [⟨o0, o1, o2, o3, o4, o5⟩] ++ l.drop j : List Ord) = ro := by rw [HF.out.1]; simp
      have HLL := hid_ hLL
      clear hrow hKP hb0 hlt hld hLL AR KR ER BR c0
      go_upto_region 6 with (fail)
      go_region_held3 (fun W => Bel W0 W ∧ W.cell? ⟨gO, 0, none⟩ = some (.int .u64 o0) ∧ W.cell? ⟨gO, 1, none⟩ = some (.string o1) ∧ W.cell? ⟨gO, 2, none⟩ = some (.string o2) ∧ W.cell? ⟨gO, 3, none⟩ = some (.bool o3) ∧ W.cell? ⟨gO, 4, none⟩ = some (.int .i64 o4) ∧ W.cell? ⟨gO, 5, none⟩ = some (.int .i64 o5)) ((refine HKP.out _ ?_; repeat first | with_reducible exact Bel.refl _ | with_reducible exact hb1 | with_reducible exact hb2 | with_reducible exact hb3 | with_reducible apply Bel.drew | with_reducible apply Bel.alloc))
        (first | (refine stepApp (w0 := W0) ordS rfl _ _ rfl _ [] (l.take j) (A) j c rfl rfl ((Own.litE (T := ordT) W0 W0.heap.size _ 27 rfl rfl (Nat.le_refl _)).bel (by repeat first | with_reducible exact Bel.refl _ | with_reducible apply Bel.drew | with_reducible apply Bel.alloc)) (rt.out.bel (by repeat first | with_reducible exact Bel.refl _ | with_reducible apply Bel.drew | with_reducible apply Bel.alloc)) (by repeat first | with_reducible exact Bel.refl _ | with_reducible apply Bel.drew | with_reducible apply Bel.alloc) (by have := HLT.out; simp only [List.length_append, List.length_nil, List.length_cons, this]; omega) ?_; intro v1 x1 hO1 hb1 hg1 hat1) | (refine stepApp (w0 := W0) ordS rfl _ _ rfl _ [] (l.take j) (A) j c rfl rfl ((Own.litE (T := ordT) (W0.alloc (.cells #[.int .u64 o0, .string o1, .string o2, .bool o3, .int .i64 o4, .int .i64 o5] 27)) W0.heap.size (W0.heap.size + 1) 27 rfl (sizeAl _ _).symm (by rw [sizeAl]; omega)).bel (by repeat first | with_reducible exact Bel.refl _ | with_reducible apply Bel.drew | with_reducible apply Bel.alloc)) (rt.out.bel (by repeat first | with_reducible exact Bel.refl _ | with_reducible apply Bel.drew | with_reducible apply Bel.alloc)) (by repeat first | with_reducible exact Bel.refl _ | with_reducible apply Bel.drew | with_reducible apply Bel.alloc) (by have := HLT.out; simp only [List.length_append, List.length_nil, List.length_cons, this]; omega) ?_; intro v1 x1 hO1 hb1 hg1 hat1) | (refine stepApp (w0 := W0) ordS rfl _ _ rfl v1 ([] ++ l.take j) [⟨o0, o1, o2, o3, o4, o5⟩] (some ⟨x1.heap.size, 0, none⟩) 1 1 rfl rfl (hO1.bel ((Bel.refl _).alloc _)) (Row.one (T := ordT) _ rfl rfl) (hb1.alloc _) (by have := HLT.out; simp only [List.length_append, List.length_nil, List.length_cons, this]; omega) ?_; intro v2 x2 hO2 hb2 hg2 hat2) | (refine stepApp (w0 := W0) ordS rfl _ _ rfl v1 ([] ++ l.take j) [⟨o0, o1, o2, o3, o4, o5⟩] (some ⟨W0.heap.size + 1, 0, none⟩) 1 1 rfl rfl hO1 (Row.grown_ ((Row.one (T := ordT) (W := W0.alloc (.cells #[] 27)) ⟨o0, o1, o2, o3, o4, o5⟩ rfl (sizeAl _ _).symm).bel (Bel.refl _).drew) hg1 (by intro ad e; cases e; show some (W0.heap.size + 1) ≠ some W0.heap.size; simp)) hb1 (by have := HLT.out; simp only [List.length_append, List.length_nil, List.length_cons, this]; omega) ?_; intro v2 x2 hO2 hb2 hg2 hat2) | (refine stepApp (w0 := W0) ordS rfl _ _ rfl v1 ([] ++ l.take j) [⟨o0, o1, o2, o3, o4, o5⟩] (some ⟨W0.heap.size, 0, none⟩) 1 1 rfl rfl hO1 (Row.grown_ (((Row.one (T := ordT) (W := W0) ⟨o0, o1, o2, o3, o4, o5⟩ rfl rfl).bel ((Bel.refl _).alloc _)).bel (Bel.refl _).drew) hg1 (by intro ad e; cases e; show some W0.heap.size ≠ some (W0.heap.size + 1); simp)) hb1 (by have := HLT.out; simp only [List.length_append, List.length_nil, List.length_cons, this]; omega) ?_; intro v2 x2 hO2 hb2 hg2 hat2) | (refine stepApp (w0 := W0) ordS rfl _ _ rfl v2 ([] ++ l.take j ++ [⟨o0, o1, o2, o3, o4, o5⟩]) (l.drop j) (A') (0) (c - j) rfl rfl hO2 (ra.out.bel hb2) hb2 (by have := HLT.out; simp only [List.length_append, List.length_nil, List.length_cons, this]; omega) ?_; intro v3 x3 hO3 hb3 hg3 hat3))
      all_goals rw [HLL.out] at hO3
      all_goals obtain ⟨A9, c9, hv9, _, r9⟩ := hO3.reads
      all_goals subst hv9
      all_goals have R9 := hid_ r9
      all_goals have E9 := hid_ (E0.out.trans hb3)
      all_goals clear hO1 hO2 hb1 hb2 hg1 hg2 hg3 hat1 hat2 hat3 hO3 hb3 r9 ra rt HLL hcut hcut2 q0 q1 q2 q3 q4 q5 HKP
      all_goals go_wp2
      all_goals go_ret2
      all_goals exact ⟨A9, _, c9, by rw [HF.out.2]; rfl, R9.out, E9.out⟩
end Go.Proofs.Ytgdonempmblhhaa
