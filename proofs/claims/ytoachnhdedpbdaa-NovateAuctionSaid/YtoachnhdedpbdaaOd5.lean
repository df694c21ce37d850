/- order.Put. -/
import Derived.Test.YtoachnhdedpbdaaOd2
import Derived.Test.YtoachnhdedpbdaaOd4
set_option linter.unusedSimpArgs false
set_option linter.unusedVariables false
namespace Go.Proofs.Ytoachnhdedpbdaa
open Go.RowKit Go.Lib
/-- May an order be put among others? -/
def putOk (l : List Ord) (o : Ord) : Bool := chk o && (decide (l.length < 200) && !(l.findIdx? (fun x => x.number == o.number)).isSome)
def putI (l : List Ord) (n : Int) : Nat := (l.findIdx? (fun x => decide (n < x.number))).getD l.length
def putL (l : List Ord) (o : Ord) : List Ord := l.take (putI l o.number) ++ (o :: l.drop (putI l o.number))
def putO (l : List Ord) (o : Ord) : List Ord := if putOk l o then putL l o else []
def putE (l : List Ord) (o : Ord) : Int := if putOk l o then 0 else 130
theorem put_0 {l : List Ord} {o : Ord} (h : putOk l o = false) : putO l o = [] ∧ putE l o = 130 := by simp [putO, putE, h]
theorem put_1 {l : List Ord} {o : Ord} (h : putOk l o = true) : putO l o = putL l o ∧ putE l o = 0 := by simp [putO, putE, h]
theorem putI_le (l : List Ord) (n : Int) : putI l n ≤ l.length := by
  unfold putI
  cases h : l.findIdx? (fun x => decide (n < x.number)) with
  | none => simp
  | some k =>
    have := (List.findIdx?_eq_some_iff_getElem.1 h).1
    simp
    omega
theorem idxI_put (l : List Ord) (n : Int) : (idxI (fun x => decide (n < x.number)) l = -1 ∧ putI l n = l.length) ∨ idxI (fun x => decide (n < x.number)) l = (putI l n : Int) := by
  unfold idxI putI
  cases h : l.findIdx? (fun x => decide (n < x.number)) with
  | none => exact .inl ⟨rfl, rfl⟩
  | some k => exact .inr rfl
theorem litThree (W w : World) (A B C : Option Addr) (n m k c d e g : Nat) (hg : g = W.heap.size) (hb : Bel (W.alloc (.cells #[.slice A n c, .slice B m d, .slice C k e] 22)) w) : Row ovT w (some ⟨g, 0, none⟩) 3 [(A, n, c), (B, m, d), (C, k, e)] := by
  subst hg
  exact (Row.lit (T := ovT) W [(A, n, c), (B, m, d), (C, k, e)] (0, 0) (by simp)).bel hb
theorem rowsThree (W : World) (A B C : Option Addr) (n m k c d e : Nat) (xs ys zs : List Ord) (h1 : Row ordT W A n xs) (h2 : Row ordT W B m ys) (h3 : Row ordT W C k zs) : RowsO W [(A, n, c), (B, m, d), (C, k, e)] [xs, ys, zs] := by
  refine ⟨rfl, fun i s x hs hx => ?_⟩
  rcases i with _ | _ | _ | i
  · simp at hs hx; subst hs; subst hx; exact h1
  · simp at hs hx; subst hs; subst hx; exact h2
  · simp at hs hx; subst hs; subst hx; exact h3
  · simp at hs
set_option maxRecDepth 10000 in
set_option maxHeartbeats 4000000 in
theorem put_any (A : Option Addr) (n c : Nat) (l : List Ord) (o0 : Int) (o1 o2 : ByteArray) (o3 : Bool) (o4 o5 : Int) (w : World) (hA : Row ordT w A n l) (hnc : n ≤ c) (hs1 : o1.size ≤ 4294967280) (hs2 : o2.size ≤ 4294967280) (hn : n ≤ 100000) :
    Calls Try.prog 8 #[.slice A n c, .agg #[.int .u64 o0, .string o1, .string o2, .bool o3, .int .i64 o4, .int .i64 o5]] w fun e w' => ∃ A' n' c', e = .returned (.tuple #[.slice A' n' c', .int .i64 (putE l ⟨o0, o1, o2, o3, o4, o5⟩)]) ∧ Row ordT w' A' n' (putO l ⟨o0, o1, o2, o3, o4, o5⟩) ∧ n' ≤ c' ∧ Bel w w' := by
  have SZ : Hid (o1.size ≤ 4294967280 ∧ o2.size ≤ 4294967280) := hid_ ⟨hs1, hs2⟩
  have hlen := hA.1
  obtain ⟨ro, hro⟩ : ∃ ro, putO l ⟨o0, o1, o2, o3, o4, o5⟩ = ro := ⟨_, rfl⟩
  rw [hro]
  have Hro := hid_ hro
  clear hro
  obtain ⟨re, hre⟩ : ∃ re, putE l ⟨o0, o1, o2, o3, o4, o5⟩ = re := ⟨_, rfl⟩
  rw [hre]
  have Hre := hid_ hre
  clear hre
  have k0 := Bx.new w 30 [.int .u64 o0, .string o1, .string o2, .bool o3, .int .i64 o4, .int .i64 o5]
  have k0 : Bx (w.alloc (.cells #[.int .u64 o0, .string o1, .string o2, .bool o3, .int .i64 o4, .int .i64 o5] 30)) (w.heap.size) 30 [.int .u64 o0, .string o1, .string o2, .bool o3, .int .i64 o4, .int .i64 o5] := k0
  have kB : Bel w (w.alloc (.cells #[.int .u64 o0, .string o1, .string o2, .bool o3, .int .i64 o4, .int .i64 o5] 30)) := (Bel.refl w).alloc _
  have FO := hid_ k0
  have FB := hid_ kB
  clear k0 kB
  have FA := hid_ (hA.bel FB.out)
  have HN := hid_ hn
  have HL := hid_ hlen
  have HNC := hid_ hnc
  clear hA hs1 hs2 hlen hn hnc
  go_enter Try.func8, Try.ntmps8
  go_wp2_with fail
  generalize (w.alloc (.cells #[.int .u64 o0, .string o1, .string o2, .bool o3, .int .i64 o4, .int .i64 o5] 30)) = W0 at FO FB FA ⊢
  obtain ⟨gO, hgO⟩ : ∃ g, w.heap.size = g := ⟨_, rfl⟩
  rw [hgO] at FO
  try rw [hgO]
  clear hgO
  have qO0 := FO.out.cell 0 rfl
  have qO1 := FO.out.cell 1 rfl
  have qO2 := FO.out.cell 2 rfl
  have qO3 := FO.out.cell 3 rfl
  have qO4 := FO.out.cell 4 rfl
  have qO5 := FO.out.cell 5 rfl
  refine (orderCheck_any o0 o1 o2 o3 o4 o5 _ SZ.out.1 SZ.out.2).mono ?_
  rintro e v1 ⟨rfl, b⟩
  have bb := b
  have f1O := hid_ (FO.out.bel bb)
  have f1B := hid_ (FB.out.trans bb)
  have f1A := hid_ (FA.out.bel bb)
  clear b bb FO FB FA qO0 qO1 qO2 qO3 qO4 qO5
  obtain ⟨cb, hcb⟩ : ∃ cb, chk ⟨o0, o1, o2, o3, o4, o5⟩ = cb := ⟨_, rfl⟩
  have HCB := hid_ hcb
  cases cb
  · have HE : checkE o1 o2 o4 o5 = 130 := check_no hcb
    rw [HE]
    clear HE hcb
    have HF : Hid (ro = [] ∧ re = 130) := hid_ (by have h := put_0 (l := l) (o := ⟨o0, o1, o2, o3, o4, o5⟩) (by unfold putOk; rw [HCB.out]; rfl); exact ⟨by rw [← Hro.out, h.1], by rw [← Hre.out, h.2]⟩)
    clear Hro Hre
    go_wp2
    go_ret2
    exact ⟨none, 0, 0, by rw [HF.out.2]; rfl, by rw [HF.out.1]; exact Row.none_ _ _ _, Nat.le_refl _, f1B.out⟩
  have HE : checkE o1 o2 o4 o5 = 0 := check_yes hcb
  rw [HE]
  clear HE hcb
  by_cases hbig : 200 ≤ n
  · have z : ¬ ((n : Int) < 200) := by omega
    have z2 : (200 : Int) ≤ (n : Int) := by omega
    have HF : Hid (ro = [] ∧ re = 130) := hid_ (by have h := put_0 (l := l) (o := ⟨o0, o1, o2, o3, o4, o5⟩) (by unfold putOk; rw [HL.out, decide_eq_false (show ¬ n < 200 by omega)]; simp); exact ⟨by rw [← Hro.out, h.1], by rw [← Hre.out, h.2]⟩)
    clear Hro Hre
    go_wp2
    go_ret2
    exact ⟨none, 0, 0, by rw [HF.out.2]; rfl, by rw [HF.out.1]; exact Row.none_ _ _ _, Nat.le_refl _, f1B.out⟩
  have z : (n : Int) < 200 := by omega
  have z2 : ¬ (200 : Int) ≤ (n : Int) := by omega
  have hn2 : n < 200 := by omega
  have HN2 := hid_ hn2
  clear hn2 hbig
  have qO0 := f1O.out.cell 0 rfl
  go_wp2_with fail
  refine (is_any o0 _).mono ?_
  rintro e v2 ⟨rfl, hw⟩
  have kb := Bx.new v1 28 [.int .u64 o0]
  rw [show (v1.alloc (.cells ([.int .u64 o0] : List Value).toArray 28)) = v2 from hw] at kb
  have hb2 : Bel v1 v2 := by rw [← hw]; exact (Bel.refl v1).alloc _
  have KB := hid_ kb
  clear kb hw
  generalize v1.heap.size = gn at KB ⊢
  have f2O := hid_ (f1O.out.bel hb2)
  have f2B := hid_ (f1B.out.trans hb2)
  have f2A := hid_ (f1A.out.bel hb2)
  clear hb2 f1O f1B f1A qO0
  go_wp2_with fail
  refine (containsP_any (fun x => x.number == o0) 74 _ egIs A n c l _ f2A.out (fun a0 a1 a2 a3 a4 a5 w' hb => is1_any a0 a1 a2 a3 a4 a5 o0 gn w' (hb.cell_ (KB.out.cell 0 rfl)))).mono ?_
  rintro e v3 ⟨rfl, b⟩
  have bb := b
  have f3O := hid_ (f2O.out.bel bb)
  have f3B := hid_ (f2B.out.trans bb)
  have f3A := hid_ (f2A.out.bel bb)
  have f3K := hid_ (KB.out.bel bb)
  clear b bb f2O f2B f2A KB
  obtain ⟨ib, hib⟩ : ∃ ib, (l.findIdx? (fun x => x.number == o0)).isSome = ib := ⟨_, rfl⟩
  rw [hib]
  have HIB := hid_ hib
  clear hib
  cases ib
  case true =>
    have HF : Hid (ro = [] ∧ re = 130) := hid_ (by have h := put_0 (l := l) (o := ⟨o0, o1, o2, o3, o4, o5⟩) (by unfold putOk; rw [HIB.out]; simp); exact ⟨by rw [← Hro.out, h.1], by rw [← Hre.out, h.2]⟩)
    clear Hro Hre
    go_wp2
    go_ret2
    exact ⟨none, 0, 0, by rw [HF.out.2]; rfl, by rw [HF.out.1]; exact Row.none_ _ _ _, Nat.le_refl _, f3B.out⟩
  have HOK : Hid (putOk l ⟨o0, o1, o2, o3, o4, o5⟩ = true) := hid_ (by unfold putOk; rw [HCB.out, HIB.out, HL.out, decide_eq_true HN2.out]; rfl)
  clear HCB HIB
  go_wp2_with fail
  refine (indexP_any (fun x => decide (o0 < x.number)) 34 _ egPut A n c l _ f3A.out (fun a0 a1 a2 a3 a4 a5 w' hb => put1_any a0 a1 a2 a3 a4 a5 o0 gO w' (hb.cell_ (f3O.out.cell 0 rfl)))).mono ?_
  rintro e v4 ⟨rfl, b⟩
  have bb := b
  have f4O := hid_ (f3O.out.bel bb)
  have f4B := hid_ (f3B.out.trans bb)
  have f4A := hid_ (f3A.out.bel bb)
  have f4K := hid_ (f3K.out.bel bb)
  clear b bb f3O f3B f3A f3K
  clear f4K
  have hp := putI_le l o0
  have hx := idxI_put l o0
  rw [HL.out] at hp hx
  obtain ⟨i, hi⟩ : ∃ i, putI l o0 = i := ⟨_, rfl⟩
  rw [hi] at hp hx
  have HI := hid_ hi
  clear hi
  generalize idxI (fun x => decide (o0 < x.number)) l = ri at hx ⊢
  obtain ⟨A', hcut, hrow⟩ := ordS.cutFrom (P := Try.prog) .i64 A n c i hp HNC.out
  have hto := fun W => ordS.cutTo (P := Try.prog) .i64 A n c i (Nat.le_trans hp HNC.out) W
  have HROW := hid_ (hrow _ _ f4A.out)
  have HTO := hid_ (f4A.out.take_ hp)
  clear hrow z z2
  have qO0 := f4O.out.cell 0 rfl
  have qO1 := f4O.out.cell 1 rfl
  have qO2 := f4O.out.cell 2 rfl
  have qO3 := f4O.out.cell 3 rfl
  have qO4 := f4O.out.cell 4 rfl
  have qO5 := f4O.out.cell 5 rfl
  have HFIN : Hid (ro = putL l ⟨o0, o1, o2, o3, o4, o5⟩ ∧ re = 0) := hid_ (by have h := put_1 HOK.out; exact ⟨by rw [← Hro.out, h.1], by rw [← Hre.out, h.2]⟩)
  clear Hro Hre HOK
  have PN := hid_ hp
  clear hp
  have i0 : (0 : Int) ≤ (i : Int) := by omega
  rcases hx with ⟨hm1, hin⟩ | hx
  · subst hm1
    subst hin
    have HROW0 := HROW.out
    rw [Nat.sub_self] at HROW0
    clear HROW
    have HROW := hid_ HROW0
    clear HROW0
    have hz9 : v4.heap.size + 1 = (v4.alloc (.cells #[.int .u64 o0, .string o1, .string o2, .bool o3, .int .i64 o4, .int .i64 o5] 30)).heap.size := by simp
    have HZ9 := hid_ hz9
    have HL9 : Hid ([l.take i, [⟨o0, o1, o2, o3, o4, o5⟩], l.drop i].flatten.length ≤ 100000) := hid_ (by have h1 := PN.out; have h2 := HN2.out; have h3 := HL.out; simp; omega)
    clear hz9
    go_wp2_with fail
    go_region_held3 (fun W => W.cell? ⟨gO, 0, none⟩ = some (.int .u64 o0) ∧ W.cell? ⟨gO, 1, none⟩ = some (.string o1) ∧ W.cell? ⟨gO, 2, none⟩ = some (.string o2) ∧ W.cell? ⟨gO, 3, none⟩ = some (.bool o3) ∧ W.cell? ⟨gO, 4, none⟩ = some (.int .i64 o4) ∧ W.cell? ⟨gO, 5, none⟩ = some (.int .i64 o5)) (first | exact ⟨qO0, qO1, qO2, qO3, qO4, qO5⟩ | exact ⟨cellOld qO0 _, cellOld qO1 _, cellOld qO2 _, cellOld qO3 _, cellOld qO4 _, cellOld qO5 _⟩ | exact ⟨cellOld (cellOld qO0 _) _, cellOld (cellOld qO1 _) _, cellOld (cellOld qO2 _) _, cellOld (cellOld qO3 _) _, cellOld (cellOld qO4 _) _, cellOld (cellOld qO5 _) _⟩ | exact ⟨bz.cell_ qO0, bz.cell_ qO1, bz.cell_ qO2, bz.cell_ qO3, bz.cell_ qO4, bz.cell_ qO5⟩)
      (first | (go_at_call 35; refine' Calls.mono (concatO_any _ 3 3 [(A, i, c), (some ⟨v4.heap.size, 0, none⟩, 1, 1), (A', 0, c - i)] [l.take i, [⟨o0, o1, o2, o3, o4, o5⟩], l.drop i] _ (litThree _ _ A (some ⟨v4.heap.size, 0, none⟩) A' i 1 (0) c 1 (c - i) _ HZ9.out (Bel.refl _).drew) (rowsThree _ _ _ _ _ _ _ _ _ _ _ _ _ (HTO.out.bel (((Bel.refl v4).alloc _).alloc _).drew) ((Row.one (T := ordT) (W := v4) ⟨o0, o1, o2, o3, o4, o5⟩ rfl rfl).bel ((Bel.refl _).alloc _).drew) (HROW.out.bel (((Bel.refl v4).alloc _).alloc _).drew)) HL9.out) ?_; rintro e w9 ⟨v9, rfl, oo, b9⟩; have bz : Bel v4 w9 := (((Bel.refl v4).alloc _).alloc _).drew.trans b9))
    obtain ⟨A9, c9, hv9, hc9, r9⟩ := oo.reads
    subst hv9
    have hxy : [l.take i, [⟨o0, o1, o2, o3, o4, o5⟩], l.drop i].flatten = putL l ⟨o0, o1, o2, o3, o4, o5⟩ := by show _ = l.take (putI l o0) ++ (⟨o0, o1, o2, o3, o4, o5⟩ :: l.drop (putI l o0)); rw [HI.out]; simp
    rw [hxy] at r9 hc9 ⊢
    have HR9 := hid_ r9
    have HC9 := hid_ hc9
    have HB9 := hid_ (f4B.out.trans bz)
    clear r9 hc9 oo bz b9 hxy qO0 qO1 qO2 qO3 qO4 qO5
    try clear hcut hto
    go_wp2
    go_ret2
    exact ⟨A9, _, c9, by rw [HFIN.out.2]; rfl, by rw [HFIN.out.1]; exact HR9.out, HC9.out, HB9.out⟩
  · subst hx
    have hz9 : v4.heap.size + 1 = (v4.alloc (.cells #[.int .u64 o0, .string o1, .string o2, .bool o3, .int .i64 o4, .int .i64 o5] 30)).heap.size := by simp
    have HZ9 := hid_ hz9
    have HL9 : Hid ([l.take i, [⟨o0, o1, o2, o3, o4, o5⟩], l.drop i].flatten.length ≤ 100000) := hid_ (by have h1 := PN.out; have h2 := HN2.out; have h3 := HL.out; simp; omega)
    clear hz9
    go_wp2_with fail
    go_region_held3 (fun W => W.cell? ⟨gO, 0, none⟩ = some (.int .u64 o0) ∧ W.cell? ⟨gO, 1, none⟩ = some (.string o1) ∧ W.cell? ⟨gO, 2, none⟩ = some (.string o2) ∧ W.cell? ⟨gO, 3, none⟩ = some (.bool o3) ∧ W.cell? ⟨gO, 4, none⟩ = some (.int .i64 o4) ∧ W.cell? ⟨gO, 5, none⟩ = some (.int .i64 o5)) (first | exact ⟨qO0, qO1, qO2, qO3, qO4, qO5⟩ | exact ⟨cellOld qO0 _, cellOld qO1 _, cellOld qO2 _, cellOld qO3 _, cellOld qO4 _, cellOld qO5 _⟩ | exact ⟨cellOld (cellOld qO0 _) _, cellOld (cellOld qO1 _) _, cellOld (cellOld qO2 _) _, cellOld (cellOld qO3 _) _, cellOld (cellOld qO4 _) _, cellOld (cellOld qO5 _) _⟩ | exact ⟨bz.cell_ qO0, bz.cell_ qO1, bz.cell_ qO2, bz.cell_ qO3, bz.cell_ qO4, bz.cell_ qO5⟩)
      (first | (go_at_call 35; refine' Calls.mono (concatO_any _ 3 3 [(A, i, c), (some ⟨v4.heap.size, 0, none⟩, 1, 1), (A', n - i, c - i)] [l.take i, [⟨o0, o1, o2, o3, o4, o5⟩], l.drop i] _ (litThree _ _ A (some ⟨v4.heap.size, 0, none⟩) A' i 1 (n - i) c 1 (c - i) _ HZ9.out (Bel.refl _).drew) (rowsThree _ _ _ _ _ _ _ _ _ _ _ _ _ (HTO.out.bel (((Bel.refl v4).alloc _).alloc _).drew) ((Row.one (T := ordT) (W := v4) ⟨o0, o1, o2, o3, o4, o5⟩ rfl rfl).bel ((Bel.refl _).alloc _).drew) (HROW.out.bel (((Bel.refl v4).alloc _).alloc _).drew)) HL9.out) ?_; rintro e w9 ⟨v9, rfl, oo, b9⟩; have bz : Bel v4 w9 := (((Bel.refl v4).alloc _).alloc _).drew.trans b9))
    obtain ⟨A9, c9, hv9, hc9, r9⟩ := oo.reads
    subst hv9
    have hxy : [l.take i, [⟨o0, o1, o2, o3, o4, o5⟩], l.drop i].flatten = putL l ⟨o0, o1, o2, o3, o4, o5⟩ := by show _ = l.take (putI l o0) ++ (⟨o0, o1, o2, o3, o4, o5⟩ :: l.drop (putI l o0)); rw [HI.out]; simp
    rw [hxy] at r9 hc9 ⊢
    have HR9 := hid_ r9
    have HC9 := hid_ hc9
    have HB9 := hid_ (f4B.out.trans bz)
    clear r9 hc9 oo bz b9 hxy qO0 qO1 qO2 qO3 qO4 qO5
    try clear hcut hto
    go_wp2
    go_ret2
    exact ⟨A9, _, c9, by rw [HFIN.out.2]; rfl, by rw [HFIN.out.1]; exact HR9.out, HC9.out, HB9.out⟩
end Go.Proofs.Ytoachnhdedpbdaa
