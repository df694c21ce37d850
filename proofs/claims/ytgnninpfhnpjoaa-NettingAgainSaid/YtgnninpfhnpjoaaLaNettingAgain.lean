/- NettingAgain, walked. -/
import Derived.Test.YtgnninpfhnpjoaaAw17
import Derived.Test.YtgnninpfhnpjoaaFew17
import Derived.Test.YtgnninpfhnpjoaaSameDue
import Derived.Test.YtgnninpfhnpjoaaOpDue
import Derived.Test.YtgnninpfhnpjoaaLit
set_option linter.unusedSimpArgs false
set_option linter.unusedVariables false
namespace Go.Proofs.Ytgnninpfhnpjoaa
open Go.RowKit Go.Lib
theorem i64w_wf' {x : Int} (h : (Lit.int .i64 x).wf = true) : i64w' x := by
  simp [Lit.wf, IntKind.min, IntKind.max, IntKind.signed, IntKind.bits] at h
  exact h
theorem due_sz {l : List Due} (hw : ∀ x ∈ l, dueWf x) : ∀ x ∈ l, x.who.size ≤ 9223372036854775807 ∧ x.asset.size ≤ 9223372036854775807 ∧ i64w' x.amount := fun x hx => ⟨(hw x hx).1, (hw x hx).2.1, i64w_wf' (hw x hx).2.2⟩
theorem net_sz {l : List Due} (hw : ∀ x ∈ l, x.who.size ≤ 9223372036854775807 ∧ x.asset.size ≤ 9223372036854775807 ∧ i64w' x.amount) : ∀ x ∈ netO l, x.who.size ≤ 9223372036854775807 ∧ x.asset.size ≤ 9223372036854775807 ∧ i64w' x.amount := fun x hx => by
  obtain ⟨y, hy, e1, e2⟩ := net_mem hx
  have := hw y hy
  rw [e1, e2] at this
  exact ⟨this.1, this.2.1, net_i64 hx⟩
theorem i32w_wf' {x : Int} (h : (Lit.int .i32 x).wf = true) : -2147483648 ≤ x ∧ x ≤ 2147483647 := by
  simp [Lit.wf, IntKind.min, IntKind.max, IntKind.signed, IntKind.bits] at h
  exact h
theorem net_again (l : List Due) : netE (netO l) = 0 ∧ netO (netO l) = netO l := by
  cases h : netOk l
  · rw [(netE_10 h).2]
    exact ⟨by decide, by decide⟩
  · exact net_net h
theorem turn_in {l : List Due} {k : Nat} {x : Due} (h : x ∈ turnL l k) : x ∈ l := by
  unfold turnL at h
  rcases List.mem_append.1 h with h | h
  · exact List.mem_of_mem_drop h
  · exact List.mem_of_mem_take h
set_option maxRecDepth 10000 in
set_option maxHeartbeats 4000000 in
theorem walkNettingAgain (w : World) (A : Option Addr) (n c : Nat) (l : List Due) (ha : n ≤ c ∧ Row dueT w A n l ∧ ∀ x ∈ l, dueWf x) (at_ : Int) (wt : (Lit.int .i64 at_).wf = true) (part : Int) (wp : (Lit.int .i32 part).wf = true) : Calls Try.prog 5 #[.slice A n c, .int .i64 at_, .int .i32 part] w fun e w' => e = .returned (.bool true) ∧ Bel w w' := by
  obtain ⟨hncA, hA, hwA⟩ := ha
  have H63A := hid_ hA.2.1
  have h63A := hA.2.1
  have HNCA := hid_ hncA
  have HZA := hid_ (due_sz hwA)
  have HLA := hid_ hA.1
  have FA := hid_ hA
  clear hncA hA hwA
  have FB := hid_ (Bel.refl w)
  have hAt := i64w_wf' wt
  have HPT := hid_ (i32w_wf' wp)
  clear wt wp
  unfold i64w' at hAt
  go_enter Try.func5, Try.ntmps5
  go_wp2_with fail
  refine (awake17 _).mono ?_
  rintro e v1 ⟨rfl, b⟩
  have bb := b
  have f1A := hid_ (FA.out.bel bb)
  have f1B := hid_ (FB.out.trans bb)
  clear b bb FA FB
  go_wp2_with fail
  refine (few17_any A n c l _ f1A.out).mono ?_
  rintro e v2 ⟨rfl, b⟩
  have bb := b
  have f2A := hid_ (f1A.out.bel bb)
  have f2B := hid_ (f1B.out.trans bb)
  clear b bb f1A f1B
  obtain ⟨fb, hfb⟩ : ∃ fb, few17 l = fb := ⟨_, rfl⟩
  rw [hfb]
  cases fb
  · clear hfb
    go_wp2
    go_ret
    exact ⟨rfl, f2B.out⟩
  have HQA := hid_ (few17_iff.1 hfb)
  have HNA : Hid (n ≤ 90000) := hid_ (by have h1 := HQA.out.1; have h2 := HLA.out; omega)
  clear hfb
  by_cases h1 : 50 < n
  · skip
    go_wp2
    go_ret
    exact ⟨rfl, f2B.out⟩
  have d1 : decide (50 < n) = false := decide_eq_false h1
  have HN5 : Hid (n ≤ 50) := hid_ (by omega)
  by_cases hn0 : n = 0
  · subst hn0
    go_wp2
    go_ret
    exact ⟨rfl, f2B.out⟩
  have hn1 : (n == 0) = false := by simp [hn0]
  by_cases hneg : at_ < 0
  · have hs1 : wrap64 (at_ + 1) = at_ + 1 := by unfold wrap64; omega
    have hs2 : wrap64 (-(at_ + 1)) = -(at_ + 1) := by unfold wrap64; omega
    obtain ⟨t, ht⟩ : ∃ t : Nat, -(at_ + 1) = (t : Int) := ⟨(-(at_ + 1)).toNat, by omega⟩
    rw [ht] at hs2
    obtain ⟨k, hk⟩ : ∃ k, t % n = k := ⟨_, rfl⟩
    have hkn : k < n := by rw [← hk]; exact Nat.mod_lt _ (by omega)
    have hmod1 : (t : Int).tmod (n : Int) = (k : Int) := by rw [← hk]; rfl
    have hmod2 : (t : Int) % (n : Int) = (k : Int) := by rw [← hk]; rfl
    have hz : ((n : Int) == 0) = false := by simp; omega
    clear hk
    have HKN := hid_ hkn
    obtain ⟨ad, y0, y1, y2, rfl, ho, z0, z1, z2⟩ := f2A.out.due hkn
    have HO := hid_ ho
    clear ho
    have i0 : (0 : Int) ≤ (k : Int) := by omega
    have i1 : (k : Int) < (n : Int) := by omega
    have kX := hid_ (Bx.new v2 33 [.string y0, .string y1, .int .i64 y2])
    have A4 := hid_ (f2A.out.bel ((Bel.refl v2).alloc (.cells #[.string y0, .string y1, .int .i64 y2] 33)))
    have B4 := hid_ (f2B.out.alloc (.cells #[.string y0, .string y1, .int .i64 y2] 33))
    by_cases q1 : (4611686018427387904 : Int) < y2
    · go_wp2
      go_ret
      exact ⟨rfl, B4.out⟩
    have dq1 : decide ((4611686018427387904 : Int) < y2) = false := decide_eq_false q1
    by_cases q2 : y2 < (-4611686018427387904 : Int)
    · go_wp2
      go_ret
      exact ⟨rfl, B4.out⟩
    have dq2 : decide (y2 < (-4611686018427387904 : Int)) = false := decide_eq_false q2
    go_upto_region 10 with (fail)
    generalize v2.alloc (.cells #[.string y0, .string y1, .int .i64 y2] 33) = W0 at kX A4 B4 ⊢
    generalize v2.heap.size = gX at kX ⊢
    clear z0 z1 z2 dq1 dq2 hmod1 hmod2 hz i0 i1 f2A f2B
    have hw : IntKind.i64.wrap part = part := by have := HPT.out; rw [IntKind.wrap_i64]; omega
    have hy : IntKind.i64.wrap (y2 - IntKind.i64.wrap part) = y2 - part := by rw [hw]; have := HPT.out; rw [IntKind.wrap_i64]; omega
    have HY := hid_ (And.intro hy (And.intro hw (And.intro q1 q2)))
    clear hy hw q1 q2
    obtain ⟨A', hcut, hrow⟩ := dueS.cutFrom (P := Try.prog) .i64 (some ad) n c k (by omega) HNCA.out
    have hcut2 := fun W => dueS.cutTo (P := Try.prog) .i64 (some ad) n c k (by have := HNCA.out; omega) W
    have ra := hid_ (hrow _ _ A4.out)
    have rt := hid_ (A4.out.take_ (show k ≤ n by omega))
    have HLD : Hid ((l.drop k).length = n - k ∧ (l.take k).length = k) := hid_ ⟨by rw [List.length_drop, HLA.out], by rw [List.length_take, HLA.out]; omega⟩
    have hKP : ∀ W, Bel W0 W → (fun W => Bel W0 W) W := fun W b => b
    have HKP := hid_ hKP
    clear hKP hrow hkn
    go_region_held3 (fun W => Bel W0 W) ((refine HKP.out _ ?_; repeat first | with_reducible exact Bel.refl _ | with_reducible exact hb1 | with_reducible exact hb3 | with_reducible apply Bel.drew | with_reducible apply Bel.alloc))
      (first | (refine stepApp (w0 := W0) dueS rfl _ _ rfl _ [] ((l.drop k)) (A') (n - k) (c - k) rfl rfl ((Own.litE (T := dueT) W0 W0.heap.size _ 33 rfl rfl (Nat.le_refl _)).bel (by repeat first | with_reducible exact Bel.refl _ | with_reducible apply Bel.drew | with_reducible apply Bel.alloc)) (ra.out.bel (by repeat first | with_reducible exact Bel.refl _ | with_reducible apply Bel.drew | with_reducible apply Bel.alloc)) (by repeat first | with_reducible exact Bel.refl _ | with_reducible apply Bel.drew | with_reducible apply Bel.alloc) (by have h1 := HLD.out; have h2 := HN5.out; have h3 := HKN.out; simp only [List.length_append, List.length_nil, h1.1, h1.2]; omega) ?_; intro v1 x1 hO1 hb1 hg1 hat1) | (refine stepApp (w0 := W0) dueS rfl _ _ rfl _ [] ((l.drop k)) (A') (n - k) (c - k) rfl rfl ((Own.litE (T := dueT) (W0.alloc (.cells #[] 33)) W0.heap.size (W0.heap.size + 1) 33 rfl (sizeAl _ _).symm (by rw [sizeAl]; omega)).bel (by repeat first | with_reducible exact Bel.refl _ | with_reducible apply Bel.drew | with_reducible apply Bel.alloc)) (ra.out.bel (by repeat first | with_reducible exact Bel.refl _ | with_reducible apply Bel.drew | with_reducible apply Bel.alloc)) (by repeat first | with_reducible exact Bel.refl _ | with_reducible apply Bel.drew | with_reducible apply Bel.alloc) (by have h1 := HLD.out; have h2 := HN5.out; have h3 := HKN.out; simp only [List.length_append, List.length_nil, h1.1, h1.2]; omega) ?_; intro v1 x1 hO1 hb1 hg1 hat1) | (refine stepApp (w0 := W0) dueS rfl _ _ rfl v1 ([] ++ (l.drop k)) ((l.take k)) ((some ad)) (k) (c) rfl rfl hO1 (rt.out.bel hb1) hb1 (by have h1 := HLD.out; have h2 := HN5.out; have h3 := HKN.out; simp only [List.length_append, List.length_nil, h1.1, h1.2]; omega) ?_; intro v3 x3 hO3 hb3 hg3 hat3))
    have hO4 : Own dueT x3 W0.heap.size v3 (turnL l k) := hO3
    obtain ⟨A9, c9, rfl, hc9, r9⟩ := hO4.reads
    rw [turn_len, HLA.out] at r9 hc9 ⊢
    have R9 := hid_ r9
    have C9 := hid_ hc9
    have A3 := hid_ (A4.out.bel hb3)
    have B3 := hid_ (B4.out.trans hb3)
    have KX := hid_ (kX.out.bel hb3)
    clear hO1 hb1 hg1 hat1 hO3 hO4 hb3 hg3 hat3 r9 hc9 HKP ra rt hcut hcut2 HLD A4 B4 kX
    go_upto_region 11 with (fail)
    obtain ⟨W1, hW1⟩ : ∃ W1, x3 = W1 := ⟨_, rfl⟩
    rw [hW1] at R9 A3 B3 KX ⊢
    clear hW1
    have c0 := KX.out.cell 0 rfl
    have c1 := KX.out.cell 1 rfl
    have c2 := KX.out.cell 2 rfl
    obtain ⟨A'', hcut, hrow⟩ := dueS.cutFrom (P := Try.prog) .i64 A9 n c9 1 (by have := HKN.out; omega) C9.out
    simp only [show ((1 : Nat) : Int) = 1 from rfl] at hcut
    have ra := hid_ (hrow _ _ R9.out)
    have HT : Hid (turnL l k = ⟨y0, y1, y2⟩ :: (turnL l k).drop 1) := hid_ (by rw [List.drop_one]; exact turn_cons HO.out)
    have HLD : Hid (((turnL l k).drop 1).length = n - 1) := hid_ (by rw [List.length_drop, turn_len, HLA.out])
    clear hrow
    have HOL : Hid (Own dueT (W1.alloc (.cells #[.string y0, .string y1, .int .i64 (IntKind.i64.wrap (y2 - IntKind.i64.wrap part))] 33)) W1.heap.size (.slice (some ⟨W1.heap.size, 0, none⟩) 1 1) [⟨y0, y1, IntKind.i64.wrap (y2 - IntKind.i64.wrap part)⟩]) := hid_ (Own.lit (T := dueT) W1 W1.heap.size [⟨y0, y1, IntKind.i64.wrap (y2 - IntKind.i64.wrap part)⟩] (Nat.le_refl _) (by simp))
    have hKP : ∀ W, Bel W1 W → (fun W => Bel W1 W ∧ W.cell? ⟨gX, 0, none⟩ = some (.string y0) ∧ W.cell? ⟨gX, 1, none⟩ = some (.string y1) ∧ W.cell? ⟨gX, 2, none⟩ = some (.int .i64 y2)) W := fun W b => ⟨b, b.cell_ c0, b.cell_ c1, b.cell_ c2⟩
    have HKP := hid_ hKP
    clear hKP
    go_region_held3 (fun W => Bel W1 W ∧ W.cell? ⟨gX, 0, none⟩ = some (.string y0) ∧ W.cell? ⟨gX, 1, none⟩ = some (.string y1) ∧ W.cell? ⟨gX, 2, none⟩ = some (.int .i64 y2)) ((refine HKP.out _ ?_; repeat first | with_reducible exact Bel.refl _ | with_reducible exact hb3 | with_reducible apply Bel.drew | with_reducible apply Bel.alloc))
      (first | (refine stepApp (w0 := W1) dueS rfl _ _ rfl _ [⟨y0, y1, IntKind.i64.wrap (y2 - IntKind.i64.wrap part)⟩] ((turnL l k).drop 1) A'' (n - 1) (c9 - 1) rfl rfl (HOL.out.bel (by repeat first | with_reducible exact Bel.refl _ | with_reducible apply Bel.drew | with_reducible apply Bel.alloc)) (ra.out.bel (by repeat first | with_reducible exact Bel.refl _ | with_reducible apply Bel.drew | with_reducible apply Bel.alloc)) (by repeat first | with_reducible exact Bel.refl _ | with_reducible apply Bel.drew | with_reducible apply Bel.alloc) (by have h1 := HLD.out; have h2 := HN5.out; simp; omega) ?_; intro v3 x4 hO3 hb3 hg3 hat3))
    have HO5 : Hid (Own dueT x4 W1.heap.size v3 (⟨y0, y1, y2 - part⟩ :: (turnL l k).drop 1)) := hid_ (by rw [HY.out.1] at hO3; exact hO3)
    have K5 := hid_ (KX.out.bel hb3)
    have BW := hid_ hb3
    clear hO3 hb3 hg3 hat3 HKP ra hcut c0 c1 c2 KX HOL
    have c0 := K5.out.cell 0 rfl
    have c1 := K5.out.cell 1 rfl
    have hw := HY.out.2.1
    rw [IntKind.wrap_i64] at hw
    have e0 : -9223372036854775808 ≤ part := by have := HPT.out; omega
    have e1 : part ≤ 9223372036854775807 := by have := HPT.out; omega
    clear hw
    go_wp2_with (at_builtin; refine wpApp (w0 := W1) dueS rfl _ _ rfl _ (⟨y0, y1, y2 - part⟩ :: (turnL l k).drop 1) [⟨y0, y1, part⟩] (some ⟨x4.heap.size, 0, none⟩) 1 1 rfl rfl (HO5.out.alloc_ _) (Row.one (T := dueT) ⟨y0, y1, part⟩ rfl rfl) (BW.out.alloc _) (by have h1 := HLD.out; have h2 := HN5.out; rw [List.length_cons, h1]; omega) ?_; intro v4 x5 hO4 hb4 hg4 hat4)
    have hO6 : Own dueT x5 W1.heap.size v4 (partsE ⟨y0, y1, y2⟩ part ((turnL l k).drop 1)) := hO4
    obtain ⟨Ap, cp, rfl, hcp, rp⟩ := hO6.reads
    have HLP : Hid ((partsE ⟨y0, y1, y2⟩ part ((turnL l k).drop 1)).length = n + 1) := hid_ (by have := HLD.out; have := HKN.out; unfold partsE; simp only [List.length_append, List.length_cons, List.length_nil]; omega)
    rw [HLP.out] at rp ⊢
    have RP := hid_ rp
    have A6 := hid_ (A3.out.bel hb4)
    have B6 := hid_ (B3.out.trans hb4)
    have R6 := hid_ (R9.out.bel hb4)
    clear hO4 hO6 hcp rp hb4 hg4 hat4 A3 B3 R9 K5 BW HO5 c0 c1 e0 e1
    have HT1 := hid_ (net_turn l k)
    have HP1 := hid_ (net_parts ⟨y0, y1, y2⟩ part ((turnL l k).drop 1))
    have HG1 := hid_ (net_again l)
    have HZT : Hid (∀ x ∈ turnL l k, x.who.size ≤ 9223372036854775807 ∧ x.asset.size ≤ 9223372036854775807 ∧ i64w' x.amount) := hid_ (fun x hx => HZA.out x (turn_in hx))
    have HZP : Hid (∀ x ∈ partsE ⟨y0, y1, y2⟩ part ((turnL l k).drop 1), x.who.size ≤ 9223372036854775807 ∧ x.asset.size ≤ 9223372036854775807 ∧ i64w' x.amount) := hid_ (by
      intro x hx
      have h0 := HZT.out ⟨y0, y1, y2⟩ (by rw [HT.out]; exact List.mem_cons_self ..)
      have hp := HPT.out
      have hy := HY.out.2.2
      unfold partsE at hx
      rcases List.mem_append.1 hx with hx | hx
      · rcases List.mem_cons.1 hx with rfl | hx
        · exact ⟨h0.1, h0.2.1, by show i64w' (y2 - part); unfold i64w'; omega⟩
        · exact HZT.out x (List.mem_of_mem_drop hx)
      · simp at hx
        subst hx
        exact ⟨h0.1, h0.2.1, by show i64w' part; unfold i64w'; omega⟩)
    obtain ⟨pe, hpe⟩ : ∃ q, netE l = q := ⟨_, rfl⟩
    obtain ⟨po, hpo⟩ : ∃ q, netO l = q := ⟨_, rfl⟩
    have HNL := hid_ (net_len l)
    have HZN := hid_ (net_sz HZA.out)
    rw [hpo] at HNL HZN HG1
    have HPE := hid_ (And.intro hpe hpo)
    clear hpe hpo
    go_wp2_with fail
    refine (net_any (some ad) n c l _ A6.out HNA.out HZA.out).mono ?_
    rintro e w6 ⟨v, rfl, o, b⟩
    rw [HPE.out.1]
    rw [HPE.out.2] at o
    obtain ⟨Q6, cq6, rfl, _, r⟩ := o.reads
    have S6 := hid_ r
    have h6A := hid_ (A6.out.bel b)
    have h6B := hid_ (B6.out.trans b)
    have h6R := hid_ (R6.out.bel b)
    have h6P := hid_ (RP.out.bel b)
    clear b A6 B6 R6 RP
    clear o r
    go_wp2_with fail
    refine (net_any A9 n c9 (turnL l k) _ h6R.out HNA.out HZT.out).mono ?_
    rintro e w7 ⟨v, rfl, o, b⟩
    rw [HT1.out.1, HPE.out.1]
    rw [HT1.out.2, HPE.out.2] at o
    obtain ⟨Q7, cq7, rfl, _, r⟩ := o.reads
    have S7 := hid_ r
    have h7A := hid_ (h6A.out.bel b)
    have h7B := hid_ (h6B.out.trans b)
    have h7P := hid_ (h6P.out.bel b)
    have h7S6 := hid_ (S6.out.bel b)
    clear b h6A h6B h6R h6P S6
    clear o r
    go_wp2_with fail
    refine (net_any Ap (n + 1) cp (partsE ⟨y0, y1, y2⟩ part ((turnL l k).drop 1)) _ h7P.out (by have := HN5.out; omega) HZP.out).mono ?_
    rintro e w8 ⟨v, rfl, o, b⟩
    rw [HP1.out.1, ← HT.out, HT1.out.1, HPE.out.1]
    rw [HP1.out.2, ← HT.out, HT1.out.2, HPE.out.2] at o
    obtain ⟨Q8, cq8, rfl, _, r⟩ := o.reads
    have S8 := hid_ r
    have h8A := hid_ (h7A.out.bel b)
    have h8B := hid_ (h7B.out.trans b)
    have h8S6 := hid_ (h7S6.out.bel b)
    have h8S7 := hid_ (S7.out.bel b)
    clear b h7A h7B h7P h7S6 S7
    clear o r
    go_wp2_with fail
    refine (net_any Q6 _ cq6 po _ h8S6.out (by have h1 := HNL.out; have h2 := HLA.out; have h3 := HN5.out; omega) HZN.out).mono ?_
    rintro e w9 ⟨v, rfl, o, b⟩
    rw [HG1.out.1]
    rw [HG1.out.2] at o
    obtain ⟨Q9, cq9, rfl, _, r⟩ := o.reads
    have S9 := hid_ r
    have h9A := hid_ (h8A.out.bel b)
    have h9B := hid_ (h8B.out.trans b)
    have h9S6 := hid_ (h8S6.out.bel b)
    have h9S7 := hid_ (h8S7.out.bel b)
    have h9S8 := hid_ (S8.out.bel b)
    clear b h8A h8B h8S6 h8S7 S8
    clear o r
    go_wp2_with fail
    refine (sameDue_any Q6 _ cq6 po Q7 _ cq7 po _ h9S6.out h9S7.out).mono ?_
    rintro e w10 ⟨rfl, b⟩
    rw [eqB_1 (rfl : po = po)]
    have h10A := hid_ (h9A.out.bel b)
    have h10B := hid_ (h9B.out.trans b)
    have h10S6 := hid_ (h9S6.out.bel b)
    have h10S8 := hid_ (h9S8.out.bel b)
    have h10S9 := hid_ (S9.out.bel b)
    clear b h9A h9B h9S6 h9S7 h9S8 S9
    go_wp2_with fail
    refine (sameDue_any Q6 _ cq6 po Q8 _ cq8 po _ h10S6.out h10S8.out).mono ?_
    rintro e w11 ⟨rfl, b⟩
    rw [eqB_1 (rfl : po = po)]
    have h11A := hid_ (h10A.out.bel b)
    have h11B := hid_ (h10B.out.trans b)
    have h11S6 := hid_ (h10S6.out.bel b)
    have h11S9 := hid_ (h10S9.out.bel b)
    clear b h10A h10B h10S6 h10S8 h10S9
    go_wp2_with fail
    refine (sameDue_any Q6 _ cq6 po Q9 _ cq9 po _ h11S6.out h11S9.out).mono ?_
    rintro e w12 ⟨rfl, b⟩
    rw [eqB_1 (rfl : po = po)]
    have h12A := hid_ (h11A.out.bel b)
    have h12B := hid_ (h11B.out.trans b)
    have h12S6 := hid_ (h11S6.out.bel b)
    clear b h11A h11B h11S6 h11S9
    go_wp2
    go_ret
    exact ⟨rfl, h12B.out⟩
  · obtain ⟨t, rfl⟩ : ∃ t : Nat, at_ = (t : Int) := ⟨at_.toNat, by omega⟩
    have dn : decide ((t : Int) < 0) = false := by simp
    obtain ⟨k, hk⟩ : ∃ k, t % n = k := ⟨_, rfl⟩
    have hkn : k < n := by rw [← hk]; exact Nat.mod_lt _ (by omega)
    have hmod1 : (t : Int).tmod (n : Int) = (k : Int) := by rw [← hk]; rfl
    have hmod2 : (t : Int) % (n : Int) = (k : Int) := by rw [← hk]; rfl
    have hz : ((n : Int) == 0) = false := by simp; omega
    clear hk
    have HKN := hid_ hkn
    obtain ⟨ad, y0, y1, y2, rfl, ho, z0, z1, z2⟩ := f2A.out.due hkn
    have HO := hid_ ho
    clear ho
    have i0 : (0 : Int) ≤ (k : Int) := by omega
    have i1 : (k : Int) < (n : Int) := by omega
    have kX := hid_ (Bx.new v2 33 [.string y0, .string y1, .int .i64 y2])
    have A4 := hid_ (f2A.out.bel ((Bel.refl v2).alloc (.cells #[.string y0, .string y1, .int .i64 y2] 33)))
    have B4 := hid_ (f2B.out.alloc (.cells #[.string y0, .string y1, .int .i64 y2] 33))
    by_cases q1 : (4611686018427387904 : Int) < y2
    · go_wp2
      go_ret
      exact ⟨rfl, B4.out⟩
    have dq1 : decide ((4611686018427387904 : Int) < y2) = false := decide_eq_false q1
    by_cases q2 : y2 < (-4611686018427387904 : Int)
    · go_wp2
      go_ret
      exact ⟨rfl, B4.out⟩
    have dq2 : decide (y2 < (-4611686018427387904 : Int)) = false := decide_eq_false q2
    go_upto_region 10 with (fail)
    generalize v2.alloc (.cells #[.string y0, .string y1, .int .i64 y2] 33) = W0 at kX A4 B4 ⊢
    generalize v2.heap.size = gX at kX ⊢
    clear z0 z1 z2 dq1 dq2 hmod1 hmod2 hz i0 i1 f2A f2B
    have hw : IntKind.i64.wrap part = part := by have := HPT.out; rw [IntKind.wrap_i64]; omega
    have hy : IntKind.i64.wrap (y2 - IntKind.i64.wrap part) = y2 - part := by rw [hw]; have := HPT.out; rw [IntKind.wrap_i64]; omega
    have HY := hid_ (And.intro hy (And.intro hw (And.intro q1 q2)))
    clear hy hw q1 q2
    obtain ⟨A', hcut, hrow⟩ := dueS.cutFrom (P := Try.prog) .i64 (some ad) n c k (by omega) HNCA.out
    have hcut2 := fun W => dueS.cutTo (P := Try.prog) .i64 (some ad) n c k (by have := HNCA.out; omega) W
    have ra := hid_ (hrow _ _ A4.out)
    have rt := hid_ (A4.out.take_ (show k ≤ n by omega))
    have HLD : Hid ((l.drop k).length = n - k ∧ (l.take k).length = k) := hid_ ⟨by rw [List.length_drop, HLA.out], by rw [List.length_take, HLA.out]; omega⟩
    have hKP : ∀ W, Bel W0 W → (fun W => Bel W0 W) W := fun W b => b
    have HKP := hid_ hKP
    clear hKP hrow hkn
    go_region_held3 (fun W => Bel W0 W) ((refine HKP.out _ ?_; repeat first | with_reducible exact Bel.refl _ | with_reducible exact hb1 | with_reducible exact hb3 | with_reducible apply Bel.drew | with_reducible apply Bel.alloc))
      (first | (refine stepApp (w0 := W0) dueS rfl _ _ rfl _ [] ((l.drop k)) (A') (n - k) (c - k) rfl rfl ((Own.litE (T := dueT) W0 W0.heap.size _ 33 rfl rfl (Nat.le_refl _)).bel (by repeat first | with_reducible exact Bel.refl _ | with_reducible apply Bel.drew | with_reducible apply Bel.alloc)) (ra.out.bel (by repeat first | with_reducible exact Bel.refl _ | with_reducible apply Bel.drew | with_reducible apply Bel.alloc)) (by repeat first | with_reducible exact Bel.refl _ | with_reducible apply Bel.drew | with_reducible apply Bel.alloc) (by have h1 := HLD.out; have h2 := HN5.out; have h3 := HKN.out; simp only [List.length_append, List.length_nil, h1.1, h1.2]; omega) ?_; intro v1 x1 hO1 hb1 hg1 hat1) | (refine stepApp (w0 := W0) dueS rfl _ _ rfl _ [] ((l.drop k)) (A') (n - k) (c - k) rfl rfl ((Own.litE (T := dueT) (W0.alloc (.cells #[] 33)) W0.heap.size (W0.heap.size + 1) 33 rfl (sizeAl _ _).symm (by rw [sizeAl]; omega)).bel (by repeat first | with_reducible exact Bel.refl _ | with_reducible apply Bel.drew | with_reducible apply Bel.alloc)) (ra.out.bel (by repeat first | with_reducible exact Bel.refl _ | with_reducible apply Bel.drew | with_reducible apply Bel.alloc)) (by repeat first | with_reducible exact Bel.refl _ | with_reducible apply Bel.drew | with_reducible apply Bel.alloc) (by have h1 := HLD.out; have h2 := HN5.out; have h3 := HKN.out; simp only [List.length_append, List.length_nil, h1.1, h1.2]; omega) ?_; intro v1 x1 hO1 hb1 hg1 hat1) | (refine stepApp (w0 := W0) dueS rfl _ _ rfl v1 ([] ++ (l.drop k)) ((l.take k)) ((some ad)) (k) (c) rfl rfl hO1 (rt.out.bel hb1) hb1 (by have h1 := HLD.out; have h2 := HN5.out; have h3 := HKN.out; simp only [List.length_append, List.length_nil, h1.1, h1.2]; omega) ?_; intro v3 x3 hO3 hb3 hg3 hat3))
    have hO4 : Own dueT x3 W0.heap.size v3 (turnL l k) := hO3
    obtain ⟨A9, c9, rfl, hc9, r9⟩ := hO4.reads
    rw [turn_len, HLA.out] at r9 hc9 ⊢
    have R9 := hid_ r9
    have C9 := hid_ hc9
    have A3 := hid_ (A4.out.bel hb3)
    have B3 := hid_ (B4.out.trans hb3)
    have KX := hid_ (kX.out.bel hb3)
    clear hO1 hb1 hg1 hat1 hO3 hO4 hb3 hg3 hat3 r9 hc9 HKP ra rt hcut hcut2 HLD A4 B4 kX
    go_upto_region 11 with (fail)
    obtain ⟨W1, hW1⟩ : ∃ W1, x3 = W1 := ⟨_, rfl⟩
    rw [hW1] at R9 A3 B3 KX ⊢
    clear hW1
    have c0 := KX.out.cell 0 rfl
    have c1 := KX.out.cell 1 rfl
    have c2 := KX.out.cell 2 rfl
    obtain ⟨A'', hcut, hrow⟩ := dueS.cutFrom (P := Try.prog) .i64 A9 n c9 1 (by have := HKN.out; omega) C9.out
    simp only [show ((1 : Nat) : Int) = 1 from rfl] at hcut
    have ra := hid_ (hrow _ _ R9.out)
    have HT : Hid (turnL l k = ⟨y0, y1, y2⟩ :: (turnL l k).drop 1) := hid_ (by rw [List.drop_one]; exact turn_cons HO.out)
    have HLD : Hid (((turnL l k).drop 1).length = n - 1) := hid_ (by rw [List.length_drop, turn_len, HLA.out])
    clear hrow
    have HOL : Hid (Own dueT (W1.alloc (.cells #[.string y0, .string y1, .int .i64 (IntKind.i64.wrap (y2 - IntKind.i64.wrap part))] 33)) W1.heap.size (.slice (some ⟨W1.heap.size, 0, none⟩) 1 1) [⟨y0, y1, IntKind.i64.wrap (y2 - IntKind.i64.wrap part)⟩]) := hid_ (Own.lit (T := dueT) W1 W1.heap.size [⟨y0, y1, IntKind.i64.wrap (y2 - IntKind.i64.wrap part)⟩] (Nat.le_refl _) (by simp))
    have hKP : ∀ W, Bel W1 W → (fun W => Bel W1 W ∧ W.cell? ⟨gX, 0, none⟩ = some (.string y0) ∧ W.cell? ⟨gX, 1, none⟩ = some (.string y1) ∧ W.cell? ⟨gX, 2, none⟩ = some (.int .i64 y2)) W := fun W b => ⟨b, b.cell_ c0, b.cell_ c1, b.cell_ c2⟩
    have HKP := hid_ hKP
    clear hKP
    go_region_held3 (fun W => Bel W1 W ∧ W.cell? ⟨gX, 0, none⟩ = some (.string y0) ∧ W.cell? ⟨gX, 1, none⟩ = some (.string y1) ∧ W.cell? ⟨gX, 2, none⟩ = some (.int .i64 y2)) ((refine HKP.out _ ?_; repeat first | with_reducible exact Bel.refl _ | with_reducible exact hb3 | with_reducible apply Bel.drew | with_reducible apply Bel.alloc))
      (first | (refine stepApp (w0 := W1) dueS rfl _ _ rfl _ [⟨y0, y1, IntKind.i64.wrap (y2 - IntKind.i64.wrap part)⟩] ((turnL l k).drop 1) A'' (n - 1) (c9 - 1) rfl rfl (HOL.out.bel (by repeat first | with_reducible exact Bel.refl _ | with_reducible apply Bel.drew | with_reducible apply Bel.alloc)) (ra.out.bel (by repeat first | with_reducible exact Bel.refl _ | with_reducible apply Bel.drew | with_reducible apply Bel.alloc)) (by repeat first | with_reducible exact Bel.refl _ | with_reducible apply Bel.drew | with_reducible apply Bel.alloc) (by have h1 := HLD.out; have h2 := HN5.out; simp; omega) ?_; intro v3 x4 hO3 hb3 hg3 hat3))
    have HO5 : Hid (Own dueT x4 W1.heap.size v3 (⟨y0, y1, y2 - part⟩ :: (turnL l k).drop 1)) := hid_ (by rw [HY.out.1] at hO3; exact hO3)
    have K5 := hid_ (KX.out.bel hb3)
    have BW := hid_ hb3
    clear hO3 hb3 hg3 hat3 HKP ra hcut c0 c1 c2 KX HOL
    have c0 := K5.out.cell 0 rfl
    have c1 := K5.out.cell 1 rfl
    have hw := HY.out.2.1
    rw [IntKind.wrap_i64] at hw
    have e0 : -9223372036854775808 ≤ part := by have := HPT.out; omega
    have e1 : part ≤ 9223372036854775807 := by have := HPT.out; omega
    clear hw
    go_wp2_with (at_builtin; refine wpApp (w0 := W1) dueS rfl _ _ rfl _ (⟨y0, y1, y2 - part⟩ :: (turnL l k).drop 1) [⟨y0, y1, part⟩] (some ⟨x4.heap.size, 0, none⟩) 1 1 rfl rfl (HO5.out.alloc_ _) (Row.one (T := dueT) ⟨y0, y1, part⟩ rfl rfl) (BW.out.alloc _) (by have h1 := HLD.out; have h2 := HN5.out; rw [List.length_cons, h1]; omega) ?_; intro v4 x5 hO4 hb4 hg4 hat4)
    have hO6 : Own dueT x5 W1.heap.size v4 (partsE ⟨y0, y1, y2⟩ part ((turnL l k).drop 1)) := hO4
    obtain ⟨Ap, cp, rfl, hcp, rp⟩ := hO6.reads
    have HLP : Hid ((partsE ⟨y0, y1, y2⟩ part ((turnL l k).drop 1)).length = n + 1) := hid_ (by have := HLD.out; have := HKN.out; unfold partsE; simp only [List.length_append, List.length_cons, List.length_nil]; omega)
    rw [HLP.out] at rp ⊢
    have RP := hid_ rp
    have A6 := hid_ (A3.out.bel hb4)
    have B6 := hid_ (B3.out.trans hb4)
    have R6 := hid_ (R9.out.bel hb4)
    clear hO4 hO6 hcp rp hb4 hg4 hat4 A3 B3 R9 K5 BW HO5 c0 c1 e0 e1
    have HT1 := hid_ (net_turn l k)
    have HP1 := hid_ (net_parts ⟨y0, y1, y2⟩ part ((turnL l k).drop 1))
    have HG1 := hid_ (net_again l)
    have HZT : Hid (∀ x ∈ turnL l k, x.who.size ≤ 9223372036854775807 ∧ x.asset.size ≤ 9223372036854775807 ∧ i64w' x.amount) := hid_ (fun x hx => HZA.out x (turn_in hx))
    have HZP : Hid (∀ x ∈ partsE ⟨y0, y1, y2⟩ part ((turnL l k).drop 1), x.who.size ≤ 9223372036854775807 ∧ x.asset.size ≤ 9223372036854775807 ∧ i64w' x.amount) := hid_ (by
      intro x hx
      have h0 := HZT.out ⟨y0, y1, y2⟩ (by rw [HT.out]; exact List.mem_cons_self ..)
      have hp := HPT.out
      have hy := HY.out.2.2
      unfold partsE at hx
      rcases List.mem_append.1 hx with hx | hx
      · rcases List.mem_cons.1 hx with rfl | hx
        · exact ⟨h0.1, h0.2.1, by show i64w' (y2 - part); unfold i64w'; omega⟩
        · exact HZT.out x (List.mem_of_mem_drop hx)
      · simp at hx
        subst hx
        exact ⟨h0.1, h0.2.1, by show i64w' part; unfold i64w'; omega⟩)
    obtain ⟨pe, hpe⟩ : ∃ q, netE l = q := ⟨_, rfl⟩
    obtain ⟨po, hpo⟩ : ∃ q, netO l = q := ⟨_, rfl⟩
    have HNL := hid_ (net_len l)
    have HZN := hid_ (net_sz HZA.out)
    rw [hpo] at HNL HZN HG1
    have HPE := hid_ (And.intro hpe hpo)
    clear hpe hpo
    go_wp2_with fail
    refine (net_any (some ad) n c l _ A6.out HNA.out HZA.out).mono ?_
    rintro e w6 ⟨v, rfl, o, b⟩
    rw [HPE.out.1]
    rw [HPE.out.2] at o
    obtain ⟨Q6, cq6, rfl, _, r⟩ := o.reads
    have S6 := hid_ r
    have h6A := hid_ (A6.out.bel b)
    have h6B := hid_ (B6.out.trans b)
    have h6R := hid_ (R6.out.bel b)
    have h6P := hid_ (RP.out.bel b)
    clear b A6 B6 R6 RP
    clear o r
    go_wp2_with fail
    refine (net_any A9 n c9 (turnL l k) _ h6R.out HNA.out HZT.out).mono ?_
    rintro e w7 ⟨v, rfl, o, b⟩
    rw [HT1.out.1, HPE.out.1]
    rw [HT1.out.2, HPE.out.2] at o
    obtain ⟨Q7, cq7, rfl, _, r⟩ := o.reads
    have S7 := hid_ r
    have h7A := hid_ (h6A.out.bel b)
    have h7B := hid_ (h6B.out.trans b)
    have h7P := hid_ (h6P.out.bel b)
    have h7S6 := hid_ (S6.out.bel b)
    clear b h6A h6B h6R h6P S6
    clear o r
    go_wp2_with fail
    refine (net_any Ap (n + 1) cp (partsE ⟨y0, y1, y2⟩ part ((turnL l k).drop 1)) _ h7P.out (by have := HN5.out; omega) HZP.out).mono ?_
    rintro e w8 ⟨v, rfl, o, b⟩
    rw [HP1.out.1, ← HT.out, HT1.out.1, HPE.out.1]
    rw [HP1.out.2, ← HT.out, HT1.out.2, HPE.out.2] at o
    obtain ⟨Q8, cq8, rfl, _, r⟩ := o.reads
    have S8 := hid_ r
    have h8A := hid_ (h7A.out.bel b)
    have h8B := hid_ (h7B.out.trans b)
    have h8S6 := hid_ (h7S6.out.bel b)
    have h8S7 := hid_ (S7.out.bel b)
    clear b h7A h7B h7P h7S6 S7
    clear o r
    go_wp2_with fail
    refine (net_any Q6 _ cq6 po _ h8S6.out (by have h1 := HNL.out; have h2 := HLA.out; have h3 := HN5.out; omega) HZN.out).mono ?_
    rintro e w9 ⟨v, rfl, o, b⟩
    rw [HG1.out.1]
    rw [HG1.out.2] at o
    obtain ⟨Q9, cq9, rfl, _, r⟩ := o.reads
    have S9 := hid_ r
    have h9A := hid_ (h8A.out.bel b)
    have h9B := hid_ (h8B.out.trans b)
    have h9S6 := hid_ (h8S6.out.bel b)
    have h9S7 := hid_ (h8S7.out.bel b)
    have h9S8 := hid_ (S8.out.bel b)
    clear b h8A h8B h8S6 h8S7 S8
    clear o r
    go_wp2_with fail
    refine (sameDue_any Q6 _ cq6 po Q7 _ cq7 po _ h9S6.out h9S7.out).mono ?_
    rintro e w10 ⟨rfl, b⟩
    rw [eqB_1 (rfl : po = po)]
    have h10A := hid_ (h9A.out.bel b)
    have h10B := hid_ (h9B.out.trans b)
    have h10S6 := hid_ (h9S6.out.bel b)
    have h10S8 := hid_ (h9S8.out.bel b)
    have h10S9 := hid_ (S9.out.bel b)
    clear b h9A h9B h9S6 h9S7 h9S8 S9
    go_wp2_with fail
    refine (sameDue_any Q6 _ cq6 po Q8 _ cq8 po _ h10S6.out h10S8.out).mono ?_
    rintro e w11 ⟨rfl, b⟩
    rw [eqB_1 (rfl : po = po)]
    have h11A := hid_ (h10A.out.bel b)
    have h11B := hid_ (h10B.out.trans b)
    have h11S6 := hid_ (h10S6.out.bel b)
    have h11S9 := hid_ (h10S9.out.bel b)
    clear b h10A h10B h10S6 h10S8 h10S9
    go_wp2_with fail
    refine (sameDue_any Q6 _ cq6 po Q9 _ cq9 po _ h11S6.out h11S9.out).mono ?_
    rintro e w12 ⟨rfl, b⟩
    rw [eqB_1 (rfl : po = po)]
    have h12A := hid_ (h11A.out.bel b)
    have h12B := hid_ (h11B.out.trans b)
    have h12S6 := hid_ (h11S6.out.bel b)
    clear b h11A h11B h11S6 h11S9
    go_wp2
    go_ret
    exact ⟨rfl, h12B.out⟩
end Go.Proofs.Ytgnninpfhnpjoaa
