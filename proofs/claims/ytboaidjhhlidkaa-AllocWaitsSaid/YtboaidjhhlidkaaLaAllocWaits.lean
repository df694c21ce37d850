/- AllocWaits, walked. -/
import Derived.Test.YtboaidjhhlidkaaAl25
import Derived.Test.YtboaidjhhlidkaaAlP
import Derived.Test.YtboaidjhhlidkaaOpPool
set_option linter.unusedSimpArgs false
set_option linter.unusedVariables false
namespace Go.Proofs.Ytboaidjhhlidkaa
open Go.RowKit
theorem noneSeen (F L : List Int) (h : Int) : ∀ j : Nat, (List.replicate 501 false)[j]? = some true → (j : Int) ∉ F ∧ (j : Int) < h ∧ (j : Int) ∉ L := by
  intro j hj
  rw [List.getElem?_replicate] at hj
  split at hj <;> cases hj
theorem boolInfo : ∃ i, Try.prog.info? 4 = some i ∧ i.zero = some (.bool false) ∧ i.size = 1 ∧ i.bytes = 1 := by
  have h : (Try.prog.info? 4).map (fun i => (i.zero, i.size, i.bytes)) = some (some (.bool false), 1, 1) := by kernel_rfl
  obtain ⟨i, hi, e⟩ := Option.map_eq_some_iff.1 h
  simp only [Prod.mk.injEq] at e
  exact ⟨i, hi, e.1, e.2.1, e.2.2⟩
theorem madeOne (z : Value) (n : Nat) : madeCells #[z] n = (List.replicate n z).toArray := by
  apply Array.ext
  · simp [madeCells]
  · intro i h1 h2
    simp [madeCells, Nat.mod_one]
theorem cells501 : madeCells (Value.bool false).cells (501 * 1) = ((List.replicate 501 false).map Value.bool).toArray := by
  rw [show (Value.bool false).cells = #[Value.bool false] from rfl, madeOne, List.map_replicate]
theorem mk501 (W : World) : (Instr.makeSlice 64 (.int .i64 501) (.int .i64 501)).run Try.prog W = .ok (.slice (some ⟨W.heap.size, 0, none⟩) 501 501) (W.alloc (.cells ((List.replicate 501 false).map Value.bool).toArray 4)) := by
  obtain ⟨i, hi, hz, hs, hb⟩ := boolInfo
  have h := run_makeSlice (P := Try.prog) W 64 4 i (.bool false) (by kernel_rfl) hi hz .i64 .i64 501 501 (by omega) (by omega) (by rw [hs]; decide) (by rw [hb]; decide) (by decide)
  rw [hs] at h
  have e : ((501 : Int).toNat * 1) = 501 * 1 := rfl
  rw [e, cells501] at h
  exact h
theorem Bx.mem {W : World} {g : Nat} {t : TypeId} {vs : List Value} {ad : Addr} {v : Value} (h : Bx W g t vs) (hc : W.cell? ad = some v) (hb : ad.block = g) : v ∈ vs := by
  unfold World.cell? at hc
  unfold Bx at h
  rw [hb, h] at hc
  simp only at hc
  split at hc
  · cases hc
  · rw [List.getElem?_toArray] at hc
    exact List.mem_of_getElem? hc
theorem Row.notIn {W : World} {A : Option Addr} {n g : Nat} {t : TypeId} {vs : List Value} {xs : List Int} (h : Row intT W A n xs) (hb : Bx W g t vs) (hv : ∀ x ∈ xs, Value.int .i64 x ∉ vs) : 0 < n → ∀ ad, A = some ad → ad.block ≠ g := by
  intro hn ad e hbl
  obtain ⟨ad', x, e', hx, hc⟩ := h.int hn
  rw [e] at e'
  cases e'
  have hA0 : ad.add 0 = ad := by unfold Addr.add; simp
  rw [hA0] at hc
  exact hv x (List.mem_of_getElem? hx) (hb.mem hc hbl)
theorem Row.setFar {W : World} {A : Option Addr} {n g j : Nat} {xs : List Int} (h : Row intT W A n xs) (u : Value) (hne : 0 < n → ∀ ad, A = some ad → ad.block ≠ g) : Row intT (W.setCell ⟨g, j, none⟩ u) A n xs := by
  rcases Nat.eq_zero_or_pos n with h0 | h0
  · exact ⟨h.1, h.2.1, fun hp => absurd hp (by omega)⟩
  · exact h.far u (hne h0)
theorem notBool (x : Int) (bs : List Bool) : Value.int .i64 x ∉ bs.map Value.bool := by
  intro h
  obtain ⟨b, _, e⟩ := List.mem_map.1 h
  cases e
theorem notBox {x H : Int} {A B : Option Addr} {n c m d : Nat} (h : x ≠ H) : Value.int .i64 x ∉ [Value.int .i64 H, .slice A n c, .slice B m d] := by
  simp [h]
theorem takeF_len' (F : List Int) : (takeF F).length ≤ F.length := by cases F <;> simp [takeF]
theorem small_len (h : Int) : ∀ (l : List Int) (a : Int), l.Pairwise (· < ·) → (∀ x ∈ l, a < x ∧ x < h) → l ≠ [] → (l.length : Int) ≤ h - a - 1
  | [], _, _, _, hn => absurd rfl hn
  | [x], a, _, h2, _ => by
    have := h2 x (List.mem_cons_self ..)
    simp
    omega
  | x :: y :: l, a, h1, h2, _ => by
    obtain ⟨p1, p2⟩ := List.pairwise_cons.1 h1
    have hx := h2 x (List.mem_cons_self ..)
    have ih := small_len h (y :: l) x p2 (fun z hz => ⟨p1 z hz, (h2 z (List.mem_cons_of_mem _ hz)).2⟩) (by simp)
    rw [List.length_cons]
    omega
theorem Ok.small {h most : Int} {F L : List Int} (k : Ok h most F L) : (F.length : Int) ≤ h := by
  cases F with
  | nil => have := k.two; simp; omega
  | cons x F => have := small_len h (x :: F) 1 k.fs k.fr (by simp); omega
theorem take_step {h most : Int} {F L : List Int} (k : Ok h most F L) (hw : most ≤ 500) :
    (takeE h most F = 60 ∧ F = []) ∨ (takeE h most F = 0 ∧ ∃ kn : Nat, takeN h most F = (kn : Int) ∧ 2 ≤ kn ∧ (kn : Int) < most ∧ Ok (takeH h most F) most (takeF F) L ∧ takeL h most F L = L ∧ (∀ y ∈ takeF F, y ∈ F) ∧ (∀ y ∈ F, y = (kn : Int) ∨ y ∈ takeF F) ∧ (kn : Int) ∉ takeF F ∧ (kn : Int) ∉ L ∧ (kn : Int) < takeH h most F ∧ h ≤ takeH h most F ∧ ((kn : Int) ∈ F ∨ (kn : Int) = h) ∧ (F ≠ [] → (takeF F).length + 1 = F.length)) := by
  have h2 := k.two
  have h3 := k.top
  cases F with
  | nil =>
    by_cases hm : most ≤ h
    · exact .inl ⟨(take_full hm).2.1, rfl⟩
    · obtain ⟨t1, t2, t3⟩ := take_new (show 0 ≤ h by omega) (show h < most by omega) (by omega)
      have hk : ((h.toNat : Nat) : Int) = h := Int.toNat_of_nonneg (by omega)
      rw [t1, t2, t3]
      refine .inr ⟨rfl, h.toNat, hk.symm, by omega, by omega, k.more (by omega), takeL_new L (by omega), fun y hy => by simp [takeF] at hy, fun y hy => by simp at hy, by simp [takeF], fun e => ?_, by omega, by omega, .inr hk, fun e => absurd rfl e⟩
      rw [hk] at e
      have := k.lr h e
      omega
  | cons x F =>
    have hx := k.fr x (List.mem_cons_self ..)
    have hk : ((x.toNat : Nat) : Int) = x := Int.toNat_of_nonneg (by omega)
    have e1 : takeN h most (x :: F) = x := rfl
    have e2 : takeH h most (x :: F) = h := rfl
    have e3 : takeF (x :: F) = F := rfl
    rw [e1, e2, e3]
    refine .inr ⟨rfl, x.toNat, hk.symm, by omega, by omega, k.tail, rfl, fun y hy => List.mem_cons_of_mem _ hy, fun y hy => ?_, fun e => ?_, fun e => ?_, by omega, by omega, .inl (by rw [hk]; exact List.mem_cons_self ..), fun _ => rfl⟩
    · rw [hk]
      exact List.mem_cons.1 hy
    · rw [hk] at e
      have := (List.pairwise_cons.1 k.fs).1 x e
      omega
    · rw [hk] at e
      exact k.no x (List.mem_cons_self ..) e
set_option maxRecDepth 10000 in
set_option maxHeartbeats 8000000 in
theorem walkAllocWaits (w : World) (h : Int) (A B : Option Addr) (n c m d : Nat) (F L : List Int) (most page : Int) (hh : intWf h) (hnc : n ≤ c) (hmd : m ≤ d) (hA : Row intT w A n F) (hB : Row intT w B m L) (hF : ∀ y ∈ F, intWf y) (hL : ∀ y ∈ L, intWf y) (hmo : intWf most) (hpa : intWf page) :
    Calls Try.prog 11 #[.agg #[.int .i64 h, .slice A n c, .slice B m d], .int .i64 most, .int .i64 page] w fun e w' => e = .returned (.bool true) ∧ Bel w w' := by
  have hn63 := hA.2.1
  have hm63 := hB.2.1
  have HN := hid_ hn63
  have HM := hid_ hm63
  clear hn63 hm63
  go_enter Try.func11, Try.ntmps11
  have K0 := hid_ (Bx.new w 48 [.int .i64 h, .slice A n c, .slice B m d])
  have B0 : Hid (Bel w (w.alloc (.cells #[.int .i64 h, .slice A n c, .slice B m d] 48))) := (Bel.refl w).alloc _
  go_wp2_with fail
  refine (awake06 _).mono ?_
  rintro e w1 ⟨rfl, b1⟩
  have K1 := hid_ (K0.out.bel b1)
  have B1 := hid_ (B0.out.trans b1)
  have e0 := K1.out.cell 0 rfl
  have e1 := K1.out.cell 1 rfl
  have e2 := K1.out.cell 2 rfl
  clear K0 B0 b1
  go_wp2_with fail
  refine (few_any h A B n c m d _ HN.out HM.out).mono ?_
  rintro e w2 ⟨rfl, b2⟩
  have K2 := hid_ (K1.out.bel b2)
  have B2 := hid_ (B1.out.trans b2)
  clear K1 B1 b2 e0 e1 e2
  have e0 := K2.out.cell 0 rfl
  have e1 := K2.out.cell 1 rfl
  have e2 := K2.out.cell 2 rfl
  obtain ⟨fb, hfb⟩ : ∃ fb, fewB n m = fb := ⟨_, rfl⟩
  rw [hfb]
  have HF := hid_ hfb
  clear hfb
  cases fb
  · go_wp2
    go_ret
    exact ⟨rfl, B2.out⟩
  have hfew := few_le HF.out
  clear HF
  go_wp2_with fail
  refine (check_any h most A B n c m d F L _ (hA.bel B2.out) (hB.bel B2.out)).mono ?_
  rintro e w3 ⟨rfl, b3⟩
  have K3 := hid_ (K2.out.bel b3)
  have B3 := hid_ (B2.out.trans b3)
  clear K2 B2 b3 e0 e1 e2
  have e0 := K3.out.cell 0 rfl
  have e1 := K3.out.cell 1 rfl
  have e2 := K3.out.cell 2 rfl
  obtain ⟨ob, hob⟩ : ∃ ob, okP h most F L = ob := ⟨_, rfl⟩
  have HO := hid_ hob
  clear hob
  cases ob
  · rw [chkP_no HO.out]
    go_wp2
    go_ret
    exact ⟨rfl, B3.out⟩
  rw [chkP_yes HO.out]
  have HK : Hid (Ok h most F L) := ok_iff.1 HO.out
  clear HO
  have HFW := hid_ hfew
  clear hfew
  by_cases h500 : (500 : Int) < most
  · go_wp2
    go_ret
    exact ⟨rfl, B3.out⟩
  have H5 : Hid (most ≤ 500) := hid_ (by omega)
  have LENS := hid_ (And.intro hA.1 hB.1)
  go_wp2_with fail
  refine (give_any h page A B n c m d F L _ (hA.bel B3.out) (hB.bel B3.out) (by have := HFW.out; omega) (by have := HFW.out; omega)).mono ?_
  rintro e w4 ⟨v, rfl, ⟨A1, n1, c1, B1, m1, d1, rfl, hc1, hd1, ra, rb⟩, b⟩
  have bb := b.alloc (.cells #[.int .i64 (giveH h F L page), .slice A1 n1 c1, .slice B1 m1 d1] 48)
  have BB := hid_ (B3.out.trans bb)
  have WB4 := hid_ (B3.out.trans b).size_
  have KG := hid_ (Bx.new w4 48 [.int .i64 (giveH h F L page), .slice A1 n1 c1, .slice B1 m1 d1])
  have RA := hid_ (ra.bel ((Bel.refl w4).alloc (.cells #[.int .i64 (giveH h F L page), .slice A1 n1 c1, .slice B1 m1 d1] 48)))
  have RB := hid_ (rb.bel ((Bel.refl w4).alloc (.cells #[.int .i64 (giveH h F L page), .slice A1 n1 c1, .slice B1 m1 d1] 48)))
  clear ra rb b bb e0 e1 e2 K3 B3 h500
  obtain ⟨mb, hmb⟩ : ∃ mb, mayP h F L page = mb := ⟨_, rfl⟩
  have HMB := hid_ hmb
  clear hmb
  cases mb
  · have HG : Hid (giveE h F L page = 1) := giveE_0 HMB.out
    rw [HG.out]
    go_wp2
    go_ret
    exact ⟨rfl, BB.out⟩
  have HG : Hid (giveE h F L page = 0) := giveE_1 HMB.out
  have hH := giveH_1 HMB.out
  rw [hH] at KG RA RB BB
  rw [HG.out, hH]
  clear hH
  have q0 := KG.out.cell 0 rfl
  have q1 := KG.out.cell 1 rfl
  have q2 := KG.out.cell 2 rfl
  obtain ⟨cs, hcs⟩ : ∃ cs : List Value, (List.replicate 501 false).map Value.bool = cs := ⟨_, rfl⟩
  have hmk : ∀ W : World, (Instr.makeSlice 64 (.int .i64 501) (.int .i64 501)).run Try.prog W = .ok (.slice (some ⟨W.heap.size, 0, none⟩) 501 501) (W.alloc (.cells cs.toArray 4)) := fun W => by rw [← hcs]; exact mk501 W
  have KS0 := hid_ (Bx.new (w4.alloc (.cells #[.int .i64 h, .slice A1 n1 c1, .slice B1 m1 d1] 48)) 4 cs)
  have KQ0 := hid_ (Bx.new ((w4.alloc (.cells #[.int .i64 h, .slice A1 n1 c1, .slice B1 m1 d1] 48)).alloc (.cells cs.toArray 4)) 48 [.int .i64 h, .slice A1 n1 c1, .slice B1 m1 d1])
  have s1 := sizeAl w4 (.cells #[.int .i64 h, .slice A1 n1 c1, .slice B1 m1 d1] 48)
  have s2 := sizeAl (w4.alloc (.cells #[.int .i64 h, .slice A1 n1 c1, .slice B1 m1 d1] 48)) (.cells cs.toArray 4)
  rw [s1] at KS0 s2
  rw [s2] at KQ0
  have bb := (((Bel.refl (w4.alloc (.cells #[.int .i64 h, .slice A1 n1 c1, .slice B1 m1 d1] 48))).alloc (.cells cs.toArray 4)).alloc (.cells #[.int .i64 h, .slice A1 n1 c1, .slice B1 m1 d1] 48))
  have KS := hid_ (KS0.out.alloc (.cells #[.int .i64 h, .slice A1 n1 c1, .slice B1 m1 d1] 48))
  have RA1 := hid_ (RA.out.bel bb)
  have RB1 := hid_ (RB.out.bel bb)
  have BB1 := hid_ (BB.out.trans bb)
  have HCS := hid_ hcs
  have HOK := hid_ (HK.out.give HMB.out)
  clear s1 s2 bb KS0 RA RB BB hcs
  go_wp2_with fail
  go_loopw [12] (fun i wr => ∃ (k : Nat) (H : Int) (A : Option Addr) (n c : Nat) (B : Option Addr) (m d : Nat) (F L : List Int) (bs : List Bool), k ≤ 600 ∧ i = .int .i64 k ∧ Bx wr (w4.heap.size + 2) 48 [.int .i64 H, .slice A n c, .slice B m d] ∧ Bx wr (w4.heap.size + 1) 4 (bs.map Value.bool) ∧ bs.length = 501 ∧ Row intT wr A n F ∧ Row intT wr B m L ∧ F.length ≤ 600 ∧ L.length ≤ 601 ∧ Ok H most F L ∧ page ∈ L ∧ (∀ j : Nat, bs[j]? = some true → (j : Int) ∉ F ∧ (j : Int) < H ∧ (j : Int) ∉ L) ∧ Bel w wr) (fun i _ => 600 - (intOf i).toNat)
  case atStart => exact ⟨0, h, A1, n1, c1, B1, m1, d1, F, laidP L page, List.replicate 501 false, by omega, rfl, KQ0.out, by rw [HCS.out]; exact KS.out, by simp, by have := RA1.out; rw [giveF_1 HMB.out] at this; exact this, by have := RB1.out; rw [giveL_1 HMB.out] at this; exact this, by have := HFW.out; have := LENS.out; omega, by rw [laidP_len]; have := HFW.out; have := LENS.out; omega, HOK.out, (mem_laidP L).2 (.inl rfl), noneSeen F (laidP L page) h, BB1.out⟩
  case round =>
    clear KQ0 KS RA1 RB1 BB1 HCS HOK KG q0 q1 q2 hmk hh hnc hmd hA hB hF hL hmo hpa HN HM HK HMB HG LENS HFW hc1 hd1
    obtain ⟨k, H, Aq, nq, cq, Bq, mq, dq, Fq, Lq, bs, hk, rfl, hq, hs, hbl, ra, rb, hln, hln2, hok, hpg, hse, hbr⟩ := hrel
    have HBR := hid_ hbr
    have HPG := hid_ hpg
    have HSE := hid_ hse
    have HOK := hid_ hok
    have HBL := hid_ hbl
    have HS := hid_ hs
    have HQ := hid_ hq
    have HLN := hid_ (And.intro hln hln2)
    have RA := hid_ ra
    have RB := hid_ rb
    clear hbr hse hok hbl hs hq hln hln2 ra rb hpg
    by_cases hk6 : k < 600
    · have q0 := HQ.out.cell 0 rfl
      have q1 := HQ.out.cell 1 rfl
      have q2 := HQ.out.cell 2 rfl
      go_wp2_with fail
      refine (take_any H most Aq Bq nq cq mq dq Fq Lq _ RA.out RB.out (by have := HLN.out; have := RA.out.1; omega) (by have := HLN.out; have := RB.out.1; omega)).mono ?_
      rintro e w5 ⟨v, rfl, ⟨A2, n2, c2, B2, m2, d2, rfl, _, _, ra2, rb2⟩, b5⟩
      have hst := take_step HOK.out H5.out
      rcases hst with ⟨hE, hF⟩ | ⟨hE, kn, hN, s1, s2, s3, s4, s5, s6, s7, s8, s9, s10, s11, s12⟩
      · have HE := hid_ hE
        have bb := b5.alloc (.cells #[.int .i64 (takeH H most Fq), .slice A2 n2 c2, .slice B2 m2 d2] 48)
        have hq := HQ.out.bel bb
        have hs := HS.out.bel bb
        have ra := RA.out.bel bb
        have rb := RB.out.bel bb
        have hb := HBR.out.trans bb
        clear HQ HS RA RB
        have HQ := hid_ hq
        have HS := hid_ hs
        have RA := hid_ ra
        have RB := hid_ rb
        have HB := hid_ hb
        clear hE hF q0 q1 q2 ra2 rb2 b5 bb hq hs ra rb hb HBR
        have HLN' := HLN
        clear HLN
        have HLN : Hid (nq ≤ 600 ∧ mq ≤ 601) := ⟨by rw [← RA.out.1]; exact HLN'.out.1, by rw [← RB.out.1]; exact HLN'.out.2⟩
        rw [HE.out]
        clear HLN'
        have q0 := HQ.out.cell 0 rfl
        have q1 := HQ.out.cell 1 rfl
        have q2 := HQ.out.cell 2 rfl
        go_wp2_with fail
        refine (turn_any H Aq Bq nq cq mq dq Fq Lq _ RA.out RB.out (by have := HLN.out; omega) (by have := HLN.out; omega)).mono ?_
        rintro e w7 ⟨v, rfl, ⟨A3, n3, c3, B3, m3, d3, rfl, _, _, ra3, rb3⟩, b7⟩
        have bb7 := b7.alloc (.cells #[.int .i64 H, .slice A3 n3 c3, .slice B3 m3 d3] 48)
        have TT := hid_ (Bx.new w7 48 [.int .i64 H, .slice A3 n3 c3, .slice B3 m3 d3])
        have TS := hid_ (HS.out.bel bb7)
        have TB := hid_ (HB.out.trans bb7)
        have TA := hid_ (ra3.bel ((Bel.refl w7).alloc (.cells #[.int .i64 H, .slice A3 n3 c3, .slice B3 m3 d3] 48)))
        have TR := hid_ (rb3.bel ((Bel.refl w7).alloc (.cells #[.int .i64 H, .slice A3 n3 c3, .slice B3 m3 d3] 48)))
        have TOK := hid_ HOK.out.turn
        have TPG : Hid (page ∈ turnP Fq Lq) := (mem_turnP Lq Fq).2 (.inr HPG.out)
        have TSE : Hid (∀ j : Nat, bs[j]? = some true → (j : Int) ∉ turnP Fq Lq ∧ (j : Int) < H) := fun j hj => ⟨fun e => ((mem_turnP Lq Fq).1 e).elim (HSE.out j hj).1 (HSE.out j hj).2.2, (HSE.out j hj).2.1⟩
        have TLN : Hid ((turnP Fq Lq).length ≤ 600) := hid_ (by have h1 := Ok.small TOK.out; have h2 := TOK.out.top; have h3 := H5.out; omega)
        have TW : Hid (w4.heap.size + 1 < w7.heap.size) := hid_ ((HS.out.bel b7).lt)
        have TWW : Hid (w.heap.size ≤ w7.heap.size) := (HB.out.trans b7).size_
        clear q0 q1 q2 HQ HS RA RB HB HSE HPG HOK HLN ra3 rb3 b7 bb7
        go_wp2_with fail
        go_loopw [17, 18] (fun g17 i wr => ∃ (k : Nat) (H : Int) (A : Option Addr) (n c : Nat) (B : Option Addr) (m d : Nat) (F : List Int) (bs : List Bool) (gb : Bool), k ≤ 600 ∧ i = .int .i64 k ∧ g17 = .bool gb ∧ Bx wr w7.heap.size 48 [.int .i64 H, .slice A n c, .slice B m d] ∧ Bx wr (w4.heap.size + 1) 4 (bs.map Value.bool) ∧ bs.length = 501 ∧ Row intT wr A n F ∧ Row intT wr B m [] ∧ F.length ≤ 600 ∧ Ok H most F [] ∧ (gb = true ∨ (page ∈ F ∧ F.length + k ≤ 600)) ∧ (∀ j : Nat, bs[j]? = some true → (j : Int) ∉ F ∧ (j : Int) < H) ∧ Bel w wr) (fun _ i _ => 600 - (intOf i).toNat)
        case atStart => exact ⟨0, H, A3, n3, c3, B3, m3, d3, turnP Fq Lq, bs, false, by omega, rfl, rfl, TT.out, TS.out, HBL.out, TA.out, TR.out, TLN.out, TOK.out, .inr ⟨TPG.out, TLN.out⟩, TSE.out, TB.out⟩
        case round =>
          clear TT TS TB TA TR TOK TPG TSE TLN HBL
          obtain ⟨k, H, Aq, nq, cq, Bq, mq, dq, Fq, bs, gb, hk, rfl, rfl, hq, hs, hbl, ra, rb, hln, hok, hgb, hse, hbr⟩ := hrel
          have HGB := hid_ hgb
          have HBR := hid_ hbr
          have HSE := hid_ hse
          have HOK := hid_ hok
          have HBL := hid_ hbl
          have HS := hid_ hs
          have HQ := hid_ hq
          have HLN := hid_ hln
          have RA := hid_ ra
          have RB := hid_ rb
          clear hgb hbr hse hok hbl hs hq hln ra rb
          by_cases hk6 : k < 600
          · have q0 := HQ.out.cell 0 rfl
            have q1 := HQ.out.cell 1 rfl
            have q2 := HQ.out.cell 2 rfl
            go_wp2_with fail
            refine (take_any H most Aq Bq nq cq mq dq Fq [] _ RA.out RB.out (by have := HLN.out; have := RA.out.1; omega) (by have := RB.out.1; simp at this; omega)).mono ?_
            rintro e w8 ⟨v, rfl, ⟨A2, n2, c2, B2, m2, d2, rfl, _, _, ra2, rb2⟩, b8⟩
            have hst := take_step HOK.out H5.out
            rcases hst with ⟨hE, hF⟩ | ⟨hE, kn, hN, s1, s2, s3, s4, s5, s6, s7, s8, s9, s10, s11, s12⟩
            · have HE := hid_ hE
              have hgt : gb = true := by
                rcases HGB.out with h | ⟨h, _⟩
                · exact h
                · rw [hF] at h; simp at h
              have FB := hid_ (HBR.out.trans (b8.alloc (.cells #[.int .i64 (takeH H most Fq), .slice A2 n2 c2, .slice B2 m2 d2] 48)))
              clear hE hF q0 q1 q2 ra2 rb2 b8
              rw [HE.out, hgt]
              clear hgt HGB
              go_wp2
              go_ret
              exact ⟨rfl, FB.out⟩
            · have HE := hid_ hE
              have HNN := hid_ hN
              have kb : kn < 501 := by have := H5.out; omega
              have kbi : (kn : Int) < 501 := by omega
              have u1 : ¬ ((kn : Int) < 2) := by omega
              have u2 : ¬ (most ≤ (kn : Int)) := by omega
              have hcell : bs[kn]? = some false := by
                have hl : kn < bs.length := by rw [HBL.out]; exact kb
                rw [List.getElem?_eq_getElem hl]
                cases hv : bs[kn] with
                | false => rfl
                | true =>
                  exfalso
                  have h1 := HSE.out kn (by rw [List.getElem?_eq_getElem hl, hv])
                  rcases s11 with h2 | h2
                  · exact h1.1 h2
                  · have := h1.2; omega
              have bb := b8.alloc (.cells #[.int .i64 (takeH H most Fq), .slice A2 n2 c2, .slice B2 m2 d2] 48)
              have GN := hid_ (Bx.new w8 48 [.int .i64 (takeH H most Fq), .slice A2 n2 c2, .slice B2 m2 d2])
              have GS := hid_ (HS.out.bel bb)
              have GQ := hid_ (HQ.out.bel bb)
              have GB := hid_ (HBR.out.trans bb)
              have xa := ra2.bel ((Bel.refl w8).alloc (.cells #[.int .i64 (takeH H most Fq), .slice A2 n2 c2, .slice B2 m2 d2] 48))
              have xb := rb2.bel ((Bel.refl w8).alloc (.cells #[.int .i64 (takeH H most Fq), .slice A2 n2 c2, .slice B2 m2 d2] 48))
              rw [s4] at xb
              have na := xa.notIn GS.out (fun x _ => notBool x bs)
              have nb := xb.notIn GS.out (fun x _ => notBool x bs)
              have ma := xa.notIn GQ.out (fun x hx => notBox (by have := HOK.out.fr x (s5 x hx); omega))
              have mb := xb.notIn GQ.out (fun x hx => notBox (by simp at hx))
              have XA := hid_ xa
              have XB := hid_ xb
              have XN := hid_ (And.intro na (And.intro nb (And.intro ma mb)))
              have hsl := GS.out.lt
              have hql := GQ.out.lt
              have NE1 : Hid (w4.heap.size + 1 ≠ w7.heap.size) := hid_ (by have := TW.out; omega)
              have WLT : Hid (w4.heap.size + 1 < w8.heap.size ∧ w7.heap.size < w8.heap.size) := hid_ ⟨(HS.out.bel b8).lt, (HQ.out.bel b8).lt⟩
              have c0 := GS.out.cell kn (v := .bool false) (by rw [List.getElem?_map, hcell]; rfl)
              have hadd : (⟨w4.heap.size + 1, 0, none⟩ : Addr).add kn = ⟨w4.heap.size + 1, kn, none⟩ := add0 _ _
              have f0 := fun j => GS.out.frozen j
              have GQ1 := hid_ (GQ.out.far (j := kn) (fun e => NE1.out e.symm) (.bool true))
              have GN1 := hid_ (GN.out.far (j := kn) (show w8.heap.size ≠ w4.heap.size + 1 from Nat.ne_of_gt WLT.out.1) (.bool true))
              have n0 := GN1.out.cell 0 rfl
              have n1 := GN1.out.cell 1 rfl
              have n2' := GN1.out.cell 2 rfl
              have z0 := GQ1.out.cell 0 rfl
              have z1 := GQ1.out.cell 1 rfl
              have z2 := GQ1.out.cell 2 rfl
              have f1 := fun j => GQ1.out.frozen j
              have HSE2 : Hid (∀ j : Nat, (bs.set kn true)[j]? = some true → (j : Int) ∉ takeF Fq ∧ (j : Int) < takeH H most Fq) := by
                intro j hj
                rcases Nat.decEq kn j with h | h
                · rw [List.getElem?_set_ne h] at hj
                  have h1 := HSE.out j hj
                  exact ⟨fun e => h1.1 (s5 _ e), by have := h1.2; omega⟩
                · subst h
                  exact ⟨s7, s9⟩
              have HBL2 : Hid ((bs.set kn true).length = 501) := hid_ (by rw [List.length_set]; exact HBL.out)
              have HS3 := hid_ s3
              have HS5 := hid_ s5
              have HS6 := hid_ s6
              have HS12 := hid_ s12
              have HFL : Hid ((takeF Fq).length ≤ 600) := hid_ (by have := takeF_len' Fq; have := HLN.out; omega)
              clear hE hN kb hcell bb xa xb na nb ma mb hsl hql s3 s4 s5 s6 s7 s8 s9 s10 s11 s12 GN GQ1 GN1 ra2 rb2 b8 q0 q1 q2 s1 s2 HSE HOK HBL HS HQ RA RB HBR
              rw [HE.out, HNN.out]
              cases gb
              · have hpf : page ∈ Fq ∧ Fq.length + k ≤ 600 := by
                  rcases HGB.out with h | h
                  · cases h
                  · exact h
                by_cases hp : (kn : Int) = page
                · have u4 : ((kn : Int) == page) = true := by simp [hp]
                  clear hpf hp HGB
                  go_wp2
                  case roundEnd =>
                    go_roundw
                    case rel =>
                      have GS1 := GS.out.set kn (.bool true)
                      have GQ1 := GQ.out.far (j := kn) (fun e => NE1.out e.symm) (.bool true)
                      have GB1 := GB.out.setBx (j := kn) (show w.heap.size ≤ w4.heap.size + 1 from Nat.le_succ_of_le WB4.out) (.bool true)
                      have xa1 := XA.out.setFar (j := kn) (.bool true) XN.out.1
                      have xb1 := XB.out.setFar (j := kn) (.bool true) XN.out.2.1
                      have ma := XN.out.2.2.1
                      have mb := XN.out.2.2.2
                      have GQ2 := (((GQ1.set 0 (.int .i64 (takeH H most Fq))).set 1 (.slice A2 n2 c2)).set 2 (.slice B2 m2 d2))
                      have GS2 := (((GS1.far (j := 0) NE1.out (.int .i64 (takeH H most Fq))).far (j := 1) NE1.out (.slice A2 n2 c2)).far (j := 2) NE1.out (.slice B2 m2 d2))
                      have GB2 := (((GB1.setBx (j := 0) (TWW.out) (.int .i64 (takeH H most Fq))).setBx (j := 1) (TWW.out) (.slice A2 n2 c2)).setBx (j := 2) (TWW.out) (.slice B2 m2 d2))
                      have xa2 := (((xa1.setFar (j := 0) (.int .i64 (takeH H most Fq)) ma).setFar (j := 1) (.slice A2 n2 c2) ma).setFar (j := 2) (.slice B2 m2 d2) ma)
                      have xb2 := (((xb1.setFar (j := 0) (.int .i64 (takeH H most Fq)) mb).setFar (j := 1) (.slice A2 n2 c2) mb).setFar (j := 2) (.slice B2 m2 d2) mb)
                      exact ⟨k + 1, takeH H most Fq, A2, n2, c2, B2, m2, d2, takeF Fq, bs.set kn true, true, by omega, by go_num, rfl, GQ2, by rw [List.map_set]; exact GS2, HBL2.out, xa2, xb2, HFL.out, HS3.out, .inl rfl, HSE2.out, GB2⟩
                    case measure => simp [intOf]; omega
                · have u4 : ((kn : Int) == page) = false := by simp [hp]
                  have hpf2 : Hid (page ∈ takeF Fq ∧ (takeF Fq).length + (k + 1) ≤ 600) := by
                    refine ⟨(HS6.out page hpf.1).elim (fun e => absurd e.symm hp) id, ?_⟩
                    have := HS12.out (fun e => by rw [e] at hpf; simp at hpf)
                    omega
                  clear hpf hp HGB
                  go_wp2
                  case roundEnd =>
                    go_roundw
                    case rel =>
                      have GS1 := GS.out.set kn (.bool true)
                      have GQ1 := GQ.out.far (j := kn) (fun e => NE1.out e.symm) (.bool true)
                      have GB1 := GB.out.setBx (j := kn) (show w.heap.size ≤ w4.heap.size + 1 from Nat.le_succ_of_le WB4.out) (.bool true)
                      have xa1 := XA.out.setFar (j := kn) (.bool true) XN.out.1
                      have xb1 := XB.out.setFar (j := kn) (.bool true) XN.out.2.1
                      have ma := XN.out.2.2.1
                      have mb := XN.out.2.2.2
                      have GQ2 := (((GQ1.set 0 (.int .i64 (takeH H most Fq))).set 1 (.slice A2 n2 c2)).set 2 (.slice B2 m2 d2))
                      have GS2 := (((GS1.far (j := 0) NE1.out (.int .i64 (takeH H most Fq))).far (j := 1) NE1.out (.slice A2 n2 c2)).far (j := 2) NE1.out (.slice B2 m2 d2))
                      have GB2 := (((GB1.setBx (j := 0) (TWW.out) (.int .i64 (takeH H most Fq))).setBx (j := 1) (TWW.out) (.slice A2 n2 c2)).setBx (j := 2) (TWW.out) (.slice B2 m2 d2))
                      have xa2 := (((xa1.setFar (j := 0) (.int .i64 (takeH H most Fq)) ma).setFar (j := 1) (.slice A2 n2 c2) ma).setFar (j := 2) (.slice B2 m2 d2) ma)
                      have xb2 := (((xb1.setFar (j := 0) (.int .i64 (takeH H most Fq)) mb).setFar (j := 1) (.slice A2 n2 c2) mb).setFar (j := 2) (.slice B2 m2 d2) mb)
                      exact ⟨k + 1, takeH H most Fq, A2, n2, c2, B2, m2, d2, takeF Fq, bs.set kn true, false, by omega, by go_num, rfl, GQ2, by rw [List.map_set]; exact GS2, HBL2.out, xa2, xb2, HFL.out, HS3.out, .inr hpf2.out, HSE2.out, GB2⟩
                    case measure => simp [intOf]; omega
              · clear HGB
                go_wp2
                case roundEnd =>
                  go_roundw
                  case rel =>
                    have GS1 := GS.out.set kn (.bool true)
                    have GQ1 := GQ.out.far (j := kn) (fun e => NE1.out e.symm) (.bool true)
                    have GB1 := GB.out.setBx (j := kn) (show w.heap.size ≤ w4.heap.size + 1 from Nat.le_succ_of_le WB4.out) (.bool true)
                    have xa1 := XA.out.setFar (j := kn) (.bool true) XN.out.1
                    have xb1 := XB.out.setFar (j := kn) (.bool true) XN.out.2.1
                    have ma := XN.out.2.2.1
                    have mb := XN.out.2.2.2
                    have GQ2 := (((GQ1.set 0 (.int .i64 (takeH H most Fq))).set 1 (.slice A2 n2 c2)).set 2 (.slice B2 m2 d2))
                    have GS2 := (((GS1.far (j := 0) NE1.out (.int .i64 (takeH H most Fq))).far (j := 1) NE1.out (.slice A2 n2 c2)).far (j := 2) NE1.out (.slice B2 m2 d2))
                    have GB2 := (((GB1.setBx (j := 0) (TWW.out) (.int .i64 (takeH H most Fq))).setBx (j := 1) (TWW.out) (.slice A2 n2 c2)).setBx (j := 2) (TWW.out) (.slice B2 m2 d2))
                    have xa2 := (((xa1.setFar (j := 0) (.int .i64 (takeH H most Fq)) ma).setFar (j := 1) (.slice A2 n2 c2) ma).setFar (j := 2) (.slice B2 m2 d2) ma)
                    have xb2 := (((xb1.setFar (j := 0) (.int .i64 (takeH H most Fq)) mb).setFar (j := 1) (.slice A2 n2 c2) mb).setFar (j := 2) (.slice B2 m2 d2) mb)
                    exact ⟨k + 1, takeH H most Fq, A2, n2, c2, B2, m2, d2, takeF Fq, bs.set kn true, true, by omega, by go_num, rfl, GQ2, by rw [List.map_set]; exact GS2, HBL2.out, xa2, xb2, HFL.out, HS3.out, .inl rfl, HSE2.out, GB2⟩
                  case measure => simp [intOf]; omega
          · have hk6' : k = 600 := by omega
            subst hk6'
            have hgt : gb = true := by
              rcases HGB.out with h | ⟨h, h'⟩
              · exact h
              · have := List.length_pos_of_mem h; omega
            rw [hgt]
            clear hgt HGB
            go_wp2
            go_ret
            exact ⟨rfl, HBR.out⟩
      · have HE := hid_ hE
        have HNN := hid_ hN
        have kb : kn < 501 := by have := H5.out; omega
        have kbi : (kn : Int) < 501 := by omega
        have u1 : ¬ ((kn : Int) < 2) := by omega
        have u2 : ¬ (most ≤ (kn : Int)) := by omega
        have hcell : bs[kn]? = some false := by
          have hl : kn < bs.length := by rw [HBL.out]; exact kb
          rw [List.getElem?_eq_getElem hl]
          cases hv : bs[kn] with
          | false => rfl
          | true =>
            exfalso
            have h1 := HSE.out kn (by rw [List.getElem?_eq_getElem hl, hv])
            rcases s11 with h2 | h2
            · exact h1.1 h2
            · have := h1.2.1; omega
        have u3 : ((kn : Int) == page) = false := by
          have : (kn : Int) ≠ page := fun e => s8 (e ▸ HPG.out)
          simp [this]
        have bb := b5.alloc (.cells #[.int .i64 (takeH H most Fq), .slice A2 n2 c2, .slice B2 m2 d2] 48)
        have GN := hid_ (Bx.new w5 48 [.int .i64 (takeH H most Fq), .slice A2 n2 c2, .slice B2 m2 d2])
        have GS := hid_ (HS.out.bel bb)
        have GQ := hid_ (HQ.out.bel bb)
        have GB := hid_ (HBR.out.trans bb)
        have xa := ra2.bel ((Bel.refl w5).alloc (.cells #[.int .i64 (takeH H most Fq), .slice A2 n2 c2, .slice B2 m2 d2] 48))
        have xb := rb2.bel ((Bel.refl w5).alloc (.cells #[.int .i64 (takeH H most Fq), .slice A2 n2 c2, .slice B2 m2 d2] 48))
        rw [s4] at xb
        have na := xa.notIn GS.out (fun x _ => notBool x bs)
        have nb := xb.notIn GS.out (fun x _ => notBool x bs)
        have ma := xa.notIn GQ.out (fun x hx => notBox (by have := HOK.out.fr x (s5 x hx); omega))
        have mb := xb.notIn GQ.out (fun x hx => notBox (by have := HOK.out.lr x hx; omega))
        have XA := hid_ xa
        have XB := hid_ xb
        have XN := hid_ (And.intro na (And.intro nb (And.intro ma mb)))
        have hsl := GS.out.lt
        have hql := GQ.out.lt
        have NE1 : Hid (w4.heap.size + 1 ≠ (w4.heap.size + 2)) := hid_ (by omega)
        have WLT : Hid (w4.heap.size + 1 < w5.heap.size ∧ (w4.heap.size + 2) < w5.heap.size) := hid_ ⟨(HS.out.bel b5).lt, (HQ.out.bel b5).lt⟩
        have c0 := GS.out.cell kn (v := .bool false) (by rw [List.getElem?_map, hcell]; rfl)
        have hadd : (⟨w4.heap.size + 1, 0, none⟩ : Addr).add kn = ⟨w4.heap.size + 1, kn, none⟩ := add0 _ _
        have f0 := fun j => GS.out.frozen j
        have GQ1 := hid_ (GQ.out.far (j := kn) (fun e => NE1.out e.symm) (.bool true))
        have GN1 := hid_ (GN.out.far (j := kn) (show w5.heap.size ≠ w4.heap.size + 1 from Nat.ne_of_gt WLT.out.1) (.bool true))
        have n0 := GN1.out.cell 0 rfl
        have n1 := GN1.out.cell 1 rfl
        have n2' := GN1.out.cell 2 rfl
        have z0 := GQ1.out.cell 0 rfl
        have z1 := GQ1.out.cell 1 rfl
        have z2 := GQ1.out.cell 2 rfl
        have f1 := fun j => GQ1.out.frozen j
        have HSE2 : Hid (∀ j : Nat, (bs.set kn true)[j]? = some true → (j : Int) ∉ takeF Fq ∧ (j : Int) < takeH H most Fq ∧ (j : Int) ∉ Lq) := by
          intro j hj
          rcases Nat.decEq kn j with h | h
          · rw [List.getElem?_set_ne h] at hj
            have h1 := HSE.out j hj
            exact ⟨fun e => h1.1 (s5 _ e), by have := h1.2.1; omega, h1.2.2⟩
          · subst h
            exact ⟨s7, s9, s8⟩
        have HBL2 : Hid ((bs.set kn true).length = 501) := hid_ (by rw [List.length_set]; exact HBL.out)
        have HS3 := hid_ s3
        have HS5 := hid_ s5
        have HS6 := hid_ s6
        have HS12 := hid_ s12
        have HFL : Hid ((takeF Fq).length ≤ 600) := hid_ (by have := takeF_len' Fq; have := HLN.out; omega)
        clear hE hN kb hcell bb xa xb na nb ma mb hsl hql s3 s4 s5 s6 s7 s8 s9 s10 s11 s12 GN GQ1 GN1 ra2 rb2 b5 q0 q1 q2 s1 s2 HSE HOK HBL HS HQ RA RB HBR
        rw [HE.out, HNN.out]
        go_wp2
        case roundEnd =>
          go_roundw
          case rel =>
            have GS1 := GS.out.set kn (.bool true)
            have GQ1 := GQ.out.far (j := kn) (fun e => NE1.out e.symm) (.bool true)
            have GB1 := GB.out.setBx (j := kn) (show w.heap.size ≤ w4.heap.size + 1 from Nat.le_succ_of_le WB4.out) (.bool true)
            have xa1 := XA.out.setFar (j := kn) (.bool true) XN.out.1
            have xb1 := XB.out.setFar (j := kn) (.bool true) XN.out.2.1
            have ma := XN.out.2.2.1
            have mb := XN.out.2.2.2
            have GQ2 := (((GQ1.set 0 (.int .i64 (takeH H most Fq))).set 1 (.slice A2 n2 c2)).set 2 (.slice B2 m2 d2))
            have GS2 := (((GS1.far (j := 0) NE1.out (.int .i64 (takeH H most Fq))).far (j := 1) NE1.out (.slice A2 n2 c2)).far (j := 2) NE1.out (.slice B2 m2 d2))
            have GB2 := (((GB1.setBx (j := 0) (show w.heap.size ≤ w4.heap.size + 2 from Nat.le_add_right_of_le WB4.out) (.int .i64 (takeH H most Fq))).setBx (j := 1) (show w.heap.size ≤ w4.heap.size + 2 from Nat.le_add_right_of_le WB4.out) (.slice A2 n2 c2)).setBx (j := 2) (show w.heap.size ≤ w4.heap.size + 2 from Nat.le_add_right_of_le WB4.out) (.slice B2 m2 d2))
            have xa2 := (((xa1.setFar (j := 0) (.int .i64 (takeH H most Fq)) ma).setFar (j := 1) (.slice A2 n2 c2) ma).setFar (j := 2) (.slice B2 m2 d2) ma)
            have xb2 := (((xb1.setFar (j := 0) (.int .i64 (takeH H most Fq)) mb).setFar (j := 1) (.slice A2 n2 c2) mb).setFar (j := 2) (.slice B2 m2 d2) mb)
            exact ⟨k + 1, takeH H most Fq, A2, n2, c2, B2, m2, d2, takeF Fq, Lq, bs.set kn true, by omega, by go_num, GQ2, by rw [List.map_set]; exact GS2, HBL2.out, xa2, xb2, HFL.out, HLN.out.2, HS3.out, HPG.out, HSE2.out, GB2⟩
          case measure => simp [intOf]; omega
    · have hk6' : k = 600 := by omega
      subst hk6'
      have HB := HBR
      have HLN' := HLN
      clear HLN HBR
      have HLN : Hid (nq ≤ 600 ∧ mq ≤ 601) := ⟨by rw [← RA.out.1]; exact HLN'.out.1, by rw [← RB.out.1]; exact HLN'.out.2⟩
      clear HLN'
      have q0 := HQ.out.cell 0 rfl
      have q1 := HQ.out.cell 1 rfl
      have q2 := HQ.out.cell 2 rfl
      go_wp2_with fail
      refine (turn_any H Aq Bq nq cq mq dq Fq Lq _ RA.out RB.out (by have := HLN.out; omega) (by have := HLN.out; omega)).mono ?_
      rintro e w7 ⟨v, rfl, ⟨A3, n3, c3, B3, m3, d3, rfl, _, _, ra3, rb3⟩, b7⟩
      have bb7 := b7.alloc (.cells #[.int .i64 H, .slice A3 n3 c3, .slice B3 m3 d3] 48)
      have TT := hid_ (Bx.new w7 48 [.int .i64 H, .slice A3 n3 c3, .slice B3 m3 d3])
      have TS := hid_ (HS.out.bel bb7)
      have TB := hid_ (HB.out.trans bb7)
      have TA := hid_ (ra3.bel ((Bel.refl w7).alloc (.cells #[.int .i64 H, .slice A3 n3 c3, .slice B3 m3 d3] 48)))
      have TR := hid_ (rb3.bel ((Bel.refl w7).alloc (.cells #[.int .i64 H, .slice A3 n3 c3, .slice B3 m3 d3] 48)))
      have TOK := hid_ HOK.out.turn
      have TPG : Hid (page ∈ turnP Fq Lq) := (mem_turnP Lq Fq).2 (.inr HPG.out)
      have TSE : Hid (∀ j : Nat, bs[j]? = some true → (j : Int) ∉ turnP Fq Lq ∧ (j : Int) < H) := fun j hj => ⟨fun e => ((mem_turnP Lq Fq).1 e).elim (HSE.out j hj).1 (HSE.out j hj).2.2, (HSE.out j hj).2.1⟩
      have TLN : Hid ((turnP Fq Lq).length ≤ 600) := hid_ (by have h1 := Ok.small TOK.out; have h2 := TOK.out.top; have h3 := H5.out; omega)
      have TW : Hid (w4.heap.size + 1 < w7.heap.size) := hid_ ((HS.out.bel b7).lt)
      have TWW : Hid (w.heap.size ≤ w7.heap.size) := (HB.out.trans b7).size_
      clear q0 q1 q2 HQ HS RA RB HB HSE HPG HOK HLN ra3 rb3 b7 bb7
      go_wp2_with fail
      go_loopw [17, 18] (fun g17 i wr => ∃ (k : Nat) (H : Int) (A : Option Addr) (n c : Nat) (B : Option Addr) (m d : Nat) (F : List Int) (bs : List Bool) (gb : Bool), k ≤ 600 ∧ i = .int .i64 k ∧ g17 = .bool gb ∧ Bx wr w7.heap.size 48 [.int .i64 H, .slice A n c, .slice B m d] ∧ Bx wr (w4.heap.size + 1) 4 (bs.map Value.bool) ∧ bs.length = 501 ∧ Row intT wr A n F ∧ Row intT wr B m [] ∧ F.length ≤ 600 ∧ Ok H most F [] ∧ (gb = true ∨ (page ∈ F ∧ F.length + k ≤ 600)) ∧ (∀ j : Nat, bs[j]? = some true → (j : Int) ∉ F ∧ (j : Int) < H) ∧ Bel w wr) (fun _ i _ => 600 - (intOf i).toNat)
      case atStart => exact ⟨0, H, A3, n3, c3, B3, m3, d3, turnP Fq Lq, bs, false, by omega, rfl, rfl, TT.out, TS.out, HBL.out, TA.out, TR.out, TLN.out, TOK.out, .inr ⟨TPG.out, TLN.out⟩, TSE.out, TB.out⟩
      case round =>
        clear TT TS TB TA TR TOK TPG TSE TLN HBL
        obtain ⟨k, H, Aq, nq, cq, Bq, mq, dq, Fq, bs, gb, hk, rfl, rfl, hq, hs, hbl, ra, rb, hln, hok, hgb, hse, hbr⟩ := hrel
        have HGB := hid_ hgb
        have HBR := hid_ hbr
        have HSE := hid_ hse
        have HOK := hid_ hok
        have HBL := hid_ hbl
        have HS := hid_ hs
        have HQ := hid_ hq
        have HLN := hid_ hln
        have RA := hid_ ra
        have RB := hid_ rb
        clear hgb hbr hse hok hbl hs hq hln ra rb
        by_cases hk6 : k < 600
        · have q0 := HQ.out.cell 0 rfl
          have q1 := HQ.out.cell 1 rfl
          have q2 := HQ.out.cell 2 rfl
          go_wp2_with fail
          refine (take_any H most Aq Bq nq cq mq dq Fq [] _ RA.out RB.out (by have := HLN.out; have := RA.out.1; omega) (by have := RB.out.1; simp at this; omega)).mono ?_
          rintro e w8 ⟨v, rfl, ⟨A2, n2, c2, B2, m2, d2, rfl, _, _, ra2, rb2⟩, b8⟩
          have hst := take_step HOK.out H5.out
          rcases hst with ⟨hE, hF⟩ | ⟨hE, kn, hN, s1, s2, s3, s4, s5, s6, s7, s8, s9, s10, s11, s12⟩
          · have HE := hid_ hE
            have hgt : gb = true := by
              rcases HGB.out with h | ⟨h, _⟩
              · exact h
              · rw [hF] at h; simp at h
            have FB := hid_ (HBR.out.trans (b8.alloc (.cells #[.int .i64 (takeH H most Fq), .slice A2 n2 c2, .slice B2 m2 d2] 48)))
            clear hE hF q0 q1 q2 ra2 rb2 b8
            rw [HE.out, hgt]
            clear hgt HGB
            go_wp2
            go_ret
            exact ⟨rfl, FB.out⟩
          · have HE := hid_ hE
            have HNN := hid_ hN
            have kb : kn < 501 := by have := H5.out; omega
            have kbi : (kn : Int) < 501 := by omega
            have u1 : ¬ ((kn : Int) < 2) := by omega
            have u2 : ¬ (most ≤ (kn : Int)) := by omega
            have hcell : bs[kn]? = some false := by
              have hl : kn < bs.length := by rw [HBL.out]; exact kb
              rw [List.getElem?_eq_getElem hl]
              cases hv : bs[kn] with
              | false => rfl
              | true =>
                exfalso
                have h1 := HSE.out kn (by rw [List.getElem?_eq_getElem hl, hv])
                rcases s11 with h2 | h2
                · exact h1.1 h2
                · have := h1.2; omega
            have bb := b8.alloc (.cells #[.int .i64 (takeH H most Fq), .slice A2 n2 c2, .slice B2 m2 d2] 48)
            have GN := hid_ (Bx.new w8 48 [.int .i64 (takeH H most Fq), .slice A2 n2 c2, .slice B2 m2 d2])
            have GS := hid_ (HS.out.bel bb)
            have GQ := hid_ (HQ.out.bel bb)
            have GB := hid_ (HBR.out.trans bb)
            have xa := ra2.bel ((Bel.refl w8).alloc (.cells #[.int .i64 (takeH H most Fq), .slice A2 n2 c2, .slice B2 m2 d2] 48))
            have xb := rb2.bel ((Bel.refl w8).alloc (.cells #[.int .i64 (takeH H most Fq), .slice A2 n2 c2, .slice B2 m2 d2] 48))
            rw [s4] at xb
            have na := xa.notIn GS.out (fun x _ => notBool x bs)
            have nb := xb.notIn GS.out (fun x _ => notBool x bs)
            have ma := xa.notIn GQ.out (fun x hx => notBox (by have := HOK.out.fr x (s5 x hx); omega))
            have mb := xb.notIn GQ.out (fun x hx => notBox (by simp at hx))
            have XA := hid_ xa
            have XB := hid_ xb
            have XN := hid_ (And.intro na (And.intro nb (And.intro ma mb)))
            have hsl := GS.out.lt
            have hql := GQ.out.lt
            have NE1 : Hid (w4.heap.size + 1 ≠ w7.heap.size) := hid_ (by have := TW.out; omega)
            have WLT : Hid (w4.heap.size + 1 < w8.heap.size ∧ w7.heap.size < w8.heap.size) := hid_ ⟨(HS.out.bel b8).lt, (HQ.out.bel b8).lt⟩
            have c0 := GS.out.cell kn (v := .bool false) (by rw [List.getElem?_map, hcell]; rfl)
            have hadd : (⟨w4.heap.size + 1, 0, none⟩ : Addr).add kn = ⟨w4.heap.size + 1, kn, none⟩ := add0 _ _
            have f0 := fun j => GS.out.frozen j
            have GQ1 := hid_ (GQ.out.far (j := kn) (fun e => NE1.out e.symm) (.bool true))
            have GN1 := hid_ (GN.out.far (j := kn) (show w8.heap.size ≠ w4.heap.size + 1 from Nat.ne_of_gt WLT.out.1) (.bool true))
            have n0 := GN1.out.cell 0 rfl
            have n1 := GN1.out.cell 1 rfl
            have n2' := GN1.out.cell 2 rfl
            have z0 := GQ1.out.cell 0 rfl
            have z1 := GQ1.out.cell 1 rfl
            have z2 := GQ1.out.cell 2 rfl
            have f1 := fun j => GQ1.out.frozen j
            have HSE2 : Hid (∀ j : Nat, (bs.set kn true)[j]? = some true → (j : Int) ∉ takeF Fq ∧ (j : Int) < takeH H most Fq) := by
              intro j hj
              rcases Nat.decEq kn j with h | h
              · rw [List.getElem?_set_ne h] at hj
                have h1 := HSE.out j hj
                exact ⟨fun e => h1.1 (s5 _ e), by have := h1.2; omega⟩
              · subst h
                exact ⟨s7, s9⟩
            have HBL2 : Hid ((bs.set kn true).length = 501) := hid_ (by rw [List.length_set]; exact HBL.out)
            have HS3 := hid_ s3
            have HS5 := hid_ s5
            have HS6 := hid_ s6
            have HS12 := hid_ s12
            have HFL : Hid ((takeF Fq).length ≤ 600) := hid_ (by have := takeF_len' Fq; have := HLN.out; omega)
            clear hE hN kb hcell bb xa xb na nb ma mb hsl hql s3 s4 s5 s6 s7 s8 s9 s10 s11 s12 GN GQ1 GN1 ra2 rb2 b8 q0 q1 q2 s1 s2 HSE HOK HBL HS HQ RA RB HBR
            rw [HE.out, HNN.out]
            cases gb
            · have hpf : page ∈ Fq ∧ Fq.length + k ≤ 600 := by
                rcases HGB.out with h | h
                · cases h
                · exact h
              by_cases hp : (kn : Int) = page
              · have u4 : ((kn : Int) == page) = true := by simp [hp]
                clear hpf hp HGB
                go_wp2
                case roundEnd =>
                  go_roundw
                  case rel =>
                    have GS1 := GS.out.set kn (.bool true)
                    have GQ1 := GQ.out.far (j := kn) (fun e => NE1.out e.symm) (.bool true)
                    have GB1 := GB.out.setBx (j := kn) (show w.heap.size ≤ w4.heap.size + 1 from Nat.le_succ_of_le WB4.out) (.bool true)
                    have xa1 := XA.out.setFar (j := kn) (.bool true) XN.out.1
                    have xb1 := XB.out.setFar (j := kn) (.bool true) XN.out.2.1
                    have ma := XN.out.2.2.1
                    have mb := XN.out.2.2.2
                    have GQ2 := (((GQ1.set 0 (.int .i64 (takeH H most Fq))).set 1 (.slice A2 n2 c2)).set 2 (.slice B2 m2 d2))
                    have GS2 := (((GS1.far (j := 0) NE1.out (.int .i64 (takeH H most Fq))).far (j := 1) NE1.out (.slice A2 n2 c2)).far (j := 2) NE1.out (.slice B2 m2 d2))
                    have GB2 := (((GB1.setBx (j := 0) (TWW.out) (.int .i64 (takeH H most Fq))).setBx (j := 1) (TWW.out) (.slice A2 n2 c2)).setBx (j := 2) (TWW.out) (.slice B2 m2 d2))
                    have xa2 := (((xa1.setFar (j := 0) (.int .i64 (takeH H most Fq)) ma).setFar (j := 1) (.slice A2 n2 c2) ma).setFar (j := 2) (.slice B2 m2 d2) ma)
                    have xb2 := (((xb1.setFar (j := 0) (.int .i64 (takeH H most Fq)) mb).setFar (j := 1) (.slice A2 n2 c2) mb).setFar (j := 2) (.slice B2 m2 d2) mb)
                    exact ⟨k + 1, takeH H most Fq, A2, n2, c2, B2, m2, d2, takeF Fq, bs.set kn true, true, by omega, by go_num, rfl, GQ2, by rw [List.map_set]; exact GS2, HBL2.out, xa2, xb2, HFL.out, HS3.out, .inl rfl, HSE2.out, GB2⟩
                  case measure => simp [intOf]; omega
              · have u4 : ((kn : Int) == page) = false := by simp [hp]
                have hpf2 : Hid (page ∈ takeF Fq ∧ (takeF Fq).length + (k + 1) ≤ 600) := by
                  refine ⟨(HS6.out page hpf.1).elim (fun e => absurd e.symm hp) id, ?_⟩
                  have := HS12.out (fun e => by rw [e] at hpf; simp at hpf)
                  omega
                clear hpf hp HGB
                go_wp2
                case roundEnd =>
                  go_roundw
                  case rel =>
                    have GS1 := GS.out.set kn (.bool true)
                    have GQ1 := GQ.out.far (j := kn) (fun e => NE1.out e.symm) (.bool true)
                    have GB1 := GB.out.setBx (j := kn) (show w.heap.size ≤ w4.heap.size + 1 from Nat.le_succ_of_le WB4.out) (.bool true)
                    have xa1 := XA.out.setFar (j := kn) (.bool true) XN.out.1
                    have xb1 := XB.out.setFar (j := kn) (.bool true) XN.out.2.1
                    have ma := XN.out.2.2.1
                    have mb := XN.out.2.2.2
                    have GQ2 := (((GQ1.set 0 (.int .i64 (takeH H most Fq))).set 1 (.slice A2 n2 c2)).set 2 (.slice B2 m2 d2))
                    have GS2 := (((GS1.far (j := 0) NE1.out (.int .i64 (takeH H most Fq))).far (j := 1) NE1.out (.slice A2 n2 c2)).far (j := 2) NE1.out (.slice B2 m2 d2))
                    have GB2 := (((GB1.setBx (j := 0) (TWW.out) (.int .i64 (takeH H most Fq))).setBx (j := 1) (TWW.out) (.slice A2 n2 c2)).setBx (j := 2) (TWW.out) (.slice B2 m2 d2))
                    have xa2 := (((xa1.setFar (j := 0) (.int .i64 (takeH H most Fq)) ma).setFar (j := 1) (.slice A2 n2 c2) ma).setFar (j := 2) (.slice B2 m2 d2) ma)
                    have xb2 := (((xb1.setFar (j := 0) (.int .i64 (takeH H most Fq)) mb).setFar (j := 1) (.slice A2 n2 c2) mb).setFar (j := 2) (.slice B2 m2 d2) mb)
                    exact ⟨k + 1, takeH H most Fq, A2, n2, c2, B2, m2, d2, takeF Fq, bs.set kn true, false, by omega, by go_num, rfl, GQ2, by rw [List.map_set]; exact GS2, HBL2.out, xa2, xb2, HFL.out, HS3.out, .inr hpf2.out, HSE2.out, GB2⟩
                  case measure => simp [intOf]; omega
            · clear HGB
              go_wp2
              case roundEnd =>
                go_roundw
                case rel =>
                  have GS1 := GS.out.set kn (.bool true)
                  have GQ1 := GQ.out.far (j := kn) (fun e => NE1.out e.symm) (.bool true)
                  have GB1 := GB.out.setBx (j := kn) (show w.heap.size ≤ w4.heap.size + 1 from Nat.le_succ_of_le WB4.out) (.bool true)
                  have xa1 := XA.out.setFar (j := kn) (.bool true) XN.out.1
                  have xb1 := XB.out.setFar (j := kn) (.bool true) XN.out.2.1
                  have ma := XN.out.2.2.1
                  have mb := XN.out.2.2.2
                  have GQ2 := (((GQ1.set 0 (.int .i64 (takeH H most Fq))).set 1 (.slice A2 n2 c2)).set 2 (.slice B2 m2 d2))
                  have GS2 := (((GS1.far (j := 0) NE1.out (.int .i64 (takeH H most Fq))).far (j := 1) NE1.out (.slice A2 n2 c2)).far (j := 2) NE1.out (.slice B2 m2 d2))
                  have GB2 := (((GB1.setBx (j := 0) (TWW.out) (.int .i64 (takeH H most Fq))).setBx (j := 1) (TWW.out) (.slice A2 n2 c2)).setBx (j := 2) (TWW.out) (.slice B2 m2 d2))
                  have xa2 := (((xa1.setFar (j := 0) (.int .i64 (takeH H most Fq)) ma).setFar (j := 1) (.slice A2 n2 c2) ma).setFar (j := 2) (.slice B2 m2 d2) ma)
                  have xb2 := (((xb1.setFar (j := 0) (.int .i64 (takeH H most Fq)) mb).setFar (j := 1) (.slice A2 n2 c2) mb).setFar (j := 2) (.slice B2 m2 d2) mb)
                  exact ⟨k + 1, takeH H most Fq, A2, n2, c2, B2, m2, d2, takeF Fq, bs.set kn true, true, by omega, by go_num, rfl, GQ2, by rw [List.map_set]; exact GS2, HBL2.out, xa2, xb2, HFL.out, HS3.out, .inl rfl, HSE2.out, GB2⟩
                case measure => simp [intOf]; omega
        · have hk6' : k = 600 := by omega
          subst hk6'
          have hgt : gb = true := by
            rcases HGB.out with h | ⟨h, h'⟩
            · exact h
            · have := List.length_pos_of_mem h; omega
          rw [hgt]
          clear hgt HGB
          go_wp2
          go_ret
          exact ⟨rfl, HBR.out⟩
end Go.Proofs.Ytboaidjhhlidkaa
