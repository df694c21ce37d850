/- Decode of a sector's bytes: the walk. -/
import Derived.Test.YtcfabnkkkpcelaaPgD5
import Derived.Test.YtcfabnkkkpcelaaBx2
set_option linter.unusedSimpArgs false
set_option linter.unusedVariables false
namespace Go.Proofs.Ytcfabnkkkpcelaa
open Go.RowKit
theorem Bx.keepG {W W' : World} {g q : Nat} {t : TypeId} {vs : List Value} (h : Bx W q t vs) (hg : W.grownBy W' (some g)) (hne : q ≠ g) : Bx W' q t vs := by
  unfold Bx at h ⊢
  rw [hg.block q (Array.getElem?_eq_some_iff.1 h).1 (fun e => hne (by injection e))]
  exact h
def Away (A : Option Addr) (n g : Nat) : Prop := 0 < n → ∀ ad, A = some ad → ad.block ≠ g
theorem PgAt.far {W : World} {q : Pg} {A B C D : Option Addr} {n m k l g : Nat} (h : PgAt W q A n B m C k D l) (a1 : Away A n g) (a2 : Away B m g) (a3 : Away C k g) (a4 : Away D l g) (j : Nat) (u : Value) : PgAt (W.setCell ⟨g, j, none⟩ u) q A n B m C k D l :=
  ⟨h.pairs.setFar' u a1, h.keys.setFar' u a2, h.kids.setFar' u a3, h.pages.setFar' u a4⟩
/-- A box without texts, and without ints from 2 on. -/
def NoEl (vs : List Value) : Prop := (∀ s, Value.string s ∉ vs) ∧ ∀ d : Int, 2 ≤ d → Value.int .i64 d ∉ vs
theorem PgAt.away {W : World} {q : Pg} {A B C D : Option Addr} {n m k l g : Nat} {t : TypeId} {vs : List Value} (h : PgAt W q A n B m C k D l) (hx : Bx W g t vs) (hv : NoEl vs) (hq : okP q = true) : Away A n g ∧ Away B m g ∧ Away C k g ∧ Away D l g := by
  have hkid : ∀ d ∈ q.kids, 2 ≤ d := by
    rcases okP_cases hq with ⟨_, h⟩ | ⟨_, h⟩ | ⟨_, h⟩ | ⟨_, h⟩
    · rw [(ok1_facts h).2.2.1]; simp
    · exact fun d hd => ((ok2_facts h).1.2.2.2.2 d hd).1
    · rw [(ok3_facts h).2.2.2.1]; simp
    · rw [(ok4_facts h).2.2.2.1]; simp
  have hpag : ∀ d ∈ q.pages, 2 ≤ d := by
    rcases okP_cases hq with ⟨_, h⟩ | ⟨_, h⟩ | ⟨_, h⟩ | ⟨_, h⟩
    · rw [(ok1_facts h).2.2.2.1]; simp
    · rw [(ok2_facts h).2.2.1]; simp
    · exact fun d hd => ((ok3_facts h).1.2.1 d hd).1
    · rw [(ok4_facts h).2.2.2.2]; simp
  refine ⟨h.pairs.notBx hx (fun x _ u hu => ?_), h.keys.notBx hx (fun x _ u hu => ?_), h.kids.notBx hx (fun x hx' u hu => ?_), h.pages.notBx hx (fun x hx' u hu => ?_)⟩
  · simp [pairT, pairC] at hu; subst hu; exact hv.1 _
  · simp [strT] at hu; subst hu; exact hv.1 _
  · simp [intT] at hu; subst hu; exact hv.2 _ (hkid x hx')
  · simp [intT] at hu; subst hu; exact hv.2 _ (hpag x hx')
theorem noElZ : NoEl zeroC := ⟨fun s => by simp [zeroC], fun d hd => by simp [zeroC]; omega⟩
theorem noElE : NoEl [.int .i64 0] := ⟨fun s => by simp, fun d hd => by simp; omega⟩
theorem dec_some {s : Int} {b : List Int} {q : Pg} (hl : b.length = 1024) (h : rdO s b = some q) : decP s b = if okE s q = true ∧ encP s q = b then some q else none := by
  rw [decP, if_pos hl, h]
theorem dec_none {s : Int} {b : List Int} (hl : b.length = 1024) (h : rdO s b = none) : decP s b = none := by
  rw [decP, if_pos hl, h]
theorem val8_snoc (l : List Int) (x : Int) : val8 (l ++ [x]) = val8 l * 256 + x := by simp [val8, List.foldl_append]
theorem three {l : List Int} (h : 16 ≤ l.length) : ∃ k t1 t2 r, l = k :: t1 :: t2 :: r ∧ 12 ≤ r.length := by
  match l, h with
  | k :: t1 :: t2 :: r, h => exact ⟨k, t1, t2, r, rfl, by simp at h; omega⟩
theorem wrap8 {a : Int} (h0 : 0 ≤ a) (h1 : a < 72057594037927936) : IntKind.u64.wrap (a * 256) = a * 256 := by rw [IntKind.wrap_u64]; omega
theorem epO_rng {s : Int} {b : List Int} (hb : ∀ x ∈ b, 0 ≤ x ∧ x < 256) : 0 ≤ epO s b ∧ epO s b < 18446744073709551616 := by
  unfold epO
  split
  · exact val8_rng (fun x hx => hb x (List.mem_of_mem_take hx)) (by rw [List.length_take]; omega)
  · omega
theorem door_ret2 {w W : World} {s : Int} {b : List Int} {q : Pg} {gp ge : Nat} {tmps : Array Value} {cs : List Value} {x : Int} (h4 : tmps.getD 4 undef = .pointer (some ⟨gp, 0, none⟩)) (h5 : tmps.getD 5 undef = .pointer (some ⟨ge, 0, none⟩))
    (hP : Bx W gp 28 cs) (hE : Bx W ge 31 [.int .i64 x]) (hl : cs.length = 11) (hne : gp ≠ ge) (hb : Bel w W) (k1 : w.heap.size ≤ ge) (hd : decP s b = some q) (hk : PgIn (W.setCell ⟨ge, 0, none⟩ (.int .i64 0)) q (.agg cs.toArray)) :
    bodyPostD Try.prog Try.f16 (DP w s b) Exit.ret { tmps := tmps, defers := dfr ge gp } W := by
  refine leaves_cons (f := 42) (args := #[.pointer (some ⟨ge, 0, none⟩), .pointer (some ⟨gp, 0, none⟩)]) (by simp) (by simp [go_sem]) ?_
  refine (catch_idle ge gp x W (hE.cell 0 rfl) (hE.frozen 0)).mono ?_
  rintro e u' w' ⟨rfl, rfl, rfl⟩
  have hr := results_cc h4 h5 (hP.far (j := 0) hne (.int .i64 0)) (hE.set 0 (.int .i64 0)) hl
  have hd2 : DP w s b (.returned (.tuple #[.agg cs.toArray, .int .i64 0])) (W.setCell ⟨ge, 0, none⟩ (.int .i64 0)) :=
    .inl ⟨q, _, hd, rfl, hk, hb.set_ k1 _⟩
  simp [Leaves, settle, hr]
  exact hd2
set_option maxRecDepth 10000 in
set_option maxHeartbeats 8000000 in
theorem decode_any (s : Int) (A : Option Addr) (n c : Nat) (b : List Int) (w : World) (hb : Row byteT w A n b) (hc : n ≤ c) (hbb : ∀ x ∈ b, 0 ≤ x ∧ x < 256) :
    Calls Try.prog 16 #[.int .i64 s, .slice A n c] w (DP w s b) := by
  refine Classical.byCases (fun hn : n = 1024 => ?_) (fun hn => decode_len s A n c b w hb hn)
  have hmf : ∀ (fn : Fn) (first cap : Array Value) (w : World), (Instr.makeFunc fn first cap).run Try.prog w = .ok (.func fn first cap) w := fun _ _ _ _ => rfl
  have hlen : b.length = 1024 := by rw [hb.1]; exact hn
  have HLEN := hid_ hlen
  have HBB := hid_ hbb
  have HROW := hid_ hb
  have HCC := hid_ hc
  have HQ : Hid (((n : Int) == 1024) = true) := hid_ (by rw [beq_iff_eq]; omega)
  have HN := hid_ hn
  have HS1 := hid_ (sizeAl w (.cells zeroC.toArray 28))
  have HS2 := hid_ (sizeAl (w.alloc (.cells zeroC.toArray 28)) (.cells #[.int .i64 0] 31))
  clear hlen hbb hb hc hn
  go_enter_defers Try.func16, Try.ntmps16
  go_upto_region 4 with (first | (go_at_call 44; rw [HQ.out]; refine (needs_ok _).mono ?_; rintro e _ ⟨rfl, rfl⟩))
  have hP := ((Bx.new w 28 zeroC).alloc (.cells #[.int .i64 0] 31)).alloc (.cells (.slice A n c :: zeroC).toArray 66)
  have hE := (Bx.new (w.alloc (.cells zeroC.toArray 28)) 31 [.int .i64 0]).alloc (.cells (.slice A n c :: zeroC).toArray 66)
  have hR := Bx.new ((w.alloc (.cells zeroC.toArray 28)).alloc (.cells #[.int .i64 0] 31)) 66 (.slice A n c :: zeroC)
  have hB := (((Bel.refl w).alloc (.cells zeroC.toArray 28)).alloc (.cells #[.int .i64 0] 31)).alloc (.cells (.slice A n c :: zeroC).toArray 66)
  rw [HS1.out] at hE
  rw [HS2.out, HS1.out] at hR
  have hRd : Rd w (((w.alloc (.cells zeroC.toArray 28)).alloc (.cells #[.int .i64 0] 31)).alloc (.cells (.slice A n c :: zeroC).toArray 66)) (w.heap.size + 1 + 1) (pgC (zE 0 0) nilV nilV nilV nilV) b :=
    ⟨⟨A, n, c, hR, HCC.out, HROW.out⟩, hB, by omega, HBB.out⟩
  unfold zeroC at hP hE hR hB hRd
  generalize ((w.alloc _).alloc _).alloc _ = W at hP hE hR hB hRd ⊢
  clear hR hB hmf
  generalize hgp : w.heap.size = gp at hP hE hRd ⊢
  generalize hge : gp + 1 = ge at hE hRd ⊢
  generalize hgg : ge + 1 = g at hRd ⊢
  have HNE : Hid (gp ≠ ge ∧ gp ≠ g ∧ ge ≠ g ∧ w.heap.size ≤ gp ∧ w.heap.size ≤ ge) := hid_ (by omega)
  have HP0 := hid_ hP
  have HE0 := hid_ hE
  have HRd := hid_ hRd
  clear hgp hge hgg hP hE hRd HS1 HS2
  go_cut [25] from 20 to 26 (fun h wx => h = .bool (isS s) ∧ wx = W)
  case first =>
    by_cases q0 : s = 0
    · subst q0
      go_wp2_with fail
      go_meet
      exact ⟨rfl, rfl⟩
    · have r0 : (s == 0) = false := by simp [q0]
      by_cases q1 : s = 1
      · subst q1
        go_wp2_with fail
        go_meet
        exact ⟨rfl, rfl⟩
      · have r1 : (s == 1) = false := by simp [q1]
        go_wp2_with fail
        go_meet
        exact ⟨by simp [isS, q0, q1], rfl⟩
  case rest =>
  obtain ⟨rfl, rfl⟩ := hcut
  obtain ⟨W, hW⟩ : ∃ W, wc = W := ⟨_, rfl⟩
  rw [hW] at HP0 HE0 HRd ⊢
  clear hW
  obtain ⟨sb, hsb⟩ : ∃ t, isS s = t := ⟨_, rfl⟩
  rw [hsb]
  have HSB := hid_ hsb
  clear hsb
  go_upto_if 25 with (fail)
  go_cut [8] from 26 to 49 (fun _ wx => Rd w wx g (pgC (zE 0 (epO s b)) nilV nilV nilV nilV) (reO s b) ∧ W.grownBy wx (some g))
  case first =>
    cases sb
    · have h1 : epO s b = 0 := by rw [epO, HSB.out]; rfl
      have h2 : reO s b = b := by rw [reO, HSB.out]; rfl
      have H1 := hid_ h1
      have H2 := hid_ h2
      clear h1 h2
      go_wp2_with fail
      go_meet
      exact ⟨by rw [H1.out, H2.out]; exact HRd.out, World.grownBy.refl _ _⟩
    · have h1 : epO s b = val8 (b.take 8) := by rw [epO, HSB.out]; rfl
      have h2 : reO s b = b.drop 8 := by rw [reO, HSB.out]; rfl
      have H1 := hid_ h1
      have H2 := hid_ h2
      have HT := hid_ (take_ok w W g 8 _ b HRd.out (by have := HLEN.out; omega))
      clear h1 h2
      go_wp2_with (first | (go_at_call 45; refine HT.out.mono ?_; rintro e w1 ⟨A8, rfl, hR8, hRd1, hG1⟩))
      have HR8 := hid_ hR8
      have HG1 := hid_ hG1
      have HRd1 := hid_ hRd1
      have HL8 : Hid ((b.take 8).length = 8) := hid_ (by rw [List.length_take, HLEN.out]; rfl)
      clear hR8 hRd1 hG1 HT
      go_loopw [8, 31] (fun _ i wr => ∃ k : Nat, k ≤ 8 ∧ i = .int .i64 k ∧ Hid (Rd w wr g (pgC (zE 0 (val8 ((b.take 8).take k))) nilV nilV nilV nilV) (b.drop 8)) ∧ Hid (W.grownBy wr (some g))) (fun _ i _ => 8 - (Go.RowKit.intOf i).toNat)
      case atStart => exact ⟨0, by omega, rfl, HRd1, HG1⟩
      case round =>
        obtain ⟨k, hk, rfl, hR, hG⟩ := hrel
        clear HRd1 HG1
        by_cases hkn : k < 8
        · obtain ⟨ad, x, rfl, ho, d0⟩ := (HR8.out.bel hR.out.bel).byte hkn
          have hxb := HBB.out x (List.mem_of_mem_take (List.mem_of_getElem? ho))
          have hv : val8 ((b.take 8).take (k + 1)) = val8 ((b.take 8).take k) * 256 + x := by
            rw [List.take_add_one, ho]
            exact val8_snoc _ _
          have hvr := val8_rng (l := (b.take 8).take k) (fun y hy => HBB.out y (List.mem_of_mem_take (List.mem_of_mem_take hy))) (by rw [List.length_take]; omega)
          have hvs : val8 ((b.take 8).take k) < 72057594037927936 := by
            have h1 := val8_foldl ((b.take 8).take k) (fun y hy => HBB.out y (List.mem_of_mem_take (List.mem_of_mem_take hy))) 0 (by omega)
            have h2 : ((b.take 8).take k).length ≤ 7 := by rw [List.length_take]; omega
            have h3 : (256 : Int) ^ ((b.take 8).take k).length ≤ 256 ^ 7 := by
              have : ((b.take 8).take k).length = 0 ∨ ((b.take 8).take k).length = 1 ∨ ((b.take 8).take k).length = 2 ∨ ((b.take 8).take k).length = 3 ∨ ((b.take 8).take k).length = 4 ∨ ((b.take 8).take k).length = 5 ∨ ((b.take 8).take k).length = 6 ∨ ((b.take 8).take k).length = 7 := by omega
              rcases this with e | e | e | e | e | e | e | e <;> rw [e] <;> decide
            have h4 : (256 : Int) ^ 7 = 72057594037927936 := by decide
            unfold val8
            omega
          have HV := hid_ hv
          obtain ⟨ep, hep⟩ : ∃ ep, val8 ((b.take 8).take k) = ep := ⟨_, rfl⟩
          rw [hep] at hR hvr hvs HV
          have e1 := wrap8 hvr.1 hvs
          have e2 : bits .or .u64 (ep * 256) x = ep * 256 + x := or8u ep x hvr.1 hvs hxb.1 hxb.2
          have e3 : IntKind.u64.wrap x = x := by rw [IntKind.wrap_u64]; omega
          have k7 : wr.cell? ⟨g, 7, none⟩ = some (.int .u64 ep) := hR.out.cell 6 rfl
          have f7 := hR.out.fz 7
          have hRz := hR.out.set 6 (.int .u64 (ep * 256 + x))
          have hGz := grown2 hG.out (setG wr g 7 (.int .u64 (ep * 256 + x)))
          have HRz : Hid (Rd w (wr.setCell ⟨g, 7, none⟩ (.int .u64 (ep * 256 + x))) g (pgC (zE 0 (val8 ((b.take 8).take (k + 1)))) nilV nilV nilV nilV) (b.drop 8)) := hid_ (by rw [HV.out]; exact hRz)
          have HGz := hid_ hGz
          clear hv hvr hvs hxb hRz hGz hR hG hep ho
          go_wp2_with fail
          case roundEnd =>
            go_roundw
            case rel => exact ⟨k + 1, by omega, by go_num, HRz, HGz⟩
            case measure => simp [Go.RowKit.intOf]; omega
        · obtain rfl : k = 8 := by omega
          have hR1 := hR.out
          rw [List.take_of_length_le (by rw [HL8.out]; omega)] at hR1
          have HR1 := hid_ hR1
          clear hR1 hR
          go_wp2_with fail
          go_meet
          exact ⟨by rw [H1.out, H2.out]; exact HR1.out, hG.out⟩
  case rest =>
  obtain ⟨hRd, hG⟩ := hcut
  obtain ⟨V, hV⟩ : ∃ V, wc = V := ⟨_, rfl⟩
  rw [hV] at hRd hG ⊢
  have HPV := hid_ (HP0.out.keepG hG HNE.out.2.1)
  have HEV := hid_ (HE0.out.keepG hG HNE.out.2.2.1)
  have HRV := hid_ hRd
  clear hRd hG hV HRd HP0 HE0
  have hrl : 16 ≤ (reO s b).length := by
    unfold reO
    split
    · rw [List.length_drop, HLEN.out]; decide
    · rw [HLEN.out]; decide
  obtain ⟨k, t1, t2, r, hre, hr12⟩ := three hrl
  have hkb : 0 ≤ k ∧ k < 256 := HRV.out.byt k (by rw [hre]; exact List.mem_cons_self ..)
  have HRD : Hid (rdO s b = rdP k (epO s b) r) := hid_ (by rw [rdO, hre]; rfl)
  obtain ⟨ep, hep⟩ : ∃ ep, epO s b = ep := ⟨_, rfl⟩
  have heb := epO_rng (s := s) HBB.out
  rw [hep] at HRV HRD heb
  rw [hre] at HRV
  have HKB := hid_ hkb
  have HEB := hid_ heb
  have HRL := hid_ hr12
  have HRB : Hid (∀ x ∈ r, 0 ≤ x ∧ x < 256) := hid_ (fun x hx => HRV.out.byt x (List.mem_cons_of_mem _ (List.mem_cons_of_mem _ (List.mem_cons_of_mem _ hx))))
  have e1 : IntKind.i64.wrap k = k := by rw [IntWalk.i64_left]; unfold wrap64; omega
  have HT := hid_ (take_ok w V g 1 _ _ HRV.out (by simp))
  clear hrl hre hkb hep heb hr12
  go_wp2_with fail
  refine HT.out.mono ?_
  rintro e w1 ⟨A1, rfl, hR1, hRd1, hG1⟩
  obtain ⟨ad, a', rfl, ha, d0⟩ := (hR1.bel hRd1.bel).byte (show 0 < 1 by omega)
  have ha' : k = a' := by simpa using ha
  subst ha'
  have d0 : w1.cell? ad = some (.int .u8 k) := d0
  have HT2 := hid_ (take_ok w w1 g 2 _ _ hRd1 (by simp))
  have HG1 := hid_ hG1
  clear hR1 hRd1 hG1 ha HT
  go_wp2_with fail
  refine HT2.out.mono ?_
  rintro e w2 ⟨A2, rfl, hR2, hRd2, hG2⟩
  have HG2 := hid_ (grown2 HG1.out hG2)
  have hRd3 : Rd w w2 g (pgC (zE 0 ep) nilV nilV nilV nilV) r := hRd2
  have HPG := hid_ (rpage_any w w2 g ep k r hRd3 HRL.out)
  clear hR2 hRd2 hG2 HT2 hRd3 d0 HG1
  go_wp2_with fail
  refine HPG.out.mono ?_
  clear HPG e1
  rintro e w3 h
  have HG3 : Hid (∀ w4, w2.grownBy w4 (some g) → V.grownBy w4 (some g)) := hid_ (fun w4 h => grown2 HG2.out h)
  clear HG2
  have hor := h
  clear h
  refine Classical.byCases (fun hnone : rdP k ep r = none => ?_) (fun hsome => ?_)
  · rcases hor with ⟨q, a, b', c', d', r2, hq, _⟩ | ⟨hq, rfl, hB, hG⟩
    · rw [hnone] at hq; cases hq
    · have hGV := HG3.out w3 hG
      have hd := dec_none HLEN.out (HRD.out.trans hq)
      have h1 := HPV.out.keepG hGV HNE.out.2.1
      have h2 := HEV.out.keepG hGV HNE.out.2.2.1
      go_wp2
      exact door_pan rfl rfl h1 h2 rfl HNE.out.1 hB HNE.out.2.2.2.2 HNE.out.2.2.2.1 hd
  · rcases hor with ⟨q, a, b', c', d', r2, hq, rfl, hRd, hIn, hG⟩ | ⟨hq, _⟩
    · have hsm := rdP_sm HKB.out HEB.out HRB.out hq
      obtain ⟨Aq, nq, cq, Bq, mq, dq, Cq, kq, eq, Dq, lq, fq, hv, v1, v2, v3, v4, hAt⟩ := hIn
      simp only [pgV, pgC, Value.agg.injEq, List.toArray_eq_iff, List.cons.injEq, true_and, and_true] at hv
      obtain ⟨rfl, rfl, rfl, rfl⟩ := hv
      have hGV := HG3.out w3 hG
      have HP3 := hid_ (HPV.out.keepG hGV HNE.out.2.1)
      have HE3 := hid_ (HEV.out.keepG hGV HNE.out.2.2.1)
      have HRQ := hid_ hRd
      have HAT := hid_ hAt
      have HSM := hid_ hsm
      have HVV : Hid (nq ≤ cq ∧ mq ≤ dq ∧ kq ≤ eq ∧ lq ≤ fq) := hid_ ⟨v1, v2, v3, v4⟩
      have HQS := hid_ (HRD.out.trans hq)
      have z0 := hRd.cell 0 rfl
      have z1 := hRd.cell 1 rfl
      have z2 := hRd.cell 2 rfl
      have z3 := hRd.cell 3 rfl
      have z4 := hRd.cell 4 rfl
      have z5 := hRd.cell 5 rfl
      have z6 := hRd.cell 6 rfl
      have z7 := hRd.cell 7 rfl
      have z8 := hRd.cell 8 rfl
      have z9 := hRd.cell 9 rfl
      have z10 := hRd.cell 10 rfl
      have y0 := HE3.out.cell 0 rfl
      have fy := HE3.out.frozen 0
      clear hRd hG hGV hAt hsm hq hsome HPV HEV HG3 HKB HEB HRB HRD v1 v2 v3 v4
      have henc : (okE s q = false ∧ Calls Try.prog 12 #[.int .i64 s, pgV q (.slice Aq nq cq) (.slice Bq mq dq) (.slice Cq kq eq) (.slice Dq lq fq)] w3 fun e w' => e = .returned (.tuple #[.slice none 0 0, .int .i64 50]) ∧ Bel w3 w') ∨
          (okE s q = true ∧ Calls Try.prog 12 #[.int .i64 s, pgV q (.slice Aq nq cq) (.slice Bq mq dq) (.slice Cq kq eq) (.slice Dq lq fq)] w3 fun e w' => ∃ g, e = .returned (.tuple #[.slice (some ⟨g, 0, none⟩) 1024 1024, .int .i64 0]) ∧ Row byteT w' (some ⟨g, 0, none⟩) 1024 (encP s q) ∧ w3.heap.size ≤ g ∧ Bel w3 w') := by
        have b1 := HSM.out.n
        have b2 := HSM.out.m
        have b3 := HSM.out.k
        have b4 := HSM.out.l
        rw [HAT.out.pairs.1] at b1
        rw [HAT.out.keys.1] at b2
        rw [HAT.out.kids.1] at b3
        rw [HAT.out.pages.1] at b4
        cases ho : okE s q with
        | false => exact .inl ⟨rfl, encode_no s q Aq Bq Cq Dq nq cq mq dq kq eq lq fq w3 HAT.out HSM.out.w b1 b2 b3 b4 ho⟩
        | true => exact .inr ⟨rfl, encode_yes s q Aq Bq Cq Dq nq cq mq dq kq eq lq fq w3 HAT.out HSM.out.w b1 b2 b3 b4 ho⟩
      unfold pgV pgC at henc
      have HENC := hid_ henc
      clear henc
      rcases HENC.out with ⟨ho, hc⟩ | ⟨ho, hc⟩
      · have HC := hid_ hc
        have hd : decP s b = none := by rw [dec_some HLEN.out HQS.out, if_neg (fun h => by rw [ho] at h; exact absurd h.1 (by decide))]
        have HD := hid_ hd
        clear hd ho hc HENC
        go_wp2_with (first | (go_at_call 12; refine HC.out.mono ?_; rintro e w4 ⟨rfl, hb4⟩; have y4 := hb4.cell_ y0; have fy4 := (HE3.out.bel hb4).frozen 0) | (go_at_call 44; refine (needs_no _).mono ?_; rintro e _ ⟨rfl, rfl⟩))
        exact door_pan rfl rfl ((HP3.out.bel hb4).far HNE.out.1 _) ((HE3.out.bel hb4).set 0 _) rfl HNE.out.1 ((HRQ.out.bel.trans hb4).set_ HNE.out.2.2.2.2 _) HNE.out.2.2.2.2 HNE.out.2.2.2.1 HD.out
      · have HC := hid_ hc
        have HOK := hid_ ho
        have hokP := (here_iff ho).1
        obtain ⟨p1, p2, p3, p4⟩ := HAT.out.away HP3.out noElZ hokP
        obtain ⟨q1, q2, q3, q4⟩ := HAT.out.away HE3.out noElE hokP
        have HAP : Hid (Away Aq nq gp ∧ Away Bq mq gp ∧ Away Cq kq gp ∧ Away Dq lq gp) := hid_ ⟨p1, p2, p3, p4⟩
        have HAE : Hid (Away Aq nq ge ∧ Away Bq mq ge ∧ Away Cq kq ge ∧ Away Dq lq ge) := hid_ ⟨q1, q2, q3, q4⟩
        have HEB2 : Hid (∀ x ∈ encP s q, 0 ≤ x ∧ x < 256) := hid_ (enc_byte hokP)
        have HGE3 : Hid (ge < w3.heap.size) := hid_ HE3.out.lt
        clear ho hc HENC hokP p1 p2 p3 p4 q1 q2 q3 q4
        go_upto_region 14 with (first | (go_at_call 12; refine HC.out.mono ?_; rintro e w4 ⟨g9, rfl, hR9, hg9, hb4⟩; have y4 := hb4.cell_ y0; have fy4 := (HE3.out.bel hb4).frozen 0))
        have hR95 : Row byteT (w4.setCell ⟨ge, 0, none⟩ (.int .i64 0)) (some ⟨g9, 0, none⟩) 1024 (encP s q) := hR9.setFar' _ (fun _ ad e => by
          injection e with e
          subst e
          have := HGE3.out
          show g9 ≠ ge
          omega)
        have hB5 : Bel w (w4.setCell ⟨ge, 0, none⟩ (.int .i64 0)) := (HRQ.out.bel.trans hb4).set_ HNE.out.2.2.2.2 _
        have hP5 : Bx (w4.setCell ⟨ge, 0, none⟩ (.int .i64 0)) gp 28 zeroC := (HP3.out.bel hb4).far HNE.out.1 _
        have hE5 : Bx (w4.setCell ⟨ge, 0, none⟩ (.int .i64 0)) ge 31 [.int .i64 0] := (HE3.out.bel hb4).set 0 _
        have hRd5 : Rd w (w4.setCell ⟨ge, 0, none⟩ (.int .i64 0)) g (pgC q (.slice Aq nq cq) (.slice Bq mq dq) (.slice Cq kq eq) (.slice Dq lq fq)) r2 :=
          (HRQ.out.keep (hb4.gG none) (by simp) (HRQ.out.bel.trans hb4)).keep (setG w4 ge 0 (.int .i64 0)) (fun e => HNE.out.2.2.1 (by injection e)) hB5
        have hAt5 : PgAt (w4.setCell ⟨ge, 0, none⟩ (.int .i64 0)) q Aq nq Bq mq Cq kq Dq lq := (HAT.out.bel hb4).far HAE.out.1 HAE.out.2.1 HAE.out.2.2.1 HAE.out.2.2.2 0 _
        clear y0 fy y4 fy4 z0 z1 z2 z3 z4 z5 z6 z7 z8 z9 z10 hR9 hg9 hb4 HC HP3 HE3 HRQ HAT HGE3
        generalize w4.setCell ⟨ge, 0, none⟩ (.int .i64 0) = W5 at hR95 hB5 hP5 hE5 hRd5 hAt5 ⊢
        have HEQ := hid_ (equal_any (some ⟨g9, 0, none⟩) A 1024 1024 n c (encP s q) b W5 hR95 (HROW.out.bel hB5) HEB2.out HBB.out)
        have y0 : W5.cell? ⟨ge, 0, none⟩ = some (.int .i64 0) := hE5.cell 0 rfl
        obtain ⟨t, ht⟩ : ∃ t, decide (encP s q = b) = t := ⟨_, rfl⟩
        rw [ht] at HEQ
        have HT := hid_ ht
        have HP5 := hid_ hP5
        have HE5 := hid_ hE5
        have HB5 := hid_ hB5
        have HRd5 := hid_ hRd5
        have HAt5 := hid_ hAt5
        clear ht hR95 hB5 hP5 hE5 hRd5 hAt5
        cases t
        · have hd : decP s b = none := by rw [dec_some HLEN.out HQS.out, if_neg (fun h => of_decide_eq_false HT.out h.2)]
          have HD := hid_ hd
          clear hd
          go_wp2_with (first | (go_at_call 47; refine HEQ.out.mono ?_; rintro e _ ⟨rfl, rfl⟩) | (go_at_call 44; refine (needs_no _).mono ?_; rintro e _ ⟨rfl, rfl⟩))
          exact door_pan rfl rfl HP5.out HE5.out rfl HNE.out.1 HB5.out HNE.out.2.2.2.2 HNE.out.2.2.2.1 HD.out
        · have hd : decP s b = some q := by rw [dec_some HLEN.out HQS.out, if_pos ⟨HOK.out, of_decide_eq_true HT.out⟩]
          have HD := hid_ hd
          clear hd
          go_upto_region 15 with (first | (go_at_call 47; refine HEQ.out.mono ?_; rintro e _ ⟨rfl, rfl⟩) | (go_at_call 44; refine (needs_ok _).mono ?_; rintro e _ ⟨rfl, rfl⟩))
          have z0 := HRd5.out.cell 0 rfl
          have z1 := HRd5.out.cell 1 rfl
          have z2 := HRd5.out.cell 2 rfl
          have z3 := HRd5.out.cell 3 rfl
          have z4 := HRd5.out.cell 4 rfl
          have z5 := HRd5.out.cell 5 rfl
          have z6 := HRd5.out.cell 6 rfl
          have z7 := HRd5.out.cell 7 rfl
          have z8 := HRd5.out.cell 8 rfl
          have z9 := HRd5.out.cell 9 rfl
          have z10 := HRd5.out.cell 10 rfl
          have k0 := HP5.out.cell 0 rfl
          have k1 := HP5.out.cell 1 rfl
          have k2 := HP5.out.cell 2 rfl
          have k3 := HP5.out.cell 3 rfl
          have k4 := HP5.out.cell 4 rfl
          have k5 := HP5.out.cell 5 rfl
          have k6 := HP5.out.cell 6 rfl
          have k7 := HP5.out.cell 7 rfl
          have k8 := HP5.out.cell 8 rfl
          have k9 := HP5.out.cell 9 rfl
          have k10 := HP5.out.cell 10 rfl
          have f := fun j => HP5.out.frozen j
          have fe := HE5.out.frozen 0
          have hgg : gp ≠ ge := HNE.out.1
          have hgg' : ge ≠ gp := fun e => hgg e.symm
          go_wp2
          refine door_ret2 (gp := gp) (ge := ge) (cs := pgC q (.slice Aq nq cq) (.slice Bq mq dq) (.slice Cq kq eq) (.slice Dq lq fq)) (x := 0) rfl rfl ?hP ?hE rfl HNE.out.1 ?hB HNE.out.2.2.2.2 HD.out ?hI
          case hP => exact (((((((((((HP5.out.set 0 _).set 1 _).set 2 _).set 3 _).set 4 _).set 5 _).set 6 _).set 7 _).set 8 _).set 9 _).set 10 _).far HNE.out.1 _
          case hE =>
            refine Bx.set (vs := [.int .i64 0]) ?_ 0 _
            repeat refine Bx.far ?_ (Ne.symm HNE.out.1) _
            exact HE5.out
          case hB =>
            refine Bel.set_ ?_ HNE.out.2.2.2.2 _
            repeat refine Bel.set_ ?_ HNE.out.2.2.2.1 _
            exact HB5.out
          case hI =>
            refine ⟨Aq, nq, cq, Bq, mq, dq, Cq, kq, eq, Dq, lq, fq, rfl, HVV.out.1, HVV.out.2.1, HVV.out.2.2.1, HVV.out.2.2.2, ?_⟩
            iterate 2 refine PgAt.far ?_ HAE.out.1 HAE.out.2.1 HAE.out.2.2.1 HAE.out.2.2.2 0 _
            repeat refine PgAt.far ?_ HAP.out.1 HAP.out.2.1 HAP.out.2.2.1 HAP.out.2.2.2 _ _
            exact HAt5.out
    · exact absurd hq hsome
end Go.Proofs.Ytcfabnkkkpcelaa
