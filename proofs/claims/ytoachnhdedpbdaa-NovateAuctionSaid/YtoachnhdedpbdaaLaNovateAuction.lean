/- NovateAuction, walked. -/
import Derived.Test.YtoachnhdedpbdaaBk
import Derived.Test.YtoachnhdedpbdaaAw15
import Derived.Test.YtoachnhdedpbdaaSum
import Derived.Test.YtoachnhdedpbdaaOpOrd
set_option linter.unusedSimpArgs false
set_option linter.unusedVariables false
namespace Go.Proofs.Ytoachnhdedpbdaa
open Go.RowKit Go.Lib
def bookL (l : List Ord) : List Ord := l.foldl bookS []
theorem bookL_step {l : List Ord} {k : Nat} {o : Ord} (h : l[k]? = some o) : bookL (l.take (k + 1)) = bookS (bookL (l.take k)) o := by
  unfold bookL
  rw [List.take_add_one, h, List.foldl_append]
  rfl
theorem bookL_foldl : ∀ (l b : List Ord), BookOk b → BookOk (l.foldl bookS b)
  | [], b, h => h
  | o :: l, b, h => bookL_foldl l _ (h.step o)
theorem bookL_ok (l : List Ord) : BookOk (bookL l) := bookL_foldl l [] BookOk.nil
theorem bookL_mem' : ∀ (l b : List Ord) (x : Ord), x ∈ l.foldl bookS b → x ∈ b ∨ x ∈ l
  | [], b, x, h => .inl h
  | o :: l, b, x, h => by
    rcases bookL_mem' l _ x h with h | h
    · rcases mem_bookS h with rfl | h
      · exact .inr (List.mem_cons_self ..)
      · exact .inl h
    · exact .inr (List.mem_cons_of_mem _ h)
theorem bookL_mem {l : List Ord} {x : Ord} (h : x ∈ bookL l) : x ∈ l := (bookL_mem' l [] x h).resolve_left (by simp)
theorem few_sized' {k : Nat} {l : List Ord} (h : fewO k l = true) : sized l := by
  intro j o ho
  have := (fewO_iff.1 h).2 o (List.mem_of_getElem? ho)
  exact ⟨by omega, by omega⟩
theorem bookL_sized {l : List Ord} (h : sized l) : sized (bookL l) := by
  intro j o ho
  obtain ⟨i, hi, e⟩ := List.mem_iff_getElem.1 (bookL_mem (List.mem_of_getElem? ho))
  exact h i o (by rw [List.getElem?_eq_getElem hi, e])
/-- What the law asks of the dues. -/
structure DF (D : List Due) (ma mc : ByteArray) : Prop where
  sa : (thgL D ma).sum = 0
  sc : (thgL D mc).sum = 0
  ass : ∀ d ∈ D, d.asset = ma ∨ d.asset = mc
  ne : D = [] ∨ ma ≠ mc
  rng : ∀ d ∈ D, -1000000000000 ≤ d.amount ∧ d.amount ≤ 1000000000000
theorem DuesOk.df {mk : ByteArray} {D : List Due} (h : DuesOk mk D) : DF D (mktA mk) (mktC mk) := by
  rcases h.mkt with e | e
  · subst e
    exact ⟨rfl, rfl, by simp, .inl rfl, by simp⟩
  · obtain ⟨e1, e2, _⟩ := mkt_1 e
    rw [e1, e2]
    exact ⟨h.sa, h.sc, h.ass, .inr (mkt_ne e), h.rng⟩
theorem thg_step {D : List Due} {k : Nat} {d : Due} (h : D[k]? = some d) (a : ByteArray) : thgL (D.take (k + 1)) a = thgL (D.take k) a ++ (if d.asset = a then [d.amount] else []) := by
  unfold thgL
  rw [List.take_add_one, h, List.filter_append, List.map_append]
  congr 1
  by_cases e : d.asset = a <;> simp [e]
theorem thg_len (D : List Due) (a : ByteArray) : (thgL D a).length ≤ D.length := by
  unfold thgL
  rw [List.length_map]
  exact List.length_filter_le _ _
theorem thg_rng {D : List Due} (h : ∀ d ∈ D, -1000000000000 ≤ d.amount ∧ d.amount ≤ 1000000000000) (a : ByteArray) : ∀ x ∈ thgL D a, -9223372036854775808 ≤ x ∧ x ≤ 9223372036854775807 := by
  intro x hx
  obtain ⟨d, hd, rfl⟩ := List.mem_map.1 hx
  have := h d (List.mem_filter.1 hd).1
  omega
theorem sum0 {l : List Int} (h : l.sum = 0) : sumV l = 0 ∧ sumE l = 0 := by
  unfold sumV sumE sumOk
  rw [h]
  exact ⟨rfl, rfl⟩
set_option maxRecDepth 10000 in
set_option maxHeartbeats 8000000 in
theorem walkNovateAuction (w : World) (A : Option Addr) (n c : Nat) (l : List Ord) (wf : n ≤ c ∧ Row ordT w A n l ∧ ∀ x ∈ l, ordWf x) (mk : ByteArray) (wm : mk.size ≤ maxLen) :
    Calls Try.prog 3 #[.slice A n c, .string mk] w fun e w' => e = .returned (.bool true) ∧ Bel w w' := by
  obtain ⟨hnc, hA, _⟩ := wf
  have FA := hid_ hA
  have HL := hid_ hA.1
  clear hA hnc
  go_enter Try.func3, Try.ntmps3
  go_wp2_with fail
  refine (awake15 _).mono ?_
  rintro e w1 ⟨rfl, b⟩
  have FA := hid_ (FA.out.bel b)
  have FB := hid_ b
  clear b
  go_wp2_with fail
  refine (few15_any A n c l _ FA.out).mono ?_
  rintro e w2 ⟨rfl, b⟩
  have FA := hid_ (FA.out.bel b)
  have FB := hid_ (FB.out.trans b)
  clear b
  obtain ⟨fo, hfo⟩ : ∃ fo, fewO 200 l = fo := ⟨_, rfl⟩
  rw [hfo]
  have HFO := hid_ hfo
  clear hfo
  cases fo
  · go_wp2
    go_ret
    exact ⟨rfl, FB.out⟩
  have HSZ : Hid (sized l) := hid_ (few_sized' HFO.out)
  have HLN : Hid (n ≤ 200) := hid_ (by have := (fewO_iff.1 HFO.out).1; rw [HL.out] at this; exact this)
  clear HFO
  by_cases q0 : 100 < mk.size
  · have q0d : decide ((100 : Int) < (mk.size : Int)) = true := decide_eq_true (by omega)
    go_wp2
    go_ret
    exact ⟨rfl, FB.out⟩
  have q0d : decide ((100 : Int) < (mk.size : Int)) = false := decide_eq_false (by omega)
  have HMK : Hid (mk.size ≤ 4294967280) := hid_ (by omega)
  go_wp2_with fail
  clear q0 q0d
  have z1 := FA.out.2.1
  obtain ⟨W0, hW0⟩ : ∃ W0, w2 = W0 := ⟨_, rfl⟩
  rw [hW0] at FA FB ⊢
  clear hW0
  go_loopw [6, 7, 8, 9] (fun bk i _ _ wr => ∃ j : Nat, j ≤ n ∧ i = .int .i64 j ∧ ∃ (B : Option Addr) (m d : Nat), bk = .slice B m d ∧ m ≤ d ∧ Hid (Row ordT wr B m (bookL (l.take j))) ∧ Bel W0 wr) (fun _ i _ _ _ => n - (Go.RowKit.intOf i).toNat)
  case atStart => exact ⟨0, Nat.zero_le _, rfl, none, 0, 0, rfl, Nat.le_refl _, hid_ (Row.none_ _ _ _), Bel.refl _⟩
  case round =>
    obtain ⟨j, hj, rfl, B, m, d, rfl, hmd, hR, hb⟩ := hrel
    have HR := hid_ hb
    by_cases hjn : j < n
    · obtain ⟨ad, o0, o1, o2, o3, o4, o5, rfl, ho, d0, d1, d2, d3, d4, d5⟩ := (FA.out.bel hb).ord hjn
      have i0 : (0 : Int) ≤ (j : Int) := by omega
      have i1 : (j : Int) < (n : Int) := by omega
      have HST := hid_ (bookL_step ho)
      have HOZ := hid_ (HSZ.out j _ ho)
      have HMD := hid_ hmd
      have HML : Hid (m ≤ 100000) := hid_ (by have := (bookL_ok (l.take j)).len; rw [hR.out.1] at this; omega)
      clear ho hb hmd
      go_wp2_with fail
      refine (put_any B m d (bookL (l.take j)) o0 o1 o2 o3 o4 o5 _ hR.out HMD.out HOZ.out.1 HOZ.out.2 HML.out).mono ?_
      rintro e w5 ⟨B', m', d', rfl, r5, hmd', b⟩
      obtain ⟨p, hp⟩ : ∃ p, putOk (bookL (l.take j)) ⟨o0, o1, o2, o3, o4, o5⟩ = p := ⟨_, rfl⟩
      have HR5 := hid_ (HR.out.trans b)
      have HRB := hid_ (hR.out.bel b)
      have HR6 := hid_ r5
      have HMD' := hid_ hmd'
      cases p
      · obtain ⟨e1, e2⟩ := put_0 hp
        rw [e2]
        have HBS : Hid (bookL (l.take (j + 1)) = bookL (l.take j)) := hid_ (by rw [HST.out, bookS, hp]; rfl)
        clear hp e1 e2 r5 b hmd' hR
        go_wp2
        go_roundw
        case rel => exact ⟨j + 1, by omega, by go_num, B, m, d, rfl, HMD.out, hid_ (by rw [HBS.out]; exact HRB.out), HR5.out⟩
        case measure => simp [Go.RowKit.intOf]; omega
      · obtain ⟨e1, e2⟩ := put_1 hp
        rw [e2]
        have HBS : Hid (bookL (l.take (j + 1)) = putO (bookL (l.take j)) ⟨o0, o1, o2, o3, o4, o5⟩) := hid_ (by rw [HST.out, bookS, hp, e1]; rfl)
        clear hp e1 e2 r5 b hmd' hR
        go_wp2
        go_roundw
        case rel => exact ⟨j + 1, by omega, by go_num, B', m', d', rfl, HMD'.out, hid_ (by rw [HBS.out]; exact HR6.out), HR5.out⟩
        case measure => simp [Go.RowKit.intOf]; omega
    · obtain rfl : j = n := by omega
      have hfull : l.take j = l := by rw [← HL.out, List.take_length]
      rw [hfull] at hR
      clear hfull hb
      have HBK := hid_ (bookL_ok l)
      have HBZ := hid_ (bookL_sized HSZ.out)
      obtain ⟨bk, hbk⟩ : ∃ bk, bookL l = bk := ⟨_, rfl⟩
      rw [hbk] at hR HBK HBZ
      have HM : Hid (m ≤ 200) := hid_ (by have := HBK.out.len; rw [hR.out.1] at this; exact this)
      clear hbk HSZ FA HL z1
      go_wp2_with fail
      refine (sides_any B m d bk mk _ hR.out (by have := HM.out; omega)).mono ?_
      rintro e w5 ⟨v1, v2, rfl, h1, h2, b⟩
      obtain ⟨A1, k1, rfl, _, r1⟩ := h1.reads
      obtain ⟨A2, k2, rfl, _, r2⟩ := h2.reads
      have HL1 : Hid ((buysL bk mk).length ≤ 200 ∧ (sellsL bk mk).length ≤ 200) := hid_ ⟨Nat.le_trans (buys_len _ _) HBK.out.len, Nat.le_trans (sells_len _ _) HBK.out.len⟩
      have HR1 := hid_ r1
      have HR2 := hid_ r2
      have HRB := hid_ (hR.out.bel b)
      have HBW := hid_ ((FB.out.trans HR.out).trans b)
      clear r1 r2 h1 h2 b hR HR FB
      go_wp2_with fail
      refine (trades_any A1 A2 (buysL bk mk).length k1 (sellsL bk mk).length k2 (buysL bk mk) (sellsL bk mk) _ HR1.out HR2.out (by have := HL1.out; omega) (by have := HL1.out; omega)).mono ?_
      rintro e w6 ⟨v3, rfl, h3, b⟩
      obtain ⟨ts, hts⟩ : ∃ ts, trades (buysL bk mk) (sellsL bk mk) = ts := ⟨_, rfl⟩
      obtain ⟨D, hD, hDok⟩ := auction_dues HBK.out mk (trades (buysL bk mk) (sellsL bk mk)) (fun t h => h)
      have hlt : ts.length ≤ 400 := by
        rw [← hts]
        have := trades_len (buysL bk mk) (sellsL bk mk)
        have := HL1.out
        omega
      rw [hts] at h3 hD
      obtain ⟨A3, k3, rfl, _, r3⟩ := h3.reads
      have HLT := hid_ hlt
      have HR3 := hid_ r3
      have HDF := hid_ hDok.df
      have HD := hid_ hD
      have HDL := hid_ (allD_len ts bk D hD)
      have HRB := hid_ (HRB.out.bel b)
      have HBW := hid_ (HBW.out.trans b)
      obtain ⟨pr, hpr⟩ : ∃ pr, (price (buysL bk mk) (sellsL bk mk)).1 = pr := ⟨_, rfl⟩
      rw [hpr]
      clear h3 r3 hlt hts hDok hD b hpr HR1 HR2
      go_wp2_with fail
      refine (all_any A3 ts.length k3 ts B m d bk _ HR3.out HRB.out (by have := HLT.out; omega) HBZ.out).mono ?_
      rintro e w7 ⟨C, nd, cd, rfl, r7, b⟩
      have he : allE ts bk = 0 := by unfold allE; rw [HD.out]; rfl
      have hO : allO ts bk = D := by unfold allO; rw [HD.out]; rfl
      rw [he]
      rw [hO] at r7
      have HND := hid_ r7.1
      have HR7 := hid_ r7
      have HBW := hid_ (HBW.out.trans b)
      obtain ⟨nt, hnt⟩ : ∃ nt, ts.length = nt := ⟨_, rfl⟩
      rw [hnt] at HDL HLT
      have HN4 : Hid (nd = 4 * nt ∧ nt ≤ 400) := hid_ ⟨by rw [← HND.out, HDL.out], HLT.out⟩
      have ew : IntKind.i64.wrap (4 * (nt : Int)) = 4 * (nt : Int) := by rw [IntKind.wrap_i64]; have := HN4.out; omega
      have eq4 : ((nd : Int) != 4 * (nt : Int)) = false := by rw [bne_eq_false_iff_eq]; have := HN4.out; omega
      rw [hnt]
      clear he hO r7 b hnt HRB HBK HBZ HR3 HD HDL HLT HM HL1
      go_wp2_with fail
      refine (market_any mk _ HMK.out).mono ?_
      rintro e w8 ⟨rfl, b⟩
      obtain ⟨ma, hma⟩ : ∃ ma, mktA mk = ma := ⟨_, rfl⟩
      obtain ⟨mc, hmc⟩ : ∃ mc, mktC mk = mc := ⟨_, rfl⟩
      obtain ⟨me, hme⟩ : ∃ me, mktE mk = me := ⟨_, rfl⟩
      rw [hma, hmc, hme]
      rw [hma, hmc] at HDF
      have HR7 := hid_ (HR7.out.bel b)
      have HBW := hid_ (HBW.out.trans b)
      clear b hma hmc hme ew eq4
      have z9 : nd ≤ 1600 := by have := HN4.out; omega
      go_wp2_with fail
      obtain ⟨W1, hW1⟩ : ∃ W1, w8 = W1 := ⟨_, rfl⟩
      rw [hW1] at HR7 HBW ⊢
      clear hW1
      go_loopw [19, 20, 21] (fun x y i wr => ∃ t : Nat, t ≤ nd ∧ i = .int .i64 t ∧ Own i64T wr W1.heap.size x (thgL (D.take t) ma) ∧ Own i64T wr W1.heap.size y (thgL (D.take t) mc) ∧ Hid (NeRow x y) ∧ Bel W1 wr) (fun _ _ i _ => nd - (Go.RowKit.intOf i).toNat)
      case atStart => exact ⟨0, Nat.zero_le _, rfl, Own.nil_ _ _ _, Own.nil_ _ _ _, hid_ (NeRow.nilL _), Bel.refl _⟩
      case round =>
        obtain ⟨t, ht, rfl, hx, hy, HNE, hb⟩ := hrel
        have HR := hid_ hb
        by_cases htn : t < nd
        · obtain ⟨ad, g0, g1, g2, rfl, ho, d0, d1, d2⟩ := (HR7.out.bel hb).due htn
          have i0 : (0 : Int) ≤ (t : Int) := by omega
          have i1 : (t : Int) < (nd : Int) := by omega
          have hmem := List.mem_of_getElem? ho
          have hne : ma ≠ mc := by
            rcases HDF.out.ne with h | h
            · rw [h] at hmem; cases hmem
            · exact h
          have SA := hid_ (thg_step ho ma)
          have SC := hid_ (thg_step ho mc)
          have HLX : Hid ((thgL (D.take t) ma).length ≤ 1600 ∧ (thgL (D.take t) mc).length ≤ 1600) := hid_ (by
            have h1 := thg_len (D.take t) ma
            have h2 := thg_len (D.take t) mc
            have h3 : (D.take t).length ≤ t := List.length_take_le _ _
            have := HN4.out
            omega)
          have HX := hid_ hx
          have HY := hid_ hy
          by_cases e1 : g1 = ma
          · have q1 : (g1.toList == ma.toList) = true := by rw [bytesEq]; exact decide_eq_true e1
            have HSA : Hid (thgL (D.take (t + 1)) ma = thgL (D.take t) ma ++ [g2]) := hid_ (by rw [SA.out]; simp [e1])
            have HSC : Hid (thgL (D.take (t + 1)) mc = thgL (D.take t) mc) := hid_ (by rw [SC.out]; simp [e1, hne])
            clear ho hmem hne SA SC e1 hx hy hb
            go_wp2_with (at_builtin; refine wpApp (w0 := W1) i64S rfl _ _ rfl _ (thgL (D.take t) ma) [g2] (some ⟨wr.heap.size, 0, none⟩) 1 1 rfl rfl (HX.out.alloc_ _) (Row.one g2 rfl rfl) (HR.out.alloc _) (by have := HLX.out; omega) ?_; intro v9 x9 hO9 hb9 hg9 hat9)
            have hy9 := (HY.out.alloc_ (.cells #[.int .i64 g2] 2)).kept_ hg9 HNE.out.other
            have hn9 := hid_ (NeRow.app HNE.out hat9 (HY.out.alloc_ (.cells #[.int .i64 g2] 2)))
            go_roundw
            case rel => exact ⟨t + 1, by omega, by go_num, by rw [HSA.out]; exact hO9, by rw [HSC.out]; exact hy9, hn9, hb9⟩
            case measure => simp [Go.RowKit.intOf]; omega
          · have e2 : g1 = mc := (HDF.out.ass _ hmem).resolve_left e1
            have q1 : (g1.toList == ma.toList) = false := by rw [bytesEq]; exact decide_eq_false e1
            have q2 : (g1.toList == mc.toList) = true := by rw [bytesEq]; exact decide_eq_true e2
            have HSA : Hid (thgL (D.take (t + 1)) ma = thgL (D.take t) ma) := hid_ (by rw [SA.out]; simp [e1])
            have HSC : Hid (thgL (D.take (t + 1)) mc = thgL (D.take t) mc ++ [g2]) := hid_ (by rw [SC.out]; simp [e2])
            clear ho hmem hne SA SC e1 e2 hx hy hb
            go_wp2_with (at_builtin; refine wpApp (w0 := W1) i64S rfl _ _ rfl _ (thgL (D.take t) mc) [g2] (some ⟨wr.heap.size, 0, none⟩) 1 1 rfl rfl (HY.out.alloc_ _) (Row.one g2 rfl rfl) (HR.out.alloc _) (by have := HLX.out; omega) ?_; intro v9 x9 hO9 hb9 hg9 hat9)
            have hx9 := (HX.out.alloc_ (.cells #[.int .i64 g2] 2)).kept_ hg9 HNE.out.symm.other
            have hn9 := hid_ (NeRow.app HNE.out.symm hat9 (HX.out.alloc_ (.cells #[.int .i64 g2] 2))).symm
            go_roundw
            case rel => exact ⟨t + 1, by omega, by go_num, by rw [HSA.out]; exact hx9, by rw [HSC.out]; exact hO9, hn9, hb9⟩
            case measure => simp [Go.RowKit.intOf]; omega
        · obtain rfl : t = nd := by omega
          have hfull : D.take t = D := by rw [← HND.out, List.take_length]
          rw [hfull] at hx hy
          obtain ⟨X, kx, rfl, _, rx⟩ := hx.reads
          obtain ⟨Y, ky, rfl, _, ry⟩ := hy.reads
          have HX := hid_ rx
          have HY := hid_ ry
          have HLA : Hid ((thgL D ma).length ≤ 1000000 ∧ (thgL D mc).length ≤ 1000000) := hid_ (by
            have h1 := thg_len D ma
            have h2 := thg_len D mc
            have := HN4.out
            have := HND.out
            omega)
          clear hx hy hb rx ry hfull HNE
          go_wp2_with fail
          refine (sum_any X (thgL D ma).length kx (thgL D ma) _ HX.out HLA.out.1 (thg_rng HDF.out.rng ma)).mono ?_
          rintro e w9 ⟨rfl, b⟩
          rw [(sum0 HDF.out.sa).1, (sum0 HDF.out.sa).2]
          have HY := hid_ (HY.out.bel b)
          have HR := hid_ (HR.out.trans b)
          clear b HX
          go_wp2_with fail
          refine (sum_any Y (thgL D mc).length ky (thgL D mc) _ HY.out HLA.out.2 (thg_rng HDF.out.rng mc)).mono ?_
          rintro e wz ⟨rfl, b⟩
          rw [(sum0 HDF.out.sc).1, (sum0 HDF.out.sc).2]
          have HR := hid_ (HR.out.trans b)
          clear b HY
          go_wp2
          go_ret
          exact ⟨rfl, HBW.out.trans HR.out⟩
end Go.Proofs.Ytoachnhdedpbdaa
