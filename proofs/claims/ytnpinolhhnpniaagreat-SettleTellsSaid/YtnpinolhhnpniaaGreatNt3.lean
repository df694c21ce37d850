/- netting.Zero. -/
import Derived.Test.YtnpinolhhnpniaaGreatNtS
import Derived.Test.YtnpinolhhnpniaaGreatNetP
import Derived.Test.YtnpinolhhnpniaaGreatPoW
import Derived.Test.YtnpinolhhnpniaaGreatTyPn
import Derived.Test.YtnpinolhhnpniaaGreatSum
import Derived.Test.YtnpinolhhnpniaaGreatCAdd
import Derived.Test.YtnpinolhhnpniaaGreatTyLeg
import Derived.Deep.QuietTactic
import Derived.Deep.DeepCutAuto
set_option linter.unusedSimpArgs false
set_option linter.unusedVariables false
namespace Go.Proofs.YtnpinolhhnpniaaGreat
open Go.RowKit Go.Lib Go.Maps
def netF (l : List Due) (dn : List Plc) : List Due := (dn.filter (fun p => !decide ((amts l p).sum = 0))).map (netD l)
theorem netF_snoc (l : List Due) (dn : List Plc) (p : Plc) : netF l (dn ++ [p]) = netF l dn ++ (if (amts l p).sum = 0 then [] else [netD l p]) := by
  unfold netF
  rw [List.filter_append, List.map_append]
  by_cases e : (amts l p).sum = 0 <;> simp [e]
theorem netF_len (l : List Due) (dn : List Plc) : (netF l dn).length ≤ dn.length := by
  unfold netF
  rw [List.length_map]
  exact List.length_filter_le _ _
/-- All places are taken, each once, and their sums may be. -/
theorem netF_all {l ys : List Due} {dn : List Plc} (hn : dn.Nodup) (h1 : ∀ p ∈ dn, sumOk (amts l p) = true) (h2 : ∀ p, amts l p ≠ [] → p ∈ dn) (hU : Up (ys.map Due.plc)) (hy : ∀ d, d ∈ ys ↔ d ∈ netF l dn) : netE l = 0 ∧ netO l = ys := by
  have hok : netOk l = true := netOk_iff.2 (fun p => by
    by_cases e : amts l p = []
    · rw [e]; exact sumOk_nil
    · exact h1 p (h2 p e))
  refine ⟨netE_0 hok, (due_ext hU (net_up l) (fun d => ?_)).symm⟩
  rw [hy]
  unfold netO netF
  rw [if_pos hok]
  simp only [List.mem_map, List.mem_filter]
  constructor
  · rintro ⟨p, ⟨hp, hs⟩, rfl⟩
    exact ⟨p, mem_netPs.2 (by simpa using hs), rfl⟩
  · rintro ⟨p, hp, rfl⟩
    have hs := mem_netPs.1 hp
    exact ⟨p, ⟨h2 p (fun e => hs (by rw [e]; rfl)), by simpa using hs⟩, rfl⟩
theorem netF_nodup {l : List Due} {dn : List Plc} (hn : dn.Nodup) : ((netF l dn).map Due.plc).Nodup := by
  unfold netF
  rw [List.map_map]
  rw [show (Due.plc ∘ netD l) = id from rfl, List.map_id]
  exact List.Pairwise.filter _ hn
theorem net_bad {l : List Due} {p : Plc} (h : sumOk (amts l p) = false) : netE l = 10 ∧ netO l = [] := by
  refine netE_10 ?_
  cases k : netOk l
  · rfl
  · rw [netOk_iff.1 k p] at h; cases h
theorem own_openT {α : Type} {T : Ty α} {w : World} {base : Nat} {v : Value} {xs : List α} (h : Own T w base v xs) (hn : xs ≠ []) : ∃ g cap cur, v = .slice (some ⟨g, 0, none⟩) xs.length cap ∧ base ≤ g ∧ w.heap[g]? = some (.cells cur T.e (0, 0)) ∧ xs.length ≤ cap ∧ cap ≤ maxLen ∧ cur.size = cap * T.sz ∧ cur.toList.take (xs.length * T.sz) = xs.flatMap T.enc := by
  rcases h.2 with ⟨_, h0⟩ | ⟨g, cap, cur, h1, h2, h3, h4, h5, h6, h7⟩
  · exact absurd (List.eq_nil_of_length_eq_zero h0) hn
  · exact ⟨g, cap, cur, h1, h2, h3, h4, h5, h6, h7⟩
def i64w' (n : Int) : Prop := -9223372036854775808 ≤ n ∧ n ≤ 9223372036854775807
set_option maxRecDepth 10000 in
set_option maxHeartbeats 4000000 in
theorem net_any (A : Option Addr) (n c : Nat) (l : List Due) (w : World) (hA : Row dueT w A n l) (hn : n ≤ 90000) (hz : ∀ x ∈ l, x.who.size ≤ 9223372036854775807 ∧ x.asset.size ≤ 9223372036854775807 ∧ i64w' x.amount) :
    Calls Tryz.prog 24 #[.slice A n c] w fun e w' => ∃ v, e = .returned (.tuple #[v, .int .i64 (netE l)]) ∧ Own dueT w' w.heap.size v (netO l) ∧ Bel w w' := by
  have hn63 := hA.2.1
  have HA := hid_ hA
  have HZ := hid_ hz
  have HN := hid_ hn
  have HL := hid_ hA.1
  obtain ⟨re, hre⟩ : ∃ r, netE l = r := ⟨_, rfl⟩
  obtain ⟨ro, hro⟩ : ∃ r, netO l = r := ⟨_, rfl⟩
  rw [hre, hro]
  have HR := hid_ (And.intro hre hro)
  clear hA hz hn hre hro
  go_enter Tryz.func24, Tryz.ntmps24
  have hmk : (Instr.makeMap 68 none).run Tryz.prog w = .ok (.map (some w.heap.size)) (w.alloc (.map #[] 0)) := rfl
  go_wp2_with fail
  clear hmk
  have hM0 := MapG.made plcKn i64T w
  obtain ⟨W0, hW0⟩ : ∃ W0, w.alloc (.map #[] 0) = W0 := ⟨_, rfl⟩
  obtain ⟨b, hb⟩ : ∃ b, w.heap.size = b := ⟨_, rfl⟩
  rw [hW0] at hM0 ⊢
  rw [hb] at hM0 ⊢
  have HM0 := hid_ hM0
  have HBE : Hid (b = w.heap.size) := hid_ hb.symm
  have HB0 : Hid (Bel w W0) := hid_ (by rw [← hW0]; exact (Bel.refl w).alloc _)
  have hsz0 : W0.heap.size = b + 1 := by rw [← hW0, ← hb]; exact sizeAl _ _
  have HSZ := hid_ hsz0
  clear hM0 hW0 hb hsz0
  have HK : Hid (∀ W : World, (zeroValue 66).run Tryz.prog W = .ok (.slice none 0 0) W) := hid_ (fun W => Tryz.zeroValue66 W)
  go_loopw [6, 7, 15] (fun _ _ i wr => ∃ (j : Nat) (D : DataW Value) (g : Plc → Value), j ≤ n ∧ i = .int .i64 j ∧ Hid (MapG plcKn i64T wr (b + 1) b j (fun p => amts (l.take j) p) D g) ∧ Hid (Bel w wr)) (fun _ _ i _ => n - (intOf i).toNat)
  case atStart => exact ⟨0, _, _, Nat.zero_le _, rfl, HM0, HB0⟩
  case round =>
    obtain ⟨j, D, g, hj, rfl, hMG, hBR⟩ := hrel
    by_cases hjm : j < n
    · obtain ⟨ad, g0, g1, g2, rfl, ho, e0, e1, e2⟩ := (HA.out.bel hBR.out).due hjm
      have HO := hid_ ho
      have hmem : (⟨g0, g1, g2⟩ : Due) ∈ l := List.mem_of_getElem? ho
      have HZ1 := hid_ (HZ.out _ hmem)
      clear ho
      have k1 := hid_ (Bx.new wr 39 [.string g0, .string g1, .int .i64 g2])
      have B1 := hid_ (hBR.out.alloc (.cells #[.string g0, .string g1, .int .i64 g2] 39))
      have M1 := hid_ (hMG.out.bel ((Bel.refl wr).alloc (.cells #[.string g0, .string g1, .int .i64 g2] 39)))
      clear hMG hBR
      go_upto_region 5 with (fail)
      generalize wr.alloc (.cells #[.string g0, .string g1, .int .i64 g2] 39) = W2 at k1 B1 M1 ⊢
      generalize wr.heap.size = gG at k1 ⊢
      clear e0 e1 e2
      have q0 := k1.out.cell 0 rfl
      have q1 := k1.out.cell 1 rfl
      obtain ⟨W3, hW3⟩ : ∃ W3, W2.alloc (.cells #[.string g0, .string g1] 70) = W3 := ⟨_, rfl⟩
      have b3 : Bel W2 W3 := by rw [← hW3]; exact (Bel.refl W2).alloc _
      have b4 : Bel W2 (W3.alloc (.cells #[.int .i64 g2] 2)) := b3.alloc _
      have M4 := M1.out.bel b4
      have R4 : Row i64T (W3.alloc (.cells #[.int .i64 g2] 2)) (some ⟨W3.heap.size, 0, none⟩) 1 [g2] := Row.one (T := i64T) g2 rfl rfl
      have hltb : b < W3.heap.size := (M1.out.bel b3).own.lt
      obtain ⟨st, w5, hE, hg5, hsz5, hO5, hS5⟩ := M4.entry (x := (⟨g0, g1⟩ : Plc)) plcKLn Tryz.underlying68 HK.out (by have := HN.out; simp only [maxLen]; omega) (by
        have := HZ1.out
        exact ⟨by simp only [maxLen]; exact this.1, by simp only [maxLen]; exact this.2.1⟩)
      have R5 := R4.kept' hg5 (fun ad e => by cases e; exact ⟨by show W3.heap.size ≠ b; omega, by show W3.heap.size < _; rw [sizeAl]; omega⟩)
      have B5 : Bel w w5 := Below.grown (B1.out.trans b4) hg5 (B1.out.trans b4).size (fun k e => by cases e; rw [HBE.out]; exact Nat.le_refl _)
      have O5 := hO5.mono_ (base' := w.heap.size) (by rw [HBE.out]; exact Nat.le_succ _)
      obtain ⟨v, hv⟩ : ∃ v, g ⟨g0, g1⟩ = v := ⟨_, rfl⟩
      rw [hv] at hE hO5 hS5 O5
      have H5 := hid_ (And.intro hO5 hS5)
      have HR5 := hid_ R5
      have HB5 := hid_ B5
      have HO5 := hid_ O5
      have HSZ5 := hid_ hsz5
      have HLT := hid_ hltb
      have hE : (Instr.mapEntry 68 (.map (some b)) (.agg #[.string g0, .string g1])).run Tryz.prog (W3.alloc (.cells #[.int .i64 g2] 2)) = .ok (.tuple #[v, .int .i64 (st : Int)]) w5 := hE
      have P3 := Bx.new W2 70 [.string g0, .string g1]
      have P3 : Bx W3 W2.heap.size 70 [.string g0, .string g1] := by rw [← hW3]; exact P3
      have p0 := P3.cell 0 rfl
      have p1 := P3.cell 1 rfl
      have q2 := k1.out.cell 2 rfl
      have r2 : W3.cell? ⟨gG, 2, none⟩ = some (.int .i64 g2) := by rw [← hW3]; exact (k1.out.alloc (.cells #[.string g0, .string g1] 70)).cell 2 rfl
      have HSL : Hid (((amts (l.take j) ⟨g0, g1⟩).length + 1) * 8 ≤ 140737488355328) := hid_ (by
        have h1 := amts_len (l.take j) ⟨g0, g1⟩
        have h2 : (l.take j).length ≤ j := by rw [List.length_take]; omega
        have h3 := HN.out
        omega)
      clear M1 b3 b4 P3 M4 R4 hltb hg5 hsz5 hO5 hS5 R5 B5 O5 hv
      go_wp2_with (at_builtin; refine wpApp (w0 := w) i64S rfl _ _ rfl v (amts (l.take j) ⟨g0, g1⟩) [g2] (some ⟨W3.heap.size, 0, none⟩) 1 1 rfl rfl HO5.out HR5.out HB5.out HSL.out ?_; intro v1 x1 hO1 hb1 hg1 hat1; obtain ⟨w6, hst, M6, hg6⟩ := H5.out.2 x1 v1 _ hg1 (hO1.raise (fun k hk => by
          rcases hat1 with e | ⟨c1, e, hc1⟩
          · exact H5.out.1.base_ k (e ▸ hk)
          · have e2 : k = c1 := by rw [hk] at e; injection e
            have h1 := HSZ5.out
            have h2 := HLT.out
            rw [sizeAl] at h1
            omega)) (by simp) hat1)
      obtain ⟨D7, g7, M7⟩ : ∃ D7 g7, MapG plcKn i64T w6 (b + 1) b (j + 1) (fun p => amts (l.take (j + 1)) p) D7 g7 := ⟨_, _, M6.congr (amts_fun HO.out ⟨g0, g1⟩ rfl (fun y => Classical.propDecidable _))⟩
      have HM7 := hid_ M7
      have HB6 : Hid (Bel w w6) := hid_ (Below.grown hb1 hg6 hb1.size (fun k e => by cases e; rw [HBE.out]; exact Nat.le_refl _))
      clear M6 M7 hst hg6 hO1 hb1 hg1 hat1 hE p0 p1 q2 r2
      case roundEnd =>
        go_round
        case rel => exact ⟨j + 1, D7, g7, by omega, by go_num, HM7, HB6⟩
        case measure => simp [intOf]; omega
    · obtain rfl : j = n := by omega
      have hMG2 := hMG.out
      rw [show l.take j = l from List.take_of_length_le (by rw [HL.out]; exact Nat.le_refl _)] at hMG2
      have HMG := hid_ hMG2
      have HB1 := hid_ hBR.out
      have HI := hid_ (amts_i64 (legs := l) (fun x hx => (HZ.out x hx).2.2))
      have HAL : Hid (∀ p, (amts l p).length ≤ 1000000) := hid_ (fun p => Nat.le_trans (amts_len l p) (by rw [HL.out]; exact Nat.le_trans HN.out (by decide)))
      have HOKP : Hid (∀ p, amts l p ≠ [] → plcOkn p) := hid_ (fun p hp => by
        have : p ∈ l.map Due.plc := Classical.byContradiction (fun k => hp (amts_no k))
        obtain ⟨d, hd, rfl⟩ := List.mem_map.1 this
        have := HZ.out d hd
        exact ⟨by simp only [maxLen]; exact this.1, by simp only [maxLen]; exact this.2.1⟩)
      clear hMG hMG2 hjm hBR
      have HGT : Hid (∀ x, plcOkn x → ∀ k, (g x).ownBlock = some k → k < wr.heap.size) := hid_ (fun x hx => (HMG.out.row x hx).lt_)
      go_wp2_with (first | (at_range; refine wpRangeG rfl _ _ 66 rfl rfl HMG.out Tryz.underlying68 ?_; intro w1 hrg1 hg1 hs1))
      have HR1 := hid_ hrg1
      have HB2 : Hid (Bel w w1) := hid_ (Below.grown HB1.out hg1 HB1.out.size (fun k e => by cases e))
      have HS1 : Hid (wr.heap.size < w1.heap.size) := hid_ (by omega)
      obtain ⟨r, hr⟩ : ∃ r, wr.heap.size = r := ⟨_, rfl⟩
      rw [hr] at HR1 HS1 HGT ⊢
      have HWR : Hid (w.heap.size ≤ r) := hid_ (by rw [← hr]; exact HB1.out.size_)
      have HBR : Hid (b < r) := hid_ (by rw [← hr]; exact HMG.out.own.lt)
      clear hrg1 hg1 hs1 hr HMG HB1
      go_frame
      go_loopw [2] (fun v wr => ∃ (dn : List Plc) (cnt : Nat), Hid (RngG plcKn i64T wr (b + 1) b r j (fun p => amts l p) D g dn cnt) ∧ Hid (Own dueT wr w.heap.size v (netF l dn)) ∧ Hid (∀ k, v.ownBlock = some k → w1.heap.size ≤ k) ∧ Hid (∀ p ∈ dn, sumOk (amts l p) = true) ∧ Hid (Bel w wr) ∧ Hid (w1.heap.size ≤ wr.heap.size)) (fun _ wr => wr.rangeLeft b r)
      case atStart => exact ⟨[], _, HR1, hid_ (Own.nil_ _ _ _), hid_ (fun k hk => by cases hk), hid_ (by simp), HB2, hid_ (Nat.le_refl _)⟩
      case round =>
        obtain ⟨dn, cnt, hR, hO, hV, hS, hB, hZ⟩ := hrel
        have hrb : ∀ x, plcOkn x → (g x).ownBlock ≠ some r := fun x hx e => by have := HGT.out x hx r e; omega
        have HRB := hid_ hrb
        clear hrb
        go_wp2_with (first | (at_next; refine wpNextG rfl _ rfl rfl hR.out HRB.out ?_ ?_))
        · intro hc0 hall
          have HALL : Hid (∀ p, amts l p ≠ [] → p ∈ dn) := hid_ (fun p hp => hall p (HOKP.out p hp) hp)
          have HND := hid_ hR.out.nd
          have HLD : Hid (dn.length ≤ 90000) := hid_ (by
            have h1 : dn.Perm (dueP l) := (List.perm_ext_iff_of_nodup HND.out ((up_plcs _).imp (fun h => ltP_ne h))).2 (fun p => ⟨fun h => by
              have h2 := (hR.out.dok p h).2
              exact mem_dueP.2 (Classical.byContradiction (fun k => h2 (amts_no k))), fun h => by
              obtain ⟨d, hd, rfl⟩ := List.mem_map.1 (mem_dueP.1 h)
              refine HALL.out _ (fun e => ?_)
              have h3 : d ∈ l.filter (fun x => decide (x.plc = d.plc)) := List.mem_filter.2 ⟨hd, by simp⟩
              unfold amts at e
              rw [List.map_eq_nil_iff.1 e] at h3
              cases h3⟩)
            rw [h1.length_eq]
            have h4 := plcs_len (l.map Due.plc)
            rw [List.length_map, HL.out] at h4
            exact Nat.le_trans h4 HN.out)
          clear hc0 hall hR HRB
          by_cases he : netF l dn = []
          · have hO1 := hO.out
            rw [he] at hO1
            obtain ⟨Y, cy, rfl, _, _⟩ := hO1.reads
            have HEN := hid_ he
            have HF := hid_ (netF_all (ys := []) HND.out hS.out HALL.out List.Pairwise.nil (by rw [he]; simp))
            have HO1 := hid_ hO1
            clear hO1 hO he
            go_wp2_with fail
            refine (sortD_nil Y cy wr).mono ?_
            rintro e _ ⟨rfl, rfl⟩
            go_wp2
            go_ret2
            exact ⟨_, by rw [← HR.out.1, HF.out.1]; rfl, by rw [← HR.out.2, HF.out.2]; exact HO1.out, hB.out⟩
          · obtain ⟨gs, cap, cur, e, c1, c2, c3, c4, c5, c6⟩ := own_openT hO.out he
            subst e
            have HC := hid_ (And.intro c1 (And.intro c2 (And.intro c3 (And.intro c4 (And.intro c5 c6)))))
            clear c1 c2 c3 c4 c5 c6 hO he
            go_wp2_with fail
            refine (sortD_any w.heap.size gs cap cur (netF l dn) wr HC.out.1 HC.out.2.1 HC.out.2.2.1 HC.out.2.2.2.1 HC.out.2.2.2.2.1 HC.out.2.2.2.2.2 (netF_nodup HND.out) (Nat.le_trans (netF_len l dn) (Nat.le_trans HLD.out (by decide)))).mono ?_
            rintro e w2 ⟨rfl, ys, hyl, hU, hy, hO, hg⟩
            have HF := hid_ (netF_all HND.out hS.out HALL.out hU hy)
            have HO := hid_ hO
            have HBF : Hid (Bel w w2) := hid_ (Below.grown hB.out hg hB.out.size (fun k e => by cases e; exact HC.out.1))
            clear hyl hU hy hO hg HC hS HND HALL
            go_wp2
            go_ret2
            exact ⟨_, by rw [← HR.out.1, HF.out.1]; rfl, by rw [← HR.out.2, HF.out.2]; exact HO.out, HBF.out⟩
        · intro x w2 cnt' hx hf hd hrg2 hlt hg2 hs2 hen
          obtain ⟨p0, p1⟩ := x
          have hx : plcOkn ⟨p0, p1⟩ := hx
          obtain ⟨X, kx, hgx, hkx, rx⟩ := (hrg2.row _ hx).reads
          rw [hgx] at hen ⊢
          simp only [plcKn, plcVn] at hen ⊢
          have RX := hid_ rx
          have O2 := hO.out.kept_ hg2 (by
            cases hv : u2.ownBlock with
            | none => exact .inl rfl
            | some c => exact .inr (fun e => by injection e with e; have h1 := hV.out c hv; have h2 := HS1.out; omega))
          have B2 : Bel w w2 := Below.grown hB.out hg2 hB.out.size (fun k e => by cases e; exact HWR.out)
          have HR2 := hid_ hrg2
          have HO2 := hid_ O2
          have HB3 := hid_ B2
          have HZ2 : Hid (w1.heap.size ≤ w2.heap.size ∧ cnt' < cnt ∧ wr.rangeLeft b r = cnt) := hid_ ⟨by rw [hs2]; exact hZ.out, hlt, hR.out.left_eq⟩
          have k3 := hid_ (Bx.new w2 70 [.string p0, .string p1])
          have b3 := hid_ ((Bel.refl w2).alloc (.cells #[.string p0, .string p1] 70))
          clear hx hf hd hrg2 hlt hg2 hs2 hkx rx O2 B2 hO hB hZ hR HRB hgx
          go_wp2_with fail
          generalize w2.alloc (.cells #[.string p0, .string p1] 70) = W3 at k3 b3 ⊢
          generalize w2.heap.size = g3 at k3 ⊢
          clear hen
          refine (sum_any X _ kx (amts l ⟨p0, p1⟩) W3 (RX.out.bel b3.out) (HAL.out _) (HI.out _)).mono ?_
          rintro e W4 ⟨rfl, b4⟩
          have b34 := b3.out.trans b4
          have K4 := hid_ (k3.out.bel b4)
          have R4 := hid_ (HR2.out.bel b34)
          have O4 := hid_ (HO2.out.bel b34)
          have B4 := hid_ (HB3.out.trans b34)
          have Z4 : Hid (w1.heap.size ≤ W4.heap.size ∧ cnt' < cnt ∧ wr.rangeLeft b r = cnt) := hid_ ⟨Nat.le_trans HZ2.out.1 b34.size_, HZ2.out.2⟩
          clear b4 b34 b3 k3 HR2 HO2 HB3 RX HZ2
          obtain ⟨so, hso⟩ : ∃ so, sumOk (amts l ⟨p0, p1⟩) = so := ⟨_, rfl⟩
          obtain ⟨sm, hsm⟩ : ∃ sm, (amts l ⟨p0, p1⟩).sum = sm := ⟨_, rfl⟩
          have HSM := hid_ hsm
          cases so
          · have HF := hid_ (net_bad hso)
            rw [show sumV (amts l ⟨p0, p1⟩) = 0 by unfold sumV; rw [hso]; rfl, show sumE (amts l ⟨p0, p1⟩) = 10 by unfold sumE; rw [hso]; rfl]
            clear hso hsm R4 O4 hS K4
            go_wp2
            go_ret2
            exact ⟨.slice none 0 0, by rw [← HR.out.1, HF.out.1]; rfl, by rw [← HR.out.2, HF.out.2]; exact Own.nil_ _ _ _, B4.out⟩
          rw [show sumV (amts l ⟨p0, p1⟩) = sm by unfold sumV; rw [hso, if_pos rfl, hsm], show sumE (amts l ⟨p0, p1⟩) = 0 by unfold sumE; rw [hso]; rfl]
          have HS2 : Hid (∀ p ∈ dn ++ [⟨p0, p1⟩], sumOk (amts l p) = true) := hid_ (fun p hp => by
            rcases List.mem_append.1 hp with hp | hp
            · exact hS.out p hp
            · simp at hp; subst hp; exact hso)
          have HFS := hid_ (netF_snoc l dn ⟨p0, p1⟩)
          clear hso hsm hS
          by_cases hz0 : sm = 0
          · have HN2 : Hid (netF l (dn ++ [⟨p0, p1⟩]) = netF l dn) := hid_ (by rw [HFS.out, if_pos (by rw [HSM.out]; exact hz0), List.append_nil])
            subst hz0
            clear HFS K4 HSM
            go_wp2
            case roundEnd =>
              go_roundw
              case rel => exact ⟨dn ++ [⟨p0, p1⟩], cnt', R4, hid_ (by rw [HN2.out]; exact O4.out), hV, HS2, B4, hid_ Z4.out.1⟩
              case measure => rw [R4.out.left_eq, Z4.out.2.2]; exact Z4.out.2.1
          · have HN2 : Hid (netF l (dn ++ [⟨p0, p1⟩]) = netF l dn ++ [⟨p0, p1, sm⟩]) := hid_ (by rw [HFS.out, if_neg (by rw [HSM.out]; exact hz0)]; unfold netD; rw [HSM.out])
            have j0 : (sm != 0) = true := by simp [hz0]
            have q0 := K4.out.cell 0 rfl
            have q1 := K4.out.cell 1 rfl
            have HLN : Hid ((netF l dn).length ≤ 1000000) := hid_ (by
              have h1 := netF_len l dn
              have h2 : dn.length ≤ 90000 := by
                have h3 : (dn.Nodup ∧ ∀ p ∈ dn, p ∈ dueP l) := ⟨(List.nodup_append.1 R4.out.nd).1, fun p hp => by
                  have h2 := (R4.out.dok p (List.mem_append_left _ hp)).2
                  exact mem_dueP.2 (Classical.byContradiction (fun k => h2 (amts_no k)))⟩
                have h5 : dn.length ≤ (dueP l).length := nodup_len h3.1 h3.2
                have h4 := plcs_len (l.map Due.plc)
                rw [List.length_map, HL.out] at h4
                exact Nat.le_trans h5 (Nat.le_trans h4 HN.out)
              omega)
            clear HFS hz0 HSM
            go_wp2_with (at_builtin; refine wpApp (w0 := w) dueS rfl _ _ rfl _ (netF l dn) [⟨p0, p1, sm⟩] (some ⟨W4.heap.size, 0, none⟩) 1 1 rfl rfl (O4.out.alloc_ _) (Row.one (T := dueT) ⟨p0, p1, sm⟩ rfl rfl) (B4.out.alloc _) (by have := HLN.out; omega) ?_; intro v1 x1 hO1 hb1 hg1 hat1)
            have R5 := hid_ ((R4.out.bel ((Bel.refl W4).alloc (.cells #[.string p0, .string p1, .int .i64 sm] 39))).kept hg1 (fun e => by have h1 := hV.out b e.symm; have h2 := HS1.out; have h3 := R4.out.hb; have h4 := HBR.out; omega) (fun e => by have h1 := hV.out r e.symm; have h2 := HS1.out; omega) (fun c hc => .inr (fun x hx e => by have h1 := hV.out c hc; have h2 := HGT.out x hx c e; have h3 := HS1.out; omega)))
            have V5 : Hid (∀ k, v1.ownBlock = some k → w1.heap.size ≤ k) := hid_ (fun k hk => by
              rcases hat1 with e | ⟨c1, e, hc1⟩
              · exact hV.out k (e ▸ hk)
              · rw [hk] at e
                injection e with e
                have h1 := Z4.out.1
                rw [sizeAl] at hc1
                omega)
            have Z5 : Hid (w1.heap.size ≤ x1.heap.size) := hid_ (by have h1 := hg1.size; rw [sizeAl] at h1; have h2 := Z4.out.1; omega)
            case roundEnd =>
              go_roundw
              case rel => exact ⟨dn ++ [⟨p0, p1⟩], cnt', R5, hid_ (by rw [HN2.out]; exact hO1), V5, HS2, hid_ hb1, Z5⟩
              case measure => rw [R5.out.left_eq, Z4.out.2.2]; exact Z4.out.2.1
end Go.Proofs.YtnpinolhhnpniaaGreat
set_option linter.unusedSimpArgs false
set_option linter.unusedVariables false
namespace Go.Proofs.YtnpinolhhnpniaaGreat
open Go.RowKit Go.Lib Go.Maps
theorem under64 (a b : Int) (ha : -9223372036854775808 ≤ a ∧ a ≤ 9223372036854775807) (hb : -9223372036854775808 ≤ b ∧ b ≤ 9223372036854775807) :
    bits .and .i64 (bits .xor .i64 a b) (bits .xor .i64 a (wrap64 (a - b))) < 0 ↔ i64B (a - b) = false := by
  have hs : -9223372036854775808 ≤ wrap64 (a - b) ∧ wrap64 (a - b) ≤ 9223372036854775807 := by unfold wrap64; omega
  have e : bits .and .i64 (bits .xor .i64 a b) (bits .xor .i64 a (wrap64 (a - b))) = ((BitVec.ofInt 64 a ^^^ BitVec.ofInt 64 b) &&& (BitVec.ofInt 64 a ^^^ BitVec.ofInt 64 (wrap64 (a - b)))).toInt := by
    rw [and64, xor64, xor64, BitVec.ofInt_toInt, BitVec.ofInt_toInt]
  rw [e]
  have h1 : ∀ X : BitVec 64, X.toInt < 0 ↔ X.msb = true := fun X => by rw [BitVec.msb_eq_toInt, decide_eq_true_eq]
  rw [h1, BitVec.msb_and, BitVec.msb_xor, BitVec.msb_xor, msb64 ha, msb64 hb, msb64 hs]
  unfold i64B
  by_cases c1 : a < 0 <;> by_cases c2 : b < 0 <;> by_cases c3 : wrap64 (a - b) < 0 <;> simp [c1, c2, c3] <;> (unfold wrap64 at c3; omega)
def subV (a b : Int) : Int := if i64B (a - b) then a - b else 0
def subE (a b : Int) : Int := if i64B (a - b) then 0 else 10
theorem sub_any (a b : Int) (w : World) (ha : -9223372036854775808 ≤ a ∧ a ≤ 9223372036854775807) (hb : -9223372036854775808 ≤ b ∧ b ≤ 9223372036854775807) :
    Calls Tryz.prog 35 #[.int .i64 a, .int .i64 b] w fun e w' => e = .returned (.tuple #[.int .i64 (subV a b), .int .i64 (subE a b)]) ∧ w = w' := by
  have HO := under64 a b ha hb
  obtain ⟨x, hx⟩ : ∃ x, bits .and .i64 (bits .xor .i64 a b) (bits .xor .i64 a (wrap64 (a - b))) = x := ⟨_, rfl⟩
  rw [hx] at HO
  obtain ⟨v, hv⟩ : ∃ v, subV a b = v := ⟨_, rfl⟩
  obtain ⟨e, he⟩ : ∃ e, subE a b = e := ⟨_, rfl⟩
  rw [hv, he]
  cases hk : i64B (a - b)
  · have h0 : x < 0 := HO.2 hk
    have ev : v = 0 := by rw [← hv]; unfold subV; rw [hk]; rfl
    have ee : e = 10 := by rw [← he]; unfold subE; rw [hk]; rfl
    subst ev ee
    clear HO hk hv he
    go_enter Tryz.func35, Tryz.ntmps35
    go_wp2
    go_ret2
    exact ⟨rfl, rfl⟩
  · have h0 : decide (x < 0) = false := decide_eq_false (fun h => by rw [HO.1 h] at hk; cases hk)
    have hsw : wrap64 (a - b) = a - b := by have := (i64B_iff _).1 hk; unfold wrap64; omega
    have ev : v = a - b := by rw [← hv]; unfold subV; rw [hk]; rfl
    have ee : e = 0 := by rw [← he]; unfold subE; rw [hk]; rfl
    rw [hsw] at hx
    subst ev ee
    clear HO hk hv he
    go_enter Tryz.func35, Tryz.ntmps35
    go_wp2
    go_ret2
    refine ⟨?_, rfl⟩
    show Ending.returned (.tuple #[.int .i64 (wrap64 (a - b)), .int .i64 0]) = _
    rw [hsw]
theorem least_take {l : List Due} {k : Nat} {o : Due} (h : l[k]? = some o) : leastB (l.take (k + 1)) = (leastB (l.take k) || decide (o.amount = -9223372036854775808)) := by
  unfold leastB
  rw [List.take_add_one, h]
  simp
theorem least_at {l : List Due} {o : Due} (h : o ∈ l) (he : o.amount = -9223372036854775808) : grossE l = 10 ∧ grossO l = [] := by
  have : leastB l = true := List.any_eq_true.2 ⟨o, h, by simpa using he⟩
  unfold grossE grossO
  simp [this]
theorem gross_not {l : List Due} (h : leastB l = false) : grossE l = netE (owedL l) ∧ grossO l = netO (owedL l) := by
  unfold grossE grossO
  simp [h]
set_option maxRecDepth 10000 in
set_option maxHeartbeats 2000000 in
theorem gross_any (A : Option Addr) (n c : Nat) (l : List Due) (w : World) (hA : Row dueT w A n l) (hn : n ≤ 90000) (hz : ∀ x ∈ l, x.who.size ≤ 9223372036854775807 ∧ x.asset.size ≤ 9223372036854775807 ∧ i64w' x.amount) :
    Calls Tryz.prog 17 #[.slice A n c] w fun e w' => ∃ v, e = .returned (.tuple #[v, .int .i64 (grossE l)]) ∧ Own dueT w' w.heap.size v (grossO l) ∧ Bel w w' := by
  have hn63 := hA.2.1
  have HA := hid_ hA
  have HZ := hid_ hz
  have HN := hid_ hn
  have HL := hid_ hA.1
  obtain ⟨re, hre⟩ : ∃ r, grossE l = r := ⟨_, rfl⟩
  obtain ⟨ro, hro⟩ : ∃ r, grossO l = r := ⟨_, rfl⟩
  rw [hre, hro]
  have HR := hid_ (And.intro hre hro)
  clear hA hz hn hre hro
  go_enter Tryz.func17, Tryz.ntmps17
  go_wp2_with fail
  go_loopw [4, 6, 11] (fun v _ i wr => ∃ j : Nat, j ≤ n ∧ i = .int .i64 j ∧ Hid (Own dueT wr w.heap.size v (owedL (l.take j))) ∧ Hid (leastB (l.take j) = false) ∧ Hid (Bel w wr)) (fun _ _ i _ => n - (intOf i).toNat)
  case atStart => exact ⟨0, Nat.zero_le _, rfl, hid_ (Own.nil_ _ _ _), hid_ rfl, hid_ (Bel.refl _)⟩
  case round =>
    obtain ⟨j, hj, rfl, hO, hLs, hB⟩ := hrel
    by_cases hjn : j < n
    · obtain ⟨ad, g0, g1, g2, rfl, ho, d0, d1, d2⟩ := (HA.out.bel hB.out).due hjn
      have HST := hid_ (And.intro (owedL_step ho) (least_take ho))
      have HMM := hid_ (List.mem_of_getElem? ho)
      have HG := hid_ (HZ.out _ (List.mem_of_getElem? ho)).2.2
      clear ho
      have i0 : (0 : Int) ≤ (j : Int) := by omega
      have i1 : (j : Int) < (n : Int) := by omega
      have k1 := hid_ (Bx.new wr 39 [.string g0, .string g1, .int .i64 g2])
      have B1 := hid_ (hB.out.alloc (.cells #[.string g0, .string g1, .int .i64 g2] 39))
      have O1 := hid_ (hO.out.bel ((Bel.refl wr).alloc (.cells #[.string g0, .string g1, .int .i64 g2] 39)))
      clear hO hB
      go_upto_region 5 with (fail)
      generalize wr.alloc (.cells #[.string g0, .string g1, .int .i64 g2] 39) = W1 at k1 B1 O1 ⊢
      generalize wr.heap.size = gG at k1 ⊢
      clear d0 d1 d2
      have q0 := k1.out.cell 0 rfl
      have q1 := k1.out.cell 1 rfl
      have q2 := k1.out.cell 2 rfl
      by_cases hneg : g2 < 0
      · have dn : decide (0 ≤ g2) = false := decide_eq_false (by omega)
        go_wp2_with fail
        refine (sub_any 0 g2 _ (by omega) HG.out).mono ?_
        rintro e _ ⟨rfl, rfl⟩
        by_cases hmin : g2 = -9223372036854775808
        · have HF := hid_ (least_at HMM.out hmin)
          subst hmin
          rw [show subV 0 (-9223372036854775808) = 0 from by decide, show subE 0 (-9223372036854775808) = 10 from by decide]
          clear HST O1 hLs dn
          go_wp2
          go_ret2
          exact ⟨.slice none 0 0, by rw [← HR.out.1, HF.out.1]; rfl, by rw [← HR.out.2, HF.out.2]; exact Own.nil_ _ _ _, B1.out⟩
        · have hg : i64w' g2 := HG.out
          unfold i64w' at hg
          rw [show subV 0 g2 = -g2 by unfold subV; rw [(i64B_iff _).2 (by omega)]; simp, show subE 0 g2 = 0 by unfold subE; rw [(i64B_iff _).2 (by omega)]; rfl]
          have HF : Hid (owedL (l.take (j + 1)) = owedL (l.take j) ++ [⟨g0, g1, -g2⟩] ∧ leastB (l.take (j + 1)) = false) := hid_ (by
            constructor
            · rw [HST.out.1, if_pos hneg]
            · rw [HST.out.2, hLs.out, decide_eq_false hmin]; rfl)
          have HSL : Hid (((owedL (l.take j)).length + 1) * 40 ≤ 140737488355328) := hid_ (by
            have h1 := owedL_len (l.take j)
            have h2 : (l.take j).length ≤ j := by rw [List.length_take]; omega
            have h3 := HN.out
            omega)
          clear HST hLs hg dn hmin
          go_wp2_with (at_builtin; refine wpApp (w0 := w) dueS rfl _ _ rfl _ (owedL (l.take j)) [⟨g0, g1, -g2⟩] (some ⟨W1.heap.size, 0, none⟩) 1 1 rfl rfl (O1.out.alloc_ _) (Row.one (T := dueT) ⟨g0, g1, -g2⟩ rfl rfl) (B1.out.alloc _) HSL.out ?_; intro v1 x1 hO1 hb1 hg1 hat1)
          case roundEnd =>
            go_round
            case rel => exact ⟨j + 1, by omega, by go_num, hid_ (by rw [HF.out.1]; exact hO1), hid_ HF.out.2, hid_ hb1⟩
            case measure => simp [intOf]; omega
      · have HF : Hid (owedL (l.take (j + 1)) = owedL (l.take j) ∧ leastB (l.take (j + 1)) = false) := hid_ (by
          constructor
          · rw [HST.out.1, if_neg hneg, List.append_nil]
          · rw [HST.out.2, hLs.out, decide_eq_false (by show ¬ g2 = _; omega)]; rfl)
        have dn : 0 ≤ g2 := by omega
        clear HST hLs
        go_wp2
        case roundEnd =>
          go_round
          case rel => exact ⟨j + 1, by omega, by go_num, hid_ (by rw [HF.out.1]; exact O1.out), hid_ HF.out.2, B1⟩
          case measure => simp [intOf]; omega
    · obtain rfl : n = j := by omega
      have hO2 := hO.out
      have hL2 := hLs.out
      rw [show l.take n = l from List.take_of_length_le (by rw [HL.out]; exact Nat.le_refl _)] at hO2 hL2
      have HF := hid_ (gross_not hL2)
      obtain ⟨X, k, rfl, hk, rx⟩ := hO2.reads
      have RX := hid_ rx
      have HZO : Hid (∀ x ∈ owedL l, x.who.size ≤ 9223372036854775807 ∧ x.asset.size ≤ 9223372036854775807 ∧ i64w' x.amount) := hid_ (by
        intro x hx
        obtain ⟨y, hy, hn, rfl⟩ := owed_mem hx
        have h1 := HZ.out y hy
        have h2 := h1.2.2
        have h3 : ¬ y.amount = -9223372036854775808 := fun e => by
          have : leastB l = true := List.any_eq_true.2 ⟨y, hy, by simpa using e⟩
          rw [hL2] at this
          cases this
        unfold i64w' at h2 ⊢
        exact ⟨h1.1, h1.2.1, by show _ ≤ -y.amount ∧ -y.amount ≤ _; omega⟩)
      clear hO hO2 hLs hL2 hk rx hjn hj
      go_wp2_with fail
      refine (net_any X _ k (owedL l) wr RX.out (by have h1 := owedL_len l; rw [HL.out] at h1; exact Nat.le_trans h1 HN.out) HZO.out).mono ?_
      rintro e w2 ⟨v, rfl, o, b⟩
      have HO := hid_ (o.mono_ hB.out.size_)
      have HB2 := hid_ (hB.out.trans b)
      clear o b RX hB
      go_wp2
      go_ret2
      exact ⟨v, by rw [← HR.out.1, HF.out.1]; rfl, by rw [← HR.out.2, HF.out.2]; exact HO.out, HB2.out⟩
theorem leg1_any (a0 a1 : ByteArray) (a2 : Int) (w : World) :
    Calls Tryz.prog 48 #[.agg #[.string a0, .string a1, .int .i64 a2]] w fun e w' => e = .returned (.agg #[.string a0, .string a1, .int .i64 a2]) ∧ Bel w w' := by
  have k1 := Bx.new (w.alloc (.cells #[.string a0, .string a1, .int .i64 a2] 39)) 52 [.string a0, .string a1, .int .i64 a2]
  have BW : Bel w ((w.alloc (.cells #[.string a0, .string a1, .int .i64 a2] 39)).alloc (.cells #[.string a0, .string a1, .int .i64 a2] 52)) := ((Bel.refl w).alloc _).alloc _
  rw [sizeAl] at k1
  have K := hid_ k1
  have HB := hid_ BW
  clear k1 BW
  go_enter Tryz.func48, Tryz.ntmps48
  go_wp2
  refine bodyPost_ret (results_c rfl _ _ (w.heap.size + 1) 52 _ (0, 0) _ rfl K.out Tryz.underlying52 rfl (by kernel_rfl)) rfl ?_
  exact ⟨rfl, HB.out⟩
set_option maxRecDepth 10000 in
set_option maxHeartbeats 2000000 in
theorem each_any (A : Option Addr) (n c : Nat) (l : List Due) (w : World) (hA : Row dueT w A n l) (hn : n ≤ 90000) :
    Calls Tryz.prog 47 #[.slice A n c, .func (.func 48) #[] #[]] w fun e w' => ∃ v, e = .returned v ∧ Own legT w' w.heap.size v l ∧ Bel w w' := by
  have hn63 := hA.2.1
  have HA := hid_ hA
  have HN := hid_ hn
  have HL := hid_ hA.1
  clear hA hn
  go_enter Tryz.func47, Tryz.ntmps47
  go_wp2_with fail
  go_loopw [4, 6, 9] (fun v _ i wr => ∃ j : Nat, j ≤ n ∧ i = .int .i64 j ∧ Hid (Own legT wr w.heap.size v (l.take j)) ∧ Hid (Bel w wr)) (fun _ _ i _ => n - (intOf i).toNat)
  case atStart => exact ⟨0, Nat.zero_le _, rfl, hid_ (Own.nil_ _ _ _), hid_ (Bel.refl _)⟩
  case round =>
    obtain ⟨j, hj, rfl, hO, hB⟩ := hrel
    by_cases hjn : j < n
    · obtain ⟨ad, g0, g1, g2, rfl, ho, d0, d1, d2⟩ := (HA.out.bel hB.out).due hjn
      have HST : Hid (l.take (j + 1) = l.take j ++ [⟨g0, g1, g2⟩]) := hid_ (by rw [List.take_add_one, ho]; rfl)
      clear ho
      have i0 : (0 : Int) ≤ (j : Int) := by omega
      have i1 : (j : Int) < (n : Int) := by omega
      have k1 := hid_ (Bx.new wr 39 [.string g0, .string g1, .int .i64 g2])
      have B1 := hid_ (hB.out.alloc (.cells #[.string g0, .string g1, .int .i64 g2] 39))
      have O1 := hid_ (hO.out.bel ((Bel.refl wr).alloc (.cells #[.string g0, .string g1, .int .i64 g2] 39)))
      clear hO hB
      go_upto_region 4 with (fail)
      generalize wr.alloc (.cells #[.string g0, .string g1, .int .i64 g2] 39) = W1 at k1 B1 O1 ⊢
      generalize wr.heap.size = gG at k1 ⊢
      clear d0 d1 d2
      have q0 := k1.out.cell 0 rfl
      have q1 := k1.out.cell 1 rfl
      have q2 := k1.out.cell 2 rfl
      go_wp2_with fail
      refine (leg1_any g0 g1 g2 W1).mono ?_
      rintro e W2 ⟨rfl, b2⟩
      have B2 := hid_ (B1.out.trans b2)
      have O2 := hid_ (O1.out.bel b2)
      have HSL : Hid (((l.take j).length + 1) * 40 ≤ 140737488355328) := hid_ (by
        have h2 : (l.take j).length ≤ j := by rw [List.length_take]; omega
        have h3 := HN.out
        omega)
      clear b2 q0 q1 q2 B1 O1
      go_wp2_with (at_builtin; refine wpApp (w0 := w) legS rfl _ _ rfl _ (l.take j) [⟨g0, g1, g2⟩] (some ⟨W2.heap.size, 0, none⟩) 1 1 rfl rfl (O2.out.alloc_ _) (Row.one (T := legT) ⟨g0, g1, g2⟩ rfl rfl) (B2.out.alloc _) HSL.out ?_; intro v1 x1 hO1 hb1 hg1 hat1)
      case roundEnd =>
        go_round
        case rel => exact ⟨j + 1, by omega, by go_num, hid_ (by rw [HST.out]; exact hO1), hid_ hb1⟩
        case measure => simp [intOf]; omega
    · obtain rfl : n = j := by omega
      have hO2 := hO.out
      rw [show l.take n = l from List.take_of_length_le (by rw [HL.out]; exact Nat.le_refl _)] at hO2
      have HO := hid_ hO2
      clear hO hO2 hjn hj
      go_wp2
      go_ret
      exact ⟨_, rfl, HO.out, hB.out⟩
set_option maxRecDepth 10000 in
theorem legs_any (A : Option Addr) (n c : Nat) (l : List Due) (w : World) (hA : Row dueT w A n l) (hn : n ≤ 90000) :
    Calls Tryz.prog 25 #[.slice A n c] w fun e w' => ∃ v, e = .returned v ∧ Own legT w' w.heap.size v l ∧ Bel w w' := by
  have HA := hid_ hA
  clear hA
  go_enter Tryz.func25, Tryz.ntmps25
  go_wp2_with fail
  refine (each_any A n c l w HA.out hn).mono ?_
  rintro e w2 ⟨v, rfl, o, b⟩
  have HO := hid_ o
  have HB := hid_ b
  clear o b
  go_wp2
  go_ret
  exact ⟨_, rfl, HO.out, HB.out⟩
end Go.Proofs.YtnpinolhhnpniaaGreat
set_option linter.unusedSimpArgs false
set_option linter.unusedVariables false
namespace Go.Proofs.YtnpinolhhnpniaaGreat
open Go.RowKit Go.Lib Go.Maps
theorem assL_fun {l : List Due} {k : Nat} {o : Due} (h : l[k]? = some o) (q : ByteArray) (hq : o.asset = q) (inst : ∀ y, Decidable (y = q)) :
    (fun y => @ite _ (y = q) (inst y) (assL (l.take k) q ++ [o.amount]) (assL (l.take k) y)) = fun y => assL (l.take (k + 1)) y := by
  funext y
  rw [assL_step h y]
  by_cases e : y = q
  · rw [if_pos e, e, if_pos hq]
  · rw [if_neg e, if_neg (fun e' => e (by rw [← e', hq])), List.append_nil]
theorem app_at {W0 W x1 : World} {row : Option Nat} {v v1 : Value} (hb : Bel W0 W) (hg : W.grownBy x1 row) (hat : v1.ownBlock = v.ownBlock ∨ ∃ c, v1.ownBlock = some c ∧ W.heap.size ≤ c) : W0.grownBy x1 row ∧ (v1.ownBlock = v.ownBlock ∨ ∃ c, v1.ownBlock = some c ∧ W0.heap.size ≤ c) := by
  refine ⟨(grown_of_bel hb row).trans hg, ?_⟩
  rcases hat with h | ⟨c, h, k⟩
  · exact .inl h
  · exact .inr ⟨c, h, Nat.le_trans hb.size_ k⟩
theorem assL_some {l : List Due} {s : ByteArray} (h : assL l s ≠ []) : ∃ d ∈ l, d.asset = s := by
  unfold assL at h
  obtain ⟨x, hx⟩ := List.exists_mem_of_ne_nil _ h
  obtain ⟨d, hd, _⟩ := List.mem_map.1 hx
  obtain ⟨h1, h2⟩ := List.mem_filter.1 hd
  exact ⟨d, h1, by simpa using h2⟩
theorem assL_in {l : List Due} {d : Due} (h : d ∈ l) : assL l d.asset ≠ [] := by
  intro e
  unfold assL at e
  have h3 : d ∈ l.filter (fun x => decide (x.asset = d.asset)) := List.mem_filter.2 ⟨h, by simp⟩
  rw [List.map_eq_nil_iff.1 e] at h3
  cases h3
theorem assL_i64 {legs : List Due} (hz : ∀ x ∈ legs, -9223372036854775808 ≤ x.amount ∧ x.amount ≤ 9223372036854775807) (p : ByteArray) : ∀ x ∈ assL legs p, -9223372036854775808 ≤ x ∧ x ≤ 9223372036854775807 := by
  intro x hx
  unfold assL at hx
  obtain ⟨d, hd, rfl⟩ := List.mem_map.1 hx
  exact hz d (List.mem_filter.1 hd).1
/-- A sum that may be is 0, or it is not. -/
theorem sum_zero_iff (l : List Int) : (sumV l = 0 ∧ sumE l = 0) ↔ l.sum = 0 := by
  unfold sumV sumE
  constructor
  · rintro ⟨h1, h2⟩
    split at h2
    · rw [if_pos (by assumption)] at h1; exact h1
    · cases h2
  · intro h
    have : sumOk l = true := by unfold sumOk; rw [h]; rfl
    rw [if_pos this, if_pos this]
    exact ⟨h, rfl⟩
theorem zero_no {l : List Due} {s : ByteArray} (h : (assL l s).sum ≠ 0) : zeroB l = false := by
  cases k : zeroB l
  · rfl
  · exact absurd (zeroB_iff.1 k s) h
set_option maxRecDepth 10000 in
set_option maxHeartbeats 4000000 in
theorem zero_any (A : Option Addr) (n c : Nat) (l : List Due) (w : World) (hA : Row dueT w A n l) (hn : n ≤ 90000) (hz : ∀ x ∈ l, x.who.size ≤ 9223372036854775807 ∧ x.asset.size ≤ 9223372036854775807 ∧ i64w' x.amount) :
    Calls Tryz.prog 23 #[.slice A n c] w fun e w' => e = .returned (.bool (zeroB l)) ∧ Bel w w' := by
  have hn63 := hA.2.1
  have HA := hid_ hA
  have HZ := hid_ hz
  have HN := hid_ hn
  have HL := hid_ hA.1
  obtain ⟨re, hre⟩ : ∃ r, zeroB l = r := ⟨_, rfl⟩
  rw [hre]
  have HR := hid_ hre
  clear hA hz hn hre
  go_enter Tryz.func23, Tryz.ntmps23
  have hmk : (Instr.makeMap 65 none).run Tryz.prog w = .ok (.map (some w.heap.size)) (w.alloc (.map #[] 0)) := rfl
  go_wp2_with fail
  clear hmk
  have hM0 := MapG.made strK i64T w
  obtain ⟨Wm, hWm⟩ : ∃ W0, w.alloc (.map #[] 0) = W0 := ⟨_, rfl⟩
  obtain ⟨b, hb⟩ : ∃ b, w.heap.size = b := ⟨_, rfl⟩
  rw [hWm] at hM0 ⊢
  rw [hb] at hM0 ⊢
  have HM0 := hid_ hM0
  have HBE : Hid (b = w.heap.size) := hid_ hb.symm
  have HB0 : Hid (Bel w Wm) := hid_ (by rw [← hWm]; exact (Bel.refl w).alloc _)
  clear hM0 hWm hb
  have HK : Hid (∀ W : World, (zeroValue 66).run Tryz.prog W = .ok (.slice none 0 0) W) := hid_ (fun W => Tryz.zeroValue66 W)
  go_loopw [5, 13] (fun _ i wr => ∃ (j : Nat) (D : DataW Value) (g : ByteArray → Value), j ≤ n ∧ i = .int .i64 j ∧ Hid (MapG strK i64T wr (b + 1) b j (fun p => assL (l.take j) p) D g) ∧ Hid (Bel w wr)) (fun _ i _ => n - (intOf i).toNat)
  case atStart => exact ⟨0, _, _, Nat.zero_le _, rfl, HM0, HB0⟩
  case round =>
    obtain ⟨j, D, g, hj, rfl, hMG, hBR⟩ := hrel
    by_cases hjm : j < n
    · obtain ⟨ad, g0, g1, g2, rfl, ho, e0, e1, e2⟩ := (HA.out.bel hBR.out).due hjm
      have HO := hid_ ho
      have HZ1 : Hid (strOk g1) := hid_ (by have := (HZ.out _ (List.mem_of_getElem? ho)).2.1; unfold strOk; simp only [maxLen]; exact this)
      clear ho
      have k1 := hid_ (Bx.new wr 39 [.string g0, .string g1, .int .i64 g2])
      have B1 := hid_ (hBR.out.alloc (.cells #[.string g0, .string g1, .int .i64 g2] 39))
      have M1 := hid_ (hMG.out.bel ((Bel.refl wr).alloc (.cells #[.string g0, .string g1, .int .i64 g2] 39)))
      have HGB : Hid (∀ k, (g g1).ownBlock = some k → k < wr.heap.size) := hid_ (fun k hk => (hMG.out.row g1 HZ1.out).lt_ k hk)
      clear hMG hBR
      go_upto_region 5 with (fail)
      generalize wr.alloc (.cells #[.string g0, .string g1, .int .i64 g2] 39) = W0 at k1 B1 M1 ⊢
      generalize wr.heap.size = gG at k1 HGB ⊢
      clear e0 e1 e2
      have q1 := k1.out.cell 1 rfl
      have q2 := k1.out.cell 2 rfl
      have hlk : ∀ W, Bel W0 W → (Instr.lookup 65 (.map (some b)) (.string g1) false).run Tryz.prog W = .ok (g g1) W := fun W hW => (M1.out.bel hW).look Tryz.underlying65 (HK.out W) HZ1.out
      obtain ⟨v, hv⟩ : ∃ v, g g1 = v := ⟨_, rfl⟩
      rw [hv] at hlk
      have HOV : Hid (Own i64T W0 (b + 1) v (assL (l.take j) g1)) := hid_ (by rw [← hv]; exact M1.out.row g1 HZ1.out)
      have HOW : Hid (Own i64T W0 w.heap.size v (assL (l.take j) g1)) := hid_ (HOV.out.mono_ (by rw [HBE.out]; exact Nat.le_succ _))
      have HGN : Hid (some gG ≠ v.ownBlock) := hid_ (fun e => by have := HGB.out gG (by rw [hv]; exact e.symm); omega)
      have HR1 : Hid (Row i64T (W0.alloc (.cells #[.int .i64 g2] 2)) (some ⟨W0.heap.size, 0, none⟩) 1 [g2]) := hid_ (Row.one (T := i64T) g2 rfl rfl)
      have HSL : Hid (((assL (l.take j) g1).length + 1) * 8 ≤ 140737488355328) := hid_ (by
        have h1 := assL_len (l.take j) g1
        have h2 : (l.take j).length ≤ j := by rw [List.length_take]; omega
        have h3 := HN.out
        omega)
      have HSTO : Hid (∀ (x1 : World) (v1 : Value), W0.grownBy x1 v.ownBlock → Own i64T x1 w.heap.size v1 (assL (l.take j) g1 ++ [g2]) → (v1.ownBlock = v.ownBlock ∨ ∃ c, v1.ownBlock = some c ∧ W0.heap.size ≤ c) →
          ∃ w6, (Instr.mapUpdate 65 (.map (some b)) (strK.val g1) v1).run Tryz.prog x1 = .ok () w6 ∧ (∃ D7 g7, MapG strK i64T w6 (b + 1) b (j + 1) (fun p => assL (l.take (j + 1)) p) D7 g7) ∧ x1.grownBy w6 (some b)) := hid_ (fun x1 v1 h1 h2 h3 => by
        have hlt := M1.out.own.lt
        obtain ⟨w6, k1, k2, k3⟩ := M1.out.store (x := g1) Tryz.underlying65 (by have := HN.out; simp only [maxLen]; omega) HZ1.out (v1 := v1) (ys := assL (l.take j) g1 ++ [g2]) (by rw [hv]; exact h1) (h2.raise (fun k hk => by
          rcases h3 with e | ⟨c1, e, hc1⟩
          · exact HOV.out.base_ k (e ▸ hk)
          · rw [hk] at e
            injection e with e
            omega)) (by simp) (by rw [hv]; exact h3)
        exact ⟨w6, k1, ⟨_, _, k2.congr (assL_fun HO.out g1 rfl (fun y => Classical.propDecidable _))⟩, k3⟩)
      have hl0 := hlk W0 (Bel.refl _)
      have hl1 := hlk W0.drew (Bel.refl _).drew
      have hl2 := fun o => hlk (W0.alloc o) ((Bel.refl _).alloc _)
      have hl3 := fun o => hlk (W0.alloc o).drew ((Bel.refl _).alloc _).drew
      have hl4 := fun o => hlk (W0.drew.alloc o) ((Bel.refl _).drew.alloc _)
      have r1 := fun o => cellOld q1 o
      have r2 := fun o => cellOld q2 o
      have HLK := hid_ hlk
      clear hlk hv
      go_region_law (first
        | (refine stepApp (w0 := w) i64S rfl _ _ rfl v (assL (l.take j) g1) [g2] (some ⟨W0.heap.size, 0, none⟩) 1 1 rfl rfl (HOW.out.bel (by repeat first | with_reducible exact Bel.refl _ | with_reducible apply Bel.drew | with_reducible apply Bel.alloc)) (HR1.out.bel (by repeat first | with_reducible exact Bel.refl _ | with_reducible apply Bel.drew | with_reducible apply Bel.alloc)) (B1.out.trans (by repeat first | with_reducible exact Bel.refl _ | with_reducible apply Bel.drew | with_reducible apply Bel.alloc)) HSL.out ?_; intro v1 x1 hO1 hb1 hg1 hat1; obtain ⟨hgw, hatw⟩ := app_at (W0 := W0) (v := v) (v1 := v1) (by repeat first | with_reducible exact Bel.refl _ | with_reducible apply Bel.drew | with_reducible apply Bel.alloc) hg1 hat1; obtain ⟨w6, hst0, M6, hg6⟩ := HSTO.out x1 v1 hgw hO1 hatw; have hst : (Instr.mapUpdate 65 (.map (some b)) (.string g1) v1).run Tryz.prog x1 = .ok () w6 := hst0; have s1 := hgw.cell q1 HGN.out; have s2 := hgw.cell q2 HGN.out))
      all_goals (
        obtain ⟨D7, g7, M7⟩ := M6
        have HM7 := hid_ M7
        have HB7 : Hid (Bel w w6) := hid_ (Below.grown hb1 hg6 hb1.size (fun k e => by cases e; rw [HBE.out]; exact Nat.le_refl _))
        clear M7 hst0 hst hg6 hO1 hb1 hg1 hat1 hgw hatw s1 s2 hl0 hl1 hl2 hl3 hl4 r1 r2 q1 q2
        go_wp2
        case roundEnd =>
          go_round
          case rel => exact ⟨j + 1, D7, g7, by omega, by go_num, HM7, HB7⟩
          case measure => simp [intOf]; omega)
    · obtain rfl : j = n := by omega
      have hMG2 := hMG.out
      rw [show l.take j = l from List.take_of_length_le (by rw [HL.out]; exact Nat.le_refl _)] at hMG2
      have HMG := hid_ hMG2
      have HB1 := hid_ hBR.out
      have HI := hid_ (assL_i64 (legs := l) (fun x hx => (HZ.out x hx).2.2))
      have HAL : Hid (∀ p, (assL l p).length ≤ 1000000) := hid_ (fun p => Nat.le_trans (assL_len l p) (by rw [HL.out]; exact Nat.le_trans HN.out (by decide)))
      have HOKP : Hid (∀ p, assL l p ≠ [] → strOk p) := hid_ (fun p hp => by
        obtain ⟨d, hd, rfl⟩ := assL_some hp
        have := (HZ.out d hd).2.1
        unfold strOk
        simp only [maxLen]
        exact this)
      have HGT : Hid (∀ x, strOk x → ∀ k, (g x).ownBlock = some k → k < wr.heap.size) := hid_ (fun x hx => (HMG.out.row x hx).lt_)
      clear hMG hMG2 hjm hBR
      go_wp2_with (first | (at_range; refine wpRangeG rfl _ _ 66 rfl rfl HMG.out Tryz.underlying65 ?_; intro w1 hrg1 hg1 hs1))
      have HR1 := hid_ hrg1
      have HB2 : Hid (Bel w w1) := hid_ (Below.grown HB1.out hg1 HB1.out.size (fun k e => by cases e))
      obtain ⟨r, hr⟩ : ∃ r, wr.heap.size = r := ⟨_, rfl⟩
      rw [hr] at HR1 HGT ⊢
      have HWR : Hid (w.heap.size ≤ r) := hid_ (by rw [← hr]; exact HB1.out.size_)
      clear hrg1 hg1 hs1 hr HMG HB1
      go_frame
      go_loopw [7] (fun _ wr => ∃ (dn : List ByteArray) (cnt : Nat), Hid (RngG strK i64T wr (b + 1) b r j (fun p => assL l p) D g dn cnt) ∧ Hid (∀ p ∈ dn, (assL l p).sum = 0) ∧ Hid (Bel w wr)) (fun _ wr => wr.rangeLeft b r)
      case atStart => exact ⟨[], _, HR1, hid_ (by simp), HB2⟩
      case round =>
        obtain ⟨dn, cnt, hR, hS, hB⟩ := hrel
        have hrb : ∀ x, strOk x → (g x).ownBlock ≠ some r := fun x hx e => by have := HGT.out x hx r e; omega
        have HRB := hid_ hrb
        clear hrb
        go_wp2_with (first | (at_next; refine wpNextG rfl _ rfl rfl hR.out HRB.out ?_ ?_))
        · intro hc0 hall
          have HF : Hid (re = true) := hid_ (by
            rw [← HR.out, zeroB_iff]
            intro s
            by_cases e : assL l s = []
            · rw [e]; rfl
            · exact hS.out s (hall s (HOKP.out s e) e))
          clear hc0 hall hR HRB hS
          go_wp2
          go_ret
          exact ⟨by rw [HF.out]; rfl, hB.out⟩
        · intro x w2 cnt' hx hf hd hrg2 hlt hg2 hs2 hen
          have hx : strOk x := hx
          obtain ⟨X, kx, hgx, hkx, rx⟩ := (hrg2.row _ hx).reads
          rw [hgx] at hen ⊢
          simp only [strK] at hen ⊢
          have RX := hid_ rx
          have B2 : Bel w w2 := Below.grown hB.out hg2 hB.out.size (fun k e => by cases e; exact HWR.out)
          have HR2 := hid_ hrg2
          have HB3 := hid_ B2
          have HZ2 : Hid (cnt' < cnt ∧ wr.rangeLeft b r = cnt) := hid_ ⟨hlt, hR.out.left_eq⟩
          clear hx hf hd hrg2 hlt hg2 hs2 hkx rx B2 hB hR HRB hgx
          go_wp2_with fail
          clear hen
          refine (sum_any X _ kx (assL l x) w2 RX.out (HAL.out _) (HI.out _)).mono ?_
          rintro e W4 ⟨rfl, b4⟩
          have R4 := hid_ (HR2.out.bel b4)
          have B4 := hid_ (HB3.out.trans b4)
          clear b4 HR2 HB3 RX
          by_cases hz0 : (assL l x).sum = 0
          · obtain ⟨z1, z2⟩ := (sum_zero_iff _).2 hz0
            rw [z1, z2]
            have HS2 : Hid (∀ p ∈ dn ++ [x], (assL l p).sum = 0) := hid_ (fun p hp => by
              rcases List.mem_append.1 hp with hp | hp
              · exact hS.out p hp
              · simp at hp; subst hp; exact hz0)
            clear hz0 z1 z2 hS
            go_wp2
            case roundEnd =>
              go_roundw
              case rel => exact ⟨dn ++ [x], cnt', R4, HS2, B4⟩
              case measure => rw [R4.out.left_eq, HZ2.out.2]; exact HZ2.out.1
          · have HF : Hid (re = false) := hid_ (by rw [← HR.out]; exact zero_no hz0)
            cases hso : sumOk (assL l x)
            · rw [show sumV (assL l x) = 0 by unfold sumV; rw [hso]; rfl, show sumE (assL l x) = 10 by unfold sumE; rw [hso]; rfl]
              clear hso hz0 hS R4
              go_wp2
              go_ret
              exact ⟨by rw [HF.out]; rfl, B4.out⟩
            · rw [show sumV (assL l x) = (assL l x).sum by unfold sumV; rw [hso, if_pos rfl], show sumE (assL l x) = 0 by unfold sumE; rw [hso]; rfl]
              obtain ⟨sm, hsm⟩ : ∃ sm, (assL l x).sum = sm := ⟨_, rfl⟩
              rw [hsm] at hz0 ⊢
              have j0 : (sm != 0) = true := by simp [hz0]
              clear hso hz0 hS R4 hsm
              go_wp2
              go_ret
              exact ⟨by rw [HF.out]; rfl, B4.out⟩
end Go.Proofs.YtnpinolhhnpniaaGreat
