/- account.Post. -/
import Derived.Test.YtnpinolhhnpniaaGreatPo1
set_option linter.unusedSimpArgs false
set_option linter.unusedVariables false
namespace Go.Proofs.YtnpinolhhnpniaaGreat
open Go.RowKit Go.Lib Go.Maps
def i64w (n : Int) : Prop := -9223372036854775808 ≤ n ∧ n ≤ 9223372036854775807
set_option maxRecDepth 10000 in
set_option maxHeartbeats 4000000 in
theorem post_any (A : Option Addr) (n c : Nat) (l : List Acc) (B : Option Addr) (m d : Nat) (legs : List Due) (w : World) (hA : Row accT w A n l) (hs : Srt l) (hn : n ≤ 90000) (hB : Row legT w B m legs)
    (hz : ∀ x ∈ legs, x.who.size ≤ 9223372036854775807 ∧ x.asset.size ≤ 9223372036854775807 ∧ i64w x.amount) (hbal : ∀ a ∈ l, i64w a.balance) :
    Calls Tryz.prog 52 #[.slice A n c, .slice B m d] w fun e w' => ∃ v, e = .returned (.tuple #[v, .int .i64 (postE l legs)]) ∧ Own accT w' w.heap.size v (postO l legs) ∧ Bel w w' := by
  have hm63 := hB.2.1
  have HA := hid_ hA
  have HB := hid_ hB
  have HS := hid_ hs
  have HZ := hid_ hz
  have HBL := hid_ hbal
  have HLB := hid_ hB.1
  have HLA := hid_ hA.1
  have HN := hid_ hn
  obtain ⟨re, hre⟩ : ∃ r, postE l legs = r := ⟨_, rfl⟩
  obtain ⟨ro, hro⟩ : ∃ r, postO l legs = r := ⟨_, rfl⟩
  rw [hre, hro]
  have HR := hid_ (And.intro hre hro)
  clear hA hB hs hz hbal hre hro hn
  have HNO : Hid (mayPost legs = false → re = 1 ∧ ro = []) := hid_ (fun h => by
    have := postE_no (l := l) h
    exact ⟨HR.out.1 ▸ this.1, HR.out.2 ▸ this.2⟩)
  go_enter Tryz.func52, Tryz.ntmps52
  by_cases h1 : m < 1
  · have hF := HNO.out (by unfold mayPost; rw [HLB.out, decide_eq_false (show ¬ 1 ≤ m by omega)]; rfl)
    have HF := hid_ hF
    clear hF
    go_wp2
    go_ret2
    exact ⟨.slice none 0 0, by rw [HF.out.1]; rfl, by rw [HF.out.2]; exact Own.nil_ _ _ _, Bel.refl _⟩
  by_cases h2 : 200 < m
  · have hF := HNO.out (by unfold mayPost; rw [HLB.out, decide_eq_false (show ¬ m ≤ 200 by omega)]; simp)
    have HF := hid_ hF
    clear hF
    go_wp2
    go_ret2
    exact ⟨.slice none 0 0, by rw [HF.out.1]; rfl, by rw [HF.out.2]; exact Own.nil_ _ _ _, Bel.refl _⟩
  have HM : Hid (1 ≤ m ∧ m ≤ 200) := hid_ (by omega)
  have d1 : decide (m < 1) = false := decide_eq_false h1
  have d2 : decide (200 < m) = false := decide_eq_false h2
  have hmk : (Instr.makeMap 87 none).run Tryz.prog w = .ok (.map (some w.heap.size)) (w.alloc (.map #[] 0)) := rfl
  go_wp2_with fail
  clear d1 d2 h1 h2 hmk
  have hM0 := MapG.made plcK i64T w
  obtain ⟨W0, hW0⟩ : ∃ W0, w.alloc (.map #[] 0) = W0 := ⟨_, rfl⟩
  obtain ⟨b, hb⟩ : ∃ b, w.heap.size = b := ⟨_, rfl⟩
  rw [hW0] at hM0 ⊢
  rw [hb] at hM0 ⊢
  have HM0 := hid_ hM0
  have HBE : Hid (b = w.heap.size) := hid_ hb.symm
  have HB0 : Hid (Bel w W0) := hid_ (by rw [← hW0]; exact (Bel.refl w).alloc _)
  have hsz0 : W0.heap.size = b + 1 := by rw [← hW0, ← hb]; exact sizeAl _ _
  have HSZ := hid_ hsz0
  clear hM0 hW0 hb hsz0
  have HK : Hid (∀ W : World, (zeroValue 66).run Tryz.prog W = .ok (.slice none 0 0) W) := hid_ (fun W => Tryz.zeroValue66 W)
  go_loopw [8, 9, 26] (fun _ _ i wr => ∃ (j : Nat) (D : DataW Value) (g : Plc → Value), j ≤ m ∧ i = .int .i64 j ∧ Hid (MapG plcK i64T wr (b + 1) b j (fun p => amts (legs.take j) p) D g) ∧ Hid (∀ x ∈ legs.take j, namedB x.plc = true) ∧ Hid (Bel w wr)) (fun _ _ i _ => m - (intOf i).toNat)
  case atStart => exact ⟨0, _, _, Nat.zero_le _, rfl, HM0, hid_ (by simp), HB0⟩
  case round =>
    obtain ⟨j, D, g, hj, rfl, hMG, hNM, hBR⟩ := hrel
    by_cases hjm : j < m
    · obtain ⟨ad, g0, g1, g2, rfl, ho, e0, e1, e2⟩ := (HB.out.bel hBR.out).leg hjm
      have HO := hid_ ho
      have hmem : (⟨g0, g1, g2⟩ : Due) ∈ legs := List.mem_of_getElem? ho
      have HZ1 := hid_ (HZ.out _ hmem)
      clear ho
      have k1 := hid_ (Bx.new wr 52 [.string g0, .string g1, .int .i64 g2])
      have B1 := hid_ (hBR.out.alloc (.cells #[.string g0, .string g1, .int .i64 g2] 52))
      have M1 := hid_ (hMG.out.bel ((Bel.refl wr).alloc (.cells #[.string g0, .string g1, .int .i64 g2] 52)))
      clear hMG hBR
      go_wp2_with fail
      generalize wr.alloc (.cells #[.string g0, .string g1, .int .i64 g2] 52) = W1 at k1 B1 M1 ⊢
      generalize wr.heap.size = gG at k1 ⊢
      clear e0 e1 e2
      refine (names_any g0 g1 W1 HZ1.out.1 HZ1.out.2.1).mono ?_
      rintro e W2 ⟨rfl, b2⟩
      have k2 := hid_ (k1.out.bel b2)
      have B2 := hid_ (B1.out.trans b2)
      have M2 := hid_ (M1.out.bel b2)
      clear k1 B1 M1 b2
      obtain ⟨nb, hnb⟩ : ∃ nb, namedB ⟨g0, g1⟩ = nb := ⟨_, rfl⟩
      rw [hnb]
      have q0 := k2.out.cell 0 rfl
      have q1 := k2.out.cell 1 rfl
      cases nb
      · have hF := HNO.out (by
          unfold mayPost
          have : legs.all (fun d => namedB d.plc) = false := by
            cases ha : legs.all (fun d => namedB d.plc)
            · rfl
            · have := List.all_eq_true.1 ha _ hmem
              rw [show namedB (Due.plc ⟨g0, g1, g2⟩) = false from hnb] at this
              cases this
          rw [this]; simp)
        have HF := hid_ hF
        clear hF hnb
        go_wp2
        go_ret2
        exact ⟨.slice none 0 0, by rw [HF.out.1]; rfl, by rw [HF.out.2]; exact Own.nil_ _ _ _, B2.out⟩
      · have HNB := hid_ hnb
        clear hnb
        obtain ⟨W3, hW3⟩ : ∃ W3, W2.alloc (.cells #[.string g0, .string g1] 56) = W3 := ⟨_, rfl⟩
        have b3 : Bel W2 W3 := by rw [← hW3]; exact (Bel.refl W2).alloc _
        have b4 : Bel W2 (W3.alloc (.cells #[.int .i64 g2] 2)) := b3.alloc _
        have M4 := M2.out.bel b4
        have R4 : Row i64T (W3.alloc (.cells #[.int .i64 g2] 2)) (some ⟨W3.heap.size, 0, none⟩) 1 [g2] := Row.one (T := i64T) g2 rfl rfl
        have hltb : b < W3.heap.size := (M2.out.bel b3).own.lt
        obtain ⟨st, w5, hE, hg5, hsz5, hO5, hS5⟩ := M4.entry (x := (⟨g0, g1⟩ : Plc)) plcKL Tryz.underlying87 HK.out (by have := HM.out; simp only [maxLen]; omega) (by
          have := HZ1.out
          exact ⟨by simp only [maxLen]; exact this.1, by simp only [maxLen]; exact this.2.1⟩)
        have R5 := R4.kept' hg5 (fun ad e => by cases e; exact ⟨by show W3.heap.size ≠ b; omega, by show W3.heap.size < _; rw [sizeAl]; omega⟩)
        have B5 : Bel w w5 := Below.grown (B2.out.trans b4) hg5 (B2.out.trans b4).size (fun k e => by cases e; rw [HBE.out]; exact Nat.le_refl _)
        have O5 := hO5.mono_ (base' := w.heap.size) (by rw [HBE.out]; exact Nat.le_succ _)
        obtain ⟨v, hv⟩ : ∃ v, g ⟨g0, g1⟩ = v := ⟨_, rfl⟩
        rw [hv] at hE hO5 hS5 O5
        have H5 := hid_ (And.intro hO5 hS5)
        have HR5 := hid_ R5
        have HB5 := hid_ B5
        have HO5 := hid_ O5
        have HSZ5 := hid_ hsz5
        have HLT := hid_ hltb
        have hE : (Instr.mapEntry 87 (.map (some b)) (.agg #[.string g0, .string g1])).run Tryz.prog (W3.alloc (.cells #[.int .i64 g2] 2)) = .ok (.tuple #[v, .int .i64 (st : Int)]) w5 := hE
        have P3 := Bx.new W2 56 [.string g0, .string g1]
        have P3 : Bx W3 W2.heap.size 56 [.string g0, .string g1] := by rw [← hW3]; exact P3
        have p0 := P3.cell 0 rfl
        have p1 := P3.cell 1 rfl
        have q2 := k2.out.cell 2 rfl
        have r2 : W3.cell? ⟨gG, 2, none⟩ = some (.int .i64 g2) := by rw [← hW3]; exact (k2.out.alloc (.cells #[.string g0, .string g1] 56)).cell 2 rfl
        have HSL : Hid (((amts (legs.take j) ⟨g0, g1⟩).length + 1) * 8 ≤ 140737488355328) := hid_ (by
          have h1 := amts_len (legs.take j) ⟨g0, g1⟩
          have h2 : (legs.take j).length ≤ j := by rw [List.length_take]; omega
          have h3 := HM.out
          omega)
        clear M2 b3 b4 P3 M4 R4 hltb hg5 hsz5 hO5 hS5 R5 B5 O5 hv
        go_wp2_with (at_builtin; refine wpApp (w0 := w) i64S rfl _ _ rfl v (amts (legs.take j) ⟨g0, g1⟩) [g2] (some ⟨W3.heap.size, 0, none⟩) 1 1 rfl rfl HO5.out HR5.out HB5.out HSL.out ?_; intro v1 x1 hO1 hb1 hg1 hat1; obtain ⟨w6, hst, M6, hg6⟩ := H5.out.2 x1 v1 _ hg1 (hO1.raise (fun k hk => by
            rcases hat1 with e | ⟨c1, e, hc1⟩
            · exact H5.out.1.base_ k (e ▸ hk)
            · have e2 : k = c1 := by rw [hk] at e; injection e
              have h1 := HSZ5.out
              have h2 := HLT.out
              rw [sizeAl] at h1
              omega)) (by simp) hat1)
        obtain ⟨D7, g7, M7⟩ : ∃ D7 g7, MapG plcK i64T w6 (b + 1) b (j + 1) (fun p => amts (legs.take (j + 1)) p) D7 g7 := ⟨_, _, M6.congr (amts_fun HO.out ⟨g0, g1⟩ rfl (fun y => Classical.propDecidable _))⟩
        have HM7 := hid_ M7
        have HB6 : Hid (Bel w w6) := hid_ (Below.grown hb1 hg6 hb1.size (fun k e => by cases e; rw [HBE.out]; exact Nat.le_refl _))
        have HN6 : Hid (∀ x ∈ legs.take (j + 1), namedB x.plc = true) := hid_ (by
          intro x hx
          rw [List.take_add_one, HO.out] at hx
          rcases List.mem_append.1 hx with hx | hx
          · exact hNM.out x hx
          · simp at hx
            subst hx
            exact HNB.out)
        clear M6 M7 hst hg6 hO1 hb1 hg1 hat1 hE p0 p1 q2 r2
        case roundEnd =>
          go_round
          case rel => exact ⟨j + 1, D7, g7, by omega, by go_num, HM7, HN6, HB6⟩
          case measure => simp [intOf]; omega
    · obtain rfl : j = m := by omega
      have hMG2 := hMG.out
      rw [show legs.take j = legs from List.take_of_length_le (by rw [HLB.out]; exact Nat.le_refl _)] at hMG2
      have HMG := hid_ hMG2
      have HNM : Hid (mayPost legs = true) := hid_ (by
        have h3 := hNM.out
        rw [List.take_of_length_le (by rw [HLB.out]; exact Nat.le_refl _)] at h3
        unfold mayPost
        rw [HLB.out, decide_eq_true HM.out.1, decide_eq_true HM.out.2, List.all_eq_true.2 h3]
        rfl)
      clear hMG hMG2 hNM hjm
      go_wp2_with fail
      refine (cloneA_any A n c l wr (HA.out.bel hBR.out) (Nat.le_trans HN.out (by decide))).mono ?_
      rintro e W1 ⟨v, rfl, o, b1⟩
      obtain ⟨A1, c1, rfl, hc1, r1⟩ := o.reads
      rw [HLA.out] at hc1 r1 ⊢
      have M1 := hid_ (HMG.out.bel b1)
      have B1 := hid_ (hBR.out.trans b1)
      have O1 := hid_ (o.mono_ hBR.out.size_)
      clear HMG hBR o b1 r1 hc1
      go_wp2_with fail
      refine (keysP_any b W1).mono ?_
      rintro e W2 ⟨rfl, hW2⟩
      have b2 : Bel W1 W2 := by rw [hW2]; exact (Bel.refl W1).alloc _
      have hcell : W2.cell? ⟨W1.heap.size, 0, none⟩ = some (.map (some b)) := by rw [hW2]; exact cellNew W1 _ _ _ _ 0 rfl
      have HC2 := hid_ hcell
      have M2 := hid_ (M1.out.bel b2)
      have B2 := hid_ (B1.out.trans b2)
      have O2 := hid_ (O1.out.bel b2)
      clear b2 hcell hW2 M1 B1 O1
      have HZ2 : Hid (∀ x ∈ legs, x.who.size ≤ maxLen ∧ x.asset.size ≤ maxLen) := hid_ (fun x hx => by have := HZ.out x hx; simp only [maxLen]; exact ⟨this.1, this.2.1⟩)
      have HPN : Hid (legP legs ≠ [] ∧ (legP legs).length ≤ 200) := hid_ (by
        refine ⟨fun e => ?_, Nat.le_trans (legP_len legs) (by rw [HLB.out]; exact HM.out.2)⟩
        have h1 : 0 < legs.length := by rw [HLB.out]; exact HM.out.1
        have := mem_legP.2 ⟨_, List.getElem_mem h1, rfl⟩
        rw [e] at this
        cases this)
      go_wp2_with fail
      refine (sortedP_any W1.heap.size b j D (fun p => amts legs p) (legP legs) W2 HC2.out M2.out.own (fun l => ⟨fun h => M2.out.has1 l h, fun ⟨x, hx, e, hf⟩ => e ▸ M2.out.has2 x hx hf⟩) (Nat.le_trans (ownsMap_size M2.out.own) (Nat.le_trans HM.out.2 (by decide))) (up_legP legs) (mem_leg HZ2.out) HPN.out.1 (Nat.le_trans HPN.out.2 (by decide))).mono ?_
      rintro e W3 ⟨vP, rfl, oP, b3⟩
      obtain ⟨AP, cP, rfl, hcP, rP⟩ := oP.reads
      have M3 := hid_ (M2.out.bel b3)
      have B3 := hid_ (B2.out.trans b3)
      have O3 := hid_ (O2.out.bel b3)
      clear M2 B2 O2 b3 oP HC2
      have HST := hid_ (post_start (l := l) HNM.out)
      obtain ⟨P, hP⟩ : ∃ P, legP legs = P := ⟨_, rfl⟩
      obtain ⟨np, hnp⟩ : ∃ np, P.length = np := ⟨_, rfl⟩
      rw [hP] at rP HST HPN hcP ⊢
      rw [hnp] at rP HPN hcP ⊢
      have RP := hid_ rP
      have HNP := hid_ (And.intro hP hnp)
      have HCP := hid_ hcP
      clear rP hcP hP hnp
      have h63 := RP.out.2.1
      go_wp2_with fail
      go_loopw [0, 11, 12, 13, 14, 57, 84, 88] (fun v0 _ _ _ _ i _ _ wr => ∃ (k : Nat) (L : List Acc) (A' : Option Addr) (n' c' : Nat), k ≤ np ∧ i = .int .i64 k ∧ v0 = .slice A' n' c' ∧ Hid (n' ≤ c' ∧ Row accT wr A' n' L ∧ Own accT wr w.heap.size (.slice A' n' c') L) ∧ Hid (Srt L ∧ (∀ a ∈ L, i64w a.balance) ∧ n' ≤ 90000 + k) ∧ Hid (postGo legs (P.drop k) L = (re, ro)) ∧ Hid (Bel W3 wr)) (fun _ _ _ _ _ i _ _ _ => np - (intOf i).toNat)
      case atStart =>
        have o3 := O3.out
        rw [HLA.out] at o3
        obtain ⟨A3, c3, e3, hc3, r3⟩ := O3.out.reads
        rw [HLA.out] at e3 hc3 r3
        injection e3 with e4 e5 e6
        subst e4 e6
        exact ⟨0, l, A1, n, c1, Nat.zero_le _, rfl, rfl, hid_ ⟨hc3, r3, o3⟩, hid_ ⟨HS.out, HBL.out, Nat.le_trans HN.out (by omega)⟩, hid_ (by rw [List.drop_zero, HST.out, HR.out.1, HR.out.2]), hid_ (Bel.refl _)⟩
      case round =>
        obtain ⟨k, L, A', n', c', hk, rfl, rfl, hRL, hSL, hPG, hBr⟩ := hrel
        by_cases hkn : k < np
        · obtain ⟨ad, p0, p1, rfl, ho, e0, e1⟩ := (RP.out.bel hBr.out).plcs hkn
          have HO := hid_ ho
          have HOK : Hid (plcOk ⟨p0, p1⟩) := hid_ (((mem_leg HZ2.out _).1 (by rw [HNP.out.1]; exact List.mem_of_getElem? ho)).1)
          clear ho
          obtain ⟨x2, x3, hfx⟩ : ∃ x2 x3, findA L ⟨p0, p1⟩ = ⟨p0, p1, x2, x3⟩ := by
            have h := findA_plc L ⟨p0, p1⟩
            obtain ⟨y, hy⟩ : ∃ y, findA L ⟨p0, p1⟩ = y := ⟨_, rfl⟩
            rw [hy] at h ⊢
            obtain ⟨y0, y1, y2, y3⟩ := y
            simp only [Acc.plc, Plc.mk.injEq] at h
            exact ⟨y2, y3, by rw [h.1, h.2]⟩
          have HFX := hid_ hfx
          have HX2 : Hid (i64w x2) := hid_ (by have := find_i64 hSL.out.2.1 ⟨p0, p1⟩; rw [hfx] at this; exact this)
          have HSTEP := hid_ (post_step hPG.out HO.out hfx)
          clear hfx
          have kP := hid_ (Bx.new wr 56 [.string p0, .string p1])
          have BA := hid_ ((Bel.refl wr).alloc (.cells #[.string p0, .string p1] 56))
          go_wp2_with fail
          generalize wr.alloc (.cells #[.string p0, .string p1] 56) = Wa at kP BA ⊢
          generalize wr.heap.size = gP at kP ⊢
          clear e0 e1
          refine (find_any A' n' c' L p0 p1 Wa (hRL.out.2.1.bel BA.out) hSL.out.1).mono ?_
          rintro e Wb ⟨rfl, bb⟩
          rw [HFX.out, show (accC ⟨p0, p1, x2, x3⟩).toArray = #[.string p0, .string p1, .int .i64 x2, .int .i64 x3] from rfl]
          have kPb := hid_ (kP.out.bel bb)
          have BB := hid_ (BA.out.trans bb)
          clear kP BA bb
          have kc := hid_ (Bx.new Wb 37 [.string p0, .string p1, .int .i64 x2, .int .i64 x3])
          have hAl : Bel Wb (Wb.alloc (.cells #[.string p0, .string p1, .int .i64 x2, .int .i64 x3] 37)) := (Bel.refl Wb).alloc _
          have kPc := hid_ (kPb.out.bel hAl)
          have BC := hid_ (BB.out.trans hAl)
          have MC := hid_ (M3.out.bel (hBr.out.trans BC.out))
          have hlk := MC.out.look Tryz.underlying87 (HK.out _) HOK.out
          obtain ⟨X, kx, hgx, hkx, rx⟩ := (MC.out.row _ HOK.out).reads
          rw [hgx] at hlk
          have hlk : (Instr.lookup 87 (.map (some b)) (.agg #[.string p0, .string p1]) false).run Tryz.prog (Wb.alloc (.cells #[.string p0, .string p1, .int .i64 x2, .int .i64 x3] 37)) = .ok (.slice X (amts legs ⟨p0, p1⟩).length kx) (Wb.alloc (.cells #[.string p0, .string p1, .int .i64 x2, .int .i64 x3] 37)) := hlk
          have RX := hid_ rx
          have t0 := kPc.out.cell 0 rfl
          have t1 := kPc.out.cell 1 rfl
          have s0 := kPb.out.cell 0 rfl
          have s1 := kPb.out.cell 1 rfl
          have HGA : Hid (W3.heap.size ≤ Wb.heap.size ∧ wr.heap.size ≤ Wb.heap.size) := hid_ ⟨(hBr.out.trans BB.out).size_, BB.out.size_⟩
          clear hgx hkx rx hAl BB
          go_wp2_with fail
          clear hlk t0 t1 s0 s1
          generalize Wb.alloc (.cells #[.string p0, .string p1, .int .i64 x2, .int .i64 x3] 37) = Wc at kc kPc BC MC RX ⊢
          obtain ⟨gA, hgA⟩ : ∃ g, Wb.heap.size = g := ⟨_, rfl⟩
          rw [hgA] at kc HGA ⊢
          have HPA : Hid (gP < gA) := hid_ (by rw [← hgA]; exact kPb.out.lt)
          clear hgA kPb MC
          have HAL : Hid ((amts legs ⟨p0, p1⟩).length ≤ 1000000) := hid_ (Nat.le_trans (amts_len legs _) (by rw [HLB.out]; exact Nat.le_trans HM.out.2 (by decide)))
          refine (sum_any X _ kx (amts legs ⟨p0, p1⟩) Wc RX.out HAL.out (amts_i64 (fun x hx => (HZ.out x hx).2.2) _)).mono ?_
          rintro e Wd ⟨rfl, bd⟩
          have kd := hid_ (kc.out.bel bd)
          have kPd := hid_ (kPc.out.bel bd)
          have BD := hid_ (BC.out.trans bd)
          clear kc kPc BC bd RX HAL
          obtain ⟨so, hso⟩ : ∃ so, sumOk (amts legs ⟨p0, p1⟩) = so := ⟨_, rfl⟩
          obtain ⟨sm, hsm⟩ : ∃ sm, (amts legs ⟨p0, p1⟩).sum = sm := ⟨_, rfl⟩
          have HSM := hid_ hsm
          have q2 := kd.out.cell 2 rfl
          cases so
          · have hF := HSTEP.out.1 hso
            have HF := hid_ hF
            have HBF := hid_ (B3.out.trans (hBr.out.trans BD.out))
            rw [show sumV (amts legs ⟨p0, p1⟩) = 0 by unfold sumV; rw [hso]; rfl, show sumE (amts legs ⟨p0, p1⟩) = 10 by unfold sumE; rw [hso]; rfl]
            clear hF hso hsm HSTEP hRL hSL hPG hBr
            go_wp2
            go_ret2
            exact ⟨.slice none 0 0, by rw [HF.out.1]; rfl, by rw [HF.out.2]; exact Own.nil_ _ _ _, HBF.out⟩
          rw [show sumV (amts legs ⟨p0, p1⟩) = sm by unfold sumV; rw [hso, if_pos rfl, hsm], show sumE (amts legs ⟨p0, p1⟩) = 0 by unfold sumE; rw [hso]; rfl]
          have HI2 : Hid (i64w sm) := hid_ (by unfold sumOk at hso; rw [hsm] at hso; simpa [i64w] using hso)
          have HST2 := hid_ (HSTEP.out.2)
          have HSO := hid_ hso
          clear hso hsm HSTEP
          go_wp2_with fail
          clear q2
          refine (add_any x2 sm Wd HX2.out HI2.out).mono ?_
          rintro e _ ⟨rfl, rfl⟩
          obtain ⟨y, hy⟩ : ∃ y, x2 + sm = y := ⟨_, rfl⟩
          rw [HSM.out, hy] at HST2
          obtain ⟨ib, hib⟩ : ∃ ib, i64B y = ib := ⟨_, rfl⟩
          have q0 := kd.out.cell 0 rfl
          have q1 := kd.out.cell 1 rfl
          have q2 := kd.out.cell 2 rfl
          have q3 := kd.out.cell 3 rfl
          have qp := kPd.out.cell 0 rfl
          have fz := kd.out.frozen 2
          have hne : gP ≠ gA := Nat.ne_of_lt HPA.out
          cases ib
          · have HF := hid_ (HST2.out.1 HSO.out hib)
            have HBF := hid_ (Bel.setBx (j := 2) (B3.out.trans (hBr.out.trans BD.out)) (Nat.le_trans B3.out.size_ HGA.out.1) (.int .i64 0))
            rw [show addV x2 sm = 0 by unfold addV; rw [hy, hib]; rfl, show addE x2 sm = 10 by unfold addE; rw [hy, hib]; rfl]
            clear hib hy HST2 hRL hSL hPG hBr
            go_wp2
            go_ret2
            exact ⟨.slice none 0 0, by rw [HF.out.1]; rfl, by rw [HF.out.2]; exact Own.nil_ _ _ _, HBF.out⟩
          rw [show addV x2 sm = y by unfold addV; rw [hy, hib]; rfl, show addE x2 sm = 0 by unfold addE; rw [hy, hib]; rfl]
          have HIB := hid_ hib
          have HY : Hid (x2 + sm = y ∧ i64w y) := hid_ ⟨hy, by have := (i64B_iff y).1 hib; exact this⟩
          have BS := hid_ (Bel.setBx (j := 2) BD.out HGA.out.2 (.int .i64 y))
          clear hib hy
          by_cases hw : p0 = worldS
          · have qw : (p0.toList == ([119, 111, 114, 108, 100] : List UInt8)) = true := by rw [worldEq]; exact decide_eq_true hw
            have HNW : Hid (¬ (p0 ≠ worldS ∧ y < x3)) := hid_ (fun h => h.1 hw)
            clear hw
            have HPG2 := hid_ (HST2.out.2.2 HSO.out HIB.out HNW.out)
            have hWlen := with_len L ⟨p0, p1, y, x3⟩
            have HWL := hid_ hWlen
            clear hWlen
            go_wp2_with fail
            clear q0 q2 q3 q1 qp fz hne qw 
            refine (with_any A' n' c' L p0 p1 y x3 _ (hRL.out.2.1.bel BS.out) hRL.out.1 hSL.out.1 (by have := hSL.out.2.2; have := HPN.out.2; omega)).mono ?_
            rintro e Ww ⟨v, rfl, o, bw⟩
            obtain ⟨A2, c2, rfl, hc2, r2⟩ := o.reads
            have HRL2 := hid_ (And.intro hc2 (And.intro r2 (o.mono_ (B3.out.trans (hBr.out.trans BS.out)).size_)))
            have HBW := hid_ (hBr.out.trans (BS.out.trans bw))
            have HSL2 : Hid (Srt (withA L ⟨p0, p1, y, x3⟩) ∧ (∀ a ∈ withA L ⟨p0, p1, y, x3⟩, i64w a.balance) ∧ (withA L ⟨p0, p1, y, x3⟩).length ≤ 90000 + (k + 1)) := hid_ ⟨srt_with hSL.out.1 _, fun a ha => by
              rcases mem_with hSL.out.1 ha with ⟨h, _⟩ | ⟨h, _⟩
              · exact hSL.out.2.1 a h
              · rw [h]; exact HY.out.2, by have h1 := HWL.out; have h2 := hSL.out.2.2; have h3 := hRL.out.2.1.1; omega⟩
            clear o bw hc2 r2
            go_wp2
            case roundEnd =>
              go_round
              case rel => exact ⟨k + 1, _, A2, _, c2, by omega, by go_num, rfl, HRL2, HSL2, HPG2, HBW⟩
              case measure => simp [intOf]; omega
          have qw : (p0.toList == ([119, 111, 114, 108, 100] : List UInt8)) = false := by rw [worldEq]; exact decide_eq_false hw
          have HW := hid_ hw
          clear hw
          by_cases hlt : y < x3
          · have HF := hid_ (HST2.out.2.1 HSO.out HIB.out ⟨HW.out, hlt⟩)
            have HBF := hid_ (B3.out.trans (hBr.out.trans BS.out))
            clear HST2 hRL hSL hPG hBr
            go_wp2
            go_ret2
            exact ⟨.slice none 0 0, by rw [HF.out.1]; rfl, by rw [HF.out.2]; exact Own.nil_ _ _ _, HBF.out⟩
          · have HNW : Hid (¬ (p0 ≠ worldS ∧ y < x3)) := hid_ (fun h => hlt h.2)
            have dl : decide (y < x3) = false := decide_eq_false hlt
            have HPG2 := hid_ (HST2.out.2.2 HSO.out HIB.out HNW.out)
            have hWlen := with_len L ⟨p0, p1, y, x3⟩
            have HWL := hid_ hWlen
            clear hWlen
            go_wp2_with fail
            clear q0 q2 q3 q1 qp fz hne qw dl hlt
            refine (with_any A' n' c' L p0 p1 y x3 _ (hRL.out.2.1.bel BS.out) hRL.out.1 hSL.out.1 (by have := hSL.out.2.2; have := HPN.out.2; omega)).mono ?_
            rintro e Ww ⟨v, rfl, o, bw⟩
            obtain ⟨A2, c2, rfl, hc2, r2⟩ := o.reads
            have HRL2 := hid_ (And.intro hc2 (And.intro r2 (o.mono_ (B3.out.trans (hBr.out.trans BS.out)).size_)))
            have HBW := hid_ (hBr.out.trans (BS.out.trans bw))
            have HSL2 : Hid (Srt (withA L ⟨p0, p1, y, x3⟩) ∧ (∀ a ∈ withA L ⟨p0, p1, y, x3⟩, i64w a.balance) ∧ (withA L ⟨p0, p1, y, x3⟩).length ≤ 90000 + (k + 1)) := hid_ ⟨srt_with hSL.out.1 _, fun a ha => by
              rcases mem_with hSL.out.1 ha with ⟨h, _⟩ | ⟨h, _⟩
              · exact hSL.out.2.1 a h
              · rw [h]; exact HY.out.2, by have h1 := HWL.out; have h2 := hSL.out.2.2; have h3 := hRL.out.2.1.1; omega⟩
            clear o bw hc2 r2
            go_wp2
            case roundEnd =>
              go_round
              case rel => exact ⟨k + 1, _, A2, _, c2, by omega, by go_num, rfl, HRL2, HSL2, HPG2, HBW⟩
              case measure => simp [intOf]; omega
        · obtain rfl : k = np := by omega
          have hE := post_end hPG.out (Nat.le_of_eq HNP.out.2)
          have HE := hid_ hE
          have HF := hid_ hRL.out.2.2
          have HBF := hid_ (B3.out.trans hBr.out)
          clear hE hRL hSL hPG hBr hkn
          go_wp2
          go_ret2
          exact ⟨_, by rw [HE.out.1]; rfl, by rw [HE.out.2]; exact HF.out, HBF.out⟩
end Go.Proofs.YtnpinolhhnpniaaGreat
