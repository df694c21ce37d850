/- cambistref17.Gross, Zero, Legs. -/
import Derived.Test.YtgnninpfhnpjoaaNtR
import Derived.Test.YtgnninpfhnpjoaaNt3
set_option linter.unusedSimpArgs false
set_option linter.unusedVariables false
namespace Go.Proofs.Ytgnninpfhnpjoaa
open Go.RowKit Go.Lib
set_option maxRecDepth 10000 in
set_option maxHeartbeats 4000000 in
theorem grossR_any (A : Option Addr) (n c : Nat) (l : List Due) (w : World) (hA : Row dueT w A n l) (hn : n ≤ 90000) (hz : ∀ x ∈ l, x.who.size ≤ 9223372036854775807 ∧ x.asset.size ≤ 9223372036854775807 ∧ i64w' x.amount) :
    Calls Try.prog 20 #[.slice A n c] w fun e w' => ∃ v, e = .returned (.tuple #[v, .int .i64 (grossE l)]) ∧ Own dueT w' w.heap.size v (grossO l) ∧ Bel w w' := by
  have hn63 := hA.2.1
  have HA := hid_ hA
  have HZ := hid_ hz
  have HN := hid_ hn
  have HL := hid_ hA.1
  obtain ⟨re, hre⟩ : ∃ r, grossE l = r := ⟨_, rfl⟩
  obtain ⟨ro, hro⟩ : ∃ r, grossO l = r := ⟨_, rfl⟩
  rw [hre, hro]
  have HR := hid_ (And.intro hre hro)
  clear hA hz hn hre hro
  go_enter Try.func20, Try.ntmps20
  go_wp2_with fail
  go_loopw [4, 5] (fun v i wr => ∃ j : Nat, j ≤ n ∧ i = .int .i64 j ∧ Hid (Own dueT wr w.heap.size v (owedL (l.take j))) ∧ Hid (leastB (l.take j) = false) ∧ Hid (Bel w wr)) (fun _ i _ => n - (intOf i).toNat)
  case atStart => exact ⟨0, Nat.zero_le _, rfl, hid_ (Own.nil_ _ _ _), hid_ rfl, hid_ (Bel.refl _)⟩
  case round =>
    obtain ⟨j, hj, rfl, hO, hLs, hB⟩ := hrel
    by_cases hjn : j < n
    · obtain ⟨ad, g0, g1, g2, rfl, ho, z0, z1, z2⟩ := HA.out.due hjn
      have d0 := hB.out.cell_ z0
      have d1 := hB.out.cell_ z1
      have d2 := hB.out.cell_ z2
      have HST := hid_ (And.intro (owedL_step ho) (least_take ho))
      have HMM := hid_ (List.mem_of_getElem? ho)
      have HG := hid_ (HZ.out _ (List.mem_of_getElem? ho)).2.2
      clear ho
      have i0 : (0 : Int) ≤ (j : Int) := by omega
      have i1 : (j : Int) < (n : Int) := by omega
      by_cases hmin : g2 = -9223372036854775808
      · have HF := hid_ (least_at HMM.out hmin)
        subst hmin
        clear HST hO hLs
        go_wp2
        go_ret2
        exact ⟨.slice none 0 0, by rw [← HR.out.1, HF.out.1]; rfl, by rw [← HR.out.2, HF.out.2]; exact Own.nil_ _ _ _, hB.out⟩
      have dm : (g2 == (-9223372036854775808 : Int)) = false := by simp [hmin]
      by_cases hneg : g2 < 0
      · have HF : Hid (owedL (l.take (j + 1)) = owedL (l.take j) ++ [⟨g0, g1, -g2⟩] ∧ leastB (l.take (j + 1)) = false) := hid_ (by
          constructor
          · rw [HST.out.1, if_pos hneg]
          · rw [HST.out.2, hLs.out, decide_eq_false hmin]; rfl)
        have HNG : Hid (IntKind.i64.wrap (-g2) = -g2) := hid_ (by have h : i64w' g2 := HG.out; unfold i64w' at h; rw [IntKind.wrap_i64]; omega)
        have HSL : Hid (((owedL (l.take j)).length + 1) * 40 ≤ 140737488355328) := hid_ (by
          have h1 := owedL_len (l.take j)
          have h2 : (l.take j).length ≤ j := by rw [List.length_take]; omega
          have h3 := HN.out
          omega)
        clear HST hLs hmin
        go_upto_region 8 with (fail)
        obtain ⟨W0, hW0⟩ : ∃ W0, wr = W0 := ⟨_, rfl⟩
        rw [hW0] at hO hB d0 d1 d2 ⊢
        clear hW0 dm
        have HR1 : Hid (Row dueT (W0.alloc (.cells #[.string g0, .string g1, .int .i64 (IntKind.i64.wrap (-g2))] 33)) (some ⟨W0.heap.size, 0, none⟩) 1 [⟨g0, g1, IntKind.i64.wrap (-g2)⟩]) := hid_ (Row.one (T := dueT) ⟨g0, g1, IntKind.i64.wrap (-g2)⟩ rfl rfl)
        have hKP : ∀ W, Bel w W → (fun W => Bel w W ∧ W.cell? (ad.add (j * 3)) = some (.string g0) ∧ W.cell? ⟨(ad.add (j * 3)).block, (ad.add (j * 3)).off + 1, none⟩ = some (.string g1) ∧ W.cell? ⟨(ad.add (j * 3)).block, (ad.add (j * 3)).off + 2, none⟩ = some (.int .i64 g2)) W := fun W b => ⟨b, b.cell_ z0, b.cell_ z1, b.cell_ z2⟩
        have HKP := hid_ hKP
        have hBR := hB.out
        clear hKP
        go_region_held3 (fun W => Bel w W ∧ W.cell? (ad.add (j * 3)) = some (.string g0) ∧ W.cell? ⟨(ad.add (j * 3)).block, (ad.add (j * 3)).off + 1, none⟩ = some (.string g1) ∧ W.cell? ⟨(ad.add (j * 3)).block, (ad.add (j * 3)).off + 2, none⟩ = some (.int .i64 g2)) ((refine HKP.out _ ?_; repeat first | with_reducible exact hBR | with_reducible exact hb1 | with_reducible apply Bel.drew | with_reducible apply Bel.alloc))
          (first | (refine stepApp (w0 := w) dueS rfl _ _ rfl _ (owedL (l.take j)) [⟨g0, g1, IntKind.i64.wrap (-g2)⟩] (some ⟨W0.heap.size, 0, none⟩) 1 1 rfl rfl (hO.out.bel (by repeat first | with_reducible exact Bel.refl _ | with_reducible apply Bel.drew | with_reducible apply Bel.alloc)) (HR1.out.bel (by repeat first | with_reducible exact Bel.refl _ | with_reducible apply Bel.drew | with_reducible apply Bel.alloc)) (hB.out.trans (by repeat first | with_reducible exact Bel.refl _ | with_reducible apply Bel.drew | with_reducible apply Bel.alloc)) HSL.out ?_; intro v1 x1 hO1 hb1 hg1 hat1))
        all_goals (
          have HN1 : Hid (Own dueT x1 w.heap.size v1 (owedL (l.take (j + 1)))) := hid_ (by rw [HF.out.1]; rw [HNG.out] at hO1; exact hO1)
          have HB1 := hid_ hb1
          clear hO1 hb1 hg1 hat1 hO hB hBR HKP d0 d1 d2 z0 z1 z2
          go_wp2
          case roundEnd =>
            go_round
            case rel => exact ⟨j + 1, by omega, by go_num, HN1, hid_ HF.out.2, HB1⟩
            case measure => simp [intOf]; omega)
      · have HF : Hid (owedL (l.take (j + 1)) = owedL (l.take j) ∧ leastB (l.take (j + 1)) = false) := hid_ (by
          constructor
          · rw [HST.out.1, if_neg hneg, List.append_nil]
          · rw [HST.out.2, hLs.out, decide_eq_false hmin]; rfl)
        have dn : decide (g2 < 0) = false := decide_eq_false hneg
        clear HST hLs hmin
        go_wp2
        case roundEnd =>
          go_round
          case rel => exact ⟨j + 1, by omega, by go_num, hid_ (by rw [HF.out.1]; exact hO.out), hid_ HF.out.2, hB⟩
          case measure => simp [intOf]; omega
    · obtain rfl : n = j := by omega
      have hO2 := hO.out
      have hL2 := hLs.out
      rw [show l.take n = l from List.take_of_length_le (by rw [HL.out]; exact Nat.le_refl _)] at hO2 hL2
      have HF := hid_ (gross_not hL2)
      obtain ⟨X, k, rfl, hk, rx⟩ := hO2.reads
      have RX := hid_ rx
      have HZO : Hid (∀ x ∈ owedL l, x.who.size ≤ 9223372036854775807 ∧ x.asset.size ≤ 9223372036854775807 ∧ i64w' x.amount) := hid_ (by
        intro x hx
        obtain ⟨y, hy, hn, rfl⟩ := owed_mem hx
        have h1 := HZ.out y hy
        have h2 := h1.2.2
        have h3 : ¬ y.amount = -9223372036854775808 := fun e => by
          have : leastB l = true := List.any_eq_true.2 ⟨y, hy, by simpa using e⟩
          rw [hL2] at this
          cases this
        unfold i64w' at h2 ⊢
        exact ⟨h1.1, h1.2.1, by show _ ≤ -y.amount ∧ -y.amount ≤ _; omega⟩)
      clear hO hO2 hLs hL2 hk rx hjn hj
      go_wp2_with fail
      refine (netR_any X _ k (owedL l) wr RX.out (by have h1 := owedL_len l; rw [HL.out] at h1; exact Nat.le_trans h1 HN.out) HZO.out).mono ?_
      rintro e w2 ⟨v, rfl, o, b⟩
      have HO := hid_ (o.mono_ hB.out.size_)
      have HB2 := hid_ (hB.out.trans b)
      clear o b RX hB
      go_wp2
      go_ret2
      exact ⟨v, by rw [← HR.out.1, HF.out.1]; rfl, by rw [← HR.out.2, HF.out.2]; exact HO.out, HB2.out⟩
set_option maxRecDepth 10000 in
set_option maxHeartbeats 4000000 in
theorem legsR_any (A : Option Addr) (n c : Nat) (l : List Due) (w : World) (hA : Row dueT w A n l) (hn : n ≤ 90000) :
    Calls Try.prog 24 #[.slice A n c] w fun e w' => ∃ v, e = .returned v ∧ Own legT w' w.heap.size v l ∧ Bel w w' := by
  have hn63 := hA.2.1
  have HA := hid_ hA
  have HN := hid_ hn
  have HL := hid_ hA.1
  clear hA hn
  go_enter Try.func24, Try.ntmps24
  go_wp2_with fail
  go_loopw [3, 4] (fun v i wr => ∃ j : Nat, j ≤ n ∧ i = .int .i64 j ∧ Hid (Own legT wr w.heap.size v (l.take j)) ∧ Hid (Bel w wr)) (fun _ i _ => n - (intOf i).toNat)
  case atStart => exact ⟨0, Nat.zero_le _, rfl, hid_ (Own.nil_ _ _ _), hid_ (Bel.refl _)⟩
  case round =>
    obtain ⟨j, hj, rfl, hO, hB⟩ := hrel
    by_cases hjn : j < n
    · obtain ⟨ad, g0, g1, g2, rfl, ho, z0, z1, z2⟩ := HA.out.due hjn
      have d0 := hB.out.cell_ z0
      have d1 := hB.out.cell_ z1
      have d2 := hB.out.cell_ z2
      have HST : Hid (l.take (j + 1) = l.take j ++ [⟨g0, g1, g2⟩]) := hid_ (by rw [List.take_add_one, ho]; rfl)
      clear ho
      have i0 : (0 : Int) ≤ (j : Int) := by omega
      have i1 : (j : Int) < (n : Int) := by omega
      have HSL : Hid (((l.take j).length + 1) * 40 ≤ 140737488355328) := hid_ (by
        have h2 : (l.take j).length ≤ j := by rw [List.length_take]; omega
        have h3 := HN.out
        omega)
      go_upto_region 5 with (fail)
      obtain ⟨W0, hW0⟩ : ∃ W0, wr = W0 := ⟨_, rfl⟩
      rw [hW0] at hO hB d0 d1 d2 ⊢
      clear hW0
      have HR1 : Hid (Row legT (W0.alloc (.cells #[.string g0, .string g1, .int .i64 g2] 52)) (some ⟨W0.heap.size, 0, none⟩) 1 [⟨g0, g1, g2⟩]) := hid_ (Row.one (T := legT) ⟨g0, g1, g2⟩ rfl rfl)
      have hKP : ∀ W, Bel w W → (fun W => Bel w W ∧ W.cell? (ad.add (j * 3)) = some (.string g0) ∧ W.cell? ⟨(ad.add (j * 3)).block, (ad.add (j * 3)).off + 1, none⟩ = some (.string g1) ∧ W.cell? ⟨(ad.add (j * 3)).block, (ad.add (j * 3)).off + 2, none⟩ = some (.int .i64 g2)) W := fun W b => ⟨b, b.cell_ z0, b.cell_ z1, b.cell_ z2⟩
      have HKP := hid_ hKP
      have hBR := hB.out
      clear hKP
      go_region_held3 (fun W => Bel w W ∧ W.cell? (ad.add (j * 3)) = some (.string g0) ∧ W.cell? ⟨(ad.add (j * 3)).block, (ad.add (j * 3)).off + 1, none⟩ = some (.string g1) ∧ W.cell? ⟨(ad.add (j * 3)).block, (ad.add (j * 3)).off + 2, none⟩ = some (.int .i64 g2)) ((refine HKP.out _ ?_; repeat first | with_reducible exact hBR | with_reducible exact hb1 | with_reducible apply Bel.drew | with_reducible apply Bel.alloc))
        (first | (refine stepApp (w0 := w) legS rfl _ _ rfl _ (l.take j) [⟨g0, g1, g2⟩] (some ⟨W0.heap.size, 0, none⟩) 1 1 rfl rfl (hO.out.bel (by repeat first | with_reducible exact Bel.refl _ | with_reducible apply Bel.drew | with_reducible apply Bel.alloc)) (HR1.out.bel (by repeat first | with_reducible exact Bel.refl _ | with_reducible apply Bel.drew | with_reducible apply Bel.alloc)) (hB.out.trans (by repeat first | with_reducible exact Bel.refl _ | with_reducible apply Bel.drew | with_reducible apply Bel.alloc)) HSL.out ?_; intro v1 x1 hO1 hb1 hg1 hat1))
      all_goals (
        have HN1 : Hid (Own legT x1 w.heap.size v1 (l.take (j + 1))) := hid_ (by rw [HST.out]; exact hO1)
        have HB1 := hid_ hb1
        clear hO1 hb1 hg1 hat1 hO hB hBR HKP d0 d1 d2 z0 z1 z2
        go_wp2
        case roundEnd =>
          go_round
          case rel => exact ⟨j + 1, by omega, by go_num, HN1, HB1⟩
          case measure => simp [intOf]; omega)
    · obtain rfl : n = j := by omega
      have hO2 := hO.out
      rw [show l.take n = l from List.take_of_length_le (by rw [HL.out]; exact Nat.le_refl _)] at hO2
      have HO := hid_ hO2
      clear hO hO2 hjn hj
      go_wp2
      go_ret
      exact ⟨_, rfl, HO.out, hB.out⟩
set_option maxRecDepth 10000 in
set_option maxHeartbeats 4000000 in
theorem zeroR_any (A : Option Addr) (n c : Nat) (l : List Due) (w : World) (hA : Row dueT w A n l) (hn : n ≤ 90000) (hz : ∀ x ∈ l, x.who.size ≤ 9223372036854775807 ∧ x.asset.size ≤ 9223372036854775807 ∧ i64w' x.amount) :
    Calls Try.prog 26 #[.slice A n c] w fun e w' => e = .returned (.bool (zeroB l)) ∧ Bel w w' := by
  have hn63 := hA.2.1
  have HA := hid_ hA
  have HZ := hid_ hz
  have HN := hid_ hn
  have HL := hid_ hA.1
  have HI := hid_ (assL_i64 (legs := l) (fun x hx => (HZ.out x hx).2.2))
  have HAL : Hid (∀ p, (assL l p).length ≤ 1000000) := hid_ (fun p => Nat.le_trans (assL_len l p) (by rw [HL.out]; exact Nat.le_trans HN.out (by decide)))
  obtain ⟨re, hre⟩ : ∃ r, zeroB l = r := ⟨_, rfl⟩
  rw [hre]
  have HR := hid_ hre
  clear hA hz hn hre
  go_enter Try.func26, Try.ntmps26
  go_wp2_with fail
  go_loopw [3, 4, 5, 6, 7] (fun i _ _ _ _ wr => ∃ j : Nat, j ≤ n ∧ i = .int .i64 j ∧ Hid (∀ d ∈ l.take j, (assL l d.asset).sum = 0) ∧ Hid (Bel w wr)) (fun i _ _ _ _ _ => n - (intOf i).toNat)
  case atStart => exact ⟨0, Nat.zero_le _, rfl, hid_ (by simp), hid_ (Bel.refl _)⟩
  case round =>
    obtain ⟨j, hj, rfl, hS, hB⟩ := hrel
    by_cases hjn : j < n
    · obtain ⟨ad, g0, g1, g2, rfl, ho, d0, d1, d2⟩ := (HA.out.bel hB.out).due hjn
      have HTK : Hid (l.take (j + 1) = l.take j ++ [⟨g0, g1, g2⟩]) := hid_ (by rw [List.take_add_one, ho]; rfl)
      clear ho
      obtain ⟨W3, hW3⟩ : ∃ W3, wr = W3 := ⟨_, rfl⟩
      rw [hW3] at hB d1 ⊢
      clear hW3 d0 d2
      have HD := hid_ d1
      have HA3 := hid_ (HA.out.bel hB.out)
      have HJ := hid_ (And.intro hj hjn)
      have i0 : (0 : Int) ≤ (j : Int) := by omega
      have i1 : (j : Int) < (n : Int) := by omega
      clear d1
      go_wp2_with fail
      go_loopw [4, 5] (fun v i wr => ∃ q : Nat, q ≤ n ∧ i = .int .i64 q ∧ Hid (Own i64T wr W3.heap.size v (assL (l.take q) g1)) ∧ Hid (Bel W3 wr)) (fun _ i _ => n - (intOf i).toNat)
      case atStart => exact ⟨0, Nat.zero_le _, rfl, hid_ (Own.nil_ _ _ _), hid_ (Bel.refl _)⟩
      case round =>
        obtain ⟨q, hq, rfl, hOq, hBq⟩ := hrel
        by_cases hqn : q < n
        · obtain ⟨adx, k0, k1, k2, ex, hox, c0, c1, c2⟩ := (HA3.out.bel hBq.out).due hqn
          cases ex
          have HOX := hid_ (assL_step hox g1)
          have zc := hBq.out.cell_ HD.out
          have i2 : (0 : Int) ≤ (q : Int) := by omega
          have i3 : (q : Int) < (n : Int) := by omega
          have HQQ := hid_ (And.intro hq hqn)
          clear hox hq hqn c0
          obtain ⟨e1, he1⟩ : ∃ e1, (k1.toList == g1.toList) = e1 := ⟨_, rfl⟩
          have h1 := he1
          rw [bytesEq] at h1
          have HEQ := hid_ h1
          have HLN : Hid ((assL (l.take q) g1).length ≤ 90000) := hid_ (by
            have a1 := assL_len (l.take q) g1
            have a2 : (l.take q).length ≤ q := by rw [List.length_take]; omega
            have a3 := HN.out
            have a4 := HQQ.out
            omega)
          clear h1
          cases e1
          · have HN2 : Hid (assL (l.take (q + 1)) g1 = assL (l.take q) g1) := hid_ (by rw [HOX.out, if_neg (of_decide_eq_false HEQ.out), List.append_nil])
            go_upto_region 8 with (fail)
            go_quiet (fail)
            obtain ⟨W5, hW5, hb5⟩ : ∃ W5, wr.drewN nq = W5 ∧ Bel wr W5 := ⟨_, rfl, (Bel.refl wr).drewN _⟩
            rw [hW5]
            have O5 := hid_ (hOq.out.bel hb5)
            have B5 := hid_ (hBq.out.trans hb5)
            clear hW5 hb5 hOq hBq c1 c2 zc he1
            go_wp2
            case roundEnd =>
              go_roundw
              case rel => exact ⟨q + 1, HQQ.out.2, by go_num, hid_ (by rw [HN2.out]; exact O5.out), B5⟩
              case measure => have := HQQ.out.2; simp [intOf]; omega
          · have HN2 : Hid (assL (l.take (q + 1)) g1 = assL (l.take q) g1 ++ [k2]) := hid_ (by rw [HOX.out, if_pos (of_decide_eq_true HEQ.out)])
            go_upto_region 8 with (fail)
            go_quiet (fail)
            obtain ⟨W5, hW5, hb5⟩ : ∃ W5, wr.drewN nq = W5 ∧ Bel wr W5 := ⟨_, rfl, (Bel.refl wr).drewN _⟩
            rw [hW5]
            have O5 := hid_ (hOq.out.bel hb5)
            have B5 := hid_ (hBq.out.trans hb5)
            have c2 := hb5.cell_ c2
            clear hW5 hb5 hOq hBq c1 zc he1
            go_wp2_with (at_builtin; refine wpApp (w0 := W3) i64S rfl _ _ rfl _ (assL (l.take q) g1) [k2] (some ⟨W5.heap.size, 0, none⟩) 1 1 rfl rfl (O5.out.alloc_ _) (Row.one (T := i64T) k2 rfl rfl) (B5.out.alloc _) (by have := HLN.out; omega) ?_; intro v1 x1 hO1 hb1 hg1 hat1)
            case roundEnd =>
              go_roundw
              case rel => exact ⟨q + 1, HQQ.out.2, by go_num, hid_ (by rw [HN2.out]; exact hO1), hid_ hb1⟩
              case measure => have := HQQ.out.2; simp [intOf]; omega
        · obtain rfl : n = q := by omega
          have hO2 := hOq.out
          rw [show l.take n = l from List.take_of_length_le (by rw [HL.out]; exact Nat.le_refl _)] at hO2
          obtain ⟨Y, ky, rfl, hky, ry⟩ := hO2.reads
          have RY := hid_ ry
          have HB5 := hid_ (hB.out.trans hBq.out)
          clear hOq hO2 hqn hq hky ry hB hBq
          go_wp2_with fail
          refine (sumR_any Y _ ky (assL l g1) wr RY.out (HAL.out _) (HI.out _)).mono ?_
          rintro e W6 ⟨rfl, b6⟩
          have HB6 := hid_ (HB5.out.trans b6)
          clear b6 RY HB5
          by_cases hz0 : (assL l g1).sum = 0
          · obtain ⟨z1, z2⟩ := (sum_zero_iff _).2 hz0
            rw [z1, z2]
            have HS2 : Hid (∀ d ∈ l.take (j + 1), (assL l d.asset).sum = 0) := hid_ (fun p hp => by
              rw [HTK.out] at hp
              rcases List.mem_append.1 hp with hp | hp
              · exact hS.out p hp
              · simp at hp; subst hp; exact hz0)
            clear hz0 z1 z2 hS HTK
            go_wp2
            case roundEnd =>
              go_roundw
              case rel => exact ⟨j + 1, HJ.out.2, by go_num, HS2, HB6⟩
              case measure => have := HJ.out.2; simp [intOf]; omega
          · have HF : Hid (re = false) := hid_ (by rw [← HR.out]; exact zero_no hz0)
            cases hso : sumOk (assL l g1)
            · rw [show sumV (assL l g1) = 0 by unfold sumV; rw [hso]; rfl, show sumE (assL l g1) = 10 by unfold sumE; rw [hso]; rfl]
              clear hso hz0 hS HTK
              go_wp2
              go_ret
              exact ⟨by rw [HF.out]; rfl, HB6.out⟩
            · rw [show sumV (assL l g1) = (assL l g1).sum by unfold sumV; rw [hso, if_pos rfl], show sumE (assL l g1) = 0 by unfold sumE; rw [hso]; rfl]
              obtain ⟨sm, hsm⟩ : ∃ sm, (assL l g1).sum = sm := ⟨_, rfl⟩
              rw [hsm] at hz0 ⊢
              have j0 : (sm != 0) = true := by simp [hz0]
              clear hso hz0 hS hsm HTK
              go_wp2
              go_ret
              exact ⟨by rw [HF.out]; rfl, HB6.out⟩
    · obtain rfl : n = j := by omega
      have HF : Hid (re = true) := hid_ (by
        have h := hS.out
        rw [show l.take n = l from List.take_of_length_le (by rw [HL.out]; exact Nat.le_refl _)] at h
        rw [← HR.out]
        exact List.all_eq_true.2 (fun d hd => decide_eq_true (h d hd)))
      clear hS hjn hj
      go_wp2
      go_ret
      exact ⟨by rw [HF.out]; rfl, hB.out⟩
end Go.Proofs.Ytgnninpfhnpjoaa
