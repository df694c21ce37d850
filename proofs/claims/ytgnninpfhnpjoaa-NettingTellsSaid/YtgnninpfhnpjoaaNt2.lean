/- coin.Sub; netting.Gross, Legs, Zero. -/
import Derived.Test.YtgnninpfhnpjoaaNt1
import Derived.Test.YtgnninpfhnpjoaaCAdd
import Derived.Test.YtgnninpfhnpjoaaTyLeg
import Derived.Test.YtgnninpfhnpjoaaAcR
import Derived.Deep.QuietTactic
set_option linter.unusedSimpArgs false
set_option linter.unusedVariables false
namespace Go.Proofs.Ytgnninpfhnpjoaa
open Go.RowKit Go.Lib Go.Maps
theorem under64 (a b : Int) (ha : -9223372036854775808 ≤ a ∧ a ≤ 9223372036854775807) (hb : -9223372036854775808 ≤ b ∧ b ≤ 9223372036854775807) :
    bits .and .i64 (bits .xor .i64 a b) (bits .xor .i64 a (wrap64 (a - b))) < 0 ↔ i64B (a - b) = false := by
  have hs : -9223372036854775808 ≤ wrap64 (a - b) ∧ wrap64 (a - b) ≤ 9223372036854775807 := by unfold wrap64; omega
  have e : bits .and .i64 (bits .xor .i64 a b) (bits .xor .i64 a (wrap64 (a - b))) = ((BitVec.ofInt 64 a ^^^ BitVec.ofInt 64 b) &&& (BitVec.ofInt 64 a ^^^ BitVec.ofInt 64 (wrap64 (a - b)))).toInt := by
    rw [and64, xor64, xor64, BitVec.ofInt_toInt, BitVec.ofInt_toInt]
  rw [e]
  have h1 : ∀ X : BitVec 64, X.toInt < 0 ↔ X.msb = true := fun X => by rw [BitVec.msb_eq_toInt, decide_eq_true_eq]
  rw [h1, BitVec.msb_and, BitVec.msb_xor, BitVec.msb_xor, msb64 ha, msb64 hb, msb64 hs]
  unfold i64B
  by_cases c1 : a < 0 <;> by_cases c2 : b < 0 <;> by_cases c3 : wrap64 (a - b) < 0 <;> simp [c1, c2, c3] <;> (unfold wrap64 at c3; omega)
def subV (a b : Int) : Int := if i64B (a - b) then a - b else 0
def subE (a b : Int) : Int := if i64B (a - b) then 0 else 10
theorem sub_any (a b : Int) (w : World) (ha : -9223372036854775808 ≤ a ∧ a ≤ 9223372036854775807) (hb : -9223372036854775808 ≤ b ∧ b ≤ 9223372036854775807) :
    Calls Try.prog 50 #[.int .i64 a, .int .i64 b] w fun e w' => e = .returned (.tuple #[.int .i64 (subV a b), .int .i64 (subE a b)]) ∧ w = w' := by
  have HO := under64 a b ha hb
  obtain ⟨x, hx⟩ : ∃ x, bits .and .i64 (bits .xor .i64 a b) (bits .xor .i64 a (wrap64 (a - b))) = x := ⟨_, rfl⟩
  rw [hx] at HO
  obtain ⟨v, hv⟩ : ∃ v, subV a b = v := ⟨_, rfl⟩
  obtain ⟨e, he⟩ : ∃ e, subE a b = e := ⟨_, rfl⟩
  rw [hv, he]
  cases hk : i64B (a - b)
  · have h0 : x < 0 := HO.2 hk
    have ev : v = 0 := by rw [← hv]; unfold subV; rw [hk]; rfl
    have ee : e = 10 := by rw [← he]; unfold subE; rw [hk]; rfl
    subst ev ee
    clear HO hk hv he
    go_enter Try.func50, Try.ntmps50
    go_wp2
    go_ret2
    exact ⟨rfl, rfl⟩
  · have h0 : decide (x < 0) = false := decide_eq_false (fun h => by rw [HO.1 h] at hk; cases hk)
    have hsw : wrap64 (a - b) = a - b := by have := (i64B_iff _).1 hk; unfold wrap64; omega
    have ev : v = a - b := by rw [← hv]; unfold subV; rw [hk]; rfl
    have ee : e = 0 := by rw [← he]; unfold subE; rw [hk]; rfl
    rw [hsw] at hx
    subst ev ee
    clear HO hk hv he
    go_enter Try.func50, Try.ntmps50
    go_wp2
    go_ret2
    refine ⟨?_, rfl⟩
    show Ending.returned (.tuple #[.int .i64 (wrap64 (a - b)), .int .i64 0]) = _
    rw [hsw]
theorem least_take {l : List Due} {k : Nat} {o : Due} (h : l[k]? = some o) : leastB (l.take (k + 1)) = (leastB (l.take k) || decide (o.amount = -9223372036854775808)) := by
  unfold leastB
  rw [List.take_add_one, h]
  simp
theorem least_at {l : List Due} {o : Due} (h : o ∈ l) (he : o.amount = -9223372036854775808) : grossE l = 10 ∧ grossO l = [] := by
  have : leastB l = true := List.any_eq_true.2 ⟨o, h, by simpa using he⟩
  unfold grossE grossO
  simp [this]
theorem gross_not {l : List Due} (h : leastB l = false) : grossE l = netE (owedL l) ∧ grossO l = netO (owedL l) := by
  unfold grossE grossO
  simp [h]
set_option maxRecDepth 10000 in
set_option maxHeartbeats 2000000 in
theorem gross_any (A : Option Addr) (n c : Nat) (l : List Due) (w : World) (hA : Row dueT w A n l) (hn : n ≤ 90000) (hz : ∀ x ∈ l, x.who.size ≤ 9223372036854775807 ∧ x.asset.size ≤ 9223372036854775807 ∧ i64w' x.amount) :
    Calls Try.prog 19 #[.slice A n c] w fun e w' => ∃ v, e = .returned (.tuple #[v, .int .i64 (grossE l)]) ∧ Own dueT w' w.heap.size v (grossO l) ∧ Bel w w' := by
  have hn63 := hA.2.1
  have HA := hid_ hA
  have HZ := hid_ hz
  have HN := hid_ hn
  have HL := hid_ hA.1
  obtain ⟨re, hre⟩ : ∃ r, grossE l = r := ⟨_, rfl⟩
  obtain ⟨ro, hro⟩ : ∃ r, grossO l = r := ⟨_, rfl⟩
  rw [hre, hro]
  have HR := hid_ (And.intro hre hro)
  clear hA hz hn hre hro
  go_enter Try.func19, Try.ntmps19
  go_wp2_with fail
  go_loopw [4, 6, 11] (fun v _ i wr => ∃ j : Nat, j ≤ n ∧ i = .int .i64 j ∧ Hid (Own dueT wr w.heap.size v (owedL (l.take j))) ∧ Hid (leastB (l.take j) = false) ∧ Hid (Bel w wr)) (fun _ _ i _ => n - (intOf i).toNat)
  case atStart => exact ⟨0, Nat.zero_le _, rfl, hid_ (Own.nil_ _ _ _), hid_ rfl, hid_ (Bel.refl _)⟩
  case round =>
    obtain ⟨j, hj, rfl, hO, hLs, hB⟩ := hrel
    by_cases hjn : j < n
    · obtain ⟨ad, g0, g1, g2, rfl, ho, d0, d1, d2⟩ := (HA.out.bel hB.out).due hjn
      have HST := hid_ (And.intro (owedL_step ho) (least_take ho))
      have HMM := hid_ (List.mem_of_getElem? ho)
      have HG := hid_ (HZ.out _ (List.mem_of_getElem? ho)).2.2
      clear ho
      have i0 : (0 : Int) ≤ (j : Int) := by omega
      have i1 : (j : Int) < (n : Int) := by omega
      have k1 := hid_ (Bx.new wr 33 [.string g0, .string g1, .int .i64 g2])
      have B1 := hid_ (hB.out.alloc (.cells #[.string g0, .string g1, .int .i64 g2] 33))
      have O1 := hid_ (hO.out.bel ((Bel.refl wr).alloc (.cells #[.string g0, .string g1, .int .i64 g2] 33)))
      clear hO hB
      go_upto_region 5 with (fail)
      generalize wr.alloc (.cells #[.string g0, .string g1, .int .i64 g2] 33) = W1 at k1 B1 O1 ⊢
      generalize wr.heap.size = gG at k1 ⊢
      clear d0 d1 d2
      have q0 := k1.out.cell 0 rfl
      have q1 := k1.out.cell 1 rfl
      have q2 := k1.out.cell 2 rfl
      by_cases hneg : g2 < 0
      · have dn : decide (0 ≤ g2) = false := decide_eq_false (by omega)
        go_wp2_with fail
        refine (sub_any 0 g2 _ (by omega) HG.out).mono ?_
        rintro e _ ⟨rfl, rfl⟩
        by_cases hmin : g2 = -9223372036854775808
        · have HF := hid_ (least_at HMM.out hmin)
          subst hmin
          rw [show subV 0 (-9223372036854775808) = 0 from by decide, show subE 0 (-9223372036854775808) = 10 from by decide]
          clear HST O1 hLs dn
          go_wp2
          go_ret2
          exact ⟨.slice none 0 0, by rw [← HR.out.1, HF.out.1]; rfl, by rw [← HR.out.2, HF.out.2]; exact Own.nil_ _ _ _, B1.out⟩
        · have hg : i64w' g2 := HG.out
          unfold i64w' at hg
          rw [show subV 0 g2 = -g2 by unfold subV; rw [(i64B_iff _).2 (by omega)]; simp, show subE 0 g2 = 0 by unfold subE; rw [(i64B_iff _).2 (by omega)]; rfl]
          have HF : Hid (owedL (l.take (j + 1)) = owedL (l.take j) ++ [⟨g0, g1, -g2⟩] ∧ leastB (l.take (j + 1)) = false) := hid_ (by
            constructor
            · rw [HST.out.1, if_pos hneg]
            · rw [HST.out.2, hLs.out, decide_eq_false hmin]; rfl)
          have HSL : Hid (((owedL (l.take j)).length + 1) * 40 ≤ 140737488355328) := hid_ (by
            have h1 := owedL_len (l.take j)
            have h2 : (l.take j).length ≤ j := by rw [List.length_take]; omega
            have h3 := HN.out
            omega)
          clear HST hLs hg dn hmin
          go_wp2_with (at_builtin; refine wpApp (w0 := w) dueS rfl _ _ rfl _ (owedL (l.take j)) [⟨g0, g1, -g2⟩] (some ⟨W1.heap.size, 0, none⟩) 1 1 rfl rfl (O1.out.alloc_ _) (Row.one (T := dueT) ⟨g0, g1, -g2⟩ rfl rfl) (B1.out.alloc _) HSL.out ?_; intro v1 x1 hO1 hb1 hg1 hat1)
          case roundEnd =>
            go_round
            case rel => exact ⟨j + 1, by omega, by go_num, hid_ (by rw [HF.out.1]; exact hO1), hid_ HF.out.2, hid_ hb1⟩
            case measure => simp [intOf]; omega
      · have HF : Hid (owedL (l.take (j + 1)) = owedL (l.take j) ∧ leastB (l.take (j + 1)) = false) := hid_ (by
          constructor
          · rw [HST.out.1, if_neg hneg, List.append_nil]
          · rw [HST.out.2, hLs.out, decide_eq_false (by show ¬ g2 = _; omega)]; rfl)
        have dn : 0 ≤ g2 := by omega
        clear HST hLs
        go_wp2
        case roundEnd =>
          go_round
          case rel => exact ⟨j + 1, by omega, by go_num, hid_ (by rw [HF.out.1]; exact O1.out), hid_ HF.out.2, B1⟩
          case measure => simp [intOf]; omega
    · obtain rfl : n = j := by omega
      have hO2 := hO.out
      have hL2 := hLs.out
      rw [show l.take n = l from List.take_of_length_le (by rw [HL.out]; exact Nat.le_refl _)] at hO2 hL2
      have HF := hid_ (gross_not hL2)
      obtain ⟨X, k, rfl, hk, rx⟩ := hO2.reads
      have RX := hid_ rx
      have HZO : Hid (∀ x ∈ owedL l, x.who.size ≤ 9223372036854775807 ∧ x.asset.size ≤ 9223372036854775807 ∧ i64w' x.amount) := hid_ (by
        intro x hx
        obtain ⟨y, hy, hn, rfl⟩ := owed_mem hx
        have h1 := HZ.out y hy
        have h2 := h1.2.2
        have h3 : ¬ y.amount = -9223372036854775808 := fun e => by
          have : leastB l = true := List.any_eq_true.2 ⟨y, hy, by simpa using e⟩
          rw [hL2] at this
          cases this
        unfold i64w' at h2 ⊢
        exact ⟨h1.1, h1.2.1, by show _ ≤ -y.amount ∧ -y.amount ≤ _; omega⟩)
      clear hO hO2 hLs hL2 hk rx hjn hj
      go_wp2_with fail
      refine (net_any X _ k (owedL l) wr RX.out (by have h1 := owedL_len l; rw [HL.out] at h1; exact Nat.le_trans h1 HN.out) HZO.out).mono ?_
      rintro e w2 ⟨v, rfl, o, b⟩
      have HO := hid_ (o.mono_ hB.out.size_)
      have HB2 := hid_ (hB.out.trans b)
      clear o b RX hB
      go_wp2
      go_ret2
      exact ⟨v, by rw [← HR.out.1, HF.out.1]; rfl, by rw [← HR.out.2, HF.out.2]; exact HO.out, HB2.out⟩
theorem leg1_any (a0 a1 : ByteArray) (a2 : Int) (w : World) :
    Calls Try.prog 52 #[.agg #[.string a0, .string a1, .int .i64 a2]] w fun e w' => e = .returned (.agg #[.string a0, .string a1, .int .i64 a2]) ∧ Bel w w' := by
  have k1 := Bx.new (w.alloc (.cells #[.string a0, .string a1, .int .i64 a2] 33)) 52 [.string a0, .string a1, .int .i64 a2]
  have BW : Bel w ((w.alloc (.cells #[.string a0, .string a1, .int .i64 a2] 33)).alloc (.cells #[.string a0, .string a1, .int .i64 a2] 52)) := ((Bel.refl w).alloc _).alloc _
  rw [sizeAl] at k1
  have K := hid_ k1
  have HB := hid_ BW
  clear k1 BW
  go_enter Try.func52, Try.ntmps52
  go_wp2
  refine bodyPost_ret (results_c rfl _ _ (w.heap.size + 1) 52 _ (0, 0) _ rfl K.out Try.underlying52 rfl (by kernel_rfl)) rfl ?_
  exact ⟨rfl, HB.out⟩
set_option maxRecDepth 10000 in
set_option maxHeartbeats 2000000 in
theorem each_any (A : Option Addr) (n c : Nat) (l : List Due) (w : World) (hA : Row dueT w A n l) (hn : n ≤ 90000) :
    Calls Try.prog 51 #[.slice A n c, .func (.func 52) #[] #[]] w fun e w' => ∃ v, e = .returned v ∧ Own legT w' w.heap.size v l ∧ Bel w w' := by
  have hn63 := hA.2.1
  have HA := hid_ hA
  have HN := hid_ hn
  have HL := hid_ hA.1
  clear hA hn
  go_enter Try.func51, Try.ntmps51
  go_wp2_with fail
  go_loopw [4, 6, 9] (fun v _ i wr => ∃ j : Nat, j ≤ n ∧ i = .int .i64 j ∧ Hid (Own legT wr w.heap.size v (l.take j)) ∧ Hid (Bel w wr)) (fun _ _ i _ => n - (intOf i).toNat)
  case atStart => exact ⟨0, Nat.zero_le _, rfl, hid_ (Own.nil_ _ _ _), hid_ (Bel.refl _)⟩
  case round =>
    obtain ⟨j, hj, rfl, hO, hB⟩ := hrel
    by_cases hjn : j < n
    · obtain ⟨ad, g0, g1, g2, rfl, ho, d0, d1, d2⟩ := (HA.out.bel hB.out).due hjn
      have HST : Hid (l.take (j + 1) = l.take j ++ [⟨g0, g1, g2⟩]) := hid_ (by rw [List.take_add_one, ho]; rfl)
      clear ho
      have i0 : (0 : Int) ≤ (j : Int) := by omega
      have i1 : (j : Int) < (n : Int) := by omega
      have k1 := hid_ (Bx.new wr 33 [.string g0, .string g1, .int .i64 g2])
      have B1 := hid_ (hB.out.alloc (.cells #[.string g0, .string g1, .int .i64 g2] 33))
      have O1 := hid_ (hO.out.bel ((Bel.refl wr).alloc (.cells #[.string g0, .string g1, .int .i64 g2] 33)))
      clear hO hB
      go_upto_region 4 with (fail)
      generalize wr.alloc (.cells #[.string g0, .string g1, .int .i64 g2] 33) = W1 at k1 B1 O1 ⊢
      generalize wr.heap.size = gG at k1 ⊢
      clear d0 d1 d2
      have q0 := k1.out.cell 0 rfl
      have q1 := k1.out.cell 1 rfl
      have q2 := k1.out.cell 2 rfl
      go_wp2_with fail
      refine (leg1_any g0 g1 g2 W1).mono ?_
      rintro e W2 ⟨rfl, b2⟩
      have B2 := hid_ (B1.out.trans b2)
      have O2 := hid_ (O1.out.bel b2)
      have HSL : Hid (((l.take j).length + 1) * 40 ≤ 140737488355328) := hid_ (by
        have h2 : (l.take j).length ≤ j := by rw [List.length_take]; omega
        have h3 := HN.out
        omega)
      clear b2 q0 q1 q2 B1 O1
      go_wp2_with (at_builtin; refine wpApp (w0 := w) legS rfl _ _ rfl _ (l.take j) [⟨g0, g1, g2⟩] (some ⟨W2.heap.size, 0, none⟩) 1 1 rfl rfl (O2.out.alloc_ _) (Row.one (T := legT) ⟨g0, g1, g2⟩ rfl rfl) (B2.out.alloc _) HSL.out ?_; intro v1 x1 hO1 hb1 hg1 hat1)
      case roundEnd =>
        go_round
        case rel => exact ⟨j + 1, by omega, by go_num, hid_ (by rw [HST.out]; exact hO1), hid_ hb1⟩
        case measure => simp [intOf]; omega
    · obtain rfl : n = j := by omega
      have hO2 := hO.out
      rw [show l.take n = l from List.take_of_length_le (by rw [HL.out]; exact Nat.le_refl _)] at hO2
      have HO := hid_ hO2
      clear hO hO2 hjn hj
      go_wp2
      go_ret
      exact ⟨_, rfl, HO.out, hB.out⟩
set_option maxRecDepth 10000 in
theorem legs_any (A : Option Addr) (n c : Nat) (l : List Due) (w : World) (hA : Row dueT w A n l) (hn : n ≤ 90000) :
    Calls Try.prog 23 #[.slice A n c] w fun e w' => ∃ v, e = .returned v ∧ Own legT w' w.heap.size v l ∧ Bel w w' := by
  have HA := hid_ hA
  clear hA
  go_enter Try.func23, Try.ntmps23
  go_wp2_with fail
  refine (each_any A n c l w HA.out hn).mono ?_
  rintro e w2 ⟨v, rfl, o, b⟩
  have HO := hid_ o
  have HB := hid_ b
  clear o b
  go_wp2
  go_ret
  exact ⟨_, rfl, HO.out, HB.out⟩
end Go.Proofs.Ytgnninpfhnpjoaa
