/- cambistref11.Check. -/
import Derived.Test.YtgnninpfhnpjoaaRSum
import Derived.Test.YtgnninpfhnpjoaaTot
import Derived.Test.YtgnninpfhnpjoaaAc11
import Derived.Test.YtgnninpfhnpjoaaPo2
import Derived.Test.YtgnninpfhnpjoaaNxR11
import Derived.Test.YtgnninpfhnpjoaaLit
import Derived.Deep.LoopGhost
import Derived.Deep.DeepCutAuto
import Derived.Test.YtgnninpfhnpjoaaAc8
set_option linter.unusedSimpArgs false
set_option linter.unusedVariables false
namespace Go.Proofs.Ytgnninpfhnpjoaa
open Go.RowKit Go.Lib
set_option maxRecDepth 10000 in
set_option maxHeartbeats 2000000 in
theorem sum11_any (A : Option Addr) (n c : Nat) (l : List Due) (p0 p1 : ByteArray) (w : World) (hA : Row legT w A n l) (hn : n ≤ 90000) (hz : ∀ x ∈ l, -9223372036854775808 ≤ x.amount ∧ x.amount ≤ 9223372036854775807) :
    Calls Try.prog 64 #[.slice A n c, .string p0, .string p1] w fun e w' => e = .returned (.tuple #[.int .i64 (sumV (amts l ⟨p0, p1⟩)), .int .i64 (sumE (amts l ⟨p0, p1⟩))]) ∧ Bel w w' := by
  have hn63 := hA.2.1
  have HA := hid_ hA
  have HL := hid_ hA.1
  have HN := hid_ hn
  have HI := hid_ (amts_i64 (legs := l) hz ⟨p0, p1⟩)
  obtain ⟨rv, hrv⟩ : ∃ r, sumV (amts l ⟨p0, p1⟩) = r := ⟨_, rfl⟩
  obtain ⟨re, hre⟩ : ∃ r, sumE (amts l ⟨p0, p1⟩) = r := ⟨_, rfl⟩
  rw [hrv, hre]
  have HR := hid_ (And.intro hrv hre)
  clear hA hn hz hrv hre
  go_enter Try.func64, Try.ntmps64
  go_wp2_with fail
  go_loopw [8, 9] (fun v i wr => ∃ j : Nat, j ≤ n ∧ i = .int .i64 j ∧ Hid (Own i64T wr w.heap.size v (amts (l.take j) ⟨p0, p1⟩)) ∧ Hid (Bel w wr)) (fun _ i _ => n - (intOf i).toNat)
  case atStart => exact ⟨0, Nat.zero_le _, rfl, hid_ (Own.nil_ _ _ _), hid_ (Bel.refl _)⟩
  case round =>
    obtain ⟨j, hj, rfl, hO, hB⟩ := hrel
    by_cases hjn : j < n
    · obtain ⟨ad, k0, k1, k2, rfl, ho, d0, d1, d2⟩ := (HA.out.bel hB.out).leg hjn
      have HST := hid_ (amts_step ho ⟨p0, p1⟩)
      clear ho
      have i0 : (0 : Int) ≤ (j : Int) := by omega
      have i1 : (j : Int) < (n : Int) := by omega
      obtain ⟨e1, he1⟩ : ∃ e1, (k0.toList == p0.toList) = e1 := ⟨_, rfl⟩
      obtain ⟨e2, he2⟩ : ∃ e2, (k1.toList == p1.toList) = e2 := ⟨_, rfl⟩
      have h1 := he1
      have h2 := he2
      rw [bytesEq] at h1 h2
      have HEQ : Hid ((e1 && e2) = decide ((⟨k0, k1⟩ : Plc) = ⟨p0, p1⟩)) := hid_ (by rw [← h1, ← h2, ← Bool.decide_and]; simp only [Plc.mk.injEq])
      clear h1 h2
      cases e1
      · have HF : Hid (amts (l.take (j + 1)) ⟨p0, p1⟩ = amts (l.take j) ⟨p0, p1⟩) := hid_ (by rw [HST.out, if_neg (fun e => by have := HEQ.out; rw [decide_eq_true (show (⟨k0, k1⟩ : Plc) = ⟨p0, p1⟩ from e)] at this; cases this), List.append_nil])
        clear HST HEQ
        go_wp2
        case roundEnd =>
          go_round
          case rel => exact ⟨j + 1, by omega, by go_num, hid_ (by rw [HF.out]; exact hO.out), hB⟩
          case measure => simp [intOf]; omega
      · cases e2
        · have HF : Hid (amts (l.take (j + 1)) ⟨p0, p1⟩ = amts (l.take j) ⟨p0, p1⟩) := hid_ (by rw [HST.out, if_neg (fun e => by have := HEQ.out; rw [decide_eq_true (show (⟨k0, k1⟩ : Plc) = ⟨p0, p1⟩ from e)] at this; cases this), List.append_nil])
          clear HST HEQ
          go_wp2
          case roundEnd =>
            go_round
            case rel => exact ⟨j + 1, by omega, by go_num, hid_ (by rw [HF.out]; exact hO.out), hB⟩
            case measure => simp [intOf]; omega
        · have HF : Hid (amts (l.take (j + 1)) ⟨p0, p1⟩ = amts (l.take j) ⟨p0, p1⟩ ++ [k2]) := hid_ (by rw [HST.out, if_pos]; exact of_decide_eq_true HEQ.out.symm)
          have HSL : Hid (((amts (l.take j) ⟨p0, p1⟩).length + 1) * 8 ≤ 140737488355328) := hid_ (by
            have h1 := amts_len (l.take j) ⟨p0, p1⟩
            have h2 : (l.take j).length ≤ j := by rw [List.length_take]; omega
            have h3 := HN.out
            omega)
          clear HST HEQ
          go_wp2_with (at_builtin; refine wpApp (w0 := w) i64S rfl _ _ rfl _ (amts (l.take j) ⟨p0, p1⟩) [k2] (some ⟨wr.heap.size, 0, none⟩) 1 1 rfl rfl (hO.out.alloc_ _) (Row.one (T := i64T) k2 rfl rfl) (hB.out.alloc _) HSL.out ?_; intro v1 x1 hO1 hb1 _ _)
          case roundEnd =>
            go_round
            case rel => exact ⟨j + 1, by omega, by go_num, hid_ (by rw [HF.out]; exact hO1), hid_ hb1⟩
            case measure => simp [intOf]; omega
    · obtain rfl : n = j := by omega
      have hO2 := hO.out
      rw [show l.take n = l from List.take_of_length_le (by rw [HL.out]; exact Nat.le_refl _)] at hO2
      obtain ⟨X, kx, rfl, hkx, rx⟩ := hO2.reads
      have RX := hid_ rx
      clear hO hO2 hjn hj hkx rx
      go_wp2_with fail
      refine (sumR_any X _ kx (amts l ⟨p0, p1⟩) wr RX.out (by have h1 := amts_len l ⟨p0, p1⟩; rw [HL.out] at h1; have := HN.out; omega) HI.out).mono ?_
      rintro e w2 ⟨rfl, b⟩
      have HB2 := hid_ (hB.out.trans b)
      rw [HR.out.1, HR.out.2]
      clear b RX hB
      go_wp2
      go_ret2
      exact ⟨rfl, HB2.out⟩
set_option maxRecDepth 10000 in
set_option maxHeartbeats 2000000 in
theorem totalR_any (A : Option Addr) (n c : Nat) (l : List Acc) (s : ByteArray) (w : World) (hA : Row accT w A n l) (hn : n ≤ 100000) (hz : ∀ x ∈ l, -9223372036854775808 ≤ x.balance ∧ x.balance ≤ 9223372036854775807) :
    Calls Try.prog 40 #[.slice A n c, .string s] w fun e w' => e = .returned (.tuple #[.int .i64 (sumV (balA l s)), .int .i64 (sumE (balA l s))]) ∧ Bel w w' := by
  have h63 := hA.2.1
  have HL := hid_ hA.1
  have HA := hid_ hA
  have HZ := hid_ hz
  have HN := hid_ hn
  obtain ⟨rv, hrv⟩ : ∃ r, sumV (balA l s) = r := ⟨_, rfl⟩
  obtain ⟨re, hre⟩ : ∃ r, sumE (balA l s) = r := ⟨_, rfl⟩
  rw [hrv, hre]
  have HR := hid_ (And.intro hrv hre)
  clear hA hz hn hrv hre
  go_enter Try.func40, Try.ntmps40
  go_wp2_with fail
  go_loopw [6, 7] (fun v i wr => ∃ j : Nat, j ≤ n ∧ i = .int .i64 j ∧ Hid (Own i64T wr w.heap.size v (balA (l.take j) s)) ∧ Hid (Bel w wr)) (fun _ i _ => n - (intOf i).toNat)
  case atStart => exact ⟨0, Nat.zero_le _, rfl, hid_ (Own.nil_ _ _ _), hid_ (Bel.refl _)⟩
  case round =>
    obtain ⟨j, hj, rfl, hO, hB⟩ := hrel
    by_cases hjn : j < n
    · obtain ⟨ad, o0, o1, o2, o3, rfl, ho, d0, d1, d2, d3⟩ := (HA.out.bel hB.out).acc hjn
      have HST := hid_ (balA_step ho s)
      clear ho
      have i0 : (0 : Int) ≤ (j : Int) := by omega
      have i1 : (j : Int) < (n : Int) := by omega
      obtain ⟨eb, heb⟩ : ∃ eb, (o1.toList == s.toList) = eb := ⟨_, rfl⟩
      have heb2 := heb
      rw [bytesEq] at heb2
      cases eb
      · have HF : Hid (balA (l.take j) s = balA (l.take (j + 1)) s) := hid_ (by rw [HST.out, if_neg (of_decide_eq_false heb2), List.append_nil])
        clear heb2 HST
        go_wp2
        case roundEnd =>
          go_round
          case rel => exact ⟨j + 1, by omega, by go_num, hid_ (by rw [← HF.out]; exact hO.out), hB⟩
          case measure => simp [intOf]; omega
      · have HF : Hid (balA (l.take j) s ++ [o2] = balA (l.take (j + 1)) s) := hid_ (by rw [HST.out, if_pos (of_decide_eq_true heb2)])
        have HSL : Hid (((balA (l.take j) s).length + 1) * 8 ≤ 140737488355328) := hid_ (by
          have h1 := balA_len (l.take j) s
          have h2 : (l.take j).length ≤ j := by rw [List.length_take]; omega
          have h3 := HN.out
          omega)
        clear heb2 HST
        go_wp2_with (at_builtin; refine wpApp (w0 := w) i64S rfl _ _ rfl _ (balA (l.take j) s) [o2] (some ⟨wr.heap.size, 0, none⟩) 1 1 rfl rfl (hO.out.alloc_ _) (Row.one (T := i64T) o2 rfl rfl) (hB.out.alloc _) HSL.out ?_; intro v1 x1 hO1 hb1 _ _)
        case roundEnd =>
          go_round
          case rel => exact ⟨j + 1, by omega, by go_num, hid_ (by rw [← HF.out]; exact hO1), hid_ hb1⟩
          case measure => simp [intOf]; omega
    · obtain rfl : n = j := by omega
      have hO2 := hO.out
      rw [show l.take n = l from List.take_of_length_le (by rw [HL.out]; exact Nat.le_refl _)] at hO2
      obtain ⟨X, k, rfl, hk, rx⟩ := hO2.reads
      have RX := hid_ rx
      clear hO hO2 hk rx hjn hj
      go_wp2_with fail
      refine (sumR_any X _ k (balA l s) wr RX.out (by have := balA_len l s; rw [HL.out] at this; have := HN.out; omega) (balA_i64 HZ.out s)).mono ?_
      rintro e w2 ⟨rfl, b⟩
      have HB2 := hid_ (hB.out.trans b)
      rw [HR.out.1, HR.out.2]
      clear b RX hB
      go_wp2
      go_ret2
      exact ⟨rfl, HB2.out⟩
theorem who_pos {s : ByteArray} (h : whoB s = true) : ltX ⟨#[]⟩ s = true := by
  rcases ltX_tot (a := (⟨#[]⟩ : ByteArray)) (b := s) (fun e => by rw [← e] at h; exact absurd h (by decide +kernel)) with k | k
  · exact k
  · exfalso
    unfold ltX at k
    cases hs : s.toList with
    | nil => rw [hs] at k; exact absurd k (by decide +kernel)
    | cons x r => rw [hs, show ByteArray.toList (⟨#[]⟩ : ByteArray) = [] by decide +kernel] at k; simp [Op.bytesLess] at k
theorem emP_lt {p : Plc} (h : namedB p = true) : ltP emP p = true := by
  unfold namedB at h
  rw [Bool.and_eq_true] at h
  rw [ltP_iff]
  exact .inl (who_pos h.1)
theorem names_same (who asset : ByteArray) (w : World) (h1 : who.size ≤ 4294967280) (h2 : asset.size ≤ 4294967280) :
    Calls Try.prog 56 #[.string who, .string asset] w fun e w' => e = .returned (.bool (namedB ⟨who, asset⟩)) ∧ w' = w := (namesR_any who asset w h1 h2).mono fun _ _ ⟨h, k⟩ => ⟨h, k.symm⟩
set_option maxRecDepth 10000 in
set_option maxHeartbeats 8000000 in
theorem postR_any (A : Option Addr) (n c : Nat) (l : List Acc) (B : Option Addr) (m d : Nat) (legs : List Due) (w : World) (hA : Row accT w A n l) (hs : Srt l) (hn : n ≤ 90000) (hB : Row legT w B m legs)
    (hz : ∀ x ∈ legs, x.who.size ≤ 4294967280 ∧ x.asset.size ≤ 4294967280 ∧ i64w x.amount) (hbal : ∀ a ∈ l, i64w a.balance) :
    Calls Try.prog 34 #[.slice A n c, .slice B m d] w fun e w' => ∃ v, e = .returned (.tuple #[v, .int .i64 (postE l legs)]) ∧ Own accT w' w.heap.size v (postO l legs) ∧ Bel w w' := by
  have hm63 := hB.2.1
  have HA := hid_ hA
  have HB := hid_ hB
  have HS := hid_ hs
  have HZ := hid_ hz
  have HBL := hid_ hbal
  have HLB := hid_ hB.1
  have HLA := hid_ hA.1
  have HN := hid_ hn
  obtain ⟨re, hre⟩ : ∃ r, postE l legs = r := ⟨_, rfl⟩
  obtain ⟨ro, hro⟩ : ∃ r, postO l legs = r := ⟨_, rfl⟩
  rw [hre, hro]
  have HR := hid_ (And.intro hre hro)
  clear hA hB hs hz hbal hre hro hn
  have HNO : Hid (mayPost legs = false → re = 1 ∧ ro = []) := hid_ (fun h => by
    have := postE_no (l := l) h
    exact ⟨HR.out.1 ▸ this.1, HR.out.2 ▸ this.2⟩)
  go_enter Try.func34, Try.ntmps34
  by_cases h1 : m < 1
  · have HF := hid_ (HNO.out (by unfold mayPost; rw [HLB.out, decide_eq_false (show ¬ 1 ≤ m by omega)]; rfl))
    go_wp2
    go_ret2
    exact ⟨.slice none 0 0, by rw [HF.out.1]; rfl, by rw [HF.out.2]; exact Own.nil_ _ _ _, Bel.refl _⟩
  by_cases h2 : 200 < m
  · have HF := hid_ (HNO.out (by unfold mayPost; rw [HLB.out, decide_eq_false (show ¬ m ≤ 200 by omega)]; simp))
    go_wp2
    go_ret2
    exact ⟨.slice none 0 0, by rw [HF.out.1]; rfl, by rw [HF.out.2]; exact Own.nil_ _ _ _, Bel.refl _⟩
  have HM : Hid (1 ≤ m ∧ m ≤ 200) := hid_ (by omega)
  have d1 : decide (m < 1) = false := decide_eq_false h1
  have d2 : decide (200 < m) = false := decide_eq_false h2
  go_wp2_with fail
  clear d1 d2 h1 h2
  go_loopw [6, 7] (fun i _ wr => ∃ j : Nat, j ≤ m ∧ i = .int .i64 j ∧ Hid (∀ x ∈ legs.take j, namedB x.plc = true) ∧ Hid (Bel w wr)) (fun i _ _ => m - (intOf i).toNat)
  case atStart => exact ⟨0, Nat.zero_le _, rfl, hid_ (by simp), hid_ (Bel.refl _)⟩
  case round =>
    obtain ⟨j, hj, rfl, hNM, hBR⟩ := hrel
    by_cases hjm : j < m
    · obtain ⟨ad, g0, g1, g2, rfl, ho, e0, e1, e2⟩ := (HB.out.bel hBR.out).leg hjm
      have HO := hid_ ho
      have HZ1 := hid_ (HZ.out _ (List.mem_of_getElem? ho))
      have HMM := hid_ (List.mem_of_getElem? ho)
      clear ho e2
      have i0 : (0 : Int) ≤ (j : Int) := by omega
      have i1 : (j : Int) < (m : Int) := by omega
      obtain ⟨nb, hnb⟩ : ∃ nb, namedB ⟨g0, g1⟩ = nb := ⟨_, rfl⟩
      have HNB := hid_ hnb
      clear hnb
      go_upto_region 6 with (fail)
      go_quiet ((go_at_call 56; exact Calls.quiet_of_same (names_same g0 g1 _ HZ1.out.1 HZ1.out.2.1)))
      rw [show namedB ⟨g0, g1⟩ = nb from HNB.out]
      obtain ⟨W2, hW2, hb2⟩ : ∃ W2, wr.drewN nq = W2 ∧ Bel wr W2 := ⟨_, rfl, (Bel.refl wr).drewN _⟩
      rw [hW2]
      have HB2 := hid_ (hBR.out.trans hb2)
      clear hW2 hb2 hBR e0 e1
      cases nb
      · have HF := hid_ (HNO.out (by
          unfold mayPost
          have : legs.all (fun d => namedB d.plc) = false := by
            cases ha : legs.all (fun d => namedB d.plc)
            · rfl
            · have := List.all_eq_true.1 ha _ HMM.out
              rw [show namedB (Due.plc ⟨g0, g1, g2⟩) = false from HNB.out] at this
              cases this
          rw [this]; simp))
        go_wp2
        go_ret2
        exact ⟨.slice none 0 0, by rw [HF.out.1]; rfl, by rw [HF.out.2]; exact Own.nil_ _ _ _, HB2.out⟩
      · have HN6 : Hid (∀ x ∈ legs.take (j + 1), namedB x.plc = true) := hid_ (by
          intro x hx
          rw [List.take_add_one, HO.out] at hx
          rcases List.mem_append.1 hx with hx | hx
          · exact hNM.out x hx
          · simp at hx
            subst hx
            exact HNB.out)
        clear hNM
        go_wp2
        case roundEnd =>
          go_round
          case rel => exact ⟨j + 1, by omega, by go_num, HN6, HB2⟩
          case measure => simp [intOf]; omega
    · obtain rfl : m = j := by omega
      have HALL : Hid (∀ x ∈ legs, namedB x.plc = true) := hid_ (by
        have h3 := hNM.out
        rw [List.take_of_length_le (by rw [HLB.out]; exact Nat.le_refl _)] at h3
        exact h3)
      have HNM : Hid (mayPost legs = true) := hid_ (by
        unfold mayPost
        rw [HLB.out, decide_eq_true HM.out.1, decide_eq_true HM.out.2, List.all_eq_true.2 HALL.out]
        rfl)
      have HST := hid_ (post_start (l := l) HNM.out)
      obtain ⟨P, hP⟩ : ∃ P, legP legs = P := ⟨_, rfl⟩
      have HP := hid_ hP
      have HPD : Hid (dueP legs = P) := hid_ hP
      have HPN : Hid (P.length ≤ 200) := hid_ (by rw [← hP]; exact Nat.le_trans (legP_len legs) (by rw [HLB.out]; exact HM.out.2))
      rw [hP] at HST
      obtain ⟨W0, hW0⟩ : ∃ W0, wr = W0 := ⟨_, rfl⟩
      rw [hW0] at hBR ⊢
      have FA := hid_ (HA.out.bel hBR.out)
      clear hNM hjm hj hP hW0
      go_wp2_with (at_builtin; refine wpApp (w0 := W0) accS rfl _ _ rfl _ [] l A n c rfl rfl (Own.litE (T := accT) W0 W0.heap.size _ _ rfl rfl (Nat.le_refl _)) (FA.out.bel ((Bel.refl W0).alloc _)) ((Bel.refl W0).alloc _) (by have := HN.out; simp; omega) ?_; intro v4 w4 hO4 hb4 _ _)
      have hO5 : Own accT w4 W0.heap.size v4 l := hO4
      obtain ⟨A4, c4, rfl, hc4, r4⟩ := hO5.reads
      rw [HLA.out] at hc4 r4 ⊢
      have HW4 := hid_ (hBR.out.trans hb4)
      have HRL0 := hid_ (And.intro hc4 (And.intro r4 ((show Own accT w4 W0.heap.size (.slice A4 n c4) l by rw [← HLA.out]; exact hO5).mono_ hBR.out.size_)))
      clear hO4 hO5 hc4 r4 hb4 hBR FA
      go_loopg [8, 9, 10] (P.length) (fun k v s9 s10 wr => ∃ (j : Nat) (L : List Acc) (q : Plc) (A' : Option Addr) (n' c' : Nat), j ≤ P.length ∧ k = P.length - j ∧ v = .slice A' n' c' ∧ s9 = .string q.who ∧ s10 = .string q.asset ∧ Hid ((j = 0 ∧ q = emP) ∨ (∃ i, j = i + 1 ∧ P[i]? = some q)) ∧ Hid (n' ≤ c' ∧ Row accT wr A' n' L ∧ Own accT wr w.heap.size (.slice A' n' c') L) ∧ Hid (Srt L ∧ (∀ a ∈ L, i64w a.balance) ∧ n' ≤ 90000 + j) ∧ Hid (postGo legs (P.drop j) L = (re, ro)) ∧ Hid (Bel w wr))
      case atStart => exact ⟨0, l, emP, A4, n, c4, Nat.zero_le _, rfl, rfl, rfl, rfl, hid_ (.inl ⟨rfl, rfl⟩), HRL0, hid_ ⟨HS.out, HBL.out, Nat.le_trans HN.out (by omega)⟩, hid_ (by rw [List.drop_zero, HST.out, HR.out.1, HR.out.2]), HW4⟩
      case round =>
        obtain ⟨j, L, ⟨q0, q1⟩, A', n', c', hj, rfl, rfl, rfl, rfl, hQ, hRL, hSL, hPG, hBr⟩ := hrel
        have HNX : Hid (nfold false ⟨q0, q1⟩ legs = P[j]?) := hid_ (by
          rcases hQ.out with ⟨rfl, e⟩ | ⟨i, rfl, e⟩
          · rw [e, ← HPD.out]
            exact nfold_empty (fun d hd => emP_lt (HALL.out d hd))
          · rw [← HPD.out]
            exact nfold_next legs (by rw [HPD.out]; exact e))
        clear hQ
        go_wp2_with fail
        refine (next11 _ m d legs q0 q1 wr (HB.out.bel hBr.out)).mono ?_
        rintro e Wn ⟨⟨r0, r1⟩, a, f, rfl, hN, bn⟩
        have HN2 : Hid ((if f then some (⟨r0, r1⟩ : Plc) else none) = P[j]?) := hid_ (hN.symm.trans HNX.out)
        have k11 := hid_ (Bx.new Wn 52 [.string r0, .string r1, .int .i64 a])
        have BA := hid_ (bn.alloc (.cells #[.string r0, .string r1, .int .i64 a] 52))
        clear hN bn HNX
        cases f
        · have HF := hid_ (post_end hPG.out (by
            have h1 : P[j]? = none := HN2.out.symm
            exact List.getElem?_eq_none_iff.1 h1))
          have HO := hid_ hRL.out.2.2
          have HBF := hid_ (hBr.out.trans BA.out)
          have HO2 := hid_ (HO.out.bel BA.out)
          clear hRL hSL hPG hBr HO
          go_wp2
          go_ret2
          exact ⟨_, by rw [HF.out.1]; rfl, by rw [HF.out.2]; exact HO2.out, HBF.out⟩
        have HPJ : Hid (P[j]? = some ⟨r0, r1⟩) := hid_ HN2.out.symm
        have HJ : Hid (j < P.length) := hid_ ((List.getElem?_eq_some_iff.1 HPJ.out).1)
        clear HN2
        go_upto_region 15 with (fail)
        generalize Wn.alloc (.cells #[.string r0, .string r1, .int .i64 a] 52) = Wa at k11 BA ⊢
        generalize Wn.heap.size = g11 at k11 ⊢
        have q0' := k11.out.cell 0 rfl
        have q1' := k11.out.cell 1 rfl
        obtain ⟨x2, x3, hfx⟩ : ∃ x2 x3, findA L ⟨r0, r1⟩ = ⟨r0, r1, x2, x3⟩ := by
          have h := findA_plc L ⟨r0, r1⟩
          obtain ⟨y, hy⟩ : ∃ y, findA L ⟨r0, r1⟩ = y := ⟨_, rfl⟩
          rw [hy] at h ⊢
          obtain ⟨y0, y1, y2, y3⟩ := y
          simp only [Acc.plc, Plc.mk.injEq] at h
          exact ⟨y2, y3, by rw [h.1, h.2]⟩
        have HFX := hid_ hfx
        have HX2 : Hid (i64w x2) := hid_ (by have := find_i64 hSL.out.2.1 ⟨r0, r1⟩; rw [hfx] at this; exact this)
        have HSTEP := hid_ (post_step hPG.out HPJ.out hfx)
        clear hfx hj
        go_wp2_with fail
        refine (findR_any A' n' c' L r0 r1 Wa (hRL.out.2.1.bel BA.out)).mono ?_
        rintro e Wb ⟨rfl, bb⟩
        rw [HFX.out, show (accC ⟨r0, r1, x2, x3⟩).toArray = #[.string r0, .string r1, .int .i64 x2, .int .i64 x3] from rfl]
        have kc := hid_ (Bx.new Wb 49 [.string r0, .string r1, .int .i64 x2, .int .i64 x3])
        have BC := hid_ ((BA.out.trans bb).alloc (.cells #[.string r0, .string r1, .int .i64 x2, .int .i64 x3] 49))
        have HGA : Hid (wr.heap.size ≤ Wb.heap.size) := hid_ (BA.out.trans bb).size_
        clear q0' q1' k11 bb BA
        go_wp2_with fail
        generalize Wb.alloc (.cells #[.string r0, .string r1, .int .i64 x2, .int .i64 x3] 49) = Wc at kc BC ⊢
        obtain ⟨gA, hgA⟩ : ∃ g, Wb.heap.size = g := ⟨_, rfl⟩
        rw [hgA] at kc HGA ⊢
        clear hgA
        refine (sum11_any _ m d legs r0 r1 Wc (HB.out.bel (hBr.out.trans BC.out)) (Nat.le_trans HM.out.2 (by decide)) (fun x hx => (HZ.out x hx).2.2)).mono ?_
        rintro e Wd ⟨rfl, bd⟩
        have kd := hid_ (kc.out.bel bd)
        have BD := hid_ (BC.out.trans bd)
        clear kc BC bd
        obtain ⟨so, hso⟩ : ∃ so, sumOk (amts legs ⟨r0, r1⟩) = so := ⟨_, rfl⟩
        obtain ⟨sm, hsm⟩ : ∃ sm, (amts legs ⟨r0, r1⟩).sum = sm := ⟨_, rfl⟩
        have HSM := hid_ hsm
        have q2 := kd.out.cell 2 rfl
        cases so
        · have HF := hid_ (HSTEP.out.1 hso)
          have HBF := hid_ (hBr.out.trans BD.out)
          rw [show sumV (amts legs ⟨r0, r1⟩) = 0 by unfold sumV; rw [hso]; rfl, show sumE (amts legs ⟨r0, r1⟩) = 10 by unfold sumE; rw [hso]; rfl]
          clear hso hsm HSTEP hRL hSL hPG hBr
          go_wp2
          go_ret2
          exact ⟨.slice none 0 0, by rw [HF.out.1]; rfl, by rw [HF.out.2]; exact Own.nil_ _ _ _, HBF.out⟩
        rw [show sumV (amts legs ⟨r0, r1⟩) = sm by unfold sumV; rw [hso, if_pos rfl, hsm], show sumE (amts legs ⟨r0, r1⟩) = 0 by unfold sumE; rw [hso]; rfl]
        have HI2 : Hid (i64w sm) := hid_ (by unfold sumOk at hso; rw [hsm] at hso; simpa [i64w] using hso)
        have HST2 := hid_ (HSTEP.out.2)
        have HSO := hid_ hso
        clear hso hsm HSTEP
        go_wp2_with fail
        clear q2
        refine (addR_any x2 sm Wd HX2.out HI2.out).mono ?_
        rintro e _ ⟨rfl, rfl⟩
        obtain ⟨y, hy⟩ : ∃ y, x2 + sm = y := ⟨_, rfl⟩
        rw [HSM.out, hy] at HST2
        obtain ⟨ib, hib⟩ : ∃ ib, i64B y = ib := ⟨_, rfl⟩
        have q0 := kd.out.cell 0 rfl
        have q1 := kd.out.cell 1 rfl
        have q2 := kd.out.cell 2 rfl
        have q3 := kd.out.cell 3 rfl
        have fz := kd.out.frozen 2
        cases ib
        · have HF := hid_ (HST2.out.1 HSO.out hib)
          have HBF := hid_ (hBr.out.trans BD.out)
          rw [show addV x2 sm = 0 by unfold addV; rw [hy, hib]; rfl, show addE x2 sm = 10 by unfold addE; rw [hy, hib]; rfl]
          clear hib hy HST2 hRL hSL hPG hBr
          go_wp2
          go_ret2
          exact ⟨.slice none 0 0, by rw [HF.out.1]; rfl, by rw [HF.out.2]; exact Own.nil_ _ _ _, HBF.out⟩
        rw [show addV x2 sm = y by unfold addV; rw [hy, hib]; rfl, show addE x2 sm = 0 by unfold addE; rw [hy, hib]; rfl]
        have HIB := hid_ hib
        have HY : Hid (x2 + sm = y ∧ i64w y) := hid_ ⟨hy, by have := (i64B_iff y).1 hib; exact this⟩
        have BS := hid_ (Bel.setBx (j := 2) BD.out HGA.out (.int .i64 y))
        have HBF := hid_ (hBr.out.trans BD.out)
        clear hib hy
        by_cases hw : r0 = worldS
        · have qw : (r0.toList == ([119, 111, 114, 108, 100] : List UInt8)) = true := by rw [worldEq]; exact decide_eq_true hw
          have HNW : Hid (¬ (r0 ≠ worldS ∧ y < x3)) := hid_ (fun h => h.1 hw)
          clear hw
          have HPG2 := hid_ (HST2.out.2.2 HSO.out HIB.out HNW.out)
          have HWL := hid_ (with_len L ⟨r0, r1, y, x3⟩)
          go_wp2_with fail
          clear q0 q1 q2 q3 fz qw
          refine (withR_any A' n' c' L r0 r1 y x3 _ (hRL.out.2.1.bel BS.out) hSL.out.1 (by have := hSL.out.2.2; have := HPN.out; have := HJ.out; omega)).mono ?_
          rintro e Ww ⟨v, rfl, o, bw⟩
          obtain ⟨A2, c2, rfl, hc2, r2⟩ := o.reads
          have HRL2 := hid_ (And.intro hc2 (And.intro r2 (o.mono_ (hBr.out.trans BS.out).size_)))
          have HBW := hid_ (hBr.out.trans (BS.out.trans bw))
          have HSL2 : Hid (Srt (withA L ⟨r0, r1, y, x3⟩) ∧ (∀ a ∈ withA L ⟨r0, r1, y, x3⟩, i64w a.balance) ∧ (withA L ⟨r0, r1, y, x3⟩).length ≤ 90000 + (j + 1)) := hid_ ⟨srt_with hSL.out.1 _, fun a ha => by
            rcases mem_with hSL.out.1 ha with ⟨h, _⟩ | ⟨h, _⟩
            · exact hSL.out.2.1 a h
            · rw [h]; exact HY.out.2, by have h1 := HWL.out; have h2 := hSL.out.2.2; have h3 := hRL.out.2.1.1; omega⟩
          clear o bw hc2 r2
          go_wp2
          go_roundg (P.length - (j + 1))
          case measure => have := HJ.out; omega
          case rel => exact ⟨j + 1, _, ⟨r0, r1⟩, A2, _, c2, HJ.out, rfl, rfl, rfl, rfl, hid_ (.inr ⟨j, rfl, HPJ.out⟩), HRL2, HSL2, HPG2, HBW⟩
        have qw : (r0.toList == ([119, 111, 114, 108, 100] : List UInt8)) = false := by rw [worldEq]; exact decide_eq_false hw
        have HW := hid_ hw
        clear hw
        by_cases hlt : y < x3
        · have HF := hid_ (HST2.out.2.1 HSO.out HIB.out ⟨HW.out, hlt⟩)
          clear HST2 hRL hSL hPG hBr
          go_wp2
          go_ret2
          exact ⟨.slice none 0 0, by rw [HF.out.1]; rfl, by rw [HF.out.2]; exact Own.nil_ _ _ _, HBF.out⟩
        · have HNW : Hid (¬ (r0 ≠ worldS ∧ y < x3)) := hid_ (fun h => hlt h.2)
          have dl : decide (y < x3) = false := decide_eq_false hlt
          have HPG2 := hid_ (HST2.out.2.2 HSO.out HIB.out HNW.out)
          have HWL := hid_ (with_len L ⟨r0, r1, y, x3⟩)
          go_wp2_with fail
          clear q0 q1 q2 q3 fz qw dl hlt
          refine (withR_any A' n' c' L r0 r1 y x3 _ (hRL.out.2.1.bel BS.out) hSL.out.1 (by have := hSL.out.2.2; have := HPN.out; have := HJ.out; omega)).mono ?_
          rintro e Ww ⟨v, rfl, o, bw⟩
          obtain ⟨A2, c2, rfl, hc2, r2⟩ := o.reads
          have HRL2 := hid_ (And.intro hc2 (And.intro r2 (o.mono_ (hBr.out.trans BS.out).size_)))
          have HBW := hid_ (hBr.out.trans (BS.out.trans bw))
          have HSL2 : Hid (Srt (withA L ⟨r0, r1, y, x3⟩) ∧ (∀ a ∈ withA L ⟨r0, r1, y, x3⟩, i64w a.balance) ∧ (withA L ⟨r0, r1, y, x3⟩).length ≤ 90000 + (j + 1)) := hid_ ⟨srt_with hSL.out.1 _, fun a ha => by
            rcases mem_with hSL.out.1 ha with ⟨h, _⟩ | ⟨h, _⟩
            · exact hSL.out.2.1 a h
            · rw [h]; exact HY.out.2, by have h1 := HWL.out; have h2 := hSL.out.2.2; have h3 := hRL.out.2.1.1; omega⟩
          clear o bw hc2 r2
          go_wp2
          go_roundg (P.length - (j + 1))
          case measure => have := HJ.out; omega
          case rel => exact ⟨j + 1, _, ⟨r0, r1⟩, A2, _, c2, HJ.out, rfl, rfl, rfl, rfl, hid_ (.inr ⟨j, rfl, HPJ.out⟩), HRL2, HSL2, HPG2, HBW⟩
end Go.Proofs.Ytgnninpfhnpjoaa
set_option linter.unusedSimpArgs false
set_option linter.unusedVariables false
namespace Go.Proofs.Ytgnninpfhnpjoaa
open Go.RowKit Go.Lib
def heldB (a : Acc) : Bool := if a.who = worldS then decide (a.held = 0) else decide (0 ≤ a.held) && decide (a.held ≤ a.balance)
theorem okA_parts (a : Acc) : okA a = (heldB a && (!decide (a.balance = 0) && namedB a.plc)) := rfl
theorem ok_not {a : Acc} (h : okA a = false) : ¬ OkAcc a := fun k => by rw [okA_iff.2 k] at h; cases h
set_option maxRecDepth 10000 in
set_option maxHeartbeats 4000000 in
theorem checkR_any (A : Option Addr) (n c : Nat) (l : List Acc) (w : World) (hA : Row accT w A n l) (hz : ∀ a ∈ l, a.who.size ≤ 4294967280 ∧ a.asset.size ≤ 4294967280) :
    Calls Try.prog 32 #[.slice A n c] w fun e w' => e = .returned (.int .i64 (chkAE l)) ∧ Bel w w' := by
  have h63 := hA.2.1
  have HL := hid_ hA.1
  have HA := hid_ hA
  have HZ := hid_ hz
  obtain ⟨re, hre⟩ : ∃ r, chkAE l = r := ⟨_, rfl⟩
  rw [hre]
  have HR := hid_ hre
  clear hA hz hre
  go_enter Try.func32, Try.ntmps32
  go_wp2_with fail
  go_loopg [3] (n) (fun k i wr => ∃ j : Nat, j ≤ n ∧ k = n - j ∧ i = .int .i64 j ∧ Hid (OkL (l.take j)) ∧ Hid (Bel w wr))
  case atStart => exact ⟨0, Nat.zero_le _, rfl, rfl, hid_ OkL.nil, hid_ (Bel.refl _)⟩
  case round =>
    obtain ⟨j, hj, rfl, rfl, hO, hB⟩ := hrel
    by_cases hjn : j < n
    · obtain ⟨ad, o0, o1, o2, o3, rfl, ho, d0, d1, d2, d3⟩ := (HA.out.bel hB.out).acc hjn
      have HO := hid_ ho
      have HZ1 := hid_ (HZ.out _ (List.mem_of_getElem? ho))
      clear ho
      have i0 : (0 : Int) ≤ (j : Int) := by omega
      have i1 : (j : Int) < (n : Int) := by omega
      have k1 := hid_ (Bx.new wr 49 [.string o0, .string o1, .int .i64 o2, .int .i64 o3])
      have B1 := hid_ (hB.out.alloc (.cells #[.string o0, .string o1, .int .i64 o2, .int .i64 o3] 49))
      clear hB
      go_wp2_with fail
      generalize wr.alloc (.cells #[.string o0, .string o1, .int .i64 o2, .int .i64 o3] 49) = W1 at k1 B1 ⊢
      generalize wr.heap.size = gA at k1 ⊢
      clear d0 d1 d2 d3
      refine (namesR_any o0 o1 W1 HZ1.out.1 HZ1.out.2).mono ?_
      rintro e _ ⟨rfl, rfl⟩
      obtain ⟨nb, hnb⟩ : ∃ nb, namedB ⟨o0, o1⟩ = nb := ⟨_, rfl⟩
      rw [hnb]
      have HNB := hid_ hnb
      clear hnb
      have q0 := k1.out.cell 0 rfl
      have q1 := k1.out.cell 1 rfl
      have q2 := k1.out.cell 2 rfl
      have q3 := k1.out.cell 3 rfl
      go_upto_region 6 with (fail)
      go_cut [6] (fun h wx => h = .bool (decide (0 ≤ o3) && decide (o3 ≤ o2)) ∧ wx = W1)
      case first =>
        by_cases c1 : 0 ≤ o3
        · by_cases c2 : o3 ≤ o2
          · go_wp2_with fail
            go_meet
            exact ⟨by simp [c1, c2], rfl⟩
          · have e2 : decide (o3 ≤ o2) = false := decide_eq_false c2
            go_wp2_with fail
            go_meet
            exact ⟨by simp [c1, c2], rfl⟩
        · have e1 : decide (0 ≤ o3) = false := decide_eq_false c1
          go_wp2_with fail
          go_meet
          exact ⟨by rw [show decide (0 ≤ o3) = false from decide_eq_false (by omega)]; rfl, rfl⟩
      case rest =>
        obtain ⟨rfl, rfl⟩ := hcut
        obtain ⟨b6, hb6⟩ : ∃ b, (decide (0 ≤ o3) && decide (o3 ≤ o2)) = b := ⟨_, rfl⟩
        rw [hb6]
        have HB6 := hid_ hb6
        clear hb6
        obtain ⟨hb, hhb⟩ : ∃ b, heldB ⟨o0, o1, o2, o3⟩ = b := ⟨_, rfl⟩
        have HHB := hid_ hhb
        clear hhb
        obtain ⟨ew, hew⟩ : ∃ b, (o0.toList == ([119, 111, 114, 108, 100] : List UInt8)) = b := ⟨_, rfl⟩
        have hew2 := hew
        rw [worldEq] at hew2
        have HEW := hid_ hew2
        clear hew2
        obtain ⟨W2, hW2⟩ : ∃ W2, wc = W2 := ⟨_, rfl⟩
        rw [hW2] at B1 k1 q0 q1 q2 q3 ⊢
        clear hW2
        go_upto_if 34 with (fail)
        go_cut [6] (fun h wx => h = .bool hb ∧ wx = W2)
        case first =>
          cases ew
          · go_wp2_with fail
            go_meet
            exact ⟨by rw [← HHB.out, ← HB6.out]; unfold heldB; rw [if_neg (of_decide_eq_false HEW.out)], rfl⟩
          · go_wp2_with fail
            go_meet
            exact ⟨by rw [← HHB.out]; unfold heldB; rw [if_pos (of_decide_eq_true HEW.out)]; by_cases h : o3 = 0 <;> simp [h], rfl⟩
        case rest =>
          obtain ⟨rfl, rfl⟩ := hcut
          obtain ⟨W2, hW2⟩ : ∃ W2, wc = W2 := ⟨_, rfl⟩
          rw [hW2] at B1 k1 q0 q1 q2 q3 ⊢
          clear hW2 hew HEW HB6
          cases nb
          · skip
            have HF : Hid (re = 110) := hid_ (by rw [← HR.out]; exact okL_bad1 HO.out (ok_not (by rw [okA_parts]; rw [show namedB (Acc.plc ⟨o0, o1, o2, o3⟩) = false from HNB.out]; simp)))
            clear hO
            go_upto_region 9 with (fail)
            go_quiet (fail)
            obtain ⟨W5, hW5, hb5⟩ : ∃ W5, W2.drewN nq = W5 ∧ Bel W2 W5 := ⟨_, rfl, (Bel.refl W2).drewN _⟩
            rw [hW5]
            have B5 := hid_ (B1.out.trans hb5)
            clear hW5 hb5
            go_wp2
            go_ret
            exact ⟨by rw [HF.out]; rfl, B5.out⟩
          cases hb
          · skip
            have HF : Hid (re = 110) := hid_ (by rw [← HR.out]; exact okL_bad1 HO.out (ok_not (by rw [okA_parts]; rw [HHB.out]; rfl)))
            clear hO
            go_upto_region 9 with (fail)
            go_quiet (fail)
            obtain ⟨W5, hW5, hb5⟩ : ∃ W5, W2.drewN nq = W5 ∧ Bel W2 W5 := ⟨_, rfl, (Bel.refl W2).drewN _⟩
            rw [hW5]
            have B5 := hid_ (B1.out.trans hb5)
            clear hW5 hb5
            go_wp2
            go_ret
            exact ⟨by rw [HF.out]; rfl, B5.out⟩
          by_cases hz0 : o2 = 0
          · have z0 : (o2 == 0) = true := by simp [hz0]
            have HF : Hid (re = 110) := hid_ (by rw [← HR.out]; exact okL_bad1 HO.out (ok_not (by rw [okA_parts]; rw [decide_eq_true hz0]; simp)))
            clear hO
            go_upto_region 9 with (fail)
            go_quiet (fail)
            obtain ⟨W5, hW5, hb5⟩ : ∃ W5, W2.drewN nq = W5 ∧ Bel W2 W5 := ⟨_, rfl, (Bel.refl W2).drewN _⟩
            rw [hW5]
            have B5 := hid_ (B1.out.trans hb5)
            clear hW5 hb5
            go_wp2
            go_ret
            exact ⟨by rw [HF.out]; rfl, B5.out⟩
          have z0 : (o2 == 0) = false := by simp [hz0]
          have HOK : Hid (OkAcc ⟨o0, o1, o2, o3⟩) := hid_ (okA_iff.1 (by rw [okA_parts, HHB.out, show namedB (Acc.plc ⟨o0, o1, o2, o3⟩) = true from HNB.out, decide_eq_false hz0]; rfl))
          clear hz0
          rcases Nat.eq_zero_or_pos j with hj0 | hj0
          · have HS : Hid (OkL (l.take (j + 1))) := hid_ (okL_step hO.out HO.out HOK.out (fun i y h _ => by omega))
            have j1 : decide ((0 : Int) < (j : Int)) = false := by simp; omega
            have j2 : decide (0 < j) = false := by simp; omega
            clear hj0
            have z9 := z0
            go_upto_region 9 with (fail)
            go_quiet (fail)
            obtain ⟨W5, hW5, hb5⟩ : ∃ W5, W2.drewN nq = W5 ∧ Bel W2 W5 := ⟨_, rfl, (Bel.refl W2).drewN _⟩
            rw [hW5]
            have B5 := hid_ (B1.out.trans hb5)
            clear hW5 hb5
            go_wp2
            go_roundg (n - (j + 1))
            case measure => omega
            case rel => exact ⟨j + 1, by omega, rfl, by go_num, HS, B5⟩
          · obtain ⟨r, hr⟩ : ∃ r, j = r + 1 := ⟨j - 1, by omega⟩
            obtain ⟨ad2, y0, y1, y2, y3, e2, hy, c0, c1, c2, c3⟩ := (HA.out.bel B1.out).acc (show r < n by omega)
            cases e2
            obtain ⟨lb, hlb⟩ : ∃ lb, ltP ⟨y0, y1⟩ ⟨o0, o1⟩ = lb := ⟨_, rfl⟩
            have HLB := hid_ hlb
            have HY := hid_ (And.intro hr hy)
            have j1 : (0 : Int) < (j : Int) := by omega
            have j2 : decide (0 < j) = true := by simp; omega
            have j3 : (r : Int) < (n : Int) := by omega
            have j4 : (0 : Int) ≤ (r : Int) := by omega
            have j5 : wrap64 ((j : Int) - 1) = (r : Int) := by unfold wrap64; omega
            have j6 : IntKind.i64.wrap ((j : Int) - 1) = (r : Int) := by rw [IntWalk.i64_left]; exact j5
            clear hlb hy hr hj0 c2 c3
            have z9 := z0
            go_upto_region 9 with (fail)
            go_quiet ((go_at_call 57; exact Calls.quiet_of_same (before_same y0 y1 o0 o1 _)))
            rw [show ltP ⟨y0, y1⟩ ⟨o0, o1⟩ = lb from HLB.out]
            obtain ⟨W5, hW5, hb5⟩ : ∃ W5, W2.drewN nq = W5 ∧ Bel W2 W5 := ⟨_, rfl, (Bel.refl W2).drewN _⟩
            rw [hW5]
            have B5 := hid_ (B1.out.trans hb5)
            clear hW5 hb5
            cases lb
            · have HF : Hid (re = 110) := hid_ (by rw [← HR.out]; obtain ⟨e, hy⟩ := HY.out; subst e; exact okL_bad2 HO.out hy HLB.out)
              clear hO
              go_wp2
              go_ret
              exact ⟨by rw [HF.out]; rfl, B5.out⟩
            · have HYF : Hid (∀ (i : Nat) (y : Acc), j = i + 1 → l[i]? = some y → ltP y.plc ⟨o0, o1⟩ = true) := hid_ (by
                intro i y h h2
                obtain ⟨e, hy⟩ := HY.out
                obtain rfl : i = r := by omega
                rw [hy] at h2
                cases h2
                exact HLB.out)
              have HS : Hid (OkL (l.take (j + 1))) := hid_ (okL_step hO.out HO.out HOK.out HYF.out)
              go_wp2
              go_roundg (n - (j + 1))
              case measure => omega
              case rel => exact ⟨j + 1, by omega, rfl, by go_num, HS, B5⟩
    · obtain rfl : n = j := by omega
      have HF : Hid (re = 0) := hid_ (by
        have h := hO.out
        rw [show l.take n = l from List.take_of_length_le (by rw [HL.out]; exact Nat.le_refl _)] at h
        rw [← HR.out]
        unfold chkAE
        rw [okL_iff.2 h]
        rfl)
      clear hO hjn hj
      go_wp2
      go_ret
      exact ⟨by rw [HF.out]; rfl, hB.out⟩
end Go.Proofs.Ytgnninpfhnpjoaa
