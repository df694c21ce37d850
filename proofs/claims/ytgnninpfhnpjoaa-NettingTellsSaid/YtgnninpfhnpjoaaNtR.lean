/- cambistref17.Net. -/
import Derived.Test.YtgnninpfhnpjoaaNt2
import Derived.Test.YtgnninpfhnpjoaaNxR17
import Derived.Test.YtgnninpfhnpjoaaRSum
import Derived.Deep.LoopGhost
set_option linter.unusedSimpArgs false
set_option linter.unusedVariables false
namespace Go.Proofs.Ytgnninpfhnpjoaa
open Go.RowKit Go.Lib
theorem netF_done {l : List Due} (h : ∀ p ∈ dueP l, sumOk (amts l p) = true) : netE l = 0 ∧ netO l = netF l (dueP l) := by
  have hok : netOk l = true := List.all_eq_true.2 h
  refine ⟨netE_0 hok, ?_⟩
  unfold netO netF
  rw [if_pos hok]
  rfl
theorem Bx.grown1 {W w1 : World} {g : Nat} {t : TypeId} {vs : List Value} {row : Option Nat} (h : Bx W g t vs) (hg : W.grownBy w1 row) (hne : ∀ k, row = some k → k ≠ g) : Bx w1 g t vs :=
  (hg.block g h.lt (fun e => hne g e.symm rfl)).trans h
theorem Own.setNe {α : Type} {T : Ty α} {w : World} {base : Nat} {v : Value} {xs : List α} (h : Own T w base v xs) {g j : Nat} (u : Value) (hne : ∀ k, v.ownBlock = some k → k ≠ g) : Own T (w.setCell ⟨g, j, none⟩ u) base v xs :=
  h.kept_ (grownSet w g j u) (by
    cases hv : v.ownBlock with
    | none => exact .inl rfl
    | some k => exact .inr (fun e => hne k hv (by injection e)))
set_option maxRecDepth 10000 in
set_option maxHeartbeats 4000000 in
theorem netR_any (A : Option Addr) (n c : Nat) (l : List Due) (w : World) (hA : Row dueT w A n l) (hn : n ≤ 90000) (hz : ∀ x ∈ l, x.who.size ≤ 9223372036854775807 ∧ x.asset.size ≤ 9223372036854775807 ∧ i64w' x.amount) :
    Calls Try.prog 18 #[.slice A n c] w fun e w' => ∃ v, e = .returned (.tuple #[v, .int .i64 (netE l)]) ∧ Own dueT w' w.heap.size v (netO l) ∧ Bel w w' := by
  have hn63 := hA.2.1
  have HA := hid_ hA
  have HZ := hid_ hz
  have HN := hid_ hn
  have HL := hid_ hA.1
  obtain ⟨re, hre⟩ : ∃ r, netE l = r := ⟨_, rfl⟩
  obtain ⟨ro, hro⟩ : ∃ r, netO l = r := ⟨_, rfl⟩
  rw [hre, hro]
  have HR := hid_ (And.intro hre hro)
  have HI := hid_ (amts_i64 (legs := l) (fun x hx => (HZ.out x hx).2.2))
  have HAL : Hid (∀ p, (amts l p).length ≤ 1000000) := hid_ (fun p => Nat.le_trans (amts_len l p) (by rw [HL.out]; exact Nat.le_trans HN.out (by decide)))
  obtain ⟨P, hP⟩ : ∃ P, dueP l = P := ⟨_, rfl⟩
  have HP := hid_ hP
  have HPL : Hid (P.length ≤ 90000) := hid_ (by
    rw [← hP]
    have h4 := plcs_len (l.map Due.plc)
    rw [List.length_map, HL.out] at h4
    exact Nat.le_trans h4 HN.out)
  clear hA hz hn hre hro hP
  go_enter Try.func18, Try.ntmps18
  go_wp2_with fail
  refine (next17_true A n c l ⟨#[]⟩ ⟨#[]⟩ w HA.out).mono ?_
  rintro e v1 ⟨⟨r0, r1⟩, a, f, rfl, hN, b⟩
  have HN0 := hid_ (hN.symm.trans (nfold_start _ l))
  have HA1 := hid_ (HA.out.bel (b.alloc (.cells #[.string r0, .string r1, .int .i64 a] 33)))
  have HB1 := hid_ (b.alloc (.cells #[.string r0, .string r1, .int .i64 a] 33))
  have HK1 := hid_ (Bx.new v1 33 [.string r0, .string r1, .int .i64 a])
  have HG : Hid (w.heap.size ≤ v1.heap.size) := hid_ b.size_
  clear hN b
  go_wp2_with fail
  generalize v1.alloc (.cells #[.string r0, .string r1, .int .i64 a] 33) = W0 at HA1 HB1 HK1 ⊢
  generalize v1.heap.size = g5 at HK1 HG ⊢
  go_loopg [4, 6] (P.length) (fun k v f wr => ∃ (j : Nat) (r : Plc) (a : Int) (fb : Bool), j ≤ P.length ∧ k = P.length - j ∧ f = .bool fb ∧ Hid ((if fb then some r else none) = P[j]?) ∧ Hid (Bx wr g5 33 [.string r.who, .string r.asset, .int .i64 a]) ∧ Hid (Own dueT wr w.heap.size v (netF l (P.take j))) ∧ Hid (∀ k, v.ownBlock = some k → g5 < k) ∧ Hid (∀ p ∈ P.take j, sumOk (amts l p) = true) ∧ Hid (Bel w wr))
  case atStart => exact ⟨0, ⟨r0, r1⟩, a, f, Nat.zero_le _, rfl, rfl, hid_ (by rw [HN0.out, HP.out]), HK1, hid_ (Own.nil_ _ _ _), hid_ (fun k hk => by cases hk), hid_ (by simp), HB1⟩
  case round =>
    obtain ⟨j, ⟨r0, r1⟩, a, fb, hj, rfl, rfl, hF, hK, hO, hV, hS, hB⟩ := hrel
    cases fb
    · have HF2 : Hid (re = 0 ∧ ro = netF l (P.take j)) := hid_ (by
        have h1 : P[j]? = none := hF.out.symm
        rw [List.getElem?_eq_none_iff] at h1
        have h2 : P.take j = P := List.take_of_length_le h1
        have h3 := hS.out
        rw [h2, ← HP.out] at h3
        have h4 := netF_done h3
        rw [h2, ← HP.out, ← HR.out.1, ← HR.out.2]
        exact h4)
      clear hF hK hV hS
      go_wp2
      go_ret2
      exact ⟨_, by rw [HF2.out.1]; rfl, by rw [HF2.out.2]; exact hO.out, hB.out⟩
    · have HPJ : Hid (P[j]? = some ⟨r0, r1⟩) := hid_ hF.out.symm
      have HK : Hid (Bx wr g5 33 [.string r0, .string r1, .int .i64 a]) := hK
      have HA2 := hid_ (HA.out.bel hB.out)
      have HJ : Hid (j < P.length) := hid_ ((List.getElem?_eq_some_iff.1 HPJ.out).1)
      obtain ⟨W3, hW3⟩ : ∃ W3, wr = W3 := ⟨_, rfl⟩
      rw [hW3] at HK HA2 hO hB ⊢
      clear hF hK hj hW3
      have HA3 := HA2
      have HK3 := HK
      go_wp2_with fail
      go_loopw [7, 8] (fun v i wr => ∃ q : Nat, q ≤ n ∧ i = .int .i64 q ∧ Hid (Own i64T wr W3.heap.size v (amts (l.take q) ⟨r0, r1⟩)) ∧ Hid (Bel W3 wr)) (fun _ i _ => n - (intOf i).toNat)
      case atStart => exact ⟨0, Nat.zero_le _, rfl, hid_ (Own.nil_ _ _ _), hid_ (Bel.refl _)⟩
      case round =>
              obtain ⟨q, hq, rfl, hOq, hBq⟩ := hrel
              by_cases hqn : q < n
              · obtain ⟨adx, k0, k1, k2, rfl, hox, c0, c1, c2⟩ := (HA3.out.bel hBq.out).due hqn
                have HOX := hid_ (amts_step hox ⟨r0, r1⟩)
                have HK5 := hid_ (HK3.out.bel hBq.out)
                have zc0 := HK5.out.cell 0 rfl
                have zc1 := HK5.out.cell 1 rfl
                have i2 : (0 : Int) ≤ (q : Int) := by omega
                have i3 : (q : Int) < (n : Int) := by omega
                have HQQ := hid_ (And.intro hq hqn)
                clear hox hq hqn
                obtain ⟨e1, he1⟩ : ∃ e1, (k0.toList == r0.toList) = e1 := ⟨_, rfl⟩
                obtain ⟨e2, he2⟩ : ∃ e2, (k1.toList == r1.toList) = e2 := ⟨_, rfl⟩
                have h1 := he1
                have h2 := he2
                rw [bytesEq] at h1 h2
                have HEQ : Hid ((e1 && e2) = decide ((⟨k0, k1⟩ : Plc) = ⟨r0, r1⟩)) := hid_ (by rw [← h1, ← h2, ← Bool.decide_and]; simp only [Plc.mk.injEq])
                have HLN : Hid ((amts (l.take q) ⟨r0, r1⟩).length ≤ 90000) := hid_ (by
                  have a1 := amts_len (l.take q) ⟨r0, r1⟩
                  have a2 : (l.take q).length ≤ q := by rw [List.length_take]; omega
                  have a3 := HN.out
                  have a4 := HQQ.out
                  omega)
                clear h1 h2
                cases e1
                · have HN2 : Hid (amts (l.take (q + 1)) ⟨r0, r1⟩ = amts (l.take q) ⟨r0, r1⟩) := hid_ (by rw [HOX.out, if_neg (fun e => by have := HEQ.out; rw [decide_eq_true (show (⟨k0, k1⟩ : Plc) = ⟨r0, r1⟩ from e)] at this; cases this), List.append_nil])
                  go_upto_region 8 with (fail)
                  go_quiet (fail)
                  obtain ⟨W5, hW5, hb5⟩ : ∃ W5, wr.drewN nq = W5 ∧ Bel wr W5 := ⟨_, rfl, (Bel.refl wr).drewN _⟩
                  rw [hW5]
                  have O5 := hid_ (hOq.out.bel hb5)
                  have B5 := hid_ (hBq.out.trans hb5)
                  clear hW5 hb5 hOq hBq c0 c1 c2 zc0 zc1 he1 he2
                  go_wp2
                  case roundEnd =>
                    go_roundw
                    case rel => exact ⟨q + 1, HQQ.out.2, by go_num, hid_ (by rw [HN2.out]; exact O5.out), B5⟩
                    case measure => have := HQQ.out.2; simp [intOf]; omega
                · cases e2
                  · have HN2 : Hid (amts (l.take (q + 1)) ⟨r0, r1⟩ = amts (l.take q) ⟨r0, r1⟩) := hid_ (by rw [HOX.out, if_neg (fun e => by have := HEQ.out; rw [decide_eq_true (show (⟨k0, k1⟩ : Plc) = ⟨r0, r1⟩ from e)] at this; cases this), List.append_nil])
                    go_upto_region 8 with (fail)
                    go_quiet (fail)
                    obtain ⟨W5, hW5, hb5⟩ : ∃ W5, wr.drewN nq = W5 ∧ Bel wr W5 := ⟨_, rfl, (Bel.refl wr).drewN _⟩
                    rw [hW5]
                    have O5 := hid_ (hOq.out.bel hb5)
                    have B5 := hid_ (hBq.out.trans hb5)
                    clear hW5 hb5 hOq hBq c0 c1 c2 zc0 zc1 he1 he2
                    go_wp2
                    case roundEnd =>
                      go_roundw
                      case rel => exact ⟨q + 1, HQQ.out.2, by go_num, hid_ (by rw [HN2.out]; exact O5.out), B5⟩
                      case measure => have := HQQ.out.2; simp [intOf]; omega
                  · have HN2 : Hid (amts (l.take (q + 1)) ⟨r0, r1⟩ = amts (l.take q) ⟨r0, r1⟩ ++ [k2]) := hid_ (by rw [HOX.out, if_pos]; exact of_decide_eq_true HEQ.out.symm)
                    go_upto_region 8 with (fail)
                    go_quiet (fail)
                    obtain ⟨W5, hW5, hb5⟩ : ∃ W5, wr.drewN nq = W5 ∧ Bel wr W5 := ⟨_, rfl, (Bel.refl wr).drewN _⟩
                    rw [hW5]
                    have O5 := hid_ (hOq.out.bel hb5)
                    have B5 := hid_ (hBq.out.trans hb5)
                    have c2 := hb5.cell_ c2
                    clear hW5 hb5 hOq hBq c0 c1 zc0 zc1 he1 he2
                    go_wp2_with (at_builtin; refine wpApp (w0 := W3) i64S rfl _ _ rfl _ (amts (l.take q) ⟨r0, r1⟩) [k2] (some ⟨W5.heap.size, 0, none⟩) 1 1 rfl rfl (O5.out.alloc_ _) (Row.one (T := i64T) k2 rfl rfl) (B5.out.alloc _) (by have := HLN.out; omega) ?_; intro v1 x1 hO1 hb1 hg1 hat1)
                    case roundEnd =>
                      go_roundw
                      case rel => exact ⟨q + 1, HQQ.out.2, by go_num, hid_ (by rw [HN2.out]; exact hO1), hid_ hb1⟩
                      case measure => have := HQQ.out.2; simp [intOf]; omega
              · obtain rfl : n = q := by omega
                have hO2 := hOq.out
                rw [show l.take n = l from List.take_of_length_le (by rw [HL.out]; exact Nat.le_refl _)] at hO2
                have HO2 := hid_ hO2
                clear hOq hO2 hqn hq
                obtain ⟨Y, ky, rfl, hky, ry⟩ := HO2.out.reads
                have RY := hid_ ry
                clear hky ry HO2
                go_wp2_with fail
                refine (sumR_any Y _ ky (amts l ⟨r0, r1⟩) wr RY.out (HAL.out _) (HI.out _)).mono ?_
                rintro e W6 ⟨rfl, b6⟩
                have HB6 := hid_ (hBq.out.trans b6)
                clear b6 RY hBq
                have HK6 := hid_ (HK3.out.bel HB6.out)
                have HO6 := hid_ (hO.out.bel HB6.out)
                have HW6 := hid_ (hB.out.trans HB6.out)
                have HA6 := hid_ (HA2.out.bel HB6.out)
                clear HK3 hO hB HA2 HA3 HK
                obtain ⟨so, hso⟩ : ∃ so, sumOk (amts l ⟨r0, r1⟩) = so := ⟨_, rfl⟩
                obtain ⟨sm, hsm⟩ : ∃ sm, (amts l ⟨r0, r1⟩).sum = sm := ⟨_, rfl⟩
                have HSM := hid_ hsm
                cases so
                · have HF := hid_ (net_bad hso)
                  rw [show sumV (amts l ⟨r0, r1⟩) = 0 by unfold sumV; rw [hso]; rfl, show sumE (amts l ⟨r0, r1⟩) = 10 by unfold sumE; rw [hso]; rfl]
                  clear hso hsm HK6 HO6 hS
                  go_wp2
                  go_ret2
                  exact ⟨.slice none 0 0, by rw [← HR.out.1, HF.out.1]; rfl, by rw [← HR.out.2, HF.out.2]; exact Own.nil_ _ _ _, HW6.out⟩
                rw [show sumV (amts l ⟨r0, r1⟩) = sm by unfold sumV; rw [hso, if_pos rfl, hsm], show sumE (amts l ⟨r0, r1⟩) = 0 by unfold sumE; rw [hso]; rfl]
                have HTK : Hid (P.take (j + 1) = P.take j ++ [⟨r0, r1⟩]) := hid_ (by rw [List.take_add_one, HPJ.out]; rfl)
                have HS2 : Hid (∀ p ∈ P.take (j + 1), sumOk (amts l p) = true) := hid_ (fun p hp => by
                  rw [HTK.out] at hp
                  rcases List.mem_append.1 hp with hp | hp
                  · exact hS.out p hp
                  · simp at hp; subst hp; exact hso)
                have HFS := hid_ (netF_snoc l (P.take j) ⟨r0, r1⟩)
                have HNX : Hid (nfold false ⟨r0, r1⟩ l = P[j + 1]?) := hid_ (by rw [← HP.out]; exact nfold_next l (by rw [HP.out]; exact HPJ.out))
                clear hso hsm hS
                by_cases hz0 : sm = 0
                · have HN2 : Hid (netF l (P.take (j + 1)) = netF l (P.take j)) := hid_ (by rw [HTK.out, HFS.out, if_pos (by rw [HSM.out]; exact hz0), List.append_nil])
                  subst hz0
                  have q0 := HK6.out.cell 0 rfl
                  have q1 := HK6.out.cell 1 rfl
                  clear HFS HSM
                  go_wp2_with fail
                  refine (next17_false _ n c l r0 r1 W6 HA6.out).mono ?_
                  rintro e W7 ⟨⟨s0, s1⟩, b, f', rfl, hN, b7⟩
                  have HV7 := hid_ hV.out
                  have HO7 := hid_ (HO6.out.bel b7)
                  clear q0 q1
                  have HN7 := hid_ (hN.symm.trans HNX.out)
                  have HK7 := hid_ (HK6.out.bel b7)
                  have HW7 := hid_ (HW6.out.trans b7)
                  clear hN b7 HK6 HW6
                  have q0 := HK7.out.cell 0 rfl
                  have q1 := HK7.out.cell 1 rfl
                  have q2 := HK7.out.cell 2 rfl
                  have fz0 := HK7.out.frozen 0
                  have fz1 := HK7.out.frozen 1
                  have fz2 := HK7.out.frozen 2
                  have kn : Bx (((W7.setCell ⟨g5, 0, none⟩ (.string s0)).setCell ⟨g5, 1, none⟩ (.string s1)).setCell ⟨g5, 2, none⟩ (.int .i64 b)) g5 33 [.string s0, .string s1, .int .i64 b] := ((HK7.out.set 0 (.string s0)).set 1 (.string s1)).set 2 (.int .i64 b)
                  have bn : Bel w (((W7.setCell ⟨g5, 0, none⟩ (.string s0)).setCell ⟨g5, 1, none⟩ (.string s1)).setCell ⟨g5, 2, none⟩ (.int .i64 b)) := ((HW7.out.setBx HG.out _).setBx HG.out _).setBx HG.out _
                  have on := ((HO7.out.setNe (g := g5) (j := 0) (.string s0) (fun k e => by have := HV7.out k e; omega)).setNe (g := g5) (j := 1) (.string s1) (fun k e => by have := HV7.out k e; omega)).setNe (g := g5) (j := 2) (.int .i64 b) (fun k e => by have := HV7.out k e; omega)
                  have KN := hid_ kn
                  have BN := hid_ bn
                  have ON := hid_ on
                  clear kn bn on HK7 HW7 HO7
                  go_wp2
                  go_roundg (P.length - (j + 1))
                  case measure => have := HJ.out; omega
                  case rel => exact ⟨j + 1, ⟨s0, s1⟩, b, f', HJ.out, rfl, rfl, HN7, KN, hid_ (by rw [HN2.out]; exact ON.out), HV7, HS2, BN⟩
                · have HN2 : Hid (netF l (P.take (j + 1)) = netF l (P.take j) ++ [⟨r0, r1, sm⟩]) := hid_ (by rw [HTK.out, HFS.out, if_neg (by rw [HSM.out]; exact hz0)]; unfold netD; rw [HSM.out])
                  have j0 : (sm != 0) = true := by simp [hz0]
                  have q0 := HK6.out.cell 0 rfl
                  have q1 := HK6.out.cell 1 rfl
                  have HLN : Hid ((netF l (P.take j)).length ≤ 90000) := hid_ (by
                    have h1 := netF_len l (P.take j)
                    have h2 : (P.take j).length ≤ P.length := by rw [List.length_take]; omega
                    have h3 := HPL.out
                    omega)
                  clear HFS hz0 HSM
                  go_wp2_with (at_builtin; refine wpApp (w0 := w) dueS rfl _ _ rfl _ (netF l (P.take j)) [⟨r0, r1, sm⟩] (some ⟨W6.heap.size, 0, none⟩) 1 1 rfl rfl (HO6.out.alloc_ _) (Row.one (T := dueT) ⟨r0, r1, sm⟩ rfl rfl) (HW6.out.alloc _) (by have := HLN.out; omega) ?_; intro v1 x1 hO1 hb1 hg1 hat1; have HK8 := hid_ (Bx.grown1 (HK6.out.alloc (.cells #[.string r0, .string r1, .int .i64 sm] 33)) hg1 (fun k e e' => by have := hV.out k e; omega)); have q0 := HK8.out.cell 0 rfl; have q1 := HK8.out.cell 1 rfl)
                  refine (next17_false _ n c l r0 r1 x1 (HA.out.bel hb1)).mono ?_
                  rintro e W7 ⟨⟨s0, s1⟩, b, f', rfl, hN, b7⟩
                  have HV7 : Hid (∀ k, v1.ownBlock = some k → g5 < k) := hid_ (fun k hk => by
                    rcases hat1 with e | ⟨c1, e, hc1⟩
                    · exact hV.out k (e ▸ hk)
                    · rw [hk] at e
                      injection e with e
                      have h1 := HK6.out.lt
                      rw [sizeAl] at hc1
                      omega)
                  have HO7 : Hid (Own dueT W7 w.heap.size v1 (netF l (P.take (j + 1)))) := hid_ (by rw [HN2.out]; exact hO1.bel b7)
                  have HK6 := HK8
                  have HW6 := hid_ hb1
                  clear q0 q1 hO1 hb1 hg1 hat1
                  have HN7 := hid_ (hN.symm.trans HNX.out)
                  have HK7 := hid_ (HK6.out.bel b7)
                  have HW7 := hid_ (HW6.out.trans b7)
                  clear hN b7 HK6 HW6
                  have q0 := HK7.out.cell 0 rfl
                  have q1 := HK7.out.cell 1 rfl
                  have q2 := HK7.out.cell 2 rfl
                  have fz0 := HK7.out.frozen 0
                  have fz1 := HK7.out.frozen 1
                  have fz2 := HK7.out.frozen 2
                  have kn : Bx (((W7.setCell ⟨g5, 0, none⟩ (.string s0)).setCell ⟨g5, 1, none⟩ (.string s1)).setCell ⟨g5, 2, none⟩ (.int .i64 b)) g5 33 [.string s0, .string s1, .int .i64 b] := ((HK7.out.set 0 (.string s0)).set 1 (.string s1)).set 2 (.int .i64 b)
                  have bn : Bel w (((W7.setCell ⟨g5, 0, none⟩ (.string s0)).setCell ⟨g5, 1, none⟩ (.string s1)).setCell ⟨g5, 2, none⟩ (.int .i64 b)) := ((HW7.out.setBx HG.out _).setBx HG.out _).setBx HG.out _
                  have on := ((HO7.out.setNe (g := g5) (j := 0) (.string s0) (fun k e => by have := HV7.out k e; omega)).setNe (g := g5) (j := 1) (.string s1) (fun k e => by have := HV7.out k e; omega)).setNe (g := g5) (j := 2) (.int .i64 b) (fun k e => by have := HV7.out k e; omega)
                  have KN := hid_ kn
                  have BN := hid_ bn
                  have ON := hid_ on
                  clear kn bn on HK7 HW7 HO7
                  go_wp2
                  go_roundg (P.length - (j + 1))
                  case measure => have := HJ.out; omega
                  case rel => exact ⟨j + 1, ⟨s0, s1⟩, b, f', HJ.out, rfl, rfl, HN7, KN, ON, HV7, HS2, BN⟩
end Go.Proofs.Ytgnninpfhnpjoaa
