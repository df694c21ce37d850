/- NettingLess, walked. -/
import Derived.Test.YtgnninpfhnpjoaaAw17
import Derived.Test.YtgnninpfhnpjoaaFew17
import Derived.Test.YtgnninpfhnpjoaaSameDue
import Derived.Test.YtgnninpfhnpjoaaOpDue
import Derived.Test.YtgnninpfhnpjoaaLit
set_option linter.unusedSimpArgs false
set_option linter.unusedVariables false
namespace Go.Proofs.Ytgnninpfhnpjoaa
open Go.RowKit Go.Lib
theorem i64w_wf' {x : Int} (h : (Lit.int .i64 x).wf = true) : i64w' x := by
  simp [Lit.wf, IntKind.min, IntKind.max, IntKind.signed, IntKind.bits] at h
  exact h
theorem due_sz {l : List Due} (hw : ∀ x ∈ l, dueWf x) : ∀ x ∈ l, x.who.size ≤ 9223372036854775807 ∧ x.asset.size ≤ 9223372036854775807 ∧ i64w' x.amount := fun x hx => ⟨(hw x hx).1, (hw x hx).2.1, i64w_wf' (hw x hx).2.2⟩
theorem net_sz {l : List Due} (hw : ∀ x ∈ l, x.who.size ≤ 9223372036854775807 ∧ x.asset.size ≤ 9223372036854775807 ∧ i64w' x.amount) : ∀ x ∈ netO l, x.who.size ≤ 9223372036854775807 ∧ x.asset.size ≤ 9223372036854775807 ∧ i64w' x.amount := fun x hx => by
  obtain ⟨y, hy, e1, e2⟩ := net_mem hx
  have := hw y hy
  rw [e1, e2] at this
  exact ⟨this.1, this.2.1, net_i64 hx⟩
theorem gross_i64 {l : List Due} {d : Due} (h : d ∈ grossO l) : -9223372036854775808 ≤ d.amount ∧ d.amount ≤ 9223372036854775807 := by
  unfold grossO at h
  split at h
  · cases h
  · exact net_i64 h
theorem gross_len (l : List Due) : (grossO l).length ≤ l.length := by
  unfold grossO
  split
  · simp
  · exact Nat.le_trans (net_len _) (owedL_len l)
def owesB (l : List Due) (p : Plc) : Bool := l.any (fun d => decide (d.plc = p) && decide (d.amount < 0))
theorem owesB_step {l : List Due} {k : Nat} {o : Due} (h : l[k]? = some o) (p : Plc) : owesB (l.take (k + 1)) p = (owesB (l.take k) p || (decide (o.plc = p) && decide (o.amount < 0))) := by
  unfold owesB
  rw [List.take_add_one, h]
  simp
theorem gross_yes {l : List Due} (hg : grossE l = 0) {g : Due} (h : g ∈ grossO l) : owesB l g.plc = true ∧ 1 ≤ g.amount := by
  obtain ⟨h1, d, hd, e, hn⟩ := gross_owes hg h
  exact ⟨List.any_eq_true.2 ⟨d, hd, by simp [e, hn]⟩, h1⟩
set_option maxRecDepth 10000 in
set_option maxHeartbeats 4000000 in
theorem walkNettingLess (w : World) (A : Option Addr) (n c : Nat) (l : List Due) (ha : n ≤ c ∧ Row dueT w A n l ∧ ∀ x ∈ l, dueWf x) : Calls Try.prog 6 #[.slice A n c] w fun e w' => e = .returned (.bool true) ∧ Bel w w' := by
  obtain ⟨hncA, hA, hwA⟩ := ha
  have H63A := hid_ hA.2.1
  have h63A := hA.2.1
  have HNCA := hid_ hncA
  have HZA := hid_ (due_sz hwA)
  have HLA := hid_ hA.1
  have FA := hid_ hA
  clear hncA hA hwA
  have FB := hid_ (Bel.refl w)
  go_enter Try.func6, Try.ntmps6
  go_wp2_with fail
  refine (awake17 _).mono ?_
  rintro e v1 ⟨rfl, b⟩
  have bb := b
  have f1A := hid_ (FA.out.bel bb)
  have f1B := hid_ (FB.out.trans bb)
  clear b bb FA FB
  go_wp2_with fail
  refine (few17_any A n c l _ f1A.out).mono ?_
  rintro e v2 ⟨rfl, b⟩
  have bb := b
  have f2A := hid_ (f1A.out.bel bb)
  have f2B := hid_ (f1B.out.trans bb)
  clear b bb f1A f1B
  obtain ⟨fb, hfb⟩ : ∃ fb, few17 l = fb := ⟨_, rfl⟩
  rw [hfb]
  cases fb
  · clear hfb
    go_wp2
    go_ret
    exact ⟨rfl, f2B.out⟩
  have HQA := hid_ (few17_iff.1 hfb)
  have HNA : Hid (n ≤ 90000) := hid_ (by have h1 := HQA.out.1; have h2 := HLA.out; omega)
  clear hfb
  go_wp2_with fail
  refine (net_any A n c l _ f2A.out HNA.out HZA.out).mono ?_
  rintro e v3 ⟨v, rfl, o, b⟩
  have bb := b
  obtain ⟨A5, c5, rfl, hc5, r5⟩ := o.reads
  clear o hc5
  have f3A := hid_ (f2A.out.bel bb)
  have f3B := hid_ (f2B.out.trans bb)
  have f3X := hid_ r5
  clear b bb f2A f2B r5
  go_wp2_with fail
  refine (gross_any A n c l _ f3A.out HNA.out HZA.out).mono ?_
  rintro e v4 ⟨v, rfl, o, b⟩
  have bb := b
  obtain ⟨A6, c6, rfl, hc6, r6⟩ := o.reads
  clear o hc6
  have f4A := hid_ (f3A.out.bel bb)
  have f4B := hid_ (f3B.out.trans bb)
  have f4X := hid_ (f3X.out.bel bb)
  have f4Y := hid_ r6
  clear b bb f3A f3B f3X r6
  obtain ⟨pa, hpa⟩ : ∃ q, netE l = q := ⟨_, rfl⟩
  rw [hpa]
  obtain ⟨pb, hpb⟩ : ∃ q, grossE l = q := ⟨_, rfl⟩
  rw [hpb]
  by_cases h0a : pa = 0
  case neg =>
    have i0 : (pa == 0) = false := by simp [h0a]
    have i1 : (pa != 0) = true := by simp [h0a]
    clear hpa hpb h0a
    go_wp2
    go_ret
    exact ⟨rfl, f4B.out⟩
  subst h0a
  by_cases h0b : pb = 0
  case neg =>
    have i0 : (pb == 0) = false := by simp [h0b]
    have i1 : (pb != 0) = true := by simp [h0b]
    clear hpa hpb h0b
    go_wp2
    go_ret
    exact ⟨rfl, f4B.out⟩
  subst h0b
  have HLS := hid_ (fun d hd => net_less (d := d) hpa hpb hd)
  have HGY := hid_ (fun g hg => gross_yes (g := g) hpb hg)
  have HI := hid_ (fun p => amts_i64 (legs := grossO l) (fun x hx => gross_i64 hx) p)
  obtain ⟨xs, hxs⟩ : ∃ q, netO l = q := ⟨_, rfl⟩
  obtain ⟨gs, hgs⟩ : ∃ q, grossO l = q := ⟨_, rfl⟩
  have HNX := hid_ (And.intro (net_len l) (gross_len l))
  have HXI : Hid (∀ d ∈ netO l, i64w' d.amount) := hid_ (fun d hd => net_i64 hd)
  have rx := f4X.out
  have ry := f4Y.out
  rw [hxs] at HLS HNX HXI rx ⊢
  rw [hgs] at HLS HGY HI HNX ry ⊢
  obtain ⟨n5, hn5⟩ : ∃ q, xs.length = q := ⟨_, rfl⟩
  obtain ⟨n6, hn6⟩ : ∃ q, gs.length = q := ⟨_, rfl⟩
  rw [hn5] at rx HNX ⊢
  rw [hn6] at ry HNX ⊢
  have RX := hid_ rx
  have RY := hid_ ry
  have h65 := rx.2.1
  have h66 := ry.2.1
  have HN : Hid (n5 ≤ 90000 ∧ n6 ≤ 90000) := hid_ (by have h1 := HNX.out; have h2 := HQA.out.1; omega)
  have HAL : Hid (∀ p, (amts gs p).length ≤ 1000000) := hid_ (fun p => by have h1 := amts_len gs p; have h2 := HN.out; omega)
  clear rx ry hpa hpb hxs hgs hn5 hn6 f4X f4Y
  go_wp2_with fail
  obtain ⟨w0, hw0⟩ : ∃ q, v4 = q := ⟨_, rfl⟩
  rw [hw0] at f4A f4B RX RY ⊢
  clear hw0
  go_loopw [8, 9, 10] (fun i _ _ wr => ∃ j : Nat, j ≤ n5 ∧ i = .int .i64 j ∧ Hid (Bel w0 wr)) (fun i _ _ _ => n5 - (intOf i).toNat)
  case atStart => exact ⟨0, Nat.zero_le _, rfl, hid_ (Bel.refl _)⟩
  case round =>
    obtain ⟨j, hj, rfl, hBr⟩ := hrel
    by_cases hjn : j < n5
    · obtain ⟨ad, x0, x1, x2, rfl, ho, c0, c1, c2⟩ := (RX.out.bel hBr.out).due hjn
      have HM := hid_ (List.mem_of_getElem? ho)
      clear ho
      have i0 : (0 : Int) ≤ (j : Int) := by omega
      have i1 : (j : Int) < (n5 : Int) := by omega
      by_cases hx2 : 0 ≤ x2
      · go_wp2
        case roundEnd =>
          go_roundw
          case rel => exact ⟨j + 1, by omega, by go_num, hBr⟩
          case measure => simp [intOf]; omega
      have dx : decide (0 ≤ x2) = false := decide_eq_false hx2
      have HV := hid_ (HLS.out _ HM.out)
      have HX2 := hid_ (HXI.out _ HM.out)
      go_upto_region 12 with (fail)
      obtain ⟨W0, hW0⟩ : ∃ W0, wr = W0 := ⟨_, rfl⟩
      rw [hW0] at hBr c0 c1 c2 ⊢
      clear hW0 dx
      have GY := hid_ (RY.out.bel hBr.out)
      have hKP : ∀ W, Bel W0 W → (fun W => Bel W0 W ∧ W.cell? (ad.add (j * 3)) = some (.string x0) ∧ W.cell? ⟨(ad.add (j * 3)).block, (ad.add (j * 3)).off + 1, none⟩ = some (.string x1)) W := fun W b => ⟨b, b.cell_ c0, b.cell_ c1⟩
      have HKP := hid_ hKP
      clear hKP
      obtain ⟨sv, hsv⟩ : ∃ q, sumV (amts gs ⟨x0, x1⟩) = q := ⟨_, rfl⟩
      have HSV : Hid (sumV (amts gs ⟨x0, x1⟩) = sv ∧ sumE (amts gs ⟨x0, x1⟩) = 0 ∧ 0 ≤ sv ∧ -sv ≤ x2 ∧ sv ≤ 9223372036854775807) := hid_ (by
        have h := HV.out
        rw [show Due.plc ⟨x0, x1, x2⟩ = ⟨x0, x1⟩ from rfl, hsv] at h
        exact ⟨hsv, h.1, h.2.1, h.2.2.1, h.2.2.2⟩)
      clear hsv HV
      go_region_held3 (fun W => Bel W0 W ∧ W.cell? (ad.add (j * 3)) = some (.string x0) ∧ W.cell? ⟨(ad.add (j * 3)).block, (ad.add (j * 3)).off + 1, none⟩ = some (.string x1)) ((refine HKP.out _ ?_; repeat first | with_reducible exact Bel.refl _ | with_reducible exact bz | with_reducible exact by_ | with_reducible apply Bel.drew | with_reducible apply Bel.alloc))
        (first
        | (go_at_call 28; refine' Calls.mono (amts_any A6 n6 c6 gs x0 x1 _ (GY.out.bel (by repeat first | with_reducible exact Bel.refl _ | with_reducible apply Bel.drew | with_reducible apply Bel.alloc)) HN.out.2) ?_; rintro e w9 ⟨v, rfl, o, b9⟩; have bz : Bel W0 w9 := Bel.trans (by repeat first | with_reducible exact Bel.refl _ | with_reducible apply Bel.drew | with_reducible apply Bel.alloc) b9; obtain ⟨Q, kq, rfl, hkq, rq⟩ := o.reads)
        | (go_at_call 27; refine' Calls.mono (sum_any Q _ kq (amts gs ⟨x0, x1⟩) _ (rq.bel (by repeat first | with_reducible exact Bel.refl _ | with_reducible apply Bel.drew | with_reducible apply Bel.alloc)) (HAL.out _) (HI.out _)) ?_; rintro e w10 ⟨rfl, b10⟩; have by_ : Bel W0 w10 := Bel.trans (by repeat first | with_reducible exact bz | with_reducible apply Bel.drew | with_reducible apply Bel.alloc) b10; rw [HSV.out.1, HSV.out.2.1]))
      all_goals (
        have B5 := hid_ (hBr.out.trans by_)
        have c2 := by_.cell_ c2
        have hx := HSV.out.2.2
        have s0 : -9223372036854775808 ≤ -sv := by omega
        have s1 : -sv ≤ 9223372036854775807 := by omega
        have s2 : decide (x2 < -sv) = false := decide_eq_false (by omega)
        clear hx HSV o hkq rq bz by_ b9 b10 HKP hBr
        go_wp2
        case roundEnd =>
          go_roundw
          case rel => exact ⟨j + 1, by omega, by go_num, B5⟩
          case measure => simp [intOf]; omega)
    · obtain rfl : n5 = j := by omega
      obtain ⟨w1, hw1⟩ : ∃ w1, wr = w1 := ⟨_, rfl⟩
      rw [hw1] at hBr ⊢
      clear hw1
      have GA := hid_ (f4A.out.bel hBr.out)
      have GY := hid_ (RY.out.bel hBr.out)
      have GB := hid_ (f4B.out.trans hBr.out)
      clear hBr hjn hj
      go_wp2_with fail
      go_loopw [11, 12, 13] (fun i _ _ wr => ∃ j : Nat, j ≤ n6 ∧ i = .int .i64 j ∧ Hid (Bel w1 wr)) (fun i _ _ _ => n6 - (intOf i).toNat)
      case atStart => exact ⟨0, Nat.zero_le _, rfl, hid_ (Bel.refl _)⟩
      case round =>
        obtain ⟨j, hj, rfl, hBr⟩ := hrel
        by_cases hjn : j < n6
        · obtain ⟨ad, x0, x1, x2, rfl, ho, c0, c1, c2⟩ := (GY.out.bel hBr.out).due hjn
          have HGG := hid_ (HGY.out _ (List.mem_of_getElem? ho))
          clear ho
          obtain ⟨w2, hw2⟩ : ∃ w2, wr = w2 := ⟨_, rfl⟩
          rw [hw2] at hBr c0 c1 c2 ⊢
          clear hw2
          have CC := hid_ (And.intro c0 (And.intro c1 c2))
          have HJ := hid_ (And.intro hj hjn)
          clear c0 c1 c2
          have i0 : (0 : Int) ≤ (j : Int) := by omega
          have i1 : (j : Int) < (n6 : Int) := by omega
          go_wp2_with fail
          go_loopw [12, 13] (fun o i wr => ∃ (q : Nat) (ob : Bool), q ≤ n ∧ i = .int .i64 q ∧ o = .bool ob ∧ Hid (owesB (l.take q) ⟨x0, x1⟩ = ob) ∧ Hid (Bel w2 wr)) (fun _ i _ => n - (intOf i).toNat)
          case atStart => exact ⟨0, false, Nat.zero_le _, rfl, rfl, hid_ rfl, hid_ (Bel.refl _)⟩
          case round =>
            obtain ⟨q, ob, hq, rfl, rfl, hOb, hBq⟩ := hrel
            by_cases hqn : q < n
            · obtain ⟨adx, k0, k1, k2, rfl, hox, d0, d1, d2⟩ := ((GA.out.bel hBr.out).bel hBq.out).due hqn
              have HST := hid_ (owesB_step hox ⟨x0, x1⟩)
              clear hox
              have c0 := hBq.out.cell_ CC.out.1
              have c1 := hBq.out.cell_ CC.out.2.1
              have i2 : (0 : Int) ≤ (q : Int) := by omega
              have i3 : (q : Int) < (n : Int) := by omega
              obtain ⟨e1, he1⟩ : ∃ e1, (k0.toList == x0.toList) = e1 := ⟨_, rfl⟩
              obtain ⟨e2, he2⟩ : ∃ e2, (k1.toList == x1.toList) = e2 := ⟨_, rfl⟩
              obtain ⟨e3, he3⟩ : ∃ e3, decide (k2 < 0) = e3 := ⟨_, rfl⟩
              have h1 := he1
              have h2 := he2
              rw [bytesEq] at h1 h2
              have HEQ : Hid (owesB (l.take (q + 1)) ⟨x0, x1⟩ = (ob || (e1 && (e2 && e3)))) := hid_ (by
                rw [HST.out, hOb.out, show Due.plc ⟨k0, k1, k2⟩ = ⟨k0, k1⟩ from rfl, ← h1, ← h2, ← he3]
                congr 1
                rw [show decide ((⟨k0, k1⟩ : Plc) = ⟨x0, x1⟩) = (decide (k0 = x0) && decide (k1 = x1)) by rw [← Bool.decide_and]; simp only [Plc.mk.injEq], Bool.and_assoc])
              clear h1 h2 HST hOb
              have HQ2 := hid_ (And.intro hq hqn)
              clear hq hqn
              cases ob
              · cases e1
                · skip
                  go_upto_region 22 with (fail)
                  go_quiet (fail)
                  obtain ⟨W5, hW5, hb5⟩ : ∃ W5, wr.drewN nq = W5 ∧ Bel wr W5 := ⟨_, rfl, (Bel.refl wr).drewN _⟩
                  rw [hW5]
                  have B5 := hid_ (hBq.out.trans hb5)
                  clear hW5 hb5 hBq c0 c1 d0 d1 d2 he1 he2 he3
                  go_wp2
                  case roundEnd =>
                    go_roundw
                    case rel => exact ⟨q + 1, false, HQ2.out.2, by go_num, rfl, hid_ (by rw [HEQ.out]; rfl), B5⟩
                    case measure => have := HQ2.out.2; simp [intOf]; omega
                · cases e2
                  · skip
                    go_upto_region 22 with (fail)
                    go_quiet (fail)
                    obtain ⟨W5, hW5, hb5⟩ : ∃ W5, wr.drewN nq = W5 ∧ Bel wr W5 := ⟨_, rfl, (Bel.refl wr).drewN _⟩
                    rw [hW5]
                    have B5 := hid_ (hBq.out.trans hb5)
                    clear hW5 hb5 hBq c0 c1 d0 d1 d2 he1 he2 he3
                    go_wp2
                    case roundEnd =>
                      go_roundw
                      case rel => exact ⟨q + 1, false, HQ2.out.2, by go_num, rfl, hid_ (by rw [HEQ.out]; rfl), B5⟩
                      case measure => have := HQ2.out.2; simp [intOf]; omega
                  · cases e3
                    · skip
                      go_upto_region 22 with (fail)
                      go_quiet (fail)
                      obtain ⟨W5, hW5, hb5⟩ : ∃ W5, wr.drewN nq = W5 ∧ Bel wr W5 := ⟨_, rfl, (Bel.refl wr).drewN _⟩
                      rw [hW5]
                      have B5 := hid_ (hBq.out.trans hb5)
                      clear hW5 hb5 hBq c0 c1 d0 d1 d2 he1 he2 he3
                      go_wp2
                      case roundEnd =>
                        go_roundw
                        case rel => exact ⟨q + 1, false, HQ2.out.2, by go_num, rfl, hid_ (by rw [HEQ.out]; rfl), B5⟩
                        case measure => have := HQ2.out.2; simp [intOf]; omega
                    · skip
                      go_upto_region 22 with (fail)
                      go_quiet (fail)
                      obtain ⟨W5, hW5, hb5⟩ : ∃ W5, wr.drewN nq = W5 ∧ Bel wr W5 := ⟨_, rfl, (Bel.refl wr).drewN _⟩
                      rw [hW5]
                      have B5 := hid_ (hBq.out.trans hb5)
                      clear hW5 hb5 hBq c0 c1 d0 d1 d2 he1 he2 he3
                      go_wp2
                      case roundEnd =>
                        go_roundw
                        case rel => exact ⟨q + 1, true, HQ2.out.2, by go_num, rfl, hid_ (by rw [HEQ.out]; rfl), B5⟩
                        case measure => have := HQ2.out.2; simp [intOf]; omega
              · skip
                go_upto_region 22 with (fail)
                go_quiet (fail)
                obtain ⟨W5, hW5, hb5⟩ : ∃ W5, wr.drewN nq = W5 ∧ Bel wr W5 := ⟨_, rfl, (Bel.refl wr).drewN _⟩
                rw [hW5]
                have B5 := hid_ (hBq.out.trans hb5)
                clear hW5 hb5 hBq c0 c1 d0 d1 d2 he1 he2 he3
                go_wp2
                case roundEnd =>
                  go_roundw
                  case rel => exact ⟨q + 1, true, HQ2.out.2, by go_num, rfl, hid_ (by rw [HEQ.out]; rfl), B5⟩
                  case measure => have := HQ2.out.2; simp [intOf]; omega
            · obtain rfl : n = q := by omega
              have HT : Hid (ob = true) := hid_ (by
                have h := hOb.out
                rw [show l.take n = l from List.take_of_length_le (by rw [HLA.out]; exact Nat.le_refl _)] at h
                rw [← h]
                exact HGG.out.1)
              obtain rfl := HT.out
              have B5 := hid_ (hBr.out.trans hBq.out)
              have c2 := hBq.out.cell_ CC.out.2.2
              have hg : 1 ≤ x2 := HGG.out.2
              have s2 : decide (x2 < 1) = false := decide_eq_false (by omega)
              clear hBr hBq hOb hqn hq
              go_wp2
              case roundEnd =>
                go_roundw
                case rel => exact ⟨j + 1, HJ.out.2, by go_num, B5⟩
                case measure => have := HJ.out.2; simp [intOf]; omega
        · obtain rfl : n6 = j := by omega
          have B5 := hid_ (GB.out.trans hBr.out)
          clear hBr hjn hj
          go_wp2
          go_ret
          exact ⟨rfl, B5.out⟩
end Go.Proofs.Ytgnninpfhnpjoaa
