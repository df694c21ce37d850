/- NettingKeeps, walked. -/
import Derived.Test.YtgnninpfhnpjoaaAw17
import Derived.Test.YtgnninpfhnpjoaaFew17
import Derived.Test.YtgnninpfhnpjoaaSameDue
import Derived.Test.YtgnninpfhnpjoaaOpDue
import Derived.Test.YtgnninpfhnpjoaaLit
import Derived.Test.YtgnninpfhnpjoaaNxP
set_option linter.unusedSimpArgs false
set_option linter.unusedVariables false
namespace Go.Proofs.Ytgnninpfhnpjoaa
open Go.RowKit Go.Lib
theorem i64w_wf' {x : Int} (h : (Lit.int .i64 x).wf = true) : i64w' x := by
  simp [Lit.wf, IntKind.min, IntKind.max, IntKind.signed, IntKind.bits] at h
  exact h
theorem due_sz {l : List Due} (hw : ∀ x ∈ l, dueWf x) : ∀ x ∈ l, x.who.size ≤ 9223372036854775807 ∧ x.asset.size ≤ 9223372036854775807 ∧ i64w' x.amount := fun x hx => ⟨(hw x hx).1, (hw x hx).2.1, i64w_wf' (hw x hx).2.2⟩
theorem net_sz {l : List Due} (hw : ∀ x ∈ l, x.who.size ≤ 9223372036854775807 ∧ x.asset.size ≤ 9223372036854775807 ∧ i64w' x.amount) : ∀ x ∈ netO l, x.who.size ≤ 9223372036854775807 ∧ x.asset.size ≤ 9223372036854775807 ∧ i64w' x.amount := fun x hx => by
  obtain ⟨y, hy, e1, e2⟩ := net_mem hx
  have := hw y hy
  rw [e1, e2] at this
  exact ⟨this.1, this.2.1, net_i64 hx⟩
set_option maxRecDepth 10000 in
set_option maxHeartbeats 4000000 in
theorem walkNettingKeeps (w : World) (A : Option Addr) (n c : Nat) (l : List Due) (ha : n ≤ c ∧ Row dueT w A n l ∧ ∀ x ∈ l, dueWf x) (who : ByteArray) (hs1 : who.size ≤ 9223372036854775807) (asset : ByteArray) (hs2 : asset.size ≤ 9223372036854775807) : Calls Try.prog 4 #[.slice A n c, .string who, .string asset] w fun e w' => e = .returned (.bool true) ∧ Bel w w' := by
  obtain ⟨hncA, hA, hwA⟩ := ha
  have H63A := hid_ hA.2.1
  have h63A := hA.2.1
  have HNCA := hid_ hncA
  have HZA := hid_ (due_sz hwA)
  have HLA := hid_ hA.1
  have FA := hid_ hA
  clear hncA hA hwA
  have FB := hid_ (Bel.refl w)
  clear hs1 hs2
  go_enter Try.func4, Try.ntmps4
  go_wp2_with fail
  refine (awake17 _).mono ?_
  rintro e v1 ⟨rfl, b⟩
  have bb := b
  have f1A := hid_ (FA.out.bel bb)
  have f1B := hid_ (FB.out.trans bb)
  clear b bb FA FB
  go_wp2_with fail
  refine (few17_any A n c l _ f1A.out).mono ?_
  rintro e v2 ⟨rfl, b⟩
  have bb := b
  have f2A := hid_ (f1A.out.bel bb)
  have f2B := hid_ (f1B.out.trans bb)
  clear b bb f1A f1B
  obtain ⟨fb, hfb⟩ : ∃ fb, few17 l = fb := ⟨_, rfl⟩
  rw [hfb]
  cases fb
  · clear hfb
    go_wp2
    go_ret
    exact ⟨rfl, f2B.out⟩
  have HQA := hid_ (few17_iff.1 hfb)
  have HNA : Hid (n ≤ 90000) := hid_ (by have h1 := HQA.out.1; have h2 := HLA.out; omega)
  clear hfb
  go_wp2_with fail
  refine (net_any A n c l _ f2A.out HNA.out HZA.out).mono ?_
  rintro e v3 ⟨v, rfl, o, b⟩
  have bb := b
  obtain ⟨A5, c5, rfl, hc5, r5⟩ := o.reads
  clear o hc5
  have f3A := hid_ (f2A.out.bel bb)
  have f3B := hid_ (f2B.out.trans bb)
  have f3X := hid_ r5
  clear b bb f2A f2B r5
  obtain ⟨ok, hok⟩ : ∃ q, netOk l = q := ⟨_, rfl⟩
  cases ok
  · rw [(netE_10 hok).1, (netE_10 hok).2]
    clear hok
    simp only [List.length_nil]
    go_wp2
    go_ret
    exact ⟨rfl, f3B.out⟩
  rw [netE_0 hok]
  have HOK := hid_ hok
  clear hok
  obtain ⟨n5, hn5⟩ : ∃ q, (netO l).length = q := ⟨_, rfl⟩
  have HN5 : Hid (n5 ≤ 90000 ∧ (netO l).length = n5) := hid_ ⟨by have h1 := net_len l; have h2 := HQA.out.1; omega, hn5⟩
  have rx := f3X.out
  rw [hn5] at rx ⊢
  have RX := hid_ rx
  have h65 := rx.2.1
  clear rx hn5 f3X
  go_wp2_with fail
  obtain ⟨w0, hw0⟩ : ∃ q, v3 = q := ⟨_, rfl⟩
  rw [hw0] at f3A f3B RX ⊢
  clear hw0
  go_loopw [10, 11] (fun i _ wr => ∃ j : Nat, j ≤ n5 ∧ i = .int .i64 j ∧ Hid (Bel w0 wr)) (fun i _ _ => n5 - (intOf i).toNat)
  case atStart => exact ⟨0, Nat.zero_le _, rfl, hid_ (Bel.refl _)⟩
  case round =>
    obtain ⟨j, hj, rfl, hBr⟩ := hrel
    by_cases hjn : j < n5
    · obtain ⟨ad, x0, x1, x2, rfl, ho, c0, c1, c2⟩ := (RX.out.bel hBr.out).due hjn
      have hnz := (net_nz (List.mem_of_getElem? ho)).1
      have i0 : (0 : Int) ≤ (j : Int) := by omega
      have i1 : (j : Int) < (n5 : Int) := by omega
      have zz : (x2 == 0) = false := by simpa using hnz
      clear hnz
      rcases Nat.eq_zero_or_pos j with hq0 | hq0
      · have j1 : ((j : Int) == 0) = true := by simp; omega
        have j2 : (j == 0) = true := by simp; omega
        clear hq0 ho
        go_upto_region 10 with (fail)
        go_quiet (fail)
        obtain ⟨W5, hW5, hb5⟩ : ∃ W5, wr.drewN nq = W5 ∧ Bel wr W5 := ⟨_, rfl, (Bel.refl wr).drewN _⟩
        rw [hW5]
        have c2 := hb5.cell_ c2
        have B5 := hid_ (hBr.out.trans hb5)
        clear hW5 hb5 hBr
        go_wp2
        case roundEnd =>
          go_roundw
          case rel => exact ⟨j + 1, by omega, by go_num, B5⟩
          case measure => simp [intOf]; omega
      · obtain ⟨r, hr⟩ : ∃ r, j = r + 1 := ⟨j - 1, by omega⟩
        obtain ⟨ad2, y0, y1, y2, e2, hy, d0, d1, d2⟩ := (RX.out.bel hBr.out).due (show r < n5 by omega)
        cases e2
        have hup := (up_at (net_up l) (i := r) (j := j) (p := ⟨y0, y1⟩) (q := ⟨x0, x1⟩) (by rw [List.getElem?_map, hy]; rfl) (by rw [List.getElem?_map, ho]; rfl)).2 (by omega)
        have j1 : ((j : Int) == 0) = false := by simp; omega
        have j2 : (j == 0) = false := by simp; omega
        have j3 : (r : Int) < (n5 : Int) := by omega
        have j4 : (0 : Int) ≤ (r : Int) := by omega
        have j5 : wrap64 ((j : Int) - 1) = (r : Int) := by unfold wrap64; omega
        have j6 : IntKind.i64.wrap ((j : Int) - 1) = (r : Int) := by rw [IntWalk.i64_left]; exact j5
        obtain ⟨b1, hb1⟩ : ∃ b, Op.bytesLess y0.toList x0.toList = b := ⟨_, rfl⟩
        obtain ⟨b2, hb2⟩ : ∃ b, (y0.toList == x0.toList) = b := ⟨_, rfl⟩
        obtain ⟨b3, hb3⟩ : ∃ b, Op.bytesLess y1.toList x1.toList = b := ⟨_, rfl⟩
        have HBB : Hid ((b1 || (b2 && b3)) = true) := hid_ (by rw [← hup, ← hb1, ← hb2, ← hb3, bytesEq]; rfl)
        clear hup hy ho hr hq0 d2
        cases b1
        · obtain ⟨rfl, rfl⟩ : b2 = true ∧ b3 = true := by have := HBB.out; simpa using this
          go_upto_region 10 with (fail)
          go_quiet (fail)
          obtain ⟨W5, hW5, hb5⟩ : ∃ W5, wr.drewN nq = W5 ∧ Bel wr W5 := ⟨_, rfl, (Bel.refl wr).drewN _⟩
          rw [hW5]
          have c2 := hb5.cell_ c2
          have B5 := hid_ (hBr.out.trans hb5)
          clear hW5 hb5 hBr
          go_wp2
          case roundEnd =>
            go_roundw
            case rel => exact ⟨j + 1, by omega, by go_num, B5⟩
            case measure => simp [intOf]; omega
        · go_upto_region 10 with (fail)
          go_quiet (fail)
          obtain ⟨W5, hW5, hb5⟩ : ∃ W5, wr.drewN nq = W5 ∧ Bel wr W5 := ⟨_, rfl, (Bel.refl wr).drewN _⟩
          rw [hW5]
          have c2 := hb5.cell_ c2
          have B5 := hid_ (hBr.out.trans hb5)
          clear hW5 hb5 hBr
          go_wp2
          case roundEnd =>
            go_roundw
            case rel => exact ⟨j + 1, by omega, by go_num, B5⟩
            case measure => simp [intOf]; omega
    · obtain rfl : n5 = j := by omega
      have GA := hid_ (f3A.out.bel hBr.out)
      have GX := hid_ (RX.out.bel hBr.out)
      have GB := hid_ (f3B.out.trans hBr.out)
      clear hBr hjn hj f3A f3B RX
      have HSV := hid_ (sumV_congr (net_sum HOK.out ⟨who, asset⟩))
      have HSE : Hid (sumE (amts l ⟨who, asset⟩) = 0) := hid_ (by unfold sumE; rw [netOk_iff.1 HOK.out]; rfl)
      have HZN := hid_ (net_sz HZA.out)
      have HI1 := hid_ (amts_i64 (legs := l) (fun x hx => (HZA.out x hx).2.2) ⟨who, asset⟩)
      have HI2 := hid_ (amts_i64 (legs := netO l) (fun x hx => (HZN.out x hx).2.2) ⟨who, asset⟩)
      have HL1 : Hid ((amts l ⟨who, asset⟩).length ≤ 1000000 ∧ (amts (netO l) ⟨who, asset⟩).length ≤ 1000000) := hid_ ⟨by have h1 := amts_len l ⟨who, asset⟩; have h2 := HQA.out.1; omega, by have h1 := amts_len (netO l) ⟨who, asset⟩; have h2 := HN5.out; omega⟩
      obtain ⟨tv, htv⟩ : ∃ q, sumV (amts l ⟨who, asset⟩) = q := ⟨_, rfl⟩
      rw [htv, HSE.out] at HSV
      have HTV := hid_ htv
      clear htv
      go_wp2_with fail
      refine (amts_any A n c l who asset _ GA.out HNA.out).mono ?_
      rintro e v5 ⟨v, rfl, o, b⟩
      have bb := b
      obtain ⟨Q5, k5, rfl, hk5, r⟩ := o.reads
      clear o hk5
      have f5A := hid_ (GA.out.bel bb)
      have f5X := hid_ (GX.out.bel bb)
      have f5B := hid_ (GB.out.trans bb)
      have f5M := hid_ r
      clear b bb GA GX GB r
      go_wp2_with fail
      refine (sum_any Q5 _ k5 (amts l ⟨who, asset⟩) _ f5M.out HL1.out.1 HI1.out).mono ?_
      rintro e v6 ⟨rfl, b⟩
      have bb := b
      rw [HTV.out, HSE.out]
      have f6A := hid_ (f5A.out.bel bb)
      have f6X := hid_ (f5X.out.bel bb)
      have f6B := hid_ (f5B.out.trans bb)
      have f6M := hid_ (f5M.out.bel bb)
      clear b bb f5A f5X f5B f5M
      clear f6M
      go_wp2_with fail
      refine (amts_any A5 n5 c5 (netO l) who asset _ f6X.out HN5.out.1).mono ?_
      rintro e v7 ⟨v, rfl, o, b⟩
      have bb := b
      obtain ⟨Q6, k6, rfl, hk6, r⟩ := o.reads
      clear o hk6
      have f7A := hid_ (f6A.out.bel bb)
      have f7X := hid_ (f6X.out.bel bb)
      have f7B := hid_ (f6B.out.trans bb)
      have f7M := hid_ r
      clear b bb f6A f6X f6B r
      go_wp2_with fail
      refine (sum_any Q6 _ k6 (amts (netO l) ⟨who, asset⟩) _ f7M.out HL1.out.2 HI2.out).mono ?_
      rintro e v8 ⟨rfl, b⟩
      have bb := b
      rw [HSV.out.1, HSV.out.2]
      have f8A := hid_ (f7A.out.bel bb)
      have f8X := hid_ (f7X.out.bel bb)
      have f8B := hid_ (f7B.out.trans bb)
      have f8M := hid_ (f7M.out.bel bb)
      clear b bb f7A f7X f7B f7M
      clear f8M
      have HZB := hid_ (net_zero HOK.out)
      go_wp2_with fail
      refine (zero_any A5 n5 c5 (netO l) _ f8X.out HN5.out.1 HZN.out).mono ?_
      rintro e v9 ⟨rfl, b⟩
      have bb := b
      rw [HZB.out]
      have f9A := hid_ (f8A.out.bel bb)
      have f9X := hid_ (f8X.out.bel bb)
      have f9B := hid_ (f8B.out.trans bb)
      clear b bb f8A f8X f8B
      go_wp2_with fail
      refine (zero_any A n c l _ f9A.out HNA.out HZA.out).mono ?_
      rintro e v10 ⟨rfl, b⟩
      have bb := b
      obtain ⟨zb, hzb⟩ : ∃ q, zeroB l = q := ⟨_, rfl⟩
      rw [hzb]
      clear hzb
      have f10A := hid_ (f9A.out.bel bb)
      have f10X := hid_ (f9X.out.bel bb)
      have f10B := hid_ (f9B.out.trans bb)
      clear b bb f9A f9X f9B
      go_wp2
      go_ret
      exact ⟨rfl, f10B.out⟩
end Go.Proofs.Ytgnninpfhnpjoaa
