/- AllocLow, walked. -/
import Derived.Test.YtboaidjhhlidkaaAl25
import Derived.Test.YtboaidjhhlidkaaAlP
import Derived.Test.YtboaidjhhlidkaaOpPool
set_option linter.unusedSimpArgs false
set_option linter.unusedVariables false
namespace Go.Proofs.Ytboaidjhhlidkaa
open Go.RowKit
set_option maxRecDepth 10000 in
set_option maxHeartbeats 8000000 in
theorem walkAllocLow (w : World) (h : Int) (A B : Option Addr) (n c m d : Nat) (F L : List Int) (most : Int) (hh : intWf h) (hnc : n ≤ c) (hmd : m ≤ d) (hA : Row intT w A n F) (hB : Row intT w B m L) (hF : ∀ y ∈ F, intWf y) (hL : ∀ y ∈ L, intWf y) (hmo : intWf most) :
    Calls Try.prog 13 #[.agg #[.int .i64 h, .slice A n c, .slice B m d], .int .i64 most] w fun e w' => e = .returned (.bool true) ∧ Bel w w' := by
  have hn63 := hA.2.1
  have hm63 := hB.2.1
  have HN := hid_ hn63
  have HM := hid_ hm63
  clear hn63 hm63
  go_enter Try.func13, Try.ntmps13
  have K0 := hid_ (Bx.new w 48 [.int .i64 h, .slice A n c, .slice B m d])
  have B0 : Hid (Bel w (w.alloc (.cells #[.int .i64 h, .slice A n c, .slice B m d] 48))) := (Bel.refl w).alloc _
  go_wp2_with fail
  refine (awake06 _).mono ?_
  rintro e w1 ⟨rfl, b1⟩
  have K1 := hid_ (K0.out.bel b1)
  have B1 := hid_ (B0.out.trans b1)
  have e0 := K1.out.cell 0 rfl
  have e1 := K1.out.cell 1 rfl
  have e2 := K1.out.cell 2 rfl
  clear K0 B0 b1
  go_wp2_with fail
  refine (few_any h A B n c m d _ HN.out HM.out).mono ?_
  rintro e w2 ⟨rfl, b2⟩
  have K2 := hid_ (K1.out.bel b2)
  have B2 := hid_ (B1.out.trans b2)
  clear K1 B1 b2 e0 e1 e2
  have e0 := K2.out.cell 0 rfl
  have e1 := K2.out.cell 1 rfl
  have e2 := K2.out.cell 2 rfl
  obtain ⟨fb, hfb⟩ : ∃ fb, fewB n m = fb := ⟨_, rfl⟩
  rw [hfb]
  have HF := hid_ hfb
  clear hfb
  cases fb
  · go_wp2
    go_ret
    exact ⟨rfl, B2.out⟩
  have hfew := few_le HF.out
  clear HF
  go_wp2_with fail
  refine (check_any h most A B n c m d F L _ (hA.bel B2.out) (hB.bel B2.out)).mono ?_
  rintro e w3 ⟨rfl, b3⟩
  have K3 := hid_ (K2.out.bel b3)
  have B3 := hid_ (B2.out.trans b3)
  clear K2 B2 b3 e0 e1 e2
  have e0 := K3.out.cell 0 rfl
  have e1 := K3.out.cell 1 rfl
  have e2 := K3.out.cell 2 rfl
  obtain ⟨ob, hob⟩ : ∃ ob, okP h most F L = ob := ⟨_, rfl⟩
  have HO := hid_ hob
  clear hob
  cases ob
  · rw [chkP_no HO.out]
    go_wp2
    go_ret
    exact ⟨rfl, B3.out⟩
  rw [chkP_yes HO.out]
  have HK : Hid (Ok h most F L) := ok_iff.1 HO.out
  clear HO
  go_wp2_with fail
  refine (take_any h most A B n c m d F L _ (hA.bel B3.out) (hB.bel B3.out) (by omega) (by omega)).mono ?_
  rintro e w4 ⟨v, rfl, ⟨A4, n4, c4, B4, m4, d4, rfl, _, _, _, _⟩, b4⟩
  have K4 := hid_ ((K3.out.bel b4).alloc (.cells #[.int .i64 (takeH h most F), .slice A4 n4 c4, .slice B4 m4 d4] 48))
  have B4 := hid_ ((B3.out.trans b4).alloc (.cells #[.int .i64 (takeH h most F), .slice A4 n4 c4, .slice B4 m4 d4] 48))
  clear K3 B3 b4 e0 e1 e2
  have e0 := K4.out.cell 0 rfl
  have e1 := K4.out.cell 1 rfl
  have e2 := K4.out.cell 2 rfl
  have h0 : 0 ≤ h := by have := HK.out.two; omega
  have HM64 := hid_ (i64_le hmo)
  rcases F with _ | ⟨x, F⟩
  · obtain rfl : 0 = n := hA.1
    by_cases hfull : most ≤ h
    · obtain ⟨t1, t2, t3⟩ := take_full hfull
      rw [t1, t2]
      have heq : h = most := by have := HK.out.top; omega
      subst heq
      clear hfull t1 t2 t3 h0
      go_wp2
      go_ret
      exact ⟨rfl, B4.out⟩
    · obtain ⟨t1, t2, t3⟩ := take_new h0 (by omega) HM64.out
      rw [t1, t2]
      clear hfull t1 t2 t3 h0
      go_wp2
      go_loopw [9] (fun i wr => i = .int .i64 0 ∧ Bx wr w.heap.size 48 [.int .i64 h, .slice A 0 c, .slice B m d] ∧ Bel w wr) (fun i _ => 0)
      case atStart => exact ⟨rfl, K4.out, B4.out⟩
      case round =>
        clear e0 e1 e2 K4 B4
        obtain ⟨rfl, hk, hbr⟩ := hrel
        have e0 := hk.cell 0 rfl
        have e1 := hk.cell 1 rfl
        have HB := hid_ hbr
        clear hk hbr
        go_wp2
        go_ret
        exact ⟨rfl, HB.out⟩
  · have t1 : takeN h most (x :: F) = x := rfl
    have t2 : takeE h most (x :: F) = 0 := rfl
    rw [t1, t2]
    clear t1 t2
    have hlen : F.length + 1 = n := hA.1
    have HLEN := hid_ hlen
    have hs := HK.out.fs
    have HS := hid_ hs
    clear hlen hs h0
    go_wp2
    go_loopw [9] (fun i wr => ∃ k : Nat, k ≤ n ∧ i = .int .i64 k ∧ Bx wr w.heap.size 48 [.int .i64 h, .slice A n c, .slice B m d] ∧ Bel w wr) (fun i _ => n - (intOf i).toNat)
    case atStart => exact ⟨0, Nat.zero_le _, rfl, K4.out, B4.out⟩
    case round =>
      clear e0 e1 e2 K4 B4
      obtain ⟨k, hk, rfl, hkb, hbr⟩ := hrel
      have e1 := hkb.cell 1 rfl
      have HKB := hid_ hkb
      have HB := hid_ hbr
      clear hkb hbr
      by_cases hkn : k < n
      · obtain ⟨ad, y, rfl, hy, d0⟩ := (hA.bel HB.out).int hkn
        have hxy : ¬ y < x := by
          rcases k with _ | k
          · have : x = y := by simpa using hy
            omega
          · have h1 : F[k]? = some y := by simpa using hy
            have := (List.pairwise_cons.1 HS.out).1 y (List.mem_of_getElem? h1)
            omega
        clear hy
        go_wp2
        case roundEnd =>
          go_roundw
          case rel => exact ⟨k + 1, by omega, by go_num, HKB.out, HB.out⟩
          case measure => simp [intOf]; omega
      · have hkn' : k = n := by omega
        subst hkn'
        have hpos : (0 : Int) < (k : Int) := by have := HLEN.out; omega
        obtain ⟨ad, y, rfl, hy, d0⟩ := (hA.bel HB.out).int (k := 0) (by have := HLEN.out; omega)
        obtain rfl : x = y := by simpa using hy
        have hA0 : ad.add 0 = ad := by unfold Addr.add; simp
        rw [hA0] at d0
        clear hy hA0
        go_wp2
        go_ret
        exact ⟨rfl, HB.out⟩
end Go.Proofs.Ytboaidjhhlidkaa
