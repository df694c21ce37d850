/- AllocBack, walked. -/
import Derived.Test.YtboaidjhhlidkaaAl25
import Derived.Test.YtboaidjhhlidkaaAlP
import Derived.Test.YtboaidjhhlidkaaOpPool
set_option linter.unusedSimpArgs false
set_option linter.unusedVariables false
namespace Go.Proofs.Ytboaidjhhlidkaa
open Go.RowKit
theorem same_eq (h : Int) (A B A' B' : Option Addr) (n c m d n' c' m' d' : Nat) (F L : List Int) (w : World) (hA : Row intT w A n F) (hB : Row intT w B m L) (hA' : Row intT w A' n' F) (hB' : Row intT w B' m' L) :
    Calls Try.prog 37 #[.agg #[.int .i64 h, .slice A n c, .slice B m d], .agg #[.int .i64 h, .slice A' n' c', .slice B' m' d']] w fun e w' => e = .returned (.bool true) ∧ Bel w w' := by
  refine (same_any h h A B A' B' n c m d n' c' m' d' F L F L w hA hB hA' hB').mono ?_
  rintro e w1 ⟨rfl, b⟩
  exact ⟨by simp, b⟩
theorem chunkF_spec : ∀ (f : Nat) (l : List Int) (j : Nat) (x : List Int), l.length ≤ f → (chunkF f l)[j]? = some x → 0 < x.length ∧ x.length ≤ 200 ∧ (j + 1 < (chunkF f l).length → x.length = 200)
  | 0, l, j, x, _, h => by simp [chunkF] at h
  | f + 1, [], j, x, _, h => by simp [chunkF] at h
  | f + 1, y :: r, 0, x, hl, h => by
    have hx : (y :: r).take 200 = x := by simpa [chunkF] using h
    subst hx
    refine ⟨by simp, by simp [List.length_take]; omega, fun hlt => ?_⟩
    have h1 : 0 < (chunkF f ((y :: r).drop 200)).length := by
      rw [chunkF, List.length_cons] at hlt
      omega
    have h2 := chunkF_len f ((y :: r).drop 200)
    rw [List.length_drop] at h2
    rw [List.length_take]
    omega
  | f + 1, y :: r, j + 1, x, hl, h => by
    have hx : (chunkF f ((y :: r).drop 200))[j]? = some x := by simpa [chunkF] using h
    have hl' : ((y :: r).drop 200).length ≤ f := by rw [List.length_drop]; simp only [List.length_cons] at hl ⊢; omega
    obtain ⟨s1, s2, s3⟩ := chunkF_spec f _ j x hl' hx
    refine ⟨s1, s2, fun hlt => s3 ?_⟩
    rw [chunkF, List.length_cons] at hlt
    omega
theorem chunks_spec {l : List Int} {j : Nat} {x : List Int} (h : (chunksP l)[j]? = some x) : 0 < x.length ∧ x.length ≤ 200 ∧ (j + 1 < (chunksP l).length → x.length = 200) := chunkF_spec _ l j x (Nat.le_refl _) h
theorem chunkF_flatten : ∀ (f : Nat) (l : List Int), l.length ≤ f → (chunkF f l).flatten = l
  | 0, l, h => by
    obtain rfl : l = [] := List.eq_nil_of_length_eq_zero (by omega)
    rfl
  | f + 1, [], _ => rfl
  | f + 1, y :: r, h => by
    have hl' : ((y :: r).drop 200).length ≤ f := by rw [List.length_drop]; simp only [List.length_cons] at h ⊢; omega
    rw [chunkF, List.flatten_cons, chunkF_flatten f _ hl']
    exact List.take_append_drop 200 (y :: r)
theorem chunks_flatten (l : List Int) : (chunksP l).flatten = l := chunkF_flatten _ l (Nat.le_refl _)
set_option maxRecDepth 10000 in
set_option maxHeartbeats 8000000 in
theorem walkAllocBack (w : World) (h : Int) (A B : Option Addr) (n c m d : Nat) (F L : List Int) (hh : intWf h) (hnc : n ≤ c) (hmd : m ≤ d) (hA : Row intT w A n F) (hB : Row intT w B m L) (hF : ∀ y ∈ F, intWf y) (hL : ∀ y ∈ L, intWf y) :
    Calls Try.prog 12 #[.agg #[.int .i64 h, .slice A n c, .slice B m d]] w fun e w' => e = .returned (.bool true) ∧ Bel w w' := by
  have hn63 := hA.2.1
  have hm63 := hB.2.1
  have HN := hid_ hn63
  have HM := hid_ hm63
  clear hn63 hm63
  go_enter Try.func12, Try.ntmps12
  have K0 := hid_ (Bx.new w 48 [.int .i64 h, .slice A n c, .slice B m d])
  have B0 : Hid (Bel w (w.alloc (.cells #[.int .i64 h, .slice A n c, .slice B m d] 48))) := (Bel.refl w).alloc _
  go_wp2_with fail
  refine (awake06 _).mono ?_
  rintro e w1 ⟨rfl, b1⟩
  have K1 := hid_ (K0.out.bel b1)
  have B1 := hid_ (B0.out.trans b1)
  have e0 := K1.out.cell 0 rfl
  have e1 := K1.out.cell 1 rfl
  have e2 := K1.out.cell 2 rfl
  clear K0 B0 b1
  go_wp2_with fail
  refine (few_any h A B n c m d _ HN.out HM.out).mono ?_
  rintro e w2 ⟨rfl, b2⟩
  have K2 := hid_ (K1.out.bel b2)
  have B2 := hid_ (B1.out.trans b2)
  clear K1 B1 b2 e0 e1 e2
  have e0 := K2.out.cell 0 rfl
  have e1 := K2.out.cell 1 rfl
  have e2 := K2.out.cell 2 rfl
  obtain ⟨fb, hfb⟩ : ∃ fb, fewB n m = fb := ⟨_, rfl⟩
  rw [hfb]
  have HF := hid_ hfb
  clear hfb
  cases fb
  · go_wp2
    go_ret
    exact ⟨rfl, B2.out⟩
  have hfew := few_le HF.out
  clear HF
  go_wp2_with fail
  refine (check_any h 4096 A B n c m d F L _ (hA.bel B2.out) (hB.bel B2.out)).mono ?_
  rintro e w3 ⟨rfl, b3⟩
  have K3 := hid_ (K2.out.bel b3)
  have B3 := hid_ (B2.out.trans b3)
  clear K2 B2 b3 e0 e1 e2
  have e0 := K3.out.cell 0 rfl
  have e1 := K3.out.cell 1 rfl
  have e2 := K3.out.cell 2 rfl
  obtain ⟨ob, hob⟩ : ∃ ob, okP h 4096 F L = ob := ⟨_, rfl⟩
  have HO := hid_ hob
  clear hob
  cases ob
  · rw [chkP_no HO.out]
    go_wp2
    go_ret
    exact ⟨rfl, B3.out⟩
  rw [chkP_yes HO.out]
  have HK : Hid (Ok h 4096 F L) := ok_iff.1 HO.out
  clear HO
  have HFW := hid_ hfew
  clear hfew
  go_wp2_with fail
  refine (lists_any h A B n c m d F L _ (hA.bel B3.out) (hB.bel B3.out) (by have := HFW.out; omega) (by have := HFW.out; omega)).mono ?_
  rintro e w4 ⟨X, q, k, ss, rfl, hqk, rs, ry, b⟩
  have bb := b
  have f1K := hid_ (K3.out.bel bb)
  have f1B := hid_ (B3.out.trans bb)
  have f1RS := hid_ (rs)
  have f1RY := hid_ (ry)
  clear b bb K3 B3 e0 e1 e2 rs ry
  have hq63 := f1RS.out.2.1
  have HQ := hid_ hq63
  clear hq63
  have hyl : (chunksP (turnP F L)).length = q := by rw [← f1RY.out.1, f1RS.out.1]
  have HYL := hid_ hyl
  clear hyl
  go_wp2_with fail
  go_loop [5] (fun i => ∃ j : Nat, j ≤ q ∧ i = .int .i64 j) (fun i => q - (intOf i).toNat)
  case atStart => exact ⟨0, Nat.zero_le _, rfl⟩
  case round =>
    obtain ⟨j, hj, rfl⟩ := hrel
    have hq63 := HQ.out
    by_cases hjq : j < q
    · obtain ⟨ad, Y, m', c', rfl, ho, d0⟩ := f1RS.out.sv hjq
      obtain ⟨x, hx, hr⟩ := f1RY.out.at ho
      obtain ⟨s1, s2, s3⟩ := chunks_spec hx
      have hxl : x.length = m' := hr.1
      rw [hxl] at s1 s2 s3
      rw [HYL.out] at s3
      have h1 : ¬ (200 : Int) < (m' : Int) := by omega
      have h2 : ((m' : Int) == 0) = false := by simp; omega
      have hw : wrap64 ((q : Int) - 1) = (q : Int) - 1 := IntWalk.wrap64_in _ (by have := HQ.out; omega)
      by_cases hlast : j + 1 < q
      · have h3 : (j : Int) < (q : Int) - 1 := by omega
        have h4 : ¬ (m' : Int) < 200 := by have := s3 hlast; omega
        clear ho hx hr hxl s1 s2 s3
        go_wp2
        case roundEnd =>
          go_round
          case rel => exact ⟨j + 1, by omega, by go_num⟩
          case measure => simp [intOf]; omega
      · have h3 : ¬ (j : Int) < (q : Int) - 1 := by omega
        clear ho hx hr hxl s1 s2 s3
        go_wp2
        case roundEnd =>
          go_round
          case rel => exact ⟨j + 1, by omega, by go_num⟩
          case measure => simp [intOf]; omega
    · have hjq' : j = q := by omega
      clear hq63
      subst hjq'
      have q00 := f1K.out.cell 0 rfl
      have q01 := f1K.out.cell 1 rfl
      have q02 := f1K.out.cell 2 rfl
      have hfl : (chunksP (turnP F L)).flatten = turnP F L := chunks_flatten _
      have HFL := hid_ hfl
      have hle : (chunksP (turnP F L)).flatten.length ≤ 1000000 := by rw [hfl, turnP_len, hA.1, hB.1]; have := HFW.out; omega
      have HLE := hid_ hle
      clear hfl hle
      go_wp2_with fail
      refine (of_any h X j k ss (chunksP (turnP F L)) _ f1RS.out f1RY.out HLE.out).mono ?_
      rintro e w5 ⟨v, rfl, ⟨A5, n5, c5, B5, m5, d5, rfl, _, _, ra, rb⟩, b⟩
      have hok : okP h 4096 (chunksP (turnP F L)).flatten [] = true := by rw [HFL.out]; exact ok_iff.2 HK.out.turn
      rw [ofE_1 hok, ofH_1 hok]
      rw [ofF_1 hok, HFL.out] at ra
      have bb := b.alloc (.cells #[.int .i64 h, .slice A5 n5 c5, .slice B5 m5 d5] 48)
      have KQ := hid_ (Bx.new w5 48 [.int .i64 h, .slice A5 n5 c5, .slice B5 m5 d5])
      have KP := hid_ (f1K.out.bel bb)
      have BB := hid_ (f1B.out.trans bb)
      have RA := hid_ (ra.bel ((Bel.refl w5).alloc (.cells #[.int .i64 h, .slice A5 n5 c5, .slice B5 m5 d5] 48)))
      have RB := hid_ (rb.bel ((Bel.refl w5).alloc (.cells #[.int .i64 h, .slice A5 n5 c5, .slice B5 m5 d5] 48)))
      clear ra rb b bb hok q00 q01 q02
      have q0 := KP.out.cell 0 rfl
      have q1 := KP.out.cell 1 rfl
      have q2 := KP.out.cell 2 rfl
      have z0 := KQ.out.cell 0 rfl
      have z1 := KQ.out.cell 1 rfl
      have z2 := KQ.out.cell 2 rfl
      go_wp2_with fail
      obtain ⟨W5, hW5, hb5⟩ : ∃ W5, w5.alloc (.cells #[.int .i64 h, .slice A5 n5 c5, .slice B5 m5 d5] 48) = W5 ∧ Bel w5 W5 := ⟨_, rfl, (Bel.refl w5).alloc _⟩
      rw [hW5] at q0 q1 q2 z0 z1 z2 KP KQ BB RA RB ⊢
      clear hW5 hb5
      go_region_held3 (fun W => W.cell? ⟨w.heap.size, 0, none⟩ = some (.int .i64 h) ∧ W.cell? ⟨w.heap.size, 1, none⟩ = some (.slice A n c) ∧ W.cell? ⟨w.heap.size, 2, none⟩ = some (.slice B m d) ∧ W.cell? ⟨w5.heap.size, 0, none⟩ = some (.int .i64 h) ∧ W.cell? ⟨w5.heap.size, 1, none⟩ = some (.slice A5 n5 c5) ∧ W.cell? ⟨w5.heap.size, 2, none⟩ = some (.slice B5 m5 d5))
        (first | exact ⟨q0, q1, q2, z0, z1, z2⟩ | exact ⟨b9.cell_ q0, b9.cell_ q1, b9.cell_ q2, b9.cell_ z0, b9.cell_ z1, b9.cell_ z2⟩ | exact ⟨b7.cell_ q0, b7.cell_ q1, b7.cell_ q2, b7.cell_ z0, b7.cell_ z1, b7.cell_ z2⟩)
        (first | (go_at_call 38; refine' (turn_any h A B n c m d F L _ (hA.bel (BB.out.trans (by first | exact Bel.refl _ | exact (Bel.refl _).drew))) (hB.bel (BB.out.trans (by first | exact Bel.refl _ | exact (Bel.refl _).drew))) (by have := HFW.out; omega) (by have := HFW.out; omega)).mono ?_; rintro e w20 ⟨v, rfl, ⟨A7, n7, c7, B7, m7, d7, rfl, _, _, ra7, rb7⟩, b⟩; have b7 : Bel W5 w20 := Bel.trans (by first | exact Bel.refl _ | exact (Bel.refl _).drew) b; clear b) | (go_at_call 37; refine' (same_eq h A5 B5 A7 B7 n5 c5 m5 d5 n7 c7 m7 d7 _ _ _ (RA.out.bel b7) (RB.out.bel b7) ra7 rb7).mono ?_; rintro e w22 ⟨rfl, b⟩; have b9 : Bel W5 w22 := b7.trans b; clear b ra7 rb7))
      have B9 := hid_ (BB.out.trans b9)
      clear b9 b7 q0 q1 q2 z0 z1 z2 BB KP KQ RA RB
      go_wp2
      go_ret
      exact ⟨rfl, B9.out⟩
end Go.Proofs.Ytboaidjhhlidkaa
