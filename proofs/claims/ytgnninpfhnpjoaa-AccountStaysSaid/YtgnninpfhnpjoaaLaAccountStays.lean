/- AccountStays, walked. -/
import Derived.Test.YtgnninpfhnpjoaaAw11
import Derived.Test.YtgnninpfhnpjoaaAcT
import Derived.Test.YtgnninpfhnpjoaaWrB
import Derived.Test.YtgnninpfhnpjoaaFew11
import Derived.Test.YtgnninpfhnpjoaaSameAcc
import Derived.Test.YtgnninpfhnpjoaaOpAcc
import Derived.Test.YtgnninpfhnpjoaaOpLeg
set_option linter.unusedSimpArgs false
set_option linter.unusedVariables false
namespace Go.Proofs.Ytgnninpfhnpjoaa
open Go.RowKit Go.Lib
theorem i64w_wf {x : Int} (h : (Lit.int .i64 x).wf = true) : i64w x := by
  simp [Lit.wf, IntKind.min, IntKind.max, IntKind.signed, IntKind.bits] at h
  exact h
theorem none_left {l : List Acc} {e : Int} {n : Nat} (hn : l.length = n) (h : e ≠ 0 → l = []) : (e = 0) ∨ (e ≠ 0 ∧ n = 0) := by
  by_cases k : e = 0
  · exact .inl k
  · exact .inr ⟨k, by rw [← hn, h k]; rfl⟩
set_option maxRecDepth 10000 in
set_option maxHeartbeats 4000000 in
theorem walkAccountStays (w : World) (A : Option Addr) (n c : Nat) (l : List Acc) (ha : n ≤ c ∧ Row accT w A n l ∧ ∀ x ∈ l, accWf x) (B : Option Addr) (m d : Nat) (legs : List Due) (hb : m ≤ d ∧ Row legT w B m legs ∧ ∀ x ∈ legs, legWf x) (who : ByteArray) (hs1 : who.size ≤ 9223372036854775807) (asset : ByteArray) (hs2 : asset.size ≤ 9223372036854775807) (q : Int) (wq : (Lit.int .i64 q).wf = true) : Calls Try.prog 10 #[.slice A n c, .slice B m d, .string who, .string asset, .int .i64 q] w fun e w' => e = .returned (.bool true) ∧ Bel w w' := by
  obtain ⟨hnc, hA, hwa⟩ := ha
  obtain ⟨hmd, hB, hwb⟩ := hb
  have hm63 := hB.2.1
  have HNC := hid_ hnc
  have HWA := hid_ hwa
  have HWB := hid_ hwb
  have HLA := hid_ hA.1
  have HLB := hid_ hB.1
  have FA := hid_ hA
  have FL := hid_ hB
  have FB := hid_ (Bel.refl w)
  have HSZ := hid_ (And.intro hs1 hs2)
  have HQW := hid_ (i64w_wf wq)
  clear hA hB hwa hwb hnc hmd hs1 hs2 wq
  go_enter Try.func10, Try.ntmps10
  go_wp2_with fail
  refine (awake11 _).mono ?_
  rintro e v1 ⟨rfl, b⟩
  have bb := b
  have f1A := hid_ (FA.out.bel bb)
  have f1L := hid_ (FL.out.bel bb)
  have f1B := hid_ (FB.out.trans bb)
  clear b bb FA FL FB
  go_wp2_with fail
  refine (few11_any A n c l B m d legs _ f1A.out f1L.out).mono ?_
  rintro e v2 ⟨rfl, b⟩
  have bb := b
  have f2A := hid_ (f1A.out.bel bb)
  have f2L := hid_ (f1L.out.bel bb)
  have f2B := hid_ (f1B.out.trans bb)
  clear b bb f1A f1L f1B
  obtain ⟨fb, hfb⟩ : ∃ fb, few11 l legs = fb := ⟨_, rfl⟩
  rw [hfb]
  cases fb
  · clear hfb
    go_wp2
    go_ret
    exact ⟨rfl, f2B.out⟩
  have HQ := hid_ (few11_iff.1 hfb)
  clear hfb
  go_wp2_with fail
  refine (checkA_any A n c l _ f2A.out (fun a ha => by have := HQ.out.2.2.1 a ha; omega)).mono ?_
  rintro e v3 ⟨rfl, b⟩
  have bb := b
  have f3A := hid_ (f2A.out.bel bb)
  have f3L := hid_ (f2L.out.bel bb)
  have f3B := hid_ (f2B.out.trans bb)
  clear b bb f2A f2L f2B
  obtain ⟨ok, hok⟩ : ∃ ok, okL l = ok := ⟨_, rfl⟩
  cases ok
  · rw [show chkAE l = 110 by unfold chkAE; rw [hok]; rfl]
    clear hok
    go_wp2
    go_ret
    exact ⟨rfl, f3B.out⟩
  rw [show chkAE l = 0 by unfold chkAE; rw [hok]; rfl]
  have HOK := hid_ (okL_iff.1 hok)
  clear hok
  have HWL : Hid (∀ a ∈ l, i64w a.balance) := hid_ (fun a ha => i64w_wf (HWA.out a ha).2.2.1)
  have HN2 : Hid (n ≤ 200) := hid_ (by have := HQ.out.1; rw [HLA.out] at this; exact this)
  have HSL : Hid (([] : List Acc).length + n ≤ 140737488355328 / 48) := hid_ (by have := HN2.out; show 0 + n ≤ _; omega)
  go_upto_region 4 with (fail)
  obtain ⟨W0, hW0⟩ : ∃ W0, v3 = W0 := ⟨_, rfl⟩
  rw [hW0] at f3A f3L f3B ⊢
  clear hW0
  go_wp2_with (at_builtin; refine wpApp (w0 := W0) accS rfl _ _ rfl _ [] l A n c rfl rfl (Own.litE (T := accT) W0 W0.heap.size _ _ rfl rfl (Nat.le_refl _)) (f3A.out.bel ((Bel.refl W0).alloc _)) ((Bel.refl W0).alloc _) (by have := HN2.out; simp; omega) ?_; intro v4 w4 hO4 hb4 _ _)
  have hO4 : Own accT w4 W0.heap.size v4 l := hO4
  obtain ⟨A4, c4, rfl, hc4, r4⟩ := hO4.reads
  rw [HLA.out] at hc4 r4 ⊢
  have C4 := hid_ hc4
  have G4A := hid_ (f3A.out.bel hb4)
  have G4L := hid_ (f3L.out.bel hb4)
  have G4B := hid_ (f3B.out.trans hb4)
  have G4M := hid_ r4
  clear hO4 hb4 hc4 r4 f3A f3L f3B
  have M40 := G4M
  have A40 := G4A
  have B40 := G4B
  refine (post_any A4 n c4 l B m d legs _ G4M.out HOK.out.srt (Nat.le_trans HN2.out (by decide)) G4L.out (fun x hx => ⟨by have := HQ.out.2.2.2 x hx; omega, by have := HQ.out.2.2.2 x hx; omega, i64w_wf (HWB.out x hx).2.2⟩) HWL.out).mono ?_
  rintro e v5 ⟨v, rfl, o, b⟩
  have bb := b
  obtain ⟨A5, c5, rfl, hc5, r5, t5⟩ := o.wrt
  have HB5 := hid_ bb
  obtain ⟨n5, hn5⟩ : ∃ k, (postO l legs).length = k := ⟨_, rfl⟩
  have HN5 := hid_ (none_left hn5 (fun h => postO_err HOK.out.srt h))
  rw [hn5] at hc5 r5 t5 ⊢
  clear o hc5 hn5
  have f5A := hid_ (G4A.out.bel bb)
  have f5L := hid_ (G4L.out.bel bb)
  have f5B := hid_ (G4B.out.trans bb)
  have f5M := hid_ (G4M.out.bel bb)
  have f5X := hid_ r5
  have f5TX := hid_ t5
  clear b bb G4A G4L G4B G4M r5 t5
  go_wp2_with fail
  refine (hold_any A4 n c4 l who asset q _ f5M.out C4.out HOK.out.srt (Nat.le_trans HN2.out (by decide)) HSZ.out.1 HSZ.out.2).mono ?_
  rintro e v6 ⟨v, rfl, o, b⟩
  have bb := b
  have o : Own accT v6 _ v (mvO l ⟨who, asset⟩ q (hoX l ⟨who, asset⟩ q) q) := o
  have o := o.mono_ HB5.out.size_
  rw [show mvE ⟨who, asset⟩ q (if wrap64 ((findA l ⟨who, asset⟩).balance - (findA l ⟨who, asset⟩).held) < q then 111 else 0) = mvE ⟨who, asset⟩ q (hoX l ⟨who, asset⟩ q) from rfl]
  obtain ⟨A6, c6, rfl, hc6, r6, t6⟩ := o.wrt
  have HB6 := hid_ (HB5.out.trans bb)
  obtain ⟨n6, hn6⟩ : ∃ k, (mvO l ⟨who, asset⟩ q (hoX l ⟨who, asset⟩ q) q).length = k := ⟨_, rfl⟩
  have HN6 := hid_ (none_left hn6 (fun h => mv_err h))
  rw [hn6] at hc6 r6 t6 ⊢
  clear o hc6 hn6 HB5
  have f6A := hid_ (f5A.out.bel bb)
  have f6L := hid_ (f5L.out.bel bb)
  have f6B := hid_ (f5B.out.trans bb)
  have f6M := hid_ (f5M.out.bel bb)
  have f6X := hid_ (f5X.out.bel bb)
  have f6TX := hid_ (f5TX.out.bel bb)
  have f6Y := hid_ r6
  have f6TY := hid_ t6
  clear b bb f5A f5L f5B f5M f5X f5TX r6 t6
  go_wp2_with fail
  refine (free_any A4 n c4 l who asset q _ f6M.out C4.out HOK.out.srt (Nat.le_trans HN2.out (by decide)) HSZ.out.1 HSZ.out.2).mono ?_
  rintro e v7 ⟨v, rfl, o, b⟩
  have bb := b
  have o : Own accT v7 _ v (mvO l ⟨who, asset⟩ q (frX l ⟨who, asset⟩ q) (wrap64 (-q))) := o
  have o := o.mono_ HB6.out.size_
  rw [show mvE ⟨who, asset⟩ q (if (findA l ⟨who, asset⟩).held < q then 112 else 0) = mvE ⟨who, asset⟩ q (frX l ⟨who, asset⟩ q) from rfl]
  obtain ⟨A7, c7, rfl, hc7, r7, t7⟩ := o.wrt
  have HB7 := hid_ (HB6.out.trans bb)
  obtain ⟨n7, hn7⟩ : ∃ k, (mvO l ⟨who, asset⟩ q (frX l ⟨who, asset⟩ q) (wrap64 (-q))).length = k := ⟨_, rfl⟩
  have HN7 := hid_ (none_left hn7 (fun h => mv_err h))
  rw [hn7] at hc7 r7 t7 ⊢
  clear o hc7 hn7 HB6
  have f7A := hid_ (f6A.out.bel bb)
  have f7L := hid_ (f6L.out.bel bb)
  have f7B := hid_ (f6B.out.trans bb)
  have f7M := hid_ (f6M.out.bel bb)
  have f7X := hid_ (f6X.out.bel bb)
  have f7TX := hid_ (f6TX.out.bel bb)
  have f7Y := hid_ (f6Y.out.bel bb)
  have f7TY := hid_ (f6TY.out.bel bb)
  have f7Z := hid_ r7
  have f7TZ := hid_ t7
  clear b bb f6A f6L f6B f6M f6X f6TX f6Y f6TY r7 t7
  have HOKX := hid_ (postO_ok (legs := legs) HOK.out)
  have HOKY := hid_ (hold_ok (p := ⟨who, asset⟩) HOK.out HWL.out HQW.out.2)
  have HOKZ := hid_ (free_ok (p := ⟨who, asset⟩) HOK.out HWL.out HQW.out.2)
  go_wp2_with fail
  refine (checkA_any A5 n5 c5 (postO l legs) _ f7X.out (ok_size HOKX.out)).mono ?_
  rintro e v8 ⟨rfl, b⟩
  have bb := b
  rw [chk_ok HOKX.out]
  have HB7 := hid_ (HB7.out.trans bb)
  have f8A := hid_ (f7A.out.bel bb)
  have f8L := hid_ (f7L.out.bel bb)
  have f8B := hid_ (f7B.out.trans bb)
  have f8M := hid_ (f7M.out.bel bb)
  have f8X := hid_ (f7X.out.bel bb)
  have f8TX := hid_ (f7TX.out.bel bb)
  have f8Y := hid_ (f7Y.out.bel bb)
  have f8TY := hid_ (f7TY.out.bel bb)
  have f8Z := hid_ (f7Z.out.bel bb)
  have f8TZ := hid_ (f7TZ.out.bel bb)
  clear b bb f7A f7L f7B f7M f7X f7TX f7Y f7TY f7Z f7TZ
  go_wp2_with fail
  refine (checkA_any A6 n6 c6 (mvO l ⟨who, asset⟩ q (hoX l ⟨who, asset⟩ q) q) _ f8Y.out (ok_size HOKY.out)).mono ?_
  rintro e v9 ⟨rfl, b⟩
  have bb := b
  rw [chk_ok HOKY.out]
  have HB7 := hid_ (HB7.out.trans bb)
  have f9A := hid_ (f8A.out.bel bb)
  have f9L := hid_ (f8L.out.bel bb)
  have f9B := hid_ (f8B.out.trans bb)
  have f9M := hid_ (f8M.out.bel bb)
  have f9X := hid_ (f8X.out.bel bb)
  have f9TX := hid_ (f8TX.out.bel bb)
  have f9Y := hid_ (f8Y.out.bel bb)
  have f9TY := hid_ (f8TY.out.bel bb)
  have f9Z := hid_ (f8Z.out.bel bb)
  have f9TZ := hid_ (f8TZ.out.bel bb)
  clear b bb f8A f8L f8B f8M f8X f8TX f8Y f8TY f8Z f8TZ
  go_wp2_with fail
  refine (checkA_any A7 n7 c7 (mvO l ⟨who, asset⟩ q (frX l ⟨who, asset⟩ q) (wrap64 (-q))) _ f9Z.out (ok_size HOKZ.out)).mono ?_
  rintro e v10 ⟨rfl, b⟩
  have bb := b
  rw [chk_ok HOKZ.out]
  have HB7 := hid_ (HB7.out.trans bb)
  have f10A := hid_ (f9A.out.bel bb)
  have f10L := hid_ (f9L.out.bel bb)
  have f10B := hid_ (f9B.out.trans bb)
  have f10M := hid_ (f9M.out.bel bb)
  have f10X := hid_ (f9X.out.bel bb)
  have f10TX := hid_ (f9TX.out.bel bb)
  have f10Y := hid_ (f9Y.out.bel bb)
  have f10TY := hid_ (f9TY.out.bel bb)
  have f10Z := hid_ (f9Z.out.bel bb)
  have f10TZ := hid_ (f9TZ.out.bel bb)
  clear b bb f9A f9L f9B f9M f9X f9TX f9Y f9TY f9Z f9TZ
  have N63 := hid_ (And.intro f10X.out.2.1 (And.intro f10Y.out.2.1 f10Z.out.2.1))
  clear f10X f10Y f10Z
  obtain ⟨e5, he5⟩ : ∃ e, postE l legs = e := ⟨_, rfl⟩
  obtain ⟨e6, he6⟩ : ∃ e, mvE ⟨who, asset⟩ q (hoX l ⟨who, asset⟩ q) = e := ⟨_, rfl⟩
  obtain ⟨e7, he7⟩ : ∃ e, mvE ⟨who, asset⟩ q (frX l ⟨who, asset⟩ q) = e := ⟨_, rfl⟩
  rw [he5] at HN5 ⊢
  rw [he6] at HN6 ⊢
  rw [he7] at HN7 ⊢
  clear he5 he6 he7 HOKX HOKY HOKZ
  have TX : Hid (Wrt v10 A5 (n5 * 4) w4.heap.size) := hid_ f10TX.out
  have TY : Hid (Wrt v10 A6 (n6 * 4) w4.heap.size) := hid_ f10TY.out
  have TZ : Hid (Wrt v10 A7 (n7 * 4) w4.heap.size) := hid_ f10TZ.out
  clear f10TX f10TY f10TZ
  have h63 : Hid (n5 ≤ 9223372036854775807 ∧ n6 ≤ 9223372036854775807 ∧ n7 ≤ 9223372036854775807) := hid_ N63.out
  obtain ⟨m5, m6, m7⟩ := h63.out
  clear h63 N63
  have D5 : (e5 = 0) ∨ ((e5 != 0) = true ∧ decide (0 < n5) = false) := HN5.out.elim .inl (fun h => .inr ⟨by simp [h.1], by simp [h.2]⟩)
  have D6 : (e6 = 0) ∨ ((e6 != 0) = true ∧ decide (0 < n6) = false) := HN6.out.elim .inl (fun h => .inr ⟨by simp [h.1], by simp [h.2]⟩)
  have D7 : (e7 = 0) ∨ ((e7 != 0) = true ∧ decide (0 < n7) = false) := HN7.out.elim .inl (fun h => .inr ⟨by simp [h.1], by simp [h.2]⟩)
  clear HN5 HN6 HN7
  rcases D5 with rfl | ⟨a5, b5⟩ <;> rcases D6 with rfl | ⟨a6, b6⟩ <;> rcases D7 with rfl | ⟨a7, b7⟩
  all_goals (
    go_upto_region 12 with (fail)
    try clear a5 b5
    try clear a6 b6
    try clear a7 b7
    go_wp2_with fail
    go_loopw [19] (fun i wr => ∃ j : Nat, j ≤ n5 ∧ i = .int .i64 j ∧ Hid (Bel w4 wr) ∧ Hid (Wrt wr A5 (n5 * 4) w4.heap.size) ∧ Hid (Wrt wr A6 (n6 * 4) w4.heap.size) ∧ Hid (Wrt wr A7 (n7 * 4) w4.heap.size)) (fun i _ => n5 - (intOf i).toNat)
    case atStart => exact ⟨0, Nat.zero_le _, rfl, HB7, TX, TY, TZ⟩
    case round =>
      obtain ⟨j, hj, rfl, hB5, t5, t6, t7⟩ := hrel
      by_cases hjn : j < n5
      · obtain ⟨g, e, hg, hrw⟩ := t5.out (by omega)
        subst e
        obtain ⟨v, hv⟩ := hrw.cell (j := j * 4 + 2) (by omega)
        have fz := hrw.frozen (j * 4 + 2)
        have i0 : (0 : Int) ≤ (j : Int) := by omega
        have i1 : (j : Int) < (n5 : Int) := by omega
        have BN := hid_ (hB5.out.set_ (p := ⟨g, j * 4 + 2, none⟩) hg (.int .i64 1))
        have T5 := hid_ (t5.out.set_ g (j * 4 + 2) (.int .i64 1))
        have T6 := hid_ (t6.out.set_ g (j * 4 + 2) (.int .i64 1))
        have T7 := hid_ (t7.out.set_ g (j * 4 + 2) (.int .i64 1))
        clear hB5 t5 t6 t7 hg hrw
        go_wp2
        case roundEnd =>
          go_roundw
          case rel => exact ⟨j + 1, by omega, by go_num, BN, T5, T6, T7⟩
          case measure => simp [intOf]; omega
      · obtain rfl : n5 = j := by omega
        clear hjn hj
        go_wp2_with fail
        go_loopw [20] (fun i wr => ∃ j : Nat, j ≤ n6 ∧ i = .int .i64 j ∧ Hid (Bel w4 wr) ∧ Hid (Wrt wr A5 (n5 * 4) w4.heap.size) ∧ Hid (Wrt wr A6 (n6 * 4) w4.heap.size) ∧ Hid (Wrt wr A7 (n7 * 4) w4.heap.size)) (fun i _ => n6 - (intOf i).toNat)
        case atStart => exact ⟨0, Nat.zero_le _, rfl, hB5, t5, t6, t7⟩
        case round =>
          obtain ⟨j, hj, rfl, hB6, t5, t6, t7⟩ := hrel
          by_cases hjn : j < n6
          · obtain ⟨g, e, hg, hrw⟩ := t6.out (by omega)
            subst e
            obtain ⟨v, hv⟩ := hrw.cell (j := j * 4 + 2) (by omega)
            have fz := hrw.frozen (j * 4 + 2)
            have i0 : (0 : Int) ≤ (j : Int) := by omega
            have i1 : (j : Int) < (n6 : Int) := by omega
            have BN := hid_ (hB6.out.set_ (p := ⟨g, j * 4 + 2, none⟩) hg (.int .i64 1))
            have T5 := hid_ (t5.out.set_ g (j * 4 + 2) (.int .i64 1))
            have T6 := hid_ (t6.out.set_ g (j * 4 + 2) (.int .i64 1))
            have T7 := hid_ (t7.out.set_ g (j * 4 + 2) (.int .i64 1))
            clear hB6 t5 t6 t7 hg hrw
            go_wp2
            case roundEnd =>
              go_roundw
              case rel => exact ⟨j + 1, by omega, by go_num, BN, T5, T6, T7⟩
              case measure => simp [intOf]; omega
          · obtain rfl : n6 = j := by omega
            clear hjn hj
            go_wp2_with fail
            go_loopw [21] (fun i wr => ∃ j : Nat, j ≤ n7 ∧ i = .int .i64 j ∧ Hid (Bel w4 wr) ∧ Hid (Wrt wr A5 (n5 * 4) w4.heap.size) ∧ Hid (Wrt wr A6 (n6 * 4) w4.heap.size) ∧ Hid (Wrt wr A7 (n7 * 4) w4.heap.size)) (fun i _ => n7 - (intOf i).toNat)
            case atStart => exact ⟨0, Nat.zero_le _, rfl, hB6, t5, t6, t7⟩
            case round =>
              obtain ⟨j, hj, rfl, hB7, t5, t6, t7⟩ := hrel
              by_cases hjn : j < n7
              · obtain ⟨g, e, hg, hrw⟩ := t7.out (by omega)
                subst e
                obtain ⟨v, hv⟩ := hrw.cell (j := j * 4 + 2) (by omega)
                have fz := hrw.frozen (j * 4 + 2)
                have i0 : (0 : Int) ≤ (j : Int) := by omega
                have i1 : (j : Int) < (n7 : Int) := by omega
                have BN := hid_ (hB7.out.set_ (p := ⟨g, j * 4 + 2, none⟩) hg (.int .i64 1))
                have T5 := hid_ (t5.out.set_ g (j * 4 + 2) (.int .i64 1))
                have T6 := hid_ (t6.out.set_ g (j * 4 + 2) (.int .i64 1))
                have T7 := hid_ (t7.out.set_ g (j * 4 + 2) (.int .i64 1))
                clear hB7 t5 t6 t7 hg hrw
                go_wp2
                case roundEnd =>
                  go_roundw
                  case rel => exact ⟨j + 1, by omega, by go_num, BN, T5, T6, T7⟩
                  case measure => simp [intOf]; omega
              · obtain rfl : n7 = j := by omega
                clear hjn hj
                go_wp2_with fail
                refine (sameAcc_any A4 n c4 l A n c l wr (M40.out.bel hB7.out) (A40.out.bel hB7.out)).mono ?_
                rintro e w9 ⟨rfl, b9⟩
                rw [eqB_1 (rfl : l = l)]
                have B9 := hid_ (B40.out.trans (hB7.out.trans b9))
                clear b9 hB7 t5 t6 t7 M40 A40 B40
                go_wp2
                go_ret
                exact ⟨rfl, B9.out⟩)
end Go.Proofs.Ytgnninpfhnpjoaa
