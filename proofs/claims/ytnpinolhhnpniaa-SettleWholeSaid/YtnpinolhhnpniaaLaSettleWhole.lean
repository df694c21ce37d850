/- SettleWhole, walked. -/
import Derived.Test.YtnpinolhhnpniaaStL
import Derived.Test.YtnpinolhhnpniaaRg
import Derived.Deep.DeepCutAuto
import Derived.Deep.QuietTactic
import Derived.BigQuiet
set_option linter.unusedSimpArgs false
set_option linter.unusedVariables false
namespace Go.Proofs.Ytnpinolhhnpniaa
open Go.RowKit Go.Lib
theorem find_form (l : List Acc) (p0 p1 : ByteArray) : ∃ x2 x3, findA l ⟨p0, p1⟩ = ⟨p0, p1, x2, x3⟩ := by
  have h := findA_plc l ⟨p0, p1⟩
  obtain ⟨y, hy⟩ : ∃ y, findA l ⟨p0, p1⟩ = y := ⟨_, rfl⟩
  rw [hy] at h ⊢
  obtain ⟨y0, y1, y2, y3⟩ := y
  simp only [Acc.plc, Plc.mk.injEq] at h
  exact ⟨y2, y3, by rw [h.1, h.2]⟩
theorem lastA_i64 : ∀ (l : List Due) (p : Plc), (∀ d ∈ l, i64w d.amount) → i64w (lastA l p) := by
  intro l p
  suffices ∀ (l : List Due) (s : Int), i64w s → (∀ d ∈ l, i64w d.amount) → i64w (l.foldl (fun s d => if d.plc = p then d.amount else s) s) from fun h => this l 0 (by unfold i64w; omega) h
  intro l
  induction l with
  | nil => intro s h _; exact h
  | cons x l ih =>
    intro s h hl
    rw [List.foldl_cons]
    refine ih _ ?_ (fun d hd => hl d (by simp [hd]))
    split
    · exact hl x (by simp)
    · exact h
theorem stO_len (l : List Acc) (ds : List Due) : (stO l ds).length ≤ l.length + ds.length + ds.length := by
  unfold stO
  split
  · unfold poO
    have h1 := sfO_len l ds
    have h2 : (slO ds).length ≤ ds.length := by
      unfold slO
      split
      · exact net_len ds
      · simp
    split
    · omega
    · have h3 := postO_len (sfO l ds) (slO ds)
      omega
  · simp
set_option maxRecDepth 10000 in
set_option maxHeartbeats 8000000 in
theorem walkSettleWhole (w : World) (A : Option Addr) (n c : Nat) (l : List Acc) (ha : n ≤ c ∧ Row accT w A n l ∧ ∀ x ∈ l, accWf x) (B : Option Addr) (m d : Nat) (ds : List Due) (hb : m ≤ d ∧ Row dueT w B m ds ∧ ∀ x ∈ ds, dueWf x) (s : ByteArray) (hs : s.size ≤ 9223372036854775807) :
    Calls Try.prog 5 #[.slice A n c, .slice B m d, .string s] w fun e w' => e = .returned (.bool true) ∧ Bel w w' := by
  obtain ⟨_, hA, hwa⟩ := ha
  obtain ⟨_, hB, hwb⟩ := hb
  have hm63 := hB.2.1
  have HWA := hid_ hwa
  have HWB := hid_ hwb
  have HLA := hid_ hA.1
  have HLB := hid_ hB.1
  have FA := hid_ hA
  have FD := hid_ hB
  clear hA hB hwa hwb
  go_enter Try.func5, Try.ntmps5
  go_wp2_with fail
  refine (awake18 _).mono ?_
  rintro e v1 ⟨rfl, b⟩
  have FB := hid_ b
  have FA := hid_ (FA.out.bel b)
  have FD := hid_ (FD.out.bel b)
  clear b
  go_wp2_with fail
  refine (few18_any A n c l B m d ds _ FA.out FD.out (wf_sz HWA.out)).mono ?_
  rintro e v2 ⟨rfl, b⟩
  have FB := hid_ (FB.out.trans b)
  have FA := hid_ (FA.out.bel b)
  have FD := hid_ (FD.out.bel b)
  clear b
  obtain ⟨fb, hfb⟩ : ∃ fb, few18 l ds = fb := ⟨_, rfl⟩
  rw [hfb]
  cases fb
  · clear hfb
    go_wp2
    go_ret
    exact ⟨rfl, FB.out⟩
  have HQ := hid_ (few18_in hfb HWA.out HWB.out)
  have HF := hid_ (few18_iff.1 hfb)
  have HN : Hid (n ≤ 100) := hid_ (by rw [← HLA.out]; exact HQ.out.1)
  have HM : Hid (m ≤ 100) := hid_ (by rw [← HLB.out]; exact HF.out.2.1)
  clear hfb HF
  go_wp2_with fail
  refine (settle_any A n c l B m d ds _ FA.out HQ.out.2.1 HQ.out.2.2.1 (Nat.le_trans HN.out (by omega)) FD.out HQ.out.2.2.2).mono ?_
  rintro e v3 ⟨x, u, rfl, r, ol, b⟩
  have FB := hid_ (FB.out.trans b)
  have FA := hid_ (FA.out.bel b)
  have FD := hid_ (FD.out.bel b)
  have RX := hid_ r
  have OL := hid_ ol
  clear b r ol
  obtain ⟨e1, he1⟩ : ∃ e1, stE l ds = e1 := ⟨_, rfl⟩
  rw [he1]
  by_cases h1 : e1 = 0
  case neg =>
    have q : (e1 != 0) = true := by simp [h1]
    have h2 : stO l ds = [] ∧ stL l ds = [] := by
      unfold stO stL
      rw [he1, if_neg h1, if_neg h1]
      exact ⟨rfl, rfl⟩
    rw [h2.1] at RX
    rw [h2.2] at OL
    obtain ⟨A1, n1, c1, rfl, hc1, r1⟩ := RX.out
    obtain rfl : n1 = 0 := r1.1.symm
    obtain ⟨A2, c2, rfl, hc2, r2⟩ := OL.out.reads
    clear he1 h1 h2 r1 r2 hc1 hc2 RX OL
    go_wp2
    go_ret
    exact ⟨rfl, FB.out⟩
  subst h1
  have HMV := hid_ (settle_moved HQ.out.2.1 HQ.out.2.2.1 he1)
  have HWH := hid_ (settle_whole HQ.out.2.1 HQ.out.2.2.1 he1)
  have HTT := hid_ (settle_total HQ.out.2.1 HQ.out.2.2.1 he1)
  have HE1 := hid_ he1
  clear he1
  obtain ⟨A5, n5, c5, rfl, hc5, r5⟩ := RX.out
  have FR := hid_ r5
  have HN5 : Hid (n5 ≤ 9000) := hid_ (by
    have h := stO_len l ds
    rw [r5.1, HLA.out, HLB.out] at h
    have h2 := HN.out
    have h3 := HM.out
    omega)
  obtain ⟨po, hpo⟩ : ∃ po, stO l ds = po := ⟨_, rfl⟩
  rw [hpo] at FR HMV HWH HTT
  obtain ⟨A6, c6, rfl, hc6, r6⟩ := OL.out.reads
  have HLG : Hid (∀ x ∈ stL l ds, i64w x.amount) := hid_ (by
    intro x hx
    have h : stL l ds = slO ds := by unfold stL; rw [if_pos HE1.out]
    rw [h, (slO_sum HMV.out.2.1 ⟨worldS, worldS⟩).2.2.2] at hx
    exact net_i64 hx)
  obtain ⟨lg, hlg⟩ : ∃ lg, stL l ds = lg := ⟨_, rfl⟩
  rw [hlg] at r6 HWH HLG ⊢
  obtain ⟨n6, hn6⟩ : ∃ k, lg.length = k := ⟨_, rfl⟩
  rw [hn6] at r6 ⊢
  have hn663 := r6.2.1
  have FL := hid_ r6
  clear RX OL r5 r6 hc5 hc6 hlg hn6 hpo HE1
  go_wp2_with fail
  refine (gross_any B m d ds _ FD.out (Nat.le_trans HM.out (by omega)) HQ.out.2.2.2.sz).mono ?_
  rintro e v4 ⟨v, rfl, og, b⟩
  rw [HMV.out.2.2]
  have FB := hid_ (FB.out.trans b)
  have FA := hid_ (FA.out.bel b)
  have FD := hid_ (FD.out.bel b)
  have FR := hid_ (FR.out.bel b)
  have FL := hid_ (FL.out.bel b)
  have HGG : Hid (∀ x ∈ grossO ds, i64w x.amount) := hid_ (by
    intro x hx
    rw [(gross_ok HMV.out.2.2).2] at hx
    exact net_i64 hx)
  obtain ⟨gr, hgr⟩ : ∃ gr, grossO ds = gr := ⟨_, rfl⟩
  rw [hgr] at og HWH HGG
  obtain ⟨A7, c7, rfl, hc7, r7⟩ := og.reads
  obtain ⟨n7, hn7⟩ : ∃ k, gr.length = k := ⟨_, rfl⟩
  rw [hn7] at r7 ⊢
  have hn763 := r7.2.1
  have FG := hid_ r7
  clear b og hc7 r7 hn7 hgr
  go_wp2_with fail
  obtain ⟨w6, hw6⟩ : ∃ w6, v4 = w6 := ⟨_, rfl⟩
  rw [hw6] at FB FA FD FR FL FG ⊢
  clear hw6
  go_loopw [13, 14, 15, 16, 17, 18, 19] (fun i _ _ _ _ _ _ wr => ∃ j : Nat, j ≤ m ∧ i = .int .i64 j ∧ Hid (Bel w6 wr)) (fun i _ _ _ _ _ _ _ => m - (intOf i).toNat)
  case atStart => exact ⟨0, Nat.zero_le _, rfl, hid_ (Bel.refl _)⟩
  case round =>
    obtain ⟨j, hj, rfl, hBr⟩ := hrel
    by_cases hjm : j < m
    · obtain ⟨ad, g0, g1, g2, rfl, ho, z0, z1, z2⟩ := (FD.out.bel hBr.out).due hjm
      clear ho
      have i0 : (0 : Int) ≤ (j : Int) := by omega
      have i1 : (j : Int) < (m : Int) := by omega
      obtain ⟨W0, hW0⟩ : ∃ W0, wr = W0 := ⟨_, rfl⟩
      rw [hW0] at hBr z0 z1 z2 ⊢
      clear hW0
      have FA0 := hid_ (FA.out.bel hBr.out)
      have FR0 := hid_ (FR.out.bel hBr.out)
      have FL0 := hid_ (FL.out.bel hBr.out)
      have FG0 := hid_ (FG.out.bel hBr.out)
      have HB0 := hid_ hBr.out
      clear hBr
      obtain ⟨x2, x3, hfx⟩ := find_form l g0 g1
      obtain ⟨y2, y3, hfy⟩ := find_form po g0 g1
      have HFX := hid_ hfx
      have HFY := hid_ hfy
      have HE0 := hid_ (HWH.out ⟨g0, g1⟩)
      clear hfx hfy
      go_upto_region 11 with (fail)
      go_cut [14] (fun p wx => ∃ g, p = .pointer (some ⟨g, 0, none⟩) ∧ Hid (Bx wx g 38 [.string g0, .string g1, .int .i64 x2, .int .i64 x3]) ∧ Hid (Bel W0 wx))
      case first =>
        have hKP : ∀ W, Bel W0 W → (fun W => Bel W0 W ∧ W.cell? (ad.add (j * 3)) = some (.string g0) ∧ W.cell? ⟨(ad.add (j * 3)).block, (ad.add (j * 3)).off + 1, none⟩ = some (.string g1)) W := fun W b => ⟨b, b.cell_ z0, b.cell_ z1⟩
        have HKP := hid_ hKP
        clear hKP
        refine wp_region_held_drew (S := (fun W => Bel W0 W ∧ W.cell? (ad.add (j * 3)) = some (.string g0) ∧ W.cell? ⟨(ad.add (j * 3)).block, (ad.add (j * 3)).off + 1, none⟩ = some (.string g1))) (by kernel_rfl) (by (refine HKP.out _ ?_; (repeat first | with_reducible exact Bel.refl _ | with_reducible exact bz | with_reducible apply Bel.drew | with_reducible apply Bel.alloc))) (fun hHeld => ?_)
        refine tkW (i := 0) (d := (some 61)) (oi := ?oi1) (v := ?v1) ?hi1 ?hd1 (by kernel_rfl) (by kernel_rfl) (by kernel_rfl) (fun _ _ _ h => h) ?hw1 (by assumption) ?hv1 ?h1
        case hi1 =>
          simp only [List.getElem?_toArray, List.getElem?_cons_succ, List.getElem?_cons_zero]
          exact rfl
        case hd1 => rfl
        case hw1 => rfl
        case hv1 =>
          intro w hSw
          (try dsimp only at hSw)
          go_simp
          try with_reducible rfl
        try simp only [Act.put, List.setIfInBounds_toArray, List.set_cons_zero, List.set_cons_succ]
        refine tkW (i := 1) (d := (some 62)) (oi := ?oi2) (v := ?v2) ?hi2 ?hd2 (by kernel_rfl) (by kernel_rfl) (by kernel_rfl) (fun _ _ _ h => h) ?hw2 (by assumption) ?hv2 ?h2
        case hi2 =>
          simp only [List.getElem?_toArray, List.getElem?_cons_succ, List.getElem?_cons_zero]
          exact rfl
        case hd2 => rfl
        case hw2 => rfl
        case hv2 =>
          intro w hSw
          (try dsimp only at hSw)
          go_simp
          try with_reducible rfl
        try simp only [Act.put, List.setIfInBounds_toArray, List.set_cons_zero, List.set_cons_succ]
        refine tkW (i := 2) (d := (some 63)) (oi := ?oi3) (v := ?v3) ?hi3 ?hd3 (by kernel_rfl) (by kernel_rfl) (by kernel_rfl) (fun _ _ _ h => h) ?hw3 (by assumption) ?hv3 ?h3
        case hi3 =>
          simp only [List.getElem?_toArray, List.getElem?_cons_succ, List.getElem?_cons_zero]
          exact rfl
        case hd3 => rfl
        case hw3 => rfl
        case hv3 =>
          intro w hSw
          (try dsimp only at hSw)
          go_simp
          try with_reducible rfl
        try simp only [Act.put, List.setIfInBounds_toArray, List.set_cons_zero, List.set_cons_succ]
        refine tkW (i := 3) (d := (some 64)) (oi := ?oi4) (v := ?v4) ?hi4 ?hd4 (by kernel_rfl) (by kernel_rfl) (by kernel_rfl) (fun _ _ _ h => h) ?hw4 (by assumption) ?hv4 ?h4
        case hi4 =>
          simp only [List.getElem?_toArray, List.getElem?_cons_succ, List.getElem?_cons_zero]
          exact rfl
        case hd4 => rfl
        case hw4 => rfl
        case hv4 =>
          intro w hSw
          (try dsimp only at hSw)
          go_simp
          try with_reducible rfl
        try simp only [Act.put, List.setIfInBounds_toArray, List.set_cons_zero, List.set_cons_succ]
        refine tkW (i := 4) (d := (some 65)) (oi := ?oi5) (v := ?v5) ?hi5 ?hd5 (by kernel_rfl) (by kernel_rfl) (by kernel_rfl) (fun _ _ _ h => h) ?hw5 (by assumption) ?hv5 ?h5
        case hi5 =>
          simp only [List.getElem?_toArray, List.getElem?_cons_succ, List.getElem?_cons_zero]
          exact rfl
        case hd5 => rfl
        case hw5 => rfl
        case hv5 =>
          intro w hSw
          (try dsimp only at hSw)
          go_simp
          try with_reducible rfl
        try simp only [Act.put, List.setIfInBounds_toArray, List.set_cons_zero, List.set_cons_succ]
        refine tkW (i := 5) (d := (some 66)) (oi := ?oi6) (v := ?v6) ?hi6 ?hd6 (by kernel_rfl) (by kernel_rfl) (by kernel_rfl) (fun _ _ _ h => h) ?hw6 (by assumption) ?hv6 ?h6
        case hi6 =>
          simp only [List.getElem?_toArray, List.getElem?_cons_succ, List.getElem?_cons_zero]
          exact rfl
        case hd6 => rfl
        case hw6 => rfl
        case hv6 =>
          intro w hSw
          (try dsimp only at hSw)
          go_simp
          try with_reducible rfl
        try simp only [Act.put, List.setIfInBounds_toArray, List.set_cons_zero, List.set_cons_succ]
        refine tkW (i := 6) (d := (some 67)) (oi := ?oi7) (v := ?v7) ?hi7 ?hd7 (by kernel_rfl) (by kernel_rfl) (by kernel_rfl) (fun _ _ _ h => h) ?hw7 (by assumption) ?hv7 ?h7
        case hi7 =>
          simp only [List.getElem?_toArray, List.getElem?_cons_succ, List.getElem?_cons_zero]
          exact rfl
        case hd7 => rfl
        case hw7 => rfl
        case hv7 =>
          intro w hSw
          (try dsimp only at hSw)
          go_simp
          try with_reducible rfl
        try simp only [Act.put, List.setIfInBounds_toArray, List.set_cons_zero, List.set_cons_succ]
        refine tkW (i := 7) (d := (some 68)) (oi := ?oi8) (v := ?v8) ?hi8 ?hd8 (by kernel_rfl) (by kernel_rfl) (by kernel_rfl) (fun _ _ _ h => h) ?hw8 (by assumption) ?hv8 ?h8
        case hi8 =>
          simp only [List.getElem?_toArray, List.getElem?_cons_succ, List.getElem?_cons_zero]
          exact rfl
        case hd8 => rfl
        case hw8 => rfl
        case hv8 =>
          intro w hSw
          (try dsimp only at hSw)
          go_simp
          try with_reducible rfl
        try simp only [Act.put, List.setIfInBounds_toArray, List.set_cons_zero, List.set_cons_succ]
        refine tkW (i := 8) (d := (some 69)) (oi := ?oi9) (v := ?v9) ?hi9 ?hd9 (by kernel_rfl) (by kernel_rfl) (by kernel_rfl) (fun _ _ _ h => h) ?hw9 (by assumption) ?hv9 ?h9
        case hi9 =>
          simp only [List.getElem?_toArray, List.getElem?_cons_succ, List.getElem?_cons_zero]
          exact rfl
        case hd9 => rfl
        case hw9 => rfl
        case hv9 =>
          intro w hSw
          (try dsimp only at hSw)
          go_simp
          try with_reducible rfl
        try simp only [Act.put, List.setIfInBounds_toArray, List.set_cons_zero, List.set_cons_succ]
        refine tkW (i := 9) (d := (some 70)) (oi := ?oi10) (v := ?v10) ?hi10 ?hd10 (by kernel_rfl) (by kernel_rfl) (by kernel_rfl) (fun _ _ _ h => h) ?hw10 (by assumption) ?hv10 ?h10
        case hi10 =>
          simp only [List.getElem?_toArray, List.getElem?_cons_succ, List.getElem?_cons_zero]
          exact rfl
        case hd10 => rfl
        case hw10 => rfl
        case hv10 =>
          intro w hSw
          (try dsimp only at hSw)
          go_simp
          try with_reducible rfl
        try simp only [Act.put, List.setIfInBounds_toArray, List.set_cons_zero, List.set_cons_succ]
        refine tkW (i := 10) (d := (some 71)) (oi := ?oi11) (v := ?v11) ?hi11 ?hd11 (by kernel_rfl) (by kernel_rfl) (by kernel_rfl) (fun _ _ _ h => h) ?hw11 (by assumption) ?hv11 ?h11
        case hi11 =>
          simp only [List.getElem?_toArray, List.getElem?_cons_succ, List.getElem?_cons_zero]
          exact rfl
        case hd11 => rfl
        case hw11 => rfl
        case hv11 =>
          intro w hSw
          (try dsimp only at hSw)
          go_simp
          try with_reducible rfl
        try simp only [Act.put, List.setIfInBounds_toArray, List.set_cons_zero, List.set_cons_succ]
        refine wpAnyH_ready (rs := [11, 12]) (by kernel_rfl) (by simp) ?_
        refine AllReadyH.cons (o := ?oa12) ?ha12 (fun K hK => ?ka12) (AllReadyH.cons (o := ?ob12) ?hb12 (fun K hK => ?kb12) AllReadyH.nil)
        case ha12 =>
          simp only [List.getElem?_toArray, List.getElem?_cons_succ, List.getElem?_cons_zero]
          exact rfl
        case hb12 =>
          simp only [List.getElem?_toArray, List.getElem?_cons_succ, List.getElem?_cons_zero]
          exact rfl
        case ka12 =>
          go_simp
          refine' Calls.mono (find_any A n c l g0 g1 _ (FA0.out.bel (by repeat first | with_reducible exact Bel.refl _ | with_reducible apply Bel.drew | with_reducible apply Bel.alloc)) HQ.out.2.1.srt) ?_
          rintro e w9 ⟨rfl, b9⟩
          have bz : Bel W0 w9 := Bel.trans (by (repeat first | with_reducible exact Bel.refl _ | with_reducible exact bz | with_reducible apply Bel.drew | with_reducible apply Bel.alloc)) b9
          rw [HFX.out, show (accC ⟨g0, g1, x2, x3⟩).toArray = #[.string g0, .string g1, .int .i64 x2, .int .i64 x3] from rfl]
          go_wp2_with fail
          refine hK.out _ _ ?_ (fun hHeld => ?_)
          · (refine HKP.out _ ?_; (repeat first | with_reducible exact Bel.refl _ | with_reducible exact bz | with_reducible apply Bel.drew | with_reducible apply Bel.alloc))
          clear hK K
          try simp only [Act.put, List.setIfInBounds_toArray, List.set_cons_zero, List.set_cons_succ]
          refine wpAnyH_ready (rs := [12]) (by kernel_rfl) (by simp) ?_
          refine AllReadyH.cons (o := ?oi13) ?hi13 (fun K hK => ?hk13) AllReadyH.nil
          case hi13 =>
            simp only [List.getElem?_toArray, List.getElem?_cons_succ, List.getElem?_cons_zero]
            exact rfl
          go_simp
          refine hK.out _ _ ?_ (fun hHeld => ?_)
          · (refine HKP.out _ ?_; (repeat first | with_reducible exact Bel.refl _ | with_reducible exact bz | with_reducible apply Bel.drew | with_reducible apply Bel.alloc))
          clear hK K
          try simp only [Act.put, List.setIfInBounds_toArray, List.set_cons_zero, List.set_cons_succ]
          refine wpAnyH_ready (rs := [13]) (by kernel_rfl) (by simp) ?_
          refine AllReadyH.cons (o := ?oi14) ?hi14 (fun K hK => ?hk14) AllReadyH.nil
          case hi14 =>
            simp only [List.getElem?_toArray, List.getElem?_cons_succ, List.getElem?_cons_zero]
            exact rfl
          go_simp
          refine hK.out _ _ ?_ (fun hHeld => ?_)
          · (refine HKP.out _ ?_; (repeat first | with_reducible exact Bel.refl _ | with_reducible exact bz | with_reducible apply Bel.drew | with_reducible apply Bel.alloc))
          clear hK K
          try simp only [Act.put, List.setIfInBounds_toArray, List.set_cons_zero, List.set_cons_succ]
          refine wpAnyH_done (by kernel_rfl) ?_ _
          go_wp2_with fail
          go_meet
          exact ⟨w9.heap.size, rfl, hid_ (Bx.new w9 38 [.string g0, .string g1, .int .i64 x2, .int .i64 x3]), hid_ (bz.alloc _)⟩
        case kb12 =>
          go_simp
          refine hK.out _ _ ?_ (fun hHeld => ?_)
          · (refine HKP.out _ ?_; (repeat first | with_reducible exact Bel.refl _ | with_reducible exact bz | with_reducible apply Bel.drew | with_reducible apply Bel.alloc))
          clear hK K
          try simp only [Act.put, List.setIfInBounds_toArray, List.set_cons_zero, List.set_cons_succ]
          refine wpAnyH_ready (rs := [11]) (by kernel_rfl) (by simp) ?_
          refine AllReadyH.cons (o := ?oi15) ?hi15 (fun K hK => ?hk15) AllReadyH.nil
          case hi15 =>
            simp only [List.getElem?_toArray, List.getElem?_cons_succ, List.getElem?_cons_zero]
            exact rfl
          go_simp
          refine' Calls.mono (find_any A n c l g0 g1 _ (FA0.out.bel (by repeat first | with_reducible exact Bel.refl _ | with_reducible apply Bel.drew | with_reducible apply Bel.alloc)) HQ.out.2.1.srt) ?_
          rintro e w9 ⟨rfl, b9⟩
          have bz : Bel W0 w9 := Bel.trans (by (repeat first | with_reducible exact Bel.refl _ | with_reducible exact bz | with_reducible apply Bel.drew | with_reducible apply Bel.alloc)) b9
          rw [HFX.out, show (accC ⟨g0, g1, x2, x3⟩).toArray = #[.string g0, .string g1, .int .i64 x2, .int .i64 x3] from rfl]
          have kz : Bx w9 W0.heap.size 38 [.string ⟨#[]⟩, .string ⟨#[]⟩, .int .i64 0, .int .i64 0] := (Bx.new W0.drew 38 [.string ⟨#[]⟩, .string ⟨#[]⟩, .int .i64 0, .int .i64 0]).bel b9
          have ky0 := kz.cell 0 rfl
          have ky1 := kz.cell 1 rfl
          have ky2 := kz.cell 2 rfl
          have ky3 := kz.cell 3 rfl
          have kf0 := kz.frozen 0
          have kf1 := kz.frozen 1
          have kf2 := kz.frozen 2
          have kf3 := kz.frozen 3
          have bw := (((bz.set_ (p := ⟨W0.heap.size, 0, none⟩) (Nat.le_refl _) (.string g0)).set_ (p := ⟨W0.heap.size, 1, none⟩) (Nat.le_refl _) (.string g1)).set_ (p := ⟨W0.heap.size, 2, none⟩) (Nat.le_refl _) (.int .i64 x2)).set_ (p := ⟨W0.heap.size, 3, none⟩) (Nat.le_refl _) (.int .i64 x3)
          have kw := (((kz.set 0 (.string g0)).set 1 (.string g1)).set 2 (.int .i64 x2)).set 3 (.int .i64 x3)
          go_wp2_with fail
          refine hK.out _ _ ?_ (fun hHeld => ?_)
          · (refine HKP.out _ ?_; (repeat first | with_reducible exact Bel.refl _ | with_reducible exact bz | with_reducible apply Bel.drew | with_reducible apply Bel.alloc))
          clear hK K
          try simp only [Act.put, List.setIfInBounds_toArray, List.set_cons_zero, List.set_cons_succ]
          refine wpAnyH_ready (rs := [13]) (by kernel_rfl) (by simp) ?_
          refine AllReadyH.cons (o := ?oi16) ?hi16 (fun K hK => ?hk16) AllReadyH.nil
          case hi16 =>
            simp only [List.getElem?_toArray, List.getElem?_cons_succ, List.getElem?_cons_zero]
            exact rfl
          go_simp
          refine hK.out _ _ ?_ (fun hHeld => ?_)
          · (refine HKP.out _ ?_; (repeat first | with_reducible exact Bel.refl _ | with_reducible exact bz | with_reducible exact bw | with_reducible apply Bel.drew | with_reducible apply Bel.alloc))
          clear hK K
          try simp only [Act.put, List.setIfInBounds_toArray, List.set_cons_zero, List.set_cons_succ]
          refine wpAnyH_done (by kernel_rfl) ?_ _
          go_wp2_with fail
          go_meet
          exact ⟨W0.heap.size, rfl, hid_ kw, hid_ bw⟩
      case rest =>
        obtain ⟨gA, rfl, KA, BA⟩ := hcut
        have za0 := BA.out.cell_ z0
        have za1 := BA.out.cell_ z1
        obtain ⟨Wa, hWa⟩ : ∃ Wa, wc = Wa := ⟨_, rfl⟩
        rw [hWa] at KA BA za0 za1 ⊢
        clear hWa
        go_upto_region 12 with (fail)
        go_cut [15] (fun p wx => ∃ g, p = .pointer (some ⟨g, 0, none⟩) ∧ Hid (Bx wx g 38 [.string g0, .string g1, .int .i64 y2, .int .i64 y3]) ∧ Hid (Bel Wa wx))
        case first =>
          have hKP : ∀ W, Bel Wa W → (fun W => Bel Wa W ∧ W.cell? (ad.add (j * 3)) = some (.string g0) ∧ W.cell? ⟨(ad.add (j * 3)).block, (ad.add (j * 3)).off + 1, none⟩ = some (.string g1)) W := fun W b => ⟨b, b.cell_ za0, b.cell_ za1⟩
          have HKP := hid_ hKP
          clear hKP
          refine wp_region_held_drew (S := (fun W => Bel Wa W ∧ W.cell? (ad.add (j * 3)) = some (.string g0) ∧ W.cell? ⟨(ad.add (j * 3)).block, (ad.add (j * 3)).off + 1, none⟩ = some (.string g1))) (by kernel_rfl) (by (refine HKP.out _ ?_; (repeat first | with_reducible exact Bel.refl _ | with_reducible exact bz | with_reducible apply Bel.drew | with_reducible apply Bel.alloc))) (fun hHeld => ?_)
          refine tkW (i := 0) (d := (some 73)) (oi := ?oi17) (v := ?v17) ?hi17 ?hd17 (by kernel_rfl) (by kernel_rfl) (by kernel_rfl) (fun _ _ _ h => h) ?hw17 (by assumption) ?hv17 ?h17
          case hi17 =>
            simp only [List.getElem?_toArray, List.getElem?_cons_succ, List.getElem?_cons_zero]
            exact rfl
          case hd17 => rfl
          case hw17 => rfl
          case hv17 =>
            intro w hSw
            (try dsimp only at hSw)
            go_simp
            try with_reducible rfl
          try simp only [Act.put, List.setIfInBounds_toArray, List.set_cons_zero, List.set_cons_succ]
          refine tkW (i := 1) (d := (some 74)) (oi := ?oi18) (v := ?v18) ?hi18 ?hd18 (by kernel_rfl) (by kernel_rfl) (by kernel_rfl) (fun _ _ _ h => h) ?hw18 (by assumption) ?hv18 ?h18
          case hi18 =>
            simp only [List.getElem?_toArray, List.getElem?_cons_succ, List.getElem?_cons_zero]
            exact rfl
          case hd18 => rfl
          case hw18 => rfl
          case hv18 =>
            intro w hSw
            (try dsimp only at hSw)
            go_simp
            try with_reducible rfl
          try simp only [Act.put, List.setIfInBounds_toArray, List.set_cons_zero, List.set_cons_succ]
          refine tkW (i := 2) (d := (some 75)) (oi := ?oi19) (v := ?v19) ?hi19 ?hd19 (by kernel_rfl) (by kernel_rfl) (by kernel_rfl) (fun _ _ _ h => h) ?hw19 (by assumption) ?hv19 ?h19
          case hi19 =>
            simp only [List.getElem?_toArray, List.getElem?_cons_succ, List.getElem?_cons_zero]
            exact rfl
          case hd19 => rfl
          case hw19 => rfl
          case hv19 =>
            intro w hSw
            (try dsimp only at hSw)
            go_simp
            try with_reducible rfl
          try simp only [Act.put, List.setIfInBounds_toArray, List.set_cons_zero, List.set_cons_succ]
          refine tkW (i := 3) (d := (some 76)) (oi := ?oi20) (v := ?v20) ?hi20 ?hd20 (by kernel_rfl) (by kernel_rfl) (by kernel_rfl) (fun _ _ _ h => h) ?hw20 (by assumption) ?hv20 ?h20
          case hi20 =>
            simp only [List.getElem?_toArray, List.getElem?_cons_succ, List.getElem?_cons_zero]
            exact rfl
          case hd20 => rfl
          case hw20 => rfl
          case hv20 =>
            intro w hSw
            (try dsimp only at hSw)
            go_simp
            try with_reducible rfl
          try simp only [Act.put, List.setIfInBounds_toArray, List.set_cons_zero, List.set_cons_succ]
          refine tkW (i := 4) (d := (some 77)) (oi := ?oi21) (v := ?v21) ?hi21 ?hd21 (by kernel_rfl) (by kernel_rfl) (by kernel_rfl) (fun _ _ _ h => h) ?hw21 (by assumption) ?hv21 ?h21
          case hi21 =>
            simp only [List.getElem?_toArray, List.getElem?_cons_succ, List.getElem?_cons_zero]
            exact rfl
          case hd21 => rfl
          case hw21 => rfl
          case hv21 =>
            intro w hSw
            (try dsimp only at hSw)
            go_simp
            try with_reducible rfl
          try simp only [Act.put, List.setIfInBounds_toArray, List.set_cons_zero, List.set_cons_succ]
          refine tkW (i := 5) (d := (some 78)) (oi := ?oi22) (v := ?v22) ?hi22 ?hd22 (by kernel_rfl) (by kernel_rfl) (by kernel_rfl) (fun _ _ _ h => h) ?hw22 (by assumption) ?hv22 ?h22
          case hi22 =>
            simp only [List.getElem?_toArray, List.getElem?_cons_succ, List.getElem?_cons_zero]
            exact rfl
          case hd22 => rfl
          case hw22 => rfl
          case hv22 =>
            intro w hSw
            (try dsimp only at hSw)
            go_simp
            try with_reducible rfl
          try simp only [Act.put, List.setIfInBounds_toArray, List.set_cons_zero, List.set_cons_succ]
          refine tkW (i := 6) (d := (some 79)) (oi := ?oi23) (v := ?v23) ?hi23 ?hd23 (by kernel_rfl) (by kernel_rfl) (by kernel_rfl) (fun _ _ _ h => h) ?hw23 (by assumption) ?hv23 ?h23
          case hi23 =>
            simp only [List.getElem?_toArray, List.getElem?_cons_succ, List.getElem?_cons_zero]
            exact rfl
          case hd23 => rfl
          case hw23 => rfl
          case hv23 =>
            intro w hSw
            (try dsimp only at hSw)
            go_simp
            try with_reducible rfl
          try simp only [Act.put, List.setIfInBounds_toArray, List.set_cons_zero, List.set_cons_succ]
          refine tkW (i := 7) (d := (some 80)) (oi := ?oi24) (v := ?v24) ?hi24 ?hd24 (by kernel_rfl) (by kernel_rfl) (by kernel_rfl) (fun _ _ _ h => h) ?hw24 (by assumption) ?hv24 ?h24
          case hi24 =>
            simp only [List.getElem?_toArray, List.getElem?_cons_succ, List.getElem?_cons_zero]
            exact rfl
          case hd24 => rfl
          case hw24 => rfl
          case hv24 =>
            intro w hSw
            (try dsimp only at hSw)
            go_simp
            try with_reducible rfl
          try simp only [Act.put, List.setIfInBounds_toArray, List.set_cons_zero, List.set_cons_succ]
          refine tkW (i := 8) (d := (some 81)) (oi := ?oi25) (v := ?v25) ?hi25 ?hd25 (by kernel_rfl) (by kernel_rfl) (by kernel_rfl) (fun _ _ _ h => h) ?hw25 (by assumption) ?hv25 ?h25
          case hi25 =>
            simp only [List.getElem?_toArray, List.getElem?_cons_succ, List.getElem?_cons_zero]
            exact rfl
          case hd25 => rfl
          case hw25 => rfl
          case hv25 =>
            intro w hSw
            (try dsimp only at hSw)
            go_simp
            try with_reducible rfl
          try simp only [Act.put, List.setIfInBounds_toArray, List.set_cons_zero, List.set_cons_succ]
          refine tkW (i := 9) (d := (some 82)) (oi := ?oi26) (v := ?v26) ?hi26 ?hd26 (by kernel_rfl) (by kernel_rfl) (by kernel_rfl) (fun _ _ _ h => h) ?hw26 (by assumption) ?hv26 ?h26
          case hi26 =>
            simp only [List.getElem?_toArray, List.getElem?_cons_succ, List.getElem?_cons_zero]
            exact rfl
          case hd26 => rfl
          case hw26 => rfl
          case hv26 =>
            intro w hSw
            (try dsimp only at hSw)
            go_simp
            try with_reducible rfl
          try simp only [Act.put, List.setIfInBounds_toArray, List.set_cons_zero, List.set_cons_succ]
          refine tkW (i := 10) (d := (some 83)) (oi := ?oi27) (v := ?v27) ?hi27 ?hd27 (by kernel_rfl) (by kernel_rfl) (by kernel_rfl) (fun _ _ _ h => h) ?hw27 (by assumption) ?hv27 ?h27
          case hi27 =>
            simp only [List.getElem?_toArray, List.getElem?_cons_succ, List.getElem?_cons_zero]
            exact rfl
          case hd27 => rfl
          case hw27 => rfl
          case hv27 =>
            intro w hSw
            (try dsimp only at hSw)
            go_simp
            try with_reducible rfl
          try simp only [Act.put, List.setIfInBounds_toArray, List.set_cons_zero, List.set_cons_succ]
          refine wpAnyH_ready (rs := [11, 12]) (by kernel_rfl) (by simp) ?_
          refine AllReadyH.cons (o := ?oa28) ?ha28 (fun K hK => ?ka28) (AllReadyH.cons (o := ?ob28) ?hb28 (fun K hK => ?kb28) AllReadyH.nil)
          case ha28 =>
            simp only [List.getElem?_toArray, List.getElem?_cons_succ, List.getElem?_cons_zero]
            exact rfl
          case hb28 =>
            simp only [List.getElem?_toArray, List.getElem?_cons_succ, List.getElem?_cons_zero]
            exact rfl
          case ka28 =>
            go_simp
            refine' Calls.mono (find_any A5 n5 c5 po g0 g1 _ ((FR0.out.bel BA.out).bel (by repeat first | with_reducible exact Bel.refl _ | with_reducible apply Bel.drew | with_reducible apply Bel.alloc)) HMV.out.1.ok.srt) ?_
            rintro e w9 ⟨rfl, b9⟩
            have bz : Bel Wa w9 := Bel.trans (by (repeat first | with_reducible exact Bel.refl _ | with_reducible exact bz | with_reducible apply Bel.drew | with_reducible apply Bel.alloc)) b9
            rw [HFY.out, show (accC ⟨g0, g1, y2, y3⟩).toArray = #[.string g0, .string g1, .int .i64 y2, .int .i64 y3] from rfl]
            go_wp2_with fail
            refine hK.out _ _ ?_ (fun hHeld => ?_)
            · (refine HKP.out _ ?_; (repeat first | with_reducible exact Bel.refl _ | with_reducible exact bz | with_reducible apply Bel.drew | with_reducible apply Bel.alloc))
            clear hK K
            try simp only [Act.put, List.setIfInBounds_toArray, List.set_cons_zero, List.set_cons_succ]
            refine wpAnyH_ready (rs := [12]) (by kernel_rfl) (by simp) ?_
            refine AllReadyH.cons (o := ?oi29) ?hi29 (fun K hK => ?hk29) AllReadyH.nil
            case hi29 =>
              simp only [List.getElem?_toArray, List.getElem?_cons_succ, List.getElem?_cons_zero]
              exact rfl
            go_simp
            refine hK.out _ _ ?_ (fun hHeld => ?_)
            · (refine HKP.out _ ?_; (repeat first | with_reducible exact Bel.refl _ | with_reducible exact bz | with_reducible apply Bel.drew | with_reducible apply Bel.alloc))
            clear hK K
            try simp only [Act.put, List.setIfInBounds_toArray, List.set_cons_zero, List.set_cons_succ]
            refine wpAnyH_ready (rs := [13]) (by kernel_rfl) (by simp) ?_
            refine AllReadyH.cons (o := ?oi30) ?hi30 (fun K hK => ?hk30) AllReadyH.nil
            case hi30 =>
              simp only [List.getElem?_toArray, List.getElem?_cons_succ, List.getElem?_cons_zero]
              exact rfl
            go_simp
            refine hK.out _ _ ?_ (fun hHeld => ?_)
            · (refine HKP.out _ ?_; (repeat first | with_reducible exact Bel.refl _ | with_reducible exact bz | with_reducible apply Bel.drew | with_reducible apply Bel.alloc))
            clear hK K
            try simp only [Act.put, List.setIfInBounds_toArray, List.set_cons_zero, List.set_cons_succ]
            refine wpAnyH_done (by kernel_rfl) ?_ _
            go_wp2_with fail
            go_meet
            exact ⟨w9.heap.size, rfl, hid_ (Bx.new w9 38 [.string g0, .string g1, .int .i64 y2, .int .i64 y3]), hid_ (bz.alloc _)⟩
          case kb28 =>
            go_simp
            refine hK.out _ _ ?_ (fun hHeld => ?_)
            · (refine HKP.out _ ?_; (repeat first | with_reducible exact Bel.refl _ | with_reducible exact bz | with_reducible apply Bel.drew | with_reducible apply Bel.alloc))
            clear hK K
            try simp only [Act.put, List.setIfInBounds_toArray, List.set_cons_zero, List.set_cons_succ]
            refine wpAnyH_ready (rs := [11]) (by kernel_rfl) (by simp) ?_
            refine AllReadyH.cons (o := ?oi31) ?hi31 (fun K hK => ?hk31) AllReadyH.nil
            case hi31 =>
              simp only [List.getElem?_toArray, List.getElem?_cons_succ, List.getElem?_cons_zero]
              exact rfl
            go_simp
            refine' Calls.mono (find_any A5 n5 c5 po g0 g1 _ ((FR0.out.bel BA.out).bel (by repeat first | with_reducible exact Bel.refl _ | with_reducible apply Bel.drew | with_reducible apply Bel.alloc)) HMV.out.1.ok.srt) ?_
            rintro e w9 ⟨rfl, b9⟩
            have bz : Bel Wa w9 := Bel.trans (by (repeat first | with_reducible exact Bel.refl _ | with_reducible exact bz | with_reducible apply Bel.drew | with_reducible apply Bel.alloc)) b9
            rw [HFY.out, show (accC ⟨g0, g1, y2, y3⟩).toArray = #[.string g0, .string g1, .int .i64 y2, .int .i64 y3] from rfl]
            have kz : Bx w9 Wa.heap.size 38 [.string ⟨#[]⟩, .string ⟨#[]⟩, .int .i64 0, .int .i64 0] := (Bx.new Wa.drew 38 [.string ⟨#[]⟩, .string ⟨#[]⟩, .int .i64 0, .int .i64 0]).bel b9
            have ky0 := kz.cell 0 rfl
            have ky1 := kz.cell 1 rfl
            have ky2 := kz.cell 2 rfl
            have ky3 := kz.cell 3 rfl
            have kf0 := kz.frozen 0
            have kf1 := kz.frozen 1
            have kf2 := kz.frozen 2
            have kf3 := kz.frozen 3
            have bw := (((bz.set_ (p := ⟨Wa.heap.size, 0, none⟩) (Nat.le_refl _) (.string g0)).set_ (p := ⟨Wa.heap.size, 1, none⟩) (Nat.le_refl _) (.string g1)).set_ (p := ⟨Wa.heap.size, 2, none⟩) (Nat.le_refl _) (.int .i64 y2)).set_ (p := ⟨Wa.heap.size, 3, none⟩) (Nat.le_refl _) (.int .i64 y3)
            have kw := (((kz.set 0 (.string g0)).set 1 (.string g1)).set 2 (.int .i64 y2)).set 3 (.int .i64 y3)
            go_wp2_with fail
            refine hK.out _ _ ?_ (fun hHeld => ?_)
            · (refine HKP.out _ ?_; (repeat first | with_reducible exact Bel.refl _ | with_reducible exact bz | with_reducible apply Bel.drew | with_reducible apply Bel.alloc))
            clear hK K
            try simp only [Act.put, List.setIfInBounds_toArray, List.set_cons_zero, List.set_cons_succ]
            refine wpAnyH_ready (rs := [13]) (by kernel_rfl) (by simp) ?_
            refine AllReadyH.cons (o := ?oi32) ?hi32 (fun K hK => ?hk32) AllReadyH.nil
            case hi32 =>
              simp only [List.getElem?_toArray, List.getElem?_cons_succ, List.getElem?_cons_zero]
              exact rfl
            go_simp
            refine hK.out _ _ ?_ (fun hHeld => ?_)
            · (refine HKP.out _ ?_; (repeat first | with_reducible exact Bel.refl _ | with_reducible exact bz | with_reducible exact bw | with_reducible apply Bel.drew | with_reducible apply Bel.alloc))
            clear hK K
            try simp only [Act.put, List.setIfInBounds_toArray, List.set_cons_zero, List.set_cons_succ]
            refine wpAnyH_done (by kernel_rfl) ?_ _
            go_wp2_with fail
            go_meet
            exact ⟨Wa.heap.size, rfl, hid_ kw, hid_ bw⟩
        case rest =>
          obtain ⟨gC, rfl, KC, BC⟩ := hcut
          have KA2 := hid_ (KA.out.bel BC.out)
          have BW2 := hid_ (BA.out.trans BC.out)
          clear KA BA BC za0 za1
          have HE := HE0.out
          rw [HFX.out, HFY.out] at HE
          obtain ⟨he1, he2⟩ := HE
          simp only at he1 he2
          have HS1 : Hid (wrap64 (y2 - x2) = lastA lg ⟨g0, g1⟩) := hid_ (by have h := lastA_i64 lg ⟨g0, g1⟩ HLG.out; unfold i64w at h; rw [he1]; unfold wrap64; omega)
          have HS2 : Hid (wrap64 (x3 - y3) = lastA gr ⟨g0, g1⟩) := hid_ (by have h := lastA_i64 gr ⟨g0, g1⟩ HGG.out; unfold i64w at h; rw [he2]; unfold wrap64; omega)
          clear he1 he2 HE0 HFX HFY
          obtain ⟨W2, hW2⟩ : ∃ W2, wc = W2 := ⟨_, rfl⟩
          rw [hW2] at KA2 KC BW2 ⊢
          clear hW2
          have zb0 := BW2.out.cell_ z0
          have zb1 := BW2.out.cell_ z1
          have ZB := hid_ (And.intro zb0 zb1)
          clear z0 z1 z2 zb0 zb1
          have FL2 := hid_ (FL0.out.bel BW2.out)
          have FG2 := hid_ (FG0.out.bel BW2.out)
          clear FL0 FG0
          go_wp2_with fail
          go_loopw [16, 17] (fun v i wq => ∃ q : Nat, q ≤ n6 ∧ i = .int .i64 q ∧ v = .int .i64 (lastA (lg.take q) ⟨g0, g1⟩) ∧ Hid (Bel W2 wq)) (fun _ i _ => n6 - (intOf i).toNat)
          case atStart => exact ⟨0, Nat.zero_le _, rfl, rfl, hid_ (Bel.refl _)⟩
          case round =>
            obtain ⟨q, hq, rfl, hv, hBq⟩ := hrel
            by_cases hqn : q < n6
            · obtain ⟨adx, k0, k1, k2, rfl, hox, c0, c1, c2⟩ := (FL2.out.bel hBq.out).leg hqn
              have HOX := hid_ (lastA_step hox ⟨g0, g1⟩)
              obtain ⟨sv, hsv⟩ : ∃ sv, lastA (lg.take q) ⟨g0, g1⟩ = sv := ⟨_, rfl⟩
              rw [hsv] at hv HOX
              subst hv
              have zc0 := hBq.out.cell_ ZB.out.1
              have zc1 := hBq.out.cell_ ZB.out.2
              have i2 : (0 : Int) ≤ (q : Int) := by omega
              have i3 : (q : Int) < (n6 : Int) := by omega
              have HQQ := hid_ (And.intro hq hqn)
              clear hox hq hqn hsv
              obtain ⟨e1, he1⟩ : ∃ e1, (k0.toList == g0.toList) = e1 := ⟨_, rfl⟩
              obtain ⟨e2, he2⟩ : ∃ e2, (k1.toList == g1.toList) = e2 := ⟨_, rfl⟩
              have h1 := he1
              have h2 := he2
              rw [bytesEq] at h1 h2
              have HEQ : Hid ((e1 && e2) = decide ((⟨k0, k1⟩ : Plc) = ⟨g0, g1⟩)) := hid_ (by rw [← h1, ← h2, ← Bool.decide_and]; simp only [Plc.mk.injEq])
              clear h1 h2
              cases e1
              ·
                have HN : Hid (lastA (lg.take (q + 1)) ⟨g0, g1⟩ = sv) := hid_ (by rw [HOX.out, if_neg (fun e => by have := HEQ.out; rw [decide_eq_true (show (⟨k0, k1⟩ : Plc) = ⟨g0, g1⟩ from e)] at this; cases this)])
                go_upto_region 17 with (fail)
                go_quiet (fail)
                obtain ⟨W5, hW5, hb5⟩ : ∃ W5, wr.drewN nq = W5 ∧ Bel wr W5 := ⟨_, rfl, (Bel.refl wr).drewN _⟩
                rw [hW5]
                have B5 := hid_ (hBq.out.trans hb5)
                clear hW5 hb5 hBq c0 c1 c2 zc0 zc1 he1 he2
                go_wp2
                case roundEnd =>
                  go_roundw
                  case rel => exact ⟨q + 1, HQQ.out.2, by go_num, by rw [HN.out], B5⟩
                  case measure => have := HQQ.out.2; simp [intOf]; omega
              ·
                cases e2
                ·
                  have HN : Hid (lastA (lg.take (q + 1)) ⟨g0, g1⟩ = sv) := hid_ (by rw [HOX.out, if_neg (fun e => by have := HEQ.out; rw [decide_eq_true (show (⟨k0, k1⟩ : Plc) = ⟨g0, g1⟩ from e)] at this; cases this)])
                  go_upto_region 17 with (fail)
                  go_quiet (fail)
                  obtain ⟨W5, hW5, hb5⟩ : ∃ W5, wr.drewN nq = W5 ∧ Bel wr W5 := ⟨_, rfl, (Bel.refl wr).drewN _⟩
                  rw [hW5]
                  have B5 := hid_ (hBq.out.trans hb5)
                  clear hW5 hb5 hBq c0 c1 c2 zc0 zc1 he1 he2
                  go_wp2
                  case roundEnd =>
                    go_roundw
                    case rel => exact ⟨q + 1, HQQ.out.2, by go_num, by rw [HN.out], B5⟩
                    case measure => have := HQQ.out.2; simp [intOf]; omega
                ·
                  have HN : Hid (lastA (lg.take (q + 1)) ⟨g0, g1⟩ = k2) := hid_ (by rw [HOX.out, if_pos]; exact of_decide_eq_true HEQ.out.symm)
                  go_upto_region 17 with (fail)
                  go_quiet (fail)
                  obtain ⟨W5, hW5, hb5⟩ : ∃ W5, wr.drewN nq = W5 ∧ Bel wr W5 := ⟨_, rfl, (Bel.refl wr).drewN _⟩
                  rw [hW5]
                  have B5 := hid_ (hBq.out.trans hb5)
                  have c2 := hb5.cell_ c2
                  clear hW5 hb5 hBq c0 c1 zc0 zc1 he1 he2
                  go_wp2
                  case roundEnd =>
                    go_roundw
                    case rel => exact ⟨q + 1, HQQ.out.2, by go_num, by rw [HN.out], B5⟩
                    case measure => have := HQQ.out.2; simp [intOf]; omega
            · obtain rfl : n6 = q := by omega
              rw [show lg.take n6 = lg from List.take_of_length_le (by rw [FL2.out.1]; exact Nat.le_refl _)] at hv
              subst hv
              have KA3 := hid_ (KA2.out.bel hBq.out)
              have KC3 := hid_ (KC.out.bel hBq.out)
              have FG3 := hid_ (FG2.out.bel hBq.out)
              have ZC := hid_ (And.intro (hBq.out.cell_ ZB.out.1) (hBq.out.cell_ ZB.out.2))
              have B3 := hid_ ((HB0.out.trans BW2.out).trans hBq.out)
              obtain ⟨W3, hW3⟩ : ∃ W3, wr = W3 := ⟨_, rfl⟩
              rw [hW3] at KA3 KC3 FG3 ZC B3 ⊢
              clear hW3 hBq hqn hq
              obtain ⟨sl, hsl⟩ : ∃ sl, lastA lg ⟨g0, g1⟩ = sl := ⟨_, rfl⟩
              rw [hsl] at HS1 ⊢
              clear hsl
              go_wp2_with fail
              go_loopw [18, 19] (fun v i wq => ∃ q : Nat, q ≤ n7 ∧ i = .int .i64 q ∧ v = .int .i64 (lastA (gr.take q) ⟨g0, g1⟩) ∧ Hid (Bel W3 wq)) (fun _ i _ => n7 - (intOf i).toNat)
              case atStart => exact ⟨0, Nat.zero_le _, rfl, rfl, hid_ (Bel.refl _)⟩
              case round =>
                obtain ⟨q, hq, rfl, hv, hBq⟩ := hrel
                by_cases hqn : q < n7
                · obtain ⟨adx, k0, k1, k2, rfl, hox, c0, c1, c2⟩ := (FG3.out.bel hBq.out).due hqn
                  have HOX := hid_ (lastA_step hox ⟨g0, g1⟩)
                  obtain ⟨sv, hsv⟩ : ∃ sv, lastA (gr.take q) ⟨g0, g1⟩ = sv := ⟨_, rfl⟩
                  rw [hsv] at hv HOX
                  subst hv
                  have zc0 := hBq.out.cell_ ZC.out.1
                  have zc1 := hBq.out.cell_ ZC.out.2
                  have i2 : (0 : Int) ≤ (q : Int) := by omega
                  have i3 : (q : Int) < (n7 : Int) := by omega
                  have HQQ := hid_ (And.intro hq hqn)
                  clear hox hq hqn hsv
                  obtain ⟨e1, he1⟩ : ∃ e1, (k0.toList == g0.toList) = e1 := ⟨_, rfl⟩
                  obtain ⟨e2, he2⟩ : ∃ e2, (k1.toList == g1.toList) = e2 := ⟨_, rfl⟩
                  have h1 := he1
                  have h2 := he2
                  rw [bytesEq] at h1 h2
                  have HEQ : Hid ((e1 && e2) = decide ((⟨k0, k1⟩ : Plc) = ⟨g0, g1⟩)) := hid_ (by rw [← h1, ← h2, ← Bool.decide_and]; simp only [Plc.mk.injEq])
                  clear h1 h2
                  cases e1
                  ·
                    have HN : Hid (lastA (gr.take (q + 1)) ⟨g0, g1⟩ = sv) := hid_ (by rw [HOX.out, if_neg (fun e => by have := HEQ.out; rw [decide_eq_true (show (⟨k0, k1⟩ : Plc) = ⟨g0, g1⟩ from e)] at this; cases this)])
                    go_upto_region 23 with (fail)
                    go_quiet (fail)
                    obtain ⟨W5, hW5, hb5⟩ : ∃ W5, wr.drewN nq = W5 ∧ Bel wr W5 := ⟨_, rfl, (Bel.refl wr).drewN _⟩
                    rw [hW5]
                    have B5 := hid_ (hBq.out.trans hb5)
                    clear hW5 hb5 hBq c0 c1 c2 zc0 zc1 he1 he2
                    go_wp2
                    case roundEnd =>
                      go_roundw
                      case rel => exact ⟨q + 1, HQQ.out.2, by go_num, by rw [HN.out], B5⟩
                      case measure => have := HQQ.out.2; simp [intOf]; omega
                  ·
                    cases e2
                    ·
                      have HN : Hid (lastA (gr.take (q + 1)) ⟨g0, g1⟩ = sv) := hid_ (by rw [HOX.out, if_neg (fun e => by have := HEQ.out; rw [decide_eq_true (show (⟨k0, k1⟩ : Plc) = ⟨g0, g1⟩ from e)] at this; cases this)])
                      go_upto_region 23 with (fail)
                      go_quiet (fail)
                      obtain ⟨W5, hW5, hb5⟩ : ∃ W5, wr.drewN nq = W5 ∧ Bel wr W5 := ⟨_, rfl, (Bel.refl wr).drewN _⟩
                      rw [hW5]
                      have B5 := hid_ (hBq.out.trans hb5)
                      clear hW5 hb5 hBq c0 c1 c2 zc0 zc1 he1 he2
                      go_wp2
                      case roundEnd =>
                        go_roundw
                        case rel => exact ⟨q + 1, HQQ.out.2, by go_num, by rw [HN.out], B5⟩
                        case measure => have := HQQ.out.2; simp [intOf]; omega
                    ·
                      have HN : Hid (lastA (gr.take (q + 1)) ⟨g0, g1⟩ = k2) := hid_ (by rw [HOX.out, if_pos]; exact of_decide_eq_true HEQ.out.symm)
                      go_upto_region 23 with (fail)
                      go_quiet (fail)
                      obtain ⟨W5, hW5, hb5⟩ : ∃ W5, wr.drewN nq = W5 ∧ Bel wr W5 := ⟨_, rfl, (Bel.refl wr).drewN _⟩
                      rw [hW5]
                      have B5 := hid_ (hBq.out.trans hb5)
                      have c2 := hb5.cell_ c2
                      clear hW5 hb5 hBq c0 c1 zc0 zc1 he1 he2
                      go_wp2
                      case roundEnd =>
                        go_roundw
                        case rel => exact ⟨q + 1, HQQ.out.2, by go_num, by rw [HN.out], B5⟩
                        case measure => have := HQQ.out.2; simp [intOf]; omega
                · obtain rfl : n7 = q := by omega
                  rw [show gr.take n7 = gr from List.take_of_length_le (by rw [FG3.out.1]; exact Nat.le_refl _)] at hv
                  subst hv
                  have KA4 := hid_ (KA3.out.bel hBq.out)
                  have KC4 := hid_ (KC3.out.bel hBq.out)
                  have B4 := hid_ (B3.out.trans hBq.out)
                  obtain ⟨sg, hsg⟩ : ∃ sg, lastA gr ⟨g0, g1⟩ = sg := ⟨_, rfl⟩
                  rw [hsg] at HS2 ⊢
                  have d1 := HS1.out
                  have d2 := HS2.out
                  have qa2 := KA4.out.cell 2 rfl
                  have qa3 := KA4.out.cell 3 rfl
                  have qc2 := KC4.out.cell 2 rfl
                  have qc3 := KC4.out.cell 3 rfl
                  clear hBq hqn hq hsg
                  go_wp2
                  case roundEnd =>
                    go_roundw
                    case rel => exact ⟨j + 1, by omega, by go_num, B4⟩
                    case measure => simp [intOf]; omega
    · obtain rfl : m = j := by omega
      have FB := hid_ (FB.out.trans hBr.out)
      have FA := hid_ (FA.out.bel hBr.out)
      have FR := hid_ (FR.out.bel hBr.out)
      clear hBr hjm hj FD FL FG
      obtain ⟨tv, htv⟩ : ∃ tv, sumV (balA l s) = tv := ⟨_, rfl⟩
      obtain ⟨te, hte⟩ : ∃ te, sumE (balA l s) = te := ⟨_, rfl⟩
      have HT := hid_ (HTT.out s)
      rw [htv, hte] at HT
      go_wp2_with fail
      refine (total_any A n c l s wr FA.out (Nat.le_trans HN.out (by omega)) HQ.out.2.2.1).mono ?_
      rintro e w7 ⟨rfl, b⟩
      rw [htv, hte]
      have FB := hid_ (FB.out.trans b)
      have FR := hid_ (FR.out.bel b)
      clear b htv hte
      go_wp2_with fail
      refine (total_any A5 n5 c5 po s w7 FR.out (Nat.le_trans HN5.out (by omega)) HMV.out.1.bal).mono ?_
      rintro e w8 ⟨rfl, b⟩
      rw [← HT.out.1, ← HT.out.2]
      have FB := hid_ (FB.out.trans b)
      clear b
      go_wp2
      go_ret
      exact ⟨rfl, FB.out⟩
end Go.Proofs.Ytnpinolhhnpniaa
