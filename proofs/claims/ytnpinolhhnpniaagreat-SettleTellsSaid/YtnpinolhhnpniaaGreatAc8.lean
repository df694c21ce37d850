/- account.Check. -/
import Derived.Test.YtnpinolhhnpniaaGreatAc2
import Derived.BigQuiet
import Derived.Test.YtnpinolhhnpniaaGreatRg
set_option linter.unusedSimpArgs false
set_option linter.unusedVariables false
namespace Go.Proofs.YtnpinolhhnpniaaGreat
open Go.RowKit Go.Lib Go.Sort Go.Shelf
theorem srt_snoc {l : List Acc} {x : Acc} (h : Srt l) (hx : ∀ y, l.getLast? = some y → ltP y.plc x.plc = true) : Srt (l ++ [x]) := by
  unfold Srt at *
  rw [List.pairwise_append]
  refine ⟨h, by simp, fun a ha b hb => ?_⟩
  simp at hb
  subst hb
  cases hl : l.getLast? with
  | none => rw [List.getLast?_eq_none_iff.1 hl] at ha; cases ha
  | some y =>
    have hy := hx y hl
    obtain ⟨r, hr⟩ := List.getLast?_eq_some_iff.1 hl
    rw [hr] at ha h
    rcases List.mem_append.1 ha with h1 | h1
    · exact ltP_trans ((List.pairwise_append.1 h).2.2 a h1 y (by simp)) hy
    · simp at h1
      subst h1
      exact hy
theorem okL_step {l : List Acc} {k : Nat} {x : Acc} (h : OkL (l.take k)) (hx : l[k]? = some x) (ho : OkAcc x) (hl : ∀ (j : Nat) (y : Acc), k = j + 1 → l[j]? = some y → ltP y.plc x.plc = true) : OkL (l.take (k + 1)) := by
  rw [List.take_add_one, hx]
  refine ⟨fun a ha => ?_, srt_snoc h.srt (fun y hy => ?_)⟩
  · rcases List.mem_append.1 ha with h1 | h1
    · exact h.all a h1
    · simp at h1
      rw [h1]
      exact ho
  · have hk := (List.getElem?_eq_some_iff.1 hx).1
    rw [List.getLast?_eq_getElem?, List.length_take, Nat.min_eq_left (by omega), List.getElem?_take] at hy
    split at hy
    · exact hl (k - 1) y (by omega) hy
    · cases hy
theorem okL_bad1 {l : List Acc} {k : Nat} {x : Acc} (hx : l[k]? = some x) (ho : ¬ OkAcc x) : chkAE l = 110 := by
  unfold chkAE
  rw [if_neg]
  intro h
  exact ho ((okL_iff.1 h).all x (List.mem_of_getElem? hx))
theorem okL_bad2 {l : List Acc} {j : Nat} {x y : Acc} (hx : l[j + 1]? = some x) (hy : l[j]? = some y) (hl : ltP y.plc x.plc = false) : chkAE l = 110 := by
  unfold chkAE
  rw [if_neg]
  intro h
  have hs := (okL_iff.1 h).srt
  unfold Srt at hs
  have h1 := (List.getElem?_eq_some_iff.1 hx)
  have h2 := (List.getElem?_eq_some_iff.1 hy)
  have h3 := List.pairwise_iff_getElem.1 hs j (j + 1) h2.1 h1.1 (by omega)
  rw [h1.2, h2.2, hl] at h3
  cases h3
set_option maxRecDepth 10000 in
set_option maxHeartbeats 4000000 in
theorem checkA_any (A : Option Addr) (n c : Nat) (l : List Acc) (w : World) (hA : Row accT w A n l) (hz : ∀ a ∈ l, a.who.size ≤ 9223372036854775807 ∧ a.asset.size ≤ 9223372036854775807) :
    Calls Tryz.prog 16 #[.slice A n c] w fun e w' => e = .returned (.int .i64 (chkAE l)) ∧ Bel w w' := by
  have HA := hid_ hA
  have HL := hid_ hA.1
  have HZ := hid_ hz
  have hA63 := hA.2.1
  obtain ⟨re, hre⟩ : ∃ r, chkAE l = r := ⟨_, rfl⟩
  rw [hre]
  have HRE := hid_ hre
  clear hA hz hre
  go_enter Tryz.func16, Tryz.ntmps16
  go_wp2_with fail
  go_loopw [8] (fun i wr => ∃ k : Nat, k ≤ n ∧ i = .int .i64 k ∧ Hid (OkL (l.take k)) ∧ Bel w wr) (fun i _ => n - (intOf i).toNat)
  case atStart => exact ⟨0, Nat.zero_le _, rfl, hid_ (by rw [List.take_zero]; exact OkL.nil), Bel.refl _⟩
  case round =>
    obtain ⟨k, hk, rfl, hx, hbr⟩ := hrel
    by_cases hkn : k < n
    · obtain ⟨ad, a0, a1, a2, a3, rfl, ho, d0, d1, d2, d3⟩ := (HA.out.bel hbr).acc hkn
      have HO := hid_ ho
      have SZ := hid_ (HZ.out _ (List.mem_of_getElem? ho))
      have K := hid_ (Bx.new wr 37 [.string a0, .string a1, .int .i64 a2, .int .i64 a3])
      have BW := hid_ (hbr.alloc (.cells #[.string a0, .string a1, .int .i64 a2, .int .i64 a3] 37))
      have B1 : Hid (Bel wr (wr.alloc (.cells #[.string a0, .string a1, .int .i64 a2, .int .i64 a3] 37))) := hid_ ((Bel.refl wr).alloc _)
      have RA := hid_ (HA.out.bel BW.out)
      clear ho hbr
      have D0 := hid_ (And.intro d0 (And.intro d1 (And.intro d2 d3)))
      by_cases cw : a0 = worldS
      · have q : (a0.toList == ([119, 111, 114, 108, 100] : List UInt8)) = true := by rw [worldEq]; exact decide_eq_true cw
        have CW := hid_ cw
        clear cw
        by_cases g1 : 0 ≤ a3
        · by_cases z3 : a3 = 0
          · have q3 : (a3 == 0) = true := by simp [z3]
            have Z3 := hid_ z3
            clear z3
            by_cases z2 : a2 = 0
            · have q2 : (a2 == 0) = true := by simp [z2]
              have HF : Hid (re = 110) := hid_ (by rw [← HRE.out]; exact okL_bad1 HO.out (fun h => h.nz z2))
              clear hx HRE z2
              go_upto_region 7 with (fail)
              generalize wr.alloc (.cells #[.string a0, .string a1, .int .i64 a2, .int .i64 a3] 37) = wb at K BW RA B1 ⊢
              generalize wr.heap.size = gB at K ⊢
              have z0 := K.out.cell 0 rfl
              have z1 := K.out.cell 1 rfl
              have z2c := K.out.cell 2 rfl
              have z3c := K.out.cell 3 rfl
              go_quiet (fail)
              go_wp2
              go_ret
              exact ⟨by rw [HF.out]; rfl, BW.out.drewN _⟩
            · have q2 : (a2 == 0) = false := by simp [z2]
              have HZ2 := hid_ z2
              clear z2
              obtain ⟨nb, hnb⟩ : ∃ b, namedB ⟨a0, a1⟩ = b := ⟨_, rfl⟩
              have HNB := hid_ hnb
              clear hnb
              cases nb
              · have HF : Hid (re = 110) := hid_ (by rw [← HRE.out]; exact okL_bad1 HO.out (fun h => by have h1 := h.named; rw [show namedB (Acc.plc ⟨a0, a1, a2, a3⟩) = false from HNB.out] at h1; cases h1))
                clear hx HRE
                go_upto_region 7 with (fail)
                generalize wr.alloc (.cells #[.string a0, .string a1, .int .i64 a2, .int .i64 a3] 37) = wb at K BW RA B1 ⊢
                generalize wr.heap.size = gB at K ⊢
                have hKP : ∀ W, Bel wb W → (fun W => Bel wb W ∧ W.cell? ⟨gB, 0, none⟩ = some (.string a0) ∧ W.cell? ⟨gB, 1, none⟩ = some (.string a1) ∧ W.cell? ⟨gB, 2, none⟩ = some (.int .i64 a2) ∧ W.cell? ⟨gB, 3, none⟩ = some (.int .i64 a3)) W := fun W b => ⟨b, b.cell_ (K.out.cell 0 rfl), b.cell_ (K.out.cell 1 rfl), b.cell_ (K.out.cell 2 rfl), b.cell_ (K.out.cell 3 rfl)⟩
                have HKP := hid_ hKP
                clear hKP
                refine wp_region_held_drew (S := (fun W => Bel wb W ∧ W.cell? ⟨gB, 0, none⟩ = some (.string a0) ∧ W.cell? ⟨gB, 1, none⟩ = some (.string a1) ∧ W.cell? ⟨gB, 2, none⟩ = some (.int .i64 a2) ∧ W.cell? ⟨gB, 3, none⟩ = some (.int .i64 a3))) (by kernel_rfl) (by (refine HKP.out _ ?_; (repeat first | with_reducible exact Bel.refl _ | with_reducible exact bz12 | with_reducible apply Bel.drew | with_reducible apply Bel.alloc))) (fun hHeld => ?_)
                refine tkW (i := 0) (d := (some 29)) (oi := ?oi1) (v := ?v1) ?hi1 ?hd1 (by kernel_rfl) (by kernel_rfl) (by kernel_rfl) (fun _ _ _ h => h) ?hw1 (by assumption) ?hv1 ?h1
                case hi1 =>
                  simp only [List.getElem?_toArray, List.getElem?_cons_succ, List.getElem?_cons_zero]
                  exact rfl
                case hd1 => rfl
                case hw1 => rfl
                case hv1 =>
                  intro w hSw
                  (try dsimp only at hSw)
                  go_simp
                  try with_reducible rfl
                try simp only [Act.put, List.setIfInBounds_toArray, List.set_cons_zero, List.set_cons_succ]
                refine tkW (i := 1) (d := (some 30)) (oi := ?oi2) (v := ?v2) ?hi2 ?hd2 (by kernel_rfl) (by kernel_rfl) (by kernel_rfl) (fun _ _ _ h => h) ?hw2 (by assumption) ?hv2 ?h2
                case hi2 =>
                  simp only [List.getElem?_toArray, List.getElem?_cons_succ, List.getElem?_cons_zero]
                  exact rfl
                case hd2 => rfl
                case hw2 => rfl
                case hv2 =>
                  intro w hSw
                  (try dsimp only at hSw)
                  go_simp
                  try with_reducible rfl
                try simp only [Act.put, List.setIfInBounds_toArray, List.set_cons_zero, List.set_cons_succ]
                refine tkW (i := 2) (d := (some 31)) (oi := ?oi3) (v := ?v3) ?hi3 ?hd3 (by kernel_rfl) (by kernel_rfl) (by kernel_rfl) (fun _ _ _ h => h) ?hw3 (by assumption) ?hv3 ?h3
                case hi3 =>
                  simp only [List.getElem?_toArray, List.getElem?_cons_succ, List.getElem?_cons_zero]
                  exact rfl
                case hd3 => rfl
                case hw3 => rfl
                case hv3 =>
                  intro w hSw
                  (try dsimp only at hSw)
                  go_simp
                  try with_reducible rfl
                try simp only [Act.put, List.setIfInBounds_toArray, List.set_cons_zero, List.set_cons_succ]
                refine tkW (i := 3) (d := (some 32)) (oi := ?oi4) (v := ?v4) ?hi4 ?hd4 (by kernel_rfl) (by kernel_rfl) (by kernel_rfl) (fun _ _ _ h => h) ?hw4 (by assumption) ?hv4 ?h4
                case hi4 =>
                  simp only [List.getElem?_toArray, List.getElem?_cons_succ, List.getElem?_cons_zero]
                  exact rfl
                case hd4 => rfl
                case hw4 => rfl
                case hv4 =>
                  intro w hSw
                  (try dsimp only at hSw)
                  go_simp
                  try with_reducible rfl
                try simp only [Act.put, List.setIfInBounds_toArray, List.set_cons_zero, List.set_cons_succ]
                refine tkW (i := 4) (d := (some 33)) (oi := ?oi5) (v := ?v5) ?hi5 ?hd5 (by kernel_rfl) (by kernel_rfl) (by kernel_rfl) (fun _ _ _ h => h) ?hw5 (by assumption) ?hv5 ?h5
                case hi5 =>
                  simp only [List.getElem?_toArray, List.getElem?_cons_succ, List.getElem?_cons_zero]
                  exact rfl
                case hd5 => rfl
                case hw5 => rfl
                case hv5 =>
                  intro w hSw
                  (try dsimp only at hSw)
                  go_simp
                  try with_reducible rfl
                try simp only [Act.put, List.setIfInBounds_toArray, List.set_cons_zero, List.set_cons_succ]
                refine tkW (i := 5) (d := (some 34)) (oi := ?oi6) (v := ?v6) ?hi6 ?hd6 (by kernel_rfl) (by kernel_rfl) (by kernel_rfl) (fun _ _ _ h => h) ?hw6 (by assumption) ?hv6 ?h6
                case hi6 =>
                  simp only [List.getElem?_toArray, List.getElem?_cons_succ, List.getElem?_cons_zero]
                  exact rfl
                case hd6 => rfl
                case hw6 => rfl
                case hv6 =>
                  intro w hSw
                  (try dsimp only at hSw)
                  go_simp
                  try with_reducible rfl
                try simp only [Act.put, List.setIfInBounds_toArray, List.set_cons_zero, List.set_cons_succ]
                refine tkW (i := 6) (d := (some 35)) (oi := ?oi7) (v := ?v7) ?hi7 ?hd7 (by kernel_rfl) (by kernel_rfl) (by kernel_rfl) (fun _ _ _ h => h) ?hw7 (by assumption) ?hv7 ?h7
                case hi7 =>
                  simp only [List.getElem?_toArray, List.getElem?_cons_succ, List.getElem?_cons_zero]
                  exact rfl
                case hd7 => rfl
                case hw7 => rfl
                case hv7 =>
                  intro w hSw
                  (try dsimp only at hSw)
                  go_simp
                  try with_reducible rfl
                try simp only [Act.put, List.setIfInBounds_toArray, List.set_cons_zero, List.set_cons_succ]
                refine tkW (i := 7) (d := (some 36)) (oi := ?oi8) (v := ?v8) ?hi8 ?hd8 (by kernel_rfl) (by kernel_rfl) (by kernel_rfl) (fun _ _ _ h => h) ?hw8 (by assumption) ?hv8 ?h8
                case hi8 =>
                  simp only [List.getElem?_toArray, List.getElem?_cons_succ, List.getElem?_cons_zero]
                  exact rfl
                case hd8 => rfl
                case hw8 => rfl
                case hv8 =>
                  intro w hSw
                  (try dsimp only at hSw)
                  go_simp
                  try with_reducible rfl
                try simp only [Act.put, List.setIfInBounds_toArray, List.set_cons_zero, List.set_cons_succ]
                refine tkW (i := 8) (d := (some 37)) (oi := ?oi9) (v := ?v9) ?hi9 ?hd9 (by kernel_rfl) (by kernel_rfl) (by kernel_rfl) (fun _ _ _ h => h) ?hw9 (by assumption) ?hv9 ?h9
                case hi9 =>
                  simp only [List.getElem?_toArray, List.getElem?_cons_succ, List.getElem?_cons_zero]
                  exact rfl
                case hd9 => rfl
                case hw9 => rfl
                case hv9 =>
                  intro w hSw
                  (try dsimp only at hSw)
                  go_simp
                  try with_reducible rfl
                try simp only [Act.put, List.setIfInBounds_toArray, List.set_cons_zero, List.set_cons_succ]
                refine tkW (i := 9) (d := (some 38)) (oi := ?oi10) (v := ?v10) ?hi10 ?hd10 (by kernel_rfl) (by kernel_rfl) (by kernel_rfl) (fun _ _ _ h => h) ?hw10 (by assumption) ?hv10 ?h10
                case hi10 =>
                  simp only [List.getElem?_toArray, List.getElem?_cons_succ, List.getElem?_cons_zero]
                  exact rfl
                case hd10 => rfl
                case hw10 => rfl
                case hv10 =>
                  intro w hSw
                  (try dsimp only at hSw)
                  go_simp
                  try with_reducible rfl
                try simp only [Act.put, List.setIfInBounds_toArray, List.set_cons_zero, List.set_cons_succ]
                refine tkW (i := 10) (d := (some 39)) (oi := ?oi11) (v := ?v11) ?hi11 ?hd11 (by kernel_rfl) (by kernel_rfl) (by kernel_rfl) (fun _ _ _ h => h) ?hw11 (by assumption) ?hv11 ?h11
                case hi11 =>
                  simp only [List.getElem?_toArray, List.getElem?_cons_succ, List.getElem?_cons_zero]
                  exact rfl
                case hd11 => rfl
                case hw11 => rfl
                case hv11 =>
                  intro w hSw
                  (try dsimp only at hSw)
                  go_simp
                  try with_reducible rfl
                try simp only [Act.put, List.setIfInBounds_toArray, List.set_cons_zero, List.set_cons_succ]
                refine tkW (i := 11) (d := (some 40)) (oi := ?oi12) (v := ?v12) ?hi12 ?hd12 (by kernel_rfl) (by kernel_rfl) (by kernel_rfl) (fun _ _ _ h => h) ?hw12 (by assumption) ?hv12 ?h12
                case hi12 =>
                  simp only [List.getElem?_toArray, List.getElem?_cons_succ, List.getElem?_cons_zero]
                  exact rfl
                case hd12 => rfl
                case hw12 => rfl
                case hv12 =>
                  intro w hSw
                  (try dsimp only at hSw)
                  go_simp
                  try with_reducible rfl
                try simp only [Act.put, List.setIfInBounds_toArray, List.set_cons_zero, List.set_cons_succ]
                refine wpAnyH_ready (rs := [12]) (by kernel_rfl) (by simp) ?_
                refine AllReadyH.cons (o := ?oi13) ?hi13 (fun K hK => ?hk13) AllReadyH.nil
                case hi13 =>
                  simp only [List.getElem?_toArray, List.getElem?_cons_succ, List.getElem?_cons_zero]
                  exact rfl
                go_simp
                refine' Calls.mono (names_any a0 a1 _ SZ.out.1 SZ.out.2) ?_
                rintro e w9 ⟨rfl, b9⟩
                have bz12 : Bel wb w9 := Bel.trans (by (repeat first | with_reducible exact Bel.refl _ | with_reducible exact bz12 | with_reducible apply Bel.drew | with_reducible apply Bel.alloc)) b9
                rw [HNB.out]
                go_wp2_with fail
                refine hK.out _ _ ?_ (fun hHeld => ?_)
                · (refine HKP.out _ ?_; (repeat first | with_reducible exact Bel.refl _ | with_reducible exact bz12 | with_reducible apply Bel.drew | with_reducible apply Bel.alloc))
                clear hK K
                try simp only [Act.put, List.setIfInBounds_toArray, List.set_cons_zero, List.set_cons_succ]
                refine tkW (i := 13) (d := (some 42)) (oi := ?oi14) (v := ?v14) ?hi14 ?hd14 (by kernel_rfl) (by kernel_rfl) (by kernel_rfl) (fun _ _ _ h => h) ?hw14 (by assumption) ?hv14 ?h14
                case hi14 =>
                  simp only [List.getElem?_toArray, List.getElem?_cons_succ, List.getElem?_cons_zero]
                  exact rfl
                case hd14 => rfl
                case hw14 => rfl
                case hv14 =>
                  intro w hSw
                  (try dsimp only at hSw)
                  go_simp
                  try with_reducible rfl
                try simp only [Act.put, List.setIfInBounds_toArray, List.set_cons_zero, List.set_cons_succ]
                refine tkW (i := 14) (d := (some 43)) (oi := ?oi15) (v := ?v15) ?hi15 ?hd15 (by kernel_rfl) (by kernel_rfl) (by kernel_rfl) (fun _ _ _ h => h) ?hw15 (by assumption) ?hv15 ?h15
                case hi15 =>
                  simp only [List.getElem?_toArray, List.getElem?_cons_succ, List.getElem?_cons_zero]
                  exact rfl
                case hd15 => rfl
                case hw15 => rfl
                case hv15 =>
                  intro w hSw
                  (try dsimp only at hSw)
                  go_simp
                  try with_reducible rfl
                try simp only [Act.put, List.setIfInBounds_toArray, List.set_cons_zero, List.set_cons_succ]
                refine tkW (i := 15) (d := (some 44)) (oi := ?oi16) (v := ?v16) ?hi16 ?hd16 (by kernel_rfl) (by kernel_rfl) (by kernel_rfl) (fun _ _ _ h => h) ?hw16 (by assumption) ?hv16 ?h16
                case hi16 =>
                  simp only [List.getElem?_toArray, List.getElem?_cons_succ, List.getElem?_cons_zero]
                  exact rfl
                case hd16 => rfl
                case hw16 => rfl
                case hv16 =>
                  intro w hSw
                  (try dsimp only at hSw)
                  go_simp
                  try with_reducible rfl
                try simp only [Act.put, List.setIfInBounds_toArray, List.set_cons_zero, List.set_cons_succ]
                refine tkU (i := 16) (d := (some 45)) (oi := ?oi17) ?hi17 ?hd17 (by kernel_rfl) (by kernel_rfl) (by kernel_rfl) (fun _ _ _ h => h) ?hw17 (by assumption) ?h17
                case hi17 =>
                  simp only [List.getElem?_toArray, List.getElem?_cons_succ, List.getElem?_cons_zero]
                  exact rfl
                case hd17 => rfl
                case hw17 => rfl
                try simp only [Act.put, List.setIfInBounds_toArray, List.set_cons_zero, List.set_cons_succ]
                refine tkU (i := 17) (d := (some 46)) (oi := ?oi18) ?hi18 ?hd18 (by kernel_rfl) (by kernel_rfl) (by kernel_rfl) (fun _ _ _ h => h) ?hw18 (by assumption) ?h18
                case hi18 =>
                  simp only [List.getElem?_toArray, List.getElem?_cons_succ, List.getElem?_cons_zero]
                  exact rfl
                case hd18 => rfl
                case hw18 => rfl
                try simp only [Act.put, List.setIfInBounds_toArray, List.set_cons_zero, List.set_cons_succ]
                refine tkU (i := 18) (d := (some 47)) (oi := ?oi19) ?hi19 ?hd19 (by kernel_rfl) (by kernel_rfl) (by kernel_rfl) (fun _ _ _ h => h) ?hw19 (by assumption) ?h19
                case hi19 =>
                  simp only [List.getElem?_toArray, List.getElem?_cons_succ, List.getElem?_cons_zero]
                  exact rfl
                case hd19 => rfl
                case hw19 => rfl
                try simp only [Act.put, List.setIfInBounds_toArray, List.set_cons_zero, List.set_cons_succ]
                refine tkU (i := 19) (d := (some 48)) (oi := ?oi20) ?hi20 ?hd20 (by kernel_rfl) (by kernel_rfl) (by kernel_rfl) (fun _ _ _ h => h) ?hw20 (by assumption) ?h20
                case hi20 =>
                  simp only [List.getElem?_toArray, List.getElem?_cons_succ, List.getElem?_cons_zero]
                  exact rfl
                case hd20 => rfl
                case hw20 => rfl
                try simp only [Act.put, List.setIfInBounds_toArray, List.set_cons_zero, List.set_cons_succ]
                refine tkU (i := 20) (d := (some 49)) (oi := ?oi21) ?hi21 ?hd21 (by kernel_rfl) (by kernel_rfl) (by kernel_rfl) (fun _ _ _ h => h) ?hw21 (by assumption) ?h21
                case hi21 =>
                  simp only [List.getElem?_toArray, List.getElem?_cons_succ, List.getElem?_cons_zero]
                  exact rfl
                case hd21 => rfl
                case hw21 => rfl
                try simp only [Act.put, List.setIfInBounds_toArray, List.set_cons_zero, List.set_cons_succ]
                refine tkU (i := 21) (d := (some 50)) (oi := ?oi22) ?hi22 ?hd22 (by kernel_rfl) (by kernel_rfl) (by kernel_rfl) (fun _ _ _ h => h) ?hw22 (by assumption) ?h22
                case hi22 =>
                  simp only [List.getElem?_toArray, List.getElem?_cons_succ, List.getElem?_cons_zero]
                  exact rfl
                case hd22 => rfl
                case hw22 => rfl
                try simp only [Act.put, List.setIfInBounds_toArray, List.set_cons_zero, List.set_cons_succ]
                refine tkU (i := 22) (d := (some 51)) (oi := ?oi23) ?hi23 ?hd23 (by kernel_rfl) (by kernel_rfl) (by kernel_rfl) (fun _ _ _ h => h) ?hw23 (by assumption) ?h23
                case hi23 =>
                  simp only [List.getElem?_toArray, List.getElem?_cons_succ, List.getElem?_cons_zero]
                  exact rfl
                case hd23 => rfl
                case hw23 => rfl
                try simp only [Act.put, List.setIfInBounds_toArray, List.set_cons_zero, List.set_cons_succ]
                refine tkU (i := 23) (d := (some 52)) (oi := ?oi24) ?hi24 ?hd24 (by kernel_rfl) (by kernel_rfl) (by kernel_rfl) (fun _ _ _ h => h) ?hw24 (by assumption) ?h24
                case hi24 =>
                  simp only [List.getElem?_toArray, List.getElem?_cons_succ, List.getElem?_cons_zero]
                  exact rfl
                case hd24 => rfl
                case hw24 => rfl
                try simp only [Act.put, List.setIfInBounds_toArray, List.set_cons_zero, List.set_cons_succ]
                refine tkU (i := 24) (d := (some 53)) (oi := ?oi25) ?hi25 ?hd25 (by kernel_rfl) (by kernel_rfl) (by kernel_rfl) (fun _ _ _ h => h) ?hw25 (by assumption) ?h25
                case hi25 =>
                  simp only [List.getElem?_toArray, List.getElem?_cons_succ, List.getElem?_cons_zero]
                  exact rfl
                case hd25 => rfl
                case hw25 => rfl
                try simp only [Act.put, List.setIfInBounds_toArray, List.set_cons_zero, List.set_cons_succ]
                refine tkU (i := 25) (d := (some 54)) (oi := ?oi26) ?hi26 ?hd26 (by kernel_rfl) (by kernel_rfl) (by kernel_rfl) (fun _ _ _ h => h) ?hw26 (by assumption) ?h26
                case hi26 =>
                  simp only [List.getElem?_toArray, List.getElem?_cons_succ, List.getElem?_cons_zero]
                  exact rfl
                case hd26 => rfl
                case hw26 => rfl
                try simp only [Act.put, List.setIfInBounds_toArray, List.set_cons_zero, List.set_cons_succ]
                refine tkU (i := 26) (d := (some 55)) (oi := ?oi27) ?hi27 ?hd27 (by kernel_rfl) (by kernel_rfl) (by kernel_rfl) (fun _ _ _ h => h) ?hw27 (by assumption) ?h27
                case hi27 =>
                  simp only [List.getElem?_toArray, List.getElem?_cons_succ, List.getElem?_cons_zero]
                  exact rfl
                case hd27 => rfl
                case hw27 => rfl
                try simp only [Act.put, List.setIfInBounds_toArray, List.set_cons_zero, List.set_cons_succ]
                refine tkU (i := 27) (d := (some 56)) (oi := ?oi28) ?hi28 ?hd28 (by kernel_rfl) (by kernel_rfl) (by kernel_rfl) (fun _ _ _ h => h) ?hw28 (by assumption) ?h28
                case hi28 =>
                  simp only [List.getElem?_toArray, List.getElem?_cons_succ, List.getElem?_cons_zero]
                  exact rfl
                case hd28 => rfl
                case hw28 => rfl
                try simp only [Act.put, List.setIfInBounds_toArray, List.set_cons_zero, List.set_cons_succ]
                refine tkU (i := 28) (d := (some 57)) (oi := ?oi29) ?hi29 ?hd29 (by kernel_rfl) (by kernel_rfl) (by kernel_rfl) (fun _ _ _ h => h) ?hw29 (by assumption) ?h29
                case hi29 =>
                  simp only [List.getElem?_toArray, List.getElem?_cons_succ, List.getElem?_cons_zero]
                  exact rfl
                case hd29 => rfl
                case hw29 => rfl
                try simp only [Act.put, List.setIfInBounds_toArray, List.set_cons_zero, List.set_cons_succ]
                refine tkU (i := 29) (d := (some 58)) (oi := ?oi30) ?hi30 ?hd30 (by kernel_rfl) (by kernel_rfl) (by kernel_rfl) (fun _ _ _ h => h) ?hw30 (by assumption) ?h30
                case hi30 =>
                  simp only [List.getElem?_toArray, List.getElem?_cons_succ, List.getElem?_cons_zero]
                  exact rfl
                case hd30 => rfl
                case hw30 => rfl
                try simp only [Act.put, List.setIfInBounds_toArray, List.set_cons_zero, List.set_cons_succ]
                refine tkW (i := 30) (d := (some 59)) (oi := ?oi31) (v := ?v31) ?hi31 ?hd31 (by kernel_rfl) (by kernel_rfl) (by kernel_rfl) (fun _ _ _ h => h) ?hw31 (by assumption) ?hv31 ?h31
                case hi31 =>
                  simp only [List.getElem?_toArray, List.getElem?_cons_succ, List.getElem?_cons_zero]
                  exact rfl
                case hd31 => rfl
                case hw31 => rfl
                case hv31 =>
                  intro w hSw
                  (try dsimp only at hSw)
                  go_simp
                  try with_reducible rfl
                try simp only [Act.put, List.setIfInBounds_toArray, List.set_cons_zero, List.set_cons_succ]
                refine wpAnyH_done (by kernel_rfl) ?_ _
                go_wp2
                go_ret
                exact ⟨by rw [HF.out]; rfl, BW.out.trans (by (repeat first | with_reducible exact Bel.refl _ | with_reducible exact bz12 | with_reducible apply Bel.drew | with_reducible apply Bel.alloc))⟩
              · have HOK : Hid (OkAcc ⟨a0, a1, a2, a3⟩) := hid_ ⟨HZ2.out, HNB.out, fun _ => Z3.out, fun h => absurd CW.out h⟩
                rcases Nat.eq_zero_or_pos k with k0 | k0
                · have k1 : ¬ (0 : Int) < (k : Int) := by omega
                  have k2 : decide ((0 : Int) < (k : Int)) = false := decide_eq_false k1
                  have k3 : decide (0 < k) = false := decide_eq_false (by omega)
                  have HX : Hid (OkL (l.take (k + 1))) := hid_ (okL_step hx.out HO.out HOK.out (fun j y e _ => by omega))
                  have K0 := hid_ k0
                  clear hx HOK k0 k1
                  go_upto_region 7 with (fail)
                  generalize wr.alloc (.cells #[.string a0, .string a1, .int .i64 a2, .int .i64 a3] 37) = wb at K BW RA B1 ⊢
                  generalize wr.heap.size = gB at K ⊢
                  have hKP : ∀ W, Bel wb W → (fun W => Bel wb W ∧ W.cell? ⟨gB, 0, none⟩ = some (.string a0) ∧ W.cell? ⟨gB, 1, none⟩ = some (.string a1) ∧ W.cell? ⟨gB, 2, none⟩ = some (.int .i64 a2) ∧ W.cell? ⟨gB, 3, none⟩ = some (.int .i64 a3)) W := fun W b => ⟨b, b.cell_ (K.out.cell 0 rfl), b.cell_ (K.out.cell 1 rfl), b.cell_ (K.out.cell 2 rfl), b.cell_ (K.out.cell 3 rfl)⟩
                  have HKP := hid_ hKP
                  clear hKP
                  refine wp_region_held_drew (S := (fun W => Bel wb W ∧ W.cell? ⟨gB, 0, none⟩ = some (.string a0) ∧ W.cell? ⟨gB, 1, none⟩ = some (.string a1) ∧ W.cell? ⟨gB, 2, none⟩ = some (.int .i64 a2) ∧ W.cell? ⟨gB, 3, none⟩ = some (.int .i64 a3))) (by kernel_rfl) (by (refine HKP.out _ ?_; (repeat first | with_reducible exact Bel.refl _ | with_reducible exact bz12 | with_reducible apply Bel.drew | with_reducible apply Bel.alloc))) (fun hHeld => ?_)
                  refine tkW (i := 0) (d := (some 29)) (oi := ?oi32) (v := ?v32) ?hi32 ?hd32 (by kernel_rfl) (by kernel_rfl) (by kernel_rfl) (fun _ _ _ h => h) ?hw32 (by assumption) ?hv32 ?h32
                  case hi32 =>
                    simp only [List.getElem?_toArray, List.getElem?_cons_succ, List.getElem?_cons_zero]
                    exact rfl
                  case hd32 => rfl
                  case hw32 => rfl
                  case hv32 =>
                    intro w hSw
                    (try dsimp only at hSw)
                    go_simp
                    try with_reducible rfl
                  try simp only [Act.put, List.setIfInBounds_toArray, List.set_cons_zero, List.set_cons_succ]
                  refine tkW (i := 1) (d := (some 30)) (oi := ?oi33) (v := ?v33) ?hi33 ?hd33 (by kernel_rfl) (by kernel_rfl) (by kernel_rfl) (fun _ _ _ h => h) ?hw33 (by assumption) ?hv33 ?h33
                  case hi33 =>
                    simp only [List.getElem?_toArray, List.getElem?_cons_succ, List.getElem?_cons_zero]
                    exact rfl
                  case hd33 => rfl
                  case hw33 => rfl
                  case hv33 =>
                    intro w hSw
                    (try dsimp only at hSw)
                    go_simp
                    try with_reducible rfl
                  try simp only [Act.put, List.setIfInBounds_toArray, List.set_cons_zero, List.set_cons_succ]
                  refine tkW (i := 2) (d := (some 31)) (oi := ?oi34) (v := ?v34) ?hi34 ?hd34 (by kernel_rfl) (by kernel_rfl) (by kernel_rfl) (fun _ _ _ h => h) ?hw34 (by assumption) ?hv34 ?h34
                  case hi34 =>
                    simp only [List.getElem?_toArray, List.getElem?_cons_succ, List.getElem?_cons_zero]
                    exact rfl
                  case hd34 => rfl
                  case hw34 => rfl
                  case hv34 =>
                    intro w hSw
                    (try dsimp only at hSw)
                    go_simp
                    try with_reducible rfl
                  try simp only [Act.put, List.setIfInBounds_toArray, List.set_cons_zero, List.set_cons_succ]
                  refine tkW (i := 3) (d := (some 32)) (oi := ?oi35) (v := ?v35) ?hi35 ?hd35 (by kernel_rfl) (by kernel_rfl) (by kernel_rfl) (fun _ _ _ h => h) ?hw35 (by assumption) ?hv35 ?h35
                  case hi35 =>
                    simp only [List.getElem?_toArray, List.getElem?_cons_succ, List.getElem?_cons_zero]
                    exact rfl
                  case hd35 => rfl
                  case hw35 => rfl
                  case hv35 =>
                    intro w hSw
                    (try dsimp only at hSw)
                    go_simp
                    try with_reducible rfl
                  try simp only [Act.put, List.setIfInBounds_toArray, List.set_cons_zero, List.set_cons_succ]
                  refine tkW (i := 4) (d := (some 33)) (oi := ?oi36) (v := ?v36) ?hi36 ?hd36 (by kernel_rfl) (by kernel_rfl) (by kernel_rfl) (fun _ _ _ h => h) ?hw36 (by assumption) ?hv36 ?h36
                  case hi36 =>
                    simp only [List.getElem?_toArray, List.getElem?_cons_succ, List.getElem?_cons_zero]
                    exact rfl
                  case hd36 => rfl
                  case hw36 => rfl
                  case hv36 =>
                    intro w hSw
                    (try dsimp only at hSw)
                    go_simp
                    try with_reducible rfl
                  try simp only [Act.put, List.setIfInBounds_toArray, List.set_cons_zero, List.set_cons_succ]
                  refine tkW (i := 5) (d := (some 34)) (oi := ?oi37) (v := ?v37) ?hi37 ?hd37 (by kernel_rfl) (by kernel_rfl) (by kernel_rfl) (fun _ _ _ h => h) ?hw37 (by assumption) ?hv37 ?h37
                  case hi37 =>
                    simp only [List.getElem?_toArray, List.getElem?_cons_succ, List.getElem?_cons_zero]
                    exact rfl
                  case hd37 => rfl
                  case hw37 => rfl
                  case hv37 =>
                    intro w hSw
                    (try dsimp only at hSw)
                    go_simp
                    try with_reducible rfl
                  try simp only [Act.put, List.setIfInBounds_toArray, List.set_cons_zero, List.set_cons_succ]
                  refine tkW (i := 6) (d := (some 35)) (oi := ?oi38) (v := ?v38) ?hi38 ?hd38 (by kernel_rfl) (by kernel_rfl) (by kernel_rfl) (fun _ _ _ h => h) ?hw38 (by assumption) ?hv38 ?h38
                  case hi38 =>
                    simp only [List.getElem?_toArray, List.getElem?_cons_succ, List.getElem?_cons_zero]
                    exact rfl
                  case hd38 => rfl
                  case hw38 => rfl
                  case hv38 =>
                    intro w hSw
                    (try dsimp only at hSw)
                    go_simp
                    try with_reducible rfl
                  try simp only [Act.put, List.setIfInBounds_toArray, List.set_cons_zero, List.set_cons_succ]
                  refine tkW (i := 7) (d := (some 36)) (oi := ?oi39) (v := ?v39) ?hi39 ?hd39 (by kernel_rfl) (by kernel_rfl) (by kernel_rfl) (fun _ _ _ h => h) ?hw39 (by assumption) ?hv39 ?h39
                  case hi39 =>
                    simp only [List.getElem?_toArray, List.getElem?_cons_succ, List.getElem?_cons_zero]
                    exact rfl
                  case hd39 => rfl
                  case hw39 => rfl
                  case hv39 =>
                    intro w hSw
                    (try dsimp only at hSw)
                    go_simp
                    try with_reducible rfl
                  try simp only [Act.put, List.setIfInBounds_toArray, List.set_cons_zero, List.set_cons_succ]
                  refine tkW (i := 8) (d := (some 37)) (oi := ?oi40) (v := ?v40) ?hi40 ?hd40 (by kernel_rfl) (by kernel_rfl) (by kernel_rfl) (fun _ _ _ h => h) ?hw40 (by assumption) ?hv40 ?h40
                  case hi40 =>
                    simp only [List.getElem?_toArray, List.getElem?_cons_succ, List.getElem?_cons_zero]
                    exact rfl
                  case hd40 => rfl
                  case hw40 => rfl
                  case hv40 =>
                    intro w hSw
                    (try dsimp only at hSw)
                    go_simp
                    try with_reducible rfl
                  try simp only [Act.put, List.setIfInBounds_toArray, List.set_cons_zero, List.set_cons_succ]
                  refine tkW (i := 9) (d := (some 38)) (oi := ?oi41) (v := ?v41) ?hi41 ?hd41 (by kernel_rfl) (by kernel_rfl) (by kernel_rfl) (fun _ _ _ h => h) ?hw41 (by assumption) ?hv41 ?h41
                  case hi41 =>
                    simp only [List.getElem?_toArray, List.getElem?_cons_succ, List.getElem?_cons_zero]
                    exact rfl
                  case hd41 => rfl
                  case hw41 => rfl
                  case hv41 =>
                    intro w hSw
                    (try dsimp only at hSw)
                    go_simp
                    try with_reducible rfl
                  try simp only [Act.put, List.setIfInBounds_toArray, List.set_cons_zero, List.set_cons_succ]
                  refine tkW (i := 10) (d := (some 39)) (oi := ?oi42) (v := ?v42) ?hi42 ?hd42 (by kernel_rfl) (by kernel_rfl) (by kernel_rfl) (fun _ _ _ h => h) ?hw42 (by assumption) ?hv42 ?h42
                  case hi42 =>
                    simp only [List.getElem?_toArray, List.getElem?_cons_succ, List.getElem?_cons_zero]
                    exact rfl
                  case hd42 => rfl
                  case hw42 => rfl
                  case hv42 =>
                    intro w hSw
                    (try dsimp only at hSw)
                    go_simp
                    try with_reducible rfl
                  try simp only [Act.put, List.setIfInBounds_toArray, List.set_cons_zero, List.set_cons_succ]
                  refine tkW (i := 11) (d := (some 40)) (oi := ?oi43) (v := ?v43) ?hi43 ?hd43 (by kernel_rfl) (by kernel_rfl) (by kernel_rfl) (fun _ _ _ h => h) ?hw43 (by assumption) ?hv43 ?h43
                  case hi43 =>
                    simp only [List.getElem?_toArray, List.getElem?_cons_succ, List.getElem?_cons_zero]
                    exact rfl
                  case hd43 => rfl
                  case hw43 => rfl
                  case hv43 =>
                    intro w hSw
                    (try dsimp only at hSw)
                    go_simp
                    try with_reducible rfl
                  try simp only [Act.put, List.setIfInBounds_toArray, List.set_cons_zero, List.set_cons_succ]
                  refine wpAnyH_ready (rs := [12]) (by kernel_rfl) (by simp) ?_
                  refine AllReadyH.cons (o := ?oi44) ?hi44 (fun K hK => ?hk44) AllReadyH.nil
                  case hi44 =>
                    simp only [List.getElem?_toArray, List.getElem?_cons_succ, List.getElem?_cons_zero]
                    exact rfl
                  go_simp
                  refine' Calls.mono (names_any a0 a1 _ SZ.out.1 SZ.out.2) ?_
                  rintro e w9 ⟨rfl, b9⟩
                  have bz12 : Bel wb w9 := Bel.trans (by (repeat first | with_reducible exact Bel.refl _ | with_reducible exact bz12 | with_reducible apply Bel.drew | with_reducible apply Bel.alloc)) b9
                  rw [HNB.out]
                  go_wp2_with fail
                  refine hK.out _ _ ?_ (fun hHeld => ?_)
                  · (refine HKP.out _ ?_; (repeat first | with_reducible exact Bel.refl _ | with_reducible exact bz12 | with_reducible apply Bel.drew | with_reducible apply Bel.alloc))
                  clear hK K
                  try simp only [Act.put, List.setIfInBounds_toArray, List.set_cons_zero, List.set_cons_succ]
                  refine tkW (i := 13) (d := (some 42)) (oi := ?oi45) (v := ?v45) ?hi45 ?hd45 (by kernel_rfl) (by kernel_rfl) (by kernel_rfl) (fun _ _ _ h => h) ?hw45 (by assumption) ?hv45 ?h45
                  case hi45 =>
                    simp only [List.getElem?_toArray, List.getElem?_cons_succ, List.getElem?_cons_zero]
                    exact rfl
                  case hd45 => rfl
                  case hw45 => rfl
                  case hv45 =>
                    intro w hSw
                    (try dsimp only at hSw)
                    go_simp
                    try with_reducible rfl
                  try simp only [Act.put, List.setIfInBounds_toArray, List.set_cons_zero, List.set_cons_succ]
                  refine tkW (i := 14) (d := (some 43)) (oi := ?oi46) (v := ?v46) ?hi46 ?hd46 (by kernel_rfl) (by kernel_rfl) (by kernel_rfl) (fun _ _ _ h => h) ?hw46 (by assumption) ?hv46 ?h46
                  case hi46 =>
                    simp only [List.getElem?_toArray, List.getElem?_cons_succ, List.getElem?_cons_zero]
                    exact rfl
                  case hd46 => rfl
                  case hw46 => rfl
                  case hv46 =>
                    intro w hSw
                    (try dsimp only at hSw)
                    go_simp
                    try with_reducible rfl
                  try simp only [Act.put, List.setIfInBounds_toArray, List.set_cons_zero, List.set_cons_succ]
                  refine tkW (i := 15) (d := (some 44)) (oi := ?oi47) (v := ?v47) ?hi47 ?hd47 (by kernel_rfl) (by kernel_rfl) (by kernel_rfl) (fun _ _ _ h => h) ?hw47 (by assumption) ?hv47 ?h47
                  case hi47 =>
                    simp only [List.getElem?_toArray, List.getElem?_cons_succ, List.getElem?_cons_zero]
                    exact rfl
                  case hd47 => rfl
                  case hw47 => rfl
                  case hv47 =>
                    intro w hSw
                    (try dsimp only at hSw)
                    go_simp
                    try with_reducible rfl
                  try simp only [Act.put, List.setIfInBounds_toArray, List.set_cons_zero, List.set_cons_succ]
                  refine tkW (i := 16) (d := (some 45)) (oi := ?oi48) (v := ?v48) ?hi48 ?hd48 (by kernel_rfl) (by kernel_rfl) (by kernel_rfl) (fun _ _ _ h => h) ?hw48 (by assumption) ?hv48 ?h48
                  case hi48 =>
                    simp only [List.getElem?_toArray, List.getElem?_cons_succ, List.getElem?_cons_zero]
                    exact rfl
                  case hd48 => rfl
                  case hw48 => rfl
                  case hv48 =>
                    intro w hSw
                    (try dsimp only at hSw)
                    go_simp
                    try with_reducible rfl
                  try simp only [Act.put, List.setIfInBounds_toArray, List.set_cons_zero, List.set_cons_succ]
                  refine tkW (i := 17) (d := (some 46)) (oi := ?oi49) (v := ?v49) ?hi49 ?hd49 (by kernel_rfl) (by kernel_rfl) (by kernel_rfl) (fun _ _ _ h => h) ?hw49 (by assumption) ?hv49 ?h49
                  case hi49 =>
                    simp only [List.getElem?_toArray, List.getElem?_cons_succ, List.getElem?_cons_zero]
                    exact rfl
                  case hd49 => rfl
                  case hw49 => rfl
                  case hv49 =>
                    intro w hSw
                    (try dsimp only at hSw)
                    go_simp
                    try with_reducible rfl
                  try simp only [Act.put, List.setIfInBounds_toArray, List.set_cons_zero, List.set_cons_succ]
                  refine tkW (i := 18) (d := (some 47)) (oi := ?oi50) (v := ?v50) ?hi50 ?hd50 (by kernel_rfl) (by kernel_rfl) (by kernel_rfl) (fun _ _ _ h => h) ?hw50 (by assumption) ?hv50 ?h50
                  case hi50 =>
                    simp only [List.getElem?_toArray, List.getElem?_cons_succ, List.getElem?_cons_zero]
                    exact rfl
                  case hd50 => rfl
                  case hw50 => rfl
                  case hv50 =>
                    intro w hSw
                    (try dsimp only at hSw)
                    go_simp
                    try with_reducible rfl
                  try simp only [Act.put, List.setIfInBounds_toArray, List.set_cons_zero, List.set_cons_succ]
                  refine tkU (i := 19) (d := (some 48)) (oi := ?oi51) ?hi51 ?hd51 (by kernel_rfl) (by kernel_rfl) (by kernel_rfl) (fun _ _ _ h => h) ?hw51 (by assumption) ?h51
                  case hi51 =>
                    simp only [List.getElem?_toArray, List.getElem?_cons_succ, List.getElem?_cons_zero]
                    exact rfl
                  case hd51 => rfl
                  case hw51 => rfl
                  try simp only [Act.put, List.setIfInBounds_toArray, List.set_cons_zero, List.set_cons_succ]
                  refine tkU (i := 20) (d := (some 49)) (oi := ?oi52) ?hi52 ?hd52 (by kernel_rfl) (by kernel_rfl) (by kernel_rfl) (fun _ _ _ h => h) ?hw52 (by assumption) ?h52
                  case hi52 =>
                    simp only [List.getElem?_toArray, List.getElem?_cons_succ, List.getElem?_cons_zero]
                    exact rfl
                  case hd52 => rfl
                  case hw52 => rfl
                  try simp only [Act.put, List.setIfInBounds_toArray, List.set_cons_zero, List.set_cons_succ]
                  refine tkU (i := 21) (d := (some 50)) (oi := ?oi53) ?hi53 ?hd53 (by kernel_rfl) (by kernel_rfl) (by kernel_rfl) (fun _ _ _ h => h) ?hw53 (by assumption) ?h53
                  case hi53 =>
                    simp only [List.getElem?_toArray, List.getElem?_cons_succ, List.getElem?_cons_zero]
                    exact rfl
                  case hd53 => rfl
                  case hw53 => rfl
                  try simp only [Act.put, List.setIfInBounds_toArray, List.set_cons_zero, List.set_cons_succ]
                  refine tkU (i := 22) (d := (some 51)) (oi := ?oi54) ?hi54 ?hd54 (by kernel_rfl) (by kernel_rfl) (by kernel_rfl) (fun _ _ _ h => h) ?hw54 (by assumption) ?h54
                  case hi54 =>
                    simp only [List.getElem?_toArray, List.getElem?_cons_succ, List.getElem?_cons_zero]
                    exact rfl
                  case hd54 => rfl
                  case hw54 => rfl
                  try simp only [Act.put, List.setIfInBounds_toArray, List.set_cons_zero, List.set_cons_succ]
                  refine tkU (i := 23) (d := (some 52)) (oi := ?oi55) ?hi55 ?hd55 (by kernel_rfl) (by kernel_rfl) (by kernel_rfl) (fun _ _ _ h => h) ?hw55 (by assumption) ?h55
                  case hi55 =>
                    simp only [List.getElem?_toArray, List.getElem?_cons_succ, List.getElem?_cons_zero]
                    exact rfl
                  case hd55 => rfl
                  case hw55 => rfl
                  try simp only [Act.put, List.setIfInBounds_toArray, List.set_cons_zero, List.set_cons_succ]
                  refine tkU (i := 24) (d := (some 53)) (oi := ?oi56) ?hi56 ?hd56 (by kernel_rfl) (by kernel_rfl) (by kernel_rfl) (fun _ _ _ h => h) ?hw56 (by assumption) ?h56
                  case hi56 =>
                    simp only [List.getElem?_toArray, List.getElem?_cons_succ, List.getElem?_cons_zero]
                    exact rfl
                  case hd56 => rfl
                  case hw56 => rfl
                  try simp only [Act.put, List.setIfInBounds_toArray, List.set_cons_zero, List.set_cons_succ]
                  refine tkU (i := 25) (d := (some 54)) (oi := ?oi57) ?hi57 ?hd57 (by kernel_rfl) (by kernel_rfl) (by kernel_rfl) (fun _ _ _ h => h) ?hw57 (by assumption) ?h57
                  case hi57 =>
                    simp only [List.getElem?_toArray, List.getElem?_cons_succ, List.getElem?_cons_zero]
                    exact rfl
                  case hd57 => rfl
                  case hw57 => rfl
                  try simp only [Act.put, List.setIfInBounds_toArray, List.set_cons_zero, List.set_cons_succ]
                  refine tkU (i := 26) (d := (some 55)) (oi := ?oi58) ?hi58 ?hd58 (by kernel_rfl) (by kernel_rfl) (by kernel_rfl) (fun _ _ _ h => h) ?hw58 (by assumption) ?h58
                  case hi58 =>
                    simp only [List.getElem?_toArray, List.getElem?_cons_succ, List.getElem?_cons_zero]
                    exact rfl
                  case hd58 => rfl
                  case hw58 => rfl
                  try simp only [Act.put, List.setIfInBounds_toArray, List.set_cons_zero, List.set_cons_succ]
                  refine tkU (i := 27) (d := (some 56)) (oi := ?oi59) ?hi59 ?hd59 (by kernel_rfl) (by kernel_rfl) (by kernel_rfl) (fun _ _ _ h => h) ?hw59 (by assumption) ?h59
                  case hi59 =>
                    simp only [List.getElem?_toArray, List.getElem?_cons_succ, List.getElem?_cons_zero]
                    exact rfl
                  case hd59 => rfl
                  case hw59 => rfl
                  try simp only [Act.put, List.setIfInBounds_toArray, List.set_cons_zero, List.set_cons_succ]
                  refine tkU (i := 28) (d := (some 57)) (oi := ?oi60) ?hi60 ?hd60 (by kernel_rfl) (by kernel_rfl) (by kernel_rfl) (fun _ _ _ h => h) ?hw60 (by assumption) ?h60
                  case hi60 =>
                    simp only [List.getElem?_toArray, List.getElem?_cons_succ, List.getElem?_cons_zero]
                    exact rfl
                  case hd60 => rfl
                  case hw60 => rfl
                  try simp only [Act.put, List.setIfInBounds_toArray, List.set_cons_zero, List.set_cons_succ]
                  refine tkW (i := 29) (d := (some 58)) (oi := ?oi61) (v := ?v61) ?hi61 ?hd61 (by kernel_rfl) (by kernel_rfl) (by kernel_rfl) (fun _ _ _ h => h) ?hw61 (by assumption) ?hv61 ?h61
                  case hi61 =>
                    simp only [List.getElem?_toArray, List.getElem?_cons_succ, List.getElem?_cons_zero]
                    exact rfl
                  case hd61 => rfl
                  case hw61 => rfl
                  case hv61 =>
                    intro w hSw
                    (try dsimp only at hSw)
                    go_simp
                    try with_reducible rfl
                  try simp only [Act.put, List.setIfInBounds_toArray, List.set_cons_zero, List.set_cons_succ]
                  refine tkW (i := 30) (d := (some 59)) (oi := ?oi62) (v := ?v62) ?hi62 ?hd62 (by kernel_rfl) (by kernel_rfl) (by kernel_rfl) (fun _ _ _ h => h) ?hw62 (by assumption) ?hv62 ?h62
                  case hi62 =>
                    simp only [List.getElem?_toArray, List.getElem?_cons_succ, List.getElem?_cons_zero]
                    exact rfl
                  case hd62 => rfl
                  case hw62 => rfl
                  case hv62 =>
                    intro w hSw
                    (try dsimp only at hSw)
                    go_simp
                    try with_reducible rfl
                  try simp only [Act.put, List.setIfInBounds_toArray, List.set_cons_zero, List.set_cons_succ]
                  refine wpAnyH_done (by kernel_rfl) ?_ _
                  go_wp2
                  case roundEnd =>
                    go_roundw
                    case rel => exact ⟨k + 1, by omega, by go_num, HX, BW.out.trans (by (repeat first | with_reducible exact Bel.refl _ | with_reducible exact bz12 | with_reducible apply Bel.drew | with_reducible apply Bel.alloc))⟩
                    case measure => simp [intOf]; omega
                · obtain ⟨j, rfl⟩ : ∃ j, k = j + 1 := ⟨k - 1, by omega⟩
                  have hj : j < n := by omega
                  obtain ⟨ad', y0, y1, y2, y3, e', hy, d0, d1, d2, d3⟩ := RA.out.acc hj
                  cases e'
                  have HY := hid_ hy
                  have RD := hid_ (And.intro d0 (And.intro d1 (And.intro d2 d3)))
                  clear hy d0 d1 d2 d3
                  obtain ⟨d0, d1, d2, d3⟩ := D0.out
                  obtain ⟨r, hr⟩ : ∃ r, cmpP ⟨y0, y1⟩ ⟨a0, a1⟩ = r := ⟨_, rfl⟩
                  have HR := hid_ hr
                  clear hr
                  have k1 : (0 : Int) < ((j + 1 : Nat) : Int) := by omega
                  have ew : IntKind.i64.wrap (((j + 1 : Nat) : Int) - 1) = (j : Int) := by rw [IntWalk.i64_left]; unfold wrap64; omega
                  have ew1 : IntKind.i64.wrap ((j : Int) + 1 - 1) = (j : Int) := by rw [IntWalk.i64_left]; unfold wrap64; omega
                  have ew2 : (j : Int) + 1 - 1 = (j : Int) := by omega
                  have ew3 : IntKind.i64.wrap (j : Int) = (j : Int) := by rw [IntWalk.i64_left]; unfold wrap64; omega
                  have j0 : (0 : Int) ≤ (j : Int) := by omega
                  have j1 : (j : Int) < (n : Int) := by omega
                  have JN := hid_ hkn
                  clear k0
                  by_cases hr : 0 ≤ r
                  · have HF : Hid (re = 110) := hid_ (by rw [← HRE.out]; exact okL_bad2 HO.out HY.out (cmpP_ge.1 (by rw [show cmpP (Acc.plc ⟨y0, y1, y2, y3⟩) (Acc.plc ⟨a0, a1, a2, a3⟩) = r from HR.out]; exact hr)))
                    clear hx HRE
                    go_upto_region 7 with (fail)
                    generalize wr.alloc (.cells #[.string a0, .string a1, .int .i64 a2, .int .i64 a3] 37) = wb at K BW RA B1 RD ⊢
                    generalize wr.heap.size = gB at K ⊢
                    have hKP : ∀ W, Bel wb W → (fun W => Bel wb W ∧ W.cell? ⟨gB, 0, none⟩ = some (.string a0) ∧ W.cell? ⟨gB, 1, none⟩ = some (.string a1) ∧ W.cell? ⟨gB, 2, none⟩ = some (.int .i64 a2) ∧ W.cell? ⟨gB, 3, none⟩ = some (.int .i64 a3) ∧ W.cell? (ad.add (j * 4)) = some (.string y0) ∧ W.cell? ⟨(ad.add (j * 4)).block, (ad.add (j * 4)).off + 1, none⟩ = some (.string y1) ∧ W.cell? ⟨(ad.add (j * 4)).block, (ad.add (j * 4)).off + 2, none⟩ = some (.int .i64 y2) ∧ W.cell? ⟨(ad.add (j * 4)).block, (ad.add (j * 4)).off + 3, none⟩ = some (.int .i64 y3)) W := fun W b => ⟨b, b.cell_ (K.out.cell 0 rfl), b.cell_ (K.out.cell 1 rfl), b.cell_ (K.out.cell 2 rfl), b.cell_ (K.out.cell 3 rfl), b.cell_ RD.out.1, b.cell_ RD.out.2.1, b.cell_ RD.out.2.2.1, b.cell_ RD.out.2.2.2⟩
                    have HKP := hid_ hKP
                    clear hKP
                    go_region_held3 (fun W => Bel wb W ∧ W.cell? ⟨gB, 0, none⟩ = some (.string a0) ∧ W.cell? ⟨gB, 1, none⟩ = some (.string a1) ∧ W.cell? ⟨gB, 2, none⟩ = some (.int .i64 a2) ∧ W.cell? ⟨gB, 3, none⟩ = some (.int .i64 a3) ∧ W.cell? (ad.add (j * 4)) = some (.string y0) ∧ W.cell? ⟨(ad.add (j * 4)).block, (ad.add (j * 4)).off + 1, none⟩ = some (.string y1) ∧ W.cell? ⟨(ad.add (j * 4)).block, (ad.add (j * 4)).off + 2, none⟩ = some (.int .i64 y2) ∧ W.cell? ⟨(ad.add (j * 4)).block, (ad.add (j * 4)).off + 3, none⟩ = some (.int .i64 y3)) ((refine HKP.out _ ?_; (repeat first | with_reducible exact Bel.refl _ | with_reducible exact bz0 | with_reducible exact bz1 | with_reducible exact bz2 | with_reducible exact bz3 | with_reducible apply Bel.drew | with_reducible apply Bel.alloc)))
                      (first
                        | (go_at_call 32; refine' Calls.mono (names_any a0 a1 _ SZ.out.1 SZ.out.2) ?_; rintro e w9 ⟨rfl, b9⟩; have bz0 : Bel wb w9 := Bel.trans (by (repeat first | with_reducible exact Bel.refl _ | with_reducible exact bz0 | with_reducible exact bz1 | with_reducible exact bz2 | with_reducible exact bz3 | with_reducible apply Bel.drew | with_reducible apply Bel.alloc)) b9; rw [HNB.out])
                        | (go_at_call 34; refine' Calls.mono (of_acc y0 y1 y2 y3 _) ?_; rintro e w9 ⟨rfl, b9⟩; have bz1 : Bel wb w9 := Bel.trans (by (repeat first | with_reducible exact Bel.refl _ | with_reducible exact bz0 | with_reducible exact bz1 | with_reducible exact bz2 | with_reducible exact bz3 | with_reducible apply Bel.drew | with_reducible apply Bel.alloc)) b9)
                        | (go_at_call 34; refine' Calls.mono (of_acc a0 a1 a2 a3 _) ?_; rintro e w9 ⟨rfl, b9⟩; have bz2 : Bel wb w9 := Bel.trans (by (repeat first | with_reducible exact Bel.refl _ | with_reducible exact bz0 | with_reducible exact bz1 | with_reducible exact bz2 | with_reducible exact bz3 | with_reducible apply Bel.drew | with_reducible apply Bel.alloc)) b9)
                        | (go_at_call 33; refine' Calls.mono (order_any y0 y1 a0 a1 _) ?_; rintro e w9 ⟨rfl, b9⟩; have bz3 : Bel wb w9 := Bel.trans (by (repeat first | with_reducible exact Bel.refl _ | with_reducible exact bz0 | with_reducible exact bz1 | with_reducible exact bz2 | with_reducible exact bz3 | with_reducible apply Bel.drew | with_reducible apply Bel.alloc)) b9; rw [HR.out]))
                    clear HKP
                    go_wp2
                    go_ret
                    exact ⟨by rw [HF.out]; rfl, BW.out.trans (by (repeat first | with_reducible exact Bel.refl _ | with_reducible exact bz0 | with_reducible exact bz1 | with_reducible exact bz2 | with_reducible exact bz3 | with_reducible apply Bel.drew | with_reducible apply Bel.alloc))⟩
                  · have HX : Hid (OkL (l.take (j + 1 + 1))) := hid_ (okL_step hx.out HO.out HOK.out (fun i y e h => by obtain rfl : i = j := (Nat.succ.inj e).symm; rw [HY.out] at h; cases h; exact cmpP_neg.1 (by rw [show cmpP (Acc.plc ⟨y0, y1, y2, y3⟩) (Acc.plc ⟨a0, a1, a2, a3⟩) = r from HR.out]; omega)))
                    clear hx HOK
                    go_upto_region 7 with (fail)
                    generalize wr.alloc (.cells #[.string a0, .string a1, .int .i64 a2, .int .i64 a3] 37) = wb at K BW RA B1 RD ⊢
                    generalize wr.heap.size = gB at K ⊢
                    have hKP : ∀ W, Bel wb W → (fun W => Bel wb W ∧ W.cell? ⟨gB, 0, none⟩ = some (.string a0) ∧ W.cell? ⟨gB, 1, none⟩ = some (.string a1) ∧ W.cell? ⟨gB, 2, none⟩ = some (.int .i64 a2) ∧ W.cell? ⟨gB, 3, none⟩ = some (.int .i64 a3) ∧ W.cell? (ad.add (j * 4)) = some (.string y0) ∧ W.cell? ⟨(ad.add (j * 4)).block, (ad.add (j * 4)).off + 1, none⟩ = some (.string y1) ∧ W.cell? ⟨(ad.add (j * 4)).block, (ad.add (j * 4)).off + 2, none⟩ = some (.int .i64 y2) ∧ W.cell? ⟨(ad.add (j * 4)).block, (ad.add (j * 4)).off + 3, none⟩ = some (.int .i64 y3)) W := fun W b => ⟨b, b.cell_ (K.out.cell 0 rfl), b.cell_ (K.out.cell 1 rfl), b.cell_ (K.out.cell 2 rfl), b.cell_ (K.out.cell 3 rfl), b.cell_ RD.out.1, b.cell_ RD.out.2.1, b.cell_ RD.out.2.2.1, b.cell_ RD.out.2.2.2⟩
                    have HKP := hid_ hKP
                    clear hKP
                    go_region_held3 (fun W => Bel wb W ∧ W.cell? ⟨gB, 0, none⟩ = some (.string a0) ∧ W.cell? ⟨gB, 1, none⟩ = some (.string a1) ∧ W.cell? ⟨gB, 2, none⟩ = some (.int .i64 a2) ∧ W.cell? ⟨gB, 3, none⟩ = some (.int .i64 a3) ∧ W.cell? (ad.add (j * 4)) = some (.string y0) ∧ W.cell? ⟨(ad.add (j * 4)).block, (ad.add (j * 4)).off + 1, none⟩ = some (.string y1) ∧ W.cell? ⟨(ad.add (j * 4)).block, (ad.add (j * 4)).off + 2, none⟩ = some (.int .i64 y2) ∧ W.cell? ⟨(ad.add (j * 4)).block, (ad.add (j * 4)).off + 3, none⟩ = some (.int .i64 y3)) ((refine HKP.out _ ?_; (repeat first | with_reducible exact Bel.refl _ | with_reducible exact bz0 | with_reducible exact bz1 | with_reducible exact bz2 | with_reducible exact bz3 | with_reducible apply Bel.drew | with_reducible apply Bel.alloc)))
                      (first
                        | (go_at_call 32; refine' Calls.mono (names_any a0 a1 _ SZ.out.1 SZ.out.2) ?_; rintro e w9 ⟨rfl, b9⟩; have bz0 : Bel wb w9 := Bel.trans (by (repeat first | with_reducible exact Bel.refl _ | with_reducible exact bz0 | with_reducible exact bz1 | with_reducible exact bz2 | with_reducible exact bz3 | with_reducible apply Bel.drew | with_reducible apply Bel.alloc)) b9; rw [HNB.out])
                        | (go_at_call 34; refine' Calls.mono (of_acc y0 y1 y2 y3 _) ?_; rintro e w9 ⟨rfl, b9⟩; have bz1 : Bel wb w9 := Bel.trans (by (repeat first | with_reducible exact Bel.refl _ | with_reducible exact bz0 | with_reducible exact bz1 | with_reducible exact bz2 | with_reducible exact bz3 | with_reducible apply Bel.drew | with_reducible apply Bel.alloc)) b9)
                        | (go_at_call 34; refine' Calls.mono (of_acc a0 a1 a2 a3 _) ?_; rintro e w9 ⟨rfl, b9⟩; have bz2 : Bel wb w9 := Bel.trans (by (repeat first | with_reducible exact Bel.refl _ | with_reducible exact bz0 | with_reducible exact bz1 | with_reducible exact bz2 | with_reducible exact bz3 | with_reducible apply Bel.drew | with_reducible apply Bel.alloc)) b9)
                        | (go_at_call 33; refine' Calls.mono (order_any y0 y1 a0 a1 _) ?_; rintro e w9 ⟨rfl, b9⟩; have bz3 : Bel wb w9 := Bel.trans (by (repeat first | with_reducible exact Bel.refl _ | with_reducible exact bz0 | with_reducible exact bz1 | with_reducible exact bz2 | with_reducible exact bz3 | with_reducible apply Bel.drew | with_reducible apply Bel.alloc)) b9; rw [HR.out]))
                    clear HKP
                    go_wp2
                    case roundEnd =>
                      go_roundw
                      case rel => exact ⟨j + 1 + 1, JN.out, by go_num, HX, BW.out.trans (by (repeat first | with_reducible exact Bel.refl _ | with_reducible exact bz0 | with_reducible exact bz1 | with_reducible exact bz2 | with_reducible exact bz3 | with_reducible apply Bel.drew | with_reducible apply Bel.alloc))⟩
                      case measure => simp [intOf]; omega
          · have q3 : (a3 == 0) = false := by simp [z3]
            have HF : Hid (re = 110) := hid_ (by rw [← HRE.out]; exact okL_bad1 HO.out (fun h => z3 (h.world CW.out)))
            clear hx HRE z3
            go_upto_region 7 with (fail)
            generalize wr.alloc (.cells #[.string a0, .string a1, .int .i64 a2, .int .i64 a3] 37) = wb at K BW RA B1 ⊢
            generalize wr.heap.size = gB at K ⊢
            have z0 := K.out.cell 0 rfl
            have z1 := K.out.cell 1 rfl
            have z2c := K.out.cell 2 rfl
            have z3c := K.out.cell 3 rfl
            go_quiet (fail)
            go_wp2
            go_ret
            exact ⟨by rw [HF.out]; rfl, BW.out.drewN _⟩
        · have q3 : (a3 == 0) = false := by simp; omega
          have HF : Hid (re = 110) := hid_ (by rw [← HRE.out]; exact okL_bad1 HO.out (fun h => by have := h.world CW.out; simp only at this; omega))
          clear hx HRE
          go_upto_region 7 with (fail)
          generalize wr.alloc (.cells #[.string a0, .string a1, .int .i64 a2, .int .i64 a3] 37) = wb at K BW RA B1 ⊢
          generalize wr.heap.size = gB at K ⊢
          have z0 := K.out.cell 0 rfl
          have z1 := K.out.cell 1 rfl
          have z2c := K.out.cell 2 rfl
          have z3c := K.out.cell 3 rfl
          go_quiet (fail)
          go_wp2
          go_ret
          exact ⟨by rw [HF.out]; rfl, BW.out.drewN _⟩
      · have q : (a0.toList == ([119, 111, 114, 108, 100] : List UInt8)) = false := by rw [worldEq]; exact decide_eq_false cw
        have CW := hid_ cw
        clear cw
        by_cases g1 : 0 ≤ a3
        · by_cases g2 : a3 ≤ a2
          · have G12 := hid_ (And.intro g1 g2)
            by_cases z2 : a2 = 0
            · have q2 : (a2 == 0) = true := by simp [z2]
              have HF : Hid (re = 110) := hid_ (by rw [← HRE.out]; exact okL_bad1 HO.out (fun h => h.nz z2))
              clear hx HRE z2
              go_upto_region 7 with (fail)
              generalize wr.alloc (.cells #[.string a0, .string a1, .int .i64 a2, .int .i64 a3] 37) = wb at K BW RA B1 ⊢
              generalize wr.heap.size = gB at K ⊢
              have z0 := K.out.cell 0 rfl
              have z1 := K.out.cell 1 rfl
              have z2c := K.out.cell 2 rfl
              have z3c := K.out.cell 3 rfl
              go_quiet (fail)
              go_wp2
              go_ret
              exact ⟨by rw [HF.out]; rfl, BW.out.drewN _⟩
            · have q2 : (a2 == 0) = false := by simp [z2]
              have HZ2 := hid_ z2
              clear z2
              obtain ⟨nb, hnb⟩ : ∃ b, namedB ⟨a0, a1⟩ = b := ⟨_, rfl⟩
              have HNB := hid_ hnb
              clear hnb
              cases nb
              · have HF : Hid (re = 110) := hid_ (by rw [← HRE.out]; exact okL_bad1 HO.out (fun h => by have h1 := h.named; rw [show namedB (Acc.plc ⟨a0, a1, a2, a3⟩) = false from HNB.out] at h1; cases h1))
                clear hx HRE
                go_upto_region 7 with (fail)
                generalize wr.alloc (.cells #[.string a0, .string a1, .int .i64 a2, .int .i64 a3] 37) = wb at K BW RA B1 ⊢
                generalize wr.heap.size = gB at K ⊢
                have hKP : ∀ W, Bel wb W → (fun W => Bel wb W ∧ W.cell? ⟨gB, 0, none⟩ = some (.string a0) ∧ W.cell? ⟨gB, 1, none⟩ = some (.string a1) ∧ W.cell? ⟨gB, 2, none⟩ = some (.int .i64 a2) ∧ W.cell? ⟨gB, 3, none⟩ = some (.int .i64 a3)) W := fun W b => ⟨b, b.cell_ (K.out.cell 0 rfl), b.cell_ (K.out.cell 1 rfl), b.cell_ (K.out.cell 2 rfl), b.cell_ (K.out.cell 3 rfl)⟩
                have HKP := hid_ hKP
                clear hKP
                refine wp_region_held_drew (S := (fun W => Bel wb W ∧ W.cell? ⟨gB, 0, none⟩ = some (.string a0) ∧ W.cell? ⟨gB, 1, none⟩ = some (.string a1) ∧ W.cell? ⟨gB, 2, none⟩ = some (.int .i64 a2) ∧ W.cell? ⟨gB, 3, none⟩ = some (.int .i64 a3))) (by kernel_rfl) (by (refine HKP.out _ ?_; (repeat first | with_reducible exact Bel.refl _ | with_reducible exact bz12 | with_reducible apply Bel.drew | with_reducible apply Bel.alloc))) (fun hHeld => ?_)
                refine tkW (i := 0) (d := (some 29)) (oi := ?oi63) (v := ?v63) ?hi63 ?hd63 (by kernel_rfl) (by kernel_rfl) (by kernel_rfl) (fun _ _ _ h => h) ?hw63 (by assumption) ?hv63 ?h63
                case hi63 =>
                  simp only [List.getElem?_toArray, List.getElem?_cons_succ, List.getElem?_cons_zero]
                  exact rfl
                case hd63 => rfl
                case hw63 => rfl
                case hv63 =>
                  intro w hSw
                  (try dsimp only at hSw)
                  go_simp
                  try with_reducible rfl
                try simp only [Act.put, List.setIfInBounds_toArray, List.set_cons_zero, List.set_cons_succ]
                refine tkW (i := 1) (d := (some 30)) (oi := ?oi64) (v := ?v64) ?hi64 ?hd64 (by kernel_rfl) (by kernel_rfl) (by kernel_rfl) (fun _ _ _ h => h) ?hw64 (by assumption) ?hv64 ?h64
                case hi64 =>
                  simp only [List.getElem?_toArray, List.getElem?_cons_succ, List.getElem?_cons_zero]
                  exact rfl
                case hd64 => rfl
                case hw64 => rfl
                case hv64 =>
                  intro w hSw
                  (try dsimp only at hSw)
                  go_simp
                  try with_reducible rfl
                try simp only [Act.put, List.setIfInBounds_toArray, List.set_cons_zero, List.set_cons_succ]
                refine tkW (i := 2) (d := (some 31)) (oi := ?oi65) (v := ?v65) ?hi65 ?hd65 (by kernel_rfl) (by kernel_rfl) (by kernel_rfl) (fun _ _ _ h => h) ?hw65 (by assumption) ?hv65 ?h65
                case hi65 =>
                  simp only [List.getElem?_toArray, List.getElem?_cons_succ, List.getElem?_cons_zero]
                  exact rfl
                case hd65 => rfl
                case hw65 => rfl
                case hv65 =>
                  intro w hSw
                  (try dsimp only at hSw)
                  go_simp
                  try with_reducible rfl
                try simp only [Act.put, List.setIfInBounds_toArray, List.set_cons_zero, List.set_cons_succ]
                refine tkW (i := 3) (d := (some 32)) (oi := ?oi66) (v := ?v66) ?hi66 ?hd66 (by kernel_rfl) (by kernel_rfl) (by kernel_rfl) (fun _ _ _ h => h) ?hw66 (by assumption) ?hv66 ?h66
                case hi66 =>
                  simp only [List.getElem?_toArray, List.getElem?_cons_succ, List.getElem?_cons_zero]
                  exact rfl
                case hd66 => rfl
                case hw66 => rfl
                case hv66 =>
                  intro w hSw
                  (try dsimp only at hSw)
                  go_simp
                  try with_reducible rfl
                try simp only [Act.put, List.setIfInBounds_toArray, List.set_cons_zero, List.set_cons_succ]
                refine tkW (i := 4) (d := (some 33)) (oi := ?oi67) (v := ?v67) ?hi67 ?hd67 (by kernel_rfl) (by kernel_rfl) (by kernel_rfl) (fun _ _ _ h => h) ?hw67 (by assumption) ?hv67 ?h67
                case hi67 =>
                  simp only [List.getElem?_toArray, List.getElem?_cons_succ, List.getElem?_cons_zero]
                  exact rfl
                case hd67 => rfl
                case hw67 => rfl
                case hv67 =>
                  intro w hSw
                  (try dsimp only at hSw)
                  go_simp
                  try with_reducible rfl
                try simp only [Act.put, List.setIfInBounds_toArray, List.set_cons_zero, List.set_cons_succ]
                refine tkW (i := 5) (d := (some 34)) (oi := ?oi68) (v := ?v68) ?hi68 ?hd68 (by kernel_rfl) (by kernel_rfl) (by kernel_rfl) (fun _ _ _ h => h) ?hw68 (by assumption) ?hv68 ?h68
                case hi68 =>
                  simp only [List.getElem?_toArray, List.getElem?_cons_succ, List.getElem?_cons_zero]
                  exact rfl
                case hd68 => rfl
                case hw68 => rfl
                case hv68 =>
                  intro w hSw
                  (try dsimp only at hSw)
                  go_simp
                  try with_reducible rfl
                try simp only [Act.put, List.setIfInBounds_toArray, List.set_cons_zero, List.set_cons_succ]
                refine tkW (i := 6) (d := (some 35)) (oi := ?oi69) (v := ?v69) ?hi69 ?hd69 (by kernel_rfl) (by kernel_rfl) (by kernel_rfl) (fun _ _ _ h => h) ?hw69 (by assumption) ?hv69 ?h69
                case hi69 =>
                  simp only [List.getElem?_toArray, List.getElem?_cons_succ, List.getElem?_cons_zero]
                  exact rfl
                case hd69 => rfl
                case hw69 => rfl
                case hv69 =>
                  intro w hSw
                  (try dsimp only at hSw)
                  go_simp
                  try with_reducible rfl
                try simp only [Act.put, List.setIfInBounds_toArray, List.set_cons_zero, List.set_cons_succ]
                refine tkW (i := 7) (d := (some 36)) (oi := ?oi70) (v := ?v70) ?hi70 ?hd70 (by kernel_rfl) (by kernel_rfl) (by kernel_rfl) (fun _ _ _ h => h) ?hw70 (by assumption) ?hv70 ?h70
                case hi70 =>
                  simp only [List.getElem?_toArray, List.getElem?_cons_succ, List.getElem?_cons_zero]
                  exact rfl
                case hd70 => rfl
                case hw70 => rfl
                case hv70 =>
                  intro w hSw
                  (try dsimp only at hSw)
                  go_simp
                  try with_reducible rfl
                try simp only [Act.put, List.setIfInBounds_toArray, List.set_cons_zero, List.set_cons_succ]
                refine tkW (i := 8) (d := (some 37)) (oi := ?oi71) (v := ?v71) ?hi71 ?hd71 (by kernel_rfl) (by kernel_rfl) (by kernel_rfl) (fun _ _ _ h => h) ?hw71 (by assumption) ?hv71 ?h71
                case hi71 =>
                  simp only [List.getElem?_toArray, List.getElem?_cons_succ, List.getElem?_cons_zero]
                  exact rfl
                case hd71 => rfl
                case hw71 => rfl
                case hv71 =>
                  intro w hSw
                  (try dsimp only at hSw)
                  go_simp
                  try with_reducible rfl
                try simp only [Act.put, List.setIfInBounds_toArray, List.set_cons_zero, List.set_cons_succ]
                refine tkW (i := 9) (d := (some 38)) (oi := ?oi72) (v := ?v72) ?hi72 ?hd72 (by kernel_rfl) (by kernel_rfl) (by kernel_rfl) (fun _ _ _ h => h) ?hw72 (by assumption) ?hv72 ?h72
                case hi72 =>
                  simp only [List.getElem?_toArray, List.getElem?_cons_succ, List.getElem?_cons_zero]
                  exact rfl
                case hd72 => rfl
                case hw72 => rfl
                case hv72 =>
                  intro w hSw
                  (try dsimp only at hSw)
                  go_simp
                  try with_reducible rfl
                try simp only [Act.put, List.setIfInBounds_toArray, List.set_cons_zero, List.set_cons_succ]
                refine tkW (i := 10) (d := (some 39)) (oi := ?oi73) (v := ?v73) ?hi73 ?hd73 (by kernel_rfl) (by kernel_rfl) (by kernel_rfl) (fun _ _ _ h => h) ?hw73 (by assumption) ?hv73 ?h73
                case hi73 =>
                  simp only [List.getElem?_toArray, List.getElem?_cons_succ, List.getElem?_cons_zero]
                  exact rfl
                case hd73 => rfl
                case hw73 => rfl
                case hv73 =>
                  intro w hSw
                  (try dsimp only at hSw)
                  go_simp
                  try with_reducible rfl
                try simp only [Act.put, List.setIfInBounds_toArray, List.set_cons_zero, List.set_cons_succ]
                refine tkW (i := 11) (d := (some 40)) (oi := ?oi74) (v := ?v74) ?hi74 ?hd74 (by kernel_rfl) (by kernel_rfl) (by kernel_rfl) (fun _ _ _ h => h) ?hw74 (by assumption) ?hv74 ?h74
                case hi74 =>
                  simp only [List.getElem?_toArray, List.getElem?_cons_succ, List.getElem?_cons_zero]
                  exact rfl
                case hd74 => rfl
                case hw74 => rfl
                case hv74 =>
                  intro w hSw
                  (try dsimp only at hSw)
                  go_simp
                  try with_reducible rfl
                try simp only [Act.put, List.setIfInBounds_toArray, List.set_cons_zero, List.set_cons_succ]
                refine wpAnyH_ready (rs := [12]) (by kernel_rfl) (by simp) ?_
                refine AllReadyH.cons (o := ?oi75) ?hi75 (fun K hK => ?hk75) AllReadyH.nil
                case hi75 =>
                  simp only [List.getElem?_toArray, List.getElem?_cons_succ, List.getElem?_cons_zero]
                  exact rfl
                go_simp
                refine' Calls.mono (names_any a0 a1 _ SZ.out.1 SZ.out.2) ?_
                rintro e w9 ⟨rfl, b9⟩
                have bz12 : Bel wb w9 := Bel.trans (by (repeat first | with_reducible exact Bel.refl _ | with_reducible exact bz12 | with_reducible apply Bel.drew | with_reducible apply Bel.alloc)) b9
                rw [HNB.out]
                go_wp2_with fail
                refine hK.out _ _ ?_ (fun hHeld => ?_)
                · (refine HKP.out _ ?_; (repeat first | with_reducible exact Bel.refl _ | with_reducible exact bz12 | with_reducible apply Bel.drew | with_reducible apply Bel.alloc))
                clear hK K
                try simp only [Act.put, List.setIfInBounds_toArray, List.set_cons_zero, List.set_cons_succ]
                refine tkW (i := 13) (d := (some 42)) (oi := ?oi76) (v := ?v76) ?hi76 ?hd76 (by kernel_rfl) (by kernel_rfl) (by kernel_rfl) (fun _ _ _ h => h) ?hw76 (by assumption) ?hv76 ?h76
                case hi76 =>
                  simp only [List.getElem?_toArray, List.getElem?_cons_succ, List.getElem?_cons_zero]
                  exact rfl
                case hd76 => rfl
                case hw76 => rfl
                case hv76 =>
                  intro w hSw
                  (try dsimp only at hSw)
                  go_simp
                  try with_reducible rfl
                try simp only [Act.put, List.setIfInBounds_toArray, List.set_cons_zero, List.set_cons_succ]
                refine tkW (i := 14) (d := (some 43)) (oi := ?oi77) (v := ?v77) ?hi77 ?hd77 (by kernel_rfl) (by kernel_rfl) (by kernel_rfl) (fun _ _ _ h => h) ?hw77 (by assumption) ?hv77 ?h77
                case hi77 =>
                  simp only [List.getElem?_toArray, List.getElem?_cons_succ, List.getElem?_cons_zero]
                  exact rfl
                case hd77 => rfl
                case hw77 => rfl
                case hv77 =>
                  intro w hSw
                  (try dsimp only at hSw)
                  go_simp
                  try with_reducible rfl
                try simp only [Act.put, List.setIfInBounds_toArray, List.set_cons_zero, List.set_cons_succ]
                refine tkW (i := 15) (d := (some 44)) (oi := ?oi78) (v := ?v78) ?hi78 ?hd78 (by kernel_rfl) (by kernel_rfl) (by kernel_rfl) (fun _ _ _ h => h) ?hw78 (by assumption) ?hv78 ?h78
                case hi78 =>
                  simp only [List.getElem?_toArray, List.getElem?_cons_succ, List.getElem?_cons_zero]
                  exact rfl
                case hd78 => rfl
                case hw78 => rfl
                case hv78 =>
                  intro w hSw
                  (try dsimp only at hSw)
                  go_simp
                  try with_reducible rfl
                try simp only [Act.put, List.setIfInBounds_toArray, List.set_cons_zero, List.set_cons_succ]
                refine tkU (i := 16) (d := (some 45)) (oi := ?oi79) ?hi79 ?hd79 (by kernel_rfl) (by kernel_rfl) (by kernel_rfl) (fun _ _ _ h => h) ?hw79 (by assumption) ?h79
                case hi79 =>
                  simp only [List.getElem?_toArray, List.getElem?_cons_succ, List.getElem?_cons_zero]
                  exact rfl
                case hd79 => rfl
                case hw79 => rfl
                try simp only [Act.put, List.setIfInBounds_toArray, List.set_cons_zero, List.set_cons_succ]
                refine tkU (i := 17) (d := (some 46)) (oi := ?oi80) ?hi80 ?hd80 (by kernel_rfl) (by kernel_rfl) (by kernel_rfl) (fun _ _ _ h => h) ?hw80 (by assumption) ?h80
                case hi80 =>
                  simp only [List.getElem?_toArray, List.getElem?_cons_succ, List.getElem?_cons_zero]
                  exact rfl
                case hd80 => rfl
                case hw80 => rfl
                try simp only [Act.put, List.setIfInBounds_toArray, List.set_cons_zero, List.set_cons_succ]
                refine tkU (i := 18) (d := (some 47)) (oi := ?oi81) ?hi81 ?hd81 (by kernel_rfl) (by kernel_rfl) (by kernel_rfl) (fun _ _ _ h => h) ?hw81 (by assumption) ?h81
                case hi81 =>
                  simp only [List.getElem?_toArray, List.getElem?_cons_succ, List.getElem?_cons_zero]
                  exact rfl
                case hd81 => rfl
                case hw81 => rfl
                try simp only [Act.put, List.setIfInBounds_toArray, List.set_cons_zero, List.set_cons_succ]
                refine tkU (i := 19) (d := (some 48)) (oi := ?oi82) ?hi82 ?hd82 (by kernel_rfl) (by kernel_rfl) (by kernel_rfl) (fun _ _ _ h => h) ?hw82 (by assumption) ?h82
                case hi82 =>
                  simp only [List.getElem?_toArray, List.getElem?_cons_succ, List.getElem?_cons_zero]
                  exact rfl
                case hd82 => rfl
                case hw82 => rfl
                try simp only [Act.put, List.setIfInBounds_toArray, List.set_cons_zero, List.set_cons_succ]
                refine tkU (i := 20) (d := (some 49)) (oi := ?oi83) ?hi83 ?hd83 (by kernel_rfl) (by kernel_rfl) (by kernel_rfl) (fun _ _ _ h => h) ?hw83 (by assumption) ?h83
                case hi83 =>
                  simp only [List.getElem?_toArray, List.getElem?_cons_succ, List.getElem?_cons_zero]
                  exact rfl
                case hd83 => rfl
                case hw83 => rfl
                try simp only [Act.put, List.setIfInBounds_toArray, List.set_cons_zero, List.set_cons_succ]
                refine tkU (i := 21) (d := (some 50)) (oi := ?oi84) ?hi84 ?hd84 (by kernel_rfl) (by kernel_rfl) (by kernel_rfl) (fun _ _ _ h => h) ?hw84 (by assumption) ?h84
                case hi84 =>
                  simp only [List.getElem?_toArray, List.getElem?_cons_succ, List.getElem?_cons_zero]
                  exact rfl
                case hd84 => rfl
                case hw84 => rfl
                try simp only [Act.put, List.setIfInBounds_toArray, List.set_cons_zero, List.set_cons_succ]
                refine tkU (i := 22) (d := (some 51)) (oi := ?oi85) ?hi85 ?hd85 (by kernel_rfl) (by kernel_rfl) (by kernel_rfl) (fun _ _ _ h => h) ?hw85 (by assumption) ?h85
                case hi85 =>
                  simp only [List.getElem?_toArray, List.getElem?_cons_succ, List.getElem?_cons_zero]
                  exact rfl
                case hd85 => rfl
                case hw85 => rfl
                try simp only [Act.put, List.setIfInBounds_toArray, List.set_cons_zero, List.set_cons_succ]
                refine tkU (i := 23) (d := (some 52)) (oi := ?oi86) ?hi86 ?hd86 (by kernel_rfl) (by kernel_rfl) (by kernel_rfl) (fun _ _ _ h => h) ?hw86 (by assumption) ?h86
                case hi86 =>
                  simp only [List.getElem?_toArray, List.getElem?_cons_succ, List.getElem?_cons_zero]
                  exact rfl
                case hd86 => rfl
                case hw86 => rfl
                try simp only [Act.put, List.setIfInBounds_toArray, List.set_cons_zero, List.set_cons_succ]
                refine tkU (i := 24) (d := (some 53)) (oi := ?oi87) ?hi87 ?hd87 (by kernel_rfl) (by kernel_rfl) (by kernel_rfl) (fun _ _ _ h => h) ?hw87 (by assumption) ?h87
                case hi87 =>
                  simp only [List.getElem?_toArray, List.getElem?_cons_succ, List.getElem?_cons_zero]
                  exact rfl
                case hd87 => rfl
                case hw87 => rfl
                try simp only [Act.put, List.setIfInBounds_toArray, List.set_cons_zero, List.set_cons_succ]
                refine tkU (i := 25) (d := (some 54)) (oi := ?oi88) ?hi88 ?hd88 (by kernel_rfl) (by kernel_rfl) (by kernel_rfl) (fun _ _ _ h => h) ?hw88 (by assumption) ?h88
                case hi88 =>
                  simp only [List.getElem?_toArray, List.getElem?_cons_succ, List.getElem?_cons_zero]
                  exact rfl
                case hd88 => rfl
                case hw88 => rfl
                try simp only [Act.put, List.setIfInBounds_toArray, List.set_cons_zero, List.set_cons_succ]
                refine tkU (i := 26) (d := (some 55)) (oi := ?oi89) ?hi89 ?hd89 (by kernel_rfl) (by kernel_rfl) (by kernel_rfl) (fun _ _ _ h => h) ?hw89 (by assumption) ?h89
                case hi89 =>
                  simp only [List.getElem?_toArray, List.getElem?_cons_succ, List.getElem?_cons_zero]
                  exact rfl
                case hd89 => rfl
                case hw89 => rfl
                try simp only [Act.put, List.setIfInBounds_toArray, List.set_cons_zero, List.set_cons_succ]
                refine tkU (i := 27) (d := (some 56)) (oi := ?oi90) ?hi90 ?hd90 (by kernel_rfl) (by kernel_rfl) (by kernel_rfl) (fun _ _ _ h => h) ?hw90 (by assumption) ?h90
                case hi90 =>
                  simp only [List.getElem?_toArray, List.getElem?_cons_succ, List.getElem?_cons_zero]
                  exact rfl
                case hd90 => rfl
                case hw90 => rfl
                try simp only [Act.put, List.setIfInBounds_toArray, List.set_cons_zero, List.set_cons_succ]
                refine tkU (i := 28) (d := (some 57)) (oi := ?oi91) ?hi91 ?hd91 (by kernel_rfl) (by kernel_rfl) (by kernel_rfl) (fun _ _ _ h => h) ?hw91 (by assumption) ?h91
                case hi91 =>
                  simp only [List.getElem?_toArray, List.getElem?_cons_succ, List.getElem?_cons_zero]
                  exact rfl
                case hd91 => rfl
                case hw91 => rfl
                try simp only [Act.put, List.setIfInBounds_toArray, List.set_cons_zero, List.set_cons_succ]
                refine tkU (i := 29) (d := (some 58)) (oi := ?oi92) ?hi92 ?hd92 (by kernel_rfl) (by kernel_rfl) (by kernel_rfl) (fun _ _ _ h => h) ?hw92 (by assumption) ?h92
                case hi92 =>
                  simp only [List.getElem?_toArray, List.getElem?_cons_succ, List.getElem?_cons_zero]
                  exact rfl
                case hd92 => rfl
                case hw92 => rfl
                try simp only [Act.put, List.setIfInBounds_toArray, List.set_cons_zero, List.set_cons_succ]
                refine tkW (i := 30) (d := (some 59)) (oi := ?oi93) (v := ?v93) ?hi93 ?hd93 (by kernel_rfl) (by kernel_rfl) (by kernel_rfl) (fun _ _ _ h => h) ?hw93 (by assumption) ?hv93 ?h93
                case hi93 =>
                  simp only [List.getElem?_toArray, List.getElem?_cons_succ, List.getElem?_cons_zero]
                  exact rfl
                case hd93 => rfl
                case hw93 => rfl
                case hv93 =>
                  intro w hSw
                  (try dsimp only at hSw)
                  go_simp
                  try with_reducible rfl
                try simp only [Act.put, List.setIfInBounds_toArray, List.set_cons_zero, List.set_cons_succ]
                refine wpAnyH_done (by kernel_rfl) ?_ _
                go_wp2
                go_ret
                exact ⟨by rw [HF.out]; rfl, BW.out.trans (by (repeat first | with_reducible exact Bel.refl _ | with_reducible exact bz12 | with_reducible apply Bel.drew | with_reducible apply Bel.alloc))⟩
              · have HOK : Hid (OkAcc ⟨a0, a1, a2, a3⟩) := hid_ ⟨HZ2.out, HNB.out, fun h => absurd h CW.out, fun _ => G12.out⟩
                rcases Nat.eq_zero_or_pos k with k0 | k0
                · have k1 : ¬ (0 : Int) < (k : Int) := by omega
                  have k2 : decide ((0 : Int) < (k : Int)) = false := decide_eq_false k1
                  have k3 : decide (0 < k) = false := decide_eq_false (by omega)
                  have HX : Hid (OkL (l.take (k + 1))) := hid_ (okL_step hx.out HO.out HOK.out (fun j y e _ => by omega))
                  have K0 := hid_ k0
                  clear hx HOK k0 k1
                  go_upto_region 7 with (fail)
                  generalize wr.alloc (.cells #[.string a0, .string a1, .int .i64 a2, .int .i64 a3] 37) = wb at K BW RA B1 ⊢
                  generalize wr.heap.size = gB at K ⊢
                  have hKP : ∀ W, Bel wb W → (fun W => Bel wb W ∧ W.cell? ⟨gB, 0, none⟩ = some (.string a0) ∧ W.cell? ⟨gB, 1, none⟩ = some (.string a1) ∧ W.cell? ⟨gB, 2, none⟩ = some (.int .i64 a2) ∧ W.cell? ⟨gB, 3, none⟩ = some (.int .i64 a3)) W := fun W b => ⟨b, b.cell_ (K.out.cell 0 rfl), b.cell_ (K.out.cell 1 rfl), b.cell_ (K.out.cell 2 rfl), b.cell_ (K.out.cell 3 rfl)⟩
                  have HKP := hid_ hKP
                  clear hKP
                  refine wp_region_held_drew (S := (fun W => Bel wb W ∧ W.cell? ⟨gB, 0, none⟩ = some (.string a0) ∧ W.cell? ⟨gB, 1, none⟩ = some (.string a1) ∧ W.cell? ⟨gB, 2, none⟩ = some (.int .i64 a2) ∧ W.cell? ⟨gB, 3, none⟩ = some (.int .i64 a3))) (by kernel_rfl) (by (refine HKP.out _ ?_; (repeat first | with_reducible exact Bel.refl _ | with_reducible exact bz12 | with_reducible apply Bel.drew | with_reducible apply Bel.alloc))) (fun hHeld => ?_)
                  refine tkW (i := 0) (d := (some 29)) (oi := ?oi94) (v := ?v94) ?hi94 ?hd94 (by kernel_rfl) (by kernel_rfl) (by kernel_rfl) (fun _ _ _ h => h) ?hw94 (by assumption) ?hv94 ?h94
                  case hi94 =>
                    simp only [List.getElem?_toArray, List.getElem?_cons_succ, List.getElem?_cons_zero]
                    exact rfl
                  case hd94 => rfl
                  case hw94 => rfl
                  case hv94 =>
                    intro w hSw
                    (try dsimp only at hSw)
                    go_simp
                    try with_reducible rfl
                  try simp only [Act.put, List.setIfInBounds_toArray, List.set_cons_zero, List.set_cons_succ]
                  refine tkW (i := 1) (d := (some 30)) (oi := ?oi95) (v := ?v95) ?hi95 ?hd95 (by kernel_rfl) (by kernel_rfl) (by kernel_rfl) (fun _ _ _ h => h) ?hw95 (by assumption) ?hv95 ?h95
                  case hi95 =>
                    simp only [List.getElem?_toArray, List.getElem?_cons_succ, List.getElem?_cons_zero]
                    exact rfl
                  case hd95 => rfl
                  case hw95 => rfl
                  case hv95 =>
                    intro w hSw
                    (try dsimp only at hSw)
                    go_simp
                    try with_reducible rfl
                  try simp only [Act.put, List.setIfInBounds_toArray, List.set_cons_zero, List.set_cons_succ]
                  refine tkW (i := 2) (d := (some 31)) (oi := ?oi96) (v := ?v96) ?hi96 ?hd96 (by kernel_rfl) (by kernel_rfl) (by kernel_rfl) (fun _ _ _ h => h) ?hw96 (by assumption) ?hv96 ?h96
                  case hi96 =>
                    simp only [List.getElem?_toArray, List.getElem?_cons_succ, List.getElem?_cons_zero]
                    exact rfl
                  case hd96 => rfl
                  case hw96 => rfl
                  case hv96 =>
                    intro w hSw
                    (try dsimp only at hSw)
                    go_simp
                    try with_reducible rfl
                  try simp only [Act.put, List.setIfInBounds_toArray, List.set_cons_zero, List.set_cons_succ]
                  refine tkW (i := 3) (d := (some 32)) (oi := ?oi97) (v := ?v97) ?hi97 ?hd97 (by kernel_rfl) (by kernel_rfl) (by kernel_rfl) (fun _ _ _ h => h) ?hw97 (by assumption) ?hv97 ?h97
                  case hi97 =>
                    simp only [List.getElem?_toArray, List.getElem?_cons_succ, List.getElem?_cons_zero]
                    exact rfl
                  case hd97 => rfl
                  case hw97 => rfl
                  case hv97 =>
                    intro w hSw
                    (try dsimp only at hSw)
                    go_simp
                    try with_reducible rfl
                  try simp only [Act.put, List.setIfInBounds_toArray, List.set_cons_zero, List.set_cons_succ]
                  refine tkW (i := 4) (d := (some 33)) (oi := ?oi98) (v := ?v98) ?hi98 ?hd98 (by kernel_rfl) (by kernel_rfl) (by kernel_rfl) (fun _ _ _ h => h) ?hw98 (by assumption) ?hv98 ?h98
                  case hi98 =>
                    simp only [List.getElem?_toArray, List.getElem?_cons_succ, List.getElem?_cons_zero]
                    exact rfl
                  case hd98 => rfl
                  case hw98 => rfl
                  case hv98 =>
                    intro w hSw
                    (try dsimp only at hSw)
                    go_simp
                    try with_reducible rfl
                  try simp only [Act.put, List.setIfInBounds_toArray, List.set_cons_zero, List.set_cons_succ]
                  refine tkW (i := 5) (d := (some 34)) (oi := ?oi99) (v := ?v99) ?hi99 ?hd99 (by kernel_rfl) (by kernel_rfl) (by kernel_rfl) (fun _ _ _ h => h) ?hw99 (by assumption) ?hv99 ?h99
                  case hi99 =>
                    simp only [List.getElem?_toArray, List.getElem?_cons_succ, List.getElem?_cons_zero]
                    exact rfl
                  case hd99 => rfl
                  case hw99 => rfl
                  case hv99 =>
                    intro w hSw
                    (try dsimp only at hSw)
                    go_simp
                    try with_reducible rfl
                  try simp only [Act.put, List.setIfInBounds_toArray, List.set_cons_zero, List.set_cons_succ]
                  refine tkW (i := 6) (d := (some 35)) (oi := ?oi100) (v := ?v100) ?hi100 ?hd100 (by kernel_rfl) (by kernel_rfl) (by kernel_rfl) (fun _ _ _ h => h) ?hw100 (by assumption) ?hv100 ?h100
                  case hi100 =>
                    simp only [List.getElem?_toArray, List.getElem?_cons_succ, List.getElem?_cons_zero]
                    exact rfl
                  case hd100 => rfl
                  case hw100 => rfl
                  case hv100 =>
                    intro w hSw
                    (try dsimp only at hSw)
                    go_simp
                    try with_reducible rfl
                  try simp only [Act.put, List.setIfInBounds_toArray, List.set_cons_zero, List.set_cons_succ]
                  refine tkW (i := 7) (d := (some 36)) (oi := ?oi101) (v := ?v101) ?hi101 ?hd101 (by kernel_rfl) (by kernel_rfl) (by kernel_rfl) (fun _ _ _ h => h) ?hw101 (by assumption) ?hv101 ?h101
                  case hi101 =>
                    simp only [List.getElem?_toArray, List.getElem?_cons_succ, List.getElem?_cons_zero]
                    exact rfl
                  case hd101 => rfl
                  case hw101 => rfl
                  case hv101 =>
                    intro w hSw
                    (try dsimp only at hSw)
                    go_simp
                    try with_reducible rfl
                  try simp only [Act.put, List.setIfInBounds_toArray, List.set_cons_zero, List.set_cons_succ]
                  refine tkW (i := 8) (d := (some 37)) (oi := ?oi102) (v := ?v102) ?hi102 ?hd102 (by kernel_rfl) (by kernel_rfl) (by kernel_rfl) (fun _ _ _ h => h) ?hw102 (by assumption) ?hv102 ?h102
                  case hi102 =>
                    simp only [List.getElem?_toArray, List.getElem?_cons_succ, List.getElem?_cons_zero]
                    exact rfl
                  case hd102 => rfl
                  case hw102 => rfl
                  case hv102 =>
                    intro w hSw
                    (try dsimp only at hSw)
                    go_simp
                    try with_reducible rfl
                  try simp only [Act.put, List.setIfInBounds_toArray, List.set_cons_zero, List.set_cons_succ]
                  refine tkW (i := 9) (d := (some 38)) (oi := ?oi103) (v := ?v103) ?hi103 ?hd103 (by kernel_rfl) (by kernel_rfl) (by kernel_rfl) (fun _ _ _ h => h) ?hw103 (by assumption) ?hv103 ?h103
                  case hi103 =>
                    simp only [List.getElem?_toArray, List.getElem?_cons_succ, List.getElem?_cons_zero]
                    exact rfl
                  case hd103 => rfl
                  case hw103 => rfl
                  case hv103 =>
                    intro w hSw
                    (try dsimp only at hSw)
                    go_simp
                    try with_reducible rfl
                  try simp only [Act.put, List.setIfInBounds_toArray, List.set_cons_zero, List.set_cons_succ]
                  refine tkW (i := 10) (d := (some 39)) (oi := ?oi104) (v := ?v104) ?hi104 ?hd104 (by kernel_rfl) (by kernel_rfl) (by kernel_rfl) (fun _ _ _ h => h) ?hw104 (by assumption) ?hv104 ?h104
                  case hi104 =>
                    simp only [List.getElem?_toArray, List.getElem?_cons_succ, List.getElem?_cons_zero]
                    exact rfl
                  case hd104 => rfl
                  case hw104 => rfl
                  case hv104 =>
                    intro w hSw
                    (try dsimp only at hSw)
                    go_simp
                    try with_reducible rfl
                  try simp only [Act.put, List.setIfInBounds_toArray, List.set_cons_zero, List.set_cons_succ]
                  refine tkW (i := 11) (d := (some 40)) (oi := ?oi105) (v := ?v105) ?hi105 ?hd105 (by kernel_rfl) (by kernel_rfl) (by kernel_rfl) (fun _ _ _ h => h) ?hw105 (by assumption) ?hv105 ?h105
                  case hi105 =>
                    simp only [List.getElem?_toArray, List.getElem?_cons_succ, List.getElem?_cons_zero]
                    exact rfl
                  case hd105 => rfl
                  case hw105 => rfl
                  case hv105 =>
                    intro w hSw
                    (try dsimp only at hSw)
                    go_simp
                    try with_reducible rfl
                  try simp only [Act.put, List.setIfInBounds_toArray, List.set_cons_zero, List.set_cons_succ]
                  refine wpAnyH_ready (rs := [12]) (by kernel_rfl) (by simp) ?_
                  refine AllReadyH.cons (o := ?oi106) ?hi106 (fun K hK => ?hk106) AllReadyH.nil
                  case hi106 =>
                    simp only [List.getElem?_toArray, List.getElem?_cons_succ, List.getElem?_cons_zero]
                    exact rfl
                  go_simp
                  refine' Calls.mono (names_any a0 a1 _ SZ.out.1 SZ.out.2) ?_
                  rintro e w9 ⟨rfl, b9⟩
                  have bz12 : Bel wb w9 := Bel.trans (by (repeat first | with_reducible exact Bel.refl _ | with_reducible exact bz12 | with_reducible apply Bel.drew | with_reducible apply Bel.alloc)) b9
                  rw [HNB.out]
                  go_wp2_with fail
                  refine hK.out _ _ ?_ (fun hHeld => ?_)
                  · (refine HKP.out _ ?_; (repeat first | with_reducible exact Bel.refl _ | with_reducible exact bz12 | with_reducible apply Bel.drew | with_reducible apply Bel.alloc))
                  clear hK K
                  try simp only [Act.put, List.setIfInBounds_toArray, List.set_cons_zero, List.set_cons_succ]
                  refine tkW (i := 13) (d := (some 42)) (oi := ?oi107) (v := ?v107) ?hi107 ?hd107 (by kernel_rfl) (by kernel_rfl) (by kernel_rfl) (fun _ _ _ h => h) ?hw107 (by assumption) ?hv107 ?h107
                  case hi107 =>
                    simp only [List.getElem?_toArray, List.getElem?_cons_succ, List.getElem?_cons_zero]
                    exact rfl
                  case hd107 => rfl
                  case hw107 => rfl
                  case hv107 =>
                    intro w hSw
                    (try dsimp only at hSw)
                    go_simp
                    try with_reducible rfl
                  try simp only [Act.put, List.setIfInBounds_toArray, List.set_cons_zero, List.set_cons_succ]
                  refine tkW (i := 14) (d := (some 43)) (oi := ?oi108) (v := ?v108) ?hi108 ?hd108 (by kernel_rfl) (by kernel_rfl) (by kernel_rfl) (fun _ _ _ h => h) ?hw108 (by assumption) ?hv108 ?h108
                  case hi108 =>
                    simp only [List.getElem?_toArray, List.getElem?_cons_succ, List.getElem?_cons_zero]
                    exact rfl
                  case hd108 => rfl
                  case hw108 => rfl
                  case hv108 =>
                    intro w hSw
                    (try dsimp only at hSw)
                    go_simp
                    try with_reducible rfl
                  try simp only [Act.put, List.setIfInBounds_toArray, List.set_cons_zero, List.set_cons_succ]
                  refine tkW (i := 15) (d := (some 44)) (oi := ?oi109) (v := ?v109) ?hi109 ?hd109 (by kernel_rfl) (by kernel_rfl) (by kernel_rfl) (fun _ _ _ h => h) ?hw109 (by assumption) ?hv109 ?h109
                  case hi109 =>
                    simp only [List.getElem?_toArray, List.getElem?_cons_succ, List.getElem?_cons_zero]
                    exact rfl
                  case hd109 => rfl
                  case hw109 => rfl
                  case hv109 =>
                    intro w hSw
                    (try dsimp only at hSw)
                    go_simp
                    try with_reducible rfl
                  try simp only [Act.put, List.setIfInBounds_toArray, List.set_cons_zero, List.set_cons_succ]
                  refine tkW (i := 16) (d := (some 45)) (oi := ?oi110) (v := ?v110) ?hi110 ?hd110 (by kernel_rfl) (by kernel_rfl) (by kernel_rfl) (fun _ _ _ h => h) ?hw110 (by assumption) ?hv110 ?h110
                  case hi110 =>
                    simp only [List.getElem?_toArray, List.getElem?_cons_succ, List.getElem?_cons_zero]
                    exact rfl
                  case hd110 => rfl
                  case hw110 => rfl
                  case hv110 =>
                    intro w hSw
                    (try dsimp only at hSw)
                    go_simp
                    try with_reducible rfl
                  try simp only [Act.put, List.setIfInBounds_toArray, List.set_cons_zero, List.set_cons_succ]
                  refine tkW (i := 17) (d := (some 46)) (oi := ?oi111) (v := ?v111) ?hi111 ?hd111 (by kernel_rfl) (by kernel_rfl) (by kernel_rfl) (fun _ _ _ h => h) ?hw111 (by assumption) ?hv111 ?h111
                  case hi111 =>
                    simp only [List.getElem?_toArray, List.getElem?_cons_succ, List.getElem?_cons_zero]
                    exact rfl
                  case hd111 => rfl
                  case hw111 => rfl
                  case hv111 =>
                    intro w hSw
                    (try dsimp only at hSw)
                    go_simp
                    try with_reducible rfl
                  try simp only [Act.put, List.setIfInBounds_toArray, List.set_cons_zero, List.set_cons_succ]
                  refine tkW (i := 18) (d := (some 47)) (oi := ?oi112) (v := ?v112) ?hi112 ?hd112 (by kernel_rfl) (by kernel_rfl) (by kernel_rfl) (fun _ _ _ h => h) ?hw112 (by assumption) ?hv112 ?h112
                  case hi112 =>
                    simp only [List.getElem?_toArray, List.getElem?_cons_succ, List.getElem?_cons_zero]
                    exact rfl
                  case hd112 => rfl
                  case hw112 => rfl
                  case hv112 =>
                    intro w hSw
                    (try dsimp only at hSw)
                    go_simp
                    try with_reducible rfl
                  try simp only [Act.put, List.setIfInBounds_toArray, List.set_cons_zero, List.set_cons_succ]
                  refine tkU (i := 19) (d := (some 48)) (oi := ?oi113) ?hi113 ?hd113 (by kernel_rfl) (by kernel_rfl) (by kernel_rfl) (fun _ _ _ h => h) ?hw113 (by assumption) ?h113
                  case hi113 =>
                    simp only [List.getElem?_toArray, List.getElem?_cons_succ, List.getElem?_cons_zero]
                    exact rfl
                  case hd113 => rfl
                  case hw113 => rfl
                  try simp only [Act.put, List.setIfInBounds_toArray, List.set_cons_zero, List.set_cons_succ]
                  refine tkU (i := 20) (d := (some 49)) (oi := ?oi114) ?hi114 ?hd114 (by kernel_rfl) (by kernel_rfl) (by kernel_rfl) (fun _ _ _ h => h) ?hw114 (by assumption) ?h114
                  case hi114 =>
                    simp only [List.getElem?_toArray, List.getElem?_cons_succ, List.getElem?_cons_zero]
                    exact rfl
                  case hd114 => rfl
                  case hw114 => rfl
                  try simp only [Act.put, List.setIfInBounds_toArray, List.set_cons_zero, List.set_cons_succ]
                  refine tkU (i := 21) (d := (some 50)) (oi := ?oi115) ?hi115 ?hd115 (by kernel_rfl) (by kernel_rfl) (by kernel_rfl) (fun _ _ _ h => h) ?hw115 (by assumption) ?h115
                  case hi115 =>
                    simp only [List.getElem?_toArray, List.getElem?_cons_succ, List.getElem?_cons_zero]
                    exact rfl
                  case hd115 => rfl
                  case hw115 => rfl
                  try simp only [Act.put, List.setIfInBounds_toArray, List.set_cons_zero, List.set_cons_succ]
                  refine tkU (i := 22) (d := (some 51)) (oi := ?oi116) ?hi116 ?hd116 (by kernel_rfl) (by kernel_rfl) (by kernel_rfl) (fun _ _ _ h => h) ?hw116 (by assumption) ?h116
                  case hi116 =>
                    simp only [List.getElem?_toArray, List.getElem?_cons_succ, List.getElem?_cons_zero]
                    exact rfl
                  case hd116 => rfl
                  case hw116 => rfl
                  try simp only [Act.put, List.setIfInBounds_toArray, List.set_cons_zero, List.set_cons_succ]
                  refine tkU (i := 23) (d := (some 52)) (oi := ?oi117) ?hi117 ?hd117 (by kernel_rfl) (by kernel_rfl) (by kernel_rfl) (fun _ _ _ h => h) ?hw117 (by assumption) ?h117
                  case hi117 =>
                    simp only [List.getElem?_toArray, List.getElem?_cons_succ, List.getElem?_cons_zero]
                    exact rfl
                  case hd117 => rfl
                  case hw117 => rfl
                  try simp only [Act.put, List.setIfInBounds_toArray, List.set_cons_zero, List.set_cons_succ]
                  refine tkU (i := 24) (d := (some 53)) (oi := ?oi118) ?hi118 ?hd118 (by kernel_rfl) (by kernel_rfl) (by kernel_rfl) (fun _ _ _ h => h) ?hw118 (by assumption) ?h118
                  case hi118 =>
                    simp only [List.getElem?_toArray, List.getElem?_cons_succ, List.getElem?_cons_zero]
                    exact rfl
                  case hd118 => rfl
                  case hw118 => rfl
                  try simp only [Act.put, List.setIfInBounds_toArray, List.set_cons_zero, List.set_cons_succ]
                  refine tkU (i := 25) (d := (some 54)) (oi := ?oi119) ?hi119 ?hd119 (by kernel_rfl) (by kernel_rfl) (by kernel_rfl) (fun _ _ _ h => h) ?hw119 (by assumption) ?h119
                  case hi119 =>
                    simp only [List.getElem?_toArray, List.getElem?_cons_succ, List.getElem?_cons_zero]
                    exact rfl
                  case hd119 => rfl
                  case hw119 => rfl
                  try simp only [Act.put, List.setIfInBounds_toArray, List.set_cons_zero, List.set_cons_succ]
                  refine tkU (i := 26) (d := (some 55)) (oi := ?oi120) ?hi120 ?hd120 (by kernel_rfl) (by kernel_rfl) (by kernel_rfl) (fun _ _ _ h => h) ?hw120 (by assumption) ?h120
                  case hi120 =>
                    simp only [List.getElem?_toArray, List.getElem?_cons_succ, List.getElem?_cons_zero]
                    exact rfl
                  case hd120 => rfl
                  case hw120 => rfl
                  try simp only [Act.put, List.setIfInBounds_toArray, List.set_cons_zero, List.set_cons_succ]
                  refine tkU (i := 27) (d := (some 56)) (oi := ?oi121) ?hi121 ?hd121 (by kernel_rfl) (by kernel_rfl) (by kernel_rfl) (fun _ _ _ h => h) ?hw121 (by assumption) ?h121
                  case hi121 =>
                    simp only [List.getElem?_toArray, List.getElem?_cons_succ, List.getElem?_cons_zero]
                    exact rfl
                  case hd121 => rfl
                  case hw121 => rfl
                  try simp only [Act.put, List.setIfInBounds_toArray, List.set_cons_zero, List.set_cons_succ]
                  refine tkU (i := 28) (d := (some 57)) (oi := ?oi122) ?hi122 ?hd122 (by kernel_rfl) (by kernel_rfl) (by kernel_rfl) (fun _ _ _ h => h) ?hw122 (by assumption) ?h122
                  case hi122 =>
                    simp only [List.getElem?_toArray, List.getElem?_cons_succ, List.getElem?_cons_zero]
                    exact rfl
                  case hd122 => rfl
                  case hw122 => rfl
                  try simp only [Act.put, List.setIfInBounds_toArray, List.set_cons_zero, List.set_cons_succ]
                  refine tkW (i := 29) (d := (some 58)) (oi := ?oi123) (v := ?v123) ?hi123 ?hd123 (by kernel_rfl) (by kernel_rfl) (by kernel_rfl) (fun _ _ _ h => h) ?hw123 (by assumption) ?hv123 ?h123
                  case hi123 =>
                    simp only [List.getElem?_toArray, List.getElem?_cons_succ, List.getElem?_cons_zero]
                    exact rfl
                  case hd123 => rfl
                  case hw123 => rfl
                  case hv123 =>
                    intro w hSw
                    (try dsimp only at hSw)
                    go_simp
                    try with_reducible rfl
                  try simp only [Act.put, List.setIfInBounds_toArray, List.set_cons_zero, List.set_cons_succ]
                  refine tkW (i := 30) (d := (some 59)) (oi := ?oi124) (v := ?v124) ?hi124 ?hd124 (by kernel_rfl) (by kernel_rfl) (by kernel_rfl) (fun _ _ _ h => h) ?hw124 (by assumption) ?hv124 ?h124
                  case hi124 =>
                    simp only [List.getElem?_toArray, List.getElem?_cons_succ, List.getElem?_cons_zero]
                    exact rfl
                  case hd124 => rfl
                  case hw124 => rfl
                  case hv124 =>
                    intro w hSw
                    (try dsimp only at hSw)
                    go_simp
                    try with_reducible rfl
                  try simp only [Act.put, List.setIfInBounds_toArray, List.set_cons_zero, List.set_cons_succ]
                  refine wpAnyH_done (by kernel_rfl) ?_ _
                  go_wp2
                  case roundEnd =>
                    go_roundw
                    case rel => exact ⟨k + 1, by omega, by go_num, HX, BW.out.trans (by (repeat first | with_reducible exact Bel.refl _ | with_reducible exact bz12 | with_reducible apply Bel.drew | with_reducible apply Bel.alloc))⟩
                    case measure => simp [intOf]; omega
                · obtain ⟨j, rfl⟩ : ∃ j, k = j + 1 := ⟨k - 1, by omega⟩
                  have hj : j < n := by omega
                  obtain ⟨ad', y0, y1, y2, y3, e', hy, d0, d1, d2, d3⟩ := RA.out.acc hj
                  cases e'
                  have HY := hid_ hy
                  have RD := hid_ (And.intro d0 (And.intro d1 (And.intro d2 d3)))
                  clear hy d0 d1 d2 d3
                  obtain ⟨d0, d1, d2, d3⟩ := D0.out
                  obtain ⟨r, hr⟩ : ∃ r, cmpP ⟨y0, y1⟩ ⟨a0, a1⟩ = r := ⟨_, rfl⟩
                  have HR := hid_ hr
                  clear hr
                  have k1 : (0 : Int) < ((j + 1 : Nat) : Int) := by omega
                  have ew : IntKind.i64.wrap (((j + 1 : Nat) : Int) - 1) = (j : Int) := by rw [IntWalk.i64_left]; unfold wrap64; omega
                  have ew1 : IntKind.i64.wrap ((j : Int) + 1 - 1) = (j : Int) := by rw [IntWalk.i64_left]; unfold wrap64; omega
                  have ew2 : (j : Int) + 1 - 1 = (j : Int) := by omega
                  have ew3 : IntKind.i64.wrap (j : Int) = (j : Int) := by rw [IntWalk.i64_left]; unfold wrap64; omega
                  have j0 : (0 : Int) ≤ (j : Int) := by omega
                  have j1 : (j : Int) < (n : Int) := by omega
                  have JN := hid_ hkn
                  clear k0
                  by_cases hr : 0 ≤ r
                  · have HF : Hid (re = 110) := hid_ (by rw [← HRE.out]; exact okL_bad2 HO.out HY.out (cmpP_ge.1 (by rw [show cmpP (Acc.plc ⟨y0, y1, y2, y3⟩) (Acc.plc ⟨a0, a1, a2, a3⟩) = r from HR.out]; exact hr)))
                    clear hx HRE
                    go_upto_region 7 with (fail)
                    generalize wr.alloc (.cells #[.string a0, .string a1, .int .i64 a2, .int .i64 a3] 37) = wb at K BW RA B1 RD ⊢
                    generalize wr.heap.size = gB at K ⊢
                    have hKP : ∀ W, Bel wb W → (fun W => Bel wb W ∧ W.cell? ⟨gB, 0, none⟩ = some (.string a0) ∧ W.cell? ⟨gB, 1, none⟩ = some (.string a1) ∧ W.cell? ⟨gB, 2, none⟩ = some (.int .i64 a2) ∧ W.cell? ⟨gB, 3, none⟩ = some (.int .i64 a3) ∧ W.cell? (ad.add (j * 4)) = some (.string y0) ∧ W.cell? ⟨(ad.add (j * 4)).block, (ad.add (j * 4)).off + 1, none⟩ = some (.string y1) ∧ W.cell? ⟨(ad.add (j * 4)).block, (ad.add (j * 4)).off + 2, none⟩ = some (.int .i64 y2) ∧ W.cell? ⟨(ad.add (j * 4)).block, (ad.add (j * 4)).off + 3, none⟩ = some (.int .i64 y3)) W := fun W b => ⟨b, b.cell_ (K.out.cell 0 rfl), b.cell_ (K.out.cell 1 rfl), b.cell_ (K.out.cell 2 rfl), b.cell_ (K.out.cell 3 rfl), b.cell_ RD.out.1, b.cell_ RD.out.2.1, b.cell_ RD.out.2.2.1, b.cell_ RD.out.2.2.2⟩
                    have HKP := hid_ hKP
                    clear hKP
                    go_region_held3 (fun W => Bel wb W ∧ W.cell? ⟨gB, 0, none⟩ = some (.string a0) ∧ W.cell? ⟨gB, 1, none⟩ = some (.string a1) ∧ W.cell? ⟨gB, 2, none⟩ = some (.int .i64 a2) ∧ W.cell? ⟨gB, 3, none⟩ = some (.int .i64 a3) ∧ W.cell? (ad.add (j * 4)) = some (.string y0) ∧ W.cell? ⟨(ad.add (j * 4)).block, (ad.add (j * 4)).off + 1, none⟩ = some (.string y1) ∧ W.cell? ⟨(ad.add (j * 4)).block, (ad.add (j * 4)).off + 2, none⟩ = some (.int .i64 y2) ∧ W.cell? ⟨(ad.add (j * 4)).block, (ad.add (j * 4)).off + 3, none⟩ = some (.int .i64 y3)) ((refine HKP.out _ ?_; (repeat first | with_reducible exact Bel.refl _ | with_reducible exact bz0 | with_reducible exact bz1 | with_reducible exact bz2 | with_reducible exact bz3 | with_reducible apply Bel.drew | with_reducible apply Bel.alloc)))
                      (first
                        | (go_at_call 32; refine' Calls.mono (names_any a0 a1 _ SZ.out.1 SZ.out.2) ?_; rintro e w9 ⟨rfl, b9⟩; have bz0 : Bel wb w9 := Bel.trans (by (repeat first | with_reducible exact Bel.refl _ | with_reducible exact bz0 | with_reducible exact bz1 | with_reducible exact bz2 | with_reducible exact bz3 | with_reducible apply Bel.drew | with_reducible apply Bel.alloc)) b9; rw [HNB.out])
                        | (go_at_call 34; refine' Calls.mono (of_acc y0 y1 y2 y3 _) ?_; rintro e w9 ⟨rfl, b9⟩; have bz1 : Bel wb w9 := Bel.trans (by (repeat first | with_reducible exact Bel.refl _ | with_reducible exact bz0 | with_reducible exact bz1 | with_reducible exact bz2 | with_reducible exact bz3 | with_reducible apply Bel.drew | with_reducible apply Bel.alloc)) b9)
                        | (go_at_call 34; refine' Calls.mono (of_acc a0 a1 a2 a3 _) ?_; rintro e w9 ⟨rfl, b9⟩; have bz2 : Bel wb w9 := Bel.trans (by (repeat first | with_reducible exact Bel.refl _ | with_reducible exact bz0 | with_reducible exact bz1 | with_reducible exact bz2 | with_reducible exact bz3 | with_reducible apply Bel.drew | with_reducible apply Bel.alloc)) b9)
                        | (go_at_call 33; refine' Calls.mono (order_any y0 y1 a0 a1 _) ?_; rintro e w9 ⟨rfl, b9⟩; have bz3 : Bel wb w9 := Bel.trans (by (repeat first | with_reducible exact Bel.refl _ | with_reducible exact bz0 | with_reducible exact bz1 | with_reducible exact bz2 | with_reducible exact bz3 | with_reducible apply Bel.drew | with_reducible apply Bel.alloc)) b9; rw [HR.out]))
                    clear HKP
                    go_wp2
                    go_ret
                    exact ⟨by rw [HF.out]; rfl, BW.out.trans (by (repeat first | with_reducible exact Bel.refl _ | with_reducible exact bz0 | with_reducible exact bz1 | with_reducible exact bz2 | with_reducible exact bz3 | with_reducible apply Bel.drew | with_reducible apply Bel.alloc))⟩
                  · have HX : Hid (OkL (l.take (j + 1 + 1))) := hid_ (okL_step hx.out HO.out HOK.out (fun i y e h => by obtain rfl : i = j := (Nat.succ.inj e).symm; rw [HY.out] at h; cases h; exact cmpP_neg.1 (by rw [show cmpP (Acc.plc ⟨y0, y1, y2, y3⟩) (Acc.plc ⟨a0, a1, a2, a3⟩) = r from HR.out]; omega)))
                    clear hx HOK
                    go_upto_region 7 with (fail)
                    generalize wr.alloc (.cells #[.string a0, .string a1, .int .i64 a2, .int .i64 a3] 37) = wb at K BW RA B1 RD ⊢
                    generalize wr.heap.size = gB at K ⊢
                    have hKP : ∀ W, Bel wb W → (fun W => Bel wb W ∧ W.cell? ⟨gB, 0, none⟩ = some (.string a0) ∧ W.cell? ⟨gB, 1, none⟩ = some (.string a1) ∧ W.cell? ⟨gB, 2, none⟩ = some (.int .i64 a2) ∧ W.cell? ⟨gB, 3, none⟩ = some (.int .i64 a3) ∧ W.cell? (ad.add (j * 4)) = some (.string y0) ∧ W.cell? ⟨(ad.add (j * 4)).block, (ad.add (j * 4)).off + 1, none⟩ = some (.string y1) ∧ W.cell? ⟨(ad.add (j * 4)).block, (ad.add (j * 4)).off + 2, none⟩ = some (.int .i64 y2) ∧ W.cell? ⟨(ad.add (j * 4)).block, (ad.add (j * 4)).off + 3, none⟩ = some (.int .i64 y3)) W := fun W b => ⟨b, b.cell_ (K.out.cell 0 rfl), b.cell_ (K.out.cell 1 rfl), b.cell_ (K.out.cell 2 rfl), b.cell_ (K.out.cell 3 rfl), b.cell_ RD.out.1, b.cell_ RD.out.2.1, b.cell_ RD.out.2.2.1, b.cell_ RD.out.2.2.2⟩
                    have HKP := hid_ hKP
                    clear hKP
                    go_region_held3 (fun W => Bel wb W ∧ W.cell? ⟨gB, 0, none⟩ = some (.string a0) ∧ W.cell? ⟨gB, 1, none⟩ = some (.string a1) ∧ W.cell? ⟨gB, 2, none⟩ = some (.int .i64 a2) ∧ W.cell? ⟨gB, 3, none⟩ = some (.int .i64 a3) ∧ W.cell? (ad.add (j * 4)) = some (.string y0) ∧ W.cell? ⟨(ad.add (j * 4)).block, (ad.add (j * 4)).off + 1, none⟩ = some (.string y1) ∧ W.cell? ⟨(ad.add (j * 4)).block, (ad.add (j * 4)).off + 2, none⟩ = some (.int .i64 y2) ∧ W.cell? ⟨(ad.add (j * 4)).block, (ad.add (j * 4)).off + 3, none⟩ = some (.int .i64 y3)) ((refine HKP.out _ ?_; (repeat first | with_reducible exact Bel.refl _ | with_reducible exact bz0 | with_reducible exact bz1 | with_reducible exact bz2 | with_reducible exact bz3 | with_reducible apply Bel.drew | with_reducible apply Bel.alloc)))
                      (first
                        | (go_at_call 32; refine' Calls.mono (names_any a0 a1 _ SZ.out.1 SZ.out.2) ?_; rintro e w9 ⟨rfl, b9⟩; have bz0 : Bel wb w9 := Bel.trans (by (repeat first | with_reducible exact Bel.refl _ | with_reducible exact bz0 | with_reducible exact bz1 | with_reducible exact bz2 | with_reducible exact bz3 | with_reducible apply Bel.drew | with_reducible apply Bel.alloc)) b9; rw [HNB.out])
                        | (go_at_call 34; refine' Calls.mono (of_acc y0 y1 y2 y3 _) ?_; rintro e w9 ⟨rfl, b9⟩; have bz1 : Bel wb w9 := Bel.trans (by (repeat first | with_reducible exact Bel.refl _ | with_reducible exact bz0 | with_reducible exact bz1 | with_reducible exact bz2 | with_reducible exact bz3 | with_reducible apply Bel.drew | with_reducible apply Bel.alloc)) b9)
                        | (go_at_call 34; refine' Calls.mono (of_acc a0 a1 a2 a3 _) ?_; rintro e w9 ⟨rfl, b9⟩; have bz2 : Bel wb w9 := Bel.trans (by (repeat first | with_reducible exact Bel.refl _ | with_reducible exact bz0 | with_reducible exact bz1 | with_reducible exact bz2 | with_reducible exact bz3 | with_reducible apply Bel.drew | with_reducible apply Bel.alloc)) b9)
                        | (go_at_call 33; refine' Calls.mono (order_any y0 y1 a0 a1 _) ?_; rintro e w9 ⟨rfl, b9⟩; have bz3 : Bel wb w9 := Bel.trans (by (repeat first | with_reducible exact Bel.refl _ | with_reducible exact bz0 | with_reducible exact bz1 | with_reducible exact bz2 | with_reducible exact bz3 | with_reducible apply Bel.drew | with_reducible apply Bel.alloc)) b9; rw [HR.out]))
                    clear HKP
                    go_wp2
                    case roundEnd =>
                      go_roundw
                      case rel => exact ⟨j + 1 + 1, JN.out, by go_num, HX, BW.out.trans (by (repeat first | with_reducible exact Bel.refl _ | with_reducible exact bz0 | with_reducible exact bz1 | with_reducible exact bz2 | with_reducible exact bz3 | with_reducible apply Bel.drew | with_reducible apply Bel.alloc))⟩
                      case measure => simp [intOf]; omega
          · have HF : Hid (re = 110) := hid_ (by rw [← HRE.out]; exact okL_bad1 HO.out (fun h => g2 (h.some_ CW.out).2))
            clear hx HRE
            go_upto_region 7 with (fail)
            generalize wr.alloc (.cells #[.string a0, .string a1, .int .i64 a2, .int .i64 a3] 37) = wb at K BW RA B1 ⊢
            generalize wr.heap.size = gB at K ⊢
            have z0 := K.out.cell 0 rfl
            have z1 := K.out.cell 1 rfl
            have z2c := K.out.cell 2 rfl
            have z3c := K.out.cell 3 rfl
            go_quiet (fail)
            go_wp2
            go_ret
            exact ⟨by rw [HF.out]; rfl, BW.out.drewN _⟩
        · have HF : Hid (re = 110) := hid_ (by rw [← HRE.out]; exact okL_bad1 HO.out (fun h => g1 (h.some_ CW.out).1))
          clear hx HRE
          go_upto_region 7 with (fail)
          generalize wr.alloc (.cells #[.string a0, .string a1, .int .i64 a2, .int .i64 a3] 37) = wb at K BW RA B1 ⊢
          generalize wr.heap.size = gB at K ⊢
          have z0 := K.out.cell 0 rfl
          have z1 := K.out.cell 1 rfl
          have z2c := K.out.cell 2 rfl
          have z3c := K.out.cell 3 rfl
          go_quiet (fail)
          go_wp2
          go_ret
          exact ⟨by rw [HF.out]; rfl, BW.out.drewN _⟩
    · obtain rfl : k = n := by omega
      have HF : Hid (re = 0) := hid_ (by
        have h := hx.out
        rw [← HL.out, List.take_length] at h
        rw [← HRE.out]
        unfold chkAE
        rw [if_pos (okL_iff.2 h)])
      clear hx
      go_wp2
      go_ret
      exact ⟨by rw [HF.out]; rfl, hbr⟩
end Go.Proofs.YtnpinolhhnpniaaGreat
