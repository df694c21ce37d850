/- account.with. -/
import Derived.Test.YtlddpkbdmbafbaaAc4
import Derived.Test.YtlddpkbdmbafbaaAc5
set_option linter.unusedSimpArgs false
set_option linter.unusedVariables false
namespace Go.Proofs.Ytlddpkbdmbafbaa
open Go.RowKit Go.Lib Go.Sort Go.Shelf
set_option maxRecDepth 10000 in
set_option maxHeartbeats 2000000 in
theorem with_any (A : Option Addr) (n c : Nat) (l : List Acc) (a0 a1 : ByteArray) (a2 a3 : Int) (w : World) (hA : Row accT w A n l) (hnc : n ≤ c) (hs : Srt l) (hn : n ≤ 99999) :
    Calls Try.prog 137 #[.slice A n c, .agg #[.string a0, .string a1, .int .i64 a2, .int .i64 a3]] w fun e w' => ∃ v, e = .returned v ∧ Own accT w' w.heap.size v (withA l ⟨a0, a1, a2, a3⟩) ∧ Bel w w' := by
  have HS := hid_ hs
  have HL := hid_ hA.1
  have HNC := hid_ hnc
  have HN := hid_ hn
  have hA63 := hA.2.1
  obtain ⟨ro, hro⟩ : ∃ r, withA l ⟨a0, a1, a2, a3⟩ = r := ⟨_, rfl⟩
  rw [hro]
  have HRO := hid_ hro
  clear hs hnc hn hro
  have k0 := Bx.new w 65 [.string a0, .string a1, .int .i64 a2, .int .i64 a3]
  have k0 : Bx (w.alloc (.cells #[.string a0, .string a1, .int .i64 a2, .int .i64 a3] 65)) (w.heap.size) 65 [.string a0, .string a1, .int .i64 a2, .int .i64 a3] := k0
  have kB : Bel w (w.alloc (.cells #[.string a0, .string a1, .int .i64 a2, .int .i64 a3] 65)) := (Bel.refl w).alloc _
  have FO := hid_ k0
  have FB := hid_ kB
  clear k0 kB
  have FA := hid_ (hA.bel FB.out)
  clear hA
  go_enter Try.func137, Try.ntmps137
  go_wp2_with fail
  generalize (w.alloc (.cells #[.string a0, .string a1, .int .i64 a2, .int .i64 a3] 65)) = W0 at FO FB FA ⊢
  obtain ⟨gO, hgO⟩ : ∃ g, w.heap.size = g := ⟨_, rfl⟩
  have HGO := hid_ hgO
  rw [hgO] at FO
  try rw [hgO]
  clear hgO
  have qO0 := FO.out.cell 0 rfl
  have qO1 := FO.out.cell 1 rfl
  have qO2 := FO.out.cell 2 rfl
  have qO3 := FO.out.cell 3 rfl
  go_wp2_with fail
  refine (of_acc a0 a1 a2 a3 _).mono ?_
  rintro e v1 ⟨rfl, b⟩
  have bb := b
  have f1O := hid_ (FO.out.bel bb)
  have f1B := hid_ (FB.out.trans bb)
  have f1A := hid_ (FA.out.bel bb)
  clear b bb FO FB FA qO0 qO1 qO2 qO3
  go_wp2_with fail
  refine (seek_any A n c l a0 a1 _ f1A.out HS.out).mono ?_
  rintro e v2 ⟨rfl, b⟩
  have bb := b
  have f2O := hid_ (f1O.out.bel bb)
  have f2B := hid_ (f1B.out.trans bb)
  have f2A := hid_ (f1A.out.bel bb)
  clear b bb f1O f1B f1A
  obtain ⟨k, hk⟩ : ∃ k, cntA l ⟨a0, a1⟩ = k := ⟨_, rfl⟩
  obtain ⟨is, his⟩ : ∃ is, isA l ⟨a0, a1⟩ = is := ⟨_, rfl⟩
  rw [hk, his]
  have hkn : k ≤ n := by have := cnt_le l ⟨a0, a1⟩; rw [hk, HL.out] at this; exact this
  have HK : Hid (cntA l ⟨a0, a1⟩ = k ∧ isA l ⟨a0, a1⟩ = is) := hid_ ⟨hk, his⟩
  have HM : Hid (k + is.toNat ≤ n) := hid_ (by
    obtain ⟨L, M, R, hC⟩ := srt_cut HS.out ⟨a0, a1⟩
    have h1 := HK.out.1
    have h2 := HK.out.2
    rw [hC.cnt] at h1
    rw [hC.is] at h2
    rw [← h1, ← h2, ← HL.out, hC.eq, List.length_append, List.length_append]
    cases M <;> simp)
  clear hk his
  have hto := fun W => accS.cutTo (P := Try.prog) .i64 A n c k (Nat.le_trans hkn HNC.out) W
  have HTO := hid_ (f2A.out.take_ hkn)
  have i0 : (0 : Int) ≤ (k : Int) := by omega
  have i1 : (k : Int) ≤ (n : Int) := by omega
  have i2 : n ≤ 99999 := HN.out
  have qO0 := f2O.out.cell 0 rfl
  have qO1 := f2O.out.cell 1 rfl
  have qO2 := f2O.out.cell 2 rfl
  have qO3 := f2O.out.cell 3 rfl
  cases is
  · have hmn : k ≤ n := HM.out
    obtain ⟨A', hcut, hrow⟩ := accS.cutFrom (P := Try.prog) .i64 A n c k hmn HNC.out
    have HROW := hid_ (hrow _ _ f2A.out)
    clear hrow
    by_cases hz : a2 = 0
    · have hq : (a2 == 0) = true := by simp [hz]
      have HXY : Hid ([l.take k, l.drop k].flatten = ro) := hid_ (by rw [← HRO.out]; unfold withA; rw [if_pos hz]; unfold toA; rw [show Acc.plc ⟨a0, a1, a2, a3⟩ = ⟨a0, a1⟩ from rfl, HK.out.1, HK.out.2]; simp)
      have HL9 : Hid ([l.take k, l.drop k].flatten.length ≤ 100000) := hid_ (by have h3 := HL.out; simp; omega)
      clear hz
      go_wp2_with fail
      have hKP : ∀ W, Bel v2 W → (fun W => Bel v2 W) W := fun W b => b
      have HKP := hid_ hKP
      clear hKP
      go_region_held3 (fun W => Bel v2 W) ((refine HKP.out _ ?_; (repeat first | with_reducible exact Bel.refl _ | with_reducible exact bz | with_reducible apply Bel.drew | with_reducible apply Bel.alloc)))
        (first | (go_at_call 152; refine' Calls.mono (concatA_any _ 2 2 [(A, k, c), (A', n - k, c - k)] [l.take k, l.drop k] _ (litTwoA v2 _ A A' k (n - k) c (c - k) _ rfl (Bel.refl _).drew) (rowsTwoA _ _ _ _ _ _ _ _ _ (HTO.out.bel ((Bel.refl v2).alloc _).drew) (HROW.out.bel ((Bel.refl v2).alloc _).drew)) HL9.out) ?_; rintro e w9 ⟨v9, rfl, oo, b9⟩; have bz : Bel v2 w9 := ((Bel.refl v2).alloc _).drew.trans b9))
      clear HKP
      rw [HXY.out] at oo
      have HO := hid_ (oo.mono_ (show w.heap.size ≤ _ from Nat.le_trans f2B.out.size_ (((Bel.refl v2).alloc _).drew).size_))
      have HB := hid_ (f2B.out.trans bz)
      clear oo bz b9
      go_wp2
      go_ret
      exact ⟨_, rfl, HO.out, HB.out⟩
    · have hq : (a2 == 0) = false := by simp [hz]
      have HXY : Hid ([l.take k, [⟨a0, a1, a2, a3⟩], l.drop k].flatten = ro) := hid_ (by rw [← HRO.out]; unfold withA; rw [if_neg hz]; unfold toA; rw [show Acc.plc ⟨a0, a1, a2, a3⟩ = ⟨a0, a1⟩ from rfl, HK.out.1, HK.out.2]; simp)
      have HL9 : Hid ([l.take k, [⟨a0, a1, a2, a3⟩], l.drop k].flatten.length ≤ 100000) := hid_ (by have h3 := HL.out; simp; omega)
      have hz9 : v2.heap.size + 1 = (v2.alloc (.cells #[.string a0, .string a1, .int .i64 a2, .int .i64 a3] 65)).heap.size := by simp
      have HZ9 := hid_ hz9
      clear hz9
      clear hz
      go_wp2_with fail
      have hKP : ∀ W, Bel v2 W → (fun W => Bel v2 W ∧ W.cell? ⟨gO, 0, none⟩ = some (.string a0) ∧ W.cell? ⟨gO, 1, none⟩ = some (.string a1) ∧ W.cell? ⟨gO, 2, none⟩ = some (.int .i64 a2) ∧ W.cell? ⟨gO, 3, none⟩ = some (.int .i64 a3)) W := fun W b => ⟨b, b.cell_ (f2O.out.cell 0 rfl), b.cell_ (f2O.out.cell 1 rfl), b.cell_ (f2O.out.cell 2 rfl), b.cell_ (f2O.out.cell 3 rfl)⟩
      have HKP := hid_ hKP
      clear hKP
      go_region_held3 (fun W => Bel v2 W ∧ W.cell? ⟨gO, 0, none⟩ = some (.string a0) ∧ W.cell? ⟨gO, 1, none⟩ = some (.string a1) ∧ W.cell? ⟨gO, 2, none⟩ = some (.int .i64 a2) ∧ W.cell? ⟨gO, 3, none⟩ = some (.int .i64 a3)) ((refine HKP.out _ ?_; (repeat first | with_reducible exact Bel.refl _ | with_reducible exact bz | with_reducible apply Bel.drew | with_reducible apply Bel.alloc)))
        (first | (go_at_call 152; refine' Calls.mono (concatA_any _ 3 3 [(A, k, c), (some ⟨v2.heap.size, 0, none⟩, 1, 1), (A', n - k, c - k)] [l.take k, [⟨a0, a1, a2, a3⟩], l.drop k] _ (litThreeA _ _ A (some ⟨v2.heap.size, 0, none⟩) A' k 1 (n - k) c 1 (c - k) _ HZ9.out (Bel.refl _).drew) (rowsThreeA _ _ _ _ _ _ _ _ _ _ _ _ _ (HTO.out.bel (((Bel.refl v2).alloc _).alloc _).drew) ((Row.one (T := accT) (W := v2) ⟨a0, a1, a2, a3⟩ rfl rfl).bel ((Bel.refl _).alloc _).drew) (HROW.out.bel (((Bel.refl v2).alloc _).alloc _).drew)) HL9.out) ?_; rintro e w9 ⟨v9, rfl, oo, b9⟩; have bz : Bel v2 w9 := (((Bel.refl v2).alloc _).alloc _).drew.trans b9))
      clear HKP
      rw [HXY.out] at oo
      have HO := hid_ (oo.mono_ (show w.heap.size ≤ _ from Nat.le_trans f2B.out.size_ ((((Bel.refl v2).alloc _).alloc _).drew).size_))
      have HB := hid_ (f2B.out.trans bz)
      clear oo bz b9
      go_wp2
      go_ret
      exact ⟨_, rfl, HO.out, HB.out⟩
  · have hmn : (k + 1) ≤ n := HM.out
    obtain ⟨A', hcut, hrow⟩ := accS.cutFrom (P := Try.prog) .i64 A n c (k + 1) hmn HNC.out
    have HROW := hid_ (hrow _ _ f2A.out)
    clear hrow
    have ei : ((k + 1 : Nat) : Int) = (k : Int) + 1 := by omega
    simp only [ei] at hcut
    clear ei
    have i3 : (k : Int) + 1 ≤ (n : Int) := by omega
    by_cases hz : a2 = 0
    · have hq : (a2 == 0) = true := by simp [hz]
      have HXY : Hid ([l.take k, l.drop (k + 1)].flatten = ro) := hid_ (by rw [← HRO.out]; unfold withA; rw [if_pos hz]; unfold toA; rw [show Acc.plc ⟨a0, a1, a2, a3⟩ = ⟨a0, a1⟩ from rfl, HK.out.1, HK.out.2]; simp)
      have HL9 : Hid ([l.take k, l.drop (k + 1)].flatten.length ≤ 100000) := hid_ (by have h3 := HL.out; simp; omega)
      clear hz
      go_wp2_with fail
      have hKP : ∀ W, Bel v2 W → (fun W => Bel v2 W) W := fun W b => b
      have HKP := hid_ hKP
      clear hKP
      go_region_held3 (fun W => Bel v2 W) ((refine HKP.out _ ?_; (repeat first | with_reducible exact Bel.refl _ | with_reducible exact bz | with_reducible apply Bel.drew | with_reducible apply Bel.alloc)))
        (first | (go_at_call 152; refine' Calls.mono (concatA_any _ 2 2 [(A, k, c), (A', n - (k + 1), c - (k + 1))] [l.take k, l.drop (k + 1)] _ (litTwoA v2 _ A A' k (n - (k + 1)) c (c - (k + 1)) _ rfl (Bel.refl _).drew) (rowsTwoA _ _ _ _ _ _ _ _ _ (HTO.out.bel ((Bel.refl v2).alloc _).drew) (HROW.out.bel ((Bel.refl v2).alloc _).drew)) HL9.out) ?_; rintro e w9 ⟨v9, rfl, oo, b9⟩; have bz : Bel v2 w9 := ((Bel.refl v2).alloc _).drew.trans b9))
      clear HKP
      rw [HXY.out] at oo
      have HO := hid_ (oo.mono_ (show w.heap.size ≤ _ from Nat.le_trans f2B.out.size_ (((Bel.refl v2).alloc _).drew).size_))
      have HB := hid_ (f2B.out.trans bz)
      clear oo bz b9
      go_wp2
      go_ret
      exact ⟨_, rfl, HO.out, HB.out⟩
    · have hq : (a2 == 0) = false := by simp [hz]
      have HXY : Hid ([l.take k, [⟨a0, a1, a2, a3⟩], l.drop (k + 1)].flatten = ro) := hid_ (by rw [← HRO.out]; unfold withA; rw [if_neg hz]; unfold toA; rw [show Acc.plc ⟨a0, a1, a2, a3⟩ = ⟨a0, a1⟩ from rfl, HK.out.1, HK.out.2]; simp)
      have HL9 : Hid ([l.take k, [⟨a0, a1, a2, a3⟩], l.drop (k + 1)].flatten.length ≤ 100000) := hid_ (by have h3 := HL.out; simp; omega)
      have hz9 : v2.heap.size + 1 = (v2.alloc (.cells #[.string a0, .string a1, .int .i64 a2, .int .i64 a3] 65)).heap.size := by simp
      have HZ9 := hid_ hz9
      clear hz9
      clear hz
      go_wp2_with fail
      have hKP : ∀ W, Bel v2 W → (fun W => Bel v2 W ∧ W.cell? ⟨gO, 0, none⟩ = some (.string a0) ∧ W.cell? ⟨gO, 1, none⟩ = some (.string a1) ∧ W.cell? ⟨gO, 2, none⟩ = some (.int .i64 a2) ∧ W.cell? ⟨gO, 3, none⟩ = some (.int .i64 a3)) W := fun W b => ⟨b, b.cell_ (f2O.out.cell 0 rfl), b.cell_ (f2O.out.cell 1 rfl), b.cell_ (f2O.out.cell 2 rfl), b.cell_ (f2O.out.cell 3 rfl)⟩
      have HKP := hid_ hKP
      clear hKP
      go_region_held3 (fun W => Bel v2 W ∧ W.cell? ⟨gO, 0, none⟩ = some (.string a0) ∧ W.cell? ⟨gO, 1, none⟩ = some (.string a1) ∧ W.cell? ⟨gO, 2, none⟩ = some (.int .i64 a2) ∧ W.cell? ⟨gO, 3, none⟩ = some (.int .i64 a3)) ((refine HKP.out _ ?_; (repeat first | with_reducible exact Bel.refl _ | with_reducible exact bz | with_reducible apply Bel.drew | with_reducible apply Bel.alloc)))
        (first | (go_at_call 152; refine' Calls.mono (concatA_any _ 3 3 [(A, k, c), (some ⟨v2.heap.size, 0, none⟩, 1, 1), (A', n - (k + 1), c - (k + 1))] [l.take k, [⟨a0, a1, a2, a3⟩], l.drop (k + 1)] _ (litThreeA _ _ A (some ⟨v2.heap.size, 0, none⟩) A' k 1 (n - (k + 1)) c 1 (c - (k + 1)) _ HZ9.out (Bel.refl _).drew) (rowsThreeA _ _ _ _ _ _ _ _ _ _ _ _ _ (HTO.out.bel (((Bel.refl v2).alloc _).alloc _).drew) ((Row.one (T := accT) (W := v2) ⟨a0, a1, a2, a3⟩ rfl rfl).bel ((Bel.refl _).alloc _).drew) (HROW.out.bel (((Bel.refl v2).alloc _).alloc _).drew)) HL9.out) ?_; rintro e w9 ⟨v9, rfl, oo, b9⟩; have bz : Bel v2 w9 := (((Bel.refl v2).alloc _).alloc _).drew.trans b9))
      clear HKP
      rw [HXY.out] at oo
      have HO := hid_ (oo.mono_ (show w.heap.size ≤ _ from Nat.le_trans f2B.out.size_ ((((Bel.refl v2).alloc _).alloc _).drew).size_))
      have HB := hid_ (f2B.out.trans bz)
      clear oo bz b9
      go_wp2
      go_ret
      exact ⟨_, rfl, HO.out, HB.out⟩
end Go.Proofs.Ytlddpkbdmbafbaa
