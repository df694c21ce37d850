/- label's functions at texts of any length. -/
import Derived.Test.YtnpinolhhnpniaaGreatNv2
import Derived.Lib.ConvBytes
import Derived.Shelf.RegionOpenPlain
set_option linter.unusedSimpArgs false
set_option linter.unusedVariables false
namespace Go.Proofs.YtnpinolhhnpniaaGreat
open Go.RowKit Go.Lib
set_option maxRecDepth 10000 in
set_option maxHeartbeats 1000000 in
theorem of_big (s : ByteArray) (most : Int) (A : Option Addr) (n k : Nat) (signs : List ByteArray) (w : World) (hA : Row strT w A n signs) (hs : s.size ≤ 9223372036854775807) :
    Calls Tryz.prog 70 #[.string s, .int .i64 most, .slice A n k] w fun e w' => e = .returned (.bool (ofB s most signs)) ∧ Bel w w' := by
  have hmf : ∀ (fn : Fn) (first cap : Array Value) (w : World), (Instr.makeFunc fn first cap).run Tryz.prog w = .ok (.func fn first cap) w := fun _ _ _ _ => rfl
  have hcv : ∀ W : World, (convert 9 118 (.string s)).run Tryz.prog W = .ok (.slice (some ⟨W.heap.size, 0, none⟩) s.size (grownCap W s.size 0 5)) (bytesWorld W 5 s) := fun W => Go.Lib.run_convert_string_bytes W _ _ _ s Tryz.underlying9 Tryz.underlying118 Tryz.underlying5
  have hb : Bel w (bytesWorld (w.alloc (.cells #[.slice A n k] 115)) 5 s) := ((Bel.refl w).alloc _).trans (belBytes _ _ _)
  have rb := rowBytes (w.alloc (.cells #[.slice A n k] 115)) s (by omega)
  rw [World.size_alloc] at rb
  have kb := (belBytes (w.alloc (.cells #[.slice A n k] 115)) 5 s).cell_ (cellNew w #[.slice A n k] 115 (0, 0) w.heap.size 0 rfl)
  have rA := hA.bel hb
  have HB := hid_ hb
  have RB := hid_ rb
  have KB := hid_ kb
  have RA := hid_ rA
  have hs63 : s.size ≤ 9223372036854775807 := by omega
  clear hb rb kb rA hs
  go_enter Tryz.func70, Tryz.ntmps70
  go_wp2_with fail
  generalize bytesWorld (w.alloc (.cells #[.slice A n k] 115)) 5 s = W1 at HB RB KB RA ⊢
  generalize grownCap (w.alloc (.cells #[.slice A n k] 115)) s.size 0 5 = G
  clear hcv hmf
  go_loop [9, 14] (fun _ i => ∃ j : Nat, j ≤ s.size ∧ i = .int .i64 j ∧ Hid ((s.data.toList.take j).all (signB signs) = true)) (fun _ i => s.size - (intOf i).toNat)
  case atStart => exact ⟨0, Nat.zero_le _, rfl, rfl⟩
  case round =>
    obtain ⟨j, hj, rfl, hx⟩ := hrel
    by_cases hjn : j < s.size
    · obtain ⟨ad, c, e, ho, d0⟩ := RB.out.byte hjn
      cases e
      rw [add0] at d0
      have hst := all_take' (signB signs) s.data.toList j ho
      have htr := all_false' (signB signs) s.data.toList j ho
      have HST := hid_ hst
      have HTR := hid_ htr
      have hadd : (⟨w.heap.size + 1, 0, none⟩ : Addr).add j = ⟨w.heap.size + 1, j, none⟩ := add0 _ _
      clear hst htr ho
      go_wp2_with fail
      refine (ofIn_any w.heap.size c A n k signs _ KB.out RA.out).mono ?_
      rintro e W2 ⟨rfl, hW⟩
      subst hW
      obtain ⟨b, hbb⟩ : ∃ b, signB signs c = b := ⟨_, rfl⟩
      rw [hbb]
      have HBB := hid_ hbb
      clear hbb
      cases b
      · have HF : Hid (ofB s most signs = false) := hid_ (by unfold ofB; rw [HTR.out HBB.out]; rfl)
        clear HTR HST
        go_wp2
        go_ret
        exact ⟨by rw [HF.out]; rfl, HB.out⟩
      · have HF : Hid ((s.data.toList.take (j + 1)).all (signB signs) = true) := hid_ (by rw [HST.out, hx.out, HBB.out]; rfl)
        clear HTR HST hx
        go_wp2
        case roundEnd =>
          go_round
          case rel => exact ⟨j + 1, by omega, by go_num, HF⟩
          case measure => simp [intOf]; omega
    · have hjn' : j = s.size := by omega
      subst hjn'
      have hfull : s.data.toList.take s.size = s.data.toList := by
        have : s.data.toList.length = s.size := by simp
        rw [← this, List.take_length]
      have HF : Hid (ofB s most signs = (decide (1 ≤ s.size) && decide ((s.size : Int) ≤ most))) := hid_ (by
        have h1 := hx.out
        rw [hfull] at h1
        unfold ofB
        rw [h1]
        rfl)
      clear hx hfull
      by_cases h1 : (1 : Int) ≤ (s.size : Int)
      · by_cases h2 : (s.size : Int) ≤ most
        · have HF2 : Hid (ofB s most signs = true) := hid_ (by rw [HF.out, decide_eq_true (show 1 ≤ s.size by omega), decide_eq_true h2]; rfl)
          clear HF
          go_wp2
          go_ret
          exact ⟨by rw [HF2.out]; rfl, HB.out⟩
        · have HF2 : Hid (ofB s most signs = false) := hid_ (by rw [HF.out, decide_eq_false h2, Bool.and_false])
          clear HF
          go_wp2
          go_ret
          exact ⟨by rw [HF2.out]; rfl, HB.out⟩
      · have HF2 : Hid (ofB s most signs = false) := hid_ (by rw [HF.out, decide_eq_false (show ¬ 1 ≤ s.size by omega), Bool.false_and])
        clear HF
        go_wp2
        go_ret
        exact ⟨by rw [HF2.out]; rfl, HB.out⟩
set_option maxRecDepth 10000 in
set_option maxHeartbeats 1000000 in
theorem asset_big (s : ByteArray) (w : World) (hs : s.size ≤ 9223372036854775807) :
    Calls Tryz.prog 55 #[.string s] w fun e w' => e = .returned (.bool (assetB s)) ∧ Bel w w' := by
  go_enter Tryz.func55, Tryz.ntmps55
  go_wp2_with fail
  refine (of_big s 6 _ 1 1 [largeS] _ (Row.one (T := strT) largeS rfl rfl) hs).mono ?_
  rintro e w1 ⟨rfl, b⟩
  rw [of_asset]
  have HB := hid_ (((Bel.refl w).alloc _).trans b)
  clear b
  go_wp2
  go_ret
  exact ⟨rfl, HB.out⟩
set_option maxRecDepth 10000 in
set_option maxHeartbeats 1000000 in
theorem who_big (s : ByteArray) (w : World) (hs : s.size ≤ 9223372036854775807) :
    Calls Tryz.prog 54 #[.string s] w fun e w' => e = .returned (.bool (whoB s)) ∧ Bel w w' := by
  go_enter Tryz.func54, Tryz.ntmps54
  go_wp2_with fail
  refine (of_big s 8 _ 2 2 [smallS, digitS] _ (Row.lit (T := strT) w [smallS, digitS] (0, 0) (by decide)) hs).mono ?_
  rintro e w1 ⟨rfl, b⟩
  have HB := hid_ (((Bel.refl w).alloc _).trans b)
  clear b
  obtain ⟨q, hq⟩ : ∃ q, ofB s 8 [smallS, digitS] = q := ⟨_, rfl⟩
  rw [hq]
  have hw := of_who s
  rw [hq] at hw
  have HW := hid_ hw
  clear hq hw
  cases q
  · have HF : Hid (whoB s = false) := hid_ (by unfold whoB; rw [← HW.out]; rfl)
    go_wp2
    go_ret
    exact ⟨by rw [HF.out]; rfl, HB.out⟩
  · have h1 : 1 ≤ s.size := by
      have := HW.out
      simp at this
      omega
    have h1' : (1 : Int) ≤ (s.size : Int) := by omega
    have HF : Hid (whoB s = ofB (s.extract 0 1) 1 [smallS]) := hid_ (by unfold whoB; rw [← HW.out, of_first s h1]; rfl)
    have hsz : (s.extract 0 1).size ≤ 9223372036854775807 := by rw [ByteArray.size_extract]; omega
    have HSZ := hid_ hsz
    clear hsz h1
    go_wp2_with fail
    refine (of_big (s.extract 0 1) 1 _ 1 1 [smallS] _ (Row.one (T := strT) smallS rfl rfl) HSZ.out).mono ?_
    rintro e w2 ⟨rfl, b⟩
    have HB2 := hid_ ((HB.out.alloc _).trans b)
    rw [← HF.out]
    clear b
    go_wp2
    go_ret
    exact ⟨rfl, HB2.out⟩
end Go.Proofs.YtnpinolhhnpniaaGreat
