/- page.body of a leaf: the walk. -/
import Derived.Test.YtcfabnkkkpcelaaPg4
import Derived.Test.YtcfabnkkkpcelaaPgE1
import Derived.Deep.DeepCutAuto
set_option linter.unusedSimpArgs false
set_option linter.unusedVariables false
namespace Go.Proofs.Ytcfabnkkkpcelaa
open Go.RowKit
set_option maxRecDepth 10000 in
set_option maxHeartbeats 4000000 in
theorem body1_any (P : Pg) (A B C D : Option Addr) (n c m d k e l f : Nat) (w : World) (hP : PgAt w P A n B m C k D l) (h0 : P.kind = 1) (hs : n ≤ 6) (hz : ∀ x ∈ P.pairs, x.key.size < 256 ∧ x.val.size < 256) :
    Calls Try.prog 21 #[pgV P (.slice A n c) (.slice B m d) (.slice C k e) (.slice D l f)] w fun e w' => ∃ v, e = .returned v ∧ Own byteT w' w.heap.size v (body1 P) ∧ Bel w w' := by
  have hn1 := hP.pairs.1
  have hn2 := hP.keys.1
  have hn3 := hP.kids.1
  have hn4 := hP.pages.1
  have HP := hid_ hP
  have HK := hid_ h0
  clear h0
  unfold pgV pgC
  go_enter Try.func21, Try.ntmps21
  go_upto_region 2 with (fail)
  have bx := Bx.new w 28 (pgC P (.slice A n c) (.slice B m d) (.slice C k e) (.slice D l f))
  have HB := hid_ ((Bel.refl w).alloc (.cells (pgC P (.slice A n c) (.slice B m d) (.slice C k e) (.slice D l f)).toArray 28))
  unfold pgC at bx HB
  generalize w.alloc (.cells #[.int .i64 P.kind, .slice A n c, .slice B m d, .slice C k e, .slice D l f, .int .i64 P.next, .int .u64 P.epoch, .int .i64 P.root, .int .i64 P.depth, .int .i64 P.count, .int .i64 P.high] 28) = W0 at bx HB ⊢
  generalize hg : w.heap.size = g at bx ⊢
  have c0 := bx.cell 0 rfl
  rw [HK.out] at c0
  have c1 := bx.cell 1 rfl
  have c2 := bx.cell 2 rfl
  have c3 := bx.cell 3 rfl
  have c4 := bx.cell 4 rfl
  have c5 := bx.cell 5 rfl
  have c6 := bx.cell 6 rfl
  have c7 := bx.cell 7 rfl
  have c8 := bx.cell 8 rfl
  have c9 := bx.cell 9 rfl
  have c10 := bx.cell 10 rfl
  have HP1 := hid_ (HP.out.bel HB.out)
  have BX := hid_ bx
  have HG := hid_ hg
  clear bx hP hg
  have HZ := hid_ hz
  clear hz
  have e6 : ([(n : Int)].flatMap tw) = tw n := rfl
  go_wp2_with (go_at_call 20; refine (two_any _ 1 1 [(n : Int)] _ (Row.lit (T := intT) _ [(n : Int)] (0, 0) (by simp)) (by omega)).mono ?_; rintro e w1 ⟨v1, rfl, hO1, hb1⟩; replace c1 := (((Bel.refl W0).alloc _).trans hb1).cell_ c1)
  rw [e6] at hO1
  clear e6
  have HB1 : Hid (Bel w w1) := hid_ ((HB.out.alloc _).trans hb1)
  have hO1' : Own byteT w1 w.heap.size v1 (tw n) := hO1.mono_ (Bel.size_ (HB.out.alloc _))
  have HP2 := hid_ (HP1.out.bel (((Bel.refl W0).alloc _).trans hb1))
  clear hO1 hb1 c0 c1 c2 c3 c4 c5 c6 c7 c8 c9 c10 BX HP1
  go_loopw [4, 6, 22] (fun v _ i wr => ∃ k : Nat, k ≤ n ∧ i = .int .i64 k ∧ Bel w wr ∧ Own byteT wr w.heap.size v (tw n ++ (P.pairs.take k).flatMap pairB)) (fun _ _ i _ => n - (Go.RowKit.intOf i).toNat)
  case atStart => exact ⟨0, by omega, rfl, HB1.out, by simpa using hO1'⟩
  case round =>
    obtain ⟨k', hk, rfl, hB, hO⟩ := hrel
    clear hO1' HP2 HB1
    by_cases hkn : k' < n
    · obtain ⟨ad, y, rfl, ho, d0, d1⟩ := (HP.out.pairs.bel hB).pair hkn
      have HFS := hid_ (flat_snoc pairB P.pairs k' ho)
      have hzy := HZ.out y (List.mem_of_getElem? ho)
      have HLN : Hid ((tw (n : Int) ++ (P.pairs.take k').flatMap pairB).length ≤ 10000) := hid_ (by
        have := flat_le (f := pairB) (c := 514) (P.pairs.take k') (fun x hx => by have := HZ.out x (List.mem_of_mem_take hx); rw [pairB_len]; omega)
        have h2 : (P.pairs.take k').length ≤ 6 := by rw [List.length_take]; omega
        rw [List.length_append, tw_len]
        omega)
      clear ho
      go_upto_region 8 with (fail)
      have bz := Bx.new wr 44 [.string y.key, .string y.val]
      have hO2 : Own byteT (wr.alloc (.cells #[.string y.key, .string y.val] 44)) w.heap.size _ _ := hO.alloc_ _
      have hB2 : Bel w (wr.alloc (.cells #[.string y.key, .string y.val] 44)) := hB.alloc _
      have hlt : ∀ q, u4.ownBlock = some q → q ≠ wr.heap.size := fun q hq => by have := hO.lt_ q hq; omega
      generalize wr.alloc (.cells #[.string y.key, .string y.val] 44) = W2 at bz hO2 hB2 ⊢
      generalize wr.heap.size = g2 at bz hlt ⊢
      have e0 := bz.cell 0 rfl
      have e1 := bz.cell 1 rfl
      clear hO hB d0 d1 bz
      have hOd := hO2.bel ((Bel.refl W2).drew)
      have hBd := hB2.drew
      have e0d : W2.drew.cell? ⟨g2, 0, none⟩ = some (.string y.key) := ((Bel.refl W2).drew).cell_ e0
      have e1d : W2.drew.cell? ⟨g2, 1, none⟩ = some (.string y.val) := ((Bel.refl W2).drew).cell_ e1
      have HFAR : Hid (∀ {w9 : World} {j : Nat} {x : Value}, W2.drew.grownBy w9 u4.ownBlock → W2.drew.cell? ⟨g2, j, none⟩ = some x → w9.cell? ⟨g2, j, none⟩ = some x) := hid_ (fun hg hc => hg.cell hc (fun e => hlt g2 e.symm rfl))
      clear hO2 hB2 hlt
      go_region_held3 (fun W => W.cell? ⟨g2, 0, none⟩ = some (.string y.key) ∧ W.cell? ⟨g2, 1, none⟩ = some (.string y.val)) (first | exact ⟨e0d, e1d⟩ | exact ⟨e0, e1⟩ | exact ⟨e09, e19⟩ | exact ⟨e08, e18⟩)
        (first
        | (go_at_call 52; with_reducible refine' Calls.mono (text_any w _ u4 _ y.key hOd hBd hzy.1 (by have := HLN.out; omega)) ?_; rintro e w9 ⟨v9, rfl, hO9, hB9, hg9, hat9⟩; have e09 := HFAR.out hg9 e0d; have e19 := HFAR.out hg9 e1d)
        | (go_at_call 52; with_reducible refine' Calls.mono (text_any w _ v9 _ y.val hO9 hB9 hzy.2 (by have := HLN.out; rw [List.length_append, txt_len]; omega)) ?_; rintro e w8 ⟨v8, rfl, hO8, hB8, hg8, hat8⟩; have e08 := HFAR.out (grownTrans hg9 hg8 hat9) e0d; have e18 := HFAR.out (grownTrans hg9 hg8 hat9) e1d))
      all_goals (
        clear e0d e1d HFAR e0 e1 hOd hBd hO9 hB9 hg9 hat9 e09 e19 hg8 hat8 e08 e18
        rename_i hHeld
        clear hHeld
        go_wp2
        case roundEnd =>
          go_roundw
          case rel => exact ⟨k' + 1, by omega, by go_num, hB8, by rw [HFS.out, pairB, ← List.append_assoc, ← List.append_assoc]; exact hO8⟩
          case measure => simp [Go.RowKit.intOf]; omega)
    · obtain rfl : k' = n := by omega
      have hfull : P.pairs.take k' = P.pairs := by rw [← hn1, List.take_length]
      rw [hfull] at hO
      go_wp2
      go_ret
      exact ⟨_, rfl, by rw [body1, hn1]; exact hO, hB⟩
end Go.Proofs.Ytcfabnkkkpcelaa
