/- page.body of a branch: the walk. -/
import Derived.Test.YtcfabnkkkpcelaaPg4
import Derived.Test.YtcfabnkkkpcelaaPgE1
import Derived.Deep.DeepCutAuto
set_option linter.unusedSimpArgs false
set_option linter.unusedVariables false
namespace Go.Proofs.Ytcfabnkkkpcelaa
open Go.RowKit
theorem len_txt (xs : List Int) (s : ByteArray) : (xs ++ txt s).length = xs.length + (s.size + 1) := by rw [List.length_append, txt_len]
theorem addS (ad : Addr) (j : Nat) : ad.add (j + 1) = ⟨ad.block, ad.off + (j + 1), none⟩ := by simp [Addr.add]
set_option maxRecDepth 10000 in
set_option maxHeartbeats 4000000 in
theorem body2_any (P : Pg) (A B C D : Option Addr) (n c m d k e l f : Nat) (w : World) (hP : PgAt w P A n B m C k D l) (h0 : P.kind = 2) (h1 : 1 ≤ m) (h2 : m ≤ 12) (h3 : k = m + 1) (hz : ∀ x ∈ P.keys, x.size < 256) :
    Calls Try.prog 21 #[pgV P (.slice A n c) (.slice B m d) (.slice C k e) (.slice D l f)] w fun e w' => ∃ v, e = .returned v ∧ Own byteT w' w.heap.size v (body2 P) ∧ Bel w w' := by
  have hn1 := hP.pairs.1
  have hn2 := hP.keys.1
  have hn3 := hP.kids.1
  have hn4 := hP.pages.1
  have HP := hid_ hP
  have HK := hid_ h0
  clear h0
  have H3_ := hid_ h3
  clear h3
  have HN3_ := hid_ hn3
  clear hn3
  unfold pgV pgC
  go_enter Try.func21, Try.ntmps21
  go_upto_region 2 with (fail)
  have bx := Bx.new w 28 (pgC P (.slice A n c) (.slice B m d) (.slice C k e) (.slice D l f))
  have HB := hid_ ((Bel.refl w).alloc (.cells (pgC P (.slice A n c) (.slice B m d) (.slice C k e) (.slice D l f)).toArray 28))
  unfold pgC at bx HB
  generalize w.alloc (.cells #[.int .i64 P.kind, .slice A n c, .slice B m d, .slice C k e, .slice D l f, .int .i64 P.next, .int .u64 P.epoch, .int .i64 P.root, .int .i64 P.depth, .int .i64 P.count, .int .i64 P.high] 28) = W0 at bx HB ⊢
  generalize hg : w.heap.size = g at bx ⊢
  have c0 := bx.cell 0 rfl
  rw [HK.out] at c0
  have c1 := bx.cell 1 rfl
  have c2 := bx.cell 2 rfl
  have c3 := bx.cell 3 rfl
  have c4 := bx.cell 4 rfl
  have c5 := bx.cell 5 rfl
  have c6 := bx.cell 6 rfl
  have c7 := bx.cell 7 rfl
  have c8 := bx.cell 8 rfl
  have c9 := bx.cell 9 rfl
  have c10 := bx.cell 10 rfl
  have HP1 := hid_ (HP.out.bel HB.out)
  have BX := hid_ bx
  have HG := hid_ hg
  clear bx hP hg
  have HZ := hid_ hz
  clear hz
  obtain ⟨adC, d0, rfl, ho0, z0⟩ := HP1.out.kids.int (show 0 < k by have := H3_.out; omega)
  have hd0 : P.kids.getD 0 0 = d0 := by rw [List.getD_eq_getElem?_getD, ho0]; rfl
  have z0 : W0.cell? adC = some (.int .i64 d0) := z0
  have HD0 := hid_ hd0
  clear hd0 ho0
  have i1 : (0 : Int) < (k : Int) := by have := H3_.out; omega
  have i2 : 0 < k := by omega
  have hKP : ∀ W, Bel W0 W → (fun W => Bel W0 W ∧ W.cell? ⟨g, 2, none⟩ = some (.slice B m d) ∧ W.cell? ⟨g, 3, none⟩ = some (.slice (some adC) k e) ∧ W.cell? adC = some (.int .i64 d0)) W := fun W hW => ⟨hW, hW.cell_ c2, hW.cell_ c3, hW.cell_ z0⟩
  have HKP := hid_ hKP
  clear hKP
  have e6 : ([(m : Int), d0].flatMap tw) = tw m ++ tw d0 := rfl
  have HE6 := hid_ e6
  clear e6
  go_upto_region 12 with (fail)
  go_region_held3 (fun W => Bel W0 W ∧ W.cell? ⟨g, 2, none⟩ = some (.slice B m d) ∧ W.cell? ⟨g, 3, none⟩ = some (.slice (some adC) k e) ∧ W.cell? adC = some (.int .i64 d0)) ((refine HKP.out _ ?_; (repeat first | with_reducible exact Bel.refl _ | with_reducible exact bz9 | with_reducible apply Bel.drew | with_reducible apply Bel.alloc)))
    (first | (go_at_call 20; refine' Calls.mono (two_any _ 2 2 [(m : Int), d0] _ (Row.lit (T := intT) _ [(m : Int), d0] (0, 0) (by simp)) (by omega)) ?_; rintro e w9 ⟨v9, rfl, hO9, b9⟩; have bz9 : Bel W0 w9 := Bel.trans (by repeat first | with_reducible exact Bel.refl _ | with_reducible apply Bel.drew | with_reducible apply Bel.alloc) b9))
  all_goals (
    have hO1 : Own byteT w9 W0.heap.size v9 (tw m ++ tw d0) := hO9.mono_ (by simp)
    rename_i hHeld
    obtain ⟨_, f2, f3, _⟩ := hHeld
    clear hO9 b9 c0 c1 c2 c4 c5 c6 c7 c8 c9 c10 HKP z0
    go_wp2_with fail
    go_loopw [7, 8, 9, 51] (fun v _ _ i wr => ∃ k' : Nat, k' ≤ m ∧ i = .int .i64 k' ∧ Bel W0 wr ∧ Own byteT wr W0.heap.size v (tw m ++ (tw d0 ++ ((P.keys.zip P.kids.tail).take k').flatMap kidB))) (fun _ _ _ i _ => m - (Go.RowKit.intOf i).toNat)
    case atStart => exact ⟨0, by omega, rfl, bz9, by simpa using hO1⟩
    case round =>
      obtain ⟨k', hk, rfl, hB, hO⟩ := hrel
      clear hO1 bz9
      by_cases hkn : k' < m
      · obtain ⟨ad, y, rfl, ho, d1⟩ := (HP1.out.keys.bel hB).str hkn
        obtain ⟨adC', x, e', ho', d2⟩ := HP1.out.kids.int (show k' + 1 < k by have := H3_.out; omega)
        injection e' with e'
        subst e'
        have hzy := HZ.out y (List.mem_of_getElem? ho)
        have hzp : (P.keys.zip P.kids.tail)[k']? = some (y, x) := by
          rw [List.getElem?_zip_eq_some]
          exact ⟨ho, by rw [List.getElem?_tail]; exact ho'⟩
        have HFS := hid_ (flat_snoc kidB (P.keys.zip P.kids.tail) k' hzp)
        have HLN : Hid ((tw (m : Int) ++ (tw d0 ++ ((P.keys.zip P.kids.tail).take k').flatMap kidB)).length ≤ 10000) := hid_ (by
          have := flat_le (f := kidB) (c := 259) ((P.keys.zip P.kids.tail).take k') (fun z hz => by have := HZ.out z.1 (List.of_mem_zip (List.mem_of_mem_take hz)).1; rw [kidB_len]; omega)
          have h2 : ((P.keys.zip P.kids.tail).take k').length ≤ 12 := by rw [List.length_take]; omega
          rw [List.length_append, List.length_append, tw_len, tw_len]
          omega)
        clear ho ho' hzp
        have j1 : (0 : Int) ≤ (k' : Int) + 1 := by omega
        have j2 : (k' : Int) + 1 < (k : Int) := by have := H3_.out; omega
        have j3 : IntKind.i64.wrap ((k' : Int) + 1) = (k' : Int) + 1 := by rw [IntWalk.i64_left]; unfold wrap64; omega
        have j4 : k' + 1 < k := by have := H3_.out; omega
        have d2 : W0.cell? ⟨adC.block, adC.off + (k' + 1), none⟩ = some (.int .i64 x) := by rw [← addS]; exact d2
        have HKP : Hid (∀ W, Bel W0 W → (fun W => Bel W0 W ∧ W.cell? ⟨g, 3, none⟩ = some (.slice (some adC) k e) ∧ W.cell? ⟨adC.block, adC.off + (k' + 1), none⟩ = some (.int .i64 x)) W) := hid_ (fun W hW => ⟨hW, hW.cell_ c3, hW.cell_ d2⟩)
        have HNE : Hid (∀ ad : Addr, (some ⟨wr.heap.size, 0, none⟩ : Option Addr) = some ad → some ad.block ≠ u7.ownBlock) := hid_ (fun ad e h => by
          injection e with e
          subst e
          exact absurd (hO.lt_ _ h.symm) (Nat.lt_irrefl _))
        have HRW : Hid (∀ {w9 : World}, (wr.alloc (.cells #[.int .i64 x] 3)).drew.grownBy w9 u7.ownBlock → Row intT w9 (some ⟨wr.heap.size, 0, none⟩) 1 [x]) := hid_ (fun hg =>
          Row.grown_ (Row.bel (Row.lit (T := intT) wr [x] (0, 0) (by simp)) ((Bel.refl _).drew)) hg HNE.out)
        have HLE : Hid (1 ≤ 1000000) := hid_ (by omega)
        have HE1 : Hid (([x].flatMap tw) = tw x) := hid_ rfl
        have HL1 : Hid ((tw (m : Int) ++ (tw d0 ++ ((P.keys.zip P.kids.tail).take k').flatMap kidB)).length ≤ 1000000) := hid_ (by have := HLN.out; omega)
        have HL2 : Hid (((tw (m : Int) ++ (tw d0 ++ ((P.keys.zip P.kids.tail).take k').flatMap kidB) ++ txt y).length + 2) * 1 ≤ 140737488355328) := hid_ (by
          have := HLN.out
          rw [len_txt]
          omega)
        clear c3 d2 f2 f3
        go_upto_region 16 with (fail)
        go_region_held3 (fun W => Bel W0 W ∧ W.cell? ⟨g, 3, none⟩ = some (.slice (some adC) k e) ∧ W.cell? ⟨adC.block, adC.off + (k' + 1), none⟩ = some (.int .i64 x)) ((refine HKP.out _ ?_; (repeat first | with_reducible exact Bel.refl _ | with_reducible exact hb7 | with_reducible exact bz8 | with_reducible exact hB9 | with_reducible exact hB | with_reducible apply Bel.drew | with_reducible apply Bel.alloc)))
          (first
          | (go_at_call 52; with_reducible refine' Calls.mono (text_any W0 _ u7 _ y (hO.bel (by repeat first | with_reducible exact Bel.refl _ | with_reducible apply Bel.drew | with_reducible apply Bel.alloc)) (by repeat first | with_reducible exact Bel.refl _ | with_reducible exact hB | with_reducible apply Bel.drew | with_reducible apply Bel.alloc) hzy HL1.out) ?_; rintro e w9 ⟨v9, rfl, hO9, hB9, hg9, hat9⟩; first | (have hRx := HRW.out hg9) | skip)
          | (go_at_call 20; with_reducible refine' Calls.mono (two_any _ 1 1 [x] _ hRx HLE.out) ?_; rintro e w8 ⟨v8, rfl, hO8, b8⟩; have bz8 := Bel.trans hB9 b8; rw [HE1.out] at hO8; obtain ⟨A8, c8, rfl, hc8, hR8⟩ := hO8.reads; have hO7 := hO9.bel b8)
          | (go_at_call 20; refine' Calls.mono (two_any _ 1 1 [x] _ (Row.lit (T := intT) w9 [x] (0, 0) (by simp)) (by omega)) ?_; rintro e w8 ⟨v8, rfl, hO8, b8⟩; have bz8 := Bel.trans (hB9.alloc _) b8; rw [HE1.out] at hO8; obtain ⟨A8, c8, rfl, hc8, hR8⟩ := hO8.reads; have hO7 := (hO9.alloc_ _).bel b8)
          | (refine stepApp (w0 := W0) byteS rfl _ _ rfl v9 _ (tw x) A8 2 c8 rfl rfl hO7 hR8 bz8 HL2.out ?_; intro v7 x7 hO6 hb7 hg7 hat7))
        all_goals (
          rename_i hHeld
          clear hHeld hO9 hO7 hR8 b8 bz8 hg7 hat7 hg9 hat9 HKP
          go_wp2
          case roundEnd =>
            go_roundw
            case rel => exact ⟨k' + 1, by omega, by go_num, hb7, by rw [HFS.out, kidB]; simpa only [List.append_assoc] using hO6⟩
            case measure => simp [Go.RowKit.intOf]; omega)
      · obtain rfl : k' = m := by omega
        have hfull : (P.keys.zip P.kids.tail).take k' = P.keys.zip P.kids.tail := List.take_of_length_le (by rw [List.length_zip]; omega)
        rw [hfull] at hO
        have HE : Hid (body2 P = tw k' ++ (tw d0 ++ (P.keys.zip P.kids.tail).flatMap kidB)) := hid_ (by rw [body2, hn2, HD0.out])
        go_wp2
        go_ret
        exact ⟨_, rfl, by rw [HE.out]; exact hO.mono_ HB.out.size_, HB.out.trans hB⟩)
end Go.Proofs.Ytcfabnkkkpcelaa
