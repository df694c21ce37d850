/- page.body of a list: the walk. -/
import Derived.Test.YtcfabnkkkpcelaaPg4
import Derived.Test.YtcfabnkkkpcelaaPgE1
import Derived.Deep.DeepCutAuto
set_option linter.unusedSimpArgs false
set_option linter.unusedVariables false
namespace Go.Proofs.Ytcfabnkkkpcelaa
open Go.RowKit
theorem Own.readsN {α : Type} {T : Ty α} {w : World} {base q : Nat} {v : Value} {xs : List α} (h : Own T w base v xs) (e : xs.length = q) : ∃ A c, v = .slice A q c ∧ q ≤ c ∧ Row T w A q xs := by
  subst e
  exact h.reads
set_option maxRecDepth 10000 in
set_option maxHeartbeats 4000000 in
theorem body3_any (P : Pg) (A B C D : Option Addr) (n c m d k e l f : Nat) (w : World) (hP : PgAt w P A n B m C k D l) (h0 : P.kind = 3) (h1 : l ≤ 1000) :
    Calls Try.prog 21 #[pgV P (.slice A n c) (.slice B m d) (.slice C k e) (.slice D l f)] w fun e w' => ∃ v, e = .returned v ∧ Own byteT w' w.heap.size v (body3 P) ∧ Bel w w' := by
  have hn1 := hP.pairs.1
  have hn2 := hP.keys.1
  have hn3 := hP.kids.1
  have hn4 := hP.pages.1
  have HP := hid_ hP
  have HK := hid_ h0
  clear h0
  unfold pgV pgC
  go_enter Try.func21, Try.ntmps21
  go_upto_region 2 with (fail)
  have bx := Bx.new w 28 (pgC P (.slice A n c) (.slice B m d) (.slice C k e) (.slice D l f))
  have HB := hid_ ((Bel.refl w).alloc (.cells (pgC P (.slice A n c) (.slice B m d) (.slice C k e) (.slice D l f)).toArray 28))
  unfold pgC at bx HB
  generalize w.alloc (.cells #[.int .i64 P.kind, .slice A n c, .slice B m d, .slice C k e, .slice D l f, .int .i64 P.next, .int .u64 P.epoch, .int .i64 P.root, .int .i64 P.depth, .int .i64 P.count, .int .i64 P.high] 28) = W0 at bx HB ⊢
  generalize hg : w.heap.size = g at bx ⊢
  have c0 := bx.cell 0 rfl
  rw [HK.out] at c0
  have c1 := bx.cell 1 rfl
  have c2 := bx.cell 2 rfl
  have c3 := bx.cell 3 rfl
  have c4 := bx.cell 4 rfl
  have c5 := bx.cell 5 rfl
  have c6 := bx.cell 6 rfl
  have c7 := bx.cell 7 rfl
  have c8 := bx.cell 8 rfl
  have c9 := bx.cell 9 rfl
  have c10 := bx.cell 10 rfl
  have HP1 := hid_ (HP.out.bel HB.out)
  have BX := hid_ bx
  have HG := hid_ hg
  clear bx hP hg
  have b1 : Bel W0 (W0.alloc (.cells #[.int .i64 (l : Int)] 3)).drew := ((Bel.refl W0).alloc _).drew
  have b2 : Bel W0 ((W0.alloc (.cells #[.int .i64 (l : Int)] 3)).alloc (.cells #[.int .i64 P.next] 3)).drew := (((Bel.refl W0).alloc _).alloc _).drew
  have b3 : Bel W0 ((W0.alloc (.cells #[.int .i64 P.next] 3)).alloc (.cells #[.int .i64 (l : Int)] 3)).drew := (((Bel.refl W0).alloc _).alloc _).drew
  have o1 : Own intT (W0.alloc (.cells #[.int .i64 (l : Int)] 3)).drew W0.heap.size (.slice (some ⟨W0.heap.size, 0, none⟩) 1 1) [(l : Int)] := (Own.lit (T := intT) W0 W0.heap.size [(l : Int)] (Nat.le_refl _) (by simp)).bel ((Bel.refl _).drew)
  have o2 : Own intT ((W0.alloc (.cells #[.int .i64 (l : Int)] 3)).alloc (.cells #[.int .i64 P.next] 3)).drew W0.heap.size (.slice (some ⟨W0.heap.size, 0, none⟩) 1 1) [(l : Int)] := (Own.lit (T := intT) W0 W0.heap.size [(l : Int)] (Nat.le_refl _) (by simp)).bel (((Bel.refl _).alloc _).drew)
  have o3 : Own intT ((W0.alloc (.cells #[.int .i64 P.next] 3)).alloc (.cells #[.int .i64 (l : Int)] 3)).drew W0.heap.size (.slice (some ⟨W0.heap.size + 1, 0, none⟩) 1 1) [(l : Int)] := by
    have := (Own.lit (T := intT) (W0.alloc (.cells #[.int .i64 P.next] 3)) W0.heap.size [(l : Int)] (by rw [sizeAl]; omega) (by simp)).bel ((Bel.refl _).drew)
    rw [sizeAl] at this
    exact this
  have HB1 := hid_ b1
  have HB2 := hid_ b2
  have HB3 := hid_ b3
  have HO1 := hid_ o1
  have HO2 := hid_ o2
  have HO3 := hid_ o3
  have HR1 := hid_ (HP1.out.pages.bel b1)
  have HR2 := hid_ (HP1.out.pages.bel b2)
  have HR3 := hid_ (HP1.out.pages.bel b3)
  have HX1 : Hid (∀ x1 : World, Row intT (x1.alloc (.cells #[.int .i64 P.next] 3)) (some ⟨x1.heap.size, 0, none⟩) 1 [P.next]) := hid_ (fun x1 => Row.lit (T := intT) x1 [P.next] (0, 0) (by simp))
  have HX2 : Hid (∀ {x1 : World}, ((W0.alloc (.cells #[.int .i64 (l : Int)] 3)).alloc (.cells #[.int .i64 P.next] 3)).drew.grownBy x1 (Value.ownBlock (.slice (some ⟨W0.heap.size, 0, none⟩) 1 1)) → Row intT x1 (some ⟨W0.heap.size + 1, 0, none⟩) 1 [P.next]) := hid_ (fun hg => by
    have := Row.lit (T := intT) (W0.alloc (.cells #[.int .i64 (l : Int)] 3)) [P.next] (0, 0) (by simp)
    rw [sizeAl] at this
    refine Row.grown_ (Row.bel this ((Bel.refl _).drew)) hg (fun ad e h => ?_)
    injection e with e
    subst e
    simp [Value.ownBlock] at h)
  have HX3 : Hid (∀ {x1 : World}, ((W0.alloc (.cells #[.int .i64 P.next] 3)).alloc (.cells #[.int .i64 (l : Int)] 3)).drew.grownBy x1 (Value.ownBlock (.slice (some ⟨W0.heap.size + 1, 0, none⟩) 1 1)) → Row intT x1 (some ⟨W0.heap.size, 0, none⟩) 1 [P.next]) := hid_ (fun hg => by
    have := Row.lit (T := intT) W0 [P.next] (0, 0) (by simp)
    refine Row.grown_ (Row.bel this (((Bel.refl _).alloc _).drew)) hg (fun ad e h => ?_)
    injection e with e
    subst e
    simp [Value.ownBlock] at h)
  have HL1 : Hid (([(l : Int)].length + l) * 8 ≤ 140737488355328) := hid_ (by simp; omega)
  have HL2 : Hid (([(l : Int)] ++ P.pages).length = l + 1) := hid_ (by simp [hn4])
  have HL3 : Hid ((([(l : Int)] ++ P.pages).length + 1) * 8 ≤ 140737488355328) := hid_ (by rw [HL2.out]; omega)
  have HL4 : Hid (([(l : Int)] ++ P.pages ++ [P.next]).length = l + 2) := hid_ (by rw [List.length_append, HL2.out]; simp)
  have HL5 : Hid (l + 2 ≤ 1000000) := hid_ (by omega)
  have HKP : Hid (∀ W, Bel W0 W → (fun W => Bel W0 W ∧ W.cell? ⟨g, 4, none⟩ = some (.slice D l f) ∧ W.cell? ⟨g, 5, none⟩ = some (.int .i64 P.next)) W) := hid_ (fun W hW => ⟨hW, hW.cell_ c4, hW.cell_ c5⟩)
  clear b1 b2 b3 o1 o2 o3
  go_upto_region 20 with (fail)
  go_region_held3 (fun W => Bel W0 W ∧ W.cell? ⟨g, 4, none⟩ = some (.slice D l f) ∧ W.cell? ⟨g, 5, none⟩ = some (.int .i64 P.next)) ((refine HKP.out _ ?_; (repeat first | with_reducible exact Bel.refl _ | with_reducible exact bz9 | with_reducible exact hb2 | with_reducible exact hb1 | with_reducible apply Bel.drew | with_reducible apply Bel.alloc)))
    (first
    | (refine stepApp (w0 := W0) intS rfl _ _ rfl (.slice (some ⟨W0.heap.size, 0, none⟩) 1 1) [(l : Int)] P.pages D l f rfl rfl HO1.out HR1.out HB1.out HL1.out ?_; intro v1 x1 hO1 hb1 hg1 hat1)
    | (refine stepApp (w0 := W0) intS rfl _ _ rfl (.slice (some ⟨W0.heap.size, 0, none⟩) 1 1) [(l : Int)] P.pages D l f rfl rfl HO2.out HR2.out HB2.out HL1.out ?_; intro v1 x1 hO1 hb1 hg1 hat1; have hr1 := HX2.out hg1)
    | (refine stepApp (w0 := W0) intS rfl _ _ rfl (.slice (some ⟨W0.heap.size + 1, 0, none⟩) 1 1) [(l : Int)] P.pages D l f rfl rfl HO3.out HR3.out HB3.out HL1.out ?_; intro v1 x1 hO1 hb1 hg1 hat1; have hr1 := HX3.out hg1)
    | (refine stepApp (w0 := W0) intS rfl _ _ rfl v1 ([(l : Int)] ++ P.pages) [P.next] _ 1 1 rfl rfl hO1 hr1 hb1 HL3.out ?_; intro v2 x2 hO2 hb2 hg2 hat2; obtain ⟨A2, c2, rfl, hc2, hR2⟩ := hO2.readsN HL4.out)
    | (refine stepApp (w0 := W0) intS rfl _ _ rfl v1 ([(l : Int)] ++ P.pages) [P.next] (some ⟨x1.heap.size, 0, none⟩) 1 1 rfl rfl (hO1.alloc_ _) (HX1.out x1) (hb1.alloc _) HL3.out ?_; intro v2 x2 hO2 hb2 hg2 hat2; obtain ⟨A2, c2, rfl, hc2, hR2⟩ := hO2.readsN HL4.out)
    | (go_at_call 20; with_reducible refine' Calls.mono (two_any A2 (l + 2) c2 ([(l : Int)] ++ P.pages ++ [P.next]) _ hR2 HL5.out) ?_; rintro e w9 ⟨v9, rfl, hO9, b9⟩; have bz9 := Bel.trans hb2 b9; have hO8 := hO9.mono_ hb2.size_))
  all_goals (
    have HE : Hid (body3 P = ([(l : Int)] ++ P.pages ++ [P.next]).flatMap tw) := hid_ (by rw [body3, hn4, List.flatMap_append, List.flatMap_append]; simp [List.append_assoc, tw])
    rename_i hHeld
    clear hHeld hg1 hat1 hg2 hat2 HKP HX1 HX2 HX3 HO1 HO2 HO3
    go_wp2
    go_ret
    exact ⟨_, rfl, by rw [HE.out]; exact hO8.mono_ HB.out.size_, HB.out.trans bz9⟩)
end Go.Proofs.Ytcfabnkkkpcelaa
