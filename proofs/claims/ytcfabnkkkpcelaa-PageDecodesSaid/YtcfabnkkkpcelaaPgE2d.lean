/- page.body of a superblock: the walk. -/
import Derived.Test.YtcfabnkkkpcelaaPg4
import Derived.Test.YtcfabnkkkpcelaaPgE1
import Derived.Deep.DeepCutAuto
set_option linter.unusedSimpArgs false
set_option linter.unusedVariables false
namespace Go.Proofs.Ytcfabnkkkpcelaa
open Go.RowKit
set_option maxRecDepth 10000 in
set_option maxHeartbeats 4000000 in
theorem body4_any (P : Pg) (A B C D : Option Addr) (n c m d k e l f : Nat) (w : World) (hP : PgAt w P A n B m C k D l) (h0 : P.kind = 4) :
    Calls Try.prog 21 #[pgV P (.slice A n c) (.slice B m d) (.slice C k e) (.slice D l f)] w fun e w' => ∃ v, e = .returned v ∧ Own byteT w' w.heap.size v (body4 P) ∧ Bel w w' := by
  have hn1 := hP.pairs.1
  have hn2 := hP.keys.1
  have hn3 := hP.kids.1
  have hn4 := hP.pages.1
  have HP := hid_ hP
  have HK := hid_ h0
  clear h0
  unfold pgV pgC
  go_enter Try.func21, Try.ntmps21
  go_upto_region 2 with (fail)
  have bx := Bx.new w 28 (pgC P (.slice A n c) (.slice B m d) (.slice C k e) (.slice D l f))
  have HB := hid_ ((Bel.refl w).alloc (.cells (pgC P (.slice A n c) (.slice B m d) (.slice C k e) (.slice D l f)).toArray 28))
  unfold pgC at bx HB
  generalize w.alloc (.cells #[.int .i64 P.kind, .slice A n c, .slice B m d, .slice C k e, .slice D l f, .int .i64 P.next, .int .u64 P.epoch, .int .i64 P.root, .int .i64 P.depth, .int .i64 P.count, .int .i64 P.high] 28) = W0 at bx HB ⊢
  generalize hg : w.heap.size = g at bx ⊢
  have c0 := bx.cell 0 rfl
  rw [HK.out] at c0
  have c1 := bx.cell 1 rfl
  have c2 := bx.cell 2 rfl
  have c3 := bx.cell 3 rfl
  have c4 := bx.cell 4 rfl
  have c5 := bx.cell 5 rfl
  have c6 := bx.cell 6 rfl
  have c7 := bx.cell 7 rfl
  have c8 := bx.cell 8 rfl
  have c9 := bx.cell 9 rfl
  have c10 := bx.cell 10 rfl
  have HP1 := hid_ (HP.out.bel HB.out)
  have BX := hid_ bx
  have HG := hid_ hg
  clear bx hP hg
  have e1 : bits .and .i64 P.count 65535 = P.count % 65536 := and16 _
  have HE : Hid (body4 P = [P.root, P.depth, P.count / 65536, P.count % 65536, P.high, P.next].flatMap tw) := hid_ (by simp [body4, tw])
  go_wp2_with (go_at_call 20; refine (two_any _ 6 6 [P.root, P.depth, P.count / 65536, P.count % 65536, P.high, P.next] _ (Row.lit (T := intT) W0 [P.root, P.depth, P.count / 65536, P.count % 65536, P.high, P.next] (0, 0) (by simp)) (by omega)).mono ?_; rintro e w1 ⟨v1, rfl, hO1, hb1⟩)
  go_ret
  exact ⟨_, rfl, by rw [HE.out]; exact hO1.mono_ (Bel.size_ (HB.out.alloc _)), (HB.out.alloc _).trans hb1⟩
end Go.Proofs.Ytcfabnkkkpcelaa
