/- margin.one and margin.Fill where there is no order: all that the head of layer 16's statements asks. -/
import Derived.Test.YtlddpkbdmbafbaaMg2
import Derived.Test.YtlddpkbdmbafbaaMg4
import Derived.BigQuiet
set_option linter.unusedSimpArgs false
set_option linter.unusedVariables false
namespace Go.Proofs.Ytlddpkbdmbafbaa
open Go.RowKit Go.Lib
set_option maxRecDepth 10000 in
set_option maxHeartbeats 2000000 in
theorem one_nil (X : Value) (A : Option Addr) (c : Nat) (tb ts tq tp : Int) (w : World) :
    Calls Try.prog 77 #[X, .slice A 0 c, .agg #[.int .u64 tb, .int .u64 ts, .int .i64 tq, .int .i64 tp]] w fun e w' => e = .returned (.tuple #[.slice none 0 0, .slice none 0 0, .int .i64 130]) ∧ Bel w w' := by
  have k0 := Bx.new w 81 [.int .u64 tb, .int .u64 ts, .int .i64 tq, .int .i64 tp]
  have k0 : Bx (w.alloc (.cells #[.int .u64 tb, .int .u64 ts, .int .i64 tq, .int .i64 tp] 81)) (w.heap.size) 81 [.int .u64 tb, .int .u64 ts, .int .i64 tq, .int .i64 tp] := k0
  have kB : Bel w (w.alloc (.cells #[.int .u64 tb, .int .u64 ts, .int .i64 tq, .int .i64 tp] 81)) := (Bel.refl w).alloc _
  have FT := hid_ k0
  have FB := hid_ kB
  clear k0 kB
  go_enter Try.func77, Try.ntmps77
  go_wp2_with fail
  generalize (w.alloc (.cells #[.int .u64 tb, .int .u64 ts, .int .i64 tq, .int .i64 tp] 81)) = W0 at FT FB ⊢
  generalize w.heap.size = gT at FT ⊢
  refine (indexP_any (fun x => x.number == tb) 116 (.pointer (some ⟨gT, 0, none⟩)) egOne1 A 0 c [] _ (Row.none_ ordT W0 _) ?_).mono ?_
  · intro o0 o1 o2 o3 o4 o5 w1 hb
    exact one1_any o0 o1 o2 o3 o4 o5 tb gT w1 ((FT.out.bel hb).cell 0 rfl)
  rintro e w1 ⟨rfl, b1⟩
  have F1 := hid_ (FT.out.bel b1)
  have B1 := hid_ (FB.out.trans b1)
  clear FT FB b1
  rw [show idxI (fun x : Ord => x.number == tb) [] = -1 from rfl]
  go_wp2_with fail
  refine (indexP_any (fun x => x.number == ts) 117 (.pointer (some ⟨gT, 0, none⟩)) egOne2 A 0 c [] _ (Row.none_ ordT w1 _) ?_).mono ?_
  · intro o0 o1 o2 o3 o4 o5 w2 hb
    exact one2_any o0 o1 o2 o3 o4 o5 ts gT w2 ((F1.out.bel hb).cell 1 rfl)
  rintro e w2 ⟨rfl, b2⟩
  have B2 := hid_ (B1.out.trans b2)
  clear F1 B1 b2
  rw [show idxI (fun x : Ord => x.number == ts) [] = -1 from rfl]
  go_wp2
  go_ret3
  exact ⟨rfl, B2.out⟩
set_option maxRecDepth 10000 in
set_option maxHeartbeats 2000000 in
theorem fill_nil (A : Option Addr) (n c : Nat) (l : List Acc) (B : Addr) (d : Nat) (tb ts tq tp : Int) (w : World) (hA : Row accT w A n l) (hn : n ≤ 100000) (hB : Row trdT w (some B) 1 [⟨tb, ts, tq, tp⟩]) :
    Calls Try.prog 30 #[.slice A n c, .slice none 0 0, .slice (some B) 1 d] w fun e w' => e = .returned (.tuple #[.slice none 0 0, .slice none 0 0, .int .i64 130]) ∧ Bel w w' := by
  have FA := hid_ hA
  have FB := hid_ hB
  clear hA hB
  go_enter Try.func30, Try.ntmps30
  go_wp2_with fail
  refine (cloneA_any A n c l w FA.out hn).mono ?_
  rintro e w1 ⟨v, rfl, o, b1⟩
  have B1 := hid_ b1
  clear o b1 FA
  go_wp2_with fail
  refine (cloneO_any none 0 0 [] w1 (Row.none_ ordT w1 _) (by omega)).mono ?_
  rintro e w2 ⟨v2, rfl, o, b2⟩
  obtain ⟨A2, c2, rfl, hc2, r2⟩ := o.reads
  have B2 := hid_ (B1.out.trans b2)
  have F2 := hid_ (FB.out.bel B2.out)
  clear o b2 B1 FB
  obtain ⟨ad, b, s, q, p, e1, ho, d0, d1, d2, d3⟩ := F2.out.trd (k := 0) (by decide)
  cases e1
  cases ho
  simp [Addr.add] at d0 d1 d2 d3
  go_wp2_with fail
  go_loopw [0, 1, 10, 11, 12, 13, 20] (fun a0 a1 _ _ _ _ i wr => a0 = v ∧ a1 = .slice A2 0 c2 ∧ i = .int .i64 0 ∧ wr = w2) (fun _ _ _ _ _ _ _ _ => 0)
  case atStart => exact ⟨rfl, rfl, rfl, rfl⟩
  case round =>
    obtain ⟨rfl, rfl, rfl, rfl⟩ := hrel
    go_wp2_with fail
    refine (one_nil _ A2 c2 tb ts tq tp _).mono ?_
    rintro e w3 ⟨rfl, b⟩
    have B3 := hid_ ((B2.out.alloc _).trans b)
    clear b d0 d1 d2 d3
    go_wp2
    go_ret3
    exact ⟨rfl, B3.out⟩
end Go.Proofs.Ytlddpkbdmbafbaa
