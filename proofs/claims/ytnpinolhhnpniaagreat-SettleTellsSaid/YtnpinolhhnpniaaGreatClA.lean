/- slices.Clone at accounts. -/
import Derived.Test.YtnpinolhhnpniaaGreatAc7
import Derived.Test.YtnpinolhhnpniaaGreatLit
import Derived.Lib.SliceRun
import Derived.Deep.DeepCutAuto
set_option linter.unusedSimpArgs false
set_option linter.unusedVariables false
namespace Go.Proofs.YtnpinolhhnpniaaGreat
open Go.RowKit Go.Lib
set_option maxRecDepth 10000 in
set_option maxHeartbeats 1000000 in
theorem cloneA_any (A : Option Addr) (n c : Nat) (l : List Acc) (w : World) (hA : Row accT w A n l) (hn : n ≤ 100000) :
    Calls Tryz.prog 38 #[.slice A n c] w fun e w' => ∃ v, e = .returned v ∧ Own accT w' w.heap.size v l ∧ Bel w w' := by
  have HA := hid_ hA
  have HNI := hid_ (fun h => hA.nonil' h)
  have HN : Hid (([] : List Acc).length * 0 + (0 + n) * 48 ≤ 140737488355328) := hid_ (by simp; omega)
  have HN2 : Hid ((([] : List Acc).length + n) * 48 ≤ 140737488355328) := hid_ (by simp; omega)
  have q22 : ∀ (w : World) (a : Option Addr) (n c n' c' : Nat), (binOp .eql 22 (.slice a n c) (.slice none n' c')).run Tryz.prog w = .ok (.bool a.isNone) w := fun w a n c n' c' => Lib.run_eql_slice_nil w _ _ a n c n' c' accS.ut
  clear hA hn
  cases A with
  | none =>
    obtain ⟨rfl, rfl⟩ := HNI.out rfl
    clear HNI HA HN HN2
    go_enter Tryz.func38, Tryz.ntmps38
    go_wp2
    go_ret
    exact ⟨_, rfl, Own.nil_ _ _ _, Bel.refl _⟩
  | some ad =>
    go_enter Tryz.func38, Tryz.ntmps38
    go_wp2_with (at_builtin; refine wpApp (w0 := w) accS rfl _ _ rfl _ [] l (some ad) n c rfl rfl (Own.litE (T := accT) w w.heap.size _ _ rfl rfl (Nat.le_refl _)) (HA.out.bel ((Bel.refl w).alloc _)) ((Bel.refl w).alloc _) HN2.out ?_; intro v1 x1 hO1 hb1 _ _)
    rw [List.nil_append] at hO1
    have HO := hid_ hO1
    have HB := hid_ hb1
    clear hO1 hb1
    try go_wp2
    go_ret
    exact ⟨_, rfl, HO.out, HB.out⟩
end Go.Proofs.YtnpinolhhnpniaaGreat
