/- account.order, account.of, account.names. -/
import Derived.Test.YtnpinolhhnpniaaGreatCmpOr
import Derived.Test.YtnpinolhhnpniaaGreatBox
import Derived.Test.YtnpinolhhnpniaaGreatTyAcc
import Derived.Test.YtnpinolhhnpniaaGreatCk2
import Derived.Shelf.SlSortFuncK.SWK
import Derived.Deep.DeepCutAuto
set_option linter.unusedSimpArgs false
set_option linter.unusedVariables false
namespace Go.Proofs.YtnpinolhhnpniaaGreat
open Go.RowKit Go.Lib Go.Sort Go.Shelf
def plcC (p : Plc) : List Value := [.string p.who, .string p.asset]
set_option maxRecDepth 10000 in
set_option maxHeartbeats 1000000 in
theorem order_grow (x0 x1 y0 y1 : ByteArray) (W : World) : Calls Tryz.prog 33 #[.agg #[.string x0, .string x1], .agg #[.string y0, .string y1]] W fun e w' => e = .returned (.int .i64 (cmpP ⟨x0, x1⟩ ⟨y0, y1⟩)) ∧ ∃ q os', w' = grow (W.drewN q) os' := by
  obtain ⟨r, hr⟩ : ∃ r, cmpP ⟨x0, x1⟩ ⟨y0, y1⟩ = r := ⟨_, rfl⟩
  rw [hr]
  rw [← orI_cmp] at hr
  have HR := hid_ hr
  clear hr
  go_enter Tryz.func33, Tryz.ntmps33
  go_upto_region 1 with (fail)
  have bx : Bx ((W.alloc (.cells #[.string x0, .string x1] 56)).alloc (.cells #[.string y0, .string y1] 56)) W.heap.size 56 [.string x0, .string x1] := (Bx.new W _ _).alloc _
  have bY := Bx.new (W.alloc (.cells #[.string x0, .string x1] 56)) 56 [.string y0, .string y1]
  rw [sizeAl] at bY
  have HG : Hid (∃ os, (W.alloc (.cells #[.string x0, .string x1] 56)).alloc (.cells #[.string y0, .string y1] 56) = grow W os) := hid_ ⟨_, by rw [alloc_eq_grow, alloc_eq_grow, grow_grow]⟩
  have c0 := bx.cell 0 rfl
  have c1 := bx.cell 1 rfl
  have d0 := bY.cell 0 rfl
  have d1 := bY.cell 1 rfl
  clear bx bY
  generalize (W.alloc (.cells #[.string x0, .string x1] 56)).alloc (.cells #[.string y0, .string y1] 56) = W2 at c0 c1 d0 d1 HG ⊢
  generalize W.heap.size + 1 = gy at d0 d1 ⊢
  generalize W.heap.size = gx at c0 c1 ⊢
  go_region_held3 (fun w => w.cell? ⟨gx, 0, none⟩ = some (.string x0) ∧ w.cell? ⟨gx, 1, none⟩ = some (.string x1) ∧ w.cell? ⟨gy, 0, none⟩ = some (.string y0) ∧ w.cell? ⟨gy, 1, none⟩ = some (.string y1)) (first | exact ⟨c0, c1, d0, d1⟩ | exact ⟨cellOld c0 _, cellOld c1 _, cellOld d0 _, cellOld d1 _⟩)
    (first
    | (go_at_call 46; with_reducible refine' Calls.mono (cmp_str _ _ _) ?_; rintro e _ ⟨rfl, rfl⟩)
    | (go_at_call 45; refine' Calls.mono (cmp_or _ 2 2 [cmpX x0 y0, cmpX x1 y1] _ (Row.lit (T := intT) _ [cmpX x0 y0, cmpX x1 y1] (0, 0) (by simp))) ?_; rintro e _ ⟨rfl, rfl⟩))
  all_goals (
    have HF : Hid (orI [cmpX x0 y0, cmpX x1 y1] = r) := hid_ HR.out
    go_wp2
    go_ret
    refine ⟨by rw [HF.out]; rfl, ?_⟩
    obtain ⟨os, hos⟩ := HG.out
    rw [hos]
    exact ⟨1, os ++ #[.cells #[.int .i64 (cmpX x0 y0), .int .i64 (cmpX x1 y1)] 3], by rw [alloc_eq_grow]; exact (grow_grow W.drew os _)⟩)
theorem bel_grow (w : World) (q : Nat) (os : Array Obj) : Bel w (grow (w.drewN q) os) := below_grown_sl _ w q os (Nat.le_refl _)
theorem order_any (x0 x1 y0 y1 : ByteArray) (W : World) : Calls Tryz.prog 33 #[.agg #[.string x0, .string x1], .agg #[.string y0, .string y1]] W fun e w' => e = .returned (.int .i64 (cmpP ⟨x0, x1⟩ ⟨y0, y1⟩)) ∧ Bel W w' :=
  (order_grow x0 x1 y0 y1 W).mono fun _ _ ⟨h, q, os, k⟩ => ⟨h, k ▸ bel_grow W q os⟩
end Go.Proofs.YtnpinolhhnpniaaGreat
