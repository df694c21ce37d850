/- The stable sort of orders, over a program of which the sort's functions and types alone are known: so the walks take an order's cells as one run. -/
import Derived.Test.YtnpcnahnkfdgpaaTyOrd
import Derived.Shelf.SlSortCmp.KitK
import Derived.Shelf.SlSortCmp.WholeK
import Derived.BigRegion
import Derived.Deep.LoopGhost
set_option linter.unusedSimpArgs false
set_option linter.unusedVariables false
namespace Go.Proofs.Ytnpcnahnkfdgpaa
open Go.RowKit Go.Lib Go.Sort Go.Shelf
instance : Inhabited Ord := ⟨⟨0, ⟨#[]⟩, ⟨#[]⟩, false, 0, 0⟩⟩
structure StP (P : Program) (k : Nat) : Prop where
  mixed : P.follows Departure.mixedOrders = true
  fSwr : P.funcs[73]? = some Try.f73
  fRot : P.funcs[70]? = some Try.f70
  fSym : P.funcs[65]? = some Try.f65
  t0 : P.underlying 0 = some (TypeDesc.tuple #[])
  a0 : ∀ w, (isAgg 0).run P w = .ok false w
  z0 : ∀ w, (Go.sizeOf 0).run P w = .ok 1 w
  v0 : ∀ w, (zeroValue 0).run P w = .ok (Value.tuple #[]) w
  t3 : P.underlying 3 = some (TypeDesc.int IntKind.i64)
  a3 : ∀ w, (isAgg 3).run P w = .ok false w
  z3 : ∀ w, (Go.sizeOf 3).run P w = .ok 1 w
  v3 : ∀ w, (zeroValue 3).run P w = .ok (Value.int IntKind.i64 0) w
  t4 : P.underlying 4 = some (TypeDesc.bool)
  a4 : ∀ w, (isAgg 4).run P w = .ok false w
  z4 : ∀ w, (Go.sizeOf 4).run P w = .ok 1 w
  v4 : ∀ w, (zeroValue 4).run P w = .ok (Value.bool false) w
  tu : P.underlying 77 = some (TypeDesc.int IntKind.u64)
  au : ∀ w, (isAgg 77).run P w = .ok false w
  zu : ∀ w, (Go.sizeOf 77).run P w = .ok 1 w
  vu : ∀ w, (zeroValue 77).run P w = .ok (Value.int IntKind.u64 0) w
  ts : P.underlying 22 = some (TypeDesc.slice 27)
  asl : ∀ w, (isAgg 22).run P w = .ok false w
  zs : ∀ w, (Go.sizeOf 22).run P w = .ok 1 w
  vs : ∀ w, (zeroValue 22).run P w = .ok (Value.slice none 0 0) w
  tf : P.underlying 64 = some (TypeDesc.func #[27, 27] #[3] false)
  af : ∀ w, (isAgg 64).run P w = .ok false w
  zf : ∀ w, (Go.sizeOf 64).run P w = .ok 1 w
  vf : ∀ w, (zeroValue 64).run P w = .ok (Value.nilFunc) w
  aE : ∀ w, (isAgg 27).run P w = .ok true w
  zE : ∀ w, (Go.sizeOf 27).run P w = .ok k w
theorem stTry : StP Try.prog 6 where
  mixed := by kernel_rfl
  fSwr := Try.func73
  fRot := Try.func70
  fSym := Try.func65
  t0 := Try.underlying0
  a0 := Try.isAgg0
  z0 := Try.sizeOf0
  v0 := Try.zeroValue0
  t3 := Try.underlying3
  a3 := Try.isAgg3
  z3 := Try.sizeOf3
  v3 := Try.zeroValue3
  t4 := Try.underlying4
  a4 := Try.isAgg4
  z4 := Try.sizeOf4
  v4 := Try.zeroValue4
  tu := Try.underlying77
  au := Try.isAgg77
  zu := Try.sizeOf77
  vu := Try.zeroValue77
  ts := Try.underlying22
  asl := Try.isAgg22
  zs := Try.sizeOf22
  vs := Try.zeroValue22
  tf := Try.underlying64
  af := Try.isAgg64
  zf := Try.sizeOf64
  vf := Try.zeroValue64
  aE := Try.isAgg27
  zE := Try.sizeOf27
theorem ordLen (x : Ord) : (ordC x).length = 6 := rfl
theorem ordOne (x : Ord) : ∀ v ∈ ordC x, v.oneCell' = true := fun v hv => ordT.one x v hv
end Go.Proofs.Ytnpcnahnkfdgpaa
