/- The stable sort of orders, over a program of which the sort's functions and types alone are known: so the walks take an order's cells as one run. -/
import Derived.Test.YtgdonempmblhhaaTyOrd
import Derived.Shelf.SlSortCmp.KitK
import Derived.Shelf.SlSortCmp.WholeK
import Derived.BigRegion
import Derived.Deep.LoopGhost
set_option linter.unusedSimpArgs false
set_option linter.unusedVariables false
namespace Go.Proofs.Ytgdonempmblhhaa
open Go.RowKit Go.Lib Go.Sort Go.Shelf
instance : Inhabited Ord := ⟨⟨0, ⟨#[]⟩, ⟨#[]⟩, false, 0, 0⟩⟩
structure StP (P : Program) (k : Nat) : Prop where
  mixed : P.follows Departure.mixedOrders = true
  fSwr : P.funcs[90]? = some Try.f90
  fRot : P.funcs[89]? = some Try.f89
  fSym : P.funcs[86]? = some Try.f86
  t0 : P.underlying 0 = some (TypeDesc.tuple #[])
  a0 : ∀ w, (isAgg 0).run P w = .ok false w
  z0 : ∀ w, (Go.sizeOf 0).run P w = .ok 1 w
  v0 : ∀ w, (zeroValue 0).run P w = .ok (Value.tuple #[]) w
  t3 : P.underlying 3 = some (TypeDesc.int IntKind.i64)
  a3 : ∀ w, (isAgg 3).run P w = .ok false w
  z3 : ∀ w, (Go.sizeOf 3).run P w = .ok 1 w
  v3 : ∀ w, (zeroValue 3).run P w = .ok (Value.int IntKind.i64 0) w
  t4 : P.underlying 4 = some (TypeDesc.bool)
  a4 : ∀ w, (isAgg 4).run P w = .ok false w
  z4 : ∀ w, (Go.sizeOf 4).run P w = .ok 1 w
  v4 : ∀ w, (zeroValue 4).run P w = .ok (Value.bool false) w
  tu : P.underlying 96 = some (TypeDesc.int IntKind.u64)
  au : ∀ w, (isAgg 96).run P w = .ok false w
  zu : ∀ w, (Go.sizeOf 96).run P w = .ok 1 w
  vu : ∀ w, (zeroValue 96).run P w = .ok (Value.int IntKind.u64 0) w
  ts : P.underlying 29 = some (TypeDesc.slice 27)
  asl : ∀ w, (isAgg 29).run P w = .ok false w
  zs : ∀ w, (Go.sizeOf 29).run P w = .ok 1 w
  vs : ∀ w, (zeroValue 29).run P w = .ok (Value.slice none 0 0) w
  tf : P.underlying 82 = some (TypeDesc.func #[27, 27] #[3] false)
  af : ∀ w, (isAgg 82).run P w = .ok false w
  zf : ∀ w, (Go.sizeOf 82).run P w = .ok 1 w
  vf : ∀ w, (zeroValue 82).run P w = .ok (Value.nilFunc) w
  aE : ∀ w, (isAgg 27).run P w = .ok true w
  zE : ∀ w, (Go.sizeOf 27).run P w = .ok k w
theorem stTry : StP Try.prog 6 where
  mixed := by kernel_rfl
  fSwr := Try.func90
  fRot := Try.func89
  fSym := Try.func86
  t0 := Try.underlying0
  a0 := Try.isAgg0
  z0 := Try.sizeOf0
  v0 := Try.zeroValue0
  t3 := Try.underlying3
  a3 := Try.isAgg3
  z3 := Try.sizeOf3
  v3 := Try.zeroValue3
  t4 := Try.underlying4
  a4 := Try.isAgg4
  z4 := Try.sizeOf4
  v4 := Try.zeroValue4
  tu := Try.underlying96
  au := Try.isAgg96
  zu := Try.sizeOf96
  vu := Try.zeroValue96
  ts := Try.underlying29
  asl := Try.isAgg29
  zs := Try.sizeOf29
  vs := Try.zeroValue29
  tf := Try.underlying82
  af := Try.isAgg82
  zf := Try.sizeOf82
  vf := Try.zeroValue82
  aE := Try.isAgg27
  zE := Try.sizeOf27
theorem ordLen (x : Ord) : (ordC x).length = 6 := rfl
theorem ordOne (x : Ord) : ∀ v ∈ ordC x, v.oneCell' = true := fun v hv => ordT.one x v hv
end Go.Proofs.Ytgdonempmblhhaa
