/- Contracts of the library laid at this seat's numbers (plain words, by the kit's tool). -/
import Derived.Shelf.SlGeneric
import Derived.Ground.Names2Prog
import Derived.Shelf.Slices.CompactI
import Derived.Test.YtcfabnkkkpcelaaProg
namespace Go.Proofs
open Go.Shelf
def Try.cmpct_ren : Go.Shelf.Ren := ⟨fun | 20 => 36 | n => n, fun | 22 => 25 | 3 => 3 | 4 => 4 | 0 => 0 | n => n, fun | n => n⟩
theorem Try.cmpct : Go.Proofs.Lays2.n20 Try.prog Try.cmpct_ren := {
  mixed := by kernel_rfl
  f20 := Try.func36.trans (congrArg some (by kernel_rfl))
  t0 := Try.underlying0
  a0 := Try.isAgg0
  z0 := Try.sizeOf0
  v0 := Try.zeroValue0
  t3 := Try.underlying3
  a3 := Try.isAgg3
  z3 := Try.sizeOf3
  v3 := Try.zeroValue3
  t4 := Try.underlying4
  a4 := Try.isAgg4
  z4 := Try.sizeOf4
  v4 := Try.zeroValue4
  t22 := Try.underlying25
  a22 := Try.isAgg25
  z22 := Try.sizeOf25
  v22 := Try.zeroValue25
  i3 := by kernel_rfl }
end Go.Proofs
