/- Fills and trades as elements of rows. -/
import Derived.Test.YtoachnhdedpbdaaTyTrd
import Derived.Test.YtoachnhdedpbdaaProg
namespace Go.Proofs.Ytoachnhdedpbdaa
open Go.RowKit
structure Fil where
  number : Int
  quantity : Int
def filC (o : Fil) : List Value := [.int .u64 o.number, .int .i64 o.quantity]
def filT : Ty Fil := { e := 85, sz := 2, enc := filC, pos := by decide, len := fun _ => rfl, one := fun x u hu => by simp [filC] at hu; rcases hu with rfl | rfl <;> rfl }
def filZ : Value := .agg #[.int .u64 0, .int .i64 0]
theorem filS : SlT Try.prog 82 filT 16 filZ := ⟨Try.underlying82, by kernel_rfl, rfl, by decide⟩
theorem Row.fil {w : World} {A : Option Addr} {n : Nat} {l : List Fil} (h : Row filT w A n l) {k : Nat} (hk : k < n) :
    ∃ ad number quantity, A = some ad ∧ l[k]? = some ⟨number, quantity⟩ ∧
      w.cell? (ad.add (k * 2)) = some (.int .u64 number) ∧
      w.cell? ⟨(ad.add (k * 2)).block, (ad.add (k * 2)).off + 1, none⟩ = some (.int .i64 quantity) := by
  obtain ⟨ad, o, e, ho, h0, hi⟩ := h.at_ hk
  exact ⟨ad, o.number, o.quantity, e, ho, h0 _ rfl, hi 0 _ rfl⟩
end Go.Proofs.Ytoachnhdedpbdaa
