/- Legs as elements of rows. -/
import Derived.Test.YtnpinolhhnpniaaGreatWd
import Derived.Test.YtnpinolhhnpniaaGreatProg
import Derived.Test.YtnpinolhhnpniaaGreatDueP
namespace Go.Proofs.YtnpinolhhnpniaaGreat
open Go.RowKit
def legC (o : Due) : List Value := [.string o.who, .string o.asset, .int .i64 o.amount]
def legT : Ty Due := { e := 52, sz := 3, enc := legC, pos := by decide, len := fun _ => rfl, one := fun x u hu => by simp [legC] at hu; rcases hu with rfl | rfl | rfl <;> rfl }
def legZ : Value := .agg #[.string ⟨#[]⟩, .string ⟨#[]⟩, .int .i64 0]
theorem legS : SlT Tryz.prog 29 legT 40 legZ := ⟨Tryz.underlying29, by kernel_rfl, rfl, by decide⟩
theorem Row.leg {w : World} {A : Option Addr} {n : Nat} {l : List Due} (h : Row legT w A n l) {k : Nat} (hk : k < n) :
    ∃ ad who asset amount, A = some ad ∧ l[k]? = some ⟨who, asset, amount⟩ ∧
      w.cell? (ad.add (k * 3)) = some (.string who) ∧
      w.cell? ⟨(ad.add (k * 3)).block, (ad.add (k * 3)).off + 1, none⟩ = some (.string asset) ∧
      w.cell? ⟨(ad.add (k * 3)).block, (ad.add (k * 3)).off + 2, none⟩ = some (.int .i64 amount) := by
  obtain ⟨ad, o, e, ho, h0, hi⟩ := h.at_ hk
  exact ⟨ad, o.who, o.asset, o.amount, e, ho, h0 _ rfl, hi 0 _ rfl, hi 1 _ rfl⟩
end Go.Proofs.YtnpinolhhnpniaaGreat
