/- Accounts, and legs, as elements of rows. -/
import Derived.Test.YtnpinolhhnpniaaGreatWd
import Derived.Test.YtnpinolhhnpniaaGreatProg
import Derived.Test.YtnpinolhhnpniaaGreatAccP
import Derived.Test.YtnpinolhhnpniaaGreatDueP
namespace Go.Proofs.YtnpinolhhnpniaaGreat
open Go.RowKit
def accC (o : Acc) : List Value := [.string o.who, .string o.asset, .int .i64 o.balance, .int .i64 o.held]
def accT : Ty Acc := { e := 37, sz := 4, enc := accC, pos := by decide, len := fun _ => rfl, one := fun x u hu => by simp [accC] at hu; rcases hu with rfl | rfl | rfl | rfl <;> rfl }
def accVz : Value := .agg #[.string ⟨#[]⟩, .string ⟨#[]⟩, .int .i64 0, .int .i64 0]
theorem accS : SlT Tryz.prog 22 accT 48 accVz := ⟨Tryz.underlying22, by kernel_rfl, rfl, by decide⟩
/-- Account k of a row: its cells. -/
theorem Row.acc {w : World} {A : Option Addr} {n : Nat} {l : List Acc} (h : Row accT w A n l) {k : Nat} (hk : k < n) :
    ∃ ad who asset balance held, A = some ad ∧ l[k]? = some ⟨who, asset, balance, held⟩ ∧
      w.cell? (ad.add (k * 4)) = some (.string who) ∧
      w.cell? ⟨(ad.add (k * 4)).block, (ad.add (k * 4)).off + 1, none⟩ = some (.string asset) ∧
      w.cell? ⟨(ad.add (k * 4)).block, (ad.add (k * 4)).off + 2, none⟩ = some (.int .i64 balance) ∧
      w.cell? ⟨(ad.add (k * 4)).block, (ad.add (k * 4)).off + 3, none⟩ = some (.int .i64 held) := by
  obtain ⟨ad, o, e, ho, h0, hi⟩ := h.at_ hk
  exact ⟨ad, o.who, o.asset, o.balance, o.held, e, ho, h0 _ rfl, hi 0 _ rfl, hi 1 _ rfl, hi 2 _ rfl⟩
end Go.Proofs.YtnpinolhhnpniaaGreat
