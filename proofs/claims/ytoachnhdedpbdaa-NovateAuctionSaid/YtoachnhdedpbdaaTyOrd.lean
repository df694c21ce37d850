/- Orders as elements of rows. -/
import Derived.Test.YtoachnhdedpbdaaWd
import Derived.Test.YtoachnhdedpbdaaProg
namespace Go.Proofs.Ytoachnhdedpbdaa
open Go.RowKit
structure Ord where
  number : Int
  who : ByteArray
  market : ByteArray
  buy : Bool
  price : Int
  left : Int
def ordC (o : Ord) : List Value := [.int .u64 o.number, .string o.who, .string o.market, .bool o.buy, .int .i64 o.price, .int .i64 o.left]
def ordT : Ty Ord := { e := 30, sz := 6, enc := ordC, pos := by decide, len := fun _ => rfl, one := fun x u hu => by simp [ordC] at hu; rcases hu with rfl | rfl | rfl | rfl | rfl | rfl <;> rfl }
def ordZ : Value := .agg #[.int .u64 0, .string ⟨#[]⟩, .string ⟨#[]⟩, .bool false, .int .i64 0, .int .i64 0]
theorem ordS : SlT Try.prog 22 ordT 64 ordZ := ⟨Try.underlying22, by kernel_rfl, rfl, by decide⟩
/-- Order k of a row: its cells. -/
theorem Row.ord {w : World} {A : Option Addr} {n : Nat} {l : List Ord} (h : Row ordT w A n l) {k : Nat} (hk : k < n) :
    ∃ ad number who market buy price left, A = some ad ∧ l[k]? = some ⟨number, who, market, buy, price, left⟩ ∧
      w.cell? (ad.add (k * 6)) = some (.int .u64 number) ∧
      w.cell? ⟨(ad.add (k * 6)).block, (ad.add (k * 6)).off + 1, none⟩ = some (.string who) ∧
      w.cell? ⟨(ad.add (k * 6)).block, (ad.add (k * 6)).off + 2, none⟩ = some (.string market) ∧
      w.cell? ⟨(ad.add (k * 6)).block, (ad.add (k * 6)).off + 3, none⟩ = some (.bool buy) ∧
      w.cell? ⟨(ad.add (k * 6)).block, (ad.add (k * 6)).off + 4, none⟩ = some (.int .i64 price) ∧
      w.cell? ⟨(ad.add (k * 6)).block, (ad.add (k * 6)).off + 5, none⟩ = some (.int .i64 left) := by
  obtain ⟨ad, o, e, ho, h0, hi⟩ := h.at_ hk
  exact ⟨ad, o.number, o.who, o.market, o.buy, o.price, o.left, e, ho, h0 _ rfl, hi 0 _ rfl, hi 1 _ rfl, hi 2 _ rfl, hi 3 _ rfl, hi 4 _ rfl⟩
end Go.Proofs.Ytoachnhdedpbdaa
