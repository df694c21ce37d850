/- Trades as elements of rows. -/
import Derived.Test.YtoachnhdedpbdaaWd
import Derived.Test.YtoachnhdedpbdaaProg
namespace Go.Proofs.Ytoachnhdedpbdaa
open Go.RowKit
structure Trd where
  buy : Int
  sell : Int
  quantity : Int
  price : Int
def trdC (o : Trd) : List Value := [.int .u64 o.buy, .int .u64 o.sell, .int .i64 o.quantity, .int .i64 o.price]
def trdT : Ty Trd := { e := 65, sz := 4, enc := trdC, pos := by decide, len := fun _ => rfl, one := fun x u hu => by simp [trdC] at hu; rcases hu with rfl | rfl | rfl | rfl <;> rfl }
def trdZ : Value := .agg #[.int .u64 0, .int .u64 0, .int .i64 0, .int .i64 0]
theorem trdS : SlT Try.prog 33 trdT 32 trdZ := ⟨Try.underlying33, by kernel_rfl, rfl, by decide⟩
theorem Row.trd {w : World} {A : Option Addr} {n : Nat} {l : List Trd} (h : Row trdT w A n l) {k : Nat} (hk : k < n) :
    ∃ ad buy sell quantity price, A = some ad ∧ l[k]? = some ⟨buy, sell, quantity, price⟩ ∧
      w.cell? (ad.add (k * 4)) = some (.int .u64 buy) ∧
      w.cell? ⟨(ad.add (k * 4)).block, (ad.add (k * 4)).off + 1, none⟩ = some (.int .u64 sell) ∧
      w.cell? ⟨(ad.add (k * 4)).block, (ad.add (k * 4)).off + 2, none⟩ = some (.int .i64 quantity) ∧
      w.cell? ⟨(ad.add (k * 4)).block, (ad.add (k * 4)).off + 3, none⟩ = some (.int .i64 price) := by
  obtain ⟨ad, o, e, ho, h0, hi⟩ := h.at_ hk
  exact ⟨ad, o.buy, o.sell, o.quantity, o.price, e, ho, h0 _ rfl, hi 0 _ rfl, hi 1 _ rfl, hi 2 _ rfl⟩
end Go.Proofs.Ytoachnhdedpbdaa
