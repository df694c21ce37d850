/- Dues, and texts, as elements of rows. -/
import Derived.Test.YtoachnhdedpbdaaWd
import Derived.Test.YtoachnhdedpbdaaProg
import Derived.Test.YtoachnhdedpbdaaDueP
namespace Go.Proofs.Ytoachnhdedpbdaa
open Go.RowKit
def dueC (o : Due) : List Value := [.string o.who, .string o.asset, .int .i64 o.amount]
def dueT : Ty Due := { e := 43, sz := 3, enc := dueC, pos := by decide, len := fun _ => rfl, one := fun x u hu => by simp [dueC] at hu; rcases hu with rfl | rfl | rfl <;> rfl }
def dueZ : Value := .agg #[.string ⟨#[]⟩, .string ⟨#[]⟩, .int .i64 0]
theorem dueS : SlT Try.prog 36 dueT 40 dueZ := ⟨Try.underlying36, by kernel_rfl, rfl, by decide⟩
theorem Row.due {w : World} {A : Option Addr} {n : Nat} {l : List Due} (h : Row dueT w A n l) {k : Nat} (hk : k < n) :
    ∃ ad who asset amount, A = some ad ∧ l[k]? = some ⟨who, asset, amount⟩ ∧
      w.cell? (ad.add (k * 3)) = some (.string who) ∧
      w.cell? ⟨(ad.add (k * 3)).block, (ad.add (k * 3)).off + 1, none⟩ = some (.string asset) ∧
      w.cell? ⟨(ad.add (k * 3)).block, (ad.add (k * 3)).off + 2, none⟩ = some (.int .i64 amount) := by
  obtain ⟨ad, o, e, ho, h0, hi⟩ := h.at_ hk
  exact ⟨ad, o.who, o.asset, o.amount, e, ho, h0 _ rfl, hi 0 _ rfl, hi 1 _ rfl⟩
def strT : Ty ByteArray := { e := 9, sz := 1, enc := fun s => [.string s], pos := by decide, len := fun _ => rfl, one := fun x u hu => by simp at hu; subst hu; rfl }
theorem strS : SlT Try.prog 131 strT 16 (.string ⟨#[]⟩) := ⟨Try.underlying131, by kernel_rfl, rfl, by decide⟩
theorem Row.str {w : World} {A : Option Addr} {n : Nat} {l : List ByteArray} (h : Row strT w A n l) {k : Nat} (hk : k < n) :
    ∃ ad s, A = some ad ∧ l[k]? = some s ∧ w.cell? (ad.add k) = some (.string s) := by
  obtain ⟨ad, s, e, ho, h0, _⟩ := h.at_ hk
  refine ⟨ad, s, e, ho, ?_⟩
  have := h0 _ rfl
  rwa [show k * strT.sz = k from Nat.mul_one k] at this
def byteT : Ty UInt8 := { e := 5, sz := 1, enc := fun b => [.int .u8 (b.toNat : Int)], pos := by decide, len := fun _ => rfl, one := fun x u hu => by simp at hu; subst hu; rfl }
theorem Row.byte {w : World} {A : Option Addr} {n : Nat} {l : List UInt8} (h : Row byteT w A n l) {k : Nat} (hk : k < n) :
    ∃ ad b, A = some ad ∧ l[k]? = some b ∧ w.cell? (ad.add k) = some (.int .u8 (b.toNat : Int)) := by
  obtain ⟨ad, s, e, ho, h0, _⟩ := h.at_ hk
  refine ⟨ad, s, e, ho, ?_⟩
  have := h0 _ rfl
  rwa [show k * byteT.sz = k from Nat.mul_one k] at this
end Go.Proofs.Ytoachnhdedpbdaa
