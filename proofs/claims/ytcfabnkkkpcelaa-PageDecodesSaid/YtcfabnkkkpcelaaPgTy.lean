/- Pages: rows of bytes, texts, pairs; what the walks are told of a page. -/
import Derived.Test.YtcfabnkkkpcelaaTyInt
import Derived.Test.YtcfabnkkkpcelaaPgQ
import Derived.Deep.AppendSrc
import Derived.Deep.QuietTactic
import Derived.BigQuiet
set_option linter.unusedSimpArgs false
set_option linter.unusedVariables false
namespace Go.Proofs.Ytcfabnkkkpcelaa
open Go.RowKit
def byteT : Ty Int where
  e := 5
  sz := 1
  enc := fun x => [.int .u8 x]
  pos := by decide
  len := fun _ => rfl
  one := fun x u hu => by simp at hu; subst hu; rfl
theorem byteS : SlT Try.prog 30 byteT 1 (.int .u8 0) where
  ut := by kernel_rfl
  info := by kernel_rfl
  zs := rfl
  by0 := by decide
def strT : Ty ByteArray where
  e := 9
  sz := 1
  enc := fun x => [.string x]
  pos := by decide
  len := fun _ => rfl
  one := fun x u hu => by simp at hu; subst hu; rfl
theorem strS : SlT Try.prog 24 strT 16 (.string ⟨#[]⟩) where
  ut := by kernel_rfl
  info := by kernel_rfl
  zs := rfl
  by0 := by decide
def pairC (x : PairV) : List Value := [.string x.key, .string x.val]
def pairT : Ty PairV where
  e := 44
  sz := 2
  enc := pairC
  pos := by decide
  len := fun _ => rfl
  one := fun x u hu => by simp [pairC] at hu; rcases hu with rfl | rfl <;> rfl
theorem pairS : SlT Try.prog 23 pairT 32 (.agg #[.string ⟨#[]⟩, .string ⟨#[]⟩]) where
  ut := by kernel_rfl
  info := by kernel_rfl
  zs := rfl
  by0 := by decide
theorem Row.byte {w : World} {A : Option Addr} {n : Nat} {l : List Int} (h : Row byteT w A n l) {k : Nat} (hk : k < n) :
    ∃ ad x, A = some ad ∧ l[k]? = some x ∧ w.cell? (ad.add k) = some (.int .u8 x) := by
  obtain ⟨ad, x, e, ho, h0, _⟩ := h.at_ hk
  refine ⟨ad, x, e, ho, ?_⟩
  have := h0 _ rfl
  rwa [show k * byteT.sz = k from Nat.mul_one k] at this
theorem Row.str {w : World} {A : Option Addr} {n : Nat} {l : List ByteArray} (h : Row strT w A n l) {k : Nat} (hk : k < n) :
    ∃ ad x, A = some ad ∧ l[k]? = some x ∧ w.cell? (ad.add k) = some (.string x) := by
  obtain ⟨ad, x, e, ho, h0, _⟩ := h.at_ hk
  refine ⟨ad, x, e, ho, ?_⟩
  have := h0 _ rfl
  rwa [show k * strT.sz = k from Nat.mul_one k] at this
/-- Element k of a row of pairs. -/
theorem Row.pair {w : World} {A : Option Addr} {n : Nat} {l : List PairV} (h : Row pairT w A n l) {k : Nat} (hk : k < n) :
    ∃ ad x, A = some ad ∧ l[k]? = some x ∧ w.cell? (ad.add (k * 2)) = some (.string x.key) ∧ w.cell? ⟨(ad.add (k * 2)).block, (ad.add (k * 2)).off + 1, none⟩ = some (.string x.val) := by
  obtain ⟨ad, x, e, ho, h0, h1⟩ := h.at_ hk
  exact ⟨ad, x, e, ho, h0 _ rfl, h1 0 _ rfl⟩
theorem row_byts {w : World} {A : Option Addr} {n : Nat} {bs : List Int} (h : Row byteT w A n bs) (hb : ∀ b ∈ bs, 0 ≤ b ∧ b < 256) : Byts w A n bs := by
  refine ⟨h.1, h.2.1, fun hn => ?_, hb⟩
  obtain ⟨ad, e, hc⟩ := h.2.2 hn
  refine ⟨ad, e, fun j hj => ?_⟩
  have hl : j < bs.length := by rw [h.1]; exact hj
  have := hc j _ (List.getElem?_eq_getElem hl) 0 _ rfl
  simp only [byteT, Nat.mul_one, Nat.add_zero] at this
  rw [this, List.getD_eq_getElem?_getD, List.getElem?_eq_getElem hl]
  rfl
/-- A page that came: its four rows. -/
structure PgAt (w : World) (P : Pg) (A : Option Addr) (n : Nat) (B : Option Addr) (m : Nat) (C : Option Addr) (k : Nat) (D : Option Addr) (l : Nat) : Prop where
  pairs : Row pairT w A n P.pairs
  keys : Row strT w B m P.keys
  kids : Row intT w C k P.kids
  pages : Row intT w D l P.pages
/-- Its eleven cells. -/
def pgC (P : Pg) (a b c d : Value) : List Value := [.int .i64 P.kind, a, b, c, d, .int .i64 P.next, .int .u64 P.epoch, .int .i64 P.root, .int .i64 P.depth, .int .i64 P.count, .int .i64 P.high]
def pgV (P : Pg) (a b c d : Value) : Value := .agg (pgC P a b c d).toArray
theorem PgAt.bel {w w1 : World} {P : Pg} {A B C D : Option Addr} {n m k l : Nat} (h : PgAt w P A n B m C k D l) (hb : Bel w w1) : PgAt w1 P A n B m C k D l :=
  ⟨h.pairs.bel hb, h.keys.bel hb, h.kids.bel hb, h.pages.bel hb⟩
/-- A page as a value: its rows read. -/
def PgIn (w : World) (P : Pg) (v : Value) : Prop :=
  ∃ A n c B m d C k e D l f, v = pgV P (.slice A n c) (.slice B m d) (.slice C k e) (.slice D l f) ∧ n ≤ c ∧ m ≤ d ∧ k ≤ e ∧ l ≤ f ∧ PgAt w P A n B m C k D l
theorem PgIn.bel {w w1 : World} {P : Pg} {v : Value} (h : PgIn w P v) (hb : Bel w w1) : PgIn w1 P v := by
  obtain ⟨A, n, c, B, m, d, C, k, e, D, l, f, rfl, h1, h2, h3, h4, h⟩ := h
  exact ⟨A, n, c, B, m, d, C, k, e, D, l, f, rfl, h1, h2, h3, h4, h.bel hb⟩
/-! ### loops by an index -/
theorem all_range {f : Nat → Bool} {n : Nat} (h : ∀ j, j < n → f j = true) : (List.range n).all f = true := List.all_eq_true.2 (fun j hj => h j (List.mem_range.1 hj))
theorem all_range_no {f : Nat → Bool} {n j : Nat} (hj : j < n) (h : f j = false) : (List.range n).all f = false := by
  cases h' : (List.range n).all f with
  | false => rfl
  | true => rw [(List.all_eq_true.1 h') j (List.mem_range.2 hj)] at h; cases h
end Go.Proofs.Ytcfabnkkkpcelaa
