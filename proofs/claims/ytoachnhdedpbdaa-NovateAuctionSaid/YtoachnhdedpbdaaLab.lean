/- Names: the plain law. -/
import Derived.Lib.Bytealg
namespace Go.Proofs.Ytoachnhdedpbdaa
open Go.Lib
theorem indexByte_mem : ∀ (l : List UInt8) (c : UInt8), 0 ≤ indexByte l c ↔ c ∈ l
  | [], c => by simp [indexByte]
  | b :: l, c => by
    have ih := indexByte_mem l c
    have hg := indexByte_ge l c
    unfold indexByte
    by_cases h : b = c
    · subst h
      simp
    · have h1 : (b == c) = false := by simp [h]
      rw [h1]
      simp only [Bool.false_eq_true, if_false]
      by_cases h2 : indexByte l c = -1
      · have h3 : ¬ 0 ≤ indexByte l c := by omega
        have h4 : c ∉ l := fun e => h3 (ih.2 e)
        rw [h2]
        simp [h4, Ne.symm h]
      · have h3 : (indexByte l c == -1) = false := by simp [h2]
        rw [h3]
        simp only [Bool.false_eq_true, if_false]
        have h4 : 0 ≤ indexByte l c := by omega
        have h5 := ih.1 h4
        constructor
        · intro _
          exact List.mem_cons_of_mem _ h5
        · intro _
          omega
/-- Is a byte among some signs? -/
def signB (signs : List ByteArray) (c : UInt8) : Bool := signs.any fun l => decide (0 ≤ indexByte l.data.toList c)
def ofB (s : ByteArray) (most : Int) (signs : List ByteArray) : Bool := s.data.toList.all (signB signs) && (decide (1 ≤ s.size) && decide ((s.size : Int) ≤ most))
def smallS : ByteArray := ⟨#[97, 98, 99, 100, 101, 102, 103, 104, 105, 106, 107, 108, 109, 110, 111, 112, 113, 114, 115, 116, 117, 118, 119, 120, 121, 122]⟩
def largeS : ByteArray := ⟨#[65, 66, 67, 68, 69, 70, 71, 72, 73, 74, 75, 76, 77, 78, 79, 80, 81, 82, 83, 84, 85, 86, 87, 88, 89, 90]⟩
def digitS : ByteArray := ⟨#[48, 49, 50, 51, 52, 53, 54, 55, 56, 57]⟩
theorem allBytes (p : UInt8 → Prop) (h : ∀ n, n < 256 → p (UInt8.ofNat n)) (c : UInt8) : p c := by
  have := h c.toNat c.toNat_lt
  rwa [UInt8.ofNat_toNat] at this
def inB (lo hi : Nat) (c : UInt8) : Bool := decide (lo ≤ c.toNat) && decide (c.toNat ≤ hi)
theorem sign_large (c : UInt8) : signB [largeS] c = inB 65 90 c :=
  allBytes (fun c => signB [largeS] c = inB 65 90 c) (by decide +kernel) c
theorem sign_who (c : UInt8) : signB [smallS, digitS] c = (inB 97 122 c || inB 48 57 c) :=
  allBytes (fun c => signB [smallS, digitS] c = (inB 97 122 c || inB 48 57 c)) (by decide +kernel) c
theorem sign_small (c : UInt8) : signB [smallS] c = inB 97 122 c :=
  allBytes (fun c => signB [smallS] c = inB 97 122 c) (by decide +kernel) c
/-- An asset's name. -/
def assetB (s : ByteArray) : Bool := s.data.toList.all (inB 65 90) && (decide (1 ≤ s.size) && decide (s.size ≤ 6))
theorem of_asset (s : ByteArray) : ofB s 6 [largeS] = assetB s := by
  have e : (signB [largeS]) = inB 65 90 := funext sign_large
  unfold ofB assetB
  rw [e]
  congr 2
  simp only [decide_eq_decide]
  omega
/-- A participant's name. -/
def letB (c : UInt8) : Bool := inB 97 122 c
def wordB (c : UInt8) : Bool := inB 97 122 c || inB 48 57 c
def whoB (s : ByteArray) : Bool := (s.data.toList.all wordB && (decide (1 ≤ s.size) && decide (s.size ≤ 8))) && (s.data.toList.take 1).all letB
theorem of_who (s : ByteArray) : ofB s 8 [smallS, digitS] = (s.data.toList.all wordB && (decide (1 ≤ s.size) && decide (s.size ≤ 8))) := by
  have e : (signB [smallS, digitS]) = wordB := funext sign_who
  unfold ofB
  rw [e]
  congr 2
  simp only [decide_eq_decide]
  omega
theorem of_first (s : ByteArray) (h : 1 ≤ s.size) : ofB (s.extract 0 1) 1 [smallS] = (s.data.toList.take 1).all letB := by
  have e : (signB [smallS]) = letB := funext sign_small
  have h1 : (s.extract 0 1).data.toList = s.data.toList.take 1 := by
    rw [ByteArray.data_extract, Array.toList_extract]
    rfl
  have h2 : (s.extract 0 1).size = 1 := by
    rw [ByteArray.size_extract]
    omega
  unfold ofB
  rw [e, h1, h2]
  simp
/-- A market's name: what stands ahead of the first bar, and behind it. -/
def dash : UInt8 := 45
def headB (s : ByteArray) : ByteArray := s.extract 0 (indexByte s.data.toList dash).toNat
def tailB (s : ByteArray) : ByteArray := s.extract ((indexByte s.data.toList dash).toNat + 1) s.size
def marketB (s : ByteArray) : Bool := decide (0 ≤ indexByte s.data.toList dash) && (assetB (headB s) && (assetB (tailB s) && !decide (headB s = tailB s)))
end Go.Proofs.Ytoachnhdedpbdaa
