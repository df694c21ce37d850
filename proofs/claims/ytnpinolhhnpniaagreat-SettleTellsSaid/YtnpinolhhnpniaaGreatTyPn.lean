/- Netting's places, and texts, as keys of maps. -/
import Derived.Test.YtnpinolhhnpniaaGreatMp
import Derived.Test.YtnpinolhhnpniaaGreatPlc
import Derived.Test.YtnpinolhhnpniaaGreatProg
import Derived.ChangeOld
import Derived.DeepKeys4
import Derived.StringKeys
set_option linter.unusedSimpArgs false
set_option linter.unusedVariables false
namespace Go.Proofs.YtnpinolhhnpniaaGreat
open Go.RowKit Go.Lib Go.Maps Go.WideMaps
def plcVn (p : Plc) : Value := .agg #[.string p.who, .string p.asset]
def plcOkn (p : Plc) : Prop := p.who.size ≤ maxLen ∧ p.asset.size ≤ maxLen
def plcLn (p : Plc) : Lit := .string (keyBytes [.string p.who.data.toList, .string p.asset.data.toList])
theorem plcKeyn (p : Plc) (h : plcOkn p) : keyOf Tryz.prog 70 (plcVn p) = some (plcLn p) := by
  have hk : Tryz.prog.keyType 70 = true := by kernel_rfl
  have hc : Tryz.prog.cellsOf 70 = 2 := by kernel_rfl
  have hs : Tryz.prog.cellsOf 9 = 1 := by kernel_rfl
  have u := Tryz.underlying70
  have us := Tryz.underlying9
  have hf : (plcVn p).formed Tryz.prog 70 = true := by
    unfold plcVn
    simp [Value.formed, u, hc]
  obtain ⟨d, hd⟩ : ∃ d, Tryz.prog.types.size + 1 = d + 2 := ⟨Tryz.prog.types.size - 1, by
    have h1 : 1 ≤ Tryz.prog.types.size := of_decide_eq_true (by kernel_rfl)
    omega⟩
  unfold keyOf
  rw [hd, u, hk, hf]
  simp [plcVn, Value.cells, Program.keyLits, u, us, hc, hs, h.1, h.2, plcLn]
theorem plcKLn : WideMaps.KeyLaw Tryz.prog 70 := deep_law_laid (by kernel_rfl) (m := 3) (by decide) (of_decide_eq_true (by kernel_rfl)) (by kernel_rfl) (by kernel_rfl)
theorem plcLawn : Keyed Tryz.prog 70 := Keyed.of_law plcKLn
theorem plcVn_inj (x y : Plc) (h : plcVn x = plcVn y) : x = y := by
  obtain ⟨a, b⟩ := x
  obtain ⟨c, d⟩ := y
  simp [plcVn] at h
  rw [h.1, h.2]
def plcKn : KeyT Tryz.prog Plc := { k := 70, val := plcVn, ok := plcOkn, lit := plcLn, law := plcLawn, key := plcKeyn, mkInj := plcVn_inj }


def strOk (s : ByteArray) : Prop := s.size ≤ maxLen
theorem strKLn : WideMaps.KeyLaw Tryz.prog 9 := string_law Tryz.underlying9
def strK : KeyT Tryz.prog ByteArray := { k := 9, val := fun s => .string s, ok := strOk, lit := fun s => .string s.data.toList, law := Keyed.of_law strKLn, key := fun x hx => keyOf_string_mk Tryz.underlying9 hx, mkInj := fun x y h => by injection h }
end Go.Proofs.YtnpinolhhnpniaaGreat
