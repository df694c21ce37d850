/- Places as elements of rows, and as keys of maps. -/
import Derived.Test.YtnpinolhhnpniaaGreatAc1
import Derived.Test.YtnpinolhhnpniaaGreatMp
import Derived.ChangeOld
import Derived.DeepKeys4
set_option linter.unusedSimpArgs false
set_option linter.unusedVariables false
namespace Go.Proofs.YtnpinolhhnpniaaGreat
open Go.RowKit Go.Lib Go.Maps
def plcT : Ty Plc := { e := 56, sz := 2, enc := plcC, pos := by decide, len := fun _ => rfl, one := fun x u hu => by simp [plcC] at hu; rcases hu with rfl | rfl <;> rfl }
def plcZ : Value := .agg #[.string ⟨#[]⟩, .string ⟨#[]⟩]
theorem plcS : SlT Tryz.prog 88 plcT 32 plcZ := ⟨Tryz.underlying88, by kernel_rfl, rfl, by decide⟩
theorem Row.plcs {w : World} {A : Option Addr} {n : Nat} {l : List Plc} (h : Row plcT w A n l) {k : Nat} (hk : k < n) :
    ∃ ad who asset, A = some ad ∧ l[k]? = some ⟨who, asset⟩ ∧ w.cell? (ad.add (k * 2)) = some (.string who) ∧ w.cell? ⟨(ad.add (k * 2)).block, (ad.add (k * 2)).off + 1, none⟩ = some (.string asset) := by
  obtain ⟨ad, o, e, ho, h0, hi⟩ := h.at_ hk
  exact ⟨ad, o.who, o.asset, e, ho, h0 _ rfl, hi 0 _ rfl⟩
def plcV (p : Plc) : Value := .agg #[.string p.who, .string p.asset]
def plcOk (p : Plc) : Prop := p.who.size ≤ maxLen ∧ p.asset.size ≤ maxLen
def plcL (p : Plc) : Lit := .string (keyBytes [.string p.who.data.toList, .string p.asset.data.toList])
theorem plcKey (p : Plc) (h : plcOk p) : keyOf Tryz.prog 56 (plcV p) = some (plcL p) := by
  have hk : Tryz.prog.keyType 56 = true := by kernel_rfl
  have hc : Tryz.prog.cellsOf 56 = 2 := by kernel_rfl
  have hs : Tryz.prog.cellsOf 9 = 1 := by kernel_rfl
  have u := Tryz.underlying56
  have us := Tryz.underlying9
  have hf : (plcV p).formed Tryz.prog 56 = true := by
    unfold plcV
    simp [Value.formed, u, hc]
  obtain ⟨d, hd⟩ : ∃ d, Tryz.prog.types.size + 1 = d + 2 := ⟨Tryz.prog.types.size - 1, by
    have h1 : 1 ≤ Tryz.prog.types.size := of_decide_eq_true (by kernel_rfl)
    omega⟩
  unfold keyOf
  rw [hd, u, hk, hf]
  simp [plcV, Value.cells, Program.keyLits, u, us, hc, hs, h.1, h.2, plcL]
theorem plcKL : WideMaps.KeyLaw Tryz.prog 56 := deep_law_laid (by kernel_rfl) (m := 3) (by decide) (of_decide_eq_true (by kernel_rfl)) (by kernel_rfl) (by kernel_rfl)
theorem plcLaw : Keyed Tryz.prog 56 := Keyed.of_law plcKL
theorem plcV_inj (x y : Plc) (h : plcV x = plcV y) : x = y := by
  obtain ⟨a, b⟩ := x
  obtain ⟨c, d⟩ := y
  simp [plcV] at h
  rw [h.1, h.2]
def plcK : KeyT Tryz.prog Plc := { k := 56, val := plcV, ok := plcOk, lit := plcL, law := plcLaw, key := plcKey, mkInj := plcV_inj }
end Go.Proofs.YtnpinolhhnpniaaGreat
