/- The document's Before. -/
import Derived.Test.YtnpinolhhnpniaaGreatPlc
import Derived.Test.YtnpinolhhnpniaaGreatWrl
import Derived.Test.YtnpinolhhnpniaaGreatWd
import Derived.Test.YtnpinolhhnpniaaGreatProg
import Derived.BigQuiet
set_option linter.unusedSimpArgs false
set_option linter.unusedVariables false
namespace Go.Proofs.YtnpinolhhnpniaaGreat
open Go.RowKit Go.Lib
set_option maxRecDepth 10000 in
theorem before_any (p0 p1 q0 q1 : ByteArray) (w : World) :
    Calls Tryz.prog 60 #[.string p0, .string p1, .string q0, .string q1] w fun e w' => e = .returned (.bool (ltP ⟨p0, p1⟩ ⟨q0, q1⟩)) ∧ w = w' := by
  obtain ⟨r, hr⟩ : ∃ r, ltP ⟨p0, p1⟩ ⟨q0, q1⟩ = r := ⟨_, rfl⟩
  rw [hr]
  have HR := hid_ hr
  clear hr
  go_enter Tryz.func60, Tryz.ntmps60
  obtain ⟨b1, h1⟩ : ∃ b, Op.bytesLess p0.toList q0.toList = b := ⟨_, rfl⟩
  obtain ⟨b2, h2⟩ : ∃ b, (p0.toList == q0.toList) = b := ⟨_, rfl⟩
  obtain ⟨b3, h3⟩ : ∃ b, Op.bytesLess p1.toList q1.toList = b := ⟨_, rfl⟩
  have HF : Hid (r = (b1 || (b2 && b3))) := hid_ (by
    rw [← HR.out, ← h1, ← h2, ← h3, bytesEq]
    rfl)
  clear HR
  cases b1
  · cases b2
    · go_wp2
      go_ret
      exact ⟨by rw [HF.out]; rfl, rfl⟩
    · go_wp2
      go_ret
      exact ⟨by rw [HF.out]; rfl, rfl⟩
  · go_wp2
    go_ret
    exact ⟨by rw [HF.out]; rfl, rfl⟩
theorem before_same (p0 p1 q0 q1 : ByteArray) (w : World) :
    Calls Tryz.prog 60 #[.string p0, .string p1, .string q0, .string q1] w fun e w' => e = .returned (.bool (ltP ⟨p0, p1⟩ ⟨q0, q1⟩)) ∧ w' = w := (before_any p0 p1 q0 q1 w).mono fun _ _ ⟨h, k⟩ => ⟨h, k.symm⟩
theorem results_ct1 {P : Program} {fn : Func} {p u : Tmp} {ty : TypeId} (h : fn.results = #[.cell p ty, .tmp u]) (tmps : Array Value) (w : World) (g : Nat) (t : TypeId) (cs : Array Value) (fr : Nat × Nat) (d : TypeDesc)
    (hp : tmps.getD p undef = .pointer (some ⟨g, 0, none⟩)) (hg : w.heap[g]? = some (.cells cs t fr))
    (hu : P.underlying ty = some d) (hd : (match d with | .struct _ | .array _ _ => true | _ => false) = true) (hi : (P.info? ty).map (·.size) = some cs.size) :
    (results fn tmps).run P w = .ok (.tuple #[.agg cs, tmps.getD u undef]) w := by
  have hp' : tmps[p]?.getD undef = .pointer (some ⟨g, 0, none⟩) := by simpa using hp
  simp [results, h, hp', asAddr, run_loadVar_row w g t ty cs fr d hg hu hd hi]
end Go.Proofs.YtnpinolhhnpniaaGreat
