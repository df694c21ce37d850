/- (*reader).page of no kind: the walk. -/
import Derived.Test.YtcfabnkkkpcelaaPgD2
import Derived.Deep.DeepCutAuto
set_option linter.unusedSimpArgs false
set_option linter.unusedVariables false
namespace Go.Proofs.Ytcfabnkkkpcelaa
open Go.RowKit
set_option maxRecDepth 10000 in
set_option maxHeartbeats 4000000 in
theorem rpage5_any (w0 U : World) (g : Nat) (ep k : Int) (rest : List Int) (h : Rd w0 U g (pgC (zE 0 ep) nilV nilV nilV nilV) rest) (h1 : ¬ k = 1) (h2 : ¬ k = 2) (h3 : ¬ k = 3) (h4 : ¬ k = 4) :
    Calls Try.prog 46 #[.pointer (some ⟨g, 0, none⟩), .int .i64 k] U (RP w0 U g k ep rest) := by
  unfold pgC nilV zE at h
  simp only [pgZ] at h
  have c1 := h.cell 0 rfl
  have f1 := h.fz 1
  have HR0 := hid_ (h.set 0 (.int .i64 k))
  have HG0 := hid_ (setG U g 1 (.int .i64 k))
  simp only [List.set] at HR0
  have HL := hid_ h.lt
  clear h
  have HRP : Hid (rdP k ep rest = some (zE k ep)) := hid_ (by unfold rdP; rw [if_neg h1, if_neg h2, if_neg h3, if_neg h4]; rfl)
  have j1 : (k == 1) = false := by simp [h1]
  have j2 : (k == 2) = false := by simp [h2]
  have j3 : (k == 3) = false := by simp [h3]
  have j4 : (k == 4) = false := by simp [h4]
  clear h1 h2 h3 h4
  go_enter Try.func46, Try.ntmps46
  go_wp2
  first | go_end0 | (refine bodyPost_ret (results_none rfl _ _ _) rfl ?_)
  exact .inl ⟨zE k ep, nilV, nilV, nilV, nilV, rest, HRP.out, rfl, HR0.out, pgIn0 _ _ rfl rfl rfl rfl, HG0.out⟩
end Go.Proofs.Ytcfabnkkkpcelaa
