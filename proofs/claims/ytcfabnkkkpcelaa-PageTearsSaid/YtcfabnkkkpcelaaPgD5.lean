/- Decode: the walk. -/
import Derived.Test.YtcfabnkkkpcelaaPgD3a
import Derived.Test.YtcfabnkkkpcelaaPgD3b
import Derived.Test.YtcfabnkkkpcelaaPgD3c
import Derived.Test.YtcfabnkkkpcelaaPgD3d
import Derived.Test.YtcfabnkkkpcelaaPgD3e
import Derived.Test.YtcfabnkkkpcelaaPgD4
import Derived.Test.YtcfabnkkkpcelaaPgE5
import Derived.Test.YtcfabnkkkpcelaaPgE6
set_option linter.unusedSimpArgs false
set_option linter.unusedVariables false
namespace Go.Proofs.Ytcfabnkkkpcelaa
open Go.RowKit
theorem rpage_any (w0 U : World) (g : Nat) (ep k : Int) (rest : List Int) (h : Rd w0 U g (pgC (zE 0 ep) nilV nilV nilV nilV) rest) (hl : 12 ≤ rest.length) :
    Calls Try.prog 46 #[.pointer (some ⟨g, 0, none⟩), .int .i64 k] U (RP w0 U g k ep rest) := by
  by_cases h1 : k = 1
  · subst h1; exact rpage1_any w0 U g ep rest h (by omega)
  by_cases h2 : k = 2
  · subst h2; exact rpage2_any w0 U g ep rest h (by omega)
  by_cases h3 : k = 3
  · subst h3; exact rpage3_any w0 U g ep rest h (by omega)
  by_cases h4 : k = 4
  · subst h4; exact rpage4_any w0 U g ep rest h hl
  exact rpage5_any w0 U g ep k rest h h1 h2 h3 h4
/-- What Decode answers. -/
def DP (w : World) (s : Int) (b : List Int) (e : Ending) (w' : World) : Prop :=
  (∃ q v, decP s b = some q ∧ e = .returned (.tuple #[v, .int .i64 0]) ∧ PgIn w' q v ∧ Bel w w') ∨ (decP s b = none ∧ e = .returned (.tuple #[.agg zeroC.toArray, .int .i64 50]) ∧ Bel w w')
theorem results_cc {tmps : Array Value} {w : World} {gp ge : Nat} {cs : List Value} {x : Int} (h4 : tmps.getD 4 undef = .pointer (some ⟨gp, 0, none⟩)) (h5 : tmps.getD 5 undef = .pointer (some ⟨ge, 0, none⟩))
    (hP : Bx w gp 28 cs) (hE : Bx w ge 31 [.int .i64 x]) (hl : cs.length = 11) :
    (results Try.f16 tmps).run Try.prog w = .ok (.tuple #[.agg cs.toArray, .int .i64 x]) w := by
  have h1 := run_loadVar_row (P := Try.prog) w gp 28 28 cs.toArray (0, 0) _ hP Try.underlying28 rfl (by rw [List.size_toArray, hl]; kernel_rfl)
  have h2 := hE.cell 0 rfl
  have h4' : tmps[4]?.getD undef = .pointer (some ⟨gp, 0, none⟩) := by simpa using h4
  have h5' : tmps[5]?.getD undef = .pointer (some ⟨ge, 0, none⟩) := by simpa using h5
  have h3 : (loadVar 31 ⟨ge, 0, none⟩).run Try.prog w = .ok (.int .i64 x) w := by simp [go_sem, h2]
  simp [results, Try.results16, h4', h5', asAddr, h1, h3]
def dfr (ge gp : Nat) : List Deferred := [{ target := .fn (.func 42) #[.pointer (some ⟨ge, 0, none⟩), .pointer (some ⟨gp, 0, none⟩)], args := #[] }]
theorem door_pan {w W : World} {s : Int} {b : List Int} {gp ge : Nat} {tmps : Array Value} {cs : List Value} {x : Int} (h4 : tmps.getD 4 undef = .pointer (some ⟨gp, 0, none⟩)) (h5 : tmps.getD 5 undef = .pointer (some ⟨ge, 0, none⟩))
    (hP : Bx W gp 28 cs) (hE : Bx W ge 31 [.int .i64 x]) (hl : cs.length = 11) (hne : gp ≠ ge) (hb : Bel w W) (k1 : w.heap.size ≤ ge) (k2 : w.heap.size ≤ gp) (hd : decP s b = none) :
    bodyPostD Try.prog Try.f16 (DP w s b) (Exit.panic pan) { tmps := tmps, defers := dfr ge gp } W := by
  refine leaves_cons (f := 42) (args := #[.pointer (some ⟨ge, 0, none⟩), .pointer (some ⟨gp, 0, none⟩)]) (by simp) (by simp [go_sem]) ?_
  refine (catch_pan ge gp x cs W hne hE hP hl).mono ?_
  rintro e u' w' ⟨rfl, rfl, hE2, hP2, hb2⟩
  have hr := results_cc h4 h5 hP2 hE2 rfl
  have hd2 : DP w s b (.returned (.tuple #[.agg zeroC.toArray, .int .i64 50])) w' := .inr ⟨hd, rfl, hb2 w hb k1 k2⟩
  simp [Leaves, settle, hr]
  exact hd2
theorem door_ret {w W : World} {s : Int} {b : List Int} {gp ge : Nat} {tmps : Array Value} {cs : List Value} {x : Int} (h4 : tmps.getD 4 undef = .pointer (some ⟨gp, 0, none⟩)) (h5 : tmps.getD 5 undef = .pointer (some ⟨ge, 0, none⟩))
    (hP : Bx W gp 28 cs) (hE : Bx W ge 31 [.int .i64 x]) (hl : cs.length = 11) (hne : gp ≠ ge) (hb : Bel w W) (k1 : w.heap.size ≤ ge) (hd : ∃ q, decP s b = some q ∧ PgIn w q (.agg cs.toArray) ∨ decP s b = some q ∧ PgIn W q (.agg cs.toArray)) (hk : ∀ q, PgIn W q (.agg cs.toArray) → PgIn (W.setCell ⟨ge, 0, none⟩ (.int .i64 0)) q (.agg cs.toArray)) :
    bodyPostD Try.prog Try.f16 (DP w s b) Exit.ret { tmps := tmps, defers := dfr ge gp } W := by
  refine leaves_cons (f := 42) (args := #[.pointer (some ⟨ge, 0, none⟩), .pointer (some ⟨gp, 0, none⟩)]) (by simp) (by simp [go_sem]) ?_
  refine (catch_idle ge gp x W (hE.cell 0 rfl) (hE.frozen 0)).mono ?_
  rintro e u' w' ⟨rfl, rfl, rfl⟩
  have hr := results_cc h4 h5 (hP.far (j := 0) hne (.int .i64 0)) (hE.set 0 (.int .i64 0)) hl
  have hd2 : DP w s b (.returned (.tuple #[.agg cs.toArray, .int .i64 0])) (W.setCell ⟨ge, 0, none⟩ (.int .i64 0)) := by
    obtain ⟨q, h | h⟩ := hd
    · exact .inl ⟨q, _, h.1, rfl, h.2.bel (hb.set_ k1 _), hb.set_ k1 _⟩
    · exact .inl ⟨q, _, h.1, rfl, hk q h.2, hb.set_ k1 _⟩
  simp [Leaves, settle, hr]
  exact hd2
set_option maxRecDepth 10000 in
set_option maxHeartbeats 4000000 in
theorem decode_len (s : Int) (A : Option Addr) (n c : Nat) (b : List Int) (w : World) (hb : Row byteT w A n b) (hn : ¬ n = 1024) :
    Calls Try.prog 16 #[.int .i64 s, .slice A n c] w (DP w s b) := by
  have hmf : ∀ (fn : Fn) (first cap : Array Value) (w : World), (Instr.makeFunc fn first cap).run Try.prog w = .ok (.func fn first cap) w := fun _ _ _ _ => rfl
  have HD : Hid (decP s b = none) := hid_ (by rw [decP, if_neg (by rw [hb.1]; exact hn)])
  have HQ : Hid (((n : Int) == 1024) = false) := hid_ (by rw [beq_eq_false_iff_ne]; omega)
  have HS := hid_ (sizeAl w (.cells zeroC.toArray 28))
  go_enter_defers Try.func16, Try.ntmps16
  go_wp2_with (first | (go_at_call 44; rw [HQ.out]; refine (needs_no _).mono ?_; rintro e _ ⟨rfl, rfl⟩))
  have hE := Bx.new (w.alloc (.cells zeroC.toArray 28)) 31 [.int .i64 0]
  rw [HS.out] at hE
  exact door_pan (gp := w.heap.size) (ge := w.heap.size + 1) rfl rfl ((Bx.new w 28 zeroC).alloc _) hE rfl (by omega) (((Bel.refl w).alloc _).alloc _) (by omega) (Nat.le_refl _) HD.out
end Go.Proofs.Ytcfabnkkkpcelaa
