/- Decode: the walk. -/
import Derived.Test.YtcfabnkkkpcelaaPgD2
import Derived.Test.YtcfabnkkkpcelaaPg4
import Derived.Recover
import Derived.Defers
import Derived.Deep.DeepCutAuto
import Derived.Test.YtcfabnkkkpcelaaPgD3a
import Derived.Test.YtcfabnkkkpcelaaPgD3b
import Derived.Test.YtcfabnkkkpcelaaPgD3e
import Derived.Test.YtcfabnkkkpcelaaPgE5
import Derived.Test.YtcfabnkkkpcelaaPgE6
set_option linter.unusedSimpArgs false
set_option linter.unusedVariables false
namespace Go.Proofs.Ytcfabnkkkpcelaa
open Go.RowKit
theorem caught_nil (w : World) : Calls Try.prog 43 #[.nilIface] w fun e w' => e = .returned (.int .i64 0) ∧ w = w' := by
  go_enter Try.func43, Try.ntmps43
  go_wp2
  go_ret
  exact ⟨rfl, rfl⟩
theorem caught_some (w : World) : Calls Try.prog 43 #[.iface 31 (.int .i64 50)] w fun e w' => e = .returned (.int .i64 50) ∧ w = w' := by
  go_enter Try.func43, Try.ntmps43
  have hta : ∀ w : World, (Instr.typeAssert (.iface 31 (.int .i64 50)) 20 31 true).run Try.prog w = .ok (.tuple #[.int .i64 50, .bool true]) w := fun w => by
    first | rfl | kernel_rfl
  go_wp2
  go_ret
  exact ⟨rfl, rfl⟩
def zeroC : List Value := [.int .i64 0, .slice none 0 0, .slice none 0 0, .slice none 0 0, .slice none 0 0, .int .i64 0, .int .u64 0, .int .i64 0, .int .i64 0, .int .i64 0, .int .i64 0]
set_option maxRecDepth 10000 in
theorem catch_idle (ge gp : Nat) (x : Int) (w : World) (h1 : w.cell? ⟨ge, 0, none⟩ = some (.int .i64 x)) (h2 : w.frozen? ⟨ge, 0, none⟩ = false) :
    CallsD Try.prog 42 #[.pointer (some ⟨ge, 0, none⟩), .pointer (some ⟨gp, 0, none⟩)] .returning w fun e u' w' =>
      e = .returned (.tuple #[]) ∧ u' = .returning ∧ w' = w.setCell ⟨ge, 0, none⟩ (.int .i64 0) := by
  refine callsD_of_wpS Try.func42 rfl fun c₀ cs hu => ?_
  apply wpS_seq
  apply wpS_region
  simp [wpOpsS, go_sem, recoverD, hu, Try.ntmps42, Exit.thenS]
  refine (caught_nil w).mono ?_
  rintro e w1 ⟨rfl, rfl⟩
  simp [go_sem, h1, h2]
  apply wpS_seq
  apply wpS_region
  simp [wpOpsS, go_sem, h1, h2, Exit.thenS]
  refine wpS_cond (t := false) (by simp [Act.eval, Array.replicate]) ?_
  simp only [Bool.false_eq_true, if_false]
  refine wpS_of_wp (wp_skip ?_)
  cases c₀
  simp_all [bodyPostS, results, Try.results42]
set_option maxRecDepth 10000 in
theorem catch_pan (ge gp : Nat) (x : Int) (vs : List Value) (w : World) (hne : gp ≠ ge) (hE : Bx w ge 31 [.int .i64 x]) (hP : Bx w gp 28 vs) (hl : vs.length = 11) :
    CallsD Try.prog 42 #[.pointer (some ⟨ge, 0, none⟩), .pointer (some ⟨gp, 0, none⟩)] (.panicking pan) w fun e u' w' =>
      e = .returned (.tuple #[]) ∧ u' = .panicking [{ v := .iface 31 (.int .i64 50), recovered := true }] ∧ Bx w' ge 31 [.int .i64 50] ∧ Bx w' gp 28 zeroC ∧ ∀ w0, Bel w0 w → w0.heap.size ≤ ge → w0.heap.size ≤ gp → Bel w0 w' := by
  have h1 := hE.cell 0 rfl
  have h2 := hE.frozen 0
  unfold pan
  refine callsD_of_wpS Try.func42 rfl fun c₀ cs hu => ?_
  apply wpS_seq
  apply wpS_region
  simp [wpOpsS, go_sem, recoverD, hu, Try.ntmps42, Exit.thenS]
  refine (caught_some w).mono ?_
  rintro e w1 ⟨rfl, rfl⟩
  simp [go_sem, h1, h2]
  have hE2 := hE.set 0 (.int .i64 50)
  have hP2 := hP.far (j := 0) hne (.int .i64 50)
  have hb2 : ∀ w0, Bel w0 w → w0.heap.size ≤ ge → Bel w0 (w.setCell ⟨ge, 0, none⟩ (.int .i64 50)) := fun w0 h k => h.set_ k _
  clear h1 h2
  generalize w.setCell ⟨ge, 0, none⟩ (.int .i64 50) = W at hE2 hP2 hb2 ⊢
  have h3 : W.cell? ⟨ge, 0, none⟩ = some (.int .i64 50) := hE2.cell 0 rfl
  apply wpS_seq
  apply wpS_region
  simp [wpOpsS, go_sem, h3, Exit.thenS]
  refine wpS_cond (t := true) (by simp [Act.eval, Array.replicate]) ?_
  simp only [if_true]
  apply wpS_region
  match vs, hl with
  | [v0, v1, v2, v3, v4, v5, v6, v7, v8, v9, v10], _ =>
    have k0 := hP2.cell 0 rfl
    have k1 := hP2.cell 1 rfl
    have k2 := hP2.cell 2 rfl
    have k3 := hP2.cell 3 rfl
    have k4 := hP2.cell 4 rfl
    have k5 := hP2.cell 5 rfl
    have k6 := hP2.cell 6 rfl
    have k7 := hP2.cell 7 rfl
    have k8 := hP2.cell 8 rfl
    have k9 := hP2.cell 9 rfl
    have k10 := hP2.cell 10 rfl
    have f := fun j => hP2.frozen j
    simp [wpOpsS, go_sem, k0, k1, k2, k3, k4, k5, k6, k7, k8, k9, k10, f, bodyPostS, results, Try.results42]
    refine ⟨?_, ?_, fun w0 hb h1 h2 => ?_⟩
    · repeat refine Bx.far ?_ (Ne.symm hne) _
      exact hE2
    · exact ((((((((((hP2.set 0 _).set 1 _).set 2 _).set 3 _).set 4 _).set 5 _).set 6 _).set 7 _).set 8 _).set 9 _).set 10 _
    · repeat refine Bel.set_ ?_ h2 _
      exact hb2 w0 hb h1
/-! ### what is read may be told -/
theorem rdLeaf_len : ∀ (n : Nat) (ps : List PairV) (r : List Int) {qs : List PairV} {r2 : List Int}, rdLeaf n ps r = some (qs, r2) → ps.length ≤ 6 → qs.length ≤ 6
  | 0, ps, r, qs, r2, h, hl => by
    simp only [rdLeaf, Option.some.injEq, Prod.mk.injEq] at h
    rw [← h.1]; exact hl
  | n + 1, ps, r, qs, r2, h, hl => by
    rw [rdLeaf] at h
    split at h
    · rename_i h6
      split at h
      · cases h
      · split at h
        · cases h
        · exact rdLeaf_len n _ _ h (by simp; omega)
    · cases h
theorem rdT_byt {l r : List Int} {s : ByteArray} (hb : ∀ x ∈ l, 0 ≤ x ∧ x < 256) (h : rdT l = some (s, r)) : ∀ x ∈ r, 0 ≤ x ∧ x < 256 := by
  obtain ⟨x, q, rfl, _, _, rfl⟩ := rdT_some h
  exact fun y hy => hb y (List.mem_cons_of_mem _ (List.mem_of_mem_drop hy))
theorem rd2_byt {l r : List Int} {x : Int} (hb : ∀ x ∈ l, 0 ≤ x ∧ x < 256) (h : rd2 l = some (x, r)) : ∀ x ∈ r, 0 ≤ x ∧ x < 256 := by
  obtain ⟨a, b, rfl, _⟩ := rd2_some h
  exact fun y hy => hb y (List.mem_cons_of_mem _ (List.mem_cons_of_mem _ hy))
theorem rdBr_len : ∀ (n : Nat) (ks : List ByteArray) (ds r : List Int) {ks2 : List ByteArray} {ds2 r2 : List Int}, rdBr n ks ds r = some (ks2, ds2, r2) → ks.length ≤ 12 → ds.length = ks.length + 1 → (∀ x ∈ r, 0 ≤ x ∧ x < 256) → (∀ x ∈ ds, 0 ≤ x ∧ x < 65536) → ks2.length ≤ 12 ∧ ds2.length = ks2.length + 1 ∧ ∀ x ∈ ds2, 0 ≤ x ∧ x < 65536
  | 0, ks, ds, r, ks2, ds2, r2, h, hl, hd, hb, hx => by
    simp only [rdBr, Option.some.injEq, Prod.mk.injEq] at h
    obtain ⟨h1, h2, _⟩ := h
    subst h1 h2
    exact ⟨hl, hd, hx⟩
  | n + 1, ks, ds, r, ks2, ds2, r2, h, hl, hd, hb, hx => by
    rw [rdBr] at h
    split at h
    · rename_i h6
      split at h
      · cases h
      · rename_i k r3 e1
        split at h
        · cases h
        · rename_i d r4 e2
          refine rdBr_len n _ _ _ h (by simp; omega) (by simp; omega) (rd2_byt (rdT_byt hb e1) e2) (fun x hx' => ?_)
          rcases List.mem_append.1 hx' with h' | h'
          · exact hx x h'
          · simp only [List.mem_singleton] at h'
            subst h'
            exact rd2_rng (rdT_byt hb e1) e2
    · cases h
theorem rdFr_len : ∀ (n : Nat) (ps r : List Int) {qs r2 : List Int}, rdFr n ps r = some (qs, r2) → (∀ x ∈ r, 0 ≤ x ∧ x < 256) → (∀ x ∈ ps, 0 ≤ x ∧ x < 65536) → qs.length = ps.length + n ∧ (∀ x ∈ qs, 0 ≤ x ∧ x < 65536) ∧ ∀ x ∈ r2, 0 ≤ x ∧ x < 256
  | 0, ps, r, qs, r2, h, hb, hx => by
    simp only [rdFr, Option.some.injEq, Prod.mk.injEq] at h
    obtain ⟨h1, h2⟩ := h
    subst h1 h2
    exact ⟨rfl, hx, hb⟩
  | n + 1, ps, r, qs, r2, h, hb, hx => by
    rw [rdFr] at h
    split at h
    · cases h
    · rename_i d r4 e2
      have := rdFr_len n _ _ h (rd2_byt hb e2) (fun x hx' => by
        rcases List.mem_append.1 hx' with h' | h'
        · exact hx x h'
        · simp only [List.mem_singleton] at h'
          subst h'
          exact rd2_rng hb e2)
      refine ⟨?_, this.2⟩
      rw [this.1]
      simp
      omega
structure PgSm (q : Pg) : Prop where
  w : PgW q
  n : q.pairs.length ≤ 4398046511104
  m : q.keys.length ≤ 17592186044416
  k : q.kids.length ≤ 17592186044416
  l : q.pages.length ≤ 17592186044416
theorem i64_sm {x : Int} (h : 0 ≤ x ∧ x < 65536) : i64R x := ⟨by omega, by omega⟩
theorem i64_0 : i64R 0 := ⟨by omega, by omega⟩
theorem noI : ∀ x ∈ ([] : List Int), i64R x := fun x hx => by cases hx
theorem rdP_sm {k ep : Int} {r : List Int} {q : Pg} (hk : 0 ≤ k ∧ k < 256) (he : 0 ≤ ep ∧ ep < 18446744073709551616) (hb : ∀ x ∈ r, 0 ≤ x ∧ x < 256) (h : rdP k ep r = some q) : PgSm q := by
  have hki : i64R k := ⟨by omega, by omega⟩
  have i1 : i64R 1 := ⟨by omega, by omega⟩
  have i2 : i64R 2 := ⟨by omega, by omega⟩
  have i3 : i64R 3 := ⟨by omega, by omega⟩
  have i4 : i64R 4 := ⟨by omega, by omega⟩
  have z : (0 : Nat) ≤ 17592186044416 := by omega
  have zp : (0 : Nat) ≤ 4398046511104 := by omega
  unfold rdP at h
  split at h
  · unfold rd1 at h
    cases e1 : rd2 r with
    | none => simp only [e1] at h; cases h
    | some p =>
      obtain ⟨n, r1⟩ := p
      simp only [e1] at h
      cases e2 : rdLeaf n.toNat [] r1 with
      | none => simp only [e2] at h; cases h
      | some p2 =>
        obtain ⟨ps, r2⟩ := p2
        simp only [e2] at h
        injection h with h
        subst h
        have := rdLeaf_len _ _ _ e2 (by simp)
        exact { w := ⟨i1, i64_0, he, i64_0, i64_0, i64_0, i64_0, noI, noI⟩, n := by show ps.length ≤ 4398046511104; omega, m := z, k := z, l := z }
  · split at h
    · unfold rdK2 at h
      cases e1 : rd2 r with
      | none => simp only [e1] at h; cases h
      | some p =>
        obtain ⟨n, r1⟩ := p
        simp only [e1] at h
        cases e2 : rd2 r1 with
        | none => simp only [e2] at h; cases h
        | some p2 =>
          obtain ⟨d, r2⟩ := p2
          simp only [e2] at h
          cases e3 : rdBr n.toNat [] [d] r2 with
          | none => simp only [e3] at h; cases h
          | some p3 =>
            obtain ⟨ks, ds, r3⟩ := p3
            simp only [e3] at h
            injection h with h
            subst h
            have h2 := rd2_rng (rd2_byt hb e1) e2
            obtain ⟨a1, a2, a3⟩ := rdBr_len _ _ _ _ e3 (by simp) (by simp) (rd2_byt (rd2_byt hb e1) e2) (fun x hx => by simp only [List.mem_singleton] at hx; subst hx; exact h2)
            exact { w := ⟨i2, i64_0, he, i64_0, i64_0, i64_0, i64_0, fun x hx => i64_sm (a3 x hx), noI⟩, n := zp, m := by show ks.length ≤ 17592186044416; omega, k := by show ds.length ≤ 17592186044416; omega, l := z }
    · split at h
      · unfold rd3 at h
        cases e1 : rd2 r with
        | none => simp only [e1] at h; cases h
        | some p =>
          obtain ⟨n, r1⟩ := p
          simp only [e1] at h
          cases e2 : rdFr n.toNat [] r1 with
          | none => simp only [e2] at h; cases h
          | some p2 =>
            obtain ⟨ps, r2⟩ := p2
            simp only [e2] at h
            cases e3 : rd2 r2 with
            | none => simp only [e3] at h; cases h
            | some p3 =>
              obtain ⟨x, r3⟩ := p3
              simp only [e3] at h
              injection h with h
              subst h
              have h1 := rd2_rng hb e1
              obtain ⟨a1, a2, a3⟩ := rdFr_len _ _ _ e2 (rd2_byt hb e1) (fun x hx => by cases hx)
              exact { w := ⟨i3, i64_sm (rd2_rng a3 e3), he, i64_0, i64_0, i64_0, i64_0, noI, fun x hx => i64_sm (a2 x hx)⟩, n := zp, m := z, k := z, l := by show ps.length ≤ 17592186044416; simp at a1; omega }
      · split at h
        · unfold rd4 at h
          cases e1 : rd2 r with
          | none => simp only [e1] at h; cases h
          | some p =>
          obtain ⟨a, r1⟩ := p
          simp only [e1] at h
          cases e2 : rd2 r1 with
          | none => simp only [e2] at h; cases h
          | some p =>
          obtain ⟨b, r2⟩ := p
          simp only [e2] at h
          cases e3 : rd2 r2 with
          | none => simp only [e3] at h; cases h
          | some p =>
          obtain ⟨c, r3⟩ := p
          simp only [e3] at h
          cases e4 : rd2 r3 with
          | none => simp only [e4] at h; cases h
          | some p =>
          obtain ⟨d, r4⟩ := p
          simp only [e4] at h
          cases e5 : rd2 r4 with
          | none => simp only [e5] at h; cases h
          | some p =>
          obtain ⟨e, r5⟩ := p
          simp only [e5] at h
          cases e6 : rd2 r5 with
          | none => simp only [e6] at h; cases h
          | some p =>
          obtain ⟨f, r6⟩ := p
          simp only [e6] at h
          injection h with h
          subst h
          have b1 := rd2_byt hb e1
          have b2 := rd2_byt b1 e2
          have b3 := rd2_byt b2 e3
          have b4 := rd2_byt b3 e4
          have b5 := rd2_byt b4 e5
          have hc := rd2_rng b2 e3
          have hd := rd2_rng b3 e4
          have hcd : i64R (c * 65536 + d) := ⟨by omega, by omega⟩
          exact { w := ⟨i4, i64_sm (rd2_rng b5 e6), he, i64_sm (rd2_rng hb e1), i64_sm (rd2_rng b1 e2), hcd, i64_sm (rd2_rng b4 e5), noI, noI⟩, n := zp, m := z, k := z, l := z }
        · injection h with h
          subst h
          exact { w := ⟨hki, i64_0, he, i64_0, i64_0, i64_0, i64_0, noI, noI⟩, n := zp, m := z, k := z, l := z }
end Go.Proofs.Ytcfabnkkkpcelaa
set_option linter.unusedSimpArgs false
set_option linter.unusedVariables false
namespace Go.Proofs.Ytcfabnkkkpcelaa
open Go.RowKit
theorem rpage_any (w0 U : World) (g : Nat) (ep k : Int) (rest : List Int) (h : Rd w0 U g (pgC (zE 0 ep) nilV nilV nilV nilV) rest) (hl : 12 ≤ rest.length) :
    Calls Try.prog 46 #[.pointer (some ⟨g, 0, none⟩), .int .i64 k] U (RP w0 U g k ep rest) := by
  by_cases h1 : k = 1
  · subst h1; exact rpage1_any w0 U g ep rest h (by omega)
  by_cases h2 : k = 2
  · subst h2; exact rpage2_any w0 U g ep rest h (by omega)
  by_cases h3 : k = 3
  · subst h3; exact rpage3_any w0 U g ep rest h (by omega)
  by_cases h4 : k = 4
  · subst h4; exact rpage4_any w0 U g ep rest h hl
  exact rpage5_any w0 U g ep k rest h h1 h2 h3 h4
/-- What Decode answers. -/
def DP (w : World) (s : Int) (b : List Int) (e : Ending) (w' : World) : Prop :=
  (∃ q v, decP s b = some q ∧ e = .returned (.tuple #[v, .int .i64 0]) ∧ PgIn w' q v ∧ Bel w w') ∨ (decP s b = none ∧ e = .returned (.tuple #[.agg zeroC.toArray, .int .i64 50]) ∧ Bel w w')
theorem results_cc {tmps : Array Value} {w : World} {gp ge : Nat} {cs : List Value} {x : Int} (h4 : tmps.getD 4 undef = .pointer (some ⟨gp, 0, none⟩)) (h5 : tmps.getD 5 undef = .pointer (some ⟨ge, 0, none⟩))
    (hP : Bx w gp 28 cs) (hE : Bx w ge 31 [.int .i64 x]) (hl : cs.length = 11) :
    (results Try.f16 tmps).run Try.prog w = .ok (.tuple #[.agg cs.toArray, .int .i64 x]) w := by
  have h1 := run_loadVar_row (P := Try.prog) w gp 28 28 cs.toArray (0, 0) _ hP Try.underlying28 rfl (by rw [List.size_toArray, hl]; kernel_rfl)
  have h2 := hE.cell 0 rfl
  have h4' : tmps[4]?.getD undef = .pointer (some ⟨gp, 0, none⟩) := by simpa using h4
  have h5' : tmps[5]?.getD undef = .pointer (some ⟨ge, 0, none⟩) := by simpa using h5
  have h3 : (loadVar 31 ⟨ge, 0, none⟩).run Try.prog w = .ok (.int .i64 x) w := by simp [go_sem, h2]
  simp [results, Try.results16, h4', h5', asAddr, h1, h3]
def dfr (ge gp : Nat) : List Deferred := [{ target := .fn (.func 42) #[.pointer (some ⟨ge, 0, none⟩), .pointer (some ⟨gp, 0, none⟩)], args := #[] }]
theorem door_pan {w W : World} {s : Int} {b : List Int} {gp ge : Nat} {tmps : Array Value} {cs : List Value} {x : Int} (h4 : tmps.getD 4 undef = .pointer (some ⟨gp, 0, none⟩)) (h5 : tmps.getD 5 undef = .pointer (some ⟨ge, 0, none⟩))
    (hP : Bx W gp 28 cs) (hE : Bx W ge 31 [.int .i64 x]) (hl : cs.length = 11) (hne : gp ≠ ge) (hb : Bel w W) (k1 : w.heap.size ≤ ge) (k2 : w.heap.size ≤ gp) (hd : decP s b = none) :
    bodyPostD Try.prog Try.f16 (DP w s b) (Exit.panic pan) { tmps := tmps, defers := dfr ge gp } W := by
  refine leaves_cons (f := 42) (args := #[.pointer (some ⟨ge, 0, none⟩), .pointer (some ⟨gp, 0, none⟩)]) (by simp) (by simp [go_sem]) ?_
  refine (catch_pan ge gp x cs W hne hE hP hl).mono ?_
  rintro e u' w' ⟨rfl, rfl, hE2, hP2, hb2⟩
  have hr := results_cc h4 h5 hP2 hE2 rfl
  have hd2 : DP w s b (.returned (.tuple #[.agg zeroC.toArray, .int .i64 50])) w' := .inr ⟨hd, rfl, hb2 w hb k1 k2⟩
  simp [Leaves, settle, hr]
  exact hd2
theorem door_ret {w W : World} {s : Int} {b : List Int} {gp ge : Nat} {tmps : Array Value} {cs : List Value} {x : Int} (h4 : tmps.getD 4 undef = .pointer (some ⟨gp, 0, none⟩)) (h5 : tmps.getD 5 undef = .pointer (some ⟨ge, 0, none⟩))
    (hP : Bx W gp 28 cs) (hE : Bx W ge 31 [.int .i64 x]) (hl : cs.length = 11) (hne : gp ≠ ge) (hb : Bel w W) (k1 : w.heap.size ≤ ge) (hd : ∃ q, decP s b = some q ∧ PgIn w q (.agg cs.toArray) ∨ decP s b = some q ∧ PgIn W q (.agg cs.toArray)) (hk : ∀ q, PgIn W q (.agg cs.toArray) → PgIn (W.setCell ⟨ge, 0, none⟩ (.int .i64 0)) q (.agg cs.toArray)) :
    bodyPostD Try.prog Try.f16 (DP w s b) Exit.ret { tmps := tmps, defers := dfr ge gp } W := by
  refine leaves_cons (f := 42) (args := #[.pointer (some ⟨ge, 0, none⟩), .pointer (some ⟨gp, 0, none⟩)]) (by simp) (by simp [go_sem]) ?_
  refine (catch_idle ge gp x W (hE.cell 0 rfl) (hE.frozen 0)).mono ?_
  rintro e u' w' ⟨rfl, rfl, rfl⟩
  have hr := results_cc h4 h5 (hP.far (j := 0) hne (.int .i64 0)) (hE.set 0 (.int .i64 0)) hl
  have hd2 : DP w s b (.returned (.tuple #[.agg cs.toArray, .int .i64 0])) (W.setCell ⟨ge, 0, none⟩ (.int .i64 0)) := by
    obtain ⟨q, h | h⟩ := hd
    · exact .inl ⟨q, _, h.1, rfl, h.2.bel (hb.set_ k1 _), hb.set_ k1 _⟩
    · exact .inl ⟨q, _, h.1, rfl, hk q h.2, hb.set_ k1 _⟩
  simp [Leaves, settle, hr]
  exact hd2
set_option maxRecDepth 10000 in
set_option maxHeartbeats 4000000 in
theorem decode_len (s : Int) (A : Option Addr) (n c : Nat) (b : List Int) (w : World) (hb : Row byteT w A n b) (hn : ¬ n = 1024) :
    Calls Try.prog 16 #[.int .i64 s, .slice A n c] w (DP w s b) := by
  have hmf : ∀ (fn : Fn) (first cap : Array Value) (w : World), (Instr.makeFunc fn first cap).run Try.prog w = .ok (.func fn first cap) w := fun _ _ _ _ => rfl
  have HD : Hid (decP s b = none) := hid_ (by rw [decP, if_neg (by rw [hb.1]; exact hn)])
  have HQ : Hid (((n : Int) == 1024) = false) := hid_ (by rw [beq_eq_false_iff_ne]; omega)
  have HS := hid_ (sizeAl w (.cells zeroC.toArray 28))
  go_enter_defers Try.func16, Try.ntmps16
  go_wp2_with (first | (go_at_call 44; rw [HQ.out]; refine (needs_no _).mono ?_; rintro e _ ⟨rfl, rfl⟩))
  have hE := Bx.new (w.alloc (.cells zeroC.toArray 28)) 31 [.int .i64 0]
  rw [HS.out] at hE
  exact door_pan (gp := w.heap.size) (ge := w.heap.size + 1) rfl rfl ((Bx.new w 28 zeroC).alloc _) hE rfl (by omega) (((Bel.refl w).alloc _).alloc _) (by omega) (Nat.le_refl _) HD.out
end Go.Proofs.Ytcfabnkkkpcelaa
