/- Pages and bytes, opened. -/
import Derived.Test.YtcfabnkkkpcelaaWd
import Derived.ProofKit
import Derived.OpenShut
import Derived.ShutString
import Derived.Deep.Slices
import Derived.Test.YtcfabnkkkpcelaaPg4
namespace Go.Proofs.Ytcfabnkkkpcelaa
open Go.RowKit Go.ChangeShapes Go.WideShapes Go.ChangeAt Go.Deep
variable {α : Type} {T : Ty α}
/-- A string that came in: its size. -/
def StrOk (s : ByteArray) : Prop := s.size ≤ 140737488355327
theorem open_row {H : Type} {enc : TypeId × Value → H} {P : Program} {W : World} (T : Ty α) (Wf : α → Prop) {t : TypeId} {v : Value} {d : DataW H} {p : List MemPlace}
    (hel : ∀ m cs x, cs.length = T.sz → DataW.trod enc P W 0 (fun _ => true) true m T.e cs = some x → ∃ a, cs = T.enc a ∧ Wf a)
    (ht : P.underlying t = some (.slice T.e)) (hc : P.cellsOf T.e = T.sz) {r : Reach} {b0 : Nat} (hv : Value.okWide P W r b0 t v) (h : DataW.Trod enc P W 0 (fun _ => true) true t v d p) :
    ∃ A n c xs, v = .slice A n c ∧ n ≤ c ∧ Row T W A n xs ∧ ∀ x ∈ xs, Wf x := by
  obtain ⟨A, n, c, rfl⟩ := okWide_slice ht hv
  obtain ⟨fuel, hf⟩ := h
  rcases open_slice ht hf with ⟨hcs, _⟩ | ⟨a, len, cap, m, k, D, Pl, hcs, _, hl, hm, hmm, _, hx⟩
  · simp [Value.cells] at hcs
    obtain ⟨rfl, rfl, rfl⟩ := hcs
    exact ⟨_, _, _, [], rfl, by omega, Row.none_ T W _, fun x hx => by cases hx⟩
  · simp [Value.cells] at hcs
    obtain ⟨rfl, rfl, rfl⟩ := hcs
    simp only [if_true] at hmm
    subst hmm
    have key : ∀ i, i < n → ∃ a', W.cells? 0 (a.add (i * T.sz)) T.sz = some (T.enc a') ∧ Wf a' := by
      intro i hi
      obtain ⟨cs', h1, h2⟩ := hx i (by omega)
      rw [hc] at h1
      obtain ⟨_, hlen, _⟩ := World.cells?_some h1
      obtain ⟨a', rfl, hw⟩ := hel _ _ _ hlen h2
      exact ⟨a', h1, hw⟩
    have keyc : ∀ i : Fin n, ∃ a', W.cells? 0 (a.add (i.1 * T.sz)) T.sz = some (T.enc a') ∧ Wf a' := fun i => key i.1 i.2
    obtain ⟨f, hfn⟩ : ∃ f : Fin n → α, ∀ i, W.cells? 0 (a.add (i.1 * T.sz)) T.sz = some (T.enc (f i)) ∧ Wf (f i) := ⟨fun i => Classical.choose (keyc i), fun i => Classical.choose_spec (keyc i)⟩
    refine ⟨_, _, _, List.ofFn f, rfl, hl, ⟨by simp, by simp only [maxLen] at hm; omega, fun _ => ⟨a, rfl, fun j x hj i u hu => ?_⟩⟩, fun x hx => ?_⟩
    · have hjn : j < n := by have := (List.getElem?_eq_some_iff.1 hj).1; simpa using this
      have hx' : x = f ⟨j, hjn⟩ := by simp [hjn] at hj; exact hj.symm
      subst hx'
      obtain ⟨_, hlen, hall⟩ := World.cells?_some (hfn ⟨j, hjn⟩).1
      have hi := (List.getElem?_eq_some_iff.1 hu).1
      rw [T.len] at hi
      rw [← addAdd]
      exact (hall i hi).trans hu
    · obtain ⟨i, rfl⟩ := (List.mem_ofFn).1 hx
      exact (hfn i).2
end Go.Proofs.Ytcfabnkkkpcelaa
set_option linter.unusedSimpArgs false
set_option linter.unusedVariables false
namespace Go.Proofs.Ytcfabnkkkpcelaa
open Go.RowKit Go.ChangeShapes Go.WideShapes Go.ChangeAt Go.Deep
def intWf (a : Int) : Prop := (Lit.int .i64 a).wf = true
theorem intOpen {H : Type} {enc : TypeId × Value → H} {W : World} (m : Nat) (cs : List Value) (x : DataW H × List MemPlace) (hl : cs.length = intT.sz) (h : DataW.trod enc Try.prog W 0 (fun _ => true) true m intT.e cs = some x) : ∃ a : Int, cs = intT.enc a ∧ intWf a := by
  match cs, hl with
  | [c0], _ =>
    obtain ⟨a, e, _, w⟩ := DataW.trod_int Try.underlying3 h
    injection e with e _
    subst e
    exact ⟨a, rfl, w⟩
def byteWf (a : Int) : Prop := (Lit.int .u8 a).wf = true
theorem byteOpen {H : Type} {enc : TypeId × Value → H} {W : World} (m : Nat) (cs : List Value) (x : DataW H × List MemPlace) (hl : cs.length = byteT.sz) (h : DataW.trod enc Try.prog W 0 (fun _ => true) true m byteT.e cs = some x) : ∃ a : Int, cs = byteT.enc a ∧ byteWf a := by
  match cs, hl with
  | [c0], _ =>
    obtain ⟨a, e, _, w⟩ := DataW.trod_int Try.underlying5 h
    injection e with e _
    subst e
    exact ⟨a, rfl, w⟩
theorem strOpen {H : Type} {enc : TypeId × Value → H} {W : World} (m : Nat) (cs : List Value) (x : DataW H × List MemPlace) (hl : cs.length = strT.sz) (h : DataW.trod enc Try.prog W 0 (fun _ => true) true m strT.e cs = some x) : ∃ a : ByteArray, cs = strT.enc a ∧ a.size ≤ maxLen := by
  match cs, hl with
  | [c0], _ =>
    obtain ⟨a, e, _, w⟩ := DataW.trod_string Try.underlying9 h
    injection e with e _
    subst e
    exact ⟨a, rfl, w⟩
theorem cellsInt : Try.prog.cellsOf 3 = 1 := by kernel_rfl
theorem cellsU64 : Try.prog.cellsOf 26 = 1 := by kernel_rfl
theorem cellsByte : Try.prog.cellsOf 5 = 1 := by kernel_rfl
theorem cellsStr : Try.prog.cellsOf 9 = 1 := by kernel_rfl
theorem cellsInts : Try.prog.cellsOf 25 = 1 := by kernel_rfl
theorem cellsStrs : Try.prog.cellsOf 24 = 1 := by kernel_rfl
theorem cellsPairs : Try.prog.cellsOf 23 = 1 := by kernel_rfl
theorem cellsPair : Try.prog.cellsOf 44 = 2 := by kernel_rfl
theorem cellsPage : Try.prog.cellsOf 28 = 11 := by kernel_rfl
def pairWf (x : PairV) : Prop := x.key.size ≤ maxLen ∧ x.val.size ≤ maxLen
set_option maxRecDepth 100000 in
theorem pairOpen {H : Type} {enc : TypeId × Value → H} {W : World} (m : Nat) (cs : List Value) (x : DataW H × List MemPlace) (hl : cs.length = pairT.sz) (h : DataW.trod enc Try.prog W 0 (fun _ => true) true m pairT.e cs = some x) : ∃ a : PairV, cs = pairT.enc a ∧ pairWf a := by
  obtain ⟨xs, k, _, _, _, hlen, hf⟩ := DataW.trod_struct Try.underlying44 h
  match cs, hl with
  | [c0, c1], _ =>
    have g0 : DataW.trod enc Try.prog W 0 (fun _ => true) true k 9 [c0] = xs[0]? := by
      have g := hf 0 _ rfl
      simpa [cellsStr] using g
    have g1 : DataW.trod enc Try.prog W 0 (fun _ => true) true k 9 [c1] = xs[1]? := by
      have g := hf 1 _ rfl
      simpa [cellsStr] using g
    match xs, hlen with
    | [y0, y1], _ =>
      have g0 : _ = some y0 := g0
      obtain ⟨a0, e0, _, w0⟩ := DataW.trod_string Try.underlying9 g0
      injection e0 with e0 _
      subst e0
      have g1 : _ = some y1 := g1
      obtain ⟨a1, e1, _, w1⟩ := DataW.trod_string Try.underlying9 g1
      injection e1 with e1 _
      subst e1
      exact ⟨⟨a0, a1⟩, rfl, w0, w1⟩
/-- A slice of flat elements in one cell. -/
theorem open_cellT {α H : Type} {enc : TypeId × Value → H} (T : Ty α) (Wf : α → Prop) {t : TypeId} {W : World} {fuel : Nat} {c : Value} {x : DataW H × List MemPlace}
    (hel : ∀ m cs x, cs.length = T.sz → DataW.trod enc Try.prog W 0 (fun _ => true) true m T.e cs = some x → ∃ a, cs = T.enc a ∧ Wf a)
    (ht : Try.prog.underlying t = some (.slice T.e)) (hc : Try.prog.cellsOf T.e = T.sz)
    (h : DataW.trod enc Try.prog W 0 (fun _ => true) true fuel t [c] = some x) :
    ∃ A n k xs, c = .slice A n k ∧ n ≤ k ∧ Row T W A n xs ∧ ∀ y ∈ xs, Wf y := by
  rcases open_slice ht h with ⟨hcs, _⟩ | ⟨a, len, cap, m, k, D, Pl, hcs, _, hl, hm, hmm, _, hx⟩
  · injection hcs with hcs _
    subst hcs
    exact ⟨_, _, _, [], rfl, by omega, Row.none_ T W _, fun x hx => by cases hx⟩
  · injection hcs with hcs _
    subst hcs
    simp only [if_true] at hmm
    subst hmm
    have key : ∀ i, i < len → ∃ a', W.cells? 0 (a.add (i * T.sz)) T.sz = some (T.enc a') ∧ Wf a' := by
      intro i hi
      obtain ⟨cs', h1, h2⟩ := hx i (by omega)
      rw [hc] at h1
      obtain ⟨_, hlen, _⟩ := World.cells?_some h1
      obtain ⟨a', rfl, hw⟩ := hel _ _ _ hlen h2
      exact ⟨a', h1, hw⟩
    have keyc : ∀ i : Fin len, ∃ a', W.cells? 0 (a.add (i.1 * T.sz)) T.sz = some (T.enc a') ∧ Wf a' := fun i => key i.1 i.2
    obtain ⟨f, hfn⟩ : ∃ f : Fin len → α, ∀ i, W.cells? 0 (a.add (i.1 * T.sz)) T.sz = some (T.enc (f i)) ∧ Wf (f i) := ⟨fun i => Classical.choose (keyc i), fun i => Classical.choose_spec (keyc i)⟩
    refine ⟨_, _, _, List.ofFn f, rfl, hl, ⟨by simp, by simp only [maxLen] at hm; omega, fun _ => ⟨a, rfl, fun j x hj i u hu => ?_⟩⟩, fun x hx => ?_⟩
    · have hjn : j < len := by have := (List.getElem?_eq_some_iff.1 hj).1; simpa using this
      have hx' : x = f ⟨j, hjn⟩ := by simp [hjn] at hj; exact hj.symm
      subst hx'
      obtain ⟨_, hlen, hall⟩ := World.cells?_some (hfn ⟨j, hjn⟩).1
      have hi := (List.getElem?_eq_some_iff.1 hu).1
      rw [T.len] at hi
      rw [← addAdd]
      exact (hall i hi).trans hu
    · obtain ⟨i, rfl⟩ := (List.mem_ofFn).1 hx
      exact (hfn i).2
/-- What came, of a page. -/
def pageWf (W : World) (q : Pg) (A : Option Addr) (n c : Nat) (B : Option Addr) (m d : Nat) (C : Option Addr) (k e : Nat) (D : Option Addr) (l f : Nat) : Prop :=
  n ≤ c ∧ m ≤ d ∧ k ≤ e ∧ l ≤ f ∧ PgAt W q A n B m C k D l ∧ PgW q
theorem wf_i64 {a : Int} (h : intWf a) : i64R a := by
  have := h
  simp [intWf, Lit.wf] at this
  have h1 : IntKind.i64.min = -9223372036854775808 := by decide
  have h2 : IntKind.i64.max = 9223372036854775807 := by decide
  unfold i64R
  omega
theorem bytesRange {l : List Int} (h : ∀ x ∈ l, byteWf x) : ∀ x ∈ l, 0 ≤ x ∧ x < 256 := fun x hx => by
  have := h x hx
  simp [byteWf, Lit.wf] at this
  have h1 : IntKind.u8.min = 0 := by decide
  have h2 : IntKind.u8.max = 255 := by decide
  omega
set_option maxRecDepth 100000 in
theorem openPage {H : Type} {enc : TypeId × Value → H} {W : World} {v : Value} {d : DataW H} {p : List MemPlace} {r : Reach} {b0 : Nat} (hv : Value.okWide Try.prog W r b0 28 v) (h : DataW.Trod enc Try.prog W 0 (fun _ => true) true 28 v d p) :
    ∃ q A n c B m d C k e D l f, v = pgV q (.slice A n c) (.slice B m d) (.slice C k e) (.slice D l f) ∧ pageWf W q A n c B m d C k e D l f := by
  obtain ⟨cs, rfl, hsz⟩ := okWide_struct Try.underlying28 hv
  obtain ⟨fuel, hf⟩ := h
  rw [cellsPage] at hsz
  have hc : (Value.agg cs).cells = cs := rfl
  rw [hc] at hf
  obtain ⟨xs, k, _, _, _, hlen, hf⟩ := DataW.trod_struct Try.underlying28 hf
  obtain ⟨l, rfl⟩ : ∃ l, cs = List.toArray l := ⟨cs.toList, by simp⟩
  simp only [List.size_toArray] at hsz
  match l, hsz with
  | [c0, c1, c2, c3, c4, c5, c6, c7, c8, c9, c10], _ =>
    have g0 : DataW.trod enc Try.prog W 0 (fun _ => true) true k 3 [c0] = xs[0]? := by
      have g := hf 0 _ rfl
      simpa [cellsInt, cellsU64, cellsInts, cellsStrs, cellsPairs] using g
    have g1 : DataW.trod enc Try.prog W 0 (fun _ => true) true k 23 [c1] = xs[1]? := by
      have g := hf 1 _ rfl
      simpa [cellsInt, cellsU64, cellsInts, cellsStrs, cellsPairs] using g
    have g2 : DataW.trod enc Try.prog W 0 (fun _ => true) true k 24 [c2] = xs[2]? := by
      have g := hf 2 _ rfl
      simpa [cellsInt, cellsU64, cellsInts, cellsStrs, cellsPairs] using g
    have g3 : DataW.trod enc Try.prog W 0 (fun _ => true) true k 25 [c3] = xs[3]? := by
      have g := hf 3 _ rfl
      simpa [cellsInt, cellsU64, cellsInts, cellsStrs, cellsPairs] using g
    have g4 : DataW.trod enc Try.prog W 0 (fun _ => true) true k 25 [c4] = xs[4]? := by
      have g := hf 4 _ rfl
      simpa [cellsInt, cellsU64, cellsInts, cellsStrs, cellsPairs] using g
    have g5 : DataW.trod enc Try.prog W 0 (fun _ => true) true k 3 [c5] = xs[5]? := by
      have g := hf 5 _ rfl
      simpa [cellsInt, cellsU64, cellsInts, cellsStrs, cellsPairs] using g
    have g6 : DataW.trod enc Try.prog W 0 (fun _ => true) true k 26 [c6] = xs[6]? := by
      have g := hf 6 _ rfl
      simpa [cellsInt, cellsU64, cellsInts, cellsStrs, cellsPairs] using g
    have g7 : DataW.trod enc Try.prog W 0 (fun _ => true) true k 3 [c7] = xs[7]? := by
      have g := hf 7 _ rfl
      simpa [cellsInt, cellsU64, cellsInts, cellsStrs, cellsPairs] using g
    have g8 : DataW.trod enc Try.prog W 0 (fun _ => true) true k 3 [c8] = xs[8]? := by
      have g := hf 8 _ rfl
      simpa [cellsInt, cellsU64, cellsInts, cellsStrs, cellsPairs] using g
    have g9 : DataW.trod enc Try.prog W 0 (fun _ => true) true k 3 [c9] = xs[9]? := by
      have g := hf 9 _ rfl
      simpa [cellsInt, cellsU64, cellsInts, cellsStrs, cellsPairs] using g
    have g10 : DataW.trod enc Try.prog W 0 (fun _ => true) true k 3 [c10] = xs[10]? := by
      have g := hf 10 _ rfl
      simpa [cellsInt, cellsU64, cellsInts, cellsStrs, cellsPairs] using g
    match xs, hlen with
    | [y0, y1, y2, y3, y4, y5, y6, y7, y8, y9, y10], _ =>
      have g0 : _ = some y0 := g0
      obtain ⟨a0, e0, _, w0⟩ := DataW.trod_int Try.underlying3 g0
      injection e0 with e0 _
      subst e0
      have g1 : _ = some y1 := g1
      obtain ⟨A, n, c, F1, rfl, h1, r1, f1⟩ := open_cellT pairT pairWf pairOpen Try.underlying23 cellsPair g1
      have g2 : _ = some y2 := g2
      obtain ⟨B, m, d, F2, rfl, h2, r2, f2⟩ := open_cellT strT (fun s => s.size ≤ maxLen) strOpen Try.underlying24 cellsStr g2
      have g3 : _ = some y3 := g3
      obtain ⟨C, k3, e3, F3, rfl, h3, r3, f3⟩ := open_cellT intT intWf intOpen Try.underlying25 cellsInt g3
      have g4 : _ = some y4 := g4
      obtain ⟨D, k4, e4, F4, rfl, h4, r4, f4⟩ := open_cellT intT intWf intOpen Try.underlying25 cellsInt g4
      have g5 : _ = some y5 := g5
      obtain ⟨a5, e5, _, w5⟩ := DataW.trod_int Try.underlying3 g5
      injection e5 with e5 _
      subst e5
      have g6 : _ = some y6 := g6
      obtain ⟨a6, e6, _, w6⟩ := DataW.trod_int Try.underlying26 g6
      injection e6 with e6 _
      subst e6
      have g7 : _ = some y7 := g7
      obtain ⟨a7, e7, _, w7⟩ := DataW.trod_int Try.underlying3 g7
      injection e7 with e7 _
      subst e7
      have g8 : _ = some y8 := g8
      obtain ⟨a8, e8, _, w8⟩ := DataW.trod_int Try.underlying3 g8
      injection e8 with e8 _
      subst e8
      have g9 : _ = some y9 := g9
      obtain ⟨a9, e9, _, w9⟩ := DataW.trod_int Try.underlying3 g9
      injection e9 with e9 _
      subst e9
      have g10 : _ = some y10 := g10
      obtain ⟨a10, e10, _, w10⟩ := DataW.trod_int Try.underlying3 g10
      injection e10 with e10 _
      subst e10
      have we : epW ⟨a0, F1, F2, F3, F4, a5, a6, a7, a8, a9, a10⟩ := by
        have := w6
        simp [Lit.wf] at this
        have h1 : IntKind.u64.min = 0 := by decide
        have h2 : IntKind.u64.max = 18446744073709551615 := by decide
        unfold epW
        show 0 ≤ a6 ∧ a6 < 18446744073709551616
        clear w0 w5 w6 w7 w8 w9 w10
        omega
      exact ⟨⟨a0, F1, F2, F3, F4, a5, a6, a7, a8, a9, a10⟩, A, n, c, B, m, d, C, k3, e3, D, k4, e4, rfl, h1, h2, h3, h4, ⟨r1, r2, r3, r4⟩, wf_i64 w0, wf_i64 w5, we, wf_i64 w7, wf_i64 w8, wf_i64 w9, wf_i64 w10, fun x hx => wf_i64 (f3 x hx), fun x hx => wf_i64 (f4 x hx)⟩
theorem openBytes {H : Type} {enc : TypeId × Value → H} {W : World} {v : Value} {d : DataW H} {p : List MemPlace} {r : Reach} {b0 : Nat} (hv : Value.okWide Try.prog W r b0 30 v) (h : DataW.Trod enc Try.prog W 0 (fun _ => true) true 30 v d p) :
    ∃ A n c xs, v = .slice A n c ∧ n ≤ c ∧ Row byteT W A n xs ∧ ∀ x ∈ xs, 0 ≤ x ∧ x < 256 := by
  obtain ⟨A, n, c, xs, rfl, hc, hr, hw⟩ := open_row byteT byteWf byteOpen Try.underlying30 cellsByte hv h
  exact ⟨A, n, c, xs, rfl, hc, hr, bytesRange hw⟩
end Go.Proofs.Ytcfabnkkkpcelaa
