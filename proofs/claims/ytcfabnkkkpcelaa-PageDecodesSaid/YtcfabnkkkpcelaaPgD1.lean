/- needs, take, two, text, bytes.Equal: the walks. -/
import Derived.Test.YtcfabnkkkpcelaaPgB
import Derived.Test.YtcfabnkkkpcelaaBox
import Derived.Test.YtcfabnkkkpcelaaPgM
import Derived.Test.YtcfabnkkkpcelaaPgE2b
import Derived.Laws.BytesArg
import Derived.RegionDies
import Derived.Deep.DeepCutAuto
set_option linter.unusedSimpArgs false
set_option linter.unusedVariables false
namespace Go.Proofs.Ytcfabnkkkpcelaa
open Go.RowKit
def pan : List PanicEntry := [{ v := .iface 31 (.int .i64 50), recovered := false }]
theorem needs_ok (w : World) : Calls Try.prog 44 #[.bool true] w fun e w' => e = .returned (.tuple #[]) ∧ w = w' := by
  go_enter Try.func44, Try.ntmps44
  go_wp2
  first | go_end0 | (refine bodyPost_ret (results_none rfl _ _ _) rfl ?_)
  exact ⟨rfl, rfl⟩
theorem needs_no (w : World) : Calls Try.prog 44 #[.bool false] w fun e w' => e = .panicked pan ∧ w = w' := by
  go_enter Try.func44, Try.ntmps44
  go_wp2
  exact ⟨rfl, rfl, rfl⟩
/-- The reader's box, and what is left to read. -/
structure Rd (w0 w : World) (g : Nat) (vs : List Value) (rest : List Int) : Prop where
  box : ∃ A n c, Bx w g 66 (.slice A n c :: vs) ∧ n ≤ c ∧ Row byteT w0 A n rest
  bel : Bel w0 w
  le : w0.heap.size ≤ g
  byt : ∀ x ∈ rest, 0 ≤ x ∧ x < 256
theorem cutMM (A : Option Addr) (n c m : Nat) (hm : m ≤ n) (hc : n ≤ c) (W : World) : (Instr.slice 30 (.slice A n c) none (some (.int .i64 (m : Int))) (some (.int .i64 (m : Int)))).run Try.prog W = .ok (.slice A m m) W := by
  have hel : Try.prog.elem 30 = byteT.e := by simp [Program.elem, byteS.ut]
  have hu : Try.prog.underlying 30 = some (.slice (Try.prog.elem 30)) := by rw [hel]; exact byteS.ut
  obtain ⟨i, hi, hsz⟩ := byteS.size
  rw [run_slice_hm W 30 A n c hu .i64 .i64 (m : Int) (m : Int) (Int.natCast_nonneg _) (by omega) (by omega), hel]
  have h0 : A.map (·.add 0) = A := by cases A <;> rfl
  simp [sizeOf, typeInfo, hi, hsz, sliced, Result.andThen, h0]
theorem Rd.step {w0 w : World} {g n c : Nat} {vs : List Value} {rest : List Int} {A A' : Option Addr} {m : Nat} (h : Rd w0 w g vs rest) (hx : Bx w g 66 (.slice A n c :: vs)) (hm : m ≤ n) (hc : n ≤ c) (hl : rest.length = n) (hR : Row byteT w0 A' (n - m) (rest.drop m)) :
    Rd w0 (w.setCell ⟨g, 0, none⟩ (.slice A' (n - m) (c - m))) g vs (rest.drop m) ∧ w.grownBy (w.setCell ⟨g, 0, none⟩ (.slice A' (n - m) (c - m))) (some g) :=
  ⟨⟨⟨A', n - m, c - m, hx.set 0 _, by omega, hR⟩, h.bel.set_ h.le _, h.le, fun x hx => h.byt x (List.mem_of_mem_drop hx)⟩, grownSet w g 0 _⟩
set_option maxRecDepth 10000 in
set_option maxHeartbeats 1000000 in
theorem take_no (w0 w : World) (g : Nat) (vs : List Value) (rest : List Int) (m : Int) (h : Rd w0 w g vs rest) (hm : (rest.length : Int) < m) :
    Calls Try.prog 45 #[.pointer (some ⟨g, 0, none⟩), .int .i64 m] w fun e w' => e = .panicked pan ∧ w = w' := by
  obtain ⟨A, n, c, hx, hc, hR⟩ := h.box
  have hl : rest.length = n := hR.1
  rw [hl] at hm
  have c0 := hx.cell 0 rfl
  have HQ := hid_ (decide_eq_false (show ¬ m ≤ (n : Int) by omega))
  clear h hx hR hl hm
  go_enter Try.func45, Try.ntmps45
  go_wp2_with (go_at_call 44; rw [HQ.out]; refine (needs_no _).mono ?_; rintro e w1 ⟨rfl, rfl⟩)
  exact ⟨rfl, rfl, rfl⟩
set_option maxRecDepth 10000 in
set_option maxHeartbeats 1000000 in
theorem take_ok (w0 w : World) (g m : Nat) (vs : List Value) (rest : List Int) (h : Rd w0 w g vs rest) (hm : m ≤ rest.length) :
    Calls Try.prog 45 #[.pointer (some ⟨g, 0, none⟩), .int .i64 (m : Int)] w fun e w' => ∃ A, e = .returned (.slice A m m) ∧ Row byteT w0 A m (rest.take m) ∧ Rd w0 w' g vs (rest.drop m) ∧ w.grownBy w' (some g) := by
  obtain ⟨A, n, c, hx, hc, hR⟩ := h.box
  have hl : rest.length = n := hR.1
  rw [hl] at hm
  have c0 := hx.cell 0 rfl
  have f0 := hx.frozen 0
  have HQ := hid_ (decide_eq_true (show (m : Int) ≤ (n : Int) by omega))
  obtain ⟨A', hcut, hrow⟩ := byteS.cutFrom .i64 A n c m hm hc
  have hmm := cutMM A n c m hm hc
  have HST := hid_ (h.step hx hm hc hl (hrow w0 rest hR))
  have HTK := hid_ (hR.take_ hm)
  clear h hx hR hl hrow
  go_enter Try.func45, Try.ntmps45
  go_wp2_with (go_at_call 44; refine (needs_ok _).mono ?_; rintro e w1 ⟨rfl, rfl⟩)
  go_ret
  exact ⟨A, rfl, HTK.out, HST.out.1, HST.out.2⟩
theorem rd2_none {l : List Int} (h : rd2 l = none) : l.length < 2 := by
  match l, h with
  | [], _ => simp
  | [_], _ => simp
  | _ :: _ :: _, h => simp [rd2] at h
theorem rd2_some {l r : List Int} {x : Int} (h : rd2 l = some (x, r)) : ∃ a b, l = a :: b :: r ∧ x = a * 256 + b := by
  match l, h with
  | [], h => simp [rd2] at h
  | [_], h => simp [rd2] at h
  | a :: b :: r', h =>
    simp only [rd2, Option.some.injEq, Prod.mk.injEq] at h
    exact ⟨a, b, by rw [h.2], h.1.symm⟩
set_option maxRecDepth 10000 in
set_option maxHeartbeats 1000000 in
theorem two_no (w0 w : World) (g : Nat) (vs : List Value) (rest : List Int) (h : Rd w0 w g vs rest) (hr : rd2 rest = none) :
    Calls Try.prog 59 #[.pointer (some ⟨g, 0, none⟩)] w fun e w' => e = .panicked pan ∧ w = w' := by
  have HT := hid_ (take_no w0 w g vs rest 2 h (by have := rd2_none hr; omega))
  clear h hr
  go_enter Try.func59, Try.ntmps59
  go_wp2_with (go_at_call 45; refine HT.out.mono ?_; rintro e w1 ⟨rfl, rfl⟩)
  exact ⟨rfl, rfl, rfl⟩
set_option maxRecDepth 10000 in
set_option maxHeartbeats 1000000 in
theorem two_ok (w0 w : World) (g : Nat) (vs : List Value) (rest r : List Int) (x : Int) (h : Rd w0 w g vs rest) (hr : rd2 rest = some (x, r)) :
    Calls Try.prog 59 #[.pointer (some ⟨g, 0, none⟩)] w fun e w' => e = .returned (.int .i64 x) ∧ Rd w0 w' g vs r ∧ w.grownBy w' (some g) := by
  obtain ⟨a, b, rfl, rfl⟩ := rd2_some hr
  have hA := h.byt a (List.mem_cons_self ..)
  have hB := h.byt b (List.mem_cons_of_mem _ (List.mem_cons_self ..))
  have HT := hid_ (take_ok w0 w g 2 vs (a :: b :: r) h (by simp))
  have HX : Hid (∀ W, Bel w0 W → Bel w0 W) := hid_ (fun W hW => hW)
  have e1 : IntKind.i64.wrap (a * 256) = a * 256 := by rw [IntWalk.i64_left]; unfold wrap64; omega
  have e2 : bits .or .i64 (a * 256) b = a * 256 + b := or8 a b (by omega) (by omega) (by omega) (by omega)
  clear h hr
  go_enter Try.func59, Try.ntmps59
  go_wp2_with (go_at_call 45; refine HT.out.mono ?_; rintro e w1 ⟨A, rfl, hR, hRd, hg⟩)
  obtain ⟨ad, a', rfl, ha, d0⟩ := (hR.bel hRd.bel).byte (show 0 < 2 by omega)
  obtain ⟨ad', b', e', hb', d1⟩ := (hR.bel hRd.bel).byte (show 1 < 2 by omega)
  injection e' with e'
  subst e'
  have ha' : a = a' := by simpa using ha
  have hb'' : b = b' := by simpa using hb'
  subst ha' hb''
  have d0 : w1.cell? ad = some (.int .u8 a) := d0
  have d1 : w1.cell? ⟨ad.block, ad.off + 1, none⟩ = some (.int .u8 b) := by rw [← addS ad 0]; exact d1
  have HR1 := hid_ hRd
  have HG1 := hid_ hg
  clear hR ha hb' hRd hg HT HX
  go_upto_region 2 with (fail)
  go_quiet (fail)
  go_wp2
  go_ret
  exact ⟨rfl, ⟨by obtain ⟨A, n, c, hx, hc, hr⟩ := HR1.out.box; exact ⟨A, n, c, hx.bel ((Bel.refl _).drewN _), hc, hr⟩, HR1.out.bel.drewN _, HR1.out.le, HR1.out.byt⟩, grownTrans HG1.out (grown_of_bel ((Bel.refl _).drewN _) (some g)) (.inl rfl)⟩
theorem run_str {w : World} {A : Option Addr} {n c : Nat} {xs : List Int} (h : Row byteT w A n xs) : (convert 30 9 (.slice A n c)).run Try.prog w = .ok (.string (strOfNums xs)) w := by
  have hl : xs.length = n := h.1
  rcases A with _ | ad
  · have : n = 0 := (h.nonil rfl).1
    have h2 : xs = [] := (h.nonil rfl).2
    subst this h2
    exact run_convert_bytes_nil w 30 5 byteS.ut Try.underlying5 0 c 9 Try.underlying9
  · have hc : (loadCells ad n).run Try.prog w = .ok (xs.map (Value.int .u8)).toArray w := by
      have := run_loadCells_list (P := Try.prog) w ad (xs.map (Value.int .u8)) (fun j v hj => by
        rw [List.getElem?_map] at hj
        obtain ⟨x, hx, rfl⟩ := Option.map_eq_some_iff.1 hj
        have hjn : j < n := by rw [← hl]; exact (List.getElem?_eq_some_iff.1 hx).1
        obtain ⟨ad', e, hcc⟩ := h.2.2 (by omega)
        injection e with e
        subst e
        have := hcc j x hx 0 _ rfl
        simpa [byteT] using this)
      simpa [hl] using this
    rw [run_convert_bytes_string w 30 9 5 _ n c byteS.ut Try.underlying5 Try.underlying9, run_bytesToString w _ n c xs hc, foldl_push_bytes]
    simp [strOfNums, ByteArray.empty, ByteArray.emptyWithCapacity]
    rfl
theorem rdT_none {l : List Int} (h : rdT l = none) : l = [] ∨ ∃ x r, l = x :: r ∧ r.length < x.toNat := by
  match l, h with
  | [], _ => exact .inl rfl
  | x :: r, h =>
    right
    refine ⟨x, r, rfl, ?_⟩
    simp only [rdT] at h
    split at h
    · cases h
    · omega
theorem rdT_some {l r : List Int} {s : ByteArray} (h : rdT l = some (s, r)) : ∃ x q, l = x :: q ∧ x.toNat ≤ q.length ∧ s = strOfNums (q.take x.toNat) ∧ r = q.drop x.toNat := by
  match l, h with
  | [], h => simp [rdT] at h
  | x :: q, h =>
    simp only [rdT] at h
    split at h
    · rename_i hx
      simp only [Option.some.injEq, Prod.mk.injEq] at h
      exact ⟨x, q, rfl, hx, h.1.symm, h.2.symm⟩
    · cases h
theorem grown2 {w w1 w2 : World} {g : Nat} (h : w.grownBy w1 (some g)) (h1 : w1.grownBy w2 (some g)) : w.grownBy w2 (some g) := grownTrans h h1 (.inl rfl)
set_option maxRecDepth 10000 in
set_option maxHeartbeats 1000000 in
theorem stext_no (w0 w : World) (g : Nat) (vs : List Value) (rest : List Int) (h : Rd w0 w g vs rest) (hr : rdT rest = none) :
    Calls Try.prog 60 #[.pointer (some ⟨g, 0, none⟩)] w fun e w' => e = .panicked pan ∧ Bel w0 w' ∧ w.grownBy w' (some g) := by
  have HB := hid_ h.bel
  rcases rdT_none hr with rfl | ⟨x, r, rfl, hx⟩
  · have HT := hid_ (take_no w0 w g vs [] 1 h (by simp))
    clear h hr
    go_enter Try.func60, Try.ntmps60
    go_wp2_with (go_at_call 45; refine HT.out.mono ?_; rintro e w1 ⟨rfl, rfl⟩)
    exact ⟨rfl, rfl, HB.out, World.grownBy.refl _ _⟩
  · have hbx := h.byt x (List.mem_cons_self ..)
    have HT := hid_ (take_ok w0 w g 1 vs (x :: r) h (by simp))
    have HX : Hid ((r.length : Int) < x) := hid_ (by omega)
    have e1 : IntKind.i64.wrap x = x := by rw [IntWalk.i64_left]; unfold wrap64; omega
    clear h hr hx
    go_enter Try.func60, Try.ntmps60
    go_upto_region 1 with (fail)
    go_wp2_with fail
    refine HT.out.mono ?_
    rintro e w1 ⟨A, rfl, hR, hRd, hg⟩
    obtain ⟨ad, a', rfl, ha, d0⟩ := (hR.bel hRd.bel).byte (show 0 < 1 by omega)
    have ha' : x = a' := by simpa using ha
    subst ha'
    have d0 : w1.cell? ad = some (.int .u8 x) := d0
    have HT2 := hid_ (take_no w0 w1 g vs r x hRd HX.out)
    have HB1 := hid_ hRd.bel
    have HG1 := hid_ hg
    clear hR ha hRd hg
    go_wp2_with (go_at_call 45; refine HT2.out.mono ?_; rintro e w2 ⟨rfl, rfl⟩)
    exact ⟨rfl, rfl, HB1.out, HG1.out⟩
set_option maxRecDepth 10000 in
set_option maxHeartbeats 1000000 in
theorem stext_ok (w0 w : World) (g : Nat) (vs : List Value) (rest r : List Int) (s : ByteArray) (h : Rd w0 w g vs rest) (hr : rdT rest = some (s, r)) :
    Calls Try.prog 60 #[.pointer (some ⟨g, 0, none⟩)] w fun e w' => e = .returned (.string s) ∧ Rd w0 w' g vs r ∧ w.grownBy w' (some g) := by
  obtain ⟨x, q, rfl, hx, rfl, rfl⟩ := rdT_some hr
  have hbx := h.byt x (List.mem_cons_self ..)
  have HT := hid_ (take_ok w0 w g 1 vs (x :: q) h (by simp))
  have e1 : IntKind.i64.wrap x = x := by rw [IntWalk.i64_left]; unfold wrap64; omega
  obtain ⟨m, rfl⟩ : ∃ m : Nat, x = (m : Int) := ⟨x.toNat, by omega⟩
  rw [Int.toNat_natCast] at hx ⊢
  have HX := hid_ hx
  clear h hr hx
  go_enter Try.func60, Try.ntmps60
  go_wp2_with fail
  refine HT.out.mono ?_
  rintro e w1 ⟨A, rfl, hR, hRd, hg⟩
  obtain ⟨ad, a', rfl, ha, d0⟩ := (hR.bel hRd.bel).byte (show 0 < 1 by omega)
  have ha' : (m : Int) = a' := by simpa using ha
  subst ha'
  have d0 : w1.cell? ad = some (.int .u8 (m : Int)) := d0
  have HT2 := hid_ (take_ok w0 w1 g m vs q hRd HX.out)
  have HG1 := hid_ hg
  clear hR ha hRd hg HT
  go_wp2_with fail
  refine HT2.out.mono ?_
  rintro e w2 ⟨A2, rfl, hR2, hRd2, hg2⟩
  have hs := run_str (c := m) (hR2.bel hRd2.bel)
  have HR2 := hid_ hRd2
  have HG2 := hid_ hg2
  clear hR2 hRd2 hg2 HT2
  go_wp2
  go_ret
  exact ⟨rfl, HR2.out, grown2 HG1.out HG2.out⟩
theorem str_inj {xs ys : List Int} (hx : ∀ x ∈ xs, 0 ≤ x ∧ x < 256) (hy : ∀ x ∈ ys, 0 ≤ x ∧ x < 256) (h : strOfNums xs = strOfNums ys) : xs = ys := by
  have h1 := congrArg (fun s => s.data.toList) h
  simp only [strOfNums_data] at h1
  have key : ∀ (xs : List Int), (∀ x ∈ xs, 0 ≤ x ∧ x < 256) → (xs.map fun n => UInt8.ofNat n.toNat).map (fun b => (b.toNat : Int)) = xs := by
    intro xs h
    rw [List.map_map]
    conv => rhs; rw [← List.map_id xs]
    apply List.map_congr_left
    intro x hx
    have := h x hx
    simp only [Function.comp, UInt8.toNat_ofNat', id]
    omega
  rw [← key xs hx, ← key ys hy, h1]
theorem toList_inj {a b : ByteArray} (h : a.toList = b.toList) : a = b := by
  rw [ByteArray.toList_eq, ByteArray.toList_eq] at h
  obtain ⟨⟨x⟩⟩ := a
  obtain ⟨⟨y⟩⟩ := b
  simpa using h
theorem toList_eq (a b : ByteArray) : (a.toList == b.toList) = decide (a = b) := by
  have : a.toList = b.toList ↔ a = b := ⟨toList_inj, fun h => by rw [h]⟩
  by_cases h : a = b
  · subst h; simp
  · rw [decide_eq_false h, beq_eq_false_iff_ne]
    exact fun e => h (this.1 e)
set_option maxRecDepth 10000 in
set_option maxHeartbeats 1000000 in
theorem equal_any (A B : Option Addr) (n c m d : Nat) (xs ys : List Int) (w : World) (h1 : Row byteT w A n xs) (h2 : Row byteT w B m ys) (b1 : ∀ x ∈ xs, 0 ≤ x ∧ x < 256) (b2 : ∀ x ∈ ys, 0 ≤ x ∧ x < 256) :
    Calls Try.prog 47 #[.slice A n c, .slice B m d] w fun e w' => e = .returned (.bool (decide (xs = ys))) ∧ w = w' := by
  have s1 := run_str (c := c) h1
  have s2 := run_str (c := d) h2
  have HQ : Hid (((strOfNums xs).toList == (strOfNums ys).toList) = decide (xs = ys)) := hid_ (by
    rw [toList_eq]
    by_cases e : xs = ys
    · subst e; simp
    · rw [decide_eq_false e, decide_eq_false (fun h => e (str_inj b1 b2 h))])
  clear h1 h2 b1 b2
  go_enter Try.func47, Try.ntmps47
  go_wp2
  go_ret
  exact ⟨by rw [← HQ.out]; rfl, rfl⟩
end Go.Proofs.Ytcfabnkkkpcelaa
