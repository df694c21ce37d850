/- alloc.Take. -/
import Derived.Test.YtboaidjhhlidkaaAl12
set_option linter.unusedSimpArgs false
set_option linter.unusedVariables false
namespace Go.Proofs.Ytboaidjhhlidkaa
open Go.RowKit
section
variable {P : Program}
theorem results_ct {fn : Func} {p u : Tmp} {ty : TypeId} (h : fn.results = #[.cell p ty, .tmp u]) (tmps : Array Value) (w : World) (g : Nat) (t : TypeId) (cs : Array Value) (fr : Nat × Nat) (d : TypeDesc)
    (hp : tmps.getD p undef = .pointer (some ⟨g, 0, none⟩)) (hg : w.heap[g]? = some (.cells cs t fr))
    (hu : P.underlying ty = some d) (hd : (match d with | .struct _ | .array _ _ => true | _ => false) = true) (hi : (P.info? ty).map (·.size) = some cs.size) :
    (results fn tmps).run P w = .ok (.tuple #[.agg cs, tmps.getD u undef]) w := by
  have hp' : tmps[p]?.getD undef = .pointer (some ⟨g, 0, none⟩) := by simpa using hp
  simp [results, h, hp', asAddr, run_loadVar_row w g t ty cs fr d hg hu hd hi]
theorem results_ctt {fn : Func} {p u u' : Tmp} {ty : TypeId} (h : fn.results = #[.cell p ty, .tmp u, .tmp u']) (tmps : Array Value) (w : World) (g : Nat) (t : TypeId) (cs : Array Value) (fr : Nat × Nat) (d : TypeDesc)
    (hp : tmps.getD p undef = .pointer (some ⟨g, 0, none⟩)) (hg : w.heap[g]? = some (.cells cs t fr))
    (hu : P.underlying ty = some d) (hd : (match d with | .struct _ | .array _ _ => true | _ => false) = true) (hi : (P.info? ty).map (·.size) = some cs.size) :
    (results fn tmps).run P w = .ok (.tuple #[.agg cs, tmps.getD u undef, tmps.getD u' undef]) w := by
  have hp' : tmps[p]?.getD undef = .pointer (some ⟨g, 0, none⟩) := by simpa using hp
  simp [results, h, hp', asAddr, run_loadVar_row w g t ty cs fr d hg hu hd hi]
end
/-- 'b[m:]': the address under a letter, and its block. -/
theorem cutFromB (k : IntKind) (ad : Addr) (n c m : Nat) (hm : m ≤ n) (hc : n ≤ c) :
    ∃ A' : Option Addr, (∀ W : World, (Instr.slice 46 (.slice (some ad) n c) (some (.int k (m : Int))) none none).run Try.prog W = .ok (.slice A' (n - m) (c - m)) W) ∧
      (∀ ad', A' = some ad' → ad'.block = ad.block) ∧ ∀ (w : World) (xs : List Int), Row intT w (some ad) n xs → Row intT w A' (n - m) (xs.drop m) := by
  have hel : Try.prog.elem 46 = intT.e := by simp [Program.elem, intS.ut]
  have hu : Try.prog.underlying 46 = some (.slice (Try.prog.elem 46)) := by rw [hel]; exact intS.ut
  obtain ⟨i, hi, hsz⟩ := intS.size
  refine ⟨if c = m then some ad else (some ad).map (·.add (m * intT.sz)), fun W => ?_, fun ad' e => ?_, fun w xs h => ?_⟩
  · rw [run_slice_l W 46 (some ad) n c hu k (m : Int) (Int.natCast_nonneg _) (by omega), hel]
    simp [sizeOf, typeInfo, hi, hsz, sliced, Result.andThen]
  · split at e
    · cases e; rfl
    · cases e; unfold Addr.add; split <;> rfl
  · refine ⟨by rw [List.length_drop, h.1], by have := h.2.1; omega, fun hp => ?_⟩
    obtain ⟨ad1, e1, hcell⟩ := h.2.2 (by omega)
    cases e1
    rw [if_neg (by omega)]
    refine ⟨ad.add (m * intT.sz), rfl, fun j x hj i u hu => ?_⟩
    rw [addAdd, ← Nat.add_assoc, ← Nat.add_mul]
    exact hcell (m + j) x (by rw [← List.getElem?_drop]; exact hj) i u hu
/-- A pool's value, that may be read. -/
def PoolV (W : World) (v : Value) (h : Int) (F L : List Int) : Prop :=
  ∃ A n c B m d, v = .agg #[.int .i64 h, .slice A n c, .slice B m d] ∧ n ≤ c ∧ m ≤ d ∧ Row intT W A n F ∧ Row intT W B m L
theorem PoolV.bel {W W' : World} {v : Value} {h : Int} {F L : List Int} (p : PoolV W v h F L) (b : Bel W W') : PoolV W' v h F L := by
  obtain ⟨A, n, c, B, m, d, e, h1, h2, r1, r2⟩ := p
  exact ⟨A, n, c, B, m, d, e, h1, h2, r1.bel b, r2.bel b⟩
/-- What Take answers: the page, the error, the pool's height, its free ones, its limbo. -/
def takeN (h most : Int) : List Int → Int
  | [] => if most ≤ h then 0 else wrap64 (wrap64 (h + 1) - 1)
  | x :: _ => x
def takeE (h most : Int) : List Int → Int
  | [] => if most ≤ h then 60 else 0
  | _ :: _ => 0
def takeH (h most : Int) : List Int → Int
  | [] => if most ≤ h then 0 else wrap64 (h + 1)
  | _ :: _ => h
def takeF : List Int → List Int
  | [] => []
  | _ :: l => l
def takeL (h most : Int) (F L : List Int) : List Int := match F with
  | [] => if most ≤ h then [] else L
  | _ :: _ => L
set_option maxRecDepth 10000 in
set_option maxHeartbeats 4000000 in
theorem take_any (h most : Int) (A B : Option Addr) (n c m d : Nat) (F L : List Int) (w : World) (hA : Row intT w A n F) (hB : Row intT w B m L) (hs1 : n ≤ 1000000) (hs2 : m ≤ 1000000) :
    Calls Try.prog 31 #[.agg #[.int .i64 h, .slice A n c, .slice B m d], .int .i64 most] w fun e w' => ∃ v, e = .returned (.tuple #[v, .int .i64 (takeN h most F), .int .i64 (takeE h most F)]) ∧ PoolV w' v (takeH h most F) (takeF F) (takeL h most F L) ∧ Bel w w' := by
  go_enter Try.func31, Try.ntmps31
  have k0 : Bx ((w.alloc (.cells #[.int .i64 h, .slice A n c, .slice B m d] 48)).alloc (.cells #[.int .i64 0, .slice none 0 0, .slice none 0 0] 48)) w.heap.size 48 [.int .i64 h, .slice A n c, .slice B m d] := (Bx.new w _ _).alloc _
  have k1 : Bx ((w.alloc (.cells #[.int .i64 h, .slice A n c, .slice B m d] 48)).alloc (.cells #[.int .i64 0, .slice none 0 0, .slice none 0 0] 48)) (w.heap.size + 1) 48 [.int .i64 0, .slice none 0 0, .slice none 0 0] := by
    have := Bx.new (w.alloc (.cells #[.int .i64 h, .slice A n c, .slice B m d] 48)) 48 [.int .i64 0, .slice none 0 0, .slice none 0 0]
    rw [sizeAl] at this
    exact this
  have hb : Bel w ((w.alloc (.cells #[.int .i64 h, .slice A n c, .slice B m d] 48)).alloc (.cells #[.int .i64 0, .slice none 0 0, .slice none 0 0] 48)) := ((Bel.refl w).alloc _).alloc _
  have c0 := k0.cell 0 rfl
  have c1 := k0.cell 1 rfl
  have c2 := k0.cell 2 rfl
  have K0 := hid_ k0
  have K1 := hid_ k1
  clear k0 k1
  go_wp2_with fail
  refine (own_any h A B n c m d F L _ (hA.bel hb) (hB.bel hb) hs1 hs2).mono ?_
  rintro e w1 ⟨v1, v2, rfl, o1, o2, b1⟩
  obtain ⟨X, k, rfl, hk, r1, hx⟩ := o1.rowAt
  obtain ⟨Y, j, rfl, hj, r2, hy⟩ := o2.rowAt
  have k0 := K0.out.bel b1
  have k1 := K1.out.bel b1
  have f0 := fun j => k0.frozen j
  have f1 := fun j => k1.frozen j
  have e0 := k0.cell 0 rfl
  have e1 := k0.cell 1 rfl
  have e2 := k0.cell 2 rfl
  have g0 := k1.cell 0 rfl
  have g1 := k1.cell 1 rfl
  have g2 := k1.cell 2 rfl
  have hbb := hb.trans b1
  have KK0 := hid_ k0
  have KK1 := hid_ k1
  clear c0 c1 c2 K0 K1 k0 k1
  rcases F with _ | ⟨x, F⟩
  · by_cases hm : most ≤ h
    · have t1 : Hid (takeN h most [] = 0) := if_pos hm
      have t2 : Hid (takeE h most [] = 60) := if_pos hm
      have t3 : Hid (takeH h most [] = 0) := if_pos hm
      have t4 : Hid (takeL h most [] L = []) := if_pos hm
      go_wp2_with fail
      have k9 := (((((KK1.out.far (j := 0) (show w.heap.size + 1 ≠ w.heap.size by omega) (.int .i64 h)).far (j := 1) (show w.heap.size + 1 ≠ w.heap.size by omega) (.slice X 0 k)).far (j := 2) (show w.heap.size + 1 ≠ w.heap.size by omega) (.slice Y L.length j)).set 0 (.int .i64 0)).set 1 (.slice none 0 0)).set 2 (.slice none 0 0)
      have b9 := (((((hbb.setBx (j := 0) (Nat.le_refl _) (.int .i64 h)).setBx (j := 1) (Nat.le_refl _) (.slice X 0 k)).setBx (j := 2) (Nat.le_refl _) (.slice Y L.length j)).setBx (j := 0) (Nat.le_succ _) (.int .i64 0)).setBx (j := 1) (Nat.le_succ _) (.slice none 0 0)).setBx (j := 2) (Nat.le_succ _) (.slice none 0 0)
      refine bodyPost_ret (results_ctt rfl _ _ (w.heap.size + 1) 48 _ (0, 0) _ rfl k9 Try.underlying48 rfl (by kernel_rfl)) rfl ?_
      rw [t1.out, t2.out, t3.out, t4.out]
      exact ⟨_, rfl, ⟨none, 0, 0, none, 0, 0, rfl, Nat.le_refl _, Nat.le_refl _, Row.none_ _ _ _, Row.none_ _ _ _⟩, b9⟩
    · have t1 : Hid (takeN h most [] = IntKind.i64.wrap (wrap64 (h + 1) - 1)) := (if_neg hm).trans (IntWalk.i64_left _).symm
      have t2 : Hid (takeE h most [] = 0) := if_neg hm
      have t3 : Hid (takeH h most [] = wrap64 (h + 1)) := if_neg hm
      have t4 : Hid (takeL h most [] L = L) := if_neg hm
      go_wp2_with fail
      have k8 := (((KK0.out.set 0 (.int .i64 h)).set 1 (.slice X 0 k)).set 2 (.slice Y L.length j)).set 0 (.int .i64 (wrap64 (h + 1)))
      have k9 := (((KK1.out.far (j := 0) (show w.heap.size + 1 ≠ w.heap.size by omega) (.int .i64 h)).far (j := 1) (show w.heap.size + 1 ≠ w.heap.size by omega) (.slice X 0 k)).far (j := 2) (show w.heap.size + 1 ≠ w.heap.size by omega) (.slice Y L.length j)).far (j := 0) (show w.heap.size + 1 ≠ w.heap.size by omega) (.int .i64 (wrap64 (h + 1)))
      have b9 := (((hbb.setBx (j := 0) (Nat.le_refl _) (.int .i64 h)).setBx (j := 1) (Nat.le_refl _) (.slice X 0 k)).setBx (j := 2) (Nat.le_refl _) (.slice Y L.length j)).setBx (j := 0) (Nat.le_refl _) (.int .i64 (wrap64 (h + 1)))
      have hne : ∀ ad, Y = some ad → ad.block ≠ w.heap.size := fun ad e => by have := hy ad e; rw [sizeAl, sizeAl] at this; omega
      have hne1 : ∀ ad, Y = some ad → ad.block ≠ w.heap.size + 1 := fun ad e => by have := hy ad e; rw [sizeAl, sizeAl] at this; omega
      have r9 := (((r2.far (j := 0) (.int .i64 h) hne).far (j := 1) (.slice X 0 k) hne).far (j := 2) (.slice Y L.length j) hne).far (j := 0) (.int .i64 (wrap64 (h + 1))) hne
      generalize (((w1.setCell ⟨w.heap.size, 0, none⟩ (.int .i64 h)).setCell ⟨w.heap.size, 1, none⟩ (.slice X 0 k)).setCell ⟨w.heap.size, 2, none⟩ (.slice Y L.length j)).setCell ⟨w.heap.size, 0, none⟩ (.int .i64 (wrap64 (h + 1))) = W4 at k8 k9 b9 r9 ⊢
      have c0 := k8.cell 0 rfl
      have c1 := k8.cell 1 rfl
      have c2 := k8.cell 2 rfl
      have z0 := k9.cell 0 rfl
      have z1 := k9.cell 1 rfl
      have z2 := k9.cell 2 rfl
      have y0 := fun j => k8.frozen j
      have y1 := fun j => k9.frozen j
      have K8 := hid_ k8
      have K9 := hid_ k9
      clear k8 k9 e0 e1 e2 g0 g1 g2 f0 f1 KK0 KK1 r1 r2 o1 o2 b1 hbb hb hx hy
      go_region_held3 (fun W => W.cell? ⟨w.heap.size, 0, none⟩ = some (.int .i64 (wrap64 (h + 1))) ∧ W.cell? ⟨w.heap.size, 1, none⟩ = some (.slice X 0 k) ∧ W.cell? ⟨w.heap.size, 2, none⟩ = some (.slice Y L.length j)) (first | exact ⟨c0, c1, c2⟩ | exact ⟨((World.cell?_setCell_far _ _ _ _ (by simp)).trans ((World.cell?_setCell_far _ _ _ _ (by simp)).trans (World.cell?_setCell_far _ _ _ _ (by simp)))).trans c0, ((World.cell?_setCell_far _ _ _ _ (by simp)).trans ((World.cell?_setCell_far _ _ _ _ (by simp)).trans (World.cell?_setCell_far _ _ _ _ (by simp)))).trans c1, ((World.cell?_setCell_far _ _ _ _ (by simp)).trans ((World.cell?_setCell_far _ _ _ _ (by simp)).trans (World.cell?_setCell_far _ _ _ _ (by simp)))).trans c2⟩) (fail)
      have k10 := (((K9.out.set 0 (.int .i64 (wrap64 (h + 1)))).set 1 (.slice X 0 k)).set 2 (.slice Y L.length j)).bel ((Bel.refl _).drew)
      have b10 := (((b9.setBx (j := 0) (Nat.le_succ _) (.int .i64 (wrap64 (h + 1)))).setBx (j := 1) (Nat.le_succ _) (.slice X 0 k)).setBx (j := 2) (Nat.le_succ _) (.slice Y L.length j)).drew
      have r10 := (((r9.far (j := 0) (.int .i64 (wrap64 (h + 1))) hne1).far (j := 1) (.slice X 0 k) hne1).far (j := 2) (.slice Y L.length j) hne1).bel ((Bel.refl _).drew)
      have K10 := hid_ k10
      have B10 := hid_ b10
      have R10 := hid_ r10
      clear k10 b10 r10 r9 b9 c0 c1 c2 z0 z1 z2 y0 y1 K8 K9 hne hne1
      go_wp2_with fail
      refine bodyPost_ret (results_ctt rfl _ _ (w.heap.size + 1) 48 _ (0, 0) _ rfl K10.out Try.underlying48 rfl (by kernel_rfl)) rfl ?_
      rw [t1.out, t2.out, t3.out, t4.out]
      exact ⟨_, rfl, ⟨X, 0, k, Y, L.length, j, rfl, Nat.zero_le _, hj, ⟨rfl, by omega, fun h => absurd h (by omega)⟩, R10.out⟩, B10.out⟩
  · have t1 : Hid (takeN h most (x :: F) = x) := rfl
    obtain ⟨ad, x', rfl, hx', d0⟩ := r1.int (k := 0) (by simp)
    have hxx : x = x' := by simpa using hx'
    subst hxx
    have hA0 : ad.add 0 = ad := by unfold Addr.add; simp
    rw [hA0] at d0
    have hnb : ad.block ≠ w.heap.size := by have := hx ad rfl; rw [sizeAl, sizeAl] at this; omega
    have hd : ∀ u0 u1 u2, (((w1.setCell ⟨w.heap.size, 0, none⟩ u0).setCell ⟨w.heap.size, 1, none⟩ u1).setCell ⟨w.heap.size, 2, none⟩ u2).cell? ad = some (.int .i64 x) := fun u0 u1 u2 => (World.cell?_setCell_far _ _ _ _ (fun e => hnb e.symm)).trans ((World.cell?_setCell_far _ _ _ _ (fun e => hnb e.symm)).trans ((World.cell?_setCell_far _ _ _ _ (fun e => hnb e.symm)).trans d0))
    obtain ⟨A', hcut, hblk, hrow⟩ := cutFromB .i64 ad (F.length + 1) k 1 (by omega) hk
    have hcut' : ∀ W : World, (Instr.slice 46 (.slice (some ad) (F.length + 1) k) (some (.int .i64 1)) none none).run Try.prog W = .ok (.slice A' F.length (k - 1)) W := hcut
    have ra := hrow _ _ r1
    clear hcut hrow hx'
    have k8 := (((KK0.out.set 0 (.int .i64 h)).set 1 (.slice (some ad) (F.length + 1) k)).set 2 (.slice Y L.length j)).set 1 (.slice A' F.length (k - 1))
    have c0 := k8.cell 0 rfl
    have c1 := k8.cell 1 rfl
    have c2 := k8.cell 2 rfl
    have K8 := hid_ k8
    clear k8
    go_wp2_with fail
    have hne : ∀ ad, Y = some ad → ad.block ≠ w.heap.size := fun ad e => by have := hy ad e; rw [sizeAl, sizeAl] at this; omega
    have hne1 : ∀ ad, Y = some ad → ad.block ≠ w.heap.size + 1 := fun ad e => by have := hy ad e; rw [sizeAl, sizeAl] at this; omega
    have hn : ∀ ad', A' = some ad' → ad'.block ≠ w.heap.size := fun ad' e => by rw [hblk ad' e]; exact hnb
    have hn1 : ∀ ad', A' = some ad' → ad'.block ≠ w.heap.size + 1 := fun ad' e => by rw [hblk ad' e]; have := hx ad rfl; rw [sizeAl, sizeAl] at this; omega
    have k9 := (((((((KK1.out.far (j := 0) (show w.heap.size + 1 ≠ w.heap.size by omega) (.int .i64 h)).far (j := 1) (show w.heap.size + 1 ≠ w.heap.size by omega) (.slice (some ad) (F.length + 1) k)).far (j := 2) (show w.heap.size + 1 ≠ w.heap.size by omega) (.slice Y L.length j)).far (j := 1) (show w.heap.size + 1 ≠ w.heap.size by omega) (.slice A' F.length (k - 1))).set 0 (.int .i64 h)).set 1 (.slice A' F.length (k - 1))).set 2 (.slice Y L.length j))
    have b9 := (((((((hbb.setBx (j := 0) (Nat.le_refl _) (.int .i64 h)).setBx (j := 1) (Nat.le_refl _) (.slice (some ad) (F.length + 1) k)).setBx (j := 2) (Nat.le_refl _) (.slice Y L.length j)).setBx (j := 1) (Nat.le_refl _) (.slice A' F.length (k - 1))).setBx (j := 0) (Nat.le_succ _) (.int .i64 h)).setBx (j := 1) (Nat.le_succ _) (.slice A' F.length (k - 1))).setBx (j := 2) (Nat.le_succ _) (.slice Y L.length j))
    have r9 := (((((((r2.far (j := 0) (.int .i64 h) hne).far (j := 1) (.slice (some ad) (F.length + 1) k) hne).far (j := 2) (.slice Y L.length j) hne).far (j := 1) (.slice A' F.length (k - 1)) hne).far (j := 0) (.int .i64 h) hne1).far (j := 1) (.slice A' F.length (k - 1)) hne1).far (j := 2) (.slice Y L.length j) hne1)
    have s9 := (((((((ra.far (j := 0) (.int .i64 h) hn).far (j := 1) (.slice (some ad) (F.length + 1) k) hn).far (j := 2) (.slice Y L.length j) hn).far (j := 1) (.slice A' F.length (k - 1)) hn).far (j := 0) (.int .i64 h) hn1).far (j := 1) (.slice A' F.length (k - 1)) hn1).far (j := 2) (.slice Y L.length j) hn1)
    refine bodyPost_ret (results_ctt rfl _ _ (w.heap.size + 1) 48 _ (0, 0) _ rfl k9 Try.underlying48 rfl (by kernel_rfl)) rfl ?_
    exact ⟨_, rfl, ⟨A', F.length, k - 1, Y, L.length, j, rfl, by simp at hk; omega, hj, s9, r9⟩, b9⟩
end Go.Proofs.Ytboaidjhhlidkaa
