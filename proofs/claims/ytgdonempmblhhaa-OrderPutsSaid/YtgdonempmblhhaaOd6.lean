/- order.Drop. -/
import Derived.Test.YtgdonempmblhhaaOd5
import Derived.Test.YtgdonempmblhhaaBx2
set_option linter.unusedSimpArgs false
set_option linter.unusedVariables false
namespace Go.Proofs.Ytgdonempmblhhaa
open Go.RowKit Go.Lib
theorem rowsTwoO (W : World) (A B : Option Addr) (n m c d : Nat) (xs ys : List Ord) (h1 : Row ordT W A n xs) (h2 : Row ordT W B m ys) : RowsO W [(A, n, c), (B, m, d)] [xs, ys] := by
  refine ⟨rfl, fun k s x hs hx => ?_⟩
  rcases k with _ | _ | k
  · simp at hs hx; subst hs; subst hx; exact h1
  · simp at hs hx; subst hs; subst hx; exact h2
  · simp at hs
theorem litTwoO (W w : World) (A B : Option Addr) (n m c d g : Nat) (hg : g = W.heap.size) (hb : Bel (W.alloc (.cells #[.slice A n c, .slice B m d] 29)) w) : Row ovT w (some ⟨g, 0, none⟩) 2 [(A, n, c), (B, m, d)] := by
  subst hg
  exact (Row.lit (T := ovT) W [(A, n, c), (B, m, d)] (0, 0) (by simp)).bel hb
section
variable {P : Program}
theorem results_tct {fn : Func} {a p u : Tmp} {ty : TypeId} (h : fn.results = #[.tmp a, .cell p ty, .tmp u]) (tmps : Array Value) (w : World) (g : Nat) (t : TypeId) (cs : Array Value) (fr : Nat × Nat) (d : TypeDesc)
    (hp : tmps.getD p undef = .pointer (some ⟨g, 0, none⟩)) (hg : w.heap[g]? = some (.cells cs t fr))
    (hu : P.underlying ty = some d) (hd : (match d with | .struct _ | .array _ _ => true | _ => false) = true) (hi : (P.info? ty).map (·.size) = some cs.size) :
    (results fn tmps).run P w = .ok (.tuple #[tmps.getD a undef, .agg cs, tmps.getD u undef]) w := by
  have hp' : tmps[p]?.getD undef = .pointer (some ⟨g, 0, none⟩) := by simpa using hp
  simp [results, h, hp', asAddr, run_loadVar_row w g t ty cs fr d hg hu hd hi]
end
def oI : Option Nat → Int
  | some k => (k : Int)
  | none => -1
theorem idxI_eq (p : Ord → Bool) (l : List Ord) : idxI p l = oI (l.findIdx? p) := by
  unfold idxI
  cases l.findIdx? p <;> rfl
def ordZ1 : Ord := ⟨0, ⟨#[]⟩, ⟨#[]⟩, false, 0, 0⟩
def dropL (l : List Ord) (n : Int) : List Ord := match l.findIdx? (fun x => x.number == n) with | some i => l.take i ++ l.drop (i + 1) | none => []
def dropX (l : List Ord) (n : Int) : Ord := match l.findIdx? (fun x => x.number == n) with | some i => (l[i]?).getD ordZ1 | none => ordZ1
def dropE (l : List Ord) (n : Int) : Int := match l.findIdx? (fun x => x.number == n) with | some _ => 0 | none => 130
set_option maxRecDepth 10000 in
set_option maxHeartbeats 4000000 in
theorem drop_any (A : Option Addr) (n c : Nat) (l : List Ord) (nu : Int) (w : World) (hA : Row ordT w A n l) (hnc : n ≤ c) (hn : n ≤ 100000) :
    Calls Try.prog 31 #[.slice A n c, .int .u64 nu] w fun e w' => ∃ A' n' c', e = .returned (.tuple #[.slice A' n' c', .agg (ordC (dropX l nu)).toArray, .int .i64 (dropE l nu)]) ∧ Row ordT w' A' n' (dropL l nu) ∧ n' ≤ c' ∧ Bel w w' := by
  have HA := hid_ hA
  have HL := hid_ hA.1
  have HNC := hid_ hnc
  obtain ⟨rl, hrl⟩ : ∃ r, dropL l nu = r := ⟨_, rfl⟩
  obtain ⟨rx, hrx⟩ : ∃ r, dropX l nu = r := ⟨_, rfl⟩
  obtain ⟨re, hre⟩ : ∃ r, dropE l nu = r := ⟨_, rfl⟩
  rw [hrl, hrx, hre]
  have HR : Hid (dropL l nu = rl ∧ dropX l nu = rx ∧ dropE l nu = re) := hid_ ⟨hrl, hrx, hre⟩
  clear hrl hrx hre hA hnc
  go_enter Try.func31, Try.ntmps31
  go_wp2_with fail
  have kz := Bx.new w 27 [.int .u64 0, .string ⟨#[]⟩, .string ⟨#[]⟩, .bool false, .int .i64 0, .int .i64 0]
  have KZ : Hid (Bx (w.alloc (.cells #[.int .u64 0, .string ⟨#[]⟩, .string ⟨#[]⟩, .bool false, .int .i64 0, .int .i64 0] 27)) w.heap.size 27 [.int .u64 0, .string ⟨#[]⟩, .string ⟨#[]⟩, .bool false, .int .i64 0, .int .i64 0]) := hid_ kz
  have B1 : Hid (Bel w (w.alloc (.cells #[.int .u64 0, .string ⟨#[]⟩, .string ⟨#[]⟩, .bool false, .int .i64 0, .int .i64 0] 27))) := hid_ ((Bel.refl w).alloc _)
  clear kz
  generalize w.alloc (.cells #[.int .u64 0, .string ⟨#[]⟩, .string ⟨#[]⟩, .bool false, .int .i64 0, .int .i64 0] 27) = w1 at KZ B1 ⊢
  refine (is_any nu w1).mono ?_
  rintro e v2 ⟨rfl, hw⟩
  have kb := Bx.new w1 23 [.int .u64 nu]
  rw [show (w1.alloc (.cells ([.int .u64 nu] : List Value).toArray 23)) = v2 from hw] at kb
  have hb2 : Bel w1 v2 := by rw [← hw]; exact (Bel.refl w1).alloc _
  have KB := hid_ kb
  have KZ2 := hid_ (KZ.out.bel hb2)
  have B2 := hid_ (B1.out.trans hb2)
  clear kb hw hb2 KZ B1
  generalize w1.heap.size = gn at KB ⊢
  go_wp2_with fail
  refine (indexP_any (fun x => x.number == nu) 71 _ egIs A n c l _ (HA.out.bel B2.out) (fun a0 a1 a2 a3 a4 a5 w' hb => is1_any a0 a1 a2 a3 a4 a5 nu gn w' (hb.cell_ (KB.out.cell 0 rfl)))).mono ?_
  rintro e v3 ⟨rfl, b3⟩
  have B3 := hid_ (B2.out.trans b3)
  have KZ3 := hid_ (KZ2.out.bel b3)
  clear b3 B2 KB KZ2
  obtain ⟨fi, hfi⟩ : ∃ fi, l.findIdx? (fun x => x.number == nu) = fi := ⟨_, rfl⟩
  rw [idxI_eq, hfi]
  unfold dropL dropX dropE at HR
  rw [hfi] at HR
  cases fi
  case none =>
    have HF : Hid (rl = [] ∧ rx = ordZ1 ∧ re = 130) := hid_ ⟨HR.out.1.symm, HR.out.2.1.symm, HR.out.2.2.symm⟩
    clear HR hfi
    rw [show oI none = -1 from rfl]
    have z0 := KZ3.out.cell 0 rfl
    have z1 := KZ3.out.cell 1 rfl
    have z2 := KZ3.out.cell 2 rfl
    have z3 := KZ3.out.cell 3 rfl
    have z4 := KZ3.out.cell 4 rfl
    have z5 := KZ3.out.cell 5 rfl
    have zf := fun j => KZ3.out.frozen j
    go_wp2
    have KF := ((((((KZ3.out.set 0 (.int .u64 0)).set 1 (.string ⟨#[]⟩)).set 2 (.string ⟨#[]⟩)).set 3 (.bool false)).set 4 (.int .i64 0)).set 5 (.int .i64 0))
    have BF := (((((((B3.out.setBx (j := 0) (Nat.le_refl _) (.int .u64 0)).setBx (j := 1) (Nat.le_refl _) (.string ⟨#[]⟩)).setBx (j := 2) (Nat.le_refl _) (.string ⟨#[]⟩)).setBx (j := 3) (Nat.le_refl _) (.bool false)).setBx (j := 4) (Nat.le_refl _) (.int .i64 0)).setBx (j := 5) (Nat.le_refl _) (.int .i64 0)))
    refine bodyPost_ret (results_tct rfl _ _ w.heap.size 27 _ (0, 0) _ rfl KF Try.underlying27 rfl (by kernel_rfl)) rfl ?_
    exact ⟨none, 0, 0, by rw [HF.out.2.1, HF.out.2.2]; rfl, by rw [HF.out.1]; exact Row.none_ _ _ _, Nat.le_refl _, BF⟩
  case some i =>
    have hil := (List.findIdx?_eq_some_iff_getElem.1 hfi).1
    rw [HL.out] at hil
    rw [show oI (some i) = (i : Int) from rfl]
    clear hfi
    obtain ⟨A', hcut, hrow⟩ := ordS.cutFrom (P := Try.prog) .i64 A n c (i + 1) (by omega) HNC.out
    have hto := fun W => ordS.cutTo (P := Try.prog) .i64 A n c i (by have := HNC.out; omega) W
    have HROW := hid_ (hrow _ _ (HA.out.bel B3.out))
    have HTO := hid_ ((HA.out.bel B3.out).take_ (show i ≤ n by omega))
    obtain ⟨ad, o0, o1, o2, o3, o4, o5, hAd, ho, d0, d1, d2, d3, d4, d5⟩ := (HA.out.bel B3.out).ord hil
    subst hAd
    have HF : Hid (rl = l.take i ++ l.drop (i + 1) ∧ rx = ⟨o0, o1, o2, o3, o4, o5⟩ ∧ re = 0) := hid_ ⟨HR.out.1.symm, by rw [← HR.out.2.1]; show (l[i]?).getD ordZ1 = _; rw [ho]; rfl, HR.out.2.2.symm⟩
    have HNE : (ad.add (i * 6)).block ≠ w.heap.size := by
      obtain ⟨ad', p0, p1, p2, p3, p4, p5, e', _, c0, _⟩ := HA.out.ord hil
      cases e'
      exact Nat.ne_of_lt (World.block_lt_of_cell? w _ c0)
    have FS : ∀ (a : Addr) (W' : World) (j : Nat) (u v : Value), a.block = (ad.add (i * 6)).block → W'.cell? a = some v → (W'.setCell ⟨w.heap.size, j, none⟩ u).cell? a = some v := by
      intro a W' j u v e h
      rw [World.cell?_setCell_other]
      · exact h
      · intro e2
        rw [← e2] at e
        exact HNE e.symm
    have HFS := hid_ FS
    clear FS HNE
    clear hrow HR ho
    have i0 : (0 : Int) ≤ (i : Int) := by omega
    have i1 : (i : Int) < (n : Int) := by omega
    have HL9 : Hid ([l.take i, l.drop (i + 1)].flatten.length ≤ 100000) := hid_ (by have h3 := HL.out; simp; omega)
    have ei : ((i + 1 : Nat) : Int) = (i : Int) + 1 := by omega
    simp only [ei] at hcut
    clear ei
    have ew : IntKind.i64.wrap ((i : Int) + 1) = (i : Int) + 1 := by rw [IntWalk.i64_left]; exact IntWalk.wrap64_in _ (by omega)
    go_wp2_with fail
    go_region_held3 (fun W => W.cell? (ad.add (i * 6)) = some (.int .u64 o0) ∧ W.cell? ⟨(ad.add (i * 6)).block, (ad.add (i * 6)).off + 1, none⟩ = some (.string o1) ∧ W.cell? ⟨(ad.add (i * 6)).block, (ad.add (i * 6)).off + 2, none⟩ = some (.string o2) ∧ W.cell? ⟨(ad.add (i * 6)).block, (ad.add (i * 6)).off + 3, none⟩ = some (.bool o3) ∧ W.cell? ⟨(ad.add (i * 6)).block, (ad.add (i * 6)).off + 4, none⟩ = some (.int .i64 o4) ∧ W.cell? ⟨(ad.add (i * 6)).block, (ad.add (i * 6)).off + 5, none⟩ = some (.int .i64 o5))
      (first | with_reducible exact ⟨d0, d1, d2, d3, d4, d5⟩ | with_reducible exact ⟨bz.cell_ d0, bz.cell_ d1, bz.cell_ d2, bz.cell_ d3, bz.cell_ d4, bz.cell_ d5⟩ | ((with_reducible refine ⟨Bel.cell_ (w := v3) ?_ d0, Bel.cell_ (w := v3) ?_ d1, Bel.cell_ (w := v3) ?_ d2, Bel.cell_ (w := v3) ?_ d3, Bel.cell_ (w := v3) ?_ d4, Bel.cell_ (w := v3) ?_ d5⟩) <;> (repeat first | with_reducible exact Bel.refl _ | with_reducible exact bz | with_reducible apply Bel.drew | with_reducible apply Bel.alloc) <;> done) | ((refine ⟨?_, ?_, ?_, ?_, ?_, ?_⟩) <;> (repeat with_reducible refine HFS.out _ _ _ _ _ rfl ?_) <;> (first | with_reducible exact bz.cell_ d0 | with_reducible exact bz.cell_ d1 | with_reducible exact bz.cell_ d2 | with_reducible exact bz.cell_ d3 | with_reducible exact bz.cell_ d4 | with_reducible exact bz.cell_ d5)))
      (first | (go_at_call 54; refine' Calls.mono (concatO_any _ 2 2 [(some ad, i, c), (A', n - (i + 1), c - (i + 1))] [l.take i, l.drop (i + 1)] _ (litTwoO v3 _ (some ad) A' i (n - (i + 1)) c (c - (i + 1)) _ rfl (Bel.refl _).drew) (rowsTwoO _ _ _ _ _ _ _ _ _ (HTO.out.bel ((Bel.refl v3).alloc _).drew) (HROW.out.bel ((Bel.refl v3).alloc _).drew)) HL9.out) ?_; rintro e w9 ⟨v9, rfl, oo, b9⟩; have bz : Bel v3 w9 := ((Bel.refl v3).alloc _).drew.trans b9; have oo2 := oo.mono_ (show v3.heap.size ≤ _ from (((Bel.refl v3).alloc _).drew).size_); have z0 := (KZ3.out.bel bz).cell 0 rfl; have z1 := (KZ3.out.bel bz).cell 1 rfl; have z2 := (KZ3.out.bel bz).cell 2 rfl; have z3 := (KZ3.out.bel bz).cell 3 rfl; have z4 := (KZ3.out.bel bz).cell 4 rfl; have z5 := (KZ3.out.bel bz).cell 5 rfl; have zf := fun j => (KZ3.out.bel bz).frozen j))
    obtain ⟨A9, c9, hv9, hc9, r9, h9⟩ := oo2.rowAt
    subst hv9
    have hxy : [l.take i, l.drop (i + 1)].flatten = rl := by rw [HF.out.1]; simp
    rw [hxy] at r9 hc9 ⊢
    have hlt : w.heap.size < v3.heap.size := KZ3.out.lt
    have r9' := (((((r9.setFar' (g := w.heap.size) (j := 0) (.int .u64 o0) (fun _ ad e => by have := h9 ad e; omega)).setFar' (g := w.heap.size) (j := 1) (.string o1) (fun _ ad e => by have := h9 ad e; omega)).setFar' (g := w.heap.size) (j := 2) (.string o2) (fun _ ad e => by have := h9 ad e; omega)).setFar' (g := w.heap.size) (j := 3) (.bool o3) (fun _ ad e => by have := h9 ad e; omega)).setFar' (g := w.heap.size) (j := 4) (.int .i64 o4) (fun _ ad e => by have := h9 ad e; omega)).setFar' (g := w.heap.size) (j := 5) (.int .i64 o5) (fun _ ad e => by have := h9 ad e; omega)
    have KF := (((((((KZ3.out.bel bz).set 0 (.int .u64 o0)).set 1 (.string o1)).set 2 (.string o2)).set 3 (.bool o3)).set 4 (.int .i64 o4)).set 5 (.int .i64 o5))
    have BF := (((((((B3.out.trans bz).setBx (j := 0) (Nat.le_refl _) (.int .u64 o0)).setBx (j := 1) (Nat.le_refl _) (.string o1)).setBx (j := 2) (Nat.le_refl _) (.string o2)).setBx (j := 3) (Nat.le_refl _) (.bool o3)).setBx (j := 4) (Nat.le_refl _) (.int .i64 o4)).setBx (j := 5) (Nat.le_refl _) (.int .i64 o5))
    have R9 := hid_ r9'
    have HC9 := hid_ hc9
    clear hc9 r9 r9' oo oo2 b9 hxy d0 d1 d2 d3 d4 d5 z0 z1 z2 z3 z4 z5 zf hcut hto
    go_wp2
    refine bodyPost_ret (results_tct rfl _ _ w.heap.size 27 _ (0, 0) _ rfl KF Try.underlying27 rfl (by kernel_rfl)) rfl ?_
    exact ⟨A9, _, c9, by rw [HF.out.2.1, HF.out.2.2]; rfl, R9.out, HC9.out, BF⟩
end Go.Proofs.Ytgdonempmblhhaa
