/- slices.Collect of an iterator over slices of ints; alloc.Lists. -/
import Derived.Test.YtboaidjhhlidkaaAl23
import Derived.Test.YtboaidjhhlidkaaAl21
set_option linter.unusedSimpArgs false
set_option linter.unusedVariables false
namespace Go.Proofs.Ytboaidjhhlidkaa
open Go.RowKit Go.Shelf
attribute [local go_sem] Oper.semAt_some
section
variable {α : Type} {T : Ty α} {P : Program} {F : Fence} {nF : Nat} {ops : Array Oper} {rest : List Oper} {o : Oper} {a : Act} {Q : Exit → Act → World → Prop}
theorem wpAppIn {t : TypeId} {bytes : Nat} {z : Value} (S : SlT P t T bytes z) {w0 W : World} (hgd : o.guard = none) (s x : Operand)
    (ho : o.op = .call { callee := .builtin .append, args := #[s, x], argTypes := #[t, t] })
    (v : Value) (xs ys : List α) (A : Option Addr) (m c : Nat) (hs : a.eval s = v) (hx : a.eval x = .slice A m c)
    (HO : Own T W w0.heap.size v xs) (HR : Row T W A m ys) (HB : Bel w0 W) (hl : (xs.length + m) * bytes ≤ 140737488355328)
    (h : ∀ v1 w1, Own T w1 w0.heap.size v1 (xs ++ ys) → Bel w0 w1 → W.grownBy w1 v.ownBlock → (v1.ownBlock = v.ownBlock ∨ ∃ b, v1.ownBlock = some b ∧ W.heap.size ≤ b) → wpListIn F nF P ops Q rest (a.put o.dst v1) w1) :
    wpListIn F nF P ops Q (o :: rest) a W := by
  obtain ⟨v1, w1, hr, h1, h2, h3, h4⟩ := run_app (ty := o.type) S v xs ys A m c HO HR HB hl
  refine wpListIn_plain hgd fun K hK => ?_
  unfold Oper.wpIn
  refine ⟨by simp [Oper.about, ho, resolve, Target.leads, Sem.run_pure], ?_⟩
  rw [Oper.semAt_plain F _ _ (by rw [ho]; intro c hc'; cases hc')]
  simp [execOp, ho, resolve, invoke, builtin, hs, hx, hr, Result.andThen]
  exact hK _ _ (h v1 w1 h1 h2 h3 h4)
/-- The block of a row of the call's own holds cells. -/
theorem Own.cells_ {w : World} {base : Nat} {v : Value} {xs : List α} (h : Own T w base v xs) {k : Nat} (hk : v.ownBlock = some k) : ∃ cs, w.heap[k]? = some (.cells cs T.e (0, 0)) := by
  rcases h.2 with ⟨rfl, _⟩ | ⟨g, cap, cur, rfl, _, hh, _⟩
  · cases hk
  · cases hk
    exact ⟨_, hh⟩
end
def HoldP (w : World) (pre : List SV) (W : World) : Prop := (∃ v, Bx W w.heap.size 59 [v] ∧ Own svT W w.heap.size v pre ∧ (∀ k, v.ownBlock = some k → k ≠ w.heap.size)) ∧ Below w.heap.size w W
theorem holdOwn (w : World) (B : Nat) (hB : w.heap.size ≤ B) : OwnFrom B (HoldP w) := by
  rintro s A A' row ⟨⟨v, hb, ho, hn⟩, hbe⟩ hg hr
  have hne : ∀ k, row = some k → ∀ cs t f, A.heap[k]? ≠ some (.cells cs t f) := by
    intro k e cs t f e'
    obtain ⟨_, o, h1, h2⟩ := hr k e
    rw [e'] at h1
    cases h1
    cases h2
  refine ⟨⟨v, hb.grown hg (fun k e e' => hne k e _ _ _ (e' ▸ hb)), ho.kept_ hg ?_, hn⟩, hbe.grown hg hbe.size (fun k e => Nat.le_trans hB (hr k e).1)⟩
  cases hv : v.ownBlock with
  | none => exact .inl rfl
  | some k =>
    refine .inr fun e => ?_
    obtain ⟨cs, hcs⟩ := ho.cells_ hv
    exact hne k e.symm _ _ _ hcs
set_option maxRecDepth 100000 in
set_option maxHeartbeats 2000000 in
theorem appendSeq_any (m : Nat) (hm : 3 ≤ m) (gf : Nat) (lb : Array Value) (w : World) (S : List SV → Prop) (N : Nat) (hN : N ≤ 100000) (hF : Enters Try.prog gf)
    (hseq : SeqStopsK Fence.wide (m - 1) Try.prog gf lb svEnc (Below w.heap.size) S (fun _ => True) N w) :
    CallsIn Fence.wide m Try.prog 123 #[.slice none 0 0, .func (.func gf) #[] lb] w fun e w' => ∃ v ss, e = .returned v ∧ S ss ∧ Own svT w' w.heap.size v ss ∧ Bel w w' := by
  have h1 : 1 ≤ m := by omega
  refine callsIn_of_wp_marks Try.func123 rfl trivial ?_ rfl
  simp only [Try.ntmps123, List.size_toArray, List.length_cons, List.length_nil, Nat.reduceAdd, Nat.reduceSub, Array.replicate_succ, Array.replicate_zero, List.push_toArray, List.append_toArray, List.nil_append, List.cons_append]
  gi_wp2
  refine wpIn_rangeFunc_ownF rfl h1 (gf := gf) (lb := lb) rfl trivial hF hseq belowK_t (belowK_b (by simp)) ((Below.refl _ _).alloc (Nat.le_refl _) _) (fun _ => rfl)
    (HoldP w) (fun _ _ _ => False) (holdOwn w _ (by simp)) (fun _ _ _ _ _ hs _ _ => hs)
    ⟨⟨.slice none 0 0, Bx.new w _ _, Own.nil_ _ _ _, fun k e => by cases e⟩, (Below.refl _ _).alloc (Nat.le_refl _) _⟩
    (fun x => { tmps := #[.slice none 0 0, .func (.func gf) #[] lb, .pointer (some ⟨w.heap.size, 0, none⟩), undef, .slice none 0 0, .slice x.1 x.2.1 x.2.2, .func (.func gf) #[] lb, .slice x.1 x.2.1 x.2.2, undef, undef, undef, undef, undef], defers := [] }) ?assign ?body ?done ?stop
  case assign =>
    intro l x W K hK
    dsimp only [svEnc]
    gi_wp2
    exact hK
  case body =>
    rintro l pre x W ⟨⟨v, hb, ho, hn⟩, hB⟩ hlt
    have hc := hb.cell 0 rfl
    have hBx := hid_ hb
    clear hb
    gi_wp2_with (gi_at_builtin; refine wpAppIn (w0 := w) svS rfl _ _ rfl v pre [x] (some ⟨W.heap.size, 0, none⟩) 1 1 rfl rfl (ho.alloc_ _) (Row.one (T := svT) x rfl rfl) (Bel.alloc hB _) (by omega) ?_; intro v1 x1 hO1 hb1 hg1 hat1; obtain ⟨X1, d1, rfl, hc1, rr1⟩ := hO1.reads; rw [List.length_append, List.length_singleton] at hO1 hat1; have k2 := hid_ ((hBx.out.alloc _).grown hg1 hn); have e5 := k2.out.cell 0 rfl; have fz := fun j => k2.out.frozen j)
    have kW : KeepsOthers W x1 := (KeepsOthers.alloc W _).trans (KeepsOthers.of_grownBy hg1 (fun j o e ho' => by
      obtain ⟨cs, hcs⟩ := (ho.alloc_ _).cells_ e
      rw [hcs] at ho'
      cases ho'
      rfl))
    have n1 := ownNe hat1 hn (by have := hBx.out.lt; rw [sizeAl]; omega)
    have kp : Below w.heap.size W x1 := ((Below.refl w.heap.size W).alloc hB.size _).grown hg1 (by have := hB.size; rw [sizeAl]; omega) (fun k e => ho.base_ k e)
    exact ⟨kW.trans (KeepsOthers.setCell _ _ _), kp.setCell (p := ⟨w.heap.size, 0, none⟩) (Nat.le_refl _) _, ⟨_, k2.out.set 0 _, hO1.kept_ (grownSet _ _ _ _) (.inr (fun e => n1 _ e rfl)), n1⟩, Bel.setBx hb1 (Nat.le_refl _) _⟩
  case done =>
    rintro D ys W hD hS ⟨⟨v, hb, ho, hn⟩, hB⟩ hK
    have hc := hb.cell 0 rfl
    gi_wp2
    refine ⟨by simp, .inl ⟨_, _, rfl, run_takeDeferred hK, ?_⟩⟩
    have hne : v.ownBlock = none ∨ v.ownBlock ≠ some D := by
      cases hv : v.ownBlock with
      | none => exact .inl rfl
      | some k =>
        refine .inr fun e => ?_
        injection e with e
        subst e
        obtain ⟨cs, hcs⟩ := ho.cells_ hv
        rw [hK] at hcs
        cases hcs
    exact ⟨_, results_tmp rfl _ _ _, v, ys, rfl, hS, ho.kept_ (grownBy_putObj' W D (.deferred none)) hne, hB.trans (belowK_b (w := w) (Nat.le_refl _) W D _ _ (by simp at hD; omega) hK rfl rfl)⟩
  case stop =>
    rintro D c pre W _ _ h _
    exact h.elim
set_option maxRecDepth 10000 in
set_option maxHeartbeats 2000000 in
theorem chunk_any (A : Option Addr) (n c : Nat) (w : World) :
    Calls Try.prog 77 #[.slice A n c, .int .i64 200] w fun e w' => e = .returned (.func (.func 124) #[] #[.pointer (some ⟨w.heap.size, 0, none⟩), .pointer (some ⟨w.heap.size + 1, 0, none⟩)]) ∧ w' = (w.alloc (.cells #[.slice A n c] 46)).alloc (.cells #[.int .i64 200] 3) := by
  have hmf : ∀ (fn : Fn) (first cap : Array Value) (w : World), (Instr.makeFunc fn first cap).run Try.prog w = .ok (.func fn first cap) w := fun _ _ _ _ => rfl
  go_enter Try.func77, Try.ntmps77
  go_wp2
  go_ret
  exact ⟨rfl, rfl⟩
set_option maxRecDepth 10000 in
set_option maxHeartbeats 2000000 in
theorem collect_any (gf : Nat) (lb : Array Value) (w : World) (S : List SV → Prop) (N : Nat) (hN : N ≤ 100000) (hF : Enters Try.prog gf)
    (hseq : SeqStopsK Fence.wide 2 Try.prog gf lb svEnc (Below w.heap.size) S (fun _ => True) N w) :
    Calls Try.prog 76 #[.func (.func gf) #[] lb] w fun e w' => ∃ v ss, e = .returned v ∧ S ss ∧ Own svT w' w.heap.size v ss ∧ Bel w w' := by
  go_enter Try.func76, Try.ntmps76
  go_wp2_with fail
  refine (callsIn_wide.1 (appendSeq_any 3 (by omega) gf lb w S N hN hF hseq)).mono ?_
  rintro e w' ⟨v, ss, rfl, hS, ho, hb⟩
  have HS := hid_ hS
  have HO := hid_ ho
  have HB := hid_ hb
  clear hS ho hb
  go_wp2
  go_ret
  exact ⟨_, ss, rfl, HS.out, HO.out, HB.out⟩
set_option maxRecDepth 10000 in
set_option maxHeartbeats 4000000 in
theorem lists_any (h : Int) (A B : Option Addr) (n c m d : Nat) (F L : List Int) (w : World) (hA : Row intT w A n F) (hB : Row intT w B m L) (hs1 : n ≤ 40000) (hs2 : m ≤ 40000) :
    Calls Try.prog 45 #[.agg #[.int .i64 h, .slice A n c, .slice B m d]] w fun e w' => ∃ X q k ss, e = .returned (.slice X q k) ∧ q ≤ k ∧ Row svT w' X q ss ∧ RowsAt w' ss (chunksP (turnP F L)) ∧ Bel w w' := by
  have hG : (turnP F L).length ≤ 80000 := by rw [turnP_len, hA.1, hB.1]; omega
  obtain ⟨G, hGG⟩ : ∃ G, turnP F L = G := ⟨_, rfl⟩
  rw [hGG] at hG
  have HGL := hid_ hG
  have HGG := hid_ hGG
  clear hG hGG
  go_enter Try.func45, Try.ntmps45
  have k0 := Bx.new w 48 [.int .i64 h, .slice A n c, .slice B m d]
  have hb : Bel w (w.alloc (.cells #[.int .i64 h, .slice A n c, .slice B m d] 48)) := (Bel.refl w).alloc _
  have c0 := k0.cell 0 rfl
  have c1 := k0.cell 1 rfl
  have c2 := k0.cell 2 rfl
  go_wp2_with fail
  refine (turn_any h A B n c m d F L _ (hA.bel hb) (hB.bel hb) (by omega) (by omega)).mono ?_
  rintro e w2 ⟨v, rfl, ⟨X0, q0, k0', Y0, j0, l0, rfl, hq0, _, r0, _⟩, b2⟩
  have HB := hid_ (hb.trans b2)
  rw [HGG.out] at r0
  have hfd := fld1 h X0 Y0 q0 k0' j0 l0 w2
  have HR0 := hid_ r0
  have HQ0 := hid_ hq0
  clear k0 hb c0 c1 c2 b2 r0 hq0
  go_wp2_with fail
  refine (chunk_any X0 q0 k0' w2).mono ?_
  rintro e w3 ⟨rfl, hw3⟩
  have hb3 : Bel w2 w3 := by rw [hw3]; exact ((Bel.refl _).alloc _).alloc _
  have t1 : w3.cell? ⟨w2.heap.size, 0, none⟩ = some (.slice X0 q0 k0') := by rw [hw3]; exact cellOld (cellNew w2 _ _ _ _ 0 rfl) _
  have t2 : w3.cell? ⟨w2.heap.size + 1, 0, none⟩ = some (.int .i64 200) := by rw [hw3]; exact cellNew _ _ _ _ _ 0 (sizeAl _ _).symm
  have hst := chunkQ_stops 2 (by omega) w2.heap.size (w2.heap.size + 1) X0 q0 k0' G w3 t1 t2 (HR0.out.bel hb3) HQ0.out (by have := HGL.out; have := HR0.out.1; omega)
  have HST := hid_ hst
  have HB3 := hid_ (HB.out.trans hb3)
  clear hst hb3 t1 t2 hw3 HR0 HQ0 HB hfd
  go_wp2_with fail
  refine (collect_any _ _ w3 _ _ (by have := chunksP_len G; have := HGL.out; omega) (enters_of Try.func124 (by kernel_rfl) rfl) HST.out).mono ?_
  rintro e w4 ⟨v4, ss, rfl, hS, ho, hb4⟩
  obtain ⟨Z, cz, rfl, hcz, rz⟩ := ho.reads
  obtain ⟨lz, hlz⟩ : ∃ lz, ss.length = lz := ⟨_, rfl⟩
  rw [hlz] at hcz rz ⊢
  have HS := hid_ (hS.bel hb4)
  have HB4 := hid_ (HB3.out.trans hb4)
  have HCZ := hid_ hcz
  have RZ := hid_ rz
  clear hS ho hb4 hcz rz hlz HST HB3
  go_wp2
  go_ret
  exact ⟨_, _, _, ss, rfl, HCZ.out, RZ.out, by rw [HGG.out]; exact HS.out, HB4.out⟩
end Go.Proofs.Ytboaidjhhlidkaa
