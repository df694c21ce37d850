/- slices.AppendSeq, Collect at places. -/
import Derived.Test.YtgnninpfhnpjoaaKs1
set_option linter.unusedSimpArgs false
set_option linter.unusedVariables false
namespace Go.Proofs.Ytgnninpfhnpjoaa
open Go.RowKit Go.Shelf Go.Maps Go.Lib
attribute [local go_sem] Oper.semAt_some
section
variable {α : Type} {T : Ty α} {P : Program} {F : Fence} {nF : Nat} {ops : Array Oper} {rest : List Oper} {o : Oper} {a : Act} {Q : Exit → Act → World → Prop}
theorem wpAppIn {t : TypeId} {bytes : Nat} {z : Value} (S : SlT P t T bytes z) {w0 W : World} (hgd : o.guard = none) (s x : Operand)
    (ho : o.op = .call { callee := .builtin .append, args := #[s, x], argTypes := #[t, t] })
    (v : Value) (xs ys : List α) (A : Option Addr) (m c : Nat) (hs : a.eval s = v) (hx : a.eval x = .slice A m c)
    (HO : Own T W w0.heap.size v xs) (HR : Row T W A m ys) (HB : Bel w0 W) (hl : (xs.length + m) * bytes ≤ 140737488355328)
    (h : ∀ v1 w1, Own T w1 w0.heap.size v1 (xs ++ ys) → Bel w0 w1 → W.grownBy w1 v.ownBlock → (v1.ownBlock = v.ownBlock ∨ ∃ b, v1.ownBlock = some b ∧ W.heap.size ≤ b) → wpListIn F nF P ops Q rest (a.put o.dst v1) w1) :
    wpListIn F nF P ops Q (o :: rest) a W := by
  obtain ⟨v1, w1, hr, h1, h2, h3, h4⟩ := run_app (ty := o.type) S v xs ys A m c HO HR HB hl
  refine wpListIn_plain hgd fun K hK => ?_
  unfold Oper.wpIn
  refine ⟨by simp [Oper.about, ho, resolve, Target.leads, Sem.run_pure], ?_⟩
  rw [Oper.semAt_plain F _ _ (by rw [ho]; intro c hc'; cases hc')]
  simp [execOp, ho, resolve, invoke, builtin, hs, hx, hr, Result.andThen]
  exact hK _ _ (h v1 w1 h1 h2 h3 h4)
theorem Own.cells_ {w : World} {base : Nat} {v : Value} {xs : List α} (h : Own T w base v xs) {k : Nat} (hk : v.ownBlock = some k) : ∃ cs, w.heap[k]? = some (.cells cs T.e (0, 0)) := by
  rcases h.2 with ⟨rfl, _⟩ | ⟨g, cap, cur, rfl, _, hh, _⟩
  · cases hk
  · cases hk
    exact ⟨_, hh⟩
end
theorem Bx.grown {W w1 : World} {g : Nat} {t : TypeId} {vs : List Value} {row : Option Nat} (h : Bx W g t vs) (hg : W.grownBy w1 row) (hne : ∀ k, row = some k → k ≠ g) : Bx w1 g t vs :=
  (hg.block g h.lt (fun e => hne g e.symm rfl)).trans h
theorem ownNe {W : World} {v v1 : Value} {g : Nat} (h : v1.ownBlock = v.ownBlock ∨ ∃ b, v1.ownBlock = some b ∧ W.heap.size ≤ b) (hv : ∀ k, v.ownBlock = some k → k ≠ g) (hg : g < W.heap.size) : ∀ k, v1.ownBlock = some k → k ≠ g := by
  rcases h with h | ⟨b, h, hb⟩
  · rw [h]; exact hv
  · intro k hk
    rw [h] at hk
    cases hk
    omega
def HoldP (w : World) (pre : List Plc) (W : World) : Prop := (∃ v, Bx W w.heap.size 80 [v] ∧ Own plcT W w.heap.size v pre ∧ (∀ k, v.ownBlock = some k → k ≠ w.heap.size)) ∧ Below w.heap.size w W
theorem holdOwn (w : World) (B : Nat) (hB : w.heap.size ≤ B) : OwnFrom B (HoldP w) := by
  rintro s A A' row ⟨⟨v, hb, ho, hn⟩, hbe⟩ hg hr
  have hne : ∀ k, row = some k → ∀ cs t f, A.heap[k]? ≠ some (.cells cs t f) := by
    intro k e cs t f e'
    obtain ⟨_, o, h1, h2⟩ := hr k e
    rw [e'] at h1
    cases h1
    cases h2
  refine ⟨⟨v, hb.grown hg (fun k e e' => hne k e _ _ _ (e' ▸ hb)), ho.kept_ hg ?_, hn⟩, hbe.grown hg hbe.size (fun k e => Nat.le_trans hB (hr k e).1)⟩
  cases hv : v.ownBlock with
  | none => exact .inl rfl
  | some k =>
    refine .inr fun e => ?_
    obtain ⟨cs, hcs⟩ := ho.cells_ hv
    exact hne k e.symm _ _ _ hcs
theorem axOwn (x : Plc) (a' : Act) (B : Nat) (F : Nat → Act) : OwnFrom B (fun (_ : Unit) W => ∃ g, a' = F g ∧ Bx W g 75 [.string x.who, .string x.asset]) := by
  rintro _ A A' row ⟨g, e, hb⟩ hg hr
  refine ⟨g, e, hb.grown hg (fun k e e' => ?_)⟩
  obtain ⟨_, o, h1, h2⟩ := hr k e
  rw [e', show A.heap[g]? = _ from hb] at h1
  cases h1
  cases h2
set_option maxRecDepth 100000 in
set_option maxHeartbeats 2000000 in
theorem appendSeqP_any (m : Nat) (hm : 3 ≤ m) (gf : Nat) (lb : Array Value) (w : World) (S : List Plc → Prop) (N : Nat) (hN : N ≤ 100000) (hF : Enters Try.prog gf)
    (hseq : SeqStopsK Fence.wide (m - 1) Try.prog gf lb plcE KeepsWalks S (fun _ => True) N w) :
    CallsIn Fence.wide m Try.prog 96 #[.slice none 0 0, .func (.func gf) #[] lb] w fun e w' => ∃ v ss, e = .returned v ∧ S ss ∧ Own plcT w' w.heap.size v ss ∧ Bel w w' := by
  have h1 : 1 ≤ m := by omega
  refine callsIn_of_wp_marks Try.func96 rfl trivial ?_ rfl
  simp only [Try.ntmps96, List.size_toArray, List.length_cons, List.length_nil, Nat.reduceAdd, Nat.reduceSub, Array.replicate_succ, Array.replicate_zero, List.push_toArray, List.append_toArray, List.nil_append, List.cons_append]
  gi_wp2
  refine wpIn_rangeFunc_ownH rfl h1 (gf := gf) (lb := lb) rfl trivial hF hseq (fun h k => h.trans k) (fun W l o o' _ h _ hw => KeepsWalks.putObj o' h hw) ((Below.refl _ _).alloc (Nat.le_refl _) _) (fun _ => rfl)
    (HoldP w) (fun _ _ _ => False) (holdOwn w _ (by simp)) (fun _ _ _ _ _ hs _ _ => hs)
    ⟨⟨.slice none 0 0, Bx.new w _ _, Own.nil_ _ _ _, fun k e => by cases e⟩, (Below.refl _ _).alloc (Nat.le_refl _) _⟩
    (fun x a' W => ∃ g, a' = { tmps := #[.slice none 0 0, .func (.func gf) #[] lb, .pointer (some ⟨w.heap.size, 0, none⟩), undef, .slice none 0 0, .pointer (some ⟨g, 0, none⟩), .func (.func gf) #[] lb, .agg #[.string x.who, .string x.asset], undef, undef, undef, undef, undef], defers := [] } ∧ Bx W g 75 [.string x.who, .string x.asset])
    (fun x a' => axOwn x a' _ _) ?assign ?body ?done ?stop
  case assign =>
    intro l pre x W K hI hK
    dsimp only [plcE, plcV]
    gi_wp2
    exact hK _ _ ((KeepsOthers.alloc W _).from _) (KeepsWalks.alloc W _) (OwnFrom.alloc (holdOwn w w.heap.size (Nat.le_refl _)) _ hI) ⟨_, rfl, Bx.new W _ _⟩
  case body =>
    rintro l pre x a' W _ _ ⟨⟨v, hb, ho, hn⟩, hB⟩ ⟨g, rfl, hg⟩ hlt
    have hc := hb.cell 0 rfl
    have e0 := hg.cell 0 rfl
    have e1 := hg.cell 1 rfl
    have hBx := hid_ hb
    clear hb hg
    gi_wp2_with (gi_at_builtin; refine wpAppIn (w0 := w) plcS rfl _ _ rfl v pre [x] (some ⟨W.heap.size, 0, none⟩) 1 1 rfl rfl (ho.alloc_ _) (Row.one (T := plcT) x rfl rfl) (Bel.alloc hB _) (by omega) ?_; intro v1 x1 hO1 hb1 hg1 hat1; obtain ⟨X1, d1, rfl, hc1, rr1⟩ := hO1.reads; rw [List.length_append, List.length_singleton] at hO1 hat1; have k2 := hid_ ((hBx.out.alloc _).grown hg1 hn); have e5 := k2.out.cell 0 rfl; have fz := fun j => k2.out.frozen j)
    have kW : KeepsOthers W x1 := (KeepsOthers.alloc W _).trans (KeepsOthers.of_grownBy hg1 (fun j o e ho' => by
      obtain ⟨cs, hcs⟩ := (ho.alloc_ _).cells_ e
      rw [hcs] at ho'
      cases ho'
      rfl))
    have n1 := ownNe hat1 hn (by have := hBx.out.lt; rw [sizeAl]; omega)
    have kp : Below w.heap.size W x1 := ((Below.refl w.heap.size W).alloc hB.size _).grown hg1 (by have := hB.size; rw [sizeAl]; omega) (fun k e => ho.base_ k e)
    have kS := kW.trans (KeepsOthers.setCell x1 ⟨w.heap.size, 0, none⟩ (.slice X1 (pre.length + 1) d1))
    exact ⟨kS.from _, kS.walks, ⟨_, k2.out.set 0 _, hO1.kept_ (grownSet _ _ _ _) (.inr (fun e => n1 _ e rfl)), n1⟩, Bel.setBx hb1 (Nat.le_refl _) _⟩
  case done =>
    rintro D ys W hD hS ⟨⟨v, hb, ho, hn⟩, hB⟩ hK
    have hc := hb.cell 0 rfl
    gi_wp2
    refine ⟨by simp, .inl ⟨_, _, rfl, run_takeDeferred hK, ?_⟩⟩
    have hne : v.ownBlock = none ∨ v.ownBlock ≠ some D := by
      cases hv : v.ownBlock with
      | none => exact .inl rfl
      | some k =>
        refine .inr fun e => ?_
        injection e with e
        subst e
        obtain ⟨cs, hcs⟩ := ho.cells_ hv
        rw [hK] at hcs
        cases hcs
    exact ⟨_, results_tmp rfl _ _ _, v, ys, rfl, hS, ho.kept_ (grownBy_putObj' W D (.deferred none)) hne, hB.trans (belowK_b (w := w) (Nat.le_refl _) W D _ _ (by simp at hD; omega) hK rfl rfl)⟩
  case stop =>
    rintro D c pre W _ _ h _
    exact h.elim
end Go.Proofs.Ytgnninpfhnpjoaa
