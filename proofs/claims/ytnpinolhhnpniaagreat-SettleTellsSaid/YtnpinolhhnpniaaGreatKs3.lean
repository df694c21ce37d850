/- slices.Collect, SortFunc, SortedFunc at places; maps.Keys. -/
import Derived.Test.YtnpinolhhnpniaaGreatTyPl
import Derived.RangeFuncNested
import Derived.RangeFuncBound
import Derived.RangeFuncCalls
import Derived.RangeFuncLeaves
import Derived.RangeFuncSeq
import Derived.Sort.MapsRangeIn
import Derived.Shelf.Abstract
import Derived.Shelf.RegionOpen
import Derived.OwnWalkIn
import Derived.TacticsInMore
import Derived.LoopNIn
import Derived.LoopIn
import Derived.Sort.QuietIn
import Derived.Test.YtnpinolhhnpniaaGreatSo12
import Derived.Test.YtnpinolhhnpniaaGreatShPlc
set_option linter.unusedSimpArgs false
set_option linter.unusedVariables false
namespace Go.Proofs.YtnpinolhhnpniaaGreat
open Go.RowKit Go.Shelf Go.Maps Go.Lib
attribute [local go_sem] Oper.semAt_some
/-- The keys with something behind them, each once. -/
def KeysS (f : Plc → List Int) (ys : List Plc) : Prop := ys.Nodup ∧ (∀ x ∈ ys, plcOk x ∧ f x ≠ []) ∧ ∀ x, plcOk x → f x ≠ [] → x ∈ ys
def plcE (p : Plc) : Array Value := #[plcV p]
set_option maxRecDepth 100000 in
set_option maxHeartbeats 2000000 in
theorem keys1_stops (m : Nat) (hm : 1 ≤ m) (Bm b nn : Nat) (D0 : DataW Value) (f : Plc → List Int) (w : World) (hb : w.cell? ⟨Bm, 0, none⟩ = some (.map (some b))) (hown : w.ownsMap Tryz.prog 56 hvR b nn D0)
    (hhas : ∀ l, Maps.has D0 l = true ↔ ∃ x, plcOk x ∧ l = plcL x ∧ f x ≠ []) :
    SeqStopsK Fence.wide m Tryz.prog 86 #[.pointer (some ⟨Bm, 0, none⟩)] plcE KeepsWalks (KeysS f) (fun _ => True) (Maps.size D0) w := fun l J Jx W hW hJa _ hY h0 => by
  have hb1 : W.cell? ⟨Bm, 0, none⟩ = some (.map (some b)) := Bel.cell_ (w := w) hW hb
  have HH := hid_ hhas
  clear hhas
  have hown1 := hown.kept (grown_of_bel hW none) (by simp)
  refine callsIn_of_wp Tryz.func86 rfl trivial ?_ rfl
  simp only [Tryz.ntmps86, List.size_toArray, List.length_cons, List.length_nil, Nat.reduceAdd, Nat.reduceSub, Array.replicate_succ, Array.replicate_zero, List.push_toArray, List.append_toArray, List.nil_append, List.cons_append]
  gi_wp2_with (first
    | (gi_at_range; refine wpListIn_range_own _ rfl _ 87 rfl 56 66 plcLaw Tryz.underlying87 _ b nn _ rfl hown1 ?_; intro w0 hrg0 hg0 hs0)
    | gi_in)
  go_frame
  gi_loopw [3] (fun _ wr => ∃ (left : Lit → Bool) (cnt : Nat) (ss : List Plc), wr.ranges Tryz.prog 56 hvR b W.heap.size nn D0 left cnt ∧ Hid (∀ l, left l = true ↔ ∃ x, plcOk x ∧ l = plcL x ∧ f x ≠ [] ∧ x ∉ ss) ∧ ss.Nodup ∧ (∀ x ∈ ss, plcOk x ∧ f x ≠ []) ∧ ss.length + cnt ≤ Maps.size D0 ∧ J ss wr)
    (fun _ wr => wr.rangeLeft b W.heap.size)
  case atStart =>
    exact ⟨_, _, [], hrg0, hid_ (fun l => by rw [HH.out l]; simp), List.nodup_nil, by simp, by simp, hJa [] W w0 none h0 hg0 (fun r e => by cases e)⟩
  case round =>
    obtain ⟨left, cnt, ss, hrg, hC, hnd, hss, hcn, hJs⟩ := hrel
    gi_wp2_with (first
      | (gi_at_next; refine wpListIn_next_ranges _ rfl _ rfl 56 plcLaw hvR id id (fun key kl hk => ⟨key, rfl⟩) (fun v _ _ => ⟨v, rfl⟩) b W.heap.size nn _ _ _ rfl hrg ?_ ?_)
      | gi_in)
    · intro hc0 hl0
      gi_wp2
      go_end0
      exact ⟨⟨_, rfl⟩, .inl ⟨ss, ⟨hnd, hss, fun x hx hf => Classical.byContradiction fun hn => by have := (hC.out (plcL x)).2 ⟨x, hx, rfl, hf, hn⟩; rw [hl0] at this; cases this⟩, hJs⟩⟩
    · intro x c kl yd yp w2 cnt2 hkey hlk hv hat hrg2 hlt hg2 hs2 hen
      obtain ⟨p, hp, rfl, hf, hd⟩ := (hC.out kl).1 hlk
      obtain rfl : x = plcV p := plcLaw.inj hkey (plcKey p hp)
      have hJ2 : J ss w2 := hJa ss wr w2 (some W.heap.size) hJs hg2 (fun r e => by cases e; exact ⟨Nat.le_refl _, hrg.iter_walk⟩)
      have hrg4 := hrg2.kept (grown_of_bel ((Bel.refl w2).alloc (.cells #[.string p.who, .string p.asset] 56)) none) (by simp) (by simp)
      have hJ4 := hJa ss w2 _ none hJ2 (grown_of_bel ((Bel.refl w2).alloc (.cells #[.string p.who, .string p.asset] 56)) none) (fun r e => by cases e)
      obtain ⟨fn, tmps, assign, body, hy, hR⟩ := hY ss p _ hJ4 (by omega)
      dsimp only [plcE, plcV] at hy
      clear hs2
      simp only [id, plcV] at hen ⊢
      gi_wp2
      refine hR.mono ?_
      have hC2 : Hid (∀ l, (left l && !l.sameKey (plcL p)) = true ↔ ∃ x, plcOk x ∧ l = plcL x ∧ f x ≠ [] ∧ x ∉ ss ++ [p]) := hid_ (by
        intro l
        simp only [Bool.and_eq_true, Bool.not_eq_true']
        constructor
        · rintro ⟨h1, h2⟩
          obtain ⟨z, hz, rfl, hzf, hzd⟩ := (hC.out l).1 h1
          refine ⟨z, hz, rfl, hzf, ?_⟩
          simp only [List.mem_append, List.mem_singleton, not_or]
          refine ⟨hzd, fun e => ?_⟩
          subst e
          rw [show (plcL z).sameKey (plcL z) = true from WideAt.sameKey_self (plcK.isKey hz)] at h2
          cases h2
        · rintro ⟨z, hz, rfl, hzf, hzd⟩
          simp only [List.mem_append, List.mem_singleton, not_or] at hzd
          refine ⟨(hC.out _).2 ⟨z, hz, rfl, hzf, hzd.1⟩, ?_⟩
          cases hs : (plcL z).sameKey (plcL p)
          · rfl
          · exact absurd (plcK.inj hz hp (WideAt.sameKey_eq hs)) hzd.2)
      have hN2 : (ss ++ [p]).Nodup := by
        rw [List.nodup_append]
        refine ⟨hnd, by simp, fun a ha c hc => ?_⟩
        simp at hc
        subst hc
        intro e
        exact hd (e ▸ ha)
      have hS2 : ∀ x ∈ ss ++ [p], plcOk x ∧ f x ≠ [] := by
        intro z hz
        rcases List.mem_append.1 hz with hz | hz
        · exact hss z hz
        · simp at hz
          subst hz
          exact ⟨hp, hf⟩
      rintro e W3 (⟨rfl, hJ3, hk3⟩ | ⟨rfl, hJx3⟩)
      · gi_wp2
        have hrg3 := hrg4.of_walks hk3
        go_roundw
        case rel => exact ⟨_, cnt2, ss ++ [p], hrg3, hC2, hN2, hS2, by rw [List.length_append]; simp only [List.length_singleton]; omega, hJ3⟩
        case measure => rw [hrg3.left_eq, hrg.left_eq]; exact hlt
      · gi_wp2
        refine bodyPost_ret (results_none rfl _ _ _) rfl ?_
        exact ⟨⟨_, rfl⟩, .inr ⟨_, trivial, hJx3⟩⟩
end Go.Proofs.YtnpinolhhnpniaaGreat
set_option linter.unusedSimpArgs false
set_option linter.unusedVariables false
namespace Go.Proofs.YtnpinolhhnpniaaGreat
open Go.RowKit Go.Shelf Go.Maps Go.Lib
attribute [local go_sem] Oper.semAt_some
section
variable {α : Type} {T : Ty α} {P : Program} {F : Fence} {nF : Nat} {ops : Array Oper} {rest : List Oper} {o : Oper} {a : Act} {Q : Exit → Act → World → Prop}
theorem wpAppIn {t : TypeId} {bytes : Nat} {z : Value} (S : SlT P t T bytes z) {w0 W : World} (hgd : o.guard = none) (s x : Operand)
    (ho : o.op = .call { callee := .builtin .append, args := #[s, x], argTypes := #[t, t] })
    (v : Value) (xs ys : List α) (A : Option Addr) (m c : Nat) (hs : a.eval s = v) (hx : a.eval x = .slice A m c)
    (HO : Own T W w0.heap.size v xs) (HR : Row T W A m ys) (HB : Bel w0 W) (hl : (xs.length + m) * bytes ≤ 140737488355328)
    (h : ∀ v1 w1, Own T w1 w0.heap.size v1 (xs ++ ys) → Bel w0 w1 → W.grownBy w1 v.ownBlock → (v1.ownBlock = v.ownBlock ∨ ∃ b, v1.ownBlock = some b ∧ W.heap.size ≤ b) → wpListIn F nF P ops Q rest (a.put o.dst v1) w1) :
    wpListIn F nF P ops Q (o :: rest) a W := by
  obtain ⟨v1, w1, hr, h1, h2, h3, h4⟩ := run_app (ty := o.type) S v xs ys A m c HO HR HB hl
  refine wpListIn_plain hgd fun K hK => ?_
  unfold Oper.wpIn
  refine ⟨by simp [Oper.about, ho, resolve, Target.leads, Sem.run_pure], ?_⟩
  rw [Oper.semAt_plain F _ _ (by rw [ho]; intro c hc'; cases hc')]
  simp [execOp, ho, resolve, invoke, builtin, hs, hx, hr, Result.andThen]
  exact hK _ _ (h v1 w1 h1 h2 h3 h4)
theorem Own.cells_ {w : World} {base : Nat} {v : Value} {xs : List α} (h : Own T w base v xs) {k : Nat} (hk : v.ownBlock = some k) : ∃ cs, w.heap[k]? = some (.cells cs T.e (0, 0)) := by
  rcases h.2 with ⟨rfl, _⟩ | ⟨g, cap, cur, rfl, _, hh, _⟩
  · cases hk
  · cases hk
    exact ⟨_, hh⟩
end
theorem Bx.grown {W w1 : World} {g : Nat} {t : TypeId} {vs : List Value} {row : Option Nat} (h : Bx W g t vs) (hg : W.grownBy w1 row) (hne : ∀ k, row = some k → k ≠ g) : Bx w1 g t vs :=
  (hg.block g h.lt (fun e => hne g e.symm rfl)).trans h
theorem ownNe {W : World} {v v1 : Value} {g : Nat} (h : v1.ownBlock = v.ownBlock ∨ ∃ b, v1.ownBlock = some b ∧ W.heap.size ≤ b) (hv : ∀ k, v.ownBlock = some k → k ≠ g) (hg : g < W.heap.size) : ∀ k, v1.ownBlock = some k → k ≠ g := by
  rcases h with h | ⟨b, h, hb⟩
  · rw [h]; exact hv
  · intro k hk
    rw [h] at hk
    cases hk
    omega
def HoldP (w : World) (pre : List Plc) (W : World) : Prop := (∃ v, Bx W w.heap.size 88 [v] ∧ Own plcT W w.heap.size v pre ∧ (∀ k, v.ownBlock = some k → k ≠ w.heap.size)) ∧ Below w.heap.size w W
theorem holdOwn (w : World) (B : Nat) (hB : w.heap.size ≤ B) : OwnFrom B (HoldP w) := by
  rintro s A A' row ⟨⟨v, hb, ho, hn⟩, hbe⟩ hg hr
  have hne : ∀ k, row = some k → ∀ cs t f, A.heap[k]? ≠ some (.cells cs t f) := by
    intro k e cs t f e'
    obtain ⟨_, o, h1, h2⟩ := hr k e
    rw [e'] at h1
    cases h1
    cases h2
  refine ⟨⟨v, hb.grown hg (fun k e e' => hne k e _ _ _ (e' ▸ hb)), ho.kept_ hg ?_, hn⟩, hbe.grown hg hbe.size (fun k e => Nat.le_trans hB (hr k e).1)⟩
  cases hv : v.ownBlock with
  | none => exact .inl rfl
  | some k =>
    refine .inr fun e => ?_
    obtain ⟨cs, hcs⟩ := ho.cells_ hv
    exact hne k e.symm _ _ _ hcs
theorem axOwn (x : Plc) (a' : Act) (B : Nat) (F : Nat → Act) : OwnFrom B (fun (_ : Unit) W => ∃ g, a' = F g ∧ Bx W g 56 [.string x.who, .string x.asset]) := by
  rintro _ A A' row ⟨g, e, hb⟩ hg hr
  refine ⟨g, e, hb.grown hg (fun k e e' => ?_)⟩
  obtain ⟨_, o, h1, h2⟩ := hr k e
  rw [e', show A.heap[g]? = _ from hb] at h1
  cases h1
  cases h2
set_option maxRecDepth 100000 in
set_option maxHeartbeats 2000000 in
theorem appendSeqP_any (m : Nat) (hm : 3 ≤ m) (gf : Nat) (lb : Array Value) (w : World) (S : List Plc → Prop) (N : Nat) (hN : N ≤ 100000) (hF : Enters Tryz.prog gf)
    (hseq : SeqStopsK Fence.wide (m - 1) Tryz.prog gf lb plcE KeepsWalks S (fun _ => True) N w) :
    CallsIn Fence.wide m Tryz.prog 97 #[.slice none 0 0, .func (.func gf) #[] lb] w fun e w' => ∃ v ss, e = .returned v ∧ S ss ∧ Own plcT w' w.heap.size v ss ∧ Bel w w' := by
  have h1 : 1 ≤ m := by omega
  refine callsIn_of_wp_marks Tryz.func97 rfl trivial ?_ rfl
  simp only [Tryz.ntmps97, List.size_toArray, List.length_cons, List.length_nil, Nat.reduceAdd, Nat.reduceSub, Array.replicate_succ, Array.replicate_zero, List.push_toArray, List.append_toArray, List.nil_append, List.cons_append]
  gi_wp2
  refine wpIn_rangeFunc_ownH rfl h1 (gf := gf) (lb := lb) rfl trivial hF hseq (fun h k => h.trans k) (fun W l o o' _ h _ hw => KeepsWalks.putObj o' h hw) ((Below.refl _ _).alloc (Nat.le_refl _) _) (fun _ => rfl)
    (HoldP w) (fun _ _ _ => False) (holdOwn w _ (by simp)) (fun _ _ _ _ _ hs _ _ => hs)
    ⟨⟨.slice none 0 0, Bx.new w _ _, Own.nil_ _ _ _, fun k e => by cases e⟩, (Below.refl _ _).alloc (Nat.le_refl _) _⟩
    (fun x a' W => ∃ g, a' = { tmps := #[.slice none 0 0, .func (.func gf) #[] lb, .pointer (some ⟨w.heap.size, 0, none⟩), undef, .slice none 0 0, .pointer (some ⟨g, 0, none⟩), .func (.func gf) #[] lb, .agg #[.string x.who, .string x.asset], undef, undef, undef, undef, undef], defers := [] } ∧ Bx W g 56 [.string x.who, .string x.asset])
    (fun x a' => axOwn x a' _ _) ?assign ?body ?done ?stop
  case assign =>
    intro l pre x W K hI hK
    dsimp only [plcE, plcV]
    gi_wp2
    exact hK _ _ ((KeepsOthers.alloc W _).from _) (KeepsWalks.alloc W _) (OwnFrom.alloc (holdOwn w w.heap.size (Nat.le_refl _)) _ hI) ⟨_, rfl, Bx.new W _ _⟩
  case body =>
    rintro l pre x a' W _ _ ⟨⟨v, hb, ho, hn⟩, hB⟩ ⟨g, rfl, hg⟩ hlt
    have hc := hb.cell 0 rfl
    have e0 := hg.cell 0 rfl
    have e1 := hg.cell 1 rfl
    have hBx := hid_ hb
    clear hb hg
    gi_wp2_with (gi_at_builtin; refine wpAppIn (w0 := w) plcS rfl _ _ rfl v pre [x] (some ⟨W.heap.size, 0, none⟩) 1 1 rfl rfl (ho.alloc_ _) (Row.one (T := plcT) x rfl rfl) (Bel.alloc hB _) (by omega) ?_; intro v1 x1 hO1 hb1 hg1 hat1; obtain ⟨X1, d1, rfl, hc1, rr1⟩ := hO1.reads; rw [List.length_append, List.length_singleton] at hO1 hat1; have k2 := hid_ ((hBx.out.alloc _).grown hg1 hn); have e5 := k2.out.cell 0 rfl; have fz := fun j => k2.out.frozen j)
    have kW : KeepsOthers W x1 := (KeepsOthers.alloc W _).trans (KeepsOthers.of_grownBy hg1 (fun j o e ho' => by
      obtain ⟨cs, hcs⟩ := (ho.alloc_ _).cells_ e
      rw [hcs] at ho'
      cases ho'
      rfl))
    have n1 := ownNe hat1 hn (by have := hBx.out.lt; rw [sizeAl]; omega)
    have kp : Below w.heap.size W x1 := ((Below.refl w.heap.size W).alloc hB.size _).grown hg1 (by have := hB.size; rw [sizeAl]; omega) (fun k e => ho.base_ k e)
    have kS := kW.trans (KeepsOthers.setCell x1 ⟨w.heap.size, 0, none⟩ (.slice X1 (pre.length + 1) d1))
    exact ⟨kS.from _, kS.walks, ⟨_, k2.out.set 0 _, hO1.kept_ (grownSet _ _ _ _) (.inr (fun e => n1 _ e rfl)), n1⟩, Bel.setBx hb1 (Nat.le_refl _) _⟩
  case done =>
    rintro D ys W hD hS ⟨⟨v, hb, ho, hn⟩, hB⟩ hK
    have hc := hb.cell 0 rfl
    gi_wp2
    refine ⟨by simp, .inl ⟨_, _, rfl, run_takeDeferred hK, ?_⟩⟩
    have hne : v.ownBlock = none ∨ v.ownBlock ≠ some D := by
      cases hv : v.ownBlock with
      | none => exact .inl rfl
      | some k =>
        refine .inr fun e => ?_
        injection e with e
        subst e
        obtain ⟨cs, hcs⟩ := ho.cells_ hv
        rw [hK] at hcs
        cases hcs
    exact ⟨_, results_tmp rfl _ _ _, v, ys, rfl, hS, ho.kept_ (grownBy_putObj' W D (.deferred none)) hne, hB.trans (belowK_b (w := w) (Nat.le_refl _) W D _ _ (by simp at hD; omega) hK rfl rfl)⟩
  case stop =>
    rintro D c pre W _ _ h _
    exact h.elim
end Go.Proofs.YtnpinolhhnpniaaGreat
set_option linter.unusedSimpArgs false
set_option linter.unusedVariables false
namespace Go.Proofs.YtnpinolhhnpniaaGreat
open Go.RowKit Go.Shelf Go.Maps Go.Lib Go.Sort
instance : Inhabited Plc := ⟨⟨⟨#[]⟩, ⟨#[]⟩⟩⟩
theorem lt_cmpP (x y : Plc) : ltOf cmpP x y = ltP x y := by
  unfold ltOf
  cases h : ltP x y
  · exact decide_eq_false (fun e => by rw [cmpP_neg.1 e] at h; cases h)
  · exact decide_eq_true (cmpP_neg.2 h)
theorem swoP : SWO (ltOf cmpP) := by
  refine ⟨fun x => by rw [lt_cmpP, ltP_irr], fun x y z h1 h2 => ?_, fun x y z h1 h2 => ?_⟩
  · rw [lt_cmpP] at *
    exact ltP_trans h1 h2
  · rw [lt_cmpP] at *
    cases h : ltP x z
    · rfl
    · exfalso
      by_cases e : x = y
      · subst e; rw [h2] at h; cases h
      · rcases ltP_tot e with k | k
        · rw [h1] at k; cases k
        · have := ltP_trans k h
          rw [h2] at this; cases this
theorem sorted_up {d d' : Array Plc} (hn : d.toList.Nodup) (hP : PermIn 0 d.size d d') (hS : SortedIn (ltOf cmpP) 0 d.size d') : Up d'.toList ∧ ∀ p, p ∈ d'.toList ↔ p ∈ d.toList := by
  obtain ⟨hsz, _, hperm⟩ := hP
  have e1 : d'.extract 0 d.size = d' := by rw [← hsz]; exact Array.extract_size
  rw [e1, Array.extract_size] at hperm
  refine ⟨?_, fun p => hperm.mem_iff⟩
  have hn' : d'.toList.Nodup := hperm.nodup_iff.2 hn
  unfold Up
  rw [List.pairwise_iff_getElem]
  intro i j hi hj hij
  have hi' : i < d'.size := by simpa using hi
  have hj' : j < d'.size := by simpa using hj
  have := hS i j (Nat.zero_le _) hij (by omega)
  rw [getElem!_pos d' j hj', getElem!_pos d' i hi', lt_cmpP] at this
  have hne : d'.toList[i] ≠ d'.toList[j] := (List.pairwise_iff_getElem.1 hn') i j hi hj hij
  rcases ltP_tot hne with k | k
  · exact k
  · simp only [Array.getElem_toList] at k
    rw [this] at k; cases k
set_option maxRecDepth 10000 in
set_option maxHeartbeats 1000000 in
theorem sortP_any (base g cap : Nat) (cur : Array Value) (xs : List Plc) (w : World) (hbase : base ≤ g) (hb : w.heap[g]? = some (.cells cur plcT.e (0, 0))) (h1 : xs.length ≤ cap) (h2 : cap ≤ maxLen) (h3 : cur.size = cap * plcT.sz) (ht : cur.toList.take (xs.length * plcT.sz) = xs.flatMap plcT.enc) (hn : xs.Nodup) (hl : xs.length ≤ 100000) :
    Calls Tryz.prog 85 #[.slice (some ⟨g, 0, none⟩) xs.length cap, .func (.func 33) #[] #[]] w fun e w' => e = .returned (.tuple #[]) ∧ ∃ ys, ys.length = xs.length ∧ Up ys ∧ (∀ p, p ∈ ys ↔ p ∈ xs) ∧ Own plcT w' base (.slice (some ⟨g, 0, none⟩) xs.length cap) ys ∧ w.grownBy w' (some g) := by
  have hH : HoldsK plcT.enc plcT.sz w g 0 xs.toArray := own_holds hb ht
  have hg : g < w.heap.size := (Array.getElem?_eq_some_iff.1 hb).1
  have hz : xs.toArray.size = xs.length := by simp
  have := AnyQ.slices_SortFunc Tryz.plcSort plcT.sz (fun w => Tryz.isAgg56 w) (fun w => Tryz.sizeOf56 w) plcT.enc plcT.len plcT.one cmpP swoP 33 #[] g 0 cap xs.toArray w (enters_of Tryz.func33 (by kernel_rfl) rfl)
    (fun m os dk _ x y => order_grow x.who x.asset y.who y.asset _) hH hg (by simp; omega)
  rw [hz] at this
  refine this.mono ?_
  rintro e w' ⟨rfl, d', n, os, hP, hS, rfl⟩
  rw [← hz] at hP hS
  obtain ⟨hU, hM⟩ := sorted_up (d := xs.toArray) (by simpa using hn) hP hS
  obtain ⟨ho, hgr⟩ := own_sorted (T := plcT) (W := w) (base := base) (g := g) (cap := cap) (cur := cur) (n := xs.length) (d := d') ⟨n, os, rfl⟩ (by have := hP.1; simpa using this) hbase hb h1 h2 h3
  exact ⟨rfl, d'.toList, by have := hP.1; simpa using this, hU, fun p => by rw [hM p], ho, hgr⟩
set_option maxRecDepth 10000 in
set_option maxHeartbeats 2000000 in
theorem collectP_any (gf : Nat) (lb : Array Value) (w : World) (S : List Plc → Prop) (N : Nat) (hN : N ≤ 100000) (hF : Enters Tryz.prog gf)
    (hseq : SeqStopsK Fence.wide 2 Tryz.prog gf lb plcE KeepsWalks S (fun _ => True) N w) :
    Calls Tryz.prog 84 #[.func (.func gf) #[] lb] w fun e w' => ∃ v ss, e = .returned v ∧ S ss ∧ Own plcT w' w.heap.size v ss ∧ Bel w w' := by
  go_enter Tryz.func84, Tryz.ntmps84
  go_wp2_with fail
  refine (callsIn_wide.1 (appendSeqP_any 3 (by omega) gf lb w S N hN hF hseq)).mono ?_
  rintro e w' ⟨v, ss, rfl, hS, ho, hb⟩
  have HS := hid_ hS
  have HO := hid_ ho
  have HB := hid_ hb
  clear hS ho hb
  go_wp2
  go_ret
  exact ⟨_, ss, rfl, HS.out, HO.out, HB.out⟩
set_option maxRecDepth 10000 in
set_option maxHeartbeats 2000000 in
theorem keysP_any (b : Nat) (w : World) :
    Calls Tryz.prog 66 #[.map (some b)] w fun e w' => e = .returned (.func (.func 86) #[] #[.pointer (some ⟨w.heap.size, 0, none⟩)]) ∧ w' = w.alloc (.cells #[.map (some b)] 87) := by
  have hmf : ∀ (fn : Fn) (first cap : Array Value) (w : World), (Instr.makeFunc fn first cap).run Tryz.prog w = .ok (.func fn first cap) w := fun _ _ _ _ => rfl
  go_enter Tryz.func66, Tryz.ntmps66
  go_wp2
  go_ret
  exact ⟨rfl, rfl⟩
theorem own_open {w : World} {base : Nat} {v : Value} {xs : List Plc} (h : Own plcT w base v xs) (hn : xs ≠ []) : ∃ g cap cur, v = .slice (some ⟨g, 0, none⟩) xs.length cap ∧ base ≤ g ∧ w.heap[g]? = some (.cells cur plcT.e (0, 0)) ∧ xs.length ≤ cap ∧ cap ≤ maxLen ∧ cur.size = cap * plcT.sz ∧ cur.toList.take (xs.length * plcT.sz) = xs.flatMap plcT.enc := by
  rcases h.2 with ⟨_, h0⟩ | ⟨g, cap, cur, h1, h2, h3, h4, h5, h6, h7⟩
  · exact absurd (List.eq_nil_of_length_eq_zero h0) hn
  · exact ⟨g, cap, cur, h1, h2, h3, h4, h5, h6, h7⟩
set_option maxRecDepth 10000 in
set_option maxHeartbeats 2000000 in
theorem sortedP_any (Bm b nn : Nat) (D0 : DataW Value) (f : Plc → List Int) (P : List Plc) (w : World) (hb : w.cell? ⟨Bm, 0, none⟩ = some (.map (some b))) (hown : w.ownsMap Tryz.prog 56 hvR b nn D0)
    (hhas : ∀ l, Maps.has D0 l = true ↔ ∃ x, plcOk x ∧ l = plcL x ∧ f x ≠ []) (hsz : Maps.size D0 ≤ 100000) (hP : Up P) (hm : ∀ x, x ∈ P ↔ plcOk x ∧ f x ≠ []) (hne : P ≠ []) (hpl : P.length ≤ 100000) :
    Calls Tryz.prog 65 #[.func (.func 86) #[] #[.pointer (some ⟨Bm, 0, none⟩)], .func (.func 33) #[] #[]] w fun e w' => ∃ v, e = .returned v ∧ Own plcT w' w.heap.size v P ∧ Bel w w' := by
  have HST := hid_ (keys1_stops 2 (by omega) Bm b nn D0 f w hb hown hhas)
  have HP := hid_ hP
  have HM := hid_ hm
  have HNE := hid_ hne
  clear hb hown hhas hP hm hne
  go_enter Tryz.func65, Tryz.ntmps65
  go_wp2_with fail
  refine (collectP_any _ _ w _ _ hsz (enters_of Tryz.func86 (by kernel_rfl) rfl) HST.out).mono ?_
  rintro e w1 ⟨v, ss, rfl, ⟨hnd, hS1, hS2⟩, ho, hb1⟩
  have hmem : ∀ x, x ∈ ss ↔ x ∈ P := fun x => ⟨fun h => (HM.out x).2 (hS1 x h), fun h => hS2 x ((HM.out x).1 h).1 ((HM.out x).1 h).2⟩
  have hssne : ss ≠ [] := by
    intro e
    obtain ⟨x, hx⟩ := List.exists_mem_of_ne_nil _ HNE.out
    have := (hmem x).2 hx
    rw [e] at this
    cases this
  have hlen : ss.length = P.length := by
    have h1 : ss.Perm P := (List.perm_ext_iff_of_nodup hnd (HP.out.imp (fun h => ltP_ne h))).2 hmem
    exact h1.length_eq
  obtain ⟨g, cap, cur, rfl, c1, c2, c3, c4, c5, c6⟩ := own_open ho hssne
  have HB := hid_ hb1
  have HC := hid_ (And.intro hmem (And.intro hlen (And.intro c1 (And.intro c2 (And.intro c3 (And.intro c4 (And.intro c5 (And.intro c6 hnd))))))))
  clear ho hb1 hnd hS1 hS2 hmem hlen c1 c2 c3 c4 c5 c6 HST hssne
  go_wp2_with fail
  refine (sortP_any w.heap.size g cap cur ss w1 HC.out.2.2.1 HC.out.2.2.2.1 HC.out.2.2.2.2.1 HC.out.2.2.2.2.2.1 HC.out.2.2.2.2.2.2.1 HC.out.2.2.2.2.2.2.2.1 HC.out.2.2.2.2.2.2.2.2 (by have := HC.out.2.1; omega)).mono ?_
  rintro e w2 ⟨rfl, ys, hl, hU, hy, hO, hg⟩
  have HY : Hid (ys = P) := hid_ (up_ext hU HP.out (fun p => (hy p).trans (HC.out.1 p)))
  have HO := hid_ hO
  have HB2 : Hid (Bel w w2) := hid_ (Below.grown HB.out hg HB.out.size (fun k e => by cases e; exact HC.out.2.2.1))
  clear hl hU hy hO hg HC HB
  go_wp2
  go_ret
  exact ⟨_, rfl, by rw [← HY.out]; exact HO.out, HB2.out⟩
end Go.Proofs.YtnpinolhhnpniaaGreat
