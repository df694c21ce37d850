/- order.is, the closures of Put; slices.IndexFunc, ContainsFunc at orders, with whatever closure that has captured one variable. -/
import Derived.Test.YtoachnhdedpbdaaTyOrd
import Derived.Test.YtoachnhdedpbdaaBox
import Derived.Lib.AppendZerosOnto
import Derived.Test.YtoachnhdedpbdaaNv15
set_option linter.unusedSimpArgs false
set_option linter.unusedVariables false
namespace Go.Proofs.Ytoachnhdedpbdaa
open Go.RowKit Go.Lib
set_option maxRecDepth 10000 in
set_option maxHeartbeats 1000000 in
theorem growO_nil (n : Nat) (w : World) (hn : n ≤ 100000) :
    Calls Try.prog 75 #[.slice none 0 0, .int .i64 n] w fun e w' => ∃ v, e = .returned v ∧ Own ordT w' w.heap.size v [] ∧ Bel w w' := by
  have h1 : ¬ ((n : Int) < 0) := by omega
  have hw0 : wrap64 (n : Int) = n := IntWalk.wrap64_in _ (by omega)
  rcases Nat.eq_zero_or_pos n with h0 | h0
  · subst h0
    clear hw0 h1
    go_enter Try.func75, Try.ntmps75
    go_wp2
    go_ret
    exact ⟨_, rfl, Own.nil_ _ _ _, Bel.refl _⟩
  · obtain ⟨i0, hi, hzz⟩ := Option.map_eq_some_iff.1 ordS.info
    simp only [Prod.mk.injEq] at hzz
    obtain ⟨hz0, hz1, hz2⟩ := hzz
    have hs1 : i0.size = 6 := hz1
    have hold : (Builtin.firstCells i0.size 0 (.slice none 0 0)).run Try.prog w.drew = .ok ([] : List Value).toArray w.drew := run_firstCells_none w.drew i0.size 0 0 0
    have hrz0 : ∀ ty, (Builtin.append_ #[22, 3] ty #[.slice none 0 0, .int .i64 n]).run Try.prog w =
        .ok (.slice (some ⟨w.heap.size, 0, none⟩) (0 + n) (grownCap w (0 + n) 0 30)) (w.drew.alloc (.cells (([] : List Value).toArray ++ Builtin.zeroCells ordZ.cells n ++ Builtin.zeroCells ordZ.cells (grownCap w (0 + n) 0 30 - (0 + n))) 30)) := fun ty =>
      Lib.run_append_grow_zeros w 22 3 ty 30 i0 ordZ .i64 .i64 ordS.ut Try.underlying3 hi hz0 none 0 0 [] hold n h0 (by omega) (by omega) (by omega) (by rw [hz2]; omega) (by rw [hz2]; exact growslice_fits (by omega) (by omega))
    have hG1 : 0 + n ≤ grownCap w (0 + n) 0 30 := grownCap_ge w _ _ _
    have hG2 := grownCap_le_maxLen w (0 + n) 0 30 (by unfold maxLen; omega)
    have hcs : (([] : List Value).toArray ++ Builtin.zeroCells ordZ.cells n ++ Builtin.zeroCells ordZ.cells (grownCap w (0 + n) 0 30 - (0 + n))).size = grownCap w (0 + n) 0 30 * 6 := by
      simp only [Array.size_append, size_zeroCells]
      rw [show ordZ.cells.size = 6 from rfl, show (([] : List Value).toArray).size = 0 from rfl]
      omega
    obtain ⟨cs, hcs0⟩ : ∃ cs, ([] : List Value).toArray ++ Builtin.zeroCells ordZ.cells n ++ Builtin.zeroCells ordZ.cells (grownCap w (0 + n) 0 30 - (0 + n)) = cs := ⟨_, rfl⟩
    rw [hcs0] at hcs
    simp only [hcs0] at hrz0
    have HO : Hid (Own ordT (w.alloc (.cells cs 30)).drew w.heap.size (.slice (some ⟨w.heap.size, 0, none⟩) 0 (grownCap w (0 + n) 0 30)) []) :=
      ⟨rfl, .inr ⟨w.heap.size, _, cs, rfl, Nat.le_refl _, heap_alloc_new w _, Nat.zero_le _, hG2, hcs, by simp⟩⟩
    clear hold hcs hcs0
    generalize grownCap w (0 + n) 0 30 = G at *
    have hm : maxLen = 9223372036854775807 := by decide
    rw [hm] at hG2
    simp only [Nat.zero_add] at hrz0 hG1
    have h2 : (0 : Int) < (n : Int) := by omega
    clear hi hz0 hz1 hz2 hs1 hm
    go_enter Try.func75, Try.ntmps75
    go_wp2_with (at_builtin; refine Lib.wpList_append_run _ rfl _ _ _ _ rfl _ _ rfl rfl _ _ (hrz0 _) ?_)
    all_goals go_ret
    all_goals exact ⟨_, rfl, HO.out, ((Bel.refl _).alloc _).drew⟩

/-- A slice of slices: its elements. -/
abbrev OV := Option Addr × Nat × Nat
def ovT : Ty OV where
  e := 22
  sz := 1
  enc := fun s => [.slice s.1 s.2.1 s.2.2]
  pos := by decide
  len := fun _ => rfl
  one := fun x u hu => by simp at hu; subst hu; rfl
theorem ovS : SlT Try.prog 110 ovT 24 (.slice none 0 0) where
  ut := by kernel_rfl
  info := by kernel_rfl
  zs := rfl
  by0 := by decide
theorem Row.ov {w : World} {A : Option Addr} {n : Nat} {l : List OV} (h : Row ovT w A n l) {k : Nat} (hk : k < n) :
    ∃ ad X m c, A = some ad ∧ l[k]? = some (X, m, c) ∧ w.cell? (ad.add k) = some (.slice X m c) := by
  obtain ⟨ad, x, e, ho, h0, _⟩ := h.at_ hk
  refine ⟨ad, x.1, x.2.1, x.2.2, e, ho, ?_⟩
  have := h0 _ rfl
  rwa [show k * ovT.sz = k from Nat.mul_one k] at this
/-- The slices' own elements. -/
def RowsO (w : World) (ss : List OV) (xs : List (List Ord)) : Prop := ss.length = xs.length ∧ ∀ (k : Nat) (s : OV) (x : List Ord), ss[k]? = some s → xs[k]? = some x → Row ordT w s.1 s.2.1 x
theorem RowsO.bel {w w1 : World} {ss : List OV} {xs : List (List Ord)} (h : RowsO w ss xs) (hb : Bel w w1) : RowsO w1 ss xs := ⟨h.1, fun k s x h1 h2 => (h.2 k s x h1 h2).bel hb⟩
theorem RowsO.at {w : World} {ss : List OV} {xs : List (List Ord)} (h : RowsO w ss xs) {k : Nat} {s : OV} (hs : ss[k]? = some s) : ∃ x, xs[k]? = some x ∧ Row ordT w s.1 s.2.1 x := by
  have hk := (List.getElem?_eq_some_iff.1 hs).1
  rw [h.1] at hk
  exact ⟨xs[k], List.getElem?_eq_getElem hk, h.2 k s _ hs (List.getElem?_eq_getElem hk)⟩
theorem flat_takeO (xs : List (List Ord)) (k : Nat) {x : List Ord} (h : xs[k]? = some x) : (xs.take (k + 1)).flatten = (xs.take k).flatten ++ x := by
  rw [List.take_add_one, h]
  simp
theorem flat_leO (xs : List (List Ord)) (k : Nat) : (xs.take k).flatten.length ≤ xs.flatten.length := by
  conv => rhs; rw [← List.take_append_drop k xs, List.flatten_append, List.length_append]
  omega
set_option maxRecDepth 10000 in
set_option maxHeartbeats 100000 in
theorem concatO_any (A : Option Addr) (n c : Nat) (ss : List OV) (xs : List (List Ord)) (w : World) (h1 : Row ovT w A n ss) (h2 : RowsO w ss xs) (hs : xs.flatten.length ≤ 100000) :
    Calls Try.prog 35 #[.slice A n c] w fun e w' => ∃ v, e = .returned v ∧ Own ordT w' w.heap.size v xs.flatten ∧ Bel w w' := by
  have hn := h1.2.1
  have HL : Hid (∀ k, (xs.take k).flatten.length ≤ 100000) := fun k => Nat.le_trans (flat_leO xs k) hs
  clear hs
  go_enter Try.func35, Try.ntmps35
  go_wp2
  go_loop [3, 5, 11] (fun s _ i => ∃ k : Nat, k ≤ n ∧ i = .int .i64 k ∧ s = .int .i64 ((xs.take k).flatten.length : Nat)) (fun _ _ i => n - (intOf i).toNat)
  case atStart => exact ⟨0, by omega, rfl, rfl⟩
  case round =>
    obtain ⟨k, hk, rfl, rfl⟩ := hrel
    by_cases hkn : k < n
    · obtain ⟨ad, X, m, cc, rfl, ho, d0⟩ := h1.ov hkn
      obtain ⟨x, hx, hr⟩ := h2.at ho
      have hm : x.length = m := hr.1
      have hf := flat_takeO xs k hx
      have hl1 := HL.out (k + 1)
      have hl0 := HL.out k
      rw [hf, List.length_append, hm] at hl1
      have hw : wrap64 ((((xs.take k).flatten.length : Nat) : Int) + (m : Int)) = (((xs.take k).flatten.length + m : Nat) : Int) := by rw [IntWalk.wrap64_in _ (by omega)]; omega
      have hlen : (xs.take (k + 1)).flatten.length = (xs.take k).flatten.length + m := by rw [hf, List.length_append, hm]
      have HF := hid_ hlen
      generalize (xs.take k).flatten.length = q at *
      have hneg : ¬ ((q : Int) + (m : Int) < 0) := by omega
      clear hf hr hx ho hm hlen hl0
      go_wp2
      case roundEnd =>
        go_round
        case rel => exact ⟨k + 1, by omega, by go_num, by rw [HF.out]; rfl⟩
        case measure => simp [intOf]; omega
    · have : k = n := by omega
      subst this
      have hlk := HL.out k
      generalize (xs.take k).flatten.length = q at hlk ⊢
      go_wp2_with fail
      refine (growO_nil q _ hlk).mono ?_
      rintro e w1 ⟨v0, rfl, o, b⟩
      clear hlk
      go_wp2_with fail
      go_loopw [6, 8, 27] (fun v _ i wr => ∃ j : Nat, j ≤ k ∧ i = .int .i64 j ∧ Own ordT wr w.heap.size v (xs.take j).flatten ∧ Bel w wr) (fun _ _ i _ => k - (intOf i).toNat)
      case atStart => exact ⟨0, by omega, rfl, o, b⟩
      case round =>
        obtain ⟨j, hj, rfl, hO, hbr⟩ := hrel
        by_cases hjn : j < k
        · obtain ⟨ad, X, m, cc, rfl, ho, d0⟩ := (h1.bel hbr).ov hjn
          obtain ⟨x, hx, hr⟩ := (h2.bel hbr).at ho
          have hm : x.length = m := hr.1
          have hf := flat_takeO xs j hx
          have hl1 := HL.out (j + 1)
          rw [hf, List.length_append, hm] at hl1
          have HF := hid_ hf
          have HL1 := hid_ hl1
          have HO := hid_ hO
          have HR := hid_ hr
          clear hf hl1 hx ho hm h1 hO hr o b
          go_wp2_with (at_builtin; refine wpApp (w0 := w) ordS rfl _ _ rfl _ (xs.take j).flatten x X m cc rfl rfl HO.out HR.out hbr (by have := HL1.out; omega) ?_; intro v1 x1 hO1 hb1 _ _)
          case roundEnd =>
            go_roundw
            case rel => exact ⟨j + 1, by omega, by go_num, by rw [HF.out]; exact hO1, hb1⟩
            case measure => simp [intOf]; omega
        · have hjk : j = k := by omega
          clear hj hjn
          subst hjk
          have hfull : xs.take j = xs := by rw [← h1.1, h2.1, List.take_length]
          rw [hfull] at hO
          have HO := hid_ hO
          clear hO hfull o b h1 h2 HL
          go_wp2
          go_ret
          exact ⟨_, rfl, HO.out, hbr⟩
end Go.Proofs.Ytoachnhdedpbdaa
set_option linter.unusedSimpArgs false
set_option linter.unusedVariables false
namespace Go.Proofs.Ytoachnhdedpbdaa
open Go.RowKit Go.Lib
def idxI (p : Ord → Bool) (l : List Ord) : Int := match l.findIdx? p with | some k => (k : Int) | none => -1
theorem idxI_hit {p : Ord → Bool} {l : List Ord} {j : Nat} {o : Ord} (h : l[j]? = some o) (hp : p o = true) (hi : ∀ (i : Nat) (x : Ord), i < j → l[i]? = some x → p x = false) : l.findIdx? p = some j := by
  have hj := (List.getElem?_eq_some_iff.1 h).1
  refine List.findIdx?_eq_some_iff_getElem.2 ⟨hj, ?_, fun i hij => ?_⟩
  · rw [(List.getElem?_eq_some_iff.1 h).2]; exact hp
  · have := hi i l[i] hij (List.getElem?_eq_getElem (by omega))
    simp [this]
theorem idxI_no {p : Ord → Bool} {l : List Ord} (hi : ∀ (i : Nat) (x : Ord), l[i]? = some x → p x = false) : l.findIdx? p = none := by
  refine List.findIdx?_eq_none_iff.2 fun x hx => ?_
  obtain ⟨i, hlt, rfl⟩ := List.getElem_of_mem hx
  exact hi i _ (List.getElem?_eq_getElem hlt)
theorem atN_find (n : Int) : ∀ l : List Ord, atN l n = l.findIdx? (fun o => o.number == n)
  | [] => rfl
  | o :: l => by
    rw [atN, List.findIdx?_cons, atN_find n l]
theorem ordEta (o : Ord) : o = ⟨o.number, o.who, o.market, o.buy, o.price, o.left⟩ := rfl
set_option maxRecDepth 10000 in
set_option maxHeartbeats 1000000 in
theorem indexP_any (p : Ord → Bool) (gc : Nat) (cap : Value) (eg : ∀ args w, (callFunc gc args).run Try.prog w = .ok (.enter gc args) w) (A : Option Addr) (n c : Nat) (l : List Ord) (w : World) (hA : Row ordT w A n l)
    (hp : ∀ (o0 : Int) (o1 o2 : ByteArray) (o3 : Bool) (o4 o5 : Int) (w' : World), Bel w w' → Calls Try.prog gc #[.agg #[.int .u64 o0, .string o1, .string o2, .bool o3, .int .i64 o4, .int .i64 o5], cap] w' fun e w'' => e = .returned (.bool (p ⟨o0, o1, o2, o3, o4, o5⟩)) ∧ Bel w' w'') :
    Calls Try.prog 33 #[.slice A n c, .func (.func gc) #[] #[cap]] w fun e w' => e = .returned (.int .i64 (idxI p l)) ∧ Bel w w' := by
  have hn := hA.2.1
  have HL := hid_ hA.1
  have HA := hid_ hA
  have HP := hid_ hp
  obtain ⟨r, hr⟩ : ∃ r, idxI p l = r := ⟨_, rfl⟩
  rw [hr]
  have HR := hid_ hr
  clear hA hp hr
  go_enter Try.func33, Try.ntmps33
  go_wp2_with fail
  go_loopw [5, 8] (fun _ i wr => ∃ j : Nat, j ≤ n ∧ i = .int .i64 j ∧ Hid (∀ (i : Nat) (x : Ord), i < j → l[i]? = some x → p x = false) ∧ Bel w wr) (fun _ i _ => n - (intOf i).toNat)
  case atStart => exact ⟨0, Nat.zero_le _, rfl, hid_ (fun i x h => absurd h (by omega)), Bel.refl _⟩
  case round =>
    obtain ⟨j, hj, rfl, hx, hbr⟩ := hrel
    have BR := hid_ hbr
    by_cases hjn : j < n
    · obtain ⟨ad, o0, o1, o2, o3, o4, o5, rfl, ho, d0, d1, d2, d3, d4, d5⟩ := (HA.out.bel hbr).ord hjn
      have HO := hid_ ho
      clear ho hbr
      go_wp2_with fail
      refine (HP.out o0 o1 o2 o3 o4 o5 wr BR.out).mono ?_
      rintro e w5 ⟨rfl, b⟩
      have BR5 := hid_ (BR.out.trans b)
      clear b BR d0 d1 d2 d3 d4 d5
      obtain ⟨eq, heq⟩ : ∃ eq, p ⟨o0, o1, o2, o3, o4, o5⟩ = eq := ⟨_, rfl⟩
      rw [heq]
      have HEQ := hid_ heq
      clear heq
      cases eq
      · have HN : Hid (∀ (i : Nat) (x : Ord), i < j + 1 → l[i]? = some x → p x = false) := hid_ (by
          intro i x hi hix
          rcases Nat.lt_or_ge i j with h | h
          · exact hx.out i x h hix
          · obtain rfl : i = j := by omega
            rw [HO.out] at hix
            cases hix
            exact HEQ.out)
        clear hx HO HEQ
        go_wp2
        case roundEnd =>
          go_roundw
          case rel => exact ⟨j + 1, by omega, by go_num, HN, BR5.out⟩
          case measure => simp [intOf]; omega
      · have HF : Hid (r = (j : Int)) := hid_ (by rw [← HR.out]; unfold idxI; rw [idxI_hit HO.out HEQ.out hx.out])
        clear hx HO HEQ
        go_wp2
        go_ret
        exact ⟨by rw [HF.out]; rfl, BR5.out⟩
    · obtain rfl : j = n := by omega
      have HF : Hid (r = -1) := hid_ (by rw [← HR.out]; unfold idxI; rw [idxI_no (fun i x h => hx.out i x (by have := (List.getElem?_eq_some_iff.1 h).1; rw [HL.out] at this; exact this) h)])
      clear hx hbr
      go_wp2
      go_ret
      exact ⟨by rw [HF.out]; rfl, BR.out⟩
theorem idxI_ge (p : Ord → Bool) (l : List Ord) : decide (0 ≤ idxI p l) = (l.findIdx? p).isSome := by
  unfold idxI
  cases l.findIdx? p <;> simp
set_option maxRecDepth 10000 in
set_option maxHeartbeats 1000000 in
theorem containsP_any (p : Ord → Bool) (gc : Nat) (cap : Value) (eg : ∀ args w, (callFunc gc args).run Try.prog w = .ok (.enter gc args) w) (A : Option Addr) (n c : Nat) (l : List Ord) (w : World) (hA : Row ordT w A n l)
    (hp : ∀ (o0 : Int) (o1 o2 : ByteArray) (o3 : Bool) (o4 o5 : Int) (w' : World), Bel w w' → Calls Try.prog gc #[.agg #[.int .u64 o0, .string o1, .string o2, .bool o3, .int .i64 o4, .int .i64 o5], cap] w' fun e w'' => e = .returned (.bool (p ⟨o0, o1, o2, o3, o4, o5⟩)) ∧ Bel w' w'') :
    Calls Try.prog 31 #[.slice A n c, .func (.func gc) #[] #[cap]] w fun e w' => e = .returned (.bool (l.findIdx? p).isSome) ∧ Bel w w' := by
  have hc := indexP_any p gc cap eg A n c l w hA hp
  have hg := idxI_ge p l
  generalize (l.findIdx? p).isSome = q at hg ⊢
  generalize idxI p l = r at hc hg
  have HC := hid_ hc
  clear hA hp hc
  go_enter Try.func31, Try.ntmps31
  go_wp2_with fail
  refine HC.out.mono ?_
  rintro e w1 ⟨rfl, b⟩
  have HB := hid_ b
  have HG := hid_ hg
  clear b HC hg
  go_wp2
  go_ret
  exact ⟨by rw [← HG.out]; rfl, HB.out⟩
theorem is_any (n : Int) (w : World) : Calls Try.prog 32 #[.int .u64 n] w fun e w' => e = .returned (.func (.func 74) #[] #[.pointer (some ⟨w.heap.size, 0, none⟩)]) ∧ w.alloc (.cells #[.int .u64 n] 28) = w' := by
  go_enter Try.func32, Try.ntmps32
  go_wp2
  go_ret
  exact ⟨rfl, rfl⟩
set_option maxRecDepth 10000 in
theorem is1_any (o0 : Int) (o1 o2 : ByteArray) (o3 : Bool) (o4 o5 : Int) (n : Int) (g : Nat) (w : World) (h : w.cell? ⟨g, 0, none⟩ = some (.int .u64 n)) :
    Calls Try.prog 74 #[.agg #[.int .u64 o0, .string o1, .string o2, .bool o3, .int .i64 o4, .int .i64 o5], .pointer (some ⟨g, 0, none⟩)] w fun e w' => e = .returned (.bool (o0 == n)) ∧ Bel w w' := by
  have h1 := cellOld h (.cells #[.int .u64 o0, .string o1, .string o2, .bool o3, .int .i64 o4, .int .i64 o5] 30)
  have h2 := cellNew w #[.int .u64 o0, .string o1, .string o2, .bool o3, .int .i64 o4, .int .i64 o5] 30 (0, 0) w.heap.size 0 rfl
  have HB := hid_ ((Bel.refl w).alloc (.cells #[.int .u64 o0, .string o1, .string o2, .bool o3, .int .i64 o4, .int .i64 o5] 30))
  clear h
  go_enter Try.func74, Try.ntmps74
  go_wp2
  go_ret
  exact ⟨rfl, HB.out⟩
set_option maxRecDepth 10000 in
theorem put1_any (o0 : Int) (o1 o2 : ByteArray) (o3 : Bool) (o4 o5 : Int) (n : Int) (g : Nat) (w : World) (h : w.cell? ⟨g, 0, none⟩ = some (.int .u64 n)) :
    Calls Try.prog 34 #[.agg #[.int .u64 o0, .string o1, .string o2, .bool o3, .int .i64 o4, .int .i64 o5], .pointer (some ⟨g, 0, none⟩)] w fun e w' => e = .returned (.bool (decide (n < o0))) ∧ Bel w w' := by
  have h1 := cellOld h (.cells #[.int .u64 o0, .string o1, .string o2, .bool o3, .int .i64 o4, .int .i64 o5] 30)
  have h2 := cellNew w #[.int .u64 o0, .string o1, .string o2, .bool o3, .int .i64 o4, .int .i64 o5] 30 (0, 0) w.heap.size 0 rfl
  have HB := hid_ ((Bel.refl w).alloc (.cells #[.int .u64 o0, .string o1, .string o2, .bool o3, .int .i64 o4, .int .i64 o5] 30))
  clear h
  go_enter Try.func34, Try.ntmps34
  go_wp2
  go_ret
  exact ⟨rfl, HB.out⟩
theorem egIs : ∀ args w, (callFunc 74 args).run Try.prog w = .ok (.enter 74 args) w := enters_of Try.func74 (by kernel_rfl) rfl
theorem egPut : ∀ args w, (callFunc 34 args).run Try.prog w = .ok (.enter 34 args) w := enters_of Try.func34 (by kernel_rfl) rfl
end Go.Proofs.Ytoachnhdedpbdaa
