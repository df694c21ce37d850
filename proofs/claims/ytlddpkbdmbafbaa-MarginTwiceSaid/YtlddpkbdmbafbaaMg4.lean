/- slices.Clone at accounts and orders; the closures of margin.one; the document's place, changed. -/
import Derived.Test.YtlddpkbdmbafbaaMg1
import Derived.Test.YtlddpkbdmbafbaaAc5
import Derived.Test.YtlddpkbdmbafbaaOd4
import Derived.Test.YtlddpkbdmbafbaaNv16
import Derived.Test.YtlddpkbdmbafbaaLit
import Derived.Lib.SliceRun
import Derived.Deep.DeepCutAuto
set_option linter.unusedSimpArgs false
set_option linter.unusedVariables false
namespace Go.Proofs.Ytlddpkbdmbafbaa
open Go.RowKit Go.Lib
set_option maxRecDepth 10000 in
set_option maxHeartbeats 1000000 in
theorem cloneA_any (A : Option Addr) (n c : Nat) (l : List Acc) (w : World) (hA : Row accT w A n l) (hn : n ≤ 100000) :
    Calls Try.prog 75 #[.slice A n c] w fun e w' => ∃ v, e = .returned v ∧ Own accT w' w.heap.size v l ∧ Bel w w' := by
  have HA := hid_ hA
  have HNI := hid_ (fun h => hA.nonil' h)
  have HN : Hid (([] : List Acc).length * 0 + (0 + n) * 48 ≤ 140737488355328) := hid_ (by simp; omega)
  have HN2 : Hid ((([] : List Acc).length + n) * 48 ≤ 140737488355328) := hid_ (by simp; omega)
  have q22 : ∀ (w : World) (a : Option Addr) (n c n' c' : Nat), (binOp .eql 53 (.slice a n c) (.slice none n' c')).run Try.prog w = .ok (.bool a.isNone) w := fun w a n c n' c' => Lib.run_eql_slice_nil w _ _ a n c n' c' accS.ut
  clear hA hn
  cases A with
  | none =>
    obtain ⟨rfl, rfl⟩ := HNI.out rfl
    clear HNI HA HN HN2
    go_enter Try.func75, Try.ntmps75
    go_wp2
    go_ret
    exact ⟨_, rfl, Own.nil_ _ _ _, Bel.refl _⟩
  | some ad =>
    go_enter Try.func75, Try.ntmps75
    go_wp2_with (at_builtin; refine wpApp (w0 := w) accS rfl _ _ rfl _ [] l (some ad) n c rfl rfl (Own.litE (T := accT) w w.heap.size _ _ rfl rfl (Nat.le_refl _)) (HA.out.bel ((Bel.refl w).alloc _)) ((Bel.refl w).alloc _) HN2.out ?_; intro v1 x1 hO1 hb1 _ _)
    rw [List.nil_append] at hO1
    have HO := hid_ hO1
    have HB := hid_ hb1
    clear hO1 hb1
    try go_wp2
    go_ret
    exact ⟨_, rfl, HO.out, HB.out⟩
set_option maxRecDepth 10000 in
set_option maxHeartbeats 1000000 in
theorem cloneO_any (A : Option Addr) (n c : Nat) (l : List Ord) (w : World) (hA : Row ordT w A n l) (hn : n ≤ 100000) :
    Calls Try.prog 76 #[.slice A n c] w fun e w' => ∃ v, e = .returned v ∧ Own ordT w' w.heap.size v l ∧ Bel w w' := by
  have HA := hid_ hA
  have HNI := hid_ (fun h => hA.nonil' h)
  have HN : Hid (([] : List Ord).length * 0 + (0 + n) * 64 ≤ 140737488355328) := hid_ (by simp; omega)
  have HN2 : Hid ((([] : List Ord).length + n) * 64 ≤ 140737488355328) := hid_ (by simp; omega)
  have q22 : ∀ (w : World) (a : Option Addr) (n c n' c' : Nat), (binOp .eql 22 (.slice a n c) (.slice none n' c')).run Try.prog w = .ok (.bool a.isNone) w := fun w a n c n' c' => Lib.run_eql_slice_nil w _ _ a n c n' c' ordS.ut
  clear hA hn
  cases A with
  | none =>
    obtain ⟨rfl, rfl⟩ := HNI.out rfl
    clear HNI HA HN HN2
    go_enter Try.func76, Try.ntmps76
    go_wp2
    go_ret
    exact ⟨_, rfl, Own.nil_ _ _ _, Bel.refl _⟩
  | some ad =>
    go_enter Try.func76, Try.ntmps76
    go_wp2_with (at_builtin; refine wpApp (w0 := w) ordS rfl _ _ rfl _ [] l (some ad) n c rfl rfl (Own.litE (T := ordT) w w.heap.size _ _ rfl rfl (Nat.le_refl _)) (HA.out.bel ((Bel.refl w).alloc _)) ((Bel.refl w).alloc _) HN2.out ?_; intro v1 x1 hO1 hb1 _ _)
    rw [List.nil_append] at hO1
    have HO := hid_ hO1
    have HB := hid_ hb1
    clear hO1 hb1
    try go_wp2
    go_ret
    exact ⟨_, rfl, HO.out, HB.out⟩
set_option maxRecDepth 10000 in
theorem one1_any (o0 : Int) (o1 o2 : ByteArray) (o3 : Bool) (o4 o5 : Int) (n : Int) (g : Nat) (w : World) (h : w.cell? ⟨g, 0, none⟩ = some (.int .u64 n)) :
    Calls Try.prog 116 #[.agg #[.int .u64 o0, .string o1, .string o2, .bool o3, .int .i64 o4, .int .i64 o5], .pointer (some ⟨g, 0, none⟩)] w fun e w' => e = .returned (.bool (o0 == n)) ∧ Bel w w' := by
  have h1 := cellOld h (.cells #[.int .u64 o0, .string o1, .string o2, .bool o3, .int .i64 o4, .int .i64 o5] 30)
  have h2 := cellNew w #[.int .u64 o0, .string o1, .string o2, .bool o3, .int .i64 o4, .int .i64 o5] 30 (0, 0) w.heap.size 0 rfl
  have HB := hid_ ((Bel.refl w).alloc (.cells #[.int .u64 o0, .string o1, .string o2, .bool o3, .int .i64 o4, .int .i64 o5] 30))
  clear h
  go_enter Try.func116, Try.ntmps116
  go_wp2
  go_ret
  exact ⟨rfl, HB.out⟩
theorem egOne1 : ∀ args w, (callFunc 116 args).run Try.prog w = .ok (.enter 116 args) w := enters_of Try.func116 (by kernel_rfl) rfl
set_option maxRecDepth 10000 in
theorem one2_any (o0 : Int) (o1 o2 : ByteArray) (o3 : Bool) (o4 o5 : Int) (n : Int) (g : Nat) (w : World) (h : w.cell? ⟨g, 1, none⟩ = some (.int .u64 n)) :
    Calls Try.prog 117 #[.agg #[.int .u64 o0, .string o1, .string o2, .bool o3, .int .i64 o4, .int .i64 o5], .pointer (some ⟨g, 0, none⟩)] w fun e w' => e = .returned (.bool (o0 == n)) ∧ Bel w w' := by
  have h1 := cellOld h (.cells #[.int .u64 o0, .string o1, .string o2, .bool o3, .int .i64 o4, .int .i64 o5] 30)
  have h2 := cellNew w #[.int .u64 o0, .string o1, .string o2, .bool o3, .int .i64 o4, .int .i64 o5] 30 (0, 0) w.heap.size 0 rfl
  have HB := hid_ ((Bel.refl w).alloc (.cells #[.int .u64 o0, .string o1, .string o2, .bool o3, .int .i64 o4, .int .i64 o5] 30))
  clear h
  go_enter Try.func117, Try.ntmps117
  go_wp2
  go_ret
  exact ⟨rfl, HB.out⟩
theorem egOne2 : ∀ args w, (callFunc 117 args).run Try.prog w = .ok (.enter 117 args) w := enters_of Try.func117 (by kernel_rfl) rfl
set_option maxRecDepth 10000 in
set_option maxHeartbeats 1000000 in
theorem placeO_any (A : Option Addr) (n c : Nat) (l : List Ord) (nu : Int) (w : World) (hA : Row ordT w A n l) :
    Calls Try.prog 78 #[.slice A n c, .int .u64 nu] w fun e w' => e = .returned (.int .i64 (idxI (fun x => x.number == nu) l)) ∧ w = w' := by
  have hn := hA.2.1
  have HL := hid_ hA.1
  obtain ⟨r, hr⟩ : ∃ r, idxI (fun x => x.number == nu) l = r := ⟨_, rfl⟩
  rw [hr]
  have HR := hid_ hr
  clear hr
  go_enter Try.func78, Try.ntmps78
  go_wp2_with fail
  go_loop [5] (fun i => ∃ j : Nat, j ≤ n ∧ i = .int .i64 j ∧ Hid (∀ (i : Nat) (x : Ord), i < j → l[i]? = some x → (x.number == nu) = false)) (fun i => n - (intOf i).toNat)
  case atStart => exact ⟨0, Nat.zero_le _, rfl, hid_ (fun i x h => absurd h (by omega))⟩
  case round =>
    obtain ⟨j, hj, rfl, hx⟩ := hrel
    by_cases hjn : j < n
    · obtain ⟨ad, o0, o1, o2, o3, o4, o5, rfl, ho, d0, d1, d2, d3, d4, d5⟩ := hA.ord hjn
      have HO := hid_ ho
      clear ho
      obtain ⟨eq, heq⟩ : ∃ eq, (o0 == nu) = eq := ⟨_, rfl⟩
      have HEQ := hid_ heq
      cases eq
      · have HN : Hid (∀ (i : Nat) (x : Ord), i < j + 1 → l[i]? = some x → (x.number == nu) = false) := hid_ (by
          intro i x hi hix
          rcases Nat.lt_or_ge i j with h | h
          · exact hx.out i x h hix
          · obtain rfl : i = j := by omega
            rw [HO.out] at hix
            cases hix
            exact HEQ.out)
        clear hx HO HEQ hA
        go_wp2
        case roundEnd =>
          go_round
          case rel => exact ⟨j + 1, by omega, by go_num, HN⟩
          case measure => simp [intOf]; omega
      · have HF : Hid (r = (j : Int)) := hid_ (by rw [← HR.out]; unfold idxI; rw [idxI_hit HO.out HEQ.out hx.out])
        clear hx HO HEQ hA
        go_wp2
        go_ret
        exact ⟨by rw [HF.out]; rfl, rfl⟩
    · obtain rfl : j = n := by omega
      have HF : Hid (r = -1) := hid_ (by rw [← HR.out]; unfold idxI; rw [idxI_no (fun i x h => hx.out i x (by have := (List.getElem?_eq_some_iff.1 h).1; rw [HL.out] at this; exact this) h)])
      clear hx hA
      go_wp2
      go_ret
      exact ⟨by rw [HF.out]; rfl, rfl⟩
def chgO (l : List Ord) (i : Nat) (o : Ord) : List Ord := l.take i ++ ((if 0 < o.left then [o] else []) ++ l.drop (i + 1))
set_option maxRecDepth 10000 in
set_option maxHeartbeats 2000000 in
theorem changed_any (A : Option Addr) (n c : Nat) (l : List Ord) (i : Nat) (o0 : Int) (o1 o2 : ByteArray) (o3 : Bool) (o4 o5 : Int) (w : World) (hA : Row ordT w A n l) (hnc : n ≤ c) (hi : i < n) (hn : n ≤ 90000) :
    Calls Try.prog 80 #[.slice A n c, .int .i64 (i : Int), .agg #[.int .u64 o0, .string o1, .string o2, .bool o3, .int .i64 o4, .int .i64 o5]] w fun e w' => ∃ v, e = .returned v ∧ Own ordT w' w.heap.size v (chgO l i ⟨o0, o1, o2, o3, o4, o5⟩) ∧ Bel w w' := by
  have hA63 := hA.2.1
  have HL := hid_ hA.1
  obtain ⟨ro, hro⟩ : ∃ r, chgO l i ⟨o0, o1, o2, o3, o4, o5⟩ = r := ⟨_, rfl⟩
  rw [hro]
  have HRO := hid_ hro
  have HN := hid_ (And.intro hi hn)
  have hto := fun W => ordS.cutTo (P := Try.prog) .i64 A n c i (by omega) W
  obtain ⟨A', hcut, hrow⟩ := ordS.cutFrom (P := Try.prog) .i64 A n c (i + 1) hi hnc
  have ei : ((i + 1 : Nat) : Int) = (i : Int) + 1 := by omega
  simp only [ei] at hcut
  have i0 : (0 : Int) ≤ (i : Int) := by omega
  have i1 : (i : Int) < (n : Int) := by omega
  have i2 : (i : Int) + 1 ≤ 90000 := by omega
  clear hro ei
  have k0 := Bx.new w 30 [.int .u64 o0, .string o1, .string o2, .bool o3, .int .i64 o4, .int .i64 o5]
  have k0 : Bx (w.alloc (.cells #[.int .u64 o0, .string o1, .string o2, .bool o3, .int .i64 o4, .int .i64 o5] 30)) (w.heap.size) 30 [.int .u64 o0, .string o1, .string o2, .bool o3, .int .i64 o4, .int .i64 o5] := k0
  have kB : Bel w (w.alloc (.cells #[.int .u64 o0, .string o1, .string o2, .bool o3, .int .i64 o4, .int .i64 o5] 30)) := (Bel.refl w).alloc _
  have FO := hid_ k0
  have FB := hid_ kB
  clear k0 kB
  have FA := hid_ (hA.bel FB.out)
  have FT := hid_ (FA.out.take_ (show i ≤ n by omega))
  have FD := hid_ (hrow _ _ FA.out)
  clear hA hrow hi hn hnc
  have qO0 := FO.out.cell 0 rfl
  have qO1 := FO.out.cell 1 rfl
  have qO2 := FO.out.cell 2 rfl
  have qO3 := FO.out.cell 3 rfl
  have qO4 := FO.out.cell 4 rfl
  have qO5 := FO.out.cell 5 rfl
  have HLT : Hid ((l.take i).length = i ∧ (l.drop (i + 1)).length = n - (i + 1)) := hid_ ⟨by have := HN.out; have := HL.out; simp; omega, by have := HL.out; simp; omega⟩
  go_enter Try.func80, Try.ntmps80
  go_upto_region 1 with (fail)
  generalize (w.alloc (.cells #[.int .u64 o0, .string o1, .string o2, .bool o3, .int .i64 o4, .int .i64 o5] 30)) = W0 at FO FB FA FT FD qO0 qO1 qO2 qO3 qO4 qO5 ⊢
  obtain ⟨gO, hgO⟩ : ∃ g, w.heap.size = g := ⟨_, rfl⟩
  have HGO := hid_ hgO
  rw [hgO] at FO qO0 qO1 qO2 qO3 qO4 qO5
  try rw [hgO]
  clear hgO
  have tok1 : True := trivial
  have S1 : Hid ((([] : List Ord).length + i) * 64 ≤ 140737488355328) := hid_ (by have := HN.out; simp; omega)
  by_cases c1 : 0 < o5
  · have HE : Hid ((l.take i ++ [(Ord.mk o0 o1 o2 o3 o4 o5)]) ++ l.drop (i + 1) = ro) := hid_ (by rw [← HRO.out]; unfold chgO; rw [if_pos c1]; simp)
    have S2 : Hid ((([] ++ l.take i).length + 1) * 64 ≤ 140737488355328) := hid_ (by have := HN.out; have := HLT.out.1; simp at this ⊢; omega)
    have S3 : Hid (((([] ++ l.take i) ++ [(Ord.mk o0 o1 o2 o3 o4 o5)]).length + (n - (i + 1))) * 64 ≤ 140737488355328) := hid_ (by have := HN.out; have := HLT.out.1; simp at this ⊢; omega)
    have tok2 : True := trivial
    go_wp2_with (first
      | (at_builtin; have _t := tok1; refine wpApp (w0 := W0) ordS rfl _ _ rfl _ [] (l.take i) A i c rfl rfl (Own.litE (T := ordT) _ _ _ _ rfl rfl (Nat.le_refl _)) (FT.out.bel ((Bel.refl _).alloc _)) ((Bel.refl _).alloc _) S1.out ?_; intro v1 x1 hO1 hb1 _ _; clear tok1 _t; have e0 := hb1.cell_ qO0; have e1 := hb1.cell_ qO1; have e2 := hb1.cell_ qO2; have e3 := hb1.cell_ qO3; have e4 := hb1.cell_ qO4; have e5 := hb1.cell_ qO5)
      | (at_builtin; have _t := tok2; refine wpApp (w0 := W0) ordS rfl _ _ rfl _ ([] ++ l.take i) [(Ord.mk o0 o1 o2 o3 o4 o5)] (some ⟨x1.heap.size, 0, none⟩) 1 1 rfl rfl (hO1.alloc_ _) (Row.one (T := ordT) (Ord.mk o0 o1 o2 o3 o4 o5) rfl rfl) (hb1.alloc _) S2.out ?_; intro v2 x2 hO2 hb2 _ _; clear tok2 _t)
      | (at_builtin; refine wpApp (w0 := W0) ordS rfl _ _ rfl _ (([] ++ l.take i) ++ [(Ord.mk o0 o1 o2 o3 o4 o5)]) (l.drop (i + 1)) A' (n - (i + 1)) (c - (i + 1)) rfl rfl hO2 (FD.out.bel hb2) hb2 S3.out ?_; intro v3 x3 hO3 hb3 _ _))
    rw [show (([] : List Ord) ++ l.take i) ++ [(Ord.mk o0 o1 o2 o3 o4 o5)] ++ l.drop (i + 1) = ro from HE.out] at hO3
    have HO := hid_ (hO3.mono_ FB.out.size_)
    have HB := hid_ (FB.out.trans hb3)
    clear hO1 hO2 hO3 hb1 hb2 hb3 e0 e1 e2 e3 e4 e5
    try go_wp2
    go_ret
    exact ⟨_, rfl, HO.out, HB.out⟩
  · have HE : Hid (l.take i ++ l.drop (i + 1) = ro) := hid_ (by rw [← HRO.out]; unfold chgO; rw [if_neg c1]; simp)
    have S3 : Hid ((([] ++ l.take i).length + (n - (i + 1))) * 64 ≤ 140737488355328) := hid_ (by have := HN.out; have := HLT.out.1; simp at this ⊢; omega)
    go_wp2_with (first
      | (at_builtin; have _t := tok1; refine wpApp (w0 := W0) ordS rfl _ _ rfl _ [] (l.take i) A i c rfl rfl (Own.litE (T := ordT) _ _ _ _ rfl rfl (Nat.le_refl _)) (FT.out.bel ((Bel.refl _).alloc _)) ((Bel.refl _).alloc _) S1.out ?_; intro v1 x1 hO1 hb1 _ _; clear tok1 _t; have e0 := hb1.cell_ qO0; have e1 := hb1.cell_ qO1; have e2 := hb1.cell_ qO2; have e3 := hb1.cell_ qO3; have e4 := hb1.cell_ qO4; have e5 := hb1.cell_ qO5)
      | (at_builtin; refine wpApp (w0 := W0) ordS rfl _ _ rfl _ ([] ++ l.take i) (l.drop (i + 1)) A' (n - (i + 1)) (c - (i + 1)) rfl rfl hO1 (FD.out.bel hb1) hb1 S3.out ?_; intro v3 x3 hO3 hb3 _ _))
    rw [show (([] : List Ord) ++ l.take i) ++ l.drop (i + 1) = ro from HE.out] at hO3
    have HO := hid_ (hO3.mono_ FB.out.size_)
    have HB := hid_ (FB.out.trans hb3)
    clear hO1 hO3 hb1 hb3 e0 e1 e2 e3 e4 e5
    try go_wp2
    go_ret
    exact ⟨_, rfl, HO.out, HB.out⟩
end Go.Proofs.Ytlddpkbdmbafbaa
