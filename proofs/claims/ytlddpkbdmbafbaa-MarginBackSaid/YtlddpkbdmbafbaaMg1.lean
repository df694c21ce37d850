/- margin.Filled. -/
import Derived.Test.YtlddpkbdmbafbaaOd2
import Derived.Test.YtlddpkbdmbafbaaCk
import Derived.Test.YtlddpkbdmbafbaaRes
import Derived.Test.YtlddpkbdmbafbaaBox
import Derived.Deep.DeepCutAuto
set_option linter.unusedSimpArgs false
set_option linter.unusedVariables false
namespace Go.Proofs.Ytlddpkbdmbafbaa
open Go.RowKit Go.Lib
def ordZo : Ord := ⟨0, ⟨#[]⟩, ⟨#[]⟩, false, 0, 0⟩
def betterM (o : Ord) (p : Int) : Int := if o.buy then o.price - p else p - o.price
def fldB (o : Ord) (q p : Int) : Bool := decide (1 ≤ q) && (decide (q ≤ o.left) && (decide (1 ≤ p) && decide (0 ≤ betterM o p)))
def fldOk (o : Ord) (q p : Int) : Bool := chk o && fldB o q p
def fldE (o : Ord) (q p : Int) : Int := if chk o then (if fldB o q p then 0 else 160) else 130
def fldF (o : Ord) (q p : Int) : Int := if fldOk o q p = true ∧ o.buy = true then (o.price - p) * q else 0
def fldO (o : Ord) (q p : Int) : Ord := if fldOk o q p then ⟨o.number, o.who, o.market, o.buy, o.price, o.left - q⟩ else ordZo
theorem fld_0 {o : Ord} {q p : Int} (h : chk o = false) : fldE o q p = 130 ∧ fldF o q p = 0 ∧ fldO o q p = ordZo := by simp [fldE, fldF, fldO, fldOk, h]
theorem fld_1 {o : Ord} {q p : Int} (h : chk o = true) (hb : fldB o q p = false) : fldE o q p = 160 ∧ fldF o q p = 0 ∧ fldO o q p = ordZo := by simp [fldE, fldF, fldO, fldOk, h, hb]
theorem fld_2 {o : Ord} {q p : Int} (h : chk o = true) (hb : fldB o q p = true) : fldE o q p = 0 ∧ fldF o q p = (if o.buy then (o.price - p) * q else 0) ∧ fldO o q p = ⟨o.number, o.who, o.market, o.buy, o.price, o.left - q⟩ := by simp [fldE, fldF, fldO, fldOk, h, hb]
theorem far_big (a : Nat) (h : a ≤ 9223372036854775807) (w : World) :
    Calls Try.prog 108 #[.int .i64 (a : Int)] w fun e w' => e = .returned (.int .u64 (a : Int)) ∧ w = w' := by
  have h0 : ¬ (a : Int) < 0 := by omega
  have hw : IntKind.u64.wrap (a : Int) = (a : Int) := Mul64.wrapN a (by omega)
  go_enter Try.func108, Try.ntmps108
  go_wp2
  go_ret
  exact ⟨rfl, rfl⟩
def TwoInts (w : World) (e : Ending) (w' : World) : Prop := ∃ v r : Int, e = .returned (.tuple #[.int .i64 v, .int .i64 r]) ∧ w = w'
set_option maxRecDepth 10000 in
set_option maxHeartbeats 1000000 in
theorem mul_big (a b : Nat) (ha : a ≤ 9223372036854775807) (hb : b ≤ 1000000) (w : World) :
    Calls Try.prog 68 #[.int .i64 (a : Int), .int .i64 (b : Int)] w (TwoInts w) := by
  go_enter Try.func68, Try.ntmps68
  go_wp2_with fail
  refine (far_big a ha w).mono ?_
  rintro e _ ⟨rfl, rfl⟩
  go_wp2_with fail
  refine (far_big b (by omega) w).mono ?_
  rintro e _ ⟨rfl, rfl⟩
  go_wp2_with fail
  refine (mul64_any a b (by omega) (by omega) w).mono ?_
  rintro e w1 ⟨rfl, hw⟩
  subst hw
  obtain ⟨hi, hhi⟩ : ∃ x, a * b / 18446744073709551616 = x := ⟨_, rfl⟩
  obtain ⟨lo, hlo⟩ : ∃ x, a * b % 18446744073709551616 = x := ⟨_, rfl⟩
  rw [hhi, hlo]
  have ca : ¬ (a : Int) < 0 := by omega
  have cb : ¬ (b : Int) < 0 := by omega
  clear hhi hlo ha hb
  by_cases c1 : 0 < hi
  · have c1' : (0 : Int) < (hi : Int) := by omega
    go_wp2
    go_ret2
    exact ⟨_, _, rfl, rfl⟩
  · have c1' : ¬ (0 : Int) < (hi : Int) := by omega
    have c3 : decide (0 < hi) = false := decide_eq_false c1
    by_cases c2 : (9223372036854775807 : Int) < (lo : Int)
    · go_wp2
      go_ret2
      exact ⟨_, _, rfl, rfl⟩
    · have c4 : decide ((9223372036854775807 : Int) < (lo : Int)) = false := decide_eq_false c2
      go_wp2
      go_ret2
      exact ⟨_, _, rfl, rfl⟩
theorem mulI_any (a b : Int) (ha : 0 ≤ a ∧ a ≤ 1000000) (hb : 0 ≤ b ∧ b ≤ 1000000) (w : World) :
    Calls Try.prog 68 #[.int .i64 a, .int .i64 b] w fun e w' => e = .returned (.tuple #[.int .i64 (a * b), .int .i64 0]) ∧ w = w' := by
  obtain ⟨x, rfl⟩ : ∃ x : Nat, a = (x : Int) := ⟨a.toNat, by omega⟩
  obtain ⟨y, rfl⟩ : ∃ x : Nat, b = (x : Int) := ⟨b.toNat, by omega⟩
  have h := mul_any x y (by omega) (by omega) w
  rw [show ((x * y : Nat) : Int) = (x : Int) * (y : Int) from by simp] at h
  exact h
theorem mulI_big (a b : Int) (ha : 0 ≤ a ∧ a ≤ 9223372036854775807) (hb : 0 ≤ b ∧ b ≤ 1000000) (w : World) :
    Calls Try.prog 68 #[.int .i64 a, .int .i64 b] w (TwoInts w) := by
  obtain ⟨x, rfl⟩ : ∃ x : Nat, a = (x : Int) := ⟨a.toNat, by omega⟩
  obtain ⟨y, rfl⟩ : ∃ x : Nat, b = (x : Int) := ⟨b.toNat, by omega⟩
  exact mul_big x y (by omega) (by omega) w
set_option maxRecDepth 10000 in
theorem filled1_any (o0 : Int) (o1 o2 : ByteArray) (o3 : Bool) (o4 o5 p : Int) (g k : Nat) (w : World) (h3 : w.cell? ⟨g, 3, none⟩ = some (.bool o3)) (h4 : w.cell? ⟨g, 4, none⟩ = some (.int .i64 o4)) (hp : w.cell? ⟨k, 0, none⟩ = some (.int .i64 p)) :
    Calls Try.prog 67 #[.pointer (some ⟨g, 0, none⟩), .pointer (some ⟨k, 0, none⟩)] w fun e w' => e = .returned (.int .i64 (wrap64 (betterM ⟨o0, o1, o2, o3, o4, o5⟩ p))) ∧ w = w' := by
  go_enter Try.func67, Try.ntmps67
  cases o3
  · go_wp2
    go_ret
    exact ⟨rfl, rfl⟩
  · go_wp2
    go_ret
    exact ⟨rfl, rfl⟩
set_option maxRecDepth 10000 in
set_option maxHeartbeats 2000000 in
theorem filled_any (o0 : Int) (o1 o2 : ByteArray) (o3 : Bool) (o4 o5 q p : Int) (w : World) (hs1 : o1.size ≤ 9223372036854775807) (hs2 : o2.size ≤ 9223372036854775807) (hpb : p ≤ 9223372036854775807) :
    Calls Try.prog 22 #[.agg #[.int .u64 o0, .string o1, .string o2, .bool o3, .int .i64 o4, .int .i64 o5], .int .i64 q, .int .i64 p] w fun e w' => e = .returned (.tuple #[.agg (ordC (fldO ⟨o0, o1, o2, o3, o4, o5⟩ q p)).toArray, .int .i64 (fldF ⟨o0, o1, o2, o3, o4, o5⟩ q p), .int .i64 (fldE ⟨o0, o1, o2, o3, o4, o5⟩ q p)]) ∧ Bel w w' := by
  have SZ := hid_ (And.intro hs1 hs2)
  have HPB := hid_ hpb
  obtain ⟨ro, hro⟩ : ∃ r, fldO ⟨o0, o1, o2, o3, o4, o5⟩ q p = r := ⟨_, rfl⟩
  obtain ⟨rf, hrf⟩ : ∃ r, fldF ⟨o0, o1, o2, o3, o4, o5⟩ q p = r := ⟨_, rfl⟩
  obtain ⟨re, hre⟩ : ∃ r, fldE ⟨o0, o1, o2, o3, o4, o5⟩ q p = r := ⟨_, rfl⟩
  rw [hro, hrf, hre]
  have HR := hid_ (And.intro hre (And.intro hrf hro))
  clear hs1 hs2 hpb hro hrf hre
  have z0 := sizeAl w (.cells #[.int .u64 o0, .string o1, .string o2, .bool o3, .int .i64 o4, .int .i64 o5] 30)
  have z1 := sizeAl (w.alloc (.cells #[.int .u64 o0, .string o1, .string o2, .bool o3, .int .i64 o4, .int .i64 o5] 30)) (.cells #[.int .i64 p] 2)
  rw [z0] at z1
  have k0 := ((Bx.new w 30 [.int .u64 o0, .string o1, .string o2, .bool o3, .int .i64 o4, .int .i64 o5]).alloc (.cells #[.int .i64 p] 2)).alloc (.cells #[.int .u64 0, .string ⟨#[]⟩, .string ⟨#[]⟩, .bool false, .int .i64 0, .int .i64 0] 30)
  have k0 : Bx (((w.alloc (.cells #[.int .u64 o0, .string o1, .string o2, .bool o3, .int .i64 o4, .int .i64 o5] 30)).alloc (.cells #[.int .i64 p] 2)).alloc (.cells #[.int .u64 0, .string ⟨#[]⟩, .string ⟨#[]⟩, .bool false, .int .i64 0, .int .i64 0] 30)) (w.heap.size) 30 [.int .u64 o0, .string o1, .string o2, .bool o3, .int .i64 o4, .int .i64 o5] := k0
  have k1 := (Bx.new (w.alloc (.cells #[.int .u64 o0, .string o1, .string o2, .bool o3, .int .i64 o4, .int .i64 o5] 30)) 2 [.int .i64 p]).alloc (.cells #[.int .u64 0, .string ⟨#[]⟩, .string ⟨#[]⟩, .bool false, .int .i64 0, .int .i64 0] 30)
  rw [z0] at k1
  have k1 : Bx (((w.alloc (.cells #[.int .u64 o0, .string o1, .string o2, .bool o3, .int .i64 o4, .int .i64 o5] 30)).alloc (.cells #[.int .i64 p] 2)).alloc (.cells #[.int .u64 0, .string ⟨#[]⟩, .string ⟨#[]⟩, .bool false, .int .i64 0, .int .i64 0] 30)) (w.heap.size + 1) 2 [.int .i64 p] := k1
  have k2 := Bx.new ((w.alloc (.cells #[.int .u64 o0, .string o1, .string o2, .bool o3, .int .i64 o4, .int .i64 o5] 30)).alloc (.cells #[.int .i64 p] 2)) 30 [.int .u64 0, .string ⟨#[]⟩, .string ⟨#[]⟩, .bool false, .int .i64 0, .int .i64 0]
  rw [z1] at k2
  have k2 : Bx (((w.alloc (.cells #[.int .u64 o0, .string o1, .string o2, .bool o3, .int .i64 o4, .int .i64 o5] 30)).alloc (.cells #[.int .i64 p] 2)).alloc (.cells #[.int .u64 0, .string ⟨#[]⟩, .string ⟨#[]⟩, .bool false, .int .i64 0, .int .i64 0] 30)) (w.heap.size + 1 + 1) 30 [.int .u64 0, .string ⟨#[]⟩, .string ⟨#[]⟩, .bool false, .int .i64 0, .int .i64 0] := k2
  have kB : Bel w (((w.alloc (.cells #[.int .u64 o0, .string o1, .string o2, .bool o3, .int .i64 o4, .int .i64 o5] 30)).alloc (.cells #[.int .i64 p] 2)).alloc (.cells #[.int .u64 0, .string ⟨#[]⟩, .string ⟨#[]⟩, .bool false, .int .i64 0, .int .i64 0] 30)) := (((Bel.refl w).alloc _).alloc _).alloc _
  have FO := hid_ k0
  have FP := hid_ k1
  have FR := hid_ k2
  have FB := hid_ kB
  clear k0 k1 k2 z0 z1 kB
  go_enter Try.func22, Try.ntmps22
  have hmf : ∀ (fn : Fn) (first cap : Array Value) (w : World), (Instr.makeFunc fn first cap).run Try.prog w = .ok (.func fn first cap) w := fun _ _ _ _ => rfl
  have qO0 := FO.out.cell 0 rfl
  have qO1 := FO.out.cell 1 rfl
  have qO2 := FO.out.cell 2 rfl
  have qO3 := FO.out.cell 3 rfl
  have qO4 := FO.out.cell 4 rfl
  have qO5 := FO.out.cell 5 rfl
  go_wp2_with fail
  have HD : Hid (w.heap.size + 2 ≠ w.heap.size) := hid_ (by omega)
  have HLR : Hid (w.heap.size ≤ w.heap.size + 2) := hid_ (by omega)
  have HLO : Hid (w.heap.size ≤ w.heap.size) := hid_ (Nat.le_refl _)
  generalize (((w.alloc (.cells #[.int .u64 o0, .string o1, .string o2, .bool o3, .int .i64 o4, .int .i64 o5] 30)).alloc (.cells #[.int .i64 p] 2)).alloc (.cells #[.int .u64 0, .string ⟨#[]⟩, .string ⟨#[]⟩, .bool false, .int .i64 0, .int .i64 0] 30)) = W0 at FO FP FR FB ⊢
  obtain ⟨hz, hhz⟩ : ∃ g, w.heap.size = g := ⟨_, rfl⟩
  rw [hhz] at FO FP FR HD HLR HLO
  try rw [hhz]
  have HHZ := hid_ hhz
  clear hhz
  generalize hz + 2 = gR at FR HD HLR ⊢
  generalize hz + 1 = gP at FP ⊢
  refine (orderCheck_big o0 o1 o2 o3 o4 o5 _ SZ.out.1 SZ.out.2).mono ?_
  rintro e v1 ⟨rfl, b⟩
  have bb := b
  have f1O := hid_ (FO.out.bel bb)
  have f1P := hid_ (FP.out.bel bb)
  have f1R := hid_ (FR.out.bel bb)
  have f1B := hid_ (FB.out.trans bb)
  clear b bb FO FP FR FB qO0 qO1 qO2 qO3 qO4 qO5
  obtain ⟨cb, hcb⟩ : ∃ cb, chk ⟨o0, o1, o2, o3, o4, o5⟩ = cb := ⟨_, rfl⟩
  have HCB := hid_ hcb
  cases cb
  · have HE : checkE o1 o2 o4 o5 = 130 := check_no hcb
    rw [HE]
    have HF : Hid (ro = ordZo ∧ rf = 0 ∧ re = 130) := hid_ (by have h := fld_0 (q := q) (p := p) HCB.out; exact ⟨by rw [← HR.out.2.2, h.2.2], by rw [← HR.out.2.1, h.2.1], by rw [← HR.out.1, h.1]⟩)
    clear HE hcb HR
    have LER : Hid (w.heap.size ≤ gR) := hid_ (by rw [HHZ.out]; exact HLR.out)
    have KS := hid_ ((((((f1R.out.set 0 (.int .u64 0)).set 1 (.string ⟨#[]⟩)).set 2 (.string ⟨#[]⟩)).set 3 (.bool false)).set 4 (.int .i64 0)).set 5 (.int .i64 0))
    have BS := hid_ ((((((f1B.out.setBx (g := gR) (j := 0) LER.out (.int .u64 0)).setBx (g := gR) (j := 1) LER.out (.string ⟨#[]⟩)).setBx (g := gR) (j := 2) LER.out (.string ⟨#[]⟩)).setBx (g := gR) (j := 3) LER.out (.bool false)).setBx (g := gR) (j := 4) LER.out (.int .i64 0)).setBx (g := gR) (j := 5) LER.out (.int .i64 0))
    have z0 := f1R.out.cell 0 rfl
    have z1 := f1R.out.cell 1 rfl
    have z2 := f1R.out.cell 2 rfl
    have z3 := f1R.out.cell 3 rfl
    have z4 := f1R.out.cell 4 rfl
    have z5 := f1R.out.cell 5 rfl
    have zf := fun j => f1R.out.frozen j
    go_wp2
    refine bodyPost_ret (results_ctt rfl _ _ gR 30 _ (0, 0) _ rfl KS.out Try.underlying30 rfl (by kernel_rfl)) rfl ?_
    exact ⟨by rw [HF.out.1, HF.out.2.1, HF.out.2.2]; rfl, BS.out⟩
  have PQ : Hid (1 ≤ o4 ∧ o4 ≤ 1000000 ∧ 1 ≤ o5 ∧ o5 ≤ 1000000) := hid_ (by obtain ⟨P, Q, hP, hQ, h1, h2, h3, h4, _⟩ := chk_nums hcb; simp only at hP hQ; omega)
  have HE : checkE o1 o2 o4 o5 = 0 := check_yes hcb
  rw [HE]
  clear HE hcb hmf
  have w0 := f1O.out.cell 0 rfl
  have w1 := f1O.out.cell 1 rfl
  have w2 := f1O.out.cell 2 rfl
  have w3 := f1O.out.cell 3 rfl
  have w4 := f1O.out.cell 4 rfl
  have w5 := f1O.out.cell 5 rfl
  have wp := f1P.out.cell 0 rfl
  by_cases c1 : q < 1
  · have HF : Hid (ro = ordZo ∧ rf = 0 ∧ re = 160) := hid_ (by have h := fld_1 (q := q) (p := p) HCB.out (by rw [← Bool.not_eq_true]; intro h; simp only [fldB, Bool.and_eq_true, decide_eq_true_eq] at h; omega); exact ⟨by rw [← HR.out.2.2, h.2.2], by rw [← HR.out.2.1, h.2.1], by rw [← HR.out.1, h.1]⟩)
    clear HR
    have LER : Hid (w.heap.size ≤ gR) := hid_ (by rw [HHZ.out]; exact HLR.out)
    have KS := hid_ ((((((f1R.out.set 0 (.int .u64 0)).set 1 (.string ⟨#[]⟩)).set 2 (.string ⟨#[]⟩)).set 3 (.bool false)).set 4 (.int .i64 0)).set 5 (.int .i64 0))
    have BS := hid_ ((((((f1B.out.setBx (g := gR) (j := 0) LER.out (.int .u64 0)).setBx (g := gR) (j := 1) LER.out (.string ⟨#[]⟩)).setBx (g := gR) (j := 2) LER.out (.string ⟨#[]⟩)).setBx (g := gR) (j := 3) LER.out (.bool false)).setBx (g := gR) (j := 4) LER.out (.int .i64 0)).setBx (g := gR) (j := 5) LER.out (.int .i64 0))
    have z0 := f1R.out.cell 0 rfl
    have z1 := f1R.out.cell 1 rfl
    have z2 := f1R.out.cell 2 rfl
    have z3 := f1R.out.cell 3 rfl
    have z4 := f1R.out.cell 4 rfl
    have z5 := f1R.out.cell 5 rfl
    have zf := fun j => f1R.out.frozen j
    go_wp2
    refine bodyPost_ret (results_ctt rfl _ _ gR 30 _ (0, 0) _ rfl KS.out Try.underlying30 rfl (by kernel_rfl)) rfl ?_
    exact ⟨by rw [HF.out.1, HF.out.2.1, HF.out.2.2]; rfl, BS.out⟩
  by_cases c2 : o5 < q
  · have HF : Hid (ro = ordZo ∧ rf = 0 ∧ re = 160) := hid_ (by have h := fld_1 (q := q) (p := p) HCB.out (by rw [← Bool.not_eq_true]; intro h; simp only [fldB, Bool.and_eq_true, decide_eq_true_eq] at h; omega); exact ⟨by rw [← HR.out.2.2, h.2.2], by rw [← HR.out.2.1, h.2.1], by rw [← HR.out.1, h.1]⟩)
    clear HR
    have LER : Hid (w.heap.size ≤ gR) := hid_ (by rw [HHZ.out]; exact HLR.out)
    have KS := hid_ ((((((f1R.out.set 0 (.int .u64 0)).set 1 (.string ⟨#[]⟩)).set 2 (.string ⟨#[]⟩)).set 3 (.bool false)).set 4 (.int .i64 0)).set 5 (.int .i64 0))
    have BS := hid_ ((((((f1B.out.setBx (g := gR) (j := 0) LER.out (.int .u64 0)).setBx (g := gR) (j := 1) LER.out (.string ⟨#[]⟩)).setBx (g := gR) (j := 2) LER.out (.string ⟨#[]⟩)).setBx (g := gR) (j := 3) LER.out (.bool false)).setBx (g := gR) (j := 4) LER.out (.int .i64 0)).setBx (g := gR) (j := 5) LER.out (.int .i64 0))
    have z0 := f1R.out.cell 0 rfl
    have z1 := f1R.out.cell 1 rfl
    have z2 := f1R.out.cell 2 rfl
    have z3 := f1R.out.cell 3 rfl
    have z4 := f1R.out.cell 4 rfl
    have z5 := f1R.out.cell 5 rfl
    have zf := fun j => f1R.out.frozen j
    go_wp2
    refine bodyPost_ret (results_ctt rfl _ _ gR 30 _ (0, 0) _ rfl KS.out Try.underlying30 rfl (by kernel_rfl)) rfl ?_
    exact ⟨by rw [HF.out.1, HF.out.2.1, HF.out.2.2]; rfl, BS.out⟩
  by_cases c3 : p < 1
  · have HF : Hid (ro = ordZo ∧ rf = 0 ∧ re = 160) := hid_ (by have h := fld_1 (q := q) (p := p) HCB.out (by rw [← Bool.not_eq_true]; intro h; simp only [fldB, Bool.and_eq_true, decide_eq_true_eq] at h; omega); exact ⟨by rw [← HR.out.2.2, h.2.2], by rw [← HR.out.2.1, h.2.1], by rw [← HR.out.1, h.1]⟩)
    clear HR
    have LER : Hid (w.heap.size ≤ gR) := hid_ (by rw [HHZ.out]; exact HLR.out)
    have KS := hid_ ((((((f1R.out.set 0 (.int .u64 0)).set 1 (.string ⟨#[]⟩)).set 2 (.string ⟨#[]⟩)).set 3 (.bool false)).set 4 (.int .i64 0)).set 5 (.int .i64 0))
    have BS := hid_ ((((((f1B.out.setBx (g := gR) (j := 0) LER.out (.int .u64 0)).setBx (g := gR) (j := 1) LER.out (.string ⟨#[]⟩)).setBx (g := gR) (j := 2) LER.out (.string ⟨#[]⟩)).setBx (g := gR) (j := 3) LER.out (.bool false)).setBx (g := gR) (j := 4) LER.out (.int .i64 0)).setBx (g := gR) (j := 5) LER.out (.int .i64 0))
    have z0 := f1R.out.cell 0 rfl
    have z1 := f1R.out.cell 1 rfl
    have z2 := f1R.out.cell 2 rfl
    have z3 := f1R.out.cell 3 rfl
    have z4 := f1R.out.cell 4 rfl
    have z5 := f1R.out.cell 5 rfl
    have zf := fun j => f1R.out.frozen j
    go_wp2
    refine bodyPost_ret (results_ctt rfl _ _ gR 30 _ (0, 0) _ rfl KS.out Try.underlying30 rfl (by kernel_rfl)) rfl ?_
    exact ⟨by rw [HF.out.1, HF.out.2.1, HF.out.2.2]; rfl, BS.out⟩
  cases o3
  · have hbw : wrap64 (p - o4) = p - o4 := by have := PQ.out; have := HPB.out; unfold wrap64; omega
    have HBW := hid_ hbw
    clear hbw
    by_cases c4 : p < o4
    · go_wp2_with fail
      refine (filled1_any o0 o1 o2 false o4 o5 p hz gP _ w3 w4 wp).mono ?_
      rintro e _ ⟨rfl, rfl⟩
      rw [show betterM ⟨o0, o1, o2, false, o4, o5⟩ p = p - o4 from rfl, HBW.out]
      have d5 : p - o4 < 0 := by omega
      have HF : Hid (ro = ordZo ∧ rf = 0 ∧ re = 160) := hid_ (by have h := fld_1 (q := q) (p := p) HCB.out (by rw [← Bool.not_eq_true]; intro h; simp only [fldB, betterM, Bool.and_eq_true, decide_eq_true_eq, Bool.false_eq_true, if_false, if_true] at h; omega); exact ⟨by rw [← HR.out.2.2, h.2.2], by rw [← HR.out.2.1, h.2.1], by rw [← HR.out.1, h.1]⟩)
      clear HR
      have LER : Hid (w.heap.size ≤ gR) := hid_ (by rw [HHZ.out]; exact HLR.out)
      have KS := hid_ ((((((f1R.out.set 0 (.int .u64 0)).set 1 (.string ⟨#[]⟩)).set 2 (.string ⟨#[]⟩)).set 3 (.bool false)).set 4 (.int .i64 0)).set 5 (.int .i64 0))
      have BS := hid_ ((((((f1B.out.setBx (g := gR) (j := 0) LER.out (.int .u64 0)).setBx (g := gR) (j := 1) LER.out (.string ⟨#[]⟩)).setBx (g := gR) (j := 2) LER.out (.string ⟨#[]⟩)).setBx (g := gR) (j := 3) LER.out (.bool false)).setBx (g := gR) (j := 4) LER.out (.int .i64 0)).setBx (g := gR) (j := 5) LER.out (.int .i64 0))
      have z0 := f1R.out.cell 0 rfl
      have z1 := f1R.out.cell 1 rfl
      have z2 := f1R.out.cell 2 rfl
      have z3 := f1R.out.cell 3 rfl
      have z4 := f1R.out.cell 4 rfl
      have z5 := f1R.out.cell 5 rfl
      have zf := fun j => f1R.out.frozen j
      go_wp2
      refine bodyPost_ret (results_ctt rfl _ _ gR 30 _ (0, 0) _ rfl KS.out Try.underlying30 rfl (by kernel_rfl)) rfl ?_
      exact ⟨by rw [HF.out.1, HF.out.2.1, HF.out.2.2]; rfl, BS.out⟩
    obtain ⟨m, hm⟩ : ∃ m : Int, p - o4 = m := ⟨_, rfl⟩
    have HM := hid_ hm
    have d5 : ¬ m < 0 := by omega
    have HBW : Hid (wrap64 m = m) := hid_ (by rw [← hm]; exact HBW.out)
    have C123 := hid_ (And.intro c1 (And.intro c2 (And.intro c3 c4)))
    clear hm
    go_wp2_with fail
    refine (filled1_any o0 o1 o2 false o4 o5 p hz gP _ w3 w4 wp).mono ?_
    rintro e _ ⟨rfl, rfl⟩
    rw [show betterM ⟨o0, o1, o2, false, o4, o5⟩ p = m from HM.out, HBW.out]
    go_wp2_with fail
    refine (filled1_any o0 o1 o2 false o4 o5 p hz gP _ w3 w4 wp).mono ?_
    rintro e _ ⟨rfl, rfl⟩
    rw [show betterM ⟨o0, o1, o2, false, o4, o5⟩ p = m from HM.out, HBW.out]
    go_wp2_with fail
    refine (mulI_big m q (by have := PQ.out; have := C123.out; have := HM.out; have := HPB.out; omega) (by have := PQ.out; have := C123.out; omega) _).mono ?_
    rintro e _ ⟨mv, mr, rfl, rfl⟩
    obtain ⟨pr, hpr⟩ : ∃ x : Int, m * q = x := ⟨_, rfl⟩
    have HF : Hid (ro = ⟨o0, o1, o2, false, o4, o5 - q⟩ ∧ rf = 0 ∧ re = 0) := hid_ (by have h := fld_2 (q := q) (p := p) HCB.out (by have := PQ.out; have := C123.out; simp only [fldB, betterM, Bool.and_eq_true, decide_eq_true_eq, Bool.false_eq_true, if_false, if_true]; omega); exact ⟨by rw [← HR.out.2.2, h.2.2], by rw [← HR.out.2.1, h.2.1]; rfl, by rw [← HR.out.1, h.1]⟩)
    clear HR HM HBW hpr
    have hlw : wrap64 (o5 - q) = o5 - q := by have := PQ.out; unfold wrap64; omega
    have HLW := hid_ hlw
    clear hlw
    have LEO : Hid (w.heap.size ≤ hz) := hid_ (Nat.le_of_eq HHZ.out)
    have KR := hid_ (f1R.out.far (g' := hz) (j := 5) HD.out (.int .i64 (wrap64 (o5 - q))))
    have BO := hid_ (f1B.out.setBx (g := hz) (j := 5) LEO.out (.int .i64 (wrap64 (o5 - q))))
    have wf := fun j => f1O.out.frozen j
    have LER : Hid (w.heap.size ≤ gR) := hid_ (by rw [HHZ.out]; exact HLR.out)
    have KS := hid_ ((((((KR.out.set 0 (.int .u64 o0)).set 1 (.string o1)).set 2 (.string o2)).set 3 (.bool false)).set 4 (.int .i64 o4)).set 5 (.int .i64 (wrap64 (o5 - q))))
    have BS := hid_ ((((((BO.out.setBx (g := gR) (j := 0) LER.out (.int .u64 o0)).setBx (g := gR) (j := 1) LER.out (.string o1)).setBx (g := gR) (j := 2) LER.out (.string o2)).setBx (g := gR) (j := 3) LER.out (.bool false)).setBx (g := gR) (j := 4) LER.out (.int .i64 o4)).setBx (g := gR) (j := 5) LER.out (.int .i64 (wrap64 (o5 - q))))
    have z0 := f1R.out.cell 0 rfl
    have z1 := f1R.out.cell 1 rfl
    have z2 := f1R.out.cell 2 rfl
    have z3 := f1R.out.cell 3 rfl
    have z4 := f1R.out.cell 4 rfl
    have z5 := f1R.out.cell 5 rfl
    have zf := fun j => f1R.out.frozen j
    have hne := HD.out
    have hne' := HD.out.symm
    go_wp2
    refine bodyPost_ret (results_ctt rfl _ _ gR 30 _ (0, 0) _ rfl KS.out Try.underlying30 rfl (by kernel_rfl)) rfl ?_
    exact ⟨by rw [HF.out.1, HF.out.2.1, HF.out.2.2, HLW.out]; rfl, BS.out⟩
  · have hbw : wrap64 (o4 - p) = o4 - p := by have := PQ.out; have := HPB.out; unfold wrap64; omega
    have HBW := hid_ hbw
    clear hbw
    by_cases c4 : o4 < p
    · have HF : Hid (ro = ordZo ∧ rf = 0 ∧ re = 160) := hid_ (by have h := fld_1 (q := q) (p := p) HCB.out (by rw [← Bool.not_eq_true]; intro h; simp only [fldB, betterM, Bool.and_eq_true, decide_eq_true_eq, Bool.false_eq_true, if_false, if_true] at h; omega); exact ⟨by rw [← HR.out.2.2, h.2.2], by rw [← HR.out.2.1, h.2.1], by rw [← HR.out.1, h.1]⟩)
      clear HR
      have LER : Hid (w.heap.size ≤ gR) := hid_ (by rw [HHZ.out]; exact HLR.out)
      have KS := hid_ ((((((f1R.out.set 0 (.int .u64 0)).set 1 (.string ⟨#[]⟩)).set 2 (.string ⟨#[]⟩)).set 3 (.bool false)).set 4 (.int .i64 0)).set 5 (.int .i64 0))
      have BS := hid_ ((((((f1B.out.setBx (g := gR) (j := 0) LER.out (.int .u64 0)).setBx (g := gR) (j := 1) LER.out (.string ⟨#[]⟩)).setBx (g := gR) (j := 2) LER.out (.string ⟨#[]⟩)).setBx (g := gR) (j := 3) LER.out (.bool false)).setBx (g := gR) (j := 4) LER.out (.int .i64 0)).setBx (g := gR) (j := 5) LER.out (.int .i64 0))
      have z0 := f1R.out.cell 0 rfl
      have z1 := f1R.out.cell 1 rfl
      have z2 := f1R.out.cell 2 rfl
      have z3 := f1R.out.cell 3 rfl
      have z4 := f1R.out.cell 4 rfl
      have z5 := f1R.out.cell 5 rfl
      have zf := fun j => f1R.out.frozen j
      go_wp2
      refine bodyPost_ret (results_ctt rfl _ _ gR 30 _ (0, 0) _ rfl KS.out Try.underlying30 rfl (by kernel_rfl)) rfl ?_
      exact ⟨by rw [HF.out.1, HF.out.2.1, HF.out.2.2]; rfl, BS.out⟩
    obtain ⟨m, hm⟩ : ∃ m : Int, o4 - p = m := ⟨_, rfl⟩
    have HM := hid_ hm
    have d5 : ¬ m < 0 := by omega
    have HBW : Hid (wrap64 m = m) := hid_ (by rw [← hm]; exact HBW.out)
    have C123 := hid_ (And.intro c1 (And.intro c2 (And.intro c3 c4)))
    clear hm
    go_wp2_with fail
    refine (filled1_any o0 o1 o2 true o4 o5 p hz gP _ w3 w4 wp).mono ?_
    rintro e _ ⟨rfl, rfl⟩
    rw [show betterM ⟨o0, o1, o2, true, o4, o5⟩ p = m from HM.out, HBW.out]
    go_wp2_with fail
    refine (filled1_any o0 o1 o2 true o4 o5 p hz gP _ w3 w4 wp).mono ?_
    rintro e _ ⟨rfl, rfl⟩
    rw [show betterM ⟨o0, o1, o2, true, o4, o5⟩ p = m from HM.out, HBW.out]
    go_wp2_with fail
    refine (mulI_any m q (by have := PQ.out; have := C123.out; have := HM.out; omega) (by have := PQ.out; have := C123.out; omega) _).mono ?_
    rintro e _ ⟨rfl, rfl⟩
    obtain ⟨pr, hpr⟩ : ∃ x : Int, m * q = x := ⟨_, rfl⟩
    rw [hpr]
    have HF : Hid (ro = ⟨o0, o1, o2, true, o4, o5 - q⟩ ∧ rf = pr ∧ re = 0) := hid_ (by have h := fld_2 (q := q) (p := p) HCB.out (by have := PQ.out; have := C123.out; simp only [fldB, betterM, Bool.and_eq_true, decide_eq_true_eq, Bool.false_eq_true, if_false, if_true]; omega); exact ⟨by rw [← HR.out.2.2, h.2.2], by rw [← HR.out.2.1, h.2.1]; rw [if_pos rfl, HM.out, hpr], by rw [← HR.out.1, h.1]⟩)
    clear HR HM HBW hpr
    have hlw : wrap64 (o5 - q) = o5 - q := by have := PQ.out; unfold wrap64; omega
    have HLW := hid_ hlw
    clear hlw
    have LEO : Hid (w.heap.size ≤ hz) := hid_ (Nat.le_of_eq HHZ.out)
    have KR := hid_ (f1R.out.far (g' := hz) (j := 5) HD.out (.int .i64 (wrap64 (o5 - q))))
    have BO := hid_ (f1B.out.setBx (g := hz) (j := 5) LEO.out (.int .i64 (wrap64 (o5 - q))))
    have wf := fun j => f1O.out.frozen j
    have LER : Hid (w.heap.size ≤ gR) := hid_ (by rw [HHZ.out]; exact HLR.out)
    have KS := hid_ ((((((KR.out.set 0 (.int .u64 o0)).set 1 (.string o1)).set 2 (.string o2)).set 3 (.bool true)).set 4 (.int .i64 o4)).set 5 (.int .i64 (wrap64 (o5 - q))))
    have BS := hid_ ((((((BO.out.setBx (g := gR) (j := 0) LER.out (.int .u64 o0)).setBx (g := gR) (j := 1) LER.out (.string o1)).setBx (g := gR) (j := 2) LER.out (.string o2)).setBx (g := gR) (j := 3) LER.out (.bool true)).setBx (g := gR) (j := 4) LER.out (.int .i64 o4)).setBx (g := gR) (j := 5) LER.out (.int .i64 (wrap64 (o5 - q))))
    have z0 := f1R.out.cell 0 rfl
    have z1 := f1R.out.cell 1 rfl
    have z2 := f1R.out.cell 2 rfl
    have z3 := f1R.out.cell 3 rfl
    have z4 := f1R.out.cell 4 rfl
    have z5 := f1R.out.cell 5 rfl
    have zf := fun j => f1R.out.frozen j
    have hne := HD.out
    have hne' := HD.out.symm
    go_wp2
    refine bodyPost_ret (results_ctt rfl _ _ gR 30 _ (0, 0) _ rfl KS.out Try.underlying30 rfl (by kernel_rfl)) rfl ?_
    exact ⟨by rw [HF.out.1, HF.out.2.1, HF.out.2.2, HLW.out]; rfl, BS.out⟩
end Go.Proofs.Ytlddpkbdmbafbaa
