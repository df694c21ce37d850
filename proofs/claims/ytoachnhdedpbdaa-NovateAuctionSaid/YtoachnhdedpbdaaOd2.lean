/- cambistref13.Need. -/
import Derived.Test.YtoachnhdedpbdaaNv5
import Derived.Test.YtoachnhdedpbdaaNv10
import Derived.Test.YtoachnhdedpbdaaBox
import Derived.Deep.QuietTactic
import Derived.BigQuiet
import Derived.Test.YtoachnhdedpbdaaNv9
set_option linter.unusedSimpArgs false
set_option linter.unusedVariables false
namespace Go.Proofs.Ytoachnhdedpbdaa
open Go.RowKit Go.Lib
def chk (o : Ord) : Bool := checkB o.who o.market o.price o.left
def needA (o : Ord) : ByteArray := if chk o then (if o.buy then tailB o.market else headB o.market) else ⟨#[]⟩
def needN (o : Ord) : Int := if chk o then (if o.buy then o.price * o.left else o.left) else 0
def needE (o : Ord) : Int := if chk o then 0 else 130
theorem need_0 {o : Ord} (h : chk o = false) : needA o = ⟨#[]⟩ ∧ needN o = 0 ∧ needE o = 130 := by simp [needA, needN, needE, h]
theorem need_b {o : Ord} (h : chk o = true) (hb : o.buy = true) : needA o = tailB o.market ∧ needN o = o.price * o.left ∧ needE o = 0 := by simp [needA, needN, needE, h, hb]
theorem need_s {o : Ord} (h : chk o = true) (hb : o.buy = false) : needA o = headB o.market ∧ needN o = o.left ∧ needE o = 0 := by simp [needA, needN, needE, h, hb]
theorem chk_nums {o : Ord} (h : chk o = true) : ∃ p q : Nat, o.price = (p : Int) ∧ o.left = (q : Int) ∧ 1 ≤ p ∧ p ≤ 1000000 ∧ 1 ≤ q ∧ q ≤ 1000000 ∧ marketB o.market = true := by
  simp only [chk, checkB, withinB, Bool.and_eq_true, decide_eq_true_eq] at h
  refine ⟨o.price.toNat, o.left.toNat, by omega, by omega, by omega, by omega, by omega, by omega, h.1⟩
set_option maxRecDepth 10000 in
set_option maxHeartbeats 4000000 in
theorem need_any (o0 : Int) (o1 o2 : ByteArray) (o3 : Bool) (o4 o5 : Int) (w : World) (hs1 : o1.size ≤ 4294967280) (hs2 : o2.size ≤ 4294967280) :
    Calls Try.prog 55 #[.agg #[.int .u64 o0, .string o1, .string o2, .bool o3, .int .i64 o4, .int .i64 o5]] w fun e w' => e = .returned (.tuple #[.string (needA ⟨o0, o1, o2, o3, o4, o5⟩), .int .i64 (needN ⟨o0, o1, o2, o3, o4, o5⟩), .int .i64 (needE ⟨o0, o1, o2, o3, o4, o5⟩)]) ∧ Bel w w' := by
  have SZ : Hid (o1.size ≤ 4294967280 ∧ o2.size ≤ 4294967280) := hid_ ⟨hs1, hs2⟩
  clear hs1 hs2
  obtain ⟨ra, hra⟩ : ∃ ra, needA ⟨o0, o1, o2, o3, o4, o5⟩ = ra := ⟨_, rfl⟩
  rw [hra]
  have Hra := hid_ hra
  clear hra
  obtain ⟨rn, hrn⟩ : ∃ rn, needN ⟨o0, o1, o2, o3, o4, o5⟩ = rn := ⟨_, rfl⟩
  rw [hrn]
  have Hrn := hid_ hrn
  clear hrn
  obtain ⟨re, hre⟩ : ∃ re, needE ⟨o0, o1, o2, o3, o4, o5⟩ = re := ⟨_, rfl⟩
  rw [hre]
  have Hre := hid_ hre
  clear hre
  have k0 := Bx.new w 30 [.int .u64 o0, .string o1, .string o2, .bool o3, .int .i64 o4, .int .i64 o5]
  have k0 : Bx (w.alloc (.cells #[.int .u64 o0, .string o1, .string o2, .bool o3, .int .i64 o4, .int .i64 o5] 30)) (w.heap.size) 30 [.int .u64 o0, .string o1, .string o2, .bool o3, .int .i64 o4, .int .i64 o5] := k0
  have kB : Bel w (w.alloc (.cells #[.int .u64 o0, .string o1, .string o2, .bool o3, .int .i64 o4, .int .i64 o5] 30)) := (Bel.refl w).alloc _
  have FO := hid_ k0
  have FB := hid_ kB
  clear k0 kB
  go_enter Try.func55, Try.ntmps55
  go_wp2_with fail
  generalize (w.alloc (.cells #[.int .u64 o0, .string o1, .string o2, .bool o3, .int .i64 o4, .int .i64 o5] 30)) = W0 at FO FB ⊢
  obtain ⟨gO, hgO⟩ : ∃ g, w.heap.size = g := ⟨_, rfl⟩
  rw [hgO] at FO
  try rw [hgO]
  clear hgO
  have qO0 := FO.out.cell 0 rfl
  have qO1 := FO.out.cell 1 rfl
  have qO2 := FO.out.cell 2 rfl
  have qO3 := FO.out.cell 3 rfl
  have qO4 := FO.out.cell 4 rfl
  have qO5 := FO.out.cell 5 rfl
  refine (orderCheck_any o0 o1 o2 o3 o4 o5 _ SZ.out.1 SZ.out.2).mono ?_
  rintro e v1 ⟨rfl, b⟩
  have bb := b
  have f1O := hid_ (FO.out.bel bb)
  have f1B := hid_ (FB.out.trans bb)
  clear b bb FO FB qO0 qO1 qO2 qO3 qO4 qO5
  obtain ⟨cb, hcb⟩ : ∃ cb, chk ⟨o0, o1, o2, o3, o4, o5⟩ = cb := ⟨_, rfl⟩
  cases cb
  · have H0 := hid_ (need_0 hcb)
    have HE : checkE o1 o2 o4 o5 = 130 := check_no hcb
    rw [HE]
    have HA : Hid (ra = ⟨#[]⟩ ∧ rn = 0 ∧ re = 130) := hid_ ⟨by rw [← Hra.out, H0.out.1], by rw [← Hrn.out, H0.out.2.1], by rw [← Hre.out, H0.out.2.2]⟩
    clear hcb H0 HE Hra Hrn Hre
    go_wp2
    go_ret3
    exact ⟨by rw [HA.out.1, HA.out.2.1, HA.out.2.2]; rfl, f1B.out⟩
  obtain ⟨p, q, hp, hq, hp0, hp1, hq0, hq1, hm⟩ := chk_nums hcb
  simp only at hp hq hm
  subst hp
  subst hq
  have HE : checkE o1 o2 (p : Int) (q : Int) = 0 := check_yes hcb
  rw [HE]
  have HC := hid_ hcb
  have HM := hid_ (mkt_1 hm)
  have PQ := hid_ (And.intro hp1 hq1)
  clear HE hcb hm hp0 hp1 hq0 hq1
  have qO2 := f1O.out.cell 2 rfl
  go_wp2_with fail
  refine (market_any o2 _ SZ.out.2).mono ?_
  rintro e v2 ⟨rfl, b⟩
  have bb := b
  have f2O := hid_ (f1O.out.bel bb)
  have f2B := hid_ (f1B.out.trans bb)
  clear b bb f1O f1B qO2
  rw [HM.out.1, HM.out.2.1, HM.out.2.2]
  have qO0 := f2O.out.cell 0 rfl
  have qO1 := f2O.out.cell 1 rfl
  have qO2 := f2O.out.cell 2 rfl
  have qO3 := f2O.out.cell 3 rfl
  have qO4 := f2O.out.cell 4 rfl
  have qO5 := f2O.out.cell 5 rfl
  cases o3
  · have HA : Hid (ra = headB o2 ∧ rn = (q : Int) ∧ re = 0) := hid_ (by have h := need_s HC.out rfl; exact ⟨by rw [← Hra.out, h.1], by rw [← Hrn.out, h.2.1], by rw [← Hre.out, h.2.2]⟩)
    clear HC Hra Hrn Hre
    go_wp2
    go_quiet (fail)
    go_wp2
    go_ret3
    exact ⟨by rw [HA.out.1, HA.out.2.1, HA.out.2.2]; rfl, f2B.out.drewN _⟩
  have HA : Hid (ra = tailB o2 ∧ rn = ((p * q : Nat) : Int) ∧ re = 0) := hid_ (by have h := need_b HC.out rfl; exact ⟨by rw [← Hra.out, h.1], by rw [← Hrn.out, h.2.1]; simp, by rw [← Hre.out, h.2.2]⟩)
  clear HC Hra Hrn Hre
  go_wp2_with fail
  refine (mul_any p q PQ.out.1 PQ.out.2 _).mono ?_
  rintro e _ ⟨rfl, rfl⟩
  go_wp2
  go_ret3
  exact ⟨by rw [HA.out.1, HA.out.2.1, HA.out.2.2]; rfl, f2B.out⟩
end Go.Proofs.Ytoachnhdedpbdaa
set_option linter.unusedSimpArgs false
set_option linter.unusedVariables false
namespace Go.Proofs.Ytoachnhdedpbdaa
open Go.RowKit Go.Lib
set_option maxRecDepth 10000 in
set_option maxHeartbeats 4000000 in
theorem needR_any (o0 : Int) (o1 o2 : ByteArray) (o3 : Bool) (o4 o5 : Int) (w : World) (hs1 : o1.size ≤ 4294967280) (hs2 : o2.size ≤ 4294967280) :
    Calls Try.prog 57 #[.agg #[.int .u64 o0, .string o1, .string o2, .bool o3, .int .i64 o4, .int .i64 o5]] w fun e w' => e = .returned (.tuple #[.string (needA ⟨o0, o1, o2, o3, o4, o5⟩), .int .i64 (needN ⟨o0, o1, o2, o3, o4, o5⟩), .int .i64 (needE ⟨o0, o1, o2, o3, o4, o5⟩)]) ∧ Bel w w' := by
  have SZ : Hid (o1.size ≤ 4294967280 ∧ o2.size ≤ 4294967280) := hid_ ⟨hs1, hs2⟩
  clear hs1 hs2
  obtain ⟨ra, hra⟩ : ∃ ra, needA ⟨o0, o1, o2, o3, o4, o5⟩ = ra := ⟨_, rfl⟩
  rw [hra]
  have Hra := hid_ hra
  clear hra
  obtain ⟨rn, hrn⟩ : ∃ rn, needN ⟨o0, o1, o2, o3, o4, o5⟩ = rn := ⟨_, rfl⟩
  rw [hrn]
  have Hrn := hid_ hrn
  clear hrn
  obtain ⟨re, hre⟩ : ∃ re, needE ⟨o0, o1, o2, o3, o4, o5⟩ = re := ⟨_, rfl⟩
  rw [hre]
  have Hre := hid_ hre
  clear hre
  have k0 := Bx.new w 30 [.int .u64 o0, .string o1, .string o2, .bool o3, .int .i64 o4, .int .i64 o5]
  have k0 : Bx (w.alloc (.cells #[.int .u64 o0, .string o1, .string o2, .bool o3, .int .i64 o4, .int .i64 o5] 30)) (w.heap.size) 30 [.int .u64 o0, .string o1, .string o2, .bool o3, .int .i64 o4, .int .i64 o5] := k0
  have kB : Bel w (w.alloc (.cells #[.int .u64 o0, .string o1, .string o2, .bool o3, .int .i64 o4, .int .i64 o5] 30)) := (Bel.refl w).alloc _
  have FO := hid_ k0
  have FB := hid_ kB
  clear k0 kB
  go_enter Try.func57, Try.ntmps57
  go_wp2_with fail
  generalize (w.alloc (.cells #[.int .u64 o0, .string o1, .string o2, .bool o3, .int .i64 o4, .int .i64 o5] 30)) = W0 at FO FB ⊢
  obtain ⟨gO, hgO⟩ : ∃ g, w.heap.size = g := ⟨_, rfl⟩
  rw [hgO] at FO
  try rw [hgO]
  clear hgO
  have qO0 := FO.out.cell 0 rfl
  have qO1 := FO.out.cell 1 rfl
  have qO2 := FO.out.cell 2 rfl
  have qO3 := FO.out.cell 3 rfl
  have qO4 := FO.out.cell 4 rfl
  have qO5 := FO.out.cell 5 rfl
  refine (refCheck_any o0 o1 o2 o3 o4 o5 _ SZ.out.1 SZ.out.2).mono ?_
  rintro e v1 ⟨rfl, b⟩
  have bb := b
  have f1O := hid_ (FO.out.bel bb)
  have f1B := hid_ (FB.out.trans bb)
  clear b bb FO FB qO0 qO1 qO2 qO3 qO4 qO5
  obtain ⟨cb, hcb⟩ : ∃ cb, chk ⟨o0, o1, o2, o3, o4, o5⟩ = cb := ⟨_, rfl⟩
  cases cb
  · have H0 := hid_ (need_0 hcb)
    have HE : checkE o1 o2 o4 o5 = 130 := check_no hcb
    rw [HE]
    have HA : Hid (ra = ⟨#[]⟩ ∧ rn = 0 ∧ re = 130) := hid_ ⟨by rw [← Hra.out, H0.out.1], by rw [← Hrn.out, H0.out.2.1], by rw [← Hre.out, H0.out.2.2]⟩
    clear hcb H0 HE Hra Hrn Hre
    go_wp2
    go_ret3
    exact ⟨by rw [HA.out.1, HA.out.2.1, HA.out.2.2]; rfl, f1B.out⟩
  obtain ⟨p, q, hp, hq, hp0, hp1, hq0, hq1, hm⟩ := chk_nums hcb
  simp only at hp hq hm
  subst hp
  subst hq
  have HE : checkE o1 o2 (p : Int) (q : Int) = 0 := check_yes hcb
  rw [HE]
  have HC := hid_ hcb
  have HM := hid_ (mkt_1 hm)
  have PQ := hid_ (And.intro hp1 hq1)
  clear HE hcb hm hp0 hp1 hq0 hq1
  have qO2 := f1O.out.cell 2 rfl
  go_wp2_with fail
  refine (marketR_any o2 _ SZ.out.2).mono ?_
  rintro e v2 ⟨rfl, b⟩
  have bb := b
  have f2O := hid_ (f1O.out.bel bb)
  have f2B := hid_ (f1B.out.trans bb)
  clear b bb f1O f1B qO2
  rw [HM.out.1, HM.out.2.1, HM.out.2.2]
  have qO0 := f2O.out.cell 0 rfl
  have qO1 := f2O.out.cell 1 rfl
  have qO2 := f2O.out.cell 2 rfl
  have qO3 := f2O.out.cell 3 rfl
  have qO4 := f2O.out.cell 4 rfl
  have qO5 := f2O.out.cell 5 rfl
  cases o3
  · have HA : Hid (ra = headB o2 ∧ rn = (q : Int) ∧ re = 0) := hid_ (by have h := need_s HC.out rfl; exact ⟨by rw [← Hra.out, h.1], by rw [← Hrn.out, h.2.1], by rw [← Hre.out, h.2.2]⟩)
    clear HC Hra Hrn Hre
    go_wp2
    go_quiet (fail)
    go_wp2
    go_ret3
    exact ⟨by rw [HA.out.1, HA.out.2.1, HA.out.2.2]; rfl, f2B.out.drewN _⟩
  have HA : Hid (ra = tailB o2 ∧ rn = ((p * q : Nat) : Int) ∧ re = 0) := hid_ (by have h := need_b HC.out rfl; exact ⟨by rw [← Hra.out, h.1], by rw [← Hrn.out, h.2.1]; simp, by rw [← Hre.out, h.2.2]⟩)
  clear HC Hra Hrn Hre
  have hpq : p * q ≤ 1000000 * 1000000 := Nat.mul_le_mul PQ.out.1 PQ.out.2
  have hpc : (p : Int) * (q : Int) = ((p * q : Nat) : Int) := by simp
  generalize p * q = m at hpq hpc HA
  have w0 : wrap64 (m : Int) = (m : Int) := IntWalk.wrap64_in _ (by omega)
  have w1 : IntKind.i64.wrap (m : Int) = (m : Int) := by rw [IntWalk.i64_left]; exact w0
  clear hpq PQ
  go_wp2
  go_quiet (fail)
  go_wp2
  go_ret3
  exact ⟨by rw [HA.out.1, HA.out.2.1, HA.out.2.2]; rfl, f2B.out.drewN _⟩
end Go.Proofs.Ytoachnhdedpbdaa
