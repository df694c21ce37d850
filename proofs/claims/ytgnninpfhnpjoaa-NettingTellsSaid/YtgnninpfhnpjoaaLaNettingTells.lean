/- NettingTells, walked. -/
import Derived.Test.YtgnninpfhnpjoaaAw17
import Derived.Test.YtgnninpfhnpjoaaFew17
import Derived.Test.YtgnninpfhnpjoaaSameDue
import Derived.Test.YtgnninpfhnpjoaaOpDue
import Derived.Test.YtgnninpfhnpjoaaLit
import Derived.Test.YtgnninpfhnpjoaaSameLeg
import Derived.Test.YtgnninpfhnpjoaaNtR2
set_option linter.unusedSimpArgs false
set_option linter.unusedVariables false
namespace Go.Proofs.Ytgnninpfhnpjoaa
open Go.RowKit Go.Lib
theorem i64w_wf' {x : Int} (h : (Lit.int .i64 x).wf = true) : i64w' x := by
  simp [Lit.wf, IntKind.min, IntKind.max, IntKind.signed, IntKind.bits] at h
  exact h
theorem due_sz {l : List Due} (hw : ∀ x ∈ l, dueWf x) : ∀ x ∈ l, x.who.size ≤ 9223372036854775807 ∧ x.asset.size ≤ 9223372036854775807 ∧ i64w' x.amount := fun x hx => ⟨(hw x hx).1, (hw x hx).2.1, i64w_wf' (hw x hx).2.2⟩
theorem net_sz {l : List Due} (hw : ∀ x ∈ l, x.who.size ≤ 9223372036854775807 ∧ x.asset.size ≤ 9223372036854775807 ∧ i64w' x.amount) : ∀ x ∈ netO l, x.who.size ≤ 9223372036854775807 ∧ x.asset.size ≤ 9223372036854775807 ∧ i64w' x.amount := fun x hx => by
  obtain ⟨y, hy, e1, e2⟩ := net_mem hx
  have := hw y hy
  rw [e1, e2] at this
  exact ⟨this.1, this.2.1, net_i64 hx⟩
set_option maxRecDepth 10000 in
set_option maxHeartbeats 4000000 in
theorem walkNettingTells (w : World) (A : Option Addr) (n c : Nat) (l : List Due) (ha : n ≤ c ∧ Row dueT w A n l ∧ ∀ x ∈ l, dueWf x) : Calls Try.prog 3 #[.slice A n c] w fun e w' => e = .returned (.bool true) ∧ Bel w w' := by
  obtain ⟨hncA, hA, hwA⟩ := ha
  have H63A := hid_ hA.2.1
  have h63A := hA.2.1
  have HNCA := hid_ hncA
  have HZA := hid_ (due_sz hwA)
  have HLA := hid_ hA.1
  have FA := hid_ hA
  clear hncA hA hwA
  have FB := hid_ (Bel.refl w)
  go_enter Try.func3, Try.ntmps3
  go_wp2_with fail
  refine (awake17 _).mono ?_
  rintro e v1 ⟨rfl, b⟩
  have bb := b
  have f1A := hid_ (FA.out.bel bb)
  have f1B := hid_ (FB.out.trans bb)
  clear b bb FA FB
  go_wp2_with fail
  refine (few17_any A n c l _ f1A.out).mono ?_
  rintro e v2 ⟨rfl, b⟩
  have bb := b
  have f2A := hid_ (f1A.out.bel bb)
  have f2B := hid_ (f1B.out.trans bb)
  clear b bb f1A f1B
  obtain ⟨fb, hfb⟩ : ∃ fb, few17 l = fb := ⟨_, rfl⟩
  rw [hfb]
  cases fb
  · clear hfb
    go_wp2
    go_ret
    exact ⟨rfl, f2B.out⟩
  have HQA := hid_ (few17_iff.1 hfb)
  have HNA : Hid (n ≤ 90000) := hid_ (by have h1 := HQA.out.1; have h2 := HLA.out; omega)
  clear hfb
  go_wp2_with fail
  refine (net_any A n c l _ f2A.out HNA.out HZA.out).mono ?_
  rintro e v3 ⟨v, rfl, o, b⟩
  have bb := b
  obtain ⟨Q1, k1, rfl, hk1, q1⟩ := o.reads
  clear o hk1
  obtain ⟨e1, he1⟩ : ∃ q, netE l = q := ⟨_, rfl⟩
  have HE1 := hid_ he1
  rw [he1]
  clear he1
  have f3A := hid_ (f2A.out.bel bb)
  have f3B := hid_ (f2B.out.trans bb)
  have f3X1 := hid_ q1
  clear b bb f2A f2B q1
  go_wp2_with fail
  refine (netR_any A n c l _ f3A.out HNA.out HZA.out).mono ?_
  rintro e v4 ⟨v, rfl, o, b⟩
  have bb := b
  obtain ⟨Q2, k2, rfl, hk2, q2⟩ := o.reads
  clear o hk2
  rw [HE1.out]
  have f4A := hid_ (f3A.out.bel bb)
  have f4B := hid_ (f3B.out.trans bb)
  have f4X1 := hid_ (f3X1.out.bel bb)
  have f4X2 := hid_ q2
  clear b bb f3A f3B f3X1 q2
  go_wp2_with fail
  refine (gross_any A n c l _ f4A.out HNA.out HZA.out).mono ?_
  rintro e v5 ⟨v, rfl, o, b⟩
  have bb := b
  obtain ⟨Q3, k3, rfl, hk3, q3⟩ := o.reads
  clear o hk3
  obtain ⟨e2, he2⟩ : ∃ q, grossE l = q := ⟨_, rfl⟩
  have HE2 := hid_ he2
  rw [he2]
  clear he2
  have f5A := hid_ (f4A.out.bel bb)
  have f5B := hid_ (f4B.out.trans bb)
  have f5X1 := hid_ (f4X1.out.bel bb)
  have f5X2 := hid_ (f4X2.out.bel bb)
  have f5X3 := hid_ q3
  clear b bb f4A f4B f4X1 f4X2 q3
  go_wp2_with fail
  refine (grossR_any A n c l _ f5A.out HNA.out HZA.out).mono ?_
  rintro e v6 ⟨v, rfl, o, b⟩
  have bb := b
  obtain ⟨Q4, k4, rfl, hk4, q4⟩ := o.reads
  clear o hk4
  rw [HE2.out]
  have f6A := hid_ (f5A.out.bel bb)
  have f6B := hid_ (f5B.out.trans bb)
  have f6X1 := hid_ (f5X1.out.bel bb)
  have f6X2 := hid_ (f5X2.out.bel bb)
  have f6X3 := hid_ (f5X3.out.bel bb)
  have f6X4 := hid_ q4
  clear b bb f5A f5B f5X1 f5X2 f5X3 q4
  go_wp2_with fail
  refine (sameDue_any Q1 _ k1 (netO l) Q2 _ k2 (netO l) _ f6X1.out f6X2.out).mono ?_
  rintro e v7 ⟨rfl, b⟩
  have bb := b
  rw [eqB_1 (rfl : netO l = netO l)]
  have f7A := hid_ (f6A.out.bel bb)
  have f7B := hid_ (f6B.out.trans bb)
  have f7X1 := hid_ (f6X1.out.bel bb)
  have f7X2 := hid_ (f6X2.out.bel bb)
  have f7X3 := hid_ (f6X3.out.bel bb)
  have f7X4 := hid_ (f6X4.out.bel bb)
  clear b bb f6A f6B f6X1 f6X2 f6X3 f6X4
  go_wp2_with fail
  refine (sameDue_any Q3 _ k3 (grossO l) Q4 _ k4 (grossO l) _ f7X3.out f7X4.out).mono ?_
  rintro e v8 ⟨rfl, b⟩
  have bb := b
  rw [eqB_1 (rfl : grossO l = grossO l)]
  have f8A := hid_ (f7A.out.bel bb)
  have f8B := hid_ (f7B.out.trans bb)
  have f8X1 := hid_ (f7X1.out.bel bb)
  have f8X2 := hid_ (f7X2.out.bel bb)
  have f8X3 := hid_ (f7X3.out.bel bb)
  have f8X4 := hid_ (f7X4.out.bel bb)
  clear b bb f7A f7B f7X1 f7X2 f7X3 f7X4
  clear f8X1 f8X2 f8X3 f8X4
  go_wp2_with fail
  refine (legs_any A n c l _ f8A.out HNA.out).mono ?_
  rintro e v9 ⟨v, rfl, o, b⟩
  have bb := b
  obtain ⟨Q5, k5, rfl, hk5, q5⟩ := o.reads
  clear o hk5
  have f9A := hid_ (f8A.out.bel bb)
  have f9B := hid_ (f8B.out.trans bb)
  have f9X5 := hid_ q5
  clear b bb f8A f8B q5
  go_wp2_with fail
  refine (legsR_any A n c l _ f9A.out HNA.out).mono ?_
  rintro e v10 ⟨v, rfl, o, b⟩
  have bb := b
  obtain ⟨Q6, k6, rfl, hk6, q6⟩ := o.reads
  clear o hk6
  have f10A := hid_ (f9A.out.bel bb)
  have f10B := hid_ (f9B.out.trans bb)
  have f10X5 := hid_ (f9X5.out.bel bb)
  have f10X6 := hid_ q6
  clear b bb f9A f9B f9X5 q6
  go_wp2_with fail
  refine (sameLeg_any Q5 _ k5 l Q6 _ k6 l _ f10X5.out f10X6.out).mono ?_
  rintro e v11 ⟨rfl, b⟩
  have bb := b
  rw [eqB_1 (rfl : l = l)]
  have f11A := hid_ (f10A.out.bel bb)
  have f11B := hid_ (f10B.out.trans bb)
  have f11X5 := hid_ (f10X5.out.bel bb)
  have f11X6 := hid_ (f10X6.out.bel bb)
  clear b bb f10A f10B f10X5 f10X6
  clear f11X5 f11X6
  go_wp2_with fail
  refine (zero_any A n c l _ f11A.out HNA.out HZA.out).mono ?_
  rintro e v12 ⟨rfl, b⟩
  have bb := b
  obtain ⟨zb, hzb⟩ : ∃ q, zeroB l = q := ⟨_, rfl⟩
  have HZB := hid_ hzb
  rw [hzb]
  clear hzb
  have f12A := hid_ (f11A.out.bel bb)
  have f12B := hid_ (f11B.out.trans bb)
  clear b bb f11A f11B
  go_wp2_with fail
  refine (zeroR_any A n c l _ f12A.out HNA.out HZA.out).mono ?_
  rintro e v13 ⟨rfl, b⟩
  have bb := b
  rw [HZB.out]
  have f13A := hid_ (f12A.out.bel bb)
  have f13B := hid_ (f12B.out.trans bb)
  clear b bb f12A f12B
  go_wp2
  go_ret
  exact ⟨rfl, f13B.out⟩
end Go.Proofs.Ytgnninpfhnpjoaa
