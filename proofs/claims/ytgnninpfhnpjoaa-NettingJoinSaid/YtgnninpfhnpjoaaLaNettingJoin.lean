/- NettingJoin, walked. -/
import Derived.Test.YtgnninpfhnpjoaaAw17
import Derived.Test.YtgnninpfhnpjoaaFew17
import Derived.Test.YtgnninpfhnpjoaaSameDue
import Derived.Test.YtgnninpfhnpjoaaOpDue
import Derived.Test.YtgnninpfhnpjoaaLit
set_option linter.unusedSimpArgs false
set_option linter.unusedVariables false
namespace Go.Proofs.Ytgnninpfhnpjoaa
open Go.RowKit Go.Lib
theorem i64w_wf' {x : Int} (h : (Lit.int .i64 x).wf = true) : i64w' x := by
  simp [Lit.wf, IntKind.min, IntKind.max, IntKind.signed, IntKind.bits] at h
  exact h
theorem due_sz {l : List Due} (hw : ∀ x ∈ l, dueWf x) : ∀ x ∈ l, x.who.size ≤ 9223372036854775807 ∧ x.asset.size ≤ 9223372036854775807 ∧ i64w' x.amount := fun x hx => ⟨(hw x hx).1, (hw x hx).2.1, i64w_wf' (hw x hx).2.2⟩
theorem net_sz {l : List Due} (hw : ∀ x ∈ l, x.who.size ≤ 9223372036854775807 ∧ x.asset.size ≤ 9223372036854775807 ∧ i64w' x.amount) : ∀ x ∈ netO l, x.who.size ≤ 9223372036854775807 ∧ x.asset.size ≤ 9223372036854775807 ∧ i64w' x.amount := fun x hx => by
  obtain ⟨y, hy, e1, e2⟩ := net_mem hx
  have := hw y hy
  rw [e1, e2] at this
  exact ⟨this.1, this.2.1, net_i64 hx⟩
set_option maxRecDepth 10000 in
set_option maxHeartbeats 4000000 in
theorem walkNettingJoin (w : World) (A : Option Addr) (n c : Nat) (l : List Due) (ha : n ≤ c ∧ Row dueT w A n l ∧ ∀ x ∈ l, dueWf x) (B : Option Addr) (m d : Nat) (k : List Due) (hb : m ≤ d ∧ Row dueT w B m k ∧ ∀ x ∈ k, dueWf x) : Calls Try.prog 7 #[.slice A n c, .slice B m d] w fun e w' => e = .returned (.bool true) ∧ Bel w w' := by
  obtain ⟨hncA, hA, hwA⟩ := ha
  have H63A := hid_ hA.2.1
  have h63A := hA.2.1
  have HNCA := hid_ hncA
  have HZA := hid_ (due_sz hwA)
  have HLA := hid_ hA.1
  have FA := hid_ hA
  clear hncA hA hwA
  obtain ⟨hncD, hD, hwD⟩ := hb
  have H63D := hid_ hD.2.1
  have h63D := hD.2.1
  have HNCD := hid_ hncD
  have HZD := hid_ (due_sz hwD)
  have HLD := hid_ hD.1
  have FD := hid_ hD
  clear hncD hD hwD
  have FB := hid_ (Bel.refl w)
  go_enter Try.func7, Try.ntmps7
  go_wp2_with fail
  refine (awake17 _).mono ?_
  rintro e v1 ⟨rfl, b⟩
  have bb := b
  have f1A := hid_ (FA.out.bel bb)
  have f1D := hid_ (FD.out.bel bb)
  have f1B := hid_ (FB.out.trans bb)
  clear b bb FA FD FB
  go_wp2_with fail
  refine (few17_any A n c l _ f1A.out).mono ?_
  rintro e v2 ⟨rfl, b⟩
  have bb := b
  have f2A := hid_ (f1A.out.bel bb)
  have f2D := hid_ (f1D.out.bel bb)
  have f2B := hid_ (f1B.out.trans bb)
  clear b bb f1A f1D f1B
  obtain ⟨fb, hfb⟩ : ∃ fb, few17 l = fb := ⟨_, rfl⟩
  rw [hfb]
  cases fb
  · clear hfb
    go_wp2
    go_ret
    exact ⟨rfl, f2B.out⟩
  have HQA := hid_ (few17_iff.1 hfb)
  have HNA : Hid (n ≤ 90000) := hid_ (by have h1 := HQA.out.1; have h2 := HLA.out; omega)
  clear hfb
  go_wp2_with fail
  refine (few17_any B m d k _ f2D.out).mono ?_
  rintro e v3 ⟨rfl, b⟩
  have bb := b
  have f3A := hid_ (f2A.out.bel bb)
  have f3D := hid_ (f2D.out.bel bb)
  have f3B := hid_ (f2B.out.trans bb)
  clear b bb f2A f2D f2B
  obtain ⟨fb, hfb⟩ : ∃ fb, few17 k = fb := ⟨_, rfl⟩
  rw [hfb]
  cases fb
  · clear hfb
    go_wp2
    go_ret
    exact ⟨rfl, f3B.out⟩
  have HQD := hid_ (few17_iff.1 hfb)
  have HND : Hid (m ≤ 90000) := hid_ (by have h1 := HQD.out.1; have h2 := HLD.out; omega)
  clear hfb
  by_cases h1 : 50 < n
  · skip
    go_wp2
    go_ret
    exact ⟨rfl, f3B.out⟩
  have d1 : decide (50 < n) = false := decide_eq_false h1
  by_cases h2 : 50 < m
  · skip
    go_wp2
    go_ret
    exact ⟨rfl, f3B.out⟩
  have d2 : decide (50 < m) = false := decide_eq_false h2
  go_wp2_with fail
  refine (net_any A n c l _ f3A.out HNA.out HZA.out).mono ?_
  rintro e v4 ⟨v, rfl, o, b⟩
  have bb := b
  clear d1 d2 h1 h2
  obtain ⟨A5, c5, rfl, hc5, r5⟩ := o.reads
  have HLX := hid_ r5.1
  obtain ⟨n5, hn5⟩ : ∃ q, (netO l).length = q := ⟨_, rfl⟩
  rw [hn5] at r5 ⊢
  have HN5 : Hid (n5 ≤ 100) := hid_ (by have h1 := net_len l; have h2 := HQA.out.1; omega)
  clear o hc5 hn5
  have f4A := hid_ (f3A.out.bel bb)
  have f4D := hid_ (f3D.out.bel bb)
  have f4B := hid_ (f3B.out.trans bb)
  have f4X := hid_ r5
  clear b bb f3A f3D f3B r5
  go_wp2_with fail
  refine (net_any B m d k _ f4D.out HND.out HZD.out).mono ?_
  rintro e v5 ⟨v, rfl, o, b⟩
  have bb := b
  obtain ⟨A6, c6, rfl, hc6, r6⟩ := o.reads
  obtain ⟨n6, hn6⟩ : ∃ q, (netO k).length = q := ⟨_, rfl⟩
  rw [hn6] at r6 ⊢
  have HN6 : Hid (n6 ≤ 100) := hid_ (by have h1 := net_len k; have h2 := HQD.out.1; omega)
  clear o hc6 hn6
  have f5A := hid_ (f4A.out.bel bb)
  have f5D := hid_ (f4D.out.bel bb)
  have f5B := hid_ (f4B.out.trans bb)
  have f5X := hid_ (f4X.out.bel bb)
  have f5Y := hid_ r6
  clear b bb f4A f4D f4B f4X r6
  obtain ⟨pa, hpa⟩ : ∃ q, netE l = q := ⟨_, rfl⟩
  rw [hpa]
  obtain ⟨pb, hpb⟩ : ∃ q, netE k = q := ⟨_, rfl⟩
  rw [hpb]
  by_cases h0a : pa = 0
  case neg =>
    have i0 : (pa == 0) = false := by simp [h0a]
    have i1 : (pa != 0) = true := by simp [h0a]
    clear hpa hpb h0a
    go_wp2
    go_ret
    exact ⟨rfl, f5B.out⟩
  subst h0a
  by_cases h0b : pb = 0
  case neg =>
    have i0 : (pb == 0) = false := by simp [h0b]
    have i1 : (pb != 0) = true := by simp [h0b]
    clear hpa hpb h0b
    go_wp2
    go_ret
    exact ⟨rfl, f5B.out⟩
  subst h0b
  have HJ := hid_ (net_join (netE_ok hpa) (netE_ok hpb))
  clear hpa hpb
  go_upto_region 8 with (fail)
  obtain ⟨W0, hW0⟩ : ∃ W0, v5 = W0 := ⟨_, rfl⟩
  rw [hW0] at f5A f5D f5B f5X f5Y ⊢
  clear hW0
  have HLE := hid_ (And.intro f5X.out.1 (And.intro f5Y.out.1 (And.intro f5A.out.1 f5D.out.1)))
  go_wp2_with (first
    | (at_builtin; refine wpApp (w0 := W0) dueS rfl _ _ rfl _ [] (netO l) A5 n5 c5 rfl rfl (Own.litE (T := dueT) W0 W0.heap.size _ _ rfl rfl (Nat.le_refl _)) (f5X.out.bel ((Bel.refl W0).alloc _)) ((Bel.refl W0).alloc _) (by have h1 := HLE.out; have h2 := HN5.out; have h3 := HN6.out; have h4 := HQA.out.1; have h5 := HQD.out.1; have h6 := HLA.out; have h7 := HLD.out; simp only [List.length_append, List.length_nil]; omega) ?_; intro v8 x8 hO8 hb8 _ _)
    | (at_builtin; refine wpApp (w0 := W0) dueS rfl _ _ rfl _ ([] ++ netO l) (netO k) A6 n6 c6 rfl rfl hO8 (f5Y.out.bel hb8) hb8 (by have h1 := HLE.out; have h2 := HN5.out; have h3 := HN6.out; have h4 := HQA.out.1; have h5 := HQD.out.1; have h6 := HLA.out; have h7 := HLD.out; simp only [List.length_append, List.length_nil]; omega) ?_; intro v9 x9 hO9 hb9 _ _))
  have hO9 : Own dueT x9 W0.heap.size v9 (netO l ++ netO k) := by simpa using hO9
  obtain ⟨L8, k8, rfl, hk8, rl8⟩ := hO9.reads
  have hb9 : Bel W0 x9 := hb9
  have g8A := hid_ (f5A.out.bel hb9)
  have g8D := hid_ (f5D.out.bel hb9)
  have g8B := hid_ (f5B.out.trans hb9)
  have g8X := hid_ (f5X.out.bel hb9)
  have g8Y := hid_ (f5Y.out.bel hb9)
  have RL8 := hid_ rl8
  clear hO8 hb8 hO9 hb9 hk8 rl8 f5A f5D f5B f5X f5Y
  refine (net_any L8 _ k8 (netO l ++ netO k) _ RL8.out (by have h1 := HLE.out; have h2 := HN5.out; have h3 := HN6.out; simp only [List.length_append]; omega) (fun x hx => by rcases List.mem_append.1 hx with h | h; exact net_sz HZA.out x h; exact net_sz HZD.out x h)).mono ?_
  rintro e v9 ⟨v, rfl, o, b⟩
  have bb := b
  rw [HJ.out.1]
  rw [HJ.out.2] at o
  obtain ⟨A7, c7, rfl, hc7, r7⟩ := o.reads
  clear o hc7
  have f9A := hid_ (g8A.out.bel bb)
  have f9D := hid_ (g8D.out.bel bb)
  have f9B := hid_ (g8B.out.trans bb)
  have f9X := hid_ (g8X.out.bel bb)
  have f9Y := hid_ (g8Y.out.bel bb)
  have f9L8 := hid_ (RL8.out.bel bb)
  have f9U := hid_ r7
  clear b bb g8A g8D g8B g8X g8Y RL8 r7
  clear f9L8 f9X f9Y
  go_upto_region 9 with (fail)
  obtain ⟨W1, hW1⟩ : ∃ W1, v9 = W1 := ⟨_, rfl⟩
  rw [hW1] at f9A f9D f9B f9U ⊢
  clear hW1
  go_wp2_with (first
    | (at_builtin; refine wpApp (w0 := W1) dueS rfl _ _ rfl _ [] (l) A n c rfl rfl (Own.litE (T := dueT) W1 W1.heap.size _ _ rfl rfl (Nat.le_refl _)) (f9A.out.bel ((Bel.refl W1).alloc _)) ((Bel.refl W1).alloc _) (by have h1 := HLE.out; have h2 := HN5.out; have h3 := HN6.out; have h4 := HQA.out.1; have h5 := HQD.out.1; have h6 := HLA.out; have h7 := HLD.out; simp only [List.length_append, List.length_nil]; omega) ?_; intro v8 x8 hO8 hb8 _ _)
    | (at_builtin; refine wpApp (w0 := W1) dueS rfl _ _ rfl _ ([] ++ l) (k) B m d rfl rfl hO8 (f9D.out.bel hb8) hb8 (by have h1 := HLE.out; have h2 := HN5.out; have h3 := HN6.out; have h4 := HQA.out.1; have h5 := HQD.out.1; have h6 := HLA.out; have h7 := HLD.out; simp only [List.length_append, List.length_nil]; omega) ?_; intro v9 x9 hO9 hb9 _ _))
  have hO9 : Own dueT x9 W1.heap.size v9 (l ++ k) := by simpa using hO9
  obtain ⟨L9, k9, rfl, hk9, rl9⟩ := hO9.reads
  have hb9 : Bel W1 x9 := hb9
  have g9A := hid_ (f9A.out.bel hb9)
  have g9D := hid_ (f9D.out.bel hb9)
  have g9B := hid_ (f9B.out.trans hb9)
  have g9U := hid_ (f9U.out.bel hb9)
  have RL9 := hid_ rl9
  clear hO8 hb8 hO9 hb9 hk9 rl9 f9A f9D f9B f9U
  refine (net_any L9 _ k9 (l ++ k) _ RL9.out (by have h4 := HQA.out.1; have h5 := HQD.out.1; simp only [List.length_append]; omega) (fun x hx => by rcases List.mem_append.1 hx with h | h; exact HZA.out x h; exact HZD.out x h)).mono ?_
  rintro e v10 ⟨v, rfl, o, b⟩
  have bb := b
  obtain ⟨A8, c8, rfl, hc8, r8⟩ := o.reads
  clear o hc8
  have f10A := hid_ (g9A.out.bel bb)
  have f10D := hid_ (g9D.out.bel bb)
  have f10B := hid_ (g9B.out.trans bb)
  have f10U := hid_ (g9U.out.bel bb)
  have f10L9 := hid_ (RL9.out.bel bb)
  have f10V := hid_ r8
  clear b bb g9A g9D g9B g9U RL9 r8
  go_wp2_with fail
  refine (sameDue_any A7 _ c7 (netO (l ++ k)) A8 _ c8 (netO (l ++ k)) _ f10U.out f10V.out).mono ?_
  rintro e v11 ⟨rfl, b⟩
  have bb := b
  rw [eqB_1 (rfl : netO (l ++ k) = netO (l ++ k))]
  have f11A := hid_ (f10A.out.bel bb)
  have f11D := hid_ (f10D.out.bel bb)
  have f11B := hid_ (f10B.out.trans bb)
  have f11U := hid_ (f10U.out.bel bb)
  have f11L9 := hid_ (f10L9.out.bel bb)
  have f11V := hid_ (f10V.out.bel bb)
  clear b bb f10A f10D f10B f10U f10L9 f10V
  obtain ⟨pj, hpj⟩ : ∃ q, netE (l ++ k) = q := ⟨_, rfl⟩
  rw [hpj]
  clear hpj HJ
  go_wp2
  go_ret
  exact ⟨rfl, f11B.out⟩
end Go.Proofs.Ytgnninpfhnpjoaa
