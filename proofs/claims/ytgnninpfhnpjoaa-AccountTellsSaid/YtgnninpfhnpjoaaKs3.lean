/- slices.Collect, SortFunc, SortedFunc at places; maps.Keys. -/
import Derived.Test.YtgnninpfhnpjoaaKs2
import Derived.Test.YtgnninpfhnpjoaaSo12
import Derived.Test.YtgnninpfhnpjoaaShPlc
set_option linter.unusedSimpArgs false
set_option linter.unusedVariables false
namespace Go.Proofs.Ytgnninpfhnpjoaa
open Go.RowKit Go.Shelf Go.Maps Go.Lib Go.Sort
instance : Inhabited Plc := ⟨⟨⟨#[]⟩, ⟨#[]⟩⟩⟩
theorem lt_cmpP (x y : Plc) : ltOf cmpP x y = ltP x y := by
  unfold ltOf
  cases h : ltP x y
  · exact decide_eq_false (fun e => by rw [cmpP_neg.1 e] at h; cases h)
  · exact decide_eq_true (cmpP_neg.2 h)
theorem swoP : SWO (ltOf cmpP) := by
  refine ⟨fun x => by rw [lt_cmpP, ltP_irr], fun x y z h1 h2 => ?_, fun x y z h1 h2 => ?_⟩
  · rw [lt_cmpP] at *
    exact ltP_trans h1 h2
  · rw [lt_cmpP] at *
    cases h : ltP x z
    · rfl
    · exfalso
      by_cases e : x = y
      · subst e; rw [h2] at h; cases h
      · rcases ltP_tot e with k | k
        · rw [h1] at k; cases k
        · have := ltP_trans k h
          rw [h2] at this; cases this
theorem sorted_up {d d' : Array Plc} (hn : d.toList.Nodup) (hP : PermIn 0 d.size d d') (hS : SortedIn (ltOf cmpP) 0 d.size d') : Up d'.toList ∧ ∀ p, p ∈ d'.toList ↔ p ∈ d.toList := by
  obtain ⟨hsz, _, hperm⟩ := hP
  have e1 : d'.extract 0 d.size = d' := by rw [← hsz]; exact Array.extract_size
  rw [e1, Array.extract_size] at hperm
  refine ⟨?_, fun p => hperm.mem_iff⟩
  have hn' : d'.toList.Nodup := hperm.nodup_iff.2 hn
  unfold Up
  rw [List.pairwise_iff_getElem]
  intro i j hi hj hij
  have hi' : i < d'.size := by simpa using hi
  have hj' : j < d'.size := by simpa using hj
  have := hS i j (Nat.zero_le _) hij (by omega)
  rw [getElem!_pos d' j hj', getElem!_pos d' i hi', lt_cmpP] at this
  have hne : d'.toList[i] ≠ d'.toList[j] := (List.pairwise_iff_getElem.1 hn') i j hi hj hij
  rcases ltP_tot hne with k | k
  · exact k
  · simp only [Array.getElem_toList] at k
    rw [this] at k; cases k
set_option maxRecDepth 10000 in
set_option maxHeartbeats 1000000 in
theorem sortP_any (base g cap : Nat) (cur : Array Value) (xs : List Plc) (w : World) (hbase : base ≤ g) (hb : w.heap[g]? = some (.cells cur plcT.e (0, 0))) (h1 : xs.length ≤ cap) (h2 : cap ≤ maxLen) (h3 : cur.size = cap * plcT.sz) (ht : cur.toList.take (xs.length * plcT.sz) = xs.flatMap plcT.enc) (hn : xs.Nodup) (hl : xs.length ≤ 100000) :
    Calls Try.prog 79 #[.slice (some ⟨g, 0, none⟩) xs.length cap, .func (.func 54) #[] #[]] w fun e w' => e = .returned (.tuple #[]) ∧ ∃ ys, ys.length = xs.length ∧ Up ys ∧ (∀ p, p ∈ ys ↔ p ∈ xs) ∧ Own plcT w' base (.slice (some ⟨g, 0, none⟩) xs.length cap) ys ∧ w.grownBy w' (some g) := by
  have hH : HoldsK plcT.enc plcT.sz w g 0 xs.toArray := own_holds hb ht
  have hg : g < w.heap.size := (Array.getElem?_eq_some_iff.1 hb).1
  have hz : xs.toArray.size = xs.length := by simp
  have := AnyQ.slices_SortFunc Try.plcSort plcT.sz (fun w => Try.isAgg75 w) (fun w => Try.sizeOf75 w) plcT.enc plcT.len plcT.one cmpP swoP 54 #[] g 0 cap xs.toArray w (enters_of Try.func54 (by kernel_rfl) rfl)
    (fun m os dk _ x y => order_grow x.who x.asset y.who y.asset _) hH hg (by simp; omega)
  rw [hz] at this
  refine this.mono ?_
  rintro e w' ⟨rfl, d', n, os, hP, hS, rfl⟩
  rw [← hz] at hP hS
  obtain ⟨hU, hM⟩ := sorted_up (d := xs.toArray) (by simpa using hn) hP hS
  obtain ⟨ho, hgr⟩ := own_sorted (T := plcT) (W := w) (base := base) (g := g) (cap := cap) (cur := cur) (n := xs.length) (d := d') ⟨n, os, rfl⟩ (by have := hP.1; simpa using this) hbase hb h1 h2 h3
  exact ⟨rfl, d'.toList, by have := hP.1; simpa using this, hU, fun p => by rw [hM p], ho, hgr⟩
set_option maxRecDepth 10000 in
set_option maxHeartbeats 2000000 in
theorem collectP_any (gf : Nat) (lb : Array Value) (w : World) (S : List Plc → Prop) (N : Nat) (hN : N ≤ 100000) (hF : Enters Try.prog gf)
    (hseq : SeqStopsK Fence.wide 2 Try.prog gf lb plcE KeepsWalks S (fun _ => True) N w) :
    Calls Try.prog 78 #[.func (.func gf) #[] lb] w fun e w' => ∃ v ss, e = .returned v ∧ S ss ∧ Own plcT w' w.heap.size v ss ∧ Bel w w' := by
  go_enter Try.func78, Try.ntmps78
  go_wp2_with fail
  refine (callsIn_wide.1 (appendSeqP_any 3 (by omega) gf lb w S N hN hF hseq)).mono ?_
  rintro e w' ⟨v, ss, rfl, hS, ho, hb⟩
  have HS := hid_ hS
  have HO := hid_ ho
  have HB := hid_ hb
  clear hS ho hb
  go_wp2
  go_ret
  exact ⟨_, ss, rfl, HS.out, HO.out, HB.out⟩
set_option maxRecDepth 10000 in
set_option maxHeartbeats 2000000 in
theorem keysP_any (b : Nat) (w : World) :
    Calls Try.prog 60 #[.map (some b)] w fun e w' => e = .returned (.func (.func 80) #[] #[.pointer (some ⟨w.heap.size, 0, none⟩)]) ∧ w' = w.alloc (.cells #[.map (some b)] 78) := by
  have hmf : ∀ (fn : Fn) (first cap : Array Value) (w : World), (Instr.makeFunc fn first cap).run Try.prog w = .ok (.func fn first cap) w := fun _ _ _ _ => rfl
  go_enter Try.func60, Try.ntmps60
  go_wp2
  go_ret
  exact ⟨rfl, rfl⟩
theorem own_open {w : World} {base : Nat} {v : Value} {xs : List Plc} (h : Own plcT w base v xs) (hn : xs ≠ []) : ∃ g cap cur, v = .slice (some ⟨g, 0, none⟩) xs.length cap ∧ base ≤ g ∧ w.heap[g]? = some (.cells cur plcT.e (0, 0)) ∧ xs.length ≤ cap ∧ cap ≤ maxLen ∧ cur.size = cap * plcT.sz ∧ cur.toList.take (xs.length * plcT.sz) = xs.flatMap plcT.enc := by
  rcases h.2 with ⟨_, h0⟩ | ⟨g, cap, cur, h1, h2, h3, h4, h5, h6, h7⟩
  · exact absurd (List.eq_nil_of_length_eq_zero h0) hn
  · exact ⟨g, cap, cur, h1, h2, h3, h4, h5, h6, h7⟩
set_option maxRecDepth 10000 in
set_option maxHeartbeats 2000000 in
theorem sortedP_any (Bm b nn : Nat) (D0 : DataW Value) (f : Plc → List Int) (P : List Plc) (w : World) (hb : w.cell? ⟨Bm, 0, none⟩ = some (.map (some b))) (hown : w.ownsMap Try.prog 75 hvR b nn D0)
    (hhas : ∀ l, Maps.has D0 l = true ↔ ∃ x, plcOk x ∧ l = plcL x ∧ f x ≠ []) (hsz : Maps.size D0 ≤ 100000) (hP : Up P) (hm : ∀ x, x ∈ P ↔ plcOk x ∧ f x ≠ []) (hne : P ≠ []) (hpl : P.length ≤ 100000) :
    Calls Try.prog 59 #[.func (.func 80) #[] #[.pointer (some ⟨Bm, 0, none⟩)], .func (.func 54) #[] #[]] w fun e w' => ∃ v, e = .returned v ∧ Own plcT w' w.heap.size v P ∧ Bel w w' := by
  have HST := hid_ (keys1_stops 2 (by omega) Bm b nn D0 f w hb hown hhas)
  have HP := hid_ hP
  have HM := hid_ hm
  have HNE := hid_ hne
  clear hb hown hhas hP hm hne
  go_enter Try.func59, Try.ntmps59
  go_wp2_with fail
  refine (collectP_any _ _ w _ _ hsz (enters_of Try.func80 (by kernel_rfl) rfl) HST.out).mono ?_
  rintro e w1 ⟨v, ss, rfl, ⟨hnd, hS1, hS2⟩, ho, hb1⟩
  have hmem : ∀ x, x ∈ ss ↔ x ∈ P := fun x => ⟨fun h => (HM.out x).2 (hS1 x h), fun h => hS2 x ((HM.out x).1 h).1 ((HM.out x).1 h).2⟩
  have hssne : ss ≠ [] := by
    intro e
    obtain ⟨x, hx⟩ := List.exists_mem_of_ne_nil _ HNE.out
    have := (hmem x).2 hx
    rw [e] at this
    cases this
  have hlen : ss.length = P.length := by
    have h1 : ss.Perm P := (List.perm_ext_iff_of_nodup hnd (HP.out.imp (fun h => ltP_ne h))).2 hmem
    exact h1.length_eq
  obtain ⟨g, cap, cur, rfl, c1, c2, c3, c4, c5, c6⟩ := own_open ho hssne
  have HB := hid_ hb1
  have HC := hid_ (And.intro hmem (And.intro hlen (And.intro c1 (And.intro c2 (And.intro c3 (And.intro c4 (And.intro c5 (And.intro c6 hnd))))))))
  clear ho hb1 hnd hS1 hS2 hmem hlen c1 c2 c3 c4 c5 c6 HST hssne
  go_wp2_with fail
  refine (sortP_any w.heap.size g cap cur ss w1 HC.out.2.2.1 HC.out.2.2.2.1 HC.out.2.2.2.2.1 HC.out.2.2.2.2.2.1 HC.out.2.2.2.2.2.2.1 HC.out.2.2.2.2.2.2.2.1 HC.out.2.2.2.2.2.2.2.2 (by have := HC.out.2.1; omega)).mono ?_
  rintro e w2 ⟨rfl, ys, hl, hU, hy, hO, hg⟩
  have HY : Hid (ys = P) := hid_ (up_ext hU HP.out (fun p => (hy p).trans (HC.out.1 p)))
  have HO := hid_ hO
  have HB2 : Hid (Bel w w2) := hid_ (Below.grown HB.out hg HB.out.size (fun k e => by cases e; exact HC.out.2.2.1))
  clear hl hU hy hO hg HC HB
  go_wp2
  go_ret
  exact ⟨_, rfl, by rw [← HY.out]; exact HO.out, HB2.out⟩
end Go.Proofs.Ytgnninpfhnpjoaa
