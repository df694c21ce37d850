/- alloc.may, the document's Same. -/
import Derived.Test.YtboaidjhhlidkaaAl9
set_option linter.unusedSimpArgs false
set_option linter.unusedVariables false
namespace Go.Proofs.Ytboaidjhhlidkaa
open Go.RowKit
theorem decMem (F L : List Int) (x : Int) : decide (x ∈ [F, L].flatten) = (decide (x ∈ F) || decide (x ∈ L)) := by
  by_cases h1 : x ∈ F <;> by_cases h2 : x ∈ L <;> simp [h1, h2]
set_option maxRecDepth 10000 in
set_option maxHeartbeats 2000000 in
theorem may_anyA (h : Int) (A B : Option Addr) (n c m d : Nat) (F L : List Int) (x : Int) (w : World) (hA : Row intT w A n F) (hB : Row intT w B m L) (hs1 : n ≤ 400000) (hs2 : m ≤ 400000) :
    Calls Try.prog 63 #[.agg #[.int .i64 h, .slice A n c, .slice B m d], .int .i64 x] w fun e w' => e = .returned (.bool (mayP h F L x)) ∧ Bel w w' := by
  go_enter Try.func63, Try.ntmps63
  have q := fun j => cell_of_row (w.alloc (.cells #[.int .i64 h, .slice A n c, .slice B m d] 48)) w.heap.size j _ _ _ (heap_alloc_new w _)
  have hb : Bel w (w.alloc (.cells #[.int .i64 h, .slice A n c, .slice B m d] 48)) := (Bel.refl w).alloc _
  by_cases q1 : 2 ≤ x
  · by_cases q2 : x < h
    · have rS := Row.lit (T := svT) (w.alloc (.cells #[.int .i64 h, .slice A n c, .slice B m d] 48)) [(A, n, c), (B, m, d)] (0, 0) (by simp)
      have b2 := hb.alloc (.cells (List.flatMap svT.enc [(A, n, c), (B, m, d)]).toArray svT.e)
      rw [sizeAl] at rS
      have RS := rowsAt2 (a := (A, n, c)) (b := (B, m, d)) (hA.bel b2) (hB.bel b2)
      have hln : [F, L].flatten.length ≤ 1000000 := by simp [hA.1, hB.1]; omega
      have HM2 : Hid (mayP h F L x = !decide (x ∈ [F, L].flatten)) := by rw [mayP, decide_eq_true q1, decide_eq_true q2, Bool.true_and, Bool.true_and, decMem]; exact rfl
      go_wp2_with fail
      refine (all_any' (some ⟨w.heap.size + 1, 0, none⟩) 2 2 [(A, n, c), (B, m, d)] [F, L] _ rS RS hln).mono ?_
      rintro e w5 ⟨v5, rfl, o5, b5⟩
      have HB : Hid (Bel w w5) := b2.trans b5
      obtain ⟨X, k, rfl, _, r5⟩ := o5.reads
      have hlen : [F, L].flatten.length = F.length + L.length := by simp
      rw [hlen] at r5
      clear q hb rS RS b2 b5 o5 hln hlen
      go_wp2_with fail
      refine (contains_any X _ k [F, L].flatten x _ r5).mono ?_
      rintro e w6 ⟨rfl, hw⟩
      subst hw
      obtain ⟨b, hbb⟩ : ∃ b, decide (x ∈ [F, L].flatten) = b := ⟨_, rfl⟩
      rw [hbb] at HM2 ⊢
      clear hbb r5
      cases b
      all_goals go_wp2
      all_goals go_ret
      all_goals exact ⟨by rw [HM2.out]; rfl, HB.out⟩
    · have HM2 : Hid (mayP h F L x = false) := by rw [mayP, decide_eq_false q2, Bool.false_and, Bool.and_false]; exact rfl
      go_wp2
      all_goals go_ret
      all_goals exact ⟨by rw [HM2.out]; rfl, hb⟩
  · have HM2 : Hid (mayP h F L x = false) := by rw [mayP, decide_eq_false q1, Bool.false_and]; exact rfl
    go_wp2
    all_goals go_ret
    all_goals exact ⟨by rw [HM2.out]; rfl, hb⟩
set_option maxRecDepth 10000 in
set_option maxHeartbeats 2000000 in
theorem same_any (h h' : Int) (A B A' B' : Option Addr) (n c m d n' c' m' d' : Nat) (F L F' L' : List Int) (w : World) (hA : Row intT w A n F) (hB : Row intT w B m L) (hA' : Row intT w A' n' F') (hB' : Row intT w B' m' L') :
    Calls Try.prog 37 #[.agg #[.int .i64 h, .slice A n c, .slice B m d], .agg #[.int .i64 h', .slice A' n' c', .slice B' m' d']] w fun e w' => e = .returned (.bool (decide (F = F') && (decide (L = L') && decide (h = h')))) ∧ Bel w w' := by
  go_enter Try.func37, Try.ntmps37
  have k0 := blkOld' (heap_alloc_new w (.cells #[.int .i64 h, .slice A n c, .slice B m d] 48)) (.cells #[.int .i64 h', .slice A' n' c', .slice B' m' d'] 48)
  have k1 := heap_alloc_new (w.alloc (.cells #[.int .i64 h, .slice A n c, .slice B m d] 48)) (.cells #[.int .i64 h', .slice A' n' c', .slice B' m' d'] 48)
  rw [sizeAl] at k1
  have hb : Bel w ((w.alloc (.cells #[.int .i64 h, .slice A n c, .slice B m d] 48)).alloc (.cells #[.int .i64 h', .slice A' n' c', .slice B' m' d'] 48)) := ((Bel.refl w).alloc _).alloc _
  have q0 := fun j => cell_of_row _ _ j _ _ _ k0
  have q1 := fun j => cell_of_row _ _ j _ _ _ k1
  have K0 := hid_ k0
  have K1 := hid_ k1
  clear k0 k1
  go_wp2_with fail
  refine (ints_any A A' n c n' c' F F' _ (hA.bel hb) (hA'.bel hb)).mono ?_
  rintro e w1 ⟨rfl, b1⟩
  have k0 := b1.blk K0.out
  have k1 := b1.blk K1.out
  have hb1 := hb.trans b1
  clear q0 q1 K0 K1 hb b1
  have q0 := fun j => cell_of_row _ _ j _ _ _ k0
  have q1 := fun j => cell_of_row _ _ j _ _ _ k1
  have K0 := hid_ k0
  have K1 := hid_ k1
  clear k0 k1
  go_wp2_with fail
  refine (ints_any B B' m d m' d' L L' _ (hB.bel hb1) (hB'.bel hb1)).mono ?_
  rintro e w2 ⟨rfl, b2⟩
  have c0 := cell_of_row _ _ 0 _ _ _ (b2.blk K0.out)
  have c1 := cell_of_row _ _ 0 _ _ _ (b2.blk K1.out)
  simp only [List.getElem?_toArray, List.getElem?_cons_succ, List.getElem?_cons_zero] at c0 c1
  have HB : Hid (Bel w w2) := hb1.trans b2
  clear q0 q1 K0 K1 hb1 b2
  obtain ⟨b1, h1⟩ : ∃ b1, decide (F = F') = b1 := ⟨_, rfl⟩
  obtain ⟨b2, h2⟩ : ∃ b2, decide (L = L') = b2 := ⟨_, rfl⟩
  rw [h1, h2]
  have H1 := hid_ h1
  have H2 := hid_ h2
  clear h1 h2
  by_cases hh : h = h'
  · subst hh
    cases b1 <;> cases b2
    all_goals go_wp2
    all_goals go_ret
    all_goals exact ⟨by rw [H1.out, H2.out]; rfl, HB.out⟩
  · have hh' : (h == h') = false := by simp [hh]
    have H3 : Hid (decide (h = h') = false) := decide_eq_false hh
    cases b1 <;> cases b2
    all_goals go_wp2
    all_goals go_ret
    all_goals exact ⟨by rw [H1.out, H2.out, H3.out]; rfl, HB.out⟩
end Go.Proofs.Ytboaidjhhlidkaa
