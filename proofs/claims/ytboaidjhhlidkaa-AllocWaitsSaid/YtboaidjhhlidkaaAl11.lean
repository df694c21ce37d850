/- alloc.Check. -/
import Derived.Test.YtboaidjhhlidkaaAl10
set_option linter.unusedSimpArgs false
set_option linter.unusedVariables false
namespace Go.Proofs.Ytboaidjhhlidkaa
open Go.RowKit
set_option maxHeartbeats 1000000 in
theorem checkQ_any (b : Nat) (x : Int) (B : Option Addr) (m d : Nat) (L : List Int) (w : World) (hc : w.cell? ⟨b, 2, none⟩ = some (.slice B m d)) (hB : Row intT w B m L) :
    Calls Try.prog 69 #[.int .i64 x, .pointer (some ⟨b, 0, none⟩)] w fun e w' => e = .returned (.bool (decide (x ∈ L))) ∧ w = w' := by
  go_enter Try.func69, Try.ntmps69
  go_wp2_with fail
  refine (contains_any B m d L x w hB).mono ?_
  rintro e _ ⟨rfl, rfl⟩
  go_wp2
  go_ret
  exact ⟨rfl, rfl⟩
def bothB (F L : List Int) : Bool := F.any fun x => decide (x ∈ L)
theorem any_take {α : Type} (f : α → Bool) (l : List α) (k : Nat) {x : α} (h : l[k]? = some x) : (l.take (k + 1)).any f = ((l.take k).any f || f x) := by
  rw [List.take_add_one, h, List.any_append]
  simp
theorem any_true {α : Type} (f : α → Bool) (l : List α) (k : Nat) {x : α} (h : l[k]? = some x) (hx : f x = true) : l.any f = true := List.any_eq_true.2 ⟨x, List.mem_of_getElem? h, hx⟩
set_option maxRecDepth 10000 in
set_option maxHeartbeats 1000000 in
theorem indexCheck_any (A B : Option Addr) (n c m d b : Nat) (F L : List Int) (w : World) (h1 : Row intT w A n F) (hc : w.cell? ⟨b, 2, none⟩ = some (.slice B m d)) (hB : Row intT w B m L) :
    Calls Try.prog 118 #[.slice A n c, .func (.func 69) #[] #[.pointer (some ⟨b, 0, none⟩)]] w fun e w' => ∃ r : Int, e = .returned (.int .i64 r) ∧ decide (0 ≤ r) = bothB F L ∧ w = w' := by
  have hn := h1.2.1
  go_enter Try.func118, Try.ntmps118
  go_wp2_with fail
  go_loop [5, 8] (fun _ i => ∃ k : Nat, k ≤ n ∧ i = .int .i64 k ∧ bothB (F.take k) L = false) (fun _ i => n - (intOf i).toNat)
  case atStart => exact ⟨0, by omega, rfl, rfl⟩
  case round =>
    obtain ⟨k, hk, rfl, hx⟩ := hrel
    by_cases hkn : k < n
    · obtain ⟨ad, y, rfl, ho, d0⟩ := h1.int hkn
      have hst := any_take (fun x => decide (x ∈ L)) F k ho
      have htr := any_true (fun x => decide (x ∈ L)) F k ho
      have HST := hid_ hst
      have HTR := hid_ htr
      have HX := hid_ hx
      clear hst htr hx ho
      go_wp2_with fail
      refine (checkQ_any b y B m d L w hc hB).mono ?_
      rintro e _ ⟨rfl, rfl⟩
      obtain ⟨t, ht⟩ : ∃ t, decide (y ∈ L) = t := ⟨_, rfl⟩
      rw [ht]
      have HT := hid_ ht
      clear ht
      cases t
      · go_wp2
        case roundEnd =>
          go_round
          case rel => exact ⟨k + 1, by omega, by go_num, by have h1 := HX.out; unfold bothB at h1 ⊢; rw [HST.out, h1, HT.out]; rfl⟩
          case measure => simp [intOf]; omega
      · go_wp2
        go_ret
        exact ⟨_, rfl, by have h1 := HTR.out HT.out; unfold bothB; rw [h1]; exact decide_eq_true (Int.natCast_nonneg k), rfl⟩
    · have : k = n := by omega
      subst this
      have hfull : F.take k = F := by rw [← h1.1, List.take_length]
      rw [hfull] at hx
      have HX := hid_ hx
      clear hx
      go_wp2
      go_ret
      exact ⟨_, rfl, by rw [HX.out]; rfl, rfl⟩
set_option maxRecDepth 10000 in
set_option maxHeartbeats 1000000 in
theorem containsCheck_any (A B : Option Addr) (n c m d b : Nat) (F L : List Int) (w : World) (h1 : Row intT w A n F) (hc : w.cell? ⟨b, 2, none⟩ = some (.slice B m d)) (hB : Row intT w B m L) :
    Calls Try.prog 72 #[.slice A n c, .func (.func 69) #[] #[.pointer (some ⟨b, 0, none⟩)]] w fun e w' => e = .returned (.bool (bothB F L)) ∧ w = w' := by
  go_enter Try.func72, Try.ntmps72
  go_wp2_with fail
  refine (indexCheck_any A B n c m d b F L w h1 hc hB).mono ?_
  rintro e _ ⟨r, rfl, hr, rfl⟩
  have HR := hid_ hr
  clear hr
  go_wp2
  go_ret
  exact ⟨by rw [← HR.out]; rfl, rfl⟩
def okP (h most : Int) (F L : List Int) : Bool := decide (2 ≤ h) && (decide (h ≤ most) && (fineB h 1 F && (fineB h 1 L && !bothB F L)))
def chkP (h most : Int) (F L : List Int) : Int := if okP h most F L then 0 else 61
theorem chkP_no {h most : Int} {F L : List Int} (e : okP h most F L = false) : chkP h most F L = 61 := by rw [chkP, e]; rfl
theorem chkP_yes {h most : Int} {F L : List Int} (e : okP h most F L = true) : chkP h most F L = 0 := by rw [chkP, e]; rfl
set_option maxRecDepth 10000 in
set_option maxHeartbeats 2000000 in
theorem check_any (h most : Int) (A B : Option Addr) (n c m d : Nat) (F L : List Int) (w : World) (hA : Row intT w A n F) (hB : Row intT w B m L) :
    Calls Try.prog 40 #[.agg #[.int .i64 h, .slice A n c, .slice B m d], .int .i64 most] w fun e w' => e = .returned (.int .i64 (chkP h most F L)) ∧ Bel w w' := by
  have hmf : ∀ (fn : Fn) (first cap : Array Value) (w : World), (Instr.makeFunc fn first cap).run Try.prog w = .ok (.func fn first cap) w := fun _ _ _ _ => rfl
  go_enter Try.func40, Try.ntmps40
  have q := fun j => cell_of_row (w.alloc (.cells #[.int .i64 h, .slice A n c, .slice B m d] 48)) w.heap.size j _ _ _ (heap_alloc_new w _)
  have hb : Bel w (w.alloc (.cells #[.int .i64 h, .slice A n c, .slice B m d] 48)) := (Bel.refl w).alloc _
  have rA := hA.bel hb
  have rB := hB.bel hb
  clear hA hB
  by_cases q1 : h < 2
  · have HM : Hid (chkP h most F L = 61) := chkP_no (by rw [okP, decide_eq_false (show ¬ 2 ≤ h by omega), Bool.false_and])
    go_wp2
    all_goals go_ret
    all_goals exact ⟨by rw [HM.out]; rfl, hb⟩
  · by_cases q2 : most < h
    · have HM : Hid (chkP h most F L = 61) := chkP_no (by rw [okP, decide_eq_false (show ¬ h ≤ most by omega), Bool.false_and, Bool.and_false])
      go_wp2
      all_goals go_ret
      all_goals exact ⟨by rw [HM.out]; rfl, hb⟩
    · have HO : Hid (okP h most F L = (fineB h 1 F && (fineB h 1 L && !bothB F L))) := by rw [okP, decide_eq_true (show 2 ≤ h by omega), decide_eq_true (show h ≤ most by omega), Bool.true_and, Bool.true_and]; exact rfl
      go_wp2_with fail
      refine (fine_any A n c F h _ rA).mono ?_
      rintro e w1 ⟨rfl, hw⟩
      subst hw
      obtain ⟨b1, h1⟩ : ∃ b1, fineB h 1 F = b1 := ⟨_, rfl⟩
      rw [h1] at HO ⊢
      clear h1
      cases b1
      · have HM : Hid (chkP h most F L = 61) := chkP_no HO.out
        go_wp2
        all_goals go_ret
        all_goals exact ⟨by rw [HM.out]; rfl, hb⟩
      · go_wp2_with fail
        refine (fine_any B m d L h _ rB).mono ?_
        rintro e w1 ⟨rfl, hw⟩
        subst hw
        obtain ⟨b1, h1⟩ : ∃ b1, fineB h 1 L = b1 := ⟨_, rfl⟩
        rw [h1] at HO ⊢
        clear h1
        cases b1
        · have HM : Hid (chkP h most F L = 61) := chkP_no HO.out
          go_wp2
          all_goals go_ret
          all_goals exact ⟨by rw [HM.out]; rfl, hb⟩
        · go_wp2_with fail
          refine (containsCheck_any A B n c m d w.heap.size F L _ rA (q 2) rB).mono ?_
          rintro e w1 ⟨rfl, hw⟩
          subst hw
          obtain ⟨b1, h1⟩ : ∃ b1, bothB F L = b1 := ⟨_, rfl⟩
          rw [h1] at HO ⊢
          clear h1
          cases b1
          · have HM : Hid (chkP h most F L = 0) := chkP_yes HO.out
            go_wp2
            all_goals go_ret
            all_goals exact ⟨by rw [HM.out]; rfl, hb⟩
          · have HM : Hid (chkP h most F L = 61) := chkP_no HO.out
            go_wp2
            all_goals go_ret
            all_goals exact ⟨by rw [HM.out]; rfl, hb⟩
end Go.Proofs.Ytboaidjhhlidkaa
