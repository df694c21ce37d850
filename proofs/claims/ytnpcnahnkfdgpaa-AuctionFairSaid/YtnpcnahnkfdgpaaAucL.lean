/- The head of layer 14's statements: 'one', 'may', 'awake'. -/
import Derived.Test.YtnpcnahnkfdgpaaAuc3
set_option linter.unusedSimpArgs false
set_option linter.unusedVariables false
namespace Go.Proofs.Ytnpcnahnkfdgpaa
open Go.RowKit

def okO (o : Ord) : Bool := decide (1 ≤ o.price) && (decide (o.price ≤ 1000000) && (decide (1 ≤ o.left) && decide (o.left ≤ 1000000)))
def mayB (l : List Ord) : Bool := decide (l.length ≤ 200) && l.all okO

theorem all_take {α : Type} (f : α → Bool) (l : List α) (k : Nat) {x : α} (h : l[k]? = some x) : (l.take (k + 1)).all f = ((l.take k).all f && f x) := by
  rw [List.take_add_one, h, List.all_append]
  simp
theorem all_false {α : Type} (f : α → Bool) (l : List α) (k : Nat) {x : α} (h : l[k]? = some x) (hx : f x = false) : l.all f = false := by
  rw [List.all_eq_false]
  exact ⟨x, List.mem_of_getElem? h, by rw [hx]; decide⟩

set_option maxHeartbeats 2000000 in
theorem may_any (A : Option Addr) (n c : Nat) (l : List Ord) (w : World) (h1 : Row ordT w A n l) :
    Calls Try.prog 6 #[.slice A n c] w fun e w' => e = .returned (.bool (mayB l)) ∧ w = w' := by
  have hn := h1.2.1
  have hl := h1.1
  go_enter Try.func6, Try.ntmps6
  by_cases hbig : 200 < n
  · have hm : mayB l = false := by simp [mayB, hl]; omega
    go_wp2
    go_ret
    exact ⟨by rw [hm]; rfl, rfl⟩
  · go_wp2
    go_loop [3] (fun i => ∃ k : Nat, k ≤ n ∧ i = .int .i64 k ∧ (l.take k).all okO = true) (fun i => n - (intOf i).toNat)
    case atStart => exact ⟨0, by omega, rfl, rfl⟩
    case round =>
      obtain ⟨k, hk, rfl, hall⟩ := hrel
      by_cases hkn : k < n
      · obtain ⟨ad, number, who, market, buy, price, left, rfl, ho, d0, d1, d2, d3, d4, d5⟩ := h1.ord hkn
        have hstep := all_take okO l k ho
        have hfl := fun h => all_false okO l k ho h
        have HS := hid_ hstep
        have HF := hid_ hfl
        have HA := hid_ hall
        clear hstep hfl hall
        by_cases q1 : price < 1
        · go_wp2
          go_ret
          exact ⟨by have : mayB l = false := by { rw [mayB, HF.out (by simp [okO]; omega), Bool.and_false] }; rw [this]; rfl, rfl⟩
        · by_cases q2 : 1000000 < price
          · go_wp2
            go_ret
            exact ⟨by have : mayB l = false := by { rw [mayB, HF.out (by simp [okO]; omega), Bool.and_false] }; rw [this]; rfl, rfl⟩
          · by_cases q3 : left < 1
            · go_wp2
              go_ret
              exact ⟨by have : mayB l = false := by { rw [mayB, HF.out (by simp [okO]; omega), Bool.and_false] }; rw [this]; rfl, rfl⟩
            · by_cases q4 : 1000000 < left
              · go_wp2
                go_ret
                exact ⟨by have : mayB l = false := by { rw [mayB, HF.out (by simp [okO]; omega), Bool.and_false] }; rw [this]; rfl, rfl⟩
              · go_wp2
                case roundEnd =>
                  go_round
                  case rel => exact ⟨k + 1, by omega, by go_num, by rw [HS.out, HA.out]; simp [okO]; omega⟩
                  case measure => simp [intOf]; omega
      · have : k = n := by omega
        subst this
        have hfull : l.take k = l := by rw [← hl, List.take_length]
        rw [hfull] at hall
        have hm : mayB l = true := by rw [mayB, hall, hl]; simp; omega
        have HM := hid_ hm
        clear hall hm
        go_wp2
        go_ret
        exact ⟨by rw [HM.out]; rfl, rfl⟩

set_option maxHeartbeats 1000000 in
theorem one_any (number price left : Int) (w : World) :
    Calls Try.prog 17 #[.int .u64 number, .int .i64 price, .int .i64 left] w fun e w' =>
      e = .returned (.agg #[.int .u64 number, .string ⟨#[]⟩, .string ⟨#[]⟩, .bool false, .int .i64 price, .int .i64 left]) ∧ Bel w w' := by
  go_enter Try.func17, Try.ntmps17
  go_wp2
  refine bodyPost_ret (results_c rfl _ _ w.heap.size 27 _ (0, 0) _ rfl (heap_alloc_new w _) Try.underlying27 rfl (by kernel_rfl)) rfl ?_
  exact ⟨rfl, (Bel.refl w).alloc _⟩

def awB : List Ord := [⟨1, ⟨#[]⟩, ⟨#[]⟩, false, 21, 5⟩, ⟨2, ⟨#[]⟩, ⟨#[]⟩, false, 20, 5⟩]
def awS : List Ord := [⟨3, ⟨#[]⟩, ⟨#[]⟩, false, 19, 4⟩, ⟨4, ⟨#[]⟩, ⟨#[]⟩, false, 20, 9⟩]
theorem aw1 : price awB awS = (20, 10) := by decide +kernel
theorem aw2 : trades awB awS = [⟨1, 3, 4, 20⟩, ⟨1, 4, 1, 20⟩, ⟨2, 4, 5, 20⟩] := by kernel_rfl
theorem aw3 : fills awS 10 = [⟨3, 4⟩, ⟨4, 6⟩] := by kernel_rfl
theorem aw4 : vol awB awS 19 = 4 := by decide +kernel
theorem aw5 : vol awB awS 21 = 5 := by decide +kernel

set_option maxHeartbeats 4000000 in
theorem awake_any (w : World) : Calls Try.prog 5 #[] w fun e w' => e = .returned (.bool true) ∧ Bel w w' := by
  go_enter Try.func5, Try.ntmps5
  go_wp2_with fail
  refine (one_any _ _ _ _).mono ?_
  rintro e w1 ⟨rfl, b1⟩
  go_wp2_with fail
  refine (one_any _ _ _ _).mono ?_
  rintro e w2 ⟨rfl, b2⟩
  go_wp2_with fail
  refine (one_any _ _ _ _).mono ?_
  rintro e w3 ⟨rfl, b3⟩
  go_wp2_with fail
  refine (one_any _ _ _ _).mono ?_
  rintro e w4 ⟨rfl, b4⟩
  go_wp2_with fail
  have rB := Row.lit (T := ordT) w2 awB (0, 0) (by decide)
  have rS := Row.lit (T := ordT) w4 awS (0, 0) (by decide)
  have b24 : Bel (w2.alloc (.cells (awB.flatMap ordT.enc).toArray ordT.e)) w4 := b3.trans b4
  have bS := (Bel.refl w4).alloc (.cells (awS.flatMap ordT.enc).toArray ordT.e)
  have rB' := rB.bel (b24.trans bS)
  refine (price_any _ _ 2 _ 2 _ awB awS _ rB' rS (by omega) (by omega)).mono ?_
  rintro e w5 ⟨rfl, b5⟩
  rw [aw1]
  go_wp2_with fail
  refine (trades_any _ _ 2 _ 2 _ awB awS _ (rB'.bel b5) (rS.bel b5) (by omega) (by omega)).mono ?_
  rintro e w6 ⟨v6, rfl, o6, b6⟩
  rw [aw1]
  rw [aw2] at o6
  go_wp2_with fail
  refine (fills_any _ 2 _ awS 10 _ ((rS.bel b5).bel b6) (by omega)).mono ?_
  rintro e w7 ⟨v7, rfl, o7, b7⟩
  rw [aw3] at o7
  obtain ⟨X6, k6, rfl, _, r6⟩ := o6.reads
  obtain ⟨X7, k7, rfl, _, r7⟩ := o7.reads
  have r6' := r6.bel b7
  go_wp2_with fail
  have rB7 := ((rB'.bel b5).bel b6).bel b7
  have rS7 := ((rS.bel b5).bel b6).bel b7
  refine (volume_any _ _ 2 _ 2 _ awB awS 19 _ rB7 rS7 (by omega) (by omega)).mono ?_
  rintro e w8 ⟨rfl, b8⟩
  rw [aw4]
  go_wp2_with fail
  refine (volume_any _ _ 2 _ 2 _ awB awS 21 _ (rB7.bel b8) (rS7.bel b8) (by omega) (by omega)).mono ?_
  rintro e w9 ⟨rfl, b9⟩
  rw [aw5]
  obtain ⟨ad6, t1, t2, t3, t4, rfl, et, d0, d1, d2, d3⟩ := ((r6'.bel b8).bel b9).trd (k := 1) (by decide)
  obtain ⟨ad7, f1, f2, rfl, ef, g0, g1⟩ := ((r7.bel b8).bel b9).fil (k := 1) (by decide)
  injection et with et
  injection et with e1 e2 e3 e4
  subst e1 e2 e3 e4
  injection ef with ef
  injection ef with e1 e2
  subst e1 e2
  simp [Addr.add] at d0 d1 d2 d3 g0 g1
  have hbel : Bel w w9 := ((((((((b1.trans b2).alloc _).trans b3).trans b4).alloc _).trans b5).trans b6).trans b7).trans (b8.trans b9)
  clear rB7 rS7 rB' rS rB r6 r6' r7 o6 o7 b1 b2 b3 b4 b5 b6 b7 b8 b9 bS b24
  go_wp2
  go_ret
  exact ⟨rfl, hbel⟩
end Go.Proofs.Ytnpcnahnkfdgpaa
