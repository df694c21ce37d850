/- The document's Check of an order. -/
import Derived.Test.YtlddpkbdmbafbaaNv8
set_option linter.unusedSimpArgs false
set_option linter.unusedVariables false
namespace Go.Proofs.Ytlddpkbdmbafbaa
open Go.RowKit Go.Lib
set_option maxRecDepth 10000 in
set_option maxHeartbeats 2000000 in
theorem refCheck_any (number : Int) (who market : ByteArray) (buy : Bool) (price left : Int) (w : World) (hs1 : who.size ≤ 4294967280) (hs2 : market.size ≤ 4294967280) :
    Calls Try.prog 69 #[.agg #[.int .u64 number, .string who, .string market, .bool buy, .int .i64 price, .int .i64 left]] w fun e w' => e = .returned (.int .i64 (checkE who market price left)) ∧ Bel w w' := by
  have k0 := heap_alloc_new w (.cells #[.int .u64 number, .string who, .string market, .bool buy, .int .i64 price, .int .i64 left] 30)
  have q := fun j => cell_of_row _ w.heap.size j _ _ _ k0
  have hb : Bel w (w.alloc (.cells #[.int .u64 number, .string who, .string market, .bool buy, .int .i64 price, .int .i64 left] 30)) := (Bel.refl w).alloc _
  have K0 := hid_ k0
  have B0 := hid_ hb
  clear k0 hb
  go_enter Try.func69, Try.ntmps69
  go_wp2_with fail
  refine (marketR_any market _ hs2).mono ?_
  rintro e w1 ⟨rfl, b⟩
  have K1 := hid_ (b.blk K0.out)
  have B1 := hid_ (B0.out.trans b)
  clear b K0 B0 q
  have c1 := cell_of_row w1 _ 1 _ _ _ K1.out
  have c4 := cell_of_row w1 _ 4 _ _ _ K1.out
  have c5 := cell_of_row w1 _ 5 _ _ _ K1.out
  simp only [List.getElem?_toArray, List.getElem?_cons_succ, List.getElem?_cons_zero] at c1 c4 c5
  go_wp2_with fail
  refine (whoR_any who w1 hs1).mono ?_
  rintro e _ ⟨rfl, rfl⟩
  obtain ⟨wb, hwb⟩ : ∃ wb, whoB who = wb := ⟨_, rfl⟩
  rw [hwb]
  have WB := hid_ hwb
  clear hwb
  obtain ⟨db, hdb⟩ : ∃ db, decide (who = worldS) = db := ⟨_, rfl⟩
  have e1 := worldEq who
  rw [hdb] at e1
  have DB := hid_ hdb
  clear hdb
  obtain ⟨mb, hmb⟩ : ∃ mb, marketB market = mb := ⟨_, rfl⟩
  have MB := hid_ hmb
  clear hmb
  cases mb
  · obtain ⟨x1, x2, x3⟩ := mkt_0 MB.out
    rw [x1, x2, x3]
    have HF := hid_ (check_no (who := who) (market := market) (price := price) (left := left) (by unfold checkB; rw [MB.out]; rfl))
    clear x1 x2 x3
    go_wp2
    go_ret
    exact ⟨by rw [HF.out]; rfl, B1.out⟩
  obtain ⟨x1, x2, x3⟩ := mkt_1 MB.out
  rw [x3]
  clear x1 x2 x3
  cases wb
  · have HF := hid_ (check_no (who := who) (market := market) (price := price) (left := left) (by unfold checkB; rw [MB.out, WB.out]; rfl))
    go_wp2
    go_ret
    exact ⟨by rw [HF.out]; rfl, B1.out⟩
  cases db
  · by_cases p1 : price < 1
    · have HF := hid_ (check_no (who := who) (market := market) (price := price) (left := left) (by unfold checkB withinB; rw [decide_eq_false (show ¬ 1 ≤ price by omega), Bool.false_and, Bool.false_and, Bool.and_false, Bool.and_false, Bool.and_false]))
      go_wp2
      go_ret
      exact ⟨by rw [HF.out]; rfl, B1.out⟩
    by_cases p2 : 1000000 < price
    · have HF := hid_ (check_no (who := who) (market := market) (price := price) (left := left) (by unfold checkB withinB; rw [decide_eq_false (show ¬ price ≤ 1000000 by omega), Bool.and_false, Bool.false_and, Bool.and_false, Bool.and_false, Bool.and_false]))
      go_wp2
      go_ret
      exact ⟨by rw [HF.out]; rfl, B1.out⟩
    by_cases p3 : left < 1
    · have HF := hid_ (check_no (who := who) (market := market) (price := price) (left := left) (by unfold checkB; rw [show withinB left = false by unfold withinB; rw [decide_eq_false (show ¬ 1 ≤ left by omega), Bool.false_and], Bool.and_false, Bool.and_false, Bool.and_false, Bool.and_false]))
      go_wp2
      go_ret
      exact ⟨by rw [HF.out]; rfl, B1.out⟩
    by_cases p4 : 1000000 < left
    · have HF := hid_ (check_no (who := who) (market := market) (price := price) (left := left) (by unfold checkB; rw [show withinB left = false by unfold withinB; rw [decide_eq_false (show ¬ left ≤ 1000000 by omega), Bool.and_false], Bool.and_false, Bool.and_false, Bool.and_false, Bool.and_false]))
      go_wp2
      go_ret
      exact ⟨by rw [HF.out]; rfl, B1.out⟩
    have HF := hid_ (check_yes (who := who) (market := market) (price := price) (left := left) (by unfold checkB withinB; rw [MB.out, WB.out, DB.out, decide_eq_true (show 1 ≤ price by omega), decide_eq_true (show price ≤ 1000000 by omega), decide_eq_true (show 1 ≤ left by omega), decide_eq_true (show left ≤ 1000000 by omega)]; rfl))
    go_wp2
    go_ret
    exact ⟨by rw [HF.out]; rfl, B1.out⟩
  · have HF := hid_ (check_no (who := who) (market := market) (price := price) (left := left) (by unfold checkB; rw [MB.out, WB.out, DB.out]; rfl))
    go_wp2
    go_ret
    exact ⟨by rw [HF.out]; rfl, B1.out⟩
end Go.Proofs.Ytlddpkbdmbafbaa
