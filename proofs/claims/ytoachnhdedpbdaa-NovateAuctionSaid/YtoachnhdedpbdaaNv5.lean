/- order.Check. -/
import Derived.Test.YtoachnhdedpbdaaNv4
import Derived.Test.YtoachnhdedpbdaaTyOrd
set_option linter.unusedSimpArgs false
set_option linter.unusedVariables false
namespace Go.Proofs.Ytoachnhdedpbdaa
open Go.RowKit Go.Lib
def withinB (n : Int) : Bool := decide (1 ≤ n) && decide (n ≤ 1000000)
def checkB (who market : ByteArray) (price left : Int) : Bool := marketB market && (whoB who && (!decide (who = worldS) && (withinB price && withinB left)))
def checkE (who market : ByteArray) (price left : Int) : Int := if checkB who market price left then 0 else 130
theorem check_no {who market : ByteArray} {price left : Int} (h : checkB who market price left = false) : checkE who market price left = 130 := by rw [checkE, h]; rfl
theorem check_yes {who market : ByteArray} {price left : Int} (h : checkB who market price left = true) : checkE who market price left = 0 := by rw [checkE, h]; rfl
theorem within_any (n : Int) (w : World) :
    Calls Try.prog 72 #[.int .i64 n, .int .i64 1000000] w fun e w' => e = .returned (.bool (withinB n)) ∧ w = w' := by
  go_enter Try.func72, Try.ntmps72
  by_cases h1 : 1 ≤ n
  · by_cases h2 : n ≤ 1000000
    · have HF : Hid (withinB n = true) := hid_ (by unfold withinB; rw [decide_eq_true h1, decide_eq_true h2]; rfl)
      go_wp2
      go_ret
      exact ⟨by rw [HF.out]; rfl, rfl⟩
    · have HF : Hid (withinB n = false) := hid_ (by unfold withinB; rw [decide_eq_false h2, Bool.and_false])
      go_wp2
      go_ret
      exact ⟨by rw [HF.out]; rfl, rfl⟩
  · have HF : Hid (withinB n = false) := hid_ (by unfold withinB; rw [decide_eq_false h1, Bool.false_and])
    go_wp2
    go_ret
    exact ⟨by rw [HF.out]; rfl, rfl⟩
set_option maxRecDepth 10000 in
set_option maxHeartbeats 2000000 in
theorem orderCheck_any (number : Int) (who market : ByteArray) (buy : Bool) (price left : Int) (w : World) (hs1 : who.size ≤ 4294967280) (hs2 : market.size ≤ 4294967280) :
    Calls Try.prog 30 #[.agg #[.int .u64 number, .string who, .string market, .bool buy, .int .i64 price, .int .i64 left]] w fun e w' => e = .returned (.int .i64 (checkE who market price left)) ∧ Bel w w' := by
  have k0 := heap_alloc_new w (.cells #[.int .u64 number, .string who, .string market, .bool buy, .int .i64 price, .int .i64 left] 30)
  have q := fun j => cell_of_row _ w.heap.size j _ _ _ k0
  have hb : Bel w (w.alloc (.cells #[.int .u64 number, .string who, .string market, .bool buy, .int .i64 price, .int .i64 left] 30)) := (Bel.refl w).alloc _
  have K0 := hid_ k0
  have B0 := hid_ hb
  clear k0 hb
  go_enter Try.func30, Try.ntmps30
  go_wp2_with fail
  refine (market_any market _ hs2).mono ?_
  rintro e w1 ⟨rfl, b⟩
  have K1 := hid_ (b.blk K0.out)
  have B1 := hid_ (B0.out.trans b)
  clear b K0 B0 q
  have c1 := cell_of_row w1 _ 1 _ _ _ K1.out
  have c4 := cell_of_row w1 _ 4 _ _ _ K1.out
  have c5 := cell_of_row w1 _ 5 _ _ _ K1.out
  simp only [List.getElem?_toArray, List.getElem?_cons_succ, List.getElem?_cons_zero] at c1 c4 c5
  obtain ⟨mb, hmb⟩ : ∃ mb, marketB market = mb := ⟨_, rfl⟩
  have MB := hid_ hmb
  clear hmb
  cases mb
  · obtain ⟨x1, x2, x3⟩ := mkt_0 MB.out
    rw [x1, x2, x3]
    have HF := hid_ (check_no (who := who) (market := market) (price := price) (left := left) (by unfold checkB; rw [MB.out]; rfl))
    clear x1 x2 x3
    go_wp2
    go_ret
    exact ⟨by rw [HF.out]; rfl, B1.out⟩
  obtain ⟨x1, x2, x3⟩ := mkt_1 MB.out
  rw [x3]
  clear x1 x2 x3
  go_wp2_with fail
  refine (who_any who w1 hs1).mono ?_
  rintro e w2 ⟨rfl, b⟩
  have K2 := hid_ (b.blk K1.out)
  have B2 := hid_ (B1.out.trans b)
  clear b K1 B1 c1 c4 c5
  have c1 := cell_of_row w2 _ 1 _ _ _ K2.out
  have c4 := cell_of_row w2 _ 4 _ _ _ K2.out
  have c5 := cell_of_row w2 _ 5 _ _ _ K2.out
  simp only [List.getElem?_toArray, List.getElem?_cons_succ, List.getElem?_cons_zero] at c1 c4 c5
  obtain ⟨wb, hwb⟩ : ∃ wb, whoB who = wb := ⟨_, rfl⟩
  rw [hwb]
  have WB := hid_ hwb
  clear hwb
  cases wb
  · have HF := hid_ (check_no (who := who) (market := market) (price := price) (left := left) (by unfold checkB; rw [MB.out, WB.out]; rfl))
    go_wp2
    go_ret
    exact ⟨by rw [HF.out]; rfl, B2.out⟩
  obtain ⟨db, hdb⟩ : ∃ db, decide (who = worldS) = db := ⟨_, rfl⟩
  have e1 := worldEq who
  rw [hdb] at e1
  have DB := hid_ hdb
  clear hdb
  cases db
  · go_wp2_with fail
    refine (within_any price w2).mono ?_
    rintro e _ ⟨rfl, rfl⟩
    obtain ⟨pb, hpb⟩ : ∃ pb, withinB price = pb := ⟨_, rfl⟩
    rw [hpb]
    have PB := hid_ hpb
    clear hpb
    cases pb
    · have HF := hid_ (check_no (who := who) (market := market) (price := price) (left := left) (by unfold checkB; rw [MB.out, WB.out, DB.out, PB.out]; rfl))
      go_wp2
      go_ret
      exact ⟨by rw [HF.out]; rfl, B2.out⟩
    go_wp2_with fail
    refine (within_any left w2).mono ?_
    rintro e _ ⟨rfl, rfl⟩
    obtain ⟨lb, hlb⟩ : ∃ lb, withinB left = lb := ⟨_, rfl⟩
    rw [hlb]
    have LB := hid_ hlb
    clear hlb
    cases lb
    · have HF := hid_ (check_no (who := who) (market := market) (price := price) (left := left) (by unfold checkB; rw [MB.out, WB.out, DB.out, PB.out, LB.out]; rfl))
      go_wp2
      go_ret
      exact ⟨by rw [HF.out]; rfl, B2.out⟩
    · have HF := hid_ (check_yes (who := who) (market := market) (price := price) (left := left) (by unfold checkB; rw [MB.out, WB.out, DB.out, PB.out, LB.out]; rfl))
      go_wp2
      go_ret
      exact ⟨by rw [HF.out]; rfl, B2.out⟩
  · have HF := hid_ (check_no (who := who) (market := market) (price := price) (left := left) (by unfold checkB; rw [MB.out, WB.out, DB.out]; rfl))
    go_wp2
    go_ret
    exact ⟨by rw [HF.out]; rfl, B2.out⟩
end Go.Proofs.Ytoachnhdedpbdaa
