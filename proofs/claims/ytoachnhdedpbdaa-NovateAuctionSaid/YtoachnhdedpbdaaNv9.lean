/- The document's Check of an order. -/
import Derived.Test.YtoachnhdedpbdaaNv7
import Derived.Test.YtoachnhdedpbdaaNv5
set_option linter.unusedSimpArgs false
set_option linter.unusedVariables false
namespace Go.Proofs.Ytoachnhdedpbdaa
open Go.RowKit Go.Lib
theorem ib_cons (b : UInt8) (l : List UInt8) (c : UInt8) : indexByte (b :: l) c = if b = c then 0 else if indexByte l c = -1 then -1 else indexByte l c + 1 := by
  conv => lhs; unfold indexByte
  by_cases h : b = c
  · simp [h]
  · have h1 : (b == c) = false := by simp [h]
    rw [h1, if_neg h]
    simp only [Bool.false_eq_true, if_false]
    by_cases h2 : indexByte l c = -1
    · simp [h2]
    · have h3 : (indexByte l c == -1) = false := by simp [h2]
      rw [h3, if_neg h2]
      simp only [Bool.false_eq_true, if_false]
theorem index_hit' : ∀ (l : List UInt8) (i : Nat), indexByte l dash = (i : Int) → l[i]? = some dash
  | [], i, h => by simp [indexByte] at h
  | b :: l, i, h => by
    rw [ib_cons] at h
    have hg := indexByte_ge l dash
    by_cases hb : b = dash
    · rw [if_pos hb] at h
      obtain rfl : i = 0 := by omega
      simp [hb]
    · rw [if_neg hb] at h
      by_cases h2 : indexByte l dash = -1
      · rw [if_pos h2] at h
        omega
      · rw [if_neg h2] at h
        obtain ⟨i', rfl⟩ : ∃ i', i = i' + 1 := ⟨i - 1, by omega⟩
        have := index_hit' l i' (by omega)
        simpa using this
theorem index_first' : ∀ (l : List UInt8) (j : Nat), l[j]? = some dash → (∀ i, i < j → l[i]? ≠ some dash) → indexByte l dash = (j : Int)
  | [], j, h, _ => by simp at h
  | b :: l, 0, h, _ => by
    have hb : b = dash := by simpa using h
    rw [ib_cons, if_pos hb]
    rfl
  | b :: l, j + 1, h, hn => by
    have hb : b ≠ dash := fun e => hn 0 (by omega) (by simp [e])
    have ih := index_first' l j (by simpa using h) (fun i hi e => hn (i + 1) (by omega) (by simpa using e))
    rw [ib_cons, if_neg hb, if_neg (by omega), ih]
    omega
def okAt (s : ByteArray) (i : Nat) : Bool := assetB (s.extract 0 i) && (assetB (s.extract (i + 1) s.size) && !decide (s.extract 0 i = s.extract (i + 1) s.size))
/-- Till place j no bar parts a market's name. -/
def NoAt (s : ByteArray) (j : Nat) : Prop := ∀ i, i < j → s.data.toList[i]? = some dash → okAt s i = false
theorem noAt_end {s : ByteArray} (h : NoAt s s.size) : marketB s = false := by
  have hg := indexByte_ge s.data.toList dash
  by_cases h0 : indexByte s.data.toList dash = -1
  · exact market_no h0
  · obtain ⟨i, hi⟩ : ∃ i : Nat, indexByte s.data.toList dash = (i : Int) := ⟨(indexByte s.data.toList dash).toNat, by omega⟩
    have h1 := size_le s i hi
    rw [(market_at hi).2.2]
    exact h i (by omega) (index_hit' _ i hi)
theorem noAt_step {s : ByteArray} {j : Nat} (h : NoAt s j) (hj : s.data.toList[j]? = some dash → okAt s j = false) : NoAt s (j + 1) := by
  intro i hi hd
  rcases Nat.lt_or_ge i j with h1 | h1
  · exact h i h1 hd
  · obtain rfl : i = j := by omega
    exact hj hd
theorem okAt_hit {s : ByteArray} {j : Nat} (hd : s.data.toList[j]? = some dash) (hk : okAt s j = true) : marketB s = true ∧ headB s = s.extract 0 j ∧ tailB s = s.extract (j + 1) s.size := by
  have hi : indexByte s.data.toList dash = (j : Int) := by
    refine index_first' _ j hd (fun i hi e => ?_)
    have ha : assetB (s.extract 0 j) = true := by
      unfold okAt at hk
      simp only [Bool.and_eq_true] at hk
      exact hk.1
    unfold assetB at ha
    simp only [Bool.and_eq_true] at ha
    have h1 : (s.extract 0 j).data.toList = s.data.toList.take j := by
      rw [ByteArray.data_extract, Array.toList_extract]
      simp
    have h2 : (s.data.toList.take j)[i]? = some dash := by rw [List.getElem?_take, if_pos hi]; exact e
    have h3 := List.all_eq_true.1 ha.1 dash (by rw [h1]; exact List.mem_of_getElem? h2)
    exact absurd h3 (by decide)
  obtain ⟨m1, m2, m3⟩ := market_at hi
  exact ⟨m3.trans hk, m1, m2⟩
set_option maxRecDepth 10000 in
set_option maxHeartbeats 2000000 in
theorem marketR_any (s : ByteArray) (w : World) (hs : s.size ≤ 4294967280) :
    Calls Try.prog 65 #[.string s] w fun e w' => e = .returned (.tuple #[.string (mktA s), .string (mktC s), .int .i64 (mktE s)]) ∧ Bel w w' := by
  have hs63 : s.size ≤ 9223372036854775807 := by omega
  have HS := hid_ hs
  clear hs
  have mixed : Try.prog.follows Departure.mixedOrders = true := by kernel_rfl
  go_enter Try.func65, Try.ntmps65
  go_wp2_with fail
  go_loopw [5] (fun i wr => ∃ j : Nat, j ≤ s.size ∧ i = .int .i64 j ∧ Hid (NoAt s j) ∧ Bel w wr) (fun i _ => s.size - (intOf i).toNat)
  case atStart => exact ⟨0, Nat.zero_le _, rfl, hid_ (fun i h => absurd h (by omega)), Bel.refl _⟩
  case round =>
    obtain ⟨j, hj, rfl, hx, hbr⟩ := hrel
    have HBR := hid_ hbr
    clear hbr
    by_cases hjn : j < s.size
    · have HO := hid_ (getB s j hjn)
      by_cases hd : s[j] = dash
      · have e0 : ((s[j].toNat : Int) != 45) = false := by rw [hd]; rfl
        have HD : Hid (s.data.toList[j]? = some dash) := hid_ (by rw [HO.out, hd])
        have c1 : (0 : Int) ≤ (j : Int) := by omega
        have c2 : (j : Int) ≤ (s.size : Int) := by omega
        have c3 : (j : Int) + 1 ≤ (s.size : Int) := by omega
        have c4 : (0 : Int) ≤ (j : Int) + 1 := by omega
        have cw : IntKind.i64.wrap ((j : Int) + 1) = (j : Int) + 1 := by rw [IntWalk.i64_left]; exact IntWalk.wrap64_in _ (by omega)
        have cn : ((j : Int) + 1).toNat = j + 1 := by omega
        have sa : (s.extract 0 j).size ≤ 4294967280 := by rw [ByteArray.size_extract]; have := HS.out; omega
        have sb : (s.extract (j + 1) s.size).size ≤ 4294967280 := by rw [ByteArray.size_extract]; have := HS.out; omega
        have SA := hid_ sa
        have SB := hid_ sb
        clear hd HO sa sb
        go_wp2_with fail
        refine (assetR_any (s.extract 0 j) wr SA.out).mono ?_
        rintro e _ ⟨rfl, rfl⟩
        obtain ⟨qa, hqa⟩ : ∃ q, assetB (s.extract 0 j) = q := ⟨_, rfl⟩
        rw [hqa]
        have QA := hid_ hqa
        clear hqa
        go_wp2_with fail
        refine (assetR_any (s.extract (j + 1) s.size) wr SB.out).mono ?_
        rintro e _ ⟨rfl, rfl⟩
        obtain ⟨qc, hqc⟩ : ∃ q, assetB (s.extract (j + 1) s.size) = q := ⟨_, rfl⟩
        rw [hqc]
        have QC := hid_ hqc
        clear hqc
        obtain ⟨qd, hqd⟩ : ∃ q, decide (s.extract 0 j = s.extract (j + 1) s.size) = q := ⟨_, rfl⟩
        have ed := bytesEq (s.extract 0 j) (s.extract (j + 1) s.size)
        rw [hqd] at ed
        have QD := hid_ hqd
        clear hqd
        have HK : Hid (okAt s j = (qa && (qc && !qd))) := hid_ (by unfold okAt; rw [QA.out, QC.out, QD.out])
        cases qa
        · have HN : Hid (NoAt s (j + 1)) := hid_ (noAt_step hx.out (fun _ => HK.out))
          go_wp2_with fail
          go_region_o
          go_wp2
          case roundEnd =>
            go_roundw
            case rel => exact ⟨j + 1, by omega, by go_num, HN, HBR.out.drew⟩
            case measure => simp [intOf]; omega
        cases qc
        · have HN : Hid (NoAt s (j + 1)) := hid_ (noAt_step hx.out (fun _ => HK.out))
          go_wp2_with fail
          go_region_o
          go_wp2
          case roundEnd =>
            go_roundw
            case rel => exact ⟨j + 1, by omega, by go_num, HN, HBR.out.drew⟩
            case measure => simp [intOf]; omega
        cases qd
        · have HM := hid_ (mkt_1 (okAt_hit HD.out HK.out).1)
          have HH := hid_ (okAt_hit HD.out HK.out).2
          clear HK hx HD QA QC QD
          go_wp2_with fail
          go_region_o
          go_wp2_with fail
          go_region_o
          go_wp2
          go_ret3
          exact ⟨by rw [HM.out.1, HM.out.2.1, HM.out.2.2, HH.out.1, HH.out.2]; rfl, HBR.out.drew.drew⟩
        · have HN : Hid (NoAt s (j + 1)) := hid_ (noAt_step hx.out (fun _ => HK.out))
          go_wp2_with fail
          go_region_o
          go_wp2
          case roundEnd =>
            go_roundw
            case rel => exact ⟨j + 1, by omega, by go_num, HN, HBR.out.drew⟩
            case measure => simp [intOf]; omega
      · have e0 : ((s[j].toNat : Int) != 45) = true := by
          have h : s[j].toNat ≠ 45 := fun e => hd (UInt8.toNat_inj.1 (by rw [e]; rfl))
          simp only [bne_iff_ne, ne_eq]
          omega
        have HN : Hid (NoAt s (j + 1)) := hid_ (noAt_step hx.out (fun e => absurd (Option.some.inj (HO.out.symm.trans e)) hd))
        clear hd HO
        go_wp2
        case roundEnd =>
          go_roundw
          case rel => exact ⟨j + 1, by omega, by go_num, HN, HBR.out⟩
          case measure => simp [intOf]; omega
    · have hjn' : j = s.size := by omega
      subst hjn'
      have HM := hid_ (mkt_0 (noAt_end hx.out))
      clear hx
      go_wp2
      go_ret3
      exact ⟨by rw [HM.out.1, HM.out.2.1, HM.out.2.2]; rfl, HBR.out⟩
end Go.Proofs.Ytoachnhdedpbdaa
set_option linter.unusedSimpArgs false
set_option linter.unusedVariables false
namespace Go.Proofs.Ytoachnhdedpbdaa
open Go.RowKit Go.Lib
set_option maxRecDepth 10000 in
set_option maxHeartbeats 2000000 in
theorem refCheck_any (number : Int) (who market : ByteArray) (buy : Bool) (price left : Int) (w : World) (hs1 : who.size ≤ 4294967280) (hs2 : market.size ≤ 4294967280) :
    Calls Try.prog 54 #[.agg #[.int .u64 number, .string who, .string market, .bool buy, .int .i64 price, .int .i64 left]] w fun e w' => e = .returned (.int .i64 (checkE who market price left)) ∧ Bel w w' := by
  have k0 := heap_alloc_new w (.cells #[.int .u64 number, .string who, .string market, .bool buy, .int .i64 price, .int .i64 left] 30)
  have q := fun j => cell_of_row _ w.heap.size j _ _ _ k0
  have hb : Bel w (w.alloc (.cells #[.int .u64 number, .string who, .string market, .bool buy, .int .i64 price, .int .i64 left] 30)) := (Bel.refl w).alloc _
  have K0 := hid_ k0
  have B0 := hid_ hb
  clear k0 hb
  go_enter Try.func54, Try.ntmps54
  go_wp2_with fail
  refine (marketR_any market _ hs2).mono ?_
  rintro e w1 ⟨rfl, b⟩
  have K1 := hid_ (b.blk K0.out)
  have B1 := hid_ (B0.out.trans b)
  clear b K0 B0 q
  have c1 := cell_of_row w1 _ 1 _ _ _ K1.out
  have c4 := cell_of_row w1 _ 4 _ _ _ K1.out
  have c5 := cell_of_row w1 _ 5 _ _ _ K1.out
  simp only [List.getElem?_toArray, List.getElem?_cons_succ, List.getElem?_cons_zero] at c1 c4 c5
  go_wp2_with fail
  refine (whoR_any who w1 hs1).mono ?_
  rintro e _ ⟨rfl, rfl⟩
  obtain ⟨wb, hwb⟩ : ∃ wb, whoB who = wb := ⟨_, rfl⟩
  rw [hwb]
  have WB := hid_ hwb
  clear hwb
  obtain ⟨db, hdb⟩ : ∃ db, decide (who = worldS) = db := ⟨_, rfl⟩
  have e1 := worldEq who
  rw [hdb] at e1
  have DB := hid_ hdb
  clear hdb
  obtain ⟨mb, hmb⟩ : ∃ mb, marketB market = mb := ⟨_, rfl⟩
  have MB := hid_ hmb
  clear hmb
  cases mb
  · obtain ⟨x1, x2, x3⟩ := mkt_0 MB.out
    rw [x1, x2, x3]
    have HF := hid_ (check_no (who := who) (market := market) (price := price) (left := left) (by unfold checkB; rw [MB.out]; rfl))
    clear x1 x2 x3
    go_wp2
    go_ret
    exact ⟨by rw [HF.out]; rfl, B1.out⟩
  obtain ⟨x1, x2, x3⟩ := mkt_1 MB.out
  rw [x3]
  clear x1 x2 x3
  cases wb
  · have HF := hid_ (check_no (who := who) (market := market) (price := price) (left := left) (by unfold checkB; rw [MB.out, WB.out]; rfl))
    go_wp2
    go_ret
    exact ⟨by rw [HF.out]; rfl, B1.out⟩
  cases db
  · by_cases p1 : price < 1
    · have HF := hid_ (check_no (who := who) (market := market) (price := price) (left := left) (by unfold checkB withinB; rw [decide_eq_false (show ¬ 1 ≤ price by omega), Bool.false_and, Bool.false_and, Bool.and_false, Bool.and_false, Bool.and_false]))
      go_wp2
      go_ret
      exact ⟨by rw [HF.out]; rfl, B1.out⟩
    by_cases p2 : 1000000 < price
    · have HF := hid_ (check_no (who := who) (market := market) (price := price) (left := left) (by unfold checkB withinB; rw [decide_eq_false (show ¬ price ≤ 1000000 by omega), Bool.and_false, Bool.false_and, Bool.and_false, Bool.and_false, Bool.and_false]))
      go_wp2
      go_ret
      exact ⟨by rw [HF.out]; rfl, B1.out⟩
    by_cases p3 : left < 1
    · have HF := hid_ (check_no (who := who) (market := market) (price := price) (left := left) (by unfold checkB; rw [show withinB left = false by unfold withinB; rw [decide_eq_false (show ¬ 1 ≤ left by omega), Bool.false_and], Bool.and_false, Bool.and_false, Bool.and_false, Bool.and_false]))
      go_wp2
      go_ret
      exact ⟨by rw [HF.out]; rfl, B1.out⟩
    by_cases p4 : 1000000 < left
    · have HF := hid_ (check_no (who := who) (market := market) (price := price) (left := left) (by unfold checkB; rw [show withinB left = false by unfold withinB; rw [decide_eq_false (show ¬ left ≤ 1000000 by omega), Bool.and_false], Bool.and_false, Bool.and_false, Bool.and_false, Bool.and_false]))
      go_wp2
      go_ret
      exact ⟨by rw [HF.out]; rfl, B1.out⟩
    have HF := hid_ (check_yes (who := who) (market := market) (price := price) (left := left) (by unfold checkB withinB; rw [MB.out, WB.out, DB.out, decide_eq_true (show 1 ≤ price by omega), decide_eq_true (show price ≤ 1000000 by omega), decide_eq_true (show 1 ≤ left by omega), decide_eq_true (show left ≤ 1000000 by omega)]; rfl))
    go_wp2
    go_ret
    exact ⟨by rw [HF.out]; rfl, B1.out⟩
  · have HF := hid_ (check_no (who := who) (market := market) (price := price) (left := left) (by unfold checkB; rw [MB.out, WB.out, DB.out]; rfl))
    go_wp2
    go_ret
    exact ⟨by rw [HF.out]; rfl, B1.out⟩
end Go.Proofs.Ytoachnhdedpbdaa
