/- Contracts for texts of any length. -/
import Derived.Test.YtlddpkbdmbafbaaCk2
import Derived.Test.YtlddpkbdmbafbaaOd5
import Derived.Test.YtlddpkbdmbafbaaOd2
import Derived.Test.YtlddpkbdmbafbaaNv5
import Derived.Lib.ConvBytes
import Derived.Shelf.RegionOpenPlain
set_option linter.unusedSimpArgs false
set_option linter.unusedVariables false
namespace Go.Proofs.Ytlddpkbdmbafbaa
open Go.RowKit Go.Lib
set_option maxRecDepth 10000 in
set_option maxHeartbeats 1000000 in
theorem litCut_big (s : ByteArray) (w : World) (hs : s.size ≤ 9223372036854775807) :
    Calls Try.prog 105 #[.string s, .string ⟨#[45]⟩] w fun e w' => (indexByte s.data.toList dash = -1 → e = .returned (.tuple #[.string s, .string ⟨#[]⟩, .bool false])) ∧ (∀ i : Nat, indexByte s.data.toList dash = (i : Int) → e = .returned (.tuple #[.string (s.extract 0 i), .string (s.extract (i + 1) s.size), .bool true])) ∧ Bel w w' := by
  go_enter Try.func105, Try.ntmps105
  go_wp2_with fail
  refine (index_any s w).mono ?_
  rintro e _ ⟨rfl, rfl⟩
  have hg := indexByte_ge s.data.toList dash
  by_cases h0 : indexByte s.data.toList dash = -1
  · have H0 := hid_ h0
    rw [h0]
    clear hg h0
    go_wp2
    go_ret3
    exact ⟨fun _ => rfl, fun i h => (by exfalso; have := H0.out; omega), Bel.refl _⟩
  · obtain ⟨i, hi⟩ : ∃ i : Nat, indexByte s.data.toList dash = (i : Int) := ⟨(indexByte s.data.toList dash).toNat, by omega⟩
    have hle := size_le s i hi
    have HI := hid_ hi
    rw [hi]
    have c1 : (0 : Int) ≤ (i : Int) := by omega
    have c2 : (i : Int) ≤ (s.size : Int) := by omega
    have c3 : (i : Int) + 1 ≤ (s.size : Int) := by omega
    have c4 : (0 : Int) ≤ (i : Int) + 1 := by omega
    have cw : IntKind.i64.wrap ((i : Int) + 1) = (i : Int) + 1 := by rw [IntWalk.i64_left]; exact IntWalk.wrap64_in _ (by omega)
    have cn : ((i : Int) + 1).toNat = i + 1 := by omega
    have mixed : Try.prog.follows Departure.mixedOrders = true := by kernel_rfl
    clear hg h0 hi hle
    go_wp2_with fail
    go_region_o
    go_wp2
    go_ret3
    exact ⟨fun h => (by exfalso; have := HI.out; omega), fun j h => (by have h' := HI.out; obtain rfl : i = j := by omega
                                                                        rfl), (by first | exact Bel.refl _ | exact (Bel.refl _).drew | exact (Bel.refl _).drewN _)⟩
set_option maxRecDepth 10000 in
set_option maxHeartbeats 1000000 in
theorem cut_big (s : ByteArray) (w : World) (hs : s.size ≤ 9223372036854775807) :
    Calls Try.prog 65 #[.string s, .string ⟨#[45]⟩] w fun e w' => (indexByte s.data.toList dash = -1 → e = .returned (.tuple #[.string s, .string ⟨#[]⟩, .bool false])) ∧ (∀ i : Nat, indexByte s.data.toList dash = (i : Int) → e = .returned (.tuple #[.string (s.extract 0 i), .string (s.extract (i + 1) s.size), .bool true])) ∧ Bel w w' := by
  go_enter Try.func65, Try.ntmps65
  go_wp2_with fail
  refine (litCut_big s w hs).mono ?_
  rintro e w1 ⟨h1, h2, b⟩
  have hg := indexByte_ge s.data.toList dash
  by_cases h0 : indexByte s.data.toList dash = -1
  · have he := h1 h0
    subst he
    have H0 := hid_ h0
    have HB := hid_ b
    clear h1 h2 hg h0 b
    go_wp2
    go_ret3
    exact ⟨fun _ => rfl, fun i h => (by exfalso; have := H0.out; omega), HB.out⟩
  · obtain ⟨i, hi⟩ : ∃ i : Nat, indexByte s.data.toList dash = (i : Int) := ⟨(indexByte s.data.toList dash).toNat, by omega⟩
    have he := h2 i hi
    subst he
    have HI := hid_ hi
    have HB := hid_ b
    clear h1 h2 hg h0 b hi
    go_wp2
    go_ret3
    exact ⟨fun h => (by exfalso; have := HI.out; omega), fun j h => (by have h' := HI.out; obtain rfl : i = j := by omega
                                                                        rfl), HB.out⟩
set_option maxRecDepth 10000 in
set_option maxHeartbeats 2000000 in
theorem market_big (s : ByteArray) (w : World) (hs : s.size ≤ 9223372036854775807) :
    Calls Try.prog 19 #[.string s] w fun e w' => e = .returned (.tuple #[.string (mktA s), .string (mktC s), .int .i64 (mktE s)]) ∧ Bel w w' := by
  go_enter Try.func19, Try.ntmps19
  go_wp2_with fail
  refine (cut_big s w hs).mono ?_
  rintro e w1 ⟨h1, h2, b⟩
  have HB := hid_ b
  clear b
  have hg := indexByte_ge s.data.toList dash
  by_cases h0 : indexByte s.data.toList dash = -1
  · have he := h1 h0
    subst he
    have HM := hid_ (mkt_0 (market_no h0))
    clear h1 h2 hg h0
    go_wp2
    go_ret3
    exact ⟨by rw [HM.out.1, HM.out.2.1, HM.out.2.2]; rfl, HB.out⟩
  · obtain ⟨i, hi⟩ : ∃ i : Nat, indexByte s.data.toList dash = (i : Int) := ⟨(indexByte s.data.toList dash).toNat, by omega⟩
    have he := h2 i hi
    subst he
    obtain ⟨m1, m2, m3⟩ := market_at hi
    have hsa : (s.extract 0 i).size ≤ 9223372036854775807 := by rw [ByteArray.size_extract]; omega
    have hsb : (s.extract (i + 1) s.size).size ≤ 9223372036854775807 := by rw [ByteArray.size_extract]; omega
    obtain ⟨a, ha⟩ : ∃ a, s.extract 0 i = a := ⟨_, rfl⟩
    obtain ⟨c, hc⟩ : ∃ c, s.extract (i + 1) s.size = c := ⟨_, rfl⟩
    rw [ha] at m1 m3 hsa
    rw [hc] at m2 m3 hsb
    rw [ha, hc]
    have M1 := hid_ m1
    have M2 := hid_ m2
    have M3 := hid_ m3
    have SA := hid_ hsa
    have SB := hid_ hsb
    clear h1 h2 hg h0 hi m1 m2 m3 hsa hsb ha hc
    go_wp2_with fail
    refine (asset_big a w1 SA.out).mono ?_
    rintro e w2 ⟨rfl, b⟩
    have HB2 := hid_ (HB.out.trans b)
    clear b HB
    obtain ⟨qa, hqa⟩ : ∃ qa, assetB a = qa := ⟨_, rfl⟩
    rw [hqa]
    have QA := hid_ hqa
    clear hqa
    cases qa
    · have HM := hid_ (mkt_0 (M3.out.trans (by rw [QA.out]; rfl)))
      go_wp2
      go_ret3
      exact ⟨by rw [HM.out.1, HM.out.2.1, HM.out.2.2]; rfl, HB2.out⟩
    go_wp2_with fail
    refine (asset_big c w2 SB.out).mono ?_
    rintro e w3 ⟨rfl, b⟩
    have HB3 := hid_ (HB2.out.trans b)
    clear b HB2
    obtain ⟨qc, hqc⟩ : ∃ qc, assetB c = qc := ⟨_, rfl⟩
    rw [hqc]
    have QC := hid_ hqc
    clear hqc
    cases qc
    · have HM := hid_ (mkt_0 (M3.out.trans (by rw [QA.out, QC.out]; rfl)))
      go_wp2
      go_ret3
      exact ⟨by rw [HM.out.1, HM.out.2.1, HM.out.2.2]; rfl, HB3.out⟩
    by_cases hac : a = c
    · have HM := hid_ (mkt_0 (M3.out.trans (by rw [QA.out, QC.out, decide_eq_true hac]; rfl)))
      have e1 : (a.toList == c.toList) = true := by rw [bytesEq]; exact decide_eq_true hac
      clear M1 M2 M3 QA QC SA SB hac
      go_wp2
      go_ret3
      exact ⟨by rw [HM.out.1, HM.out.2.1, HM.out.2.2]; rfl, HB3.out⟩
    · have HM := hid_ (mkt_1 (M3.out.trans (by rw [QA.out, QC.out, decide_eq_false hac]; rfl)))
      have e1 : (a.toList == c.toList) = false := by rw [bytesEq]; exact decide_eq_false hac
      clear M3 QA QC SA SB hac
      go_wp2
      go_ret3
      exact ⟨by rw [HM.out.1, HM.out.2.1, HM.out.2.2, M1.out, M2.out]; rfl, HB3.out⟩
set_option maxRecDepth 10000 in
set_option maxHeartbeats 2000000 in
theorem orderCheck_big (number : Int) (who market : ByteArray) (buy : Bool) (price left : Int) (w : World) (hs1 : who.size ≤ 9223372036854775807) (hs2 : market.size ≤ 9223372036854775807) :
    Calls Try.prog 45 #[.agg #[.int .u64 number, .string who, .string market, .bool buy, .int .i64 price, .int .i64 left]] w fun e w' => e = .returned (.int .i64 (checkE who market price left)) ∧ Bel w w' := by
  have k0 := heap_alloc_new w (.cells #[.int .u64 number, .string who, .string market, .bool buy, .int .i64 price, .int .i64 left] 30)
  have q := fun j => cell_of_row _ w.heap.size j _ _ _ k0
  have hb : Bel w (w.alloc (.cells #[.int .u64 number, .string who, .string market, .bool buy, .int .i64 price, .int .i64 left] 30)) := (Bel.refl w).alloc _
  have K0 := hid_ k0
  have B0 := hid_ hb
  clear k0 hb
  go_enter Try.func45, Try.ntmps45
  go_wp2_with fail
  refine (market_big market _ hs2).mono ?_
  rintro e w1 ⟨rfl, b⟩
  have K1 := hid_ (b.blk K0.out)
  have B1 := hid_ (B0.out.trans b)
  clear b K0 B0 q
  have c1 := cell_of_row w1 _ 1 _ _ _ K1.out
  have c4 := cell_of_row w1 _ 4 _ _ _ K1.out
  have c5 := cell_of_row w1 _ 5 _ _ _ K1.out
  simp only [List.getElem?_toArray, List.getElem?_cons_succ, List.getElem?_cons_zero] at c1 c4 c5
  obtain ⟨mb, hmb⟩ : ∃ mb, marketB market = mb := ⟨_, rfl⟩
  have MB := hid_ hmb
  clear hmb
  cases mb
  · obtain ⟨x1, x2, x3⟩ := mkt_0 MB.out
    rw [x1, x2, x3]
    have HF := hid_ (check_no (who := who) (market := market) (price := price) (left := left) (by unfold checkB; rw [MB.out]; rfl))
    clear x1 x2 x3
    go_wp2
    go_ret
    exact ⟨by rw [HF.out]; rfl, B1.out⟩
  obtain ⟨x1, x2, x3⟩ := mkt_1 MB.out
  rw [x3]
  clear x1 x2 x3
  go_wp2_with fail
  refine (who_big who w1 hs1).mono ?_
  rintro e w2 ⟨rfl, b⟩
  have K2 := hid_ (b.blk K1.out)
  have B2 := hid_ (B1.out.trans b)
  clear b K1 B1 c1 c4 c5
  have c1 := cell_of_row w2 _ 1 _ _ _ K2.out
  have c4 := cell_of_row w2 _ 4 _ _ _ K2.out
  have c5 := cell_of_row w2 _ 5 _ _ _ K2.out
  simp only [List.getElem?_toArray, List.getElem?_cons_succ, List.getElem?_cons_zero] at c1 c4 c5
  obtain ⟨wb, hwb⟩ : ∃ wb, whoB who = wb := ⟨_, rfl⟩
  rw [hwb]
  have WB := hid_ hwb
  clear hwb
  cases wb
  · have HF := hid_ (check_no (who := who) (market := market) (price := price) (left := left) (by unfold checkB; rw [MB.out, WB.out]; rfl))
    go_wp2
    go_ret
    exact ⟨by rw [HF.out]; rfl, B2.out⟩
  obtain ⟨db, hdb⟩ : ∃ db, decide (who = worldS) = db := ⟨_, rfl⟩
  have e1 := worldEq who
  rw [hdb] at e1
  have DB := hid_ hdb
  clear hdb
  cases db
  · go_wp2_with fail
    refine (within_any price w2).mono ?_
    rintro e _ ⟨rfl, rfl⟩
    obtain ⟨pb, hpb⟩ : ∃ pb, withinB price = pb := ⟨_, rfl⟩
    rw [hpb]
    have PB := hid_ hpb
    clear hpb
    cases pb
    · have HF := hid_ (check_no (who := who) (market := market) (price := price) (left := left) (by unfold checkB; rw [MB.out, WB.out, DB.out, PB.out]; rfl))
      go_wp2
      go_ret
      exact ⟨by rw [HF.out]; rfl, B2.out⟩
    go_wp2_with fail
    refine (within_any left w2).mono ?_
    rintro e _ ⟨rfl, rfl⟩
    obtain ⟨lb, hlb⟩ : ∃ lb, withinB left = lb := ⟨_, rfl⟩
    rw [hlb]
    have LB := hid_ hlb
    clear hlb
    cases lb
    · have HF := hid_ (check_no (who := who) (market := market) (price := price) (left := left) (by unfold checkB; rw [MB.out, WB.out, DB.out, PB.out, LB.out]; rfl))
      go_wp2
      go_ret
      exact ⟨by rw [HF.out]; rfl, B2.out⟩
    · have HF := hid_ (check_yes (who := who) (market := market) (price := price) (left := left) (by unfold checkB; rw [MB.out, WB.out, DB.out, PB.out, LB.out]; rfl))
      go_wp2
      go_ret
      exact ⟨by rw [HF.out]; rfl, B2.out⟩
  · have HF := hid_ (check_no (who := who) (market := market) (price := price) (left := left) (by unfold checkB; rw [MB.out, WB.out, DB.out]; rfl))
    go_wp2
    go_ret
    exact ⟨by rw [HF.out]; rfl, B2.out⟩
set_option maxRecDepth 10000 in
set_option maxHeartbeats 4000000 in
theorem put_big (A : Option Addr) (n c : Nat) (l : List Ord) (o0 : Int) (o1 o2 : ByteArray) (o3 : Bool) (o4 o5 : Int) (w : World) (hA : Row ordT w A n l) (hnc : n ≤ c) (hs1 : o1.size ≤ 9223372036854775807) (hs2 : o2.size ≤ 9223372036854775807) (hn : n ≤ 100000) :
    Calls Try.prog 15 #[.slice A n c, .agg #[.int .u64 o0, .string o1, .string o2, .bool o3, .int .i64 o4, .int .i64 o5]] w fun e w' => ∃ A' n' c', e = .returned (.tuple #[.slice A' n' c', .int .i64 (putE l ⟨o0, o1, o2, o3, o4, o5⟩)]) ∧ Row ordT w' A' n' (putO l ⟨o0, o1, o2, o3, o4, o5⟩) ∧ n' ≤ c' ∧ Bel w w' := by
  have SZ : Hid (o1.size ≤ 9223372036854775807 ∧ o2.size ≤ 9223372036854775807) := hid_ ⟨hs1, hs2⟩
  have hlen := hA.1
  obtain ⟨ro, hro⟩ : ∃ ro, putO l ⟨o0, o1, o2, o3, o4, o5⟩ = ro := ⟨_, rfl⟩
  rw [hro]
  have Hro := hid_ hro
  clear hro
  obtain ⟨re, hre⟩ : ∃ re, putE l ⟨o0, o1, o2, o3, o4, o5⟩ = re := ⟨_, rfl⟩
  rw [hre]
  have Hre := hid_ hre
  clear hre
  have k0 := Bx.new w 30 [.int .u64 o0, .string o1, .string o2, .bool o3, .int .i64 o4, .int .i64 o5]
  have k0 : Bx (w.alloc (.cells #[.int .u64 o0, .string o1, .string o2, .bool o3, .int .i64 o4, .int .i64 o5] 30)) (w.heap.size) 30 [.int .u64 o0, .string o1, .string o2, .bool o3, .int .i64 o4, .int .i64 o5] := k0
  have kB : Bel w (w.alloc (.cells #[.int .u64 o0, .string o1, .string o2, .bool o3, .int .i64 o4, .int .i64 o5] 30)) := (Bel.refl w).alloc _
  have FO := hid_ k0
  have FB := hid_ kB
  clear k0 kB
  have FA := hid_ (hA.bel FB.out)
  have HN := hid_ hn
  have HL := hid_ hlen
  have HNC := hid_ hnc
  clear hA hs1 hs2 hlen hn hnc
  go_enter Try.func15, Try.ntmps15
  go_wp2_with fail
  generalize (w.alloc (.cells #[.int .u64 o0, .string o1, .string o2, .bool o3, .int .i64 o4, .int .i64 o5] 30)) = W0 at FO FB FA ⊢
  obtain ⟨gO, hgO⟩ : ∃ g, w.heap.size = g := ⟨_, rfl⟩
  rw [hgO] at FO
  try rw [hgO]
  clear hgO
  have qO0 := FO.out.cell 0 rfl
  have qO1 := FO.out.cell 1 rfl
  have qO2 := FO.out.cell 2 rfl
  have qO3 := FO.out.cell 3 rfl
  have qO4 := FO.out.cell 4 rfl
  have qO5 := FO.out.cell 5 rfl
  refine (orderCheck_big o0 o1 o2 o3 o4 o5 _ SZ.out.1 SZ.out.2).mono ?_
  rintro e v1 ⟨rfl, b⟩
  have bb := b
  have f1O := hid_ (FO.out.bel bb)
  have f1B := hid_ (FB.out.trans bb)
  have f1A := hid_ (FA.out.bel bb)
  clear b bb FO FB FA qO0 qO1 qO2 qO3 qO4 qO5
  obtain ⟨cb, hcb⟩ : ∃ cb, chk ⟨o0, o1, o2, o3, o4, o5⟩ = cb := ⟨_, rfl⟩
  have HCB := hid_ hcb
  cases cb
  · have HE : checkE o1 o2 o4 o5 = 130 := check_no hcb
    rw [HE]
    clear HE hcb
    have HF : Hid (ro = [] ∧ re = 130) := hid_ (by have h := put_0 (l := l) (o := ⟨o0, o1, o2, o3, o4, o5⟩) (by unfold putOk; rw [HCB.out]; rfl); exact ⟨by rw [← Hro.out, h.1], by rw [← Hre.out, h.2]⟩)
    clear Hro Hre
    go_wp2
    go_ret2
    exact ⟨none, 0, 0, by rw [HF.out.2]; rfl, by rw [HF.out.1]; exact Row.none_ _ _ _, Nat.le_refl _, f1B.out⟩
  have HE : checkE o1 o2 o4 o5 = 0 := check_yes hcb
  rw [HE]
  clear HE hcb
  by_cases hbig : 200 ≤ n
  · have z : ¬ ((n : Int) < 200) := by omega
    have z2 : (200 : Int) ≤ (n : Int) := by omega
    have HF : Hid (ro = [] ∧ re = 130) := hid_ (by have h := put_0 (l := l) (o := ⟨o0, o1, o2, o3, o4, o5⟩) (by unfold putOk; rw [HL.out, decide_eq_false (show ¬ n < 200 by omega)]; simp); exact ⟨by rw [← Hro.out, h.1], by rw [← Hre.out, h.2]⟩)
    clear Hro Hre
    go_wp2
    go_ret2
    exact ⟨none, 0, 0, by rw [HF.out.2]; rfl, by rw [HF.out.1]; exact Row.none_ _ _ _, Nat.le_refl _, f1B.out⟩
  have z : (n : Int) < 200 := by omega
  have z2 : ¬ (200 : Int) ≤ (n : Int) := by omega
  have hn2 : n < 200 := by omega
  have HN2 := hid_ hn2
  clear hn2 hbig
  have qO0 := f1O.out.cell 0 rfl
  go_wp2_with fail
  refine (is_any o0 _).mono ?_
  rintro e v2 ⟨rfl, hw⟩
  have kb := Bx.new v1 28 [.int .u64 o0]
  rw [show (v1.alloc (.cells ([.int .u64 o0] : List Value).toArray 28)) = v2 from hw] at kb
  have hb2 : Bel v1 v2 := by rw [← hw]; exact (Bel.refl v1).alloc _
  have KB := hid_ kb
  clear kb hw
  generalize v1.heap.size = gn at KB ⊢
  have f2O := hid_ (f1O.out.bel hb2)
  have f2B := hid_ (f1B.out.trans hb2)
  have f2A := hid_ (f1A.out.bel hb2)
  clear hb2 f1O f1B f1A qO0
  go_wp2_with fail
  refine (containsP_any (fun x => x.number == o0) 98 _ egIs A n c l _ f2A.out (fun a0 a1 a2 a3 a4 a5 w' hb => is1_any a0 a1 a2 a3 a4 a5 o0 gn w' (hb.cell_ (KB.out.cell 0 rfl)))).mono ?_
  rintro e v3 ⟨rfl, b⟩
  have bb := b
  have f3O := hid_ (f2O.out.bel bb)
  have f3B := hid_ (f2B.out.trans bb)
  have f3A := hid_ (f2A.out.bel bb)
  have f3K := hid_ (KB.out.bel bb)
  clear b bb f2O f2B f2A KB
  obtain ⟨ib, hib⟩ : ∃ ib, (l.findIdx? (fun x => x.number == o0)).isSome = ib := ⟨_, rfl⟩
  rw [hib]
  have HIB := hid_ hib
  clear hib
  cases ib
  case true =>
    have HF : Hid (ro = [] ∧ re = 130) := hid_ (by have h := put_0 (l := l) (o := ⟨o0, o1, o2, o3, o4, o5⟩) (by unfold putOk; rw [HIB.out]; simp); exact ⟨by rw [← Hro.out, h.1], by rw [← Hre.out, h.2]⟩)
    clear Hro Hre
    go_wp2
    go_ret2
    exact ⟨none, 0, 0, by rw [HF.out.2]; rfl, by rw [HF.out.1]; exact Row.none_ _ _ _, Nat.le_refl _, f3B.out⟩
  have HOK : Hid (putOk l ⟨o0, o1, o2, o3, o4, o5⟩ = true) := hid_ (by unfold putOk; rw [HCB.out, HIB.out, HL.out, decide_eq_true HN2.out]; rfl)
  clear HCB HIB
  go_wp2_with fail
  refine (indexP_any (fun x => decide (o0 < x.number)) 49 _ egPut A n c l _ f3A.out (fun a0 a1 a2 a3 a4 a5 w' hb => put1_any a0 a1 a2 a3 a4 a5 o0 gO w' (hb.cell_ (f3O.out.cell 0 rfl)))).mono ?_
  rintro e v4 ⟨rfl, b⟩
  have bb := b
  have f4O := hid_ (f3O.out.bel bb)
  have f4B := hid_ (f3B.out.trans bb)
  have f4A := hid_ (f3A.out.bel bb)
  have f4K := hid_ (f3K.out.bel bb)
  clear b bb f3O f3B f3A f3K
  clear f4K
  have hp := putI_le l o0
  have hx := idxI_put l o0
  rw [HL.out] at hp hx
  obtain ⟨i, hi⟩ : ∃ i, putI l o0 = i := ⟨_, rfl⟩
  rw [hi] at hp hx
  have HI := hid_ hi
  clear hi
  generalize idxI (fun x => decide (o0 < x.number)) l = ri at hx ⊢
  obtain ⟨A', hcut, hrow⟩ := ordS.cutFrom (P := Try.prog) .i64 A n c i hp HNC.out
  have hto := fun W => ordS.cutTo (P := Try.prog) .i64 A n c i (Nat.le_trans hp HNC.out) W
  have HROW := hid_ (hrow _ _ f4A.out)
  have HTO := hid_ (f4A.out.take_ hp)
  clear hrow z z2
  have qO0 := f4O.out.cell 0 rfl
  have qO1 := f4O.out.cell 1 rfl
  have qO2 := f4O.out.cell 2 rfl
  have qO3 := f4O.out.cell 3 rfl
  have qO4 := f4O.out.cell 4 rfl
  have qO5 := f4O.out.cell 5 rfl
  have HFIN : Hid (ro = putL l ⟨o0, o1, o2, o3, o4, o5⟩ ∧ re = 0) := hid_ (by have h := put_1 HOK.out; exact ⟨by rw [← Hro.out, h.1], by rw [← Hre.out, h.2]⟩)
  clear Hro Hre HOK
  have PN := hid_ hp
  clear hp
  have i0 : (0 : Int) ≤ (i : Int) := by omega
  rcases hx with ⟨hm1, hin⟩ | hx
  · subst hm1
    subst hin
    have HROW0 := HROW.out
    rw [Nat.sub_self] at HROW0
    clear HROW
    have HROW := hid_ HROW0
    clear HROW0
    have hz9 : v4.heap.size + 1 = (v4.alloc (.cells #[.int .u64 o0, .string o1, .string o2, .bool o3, .int .i64 o4, .int .i64 o5] 30)).heap.size := by simp
    have HZ9 := hid_ hz9
    have HL9 : Hid ([l.take i, [⟨o0, o1, o2, o3, o4, o5⟩], l.drop i].flatten.length ≤ 100000) := hid_ (by have h1 := PN.out; have h2 := HN2.out; have h3 := HL.out; simp; omega)
    clear hz9
    go_wp2_with fail
    go_region_held3 (fun W => W.cell? ⟨gO, 0, none⟩ = some (.int .u64 o0) ∧ W.cell? ⟨gO, 1, none⟩ = some (.string o1) ∧ W.cell? ⟨gO, 2, none⟩ = some (.string o2) ∧ W.cell? ⟨gO, 3, none⟩ = some (.bool o3) ∧ W.cell? ⟨gO, 4, none⟩ = some (.int .i64 o4) ∧ W.cell? ⟨gO, 5, none⟩ = some (.int .i64 o5)) (first | exact ⟨qO0, qO1, qO2, qO3, qO4, qO5⟩ | exact ⟨cellOld qO0 _, cellOld qO1 _, cellOld qO2 _, cellOld qO3 _, cellOld qO4 _, cellOld qO5 _⟩ | exact ⟨cellOld (cellOld qO0 _) _, cellOld (cellOld qO1 _) _, cellOld (cellOld qO2 _) _, cellOld (cellOld qO3 _) _, cellOld (cellOld qO4 _) _, cellOld (cellOld qO5 _) _⟩ | exact ⟨bz.cell_ qO0, bz.cell_ qO1, bz.cell_ qO2, bz.cell_ qO3, bz.cell_ qO4, bz.cell_ qO5⟩)
      (first | (go_at_call 50; refine' Calls.mono (concatO_any _ 3 3 [(A, i, c), (some ⟨v4.heap.size, 0, none⟩, 1, 1), (A', 0, c - i)] [l.take i, [⟨o0, o1, o2, o3, o4, o5⟩], l.drop i] _ (litThree _ _ A (some ⟨v4.heap.size, 0, none⟩) A' i 1 (0) c 1 (c - i) _ HZ9.out (Bel.refl _).drew) (rowsThree _ _ _ _ _ _ _ _ _ _ _ _ _ (HTO.out.bel (((Bel.refl v4).alloc _).alloc _).drew) ((Row.one (T := ordT) (W := v4) ⟨o0, o1, o2, o3, o4, o5⟩ rfl rfl).bel ((Bel.refl _).alloc _).drew) (HROW.out.bel (((Bel.refl v4).alloc _).alloc _).drew)) HL9.out) ?_; rintro e w9 ⟨v9, rfl, oo, b9⟩; have bz : Bel v4 w9 := (((Bel.refl v4).alloc _).alloc _).drew.trans b9))
    obtain ⟨A9, c9, hv9, hc9, r9⟩ := oo.reads
    subst hv9
    have hxy : [l.take i, [⟨o0, o1, o2, o3, o4, o5⟩], l.drop i].flatten = putL l ⟨o0, o1, o2, o3, o4, o5⟩ := by show _ = l.take (putI l o0) ++ (⟨o0, o1, o2, o3, o4, o5⟩ :: l.drop (putI l o0)); rw [HI.out]; simp
    rw [hxy] at r9 hc9 ⊢
    have HR9 := hid_ r9
    have HC9 := hid_ hc9
    have HB9 := hid_ (f4B.out.trans bz)
    clear r9 hc9 oo bz b9 hxy qO0 qO1 qO2 qO3 qO4 qO5
    try clear hcut hto
    go_wp2
    go_ret2
    exact ⟨A9, _, c9, by rw [HFIN.out.2]; rfl, by rw [HFIN.out.1]; exact HR9.out, HC9.out, HB9.out⟩
  · subst hx
    have hz9 : v4.heap.size + 1 = (v4.alloc (.cells #[.int .u64 o0, .string o1, .string o2, .bool o3, .int .i64 o4, .int .i64 o5] 30)).heap.size := by simp
    have HZ9 := hid_ hz9
    have HL9 : Hid ([l.take i, [⟨o0, o1, o2, o3, o4, o5⟩], l.drop i].flatten.length ≤ 100000) := hid_ (by have h1 := PN.out; have h2 := HN2.out; have h3 := HL.out; simp; omega)
    clear hz9
    go_wp2_with fail
    go_region_held3 (fun W => W.cell? ⟨gO, 0, none⟩ = some (.int .u64 o0) ∧ W.cell? ⟨gO, 1, none⟩ = some (.string o1) ∧ W.cell? ⟨gO, 2, none⟩ = some (.string o2) ∧ W.cell? ⟨gO, 3, none⟩ = some (.bool o3) ∧ W.cell? ⟨gO, 4, none⟩ = some (.int .i64 o4) ∧ W.cell? ⟨gO, 5, none⟩ = some (.int .i64 o5)) (first | exact ⟨qO0, qO1, qO2, qO3, qO4, qO5⟩ | exact ⟨cellOld qO0 _, cellOld qO1 _, cellOld qO2 _, cellOld qO3 _, cellOld qO4 _, cellOld qO5 _⟩ | exact ⟨cellOld (cellOld qO0 _) _, cellOld (cellOld qO1 _) _, cellOld (cellOld qO2 _) _, cellOld (cellOld qO3 _) _, cellOld (cellOld qO4 _) _, cellOld (cellOld qO5 _) _⟩ | exact ⟨bz.cell_ qO0, bz.cell_ qO1, bz.cell_ qO2, bz.cell_ qO3, bz.cell_ qO4, bz.cell_ qO5⟩)
      (first | (go_at_call 50; refine' Calls.mono (concatO_any _ 3 3 [(A, i, c), (some ⟨v4.heap.size, 0, none⟩, 1, 1), (A', n - i, c - i)] [l.take i, [⟨o0, o1, o2, o3, o4, o5⟩], l.drop i] _ (litThree _ _ A (some ⟨v4.heap.size, 0, none⟩) A' i 1 (n - i) c 1 (c - i) _ HZ9.out (Bel.refl _).drew) (rowsThree _ _ _ _ _ _ _ _ _ _ _ _ _ (HTO.out.bel (((Bel.refl v4).alloc _).alloc _).drew) ((Row.one (T := ordT) (W := v4) ⟨o0, o1, o2, o3, o4, o5⟩ rfl rfl).bel ((Bel.refl _).alloc _).drew) (HROW.out.bel (((Bel.refl v4).alloc _).alloc _).drew)) HL9.out) ?_; rintro e w9 ⟨v9, rfl, oo, b9⟩; have bz : Bel v4 w9 := (((Bel.refl v4).alloc _).alloc _).drew.trans b9))
    obtain ⟨A9, c9, hv9, hc9, r9⟩ := oo.reads
    subst hv9
    have hxy : [l.take i, [⟨o0, o1, o2, o3, o4, o5⟩], l.drop i].flatten = putL l ⟨o0, o1, o2, o3, o4, o5⟩ := by show _ = l.take (putI l o0) ++ (⟨o0, o1, o2, o3, o4, o5⟩ :: l.drop (putI l o0)); rw [HI.out]; simp
    rw [hxy] at r9 hc9 ⊢
    have HR9 := hid_ r9
    have HC9 := hid_ hc9
    have HB9 := hid_ (f4B.out.trans bz)
    clear r9 hc9 oo bz b9 hxy qO0 qO1 qO2 qO3 qO4 qO5
    try clear hcut hto
    go_wp2
    go_ret2
    exact ⟨A9, _, c9, by rw [HFIN.out.2]; rfl, by rw [HFIN.out.1]; exact HR9.out, HC9.out, HB9.out⟩
end Go.Proofs.Ytlddpkbdmbafbaa
