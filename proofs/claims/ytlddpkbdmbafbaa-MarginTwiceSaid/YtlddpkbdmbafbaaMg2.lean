/- margin.Place, Cancel; the document's. -/
import Derived.Test.YtlddpkbdmbafbaaMg1
import Derived.Test.YtlddpkbdmbafbaaAc11
set_option linter.unusedSimpArgs false
set_option linter.unusedVariables false
namespace Go.Proofs.Ytlddpkbdmbafbaa
open Go.RowKit Go.Lib
def holdX (l : List Acc) (p : Plc) (m : Int) : Int := if wrap64 ((findA l p).balance - (findA l p).held) < m then 111 else 0
def freeX (l : List Acc) (p : Plc) (m : Int) : Int := if (findA l p).held < m then 112 else 0
def ordP (o : Ord) : Plc := ⟨o.who, needA o⟩
def plE (l : List Acc) (o : Ord) : Int := if chk o then mvE (ordP o) (needN o) (holdX l (ordP o) (needN o)) else 130
def plO (l : List Acc) (o : Ord) : List Acc := if chk o then mvO l (ordP o) (needN o) (holdX l (ordP o) (needN o)) (needN o) else []
def caE (l : List Acc) (o : Ord) : Int := if chk o then mvE (ordP o) (needN o) (freeX l (ordP o) (needN o)) else 130
def caO (l : List Acc) (o : Ord) : List Acc := if chk o then mvO l (ordP o) (needN o) (freeX l (ordP o) (needN o)) (wrap64 (-(needN o))) else []
theorem extract_le (s : ByteArray) (i j : Nat) : (s.extract i j).size ≤ s.size := by
  rw [ByteArray.size_extract]
  omega
theorem needA_le (o : Ord) : (needA o).size ≤ o.market.size := by
  unfold needA
  split
  · split
    · exact extract_le _ _ _
    · exact extract_le _ _ _
  · exact Nat.zero_le _
set_option maxRecDepth 10000 in
set_option maxHeartbeats 2000000 in
theorem place_any (A : Option Addr) (n c : Nat) (l : List Acc) (o0 : Int) (o1 o2 : ByteArray) (o3 : Bool) (o4 o5 : Int) (w : World) (hA : Row accT w A n l) (hnc : n ≤ c) (hs : Srt l) (hn : n ≤ 99999) (hs1 : o1.size ≤ 4294967280) (hs2 : o2.size ≤ 4294967280) :
    Calls Try.prog 26 #[.slice A n c, .agg #[.int .u64 o0, .string o1, .string o2, .bool o3, .int .i64 o4, .int .i64 o5]] w fun e w' => ∃ v, e = .returned (.tuple #[v, .int .i64 (plE l ⟨o0, o1, o2, o3, o4, o5⟩)]) ∧ Own accT w' w.heap.size v (plO l ⟨o0, o1, o2, o3, o4, o5⟩) ∧ Bel w w' := by
  have SZ := hid_ (And.intro hs1 hs2)
  have HS := hid_ hs
  have HN := hid_ hn
  have HNC := hid_ hnc
  clear hnc
  have HNA := hid_ (needA_le ⟨o0, o1, o2, o3, o4, o5⟩)
  obtain ⟨ro, hro⟩ : ∃ r, plO l ⟨o0, o1, o2, o3, o4, o5⟩ = r := ⟨_, rfl⟩
  obtain ⟨re, hre⟩ : ∃ r, plE l ⟨o0, o1, o2, o3, o4, o5⟩ = r := ⟨_, rfl⟩
  rw [hro, hre]
  have HR := hid_ (And.intro hre hro)
  clear hs1 hs2 hs hn hro hre
  have k0 := Bx.new w 30 [.int .u64 o0, .string o1, .string o2, .bool o3, .int .i64 o4, .int .i64 o5]
  have k0 : Bx (w.alloc (.cells #[.int .u64 o0, .string o1, .string o2, .bool o3, .int .i64 o4, .int .i64 o5] 30)) (w.heap.size) 30 [.int .u64 o0, .string o1, .string o2, .bool o3, .int .i64 o4, .int .i64 o5] := k0
  have kB : Bel w (w.alloc (.cells #[.int .u64 o0, .string o1, .string o2, .bool o3, .int .i64 o4, .int .i64 o5] 30)) := (Bel.refl w).alloc _
  have FO := hid_ k0
  have FB := hid_ kB
  clear k0 kB
  have FA := hid_ (hA.bel FB.out)
  clear hA
  have HLE : Hid (w.heap.size ≤ w.heap.size + 1) := hid_ (Nat.le_succ _)
  go_enter Try.func26, Try.ntmps26
  have qO0 := FO.out.cell 0 rfl
  have qO1 := FO.out.cell 1 rfl
  have qO2 := FO.out.cell 2 rfl
  have qO3 := FO.out.cell 3 rfl
  have qO4 := FO.out.cell 4 rfl
  have qO5 := FO.out.cell 5 rfl
  go_wp2_with fail
  generalize (w.alloc (.cells #[.int .u64 o0, .string o1, .string o2, .bool o3, .int .i64 o4, .int .i64 o5] 30)) = W0 at FO FB FA ⊢
  obtain ⟨gO, hgO⟩ : ∃ g, w.heap.size = g := ⟨_, rfl⟩
  have HGO := hid_ hgO
  rw [hgO] at FO HLE
  try rw [hgO]
  clear hgO
  refine (need_any o0 o1 o2 o3 o4 o5 _ SZ.out.1 SZ.out.2).mono ?_
  rintro e v1 ⟨rfl, b⟩
  have bb := b
  have f1O := hid_ (FO.out.bel bb)
  have f1B := hid_ (FB.out.trans bb)
  have f1A := hid_ (FA.out.bel bb)
  clear b bb FO FB FA qO0 qO1 qO2 qO3 qO4 qO5
  obtain ⟨na, hna⟩ : ∃ x, needA ⟨o0, o1, o2, o3, o4, o5⟩ = x := ⟨_, rfl⟩
  obtain ⟨nn, hnn⟩ : ∃ x, needN ⟨o0, o1, o2, o3, o4, o5⟩ = x := ⟨_, rfl⟩
  obtain ⟨ne, hne⟩ : ∃ x, needE ⟨o0, o1, o2, o3, o4, o5⟩ = x := ⟨_, rfl⟩
  rw [hna, hnn, hne]
  rw [hna] at HNA
  have HNX := hid_ (And.intro hna (And.intro hnn hne))
  clear hna hnn hne
  obtain ⟨cb, hcb⟩ : ∃ cb, chk ⟨o0, o1, o2, o3, o4, o5⟩ = cb := ⟨_, rfl⟩
  have HCB := hid_ hcb
  clear hcb
  cases cb
  · have he : ne = 130 := by rw [← HNX.out.2.2]; exact (need_0 HCB.out).2.2
    rw [he]
    have HF : Hid (ro = [] ∧ re = 130) := hid_ ⟨by rw [← HR.out.2]; unfold plO; rw [HCB.out]; rfl, by rw [← HR.out.1]; unfold plE; rw [HCB.out]; rfl⟩
    clear he HR
    go_wp2
    go_ret2
    exact ⟨.slice none 0 0, by rw [HF.out.2]; rfl, by rw [HF.out.1]; exact Own.nil_ _ _ _, f1B.out⟩
  have he : ne = 0 := by
    rw [← HNX.out.2.2]
    cases o3
    · exact (need_s HCB.out rfl).2.2
    · exact (need_b HCB.out rfl).2.2
  rw [he]
  clear he
  have q1 := f1O.out.cell 1 rfl
  go_wp2_with fail
  refine (hold_any A n c l o1 na nn _ f1A.out HNC.out HS.out HN.out (Nat.le_trans SZ.out.1 (by decide)) (Nat.le_trans HNA.out (Nat.le_trans SZ.out.2 (by decide)))).mono ?_
  rintro e v2 ⟨v, rfl, o, b⟩
  have HO : Hid (Own accT v2 w.heap.size v ro) := hid_ (by
    have e : ro = mvO l ⟨o1, na⟩ nn (holdX l ⟨o1, na⟩ nn) (nn) := by rw [← HR.out.2]; unfold plO; rw [HCB.out, if_pos rfl]; unfold ordP; rw [HNX.out.1, HNX.out.2.1]
    rw [e]
    exact o.mono_ f1B.out.size_)
  have HF : Hid (re = mvE ⟨o1, na⟩ nn (holdX l ⟨o1, na⟩ nn)) := hid_ (by rw [← HR.out.1]; unfold plE; rw [HCB.out, if_pos rfl]; unfold ordP; rw [HNX.out.1, HNX.out.2.1])
  have B2 := hid_ (f1B.out.trans b)
  have HE : mvE ⟨o1, na⟩ nn (if wrap64 ((findA l ⟨o1, na⟩).balance - (findA l ⟨o1, na⟩).held) < nn then 111 else 0) = re := HF.out.symm
  rw [HE]
  clear HE o b q1 HR
  go_wp2
  go_ret2
  exact ⟨v, rfl, HO.out, B2.out⟩
set_option maxRecDepth 10000 in
set_option maxHeartbeats 2000000 in
theorem placeR_any (A : Option Addr) (n c : Nat) (l : List Acc) (o0 : Int) (o1 o2 : ByteArray) (o3 : Bool) (o4 o5 : Int) (w : World) (hA : Row accT w A n l) (hs : Srt l) (hn : n ≤ 99999) (hs1 : o1.size ≤ 4294967280) (hs2 : o2.size ≤ 4294967280) :
    Calls Try.prog 27 #[.slice A n c, .agg #[.int .u64 o0, .string o1, .string o2, .bool o3, .int .i64 o4, .int .i64 o5]] w fun e w' => ∃ v, e = .returned (.tuple #[v, .int .i64 (plE l ⟨o0, o1, o2, o3, o4, o5⟩)]) ∧ Own accT w' w.heap.size v (plO l ⟨o0, o1, o2, o3, o4, o5⟩) ∧ Bel w w' := by
  have SZ := hid_ (And.intro hs1 hs2)
  have HS := hid_ hs
  have HN := hid_ hn
  have HNA := hid_ (needA_le ⟨o0, o1, o2, o3, o4, o5⟩)
  obtain ⟨ro, hro⟩ : ∃ r, plO l ⟨o0, o1, o2, o3, o4, o5⟩ = r := ⟨_, rfl⟩
  obtain ⟨re, hre⟩ : ∃ r, plE l ⟨o0, o1, o2, o3, o4, o5⟩ = r := ⟨_, rfl⟩
  rw [hro, hre]
  have HR := hid_ (And.intro hre hro)
  clear hs1 hs2 hs hn hro hre
  have k0 := Bx.new w 30 [.int .u64 o0, .string o1, .string o2, .bool o3, .int .i64 o4, .int .i64 o5]
  have k0 : Bx (w.alloc (.cells #[.int .u64 o0, .string o1, .string o2, .bool o3, .int .i64 o4, .int .i64 o5] 30)) (w.heap.size) 30 [.int .u64 o0, .string o1, .string o2, .bool o3, .int .i64 o4, .int .i64 o5] := k0
  have kB : Bel w (w.alloc (.cells #[.int .u64 o0, .string o1, .string o2, .bool o3, .int .i64 o4, .int .i64 o5] 30)) := (Bel.refl w).alloc _
  have FO := hid_ k0
  have FB := hid_ kB
  clear k0 kB
  have FA := hid_ (hA.bel FB.out)
  clear hA
  have HLE : Hid (w.heap.size ≤ w.heap.size + 1) := hid_ (Nat.le_succ _)
  go_enter Try.func27, Try.ntmps27
  have qO0 := FO.out.cell 0 rfl
  have qO1 := FO.out.cell 1 rfl
  have qO2 := FO.out.cell 2 rfl
  have qO3 := FO.out.cell 3 rfl
  have qO4 := FO.out.cell 4 rfl
  have qO5 := FO.out.cell 5 rfl
  go_wp2_with fail
  generalize (w.alloc (.cells #[.int .u64 o0, .string o1, .string o2, .bool o3, .int .i64 o4, .int .i64 o5] 30)) = W0 at FO FB FA ⊢
  obtain ⟨gO, hgO⟩ : ∃ g, w.heap.size = g := ⟨_, rfl⟩
  have HGO := hid_ hgO
  rw [hgO] at FO HLE
  try rw [hgO]
  clear hgO
  refine (needR_any o0 o1 o2 o3 o4 o5 _ SZ.out.1 SZ.out.2).mono ?_
  rintro e v1 ⟨rfl, b⟩
  have bb := b
  have f1O := hid_ (FO.out.bel bb)
  have f1B := hid_ (FB.out.trans bb)
  have f1A := hid_ (FA.out.bel bb)
  clear b bb FO FB FA qO0 qO1 qO2 qO3 qO4 qO5
  obtain ⟨na, hna⟩ : ∃ x, needA ⟨o0, o1, o2, o3, o4, o5⟩ = x := ⟨_, rfl⟩
  obtain ⟨nn, hnn⟩ : ∃ x, needN ⟨o0, o1, o2, o3, o4, o5⟩ = x := ⟨_, rfl⟩
  obtain ⟨ne, hne⟩ : ∃ x, needE ⟨o0, o1, o2, o3, o4, o5⟩ = x := ⟨_, rfl⟩
  rw [hna, hnn, hne]
  rw [hna] at HNA
  have HNX := hid_ (And.intro hna (And.intro hnn hne))
  clear hna hnn hne
  obtain ⟨cb, hcb⟩ : ∃ cb, chk ⟨o0, o1, o2, o3, o4, o5⟩ = cb := ⟨_, rfl⟩
  have HCB := hid_ hcb
  clear hcb
  cases cb
  · have he : ne = 130 := by rw [← HNX.out.2.2]; exact (need_0 HCB.out).2.2
    rw [he]
    have HF : Hid (ro = [] ∧ re = 130) := hid_ ⟨by rw [← HR.out.2]; unfold plO; rw [HCB.out]; rfl, by rw [← HR.out.1]; unfold plE; rw [HCB.out]; rfl⟩
    clear he HR
    go_wp2
    go_ret2
    exact ⟨.slice none 0 0, by rw [HF.out.2]; rfl, by rw [HF.out.1]; exact Own.nil_ _ _ _, f1B.out⟩
  have he : ne = 0 := by
    rw [← HNX.out.2.2]
    cases o3
    · exact (need_s HCB.out rfl).2.2
    · exact (need_b HCB.out rfl).2.2
  rw [he]
  clear he
  have q1 := f1O.out.cell 1 rfl
  go_wp2_with fail
  refine (holdR_any A n c l o1 na nn _ f1A.out HS.out HN.out SZ.out.1 (Nat.le_trans HNA.out SZ.out.2)).mono ?_
  rintro e v2 ⟨v, rfl, o, b⟩
  have HO : Hid (Own accT v2 w.heap.size v ro) := hid_ (by
    have e : ro = mvO l ⟨o1, na⟩ nn (holdX l ⟨o1, na⟩ nn) (nn) := by rw [← HR.out.2]; unfold plO; rw [HCB.out, if_pos rfl]; unfold ordP; rw [HNX.out.1, HNX.out.2.1]
    rw [e]
    exact o.mono_ f1B.out.size_)
  have HF : Hid (re = mvE ⟨o1, na⟩ nn (holdX l ⟨o1, na⟩ nn)) := hid_ (by rw [← HR.out.1]; unfold plE; rw [HCB.out, if_pos rfl]; unfold ordP; rw [HNX.out.1, HNX.out.2.1])
  have B2 := hid_ (f1B.out.trans b)
  have HE : mvE ⟨o1, na⟩ nn (if wrap64 ((findA l ⟨o1, na⟩).balance - (findA l ⟨o1, na⟩).held) < nn then 111 else 0) = re := HF.out.symm
  rw [HE]
  clear HE o b q1 HR
  go_wp2
  go_ret2
  exact ⟨v, rfl, HO.out, B2.out⟩
set_option maxRecDepth 10000 in
set_option maxHeartbeats 2000000 in
theorem cancel_any (A : Option Addr) (n c : Nat) (l : List Acc) (o0 : Int) (o1 o2 : ByteArray) (o3 : Bool) (o4 o5 : Int) (w : World) (hA : Row accT w A n l) (hnc : n ≤ c) (hs : Srt l) (hn : n ≤ 99999) (hs1 : o1.size ≤ 4294967280) (hs2 : o2.size ≤ 4294967280) :
    Calls Try.prog 28 #[.slice A n c, .agg #[.int .u64 o0, .string o1, .string o2, .bool o3, .int .i64 o4, .int .i64 o5]] w fun e w' => ∃ v, e = .returned (.tuple #[v, .int .i64 (caE l ⟨o0, o1, o2, o3, o4, o5⟩)]) ∧ Own accT w' w.heap.size v (caO l ⟨o0, o1, o2, o3, o4, o5⟩) ∧ Bel w w' := by
  have SZ := hid_ (And.intro hs1 hs2)
  have HS := hid_ hs
  have HN := hid_ hn
  have HNC := hid_ hnc
  clear hnc
  have HNA := hid_ (needA_le ⟨o0, o1, o2, o3, o4, o5⟩)
  obtain ⟨ro, hro⟩ : ∃ r, caO l ⟨o0, o1, o2, o3, o4, o5⟩ = r := ⟨_, rfl⟩
  obtain ⟨re, hre⟩ : ∃ r, caE l ⟨o0, o1, o2, o3, o4, o5⟩ = r := ⟨_, rfl⟩
  rw [hro, hre]
  have HR := hid_ (And.intro hre hro)
  clear hs1 hs2 hs hn hro hre
  have k0 := Bx.new w 30 [.int .u64 o0, .string o1, .string o2, .bool o3, .int .i64 o4, .int .i64 o5]
  have k0 : Bx (w.alloc (.cells #[.int .u64 o0, .string o1, .string o2, .bool o3, .int .i64 o4, .int .i64 o5] 30)) (w.heap.size) 30 [.int .u64 o0, .string o1, .string o2, .bool o3, .int .i64 o4, .int .i64 o5] := k0
  have kB : Bel w (w.alloc (.cells #[.int .u64 o0, .string o1, .string o2, .bool o3, .int .i64 o4, .int .i64 o5] 30)) := (Bel.refl w).alloc _
  have FO := hid_ k0
  have FB := hid_ kB
  clear k0 kB
  have FA := hid_ (hA.bel FB.out)
  clear hA
  have HLE : Hid (w.heap.size ≤ w.heap.size + 1) := hid_ (Nat.le_succ _)
  go_enter Try.func28, Try.ntmps28
  have qO0 := FO.out.cell 0 rfl
  have qO1 := FO.out.cell 1 rfl
  have qO2 := FO.out.cell 2 rfl
  have qO3 := FO.out.cell 3 rfl
  have qO4 := FO.out.cell 4 rfl
  have qO5 := FO.out.cell 5 rfl
  go_wp2_with fail
  generalize (w.alloc (.cells #[.int .u64 o0, .string o1, .string o2, .bool o3, .int .i64 o4, .int .i64 o5] 30)) = W0 at FO FB FA ⊢
  obtain ⟨gO, hgO⟩ : ∃ g, w.heap.size = g := ⟨_, rfl⟩
  have HGO := hid_ hgO
  rw [hgO] at FO HLE
  try rw [hgO]
  clear hgO
  refine (need_any o0 o1 o2 o3 o4 o5 _ SZ.out.1 SZ.out.2).mono ?_
  rintro e v1 ⟨rfl, b⟩
  have bb := b
  have f1O := hid_ (FO.out.bel bb)
  have f1B := hid_ (FB.out.trans bb)
  have f1A := hid_ (FA.out.bel bb)
  clear b bb FO FB FA qO0 qO1 qO2 qO3 qO4 qO5
  obtain ⟨na, hna⟩ : ∃ x, needA ⟨o0, o1, o2, o3, o4, o5⟩ = x := ⟨_, rfl⟩
  obtain ⟨nn, hnn⟩ : ∃ x, needN ⟨o0, o1, o2, o3, o4, o5⟩ = x := ⟨_, rfl⟩
  obtain ⟨ne, hne⟩ : ∃ x, needE ⟨o0, o1, o2, o3, o4, o5⟩ = x := ⟨_, rfl⟩
  rw [hna, hnn, hne]
  rw [hna] at HNA
  have HNX := hid_ (And.intro hna (And.intro hnn hne))
  clear hna hnn hne
  obtain ⟨cb, hcb⟩ : ∃ cb, chk ⟨o0, o1, o2, o3, o4, o5⟩ = cb := ⟨_, rfl⟩
  have HCB := hid_ hcb
  clear hcb
  cases cb
  · have he : ne = 130 := by rw [← HNX.out.2.2]; exact (need_0 HCB.out).2.2
    rw [he]
    have HF : Hid (ro = [] ∧ re = 130) := hid_ ⟨by rw [← HR.out.2]; unfold caO; rw [HCB.out]; rfl, by rw [← HR.out.1]; unfold caE; rw [HCB.out]; rfl⟩
    clear he HR
    go_wp2
    go_ret2
    exact ⟨.slice none 0 0, by rw [HF.out.2]; rfl, by rw [HF.out.1]; exact Own.nil_ _ _ _, f1B.out⟩
  have he : ne = 0 := by
    rw [← HNX.out.2.2]
    cases o3
    · exact (need_s HCB.out rfl).2.2
    · exact (need_b HCB.out rfl).2.2
  rw [he]
  clear he
  have q1 := f1O.out.cell 1 rfl
  go_wp2_with fail
  refine (free_any A n c l o1 na nn _ f1A.out HNC.out HS.out HN.out (Nat.le_trans SZ.out.1 (by decide)) (Nat.le_trans HNA.out (Nat.le_trans SZ.out.2 (by decide)))).mono ?_
  rintro e v2 ⟨v, rfl, o, b⟩
  have HO : Hid (Own accT v2 w.heap.size v ro) := hid_ (by
    have e : ro = mvO l ⟨o1, na⟩ nn (freeX l ⟨o1, na⟩ nn) (wrap64 (-nn)) := by rw [← HR.out.2]; unfold caO; rw [HCB.out, if_pos rfl]; unfold ordP; rw [HNX.out.1, HNX.out.2.1]
    rw [e]
    exact o.mono_ f1B.out.size_)
  have HF : Hid (re = mvE ⟨o1, na⟩ nn (freeX l ⟨o1, na⟩ nn)) := hid_ (by rw [← HR.out.1]; unfold caE; rw [HCB.out, if_pos rfl]; unfold ordP; rw [HNX.out.1, HNX.out.2.1])
  have B2 := hid_ (f1B.out.trans b)
  have HE : mvE ⟨o1, na⟩ nn (if (findA l ⟨o1, na⟩).held < nn then 112 else 0) = re := HF.out.symm
  rw [HE]
  clear HE o b q1 HR
  go_wp2
  go_ret2
  exact ⟨v, rfl, HO.out, B2.out⟩
set_option maxRecDepth 10000 in
set_option maxHeartbeats 2000000 in
theorem cancelR_any (A : Option Addr) (n c : Nat) (l : List Acc) (o0 : Int) (o1 o2 : ByteArray) (o3 : Bool) (o4 o5 : Int) (w : World) (hA : Row accT w A n l) (hs : Srt l) (hn : n ≤ 99999) (hs1 : o1.size ≤ 4294967280) (hs2 : o2.size ≤ 4294967280) :
    Calls Try.prog 29 #[.slice A n c, .agg #[.int .u64 o0, .string o1, .string o2, .bool o3, .int .i64 o4, .int .i64 o5]] w fun e w' => ∃ v, e = .returned (.tuple #[v, .int .i64 (caE l ⟨o0, o1, o2, o3, o4, o5⟩)]) ∧ Own accT w' w.heap.size v (caO l ⟨o0, o1, o2, o3, o4, o5⟩) ∧ Bel w w' := by
  have SZ := hid_ (And.intro hs1 hs2)
  have HS := hid_ hs
  have HN := hid_ hn
  have HNA := hid_ (needA_le ⟨o0, o1, o2, o3, o4, o5⟩)
  obtain ⟨ro, hro⟩ : ∃ r, caO l ⟨o0, o1, o2, o3, o4, o5⟩ = r := ⟨_, rfl⟩
  obtain ⟨re, hre⟩ : ∃ r, caE l ⟨o0, o1, o2, o3, o4, o5⟩ = r := ⟨_, rfl⟩
  rw [hro, hre]
  have HR := hid_ (And.intro hre hro)
  clear hs1 hs2 hs hn hro hre
  have k0 := Bx.new w 30 [.int .u64 o0, .string o1, .string o2, .bool o3, .int .i64 o4, .int .i64 o5]
  have k0 : Bx (w.alloc (.cells #[.int .u64 o0, .string o1, .string o2, .bool o3, .int .i64 o4, .int .i64 o5] 30)) (w.heap.size) 30 [.int .u64 o0, .string o1, .string o2, .bool o3, .int .i64 o4, .int .i64 o5] := k0
  have kB : Bel w (w.alloc (.cells #[.int .u64 o0, .string o1, .string o2, .bool o3, .int .i64 o4, .int .i64 o5] 30)) := (Bel.refl w).alloc _
  have FO := hid_ k0
  have FB := hid_ kB
  clear k0 kB
  have FA := hid_ (hA.bel FB.out)
  clear hA
  have HLE : Hid (w.heap.size ≤ w.heap.size + 1) := hid_ (Nat.le_succ _)
  go_enter Try.func29, Try.ntmps29
  have qO0 := FO.out.cell 0 rfl
  have qO1 := FO.out.cell 1 rfl
  have qO2 := FO.out.cell 2 rfl
  have qO3 := FO.out.cell 3 rfl
  have qO4 := FO.out.cell 4 rfl
  have qO5 := FO.out.cell 5 rfl
  go_wp2_with fail
  generalize (w.alloc (.cells #[.int .u64 o0, .string o1, .string o2, .bool o3, .int .i64 o4, .int .i64 o5] 30)) = W0 at FO FB FA ⊢
  obtain ⟨gO, hgO⟩ : ∃ g, w.heap.size = g := ⟨_, rfl⟩
  have HGO := hid_ hgO
  rw [hgO] at FO HLE
  try rw [hgO]
  clear hgO
  refine (needR_any o0 o1 o2 o3 o4 o5 _ SZ.out.1 SZ.out.2).mono ?_
  rintro e v1 ⟨rfl, b⟩
  have bb := b
  have f1O := hid_ (FO.out.bel bb)
  have f1B := hid_ (FB.out.trans bb)
  have f1A := hid_ (FA.out.bel bb)
  clear b bb FO FB FA qO0 qO1 qO2 qO3 qO4 qO5
  obtain ⟨na, hna⟩ : ∃ x, needA ⟨o0, o1, o2, o3, o4, o5⟩ = x := ⟨_, rfl⟩
  obtain ⟨nn, hnn⟩ : ∃ x, needN ⟨o0, o1, o2, o3, o4, o5⟩ = x := ⟨_, rfl⟩
  obtain ⟨ne, hne⟩ : ∃ x, needE ⟨o0, o1, o2, o3, o4, o5⟩ = x := ⟨_, rfl⟩
  rw [hna, hnn, hne]
  rw [hna] at HNA
  have HNX := hid_ (And.intro hna (And.intro hnn hne))
  clear hna hnn hne
  obtain ⟨cb, hcb⟩ : ∃ cb, chk ⟨o0, o1, o2, o3, o4, o5⟩ = cb := ⟨_, rfl⟩
  have HCB := hid_ hcb
  clear hcb
  cases cb
  · have he : ne = 130 := by rw [← HNX.out.2.2]; exact (need_0 HCB.out).2.2
    rw [he]
    have HF : Hid (ro = [] ∧ re = 130) := hid_ ⟨by rw [← HR.out.2]; unfold caO; rw [HCB.out]; rfl, by rw [← HR.out.1]; unfold caE; rw [HCB.out]; rfl⟩
    clear he HR
    go_wp2
    go_ret2
    exact ⟨.slice none 0 0, by rw [HF.out.2]; rfl, by rw [HF.out.1]; exact Own.nil_ _ _ _, f1B.out⟩
  have he : ne = 0 := by
    rw [← HNX.out.2.2]
    cases o3
    · exact (need_s HCB.out rfl).2.2
    · exact (need_b HCB.out rfl).2.2
  rw [he]
  clear he
  have q1 := f1O.out.cell 1 rfl
  go_wp2_with fail
  refine (freeR_any A n c l o1 na nn _ f1A.out HS.out HN.out SZ.out.1 (Nat.le_trans HNA.out SZ.out.2)).mono ?_
  rintro e v2 ⟨v, rfl, o, b⟩
  have HO : Hid (Own accT v2 w.heap.size v ro) := hid_ (by
    have e : ro = mvO l ⟨o1, na⟩ nn (freeX l ⟨o1, na⟩ nn) (wrap64 (-nn)) := by rw [← HR.out.2]; unfold caO; rw [HCB.out, if_pos rfl]; unfold ordP; rw [HNX.out.1, HNX.out.2.1]
    rw [e]
    exact o.mono_ f1B.out.size_)
  have HF : Hid (re = mvE ⟨o1, na⟩ nn (freeX l ⟨o1, na⟩ nn)) := hid_ (by rw [← HR.out.1]; unfold caE; rw [HCB.out, if_pos rfl]; unfold ordP; rw [HNX.out.1, HNX.out.2.1])
  have B2 := hid_ (f1B.out.trans b)
  have HE : mvE ⟨o1, na⟩ nn (if (findA l ⟨o1, na⟩).held < nn then 112 else 0) = re := HF.out.symm
  rw [HE]
  clear HE o b q1 HR
  go_wp2
  go_ret2
  exact ⟨v, rfl, HO.out, B2.out⟩
end Go.Proofs.Ytlddpkbdmbafbaa
