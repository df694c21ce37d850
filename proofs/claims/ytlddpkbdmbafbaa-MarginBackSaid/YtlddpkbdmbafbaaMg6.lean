/- margin.one and margin.Fill where there is no order: all that the head of layer 16's statements asks. -/
import Derived.Test.YtlddpkbdmbafbaaMg1
import Derived.Test.YtlddpkbdmbafbaaAc11
import Derived.Test.YtlddpkbdmbafbaaAc7
import Derived.Test.YtlddpkbdmbafbaaOd4
import Derived.Test.YtlddpkbdmbafbaaNv16
import Derived.Test.YtlddpkbdmbafbaaLit
import Derived.Lib.SliceRun
import Derived.Deep.DeepCutAuto
import Derived.BigQuiet
set_option linter.unusedSimpArgs false
set_option linter.unusedVariables false
namespace Go.Proofs.Ytlddpkbdmbafbaa
open Go.RowKit Go.Lib
def holdX (l : List Acc) (p : Plc) (m : Int) : Int := if wrap64 ((findA l p).balance - (findA l p).held) < m then 111 else 0
def freeX (l : List Acc) (p : Plc) (m : Int) : Int := if (findA l p).held < m then 112 else 0
def ordP (o : Ord) : Plc := ⟨o.who, needA o⟩
def plE (l : List Acc) (o : Ord) : Int := if chk o then mvE (ordP o) (needN o) (holdX l (ordP o) (needN o)) else 130
def plO (l : List Acc) (o : Ord) : List Acc := if chk o then mvO l (ordP o) (needN o) (holdX l (ordP o) (needN o)) (needN o) else []
def caE (l : List Acc) (o : Ord) : Int := if chk o then mvE (ordP o) (needN o) (freeX l (ordP o) (needN o)) else 130
def caO (l : List Acc) (o : Ord) : List Acc := if chk o then mvO l (ordP o) (needN o) (freeX l (ordP o) (needN o)) (wrap64 (-(needN o))) else []
theorem extract_le (s : ByteArray) (i j : Nat) : (s.extract i j).size ≤ s.size := by
  rw [ByteArray.size_extract]
  omega
theorem needA_le (o : Ord) : (needA o).size ≤ o.market.size := by
  unfold needA
  split
  · split
    · exact extract_le _ _ _
    · exact extract_le _ _ _
  · exact Nat.zero_le _
set_option maxRecDepth 10000 in
set_option maxHeartbeats 2000000 in
theorem place_any (A : Option Addr) (n c : Nat) (l : List Acc) (o0 : Int) (o1 o2 : ByteArray) (o3 : Bool) (o4 o5 : Int) (w : World) (hA : Row accT w A n l) (hnc : n ≤ c) (hs : Srt l) (hn : n ≤ 99999) (hs1 : o1.size ≤ 4294967280) (hs2 : o2.size ≤ 4294967280) :
    Calls Try.prog 26 #[.slice A n c, .agg #[.int .u64 o0, .string o1, .string o2, .bool o3, .int .i64 o4, .int .i64 o5]] w fun e w' => ∃ v, e = .returned (.tuple #[v, .int .i64 (plE l ⟨o0, o1, o2, o3, o4, o5⟩)]) ∧ Own accT w' w.heap.size v (plO l ⟨o0, o1, o2, o3, o4, o5⟩) ∧ Bel w w' := by
  have SZ := hid_ (And.intro hs1 hs2)
  have HS := hid_ hs
  have HN := hid_ hn
  have HNC := hid_ hnc
  clear hnc
  have HNA := hid_ (needA_le ⟨o0, o1, o2, o3, o4, o5⟩)
  obtain ⟨ro, hro⟩ : ∃ r, plO l ⟨o0, o1, o2, o3, o4, o5⟩ = r := ⟨_, rfl⟩
  obtain ⟨re, hre⟩ : ∃ r, plE l ⟨o0, o1, o2, o3, o4, o5⟩ = r := ⟨_, rfl⟩
  rw [hro, hre]
  have HR := hid_ (And.intro hre hro)
  clear hs1 hs2 hs hn hro hre
  have k0 := Bx.new w 30 [.int .u64 o0, .string o1, .string o2, .bool o3, .int .i64 o4, .int .i64 o5]
  have k0 : Bx (w.alloc (.cells #[.int .u64 o0, .string o1, .string o2, .bool o3, .int .i64 o4, .int .i64 o5] 30)) (w.heap.size) 30 [.int .u64 o0, .string o1, .string o2, .bool o3, .int .i64 o4, .int .i64 o5] := k0
  have kB : Bel w (w.alloc (.cells #[.int .u64 o0, .string o1, .string o2, .bool o3, .int .i64 o4, .int .i64 o5] 30)) := (Bel.refl w).alloc _
  have FO := hid_ k0
  have FB := hid_ kB
  clear k0 kB
  have FA := hid_ (hA.bel FB.out)
  clear hA
  have HLE : Hid (w.heap.size ≤ w.heap.size + 1) := hid_ (Nat.le_succ _)
  go_enter Try.func26, Try.ntmps26
  have qO0 := FO.out.cell 0 rfl
  have qO1 := FO.out.cell 1 rfl
  have qO2 := FO.out.cell 2 rfl
  have qO3 := FO.out.cell 3 rfl
  have qO4 := FO.out.cell 4 rfl
  have qO5 := FO.out.cell 5 rfl
  go_wp2_with fail
  generalize (w.alloc (.cells #[.int .u64 o0, .string o1, .string o2, .bool o3, .int .i64 o4, .int .i64 o5] 30)) = W0 at FO FB FA ⊢
  obtain ⟨gO, hgO⟩ : ∃ g, w.heap.size = g := ⟨_, rfl⟩
  have HGO := hid_ hgO
  rw [hgO] at FO HLE
  try rw [hgO]
  clear hgO
  refine (need_any o0 o1 o2 o3 o4 o5 _ SZ.out.1 SZ.out.2).mono ?_
  rintro e v1 ⟨rfl, b⟩
  have bb := b
  have f1O := hid_ (FO.out.bel bb)
  have f1B := hid_ (FB.out.trans bb)
  have f1A := hid_ (FA.out.bel bb)
  clear b bb FO FB FA qO0 qO1 qO2 qO3 qO4 qO5
  obtain ⟨na, hna⟩ : ∃ x, needA ⟨o0, o1, o2, o3, o4, o5⟩ = x := ⟨_, rfl⟩
  obtain ⟨nn, hnn⟩ : ∃ x, needN ⟨o0, o1, o2, o3, o4, o5⟩ = x := ⟨_, rfl⟩
  obtain ⟨ne, hne⟩ : ∃ x, needE ⟨o0, o1, o2, o3, o4, o5⟩ = x := ⟨_, rfl⟩
  rw [hna, hnn, hne]
  rw [hna] at HNA
  have HNX := hid_ (And.intro hna (And.intro hnn hne))
  clear hna hnn hne
  obtain ⟨cb, hcb⟩ : ∃ cb, chk ⟨o0, o1, o2, o3, o4, o5⟩ = cb := ⟨_, rfl⟩
  have HCB := hid_ hcb
  clear hcb
  cases cb
  · have he : ne = 130 := by rw [← HNX.out.2.2]; exact (need_0 HCB.out).2.2
    rw [he]
    have HF : Hid (ro = [] ∧ re = 130) := hid_ ⟨by rw [← HR.out.2]; unfold plO; rw [HCB.out]; rfl, by rw [← HR.out.1]; unfold plE; rw [HCB.out]; rfl⟩
    clear he HR
    go_wp2
    go_ret2
    exact ⟨.slice none 0 0, by rw [HF.out.2]; rfl, by rw [HF.out.1]; exact Own.nil_ _ _ _, f1B.out⟩
  have he : ne = 0 := by
    rw [← HNX.out.2.2]
    cases o3
    · exact (need_s HCB.out rfl).2.2
    · exact (need_b HCB.out rfl).2.2
  rw [he]
  clear he
  have q1 := f1O.out.cell 1 rfl
  go_wp2_with fail
  refine (hold_any A n c l o1 na nn _ f1A.out HNC.out HS.out HN.out (Nat.le_trans SZ.out.1 (by decide)) (Nat.le_trans HNA.out (Nat.le_trans SZ.out.2 (by decide)))).mono ?_
  rintro e v2 ⟨v, rfl, o, b⟩
  have HO : Hid (Own accT v2 w.heap.size v ro) := hid_ (by
    have e : ro = mvO l ⟨o1, na⟩ nn (holdX l ⟨o1, na⟩ nn) (nn) := by rw [← HR.out.2]; unfold plO; rw [HCB.out, if_pos rfl]; unfold ordP; rw [HNX.out.1, HNX.out.2.1]
    rw [e]
    exact o.mono_ f1B.out.size_)
  have HF : Hid (re = mvE ⟨o1, na⟩ nn (holdX l ⟨o1, na⟩ nn)) := hid_ (by rw [← HR.out.1]; unfold plE; rw [HCB.out, if_pos rfl]; unfold ordP; rw [HNX.out.1, HNX.out.2.1])
  have B2 := hid_ (f1B.out.trans b)
  have HE : mvE ⟨o1, na⟩ nn (if wrap64 ((findA l ⟨o1, na⟩).balance - (findA l ⟨o1, na⟩).held) < nn then 111 else 0) = re := HF.out.symm
  rw [HE]
  clear HE o b q1 HR
  go_wp2
  go_ret2
  exact ⟨v, rfl, HO.out, B2.out⟩
set_option maxRecDepth 10000 in
set_option maxHeartbeats 2000000 in
theorem placeR_any (A : Option Addr) (n c : Nat) (l : List Acc) (o0 : Int) (o1 o2 : ByteArray) (o3 : Bool) (o4 o5 : Int) (w : World) (hA : Row accT w A n l) (hs : Srt l) (hn : n ≤ 99999) (hs1 : o1.size ≤ 4294967280) (hs2 : o2.size ≤ 4294967280) :
    Calls Try.prog 27 #[.slice A n c, .agg #[.int .u64 o0, .string o1, .string o2, .bool o3, .int .i64 o4, .int .i64 o5]] w fun e w' => ∃ v, e = .returned (.tuple #[v, .int .i64 (plE l ⟨o0, o1, o2, o3, o4, o5⟩)]) ∧ Own accT w' w.heap.size v (plO l ⟨o0, o1, o2, o3, o4, o5⟩) ∧ Bel w w' := by
  have SZ := hid_ (And.intro hs1 hs2)
  have HS := hid_ hs
  have HN := hid_ hn
  have HNA := hid_ (needA_le ⟨o0, o1, o2, o3, o4, o5⟩)
  obtain ⟨ro, hro⟩ : ∃ r, plO l ⟨o0, o1, o2, o3, o4, o5⟩ = r := ⟨_, rfl⟩
  obtain ⟨re, hre⟩ : ∃ r, plE l ⟨o0, o1, o2, o3, o4, o5⟩ = r := ⟨_, rfl⟩
  rw [hro, hre]
  have HR := hid_ (And.intro hre hro)
  clear hs1 hs2 hs hn hro hre
  have k0 := Bx.new w 30 [.int .u64 o0, .string o1, .string o2, .bool o3, .int .i64 o4, .int .i64 o5]
  have k0 : Bx (w.alloc (.cells #[.int .u64 o0, .string o1, .string o2, .bool o3, .int .i64 o4, .int .i64 o5] 30)) (w.heap.size) 30 [.int .u64 o0, .string o1, .string o2, .bool o3, .int .i64 o4, .int .i64 o5] := k0
  have kB : Bel w (w.alloc (.cells #[.int .u64 o0, .string o1, .string o2, .bool o3, .int .i64 o4, .int .i64 o5] 30)) := (Bel.refl w).alloc _
  have FO := hid_ k0
  have FB := hid_ kB
  clear k0 kB
  have FA := hid_ (hA.bel FB.out)
  clear hA
  have HLE : Hid (w.heap.size ≤ w.heap.size + 1) := hid_ (Nat.le_succ _)
  go_enter Try.func27, Try.ntmps27
  have qO0 := FO.out.cell 0 rfl
  have qO1 := FO.out.cell 1 rfl
  have qO2 := FO.out.cell 2 rfl
  have qO3 := FO.out.cell 3 rfl
  have qO4 := FO.out.cell 4 rfl
  have qO5 := FO.out.cell 5 rfl
  go_wp2_with fail
  generalize (w.alloc (.cells #[.int .u64 o0, .string o1, .string o2, .bool o3, .int .i64 o4, .int .i64 o5] 30)) = W0 at FO FB FA ⊢
  obtain ⟨gO, hgO⟩ : ∃ g, w.heap.size = g := ⟨_, rfl⟩
  have HGO := hid_ hgO
  rw [hgO] at FO HLE
  try rw [hgO]
  clear hgO
  refine (needR_any o0 o1 o2 o3 o4 o5 _ SZ.out.1 SZ.out.2).mono ?_
  rintro e v1 ⟨rfl, b⟩
  have bb := b
  have f1O := hid_ (FO.out.bel bb)
  have f1B := hid_ (FB.out.trans bb)
  have f1A := hid_ (FA.out.bel bb)
  clear b bb FO FB FA qO0 qO1 qO2 qO3 qO4 qO5
  obtain ⟨na, hna⟩ : ∃ x, needA ⟨o0, o1, o2, o3, o4, o5⟩ = x := ⟨_, rfl⟩
  obtain ⟨nn, hnn⟩ : ∃ x, needN ⟨o0, o1, o2, o3, o4, o5⟩ = x := ⟨_, rfl⟩
  obtain ⟨ne, hne⟩ : ∃ x, needE ⟨o0, o1, o2, o3, o4, o5⟩ = x := ⟨_, rfl⟩
  rw [hna, hnn, hne]
  rw [hna] at HNA
  have HNX := hid_ (And.intro hna (And.intro hnn hne))
  clear hna hnn hne
  obtain ⟨cb, hcb⟩ : ∃ cb, chk ⟨o0, o1, o2, o3, o4, o5⟩ = cb := ⟨_, rfl⟩
  have HCB := hid_ hcb
  clear hcb
  cases cb
  · have he : ne = 130 := by rw [← HNX.out.2.2]; exact (need_0 HCB.out).2.2
    rw [he]
    have HF : Hid (ro = [] ∧ re = 130) := hid_ ⟨by rw [← HR.out.2]; unfold plO; rw [HCB.out]; rfl, by rw [← HR.out.1]; unfold plE; rw [HCB.out]; rfl⟩
    clear he HR
    go_wp2
    go_ret2
    exact ⟨.slice none 0 0, by rw [HF.out.2]; rfl, by rw [HF.out.1]; exact Own.nil_ _ _ _, f1B.out⟩
  have he : ne = 0 := by
    rw [← HNX.out.2.2]
    cases o3
    · exact (need_s HCB.out rfl).2.2
    · exact (need_b HCB.out rfl).2.2
  rw [he]
  clear he
  have q1 := f1O.out.cell 1 rfl
  go_wp2_with fail
  refine (holdR_any A n c l o1 na nn _ f1A.out HS.out HN.out SZ.out.1 (Nat.le_trans HNA.out SZ.out.2)).mono ?_
  rintro e v2 ⟨v, rfl, o, b⟩
  have HO : Hid (Own accT v2 w.heap.size v ro) := hid_ (by
    have e : ro = mvO l ⟨o1, na⟩ nn (holdX l ⟨o1, na⟩ nn) (nn) := by rw [← HR.out.2]; unfold plO; rw [HCB.out, if_pos rfl]; unfold ordP; rw [HNX.out.1, HNX.out.2.1]
    rw [e]
    exact o.mono_ f1B.out.size_)
  have HF : Hid (re = mvE ⟨o1, na⟩ nn (holdX l ⟨o1, na⟩ nn)) := hid_ (by rw [← HR.out.1]; unfold plE; rw [HCB.out, if_pos rfl]; unfold ordP; rw [HNX.out.1, HNX.out.2.1])
  have B2 := hid_ (f1B.out.trans b)
  have HE : mvE ⟨o1, na⟩ nn (if wrap64 ((findA l ⟨o1, na⟩).balance - (findA l ⟨o1, na⟩).held) < nn then 111 else 0) = re := HF.out.symm
  rw [HE]
  clear HE o b q1 HR
  go_wp2
  go_ret2
  exact ⟨v, rfl, HO.out, B2.out⟩
set_option maxRecDepth 10000 in
set_option maxHeartbeats 2000000 in
theorem cancel_any (A : Option Addr) (n c : Nat) (l : List Acc) (o0 : Int) (o1 o2 : ByteArray) (o3 : Bool) (o4 o5 : Int) (w : World) (hA : Row accT w A n l) (hnc : n ≤ c) (hs : Srt l) (hn : n ≤ 99999) (hs1 : o1.size ≤ 4294967280) (hs2 : o2.size ≤ 4294967280) :
    Calls Try.prog 28 #[.slice A n c, .agg #[.int .u64 o0, .string o1, .string o2, .bool o3, .int .i64 o4, .int .i64 o5]] w fun e w' => ∃ v, e = .returned (.tuple #[v, .int .i64 (caE l ⟨o0, o1, o2, o3, o4, o5⟩)]) ∧ Own accT w' w.heap.size v (caO l ⟨o0, o1, o2, o3, o4, o5⟩) ∧ Bel w w' := by
  have SZ := hid_ (And.intro hs1 hs2)
  have HS := hid_ hs
  have HN := hid_ hn
  have HNC := hid_ hnc
  clear hnc
  have HNA := hid_ (needA_le ⟨o0, o1, o2, o3, o4, o5⟩)
  obtain ⟨ro, hro⟩ : ∃ r, caO l ⟨o0, o1, o2, o3, o4, o5⟩ = r := ⟨_, rfl⟩
  obtain ⟨re, hre⟩ : ∃ r, caE l ⟨o0, o1, o2, o3, o4, o5⟩ = r := ⟨_, rfl⟩
  rw [hro, hre]
  have HR := hid_ (And.intro hre hro)
  clear hs1 hs2 hs hn hro hre
  have k0 := Bx.new w 30 [.int .u64 o0, .string o1, .string o2, .bool o3, .int .i64 o4, .int .i64 o5]
  have k0 : Bx (w.alloc (.cells #[.int .u64 o0, .string o1, .string o2, .bool o3, .int .i64 o4, .int .i64 o5] 30)) (w.heap.size) 30 [.int .u64 o0, .string o1, .string o2, .bool o3, .int .i64 o4, .int .i64 o5] := k0
  have kB : Bel w (w.alloc (.cells #[.int .u64 o0, .string o1, .string o2, .bool o3, .int .i64 o4, .int .i64 o5] 30)) := (Bel.refl w).alloc _
  have FO := hid_ k0
  have FB := hid_ kB
  clear k0 kB
  have FA := hid_ (hA.bel FB.out)
  clear hA
  have HLE : Hid (w.heap.size ≤ w.heap.size + 1) := hid_ (Nat.le_succ _)
  go_enter Try.func28, Try.ntmps28
  have qO0 := FO.out.cell 0 rfl
  have qO1 := FO.out.cell 1 rfl
  have qO2 := FO.out.cell 2 rfl
  have qO3 := FO.out.cell 3 rfl
  have qO4 := FO.out.cell 4 rfl
  have qO5 := FO.out.cell 5 rfl
  go_wp2_with fail
  generalize (w.alloc (.cells #[.int .u64 o0, .string o1, .string o2, .bool o3, .int .i64 o4, .int .i64 o5] 30)) = W0 at FO FB FA ⊢
  obtain ⟨gO, hgO⟩ : ∃ g, w.heap.size = g := ⟨_, rfl⟩
  have HGO := hid_ hgO
  rw [hgO] at FO HLE
  try rw [hgO]
  clear hgO
  refine (need_any o0 o1 o2 o3 o4 o5 _ SZ.out.1 SZ.out.2).mono ?_
  rintro e v1 ⟨rfl, b⟩
  have bb := b
  have f1O := hid_ (FO.out.bel bb)
  have f1B := hid_ (FB.out.trans bb)
  have f1A := hid_ (FA.out.bel bb)
  clear b bb FO FB FA qO0 qO1 qO2 qO3 qO4 qO5
  obtain ⟨na, hna⟩ : ∃ x, needA ⟨o0, o1, o2, o3, o4, o5⟩ = x := ⟨_, rfl⟩
  obtain ⟨nn, hnn⟩ : ∃ x, needN ⟨o0, o1, o2, o3, o4, o5⟩ = x := ⟨_, rfl⟩
  obtain ⟨ne, hne⟩ : ∃ x, needE ⟨o0, o1, o2, o3, o4, o5⟩ = x := ⟨_, rfl⟩
  rw [hna, hnn, hne]
  rw [hna] at HNA
  have HNX := hid_ (And.intro hna (And.intro hnn hne))
  clear hna hnn hne
  obtain ⟨cb, hcb⟩ : ∃ cb, chk ⟨o0, o1, o2, o3, o4, o5⟩ = cb := ⟨_, rfl⟩
  have HCB := hid_ hcb
  clear hcb
  cases cb
  · have he : ne = 130 := by rw [← HNX.out.2.2]; exact (need_0 HCB.out).2.2
    rw [he]
    have HF : Hid (ro = [] ∧ re = 130) := hid_ ⟨by rw [← HR.out.2]; unfold caO; rw [HCB.out]; rfl, by rw [← HR.out.1]; unfold caE; rw [HCB.out]; rfl⟩
    clear he HR
    go_wp2
    go_ret2
    exact ⟨.slice none 0 0, by rw [HF.out.2]; rfl, by rw [HF.out.1]; exact Own.nil_ _ _ _, f1B.out⟩
  have he : ne = 0 := by
    rw [← HNX.out.2.2]
    cases o3
    · exact (need_s HCB.out rfl).2.2
    · exact (need_b HCB.out rfl).2.2
  rw [he]
  clear he
  have q1 := f1O.out.cell 1 rfl
  go_wp2_with fail
  refine (free_any A n c l o1 na nn _ f1A.out HNC.out HS.out HN.out (Nat.le_trans SZ.out.1 (by decide)) (Nat.le_trans HNA.out (Nat.le_trans SZ.out.2 (by decide)))).mono ?_
  rintro e v2 ⟨v, rfl, o, b⟩
  have HO : Hid (Own accT v2 w.heap.size v ro) := hid_ (by
    have e : ro = mvO l ⟨o1, na⟩ nn (freeX l ⟨o1, na⟩ nn) (wrap64 (-nn)) := by rw [← HR.out.2]; unfold caO; rw [HCB.out, if_pos rfl]; unfold ordP; rw [HNX.out.1, HNX.out.2.1]
    rw [e]
    exact o.mono_ f1B.out.size_)
  have HF : Hid (re = mvE ⟨o1, na⟩ nn (freeX l ⟨o1, na⟩ nn)) := hid_ (by rw [← HR.out.1]; unfold caE; rw [HCB.out, if_pos rfl]; unfold ordP; rw [HNX.out.1, HNX.out.2.1])
  have B2 := hid_ (f1B.out.trans b)
  have HE : mvE ⟨o1, na⟩ nn (if (findA l ⟨o1, na⟩).held < nn then 112 else 0) = re := HF.out.symm
  rw [HE]
  clear HE o b q1 HR
  go_wp2
  go_ret2
  exact ⟨v, rfl, HO.out, B2.out⟩
set_option maxRecDepth 10000 in
set_option maxHeartbeats 2000000 in
theorem cancelR_any (A : Option Addr) (n c : Nat) (l : List Acc) (o0 : Int) (o1 o2 : ByteArray) (o3 : Bool) (o4 o5 : Int) (w : World) (hA : Row accT w A n l) (hs : Srt l) (hn : n ≤ 99999) (hs1 : o1.size ≤ 4294967280) (hs2 : o2.size ≤ 4294967280) :
    Calls Try.prog 29 #[.slice A n c, .agg #[.int .u64 o0, .string o1, .string o2, .bool o3, .int .i64 o4, .int .i64 o5]] w fun e w' => ∃ v, e = .returned (.tuple #[v, .int .i64 (caE l ⟨o0, o1, o2, o3, o4, o5⟩)]) ∧ Own accT w' w.heap.size v (caO l ⟨o0, o1, o2, o3, o4, o5⟩) ∧ Bel w w' := by
  have SZ := hid_ (And.intro hs1 hs2)
  have HS := hid_ hs
  have HN := hid_ hn
  have HNA := hid_ (needA_le ⟨o0, o1, o2, o3, o4, o5⟩)
  obtain ⟨ro, hro⟩ : ∃ r, caO l ⟨o0, o1, o2, o3, o4, o5⟩ = r := ⟨_, rfl⟩
  obtain ⟨re, hre⟩ : ∃ r, caE l ⟨o0, o1, o2, o3, o4, o5⟩ = r := ⟨_, rfl⟩
  rw [hro, hre]
  have HR := hid_ (And.intro hre hro)
  clear hs1 hs2 hs hn hro hre
  have k0 := Bx.new w 30 [.int .u64 o0, .string o1, .string o2, .bool o3, .int .i64 o4, .int .i64 o5]
  have k0 : Bx (w.alloc (.cells #[.int .u64 o0, .string o1, .string o2, .bool o3, .int .i64 o4, .int .i64 o5] 30)) (w.heap.size) 30 [.int .u64 o0, .string o1, .string o2, .bool o3, .int .i64 o4, .int .i64 o5] := k0
  have kB : Bel w (w.alloc (.cells #[.int .u64 o0, .string o1, .string o2, .bool o3, .int .i64 o4, .int .i64 o5] 30)) := (Bel.refl w).alloc _
  have FO := hid_ k0
  have FB := hid_ kB
  clear k0 kB
  have FA := hid_ (hA.bel FB.out)
  clear hA
  have HLE : Hid (w.heap.size ≤ w.heap.size + 1) := hid_ (Nat.le_succ _)
  go_enter Try.func29, Try.ntmps29
  have qO0 := FO.out.cell 0 rfl
  have qO1 := FO.out.cell 1 rfl
  have qO2 := FO.out.cell 2 rfl
  have qO3 := FO.out.cell 3 rfl
  have qO4 := FO.out.cell 4 rfl
  have qO5 := FO.out.cell 5 rfl
  go_wp2_with fail
  generalize (w.alloc (.cells #[.int .u64 o0, .string o1, .string o2, .bool o3, .int .i64 o4, .int .i64 o5] 30)) = W0 at FO FB FA ⊢
  obtain ⟨gO, hgO⟩ : ∃ g, w.heap.size = g := ⟨_, rfl⟩
  have HGO := hid_ hgO
  rw [hgO] at FO HLE
  try rw [hgO]
  clear hgO
  refine (needR_any o0 o1 o2 o3 o4 o5 _ SZ.out.1 SZ.out.2).mono ?_
  rintro e v1 ⟨rfl, b⟩
  have bb := b
  have f1O := hid_ (FO.out.bel bb)
  have f1B := hid_ (FB.out.trans bb)
  have f1A := hid_ (FA.out.bel bb)
  clear b bb FO FB FA qO0 qO1 qO2 qO3 qO4 qO5
  obtain ⟨na, hna⟩ : ∃ x, needA ⟨o0, o1, o2, o3, o4, o5⟩ = x := ⟨_, rfl⟩
  obtain ⟨nn, hnn⟩ : ∃ x, needN ⟨o0, o1, o2, o3, o4, o5⟩ = x := ⟨_, rfl⟩
  obtain ⟨ne, hne⟩ : ∃ x, needE ⟨o0, o1, o2, o3, o4, o5⟩ = x := ⟨_, rfl⟩
  rw [hna, hnn, hne]
  rw [hna] at HNA
  have HNX := hid_ (And.intro hna (And.intro hnn hne))
  clear hna hnn hne
  obtain ⟨cb, hcb⟩ : ∃ cb, chk ⟨o0, o1, o2, o3, o4, o5⟩ = cb := ⟨_, rfl⟩
  have HCB := hid_ hcb
  clear hcb
  cases cb
  · have he : ne = 130 := by rw [← HNX.out.2.2]; exact (need_0 HCB.out).2.2
    rw [he]
    have HF : Hid (ro = [] ∧ re = 130) := hid_ ⟨by rw [← HR.out.2]; unfold caO; rw [HCB.out]; rfl, by rw [← HR.out.1]; unfold caE; rw [HCB.out]; rfl⟩
    clear he HR
    go_wp2
    go_ret2
    exact ⟨.slice none 0 0, by rw [HF.out.2]; rfl, by rw [HF.out.1]; exact Own.nil_ _ _ _, f1B.out⟩
  have he : ne = 0 := by
    rw [← HNX.out.2.2]
    cases o3
    · exact (need_s HCB.out rfl).2.2
    · exact (need_b HCB.out rfl).2.2
  rw [he]
  clear he
  have q1 := f1O.out.cell 1 rfl
  go_wp2_with fail
  refine (freeR_any A n c l o1 na nn _ f1A.out HS.out HN.out SZ.out.1 (Nat.le_trans HNA.out SZ.out.2)).mono ?_
  rintro e v2 ⟨v, rfl, o, b⟩
  have HO : Hid (Own accT v2 w.heap.size v ro) := hid_ (by
    have e : ro = mvO l ⟨o1, na⟩ nn (freeX l ⟨o1, na⟩ nn) (wrap64 (-nn)) := by rw [← HR.out.2]; unfold caO; rw [HCB.out, if_pos rfl]; unfold ordP; rw [HNX.out.1, HNX.out.2.1]
    rw [e]
    exact o.mono_ f1B.out.size_)
  have HF : Hid (re = mvE ⟨o1, na⟩ nn (freeX l ⟨o1, na⟩ nn)) := hid_ (by rw [← HR.out.1]; unfold caE; rw [HCB.out, if_pos rfl]; unfold ordP; rw [HNX.out.1, HNX.out.2.1])
  have B2 := hid_ (f1B.out.trans b)
  have HE : mvE ⟨o1, na⟩ nn (if (findA l ⟨o1, na⟩).held < nn then 112 else 0) = re := HF.out.symm
  rw [HE]
  clear HE o b q1 HR
  go_wp2
  go_ret2
  exact ⟨v, rfl, HO.out, B2.out⟩
end Go.Proofs.Ytlddpkbdmbafbaa
set_option linter.unusedSimpArgs false
set_option linter.unusedVariables false
namespace Go.Proofs.Ytlddpkbdmbafbaa
open Go.RowKit Go.Lib
set_option maxRecDepth 10000 in
set_option maxHeartbeats 1000000 in
theorem cloneA_any (A : Option Addr) (n c : Nat) (l : List Acc) (w : World) (hA : Row accT w A n l) (hn : n ≤ 100000) :
    Calls Try.prog 75 #[.slice A n c] w fun e w' => ∃ v, e = .returned v ∧ Own accT w' w.heap.size v l ∧ Bel w w' := by
  have HA := hid_ hA
  have HNI := hid_ (fun h => hA.nonil' h)
  have HN : Hid (([] : List Acc).length * 0 + (0 + n) * 48 ≤ 140737488355328) := hid_ (by simp; omega)
  have HN2 : Hid ((([] : List Acc).length + n) * 48 ≤ 140737488355328) := hid_ (by simp; omega)
  have q22 : ∀ (w : World) (a : Option Addr) (n c n' c' : Nat), (binOp .eql 53 (.slice a n c) (.slice none n' c')).run Try.prog w = .ok (.bool a.isNone) w := fun w a n c n' c' => Lib.run_eql_slice_nil w _ _ a n c n' c' accS.ut
  clear hA hn
  cases A with
  | none =>
    obtain ⟨rfl, rfl⟩ := HNI.out rfl
    clear HNI HA HN HN2
    go_enter Try.func75, Try.ntmps75
    go_wp2
    go_ret
    exact ⟨_, rfl, Own.nil_ _ _ _, Bel.refl _⟩
  | some ad =>
    go_enter Try.func75, Try.ntmps75
    go_wp2_with (at_builtin; refine wpApp (w0 := w) accS rfl _ _ rfl _ [] l (some ad) n c rfl rfl (Own.litE (T := accT) w w.heap.size _ _ rfl rfl (Nat.le_refl _)) (HA.out.bel ((Bel.refl w).alloc _)) ((Bel.refl w).alloc _) HN2.out ?_; intro v1 x1 hO1 hb1 _ _)
    rw [List.nil_append] at hO1
    have HO := hid_ hO1
    have HB := hid_ hb1
    clear hO1 hb1
    try go_wp2
    go_ret
    exact ⟨_, rfl, HO.out, HB.out⟩
set_option maxRecDepth 10000 in
set_option maxHeartbeats 1000000 in
theorem cloneO_any (A : Option Addr) (n c : Nat) (l : List Ord) (w : World) (hA : Row ordT w A n l) (hn : n ≤ 100000) :
    Calls Try.prog 76 #[.slice A n c] w fun e w' => ∃ v, e = .returned v ∧ Own ordT w' w.heap.size v l ∧ Bel w w' := by
  have HA := hid_ hA
  have HNI := hid_ (fun h => hA.nonil' h)
  have HN : Hid (([] : List Ord).length * 0 + (0 + n) * 64 ≤ 140737488355328) := hid_ (by simp; omega)
  have HN2 : Hid ((([] : List Ord).length + n) * 64 ≤ 140737488355328) := hid_ (by simp; omega)
  have q22 : ∀ (w : World) (a : Option Addr) (n c n' c' : Nat), (binOp .eql 22 (.slice a n c) (.slice none n' c')).run Try.prog w = .ok (.bool a.isNone) w := fun w a n c n' c' => Lib.run_eql_slice_nil w _ _ a n c n' c' ordS.ut
  clear hA hn
  cases A with
  | none =>
    obtain ⟨rfl, rfl⟩ := HNI.out rfl
    clear HNI HA HN HN2
    go_enter Try.func76, Try.ntmps76
    go_wp2
    go_ret
    exact ⟨_, rfl, Own.nil_ _ _ _, Bel.refl _⟩
  | some ad =>
    go_enter Try.func76, Try.ntmps76
    go_wp2_with (at_builtin; refine wpApp (w0 := w) ordS rfl _ _ rfl _ [] l (some ad) n c rfl rfl (Own.litE (T := ordT) w w.heap.size _ _ rfl rfl (Nat.le_refl _)) (HA.out.bel ((Bel.refl w).alloc _)) ((Bel.refl w).alloc _) HN2.out ?_; intro v1 x1 hO1 hb1 _ _)
    rw [List.nil_append] at hO1
    have HO := hid_ hO1
    have HB := hid_ hb1
    clear hO1 hb1
    try go_wp2
    go_ret
    exact ⟨_, rfl, HO.out, HB.out⟩
set_option maxRecDepth 10000 in
theorem one1_any (o0 : Int) (o1 o2 : ByteArray) (o3 : Bool) (o4 o5 : Int) (n : Int) (g : Nat) (w : World) (h : w.cell? ⟨g, 0, none⟩ = some (.int .u64 n)) :
    Calls Try.prog 116 #[.agg #[.int .u64 o0, .string o1, .string o2, .bool o3, .int .i64 o4, .int .i64 o5], .pointer (some ⟨g, 0, none⟩)] w fun e w' => e = .returned (.bool (o0 == n)) ∧ Bel w w' := by
  have h1 := cellOld h (.cells #[.int .u64 o0, .string o1, .string o2, .bool o3, .int .i64 o4, .int .i64 o5] 30)
  have h2 := cellNew w #[.int .u64 o0, .string o1, .string o2, .bool o3, .int .i64 o4, .int .i64 o5] 30 (0, 0) w.heap.size 0 rfl
  have HB := hid_ ((Bel.refl w).alloc (.cells #[.int .u64 o0, .string o1, .string o2, .bool o3, .int .i64 o4, .int .i64 o5] 30))
  clear h
  go_enter Try.func116, Try.ntmps116
  go_wp2
  go_ret
  exact ⟨rfl, HB.out⟩
theorem egOne1 : ∀ args w, (callFunc 116 args).run Try.prog w = .ok (.enter 116 args) w := enters_of Try.func116 (by kernel_rfl) rfl
set_option maxRecDepth 10000 in
theorem one2_any (o0 : Int) (o1 o2 : ByteArray) (o3 : Bool) (o4 o5 : Int) (n : Int) (g : Nat) (w : World) (h : w.cell? ⟨g, 1, none⟩ = some (.int .u64 n)) :
    Calls Try.prog 117 #[.agg #[.int .u64 o0, .string o1, .string o2, .bool o3, .int .i64 o4, .int .i64 o5], .pointer (some ⟨g, 0, none⟩)] w fun e w' => e = .returned (.bool (o0 == n)) ∧ Bel w w' := by
  have h1 := cellOld h (.cells #[.int .u64 o0, .string o1, .string o2, .bool o3, .int .i64 o4, .int .i64 o5] 30)
  have h2 := cellNew w #[.int .u64 o0, .string o1, .string o2, .bool o3, .int .i64 o4, .int .i64 o5] 30 (0, 0) w.heap.size 0 rfl
  have HB := hid_ ((Bel.refl w).alloc (.cells #[.int .u64 o0, .string o1, .string o2, .bool o3, .int .i64 o4, .int .i64 o5] 30))
  clear h
  go_enter Try.func117, Try.ntmps117
  go_wp2
  go_ret
  exact ⟨rfl, HB.out⟩
theorem egOne2 : ∀ args w, (callFunc 117 args).run Try.prog w = .ok (.enter 117 args) w := enters_of Try.func117 (by kernel_rfl) rfl
set_option maxRecDepth 10000 in
set_option maxHeartbeats 1000000 in
theorem placeO_any (A : Option Addr) (n c : Nat) (l : List Ord) (nu : Int) (w : World) (hA : Row ordT w A n l) :
    Calls Try.prog 78 #[.slice A n c, .int .u64 nu] w fun e w' => e = .returned (.int .i64 (idxI (fun x => x.number == nu) l)) ∧ w = w' := by
  have hn := hA.2.1
  have HL := hid_ hA.1
  obtain ⟨r, hr⟩ : ∃ r, idxI (fun x => x.number == nu) l = r := ⟨_, rfl⟩
  rw [hr]
  have HR := hid_ hr
  clear hr
  go_enter Try.func78, Try.ntmps78
  go_wp2_with fail
  go_loop [5] (fun i => ∃ j : Nat, j ≤ n ∧ i = .int .i64 j ∧ Hid (∀ (i : Nat) (x : Ord), i < j → l[i]? = some x → (x.number == nu) = false)) (fun i => n - (intOf i).toNat)
  case atStart => exact ⟨0, Nat.zero_le _, rfl, hid_ (fun i x h => absurd h (by omega))⟩
  case round =>
    obtain ⟨j, hj, rfl, hx⟩ := hrel
    by_cases hjn : j < n
    · obtain ⟨ad, o0, o1, o2, o3, o4, o5, rfl, ho, d0, d1, d2, d3, d4, d5⟩ := hA.ord hjn
      have HO := hid_ ho
      clear ho
      obtain ⟨eq, heq⟩ : ∃ eq, (o0 == nu) = eq := ⟨_, rfl⟩
      have HEQ := hid_ heq
      cases eq
      · have HN : Hid (∀ (i : Nat) (x : Ord), i < j + 1 → l[i]? = some x → (x.number == nu) = false) := hid_ (by
          intro i x hi hix
          rcases Nat.lt_or_ge i j with h | h
          · exact hx.out i x h hix
          · obtain rfl : i = j := by omega
            rw [HO.out] at hix
            cases hix
            exact HEQ.out)
        clear hx HO HEQ hA
        go_wp2
        case roundEnd =>
          go_round
          case rel => exact ⟨j + 1, by omega, by go_num, HN⟩
          case measure => simp [intOf]; omega
      · have HF : Hid (r = (j : Int)) := hid_ (by rw [← HR.out]; unfold idxI; rw [idxI_hit HO.out HEQ.out hx.out])
        clear hx HO HEQ hA
        go_wp2
        go_ret
        exact ⟨by rw [HF.out]; rfl, rfl⟩
    · obtain rfl : j = n := by omega
      have HF : Hid (r = -1) := hid_ (by rw [← HR.out]; unfold idxI; rw [idxI_no (fun i x h => hx.out i x (by have := (List.getElem?_eq_some_iff.1 h).1; rw [HL.out] at this; exact this) h)])
      clear hx hA
      go_wp2
      go_ret
      exact ⟨by rw [HF.out]; rfl, rfl⟩
def chgO (l : List Ord) (i : Nat) (o : Ord) : List Ord := l.take i ++ ((if 0 < o.left then [o] else []) ++ l.drop (i + 1))
set_option maxRecDepth 10000 in
set_option maxHeartbeats 2000000 in
theorem changed_any (A : Option Addr) (n c : Nat) (l : List Ord) (i : Nat) (o0 : Int) (o1 o2 : ByteArray) (o3 : Bool) (o4 o5 : Int) (w : World) (hA : Row ordT w A n l) (hnc : n ≤ c) (hi : i < n) (hn : n ≤ 90000) :
    Calls Try.prog 80 #[.slice A n c, .int .i64 (i : Int), .agg #[.int .u64 o0, .string o1, .string o2, .bool o3, .int .i64 o4, .int .i64 o5]] w fun e w' => ∃ v, e = .returned v ∧ Own ordT w' w.heap.size v (chgO l i ⟨o0, o1, o2, o3, o4, o5⟩) ∧ Bel w w' := by
  have hA63 := hA.2.1
  have HL := hid_ hA.1
  obtain ⟨ro, hro⟩ : ∃ r, chgO l i ⟨o0, o1, o2, o3, o4, o5⟩ = r := ⟨_, rfl⟩
  rw [hro]
  have HRO := hid_ hro
  have HN := hid_ (And.intro hi hn)
  have hto := fun W => ordS.cutTo (P := Try.prog) .i64 A n c i (by omega) W
  obtain ⟨A', hcut, hrow⟩ := ordS.cutFrom (P := Try.prog) .i64 A n c (i + 1) hi hnc
  have ei : ((i + 1 : Nat) : Int) = (i : Int) + 1 := by omega
  simp only [ei] at hcut
  have i0 : (0 : Int) ≤ (i : Int) := by omega
  have i1 : (i : Int) < (n : Int) := by omega
  have i2 : (i : Int) + 1 ≤ 90000 := by omega
  clear hro ei
  have k0 := Bx.new w 30 [.int .u64 o0, .string o1, .string o2, .bool o3, .int .i64 o4, .int .i64 o5]
  have k0 : Bx (w.alloc (.cells #[.int .u64 o0, .string o1, .string o2, .bool o3, .int .i64 o4, .int .i64 o5] 30)) (w.heap.size) 30 [.int .u64 o0, .string o1, .string o2, .bool o3, .int .i64 o4, .int .i64 o5] := k0
  have kB : Bel w (w.alloc (.cells #[.int .u64 o0, .string o1, .string o2, .bool o3, .int .i64 o4, .int .i64 o5] 30)) := (Bel.refl w).alloc _
  have FO := hid_ k0
  have FB := hid_ kB
  clear k0 kB
  have FA := hid_ (hA.bel FB.out)
  have FT := hid_ (FA.out.take_ (show i ≤ n by omega))
  have FD := hid_ (hrow _ _ FA.out)
  clear hA hrow hi hn hnc
  have qO0 := FO.out.cell 0 rfl
  have qO1 := FO.out.cell 1 rfl
  have qO2 := FO.out.cell 2 rfl
  have qO3 := FO.out.cell 3 rfl
  have qO4 := FO.out.cell 4 rfl
  have qO5 := FO.out.cell 5 rfl
  have HLT : Hid ((l.take i).length = i ∧ (l.drop (i + 1)).length = n - (i + 1)) := hid_ ⟨by have := HN.out; have := HL.out; simp; omega, by have := HL.out; simp; omega⟩
  go_enter Try.func80, Try.ntmps80
  go_upto_region 1 with (fail)
  generalize (w.alloc (.cells #[.int .u64 o0, .string o1, .string o2, .bool o3, .int .i64 o4, .int .i64 o5] 30)) = W0 at FO FB FA FT FD qO0 qO1 qO2 qO3 qO4 qO5 ⊢
  obtain ⟨gO, hgO⟩ : ∃ g, w.heap.size = g := ⟨_, rfl⟩
  have HGO := hid_ hgO
  rw [hgO] at FO qO0 qO1 qO2 qO3 qO4 qO5
  try rw [hgO]
  clear hgO
  have tok1 : True := trivial
  have S1 : Hid ((([] : List Ord).length + i) * 64 ≤ 140737488355328) := hid_ (by have := HN.out; simp; omega)
  by_cases c1 : 0 < o5
  · have HE : Hid ((l.take i ++ [(Ord.mk o0 o1 o2 o3 o4 o5)]) ++ l.drop (i + 1) = ro) := hid_ (by rw [← HRO.out]; unfold chgO; rw [if_pos c1]; simp)
    have S2 : Hid ((([] ++ l.take i).length + 1) * 64 ≤ 140737488355328) := hid_ (by have := HN.out; have := HLT.out.1; simp at this ⊢; omega)
    have S3 : Hid (((([] ++ l.take i) ++ [(Ord.mk o0 o1 o2 o3 o4 o5)]).length + (n - (i + 1))) * 64 ≤ 140737488355328) := hid_ (by have := HN.out; have := HLT.out.1; simp at this ⊢; omega)
    have tok2 : True := trivial
    go_wp2_with (first
      | (at_builtin; have _t := tok1; refine wpApp (w0 := W0) ordS rfl _ _ rfl _ [] (l.take i) A i c rfl rfl (Own.litE (T := ordT) _ _ _ _ rfl rfl (Nat.le_refl _)) (FT.out.bel ((Bel.refl _).alloc _)) ((Bel.refl _).alloc _) S1.out ?_; intro v1 x1 hO1 hb1 _ _; clear tok1 _t; have e0 := hb1.cell_ qO0; have e1 := hb1.cell_ qO1; have e2 := hb1.cell_ qO2; have e3 := hb1.cell_ qO3; have e4 := hb1.cell_ qO4; have e5 := hb1.cell_ qO5)
      | (at_builtin; have _t := tok2; refine wpApp (w0 := W0) ordS rfl _ _ rfl _ ([] ++ l.take i) [(Ord.mk o0 o1 o2 o3 o4 o5)] (some ⟨x1.heap.size, 0, none⟩) 1 1 rfl rfl (hO1.alloc_ _) (Row.one (T := ordT) (Ord.mk o0 o1 o2 o3 o4 o5) rfl rfl) (hb1.alloc _) S2.out ?_; intro v2 x2 hO2 hb2 _ _; clear tok2 _t)
      | (at_builtin; refine wpApp (w0 := W0) ordS rfl _ _ rfl _ (([] ++ l.take i) ++ [(Ord.mk o0 o1 o2 o3 o4 o5)]) (l.drop (i + 1)) A' (n - (i + 1)) (c - (i + 1)) rfl rfl hO2 (FD.out.bel hb2) hb2 S3.out ?_; intro v3 x3 hO3 hb3 _ _))
    rw [show (([] : List Ord) ++ l.take i) ++ [(Ord.mk o0 o1 o2 o3 o4 o5)] ++ l.drop (i + 1) = ro from HE.out] at hO3
    have HO := hid_ (hO3.mono_ FB.out.size_)
    have HB := hid_ (FB.out.trans hb3)
    clear hO1 hO2 hO3 hb1 hb2 hb3 e0 e1 e2 e3 e4 e5
    try go_wp2
    go_ret
    exact ⟨_, rfl, HO.out, HB.out⟩
  · have HE : Hid (l.take i ++ l.drop (i + 1) = ro) := hid_ (by rw [← HRO.out]; unfold chgO; rw [if_neg c1]; simp)
    have S3 : Hid ((([] ++ l.take i).length + (n - (i + 1))) * 64 ≤ 140737488355328) := hid_ (by have := HN.out; have := HLT.out.1; simp at this ⊢; omega)
    go_wp2_with (first
      | (at_builtin; have _t := tok1; refine wpApp (w0 := W0) ordS rfl _ _ rfl _ [] (l.take i) A i c rfl rfl (Own.litE (T := ordT) _ _ _ _ rfl rfl (Nat.le_refl _)) (FT.out.bel ((Bel.refl _).alloc _)) ((Bel.refl _).alloc _) S1.out ?_; intro v1 x1 hO1 hb1 _ _; clear tok1 _t; have e0 := hb1.cell_ qO0; have e1 := hb1.cell_ qO1; have e2 := hb1.cell_ qO2; have e3 := hb1.cell_ qO3; have e4 := hb1.cell_ qO4; have e5 := hb1.cell_ qO5)
      | (at_builtin; refine wpApp (w0 := W0) ordS rfl _ _ rfl _ ([] ++ l.take i) (l.drop (i + 1)) A' (n - (i + 1)) (c - (i + 1)) rfl rfl hO1 (FD.out.bel hb1) hb1 S3.out ?_; intro v3 x3 hO3 hb3 _ _))
    rw [show (([] : List Ord) ++ l.take i) ++ l.drop (i + 1) = ro from HE.out] at hO3
    have HO := hid_ (hO3.mono_ FB.out.size_)
    have HB := hid_ (FB.out.trans hb3)
    clear hO1 hO3 hb1 hb3 e0 e1 e2 e3 e4 e5
    try go_wp2
    go_ret
    exact ⟨_, rfl, HO.out, HB.out⟩
end Go.Proofs.Ytlddpkbdmbafbaa
set_option linter.unusedSimpArgs false
set_option linter.unusedVariables false
namespace Go.Proofs.Ytlddpkbdmbafbaa
open Go.RowKit Go.Lib
set_option maxRecDepth 10000 in
set_option maxHeartbeats 2000000 in
theorem one_nil (X : Value) (A : Option Addr) (c : Nat) (tb ts tq tp : Int) (w : World) :
    Calls Try.prog 77 #[X, .slice A 0 c, .agg #[.int .u64 tb, .int .u64 ts, .int .i64 tq, .int .i64 tp]] w fun e w' => e = .returned (.tuple #[.slice none 0 0, .slice none 0 0, .int .i64 130]) ∧ Bel w w' := by
  have k0 := Bx.new w 81 [.int .u64 tb, .int .u64 ts, .int .i64 tq, .int .i64 tp]
  have k0 : Bx (w.alloc (.cells #[.int .u64 tb, .int .u64 ts, .int .i64 tq, .int .i64 tp] 81)) (w.heap.size) 81 [.int .u64 tb, .int .u64 ts, .int .i64 tq, .int .i64 tp] := k0
  have kB : Bel w (w.alloc (.cells #[.int .u64 tb, .int .u64 ts, .int .i64 tq, .int .i64 tp] 81)) := (Bel.refl w).alloc _
  have FT := hid_ k0
  have FB := hid_ kB
  clear k0 kB
  go_enter Try.func77, Try.ntmps77
  go_wp2_with fail
  generalize (w.alloc (.cells #[.int .u64 tb, .int .u64 ts, .int .i64 tq, .int .i64 tp] 81)) = W0 at FT FB ⊢
  generalize w.heap.size = gT at FT ⊢
  refine (indexP_any (fun x => x.number == tb) 116 (.pointer (some ⟨gT, 0, none⟩)) egOne1 A 0 c [] _ (Row.none_ ordT W0 _) ?_).mono ?_
  · intro o0 o1 o2 o3 o4 o5 w1 hb
    exact one1_any o0 o1 o2 o3 o4 o5 tb gT w1 ((FT.out.bel hb).cell 0 rfl)
  rintro e w1 ⟨rfl, b1⟩
  have F1 := hid_ (FT.out.bel b1)
  have B1 := hid_ (FB.out.trans b1)
  clear FT FB b1
  rw [show idxI (fun x : Ord => x.number == tb) [] = -1 from rfl]
  go_wp2_with fail
  refine (indexP_any (fun x => x.number == ts) 117 (.pointer (some ⟨gT, 0, none⟩)) egOne2 A 0 c [] _ (Row.none_ ordT w1 _) ?_).mono ?_
  · intro o0 o1 o2 o3 o4 o5 w2 hb
    exact one2_any o0 o1 o2 o3 o4 o5 ts gT w2 ((F1.out.bel hb).cell 1 rfl)
  rintro e w2 ⟨rfl, b2⟩
  have B2 := hid_ (B1.out.trans b2)
  clear F1 B1 b2
  rw [show idxI (fun x : Ord => x.number == ts) [] = -1 from rfl]
  go_wp2
  go_ret3
  exact ⟨rfl, B2.out⟩
set_option maxRecDepth 10000 in
set_option maxHeartbeats 2000000 in
theorem fill_nil (A : Option Addr) (n c : Nat) (l : List Acc) (B : Addr) (d : Nat) (tb ts tq tp : Int) (w : World) (hA : Row accT w A n l) (hn : n ≤ 100000) (hB : Row trdT w (some B) 1 [⟨tb, ts, tq, tp⟩]) :
    Calls Try.prog 30 #[.slice A n c, .slice none 0 0, .slice (some B) 1 d] w fun e w' => e = .returned (.tuple #[.slice none 0 0, .slice none 0 0, .int .i64 130]) ∧ Bel w w' := by
  have FA := hid_ hA
  have FB := hid_ hB
  clear hA hB
  go_enter Try.func30, Try.ntmps30
  go_wp2_with fail
  refine (cloneA_any A n c l w FA.out hn).mono ?_
  rintro e w1 ⟨v, rfl, o, b1⟩
  have B1 := hid_ b1
  clear o b1 FA
  go_wp2_with fail
  refine (cloneO_any none 0 0 [] w1 (Row.none_ ordT w1 _) (by omega)).mono ?_
  rintro e w2 ⟨v2, rfl, o, b2⟩
  obtain ⟨A2, c2, rfl, hc2, r2⟩ := o.reads
  have B2 := hid_ (B1.out.trans b2)
  have F2 := hid_ (FB.out.bel B2.out)
  clear o b2 B1 FB
  obtain ⟨ad, b, s, q, p, e1, ho, d0, d1, d2, d3⟩ := F2.out.trd (k := 0) (by decide)
  cases e1
  cases ho
  simp [Addr.add] at d0 d1 d2 d3
  go_wp2_with fail
  go_loopw [0, 1, 10, 11, 12, 13, 20] (fun a0 a1 _ _ _ _ i wr => a0 = v ∧ a1 = .slice A2 0 c2 ∧ i = .int .i64 0 ∧ wr = w2) (fun _ _ _ _ _ _ _ _ => 0)
  case atStart => exact ⟨rfl, rfl, rfl, rfl⟩
  case round =>
    obtain ⟨rfl, rfl, rfl, rfl⟩ := hrel
    go_wp2_with fail
    refine (one_nil _ A2 c2 tb ts tq tp _).mono ?_
    rintro e w3 ⟨rfl, b⟩
    have B3 := hid_ ((B2.out.alloc _).trans b)
    clear b d0 d1 d2 d3
    go_wp2
    go_ret3
    exact ⟨rfl, B3.out⟩
end Go.Proofs.Ytlddpkbdmbafbaa
