/- OrderLists, walked. -/
import Derived.Test.YtgdonempmblhhaaOd12
import Derived.Test.YtgdonempmblhhaaOd9
import Derived.Test.YtgdonempmblhhaaOd7
import Derived.Test.YtgdonempmblhhaaOpOrd
set_option linter.unusedSimpArgs false
set_option linter.unusedVariables false
namespace Go.Proofs.Ytgdonempmblhhaa
open Go.RowKit Go.Lib
set_option maxRecDepth 10000 in
set_option maxHeartbeats 4000000 in
theorem walkOrderLists (w : World) (A : Option Addr) (n c : Nat) (l : List Ord) (w1 : n ≤ c ∧ Row ordT w A n l ∧ ∀ x ∈ l, ordWf x) (o : Ord) (wo : ordWf o) (nu : Int) (wn : (Lit.int .u64 nu).wf = true) (mk : ByteArray) (wm : mk.size ≤ maxLen) : Calls Try.prog 9 #[.slice A n c, .agg (ordC o).toArray, .int .u64 nu, .string mk] w fun e w' => e = .returned (.bool true) ∧ Bel w w' := by
  obtain ⟨o0, o1, o2, o3, o4, o5⟩ := o
  simp only [ordC]
  obtain ⟨hnc, hA, _⟩ := w1
  have k0 := Bx.new w 27 [.int .u64 o0, .string o1, .string o2, .bool o3, .int .i64 o4, .int .i64 o5]
  have k0 : Bx (w.alloc (.cells #[.int .u64 o0, .string o1, .string o2, .bool o3, .int .i64 o4, .int .i64 o5] 27)) (w.heap.size) 27 [.int .u64 o0, .string o1, .string o2, .bool o3, .int .i64 o4, .int .i64 o5] := k0
  have kB : Bel w (w.alloc (.cells #[.int .u64 o0, .string o1, .string o2, .bool o3, .int .i64 o4, .int .i64 o5] 27)) := (Bel.refl w).alloc _
  have FO := hid_ k0
  have FB := hid_ kB
  clear k0 kB
  have FA := hid_ (hA.bel FB.out)
  have HLN := hid_ hA.1
  have HNC := hid_ hnc
  clear hA hnc
  go_enter Try.func9, Try.ntmps9
  go_wp2_with fail
  generalize (w.alloc (.cells #[.int .u64 o0, .string o1, .string o2, .bool o3, .int .i64 o4, .int .i64 o5] 27)) = W0 at FO FB FA ⊢
  obtain ⟨gO, hgO⟩ : ∃ g, w.heap.size = g := ⟨_, rfl⟩
  rw [hgO] at FO
  try rw [hgO]
  clear hgO
  refine (awake13 _).mono ?_
  rintro e v1 ⟨rfl, b⟩
  have bb := b
  have f1O := hid_ (FO.out.bel bb)
  have f1B := hid_ (FB.out.trans bb)
  have f1A := hid_ (FA.out.bel bb)
  clear b bb FO FB FA
  go_wp2_with fail
  refine (few13_any A n c l _ f1A.out).mono ?_
  rintro e v2 ⟨rfl, b⟩
  have bb := b
  have f2O := hid_ (f1O.out.bel bb)
  have f2B := hid_ (f1B.out.trans bb)
  have f2A := hid_ (f1A.out.bel bb)
  clear b bb f1O f1B f1A
  obtain ⟨fo, hfo⟩ : ∃ fo, fewO 210 l = fo := ⟨_, rfl⟩
  rw [hfo]
  have HFO := hid_ hfo
  clear hfo
  cases fo
  · go_wp2
    go_ret
    exact ⟨rfl, f2B.out⟩
  have HN : Hid (n ≤ 210) := hid_ (by have := (fewO_iff.1 HFO.out).1; rw [HLN.out] at this; exact this)
  clear HFO
  have qO0 := f2O.out.cell 0 rfl
  have qO1 := f2O.out.cell 1 rfl
  have qO2 := f2O.out.cell 2 rfl
  have qO3 := f2O.out.cell 3 rfl
  have qO4 := f2O.out.cell 4 rfl
  have qO5 := f2O.out.cell 5 rfl
  by_cases h1 : 100 < o1.size
  · have i2 : (100 : Int) < (o1.size : Int) := by omega
    go_wp2
    go_ret
    exact ⟨rfl, f2B.out⟩
  have d1 : decide ((100 : Int) < (o1.size : Int)) = false := by simp; omega
  by_cases h2 : 100 < o2.size
  · have i2 : (100 : Int) < (o2.size : Int) := by omega
    go_wp2
    go_ret
    exact ⟨rfl, f2B.out⟩
  have d2 : decide ((100 : Int) < (o2.size : Int)) = false := by simp; omega
  by_cases h3 : 100 < mk.size
  · have i2 : (100 : Int) < (mk.size : Int) := by omega
    go_wp2
    go_ret
    exact ⟨rfl, f2B.out⟩
  have d3 : decide ((100 : Int) < (mk.size : Int)) = false := by simp; omega
  have SZ : Hid (o1.size ≤ 4294967280 ∧ o2.size ≤ 4294967280) := hid_ ⟨by omega, by omega⟩
  clear h1 h2 h3
  obtain ⟨xo, hxo⟩ : ∃ r, putO l ⟨o0, o1, o2, o3, o4, o5⟩ = r := ⟨_, rfl⟩
  obtain ⟨xe, hxe⟩ : ∃ r, putE l ⟨o0, o1, o2, o3, o4, o5⟩ = r := ⟨_, rfl⟩
  have HPO := hid_ (And.intro hxo hxe)
  clear hxo hxe
  go_wp2_with fail
  refine (put_any A n c l o0 o1 o2 o3 o4 o5 _ f2A.out HNC.out SZ.out.1 SZ.out.2 (by have := HN.out; omega)).mono ?_
  rintro e v3 ⟨X3, m3, k3, rfl, r3, _, b⟩
  have bb := b
  rw [HPO.out.2]
  rw [HPO.out.1] at r3
  have f3O := hid_ (f2O.out.bel bb)
  have f3B := hid_ (f2B.out.trans bb)
  have f3A := hid_ (f2A.out.bel bb)
  have f3P := hid_ r3
  clear b bb f2O f2B f2A qO0 qO1 qO2 qO3 qO4 qO5 r3
  clear d1 d2 d3
  have qO0 := f3O.out.cell 0 rfl
  have qO1 := f3O.out.cell 1 rfl
  have qO2 := f3O.out.cell 2 rfl
  have qO3 := f3O.out.cell 3 rfl
  have qO4 := f3O.out.cell 4 rfl
  have qO5 := f3O.out.cell 5 rfl
  go_wp2_with fail
  refine (putR_any A n c l o0 o1 o2 o3 o4 o5 _ f3A.out HNC.out SZ.out.1 SZ.out.2 (by have := HN.out; omega)).mono ?_
  rintro e v4 ⟨X4, m4, k4, rfl, r4, b⟩
  have bb := b
  rw [HPO.out.2]
  rw [HPO.out.1] at r4
  have f4O := hid_ (f3O.out.bel bb)
  have f4B := hid_ (f3B.out.trans bb)
  have f4A := hid_ (f3A.out.bel bb)
  have f4P := hid_ (f3P.out.bel bb)
  have f4Q := hid_ r4
  clear b bb f3O f3B f3A f3P qO0 qO1 qO2 qO3 qO4 qO5 r4
  obtain ⟨dl, hdl⟩ : ∃ r, dropL l nu = r := ⟨_, rfl⟩
  obtain ⟨dx, hdx⟩ : ∃ r, dropX l nu = r := ⟨_, rfl⟩
  obtain ⟨de, hde⟩ : ∃ r, dropE l nu = r := ⟨_, rfl⟩
  obtain ⟨x0, x1, x2, x3, x4, x5⟩ := dx
  have HDO := hid_ (And.intro hdl (And.intro hdx hde))
  clear hdl hdx hde
  go_wp2_with fail
  refine (drop_any A n c l nu _ f4A.out HNC.out (by have := HN.out; omega)).mono ?_
  rintro e v5 ⟨X5, m5, k5, rfl, r5, _, b⟩
  have bb := b
  rw [HDO.out.2.1, HDO.out.2.2]
  rw [HDO.out.1] at r5
  simp only [ordC]
  have f5O := hid_ (f4O.out.bel bb)
  have f5B := hid_ (f4B.out.trans bb)
  have f5A := hid_ (f4A.out.bel bb)
  have f5P := hid_ (f4P.out.bel bb)
  have f5Q := hid_ (f4Q.out.bel bb)
  have f5C := hid_ r5
  clear b bb f4O f4B f4A f4P f4Q r5
  have kx := Bx.new v5 27 [.int .u64 x0, .string x1, .string x2, .bool x3, .int .i64 x4, .int .i64 x5]
  go_wp2_with fail
  refine (dropR_any A n c l nu _ (f5A.out.bel ((Bel.refl v5).alloc _)) HNC.out (by have := HN.out; omega)).mono ?_
  rintro e v6 ⟨X6, m6, k6, rfl, r6, b⟩
  have bb := ((Bel.refl v5).alloc _).trans b
  rw [HDO.out.2.1, HDO.out.2.2]
  rw [HDO.out.1] at r6
  simp only [ordC]
  have kx := kx.bel b
  have f6O := hid_ (f5O.out.bel bb)
  have f6B := hid_ (f5B.out.trans bb)
  have f6A := hid_ (f5A.out.bel bb)
  have f6P := hid_ (f5P.out.bel bb)
  have f6Q := hid_ (f5Q.out.bel bb)
  have f6C := hid_ (f5C.out.bel bb)
  have f6D := hid_ r6
  have f6X := hid_ kx
  clear b bb f5O f5B f5A f5P f5Q f5C r6 kx
  have ky := Bx.new v6 27 [.int .u64 x0, .string x1, .string x2, .bool x3, .int .i64 x4, .int .i64 x5]
  go_wp2_with fail
  refine (sides_any A n c l mk _ (f6A.out.bel ((Bel.refl v6).alloc _)) (by have := HN.out; omega)).mono ?_
  rintro e v7 ⟨t1, t2, rfl, q1, q2, b⟩
  have bb := ((Bel.refl v6).alloc _).trans b
  have ky := ky.bel b
  obtain ⟨X7, k7, rfl, _, r7⟩ := q1.reads
  obtain ⟨X8, k8, rfl, _, r8⟩ := q2.reads
  clear q1 q2
  have f7O := hid_ (f6O.out.bel bb)
  have f7B := hid_ (f6B.out.trans bb)
  have f7A := hid_ (f6A.out.bel bb)
  have f7P := hid_ (f6P.out.bel bb)
  have f7Q := hid_ (f6Q.out.bel bb)
  have f7C := hid_ (f6C.out.bel bb)
  have f7D := hid_ (f6D.out.bel bb)
  have f7X := hid_ (f6X.out.bel bb)
  have f7S := hid_ r7
  have f7T := hid_ r8
  have f7Y := hid_ ky
  clear b bb f6O f6B f6A f6P f6Q f6C f6D f6X r7 r8 ky
  generalize v5.heap.size = gX at f7X ⊢
  generalize v6.heap.size = gY at f7Y ⊢
  go_wp2_with fail
  refine (sameOrd_any X3 m3 k3 xo X4 m4 k4 xo _ f7P.out f7Q.out).mono ?_
  rintro e v8 ⟨rfl, b⟩
  have bb := b
  rw [eqB_1 rfl]
  have f8O := hid_ (f7O.out.bel bb)
  have f8B := hid_ (f7B.out.trans bb)
  have f8A := hid_ (f7A.out.bel bb)
  have f8P := hid_ (f7P.out.bel bb)
  have f8Q := hid_ (f7Q.out.bel bb)
  have f8C := hid_ (f7C.out.bel bb)
  have f8D := hid_ (f7D.out.bel bb)
  have f8X := hid_ (f7X.out.bel bb)
  have f8S := hid_ (f7S.out.bel bb)
  have f8T := hid_ (f7T.out.bel bb)
  have f8Y := hid_ (f7Y.out.bel bb)
  clear b bb f7O f7B f7A f7P f7Q f7C f7D f7X f7S f7T f7Y
  go_wp2_with fail
  refine (sameOrd_any X5 m5 k5 dl X6 m6 k6 dl _ f8C.out f8D.out).mono ?_
  rintro e v9 ⟨rfl, b⟩
  have bb := b
  rw [eqB_1 rfl]
  have f9O := hid_ (f8O.out.bel bb)
  have f9B := hid_ (f8B.out.trans bb)
  have f9A := hid_ (f8A.out.bel bb)
  have f9P := hid_ (f8P.out.bel bb)
  have f9Q := hid_ (f8Q.out.bel bb)
  have f9C := hid_ (f8C.out.bel bb)
  have f9D := hid_ (f8D.out.bel bb)
  have f9X := hid_ (f8X.out.bel bb)
  have f9S := hid_ (f8S.out.bel bb)
  have f9T := hid_ (f8T.out.bel bb)
  have f9Y := hid_ (f8Y.out.bel bb)
  clear b bb f8O f8B f8A f8P f8Q f8C f8D f8X f8S f8T f8Y
  go_wp2_with fail
  refine (sideR_any A n c l mk true _ f9A.out (by have := HN.out; omega)).mono ?_
  rintro e v10 ⟨t9, rfl, q9, b⟩
  have bb := b
  rw [sideL_t] at q9
  obtain ⟨X9, k9, rfl, _, r9⟩ := q9.reads
  clear q9
  have f10O := hid_ (f9O.out.bel bb)
  have f10B := hid_ (f9B.out.trans bb)
  have f10A := hid_ (f9A.out.bel bb)
  have f10P := hid_ (f9P.out.bel bb)
  have f10Q := hid_ (f9Q.out.bel bb)
  have f10C := hid_ (f9C.out.bel bb)
  have f10D := hid_ (f9D.out.bel bb)
  have f10X := hid_ (f9X.out.bel bb)
  have f10S := hid_ (f9S.out.bel bb)
  have f10T := hid_ (f9T.out.bel bb)
  have f10Y := hid_ (f9Y.out.bel bb)
  have f10U := hid_ r9
  clear b bb f9O f9B f9A f9P f9Q f9C f9D f9X f9S f9T f9Y r9
  go_wp2_with fail
  refine (sameOrd_any X7 _ k7 (buysL l mk) X9 _ k9 (buysL l mk) _ f10S.out f10U.out).mono ?_
  rintro e v11 ⟨rfl, b⟩
  have bb := b
  rw [eqB_1 rfl]
  have f11O := hid_ (f10O.out.bel bb)
  have f11B := hid_ (f10B.out.trans bb)
  have f11A := hid_ (f10A.out.bel bb)
  have f11P := hid_ (f10P.out.bel bb)
  have f11Q := hid_ (f10Q.out.bel bb)
  have f11C := hid_ (f10C.out.bel bb)
  have f11D := hid_ (f10D.out.bel bb)
  have f11X := hid_ (f10X.out.bel bb)
  have f11S := hid_ (f10S.out.bel bb)
  have f11T := hid_ (f10T.out.bel bb)
  have f11Y := hid_ (f10Y.out.bel bb)
  have f11U := hid_ (f10U.out.bel bb)
  clear b bb f10O f10B f10A f10P f10Q f10C f10D f10X f10S f10T f10Y f10U
  clear f11U
  go_wp2_with fail
  refine (sideR_any A n c l mk false _ f11A.out (by have := HN.out; omega)).mono ?_
  rintro e v12 ⟨t9, rfl, q9, b⟩
  have bb := b
  rw [sideL_f] at q9
  obtain ⟨X9, k9, rfl, _, r9⟩ := q9.reads
  clear q9
  have f12O := hid_ (f11O.out.bel bb)
  have f12B := hid_ (f11B.out.trans bb)
  have f12A := hid_ (f11A.out.bel bb)
  have f12P := hid_ (f11P.out.bel bb)
  have f12Q := hid_ (f11Q.out.bel bb)
  have f12C := hid_ (f11C.out.bel bb)
  have f12D := hid_ (f11D.out.bel bb)
  have f12X := hid_ (f11X.out.bel bb)
  have f12S := hid_ (f11S.out.bel bb)
  have f12T := hid_ (f11T.out.bel bb)
  have f12Y := hid_ (f11Y.out.bel bb)
  have f12U := hid_ r9
  clear b bb f11O f11B f11A f11P f11Q f11C f11D f11X f11S f11T f11Y r9
  go_wp2_with fail
  refine (sameOrd_any X8 _ k8 (sellsL l mk) X9 _ k9 (sellsL l mk) _ f12T.out f12U.out).mono ?_
  rintro e v13 ⟨rfl, b⟩
  have bb := b
  rw [eqB_1 rfl]
  have f13O := hid_ (f12O.out.bel bb)
  have f13B := hid_ (f12B.out.trans bb)
  have f13A := hid_ (f12A.out.bel bb)
  have f13P := hid_ (f12P.out.bel bb)
  have f13Q := hid_ (f12Q.out.bel bb)
  have f13C := hid_ (f12C.out.bel bb)
  have f13D := hid_ (f12D.out.bel bb)
  have f13X := hid_ (f12X.out.bel bb)
  have f13S := hid_ (f12S.out.bel bb)
  have f13T := hid_ (f12T.out.bel bb)
  have f13Y := hid_ (f12Y.out.bel bb)
  have f13U := hid_ (f12U.out.bel bb)
  clear b bb f12O f12B f12A f12P f12Q f12C f12D f12X f12S f12T f12Y f12U
  clear f13U
  have qX0 := f13X.out.cell 0 rfl
  have qX1 := f13X.out.cell 1 rfl
  have qX2 := f13X.out.cell 2 rfl
  have qX3 := f13X.out.cell 3 rfl
  have qX4 := f13X.out.cell 4 rfl
  have qX5 := f13X.out.cell 5 rfl
  have qY0 := f13Y.out.cell 0 rfl
  have qY1 := f13Y.out.cell 1 rfl
  have qY2 := f13Y.out.cell 2 rfl
  have qY3 := f13Y.out.cell 3 rfl
  have qY4 := f13Y.out.cell 4 rfl
  have qY5 := f13Y.out.cell 5 rfl
  have E1 := eqlOrd x0 x1 x2 x3 x4 x5 x0 x1 x2 x3 x4 x5
  rw [ordEq_iff _ _ |>.2 rfl] at E1
  go_wp2
  first | go_ret2 | go_ret
  exact ⟨rfl, f13B.out⟩
end Go.Proofs.Ytgdonempmblhhaa
