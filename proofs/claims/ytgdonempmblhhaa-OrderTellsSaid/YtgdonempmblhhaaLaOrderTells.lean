/- OrderTells, walked. -/
import Derived.Test.YtgdonempmblhhaaOd12
import Derived.Test.YtgdonempmblhhaaOd2
import Derived.Test.YtgdonempmblhhaaOpOrd
set_option linter.unusedSimpArgs false
set_option linter.unusedVariables false
namespace Go.Proofs.Ytgdonempmblhhaa
open Go.RowKit Go.Lib
set_option maxRecDepth 10000 in
set_option maxHeartbeats 4000000 in
theorem walkOrderTells (w : World) (s : ByteArray) (ws : s.size ≤ maxLen) (o : Ord) (wo : ordWf o) : Calls Try.prog 8 #[.string s, .agg (ordC o).toArray] w fun e w' => e = .returned (.bool true) ∧ Bel w w' := by
  obtain ⟨o0, o1, o2, o3, o4, o5⟩ := o
  simp only [ordC]
  have k0 := Bx.new w 27 [.int .u64 o0, .string o1, .string o2, .bool o3, .int .i64 o4, .int .i64 o5]
  have k0 : Bx (w.alloc (.cells #[.int .u64 o0, .string o1, .string o2, .bool o3, .int .i64 o4, .int .i64 o5] 27)) (w.heap.size) 27 [.int .u64 o0, .string o1, .string o2, .bool o3, .int .i64 o4, .int .i64 o5] := k0
  have kB : Bel w (w.alloc (.cells #[.int .u64 o0, .string o1, .string o2, .bool o3, .int .i64 o4, .int .i64 o5] 27)) := (Bel.refl w).alloc _
  have FO := hid_ k0
  have FB := hid_ kB
  clear k0 kB
  go_enter Try.func8, Try.ntmps8
  go_wp2_with fail
  generalize (w.alloc (.cells #[.int .u64 o0, .string o1, .string o2, .bool o3, .int .i64 o4, .int .i64 o5] 27)) = W0 at FO FB ⊢
  obtain ⟨gO, hgO⟩ : ∃ g, w.heap.size = g := ⟨_, rfl⟩
  rw [hgO] at FO
  try rw [hgO]
  clear hgO
  refine (awake13 _).mono ?_
  rintro e v1 ⟨rfl, b⟩
  have bb := b
  have f1O := hid_ (FO.out.bel bb)
  have f1B := hid_ (FB.out.trans bb)
  clear b bb FO FB
  by_cases h1 : 100 < s.size
  · have i1 : (100 : Int) < (s.size : Int) := by omega
    go_wp2
    go_ret
    exact ⟨rfl, f1B.out⟩
  have d1 : decide ((100 : Int) < (s.size : Int)) = false := by simp; omega
  have qO0 := f1O.out.cell 0 rfl
  have qO1 := f1O.out.cell 1 rfl
  have qO2 := f1O.out.cell 2 rfl
  have qO3 := f1O.out.cell 3 rfl
  have qO4 := f1O.out.cell 4 rfl
  have qO5 := f1O.out.cell 5 rfl
  by_cases h2 : 100 < o1.size
  · have i2 : (100 : Int) < (o1.size : Int) := by omega
    go_wp2
    go_ret
    exact ⟨rfl, f1B.out⟩
  have d2 : decide ((100 : Int) < (o1.size : Int)) = false := by simp; omega
  by_cases h3 : 100 < o2.size
  · have i3 : (100 : Int) < (o2.size : Int) := by omega
    go_wp2
    go_ret
    exact ⟨rfl, f1B.out⟩
  have d3 : decide ((100 : Int) < (o2.size : Int)) = false := by simp; omega
  have SZ : Hid (s.size ≤ 4294967280 ∧ o1.size ≤ 4294967280 ∧ o2.size ≤ 4294967280) := hid_ ⟨by omega, by omega, by omega⟩
  clear h1 h2 h3
  go_wp2_with fail
  refine (market_any s _ SZ.out.1).mono ?_
  rintro e v2 ⟨rfl, b⟩
  have bb := b
  have f2O := hid_ (f1O.out.bel bb)
  have f2B := hid_ (f1B.out.trans bb)
  clear b bb f1O f1B qO0 qO1 qO2 qO3 qO4 qO5
  clear d1 d2 d3
  go_wp2_with fail
  refine (marketR_any s _ SZ.out.1).mono ?_
  rintro e v3 ⟨rfl, b⟩
  have bb := b
  have f3O := hid_ (f2O.out.bel bb)
  have f3B := hid_ (f2B.out.trans bb)
  clear b bb f2O f2B
  have qO0 := f3O.out.cell 0 rfl
  have qO1 := f3O.out.cell 1 rfl
  have qO2 := f3O.out.cell 2 rfl
  have qO3 := f3O.out.cell 3 rfl
  have qO4 := f3O.out.cell 4 rfl
  have qO5 := f3O.out.cell 5 rfl
  go_wp2_with fail
  refine (need_any o0 o1 o2 o3 o4 o5 _ SZ.out.2.1 SZ.out.2.2).mono ?_
  rintro e v4 ⟨rfl, b⟩
  have bb := b
  have f4O := hid_ (f3O.out.bel bb)
  have f4B := hid_ (f3B.out.trans bb)
  clear b bb f3O f3B qO0 qO1 qO2 qO3 qO4 qO5
  have qO0 := f4O.out.cell 0 rfl
  have qO1 := f4O.out.cell 1 rfl
  have qO2 := f4O.out.cell 2 rfl
  have qO3 := f4O.out.cell 3 rfl
  have qO4 := f4O.out.cell 4 rfl
  have qO5 := f4O.out.cell 5 rfl
  go_wp2_with fail
  refine (needR_any o0 o1 o2 o3 o4 o5 _ SZ.out.2.1 SZ.out.2.2).mono ?_
  rintro e v5 ⟨rfl, b⟩
  have bb := b
  have f5O := hid_ (f4O.out.bel bb)
  have f5B := hid_ (f4B.out.trans bb)
  clear b bb f4O f4B qO0 qO1 qO2 qO3 qO4 qO5
  obtain ⟨va, hva⟩ : ∃ va, mktA s = va := ⟨_, rfl⟩
  rw [hva]
  have Hva := hid_ hva
  clear hva
  obtain ⟨vc, hvc⟩ : ∃ vc, mktC s = vc := ⟨_, rfl⟩
  rw [hvc]
  have Hvc := hid_ hvc
  clear hvc
  obtain ⟨ve, hve⟩ : ∃ ve, mktE s = ve := ⟨_, rfl⟩
  rw [hve]
  have Hve := hid_ hve
  clear hve
  obtain ⟨vn, hvn⟩ : ∃ vn, needA ⟨o0, o1, o2, o3, o4, o5⟩ = vn := ⟨_, rfl⟩
  rw [hvn]
  have Hvn := hid_ hvn
  clear hvn
  obtain ⟨vm, hvm⟩ : ∃ vm, needN ⟨o0, o1, o2, o3, o4, o5⟩ = vm := ⟨_, rfl⟩
  rw [hvm]
  have Hvm := hid_ hvm
  clear hvm
  obtain ⟨vk, hvk⟩ : ∃ vk, needE ⟨o0, o1, o2, o3, o4, o5⟩ = vk := ⟨_, rfl⟩
  rw [hvk]
  have Hvk := hid_ hvk
  clear hvk
  clear Hva Hvc Hve Hvn Hvm Hvk
  have hKP : ∀ W, Bel v5 W → (fun W => Bel v5 W ∧ W.cell? ⟨gO, 0, none⟩ = some (.int .u64 o0) ∧ W.cell? ⟨gO, 1, none⟩ = some (.string o1) ∧ W.cell? ⟨gO, 2, none⟩ = some (.string o2) ∧ W.cell? ⟨gO, 3, none⟩ = some (.bool o3) ∧ W.cell? ⟨gO, 4, none⟩ = some (.int .i64 o4) ∧ W.cell? ⟨gO, 5, none⟩ = some (.int .i64 o5)) W := fun W b => ⟨b, b.cell_ (f5O.out.cell 0 rfl), b.cell_ (f5O.out.cell 1 rfl), b.cell_ (f5O.out.cell 2 rfl), b.cell_ (f5O.out.cell 3 rfl), b.cell_ (f5O.out.cell 4 rfl), b.cell_ (f5O.out.cell 5 rfl)⟩
  have HKP := hid_ hKP
  clear hKP
  obtain ⟨vq, hvq⟩ : ∃ v, checkE o1 o2 o4 o5 = v := ⟨_, rfl⟩
  have HQ := hid_ hvq
  clear hvq
  go_wp2_with fail
  go_region_held3 (fun W => Bel v5 W ∧ W.cell? ⟨gO, 0, none⟩ = some (.int .u64 o0) ∧ W.cell? ⟨gO, 1, none⟩ = some (.string o1) ∧ W.cell? ⟨gO, 2, none⟩ = some (.string o2) ∧ W.cell? ⟨gO, 3, none⟩ = some (.bool o3) ∧ W.cell? ⟨gO, 4, none⟩ = some (.int .i64 o4) ∧ W.cell? ⟨gO, 5, none⟩ = some (.int .i64 o5)) ((refine HKP.out _ ?_; repeat first | with_reducible exact Bel.refl _ | with_reducible exact bz2 | with_reducible exact bz | with_reducible apply Bel.drew))
    (first | (go_at_call 26; refine' Calls.mono (orderCheck_any o0 o1 o2 o3 o4 o5 _ SZ.out.2.1 SZ.out.2.2) ?_; rintro e w9 ⟨rfl, b9⟩; have bz : Bel v5 w9 := Bel.trans (by repeat first | with_reducible exact Bel.refl _ | with_reducible apply Bel.drew) b9; rw [HQ.out]) | (go_at_call 27; refine' Calls.mono (refCheck_any o0 o1 o2 o3 o4 o5 _ SZ.out.2.1 SZ.out.2.2) ?_; rintro e w8 ⟨rfl, b8⟩; have bz2 : Bel v5 w8 := Bel.trans (by repeat first | with_reducible exact bz | with_reducible apply Bel.drew) b8; rw [HQ.out]))
  clear HKP
  go_wp2
  first | go_ret2 | go_ret
  exact ⟨rfl, f5B.out.trans (by repeat first | with_reducible exact Bel.refl _ | with_reducible exact bz2 | with_reducible apply Bel.drew)⟩
end Go.Proofs.Ytgdonempmblhhaa
