/- order.Sides. -/
import Derived.Test.YtoachnhdedpbdaaSo15
set_option linter.unusedSimpArgs false
set_option linter.unusedVariables false
set_option linter.unusedSectionVars false
namespace Go.Proofs.Ytoachnhdedpbdaa
open Go.RowKit Go.Lib Go.Sort Go.Shelf
def sellsL (l : List Ord) (mk : ByteArray) : List Ord := st ltS (l.filter (pick mk false))
def buysL (l : List Ord) (mk : ByteArray) : List Ord := st ltB (l.filter (pick mk true))
theorem hereMk (b : Bool) (gm : Nat) (w : World) :
    Calls Try.prog 36 #[.bool b, .pointer (some ⟨gm, 0, none⟩)] w fun e w' => e = .returned (.func (.func 37) #[] #[.pointer (some ⟨gm, 0, none⟩), .pointer (some ⟨w.heap.size, 0, none⟩)]) ∧ w.alloc (.cells #[.bool b] 4) = w' := by
  go_enter Try.func36, Try.ntmps36
  go_wp2
  go_ret
  exact ⟨rfl, rfl⟩
theorem egS : ∀ args w, (callFunc 39 args).run Try.prog w = .ok (.enter 39 args) w := enters_of Try.func39 (by kernel_rfl) rfl
theorem egB : ∀ args w, (callFunc 43 args).run Try.prog w = .ok (.enter 43 args) w := enters_of Try.func43 (by kernel_rfl) rfl
theorem swoS' : SWO (ltOf cfS) := by rw [ltOf_S]; exact swoS
theorem swoB' : SWO (ltOf cfB) := by rw [ltOf_B]; exact swoB
set_option maxRecDepth 10000 in
set_option maxHeartbeats 1000000 in
theorem sides_any (A : Option Addr) (n c : Nat) (l : List Ord) (mk : ByteArray) (w : World) (hA : Row ordT w A n l) (hn : n ≤ 100000) :
    Calls Try.prog 9 #[.slice A n c, .string mk] w fun e w' => ∃ v1 v2, e = .returned (.tuple #[v1, v2]) ∧ Own ordT w' w.heap.size v1 (buysL l mk) ∧ Own ordT w' w.heap.size v2 (sellsL l mk) ∧ Bel w w' := by
  have HA := hid_ hA
  clear hA
  have k0 := Bx.new w 9 [.string mk]
  have KM : Hid (Bx (w.alloc (.cells #[.string mk] 9)) w.heap.size 9 [.string mk]) := hid_ k0
  have B0 : Hid (Bel w (w.alloc (.cells #[.string mk] 9))) := hid_ ((Bel.refl w).alloc _)
  clear k0
  go_enter Try.func9, Try.ntmps9
  go_wp2_with fail
  generalize w.alloc (.cells #[.string mk] 9) = w1 at KM B0 ⊢
  obtain ⟨gm, hgm⟩ : ∃ gm, w.heap.size = gm := ⟨_, rfl⟩
  rw [hgm] at KM
  try rw [hgm]
  have HGM := hid_ hgm
  clear hgm
  refine (hereMk false gm w1).mono ?_
  rintro e w2 ⟨rfl, hw⟩
  have kb := Bx.new w1 4 [.bool false]
  rw [show (w1.alloc (.cells ([.bool false] : List Value).toArray 4)) = w2 from hw] at kb
  have hb2 : Bel w1 w2 := by rw [← hw]; exact (Bel.refl w1).alloc _
  have KB := hid_ kb
  have KM2 := hid_ (KM.out.bel hb2)
  have B2 := hid_ (B0.out.trans hb2)
  clear kb hb2 KM B0 hw
  generalize w1.heap.size = gb at KB ⊢
  go_wp2_with fail
  refine (side_any cfS swoS' 39 egS cmpS_any A n c l mk false gm gb w2 (HA.out.bel B2.out) (KM2.out.cell 0 rfl) (KB.out.cell 0 rfl) hn).mono ?_
  rintro e w3 ⟨v2, rfl, o2, b3⟩
  have O2 := hid_ (o2.mono_ B2.out.size_)
  have KM3 := hid_ (KM2.out.bel b3)
  have B3 := hid_ (B2.out.trans b3)
  clear o2 b3 KM2 B2 KB
  go_wp2_with fail
  refine (hereMk true gm w3).mono ?_
  rintro e w4 ⟨rfl, hw⟩
  have kb := Bx.new w3 4 [.bool true]
  rw [show (w3.alloc (.cells ([.bool true] : List Value).toArray 4)) = w4 from hw] at kb
  have hb4 : Bel w3 w4 := by rw [← hw]; exact (Bel.refl w3).alloc _
  have KB := hid_ kb
  have KM4 := hid_ (KM3.out.bel hb4)
  have B4 := hid_ (B3.out.trans hb4)
  have O4 := hid_ (O2.out.bel hb4)
  clear kb hb4 KM3 B3 O2 hw
  generalize w3.heap.size = gb2 at KB ⊢
  go_wp2_with fail
  refine (side_any cfB swoB' 43 egB cmpB_any A n c l mk true gm gb2 w4 (HA.out.bel B4.out) (KM4.out.cell 0 rfl) (KB.out.cell 0 rfl) hn).mono ?_
  rintro e w5 ⟨v1, rfl, o1, b5⟩
  have O1 := hid_ (o1.mono_ B4.out.size_)
  have O5 := hid_ (O4.out.bel b5)
  have B5 := hid_ (B4.out.trans b5)
  rw [ltOf_B] at O1
  rw [ltOf_S] at O5
  clear o1 b5 KM4 B4 KB O4
  go_wp2
  go_ret2
  exact ⟨_, _, rfl, O1.out, O5.out, B5.out⟩
end Go.Proofs.Ytoachnhdedpbdaa
