/- account.move, Free. -/
import Derived.Test.YtnpinolhhnpniaaGreatTyAcc
import Derived.Test.YtnpinolhhnpniaaGreatBox
import Derived.Lib.AppendZerosOnto
import Derived.Test.YtnpinolhhnpniaaGreatAc4
set_option linter.unusedSimpArgs false
set_option linter.unusedVariables false
namespace Go.Proofs.YtnpinolhhnpniaaGreat
open Go.RowKit Go.Lib
set_option maxRecDepth 10000 in
set_option maxHeartbeats 1000000 in
theorem growA_nil (n : Nat) (w : World) (hn : n ≤ 100000) :
    Calls Tryz.prog 91 #[.slice none 0 0, .int .i64 n] w fun e w' => ∃ v, e = .returned v ∧ Own accT w' w.heap.size v [] ∧ Bel w w' := by
  have h1 : ¬ ((n : Int) < 0) := by omega
  have hw0 : wrap64 (n : Int) = n := IntWalk.wrap64_in _ (by omega)
  rcases Nat.eq_zero_or_pos n with h0 | h0
  · subst h0
    clear hw0 h1
    go_enter Tryz.func91, Tryz.ntmps91
    go_wp2
    go_ret
    exact ⟨_, rfl, Own.nil_ _ _ _, Bel.refl _⟩
  · obtain ⟨i0, hi, hzz⟩ := Option.map_eq_some_iff.1 accS.info
    simp only [Prod.mk.injEq] at hzz
    obtain ⟨hz0, hz1, hz2⟩ := hzz
    have hs1 : i0.size = 4 := hz1
    have hold : (Builtin.firstCells i0.size 0 (.slice none 0 0)).run Tryz.prog w.drew = .ok ([] : List Value).toArray w.drew := run_firstCells_none w.drew i0.size 0 0 0
    have hrz0 : ∀ ty, (Builtin.append_ #[22, 3] ty #[.slice none 0 0, .int .i64 n]).run Tryz.prog w =
        .ok (.slice (some ⟨w.heap.size, 0, none⟩) (0 + n) (grownCap w (0 + n) 0 37)) (w.drew.alloc (.cells (([] : List Value).toArray ++ Builtin.zeroCells accVz.cells n ++ Builtin.zeroCells accVz.cells (grownCap w (0 + n) 0 37 - (0 + n))) 37)) := fun ty =>
      Lib.run_append_grow_zeros w 22 3 ty 37 i0 accVz .i64 .i64 accS.ut Tryz.underlying3 hi hz0 none 0 0 [] hold n h0 (by omega) (by omega) (by omega) (by rw [hz2]; omega) (by rw [hz2]; exact growslice_fits (by omega) (by omega))
    have hG1 : 0 + n ≤ grownCap w (0 + n) 0 37 := grownCap_ge w _ _ _
    have hG2 := grownCap_le_maxLen w (0 + n) 0 37 (by unfold maxLen; omega)
    have hcs : (([] : List Value).toArray ++ Builtin.zeroCells accVz.cells n ++ Builtin.zeroCells accVz.cells (grownCap w (0 + n) 0 37 - (0 + n))).size = grownCap w (0 + n) 0 37 * 4 := by
      simp only [Array.size_append, size_zeroCells]
      rw [show accVz.cells.size = 4 from rfl, show (([] : List Value).toArray).size = 0 from rfl]
      omega
    obtain ⟨cs, hcs0⟩ : ∃ cs, ([] : List Value).toArray ++ Builtin.zeroCells accVz.cells n ++ Builtin.zeroCells accVz.cells (grownCap w (0 + n) 0 37 - (0 + n)) = cs := ⟨_, rfl⟩
    rw [hcs0] at hcs
    simp only [hcs0] at hrz0
    have HO : Hid (Own accT (w.alloc (.cells cs 37)).drew w.heap.size (.slice (some ⟨w.heap.size, 0, none⟩) 0 (grownCap w (0 + n) 0 37)) []) :=
      ⟨rfl, .inr ⟨w.heap.size, _, cs, rfl, Nat.le_refl _, heap_alloc_new w _, Nat.zero_le _, hG2, hcs, by simp⟩⟩
    clear hold hcs hcs0
    generalize grownCap w (0 + n) 0 37 = G at *
    have hm : maxLen = 9223372036854775807 := by decide
    rw [hm] at hG2
    simp only [Nat.zero_add] at hrz0 hG1
    have h2 : (0 : Int) < (n : Int) := by omega
    clear hi hz0 hz1 hz2 hs1 hm
    go_enter Tryz.func91, Tryz.ntmps91
    go_wp2_with (at_builtin; refine Lib.wpList_append_run _ rfl _ _ _ _ rfl _ _ rfl rfl _ _ (hrz0 _) ?_)
    all_goals go_ret
    all_goals exact ⟨_, rfl, HO.out, ((Bel.refl _).alloc _).drew⟩

/-- A slice of slices: its elements. -/
abbrev AV := Option Addr × Nat × Nat
def avT : Ty AV where
  e := 22
  sz := 1
  enc := fun s => [.slice s.1 s.2.1 s.2.2]
  pos := by decide
  len := fun _ => rfl
  one := fun x u hu => by simp at hu; subst hu; rfl
theorem avS : SlT Tryz.prog 121 avT 24 (.slice none 0 0) where
  ut := by kernel_rfl
  info := by kernel_rfl
  zs := rfl
  by0 := by decide
theorem Row.av {w : World} {A : Option Addr} {n : Nat} {l : List AV} (h : Row avT w A n l) {k : Nat} (hk : k < n) :
    ∃ ad X m c, A = some ad ∧ l[k]? = some (X, m, c) ∧ w.cell? (ad.add k) = some (.slice X m c) := by
  obtain ⟨ad, x, e, ho, h0, _⟩ := h.at_ hk
  refine ⟨ad, x.1, x.2.1, x.2.2, e, ho, ?_⟩
  have := h0 _ rfl
  rwa [show k * avT.sz = k from Nat.mul_one k] at this
/-- The slices' own elements. -/
def RowsA (w : World) (ss : List AV) (xs : List (List Acc)) : Prop := ss.length = xs.length ∧ ∀ (k : Nat) (s : AV) (x : List Acc), ss[k]? = some s → xs[k]? = some x → Row accT w s.1 s.2.1 x
theorem RowsA.bel {w w1 : World} {ss : List AV} {xs : List (List Acc)} (h : RowsA w ss xs) (hb : Bel w w1) : RowsA w1 ss xs := ⟨h.1, fun k s x h1 h2 => (h.2 k s x h1 h2).bel hb⟩
theorem RowsA.at {w : World} {ss : List AV} {xs : List (List Acc)} (h : RowsA w ss xs) {k : Nat} {s : AV} (hs : ss[k]? = some s) : ∃ x, xs[k]? = some x ∧ Row accT w s.1 s.2.1 x := by
  have hk := (List.getElem?_eq_some_iff.1 hs).1
  rw [h.1] at hk
  exact ⟨xs[k], List.getElem?_eq_getElem hk, h.2 k s _ hs (List.getElem?_eq_getElem hk)⟩
theorem flat_takeA (xs : List (List Acc)) (k : Nat) {x : List Acc} (h : xs[k]? = some x) : (xs.take (k + 1)).flatten = (xs.take k).flatten ++ x := by
  rw [List.take_add_one, h]
  simp
theorem flat_leA (xs : List (List Acc)) (k : Nat) : (xs.take k).flatten.length ≤ xs.flatten.length := by
  conv => rhs; rw [← List.take_append_drop k xs, List.flatten_append, List.length_append]
  omega
set_option maxRecDepth 10000 in
set_option maxHeartbeats 100000 in
theorem concatA_any (A : Option Addr) (n c : Nat) (ss : List AV) (xs : List (List Acc)) (w : World) (h1 : Row avT w A n ss) (h2 : RowsA w ss xs) (hs : xs.flatten.length ≤ 100000) :
    Calls Tryz.prog 72 #[.slice A n c] w fun e w' => ∃ v, e = .returned v ∧ Own accT w' w.heap.size v xs.flatten ∧ Bel w w' := by
  have hn := h1.2.1
  have HL : Hid (∀ k, (xs.take k).flatten.length ≤ 100000) := fun k => Nat.le_trans (flat_leA xs k) hs
  clear hs
  go_enter Tryz.func72, Tryz.ntmps72
  go_wp2
  go_loop [3, 5, 11] (fun s _ i => ∃ k : Nat, k ≤ n ∧ i = .int .i64 k ∧ s = .int .i64 ((xs.take k).flatten.length : Nat)) (fun _ _ i => n - (intOf i).toNat)
  case atStart => exact ⟨0, by omega, rfl, rfl⟩
  case round =>
    obtain ⟨k, hk, rfl, rfl⟩ := hrel
    by_cases hkn : k < n
    · obtain ⟨ad, X, m, cc, rfl, ho, d0⟩ := h1.av hkn
      obtain ⟨x, hx, hr⟩ := h2.at ho
      have hm : x.length = m := hr.1
      have hf := flat_takeA xs k hx
      have hl1 := HL.out (k + 1)
      have hl0 := HL.out k
      rw [hf, List.length_append, hm] at hl1
      have hw : wrap64 ((((xs.take k).flatten.length : Nat) : Int) + (m : Int)) = (((xs.take k).flatten.length + m : Nat) : Int) := by rw [IntWalk.wrap64_in _ (by omega)]; omega
      have hlen : (xs.take (k + 1)).flatten.length = (xs.take k).flatten.length + m := by rw [hf, List.length_append, hm]
      have HF := hid_ hlen
      generalize (xs.take k).flatten.length = q at *
      have hneg : ¬ ((q : Int) + (m : Int) < 0) := by omega
      clear hf hr hx ho hm hlen hl0
      go_wp2
      case roundEnd =>
        go_round
        case rel => exact ⟨k + 1, by omega, by go_num, by rw [HF.out]; rfl⟩
        case measure => simp [intOf]; omega
    · have : k = n := by omega
      subst this
      have hlk := HL.out k
      generalize (xs.take k).flatten.length = q at hlk ⊢
      go_wp2_with fail
      refine (growA_nil q _ hlk).mono ?_
      rintro e w1 ⟨v0, rfl, o, b⟩
      clear hlk
      go_wp2_with fail
      go_loopw [6, 8, 27] (fun v _ i wr => ∃ j : Nat, j ≤ k ∧ i = .int .i64 j ∧ Own accT wr w.heap.size v (xs.take j).flatten ∧ Bel w wr) (fun _ _ i _ => k - (intOf i).toNat)
      case atStart => exact ⟨0, by omega, rfl, o, b⟩
      case round =>
        obtain ⟨j, hj, rfl, hO, hbr⟩ := hrel
        by_cases hjn : j < k
        · obtain ⟨ad, X, m, cc, rfl, ho, d0⟩ := (h1.bel hbr).av hjn
          obtain ⟨x, hx, hr⟩ := (h2.bel hbr).at ho
          have hm : x.length = m := hr.1
          have hf := flat_takeA xs j hx
          have hl1 := HL.out (j + 1)
          rw [hf, List.length_append, hm] at hl1
          have HF := hid_ hf
          have HL1 := hid_ hl1
          have HO := hid_ hO
          have HR := hid_ hr
          clear hf hl1 hx ho hm h1 hO hr o b
          go_wp2_with (at_builtin; refine wpApp (w0 := w) accS rfl _ _ rfl _ (xs.take j).flatten x X m cc rfl rfl HO.out HR.out hbr (by have := HL1.out; omega) ?_; intro v1 x1 hO1 hb1 _ _)
          case roundEnd =>
            go_roundw
            case rel => exact ⟨j + 1, by omega, by go_num, by rw [HF.out]; exact hO1, hb1⟩
            case measure => simp [intOf]; omega
        · have hjk : j = k := by omega
          clear hj hjn
          subst hjk
          have hfull : xs.take j = xs := by rw [← h1.1, h2.1, List.take_length]
          rw [hfull] at hO
          have HO := hid_ hO
          clear hO hfull o b h1 h2 HL
          go_wp2
          go_ret
          exact ⟨_, rfl, HO.out, hbr⟩
theorem litThreeA (W w : World) (A B C : Option Addr) (n m k c d e g : Nat) (hg : g = W.heap.size) (hb : Bel (W.alloc (.cells #[.slice A n c, .slice B m d, .slice C k e] 22)) w) : Row avT w (some ⟨g, 0, none⟩) 3 [(A, n, c), (B, m, d), (C, k, e)] := by
  subst hg
  exact (Row.lit (T := avT) W [(A, n, c), (B, m, d), (C, k, e)] (0, 0) (by simp)).bel hb
theorem rowsThreeA (W : World) (A B C : Option Addr) (n m k c d e : Nat) (xs ys zs : List Acc) (h1 : Row accT W A n xs) (h2 : Row accT W B m ys) (h3 : Row accT W C k zs) : RowsA W [(A, n, c), (B, m, d), (C, k, e)] [xs, ys, zs] := by
  refine ⟨rfl, fun i s x hs hx => ?_⟩
  rcases i with _ | _ | _ | i
  · simp at hs hx; subst hs; subst hx; exact h1
  · simp at hs hx; subst hs; subst hx; exact h2
  · simp at hs hx; subst hs; subst hx; exact h3
  · simp at hs
theorem rowsTwoA (W : World) (A B : Option Addr) (n m c d : Nat) (xs ys : List Acc) (h1 : Row accT W A n xs) (h2 : Row accT W B m ys) : RowsA W [(A, n, c), (B, m, d)] [xs, ys] := by
  refine ⟨rfl, fun k s x hs hx => ?_⟩
  rcases k with _ | _ | k
  · simp at hs hx; subst hs; subst hx; exact h1
  · simp at hs hx; subst hs; subst hx; exact h2
  · simp at hs
theorem litTwoA (W w : World) (A B : Option Addr) (n m c d g : Nat) (hg : g = W.heap.size) (hb : Bel (W.alloc (.cells #[.slice A n c, .slice B m d] 22)) w) : Row avT w (some ⟨g, 0, none⟩) 2 [(A, n, c), (B, m, d)] := by
  subst hg
  exact (Row.lit (T := avT) W [(A, n, c), (B, m, d)] (0, 0) (by simp)).bel hb
end Go.Proofs.YtnpinolhhnpniaaGreat
set_option linter.unusedSimpArgs false
set_option linter.unusedVariables false
namespace Go.Proofs.YtnpinolhhnpniaaGreat
open Go.RowKit Go.Lib Go.Sort Go.Shelf
set_option maxRecDepth 10000 in
set_option maxHeartbeats 2000000 in
theorem with_any (A : Option Addr) (n c : Nat) (l : List Acc) (a0 a1 : ByteArray) (a2 a3 : Int) (w : World) (hA : Row accT w A n l) (hnc : n ≤ c) (hs : Srt l) (hn : n ≤ 99999) :
    Calls Tryz.prog 57 #[.slice A n c, .agg #[.string a0, .string a1, .int .i64 a2, .int .i64 a3]] w fun e w' => ∃ v, e = .returned v ∧ Own accT w' w.heap.size v (withA l ⟨a0, a1, a2, a3⟩) ∧ Bel w w' := by
  have HS := hid_ hs
  have HL := hid_ hA.1
  have HNC := hid_ hnc
  have HN := hid_ hn
  have hA63 := hA.2.1
  obtain ⟨ro, hro⟩ : ∃ r, withA l ⟨a0, a1, a2, a3⟩ = r := ⟨_, rfl⟩
  rw [hro]
  have HRO := hid_ hro
  clear hs hnc hn hro
  have k0 := Bx.new w 37 [.string a0, .string a1, .int .i64 a2, .int .i64 a3]
  have k0 : Bx (w.alloc (.cells #[.string a0, .string a1, .int .i64 a2, .int .i64 a3] 37)) (w.heap.size) 37 [.string a0, .string a1, .int .i64 a2, .int .i64 a3] := k0
  have kB : Bel w (w.alloc (.cells #[.string a0, .string a1, .int .i64 a2, .int .i64 a3] 37)) := (Bel.refl w).alloc _
  have FO := hid_ k0
  have FB := hid_ kB
  clear k0 kB
  have FA := hid_ (hA.bel FB.out)
  clear hA
  go_enter Tryz.func57, Tryz.ntmps57
  go_wp2_with fail
  generalize (w.alloc (.cells #[.string a0, .string a1, .int .i64 a2, .int .i64 a3] 37)) = W0 at FO FB FA ⊢
  obtain ⟨gO, hgO⟩ : ∃ g, w.heap.size = g := ⟨_, rfl⟩
  have HGO := hid_ hgO
  rw [hgO] at FO
  try rw [hgO]
  clear hgO
  have qO0 := FO.out.cell 0 rfl
  have qO1 := FO.out.cell 1 rfl
  have qO2 := FO.out.cell 2 rfl
  have qO3 := FO.out.cell 3 rfl
  go_wp2_with fail
  refine (of_acc a0 a1 a2 a3 _).mono ?_
  rintro e v1 ⟨rfl, b⟩
  have bb := b
  have f1O := hid_ (FO.out.bel bb)
  have f1B := hid_ (FB.out.trans bb)
  have f1A := hid_ (FA.out.bel bb)
  clear b bb FO FB FA qO0 qO1 qO2 qO3
  go_wp2_with fail
  refine (seek_any A n c l a0 a1 _ f1A.out HS.out).mono ?_
  rintro e v2 ⟨rfl, b⟩
  have bb := b
  have f2O := hid_ (f1O.out.bel bb)
  have f2B := hid_ (f1B.out.trans bb)
  have f2A := hid_ (f1A.out.bel bb)
  clear b bb f1O f1B f1A
  obtain ⟨k, hk⟩ : ∃ k, cntA l ⟨a0, a1⟩ = k := ⟨_, rfl⟩
  obtain ⟨is, his⟩ : ∃ is, isA l ⟨a0, a1⟩ = is := ⟨_, rfl⟩
  rw [hk, his]
  have hkn : k ≤ n := by have := cnt_le l ⟨a0, a1⟩; rw [hk, HL.out] at this; exact this
  have HK : Hid (cntA l ⟨a0, a1⟩ = k ∧ isA l ⟨a0, a1⟩ = is) := hid_ ⟨hk, his⟩
  have HM : Hid (k + is.toNat ≤ n) := hid_ (by
    obtain ⟨L, M, R, hC⟩ := srt_cut HS.out ⟨a0, a1⟩
    have h1 := HK.out.1
    have h2 := HK.out.2
    rw [hC.cnt] at h1
    rw [hC.is] at h2
    rw [← h1, ← h2, ← HL.out, hC.eq, List.length_append, List.length_append]
    cases M <;> simp)
  clear hk his
  have hto := fun W => accS.cutTo (P := Tryz.prog) .i64 A n c k (Nat.le_trans hkn HNC.out) W
  have HTO := hid_ (f2A.out.take_ hkn)
  have i0 : (0 : Int) ≤ (k : Int) := by omega
  have i1 : (k : Int) ≤ (n : Int) := by omega
  have i2 : n ≤ 99999 := HN.out
  have qO0 := f2O.out.cell 0 rfl
  have qO1 := f2O.out.cell 1 rfl
  have qO2 := f2O.out.cell 2 rfl
  have qO3 := f2O.out.cell 3 rfl
  cases is
  · have hmn : k ≤ n := HM.out
    obtain ⟨A', hcut, hrow⟩ := accS.cutFrom (P := Tryz.prog) .i64 A n c k hmn HNC.out
    have HROW := hid_ (hrow _ _ f2A.out)
    clear hrow
    by_cases hz : a2 = 0
    · have hq : (a2 == 0) = true := by simp [hz]
      have HXY : Hid ([l.take k, l.drop k].flatten = ro) := hid_ (by rw [← HRO.out]; unfold withA; rw [if_pos hz]; unfold toA; rw [show Acc.plc ⟨a0, a1, a2, a3⟩ = ⟨a0, a1⟩ from rfl, HK.out.1, HK.out.2]; simp)
      have HL9 : Hid ([l.take k, l.drop k].flatten.length ≤ 100000) := hid_ (by have h3 := HL.out; simp; omega)
      clear hz
      go_wp2_with fail
      have hKP : ∀ W, Bel v2 W → (fun W => Bel v2 W) W := fun W b => b
      have HKP := hid_ hKP
      clear hKP
      go_region_held3 (fun W => Bel v2 W) ((refine HKP.out _ ?_; (repeat first | with_reducible exact Bel.refl _ | with_reducible exact bz | with_reducible apply Bel.drew | with_reducible apply Bel.alloc)))
        (first | (go_at_call 72; refine' Calls.mono (concatA_any _ 2 2 [(A, k, c), (A', n - k, c - k)] [l.take k, l.drop k] _ (litTwoA v2 _ A A' k (n - k) c (c - k) _ rfl (Bel.refl _).drew) (rowsTwoA _ _ _ _ _ _ _ _ _ (HTO.out.bel ((Bel.refl v2).alloc _).drew) (HROW.out.bel ((Bel.refl v2).alloc _).drew)) HL9.out) ?_; rintro e w9 ⟨v9, rfl, oo, b9⟩; have bz : Bel v2 w9 := ((Bel.refl v2).alloc _).drew.trans b9))
      clear HKP
      rw [HXY.out] at oo
      have HO := hid_ (oo.mono_ (show w.heap.size ≤ _ from Nat.le_trans f2B.out.size_ (((Bel.refl v2).alloc _).drew).size_))
      have HB := hid_ (f2B.out.trans bz)
      clear oo bz b9
      go_wp2
      go_ret
      exact ⟨_, rfl, HO.out, HB.out⟩
    · have hq : (a2 == 0) = false := by simp [hz]
      have HXY : Hid ([l.take k, [⟨a0, a1, a2, a3⟩], l.drop k].flatten = ro) := hid_ (by rw [← HRO.out]; unfold withA; rw [if_neg hz]; unfold toA; rw [show Acc.plc ⟨a0, a1, a2, a3⟩ = ⟨a0, a1⟩ from rfl, HK.out.1, HK.out.2]; simp)
      have HL9 : Hid ([l.take k, [⟨a0, a1, a2, a3⟩], l.drop k].flatten.length ≤ 100000) := hid_ (by have h3 := HL.out; simp; omega)
      have hz9 : v2.heap.size + 1 = (v2.alloc (.cells #[.string a0, .string a1, .int .i64 a2, .int .i64 a3] 37)).heap.size := by simp
      have HZ9 := hid_ hz9
      clear hz9
      clear hz
      go_wp2_with fail
      have hKP : ∀ W, Bel v2 W → (fun W => Bel v2 W ∧ W.cell? ⟨gO, 0, none⟩ = some (.string a0) ∧ W.cell? ⟨gO, 1, none⟩ = some (.string a1) ∧ W.cell? ⟨gO, 2, none⟩ = some (.int .i64 a2) ∧ W.cell? ⟨gO, 3, none⟩ = some (.int .i64 a3)) W := fun W b => ⟨b, b.cell_ (f2O.out.cell 0 rfl), b.cell_ (f2O.out.cell 1 rfl), b.cell_ (f2O.out.cell 2 rfl), b.cell_ (f2O.out.cell 3 rfl)⟩
      have HKP := hid_ hKP
      clear hKP
      go_region_held3 (fun W => Bel v2 W ∧ W.cell? ⟨gO, 0, none⟩ = some (.string a0) ∧ W.cell? ⟨gO, 1, none⟩ = some (.string a1) ∧ W.cell? ⟨gO, 2, none⟩ = some (.int .i64 a2) ∧ W.cell? ⟨gO, 3, none⟩ = some (.int .i64 a3)) ((refine HKP.out _ ?_; (repeat first | with_reducible exact Bel.refl _ | with_reducible exact bz | with_reducible apply Bel.drew | with_reducible apply Bel.alloc)))
        (first | (go_at_call 72; refine' Calls.mono (concatA_any _ 3 3 [(A, k, c), (some ⟨v2.heap.size, 0, none⟩, 1, 1), (A', n - k, c - k)] [l.take k, [⟨a0, a1, a2, a3⟩], l.drop k] _ (litThreeA _ _ A (some ⟨v2.heap.size, 0, none⟩) A' k 1 (n - k) c 1 (c - k) _ HZ9.out (Bel.refl _).drew) (rowsThreeA _ _ _ _ _ _ _ _ _ _ _ _ _ (HTO.out.bel (((Bel.refl v2).alloc _).alloc _).drew) ((Row.one (T := accT) (W := v2) ⟨a0, a1, a2, a3⟩ rfl rfl).bel ((Bel.refl _).alloc _).drew) (HROW.out.bel (((Bel.refl v2).alloc _).alloc _).drew)) HL9.out) ?_; rintro e w9 ⟨v9, rfl, oo, b9⟩; have bz : Bel v2 w9 := (((Bel.refl v2).alloc _).alloc _).drew.trans b9))
      clear HKP
      rw [HXY.out] at oo
      have HO := hid_ (oo.mono_ (show w.heap.size ≤ _ from Nat.le_trans f2B.out.size_ ((((Bel.refl v2).alloc _).alloc _).drew).size_))
      have HB := hid_ (f2B.out.trans bz)
      clear oo bz b9
      go_wp2
      go_ret
      exact ⟨_, rfl, HO.out, HB.out⟩
  · have hmn : (k + 1) ≤ n := HM.out
    obtain ⟨A', hcut, hrow⟩ := accS.cutFrom (P := Tryz.prog) .i64 A n c (k + 1) hmn HNC.out
    have HROW := hid_ (hrow _ _ f2A.out)
    clear hrow
    have ei : ((k + 1 : Nat) : Int) = (k : Int) + 1 := by omega
    simp only [ei] at hcut
    clear ei
    have i3 : (k : Int) + 1 ≤ (n : Int) := by omega
    by_cases hz : a2 = 0
    · have hq : (a2 == 0) = true := by simp [hz]
      have HXY : Hid ([l.take k, l.drop (k + 1)].flatten = ro) := hid_ (by rw [← HRO.out]; unfold withA; rw [if_pos hz]; unfold toA; rw [show Acc.plc ⟨a0, a1, a2, a3⟩ = ⟨a0, a1⟩ from rfl, HK.out.1, HK.out.2]; simp)
      have HL9 : Hid ([l.take k, l.drop (k + 1)].flatten.length ≤ 100000) := hid_ (by have h3 := HL.out; simp; omega)
      clear hz
      go_wp2_with fail
      have hKP : ∀ W, Bel v2 W → (fun W => Bel v2 W) W := fun W b => b
      have HKP := hid_ hKP
      clear hKP
      go_region_held3 (fun W => Bel v2 W) ((refine HKP.out _ ?_; (repeat first | with_reducible exact Bel.refl _ | with_reducible exact bz | with_reducible apply Bel.drew | with_reducible apply Bel.alloc)))
        (first | (go_at_call 72; refine' Calls.mono (concatA_any _ 2 2 [(A, k, c), (A', n - (k + 1), c - (k + 1))] [l.take k, l.drop (k + 1)] _ (litTwoA v2 _ A A' k (n - (k + 1)) c (c - (k + 1)) _ rfl (Bel.refl _).drew) (rowsTwoA _ _ _ _ _ _ _ _ _ (HTO.out.bel ((Bel.refl v2).alloc _).drew) (HROW.out.bel ((Bel.refl v2).alloc _).drew)) HL9.out) ?_; rintro e w9 ⟨v9, rfl, oo, b9⟩; have bz : Bel v2 w9 := ((Bel.refl v2).alloc _).drew.trans b9))
      clear HKP
      rw [HXY.out] at oo
      have HO := hid_ (oo.mono_ (show w.heap.size ≤ _ from Nat.le_trans f2B.out.size_ (((Bel.refl v2).alloc _).drew).size_))
      have HB := hid_ (f2B.out.trans bz)
      clear oo bz b9
      go_wp2
      go_ret
      exact ⟨_, rfl, HO.out, HB.out⟩
    · have hq : (a2 == 0) = false := by simp [hz]
      have HXY : Hid ([l.take k, [⟨a0, a1, a2, a3⟩], l.drop (k + 1)].flatten = ro) := hid_ (by rw [← HRO.out]; unfold withA; rw [if_neg hz]; unfold toA; rw [show Acc.plc ⟨a0, a1, a2, a3⟩ = ⟨a0, a1⟩ from rfl, HK.out.1, HK.out.2]; simp)
      have HL9 : Hid ([l.take k, [⟨a0, a1, a2, a3⟩], l.drop (k + 1)].flatten.length ≤ 100000) := hid_ (by have h3 := HL.out; simp; omega)
      have hz9 : v2.heap.size + 1 = (v2.alloc (.cells #[.string a0, .string a1, .int .i64 a2, .int .i64 a3] 37)).heap.size := by simp
      have HZ9 := hid_ hz9
      clear hz9
      clear hz
      go_wp2_with fail
      have hKP : ∀ W, Bel v2 W → (fun W => Bel v2 W ∧ W.cell? ⟨gO, 0, none⟩ = some (.string a0) ∧ W.cell? ⟨gO, 1, none⟩ = some (.string a1) ∧ W.cell? ⟨gO, 2, none⟩ = some (.int .i64 a2) ∧ W.cell? ⟨gO, 3, none⟩ = some (.int .i64 a3)) W := fun W b => ⟨b, b.cell_ (f2O.out.cell 0 rfl), b.cell_ (f2O.out.cell 1 rfl), b.cell_ (f2O.out.cell 2 rfl), b.cell_ (f2O.out.cell 3 rfl)⟩
      have HKP := hid_ hKP
      clear hKP
      go_region_held3 (fun W => Bel v2 W ∧ W.cell? ⟨gO, 0, none⟩ = some (.string a0) ∧ W.cell? ⟨gO, 1, none⟩ = some (.string a1) ∧ W.cell? ⟨gO, 2, none⟩ = some (.int .i64 a2) ∧ W.cell? ⟨gO, 3, none⟩ = some (.int .i64 a3)) ((refine HKP.out _ ?_; (repeat first | with_reducible exact Bel.refl _ | with_reducible exact bz | with_reducible apply Bel.drew | with_reducible apply Bel.alloc)))
        (first | (go_at_call 72; refine' Calls.mono (concatA_any _ 3 3 [(A, k, c), (some ⟨v2.heap.size, 0, none⟩, 1, 1), (A', n - (k + 1), c - (k + 1))] [l.take k, [⟨a0, a1, a2, a3⟩], l.drop (k + 1)] _ (litThreeA _ _ A (some ⟨v2.heap.size, 0, none⟩) A' k 1 (n - (k + 1)) c 1 (c - (k + 1)) _ HZ9.out (Bel.refl _).drew) (rowsThreeA _ _ _ _ _ _ _ _ _ _ _ _ _ (HTO.out.bel (((Bel.refl v2).alloc _).alloc _).drew) ((Row.one (T := accT) (W := v2) ⟨a0, a1, a2, a3⟩ rfl rfl).bel ((Bel.refl _).alloc _).drew) (HROW.out.bel (((Bel.refl v2).alloc _).alloc _).drew)) HL9.out) ?_; rintro e w9 ⟨v9, rfl, oo, b9⟩; have bz : Bel v2 w9 := (((Bel.refl v2).alloc _).alloc _).drew.trans b9))
      clear HKP
      rw [HXY.out] at oo
      have HO := hid_ (oo.mono_ (show w.heap.size ≤ _ from Nat.le_trans f2B.out.size_ ((((Bel.refl v2).alloc _).alloc _).drew).size_))
      have HB := hid_ (f2B.out.trans bz)
      clear oo bz b9
      go_wp2
      go_ret
      exact ⟨_, rfl, HO.out, HB.out⟩
end Go.Proofs.YtnpinolhhnpniaaGreat
set_option linter.unusedSimpArgs false
set_option linter.unusedVariables false
namespace Go.Proofs.YtnpinolhhnpniaaGreat
open Go.RowKit Go.Lib Go.Sort Go.Shelf
def mvB (p : Plc) (m : Int) : Bool := !decide (m < 1) && (!decide (p.who = worldS) && namedB p)
def mvE (p : Plc) (m er : Int) : Int := if mvB p m then er else 1
def mvO (l : List Acc) (p : Plc) (m er d : Int) : List Acc := if mvB p m = true ∧ er = 0 then withA l ⟨p.who, p.asset, (findA l p).balance, wrap64 ((findA l p).held + d)⟩ else []
theorem mv_0 {l : List Acc} {p : Plc} {m er d : Int} (h : mvB p m = false) : mvE p m er = 1 ∧ mvO l p m er d = [] := by simp [mvE, mvO, h]
theorem mv_1 {l : List Acc} {p : Plc} {m er d : Int} (h : mvB p m = true) (he : er ≠ 0) : mvE p m er = er ∧ mvO l p m er d = [] := by simp [mvE, mvO, h, he]
theorem mv_2 {l : List Acc} {p : Plc} {m d : Int} (h : mvB p m = true) : mvE p m 0 = 0 ∧ mvO l p m 0 d = withA l ⟨p.who, p.asset, (findA l p).balance, wrap64 ((findA l p).held + d)⟩ := by simp [mvE, mvO, h]
set_option maxRecDepth 10000 in
set_option maxHeartbeats 2000000 in
theorem move_any (A : Option Addr) (n c : Nat) (l : List Acc) (p0 p1 : ByteArray) (m : Int) (gc : Nat) (cap : Value) (eg : ∀ args w, (callFunc gc args).run Tryz.prog w = .ok (.enter gc args) w) (d er : Int) (w : World) (hA : Row accT w A n l) (hnc : n ≤ c) (hs : Srt l) (hn : n ≤ 99999) (h1 : p0.size ≤ 9223372036854775807) (h2 : p1.size ≤ 9223372036854775807)
    (hp : ∀ W, Bel w W → Calls Tryz.prog gc #[.agg (accC (findA l ⟨p0, p1⟩)).toArray, cap] W fun e w' => e = .returned (.int .i64 er) ∧ Bel W w') :
    Calls Tryz.prog 36 #[.slice A n c, .string p0, .string p1, .int .i64 m, .func (.func gc) #[] #[cap], .int .i64 d] w fun e w' => ∃ v, e = .returned (.tuple #[v, .int .i64 (mvE ⟨p0, p1⟩ m er)]) ∧ Own accT w' w.heap.size v (mvO l ⟨p0, p1⟩ m er d) ∧ Bel w w' := by
  have HA := hid_ hA
  have HS := hid_ hs
  have HNC := hid_ hnc
  have HN := hid_ hn
  have HP := hid_ hp
  have SZ := hid_ (And.intro h1 h2)
  obtain ⟨rm, hrm⟩ : ∃ r, mvE ⟨p0, p1⟩ m er = r := ⟨_, rfl⟩
  obtain ⟨ro, hro⟩ : ∃ r, mvO l ⟨p0, p1⟩ m er d = r := ⟨_, rfl⟩
  rw [hrm, hro]
  have HR := hid_ (And.intro hrm hro)
  clear hA hs hnc hn hp h1 h2 hrm hro
  go_enter Tryz.func36, Tryz.ntmps36
  by_cases c1 : m < 1
  · have HF : Hid (rm = 1 ∧ ro = []) := hid_ (by have h := mv_0 (l := l) (p := ⟨p0, p1⟩) (m := m) (er := er) (d := d) (by unfold mvB; rw [decide_eq_true c1]; rfl); exact ⟨by rw [← HR.out.1, h.1], by rw [← HR.out.2, h.2]⟩)
    clear HR
    go_wp2
    go_ret2
    exact ⟨.slice none 0 0, by rw [HF.out.1]; rfl, by rw [HF.out.2]; exact Own.nil_ _ _ _, Bel.refl _⟩
  by_cases c2 : p0 = worldS
  · have HF : Hid (rm = 1 ∧ ro = []) := hid_ (by have h := mv_0 (l := l) (p := ⟨p0, p1⟩) (m := m) (er := er) (d := d) (by unfold mvB; rw [decide_eq_false c1, decide_eq_true c2]; rfl); exact ⟨by rw [← HR.out.1, h.1], by rw [← HR.out.2, h.2]⟩)
    have q : (p0.toList == ([119, 111, 114, 108, 100] : List UInt8)) = true := by rw [worldEq]; exact decide_eq_true c2
    clear HR c2
    go_wp2
    go_ret2
    exact ⟨.slice none 0 0, by rw [HF.out.1]; rfl, by rw [HF.out.2]; exact Own.nil_ _ _ _, Bel.refl _⟩
  have HC2 := hid_ c2
  have q : (p0.toList == ([119, 111, 114, 108, 100] : List UInt8)) = false := by rw [worldEq]; exact decide_eq_false c2
  clear c2
  go_wp2_with fail
  refine (names_any p0 p1 w SZ.out.1 SZ.out.2).mono ?_
  rintro e w1 ⟨rfl, b⟩
  have B1 := hid_ b
  clear b
  obtain ⟨nb, hnb⟩ : ∃ b, namedB ⟨p0, p1⟩ = b := ⟨_, rfl⟩
  rw [hnb]
  have HNB := hid_ hnb
  clear hnb
  cases nb
  · have HF : Hid (rm = 1 ∧ ro = []) := hid_ (by have h := mv_0 (l := l) (p := ⟨p0, p1⟩) (m := m) (er := er) (d := d) (by unfold mvB; rw [HNB.out, Bool.and_false, Bool.and_false]); exact ⟨by rw [← HR.out.1, h.1], by rw [← HR.out.2, h.2]⟩)
    clear HR
    go_wp2
    go_ret2
    exact ⟨.slice none 0 0, by rw [HF.out.1]; rfl, by rw [HF.out.2]; exact Own.nil_ _ _ _, B1.out⟩
  have HOK : Hid (mvB ⟨p0, p1⟩ m = true) := hid_ (by unfold mvB; rw [HNB.out, decide_eq_false (show ¬ m < 1 by omega), decide_eq_false (show ¬ (Plc.mk p0 p1).who = worldS from HC2.out)]; rfl)
  go_wp2_with fail
  refine (find_any A n c l p0 p1 _ (HA.out.bel B1.out) HS.out).mono ?_
  rintro e w2 ⟨rfl, b⟩
  have B2 := hid_ (B1.out.trans b)
  clear b B1
  obtain ⟨⟨f0, f1, f2, f3⟩, hf⟩ : ∃ f, findA l ⟨p0, p1⟩ = f := ⟨_, rfl⟩
  rw [hf]
  have HPL : Hid (f0 = p0 ∧ f1 = p1) := hid_ (by
    have h := findA_plc l ⟨p0, p1⟩
    rw [hf] at h
    simp only [Acc.plc, Plc.mk.injEq] at h
    exact h)
  have HP2 : Hid (∀ W, Bel w W → Calls Tryz.prog gc #[.agg #[.string f0, .string f1, .int .i64 f2, .int .i64 f3], cap] W fun e w' => e = .returned (.int .i64 er) ∧ Bel W w') := hid_ (by
    intro W hW
    have h := HP.out W hW
    rw [hf] at h
    exact h)
  have HFI := hid_ hf
  simp only [accC]
  clear hf HP
  have K3 := hid_ (Bx.new w2 37 [.string f0, .string f1, .int .i64 f2, .int .i64 f3])
  have B3 := hid_ (B2.out.alloc (.cells #[.string f0, .string f1, .int .i64 f2, .int .i64 f3] 37))
  have HLE : Hid (w.heap.size ≤ w2.heap.size) := hid_ B2.out.size_
  go_wp2_with fail
  generalize w2.alloc (.cells #[.string f0, .string f1, .int .i64 f2, .int .i64 f3] 37) = w3 at K3 B3 ⊢
  generalize w2.heap.size = gB at K3 HLE ⊢
  clear B2
  refine (HP2.out w3 B3.out).mono ?_
  rintro e w4 ⟨rfl, b⟩
  have K4 := hid_ (K3.out.bel b)
  have B4 := hid_ (B3.out.trans b)
  clear b K3 B3 HP2
  by_cases c3 : er = 0
  · subst c3
    have KS := hid_ (K4.out.set 3 (.int .i64 (wrap64 (f3 + d))))
    have BS := hid_ (B4.out.setBx (g := gB) (j := 3) HLE.out (.int .i64 (wrap64 (f3 + d))))
    have z0 := K4.out.cell 0 rfl
    have z1 := K4.out.cell 1 rfl
    have z2 := K4.out.cell 2 rfl
    have z3 := K4.out.cell 3 rfl
    have zf := fun j => K4.out.frozen j
    go_wp2_with fail
    generalize w4.setCell ⟨gB, 3, none⟩ (.int .i64 (wrap64 (f3 + d))) = w5 at KS BS ⊢
    refine (with_any A n c l f0 f1 f2 (wrap64 (f3 + d)) w5 (HA.out.bel BS.out) HNC.out HS.out HN.out).mono ?_
    rintro e w6 ⟨v, rfl, o, b⟩
    have HO : Hid (Own accT w6 w.heap.size v ro) := hid_ (by
      have h := (mv_2 (l := l) (d := d) HOK.out).2
      rw [HFI.out] at h
      have e : ro = withA l ⟨f0, f1, f2, wrap64 (f3 + d)⟩ := by rw [← HR.out.2, h, HPL.out.1, HPL.out.2]
      rw [e]
      exact o.mono_ BS.out.size_)
    have HF : Hid (rm = 0) := hid_ (by rw [← HR.out.1]; exact (mv_2 (l := l) (d := d) HOK.out).1)
    have B6 := hid_ (BS.out.trans b)
    clear o b z0 z1 z2 z3 zf HR KS BS
    go_wp2
    go_ret2
    exact ⟨v, by rw [HF.out]; rfl, HO.out, B6.out⟩
  · have HF : Hid (rm = er ∧ ro = []) := hid_ (by have h := mv_1 (l := l) (d := d) HOK.out c3; exact ⟨by rw [← HR.out.1, h.1], by rw [← HR.out.2, h.2]⟩)
    have q2 : (er != 0) = true := by simp [c3]
    clear HR c3
    go_wp2
    go_ret2
    exact ⟨.slice none 0 0, by rw [HF.out.1]; rfl, by rw [HF.out.2]; exact Own.nil_ _ _ _, B4.out⟩
set_option maxRecDepth 10000 in
theorem free1_any (a0 a1 : ByteArray) (a2 a3 m : Int) (g : Nat) (w : World) (h : w.cell? ⟨g, 0, none⟩ = some (.int .i64 m)) :
    Calls Tryz.prog 37 #[.agg #[.string a0, .string a1, .int .i64 a2, .int .i64 a3], .pointer (some ⟨g, 0, none⟩)] w fun e w' => e = .returned (.int .i64 (if a3 < m then 112 else 0)) ∧ Bel w w' := by
  obtain ⟨r, hr⟩ : ∃ r, (if a3 < m then (112 : Int) else 0) = r := ⟨_, rfl⟩
  rw [hr]
  have HR := hid_ hr
  clear hr
  have h1 := cellOld h (.cells #[.string a0, .string a1, .int .i64 a2, .int .i64 a3] 37)
  have h2 := cellNew w #[.string a0, .string a1, .int .i64 a2, .int .i64 a3] 37 (0, 0) w.heap.size 2 rfl
  have h3 := cellNew w #[.string a0, .string a1, .int .i64 a2, .int .i64 a3] 37 (0, 0) w.heap.size 3 rfl
  have HB := hid_ ((Bel.refl w).alloc (.cells #[.string a0, .string a1, .int .i64 a2, .int .i64 a3] 37))
  clear h
  go_enter Tryz.func37, Tryz.ntmps37
  by_cases c1 : a3 < m
  · have HF : Hid (r = 112) := hid_ (by rw [← HR.out, if_pos c1])
    clear HR
    go_wp2
    go_ret
    exact ⟨by rw [HF.out]; rfl, HB.out⟩
  · have HF : Hid (r = 0) := hid_ (by rw [← HR.out, if_neg c1])
    clear HR
    go_wp2
    go_ret
    exact ⟨by rw [HF.out]; rfl, HB.out⟩
theorem egFree : ∀ args w, (callFunc 37 args).run Tryz.prog w = .ok (.enter 37 args) w := enters_of Tryz.func37 (by kernel_rfl) rfl
set_option maxRecDepth 10000 in
set_option maxHeartbeats 1000000 in
theorem free_any (A : Option Addr) (n c : Nat) (l : List Acc) (p0 p1 : ByteArray) (m : Int) (w : World) (hA : Row accT w A n l) (hnc : n ≤ c) (hs : Srt l) (hn : n ≤ 99999) (h1 : p0.size ≤ 9223372036854775807) (h2 : p1.size ≤ 9223372036854775807) :
    Calls Tryz.prog 19 #[.slice A n c, .string p0, .string p1, .int .i64 m] w fun e w' => ∃ v, e = .returned (.tuple #[v, .int .i64 (mvE ⟨p0, p1⟩ m (if (findA l ⟨p0, p1⟩).held < m then 112 else 0))]) ∧ Own accT w' w.heap.size v (mvO l ⟨p0, p1⟩ m (if (findA l ⟨p0, p1⟩).held < m then 112 else 0) (wrap64 (-m))) ∧ Bel w w' := by
  have HS := hid_ hs
  have SZ := hid_ (And.intro hnc (And.intro hn (And.intro h1 h2)))
  have K := hid_ (Bx.new w 2 [.int .i64 m])
  have HB : Hid (Bel w (w.alloc (.cells #[.int .i64 m] 2))) := hid_ ((Bel.refl w).alloc _)
  have FA := hid_ (hA.bel HB.out)
  have z := K.out.cell 0 rfl
  obtain ⟨er, her⟩ : ∃ er : Int, (if (findA l ⟨p0, p1⟩).held < m then 112 else 0) = er := ⟨_, rfl⟩
  rw [her]
  have HER := hid_ her
  clear hs hnc hn h1 h2 hA her
  go_enter Tryz.func19, Tryz.ntmps19
  have hmf : ∀ (fn : Fn) (first cap : Array Value) (w : World), (Instr.makeFunc fn first cap).run Tryz.prog w = .ok (.func fn first cap) w := fun _ _ _ _ => rfl
  go_wp2_with fail
  have HP : Hid (∀ W, Bel (w.alloc (.cells #[.int .i64 m] 2)) W → Calls Tryz.prog 37 #[.agg (accC (findA l ⟨p0, p1⟩)).toArray, .pointer (some ⟨w.heap.size, 0, none⟩)] W fun e w' => e = .returned (.int .i64 er) ∧ Bel W w') := hid_ (by
    intro W hW
    rw [← HER.out]
    exact free1_any _ _ _ _ m w.heap.size W (hW.cell_ (K.out.cell 0 rfl)))
  refine (move_any A n c l p0 p1 m 37 _ egFree (wrap64 (-m)) er _ FA.out SZ.out.1 HS.out SZ.out.2.1 SZ.out.2.2.1 SZ.out.2.2.2 HP.out).mono ?_
  rintro e w1 ⟨v, rfl, o, b⟩
  have HO := hid_ (o.mono_ HB.out.size_)
  have B1 := hid_ (HB.out.trans b)
  clear o b z hmf
  go_wp2
  go_ret2
  exact ⟨v, rfl, HO.out, B1.out⟩
end Go.Proofs.YtnpinolhhnpniaaGreat
