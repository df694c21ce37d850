/- alloc.all, laid (both). -/
import Derived.Test.YtboaidjhhlidkaaAl4
set_option linter.unusedSimpArgs false
set_option linter.unusedVariables false
namespace Go.Proofs.Ytboaidjhhlidkaa
open Go.RowKit
set_option maxHeartbeats 1000000 in
theorem all_any' (A : Option Addr) (n c : Nat) (ss : List SV) (xs : List (List Int)) (w : World) (h1 : Row svT w A n ss) (h2 : RowsAt w ss xs) (hs : xs.flatten.length ≤ 1000000) :
    Calls Try.prog 75 #[.slice A n c] w fun e w' => ∃ v, e = .returned v ∧ Own intT w' w.heap.size v xs.flatten ∧ Bel w w' := by
  go_enter Try.func75, Try.ntmps75
  go_wp2_with fail
  refine (concat_any A n c ss xs w h1 h2 hs).mono ?_
  rintro e w1 ⟨v, rfl, o, b⟩
  go_wp2
  go_ret
  exact ⟨_, rfl, o, b⟩
theorem sizeAl (W : World) (o : Obj) : (W.alloc o).heap.size = W.heap.size + 1 := by simp
theorem rowsAt3 {w : World} {a b c : SV} {x y z : List Int} (h1 : Row intT w a.1 a.2.1 x) (h2 : Row intT w b.1 b.2.1 y) (h3 : Row intT w c.1 c.2.1 z) : RowsAt w [a, b, c] [x, y, z] := by
  refine ⟨rfl, fun k s u hs hu => ?_⟩
  rcases k with _ | _ | _ | k
  · cases hs; cases hu; exact h1
  · cases hs; cases hu; exact h2
  · cases hs; cases hu; exact h3
  · simp at hs
theorem rowsAt2 {w : World} {a b : SV} {x y : List Int} (h1 : Row intT w a.1 a.2.1 x) (h2 : Row intT w b.1 b.2.1 y) : RowsAt w [a, b] [x, y] := by
  refine ⟨rfl, fun k s u hs hu => ?_⟩
  rcases k with _ | _ | k
  · cases hs; cases hu; exact h1
  · cases hs; cases hu; exact h2
  · simp at hs
set_option maxRecDepth 10000 in
set_option maxHeartbeats 2000000 in
theorem laid_any (A : Option Addr) (n c : Nat) (l : List Int) (page : Int) (w : World) (h1 : Row intT w A n l) (hc : n ≤ c) (hs : n ≤ 100000) :
    Calls Try.prog 64 #[.slice A n c, .int .i64 page] w fun e w' => ∃ v, e = .returned v ∧ Own intT w' w.heap.size v (laidP l page) ∧ Bel w w' := by
  have hmf : ∀ (fn : Fn) (first cap : Array Value) (w : World), (Instr.makeFunc fn first cap).run Try.prog w = .ok (.func fn first cap) w := fun _ _ _ _ => rfl
  have hle := atP_le l page
  rw [h1.1] at hle
  go_enter Try.func64, Try.ntmps64
  go_wp2_with fail
  have hb : Bel w (w.alloc (.cells #[.int .i64 page] 3)) := (Bel.refl w).alloc _
  have hcell : (w.alloc (.cells #[.int .i64 page] 3)).cell? ⟨w.heap.size, 0, none⟩ = some (.int .i64 page) := cellNew w _ _ _ _ _ rfl
  refine (indexLaid_any A n c w.heap.size l page _ (h1.bel hb) hcell).mono ?_
  rintro e wb ⟨rfl, hwb⟩
  rw [hwb] at hb hcell
  have hsz : w.heap.size < wb.heap.size := by rw [← hwb]; simp
  clear hwb
  obtain ⟨A', hcut, hrow⟩ := intS.cutFrom .i64 A n c (atP l page) hle hc
  have hcut2 := fun W => intS.cutTo .i64 A n c (atP l page) (by omega) W
  have hrb := h1.bel hb
  have ra := hrow _ _ hrb
  have rt := hrb.take_ hle
  have HL : Hid (laidP l page = l.take (atP l page) ++ [page] ++ l.drop (atP l page)) := rfl
  clear hrow h1
  by_cases hp : atP l page < l.length
  · have hpl := placeI_pos hp
    rw [hpl]
    have hneg : ¬ ((atP l page : Nat) : Int) < 0 := by omega
    clear hpl hp
    generalize atP l page = p at *
    have r1 := Row.lit (T := intT) wb [page] (0, 0) (by simp)
    have r3 := Row.lit (T := svT) (wb.alloc (.cells #[.int .i64 page] 3)) [(A, p, c), (some ⟨wb.heap.size, 0, none⟩, 1, 1), (A', n - p, c - p)] (0, 0) (by simp)
    rw [sizeAl] at r3
    have b1 : Bel wb (wb.alloc (.cells #[.int .i64 page] 3)) := (Bel.refl wb).alloc _
    have b2 := b1.alloc (.cells (List.flatMap svT.enc [(A, p, c), (some ⟨wb.heap.size, 0, none⟩, 1, 1), (A', n - p, c - p)]).toArray svT.e)
    have RS := rowsAt3 (a := (A, p, c)) (b := (some ⟨wb.heap.size, 0, none⟩, 1, 1)) (c := (A', n - p, c - p)) (rt.bel b2.drew) (r1.bel ((Bel.refl _).alloc (.cells (List.flatMap svT.enc [(A, p, c), (some ⟨wb.heap.size, 0, none⟩, 1, 1), (A', n - p, c - p)]).toArray svT.e)).drew) (ra.bel b2.drew)
    have hcell2 := b2.drew.cell_ hcell
    have R3 := hid_ (r3.bel (Bel.refl _).drew)
    have RS' := hid_ RS
    have B2 := hid_ (hb.trans b2.drew)
    have hfl : [l.take p, [page], l.drop p].flatten = laidP l page := by rw [HL.out]; simp
    have hln : [l.take p, [page], l.drop p].flatten.length ≤ 1000000 := by rw [hfl, laidP_len, hrb.1]; omega
    have HF := hid_ hfl
    have HLN := hid_ hln
    clear r1 r3 b1 b2 RS hfl hln HL ra rt hrb
    go_wp2_with fail
    go_region_held3 (fun W => W.cell? ⟨w.heap.size, 0, none⟩ = some (.int .i64 page)) (first | exact hcell | exact b5.cell_ hcell2 | (repeat first | exact hcell | apply cellOld)) (first | (go_at_call 75; refine' (all_any' (some ⟨wb.heap.size + 1, 0, none⟩) 3 3 [(A, p, c), (some ⟨wb.heap.size, 0, none⟩, 1, 1), (A', n - p, c - p)] [l.take p, [page], l.drop p] _ R3.out RS'.out HLN.out).mono ?_; rintro e w5 ⟨v5, rfl, o5, b5⟩))
    have hsz5 : w.heap.size ≤ (((wb.alloc (.cells #[.int .i64 page] 3)).alloc (.cells (List.flatMap svT.enc [(A, p, c), (some ⟨wb.heap.size, 0, none⟩, 1, 1), (A', n - p, c - p)]).toArray svT.e)).drew).heap.size := B2.out.size_
    rw [HF.out] at o5
    have o6 := o5.mono_ hsz5
    have b6 : Bel w w5 := B2.out.trans b5
    clear o5 hsz5 b5 R3 RS' B2 hcell hcell2
    go_wp2
    go_ret
    exact ⟨_, rfl, o6, b6⟩
  · have hpl := placeI_neg hp
    rw [hpl]
    have hpn : atP l page = n := by have := hrb.1; omega
    rw [hpn] at hcut hcut2 HL ra rt hle
    rw [Nat.sub_self] at ra
    simp only [Nat.sub_self] at hcut
    clear hpl hp hpn
    have r1 := Row.lit (T := intT) wb [page] (0, 0) (by simp)
    have r3 := Row.lit (T := svT) (wb.alloc (.cells #[.int .i64 page] 3)) [(A, n, c), (some ⟨wb.heap.size, 0, none⟩, 1, 1), (A', 0, c - n)] (0, 0) (by simp)
    rw [sizeAl] at r3
    have b1 : Bel wb (wb.alloc (.cells #[.int .i64 page] 3)) := (Bel.refl wb).alloc _
    have b2 := b1.alloc (.cells (List.flatMap svT.enc [(A, n, c), (some ⟨wb.heap.size, 0, none⟩, 1, 1), (A', 0, c - n)]).toArray svT.e)
    have RS := rowsAt3 (a := (A, n, c)) (b := (some ⟨wb.heap.size, 0, none⟩, 1, 1)) (c := (A', 0, c - n)) (rt.bel b2.drew) (r1.bel ((Bel.refl _).alloc (.cells (List.flatMap svT.enc [(A, n, c), (some ⟨wb.heap.size, 0, none⟩, 1, 1), (A', 0, c - n)]).toArray svT.e)).drew) (ra.bel b2.drew)
    have hcell2 := b2.drew.cell_ hcell
    have R3 := hid_ (r3.bel (Bel.refl _).drew)
    have RS' := hid_ RS
    have B2 := hid_ (hb.trans b2.drew)
    have hfl : [l.take n, [page], l.drop n].flatten = laidP l page := by rw [HL.out]; simp
    have hln : [l.take n, [page], l.drop n].flatten.length ≤ 1000000 := by rw [hfl, laidP_len, hrb.1]; omega
    have HF := hid_ hfl
    have HLN := hid_ hln
    clear r1 r3 b1 b2 RS hfl hln HL ra rt hrb
    go_wp2_with fail
    go_region_held3 (fun W => W.cell? ⟨w.heap.size, 0, none⟩ = some (.int .i64 page)) (first | exact hcell | exact b5.cell_ hcell2 | (repeat first | exact hcell | apply cellOld)) (first | (go_at_call 75; refine' (all_any' (some ⟨wb.heap.size + 1, 0, none⟩) 3 3 [(A, n, c), (some ⟨wb.heap.size, 0, none⟩, 1, 1), (A', 0, c - n)] [l.take n, [page], l.drop n] _ R3.out RS'.out HLN.out).mono ?_; rintro e w5 ⟨v5, rfl, o5, b5⟩))
    have hsz5 : w.heap.size ≤ (((wb.alloc (.cells #[.int .i64 page] 3)).alloc (.cells (List.flatMap svT.enc [(A, n, c), (some ⟨wb.heap.size, 0, none⟩, 1, 1), (A', 0, c - n)]).toArray svT.e)).drew).heap.size := B2.out.size_
    rw [HF.out] at o5
    have o6 := o5.mono_ hsz5
    have b6 : Bel w w5 := B2.out.trans b5
    clear o5 hsz5 b5 R3 RS' B2 hcell hcell2
    go_wp2
    go_ret
    exact ⟨_, rfl, o6, b6⟩
end Go.Proofs.Ytboaidjhhlidkaa
