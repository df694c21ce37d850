/- slices.symMergeCmpFunc at orders, at whatever range. -/
import Derived.Test.YtnpcnahnkfdgpaaSo8b
import Derived.Test.YtnpcnahnkfdgpaaSo9
import Derived.Test.YtnpcnahnkfdgpaaShOrd
set_option linter.unusedSimpArgs false
set_option linter.unusedVariables false
set_option linter.unusedSectionVars false
namespace Go.Proofs.Ytnpcnahnkfdgpaa
open Go.RowKit Go.Lib Go.Sort Go.Shelf
variable {P : Program} {α : Type} [Inhabited α]
theorem len_one {l : List α} (h : l.length = 1) : ∃ x, l = [x] := List.length_eq_one_iff.1 h
theorem sym_all (k : Nat) (L : StP P k) (enc : α → List Value) (cf : α → α → Int) (hO : SWO (ltOf cf)) (gc : Nat) (cb : Array Value) (g off cap : Nat) (d0 : Array α) (w0 : World) (eg : ∀ args w, (callFunc gc args).run P w = .ok (.enter gc args) w) (hcmp : CmpLays P gc cb enc k cf g off d0.size w0) (R : RowK enc k w0 g off d0) (hsz : d0.size < 4611686018427387904) : ∀ n, SymC P k enc cf gc cb g off cap d0 w0 n
  | 0 => by
    intro a m b d W Pf X Y Sf hn hs S hd ha hm hb h1 h2 hX hY
    omega
  | n + 1 => by
    intro a m b d W Pf X Y Sf hn hs S hd ha hm hb h1 h2 hX hY
    have ih := sym_all k L enc cf hO gc cb g off cap d0 w0 eg hcmp R hsz n
    by_cases e1 : X.length = 1
    · obtain ⟨x, rfl⟩ := len_one e1
      exact sym_left k L enc cf hO gc cb g off cap a m b d0 d w0 W eg hcmp R hs S Pf x Y Sf hd ha (by simpa using hm) h2 hb hY (by omega)
    by_cases e2 : Y.length = 1
    · obtain ⟨y, rfl⟩ := len_one e2
      exact sym_right k L enc cf hO gc cb g off cap a m b d0 d w0 W eg hcmp R hs S Pf X y Sf hd ha (by omega) (by simpa using hb) hm hX (by omega)
    by_cases e3 : (a + b) / 2 < m
    · exact sym_gena k L enc cf hO gc cb g off cap a m b d0 d w0 W eg hcmp R hs S Pf X Y Sf hd ha hm hb (by omega) (by omega) hX hY (by omega) n hn ih e3
    · exact sym_genb k L enc cf hO gc cb g off cap a m b d0 d w0 W eg hcmp R hs S Pf X Y Sf hd ha hm hb (by omega) (by omega) hX hY (by omega) n hn ih e3
/-- slices.insertionSortCmpFunc, from a world of the sort's to a world of the sort's. -/
theorem insSort_any (cf : Ord → Ord → Int) (hO : SWO (ltOf cf)) (gc : Nat) (cb : Array Value) (g off cap a b : Nat) (d0 d : Array Ord) (w0 W : World) (eg : ∀ args w, (callFunc gc args).run Try.prog w = .ok (.enter gc args) w) (hcmp : ∀ w, CmpLays Try.prog gc cb ordC 6 cf g off d0.size w) (R : RowK ordC 6 w0 g off d0) (hs : d0.size = d.size) (S : SWK ordC 6 w0 g off d W) (Pf M Sf : List Ord) (hd : d.toList = Pf ++ (M ++ Sf)) (ha : a = Pf.length) (hb : b = a + M.length) (hsz : d.size < 4611686018427387904) :
    Calls Try.prog 64 #[.slice (some ⟨g, off, none⟩) d.size cap, .int .i64 a, .int .i64 b, .func (.func gc) #[] cb] W fun e w' => e = .returned (.tuple #[]) ∧ ∃ d', SWK ordC 6 w0 g off d' w' ∧ d'.size = d.size ∧ d'.toList = Pf ++ (st (ltOf cf) M ++ Sf) := by
  have hsd : d.size = Pf.length + (M.length + Sf.length) := by rw [← Array.length_toList, hd]; simp
  obtain ⟨h1, h2⟩ := insertion_list hO Pf M Sf d hd a b ha hb
  have hcon := AnyQ.insertionSortCmpFunc Try.ins 6 Try.isAgg27 Try.sizeOf27 ordC ordLen ordOne cf gc cb g off cap a b d W eg (by rw [← hs]; exact hcmp W) (S.holds R.hblk R.hH hs.symm) (S.lt R.hblk) (by omega) (by omega) hsz
  refine hcon.mono ?_
  rintro e w' ⟨rfl, n, os, rfl⟩
  exact ⟨rfl, _, S.on R.hblk n _ os h2, h2, h1⟩
end Go.Proofs.Ytnpcnahnkfdgpaa
