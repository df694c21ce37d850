/- The document's answer on pages: guess: the walks. -/
import Derived.Test.YtcfabnkkkpcelaaR5a
import Derived.Test.YtcfabnkkkpcelaaPgD2
import Derived.Test.YtcfabnkkkpcelaaPgD6
import Derived.Test.YtcfabnkkkpcelaaR5b
set_option linter.unusedSimpArgs false
set_option linter.unusedVariables false
namespace Go.Proofs.Ytcfabnkkkpcelaa
open Go.RowKit Go.Lib
def gAtP (b : List Int) : Nat → Nat
  | 0 => 2
  | j + 1 => gAtP b j + 2 + (pieceP b (gAtP b j)).size + (pieceP b (gAtP b j + 1 + (pieceP b (gAtP b j)).size)).size
def gPair (b : List Int) (j : Nat) : PairV := ⟨pieceP b (gAtP b j), pieceP b (gAtP b j + 1 + (pieceP b (gAtP b j)).size)⟩
def gAtB (b : List Int) : Nat → Nat
  | 0 => 4
  | j + 1 => gAtB b j + 3 + (pieceP b (gAtB b j)).size
def gKey (b : List Int) (j : Nat) : ByteArray := pieceP b (gAtB b j)
def gKid (b : List Int) (j : Nat) : Int := getN b (gAtB b j + 1 + (pieceP b (gAtB b j)).size) 2
def gCnt (b : List Int) (k : Nat) : Nat := min (getN b 0 2).toNat k
def gLeaf (b : List Int) : Pg := { pgZ with kind := 1, pairs := (List.range (gCnt b 7)).map (gPair b) }
def gBr (b : List Int) : Pg := { pgZ with kind := 2, keys := (List.range (gCnt b 13)).map (gKey b), kids := getN b 2 2 :: (List.range (gCnt b 13)).map (gKid b) }
def gFr (b : List Int) : Pg := { pgZ with kind := 3, pages := (List.range (gCnt b 201)).map (fun j => getN b (2 + 2 * j) 2), next := getN b (2 + 2 * gCnt b 201) 2 }
def gSu (b : List Int) : Pg := { pgZ with kind := 4, root := getN b 0 2, depth := getN b 2 2, count := getN b 4 4, high := getN b 8 2, next := getN b 10 2 }
def guessP (k : Int) (b : List Int) : Pg := if k = 1 then gLeaf b else if k = 2 then gBr b else if k = 3 then gFr b else if k = 4 then gSu b else { pgZ with kind := k }
theorem gAtP_le (b : List Int) (hb : ∀ x ∈ b, 0 ≤ x ∧ x < 256) : ∀ j, gAtP b j ≤ 2 + 512 * j
  | 0 => by simp [gAtP]
  | j + 1 => by
    have := gAtP_le b hb j
    have h1 := pieceP_size b hb (gAtP b j)
    have h2 := pieceP_size b hb (gAtP b j + 1 + (pieceP b (gAtP b j)).size)
    rw [gAtP]
    omega
theorem gAtB_le (b : List Int) (hb : ∀ x ∈ b, 0 ≤ x ∧ x < 256) : ∀ j, gAtB b j ≤ 4 + 512 * j
  | 0 => by simp [gAtB]
  | j + 1 => by
    have := gAtB_le b hb j
    have h1 := pieceP_size b hb (gAtB b j)
    rw [gAtB]
    omega
/-! ### what was written is read -/
theorem gd_at (p Y : List Int) (x : Int) : (p ++ x :: Y).getD p.length 0 = x := by
  rw [List.getD_eq_getElem?_getD, List.getElem?_append_right (Nat.le_refl _), Nat.sub_self]
  rfl
theorem gd_at1 (p Y : List Int) (x y : Int) : (p ++ x :: y :: Y).getD (p.length + 1) 0 = y := by
  rw [List.getD_eq_getElem?_getD, List.getElem?_append_right (by omega), show p.length + 1 - p.length = 1 by omega]
  rfl
theorem get_tw (p Y : List Int) {n : Int} (h : 0 ≤ n ∧ n < 65536) {at_ : Nat} (ha : at_ = p.length) : getN (p ++ (tw n ++ Y)) at_ 2 = n := by
  subst ha
  simp only [getN, tw, List.cons_append, List.nil_append, Nat.add_zero, gd_at, gd_at1]
  omega
theorem gd_at2 (p Y : List Int) (x y z : Int) : (p ++ x :: y :: z :: Y).getD (p.length + 2) 0 = z := by
  rw [List.getD_eq_getElem?_getD, List.getElem?_append_right (by omega), show p.length + 2 - p.length = 2 by omega]
  rfl
theorem gd_at3 (p Y : List Int) (x y z u : Int) : (p ++ x :: y :: z :: u :: Y).getD (p.length + 3) 0 = u := by
  rw [List.getD_eq_getElem?_getD, List.getElem?_append_right (by omega), show p.length + 3 - p.length = 3 by omega]
  rfl
theorem get_four (p Y : List Int) {n : Int} (h : 0 ≤ n ∧ n < 4294967296) {at_ : Nat} (ha : at_ = p.length) : getN (p ++ (tw (n / 65536) ++ (tw (n % 65536) ++ Y))) at_ 4 = n := by
  subst ha
  simp only [getN, tw, List.cons_append, List.nil_append, Nat.add_zero, gd_at, gd_at1, gd_at2, gd_at3]
  omega
theorem piece_txt (p Y : List Int) (s : ByteArray) {at_ : Nat} (ha : at_ = p.length) : pieceP (p ++ (txt s ++ Y)) at_ = s := by
  subst ha
  have h0 : (p ++ (txt s ++ Y)).getD p.length 0 = (s.size : Int) := by rw [txt, List.cons_append, gd_at]
  have hl : (p ++ (txt s ++ Y)).length = p.length + (s.size + 1) + Y.length := by rw [List.length_append, List.length_append, txt_len]; omega
  rw [pieceP, h0, hl, Int.toNat_natCast, if_pos (by omega)]
  have hd : (p ++ (txt s ++ Y)).drop (p.length + 1) = byL s ++ Y := by
    rw [List.drop_append, List.drop_eq_nil_of_le (by omega), List.nil_append, show p.length + 1 - p.length = 1 by omega, txt, List.cons_append, List.drop_one, List.tail_cons]
  rw [hd, List.take_left' (byL_len s), str_byL]
theorem split_k {α : Type} (l : List α) (j : Nat) {x : α} (h : l[j]? = some x) : l = l.take j ++ x :: l.drop (j + 1) := by
  have hj := (List.getElem?_eq_some_iff.1 h).1
  conv => lhs; rw [← List.take_append_drop j l]
  rw [List.drop_eq_getElem_cons hj, (List.getElem?_eq_some_iff.1 h).2]
theorem leaf_at {l : List PairV} {X : List Int} {h : List Int} (hh : h.length = 2) : ∀ j, j ≤ l.length → gAtP (h ++ (l.flatMap pairB ++ X)) j = 2 + ((l.take j).flatMap pairB).length ∧ ∀ i x, i < j → l[i]? = some x → gPair (h ++ (l.flatMap pairB ++ X)) i = x
  | 0, _ => ⟨by simp [gAtP], fun i x hi => by omega⟩
  | j + 1, hj => by
    obtain ⟨ih1, ih2⟩ := leaf_at (l := l) (X := X) hh j (by omega)
    obtain ⟨x, hx⟩ : ∃ x, l[j]? = some x := ⟨_, List.getElem?_eq_getElem (by omega)⟩
    have hs : h ++ (l.flatMap pairB ++ X) = (h ++ (l.take j).flatMap pairB) ++ (txt x.key ++ (txt x.val ++ ((l.drop (j + 1)).flatMap pairB ++ X))) := by
      conv => lhs; rw [split_k l j hx]
      simp only [List.flatMap_append, List.flatMap_cons, pairB, List.append_assoc]
    obtain ⟨b, hb⟩ : ∃ b, h ++ (l.flatMap pairB ++ X) = b := ⟨_, rfl⟩
    rw [hb] at ih1 ih2 hs ⊢
    have e1 : pieceP b (gAtP b j) = x.key := by
      rw [hs]
      refine piece_txt _ _ _ ?_
      rw [← hs, ih1, List.length_append, hh]
    have e2 : pieceP b (gAtP b j + 1 + x.key.size) = x.val := by
      have hs2 : b = ((h ++ (l.take j).flatMap pairB) ++ txt x.key) ++ (txt x.val ++ ((l.drop (j + 1)).flatMap pairB ++ X)) := by rw [hs]; simp only [List.append_assoc]
      rw [hs2]
      refine piece_txt _ _ _ ?_
      rw [← hs2, ih1, List.length_append, List.length_append, hh, txt_len]
      omega
    refine ⟨?_, fun i y hi hy => ?_⟩
    · rw [gAtP, e1, e2, ih1, flat_snoc pairB l j hx, List.length_append, pairB_len]
      omega
    · rcases Nat.lt_or_ge i j with h' | h'
      · exact ih2 i y h' hy
      · have : i = j := by omega
        subst this
        rw [hx] at hy
        injection hy with hy
        subst hy
        rw [gPair, e1, e2]
theorem br_at {l : List (ByteArray × Int)} {X : List Int} {h : List Int} (hh : h.length = 4) (hl : ∀ x ∈ l, 0 ≤ x.2 ∧ x.2 < 65536) : ∀ j, j ≤ l.length → gAtB (h ++ (l.flatMap kidB ++ X)) j = 4 + ((l.take j).flatMap kidB).length ∧ ∀ i x, i < j → l[i]? = some x → gKey (h ++ (l.flatMap kidB ++ X)) i = x.1 ∧ gKid (h ++ (l.flatMap kidB ++ X)) i = x.2
  | 0, _ => ⟨by simp [gAtB], fun i x hi => by omega⟩
  | j + 1, hj => by
    obtain ⟨ih1, ih2⟩ := br_at (l := l) (X := X) hh hl j (by omega)
    obtain ⟨x, hx⟩ : ∃ x, l[j]? = some x := ⟨_, List.getElem?_eq_getElem (by omega)⟩
    have hxr := hl x (List.mem_of_getElem? hx)
    have hs : h ++ (l.flatMap kidB ++ X) = (h ++ (l.take j).flatMap kidB) ++ (txt x.1 ++ (tw x.2 ++ ((l.drop (j + 1)).flatMap kidB ++ X))) := by
      conv => lhs; rw [split_k l j hx]
      simp only [List.flatMap_append, List.flatMap_cons, kidB, List.append_assoc]
    obtain ⟨b, hb⟩ : ∃ b, h ++ (l.flatMap kidB ++ X) = b := ⟨_, rfl⟩
    rw [hb] at ih1 ih2 hs ⊢
    have e1 : pieceP b (gAtB b j) = x.1 := by
      rw [hs]
      refine piece_txt _ _ _ ?_
      rw [← hs, ih1, List.length_append, hh]
    have e2 : getN b (gAtB b j + 1 + x.1.size) 2 = x.2 := by
      have hs2 : b = ((h ++ (l.take j).flatMap kidB) ++ txt x.1) ++ (tw x.2 ++ ((l.drop (j + 1)).flatMap kidB ++ X)) := by rw [hs]; simp only [List.append_assoc]
      rw [hs2]
      refine get_tw _ _ hxr ?_
      rw [← hs2, ih1, List.length_append, List.length_append, hh, txt_len]
      omega
    refine ⟨?_, fun i y hi hy => ?_⟩
    · rw [gAtB, e1, ih1, flat_snoc kidB l j hx, List.length_append, kidB_len]
      omega
    · rcases Nat.lt_or_ge i j with h' | h'
      · exact ih2 i y h' hy
      · have : i = j := by omega
        subst this
        rw [hx] at hy
        injection hy with hy
        subst hy
        exact ⟨by rw [gKey, e1], by rw [gKid, e1, e2]⟩
theorem map_range {α : Type} (l : List α) (f : Nat → α) (h : ∀ i x, l[i]? = some x → f i = x) : (List.range l.length).map f = l := by
  apply List.ext_getElem
  · simp
  · intro i h1 h2
    rw [List.getElem_map, List.getElem_range]
    exact h i _ (List.getElem?_eq_getElem h2)
/-- A page's text is read as it. -/
theorem guess_body {P : Pg} (h : okP P = true) (X : List Int) : guessP P.kind (bodyP P ++ X) = { P with epoch := 0 } := by
  rcases okP_cases h with ⟨e, h⟩ | ⟨e, h⟩ | ⟨e, h⟩ | ⟨e, h⟩
  · obtain ⟨⟨h0, h1, _⟩, e1, e2, e3, e4, e5, e6, e7, e8, e9⟩ := ok1_facts h
    rw [e, guessP, if_pos rfl, body_1 e, body1, List.append_assoc]
    have hc : gCnt (tw (P.pairs.length : Int) ++ (P.pairs.flatMap pairB ++ X)) 7 = P.pairs.length := by
      have : getN (tw (P.pairs.length : Int) ++ (P.pairs.flatMap pairB ++ X)) 0 2 = (P.pairs.length : Int) := get_tw [] _ (by omega) rfl
      rw [gCnt, this]
      omega
    rw [gLeaf, hc, map_range P.pairs _ (fun i x hx => (leaf_at (tw_len _) P.pairs.length (Nat.le_refl _)).2 i x (List.getElem?_eq_some_iff.1 hx).1 hx)]
    cases P
    simp only at e e1 e2 e3 e4 e5 e6 e7 e8 e9
    subst e e1 e2 e3 e4 e5 e6 e7 e8 e9
    rfl
  · obtain ⟨⟨h0, h1, h2, h3, h4⟩, e1, e2, e3, e4, e5, e6, e7, e8⟩ := ok2_facts h
    rw [e, guessP, if_neg (by decide), if_pos rfl, body_2 e, body2, List.append_assoc, List.append_assoc]
    obtain ⟨d, ds, hk⟩ : ∃ d ds, P.kids = d :: ds := by
      cases hq : P.kids with
      | nil => rw [hq] at h2; simp at h2
      | cons d ds => exact ⟨d, ds, rfl⟩
    have hds : ds.length = P.keys.length := by rw [hk] at h2; simpa using h2
    have hd := h4 d (by rw [hk]; exact List.mem_cons_self ..)
    rw [hk]
    simp only [List.getD_cons_zero, List.tail_cons]
    have hzl : (P.keys.zip ds).length = P.keys.length := by rw [List.length_zip]; omega
    have hb : tw (P.keys.length : Int) ++ (tw d ++ ((P.keys.zip ds).flatMap kidB ++ X)) = (tw (P.keys.length : Int) ++ tw d) ++ ((P.keys.zip ds).flatMap kidB ++ X) := by rw [List.append_assoc]
    have hbr := fun j hj => br_at (l := P.keys.zip ds) (X := X) (h := tw (P.keys.length : Int) ++ tw d) (by simp [tw_len]) (fun x hx => by
      have := h4 x.2 (by rw [hk]; exact List.mem_cons_of_mem _ (List.of_mem_zip hx).2)
      omega) j hj
    rw [← hb] at hbr
    have hc : gCnt (tw (P.keys.length : Int) ++ (tw d ++ ((P.keys.zip ds).flatMap kidB ++ X))) 13 = P.keys.length := by
      have : getN (tw (P.keys.length : Int) ++ (tw d ++ ((P.keys.zip ds).flatMap kidB ++ X))) 0 2 = (P.keys.length : Int) := get_tw [] _ (by omega) rfl
      rw [gCnt, this]
      omega
    have hk0 : getN (tw (P.keys.length : Int) ++ (tw d ++ ((P.keys.zip ds).flatMap kidB ++ X))) 2 2 = d := get_tw _ _ (by omega) (tw_len _).symm
    have hat := (hbr P.keys.length (by omega)).2
    have m1 : (List.range P.keys.length).map (gKey (tw (P.keys.length : Int) ++ (tw d ++ ((P.keys.zip ds).flatMap kidB ++ X)))) = P.keys := map_range P.keys _ (fun i x hx => by
      have hi := (List.getElem?_eq_some_iff.1 hx).1
      exact (hat i (x, ds[i]) hi (by rw [List.getElem?_zip_eq_some]; exact ⟨hx, List.getElem?_eq_getElem (by omega)⟩)).1)
    have m2 : (List.range P.keys.length).map (gKid (tw (P.keys.length : Int) ++ (tw d ++ ((P.keys.zip ds).flatMap kidB ++ X)))) = ds := by
      rw [← hds]
      refine map_range ds _ (fun i x hx => ?_)
      have hi := (List.getElem?_eq_some_iff.1 hx).1
      rw [hds]
      exact (hat i (P.keys[i], x) (by omega) (by rw [List.getElem?_zip_eq_some]; exact ⟨List.getElem?_eq_getElem (by omega), hx⟩)).2
    rw [gBr, hc, hk0, m1, m2, ← hk]
    cases P
    simp only at e e1 e2 e3 e4 e5 e6 e7 e8
    subst e e1 e2 e3 e4 e5 e6 e7 e8
    rfl
  · obtain ⟨⟨h1, h2, h3, h4⟩, e1, e2, e3, e4, e5, e6, e7, e8⟩ := ok3_facts h
    rw [e, guessP, if_neg (by decide), if_neg (by decide), if_pos rfl, body_3 e, body3, List.append_assoc, List.append_assoc]
    have hc : gCnt (tw (P.pages.length : Int) ++ (P.pages.flatMap tw ++ (tw P.next ++ X))) 201 = P.pages.length := by
      have : getN (tw (P.pages.length : Int) ++ (P.pages.flatMap tw ++ (tw P.next ++ X))) 0 2 = (P.pages.length : Int) := get_tw [] _ (by omega) rfl
      rw [gCnt, this]
      omega
    have hp : (List.range P.pages.length).map (fun j => getN (tw (P.pages.length : Int) ++ (P.pages.flatMap tw ++ (tw P.next ++ X))) (2 + 2 * j) 2) = P.pages := map_range P.pages _ (fun i x hx => by
      have hi := (List.getElem?_eq_some_iff.1 hx).1
      have hxr := h2 x (List.mem_of_getElem? hx)
      have hs : tw (P.pages.length : Int) ++ (P.pages.flatMap tw ++ (tw P.next ++ X)) = (tw (P.pages.length : Int) ++ (P.pages.take i).flatMap tw) ++ (tw x ++ ((P.pages.drop (i + 1)).flatMap tw ++ (tw P.next ++ X))) := by
        conv => lhs; rw [split_k P.pages i hx]
        simp only [List.flatMap_append, List.flatMap_cons, List.append_assoc, List.length_append, List.length_cons]
        congr 3
        have := congrArg List.length (split_k P.pages i hx)
        simp only [List.length_append, List.length_cons] at this
        rw [this]
      rw [hs]
      refine get_tw _ _ (by omega) ?_
      rw [List.length_append, tw_len, tw_le, List.length_take]
      omega)
    have hn : getN (tw (P.pages.length : Int) ++ (P.pages.flatMap tw ++ (tw P.next ++ X))) (2 + 2 * P.pages.length) 2 = P.next := by
      rw [← List.append_assoc]
      refine get_tw _ _ (by omega) ?_
      rw [List.length_append, tw_len, tw_le]
      omega
    rw [gFr, hc, hp, hn]
    cases P
    simp only at e e1 e2 e3 e4 e5 e6 e7 e8
    subst e e1 e2 e3 e4 e5 e6 e7 e8
    rfl
  · obtain ⟨⟨a1, a2, a3, a4, a5, a6, a7, a8, a9, a10⟩, e1, e2, e3, e4⟩ := ok4_facts h
    rw [e, guessP, if_neg (by decide), if_neg (by decide), if_neg (by decide), if_pos rfl, body_4 e, body4]
    simp only [List.append_assoc]
    obtain ⟨Y1, hY1⟩ : ∃ Y, tw P.high ++ (tw P.next ++ X) = Y := ⟨_, rfl⟩
    have g1 : getN (tw P.root ++ (tw P.depth ++ (tw (P.count / 65536) ++ (tw (P.count % 65536) ++ (tw P.high ++ (tw P.next ++ X)))))) 0 2 = P.root := get_tw [] _ (by omega) rfl
    have g2 : getN (tw P.root ++ (tw P.depth ++ (tw (P.count / 65536) ++ (tw (P.count % 65536) ++ (tw P.high ++ (tw P.next ++ X)))))) 2 2 = P.depth := get_tw (tw P.root) _ (by omega) rfl
    have g3 : getN (tw P.root ++ (tw P.depth ++ (tw (P.count / 65536) ++ (tw (P.count % 65536) ++ (tw P.high ++ (tw P.next ++ X)))))) 4 4 = P.count := by
      rw [← List.append_assoc (tw P.root)]
      exact get_four (tw P.root ++ tw P.depth) _ (by omega) rfl
    have g4 : getN (tw P.root ++ (tw P.depth ++ (tw (P.count / 65536) ++ (tw (P.count % 65536) ++ (tw P.high ++ (tw P.next ++ X)))))) 8 2 = P.high := by
      rw [← List.append_assoc (tw P.root), ← List.append_assoc (tw P.root ++ tw P.depth), ← List.append_assoc (tw P.root ++ tw P.depth ++ tw (P.count / 65536))]
      exact get_tw (tw P.root ++ tw P.depth ++ tw (P.count / 65536) ++ tw (P.count % 65536)) _ (by omega) rfl
    have g5 : getN (tw P.root ++ (tw P.depth ++ (tw (P.count / 65536) ++ (tw (P.count % 65536) ++ (tw P.high ++ (tw P.next ++ X)))))) 10 2 = P.next := by
      rw [← List.append_assoc (tw P.root), ← List.append_assoc (tw P.root ++ tw P.depth), ← List.append_assoc (tw P.root ++ tw P.depth ++ tw (P.count / 65536)), ← List.append_assoc (tw P.root ++ tw P.depth ++ tw (P.count / 65536) ++ tw (P.count % 65536))]
      exact get_tw (tw P.root ++ tw P.depth ++ tw (P.count / 65536) ++ tw (P.count % 65536) ++ tw P.high) _ (by omega) rfl
    rw [gSu, g1, g2, g3, g4, g5]
    cases P
    simp only at e e1 e2 e3 e4
    subst e e1 e2 e3 e4
    rfl
end Go.Proofs.Ytcfabnkkkpcelaa
set_option linter.unusedSimpArgs false
set_option linter.unusedVariables false
namespace Go.Proofs.Ytcfabnkkkpcelaa
open Go.RowKit Go.Lib
section
variable {P : Program} {ops : Array Oper} {rest : List Oper} {o : Oper} {a : Act} {Q : Exit → Act → World → Prop} {α : Type} {T : Ty α}
theorem wpAppB {t : TypeId} {bytes : Nat} {z : Value} (S : SlT P t T bytes z) {base : Nat} {W : World} (hgd : o.guard = none) (s x : Operand)
    (ho : o.op = .call { callee := .builtin .append, args := #[s, x], argTypes := #[t, t] })
    (v : Value) (xs ys : List α) (A : Option Addr) (m c : Nat) (hs : a.eval s = v) (hx : a.eval x = .slice A m c)
    (HO : Own T W base v xs) (HR : Row T W A m ys) (HB : base ≤ W.heap.size) (hl : (xs.length + m) * bytes ≤ 140737488355328)
    (h : ∀ v1 w1, Own T w1 base v1 (xs ++ ys) → W.grownBy w1 v.ownBlock → (v1.ownBlock = v.ownBlock ∨ ∃ b, v1.ownBlock = some b ∧ W.heap.size ≤ b) → wpList P ops Q rest (a.put o.dst v1) w1) :
    wpList P ops Q (o :: rest) a W := by
  have e := cutW_size W base HB
  refine wpApp (w0 := cutW W base) S hgd s x ho v xs ys A m c hs hx (by rw [e]; exact HO) HR (belCut W base HB) hl ?_
  intro v1 w1 h1 h2 h3 h4
  rw [e] at h1
  exact h v1 w1 h1 h3 h4
end
theorem Bx.keepR {W W' : World} {q : Nat} {t : TypeId} {vs : List Value} {r : Option Nat} (h : Bx W q t vs) (hg : W.grownBy W' r) (hne : r ≠ some q) : Bx W' q t vs := by
  unfold Bx at h ⊢
  rw [hg.block q (Array.getElem?_eq_some_iff.1 h).1 (fun e => hne e.symm)]
  exact h
/-- The two boxes of guess: the result's, and the page's. -/
structure GB (w W : World) (vs : List Value) : Prop where
  z : Bx W w.heap.size 28 zeroC
  p : Bx W (w.heap.size + 1) 28 vs
  b : Bel w W
theorem GB.bel {w W W' : World} {vs : List Value} (h : GB w W vs) (hb : Bel W W') : GB w W' vs := ⟨h.z.bel hb, h.p.bel hb, h.b.trans hb⟩
theorem GB.keep {w W W' : World} {vs : List Value} {r : Option Nat} (h : GB w W vs) (hg : W.grownBy W' r) (hr : ∀ q, r = some q → w.heap.size + 2 ≤ q) : GB w W' vs :=
  ⟨h.z.keepR hg (fun e => by have := hr _ e; omega), h.p.keepR hg (fun e => by have := hr _ e; omega), h.b.grown_ hg (fun q hq => by have := hr q hq; omega)⟩
theorem GB.set {w W : World} {vs : List Value} (h : GB w W vs) (j : Nat) (u : Value) : GB w (W.setCell ⟨w.heap.size + 1, j, none⟩ u) (vs.set j u) :=
  ⟨h.z.far (by omega) u, h.p.set j u, h.b.setBx (by omega) u⟩
theorem GB.lt {w W : World} {vs : List Value} (h : GB w W vs) : w.heap.size + 2 ≤ W.heap.size := by have := h.p.lt; omega
theorem own_set {α : Type} {T : Ty α} {w W : World} {v u : Value} {xs : List α} {j : Nat} (h : Own T W (w.heap.size + 2) v xs) : Own T (W.setCell ⟨w.heap.size + 1, j, none⟩ u) (w.heap.size + 2) v xs :=
  h.kept_ (grownSet W (w.heap.size + 1) j u) (.inr (ownNeG h (by omega)))
theorem own_grow {α β : Type} {T : Ty α} {T' : Ty β} {W x : World} {base : Nat} {v v' : Value} {xs : List α} (h : Own T W base v xs) (hn : NeRow v v') (hg : W.grownBy x v'.ownBlock) : Own T x base v xs := h.kept_ hg hn.symm.other
theorem getAt {A : Option Addr} {m c : Nat} {b : List Int} {w : World} (hR : Row byteT w A m b) (hb : ∀ x ∈ b, 0 ≤ x ∧ x < 256) {a : Int} {at_ k : Nat} (ha : a = (at_ : Int)) (h1 : at_ ≤ 1000000) {kk : Int} (hk : kk = (k : Int)) (h2 : k ≤ 8) :
    ∀ W, Bel w W → Calls Try.prog 49 #[.slice A m c, .int .i64 a, .int .i64 kk] W fun e w' => e = .returned (.int .u64 (getN b at_ k)) ∧ W = w' := fun W hW => by
  subst ha hk
  exact get5_any A m c at_ k b W (hR.bel hW) hb h1 h2
theorem pieceAt {A : Option Addr} {m c : Nat} {b : List Int} {w : World} (hR : Row byteT w A m b) (hc : m ≤ c) (hb : ∀ x ∈ b, 0 ≤ x ∧ x < 256) {a : Int} {at_ : Nat} (ha : a = (at_ : Int)) (h1 : at_ ≤ 1000000) :
    ∀ W, Bel w W → Calls Try.prog 61 #[.slice A m c, .int .i64 a] W fun e w' => e = .returned (.string (pieceP b at_)) ∧ W = w' := fun W hW => by
  subst ha
  exact piece5_any A m c at_ b W (hR.bel hW) hc hb h1
theorem get2_rng {b : List Int} (hb : ∀ x ∈ b, 0 ≤ x ∧ x < 256) (at_ : Nat) : 0 ≤ getN b at_ 2 ∧ getN b at_ 2 < 65536 := getN_lt hb at_ 2
theorem get4_rng {b : List Int} (hb : ∀ x ∈ b, 0 ≤ x ∧ x < 256) (at_ : Nat) : 0 ≤ getN b at_ 4 ∧ getN b at_ 4 < 4294967296 := getN_lt hb at_ 4
theorem wrapI {x : Int} (h : 0 ≤ x ∧ x < 4294967296) : IntKind.i64.wrap x = x := by rw [IntKind.wrap_i64]; omega
theorem range_snoc {α : Type} (f : Nat → α) (j : Nat) : (List.range (j + 1)).map f = (List.range j).map f ++ [f j] := by rw [List.range_succ, List.map_append]; rfl
/-- A page as a value whose rows lie beyond a place. -/
def PgFr (N : Nat) (W : World) (q : Pg) (v : Value) : Prop :=
  ∃ A n c B m d C k e D l f, v = pgV q (.slice A n c) (.slice B m d) (.slice C k e) (.slice D l f) ∧ n ≤ c ∧ m ≤ d ∧ k ≤ e ∧ l ≤ f ∧ PgAt W q A n B m C k D l ∧ ∀ g, g < N → Away A n g ∧ Away B m g ∧ Away C k g ∧ Away D l g
theorem own_away {α : Type} {T : Ty α} {W : World} {base n c g : Nat} {A : Option Addr} {xs : List α} (h : Own T W base (.slice A n c) xs) (hg : g < base) : Away A n g := fun _ ad e => by
  subst e
  have := h.base_ ad.block rfl
  omega
theorem pgIn_own {W : World} {q : Pg} {a b c d : Value} {base N : Nat} (hN : N ≤ base) (h1 : Own pairT W base a q.pairs) (h2 : Own strT W base b q.keys) (h3 : Own intT W base c q.kids) (h4 : Own intT W base d q.pages) : PgFr N W q (pgV q a b c d) := by
  obtain ⟨A1, c1, rfl, k1, r1⟩ := h1.reads
  obtain ⟨A2, c2, rfl, k2, r2⟩ := h2.reads
  obtain ⟨A3, c3, rfl, k3, r3⟩ := h3.reads
  obtain ⟨A4, c4, rfl, k4, r4⟩ := h4.reads
  exact ⟨A1, _, c1, A2, _, c2, A3, _, c3, A4, _, c4, rfl, k1, k2, k3, k4, ⟨r1, r2, r3, r4⟩, fun g hg => ⟨own_away h1 (by omega), own_away h2 (by omega), own_away h3 (by omega), own_away h4 (by omega)⟩⟩
/-- A box's eleven cells, stored. -/
def setP (W : World) (g : Nat) (q : Pg) (a b c d : Value) : World :=
  ((((((((((W.setCell ⟨g, 0, none⟩ (.int .i64 q.kind)).setCell ⟨g, 1, none⟩ a).setCell ⟨g, 2, none⟩ b).setCell ⟨g, 3, none⟩ c).setCell ⟨g, 4, none⟩ d).setCell ⟨g, 5, none⟩ (.int .i64 q.next)).setCell ⟨g, 6, none⟩ (.int .u64 q.epoch)).setCell ⟨g, 7, none⟩ (.int .i64 q.root)).setCell ⟨g, 8, none⟩ (.int .i64 q.depth)).setCell ⟨g, 9, none⟩ (.int .i64 q.count)).setCell ⟨g, 10, none⟩ (.int .i64 q.high)
theorem own_setP {α : Type} {T : Ty α} {W : World} {v : Value} {xs : List α} {base g : Nat} {q : Pg} {a b c d : Value} (h : Own T W base v xs) (hg : g < base) : Own T (setP W g q a b c d) base v xs := by
  unfold setP
  have st : ∀ {W : World} {j : Nat} {u : Value}, Own T W base v xs → Own T (W.setCell ⟨g, j, none⟩ u) base v xs := fun h => h.kept_ (grownSet _ g _ _) (.inr (ownNeG h hg))
  exact st (st (st (st (st (st (st (st (st (st (st h))))))))))
theorem bx_setP {W : World} {vs : List Value} {g : Nat} {q : Pg} {a b c d : Value} (h : Bx W g 28 vs) (hl : vs.length = 11) : Bx (setP W g q a b c d) g 28 (pgC q a b c d) := by
  match vs, hl with
  | [v0, v1, v2, v3, v4, v5, v6, v7, v8, v9, v10], _ =>
  unfold setP
  have := ((((((((((h.set 0 (.int .i64 q.kind)).set 1 a).set 2 b).set 3 c).set 4 d).set 5 (.int .i64 q.next)).set 6 (.int .u64 q.epoch)).set 7 (.int .i64 q.root)).set 8 (.int .i64 q.depth)).set 9 (.int .i64 q.count)).set 10 (.int .i64 q.high)
  exact this
theorem bel_setP {w W : World} {g : Nat} {q : Pg} {a b c d : Value} (h : Bel w W) (hg : w.heap.size ≤ g) : Bel w (setP W g q a b c d) := by
  unfold setP
  exact ((((((((((h.setBx hg _).setBx hg _).setBx hg _).setBx hg _).setBx hg _).setBx hg _).setBx hg _).setBx hg _).setBx hg _).setBx hg _).setBx hg _
/-- What guess answers. -/
theorem fin5 {w W : World} {q : Pg} {a b c d : Value} (h : GB w W (pgC q a b c d)) (h1 : Own pairT W (w.heap.size + 2) a q.pairs) (h2 : Own strT W (w.heap.size + 2) b q.keys) (h3 : Own intT W (w.heap.size + 2) c q.kids) (h4 : Own intT W (w.heap.size + 2) d q.pages) :
    Bx (setP W w.heap.size q a b c d) w.heap.size 28 (pgC q a b c d) ∧ PgFr w.heap.size (setP W w.heap.size q a b c d) q (pgV q a b c d) ∧ Bel w (setP W w.heap.size q a b c d) :=
  ⟨bx_setP h.z rfl, pgIn_own (by omega) (own_setP h1 (by omega)) (own_setP h2 (by omega)) (own_setP h3 (by omega)) (own_setP h4 (by omega)), bel_setP h.b (Nat.le_refl _)⟩
set_option maxRecDepth 10000 in
set_option maxHeartbeats 8000000 in
theorem guess5_o (k : Int) (A : Option Addr) (m c : Nat) (b : List Int) (w : World) (hR : Row byteT w A m b) (hc : m ≤ c) (hb : ∀ x ∈ b, 0 ≤ x ∧ x < 256) (k1 : ¬ k = 1) (k2 : ¬ k = 2) (k3 : ¬ k = 3) (k4 : ¬ k = 4) :
    Calls Try.prog 48 #[.int .i64 k, .slice A m c] w fun e w' => ∃ v, e = .returned v ∧ PgFr w.heap.size w' { pgZ with kind := k } v ∧ Bel w w' := by
  have r1 : (k == 1) = false := by rw [beqI]; exact decide_eq_false k1
  have r2 : (k == 2) = false := by rw [beqI]; exact decide_eq_false k2
  have r3 : (k == 3) = false := by rw [beqI]; exact decide_eq_false k3
  have r4 : (k == 4) = false := by rw [beqI]; exact decide_eq_false k4
  clear k1 k2 k3 k4
  have HR := hid_ hR
  have HBB := hid_ hb
  have HCC := hid_ hc
  clear hR hb hc
  go_enter Try.func48, Try.ntmps48
  go_upto_region 2 with (fail)
  have hs := sizeAl w (.cells zeroC.toArray 28)
  have hp := Bx.new (w.alloc (.cells zeroC.toArray 28)) 28 [.int .i64 k, .slice none 0 0, .slice none 0 0, .slice none 0 0, .slice none 0 0, .int .i64 0, .int .u64 0, .int .i64 0, .int .i64 0, .int .i64 0, .int .i64 0]
  rw [hs] at hp
  have hG : GB w ((w.alloc (.cells zeroC.toArray 28)).alloc (.cells [.int .i64 k, .slice none 0 0, .slice none 0 0, .slice none 0 0, .slice none 0 0, .int .i64 0, .int .u64 0, .int .i64 0, .int .i64 0, .int .i64 0, .int .i64 0].toArray 28)) [.int .i64 k, .slice none 0 0, .slice none 0 0, .slice none 0 0, .slice none 0 0, .int .i64 0, .int .u64 0, .int .i64 0, .int .i64 0, .int .i64 0, .int .i64 0] := ⟨(Bx.new w 28 zeroC).alloc _, hp, ((Bel.refl w).alloc _).alloc _⟩
  unfold zeroC at hG
  clear hs hp
  generalize (w.alloc _).alloc _ = W0 at hG ⊢
  have HG := hid_ hG
  clear hG
  obtain ⟨N, hN⟩ : ∃ N, getN b 0 2 = N := ⟨_, rfl⟩
  have HNR := hid_ (get2_rng HBB.out 0)
  have HT0 := hid_ (getAt (c := c) HR.out HBB.out (a := 0) (at_ := 0) rfl (by omega) (kk := 2) (k := 2) rfl (by omega))
  rw [hN] at HNR HT0
  have HN := hid_ hN
  have en : IntKind.i64.wrap N = N := wrapI (by have := HNR.out; omega)
  clear hN
  go_wp2_with fail
  refine (HT0.out _ HG.out.b).mono ?_
  rintro e _ ⟨rfl, rfl⟩
  go_upto_region 36 with (fail)
  have F := hid_ (fin5 (q := { pgZ with kind := k }) (a := .slice none 0 0) (b := .slice none 0 0) (c := .slice none 0 0) (d := .slice none 0 0) HG.out (Own.nil_ _ _ _) (Own.nil_ _ _ _) (Own.nil_ _ _ _) (Own.nil_ _ _ _))
  have c0 := HG.out.p.cell 0 rfl
  have z0 := HG.out.z.cell 0 rfl
  have c1 := HG.out.p.cell 1 rfl
  have z1 := HG.out.z.cell 1 rfl
  have c2 := HG.out.p.cell 2 rfl
  have z2 := HG.out.z.cell 2 rfl
  have c3 := HG.out.p.cell 3 rfl
  have z3 := HG.out.z.cell 3 rfl
  have c4 := HG.out.p.cell 4 rfl
  have z4 := HG.out.z.cell 4 rfl
  have c5 := HG.out.p.cell 5 rfl
  have z5 := HG.out.z.cell 5 rfl
  have c6 := HG.out.p.cell 6 rfl
  have z6 := HG.out.z.cell 6 rfl
  have c7 := HG.out.p.cell 7 rfl
  have z7 := HG.out.z.cell 7 rfl
  have c8 := HG.out.p.cell 8 rfl
  have z8 := HG.out.z.cell 8 rfl
  have c9 := HG.out.p.cell 9 rfl
  have z9 := HG.out.z.cell 9 rfl
  have c10 := HG.out.p.cell 10 rfl
  have z10 := HG.out.z.cell 10 rfl
  have zf := fun j => HG.out.z.frozen j
  go_wp2
  refine bodyPost_ret (results_c rfl _ _ w.heap.size 28 _ (0, 0) _ rfl F.out.1 Try.underlying28 rfl (by kernel_rfl)) rfl ?_
  exact ⟨_, rfl, F.out.2.1, F.out.2.2⟩
set_option maxRecDepth 10000 in
set_option maxHeartbeats 8000000 in
theorem guess5_1 (A : Option Addr) (m c : Nat) (b : List Int) (w : World) (hR : Row byteT w A m b) (hc : m ≤ c) (hb : ∀ x ∈ b, 0 ≤ x ∧ x < 256) :
    Calls Try.prog 48 #[.int .i64 1, .slice A m c] w fun e w' => ∃ v, e = .returned v ∧ PgFr w.heap.size w' (gLeaf b) v ∧ Bel w w' := by
  have HR := hid_ hR
  have HBB := hid_ hb
  have HCC := hid_ hc
  clear hR hb hc
  go_enter Try.func48, Try.ntmps48
  go_upto_region 2 with (fail)
  have hs := sizeAl w (.cells zeroC.toArray 28)
  have hp := Bx.new (w.alloc (.cells zeroC.toArray 28)) 28 [.int .i64 1, .slice none 0 0, .slice none 0 0, .slice none 0 0, .slice none 0 0, .int .i64 0, .int .u64 0, .int .i64 0, .int .i64 0, .int .i64 0, .int .i64 0]
  rw [hs] at hp
  have hG : GB w ((w.alloc (.cells zeroC.toArray 28)).alloc (.cells [.int .i64 1, .slice none 0 0, .slice none 0 0, .slice none 0 0, .slice none 0 0, .int .i64 0, .int .u64 0, .int .i64 0, .int .i64 0, .int .i64 0, .int .i64 0].toArray 28)) [.int .i64 1, .slice none 0 0, .slice none 0 0, .slice none 0 0, .slice none 0 0, .int .i64 0, .int .u64 0, .int .i64 0, .int .i64 0, .int .i64 0, .int .i64 0] := ⟨(Bx.new w 28 zeroC).alloc _, hp, ((Bel.refl w).alloc _).alloc _⟩
  unfold zeroC at hG
  clear hs hp
  generalize (w.alloc _).alloc _ = W0 at hG ⊢
  have HG := hid_ hG
  clear hG
  obtain ⟨N, hN⟩ : ∃ N, getN b 0 2 = N := ⟨_, rfl⟩
  have HNR := hid_ (get2_rng HBB.out 0)
  have HT0 := hid_ (getAt (c := c) HR.out HBB.out (a := 0) (at_ := 0) rfl (by omega) (kk := 2) (k := 2) rfl (by omega))
  rw [hN] at HNR HT0
  have HN := hid_ hN
  have en : IntKind.i64.wrap N = N := wrapI (by have := HNR.out; omega)
  clear hN
  go_wp2_with fail
  refine (HT0.out _ HG.out.b).mono ?_
  rintro e _ ⟨rfl, rfl⟩
  obtain ⟨cnt, hcnt⟩ : ∃ cnt, gCnt b 7 = cnt := ⟨_, rfl⟩
  have HCNT := hid_ hcnt
  have HC1 : Hid (∀ j : Nat, j < cnt → (j : Int) < N ∧ j ≤ 6) := hid_ (fun j hj => by rw [← hcnt, gCnt, HN.out] at hj; have := HNR.out; omega)
  have HC2 : Hid (¬ (cnt : Int) < N ∨ (cnt : Int) < N ∧ cnt = 7) := hid_ (by rw [← hcnt, gCnt, HN.out]; have := HNR.out; omega)
  have z9 : cnt ≤ 7 := by rw [← hcnt, gCnt]; omega
  clear hcnt
  have HG : Hid (GB w W0 (pgC { pgZ with kind := 1 } (.slice none 0 0) (.slice none 0 0) (.slice none 0 0) (.slice none 0 0))) := HG
  go_wp2_with fail
  go_loopw [7, 8, 9, 10] (fun at_ i _ _ wr => ∃ j : Nat, j ≤ cnt ∧ i = .int .i64 j ∧ at_ = .int .i64 (gAtP b j : Nat) ∧ ∃ (Av : Option Addr) (cv : Nat), Hid (GB w wr (pgC { pgZ with kind := 1 } (.slice Av j cv) (.slice none 0 0) (.slice none 0 0) (.slice none 0 0))) ∧ Hid (Own pairT wr (w.heap.size + 2) (.slice Av j cv) ((List.range j).map (gPair b)))) (fun _ i _ _ _ => cnt - (Go.RowKit.intOf i).toNat)
  case atStart => exact ⟨0, Nat.zero_le _, rfl, rfl, none, 0, HG, hid_ (Own.nil_ _ _ _)⟩
  case round =>
    obtain ⟨j, hj, rfl, rfl, Av, cv, hG, hO⟩ := hrel
    by_cases hjn : j < cnt
    · have hc := HC1.out j hjn
      have d1 : decide ((j : Int) < N) = true := decide_eq_true hc.1
      have d2 : decide ((j : Int) ≤ 6) = true := decide_eq_true (by omega)
      have d3 : j ≤ 6 := hc.2
      obtain ⟨a, ha⟩ : ∃ a, gAtP b j = a := ⟨_, rfl⟩
      have hal : a ≤ 4000 := by have := gAtP_le b HBB.out j; omega
      obtain ⟨k, hk⟩ : ∃ k, pieceP b a = k := ⟨_, rfl⟩
      have hkl : k.size < 256 := by rw [← hk]; exact pieceP_size b HBB.out a
      obtain ⟨v, hv⟩ : ∃ v, pieceP b (a + 1 + k.size) = v := ⟨_, rfl⟩
      have hvl : v.size < 256 := by rw [← hv]; exact pieceP_size b HBB.out _
      have HPK := hid_ (pieceAt (c := c) HR.out HCC.out HBB.out (a := (a : Int)) (at_ := a) rfl (by omega))
      have HPV := hid_ (pieceAt (c := c) HR.out HCC.out HBB.out (a := (a : Int) + 1 + (k.size : Int)) (at_ := a + 1 + k.size) (by omega) (by omega))
      rw [hk] at HPK
      rw [hv] at HPV
      rw [ha]
      have HAT : Hid (((gAtP b (j + 1) : Nat) : Int) = (a : Int) + 2 + (k.size : Int) + (v.size : Int)) := hid_ (by rw [gAtP, ha, hk, hv]; omega)
      have HSN : Hid ((List.range (j + 1)).map (gPair b) = (List.range j).map (gPair b) ++ [⟨k, v⟩]) := hid_ (by rw [range_snoc, gPair, ha, hk, hv])
      have e1 : IntKind.i64.wrap ((a : Int) + 1) = (a : Int) + 1 := wrapI (by omega)
      have e2 : IntKind.i64.wrap ((a : Int) + 1 + (k.size : Int)) = (a : Int) + 1 + (k.size : Int) := wrapI (by omega)
      have e3 : IntKind.i64.wrap ((a : Int) + 2) = (a : Int) + 2 := wrapI (by omega)
      have e4 : IntKind.i64.wrap ((a : Int) + 2 + (k.size : Int)) = (a : Int) + 2 + (k.size : Int) := wrapI (by omega)
      have e5 : IntKind.i64.wrap ((a : Int) + 2 + (k.size : Int) + (v.size : Int)) = (a : Int) + 2 + (k.size : Int) + (v.size : Int) := wrapI (by omega)
      have HLQ : Hid (((List.range j).map (gPair b) ++ [(⟨k, v⟩ : PairV)]).length = j + 1) := hid_ (by simp)
      have HLN : Hid ((((List.range j).map (gPair b)).length + 1) * 32 ≤ 140737488355328) := hid_ (by simp; omega)
      have HSZ : Hid (w.heap.size + 2 ≤ (wr.alloc (.cells #[.string k, .string v] 44)).heap.size) := hid_ (by have := hG.out.lt; simp; omega)
      clear ha hk hv hc hal hkl hvl
      go_wp2_with fail
      refine (HPK.out _ hG.out.b).mono ?_
      rintro e _ ⟨rfl, rfl⟩
      go_wp2_with fail
      refine (HPV.out _ hG.out.b).mono ?_
      rintro e _ ⟨rfl, rfl⟩
      have c1 := hG.out.p.cell 1 rfl
      go_wp2_with (at_builtin; refine wpAppB (base := w.heap.size + 2) pairS rfl _ _ rfl (.slice Av j cv) ((List.range j).map (gPair b)) [⟨k, v⟩] (some ⟨wr.heap.size, 0, none⟩) 1 1 rfl rfl (hO.out.alloc_ _) (Row.one (T := pairT) ⟨k, v⟩ rfl rfl) HSZ.out HLN.out ?_; intro v9 x9 hO9 hg9 hat9; obtain ⟨A9, c9, rfl, hc9, _⟩ := hO9.readsN' HLQ.out; have hG9 := (hG.out.bel ((Bel.refl wr).alloc (.cells #[.string k, .string v] 44))).keep hg9 hO.out.base_; have k9 := hG9.p.cell 1 rfl; have f9 := hG9.p.frozen 1)
      have hGz := hG9.set 1 (.slice A9 (j + 1) c9)
      simp only [pgC, List.set] at hGz
      have HGZ := hid_ hGz
      have HOZ := hid_ (own_set (j := 1) (u := .slice A9 (j + 1) c9) hO9)
      clear hGz hO9 hg9 hat9 hG9 k9 f9 hc9 c1
      go_roundw
      case rel => exact ⟨j + 1, by omega, by go_num, by rw [HAT.out], A9, c9, HGZ, by rw [HSN.out]; exact HOZ⟩
      case measure => simp [Go.RowKit.intOf]; omega
    · obtain rfl : j = cnt := by omega
      rcases HC2.out with hx | ⟨hx, hx7⟩
      · have d1 : decide ((j : Int) < N) = false := decide_eq_false (by omega)
        clear hx
        go_upto_region 36 with (fail)
        have HPQ : Hid (gLeaf b = { pgZ with kind := 1, pairs := (List.range j).map (gPair b) }) := hid_ (by rw [gLeaf, HCNT.out])
        have F := hid_ (fin5 (q := { pgZ with kind := 1, pairs := (List.range j).map (gPair b) }) (a := .slice Av j cv) (b := .slice none 0 0) (c := .slice none 0 0) (d := .slice none 0 0) hG.out hO.out (Own.nil_ _ _ _) (Own.nil_ _ _ _) (Own.nil_ _ _ _))
        have c0 := hG.out.p.cell 0 rfl
        have z0 := hG.out.z.cell 0 rfl
        have c1 := hG.out.p.cell 1 rfl
        have z1 := hG.out.z.cell 1 rfl
        have c2 := hG.out.p.cell 2 rfl
        have z2 := hG.out.z.cell 2 rfl
        have c3 := hG.out.p.cell 3 rfl
        have z3 := hG.out.z.cell 3 rfl
        have c4 := hG.out.p.cell 4 rfl
        have z4 := hG.out.z.cell 4 rfl
        have c5 := hG.out.p.cell 5 rfl
        have z5 := hG.out.z.cell 5 rfl
        have c6 := hG.out.p.cell 6 rfl
        have z6 := hG.out.z.cell 6 rfl
        have c7 := hG.out.p.cell 7 rfl
        have z7 := hG.out.z.cell 7 rfl
        have c8 := hG.out.p.cell 8 rfl
        have z8 := hG.out.z.cell 8 rfl
        have c9 := hG.out.p.cell 9 rfl
        have z9 := hG.out.z.cell 9 rfl
        have c10 := hG.out.p.cell 10 rfl
        have z10 := hG.out.z.cell 10 rfl
        have zf := fun j => hG.out.z.frozen j
        go_wp2
        refine bodyPost_ret (results_c rfl _ _ w.heap.size 28 _ (0, 0) _ rfl F.out.1 Try.underlying28 rfl (by kernel_rfl)) rfl ?_
        exact ⟨_, rfl, by rw [HPQ.out]; exact F.out.2.1, F.out.2.2⟩
      · have d1 : decide ((j : Int) < N) = true := decide_eq_true hx
        have d2 : decide ((j : Int) ≤ 6) = false := decide_eq_false (by omega)
        have d3 : ¬ j ≤ 6 := by omega
        clear hx hx7
        go_upto_region 36 with (fail)
        have HPQ : Hid (gLeaf b = { pgZ with kind := 1, pairs := (List.range j).map (gPair b) }) := hid_ (by rw [gLeaf, HCNT.out])
        have F := hid_ (fin5 (q := { pgZ with kind := 1, pairs := (List.range j).map (gPair b) }) (a := .slice Av j cv) (b := .slice none 0 0) (c := .slice none 0 0) (d := .slice none 0 0) hG.out hO.out (Own.nil_ _ _ _) (Own.nil_ _ _ _) (Own.nil_ _ _ _))
        have c0 := hG.out.p.cell 0 rfl
        have z0 := hG.out.z.cell 0 rfl
        have c1 := hG.out.p.cell 1 rfl
        have z1 := hG.out.z.cell 1 rfl
        have c2 := hG.out.p.cell 2 rfl
        have z2 := hG.out.z.cell 2 rfl
        have c3 := hG.out.p.cell 3 rfl
        have z3 := hG.out.z.cell 3 rfl
        have c4 := hG.out.p.cell 4 rfl
        have z4 := hG.out.z.cell 4 rfl
        have c5 := hG.out.p.cell 5 rfl
        have z5 := hG.out.z.cell 5 rfl
        have c6 := hG.out.p.cell 6 rfl
        have z6 := hG.out.z.cell 6 rfl
        have c7 := hG.out.p.cell 7 rfl
        have z7 := hG.out.z.cell 7 rfl
        have c8 := hG.out.p.cell 8 rfl
        have z8 := hG.out.z.cell 8 rfl
        have c9 := hG.out.p.cell 9 rfl
        have z9 := hG.out.z.cell 9 rfl
        have c10 := hG.out.p.cell 10 rfl
        have z10 := hG.out.z.cell 10 rfl
        have zf := fun j => hG.out.z.frozen j
        go_wp2
        refine bodyPost_ret (results_c rfl _ _ w.heap.size 28 _ (0, 0) _ rfl F.out.1 Try.underlying28 rfl (by kernel_rfl)) rfl ?_
        exact ⟨_, rfl, by rw [HPQ.out]; exact F.out.2.1, F.out.2.2⟩
set_option maxRecDepth 10000 in
set_option maxHeartbeats 8000000 in
theorem guess5_4 (A : Option Addr) (m c : Nat) (b : List Int) (w : World) (hR : Row byteT w A m b) (hc : m ≤ c) (hb : ∀ x ∈ b, 0 ≤ x ∧ x < 256) :
    Calls Try.prog 48 #[.int .i64 4, .slice A m c] w fun e w' => ∃ v, e = .returned v ∧ PgFr w.heap.size w' (gSu b) v ∧ Bel w w' := by
  have HR := hid_ hR
  have HBB := hid_ hb
  have HCC := hid_ hc
  clear hR hb hc
  go_enter Try.func48, Try.ntmps48
  go_upto_region 2 with (fail)
  have hs := sizeAl w (.cells zeroC.toArray 28)
  have hp := Bx.new (w.alloc (.cells zeroC.toArray 28)) 28 [.int .i64 4, .slice none 0 0, .slice none 0 0, .slice none 0 0, .slice none 0 0, .int .i64 0, .int .u64 0, .int .i64 0, .int .i64 0, .int .i64 0, .int .i64 0]
  rw [hs] at hp
  have hG : GB w ((w.alloc (.cells zeroC.toArray 28)).alloc (.cells [.int .i64 4, .slice none 0 0, .slice none 0 0, .slice none 0 0, .slice none 0 0, .int .i64 0, .int .u64 0, .int .i64 0, .int .i64 0, .int .i64 0, .int .i64 0].toArray 28)) [.int .i64 4, .slice none 0 0, .slice none 0 0, .slice none 0 0, .slice none 0 0, .int .i64 0, .int .u64 0, .int .i64 0, .int .i64 0, .int .i64 0, .int .i64 0] := ⟨(Bx.new w 28 zeroC).alloc _, hp, ((Bel.refl w).alloc _).alloc _⟩
  unfold zeroC at hG
  clear hs hp
  generalize (w.alloc _).alloc _ = W0 at hG ⊢
  have HG := hid_ hG
  clear hG
  obtain ⟨N, hN⟩ : ∃ N, getN b 0 2 = N := ⟨_, rfl⟩
  have HNR := hid_ (get2_rng HBB.out 0)
  have HT0 := hid_ (getAt (c := c) HR.out HBB.out (a := 0) (at_ := 0) rfl (by omega) (kk := 2) (k := 2) rfl (by omega))
  rw [hN] at HNR HT0
  have HN := hid_ hN
  have en : IntKind.i64.wrap N = N := wrapI (by have := HNR.out; omega)
  clear hN
  go_wp2_with fail
  refine (HT0.out _ HG.out.b).mono ?_
  rintro e _ ⟨rfl, rfl⟩
  obtain ⟨root, hroot⟩ : ∃ x, getN b 0 2 = x := ⟨_, rfl⟩
  have Hroot := hid_ (getAt (c := c) HR.out HBB.out (a := 0) (at_ := 0) rfl (by omega) (kk := 2) (k := 2) rfl (by omega))
  have eroot : IntKind.i64.wrap root = root := wrapI (by rw [← hroot]; have := get2_rng HBB.out 0; omega)
  rw [hroot] at Hroot
  obtain ⟨depth, hdepth⟩ : ∃ x, getN b 2 2 = x := ⟨_, rfl⟩
  have Hdepth := hid_ (getAt (c := c) HR.out HBB.out (a := 2) (at_ := 2) rfl (by omega) (kk := 2) (k := 2) rfl (by omega))
  have edepth : IntKind.i64.wrap depth = depth := wrapI (by rw [← hdepth]; have := get2_rng HBB.out 2; omega)
  rw [hdepth] at Hdepth
  obtain ⟨count, hcount⟩ : ∃ x, getN b 4 4 = x := ⟨_, rfl⟩
  have Hcount := hid_ (getAt (c := c) HR.out HBB.out (a := 4) (at_ := 4) rfl (by omega) (kk := 4) (k := 4) rfl (by omega))
  have ecount : IntKind.i64.wrap count = count := wrapI (by rw [← hcount]; have := get4_rng HBB.out 4; omega)
  rw [hcount] at Hcount
  obtain ⟨high, hhigh⟩ : ∃ x, getN b 8 2 = x := ⟨_, rfl⟩
  have Hhigh := hid_ (getAt (c := c) HR.out HBB.out (a := 8) (at_ := 8) rfl (by omega) (kk := 2) (k := 2) rfl (by omega))
  have ehigh : IntKind.i64.wrap high = high := wrapI (by rw [← hhigh]; have := get2_rng HBB.out 8; omega)
  rw [hhigh] at Hhigh
  obtain ⟨next, hnext⟩ : ∃ x, getN b 10 2 = x := ⟨_, rfl⟩
  have Hnext := hid_ (getAt (c := c) HR.out HBB.out (a := 10) (at_ := 10) rfl (by omega) (kk := 2) (k := 2) rfl (by omega))
  have enext : IntKind.i64.wrap next = next := wrapI (by rw [← hnext]; have := get2_rng HBB.out 10; omega)
  rw [hnext] at Hnext
  have HQ : Hid (gSu b = { pgZ with kind := 4, root := root, depth := depth, count := count, high := high, next := next }) := hid_ (by rw [gSu, hroot, hdepth, hcount, hhigh, hnext])
  clear hroot hdepth hcount hhigh hnext
  have HG : Hid (GB w W0 (pgC { pgZ with kind := 4 } (.slice none 0 0) (.slice none 0 0) (.slice none 0 0) (.slice none 0 0))) := HG
  go_wp2_with fail
  refine (Hroot.out _ HG.out.b).mono ?_
  rintro e _ ⟨rfl, rfl⟩
  have ck := HG.out.p.cell 7 rfl
  have fk := HG.out.p.frozen 7
  go_upto_region 32 with (fail)
  have hG := HG.out.set 7 (.int .i64 root)
  simp only [pgC, List.set] at hG
  clear ck fk HG
  generalize W0.setCell ⟨w.heap.size + 1, 7, none⟩ (.int .i64 root) = W1 at hG ⊢
  have HG := hid_ hG
  clear hG
  go_wp2_with fail
  refine (Hdepth.out _ HG.out.b).mono ?_
  rintro e _ ⟨rfl, rfl⟩
  have ck := HG.out.p.cell 8 rfl
  have fk := HG.out.p.frozen 8
  go_upto_region 33 with (fail)
  have hG := HG.out.set 8 (.int .i64 depth)
  simp only [pgC, List.set] at hG
  clear ck fk HG
  generalize W1.setCell ⟨w.heap.size + 1, 8, none⟩ (.int .i64 depth) = W2 at hG ⊢
  have HG := hid_ hG
  clear hG
  go_wp2_with fail
  refine (Hcount.out _ HG.out.b).mono ?_
  rintro e _ ⟨rfl, rfl⟩
  have ck := HG.out.p.cell 9 rfl
  have fk := HG.out.p.frozen 9
  go_upto_region 34 with (fail)
  have hG := HG.out.set 9 (.int .i64 count)
  simp only [pgC, List.set] at hG
  clear ck fk HG
  generalize W2.setCell ⟨w.heap.size + 1, 9, none⟩ (.int .i64 count) = W3 at hG ⊢
  have HG := hid_ hG
  clear hG
  go_wp2_with fail
  refine (Hhigh.out _ HG.out.b).mono ?_
  rintro e _ ⟨rfl, rfl⟩
  have ck := HG.out.p.cell 10 rfl
  have fk := HG.out.p.frozen 10
  go_upto_region 35 with (fail)
  have hG := HG.out.set 10 (.int .i64 high)
  simp only [pgC, List.set] at hG
  clear ck fk HG
  generalize W3.setCell ⟨w.heap.size + 1, 10, none⟩ (.int .i64 high) = W4 at hG ⊢
  have HG := hid_ hG
  clear hG
  go_wp2_with fail
  refine (Hnext.out _ HG.out.b).mono ?_
  rintro e _ ⟨rfl, rfl⟩
  have ck := HG.out.p.cell 5 rfl
  have fk := HG.out.p.frozen 5
  go_upto_region 36 with (fail)
  have hG := HG.out.set 5 (.int .i64 next)
  simp only [pgC, List.set] at hG
  clear ck fk HG
  generalize W4.setCell ⟨w.heap.size + 1, 5, none⟩ (.int .i64 next) = W5 at hG ⊢
  have HG := hid_ hG
  clear hG
  have F := hid_ (fin5 (q := { pgZ with kind := 4, root := root, depth := depth, count := count, high := high, next := next }) (a := .slice none 0 0) (b := .slice none 0 0) (c := .slice none 0 0) (d := .slice none 0 0) HG.out (Own.nil_ _ _ _) (Own.nil_ _ _ _) (Own.nil_ _ _ _) (Own.nil_ _ _ _))
  have c0 := HG.out.p.cell 0 rfl
  have z0 := HG.out.z.cell 0 rfl
  have c1 := HG.out.p.cell 1 rfl
  have z1 := HG.out.z.cell 1 rfl
  have c2 := HG.out.p.cell 2 rfl
  have z2 := HG.out.z.cell 2 rfl
  have c3 := HG.out.p.cell 3 rfl
  have z3 := HG.out.z.cell 3 rfl
  have c4 := HG.out.p.cell 4 rfl
  have z4 := HG.out.z.cell 4 rfl
  have c5 := HG.out.p.cell 5 rfl
  have z5 := HG.out.z.cell 5 rfl
  have c6 := HG.out.p.cell 6 rfl
  have z6 := HG.out.z.cell 6 rfl
  have c7 := HG.out.p.cell 7 rfl
  have z7 := HG.out.z.cell 7 rfl
  have c8 := HG.out.p.cell 8 rfl
  have z8 := HG.out.z.cell 8 rfl
  have c9 := HG.out.p.cell 9 rfl
  have z9 := HG.out.z.cell 9 rfl
  have c10 := HG.out.p.cell 10 rfl
  have z10 := HG.out.z.cell 10 rfl
  have zf := fun j => HG.out.z.frozen j
  go_wp2
  refine bodyPost_ret (results_c rfl _ _ w.heap.size 28 _ (0, 0) _ rfl F.out.1 Try.underlying28 rfl (by kernel_rfl)) rfl ?_
  exact ⟨_, rfl, by rw [HQ.out]; exact F.out.2.1, F.out.2.2⟩
def gAtF (j : Nat) : Nat := 2 + 2 * j
set_option maxRecDepth 10000 in
set_option maxHeartbeats 8000000 in
theorem guess5_3 (A : Option Addr) (m c : Nat) (b : List Int) (w : World) (hR : Row byteT w A m b) (hc : m ≤ c) (hb : ∀ x ∈ b, 0 ≤ x ∧ x < 256) :
    Calls Try.prog 48 #[.int .i64 3, .slice A m c] w fun e w' => ∃ v, e = .returned v ∧ PgFr w.heap.size w' (gFr b) v ∧ Bel w w' := by
  have HR := hid_ hR
  have HBB := hid_ hb
  have HCC := hid_ hc
  clear hR hb hc
  go_enter Try.func48, Try.ntmps48
  go_upto_region 2 with (fail)
  have hs := sizeAl w (.cells zeroC.toArray 28)
  have hp := Bx.new (w.alloc (.cells zeroC.toArray 28)) 28 [.int .i64 3, .slice none 0 0, .slice none 0 0, .slice none 0 0, .slice none 0 0, .int .i64 0, .int .u64 0, .int .i64 0, .int .i64 0, .int .i64 0, .int .i64 0]
  rw [hs] at hp
  have hG : GB w ((w.alloc (.cells zeroC.toArray 28)).alloc (.cells [.int .i64 3, .slice none 0 0, .slice none 0 0, .slice none 0 0, .slice none 0 0, .int .i64 0, .int .u64 0, .int .i64 0, .int .i64 0, .int .i64 0, .int .i64 0].toArray 28)) [.int .i64 3, .slice none 0 0, .slice none 0 0, .slice none 0 0, .slice none 0 0, .int .i64 0, .int .u64 0, .int .i64 0, .int .i64 0, .int .i64 0, .int .i64 0] := ⟨(Bx.new w 28 zeroC).alloc _, hp, ((Bel.refl w).alloc _).alloc _⟩
  unfold zeroC at hG
  clear hs hp
  generalize (w.alloc _).alloc _ = W0 at hG ⊢
  have HG := hid_ hG
  clear hG
  obtain ⟨N, hN⟩ : ∃ N, getN b 0 2 = N := ⟨_, rfl⟩
  have HNR := hid_ (get2_rng HBB.out 0)
  have HT0 := hid_ (getAt (c := c) HR.out HBB.out (a := 0) (at_ := 0) rfl (by omega) (kk := 2) (k := 2) rfl (by omega))
  rw [hN] at HNR HT0
  have HN := hid_ hN
  have en : IntKind.i64.wrap N = N := wrapI (by have := HNR.out; omega)
  clear hN
  go_wp2_with fail
  refine (HT0.out _ HG.out.b).mono ?_
  rintro e _ ⟨rfl, rfl⟩
  obtain ⟨cnt, hcnt⟩ : ∃ cnt, gCnt b 201 = cnt := ⟨_, rfl⟩
  have HCNT := hid_ hcnt
  have HC1 : Hid (∀ j : Nat, j < cnt → (j : Int) < N ∧ j ≤ 200) := hid_ (fun j hj => by rw [← hcnt, gCnt, HN.out] at hj; have := HNR.out; omega)
  have HC2 : Hid (¬ (cnt : Int) < N ∨ (cnt : Int) < N ∧ cnt = 201) := hid_ (by rw [← hcnt, gCnt, HN.out]; have := HNR.out; omega)
  have z9 : cnt ≤ 201 := by rw [← hcnt, gCnt]; omega
  clear hcnt
  have HG : Hid (GB w W0 (pgC { pgZ with kind := 3 } (.slice none 0 0) (.slice none 0 0) (.slice none 0 0) (.slice none 0 0))) := HG
  go_wp2_with fail
  go_loopw [7, 13] (fun at_ i wr => ∃ j : Nat, j ≤ cnt ∧ i = .int .i64 j ∧ at_ = .int .i64 (gAtF j : Nat) ∧ ∃ (Av : Option Addr) (cv : Nat), Hid (GB w wr (pgC { pgZ with kind := 3 } (.slice none 0 0) (.slice none 0 0) (.slice none 0 0) (.slice Av j cv))) ∧ Hid (Own intT wr (w.heap.size + 2) (.slice Av j cv) ((List.range j).map (fun j => getN b (2 + 2 * j) 2)))) (fun _ i _ => cnt - (Go.RowKit.intOf i).toNat)
  case atStart => exact ⟨0, Nat.zero_le _, rfl, rfl, none, 0, HG, hid_ (Own.nil_ _ _ _)⟩
  case round =>
    obtain ⟨j, hj, rfl, rfl, Av, cv, hG, hO⟩ := hrel
    obtain ⟨a, ha⟩ : ∃ a, gAtF j = a := ⟨_, rfl⟩
    have ha2 : a = 2 + 2 * j := by rw [← ha, gAtF]
    have hal : a ≤ 4000 := by omega
    obtain ⟨z, hz⟩ : ∃ z, getN b a 2 = z := ⟨_, rfl⟩
    have hzr : 0 ≤ z ∧ z < 65536 := by rw [← hz]; exact get2_rng HBB.out a
    have HT := hid_ (getAt (c := c) HR.out HBB.out (a := (a : Int)) (at_ := a) rfl (by omega) (kk := 2) (k := 2) rfl (by omega))
    rw [hz] at HT
    rw [ha]
    have ez : IntKind.i64.wrap z = z := wrapI (by omega)
    by_cases hjn : j < cnt
    · have hc := HC1.out j hjn
      have d1 : decide ((j : Int) < N) = true := decide_eq_true hc.1
      have d2 : decide ((j : Int) ≤ 200) = true := decide_eq_true (by omega)
      have d3 : j ≤ 200 := hc.2
      have HAT : Hid (((gAtF (j + 1) : Nat) : Int) = (a : Int) + 2) := hid_ (by rw [gAtF]; omega)
      have HSN : Hid ((List.range (j + 1)).map (fun j => getN b (2 + 2 * j) 2) = (List.range j).map (fun j => getN b (2 + 2 * j) 2) ++ [z]) := hid_ (by rw [range_snoc, ← ha2, hz])
      have e3 : IntKind.i64.wrap ((a : Int) + 2) = (a : Int) + 2 := wrapI (by omega)
      obtain ⟨L, hL⟩ : ∃ L, (List.range j).map (fun j => getN b (2 + 2 * j) 2) = L := ⟨_, rfl⟩
      have hll : L.length = j := by rw [← hL]; simp
      rw [hL] at hO HSN
      have HLQ : Hid ((L ++ [z]).length = j + 1) := hid_ (by simp [hll])
      have HLN : Hid ((L.length + 1) * 8 ≤ 140737488355328) := hid_ (by rw [hll]; omega)
      have c4 := hG.out.p.cell 4 rfl
      have c4a := (hG.out.bel ((Bel.refl wr).alloc (.cells #[.int .i64 z] 3))).p.cell 4 rfl
      have HBD : Hid (Bel w wr.drew) := hid_ hG.out.b.drew
      have HBE : Hid (Bel w wr) := hid_ hG.out.b
      have HOA := hid_ ((hO.out.bel ((Bel.refl wr).drew)).alloc_ (.cells #[.int .i64 z] 3))
      have HOC := hid_ ((hO.out.alloc_ (.cells #[.int .i64 z] 3)).bel ((Bel.refl _).drew))
      have HGA := hid_ (hG.out.bel (((Bel.refl wr).drew).alloc (.cells #[.int .i64 z] 3)))
      have HGC := hid_ (hG.out.bel (((Bel.refl wr).alloc (.cells #[.int .i64 z] 3)).drew))
      have HOB := hid_ hO.out.base_
      have HUA : Hid (w.heap.size + 2 ≤ (wr.drew.alloc (.cells #[.int .i64 z] 3)).heap.size) := hid_ (by have := HGA.out.lt; exact this)
      have HUC : Hid (w.heap.size + 2 ≤ (wr.alloc (.cells #[.int .i64 z] 3)).drew.heap.size) := hid_ (by have := HGC.out.lt; exact this)
      clear ha ha2 hz hzr hc hal hL hll
      go_upto_region 27 with (fail)
      go_region_law (first
        | (refine stepAppB intS rfl _ _ rfl (.slice Av j cv) (L) [z] (some ⟨wr.heap.size, 0, none⟩) 1 1 rfl rfl HOA.out (Row.one (T := intT) z rfl rfl) HUA.out HLN.out ?_; intro v1 x1 hOx hgx hatx; have hGx := HGA.out.keep hgx HOB.out; obtain ⟨A9, c9, rfl, hc9, _⟩ := hOx.readsN' HLQ.out; have k9 := hGx.p.cell 4 rfl; have f9 := hGx.p.frozen 4)
        | (refine stepAppB intS rfl _ _ rfl (.slice Av j cv) (L) [z] (some ⟨wr.heap.size, 0, none⟩) 1 1 rfl rfl HOC.out ((Row.one (T := intT) (W := wr) z rfl rfl).bel ((Bel.refl _).drew)) HUC.out HLN.out ?_; intro v1 x1 hOx hgx hatx; have hGx := HGC.out.keep hgx HOB.out; obtain ⟨A9, c9, rfl, hc9, _⟩ := hOx.readsN' HLQ.out; have k9 := hGx.p.cell 4 rfl; have f9 := hGx.p.frozen 4)
        | (go_simp; go_wp2_with (go_at_call 49; with_reducible refine' Calls.mono (HT.out _ HBD.out) ?_; rintro e _ ⟨rfl, rfl⟩))
        | (go_simp; go_wp2_with (go_at_call 49; with_reducible refine' Calls.mono (HT.out _ HBE.out) ?_; rintro e _ ⟨rfl, rfl⟩)))
      all_goals (
        have hGz := hGx.set 4 (.slice A9 (j + 1) c9)
        simp only [pgC, List.set] at hGz
        have HGZ := hid_ hGz
        have HOZ := hid_ (own_set (j := 4) (u := .slice A9 (j + 1) c9) hOx)
        clear hGz hOx hgx hatx hGx k9 f9 hc9 c4 c4a HOA HOC HGA HGC HOB HUA HUC HLN HLQ HBD HBE
        go_wp2
        go_roundw
        case rel => exact ⟨j + 1, by omega, by go_num, by rw [HAT.out], A9, c9, HGZ, by rw [HSN.out]; exact HOZ⟩
        case measure => simp [Go.RowKit.intOf]; omega)
    · obtain rfl : j = cnt := by omega
      rcases HC2.out with hx | ⟨hx, hx7⟩
      · have d1 : decide ((j : Int) < N) = false := decide_eq_false (by omega)
        clear hx
        clear hal
        have HAQ : Hid (a = 2 + 2 * j) := hid_ ha2
        have HPQ : Hid (gFr b = { pgZ with kind := 3, pages := (List.range j).map (fun j => getN b (2 + 2 * j) 2), next := z }) := hid_ (by rw [gFr, HCNT.out, ← ha2, hz])
        clear ha ha2 hz hzr
        go_wp2_with fail
        refine (HT.out _ hG.out.b).mono ?_
        rintro e _ ⟨rfl, rfl⟩
        have ck := hG.out.p.cell 5 rfl
        have fk := hG.out.p.frozen 5
        go_upto_region 36 with (fail)
        have hG2 := hG.out.set 5 (.int .i64 z)
        have hO2 := hid_ (own_set (j := 5) (u := .int .i64 z) hO.out)
        simp only [pgC, List.set] at hG2
        clear ck fk hG hO
        generalize wr.setCell ⟨w.heap.size + 1, 5, none⟩ (.int .i64 z) = W5 at hG2 hO2 ⊢
        have HG2 := hid_ hG2
        clear hG2
        have F := hid_ (fin5 (q := { pgZ with kind := 3, pages := (List.range j).map (fun j => getN b (2 + 2 * j) 2), next := z }) (a := .slice none 0 0) (b := .slice none 0 0) (c := .slice none 0 0) (d := .slice Av j cv) HG2.out (Own.nil_ _ _ _) (Own.nil_ _ _ _) (Own.nil_ _ _ _) hO2.out)
        have c0 := HG2.out.p.cell 0 rfl
        have z0 := HG2.out.z.cell 0 rfl
        have c1 := HG2.out.p.cell 1 rfl
        have z1 := HG2.out.z.cell 1 rfl
        have c2 := HG2.out.p.cell 2 rfl
        have z2 := HG2.out.z.cell 2 rfl
        have c3 := HG2.out.p.cell 3 rfl
        have z3 := HG2.out.z.cell 3 rfl
        have c4 := HG2.out.p.cell 4 rfl
        have z4 := HG2.out.z.cell 4 rfl
        have c5 := HG2.out.p.cell 5 rfl
        have z5 := HG2.out.z.cell 5 rfl
        have c6 := HG2.out.p.cell 6 rfl
        have z6 := HG2.out.z.cell 6 rfl
        have c7 := HG2.out.p.cell 7 rfl
        have z7 := HG2.out.z.cell 7 rfl
        have c8 := HG2.out.p.cell 8 rfl
        have z8 := HG2.out.z.cell 8 rfl
        have c9 := HG2.out.p.cell 9 rfl
        have z9 := HG2.out.z.cell 9 rfl
        have c10 := HG2.out.p.cell 10 rfl
        have z10 := HG2.out.z.cell 10 rfl
        have zf := fun j => HG2.out.z.frozen j
        go_wp2
        refine bodyPost_ret (results_c rfl _ _ w.heap.size 28 _ (0, 0) _ rfl F.out.1 Try.underlying28 rfl (by kernel_rfl)) rfl ?_
        exact ⟨_, rfl, by rw [HPQ.out]; exact F.out.2.1, F.out.2.2⟩
      · have d1 : decide ((j : Int) < N) = true := decide_eq_true hx
        have d2 : decide ((j : Int) ≤ 200) = false := decide_eq_false (by omega)
        have d3 : ¬ j ≤ 200 := by omega
        clear hx hx7
        clear hal
        have HAQ : Hid (a = 2 + 2 * j) := hid_ ha2
        have HPQ : Hid (gFr b = { pgZ with kind := 3, pages := (List.range j).map (fun j => getN b (2 + 2 * j) 2), next := z }) := hid_ (by rw [gFr, HCNT.out, ← ha2, hz])
        clear ha ha2 hz hzr
        go_wp2_with fail
        refine (HT.out _ hG.out.b).mono ?_
        rintro e _ ⟨rfl, rfl⟩
        have ck := hG.out.p.cell 5 rfl
        have fk := hG.out.p.frozen 5
        go_upto_region 36 with (fail)
        have hG2 := hG.out.set 5 (.int .i64 z)
        have hO2 := hid_ (own_set (j := 5) (u := .int .i64 z) hO.out)
        simp only [pgC, List.set] at hG2
        clear ck fk hG hO
        generalize wr.setCell ⟨w.heap.size + 1, 5, none⟩ (.int .i64 z) = W5 at hG2 hO2 ⊢
        have HG2 := hid_ hG2
        clear hG2
        have F := hid_ (fin5 (q := { pgZ with kind := 3, pages := (List.range j).map (fun j => getN b (2 + 2 * j) 2), next := z }) (a := .slice none 0 0) (b := .slice none 0 0) (c := .slice none 0 0) (d := .slice Av j cv) HG2.out (Own.nil_ _ _ _) (Own.nil_ _ _ _) (Own.nil_ _ _ _) hO2.out)
        have c0 := HG2.out.p.cell 0 rfl
        have z0 := HG2.out.z.cell 0 rfl
        have c1 := HG2.out.p.cell 1 rfl
        have z1 := HG2.out.z.cell 1 rfl
        have c2 := HG2.out.p.cell 2 rfl
        have z2 := HG2.out.z.cell 2 rfl
        have c3 := HG2.out.p.cell 3 rfl
        have z3 := HG2.out.z.cell 3 rfl
        have c4 := HG2.out.p.cell 4 rfl
        have z4 := HG2.out.z.cell 4 rfl
        have c5 := HG2.out.p.cell 5 rfl
        have z5 := HG2.out.z.cell 5 rfl
        have c6 := HG2.out.p.cell 6 rfl
        have z6 := HG2.out.z.cell 6 rfl
        have c7 := HG2.out.p.cell 7 rfl
        have z7 := HG2.out.z.cell 7 rfl
        have c8 := HG2.out.p.cell 8 rfl
        have z8 := HG2.out.z.cell 8 rfl
        have c9 := HG2.out.p.cell 9 rfl
        have z9 := HG2.out.z.cell 9 rfl
        have c10 := HG2.out.p.cell 10 rfl
        have z10 := HG2.out.z.cell 10 rfl
        have zf := fun j => HG2.out.z.frozen j
        go_wp2
        refine bodyPost_ret (results_c rfl _ _ w.heap.size 28 _ (0, 0) _ rfl F.out.1 Try.underlying28 rfl (by kernel_rfl)) rfl ?_
        exact ⟨_, rfl, by rw [HPQ.out]; exact F.out.2.1, F.out.2.2⟩
set_option maxRecDepth 10000 in
set_option maxHeartbeats 8000000 in
theorem guess5_2 (A : Option Addr) (m c : Nat) (b : List Int) (w : World) (hR : Row byteT w A m b) (hc : m ≤ c) (hb : ∀ x ∈ b, 0 ≤ x ∧ x < 256) :
    Calls Try.prog 48 #[.int .i64 2, .slice A m c] w fun e w' => ∃ v, e = .returned v ∧ PgFr w.heap.size w' (gBr b) v ∧ Bel w w' := by
  have HR := hid_ hR
  have HBB := hid_ hb
  have HCC := hid_ hc
  clear hR hb hc
  go_enter Try.func48, Try.ntmps48
  go_upto_region 2 with (fail)
  have hs := sizeAl w (.cells zeroC.toArray 28)
  have hp := Bx.new (w.alloc (.cells zeroC.toArray 28)) 28 [.int .i64 2, .slice none 0 0, .slice none 0 0, .slice none 0 0, .slice none 0 0, .int .i64 0, .int .u64 0, .int .i64 0, .int .i64 0, .int .i64 0, .int .i64 0]
  rw [hs] at hp
  have hG : GB w ((w.alloc (.cells zeroC.toArray 28)).alloc (.cells [.int .i64 2, .slice none 0 0, .slice none 0 0, .slice none 0 0, .slice none 0 0, .int .i64 0, .int .u64 0, .int .i64 0, .int .i64 0, .int .i64 0, .int .i64 0].toArray 28)) [.int .i64 2, .slice none 0 0, .slice none 0 0, .slice none 0 0, .slice none 0 0, .int .i64 0, .int .u64 0, .int .i64 0, .int .i64 0, .int .i64 0, .int .i64 0] := ⟨(Bx.new w 28 zeroC).alloc _, hp, ((Bel.refl w).alloc _).alloc _⟩
  unfold zeroC at hG
  clear hs hp
  generalize (w.alloc _).alloc _ = W0 at hG ⊢
  have HG := hid_ hG
  clear hG
  obtain ⟨N, hN⟩ : ∃ N, getN b 0 2 = N := ⟨_, rfl⟩
  have HNR := hid_ (get2_rng HBB.out 0)
  have HT0 := hid_ (getAt (c := c) HR.out HBB.out (a := 0) (at_ := 0) rfl (by omega) (kk := 2) (k := 2) rfl (by omega))
  rw [hN] at HNR HT0
  have HN := hid_ hN
  have en : IntKind.i64.wrap N = N := wrapI (by have := HNR.out; omega)
  clear hN
  go_wp2_with fail
  refine (HT0.out _ HG.out.b).mono ?_
  rintro e _ ⟨rfl, rfl⟩
  obtain ⟨cnt, hcnt⟩ : ∃ cnt, gCnt b 13 = cnt := ⟨_, rfl⟩
  have HCNT := hid_ hcnt
  have HC1 : Hid (∀ j : Nat, j < cnt → (j : Int) < N ∧ j ≤ 12) := hid_ (fun j hj => by rw [← hcnt, gCnt, HN.out] at hj; have := HNR.out; omega)
  have HC2 : Hid (¬ (cnt : Int) < N ∨ (cnt : Int) < N ∧ cnt = 13) := hid_ (by rw [← hcnt, gCnt, HN.out]; have := HNR.out; omega)
  have z9 : cnt ≤ 13 := by rw [← hcnt, gCnt]; omega
  clear hcnt
  have HG : Hid (GB w W0 (pgC { pgZ with kind := 2 } (.slice none 0 0) (.slice none 0 0) (.slice none 0 0) (.slice none 0 0))) := HG
  obtain ⟨y, hy⟩ : ∃ y, getN b 2 2 = y := ⟨_, rfl⟩
  have HYY := hid_ hy
  have ey : IntKind.i64.wrap y = y := wrapI (by rw [← hy]; have := get2_rng HBB.out 2; omega)
  have HT := hid_ (getAt (c := c) HR.out HBB.out (a := 2) (at_ := 2) rfl (by omega) (kk := 2) (k := 2) rfl (by omega))
  rw [hy] at HT
  have HLQ : Hid ((([] : List Int) ++ [y]).length = 0 + 1) := hid_ rfl
  have HLN : Hid ((([] : List Int).length + 1) * 8 ≤ 140737488355328) := hid_ (by simp)
  have HOD : Hid (Own intT W0 (w.heap.size + 2) (.slice none 0 0) []) := hid_ (Own.nil_ _ _ _)
  have c3 := HG.out.p.cell 3 rfl
  have c3a := (HG.out.bel ((Bel.refl W0).alloc (.cells #[.int .i64 y] 3))).p.cell 3 rfl
  have HBD : Hid (Bel w W0.drew) := hid_ HG.out.b.drew
  have HBE : Hid (Bel w W0) := hid_ HG.out.b
  have HOA := hid_ ((HOD.out.bel ((Bel.refl W0).drew)).alloc_ (.cells #[.int .i64 y] 3))
  have HOC := hid_ ((HOD.out.alloc_ (.cells #[.int .i64 y] 3)).bel ((Bel.refl _).drew))
  have HGA := hid_ (HG.out.bel (((Bel.refl W0).drew).alloc (.cells #[.int .i64 y] 3)))
  have HGC := hid_ (HG.out.bel (((Bel.refl W0).alloc (.cells #[.int .i64 y] 3)).drew))
  have HOB := hid_ HOD.out.base_
  have HUA : Hid (w.heap.size + 2 ≤ (W0.drew.alloc (.cells #[.int .i64 y] 3)).heap.size) := hid_ (by have := HGA.out.lt; exact this)
  have HUC : Hid (w.heap.size + 2 ≤ (W0.alloc (.cells #[.int .i64 y] 3)).drew.heap.size) := hid_ (by have := HGC.out.lt; exact this)
  clear hy
  go_upto_region 14 with (fail)
  go_region_law (first
    | (refine stepAppB intS rfl _ _ rfl (.slice none 0 0) ([]) [y] (some ⟨W0.heap.size, 0, none⟩) 1 1 rfl rfl HOA.out (Row.one (T := intT) y rfl rfl) HUA.out HLN.out ?_; intro v1 x1 hOx hgx hatx; have hGx := HGA.out.keep hgx HOB.out; obtain ⟨A9, c9, rfl, hc9, _⟩ := hOx.readsN' HLQ.out; have k9 := hGx.p.cell 3 rfl; have f9 := hGx.p.frozen 3)
    | (refine stepAppB intS rfl _ _ rfl (.slice none 0 0) ([]) [y] (some ⟨W0.heap.size, 0, none⟩) 1 1 rfl rfl HOC.out ((Row.one (T := intT) (W := W0) y rfl rfl).bel ((Bel.refl _).drew)) HUC.out HLN.out ?_; intro v1 x1 hOx hgx hatx; have hGx := HGC.out.keep hgx HOB.out; obtain ⟨A9, c9, rfl, hc9, _⟩ := hOx.readsN' HLQ.out; have k9 := hGx.p.cell 3 rfl; have f9 := hGx.p.frozen 3)
    | (go_simp; go_wp2_with (go_at_call 49; with_reducible refine' Calls.mono (HT.out _ HBD.out) ?_; rintro e _ ⟨rfl, rfl⟩))
    | (go_simp; go_wp2_with (go_at_call 49; with_reducible refine' Calls.mono (HT.out _ HBE.out) ?_; rintro e _ ⟨rfl, rfl⟩)))
  all_goals (
    have hGz := hGx.set 3 (.slice A9 (0 + 1) c9)
    simp only [pgC, List.set] at hGz
    have HGZ := hid_ hGz
    have HOZ := hid_ (own_set (j := 3) (u := .slice A9 (0 + 1) c9) hOx)
    clear hGz hOx hgx hatx hGx k9 f9 hc9 c3 c3a HOD HOA HOC HGA HGC HOB HUA HUC HLN HLQ HT HG HBD HBE
    go_wp2_with fail
    go_loopw [7, 11, 12] (fun at_ i _ wr => ∃ j : Nat, j ≤ cnt ∧ i = .int .i64 j ∧ at_ = .int .i64 (gAtB b j : Nat) ∧ ∃ (Av : Option Addr) (cv : Nat) (Bv : Option Addr) (dv : Nat), Hid (GB w wr (pgC { pgZ with kind := 2 } (.slice none 0 0) (.slice Av j cv) (.slice Bv (j + 1) dv) (.slice none 0 0))) ∧ Hid (Own strT wr (w.heap.size + 2) (.slice Av j cv) ((List.range j).map (gKey b))) ∧ Hid (Own intT wr (w.heap.size + 2) (.slice Bv (j + 1) dv) (y :: (List.range j).map (gKid b))) ∧ Hid (NeRow (.slice Av j cv) (.slice Bv (j + 1) dv))) (fun _ i _ _ => cnt - (Go.RowKit.intOf i).toNat)
    case atStart => exact ⟨0, Nat.zero_le _, rfl, rfl, none, 0, A9, c9, HGZ, hid_ (Own.nil_ _ _ _), HOZ, hid_ (NeRow.nilL _)⟩
    case round =>
      obtain ⟨j, hj, rfl, rfl, Av, cv, Bv, dv, hG, hO, hU, hN⟩ := hrel
      clear HGZ HOZ
      by_cases hjn : j < cnt
      · have hc := HC1.out j hjn
        have d1 : decide ((j : Int) < N) = true := decide_eq_true hc.1
        have d2 : decide ((j : Int) ≤ 12) = true := decide_eq_true (by omega)
        have d3 : j ≤ 12 := hc.2
        obtain ⟨a, ha⟩ : ∃ a, gAtB b j = a := ⟨_, rfl⟩
        have hal : a ≤ 8000 := by have := gAtB_le b HBB.out j; omega
        obtain ⟨k, hk⟩ : ∃ k, pieceP b a = k := ⟨_, rfl⟩
        have hkl : k.size < 256 := by rw [← hk]; exact pieceP_size b HBB.out a
        obtain ⟨z, hz⟩ : ∃ z, getN b (a + 1 + k.size) 2 = z := ⟨_, rfl⟩
        have hzr : 0 ≤ z ∧ z < 65536 := by rw [← hz]; exact get2_rng HBB.out _
        have HPK := hid_ (pieceAt (c := c) HR.out HCC.out HBB.out (a := (a : Int)) (at_ := a) rfl (by omega))
        have HT := hid_ (getAt (c := c) HR.out HBB.out (a := (a : Int) + 1 + (k.size : Int)) (at_ := a + 1 + k.size) (by omega) (by omega) (kk := 2) (k := 2) rfl (by omega))
        rw [hk] at HPK
        rw [hz] at HT
        rw [ha]
        have ez : IntKind.i64.wrap z = z := wrapI (by omega)
        have HAT : Hid (((gAtB b (j + 1) : Nat) : Int) = (a : Int) + 3 + (k.size : Int)) := hid_ (by rw [gAtB, ha, hk]; omega)
        have HSK : Hid ((List.range (j + 1)).map (gKey b) = (List.range j).map (gKey b) ++ [k]) := hid_ (by rw [range_snoc, gKey, ha, hk])
        have HSD : Hid (y :: (List.range (j + 1)).map (gKid b) = (y :: (List.range j).map (gKid b)) ++ [z]) := hid_ (by rw [range_snoc, gKid, ha, hk, hz]; rfl)
        have e1 : IntKind.i64.wrap ((a : Int) + 1) = (a : Int) + 1 := wrapI (by omega)
        have e2 : IntKind.i64.wrap ((a : Int) + 1 + (k.size : Int)) = (a : Int) + 1 + (k.size : Int) := wrapI (by omega)
        have e3 : IntKind.i64.wrap ((a : Int) + 3) = (a : Int) + 3 := wrapI (by omega)
        have e4 : IntKind.i64.wrap ((a : Int) + 3 + (k.size : Int)) = (a : Int) + 3 + (k.size : Int) := wrapI (by omega)
        obtain ⟨KL, hKL⟩ : ∃ L, (List.range j).map (gKey b) = L := ⟨_, rfl⟩
        obtain ⟨DL, hDL⟩ : ∃ L, y :: (List.range j).map (gKid b) = L := ⟨_, rfl⟩
        have hkll : KL.length = j := by rw [← hKL]; simp
        have hdll : DL.length = j + 1 := by rw [← hDL]; simp
        rw [hKL] at hO HSK
        rw [hDL] at hU HSD
        have HKQ : Hid ((KL ++ [k]).length = j + 1) := hid_ (by simp [hkll])
        have HKN : Hid ((KL.length + 1) * 16 ≤ 140737488355328) := hid_ (by rw [hkll]; omega)
        have HLQ : Hid ((DL ++ [z]).length = j + 1 + 1) := hid_ (by simp [hdll])
        have HLN : Hid ((DL.length + 1) * 8 ≤ 140737488355328) := hid_ (by rw [hdll]; omega)
        have HSZ : Hid (w.heap.size + 2 ≤ (wr.alloc (.cells #[.string k] 9)).heap.size) := hid_ (by have := hG.out.lt; simp; omega)
        clear ha hk hz hc hal hkl hzr hKL hDL hkll hdll
        go_wp2_with fail
        refine (HPK.out _ hG.out.b).mono ?_
        rintro e _ ⟨rfl, rfl⟩
        have c2 := hG.out.p.cell 2 rfl
        go_upto_region 21 with (at_builtin; refine wpAppB (base := w.heap.size + 2) strS rfl _ _ rfl (.slice Av j cv) KL [k] (some ⟨wr.heap.size, 0, none⟩) 1 1 rfl rfl (hO.out.alloc_ _) (Row.one (T := strT) k rfl rfl) HSZ.out HKN.out ?_; intro v8 x8 hO8 hg8 hat8; obtain ⟨A8, c8, rfl, hc8, _⟩ := hO8.readsN' HKQ.out; have hG8 := (hG.out.bel ((Bel.refl wr).alloc (.cells #[.string k] 9))).keep hg8 hO.out.base_; have k8 := hG8.p.cell 2 rfl; have f8 := hG8.p.frozen 2)
        have hU8 := (hU.out.alloc_ (.cells #[.string k] 9)).kept_ hg8 hN.out.other
        have hN8 := NeRow.app hN.out hat8 (hU.out.alloc_ (.cells #[.string k] 9))
        have hGy := hG8.set 2 (.slice A8 (j + 1) c8)
        simp only [pgC, List.set] at hGy
        have hOy := own_set (j := 2) (u := .slice A8 (j + 1) c8) hO8
        have hUy := own_set (j := 2) (u := .slice A8 (j + 1) c8) hU8
        clear hO8 hg8 hat8 hG8 k8 f8 hc8 c2 hU8 hG hO hU hN
        generalize x8.setCell ⟨w.heap.size + 1, 2, none⟩ (.slice A8 (j + 1) c8) = X at hGy hOy hUy ⊢
        have HN8 := hid_ hN8
        have c3 := hGy.p.cell 3 rfl
        have c3a := (hGy.bel ((Bel.refl X).alloc (.cells #[.int .i64 z] 3))).p.cell 3 rfl
        have HBD : Hid (Bel w X.drew) := hid_ hGy.b.drew
        have HBE : Hid (Bel w X) := hid_ hGy.b
        have HOA := hid_ ((hUy.bel ((Bel.refl X).drew)).alloc_ (.cells #[.int .i64 z] 3))
        have HOC := hid_ ((hUy.alloc_ (.cells #[.int .i64 z] 3)).bel ((Bel.refl _).drew))
        have HGA := hid_ (hGy.bel (((Bel.refl X).drew).alloc (.cells #[.int .i64 z] 3)))
        have HGC := hid_ (hGy.bel (((Bel.refl X).alloc (.cells #[.int .i64 z] 3)).drew))
        have HOB := hid_ hUy.base_
        have HUA : Hid (w.heap.size + 2 ≤ (X.drew.alloc (.cells #[.int .i64 z] 3)).heap.size) := hid_ (by have := HGA.out.lt; exact this)
        have HUC : Hid (w.heap.size + 2 ≤ (X.alloc (.cells #[.int .i64 z] 3)).drew.heap.size) := hid_ (by have := HGC.out.lt; exact this)
        have HKA := hid_ ((hOy.bel ((Bel.refl X).drew)).alloc_ (.cells #[.int .i64 z] 3))
        have HKC := hid_ ((hOy.alloc_ (.cells #[.int .i64 z] 3)).bel ((Bel.refl _).drew))
        clear hGy hOy hUy hN8
        go_region_law (first
          | (refine stepAppB intS rfl _ _ rfl (.slice Bv (j + 1) dv) (DL) [z] (some ⟨X.heap.size, 0, none⟩) 1 1 rfl rfl HOA.out (Row.one (T := intT) z rfl rfl) HUA.out HLN.out ?_; intro v1 x1 hOx hgx hatx; have hGx := HGA.out.keep hgx HOB.out; obtain ⟨A9, c9, rfl, hc9, _⟩ := hOx.readsN' HLQ.out; have k9 := hGx.p.cell 3 rfl; have f9 := hGx.p.frozen 3; have hKx := HKA.out.kept_ hgx HN8.out.symm.other; have hNx := (NeRow.app HN8.out.symm hatx HKA.out).symm)
          | (refine stepAppB intS rfl _ _ rfl (.slice Bv (j + 1) dv) (DL) [z] (some ⟨X.heap.size, 0, none⟩) 1 1 rfl rfl HOC.out ((Row.one (T := intT) (W := X) z rfl rfl).bel ((Bel.refl _).drew)) HUC.out HLN.out ?_; intro v1 x1 hOx hgx hatx; have hGx := HGC.out.keep hgx HOB.out; obtain ⟨A9, c9, rfl, hc9, _⟩ := hOx.readsN' HLQ.out; have k9 := hGx.p.cell 3 rfl; have f9 := hGx.p.frozen 3; have hKx := HKC.out.kept_ hgx HN8.out.symm.other; have hNx := (NeRow.app HN8.out.symm hatx HKC.out).symm)
          | (go_simp; go_wp2_with (go_at_call 49; with_reducible refine' Calls.mono (HT.out _ HBD.out) ?_; rintro e _ ⟨rfl, rfl⟩))
          | (go_simp; go_wp2_with (go_at_call 49; with_reducible refine' Calls.mono (HT.out _ HBE.out) ?_; rintro e _ ⟨rfl, rfl⟩)))
        all_goals (
          have hGz := hGx.set 3 (.slice A9 (j + 1 + 1) c9)
          simp only [pgC, List.set] at hGz
          have HGZ := hid_ hGz
          have HUZ := hid_ (own_set (j := 3) (u := .slice A9 (j + 1 + 1) c9) hOx)
          have HKZ := hid_ (own_set (j := 3) (u := .slice A9 (j + 1 + 1) c9) hKx)
          have HNZ := hid_ hNx
          clear hGz hOx hgx hatx hGx k9 f9 hc9 c3 c3a HOA HOC HGA HGC HOB HUA HUC HLN HLQ HKA HKC HN8 hKx hNx HBD HBE
          go_wp2
          go_roundw
          case rel => exact ⟨j + 1, by omega, by go_num, by rw [HAT.out], A8, c8, A9, c9, HGZ, by rw [HSK.out]; exact HKZ, by rw [HSD.out]; exact HUZ, HNZ⟩
          case measure => simp [Go.RowKit.intOf]; omega)
      · obtain rfl : j = cnt := by omega
        rcases HC2.out with hx | ⟨hx, hx7⟩
        · have d1 : decide ((j : Int) < N) = false := decide_eq_false (by omega)
          clear hx
          go_upto_region 36 with (fail)
          have HPQ : Hid (gBr b = { pgZ with kind := 2, keys := (List.range j).map (gKey b), kids := y :: (List.range j).map (gKid b) }) := hid_ (by rw [gBr, HCNT.out, HYY.out])
          have F := hid_ (fin5 (q := { pgZ with kind := 2, keys := (List.range j).map (gKey b), kids := y :: (List.range j).map (gKid b) }) (a := .slice none 0 0) (b := .slice Av j cv) (c := .slice Bv (j + 1) dv) (d := .slice none 0 0) hG.out (Own.nil_ _ _ _) hO.out hU.out (Own.nil_ _ _ _))
          have c0 := hG.out.p.cell 0 rfl
          have z0 := hG.out.z.cell 0 rfl
          have c1 := hG.out.p.cell 1 rfl
          have z1 := hG.out.z.cell 1 rfl
          have c2 := hG.out.p.cell 2 rfl
          have z2 := hG.out.z.cell 2 rfl
          have c3 := hG.out.p.cell 3 rfl
          have z3 := hG.out.z.cell 3 rfl
          have c4 := hG.out.p.cell 4 rfl
          have z4 := hG.out.z.cell 4 rfl
          have c5 := hG.out.p.cell 5 rfl
          have z5 := hG.out.z.cell 5 rfl
          have c6 := hG.out.p.cell 6 rfl
          have z6 := hG.out.z.cell 6 rfl
          have c7 := hG.out.p.cell 7 rfl
          have z7 := hG.out.z.cell 7 rfl
          have c8 := hG.out.p.cell 8 rfl
          have z8 := hG.out.z.cell 8 rfl
          have c9 := hG.out.p.cell 9 rfl
          have z9 := hG.out.z.cell 9 rfl
          have c10 := hG.out.p.cell 10 rfl
          have z10 := hG.out.z.cell 10 rfl
          have zf := fun j => hG.out.z.frozen j
          go_wp2
          refine bodyPost_ret (results_c rfl _ _ w.heap.size 28 _ (0, 0) _ rfl F.out.1 Try.underlying28 rfl (by kernel_rfl)) rfl ?_
          exact ⟨_, rfl, by rw [HPQ.out]; exact F.out.2.1, F.out.2.2⟩
        · have d1 : decide ((j : Int) < N) = true := decide_eq_true hx
          have d2 : decide ((j : Int) ≤ 12) = false := decide_eq_false (by omega)
          have d3 : ¬ j ≤ 12 := by omega
          clear hx hx7
          go_upto_region 36 with (fail)
          have HPQ : Hid (gBr b = { pgZ with kind := 2, keys := (List.range j).map (gKey b), kids := y :: (List.range j).map (gKid b) }) := hid_ (by rw [gBr, HCNT.out, HYY.out])
          have F := hid_ (fin5 (q := { pgZ with kind := 2, keys := (List.range j).map (gKey b), kids := y :: (List.range j).map (gKid b) }) (a := .slice none 0 0) (b := .slice Av j cv) (c := .slice Bv (j + 1) dv) (d := .slice none 0 0) hG.out (Own.nil_ _ _ _) hO.out hU.out (Own.nil_ _ _ _))
          have c0 := hG.out.p.cell 0 rfl
          have z0 := hG.out.z.cell 0 rfl
          have c1 := hG.out.p.cell 1 rfl
          have z1 := hG.out.z.cell 1 rfl
          have c2 := hG.out.p.cell 2 rfl
          have z2 := hG.out.z.cell 2 rfl
          have c3 := hG.out.p.cell 3 rfl
          have z3 := hG.out.z.cell 3 rfl
          have c4 := hG.out.p.cell 4 rfl
          have z4 := hG.out.z.cell 4 rfl
          have c5 := hG.out.p.cell 5 rfl
          have z5 := hG.out.z.cell 5 rfl
          have c6 := hG.out.p.cell 6 rfl
          have z6 := hG.out.z.cell 6 rfl
          have c7 := hG.out.p.cell 7 rfl
          have z7 := hG.out.z.cell 7 rfl
          have c8 := hG.out.p.cell 8 rfl
          have z8 := hG.out.z.cell 8 rfl
          have c9 := hG.out.p.cell 9 rfl
          have z9 := hG.out.z.cell 9 rfl
          have c10 := hG.out.p.cell 10 rfl
          have z10 := hG.out.z.cell 10 rfl
          have zf := fun j => hG.out.z.frozen j
          go_wp2
          refine bodyPost_ret (results_c rfl _ _ w.heap.size 28 _ (0, 0) _ rfl F.out.1 Try.underlying28 rfl (by kernel_rfl)) rfl ?_
          exact ⟨_, rfl, by rw [HPQ.out]; exact F.out.2.1, F.out.2.2⟩)
theorem guess5_any (k : Int) (A : Option Addr) (m c : Nat) (b : List Int) (w : World) (hR : Row byteT w A m b) (hc : m ≤ c) (hb : ∀ x ∈ b, 0 ≤ x ∧ x < 256) :
    Calls Try.prog 48 #[.int .i64 k, .slice A m c] w fun e w' => ∃ v, e = .returned v ∧ PgFr w.heap.size w' (guessP k b) v ∧ Bel w w' := by
  unfold guessP
  by_cases k1 : k = 1
  · subst k1
    rw [if_pos rfl]
    exact guess5_1 A m c b w hR hc hb
  rw [if_neg k1]
  by_cases k2 : k = 2
  · subst k2
    rw [if_pos rfl]
    exact guess5_2 A m c b w hR hc hb
  rw [if_neg k2]
  by_cases k3 : k = 3
  · subst k3
    rw [if_pos rfl]
    exact guess5_3 A m c b w hR hc hb
  rw [if_neg k3]
  by_cases k4 : k = 4
  · subst k4
    rw [if_pos rfl]
    exact guess5_4 A m c b w hR hc hb
  rw [if_neg k4]
  exact guess5_o k A m c b w hR hc hb k1 k2 k3 k4
end Go.Proofs.Ytcfabnkkkpcelaa
