/- Pages: the plain law: their bytes, and the page of bytes. -/
import Derived.Test.YtcfabnkkkpcelaaCrW
import Derived.Laws.BytesArg
set_option linter.unusedSimpArgs false
set_option linter.unusedVariables false
namespace Go.Proofs.Ytcfabnkkkpcelaa
open Go.RowKit
structure PairV where
  key : ByteArray
  val : ByteArray
deriving DecidableEq
structure Pg where
  kind : Int
  pairs : List PairV
  keys : List ByteArray
  kids : List Int
  pages : List Int
  next : Int
  epoch : Int
  root : Int
  depth : Int
  count : Int
  high : Int
deriving DecidableEq
def pgZ : Pg := ⟨0, [], [], [], [], 0, 0, 0, 0, 0, 0⟩
def placeB (n : Int) : Bool := decide (2 ≤ n) && decide (n < 4096)
def keyB (s : ByteArray) : Bool := decide (1 ≤ s.size) && decide (s.size ≤ 48)
def lessB (a b : ByteArray) : Bool := !(Op.bytesLess b.toList a.toList || b.toList == a.toList)
def riseAt (l : List ByteArray) (i : Nat) : Bool := keyB (l.getD i .empty) && (decide (i = 0) || lessB (l.getD (i - 1) .empty) (l.getD i .empty))
def riseB (l : List ByteArray) : Bool := (List.range l.length).all (riseAt l)
def valsB (l : List PairV) : Bool := l.all (fun x => decide (x.val.size ≤ 100))
def leafB (l : List PairV) : Bool := valsB l && (decide (1 ≤ l.length) && (decide (l.length ≤ 6) && riseB (l.map PairV.key)))
def sortAt (l : List Int) (i : Nat) : Bool := decide (i = 0) || !decide (l.getD i 0 < l.getD (i - 1) 0)
def neqAt (l : List Int) (i : Nat) : Bool := decide (i = 0) || !decide (l.getD i 0 = l.getD (i - 1) 0)
def sortB (l : List Int) : Bool := (List.range l.length).all (sortAt l)
def neqB (l : List Int) : Bool := (List.range l.length).all (neqAt l)
def headsB (P : Pg) : Bool := decide (P.epoch = 0) && (decide (P.root = 0) && (decide (P.depth = 0) && (decide (P.count = 0) && decide (P.high = 0))))
def nextB (n : Int) : Bool := decide (n = 0) || placeB n
def noneB (P : Pg) : Bool := decide (P.root = 0) && (decide (P.depth = 0) && decide (P.count = 0))
def someB (P : Pg) : Bool := placeB P.root && (decide (1 ≤ P.depth) && (decide (P.depth ≤ 20) && (decide (1 ≤ P.count) && decide (P.count ≤ 2147483647))))
def superB (P : Pg) : Bool :=
  (noneB P || someB P) &&
    (decide (2 ≤ P.high) && (decide (P.high ≤ 4096) && nextB P.next))
def noPairs (P : Pg) : Bool := decide (P.pairs.length = 0)
def noKids (P : Pg) : Bool := decide (P.keys.length = 0) && decide (P.kids.length = 0)
def noPages (P : Pg) : Bool := decide (P.pages.length = 0)
def fitB (P : Pg) : Bool := decide (1 ≤ P.keys.length) && (decide (P.keys.length ≤ 12) && decide (P.kids.length = P.keys.length + 1))
def ok1 (P : Pg) : Bool := leafB P.pairs && (noKids P && (noPages P && (headsB P && decide (P.next = 0))))
def ok2 (P : Pg) : Bool := fitB P && (riseB P.keys && (P.kids.all placeB && (noPairs P && (noPages P && (headsB P && decide (P.next = 0))))))
def ok3 (P : Pg) : Bool := (sortB P.pages && neqB P.pages) && (decide (P.pages.length ≤ 200) && (P.pages.all placeB && (nextB P.next && (noPairs P && (noKids P && headsB P)))))
def ok4 (P : Pg) : Bool := superB P && (noPairs P && (noKids P && noPages P))
def okP (P : Pg) : Bool := if P.kind = 1 then ok1 P else if P.kind = 2 then ok2 P else if P.kind = 3 then ok3 P else if P.kind = 4 then ok4 P else false
def chkP (P : Pg) : Int := if okP P then 0 else 50
def hereB (s : Int) (P : Pg) : Bool := if P.kind = 4 then decide (s = 0) || decide (s = 1) else placeB s
def okE (s : Int) (P : Pg) : Bool := okP P && hereB s P
/-! ### bytes -/
def byL (s : ByteArray) : List Int := s.data.toList.map fun b => (b.toNat : Int)
def tw (n : Int) : List Int := [n / 256 % 256, n % 256]
def txt (s : ByteArray) : List Int := (s.size : Int) :: byL s
def pairB (x : PairV) : List Int := txt x.key ++ txt x.val
def kidB (x : ByteArray × Int) : List Int := txt x.1 ++ tw x.2
def body1 (P : Pg) : List Int := tw P.pairs.length ++ P.pairs.flatMap pairB
def body2 (P : Pg) : List Int := tw P.keys.length ++ (tw (P.kids.getD 0 0) ++ (P.keys.zip P.kids.tail).flatMap kidB)
def body3 (P : Pg) : List Int := tw P.pages.length ++ (P.pages.flatMap tw ++ tw P.next)
def body4 (P : Pg) : List Int := tw P.root ++ (tw P.depth ++ (tw (P.count / 65536) ++ (tw (P.count % 65536) ++ (tw P.high ++ tw P.next))))
def bodyP (P : Pg) : List Int := if P.kind = 1 then body1 P else if P.kind = 2 then body2 P else if P.kind = 3 then body3 P else body4 P
def textP (s : Int) (P : Pg) : List Int := P.kind :: (tw s ++ bodyP P)
def padB (n : Nat) (l : List Int) : List Int := l ++ List.replicate (n - l.length) 0
def ei (n : Int) : List Int := (tw (n / 281474976710656) ++ tw (n / 4294967296)) ++ (tw (n / 65536) ++ tw n)
def sumE (l : List Int) : List Int := ei (uv (more 0#64 l))
def encN (s : Int) (P : Pg) : List Int := padB 1016 (textP s P) ++ sumE (padB 1016 (textP s P))
def encS (s : Int) (P : Pg) : List Int := (ei P.epoch ++ padB 504 (textP s P)) ++ (padB 504 (textP s P) ++ ei P.epoch)
def encP (s : Int) (P : Pg) : List Int := if P.kind = 4 then encS s P else encN s P
/-! ### reading -/
def rd2 : List Int → Option (Int × List Int)
  | x :: y :: r => some (x * 256 + y, r)
  | _ => none
def rdT : List Int → Option (ByteArray × List Int)
  | [] => none
  | n :: r => if n.toNat ≤ r.length then some (strOfNums (r.take n.toNat), r.drop n.toNat) else none
def rdLeaf : Nat → List PairV → List Int → Option (List PairV × List Int)
  | 0, ps, r => some (ps, r)
  | n + 1, ps, r => if ps.length < 6 then
      match rdT r with
      | none => none
      | some (k, r1) => match rdT r1 with
        | none => none
        | some (v, r2) => rdLeaf n (ps ++ [⟨k, v⟩]) r2
    else none
def rdBr : Nat → List ByteArray → List Int → List Int → Option (List ByteArray × List Int × List Int)
  | 0, ks, ds, r => some (ks, ds, r)
  | n + 1, ks, ds, r => if ks.length < 12 then
      match rdT r with
      | none => none
      | some (k, r1) => match rd2 r1 with
        | none => none
        | some (d, r2) => rdBr n (ks ++ [k]) (ds ++ [d]) r2
    else none
def rdFr : Nat → List Int → List Int → Option (List Int × List Int)
  | 0, ps, r => some (ps, r)
  | n + 1, ps, r => match rd2 r with
    | none => none
    | some (d, r2) => rdFr n (ps ++ [d]) r2
def rd1 (ep : Int) (r : List Int) : Option Pg :=
  match rd2 r with
  | none => none
  | some (n, r1) => match rdLeaf n.toNat [] r1 with
    | none => none
    | some (ps, _) => some { pgZ with kind := 1, epoch := ep, pairs := ps }
def rdK2 (ep : Int) (r : List Int) : Option Pg :=
  match rd2 r with
  | none => none
  | some (n, r1) => match rd2 r1 with
    | none => none
    | some (d, r2) => match rdBr n.toNat [] [d] r2 with
      | none => none
      | some (ks, ds, _) => some { pgZ with kind := 2, epoch := ep, keys := ks, kids := ds }
def rd3 (ep : Int) (r : List Int) : Option Pg :=
  match rd2 r with
  | none => none
  | some (n, r1) => match rdFr n.toNat [] r1 with
    | none => none
    | some (ps, r2) => match rd2 r2 with
      | none => none
      | some (x, _) => some { pgZ with kind := 3, epoch := ep, pages := ps, next := x }
def rd4 (ep : Int) (r : List Int) : Option Pg :=
  match rd2 r with
  | none => none
  | some (a, r1) => match rd2 r1 with
    | none => none
    | some (b, r2) => match rd2 r2 with
      | none => none
      | some (c, r3) => match rd2 r3 with
        | none => none
        | some (d, r4) => match rd2 r4 with
          | none => none
          | some (e, r5) => match rd2 r5 with
            | none => none
            | some (f, _) => some { pgZ with kind := 4, epoch := ep, root := a, depth := b, count := c * 65536 + d, high := e, next := f }
def rdP (kind ep : Int) (r : List Int) : Option Pg :=
  if kind = 1 then rd1 ep r else if kind = 2 then rdK2 ep r else if kind = 3 then rd3 ep r else if kind = 4 then rd4 ep r else some { pgZ with kind := kind, epoch := ep }
def isS (s : Int) : Bool := decide (s = 0) || decide (s = 1)
def val8 (l : List Int) : Int := l.foldl (fun a x => a * 256 + x) 0
def epO (s : Int) (b : List Int) : Int := if isS s then val8 (b.take 8) else 0
def reO (s : Int) (b : List Int) : List Int := if isS s then b.drop 8 else b
def rdO (s : Int) (b : List Int) : Option Pg := rdP ((reO s b).getD 0 0) (epO s b) ((reO s b).drop 3)
def decP (s : Int) (b : List Int) : Option Pg :=
  if b.length = 1024 then
    match rdO s b with
    | none => none
    | some q => if okE s q = true ∧ encP s q = b then some q else none
  else none
/-! ### facts -/
theorem okE_of {s : Int} {b : List Int} {q : Pg} (h : decP s b = some q) : okE s q = true ∧ encP s q = b ∧ b.length = 1024 := by
  unfold decP at h
  split at h
  · rename_i hl
    split at h
    · cases h
    · split at h
      · rename_i h'
        injection h with h
        subst h
        exact ⟨h'.1, h'.2, hl⟩
      · cases h
  · cases h
theorem byL_len (s : ByteArray) : (byL s).length = s.size := by
  unfold byL
  rw [List.length_map, Array.length_toList]
  rfl
theorem byL_byte (s : ByteArray) : ∀ x ∈ byL s, 0 ≤ x ∧ x < 256 := by
  intro x hx
  obtain ⟨b, _, rfl⟩ := List.mem_map.1 hx
  have := b.toNat_lt
  omega
theorem str_byL (s : ByteArray) : strOfNums (byL s) = s := by
  unfold strOfNums byL
  rw [List.map_map]
  have : (fun n : Int => UInt8.ofNat n.toNat) ∘ (fun b : UInt8 => (b.toNat : Int)) = id := by
    funext b
    simp
  rw [this, List.map_id]
theorem tw_len (n : Int) : (tw n).length = 2 := rfl
theorem tw_byte (n : Int) : ∀ x ∈ tw n, 0 ≤ x ∧ x < 256 := by
  intro x hx
  simp only [tw, List.mem_cons, List.mem_nil_iff, or_false] at hx
  rcases hx with rfl | rfl <;> omega
theorem ei_len (n : Int) : (ei n).length = 8 := rfl
theorem ei_byte (n : Int) : ∀ x ∈ ei n, 0 ≤ x ∧ x < 256 := by
  intro x hx
  unfold ei at hx
  simp only [List.mem_append] at hx
  rcases hx with (hx | hx) | (hx | hx) <;> exact tw_byte _ x hx
theorem tw_inj {a b : Int} (ha : 0 ≤ a ∧ a < 65536) (hb : 0 ≤ b ∧ b < 65536) (h : tw a = tw b) : a = b := by
  simp only [tw, List.cons.injEq, and_true] at h
  omega
theorem ei_val {n : Int} (h : 0 ≤ n ∧ n < 18446744073709551616) : val8 (ei n) = n := by
  simp only [val8, ei, tw, List.cons_append, List.nil_append, List.foldl_cons, List.foldl_nil]
  omega
theorem ei_inj {a b : Int} (ha : 0 ≤ a ∧ a < 18446744073709551616) (hb : 0 ≤ b ∧ b < 18446744073709551616) (h : ei a = ei b) : a = b := by
  rw [← ei_val ha, ← ei_val hb, h]
theorem rd2_tw {n : Int} (h : 0 ≤ n ∧ n < 65536) (X : List Int) : rd2 (tw n ++ X) = some (n, X) := by
  simp only [tw, List.cons_append, List.nil_append, rd2]
  congr 2
  omega
theorem rdT_txt (s : ByteArray) (X : List Int) : rdT (txt s ++ X) = some (s, X) := by
  simp only [txt, List.cons_append, rdT, Int.toNat_natCast]
  rw [if_pos (by rw [List.length_append, byL_len]; omega), List.take_left' (byL_len s), List.drop_left' (byL_len s), str_byL]
theorem rdLeaf_rt : ∀ (l acc : List PairV) (X : List Int), acc.length + l.length ≤ 6 → rdLeaf l.length acc (l.flatMap pairB ++ X) = some (acc ++ l, X)
  | [], acc, X, _ => by simp [rdLeaf]
  | x :: l, acc, X, h => by
    rw [List.length_cons, List.flatMap_cons, rdLeaf, if_pos (by simp at h; omega)]
    simp only [pairB, List.append_assoc, rdT_txt]
    have := rdLeaf_rt l (acc ++ [⟨x.key, x.val⟩]) X (by simp at h ⊢; omega)
    rw [this]
    simp
theorem rdBr_rt : ∀ (ks : List ByteArray) (ds : List Int) (ak : List ByteArray) (ad : List Int) (X : List Int), ks.length = ds.length → ak.length + ks.length ≤ 12 → (∀ d ∈ ds, 0 ≤ d ∧ d < 65536) →
    rdBr ks.length ak ad ((ks.zip ds).flatMap kidB ++ X) = some (ak ++ ks, ad ++ ds, X)
  | [], [], ak, ad, X, _, _, _ => by simp [rdBr]
  | [], _ :: _, _, _, _, h, _, _ => by simp at h
  | _ :: _, [], _, _, _, h, _, _ => by simp at h
  | k :: ks, d :: ds, ak, ad, X, h, hk, hd => by
    rw [List.length_cons, List.zip_cons_cons, List.flatMap_cons, rdBr, if_pos (by simp at hk; omega)]
    simp only [kidB, List.append_assoc, rdT_txt, rd2_tw (hd d (List.mem_cons_self ..))]
    have := rdBr_rt ks ds (ak ++ [k]) (ad ++ [d]) X (by simpa using h) (by simp at hk ⊢; omega) (fun d' h' => hd d' (List.mem_cons_of_mem _ h'))
    rw [this]
    simp
theorem rdFr_rt : ∀ (l acc : List Int) (X : List Int), (∀ d ∈ l, 0 ≤ d ∧ d < 65536) → rdFr l.length acc (l.flatMap tw ++ X) = some (acc ++ l, X)
  | [], acc, X, _ => by simp [rdFr]
  | d :: l, acc, X, hd => by
    rw [List.length_cons, List.flatMap_cons, rdFr]
    simp only [List.append_assoc, rd2_tw (hd d (List.mem_cons_self ..))]
    rw [rdFr_rt l (acc ++ [d]) X (fun d' h' => hd d' (List.mem_cons_of_mem _ h'))]
    simp
theorem placeB_iff (n : Int) : placeB n = true ↔ 2 ≤ n ∧ n < 4096 := by simp [placeB]
theorem nextB_rng {n : Int} (h : nextB n = true) : 0 ≤ n ∧ n < 4096 := by
  simp only [nextB, Bool.or_eq_true, decide_eq_true_eq, placeB_iff] at h
  omega
theorem headsB_iff (P : Pg) : headsB P = true ↔ P.epoch = 0 ∧ P.root = 0 ∧ P.depth = 0 ∧ P.count = 0 ∧ P.high = 0 := by simp [headsB]
theorem noPairs_iff (P : Pg) : noPairs P = true ↔ P.pairs = [] := by simp [noPairs]
theorem noKids_iff (P : Pg) : noKids P = true ↔ P.keys = [] ∧ P.kids = [] := by simp [noKids]
theorem noPages_iff (P : Pg) : noPages P = true ↔ P.pages = [] := by simp [noPages]
theorem rise_key {l : List ByteArray} (h : riseB l = true) : ∀ k ∈ l, 1 ≤ k.size ∧ k.size ≤ 48 := by
  intro k hk
  obtain ⟨i, hi, e⟩ := List.mem_iff_getElem.1 hk
  unfold riseB at h
  have := (List.all_eq_true.1 h) i (by simpa using hi)
  simp only [riseAt, keyB, Bool.and_eq_true, decide_eq_true_eq] at this
  rw [List.getD_eq_getElem?_getD, List.getElem?_eq_getElem hi, Option.getD_some, e] at this
  exact this.1
theorem leaf_facts {l : List PairV} (h : leafB l = true) : 1 ≤ l.length ∧ l.length ≤ 6 ∧ ∀ x ∈ l, 1 ≤ x.key.size ∧ x.key.size ≤ 48 ∧ x.val.size ≤ 100 := by
  simp only [leafB, valsB, Bool.and_eq_true, decide_eq_true_eq, List.all_eq_true] at h
  refine ⟨h.2.1, h.2.2.1, fun x hx => ?_⟩
  have h1 := rise_key h.2.2.2 x.key (List.mem_map.2 ⟨x, hx, rfl⟩)
  exact ⟨h1.1, h1.2, h.1 x hx⟩
end Go.Proofs.Ytcfabnkkkpcelaa
