/- The document's Lists. -/
import Derived.Test.YtboaidjhhlidkaaAl19
set_option linter.unusedSimpArgs false
set_option linter.unusedVariables false
namespace Go.Proofs.Ytboaidjhhlidkaa
open Go.RowKit
def chunkF : Nat → List Int → List (List Int)
  | 0, _ => []
  | f + 1, l => match l with
    | [] => []
    | x :: r => (x :: r).take 200 :: chunkF f ((x :: r).drop 200)
theorem chunkF_eq : ∀ (f f' : Nat) (l : List Int), l.length ≤ f → l.length ≤ f' → chunkF f l = chunkF f' l
  | 0, 0, _, _, _ => rfl
  | 0, f' + 1, l, h, _ => by
    obtain rfl : l = [] := List.eq_nil_of_length_eq_zero (by omega)
    rfl
  | f + 1, 0, l, _, h => by
    obtain rfl : l = [] := List.eq_nil_of_length_eq_zero (by omega)
    rfl
  | f + 1, f' + 1, [], _, _ => rfl
  | f + 1, f' + 1, x :: r, h, h' => by
    unfold chunkF
    simp only [List.cons.injEq, true_and]
    have : ((x :: r).drop 200).length ≤ r.length := by simp
    simp only [List.length_cons] at h h'
    exact chunkF_eq f f' _ (by omega) (by omega)
def chunksP (l : List Int) : List (List Int) := chunkF l.length l
theorem chunksP_cons {l : List Int} (h : 0 < l.length) : chunksP l = l.take 200 :: chunksP (l.drop 200) := by
  unfold chunksP
  match l, h with
  | x :: r, _ =>
    rw [List.length_cons, chunkF]
    simp only [List.cons.injEq, true_and]
    exact chunkF_eq _ _ _ (by simp) (Nat.le_refl _)
theorem chunksP_nil {l : List Int} (h : l.length = 0) : chunksP l = [] := by
  obtain rfl : l = [] := List.eq_nil_of_length_eq_zero h
  rfl
theorem chunkF_len : ∀ (f : Nat) (l : List Int), (chunkF f l).length ≤ l.length
  | 0, _ => by simp [chunkF]
  | f + 1, [] => by simp [chunkF]
  | f + 1, x :: r => by
    have := chunkF_len f ((x :: r).drop 200)
    rw [chunkF, List.length_cons]
    rw [List.length_drop] at this
    simp only [List.length_cons] at this ⊢
    omega
theorem chunksP_len (l : List Int) : (chunksP l).length ≤ l.length := chunkF_len _ l
def slLen : Value → Nat
  | .slice _ n _ => n
  | _ => 0
theorem rowsAt_snoc {w : World} {ss : List SV} {ys : List (List Int)} {s : SV} {y : List Int} (h : RowsAt w ss ys) (hr : Row intT w s.1 s.2.1 y) : RowsAt w (ss ++ [s]) (ys ++ [y]) := by
  refine ⟨by rw [List.length_append, List.length_append, h.1]; rfl, fun k s' x hs hx => ?_⟩
  rcases Nat.lt_or_ge k ss.length with hk | hk
  · rw [List.getElem?_append_left hk] at hs
    rw [List.getElem?_append_left (by rw [← h.1]; exact hk)] at hx
    exact h.2 k s' x hs hx
  · rw [List.getElem?_append_right hk] at hs
    rw [List.getElem?_append_right (by rw [← h.1]; exact hk), ← h.1] at hx
    rcases hq : k - ss.length with _ | q
    · rw [hq] at hs hx
      simp at hs hx
      subst hs hx
      exact hr
    · rw [hq] at hs
      simp at hs
theorem fld1 (a : Int) (A B : Option Addr) (n c m d : Nat) (W : World) : (Instr.field 48 (.agg #[.int .i64 a, .slice A n c, .slice B m d]) 1).run Try.prog W = .ok (.slice A n c) W := by
  kernel_rfl
set_option maxRecDepth 10000 in
set_option maxHeartbeats 4000000 in
theorem listsR_any (h : Int) (A B : Option Addr) (n c m d : Nat) (F L : List Int) (w : World) (hA : Row intT w A n F) (hB : Row intT w B m L) (hs1 : n ≤ 40000) (hs2 : m ≤ 40000) :
    Calls Try.prog 46 #[.agg #[.int .i64 h, .slice A n c, .slice B m d]] w fun e w' => ∃ X q k ss, e = .returned (.slice X q k) ∧ q ≤ k ∧ Row svT w' X q ss ∧ RowsAt w' ss (chunksP (turnP F L)) ∧ Bel w w' := by
  have hG : (turnP F L).length ≤ 80000 := by rw [turnP_len, hA.1, hB.1]; omega
  obtain ⟨G, hGG⟩ : ∃ G, turnP F L = G := ⟨_, rfl⟩
  rw [hGG] at hG
  have HGL := hid_ hG
  have HGG := hid_ hGG
  clear hG hGG
  go_enter Try.func46, Try.ntmps46
  have k0 := Bx.new w 48 [.int .i64 h, .slice A n c, .slice B m d]
  have hb : Bel w (w.alloc (.cells #[.int .i64 h, .slice A n c, .slice B m d] 48)) := (Bel.refl w).alloc _
  have c0 := k0.cell 0 rfl
  have c1 := k0.cell 1 rfl
  have c2 := k0.cell 2 rfl
  go_wp2_with fail
  refine (turnR_any h A B n c m d F L _ (hA.bel hb) (hB.bel hb) (by omega) (by omega)).mono ?_
  rintro e w2 ⟨v, rfl, ⟨X0, q0, k0', Y0, j0, l0, rfl, hq0, _, r0, _⟩, b2⟩
  have HB := hid_ (hb.trans b2)
  rw [HGG.out] at r0
  have hfd := fld1 h X0 Y0 q0 k0' j0 l0 w2
  have HR0 := hid_ r0
  have HQ0 := hid_ hq0
  clear k0 hb c0 c1 c2 b2 r0 hq0
  go_wp2_with fail
  go_loopw [3, 4, 5] (fun s3 s4 _ wr => ∃ (X : Option Addr) (q k : Nat) (R : List Int) (v : Value) (ss : List SV) (ys : List (List Int)), s3 = .slice X q k ∧ s4 = v ∧ q ≤ k ∧ Row intT w2 X q R ∧ Own svT wr w2.heap.size v ss ∧ RowsAt w2 ss ys ∧ ys ++ chunksP R = chunksP G ∧ Bel w2 wr) (fun s3 _ _ _ => slLen s3)
  case atStart => exact ⟨X0, q0, k0', G, _, [], [], rfl, rfl, HQ0.out, HR0.out, Own.nil_ _ _ _, ⟨rfl, fun k s x hs => by simp at hs⟩, rfl, Bel.refl _⟩
  case round =>
    clear HQ0 HR0
    obtain ⟨X, q, k, R, v, ss, ys, rfl, rfl, hk, hr, hO, hRA, hys, hbr⟩ := hrel
    have hle := chunksP_len G
    rw [← hys, List.length_append] at hle
    have hyl : ss.length ≤ 80000 := by rw [hRA.1]; have := HGL.out; omega
    have HYL := hid_ hyl
    have HYS := hid_ hys
    have HRA := hid_ hRA
    have HO := hid_ hO
    have HBR := hid_ hbr
    have HR := hid_ hr
    clear hle hyl hys hRA hO hbr hr
    by_cases h0 : q = 0
    · subst h0
      have hz : chunksP R = [] := chunksP_nil HR.out.1
      have hfin := HYS.out
      rw [hz, List.append_nil] at hfin
      have HFIN := hid_ hfin
      clear hz hfin HYS
      obtain ⟨Z, cz, rfl, hcz, rz⟩ := HO.out.reads
      obtain ⟨lz, hlz⟩ : ∃ lz, ss.length = lz := ⟨_, rfl⟩
      rw [hlz] at hcz rz ⊢
      have HCZ := hid_ hcz
      have RZ := hid_ rz
      clear hcz rz hlz
      go_wp2
      go_ret
      exact ⟨_, _, _, ss, rfl, HCZ.out, RZ.out, by rw [HGG.out, ← HFIN.out]; exact HRA.out.bel HBR.out, HB.out.trans HBR.out⟩
    · have h0' : (0 : Int) < (q : Int) := by omega
      by_cases h2 : 200 < q
      · have h2' : (200 : Int) < (q : Int) := by omega
        obtain ⟨A', hcut0, hrow⟩ := intS.cutFrom .i64 X q k 200 (by omega) hk
        have hcut : ∀ W : World, (Instr.slice 46 (.slice X q k) (some (.int .i64 200)) none none).run Try.prog W = .ok (.slice A' (q - 200) (k - 200)) W := hcut0
        have hcut2 : ∀ W : World, (Instr.slice 46 (.slice X q k) none (some (.int .i64 200)) none).run Try.prog W = .ok (.slice X 200 k) W := fun W => intS.cutTo .i64 X q k 200 (by omega) W
        have ra := hrow _ _ HR.out
        have rt := HR.out.take_ (m := 200) (by omega)
        have hst : chunksP R = R.take 200 :: chunksP (R.drop 200) := chunksP_cons (by rw [HR.out.1]; omega)
        have hne : ys ++ [R.take 200] ++ chunksP (R.drop 200) = chunksP G := by rw [List.append_assoc, List.singleton_append, ← hst]; exact HYS.out
        have RA := hid_ ra
        have RT := hid_ rt
        have HST := hid_ hne
        have HK := hid_ hk
        clear ra rt hrow hst hne HYS HR hcut0 hk
        go_wp2_with (at_builtin; refine wpApp (w0 := w2) svS rfl _ _ rfl _ ss [(X, 200, k)] (some ⟨wr.heap.size, 0, none⟩) 1 1 rfl rfl (HO.out.alloc_ _) (Row.one (T := svT) (X, 200, k) rfl rfl) (HBR.out.alloc _) (by have := HYL.out; omega) ?_; intro v1 x1 hO1 hb1 _ _)
        case roundEnd =>
          go_roundw
          case rel => exact ⟨A', (q - 200), k - 200, R.drop 200, v1, ss ++ [(X, 200, k)], ys ++ [R.take 200], rfl, rfl, by have := HK.out; omega, RA.out, hO1, rowsAt_snoc HRA.out RT.out, HST.out, hb1⟩
          case measure => simp [slLen]; omega
      · obtain ⟨A', hcut0, hrow⟩ := intS.cutFrom .i64 X q k q (by omega) hk
        have hcut : ∀ W : World, (Instr.slice 46 (.slice X q k) (some (.int .i64 q)) none none).run Try.prog W = .ok (.slice A' 0 (k - q)) W := fun W => by have := hcut0 W; rw [Nat.sub_self] at this; exact this
        have hcut2 : ∀ W : World, (Instr.slice 46 (.slice X q k) none (some (.int .i64 q)) none).run Try.prog W = .ok (.slice X q k) W := fun W => intS.cutTo .i64 X q k q (by omega) W
        have ra := hrow _ _ HR.out
        have rt := HR.out.take_ (m := q) (by omega)
        have hst : chunksP R = R.take q :: chunksP (R.drop q) := by have h := chunksP_cons (l := R) (by rw [HR.out.1]; omega); rw [List.take_of_length_le (by rw [HR.out.1]; omega), List.drop_of_length_le (by rw [HR.out.1]; omega)] at h; rw [List.take_of_length_le (by rw [HR.out.1]; omega), List.drop_of_length_le (by rw [HR.out.1]; omega)]; exact h
        have hne : ys ++ [R.take q] ++ chunksP (R.drop q) = chunksP G := by rw [List.append_assoc, List.singleton_append, ← hst]; exact HYS.out
        have RA := hid_ ra
        have RT := hid_ rt
        have HST := hid_ hne
        have HK := hid_ hk
        clear ra rt hrow hst hne HYS HR hcut0 hk
        go_wp2_with (at_builtin; refine wpApp (w0 := w2) svS rfl _ _ rfl _ ss [(X, q, k)] (some ⟨wr.heap.size, 0, none⟩) 1 1 rfl rfl (HO.out.alloc_ _) (Row.one (T := svT) (X, q, k) rfl rfl) (HBR.out.alloc _) (by have := HYL.out; omega) ?_; intro v1 x1 hO1 hb1 _ _)
        case roundEnd =>
          go_roundw
          case rel => exact ⟨A', 0, k - q, R.drop q, v1, ss ++ [(X, q, k)], ys ++ [R.take q], rfl, rfl, by have := HK.out; omega, by have := RA.out; rw [Nat.sub_self] at this; exact this, hO1, rowsAt_snoc HRA.out RT.out, HST.out, hb1⟩
          case measure => simp [slLen]; omega
end Go.Proofs.Ytboaidjhhlidkaa
