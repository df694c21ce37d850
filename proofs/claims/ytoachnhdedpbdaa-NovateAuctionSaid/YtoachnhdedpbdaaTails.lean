/- A tail of a row of the call's own, whose head is written. -/
import Derived.Test.YtoachnhdedpbdaaWd
namespace Go.Proofs.Ytoachnhdedpbdaa
open Go.RowKit
variable {α : Type} {T : Ty α}
def Tl (T : Ty α) (w : World) (g : Nat) (v : Value) (xs : List α) : Prop :=
  ∃ A c, v = .slice A xs.length c ∧ xs.length ≤ c ∧ c ≤ 9223372036854775807 ∧ (xs ≠ [] → ∃ off cur, A = some ⟨g, off, none⟩ ∧ w.heap[g]? = some (.cells cur T.e (0, 0)) ∧
    ∀ j x i u, xs[j]? = some x → (T.enc x)[i]? = some u → cur[off + j * T.sz + i]? = some u)
theorem Own.tl {w : World} {base : Nat} {v : Value} {xs : List α} (h : Own T w base v xs) : ∃ g, Tl T w g v xs ∧ (xs ≠ [] → base ≤ g ∧ g < w.heap.size ∧ v.ownBlock = some g) := by
  rcases h.2 with ⟨rfl, h0⟩ | ⟨g, cap, cur, rfl, hb, hh, hnc, hcm, hcs, htake⟩
  · have : xs = [] := List.eq_nil_of_length_eq_zero h0
    subst this
    exact ⟨0, ⟨none, 0, rfl, by simp, by omega, fun h => absurd rfl h⟩, fun h => absurd rfl h⟩
  · refine ⟨g, ⟨_, cap, rfl, hnc, by simp only [maxLen] at hcm; omega, fun _ => ⟨0, cur, rfl, hh, fun j x i u hj hu => ?_⟩⟩, fun _ => ⟨hb, (Array.getElem?_eq_some_iff.1 hh).1, rfl⟩⟩
    have h1 := T.flatAt xs j x hj i u hu
    have h2 := (List.getElem?_eq_some_iff.1 h1).1
    rw [T.flat] at h2
    rw [← htake, List.getElem?_take, if_pos h2] at h1
    rw [Nat.zero_add, ← Array.getElem?_toList]
    exact h1
theorem Tl.keep {w w1 : World} {g : Nat} {v : Value} {xs : List α} (h : Tl T w g v xs) (hb : g < w.heap.size → w1.heap[g]? = w.heap[g]?) : Tl T w1 g v xs := by
  obtain ⟨A, c, e, h1, h2, h3⟩ := h
  refine ⟨A, c, e, h1, h2, fun hn => ?_⟩
  obtain ⟨off, cur, e1, hh, hc⟩ := h3 hn
  exact ⟨off, cur, e1, (hb (Array.getElem?_eq_some_iff.1 hh).1).trans hh, hc⟩
theorem Tl.bel {w w1 : World} {g : Nat} {v : Value} {xs : List α} (h : Tl T w g v xs) (hb : Bel w w1) : Tl T w1 g v xs := h.keep fun hg => hb.block g hg
theorem Tl.grown {w w1 : World} {row : Option Nat} {g : Nat} {v : Value} {xs : List α} (h : Tl T w g v xs) (hg : w.grownBy w1 row) (hne : some g ≠ row) : Tl T w1 g v xs := h.keep fun hlt => hg.block g hlt hne
theorem Tl.setFar {w : World} {g : Nat} {v : Value} {xs : List α} (h : Tl T w g v xs) {p : Addr} (hp : g ≠ p.block) (u : Value) : Tl T (w.setCell p u) g v xs := h.keep fun _ => Below.heap_setCell w p u g hp
theorem Tl.slice_ {w : World} {g : Nat} {v : Value} {xs : List α} (h : Tl T w g v xs) : ∃ A c, v = .slice A xs.length c ∧ xs.length ≤ c := by
  obtain ⟨A, c, e, h1, _⟩ := h
  exact ⟨A, c, e, h1⟩
/-- The head's cells. -/
theorem Tl.head {w : World} {g : Nat} {v : Value} {x : α} {xs : List α} (h : Tl T w g v (x :: xs)) : ∃ off c, v = .slice (some ⟨g, off, none⟩) (xs.length + 1) c ∧ xs.length + 1 ≤ c ∧
    (∀ i u, (T.enc x)[i]? = some u → w.cell? ⟨g, off + i, none⟩ = some u) ∧ (∀ i, w.frozen? ⟨g, off + i, none⟩ = false) := by
  obtain ⟨A, c, rfl, h1, h2, h3⟩ := h
  obtain ⟨off, cur, rfl, hh, hc⟩ := h3 (by simp)
  refine ⟨off, c, rfl, h1, fun i u hu => ?_, fun i => by simp [World.frozen?, hh]⟩
  rw [cell_of_row _ _ _ _ _ _ hh]
  have := hc 0 x i u rfl hu
  simpa using this
/-- A cell of the head is written. -/
theorem Tl.setHead {w : World} {g off n c : Nat} {x x' : α} {xs : List α} (h : Tl T w g (.slice (some ⟨g, off, none⟩) n c) (x :: xs)) (i : Nat) (u : Value) (hi : i < T.sz) (he : T.enc x' = (T.enc x).set i u) :
    Tl T (w.setCell ⟨g, off + i, none⟩ u) g (.slice (some ⟨g, off, none⟩) n c) (x' :: xs) := by
  obtain ⟨A, c', e, h1, h2, h3⟩ := h
  injection e with e1 e2 e3
  subst e1 e2 e3
  refine ⟨_, c, rfl, h1, h2, fun _ => ?_⟩
  obtain ⟨off', cur, e4, hh, hc⟩ := h3 (by simp)
  injection e4 with e4
  injection e4 with _ e5
  subst e5
  refine ⟨off, cur.setIfInBounds (off + i) u, rfl, by simp [World.setCell, Array.getElem?_modify, hh], fun j y k z hj hz => ?_⟩
  have hin : off + i < cur.size := by
    have hi' : i < (T.enc x).length := by rw [T.len]; exact hi
    have := hc 0 x i _ rfl (List.getElem?_eq_getElem hi')
    have := (Array.getElem?_eq_some_iff.1 this).1
    omega
  rcases j with _ | j
  · have hy : y = x' := by simpa using hj.symm
    subst hy
    rw [he] at hz
    rw [Array.getElem?_setIfInBounds]
    by_cases hk : i = k
    · subst hk
      have hi' : i < (T.enc x).length := by rw [T.len]; exact hi
      rw [List.getElem?_set_self hi'] at hz
      rw [if_pos (by omega), if_pos hin]
      exact hz
    · rw [List.getElem?_set_ne hk] at hz
      rw [if_neg (by omega)]
      exact hc 0 x k z rfl hz
  · have hk : k < T.sz := by rw [← T.len y]; exact (List.getElem?_eq_some_iff.1 hz).1
    rw [Array.getElem?_setIfInBounds, if_neg (by rw [Nat.add_mul]; omega)]
    exact hc (j + 1) y k z (by simpa using hj) hz
/-- 'v[1:]'. -/
def tailV (sz : Nat) : Value → Value
  | .slice A n c => .slice (if c = 1 then A else A.map (·.add sz)) (n - 1) (c - 1)
  | v => v
def lenOf : Value → Nat
  | .slice _ n _ => n
  | _ => 0
theorem Tl.tailRun {P : Program} {t : TypeId} {bytes : Nat} {z : Value} (S : SlT P t T bytes z) {w : World} {g n c : Nat} {A : Option Addr} {x : α} {xs : List α} (h : Tl T w g (.slice A n c) (x :: xs)) (W : World) :
    (Instr.slice t (.slice A n c) (some (.int .i64 1)) none none).run P W = .ok (tailV T.sz (.slice A n c)) W := by
  obtain ⟨A0, c', e, h1, h2, h3⟩ := h
  injection e with e1 e2 e3
  subst e1 e2 e3
  have hel : P.elem t = T.e := by simp [Program.elem, S.ut]
  have hu : P.underlying t = some (.slice (P.elem t)) := by rw [hel]; exact S.ut
  obtain ⟨i, hi, hsz⟩ := S.size
  simp only [List.length_cons] at h1 ⊢
  rw [run_slice_l W t A (xs.length + 1) c hu .i64 1 (by omega) (by omega), hel]
  simp [sizeOf, typeInfo, hi, hsz, sliced, Result.andThen, tailV]
theorem Tl.tail {w : World} {g n c : Nat} {A : Option Addr} {x : α} {xs : List α} (h : Tl T w g (.slice A n c) (x :: xs)) : Tl T w g (tailV T.sz (.slice A n c)) xs := by
  obtain ⟨A0, c', e, h1, h2, h3⟩ := h
  injection e with e1 e2 e3
  subst e1 e2 e3
  simp only [List.length_cons] at h1 ⊢
  refine ⟨_, c - 1, rfl, by omega, by omega, fun hn => ?_⟩
  obtain ⟨off, cur, rfl, hh, hc⟩ := h3 (by simp)
  have hpos : 0 < xs.length := List.length_pos_iff.2 hn
  rw [if_neg (by omega)]
  have hadd : (⟨g, off, none⟩ : Addr).add T.sz = ⟨g, off + T.sz, none⟩ := by unfold Addr.add; have := T.pos; split <;> simp_all
  refine ⟨off + T.sz, cur, by simp [hadd], hh, fun j y k z hj hz => ?_⟩
  have := hc (j + 1) y k z (by simpa using hj) hz
  rw [Nat.add_mul, Nat.one_mul] at this
  rw [← this]
  congr 1
  omega
theorem Tl.headAt {w : World} {g off n c : Nat} {x : α} {xs : List α} (h : Tl T w g (.slice (some ⟨g, off, none⟩) n c) (x :: xs)) :
    (∀ i u, (T.enc x)[i]? = some u → w.cell? ⟨g, off + i, none⟩ = some u) ∧ (∀ i, w.frozen? ⟨g, off + i, none⟩ = false) := by
  obtain ⟨off', c', e, _, hc, hf⟩ := h.head
  injection e with e
  injection e with e
  injection e with _ e
  subst e
  exact ⟨hc, hf⟩
theorem Tl.len_ {w : World} {g : Nat} {v : Value} {xs : List α} (h : Tl T w g v xs) : lenOf v = xs.length := by
  obtain ⟨A, c, rfl, _⟩ := h
  rfl
theorem Tl.lt_ {w : World} {g : Nat} {v : Value} {xs : List α} (h : Tl T w g v xs) (hn : xs ≠ []) : g < w.heap.size := by
  obtain ⟨A, c, rfl, _, _, h3⟩ := h
  obtain ⟨_, _, _, hh, _⟩ := h3 hn
  exact (Array.getElem?_eq_some_iff.1 hh).1
end Go.Proofs.Ytoachnhdedpbdaa
