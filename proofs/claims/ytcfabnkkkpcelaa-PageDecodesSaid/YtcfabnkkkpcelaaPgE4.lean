/- page.body, of every kind; what laid leaves is the page's bytes. -/
import Derived.Test.YtcfabnkkkpcelaaPgE2a
import Derived.Test.YtcfabnkkkpcelaaPgE2b
import Derived.Test.YtcfabnkkkpcelaaPgE2c
import Derived.Test.YtcfabnkkkpcelaaPgE2d
import Derived.Test.YtcfabnkkkpcelaaPgE3
set_option linter.unusedSimpArgs false
set_option linter.unusedVariables false
namespace Go.Proofs.Ytcfabnkkkpcelaa
open Go.RowKit Go.Maps
theorem body_any (P : Pg) (A B C D : Option Addr) (n c m d k e l f : Nat) (w : World) (hP : PgAt w P A n B m C k D l) (ho : okP P = true) :
    Calls Try.prog 21 #[pgV P (.slice A n c) (.slice B m d) (.slice C k e) (.slice D l f)] w fun e w' => ∃ v, e = .returned v ∧ Own byteT w' w.heap.size v (bodyP P) ∧ Bel w w' := by
  have hn1 := hP.pairs.1
  have hn2 := hP.keys.1
  have hn3 := hP.kids.1
  have hn4 := hP.pages.1
  rcases okP_cases ho with ⟨e0, h⟩ | ⟨e0, h⟩ | ⟨e0, h⟩ | ⟨e0, h⟩
  · obtain ⟨⟨_, h1, h2⟩, _⟩ := ok1_facts h
    rw [body_1 e0]
    exact body1_any P A B C D n c m d k e l f w hP e0 (by omega) (fun x hx => by have := h2 x hx; omega)
  · obtain ⟨⟨h0, h1, h2, h3, _⟩, _⟩ := ok2_facts h
    rw [body_2 e0]
    exact body2_any P A B C D n c m d k e l f w hP e0 (by omega) (by omega) (by omega) (fun x hx => by have := h3 x hx; omega)
  · obtain ⟨⟨h1, _⟩, _⟩ := ok3_facts h
    rw [body_3 e0]
    exact body3_any P A B C D n c m d k e l f w hP e0 (by omega)
  · rw [body_4 e0]
    exact body4_any P A B C D n c m d k e l f w hP e0
theorem farOwn {α : Type} {T : Ty α} {w : World} {base n c : Nat} {A : Option Addr} {xs : List α} (h : Own T w base (.slice A n c) xs) : ∀ k, k < base ∨ w.heap.size ≤ k → ∀ ad, A = some ad → some ad.block ≠ some k := by
  rintro k hk ad rfl e
  injection e with e
  have h1 := h.base_ ad.block rfl
  have h2 := h.lt_ ad.block rfl
  omega
/-! ### lists by their places -/
theorem ext_getD {a b : List Int} (hl : a.length = b.length) (h : ∀ i, i < a.length → a.getD i 0 = b.getD i 0) : a = b := by
  apply List.ext_getElem hl
  intro i h1 h2
  have := h i h1
  rw [List.getD_eq_getElem?_getD, List.getD_eq_getElem?_getD, List.getElem?_eq_getElem h1, List.getElem?_eq_getElem h2] at this
  exact this
theorem app_get (a b : List Int) (i : Nat) : (a ++ b).getD i 0 = if i < a.length then a.getD i 0 else b.getD (i - a.length) 0 := by
  simp only [List.getD_eq_getElem?_getD, List.getElem?_append]
  split <;> rfl
theorem pad_get (n : Nat) (l : List Int) (i : Nat) : (padB n l).getD i 0 = l.getD i 0 := by
  rw [padB, app_get]
  split
  · rfl
  · rw [repl_get]
    rw [List.getD_eq_getElem?_getD, List.getElem?_eq_none (by omega)]
    rfl
theorem encS_get (s : Int) {P : Pg} (h : P.kind = 4) (i : Nat) : (encS s P).getD i 0 = if i < 8 then (ei P.epoch).getD i 0 else if i < 512 then (textP s P).getD (i - 8) 0 else if i < 1016 then (textP s P).getD (i - 512) 0 else (ei P.epoch).getD (i - 1016) 0 := by
  have hp : (padB 504 (textP s P)).length = 504 := pad_len (by rw [text4_len s h]; omega)
  rw [encS, app_get, app_get, app_get, List.length_append, ei_len, hp, pad_get, pad_get]
  by_cases h1 : i < 8
  · rw [if_pos (by omega), if_pos h1, if_pos h1]
  · rw [if_neg h1, if_neg h1]
    by_cases h2 : i < 512
    · rw [if_pos (by omega), if_pos h2]
    · rw [if_neg (by omega), if_neg h2]
      by_cases h3 : i < 1016
      · rw [if_pos (by omega), if_pos h3]
      · rw [if_neg (by omega), if_neg h3]
        have e : i - (8 + 504) - 504 = i - 1016 := by omega
        rw [e]
theorem get_none {l : List Int} {i : Nat} (h : l.length ≤ i) : l.getD i 0 = 0 := by
  rw [List.getD_eq_getElem?_getD, List.getElem?_eq_none h]
  rfl
def parts4 (A8 : Option Addr) (c8 : Nat) (A7 : Option Addr) (c7 : Nat) (s : Int) (P : Pg) : List Part :=
  [⟨0, A8, 8, c8, ei P.epoch⟩, ⟨8, A7, 15, c7, textP s P⟩, ⟨512, A7, 15, c7, textP s P⟩, ⟨1016, A8, 8, c8, ei P.epoch⟩]
theorem at_off {L T : List Int} {a n i : Nat} (h : ∀ j, j < n → L.getD (a + j) 0 = T.getD j 0) (h1 : a ≤ i) (h2 : i < a + n) : L.getD i 0 = T.getD (i - a) 0 := by
  have := h (i - a) (by omega)
  rwa [Nat.add_sub_of_le h1] at this
theorem laidOn {ps : List Part} {L : List Int} (h : LaidL ps (ps.map (fun p => (p.at_ : Int))) L) {p : Part} (hp : p ∈ ps) {a n : Nat} {T : List Int} (ea : p.at_ = a) (en : p.m = n) (eT : p.bs = T) : ∀ j, j < n → L.getD (a + j) 0 = T.getD j 0 := by
  subst ea en eT
  exact h.on p hp (List.mem_map.2 ⟨p, hp, rfl⟩)
theorem laidOff {ps : List Part} {L : List Int} (h : LaidL ps (ps.map (fun p => (p.at_ : Int))) L) {i : Nat} (hp : ∀ p ∈ ps, ¬ (p.at_ ≤ i ∧ i < p.at_ + p.m)) : L.getD i 0 = 0 := h.off i (fun p h1 _ => hp p h1)
theorem off4 {A8 A7 : Option Addr} {c8 c7 : Nat} {s : Int} {P : Pg} {i : Nat} (h1 : 8 ≤ i) (h2 : i < 8 ∨ 23 ≤ i) (h3 : i < 512 ∨ 527 ≤ i) (h4 : i < 1016) : ∀ p ∈ parts4 A8 c8 A7 c7 s P, ¬ (p.at_ ≤ i ∧ i < p.at_ + p.m) := by
  intro p hp
  simp only [parts4, List.mem_cons, List.mem_nil_iff, or_false] at hp
  rcases hp with rfl | rfl | rfl | rfl <;> dsimp only <;> omega
theorem laid_encS {A8 A7 : Option Addr} {c8 c7 : Nat} {s : Int} {P : Pg} {L : List Int} (hk : P.kind = 4) (h : LaidL (parts4 A8 c8 A7 c7 s P) ((parts4 A8 c8 A7 c7 s P).map (fun p => (p.at_ : Int))) L) : L = encS s P := by
  have tl := text4_len s hk
  have hlen := h.len
  refine ext_getD (by rw [hlen, encS_len hk]) (fun i hi => ?_)
  rw [hlen] at hi
  rw [encS_get s hk]
  by_cases h1 : i < 8
  · rw [if_pos h1]
    exact at_off (laidOn h (p := ⟨0, A8, 8, c8, ei P.epoch⟩) (List.mem_cons_self ..) rfl rfl rfl) (Nat.zero_le _) (by omega)
  rw [if_neg h1]
  by_cases h2 : i < 512
  · rw [if_pos h2]
    by_cases h3 : i < 23
    · exact at_off (laidOn h (p := ⟨8, A7, 15, c7, textP s P⟩) (List.mem_cons_of_mem _ (List.mem_cons_self ..)) rfl rfl rfl) (by omega) (by omega)
    · rw [get_none (show (textP s P).length ≤ i - 8 by omega)]
      exact laidOff h (off4 (by omega) (by omega) (by omega) (by omega))
  rw [if_neg h2]
  by_cases h3 : i < 1016
  · rw [if_pos h3]
    by_cases h4 : i < 527
    · exact at_off (laidOn h (p := ⟨512, A7, 15, c7, textP s P⟩) (List.mem_cons_of_mem _ (List.mem_cons_of_mem _ (List.mem_cons_self ..))) rfl rfl rfl) (by omega) (by omega)
    · rw [get_none (show (textP s P).length ≤ i - 512 by omega)]
      exact laidOff h (off4 (by omega) (by omega) (by omega) (by omega))
  rw [if_neg h3]
  exact at_off (laidOn h (p := ⟨1016, A8, 8, c8, ei P.epoch⟩) (List.mem_cons_of_mem _ (List.mem_cons_of_mem _ (List.mem_cons_of_mem _ (List.mem_cons_self ..)))) rfl rfl rfl) (by omega) (by omega)
theorem parts4_ok {w : World} {A8 A7 : Option Addr} {c8 c7 : Nat} {s : Int} {P : Pg} (h8 : Row byteT w A8 8 (ei P.epoch)) (h7 : Row byteT w A7 15 (textP s P)) (k8 : 8 ≤ c8) (k7 : 15 ≤ c7) : PartsW w (parts4 A8 c8 A7 c7 s P) := by
  refine ⟨fun p hp => ?_, fun p hp q hq => ?_⟩
  · simp only [parts4, List.mem_cons, List.mem_nil_iff, or_false] at hp
    rcases hp with rfl | rfl | rfl | rfl
    · exact ⟨h8, k8, by show 0 < 8; omega, by show 0 + 8 ≤ 1024; omega⟩
    · exact ⟨h7, k7, by show 0 < 15; omega, by show 8 + 15 ≤ 1024; omega⟩
    · exact ⟨h7, k7, by show 0 < 15; omega, by show 512 + 15 ≤ 1024; omega⟩
    · exact ⟨h8, k8, by show 0 < 8; omega, by show 1016 + 8 ≤ 1024; omega⟩
  · simp only [parts4, List.mem_cons, List.mem_nil_iff, or_false] at hp hq
    rcases hp with rfl | rfl | rfl | rfl <;> rcases hq with rfl | rfl | rfl | rfl <;> simp
set_option maxRecDepth 10000 in
theorem laid_encN {A7 : Option Addr} {c7 m : Nat} {s : Int} {P : Pg} {L : List Int} (ho : okP P = true) (hm : m = (textP s P).length) (h : LaidL [⟨0, A7, m, c7, textP s P⟩] [((0 : Nat) : Int)] L) :
    L.take 1016 = padB 1016 (textP s P) ∧ putL L 1016 (sumE (padB 1016 (textP s P))) = encN s P := by
  have hb := body_len ho
  have ht : (textP s P).length ≤ 905 := by rw [text_len]; omega
  have hg : ∀ i, L.getD i 0 = (textP s P).getD i 0 := fun i => by
    by_cases h1 : i < m
    · have := h.on ⟨0, A7, m, c7, textP s P⟩ (List.mem_singleton.2 rfl) (List.mem_singleton.2 rfl) i h1
      simpa using this
    · rw [get_none (show (textP s P).length ≤ i by omega)]
      refine h.off i (fun p hp _ => ?_)
      rw [List.mem_singleton] at hp
      subst hp
      simp only
      omega
  have hp : (padB 1016 (textP s P)).length = 1016 := pad_len (by omega)
  have h1 : L.take 1016 = padB 1016 (textP s P) := by
    refine ext_getD (by rw [List.length_take, h.len, hp]; rfl) (fun i hi => ?_)
    rw [pad_get, ← hg, List.getD_eq_getElem?_getD, List.getD_eq_getElem?_getD, List.getElem?_take_of_lt (by rw [List.length_take] at hi; omega)]
  refine ⟨h1, ?_⟩
  rw [putL, sumE_len, h1, List.drop_of_length_le (by rw [h.len]; decide), List.append_nil]
  rfl
end Go.Proofs.Ytcfabnkkkpcelaa
