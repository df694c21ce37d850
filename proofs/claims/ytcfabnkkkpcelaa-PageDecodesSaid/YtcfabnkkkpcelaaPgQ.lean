/- Pages: the plain law: a page is read back; lengths; bytes. -/
import Derived.Test.YtcfabnkkkpcelaaPgP
set_option linter.unusedSimpArgs false
set_option linter.unusedVariables false
namespace Go.Proofs.Ytcfabnkkkpcelaa
open Go.RowKit
theorem flat_le {α : Type} {f : α → List Int} {c : Nat} : ∀ (l : List α), (∀ x ∈ l, (f x).length ≤ c) → (l.flatMap f).length ≤ l.length * c
  | [], _ => by simp
  | x :: l, h => by
    have h1 := flat_le l (fun y hy => h y (List.mem_cons_of_mem _ hy))
    have h2 := h x (List.mem_cons_self ..)
    rw [List.flatMap_cons, List.length_append, List.length_cons, Nat.add_mul]
    omega
theorem txt_len (s : ByteArray) : (txt s).length = s.size + 1 := by rw [txt, List.length_cons, byL_len]
theorem ok1_facts {P : Pg} (h : ok1 P = true) : (1 ≤ P.pairs.length ∧ P.pairs.length ≤ 6 ∧ ∀ x ∈ P.pairs, 1 ≤ x.key.size ∧ x.key.size ≤ 48 ∧ x.val.size ≤ 100) ∧ P.keys = [] ∧ P.kids = [] ∧ P.pages = [] ∧ P.epoch = 0 ∧ P.root = 0 ∧ P.depth = 0 ∧ P.count = 0 ∧ P.high = 0 ∧ P.next = 0 := by
  simp only [ok1, Bool.and_eq_true, decide_eq_true_eq, noKids_iff, noPages_iff, headsB_iff] at h
  obtain ⟨h1, ⟨h2, h3⟩, h4, ⟨h5, h6, h7, h8, h9⟩, h10⟩ := h
  exact ⟨leaf_facts h1, h2, h3, h4, h5, h6, h7, h8, h9, h10⟩
theorem ok2_facts {P : Pg} (h : ok2 P = true) : (1 ≤ P.keys.length ∧ P.keys.length ≤ 12 ∧ P.kids.length = P.keys.length + 1 ∧ (∀ k ∈ P.keys, 1 ≤ k.size ∧ k.size ≤ 48) ∧ ∀ d ∈ P.kids, 2 ≤ d ∧ d < 4096) ∧ P.pairs = [] ∧ P.pages = [] ∧ P.epoch = 0 ∧ P.root = 0 ∧ P.depth = 0 ∧ P.count = 0 ∧ P.high = 0 ∧ P.next = 0 := by
  simp only [ok2, fitB, Bool.and_eq_true, decide_eq_true_eq, noPairs_iff, noPages_iff, headsB_iff, List.all_eq_true, placeB_iff] at h
  obtain ⟨⟨a, b, c⟩, h1, h2, h3, h4, ⟨h5, h6, h7, h8, h9⟩, h10⟩ := h
  exact ⟨⟨a, b, c, rise_key h1, h2⟩, h3, h4, h5, h6, h7, h8, h9, h10⟩
theorem ok3_facts {P : Pg} (h : ok3 P = true) : (P.pages.length ≤ 200 ∧ (∀ d ∈ P.pages, 2 ≤ d ∧ d < 4096) ∧ 0 ≤ P.next ∧ P.next < 4096) ∧ P.pairs = [] ∧ P.keys = [] ∧ P.kids = [] ∧ P.epoch = 0 ∧ P.root = 0 ∧ P.depth = 0 ∧ P.count = 0 ∧ P.high = 0 := by
  simp only [ok3, Bool.and_eq_true, decide_eq_true_eq, noPairs_iff, noKids_iff, headsB_iff, List.all_eq_true, placeB_iff] at h
  obtain ⟨_, h1, h2, h3, h4, ⟨h5, h6⟩, h7, h8, h9, h10, h11⟩ := h
  have := nextB_rng h3
  exact ⟨⟨h1, h2, this.1, this.2⟩, h4, h5, h6, h7, h8, h9, h10, h11⟩
theorem ok4_facts {P : Pg} (h : ok4 P = true) : (0 ≤ P.root ∧ P.root < 4096 ∧ 0 ≤ P.depth ∧ P.depth ≤ 20 ∧ 0 ≤ P.count ∧ P.count ≤ 2147483647 ∧ 2 ≤ P.high ∧ P.high ≤ 4096 ∧ 0 ≤ P.next ∧ P.next < 4096) ∧ P.pairs = [] ∧ P.keys = [] ∧ P.kids = [] ∧ P.pages = [] := by
  simp only [ok4, superB, noneB, someB, Bool.and_eq_true, Bool.or_eq_true, decide_eq_true_eq, noPairs_iff, noKids_iff, noPages_iff, placeB_iff] at h
  obtain ⟨⟨h1, h2, h3, h4⟩, h5, ⟨h6, h7⟩, h8⟩ := h
  have := nextB_rng h4
  refine ⟨?_, h5, h6, h7, h8⟩
  rcases h1 with h1 | h1 <;> omega
/-- What a page may be. -/
theorem okP_cases {P : Pg} (h : okP P = true) : (P.kind = 1 ∧ ok1 P = true) ∨ (P.kind = 2 ∧ ok2 P = true) ∨ (P.kind = 3 ∧ ok3 P = true) ∨ (P.kind = 4 ∧ ok4 P = true) := by
  unfold okP at h
  split at h
  · rename_i e; exact .inl ⟨e, h⟩
  · split at h
    · rename_i e; exact .inr (.inl ⟨e, h⟩)
    · split at h
      · rename_i e; exact .inr (.inr (.inl ⟨e, h⟩))
      · split at h
        · rename_i e; exact .inr (.inr (.inr ⟨e, h⟩))
        · cases h
theorem body_1 {P : Pg} (h : P.kind = 1) : bodyP P = body1 P := if_pos h
theorem body_2 {P : Pg} (h : P.kind = 2) : bodyP P = body2 P := by unfold bodyP; rw [if_neg (by omega), if_pos h]
theorem body_3 {P : Pg} (h : P.kind = 3) : bodyP P = body3 P := by unfold bodyP; rw [if_neg (by omega), if_neg (by omega), if_pos h]
theorem body_4 {P : Pg} (h : P.kind = 4) : bodyP P = body4 P := by unfold bodyP; rw [if_neg (by omega), if_neg (by omega), if_neg (by omega)]
theorem body4_len (P : Pg) : (body4 P).length = 12 := rfl
theorem kidB_len (x : ByteArray × Int) : (kidB x).length = x.1.size + 3 := by rw [kidB, List.length_append, txt_len, tw_len]
theorem pairB_len (x : PairV) : (pairB x).length = x.key.size + x.val.size + 2 := by rw [pairB, List.length_append, txt_len, txt_len]; omega
theorem body_len {P : Pg} (h : okP P = true) : (bodyP P).length ≤ 902 := by
  rcases okP_cases h with ⟨e, h⟩ | ⟨e, h⟩ | ⟨e, h⟩ | ⟨e, h⟩
  · rw [body_1 e, body1, List.length_append, tw_len]
    obtain ⟨⟨_, h1, h2⟩, _⟩ := ok1_facts h
    have := flat_le (f := pairB) (c := 150) P.pairs (fun x hx => by have := h2 x hx; rw [pairB_len]; omega)
    omega
  · rw [body_2 e, body2, List.length_append, List.length_append, tw_len, tw_len]
    obtain ⟨⟨_, h1, h2, h3, _⟩, _⟩ := ok2_facts h
    have := flat_le (f := kidB) (c := 51) (P.keys.zip P.kids.tail) (fun x hx => by have := h3 x.1 (List.of_mem_zip hx).1; rw [kidB_len]; omega)
    have h4 : (P.keys.zip P.kids.tail).length ≤ 12 := by rw [List.length_zip]; omega
    omega
  · rw [body_3 e, body3, List.length_append, List.length_append, tw_len, tw_len]
    obtain ⟨⟨h1, _⟩, _⟩ := ok3_facts h
    have := flat_le (f := tw) (c := 2) P.pages (fun x hx => by rw [tw_len]; omega)
    omega
  · rw [body_4 e, body4_len]
    omega
theorem text_len (s : Int) (P : Pg) : (textP s P).length = (bodyP P).length + 3 := by rw [textP, List.length_cons, List.length_append, tw_len]; omega
theorem text4_len (s : Int) {P : Pg} (h : P.kind = 4) : (textP s P).length = 15 := by rw [text_len, body_4 h, body4_len]
theorem pad_len {n : Nat} {l : List Int} (h : l.length ≤ n) : (padB n l).length = n := by rw [padB, List.length_append, List.length_replicate]; omega
theorem sumE_len (l : List Int) : (sumE l).length = 8 := rfl
theorem enc_4 {s : Int} {P : Pg} (h : P.kind = 4) : encP s P = encS s P := if_pos h
theorem enc_n {s : Int} {P : Pg} (h : ¬ P.kind = 4) : encP s P = encN s P := if_neg h
theorem encN_len {s : Int} {P : Pg} (h : okP P = true) : (encN s P).length = 1024 := by
  have := body_len h
  rw [encN, List.length_append, pad_len (by rw [text_len]; omega), sumE_len]
theorem encS_len {s : Int} {P : Pg} (h : P.kind = 4) : (encS s P).length = 1024 := by
  rw [encS, List.length_append, List.length_append, List.length_append, pad_len (by rw [text4_len s h]; omega), ei_len]
theorem enc_len {s : Int} {P : Pg} (h : okP P = true) : (encP s P).length = 1024 := by
  by_cases e : P.kind = 4
  · rw [enc_4 e, encS_len e]
  · rw [enc_n e, encN_len h]
theorem pad_byte {n : Nat} {l : List Int} (h : ∀ x ∈ l, 0 ≤ x ∧ x < 256) : ∀ x ∈ padB n l, 0 ≤ x ∧ x < 256 := by
  intro x hx
  unfold padB at hx
  rcases List.mem_append.1 hx with hx | hx
  · exact h x hx
  · have := List.eq_of_mem_replicate hx
    omega
theorem txt_byte {s : ByteArray} (h : s.size < 256) : ∀ x ∈ txt s, 0 ≤ x ∧ x < 256 := by
  intro x hx
  rcases List.mem_cons.1 hx with rfl | hx
  · omega
  · exact byL_byte s x hx
theorem body_byte {P : Pg} (h : okP P = true) : ∀ x ∈ bodyP P, 0 ≤ x ∧ x < 256 := by
  intro x hx
  rcases okP_cases h with ⟨e, h⟩ | ⟨e, h⟩ | ⟨e, h⟩ | ⟨e, h⟩
  · rw [body_1 e, body1] at hx
    obtain ⟨⟨_, h1, h2⟩, _⟩ := ok1_facts h
    rcases List.mem_append.1 hx with hx | hx
    · exact tw_byte _ x hx
    · obtain ⟨y, hy, hx⟩ := List.mem_flatMap.1 hx
      have := h2 y hy
      rcases List.mem_append.1 hx with hx | hx
      · exact txt_byte (by omega) x hx
      · exact txt_byte (by omega) x hx
  · rw [body_2 e, body2] at hx
    obtain ⟨⟨_, h1, h2, h3, _⟩, _⟩ := ok2_facts h
    simp only [List.mem_append] at hx
    rcases hx with hx | hx | hx
    · exact tw_byte _ x hx
    · exact tw_byte _ x hx
    · obtain ⟨y, hy, hx⟩ := List.mem_flatMap.1 hx
      have := h3 y.1 (List.of_mem_zip hy).1
      rcases List.mem_append.1 hx with hx | hx
      · exact txt_byte (by omega) x hx
      · exact tw_byte _ x hx
  · rw [body_3 e, body3] at hx
    simp only [List.mem_append] at hx
    rcases hx with hx | hx | hx
    · exact tw_byte _ x hx
    · obtain ⟨y, hy, hx⟩ := List.mem_flatMap.1 hx
      exact tw_byte _ x hx
    · exact tw_byte _ x hx
  · rw [body_4 e, body4] at hx
    simp only [List.mem_append] at hx
    rcases hx with hx | hx | hx | hx | hx | hx <;> exact tw_byte _ x hx
theorem kind_byte {P : Pg} (h : okP P = true) : 1 ≤ P.kind ∧ P.kind ≤ 4 := by
  rcases okP_cases h with ⟨e, h⟩ | ⟨e, h⟩ | ⟨e, h⟩ | ⟨e, h⟩ <;> omega
theorem text_byte {s : Int} {P : Pg} (h : okP P = true) : ∀ x ∈ textP s P, 0 ≤ x ∧ x < 256 := by
  intro x hx
  rw [textP] at hx
  rcases List.mem_cons.1 hx with rfl | hx
  · have := kind_byte h
    omega
  · rcases List.mem_append.1 hx with hx | hx
    · exact tw_byte _ x hx
    · exact body_byte h x hx
theorem enc_byte {s : Int} {P : Pg} (h : okP P = true) : ∀ x ∈ encP s P, 0 ≤ x ∧ x < 256 := by
  intro x hx
  by_cases e : P.kind = 4
  · rw [enc_4 e, encS] at hx
    simp only [List.mem_append] at hx
    rcases hx with (hx | hx) | (hx | hx)
    · exact ei_byte _ x hx
    · exact pad_byte (text_byte h) x hx
    · exact pad_byte (text_byte h) x hx
    · exact ei_byte _ x hx
  · rw [enc_n e, encN] at hx
    rcases List.mem_append.1 hx with hx | hx
    · exact pad_byte (text_byte h) x hx
    · exact ei_byte _ x hx
/-! ### read back -/
theorem rd_body {P : Pg} (h : okP P = true) (X : List Int) : rdP P.kind P.epoch (bodyP P ++ X) = some P := by
  rcases okP_cases h with ⟨e, h⟩ | ⟨e, h⟩ | ⟨e, h⟩ | ⟨e, h⟩
  · obtain ⟨⟨_, h1, _⟩, e1, e2, e3, e4, e5, e6, e7, e8, e9⟩ := ok1_facts h
    rw [body_1 e, e, rdP, if_pos rfl, body1, List.append_assoc, rd1]
    simp only [rd2_tw (show (0 : Int) ≤ (P.pairs.length : Int) ∧ (P.pairs.length : Int) < 65536 by omega), Int.toNat_natCast]
    rw [rdLeaf_rt P.pairs [] X (by simpa using h1)]
    cases P
    simp only at e e1 e2 e3 e4 e5 e6 e7 e8 e9
    subst e e1 e2 e3 e4 e5 e6 e7 e8 e9
    simp [pgZ]
  · obtain ⟨⟨h0, h1, h2, _, h3⟩, e1, e2, e3, e4, e5, e6, e7, e8⟩ := ok2_facts h
    rw [body_2 e, e, rdP, if_neg (by decide), if_pos rfl, body2, List.append_assoc, List.append_assoc, rdK2]
    obtain ⟨d, ds, hd⟩ : ∃ d ds, P.kids = d :: ds := by
      cases hk : P.kids with
      | nil => rw [hk] at h2; simp at h2
      | cons d ds => exact ⟨d, ds, rfl⟩
    have hd0 := h3 d (by rw [hd]; exact List.mem_cons_self ..)
    simp only [rd2_tw (show (0 : Int) ≤ (P.keys.length : Int) ∧ (P.keys.length : Int) < 65536 by omega), Int.toNat_natCast, hd, List.getD_cons_zero, List.tail_cons, rd2_tw (show (0 : Int) ≤ d ∧ d < 65536 by omega)]
    rw [rdBr_rt P.keys ds [] [d] X (by rw [hd] at h2; simpa using h2.symm) (by simpa using h1) (fun x hx => by have := h3 x (by rw [hd]; exact List.mem_cons_of_mem _ hx); omega)]
    cases P
    simp only at e e1 e2 e3 e4 e5 e6 e7 e8 hd
    subst e e1 e2 e3 e4 e5 e6 e7 e8 hd
    simp [pgZ]
  · obtain ⟨⟨h1, h2, h3, h4⟩, e1, e2, e3, e4, e5, e6, e7, e8⟩ := ok3_facts h
    rw [body_3 e, e, rdP, if_neg (by decide), if_neg (by decide), if_pos rfl, body3, List.append_assoc, List.append_assoc, rd3]
    simp only [rd2_tw (show (0 : Int) ≤ (P.pages.length : Int) ∧ (P.pages.length : Int) < 65536 by omega), Int.toNat_natCast]
    rw [rdFr_rt P.pages [] _ (fun x hx => by have := h2 x hx; omega)]
    simp only [rd2_tw (show (0 : Int) ≤ P.next ∧ P.next < 65536 by omega)]
    cases P
    simp only at e e1 e2 e3 e4 e5 e6 e7 e8
    subst e e1 e2 e3 e4 e5 e6 e7 e8
    simp [pgZ]
  · obtain ⟨⟨h1, h2, h3, h4, h5, h6, h7, h8, h9, h10⟩, e1, e2, e3, e4⟩ := ok4_facts h
    rw [body_4 e, e, rdP, if_neg (by decide), if_neg (by decide), if_neg (by decide), if_pos rfl, body4, rd4]
    simp only [List.append_assoc, rd2_tw (show (0 : Int) ≤ P.root ∧ P.root < 65536 by omega), rd2_tw (show (0 : Int) ≤ P.depth ∧ P.depth < 65536 by omega),
      rd2_tw (show (0 : Int) ≤ P.count / 65536 ∧ P.count / 65536 < 65536 by omega), rd2_tw (show (0 : Int) ≤ P.count % 65536 ∧ P.count % 65536 < 65536 by omega),
      rd2_tw (show (0 : Int) ≤ P.high ∧ P.high < 65536 by omega), rd2_tw (show (0 : Int) ≤ P.next ∧ P.next < 65536 by omega)]
    have hc : P.count / 65536 * 65536 + P.count % 65536 = P.count := by omega
    rw [hc]
    cases P
    simp only at e e1 e2 e3 e4
    subst e e1 e2 e3 e4
    simp [pgZ]
def epW (P : Pg) : Prop := 0 ≤ P.epoch ∧ P.epoch < 18446744073709551616
theorem here_iff {s : Int} {P : Pg} (h : okE s P = true) : okP P = true ∧ ((P.kind = 4 ∧ isS s = true) ∨ (¬ P.kind = 4 ∧ 2 ≤ s ∧ s < 4096)) := by
  simp only [okE, Bool.and_eq_true] at h
  refine ⟨h.1, ?_⟩
  have h2 := h.2
  unfold hereB at h2
  split at h2
  · rename_i e; exact .inl ⟨e, h2⟩
  · rename_i e; exact .inr ⟨e, (placeB_iff s).1 h2⟩
theorem isS_no {s : Int} (h : 2 ≤ s) : isS s = false := by
  simp [isS]
  omega
theorem isS_iff (s : Int) : isS s = true ↔ s = 0 ∨ s = 1 := by simp [isS]
theorem drop3 (s : Int) (P : Pg) (X : List Int) : (textP s P ++ X).drop 3 = bodyP P ++ X := rfl
theorem text0 (s : Int) (P : Pg) (X : List Int) : (textP s P ++ X).getD 0 0 = P.kind := rfl
theorem rd_enc {s : Int} {P : Pg} (h : okE s P = true) (hw : epW P) : rdO s (encP s P) = some P := by
  obtain ⟨ho, h⟩ := here_iff h
  rcases h with ⟨e, hs⟩ | ⟨e, h2, h3⟩
  · rw [rdO, epO, reO, if_pos hs, if_pos hs, enc_4 e, encS]
    have h1 : ((ei P.epoch ++ padB 504 (textP s P)) ++ (padB 504 (textP s P) ++ ei P.epoch)).take 8 = ei P.epoch := by
      rw [List.append_assoc]
      exact List.take_left' (ei_len _)
    have h2 : ((ei P.epoch ++ padB 504 (textP s P)) ++ (padB 504 (textP s P) ++ ei P.epoch)).drop 8 = padB 504 (textP s P) ++ (padB 504 (textP s P) ++ ei P.epoch) := by
      rw [List.append_assoc]
      exact List.drop_left' (ei_len _)
    rw [h1, h2, ei_val hw, padB, List.append_assoc, drop3, text0]
    exact rd_body ho _
  · have hs := isS_no h2
    have he : P.epoch = 0 := by
      rcases okP_cases ho with ⟨e, h⟩ | ⟨e, h⟩ | ⟨e', h⟩ | ⟨e', h⟩
      · exact (ok1_facts h).2.2.2.2.1
      · exact (ok2_facts h).2.2.2.1
      · exact (ok3_facts h).2.2.2.2.1
      · exact absurd e' e
    rw [rdO, epO, reO, hs, enc_n e, encN, padB]
    simp only [Bool.false_eq_true, if_false]
    rw [List.append_assoc, drop3, text0]
    have := rd_body ho (List.replicate (1016 - (textP s P).length) 0 ++ sumE (textP s P ++ List.replicate (1016 - (textP s P).length) 0))
    rw [he] at this
    exact this
theorem dec_enc {s : Int} {P : Pg} (h : okE s P = true) (hw : epW P) : decP s (encP s P) = some P := by
  have ho := (here_iff h).1
  rw [decP, if_pos (enc_len ho), rd_enc h hw]
  simp only
  rw [if_pos ⟨h, trivial⟩]
theorem val8_foldl (l : List Int) (h : ∀ x ∈ l, 0 ≤ x ∧ x < 256) : ∀ a : Int, 0 ≤ a → a * 256 ^ l.length ≤ l.foldl (fun a x => a * 256 + x) a ∧ l.foldl (fun a x => a * 256 + x) a < (a + 1) * 256 ^ l.length := by
  induction l with
  | nil => intro a ha; simp; omega
  | cons x l ih =>
    intro a ha
    have hx := h x (List.mem_cons_self ..)
    have := ih (fun y hy => h y (List.mem_cons_of_mem _ hy)) (a * 256 + x) (by omega)
    rw [List.foldl_cons, List.length_cons, Int.pow_succ]
    have h1 : a * (256 ^ l.length * 256) ≤ (a * 256 + x) * 256 ^ l.length := by
      rw [show a * (256 ^ l.length * 256) = (a * 256) * 256 ^ l.length by rw [Int.mul_comm (256 ^ l.length), Int.mul_assoc]]
      exact Int.mul_le_mul_of_nonneg_right (by omega) (by exact Int.pow_nonneg (by omega))
    have h2 : (a * 256 + x + 1) * 256 ^ l.length ≤ (a + 1) * (256 ^ l.length * 256) := by
      rw [show (a + 1) * (256 ^ l.length * 256) = ((a + 1) * 256) * 256 ^ l.length by rw [Int.mul_comm (256 ^ l.length), Int.mul_assoc]]
      exact Int.mul_le_mul_of_nonneg_right (by omega) (by exact Int.pow_nonneg (by omega))
    omega
theorem val8_rng {l : List Int} (h : ∀ x ∈ l, 0 ≤ x ∧ x < 256) (hl : l.length ≤ 8) : 0 ≤ val8 l ∧ val8 l < 18446744073709551616 := by
  have := val8_foldl l h 0 (by omega)
  unfold val8
  have h3 : (256 : Int) ^ l.length ≤ 256 ^ 8 := by
    have : l.length = 0 ∨ l.length = 1 ∨ l.length = 2 ∨ l.length = 3 ∨ l.length = 4 ∨ l.length = 5 ∨ l.length = 6 ∨ l.length = 7 ∨ l.length = 8 := by omega
    rcases this with e | e | e | e | e | e | e | e | e <;> rw [e] <;> decide
  have h4 : (256 : Int) ^ 8 = 18446744073709551616 := by decide
  omega
end Go.Proofs.Ytcfabnkkkpcelaa
