/- Pages: the plain law: a page one of whose bytes is another one is none. -/
import Derived.Test.YtcfabnkkkpcelaaPgL4
set_option linter.unusedSimpArgs false
set_option linter.unusedVariables false
namespace Go.Proofs.Ytcfabnkkkpcelaa
open Go.RowKit
theorem more_turn (bs : List Int) (m : Nat) (b c : Int) (hm : bs[m]? = some b) (hb : 0 ≤ b ∧ b < 256) (hc : 0 ≤ c ∧ c < 256) :
    (uv (more 0#64 (bs.set m c)) == uv (more 0#64 bs)) = (c == b) := by
  have hlt : m < bs.length := (List.getElem?_eq_some_iff.1 hm).1
  have h1 : bs = bs.take m ++ b :: bs.drop (m + 1) := by
    conv => lhs; rw [← List.take_append_drop m bs]
    rw [List.drop_eq_getElem_cons hlt]
    rw [List.getElem?_eq_getElem hlt] at hm
    injection hm with hm
    rw [hm]
  have h2 : bs.set m c = bs.take m ++ c :: bs.drop (m + 1) := by
    rw [List.set_eq_take_append_cons_drop, if_pos hlt]
  by_cases h : c = b
  · subst h
    rw [h2, ← h1]
    simp
  · rw [beq_false_of_ne h]
    apply beq_false_of_ne
    intro e
    apply h
    have e2 := uv_inj e
    rw [h2] at e2
    have e1 : more 0#64 (bs.take m ++ c :: bs.drop (m + 1)) = more 0#64 (bs.take m ++ b :: bs.drop (m + 1)) := by rw [← h1]; exact e2
    simp only [more] at e1
    have e3 := congrArg (fun v => ~~~ v) e1
    simp only [BitVec.not_not] at e3
    rw [run_append, run_append] at e3
    have e4 : run (byt (run (~~~ 0#64) (bs.take m)) c) (bs.drop (m + 1)) = run (byt (run (~~~ 0#64) (bs.take m)) b) (bs.drop (m + 1)) := e3
    exact byt_inj_byte hc hb (run_inj _ e4)
theorem xor_byte {b c : Int} (hb : 0 ≤ b ∧ b < 256) (hc : 0 ≤ c ∧ c < 256) : 0 ≤ Go.bits .xor .u8 b c ∧ Go.bits .xor .u8 b c < 256 ∧ ((Go.bits .xor .u8 b c == b) = (c == 0)) := by
  rw [u8_xor b c hb.1 hb.2 hc.1 hc.2]
  have h : b.toNat ^^^ c.toNat < 2 ^ 8 := Nat.xor_lt_two_pow (by omega) (by omega)
  refine ⟨by omega, by omega, ?_⟩
  by_cases h0 : c = 0
  · subst h0
    simp
    omega
  · rw [beq_false_of_ne h0]
    apply beq_false_of_ne
    intro e
    have e1 : b.toNat ^^^ c.toNat = b.toNat := by omega
    have e2 := congrArg (fun v => b.toNat ^^^ v) e1
    simp only [← Nat.xor_assoc, Nat.xor_self, Nat.zero_xor] at e2
    omega

theorem uv_rng (x : W64) : 0 ≤ uv x ∧ uv x < 18446744073709551616 := by
  unfold uv
  have := x.isLt
  omega
theorem set_gd {l : List Int} {i : Nat} {x : Int} (h : i < l.length) : (l.set i x).getD i 0 = x := by
  rw [List.getD_eq_getElem?_getD, List.getElem?_set_self h]; rfl
theorem set_gd_ne {l : List Int} {i j : Nat} {x : Int} (h : i ≠ j) : (l.set i x).getD j 0 = l.getD j 0 := by
  rw [List.getD_eq_getElem?_getD, List.getD_eq_getElem?_getD, List.getElem?_set_ne h]
theorem sup_at (t : Int) {Q : Pg} (h : Q.kind = 4) (i : Nat) : (encS t Q).getD i 0 = if i < 8 then (ei Q.epoch).getD i 0 else if i < 512 then (padB 504 (textP t Q)).getD (i - 8) 0 else if i < 1016 then (padB 504 (textP t Q)).getD (i - 512) 0 else (ei Q.epoch).getD (i - 1016) 0 := by
  have h15 := text4_len t h
  have e : (padB 504 (textP t Q)).length = 504 := pad_len (by omega)
  have e8 := ei_len Q.epoch
  have e1 : (ei Q.epoch ++ padB 504 (textP t Q)).length = 512 := by rw [List.length_append, e, e8]
  rw [encS]
  by_cases h1 : i < 8
  · rw [if_pos h1, gd_l (by omega), gd_l (by omega)]
  rw [if_neg h1]
  by_cases h2 : i < 512
  · rw [if_pos h2, gd_l (by omega), gd_r' (by omega), e8]
  rw [if_neg h2]
  by_cases h3 : i < 1016
  · rw [if_pos h3, gd_r' (by omega), e1, gd_l (by omega)]
  · rw [if_neg h3, gd_r' (by omega), e1, gd_r' (by omega), e, show i - 512 - 504 = i - 1016 by omega]
theorem sup_pair {i : Nat} (hi : i < 1024) : ∃ j, j ≠ i ∧ ∀ (t : Int) (Q : Pg), Q.kind = 4 → (encS t Q).getD j 0 = (encS t Q).getD i 0 := by
  by_cases h1 : i < 8
  · obtain ⟨j, hj⟩ : ∃ j, j = i + 1016 := ⟨_, rfl⟩
    refine ⟨j, by omega, fun t Q h => ?_⟩
    have e1 := sup_at t h j
    have e2 := sup_at t h i
    rw [if_neg (by omega), if_neg (by omega), if_neg (by omega), show j - 1016 = i by omega] at e1
    rw [if_pos h1] at e2
    exact e1.trans e2.symm
  by_cases h2 : i < 512
  · obtain ⟨j, hj⟩ : ∃ j, j = i + 504 := ⟨_, rfl⟩
    refine ⟨j, by omega, fun t Q h => ?_⟩
    have e1 := sup_at t h j
    have e2 := sup_at t h i
    rw [if_neg (by omega), if_neg (by omega), if_pos (by omega), show j - 512 = i - 8 by omega] at e1
    rw [if_neg h1, if_pos h2] at e2
    exact e1.trans e2.symm
  by_cases h3 : i < 1016
  · obtain ⟨j, hj⟩ : ∃ j, j = i - 504 := ⟨_, rfl⟩
    refine ⟨j, by omega, fun t Q h => ?_⟩
    have e1 := sup_at t h j
    have e2 := sup_at t h i
    rw [if_neg (by omega), if_pos (by omega), show j - 8 = i - 512 by omega] at e1
    rw [if_neg h1, if_neg h2, if_pos h3] at e2
    exact e1.trans e2.symm
  · obtain ⟨j, hj⟩ : ∃ j, j = i - 1016 := ⟨_, rfl⟩
    refine ⟨j, by omega, fun t Q h => ?_⟩
    have e1 := sup_at t h j
    have e2 := sup_at t h i
    rw [if_pos (by omega), show j = i - 1016 by omega] at e1
    rw [if_neg h1, if_neg h2, if_neg h3] at e2
    rw [hj]
    exact e1.trans e2.symm
theorem turn_no {s : Int} {P q : Pg} {i : Nat} {x : Int} (hP : okE s P = true) (hq : okE s q = true) (hi : i < 1024) (hx : 0 ≤ x ∧ x < 256) (hne : x ≠ (encP s P).getD i 0) (h : encP s q = (encP s P).set i x) : False := by
  obtain ⟨o1, a⟩ := here_iff hP
  obtain ⟨o2, b⟩ := here_iff hq
  have hl := enc_len (s := s) o1
  rcases a with ⟨k1, a⟩ | ⟨k1, a⟩ <;> rcases b with ⟨k2, b⟩ | ⟨k2, b⟩
  · obtain ⟨j, hj, hp⟩ := sup_pair hi
    have h1 := hp s q k2
    have h2 := hp s P k1
    rw [← enc_4 k2, h, set_gd (by omega), set_gd_ne (fun e => hj e.symm), enc_4 k1, h2] at h1
    rw [enc_4 k1] at hne
    exact hne h1.symm
  · rw [isS_no b.1] at a; cases a
  · rw [isS_no a.1] at b; cases b
  · rw [enc_n k1] at h hne
    rw [enc_n k2] at h
    have hb1 := body_len o1
    have hb2 := body_len o2
    have t1 := text_len s P
    have t2 := text_len s q
    have l1 : (padB 1016 (textP s P)).length = 1016 := pad_len (by omega)
    have l2 : (padB 1016 (textP s q)).length = 1016 := pad_len (by omega)
    have hbyt := pad_byte (n := 1016) (text_byte (s := s) o1)
    rw [encN, encN] at h
    rw [encN] at hne
    generalize padB 1016 (textP s P) = U at *
    generalize padB 1016 (textP s q) = V at *
    by_cases hc : i < 1016
    · rw [List.set_append_left _ _ (by omega)] at h
      obtain ⟨e1, e2⟩ := List.append_inj h (by rw [List.length_set]; omega)
      rw [gd_l (by omega)] at hne
      subst e1
      have e3 := ei_inj (uv_rng _) (uv_rng _) e2
      have ho : U[i]? = some (U.getD i 0) := by
        rw [List.getD_eq_getElem?_getD, List.getElem?_eq_getElem (by omega)]; rfl
      have e4 := more_turn U i (U.getD i 0) x ho (hbyt _ (List.mem_of_getElem? ho)) hx
      rw [beq_iff_eq.2 e3] at e4
      exact hne (beq_iff_eq.1 e4.symm)
    · rw [List.set_append_right _ _ (by omega)] at h
      obtain ⟨e1, e2⟩ := List.append_inj h (by omega)
      subst e1
      rw [gd_r' (by omega)] at hne
      apply hne
      conv => rhs; rw [e2]
      rw [set_gd (by rw [sumE_len]; omega)]
/-- What turned bytes decode as. -/
theorem turn_dec {s : Int} {P : Pg} {i : Nat} {x : Int} (hP : okE s P = true) (hi : i < 1024) (hx : 0 ≤ x ∧ x < 256) (hne : x ≠ (encP s P).getD i 0) : decP s ((encP s P).set i x) = none := by
  cases e : decP s ((encP s P).set i x) with
  | none => rfl
  | some q =>
    obtain ⟨h1, h2, _⟩ := okE_of e
    exact (turn_no hP h1 hi hx hne h2).elim
/-- What the append and the store leave. -/
theorem storedP {W w1 : World} {v1 : Value} {n m : Nat} {bs : List Int} {b x : Int} (hn : bs.length = n) (hO : Own byteT w1 W.heap.size v1 bs) (hm : bs[m]? = some b) :
    ∃ g c, v1 = .slice (some ⟨g, 0, none⟩) n c ∧ n ≤ c ∧ w1.cell? ⟨g, m, none⟩ = some (.int .u8 b) ∧ w1.frozen? ⟨g, m, none⟩ = false ∧ W.heap.size ≤ g ∧
      Row byteT (w1.setCell ⟨g, m, none⟩ (.int .u8 x)) (some ⟨g, 0, none⟩) n (bs.set m x) := by
  have hlt := (List.getElem?_eq_some_iff.1 hm).1
  obtain ⟨g, cap, hv, hbg, hlg⟩ := World.ownsRow.form hO (by omega)
  subst hv
  have hc := World.ownsRow.cells hO (g := g) rfl m (.int .u8 b) (by have := byteT.flatAt bs m b hm 0 (.int .u8 b) rfl; simpa [byteT] using this)
  rw [add0] at hc
  have hs := World.ownsRow.stored hO m (.int .u8 x)
  have hset : (bs.flatMap byteT.enc).set m (.int .u8 x) = (bs.set m x).flatMap byteT.enc := by
    have : ∀ l : List Int, l.flatMap byteT.enc = l.map (Value.int .u8) := fun l => by induction l with
      | nil => rfl
      | cons y l ih => rw [List.flatMap_cons, ih]; rfl
    rw [this, this, List.map_set]
  have hown : Own byteT (w1.setCell ⟨g, m, none⟩ (.int .u8 x)) W.heap.size (.slice (some ⟨g, 0, none⟩) bs.length cap) (bs.set m x) := by
    unfold Own
    rw [List.length_set, ← hset]
    exact hs.1
  obtain ⟨A', c', hv', hcc, hrow⟩ := hown.reads
  injection hv' with hv' _ hv''
  subst hv'
  subst hv''
  rw [List.length_set, hn] at hrow
  rw [List.length_set, hn] at hcc
  exact ⟨g, cap, by rw [hn], hcc, hc, World.ownsRow.frozenAt hO m, hbg, hrow⟩
end Go.Proofs.Ytcfabnkkkpcelaa
