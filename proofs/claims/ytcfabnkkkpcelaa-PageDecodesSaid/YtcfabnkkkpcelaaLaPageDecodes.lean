/- PageDecodes, walked. -/
import Derived.Test.YtcfabnkkkpcelaaR5e
import Derived.Test.YtcfabnkkkpcelaaR5f
import Derived.Test.YtcfabnkkkpcelaaPgL4
import Derived.Test.YtcfabnkkkpcelaaOpPage
set_option linter.unusedSimpArgs false
set_option linter.unusedVariables false
namespace Go.Proofs.Ytcfabnkkkpcelaa
open Go.RowKit Go.Lib
def gO (s : Int) (b : List Int) : Pg := if isS s then { guessP (b.getD 8 0) (b.drop 11) with epoch := getN b 0 8 } else guessP (b.getD 0 0) (b.drop 3)
theorem guess_ep (k : Int) (b : List Int) : (guessP k b).epoch = 0 := by
  unfold guessP
  split
  · rfl
  split
  · rfl
  split
  · rfl
  split
  · rfl
  · rfl
theorem ep8_rng {b : List Int} (hb : ∀ x ∈ b, 0 ≤ x ∧ x < 256) : 0 ≤ getN b 0 8 ∧ getN b 0 8 < 18446744073709551616 := getN_lt hb 0 8
theorem gO_ep {s : Int} {b : List Int} (hb : ∀ x ∈ b, 0 ≤ x ∧ x < 256) : epW (gO s b) := by
  unfold gO
  split
  · exact ep8_rng hb
  · show 0 ≤ (guessP _ _).epoch ∧ (guessP _ _).epoch < _
    rw [guess_ep]
    exact ⟨by decide, by decide⟩
theorem okP_ep {q : Pg} (h : okP q = true) (hk : ¬ q.kind = 4) : q.epoch = 0 := by
  rcases okP_cases h with ⟨_, h⟩ | ⟨_, h⟩ | ⟨_, h⟩ | ⟨e, _⟩
  · exact (ok1_facts h).2.2.2.2.1
  · exact (ok2_facts h).2.2.2.1
  · exact (ok3_facts h).2.2.2.2.1
  · exact absurd e hk
theorem get_ei {n : Int} (h : 0 ≤ n ∧ n < 18446744073709551616) (Y : List Int) : getN (ei n ++ Y) 0 8 = n := by
  simp only [getN, ei, tw, List.cons_append, List.nil_append, Nat.zero_add, List.getD_cons_zero, List.getD_cons_succ]
  omega
theorem gO_enc {s : Int} {q : Pg} (h : okE s q = true) (hw : epW q) : gO s (encP s q) = q := by
  obtain ⟨ho, hh⟩ := here_iff h
  unfold gO
  rcases hh with ⟨hk, hs⟩ | ⟨hk, hs⟩
  · rw [if_pos hs, enc_4 hk]
    obtain ⟨X, hX⟩ : ∃ X, encS s q = (ei q.epoch ++ (q.kind :: tw s)) ++ (bodyP q ++ X) := by
      refine ⟨List.replicate (504 - (textP s q).length) 0 ++ (padB 504 (textP s q) ++ ei q.epoch), ?_⟩
      rw [encS, padB]
      simp only [textP, List.cons_append, List.append_assoc]
    have e1 : (encS s q).getD 8 0 = q.kind := by
      rw [hX, List.append_assoc]
      exact gd_at (ei q.epoch) _ q.kind
    have e2 : (encS s q).drop 11 = bodyP q ++ X := by
      rw [hX]
      exact List.drop_left' (by simp [ei_len, tw_len])
    have e3 : getN (encS s q) 0 8 = q.epoch := by
      rw [hX, List.append_assoc]
      exact get_ei hw _
    rw [e1, e2, e3, guess_body ho]
  · rw [if_neg (by rw [isS_no hs.1]; decide), enc_n hk]
    obtain ⟨X, hX⟩ : ∃ X, encN s q = (q.kind :: tw s) ++ (bodyP q ++ X) := by
      obtain ⟨S, hS⟩ : ∃ S, sumE (padB 1016 (textP s q)) = S := ⟨_, rfl⟩
      refine ⟨List.replicate (1016 - (textP s q).length) 0 ++ S, ?_⟩
      rw [encN, hS, padB]
      simp only [textP, List.cons_append, List.append_assoc]
    have e1 : (encN s q).getD 0 0 = q.kind := by rw [hX]; rfl
    have e2 : (encN s q).drop 3 = bodyP q ++ X := by
      rw [hX]
      exact List.drop_left' (by simp [tw_len])
    rw [e1, e2, guess_body ho]
    have := okP_ep ho hk
    cases q
    simp only at this
    subst this
    rfl
theorem dec_smw {s : Int} {b : List Int} {q : Pg} (hb : ∀ x ∈ b, 0 ≤ x ∧ x < 256) (h : decP s b = some q) : epW q := by
  obtain ⟨o1, o2, o3⟩ := okE_of h
  obtain ⟨ho, hh⟩ := here_iff o1
  rcases hh with ⟨hk, hs⟩ | ⟨hk, hs⟩
  · rw [decP, if_pos o3] at h
    split at h
    · cases h
    · rename_i q' hq
      split at h
      · injection h with h
        subst h
        have hre : ∀ x ∈ reO s b, 0 ≤ x ∧ x < 256 := by
          unfold reO
          split <;> first | exact hb | exact fun x hx => hb x (List.mem_of_mem_drop hx)
        refine (rdP_sm ?_ (epO_rng hb) (fun x hx => hre x (List.mem_of_mem_drop hx)) hq).w.2.2.1
        cases hz : reO s b with
        | nil => simp
        | cons y r =>
          rw [hz] at hre
          exact hre y (List.mem_cons_self ..)
      · cases h
  · show 0 ≤ q.epoch ∧ q.epoch < _
    rw [okP_ep ho hk]
    exact ⟨by decide, by decide⟩
theorem gO_dec {s : Int} {b : List Int} (hb : ∀ x ∈ b, 0 ≤ x ∧ x < 256) : decP s b = if okE s (gO s b) = true ∧ encP s (gO s b) = b then some (gO s b) else none := by
  by_cases h : okE s (gO s b) = true ∧ encP s (gO s b) = b
  · rw [if_pos h]
    have := dec_enc h.1 (gO_ep hb)
    rw [h.2] at this
    exact this
  · rw [if_neg h]
    cases e : decP s b with
    | none => rfl
    | some q =>
      obtain ⟨o1, o2, o3⟩ := okE_of e
      have hw : epW q := (dec_smw hb e)
      refine absurd ?_ h
      have := gO_enc o1 hw
      rw [o2] at this
      rw [this]
      exact ⟨o1, o2⟩
theorem guess_w {k : Int} {b : List Int} (hk : 0 ≤ k ∧ k < 256) (hb : ∀ x ∈ b, 0 ≤ x ∧ x < 256) : PgW (guessP k b) ∧ (guessP k b).keys.length ≤ 1000000 ∧ (guessP k b).kids.length ≤ 1000000 := by
  have i0 : i64R 0 := ⟨by omega, by omega⟩
  have iz : i64R k := ⟨by omega, by omega⟩
  have ie : epW pgZ := ⟨by decide, by decide⟩
  have i2 : ∀ at_, i64R (getN b at_ 2) := fun at_ => by have := get2_rng hb at_; exact ⟨by omega, by omega⟩
  have i4 : ∀ at_, i64R (getN b at_ 4) := fun at_ => by have := get4_rng hb at_; exact ⟨by omega, by omega⟩
  unfold guessP
  split
  · rename_i h
    subst h
    exact ⟨⟨iz, i0, ie, i0, i0, i0, i0, by simp [gLeaf, pgZ], by simp [gLeaf, pgZ]⟩, by simp [gLeaf, pgZ], by simp [gLeaf, pgZ]⟩
  split
  · rename_i h
    subst h
    have hc : gCnt b 13 ≤ 13 := by unfold gCnt; omega
    refine ⟨⟨iz, i0, ie, i0, i0, i0, i0, ?_, by simp [gBr, pgZ]⟩, by simp [gBr]; omega, by simp [gBr]; omega⟩
    intro x hx
    simp only [gBr, List.mem_cons, List.mem_map] at hx
    rcases hx with rfl | ⟨j, _, rfl⟩
    · exact i2 2
    · exact i2 _
  split
  · rename_i h
    subst h
    refine ⟨⟨iz, i2 _, ie, i0, i0, i0, i0, by simp [gFr, pgZ], ?_⟩, by simp [gFr, pgZ], by simp [gFr, pgZ]⟩
    intro x hx
    simp only [gFr, List.mem_map] at hx
    obtain ⟨j, _, rfl⟩ := hx
    exact i2 _
  split
  · rename_i h
    subst h
    exact ⟨⟨iz, i2 _, ie, i2 _, i2 _, i4 _, i2 _, by simp [gSu, pgZ], by simp [gSu, pgZ]⟩, by simp [gSu, pgZ], by simp [gSu, pgZ]⟩
  · exact ⟨⟨iz, i0, ie, i0, i0, i0, i0, by simp [pgZ], by simp [pgZ]⟩, by simp [pgZ], by simp [pgZ]⟩
section
variable {P : Program}
theorem results_ct5 {fn : Func} {p u : Tmp} {ty : TypeId} (h : fn.results = #[.cell p ty, .tmp u]) (tmps : Array Value) (w : World) (g : Nat) (t : TypeId) (cs : Array Value) (fr : Nat × Nat) (d : TypeDesc)
    (hp : tmps.getD p undef = .pointer (some ⟨g, 0, none⟩)) (hg : w.heap[g]? = some (.cells cs t fr))
    (hu : P.underlying ty = some d) (hd : (match d with | .struct _ | .array _ _ => true | _ => false) = true) (hi : (P.info? ty).map (·.size) = some cs.size) :
    (results fn tmps).run P w = .ok (.tuple #[.agg cs, tmps.getD u undef]) w := by
  have hp' : tmps[p]?.getD undef = .pointer (some ⟨g, 0, none⟩) := by simpa using hp
  simp [results, h, hp', asAddr, run_loadVar_row w g t ty cs fr d hg hu hd hi]
end
theorem pgAt_setP {W : World} {q q' : Pg} {A B C D : Option Addr} {n m k l g : Nat} {a b c d : Value} (h : PgAt W q A n B m C k D l) (ha : Away A n g ∧ Away B m g ∧ Away C k g ∧ Away D l g) : PgAt (setP W g q' a b c d) q A n B m C k D l := by
  unfold setP
  have st : ∀ {W : World} {j : Nat} {u : Value}, PgAt W q A n B m C k D l → PgAt (W.setCell ⟨g, j, none⟩ u) q A n B m C k D l := fun h => h.far ha.1 ha.2.1 ha.2.2.1 ha.2.2.2 _ _
  exact st (st (st (st (st (st (st (st (st (st (st h))))))))))
theorem pgAt_ep {W : World} {q : Pg} {x : Int} {A B C D : Option Addr} {n m k l : Nat} (h : PgAt W q A n B m C k D l) : PgAt W { q with epoch := x } A n B m C k D l := ⟨h.pairs, h.keys, h.kids, h.pages⟩
set_option maxRecDepth 10000 in
set_option maxHeartbeats 8000000 in
theorem decode5_len (s : Int) (A : Option Addr) (n c : Nat) (b : List Int) (w : World) (hl : b.length = n) (hn : ¬ n = 1024) :
    Calls Try.prog 17 #[.int .i64 s, .slice A n c] w (DP w s b) := by
  have HD : Hid (decP s b = none) := hid_ (by rw [decP, if_neg (by rw [hl]; exact hn)])
  have q : ((n : Int) != 1024) = true := by simp; omega
  clear hl hn
  go_enter Try.func17, Try.ntmps17
  go_upto_region 1 with (fail)
  have hz := Bx.new w 28 zeroC
  have hb0 := (Bel.refl w).alloc (.cells zeroC.toArray 28)
  unfold zeroC at hz hb0
  have hs := sizeAl w (.cells zeroC.toArray 28)
  unfold zeroC at hs
  generalize w.alloc _ = W0 at hz hb0 hs ⊢
  have HZ := hid_ hz
  have HB := hid_ hb0
  have HS := hid_ hs
  clear hz hb0 hs
  have HZx := HZ
  have HBx := HB
  have z0 := HZx.out.cell 0 rfl
  have z1 := HZx.out.cell 1 rfl
  have z2 := HZx.out.cell 2 rfl
  have z3 := HZx.out.cell 3 rfl
  have z4 := HZx.out.cell 4 rfl
  have z5 := HZx.out.cell 5 rfl
  have z6 := HZx.out.cell 6 rfl
  have z7 := HZx.out.cell 7 rfl
  have z8 := HZx.out.cell 8 rfl
  have z9 := HZx.out.cell 9 rfl
  have z10 := HZx.out.cell 10 rfl
  have zf := fun j => HZx.out.frozen j
  have KS := hid_ (bx_setP (q := pgZ) (a := .slice none 0 0) (b := .slice none 0 0) (c := .slice none 0 0) (d := .slice none 0 0) HZx.out rfl)
  have KB := hid_ (bel_setP (q := pgZ) (a := .slice none 0 0) (b := .slice none 0 0) (c := .slice none 0 0) (d := .slice none 0 0) HBx.out (Nat.le_refl w.heap.size))
  go_wp2
  refine bodyPost_ret (results_ct5 rfl _ _ w.heap.size 28 _ (0, 0) _ rfl KS.out Try.underlying28 rfl (by kernel_rfl)) rfl ?_
  exact .inr ⟨HD.out, rfl, KB.out⟩
theorem strEq5 {xs ys : List Int} (hx : ∀ x ∈ xs, 0 ≤ x ∧ x < 256) (hy : ∀ x ∈ ys, 0 ≤ x ∧ x < 256) : ((strOfNums xs).toList == (strOfNums ys).toList) = decide (xs = ys) := by
  rw [toList_eq]
  by_cases e : xs = ys
  · subst e; simp
  · rw [decide_eq_false e, decide_eq_false (fun h => e (str_inj hx hy h))]
theorem bxFar_setP {W : World} {vs : List Value} {t : TypeId} {g g' : Nat} {q : Pg} {a b c d : Value} (h : Bx W g t vs) (hne : g ≠ g') : Bx (setP W g' q a b c d) g t vs := by
  unfold setP
  exact ((((((((((h.far hne _).far hne _).far hne _).far hne _).far hne _).far hne _).far hne _).far hne _).far hne _).far hne _).far hne _
set_option maxRecDepth 10000 in
set_option maxHeartbeats 8000000 in
theorem decode5_n (s : Int) (ad : Addr) (c : Nat) (b : List Int) (w : World) (hR : Row byteT w (some ad) 1024 b) (hc : 1024 ≤ c) (hb : ∀ x ∈ b, 0 ≤ x ∧ x < 256) (h0 : ¬ s = 0) (h1 : ¬ s = 1) :
    Calls Try.prog 17 #[.int .i64 s, .slice (some ad) 1024 c] w (DP w s b) := by
  have s0 : (s == 0) = false := by rw [beqI]; exact decide_eq_false h0
  have s1' : (s == 1) = false := by rw [beqI]; exact decide_eq_false h1
  have HNS : Hid (isS s = false) := hid_ (by rw [isS, decide_eq_false h0, decide_eq_false h1]; rfl)
  clear h0 h1
  obtain ⟨ad', b0, e', ho, d0⟩ := hR.byte (show 0 < 1024 by omega)
  injection e' with e'
  subst e'
  have d0 : w.cell? ad = some (.int .u8 b0) := d0
  have hb0r : 0 ≤ b0 ∧ b0 < 256 := hb b0 (List.mem_of_getElem? ho)
  have hg0 : b.getD 0 0 = b0 := by rw [List.getD_eq_getElem?_getD, ho]; rfl
  have w0 : IntKind.i64.wrap b0 = b0 := wrapI (by omega)
  obtain ⟨A3, hcut3, hrow3⟩ := byteS.cutFrom (P := Try.prog) .i64 (some ad) 1024 c 3 (by omega) hc
  simp only [show ((3 : Nat) : Int) = 3 from rfl] at hcut3
  have hbb : ∀ x ∈ b.drop 3, 0 ≤ x ∧ x < 256 := fun x hx => hb x (List.mem_of_mem_drop hx)
  obtain ⟨Q, hQ⟩ : ∃ Q, guessP b0 (b.drop 3) = Q := ⟨_, rfl⟩
  have HGS : Hid (∀ Y, Bel w Y → Calls Try.prog 48 #[.int .i64 b0, .slice A3 (1024 - 3) (c - 3)] Y fun e w' => ∃ v, e = .returned v ∧ PgFr Y.heap.size w' Q v ∧ Bel Y w') := hid_ (fun Y hY => by rw [← hQ]; exact guess5_any b0 A3 (1024 - 3) (c - 3) (b.drop 3) Y ((hrow3 _ _ hR).bel hY) (by omega) hbb)
  have HQW := hid_ (guess_w hb0r hbb)
  rw [hQ] at HQW
  have HQ := hid_ hQ
  have HG0 := hid_ hg0
  have HROW := hid_ hR
  have HBB := hid_ hb
  have HCC := hid_ hc
  have D0 := hid_ d0
  have hbl := hR.1
  have q : ((1024 : Int) != 1024) = false := rfl
  clear hR hb hc ho hg0 hQ hrow3 hbb hbl hb0r
  go_enter Try.func17, Try.ntmps17
  go_upto_region 1 with (fail)
  have hz := Bx.new w 28 zeroC
  have hb0 := (Bel.refl w).alloc (.cells zeroC.toArray 28)
  unfold zeroC at hz hb0
  have hs := sizeAl w (.cells zeroC.toArray 28)
  unfold zeroC at hs
  generalize w.alloc _ = W0 at hz hb0 hs ⊢
  have HZ := hid_ hz
  have HB := hid_ hb0
  have HS := hid_ hs
  clear hz hb0 hs
  have HLD : Hid (W0.heap.size < (W0.alloc (.cells ([.int .i64 0, .slice none 0 0, .slice none 0 0, .slice none 0 0, .slice none 0 0, .int .i64 0, .int .u64 0, .int .i64 0, .int .i64 0, .int .i64 0, .int .i64 0] : List Value).toArray 28)).drew.heap.size) := hid_ (by simp)
  have HLE : Hid (W0.heap.size < (W0.alloc (.cells ([.int .i64 0, .slice none 0 0, .slice none 0 0, .slice none 0 0, .slice none 0 0, .int .i64 0, .int .u64 0, .int .i64 0, .int .i64 0, .int .i64 0, .int .i64 0] : List Value).toArray 28)).heap.size) := hid_ (by simp)
  have hC := Bel.refl W0
  have HLTW : Hid (w.heap.size < W0.heap.size) := hid_ (by have := HS.out; omega)
  have HKP : Hid (∀ W, Bel W0 W → (fun W => W.cell? ad = some (.int .u8 b0)) W) := hid_ (fun W hW => (HB.out.trans hW).cell_ D0.out)
  have d0 := HB.out.cell_ D0.out
  go_upto_region 3 with (fail)
  go_region_held3 (fun W => W.cell? ad = some (.int .u8 b0)) ((refine HKP.out _ ?_; repeat first | with_reducible exact hC | with_reducible exact Bel.refl _ | with_reducible apply Bel.drew | with_reducible apply Bel.alloc | with_reducible refine Bel.setBx ?_ (Nat.le_refl _) _))
    (first
    | (go_at_call 48; with_reducible refine' Calls.mono (HGS.out _ (HB.out.trans (hC.trans (by repeat first | with_reducible exact Bel.refl _ | with_reducible apply Bel.drew | with_reducible apply Bel.alloc)))) ?_; rintro e wa ⟨va, rfl, hF, ha⟩; unfold PgFr at hF; obtain ⟨G1, x1, y1, G2, x2, y2, G3, x3, y3, G4, x4, y4, hva, v1, v2, v3, v4, hAt, hAw⟩ := hF; unfold pgV pgC at hva; subst hva; have hAW := hAw w.heap.size (Nat.lt_of_lt_of_le HLTW.out (Bel.size_ (hC.trans (by repeat first | with_reducible exact Bel.refl _ | with_reducible apply Bel.drew | with_reducible apply Bel.alloc)))); replace hC := (hC.trans (by repeat first | with_reducible exact Bel.refl _ | with_reducible apply Bel.drew | with_reducible apply Bel.alloc)).trans ha; (first | (have hx := ((Bx.new W0 28 [.int .i64 0, .slice none 0 0, .slice none 0 0, .slice none 0 0, .slice none 0 0, .int .i64 0, .int .u64 0, .int .i64 0, .int .i64 0, .int .i64 0, .int .i64 0]).bel ((Bel.refl _).drew)).bel ha; have hAX := hAw W0.heap.size HLD.out; have yy0 := hx.cell 0 rfl; have yy1 := hx.cell 1 rfl; have yy2 := hx.cell 2 rfl; have yy3 := hx.cell 3 rfl; have yy4 := hx.cell 4 rfl; have yy5 := hx.cell 5 rfl; have yy6 := hx.cell 6 rfl; have yy7 := hx.cell 7 rfl; have yy8 := hx.cell 8 rfl; have yy9 := hx.cell 9 rfl; have yy10 := hx.cell 10 rfl; have yf := fun j => hx.frozen j) | (have hx := (Bx.new W0 28 [.int .i64 0, .slice none 0 0, .slice none 0 0, .slice none 0 0, .slice none 0 0, .int .i64 0, .int .u64 0, .int .i64 0, .int .i64 0, .int .i64 0, .int .i64 0]).bel ha; have hAX := hAw W0.heap.size HLE.out; have yy0 := hx.cell 0 rfl; have yy1 := hx.cell 1 rfl; have yy2 := hx.cell 2 rfl; have yy3 := hx.cell 3 rfl; have yy4 := hx.cell 4 rfl; have yy5 := hx.cell 5 rfl; have yy6 := hx.cell 6 rfl; have yy7 := hx.cell 7 rfl; have yy8 := hx.cell 8 rfl; have yy9 := hx.cell 9 rfl; have yy10 := hx.cell 10 rfl; have yf := fun j => hx.frozen j) | skip)))
  all_goals (
    rename_i hHeld
    go_upto_region 4 with (fail)
    have HAW := hid_ hAW
    have HLC := hid_ (And.intro v1 (And.intro v2 (And.intro v3 v4)))
    first
      | (
         have hb := (Bel.refl wa).alloc (.cells [.int .i64 Q.kind, .slice G1 x1 y1, .slice G2 x2 y2, .slice G3 x3 y3, .slice G4 x4 y4, .int .i64 Q.next, .int .u64 Q.epoch, .int .i64 Q.root, .int .i64 Q.depth, .int .i64 Q.count, .int .i64 Q.high].toArray 28)
         have hbx := Bx.new wa 28 [.int .i64 Q.kind, .slice G1 x1 y1, .slice G2 x2 y2, .slice G3 x3 y3, .slice G4 x4 y4, .int .i64 Q.next, .int .u64 Q.epoch, .int .i64 Q.root, .int .i64 Q.depth, .int .i64 Q.count, .int .i64 Q.high]
         obtain ⟨W1, hW1⟩ : ∃ W1, wa.alloc (.cells [.int .i64 Q.kind, .slice G1 x1 y1, .slice G2 x2 y2, .slice G3 x3 y3, .slice G4 x4 y4, .int .i64 Q.next, .int .u64 Q.epoch, .int .i64 Q.root, .int .i64 Q.depth, .int .i64 Q.count, .int .i64 Q.high].toArray 28) = W1 := ⟨_, rfl⟩
         rw [hW1] at hb hbx ⊢
         obtain ⟨gp, hgp⟩ : ∃ gp, wa.heap.size = gp := ⟨_, rfl⟩
         rw [hgp] at hbx ⊢
         have HPX := hid_ hbx
         have HGL := hid_ hbx.lt
         have HGP : Hid (w.heap.size + 1 ≤ gp) := hid_ (by have h1 := HS.out; have h2 := hC.size_; omega)
         have HZ := hid_ (HZ.out.bel (hC.trans hb))
         have HB := hid_ (HB.out.trans (hC.trans hb))
         have HAT := hid_ (hAt.bel hb)
         clear hb hbx hW1 hgp)
      | (
         have hbx := bx_setP (q := Q) (a := .slice G1 x1 y1) (b := .slice G2 x2 y2) (c := .slice G3 x3 y3) (d := .slice G4 x4 y4) hx rfl
         have hz := bxFar_setP (g' := W0.heap.size) (q := Q) (a := .slice G1 x1 y1) (b := .slice G2 x2 y2) (c := .slice G3 x3 y3) (d := .slice G4 x4 y4) (HZ.out.bel hC) (by have := HS.out; omega)
         have hbel := bel_setP (g := W0.heap.size) (q := Q) (a := .slice G1 x1 y1) (b := .slice G2 x2 y2) (c := .slice G3 x3 y3) (d := .slice G4 x4 y4) (HB.out.trans hC) (by have := HS.out; omega)
         have hat := pgAt_setP (q' := Q) (a := .slice G1 x1 y1) (b := .slice G2 x2 y2) (c := .slice G3 x3 y3) (d := .slice G4 x4 y4) hAt hAX
         obtain ⟨W1, hW1⟩ : ∃ W1, setP wa W0.heap.size Q (.slice G1 x1 y1) (.slice G2 x2 y2) (.slice G3 x3 y3) (.slice G4 x4 y4) = W1 := ⟨_, rfl⟩
         rw [hW1] at hbx hz hbel hat
         unfold setP at hW1
         rw [hW1]
         clear hW1
         have hgl : W0.heap.size < W1.heap.size := hbx.lt
         clear yy0 yy1 yy2 yy3 yy4 yy5 yy6 yy7 yy8 yy9 yy10 yf hx hAX
         have HGP0 : Hid (w.heap.size + 1 ≤ W0.heap.size) := hid_ (by have := HS.out; omega)
         obtain ⟨gp, hgp⟩ : ∃ gp, W0.heap.size = gp := ⟨_, rfl⟩
         rw [hgp] at hbx hgl HGP0 ⊢
         have HPX := hid_ hbx
         have HGL := hid_ hgl
         have HGP := HGP0
         have HZ := hid_ hz
         have HB := hid_ hbel
         have HAT := hid_ hat
         clear hbx hz hbel hat hgl hgp HGP0)
    clear hHeld HKP hAt hAw hAW v1 v2 v3 v4 hC ha d0 hcut3 HLD HLE
    have HGO : Hid (gO s b = Q) := hid_ (by rw [gO, if_neg (by rw [HNS.out]; decide), HG0.out, HQ.out])
    have HW := HQW
    have c0 := HPX.out.cell 0 rfl
    have c1 := HPX.out.cell 1 rfl
    have c2 := HPX.out.cell 2 rfl
    have c3 := HPX.out.cell 3 rfl
    have c4 := HPX.out.cell 4 rfl
    have c5 := HPX.out.cell 5 rfl
    have c6 := HPX.out.cell 6 rfl
    have c7 := HPX.out.cell 7 rfl
    have c8 := HPX.out.cell 8 rfl
    have c9 := HPX.out.cell 9 rfl
    have c10 := HPX.out.cell 10 rfl
    have hcase : okE s Q = false ∨ okE s Q = true := by cases okE s Q <;> simp
    rcases hcase with ho | ho
    · have HO := hid_ ho
      clear ho
      go_wp2_with fail
      refine (encode5_no s Q G1 G2 G3 G4 x1 y1 x2 y2 x3 y3 x4 y4 _ HAT.out HW.out.1 (by rw [← HAT.out.keys.1]; exact HW.out.2.1) (by rw [← HAT.out.kids.1]; exact HW.out.2.2) HO.out).mono ?_
      rintro e w8 ⟨rfl, hb⟩
      have HZx := hid_ (HZ.out.bel hb)
      have HBx := hid_ (HB.out.trans hb)
      have HD : Hid (decP s b = none) := hid_ (by rw [gO_dec HBB.out, HGO.out, if_neg (fun h => by rw [HO.out] at h; cases h.1)])
      clear hb c0 c1 c2 c3 c4 c5 c6 c7 c8 c9 c10
      have z0 := HZx.out.cell 0 rfl
      have z1 := HZx.out.cell 1 rfl
      have z2 := HZx.out.cell 2 rfl
      have z3 := HZx.out.cell 3 rfl
      have z4 := HZx.out.cell 4 rfl
      have z5 := HZx.out.cell 5 rfl
      have z6 := HZx.out.cell 6 rfl
      have z7 := HZx.out.cell 7 rfl
      have z8 := HZx.out.cell 8 rfl
      have z9 := HZx.out.cell 9 rfl
      have z10 := HZx.out.cell 10 rfl
      have zf := fun j => HZx.out.frozen j
      have KS := hid_ (bx_setP (q := pgZ) (a := .slice none 0 0) (b := .slice none 0 0) (c := .slice none 0 0) (d := .slice none 0 0) HZx.out rfl)
      have KB := hid_ (bel_setP (q := pgZ) (a := .slice none 0 0) (b := .slice none 0 0) (c := .slice none 0 0) (d := .slice none 0 0) HBx.out (Nat.le_refl w.heap.size))
      go_wp2
      refine bodyPost_ret (results_ct5 rfl _ _ w.heap.size 28 _ (0, 0) _ rfl KS.out Try.underlying28 rfl (by kernel_rfl)) rfl ?_
      exact .inr ⟨HD.out, rfl, KB.out⟩
    · have HO := hid_ ho
      clear ho
      go_wp2_with fail
      refine (encode5_yes s Q G1 G2 G3 G4 x1 y1 x2 y2 x3 y3 x4 y4 _ HAT.out HW.out.1 (by rw [← HAT.out.keys.1]; exact HW.out.2.1) (by rw [← HAT.out.kids.1]; exact HW.out.2.2) HO.out).mono ?_
      rintro e w8 ⟨AR, cR, rfl, hcR, hRR, hb⟩
      have s1 := run_str (c := cR) hRR
      have s2 := run_str (c := c) (HROW.out.bel (HB.out.trans hb))
      obtain ⟨t, ht⟩ : ∃ t, decide (encP s Q = b) = t := ⟨_, rfl⟩
      have q1 : ((strOfNums (encP s Q)).toList == (strOfNums b).toList) = t := by rw [strEq5 (enc_byte (here_iff HO.out).1) HBB.out, ht]
      have HT := hid_ ht
      have HZx := hid_ (HZ.out.bel hb)
      have HBx := hid_ (HB.out.trans hb)
      have HPx := hid_ (HPX.out.bel hb)
      have HAx := hid_ (HAT.out.bel hb)
      clear ht hRR hcR hb c0 c1 c2 c3 c4 c5 c6 c7 c8 c9 c10
      cases t
      · have HD : Hid (decP s b = none) := hid_ (by rw [gO_dec HBB.out, HGO.out, if_neg (fun h => of_decide_eq_false HT.out h.2)])
        have z0 := HZx.out.cell 0 rfl
        have z1 := HZx.out.cell 1 rfl
        have z2 := HZx.out.cell 2 rfl
        have z3 := HZx.out.cell 3 rfl
        have z4 := HZx.out.cell 4 rfl
        have z5 := HZx.out.cell 5 rfl
        have z6 := HZx.out.cell 6 rfl
        have z7 := HZx.out.cell 7 rfl
        have z8 := HZx.out.cell 8 rfl
        have z9 := HZx.out.cell 9 rfl
        have z10 := HZx.out.cell 10 rfl
        have zf := fun j => HZx.out.frozen j
        have KS := hid_ (bx_setP (q := pgZ) (a := .slice none 0 0) (b := .slice none 0 0) (c := .slice none 0 0) (d := .slice none 0 0) HZx.out rfl)
        have KB := hid_ (bel_setP (q := pgZ) (a := .slice none 0 0) (b := .slice none 0 0) (c := .slice none 0 0) (d := .slice none 0 0) HBx.out (Nat.le_refl w.heap.size))
        go_wp2
        refine bodyPost_ret (results_ct5 rfl _ _ w.heap.size 28 _ (0, 0) _ rfl KS.out Try.underlying28 rfl (by kernel_rfl)) rfl ?_
        exact .inr ⟨HD.out, rfl, KB.out⟩
      · have HD : Hid (decP s b = some Q) := hid_ (by rw [gO_dec HBB.out, HGO.out, if_pos ⟨HO.out, of_decide_eq_true HT.out⟩])
        have c0 := HPx.out.cell 0 rfl
        have z0 := HZx.out.cell 0 rfl
        have c1 := HPx.out.cell 1 rfl
        have z1 := HZx.out.cell 1 rfl
        have c2 := HPx.out.cell 2 rfl
        have z2 := HZx.out.cell 2 rfl
        have c3 := HPx.out.cell 3 rfl
        have z3 := HZx.out.cell 3 rfl
        have c4 := HPx.out.cell 4 rfl
        have z4 := HZx.out.cell 4 rfl
        have c5 := HPx.out.cell 5 rfl
        have z5 := HZx.out.cell 5 rfl
        have c6 := HPx.out.cell 6 rfl
        have z6 := HZx.out.cell 6 rfl
        have c7 := HPx.out.cell 7 rfl
        have z7 := HZx.out.cell 7 rfl
        have c8 := HPx.out.cell 8 rfl
        have z8 := HZx.out.cell 8 rfl
        have c9 := HPx.out.cell 9 rfl
        have z9 := HZx.out.cell 9 rfl
        have c10 := HPx.out.cell 10 rfl
        have z10 := HZx.out.cell 10 rfl
        have zf := fun j => HZx.out.frozen j
        have KS := hid_ (bx_setP (q := Q) (a := .slice G1 x1 y1) (b := .slice G2 x2 y2) (c := .slice G3 x3 y3) (d := .slice G4 x4 y4) HZx.out rfl)
        have KB := hid_ (bel_setP (q := Q) (a := .slice G1 x1 y1) (b := .slice G2 x2 y2) (c := .slice G3 x3 y3) (d := .slice G4 x4 y4) HBx.out (Nat.le_refl w.heap.size))
        have KA := hid_ (pgAt_setP (q' := Q) (a := .slice G1 x1 y1) (b := .slice G2 x2 y2) (c := .slice G3 x3 y3) (d := .slice G4 x4 y4) HAx.out HAW.out)
        go_wp2
        refine bodyPost_ret (results_ct5 rfl _ _ w.heap.size 28 _ (0, 0) _ rfl KS.out Try.underlying28 rfl (by kernel_rfl)) rfl ?_
        exact .inl ⟨_, _, HD.out, rfl, ⟨G1, x1, y1, G2, x2, y2, G3, x3, y3, G4, x4, y4, rfl, HLC.out.1, HLC.out.2.1, HLC.out.2.2.1, HLC.out.2.2.2, KA.out⟩, KB.out⟩)
set_option maxRecDepth 10000 in
set_option maxHeartbeats 8000000 in
theorem decode5_s0 (s : Int) (ad : Addr) (c : Nat) (b : List Int) (w : World) (hR : Row byteT w (some ad) 1024 b) (hc : 1024 ≤ c) (hb : ∀ x ∈ b, 0 ≤ x ∧ x < 256) (h0 : s = 0) :
    Calls Try.prog 17 #[.int .i64 s, .slice (some ad) 1024 c] w (DP w s b) := by
  have s0 : (s == 0) = true := by rw [beqI]; exact decide_eq_true (by omega)
  have HNS : Hid (isS s = true) := hid_ (by rw [h0]; rfl)
  clear h0
  obtain ⟨ad8, b8, e8, ho8, d8⟩ := hR.byte (show 8 < 1024 by omega)
  injection e8 with e8
  subst e8
  have d8 : w.cell? ⟨ad.block, ad.off + 8, none⟩ = some (.int .u8 b8) := by rw [show ad.off + 8 = ad.off + (7 + 1) from rfl, ← addS ad 7]; exact d8
  have hb8r : 0 ≤ b8 ∧ b8 < 256 := hb b8 (List.mem_of_getElem? ho8)
  have HG8 : Hid (b.getD 8 0 = b8) := hid_ (by rw [List.getD_eq_getElem?_getD, ho8]; rfl)
  have w8 : IntKind.i64.wrap b8 = b8 := wrapI (by omega)
  obtain ⟨A11, hcut11, hrow11⟩ := byteS.cutFrom (P := Try.prog) .i64 (some ad) 1024 c 11 (by omega) hc
  simp only [show ((11 : Nat) : Int) = 11 from rfl] at hcut11
  have hbb11 : ∀ x ∈ b.drop 11, 0 ≤ x ∧ x < 256 := fun x hx => hb x (List.mem_of_mem_drop hx)
  obtain ⟨Q2, hQ2⟩ : ∃ Q, guessP b8 (b.drop 11) = Q := ⟨_, rfl⟩
  have HGS8 : Hid (∀ Y, Bel w Y → Calls Try.prog 48 #[.int .i64 b8, .slice A11 (1024 - 11) (c - 11)] Y fun e w' => ∃ v, e = .returned v ∧ PgFr Y.heap.size w' Q2 v ∧ Bel Y w') := hid_ (fun Y hY => by rw [← hQ2]; exact guess5_any b8 A11 (1024 - 11) (c - 11) (b.drop 11) Y ((hrow11 _ _ hR).bel hY) (by omega) hbb11)
  have HQW2 := hid_ (guess_w hb8r hbb11)
  rw [hQ2] at HQW2
  have HQ2 := hid_ hQ2
  have D8 := hid_ d8
  obtain ⟨ep, hep⟩ : ∃ ep, getN b 0 8 = ep := ⟨_, rfl⟩
  have HGE := hid_ (getAt (c := c) hR hb (a := 0) (at_ := 0) rfl (by omega) (kk := 8) (k := 8) rfl (by omega))
  have HER := hid_ (ep8_rng hb)
  rw [hep] at HGE HER
  have HEP := hid_ hep
  clear ho8 hrow11 hbb11 hQ2 hb8r d8 hep
  obtain ⟨ad', b0, e', ho, d0⟩ := hR.byte (show 0 < 1024 by omega)
  injection e' with e'
  subst e'
  have d0 : w.cell? ad = some (.int .u8 b0) := d0
  have hb0r : 0 ≤ b0 ∧ b0 < 256 := hb b0 (List.mem_of_getElem? ho)
  have hg0 : b.getD 0 0 = b0 := by rw [List.getD_eq_getElem?_getD, ho]; rfl
  have w0 : IntKind.i64.wrap b0 = b0 := wrapI (by omega)
  obtain ⟨A3, hcut3, hrow3⟩ := byteS.cutFrom (P := Try.prog) .i64 (some ad) 1024 c 3 (by omega) hc
  simp only [show ((3 : Nat) : Int) = 3 from rfl] at hcut3
  have hbb : ∀ x ∈ b.drop 3, 0 ≤ x ∧ x < 256 := fun x hx => hb x (List.mem_of_mem_drop hx)
  obtain ⟨Q, hQ⟩ : ∃ Q, guessP b0 (b.drop 3) = Q := ⟨_, rfl⟩
  have HGS : Hid (∀ Y, Bel w Y → Calls Try.prog 48 #[.int .i64 b0, .slice A3 (1024 - 3) (c - 3)] Y fun e w' => ∃ v, e = .returned v ∧ PgFr Y.heap.size w' Q v ∧ Bel Y w') := hid_ (fun Y hY => by rw [← hQ]; exact guess5_any b0 A3 (1024 - 3) (c - 3) (b.drop 3) Y ((hrow3 _ _ hR).bel hY) (by omega) hbb)
  have HQW := hid_ (guess_w hb0r hbb)
  rw [hQ] at HQW
  have HQ := hid_ hQ
  have HG0 := hid_ hg0
  have HROW := hid_ hR
  have HBB := hid_ hb
  have HCC := hid_ hc
  have D0 := hid_ d0
  have hbl := hR.1
  have q : ((1024 : Int) != 1024) = false := rfl
  clear hR hb hc ho hg0 hQ hrow3 hbb hbl hb0r
  go_enter Try.func17, Try.ntmps17
  go_upto_region 1 with (fail)
  have hz := Bx.new w 28 zeroC
  have hb0 := (Bel.refl w).alloc (.cells zeroC.toArray 28)
  unfold zeroC at hz hb0
  have hs := sizeAl w (.cells zeroC.toArray 28)
  unfold zeroC at hs
  generalize w.alloc _ = W0 at hz hb0 hs ⊢
  have HZ := hid_ hz
  have HB := hid_ hb0
  have HS := hid_ hs
  clear hz hb0 hs
  have HLD : Hid (W0.heap.size < (W0.alloc (.cells ([.int .i64 0, .slice none 0 0, .slice none 0 0, .slice none 0 0, .slice none 0 0, .int .i64 0, .int .u64 0, .int .i64 0, .int .i64 0, .int .i64 0, .int .i64 0] : List Value).toArray 28)).drew.heap.size) := hid_ (by simp)
  have HLE : Hid (W0.heap.size < (W0.alloc (.cells ([.int .i64 0, .slice none 0 0, .slice none 0 0, .slice none 0 0, .slice none 0 0, .int .i64 0, .int .u64 0, .int .i64 0, .int .i64 0, .int .i64 0, .int .i64 0] : List Value).toArray 28)).heap.size) := hid_ (by simp)
  have hC := Bel.refl W0
  have HLTW : Hid (w.heap.size < W0.heap.size) := hid_ (by have := HS.out; omega)
  have HKP : Hid (∀ W, Bel W0 W → (fun W => W.cell? ad = some (.int .u8 b0)) W) := hid_ (fun W hW => (HB.out.trans hW).cell_ D0.out)
  have d0 := HB.out.cell_ D0.out
  go_upto_region 3 with (fail)
  go_region_held3 (fun W => W.cell? ad = some (.int .u8 b0)) ((refine HKP.out _ ?_; repeat first | with_reducible exact hC | with_reducible exact Bel.refl _ | with_reducible apply Bel.drew | with_reducible apply Bel.alloc | with_reducible refine Bel.setBx ?_ (Nat.le_refl _) _))
    (first
    | (go_at_call 48; with_reducible refine' Calls.mono (HGS.out _ (HB.out.trans (hC.trans (by repeat first | with_reducible exact Bel.refl _ | with_reducible apply Bel.drew | with_reducible apply Bel.alloc)))) ?_; rintro e wa ⟨va, rfl, hF, ha⟩; unfold PgFr at hF; obtain ⟨G1, x1, y1, G2, x2, y2, G3, x3, y3, G4, x4, y4, hva, v1, v2, v3, v4, hAt, hAw⟩ := hF; unfold pgV pgC at hva; subst hva; have hAW := hAw w.heap.size (Nat.lt_of_lt_of_le HLTW.out (Bel.size_ (hC.trans (by repeat first | with_reducible exact Bel.refl _ | with_reducible apply Bel.drew | with_reducible apply Bel.alloc)))); replace hC := (hC.trans (by repeat first | with_reducible exact Bel.refl _ | with_reducible apply Bel.drew | with_reducible apply Bel.alloc)).trans ha; (first | (have hx := ((Bx.new W0 28 [.int .i64 0, .slice none 0 0, .slice none 0 0, .slice none 0 0, .slice none 0 0, .int .i64 0, .int .u64 0, .int .i64 0, .int .i64 0, .int .i64 0, .int .i64 0]).bel ((Bel.refl _).drew)).bel ha; have hAX := hAw W0.heap.size HLD.out; have yy0 := hx.cell 0 rfl; have yy1 := hx.cell 1 rfl; have yy2 := hx.cell 2 rfl; have yy3 := hx.cell 3 rfl; have yy4 := hx.cell 4 rfl; have yy5 := hx.cell 5 rfl; have yy6 := hx.cell 6 rfl; have yy7 := hx.cell 7 rfl; have yy8 := hx.cell 8 rfl; have yy9 := hx.cell 9 rfl; have yy10 := hx.cell 10 rfl; have yf := fun j => hx.frozen j) | (have hx := (Bx.new W0 28 [.int .i64 0, .slice none 0 0, .slice none 0 0, .slice none 0 0, .slice none 0 0, .int .i64 0, .int .u64 0, .int .i64 0, .int .i64 0, .int .i64 0, .int .i64 0]).bel ha; have hAX := hAw W0.heap.size HLE.out; have yy0 := hx.cell 0 rfl; have yy1 := hx.cell 1 rfl; have yy2 := hx.cell 2 rfl; have yy3 := hx.cell 3 rfl; have yy4 := hx.cell 4 rfl; have yy5 := hx.cell 5 rfl; have yy6 := hx.cell 6 rfl; have yy7 := hx.cell 7 rfl; have yy8 := hx.cell 8 rfl; have yy9 := hx.cell 9 rfl; have yy10 := hx.cell 10 rfl; have yf := fun j => hx.frozen j) | skip)))
  all_goals (
    rename_i hHeld
    go_upto_region 4 with (fail)
    have HAW := hid_ hAW
    have HLC := hid_ (And.intro v1 (And.intro v2 (And.intro v3 v4)))
    first
      | (
         have hb := (Bel.refl wa).alloc (.cells [.int .i64 Q.kind, .slice G1 x1 y1, .slice G2 x2 y2, .slice G3 x3 y3, .slice G4 x4 y4, .int .i64 Q.next, .int .u64 Q.epoch, .int .i64 Q.root, .int .i64 Q.depth, .int .i64 Q.count, .int .i64 Q.high].toArray 28)
         have hbx := Bx.new wa 28 [.int .i64 Q.kind, .slice G1 x1 y1, .slice G2 x2 y2, .slice G3 x3 y3, .slice G4 x4 y4, .int .i64 Q.next, .int .u64 Q.epoch, .int .i64 Q.root, .int .i64 Q.depth, .int .i64 Q.count, .int .i64 Q.high]
         obtain ⟨W1, hW1⟩ : ∃ W1, wa.alloc (.cells [.int .i64 Q.kind, .slice G1 x1 y1, .slice G2 x2 y2, .slice G3 x3 y3, .slice G4 x4 y4, .int .i64 Q.next, .int .u64 Q.epoch, .int .i64 Q.root, .int .i64 Q.depth, .int .i64 Q.count, .int .i64 Q.high].toArray 28) = W1 := ⟨_, rfl⟩
         rw [hW1] at hb hbx ⊢
         obtain ⟨gp, hgp⟩ : ∃ gp, wa.heap.size = gp := ⟨_, rfl⟩
         rw [hgp] at hbx ⊢
         have HPX := hid_ hbx
         have HGL := hid_ hbx.lt
         have HGP : Hid (w.heap.size + 1 ≤ gp) := hid_ (by have h1 := HS.out; have h2 := hC.size_; omega)
         have HZ := hid_ (HZ.out.bel (hC.trans hb))
         have HB := hid_ (HB.out.trans (hC.trans hb))
         have HAT := hid_ (hAt.bel hb)
         clear hb hbx hW1 hgp)
      | (
         have hbx := bx_setP (q := Q) (a := .slice G1 x1 y1) (b := .slice G2 x2 y2) (c := .slice G3 x3 y3) (d := .slice G4 x4 y4) hx rfl
         have hz := bxFar_setP (g' := W0.heap.size) (q := Q) (a := .slice G1 x1 y1) (b := .slice G2 x2 y2) (c := .slice G3 x3 y3) (d := .slice G4 x4 y4) (HZ.out.bel hC) (by have := HS.out; omega)
         have hbel := bel_setP (g := W0.heap.size) (q := Q) (a := .slice G1 x1 y1) (b := .slice G2 x2 y2) (c := .slice G3 x3 y3) (d := .slice G4 x4 y4) (HB.out.trans hC) (by have := HS.out; omega)
         have hat := pgAt_setP (q' := Q) (a := .slice G1 x1 y1) (b := .slice G2 x2 y2) (c := .slice G3 x3 y3) (d := .slice G4 x4 y4) hAt hAX
         obtain ⟨W1, hW1⟩ : ∃ W1, setP wa W0.heap.size Q (.slice G1 x1 y1) (.slice G2 x2 y2) (.slice G3 x3 y3) (.slice G4 x4 y4) = W1 := ⟨_, rfl⟩
         rw [hW1] at hbx hz hbel hat
         unfold setP at hW1
         rw [hW1]
         clear hW1
         have hgl : W0.heap.size < W1.heap.size := hbx.lt
         clear yy0 yy1 yy2 yy3 yy4 yy5 yy6 yy7 yy8 yy9 yy10 yf hx hAX
         have HGP0 : Hid (w.heap.size + 1 ≤ W0.heap.size) := hid_ (by have := HS.out; omega)
         obtain ⟨gp, hgp⟩ : ∃ gp, W0.heap.size = gp := ⟨_, rfl⟩
         rw [hgp] at hbx hgl HGP0 ⊢
         have HPX := hid_ hbx
         have HGL := hid_ hgl
         have HGP := HGP0
         have HZ := hid_ hz
         have HB := hid_ hbel
         have HAT := hid_ hat
         clear hbx hz hbel hat hgl hgp HGP0)
    clear hHeld HKP hAt hAw hAW v1 v2 v3 v4 hC ha d0 hcut3 HLD HLE
    have HKP : Hid (∀ W, Bel w W → (fun W => W.cell? ⟨ad.block, ad.off + 8, none⟩ = some (.int .u8 b8)) W) := hid_ (fun W hW => hW.cell_ D8.out)
    have d8 := HB.out.cell_ D8.out
    have hC := HB.out
    have HGW : Hid (w.heap.size ≤ gp) := hid_ (by have := HGP.out; omega)
    have HWL : Hid (w.heap.size < W1.heap.size) := hid_ (by have := HGL.out; have := HGP.out; omega)
    clear HAT HAW HLC
    go_upto_region 5 with (fail)
    go_region_held3 (fun W => W.cell? ⟨ad.block, ad.off + 8, none⟩ = some (.int .u8 b8)) ((refine HKP.out _ ?_; repeat first | with_reducible exact hC | with_reducible exact HB.out | with_reducible apply Bel.drew | with_reducible apply Bel.alloc | with_reducible refine Bel.setBx ?_ HGW.out _))
      (first
      | (go_at_call 48; with_reducible refine' Calls.mono (HGS8.out _ (HB.out.trans (by repeat first | with_reducible exact Bel.refl _ | with_reducible apply Bel.drew | with_reducible apply Bel.alloc))) ?_; rintro e wm ⟨vm, rfl, hF, ha⟩; unfold PgFr at hF; obtain ⟨M1, u1, t1, M2, u2, t2, M3, u3, t3, M4, u4, t4, hva, v1, v2, v3, v4, hAt, hAw⟩ := hF; unfold pgV pgC at hva; subst hva; have hAW := hAw w.heap.size (Nat.lt_of_lt_of_le HWL.out (Bel.size_ (Bel.trans (Bel.refl W1) (by repeat first | with_reducible exact Bel.refl _ | with_reducible apply Bel.drew | with_reducible apply Bel.alloc)))); have hAX := hAw gp (Nat.lt_of_lt_of_le HGL.out (Bel.size_ (Bel.trans (Bel.refl W1) (by repeat first | with_reducible exact Bel.refl _ | with_reducible apply Bel.drew | with_reducible apply Bel.alloc)))); have hD := Bel.trans (w := W1) (by repeat first | with_reducible exact Bel.refl _ | with_reducible apply Bel.drew | with_reducible apply Bel.alloc) ha; replace hC := HB.out.trans hD; have hx := HPX.out.bel hD; have yy0 := hx.cell 0 rfl; have yy1 := hx.cell 1 rfl; have yy2 := hx.cell 2 rfl; have yy3 := hx.cell 3 rfl; have yy4 := hx.cell 4 rfl; have yy5 := hx.cell 5 rfl; have yy6 := hx.cell 6 rfl; have yy7 := hx.cell 7 rfl; have yy8 := hx.cell 8 rfl; have yy9 := hx.cell 9 rfl; have yy10 := hx.cell 10 rfl; have yf := fun j => hx.frozen j))
    all_goals (
      rename_i hHeld
      have hbx := bx_setP (q := Q2) (a := .slice M1 u1 t1) (b := .slice M2 u2 t2) (c := .slice M3 u3 t3) (d := .slice M4 u4 t4) hx rfl
      have hz := bxFar_setP (g' := gp) (q := Q2) (a := .slice M1 u1 t1) (b := .slice M2 u2 t2) (c := .slice M3 u3 t3) (d := .slice M4 u4 t4) (HZ.out.bel hD) (by have := HGP.out; omega)
      have hbel := bel_setP (g := gp) (q := Q2) (a := .slice M1 u1 t1) (b := .slice M2 u2 t2) (c := .slice M3 u3 t3) (d := .slice M4 u4 t4) hC HGW.out
      have hat := pgAt_setP (q' := Q2) (a := .slice M1 u1 t1) (b := .slice M2 u2 t2) (c := .slice M3 u3 t3) (d := .slice M4 u4 t4) hAt hAX
      go_upto_region 6 with (fail)
      obtain ⟨W2, hW2⟩ : ∃ W2, setP wm gp Q2 (.slice M1 u1 t1) (.slice M2 u2 t2) (.slice M3 u3 t3) (.slice M4 u4 t4) = W2 := ⟨_, rfl⟩
      rw [hW2] at hbx hz hbel hat
      unfold setP at hW2
      rw [hW2]
      have HPX := hid_ hbx
      have HZ := hid_ hz
      have HB := hid_ hbel
      have HAT := hid_ hat
      have HAW := hid_ hAW
      have HAX := hid_ hAX
      have HLC := hid_ (And.intro v1 (And.intro v2 (And.intro v3 v4)))
      clear hW2 yy0 yy1 yy2 yy3 yy4 yy5 yy6 yy7 yy8 yy9 yy10 yf hx hAX hbx hz hbel hat hHeld HKP hAt hAw hAW v1 v2 v3 v4 hC ha hD d8 hcut11
      go_wp2_with fail
      refine (HGE.out _ HB.out).mono ?_
      rintro e _ ⟨rfl, rfl⟩
      have ck := HPX.out.cell 6 rfl
      have fk := HPX.out.frozen 6
      go_upto_region 7 with (fail)
      have hbx := HPX.out.set 6 (.int .u64 ep)
      have hz := HZ.out.far (g' := gp) (j := 6) (by have := HGP.out; omega) (.int .u64 ep)
      have hbel := HB.out.setBx (g := gp) (j := 6) HGW.out (.int .u64 ep)
      have hat := HAT.out.far HAX.out.1 HAX.out.2.1 HAX.out.2.2.1 HAX.out.2.2.2 6 (.int .u64 ep)
      simp only [pgC, List.set] at hbx
      clear ck fk
      generalize W2.setCell ⟨gp, 6, none⟩ (.int .u64 ep) = W3 at hbx hz hbel hat ⊢
      obtain ⟨P, hP⟩ : ∃ P, ({ Q2 with epoch := ep } : Pg) = P := ⟨_, rfl⟩
      have hbx : Bx W3 gp 28 (pgC P (.slice M1 u1 t1) (.slice M2 u2 t2) (.slice M3 u3 t3) (.slice M4 u4 t4)) := by rw [← hP]; exact hbx
      have hat : PgAt W3 P M1 u1 M2 u2 M3 u3 M4 u4 := by rw [← hP]; exact pgAt_ep hat
      have HW : Hid (PgW P ∧ P.keys.length ≤ 1000000 ∧ P.kids.length ≤ 1000000) := hid_ (by
        rw [← hP]
        have h := HQW2.out
        exact ⟨⟨h.1.1, h.1.2.1, HER.out, h.1.2.2.2.1, h.1.2.2.2.2.1, h.1.2.2.2.2.2.1, h.1.2.2.2.2.2.2.1, h.1.2.2.2.2.2.2.2.1, h.1.2.2.2.2.2.2.2.2⟩, h.2.1, h.2.2⟩)
      have HGO : Hid (gO s b = P) := hid_ (by rw [gO, if_pos HNS.out, HG8.out, HQ2.out, HEP.out, hP])
      have HPX := hid_ hbx
      have HZ := hid_ hz
      have HB := hid_ hbel
      have HAT := hid_ hat
      clear hbx hz hbel hat hP
      have c0 := HPX.out.cell 0 rfl
      have c1 := HPX.out.cell 1 rfl
      have c2 := HPX.out.cell 2 rfl
      have c3 := HPX.out.cell 3 rfl
      have c4 := HPX.out.cell 4 rfl
      have c5 := HPX.out.cell 5 rfl
      have c6 := HPX.out.cell 6 rfl
      have c7 := HPX.out.cell 7 rfl
      have c8 := HPX.out.cell 8 rfl
      have c9 := HPX.out.cell 9 rfl
      have c10 := HPX.out.cell 10 rfl
      have hcase : okE s P = false ∨ okE s P = true := by cases okE s P <;> simp
      rcases hcase with ho | ho
      · have HO := hid_ ho
        clear ho
        go_wp2_with fail
        refine (encode5_no s P M1 M2 M3 M4 u1 t1 u2 t2 u3 t3 u4 t4 _ HAT.out HW.out.1 (by rw [← HAT.out.keys.1]; exact HW.out.2.1) (by rw [← HAT.out.kids.1]; exact HW.out.2.2) HO.out).mono ?_
        rintro e w8 ⟨rfl, hb⟩
        have HZx := hid_ (HZ.out.bel hb)
        have HBx := hid_ (HB.out.trans hb)
        have HD : Hid (decP s b = none) := hid_ (by rw [gO_dec HBB.out, HGO.out, if_neg (fun h => by rw [HO.out] at h; cases h.1)])
        clear hb c0 c1 c2 c3 c4 c5 c6 c7 c8 c9 c10
        have z0 := HZx.out.cell 0 rfl
        have z1 := HZx.out.cell 1 rfl
        have z2 := HZx.out.cell 2 rfl
        have z3 := HZx.out.cell 3 rfl
        have z4 := HZx.out.cell 4 rfl
        have z5 := HZx.out.cell 5 rfl
        have z6 := HZx.out.cell 6 rfl
        have z7 := HZx.out.cell 7 rfl
        have z8 := HZx.out.cell 8 rfl
        have z9 := HZx.out.cell 9 rfl
        have z10 := HZx.out.cell 10 rfl
        have zf := fun j => HZx.out.frozen j
        have KS := hid_ (bx_setP (q := pgZ) (a := .slice none 0 0) (b := .slice none 0 0) (c := .slice none 0 0) (d := .slice none 0 0) HZx.out rfl)
        have KB := hid_ (bel_setP (q := pgZ) (a := .slice none 0 0) (b := .slice none 0 0) (c := .slice none 0 0) (d := .slice none 0 0) HBx.out (Nat.le_refl w.heap.size))
        go_wp2
        refine bodyPost_ret (results_ct5 rfl _ _ w.heap.size 28 _ (0, 0) _ rfl KS.out Try.underlying28 rfl (by kernel_rfl)) rfl ?_
        exact .inr ⟨HD.out, rfl, KB.out⟩
      · have HO := hid_ ho
        clear ho
        go_wp2_with fail
        refine (encode5_yes s P M1 M2 M3 M4 u1 t1 u2 t2 u3 t3 u4 t4 _ HAT.out HW.out.1 (by rw [← HAT.out.keys.1]; exact HW.out.2.1) (by rw [← HAT.out.kids.1]; exact HW.out.2.2) HO.out).mono ?_
        rintro e w8 ⟨AR, cR, rfl, hcR, hRR, hb⟩
        have s1 := run_str (c := cR) hRR
        have s2 := run_str (c := c) (HROW.out.bel (HB.out.trans hb))
        obtain ⟨t, ht⟩ : ∃ t, decide (encP s P = b) = t := ⟨_, rfl⟩
        have q1 : ((strOfNums (encP s P)).toList == (strOfNums b).toList) = t := by rw [strEq5 (enc_byte (here_iff HO.out).1) HBB.out, ht]
        have HT := hid_ ht
        have HZx := hid_ (HZ.out.bel hb)
        have HBx := hid_ (HB.out.trans hb)
        have HPx := hid_ (HPX.out.bel hb)
        have HAx := hid_ (HAT.out.bel hb)
        clear ht hRR hcR hb c0 c1 c2 c3 c4 c5 c6 c7 c8 c9 c10
        cases t
        · have HD : Hid (decP s b = none) := hid_ (by rw [gO_dec HBB.out, HGO.out, if_neg (fun h => of_decide_eq_false HT.out h.2)])
          have z0 := HZx.out.cell 0 rfl
          have z1 := HZx.out.cell 1 rfl
          have z2 := HZx.out.cell 2 rfl
          have z3 := HZx.out.cell 3 rfl
          have z4 := HZx.out.cell 4 rfl
          have z5 := HZx.out.cell 5 rfl
          have z6 := HZx.out.cell 6 rfl
          have z7 := HZx.out.cell 7 rfl
          have z8 := HZx.out.cell 8 rfl
          have z9 := HZx.out.cell 9 rfl
          have z10 := HZx.out.cell 10 rfl
          have zf := fun j => HZx.out.frozen j
          have KS := hid_ (bx_setP (q := pgZ) (a := .slice none 0 0) (b := .slice none 0 0) (c := .slice none 0 0) (d := .slice none 0 0) HZx.out rfl)
          have KB := hid_ (bel_setP (q := pgZ) (a := .slice none 0 0) (b := .slice none 0 0) (c := .slice none 0 0) (d := .slice none 0 0) HBx.out (Nat.le_refl w.heap.size))
          go_wp2
          refine bodyPost_ret (results_ct5 rfl _ _ w.heap.size 28 _ (0, 0) _ rfl KS.out Try.underlying28 rfl (by kernel_rfl)) rfl ?_
          exact .inr ⟨HD.out, rfl, KB.out⟩
        · have HD : Hid (decP s b = some P) := hid_ (by rw [gO_dec HBB.out, HGO.out, if_pos ⟨HO.out, of_decide_eq_true HT.out⟩])
          have c0 := HPx.out.cell 0 rfl
          have z0 := HZx.out.cell 0 rfl
          have c1 := HPx.out.cell 1 rfl
          have z1 := HZx.out.cell 1 rfl
          have c2 := HPx.out.cell 2 rfl
          have z2 := HZx.out.cell 2 rfl
          have c3 := HPx.out.cell 3 rfl
          have z3 := HZx.out.cell 3 rfl
          have c4 := HPx.out.cell 4 rfl
          have z4 := HZx.out.cell 4 rfl
          have c5 := HPx.out.cell 5 rfl
          have z5 := HZx.out.cell 5 rfl
          have c6 := HPx.out.cell 6 rfl
          have z6 := HZx.out.cell 6 rfl
          have c7 := HPx.out.cell 7 rfl
          have z7 := HZx.out.cell 7 rfl
          have c8 := HPx.out.cell 8 rfl
          have z8 := HZx.out.cell 8 rfl
          have c9 := HPx.out.cell 9 rfl
          have z9 := HZx.out.cell 9 rfl
          have c10 := HPx.out.cell 10 rfl
          have z10 := HZx.out.cell 10 rfl
          have zf := fun j => HZx.out.frozen j
          have KS := hid_ (bx_setP (q := P) (a := .slice M1 u1 t1) (b := .slice M2 u2 t2) (c := .slice M3 u3 t3) (d := .slice M4 u4 t4) HZx.out rfl)
          have KB := hid_ (bel_setP (q := P) (a := .slice M1 u1 t1) (b := .slice M2 u2 t2) (c := .slice M3 u3 t3) (d := .slice M4 u4 t4) HBx.out (Nat.le_refl w.heap.size))
          have KA := hid_ (pgAt_setP (q' := P) (a := .slice M1 u1 t1) (b := .slice M2 u2 t2) (c := .slice M3 u3 t3) (d := .slice M4 u4 t4) HAx.out HAW.out)
          go_wp2
          refine bodyPost_ret (results_ct5 rfl _ _ w.heap.size 28 _ (0, 0) _ rfl KS.out Try.underlying28 rfl (by kernel_rfl)) rfl ?_
          exact .inl ⟨_, _, HD.out, rfl, ⟨M1, u1, t1, M2, u2, t2, M3, u3, t3, M4, u4, t4, rfl, HLC.out.1, HLC.out.2.1, HLC.out.2.2.1, HLC.out.2.2.2, KA.out⟩, KB.out⟩))
set_option maxRecDepth 10000 in
set_option maxHeartbeats 8000000 in
theorem decode5_s1 (s : Int) (ad : Addr) (c : Nat) (b : List Int) (w : World) (hR : Row byteT w (some ad) 1024 b) (hc : 1024 ≤ c) (hb : ∀ x ∈ b, 0 ≤ x ∧ x < 256) (h0 : s = 1) :
    Calls Try.prog 17 #[.int .i64 s, .slice (some ad) 1024 c] w (DP w s b) := by
  have s0 : (s == 0) = false := by rw [beqI]; exact decide_eq_false (by omega)
  have s1' : (s == 1) = true := by rw [beqI]; exact decide_eq_true h0
  have HNS : Hid (isS s = true) := hid_ (by rw [h0]; rfl)
  clear h0
  obtain ⟨ad8, b8, e8, ho8, d8⟩ := hR.byte (show 8 < 1024 by omega)
  injection e8 with e8
  subst e8
  have d8 : w.cell? ⟨ad.block, ad.off + 8, none⟩ = some (.int .u8 b8) := by rw [show ad.off + 8 = ad.off + (7 + 1) from rfl, ← addS ad 7]; exact d8
  have hb8r : 0 ≤ b8 ∧ b8 < 256 := hb b8 (List.mem_of_getElem? ho8)
  have HG8 : Hid (b.getD 8 0 = b8) := hid_ (by rw [List.getD_eq_getElem?_getD, ho8]; rfl)
  have w8 : IntKind.i64.wrap b8 = b8 := wrapI (by omega)
  obtain ⟨A11, hcut11, hrow11⟩ := byteS.cutFrom (P := Try.prog) .i64 (some ad) 1024 c 11 (by omega) hc
  simp only [show ((11 : Nat) : Int) = 11 from rfl] at hcut11
  have hbb11 : ∀ x ∈ b.drop 11, 0 ≤ x ∧ x < 256 := fun x hx => hb x (List.mem_of_mem_drop hx)
  obtain ⟨Q2, hQ2⟩ : ∃ Q, guessP b8 (b.drop 11) = Q := ⟨_, rfl⟩
  have HGS8 : Hid (∀ Y, Bel w Y → Calls Try.prog 48 #[.int .i64 b8, .slice A11 (1024 - 11) (c - 11)] Y fun e w' => ∃ v, e = .returned v ∧ PgFr Y.heap.size w' Q2 v ∧ Bel Y w') := hid_ (fun Y hY => by rw [← hQ2]; exact guess5_any b8 A11 (1024 - 11) (c - 11) (b.drop 11) Y ((hrow11 _ _ hR).bel hY) (by omega) hbb11)
  have HQW2 := hid_ (guess_w hb8r hbb11)
  rw [hQ2] at HQW2
  have HQ2 := hid_ hQ2
  have D8 := hid_ d8
  obtain ⟨ep, hep⟩ : ∃ ep, getN b 0 8 = ep := ⟨_, rfl⟩
  have HGE := hid_ (getAt (c := c) hR hb (a := 0) (at_ := 0) rfl (by omega) (kk := 8) (k := 8) rfl (by omega))
  have HER := hid_ (ep8_rng hb)
  rw [hep] at HGE HER
  have HEP := hid_ hep
  clear ho8 hrow11 hbb11 hQ2 hb8r d8 hep
  obtain ⟨ad', b0, e', ho, d0⟩ := hR.byte (show 0 < 1024 by omega)
  injection e' with e'
  subst e'
  have d0 : w.cell? ad = some (.int .u8 b0) := d0
  have hb0r : 0 ≤ b0 ∧ b0 < 256 := hb b0 (List.mem_of_getElem? ho)
  have hg0 : b.getD 0 0 = b0 := by rw [List.getD_eq_getElem?_getD, ho]; rfl
  have w0 : IntKind.i64.wrap b0 = b0 := wrapI (by omega)
  obtain ⟨A3, hcut3, hrow3⟩ := byteS.cutFrom (P := Try.prog) .i64 (some ad) 1024 c 3 (by omega) hc
  simp only [show ((3 : Nat) : Int) = 3 from rfl] at hcut3
  have hbb : ∀ x ∈ b.drop 3, 0 ≤ x ∧ x < 256 := fun x hx => hb x (List.mem_of_mem_drop hx)
  obtain ⟨Q, hQ⟩ : ∃ Q, guessP b0 (b.drop 3) = Q := ⟨_, rfl⟩
  have HGS : Hid (∀ Y, Bel w Y → Calls Try.prog 48 #[.int .i64 b0, .slice A3 (1024 - 3) (c - 3)] Y fun e w' => ∃ v, e = .returned v ∧ PgFr Y.heap.size w' Q v ∧ Bel Y w') := hid_ (fun Y hY => by rw [← hQ]; exact guess5_any b0 A3 (1024 - 3) (c - 3) (b.drop 3) Y ((hrow3 _ _ hR).bel hY) (by omega) hbb)
  have HQW := hid_ (guess_w hb0r hbb)
  rw [hQ] at HQW
  have HQ := hid_ hQ
  have HG0 := hid_ hg0
  have HROW := hid_ hR
  have HBB := hid_ hb
  have HCC := hid_ hc
  have D0 := hid_ d0
  have hbl := hR.1
  have q : ((1024 : Int) != 1024) = false := rfl
  clear hR hb hc ho hg0 hQ hrow3 hbb hbl hb0r
  go_enter Try.func17, Try.ntmps17
  go_upto_region 1 with (fail)
  have hz := Bx.new w 28 zeroC
  have hb0 := (Bel.refl w).alloc (.cells zeroC.toArray 28)
  unfold zeroC at hz hb0
  have hs := sizeAl w (.cells zeroC.toArray 28)
  unfold zeroC at hs
  generalize w.alloc _ = W0 at hz hb0 hs ⊢
  have HZ := hid_ hz
  have HB := hid_ hb0
  have HS := hid_ hs
  clear hz hb0 hs
  have HLD : Hid (W0.heap.size < (W0.alloc (.cells ([.int .i64 0, .slice none 0 0, .slice none 0 0, .slice none 0 0, .slice none 0 0, .int .i64 0, .int .u64 0, .int .i64 0, .int .i64 0, .int .i64 0, .int .i64 0] : List Value).toArray 28)).drew.heap.size) := hid_ (by simp)
  have HLE : Hid (W0.heap.size < (W0.alloc (.cells ([.int .i64 0, .slice none 0 0, .slice none 0 0, .slice none 0 0, .slice none 0 0, .int .i64 0, .int .u64 0, .int .i64 0, .int .i64 0, .int .i64 0, .int .i64 0] : List Value).toArray 28)).heap.size) := hid_ (by simp)
  have hC := Bel.refl W0
  have HLTW : Hid (w.heap.size < W0.heap.size) := hid_ (by have := HS.out; omega)
  have HKP : Hid (∀ W, Bel W0 W → (fun W => W.cell? ad = some (.int .u8 b0)) W) := hid_ (fun W hW => (HB.out.trans hW).cell_ D0.out)
  have d0 := HB.out.cell_ D0.out
  go_upto_region 3 with (fail)
  go_region_held3 (fun W => W.cell? ad = some (.int .u8 b0)) ((refine HKP.out _ ?_; repeat first | with_reducible exact hC | with_reducible exact Bel.refl _ | with_reducible apply Bel.drew | with_reducible apply Bel.alloc | with_reducible refine Bel.setBx ?_ (Nat.le_refl _) _))
    (first
    | (go_at_call 48; with_reducible refine' Calls.mono (HGS.out _ (HB.out.trans (hC.trans (by repeat first | with_reducible exact Bel.refl _ | with_reducible apply Bel.drew | with_reducible apply Bel.alloc)))) ?_; rintro e wa ⟨va, rfl, hF, ha⟩; unfold PgFr at hF; obtain ⟨G1, x1, y1, G2, x2, y2, G3, x3, y3, G4, x4, y4, hva, v1, v2, v3, v4, hAt, hAw⟩ := hF; unfold pgV pgC at hva; subst hva; have hAW := hAw w.heap.size (Nat.lt_of_lt_of_le HLTW.out (Bel.size_ (hC.trans (by repeat first | with_reducible exact Bel.refl _ | with_reducible apply Bel.drew | with_reducible apply Bel.alloc)))); replace hC := (hC.trans (by repeat first | with_reducible exact Bel.refl _ | with_reducible apply Bel.drew | with_reducible apply Bel.alloc)).trans ha; (first | (have hx := ((Bx.new W0 28 [.int .i64 0, .slice none 0 0, .slice none 0 0, .slice none 0 0, .slice none 0 0, .int .i64 0, .int .u64 0, .int .i64 0, .int .i64 0, .int .i64 0, .int .i64 0]).bel ((Bel.refl _).drew)).bel ha; have hAX := hAw W0.heap.size HLD.out; have yy0 := hx.cell 0 rfl; have yy1 := hx.cell 1 rfl; have yy2 := hx.cell 2 rfl; have yy3 := hx.cell 3 rfl; have yy4 := hx.cell 4 rfl; have yy5 := hx.cell 5 rfl; have yy6 := hx.cell 6 rfl; have yy7 := hx.cell 7 rfl; have yy8 := hx.cell 8 rfl; have yy9 := hx.cell 9 rfl; have yy10 := hx.cell 10 rfl; have yf := fun j => hx.frozen j) | (have hx := (Bx.new W0 28 [.int .i64 0, .slice none 0 0, .slice none 0 0, .slice none 0 0, .slice none 0 0, .int .i64 0, .int .u64 0, .int .i64 0, .int .i64 0, .int .i64 0, .int .i64 0]).bel ha; have hAX := hAw W0.heap.size HLE.out; have yy0 := hx.cell 0 rfl; have yy1 := hx.cell 1 rfl; have yy2 := hx.cell 2 rfl; have yy3 := hx.cell 3 rfl; have yy4 := hx.cell 4 rfl; have yy5 := hx.cell 5 rfl; have yy6 := hx.cell 6 rfl; have yy7 := hx.cell 7 rfl; have yy8 := hx.cell 8 rfl; have yy9 := hx.cell 9 rfl; have yy10 := hx.cell 10 rfl; have yf := fun j => hx.frozen j) | skip)))
  all_goals (
    rename_i hHeld
    go_upto_region 4 with (fail)
    have HAW := hid_ hAW
    have HLC := hid_ (And.intro v1 (And.intro v2 (And.intro v3 v4)))
    first
      | (
         have hb := (Bel.refl wa).alloc (.cells [.int .i64 Q.kind, .slice G1 x1 y1, .slice G2 x2 y2, .slice G3 x3 y3, .slice G4 x4 y4, .int .i64 Q.next, .int .u64 Q.epoch, .int .i64 Q.root, .int .i64 Q.depth, .int .i64 Q.count, .int .i64 Q.high].toArray 28)
         have hbx := Bx.new wa 28 [.int .i64 Q.kind, .slice G1 x1 y1, .slice G2 x2 y2, .slice G3 x3 y3, .slice G4 x4 y4, .int .i64 Q.next, .int .u64 Q.epoch, .int .i64 Q.root, .int .i64 Q.depth, .int .i64 Q.count, .int .i64 Q.high]
         obtain ⟨W1, hW1⟩ : ∃ W1, wa.alloc (.cells [.int .i64 Q.kind, .slice G1 x1 y1, .slice G2 x2 y2, .slice G3 x3 y3, .slice G4 x4 y4, .int .i64 Q.next, .int .u64 Q.epoch, .int .i64 Q.root, .int .i64 Q.depth, .int .i64 Q.count, .int .i64 Q.high].toArray 28) = W1 := ⟨_, rfl⟩
         rw [hW1] at hb hbx ⊢
         obtain ⟨gp, hgp⟩ : ∃ gp, wa.heap.size = gp := ⟨_, rfl⟩
         rw [hgp] at hbx ⊢
         have HPX := hid_ hbx
         have HGL := hid_ hbx.lt
         have HGP : Hid (w.heap.size + 1 ≤ gp) := hid_ (by have h1 := HS.out; have h2 := hC.size_; omega)
         have HZ := hid_ (HZ.out.bel (hC.trans hb))
         have HB := hid_ (HB.out.trans (hC.trans hb))
         have HAT := hid_ (hAt.bel hb)
         clear hb hbx hW1 hgp)
      | (
         have hbx := bx_setP (q := Q) (a := .slice G1 x1 y1) (b := .slice G2 x2 y2) (c := .slice G3 x3 y3) (d := .slice G4 x4 y4) hx rfl
         have hz := bxFar_setP (g' := W0.heap.size) (q := Q) (a := .slice G1 x1 y1) (b := .slice G2 x2 y2) (c := .slice G3 x3 y3) (d := .slice G4 x4 y4) (HZ.out.bel hC) (by have := HS.out; omega)
         have hbel := bel_setP (g := W0.heap.size) (q := Q) (a := .slice G1 x1 y1) (b := .slice G2 x2 y2) (c := .slice G3 x3 y3) (d := .slice G4 x4 y4) (HB.out.trans hC) (by have := HS.out; omega)
         have hat := pgAt_setP (q' := Q) (a := .slice G1 x1 y1) (b := .slice G2 x2 y2) (c := .slice G3 x3 y3) (d := .slice G4 x4 y4) hAt hAX
         obtain ⟨W1, hW1⟩ : ∃ W1, setP wa W0.heap.size Q (.slice G1 x1 y1) (.slice G2 x2 y2) (.slice G3 x3 y3) (.slice G4 x4 y4) = W1 := ⟨_, rfl⟩
         rw [hW1] at hbx hz hbel hat
         unfold setP at hW1
         rw [hW1]
         clear hW1
         have hgl : W0.heap.size < W1.heap.size := hbx.lt
         clear yy0 yy1 yy2 yy3 yy4 yy5 yy6 yy7 yy8 yy9 yy10 yf hx hAX
         have HGP0 : Hid (w.heap.size + 1 ≤ W0.heap.size) := hid_ (by have := HS.out; omega)
         obtain ⟨gp, hgp⟩ : ∃ gp, W0.heap.size = gp := ⟨_, rfl⟩
         rw [hgp] at hbx hgl HGP0 ⊢
         have HPX := hid_ hbx
         have HGL := hid_ hgl
         have HGP := HGP0
         have HZ := hid_ hz
         have HB := hid_ hbel
         have HAT := hid_ hat
         clear hbx hz hbel hat hgl hgp HGP0)
    clear hHeld HKP hAt hAw hAW v1 v2 v3 v4 hC ha d0 hcut3 HLD HLE
    have HKP : Hid (∀ W, Bel w W → (fun W => W.cell? ⟨ad.block, ad.off + 8, none⟩ = some (.int .u8 b8)) W) := hid_ (fun W hW => hW.cell_ D8.out)
    have d8 := HB.out.cell_ D8.out
    have hC := HB.out
    have HGW : Hid (w.heap.size ≤ gp) := hid_ (by have := HGP.out; omega)
    have HWL : Hid (w.heap.size < W1.heap.size) := hid_ (by have := HGL.out; have := HGP.out; omega)
    clear HAT HAW HLC
    go_upto_region 5 with (fail)
    go_region_held3 (fun W => W.cell? ⟨ad.block, ad.off + 8, none⟩ = some (.int .u8 b8)) ((refine HKP.out _ ?_; repeat first | with_reducible exact hC | with_reducible exact HB.out | with_reducible apply Bel.drew | with_reducible apply Bel.alloc | with_reducible refine Bel.setBx ?_ HGW.out _))
      (first
      | (go_at_call 48; with_reducible refine' Calls.mono (HGS8.out _ (HB.out.trans (by repeat first | with_reducible exact Bel.refl _ | with_reducible apply Bel.drew | with_reducible apply Bel.alloc))) ?_; rintro e wm ⟨vm, rfl, hF, ha⟩; unfold PgFr at hF; obtain ⟨M1, u1, t1, M2, u2, t2, M3, u3, t3, M4, u4, t4, hva, v1, v2, v3, v4, hAt, hAw⟩ := hF; unfold pgV pgC at hva; subst hva; have hAW := hAw w.heap.size (Nat.lt_of_lt_of_le HWL.out (Bel.size_ (Bel.trans (Bel.refl W1) (by repeat first | with_reducible exact Bel.refl _ | with_reducible apply Bel.drew | with_reducible apply Bel.alloc)))); have hAX := hAw gp (Nat.lt_of_lt_of_le HGL.out (Bel.size_ (Bel.trans (Bel.refl W1) (by repeat first | with_reducible exact Bel.refl _ | with_reducible apply Bel.drew | with_reducible apply Bel.alloc)))); have hD := Bel.trans (w := W1) (by repeat first | with_reducible exact Bel.refl _ | with_reducible apply Bel.drew | with_reducible apply Bel.alloc) ha; replace hC := HB.out.trans hD; have hx := HPX.out.bel hD; have yy0 := hx.cell 0 rfl; have yy1 := hx.cell 1 rfl; have yy2 := hx.cell 2 rfl; have yy3 := hx.cell 3 rfl; have yy4 := hx.cell 4 rfl; have yy5 := hx.cell 5 rfl; have yy6 := hx.cell 6 rfl; have yy7 := hx.cell 7 rfl; have yy8 := hx.cell 8 rfl; have yy9 := hx.cell 9 rfl; have yy10 := hx.cell 10 rfl; have yf := fun j => hx.frozen j))
    all_goals (
      rename_i hHeld
      have hbx := bx_setP (q := Q2) (a := .slice M1 u1 t1) (b := .slice M2 u2 t2) (c := .slice M3 u3 t3) (d := .slice M4 u4 t4) hx rfl
      have hz := bxFar_setP (g' := gp) (q := Q2) (a := .slice M1 u1 t1) (b := .slice M2 u2 t2) (c := .slice M3 u3 t3) (d := .slice M4 u4 t4) (HZ.out.bel hD) (by have := HGP.out; omega)
      have hbel := bel_setP (g := gp) (q := Q2) (a := .slice M1 u1 t1) (b := .slice M2 u2 t2) (c := .slice M3 u3 t3) (d := .slice M4 u4 t4) hC HGW.out
      have hat := pgAt_setP (q' := Q2) (a := .slice M1 u1 t1) (b := .slice M2 u2 t2) (c := .slice M3 u3 t3) (d := .slice M4 u4 t4) hAt hAX
      go_upto_region 6 with (fail)
      obtain ⟨W2, hW2⟩ : ∃ W2, setP wm gp Q2 (.slice M1 u1 t1) (.slice M2 u2 t2) (.slice M3 u3 t3) (.slice M4 u4 t4) = W2 := ⟨_, rfl⟩
      rw [hW2] at hbx hz hbel hat
      unfold setP at hW2
      rw [hW2]
      have HPX := hid_ hbx
      have HZ := hid_ hz
      have HB := hid_ hbel
      have HAT := hid_ hat
      have HAW := hid_ hAW
      have HAX := hid_ hAX
      have HLC := hid_ (And.intro v1 (And.intro v2 (And.intro v3 v4)))
      clear hW2 yy0 yy1 yy2 yy3 yy4 yy5 yy6 yy7 yy8 yy9 yy10 yf hx hAX hbx hz hbel hat hHeld HKP hAt hAw hAW v1 v2 v3 v4 hC ha hD d8 hcut11
      go_wp2_with fail
      refine (HGE.out _ HB.out).mono ?_
      rintro e _ ⟨rfl, rfl⟩
      have ck := HPX.out.cell 6 rfl
      have fk := HPX.out.frozen 6
      go_upto_region 7 with (fail)
      have hbx := HPX.out.set 6 (.int .u64 ep)
      have hz := HZ.out.far (g' := gp) (j := 6) (by have := HGP.out; omega) (.int .u64 ep)
      have hbel := HB.out.setBx (g := gp) (j := 6) HGW.out (.int .u64 ep)
      have hat := HAT.out.far HAX.out.1 HAX.out.2.1 HAX.out.2.2.1 HAX.out.2.2.2 6 (.int .u64 ep)
      simp only [pgC, List.set] at hbx
      clear ck fk
      generalize W2.setCell ⟨gp, 6, none⟩ (.int .u64 ep) = W3 at hbx hz hbel hat ⊢
      obtain ⟨P, hP⟩ : ∃ P, ({ Q2 with epoch := ep } : Pg) = P := ⟨_, rfl⟩
      have hbx : Bx W3 gp 28 (pgC P (.slice M1 u1 t1) (.slice M2 u2 t2) (.slice M3 u3 t3) (.slice M4 u4 t4)) := by rw [← hP]; exact hbx
      have hat : PgAt W3 P M1 u1 M2 u2 M3 u3 M4 u4 := by rw [← hP]; exact pgAt_ep hat
      have HW : Hid (PgW P ∧ P.keys.length ≤ 1000000 ∧ P.kids.length ≤ 1000000) := hid_ (by
        rw [← hP]
        have h := HQW2.out
        exact ⟨⟨h.1.1, h.1.2.1, HER.out, h.1.2.2.2.1, h.1.2.2.2.2.1, h.1.2.2.2.2.2.1, h.1.2.2.2.2.2.2.1, h.1.2.2.2.2.2.2.2.1, h.1.2.2.2.2.2.2.2.2⟩, h.2.1, h.2.2⟩)
      have HGO : Hid (gO s b = P) := hid_ (by rw [gO, if_pos HNS.out, HG8.out, HQ2.out, HEP.out, hP])
      have HPX := hid_ hbx
      have HZ := hid_ hz
      have HB := hid_ hbel
      have HAT := hid_ hat
      clear hbx hz hbel hat hP
      have c0 := HPX.out.cell 0 rfl
      have c1 := HPX.out.cell 1 rfl
      have c2 := HPX.out.cell 2 rfl
      have c3 := HPX.out.cell 3 rfl
      have c4 := HPX.out.cell 4 rfl
      have c5 := HPX.out.cell 5 rfl
      have c6 := HPX.out.cell 6 rfl
      have c7 := HPX.out.cell 7 rfl
      have c8 := HPX.out.cell 8 rfl
      have c9 := HPX.out.cell 9 rfl
      have c10 := HPX.out.cell 10 rfl
      have hcase : okE s P = false ∨ okE s P = true := by cases okE s P <;> simp
      rcases hcase with ho | ho
      · have HO := hid_ ho
        clear ho
        go_wp2_with fail
        refine (encode5_no s P M1 M2 M3 M4 u1 t1 u2 t2 u3 t3 u4 t4 _ HAT.out HW.out.1 (by rw [← HAT.out.keys.1]; exact HW.out.2.1) (by rw [← HAT.out.kids.1]; exact HW.out.2.2) HO.out).mono ?_
        rintro e w8 ⟨rfl, hb⟩
        have HZx := hid_ (HZ.out.bel hb)
        have HBx := hid_ (HB.out.trans hb)
        have HD : Hid (decP s b = none) := hid_ (by rw [gO_dec HBB.out, HGO.out, if_neg (fun h => by rw [HO.out] at h; cases h.1)])
        clear hb c0 c1 c2 c3 c4 c5 c6 c7 c8 c9 c10
        have z0 := HZx.out.cell 0 rfl
        have z1 := HZx.out.cell 1 rfl
        have z2 := HZx.out.cell 2 rfl
        have z3 := HZx.out.cell 3 rfl
        have z4 := HZx.out.cell 4 rfl
        have z5 := HZx.out.cell 5 rfl
        have z6 := HZx.out.cell 6 rfl
        have z7 := HZx.out.cell 7 rfl
        have z8 := HZx.out.cell 8 rfl
        have z9 := HZx.out.cell 9 rfl
        have z10 := HZx.out.cell 10 rfl
        have zf := fun j => HZx.out.frozen j
        have KS := hid_ (bx_setP (q := pgZ) (a := .slice none 0 0) (b := .slice none 0 0) (c := .slice none 0 0) (d := .slice none 0 0) HZx.out rfl)
        have KB := hid_ (bel_setP (q := pgZ) (a := .slice none 0 0) (b := .slice none 0 0) (c := .slice none 0 0) (d := .slice none 0 0) HBx.out (Nat.le_refl w.heap.size))
        go_wp2
        refine bodyPost_ret (results_ct5 rfl _ _ w.heap.size 28 _ (0, 0) _ rfl KS.out Try.underlying28 rfl (by kernel_rfl)) rfl ?_
        exact .inr ⟨HD.out, rfl, KB.out⟩
      · have HO := hid_ ho
        clear ho
        go_wp2_with fail
        refine (encode5_yes s P M1 M2 M3 M4 u1 t1 u2 t2 u3 t3 u4 t4 _ HAT.out HW.out.1 (by rw [← HAT.out.keys.1]; exact HW.out.2.1) (by rw [← HAT.out.kids.1]; exact HW.out.2.2) HO.out).mono ?_
        rintro e w8 ⟨AR, cR, rfl, hcR, hRR, hb⟩
        have s1 := run_str (c := cR) hRR
        have s2 := run_str (c := c) (HROW.out.bel (HB.out.trans hb))
        obtain ⟨t, ht⟩ : ∃ t, decide (encP s P = b) = t := ⟨_, rfl⟩
        have q1 : ((strOfNums (encP s P)).toList == (strOfNums b).toList) = t := by rw [strEq5 (enc_byte (here_iff HO.out).1) HBB.out, ht]
        have HT := hid_ ht
        have HZx := hid_ (HZ.out.bel hb)
        have HBx := hid_ (HB.out.trans hb)
        have HPx := hid_ (HPX.out.bel hb)
        have HAx := hid_ (HAT.out.bel hb)
        clear ht hRR hcR hb c0 c1 c2 c3 c4 c5 c6 c7 c8 c9 c10
        cases t
        · have HD : Hid (decP s b = none) := hid_ (by rw [gO_dec HBB.out, HGO.out, if_neg (fun h => of_decide_eq_false HT.out h.2)])
          have z0 := HZx.out.cell 0 rfl
          have z1 := HZx.out.cell 1 rfl
          have z2 := HZx.out.cell 2 rfl
          have z3 := HZx.out.cell 3 rfl
          have z4 := HZx.out.cell 4 rfl
          have z5 := HZx.out.cell 5 rfl
          have z6 := HZx.out.cell 6 rfl
          have z7 := HZx.out.cell 7 rfl
          have z8 := HZx.out.cell 8 rfl
          have z9 := HZx.out.cell 9 rfl
          have z10 := HZx.out.cell 10 rfl
          have zf := fun j => HZx.out.frozen j
          have KS := hid_ (bx_setP (q := pgZ) (a := .slice none 0 0) (b := .slice none 0 0) (c := .slice none 0 0) (d := .slice none 0 0) HZx.out rfl)
          have KB := hid_ (bel_setP (q := pgZ) (a := .slice none 0 0) (b := .slice none 0 0) (c := .slice none 0 0) (d := .slice none 0 0) HBx.out (Nat.le_refl w.heap.size))
          go_wp2
          refine bodyPost_ret (results_ct5 rfl _ _ w.heap.size 28 _ (0, 0) _ rfl KS.out Try.underlying28 rfl (by kernel_rfl)) rfl ?_
          exact .inr ⟨HD.out, rfl, KB.out⟩
        · have HD : Hid (decP s b = some P) := hid_ (by rw [gO_dec HBB.out, HGO.out, if_pos ⟨HO.out, of_decide_eq_true HT.out⟩])
          have c0 := HPx.out.cell 0 rfl
          have z0 := HZx.out.cell 0 rfl
          have c1 := HPx.out.cell 1 rfl
          have z1 := HZx.out.cell 1 rfl
          have c2 := HPx.out.cell 2 rfl
          have z2 := HZx.out.cell 2 rfl
          have c3 := HPx.out.cell 3 rfl
          have z3 := HZx.out.cell 3 rfl
          have c4 := HPx.out.cell 4 rfl
          have z4 := HZx.out.cell 4 rfl
          have c5 := HPx.out.cell 5 rfl
          have z5 := HZx.out.cell 5 rfl
          have c6 := HPx.out.cell 6 rfl
          have z6 := HZx.out.cell 6 rfl
          have c7 := HPx.out.cell 7 rfl
          have z7 := HZx.out.cell 7 rfl
          have c8 := HPx.out.cell 8 rfl
          have z8 := HZx.out.cell 8 rfl
          have c9 := HPx.out.cell 9 rfl
          have z9 := HZx.out.cell 9 rfl
          have c10 := HPx.out.cell 10 rfl
          have z10 := HZx.out.cell 10 rfl
          have zf := fun j => HZx.out.frozen j
          have KS := hid_ (bx_setP (q := P) (a := .slice M1 u1 t1) (b := .slice M2 u2 t2) (c := .slice M3 u3 t3) (d := .slice M4 u4 t4) HZx.out rfl)
          have KB := hid_ (bel_setP (q := P) (a := .slice M1 u1 t1) (b := .slice M2 u2 t2) (c := .slice M3 u3 t3) (d := .slice M4 u4 t4) HBx.out (Nat.le_refl w.heap.size))
          have KA := hid_ (pgAt_setP (q' := P) (a := .slice M1 u1 t1) (b := .slice M2 u2 t2) (c := .slice M3 u3 t3) (d := .slice M4 u4 t4) HAx.out HAW.out)
          go_wp2
          refine bodyPost_ret (results_ct5 rfl _ _ w.heap.size 28 _ (0, 0) _ rfl KS.out Try.underlying28 rfl (by kernel_rfl)) rfl ?_
          exact .inl ⟨_, _, HD.out, rfl, ⟨M1, u1, t1, M2, u2, t2, M3, u3, t3, M4, u4, t4, rfl, HLC.out.1, HLC.out.2.1, HLC.out.2.2.1, HLC.out.2.2.2, KA.out⟩, KB.out⟩))
theorem decode5_any (s : Int) (A : Option Addr) (n c : Nat) (b : List Int) (w : World) (hR : Row byteT w A n b) (hc : n ≤ c) (hb : ∀ x ∈ b, 0 ≤ x ∧ x < 256) :
    Calls Try.prog 17 #[.int .i64 s, .slice A n c] w (DP w s b) := by
  by_cases hn : n = 1024
  · subst hn
    obtain ⟨ad, rfl, _⟩ := hR.2.2 (by omega)
    by_cases h0 : s = 0
    · exact decode5_s0 s ad c b w hR hc hb h0
    by_cases h1 : s = 1
    · exact decode5_s1 s ad c b w hR hc hb h1
    · exact decode5_n s ad c b w hR hc hb h0 h1
  · exact decode5_len s A n c b w hR.1 hn
end Go.Proofs.Ytcfabnkkkpcelaa
set_option linter.unusedSimpArgs false
set_option linter.unusedVariables false
namespace Go.Proofs.Ytcfabnkkkpcelaa
open Go.RowKit Go.Lib
set_option maxRecDepth 10000 in
set_option maxHeartbeats 8000000 in
theorem walkPageDecodes (w : World) (s : Int) (hs : (Lit.int .i64 s).wf = true) (Ab : Option Addr) (nb cb : Nat) (bs : List Int) (hbs : nb ≤ cb ∧ Row byteT w Ab nb bs ∧ ∀ x ∈ bs, 0 ≤ x ∧ x < 256) :
    Calls Try.prog 5 #[.int .i64 s, .slice Ab nb cb] w fun e w' => e = .returned (.bool true) ∧ Bel w w' := by
  clear hs
  obtain ⟨hnc, hbs, hbb⟩ := hbs
  have HNC := hid_ hnc
  have HBS := hid_ hbs
  have HBB := hid_ hbb
  have hnb := hbs.2.1
  clear hnc hbs hbb
  go_enter Try.func5, Try.ntmps5
  go_wp2_with fail
  refine (awake_any _).mono ?_
  rintro e0 w1 ⟨rfl, hb⟩
  have HBS := hid_ (HBS.out.bel hb)
  have HB := hid_ hb
  clear hb
  by_cases g1 : 2000 < nb
  · have g1d : decide (2000 < nb) = true := decide_eq_true g1
    go_wp2
    go_ret
    exact ⟨rfl, HB.out⟩
  have g1d : decide (2000 < nb) = false := decide_eq_false g1
  go_wp2_with fail
  refine (decode_any s Ab nb cb bs _ HBS.out HNC.out HBB.out).mono ?_
  clear g1 g1d
  rintro e2 w2 hD
  rcases hD with ⟨q, v, hq, rfl, hIn, hb⟩ | ⟨hn, rfl, hb⟩
  · have HBS := hid_ (HBS.out.bel hb)
    have HB := hid_ (HB.out.trans hb)
    clear hb
    have HXS := hid_ hq
    clear hq
    obtain ⟨Q1, x1, y1, Q2, x2, y2, Q3, x3, y3, Q4, x4, y4, rfl, v1, v2, v3, v4, hQ⟩ := hIn
    have hvv : pgV q (.slice Q1 x1 y1) (.slice Q2 x2 y2) (.slice Q3 x3 y3) (.slice Q4 x4 y4) = .agg [.int .i64 q.kind, .slice Q1 x1 y1, .slice Q2 x2 y2, .slice Q3 x3 y3, .slice Q4 x4 y4, .int .i64 q.next, .int .u64 q.epoch, .int .i64 q.root, .int .i64 q.depth, .int .i64 q.count, .int .i64 q.high].toArray := rfl
    rw [hvv]
    clear hvv
    have HQ := hid_ hQ
    clear hQ
    go_upto_region 5 with (fail)
    have hbx := Bx.new w2 28 [.int .i64 q.kind, .slice Q1 x1 y1, .slice Q2 x2 y2, .slice Q3 x3 y3, .slice Q4 x4 y4, .int .i64 q.next, .int .u64 q.epoch, .int .i64 q.root, .int .i64 q.depth, .int .i64 q.count, .int .i64 q.high]
    have hb := (Bel.refl w2).alloc (.cells [.int .i64 q.kind, .slice Q1 x1 y1, .slice Q2 x2 y2, .slice Q3 x3 y3, .slice Q4 x4 y4, .int .i64 q.next, .int .u64 q.epoch, .int .i64 q.root, .int .i64 q.depth, .int .i64 q.count, .int .i64 q.high].toArray 28)
    generalize w2.alloc _ = Wa at hbx hb ⊢
    generalize w2.heap.size = ga at hbx ⊢
    have HBS := hid_ (HBS.out.bel hb)
    have HQ := hid_ (HQ.out.bel hb)
    have HB := hid_ (HB.out.trans hb)
    clear hb
    have HBXa := hid_ hbx
    clear hbx
    go_wp2_with fail
    refine (decode5_any s Ab nb cb bs _ HBS.out HNC.out HBB.out).mono ?_
    rintro e3 w3 hD
    rcases hD with ⟨q', v, hq', rfl, hIn, hb⟩ | ⟨hn, _⟩
    case inr => rw [HXS.out] at hn; cases hn
    rw [HXS.out] at hq'
    injection hq' with hq'
    subst hq'
    have HQ := hid_ (HQ.out.bel hb)
    have HBXa := hid_ (HBXa.out.bel hb)
    have HB := hid_ (HB.out.trans hb)
    clear hb
    obtain ⟨R1, o1, p1, R2, o2, p2, R3, o3, p3, R4, o4, p4, rfl, _, _, _, _, hR⟩ := hIn
    have hvv : pgV q (.slice R1 o1 p1) (.slice R2 o2 p2) (.slice R3 o3 p3) (.slice R4 o4 p4) = .agg [.int .i64 q.kind, .slice R1 o1 p1, .slice R2 o2 p2, .slice R3 o3 p3, .slice R4 o4 p4, .int .i64 q.next, .int .u64 q.epoch, .int .i64 q.root, .int .i64 q.depth, .int .i64 q.count, .int .i64 q.high].toArray := rfl
    rw [hvv]
    clear hvv
    have HR := hid_ hR
    clear hR
    go_upto_region 6 with (fail)
    have hbx := Bx.new w3 28 [.int .i64 q.kind, .slice R1 o1 p1, .slice R2 o2 p2, .slice R3 o3 p3, .slice R4 o4 p4, .int .i64 q.next, .int .u64 q.epoch, .int .i64 q.root, .int .i64 q.depth, .int .i64 q.count, .int .i64 q.high]
    have hb := (Bel.refl w3).alloc (.cells [.int .i64 q.kind, .slice R1 o1 p1, .slice R2 o2 p2, .slice R3 o3 p3, .slice R4 o4 p4, .int .i64 q.next, .int .u64 q.epoch, .int .i64 q.root, .int .i64 q.depth, .int .i64 q.count, .int .i64 q.high].toArray 28)
    generalize w3.alloc _ = Wb at hbx hb ⊢
    generalize w3.heap.size = gb at hbx ⊢
    have HQ := hid_ (HQ.out.bel hb)
    have HBXa := hid_ (HBXa.out.bel hb)
    have HR := hid_ (HR.out.bel hb)
    have HB := hid_ (HB.out.trans hb)
    clear hb
    have HBXb := hid_ hbx
    clear hbx
    have z0 := HBXa.out.cell 0 rfl
    have z1 := HBXa.out.cell 1 rfl
    have z2 := HBXa.out.cell 2 rfl
    have z3 := HBXa.out.cell 3 rfl
    have z4 := HBXa.out.cell 4 rfl
    have z5 := HBXa.out.cell 5 rfl
    have z6 := HBXa.out.cell 6 rfl
    have z7 := HBXa.out.cell 7 rfl
    have z8 := HBXa.out.cell 8 rfl
    have z9 := HBXa.out.cell 9 rfl
    have z10 := HBXa.out.cell 10 rfl
    have u0 := HBXb.out.cell 0 rfl
    have u1 := HBXb.out.cell 1 rfl
    have u2 := HBXb.out.cell 2 rfl
    have u3 := HBXb.out.cell 3 rfl
    have u4 := HBXb.out.cell 4 rfl
    have u5 := HBXb.out.cell 5 rfl
    have u6 := HBXb.out.cell 6 rfl
    have u7 := HBXb.out.cell 7 rfl
    have u8 := HBXb.out.cell 8 rfl
    have u9 := HBXb.out.cell 9 rfl
    have u10 := HBXb.out.cell 10 rfl
    go_wp2_with fail
    refine (same_any q q Q1 Q2 Q3 Q4 x1 y1 x2 y2 x3 y3 x4 y4 R1 R2 R3 R4 o1 p1 o2 p2 o3 p3 o4 p4 _ HQ.out HR.out).mono ?_
    rintro e6 w6 ⟨rfl, hb⟩
    rw [decide_eq_true (rfl : q = q)]
    clear z0 z1 z2 z3 z4 z5 z6 z7 z8 z9 z10
    clear u0 u1 u2 u3 u4 u5 u6 u7 u8 u9 u10
    have HB := hid_ (HB.out.trans hb)
    clear hb
    go_wp2
    go_ret
    exact ⟨rfl, HB.out⟩
  · have HBS := hid_ (HBS.out.bel hb)
    have HB := hid_ (HB.out.trans hb)
    clear hb
    have HXN := hid_ hn
    clear hn
    unfold zeroC
    go_upto_region 5 with (fail)
    have hbx := Bx.new w2 28 [.int .i64 0, .slice none 0 0, .slice none 0 0, .slice none 0 0, .slice none 0 0, .int .i64 0, .int .u64 0, .int .i64 0, .int .i64 0, .int .i64 0, .int .i64 0]
    have hb := (Bel.refl w2).alloc (.cells [.int .i64 0, .slice none 0 0, .slice none 0 0, .slice none 0 0, .slice none 0 0, .int .i64 0, .int .u64 0, .int .i64 0, .int .i64 0, .int .i64 0, .int .i64 0].toArray 28)
    generalize w2.alloc _ = Wa at hbx hb ⊢
    generalize w2.heap.size = ga at hbx ⊢
    have HBS := hid_ (HBS.out.bel hb)
    have HB := hid_ (HB.out.trans hb)
    clear hb
    have HBXa := hid_ hbx
    clear hbx
    go_wp2_with fail
    refine (decode5_any s Ab nb cb bs _ HBS.out HNC.out HBB.out).mono ?_
    rintro e3 w3 hD
    rcases hD with ⟨q', v, hq', _⟩ | ⟨_, rfl, hb⟩
    case inl => rw [HXN.out] at hq'; cases hq'
    have HBXa := hid_ (HBXa.out.bel hb)
    have HB := hid_ (HB.out.trans hb)
    clear hb
    unfold zeroC
    go_upto_region 6 with (fail)
    have hbx := Bx.new w3 28 [.int .i64 0, .slice none 0 0, .slice none 0 0, .slice none 0 0, .slice none 0 0, .int .i64 0, .int .u64 0, .int .i64 0, .int .i64 0, .int .i64 0, .int .i64 0]
    have hb := (Bel.refl w3).alloc (.cells [.int .i64 0, .slice none 0 0, .slice none 0 0, .slice none 0 0, .slice none 0 0, .int .i64 0, .int .u64 0, .int .i64 0, .int .i64 0, .int .i64 0, .int .i64 0].toArray 28)
    generalize w3.alloc _ = Wb at hbx hb ⊢
    generalize w3.heap.size = gb at hbx ⊢
    have HBXa := hid_ (HBXa.out.bel hb)
    have HB := hid_ (HB.out.trans hb)
    clear hb
    have HBXb := hid_ hbx
    clear hbx
    have z0 := HBXa.out.cell 0 rfl
    have z1 := HBXa.out.cell 1 rfl
    have z2 := HBXa.out.cell 2 rfl
    have z3 := HBXa.out.cell 3 rfl
    have z4 := HBXa.out.cell 4 rfl
    have z5 := HBXa.out.cell 5 rfl
    have z6 := HBXa.out.cell 6 rfl
    have z7 := HBXa.out.cell 7 rfl
    have z8 := HBXa.out.cell 8 rfl
    have z9 := HBXa.out.cell 9 rfl
    have z10 := HBXa.out.cell 10 rfl
    have u0 := HBXb.out.cell 0 rfl
    have u1 := HBXb.out.cell 1 rfl
    have u2 := HBXb.out.cell 2 rfl
    have u3 := HBXb.out.cell 3 rfl
    have u4 := HBXb.out.cell 4 rfl
    have u5 := HBXb.out.cell 5 rfl
    have u6 := HBXb.out.cell 6 rfl
    have u7 := HBXb.out.cell 7 rfl
    have u8 := HBXb.out.cell 8 rfl
    have u9 := HBXb.out.cell 9 rfl
    have u10 := HBXb.out.cell 10 rfl
    have hat : ∀ W : World, PgAt W pgZ none 0 none 0 none 0 none 0 := fun W => ⟨Row.none_ _ _ _, Row.none_ _ _ _, Row.none_ _ _ _, Row.none_ _ _ _⟩
    have HAT := hid_ hat
    clear hat
    go_wp2_with fail
    refine (same_any pgZ pgZ none none none none 0 0 0 0 0 0 0 0 none none none none 0 0 0 0 0 0 0 0 _ (HAT.out _) (HAT.out _)).mono ?_
    rintro e6 w6 ⟨rfl, hb⟩
    rw [decide_eq_true (rfl : pgZ = pgZ)]
    clear z0 z1 z2 z3 z4 z5 z6 z7 z8 z9 z10
    clear u0 u1 u2 u3 u4 u5 u6 u7 u8 u9 u10
    have HB := hid_ (HB.out.trans hb)
    clear hb
    go_wp2
    go_ret
    exact ⟨rfl, HB.out⟩
end Go.Proofs.Ytcfabnkkkpcelaa
