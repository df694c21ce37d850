/- Legs that change accounts: the plain law. -/
import Derived.Test.YtnpinolhhnpniaaGreatAccP
import Derived.Test.YtnpinolhhnpniaaGreatDueP
import Derived.Test.YtnpinolhhnpniaaGreatSumP
import Derived.Test.YtnpinolhhnpniaaGreatLab
import Derived.Test.YtnpinolhhnpniaaGreatWrl
set_option linter.unusedSimpArgs false
set_option linter.unusedVariables false
namespace Go.Proofs.YtnpinolhhnpniaaGreat
def i64B (n : Int) : Bool := decide (-9223372036854775808 ≤ n) && decide (n ≤ 9223372036854775807)
theorem i64B_iff (n : Int) : i64B n = true ↔ -9223372036854775808 ≤ n ∧ n ≤ 9223372036854775807 := by simp [i64B]
def namedB (p : Plc) : Bool := whoB p.who && assetB p.asset
/-- May an account be? -/
def okA (a : Acc) : Bool := (if a.who = worldS then decide (a.held = 0) else decide (0 ≤ a.held) && decide (a.held ≤ a.balance)) && (!decide (a.balance = 0) && namedB a.plc)
def srtB : List Acc → Bool
  | [] => true
  | [_] => true
  | a :: b :: l => ltP a.plc b.plc && srtB (b :: l)
theorem srtB_iff : ∀ {l : List Acc}, srtB l = true ↔ Srt l
  | [] => by simp [srtB, Srt]
  | [a] => by simp [srtB, Srt]
  | a :: b :: l => by
    rw [srtB, Bool.and_eq_true, srtB_iff (l := b :: l)]
    constructor
    · rintro ⟨h1, h2⟩
      refine List.pairwise_cons.2 ⟨fun x hx => ?_, h2⟩
      rcases List.mem_cons.1 hx with rfl | hx
      · exact h1
      · exact ltP_trans h1 ((List.pairwise_cons.1 h2).1 x hx)
    · intro h
      exact ⟨(List.pairwise_cons.1 h).1 b (by simp), (List.pairwise_cons.1 h).2⟩
/-- May accounts be? -/
def okL (l : List Acc) : Bool := l.all okA && srtB l
def chkAE (l : List Acc) : Int := if okL l then 0 else 110
structure OkAcc (a : Acc) : Prop where
  nz : a.balance ≠ 0
  named : namedB a.plc = true
  world : a.who = worldS → a.held = 0
  some_ : a.who ≠ worldS → 0 ≤ a.held ∧ a.held ≤ a.balance
theorem okA_iff {a : Acc} : okA a = true ↔ OkAcc a := by
  unfold okA
  by_cases h : a.who = worldS
  · simp only [if_pos h, Bool.and_eq_true, decide_eq_true_eq, Bool.not_eq_true', decide_eq_false_iff_not]
    constructor
    · rintro ⟨h1, h2, h3⟩
      exact ⟨h2, h3, fun _ => h1, fun k => absurd h k⟩
    · rintro ⟨h1, h2, h3, h4⟩
      exact ⟨h3 h, h1, h2⟩
  · simp only [if_neg h, Bool.and_eq_true, decide_eq_true_eq, Bool.not_eq_true', decide_eq_false_iff_not]
    constructor
    · rintro ⟨h1, h2, h3⟩
      exact ⟨h2, h3, fun k => absurd k h, fun _ => h1⟩
    · rintro ⟨h1, h2, h3, h4⟩
      exact ⟨h4 h, h1, h2⟩
structure OkL (l : List Acc) : Prop where
  all : ∀ a ∈ l, OkAcc a
  srt : Srt l
theorem okL_iff {l : List Acc} : okL l = true ↔ OkL l := by
  unfold okL
  rw [Bool.and_eq_true, srtB_iff, List.all_eq_true]
  constructor
  · rintro ⟨h1, h2⟩
    exact ⟨fun a ha => okA_iff.1 (h1 a ha), h2⟩
  · rintro ⟨h1, h2⟩
    exact ⟨fun a ha => okA_iff.2 (h1 a ha), h2⟩
theorem OkL.nz {l : List Acc} (h : OkL l) : Nz l := fun x hx => (h.all x hx).nz
theorem OkL.nil : OkL [] := ⟨by simp, List.Pairwise.nil⟩
/-- What is found in accounts that may be: no account, or one that may be. -/
theorem find_ok {l : List Acc} (h : OkL l) (p : Plc) : findA l p = accZ p ∨ (findA l p ∈ l ∧ OkAcc (findA l p)) := by
  unfold findA
  cases hf : l.find? (fun a => decide (a.plc = p)) with
  | none => exact .inl rfl
  | some a =>
    have := List.mem_of_find?_eq_some hf
    exact .inr ⟨this, h.all a this⟩
theorem find_held {l : List Acc} (h : OkL l) (p : Plc) : (p.who = worldS → (findA l p).held = 0) ∧ (p.who ≠ worldS → 0 ≤ (findA l p).held ∧ (findA l p).held ≤ (findA l p).balance) := by
  have hp := findA_plc l p
  have hw : (findA l p).who = p.who := congrArg Plc.who hp
  rcases find_ok h p with e | ⟨_, e⟩
  · rw [e]
    exact ⟨fun _ => rfl, fun _ => ⟨Int.le_refl _, Int.le_refl _⟩⟩
  · exact ⟨fun k => e.world (hw.trans k), fun k => e.some_ (fun k' => k (hw.symm.trans k'))⟩
/-- An account that may be, or has no balance, put in the place of another one. -/
theorem okL_with {l : List Acc} (h : OkL l) {a : Acc} (ha : a.balance = 0 ∨ OkAcc a) : OkL (withA l a) := by
  refine ⟨fun x hx => ?_, srt_with h.srt a⟩
  rcases mem_with h.srt hx with ⟨h1, _⟩ | ⟨rfl, h1⟩
  · exact h.all x h1
  · exact ha.resolve_left h1
/-! ### legs -/
def errAt (legs : List Due) (l : List Acc) (p : Plc) : Int :=
  if sumOk (amts legs p) then
    (if i64B ((findA l p).balance + (amts legs p).sum) then
      (if p.who ≠ worldS ∧ (findA l p).balance + (amts legs p).sum < (findA l p).held then 111 else 0)
    else 10)
  else 10
def newA (legs : List Due) (l : List Acc) (p : Plc) : Acc := ⟨p.who, p.asset, (findA l p).balance + (amts legs p).sum, (findA l p).held⟩
theorem newA_plc (legs : List Due) (l : List Acc) (p : Plc) : (newA legs l p).plc = p := rfl
def postGo (legs : List Due) : List Plc → List Acc → Int × List Acc
  | [], l => (0, l)
  | p :: ps, l => if errAt legs l p = 0 then postGo legs ps (withA l (newA legs l p)) else (errAt legs l p, [])
def mayPost (legs : List Due) : Bool := decide (1 ≤ legs.length) && (decide (legs.length ≤ 200) && legs.all (fun d => namedB d.plc))
def legP (legs : List Due) : List Plc := plcs (legs.map Due.plc)
def postR (l : List Acc) (legs : List Due) : Int × List Acc := if mayPost legs then postGo legs (legP legs) l else (1, [])
def postE (l : List Acc) (legs : List Due) : Int := (postR l legs).1
def postO (l : List Acc) (legs : List Due) : List Acc := (postR l legs).2
theorem errAt_congr {legs : List Due} {l m : List Acc} {p : Plc} (h : findA l p = findA m p) : errAt legs l p = errAt legs m p := by
  unfold errAt
  rw [h]
/-- What is found behind legs at a place. -/
def updA (legs : List Due) (l : List Acc) (p : Plc) : Acc := if (findA l p).balance + (amts legs p).sum = 0 then accZ p else newA legs l p
theorem updA_congr {legs : List Due} {l m : List Acc} {p : Plc} (h : findA l p = findA m p) : updA legs l p = updA legs m p := by
  unfold updA newA
  rw [h]
theorem postGo_law (legs : List Due) : ∀ (ps : List Plc) (l : List Acc), Up ps → Srt l → (postGo legs ps l).1 = fstE (errAt legs l) ps ∧ ((∀ p ∈ ps, errAt legs l p = 0) →
    Srt (postGo legs ps l).2 ∧ (Nz l → Nz (postGo legs ps l).2) ∧ ∀ q, findA (postGo legs ps l).2 q = if q ∈ ps then updA legs l q else findA l q) ∧ ((postGo legs ps l).1 ≠ 0 → (postGo legs ps l).2 = [])
  | [], l, _, hs => ⟨rfl, fun _ => ⟨hs, id, fun q => by simp [postGo]⟩, fun h => absurd rfl h⟩
  | p :: ps, l, hu, hs => by
    obtain ⟨u1, u2⟩ := List.pairwise_cons.1 hu
    have hsame : ∀ q ∈ ps, findA (withA l (newA legs l p)) q = findA l q := fun q hq => by
      rw [find_with hs, if_neg (fun e => ltP_ne (u1 q hq) e.symm)]
    unfold postGo
    by_cases h0 : errAt legs l p = 0
    · rw [if_pos h0]
      obtain ⟨i1, i2, i3⟩ := postGo_law legs ps _ u2 (srt_with hs (newA legs l p))
      refine ⟨?_, fun hall => ?_, i3⟩
      · rw [i1, fstE_congr (f := errAt legs (withA l (newA legs l p))) (g := errAt legs l) (fun q hq => errAt_congr (hsame q hq))]
        conv => rhs; unfold fstE
        rw [if_neg (fun h => h h0)]
      · obtain ⟨j1, j2, j3⟩ := i2 (fun q hq => (errAt_congr (hsame q hq)).trans (hall q (by simp [hq])))
        refine ⟨j1, fun hz => j2 (nz_with hs hz _), fun q => ?_⟩
        rw [j3 q]
        by_cases hq : q ∈ ps
        · have hq' : q ∈ p :: ps := by simp [hq]
          rw [if_pos hq, if_pos hq']
          exact updA_congr (hsame q hq)
        · rw [if_neg hq, find_with hs, newA_plc]
          by_cases e : q = p
          · subst e
            rw [if_pos rfl, if_pos (List.mem_cons_self ..)]
            rfl
          · rw [if_neg e, if_neg (by simp [e, hq])]
    · rw [if_neg h0]
      refine ⟨?_, fun hall => absurd (hall p (by simp)) h0, fun _ => rfl⟩
      unfold fstE
      rw [if_pos h0]
theorem up_legP (legs : List Due) : Up (legP legs) := up_plcs _
theorem mem_legP {legs : List Due} {p : Plc} : p ∈ legP legs ↔ ∃ d ∈ legs, d.plc = p := by
  unfold legP
  rw [mem_plcs, List.mem_map]
theorem amts_none {legs : List Due} {p : Plc} (h : p ∉ legP legs) : amts legs p = [] := by
  unfold amts
  rw [List.filter_eq_nil_iff.2 (fun d hd e => h (mem_legP.2 ⟨d, hd, by simpa using e⟩))]
  rfl
theorem amts_some {legs : List Due} {p : Plc} (h : p ∈ legP legs) : amts legs p ≠ [] := by
  obtain ⟨d, hd, e⟩ := mem_legP.1 h
  unfold amts
  intro hn
  have : d ∈ legs.filter (fun d => decide (d.plc = p)) := List.mem_filter.2 ⟨hd, by simpa using e⟩
  rw [List.map_eq_nil_iff.1 hn] at this
  cases this
/-- Posting: the error is the first place's; what is found behind it. -/
theorem postE_eq {l : List Acc} {legs : List Due} (hs : Srt l) (hm : mayPost legs = true) : postE l legs = fstE (errAt legs l) (legP legs) := by
  unfold postE postR
  rw [if_pos hm]
  exact (postGo_law legs _ l (up_legP legs) hs).1
theorem postE_no {l : List Acc} {legs : List Due} (hm : mayPost legs = false) : postE l legs = 1 ∧ postO l legs = [] := by
  unfold postE postO postR
  simp [hm]
theorem post_may {l : List Acc} {legs : List Due} (h : postE l legs = 0) : mayPost legs = true := by
  cases hm : mayPost legs
  · rw [(postE_no hm).1] at h
    cases h
  · rfl
theorem postO_err {l : List Acc} {legs : List Due} (hs : Srt l) (h : postE l legs ≠ 0) : postO l legs = [] := by
  cases hm : mayPost legs
  · exact (postE_no hm).2
  · have := (postGo_law legs (legP legs) l (up_legP legs) hs).2.2
    unfold postE postR at h
    unfold postO postR
    rw [if_pos hm] at h ⊢
    exact this h
theorem postO_find {l : List Acc} {legs : List Due} (hs : Srt l) (h : postE l legs = 0) : Srt (postO l legs) ∧ (Nz l → Nz (postO l legs)) ∧ ∀ q, findA (postO l legs) q = if q ∈ legP legs then updA legs l q else findA l q := by
  have hm := post_may h
  rw [postE_eq hs hm] at h
  have := (postGo_law legs (legP legs) l (up_legP legs) hs).2.1 (fstE_zero.1 h)
  unfold postO postR
  rw [if_pos hm]
  exact this
theorem post_ok {l : List Acc} {legs : List Due} (hs : Srt l) (h : postE l legs = 0) : ∀ p ∈ legP legs, errAt legs l p = 0 := by
  rw [postE_eq hs (post_may h)] at h
  exact fstE_zero.1 h
theorem errAt_zero {legs : List Due} {l : List Acc} {p : Plc} : errAt legs l p = 0 ↔ sumOk (amts legs p) = true ∧ i64B ((findA l p).balance + (amts legs p).sum) = true ∧ ¬ (p.who ≠ worldS ∧ (findA l p).balance + (amts legs p).sum < (findA l p).held) := by
  unfold errAt
  split
  · split
    · split <;> simp_all
    · simp_all
  · simp_all
theorem postO_ok {l : List Acc} {legs : List Due} (h : OkL l) : OkL (postO l legs) := by
  by_cases he : postE l legs = 0
  · obtain ⟨h1, h2, h3⟩ := postO_find h.srt he
    have hm := post_may he
    have hz := h2 h.nz
    refine ⟨fun a ha => ?_, h1⟩
    have hf := findA_mem h1 ha
    have h4 := h3 a.plc
    rw [hf] at h4
    by_cases hp : a.plc ∈ legP legs
    · rw [if_pos hp] at h4
      have hok := (errAt_zero.1 (post_ok h.srt he _ hp)).2.2
      have hhe := find_held h a.plc
      unfold updA at h4
      have hnz := hz a ha
      split at h4
      · rw [h4] at hnz
        exact absurd rfl hnz
      · have hb : a.balance = (findA l a.plc).balance + (amts legs a.plc).sum := by rw [h4]; rfl
        have hh : a.held = (findA l a.plc).held := by rw [h4]; rfl
        refine ⟨hnz, ?_, fun hw => by rw [hh]; exact hhe.1 hw, fun hw => ?_⟩
        · obtain ⟨d, hd, e⟩ := mem_legP.1 hp
          have : legs.all (fun d => namedB d.plc) = true := by
            unfold mayPost at hm
            simp only [Bool.and_eq_true] at hm
            exact hm.2.2
          rw [← e]
          exact List.all_eq_true.1 this d hd
        · have hw' : a.plc.who ≠ worldS := hw
          have := hhe.2 hw'
          rw [hh, hb]
          exact ⟨this.1, by
            apply Int.not_lt.1
            exact fun h => hok ⟨hw', h⟩⟩
    · rw [if_neg hp] at h4
      rcases find_ok h a.plc with e | ⟨e, _⟩
      · rw [e] at h4
        have := hz a ha
        rw [h4] at this
        exact absurd rfl this
      · rw [← h4] at e
        exact h.all a e
  · rw [postO_err h.srt he]
    exact OkL.nil
end Go.Proofs.YtnpinolhhnpniaaGreat
