/- Legs that sum to 0, and the order of legs: the plain laws. -/
import Derived.Test.YtgnninpfhnpjoaaAcB
import Derived.Test.YtgnninpfhnpjoaaTot
import Derived.Test.YtgnninpfhnpjoaaPsP
set_option linter.unusedSimpArgs false
set_option linter.unusedVariables false
namespace Go.Proofs.Ytgnninpfhnpjoaa
open Go.RowKit Go.Lib
/-! ### 1. Legs of the same sums -/
theorem errAt_sum {legs legs' : List Due} {l : List Acc} {p : Plc} (h : (amts legs p).sum = (amts legs' p).sum) : errAt legs l p = errAt legs' l p := by
  unfold errAt
  rw [sumOk_congr h, h]
theorem newA_sum {legs legs' : List Due} {l : List Acc} {p : Plc} (h : (amts legs p).sum = (amts legs' p).sum) : newA legs l p = newA legs' l p := by
  unfold newA
  rw [h]
theorem postGo_sum {legs legs' : List Due} (h : ∀ p, (amts legs p).sum = (amts legs' p).sum) : ∀ (ps : List Plc) (l : List Acc), postGo legs ps l = postGo legs' ps l
  | [], _ => rfl
  | p :: ps, l => by
    unfold postGo
    rw [errAt_sum (h p), newA_sum (h p), postGo_sum h ps]
theorem postR_sum {legs legs' : List Due} {l : List Acc} (hm : mayPost legs = mayPost legs') (hp : ∀ p, p ∈ legP legs ↔ p ∈ legP legs') (hs : ∀ p, (amts legs p).sum = (amts legs' p).sum) : postE l legs = postE l legs' ∧ postO l legs = postO l legs' := by
  have e : postR l legs = postR l legs' := by
    unfold postR
    rw [hm, up_ext (up_legP legs) (up_legP legs') hp, postGo_sum hs]
  unfold postE postO
  rw [e]
  exact ⟨rfl, rfl⟩
theorem may_mem {a b : List Due} (h1 : (1 ≤ a.length ∧ a.length ≤ 200) ↔ (1 ≤ b.length ∧ b.length ≤ 200)) (h : ∀ p, p ∈ a.map Due.plc ↔ p ∈ b.map Due.plc) : mayPost a = mayPost b := by
  have key : ∀ a : List Due, mayPost a = true ↔ (1 ≤ a.length ∧ a.length ≤ 200) ∧ ∀ p ∈ a.map Due.plc, namedB p = true := by
    intro a
    unfold mayPost
    simp only [Bool.and_eq_true, decide_eq_true_eq, List.all_eq_true, List.mem_map, forall_exists_index, and_imp, forall_apply_eq_imp_iff₂]
    exact ⟨fun ⟨x, y, z⟩ => ⟨⟨x, y⟩, z⟩, fun ⟨⟨x, y⟩, z⟩ => ⟨x, y, z⟩⟩
  have : mayPost a = true ↔ mayPost b = true := by
    rw [key, key, h1]
    constructor
    · exact fun ⟨x, y⟩ => ⟨x, fun p hp => y p ((h p).2 hp)⟩
    · exact fun ⟨x, y⟩ => ⟨x, fun p hp => y p ((h p).1 hp)⟩
  cases ha : mayPost a <;> cases hb : mayPost b <;> simp_all
theorem mem_legP' {legs : List Due} {p : Plc} : p ∈ legP legs ↔ p ∈ legs.map Due.plc := by
  unfold legP
  exact mem_plcs
theorem post_turn (l : List Acc) (legs : List Due) (k : Nat) : postE l legs = postE l (turnL legs k) ∧ postO l legs = postO l (turnL legs k) :=
  postR_sum (may_mem (by rw [turn_len]) (turn_mem legs k)) (fun p => by rw [mem_legP', mem_legP', turn_mem legs k]) (turn_sum legs k)
theorem post_parts (l : List Acc) (x : Due) (n : Int) (t : List Due) (hn : t.length ≤ 100) : postE l (x :: t) = postE l (partsL x n t) ∧ postO l (x :: t) = postO l (partsL x n t) := by
  have hmem : ∀ p, p ∈ (x :: t).map Due.plc ↔ p ∈ (partsL x n t).map Due.plc := by
    intro p
    show p ∈ x.plc :: t.map Due.plc ↔ p ∈ x.plc :: x.plc :: t.map Due.plc
    simp
  exact postR_sum (may_mem (by unfold partsL; simp only [List.length_cons]; omega) hmem) (fun p => by rw [mem_legP', mem_legP', hmem]) (parts_sum x n t)
/-! ### 2. Totals -/
theorem bal_append (a b : List Acc) (s : ByteArray) : balA (a ++ b) s = balA a s ++ balA b s := by
  unfold balA
  rw [List.filter_append, List.map_append]
theorem bal_one (a : Acc) (s : ByteArray) : (balA [a] s).sum = if a.asset = s then a.balance else 0 := by
  unfold balA
  by_cases e : a.asset = s <;> simp [List.filter_cons, e]
theorem bal_with {l : List Acc} (hs : Srt l) (a : Acc) (s : ByteArray) : (balA (withA l a) s).sum = (balA l s).sum + (if a.asset = s then a.balance - (findA l a.plc).balance else 0) := by
  obtain ⟨L, M, R, hC⟩ := srt_cut hs a.plc
  rw [hC.with_, hC.find]
  conv => rhs; rw [hC.eq]
  simp only [bal_append, List.sum_append]
  have h1 : (balA (if a.balance = 0 then [] else [a]) s).sum = if a.asset = s then a.balance else 0 := by
    split
    · next e => rw [e]; split <;> rfl
    · exact bal_one a s
  rw [h1]
  cases M with
  | none =>
    show _ = _ + (([] : List Int).sum + _) + (if a.asset = s then a.balance - 0 else 0)
    split <;> simp <;> omega
  | some x =>
    have hx : x.asset = a.asset := congrArg Plc.asset (hC.at_ x rfl)
    show _ = _ + ((balA [x] s).sum + _) + (if a.asset = s then a.balance - x.balance else 0)
    rw [bal_one, hx]
    split <;> omega
theorem postGo_bal (legs : List Due) (s : ByteArray) : ∀ (ps : List Plc) (l : List Acc), Up ps → Srt l → (∀ p ∈ ps, errAt legs l p = 0) → (balA (postGo legs ps l).2 s).sum = (balA l s).sum + sumAt legs s ps
  | [], l, _, _, _ => by simp [postGo, sumAt]
  | p :: ps, l, hu, hs, h => by
    obtain ⟨u1, u2⟩ := List.pairwise_cons.1 hu
    have hsame : ∀ q ∈ ps, findA (withA l (newA legs l p)) q = findA l q := fun q hq => by
      rw [find_with hs, if_neg (fun e => ltP_ne (u1 q hq) e.symm)]
    unfold postGo
    rw [if_pos (h p (by simp)), postGo_bal legs s ps _ u2 (srt_with hs _) (fun q hq => (errAt_congr (hsame q hq)).trans (h q (by simp [hq]))), bal_with hs]
    show _ + (if p.asset = s then (findA l p).balance + (amts legs p).sum - (findA l p).balance else 0) + _ = _
    unfold sumAt
    simp only [List.map_cons, List.sum_cons]
    split <;> omega
/-- A sum over places, each once, that hold all legs': the legs' sum. -/
theorem bal_post {l : List Acc} {legs : List Due} (hs : Srt l) (h : postE l legs = 0) (s : ByteArray) : (balA (postO l legs) s).sum = (balA l s).sum + (assL legs s).sum := by
  have hm := post_may h
  have hok := post_ok hs h
  have := postGo_bal legs s (legP legs) l (up_legP legs) hs hok
  unfold postO postR
  rw [if_pos hm, this, sumAt_legs s (up_legP legs) legs (fun d hd => mem_legP.2 ⟨d, hd, rfl⟩)]
/-- Legs, each with its opposite for another. -/
def allS (other : ByteArray) (legs : List Due) : List Due := legs.flatMap (fun d => [d, ⟨other, d.asset, -d.amount⟩])
theorem allS_len (other : ByteArray) : ∀ legs : List Due, (allS other legs).length = 2 * legs.length
  | [] => rfl
  | d :: legs => by
    have := allS_len other legs
    unfold allS at this ⊢
    rw [List.flatMap_cons, List.length_append, this]
    simp
    omega
theorem allS_ass (other s : ByteArray) : ∀ legs : List Due, (assL (allS other legs) s).sum = 0
  | [] => rfl
  | d :: legs => by
    have ih := allS_ass other s legs
    unfold allS assL at ih ⊢
    rw [List.flatMap_cons, List.filter_append, List.map_append, List.sum_append, ih]
    by_cases e : d.asset = s <;> simp [List.filter_cons, e]
    omega
theorem allS_step {legs : List Due} {k : Nat} {o : Due} (other : ByteArray) (h : legs[k]? = some o) : allS other (legs.take k) ++ [o, ⟨other, o.asset, -o.amount⟩] = allS other (legs.take (k + 1)) := by
  unfold allS
  rw [List.take_add_one, h, List.flatMap_append]
  simp
theorem sums_total {l : List Acc} {legs : List Due} (other : ByteArray) (hs : Srt l) (h : postE l (allS other legs) = 0) (s : ByteArray) : sumV (balA l s) = sumV (balA (postO l (allS other legs)) s) ∧ sumE (balA l s) = sumE (balA (postO l (allS other legs)) s) := by
  have h1 := bal_post hs h s
  rw [allS_ass, Int.add_zero] at h1
  unfold sumV sumE
  rw [sumOk_congr h1, h1]
  exact ⟨rfl, rfl⟩
/-- Each account changes by just its legs' sum. -/
theorem post_each {l : List Acc} {legs : List Due} (hl : OkL l) (h : postE l legs = 0) {d : Due} (hd : d ∈ legs) : sumV (amts legs d.plc ++ [(findA l d.plc).balance]) = (findA (postO l legs) d.plc).balance ∧ sumE (amts legs d.plc ++ [(findA l d.plc).balance]) = 0 ∧ (findA (postO l legs) d.plc).held = (findA l d.plc).held := by
  have hp : d.plc ∈ legP legs := mem_legP.2 ⟨d, hd, rfl⟩
  have hz := errAt_zero.1 (post_ok hl.srt h _ hp)
  have hf := (postO_find hl.srt h).2.2 d.plc
  rw [if_pos hp] at hf
  have hsum : (amts legs d.plc ++ [(findA l d.plc).balance]).sum = (findA l d.plc).balance + (amts legs d.plc).sum := by simp; omega
  have hok : sumOk (amts legs d.plc ++ [(findA l d.plc).balance]) = true := by
    have := (i64B_iff _).1 hz.2.1
    unfold sumOk
    rw [hsum]
    simp only [Bool.and_eq_true, decide_eq_true_eq]
    exact this
  unfold sumV sumE
  rw [if_pos hok, if_pos hok, hsum, hf]
  unfold updA
  split
  · next e =>
    refine ⟨e, rfl, ?_⟩
    have h2 := hz.2.2
    rw [e] at h2
    have h3 := find_held hl d.plc
    show (0 : Int) = _
    by_cases hw : d.plc.who = worldS
    · exact (h3.1 hw).symm
    · have h4 := h3.2 hw
      have : ¬ (0 : Int) < (findA l d.plc).held := fun k => h2 ⟨hw, k⟩
      omega
  · exact ⟨rfl, rfl, rfl⟩
end Go.Proofs.Ytgnninpfhnpjoaa
