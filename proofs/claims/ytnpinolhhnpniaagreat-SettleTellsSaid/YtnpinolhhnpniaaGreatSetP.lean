/- Settlement: the plain law. -/
import Derived.Test.YtnpinolhhnpniaaGreatAcT
import Derived.Test.YtnpinolhhnpniaaGreatNetP
set_option linter.unusedSimpArgs false
set_option linter.unusedVariables false
namespace Go.Proofs.YtnpinolhhnpniaaGreat
open Go.RowKit Go.Lib
/-! ### 1. What is freed -/
def freE (l : List Acc) (d : Due) : Int := mvE d.plc d.amount (frX l d.plc d.amount)
def freO (l : List Acc) (d : Due) : List Acc := mvO l d.plc d.amount (frX l d.plc d.amount) (wrap64 (-d.amount))
def freeGo : List Due → List Acc → Int × List Acc
  | [], l => (0, l)
  | d :: ds, l => if freE l d = 0 then freeGo ds (freO l d) else (freE l d, [])
theorem freeGo_err : ∀ (ds : List Due) (l : List Acc), (freeGo ds l).1 ≠ 0 → (freeGo ds l).2 = []
  | [], l, h => absurd rfl h
  | d :: ds, l, h => by
    unfold freeGo at h ⊢
    split
    · rename_i h0
      rw [if_pos h0] at h
      exact freeGo_err ds _ h
    · rfl
def BalI (l : List Acc) : Prop := ∀ a ∈ l, -9223372036854775808 ≤ a.balance ∧ a.balance ≤ 9223372036854775807
theorem free_step {l : List Acc} {d : Due} (hl : OkL l) (hb : BalI l) (hd : d.amount ≤ 9223372036854775807) (h : freE l d = 0) :
    OkL (freO l d) ∧ BalI (freO l d) ∧ 1 ≤ d.amount ∧ d.plc.who ≠ worldS ∧ ∀ p, (findA (freO l d) p).balance = (findA l p).balance ∧ (findA (freO l d) p).held = (findA l p).held - (if d.plc = p then d.amount else 0) := by
  have hm : mvB d.plc d.amount = true := by
    cases hm : mvB d.plc d.amount
    · unfold freE at h
      rw [(mv_0 (l := l) (er := frX l d.plc d.amount) (d := 0) hm).1] at h
      cases h
    · rfl
  obtain ⟨h1, hw, hnm⟩ := mv_may hm
  have hx : frX l d.plc d.amount = 0 := by
    apply Classical.byContradiction
    intro k
    unfold freE at h
    rw [(mv_1 (l := l) (d := 0) hm k).1] at h
    exact k h
  have hle : d.amount ≤ (findA l d.plc).held := by
    unfold frX at hx
    split at hx
    · cases hx
    · omega
  have hh := (find_held hl d.plc).2 hw
  have hz := find_i64 hb d.plc
  have e1 : freO l d = withA l ⟨d.plc.who, d.plc.asset, (findA l d.plc).balance, (findA l d.plc).held - d.amount⟩ := by
    unfold freO
    rw [hx, (mv_2 (l := l) (d := wrap64 (-d.amount)) hm).2, show wrap64 ((findA l d.plc).held + wrap64 (-d.amount)) = (findA l d.plc).held - d.amount by unfold wrap64; omega]
  have hok : OkL (freO l d) := free_ok hl hb hd
  refine ⟨hok, ?_, h1, hw, fun p => ?_⟩
  · rw [e1]
    intro a ha
    rcases mem_with hl.srt ha with ⟨h, _⟩ | ⟨h, _⟩
    · exact hb a h
    · rw [h]; exact hz
  · rw [e1, find_with hl.srt]
    by_cases e : p = d.plc
    · subst e
      rw [if_pos (show d.plc = Acc.plc ⟨d.plc.who, d.plc.asset, (findA l d.plc).balance, (findA l d.plc).held - d.amount⟩ from rfl), if_pos rfl, if_neg (show ¬ (findA l d.plc).balance = 0 by omega)]
      exact ⟨rfl, rfl⟩
    · rw [if_neg (show ¬ p = Acc.plc ⟨d.plc.who, d.plc.asset, (findA l d.plc).balance, (findA l d.plc).held - d.amount⟩ from e), if_neg (fun k => e k.symm)]
      exact ⟨rfl, by omega⟩
theorem freeGo_law : ∀ (ds : List Due) (l : List Acc), OkL l → BalI l → (∀ d ∈ ds, d.amount ≤ 9223372036854775807) → (freeGo ds l).1 = 0 →
    OkL (freeGo ds l).2 ∧ BalI (freeGo ds l).2 ∧ (∀ d ∈ ds, d.plc.who ≠ worldS) ∧ ∀ p, (findA (freeGo ds l).2 p).balance = (findA l p).balance ∧ (findA (freeGo ds l).2 p).held = (findA l p).held - (amts ds p).sum
  | [], l, hl, hb, _, _ => ⟨hl, hb, by simp, fun p => ⟨rfl, by simp [freeGo, amts]⟩⟩
  | d :: ds, l, hl, hb, hd, h => by
    unfold freeGo at h ⊢
    split at h
    · rename_i h0
      rw [if_pos h0]
      obtain ⟨k1, k2, _, k3, k4⟩ := free_step hl hb (hd d (by simp)) h0
      obtain ⟨i1, i2, i3, i4⟩ := freeGo_law ds (freO l d) k1 k2 (fun x hx => hd x (by simp [hx])) h
      refine ⟨i1, i2, fun x hx => ?_, fun p => ?_⟩
      · rcases List.mem_cons.1 hx with rfl | hx
        · exact k3
        · exact i3 x hx
      · obtain ⟨j1, j2⟩ := i4 p
        obtain ⟨m1, m2⟩ := k4 p
        rw [amts_cons]
        refine ⟨j1.trans m1, ?_⟩
        rw [j2, m2]
        split <;> simp <;> omega
    · rename_i h0
      exact absurd h h0
theorem freO_len (l : List Acc) (d : Due) : (freO l d).length ≤ l.length + 1 := by
  unfold freO mvO
  split
  · exact with_len _ _
  · simp
theorem freeGo_len : ∀ (ds : List Due) (l : List Acc), (freeGo ds l).2.length ≤ l.length + ds.length
  | [], l => by simp [freeGo]
  | d :: ds, l => by
    unfold freeGo
    split
    · have h1 := freeGo_len ds (freO l d)
      have h2 := freO_len l d
      rw [List.length_cons]
      omega
    · simp
def sfE (l : List Acc) (ds : List Due) : Int := if grossE ds = 0 then (freeGo (grossO ds) l).1 else grossE ds
def sfO (l : List Acc) (ds : List Due) : List Acc := if grossE ds = 0 then (freeGo (grossO ds) l).2 else []
/-! ### 2. The legs -/
def slE (ds : List Due) : Int := if zeroB ds then (if netE ds = 0 then (if 200 < (netO ds).length then 120 else 0) else netE ds) else 120
def slO (ds : List Due) : List Due := if slE ds = 0 then netO ds else []
/-- Legs posted, if there is one. -/
def poE (l : List Acc) (legs : List Due) : Int := if legs = [] then 0 else postE l legs
def poO (l : List Acc) (legs : List Due) : List Acc := if legs = [] then l else postO l legs
/-! ### 3. A settlement -/
def stE (l : List Acc) (ds : List Due) : Int := if sfE l ds = 0 then (if slE ds = 0 then poE (sfO l ds) (slO ds) else slE ds) else sfE l ds
def stO (l : List Acc) (ds : List Due) : List Acc := if stE l ds = 0 then poO (sfO l ds) (slO ds) else []
def stL (l : List Acc) (ds : List Due) : List Due := if stE l ds = 0 then slO ds else []
def sgE (l : List Acc) (ds : List Due) : Int := if zeroB ds then (if sfE l ds = 0 then poE (sfO l ds) ds else sfE l ds) else 120
def sgO (l : List Acc) (ds : List Due) : List Acc := if sgE l ds = 0 then poO (sfO l ds) ds else []
/-- What becomes of each account. -/
structure Moved (l m : List Acc) (S H : Plc → Int) : Prop where
  ok : OkL m
  bal : BalI m
  at_ : ∀ p, (findA m p).balance = (findA l p).balance + S p ∧ (findA m p).held = (findA l p).held - H p
theorem Moved.same {l m m' : List Acc} {S S' H H' : Plc → Int} (h : Moved l m S H) (h' : Moved l m' S' H') (hS : ∀ p, S p = S' p) (hH : ∀ p, H p = H' p) : m = m' := by
  refine acc_ext h.ok.srt h'.ok.srt h.ok.nz h'.ok.nz (fun p => ?_)
  obtain ⟨a1, a2⟩ := h.at_ p
  obtain ⟨b1, b2⟩ := h'.at_ p
  have c1 := findA_plc m p
  have c2 := findA_plc m' p
  obtain ⟨x, hx⟩ : ∃ x, findA m p = x := ⟨_, rfl⟩
  obtain ⟨y, hy⟩ : ∃ y, findA m' p = y := ⟨_, rfl⟩
  rw [hx] at a1 a2 c1 ⊢
  rw [hy] at b1 b2 c2 ⊢
  rw [hS p] at a1
  rw [hH p] at a2
  have e1 : x.who = y.who := (congrArg Plc.who c1).trans (congrArg Plc.who c2).symm
  have e2 : x.asset = y.asset := (congrArg Plc.asset c1).trans (congrArg Plc.asset c2).symm
  obtain ⟨x0, x1, x2, x3⟩ := x
  obtain ⟨y0, y1, y2, y3⟩ := y
  simp only at a1 a2 b1 b2 e1 e2
  rw [e1, e2, a1, a2, b1, b2]
theorem Moved.then_ {l m k : List Acc} {S S' H H' : Plc → Int} (h : Moved l m S H) (h' : Moved m k S' H') : Moved l k (fun p => S p + S' p) (fun p => H p + H' p) := by
  refine ⟨h'.ok, h'.bal, fun p => ?_⟩
  obtain ⟨a1, a2⟩ := h.at_ p
  obtain ⟨b1, b2⟩ := h'.at_ p
  rw [b1, b2, a1, a2]
  exact ⟨by omega, by omega⟩
theorem moved_free {l : List Acc} {ds : List Due} (hl : OkL l) (hb : BalI l) (h : sfE l ds = 0) : Moved l (sfO l ds) (fun _ => 0) (fun p => (amts (grossO ds) p).sum) ∧ grossE ds = 0 := by
  unfold sfE at h
  unfold sfO
  by_cases hg : grossE ds = 0
  · rw [if_pos hg] at h ⊢
    obtain ⟨h1, h2, _, h3⟩ := freeGo_law (grossO ds) l hl hb (fun d hd => (by
      unfold grossO at hd
      split at hd
      · cases hd
      · exact (net_i64 hd).2)) h
    exact ⟨⟨h1, h2, fun p => ⟨by rw [(h3 p).1]; omega, (h3 p).2⟩⟩, hg⟩
  · rw [if_neg hg] at h
    exact absurd h hg
theorem moved_post {l : List Acc} {legs : List Due} (hl : OkL l) (hb : BalI l) (h : poE l legs = 0) : Moved l (poO l legs) (fun p => (amts legs p).sum) (fun _ => 0) := by
  unfold poE at h
  unfold poO
  by_cases hn : legs = []
  · rw [if_pos hn]
    subst hn
    exact ⟨hl, hb, fun p => ⟨by simp [amts], by omega⟩⟩
  · rw [if_neg hn] at h ⊢
    obtain ⟨h1, h2, h3⟩ := postO_find hl.srt h
    refine ⟨postO_ok hl, postO_i64 hl.srt hb h, fun p => ?_⟩
    rw [h3 p]
    by_cases hp : p ∈ legP legs
    · rw [if_pos hp]
      have hz := errAt_zero.1 (post_ok hl.srt h _ hp)
      unfold updA
      split
      · next e =>
        refine ⟨by rw [e]; rfl, ?_⟩
        have h2 := hz.2.2
        rw [e] at h2
        have h3 := find_held hl p
        show (0 : Int) = _
        by_cases hw : p.who = worldS
        · rw [h3.1 hw]; rfl
        · have h4 := h3.2 hw
          have : ¬ (0 : Int) < (findA l p).held := fun k => h2 ⟨hw, k⟩
          omega
      · exact ⟨rfl, by show (findA l p).held = _; omega⟩
    · rw [if_neg hp, amts_none hp]
      exact ⟨by simp, by omega⟩
theorem slO_sum {ds : List Due} (h : slE ds = 0) (p : Plc) : (amts (slO ds) p).sum = (amts ds p).sum ∧ zeroB ds = true ∧ netOk ds = true ∧ slO ds = netO ds := by
  have h0 := h
  unfold slE at h
  cases hz : zeroB ds
  · rw [hz] at h; cases h
  · rw [hz, if_pos rfl] at h
    by_cases hn : netE ds = 0
    · have hok := netE_ok hn
      have e : slO ds = netO ds := by unfold slO; rw [if_pos h0]
      exact ⟨by rw [e]; exact net_sum hok p, rfl, hok, e⟩
    · rw [if_neg hn] at h
      exact absurd h hn
/-- What everyone owes, summed. -/
def owS (ds : List Due) (p : Plc) : Int := (amts (owedL ds) p).sum
theorem gross_sum {ds : List Due} (h : grossE ds = 0) (p : Plc) : (amts (grossO ds) p).sum = owS ds p := by
  obtain ⟨h1, h2⟩ := gross_ok h
  rw [h2]
  exact net_sum h1 p
theorem settle_moved {l : List Acc} {ds : List Due} (hl : OkL l) (hb : BalI l) (h : stE l ds = 0) : Moved l (stO l ds) (fun p => (amts ds p).sum) (owS ds) ∧ slE ds = 0 ∧ grossE ds = 0 := by
  have h0 := h
  unfold stE at h
  by_cases h1 : sfE l ds = 0
  · rw [if_pos h1] at h
    by_cases h2 : slE ds = 0
    · rw [if_pos h2] at h
      obtain ⟨m1, hg⟩ := moved_free hl hb h1
      have m2 := m1.then_ (moved_post m1.ok m1.bal h)
      have e : stO l ds = poO (sfO l ds) (slO ds) := by unfold stO; rw [if_pos h0]
      rw [e]
      refine ⟨⟨m2.ok, m2.bal, fun p => ?_⟩, h2, hg⟩
      obtain ⟨a1, a2⟩ := m2.at_ p
      rw [a1, a2]
      refine ⟨?_, ?_⟩
      · show _ + (0 + (amts (slO ds) p).sum) = _
        rw [(slO_sum h2 p).1]
        omega
      · show _ - ((amts (grossO ds) p).sum + 0) = _
        rw [gross_sum hg]
        omega
    · rw [if_neg h2] at h
      exact absurd h h2
  · rw [if_neg h1] at h
    exact absurd h h1
theorem grossS_moved {l : List Acc} {ds : List Due} (hl : OkL l) (hb : BalI l) (h : sgE l ds = 0) : Moved l (sgO l ds) (fun p => (amts ds p).sum) (owS ds) := by
  have h0 := h
  unfold sgE at h
  cases hz : zeroB ds
  · rw [hz] at h; cases h
  · rw [hz, if_pos rfl] at h
    by_cases h1 : sfE l ds = 0
    · rw [if_pos h1] at h
      obtain ⟨m1, hg⟩ := moved_free hl hb h1
      have m2 := m1.then_ (moved_post m1.ok m1.bal h)
      have e : sgO l ds = poO (sfO l ds) ds := by unfold sgO; rw [if_pos h0]
      rw [e]
      refine ⟨m2.ok, m2.bal, fun p => ?_⟩
      obtain ⟨a1, a2⟩ := m2.at_ p
      rw [a1, a2]
      refine ⟨?_, ?_⟩
      · show _ + (0 + (amts ds p).sum) = _
        omega
      · show _ - ((amts (grossO ds) p).sum + 0) = _
        rw [gross_sum hg]
        omega
    · rw [if_neg h1] at h
      exact absurd h h1
/-- By nets, and one by one: the same accounts. -/
theorem settle_nets {l : List Acc} {ds : List Due} (hl : OkL l) (hb : BalI l) (h : stE l ds = 0) (h' : sgE l ds = 0) : stO l ds = sgO l ds ∧ OkL (stO l ds) := by
  have a := (settle_moved hl hb h).1
  exact ⟨a.same (grossS_moved hl hb h') (fun _ => rfl) (fun _ => rfl), a.ok⟩
theorem owedL_append (a b : List Due) : owedL (a ++ b) = owedL a ++ owedL b := by
  unfold owedL
  rw [List.filter_append, List.map_append]
/-- Two settlements, one behind the other. -/
theorem settle_two {l : List Acc} {a b : List Due} (hl : OkL l) (hb : BalI l) (h1 : stE l a = 0) (h2 : stE (stO l a) b = 0) (h3 : stE l (a ++ b) = 0) : stO (stO l a) b = stO l (a ++ b) := by
  have m1 := (settle_moved hl hb h1).1
  have m2 := m1.then_ (settle_moved m1.ok m1.bal h2).1
  refine m2.same (settle_moved hl hb h3).1 (fun p => ?_) (fun p => ?_)
  · rw [amts_append, List.sum_append]
  · unfold owS
    rw [owedL_append, amts_append, List.sum_append]
/-! ### 4. A settlement changes each account by just its dues' sum -/
/-- The last one's amount of a place; 0, if there is none. -/
def lastA (l : List Due) (p : Plc) : Int := l.foldl (fun s d => if d.plc = p then d.amount else s) 0
theorem lastA_step {l : List Due} {k : Nat} {o : Due} (h : l[k]? = some o) (p : Plc) : lastA (l.take (k + 1)) p = if o.plc = p then o.amount else lastA (l.take k) p := by
  unfold lastA
  rw [List.take_add_one, h, Option.toList_some, List.foldl_append]
  rfl
theorem lastA_up (p : Plc) : ∀ (l : List Due), Up (l.map Due.plc) → lastA l p = (amts l p).sum := by
  intro l
  suffices ∀ (l : List Due) (s : Int), Up (l.map Due.plc) → (s = 0 ∨ ∀ d ∈ l, d.plc ≠ p) → l.foldl (fun s d => if d.plc = p then d.amount else s) s = s + (amts l p).sum from fun h => by
    have := this l 0 h (.inl rfl)
    unfold lastA
    rw [this]
    omega
  intro l
  induction l with
  | nil => intro s _ _; simp [amts]
  | cons x l ih =>
    intro s hu hs
    obtain ⟨u1, u2⟩ := List.pairwise_cons.1 hu
    rw [List.foldl_cons, amts_cons]
    by_cases e : x.plc = p
    · have hne : ∀ d ∈ l, d.plc ≠ p := fun d hd k => ltP_ne (u1 d.plc (List.mem_map.2 ⟨d, hd, rfl⟩)) (by rw [e, k])
      rw [if_pos e, if_pos e, ih _ u2 (.inr hne)]
      rcases hs with rfl | hs
      · simp
      · exact absurd e (hs x (by simp))
    · rw [if_neg e, if_neg e, ih s u2 (by
        rcases hs with rfl | hs
        · exact .inl rfl
        · exact .inr (fun d hd => hs d (by simp [hd])))]
      simp
theorem settle_whole {l : List Acc} {ds : List Due} (hl : OkL l) (hb : BalI l) (h : stE l ds = 0) (p : Plc) : (findA (stO l ds) p).balance - (findA l p).balance = lastA (stL l ds) p ∧ (findA l p).held - (findA (stO l ds) p).held = lastA (grossO ds) p := by
  obtain ⟨m, hs, hg⟩ := settle_moved hl hb h
  obtain ⟨a1, a2⟩ := m.at_ p
  have e : stL l ds = slO ds := by unfold stL; rw [if_pos h]
  have e2 := (slO_sum hs p).2.2.2
  have hu : Up ((slO ds).map Due.plc) := by rw [e2]; exact net_up ds
  have hu2 : Up ((grossO ds).map Due.plc) := by rw [(gross_ok hg).2]; exact net_up _
  rw [e, lastA_up p _ hu, (slO_sum hs p).1, lastA_up p _ hu2, gross_sum hg, a1, a2]
  exact ⟨by omega, by omega⟩
/-- Sums of balances by place. -/
theorem bal_moved {l m : List Acc} {S H : Plc → Int} (hl : OkL l) (h : Moved l m S H) (s : ByteArray) (ps : List Plc) (hps : Up ps) (h0 : ∀ p, S p ≠ 0 → p ∈ ps) : (balA m s).sum = (balA l s).sum + (ps.map (fun p => if p.asset = s then S p else 0)).sum := by
  have key : ∀ (x : List Acc), OkL x → ∀ qs : List Plc, Up qs → (∀ a ∈ x, a.plc ∈ qs) → (balA x s).sum = (qs.map (fun p => if p.asset = s then (findA x p).balance else 0)).sum := by
    intro x hx qs hq hin
    have g : ∀ (y : List Acc), (∀ a ∈ y, a.plc ∈ qs) → (balA y s).sum = (qs.map (fun p => (y.map (fun a => if a.plc = p then (if a.asset = s then a.balance else 0) else 0)).sum)).sum := by
      intro y
      induction y with
      | nil => intro _; exact (sum_zero qs (fun p => (List.map (fun a => if a.plc = p then if a.asset = s then a.balance else 0 else 0) ([] : List Acc)).sum) (fun p _ => rfl)).symm
      | cons a y ih =>
        intro hy
        have e : (qs.map (fun p => ((a :: y).map (fun b => if b.plc = p then (if b.asset = s then b.balance else 0) else 0)).sum)).sum = (qs.map (fun p => if a.plc = p then (if a.asset = s then a.balance else 0) else 0)).sum + (qs.map (fun p => (y.map (fun b => if b.plc = p then (if b.asset = s then b.balance else 0) else 0)).sum)).sum := by
          rw [← sum_add]
          congr 1
        rw [e, sum_pick hq (hy a (by simp)), ← ih (fun b hb => hy b (by simp [hb])), show a :: y = [a] ++ y from rfl, bal_append, List.sum_append, bal_one]
    rw [g x hin]
    congr 1
    refine List.map_congr_left (fun p hp => ?_)
    obtain ⟨L, M, R, hC⟩ := srt_cut hx.srt p
    rw [hC.find, hC.eq]
    simp only [List.map_append, List.sum_append]
    rw [sum_zero L _ (fun a ha => if_neg (hC.loNe a ha)), sum_zero R _ (fun a ha => if_neg (hC.hiNe a ha))]
    cases M with
    | none => show 0 + (0 + 0) = if p.asset = s then (0 : Int) else 0; split <;> rfl
    | some a =>
      have e := hC.at_ a rfl
      have e2 : a.asset = p.asset := congrArg Plc.asset e
      simp [e, e2]
  obtain ⟨qs, hq, hin⟩ : ∃ qs : List Plc, Up qs ∧ ∀ p, (p ∈ ps ∨ p ∈ l.map Acc.plc ∨ p ∈ m.map Acc.plc) → p ∈ qs := ⟨plcs (ps ++ (l.map Acc.plc ++ m.map Acc.plc)), up_plcs _, fun p hp => mem_plcs.2 (by simp only [List.mem_append]; exact hp)⟩
  have more : (ps.map (fun p => if p.asset = s then S p else 0)).sum = (qs.map (fun p => if p.asset = s then S p else 0)).sum := by
    have g : ∀ (rs : List Plc), Up rs → (∀ p ∈ rs, p ∈ qs) → (rs.map (fun p => if p.asset = s then S p else 0)).sum = (qs.map (fun p => if p ∈ rs then (if p.asset = s then S p else 0) else 0)).sum := by
      intro rs
      induction rs with
      | nil => intro _ _; rw [sum_zero qs _ (fun p _ => by simp)]; rfl
      | cons r rs ih =>
        intro hr hrin
        obtain ⟨r1, r2⟩ := List.pairwise_cons.1 hr
        have hnr : r ∉ rs := fun k => by have := r1 r k; rw [ltP_irr] at this; cases this
        rw [List.map_cons, List.sum_cons, ih r2 (fun p hp => hrin p (by simp [hp]))]
        have e := sum_pick hq (hrin r (by simp)) (if r.asset = s then S r else 0)
        rw [← e, ← sum_add]
        congr 1
        refine List.map_congr_left (fun p _ => ?_)
        by_cases k : r = p
        · subst k
          rw [if_pos rfl, if_neg hnr, if_pos (List.mem_cons_self ..)]
          omega
        · rw [if_neg k]
          by_cases k2 : p ∈ rs
          · rw [if_pos k2, if_pos (List.mem_cons_of_mem _ k2)]; omega
          · rw [if_neg k2, if_neg (by simp [k2]; exact fun e => k e.symm)]; rfl
    rw [g ps hps (fun p hp => hin p (.inl hp))]
    congr 1
    refine List.map_congr_left (fun p _ => ?_)
    by_cases k : p ∈ ps
    · rw [if_pos k]
    · rw [if_neg k]
      have : S p = 0 := Classical.byContradiction (fun k2 => k (h0 p k2))
      rw [this]
      split <;> rfl
  rw [key m h.ok qs hq (fun a ha => hin _ (.inr (.inr (List.mem_map.2 ⟨a, ha, rfl⟩)))), key l hl qs hq (fun a ha => hin _ (.inr (.inl (List.mem_map.2 ⟨a, ha, rfl⟩)))), more, ← sum_add]
  congr 1
  refine List.map_congr_left (fun p _ => ?_)
  rw [(h.at_ p).1]
  split <;> omega
theorem settle_total {l : List Acc} {ds : List Due} (hl : OkL l) (hb : BalI l) (h : stE l ds = 0) (s : ByteArray) : sumV (balA l s) = sumV (balA (stO l ds) s) ∧ sumE (balA l s) = sumE (balA (stO l ds) s) := by
  obtain ⟨m, hs, _⟩ := settle_moved hl hb h
  have e := bal_moved hl m s (plcs (ds.map Due.plc)) (up_plcs _) (fun p hp => mem_plcs.2 (Classical.byContradiction (fun k => hp (by
    show (amts ds p).sum = 0
    rw [amts_no k]
    rfl))))
  have e2 : ((plcs (ds.map Due.plc)).map (fun p => if p.asset = s then (amts ds p).sum else 0)).sum = (assL ds s).sum := sumAt_legs s (up_plcs _) ds (fun d hd => mem_plcs.2 (List.mem_map.2 ⟨d, hd, rfl⟩))
  rw [e2, zeroB_iff.1 (slO_sum hs ⟨s, s⟩).2.1 s, Int.add_zero] at e
  exact sumV_congr e.symm
end Go.Proofs.YtnpinolhhnpniaaGreat
