/- Nets: the plain law. -/
import Derived.Test.YtnpinolhhnpniaaGreatPsP
set_option linter.unusedSimpArgs false
set_option linter.unusedVariables false
namespace Go.Proofs.YtnpinolhhnpniaaGreat
def dueP (l : List Due) : List Plc := plcs (l.map Due.plc)
theorem mem_dueP {l : List Due} {p : Plc} : p ∈ dueP l ↔ p ∈ l.map Due.plc := mem_plcs
def netD (l : List Due) (p : Plc) : Due := ⟨p.who, p.asset, (amts l p).sum⟩
def netOk (l : List Due) : Bool := (dueP l).all (fun p => sumOk (amts l p))
def netPs (l : List Due) : List Plc := (dueP l).filter (fun p => !decide ((amts l p).sum = 0))
def netE (l : List Due) : Int := if netOk l then 0 else 10
def netO (l : List Due) : List Due := if netOk l then (netPs l).map (netD l) else []
theorem sumOk_nil : sumOk [] = true := by decide
theorem netOk_iff {l : List Due} : netOk l = true ↔ ∀ p, sumOk (amts l p) = true := by
  unfold netOk
  rw [List.all_eq_true]
  constructor
  · intro h p
    by_cases hp : p ∈ dueP l
    · exact h p hp
    · rw [amts_no (fun k => hp (mem_dueP.2 k))]
      exact sumOk_nil
  · exact fun h p _ => h p
theorem mem_netPs {l : List Due} {p : Plc} : p ∈ netPs l ↔ (amts l p).sum ≠ 0 := by
  unfold netPs
  rw [List.mem_filter]
  constructor
  · rintro ⟨_, h⟩
    simpa using h
  · intro h
    refine ⟨?_, by simpa using h⟩
    apply Classical.byContradiction
    intro k
    rw [amts_no (fun k' => k (mem_dueP.2 k'))] at h
    exact h rfl
theorem up_netPs (l : List Due) : Up (netPs l) := List.Pairwise.filter _ (up_plcs _)
theorem net_congr {a b : List Due} (h : ∀ p, (amts a p).sum = (amts b p).sum) : netE a = netE b ∧ netO a = netO b := by
  have h1 : netOk a = netOk b := by
    have : netOk a = true ↔ netOk b = true := by
      rw [netOk_iff, netOk_iff]
      exact ⟨fun k p => by rw [← sumOk_congr (h p)]; exact k p, fun k p => by rw [sumOk_congr (h p)]; exact k p⟩
    cases ha : netOk a <;> cases hb : netOk b <;> simp_all
  have h2 : netPs a = netPs b := up_ext (up_netPs a) (up_netPs b) (fun p => by rw [mem_netPs, mem_netPs, h p])
  have h3 : netD a = netD b := by
    funext p
    unfold netD
    rw [h p]
  unfold netE netO
  rw [h1, h2, h3]
  exact ⟨rfl, rfl⟩
theorem netD_plc (l : List Due) (p : Plc) : (netD l p).plc = p := rfl
theorem amts_map (l : List Due) (q : Plc) : ∀ ps : List Plc, Up ps → amts (ps.map (netD l)) q = if q ∈ ps then [(amts l q).sum] else []
  | [], _ => rfl
  | p :: ps, hu => by
    obtain ⟨u1, u2⟩ := List.pairwise_cons.1 hu
    rw [List.map_cons, amts_cons, amts_map l q ps u2, netD_plc]
    by_cases e : p = q
    · subst e
      have : p ∉ ps := fun k => by have := u1 p k; rw [ltP_irr] at this; cases this
      rw [if_pos rfl, if_neg this, if_pos (List.mem_cons_self ..)]
      rfl
    · rw [if_neg e]
      by_cases hq : q ∈ ps
      · rw [if_pos hq, if_pos (List.mem_cons_of_mem _ hq)]
        rfl
      · rw [if_neg hq, if_neg (by simp [hq]; exact fun k => e k.symm)]
        rfl
/-- Everyone's net is the sum of what was due. -/
theorem net_sum {l : List Due} (h : netOk l = true) (q : Plc) : (amts (netO l) q).sum = (amts l q).sum := by
  unfold netO
  rw [if_pos h, amts_map l q _ (up_netPs l)]
  by_cases k : (amts l q).sum = 0
  · rw [if_neg (fun hm => mem_netPs.1 hm k), k]
    rfl
  · rw [if_pos (mem_netPs.2 k)]
    simp
theorem netE_0 {l : List Due} (h : netOk l = true) : netE l = 0 := by unfold netE; rw [if_pos h]
theorem netE_10 {l : List Due} (h : netOk l = false) : netE l = 10 ∧ netO l = [] := by unfold netE netO; simp [h]
theorem netE_ok {l : List Due} (h : netE l = 0) : netOk l = true := by
  cases k : netOk l
  · rw [(netE_10 k).1] at h; cases h
  · rfl
theorem net_net {l : List Due} (h : netOk l = true) : netE (netO l) = 0 ∧ netO (netO l) = netO l := by
  have := net_congr (a := netO l) (b := l) (net_sum h)
  rw [netE_0 h] at this
  exact this
theorem net_turn (l : List Due) (k : Nat) : netE (turnL l k) = netE l ∧ netO (turnL l k) = netO l := net_congr (fun p => (turn_sum l k p).symm)
/-- The parts of this law: the second one behind all. -/
def partsE (x : Due) (n : Int) (t : List Due) : List Due := (⟨x.who, x.asset, x.amount - n⟩ :: t) ++ [⟨x.who, x.asset, n⟩]
theorem net_parts (x : Due) (n : Int) (t : List Due) : netE (partsE x n t) = netE (x :: t) ∧ netO (partsE x n t) = netO (x :: t) := by
  refine net_congr (fun p => ?_)
  rw [parts_sum x n t p]
  unfold partsE partsL
  rw [amts_append, amts_cons, amts_cons, amts_cons, amts_cons]
  simp only [List.sum_append]
  show _ = _ + ((if x.plc = p then [n] else []).sum + _)
  show ((if x.plc = p then [x.amount - n] else []).sum + (amts t p).sum + ((if x.plc = p then [n] else []).sum + (amts [] p).sum)) = _
  have e : (amts [] p).sum = 0 := rfl
  rw [e]
  show _ = (if x.plc = p then [x.amount - n] else []).sum + _
  omega
theorem net_join {a b : List Due} (ha : netOk a = true) (hb : netOk b = true) : netE (netO a ++ netO b) = netE (a ++ b) ∧ netO (netO a ++ netO b) = netO (a ++ b) :=
  net_congr (fun p => by rw [amts_append, amts_append, List.sum_append, List.sum_append, net_sum ha, net_sum hb])
theorem net_plcs (l : List Due) : (netO l).map Due.plc = if netOk l then netPs l else [] := by
  unfold netO
  split
  · rw [List.map_map]
    exact List.map_id'' (fun _ => rfl) _
  · rfl
theorem net_up (l : List Due) : Up ((netO l).map Due.plc) := by
  rw [net_plcs]
  split
  · exact up_netPs l
  · exact List.Pairwise.nil
theorem net_nz {l : List Due} {d : Due} (h : d ∈ netO l) : d.amount ≠ 0 ∧ d.amount = (amts l d.plc).sum ∧ netOk l = true := by
  unfold netO at h
  split at h
  · rename_i hk
    obtain ⟨p, hp, rfl⟩ := List.mem_map.1 h
    exact ⟨mem_netPs.1 hp, rfl, hk⟩
  · cases h
theorem net_len (l : List Due) : (netO l).length ≤ l.length := by
  unfold netO netPs dueP
  split
  · rw [List.length_map]
    refine Nat.le_trans (List.length_filter_le _ _) (Nat.le_trans (plcs_len _) ?_)
    rw [List.length_map]
    exact Nat.le_refl _
  · simp
theorem net_i64 {l : List Due} {d : Due} (h : d ∈ netO l) : -9223372036854775808 ≤ d.amount ∧ d.amount ≤ 9223372036854775807 := by
  obtain ⟨_, e, hk⟩ := net_nz h
  have := netOk_iff.1 hk d.plc
  unfold sumOk at this
  rw [e]
  simpa using this
/-- A net's place is a due's. -/
theorem net_mem {l : List Due} {d : Due} (h : d ∈ netO l) : ∃ x ∈ l, x.who = d.who ∧ x.asset = d.asset := by
  obtain ⟨h1, h2, _⟩ := net_nz h
  rw [h2] at h1
  have : d.plc ∈ l.map Due.plc := by
    apply Classical.byContradiction
    intro k
    rw [amts_no k] at h1
    exact h1 rfl
  obtain ⟨x, hx, e⟩ := List.mem_map.1 this
  exact ⟨x, hx, congrArg Plc.who e, congrArg Plc.asset e⟩
/-! ### sums of each asset -/
def zeroB (l : List Due) : Bool := l.all (fun d => decide ((assL l d.asset).sum = 0))
theorem zeroB_iff {l : List Due} : zeroB l = true ↔ ∀ s, (assL l s).sum = 0 := by
  unfold zeroB
  rw [List.all_eq_true]
  constructor
  · intro h s
    by_cases k : ∃ d ∈ l, d.asset = s
    · obtain ⟨d, hd, rfl⟩ := k
      simpa using h d hd
    · unfold assL
      rw [List.filter_eq_nil_iff.2 (fun d hd e => k ⟨d, hd, by simpa using e⟩)]
      rfl
  · exact fun h d _ => by simpa using h d.asset
theorem net_ass {l : List Due} (h : netOk l = true) (s : ByteArray) : (assL (netO l) s).sum = (assL l s).sum := by
  have h1 : ∀ d ∈ netO l, d.plc ∈ dueP l := by
    intro d hd
    obtain ⟨x, hx, e1, e2⟩ := net_mem hd
    refine mem_dueP.2 (List.mem_map.2 ⟨x, hx, ?_⟩)
    unfold Due.plc
    rw [e1, e2]
  rw [← sumAt_legs s (up_plcs (l.map Due.plc)) (netO l) h1, ← sumAt_legs s (up_plcs (l.map Due.plc)) l (fun d hd => mem_dueP.2 (List.mem_map.2 ⟨d, hd, rfl⟩))]
  unfold sumAt
  congr 1
  refine List.map_congr_left (fun p _ => ?_)
  rw [net_sum h]
theorem net_zero {l : List Due} (h : netOk l = true) : zeroB (netO l) = zeroB l := by
  have : zeroB (netO l) = true ↔ zeroB l = true := by
    rw [zeroB_iff, zeroB_iff]
    exact ⟨fun k s => by rw [← net_ass h s]; exact k s, fun k s => by rw [net_ass h s]; exact k s⟩
  cases ha : zeroB (netO l) <;> cases hb : zeroB l <;> simp_all
/-! ### what everyone is to give -/
def owedL (l : List Due) : List Due := (l.filter (fun d => decide (d.amount < 0))).map (fun d => ⟨d.who, d.asset, -d.amount⟩)
def leastB (l : List Due) : Bool := l.any (fun d => decide (d.amount = -9223372036854775808))
def grossE (l : List Due) : Int := if leastB l then 10 else netE (owedL l)
def grossO (l : List Due) : List Due := if leastB l then [] else netO (owedL l)
theorem owedL_step {l : List Due} {k : Nat} {o : Due} (h : l[k]? = some o) : owedL (l.take (k + 1)) = owedL (l.take k) ++ (if o.amount < 0 then [⟨o.who, o.asset, -o.amount⟩] else []) := by
  unfold owedL
  rw [List.take_add_one, h]
  simp only [Option.toList_some, List.filter_append, List.map_append]
  by_cases e : o.amount < 0 <;> simp [e]
theorem owedL_len (l : List Due) : (owedL l).length ≤ l.length := by
  unfold owedL
  rw [List.length_map]
  exact List.length_filter_le _ _
theorem owed_mem {l : List Due} {d : Due} (h : d ∈ owedL l) : ∃ x ∈ l, x.amount < 0 ∧ d = ⟨x.who, x.asset, -x.amount⟩ := by
  unfold owedL at h
  obtain ⟨x, hx, e⟩ := List.mem_map.1 h
  obtain ⟨h1, h2⟩ := List.mem_filter.1 hx
  exact ⟨x, h1, by simpa using h2, e.symm⟩
theorem owed_amts (l : List Due) (p : Plc) : 0 ≤ (amts (owedL l) p).sum ∧ -(amts (owedL l) p).sum ≤ (amts l p).sum := by
  induction l with
  | nil => exact ⟨Int.le_refl _, Int.le_refl _⟩
  | cons d l ih =>
    rw [amts_cons]
    by_cases h : d.amount < 0
    · have e : owedL (d :: l) = ⟨d.who, d.asset, -d.amount⟩ :: owedL l := by unfold owedL; rw [List.filter_cons, if_pos (by simpa using h)]; rfl
      rw [e, amts_cons]
      show 0 ≤ ((if d.plc = p then [-d.amount] else []) ++ _).sum ∧ -((if d.plc = p then [-d.amount] else []) ++ _).sum ≤ _
      split <;> simp <;> omega
    · have e : owedL (d :: l) = owedL l := by unfold owedL; rw [List.filter_cons, if_neg (by simpa using h)]
      rw [e]
      split <;> simp <;> omega
theorem amts_nonneg {l : List Due} (h : ∀ d ∈ l, 0 < d.amount) (p : Plc) : 0 ≤ (amts l p).sum := by
  induction l with
  | nil => exact Int.le_refl _
  | cons d l ih =>
    rw [amts_cons]
    have h1 := h d (by simp)
    have h2 := ih (fun x hx => h x (by simp [hx]))
    split <;> simp <;> omega
theorem gross_ok {l : List Due} (h : grossE l = 0) : netOk (owedL l) = true ∧ grossO l = netO (owedL l) := by
  unfold grossE at h
  unfold grossO
  cases k : leastB l
  · rw [k] at h
    exact ⟨netE_ok (by simpa using h), by simp⟩
  · rw [k] at h
    cases h
/-- No one is to give more by nets than by all dues. -/
theorem net_less {l : List Due} (hn : netE l = 0) (hg : grossE l = 0) {d : Due} (hd : d ∈ netO l) : sumE (amts (grossO l) d.plc) = 0 ∧ 0 ≤ sumV (amts (grossO l) d.plc) ∧ -(sumV (amts (grossO l) d.plc)) ≤ d.amount ∧ sumV (amts (grossO l) d.plc) ≤ 9223372036854775807 := by
  obtain ⟨h1, h2⟩ := gross_ok hg
  rw [h2]
  have h3 := sumV_congr (net_sum h1 d.plc)
  have h4 := netOk_iff.1 h1 d.plc
  have h5 := owed_amts l d.plc
  have h6 := (net_nz hd).2.1
  rw [h3.1, h3.2]
  have h7 := h4
  unfold sumOk at h7
  simp only [Bool.and_eq_true, decide_eq_true_eq] at h7
  unfold sumV sumE
  rw [if_pos h4, if_pos h4, h6]
  exact ⟨rfl, h5.1, h5.2, h7.2⟩
theorem gross_owes {l : List Due} (hg : grossE l = 0) {g : Due} (h : g ∈ grossO l) : 1 ≤ g.amount ∧ ∃ d ∈ l, d.plc = g.plc ∧ d.amount < 0 := by
  obtain ⟨h1, h2⟩ := gross_ok hg
  rw [h2] at h
  have hpos : ∀ d ∈ owedL l, 0 < d.amount := by
    intro d hd
    obtain ⟨x, _, hx, rfl⟩ := owed_mem hd
    show 0 < -x.amount
    omega
  obtain ⟨h3, h4, _⟩ := net_nz h
  have h5 := amts_nonneg hpos g.plc
  refine ⟨by omega, ?_⟩
  obtain ⟨y, hy, e1, e2⟩ := net_mem h
  obtain ⟨x, hx, hx2, rfl⟩ := owed_mem hy
  exact ⟨x, hx, by unfold Due.plc; rw [show x.who = g.who from e1, show x.asset = g.asset from e2], hx2⟩
end Go.Proofs.YtnpinolhhnpniaaGreat
