/- A book that Put made, and what its market's auction trades: plain words (NovateAuction, MarginAuction, SettleAuction). -/
import Derived.Test.YtoachnhdedpbdaaAucG
import Derived.Test.YtoachnhdedpbdaaOd5
import Derived.Test.YtoachnhdedpbdaaNv16
set_option linter.unusedSimpArgs false
set_option linter.unusedVariables false
namespace Go.Proofs.Ytoachnhdedpbdaa
open Go.RowKit Go.Lib Go.Sort Go.Shelf
/-- One more order, if it may be put. -/
def bookS (b : List Ord) (o : Ord) : List Ord := if putOk b o then putL b o else b
/-- Orders of a book: each may be, no number twice. -/
structure BookOk (b : List Ord) : Prop where
  len : b.length ≤ 200
  ok : ∀ o ∈ b, chk o = true
  uni : (b.map (·.number)).Nodup
theorem BookOk.nil : BookOk [] := ⟨by simp, by simp, by simp⟩
theorem putL_perm (l : List Ord) (o : Ord) : (putL l o).Perm (o :: l) := by
  unfold putL
  refine List.perm_middle.trans ?_
  rw [List.take_append_drop]
theorem BookOk.put {b : List Ord} {o : Ord} (h : BookOk b) (ho : putOk b o = true) : BookOk (putL b o) := by
  unfold putOk at ho
  simp only [Bool.and_eq_true, decide_eq_true_eq, Bool.not_eq_true', Option.isSome_eq_false_iff] at ho
  obtain ⟨h1, h2, h3⟩ := ho
  have hp := putL_perm b o
  refine ⟨by rw [hp.length_eq]; simp; omega, fun x hx => ?_, ?_⟩
  · rcases List.mem_cons.1 (hp.mem_iff.1 hx) with rfl | hx
    · exact h1
    · exact h.ok x hx
  · rw [(hp.map _).nodup_iff, List.map_cons, List.nodup_cons]
    refine ⟨fun hm => ?_, h.uni⟩
    obtain ⟨x, hx, e⟩ := List.mem_map.1 hm
    have h3 : b.findIdx? (fun x => x.number == o.number) = none := by simpa using h3
    have := List.findIdx?_eq_none_iff.1 h3 x hx
    simp [e] at this
theorem BookOk.step {b : List Ord} (h : BookOk b) (o : Ord) : BookOk (bookS b o) := by
  unfold bookS
  cases ho : putOk b o with
  | true => exact h.put ho
  | false => exact h
theorem mem_bookS {b : List Ord} {o x : Ord} (h : x ∈ bookS b o) : x = o ∨ x ∈ b := by
  unfold bookS at h
  split at h
  · exact List.mem_cons.1 ((putL_perm b o).mem_iff.1 h)
  · exact .inr h
theorem BookOk.may {b : List Ord} (h : BookOk b) : mayB b = true := by
  rw [mayB_iff]
  refine ⟨h.len, List.all_eq_true.2 fun o ho => ?_⟩
  obtain ⟨p, q, e1, e2, h1, h2, h3, h4, _⟩ := chk_nums (h.ok o ho)
  rw [okOi]
  omega
/-! ### trades -/
theorem fills_nums : ∀ (l : List Ord) (q : Int) (y : Fil), y ∈ fills l q → ∃ o ∈ l, o.number = y.number
  | [], _, y, h => by simp [fills] at h
  | o :: l, q, y, h => by
    unfold fills at h
    split at h
    · simp at h
    · rcases List.mem_cons.1 h with rfl | h
      · exact ⟨o, List.mem_cons_self .., rfl⟩
      · obtain ⟨x, hx, e⟩ := fills_nums l _ y h
        exact ⟨x, List.mem_cons_of_mem _ hx, e⟩
theorem cut_nums {x y : Fil} {n : Int} {a : List Fil} (h : y ∈ (if wrap64 (x.quantity - n) = 0 then a else ⟨x.number, wrap64 (x.quantity - n)⟩ :: a)) : y.number = x.number ∨ y ∈ a := by
  split at h
  · exact .inr h
  · rcases List.mem_cons.1 h with rfl | h
    · exact .inl rfl
    · exact .inr h
theorem pair_nums (p : Int) : ∀ (f : Nat) (a b : List Fil) (t : Trd), t ∈ pair p f a b → (∃ y ∈ a, y.number = t.buy) ∧ ∃ y ∈ b, y.number = t.sell
  | 0, a, b, t, h => by simp [pair] at h
  | f + 1, [], b, t, h => by simp [pair] at h
  | f + 1, x :: a, [], t, h => by simp [pair] at h
  | f + 1, x :: a, y :: b, t, h => by
    unfold pair at h
    rcases List.mem_cons.1 h with rfl | h
    · exact ⟨⟨x, List.mem_cons_self .., rfl⟩, ⟨y, List.mem_cons_self .., rfl⟩⟩
    · obtain ⟨⟨u, hu, e1⟩, ⟨v, hv, e2⟩⟩ := pair_nums p f _ _ t h
      constructor
      · rcases cut_nums hu with e | hu
        · exact ⟨x, List.mem_cons_self .., by rw [← e1, e]⟩
        · exact ⟨u, List.mem_cons_of_mem _ hu, e1⟩
      · rcases cut_nums hv with e | hv
        · exact ⟨y, List.mem_cons_self .., by rw [← e2, e]⟩
        · exact ⟨v, List.mem_cons_of_mem _ hv, e2⟩
theorem trades_nums {b s : List Ord} {t : Trd} (h : t ∈ trades b s) : (∃ o ∈ b, o.number = t.buy) ∧ ∃ o ∈ s, o.number = t.sell := by
  obtain ⟨⟨y, hy, e1⟩, ⟨z, hz, e2⟩⟩ := pair_nums _ _ _ _ t h
  obtain ⟨o, ho, e3⟩ := fills_nums _ _ y hy
  obtain ⟨r, hr, e4⟩ := fills_nums _ _ z hz
  exact ⟨⟨o, (List.mem_filter.1 ho).1, e3.trans e1⟩, ⟨r, (List.mem_filter.1 hr).1, e4.trans e2⟩⟩
theorem qsum_ge {l : List Int} (h : ∀ x ∈ l, 0 ≤ x) : 0 ≤ l.sum := by
  induction l with
  | nil => simp
  | cons x l ih =>
    have := ih (fun y hy => h y (List.mem_cons_of_mem _ hy))
    have := h x (List.mem_cons_self ..)
    rw [List.sum_cons]
    omega
theorem mem_le_sum {l : List Int} (h : ∀ x ∈ l, 0 ≤ x) {y : Int} (hy : y ∈ l) : y ≤ l.sum := by
  induction l with
  | nil => cases hy
  | cons x l ih =>
    have h0 := qsum_ge (fun z hz => h z (List.mem_cons_of_mem _ hz))
    have h1 := h x (List.mem_cons_self ..)
    rw [List.sum_cons]
    rcases List.mem_cons.1 hy with rfl | hy
    · omega
    · have := ih (fun z hz => h z (List.mem_cons_of_mem _ hz)) hy
      omega
theorem qB_ge {t : List Trd} (h : ∀ x ∈ t, 1 ≤ x.quantity) {y : Trd} (hy : y ∈ t) : y.quantity ≤ qB t y.buy := by
  unfold qB
  refine mem_le_sum (fun x hx => ?_) (List.mem_map.2 ⟨y, List.mem_filter.2 ⟨hy, by simp⟩, rfl⟩)
  obtain ⟨z, hz, rfl⟩ := List.mem_map.1 hx
  have := h z (List.mem_filter.1 hz).1
  omega
theorem qS_ge {t : List Trd} (h : ∀ x ∈ t, 1 ≤ x.quantity) {y : Trd} (hy : y ∈ t) : y.quantity ≤ qS t y.sell := by
  unfold qS
  refine mem_le_sum (fun x hx => ?_) (List.mem_map.2 ⟨y, List.mem_filter.2 ⟨hy, by simp⟩, rfl⟩)
  obtain ⟨z, hz, rfl⟩ := List.mem_map.1 hx
  have := h z (List.mem_filter.1 hz).1
  omega
theorem mem_buys {b : List Ord} {mk : ByteArray} {o : Ord} (h : o ∈ buysL b mk) : o ∈ b ∧ o.market = mk ∧ o.buy = true := by
  have h := (st_perm ltB (b.filter (pick mk true))).mem_iff.1 h
  obtain ⟨h1, h2⟩ := List.mem_filter.1 h
  simp [pick] at h2
  exact ⟨h1, h2.1, h2.2⟩
theorem mem_sells {b : List Ord} {mk : ByteArray} {o : Ord} (h : o ∈ sellsL b mk) : o ∈ b ∧ o.market = mk ∧ o.buy = false := by
  have h := (st_perm ltS (b.filter (pick mk false))).mem_iff.1 h
  obtain ⟨h1, h2⟩ := List.mem_filter.1 h
  simp [pick] at h2
  exact ⟨h1, h2.1, h2.2⟩
/-- An order of a book is where its number is first. -/
theorem atN_at {b : List Ord} (h : (b.map (·.number)).Nodup) {o : Ord} (ho : o ∈ b) : ∃ i, atN b o.number = some i ∧ b[i]? = some o := by
  obtain ⟨i, hi, e⟩ := List.mem_iff_getElem.1 ho
  have hio : b[i]? = some o := by rw [List.getElem?_eq_getElem hi, e]
  refine ⟨i, atN_hit b o.number i o hio (by simp) (fun j x hj hx => ?_), hio⟩
  have hjl := (List.getElem?_eq_some_iff.1 hx).1
  have hne := List.pairwise_iff_getElem.1 h j i (by simpa using hjl) (by simpa using hi) hj
  simp only [List.getElem_map] at hne
  rw [(List.getElem?_eq_some_iff.1 hx).2, e] at hne
  exact beq_false_of_ne hne
/-- What a trade of a book's auction is told of its orders. -/
structure TrdOk (b : List Ord) (mk : ByteArray) (t : Trd) (ob os : Ord) : Prop where
  hb : ob ∈ b
  hs : os ∈ b
  nb : ob.number = t.buy
  ns : os.number = t.sell
  mb : ob.market = mk
  ms : os.market = mk
  bb : ob.buy = true
  bs : os.buy = false
  q1 : 1 ≤ t.quantity
  pb : t.price ≤ ob.price
  ps : os.price ≤ t.price
  qb : t.quantity ≤ ob.left
  qs : t.quantity ≤ os.left
theorem trd_ok {b : List Ord} (h : BookOk b) (mk : ByteArray) {t : Trd} (ht : t ∈ trades (buysL b mk) (sellsL b mk)) : ∃ ob os, TrdOk b mk t ob os := by
  obtain ⟨l1, _, l3, l4⟩ := fair_law mk h.may h.uni
  obtain ⟨⟨ob, hob, e1⟩, ⟨os, hos, e2⟩⟩ := trades_nums ht
  have hq : ∀ x ∈ trades (buysL b mk) (sellsL b mk), 1 ≤ x.quantity := fun x hx => (l1 x hx).1
  have g1 := qB_ge hq ht
  have g2 := qS_ge hq ht
  obtain ⟨t1, _, t3⟩ := l1 t ht
  obtain ⟨a1, a2, a3⟩ := mem_buys hob
  obtain ⟨c1, c2, c3⟩ := mem_sells hos
  obtain ⟨i, hi, ei⟩ := List.mem_iff_getElem.1 hob
  obtain ⟨j, hj, ej⟩ := List.mem_iff_getElem.1 hos
  obtain ⟨f1, f2, _⟩ := l3 i ob (by rw [List.getElem?_eq_getElem hi, ei])
  obtain ⟨k1, k2, _⟩ := l4 j os (by rw [List.getElem?_eq_getElem hj, ej])
  unfold qN at f1 f2 k1 k2
  simp only [if_true, Bool.false_eq_true, if_false] at f1 f2 k1 k2
  rw [e1] at f1 f2
  rw [e2] at k1 k2
  have f3 := f2 (by omega)
  have k3 := k2 (by omega)
  exact ⟨ob, os, a1, c1, e1, e2, a2, c2, a3, c3, t1, by omega, by omega, by omega, by omega⟩
theorem TrdOk.fits {b : List Ord} {mk : ByteArray} {t : Trd} {ob os : Ord} (h : TrdOk b mk t ob os) (hB : BookOk b) : fitsP t ob os = true := by
  have h1 := hB.ok ob h.hb
  have h2 := hB.ok os h.hs
  unfold chk at h1 h2
  unfold fitsP fit1
  rw [h1, h2, decide_eq_true h.qb, decide_eq_true h.qs, h.bb, h.bs, decide_eq_true h.nb.symm, decide_eq_true h.ns.symm, decide_eq_true (h.mb.trans h.ms.symm), decide_eq_true h.q1, decide_eq_true h.pb]
  simp [h.ps]
theorem TrdOk.dues {b : List Ord} {mk : ByteArray} {t : Trd} {ob os : Ord} (h : TrdOk b mk t ob os) (hB : BookOk b) : duesAt t b = some (duesL t ob os) := by
  obtain ⟨i, h1, h2⟩ := atN_at hB.uni h.hb
  obtain ⟨k, h3, h4⟩ := atN_at hB.uni h.hs
  rw [h.nb] at h1
  rw [h.ns] at h3
  rw [duesAt_eq h1 h3 h2 h4, if_pos (h.fits hB)]
/-! ### dues of the auction -/
def thgL (D : List Due) (a : ByteArray) : List Int := (D.filter fun d => decide (d.asset = a)).map Due.amount
theorem thg_app (D E : List Due) (a : ByteArray) : thgL (D ++ E) a = thgL D a ++ thgL E a := by simp [thgL, List.filter_append]
/-- What the dues of an auction's trades are. -/
structure DuesOk (mk : ByteArray) (D : List Due) : Prop where
  ass : ∀ d ∈ D, d.asset = headB mk ∨ d.asset = tailB mk
  rng : ∀ d ∈ D, -1000000000000 ≤ d.amount ∧ d.amount ≤ 1000000000000
  sa : (thgL D (headB mk)).sum = 0
  sc : (thgL D (tailB mk)).sum = 0
  mkt : D = [] ∨ marketB mk = true
theorem mkt_ne {mk : ByteArray} (h : marketB mk = true) : headB mk ≠ tailB mk := by
  unfold marketB at h
  simp only [Bool.and_eq_true, Bool.not_eq_true', decide_eq_false_iff_not] at h
  intro e
  first
    | exact h.2.2 e
    | exact h.2.2.2 e
    | exact h.2 e
theorem dues_one {mk : ByteArray} {b : List Ord} {t : Trd} {ob os : Ord} (h : TrdOk b mk t ob os) (hB : BookOk b) : DuesOk mk (duesL t ob os) := by
  obtain ⟨p, q, e1, e2, h1, h2, h3⟩ := fitsP_nums (h.fits hB)
  have hm : marketB mk = true := by rw [← h.mb]; exact h3
  have hne := mkt_ne hm
  have hpq : t.price * t.quantity = ((p * q : Nat) : Int) := by rw [e1, e2]; simp
  have hle : p * q ≤ 1000000 * 1000000 := Nat.mul_le_mul h1 h2
  obtain ⟨x, hx⟩ : ∃ x : Int, t.price * t.quantity = x := ⟨_, rfl⟩
  rw [hx] at hpq
  have hd : duesL t ob os = [⟨ob.who, headB mk, t.quantity⟩, ⟨ob.who, tailB mk, -x⟩, ⟨os.who, headB mk, -t.quantity⟩, ⟨os.who, tailB mk, x⟩] := by
    unfold duesL twoD
    rw [h.mb, hx]
    rfl
  rw [hd]
  refine ⟨?_, ?_, ?_, ?_, .inr hm⟩
  · intro d hd
    simp only [List.mem_cons, List.mem_nil_iff, or_false] at hd
    rcases hd with rfl | rfl | rfl | rfl <;> simp
  · intro d hd
    simp only [List.mem_cons, List.mem_nil_iff, or_false] at hd
    rcases hd with rfl | rfl | rfl | rfl <;> simp only <;> omega
  · simp [thgL, List.filter_cons, hne.symm]
    omega
  · simp [thgL, List.filter_cons, hne]
    omega
theorem DuesOk.app {mk : ByteArray} {D E : List Due} (h : DuesOk mk D) (k : DuesOk mk E) : DuesOk mk (D ++ E) := by
  refine ⟨fun d hd => ?_, fun d hd => ?_, by rw [thg_app, List.sum_append, h.sa, k.sa]; rfl, by rw [thg_app, List.sum_append, h.sc, k.sc]; rfl, ?_⟩
  · rcases List.mem_append.1 hd with hd | hd
    · exact h.ass d hd
    · exact k.ass d hd
  · rcases List.mem_append.1 hd with hd | hd
    · exact h.rng d hd
    · exact k.rng d hd
  · rcases h.mkt with h1 | h1
    · rcases k.mkt with h2 | h2
      · exact .inl (by rw [h1, h2]; rfl)
      · exact .inr h2
    · exact .inr h1
theorem DuesOk.nil (mk : ByteArray) : DuesOk mk [] := ⟨by simp, by simp, rfl, rfl, .inl rfl⟩
/-- All trades of an auction have dues. -/
theorem auction_dues {b : List Ord} (h : BookOk b) (mk : ByteArray) : ∀ ts : List Trd, (∀ t ∈ ts, t ∈ trades (buysL b mk) (sellsL b mk)) → ∃ D, allD ts b = some D ∧ DuesOk mk D
  | [], _ => ⟨[], rfl, DuesOk.nil mk⟩
  | t :: ts, ht => by
    obtain ⟨D, hD, hok⟩ := auction_dues h mk ts (fun x hx => ht x (List.mem_cons_of_mem _ hx))
    obtain ⟨ob, os, hto⟩ := trd_ok h mk (ht t (List.mem_cons_self ..))
    refine ⟨duesL t ob os ++ D, ?_, (dues_one hto h).app hok⟩
    unfold allD
    rw [hto.dues h, hD]
    rfl
/-- The number of an auction's trades. -/
theorem trades_len (b s : List Ord) : (trades b s).length ≤ b.length + s.length := by
  refine Nat.le_trans (pair_len _ _ _ _) ?_
  have h1 := fills_len (highs b (price b s).1) (price b s).2
  have h2 := fills_len (lows s (price b s).1) (price b s).2
  have h3 := highs_len b (price b s).1
  have h4 := lows_len s (price b s).1
  unfold tradesA tradesB
  omega
theorem buys_len (b : List Ord) (mk : ByteArray) : (buysL b mk).length ≤ b.length := by
  unfold buysL
  rw [(st_perm _ _).length_eq]
  exact List.length_filter_le _ _
theorem sells_len (b : List Ord) (mk : ByteArray) : (sellsL b mk).length ≤ b.length := by
  unfold sellsL
  rw [(st_perm _ _).length_eq]
  exact List.length_filter_le _ _
end Go.Proofs.Ytoachnhdedpbdaa
