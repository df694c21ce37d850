/- auction.Trades: what it answers. -/
import Derived.Test.YtoachnhdedpbdaaAuc2
import Derived.Test.YtoachnhdedpbdaaTails
set_option linter.unusedSimpArgs false
set_option linter.unusedVariables false
namespace Go.Proofs.Ytoachnhdedpbdaa
open Go.RowKit

/-- What two lists of fills trade, in turn. -/
def pair (p : Int) : Nat → List Fil → List Fil → List Trd
  | f + 1, x :: a, y :: b =>
    ⟨x.number, y.number, min x.quantity y.quantity, p⟩ ::
      pair p f (if wrap64 (x.quantity - min x.quantity y.quantity) = 0 then a else ⟨x.number, wrap64 (x.quantity - min x.quantity y.quantity)⟩ :: a)
        (if wrap64 (y.quantity - min x.quantity y.quantity) = 0 then b else ⟨y.number, wrap64 (y.quantity - min x.quantity y.quantity)⟩ :: b)
  | _, _, _ => []
theorem wrap0 (x : Int) : wrap64 (x - x) = 0 := by unfold wrap64; omega
theorem pair_len (p : Int) : ∀ f a b, (pair p f a b).length ≤ f
  | 0, _, _ => by simp [pair]
  | f + 1, [], _ => by simp [pair]
  | f + 1, _ :: _, [] => by simp [pair]
  | f + 1, x :: a, y :: b => by
    simp only [pair, List.length_cons]
    exact Nat.succ_le_succ (pair_len p f _ _)
def tradesA (l1 l2 : List Ord) : List Fil := fills (highs l1 (price l1 l2).1) (price l1 l2).2
def tradesB (l1 l2 : List Ord) : List Fil := fills (lows l2 (price l1 l2).1) (price l1 l2).2
def trades (l1 l2 : List Ord) : List Trd := pair (price l1 l2).1 ((tradesA l1 l2).length + (tradesB l1 l2).length) (tradesA l1 l2) (tradesB l1 l2)
theorem fills_len : ∀ (l : List Ord) (q : Int), (fills l q).length ≤ l.length
  | [], _ => by simp [fills]
  | o :: l, q => by
    unfold fills
    split
    · simp
    · simp only [List.length_cons]
      exact Nat.succ_le_succ (fills_len l _)
theorem highs_len (l : List Ord) (p : Int) : (highs l p).length ≤ l.length := List.length_filter_le _ _
theorem lows_len (l : List Ord) (p : Int) : (lows l p).length ≤ l.length := List.length_filter_le _ _

/-- What holds at each round's head. -/
def Rel (w : World) (p : Int) (all : List Trd) (o x y : Value) (wr : World) (m : Nat) : Prop :=
  ∃ out f a b ga gb, Own trdT wr w.heap.size o out ∧ Tl filT wr ga x a ∧ Tl filT wr gb y b ∧ all = out ++ pair p f a b ∧ a.length + b.length ≤ f ∧ m = a.length + b.length ∧ all.length ≤ 2199023255552 ∧
    (a ≠ [] → w.heap.size ≤ ga) ∧ (b ≠ [] → w.heap.size ≤ gb) ∧ (a ≠ [] → b ≠ [] → ga ≠ gb) ∧ (a ≠ [] → o.ownBlock ≠ some ga) ∧ (b ≠ [] → o.ownBlock ≠ some gb) ∧ Bel w wr

theorem Rel.step {w w1 : World} {p : Int} {all out : List Trd} {o1 : Value} {f ga gb oa ob na nb ca cb : Nat} {x y : Fil} {a b : List Fil} {n qa qb : Int}
    (hO1 : Own trdT w1 w.heap.size o1 (out ++ [⟨x.number, y.number, n, p⟩])) (ta : Tl filT w1 ga (.slice (some ⟨ga, oa, none⟩) na ca) (x :: a)) (tb : Tl filT w1 gb (.slice (some ⟨gb, ob, none⟩) nb cb) (y :: b))
    (hab : ga ≠ gb) (hga : w.heap.size ≤ ga) (hgb : w.heap.size ≤ gb) (hoa : o1.ownBlock ≠ some ga) (hob : o1.ownBlock ≠ some gb) (hb : Bel w w1)
    (hall : all = out ++ pair p f (x :: a) (y :: b)) (hf : (x :: a).length + (y :: b).length ≤ f) (hmax : all.length ≤ 2199023255552)
    (hn : min x.quantity y.quantity = n) (hqa : wrap64 (x.quantity - n) = qa) (hqb : wrap64 (y.quantity - n) = qb) (hz : qa = 0 ∨ qb = 0) :
    ∃ m, Rel w p all o1 (if qa = 0 then tailV 2 (.slice (some ⟨ga, oa, none⟩) na ca) else .slice (some ⟨ga, oa, none⟩) na ca) (if qb = 0 then tailV 2 (.slice (some ⟨gb, ob, none⟩) nb cb) else .slice (some ⟨gb, ob, none⟩) nb cb)
      ((w1.setCell ⟨ga, oa + 1, none⟩ (.int .i64 qa)).setCell ⟨gb, ob + 1, none⟩ (.int .i64 qb)) m ∧ m < (x :: a).length + (y :: b).length := by
  obtain ⟨f, rfl⟩ : ∃ m, f = m + 1 := ⟨f - 1, by simp only [List.length_cons] at hf; omega⟩
  have ta2 := (ta.setHead (x' := ⟨x.number, qa⟩) 1 (.int .i64 qa) (by decide) rfl).setFar (p := ⟨gb, ob + 1, none⟩) hab (.int .i64 qb)
  have tb2 := (tb.setFar (p := ⟨ga, oa + 1, none⟩) (Ne.symm hab) (.int .i64 qa)).setHead (x' := ⟨y.number, qb⟩) 1 (.int .i64 qb) (by decide) rfl
  have hO2 : Own trdT ((w1.setCell ⟨ga, oa + 1, none⟩ (.int .i64 qa)).setCell ⟨gb, ob + 1, none⟩ (.int .i64 qb)) w.heap.size o1 (out ++ [⟨x.number, y.number, n, p⟩]) :=
    ownsRow_setCell_other (ownsRow_setCell_other hO1 hoa _) hob _
  have hb2 : Bel w ((w1.setCell ⟨ga, oa + 1, none⟩ (.int .i64 qa)).setCell ⟨gb, ob + 1, none⟩ (.int .i64 qb)) := (hb.set_ (p := ⟨ga, oa + 1, none⟩) hga _).set_ (p := ⟨gb, ob + 1, none⟩) hgb _
  have hpair : all = (out ++ [⟨x.number, y.number, n, p⟩]) ++ pair p f (if qa = 0 then a else ⟨x.number, qa⟩ :: a) (if qb = 0 then b else ⟨y.number, qb⟩ :: b) := by
    rw [hall, pair, hn, hqa, hqb]
    simp
  refine ⟨_, ⟨out ++ [⟨x.number, y.number, n, p⟩], f, (if qa = 0 then a else ⟨x.number, qa⟩ :: a), (if qb = 0 then b else ⟨y.number, qb⟩ :: b), ga, gb, hO2, ?_, ?_, hpair, ?_, rfl, hmax, fun _ => hga, fun _ => hgb, fun _ _ => hab, fun _ => hoa, fun _ => hob, hb2⟩, ?_⟩
  · split
    · exact ta2.tail
    · exact ta2
  · split
    · exact tb2.tail
    · exact tb2
  · simp only [List.length_cons] at hf
    rcases hz with h | h
    · rw [if_pos h]; split <;> (try simp only [List.length_cons]) <;> omega
    · rw [if_pos h]; split <;> (try simp only [List.length_cons]) <;> omega
  · simp only [List.length_cons]
    rcases hz with h | h
    · rw [if_pos h]; split <;> (try simp only [List.length_cons]) <;> omega
    · rw [if_pos h]; split <;> (try simp only [List.length_cons]) <;> omega

theorem Rel.len_ {w wr : World} {p : Int} {all : List Trd} {o x y : Value} {m : Nat} (h : Rel w p all o x y wr m) : lenOf x + lenOf y = m := by
  obtain ⟨out, f, a, b, ga, gb, _, ta, tb, _, _, hm, _⟩ := h
  rw [ta.len_, tb.len_, hm]

set_option maxHeartbeats 4000000 in
theorem trades_any (A1 A2 : Option Addr) (n1 c1 n2 c2 : Nat) (l1 l2 : List Ord) (w : World) (h1 : Row ordT w A1 n1 l1) (h2 : Row ordT w A2 n2 l2) (hs1 : n1 ≤ 1000000) (hs2 : n2 ≤ 1000000) :
    Calls Try.prog 10 #[.slice A1 n1 c1, .slice A2 n2 c2] w fun e w' => ∃ v, e = .returned (.tuple #[v, .int .i64 (price l1 l2).1]) ∧ Own trdT w' w.heap.size v (trades l1 l2) ∧ Bel w w' := by
  go_enter Try.func10, Try.ntmps10
  go_wp2_with fail
  refine (price_any A1 A2 n1 c1 n2 c2 l1 l2 _ h1 h2 (by omega) (by omega)).mono ?_
  rintro e w1 ⟨rfl, hb1⟩
  go_wp2_with fail
  refine (halves_any A1 A2 n1 c1 n2 c2 l1 l2 (price l1 l2).1 _ (h1.bel hb1) (h2.bel hb1) (by omega) (by omega)).mono ?_
  rintro e w2 ⟨v1, v2, rfl, o1, o2, hne, hb2⟩
  obtain ⟨X1, k1, rfl, _, r1⟩ := o1.reads
  obtain ⟨X2, k2, rfl, _, r2⟩ := o2.reads
  have hlh := highs_len l1 (price l1 l2).1
  have hll := lows_len l2 (price l1 l2).1
  rw [h1.1] at hlh
  rw [h2.1] at hll
  go_wp2_with fail
  refine (fills_any X1 _ k1 (highs l1 (price l1 l2).1) (price l1 l2).2 _ r1 (by omega)).mono ?_
  rintro e w3 ⟨v3, rfl, o3, hb3⟩
  go_wp2_with fail
  refine (fills_any X2 _ k2 (lows l2 (price l1 l2).1) (price l1 l2).2 _ (r2.bel hb3) (by omega)).mono ?_
  rintro e w4 ⟨v4, rfl, o4, hb4⟩
  have hne34 : NeRow v4 v3 := NeRow.later o4 o3
  have o3' := o3.bel hb4
  have hbel := ((hb1.trans hb2).trans hb3).trans hb4
  obtain ⟨ga, t3, g3⟩ := o3'.tl
  obtain ⟨gb, t4, g4⟩ := o4.tl
  have hla := fills_len (highs l1 (price l1 l2).1) (price l1 l2).2
  have hlb := fills_len (lows l2 (price l1 l2).1) (price l1 l2).2
  obtain ⟨X3, k3, rfl, _⟩ := t3.slice_
  obtain ⟨X4, k4, rfl, _⟩ := t4.slice_
  have hsz1 := hb1.size_
  have hsz2 := hb2.size_
  have hsz3 := hb3.size_
  have hR : Rel w (price l1 l2).1 (trades l1 l2) (.slice none 0 0) (.slice X3 (fills (highs l1 (price l1 l2).1) (price l1 l2).2).length k3) (.slice X4 (fills (lows l2 (price l1 l2).1) (price l1 l2).2).length k4) w4 ((tradesA l1 l2).length + (tradesB l1 l2).length) := by
    refine ⟨[], _, tradesA l1 l2, tradesB l1 l2, ga, gb, Own.nil_ _ _ _, t3, t4, rfl, Nat.le_refl _, rfl, ?_, fun h => ?_, fun h => ?_, fun h h' => ?_, fun h => by simp [Value.ownBlock], fun h => by simp [Value.ownBlock], hbel⟩
    · have := pair_len (price l1 l2).1 ((tradesA l1 l2).length + (tradesB l1 l2).length) (tradesA l1 l2) (tradesB l1 l2)
      unfold trades
      have e1 : (tradesA l1 l2).length ≤ 1000000 := Nat.le_trans hla (by omega)
      have e2 : (tradesB l1 l2).length ≤ 1000000 := Nat.le_trans hlb (by omega)
      omega
    · have := (g3 h).1; omega
    · have := (g4 h).1; omega
    · intro e
      subst e
      exact hne34 ga (g4 h').2.2 (g3 h).2.2
  clear o1 o2 hne r1 r2 o3 o4 t3 t4 g3 g4 hne34 o3' hla hlb hlh hll hb1 hb2 hb3 hb4 h1 h2
  go_wp2_with fail
  go_loopw [4, 9, 10, 11] (fun o x y _ wr => ∃ m : Nat, Rel w (price l1 l2).1 (trades l1 l2) o x y wr m) (fun _ x y _ _ => lenOf x + lenOf y)
  case atStart => exact ⟨_, hR⟩
  case round =>
    obtain ⟨m, out, f, a, b, ga, gb, hO, ta, tb, hall, hf, hm, hmax, ga1, gb1, hab, hoa, hob, hbr⟩ := hrel
    obtain ⟨all, hal⟩ : ∃ all, trades l1 l2 = all := ⟨_, rfl⟩; rw [hal] at hall hmax
    rcases a with _ | ⟨x, a⟩
    · obtain ⟨A, c, rfl, _⟩ := ta.slice_
      obtain ⟨B, d, rfl, _⟩ := tb.slice_
      have he : all = out := by rw [hall]; cases f <;> simp [pair]
      rw [← he, ← hal] at hO
      have HO := hid_ hO
      clear hO hall he hal ta tb hab ga1 gb1 hoa hob
      go_wp2
      go_ret2
      exact ⟨_, rfl, HO.out, hbr⟩
    · rcases b with _ | ⟨y, b⟩
      · obtain ⟨A, c, rfl, _⟩ := ta.slice_
        obtain ⟨B, d, rfl, _⟩ := tb.slice_
        have he : all = out := by rw [hall]; cases f <;> simp [pair]
        rw [← he, ← hal] at hO
        have HO := hid_ hO
        clear hO hall he hal ta tb hab ga1 gb1 hoa hob
        go_wp2
        go_ret2
        exact ⟨_, rfl, HO.out, hbr⟩
      · obtain ⟨oa, ca, rfl, hca, cella, fra⟩ := ta.head
        obtain ⟨ob, cb, rfl, hcb, cellb, frb⟩ := tb.head
        have ca0 := cella 0 _ rfl
        have ca1 := cella 1 _ rfl
        have cb0 := cellb 0 _ rfl
        have cb1 := cellb 1 _ rfl
        clear cella cellb
        simp only [Nat.add_zero] at ca0 cb0
        have hla : lenOf (.slice (some ⟨ga, oa, none⟩) (a.length + 1) ca) = a.length + 1 := rfl
        have hlb : lenOf (.slice (some ⟨gb, ob, none⟩) (b.length + 1) cb) = b.length + 1 := rfl
        have hgab := hab (by simp) (by simp)
        have hga := ga1 (by simp)
        have hgb := gb1 (by simp)
        have hoa' := hoa (by simp)
        have hob' := hob (by simp)
        have hlta := ta.lt_ (by simp)
        have hltb := tb.lt_ (by simp)
        have hta := ta.tailRun filS
        have htb := tb.tailRun filS
        have hlen : (out.length + 1) * 32 ≤ 140737488355328 := by
          have : out.length ≤ all.length := by rw [hall, List.length_append]; omega
          omega
        clear hab ga1 gb1 hoa hob
        obtain ⟨f, rfl⟩ : ∃ m, f = m := ⟨f, rfl⟩
        have hrun := fun (w1 : World) (o1 : Value) (n : Int) (hO1 : Own trdT w1 w.heap.size o1 (out ++ [⟨x.number, y.number, n, (price l1 l2).1⟩])) (hb1 : Bel w w1) (W : World) (hW : Bel wr W) (hg1 : W.grownBy w1 u4.ownBlock) (hat : o1.ownBlock = u4.ownBlock ∨ ∃ b, o1.ownBlock = some b ∧ W.heap.size ≤ b) (qa qb : Int) (hn : min x.quantity y.quantity = n) (hqa : wrap64 (x.quantity - n) = qa) (hqb : wrap64 (y.quantity - n) = qb) (hz : qa = 0 ∨ qb = 0) =>
          Rel.step hO1 ((ta.bel hW).grown hg1 (Ne.symm hoa')) ((tb.bel hW).grown hg1 (Ne.symm hob')) hgab hga hgb
            (by rcases hat with h | ⟨b, h, hle⟩ <;> rw [h]; exact hoa'; intro e; injection e with e; have := hW.size_; omega)
            (by rcases hat with h | ⟨b, h, hle⟩ <;> rw [h]; exact hob'; intro e; injection e with e; have := hW.size_; omega)
            hb1 hall hf hmax hn hqa hqb hz
        have HR := hid_ hrun
        clear hrun
        by_cases hlt : y.quantity < x.quantity
        · have hn : min x.quantity y.quantity = y.quantity := by omega
          obtain ⟨qa, hqa⟩ : ∃ qa, wrap64 (x.quantity - y.quantity) = qa := ⟨_, rfl⟩
          have h00 := wrap0 y.quantity
          go_wp2_with fail
          go_region_held3 (fun W => W.cell? ⟨ga, oa + 1, none⟩ = some (.int .i64 x.quantity) ∧ W.cell? ⟨gb, ob + 1, none⟩ = some (.int .i64 y.quantity)) (exact ⟨(Bel.refl wr).drew.cell_ ca1, (Bel.refl wr).drew.cell_ cb1⟩) (fail)
          go_wp2_with fail
          go_region_held3 (fun W => W.cell? ⟨ga, oa, none⟩ = some (.int .u64 x.number) ∧ W.cell? ⟨gb, ob, none⟩ = some (.int .u64 y.number)) (first | exact ⟨(Bel.refl wr).drew.drew.cell_ ca0, (Bel.refl wr).drew.drew.cell_ cb0⟩ | exact ⟨((Bel.refl wr).drew.drew.alloc _).cell_ ca0, ((Bel.refl wr).drew.drew.alloc _).cell_ cb0⟩ | exact ⟨da0, db0⟩)
            (first | (refine stepApp (w0 := w) trdS rfl _ _ rfl _ out [⟨x.number, y.number, y.quantity, (price l1 l2).1⟩] (some ⟨wr.heap.size, 0, none⟩) 1 1 rfl rfl (hO.bel ((Bel.refl _).drew.drew.alloc _)) (Row.one (T := trdT) _ rfl rfl) (hbr.drew.drew.alloc _) hlen ?_; intro v1 w1 hO1 hb1 hg1 hat1; have da0 := (hg1.cell (((Bel.refl wr).drew.drew.alloc _).cell_ ca0) (Ne.symm hoa')); have db0 := (hg1.cell (((Bel.refl wr).drew.drew.alloc _).cell_ cb0) (Ne.symm hob'))))
          have hW : Bel wr (wr.drew.drew.alloc (.cells #[.int .u64 x.number, .int .u64 y.number, .int .i64 y.quantity, .int .i64 (price l1 l2).1] 65)) := (Bel.refl wr).drew.drew.alloc _
          obtain ⟨mm, hRel, hmm⟩ := HR.out w1 v1 y.quantity hO1 hb1 _ hW hg1 hat1 (qa) (0) hn hqa h00 (.inr rfl)
          have t1a := (ta.bel hW).grown hg1 (Ne.symm hoa')
          have t1b := (tb.bel hW).grown hg1 (Ne.symm hob')
          have t2b := t1b.setFar (p := ⟨ga, oa + 1, none⟩) (Ne.symm hgab) (.int .i64 (qa))
          have t2a := (t1a.setHead (x' := ⟨x.number, qa⟩) 1 (.int .i64 (qa)) (by decide) rfl).setFar (p := ⟨gb, ob + 1, none⟩) hgab (.int .i64 (0))
          have t3b := t2b.setHead (x' := ⟨y.number, 0⟩) 1 (.int .i64 (0)) (by decide) rfl
          have g1 := t1a.headAt.1 1 _ rfl
          have g2 := t1a.headAt.2 1
          have g3 := t2b.headAt.1 1 _ rfl
          have g4 := t2b.headAt.2 1
          have g5 := t2a.headAt.1 1 _ rfl
          have g6 := t3b.headAt.1 1 _ rfl
          have HRel := hid_ hRel
          have HO1 : Hid (Own trdT w1 w.heap.size v1 (out ++ [⟨x.number, y.number, y.quantity, (price l1 l2).1⟩])) := hO1
          clear hRel hO1 hg1 hat1 da0 db0 t1a t1b t2a t2b t3b hW ta tb hO hoa' hob' HR ca0 ca1 cb0 cb1 fra frb hmax hall hf
          by_cases hz : qa = 0
          · subst hz
            have HX := HRel.out
            rw [if_pos rfl, if_pos rfl] at HX
            have HL := Rel.len_ HX
            have HY := hid_ HX
            have HM := hid_ HL
            clear HX HL
            go_wp2
            case roundEnd =>
              go_roundw
              case rel => exact ⟨mm, by rw [hal]; exact HY.out⟩
              case measure => have e1 := HM.out; rw [← e1] at hmm; exact hmm
          · have hz' : (qa == 0) = false := beq_false_of_ne hz
            have HX := HRel.out
            rw [if_neg hz, if_pos rfl] at HX
            have HL := Rel.len_ HX
            have HY := hid_ HX
            have HM := hid_ HL
            clear HX HL
            go_wp2
            case roundEnd =>
              go_roundw
              case rel => exact ⟨mm, by rw [hal]; exact HY.out⟩
              case measure => have e1 := HM.out; rw [← e1] at hmm; exact hmm
        · have hn : min x.quantity y.quantity = x.quantity := by omega
          obtain ⟨qb, hqb⟩ : ∃ qb, wrap64 (y.quantity - x.quantity) = qb := ⟨_, rfl⟩
          have h00 := wrap0 x.quantity
          go_wp2_with fail
          go_region_held3 (fun W => W.cell? ⟨ga, oa + 1, none⟩ = some (.int .i64 x.quantity) ∧ W.cell? ⟨gb, ob + 1, none⟩ = some (.int .i64 y.quantity)) (exact ⟨(Bel.refl wr).drew.cell_ ca1, (Bel.refl wr).drew.cell_ cb1⟩) (fail)
          go_wp2_with fail
          go_region_held3 (fun W => W.cell? ⟨ga, oa, none⟩ = some (.int .u64 x.number) ∧ W.cell? ⟨gb, ob, none⟩ = some (.int .u64 y.number)) (first | exact ⟨(Bel.refl wr).drew.drew.cell_ ca0, (Bel.refl wr).drew.drew.cell_ cb0⟩ | exact ⟨((Bel.refl wr).drew.drew.alloc _).cell_ ca0, ((Bel.refl wr).drew.drew.alloc _).cell_ cb0⟩ | exact ⟨da0, db0⟩)
            (first | (refine stepApp (w0 := w) trdS rfl _ _ rfl _ out [⟨x.number, y.number, x.quantity, (price l1 l2).1⟩] (some ⟨wr.heap.size, 0, none⟩) 1 1 rfl rfl (hO.bel ((Bel.refl _).drew.drew.alloc _)) (Row.one (T := trdT) _ rfl rfl) (hbr.drew.drew.alloc _) hlen ?_; intro v1 w1 hO1 hb1 hg1 hat1; have da0 := (hg1.cell (((Bel.refl wr).drew.drew.alloc _).cell_ ca0) (Ne.symm hoa')); have db0 := (hg1.cell (((Bel.refl wr).drew.drew.alloc _).cell_ cb0) (Ne.symm hob'))))
          have hW : Bel wr (wr.drew.drew.alloc (.cells #[.int .u64 x.number, .int .u64 y.number, .int .i64 x.quantity, .int .i64 (price l1 l2).1] 65)) := (Bel.refl wr).drew.drew.alloc _
          obtain ⟨mm, hRel, hmm⟩ := HR.out w1 v1 x.quantity hO1 hb1 _ hW hg1 hat1 (0) (qb) hn h00 hqb (.inl rfl)
          have t1a := (ta.bel hW).grown hg1 (Ne.symm hoa')
          have t1b := (tb.bel hW).grown hg1 (Ne.symm hob')
          have t2b := t1b.setFar (p := ⟨ga, oa + 1, none⟩) (Ne.symm hgab) (.int .i64 (0))
          have t2a := (t1a.setHead (x' := ⟨x.number, 0⟩) 1 (.int .i64 (0)) (by decide) rfl).setFar (p := ⟨gb, ob + 1, none⟩) hgab (.int .i64 (qb))
          have t3b := t2b.setHead (x' := ⟨y.number, qb⟩) 1 (.int .i64 (qb)) (by decide) rfl
          have g1 := t1a.headAt.1 1 _ rfl
          have g2 := t1a.headAt.2 1
          have g3 := t2b.headAt.1 1 _ rfl
          have g4 := t2b.headAt.2 1
          have g5 := t2a.headAt.1 1 _ rfl
          have g6 := t3b.headAt.1 1 _ rfl
          have HRel := hid_ hRel
          have HO1 : Hid (Own trdT w1 w.heap.size v1 (out ++ [⟨x.number, y.number, x.quantity, (price l1 l2).1⟩])) := hO1
          clear hRel hO1 hg1 hat1 da0 db0 t1a t1b t2a t2b t3b hW ta tb hO hoa' hob' HR ca0 ca1 cb0 cb1 fra frb hmax hall hf
          by_cases hz : qb = 0
          · subst hz
            have HX := HRel.out
            rw [if_pos rfl, if_pos rfl] at HX
            have HL := Rel.len_ HX
            have HY := hid_ HX
            have HM := hid_ HL
            clear HX HL
            go_wp2
            case roundEnd =>
              go_roundw
              case rel => exact ⟨mm, by rw [hal]; exact HY.out⟩
              case measure => have e1 := HM.out; rw [← e1] at hmm; exact hmm
          · have hz' : (qb == 0) = false := beq_false_of_ne hz
            have HX := HRel.out
            rw [if_pos rfl, if_neg hz] at HX
            have HL := Rel.len_ HX
            have HY := hid_ HX
            have HM := hid_ HL
            clear HX HL
            go_wp2
            case roundEnd =>
              go_roundw
              case rel => exact ⟨mm, by rw [hal]; exact HY.out⟩
              case measure => have e1 := HM.out; rw [← e1] at hmm; exact hmm
end Go.Proofs.Ytoachnhdedpbdaa
