/- auction.all's closure, all, least, halves, Volume: what they answer. -/
import Derived.Test.YtoachnhdedpbdaaTyOrd
set_option linter.unusedSimpArgs false
set_option linter.unusedVariables false
namespace Go.Proofs.Ytoachnhdedpbdaa
open Go.RowKit

/-- The sum of what is left, as the machine sums. -/
def wsum (l : List Ord) : Int := l.foldl (fun n o => wrap64 (n + o.left)) 0
theorem wsum_take (l : List Ord) (k : Nat) {o : Ord} (h : l[k]? = some o) : wsum (l.take (k + 1)) = wrap64 (wsum (l.take k) + o.left) := by
  rw [List.take_add_one, h]
  simp [wsum, List.foldl_append]

set_option maxHeartbeats 1000000 in
theorem allC_any (b : Nat) (A : Option Addr) (n c : Nat) (l : List Ord) (w : World) (hb : w.cell? ⟨b, 0, none⟩ = some (.slice A n c)) (hl : Row ordT w A n l) :
    Calls Try.prog 110 #[.pointer (some ⟨b, 0, none⟩)] w fun e w' => e = .returned (.int .i64 (wsum l)) ∧ Bel w w' := by
  have hn := hl.2.1
  go_enter Try.func110, Try.ntmps110
  go_wp2
  go_loopw [1, 3, 6] (fun s _ i wr => ∃ k : Nat, k ≤ n ∧ i = .int .i64 k ∧ s = .int .i64 (wsum (l.take k)) ∧ Bel w wr) (fun _ _ i _ => n - (intOf i).toNat)
  case atStart => exact ⟨0, by omega, rfl, rfl, Bel.refl _⟩
  case round =>
    obtain ⟨k, hk, rfl, rfl, hbr⟩ := hrel
    by_cases hkn : k < n
    · obtain ⟨ad, number, who, market, buy, price, left, rfl, ho, c0, c1, c2, c3, c4, c5⟩ := (hl.bel hbr).ord hkn
      have hs := wsum_take l k ho
      simp only at hs
      go_wp2
      case roundEnd =>
        go_roundw
        case rel => exact ⟨k + 1, by omega, by go_num, by rw [hs], hbr.alloc _⟩
        case measure => simp [intOf]; omega
    · have : k = n := by omega
      subst this
      have hfull : l.take k = l := by rw [← hl.1, List.take_length]
      rw [hfull]
      go_wp2
      go_ret
      exact ⟨rfl, hbr⟩

set_option maxHeartbeats 1000000 in
/-- 'all': a closure over a box of its own. -/
theorem allLeft_any (A : Option Addr) (n c : Nat) (w : World) :
    Calls Try.prog 98 #[.slice A n c] w fun e w' => e = .returned (.func (.func 110) #[] #[.pointer (some ⟨w.heap.size, 0, none⟩)]) ∧ w' = w.alloc (.cells #[.slice A n c] 22) := by
  have hmf : ∀ (fn : Fn) (first cap : Array Value) (w : World), (Instr.makeFunc fn first cap).run Try.prog w = .ok (.func fn first cap) w := fun _ _ _ _ => rfl
  go_enter Try.func98, Try.ntmps98
  go_wp2
  go_ret
  exact ⟨rfl, rfl⟩

theorem mn_eq (a b : Int) : (if a ≤ b then a else b) = min a b := by omega

set_option maxHeartbeats 1000000 in
/-- 'least' of two sums. -/
theorem least_two (b1 b2 : Nat) (A1 A2 : Option Addr) (n1 k1 n2 k2 : Nat) (l1 l2 : List Ord) (g : Nat) (w : World)
    (hb1 : w.cell? ⟨b1, 0, none⟩ = some (.slice A1 n1 k1)) (hb2 : w.cell? ⟨b2, 0, none⟩ = some (.slice A2 n2 k2)) (hl1 : Row ordT w A1 n1 l1) (hl2 : Row ordT w A2 n2 l2)
    (hc1 : w.cell? ⟨g, 0, none⟩ = some (.func (.func 110) #[] #[.pointer (some ⟨b1, 0, none⟩)])) (hc2 : w.cell? ⟨g, 1, none⟩ = some (.func (.func 110) #[] #[.pointer (some ⟨b2, 0, none⟩)])) :
    Calls Try.prog 97 #[.slice (some ⟨g, 0, none⟩) 2 2] w fun e w' => e = .returned (.int .i64 (min (wsum l1) (wsum l2))) ∧ Bel w w' := by
  go_enter Try.func97, Try.ntmps97
  go_wp2_with fail
  refine (allC_any b1 A1 n1 k1 l1 w hb1 hl1).mono ?_
  rintro e w1 ⟨rfl, hw1⟩
  have hc2' := hw1.cell_ hc2
  go_wp2_with fail
  refine wp_loop_rounds 2 ?_
  rw [rounds_succ]
  go_wp2_with fail
  refine (allC_any b2 A2 n2 k2 l2 w1 (hw1.cell_ hb2) (hl2.bel hw1)).mono ?_
  rintro e w2 ⟨rfl, hw2⟩
  by_cases hlt : wsum l2 < wsum l1
  · have hm : min (wsum l1) (wsum l2) = wsum l2 := by omega
    go_wp2
    rw [rounds_succ]
    go_wp2
    go_ret
    exact ⟨by rw [hm]; rfl, hw1.trans hw2⟩
  · have hm : min (wsum l1) (wsum l2) = wsum l1 := by omega
    go_wp2
    rw [rounds_succ]
    go_wp2
    go_ret
    exact ⟨by rw [hm]; rfl, hw1.trans hw2⟩

/-- The buys at a price, the sells at a price. -/
def highs (l : List Ord) (p : Int) : List Ord := l.filter fun o => decide (p ≤ o.price)
def lows (l : List Ord) (p : Int) : List Ord := l.filter fun o => decide (o.price ≤ p)
/-- How much is traded at a price. -/
def vol (b s : List Ord) (p : Int) : Int := min (wsum (highs b p)) (wsum (lows s p))
theorem filter_take {α : Type} (f : α → Bool) (l : List α) (k : Nat) {x : α} (h : l[k]? = some x) : (l.take (k + 1)).filter f = (l.take k).filter f ++ (if f x then [x] else []) := by
  rw [List.take_add_one, h, List.filter_append]
  congr 1
  cases hf : f x <;> simp [hf]
theorem filter_take_len {α : Type} (f : α → Bool) (l : List α) (k : Nat) : ((l.take k).filter f).length ≤ k := Nat.le_trans (List.length_filter_le _ _) (by rw [List.length_take]; omega)

set_option maxHeartbeats 2000000 in
theorem halves_any (A1 A2 : Option Addr) (n1 c1 n2 c2 : Nat) (l1 l2 : List Ord) (p : Int) (w : World) (h1 : Row ordT w A1 n1 l1) (h2 : Row ordT w A2 n2 l2) (hs1 : n1 * 64 ≤ 140737488355328) (hs2 : n2 * 64 ≤ 140737488355328) :
    Calls Try.prog 45 #[.slice A1 n1 c1, .slice A2 n2 c2, .int .i64 p] w fun e w' => ∃ v1 v2, e = .returned (.tuple #[v1, v2]) ∧ Own ordT w' w.heap.size v1 (highs l1 p) ∧ Own ordT w' w.heap.size v2 (lows l2 p) ∧ NeRow v1 v2 ∧ Bel w w' := by
  have hn1 := h1.2.1
  have hn2 := h2.2.1
  have q1 := fun k => filter_take_len (fun o : Ord => decide (p ≤ o.price)) l1 k
  have q2 := fun k => filter_take_len (fun o : Ord => decide (o.price ≤ p)) l2 k
  have Q1 : Hid (∀ k, ((l1.take k).filter (fun o : Ord => decide (p ≤ o.price))).length ≤ k) := q1
  have Q2 : Hid (∀ k, ((l2.take k).filter (fun o : Ord => decide (o.price ≤ p))).length ≤ k) := q2
  clear q1 q2
  go_enter Try.func45, Try.ntmps45
  go_wp2
  go_loopw [6, 9, 14] (fun v _ i wr => ∃ k : Nat, k ≤ n1 ∧ i = .int .i64 k ∧ Own ordT wr w.heap.size v (highs (l1.take k) p) ∧ Bel w wr) (fun _ _ i _ => n1 - (intOf i).toNat)
  case atStart => exact ⟨0, by omega, rfl, Own.nil_ _ _ _, Bel.refl _⟩
  case round =>
    obtain ⟨k, hk, rfl, hO, hbr⟩ := hrel
    by_cases hkn : k < n1
    · obtain ⟨ad, number, who, market, buy, price, left, rfl, ho, d0, d1, d2, d3, d4, d5⟩ := (h1.bel hbr).ord hkn
      have hf := filter_take (fun o : Ord => decide (p ≤ o.price)) l1 k ho
      by_cases hp : p ≤ price
      · simp only [hp, decide_true, if_true] at hf
        go_wp2_with (at_builtin; refine wpApp (w0 := w) ordS rfl _ _ rfl _ (highs (l1.take k) p) [⟨number, who, market, buy, price, left⟩] _ 1 1 rfl rfl (hO.bel (((Bel.refl _).alloc _).alloc _)) (Row.one (T := ordT) _ rfl (by simp)) ((hbr.alloc _).alloc _) (by have := Q1.out k; simp only [highs]; omega) ?_; intro v1 w1 hO1 hb1 _ _)
        case roundEnd =>
          go_roundw
          case rel => exact ⟨k + 1, by omega, by go_num, by unfold highs; rw [hf]; exact hO1, hb1⟩
          case measure => simp [intOf]; omega
      · simp only [hp, decide_false, Bool.false_eq_true, if_false, List.append_nil] at hf
        go_wp2
        case roundEnd =>
          go_roundw
          case rel => exact ⟨k + 1, by omega, by go_num, by unfold highs; rw [hf]; exact hO.alloc_ _, hbr.alloc _⟩
          case measure => simp [intOf]; omega
    · have : k = n1 := by omega
      subst this
      have hfull : l1.take k = l1 := by rw [← h1.1, List.take_length]
      rw [hfull] at hO
      obtain ⟨A6, c6, rfl, _, _⟩ := hO.reads
      clear h1
      go_wp2
      go_loopw [7, 11, 29] (fun v _ i wx => ∃ k : Nat, k ≤ n2 ∧ i = .int .i64 k ∧ Own ordT wx w.heap.size v (lows (l2.take k) p) ∧ Own ordT wx w.heap.size (.slice A6 (highs l1 p).length c6) (highs l1 p) ∧ NeRow v (.slice A6 (highs l1 p).length c6) ∧ Bel w wx) (fun _ _ i _ => n2 - (intOf i).toNat)
      case atStart => exact ⟨0, by omega, rfl, Own.nil_ _ _ _, hO, NeRow.nilL _, hbr⟩
      case round =>
        obtain ⟨m, hm, rfl, hV, hO', hne, hbx⟩ := hrel
        by_cases hmn : m < n2
        · obtain ⟨ad, number, who, market, buy, price, left, rfl, ho, d0, d1, d2, d3, d4, d5⟩ := (h2.bel hbx).ord hmn
          have hf := filter_take (fun o : Ord => decide (o.price ≤ p)) l2 m ho
          by_cases hp : price ≤ p
          · simp only [hp, decide_true, if_true] at hf
            go_wp2_with (at_builtin; refine wpApp (w0 := w) ordS rfl _ _ rfl _ (lows (l2.take m) p) [⟨number, who, market, buy, price, left⟩] _ 1 1 rfl rfl (hV.bel (((Bel.refl _).alloc _).alloc _)) (Row.one (T := ordT) _ rfl (by simp)) ((hbx.alloc _).alloc _) (by have := Q2.out m; simp only [lows]; omega) ?_; intro v1 w1 hO1 hb1 hg1 hat1)
            case roundEnd =>
              go_roundw
              case rel => exact ⟨m + 1, by omega, by go_num, by unfold lows; rw [hf]; exact hO1, (hO'.bel (((Bel.refl _).alloc _).alloc _)).kept_ hg1 hne.other, NeRow.app hne hat1 (hO'.bel (((Bel.refl _).alloc _).alloc _)), hb1⟩
              case measure => simp [intOf]; omega
          · simp only [hp, decide_false, Bool.false_eq_true, if_false, List.append_nil] at hf
            go_wp2
            case roundEnd =>
              go_roundw
              case rel => exact ⟨m + 1, by omega, by go_num, by unfold lows; rw [hf]; exact hV.alloc_ _, hO'.alloc_ _, hne, hbx.alloc _⟩
              case measure => simp [intOf]; omega
        · have : m = n2 := by omega
          subst this
          have hfull : l2.take m = l2 := by rw [← h2.1, List.take_length]
          rw [hfull] at hV
          go_wp2
          go_ret2
          exact ⟨_, _, rfl, hO', hV, hne.symm, hbx⟩

set_option maxHeartbeats 2000000 in
theorem volume_any (A1 A2 : Option Addr) (n1 c1 n2 c2 : Nat) (l1 l2 : List Ord) (p : Int) (w : World) (h1 : Row ordT w A1 n1 l1) (h2 : Row ordT w A2 n2 l2) (hs1 : n1 * 64 ≤ 140737488355328) (hs2 : n2 * 64 ≤ 140737488355328) :
    Calls Try.prog 79 #[.slice A1 n1 c1, .slice A2 n2 c2, .int .i64 p] w fun e w' => e = .returned (.int .i64 (vol l1 l2 p)) ∧ Bel w w' := by
  go_enter Try.func79, Try.ntmps79
  go_wp2_with fail
  refine (halves_any A1 A2 n1 c1 n2 c2 l1 l2 p w h1 h2 hs1 hs2).mono ?_
  rintro e w1 ⟨v1, v2, rfl, o1, o2, hne, hb⟩
  obtain ⟨X1, k1, rfl, _, r1⟩ := o1.reads
  obtain ⟨X2, k2, rfl, _, r2⟩ := o2.reads
  clear o1 o2 hne
  go_wp2_with fail
  refine (allLeft_any _ _ _ _).mono ?_
  rintro e _ ⟨rfl, rfl⟩
  go_wp2_with fail
  refine (allLeft_any _ _ _ _).mono ?_
  rintro e _ ⟨rfl, rfl⟩
  go_wp2_with fail
  have hb3 : Bel w1 (((w1.alloc (.cells #[.slice X1 (highs l1 p).length k1] 22)).alloc (.cells #[.slice X2 (lows l2 p).length k2] 22)).alloc (.cells #[.func (.func 110) #[] #[.pointer (some ⟨w1.heap.size, 0, none⟩)], .func (.func 110) #[] #[.pointer (some ⟨w1.heap.size + 1, 0, none⟩)]] 92)) := (((Bel.refl _).alloc _).alloc _).alloc _
  refine (least_two w1.heap.size (w1.heap.size + 1) X1 X2 (highs l1 p).length k1 (lows l2 p).length k2 (highs l1 p) (lows l2 p) _ _ ?_ ?_ (r1.bel hb3) (r2.bel hb3) ?_ ?_).mono ?_
  · exact cellOld (cellOld (cellNew _ _ _ _ _ _ rfl) _) _
  · exact cellOld (cellNew _ _ _ _ _ _ (by simp)) _
  · exact cellNew _ _ _ _ _ _ (by simp)
  · exact cellNew _ _ _ _ _ _ (by simp)
  rintro e w2 ⟨rfl, hb4⟩
  clear r1 r2
  go_wp2
  go_ret
  exact ⟨rfl, hb.trans (hb3.trans hb4)⟩

def better (b s : List Ord) (a : Int × Int) (o : Ord) : Bool := decide (a.2 < vol b s o.price) || (decide (vol b s o.price = a.2) && (decide (0 < vol b s o.price) && decide (o.price < a.1)))
def priceStep (b s : List Ord) (a : Int × Int) (o : Ord) : Int × Int := if better b s a o then (o.price, vol b s o.price) else a
def price (b s : List Ord) : Int × Int := s.foldl (priceStep b s) (0, 0)
def priceTo (b s : List Ord) (k : Nat) : Int × Int := (s.take k).foldl (priceStep b s) (0, 0)
theorem priceTo_succ (b s : List Ord) (k : Nat) {o : Ord} (h : s[k]? = some o) : priceTo b s (k + 1) = priceStep b s (priceTo b s k) o := by
  unfold priceTo
  rw [List.take_add_one, h, List.foldl_append]
  rfl

set_option maxHeartbeats 2000000 in
theorem price_any (A1 A2 : Option Addr) (n1 c1 n2 c2 : Nat) (l1 l2 : List Ord) (w : World) (h1 : Row ordT w A1 n1 l1) (h2 : Row ordT w A2 n2 l2) (hs1 : n1 * 64 ≤ 140737488355328) (hs2 : n2 * 64 ≤ 140737488355328) :
    Calls Try.prog 44 #[.slice A1 n1 c1, .slice A2 n2 c2] w fun e w' => e = .returned (.tuple #[.int .i64 (price l1 l2).1, .int .i64 (price l1 l2).2]) ∧ Bel w w' := by
  have hn2 := h2.2.1
  go_enter Try.func44, Try.ntmps44
  go_wp2
  go_loopw [4, 5, 7, 8, 11] (fun p v _ _ i wr => ∃ k : Nat, k ≤ n2 ∧ i = .int .i64 k ∧ p = .int .i64 (priceTo l1 l2 k).1 ∧ v = .int .i64 (priceTo l1 l2 k).2 ∧ Bel w wr) (fun _ _ _ _ i _ => n2 - (intOf i).toNat)
  case atStart => exact ⟨0, by omega, rfl, rfl, rfl, Bel.refl _⟩
  case round =>
    obtain ⟨k, hk, rfl, rfl, rfl, hbr⟩ := hrel
    by_cases hkn : k < n2
    · obtain ⟨ad, number, who, market, buy, pr, left, rfl, ho, d0, d1, d2, d3, d4, d5⟩ := (h2.bel hbr).ord hkn
      have hstep := priceTo_succ l1 l2 k ho
      generalize priceTo l1 l2 k = st at *
      obtain ⟨best, most⟩ := st
      simp only [priceStep, better] at hstep
      have hvol := fun W (hW : Bel w W) => volume_any A1 (some ad) n1 c1 n2 c2 l1 l2 pr W (h1.bel hW) (h2.bel hW) hs1 hs2
      go_wp2_with fail
      refine (hvol _ (hbr.alloc _)).mono ?_
      rintro e w1 ⟨rfl, hb1⟩
      have hbw := (hbr.alloc _).trans hb1
      have e0 := hb1.cell_ (cellNew wr #[.int .u64 number, .string who, .string market, .bool buy, .int .i64 pr, .int .i64 left] 30 (0, 0) _ 4 rfl)
      clear d0 d1 d2 d3 d4 d5 hb1 hvol
      by_cases q1 : most < vol l1 l2 pr
      · simp only [q1, decide_true, Bool.true_or, if_true] at hstep
        go_wp2
        case roundEnd =>
          go_roundw
          case rel => exact ⟨k + 1, by omega, by go_num, by rw [hstep], by rw [hstep], hbw⟩
          case measure => simp [intOf]; omega
      · by_cases q2 : vol l1 l2 pr = most
        · subst q2
          by_cases q3 : 0 < vol l1 l2 pr
          · by_cases q4 : pr < best
            · simp only [q3, q4, Int.lt_irrefl, decide_true, decide_false, Bool.true_and, Bool.false_or, if_true] at hstep
              go_wp2
              case roundEnd =>
                go_roundw
                case rel => exact ⟨k + 1, by omega, by go_num, by rw [hstep], by rw [hstep], hbw⟩
                case measure => simp [intOf]; omega
            · simp only [q3, q4, Int.lt_irrefl, decide_true, decide_false, Bool.true_and, Bool.false_or, Bool.and_false, Bool.false_eq_true, if_false] at hstep
              go_wp2
              case roundEnd =>
                go_roundw
                case rel => exact ⟨k + 1, by omega, by go_num, by rw [hstep], by rw [hstep], hbw⟩
                case measure => simp [intOf]; omega
          · simp only [q3, Int.lt_irrefl, decide_true, decide_false, Bool.true_and, Bool.false_or, Bool.false_and, Bool.false_eq_true, if_false] at hstep
            go_wp2
            case roundEnd =>
              go_roundw
              case rel => exact ⟨k + 1, by omega, by go_num, by rw [hstep], by rw [hstep], hbw⟩
              case measure => simp [intOf]; omega
        · simp only [q1, q2, decide_false, Bool.false_or, Bool.false_and, Bool.false_eq_true, if_false] at hstep
          go_wp2
          case roundEnd =>
            go_roundw
            case rel => exact ⟨k + 1, by omega, by go_num, by rw [hstep], by rw [hstep], hbw⟩
            case measure => simp [intOf]; omega
    · have : k = n2 := by omega
      subst this
      have hfull : priceTo l1 l2 k = price l1 l2 := by rw [← h2.1]; unfold priceTo price; rw [List.take_length]
      rw [hfull]
      go_wp2
      go_ret2
      exact ⟨rfl, hbr⟩
end Go.Proofs.Ytoachnhdedpbdaa
