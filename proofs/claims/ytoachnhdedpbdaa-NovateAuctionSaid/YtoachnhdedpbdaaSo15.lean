/- order.side, order.Sides. -/
import Derived.Test.YtoachnhdedpbdaaSo14
import Derived.Test.YtoachnhdedpbdaaNv4
set_option linter.unusedSimpArgs false
set_option linter.unusedVariables false
set_option linter.unusedSectionVars false
namespace Go.Proofs.Ytoachnhdedpbdaa
open Go.RowKit Go.Lib Go.Sort Go.Shelf
/-- An order of a market's side. -/
def pick (mk : ByteArray) (b : Bool) (o : Ord) : Bool := decide (o.market = mk) && (o.buy == b)
set_option maxRecDepth 10000 in
theorem here_any (o0 : Int) (o1 o2 : ByteArray) (o3 : Bool) (o4 o5 : Int) (mk : ByteArray) (b : Bool) (gm gb : Nat) (w : World) (hm : w.cell? ⟨gm, 0, none⟩ = some (.string mk)) (hb : w.cell? ⟨gb, 0, none⟩ = some (.bool b)) :
    Calls Try.prog 37 #[.agg #[.int .u64 o0, .string o1, .string o2, .bool o3, .int .i64 o4, .int .i64 o5], .pointer (some ⟨gm, 0, none⟩), .pointer (some ⟨gb, 0, none⟩)] w fun e w' => e = .returned (.bool (pick mk b ⟨o0, o1, o2, o3, o4, o5⟩)) ∧ Bel w w' := by
  have h1 := cellOld hm (.cells #[.int .u64 o0, .string o1, .string o2, .bool o3, .int .i64 o4, .int .i64 o5] 30)
  have h2 := cellOld hb (.cells #[.int .u64 o0, .string o1, .string o2, .bool o3, .int .i64 o4, .int .i64 o5] 30)
  have c2 := cellNew w #[.int .u64 o0, .string o1, .string o2, .bool o3, .int .i64 o4, .int .i64 o5] 30 (0, 0) w.heap.size 2 rfl
  have c3 := cellNew w #[.int .u64 o0, .string o1, .string o2, .bool o3, .int .i64 o4, .int .i64 o5] 30 (0, 0) w.heap.size 3 rfl
  have HB := hid_ ((Bel.refl w).alloc (.cells #[.int .u64 o0, .string o1, .string o2, .bool o3, .int .i64 o4, .int .i64 o5] 30))
  obtain ⟨q, hq⟩ : ∃ q, decide (o2 = mk) = q := ⟨_, rfl⟩
  have e1 := bytesEq o2 mk
  rw [hq] at e1
  have HQ : Hid (pick mk b ⟨o0, o1, o2, o3, o4, o5⟩ = (q && (o3 == b))) := hid_ (by rw [← hq]; rfl)
  clear hm hb hq
  go_enter Try.func37, Try.ntmps37
  cases q
  · go_wp2
    go_ret
    exact ⟨by rw [HQ.out]; rfl, HB.out⟩
  · go_wp2
    go_ret
    exact ⟨by rw [HQ.out]; rfl, HB.out⟩
theorem filter_step {α : Type} (p : α → Bool) (l : List α) (k : Nat) {x : α} (h : l[k]? = some x) : (l.take (k + 1)).filter p = (l.take k).filter p ++ (if p x then [x] else []) := by
  rw [List.take_add_one, h, List.filter_append]
  cases hp : p x <;> simp [hp]
set_option maxRecDepth 10000 in
set_option maxHeartbeats 1000000 in
theorem side_any (cf : Ord → Ord → Int) (hO : SWO (ltOf cf)) (gc : Nat) (eg : ∀ args w, (callFunc gc args).run Try.prog w = .ok (.enter gc args) w) (hcmp : ∀ x y w, Calls Try.prog gc #[.agg (ordC x).toArray, .agg (ordC y).toArray] w fun e w' => e = .returned (.int .i64 (cf x y)) ∧ ∃ q os', w' = grow (w.drewN q) os') (A : Option Addr) (n c : Nat) (l : List Ord) (mk : ByteArray) (b : Bool) (gm gb : Nat) (w : World) (hA : Row ordT w A n l) (hm : w.cell? ⟨gm, 0, none⟩ = some (.string mk)) (hb : w.cell? ⟨gb, 0, none⟩ = some (.bool b)) (hn : n ≤ 100000) :
    Calls Try.prog 38 #[.slice A n c, .func (.func 37) #[] #[.pointer (some ⟨gm, 0, none⟩), .pointer (some ⟨gb, 0, none⟩)], .func (.func gc) #[] #[]] w fun e w' => ∃ v, e = .returned v ∧ Own ordT w' w.heap.size v (st (ltOf cf) (l.filter (pick mk b))) ∧ Bel w w' := by
  have HA := hid_ hA
  have HM := hid_ hm
  have HBB := hid_ hb
  have HC := hid_ hcmp
  clear hA hm hb hcmp
  go_enter Try.func38, Try.ntmps38
  go_wp2_with fail
  go_loopw [6, 11] (fun v i wr => ∃ j : Nat, j ≤ n ∧ i = .int .i64 j ∧ Hid (Own ordT wr w.heap.size v ((l.take j).filter (pick mk b))) ∧ Bel w wr) (fun _ i _ => n - (intOf i).toNat)
  case atStart => exact ⟨0, Nat.zero_le _, rfl, hid_ (Own.nil_ _ _ _), Bel.refl _⟩
  case round =>
    obtain ⟨j, hj, rfl, hx, hbr⟩ := hrel
    have BR := hid_ hbr
    by_cases hjn : j < n
    · obtain ⟨ad, o0, o1, o2, o3, o4, o5, rfl, ho, d0, d1, d2, d3, d4, d5⟩ := (HA.out.bel hbr).ord hjn
      have HST := hid_ (filter_step (pick mk b) l j ho)
      clear ho hbr
      go_upto_region 4 with (fail)
      have kb := Bx.new wr 30 [.int .u64 o0, .string o1, .string o2, .bool o3, .int .i64 o4, .int .i64 o5]
      have hb1 : Bel wr (wr.alloc (.cells #[.int .u64 o0, .string o1, .string o2, .bool o3, .int .i64 o4, .int .i64 o5] 30)) := (Bel.refl wr).alloc _
      have KB : Hid (Bx (wr.alloc (.cells #[.int .u64 o0, .string o1, .string o2, .bool o3, .int .i64 o4, .int .i64 o5] 30)) wr.heap.size 30 [.int .u64 o0, .string o1, .string o2, .bool o3, .int .i64 o4, .int .i64 o5]) := hid_ kb
      have B1 := hid_ hb1
      have M1 := hid_ (hb1.cell_ (BR.out.cell_ HM.out))
      have N1 := hid_ (hb1.cell_ (BR.out.cell_ HBB.out))
      have X1 := hid_ (hx.out.bel hb1)
      clear kb hb1 d0 d1 d2 d3 d4 d5 hx
      generalize wr.alloc (.cells #[.int .u64 o0, .string o1, .string o2, .bool o3, .int .i64 o4, .int .i64 o5] 30) = W1 at KB B1 M1 N1 X1 ⊢
      generalize wr.heap.size = gx at KB ⊢
      have q0 := KB.out.cell 0 rfl
      have q1 := KB.out.cell 1 rfl
      have q2 := KB.out.cell 2 rfl
      have q3 := KB.out.cell 3 rfl
      have q4 := KB.out.cell 4 rfl
      have q5 := KB.out.cell 5 rfl
      go_wp2_with fail
      refine (here_any o0 o1 o2 o3 o4 o5 mk b gm gb W1 M1.out N1.out).mono ?_
      rintro e W2 ⟨rfl, b2⟩
      have KB2 := hid_ (KB.out.bel b2)
      have X2 := hid_ (X1.out.bel b2)
      have B2 := hid_ ((BR.out.trans B1.out).trans b2)
      clear KB B1 M1 N1 X1 BR q0 q1 q2 q3 q4 q5 b2
      obtain ⟨pk, hpk⟩ : ∃ pk, pick mk b ⟨o0, o1, o2, o3, o4, o5⟩ = pk := ⟨_, rfl⟩
      rw [hpk] at HST ⊢
      clear hpk
      cases pk
      · have HF : Hid (Own ordT W2 w.heap.size u6 ((l.take (j + 1)).filter (pick mk b))) := hid_ (by rw [HST.out]; simpa using X2.out)
        clear HST X2 KB2
        go_wp2
        case roundEnd =>
          go_roundw
          case rel => exact ⟨j + 1, by omega, by go_num, HF, B2.out⟩
          case measure => simp [intOf]; omega
      · have q0 := KB2.out.cell 0 rfl
        have q1 := KB2.out.cell 1 rfl
        have q2 := KB2.out.cell 2 rfl
        have q3 := KB2.out.cell 3 rfl
        have q4 := KB2.out.cell 4 rfl
        have q5 := KB2.out.cell 5 rfl
        have RO := hid_ (Row.one (T := ordT) (W := W2) ⟨o0, o1, o2, o3, o4, o5⟩ (cs := #[.int .u64 o0, .string o1, .string o2, .bool o3, .int .i64 o4, .int .i64 o5]) rfl rfl)
        have LN : Hid (((l.take j).filter (pick mk b)).length ≤ 100000) := hid_ (Nat.le_trans (List.length_filter_le _ _) (Nat.le_trans (List.length_take_le j l) (by omega)))
        have X3 := hid_ (X2.out.alloc_ (.cells #[.int .u64 o0, .string o1, .string o2, .bool o3, .int .i64 o4, .int .i64 o5] 30))
        have B3 := hid_ (B2.out.alloc (.cells #[.int .u64 o0, .string o1, .string o2, .bool o3, .int .i64 o4, .int .i64 o5] 30))
        clear X2 KB2 B2
        go_wp2_with (at_builtin; refine wpApp (w0 := w) ordS rfl _ _ rfl _ ((l.take j).filter (pick mk b)) [⟨o0, o1, o2, o3, o4, o5⟩] _ 1 1 rfl rfl X3.out RO.out B3.out (by have := LN.out; omega) ?_; intro v1 x1 hO1 hb1 _ _)
        case roundEnd =>
          have HF : Hid (Own ordT x1 w.heap.size v1 ((l.take (j + 1)).filter (pick mk b))) := hid_ (by rw [HST.out]; simpa using hO1)
          go_roundw
          case rel => exact ⟨j + 1, by omega, by go_num, HF, hb1⟩
          case measure => simp [intOf]; omega
    · obtain rfl : j = n := by omega
      have hfull : l.take j = l := by rw [← HA.out.1, List.take_length]
      have HO : Hid (Own ordT wr w.heap.size u6 (l.filter (pick mk b))) := hid_ (by have := hx.out; rw [hfull] at this; exact this)
      have HLN : Hid ((l.filter (pick mk b)).length ≤ 100000) := hid_ (Nat.le_trans (List.length_filter_le _ _) (by rw [HA.out.1]; exact hn))
      clear hx hfull hbr
      go_wp2_with fail
      refine (sortStable_any cf hO gc #[] eg HC.out u6 _ w.heap.size wr HO.out HLN.out).mono ?_
      rintro e w5 ⟨rfl, hO5, hg⟩
      have H5 := hid_ hO5
      have B5 := hid_ (BR.out.grown_ hg HO.out.base_)
      clear hO5 hg HO HLN BR
      go_wp2
      go_ret
      exact ⟨_, rfl, H5.out, B5.out⟩
end Go.Proofs.Ytoachnhdedpbdaa
