/- cambistref13.better, Side. -/
import Derived.Test.YtgdonempmblhhaaOd7
import Derived.Test.YtgdonempmblhhaaSo16
set_option linter.unusedSimpArgs false
set_option linter.unusedVariables false
namespace Go.Proofs.Ytgdonempmblhhaa
open Go.RowKit Go.Lib
set_option maxRecDepth 10000 in
set_option maxHeartbeats 4000000 in
theorem dropR_any (A : Option Addr) (n c : Nat) (l : List Ord) (nu : Int) (u : World) (hA0 : Row ordT u A n l) (hnc : n ≤ c) (hn : n ≤ 100000) :
    Calls Try.prog 32 #[.slice A n c, .int .u64 nu] u fun e w' => ∃ A' n' c', e = .returned (.tuple #[.slice A' n' c', .agg (ordC (dropX l nu)).toArray, .int .i64 (dropE l nu)]) ∧ Row ordT w' A' n' (dropL l nu) ∧ Bel u w' := by
  have hbu := (Bel.refl u).alloc (.cells #[.int .u64 0, .string ⟨#[]⟩, .string ⟨#[]⟩, .bool false, .int .i64 0, .int .i64 0] 27)
  have kz := Bx.new u 27 [.int .u64 0, .string ⟨#[]⟩, .string ⟨#[]⟩, .bool false, .int .i64 0, .int .i64 0]
  have KZ : Hid (Bx (u.alloc (.cells #[.int .u64 0, .string ⟨#[]⟩, .string ⟨#[]⟩, .bool false, .int .i64 0, .int .i64 0] 27)) u.heap.size 27 [.int .u64 0, .string ⟨#[]⟩, .string ⟨#[]⟩, .bool false, .int .i64 0, .int .i64 0]) := hid_ kz
  have HBU : Hid (Bel u (u.alloc (.cells #[.int .u64 0, .string ⟨#[]⟩, .string ⟨#[]⟩, .bool false, .int .i64 0, .int .i64 0] 27))) := hid_ hbu
  have hA := hA0.bel hbu
  have HA := hid_ hA
  have HL := hid_ hA.1
  have HNC := hid_ hnc
  obtain ⟨rl, hrl⟩ : ∃ r, dropL l nu = r := ⟨_, rfl⟩
  obtain ⟨rx, hrx⟩ : ∃ r, dropX l nu = r := ⟨_, rfl⟩
  obtain ⟨re, hre⟩ : ∃ r, dropE l nu = r := ⟨_, rfl⟩
  rw [hrl, hrx, hre]
  have HR : Hid (dropL l nu = rl ∧ dropX l nu = rx ∧ dropE l nu = re) := hid_ ⟨hrl, hrx, hre⟩
  clear hrl hrx hre hA hnc hbu kz hA0
  go_enter Try.func32, Try.ntmps32
  go_wp2_with fail
  generalize u.alloc (.cells #[.int .u64 0, .string ⟨#[]⟩, .string ⟨#[]⟩, .bool false, .int .i64 0, .int .i64 0] 27) = w at KZ HBU HA ⊢
  refine (atR_any A n c l nu w HA.out).mono ?_
  rintro e _ ⟨rfl, rfl⟩
  rw [idxI_eq]
  obtain ⟨fi, hfi⟩ : ∃ fi, l.findIdx? (fun x => x.number == nu) = fi := ⟨_, rfl⟩
  rw [hfi]
  cases fi
  case none =>
    have HF : Hid (rl = [] ∧ rx = ordZ1 ∧ re = 130) := hid_ (by rw [← HR.out.1, ← HR.out.2.1, ← HR.out.2.2]; simp [dropL, dropX, dropE, hfi])
    clear hfi HR
    rw [show oI none = -1 from rfl]
    have q0 := KZ.out.cell 0 rfl
    have q1 := KZ.out.cell 1 rfl
    have q2 := KZ.out.cell 2 rfl
    have q3 := KZ.out.cell 3 rfl
    have q4 := KZ.out.cell 4 rfl
    have q5 := KZ.out.cell 5 rfl
    have zf := fun j => KZ.out.frozen j
    go_wp2
    have KF := ((((((KZ.out.set 0 (.int .u64 0)).set 1 (.string ⟨#[]⟩)).set 2 (.string ⟨#[]⟩)).set 3 (.bool false)).set 4 (.int .i64 0)).set 5 (.int .i64 0))
    have BF := ((((((HBU.out.setBx (j := 0) (Nat.le_refl _) (.int .u64 0)).setBx (j := 1) (Nat.le_refl _) (.string ⟨#[]⟩)).setBx (j := 2) (Nat.le_refl _) (.string ⟨#[]⟩)).setBx (j := 3) (Nat.le_refl _) (.bool false)).setBx (j := 4) (Nat.le_refl _) (.int .i64 0)).setBx (j := 5) (Nat.le_refl _) (.int .i64 0))
    refine bodyPost_ret (results_tct rfl _ _ u.heap.size 27 _ (0, 0) _ rfl KF Try.underlying27 rfl (by kernel_rfl)) rfl ?_
    exact ⟨none, 0, 0, by rw [HF.out.2.1, HF.out.2.2]; rfl, by rw [HF.out.1]; exact Row.none_ _ _ _, BF⟩
  case some i =>
    have hin : i < l.length := (List.findIdx?_eq_some_iff_getElem.1 hfi).1
    rw [HL.out] at hin
    rw [show oI (some i) = (i : Int) from rfl]
    obtain ⟨ad, p0, p1, p2, p3, p4, p5, rfl, ho, d0, d1, d2, d3, d4, d5⟩ := HA.out.ord hin
    have HF : Hid (rl = l.take i ++ l.drop (i + 1) ∧ rx = ⟨p0, p1, p2, p3, p4, p5⟩ ∧ re = 0) := hid_ (by rw [← HR.out.1, ← HR.out.2.1, ← HR.out.2.2]; simp [dropL, dropX, dropE, hfi, ho])
    clear hfi HR ho
    have z0 : (0 : Int) ≤ (i : Int) := by omega
    have z1 : (i : Int) < (n : Int) := by omega
    have z3 : wrap64 ((i : Int) + 1) = (i : Int) + 1 := by unfold wrap64; omega
    have ei : ((i + 1 : Nat) : Int) = (i : Int) + 1 := by omega
    have ew : IntKind.i64.wrap ((i : Int) + 1) = (i : Int) + 1 := by rw [IntWalk.i64_left]; exact z3
    go_upto_region 4 with (fail)
    obtain ⟨W0, hW0⟩ : ∃ W0, w = W0 := ⟨_, rfl⟩
    subst hW0
    obtain ⟨A', hcut, hrow⟩ := ordS.cutFrom (P := Try.prog) .i64 (some ad) n c (i + 1) (by omega) HNC.out
    simp only [ei] at hcut
    clear ei
    have hcut2 := fun W => ordS.cutTo (P := Try.prog) .i64 (some ad) n c i (by have := HNC.out; omega) W
    have ra := hid_ (hrow _ _ HA.out)
    have rt := hid_ (HA.out.take_ (show i ≤ n by omega))
    have hKP : ∀ W, Bel w W → (fun W => Bel w W ∧ W.cell? (ad.add (i * 6)) = some (.int .u64 p0) ∧ W.cell? ⟨(ad.add (i * 6)).block, (ad.add (i * 6)).off + 1, none⟩ = some (.string p1) ∧ W.cell? ⟨(ad.add (i * 6)).block, (ad.add (i * 6)).off + 2, none⟩ = some (.string p2) ∧ W.cell? ⟨(ad.add (i * 6)).block, (ad.add (i * 6)).off + 3, none⟩ = some (.bool p3) ∧ W.cell? ⟨(ad.add (i * 6)).block, (ad.add (i * 6)).off + 4, none⟩ = some (.int .i64 p4) ∧ W.cell? ⟨(ad.add (i * 6)).block, (ad.add (i * 6)).off + 5, none⟩ = some (.int .i64 p5)) W := fun W b => ⟨b, b.cell_ d0, b.cell_ d1, b.cell_ d2, b.cell_ d3, b.cell_ d4, b.cell_ d5⟩
    have HKP := hid_ hKP
    have hlt : (l.take i).length = i := by rw [List.length_take, HL.out]; omega
    have HLT := hid_ hlt
    have hLL : ([] ++ l.take i ++ l.drop (i + 1) : List Ord) = rl := by rw [HF.out.1]; simp
    have HLL := hid_ hLL
    clear hrow hKP hlt hLL HA
    have e0 := fun o => cellOld d0 o
    have e1 := fun o => cellOld d1 o
    have e2 := fun o => cellOld d2 o
    have e3 := fun o => cellOld d3 o
    have e4 := fun o => cellOld d4 o
    have e5 := fun o => cellOld d5 o
    go_region_law (first | (refine stepApp (w0 := w) ordS rfl _ _ rfl _ [] (l.take i) (some ad) i c rfl rfl ((Own.litE (T := ordT) w w.heap.size _ 27 rfl rfl (Nat.le_refl _)).bel (by repeat first | with_reducible exact Bel.refl _ | with_reducible apply Bel.drew | with_reducible apply Bel.alloc)) (rt.out.bel (by repeat first | with_reducible exact Bel.refl _ | with_reducible apply Bel.drew | with_reducible apply Bel.alloc)) (by repeat first | with_reducible exact Bel.refl _ | with_reducible apply Bel.drew | with_reducible apply Bel.alloc) (by have := HLT.out; simp only [List.length_append, List.length_nil, List.length_cons, this]; omega) ?_; intro v1 x1 hO1 hb1 hg1 hat1; have y0 := hb1.cell_ d0; have y1 := hb1.cell_ d1; have y2 := hb1.cell_ d2; have y3 := hb1.cell_ d3; have y4 := hb1.cell_ d4; have y5 := hb1.cell_ d5) | (refine stepApp (w0 := w) ordS rfl _ _ rfl _ [] (l.take i) (some ad) i c rfl rfl ((Own.litE (T := ordT) (w.alloc (.cells #[] 27)) w.heap.size (w.heap.size + 1) 27 rfl (sizeAl _ _).symm (by rw [sizeAl]; omega)).bel (by repeat first | with_reducible exact Bel.refl _ | with_reducible apply Bel.drew | with_reducible apply Bel.alloc)) (rt.out.bel (by repeat first | with_reducible exact Bel.refl _ | with_reducible apply Bel.drew | with_reducible apply Bel.alloc)) (by repeat first | with_reducible exact Bel.refl _ | with_reducible apply Bel.drew | with_reducible apply Bel.alloc) (by have := HLT.out; simp only [List.length_append, List.length_nil, List.length_cons, this]; omega) ?_; intro v1 x1 hO1 hb1 hg1 hat1; have y0 := hb1.cell_ d0; have y1 := hb1.cell_ d1; have y2 := hb1.cell_ d2; have y3 := hb1.cell_ d3; have y4 := hb1.cell_ d4; have y5 := hb1.cell_ d5) | (refine stepApp (w0 := w) ordS rfl _ _ rfl v1 ([] ++ l.take i) (l.drop (i + 1)) (A') (n - (i + 1)) (c - (i + 1)) rfl rfl hO1 (ra.out.bel hb1) hb1 (by have := HLT.out; simp only [List.length_append, List.length_nil, List.length_cons, this]; omega) ?_; intro v3 x3 hO3 hb3 hg3 hat3; have z0 := (KZ.out.bel hb3).cell 0 rfl; have z1 := (KZ.out.bel hb3).cell 1 rfl; have z2 := (KZ.out.bel hb3).cell 2 rfl; have z4 := (KZ.out.bel hb3).cell 3 rfl; have z5 := (KZ.out.bel hb3).cell 4 rfl; have z6 := (KZ.out.bel hb3).cell 5 rfl; have zf := fun j => (KZ.out.bel hb3).frozen j; have y0 := hb3.cell_ d0; have y1 := hb3.cell_ d1; have y2 := hb3.cell_ d2; have y3 := hb3.cell_ d3; have y4 := hb3.cell_ d4; have y5 := hb3.cell_ d5))
    all_goals (
      rw [HLL.out] at hO3
      obtain ⟨A9, c9, hv9, _, r9, h9⟩ := hO3.rowAt
      subst hv9
      have hlt : u.heap.size < w.heap.size := KZ.out.lt
      have r9' := ((((((r9.setFar' (g := u.heap.size) (j := 0) (.int .u64 p0) (fun _ ad e => by have := h9 ad e; omega)).setFar' (g := u.heap.size) (j := 1) (.string p1) (fun _ ad e => by have := h9 ad e; omega)).setFar' (g := u.heap.size) (j := 2) (.string p2) (fun _ ad e => by have := h9 ad e; omega)).setFar' (g := u.heap.size) (j := 3) (.bool p3) (fun _ ad e => by have := h9 ad e; omega)).setFar' (g := u.heap.size) (j := 4) (.int .i64 p4) (fun _ ad e => by have := h9 ad e; omega)).setFar' (g := u.heap.size) (j := 5) (.int .i64 p5) (fun _ ad e => by have := h9 ad e; omega))
      have KF := (((((((KZ.out.bel hb3).set 0 (.int .u64 p0)).set 1 (.string p1)).set 2 (.string p2)).set 3 (.bool p3)).set 4 (.int .i64 p4)).set 5 (.int .i64 p5))
      have BF := (((((((HBU.out.trans hb3).setBx (j := 0) (Nat.le_refl _) (.int .u64 p0)).setBx (j := 1) (Nat.le_refl _) (.string p1)).setBx (j := 2) (Nat.le_refl _) (.string p2)).setBx (j := 3) (Nat.le_refl _) (.bool p3)).setBx (j := 4) (Nat.le_refl _) (.int .i64 p4)).setBx (j := 5) (Nat.le_refl _) (.int .i64 p5))
      have R9 := hid_ r9'
      clear hO1 hO3 hb1 hb3 hg1 hg3 hat1 hat3 r9 r9' ra rt HLL hcut hcut2 d0 d1 d2 d3 d4 d5 e0 e1 e2 e3 e4 e5 y0 y1 y2 y3 y4 y5 z0 z1 z2 z4 z5 z6 zf HKP
      go_wp2
      refine bodyPost_ret (results_tct rfl _ _ u.heap.size 27 _ (0, 0) _ rfl KF Try.underlying27 rfl (by kernel_rfl)) rfl ?_
      exact ⟨A9, _, c9, by rw [HF.out.2.1, HF.out.2.2]; rfl, R9.out, BF⟩
    )
end Go.Proofs.Ytgdonempmblhhaa
set_option linter.unusedSimpArgs false
set_option linter.unusedVariables false
namespace Go.Proofs.Ytgdonempmblhhaa
open Go.RowKit Go.Lib
def betterB (x y : Ord) : Bool := if x.price = y.price then decide (x.number ≤ y.number) else (decide (y.price < x.price) == x.buy)
def ltOn (b : Bool) : Ord → Ord → Bool := if b then ltB else ltS
def sideL (b : Bool) (l : List Ord) (mk : ByteArray) : List Ord := st (ltOn b) (l.filter (pick mk b))
theorem sideL_t (l : List Ord) (mk : ByteArray) : sideL true l mk = buysL l mk := rfl
theorem sideL_f (l : List Ord) (mk : ByteArray) : sideL false l mk = sellsL l mk := rfl
theorem better_lt {b : Bool} {x y : Ord} (h : x.buy = b) : betterB x y = !ltOn b y x := by
  unfold betterB ltOn ltB ltS
  rw [h]
  by_cases e : x.price = y.price
  · rw [if_pos e]
    cases b <;> exact Bool.eq_iff_iff.2 (by simp [e])
  · rw [if_neg e]
    have e' : ¬ y.price = x.price := fun q => e q.symm
    cases b <;> exact Bool.eq_iff_iff.2 (by simp [e']; try omega)
theorem sideL_step_no {b : Bool} {l : List Ord} {mk : ByteArray} {j : Nat} {o : Ord} (h : l[j]? = some o) (hp : pick mk b o = false) : sideL b (l.take (j + 1)) mk = sideL b (l.take j) mk := by
  unfold sideL
  rw [filter_step _ _ _ h, hp]
  simp
theorem sideL_step_yes {b : Bool} {l : List Ord} {mk : ByteArray} {j : Nat} {o : Ord} (h : l[j]? = some o) (hp : pick mk b o = true) : sideL b (l.take (j + 1)) mk = ins (ltOn b) (sideL b (l.take j) mk) o := by
  unfold sideL
  rw [filter_step _ _ _ h, hp]
  simp [st]
theorem ins_at {lt : Ord → Ord → Bool} {x : Ord} : ∀ (k : Nat) {l : List Ord}, k ≤ l.length → (∀ (i : Nat) (y : Ord), i < k → l[i]? = some y → lt x y = false) → (∀ y, l[k]? = some y → lt x y = true) → ins lt l x = l.take k ++ (x :: l.drop k)
  | 0, [], _, _, _ => rfl
  | 0, e :: r, _, _, h2 => by rw [ins_yes r (h2 e rfl)]; rfl
  | k + 1, [], h, _, _ => absurd h (by simp)
  | k + 1, e :: r, h, h1, h2 => by
    rw [ins_no r (h1 0 e (by omega) rfl), ins_at k (by simpa using h) (fun i y hi hy => h1 (i + 1) y (by omega) hy) (fun y hy => h2 y hy)]
    rfl
theorem sideL_buy {b : Bool} {l : List Ord} {mk : ByteArray} {j : Nat} {o : Ord} (h : (sideL b l mk)[j]? = some o) : o.buy = b := by
  have h1 := (st_perm (ltOn b) _).mem_iff.1 (List.mem_of_getElem? h)
  have h2 := (List.mem_filter.1 h1).2
  simp [pick] at h2
  exact h2.2
theorem sideL_len (b : Bool) (l : List Ord) (mk : ByteArray) : (sideL b l mk).length ≤ l.length := by
  unfold sideL
  rw [(st_perm _ _).length_eq]
  exact List.length_filter_le _ _
set_option maxRecDepth 10000 in
set_option maxHeartbeats 4000000 in
theorem better_any (a0 : Int) (a1 a2 : ByteArray) (a3 : Bool) (a4 a5 : Int) (b0 : Int) (b1 b2 : ByteArray) (b3 : Bool) (b4 b5 : Int) (w : World) :
    Calls Try.prog 64 #[.agg #[.int .u64 a0, .string a1, .string a2, .bool a3, .int .i64 a4, .int .i64 a5], .agg #[.int .u64 b0, .string b1, .string b2, .bool b3, .int .i64 b4, .int .i64 b5]] w fun e w' => e = .returned (.bool (betterB ⟨a0, a1, a2, a3, a4, a5⟩ ⟨b0, b1, b2, b3, b4, b5⟩)) ∧ Bel w w' := by
  obtain ⟨q, hq⟩ : ∃ q, betterB ⟨a0, a1, a2, a3, a4, a5⟩ ⟨b0, b1, b2, b3, b4, b5⟩ = q := ⟨_, rfl⟩
  rw [hq]
  have HQ := hid_ hq
  clear hq
  have z0 := sizeAl w (.cells #[.int .u64 a0, .string a1, .string a2, .bool a3, .int .i64 a4, .int .i64 a5] 27)
  have k0 := (Bx.new w 27 [.int .u64 a0, .string a1, .string a2, .bool a3, .int .i64 a4, .int .i64 a5]).alloc (.cells #[.int .u64 b0, .string b1, .string b2, .bool b3, .int .i64 b4, .int .i64 b5] 27)
  have k0 : Bx ((w.alloc (.cells #[.int .u64 a0, .string a1, .string a2, .bool a3, .int .i64 a4, .int .i64 a5] 27)).alloc (.cells #[.int .u64 b0, .string b1, .string b2, .bool b3, .int .i64 b4, .int .i64 b5] 27)) (w.heap.size) 27 [.int .u64 a0, .string a1, .string a2, .bool a3, .int .i64 a4, .int .i64 a5] := k0
  have k1 := Bx.new (w.alloc (.cells #[.int .u64 a0, .string a1, .string a2, .bool a3, .int .i64 a4, .int .i64 a5] 27)) 27 [.int .u64 b0, .string b1, .string b2, .bool b3, .int .i64 b4, .int .i64 b5]
  rw [z0] at k1
  have k1 : Bx ((w.alloc (.cells #[.int .u64 a0, .string a1, .string a2, .bool a3, .int .i64 a4, .int .i64 a5] 27)).alloc (.cells #[.int .u64 b0, .string b1, .string b2, .bool b3, .int .i64 b4, .int .i64 b5] 27)) (w.heap.size + 1) 27 [.int .u64 b0, .string b1, .string b2, .bool b3, .int .i64 b4, .int .i64 b5] := k1
  have kB : Bel w ((w.alloc (.cells #[.int .u64 a0, .string a1, .string a2, .bool a3, .int .i64 a4, .int .i64 a5] 27)).alloc (.cells #[.int .u64 b0, .string b1, .string b2, .bool b3, .int .i64 b4, .int .i64 b5] 27)) := ((Bel.refl w).alloc _).alloc _
  have FP := hid_ k0
  have FQ := hid_ k1
  have FB := hid_ kB
  clear k0 k1 z0 kB
  go_enter Try.func64, Try.ntmps64
  have z0 := sizeAl w (.cells #[.int .u64 a0, .string a1, .string a2, .bool a3, .int .i64 a4, .int .i64 a5] 27)
  have qP0 := FP.out.cell 0 rfl
  have qP1 := FP.out.cell 1 rfl
  have qP2 := FP.out.cell 2 rfl
  have qP3 := FP.out.cell 3 rfl
  have qP4 := FP.out.cell 4 rfl
  have qP5 := FP.out.cell 5 rfl
  have qQ0 := FQ.out.cell 0 rfl
  have qQ1 := FQ.out.cell 1 rfl
  have qQ2 := FQ.out.cell 2 rfl
  have qQ3 := FQ.out.cell 3 rfl
  have qQ4 := FQ.out.cell 4 rfl
  have qQ5 := FQ.out.cell 5 rfl
  by_cases e : a4 = b4
  · have HF : Hid (q = decide (a0 ≤ b0)) := hid_ (by rw [← HQ.out]; unfold betterB; rw [if_pos e])
    subst e
    go_wp2
    go_ret
    exact ⟨by rw [HF.out]; rfl, FB.out⟩
  · have HF : Hid (q = (decide (b4 < a4) == a3)) := hid_ (by rw [← HQ.out]; unfold betterB; rw [if_neg e])
    have e1 : (a4 == b4) = false := by simpa using e
    have e2 : decide (a4 = b4) = false := decide_eq_false e
    have e3 : (a4 != b4) = true := by simpa using e
    go_wp2
    go_ret
    exact ⟨by rw [HF.out]; rfl, FB.out⟩
set_option maxRecDepth 10000 in
set_option maxHeartbeats 4000000 in
theorem sideR_any (A : Option Addr) (n c : Nat) (l : List Ord) (mk : ByteArray) (b : Bool) (w : World) (hA : Row ordT w A n l) (hn : n ≤ 100000) : Calls Try.prog 35 #[.slice A n c, .string mk, .bool b] w fun e w' => ∃ v, e = .returned v ∧ Own ordT w' w.heap.size v (sideL b l mk) ∧ Bel w w' := by
  have HA := hid_ hA
  have HL := hid_ hA.1
  clear hA
  go_enter Try.func35, Try.ntmps35
  go_wp2_with fail
  go_loopw [7, 8] (fun v i wr => ∃ j : Nat, j ≤ n ∧ i = .int .i64 j ∧ Hid (Own ordT wr w.heap.size v (sideL b (l.take j) mk)) ∧ Bel w wr) (fun _ i _ => n - (intOf i).toNat)
  case atStart => exact ⟨0, Nat.zero_le _, rfl, hid_ (Own.nil_ _ _ _), Bel.refl _⟩
  case round =>
    obtain ⟨j, hj, rfl, hx, hbr⟩ := hrel
    obtain ⟨wo, hwo⟩ : ∃ wo, wo = wr := ⟨_, rfl⟩
    subst hwo
    have BR := hid_ hbr
    by_cases hjn : j < n
    · obtain ⟨ad, o0, o1, o2, o3, o4, o5, rfl, ho, d0, d1, d2, d3, d4, d5⟩ := (HA.out.bel hbr).ord hjn
      have HO := hid_ ho
      clear ho hbr
      have i0 : (0 : Int) ≤ (j : Int) := by omega
      have i1 : (j : Int) < (n : Int) := by omega
      obtain ⟨q1, hq1⟩ : ∃ q, decide (o2 = mk) = q := ⟨_, rfl⟩
      have e1 := bytesEq o2 mk
      rw [hq1] at e1
      have HQ1 := hid_ hq1
      clear hq1
      obtain ⟨q2, hq2⟩ : ∃ q, (o3 == b) = q := ⟨_, rfl⟩
      have HP : Hid (pick mk b ⟨o0, o1, o2, o3, o4, o5⟩ = (q1 && q2)) := hid_ (by rw [← HQ1.out, ← hq2]; rfl)
      have e4 : (o3 != b) = !q2 := by rw [← hq2]; rfl
      have e5 : (!(o3 == b)) = !q2 := by rw [← hq2]
      have e6 : (o3 == b) = q2 := hq2
      have e3 : decide (o3 = b) = q2 := by rw [← hq2]; cases o3 <;> cases b <;> rfl
      clear HQ1
      by_cases hpq : (q1 && q2) = false
      · have HX2 : Hid (Own ordT wo w.heap.size u7 (sideL b (l.take (j + 1)) mk)) := hid_ (by rw [sideL_step_no HO.out (by rw [HP.out]; exact hpq)]; exact hx.out)
        clear hx HP HO
        have fin : True := trivial
        cases q1 <;> cases q2 <;> simp at hpq
        all_goals simp only [Bool.not_true, Bool.not_false] at e4 e5
        all_goals (
          go_wp2
          case roundEnd =>
            go_roundw
            case rel => exact ⟨j + 1, by omega, by go_num, HX2, BR.out⟩
            case measure => simp [intOf]; omega)
      have hq12 : q1 = true ∧ q2 = true := by cases q1 <;> cases q2 <;> simp at hpq ⊢
      obtain ⟨rfl, rfl⟩ := hq12
      simp only [Bool.not_true] at e4 e5
      have HX2 : Hid (sideL b (l.take (j + 1)) mk = ins (ltOn b) (sideL b (l.take j) mk) ⟨o0, o1, o2, o3, o4, o5⟩) := hid_ (sideL_step_yes HO.out (by rw [HP.out]; rfl))
      have hm5 : (sideL b (l.take j) mk).length ≤ 100000 := by have := sideL_len b (l.take j) mk; have := List.length_take_le j l; omega
      have HXB : Hid (∀ (i : Nat) (y : Ord), (sideL b (l.take j) mk)[i]? = some y → y.buy = b) := hid_ (fun i y h => sideL_buy h)
      obtain ⟨xs, hxs⟩ : ∃ xs, sideL b (l.take j) mk = xs := ⟨_, rfl⟩
      rw [hxs] at hx HX2 HXB hm5
      clear hxs hpq HP hq2
      obtain ⟨B, cb, rfl, hmc, rb⟩ := hx.out.reads
      obtain ⟨m, hm⟩ : ∃ m, xs.length = m := ⟨_, rfl⟩
      rw [hm] at hmc rb hm5
      rw [hm]
      have HM := hid_ hm
      have HMC := hid_ hmc
      have RB := hid_ rb
      clear hm hmc rb hx
      go_wp2_with fail
      go_loopw [9] (fun i wq => ∃ k : Nat, k ≤ m ∧ i = .int .i64 k ∧ Hid (∀ (i : Nat) (y : Ord), i < k → xs[i]? = some y → ltOn b ⟨o0, o1, o2, o3, o4, o5⟩ y = false) ∧ Bel wo wq) (fun i _ => m - (intOf i).toNat)
      case atStart => exact ⟨0, Nat.zero_le _, rfl, hid_ (fun i y h => absurd h (by omega)), Bel.refl _⟩
      case round =>
        obtain ⟨k, hk, rfl, hkx, hbq⟩ := hrel
        have d0 := hbq.cell_ d0
        have d1 := hbq.cell_ d1
        have d2 := hbq.cell_ d2
        have d3 := hbq.cell_ d3
        have d4 := hbq.cell_ d4
        have d5 := hbq.cell_ d5
        have RQ := hid_ (RB.out.bel hbq)
        have BQ := hid_ (BR.out.trans hbq)
        have BI := hid_ hbq
        clear hbq
        have k0 : (0 : Int) ≤ (k : Int) := by omega
        by_cases hkm : k < m
        · obtain ⟨ad2, y0, y1, y2, y3, y4, y5, rfl, hy, c0, c1, c2, c3, c4, c5⟩ := RQ.out.ord hkm
          have k1 : (k : Int) < (m : Int) := by omega
          have HB3 := HXB.out k _ hy
          simp only at HB3
          have HBT : Hid (betterB ⟨y0, y1, y2, y3, y4, y5⟩ ⟨o0, o1, o2, o3, o4, o5⟩ = !ltOn b ⟨o0, o1, o2, o3, o4, o5⟩ ⟨y0, y1, y2, y3, y4, y5⟩) := hid_ (better_lt HB3)
          have HY := hid_ hy
          clear hy HB3
          obtain ⟨qq, hqq⟩ : ∃ q, ltOn b ⟨o0, o1, o2, o3, o4, o5⟩ ⟨y0, y1, y2, y3, y4, y5⟩ = q := ⟨_, rfl⟩
          rw [hqq] at HBT
          have HQQ := hid_ hqq
          clear hqq
          have hKP : ∀ W, Bel wr W → (fun W => Bel wr W ∧ W.cell? (ad.add (j * 6)) = some (.int .u64 o0) ∧ W.cell? ⟨(ad.add (j * 6)).block, (ad.add (j * 6)).off + 1, none⟩ = some (.string o1) ∧ W.cell? ⟨(ad.add (j * 6)).block, (ad.add (j * 6)).off + 2, none⟩ = some (.string o2) ∧ W.cell? ⟨(ad.add (j * 6)).block, (ad.add (j * 6)).off + 3, none⟩ = some (.bool o3) ∧ W.cell? ⟨(ad.add (j * 6)).block, (ad.add (j * 6)).off + 4, none⟩ = some (.int .i64 o4) ∧ W.cell? ⟨(ad.add (j * 6)).block, (ad.add (j * 6)).off + 5, none⟩ = some (.int .i64 o5) ∧ W.cell? (ad2.add (k * 6)) = some (.int .u64 y0) ∧ W.cell? ⟨(ad2.add (k * 6)).block, (ad2.add (k * 6)).off + 1, none⟩ = some (.string y1) ∧ W.cell? ⟨(ad2.add (k * 6)).block, (ad2.add (k * 6)).off + 2, none⟩ = some (.string y2) ∧ W.cell? ⟨(ad2.add (k * 6)).block, (ad2.add (k * 6)).off + 3, none⟩ = some (.bool y3) ∧ W.cell? ⟨(ad2.add (k * 6)).block, (ad2.add (k * 6)).off + 4, none⟩ = some (.int .i64 y4) ∧ W.cell? ⟨(ad2.add (k * 6)).block, (ad2.add (k * 6)).off + 5, none⟩ = some (.int .i64 y5)) W := fun W b => ⟨b, b.cell_ d0, b.cell_ d1, b.cell_ d2, b.cell_ d3, b.cell_ d4, b.cell_ d5, b.cell_ c0, b.cell_ c1, b.cell_ c2, b.cell_ c3, b.cell_ c4, b.cell_ c5⟩
          have HKP := hid_ hKP
          clear hKP
          go_upto_region 8 with (fail)
          go_region_held3 (fun W => Bel wr W ∧ W.cell? (ad.add (j * 6)) = some (.int .u64 o0) ∧ W.cell? ⟨(ad.add (j * 6)).block, (ad.add (j * 6)).off + 1, none⟩ = some (.string o1) ∧ W.cell? ⟨(ad.add (j * 6)).block, (ad.add (j * 6)).off + 2, none⟩ = some (.string o2) ∧ W.cell? ⟨(ad.add (j * 6)).block, (ad.add (j * 6)).off + 3, none⟩ = some (.bool o3) ∧ W.cell? ⟨(ad.add (j * 6)).block, (ad.add (j * 6)).off + 4, none⟩ = some (.int .i64 o4) ∧ W.cell? ⟨(ad.add (j * 6)).block, (ad.add (j * 6)).off + 5, none⟩ = some (.int .i64 o5) ∧ W.cell? (ad2.add (k * 6)) = some (.int .u64 y0) ∧ W.cell? ⟨(ad2.add (k * 6)).block, (ad2.add (k * 6)).off + 1, none⟩ = some (.string y1) ∧ W.cell? ⟨(ad2.add (k * 6)).block, (ad2.add (k * 6)).off + 2, none⟩ = some (.string y2) ∧ W.cell? ⟨(ad2.add (k * 6)).block, (ad2.add (k * 6)).off + 3, none⟩ = some (.bool y3) ∧ W.cell? ⟨(ad2.add (k * 6)).block, (ad2.add (k * 6)).off + 4, none⟩ = some (.int .i64 y4) ∧ W.cell? ⟨(ad2.add (k * 6)).block, (ad2.add (k * 6)).off + 5, none⟩ = some (.int .i64 y5)) ((refine HKP.out _ ?_; repeat first | with_reducible exact Bel.refl _ | with_reducible exact bz | with_reducible apply Bel.drew | with_reducible apply Bel.alloc))
            (first | (go_at_call 64; refine' Calls.mono (better_any y0 y1 y2 y3 y4 y5 o0 o1 o2 o3 o4 o5 _) ?_; rintro e w9 ⟨rfl, b9⟩; have bz : Bel wr w9 := Bel.trans (by repeat first | with_reducible exact Bel.refl _ | with_reducible apply Bel.drew) b9; rw [HBT.out]))
          have BZ := hid_ bz
          clear HKP c0 c1 c2 c3 c4 c5 b9
          cases qq
          · have HK2 : Hid (∀ (i : Nat) (y : Ord), i < k + 1 → xs[i]? = some y → ltOn b ⟨o0, o1, o2, o3, o4, o5⟩ y = false) := hid_ (by
              intro i y hi hiy
              rcases Nat.lt_or_ge i k with h | h
              · exact hkx.out i y h hiy
              · obtain rfl : i = k := by omega
                rw [HY.out] at hiy
                cases hiy
                exact HQQ.out)
            have B9 := hid_ (BI.out.trans bz)
            clear hkx HY HQQ d0 d1 d2 d3 d4 d5 bz
            go_wp2
            case roundEnd =>
              go_roundw
              case rel => exact ⟨k + 1, by omega, by go_num, HK2, B9.out⟩
              case measure => simp [intOf]; omega
          · have HST : Hid (∀ y, xs[k]? = some y → ltOn b ⟨o0, o1, o2, o3, o4, o5⟩ y = true) := hid_ (fun y h => by rw [HY.out] at h; cases h; exact HQQ.out)
            clear HY HQQ
            go_upto_region 11 with (fail)
            have d0 := bz.cell_ d0
            have d1 := bz.cell_ d1
            have d2 := bz.cell_ d2
            have d3 := bz.cell_ d3
            have d4 := bz.cell_ d4
            have d5 := bz.cell_ d5
            have RW := hid_ (RQ.out.bel bz)
            have E0 := hid_ (BQ.out.trans bz)
            clear bz BZ
            have HFI : Hid (ins (ltOn b) xs ⟨o0, o1, o2, o3, o4, o5⟩ = xs.take k ++ (⟨o0, o1, o2, o3, o4, o5⟩ :: xs.drop k)) := hid_ (ins_at k (by rw [HM.out]; exact hk) hkx.out (HST.out))
            obtain ⟨B', hcut, hrow⟩ := ordS.cutFrom (P := Try.prog) .i64 (some ad2) m cb k (by omega) HMC.out
            have hcut2 := fun W => ordS.cutTo (P := Try.prog) .i64 (some ad2) m cb k (by have := HMC.out; omega) W
            have ra := hid_ (hrow _ _ (RW.out))
            have rt := hid_ (RW.out.take_ (show k ≤ m by omega))
            have hKP : ∀ W, Bel w9 W → (fun W => Bel w9 W ∧ W.cell? (ad.add (j * 6)) = some (.int .u64 o0) ∧ W.cell? ⟨(ad.add (j * 6)).block, (ad.add (j * 6)).off + 1, none⟩ = some (.string o1) ∧ W.cell? ⟨(ad.add (j * 6)).block, (ad.add (j * 6)).off + 2, none⟩ = some (.string o2) ∧ W.cell? ⟨(ad.add (j * 6)).block, (ad.add (j * 6)).off + 3, none⟩ = some (.bool o3) ∧ W.cell? ⟨(ad.add (j * 6)).block, (ad.add (j * 6)).off + 4, none⟩ = some (.int .i64 o4) ∧ W.cell? ⟨(ad.add (j * 6)).block, (ad.add (j * 6)).off + 5, none⟩ = some (.int .i64 o5)) W := fun W b => ⟨b, b.cell_ d0, b.cell_ d1, b.cell_ d2, b.cell_ d3, b.cell_ d4, b.cell_ d5⟩
            have HKP := hid_ hKP
            have hlt : (xs.take k).length = k := by rw [List.length_take, HM.out]; omega
            have HLT := hid_ hlt
            have hLL : ([] ++ xs.take k ++ [⟨o0, o1, o2, o3, o4, o5⟩] ++ xs.drop k : List Ord) = sideL b (l.take (j + 1)) mk := by rw [HX2.out, HFI.out]; simp
            have HLL := hid_ hLL
            clear hrow hKP hlt hLL HFI HX2 HXB hkx HST RQ RB BQ BI BR
            go_region_held3 (fun W => Bel w9 W ∧ W.cell? (ad.add (j * 6)) = some (.int .u64 o0) ∧ W.cell? ⟨(ad.add (j * 6)).block, (ad.add (j * 6)).off + 1, none⟩ = some (.string o1) ∧ W.cell? ⟨(ad.add (j * 6)).block, (ad.add (j * 6)).off + 2, none⟩ = some (.string o2) ∧ W.cell? ⟨(ad.add (j * 6)).block, (ad.add (j * 6)).off + 3, none⟩ = some (.bool o3) ∧ W.cell? ⟨(ad.add (j * 6)).block, (ad.add (j * 6)).off + 4, none⟩ = some (.int .i64 o4) ∧ W.cell? ⟨(ad.add (j * 6)).block, (ad.add (j * 6)).off + 5, none⟩ = some (.int .i64 o5)) ((refine HKP.out _ ?_; repeat first | with_reducible exact Bel.refl _ | with_reducible exact hb1 | with_reducible exact hb2 | with_reducible exact hb3 | with_reducible apply Bel.drew | with_reducible apply Bel.alloc))
              (first | (refine stepApp (w0 := w9) ordS rfl _ _ rfl _ [] (xs.take k) (some ad2) k cb rfl rfl ((Own.litE (T := ordT) w9 w9.heap.size _ 27 rfl rfl (Nat.le_refl _)).bel (by repeat first | with_reducible exact Bel.refl _ | with_reducible apply Bel.drew | with_reducible apply Bel.alloc)) (rt.out.bel (by repeat first | with_reducible exact Bel.refl _ | with_reducible apply Bel.drew | with_reducible apply Bel.alloc)) (by repeat first | with_reducible exact Bel.refl _ | with_reducible apply Bel.drew | with_reducible apply Bel.alloc) (by have := HLT.out; simp only [List.length_append, List.length_nil, List.length_cons, this]; omega) ?_; intro v1 x1 hO1 hb1 hg1 hat1) | (refine stepApp (w0 := w9) ordS rfl _ _ rfl _ [] (xs.take k) (some ad2) k cb rfl rfl ((Own.litE (T := ordT) (w9.alloc (.cells #[.int .u64 o0, .string o1, .string o2, .bool o3, .int .i64 o4, .int .i64 o5] 27)) w9.heap.size (w9.heap.size + 1) 27 rfl (sizeAl _ _).symm (by rw [sizeAl]; omega)).bel (by repeat first | with_reducible exact Bel.refl _ | with_reducible apply Bel.drew | with_reducible apply Bel.alloc)) (rt.out.bel (by repeat first | with_reducible exact Bel.refl _ | with_reducible apply Bel.drew | with_reducible apply Bel.alloc)) (by repeat first | with_reducible exact Bel.refl _ | with_reducible apply Bel.drew | with_reducible apply Bel.alloc) (by have := HLT.out; simp only [List.length_append, List.length_nil, List.length_cons, this]; omega) ?_; intro v1 x1 hO1 hb1 hg1 hat1) | (refine stepApp (w0 := w9) ordS rfl _ _ rfl v1 ([] ++ xs.take k) [⟨o0, o1, o2, o3, o4, o5⟩] (some ⟨x1.heap.size, 0, none⟩) 1 1 rfl rfl (hO1.bel ((Bel.refl _).alloc _)) (Row.one (T := ordT) _ rfl rfl) (hb1.alloc _) (by have := HLT.out; simp only [List.length_append, List.length_nil, List.length_cons, this]; omega) ?_; intro v2 x2 hO2 hb2 hg2 hat2) | (refine stepApp (w0 := w9) ordS rfl _ _ rfl v1 ([] ++ xs.take k) [⟨o0, o1, o2, o3, o4, o5⟩] (some ⟨w9.heap.size + 1, 0, none⟩) 1 1 rfl rfl hO1 (Row.grown_ ((Row.one (T := ordT) (W := w9.alloc (.cells #[] 27)) ⟨o0, o1, o2, o3, o4, o5⟩ rfl (sizeAl _ _).symm).bel (Bel.refl _).drew) hg1 (by intro ad e; cases e; show some (w9.heap.size + 1) ≠ some w9.heap.size; simp)) hb1 (by have := HLT.out; simp only [List.length_append, List.length_nil, List.length_cons, this]; omega) ?_; intro v2 x2 hO2 hb2 hg2 hat2) | (refine stepApp (w0 := w9) ordS rfl _ _ rfl v1 ([] ++ xs.take k) [⟨o0, o1, o2, o3, o4, o5⟩] (some ⟨w9.heap.size, 0, none⟩) 1 1 rfl rfl hO1 (Row.grown_ (((Row.one (T := ordT) (W := w9) ⟨o0, o1, o2, o3, o4, o5⟩ rfl rfl).bel ((Bel.refl _).alloc _)).bel (Bel.refl _).drew) hg1 (by intro ad e; cases e; show some w9.heap.size ≠ some (w9.heap.size + 1); simp)) hb1 (by have := HLT.out; simp only [List.length_append, List.length_nil, List.length_cons, this]; omega) ?_; intro v2 x2 hO2 hb2 hg2 hat2) | (refine stepApp (w0 := w9) ordS rfl _ _ rfl v2 ([] ++ xs.take k ++ [⟨o0, o1, o2, o3, o4, o5⟩]) (xs.drop k) (B') (m - k) (cb - k) rfl rfl hO2 (ra.out.bel hb2) hb2 (by have := HLT.out; simp only [List.length_append, List.length_nil, List.length_cons, this]; omega) ?_; intro v3 x3 hO3 hb3 hg3 hat3))
            all_goals rw [HLL.out] at hO3
            all_goals have HO9 := hid_ (hO3.mono_ E0.out.size_)
            all_goals have E9 := hid_ (E0.out.trans hb3)
            all_goals clear hO1 hO2 hb1 hb2 hg1 hg2 hg3 hat1 hat2 hat3 hO3 hb3 ra rt HLL hcut hcut2 d0 d1 d2 d3 d4 d5 HKP RW
            all_goals (
              go_wp2
              case roundEnd =>
                go_roundw
                case rel => exact ⟨j + 1, by omega, by go_num, HO9, E9.out⟩
                case measure => simp [intOf]; omega)
        · obtain rfl : m = k := by omega
          have k1 : ¬ (m : Int) < (m : Int) := by omega
          have HST : Hid (∀ y, xs[m]? = some y → ltOn b ⟨o0, o1, o2, o3, o4, o5⟩ y = true) := hid_ (fun y h => absurd (List.getElem?_eq_some_iff.1 h).1 (by rw [HM.out]; omega))
          go_upto_region 11 with (fail)
          have RW := hid_ RQ.out
          have E0 := hid_ BQ.out
          have HFI : Hid (ins (ltOn b) xs ⟨o0, o1, o2, o3, o4, o5⟩ = xs.take m ++ (⟨o0, o1, o2, o3, o4, o5⟩ :: xs.drop m)) := hid_ (ins_at m (by rw [HM.out]; exact hk) hkx.out (HST.out))
          obtain ⟨B', hcut, hrow⟩ := ordS.cutFrom (P := Try.prog) .i64 (B) m cb m (by omega) HMC.out
          have hcut2 := fun W => ordS.cutTo (P := Try.prog) .i64 (B) m cb m (by have := HMC.out; omega) W
          have ra := hid_ (hrow _ _ (RW.out))
          have rt := hid_ (RW.out.take_ (show m ≤ m by omega))
          have hz : m - m = 0 := Nat.sub_self m
          have ra' := ra.out
          rw [hz] at ra'
          simp only [Nat.sub_self] at hcut
          clear ra
          have ra := hid_ ra'
          clear ra' hz
          have hKP : ∀ W, Bel wr W → (fun W => Bel wr W ∧ W.cell? (ad.add (j * 6)) = some (.int .u64 o0) ∧ W.cell? ⟨(ad.add (j * 6)).block, (ad.add (j * 6)).off + 1, none⟩ = some (.string o1) ∧ W.cell? ⟨(ad.add (j * 6)).block, (ad.add (j * 6)).off + 2, none⟩ = some (.string o2) ∧ W.cell? ⟨(ad.add (j * 6)).block, (ad.add (j * 6)).off + 3, none⟩ = some (.bool o3) ∧ W.cell? ⟨(ad.add (j * 6)).block, (ad.add (j * 6)).off + 4, none⟩ = some (.int .i64 o4) ∧ W.cell? ⟨(ad.add (j * 6)).block, (ad.add (j * 6)).off + 5, none⟩ = some (.int .i64 o5)) W := fun W b => ⟨b, b.cell_ d0, b.cell_ d1, b.cell_ d2, b.cell_ d3, b.cell_ d4, b.cell_ d5⟩
          have HKP := hid_ hKP
          have hlt : (xs.take m).length = m := by rw [List.length_take, HM.out]; omega
          have HLT := hid_ hlt
          have hLL : ([] ++ xs.take m ++ [⟨o0, o1, o2, o3, o4, o5⟩] ++ xs.drop m : List Ord) = sideL b (l.take (j + 1)) mk := by rw [HX2.out, HFI.out]; simp
          have HLL := hid_ hLL
          clear hrow hKP hlt hLL HFI HX2 HXB hkx HST RQ RB BQ BI BR
          go_region_held3 (fun W => Bel wr W ∧ W.cell? (ad.add (j * 6)) = some (.int .u64 o0) ∧ W.cell? ⟨(ad.add (j * 6)).block, (ad.add (j * 6)).off + 1, none⟩ = some (.string o1) ∧ W.cell? ⟨(ad.add (j * 6)).block, (ad.add (j * 6)).off + 2, none⟩ = some (.string o2) ∧ W.cell? ⟨(ad.add (j * 6)).block, (ad.add (j * 6)).off + 3, none⟩ = some (.bool o3) ∧ W.cell? ⟨(ad.add (j * 6)).block, (ad.add (j * 6)).off + 4, none⟩ = some (.int .i64 o4) ∧ W.cell? ⟨(ad.add (j * 6)).block, (ad.add (j * 6)).off + 5, none⟩ = some (.int .i64 o5)) ((refine HKP.out _ ?_; repeat first | with_reducible exact Bel.refl _ | with_reducible exact hb1 | with_reducible exact hb2 | with_reducible exact hb3 | with_reducible apply Bel.drew | with_reducible apply Bel.alloc))
            (first | (refine stepApp (w0 := wr) ordS rfl _ _ rfl _ [] (xs.take m) (B) m cb rfl rfl ((Own.litE (T := ordT) wr wr.heap.size _ 27 rfl rfl (Nat.le_refl _)).bel (by repeat first | with_reducible exact Bel.refl _ | with_reducible apply Bel.drew | with_reducible apply Bel.alloc)) (rt.out.bel (by repeat first | with_reducible exact Bel.refl _ | with_reducible apply Bel.drew | with_reducible apply Bel.alloc)) (by repeat first | with_reducible exact Bel.refl _ | with_reducible apply Bel.drew | with_reducible apply Bel.alloc) (by have := HLT.out; simp only [List.length_append, List.length_nil, List.length_cons, this]; omega) ?_; intro v1 x1 hO1 hb1 hg1 hat1) | (refine stepApp (w0 := wr) ordS rfl _ _ rfl _ [] (xs.take m) (B) m cb rfl rfl ((Own.litE (T := ordT) (wr.alloc (.cells #[.int .u64 o0, .string o1, .string o2, .bool o3, .int .i64 o4, .int .i64 o5] 27)) wr.heap.size (wr.heap.size + 1) 27 rfl (sizeAl _ _).symm (by rw [sizeAl]; omega)).bel (by repeat first | with_reducible exact Bel.refl _ | with_reducible apply Bel.drew | with_reducible apply Bel.alloc)) (rt.out.bel (by repeat first | with_reducible exact Bel.refl _ | with_reducible apply Bel.drew | with_reducible apply Bel.alloc)) (by repeat first | with_reducible exact Bel.refl _ | with_reducible apply Bel.drew | with_reducible apply Bel.alloc) (by have := HLT.out; simp only [List.length_append, List.length_nil, List.length_cons, this]; omega) ?_; intro v1 x1 hO1 hb1 hg1 hat1) | (refine stepApp (w0 := wr) ordS rfl _ _ rfl v1 ([] ++ xs.take m) [⟨o0, o1, o2, o3, o4, o5⟩] (some ⟨x1.heap.size, 0, none⟩) 1 1 rfl rfl (hO1.bel ((Bel.refl _).alloc _)) (Row.one (T := ordT) _ rfl rfl) (hb1.alloc _) (by have := HLT.out; simp only [List.length_append, List.length_nil, List.length_cons, this]; omega) ?_; intro v2 x2 hO2 hb2 hg2 hat2) | (refine stepApp (w0 := wr) ordS rfl _ _ rfl v1 ([] ++ xs.take m) [⟨o0, o1, o2, o3, o4, o5⟩] (some ⟨wr.heap.size + 1, 0, none⟩) 1 1 rfl rfl hO1 (Row.grown_ ((Row.one (T := ordT) (W := wr.alloc (.cells #[] 27)) ⟨o0, o1, o2, o3, o4, o5⟩ rfl (sizeAl _ _).symm).bel (Bel.refl _).drew) hg1 (by intro ad e; cases e; show some (wr.heap.size + 1) ≠ some wr.heap.size; simp)) hb1 (by have := HLT.out; simp only [List.length_append, List.length_nil, List.length_cons, this]; omega) ?_; intro v2 x2 hO2 hb2 hg2 hat2) | (refine stepApp (w0 := wr) ordS rfl _ _ rfl v1 ([] ++ xs.take m) [⟨o0, o1, o2, o3, o4, o5⟩] (some ⟨wr.heap.size, 0, none⟩) 1 1 rfl rfl hO1 (Row.grown_ (((Row.one (T := ordT) (W := wr) ⟨o0, o1, o2, o3, o4, o5⟩ rfl rfl).bel ((Bel.refl _).alloc _)).bel (Bel.refl _).drew) hg1 (by intro ad e; cases e; show some wr.heap.size ≠ some (wr.heap.size + 1); simp)) hb1 (by have := HLT.out; simp only [List.length_append, List.length_nil, List.length_cons, this]; omega) ?_; intro v2 x2 hO2 hb2 hg2 hat2) | (refine stepApp (w0 := wr) ordS rfl _ _ rfl v2 ([] ++ xs.take m ++ [⟨o0, o1, o2, o3, o4, o5⟩]) (xs.drop m) (B') (0) (cb - m) rfl rfl hO2 (ra.out.bel hb2) hb2 (by have := HLT.out; simp only [List.length_append, List.length_nil, List.length_cons, this]; omega) ?_; intro v3 x3 hO3 hb3 hg3 hat3))
          all_goals rw [HLL.out] at hO3
          all_goals have HO9 := hid_ (hO3.mono_ E0.out.size_)
          all_goals have E9 := hid_ (E0.out.trans hb3)
          all_goals clear hO1 hO2 hb1 hb2 hg1 hg2 hg3 hat1 hat2 hat3 hO3 hb3 ra rt HLL hcut hcut2 d0 d1 d2 d3 d4 d5 HKP RW
          all_goals (
            go_wp2
            case roundEnd =>
              go_roundw
              case rel => exact ⟨j + 1, by omega, by go_num, HO9, E9.out⟩
              case measure => simp [intOf]; omega)
    · obtain rfl : n = j := by omega
      have hfull : l.take n = l := by rw [← HL.out, List.take_length]
      rw [hfull] at hx
      have i1 : ¬ (n : Int) < (n : Int) := by omega
      clear hfull
      go_wp2
      go_ret
      exact ⟨_, rfl, hx.out, BR.out⟩
end Go.Proofs.Ytgdonempmblhhaa
