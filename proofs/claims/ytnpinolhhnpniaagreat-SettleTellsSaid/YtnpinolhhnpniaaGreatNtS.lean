/- Sorting dues by their places. -/
import Derived.Test.YtnpinolhhnpniaaGreatCmpOr
import Derived.Test.YtnpinolhhnpniaaGreatBox
import Derived.Test.YtnpinolhhnpniaaGreatTyDue
import Derived.Test.YtnpinolhhnpniaaGreatSo12
import Derived.Test.YtnpinolhhnpniaaGreatShDue
import Derived.Shelf.SlSortFuncK.SWK
import Derived.Deep.DeepCutAuto
set_option linter.unusedSimpArgs false
set_option linter.unusedVariables false
namespace Go.Proofs.YtnpinolhhnpniaaGreat
open Go.RowKit Go.Lib Go.Sort Go.Shelf
set_option maxRecDepth 10000 in
set_option maxHeartbeats 1000000 in
theorem due_grow (x0 x1 y0 y1 : ByteArray) (x2 y2 : Int) (W : World) : Calls Tryz.prog 44 #[.agg #[.string x0, .string x1, .int .i64 x2], .agg #[.string y0, .string y1, .int .i64 y2]] W fun e w' => e = .returned (.int .i64 (cmpP ⟨x0, x1⟩ ⟨y0, y1⟩)) ∧ ∃ q os', w' = grow (W.drewN q) os' := by
  obtain ⟨r, hr⟩ : ∃ r, cmpP ⟨x0, x1⟩ ⟨y0, y1⟩ = r := ⟨_, rfl⟩
  rw [hr]
  rw [← orI_cmp] at hr
  have HR := hid_ hr
  clear hr
  go_enter Tryz.func44, Tryz.ntmps44
  go_upto_region 1 with (fail)
  have bx : Bx ((W.alloc (.cells #[.string x0, .string x1, .int .i64 x2] 39)).alloc (.cells #[.string y0, .string y1, .int .i64 y2] 39)) W.heap.size 39 [.string x0, .string x1, .int .i64 x2] := (Bx.new W _ _).alloc _
  have bY := Bx.new (W.alloc (.cells #[.string x0, .string x1, .int .i64 x2] 39)) 39 [.string y0, .string y1, .int .i64 y2]
  rw [sizeAl] at bY
  have HG : Hid (∃ os, (W.alloc (.cells #[.string x0, .string x1, .int .i64 x2] 39)).alloc (.cells #[.string y0, .string y1, .int .i64 y2] 39) = grow W os) := hid_ ⟨_, by rw [alloc_eq_grow, alloc_eq_grow, grow_grow]⟩
  have c0 := bx.cell 0 rfl
  have c1 := bx.cell 1 rfl
  have d0 := bY.cell 0 rfl
  have d1 := bY.cell 1 rfl
  clear bx bY
  generalize (W.alloc (.cells #[.string x0, .string x1, .int .i64 x2] 39)).alloc (.cells #[.string y0, .string y1, .int .i64 y2] 39) = W2 at c0 c1 d0 d1 HG ⊢
  generalize W.heap.size + 1 = gy at d0 d1 ⊢
  generalize W.heap.size = gx at c0 c1 ⊢
  go_region_held3 (fun w => w.cell? ⟨gx, 0, none⟩ = some (.string x0) ∧ w.cell? ⟨gx, 1, none⟩ = some (.string x1) ∧ w.cell? ⟨gy, 0, none⟩ = some (.string y0) ∧ w.cell? ⟨gy, 1, none⟩ = some (.string y1)) (first | exact ⟨c0, c1, d0, d1⟩ | exact ⟨cellOld c0 _, cellOld c1 _, cellOld d0 _, cellOld d1 _⟩)
    (first
    | (go_at_call 46; with_reducible refine' Calls.mono (cmp_str _ _ _) ?_; rintro e _ ⟨rfl, rfl⟩)
    | (go_at_call 45; refine' Calls.mono (cmp_or _ 2 2 [cmpX x0 y0, cmpX x1 y1] _ (Row.lit (T := intT) _ [cmpX x0 y0, cmpX x1 y1] (0, 0) (by simp))) ?_; rintro e _ ⟨rfl, rfl⟩))
  all_goals (
    have HF : Hid (orI [cmpX x0 y0, cmpX x1 y1] = r) := hid_ HR.out
    go_wp2
    go_ret
    refine ⟨by rw [HF.out]; rfl, ?_⟩
    obtain ⟨os, hos⟩ := HG.out
    rw [hos]
    exact ⟨1, os ++ #[.cells #[.int .i64 (cmpX x0 y0), .int .i64 (cmpX x1 y1)] 3], by rw [alloc_eq_grow]; exact (grow_grow W.drew os _)⟩)
instance : Inhabited Due := ⟨⟨⟨#[]⟩, ⟨#[]⟩, 0⟩⟩
def cmpD (x y : Due) : Int := cmpP x.plc y.plc
theorem lt_cmpD (x y : Due) : ltOf cmpD x y = ltP x.plc y.plc := by
  unfold ltOf cmpD
  cases h : ltP x.plc y.plc
  · exact decide_eq_false (fun e => by rw [cmpP_neg.1 e] at h; cases h)
  · exact decide_eq_true (cmpP_neg.2 h)
theorem swoD : SWO (ltOf cmpD) := by
  refine ⟨fun x => by rw [lt_cmpD, ltP_irr], fun x y z h1 h2 => ?_, fun x y z h1 h2 => ?_⟩
  · rw [lt_cmpD] at *
    exact ltP_trans h1 h2
  · rw [lt_cmpD] at *
    cases h : ltP x.plc z.plc
    · rfl
    · exfalso
      by_cases e : x.plc = y.plc
      · rw [e] at h; rw [h2] at h; cases h
      · rcases ltP_tot e with k | k
        · rw [h1] at k; cases k
        · have := ltP_trans k h
          rw [h2] at this; cases this
/-- Dues whose places rise, by their members. -/
theorem due_ext : ∀ {l m : List Due}, Up (l.map Due.plc) → Up (m.map Due.plc) → (∀ d, d ∈ l ↔ d ∈ m) → l = m
  | [], [], _, _, _ => rfl
  | [], y :: m, _, _, h => by have := (h y).2 (by simp); cases this
  | x :: l, [], _, _, h => by have := (h x).1 (by simp); cases this
  | x :: l, y :: m, hl, hm, h => by
    obtain ⟨l1, l2⟩ := List.pairwise_cons.1 hl
    obtain ⟨m1, m2⟩ := List.pairwise_cons.1 hm
    have l1 : ∀ z ∈ l, ltP x.plc z.plc = true := fun z hz => l1 _ (List.mem_map.2 ⟨z, hz, rfl⟩)
    have m1 : ∀ z ∈ m, ltP y.plc z.plc = true := fun z hz => m1 _ (List.mem_map.2 ⟨z, hz, rfl⟩)
    have e : x = y := by
      rcases List.mem_cons.1 ((h x).1 (by simp)) with e | e
      · exact e
      · rcases List.mem_cons.1 ((h y).2 (by simp)) with e' | e'
        · exact e'.symm
        · have := ltP_trans (l1 y e') (m1 x e)
          rw [ltP_irr] at this
          cases this
    subst e
    rw [due_ext l2 m2 (fun d => ?_)]
    have := h d
    simp only [List.mem_cons] at this
    constructor
    · intro hp
      rcases this.1 (.inr hp) with e | e
      · exact absurd (congrArg Due.plc e).symm (ltP_ne (l1 d hp))
      · exact e
    · intro hp
      rcases this.2 (.inr hp) with e | e
      · exact absurd (congrArg Due.plc e).symm (ltP_ne (m1 d hp))
      · exact e
theorem sorted_upD {d d' : Array Due} (hn : (d.toList.map Due.plc).Nodup) (hP : PermIn 0 d.size d d') (hS : SortedIn (ltOf cmpD) 0 d.size d') : Up (d'.toList.map Due.plc) ∧ ∀ p, p ∈ d'.toList ↔ p ∈ d.toList := by
  obtain ⟨hsz, _, hperm⟩ := hP
  have e1 : d'.extract 0 d.size = d' := by rw [← hsz]; exact Array.extract_size
  rw [e1, Array.extract_size] at hperm
  refine ⟨?_, fun p => hperm.mem_iff⟩
  have hn' : (d'.toList.map Due.plc).Nodup := (hperm.map _).nodup_iff.2 hn
  unfold Up
  rw [List.pairwise_iff_getElem]
  intro i j hi hj hij
  have hi' : i < d'.size := by simpa using hi
  have hj' : j < d'.size := by simpa using hj
  have := hS i j (Nat.zero_le _) hij (by omega)
  rw [getElem!_pos d' j hj', getElem!_pos d' i hi', lt_cmpD] at this
  have hne := (List.pairwise_iff_getElem.1 hn') i j hi hj hij
  simp only [List.getElem_map, Array.getElem_toList] at hne ⊢
  rcases ltP_tot hne with k | k
  · exact k
  · rw [this] at k; cases k
set_option maxRecDepth 10000 in
set_option maxHeartbeats 1000000 in
theorem sortD_any (base g cap : Nat) (cur : Array Value) (xs : List Due) (w : World) (hbase : base ≤ g) (hb : w.heap[g]? = some (.cells cur dueT.e (0, 0))) (h1 : xs.length ≤ cap) (h2 : cap ≤ maxLen) (h3 : cur.size = cap * dueT.sz) (ht : cur.toList.take (xs.length * dueT.sz) = xs.flatMap dueT.enc) (hn : (xs.map Due.plc).Nodup) (hl : xs.length ≤ 100000) :
    Calls Tryz.prog 43 #[.slice (some ⟨g, 0, none⟩) xs.length cap, .func (.func 44) #[] #[]] w fun e w' => e = .returned (.tuple #[]) ∧ ∃ ys, ys.length = xs.length ∧ Up (ys.map Due.plc) ∧ (∀ p, p ∈ ys ↔ p ∈ xs) ∧ Own dueT w' base (.slice (some ⟨g, 0, none⟩) xs.length cap) ys ∧ w.grownBy w' (some g) := by
  have hH : HoldsK dueT.enc dueT.sz w g 0 xs.toArray := own_holds hb ht
  have hg : g < w.heap.size := (Array.getElem?_eq_some_iff.1 hb).1
  have hz : xs.toArray.size = xs.length := by simp
  have := AnyQ.slices_SortFunc Tryz.dueSort dueT.sz (fun w => Tryz.isAgg39 w) (fun w => Tryz.sizeOf39 w) dueT.enc dueT.len dueT.one cmpD swoD 44 #[] g 0 cap xs.toArray w (enters_of Tryz.func44 (by kernel_rfl) rfl)
    (fun m os dk _ x y => due_grow x.who x.asset y.who y.asset x.amount y.amount _) hH hg (by simp; omega)
  rw [hz] at this
  refine this.mono ?_
  rintro e w' ⟨rfl, d', n, os, hP, hS, rfl⟩
  rw [← hz] at hP hS
  obtain ⟨hU, hM⟩ := sorted_upD (d := xs.toArray) (by simpa using hn) hP hS
  obtain ⟨ho, hgr⟩ := own_sorted (T := dueT) (W := w) (base := base) (g := g) (cap := cap) (cur := cur) (n := xs.length) (d := d') ⟨n, os, rfl⟩ (by have := hP.1; simpa using this) hbase hb h1 h2 h3
  exact ⟨rfl, d'.toList, by have := hP.1; simpa using this, hU, fun p => by rw [hM p], ho, hgr⟩
theorem nodup_len {α : Type} [DecidableEq α] : ∀ {a b : List α}, a.Nodup → (∀ x ∈ a, x ∈ b) → a.length ≤ b.length
  | [], _, _, _ => Nat.zero_le _
  | x :: a, b, hn, h => by
    obtain ⟨h1, h2⟩ := List.nodup_cons.1 hn
    have hx := h x (by simp)
    have ih := nodup_len (b := b.erase x) h2 (fun y hy => (List.mem_erase_of_ne (fun e => h1 (by rw [← e]; exact hy))).2 (h y (by simp [hy])))
    rw [List.length_erase_of_mem hx] at ih
    have := List.length_pos_of_mem hx
    rw [List.length_cons]
    omega
set_option maxRecDepth 10000 in
set_option maxHeartbeats 1000000 in
theorem insD_nil (Y : Option Addr) (cy : Nat) (w : World) (f : Value) :
    Calls Tryz.prog 74 #[.slice Y 0 cy, .int .i64 0, .int .i64 0, f] w fun e w' => e = .returned (.tuple #[]) ∧ w = w' := by
  go_enter Tryz.func74, Tryz.ntmps74
  go_wp2
  go_loop [8] (fun i => i = .int .i64 1) (fun _ => 0)
  case atStart => rfl
  case round =>
    subst hrel
    go_wp2
    first | go_end0 | (refine bodyPost_ret (results_none rfl _ _ _) rfl ?_)
    exact ⟨rfl, rfl⟩
set_option maxRecDepth 10000 in
set_option maxHeartbeats 1000000 in
theorem pdqD_nil (Y : Option Addr) (cy : Nat) (w : World) (f : Value) :
    Calls Tryz.prog 61 #[.slice Y 0 cy, .int .i64 0, .int .i64 0, .int .i64 0, f] w fun e w' => e = .returned (.tuple #[]) ∧ w = w' := by
  go_enter Tryz.func61, Tryz.ntmps61
  go_wp2_with fail
  go_loop [1, 2, 3] (fun a b _ => a = .int .i64 0 ∧ b = .int .i64 0) (fun _ _ _ => 0)
  case atStart => exact ⟨rfl, rfl⟩
  case round =>
    obtain ⟨rfl, rfl⟩ := hrel
    go_wp2_with fail
    refine (insD_nil Y cy w f).mono ?_
    rintro e _ ⟨rfl, rfl⟩
    go_wp2
    first | go_end0 | (refine bodyPost_ret (results_none rfl _ _ _) rfl ?_)
    exact ⟨rfl, rfl⟩
set_option maxRecDepth 10000 in
set_option maxHeartbeats 1000000 in
theorem sortD_nil (Y : Option Addr) (cy : Nat) (w : World) :
    Calls Tryz.prog 43 #[.slice Y 0 cy, .func (.func 44) #[] #[]] w fun e w' => e = .returned (.tuple #[]) ∧ w = w' := by
  go_enter Tryz.func43, Tryz.ntmps43
  go_wp2_with fail
  have hl : Calls Tryz.prog 62 #[.int .u64 0] w fun e w' => e = .returned (.int .i64 0) ∧ w' = w := by
    have h := Any.bits_Len (SlLaysF0.n15.bits (P := Tryz.prog) (ρ := Tryz.dueSort_ren) { Tryz.dueSort with }) 0 w (by omega) (by omega)
    exact h
  refine hl.mono ?_
  rintro e _ ⟨rfl, rfl⟩
  clear hl
  go_wp2_with fail
  refine (pdqD_nil Y cy _ _).mono ?_
  rintro e _ ⟨rfl, rfl⟩
  go_wp2
  first | go_end0 | (refine bodyPost_ret (results_none rfl _ _ _) rfl ?_)
  exact ⟨rfl, rfl⟩
end Go.Proofs.YtnpinolhhnpniaaGreat
