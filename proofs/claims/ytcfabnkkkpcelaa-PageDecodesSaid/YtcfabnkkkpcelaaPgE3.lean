/- page.laid: the walk; page.body, of every kind. -/
import Derived.Test.YtcfabnkkkpcelaaPgM
import Derived.Test.YtcfabnkkkpcelaaBox
import Derived.Laws.CopyRow
import Derived.Deep.DeepCutAuto
set_option linter.unusedSimpArgs false
set_option linter.unusedVariables false
namespace Go.Proofs.Ytcfabnkkkpcelaa
open Go.RowKit Go.Maps
/-! ### bytes put into a list -/
def putL (L : List Int) (o : Nat) (b : List Int) : List Int := L.take o ++ b ++ L.drop (o + b.length)
theorem putL_len {L : List Int} {o : Nat} {b : List Int} (h : o + b.length ≤ L.length) : (putL L o b).length = L.length := by
  simp only [putL, List.length_append, List.length_take, List.length_drop]
  omega
theorem putL_get {L : List Int} {o : Nat} {b : List Int} (h : o + b.length ≤ L.length) (i : Nat) : (putL L o b).getD i 0 = if o ≤ i ∧ i < o + b.length then b.getD (i - o) 0 else L.getD i 0 := by
  simp only [putL, List.getD_eq_getElem?_getD, List.getElem?_append, List.length_append, List.length_take, List.getElem?_take, List.getElem?_drop]
  have e : min o L.length = o := by omega
  rw [e]
  by_cases h1 : i < o
  · rw [if_pos (by omega), if_pos h1, if_pos h1, if_neg (by omega)]
  · by_cases h2 : i < o + b.length
    · rw [if_pos h2, if_neg h1, if_pos ⟨by omega, h2⟩]
    · rw [if_neg h2, if_neg (by omega)]
      have : o + b.length + (i - (o + b.length)) = i := by omega
      rw [this]
def byteV (L : List Int) : List Value := L.map (Value.int .u8)
theorem bytesInfo : ∃ i, Try.prog.info? 5 = some i ∧ i.zero = some (.int .u8 0) ∧ i.size = 1 ∧ i.bytes = 1 := by
  have h : (Try.prog.info? 5).map (fun i => (i.zero, i.size, i.bytes)) = some (some (.int .u8 0), 1, 1) := by kernel_rfl
  obtain ⟨i, hi, e⟩ := Option.map_eq_some_iff.1 h
  simp only [Prod.mk.injEq] at e
  exact ⟨i, hi, e.1, e.2.1, e.2.2⟩
theorem madeOneB (z : Value) (n : Nat) : madeCells #[z] n = (List.replicate n z).toArray := by
  apply Array.ext
  · simp [madeCells]
  · intro i h1 h2
    simp [madeCells, Nat.mod_one]
theorem mkBytes (n : Nat) (hn : n ≤ 1000000) (W : World) : (Instr.makeSlice 30 (.int .i64 (n : Int)) (.int .i64 (n : Int))).run Try.prog W = .ok (.slice (some ⟨W.heap.size, 0, none⟩) n n) (W.alloc (.cells (byteV (List.replicate n 0)).toArray 5)) := by
  obtain ⟨i, hi, hz, hs, hb⟩ := bytesInfo
  have h := run_makeSlice (P := Try.prog) W 30 5 i (.int .u8 0) (by kernel_rfl) hi hz .i64 .i64 (n : Int) (n : Int) (by omega) (by omega) (by rw [hs]; omega) (by rw [hb]; omega) (by omega)
  rw [hs] at h
  have e : ((n : Int).toNat * 1) = n * 1 := by simp
  have e2 : madeCells (Value.int .u8 0).cells (n * 1) = (byteV (List.replicate n 0)).toArray := by
    rw [show (Value.int .u8 0).cells = #[Value.int .u8 0] from rfl, madeOneB, Nat.mul_one, byteV, List.map_replicate]
  rw [e, e2] at h
  simpa using h
theorem cutB (g n at_ : Nat) (h : at_ < n) (W : World) : (Instr.slice 30 (.slice (some ⟨g, 0, none⟩) n n) (some (.int .i64 (at_ : Int))) none none).run Try.prog W = .ok (.slice (some ⟨g, at_, none⟩) (n - at_) (n - at_)) W := by
  have hel : Try.prog.elem 30 = byteT.e := by simp [Program.elem, byteS.ut]
  have hu : Try.prog.underlying 30 = some (.slice (Try.prog.elem 30)) := by rw [hel]; exact byteS.ut
  obtain ⟨i, hi, hsz⟩ := byteS.size
  rw [run_slice_l W 30 (some ⟨g, 0, none⟩) n n hu .i64 (at_ : Int) (Int.natCast_nonneg _) (by omega), hel]
  have h1 : ¬ n = at_ := by omega
  have h2 : byteT.sz = 1 := rfl
  simp [sizeOf, typeInfo, hi, hsz, sliced, Result.andThen, h1, h2, add0]
section
variable {ops : Array Oper} {rest : List Oper} {o : Oper} {a : Act} {Q : Exit → Act → World → Prop}
/-- What a copy leaves. -/
theorem run_cp {w W : World} {ty : TypeId} {g at_ dLen dCap : Nat} {A : Option Addr} {m c : Nat} {bs L : List Int} (hx : Bx W g 5 (byteV L)) (hR : Row byteT W A m bs) (hm : m ≤ dLen) (hfit : at_ + m ≤ L.length) (hp : 0 < m) (hB : Bel w W) (hg : w.heap.size ≤ g) :
    ∃ w1, (Builtin.copy_ #[30, 30] ty #[.slice (some ⟨g, at_, none⟩) dLen dCap, .slice A m c]).run Try.prog W = .ok (goInt m) w1 ∧ Bx w1 g 5 (byteV (putL L at_ bs)) ∧ Bel w w1 ∧ W.grownBy w1 (some g) := by
  obtain ⟨ad, rfl, hc⟩ := hR.2.2 hp
  have hlen : bs.length = m := hR.1
  have hi : (Try.prog.info? byteT.e).map (·.size) = some 1 := by
    obtain ⟨i, hi, _, hs, _⟩ := bytesInfo
    show (Try.prog.info? 5).map (·.size) = some 1
    rw [hi]
    simp [hs]
  have hr := run_copy_row (P := Try.prog) W 30 30 ty byteT.e g at_ dLen dCap ad m c (byteV L).toArray 5 (byteV bs) byteS.ut hi hx (by rw [byteV, List.length_map, hlen]; exact (Nat.min_eq_left hm).symm)
    (fun j v hv => by
      unfold byteV at hv
      rw [List.getElem?_map] at hv
      obtain ⟨x, hxj, rfl⟩ := Option.map_eq_some_iff.1 hv
      have := hc j x hxj 0 _ rfl
      simpa [byteT] using this)
    (by simp [byteV, hlen]; exact hfit) (fun v hv => by
      unfold byteV at hv
      obtain ⟨x, _, rfl⟩ := List.mem_map.1 hv
      rfl)
  rw [show (byteV bs).length = m by rw [byteV, List.length_map, hlen]] at hr
  have hg2 : W.grownBy (W.setRow g ((byteV L).toArray.toList.take at_ ++ byteV bs ++ (byteV L).toArray.toList.drop (at_ + m)).toArray) (some g) :=
    ⟨rfl, rfl, rfl, by simp, fun k _ hk => setRow_other W g k _ (fun e => hk (by rw [e]))⟩
  refine ⟨_, hr, ?_, hB.grown_ hg2 (fun k e => by injection e with e; omega), hg2⟩
  have := setRow_heap W g _ ((byteV L).toArray.toList.take at_ ++ byteV bs ++ (byteV L).toArray.toList.drop (at_ + m)).toArray _ _ hx
  unfold Bx
  rw [this]
  congr 2
  rw [putL, hlen]
  simp [byteV, List.map_append, List.map_take, List.map_drop]
theorem wpCopy {w W : World} (hgd : o.guard = none) (d s : Operand) (ho : o.op = .call { callee := .builtin .copy, args := #[d, s], argTypes := #[30, 30] })
    {g at_ dLen dCap : Nat} {A : Option Addr} {m c : Nat} {bs L : List Int} (hd : a.eval d = .slice (some ⟨g, at_, none⟩) dLen dCap) (hs : a.eval s = .slice A m c)
    (hx : Bx W g 5 (byteV L)) (hR : Row byteT W A m bs) (hm : m ≤ dLen) (hfit : at_ + m ≤ L.length) (hp : 0 < m) (hB : Bel w W) (hg : w.heap.size ≤ g)
    (h : ∀ w1, Bx w1 g 5 (byteV (putL L at_ bs)) → Bel w w1 → W.grownBy w1 (some g) → wpList Try.prog ops Q rest (a.put o.dst (goInt m)) w1) :
    wpList Try.prog ops Q (o :: rest) a W := by
  obtain ⟨w1, hr, h1, h2, h3⟩ := run_cp (ty := o.type) (dCap := dCap) (c := c) hx hR hm hfit hp hB hg
  refine wpList_plain hgd fun K hK => ?_
  unfold Oper.wp execOp
  simp only [ho, resolve, invoke, builtin, Sem.run_bind, Sem.run_pure, Result.andThen_ok, List.map_toArray, List.map_cons, List.map_nil, hd, hs, hr]
  exact hK _ _ (h w1 h1 h2 h3)
end
theorem wfSmall (a : Int) (h0 : 0 ≤ a) (h1 : a < 2000) : (Lit.int .i64 a).wf = true := by
  have e1 : IntKind.i64.min = -9223372036854775808 := rfl
  have e2 : IntKind.i64.max = 9223372036854775807 := rfl
  simp only [Lit.wf, Bool.and_eq_true, decide_eq_true_eq, e1, e2]
  omega
theorem repl_get (n i : Nat) : (List.replicate n (0 : Int)).getD i 0 = 0 := by
  rw [List.getD_eq_getElem?_getD, List.getElem?_replicate]
  split <;> rfl
theorem repl_len : (List.replicate 1024 (0 : Int)).length = 1024 := List.length_replicate
structure Part where
  at_ : Nat
  A : Option Addr
  m : Nat
  c : Nat
  bs : List Int
def Part.ent (p : Part) : Int × Value := ((p.at_ : Int), .slice p.A p.m p.c)
structure PartOk (w : World) (p : Part) : Prop where
  row : Row byteT w p.A p.m p.bs
  cap : p.m ≤ p.c
  pos : 0 < p.m
  fit : p.at_ + p.m ≤ 1024
def PartsW (w : World) (ps : List Part) : Prop :=
  (∀ p ∈ ps, PartOk w p) ∧ ∀ p ∈ ps, ∀ q ∈ ps, (p.at_ = q.at_ → p = q) ∧ (p.at_ ≠ q.at_ → p.at_ + p.m ≤ q.at_ ∨ q.at_ + q.m ≤ p.at_)
/-- The parts whose places are in dn are laid, and 0 stands elsewhere. -/
structure LaidL (ps : List Part) (dn : List Int) (L : List Int) : Prop where
  len : L.length = 1024
  on : ∀ p ∈ ps, (p.at_ : Int) ∈ dn → ∀ j, j < p.m → L.getD (p.at_ + j) 0 = p.bs.getD j 0
  off : ∀ i, (∀ p ∈ ps, (p.at_ : Int) ∈ dn → ¬ (p.at_ ≤ i ∧ i < p.at_ + p.m)) → L.getD i 0 = 0
theorem LaidL.step {w : World} {ps : List Part} {dn L : List Int} (h : LaidL ps dn L) (hw : PartsW w ps) {p : Part} (hp : p ∈ ps) (hd : (p.at_ : Int) ∉ dn) : LaidL ps (dn ++ [(p.at_ : Int)]) (putL L p.at_ p.bs) := by
  have hok := hw.1 p hp
  have hlb : p.bs.length = p.m := hok.row.1
  have hfit : p.at_ + p.bs.length ≤ L.length := by rw [hlb, h.len]; exact hok.fit
  refine ⟨by rw [putL_len hfit, h.len], fun q hq hqd j hj => ?_, fun i hi => ?_⟩
  · rw [putL_get hfit, hlb]
    by_cases e : q.at_ = p.at_
    · have := (hw.2 q hq p hp).1 e
      subst this
      rw [if_pos (by omega)]
      congr 1
      omega
    · have hqd' : (q.at_ : Int) ∈ dn := by
        rcases List.mem_append.1 hqd with h' | h'
        · exact h'
        · simp only [List.mem_singleton] at h'
          omega
      have := (hw.2 q hq p hp).2 e
      rw [if_neg (by omega)]
      exact h.on q hq hqd' j hj
  · rw [putL_get hfit, hlb, if_neg (hi p hp (List.mem_append.2 (.inr (List.mem_singleton.2 rfl))))]
    exact h.off i (fun q hq hqd => hi q hq (List.mem_append.2 (.inl hqd)))
set_option maxRecDepth 10000 in
set_option maxHeartbeats 2000000 in
theorem laid_any (b n : Nat) (D : DataW Value) (ps : List Part) (w : World) (hM : MapH w b n D (ps.map Part.ent)) (hb : b < w.heap.size) (hw : PartsW w ps) :
    Calls Try.prog 23 #[.map (some b)] w fun e w' => ∃ g L, e = .returned (.slice (some ⟨g, 0, none⟩) 1024 1024) ∧ w.heap.size ≤ g ∧ Bx w' g 5 (byteV L) ∧ LaidL ps (ps.map (fun p => (p.at_ : Int))) L ∧ Bel w w' := by
  have hmk : ∀ W : World, (Instr.makeSlice 30 (.int .i64 1024) (.int .i64 1024)).run Try.prog W = .ok (.slice (some ⟨W.heap.size, 0, none⟩) 1024 1024) (W.alloc (.cells (byteV (List.replicate 1024 0)).toArray 5)) := fun W => mkBytes 1024 (by omega) W
  have HW := hid_ hw
  have hwf : wfK (ps.map Part.ent) := fun x hx => by
    obtain ⟨p, hp, rfl⟩ := List.mem_map.1 hx
    have := (hw.1 p hp).fit
    exact wfSmall _ (by show (0 : Int) ≤ (p.at_ : Int); omega) (by show (p.at_ : Int) < 2000; omega)
  have HWF := hid_ hwf
  have HMM := hid_ hM
  obtain ⟨l, hl⟩ : ∃ l, ps.map Part.ent = l := ⟨_, rfl⟩
  rw [hl] at HWF HMM
  have HLE := hid_ hl
  clear hwf hw hM hl
  obtain ⟨cs, hcs⟩ : ∃ cs, byteV (List.replicate 1024 0) = cs := ⟨_, rfl⟩
  rw [hcs] at hmk
  have HCS := hid_ hcs
  clear hcs
  go_enter Try.func23, Try.ntmps23
  have HMK := hid_ hmk
  have bx0 := Bx.new w 5 cs
  have hB0 : Bel w (w.alloc (.cells cs.toArray 5)) := (Bel.refl w).alloc _
  have hM1 : MapH (w.alloc (.cells cs.toArray 5)) b n D l := HMM.out.kept (grown_of_bel hB0 none) (by simp)
  have hsz : (w.alloc (.cells cs.toArray 5)).heap.size = w.heap.size + 1 := by simp
  go_wp2_with (first | (at_range; refine wpRangeH rfl _ rfl rfl hM1 ?_; intro w1 hrg1 hg1 hs1))
  rw [hsz] at hrg1 ⊢
  have hB1 : Bel w w1 := Below.grown hB0 hg1 hB0.size (fun k e => by cases e)
  have bx1 : Bx w1 w.heap.size 5 cs := by
    unfold Bx at bx0 ⊢
    rw [hg1.block _ (by rw [hsz]; omega) (by simp)]
    exact bx0
  have HR1 := hid_ hrg1
  have HB1 := hid_ hB1
  have HX1 := hid_ bx1
  have HG : Hid (b < w.heap.size) := hid_ hb
  clear hmk HMK bx0 hB0 hM1 hsz hg1 hs1 hrg1 hB1 bx1 hb HMM
  obtain ⟨g, hg⟩ : ∃ g, w.heap.size = g := ⟨_, rfl⟩
  rw [hg] at HR1 HX1 HG ⊢
  have HGE := hid_ (Nat.le_of_eq hg)
  clear hg
  go_frame
  go_loopw [4, 5] (fun _ _ wr => ∃ (dn : List Int) (cnt : Nat) (L : List Int), Hid (RngH wr b (g + 1) n D l dn cnt) ∧ Hid (Bx wr g 5 (byteV L)) ∧ Hid (LaidL ps dn L) ∧ Hid (Bel w wr) ∧ Hid (∀ k ∈ dn, ∃ p ∈ ps, k = (p.at_ : Int))) (fun _ _ wr => wr.rangeLeft b (g + 1))
  case atStart => exact ⟨[], _, List.replicate 1024 0, HR1, by rw [HCS.out]; exact HX1, hid_ ⟨repl_len, fun p _ h => absurd h (List.not_mem_nil), fun i _ => repl_get _ _⟩, HB1, hid_ (by simp)⟩
  case round =>
    obtain ⟨dn, cnt, L, hR, hX, hL, hB, hD⟩ := hrel
    clear HR1 HX1 HB1
    go_wp2_with (first | (at_next; refine wpNextH rfl _ rfl rfl HWF.out hR.out ?_ ?_))
    · intro hc0 hall
      have HL : Hid (LaidL ps (ps.map (fun p => (p.at_ : Int))) L) := hid_ ⟨hL.out.len, fun p hp _ => hL.out.on p hp (hall _ _ (by rw [← HLE.out]; exact List.mem_map.2 ⟨p, hp, rfl⟩)), fun i hi => hL.out.off i (fun p hp hpd => hi p hp (List.mem_map.2 ⟨p, hp, rfl⟩))⟩
      clear hc0 hall hR hL
      go_wp2
      go_ret
      exact ⟨g, L, rfl, HGE.out, hX.out, HL.out, hB.out⟩
    · intro key vv w2 cnt' hx hd hrg2 hlt hg2 hs2 hen
      rw [← HLE.out] at hx
      obtain ⟨p, hp, hpe⟩ := List.mem_map.1 hx
      simp only [Part.ent, Prod.mk.injEq] at hpe
      obtain ⟨rfl, rfl⟩ := hpe
      have hok := HW.out.1 p hp
      have B2 : Bel w w2 := Below.grown hB.out hg2 hB.out.size (fun k e => by injection e with e; have := HGE.out; omega)
      have X2 : Bx w2 g 5 (byteV L) := by
        have h1 := hX.out
        unfold Bx at h1 ⊢
        rw [hg2.block g (Array.getElem?_eq_some_iff.1 h1).1 (by simp)]
        exact h1
      have HR2 := hid_ hrg2
      have HB2 := hid_ B2
      have HX2 := hid_ X2
      have HRW := hid_ (hok.row.bel B2)
      have HZ2 : Hid (cnt' < cnt ∧ wr.rangeLeft b (g + 1) = cnt) := hid_ ⟨hlt, hR.out.left_eq⟩
      have HST := hid_ (hL.out.step HW.out hp hd)
      have HFT : Hid (p.at_ + p.m ≤ L.length) := hid_ (by rw [hL.out.len]; exact hok.fit)
      have hcut := cutB g 1024 p.at_ (by have := hok.fit; have := hok.pos; omega) w2
      have hmf : p.m ≤ 1024 - p.at_ := by have := hok.fit; omega
      have HMF := hid_ hmf
      have HPP := hid_ hok.pos
      have HD2 : Hid (∀ k ∈ dn ++ [(p.at_ : Int)], ∃ p ∈ ps, k = (p.at_ : Int)) := hid_ (fun k hk => by
        rcases List.mem_append.1 hk with hk | hk
        · exact hD.out k hk
        · simp at hk; exact ⟨p, hp, hk⟩)
      clear hx hd hrg2 hlt hg2 hs2 hR hX hB hok B2 X2 hmf hL hD
      obtain ⟨w3, hcp, hx3, hb3, hg3⟩ := run_cp (ty := 3) (dLen := 1024 - p.at_) (dCap := 1024 - p.at_) (c := p.c) HX2.out HRW.out HMF.out HFT.out HPP.out HB2.out HGE.out
      have HX3 := hid_ hx3
      have HB3 := hid_ hb3
      have HG3 := hid_ hg3
      clear hx3 hb3 hg3
      go_wp2
      case roundEnd =>
        go_roundw
        case rel => exact ⟨dn ++ [(p.at_ : Int)], cnt', putL L p.at_ p.bs, hid_ (HR2.out.kept HG3.out (by simp; have := HG.out; omega) (by simp)), HX3, HST, HB3, HD2⟩
        case measure => rw [(HR2.out.kept HG3.out (by simp; have := HG.out; omega) (by simp)).left_eq, HZ2.out.2]; exact HZ2.out.1
end Go.Proofs.Ytcfabnkkkpcelaa
