/- Of three lists of as many bytes the sum of their difference is the difference of their sums: for every input. -/
import Derived.Test.YtmjifckmfbfmkaaRows
import Derived.Test.YtmjifckmfbfmkaaAwake
import Derived.Test.YtmjifckmfbfmkaaWd
import Derived.WalkKit
import Derived.ProofKit
import Derived.OpenShut
import Derived.ShutString
import Derived.ChangeOld
import Derived.Below
namespace Go.Proofs.Ytmjifckmfbfmkaa.crcThree
open Go.ChangeShapes Go.WideShapes Go.ChangeAt Go.RowKit
open Go.ChangeMaps (open_string shut_string)
set_option linter.unusedVariables false

theorem own : ownKnob Try.prog.godebug = none := by kernel_rfl
theorem laidOut : laidOutB Try.prog = true := by kernel_rfl

/-- WHAT THE WALK IS TOLD OF A SLICE OF INTEGERS THAT CAME IN: it is nil; or it leads to a row of 'cap' cells, the numbers 'zs' (the first 'len' are its elements, the rest its spare room), each fitting its kind. -/
def IsRow (k : IntKind) (w : World) (a : Option Addr) (len cap : Nat) (zs : List Int) : Prop :=
  (a = none ∧ len = 0 ∧ cap = 0 ∧ zs = []) ∨
  ∃ x, a = some x ∧ len ≤ cap ∧ cap ≤ maxLen ∧ zs.length = cap ∧ (∀ i, i < zs.length → w.cell? (x.add i) = some (.int k (zs.getD i 0))) ∧ ∀ n ∈ zs, (Lit.int k n).wf = true

theorem xor3 {a b c : Int} (ha : 0 ≤ a ∧ a < 256) (hb : 0 ≤ b ∧ b < 256) (hc : 0 ≤ c ∧ c < 256) :
    0 ≤ Go.bits .xor .u8 (Go.bits .xor .u8 a b) c ∧ Go.bits .xor .u8 (Go.bits .xor .u8 a b) c < 256 ∧
      BitVec.ofNat 64 (Go.bits .xor .u8 (Go.bits .xor .u8 a b) c).toNat = BitVec.ofNat 64 a.toNat ^^^ BitVec.ofNat 64 b.toNat ^^^ BitVec.ofNat 64 c.toNat := by
  have h1 : a.toNat ^^^ b.toNat < 2 ^ 8 := Nat.xor_lt_two_pow (by omega) (by omega)
  have h2 : a.toNat ^^^ b.toNat ^^^ c.toNat < 2 ^ 8 := Nat.xor_lt_two_pow h1 (by omega)
  rw [u8_xor a b ha.1 ha.2 hb.1 hb.2, u8_xor _ c (Int.natCast_nonneg _) (by omega) hc.1 hc.2, Int.toNat_natCast]
  refine ⟨by omega, by omega, ?_⟩
  rw [Int.toNat_natCast]
  apply BitVec.eq_of_toNat_eq
  rw [BitVec.toNat_xor, BitVec.toNat_xor]
  simp only [BitVec.toNat_ofNat]
  rw [Nat.mod_eq_of_lt (by omega), Nat.mod_eq_of_lt (by omega), Nat.mod_eq_of_lt (by omega), Nat.mod_eq_of_lt (by omega)]

def zip3 (ps bs cs : List Int) : List Int := (List.range ps.length).map fun i => Go.bits .xor .u8 (Go.bits .xor .u8 (ps.getD i 0) (bs.getD i 0)) (cs.getD i 0)
theorem zip3_take (ps bs cs : List Int) (k : Nat) (hk : k < ps.length) : (zip3 ps bs cs).take (k + 1) = (zip3 ps bs cs).take k ++ [Go.bits .xor .u8 (Go.bits .xor .u8 (ps.getD k 0) (bs.getD k 0)) (cs.getD k 0)] := by
  rw [List.take_add_one]
  congr 1
  simp [zip3, hk]
theorem zip3_take_all (ps bs cs : List Int) : (zip3 ps bs cs).take ps.length = zip3 ps bs cs := List.take_of_length_le (by simp [zip3])

theorem run_three : ∀ (ps bs cs : List Int) (x y z : W64), ps.length = bs.length → ps.length = cs.length → (∀ a ∈ ps, 0 ≤ a ∧ a < 256) → (∀ a ∈ bs, 0 ≤ a ∧ a < 256) → (∀ a ∈ cs, 0 ≤ a ∧ a < 256) →
    run (x ^^^ y ^^^ z) (zip3 ps bs cs) = run x ps ^^^ run y bs ^^^ run z cs
  | [], [], [], x, y, z, _, _, _, _, _ => rfl
  | a :: ps, b :: bs, c :: cs, x, y, z, h1, h2, ha, hb, hc => by
    have hz : zip3 (a :: ps) (b :: bs) (c :: cs) = Go.bits .xor .u8 (Go.bits .xor .u8 a b) c :: zip3 ps bs cs := by
      simp [zip3, List.range_succ_eq_map, Function.comp_def]
    rw [hz]
    have hx := xor3 (ha a (by simp)) (hb b (by simp)) (hc c (by simp))
    have h3 := byt_three x y z a b c _ hx.2.2
    have h4 := run_three ps bs cs (byt x a) (byt y b) (byt z c) (by simpa using h1) (by simpa using h2) (fun u hu => ha u (by simp [hu])) (fun u hu => hb u (by simp [hu])) (fun u hu => hc u (by simp [hu]))
    show run (byt (x ^^^ y ^^^ z) _) (zip3 ps bs cs) = _
    rw [h3, h4]
    rfl
  | [], _ :: _, _, _, _, _, h, _, _, _, _ => by simp at h
  | [], [], _ :: _, _, _, _, _, h, _, _, _ => by simp at h
  | _ :: _, [], _, _, _, _, h, _, _, _, _ => by simp at h
  | _ :: _, _ :: _, [], _, _, _, _, h, _, _, _ => by simp at h
theorem more_three {ps bs cs : List Int} (h1 : ps.length = bs.length) (h2 : ps.length = cs.length) (ha : ∀ a ∈ ps, 0 ≤ a ∧ a < 256) (hb : ∀ a ∈ bs, 0 ≤ a ∧ a < 256) (hc : ∀ a ∈ cs, 0 ≤ a ∧ a < 256) :
    Go.bits .xor .u64 (Go.bits .xor .u64 (uv (more 0#64 ps)) (uv (more 0#64 bs))) (uv (more 0#64 cs)) = uv (more 0#64 (zip3 ps bs cs)) := by
  rw [xorU, xorU]
  congr 1
  unfold more
  have h := run_three ps bs cs (~~~ 0#64) (~~~ 0#64) (~~~ 0#64) h1 h2 ha hb hc
  have e : (~~~ 0#64 : W64) ^^^ ~~~ 0#64 ^^^ ~~~ 0#64 = ~~~ 0#64 := by decide
  rw [e] at h
  rw [h]
  generalize run (~~~ 0#64) ps = p
  generalize run (~~~ 0#64) bs = q
  generalize run (~~~ 0#64) cs = r
  apply BitVec.eq_of_getLsbD_eq
  intro i hi
  simp only [BitVec.getLsbD_xor, BitVec.getLsbD_not, hi, decide_true, Bool.true_and]
  cases p.getLsbD i <;> cases q.getLsbD i <;> cases r.getLsbD i <;> rfl
theorem zip3_bytes {ps bs cs : List Int} (h1 : ps.length = bs.length) (h2 : ps.length = cs.length) (ha : ∀ a ∈ ps, 0 ≤ a ∧ a < 256) (hb : ∀ a ∈ bs, 0 ≤ a ∧ a < 256) (hc : ∀ a ∈ cs, 0 ≤ a ∧ a < 256) : ∀ x ∈ zip3 ps bs cs, 0 ≤ x ∧ x < 256 := by
  intro x hx
  simp only [zip3, List.mem_map, List.mem_range] at hx
  obtain ⟨i, hi, rfl⟩ := hx
  have g : ∀ (l : List Int), (∀ a ∈ l, 0 ≤ a ∧ a < 256) → i < l.length → 0 ≤ l.getD i 0 ∧ l.getD i 0 < 256 := fun l hl hil => by
    rw [List.getD_eq_getElem?_getD, List.getElem?_eq_getElem hil]
    exact hl _ (List.getElem_mem _)
  have := xor3 (g ps ha hi) (g bs hb (by omega)) (g cs hc (by omega))
  exact ⟨this.1, this.2.1⟩

def byteT : Ty Int := { e := 5, sz := 1, enc := fun b => [.int .u8 b], pos := by decide, len := fun _ => rfl, one := fun x u hu => by simp at hu; subst hu; rfl }
theorem byteS : SlT Try.prog 23 byteT 1 (.int .u8 0) := ⟨Try.underlying23, by kernel_rfl, rfl, by decide⟩
theorem row_byts {w : World} {A : Option Addr} {n : Nat} {bs : List Int} (h : Row byteT w A n bs) (hb : ∀ b ∈ bs, 0 ≤ b ∧ b < 256) : Byts w A n bs := by
  refine ⟨h.1, h.2.1, fun hn => ?_, hb⟩
  obtain ⟨ad, e, hc⟩ := h.2.2 hn
  refine ⟨ad, e, fun j hj => ?_⟩
  have hl : j < bs.length := by rw [h.1]; exact hj
  have := hc j _ (List.getElem?_eq_getElem hl) 0 _ rfl
  simp only [byteT, Nat.mul_one, Nat.add_zero] at this
  rw [this, List.getD_eq_getElem?_getD, List.getElem?_eq_getElem hl]
  rfl
theorem cellK {w : World} {A : Option Addr} {n : Nat} {bs : List Int} (h : Byts w A n bs) {k : Nat} (hk : k < n) : ∃ ad, A = some ad ∧ w.cell? (ad.add k) = some (.int .u8 (bs.getD k 0)) := by
  obtain ⟨ad, e, hc⟩ := h.2.2.1 (by omega)
  exact ⟨ad, e, hc k hk⟩

set_option maxHeartbeats 2000000 in
theorem walk (a0 : Option Addr) (len0 cap0 : Nat) (z0 : List Int) (a1 : Option Addr) (len1 cap1 : Nat) (z1 : List Int) (a2 : Option Addr) (len2 cap2 : Nat) (z2 : List Int) (w : World) (w0 : IsRow .u8 w a0 len0 cap0 z0) (w1 : IsRow .u8 w a1 len1 cap1 z1) (w2 : IsRow .u8 w a2 len2 cap2 z2) :
    Calls Try.prog 7 #[.slice a0 len0 cap0, .slice a1 len1 cap1, .slice a2 len2 cap2] w fun e w' => e = .returned (.bool true) ∧ Below w.heap.size w w' := by
  obtain ⟨hA, _⟩ := byts_arg w0
  obtain ⟨hB, _⟩ := byts_arg w1
  obtain ⟨hC, _⟩ := byts_arg w2
  clear w0 w1 w2
  generalize z0.take len0 = ps at hA
  generalize z1.take len1 = bs at hB
  generalize z2.take len2 = cs at hC
  go_enter Try.func7, Try.ntmps7
  go_wp2_with fail
  refine (awake_any _).mono ?_
  rintro e wa ⟨rfl, hb1⟩
  by_cases hl : 3000 < len0
  · go_wp2
    go_ret
    exact ⟨rfl, hb1⟩
  · by_cases h1 : len0 = len1
    · by_cases h2 : len0 = len2
      · subst h1 h2
        have e1 : ps.length = bs.length := by rw [hA.1, hB.1]
        have e2 : ps.length = cs.length := by rw [hA.1, hC.1]
        go_wp2
        go_loopw [8, 9] (fun v i wr => ∃ k : Nat, k ≤ len0 ∧ i = .int .i64 k ∧ Own byteT wr w.heap.size v ((zip3 ps bs cs).take k) ∧ Bel w wr) (fun _ i _ => len0 - (intOf i).toNat)
        case atStart => exact ⟨0, by omega, rfl, Own.nil_ _ _ _, hb1⟩
        case round =>
          obtain ⟨k, hk, rfl, hO, hbr⟩ := hrel
          by_cases hkn : k < len0
          · obtain ⟨adA, rfl, cA⟩ := cellK hA hkn
            obtain ⟨adB, rfl, cB⟩ := cellK hB hkn
            obtain ⟨adC, rfl, cC⟩ := cellK hC hkn
            have hz := zip3_take ps bs cs k (by rw [hA.1]; exact hkn)
            have hzl : ((zip3 ps bs cs).take k).length = k := by simp [zip3, hA.1]; omega
            generalize ps.getD k 0 = pa at *
            generalize bs.getD k 0 = pb at *
            generalize cs.getD k 0 = pc at *
            clear hA hB hC
            have hkn' : (k : Int) < (len0 : Int) := by omega
            have hk0 : (0 : Int) ≤ (k : Int) := by omega
            go_wp2
            go_region_held3 (fun W => W.cell? (adA.add k) = some (.int .u8 pa) ∧ W.cell? (adB.add k) = some (.int .u8 pb) ∧ W.cell? (adC.add k) = some (.int .u8 pc))
              (first | exact ⟨hbr.drew.cell_ cA, hbr.drew.cell_ cB, hbr.drew.cell_ cC⟩ | exact ⟨(hbr.drew.alloc _).cell_ cA, (hbr.drew.alloc _).cell_ cB, (hbr.drew.alloc _).cell_ cC⟩ | exact ⟨hb2.cell_ cA, hb2.cell_ cB, hb2.cell_ cC⟩)
              (first | (refine stepApp (w0 := w) byteS rfl _ _ rfl _ ((zip3 ps bs cs).take k) [Go.bits .xor .u8 (Go.bits .xor .u8 pa pb) pc] (some ⟨wr.heap.size, 0, none⟩) 1 1 rfl rfl (hO.bel ((Bel.refl _).drew.alloc _)) (Row.one (W := wr.drew) _ rfl rfl) (hbr.drew.alloc _) (by rw [hzl]; omega) ?_; intro v1 w1 hO1 hb2 _ _))
            go_wp2
            case roundEnd =>
              go_roundw
              case rel => exact ⟨k + 1, by omega, by go_num, by rw [hz]; exact hO1, hb2⟩
              case measure => simp [intOf]; omega
          · have : k = len0 := by omega
            subst this
            have hm := more_three e1 e2 hA.2.2.2 hB.2.2.2 hC.2.2.2
            have hzb := zip3_bytes e1 e2 hA.2.2.2 hB.2.2.2 hC.2.2.2
            have hall : (zip3 ps bs cs).take k = zip3 ps bs cs := by rw [← hA.1]; exact zip3_take_all ps bs cs
            rw [hall] at hO
            obtain ⟨X, c, rfl, _, hX⟩ := hO.reads
            have hXb := row_byts hX hzb
            generalize zip3 ps bs cs = zs at *
            have q1 := fun W (h : Bel wr W) => sum_any X zs.length c zs W (hXb.below h)
            have q2 := fun W (h : Bel wr W) => sum_any a0 k cap0 ps W ((hA.below hbr).below h)
            have q3 := fun W (h : Bel wr W) => sum_any a1 k cap1 bs W ((hB.below hbr).below h)
            have q4 := fun W (h : Bel wr W) => sum_any a2 k cap2 cs W ((hC.below hbr).below h)
            generalize more 0#64 ps = ma at *
            generalize more 0#64 bs = mb at *
            generalize more 0#64 cs = mc at *
            generalize more 0#64 zs = mz at *
            clear hA hB hC hX hXb hO
            go_wp2_with fail
            refine (q1 _ (Bel.refl _)).mono ?_
            rintro e x1 ⟨rfl, b1⟩
            clear q1
            have d1 : Bel wr x1 := b1
            go_wp2_with fail
            refine (q2 _ d1).mono ?_
            rintro e x2 ⟨rfl, b2⟩
            clear q2
            have d2 : Bel wr x2 := d1.trans b2
            go_wp2_with fail
            refine (q3 _ d2).mono ?_
            rintro e x3 ⟨rfl, b3⟩
            clear q3
            have d3 : Bel wr x3 := d2.trans b3
            go_wp2_with fail
            refine (q4 _ d3).mono ?_
            rintro e x4 ⟨rfl, b4⟩
            clear q4
            have d4 : Bel w x4 := hbr.trans (d3.trans b4)
            go_wp2
            go_ret
            exact ⟨rfl, d4⟩
      · subst h1
        have hd : ((len0 : Int) != (len2 : Int)) = true := by simp; omega
        go_wp2
        go_ret
        exact ⟨rfl, hb1⟩
    · have hd : ((len0 : Int) != (len1 : Int)) = true := by simp; omega
      go_wp2
      go_ret
      exact ⟨rfl, hb1⟩

/-! ### THE ROW's STEP: WRITTEN OUT: LEAVE IT -/
set_option maxRecDepth 100000 in
theorem lifted (os : Os) (started : os.Started) (H : Type) (enc : TypeId × Value → H) :
    ReturnsInHanded {} Try.checked os 7 .any (Rows.crcThreeSpec.pre6 enc Try.prog Try.f7 Rows.crcThreeRow.domain false) (Rows.crcThreeSpec.post enc Try.prog Try.f7 false true false false) := by
  refine returnsInHanded_of_change (C := Try.checked) own started (by kernel_rfl) Try.func7
    (ChangeSpec.witness6 (enc := enc) (C := Try.checked) false ⟨#[], #[.slice none 0 0, .slice none 0 0, .slice none 0 0], []⟩ 8 (by kernel_rfl) (by kernel_rfl) (by kernel_rfl) (by kernel_rfl)) ?_
  intro W base args ds gs before hval0 hW hcnd _
  have hval : ∀ (j : Nat) t v, Try.f7.params[j]? = some t → args[j]? = some v → Value.okWide Try.prog W .any base t v := hval0
  have hW' := hW
  obtain ⟨p, q, hA0, hV, rfl, hfz, hnd⟩ := hW
  have hA : DataW.TrodAll enc Try.prog W 0 (fun _ => true) true Try.f7.params.toList args.toList ds p := hA0
  rw [Try.params7] at hA hval
  obtain ⟨v0, vs0, d0, ds0, p0, q0, hargs, rfl, rfl, h0, r0⟩ := trodAll_cons hA
  obtain ⟨v1, vs1, d1, ds1, p1, q1, rfl, rfl, rfl, h1, r1⟩ := trodAll_cons r0
  obtain ⟨v2, vs2, d2, ds2, p2, q2, rfl, rfl, rfl, h2, r2⟩ := trodAll_cons r1
  obtain ⟨rfl, rfl, rfl⟩ := trodAll_nil r2
  obtain rfl : args = #[v0, v1, v2] := by cases args; simp_all
  obtain ⟨rfl, rfl⟩ := trodVars_none hV
  obtain ⟨a0, len0, cap0, rfl⟩ := okWide_slice Try.underlying23 (hval 0 23 v0 rfl rfl)
  have k0 := h0
  have lt0 : ∀ x ∈ p0, x.block < W.heap.size := by obtain ⟨m, hm⟩ := k0; exact DataW.trod_lt m _ _ _ hm
  obtain ⟨z0, w0⟩ : ∃ zs, IsRow .u8 W a0 len0 cap0 zs := by
    obtain ⟨fuel, hf⟩ := h0
    rcases open_ints Try.underlying23 Try.underlying5 (by kernel_rfl) hf with ⟨hcs, _⟩ | ⟨x, l, c, zs, hcs, _, hl, hm, hz, _, hcell, hwz⟩
    · simp [Value.cells] at hcs
      obtain ⟨rfl, rfl, rfl⟩ := hcs
      exact ⟨[], .inl ⟨rfl, rfl, rfl, rfl⟩⟩
    · simp [Value.cells] at hcs
      obtain ⟨rfl, rfl, rfl⟩ := hcs
      exact ⟨zs, .inr ⟨_, rfl, hl, hm, by simpa using hz, hcell, hwz⟩⟩
  obtain ⟨a1, len1, cap1, rfl⟩ := okWide_slice Try.underlying23 (hval 1 23 v1 rfl rfl)
  have k1 := h1
  have lt1 : ∀ x ∈ p1, x.block < W.heap.size := by obtain ⟨m, hm⟩ := k1; exact DataW.trod_lt m _ _ _ hm
  obtain ⟨z1, w1⟩ : ∃ zs, IsRow .u8 W a1 len1 cap1 zs := by
    obtain ⟨fuel, hf⟩ := h1
    rcases open_ints Try.underlying23 Try.underlying5 (by kernel_rfl) hf with ⟨hcs, _⟩ | ⟨x, l, c, zs, hcs, _, hl, hm, hz, _, hcell, hwz⟩
    · simp [Value.cells] at hcs
      obtain ⟨rfl, rfl, rfl⟩ := hcs
      exact ⟨[], .inl ⟨rfl, rfl, rfl, rfl⟩⟩
    · simp [Value.cells] at hcs
      obtain ⟨rfl, rfl, rfl⟩ := hcs
      exact ⟨zs, .inr ⟨_, rfl, hl, hm, by simpa using hz, hcell, hwz⟩⟩
  obtain ⟨a2, len2, cap2, rfl⟩ := okWide_slice Try.underlying23 (hval 2 23 v2 rfl rfl)
  have k2 := h2
  have lt2 : ∀ x ∈ p2, x.block < W.heap.size := by obtain ⟨m, hm⟩ := k2; exact DataW.trod_lt m _ _ _ hm
  obtain ⟨z2, w2⟩ : ∃ zs, IsRow .u8 W a2 len2 cap2 zs := by
    obtain ⟨fuel, hf⟩ := h2
    rcases open_ints Try.underlying23 Try.underlying5 (by kernel_rfl) hf with ⟨hcs, _⟩ | ⟨x, l, c, zs, hcs, _, hl, hm, hz, _, hcell, hwz⟩
    · simp [Value.cells] at hcs
      obtain ⟨rfl, rfl, rfl⟩ := hcs
      exact ⟨[], .inl ⟨rfl, rfl, rfl, rfl⟩⟩
    · simp [Value.cells] at hcs
      obtain ⟨rfl, rfl, rfl⟩ := hcs
      exact ⟨zs, .inr ⟨_, rfl, hl, hm, by simpa using hz, hcell, hwz⟩⟩
  clear hA0 hval0
  refine (walk a0 len0 cap0 z0 a1 len1 cap1 z1 a2 len2 cap2 z2 W w0 w1 w2).mono fun e W' ⟨he, bel⟩ => ?_
  subst he
  exact ⟨_, rfl, _, _, _, [], _, [], hW', trodAll_mk1 (shut_bool Try.underlying4 _), (trodAll_cons_mk (Below.trod laidOut (by kernel_rfl) (of_decide_eq_true (by kernel_rfl)) k0 bel lt0) (trodAll_cons_mk (Below.trod laidOut (by kernel_rfl) (of_decide_eq_true (by kernel_rfl)) k1 bel lt1) (trodAll_cons_mk (Below.trod laidOut (by kernel_rfl) (of_decide_eq_true (by kernel_rfl)) k2 bel lt2) trodAll_mk0))), rfl, bel.frame _, fun h => by cases h⟩

theorem over : Rows.crcThreeRow.holds Try.pinned (OpenSpec.ofChange Rows.crcThreeSpec) :=
  OpenClaim.holds_of_wide 7 Try.f7 rfl rfl rfl rfl rfl rfl rfl ⟨rfl, rfl, rfl, rfl, rfl⟩ rfl rfl rfl rfl rfl (by kernel_rfl) Try.func7 (by kernel_rfl)
    (of_decide_eq_true (by kernel_rfl)) (by unfold Func.isWrapper; first | (rw [if_pos (by decide +kernel)]; kernel_rfl) | (rw [if_neg (by decide +kernel)]; exact ⟨rfl, rfl⟩))
    (fun os started H enc _ => lifted os started H enc)

/-- ████ THE STATEMENT ████ -/
theorem proved : Rows.CrcThreeSaid := over
end Go.Proofs.Ytmjifckmfbfmkaa.crcThree
