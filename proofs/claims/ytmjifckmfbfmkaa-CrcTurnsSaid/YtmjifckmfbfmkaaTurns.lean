/- Bytes one of which is another one have another sum: for every input. -/
import Derived.Test.YtmjifckmfbfmkaaRows
import Derived.Test.YtmjifckmfbfmkaaAwake
import Derived.Test.YtmjifckmfbfmkaaWd
import Derived.WalkKit
import Derived.ProofKit
import Derived.OpenShut
import Derived.ShutString
import Derived.ChangeOld
import Derived.Below
namespace Go.Proofs.Ytmjifckmfbfmkaa.crcTurns
open Go.ChangeShapes Go.WideShapes Go.ChangeAt Go.RowKit
open Go.ChangeMaps (open_string shut_string)
set_option linter.unusedVariables false

theorem own : ownKnob Try.prog.godebug = none := by kernel_rfl
theorem laidOut : laidOutB Try.prog = true := by kernel_rfl

/-- WHAT THE WALK IS TOLD OF A SLICE OF INTEGERS THAT CAME IN: it is nil; or it leads to a row of 'cap' cells, the numbers 'zs' (the first 'len' are its elements, the rest its spare room), each fitting its kind. -/
def IsRow (k : IntKind) (w : World) (a : Option Addr) (len cap : Nat) (zs : List Int) : Prop :=
  (a = none ∧ len = 0 ∧ cap = 0 ∧ zs = []) ∨
  ∃ x, a = some x ∧ len ≤ cap ∧ cap ≤ maxLen ∧ zs.length = cap ∧ (∀ i, i < zs.length → w.cell? (x.add i) = some (.int k (zs.getD i 0))) ∧ ∀ n ∈ zs, (Lit.int k n).wf = true

theorem more_turn (bs : List Int) (m : Nat) (b c : Int) (hm : bs[m]? = some b) (hb : 0 ≤ b ∧ b < 256) (hc : 0 ≤ c ∧ c < 256) :
    (uv (more 0#64 (bs.set m c)) == uv (more 0#64 bs)) = (c == b) := by
  have hlt : m < bs.length := (List.getElem?_eq_some_iff.1 hm).1
  have h1 : bs = bs.take m ++ b :: bs.drop (m + 1) := by
    conv => lhs; rw [← List.take_append_drop m bs]
    rw [List.drop_eq_getElem_cons hlt]
    rw [List.getElem?_eq_getElem hlt] at hm
    injection hm with hm
    rw [hm]
  have h2 : bs.set m c = bs.take m ++ c :: bs.drop (m + 1) := by
    rw [List.set_eq_take_append_cons_drop, if_pos hlt]
  by_cases h : c = b
  · subst h
    rw [h2, ← h1]
    simp
  · rw [beq_false_of_ne h]
    apply beq_false_of_ne
    intro e
    apply h
    have e2 := uv_inj e
    rw [h2] at e2
    have e1 : more 0#64 (bs.take m ++ c :: bs.drop (m + 1)) = more 0#64 (bs.take m ++ b :: bs.drop (m + 1)) := by rw [← h1]; exact e2
    simp only [more] at e1
    have e3 := congrArg (fun v => ~~~ v) e1
    simp only [BitVec.not_not] at e3
    rw [run_append, run_append] at e3
    have e4 : run (byt (run (~~~ 0#64) (bs.take m)) c) (bs.drop (m + 1)) = run (byt (run (~~~ 0#64) (bs.take m)) b) (bs.drop (m + 1)) := e3
    exact byt_inj_byte hc hb (run_inj _ e4)
theorem xor_byte {b c : Int} (hb : 0 ≤ b ∧ b < 256) (hc : 0 ≤ c ∧ c < 256) : 0 ≤ Go.bits .xor .u8 b c ∧ Go.bits .xor .u8 b c < 256 ∧ ((Go.bits .xor .u8 b c == b) = (c == 0)) := by
  rw [u8_xor b c hb.1 hb.2 hc.1 hc.2]
  have h : b.toNat ^^^ c.toNat < 2 ^ 8 := Nat.xor_lt_two_pow (by omega) (by omega)
  refine ⟨by omega, by omega, ?_⟩
  by_cases h0 : c = 0
  · subst h0
    simp
    omega
  · rw [beq_false_of_ne h0]
    apply beq_false_of_ne
    intro e
    have e1 : b.toNat ^^^ c.toNat = b.toNat := by omega
    have e2 := congrArg (fun v => b.toNat ^^^ v) e1
    simp only [← Nat.xor_assoc, Nat.xor_self, Nat.zero_xor] at e2
    omega
def byteT : Ty Int := { e := 5, sz := 1, enc := fun b => [.int .u8 b], pos := by decide, len := fun _ => rfl, one := fun x u hu => by simp at hu; subst hu; rfl }
theorem byteS : SlT Try.prog 23 byteT 1 (.int .u8 0) := ⟨Try.underlying23, by kernel_rfl, rfl, by decide⟩
theorem byts_row {w : World} {A : Option Addr} {n : Nat} {bs : List Int} (h : Byts w A n bs) : Row byteT w A n bs := by
  refine ⟨h.1, h.2.1, fun hn => ?_⟩
  obtain ⟨ad, e, hc⟩ := h.2.2.1 hn
  refine ⟨ad, e, fun j x hj i u hu => ?_⟩
  have hi : i = 0 := by
    have := (List.getElem?_eq_some_iff.1 hu).1
    simp [byteT] at this
    exact this
  subst hi
  simp [byteT] at hu
  subst hu
  have hl := (List.getElem?_eq_some_iff.1 hj).1
  simp only [byteT, Nat.mul_one, Nat.add_zero]
  rw [hc j (by rw [← h.1]; exact hl), List.getD_eq_getElem?_getD, hj]
  rfl
theorem row_byts {w : World} {A : Option Addr} {n : Nat} {bs : List Int} (h : Row byteT w A n bs) (hb : ∀ b ∈ bs, 0 ≤ b ∧ b < 256) : Byts w A n bs := by
  refine ⟨h.1, h.2.1, fun hn => ?_, hb⟩
  obtain ⟨ad, e, hc⟩ := h.2.2 hn
  refine ⟨ad, e, fun j hj => ?_⟩
  have hl : j < bs.length := by rw [h.1]; exact hj
  have := hc j _ (List.getElem?_eq_getElem hl) 0 _ rfl
  simp only [byteT, Nat.mul_one, Nat.add_zero] at this
  rw [this, List.getD_eq_getElem?_getD, List.getElem?_eq_getElem hl]
  rfl
theorem tmod_nat (a : Int) (n : Nat) (h : 0 ≤ a) (hn : 0 < n) : ∃ m : Nat, a.tmod (n : Int) = (m : Int) ∧ m < n := by
  rw [Int.tmod_eq_emod_of_nonneg h]
  have h1 := Int.emod_nonneg a (show (n : Int) ≠ 0 by omega)
  have h2 := Int.emod_lt_of_pos a (show (0 : Int) < (n : Int) by omega)
  exact ⟨(a % (n : Int)).toNat, by omega, by omega⟩
theorem wrap_back {a : Int} (h0 : -9223372036854775808 ≤ a) (h : a < 0) : wrap64 (-wrap64 (a + 1)) = -(a + 1) := by unfold wrap64; omega

/-- What the append and the store leave. -/
theorem stored {w W w1 : World} {v1 : Value} {A : Option Addr} {n m : Nat} {bs : List Int} {b x : Int} (hB : Byts w A n bs) (hw : Bel w W) (hO : Own byteT w1 W.heap.size v1 bs) (hb1 : Bel W w1) (hm : bs[m]? = some b) (hx : 0 ≤ x ∧ x < 256) :
    ∃ g c, v1 = .slice (some ⟨g, 0, none⟩) n c ∧ w1.cell? ⟨g, m, none⟩ = some (.int .u8 b) ∧ w1.frozen? ⟨g, m, none⟩ = false ∧
      Bel w (w1.setCell ⟨g, m, none⟩ (.int .u8 x)) ∧ Byts (w1.setCell ⟨g, m, none⟩ (.int .u8 x)) (some ⟨g, 0, none⟩) n (bs.set m x) := by
  have hlt := (List.getElem?_eq_some_iff.1 hm).1
  obtain ⟨g, cap, hv, hbg, hlg⟩ := World.ownsRow.form hO (by omega)
  have hn : bs.length = n := hB.1
  subst hv
  have hc := World.ownsRow.cells hO (g := g) rfl m (.int .u8 b) (by have := byteT.flatAt bs m b hm 0 (.int .u8 b) rfl; simpa [byteT] using this)
  rw [add0] at hc
  have hs := World.ownsRow.stored hO m (.int .u8 x)
  refine ⟨g, cap, by rw [hn], hc, World.ownsRow.frozenAt hO m, (hw.trans hb1).set_ (p := ⟨g, m, none⟩) (Nat.le_trans hw.size_ hbg) _, ?_⟩
  have hset : (bs.flatMap byteT.enc).set m (.int .u8 x) = (bs.set m x).flatMap byteT.enc := by
    have : ∀ l : List Int, l.flatMap byteT.enc = l.map (Value.int .u8) := fun l => by induction l with
      | nil => rfl
      | cons y l ih => rw [List.flatMap_cons, ih]; rfl
    rw [this, this, List.map_set]
  have hown : Own byteT (w1.setCell ⟨g, m, none⟩ (.int .u8 x)) W.heap.size (.slice (some ⟨g, 0, none⟩) bs.length cap) (bs.set m x) := by
    unfold Own
    rw [List.length_set, ← hset]
    exact hs.1
  obtain ⟨A', c', hv', _, hrow⟩ := hown.reads
  injection hv' with hv' _ _
  subst hv'
  rw [List.length_set, hn] at hrow
  refine row_byts hrow fun y hy => ?_
  rcases List.mem_or_eq_of_mem_set hy with h | h
  · exact hB.2.2.2 y h
  · subst h; exact hx

set_option maxHeartbeats 1000000 in
theorem walk (a0 : Option Addr) (len0 cap0 : Nat) (z0 : List Int) (a1 : Int) (a2 : Int) (w : World) (w0 : IsRow .u8 w a0 len0 cap0 z0) (w1 : (Lit.int .i64 a1).wf = true) (w2 : (Lit.int .u8 a2).wf = true) :
    Calls Try.prog 5 #[.slice a0 len0 cap0, .int .i64 a1, .int .u8 a2] w fun e w' => e = .returned (.bool true) ∧ Below w.heap.size w w' := by
  obtain ⟨hb, hcap⟩ := byts_arg w0
  have hi : -9223372036854775808 ≤ a1 ∧ a1 ≤ 9223372036854775807 := by
    simp [Lit.wf, IntKind.min, IntKind.max, IntKind.signed, IntKind.bits] at w1
    omega
  have hby : 0 ≤ a2 ∧ a2 < 256 := by
    simp [Lit.wf, IntKind.min, IntKind.max, IntKind.signed, IntKind.bits] at w2
    omega
  clear w0 w1 w2
  generalize z0.take len0 = bs at hb
  go_enter Try.func5, Try.ntmps5
  go_wp2_with fail
  refine (awake_any _).mono ?_
  rintro e wa ⟨rfl, hb1⟩
  by_cases hl : 3000 < len0
  · clear hi
    go_wp2
    go_ret
    exact ⟨rfl, hb1⟩
  · by_cases h0 : len0 = 0
    · subst h0
      clear hi
      go_wp2
      go_ret
      exact ⟨rfl, hb1⟩
    · by_cases hn : a1 < 0
      · have hw1 := wrap_back hi.1 hn
        obtain ⟨m, hm, hml⟩ : ∃ m : Nat, (wrap64 (-wrap64 (a1 + 1))).tmod (len0 : Int) = (m : Int) ∧ m < len0 := by
          rw [hw1]
          exact tmod_nat _ _ (by omega) (by omega)
        clear hw1 hi
        have hB1 := hb.below hb1
        have hd0 : ((len0 : Int) == 0) = false := by simp; omega
        obtain ⟨b, hbm⟩ : ∃ b, bs[m]? = some b := ⟨_, List.getElem?_eq_getElem (by rw [hb.1]; exact hml)⟩
        have hbr := hb.2.2.2 b (List.mem_of_getElem? hbm)
        have hx := xor_byte hbr hby
        have ht := more_turn bs m b _ hbm hbr ⟨hx.1, hx.2.1⟩
        rw [hx.2.2] at ht
        go_wp2_with (at_builtin; refine wpApp (w0 := wa) byteS rfl _ _ rfl (.slice (some ⟨wa.heap.size, 0, none⟩) 0 0) [] bs a0 len0 cap0 rfl rfl (Own.lit wa wa.heap.size [] (Nat.le_refl _) (by simp)) ((byts_row hB1).bel ((Bel.refl _).alloc _)) ((Bel.refl wa).alloc _) (by simp; omega) ?_; intro v1 w1 hO hb2 _ _; obtain ⟨g, c, hv, hc1, hc2, hb3, hB2⟩ := stored hb hb1 hO hb2 hbm ⟨hx.1, hx.2.1⟩; subst hv)
        refine (sum_any _ _ _ _ _ hB2).mono ?_
        rintro e wb ⟨rfl, hb4⟩
        have hb34 := hb3.trans hb4
        go_wp2_with fail
        refine (sum_any a0 len0 _ bs _ (hb.below hb34)).mono ?_
        rintro e wc ⟨rfl, hb5⟩
        have hbx := hb34.trans hb5
        clear hx hc1 hc2 hB2 hb3 hO
        go_wp2
        go_ret
        exact ⟨rfl, hbx⟩
      · obtain ⟨m, hm, hml⟩ : ∃ m : Nat, a1.tmod (len0 : Int) = (m : Int) ∧ m < len0 := tmod_nat _ _ (by omega) (by omega)
        clear hi
        have hB1 := hb.below hb1
        have hd0 : ((len0 : Int) == 0) = false := by simp; omega
        obtain ⟨b, hbm⟩ : ∃ b, bs[m]? = some b := ⟨_, List.getElem?_eq_getElem (by rw [hb.1]; exact hml)⟩
        have hbr := hb.2.2.2 b (List.mem_of_getElem? hbm)
        have hx := xor_byte hbr hby
        have ht := more_turn bs m b _ hbm hbr ⟨hx.1, hx.2.1⟩
        rw [hx.2.2] at ht
        go_wp2_with (at_builtin; refine wpApp (w0 := wa) byteS rfl _ _ rfl (.slice (some ⟨wa.heap.size, 0, none⟩) 0 0) [] bs a0 len0 cap0 rfl rfl (Own.lit wa wa.heap.size [] (Nat.le_refl _) (by simp)) ((byts_row hB1).bel ((Bel.refl _).alloc _)) ((Bel.refl wa).alloc _) (by simp; omega) ?_; intro v1 w1 hO hb2 _ _; obtain ⟨g, c, hv, hc1, hc2, hb3, hB2⟩ := stored hb hb1 hO hb2 hbm ⟨hx.1, hx.2.1⟩; subst hv)
        refine (sum_any _ _ _ _ _ hB2).mono ?_
        rintro e wb ⟨rfl, hb4⟩
        have hb34 := hb3.trans hb4
        go_wp2_with fail
        refine (sum_any a0 len0 _ bs _ (hb.below hb34)).mono ?_
        rintro e wc ⟨rfl, hb5⟩
        have hbx := hb34.trans hb5
        clear hx hc1 hc2 hB2 hb3 hO
        go_wp2
        go_ret
        exact ⟨rfl, hbx⟩

/-! ### THE ROW's STEP: WRITTEN OUT: LEAVE IT -/
set_option maxRecDepth 100000 in
theorem lifted (os : Os) (started : os.Started) (H : Type) (enc : TypeId × Value → H) :
    ReturnsInHanded {} Try.checked os 5 .any (Rows.crcTurnsSpec.pre6 enc Try.prog Try.f5 Rows.crcTurnsRow.domain false) (Rows.crcTurnsSpec.post enc Try.prog Try.f5 false true false false) := by
  refine returnsInHanded_of_change (C := Try.checked) own started (by kernel_rfl) Try.func5
    (ChangeSpec.witness6 (enc := enc) (C := Try.checked) false ⟨#[], #[.slice none 0 0, .int .i64 0, .int .u8 0], []⟩ 8 (by kernel_rfl) (by kernel_rfl) (by kernel_rfl) (by kernel_rfl)) ?_
  intro W base args ds gs before hval0 hW hcnd _
  have hval : ∀ (j : Nat) t v, Try.f5.params[j]? = some t → args[j]? = some v → Value.okWide Try.prog W .any base t v := hval0
  have hW' := hW
  obtain ⟨p, q, hA0, hV, rfl, hfz, hnd⟩ := hW
  have hA : DataW.TrodAll enc Try.prog W 0 (fun _ => true) true Try.f5.params.toList args.toList ds p := hA0
  rw [Try.params5] at hA hval
  obtain ⟨v0, vs0, d0, ds0, p0, q0, hargs, rfl, rfl, h0, r0⟩ := trodAll_cons hA
  obtain ⟨v1, vs1, d1, ds1, p1, q1, rfl, rfl, rfl, h1, r1⟩ := trodAll_cons r0
  obtain ⟨v2, vs2, d2, ds2, p2, q2, rfl, rfl, rfl, h2, r2⟩ := trodAll_cons r1
  obtain ⟨rfl, rfl, rfl⟩ := trodAll_nil r2
  obtain rfl : args = #[v0, v1, v2] := by cases args; simp_all
  obtain ⟨rfl, rfl⟩ := trodVars_none hV
  obtain ⟨a0, len0, cap0, rfl⟩ := okWide_slice Try.underlying23 (hval 0 23 v0 rfl rfl)
  have k0 := h0
  have lt0 : ∀ x ∈ p0, x.block < W.heap.size := by obtain ⟨m, hm⟩ := k0; exact DataW.trod_lt m _ _ _ hm
  obtain ⟨z0, w0⟩ : ∃ zs, IsRow .u8 W a0 len0 cap0 zs := by
    obtain ⟨fuel, hf⟩ := h0
    rcases open_ints Try.underlying23 Try.underlying5 (by kernel_rfl) hf with ⟨hcs, _⟩ | ⟨x, l, c, zs, hcs, _, hl, hm, hz, _, hcell, hwz⟩
    · simp [Value.cells] at hcs
      obtain ⟨rfl, rfl, rfl⟩ := hcs
      exact ⟨[], .inl ⟨rfl, rfl, rfl, rfl⟩⟩
    · simp [Value.cells] at hcs
      obtain ⟨rfl, rfl, rfl⟩ := hcs
      exact ⟨zs, .inr ⟨_, rfl, hl, hm, by simpa using hz, hcell, hwz⟩⟩
  obtain ⟨a1, rfl, rfl, rfl, w1⟩ := open_int Try.underlying3 (hval 1 3 v1 rfl rfl) h1
  obtain ⟨a2, rfl, rfl, rfl, w2⟩ := open_int Try.underlying5 (hval 2 5 v2 rfl rfl) h2
  clear hA0 hval0
  refine (walk a0 len0 cap0 z0 a1 a2 W w0 w1 w2).mono fun e W' ⟨he, bel⟩ => ?_
  subst he
  exact ⟨_, rfl, _, _, _, [], _, [], hW', trodAll_mk1 (shut_bool Try.underlying4 _), (trodAll_cons_mk (Below.trod laidOut (by kernel_rfl) (of_decide_eq_true (by kernel_rfl)) k0 bel lt0) (trodAll_cons_mk (shut_int Try.underlying3 w1) (trodAll_cons_mk (shut_int Try.underlying5 w2) trodAll_mk0))), rfl, bel.frame _, fun h => by cases h⟩

theorem over : Rows.crcTurnsRow.holds Try.pinned (OpenSpec.ofChange Rows.crcTurnsSpec) :=
  OpenClaim.holds_of_wide 5 Try.f5 rfl rfl rfl rfl rfl rfl rfl ⟨rfl, rfl, rfl, rfl, rfl⟩ rfl rfl rfl rfl rfl (by kernel_rfl) Try.func5 (by kernel_rfl)
    (of_decide_eq_true (by kernel_rfl)) (by unfold Func.isWrapper; first | (rw [if_pos (by decide +kernel)]; kernel_rfl) | (rw [if_neg (by decide +kernel)]; exact ⟨rfl, rfl⟩))
    (fun os started H enc _ => lifted os started H enc)

/-- ████ THE STATEMENT ████ -/
theorem proved : Rows.CrcTurnsSaid := over
end Go.Proofs.Ytmjifckmfbfmkaa.crcTurns
