/- page.two, eight, body's text: the walks. -/
import Derived.Test.YtcfabnkkkpcelaaPgB
import Derived.Test.YtcfabnkkkpcelaaBox
import Derived.Lib.AppendStr
import Derived.Deep.DeepCutAuto
set_option linter.unusedSimpArgs false
set_option linter.unusedVariables false
namespace Go.Proofs.Ytcfabnkkkpcelaa
open Go.RowKit Go.Lib
theorem byL_cells (s : ByteArray) : strCells s = (byL s).flatMap byteT.enc := by
  unfold strCells byL
  rw [List.flatMap_map]
  induction s.data.toList with
  | nil => rfl
  | cons b l ih => rw [List.map_cons, List.flatMap_cons, ih]; rfl
theorem grownTrans {w w1 w2 : World} {r r1 : Option Nat} (h : w.grownBy w1 r) (h1 : w1.grownBy w2 r1) (hr : r1 = r ∨ ∃ b, r1 = some b ∧ w.heap.size ≤ b) : w.grownBy w2 r := by
  refine ⟨h1.os.trans h.os, h1.tape.trans h.tape, h1.output.trans h.output, Nat.le_trans h.size h1.size, fun i hi hne => ?_⟩
  rw [← h.block i hi hne]
  refine h1.block i (Nat.lt_of_lt_of_le hi h.size) ?_
  rcases hr with rfl | ⟨b, rfl, hb⟩
  · exact hne
  · exact fun e => by injection e with e; omega
theorem locTrans {w w1 : World} {a b c : Option Nat} (hs : w.heap.size ≤ w1.heap.size) (h : b = a ∨ ∃ k, b = some k ∧ w.heap.size ≤ k) (h1 : c = b ∨ ∃ k, c = some k ∧ w1.heap.size ≤ k) : c = a ∨ ∃ k, c = some k ∧ w.heap.size ≤ k := by
  rcases h1 with rfl | ⟨k, rfl, hk⟩
  · exact h
  · exact .inr ⟨k, rfl, Nat.le_trans hs hk⟩
section
variable {ops : Array Oper} {rest : List Oper} {o : Oper} {a : Act} {Q : Exit → Act → World → Prop}
/-- append(v, s...): a text's bytes. -/
theorem wpAppS {w0 W : World} (hgd : o.guard = none) (s x : Operand)
    (ho : o.op = .call { callee := .builtin .append, args := #[s, x], argTypes := #[30, 9] })
    (v : Value) (xs : List Int) (t : ByteArray) (hs : a.eval s = v) (hx : a.eval x = .string t)
    (HO : Own byteT W w0.heap.size v xs) (HB : Bel w0 W) (hne : 0 < xs.length) (hl : xs.length + t.size ≤ 140737488355328)
    (h : ∀ v1 w1, Own byteT w1 w0.heap.size v1 (xs ++ byL t) → Bel w0 w1 → W.grownBy w1 v.ownBlock → (v1.ownBlock = v.ownBlock ∨ ∃ b, v1.ownBlock = some b ∧ W.heap.size ≤ b) → wpList Try.prog ops Q rest (a.put o.dst v1) w1) :
    wpList Try.prog ops Q (o :: rest) a W := by
  obtain ⟨i0, hi, hzz⟩ := Option.map_eq_some_iff.1 byteS.info
  simp only [Prod.mk.injEq] at hzz
  obtain ⟨hz0, hz1, hz2⟩ := hzz
  obtain ⟨v1, w1, hr, h1, h2, _⟩ := run_append_own_string (P := Try.prog) W w0.heap.size 30 9 o.type byteT.e i0 byteS.ut Try.underlying9 hi hz0 hz1 hz2 v xs.length (xs.flatMap byteT.enc) HO t (by simp only [maxLen]; omega) hl HB.size_
  have hloc : v1.ownBlock = v.ownBlock ∨ ∃ b, v1.ownBlock = some b ∧ W.heap.size ≤ b := by
    have hown := HO
    rcases HO.2 with ⟨rfl, h0⟩ | ⟨g, cap, cur, rfl, hbg, hg, hnc, hcm, hcs, htake⟩
    · omega
    · by_cases hroom : xs.length + t.size ≤ cap
      · have hr' := run_append_room_string (P := Try.prog) W 30 9 o.type byteT.e i0 byteS.ut Try.underlying9 hi hz1 g xs.length cap cur hg t hroom (by have : byteT.sz = 1 := rfl; rw [this] at hcs; omega)
        rw [hr] at hr'
        injection hr' with e1 e2
        rw [e1]
        exact .inl rfl
      · have hr' := run_append_grow_string (P := Try.prog) W 30 9 o.type byteT.e i0 (.int .u8 0) byteS.ut Try.underlying9 hi hz0 ⟨g, 0, none⟩ xs.length cap (xs.flatMap byteT.enc) (by rw [byteT.flat, hz1]) (World.ownsRow.cells hown (g := g) rfl) t (by omega) (by omega) (by rw [hz2]; exact growslice_fits (by omega) (by omega))
        rw [hr] at hr'
        injection hr' with e1 e2
        rw [e1]
        exact .inr ⟨_, rfl, Nat.le_refl _⟩
  refine wpList_plain hgd fun K hK => ?_
  unfold Oper.wp execOp
  simp only [ho, resolve, invoke, builtin, Sem.run_bind, Sem.run_pure, Result.andThen_ok, List.map_toArray, List.map_cons, List.map_nil, hs, hx, hr]
  refine hK _ _ (h v1 w1 ?_ (HB.grown_ h2 HO.base_) h2 hloc)
  unfold Own
  rw [List.length_append, byL_len, List.flatMap_append, ← byL_cells]
  exact h1
end
theorem flat_snoc {α β : Type} (f : α → List β) (l : List α) (k : Nat) {x : α} (h : l[k]? = some x) : (l.take (k + 1)).flatMap f = (l.take k).flatMap f ++ f x := by
  rw [List.take_add_one, h, List.flatMap_append]
  simp
theorem tw_le (l : List Int) : (l.flatMap tw).length = l.length * 2 := by
  induction l with
  | nil => rfl
  | cons x l ih => rw [List.flatMap_cons, List.length_append, ih, tw_len, List.length_cons]; omega
set_option maxRecDepth 10000 in
set_option maxHeartbeats 1000000 in
theorem two_any (A : Option Addr) (n c : Nat) (l : List Int) (w : World) (h1 : Row intT w A n l) (hs : n ≤ 1000000) :
    Calls Try.prog 20 #[.slice A n c] w fun e w' => ∃ v, e = .returned v ∧ Own byteT w' w.heap.size v (l.flatMap tw) ∧ Bel w w' := by
  have hn := h1.2.1
  have HL := hid_ h1.1
  go_enter Try.func20, Try.ntmps20
  go_wp2
  go_loopw [2, 4, 7] (fun v _ i wr => ∃ k : Nat, k ≤ n ∧ i = .int .i64 k ∧ Bel w wr ∧ Own byteT wr w.heap.size v ((l.take k).flatMap tw)) (fun _ _ i _ => n - (intOf i).toNat)
  case atStart => exact ⟨0, by omega, rfl, Bel.refl _, Own.nil_ _ _ _⟩
  case round =>
    obtain ⟨k, hk, rfl, hB, hO⟩ := hrel
    by_cases hkn : k < n
    · obtain ⟨ad, y, rfl, ho, d0⟩ := (h1.bel hB).int hkn
      have HFS := hid_ (flat_snoc tw l k ho)
      have HLK : Hid (((l.take k).flatMap tw).length ≤ 2000000) := hid_ (by rw [tw_le, List.length_take]; omega)
      clear ho
      have e1 : IntKind.u8.wrap (y / 256) = y / 256 % 256 := IntKind.wrap_u8 _
      have e2 : IntKind.u8.wrap y = y % 256 := IntKind.wrap_u8 _
      go_wp2_with (at_builtin; refine wpApp (w0 := w) byteS rfl _ _ rfl _ ((l.take k).flatMap tw) (tw y) (some ⟨wr.heap.size, 0, none⟩) 2 2 rfl rfl (hO.alloc_ _) (Row.lit (T := byteT) wr (tw y) (0, 0) (by rw [tw_len]; omega)) (hB.alloc _) (by have := HLK.out; omega) ?_; intro v1 x1 hO1 hb1 hg1 hat1)
      case roundEnd =>
        go_roundw
        case rel => exact ⟨k + 1, by omega, by go_num, hb1, by rw [HFS.out]; exact hO1⟩
        case measure => simp [intOf]; omega
    · obtain rfl : k = n := by omega
      have hfull : l.take k = l := by rw [← HL.out, List.take_length]
      rw [hfull] at hO
      go_wp2
      go_ret
      exact ⟨_, rfl, hO, hB⟩
theorem tw_wrap (n : Int) : tw (IntKind.i64.wrap n) = tw n := by
  rw [IntKind.wrap_i64, tw, tw]
  have h1 : ((n + 9223372036854775808) % 18446744073709551616 - 9223372036854775808) / 256 % 256 = n / 256 % 256 := by omega
  have h2 : ((n + 9223372036854775808) % 18446744073709551616 - 9223372036854775808) % 256 = n % 256 := by omega
  rw [h1, h2]
theorem ei_eq (n : Int) : ei n = [IntKind.i64.wrap (n / 281474976710656), IntKind.i64.wrap (n / 4294967296)].flatMap tw ++ [IntKind.i64.wrap (n / 65536), IntKind.i64.wrap n].flatMap tw := by
  simp only [List.flatMap_cons, List.flatMap_nil, List.append_nil, tw_wrap]
  rfl
set_option maxRecDepth 10000 in
set_option maxHeartbeats 1000000 in
theorem eight_any (n : Int) (w : World) :
    Calls Try.prog 22 #[.int .u64 n] w fun e w' => ∃ v, e = .returned v ∧ Own byteT w' w.heap.size v (ei n) ∧ Bel w w' := by
  have HE := hid_ (ei_eq n)
  go_enter Try.func22, Try.ntmps22
  go_wp2_with fail
  refine (two_any _ 2 2 [wrap64 (n / 281474976710656), wrap64 (n / 4294967296)] _ (Row.lit (T := intT) w [wrap64 (n / 281474976710656), wrap64 (n / 4294967296)] (0, 0) (by simp)) (by omega)).mono ?_
  rintro e w1 ⟨v1, rfl, hO1, hb1⟩
  have hB1 : Bel w w1 := ((Bel.refl w).alloc _).trans hb1
  replace hO1 := hO1.mono_ (Bel.size_ ((Bel.refl w).alloc (.cells #[.int .i64 (wrap64 (n / 281474976710656)), .int .i64 (wrap64 (n / 4294967296))] 3)))
  clear hb1
  go_wp2_with fail
  refine (two_any _ 2 2 [wrap64 (n / 65536), wrap64 n] _ (Row.lit (T := intT) w1 [wrap64 (n / 65536), wrap64 n] (0, 0) (by simp)) (by omega)).mono ?_
  rintro e w2 ⟨v2, rfl, hO2, hb2⟩
  have hB2 : Bel w1 w2 := ((Bel.refl w1).alloc _).trans hb2
  obtain ⟨A2, c2, rfl, hc2, hR2⟩ := hO2.reads
  have HB2 := hB1.trans hB2
  replace hO1 := hO1.bel hB2
  clear hb2 hO2 hB1 hB2
  have e4 : ([wrap64 (n / 65536), wrap64 n].flatMap tw).length = 4 := rfl
  rw [e4] at hR2 hc2 ⊢
  go_wp2_with (at_builtin; refine wpApp (w0 := w) byteS rfl _ _ rfl _ _ _ A2 4 c2 rfl rfl hO1 hR2 HB2 (by rw [tw_le]; simp) ?_; intro v3 x3 hO3 hb3 hg3 hat3)
  go_ret
  exact ⟨_, rfl, by rw [HE.out, IntWalk.i64_left, IntWalk.i64_left, IntWalk.i64_left, IntWalk.i64_left]; exact hO3, hb3⟩
theorem txt_app (xs : List Int) (s : ByteArray) : xs ++ txt s = (xs ++ [(s.size : Int)]) ++ byL s := by
  rw [List.append_assoc]; rfl
set_option maxRecDepth 10000 in
set_option maxHeartbeats 1000000 in
/-- text(out, s). -/
theorem text_any (w0 w : World) (v : Value) (xs : List Int) (s : ByteArray) (HO : Own byteT w w0.heap.size v xs) (HB : Bel w0 w) (hs : s.size < 256) (hx : xs.length ≤ 1000000) :
    Calls Try.prog 52 #[v, .string s] w fun e w' => ∃ v1, e = .returned v1 ∧ Own byteT w' w0.heap.size v1 (xs ++ txt s) ∧ Bel w0 w' ∧ w.grownBy w' v.ownBlock ∧ (v1.ownBlock = v.ownBlock ∨ ∃ b, v1.ownBlock = some b ∧ w.heap.size ≤ b) := by
  have HT := hid_ (txt_app xs s)
  have e2 : IntKind.u8.wrap (s.size : Int) = (s.size : Int) := by rw [IntKind.wrap_u8]; omega
  go_enter Try.func52, Try.ntmps52
  go_wp2_with (at_builtin; first
    | (refine wpApp (w0 := w0) byteS rfl _ _ rfl _ xs [(s.size : Int)] (some ⟨w.heap.size, 0, none⟩) 1 1 rfl rfl (HO.alloc_ _) (Row.lit (T := byteT) w [(s.size : Int)] (0, 0) (by simp)) (HB.alloc _) (by simp; omega) ?_; intro v1 x1 hO1 hb1 hg1 hat1)
    | (refine wpAppS (w0 := w0) rfl _ _ rfl _ _ s rfl rfl hO1 hb1 (by simp) (by simp; omega) ?_; intro v2 x2 hO2 hb2 hg2 hat2))
  go_ret
  refine ⟨_, rfl, by rw [HT.out]; exact hO2, hb2, ?_, ?_⟩
  · have ha : w.grownBy (w.alloc (.cells #[.int .u8 (s.size : Int)] 5)) v.ownBlock := grown_of_bel ((Bel.refl w).alloc _) _
    have hb := grownTrans ha hg1 (.inl rfl)
    refine grownTrans hb hg2 ?_
    rcases hat1 with h | ⟨b, h, hle⟩
    · exact .inl h
    · exact .inr ⟨b, h, by rw [World.size_alloc] at hle; omega⟩
  · have hs1 : w.heap.size ≤ x1.heap.size := Nat.le_trans ((Bel.refl w).alloc (.cells #[.int .u8 (s.size : Int)] 5)).size_ hg1.size
    refine locTrans hs1 ?_ hat2
    rcases hat1 with h | ⟨b, h, hle⟩
    · exact .inl h
    · exact .inr ⟨b, h, by rw [World.size_alloc] at hle; omega⟩
end Go.Proofs.Ytcfabnkkkpcelaa
