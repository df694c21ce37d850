/- slices.symMergeCmpFunc, the general case (the left list is the longer one), by its contract at shorter ranges. -/
import Derived.Test.YtoachnhdedpbdaaSo7
set_option linter.unusedSimpArgs false
set_option linter.unusedVariables false
set_option linter.unusedSectionVars false
namespace Go.Proofs.Ytoachnhdedpbdaa
open Go.RowKit Go.Lib Go.Sort Go.Shelf
variable {P : Program} {α : Type} [Inhabited α]
/-- The contract, at ranges of at most n. -/
def SymC (P : Program) (k : Nat) (enc : α → List Value) (cf : α → α → Int) (gc : Nat) (cb : Array Value) (g off cap : Nat) (d0 : Array α) (w0 : World) (n : Nat) : Prop :=
  ∀ (a m b : Nat) (d : Array α) (W : World) (Pf X Y Sf : List α), b - a ≤ n → d0.size = d.size → SWK enc k w0 g off d W → d.toList = Pf ++ (X ++ (Y ++ Sf)) → a = Pf.length → m = a + X.length → b = m + Y.length → a < m → m < b → Asc (ltOf cf) X → Asc (ltOf cf) Y →
    Calls P 109 #[.slice (some ⟨g, off, none⟩) d.size cap, .int .i64 a, .int .i64 m, .int .i64 b, .func (.func gc) #[] cb] W fun e w' => e = .returned (.tuple #[]) ∧ ∃ d', SWK enc k w0 g off d' w' ∧ d'.size = d.size ∧ d'.toList = Pf ++ (mrg (ltOf cf) X Y ++ Sf)
theorem mrg_length (lt : α → α → Bool) : ∀ (X Y : List α), (mrg lt X Y).length = X.length + Y.length
  | [], Y => by rw [mrg_nil]; simp
  | x :: X, [] => by rw [mrg_right]; simp
  | x :: X, y :: Y => by
    cases h : lt y x with
    | true =>
      rw [mrg_yes _ _ h, List.length_cons, mrg_length lt (x :: X) Y]
      simp only [List.length_cons]
      omega
    | false =>
      rw [mrg_no _ _ h, List.length_cons, mrg_length lt X (y :: Y)]
      simp only [List.length_cons]
      omega
termination_by X Y => X.length + Y.length
theorem mrg_none {lt : α → α → Bool} {X Y : List α} (h : X.length = 0 ∨ Y.length = 0) : mrg lt X Y = X ++ Y := by
  rcases h with h | h
  · rw [List.eq_nil_of_length_eq_zero h, mrg_nil]
    rfl
  · rw [List.eq_nil_of_length_eq_zero h, mrg_right, List.append_nil]
theorem symEnters {k : Nat} (L : StP P k) : Enters P 109 := enters_of L.fSym (by kernel_rfl) rfl
theorem rotEnters {k : Nat} (L : StP P k) : Enters P 117 := enters_of L.fRot (by kernel_rfl) rfl
theorem asc_take {lt : α → α → Bool} {l : List α} (h : Asc lt l) (n : Nat) : Asc lt (l.take n) := List.Pairwise.sublist (List.take_sublist _ _) h
theorem asc_drop {lt : α → α → Bool} {l : List α} (h : Asc lt l) (n : Nat) : Asc lt (l.drop n) := List.Pairwise.sublist (List.drop_sublist _ _) h
/-- The two middle parts exchanged, where the one or the other may be none. -/
theorem rot_of {Pf X Y Sf : List α} (u v : Nat) {d : Array α} (hd : d.toList = Pf ++ (X ++ (Y ++ Sf))) (hu : u ≤ X.length) (hv : v ≤ Y.length) : RotI (Pf ++ (X.take u ++ (Y.take v ++ (X.drop u ++ (Y.drop v ++ Sf))))) (Pf.length + X.length) (X.length - u) v d := by
  refine ⟨Pf ++ X.take u, X.drop u, Y.take v, Y.drop v ++ Sf, ?_, by rw [List.length_drop], by rw [List.length_take]; omega, by rw [List.length_append, List.length_take]; omega, by simp⟩
  rw [hd, List.append_assoc, ← List.append_assoc (X.take u), List.take_append_drop, ← List.append_assoc (Y.take v), List.take_append_drop]
theorem rot_no {Pf X Y Sf : List α} (u v : Nat) (h : u = X.length ∨ v = 0) : Pf ++ (X.take u ++ (Y.take v ++ (X.drop u ++ (Y.drop v ++ Sf)))) = Pf ++ (X ++ (Y ++ Sf)) := by
  rcases h with rfl | rfl
  · rw [List.take_length, List.drop_length, List.nil_append, ← List.append_assoc (Y.take v), List.take_append_drop]
  · rw [List.take_zero, List.drop_zero, List.nil_append, ← List.append_assoc (X.take u), List.take_append_drop]
set_option maxHeartbeats 16000000 in
set_option maxRecDepth 1000000 in
theorem sym_gena (k : Nat) (L : StP P k) (enc : α → List Value) (cf : α → α → Int) (hO : SWO (ltOf cf)) (gc : Nat) (cb : Array Value) (g off cap a m b : Nat) (d0 d : Array α) (w0 W : World) (eg : ∀ args w, (callFunc gc args).run P w = .ok (.enter gc args) w) (hcmp : CmpLays P gc cb enc k cf g off d0.size w0) (R : RowK enc k w0 g off d0) (hs : d0.size = d.size) (S : SWK enc k w0 g off d W) (Pf X Y Sf : List α) (hd : d.toList = Pf ++ (X ++ (Y ++ Sf))) (ha : a = Pf.length) (hm : m = a + X.length) (hb : b = m + Y.length) (h1 : a + 1 < m) (h2 : m + 1 < b) (hX : Asc (ltOf cf) X) (hY : Asc (ltOf cf) Y) (hsz : d.size < 4611686018427387904) (n : Nat) (hn : b - a ≤ n + 1) (ih : SymC P k enc cf gc cb g off cap d0 w0 n) (hmid : (a + b) / 2 < m) :
    Calls P 109 #[.slice (some ⟨g, off, none⟩) d.size cap, .int .i64 a, .int .i64 m, .int .i64 b, .func (.func gc) #[] cb] W fun e w' => e = .returned (.tuple #[]) ∧ ∃ d', SWK enc k w0 g off d' w' ∧ d'.size = d.size ∧ d'.toList = Pf ++ (mrg (ltOf cf) X Y ++ Sf) := by
  have mixed := L.mixed; have t0 := L.t0; have a0 := L.a0; have z0 := L.z0; have v0 := L.v0; have t3 := L.t3; have a3 := L.a3; have z3 := L.z3; have v3 := L.v3; have t4 := L.t4; have a4 := L.a4; have z4 := L.z4; have v4 := L.v4; have tu := L.tu; have au := L.au; have zu := L.zu; have vu := L.vu; have ts := L.ts; have asl := L.asl; have zs := L.zs; have vs := L.vs; have tf := L.tf; have af := L.af; have zf := L.zf; have vf := L.vf; have aE := L.aE; have zE := L.zE
  have en : ∀ args w, (callFunc 117 args).run P w = .ok (.enter 117 args) w := rotEnters L
  have en2 : ∀ args w, (callFunc 109 args).run P w = .ok (.enter 109 args) w := symEnters L
  have HC : Aside _ := hcmp
  have S0 : Aside (SWK enc k w0 g off d W) := S
  have hsd := size_of hd
  have h3 : b ≤ d.size := by omega
  have D0 : Hid (d.toList = Pf ++ (X ++ (Y ++ Sf))) := hid_ hd
  have LL := hid_ (And.intro ha (And.intro hm hb))
  have HXY := hid_ (And.intro hX hY)
  have IH := hid_ ih
  have q1 : ((m : Int) - (a : Int) == 1) = false := by simp; omega
  have q2 : ((b : Int) - (m : Int) == 1) = false := by simp; omega
  obtain ⟨mid, hmi⟩ : ∃ mid, mid = (a + b) / 2 := ⟨_, rfl⟩
  rw [← hmi] at hmid
  have em : ((a : Int) + (b : Int)) / 2 = (mid : Int) := by omega
  have h4 : a < mid := by omega
  have h5 : mid < b := by omega
  obtain ⟨N, hN⟩ : ∃ N, N = mid + m := ⟨_, rfl⟩
  have eN : (mid : Int) + (m : Int) = (N : Int) := by omega
  obtain ⟨p, hp⟩ : ∃ p, p + 1 = N := ⟨N - 1, by omega⟩
  have ep : (N : Int) - 1 = (p : Int) := by omega
  obtain ⟨st, hst⟩ : ∃ st, st + b = N := ⟨N - b, by omega⟩
  have est : (N : Int) - (b : Int) = (st : Int) := by omega
  obtain ⟨rr, hrr⟩ : ∃ rr, rr = mid := ⟨_, rfl⟩
  have hmz : (mid : Int) < (m : Int) := by omega
  have err : (mid : Int) = (mid : Int) := rfl
  have hs1 : a ≤ st := by omega
  have hs2 : st ≤ rr := by omega
  have hs3 : rr ≤ m := by omega
  have hs4 : rr ≤ mid := by omega
  have hs5 : N ≤ st + b := by omega
  have hNm : mid < N ∧ m < N := by omega
  have hNd : N < 2 * d.size := by omega
  have LN : Hid (mid = (a + b) / 2 ∧ N = mid + m ∧ p + 1 = N ∧ (st + b = N) ∧ rr = mid) := hid_ ⟨hmi, hN, hp, hst, hrr⟩
  clear hcmp S hd hsd ha hm hb hX hY ih hmi hN hp hst hrr hmid
  go_enter L.fSym, Try.ntmps109
  go_wp2_with fail
  go_loopw [20, 21] (fun s t wr => ∃ (i j : Nat), s = .int .i64 i ∧ t = .int .i64 j ∧ st ≤ i ∧ i ≤ j ∧ j ≤ rr ∧ Hid ((st < i → ltOf cf d[N - i]! d[i - 1]! = false) ∧ (j < rr → ltOf cf d[p - j]! d[j]! = true)) ∧ Aside (SWK enc k w0 g off d wr)) (fun s t _ => (intOf t).toNat - (intOf s).toNat)
  case atStart => exact ⟨st, rr, rfl, by rw [LN.out.2.2.2.2], by omega, by omega, by omega, hid_ ⟨fun h => absurd h (by omega), fun h => absurd h (by omega)⟩, S0⟩
  case round =>
    clear S0 em eN ep est err
    obtain ⟨i, j, rfl, rfl, hmi, hij, hjb, HI, S1⟩ := hrel
    by_cases hlt : i < j
    · have hltz : (i : Int) < (j : Int) := by omega
      obtain ⟨h, hh⟩ : ∃ h, h = (i + j) / 2 := ⟨_, rfl⟩
      have eh : ((i : Int) + (j : Int)) / 2 = (h : Int) := by omega
      have b1 : i ≤ h := by omega
      have b2 : h < j := by omega
      have wh : IntKind.i64.wrap ((h : Int) + 1) = ((h + 1 : Nat) : Int) := by rw [IntKind.wrap_i64]; omega
      clear hh
      have hpp : h ≤ p := by have := LN.out; omega
      obtain ⟨c, hc⟩ : ∃ c, c = p - h := ⟨_, rfl⟩
      have ec : (p : Int) - (h : Int) = (c : Int) := by omega
      have hcd : c < d.size := by have := LN.out; omega
      have HCC : Hid (c = p - h ∧ p + 1 = N) := hid_ ⟨hc, LN.out.2.2.1⟩
      clear hc
      go_upto_region 35 with (fail)
      clear eh
      cases hlv : ltOf cf d[c]! d[h]! with
      | false => as_aux_lemma =>
        have HI2 : Hid ((st < h + 1 → ltOf cf d[N - (h + 1)]! d[h + 1 - 1]! = false) ∧ (j < rr → ltOf cf d[p - j]! d[j]! = true)) := hid_ ⟨fun _ => by rw [Nat.add_sub_cancel, show N - (h + 1) = c by have := HCC.out; omega]; exact hlv, HI.out.2⟩
        clear HI
        have e1a : ((c : Int)).toNat = c := by omega
        have p1a : (0 : Int) ≤ (c : Int) := by omega
        have b1a : (c : Int) < (d.size : Int) := by omega
        have r1a : IntKind.i64.wrap ((c : Int)) = (c : Int) := by rw [IntKind.wrap_i64]; omega
        have e1c : ((h : Int)).toNat = h := by omega
        have p1c : (0 : Int) ≤ (h : Int) := by omega
        have b1c : (h : Int) < (d.size : Int) := by omega
        have r1c : IntKind.i64.wrap ((h : Int)) = (h : Int) := by rw [IntKind.wrap_i64]; omega
        obtain ⟨x1, hx1⟩ : ∃ x, x = d[c]! := ⟨_, rfl⟩
        obtain ⟨y1, hy1⟩ : ∃ x, x = d[h]! := ⟨_, rfl⟩
        have l1a := S1.out.ld R (by omega) P (c) (by omega)
        have l1b := S1.out.ld R (by omega) P (h) (by omega)
        rw [← hx1] at l1a
        rw [← hy1] at l1b
        have hc1 := S1.out.cmp HC.out (by omega) x1 y1
        have hv1 : ¬ cf x1 y1 < 0 := by rw [hx1, hy1]; exact of_decide_eq_false hlv
        have hd1 : decide (cf x1 y1 < 0) = false := decide_eq_false hv1
        clear hx1 hy1
        go_quiet_grown (first | (go_at_fn gc; refine Calls.grown_of (hc1 _ _)))
        have S2 : Aside (SWK enc k w0 g off d (grow (wr.drewN nq) osq)) := S1.out.grown nq osq
        clear l1a l1b hc1 S1
        generalize grow (wr.drewN nq) osq = w2 at S2 ⊢
        clear nq osq
        clear ec
        go_wp2
        go_roundw
        case rel => exact ⟨h + 1, j, by go_num, rfl, by omega, by omega, by omega, HI2, S2⟩
        case measure => simp [intOf]; omega
      | true => as_aux_lemma =>
        have HI2 : Hid ((st < i → ltOf cf d[N - i]! d[i - 1]! = false) ∧ (h < rr → ltOf cf d[p - h]! d[h]! = true)) := hid_ ⟨HI.out.1, fun _ => by rw [← HCC.out.1]; exact hlv⟩
        clear HI
        have e1a : ((c : Int)).toNat = c := by omega
        have p1a : (0 : Int) ≤ (c : Int) := by omega
        have b1a : (c : Int) < (d.size : Int) := by omega
        have r1a : IntKind.i64.wrap ((c : Int)) = (c : Int) := by rw [IntKind.wrap_i64]; omega
        have e1c : ((h : Int)).toNat = h := by omega
        have p1c : (0 : Int) ≤ (h : Int) := by omega
        have b1c : (h : Int) < (d.size : Int) := by omega
        have r1c : IntKind.i64.wrap ((h : Int)) = (h : Int) := by rw [IntKind.wrap_i64]; omega
        obtain ⟨x1, hx1⟩ : ∃ x, x = d[c]! := ⟨_, rfl⟩
        obtain ⟨y1, hy1⟩ : ∃ x, x = d[h]! := ⟨_, rfl⟩
        have l1a := S1.out.ld R (by omega) P (c) (by omega)
        have l1b := S1.out.ld R (by omega) P (h) (by omega)
        rw [← hx1] at l1a
        rw [← hy1] at l1b
        have hc1 := S1.out.cmp HC.out (by omega) x1 y1
        have hv1 : cf x1 y1 < 0 := by rw [hx1, hy1]; exact of_decide_eq_true hlv
        have hd1 : decide (cf x1 y1 < 0) = true := decide_eq_true hv1
        clear hx1 hy1
        go_quiet_grown (first | (go_at_fn gc; refine Calls.grown_of (hc1 _ _)))
        have S2 : Aside (SWK enc k w0 g off d (grow (wr.drewN nq) osq)) := S1.out.grown nq osq
        clear l1a l1b hc1 S1
        generalize grow (wr.drewN nq) osq = w2 at S2 ⊢
        clear nq osq
        clear ec
        go_wp2
        go_roundw
        case rel => exact ⟨i, h, rfl, rfl, by omega, by omega, by omega, HI2, S2⟩
        case measure => simp [intOf]; omega
    · obtain rfl : i = j := by omega
      clear hij hlt
      obtain ⟨e, he⟩ : ∃ e, e + i = N := ⟨N - i, by have := LN.out; omega⟩
      have ee : (N : Int) - (i : Int) = (e : Int) := by omega
      have e1 : m ≤ e := by have := LN.out; omega
      have e2 : e ≤ b := by omega
      have e3 : mid ≤ e := by have := LN.out; omega
      have e4 : i ≤ m := by omega
      have e5 : i ≤ mid := by omega
      have hai : a ≤ i := by omega
      have LE : Hid (e + i = mid + m ∧ a = Pf.length ∧ m = a + X.length ∧ b = m + Y.length) := hid_ ⟨by have := LN.out; omega, LL.out⟩
      have HM : Hid (mrg (ltOf cf) X Y = mrg (ltOf cf) (X.take (i - a)) (Y.take (mid - i)) ++ mrg (ltOf cf) (X.drop (i - a)) (Y.drop (mid - i))) := hid_ (by
        have hI := HI.out
        have hL := LE.out
        have hN := LN.out
        refine mrg_cut hO HXY.out.1 HXY.out.2 (i - a) (mid - i) (by omega) (by omega) ?_ ?_
        · rcases Nat.lt_or_ge st i with h | h
          · rcases Nat.lt_or_ge (mid - i) Y.length with h' | h'
            · refine .inr (.inr ?_)
              rw [← atY D0.out (mid - i) h' (N - i) (by omega), ← atX D0.out (i - a - 1) (by omega) (i - 1) (by omega)]
              exact hI.1 h
            · exact .inr (.inl (by omega))
          · exact .inr (.inl (by omega))
        · rcases Nat.lt_or_ge i rr with h | h
          · rcases Nat.eq_zero_or_pos (mid - i) with h' | h'
            · exact .inr (.inl h')
            · refine .inr (.inr ?_)
              rw [← atY D0.out (mid - i - 1) (by omega) (p - i) (by omega), ← atX D0.out (i - a) (by omega) i (by omega)]
              exact hI.2 h
          · exact .inr (.inl (by omega)))
      have HROT := hid_ (rot_of (i - a) (mid - i) D0.out (by have := LE.out; omega) (by have := LE.out; omega))
      have HNO := hid_ (fun h => (rot_no (Pf := Pf) (X := X) (Y := Y) (Sf := Sf) (i - a) (mid - i) h).trans D0.out.symm)
      obtain ⟨F, hF⟩ : ∃ F, Pf ++ (X.take (i - a) ++ (Y.take (mid - i) ++ (X.drop (i - a) ++ (Y.drop (mid - i) ++ Sf)))) = F := ⟨_, rfl⟩
      rw [hF] at HROT HNO
      have HFF := hid_ hF
      clear hF HI D0 LN hs1 hs2 hs3 hs4 hs5 hmi hjb he
      have DS : Hid (∃ d1 : Array α, d1.size = d.size ∧ Aside (SWK enc k w0 g off d1 wr) ∧ d1.toList = d.toList) := hid_ ⟨d, rfl, S1, rfl⟩
      clear DS
      go_upto_region 39 with (fail)
      go_cut [185] (fun s wx => s = .bool (decide (i < m ∧ m < e)) ∧ wr = wx)
      case first => as_aux_lemma =>
        by_cases c1 : i < m
        · by_cases c2 : m < e
          · have z1 : (i : Int) < (m : Int) := by omega
            have z2 : (m : Int) < (e : Int) := by omega
            go_wp2
            go_meet
            exact ⟨by rw [decide_eq_true (show i < m ∧ m < e from ⟨c1, c2⟩)], rfl⟩
          · have z1 : (i : Int) < (m : Int) := by omega
            have z2 : ¬ (m : Int) < (e : Int) := by omega
            go_wp2
            go_meet
            exact ⟨by rw [decide_eq_false (show ¬ (i < m ∧ m < e) by omega)], rfl⟩
        · have z1 : ¬ (i : Int) < (m : Int) := by omega
          go_wp2
          go_meet
          exact ⟨by rw [decide_eq_false (show ¬ (i < m ∧ m < e) by omega)], rfl⟩
      case rest => as_aux_lemma =>
      obtain ⟨rfl, rfl⟩ := hcut
      go_upto_if 185 with (fail)
      go_cut [] (fun wx => Hid (∃ d1 : Array α, d1.size = d.size ∧ Aside (SWK enc k w0 g off d1 wx) ∧ d1.toList = F))
      case first => as_aux_lemma =>
        by_cases c1 : i < m ∧ m < e
        · rw [decide_eq_true c1]
          have hcall := rotate_any k L enc g off cap i m e d0 d w0 wr (.func (.func gc) #[] cb) R (by omega) S1.out F (by have h := HROT.out; have hL := LE.out; rw [show Pf.length + X.length = m by omega, show X.length - (i - a) = m - i by omega, show mid - i = e - m by omega] at h; exact h) c1.1 c1.2 (by omega)
          go_wp2_with fail
          refine hcall.mono ?_
          rintro e' w3 ⟨rfl, d1, hS, hsz1, hl1⟩
          have HX : Hid (∃ d1 : Array α, d1.size = d.size ∧ Aside (SWK enc k w0 g off d1 w3) ∧ d1.toList = F) := hid_ ⟨d1, hsz1, hS, hl1⟩
          clear hcall hS hsz1 hl1
          go_wp2
          go_meet
          exact HX
        · rw [decide_eq_false c1]
          have HX : Hid (∃ d1 : Array α, d1.size = d.size ∧ Aside (SWK enc k w0 g off d1 wr) ∧ d1.toList = F) := hid_ ⟨d, rfl, S1, (HNO.out (by have := LE.out; omega)).symm⟩
          go_wp2
          go_meet
          exact HX
      case rest => as_aux_lemma =>
      obtain ⟨d1, hds1, T1, hl1⟩ := hcut.out
      clear hcut S1 HROT HNO
      rw [← HFF.out] at hl1
      have D1 := hid_ hl1
      clear hl1 HFF F
      go_upto_region 41 with (fail)
      go_cut [199] (fun s wx => s = .bool (decide (a < i ∧ i < mid)) ∧ wc = wx)
      case first => as_aux_lemma =>
        by_cases c1 : a < i
        · by_cases c2 : i < mid
          · have z1 : (a : Int) < (i : Int) := by omega
            have z2 : (i : Int) < (mid : Int) := by omega
            go_wp2
            go_meet
            exact ⟨by rw [decide_eq_true (show a < i ∧ i < mid from ⟨c1, c2⟩)], rfl⟩
          · have z1 : (a : Int) < (i : Int) := by omega
            have z2 : ¬ (i : Int) < (mid : Int) := by omega
            go_wp2
            go_meet
            exact ⟨by rw [decide_eq_false (show ¬ (a < i ∧ i < mid) by omega)], rfl⟩
        · have z1 : ¬ (a : Int) < (i : Int) := by omega
          go_wp2
          go_meet
          exact ⟨by rw [decide_eq_false (show ¬ (a < i ∧ i < mid) by omega)], rfl⟩
      case rest => as_aux_lemma =>
      obtain ⟨rfl, hww⟩ := hcut
      subst hww
      go_upto_if 199 with (fail)
      go_cut [] (fun wx => Hid (∃ d1 : Array α, d1.size = d.size ∧ Aside (SWK enc k w0 g off d1 wx) ∧ d1.toList = Pf ++ (mrg (ltOf cf) (X.take (i - a)) (Y.take (mid - i)) ++ (X.drop (i - a) ++ (Y.drop (mid - i) ++ Sf)))))
      case first => as_aux_lemma =>
        by_cases c1 : a < i ∧ i < mid
        · rw [decide_eq_true c1]
          have hcall := IH.out a i mid d1 _ Pf (X.take (i - a)) (Y.take (mid - i)) (X.drop (i - a) ++ (Y.drop (mid - i) ++ Sf)) (by omega) (by omega) T1.out D1.out LE.out.2.1 (by rw [List.length_take]; have := LE.out; omega) (by rw [List.length_take]; have := LE.out; omega) c1.1 c1.2 (asc_take HXY.out.1 _) (asc_take HXY.out.2 _)
          rw [hds1] at hcall
          go_wp2_with fail
          refine hcall.mono ?_
          rintro e' w3 ⟨rfl, d2, hS, hsz1, hl1⟩
          have HX : Hid (∃ d1 : Array α, d1.size = d.size ∧ Aside (SWK enc k w0 g off d1 w3) ∧ d1.toList = Pf ++ (mrg (ltOf cf) (X.take (i - a)) (Y.take (mid - i)) ++ (X.drop (i - a) ++ (Y.drop (mid - i) ++ Sf)))) := hid_ ⟨d2, by rw [hsz1], hS, hl1⟩
          clear hcall hS hsz1 hl1
          go_wp2
          go_meet
          exact HX
        · rw [decide_eq_false c1]
          have HX : Hid (∃ d1 : Array α, d1.size = d.size ∧ Aside (SWK enc k w0 g off d1 wc) ∧ d1.toList = Pf ++ (mrg (ltOf cf) (X.take (i - a)) (Y.take (mid - i)) ++ (X.drop (i - a) ++ (Y.drop (mid - i) ++ Sf)))) := hid_ ⟨d1, hds1, T1, by rw [D1.out, mrg_none (by rw [List.length_take, List.length_take]; have := LE.out; omega)]; simp⟩
          go_wp2
          go_meet
          exact HX
      case rest => as_aux_lemma =>
      obtain ⟨d2, hds2, T2, hl2⟩ := hcut.out
      clear hcut T1 D1 hds1
      have D2 : Hid (d2.toList = (Pf ++ mrg (ltOf cf) (X.take (i - a)) (Y.take (mid - i))) ++ (X.drop (i - a) ++ (Y.drop (mid - i) ++ Sf))) := hid_ (by rw [hl2]; simp)
      have HFIN : Hid (∀ l : List α, l = mrg (ltOf cf) (X.drop (i - a)) (Y.drop (mid - i)) → (Pf ++ mrg (ltOf cf) (X.take (i - a)) (Y.take (mid - i))) ++ (l ++ Sf) = Pf ++ (mrg (ltOf cf) X Y ++ Sf)) := hid_ (fun l h => by rw [h, HM.out]; simp)
      clear hl2 HM
      go_upto_region 43 with (fail)
      by_cases c1 : mid < e ∧ e < b
      · have z1 : (mid : Int) < (e : Int) := by omega
        have z2 : (e : Int) < (b : Int) := by omega
        have hcall := IH.out mid e b d2 _ (Pf ++ mrg (ltOf cf) (X.take (i - a)) (Y.take (mid - i))) (X.drop (i - a)) (Y.drop (mid - i)) Sf (by omega) (by omega) T2.out D2.out (by rw [List.length_append, mrg_length, List.length_take, List.length_take]; have := LE.out; omega) (by rw [List.length_drop]; have := LE.out; omega) (by rw [List.length_drop]; have := LE.out; omega) c1.1 c1.2 (asc_drop HXY.out.1 _) (asc_drop HXY.out.2 _)
        rw [hds2] at hcall
        go_wp2_with fail
        refine hcall.mono ?_
        rintro e' w3 ⟨rfl, d3, hS, hsz1, hl1⟩
        have HX : Hid (SWK enc k w0 g off d3 w3 ∧ d3.size = d.size ∧ d3.toList = Pf ++ (mrg (ltOf cf) X Y ++ Sf)) := hid_ ⟨hS, by rw [hsz1], by rw [hl1]; exact HFIN.out _ rfl⟩
        clear hcall hS hsz1 hl1 HFIN
        go_wp2
        go_end0
        exact ⟨rfl, d3, HX.out⟩
      · have HX : Hid (SWK enc k w0 g off d2 wc ∧ d2.size = d.size ∧ d2.toList = Pf ++ (mrg (ltOf cf) X Y ++ Sf)) := hid_ ⟨T2.out, hds2, by rw [D2.out, ← List.append_assoc (X.drop (i - a))]; exact HFIN.out _ (mrg_none (by rw [List.length_drop, List.length_drop]; have := LE.out; omega)).symm⟩
        clear HFIN D2
        by_cases c2 : mid < e
        · have z1 : (mid : Int) < (e : Int) := by omega
          have z2 : ¬ (e : Int) < (b : Int) := by omega
          go_wp2
          go_end0
          exact ⟨rfl, d2, HX.out⟩
        · have z1 : ¬ (mid : Int) < (e : Int) := by omega
          go_wp2
          go_end0
          exact ⟨rfl, d2, HX.out⟩
end Go.Proofs.Ytoachnhdedpbdaa
