/- slices.stableCmpFunc, SortStableFunc at orders. -/
import Derived.Test.YtoachnhdedpbdaaSo8b
import Derived.Test.YtoachnhdedpbdaaSo9
import Derived.Test.YtoachnhdedpbdaaShOrd
set_option linter.unusedSimpArgs false
set_option linter.unusedVariables false
set_option linter.unusedSectionVars false
namespace Go.Proofs.Ytoachnhdedpbdaa
open Go.RowKit Go.Lib Go.Sort Go.Shelf
variable {P : Program} {α : Type} [Inhabited α]
theorem len_one {l : List α} (h : l.length = 1) : ∃ x, l = [x] := List.length_eq_one_iff.1 h
theorem sym_all (k : Nat) (L : StP P k) (enc : α → List Value) (cf : α → α → Int) (hO : SWO (ltOf cf)) (gc : Nat) (cb : Array Value) (g off cap : Nat) (d0 : Array α) (w0 : World) (eg : ∀ args w, (callFunc gc args).run P w = .ok (.enter gc args) w) (hcmp : CmpLays P gc cb enc k cf g off d0.size w0) (R : RowK enc k w0 g off d0) (hsz : d0.size < 4611686018427387904) : ∀ n, SymC P k enc cf gc cb g off cap d0 w0 n
  | 0 => by
    intro a m b d W Pf X Y Sf hn hs S hd ha hm hb h1 h2 hX hY
    omega
  | n + 1 => by
    intro a m b d W Pf X Y Sf hn hs S hd ha hm hb h1 h2 hX hY
    have ih := sym_all k L enc cf hO gc cb g off cap d0 w0 eg hcmp R hsz n
    by_cases e1 : X.length = 1
    · obtain ⟨x, rfl⟩ := len_one e1
      exact sym_left k L enc cf hO gc cb g off cap a m b d0 d w0 W eg hcmp R hs S Pf x Y Sf hd ha (by simpa using hm) h2 hb hY (by omega)
    by_cases e2 : Y.length = 1
    · obtain ⟨y, rfl⟩ := len_one e2
      exact sym_right k L enc cf hO gc cb g off cap a m b d0 d w0 W eg hcmp R hs S Pf X y Sf hd ha (by omega) (by simpa using hb) hm hX (by omega)
    by_cases e3 : (a + b) / 2 < m
    · exact sym_gena k L enc cf hO gc cb g off cap a m b d0 d w0 W eg hcmp R hs S Pf X Y Sf hd ha hm hb (by omega) (by omega) hX hY (by omega) n hn ih e3
    · exact sym_genb k L enc cf hO gc cb g off cap a m b d0 d w0 W eg hcmp R hs S Pf X Y Sf hd ha hm hb (by omega) (by omega) hX hY (by omega) n hn ih e3
/-- slices.insertionSortCmpFunc, from a world of the sort's to a world of the sort's. -/
theorem insSort_any (cf : Ord → Ord → Int) (hO : SWO (ltOf cf)) (gc : Nat) (cb : Array Value) (g off cap a b : Nat) (d0 d : Array Ord) (w0 W : World) (eg : ∀ args w, (callFunc gc args).run Try.prog w = .ok (.enter gc args) w) (hcmp : ∀ w, CmpLays Try.prog gc cb ordC 6 cf g off d0.size w) (R : RowK ordC 6 w0 g off d0) (hs : d0.size = d.size) (S : SWK ordC 6 w0 g off d W) (Pf M Sf : List Ord) (hd : d.toList = Pf ++ (M ++ Sf)) (ha : a = Pf.length) (hb : b = a + M.length) (hsz : d.size < 4611686018427387904) :
    Calls Try.prog 108 #[.slice (some ⟨g, off, none⟩) d.size cap, .int .i64 a, .int .i64 b, .func (.func gc) #[] cb] W fun e w' => e = .returned (.tuple #[]) ∧ ∃ d', SWK ordC 6 w0 g off d' w' ∧ d'.size = d.size ∧ d'.toList = Pf ++ (st (ltOf cf) M ++ Sf) := by
  have hsd : d.size = Pf.length + (M.length + Sf.length) := by rw [← Array.length_toList, hd]; simp
  obtain ⟨h1, h2⟩ := insertion_list hO Pf M Sf d hd a b ha hb
  have hcon := AnyQ.insertionSortCmpFunc Try.ins 6 Try.isAgg30 Try.sizeOf30 ordC ordLen ordOne cf gc cb g off cap a b d W eg (by rw [← hs]; exact hcmp W) (S.holds R.hblk R.hH hs.symm) (S.lt R.hblk) (by omega) (by omega) hsz
  refine hcon.mono ?_
  rintro e w' ⟨rfl, n, os, rfl⟩
  exact ⟨rfl, _, S.on R.hblk n _ os h2, h2, h1⟩
end Go.Proofs.Ytoachnhdedpbdaa
set_option linter.unusedSimpArgs false
set_option linter.unusedVariables false
set_option linter.unusedSectionVars false
namespace Go.Proofs.Ytoachnhdedpbdaa
open Go.RowKit Go.Lib Go.Sort Go.Shelf
/-- The first a members in blocks, the rest as it was. -/
def StI (lt : Ord → Ord → Bool) (bs : Nat) (l : List Ord) (a : Nat) (d : Array Ord) : Prop := ∃ X, d.toList = X ++ l.drop a ∧ X.length = a ∧ X ++ blks lt bs (l.drop a) = blks lt bs l
/-- The first a members in blocks of twice as many, the rest in blocks. -/
def StM (lt : Ord → Ord → Bool) (bs : Nat) (l : List Ord) (a : Nat) (d : Array Ord) : Prop := ∃ X, d.toList = X ++ blks lt bs (l.drop a) ∧ X.length = a ∧ X ++ blks lt (2 * bs) (l.drop a) = blks lt (2 * bs) l
theorem dropAt (l : List Ord) (a k : Nat) : (l.drop a).drop k = l.drop (a + k) := List.drop_drop ..
theorem StI.cut {lt : Ord → Ord → Bool} {bs : Nat} {l : List Ord} {a : Nat} {d : Array Ord} (h : StI lt bs l a d) (hb : 0 < bs) (ha : a + bs ≤ l.length) : ∃ X, d.toList = X ++ ((l.drop a).take bs ++ l.drop (a + bs)) ∧ X.length = a ∧ ((l.drop a).take bs).length = bs ∧ ∀ d' : Array Ord, d'.toList = X ++ (st lt ((l.drop a).take bs) ++ l.drop (a + bs)) → StI lt bs l (a + bs) d' := by
  obtain ⟨X, h1, h2, h3⟩ := h
  refine ⟨X, by rw [h1, ← dropAt, List.take_append_drop], h2, by rw [List.length_take, List.length_drop]; omega, fun d' hd' => ⟨X ++ st lt ((l.drop a).take bs), by rw [hd']; simp, by rw [List.length_append, st_len, List.length_take, List.length_drop]; omega, ?_⟩⟩
  rw [← h3, blks_cut lt hb (l := l.drop a) (by rw [List.length_drop]; omega), dropAt]
  simp
theorem StI.last {lt : Ord → Ord → Bool} {bs : Nat} {l : List Ord} {a : Nat} {d : Array Ord} (h : StI lt bs l a d) (ha : l.length ≤ a + bs) : ∃ X, d.toList = X ++ (l.drop a ++ []) ∧ X.length = a ∧ ∀ d' : Array Ord, d'.toList = X ++ (st lt (l.drop a) ++ []) → d'.toList = blks lt bs l := by
  obtain ⟨X, h1, h2, h3⟩ := h
  refine ⟨X, by rw [h1]; simp, h2, fun d' hd' => ?_⟩
  rw [hd', ← h3, blks_short lt (l := l.drop a) (by rw [List.length_drop]; omega)]
  simp
theorem StM.zero {lt : Ord → Ord → Bool} {bs : Nat} {l : List Ord} {d : Array Ord} (h : d.toList = blks lt bs l) : StM lt bs l 0 d := ⟨[], by rw [h]; rfl, rfl, rfl⟩
theorem StM.cut {lt : Ord → Ord → Bool} (hO : SWO lt) {bs : Nat} {l : List Ord} {a : Nat} {d : Array Ord} (h : StM lt bs l a d) (hb : 0 < bs) (ha : a + 2 * bs ≤ l.length) :
    ∃ X, d.toList = X ++ (st lt ((l.drop a).take bs) ++ (st lt (((l.drop a).drop bs).take bs) ++ blks lt bs (l.drop (a + 2 * bs)))) ∧ X.length = a ∧ (st lt ((l.drop a).take bs)).length = bs ∧ (st lt (((l.drop a).drop bs).take bs)).length = bs ∧
      ∀ d' : Array Ord, d'.toList = X ++ (mrg lt (st lt ((l.drop a).take bs)) (st lt (((l.drop a).drop bs).take bs)) ++ blks lt bs (l.drop (a + 2 * bs))) → StM lt bs l (a + 2 * bs) d' := by
  obtain ⟨X, h1, h2, h3⟩ := h
  obtain ⟨e1, e2⟩ := blks_two hO hb (l := l.drop a) (by rw [List.length_drop]; omega)
  rw [dropAt _ _ (2 * bs)] at e1 e2
  have q1 : (st lt ((l.drop a).take bs)).length = bs := by rw [st_len, List.length_take, List.length_drop]; omega
  have q2 : (st lt (((l.drop a).drop bs).take bs)).length = bs := by rw [st_len, List.length_take, List.length_drop, List.length_drop]; omega
  refine ⟨X, by rw [h1, e1], h2, q1, q2, fun d' hd' => ⟨X ++ mrg lt (st lt ((l.drop a).take bs)) (st lt (((l.drop a).drop bs).take bs)), by rw [hd']; simp, ?_, ?_⟩⟩
  · rw [List.length_append, mrg_length, q1, q2]
    omega
  · rw [← h3, e2]
    simp
theorem StM.last {lt : Ord → Ord → Bool} (hO : SWO lt) {bs : Nat} {l : List Ord} {a : Nat} {d : Array Ord} (h : StM lt bs l a d) (hb : 0 < bs) (ha : l.length < a + 2 * bs) (hm : a + bs < l.length) :
    ∃ X, d.toList = X ++ (st lt ((l.drop a).take bs) ++ (st lt ((l.drop a).drop bs) ++ [])) ∧ X.length = a ∧ (st lt ((l.drop a).take bs)).length = bs ∧ (st lt ((l.drop a).drop bs)).length = l.length - (a + bs) ∧
      ∀ d' : Array Ord, d'.toList = X ++ (mrg lt (st lt ((l.drop a).take bs)) (st lt ((l.drop a).drop bs)) ++ []) → d'.toList = blks lt (2 * bs) l := by
  obtain ⟨X, h1, h2, h3⟩ := h
  obtain ⟨e1, e2⟩ := blks_last hO hb (l := l.drop a) (by rw [List.length_drop]; omega) (by rw [List.length_drop]; omega)
  refine ⟨X, by rw [h1, e1, List.append_nil], h2, by rw [st_len, List.length_take, List.length_drop]; omega, by rw [st_len, List.length_drop, List.length_drop]; omega, fun d' hd' => ?_⟩
  rw [hd', ← h3, e2, List.append_nil]
theorem StM.done {lt : Ord → Ord → Bool} {bs : Nat} {l : List Ord} {a : Nat} {d : Array Ord} (h : StM lt bs l a d) (hm : l.length ≤ a + bs) : d.toList = blks lt (2 * bs) l := by
  obtain ⟨X, h1, h2, h3⟩ := h
  rw [h1, ← h3, blks_short lt (l := l.drop a) (by rw [List.length_drop]; omega), blks_short lt (l := l.drop a) (by rw [List.length_drop]; omega)]
set_option maxHeartbeats 8000000 in
set_option maxRecDepth 100000 in
theorem stable_any (cf : Ord → Ord → Int) (hO : SWO (ltOf cf)) (gc : Nat) (cb : Array Value) (g off cap : Nat) (d : Array Ord) (W : World) (eg : ∀ args w, (callFunc gc args).run Try.prog w = .ok (.enter gc args) w) (hcmp : ∀ w, CmpLays Try.prog gc cb ordC 6 cf g off d.size w) (R : RowK ordC 6 W g off d) (hsz : d.size ≤ 100000) :
    Calls Try.prog 96 #[.slice (some ⟨g, off, none⟩) d.size cap, .int .i64 d.size, .func (.func gc) #[] cb] W fun e w' => e = .returned (.tuple #[]) ∧ ∃ d', SWK ordC 6 W g off d' w' ∧ d'.size = d.size ∧ d'.toList = st (ltOf cf) d.toList := by
  have HC := hid_ hcmp
  have HR := hid_ R
  obtain ⟨l, hl⟩ : ∃ l, d.toList = l := ⟨_, rfl⟩
  have hlen : l.length = d.size := by rw [← hl]; simp
  rw [hl]
  have S0 : Aside (SWK ordC 6 W g off d W) := SWK.start R.hH
  have I0 : Hid (StI (ltOf cf) 20 l 0 d) := hid_ ⟨[], by rw [List.drop_zero, List.nil_append]; exact hl, rfl, by simp⟩
  have HL := hid_ hlen
  obtain ⟨n, hn⟩ : ∃ n, d.size = n := ⟨_, rfl⟩
  rw [hn]
  have HN := hid_ hn
  rw [hn] at hsz
  clear hcmp R hl hlen hn
  go_enter Try.func96, Try.ntmps96
  go_wp2_with fail
  go_loopw [7, 8] (fun s t wr => ∃ (a : Nat) (dk : Array Ord), s = .int .i64 a ∧ t = .int .i64 ((a + 20 : Nat) : Int) ∧ a ≤ n ∧ Hid (dk.size = n ∧ StI (ltOf cf) 20 l a dk) ∧ Aside (SWK ordC 6 W g off dk wr)) (fun s _ _ => n - (intOf s).toNat)
  case atStart => exact ⟨0, d, rfl, rfl, by omega, hid_ ⟨HN.out, I0.out⟩, S0⟩
  case round =>
    clear S0 I0
    obtain ⟨a, dk, rfl, rfl, han, HI, S1⟩ := hrel
    obtain ⟨b, hb⟩ : ∃ b, b = a + 20 := ⟨_, rfl⟩
    rw [← hb]
    have HB := hid_ hb
    have hab : a < b := by omega
    have hbn : b ≤ a + 20 := by omega
    have wb : IntKind.i64.wrap ((b : Int) + 20) = ((b + 20 : Nat) : Int) := by rw [IntKind.wrap_i64]; omega
    clear hb
    by_cases hle : b ≤ n
    · have z1 : ¬ ((n : Int) < (b : Int)) := by omega
      have z2 : (b : Int) ≤ (n : Int) := by omega
      obtain ⟨X, c1, c2, c3, c4⟩ := HI.out.2.cut (by omega) (by have := HB.out; have := HL.out; have := HN.out; omega)
      have hcall := insSort_any cf hO gc cb g off cap a b d dk W wr eg HC.out HR.out (by rw [HI.out.1, HN.out]) S1.out X _ _ c1 c2.symm (by rw [c3]; exact HB.out) (by rw [HI.out.1]; omega)
      rw [HI.out.1] at hcall
      have HC4 := hid_ c4
      clear c1 c2 c3 c4
      go_wp2_with fail
      refine hcall.mono ?_
      rintro e w3 ⟨rfl, d2, hS, hsz1, hl1⟩
      have S2 : Aside (SWK ordC 6 W g off d2 w3) := hS
      have H2 : Hid (d2.size = n ∧ StI (ltOf cf) 20 l b d2) := hid_ ⟨by rw [hsz1], by rw [HB.out]; exact HC4.out d2 (by rw [hl1])⟩
      clear hcall hS hsz1 hl1 HC4 HI S1
      go_wp2
      go_roundw
      case rel => exact ⟨b, d2, rfl, by go_num, hle, H2, S2⟩
      case measure => simp [intOf]; omega
    · have z1 : (n : Int) < (b : Int) := by omega
      have z2 : ¬ (b : Int) ≤ (n : Int) := by omega
      obtain ⟨X, c1, c2, c4⟩ := HI.out.2.last (by have := HB.out; have := HL.out; have := HN.out; omega)
      have hcall := insSort_any cf hO gc cb g off cap a n d dk W wr eg HC.out HR.out (by rw [HI.out.1, HN.out]) S1.out X _ _ c1 c2.symm (by rw [List.length_drop, HL.out, HN.out]; omega) (by rw [HI.out.1]; omega)
      rw [HI.out.1] at hcall
      have HC4 := hid_ c4
      clear c1 c2 c4
      go_wp2_with fail
      refine hcall.mono ?_
      rintro e w3 ⟨rfl, d2, hS, hsz1, hl1⟩
      have S2 : Aside (SWK ordC 6 W g off d2 w3) := hS
      have H2 : Hid (d2.size = n ∧ d2.toList = blks (ltOf cf) 20 l) := hid_ ⟨by rw [hsz1], HC4.out d2 hl1⟩
      clear hcall hS hsz1 hl1 HC4 HI S1 z1 z2 hle hbn hab wb HB han
      go_wp2_with fail
      go_loopw [6] (fun s wr => ∃ (bs : Nat) (dk : Array Ord), s = .int .i64 bs ∧ 0 < bs ∧ Hid (dk.size = n ∧ dk.toList = blks (ltOf cf) bs l) ∧ Aside (SWK ordC 6 W g off dk wr)) (fun s _ => n - (intOf s).toNat)
      case atStart => exact ⟨20, d2, rfl, by omega, H2, S2⟩
      case round =>
        clear S2 H2
        obtain ⟨bs, dk, rfl, hbs, HI, S1⟩ := hrel
        by_cases hlt : bs < n
        · have z1 : (bs : Int) < (n : Int) := by omega
          have wb : IntKind.i64.wrap (2 * (bs : Int)) = ((2 * bs : Nat) : Int) := by rw [IntKind.wrap_i64]; omega
          have wb2 : IntKind.i64.wrap ((bs : Int) * 2) = ((2 * bs : Nat) : Int) := by rw [IntKind.wrap_i64]; omega
          have M0 : Hid (dk.size = n ∧ StM (ltOf cf) bs l 0 dk) := hid_ ⟨HI.out.1, StM.zero HI.out.2⟩
          clear HI
          go_wp2_with fail
          go_loopw [7, 8] (fun s t wr => ∃ (a : Nat) (dk : Array Ord), s = .int .i64 a ∧ t = .int .i64 ((a + 2 * bs : Nat) : Int) ∧ a ≤ n ∧ Hid (dk.size = n ∧ StM (ltOf cf) bs l a dk) ∧ Aside (SWK ordC 6 W g off dk wr)) (fun s _ _ => n - (intOf s).toNat)
          case atStart => exact ⟨0, dk, rfl, by go_num, by omega, M0, S1⟩
          case round =>
            clear S1 M0 wb wb2
            obtain ⟨a2, dk2, rfl, rfl, han, MI, S1⟩ := hrel
            obtain ⟨b2, hb2⟩ : ∃ b, b = a2 + 2 * bs := ⟨_, rfl⟩
            rw [← hb2]
            obtain ⟨m2, hm2⟩ : ∃ m, m = a2 + bs := ⟨_, rfl⟩
            have HB := hid_ (And.intro hb2 hm2)
            have em : (a2 : Int) + (bs : Int) = (m2 : Int) := by omega
            have wm : IntKind.i64.wrap (m2 : Int) = (m2 : Int) := by rw [IntKind.wrap_i64]; omega
            have wb : IntKind.i64.wrap (2 * (bs : Int)) = 2 * (bs : Int) := by rw [IntKind.wrap_i64]; omega
            have wb2 : IntKind.i64.wrap ((bs : Int) * 2) = 2 * (bs : Int) := by rw [IntKind.wrap_i64]; omega
            have wb3 : IntKind.i64.wrap ((b2 : Int) + 2 * (bs : Int)) = ((b2 + 2 * bs : Nat) : Int) := by rw [IntKind.wrap_i64]; omega
            have hm3 : m2 ≤ 200000 := by omega
            have hb3 : b2 ≤ 300000 := by omega
            have hab : a2 < b2 := by omega
            clear hb2 hm2
            by_cases hle : b2 ≤ n
            · have z1 : ¬ ((n : Int) < (b2 : Int)) := by omega
              have z2 : (b2 : Int) ≤ (n : Int) := by omega
              obtain ⟨X, c1, c2, c3, c3', c4⟩ := MI.out.2.cut hO hbs (by have := HB.out; have := HL.out; have := HN.out; omega)
              have hcall := sym_all 6 stTry ordC cf hO gc cb g off cap d W eg (HC.out W) HR.out (by rw [HN.out]; omega) b2 a2 m2 b2 dk2 wr X _ _ _ (by omega) (by rw [MI.out.1, HN.out]) S1.out c1 c2.symm (by rw [c3]; exact HB.out.2) (by rw [c3']; have := HB.out; omega) (by have := HB.out; omega) (by have := HB.out; omega) (asc_st hO _) (asc_st hO _)
              rw [MI.out.1] at hcall
              have HC4 := hid_ c4
              clear c1 c2 c3 c3' c4
              go_wp2_with fail
              refine hcall.mono ?_
              rintro e w4 ⟨rfl, d3, hS, hsz1, hl1⟩
              have S2 : Aside (SWK ordC 6 W g off d3 w4) := hS
              have H2 : Hid (d3.size = n ∧ StM (ltOf cf) bs l b2 d3) := hid_ ⟨by rw [hsz1], by rw [HB.out.1]; exact HC4.out d3 hl1⟩
              clear hcall hS hsz1 hl1 HC4 MI S1 em wm wb wb2
              go_wp2
              go_roundw
              case rel => exact ⟨b2, d3, rfl, by go_num, hle, H2, S2⟩
              case measure => simp [intOf]; omega
            · have z1 : (n : Int) < (b2 : Int) := by omega
              have z2 : ¬ (b2 : Int) ≤ (n : Int) := by omega
              by_cases hmn : m2 < n
              · have z3 : (m2 : Int) < (n : Int) := by omega
                obtain ⟨X, c1, c2, c3, c3', c4⟩ := MI.out.2.last hO hbs (by have := HB.out; have := HL.out; have := HN.out; omega) (by have := HB.out; have := HL.out; have := HN.out; omega)
                have hcall := sym_all 6 stTry ordC cf hO gc cb g off cap d W eg (HC.out W) HR.out (by rw [HN.out]; omega) n a2 m2 n dk2 wr X _ _ [] (by omega) (by rw [MI.out.1, HN.out]) S1.out c1 c2.symm (by rw [c3]; exact HB.out.2) (by rw [c3', HL.out, HN.out]; have := HB.out; omega) (by have := HB.out; omega) hmn (asc_st hO _) (asc_st hO _)
                rw [MI.out.1] at hcall
                have HC4 := hid_ c4
                clear c1 c2 c3 c3' c4
                go_wp2_with fail
                refine hcall.mono ?_
                rintro e w4 ⟨rfl, d3, hS, hsz1, hl1⟩
                have S2 : Aside (SWK ordC 6 W g off d3 w4) := hS
                have H2 : Hid (d3.size = n ∧ d3.toList = blks (ltOf cf) (2 * bs) l) := hid_ ⟨by rw [hsz1], HC4.out d3 hl1⟩
                clear hcall hS hsz1 hl1 HC4 MI S1 em wm wb3
                go_wp2
                go_roundw
                case rel => exact ⟨2 * bs, d3, by go_num, by omega, H2, S2⟩
                case measure => simp [intOf]; omega
              · have z3 : ¬ (m2 : Int) < (n : Int) := by omega
                have H2 : Hid (dk2.size = n ∧ dk2.toList = blks (ltOf cf) (2 * bs) l) := hid_ ⟨MI.out.1, MI.out.2.done (by have := HB.out; have := HL.out; have := HN.out; omega)⟩
                clear MI wb3
                go_wp2
                go_roundw
                case rel => exact ⟨2 * bs, dk2, by go_num, by omega, H2, S1⟩
                case measure => simp [intOf]; omega
        · have z1 : ¬ (bs : Int) < (n : Int) := by omega
          have HF : Hid (dk.size = n ∧ dk.toList = st (ltOf cf) l) := hid_ ⟨HI.out.1, by rw [HI.out.2, blks_short _ (by have := HL.out; have := HN.out; omega)]⟩
          clear HI
          go_wp2
          go_end0
          exact ⟨rfl, dk, S1.out, HF.out⟩
end Go.Proofs.Ytoachnhdedpbdaa
