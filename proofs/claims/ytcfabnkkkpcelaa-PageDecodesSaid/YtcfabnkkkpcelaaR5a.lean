/- The document's answer on pages: place, key, numbers, texts, zeros: the walks. -/
import Derived.Test.YtcfabnkkkpcelaaPgD1
import Derived.Lib.AppendZerosOnto
set_option linter.unusedSimpArgs false
set_option linter.unusedVariables false
namespace Go.Proofs.Ytcfabnkkkpcelaa
open Go.RowKit Go.Lib
theorem place5_any (x : Int) (w : World) : Calls Try.prog 25 #[.int .i64 x] w fun e w' => e = .returned (.bool (placeB x)) ∧ w = w' := by
  unfold placeB
  go_enter Try.func25, Try.ntmps25
  by_cases h1 : 2 ≤ x
  · by_cases h2 : x < 4096
    · have d : decide (x ≤ 4095) = true := decide_eq_true (by omega)
      go_wp2
      go_ret
      exact ⟨by simp [h1, h2], rfl⟩
    · have d : decide (x ≤ 4095) = false := decide_eq_false (by omega)
      go_wp2
      go_ret
      exact ⟨by simp [h1, h2], rfl⟩
  · have d : decide (2 ≤ x) = false := decide_eq_false h1
    go_wp2
    go_ret
    exact ⟨rfl, rfl⟩
theorem key5_any (s : ByteArray) (w : World) : Calls Try.prog 58 #[.string s] w fun e w' => e = .returned (.bool (keyB s)) ∧ w = w' := by
  unfold keyB
  obtain ⟨p, hp⟩ : ∃ p, decide (1 ≤ s.size) = p := ⟨_, rfl⟩
  obtain ⟨q, hq⟩ : ∃ q, decide (s.size ≤ 48) = q := ⟨_, rfl⟩
  have d1 : decide ((1 : Int) ≤ (s.size : Int)) = p := by rw [← hp]; congr 1; exact propext ⟨fun h => by omega, fun h => by omega⟩
  have d2 : decide ((s.size : Int) ≤ 48) = q := by rw [← hq]; congr 1; exact propext ⟨fun h => by omega, fun h => by omega⟩
  rw [hp, hq]
  clear hp hq
  go_enter Try.func58, Try.ntmps58
  cases p
  · go_wp2
    go_ret
    exact ⟨rfl, rfl⟩
  · go_wp2
    go_ret
    exact ⟨rfl, rfl⟩
def fo (n : Int) : List Int := tw (n / 65536) ++ tw n
set_option maxRecDepth 10000 in
set_option maxHeartbeats 2000000 in
theorem number2_any (n : Int) (hn : 0 ≤ n ∧ n < 18446744073709551616) (w : World) : Calls Try.prog 29 #[.int .u64 n, .int .i64 2] w fun e w' => ∃ v, e = .returned v ∧ Own byteT w' w.heap.size v (tw n) ∧ Bel w w' := by
  have HE : Hid (tw n = [(n / 256 % 256), (n % 256)]) := hid_ (by simp only [tw, tw, List.cons_append, List.nil_append, List.cons.injEq, and_true])
  have HN := hid_ hn
  clear hn
  go_enter Try.func29, Try.ntmps29
  go_wp2
  go_loopw [5, 6] (fun v i wr => Bel w wr ∧ ((i = .int .i64 (1) ∧ Own byteT wr w.heap.size v []) ∨ (i = .int .i64 (0) ∧ Own byteT wr w.heap.size v [(n / 256 % 256)]) ∨ (i = .int .i64 (-1) ∧ Own byteT wr w.heap.size v [(n / 256 % 256), (n % 256)]))) (fun _ i _ => (Go.RowKit.intOf i + 1).toNat)
  case atStart => exact ⟨Bel.refl _, .inl ⟨rfl, Own.nil_ _ _ _⟩⟩
  case round =>
    obtain ⟨hB, hrel⟩ := hrel
    rcases hrel with ⟨rfl, hO⟩ | ⟨rfl, hO⟩ | ⟨rfl, hO⟩
    · have e1 : IntKind.u8.wrap (n / 256) = n / 256 % 256 := IntKind.wrap_u8 _
      go_wp2_with (at_builtin; refine wpApp (w0 := w) byteS rfl _ _ rfl _ [] [(n / 256 % 256)] (some ⟨wr.heap.size, 0, none⟩) 1 1 rfl rfl (hO.alloc_ _) (Row.lit (T := byteT) wr [(n / 256 % 256)] (0, 0) (by simp)) (hB.alloc _) (by simp) ?_; intro v1 x1 hO1 hb1 hg1 hat1)
      case roundEnd =>
        go_roundw
        case rel => exact ⟨hb1, .inr (.inl ⟨rfl, hO1⟩)⟩
        case measure => decide
    · have e1 : IntKind.u8.wrap (n) = n % 256 := IntKind.wrap_u8 _
      go_wp2_with (at_builtin; refine wpApp (w0 := w) byteS rfl _ _ rfl _ [(n / 256 % 256)] [(n % 256)] (some ⟨wr.heap.size, 0, none⟩) 1 1 rfl rfl (hO.alloc_ _) (Row.lit (T := byteT) wr [(n % 256)] (0, 0) (by simp)) (hB.alloc _) (by simp) ?_; intro v1 x1 hO1 hb1 hg1 hat1)
      case roundEnd =>
        go_roundw
        case rel => exact ⟨hb1, .inr (.inr (⟨rfl, hO1⟩))⟩
        case measure => decide
    · go_wp2
      go_ret
      exact ⟨_, rfl, by rw [HE.out]; exact hO, hB⟩
set_option maxRecDepth 10000 in
set_option maxHeartbeats 2000000 in
theorem number4_any (n : Int) (hn : 0 ≤ n ∧ n < 18446744073709551616) (w : World) : Calls Try.prog 29 #[.int .u64 n, .int .i64 4] w fun e w' => ∃ v, e = .returned v ∧ Own byteT w' w.heap.size v (fo n) ∧ Bel w w' := by
  have HE : Hid (fo n = [(n / 16777216 % 256), (n / 65536 % 256), (n / 256 % 256), (n % 256)]) := hid_ (by simp only [fo, tw, List.cons_append, List.nil_append, List.cons.injEq, and_true]; (repeat' apply And.intro) <;> first | rfl | trivial | omega)
  have HN := hid_ hn
  clear hn
  go_enter Try.func29, Try.ntmps29
  go_wp2
  go_loopw [5, 6] (fun v i wr => Bel w wr ∧ ((i = .int .i64 (3) ∧ Own byteT wr w.heap.size v []) ∨ (i = .int .i64 (2) ∧ Own byteT wr w.heap.size v [(n / 16777216 % 256)]) ∨ (i = .int .i64 (1) ∧ Own byteT wr w.heap.size v [(n / 16777216 % 256), (n / 65536 % 256)]) ∨ (i = .int .i64 (0) ∧ Own byteT wr w.heap.size v [(n / 16777216 % 256), (n / 65536 % 256), (n / 256 % 256)]) ∨ (i = .int .i64 (-1) ∧ Own byteT wr w.heap.size v [(n / 16777216 % 256), (n / 65536 % 256), (n / 256 % 256), (n % 256)]))) (fun _ i _ => (Go.RowKit.intOf i + 1).toNat)
  case atStart => exact ⟨Bel.refl _, .inl ⟨rfl, Own.nil_ _ _ _⟩⟩
  case round =>
    obtain ⟨hB, hrel⟩ := hrel
    rcases hrel with ⟨rfl, hO⟩ | ⟨rfl, hO⟩ | ⟨rfl, hO⟩ | ⟨rfl, hO⟩ | ⟨rfl, hO⟩
    · have e1 : IntKind.u8.wrap (n / 16777216) = n / 16777216 % 256 := IntKind.wrap_u8 _
      go_wp2_with (at_builtin; refine wpApp (w0 := w) byteS rfl _ _ rfl _ [] [(n / 16777216 % 256)] (some ⟨wr.heap.size, 0, none⟩) 1 1 rfl rfl (hO.alloc_ _) (Row.lit (T := byteT) wr [(n / 16777216 % 256)] (0, 0) (by simp)) (hB.alloc _) (by simp) ?_; intro v1 x1 hO1 hb1 hg1 hat1)
      case roundEnd =>
        go_roundw
        case rel => exact ⟨hb1, .inr (.inl ⟨rfl, hO1⟩)⟩
        case measure => decide
    · have e1 : IntKind.u8.wrap (n / 65536) = n / 65536 % 256 := IntKind.wrap_u8 _
      go_wp2_with (at_builtin; refine wpApp (w0 := w) byteS rfl _ _ rfl _ [(n / 16777216 % 256)] [(n / 65536 % 256)] (some ⟨wr.heap.size, 0, none⟩) 1 1 rfl rfl (hO.alloc_ _) (Row.lit (T := byteT) wr [(n / 65536 % 256)] (0, 0) (by simp)) (hB.alloc _) (by simp) ?_; intro v1 x1 hO1 hb1 hg1 hat1)
      case roundEnd =>
        go_roundw
        case rel => exact ⟨hb1, .inr (.inr (.inl ⟨rfl, hO1⟩))⟩
        case measure => decide
    · have e1 : IntKind.u8.wrap (n / 256) = n / 256 % 256 := IntKind.wrap_u8 _
      go_wp2_with (at_builtin; refine wpApp (w0 := w) byteS rfl _ _ rfl _ [(n / 16777216 % 256), (n / 65536 % 256)] [(n / 256 % 256)] (some ⟨wr.heap.size, 0, none⟩) 1 1 rfl rfl (hO.alloc_ _) (Row.lit (T := byteT) wr [(n / 256 % 256)] (0, 0) (by simp)) (hB.alloc _) (by simp) ?_; intro v1 x1 hO1 hb1 hg1 hat1)
      case roundEnd =>
        go_roundw
        case rel => exact ⟨hb1, .inr (.inr (.inr (.inl ⟨rfl, hO1⟩)))⟩
        case measure => decide
    · have e1 : IntKind.u8.wrap (n) = n % 256 := IntKind.wrap_u8 _
      go_wp2_with (at_builtin; refine wpApp (w0 := w) byteS rfl _ _ rfl _ [(n / 16777216 % 256), (n / 65536 % 256), (n / 256 % 256)] [(n % 256)] (some ⟨wr.heap.size, 0, none⟩) 1 1 rfl rfl (hO.alloc_ _) (Row.lit (T := byteT) wr [(n % 256)] (0, 0) (by simp)) (hB.alloc _) (by simp) ?_; intro v1 x1 hO1 hb1 hg1 hat1)
      case roundEnd =>
        go_roundw
        case rel => exact ⟨hb1, .inr (.inr (.inr (.inr (⟨rfl, hO1⟩))))⟩
        case measure => decide
    · go_wp2
      go_ret
      exact ⟨_, rfl, by rw [HE.out]; exact hO, hB⟩
set_option maxRecDepth 10000 in
set_option maxHeartbeats 2000000 in
theorem number8_any (n : Int) (hn : 0 ≤ n ∧ n < 18446744073709551616) (w : World) : Calls Try.prog 29 #[.int .u64 n, .int .i64 8] w fun e w' => ∃ v, e = .returned v ∧ Own byteT w' w.heap.size v (ei n) ∧ Bel w w' := by
  have HE : Hid (ei n = [(n / 72057594037927936 % 256), (n / 281474976710656 % 256), (n / 1099511627776 % 256), (n / 4294967296 % 256), (n / 16777216 % 256), (n / 65536 % 256), (n / 256 % 256), (n % 256)]) := hid_ (by simp only [ei, tw, List.cons_append, List.nil_append, List.cons.injEq, and_true]; (repeat' apply And.intro) <;> first | rfl | trivial | omega)
  have HN := hid_ hn
  clear hn
  go_enter Try.func29, Try.ntmps29
  go_wp2
  go_loopw [5, 6] (fun v i wr => Bel w wr ∧ ((i = .int .i64 (7) ∧ Own byteT wr w.heap.size v []) ∨ (i = .int .i64 (6) ∧ Own byteT wr w.heap.size v [(n / 72057594037927936 % 256)]) ∨ (i = .int .i64 (5) ∧ Own byteT wr w.heap.size v [(n / 72057594037927936 % 256), (n / 281474976710656 % 256)]) ∨ (i = .int .i64 (4) ∧ Own byteT wr w.heap.size v [(n / 72057594037927936 % 256), (n / 281474976710656 % 256), (n / 1099511627776 % 256)]) ∨ (i = .int .i64 (3) ∧ Own byteT wr w.heap.size v [(n / 72057594037927936 % 256), (n / 281474976710656 % 256), (n / 1099511627776 % 256), (n / 4294967296 % 256)]) ∨ (i = .int .i64 (2) ∧ Own byteT wr w.heap.size v [(n / 72057594037927936 % 256), (n / 281474976710656 % 256), (n / 1099511627776 % 256), (n / 4294967296 % 256), (n / 16777216 % 256)]) ∨ (i = .int .i64 (1) ∧ Own byteT wr w.heap.size v [(n / 72057594037927936 % 256), (n / 281474976710656 % 256), (n / 1099511627776 % 256), (n / 4294967296 % 256), (n / 16777216 % 256), (n / 65536 % 256)]) ∨ (i = .int .i64 (0) ∧ Own byteT wr w.heap.size v [(n / 72057594037927936 % 256), (n / 281474976710656 % 256), (n / 1099511627776 % 256), (n / 4294967296 % 256), (n / 16777216 % 256), (n / 65536 % 256), (n / 256 % 256)]) ∨ (i = .int .i64 (-1) ∧ Own byteT wr w.heap.size v [(n / 72057594037927936 % 256), (n / 281474976710656 % 256), (n / 1099511627776 % 256), (n / 4294967296 % 256), (n / 16777216 % 256), (n / 65536 % 256), (n / 256 % 256), (n % 256)]))) (fun _ i _ => (Go.RowKit.intOf i + 1).toNat)
  case atStart => exact ⟨Bel.refl _, .inl ⟨rfl, Own.nil_ _ _ _⟩⟩
  case round =>
    obtain ⟨hB, hrel⟩ := hrel
    rcases hrel with ⟨rfl, hO⟩ | ⟨rfl, hO⟩ | ⟨rfl, hO⟩ | ⟨rfl, hO⟩ | ⟨rfl, hO⟩ | ⟨rfl, hO⟩ | ⟨rfl, hO⟩ | ⟨rfl, hO⟩ | ⟨rfl, hO⟩
    · have e1 : IntKind.u8.wrap (n / 72057594037927936) = n / 72057594037927936 % 256 := IntKind.wrap_u8 _
      go_wp2_with (at_builtin; refine wpApp (w0 := w) byteS rfl _ _ rfl _ [] [(n / 72057594037927936 % 256)] (some ⟨wr.heap.size, 0, none⟩) 1 1 rfl rfl (hO.alloc_ _) (Row.lit (T := byteT) wr [(n / 72057594037927936 % 256)] (0, 0) (by simp)) (hB.alloc _) (by simp) ?_; intro v1 x1 hO1 hb1 hg1 hat1)
      case roundEnd =>
        go_roundw
        case rel => exact ⟨hb1, .inr (.inl ⟨rfl, hO1⟩)⟩
        case measure => decide
    · have e1 : IntKind.u8.wrap (n / 281474976710656) = n / 281474976710656 % 256 := IntKind.wrap_u8 _
      go_wp2_with (at_builtin; refine wpApp (w0 := w) byteS rfl _ _ rfl _ [(n / 72057594037927936 % 256)] [(n / 281474976710656 % 256)] (some ⟨wr.heap.size, 0, none⟩) 1 1 rfl rfl (hO.alloc_ _) (Row.lit (T := byteT) wr [(n / 281474976710656 % 256)] (0, 0) (by simp)) (hB.alloc _) (by simp) ?_; intro v1 x1 hO1 hb1 hg1 hat1)
      case roundEnd =>
        go_roundw
        case rel => exact ⟨hb1, .inr (.inr (.inl ⟨rfl, hO1⟩))⟩
        case measure => decide
    · have e1 : IntKind.u8.wrap (n / 1099511627776) = n / 1099511627776 % 256 := IntKind.wrap_u8 _
      go_wp2_with (at_builtin; refine wpApp (w0 := w) byteS rfl _ _ rfl _ [(n / 72057594037927936 % 256), (n / 281474976710656 % 256)] [(n / 1099511627776 % 256)] (some ⟨wr.heap.size, 0, none⟩) 1 1 rfl rfl (hO.alloc_ _) (Row.lit (T := byteT) wr [(n / 1099511627776 % 256)] (0, 0) (by simp)) (hB.alloc _) (by simp) ?_; intro v1 x1 hO1 hb1 hg1 hat1)
      case roundEnd =>
        go_roundw
        case rel => exact ⟨hb1, .inr (.inr (.inr (.inl ⟨rfl, hO1⟩)))⟩
        case measure => decide
    · have e1 : IntKind.u8.wrap (n / 4294967296) = n / 4294967296 % 256 := IntKind.wrap_u8 _
      go_wp2_with (at_builtin; refine wpApp (w0 := w) byteS rfl _ _ rfl _ [(n / 72057594037927936 % 256), (n / 281474976710656 % 256), (n / 1099511627776 % 256)] [(n / 4294967296 % 256)] (some ⟨wr.heap.size, 0, none⟩) 1 1 rfl rfl (hO.alloc_ _) (Row.lit (T := byteT) wr [(n / 4294967296 % 256)] (0, 0) (by simp)) (hB.alloc _) (by simp) ?_; intro v1 x1 hO1 hb1 hg1 hat1)
      case roundEnd =>
        go_roundw
        case rel => exact ⟨hb1, .inr (.inr (.inr (.inr (.inl ⟨rfl, hO1⟩))))⟩
        case measure => decide
    · have e1 : IntKind.u8.wrap (n / 16777216) = n / 16777216 % 256 := IntKind.wrap_u8 _
      go_wp2_with (at_builtin; refine wpApp (w0 := w) byteS rfl _ _ rfl _ [(n / 72057594037927936 % 256), (n / 281474976710656 % 256), (n / 1099511627776 % 256), (n / 4294967296 % 256)] [(n / 16777216 % 256)] (some ⟨wr.heap.size, 0, none⟩) 1 1 rfl rfl (hO.alloc_ _) (Row.lit (T := byteT) wr [(n / 16777216 % 256)] (0, 0) (by simp)) (hB.alloc _) (by simp) ?_; intro v1 x1 hO1 hb1 hg1 hat1)
      case roundEnd =>
        go_roundw
        case rel => exact ⟨hb1, .inr (.inr (.inr (.inr (.inr (.inl ⟨rfl, hO1⟩)))))⟩
        case measure => decide
    · have e1 : IntKind.u8.wrap (n / 65536) = n / 65536 % 256 := IntKind.wrap_u8 _
      go_wp2_with (at_builtin; refine wpApp (w0 := w) byteS rfl _ _ rfl _ [(n / 72057594037927936 % 256), (n / 281474976710656 % 256), (n / 1099511627776 % 256), (n / 4294967296 % 256), (n / 16777216 % 256)] [(n / 65536 % 256)] (some ⟨wr.heap.size, 0, none⟩) 1 1 rfl rfl (hO.alloc_ _) (Row.lit (T := byteT) wr [(n / 65536 % 256)] (0, 0) (by simp)) (hB.alloc _) (by simp) ?_; intro v1 x1 hO1 hb1 hg1 hat1)
      case roundEnd =>
        go_roundw
        case rel => exact ⟨hb1, .inr (.inr (.inr (.inr (.inr (.inr (.inl ⟨rfl, hO1⟩))))))⟩
        case measure => decide
    · have e1 : IntKind.u8.wrap (n / 256) = n / 256 % 256 := IntKind.wrap_u8 _
      go_wp2_with (at_builtin; refine wpApp (w0 := w) byteS rfl _ _ rfl _ [(n / 72057594037927936 % 256), (n / 281474976710656 % 256), (n / 1099511627776 % 256), (n / 4294967296 % 256), (n / 16777216 % 256), (n / 65536 % 256)] [(n / 256 % 256)] (some ⟨wr.heap.size, 0, none⟩) 1 1 rfl rfl (hO.alloc_ _) (Row.lit (T := byteT) wr [(n / 256 % 256)] (0, 0) (by simp)) (hB.alloc _) (by simp) ?_; intro v1 x1 hO1 hb1 hg1 hat1)
      case roundEnd =>
        go_roundw
        case rel => exact ⟨hb1, .inr (.inr (.inr (.inr (.inr (.inr (.inr (.inl ⟨rfl, hO1⟩)))))))⟩
        case measure => decide
    · have e1 : IntKind.u8.wrap (n) = n % 256 := IntKind.wrap_u8 _
      go_wp2_with (at_builtin; refine wpApp (w0 := w) byteS rfl _ _ rfl _ [(n / 72057594037927936 % 256), (n / 281474976710656 % 256), (n / 1099511627776 % 256), (n / 4294967296 % 256), (n / 16777216 % 256), (n / 65536 % 256), (n / 256 % 256)] [(n % 256)] (some ⟨wr.heap.size, 0, none⟩) 1 1 rfl rfl (hO.alloc_ _) (Row.lit (T := byteT) wr [(n % 256)] (0, 0) (by simp)) (hB.alloc _) (by simp) ?_; intro v1 x1 hO1 hb1 hg1 hat1)
      case roundEnd =>
        go_roundw
        case rel => exact ⟨hb1, .inr (.inr (.inr (.inr (.inr (.inr (.inr (.inr (⟨rfl, hO1⟩))))))))⟩
        case measure => decide
    · go_wp2
      go_ret
      exact ⟨_, rfl, by rw [HE.out]; exact hO, hB⟩
set_option maxRecDepth 10000 in
set_option maxHeartbeats 2000000 in
theorem two5_any (x : Int) (hx : 0 ≤ x ∧ x < 65536) (w : World) : Calls Try.prog 26 #[.int .i64 x] w fun e w' => ∃ v, e = .returned v ∧ Own byteT w' w.heap.size v (tw x) ∧ Bel w w' := by
  have e1 : IntKind.u64.wrap x = x := by rw [IntKind.wrap_u64]; omega
  have HX := hid_ hx
  clear hx
  go_enter Try.func26, Try.ntmps26
  go_wp2_with (go_at_call 29; refine (number2_any x (by have := HX.out; omega) _).mono ?_; rintro e w1 ⟨v1, rfl, hO1, hb1⟩)
  go_ret
  exact ⟨_, rfl, hO1, hb1⟩
set_option maxRecDepth 10000 in
set_option maxHeartbeats 2000000 in
theorem text5_any (s : ByteArray) (hs : s.size < 256) (w : World) : Calls Try.prog 54 #[.string s] w fun e w' => ∃ v, e = .returned v ∧ Own byteT w' w.heap.size v (txt s) ∧ Bel w w' := by
  have e2 : IntKind.u8.wrap (s.size : Int) = (s.size : Int) := by rw [IntKind.wrap_u8]; omega
  have HS := hid_ hs
  clear hs
  go_enter Try.func54, Try.ntmps54
  go_wp2_with (at_builtin; refine wpAppS (w0 := w) rfl _ _ rfl _ [(s.size : Int)] s rfl rfl (Own.lit (T := byteT) w w.heap.size [(s.size : Int)] (Nat.le_refl _) (by simp)) ((Bel.refl w).alloc _) (by simp) (by have := HS.out; simp; omega) ?_; intro v2 x2 hO2 hb2 hg2 hat2)
  go_ret
  exact ⟨_, rfl, hO2, hb2⟩
/-! ### zeros appended -/
def zsB (k : Nat) : ByteArray := ⟨Array.replicate k 0⟩
theorem zsB_size (k : Nat) : (zsB k).size = k := by simp [zsB, ByteArray.size]
theorem zsB_byL (k : Nat) : byL (zsB k) = List.replicate k 0 := by simp [zsB, byL]
theorem zero_cells (k : Nat) : Builtin.zeroCells (Value.int .u8 0).cells k = (strCells (zsB k)).toArray := by
  rw [byL_cells, zsB_byL]
  have e : (List.replicate k (0 : Int)).flatMap byteT.enc = List.replicate k (Value.int .u8 0) := by
    induction k with
    | zero => rfl
    | succ k ih => rw [List.replicate_succ, List.flatMap_cons, ih, List.replicate_succ]; rfl
  rw [e]
  apply Array.ext
  · simp [Builtin.zeroCells, Value.cells]
  · intro i h1 h2
    simp [Builtin.zeroCells, Value.cells, Nat.mod_one]
theorem run_zeros (W : World) (ty : TypeId) (A : Option Addr) (n c k : Nat) (h0 : 0 < k) (hk : n + k ≤ 1000000000) :
    (Builtin.append_ #[30, 3] ty #[.slice A n c, .int .i64 (k : Int)]).run Try.prog W = (Builtin.append_ #[30, 9] ty #[.slice A n c, .string (zsB k)]).run Try.prog W := by
  obtain ⟨i0, hi, hzz⟩ := Option.map_eq_some_iff.1 byteS.info
  simp only [Prod.mk.injEq] at hzz
  obtain ⟨hz0, hz1, hz2⟩ := hzz
  have hw : IntKind.i64.wrap (k : Int) = k := by rw [IntKind.wrap_i64]; omega
  have hneg : ¬ ((k : Int) < 0) := by omega
  have hf : ∀ (W : World) (z : Nat), (Builtin.firstCells z (zsB k).size (.string (zsB k))).run Try.prog W = .ok (strCells (zsB k)).toArray W := fun W z => run_firstCells_string (P := Try.prog) W z (zsB k)
  rw [zsB_size] at hf
  have hz1' : i0.size = 1 := hz1
  have h48i : ¬ (281474976710656 < (k : Int)) := by omega
  have hzc := zero_cells k
  have h63 : ¬ (9223372036854775807 < ((n : Int) + (k : Int))) := by omega
  have ht := byteS.ut
  have h0' : ¬ k = 0 := by omega
  by_cases hroom : n + k ≤ c
  · simp [Builtin.append_, run_underlying ht, run_underlying Try.underlying3, run_underlying Try.underlying9, sizeOf, typeInfo, zeroValue, hi, hz0, hz1', hz2, asInt, asIntOf, hw, hneg, h48i, h0', Builtin.lenOf, zsB_size, hroom, hf, hzc]
  · have hfit : ¬ (281474976710656 < Builtin.nextslicecap (n + k) c) := by
      have := growslice_fits (need := n + k) (old := c) (bytes := 1) (by omega) (by omega)
      omega
    simp [Builtin.append_, run_underlying ht, run_underlying Try.underlying3, run_underlying Try.underlying9, sizeOf, typeInfo, zeroValue, hi, hz0, hz1', hz2, asInt, asIntOf, hw, hneg, h48i, h0', h63, hfit, Builtin.lenOf, zsB_size, hroom, hf, hzc]
section
variable {ops : Array Oper} {rest : List Oper} {o : Oper} {a : Act} {Q : Exit → Act → World → Prop}
/-- append(v, make([]byte, k)...). -/
theorem wpAppZ {w0 W : World} (hgd : o.guard = none) (s x : Operand)
    (ho : o.op = .call { callee := .builtin .append, args := #[s, x], argTypes := #[30, 3] })
    (v : Value) (xs : List Int) (k : Nat) (hs : a.eval s = v) (hx : a.eval x = .int .i64 (k : Int))
    (HO : Own byteT W w0.heap.size v xs) (HB : Bel w0 W) (h0 : 0 < k) (hl : xs.length + k ≤ 1000000000)
    (h : ∀ v1 w1, Own byteT w1 w0.heap.size v1 (xs ++ List.replicate k 0) → Bel w0 w1 → W.grownBy w1 v.ownBlock → wpList Try.prog ops Q rest (a.put o.dst v1) w1) :
    wpList Try.prog ops Q (o :: rest) a W := by
  obtain ⟨i0, hi, hzz⟩ := Option.map_eq_some_iff.1 byteS.info
  simp only [Prod.mk.injEq] at hzz
  obtain ⟨hz0, hz1, hz2⟩ := hzz
  obtain ⟨v1, w1, hr, h1, h2, _⟩ := run_append_own_string (P := Try.prog) W w0.heap.size 30 9 o.type byteT.e i0 byteS.ut Try.underlying9 hi hz0 hz1 hz2 v xs.length (xs.flatMap byteT.enc) HO (zsB k) (by simp only [maxLen, zsB_size]; omega) (by rw [zsB_size]; omega) HB.size_
  obtain ⟨A, c, hv, hc, _⟩ := HO.reads
  have hr' : (Builtin.append_ #[30, 3] o.type #[v, .int .i64 (k : Int)]).run Try.prog W = .ok v1 w1 := by
    rw [hv] at hr ⊢
    rw [run_zeros W o.type A xs.length c k h0 (by omega)]
    exact hr
  refine wpList_plain hgd fun K hK => ?_
  unfold Oper.wp execOp
  simp only [ho, resolve, invoke, builtin, Sem.run_bind, Sem.run_pure, Result.andThen_ok, List.map_toArray, List.map_cons, List.map_nil, hs, hx, hr']
  refine hK _ _ (h v1 w1 ?_ (HB.grown_ h2 HO.base_) h2)
  unfold Own
  rw [List.length_append, List.length_replicate, List.flatMap_append, ← zsB_byL k, ← byL_cells]
  rw [zsB_size] at h1
  exact h1
end
set_option maxRecDepth 10000 in
set_option maxHeartbeats 2000000 in
theorem filled5_any (A : Option Addr) (m c n : Nat) (bs : List Int) (w : World) (hR : Row byteT w A m bs) (h1 : m < n) (h2 : n ≤ 100000) :
    Calls Try.prog 28 #[.slice A m c, .int .i64 (n : Int)] w fun e w' => ∃ v, e = .returned v ∧ Own byteT w' w.heap.size v (padB n bs) ∧ Bel w w' := by
  have d1 : decide (n ≤ m) = false := decide_eq_false (by omega)
  have e1 : IntKind.i64.wrap ((n : Int) - (m : Int)) = ((n - m : Nat) : Int) := by rw [IntKind.wrap_i64]; omega
  have hm := hR.1
  have HL : Hid (bs.length = m ∧ m < n ∧ n ≤ 100000) := hid_ ⟨hm, h1, h2⟩
  have HE : Hid (padB n bs = [] ++ bs ++ List.replicate (n - m) 0) := hid_ (by rw [padB, hm]; rfl)
  have HR := hid_ hR
  clear h1 h2 hm hR
  go_enter Try.func28, Try.ntmps28
  go_wp2_with (at_builtin; first
    | (refine wpApp (w0 := w) byteS rfl _ _ rfl (.slice (some ⟨w.heap.size, 0, none⟩) 0 0) [] bs A m c rfl rfl (Own.lit w w.heap.size [] (Nat.le_refl _) (by simp)) (HR.out.bel ((Bel.refl _).alloc _)) ((Bel.refl w).alloc _) (by have := HL.out; simp; omega) ?_; intro v1 x1 hO1 hb1 hg1 hat1)
    | (refine wpAppZ (w0 := w) rfl _ _ rfl v1 ([] ++ bs) (n - m) rfl rfl hO1 hb1 (by have := HL.out; omega) (by have := HL.out; simp; omega) ?_; intro v2 x2 hO2 hb2 hg2))
  go_ret
  exact ⟨_, rfl, by rw [HE.out]; exact hO2, hb2⟩
/-! ### reading -/
def getN (b : List Int) (at_ : Nat) : Nat → Int
  | 0 => 0
  | i + 1 => getN b at_ i * 256 + b.getD (at_ + i) 0
theorem getD_byte {b : List Int} (hb : ∀ x ∈ b, 0 ≤ x ∧ x < 256) (j : Nat) : 0 ≤ b.getD j 0 ∧ b.getD j 0 < 256 := by
  rw [List.getD_eq_getElem?_getD]
  cases h : b[j]? with
  | none => exact ⟨by decide, by decide⟩
  | some x => exact hb x (List.mem_of_getElem? h)
theorem getN_lt {b : List Int} (hb : ∀ x ∈ b, 0 ≤ x ∧ x < 256) (at_ : Nat) : ∀ i, 0 ≤ getN b at_ i ∧ getN b at_ i < 256 ^ i
  | 0 => ⟨by simp [getN], by simp [getN]⟩
  | i + 1 => by
    have h1 := getN_lt hb at_ i
    have h2 := getD_byte hb (at_ + i)
    rw [getN, Int.pow_succ]
    exact ⟨by omega, by omega⟩
theorem getN_7 {b : List Int} (hb : ∀ x ∈ b, 0 ≤ x ∧ x < 256) (at_ : Nat) {i : Nat} (hi : i ≤ 7) : 0 ≤ getN b at_ i ∧ getN b at_ i < 72057594037927936 := by
  have h := getN_lt hb at_ i
  refine ⟨h.1, ?_⟩
  have : ((256 : Int) ^ i) ≤ 72057594037927936 := by
    rcases (show i = 0 ∨ i = 1 ∨ i = 2 ∨ i = 3 ∨ i = 4 ∨ i = 5 ∨ i = 6 ∨ i = 7 by omega) with rfl | rfl | rfl | rfl | rfl | rfl | rfl | rfl <;> decide
  omega
set_option maxRecDepth 10000 in
set_option maxHeartbeats 2000000 in
theorem get5_any (A : Option Addr) (m c at_ k : Nat) (bs : List Int) (w : World) (hR : Row byteT w A m bs) (hb : ∀ x ∈ bs, 0 ≤ x ∧ x < 256) (hat : at_ ≤ 1000000) (hk : k ≤ 8) :
    Calls Try.prog 49 #[.slice A m c, .int .i64 (at_ : Int), .int .i64 (k : Int)] w fun e w' => e = .returned (.int .u64 (getN bs at_ k)) ∧ w = w' := by
  have hm := hR.1
  have hn := hR.2.1
  have HB := hid_ hb
  have HR := hid_ hR
  have HM := hid_ hm
  clear hb hR hm
  go_enter Try.func49, Try.ntmps49
  go_wp2
  go_loop [7, 8] (fun n i => ∃ j : Nat, j ≤ k ∧ i = .int .i64 (j : Int) ∧ n = .int .u64 (getN bs at_ j)) (fun _ i => k - (Go.RowKit.intOf i).toNat)
  case atStart => exact ⟨0, by omega, rfl, rfl⟩
  case round =>
    obtain ⟨j, hj, rfl, rfl⟩ := hrel
    obtain ⟨N, hN⟩ : ∃ N, getN bs at_ j = N := ⟨_, rfl⟩
    by_cases hjk : j < k
    · have h7 := getN_7 HB.out at_ (show j ≤ 7 by omega)
      have hs : getN bs at_ (j + 1) = N * 256 + bs.getD (at_ + j) 0 := by rw [getN, hN]
      have hg := getD_byte HB.out (at_ + j)
      rw [hN] at h7 ⊢
      have e1 : IntKind.u64.wrap (N * 256) = N * 256 := by rw [IntKind.wrap_u64]; omega
      have e0 : IntKind.i64.wrap ((at_ : Int) + (j : Int)) = ((at_ + j : Nat) : Int) := by rw [IntKind.wrap_i64]; omega
      have HS := hid_ hs
      by_cases hlt : at_ + j < m
      · obtain ⟨ad, x, rfl, ho, d0⟩ := HR.out.byte hlt
        have hx : bs.getD (at_ + j) 0 = x := by rw [List.getD_eq_getElem?_getD, ho]; rfl
        rw [hx] at hg
        have e2 : IntKind.u64.wrap (N * 256 + x) = N * 256 + x := by rw [IntKind.wrap_u64]; omega
        have e3 : IntKind.u64.wrap x = x := by rw [IntKind.wrap_u64]; omega
        have HX := hid_ hx
        have H7 := hid_ h7
        have HG := hid_ hg
        clear hN hs hx ho h7 hg
        go_wp2
        case roundEnd =>
          go_round
          case rel => exact ⟨j + 1, by omega, by go_num, by rw [HS.out, HX.out]⟩
          case measure => simp [Go.RowKit.intOf]; omega
      · have hx : bs.getD (at_ + j) 0 = 0 := by rw [List.getD_eq_getElem?_getD, List.getElem?_eq_none (by rw [HM.out]; omega)]; rfl
        have HX := hid_ hx
        have H7 := hid_ h7
        clear hN hs hx h7 hg
        go_wp2
        case roundEnd =>
          go_round
          case rel => exact ⟨j + 1, by omega, by go_num, by rw [HS.out, HX.out, Int.add_zero]⟩
          case measure => simp [Go.RowKit.intOf]; omega
    · have : j = k := by omega
      subst this
      rw [hN]
      have HNN := hid_ hN
      clear hN
      go_wp2
      go_ret
      exact ⟨by rw [HNN.out]; rfl, rfl⟩
/-- 'b[lo:hi]'. -/
theorem cutMid5 (A : Option Addr) (n c lo hi : Nat) (h1 : lo ≤ hi) (h2 : hi ≤ n) (h3 : n ≤ c) :
    ∃ A' : Option Addr, (∀ W : World, (Instr.slice 30 (.slice A n c) (some (.int .i64 (lo : Int))) (some (.int .i64 (hi : Int))) none).run Try.prog W = .ok (.slice A' (hi - lo) (c - lo)) W) ∧
      ∀ (w : World) (xs : List Int), Row byteT w A n xs → Row byteT w A' (hi - lo) ((xs.drop lo).take (hi - lo)) := by
  have hel : Try.prog.elem 30 = byteT.e := by simp [Program.elem, byteS.ut]
  have hu : Try.prog.underlying 30 = some (.slice (Try.prog.elem 30)) := by rw [hel]; exact byteS.ut
  obtain ⟨i, hi', hsz⟩ := byteS.size
  obtain ⟨A0, _, hrow0⟩ := byteS.cutFrom .i64 A n c lo (by omega) h3
  refine ⟨if c = lo then A else A.map (·.add (lo * byteT.sz)), fun W => ?_, fun w xs h => ?_⟩
  · rw [run_slice_lh W 30 A n c hu .i64 .i64 (lo : Int) (hi : Int) (Int.natCast_nonneg _) (by omega) (by omega), hel]
    simp [sizeOf, typeInfo, hi', hsz, sliced, Result.andThen]
  · refine ⟨by rw [List.length_take, List.length_drop, h.1]; omega, by have := h.2.1; omega, fun hp => ?_⟩
    obtain ⟨ad, rfl, hcell⟩ := h.2.2 (by omega)
    rw [if_neg (by omega)]
    refine ⟨ad.add (lo * byteT.sz), rfl, fun j x hj i u hu => ?_⟩
    rw [addAdd, ← Nat.add_assoc, ← Nat.add_mul]
    rw [List.getElem?_take] at hj
    split at hj
    · exact hcell (lo + j) x (by rw [← List.getElem?_drop]; exact hj) i u hu
    · cases hj
def pieceP (b : List Int) (at_ : Nat) : ByteArray := if at_ + 1 + (b.getD at_ 0).toNat ≤ b.length then strOfNums ((b.drop (at_ + 1)).take (b.getD at_ 0).toNat) else ⟨#[]⟩
theorem pieceP_size (b : List Int) (hb : ∀ x ∈ b, 0 ≤ x ∧ x < 256) (at_ : Nat) : (pieceP b at_).size < 256 := by
  have hg := getD_byte hb at_
  unfold pieceP
  split
  · have : (strOfNums ((b.drop (at_ + 1)).take (b.getD at_ 0).toNat)).size = ((b.drop (at_ + 1)).take (b.getD at_ 0).toNat).length := by simp [strOfNums, ByteArray.size]
    rw [this, List.length_take]
    omega
  · decide
set_option maxRecDepth 10000 in
set_option maxHeartbeats 2000000 in
theorem piece5_any (A : Option Addr) (m c at_ : Nat) (bs : List Int) (w : World) (hR : Row byteT w A m bs) (hc : m ≤ c) (hb : ∀ x ∈ bs, 0 ≤ x ∧ x < 256) (hat : at_ ≤ 1000000) :
    Calls Try.prog 61 #[.slice A m c, .int .i64 (at_ : Int)] w fun e w' => e = .returned (.string (pieceP bs at_)) ∧ w = w' := by
  obtain ⟨n, hn⟩ : ∃ n : Nat, (bs.getD at_ 0).toNat = n := ⟨_, rfl⟩
  have hg := getD_byte hb at_
  have hm := hR.1
  have hm2 := hR.2.1
  have h1 : getN bs at_ 1 = (n : Int) := by simp only [getN, Nat.add_zero]; omega
  have hp : pieceP bs at_ = if at_ + 1 + n ≤ m then strOfNums ((bs.drop (at_ + 1)).take n) else ⟨#[]⟩ := by rw [pieceP, hn, hm]
  have HP := hid_ hp
  have HG : Hid (Calls Try.prog 49 #[.slice A m c, .int .i64 (at_ : Int), .int .i64 1] w fun e w' => e = .returned (.int .u64 (n : Int)) ∧ w = w') := hid_ (by have := get5_any A m c at_ 1 bs w hR hb hat (by omega); rw [h1] at this; exact this)
  have hn2 : n < 256 := by omega
  have e0 : IntKind.i64.wrap (n : Int) = (n : Int) := by rw [IntKind.wrap_i64]; omega
  have e1 : IntKind.i64.wrap ((at_ : Int) + 1) = ((at_ + 1 : Nat) : Int) := by rw [IntKind.wrap_i64]; omega
  have e2 : IntKind.i64.wrap (((at_ + 1 : Nat) : Int) + (n : Int)) = ((at_ + 1 + n : Nat) : Int) := by rw [IntKind.wrap_i64]; omega
  have HR := hid_ hR
  have HC := hid_ hc
  clear hR hb hn hg hm h1 hp hc
  go_enter Try.func61, Try.ntmps61
  by_cases hfit : at_ + 1 + n ≤ m
  · have d1 : decide ((m : Int) < (at_ : Int) + 1 + (n : Int)) = false := decide_eq_false (by omega)
    obtain ⟨A', hcut, hrow⟩ := cutMid5 A m c (at_ + 1) (at_ + 1 + n) (by omega) hfit HC.out
    have ee : at_ + 1 + n - (at_ + 1) = n := by omega
    rw [ee] at hrow
    simp only [ee, Int.natCast_add] at hcut
    simp only [show ((1 : Nat) : Int) = 1 from rfl] at hcut
    have s1 := run_str (c := c - (at_ + 1)) (hrow w bs HR.out)
    clear hrow ee
    go_wp2_with (go_at_call 49; refine HG.out.mono ?_; rintro e w1 ⟨rfl, rfl⟩)
    go_ret
    exact ⟨by rw [HP.out, if_pos hfit]; rfl, rfl⟩
  · have d1 : decide ((m : Int) < (at_ : Int) + 1 + (n : Int)) = true := decide_eq_true (by omega)
    go_wp2_with (go_at_call 49; refine HG.out.mono ?_; rintro e w1 ⟨rfl, rfl⟩)
    go_ret
    exact ⟨by rw [HP.out, if_neg hfit]; rfl, rfl⟩
end Go.Proofs.Ytcfabnkkkpcelaa
