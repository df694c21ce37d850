/- The contracts of crc.More (with its closure), crc.Sum, and of the reference's More and Sum: each answers the plain check sum 'more' of the bytes, and writes nothing that was there. -/
import Derived.Test.YtcfabnkkkpcelaaCrM
import Derived.Test.YtcfabnkkkpcelaaProg
import Derived.WalkKit
import Derived.WalkSpells
import Derived.WalkLawsBesides
namespace Go.Proofs.Ytcfabnkkkpcelaa
open Go.RowKit

/-- A word as a number. -/
def uv (x : W64) : Int := (x.toNat : Int)
theorem uv_inj {x y : W64} (h : uv x = uv y) : x = y := by
  unfold uv at h
  exact BitVec.eq_of_toNat_eq (by omega)
theorem uv_of (n : Int) (h : 0 ≤ n) (h1 : n < 18446744073709551616) : ∃ x : W64, n = uv x := by
  refine ⟨BitVec.ofNat 64 n.toNat, ?_⟩
  unfold uv
  rw [BitVec.toNat_ofNat, Nat.mod_eq_of_lt (by omega)]
  omega

/-- Bytes in memory. -/
def Byts (w : World) (A : Option Addr) (n : Nat) (bs : List Int) : Prop :=
  bs.length = n ∧ n ≤ 9223372036854775807 ∧ (0 < n → ∃ ad : Addr, A = some ad ∧ ∀ j, j < n → w.cell? (ad.add j) = some (.int .u8 (bs.getD j 0))) ∧ ∀ b ∈ bs, 0 ≤ b ∧ b < 256
theorem Byts.below {w w1 : World} {A : Option Addr} {n : Nat} {bs : List Int} (h : Byts w A n bs) (hb : Below w.heap.size w w1) : Byts w1 A n bs := by
  refine ⟨h.1, h.2.1, fun hn => ?_, h.2.2.2⟩
  obtain ⟨ad, e, hc⟩ := h.2.2.1 hn
  exact ⟨ad, e, fun j hj => (hb.cell (World.block_lt_of_cell? w _ (hc j hj))).trans (hc j hj)⟩
theorem Byts.byte {w : World} {A : Option Addr} {n : Nat} {bs : List Int} (h : Byts w A n bs) {k : Nat} (hk : k < n) : 0 ≤ bs.getD k 0 ∧ bs.getD k 0 < 256 := by
  refine h.2.2.2 _ ?_
  rw [List.getD_eq_getElem?_getD, List.getElem?_eq_getElem (by rw [h.1]; exact hk)]
  exact List.getElem_mem _
theorem run_take {w : World} {A : Option Addr} {n : Nat} {bs : List Int} (h : Byts w A n bs) {k : Nat} (hk : k < n) (x : W64) : run x (bs.take (k + 1)) = byt (run x (bs.take k)) (bs.getD k 0) := by
  rw [List.take_add_one, run_append, List.getD_eq_getElem?_getD, List.getElem?_eq_getElem (by rw [h.1]; exact hk)]
  rfl

theorem xorU (x y : W64) : Go.bits .xor .u64 (uv x) (uv y) = uv (x ^^^ y) := by
  unfold uv
  rw [u64_xor_nat _ _ x.isLt y.isLt, BitVec.toNat_xor]
theorem notU (x : W64) : Go.bits .xor .u64 IntKind.u64.max (uv x) = uv (~~~ x) := by
  have : IntKind.u64.max = uv 18446744073709551615#64 := by decide
  rw [this, xorU]
  congr 1
theorem andU (x y : W64) : Go.bits .and .u64 (uv x) (uv y) = uv (x &&& y) := by
  unfold uv
  rw [u64_and_nat _ _ x.isLt y.isLt, BitVec.toNat_and]
theorem shrU (x : W64) : uv x / (2 : Int) = uv (x >>> 1) := by
  unfold uv
  rw [BitVec.toNat_ushiftRight, Nat.shiftRight_eq_div_pow]
  omega
theorem lsb_mod (x : W64) : x.getLsbD 0 = decide (x.toNat % 2 = 1) := by
  have : x.getLsbD 0 = x.toNat.testBit 0 := rfl
  rw [this, Nat.testBit_zero]
theorem and1U (x : W64) : Go.bits .and .u64 (uv x) 1 = if x.getLsbD 0 then 1 else 0 := by
  have e1 : (1 : Int) = uv 1#64 := by decide
  rw [e1, andU, lsb_mod]
  unfold uv
  rw [BitVec.toNat_and]
  have h1 : (1#64).toNat = 1 := by decide
  rw [h1, Nat.and_one_is_mod]
  rcases Nat.mod_two_eq_zero_or_one x.toNat with h | h <;> simp [h]
theorem stpU (y : W64) : Go.bits .xor .u64 (uv y / (2 : Int)) (IntKind.u64.wrap (Go.bits .and .u64 (uv y) 1 * 14514072000185962306)) = uv (stp y) := by
  rw [shrU, and1U]
  unfold stp
  cases y.getLsbD 0
  · have : IntKind.u64.wrap ((if false = true then 1 else 0) * 14514072000185962306) = uv 0#64 := by decide
    rw [this, xorU]
    rfl
  · have : IntKind.u64.wrap ((if true = true then 1 else 0) * 14514072000185962306) = uv poly := by decide
    rw [this, xorU]
    rfl
theorem and15U (x : W64) : Go.bits .and .u64 (uv x) 15 = ((x &&& 15#64).toNat : Int) := by
  have e1 : (15 : Int) = uv 15#64 := by decide
  rw [e1, andU]
  rfl
theorem and15_lt (x : W64) : (x &&& 15#64).toNat < 16 := by
  have : (x &&& 15#64).toNat = x.toNat % 16 := by
    rw [BitVec.toNat_and]
    exact Nat.and_two_pow_sub_one_eq_mod x.toNat 4
  omega
theorem fourU (x : W64) : Go.bits .xor .u64 (uv x / (16 : Int)) (uv (stps 4 (x &&& 15#64))) = uv (stps 4 x) := by
  have h : uv x / (16 : Int) = uv (x >>> 4) := by
    unfold uv
    rw [BitVec.toNat_ushiftRight, Nat.shiftRight_eq_div_pow]
    omega
  rw [h, xorU, ← four]
theorem byte_uv {b : Int} (h : 0 ≤ b ∧ b < 256) : b = uv (BitVec.ofNat 64 b.toNat) := by
  unfold uv
  rw [BitVec.toNat_ofNat, Nat.mod_eq_of_lt (by omega)]
  omega
theorem bytU (y : W64) {b : Int} (h : 0 ≤ b ∧ b < 256) : Go.bits .xor .u64 (uv y) b = uv (y ^^^ BitVec.ofNat 64 b.toNat) := by
  conv => lhs; rw [byte_uv h]
  rw [xorU]

set_option maxHeartbeats 400000 in
theorem entry_any (x : W64) (w : World) :
    Calls Try.prog 62 #[.int .u64 (uv x)] w fun e w' => e = .returned (.int .u64 (uv (stps 4 x))) ∧ w = w' := by
  go_enter Try.func62, Try.ntmps62
  go_wp2
  go_loop [0, 3] (fun a i => ∃ k : Nat, k ≤ 4 ∧ i = .int .i64 k ∧ a = .int .u64 (uv (stps k x))) (fun _ i => 4 - (intOf i).toNat)
  case atStart => exact ⟨0, by omega, rfl, rfl⟩
  case round =>
    obtain ⟨k, hk, rfl, rfl⟩ := hrel
    go_wp2
    case roundEnd =>
      go_round
      case rel =>
        refine ⟨k + 1, by omega, by go_num, ?_⟩
        rw [stps_add k 1, stpU]
        rfl
      case measure => simp [intOf]; omega
    · have : k = 4 := by omega
      subst this
      go_ret
      exact ⟨rfl, rfl⟩
theorem entry_any' (x : W64) (v : Int) (hv : v = uv x) (w : World) :
    Calls Try.prog 62 #[.int .u64 v] w fun e w' => e = .returned (.int .u64 (uv (stps 4 x))) ∧ w = w' := by
  subst hv
  exact entry_any x w

/-- The table, its first k entries laid. -/
def tab (k : Nat) : List Value := (List.range 16).map fun j => .int .u64 (uv (if j < k then stps 4 (BitVec.ofNat 64 j) else 0#64))
theorem tab_length (k : Nat) : (tab k).length = 16 := by simp [tab]
theorem tab_get (k j : Nat) (hj : j < 16) : (tab k)[j]? = some (.int .u64 (uv (if j < k then stps 4 (BitVec.ofNat 64 j) else 0#64))) := by
  simp [tab, hj]
theorem tab_set (k : Nat) (hk : k < 16) : (tab k).set k (.int .u64 (uv (stps 4 (BitVec.ofNat 64 k)))) = tab (k + 1) := by
  apply List.ext_getElem?
  intro j
  rcases Nat.lt_or_ge j 16 with hj | hj
  · rw [List.getElem?_set, tab_get _ _ hj, tab_get _ _ hj, tab_length]
    by_cases h : k = j
    · subst h
      rw [if_pos rfl, if_pos hk, if_pos (by omega)]
    · rw [if_neg h]
      by_cases h2 : j < k
      · rw [if_pos h2, if_pos (by omega)]
      · rw [if_neg h2, if_neg (by omega)]
  · rw [List.getElem?_eq_none (by rw [List.length_set, tab_length]; exact hj), List.getElem?_eq_none (by rw [tab_length]; exact hj)]
theorem tab_round {wr : World} {g : Nat} (hcell : ∀ j, j < 16 → wr.cell? ⟨g, j, none⟩ = some (.int .u64 (uv (stps 4 (BitVec.ofNat 64 j))))) (z : W64) :
    ∃ i : Nat, ∃ j : Int, i < 16 ∧ Go.bits .and .u64 (uv z) 15 = (i : Int) ∧ wr.cell? ⟨g, i, none⟩ = some (.int .u64 j) ∧ Go.bits .xor .u64 (uv z / (16 : Int)) j = uv (stps 4 z) := by
  refine ⟨_, _, and15_lt z, and15U z, hcell _ (and15_lt z), ?_⟩
  rw [← fourU z, BitVec.ofNat_toNat, BitVec.setWidth_eq]

set_option maxHeartbeats 400000 in
theorem more_any (x : W64) (A : Option Addr) (n c : Nat) (bs : List Int) (w : World) (hb : Byts w A n bs) :
    Calls Try.prog 53 #[.int .u64 (uv x), .slice A n c] w fun e w' => e = .returned (.int .u64 (uv (more x bs))) ∧ Below w.heap.size w w' := by
  have hs : IntKind.u64.signed = false := rfl
  have hn : n ≤ 9223372036854775807 := hb.2.1
  go_enter Try.func53, Try.ntmps53
  go_wp2_with fail
  go_loopw [7, 11] (fun _ i wr => ∃ k : Nat, k ≤ 16 ∧ i = .int .i64 k ∧ wr.heap[w.heap.size]? = some (.cells (tab k).toArray 85) ∧ Below w.heap.size w wr) (fun _ i _ => 16 - (intOf i).toNat)
  case atStart => exact ⟨0, by omega, rfl, heap_alloc_new _ _, (Below.refl _ _).alloc (Nat.le_refl _) _⟩
  case round =>
    obtain ⟨k, hk, rfl, hblk, hbel⟩ := hrel
    by_cases hlt : k < 16
    · have hcell : wr.cell? ⟨w.heap.size, k, none⟩ = some (.int .u64 (uv 0#64)) := by
        rw [cell_of_row wr _ _ _ _ _ hblk]
        simp [tab_get k k hlt]
      have hfz : wr.frozen? ⟨w.heap.size, k, none⟩ = false := by simp [World.frozen?, hblk]
      go_wp2_with (go_at_call 62; refine (entry_any' (BitVec.ofNat 64 k) _ ?_ _).mono ?_; rotate_left; rintro e w1 ⟨rfl, rfl⟩)
      case roundEnd =>
        go_roundw
        case rel =>
          refine ⟨k + 1, by omega, by go_num, ?_, ?_⟩
          · rw [← tab_set k hlt]
            simp [World.setCell, Array.getElem?_modify, hblk]
          · exact Below.setCell (p := ⟨w.heap.size, k, none⟩) hbel (Nat.le_refl _) _
        case measure => simp [intOf]; omega
      · unfold uv
        rw [BitVec.toNat_ofNat, Nat.mod_eq_of_lt (by omega)]
    · have hk16 : k = 16 := by omega
      subst hk16
      have hcell : ∀ j, j < 16 → wr.cell? ⟨w.heap.size, j, none⟩ = some (.int .u64 (uv (stps 4 (BitVec.ofNat 64 j)))) := by
        intro j hj
        rw [cell_of_row wr _ _ _ _ _ hblk]
        simp [tab_get 16 j hj, hj]
      clear hblk
      go_wp2
      go_loopw [8, 10, 25] (fun a _ i wx => wr = wx ∧ ∃ k : Nat, k ≤ n ∧ i = .int .i64 k ∧ a = .int .u64 (uv (run (~~~ x) (bs.take k)))) (fun _ _ i _ => n - (intOf i).toNat)
      case atStart => exact ⟨rfl, 0, by omega, rfl, by rw [notU]; rfl⟩
      case round =>
        obtain ⟨rfl, k, hk, rfl, rfl⟩ := hrel
        by_cases hkn : k < n
        · have hbr := hb.below hbel
          have hbk := hbr.byte hkn
          have hstep := run_take hbr hkn (~~~ x)
          obtain ⟨ad, rfl, hbc⟩ := hbr.2.2.1 (by omega)
          have hck := hbc k hkn
          clear hbc hbr hb
          generalize run (~~~ x) (bs.take k) = y at *
          generalize bs.getD k 0 = b at *
          have h1 := bytU y hbk
          have e1 : byt y b = stps 4 (stps 4 (y ^^^ BitVec.ofNat 64 b.toNat)) := stps_add 4 4 _
          generalize y ^^^ BitVec.ofNat 64 b.toNat = z at *
          obtain ⟨i1, j1, h2, h3, h4, h5⟩ := tab_round hcell z
          generalize stps 4 z = z2 at *
          obtain ⟨i2, j2, h6, h7, h8, h9⟩ := tab_round hcell z2
          rw [e1] at hstep
          generalize stps 4 z2 = z3 at *
          clear hcell hs
          go_wp2
          case roundEnd =>
            go_roundw
            case rel => exact ⟨trivial, k + 1, by omega, by go_num, by rw [hstep]⟩
            case measure => simp [intOf]; omega
        · have : k = n := by omega
          subst this
          have hfull : bs.take k = bs := by rw [← hb.1, List.take_length]
          rw [hfull]
          go_wp2
          go_ret
          exact ⟨by rw [notU]; rfl, hbel⟩

theorem uv0 : (0 : Int) = uv 0#64 := by decide

set_option maxHeartbeats 400000 in
theorem sum_any (A : Option Addr) (n c : Nat) (bs : List Int) (w : World) (hb : Byts w A n bs) :
    Calls Try.prog 24 #[.slice A n c] w fun e w' => e = .returned (.int .u64 (uv (more 0#64 bs))) ∧ Below w.heap.size w w' := by
  have h0 := more_any 0#64 A n c bs w hb
  rw [← uv0] at h0
  go_enter Try.func24, Try.ntmps24
  go_wp2_with (go_at_call 53; refine h0.mono ?_; rintro e w1 ⟨rfl, hbel⟩)
  go_ret
  exact ⟨rfl, hbel⟩

theorem uv_nonneg (y : W64) : 0 ≤ uv y := Int.natCast_nonneg _
theorem uv_lt (y : W64) : uv y < 18446744073709551616 := by have := y.isLt; unfold uv; omega
theorem remU (y : W64) : (uv y).tmod 2 = if y.getLsbD 0 then 1 else 0 := by
  rw [Int.tmod_eq_emod_of_nonneg (uv_nonneg y), lsb_mod]
  unfold uv
  rcases Nat.mod_two_eq_zero_or_one y.toNat with h | h
  · simp [h]; omega
  · simp [h]; omega
theorem quoU (y : W64) : IntKind.u64.wrap ((uv y).tdiv 2) = uv (y >>> 1) := by
  have h0 := uv_nonneg y
  have h1 := uv_lt y
  rw [Int.tdiv_eq_ediv_of_nonneg h0, IntKind.wrap_u64, Int.emod_eq_of_lt (by omega) (by omega), shrU]
theorem stp_hi {y : W64} (h : y.getLsbD 0 = true) : Go.bits .xor .u64 (IntKind.u64.wrap ((uv y).tdiv 2)) 14514072000185962306 = uv (stp y) := by
  have : (14514072000185962306 : Int) = uv poly := by decide
  rw [quoU, this, xorU]
  unfold stp
  rw [h]
  rfl
theorem stp_lo {y : W64} (h : y.getLsbD 0 = false) : IntKind.u64.wrap ((uv y).tdiv 2) = uv (stp y) := by
  rw [quoU, stp_even y h]

set_option maxHeartbeats 400000 in
theorem rmore_any (x : W64) (A : Option Addr) (n c : Nat) (bs : List Int) (w : World) (hb : Byts w A n bs) :
    Calls Try.prog 55 #[.int .u64 (uv x), .slice A n c] w fun e w' => e = .returned (.int .u64 (uv (more x bs))) ∧ w = w' := by
  have hs : IntKind.u64.signed = false := rfl
  have hn : n ≤ 9223372036854775807 := hb.2.1
  go_enter Try.func55, Try.ntmps55
  go_wp2
  go_loop [5, 6, 7, 8] (fun a i _ _ => ∃ k : Nat, k ≤ n ∧ i = .int .i64 k ∧ a = .int .u64 (uv (run (~~~ x) (bs.take k)))) (fun _ i _ _ => n - (intOf i).toNat)
  case atStart => exact ⟨0, by omega, rfl, by rw [notU]; rfl⟩
  case round =>
    obtain ⟨k, hk, rfl, rfl⟩ := hrel
    by_cases hkn : k < n
    · have hbk := hb.byte hkn
      have hstep := run_take hb hkn (~~~ x)
      obtain ⟨ad, rfl, hbc⟩ := hb.2.2.1 (by omega)
      have hck := hbc k hkn
      clear hbc hb
      generalize run (~~~ x) (bs.take k) = y at *
      generalize bs.getD k 0 = b at *
      have h1 := bytU y hbk
      have e1 : byt y b = stps 8 (y ^^^ BitVec.ofNat 64 b.toNat) := rfl
      generalize y ^^^ BitVec.ofNat 64 b.toNat = z at *
      rw [e1] at hstep
      clear e1
      go_wp2
      go_loop [5, 7, 8] (fun a i _ => ∃ j : Nat, j ≤ 8 ∧ i = .int .i64 j ∧ a = .int .u64 (uv (stps j z))) (fun _ i _ => 8 - (intOf i).toNat)
      case atStart => exact ⟨0, by omega, rfl, rfl⟩
      case round =>
        obtain ⟨j, hj, rfl, rfl⟩ := hrel
        have hnext : stps (j + 1) z = stp (stps j z) := by rw [stps_add j 1]; rfl
        by_cases hj8 : j < 8
        · generalize stps j z = v at *
          have hm := remU v
          cases hl : v.getLsbD 0
          · rw [hl] at hm
            simp only [Bool.false_eq_true, if_false] at hm
            have hlo := stp_lo hl
            go_wp2
            case roundEnd =>
              go_round
              case rel => exact ⟨j + 1, by omega, by go_num, by rw [hnext]⟩
              case measure => simp [intOf]; omega
          · rw [hl] at hm
            simp only [if_true] at hm
            have hhi := stp_hi hl
            go_wp2
            case roundEnd =>
              go_round
              case rel => exact ⟨j + 1, by omega, by go_num, by rw [hnext]⟩
              case measure => simp [intOf]; omega
        · have : j = 8 := by omega
          subst this
          go_wp2
          case roundEnd =>
            go_round
            case rel => exact ⟨k + 1, by omega, by go_num, by rw [hstep]⟩
            case measure => simp [intOf]; omega
    · have : k = n := by omega
      subst this
      have hfull : bs.take k = bs := by rw [← hb.1, List.take_length]
      rw [hfull]
      go_wp2
      go_ret
      exact ⟨by rw [notU]; rfl, rfl⟩

set_option maxHeartbeats 400000 in
theorem rsum_any (A : Option Addr) (n c : Nat) (bs : List Int) (w : World) (hb : Byts w A n bs) :
    Calls Try.prog 30 #[.slice A n c] w fun e w' => e = .returned (.int .u64 (uv (more 0#64 bs))) ∧ w = w' := by
  have h0 := rmore_any 0#64 A n c bs w hb
  rw [← uv0] at h0
  go_enter Try.func30, Try.ntmps30
  go_wp2_with (go_at_call 55; refine h0.mono ?_; rintro e w1 ⟨rfl, rfl⟩)
  go_ret
  exact ⟨rfl, rfl⟩
end Go.Proofs.Ytcfabnkkkpcelaa
