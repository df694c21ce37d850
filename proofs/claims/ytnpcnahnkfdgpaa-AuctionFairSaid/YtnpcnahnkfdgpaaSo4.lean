/- slices.rotateCmpFunc at orders. -/
import Derived.Test.YtnpcnahnkfdgpaaSo3
set_option linter.unusedSimpArgs false
set_option linter.unusedVariables false
namespace Go.Proofs.Ytnpcnahnkfdgpaa
open Go.RowKit Go.Lib Go.Sort Go.Shelf
variable {P : Program} {α : Type} [Inhabited α]
theorem swrEnters {k : Nat} (L : StP P k) : Enters P 73 := enters_of L.fSwr (by kernel_rfl) rfl
/-- What is left to turn: L and R, behind Pf, ahead of Sf; when they are exchanged, F is done. -/
def RotI (F : List α) (m i j : Nat) (d : Array α) : Prop := ∃ Pf L R Sf, d.toList = Pf ++ (L ++ (R ++ Sf)) ∧ L.length = i ∧ R.length = j ∧ Pf.length + i = m ∧ Pf ++ (R ++ (L ++ Sf)) = F
omit [Inhabited α] in
theorem RotI.bnd {F : List α} {m i j : Nat} {d : Array α} (h : RotI F m i j d) : i ≤ m ∧ m + j ≤ d.size := by
  obtain ⟨Pf, L, R, Sf, h1, h2, h3, h4, h5⟩ := h
  have : d.size = Pf.length + (L.length + (R.length + Sf.length)) := by rw [← Array.length_toList, h1]; simp
  omega
omit [Inhabited α] in
theorem cutAt (l : List α) (k : Nat) (h : k ≤ l.length) : ∃ a b, l = a ++ b ∧ a.length = k ∧ b.length = l.length - k :=
  ⟨l.take k, l.drop k, (List.take_append_drop k l).symm, by rw [List.length_take]; omega, by rw [List.length_drop]⟩
theorem RotI.more {F : List α} {m i j : Nat} {d : Array α} (h : RotI F m i j d) (hij : j < i) : RotI F m (i - j) j (swr d (m - i) m j) := by
  obtain ⟨Pf, L, R, Sf, h1, h2, h3, h4, h5⟩ := h
  obtain ⟨L1, L2, rfl, l1, l2⟩ := cutAt L j (by omega)
  have hsw := swr_toList d Pf L1 L2 R Sf (by rw [h1]; simp) (by omega) (m - i) m (by omega) (by omega)
  rw [l1] at hsw
  exact ⟨Pf ++ R, L2, L1, Sf, by rw [hsw]; simp, by omega, l1, by rw [List.length_append]; omega, by rw [← h5]; simp⟩
theorem RotI.less {F : List α} {m i j : Nat} {d : Array α} (h : RotI F m i j d) (hij : i < j) : RotI F m i (j - i) (swr d (m - i) (m + j - i) i) := by
  obtain ⟨Pf, L, R, Sf, h1, h2, h3, h4, h5⟩ := h
  obtain ⟨R1, R2, rfl, l1, l2⟩ := cutAt R (j - i) (by omega)
  have hsw := swr_toList d Pf L R1 R2 Sf (by rw [h1]; simp) (by omega) (m - i) (m + j - i) (by omega) (by omega)
  rw [h2] at hsw
  exact ⟨Pf, R2, R1, L ++ Sf, by rw [hsw], by omega, l1, h4, by rw [← h5]; simp⟩
theorem RotI.last {F : List α} {m i : Nat} {d : Array α} (h : RotI F m i i d) : (swr d (m - i) m i).toList = F := by
  obtain ⟨Pf, L, R, Sf, h1, h2, h3, h4, h5⟩ := h
  have hsw := swr_toList d Pf L [] R Sf (by rw [h1]; simp) (by rw [h2, h3]) (m - i) m (by omega) (by simp; omega)
  rw [h2] at hsw
  rw [hsw, ← h5]
  simp
set_option maxHeartbeats 4000000 in
set_option maxRecDepth 1000000 in
theorem rotate_any (k : Nat) (L : StP P k) (enc : α → List Value) (g off cap a m b : Nat) (d0 d : Array α) (w0 W : World) (f : Value) (R : RowK enc k w0 g off d0) (hs : d0.size = d.size) (S : SWK enc k w0 g off d W) (F : List α) (hI : RotI F m (m - a) (b - m) d) (h1 : a < m) (h2 : m < b) (hsz : d.size < 4611686018427387904) :
    Calls P 70 #[.slice (some ⟨g, off, none⟩) d.size cap, .int .i64 a, .int .i64 m, .int .i64 b, f] W fun e w' => e = .returned (.tuple #[]) ∧ ∃ d', SWK enc k w0 g off d' w' ∧ d'.size = d.size ∧ d'.toList = F := by
  have mixed := L.mixed; have t0 := L.t0; have a0 := L.a0; have z0 := L.z0; have v0 := L.v0; have t3 := L.t3; have a3 := L.a3; have z3 := L.z3; have v3 := L.v3; have t4 := L.t4; have a4 := L.a4; have z4 := L.z4; have v4 := L.v4; have ts := L.ts; have asl := L.asl; have zs := L.zs; have vs := L.vs; have tf := L.tf; have af := L.af; have zf := L.zf; have vf := L.vf; have aE := L.aE; have zE := L.zE
  have en : ∀ args w, (callFunc 73 args).run P w = .ok (.enter 73 args) w := swrEnters L
  have S0 : Aside (SWK enc k w0 g off d W) := S
  have I0 : Hid (RotI F m (m - a) (b - m) d) := hid_ hI
  have hb := hI.bnd
  clear S hI
  have e1 : (m : Int) - (a : Int) = ((m - a : Nat) : Int) := by omega
  have e2 : (b : Int) - (m : Int) = ((b - m : Nat) : Int) := by omega
  go_enter L.fRot, Try.ntmps70
  go_wp2_with fail
  go_loopw [10, 11] (fun s t wr => ∃ (i j : Nat) (dk : Array α), s = .int .i64 i ∧ t = .int .i64 j ∧ 0 < i ∧ 0 < j ∧ i ≤ m ∧ m + j ≤ d.size ∧ dk.size = d.size ∧ Hid (RotI F m i j dk) ∧ Aside (SWK enc k w0 g off dk wr)) (fun s t _ => (intOf s).toNat + (intOf t).toNat)
  case atStart => exact ⟨m - a, b - m, d, rfl, rfl, by omega, by omega, by omega, by omega, rfl, I0, S0⟩
  case round =>
    clear S0 I0 e1 e2 hb
    obtain ⟨i, j, dk, rfl, rfl, hi0, hj0, him, hmj, hds, I1, S1⟩ := hrel
    by_cases hij : i = j
    · subst hij
      have q : ((i : Int) != (i : Int)) = false := by simp
      have w1 : IntKind.i64.wrap ((m : Int) - (i : Int)) = ((m - i : Nat) : Int) := by rw [IntKind.wrap_i64]; omega
      have hcall := swapRange_any k L enc g off cap (m - i) m i d0 dk w0 wr f R (by omega) S1.out (by omega) (by omega) (by omega)
      rw [hds] at hcall
      go_wp2_with fail
      refine hcall.mono ?_
      rintro e w2 ⟨rfl, S2⟩
      have HS := hid_ S2
      have HL := hid_ I1.out.last
      clear S2 S1 I1 hcall
      go_wp2
      go_end0
      exact ⟨rfl, _, HS.out, by rw [size_swr]; exact hds, HL.out⟩
    · have q : ((i : Int) != (j : Int)) = true := by simp; omega
      rcases Nat.lt_or_ge j i with hlt | hge
      · have hz : (j : Int) < (i : Int) := by omega
        have w1 : IntKind.i64.wrap ((m : Int) - (i : Int)) = ((m - i : Nat) : Int) := by rw [IntKind.wrap_i64]; omega
        have w2 : IntKind.i64.wrap ((i : Int) - (j : Int)) = ((i - j : Nat) : Int) := by rw [IntKind.wrap_i64]; omega
        have hcall := swapRange_any k L enc g off cap (m - i) m j d0 dk w0 wr f R (by omega) S1.out (by omega) (by omega) (by omega)
        rw [hds] at hcall
        go_wp2_with fail
        refine hcall.mono ?_
        rintro e w2 ⟨rfl, S2⟩
        have HS : Aside (SWK enc k w0 g off (swr dk (m - i) m j) w2) := S2
        have HL := hid_ (I1.out.more hlt)
        clear S2 S1 I1 hcall
        go_wp2
        go_roundw
        case rel => exact ⟨i - j, j, _, by go_num, rfl, by omega, by omega, by omega, by omega, by rw [size_swr]; exact hds, HL, HS⟩
        case measure => simp [intOf]; omega
      · have hz : ¬ (j : Int) < (i : Int) := by omega
        have w1 : IntKind.i64.wrap ((m : Int) - (i : Int)) = ((m - i : Nat) : Int) := by rw [IntKind.wrap_i64]; omega
        have w2 : IntKind.i64.wrap ((j : Int) - (i : Int)) = ((j - i : Nat) : Int) := by rw [IntKind.wrap_i64]; omega
        have w3 : IntKind.i64.wrap ((m : Int) + (j : Int)) = ((m + j : Nat) : Int) := by rw [IntKind.wrap_i64]; omega
        have w4 : IntKind.i64.wrap ((m : Int) + (j : Int) - (i : Int)) = ((m + j - i : Nat) : Int) := by rw [IntKind.wrap_i64]; omega
        have w5 : (m : Int) + (j : Int) - (i : Int) = ((m + j - i : Nat) : Int) := by omega
        have hcall := swapRange_any k L enc g off cap (m - i) (m + j - i) i d0 dk w0 wr f R (by omega) S1.out (by omega) (by omega) (by omega)
        rw [hds] at hcall
        go_wp2_with fail
        refine hcall.mono ?_
        rintro e w2 ⟨rfl, S2⟩
        have HS : Aside (SWK enc k w0 g off (swr dk (m - i) (m + j - i) i) w2) := S2
        have HL := hid_ (I1.out.less (show i < j by omega))
        clear S2 S1 I1 hcall
        go_wp2
        go_roundw
        case rel => exact ⟨i, j - i, _, rfl, by go_num, by omega, by omega, by omega, by omega, by rw [size_swr]; exact hds, HL, HS⟩
        case measure => simp [intOf]; omega
end Go.Proofs.Ytnpcnahnkfdgpaa
