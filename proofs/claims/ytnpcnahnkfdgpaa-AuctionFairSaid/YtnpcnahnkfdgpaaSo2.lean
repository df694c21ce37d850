/- slices.swapRangeCmpFunc at orders. -/
import Derived.Test.YtnpcnahnkfdgpaaSo1
set_option linter.unusedSimpArgs false
set_option linter.unusedVariables false
namespace Go.Proofs.Ytnpcnahnkfdgpaa
open Go.RowKit Go.Lib Go.Sort Go.Shelf
variable {P : Program} {α : Type} [Inhabited α]
/-- The first i members of two ranges exchanged. -/
def swr (d : Array α) (a b : Nat) : Nat → Array α
  | 0 => d
  | i + 1 => swp (swr d a b i) (a + i) (b + i)
theorem size_swr (d : Array α) (a b : Nat) : ∀ i, (swr d a b i).size = d.size
  | 0 => rfl
  | i + 1 => by rw [swr, size_swp, size_swr d a b i]
set_option maxHeartbeats 4000000 in
set_option maxRecDepth 1000000 in
theorem swapRange_any (k : Nat) (L : StP P k) (enc : α → List Value) (g off cap a b n : Nat) (d0 d : Array α) (w0 W : World) (f : Value) (R : RowK enc k w0 g off d0) (hs : d0.size = d.size) (S : SWK enc k w0 g off d W) (h1 : a + n ≤ d.size) (h2 : b + n ≤ d.size) (hsz : d.size < 4611686018427387904) :
    Calls P 73 #[.slice (some ⟨g, off, none⟩) d.size cap, .int .i64 a, .int .i64 b, .int .i64 n, f] W fun e w' => e = .returned (.tuple #[]) ∧ SWK enc k w0 g off (swr d a b n) w' := by
  have mixed := L.mixed; have t0 := L.t0; have a0 := L.a0; have z0 := L.z0; have v0 := L.v0; have t3 := L.t3; have a3 := L.a3; have z3 := L.z3; have v3 := L.v3; have t4 := L.t4; have a4 := L.a4; have z4 := L.z4; have v4 := L.v4; have ts := L.ts; have asl := L.asl; have zs := L.zs; have vs := L.vs; have tf := L.tf; have af := L.af; have zf := L.zf; have vf := L.vf; have aE := L.aE; have zE := L.zE
  have S0 : Aside (SWK enc k w0 g off d W) := S
  clear S
  go_enter L.fSwr, Try.ntmps73
  go_wp2_with fail
  go_loopw [10] (fun s wr => ∃ (i : Nat), s = .int .i64 i ∧ i ≤ n ∧ Aside (SWK enc k w0 g off (swr d a b i) wr)) (fun s _ => n - (intOf s).toNat)
  case atStart => exact ⟨0, rfl, by omega, S0⟩
  case round =>
    clear S0
    obtain ⟨i, rfl, hi, S1⟩ := hrel
    by_cases hlt : i < n
    · have hltz : (i : Int) < (n : Int) := by omega
      go_wp2_with fail
      have hsi := size_swr d a b i
      have HNX : Hid (swp (swr d a b i) (a + i) (b + i) = swr d a b (i + 1)) := hid_ rfl
      generalize swr d a b i = dk at S1 hsi HNX
      have ea : ((a : Int) + (i : Int)).toNat = a + i := by omega
      have pa : (0 : Int) ≤ (a : Int) + (i : Int) := by omega
      have ba : (a : Int) + (i : Int) < (d.size : Int) := by omega
      have ra : IntKind.i64.wrap ((a : Int) + (i : Int)) = (a : Int) + (i : Int) := by rw [IntKind.wrap_i64]; omega
      have ec : ((b : Int) + (i : Int)).toNat = b + i := by omega
      have pc : (0 : Int) ≤ (b : Int) + (i : Int) := by omega
      have bc : (b : Int) + (i : Int) < (d.size : Int) := by omega
      have rc : IntKind.i64.wrap ((b : Int) + (i : Int)) = (b : Int) + (i : Int) := by rw [IntKind.wrap_i64]; omega
      have S2 : Aside (SWK enc k w0 g off (swp dk (a + i) (b + i)) ((wr.drew.setCells g (off + (a + i) * k) (enc dk[b + i]!)).setCells g (off + (b + i) * k) (enc dk[a + i]!))) := S1.out.swapped R (a + i) (b + i) (by omega) (by omega)
      have la := S1.out.ld1 R (by omega) P (a + i) (by omega)
      have lb := S1.out.ld1 R (by omega) P (b + i) (by omega)
      have sa := S1.out.st1 R (by omega) P (a + i) (by omega) dk[b + i]!
      have sb := S1.out.st2 R (by omega) P (a + i) (b + i) (by omega) (by omega) dk[b + i]! dk[a + i]!
      have na : (enc dk[a + i]!).length = k := R.hk _
      have nb : (enc dk[b + i]!).length = k := R.hk _
      generalize enc dk[a + i]! = cI at S2 la sb na
      generalize enc dk[b + i]! = cJ at S2 lb sa sb nb
      clear S1
      go_big_region_o
      clear la lb sa sb
      generalize (wr.drew.setCells g (off + (a + i) * k) cJ).setCells g (off + (b + i) * k) cI = w2 at S2 ⊢
      go_wp2
      go_roundw
      case rel => exact ⟨i + 1, by go_num, by omega, by rw [HNX.out] at S2; exact S2⟩
      case measure => simp [intOf]; omega
    · obtain rfl : i = n := by omega
      go_wp2
      go_end0
      exact ⟨rfl, S1.out⟩
end Go.Proofs.Ytnpcnahnkfdgpaa
