/- order.Market. -/
import Derived.Test.YtoachnhdedpbdaaNv3
import Derived.Test.YtoachnhdedpbdaaWrl
set_option linter.unusedSimpArgs false
set_option linter.unusedVariables false
namespace Go.Proofs.Ytoachnhdedpbdaa
open Go.RowKit Go.Lib
def mktA (s : ByteArray) : ByteArray := if marketB s then headB s else ⟨#[]⟩
def mktC (s : ByteArray) : ByteArray := if marketB s then tailB s else ⟨#[]⟩
def mktE (s : ByteArray) : Int := if marketB s then 0 else 1
theorem mkt_0 {s : ByteArray} (h : marketB s = false) : mktA s = ⟨#[]⟩ ∧ mktC s = ⟨#[]⟩ ∧ mktE s = 1 := by
  unfold mktA mktC mktE
  rw [h]
  exact ⟨rfl, rfl, rfl⟩
theorem mkt_1 {s : ByteArray} (h : marketB s = true) : mktA s = headB s ∧ mktC s = tailB s ∧ mktE s = 0 := by
  unfold mktA mktC mktE
  rw [h]
  exact ⟨rfl, rfl, rfl⟩
theorem market_at {s : ByteArray} {i : Nat} (h : indexByte s.data.toList dash = (i : Int)) : headB s = s.extract 0 i ∧ tailB s = s.extract (i + 1) s.size ∧ marketB s = (assetB (s.extract 0 i) && (assetB (s.extract (i + 1) s.size) && !decide (s.extract 0 i = s.extract (i + 1) s.size))) := by
  have h1 : headB s = s.extract 0 i := by unfold headB; rw [h]; rfl
  have h2 : tailB s = s.extract (i + 1) s.size := by unfold tailB; rw [h]; rfl
  refine ⟨h1, h2, ?_⟩
  unfold marketB
  rw [h1, h2, h, decide_eq_true (Int.natCast_nonneg i), Bool.true_and]
theorem market_no {s : ByteArray} (h : indexByte s.data.toList dash = -1) : marketB s = false := by
  unfold marketB
  rw [h]
  rfl
set_option maxRecDepth 10000 in
set_option maxHeartbeats 2000000 in
theorem market_any (s : ByteArray) (w : World) (hs : s.size ≤ 4294967280) :
    Calls Try.prog 12 #[.string s] w fun e w' => e = .returned (.tuple #[.string (mktA s), .string (mktC s), .int .i64 (mktE s)]) ∧ Bel w w' := by
  go_enter Try.func12, Try.ntmps12
  go_wp2_with fail
  refine (cut_any s w hs).mono ?_
  rintro e w1 ⟨h1, h2, b⟩
  have HB := hid_ b
  clear b
  have hg := indexByte_ge s.data.toList dash
  by_cases h0 : indexByte s.data.toList dash = -1
  · have he := h1 h0
    subst he
    have HM := hid_ (mkt_0 (market_no h0))
    clear h1 h2 hg h0
    go_wp2
    go_ret3
    exact ⟨by rw [HM.out.1, HM.out.2.1, HM.out.2.2]; rfl, HB.out⟩
  · obtain ⟨i, hi⟩ : ∃ i : Nat, indexByte s.data.toList dash = (i : Int) := ⟨(indexByte s.data.toList dash).toNat, by omega⟩
    have he := h2 i hi
    subst he
    obtain ⟨m1, m2, m3⟩ := market_at hi
    have hsa : (s.extract 0 i).size ≤ 4294967280 := by rw [ByteArray.size_extract]; omega
    have hsb : (s.extract (i + 1) s.size).size ≤ 4294967280 := by rw [ByteArray.size_extract]; omega
    obtain ⟨a, ha⟩ : ∃ a, s.extract 0 i = a := ⟨_, rfl⟩
    obtain ⟨c, hc⟩ : ∃ c, s.extract (i + 1) s.size = c := ⟨_, rfl⟩
    rw [ha] at m1 m3 hsa
    rw [hc] at m2 m3 hsb
    rw [ha, hc]
    have M1 := hid_ m1
    have M2 := hid_ m2
    have M3 := hid_ m3
    have SA := hid_ hsa
    have SB := hid_ hsb
    clear h1 h2 hg h0 hi m1 m2 m3 hsa hsb ha hc
    go_wp2_with fail
    refine (asset_any a w1 SA.out).mono ?_
    rintro e w2 ⟨rfl, b⟩
    have HB2 := hid_ (HB.out.trans b)
    clear b HB
    obtain ⟨qa, hqa⟩ : ∃ qa, assetB a = qa := ⟨_, rfl⟩
    rw [hqa]
    have QA := hid_ hqa
    clear hqa
    cases qa
    · have HM := hid_ (mkt_0 (M3.out.trans (by rw [QA.out]; rfl)))
      go_wp2
      go_ret3
      exact ⟨by rw [HM.out.1, HM.out.2.1, HM.out.2.2]; rfl, HB2.out⟩
    go_wp2_with fail
    refine (asset_any c w2 SB.out).mono ?_
    rintro e w3 ⟨rfl, b⟩
    have HB3 := hid_ (HB2.out.trans b)
    clear b HB2
    obtain ⟨qc, hqc⟩ : ∃ qc, assetB c = qc := ⟨_, rfl⟩
    rw [hqc]
    have QC := hid_ hqc
    clear hqc
    cases qc
    · have HM := hid_ (mkt_0 (M3.out.trans (by rw [QA.out, QC.out]; rfl)))
      go_wp2
      go_ret3
      exact ⟨by rw [HM.out.1, HM.out.2.1, HM.out.2.2]; rfl, HB3.out⟩
    by_cases hac : a = c
    · have HM := hid_ (mkt_0 (M3.out.trans (by rw [QA.out, QC.out, decide_eq_true hac]; rfl)))
      have e1 : (a.toList == c.toList) = true := by rw [bytesEq]; exact decide_eq_true hac
      clear M1 M2 M3 QA QC SA SB hac
      go_wp2
      go_ret3
      exact ⟨by rw [HM.out.1, HM.out.2.1, HM.out.2.2]; rfl, HB3.out⟩
    · have HM := hid_ (mkt_1 (M3.out.trans (by rw [QA.out, QC.out, decide_eq_false hac]; rfl)))
      have e1 : (a.toList == c.toList) = false := by rw [bytesEq]; exact decide_eq_false hac
      clear M3 QA QC SA SB hac
      go_wp2
      go_ret3
      exact ⟨by rw [HM.out.1, HM.out.2.1, HM.out.2.2, M1.out, M2.out]; rfl, HB3.out⟩
end Go.Proofs.Ytoachnhdedpbdaa
