/- account.Post: the first loop's words. -/
import Derived.Test.YtnpinolhhnpniaaGreatKs3
import Derived.Test.YtnpinolhhnpniaaGreatMp2
import Derived.Test.YtnpinolhhnpniaaGreatCAdd
import Derived.Test.YtnpinolhhnpniaaGreatClA
import Derived.Test.YtnpinolhhnpniaaGreatTyLeg
import Derived.Test.YtnpinolhhnpniaaGreatPoW
set_option linter.unusedSimpArgs false
set_option linter.unusedVariables false
namespace Go.Proofs.YtnpinolhhnpniaaGreat
open Go.RowKit Go.Lib Go.Maps
theorem mem_leg {legs : List Due} (hz : ∀ x ∈ legs, x.who.size ≤ maxLen ∧ x.asset.size ≤ maxLen) (x : Plc) : x ∈ legP legs ↔ plcOk x ∧ amts legs x ≠ [] := by
  constructor
  · intro h
    obtain ⟨d, hd, e⟩ := mem_legP.1 h
    exact ⟨by rw [← e]; exact hz d hd, amts_some h⟩
  · rintro ⟨_, h⟩
    exact Classical.byContradiction fun hn => h (amts_none hn)
theorem find_i64 {l : List Acc} (hb : ∀ a ∈ l, -9223372036854775808 ≤ a.balance ∧ a.balance ≤ 9223372036854775807) (p : Plc) : -9223372036854775808 ≤ (findA l p).balance ∧ (findA l p).balance ≤ 9223372036854775807 := by
  unfold findA
  cases h : l.find? (fun a => decide (a.plc = p)) with
  | none => show -9223372036854775808 ≤ (0 : Int) ∧ (0 : Int) ≤ 9223372036854775807; omega
  | some a => exact hb a (List.mem_of_find?_eq_some h)
theorem legP_len (legs : List Due) : (legP legs).length ≤ legs.length := by
  unfold legP
  have := plcs_len (legs.map Due.plc)
  simpa using this
theorem post_step {legs : List Due} {P : List Plc} {k : Nat} {L : List Acc} {p : Plc} {re : Int} {ro : List Acc} {x2 x3 : Int} (h : postGo legs (P.drop k) L = (re, ro)) (hp : P[k]? = some p) (hf : findA L p = ⟨p.who, p.asset, x2, x3⟩) :
    (sumOk (amts legs p) = false → re = 10 ∧ ro = []) ∧ (sumOk (amts legs p) = true → i64B (x2 + (amts legs p).sum) = false → re = 10 ∧ ro = []) ∧
    (sumOk (amts legs p) = true → i64B (x2 + (amts legs p).sum) = true → (p.who ≠ worldS ∧ x2 + (amts legs p).sum < x3) → re = 111 ∧ ro = []) ∧
    (sumOk (amts legs p) = true → i64B (x2 + (amts legs p).sum) = true → ¬ (p.who ≠ worldS ∧ x2 + (amts legs p).sum < x3) → postGo legs (P.drop (k + 1)) (withA L ⟨p.who, p.asset, x2 + (amts legs p).sum, x3⟩) = (re, ro)) := by
  have hk := (List.getElem?_eq_some_iff.1 hp)
  obtain ⟨hk1, hk2⟩ := hk
  rw [List.drop_eq_getElem_cons hk1, hk2, postGo] at h
  have hn : newA legs L p = ⟨p.who, p.asset, x2 + (amts legs p).sum, x3⟩ := by unfold newA; rw [hf]
  rw [hn] at h
  have he : errAt legs L p = if sumOk (amts legs p) then (if i64B (x2 + (amts legs p).sum) then (if p.who ≠ worldS ∧ x2 + (amts legs p).sum < x3 then 111 else 0) else 10) else 10 := by unfold errAt; rw [hf]
  rw [he] at h
  refine ⟨fun a => ?_, fun a b => ?_, fun a b c => ?_, fun a b c => ?_⟩
  · rw [a] at h
    simp at h
    exact ⟨h.1.symm, h.2⟩
  · rw [a, b] at h
    simp at h
    exact ⟨h.1.symm, h.2⟩
  · rw [a, b, if_pos rfl, if_pos rfl, if_pos c] at h
    simp at h
    exact ⟨h.1.symm, h.2⟩
  · rw [a, b, if_pos rfl, if_pos rfl, if_neg c] at h
    simpa using h
theorem post_start {l : List Acc} {legs : List Due} (hm : mayPost legs = true) : postGo legs (legP legs) l = (postE l legs, postO l legs) := by
  unfold postE postO postR
  rw [if_pos hm]
theorem post_end {legs : List Due} {P : List Plc} {k : Nat} {L : List Acc} {re : Int} {ro : List Acc} (h : postGo legs (P.drop k) L = (re, ro)) (hk : P.length ≤ k) : re = 0 ∧ ro = L := by
  rw [List.drop_of_length_le hk, postGo] at h
  injection h with h1 h2
  exact ⟨h1.symm, h2.symm⟩
end Go.Proofs.YtnpinolhhnpniaaGreat
