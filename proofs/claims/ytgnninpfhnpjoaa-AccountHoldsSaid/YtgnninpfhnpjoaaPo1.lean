/- account.Post: the first loop's words. -/
import Derived.Test.YtgnninpfhnpjoaaKs3
import Derived.Test.YtgnninpfhnpjoaaMp2
import Derived.Test.YtgnninpfhnpjoaaCAdd
import Derived.Test.YtgnninpfhnpjoaaClA
import Derived.Test.YtgnninpfhnpjoaaTyLeg
set_option linter.unusedSimpArgs false
set_option linter.unusedVariables false
namespace Go.Proofs.Ytgnninpfhnpjoaa
open Go.RowKit Go.Lib Go.Maps
theorem Own.raise {α : Type} {T : Ty α} {w : World} {b0 base : Nat} {v : Value} {xs : List α} (h : Own T w b0 v xs) (hb : ∀ k, v.ownBlock = some k → base ≤ k) : Own T w base v xs := by
  rcases h with ⟨h1, h2⟩
  refine ⟨h1, ?_⟩
  rcases h2 with h2 | ⟨g, cap, cur, rfl, h3, h4⟩
  · exact .inl h2
  · exact .inr ⟨g, cap, cur, rfl, hb g rfl, h4⟩
theorem Row.kept' {α : Type} {T : Ty α} {w w' : World} {A : Option Addr} {n b : Nat} {l : List α} (h : Row T w A n l) (hg : w.grownBy w' (some b)) (hA : ∀ ad, A = some ad → ad.block ≠ b ∧ ad.block < w.heap.size) : Row T w' A n l := by
  refine ⟨h.1, h.2.1, fun hp => ?_⟩
  obtain ⟨ad, e, hc⟩ := h.2.2 hp
  refine ⟨ad, e, fun j x hx a u hu => ?_⟩
  have h1 := hA ad e
  have h2 := hg.block ad.block h1.2 (fun e' => h1.1 (by cases e'; rfl))
  rw [← hc j x hx a u hu]
  have hb : (ad.add (j * T.sz + a)).block = ad.block := by unfold Addr.add; split <;> rfl
  unfold World.cell?
  rw [hb, h2]
theorem amts_step {legs : List Due} {k : Nat} {o : Due} (h : legs[k]? = some o) (p : Plc) : amts (legs.take (k + 1)) p = amts (legs.take k) p ++ (if o.plc = p then [o.amount] else []) := by
  unfold amts
  rw [List.take_add_one, h]
  simp only [Option.toList_some, List.filter_append, List.map_append]
  by_cases e : o.plc = p <;> simp [e]
theorem amts_fun {legs : List Due} {k : Nat} {o : Due} (h : legs[k]? = some o) (q : Plc) (hq : o.plc = q) (inst : ∀ y, Decidable (y = q)) :
    (fun y => @ite _ (y = q) (inst y) (amts (legs.take k) q ++ [o.amount]) (amts (legs.take k) y)) = fun y => amts (legs.take (k + 1)) y := by
  funext y
  rw [amts_step h y]
  by_cases e : y = q
  · rw [if_pos e, e, if_pos hq]
  · rw [if_neg e, if_neg (fun e' => e (by rw [← e', hq])), List.append_nil]
theorem amts_len (legs : List Due) (p : Plc) : (amts legs p).length ≤ legs.length := by
  unfold amts
  rw [List.length_map]
  exact List.length_filter_le _ _
theorem MapG.congr {κ α : Type} {P : Program} {K : KeyT P κ} {T : Ty α} {w : World} {base b n : Nat} {f f' : κ → List α} {D : DataW Value} {g : κ → Value} (h : MapG K T w base b n f D g) (e : f = f') : MapG K T w base b n f' D g := e ▸ h
theorem ownsMap_size {P : Program} {k : TypeId} {w : World} {b n : Nat} {D : DataW Value} (h : w.ownsMap P k hvR b n D) : Maps.size D ≤ n := by
  obtain ⟨es, clock, _, _, hs, rfl⟩ := h
  show (((es.toList.map _).foldr DataW.insert []) : List _).length ≤ n
  rw [Go.length_sorted]
  simpa using hs
theorem mem_leg {legs : List Due} (hz : ∀ x ∈ legs, x.who.size ≤ maxLen ∧ x.asset.size ≤ maxLen) (x : Plc) : x ∈ legP legs ↔ plcOk x ∧ amts legs x ≠ [] := by
  constructor
  · intro h
    obtain ⟨d, hd, e⟩ := mem_legP.1 h
    exact ⟨by rw [← e]; exact hz d hd, amts_some h⟩
  · rintro ⟨_, h⟩
    exact Classical.byContradiction fun hn => h (amts_none hn)
theorem find_i64 {l : List Acc} (hb : ∀ a ∈ l, -9223372036854775808 ≤ a.balance ∧ a.balance ≤ 9223372036854775807) (p : Plc) : -9223372036854775808 ≤ (findA l p).balance ∧ (findA l p).balance ≤ 9223372036854775807 := by
  unfold findA
  cases h : l.find? (fun a => decide (a.plc = p)) with
  | none => show -9223372036854775808 ≤ (0 : Int) ∧ (0 : Int) ≤ 9223372036854775807; omega
  | some a => exact hb a (List.mem_of_find?_eq_some h)
theorem legP_len (legs : List Due) : (legP legs).length ≤ legs.length := by
  unfold legP
  have := plcs_len (legs.map Due.plc)
  simpa using this
theorem amts_i64 {legs : List Due} (hz : ∀ x ∈ legs, -9223372036854775808 ≤ x.amount ∧ x.amount ≤ 9223372036854775807) (p : Plc) : ∀ x ∈ amts legs p, -9223372036854775808 ≤ x ∧ x ≤ 9223372036854775807 := by
  intro x hx
  unfold amts at hx
  obtain ⟨d, hd, rfl⟩ := List.mem_map.1 hx
  exact hz d (List.mem_filter.1 hd).1
theorem post_step {legs : List Due} {P : List Plc} {k : Nat} {L : List Acc} {p : Plc} {re : Int} {ro : List Acc} {x2 x3 : Int} (h : postGo legs (P.drop k) L = (re, ro)) (hp : P[k]? = some p) (hf : findA L p = ⟨p.who, p.asset, x2, x3⟩) :
    (sumOk (amts legs p) = false → re = 10 ∧ ro = []) ∧ (sumOk (amts legs p) = true → i64B (x2 + (amts legs p).sum) = false → re = 10 ∧ ro = []) ∧
    (sumOk (amts legs p) = true → i64B (x2 + (amts legs p).sum) = true → (p.who ≠ worldS ∧ x2 + (amts legs p).sum < x3) → re = 111 ∧ ro = []) ∧
    (sumOk (amts legs p) = true → i64B (x2 + (amts legs p).sum) = true → ¬ (p.who ≠ worldS ∧ x2 + (amts legs p).sum < x3) → postGo legs (P.drop (k + 1)) (withA L ⟨p.who, p.asset, x2 + (amts legs p).sum, x3⟩) = (re, ro)) := by
  have hk := (List.getElem?_eq_some_iff.1 hp)
  obtain ⟨hk1, hk2⟩ := hk
  rw [List.drop_eq_getElem_cons hk1, hk2, postGo] at h
  have hn : newA legs L p = ⟨p.who, p.asset, x2 + (amts legs p).sum, x3⟩ := by unfold newA; rw [hf]
  rw [hn] at h
  have he : errAt legs L p = if sumOk (amts legs p) then (if i64B (x2 + (amts legs p).sum) then (if p.who ≠ worldS ∧ x2 + (amts legs p).sum < x3 then 111 else 0) else 10) else 10 := by unfold errAt; rw [hf]
  rw [he] at h
  refine ⟨fun a => ?_, fun a b => ?_, fun a b c => ?_, fun a b c => ?_⟩
  · rw [a] at h
    simp at h
    exact ⟨h.1.symm, h.2⟩
  · rw [a, b] at h
    simp at h
    exact ⟨h.1.symm, h.2⟩
  · rw [a, b, if_pos rfl, if_pos rfl, if_pos c] at h
    simp at h
    exact ⟨h.1.symm, h.2⟩
  · rw [a, b, if_pos rfl, if_pos rfl, if_neg c] at h
    simpa using h
theorem post_start {l : List Acc} {legs : List Due} (hm : mayPost legs = true) : postGo legs (legP legs) l = (postE l legs, postO l legs) := by
  unfold postE postO postR
  rw [if_pos hm]
theorem post_end {legs : List Due} {P : List Plc} {k : Nat} {L : List Acc} {re : Int} {ro : List Acc} (h : postGo legs (P.drop k) L = (re, ro)) (hk : P.length ≤ k) : re = 0 ∧ ro = L := by
  rw [List.drop_of_length_le hk, postGo] at h
  injection h with h1 h2
  exact ⟨h1.symm, h2.symm⟩
end Go.Proofs.Ytgnninpfhnpjoaa
