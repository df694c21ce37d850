/- Words for maps of rows, by places. -/
import Derived.Test.YtnpinolhhnpniaaGreatMp2
import Derived.Test.YtnpinolhhnpniaaGreatPsP
set_option linter.unusedSimpArgs false
set_option linter.unusedVariables false
namespace Go.Proofs.YtnpinolhhnpniaaGreat
open Go.RowKit Go.Lib Go.Maps
theorem Own.raise {α : Type} {T : Ty α} {w : World} {b0 base : Nat} {v : Value} {xs : List α} (h : Own T w b0 v xs) (hb : ∀ k, v.ownBlock = some k → base ≤ k) : Own T w base v xs := by
  rcases h with ⟨h1, h2⟩
  refine ⟨h1, ?_⟩
  rcases h2 with h2 | ⟨g, cap, cur, rfl, h3, h4⟩
  · exact .inl h2
  · exact .inr ⟨g, cap, cur, rfl, hb g rfl, h4⟩
theorem Row.kept' {α : Type} {T : Ty α} {w w' : World} {A : Option Addr} {n b : Nat} {l : List α} (h : Row T w A n l) (hg : w.grownBy w' (some b)) (hA : ∀ ad, A = some ad → ad.block ≠ b ∧ ad.block < w.heap.size) : Row T w' A n l := by
  refine ⟨h.1, h.2.1, fun hp => ?_⟩
  obtain ⟨ad, e, hc⟩ := h.2.2 hp
  refine ⟨ad, e, fun j x hx a u hu => ?_⟩
  have h1 := hA ad e
  have h2 := hg.block ad.block h1.2 (fun e' => h1.1 (by cases e'; rfl))
  rw [← hc j x hx a u hu]
  have hb : (ad.add (j * T.sz + a)).block = ad.block := by unfold Addr.add; split <;> rfl
  unfold World.cell?
  rw [hb, h2]
theorem amts_fun {legs : List Due} {k : Nat} {o : Due} (h : legs[k]? = some o) (q : Plc) (hq : o.plc = q) (inst : ∀ y, Decidable (y = q)) :
    (fun y => @ite _ (y = q) (inst y) (amts (legs.take k) q ++ [o.amount]) (amts (legs.take k) y)) = fun y => amts (legs.take (k + 1)) y := by
  funext y
  rw [amts_step h y]
  by_cases e : y = q
  · rw [if_pos e, e, if_pos hq]
  · rw [if_neg e, if_neg (fun e' => e (by rw [← e', hq])), List.append_nil]
theorem amts_len (legs : List Due) (p : Plc) : (amts legs p).length ≤ legs.length := by
  unfold amts
  rw [List.length_map]
  exact List.length_filter_le _ _
theorem MapG.congr {κ α : Type} {P : Program} {K : KeyT P κ} {T : Ty α} {w : World} {base b n : Nat} {f f' : κ → List α} {D : DataW Value} {g : κ → Value} (h : MapG K T w base b n f D g) (e : f = f') : MapG K T w base b n f' D g := e ▸ h
theorem ownsMap_size {P : Program} {k : TypeId} {w : World} {b n : Nat} {D : DataW Value} (h : w.ownsMap P k hvR b n D) : Maps.size D ≤ n := by
  obtain ⟨es, clock, _, _, hs, rfl⟩ := h
  show (((es.toList.map _).foldr DataW.insert []) : List _).length ≤ n
  rw [Go.length_sorted]
  simpa using hs
theorem amts_i64 {legs : List Due} (hz : ∀ x ∈ legs, -9223372036854775808 ≤ x.amount ∧ x.amount ≤ 9223372036854775807) (p : Plc) : ∀ x ∈ amts legs p, -9223372036854775808 ≤ x ∧ x ≤ 9223372036854775807 := by
  intro x hx
  unfold amts at hx
  obtain ⟨d, hd, rfl⟩ := List.mem_map.1 hx
  exact hz d (List.mem_filter.1 hd).1
section
variable {P : Program} {κ α : Type} {T : Ty α} {K : KeyT P κ} {w : World} {base b r n : Nat} {f : κ → List α} {D : DataW Value} {g : κ → Value} {dn : List κ} {cnt : Nat}
variable {ops : Array Oper} {rest : List Oper} {o : Oper} {a : Act} {Q : Exit → Act → World → Prop}
/-- 'range m', at the operation. -/
theorem wpRangeG (hg : o.guard = none) (m : Operand) (t e : TypeId) (hop : o.op = Op.range t m) (hm : a.eval m = .map (some b)) (h : MapG K T w base b n f D g) (ht : P.underlying t = some (.map K.k e))
    (hK : ∀ w', RngG K T w' base b w.heap.size n f D g [] (Maps.size D) → w.grownBy w' none → w'.heap.size = w.heap.size + 1 → wpList P ops Q rest (a.put o.dst (.pointer (some ⟨w.heap.size, 0, none⟩))) w') :
    wpList P ops Q (o :: rest) a w := by
  refine wpList_plain hg fun K' hK' => ?_
  obtain ⟨w', hrun, r1, r2, r3⟩ := h.range ht
  unfold Oper.wp
  simp [execOp, hop, hm, hrun, Result.andThen]
  exact hK' _ _ (hK w' r1 r2 r3)
/-- The step. -/
theorem wpNextG (hg : o.guard = none) (it : Operand) (hop : o.op = Op.next it false) (hit : a.eval it = .pointer (some ⟨r, 0, none⟩)) (h : RngG K T w base b r n f D g dn cnt) (hrb : ∀ x, K.ok x → (g x).ownBlock ≠ some r)
    (hDone : cnt = 0 → (∀ x, K.ok x → f x ≠ [] → x ∈ dn) → wpList P ops Q rest (a.put o.dst (.tuple #[.bool false])) w)
    (hMore : ∀ x w' cnt', K.ok x → f x ≠ [] → x ∉ dn → RngG K T w' base b r n f D g (dn ++ [x]) cnt' → cnt' < cnt → w.grownBy w' (some r) → w'.heap.size = w.heap.size → (Instr.entry (.pointer (some ⟨r, 0, none⟩))).run P w' = .ok (.tuple #[K.val x, g x]) w' → wpList P ops Q rest (a.put o.dst (.tuple #[.bool true, K.val x, g x])) w') :
    wpList P ops Q (o :: rest) a w := by
  refine wpList_plain hg fun K' hK' => ?_
  unfold Oper.wp
  rcases h.next hrb o.type with ⟨h0, hl, hrun⟩ | ⟨x, w', cnt', hx, hf, hd, hrun, hrg, hlt, hgr, hsz, hen⟩
  · simp [execOp, hop, hit, hrun, Result.andThen]
    exact hK' _ _ (hDone h0 hl)
  · simp [execOp, hop, hit, hrun, Result.andThen]
    exact hK' _ _ (hMore x w' cnt' hx hf hd hrg hlt hgr hsz hen)
end
end Go.Proofs.YtnpinolhhnpniaaGreat
