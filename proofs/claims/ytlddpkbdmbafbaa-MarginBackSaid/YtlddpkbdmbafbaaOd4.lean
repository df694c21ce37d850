/- order.is, the closures of Put; slices.IndexFunc, ContainsFunc at orders, with whatever closure that has captured one variable. -/
import Derived.Test.YtlddpkbdmbafbaaNv15
import Derived.Test.YtlddpkbdmbafbaaBox
set_option linter.unusedSimpArgs false
set_option linter.unusedVariables false
namespace Go.Proofs.Ytlddpkbdmbafbaa
open Go.RowKit Go.Lib
def idxI (p : Ord → Bool) (l : List Ord) : Int := match l.findIdx? p with | some k => (k : Int) | none => -1
theorem idxI_hit {p : Ord → Bool} {l : List Ord} {j : Nat} {o : Ord} (h : l[j]? = some o) (hp : p o = true) (hi : ∀ (i : Nat) (x : Ord), i < j → l[i]? = some x → p x = false) : l.findIdx? p = some j := by
  have hj := (List.getElem?_eq_some_iff.1 h).1
  refine List.findIdx?_eq_some_iff_getElem.2 ⟨hj, ?_, fun i hij => ?_⟩
  · rw [(List.getElem?_eq_some_iff.1 h).2]; exact hp
  · have := hi i l[i] hij (List.getElem?_eq_getElem (by omega))
    simp [this]
theorem idxI_no {p : Ord → Bool} {l : List Ord} (hi : ∀ (i : Nat) (x : Ord), l[i]? = some x → p x = false) : l.findIdx? p = none := by
  refine List.findIdx?_eq_none_iff.2 fun x hx => ?_
  obtain ⟨i, hlt, rfl⟩ := List.getElem_of_mem hx
  exact hi i _ (List.getElem?_eq_getElem hlt)
theorem atN_find (n : Int) : ∀ l : List Ord, atN l n = l.findIdx? (fun o => o.number == n)
  | [] => rfl
  | o :: l => by
    rw [atN, List.findIdx?_cons, atN_find n l]
theorem ordEta (o : Ord) : o = ⟨o.number, o.who, o.market, o.buy, o.price, o.left⟩ := rfl
set_option maxRecDepth 10000 in
set_option maxHeartbeats 1000000 in
theorem indexP_any (p : Ord → Bool) (gc : Nat) (cap : Value) (eg : ∀ args w, (callFunc gc args).run Try.prog w = .ok (.enter gc args) w) (A : Option Addr) (n c : Nat) (l : List Ord) (w : World) (hA : Row ordT w A n l)
    (hp : ∀ (o0 : Int) (o1 o2 : ByteArray) (o3 : Bool) (o4 o5 : Int) (w' : World), Bel w w' → Calls Try.prog gc #[.agg #[.int .u64 o0, .string o1, .string o2, .bool o3, .int .i64 o4, .int .i64 o5], cap] w' fun e w'' => e = .returned (.bool (p ⟨o0, o1, o2, o3, o4, o5⟩)) ∧ Bel w' w'') :
    Calls Try.prog 48 #[.slice A n c, .func (.func gc) #[] #[cap]] w fun e w' => e = .returned (.int .i64 (idxI p l)) ∧ Bel w w' := by
  have hn := hA.2.1
  have HL := hid_ hA.1
  have HA := hid_ hA
  have HP := hid_ hp
  obtain ⟨r, hr⟩ : ∃ r, idxI p l = r := ⟨_, rfl⟩
  rw [hr]
  have HR := hid_ hr
  clear hA hp hr
  go_enter Try.func48, Try.ntmps48
  go_wp2_with fail
  go_loopw [5, 8] (fun _ i wr => ∃ j : Nat, j ≤ n ∧ i = .int .i64 j ∧ Hid (∀ (i : Nat) (x : Ord), i < j → l[i]? = some x → p x = false) ∧ Bel w wr) (fun _ i _ => n - (intOf i).toNat)
  case atStart => exact ⟨0, Nat.zero_le _, rfl, hid_ (fun i x h => absurd h (by omega)), Bel.refl _⟩
  case round =>
    obtain ⟨j, hj, rfl, hx, hbr⟩ := hrel
    have BR := hid_ hbr
    by_cases hjn : j < n
    · obtain ⟨ad, o0, o1, o2, o3, o4, o5, rfl, ho, d0, d1, d2, d3, d4, d5⟩ := (HA.out.bel hbr).ord hjn
      have HO := hid_ ho
      clear ho hbr
      go_wp2_with fail
      refine (HP.out o0 o1 o2 o3 o4 o5 wr BR.out).mono ?_
      rintro e w5 ⟨rfl, b⟩
      have BR5 := hid_ (BR.out.trans b)
      clear b BR d0 d1 d2 d3 d4 d5
      obtain ⟨eq, heq⟩ : ∃ eq, p ⟨o0, o1, o2, o3, o4, o5⟩ = eq := ⟨_, rfl⟩
      rw [heq]
      have HEQ := hid_ heq
      clear heq
      cases eq
      · have HN : Hid (∀ (i : Nat) (x : Ord), i < j + 1 → l[i]? = some x → p x = false) := hid_ (by
          intro i x hi hix
          rcases Nat.lt_or_ge i j with h | h
          · exact hx.out i x h hix
          · obtain rfl : i = j := by omega
            rw [HO.out] at hix
            cases hix
            exact HEQ.out)
        clear hx HO HEQ
        go_wp2
        case roundEnd =>
          go_roundw
          case rel => exact ⟨j + 1, by omega, by go_num, HN, BR5.out⟩
          case measure => simp [intOf]; omega
      · have HF : Hid (r = (j : Int)) := hid_ (by rw [← HR.out]; unfold idxI; rw [idxI_hit HO.out HEQ.out hx.out])
        clear hx HO HEQ
        go_wp2
        go_ret
        exact ⟨by rw [HF.out]; rfl, BR5.out⟩
    · obtain rfl : j = n := by omega
      have HF : Hid (r = -1) := hid_ (by rw [← HR.out]; unfold idxI; rw [idxI_no (fun i x h => hx.out i x (by have := (List.getElem?_eq_some_iff.1 h).1; rw [HL.out] at this; exact this) h)])
      clear hx hbr
      go_wp2
      go_ret
      exact ⟨by rw [HF.out]; rfl, BR.out⟩
theorem idxI_ge (p : Ord → Bool) (l : List Ord) : decide (0 ≤ idxI p l) = (l.findIdx? p).isSome := by
  unfold idxI
  cases l.findIdx? p <;> simp
set_option maxRecDepth 10000 in
set_option maxHeartbeats 1000000 in
theorem containsP_any (p : Ord → Bool) (gc : Nat) (cap : Value) (eg : ∀ args w, (callFunc gc args).run Try.prog w = .ok (.enter gc args) w) (A : Option Addr) (n c : Nat) (l : List Ord) (w : World) (hA : Row ordT w A n l)
    (hp : ∀ (o0 : Int) (o1 o2 : ByteArray) (o3 : Bool) (o4 o5 : Int) (w' : World), Bel w w' → Calls Try.prog gc #[.agg #[.int .u64 o0, .string o1, .string o2, .bool o3, .int .i64 o4, .int .i64 o5], cap] w' fun e w'' => e = .returned (.bool (p ⟨o0, o1, o2, o3, o4, o5⟩)) ∧ Bel w' w'') :
    Calls Try.prog 46 #[.slice A n c, .func (.func gc) #[] #[cap]] w fun e w' => e = .returned (.bool (l.findIdx? p).isSome) ∧ Bel w w' := by
  have hc := indexP_any p gc cap eg A n c l w hA hp
  have hg := idxI_ge p l
  generalize (l.findIdx? p).isSome = q at hg ⊢
  generalize idxI p l = r at hc hg
  have HC := hid_ hc
  clear hA hp hc
  go_enter Try.func46, Try.ntmps46
  go_wp2_with fail
  refine HC.out.mono ?_
  rintro e w1 ⟨rfl, b⟩
  have HB := hid_ b
  have HG := hid_ hg
  clear b HC hg
  go_wp2
  go_ret
  exact ⟨by rw [← HG.out]; rfl, HB.out⟩
theorem is_any (n : Int) (w : World) : Calls Try.prog 47 #[.int .u64 n] w fun e w' => e = .returned (.func (.func 98) #[] #[.pointer (some ⟨w.heap.size, 0, none⟩)]) ∧ w.alloc (.cells #[.int .u64 n] 28) = w' := by
  go_enter Try.func47, Try.ntmps47
  go_wp2
  go_ret
  exact ⟨rfl, rfl⟩
set_option maxRecDepth 10000 in
theorem is1_any (o0 : Int) (o1 o2 : ByteArray) (o3 : Bool) (o4 o5 : Int) (n : Int) (g : Nat) (w : World) (h : w.cell? ⟨g, 0, none⟩ = some (.int .u64 n)) :
    Calls Try.prog 98 #[.agg #[.int .u64 o0, .string o1, .string o2, .bool o3, .int .i64 o4, .int .i64 o5], .pointer (some ⟨g, 0, none⟩)] w fun e w' => e = .returned (.bool (o0 == n)) ∧ Bel w w' := by
  have h1 := cellOld h (.cells #[.int .u64 o0, .string o1, .string o2, .bool o3, .int .i64 o4, .int .i64 o5] 30)
  have h2 := cellNew w #[.int .u64 o0, .string o1, .string o2, .bool o3, .int .i64 o4, .int .i64 o5] 30 (0, 0) w.heap.size 0 rfl
  have HB := hid_ ((Bel.refl w).alloc (.cells #[.int .u64 o0, .string o1, .string o2, .bool o3, .int .i64 o4, .int .i64 o5] 30))
  clear h
  go_enter Try.func98, Try.ntmps98
  go_wp2
  go_ret
  exact ⟨rfl, HB.out⟩
set_option maxRecDepth 10000 in
theorem put1_any (o0 : Int) (o1 o2 : ByteArray) (o3 : Bool) (o4 o5 : Int) (n : Int) (g : Nat) (w : World) (h : w.cell? ⟨g, 0, none⟩ = some (.int .u64 n)) :
    Calls Try.prog 49 #[.agg #[.int .u64 o0, .string o1, .string o2, .bool o3, .int .i64 o4, .int .i64 o5], .pointer (some ⟨g, 0, none⟩)] w fun e w' => e = .returned (.bool (decide (n < o0))) ∧ Bel w w' := by
  have h1 := cellOld h (.cells #[.int .u64 o0, .string o1, .string o2, .bool o3, .int .i64 o4, .int .i64 o5] 30)
  have h2 := cellNew w #[.int .u64 o0, .string o1, .string o2, .bool o3, .int .i64 o4, .int .i64 o5] 30 (0, 0) w.heap.size 0 rfl
  have HB := hid_ ((Bel.refl w).alloc (.cells #[.int .u64 o0, .string o1, .string o2, .bool o3, .int .i64 o4, .int .i64 o5] 30))
  clear h
  go_enter Try.func49, Try.ntmps49
  go_wp2
  go_ret
  exact ⟨rfl, HB.out⟩
theorem egIs : ∀ args w, (callFunc 98 args).run Try.prog w = .ok (.enter 98 args) w := enters_of Try.func98 (by kernel_rfl) rfl
theorem egPut : ∀ args w, (callFunc 49 args).run Try.prog w = .ok (.enter 49 args) w := enters_of Try.func49 (by kernel_rfl) rfl
end Go.Proofs.Ytlddpkbdmbafbaa
