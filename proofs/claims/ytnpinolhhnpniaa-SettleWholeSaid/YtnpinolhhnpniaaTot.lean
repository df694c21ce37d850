/- account.Total. -/
import Derived.Test.YtnpinolhhnpniaaSum
import Derived.Test.YtnpinolhhnpniaaAccL
import Derived.Test.YtnpinolhhnpniaaTyAcc
import Derived.Test.YtnpinolhhnpniaaLit
set_option linter.unusedSimpArgs false
set_option linter.unusedVariables false
namespace Go.Proofs.Ytnpinolhhnpniaa
open Go.RowKit Go.Lib
def balA (l : List Acc) (s : ByteArray) : List Int := (l.filter (fun a => decide (a.asset = s))).map Acc.balance
theorem balA_step {l : List Acc} {k : Nat} {o : Acc} (h : l[k]? = some o) (s : ByteArray) : balA (l.take (k + 1)) s = balA (l.take k) s ++ (if o.asset = s then [o.balance] else []) := by
  unfold balA
  rw [List.take_add_one, h]
  simp only [Option.toList_some, List.filter_append, List.map_append]
  by_cases e : o.asset = s <;> simp [e]
theorem balA_len (l : List Acc) (s : ByteArray) : (balA l s).length ≤ l.length := by
  unfold balA
  rw [List.length_map]
  exact List.length_filter_le _ _
theorem balA_i64 {l : List Acc} (hz : ∀ x ∈ l, -9223372036854775808 ≤ x.balance ∧ x.balance ≤ 9223372036854775807) (s : ByteArray) : ∀ x ∈ balA l s, -9223372036854775808 ≤ x ∧ x ≤ 9223372036854775807 := by
  intro x hx
  obtain ⟨d, hd, rfl⟩ := List.mem_map.1 hx
  exact hz d (List.mem_filter.1 hd).1
set_option maxRecDepth 10000 in
set_option maxHeartbeats 2000000 in
theorem total_any (A : Option Addr) (n c : Nat) (l : List Acc) (s : ByteArray) (w : World) (hA : Row accT w A n l) (hn : n ≤ 100000) (hz : ∀ x ∈ l, -9223372036854775808 ≤ x.balance ∧ x.balance ≤ 9223372036854775807) :
    Calls Try.prog 14 #[.slice A n c, .string s] w fun e w' => e = .returned (.tuple #[.int .i64 (sumV (balA l s)), .int .i64 (sumE (balA l s))]) ∧ Bel w w' := by
  have h63 := hA.2.1
  have HL := hid_ hA.1
  have HA := hid_ hA
  have HZ := hid_ hz
  have HN := hid_ hn
  obtain ⟨rv, hrv⟩ : ∃ r, sumV (balA l s) = r := ⟨_, rfl⟩
  obtain ⟨re, hre⟩ : ∃ r, sumE (balA l s) = r := ⟨_, rfl⟩
  rw [hrv, hre]
  have HR := hid_ (And.intro hrv hre)
  clear hA hz hn hrv hre
  go_enter Try.func14, Try.ntmps14
  go_wp2_with fail
  go_loopw [6, 8, 11] (fun v _ i wr => ∃ j : Nat, j ≤ n ∧ i = .int .i64 j ∧ Hid (Own i64T wr w.heap.size v (balA (l.take j) s)) ∧ Hid (Bel w wr)) (fun _ _ i _ => n - (intOf i).toNat)
  case atStart => exact ⟨0, Nat.zero_le _, rfl, hid_ (Own.nil_ _ _ _), hid_ (Bel.refl _)⟩
  case round =>
    obtain ⟨j, hj, rfl, hO, hB⟩ := hrel
    by_cases hjn : j < n
    · obtain ⟨ad, o0, o1, o2, o3, rfl, ho, d0, d1, d2, d3⟩ := (HA.out.bel hB.out).acc hjn
      have HO := hid_ ho
      have HST := hid_ (balA_step ho s)
      clear ho
      have kG := Bx.new wr 38 [.string o0, .string o1, .int .i64 o2, .int .i64 o3]
      have bG : Bel wr (wr.alloc (.cells #[.string o0, .string o1, .int .i64 o2, .int .i64 o3] 38)) := (Bel.refl wr).alloc _
      have HB1 := hid_ (hB.out.trans bG)
      have HO1 := hid_ (hO.out.bel bG)
      have q1 := kG.cell 1 rfl
      have q2 := kG.cell 2 rfl
      obtain ⟨eb, heb⟩ : ∃ eb, (o1.toList == s.toList) = eb := ⟨_, rfl⟩
      have heb2 := heb
      rw [bytesEq] at heb2
      cases eb
      · have HF : Hid (balA (l.take j) s = balA (l.take (j + 1)) s) := hid_ (by rw [HST.out, if_neg (of_decide_eq_false heb2), List.append_nil])
        clear kG bG hO hB heb2
        go_wp2
        case roundEnd =>
          go_round
          case rel => exact ⟨j + 1, by omega, by go_num, hid_ (by rw [← HF.out]; exact HO1.out), HB1⟩
          case measure => simp [intOf]; omega
      · have HF : Hid (balA (l.take j) s ++ [o2] = balA (l.take (j + 1)) s) := hid_ (by rw [HST.out, if_pos (of_decide_eq_true heb2)])
        have HSL : Hid (((balA (l.take j) s).length + 1) * 8 ≤ 140737488355328) := hid_ (by
          have h1 := balA_len (l.take j) s
          have h2 : (l.take j).length ≤ j := by rw [List.length_take]; omega
          have h3 := HN.out
          omega)
        clear kG bG hO hB heb2
        go_wp2_with (at_builtin; refine wpApp (w0 := w) i64S rfl _ _ rfl _ (balA (l.take j) s) [o2] (some ⟨wr.heap.size + 1, 0, none⟩) 1 1 rfl rfl (HO1.out.alloc_ _) (Row.one (T := i64T) o2 rfl (sizeAl _ _).symm) (HB1.out.alloc _) HSL.out ?_; intro v1 x1 hO1 hb1 _ _)
        case roundEnd =>
          go_round
          case rel => exact ⟨j + 1, by omega, by go_num, hid_ (by rw [← HF.out]; exact hO1), hid_ hb1⟩
          case measure => simp [intOf]; omega
    · obtain rfl : j = n := by omega
      have hO2 := hO.out
      rw [show l.take j = l from List.take_of_length_le (by rw [HL.out]; exact Nat.le_refl _)] at hO2
      obtain ⟨X, k, rfl, hk, rx⟩ := hO2.reads
      have RX := hid_ rx
      clear hO hO2 hk rx hjn
      go_wp2_with fail
      refine (sum_any X _ k (balA l s) wr RX.out (by have := balA_len l s; rw [HL.out] at this; have := HN.out; omega) (balA_i64 HZ.out s)).mono ?_
      rintro e w2 ⟨rfl, b⟩
      have HB2 := hid_ (hB.out.trans b)
      rw [HR.out.1, HR.out.2]
      clear b RX hB
      go_wp2
      go_ret2
      exact ⟨rfl, HB2.out⟩
end Go.Proofs.Ytnpinolhhnpniaa
