/- netting.Zero. -/
import Derived.Test.YtgnninpfhnpjoaaNt2
import Derived.Deep.DeepCutAuto
set_option linter.unusedSimpArgs false
set_option linter.unusedVariables false
namespace Go.Proofs.Ytgnninpfhnpjoaa
open Go.RowKit Go.Lib Go.Maps
theorem assL_fun {l : List Due} {k : Nat} {o : Due} (h : l[k]? = some o) (q : ByteArray) (hq : o.asset = q) (inst : ∀ y, Decidable (y = q)) :
    (fun y => @ite _ (y = q) (inst y) (assL (l.take k) q ++ [o.amount]) (assL (l.take k) y)) = fun y => assL (l.take (k + 1)) y := by
  funext y
  rw [assL_step h y]
  by_cases e : y = q
  · rw [if_pos e, e, if_pos hq]
  · rw [if_neg e, if_neg (fun e' => e (by rw [← e', hq])), List.append_nil]
theorem app_at {W0 W x1 : World} {row : Option Nat} {v v1 : Value} (hb : Bel W0 W) (hg : W.grownBy x1 row) (hat : v1.ownBlock = v.ownBlock ∨ ∃ c, v1.ownBlock = some c ∧ W.heap.size ≤ c) : W0.grownBy x1 row ∧ (v1.ownBlock = v.ownBlock ∨ ∃ c, v1.ownBlock = some c ∧ W0.heap.size ≤ c) := by
  refine ⟨(grown_of_bel hb row).trans hg, ?_⟩
  rcases hat with h | ⟨c, h, k⟩
  · exact .inl h
  · exact .inr ⟨c, h, Nat.le_trans hb.size_ k⟩
theorem assL_some {l : List Due} {s : ByteArray} (h : assL l s ≠ []) : ∃ d ∈ l, d.asset = s := by
  unfold assL at h
  obtain ⟨x, hx⟩ := List.exists_mem_of_ne_nil _ h
  obtain ⟨d, hd, _⟩ := List.mem_map.1 hx
  obtain ⟨h1, h2⟩ := List.mem_filter.1 hd
  exact ⟨d, h1, by simpa using h2⟩
theorem assL_in {l : List Due} {d : Due} (h : d ∈ l) : assL l d.asset ≠ [] := by
  intro e
  unfold assL at e
  have h3 : d ∈ l.filter (fun x => decide (x.asset = d.asset)) := List.mem_filter.2 ⟨h, by simp⟩
  rw [List.map_eq_nil_iff.1 e] at h3
  cases h3
theorem assL_i64 {legs : List Due} (hz : ∀ x ∈ legs, -9223372036854775808 ≤ x.amount ∧ x.amount ≤ 9223372036854775807) (p : ByteArray) : ∀ x ∈ assL legs p, -9223372036854775808 ≤ x ∧ x ≤ 9223372036854775807 := by
  intro x hx
  unfold assL at hx
  obtain ⟨d, hd, rfl⟩ := List.mem_map.1 hx
  exact hz d (List.mem_filter.1 hd).1
/-- A sum that may be is 0, or it is not. -/
theorem sum_zero_iff (l : List Int) : (sumV l = 0 ∧ sumE l = 0) ↔ l.sum = 0 := by
  unfold sumV sumE
  constructor
  · rintro ⟨h1, h2⟩
    split at h2
    · rw [if_pos (by assumption)] at h1; exact h1
    · cases h2
  · intro h
    have : sumOk l = true := by unfold sumOk; rw [h]; rfl
    rw [if_pos this, if_pos this]
    exact ⟨h, rfl⟩
theorem zero_no {l : List Due} {s : ByteArray} (h : (assL l s).sum ≠ 0) : zeroB l = false := by
  cases k : zeroB l
  · rfl
  · exact absurd (zeroB_iff.1 k s) h
set_option maxRecDepth 10000 in
set_option maxHeartbeats 4000000 in
theorem zero_any (A : Option Addr) (n c : Nat) (l : List Due) (w : World) (hA : Row dueT w A n l) (hn : n ≤ 90000) (hz : ∀ x ∈ l, x.who.size ≤ 9223372036854775807 ∧ x.asset.size ≤ 9223372036854775807 ∧ i64w' x.amount) :
    Calls Try.prog 25 #[.slice A n c] w fun e w' => e = .returned (.bool (zeroB l)) ∧ Bel w w' := by
  have hn63 := hA.2.1
  have HA := hid_ hA
  have HZ := hid_ hz
  have HN := hid_ hn
  have HL := hid_ hA.1
  obtain ⟨re, hre⟩ : ∃ r, zeroB l = r := ⟨_, rfl⟩
  rw [hre]
  have HR := hid_ hre
  clear hA hz hn hre
  go_enter Try.func25, Try.ntmps25
  have hmk : (Instr.makeMap 69 none).run Try.prog w = .ok (.map (some w.heap.size)) (w.alloc (.map #[] 0)) := rfl
  go_wp2_with fail
  clear hmk
  have hM0 := MapG.made strK i64T w
  obtain ⟨Wm, hWm⟩ : ∃ W0, w.alloc (.map #[] 0) = W0 := ⟨_, rfl⟩
  obtain ⟨b, hb⟩ : ∃ b, w.heap.size = b := ⟨_, rfl⟩
  rw [hWm] at hM0 ⊢
  rw [hb] at hM0 ⊢
  have HM0 := hid_ hM0
  have HBE : Hid (b = w.heap.size) := hid_ hb.symm
  have HB0 : Hid (Bel w Wm) := hid_ (by rw [← hWm]; exact (Bel.refl w).alloc _)
  clear hM0 hWm hb
  have HK : Hid (∀ W : World, (zeroValue 36).run Try.prog W = .ok (.slice none 0 0) W) := hid_ (fun W => Try.zeroValue36 W)
  go_loopw [5, 13] (fun _ i wr => ∃ (j : Nat) (D : DataW Value) (g : ByteArray → Value), j ≤ n ∧ i = .int .i64 j ∧ Hid (MapG strK i64T wr (b + 1) b j (fun p => assL (l.take j) p) D g) ∧ Hid (Bel w wr)) (fun _ i _ => n - (intOf i).toNat)
  case atStart => exact ⟨0, _, _, Nat.zero_le _, rfl, HM0, HB0⟩
  case round =>
    obtain ⟨j, D, g, hj, rfl, hMG, hBR⟩ := hrel
    by_cases hjm : j < n
    · obtain ⟨ad, g0, g1, g2, rfl, ho, e0, e1, e2⟩ := (HA.out.bel hBR.out).due hjm
      have HO := hid_ ho
      have HZ1 : Hid (strOk g1) := hid_ (by have := (HZ.out _ (List.mem_of_getElem? ho)).2.1; unfold strOk; simp only [maxLen]; exact this)
      clear ho
      have k1 := hid_ (Bx.new wr 33 [.string g0, .string g1, .int .i64 g2])
      have B1 := hid_ (hBR.out.alloc (.cells #[.string g0, .string g1, .int .i64 g2] 33))
      have M1 := hid_ (hMG.out.bel ((Bel.refl wr).alloc (.cells #[.string g0, .string g1, .int .i64 g2] 33)))
      have HGB : Hid (∀ k, (g g1).ownBlock = some k → k < wr.heap.size) := hid_ (fun k hk => (hMG.out.row g1 HZ1.out).lt_ k hk)
      clear hMG hBR
      go_upto_region 5 with (fail)
      generalize wr.alloc (.cells #[.string g0, .string g1, .int .i64 g2] 33) = W0 at k1 B1 M1 ⊢
      generalize wr.heap.size = gG at k1 HGB ⊢
      clear e0 e1 e2
      have q1 := k1.out.cell 1 rfl
      have q2 := k1.out.cell 2 rfl
      have hlk : ∀ W, Bel W0 W → (Instr.lookup 69 (.map (some b)) (.string g1) false).run Try.prog W = .ok (g g1) W := fun W hW => (M1.out.bel hW).look Try.underlying69 (HK.out W) HZ1.out
      obtain ⟨v, hv⟩ : ∃ v, g g1 = v := ⟨_, rfl⟩
      rw [hv] at hlk
      have HOV : Hid (Own i64T W0 (b + 1) v (assL (l.take j) g1)) := hid_ (by rw [← hv]; exact M1.out.row g1 HZ1.out)
      have HOW : Hid (Own i64T W0 w.heap.size v (assL (l.take j) g1)) := hid_ (HOV.out.mono_ (by rw [HBE.out]; exact Nat.le_succ _))
      have HGN : Hid (some gG ≠ v.ownBlock) := hid_ (fun e => by have := HGB.out gG (by rw [hv]; exact e.symm); omega)
      have HR1 : Hid (Row i64T (W0.alloc (.cells #[.int .i64 g2] 2)) (some ⟨W0.heap.size, 0, none⟩) 1 [g2]) := hid_ (Row.one (T := i64T) g2 rfl rfl)
      have HSL : Hid (((assL (l.take j) g1).length + 1) * 8 ≤ 140737488355328) := hid_ (by
        have h1 := assL_len (l.take j) g1
        have h2 : (l.take j).length ≤ j := by rw [List.length_take]; omega
        have h3 := HN.out
        omega)
      have HSTO : Hid (∀ (x1 : World) (v1 : Value), W0.grownBy x1 v.ownBlock → Own i64T x1 w.heap.size v1 (assL (l.take j) g1 ++ [g2]) → (v1.ownBlock = v.ownBlock ∨ ∃ c, v1.ownBlock = some c ∧ W0.heap.size ≤ c) →
          ∃ w6, (Instr.mapUpdate 69 (.map (some b)) (strK.val g1) v1).run Try.prog x1 = .ok () w6 ∧ (∃ D7 g7, MapG strK i64T w6 (b + 1) b (j + 1) (fun p => assL (l.take (j + 1)) p) D7 g7) ∧ x1.grownBy w6 (some b)) := hid_ (fun x1 v1 h1 h2 h3 => by
        have hlt := M1.out.own.lt
        obtain ⟨w6, k1, k2, k3⟩ := M1.out.store (x := g1) Try.underlying69 (by have := HN.out; simp only [maxLen]; omega) HZ1.out (v1 := v1) (ys := assL (l.take j) g1 ++ [g2]) (by rw [hv]; exact h1) (h2.raise (fun k hk => by
          rcases h3 with e | ⟨c1, e, hc1⟩
          · exact HOV.out.base_ k (e ▸ hk)
          · rw [hk] at e
            injection e with e
            omega)) (by simp) (by rw [hv]; exact h3)
        exact ⟨w6, k1, ⟨_, _, k2.congr (assL_fun HO.out g1 rfl (fun y => Classical.propDecidable _))⟩, k3⟩)
      have hl0 := hlk W0 (Bel.refl _)
      have hl1 := hlk W0.drew (Bel.refl _).drew
      have hl2 := fun o => hlk (W0.alloc o) ((Bel.refl _).alloc _)
      have hl3 := fun o => hlk (W0.alloc o).drew ((Bel.refl _).alloc _).drew
      have hl4 := fun o => hlk (W0.drew.alloc o) ((Bel.refl _).drew.alloc _)
      have r1 := fun o => cellOld q1 o
      have r2 := fun o => cellOld q2 o
      have HLK := hid_ hlk
      clear hlk hv
      go_region_law (first
        | (refine stepApp (w0 := w) i64S rfl _ _ rfl v (assL (l.take j) g1) [g2] (some ⟨W0.heap.size, 0, none⟩) 1 1 rfl rfl (HOW.out.bel (by repeat first | with_reducible exact Bel.refl _ | with_reducible apply Bel.drew | with_reducible apply Bel.alloc)) (HR1.out.bel (by repeat first | with_reducible exact Bel.refl _ | with_reducible apply Bel.drew | with_reducible apply Bel.alloc)) (B1.out.trans (by repeat first | with_reducible exact Bel.refl _ | with_reducible apply Bel.drew | with_reducible apply Bel.alloc)) HSL.out ?_; intro v1 x1 hO1 hb1 hg1 hat1; obtain ⟨hgw, hatw⟩ := app_at (W0 := W0) (v := v) (v1 := v1) (by repeat first | with_reducible exact Bel.refl _ | with_reducible apply Bel.drew | with_reducible apply Bel.alloc) hg1 hat1; obtain ⟨w6, hst0, M6, hg6⟩ := HSTO.out x1 v1 hgw hO1 hatw; have hst : (Instr.mapUpdate 69 (.map (some b)) (.string g1) v1).run Try.prog x1 = .ok () w6 := hst0; have s1 := hgw.cell q1 HGN.out; have s2 := hgw.cell q2 HGN.out))
      all_goals (
        obtain ⟨D7, g7, M7⟩ := M6
        have HM7 := hid_ M7
        have HB7 : Hid (Bel w w6) := hid_ (Below.grown hb1 hg6 hb1.size (fun k e => by cases e; rw [HBE.out]; exact Nat.le_refl _))
        clear M7 hst0 hst hg6 hO1 hb1 hg1 hat1 hgw hatw s1 s2 hl0 hl1 hl2 hl3 hl4 r1 r2 q1 q2
        go_wp2
        case roundEnd =>
          go_round
          case rel => exact ⟨j + 1, D7, g7, by omega, by go_num, HM7, HB7⟩
          case measure => simp [intOf]; omega)
    · obtain rfl : j = n := by omega
      have hMG2 := hMG.out
      rw [show l.take j = l from List.take_of_length_le (by rw [HL.out]; exact Nat.le_refl _)] at hMG2
      have HMG := hid_ hMG2
      have HB1 := hid_ hBR.out
      have HI := hid_ (assL_i64 (legs := l) (fun x hx => (HZ.out x hx).2.2))
      have HAL : Hid (∀ p, (assL l p).length ≤ 1000000) := hid_ (fun p => Nat.le_trans (assL_len l p) (by rw [HL.out]; exact Nat.le_trans HN.out (by decide)))
      have HOKP : Hid (∀ p, assL l p ≠ [] → strOk p) := hid_ (fun p hp => by
        obtain ⟨d, hd, rfl⟩ := assL_some hp
        have := (HZ.out d hd).2.1
        unfold strOk
        simp only [maxLen]
        exact this)
      have HGT : Hid (∀ x, strOk x → ∀ k, (g x).ownBlock = some k → k < wr.heap.size) := hid_ (fun x hx => (HMG.out.row x hx).lt_)
      clear hMG hMG2 hjm hBR
      go_wp2_with (first | (at_range; refine wpRangeG rfl _ _ 36 rfl rfl HMG.out Try.underlying69 ?_; intro w1 hrg1 hg1 hs1))
      have HR1 := hid_ hrg1
      have HB2 : Hid (Bel w w1) := hid_ (Below.grown HB1.out hg1 HB1.out.size (fun k e => by cases e))
      obtain ⟨r, hr⟩ : ∃ r, wr.heap.size = r := ⟨_, rfl⟩
      rw [hr] at HR1 HGT ⊢
      have HWR : Hid (w.heap.size ≤ r) := hid_ (by rw [← hr]; exact HB1.out.size_)
      clear hrg1 hg1 hs1 hr HMG HB1
      go_frame
      go_loopw [7] (fun _ wr => ∃ (dn : List ByteArray) (cnt : Nat), Hid (RngG strK i64T wr (b + 1) b r j (fun p => assL l p) D g dn cnt) ∧ Hid (∀ p ∈ dn, (assL l p).sum = 0) ∧ Hid (Bel w wr)) (fun _ wr => wr.rangeLeft b r)
      case atStart => exact ⟨[], _, HR1, hid_ (by simp), HB2⟩
      case round =>
        obtain ⟨dn, cnt, hR, hS, hB⟩ := hrel
        have hrb : ∀ x, strOk x → (g x).ownBlock ≠ some r := fun x hx e => by have := HGT.out x hx r e; omega
        have HRB := hid_ hrb
        clear hrb
        go_wp2_with (first | (at_next; refine wpNextG rfl _ rfl rfl hR.out HRB.out ?_ ?_))
        · intro hc0 hall
          have HF : Hid (re = true) := hid_ (by
            rw [← HR.out, zeroB_iff]
            intro s
            by_cases e : assL l s = []
            · rw [e]; rfl
            · exact hS.out s (hall s (HOKP.out s e) e))
          clear hc0 hall hR HRB hS
          go_wp2
          go_ret
          exact ⟨by rw [HF.out]; rfl, hB.out⟩
        · intro x w2 cnt' hx hf hd hrg2 hlt hg2 hs2 hen
          have hx : strOk x := hx
          obtain ⟨X, kx, hgx, hkx, rx⟩ := (hrg2.row _ hx).reads
          rw [hgx] at hen ⊢
          simp only [strK] at hen ⊢
          have RX := hid_ rx
          have B2 : Bel w w2 := Below.grown hB.out hg2 hB.out.size (fun k e => by cases e; exact HWR.out)
          have HR2 := hid_ hrg2
          have HB3 := hid_ B2
          have HZ2 : Hid (cnt' < cnt ∧ wr.rangeLeft b r = cnt) := hid_ ⟨hlt, hR.out.left_eq⟩
          clear hx hf hd hrg2 hlt hg2 hs2 hkx rx B2 hB hR HRB hgx
          go_wp2_with fail
          clear hen
          refine (sum_any X _ kx (assL l x) w2 RX.out (HAL.out _) (HI.out _)).mono ?_
          rintro e W4 ⟨rfl, b4⟩
          have R4 := hid_ (HR2.out.bel b4)
          have B4 := hid_ (HB3.out.trans b4)
          clear b4 HR2 HB3 RX
          by_cases hz0 : (assL l x).sum = 0
          · obtain ⟨z1, z2⟩ := (sum_zero_iff _).2 hz0
            rw [z1, z2]
            have HS2 : Hid (∀ p ∈ dn ++ [x], (assL l p).sum = 0) := hid_ (fun p hp => by
              rcases List.mem_append.1 hp with hp | hp
              · exact hS.out p hp
              · simp at hp; subst hp; exact hz0)
            clear hz0 z1 z2 hS
            go_wp2
            case roundEnd =>
              go_roundw
              case rel => exact ⟨dn ++ [x], cnt', R4, HS2, B4⟩
              case measure => rw [R4.out.left_eq, HZ2.out.2]; exact HZ2.out.1
          · have HF : Hid (re = false) := hid_ (by rw [← HR.out]; exact zero_no hz0)
            cases hso : sumOk (assL l x)
            · rw [show sumV (assL l x) = 0 by unfold sumV; rw [hso]; rfl, show sumE (assL l x) = 10 by unfold sumE; rw [hso]; rfl]
              clear hso hz0 hS R4
              go_wp2
              go_ret
              exact ⟨by rw [HF.out]; rfl, B4.out⟩
            · rw [show sumV (assL l x) = (assL l x).sum by unfold sumV; rw [hso, if_pos rfl], show sumE (assL l x) = 0 by unfold sumE; rw [hso]; rfl]
              obtain ⟨sm, hsm⟩ : ∃ sm, (assL l x).sum = sm := ⟨_, rfl⟩
              rw [hsm] at hz0 ⊢
              have j0 : (sm != 0) = true := by simp [hz0]
              clear hso hz0 hS R4 hsm
              go_wp2
              go_ret
              exact ⟨by rw [HF.out]; rfl, B4.out⟩
end Go.Proofs.Ytgnninpfhnpjoaa
