/- account.move, Hold, Free. -/
import Derived.Test.YtlddpkbdmbafbaaAc6
set_option linter.unusedSimpArgs false
set_option linter.unusedVariables false
namespace Go.Proofs.Ytlddpkbdmbafbaa
open Go.RowKit Go.Lib Go.Sort Go.Shelf
def mvB (p : Plc) (m : Int) : Bool := !decide (m < 1) && (!decide (p.who = worldS) && namedB p)
def mvE (p : Plc) (m er : Int) : Int := if mvB p m then er else 1
def mvO (l : List Acc) (p : Plc) (m er d : Int) : List Acc := if mvB p m = true ∧ er = 0 then withA l ⟨p.who, p.asset, (findA l p).balance, wrap64 ((findA l p).held + d)⟩ else []
theorem mv_0 {l : List Acc} {p : Plc} {m er d : Int} (h : mvB p m = false) : mvE p m er = 1 ∧ mvO l p m er d = [] := by simp [mvE, mvO, h]
theorem mv_1 {l : List Acc} {p : Plc} {m er d : Int} (h : mvB p m = true) (he : er ≠ 0) : mvE p m er = er ∧ mvO l p m er d = [] := by simp [mvE, mvO, h, he]
theorem mv_2 {l : List Acc} {p : Plc} {m d : Int} (h : mvB p m = true) : mvE p m 0 = 0 ∧ mvO l p m 0 d = withA l ⟨p.who, p.asset, (findA l p).balance, wrap64 ((findA l p).held + d)⟩ := by simp [mvE, mvO, h]
set_option maxRecDepth 10000 in
set_option maxHeartbeats 2000000 in
theorem move_any (A : Option Addr) (n c : Nat) (l : List Acc) (p0 p1 : ByteArray) (m : Int) (gc : Nat) (cap : Value) (eg : ∀ args w, (callFunc gc args).run Try.prog w = .ok (.enter gc args) w) (d er : Int) (w : World) (hA : Row accT w A n l) (hnc : n ≤ c) (hs : Srt l) (hn : n ≤ 99999) (h1 : p0.size ≤ 9223372036854775807) (h2 : p1.size ≤ 9223372036854775807)
    (hp : ∀ W, Bel w W → Calls Try.prog gc #[.agg (accC (findA l ⟨p0, p1⟩)).toArray, cap] W fun e w' => e = .returned (.int .i64 er) ∧ Bel W w') :
    Calls Try.prog 110 #[.slice A n c, .string p0, .string p1, .int .i64 m, .func (.func gc) #[] #[cap], .int .i64 d] w fun e w' => ∃ v, e = .returned (.tuple #[v, .int .i64 (mvE ⟨p0, p1⟩ m er)]) ∧ Own accT w' w.heap.size v (mvO l ⟨p0, p1⟩ m er d) ∧ Bel w w' := by
  have HA := hid_ hA
  have HS := hid_ hs
  have HNC := hid_ hnc
  have HN := hid_ hn
  have HP := hid_ hp
  have SZ := hid_ (And.intro h1 h2)
  obtain ⟨rm, hrm⟩ : ∃ r, mvE ⟨p0, p1⟩ m er = r := ⟨_, rfl⟩
  obtain ⟨ro, hro⟩ : ∃ r, mvO l ⟨p0, p1⟩ m er d = r := ⟨_, rfl⟩
  rw [hrm, hro]
  have HR := hid_ (And.intro hrm hro)
  clear hA hs hnc hn hp h1 h2 hrm hro
  go_enter Try.func110, Try.ntmps110
  by_cases c1 : m < 1
  · have HF : Hid (rm = 1 ∧ ro = []) := hid_ (by have h := mv_0 (l := l) (p := ⟨p0, p1⟩) (m := m) (er := er) (d := d) (by unfold mvB; rw [decide_eq_true c1]; rfl); exact ⟨by rw [← HR.out.1, h.1], by rw [← HR.out.2, h.2]⟩)
    clear HR
    go_wp2
    go_ret2
    exact ⟨.slice none 0 0, by rw [HF.out.1]; rfl, by rw [HF.out.2]; exact Own.nil_ _ _ _, Bel.refl _⟩
  by_cases c2 : p0 = worldS
  · have HF : Hid (rm = 1 ∧ ro = []) := hid_ (by have h := mv_0 (l := l) (p := ⟨p0, p1⟩) (m := m) (er := er) (d := d) (by unfold mvB; rw [decide_eq_false c1, decide_eq_true c2]; rfl); exact ⟨by rw [← HR.out.1, h.1], by rw [← HR.out.2, h.2]⟩)
    have q : (p0.toList == ([119, 111, 114, 108, 100] : List UInt8)) = true := by rw [worldEq]; exact decide_eq_true c2
    clear HR c2
    go_wp2
    go_ret2
    exact ⟨.slice none 0 0, by rw [HF.out.1]; rfl, by rw [HF.out.2]; exact Own.nil_ _ _ _, Bel.refl _⟩
  have HC2 := hid_ c2
  have q : (p0.toList == ([119, 111, 114, 108, 100] : List UInt8)) = false := by rw [worldEq]; exact decide_eq_false c2
  clear c2
  go_wp2_with fail
  refine (names_any p0 p1 w SZ.out.1 SZ.out.2).mono ?_
  rintro e w1 ⟨rfl, b⟩
  have B1 := hid_ b
  clear b
  obtain ⟨nb, hnb⟩ : ∃ b, namedB ⟨p0, p1⟩ = b := ⟨_, rfl⟩
  rw [hnb]
  have HNB := hid_ hnb
  clear hnb
  cases nb
  · have HF : Hid (rm = 1 ∧ ro = []) := hid_ (by have h := mv_0 (l := l) (p := ⟨p0, p1⟩) (m := m) (er := er) (d := d) (by unfold mvB; rw [HNB.out, Bool.and_false, Bool.and_false]); exact ⟨by rw [← HR.out.1, h.1], by rw [← HR.out.2, h.2]⟩)
    clear HR
    go_wp2
    go_ret2
    exact ⟨.slice none 0 0, by rw [HF.out.1]; rfl, by rw [HF.out.2]; exact Own.nil_ _ _ _, B1.out⟩
  have HOK : Hid (mvB ⟨p0, p1⟩ m = true) := hid_ (by unfold mvB; rw [HNB.out, decide_eq_false (show ¬ m < 1 by omega), decide_eq_false (show ¬ (Plc.mk p0 p1).who = worldS from HC2.out)]; rfl)
  go_wp2_with fail
  refine (find_any A n c l p0 p1 _ (HA.out.bel B1.out) HS.out).mono ?_
  rintro e w2 ⟨rfl, b⟩
  have B2 := hid_ (B1.out.trans b)
  clear b B1
  obtain ⟨⟨f0, f1, f2, f3⟩, hf⟩ : ∃ f, findA l ⟨p0, p1⟩ = f := ⟨_, rfl⟩
  rw [hf]
  have HPL : Hid (f0 = p0 ∧ f1 = p1) := hid_ (by
    have h := findA_plc l ⟨p0, p1⟩
    rw [hf] at h
    simp only [Acc.plc, Plc.mk.injEq] at h
    exact h)
  have HP2 : Hid (∀ W, Bel w W → Calls Try.prog gc #[.agg #[.string f0, .string f1, .int .i64 f2, .int .i64 f3], cap] W fun e w' => e = .returned (.int .i64 er) ∧ Bel W w') := hid_ (by
    intro W hW
    have h := HP.out W hW
    rw [hf] at h
    exact h)
  have HFI := hid_ hf
  simp only [accC]
  clear hf HP
  have K3 := hid_ (Bx.new w2 65 [.string f0, .string f1, .int .i64 f2, .int .i64 f3])
  have B3 := hid_ (B2.out.alloc (.cells #[.string f0, .string f1, .int .i64 f2, .int .i64 f3] 65))
  have HLE : Hid (w.heap.size ≤ w2.heap.size) := hid_ B2.out.size_
  go_wp2_with fail
  generalize w2.alloc (.cells #[.string f0, .string f1, .int .i64 f2, .int .i64 f3] 65) = w3 at K3 B3 ⊢
  generalize w2.heap.size = gB at K3 HLE ⊢
  clear B2
  refine (HP2.out w3 B3.out).mono ?_
  rintro e w4 ⟨rfl, b⟩
  have K4 := hid_ (K3.out.bel b)
  have B4 := hid_ (B3.out.trans b)
  clear b K3 B3 HP2
  by_cases c3 : er = 0
  · subst c3
    have KS := hid_ (K4.out.set 3 (.int .i64 (wrap64 (f3 + d))))
    have BS := hid_ (B4.out.setBx (g := gB) (j := 3) HLE.out (.int .i64 (wrap64 (f3 + d))))
    have z0 := K4.out.cell 0 rfl
    have z1 := K4.out.cell 1 rfl
    have z2 := K4.out.cell 2 rfl
    have z3 := K4.out.cell 3 rfl
    have zf := fun j => K4.out.frozen j
    go_wp2_with fail
    generalize w4.setCell ⟨gB, 3, none⟩ (.int .i64 (wrap64 (f3 + d))) = w5 at KS BS ⊢
    refine (with_any A n c l f0 f1 f2 (wrap64 (f3 + d)) w5 (HA.out.bel BS.out) HNC.out HS.out HN.out).mono ?_
    rintro e w6 ⟨v, rfl, o, b⟩
    have HO : Hid (Own accT w6 w.heap.size v ro) := hid_ (by
      have h := (mv_2 (l := l) (d := d) HOK.out).2
      rw [HFI.out] at h
      have e : ro = withA l ⟨f0, f1, f2, wrap64 (f3 + d)⟩ := by rw [← HR.out.2, h, HPL.out.1, HPL.out.2]
      rw [e]
      exact o.mono_ BS.out.size_)
    have HF : Hid (rm = 0) := hid_ (by rw [← HR.out.1]; exact (mv_2 (l := l) (d := d) HOK.out).1)
    have B6 := hid_ (BS.out.trans b)
    clear o b z0 z1 z2 z3 zf HR KS BS
    go_wp2
    go_ret2
    exact ⟨v, by rw [HF.out]; rfl, HO.out, B6.out⟩
  · have HF : Hid (rm = er ∧ ro = []) := hid_ (by have h := mv_1 (l := l) (d := d) HOK.out c3; exact ⟨by rw [← HR.out.1, h.1], by rw [← HR.out.2, h.2]⟩)
    have q2 : (er != 0) = true := by simp [c3]
    clear HR c3
    go_wp2
    go_ret2
    exact ⟨.slice none 0 0, by rw [HF.out.1]; rfl, by rw [HF.out.2]; exact Own.nil_ _ _ _, B4.out⟩
set_option maxRecDepth 10000 in
theorem hold1_any (a0 a1 : ByteArray) (a2 a3 m : Int) (g : Nat) (w : World) (h : w.cell? ⟨g, 0, none⟩ = some (.int .i64 m)) :
    Calls Try.prog 111 #[.agg #[.string a0, .string a1, .int .i64 a2, .int .i64 a3], .pointer (some ⟨g, 0, none⟩)] w fun e w' => e = .returned (.int .i64 (if wrap64 (a2 - a3) < m then 111 else 0)) ∧ Bel w w' := by
  obtain ⟨r, hr⟩ : ∃ r, (if wrap64 (a2 - a3) < m then (111 : Int) else 0) = r := ⟨_, rfl⟩
  rw [hr]
  have HR := hid_ hr
  clear hr
  have h1 := cellOld h (.cells #[.string a0, .string a1, .int .i64 a2, .int .i64 a3] 65)
  have h2 := cellNew w #[.string a0, .string a1, .int .i64 a2, .int .i64 a3] 65 (0, 0) w.heap.size 2 rfl
  have h3 := cellNew w #[.string a0, .string a1, .int .i64 a2, .int .i64 a3] 65 (0, 0) w.heap.size 3 rfl
  have HB := hid_ ((Bel.refl w).alloc (.cells #[.string a0, .string a1, .int .i64 a2, .int .i64 a3] 65))
  clear h
  go_enter Try.func111, Try.ntmps111
  by_cases c1 : wrap64 (a2 - a3) < m
  · have HF : Hid (r = 111) := hid_ (by rw [← HR.out, if_pos c1])
    clear HR
    go_wp2
    go_ret
    exact ⟨by rw [HF.out]; rfl, HB.out⟩
  · have HF : Hid (r = 0) := hid_ (by rw [← HR.out, if_neg c1])
    clear HR
    go_wp2
    go_ret
    exact ⟨by rw [HF.out]; rfl, HB.out⟩
set_option maxRecDepth 10000 in
theorem free1_any (a0 a1 : ByteArray) (a2 a3 m : Int) (g : Nat) (w : World) (h : w.cell? ⟨g, 0, none⟩ = some (.int .i64 m)) :
    Calls Try.prog 115 #[.agg #[.string a0, .string a1, .int .i64 a2, .int .i64 a3], .pointer (some ⟨g, 0, none⟩)] w fun e w' => e = .returned (.int .i64 (if a3 < m then 112 else 0)) ∧ Bel w w' := by
  obtain ⟨r, hr⟩ : ∃ r, (if a3 < m then (112 : Int) else 0) = r := ⟨_, rfl⟩
  rw [hr]
  have HR := hid_ hr
  clear hr
  have h1 := cellOld h (.cells #[.string a0, .string a1, .int .i64 a2, .int .i64 a3] 65)
  have h2 := cellNew w #[.string a0, .string a1, .int .i64 a2, .int .i64 a3] 65 (0, 0) w.heap.size 2 rfl
  have h3 := cellNew w #[.string a0, .string a1, .int .i64 a2, .int .i64 a3] 65 (0, 0) w.heap.size 3 rfl
  have HB := hid_ ((Bel.refl w).alloc (.cells #[.string a0, .string a1, .int .i64 a2, .int .i64 a3] 65))
  clear h
  go_enter Try.func115, Try.ntmps115
  by_cases c1 : a3 < m
  · have HF : Hid (r = 112) := hid_ (by rw [← HR.out, if_pos c1])
    clear HR
    go_wp2
    go_ret
    exact ⟨by rw [HF.out]; rfl, HB.out⟩
  · have HF : Hid (r = 0) := hid_ (by rw [← HR.out, if_neg c1])
    clear HR
    go_wp2
    go_ret
    exact ⟨by rw [HF.out]; rfl, HB.out⟩
theorem egHold : ∀ args w, (callFunc 111 args).run Try.prog w = .ok (.enter 111 args) w := enters_of Try.func111 (by kernel_rfl) rfl
theorem egFree : ∀ args w, (callFunc 115 args).run Try.prog w = .ok (.enter 115 args) w := enters_of Try.func115 (by kernel_rfl) rfl
set_option maxRecDepth 10000 in
set_option maxHeartbeats 1000000 in
theorem hold_any (A : Option Addr) (n c : Nat) (l : List Acc) (p0 p1 : ByteArray) (m : Int) (w : World) (hA : Row accT w A n l) (hnc : n ≤ c) (hs : Srt l) (hn : n ≤ 99999) (h1 : p0.size ≤ 9223372036854775807) (h2 : p1.size ≤ 9223372036854775807) :
    Calls Try.prog 70 #[.slice A n c, .string p0, .string p1, .int .i64 m] w fun e w' => ∃ v, e = .returned (.tuple #[v, .int .i64 (mvE ⟨p0, p1⟩ m (if wrap64 ((findA l ⟨p0, p1⟩).balance - (findA l ⟨p0, p1⟩).held) < m then 111 else 0))]) ∧ Own accT w' w.heap.size v (mvO l ⟨p0, p1⟩ m (if wrap64 ((findA l ⟨p0, p1⟩).balance - (findA l ⟨p0, p1⟩).held) < m then 111 else 0) (m)) ∧ Bel w w' := by
  have HS := hid_ hs
  have SZ := hid_ (And.intro hnc (And.intro hn (And.intro h1 h2)))
  have K := hid_ (Bx.new w 2 [.int .i64 m])
  have HB : Hid (Bel w (w.alloc (.cells #[.int .i64 m] 2))) := hid_ ((Bel.refl w).alloc _)
  have FA := hid_ (hA.bel HB.out)
  have z := K.out.cell 0 rfl
  obtain ⟨er, her⟩ : ∃ er : Int, (if wrap64 ((findA l ⟨p0, p1⟩).balance - (findA l ⟨p0, p1⟩).held) < m then 111 else 0) = er := ⟨_, rfl⟩
  rw [her]
  have HER := hid_ her
  clear hs hnc hn h1 h2 hA her
  go_enter Try.func70, Try.ntmps70
  have hmf : ∀ (fn : Fn) (first cap : Array Value) (w : World), (Instr.makeFunc fn first cap).run Try.prog w = .ok (.func fn first cap) w := fun _ _ _ _ => rfl
  go_wp2_with fail
  have HP : Hid (∀ W, Bel (w.alloc (.cells #[.int .i64 m] 2)) W → Calls Try.prog 111 #[.agg (accC (findA l ⟨p0, p1⟩)).toArray, .pointer (some ⟨w.heap.size, 0, none⟩)] W fun e w' => e = .returned (.int .i64 er) ∧ Bel W w') := hid_ (by
    intro W hW
    rw [← HER.out]
    exact hold1_any _ _ _ _ m w.heap.size W (hW.cell_ (K.out.cell 0 rfl)))
  refine (move_any A n c l p0 p1 m 111 _ egHold (m) er _ FA.out SZ.out.1 HS.out SZ.out.2.1 SZ.out.2.2.1 SZ.out.2.2.2 HP.out).mono ?_
  rintro e w1 ⟨v, rfl, o, b⟩
  have HO := hid_ (o.mono_ HB.out.size_)
  have B1 := hid_ (HB.out.trans b)
  clear o b z hmf
  go_wp2
  go_ret2
  exact ⟨v, rfl, HO.out, B1.out⟩
set_option maxRecDepth 10000 in
set_option maxHeartbeats 1000000 in
theorem free_any (A : Option Addr) (n c : Nat) (l : List Acc) (p0 p1 : ByteArray) (m : Int) (w : World) (hA : Row accT w A n l) (hnc : n ≤ c) (hs : Srt l) (hn : n ≤ 99999) (h1 : p0.size ≤ 9223372036854775807) (h2 : p1.size ≤ 9223372036854775807) :
    Calls Try.prog 73 #[.slice A n c, .string p0, .string p1, .int .i64 m] w fun e w' => ∃ v, e = .returned (.tuple #[v, .int .i64 (mvE ⟨p0, p1⟩ m (if (findA l ⟨p0, p1⟩).held < m then 112 else 0))]) ∧ Own accT w' w.heap.size v (mvO l ⟨p0, p1⟩ m (if (findA l ⟨p0, p1⟩).held < m then 112 else 0) (wrap64 (-m))) ∧ Bel w w' := by
  have HS := hid_ hs
  have SZ := hid_ (And.intro hnc (And.intro hn (And.intro h1 h2)))
  have K := hid_ (Bx.new w 2 [.int .i64 m])
  have HB : Hid (Bel w (w.alloc (.cells #[.int .i64 m] 2))) := hid_ ((Bel.refl w).alloc _)
  have FA := hid_ (hA.bel HB.out)
  have z := K.out.cell 0 rfl
  obtain ⟨er, her⟩ : ∃ er : Int, (if (findA l ⟨p0, p1⟩).held < m then 112 else 0) = er := ⟨_, rfl⟩
  rw [her]
  have HER := hid_ her
  clear hs hnc hn h1 h2 hA her
  go_enter Try.func73, Try.ntmps73
  have hmf : ∀ (fn : Fn) (first cap : Array Value) (w : World), (Instr.makeFunc fn first cap).run Try.prog w = .ok (.func fn first cap) w := fun _ _ _ _ => rfl
  go_wp2_with fail
  have HP : Hid (∀ W, Bel (w.alloc (.cells #[.int .i64 m] 2)) W → Calls Try.prog 115 #[.agg (accC (findA l ⟨p0, p1⟩)).toArray, .pointer (some ⟨w.heap.size, 0, none⟩)] W fun e w' => e = .returned (.int .i64 er) ∧ Bel W w') := hid_ (by
    intro W hW
    rw [← HER.out]
    exact free1_any _ _ _ _ m w.heap.size W (hW.cell_ (K.out.cell 0 rfl)))
  refine (move_any A n c l p0 p1 m 115 _ egFree (wrap64 (-m)) er _ FA.out SZ.out.1 HS.out SZ.out.2.1 SZ.out.2.2.1 SZ.out.2.2.2 HP.out).mono ?_
  rintro e w1 ⟨v, rfl, o, b⟩
  have HO := hid_ (o.mono_ HB.out.size_)
  have B1 := hid_ (HB.out.trans b)
  clear o b z hmf
  go_wp2
  go_ret2
  exact ⟨v, rfl, HO.out, B1.out⟩
end Go.Proofs.Ytlddpkbdmbafbaa
