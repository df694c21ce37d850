/- slices.symMergeCmpFunc where the right list is of one. -/
import Derived.Test.YtoachnhdedpbdaaTyOrd
import Derived.Shelf.SlSortCmp.KitK
import Derived.Shelf.SlSortCmp.WholeK
import Derived.BigRegion
import Derived.Deep.LoopGhost
import Derived.Deep.DeepCutAuto
set_option linter.unusedSimpArgs false
set_option linter.unusedVariables false
namespace Go.Proofs.Ytoachnhdedpbdaa
open Go.RowKit Go.Lib Go.Sort Go.Shelf
instance : Inhabited Ord := ⟨⟨0, ⟨#[]⟩, ⟨#[]⟩, false, 0, 0⟩⟩
structure StP (P : Program) (k : Nat) : Prop where
  mixed : P.follows Departure.mixedOrders = true
  fSwr : P.funcs[123]? = some Try.f123
  fRot : P.funcs[117]? = some Try.f117
  fSym : P.funcs[109]? = some Try.f109
  t0 : P.underlying 0 = some (TypeDesc.tuple #[])
  a0 : ∀ w, (isAgg 0).run P w = .ok false w
  z0 : ∀ w, (Go.sizeOf 0).run P w = .ok 1 w
  v0 : ∀ w, (zeroValue 0).run P w = .ok (Value.tuple #[]) w
  t3 : P.underlying 3 = some (TypeDesc.int IntKind.i64)
  a3 : ∀ w, (isAgg 3).run P w = .ok false w
  z3 : ∀ w, (Go.sizeOf 3).run P w = .ok 1 w
  v3 : ∀ w, (zeroValue 3).run P w = .ok (Value.int IntKind.i64 0) w
  t4 : P.underlying 4 = some (TypeDesc.bool)
  a4 : ∀ w, (isAgg 4).run P w = .ok false w
  z4 : ∀ w, (Go.sizeOf 4).run P w = .ok 1 w
  v4 : ∀ w, (zeroValue 4).run P w = .ok (Value.bool false) w
  tu : P.underlying 91 = some (TypeDesc.int IntKind.u64)
  au : ∀ w, (isAgg 91).run P w = .ok false w
  zu : ∀ w, (Go.sizeOf 91).run P w = .ok 1 w
  vu : ∀ w, (zeroValue 91).run P w = .ok (Value.int IntKind.u64 0) w
  ts : P.underlying 22 = some (TypeDesc.slice 30)
  asl : ∀ w, (isAgg 22).run P w = .ok false w
  zs : ∀ w, (Go.sizeOf 22).run P w = .ok 1 w
  vs : ∀ w, (zeroValue 22).run P w = .ok (Value.slice none 0 0) w
  tf : P.underlying 78 = some (TypeDesc.func #[30, 30] #[3] false)
  af : ∀ w, (isAgg 78).run P w = .ok false w
  zf : ∀ w, (Go.sizeOf 78).run P w = .ok 1 w
  vf : ∀ w, (zeroValue 78).run P w = .ok (Value.nilFunc) w
  aE : ∀ w, (isAgg 30).run P w = .ok true w
  zE : ∀ w, (Go.sizeOf 30).run P w = .ok k w
theorem stTry : StP Try.prog 6 where
  mixed := by kernel_rfl
  fSwr := Try.func123
  fRot := Try.func117
  fSym := Try.func109
  t0 := Try.underlying0
  a0 := Try.isAgg0
  z0 := Try.sizeOf0
  v0 := Try.zeroValue0
  t3 := Try.underlying3
  a3 := Try.isAgg3
  z3 := Try.sizeOf3
  v3 := Try.zeroValue3
  t4 := Try.underlying4
  a4 := Try.isAgg4
  z4 := Try.sizeOf4
  v4 := Try.zeroValue4
  tu := Try.underlying91
  au := Try.isAgg91
  zu := Try.sizeOf91
  vu := Try.zeroValue91
  ts := Try.underlying22
  asl := Try.isAgg22
  zs := Try.sizeOf22
  vs := Try.zeroValue22
  tf := Try.underlying78
  af := Try.isAgg78
  zf := Try.sizeOf78
  vf := Try.zeroValue78
  aE := Try.isAgg30
  zE := Try.sizeOf30
theorem ordLen (x : Ord) : (ordC x).length = 6 := rfl
theorem ordOne (x : Ord) : ∀ v ∈ ordC x, v.oneCell' = true := fun v hv => ordT.one x v hv
end Go.Proofs.Ytoachnhdedpbdaa
set_option linter.unusedSimpArgs false
set_option linter.unusedVariables false
namespace Go.Proofs.Ytoachnhdedpbdaa
open Go.RowKit Go.Lib Go.Sort Go.Shelf
variable {P : Program} {α : Type} [Inhabited α]
/-- The first i members of two ranges exchanged. -/
def swr (d : Array α) (a b : Nat) : Nat → Array α
  | 0 => d
  | i + 1 => swp (swr d a b i) (a + i) (b + i)
theorem size_swr (d : Array α) (a b : Nat) : ∀ i, (swr d a b i).size = d.size
  | 0 => rfl
  | i + 1 => by rw [swr, size_swp, size_swr d a b i]
set_option maxHeartbeats 4000000 in
set_option maxRecDepth 1000000 in
theorem swapRange_any (k : Nat) (L : StP P k) (enc : α → List Value) (g off cap a b n : Nat) (d0 d : Array α) (w0 W : World) (f : Value) (R : RowK enc k w0 g off d0) (hs : d0.size = d.size) (S : SWK enc k w0 g off d W) (h1 : a + n ≤ d.size) (h2 : b + n ≤ d.size) (hsz : d.size < 4611686018427387904) :
    Calls P 123 #[.slice (some ⟨g, off, none⟩) d.size cap, .int .i64 a, .int .i64 b, .int .i64 n, f] W fun e w' => e = .returned (.tuple #[]) ∧ SWK enc k w0 g off (swr d a b n) w' := by
  have mixed := L.mixed; have t0 := L.t0; have a0 := L.a0; have z0 := L.z0; have v0 := L.v0; have t3 := L.t3; have a3 := L.a3; have z3 := L.z3; have v3 := L.v3; have t4 := L.t4; have a4 := L.a4; have z4 := L.z4; have v4 := L.v4; have ts := L.ts; have asl := L.asl; have zs := L.zs; have vs := L.vs; have tf := L.tf; have af := L.af; have zf := L.zf; have vf := L.vf; have aE := L.aE; have zE := L.zE
  have S0 : Aside (SWK enc k w0 g off d W) := S
  clear S
  go_enter L.fSwr, Try.ntmps123
  go_wp2_with fail
  go_loopw [10] (fun s wr => ∃ (i : Nat), s = .int .i64 i ∧ i ≤ n ∧ Aside (SWK enc k w0 g off (swr d a b i) wr)) (fun s _ => n - (intOf s).toNat)
  case atStart => exact ⟨0, rfl, by omega, S0⟩
  case round =>
    clear S0
    obtain ⟨i, rfl, hi, S1⟩ := hrel
    by_cases hlt : i < n
    · have hltz : (i : Int) < (n : Int) := by omega
      go_wp2_with fail
      have hsi := size_swr d a b i
      have HNX : Hid (swp (swr d a b i) (a + i) (b + i) = swr d a b (i + 1)) := hid_ rfl
      generalize swr d a b i = dk at S1 hsi HNX
      have ea : ((a : Int) + (i : Int)).toNat = a + i := by omega
      have pa : (0 : Int) ≤ (a : Int) + (i : Int) := by omega
      have ba : (a : Int) + (i : Int) < (d.size : Int) := by omega
      have ra : IntKind.i64.wrap ((a : Int) + (i : Int)) = (a : Int) + (i : Int) := by rw [IntKind.wrap_i64]; omega
      have ec : ((b : Int) + (i : Int)).toNat = b + i := by omega
      have pc : (0 : Int) ≤ (b : Int) + (i : Int) := by omega
      have bc : (b : Int) + (i : Int) < (d.size : Int) := by omega
      have rc : IntKind.i64.wrap ((b : Int) + (i : Int)) = (b : Int) + (i : Int) := by rw [IntKind.wrap_i64]; omega
      have S2 : Aside (SWK enc k w0 g off (swp dk (a + i) (b + i)) ((wr.drew.setCells g (off + (a + i) * k) (enc dk[b + i]!)).setCells g (off + (b + i) * k) (enc dk[a + i]!))) := S1.out.swapped R (a + i) (b + i) (by omega) (by omega)
      have la := S1.out.ld1 R (by omega) P (a + i) (by omega)
      have lb := S1.out.ld1 R (by omega) P (b + i) (by omega)
      have sa := S1.out.st1 R (by omega) P (a + i) (by omega) dk[b + i]!
      have sb := S1.out.st2 R (by omega) P (a + i) (b + i) (by omega) (by omega) dk[b + i]! dk[a + i]!
      have na : (enc dk[a + i]!).length = k := R.hk _
      have nb : (enc dk[b + i]!).length = k := R.hk _
      generalize enc dk[a + i]! = cI at S2 la sb na
      generalize enc dk[b + i]! = cJ at S2 lb sa sb nb
      clear S1
      go_big_region_o
      clear la lb sa sb
      generalize (wr.drew.setCells g (off + (a + i) * k) cJ).setCells g (off + (b + i) * k) cI = w2 at S2 ⊢
      go_wp2
      go_roundw
      case rel => exact ⟨i + 1, by go_num, by omega, by rw [HNX.out] at S2; exact S2⟩
      case measure => simp [intOf]; omega
    · obtain rfl : i = n := by omega
      go_wp2
      go_end0
      exact ⟨rfl, S1.out⟩
end Go.Proofs.Ytoachnhdedpbdaa
set_option linter.unusedSimpArgs false
set_option linter.unusedVariables false
namespace Go.Proofs.Ytoachnhdedpbdaa
open Go.RowKit Go.Lib Go.Sort Go.Shelf
variable {α : Type} [Inhabited α]
theorem swr_get (d : Array α) (a b : Nat) : ∀ (n : Nat), a + n ≤ b → b + n ≤ d.size → ∀ t, (swr d a b n)[t]! = if a ≤ t ∧ t < a + n then d[t - a + b]! else if b ≤ t ∧ t < b + n then d[t - b + a]! else d[t]!
  | 0, _, _, t => by rw [swr, if_neg (by omega), if_neg (by omega)]
  | n + 1, h1, h2, t => by
    have ih := swr_get d a b n (by omega) (by omega)
    have hs := size_swr d a b n
    rw [swr, swp_get _ (by omega) (by omega), ih, ih, ih]
    by_cases e1 : t = b + n
    · subst e1
      simp only [if_true]
      rw [if_neg (by omega), if_neg (by omega), if_neg (by omega), if_pos (by omega)]
      congr 1
      omega
    · by_cases e2 : t = a + n
      · subst e2
        rw [if_neg e1, if_pos rfl, if_neg (by omega), if_neg (by omega), if_pos (by omega)]
        congr 1
        omega
      · rw [if_neg e1, if_neg e2]
        by_cases e3 : a ≤ t ∧ t < a + n
        · rw [if_pos e3, if_pos (show a ≤ t ∧ t < a + (n + 1) by omega)]
        · rw [if_neg e3, if_neg (show ¬ (a ≤ t ∧ t < a + (n + 1)) by omega)]
          by_cases e4 : b ≤ t ∧ t < b + n
          · rw [if_pos e4, if_pos (show b ≤ t ∧ t < b + (n + 1) by omega)]
          · rw [if_neg e4, if_neg (show ¬ (b ≤ t ∧ t < b + (n + 1)) by omega)]
theorem toList_get (d : Array α) (t : Nat) (h : t < d.size) : d.toList[t]? = some d[t]! := by
  rw [getElem!_pos d t h, Array.getElem?_toList, Array.getElem?_eq_getElem h]
theorem get_of_toList (d : Array α) (l : List α) (hd : d.toList = l) (t : Nat) (h : t < l.length) : d[t]! = l[t]! := by
  subst hd
  have h' : t < d.size := by simpa using h
  rw [getElem!_pos d t h', getElem!_pos d.toList t h]
  simp
/-- Two ranges of as many members. -/
theorem swr_toList (d : Array α) (Pf A M B S : List α) (hd : d.toList = Pf ++ (A ++ (M ++ (B ++ S)))) (hl : A.length = B.length) (a b : Nat) (ha : a = Pf.length) (hb : b = Pf.length + A.length + M.length) :
    (swr d a b A.length).toList = Pf ++ (B ++ (M ++ (A ++ S))) := by
  subst ha hb
  have hsz : d.size = Pf.length + (A.length + (M.length + (B.length + S.length))) := by
    rw [← Array.length_toList, hd]
    simp
  apply List.ext_getElem?
  intro t
  by_cases ht : t < d.size
  · rw [toList_get _ t (by rw [size_swr]; exact ht), swr_get d _ _ _ (by omega) (by omega)]
    have get : ∀ u, u < d.size → d[u]! = (Pf ++ (A ++ (M ++ (B ++ S))))[u]! := fun u hu => get_of_toList d _ hd u (by rw [← hd]; simpa using hu)
    have opt : ∀ (l : List α) (u : Nat), u < l.length → some l[u]! = l[u]? := fun l u hu => by rw [getElem!_pos l u hu, List.getElem?_eq_getElem hu]
    by_cases e1 : Pf.length ≤ t ∧ t < Pf.length + A.length
    · rw [if_pos e1, get _ (by omega), opt _ _ (by simp; omega)]
      rw [List.getElem?_append_right (by omega), List.getElem?_append_right (by omega), List.getElem?_append_right (by omega), List.getElem?_append_left (by omega)]
      rw [List.getElem?_append_right (by omega), List.getElem?_append_left (by omega)]
      congr 1
      omega
    · rw [if_neg e1]
      by_cases e2 : Pf.length + A.length + M.length ≤ t ∧ t < Pf.length + A.length + M.length + A.length
      · rw [if_pos e2, get _ (by omega), opt _ _ (by simp; omega)]
        rw [List.getElem?_append_right (by omega), List.getElem?_append_left (by omega)]
        rw [List.getElem?_append_right (by omega), List.getElem?_append_right (by omega), List.getElem?_append_right (by omega), List.getElem?_append_left (by omega)]
        congr 1
        omega
      · rw [if_neg e2, get _ ht, opt _ _ (by simp; omega)]
        by_cases e3 : t < Pf.length
        · rw [List.getElem?_append_left e3, List.getElem?_append_left e3]
        · obtain ⟨u, rfl⟩ : ∃ u, t = Pf.length + u := ⟨t - Pf.length, by omega⟩
          have e1' : A.length ≤ u := by omega
          rw [List.getElem?_append_right (show Pf.length ≤ Pf.length + u by omega) (l₂ := A ++ (M ++ (B ++ S))), List.getElem?_append_right (show Pf.length ≤ Pf.length + u by omega) (l₂ := B ++ (M ++ (A ++ S))), Nat.add_sub_cancel_left]
          rw [List.getElem?_append_right e1', List.getElem?_append_right (show B.length ≤ u by omega)]
          obtain ⟨x, rfl⟩ : ∃ x, u = A.length + x := ⟨u - A.length, by omega⟩
          rw [show A.length + x - B.length = x by omega, Nat.add_sub_cancel_left]
          by_cases e4 : x < M.length
          · rw [List.getElem?_append_left e4, List.getElem?_append_left e4]
          · rw [List.getElem?_append_right (show M.length ≤ x by omega), List.getElem?_append_right (show M.length ≤ x by omega)]
            rw [List.getElem?_append_right (show B.length ≤ x - M.length by omega), List.getElem?_append_right (show A.length ≤ x - M.length by omega), hl]
  · rw [List.getElem?_eq_none (by simp [size_swr]; omega), List.getElem?_eq_none (by simp; omega)]
end Go.Proofs.Ytoachnhdedpbdaa
set_option linter.unusedSimpArgs false
set_option linter.unusedVariables false
namespace Go.Proofs.Ytoachnhdedpbdaa
open Go.RowKit Go.Lib Go.Sort Go.Shelf
variable {P : Program} {α : Type} [Inhabited α]
theorem swrEnters {k : Nat} (L : StP P k) : Enters P 123 := enters_of L.fSwr (by kernel_rfl) rfl
/-- What is left to turn: L and R, behind Pf, ahead of Sf; when they are exchanged, F is done. -/
def RotI (F : List α) (m i j : Nat) (d : Array α) : Prop := ∃ Pf L R Sf, d.toList = Pf ++ (L ++ (R ++ Sf)) ∧ L.length = i ∧ R.length = j ∧ Pf.length + i = m ∧ Pf ++ (R ++ (L ++ Sf)) = F
omit [Inhabited α] in
theorem RotI.bnd {F : List α} {m i j : Nat} {d : Array α} (h : RotI F m i j d) : i ≤ m ∧ m + j ≤ d.size := by
  obtain ⟨Pf, L, R, Sf, h1, h2, h3, h4, h5⟩ := h
  have : d.size = Pf.length + (L.length + (R.length + Sf.length)) := by rw [← Array.length_toList, h1]; simp
  omega
omit [Inhabited α] in
theorem cutAt (l : List α) (k : Nat) (h : k ≤ l.length) : ∃ a b, l = a ++ b ∧ a.length = k ∧ b.length = l.length - k :=
  ⟨l.take k, l.drop k, (List.take_append_drop k l).symm, by rw [List.length_take]; omega, by rw [List.length_drop]⟩
theorem RotI.more {F : List α} {m i j : Nat} {d : Array α} (h : RotI F m i j d) (hij : j < i) : RotI F m (i - j) j (swr d (m - i) m j) := by
  obtain ⟨Pf, L, R, Sf, h1, h2, h3, h4, h5⟩ := h
  obtain ⟨L1, L2, rfl, l1, l2⟩ := cutAt L j (by omega)
  have hsw := swr_toList d Pf L1 L2 R Sf (by rw [h1]; simp) (by omega) (m - i) m (by omega) (by omega)
  rw [l1] at hsw
  exact ⟨Pf ++ R, L2, L1, Sf, by rw [hsw]; simp, by omega, l1, by rw [List.length_append]; omega, by rw [← h5]; simp⟩
theorem RotI.less {F : List α} {m i j : Nat} {d : Array α} (h : RotI F m i j d) (hij : i < j) : RotI F m i (j - i) (swr d (m - i) (m + j - i) i) := by
  obtain ⟨Pf, L, R, Sf, h1, h2, h3, h4, h5⟩ := h
  obtain ⟨R1, R2, rfl, l1, l2⟩ := cutAt R (j - i) (by omega)
  have hsw := swr_toList d Pf L R1 R2 Sf (by rw [h1]; simp) (by omega) (m - i) (m + j - i) (by omega) (by omega)
  rw [h2] at hsw
  exact ⟨Pf, R2, R1, L ++ Sf, by rw [hsw], by omega, l1, h4, by rw [← h5]; simp⟩
theorem RotI.last {F : List α} {m i : Nat} {d : Array α} (h : RotI F m i i d) : (swr d (m - i) m i).toList = F := by
  obtain ⟨Pf, L, R, Sf, h1, h2, h3, h4, h5⟩ := h
  have hsw := swr_toList d Pf L [] R Sf (by rw [h1]; simp) (by rw [h2, h3]) (m - i) m (by omega) (by simp; omega)
  rw [h2] at hsw
  rw [hsw, ← h5]
  simp
set_option maxHeartbeats 4000000 in
set_option maxRecDepth 1000000 in
theorem rotate_any (k : Nat) (L : StP P k) (enc : α → List Value) (g off cap a m b : Nat) (d0 d : Array α) (w0 W : World) (f : Value) (R : RowK enc k w0 g off d0) (hs : d0.size = d.size) (S : SWK enc k w0 g off d W) (F : List α) (hI : RotI F m (m - a) (b - m) d) (h1 : a < m) (h2 : m < b) (hsz : d.size < 4611686018427387904) :
    Calls P 117 #[.slice (some ⟨g, off, none⟩) d.size cap, .int .i64 a, .int .i64 m, .int .i64 b, f] W fun e w' => e = .returned (.tuple #[]) ∧ ∃ d', SWK enc k w0 g off d' w' ∧ d'.size = d.size ∧ d'.toList = F := by
  have mixed := L.mixed; have t0 := L.t0; have a0 := L.a0; have z0 := L.z0; have v0 := L.v0; have t3 := L.t3; have a3 := L.a3; have z3 := L.z3; have v3 := L.v3; have t4 := L.t4; have a4 := L.a4; have z4 := L.z4; have v4 := L.v4; have ts := L.ts; have asl := L.asl; have zs := L.zs; have vs := L.vs; have tf := L.tf; have af := L.af; have zf := L.zf; have vf := L.vf; have aE := L.aE; have zE := L.zE
  have en : ∀ args w, (callFunc 123 args).run P w = .ok (.enter 123 args) w := swrEnters L
  have S0 : Aside (SWK enc k w0 g off d W) := S
  have I0 : Hid (RotI F m (m - a) (b - m) d) := hid_ hI
  have hb := hI.bnd
  clear S hI
  have e1 : (m : Int) - (a : Int) = ((m - a : Nat) : Int) := by omega
  have e2 : (b : Int) - (m : Int) = ((b - m : Nat) : Int) := by omega
  go_enter L.fRot, Try.ntmps117
  go_wp2_with fail
  go_loopw [10, 11] (fun s t wr => ∃ (i j : Nat) (dk : Array α), s = .int .i64 i ∧ t = .int .i64 j ∧ 0 < i ∧ 0 < j ∧ i ≤ m ∧ m + j ≤ d.size ∧ dk.size = d.size ∧ Hid (RotI F m i j dk) ∧ Aside (SWK enc k w0 g off dk wr)) (fun s t _ => (intOf s).toNat + (intOf t).toNat)
  case atStart => exact ⟨m - a, b - m, d, rfl, rfl, by omega, by omega, by omega, by omega, rfl, I0, S0⟩
  case round =>
    clear S0 I0 e1 e2 hb
    obtain ⟨i, j, dk, rfl, rfl, hi0, hj0, him, hmj, hds, I1, S1⟩ := hrel
    by_cases hij : i = j
    · subst hij
      have q : ((i : Int) != (i : Int)) = false := by simp
      have w1 : IntKind.i64.wrap ((m : Int) - (i : Int)) = ((m - i : Nat) : Int) := by rw [IntKind.wrap_i64]; omega
      have hcall := swapRange_any k L enc g off cap (m - i) m i d0 dk w0 wr f R (by omega) S1.out (by omega) (by omega) (by omega)
      rw [hds] at hcall
      go_wp2_with fail
      refine hcall.mono ?_
      rintro e w2 ⟨rfl, S2⟩
      have HS := hid_ S2
      have HL := hid_ I1.out.last
      clear S2 S1 I1 hcall
      go_wp2
      go_end0
      exact ⟨rfl, _, HS.out, by rw [size_swr]; exact hds, HL.out⟩
    · have q : ((i : Int) != (j : Int)) = true := by simp; omega
      rcases Nat.lt_or_ge j i with hlt | hge
      · have hz : (j : Int) < (i : Int) := by omega
        have w1 : IntKind.i64.wrap ((m : Int) - (i : Int)) = ((m - i : Nat) : Int) := by rw [IntKind.wrap_i64]; omega
        have w2 : IntKind.i64.wrap ((i : Int) - (j : Int)) = ((i - j : Nat) : Int) := by rw [IntKind.wrap_i64]; omega
        have hcall := swapRange_any k L enc g off cap (m - i) m j d0 dk w0 wr f R (by omega) S1.out (by omega) (by omega) (by omega)
        rw [hds] at hcall
        go_wp2_with fail
        refine hcall.mono ?_
        rintro e w2 ⟨rfl, S2⟩
        have HS : Aside (SWK enc k w0 g off (swr dk (m - i) m j) w2) := S2
        have HL := hid_ (I1.out.more hlt)
        clear S2 S1 I1 hcall
        go_wp2
        go_roundw
        case rel => exact ⟨i - j, j, _, by go_num, rfl, by omega, by omega, by omega, by omega, by rw [size_swr]; exact hds, HL, HS⟩
        case measure => simp [intOf]; omega
      · have hz : ¬ (j : Int) < (i : Int) := by omega
        have w1 : IntKind.i64.wrap ((m : Int) - (i : Int)) = ((m - i : Nat) : Int) := by rw [IntKind.wrap_i64]; omega
        have w2 : IntKind.i64.wrap ((j : Int) - (i : Int)) = ((j - i : Nat) : Int) := by rw [IntKind.wrap_i64]; omega
        have w3 : IntKind.i64.wrap ((m : Int) + (j : Int)) = ((m + j : Nat) : Int) := by rw [IntKind.wrap_i64]; omega
        have w4 : IntKind.i64.wrap ((m : Int) + (j : Int) - (i : Int)) = ((m + j - i : Nat) : Int) := by rw [IntKind.wrap_i64]; omega
        have w5 : (m : Int) + (j : Int) - (i : Int) = ((m + j - i : Nat) : Int) := by omega
        have hcall := swapRange_any k L enc g off cap (m - i) (m + j - i) i d0 dk w0 wr f R (by omega) S1.out (by omega) (by omega) (by omega)
        rw [hds] at hcall
        go_wp2_with fail
        refine hcall.mono ?_
        rintro e w2 ⟨rfl, S2⟩
        have HS : Aside (SWK enc k w0 g off (swr dk (m - i) (m + j - i) i) w2) := S2
        have HL := hid_ (I1.out.less (show i < j by omega))
        clear S2 S1 I1 hcall
        go_wp2
        go_roundw
        case rel => exact ⟨i, j - i, _, rfl, by go_num, by omega, by omega, by omega, by omega, by rw [size_swr]; exact hds, HL, HS⟩
        case measure => simp [intOf]; omega
end Go.Proofs.Ytoachnhdedpbdaa
set_option linter.unusedSimpArgs false
set_option linter.unusedVariables false
set_option linter.unusedSectionVars false
namespace Go.Proofs.Ytoachnhdedpbdaa
open Go.RowKit Go.Lib Go.Sort Go.Shelf
variable {α : Type} [Inhabited α]
/-- In order: none is less than one ahead of it. -/
def Asc (lt : α → α → Bool) (l : List α) : Prop := l.Pairwise fun x y => lt y x = false
def mrg (lt : α → α → Bool) : List α → List α → List α
  | [], ys => ys
  | x :: xs, [] => x :: xs
  | x :: xs, y :: ys => if lt y x then y :: mrg lt (x :: xs) ys else x :: mrg lt xs (y :: ys)
termination_by xs ys => xs.length + ys.length
theorem mrg_nil (lt : α → α → Bool) (ys : List α) : mrg lt [] ys = ys := by unfold mrg; rfl
theorem mrg_right (lt : α → α → Bool) : ∀ xs : List α, mrg lt xs [] = xs
  | [] => by unfold mrg; rfl
  | x :: xs => by unfold mrg; rfl
theorem mrg_yes {lt : α → α → Bool} {x y : α} (xs ys : List α) (h : lt y x = true) : mrg lt (x :: xs) (y :: ys) = y :: mrg lt (x :: xs) ys := by
  conv => lhs; unfold mrg
  rw [if_pos h]
theorem mrg_no {lt : α → α → Bool} {x y : α} (xs ys : List α) (h : lt y x = false) : mrg lt (x :: xs) (y :: ys) = x :: mrg lt xs (y :: ys) := by
  conv => lhs; unfold mrg
  rw [if_neg (by rw [h]; decide)]
theorem mrg_split (lt : α → α → Bool) (X2 Y2 : List α) : ∀ (X1 Y1 : List α), (∀ x ∈ X1, ∀ y ∈ Y2, lt y x = false) → (∀ x ∈ X2, ∀ y ∈ Y1, lt y x = true) → mrg lt (X1 ++ X2) (Y1 ++ Y2) = mrg lt X1 Y1 ++ mrg lt X2 Y2
  | [], [], _, _ => by simp [mrg_nil]
  | [], y :: Y1, ha, hb => by
    have ih := mrg_split lt X2 Y2 [] Y1 (fun x hx => by simp at hx) (fun x hx y hy => hb x hx y (List.mem_cons_of_mem _ hy))
    rw [mrg_nil, List.nil_append] at ih ⊢
    cases X2 with
    | nil => simp [mrg_nil]
    | cons x X2 =>
      rw [List.cons_append, mrg_yes _ _ (hb x (List.mem_cons_self ..) y (List.mem_cons_self ..)), ih]
      simp
  | x :: X1, [], ha, hb => by
    have ih := mrg_split lt X2 Y2 X1 [] (fun x hx y hy => ha x (List.mem_cons_of_mem _ hx) y hy) (fun x hx y hy => by simp at hy)
    rw [mrg_right, List.nil_append] at ih ⊢
    cases Y2 with
    | nil => simp [mrg_right]
    | cons y Y2 =>
      rw [List.cons_append, mrg_no _ _ (ha x (List.mem_cons_self ..) y (List.mem_cons_self ..)), ih]
      simp
  | x :: X1, y :: Y1, ha, hb => by
    cases h : lt y x with
    | true =>
      have ih := mrg_split lt X2 Y2 (x :: X1) Y1 ha (fun x hx y hy => hb x hx y (List.mem_cons_of_mem _ hy))
      rw [List.cons_append, List.cons_append, mrg_yes _ _ h, mrg_yes _ _ h]
      rw [List.cons_append] at ih
      rw [ih, List.cons_append]
    | false =>
      have ih := mrg_split lt X2 Y2 X1 (y :: Y1) (fun x hx y hy => ha x (List.mem_cons_of_mem _ hx) y hy) hb
      rw [List.cons_append, List.cons_append, mrg_no _ _ h, mrg_no _ _ h]
      rw [List.cons_append] at ih
      rw [ih, List.cons_append]
termination_by X1 Y1 => X1.length + Y1.length
theorem swo_le {lt : α → α → Bool} (hO : SWO lt) {u v w : α} (h1 : lt u v = true) (h2 : lt u w = false) : lt w v = true := by
  cases h : lt w v with
  | true => rfl
  | false => have := hO.ntrans u w v h2 h; rw [h1] at this; cases this
theorem swo_ge {lt : α → α → Bool} (hO : SWO lt) {e s c : α} (h1 : lt e s = true) (h2 : lt c s = false) : lt e c = true := by
  cases h : lt e c with
  | true => rfl
  | false => have := hO.ntrans e c s h h2; rw [h1] at this; cases this
theorem Asc.le {lt : α → α → Bool} (hO : SWO lt) {l : List α} (h : Asc lt l) {i j : Nat} (hij : i ≤ j) (hj : j < l.length) : lt l[j]! l[i]! = false := by
  rcases Nat.eq_or_lt_of_le hij with rfl | hlt
  · exact hO.irrefl _
  · have := List.pairwise_iff_getElem.1 h i j (by omega) hj hlt
    rw [getElem!_pos l i (by omega), getElem!_pos l j hj]
    exact this
theorem mem_at {l : List α} {x : α} (h : x ∈ l) : ∃ i, i < l.length ∧ x = l[i]! := by
  obtain ⟨i, hi, e⟩ := List.getElem_of_mem h
  exact ⟨i, hi, by rw [getElem!_pos l i hi, e]⟩
theorem take_at (l : List α) (k i : Nat) (h : i < (l.take k).length) : (l.take k)[i]! = l[i]! := by
  rw [List.length_take] at h
  rw [getElem!_pos _ i (by rw [List.length_take]; exact h), getElem!_pos l i (by omega), List.getElem_take]
theorem drop_at (l : List α) (k i : Nat) (h : i < (l.drop k).length) : (l.drop k)[i]! = l[k + i]! := by
  rw [List.length_drop] at h
  rw [getElem!_pos _ i (by rw [List.length_drop]; exact h), getElem!_pos l (k + i) (by omega), List.getElem_drop]
/-- Cut at u of the left one, at v of the right one. -/
theorem mrg_cut {lt : α → α → Bool} (hO : SWO lt) {X Y : List α} (hX : Asc lt X) (hY : Asc lt Y) (u v : Nat) (hu : u ≤ X.length) (hv : v ≤ Y.length)
    (ha : u = 0 ∨ v = Y.length ∨ lt Y[v]! X[u - 1]! = false) (hb : u = X.length ∨ v = 0 ∨ lt Y[v - 1]! X[u]! = true) :
    mrg lt X Y = mrg lt (X.take u) (Y.take v) ++ mrg lt (X.drop u) (Y.drop v) := by
  conv => lhs; rw [← List.take_append_drop u X, ← List.take_append_drop v Y]
  refine mrg_split lt _ _ _ _ (fun x hx y hy => ?_) (fun x hx y hy => ?_)
  · obtain ⟨i, hi, rfl⟩ := mem_at hx
    obtain ⟨j, hj, rfl⟩ := mem_at hy
    rw [take_at X u i hi, drop_at Y v j hj]
    rw [List.length_take] at hi
    rw [List.length_drop] at hj
    rcases ha with h | h | h
    · omega
    · omega
    · have h1 := hY.le hO (show v ≤ v + j by omega) (by omega)
      have h2 := hX.le hO (show i ≤ u - 1 by omega) (by omega)
      exact hO.ntrans _ _ _ (hO.ntrans _ _ _ h1 h) h2
  · obtain ⟨i, hi, rfl⟩ := mem_at hx
    obtain ⟨j, hj, rfl⟩ := mem_at hy
    rw [drop_at X u i hi, take_at Y v j hj]
    rw [List.length_drop] at hi
    rw [List.length_take] at hj
    rcases hb with h | h | h
    · omega
    · omega
    · have h1 := hY.le hO (show j ≤ v - 1 by omega) (by omega)
      have h2 := hX.le hO (show u ≤ u + i by omega) (by omega)
      exact swo_ge hO (swo_le hO h h1) h2
theorem mrg_one {lt : α → α → Bool} (hO : SWO lt) {x : α} {Y : List α} (hY : Asc lt Y) (v : Nat) (hv : v ≤ Y.length) (ha : v = Y.length ∨ lt Y[v]! x = false) (hb : v = 0 ∨ lt Y[v - 1]! x = true) :
    mrg lt [x] Y = Y.take v ++ (x :: Y.drop v) := by
  have hX : Asc lt [x] := List.pairwise_singleton _ _
  have h1 := mrg_cut hO hX hY 0 v (by omega) hv (.inl rfl) (by rcases hb with h | h; exact .inr (.inl h); exact .inr (.inr h))
  have hYd : Asc lt (Y.drop v) := List.Pairwise.sublist (List.drop_sublist _ _) hY
  have h2 := mrg_cut hO hX hYd 1 0 (by simp) (by omega) (by
    rcases ha with h | h
    · exact .inr (.inl (by rw [List.length_drop]; omega))
    · rcases Nat.lt_or_ge v Y.length with hl | hl
      · refine .inr (.inr ?_)
        rw [drop_at Y v 0 (by rw [List.length_drop]; omega)]
        exact h
      · exact .inr (.inl (by rw [List.length_drop]; omega))) (.inl rfl)
  rw [h1, List.take_zero, List.drop_zero, mrg_nil, h2, List.take_zero, mrg_right, List.drop_zero]
  simp [mrg_nil]
theorem mrg_last {lt : α → α → Bool} (hO : SWO lt) {y : α} {X : List α} (hX : Asc lt X) (u : Nat) (hu : u ≤ X.length) (ha : u = 0 ∨ lt y X[u - 1]! = false) (hb : u = X.length ∨ lt y X[u]! = true) :
    mrg lt X [y] = X.take u ++ (y :: X.drop u) := by
  have hY : Asc lt [y] := List.pairwise_singleton _ _
  have h1 := mrg_cut hO hX hY u 0 hu (by omega) (by rcases ha with h | h; exact .inl h; exact .inr (.inr h)) (.inr (.inl rfl))
  have hXd : Asc lt (X.drop u) := List.Pairwise.sublist (List.drop_sublist _ _) hX
  have h2 := mrg_cut hO hXd hY 0 1 (by omega) (by simp) (.inl rfl) (by
    rcases hb with h | h
    · exact .inl (by rw [List.length_drop]; omega)
    · rcases Nat.lt_or_ge u X.length with hl | hl
      · refine .inr (.inr ?_)
        rw [drop_at X u 0 (by rw [List.length_drop]; omega)]
        exact h
      · exact .inl (by rw [List.length_drop]; omega))
  rw [h1, List.take_zero, mrg_right, List.drop_zero, h2]
  simp [mrg_nil, mrg_right]
end Go.Proofs.Ytoachnhdedpbdaa
set_option linter.unusedSimpArgs false
set_option linter.unusedVariables false
set_option linter.unusedSectionVars false
namespace Go.Proofs.Ytoachnhdedpbdaa
open Go.RowKit Go.Lib Go.Sort Go.Shelf
variable {P : Program} {α : Type} [Inhabited α]
theorem atX {d : Array α} {Pf X Y Sf : List α} (h : d.toList = Pf ++ (X ++ (Y ++ Sf))) (t : Nat) (ht : t < X.length) (u : Nat) (hu : u = Pf.length + t) : d[u]! = X[t]! := by
  subst hu
  rw [get_of_toList d _ h _ (by simp; omega), getElem!_pos _ _ (by simp; omega), getElem!_pos X t ht]
  rw [List.getElem_append_right (by omega), List.getElem_append_left (by omega)]
  congr 1
  omega
theorem atY {d : Array α} {Pf X Y Sf : List α} (h : d.toList = Pf ++ (X ++ (Y ++ Sf))) (t : Nat) (ht : t < Y.length) (u : Nat) (hu : u = Pf.length + X.length + t) : d[u]! = Y[t]! := by
  have h' : d.toList = (Pf ++ X) ++ (Y ++ (Sf ++ [])) := by rw [h]; simp
  refine atX h' t ht u ?_
  rw [List.length_append]
  exact hu
theorem swp_next {d : Array α} {Pf : List α} {x y : α} {Sf : List α} (h : d.toList = Pf ++ (x :: y :: Sf)) (i j : Nat) (hi : i = Pf.length) (hj : j = Pf.length + 1) : (swp d i j).toList = Pf ++ (y :: x :: Sf) :=
  swr_toList d Pf [x] [] [y] Sf (by rw [h]; rfl) rfl i j hi (by rw [hj]; rfl)
theorem size_of {d : Array α} {Pf X Y Sf : List α} (h : d.toList = Pf ++ (X ++ (Y ++ Sf))) : d.size = Pf.length + (X.length + (Y.length + Sf.length)) := by
  rw [← Array.length_toList, h]
  simp
/-- Till k the one has gone up through the right list. -/
def UpI (Pf : List α) (x : α) (Y Sf : List α) (v : Nat) (d : Array α) : Prop := d.toList = Pf ++ (Y.take v ++ (x :: (Y.drop v ++ Sf)))
theorem UpI.next {Pf : List α} {x : α} {Y Sf : List α} {v : Nat} {d : Array α} (h : UpI Pf x Y Sf v d) (hv : v < Y.length) (i j : Nat) (hi : i = Pf.length + v) (hj : j = i + 1) : UpI Pf x Y Sf (v + 1) (swp d i j) := by
  unfold UpI at h ⊢
  have e : Y.drop v = Y[v] :: Y.drop (v + 1) := List.drop_eq_getElem_cons hv
  rw [e, ← List.append_assoc, List.cons_append] at h
  have := swp_next h i j (by rw [List.length_append, List.length_take]; omega) (by rw [List.length_append, List.length_take]; omega)
  rw [this, List.take_succ_eq_append_getElem hv, List.append_assoc, List.append_assoc]
  rfl
set_option maxHeartbeats 8000000 in
set_option maxRecDepth 1000000 in
theorem sym_left (k : Nat) (L : StP P k) (enc : α → List Value) (cf : α → α → Int) (hO : SWO (ltOf cf)) (gc : Nat) (cb : Array Value) (g off cap a m b : Nat) (d0 d : Array α) (w0 W : World) (eg : ∀ args w, (callFunc gc args).run P w = .ok (.enter gc args) w) (hcmp : CmpLays P gc cb enc k cf g off d0.size w0) (R : RowK enc k w0 g off d0) (hs : d0.size = d.size) (S : SWK enc k w0 g off d W) (Pf : List α) (x : α) (Y Sf : List α) (hd : d.toList = Pf ++ ([x] ++ (Y ++ Sf))) (ha : a = Pf.length) (h1 : m = a + 1) (h2 : m < b) (hb : b = m + Y.length) (hY : Asc (ltOf cf) Y) (hsz : d.size < 4611686018427387904) :
    Calls P 109 #[.slice (some ⟨g, off, none⟩) d.size cap, .int .i64 a, .int .i64 m, .int .i64 b, .func (.func gc) #[] cb] W fun e w' => e = .returned (.tuple #[]) ∧ ∃ d', SWK enc k w0 g off d' w' ∧ d'.size = d.size ∧ d'.toList = Pf ++ (mrg (ltOf cf) [x] Y ++ Sf) := by
  have mixed := L.mixed; have t0 := L.t0; have a0 := L.a0; have z0 := L.z0; have v0 := L.v0; have t3 := L.t3; have a3 := L.a3; have z3 := L.z3; have v3 := L.v3; have t4 := L.t4; have a4 := L.a4; have z4 := L.z4; have v4 := L.v4; have tu := L.tu; have au := L.au; have zu := L.zu; have vu := L.vu; have ts := L.ts; have asl := L.asl; have zs := L.zs; have vs := L.vs; have tf := L.tf; have af := L.af; have zf := L.zf; have vf := L.vf; have aE := L.aE; have zE := L.zE
  have HC : Aside _ := hcmp
  have S0 : Aside (SWK enc k w0 g off d W) := S
  have hsd := size_of hd
  simp only [List.length_singleton] at hsd
  have h3 : b ≤ d.size := by omega
  have D0 : Hid (d.toList = Pf ++ ([x] ++ (Y ++ Sf))) := hid_ hd
  have LA := hid_ ha
  have LB := hid_ hb
  have HY := hid_ hY
  have h1a : a < m := by omega
  have q1 : ((m : Int) - (a : Int) == 1) = true := by simp; omega
  have q2 : (m : Int) - (a : Int) = 1 := by omega
  have H1 := hid_ h1
  clear hcmp S hd hsd ha hb hY h1
  go_enter L.fSym, Try.ntmps109
  go_wp2_with fail
  go_loopw [10, 11] (fun s t wr => ∃ (i j : Nat), s = .int .i64 i ∧ t = .int .i64 j ∧ m ≤ i ∧ i ≤ j ∧ j ≤ b ∧ Hid ((m < i → ltOf cf d[i - 1]! d[a]! = true) ∧ (j < b → ltOf cf d[j]! d[a]! = false)) ∧ Aside (SWK enc k w0 g off d wr)) (fun s t _ => (intOf t).toNat - (intOf s).toNat)
  case atStart => exact ⟨m, b, rfl, rfl, by omega, by omega, by omega, hid_ ⟨fun h => absurd h (by omega), fun h => absurd h (by omega)⟩, S0⟩
  case round =>
    clear S0
    obtain ⟨i, j, rfl, rfl, hmi, hij, hjb, HI, S1⟩ := hrel
    by_cases hlt : i < j
    · have hltz : (i : Int) < (j : Int) := by omega
      obtain ⟨h, hh⟩ : ∃ h, h = (i + j) / 2 := ⟨_, rfl⟩
      have eh : ((i : Int) + (j : Int)) / 2 = (h : Int) := by omega
      have b1 : i ≤ h := by omega
      have b2 : h < j := by omega
      have wh : IntKind.i64.wrap ((h : Int) + 1) = ((h + 1 : Nat) : Int) := by rw [IntKind.wrap_i64]; omega
      clear hh
      go_upto_region 5 with (fail)
      clear eh
      cases hlv : ltOf cf d[h]! d[a]! with
      | true =>
        have HI2 : Hid ((m < h + 1 → ltOf cf d[h + 1 - 1]! d[a]! = true) ∧ (j < b → ltOf cf d[j]! d[a]! = false)) := hid_ ⟨fun _ => by rw [Nat.add_sub_cancel]; exact hlv, HI.out.2⟩
        clear HI
        have e1a : ((h : Int)).toNat = h := by omega
        have p1a : (0 : Int) ≤ (h : Int) := by omega
        have b1a : (h : Int) < (d.size : Int) := by omega
        have r1a : IntKind.i64.wrap ((h : Int)) = (h : Int) := by rw [IntKind.wrap_i64]; omega
        have e1c : ((a : Int)).toNat = a := by omega
        have p1c : (0 : Int) ≤ (a : Int) := by omega
        have b1c : (a : Int) < (d.size : Int) := by omega
        have r1c : IntKind.i64.wrap ((a : Int)) = (a : Int) := by rw [IntKind.wrap_i64]; omega
        obtain ⟨x1, hx1⟩ : ∃ x, x = d[h]! := ⟨_, rfl⟩
        obtain ⟨y1, hy1⟩ : ∃ x, x = d[a]! := ⟨_, rfl⟩
        have l1a := S1.out.ld R (by omega) P (h) (by omega)
        have l1b := S1.out.ld R (by omega) P (a) (by omega)
        rw [← hx1] at l1a
        rw [← hy1] at l1b
        have hc1 := S1.out.cmp HC.out (by omega) x1 y1
        have hv1 : cf x1 y1 < 0 := by rw [hx1, hy1]; exact of_decide_eq_true hlv
        have hd1 : decide (cf x1 y1 < 0) = true := decide_eq_true hv1
        clear hx1 hy1
        go_quiet_grown (first | (go_at_fn gc; refine Calls.grown_of (hc1 _ _)))
        have S2 : Aside (SWK enc k w0 g off d (grow (wr.drewN nq) osq)) := S1.out.grown nq osq
        clear l1a l1b hc1 S1
        generalize grow (wr.drewN nq) osq = w2 at S2 ⊢
        clear nq osq
        go_wp2
        go_roundw
        case rel => exact ⟨h + 1, j, by go_num, rfl, by omega, by omega, by omega, HI2, S2⟩
        case measure => simp [intOf]; omega
      | false =>
        have HI2 : Hid ((m < i → ltOf cf d[i - 1]! d[a]! = true) ∧ (h < b → ltOf cf d[h]! d[a]! = false)) := hid_ ⟨HI.out.1, fun _ => hlv⟩
        clear HI
        have e1a : ((h : Int)).toNat = h := by omega
        have p1a : (0 : Int) ≤ (h : Int) := by omega
        have b1a : (h : Int) < (d.size : Int) := by omega
        have r1a : IntKind.i64.wrap ((h : Int)) = (h : Int) := by rw [IntKind.wrap_i64]; omega
        have e1c : ((a : Int)).toNat = a := by omega
        have p1c : (0 : Int) ≤ (a : Int) := by omega
        have b1c : (a : Int) < (d.size : Int) := by omega
        have r1c : IntKind.i64.wrap ((a : Int)) = (a : Int) := by rw [IntKind.wrap_i64]; omega
        obtain ⟨x1, hx1⟩ : ∃ x, x = d[h]! := ⟨_, rfl⟩
        obtain ⟨y1, hy1⟩ : ∃ x, x = d[a]! := ⟨_, rfl⟩
        have l1a := S1.out.ld R (by omega) P (h) (by omega)
        have l1b := S1.out.ld R (by omega) P (a) (by omega)
        rw [← hx1] at l1a
        rw [← hy1] at l1b
        have hc1 := S1.out.cmp HC.out (by omega) x1 y1
        have hv1 : ¬ cf x1 y1 < 0 := by rw [hx1, hy1]; exact of_decide_eq_false hlv
        have hd1 : decide (cf x1 y1 < 0) = false := decide_eq_false hv1
        clear hx1 hy1
        go_quiet_grown (first | (go_at_fn gc; refine Calls.grown_of (hc1 _ _)))
        have S2 : Aside (SWK enc k w0 g off d (grow (wr.drewN nq) osq)) := S1.out.grown nq osq
        clear l1a l1b hc1 S1
        generalize grow (wr.drewN nq) osq = w2 at S2 ⊢
        clear nq osq
        go_wp2
        go_roundw
        case rel => exact ⟨i, h, rfl, rfl, by omega, by omega, by omega, HI2, S2⟩
        case measure => simp [intOf]; omega
    · obtain rfl : i = j := by omega
      have HM : Hid (mrg (ltOf cf) [x] Y = Y.take (i - m) ++ (x :: Y.drop (i - m))) := hid_ (by
        have hax : d[a]! = x := atX D0.out 0 (by simp) a (by rw [LA.out, Nat.add_zero])
        have hI := HI.out
        rw [hax] at hI
        have hLA := LA.out
        have hLB := LB.out
        have h1 := H1.out
        refine mrg_one hO HY.out (i - m) (by omega) ?_ ?_
        · rcases Nat.lt_or_ge i b with h | h
          · refine .inr ?_
            rw [← atY D0.out (i - m) (by omega) i (by simp only [List.length_singleton]; omega)]
            exact hI.2 h
          · exact .inl (by omega)
        · rcases Nat.lt_or_ge m i with h | h
          · refine .inr ?_
            rw [← atY D0.out (i - m - 1) (by omega) (i - 1) (by simp only [List.length_singleton]; omega)]
            exact hI.1 h
          · exact .inl (by omega))
      have U0 : Hid (UpI Pf x Y Sf 0 d) := hid_ (by have := D0.out; simpa [UpI] using this)
      have hwi : IntKind.i64.wrap ((i : Int) - 1) = ((i - 1 : Nat) : Int) := by rw [IntKind.wrap_i64]; omega
      have hz3 : (i : Int) - 1 = ((i - 1 : Nat) : Int) := by omega
      clear HI D0 HY
      go_wp2_with fail
      go_loopw [13] (fun s wr => ∃ (v : Nat) (dk : Array α), s = .int .i64 ((a + v : Nat) : Int) ∧ v ≤ i - m ∧ dk.size = d.size ∧ Hid (UpI Pf x Y Sf v dk) ∧ Aside (SWK enc k w0 g off dk wr)) (fun s _ => i - (intOf s).toNat)
      case atStart => exact ⟨0, d, by simp, by omega, rfl, U0, S1⟩
      case round =>
        clear S1 U0
        obtain ⟨v, dk, rfl, hv, hds, U1, S1⟩ := hrel
        obtain ⟨c, hc⟩ : ∃ c, c = a + v := ⟨_, rfl⟩
        rw [← hc]
        have HCV := hid_ hc
        have hca : a ≤ c := by omega
        have hcv : c - a = v := by omega
        have HCW := hid_ hcv
        clear hc hcv
        by_cases hlt2 : c < i - 1
        · have hltz : (c : Int) < ((i - 1 : Nat) : Int) := by omega
          have HU : Hid (UpI Pf x Y Sf (v + 1) (swp dk c (c + 1))) := hid_ (U1.out.next (by have := LB.out; have := HCV.out; have := H1.out; omega) c (c + 1) (by rw [HCV.out, LA.out]) rfl)
          have hw2 : IntKind.i64.wrap ((c : Int) + 1) = (c : Int) + 1 := by rw [IntKind.wrap_i64]; omega
          clear U1 hz3 hwi
          go_upto_region 11 with (fail)
          have e2a : ((c : Int)).toNat = c := by omega
          have p2a : (0 : Int) ≤ (c : Int) := by omega
          have b2a : (c : Int) < (d.size : Int) := by omega
          have r2a : IntKind.i64.wrap ((c : Int)) = (c : Int) := by rw [IntKind.wrap_i64]; omega
          have e2c : ((c : Int) + 1).toNat = c + 1 := by omega
          have p2c : (0 : Int) ≤ (c : Int) + 1 := by omega
          have b2c : (c : Int) + 1 < (d.size : Int) := by omega
          have r2c : IntKind.i64.wrap ((c : Int) + 1) = (c : Int) + 1 := by rw [IntKind.wrap_i64]; omega
          have S2 : Aside (SWK enc k w0 g off (swp dk (c) (c + 1)) ((wr.drew.setCells g (off + (c) * k) (enc dk[c + 1]!)).setCells g (off + (c + 1) * k) (enc dk[c]!))) := S1.out.swapped R (c) (c + 1) (by omega) (by omega)
          have l2a := S1.out.ld1 R (by omega) P (c) (by omega)
          have l2b := S1.out.ld1 R (by omega) P (c + 1) (by omega)
          have s2a := S1.out.st1 R (by omega) P (c) (by omega) dk[c + 1]!
          have s2b := S1.out.st2 R (by omega) P (c) (c + 1) (by omega) (by omega) dk[c + 1]! dk[c]!
          have n2a : (enc dk[c]!).length = k := R.hk _
          have n2b : (enc dk[c + 1]!).length = k := R.hk _
          generalize enc dk[c]! = cI2 at S2 l2a s2b n2a
          generalize enc dk[c + 1]! = cJ2 at S2 l2b s2a s2b n2b
          clear S1
          go_wp2_with fail
          go_big_region_o
          clear l2a l2b s2a s2b
          generalize (wr.drew.setCells g (off + (c) * k) cJ2).setCells g (off + (c + 1) * k) cI2 = w2 at S2 ⊢
          go_wp2
          go_roundw
          case rel => exact ⟨v + 1, _, by rw [HCV.out]; go_num, by have := HCV.out; have := H1.out; omega, by rw [size_swp]; exact hds, HU, S2⟩
          case measure => simp [intOf]; omega
        · have hnz : ¬ (c : Int) < ((i - 1 : Nat) : Int) := by omega
          have hvi : v = i - m := by have := HCV.out; have := H1.out; omega
          have HF : Hid (dk.toList = Pf ++ (mrg (ltOf cf) [x] Y ++ Sf)) := hid_ (by
            have h := U1.out
            unfold UpI at h
            rw [hvi] at h
            rw [h, HM.out]
            simp)
          clear U1 HM hvi
          go_wp2
          refine bodyPost_ret (results_none rfl _ _ _) rfl ?_
          exact ⟨rfl, dk, S1.out, hds, HF.out⟩
end Go.Proofs.Ytoachnhdedpbdaa
set_option linter.unusedSimpArgs false
set_option linter.unusedVariables false
set_option linter.unusedSectionVars false
namespace Go.Proofs.Ytoachnhdedpbdaa
open Go.RowKit Go.Lib Go.Sort Go.Shelf
variable {P : Program} {α : Type} [Inhabited α]
theorem swp_turn (d : Array α) (i j : Nat) (hi : i < d.size) (hj : j < d.size) : swp d j i = swp d i j := by
  refine Array.ext (by simp [size_swp]) fun t h1 h2 => ?_
  have e1 := swp_get d hj hi t
  have e2 := swp_get d hi hj t
  rw [getElem!_pos _ t h1] at e1
  rw [getElem!_pos _ t h2] at e2
  rw [e1, e2]
  by_cases a : t = i
  · by_cases b : t = j
    · rw [if_pos a, if_pos b, ← a, ← b]
    · rw [if_pos a, if_neg b, if_pos a]
  · by_cases b : t = j
    · rw [if_neg a, if_pos b, if_pos b]
    · rw [if_neg a, if_neg b, if_neg b, if_neg a]
theorem UpI.prev {Pf : List α} {x : α} {Y Sf : List α} {v : Nat} {d : Array α} (h : UpI Pf x Y Sf (v + 1) d) (hv : v < Y.length) (i j : Nat) (hi : i = Pf.length + v) (hj : j = i + 1) : UpI Pf x Y Sf v (swp d j i) := by
  have hs : d.size = Pf.length + (Y.length + (1 + Sf.length)) := by
    rw [← Array.length_toList, show d.toList = _ from h]
    simp only [List.length_append, List.length_cons, List.length_take, List.length_drop]
    omega
  rw [swp_turn d i j (by omega) (by omega)]
  unfold UpI at h ⊢
  rw [List.take_succ_eq_append_getElem hv, ← List.append_assoc, ← List.append_assoc, List.append_assoc _ [Y[v]]] at h
  have := swp_next (Pf := Pf ++ Y.take v) (x := Y[v]) (y := x) h i j (by rw [List.length_append, List.length_take]; omega) (by rw [List.length_append, List.length_take]; omega)
  rw [this, List.append_assoc, List.drop_eq_getElem_cons hv]
  rfl
set_option maxHeartbeats 8000000 in
set_option maxRecDepth 1000000 in
theorem sym_right (k : Nat) (L : StP P k) (enc : α → List Value) (cf : α → α → Int) (hO : SWO (ltOf cf)) (gc : Nat) (cb : Array Value) (g off cap a m b : Nat) (d0 d : Array α) (w0 W : World) (eg : ∀ args w, (callFunc gc args).run P w = .ok (.enter gc args) w) (hcmp : CmpLays P gc cb enc k cf g off d0.size w0) (R : RowK enc k w0 g off d0) (hs : d0.size = d.size) (S : SWK enc k w0 g off d W) (Pf X : List α) (y : α) (Sf : List α) (hd : d.toList = Pf ++ (X ++ ([y] ++ Sf))) (ha : a = Pf.length) (h1 : a + 1 < m) (h2 : b = m + 1) (hm : m = a + X.length) (hX : Asc (ltOf cf) X) (hsz : d.size < 4611686018427387904) :
    Calls P 109 #[.slice (some ⟨g, off, none⟩) d.size cap, .int .i64 a, .int .i64 m, .int .i64 b, .func (.func gc) #[] cb] W fun e w' => e = .returned (.tuple #[]) ∧ ∃ d', SWK enc k w0 g off d' w' ∧ d'.size = d.size ∧ d'.toList = Pf ++ (mrg (ltOf cf) X [y] ++ Sf) := by
  have mixed := L.mixed; have t0 := L.t0; have a0 := L.a0; have z0 := L.z0; have v0 := L.v0; have t3 := L.t3; have a3 := L.a3; have z3 := L.z3; have v3 := L.v3; have t4 := L.t4; have a4 := L.a4; have z4 := L.z4; have v4 := L.v4; have tu := L.tu; have au := L.au; have zu := L.zu; have vu := L.vu; have ts := L.ts; have asl := L.asl; have zs := L.zs; have vs := L.vs; have tf := L.tf; have af := L.af; have zf := L.zf; have vf := L.vf; have aE := L.aE; have zE := L.zE
  have HC : Aside _ := hcmp
  have S0 : Aside (SWK enc k w0 g off d W) := S
  have hsd := size_of hd
  simp only [List.length_singleton] at hsd
  have h3 : b ≤ d.size := by omega
  have h2a : m < b := by omega
  have D0 : Hid (d.toList = Pf ++ (X ++ ([y] ++ Sf))) := hid_ hd
  have LA := hid_ ha
  have LM := hid_ hm
  have HXX := hid_ hX
  have q1 : ((m : Int) - (a : Int) == 1) = false := by simp; omega
  have q2 : ((b : Int) - (m : Int) == 1) = true := by simp; omega
  have q3 : (b : Int) - (m : Int) = 1 := by omega
  have HB := hid_ h2
  clear hcmp S hd hsd ha hm hX h2
  go_enter L.fSym, Try.ntmps109
  go_wp2_with fail
  go_loopw [14, 15] (fun s t wr => ∃ (i j : Nat), s = .int .i64 i ∧ t = .int .i64 j ∧ a ≤ i ∧ i ≤ j ∧ j ≤ m ∧ Hid ((a < i → ltOf cf d[m]! d[i - 1]! = false) ∧ (j < m → ltOf cf d[m]! d[j]! = true)) ∧ Aside (SWK enc k w0 g off d wr)) (fun s t _ => (intOf t).toNat - (intOf s).toNat)
  case atStart => exact ⟨a, m, rfl, rfl, by omega, by omega, by omega, hid_ ⟨fun h => absurd h (by omega), fun h => absurd h (by omega)⟩, S0⟩
  case round =>
    clear S0
    obtain ⟨i, j, rfl, rfl, hmi, hij, hjb, HI, S1⟩ := hrel
    by_cases hlt : i < j
    · have hltz : (i : Int) < (j : Int) := by omega
      obtain ⟨h, hh⟩ : ∃ h, h = (i + j) / 2 := ⟨_, rfl⟩
      have eh : ((i : Int) + (j : Int)) / 2 = (h : Int) := by omega
      have b1 : i ≤ h := by omega
      have b2 : h < j := by omega
      have wh : IntKind.i64.wrap ((h : Int) + 1) = ((h + 1 : Nat) : Int) := by rw [IntKind.wrap_i64]; omega
      clear hh
      go_upto_region 17 with (fail)
      clear eh
      cases hlv : ltOf cf d[m]! d[h]! with
      | false =>
        have HI2 : Hid ((a < h + 1 → ltOf cf d[m]! d[h + 1 - 1]! = false) ∧ (j < m → ltOf cf d[m]! d[j]! = true)) := hid_ ⟨fun _ => by rw [Nat.add_sub_cancel]; exact hlv, HI.out.2⟩
        clear HI
        have e1a : ((m : Int)).toNat = m := by omega
        have p1a : (0 : Int) ≤ (m : Int) := by omega
        have b1a : (m : Int) < (d.size : Int) := by omega
        have r1a : IntKind.i64.wrap ((m : Int)) = (m : Int) := by rw [IntKind.wrap_i64]; omega
        have e1c : ((h : Int)).toNat = h := by omega
        have p1c : (0 : Int) ≤ (h : Int) := by omega
        have b1c : (h : Int) < (d.size : Int) := by omega
        have r1c : IntKind.i64.wrap ((h : Int)) = (h : Int) := by rw [IntKind.wrap_i64]; omega
        obtain ⟨x1, hx1⟩ : ∃ x, x = d[m]! := ⟨_, rfl⟩
        obtain ⟨y1, hy1⟩ : ∃ x, x = d[h]! := ⟨_, rfl⟩
        have l1a := S1.out.ld R (by omega) P (m) (by omega)
        have l1b := S1.out.ld R (by omega) P (h) (by omega)
        rw [← hx1] at l1a
        rw [← hy1] at l1b
        have hc1 := S1.out.cmp HC.out (by omega) x1 y1
        have hv1 : ¬ cf x1 y1 < 0 := by rw [hx1, hy1]; exact of_decide_eq_false hlv
        have hd1 : decide (cf x1 y1 < 0) = false := decide_eq_false hv1
        clear hx1 hy1
        go_quiet_grown (first | (go_at_fn gc; refine Calls.grown_of (hc1 _ _)))
        have S2 : Aside (SWK enc k w0 g off d (grow (wr.drewN nq) osq)) := S1.out.grown nq osq
        clear l1a l1b hc1 S1
        generalize grow (wr.drewN nq) osq = w2 at S2 ⊢
        clear nq osq
        go_wp2
        go_roundw
        case rel => exact ⟨h + 1, j, by go_num, rfl, by omega, by omega, by omega, HI2, S2⟩
        case measure => simp [intOf]; omega
      | true =>
        have HI2 : Hid ((a < i → ltOf cf d[m]! d[i - 1]! = false) ∧ (h < m → ltOf cf d[m]! d[h]! = true)) := hid_ ⟨HI.out.1, fun _ => hlv⟩
        clear HI
        have e1a : ((m : Int)).toNat = m := by omega
        have p1a : (0 : Int) ≤ (m : Int) := by omega
        have b1a : (m : Int) < (d.size : Int) := by omega
        have r1a : IntKind.i64.wrap ((m : Int)) = (m : Int) := by rw [IntKind.wrap_i64]; omega
        have e1c : ((h : Int)).toNat = h := by omega
        have p1c : (0 : Int) ≤ (h : Int) := by omega
        have b1c : (h : Int) < (d.size : Int) := by omega
        have r1c : IntKind.i64.wrap ((h : Int)) = (h : Int) := by rw [IntKind.wrap_i64]; omega
        obtain ⟨x1, hx1⟩ : ∃ x, x = d[m]! := ⟨_, rfl⟩
        obtain ⟨y1, hy1⟩ : ∃ x, x = d[h]! := ⟨_, rfl⟩
        have l1a := S1.out.ld R (by omega) P (m) (by omega)
        have l1b := S1.out.ld R (by omega) P (h) (by omega)
        rw [← hx1] at l1a
        rw [← hy1] at l1b
        have hc1 := S1.out.cmp HC.out (by omega) x1 y1
        have hv1 : cf x1 y1 < 0 := by rw [hx1, hy1]; exact of_decide_eq_true hlv
        have hd1 : decide (cf x1 y1 < 0) = true := decide_eq_true hv1
        clear hx1 hy1
        go_quiet_grown (first | (go_at_fn gc; refine Calls.grown_of (hc1 _ _)))
        have S2 : Aside (SWK enc k w0 g off d (grow (wr.drewN nq) osq)) := S1.out.grown nq osq
        clear l1a l1b hc1 S1
        generalize grow (wr.drewN nq) osq = w2 at S2 ⊢
        clear nq osq
        go_wp2
        go_roundw
        case rel => exact ⟨i, h, rfl, rfl, by omega, by omega, by omega, HI2, S2⟩
        case measure => simp [intOf]; omega
    · obtain rfl : i = j := by omega
      have HM : Hid (mrg (ltOf cf) X [y] = X.take (i - a) ++ (y :: X.drop (i - a))) := hid_ (by
        have hLA := LA.out
        have hLM := LM.out
        have hax : d[m]! = y := atY D0.out 0 (by simp) m (by omega)
        have hI := HI.out
        rw [hax] at hI
        refine mrg_last hO HXX.out (i - a) (by omega) ?_ ?_
        · rcases Nat.lt_or_ge a i with h | h
          · refine .inr ?_
            rw [← atX D0.out (i - a - 1) (by omega) (i - 1) (by omega)]
            exact hI.1 h
          · exact .inl (by omega)
        · rcases Nat.lt_or_ge i m with h | h
          · refine .inr ?_
            rw [← atX D0.out (i - a) (by omega) i (by omega)]
            exact hI.2 h
          · exact .inl (by omega))
      have U0 : Hid (UpI Pf y X Sf (m - a) d) := hid_ (by have := D0.out; have h := LM.out; unfold UpI; rw [this, List.take_of_length_le (by omega), List.drop_of_length_le (by omega)]; rfl)
      clear HI D0 HXX
      go_wp2_with fail
      go_loopw [17] (fun s wr => ∃ (c : Nat) (dk : Array α), s = .int .i64 c ∧ i ≤ c ∧ c ≤ m ∧ dk.size = d.size ∧ Hid (UpI Pf y X Sf (c - a) dk) ∧ Aside (SWK enc k w0 g off dk wr)) (fun s _ => (intOf s).toNat)
      case atStart => exact ⟨m, d, rfl, by omega, by omega, rfl, U0, S1⟩
      case round =>
        clear S1 U0
        obtain ⟨c, dk, rfl, hci, hcm, hds, U1, S1⟩ := hrel
        by_cases hlt2 : i < c
        · obtain ⟨c, rfl⟩ : ∃ c', c = c' + 1 := ⟨c - 1, by omega⟩
          have hltz : (i : Int) < (c : Int) + 1 := by omega
          have HU : Hid (UpI Pf y X Sf (c - a) (swp dk (c + 1) c)) := hid_ (UpI.prev (by have h := U1.out; rw [show c + 1 - a = c - a + 1 by omega] at h; exact h) (by have := LM.out; omega) c (c + 1) (by rw [← LA.out]; omega) rfl)
          clear U1
          go_upto_region 23 with (fail)
          have e2a : ((c : Int) + 1).toNat = c + 1 := by omega
          have p2a : (0 : Int) ≤ (c : Int) + 1 := by omega
          have b2a : (c : Int) + 1 < (d.size : Int) := by omega
          have r2a : IntKind.i64.wrap ((c : Int) + 1) = (c : Int) + 1 := by rw [IntKind.wrap_i64]; omega
          have e2c : ((c : Int)).toNat = c := by omega
          have p2c : (0 : Int) ≤ (c : Int) := by omega
          have b2c : (c : Int) < (d.size : Int) := by omega
          have r2c : IntKind.i64.wrap ((c : Int)) = (c : Int) := by rw [IntKind.wrap_i64]; omega
          have S2 : Aside (SWK enc k w0 g off (swp dk (c + 1) (c)) ((wr.drew.setCells g (off + (c + 1) * k) (enc dk[c]!)).setCells g (off + (c) * k) (enc dk[c + 1]!))) := S1.out.swapped R (c + 1) (c) (by omega) (by omega)
          have l2a := S1.out.ld1 R (by omega) P (c + 1) (by omega)
          have l2b := S1.out.ld1 R (by omega) P (c) (by omega)
          have s2a := S1.out.st1 R (by omega) P (c + 1) (by omega) dk[c]!
          have s2b := S1.out.st2 R (by omega) P (c + 1) (c) (by omega) (by omega) dk[c]! dk[c + 1]!
          have n2a : (enc dk[c + 1]!).length = k := R.hk _
          have n2b : (enc dk[c]!).length = k := R.hk _
          generalize enc dk[c + 1]! = cI2 at S2 l2a s2b n2a
          generalize enc dk[c]! = cJ2 at S2 l2b s2a s2b n2b
          clear S1
          go_wp2_with fail
          go_big_region_o
          clear l2a l2b s2a s2b
          generalize (wr.drew.setCells g (off + (c + 1) * k) cJ2).setCells g (off + (c) * k) cI2 = w2 at S2 ⊢
          go_wp2
          go_roundw
          case rel => exact ⟨c, _, by go_num, by omega, by omega, by rw [size_swp]; exact hds, HU, S2⟩
          case measure => simp [intOf]
        · have hnz : ¬ (i : Int) < (c : Int) := by omega
          obtain rfl : i = c := by omega
          have HF : Hid (dk.toList = Pf ++ (mrg (ltOf cf) X [y] ++ Sf)) := hid_ (by
            have h := U1.out
            unfold UpI at h
            rw [h, HM.out]
            simp)
          clear U1 HM
          go_wp2
          refine bodyPost_ret (results_none rfl _ _ _) rfl ?_
          exact ⟨rfl, dk, S1.out, hds, HF.out⟩
end Go.Proofs.Ytoachnhdedpbdaa
