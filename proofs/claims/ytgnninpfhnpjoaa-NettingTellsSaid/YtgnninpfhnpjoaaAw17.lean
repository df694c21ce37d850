/- The head of layer 17's statements: awake. -/
import Derived.Test.YtgnninpfhnpjoaaNt3
set_option linter.unusedSimpArgs false
set_option linter.unusedVariables false
namespace Go.Proofs.Ytgnninpfhnpjoaa
open Go.RowKit Go.Lib
abbrev annN : ByteArray := ⟨#[97, 110, 110]⟩
abbrev bobN : ByteArray := ⟨#[98, 111, 98]⟩
abbrev usdN : ByteArray := ⟨#[85, 83, 68]⟩
abbrev duN : List Due := [⟨annN, usdN, -80⟩, ⟨annN, usdN, 30⟩, ⟨bobN, usdN, 50⟩]
abbrev neN : List Due := [⟨annN, usdN, -50⟩, ⟨bobN, usdN, 50⟩]
abbrev grN : List Due := [⟨annN, usdN, 80⟩]
theorem aw17a : netE duN = 0 := by decide +kernel
theorem aw17b : netO duN = neN := by kernel_rfl
theorem aw17c : grossE duN = 0 := by decide +kernel
theorem aw17d : grossO duN = grN := by kernel_rfl
theorem aw17e : zeroB duN = true := by decide +kernel
theorem aw17f : zeroB (duN.take 2) = false := by decide +kernel
theorem aw17z : ∀ x ∈ duN, x.who.size ≤ 9223372036854775807 ∧ x.asset.size ≤ 9223372036854775807 ∧ i64w' x.amount := by unfold i64w'; decide +kernel
theorem aw17y : ∀ x ∈ duN.take 2, x.who.size ≤ 9223372036854775807 ∧ x.asset.size ≤ 9223372036854775807 ∧ i64w' x.amount := fun x hx => aw17z x (List.mem_of_mem_take hx)
set_option maxRecDepth 10000 in
set_option maxHeartbeats 4000000 in
theorem awake17 (w : World) : Calls Try.prog 15 #[] w fun e w' => e = .returned (.bool true) ∧ Bel w w' := by
  have RX : Row dueT (w.alloc (.cells #[.string annN, .string usdN, .int .i64 (-80), .string annN, .string usdN, .int .i64 30, .string bobN, .string usdN, .int .i64 50] 33)) (some ⟨w.heap.size, 0, none⟩) 3 duN := Row.lit (T := dueT) w duN (0, 0) (by decide)
  have HRX := hid_ RX
  have FB := hid_ ((Bel.refl w).alloc (.cells #[.string annN, .string usdN, .int .i64 (-80), .string annN, .string usdN, .int .i64 30, .string bobN, .string usdN, .int .i64 50] 33))
  clear RX
  go_enter Try.func15, Try.ntmps15
  go_wp2_with fail
  refine (net_any (some ⟨w.heap.size, 0, none⟩) 3 3 duN _ HRX.out (by decide) aw17z).mono ?_
  rintro e v1 ⟨v, rfl, o, b⟩
  rw [aw17a]
  rw [aw17b] at o
  obtain ⟨A1, c1, rfl, hc1, r1⟩ := o.reads
  have f1N : Hid (Row dueT v1 A1 2 neN) := hid_ r1
  have f1B := hid_ (FB.out.trans b)
  have f1D := hid_ (HRX.out.bel b)
  clear b FB HRX o hc1 r1
  go_wp2_with fail
  refine (gross_any (some ⟨w.heap.size, 0, none⟩) 3 3 duN v1 f1D.out (by decide) aw17z).mono ?_
  rintro e v2 ⟨v, rfl, o, b⟩
  rw [aw17c]
  rw [aw17d] at o
  obtain ⟨A2, c2, rfl, hc2, r2⟩ := o.reads
  have f2G : Hid (Row dueT v2 A2 1 grN) := hid_ r2
  have f2B := hid_ (f1B.out.trans b)
  have f2D := hid_ (f1D.out.bel b)
  have f2N := hid_ (f1N.out.bel b)
  clear b f1B f1D f1N o hc2 r2
  go_wp2_with fail
  refine (legs_any A1 2 c1 neN v2 f2N.out (by decide)).mono ?_
  rintro e v3 ⟨v, rfl, o, b⟩
  obtain ⟨A3, c3, rfl, hc3, r3⟩ := o.reads
  have f3L : Hid (Row legT v3 A3 2 neN) := hid_ r3
  have f3B := hid_ (f2B.out.trans b)
  have f3D := hid_ (f2D.out.bel b)
  have f3N := hid_ (f2N.out.bel b)
  have f3G := hid_ (f2G.out.bel b)
  clear b f2B f2D f2N f2G o hc3 r3
  obtain ⟨adn, x0, x1, x2, e4, ho, n00, n01, n02⟩ := f3N.out.due (k := 0) (by decide)
  cases e4
  cases ho
  simp [Addr.add] at n00 n01 n02
  obtain ⟨adn', x0, x1, x2, e4, ho, n10, n11, n12⟩ := f3N.out.due (k := 1) (by decide)
  cases e4
  cases ho
  simp [Addr.add] at n10 n11 n12
  obtain ⟨adg, x0, x1, x2, e4, ho, g00, g01, g02⟩ := f3G.out.due (k := 0) (by decide)
  cases e4
  cases ho
  simp [Addr.add] at g00 g01 g02
  go_wp2_with fail
  refine (zero_any (some ⟨w.heap.size, 0, none⟩) 3 3 duN v3 f3D.out (by decide) aw17z).mono ?_
  rintro e v4 ⟨rfl, b⟩
  rw [aw17e]
  have f4B := hid_ (f3B.out.trans b)
  have f4D := hid_ (f3D.out.bel b)
  have f4L := hid_ (f3L.out.bel b)
  clear b f3B f3D f3L f3N f3G n00 n01 n02 n10 n11 n12 g00 g01 g02
  have hcut := fun W => dueS.cutTo (P := Try.prog) .i64 (some ⟨w.heap.size, 0, none⟩) 3 3 2 (by decide) W
  simp only [show ((2 : Nat) : Int) = 2 from rfl] at hcut
  go_wp2_with fail
  refine (zero_any (some ⟨w.heap.size, 0, none⟩) 2 3 (duN.take 2) v4 (f4D.out.take_ (by decide)) (by decide) aw17y).mono ?_
  rintro e v5 ⟨rfl, b⟩
  rw [aw17f]
  have f5B := hid_ (f4B.out.trans b)
  have f5L := hid_ (f4L.out.bel b)
  clear b f4B f4D f4L hcut
  obtain ⟨adl, x0, x1, x2, e4, ho, l10, l11, l12⟩ := f5L.out.leg (k := 1) (by decide)
  cases e4
  cases ho
  simp [Addr.add] at l10 l11 l12
  go_wp2
  go_ret
  exact ⟨rfl, f5B.out⟩
end Go.Proofs.Ytgnninpfhnpjoaa
