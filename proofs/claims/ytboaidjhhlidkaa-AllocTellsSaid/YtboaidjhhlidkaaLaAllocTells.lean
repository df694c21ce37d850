/- AllocTells, walked. -/
import Derived.Test.YtboaidjhhlidkaaAl25
import Derived.Test.YtboaidjhhlidkaaAlP
import Derived.Test.YtboaidjhhlidkaaOpPool
set_option linter.unusedSimpArgs false
set_option linter.unusedVariables false
namespace Go.Proofs.Ytboaidjhhlidkaa
open Go.RowKit
theorem same_eq (h : Int) (A B A' B' : Option Addr) (n c m d n' c' m' d' : Nat) (F L : List Int) (w : World) (hA : Row intT w A n F) (hB : Row intT w B m L) (hA' : Row intT w A' n' F) (hB' : Row intT w B' m' L) :
    Calls Try.prog 37 #[.agg #[.int .i64 h, .slice A n c, .slice B m d], .agg #[.int .i64 h, .slice A' n' c', .slice B' m' d']] w fun e w' => e = .returned (.bool true) ∧ Bel w w' := by
  refine (same_any h h A B A' B' n c m d n' c' m' d' F L F L w hA hB hA' hB').mono ?_
  rintro e w1 ⟨rfl, b⟩
  exact ⟨by simp, b⟩
set_option maxRecDepth 10000 in
set_option maxHeartbeats 8000000 in
theorem walkAllocTells (w : World) (h : Int) (A B : Option Addr) (n c m d : Nat) (F L : List Int) (most page : Int) (hh : intWf h) (hnc : n ≤ c) (hmd : m ≤ d) (hA : Row intT w A n F) (hB : Row intT w B m L) (hF : ∀ y ∈ F, intWf y) (hL : ∀ y ∈ L, intWf y) (hmo : intWf most) (hpa : intWf page) :
    Calls Try.prog 8 #[.agg #[.int .i64 h, .slice A n c, .slice B m d], .int .i64 most, .int .i64 page] w fun e w' => e = .returned (.bool true) ∧ Bel w w' := by
  have hn63 := hA.2.1
  have hm63 := hB.2.1
  have HN := hid_ hn63
  have HM := hid_ hm63
  clear hn63 hm63
  go_enter Try.func8, Try.ntmps8
  have K0 := hid_ (Bx.new w 48 [.int .i64 h, .slice A n c, .slice B m d])
  have B0 : Hid (Bel w (w.alloc (.cells #[.int .i64 h, .slice A n c, .slice B m d] 48))) := (Bel.refl w).alloc _
  go_wp2_with fail
  refine (awake06 _).mono ?_
  rintro e w1 ⟨rfl, b1⟩
  have K1 := hid_ (K0.out.bel b1)
  have B1 := hid_ (B0.out.trans b1)
  have e0 := K1.out.cell 0 rfl
  have e1 := K1.out.cell 1 rfl
  have e2 := K1.out.cell 2 rfl
  clear K0 B0 b1
  go_wp2_with fail
  refine (few_any h A B n c m d _ HN.out HM.out).mono ?_
  rintro e w2 ⟨rfl, b2⟩
  have K2 := hid_ (K1.out.bel b2)
  have B2 := hid_ (B1.out.trans b2)
  clear K1 B1 b2 e0 e1 e2
  have e0 := K2.out.cell 0 rfl
  have e1 := K2.out.cell 1 rfl
  have e2 := K2.out.cell 2 rfl
  obtain ⟨fb, hfb⟩ : ∃ fb, fewB n m = fb := ⟨_, rfl⟩
  rw [hfb]
  have HF := hid_ hfb
  clear hfb
  cases fb
  · go_wp2
    go_ret
    exact ⟨rfl, B2.out⟩
  have hfew := few_le HF.out
  clear HF
  have HFW := hid_ hfew
  clear hfew
  go_wp2_with fail
  refine (take_any h most A B n c m d F L _ (hA.bel B2.out) (hB.bel B2.out) (by have := HFW.out; omega) (by have := HFW.out; omega)).mono ?_
  rintro e w4 ⟨v, rfl, ⟨A1, n1, c1, B1, m1, d1, rfl, _, _, ra, rb⟩, b⟩
  have bb := b.alloc (.cells #[.int .i64 (takeH h most F), .slice A1 n1 c1, .slice B1 m1 d1] 48)
  have f1K := hid_ (K2.out.bel bb)
  have f1B := hid_ (B2.out.trans bb)
  have f1P1 := hid_ (Bx.new w4 48 [.int .i64 (takeH h most F), .slice A1 n1 c1, .slice B1 m1 d1])
  have f1RA1 := hid_ ((ra).bel ((Bel.refl w4).alloc (.cells #[.int .i64 (takeH h most F), .slice A1 n1 c1, .slice B1 m1 d1] 48)))
  have f1RB1 := hid_ ((rb).bel ((Bel.refl w4).alloc (.cells #[.int .i64 (takeH h most F), .slice A1 n1 c1, .slice B1 m1 d1] 48)))
  clear b bb K2 B2 e0 e1 e2 ra rb
  have q00 := f1K.out.cell 0 rfl
  have q01 := f1K.out.cell 1 rfl
  have q02 := f1K.out.cell 2 rfl
  go_wp2_with fail
  refine (takeR_any h most A B n c m d F L _ (hA.bel f1B.out) (hB.bel f1B.out) (by have := HFW.out; omega) (by have := HFW.out; omega)).mono ?_
  rintro e w5 ⟨v, rfl, ⟨A2, n2, c2, B2, m2, d2, rfl, _, _, ra, rb⟩, b⟩
  have bb := b.alloc (.cells #[.int .i64 (takeH h most F), .slice A2 n2 c2, .slice B2 m2 d2] 48)
  have f2K := hid_ (f1K.out.bel bb)
  have f2B := hid_ (f1B.out.trans bb)
  have f2P1 := hid_ (f1P1.out.bel bb)
  have f2RA1 := hid_ (f1RA1.out.bel bb)
  have f2RB1 := hid_ (f1RB1.out.bel bb)
  have f2P2 := hid_ (Bx.new w5 48 [.int .i64 (takeH h most F), .slice A2 n2 c2, .slice B2 m2 d2])
  have f2RA2 := hid_ ((ra).bel ((Bel.refl w5).alloc (.cells #[.int .i64 (takeH h most F), .slice A2 n2 c2, .slice B2 m2 d2] 48)))
  have f2RB2 := hid_ ((rb).bel ((Bel.refl w5).alloc (.cells #[.int .i64 (takeH h most F), .slice A2 n2 c2, .slice B2 m2 d2] 48)))
  clear b bb f1K f1B f1P1 f1RA1 f1RB1 q00 q01 q02 ra rb
  have q00 := f2K.out.cell 0 rfl
  have q01 := f2K.out.cell 1 rfl
  have q02 := f2K.out.cell 2 rfl
  go_wp2_with fail
  refine (give_any h page A B n c m d F L _ (hA.bel f2B.out) (hB.bel f2B.out) (by have := HFW.out; omega) (by have := HFW.out; omega)).mono ?_
  rintro e w6 ⟨v, rfl, ⟨A3, n3, c3, B3, m3, d3, rfl, _, _, ra, rb⟩, b⟩
  have bb := b.alloc (.cells #[.int .i64 (giveH h F L page), .slice A3 n3 c3, .slice B3 m3 d3] 48)
  have f3K := hid_ (f2K.out.bel bb)
  have f3B := hid_ (f2B.out.trans bb)
  have f3P1 := hid_ (f2P1.out.bel bb)
  have f3RA1 := hid_ (f2RA1.out.bel bb)
  have f3RB1 := hid_ (f2RB1.out.bel bb)
  have f3P2 := hid_ (f2P2.out.bel bb)
  have f3RA2 := hid_ (f2RA2.out.bel bb)
  have f3RB2 := hid_ (f2RB2.out.bel bb)
  have f3P3 := hid_ (Bx.new w6 48 [.int .i64 (giveH h F L page), .slice A3 n3 c3, .slice B3 m3 d3])
  have f3RA3 := hid_ ((ra).bel ((Bel.refl w6).alloc (.cells #[.int .i64 (giveH h F L page), .slice A3 n3 c3, .slice B3 m3 d3] 48)))
  have f3RB3 := hid_ ((rb).bel ((Bel.refl w6).alloc (.cells #[.int .i64 (giveH h F L page), .slice A3 n3 c3, .slice B3 m3 d3] 48)))
  clear b bb f2K f2B f2P1 f2RA1 f2RB1 f2P2 f2RA2 f2RB2 q00 q01 q02 ra rb
  have q00 := f3K.out.cell 0 rfl
  have q01 := f3K.out.cell 1 rfl
  have q02 := f3K.out.cell 2 rfl
  go_wp2_with fail
  refine (giveR_any h page A B n c m d F L _ (hA.bel f3B.out) (hB.bel f3B.out) (by have := HFW.out; omega) (by have := HFW.out; omega)).mono ?_
  rintro e w7 ⟨v, rfl, ⟨A4, n4, c4, B4, m4, d4, rfl, _, _, ra, rb⟩, b⟩
  have bb := b.alloc (.cells #[.int .i64 (giveH h F L page), .slice A4 n4 c4, .slice B4 m4 d4] 48)
  have f4K := hid_ (f3K.out.bel bb)
  have f4B := hid_ (f3B.out.trans bb)
  have f4P1 := hid_ (f3P1.out.bel bb)
  have f4RA1 := hid_ (f3RA1.out.bel bb)
  have f4RB1 := hid_ (f3RB1.out.bel bb)
  have f4P2 := hid_ (f3P2.out.bel bb)
  have f4RA2 := hid_ (f3RA2.out.bel bb)
  have f4RB2 := hid_ (f3RB2.out.bel bb)
  have f4P3 := hid_ (f3P3.out.bel bb)
  have f4RA3 := hid_ (f3RA3.out.bel bb)
  have f4RB3 := hid_ (f3RB3.out.bel bb)
  have f4P4 := hid_ (Bx.new w7 48 [.int .i64 (giveH h F L page), .slice A4 n4 c4, .slice B4 m4 d4])
  have f4RA4 := hid_ ((ra).bel ((Bel.refl w7).alloc (.cells #[.int .i64 (giveH h F L page), .slice A4 n4 c4, .slice B4 m4 d4] 48)))
  have f4RB4 := hid_ ((rb).bel ((Bel.refl w7).alloc (.cells #[.int .i64 (giveH h F L page), .slice A4 n4 c4, .slice B4 m4 d4] 48)))
  clear b bb f3K f3B f3P1 f3RA1 f3RB1 f3P2 f3RA2 f3RB2 f3P3 f3RA3 f3RB3 q00 q01 q02 ra rb
  have q00 := f4K.out.cell 0 rfl
  have q01 := f4K.out.cell 1 rfl
  have q02 := f4K.out.cell 2 rfl
  go_wp2_with fail
  refine (back_any h page A B n c m d F L _ (hA.bel f4B.out) (hB.bel f4B.out) (by have := HFW.out; omega) (by have := HFW.out; omega)).mono ?_
  rintro e w8 ⟨v, rfl, ⟨A5, n5, c5, B5, m5, d5, rfl, _, _, ra, rb⟩, b⟩
  have bb := b.alloc (.cells #[.int .i64 (giveH h F L page), .slice A5 n5 c5, .slice B5 m5 d5] 48)
  have f5K := hid_ (f4K.out.bel bb)
  have f5B := hid_ (f4B.out.trans bb)
  have f5P1 := hid_ (f4P1.out.bel bb)
  have f5RA1 := hid_ (f4RA1.out.bel bb)
  have f5RB1 := hid_ (f4RB1.out.bel bb)
  have f5P2 := hid_ (f4P2.out.bel bb)
  have f5RA2 := hid_ (f4RA2.out.bel bb)
  have f5RB2 := hid_ (f4RB2.out.bel bb)
  have f5P3 := hid_ (f4P3.out.bel bb)
  have f5RA3 := hid_ (f4RA3.out.bel bb)
  have f5RB3 := hid_ (f4RB3.out.bel bb)
  have f5P4 := hid_ (f4P4.out.bel bb)
  have f5RA4 := hid_ (f4RA4.out.bel bb)
  have f5RB4 := hid_ (f4RB4.out.bel bb)
  have f5P5 := hid_ (Bx.new w8 48 [.int .i64 (giveH h F L page), .slice A5 n5 c5, .slice B5 m5 d5])
  have f5RA5 := hid_ ((ra).bel ((Bel.refl w8).alloc (.cells #[.int .i64 (giveH h F L page), .slice A5 n5 c5, .slice B5 m5 d5] 48)))
  have f5RB5 := hid_ ((rb).bel ((Bel.refl w8).alloc (.cells #[.int .i64 (giveH h F L page), .slice A5 n5 c5, .slice B5 m5 d5] 48)))
  clear b bb f4K f4B f4P1 f4RA1 f4RB1 f4P2 f4RA2 f4RB2 f4P3 f4RA3 f4RB3 f4P4 f4RA4 f4RB4 q00 q01 q02 ra rb
  have q00 := f5K.out.cell 0 rfl
  have q01 := f5K.out.cell 1 rfl
  have q02 := f5K.out.cell 2 rfl
  go_wp2_with fail
  refine (backR_any h page A B n c m d F L _ (hA.bel f5B.out) (hB.bel f5B.out) (by have := HFW.out; omega) (by have := HFW.out; omega)).mono ?_
  rintro e w9 ⟨v, rfl, ⟨A6, n6, c6, B6, m6, d6, rfl, _, _, ra, rb⟩, b⟩
  have bb := b.alloc (.cells #[.int .i64 (giveH h F L page), .slice A6 n6 c6, .slice B6 m6 d6] 48)
  have f6K := hid_ (f5K.out.bel bb)
  have f6B := hid_ (f5B.out.trans bb)
  have f6P1 := hid_ (f5P1.out.bel bb)
  have f6RA1 := hid_ (f5RA1.out.bel bb)
  have f6RB1 := hid_ (f5RB1.out.bel bb)
  have f6P2 := hid_ (f5P2.out.bel bb)
  have f6RA2 := hid_ (f5RA2.out.bel bb)
  have f6RB2 := hid_ (f5RB2.out.bel bb)
  have f6P3 := hid_ (f5P3.out.bel bb)
  have f6RA3 := hid_ (f5RA3.out.bel bb)
  have f6RB3 := hid_ (f5RB3.out.bel bb)
  have f6P4 := hid_ (f5P4.out.bel bb)
  have f6RA4 := hid_ (f5RA4.out.bel bb)
  have f6RB4 := hid_ (f5RB4.out.bel bb)
  have f6P5 := hid_ (f5P5.out.bel bb)
  have f6RA5 := hid_ (f5RA5.out.bel bb)
  have f6RB5 := hid_ (f5RB5.out.bel bb)
  have f6P6 := hid_ (Bx.new w9 48 [.int .i64 (giveH h F L page), .slice A6 n6 c6, .slice B6 m6 d6])
  have f6RA6 := hid_ ((ra).bel ((Bel.refl w9).alloc (.cells #[.int .i64 (giveH h F L page), .slice A6 n6 c6, .slice B6 m6 d6] 48)))
  have f6RB6 := hid_ ((rb).bel ((Bel.refl w9).alloc (.cells #[.int .i64 (giveH h F L page), .slice A6 n6 c6, .slice B6 m6 d6] 48)))
  clear b bb f5K f5B f5P1 f5RA1 f5RB1 f5P2 f5RA2 f5RB2 f5P3 f5RA3 f5RB3 f5P4 f5RA4 f5RB4 f5P5 f5RA5 f5RB5 q00 q01 q02 ra rb
  have q00 := f6P1.out.cell 0 rfl
  have q01 := f6P1.out.cell 1 rfl
  have q02 := f6P1.out.cell 2 rfl
  have q10 := f6P2.out.cell 0 rfl
  have q11 := f6P2.out.cell 1 rfl
  have q12 := f6P2.out.cell 2 rfl
  go_wp2_with fail
  refine (same_eq (takeH h most F) A1 B1 A2 B2 n1 c1 m1 d1 n2 c2 m2 d2 _ _ _ f6RA1.out f6RB1.out f6RA2.out f6RB2.out).mono ?_
  rintro e w10 ⟨rfl, b⟩
  have bb := b
  have f7K := hid_ (f6K.out.bel bb)
  have f7B := hid_ (f6B.out.trans bb)
  have f7P1 := hid_ (f6P1.out.bel bb)
  have f7RA1 := hid_ (f6RA1.out.bel bb)
  have f7RB1 := hid_ (f6RB1.out.bel bb)
  have f7P2 := hid_ (f6P2.out.bel bb)
  have f7RA2 := hid_ (f6RA2.out.bel bb)
  have f7RB2 := hid_ (f6RB2.out.bel bb)
  have f7P3 := hid_ (f6P3.out.bel bb)
  have f7RA3 := hid_ (f6RA3.out.bel bb)
  have f7RB3 := hid_ (f6RB3.out.bel bb)
  have f7P4 := hid_ (f6P4.out.bel bb)
  have f7RA4 := hid_ (f6RA4.out.bel bb)
  have f7RB4 := hid_ (f6RB4.out.bel bb)
  have f7P5 := hid_ (f6P5.out.bel bb)
  have f7RA5 := hid_ (f6RA5.out.bel bb)
  have f7RB5 := hid_ (f6RB5.out.bel bb)
  have f7P6 := hid_ (f6P6.out.bel bb)
  have f7RA6 := hid_ (f6RA6.out.bel bb)
  have f7RB6 := hid_ (f6RB6.out.bel bb)
  clear b bb f6K f6B f6P1 f6RA1 f6RB1 f6P2 f6RA2 f6RB2 f6P3 f6RA3 f6RB3 f6P4 f6RA4 f6RB4 f6P5 f6RA5 f6RB5 f6P6 f6RA6 f6RB6 q00 q01 q02 q10 q11 q12 
  clear f7P1 f7P2 f7RA1 f7RB1 f7RA2 f7RB2
  have q00 := f7P3.out.cell 0 rfl
  have q01 := f7P3.out.cell 1 rfl
  have q02 := f7P3.out.cell 2 rfl
  have q10 := f7P4.out.cell 0 rfl
  have q11 := f7P4.out.cell 1 rfl
  have q12 := f7P4.out.cell 2 rfl
  go_wp2_with fail
  refine (same_eq (giveH h F L page) A3 B3 A4 B4 n3 c3 m3 d3 n4 c4 m4 d4 _ _ _ f7RA3.out f7RB3.out f7RA4.out f7RB4.out).mono ?_
  rintro e w11 ⟨rfl, b⟩
  have bb := b
  have f8K := hid_ (f7K.out.bel bb)
  have f8B := hid_ (f7B.out.trans bb)
  have f8P3 := hid_ (f7P3.out.bel bb)
  have f8RA3 := hid_ (f7RA3.out.bel bb)
  have f8RB3 := hid_ (f7RB3.out.bel bb)
  have f8P4 := hid_ (f7P4.out.bel bb)
  have f8RA4 := hid_ (f7RA4.out.bel bb)
  have f8RB4 := hid_ (f7RB4.out.bel bb)
  have f8P5 := hid_ (f7P5.out.bel bb)
  have f8RA5 := hid_ (f7RA5.out.bel bb)
  have f8RB5 := hid_ (f7RB5.out.bel bb)
  have f8P6 := hid_ (f7P6.out.bel bb)
  have f8RA6 := hid_ (f7RA6.out.bel bb)
  have f8RB6 := hid_ (f7RB6.out.bel bb)
  clear b bb f7K f7B f7P3 f7RA3 f7RB3 f7P4 f7RA4 f7RB4 f7P5 f7RA5 f7RB5 f7P6 f7RA6 f7RB6 q00 q01 q02 q10 q11 q12 
  clear f8P3 f8P4 f8RA3 f8RB3 f8RA4 f8RB4
  have q00 := f8P5.out.cell 0 rfl
  have q01 := f8P5.out.cell 1 rfl
  have q02 := f8P5.out.cell 2 rfl
  have q10 := f8P6.out.cell 0 rfl
  have q11 := f8P6.out.cell 1 rfl
  have q12 := f8P6.out.cell 2 rfl
  go_wp2_with fail
  refine (same_eq (giveH h F L page) A5 B5 A6 B6 n5 c5 m5 d5 n6 c6 m6 d6 _ _ _ f8RA5.out f8RB5.out f8RA6.out f8RB6.out).mono ?_
  rintro e w12 ⟨rfl, b⟩
  have bb := b
  have f9K := hid_ (f8K.out.bel bb)
  have f9B := hid_ (f8B.out.trans bb)
  have f9P5 := hid_ (f8P5.out.bel bb)
  have f9RA5 := hid_ (f8RA5.out.bel bb)
  have f9RB5 := hid_ (f8RB5.out.bel bb)
  have f9P6 := hid_ (f8P6.out.bel bb)
  have f9RA6 := hid_ (f8RA6.out.bel bb)
  have f9RB6 := hid_ (f8RB6.out.bel bb)
  clear b bb f8K f8B f8P5 f8RA5 f8RB5 f8P6 f8RA6 f8RB6 q00 q01 q02 q10 q11 q12 
  clear f9P5 f9P6 f9RA5 f9RB5 f9RA6 f9RB6
  have q00 := f9K.out.cell 0 rfl
  have q01 := f9K.out.cell 1 rfl
  have q02 := f9K.out.cell 2 rfl
  go_wp2_with fail
  go_region_held3 (fun W => W.cell? ⟨w.heap.size, 0, none⟩ = some (.int .i64 h) ∧ W.cell? ⟨w.heap.size, 1, none⟩ = some (.slice A n c) ∧ W.cell? ⟨w.heap.size, 2, none⟩ = some (.slice B m d)) (first | exact ⟨q00, q01, q02⟩ | exact ⟨b9.cell_ q00, b9.cell_ q01, b9.cell_ q02⟩ | exact ⟨b8.cell_ q00, b8.cell_ q01, b8.cell_ q02⟩ | exact ⟨b7.cell_ q00, b7.cell_ q01, b7.cell_ q02⟩)
    (first | (go_at_call 38; refine' (turn_any h A B n c m d F L _ (hA.bel (f9B.out.trans (by first | exact Bel.refl _ | exact (Bel.refl _).drew))) (hB.bel (f9B.out.trans (by first | exact Bel.refl _ | exact (Bel.refl _).drew))) (by have := HFW.out; omega) (by have := HFW.out; omega)).mono ?_; rintro e w20 ⟨v, rfl, ⟨A7, n7, c7, B7, m7, d7, rfl, _, _, ra7, rb7⟩, b⟩; have b7 : Bel w12 w20 := Bel.trans (by first | exact Bel.refl _ | exact (Bel.refl _).drew) b; clear b) | (go_at_call 39; refine' (turnR_any h A B n c m d F L _ (hA.bel (f9B.out.trans b7)) (hB.bel (f9B.out.trans b7)) (by have := HFW.out; omega) (by have := HFW.out; omega)).mono ?_; rintro e w21 ⟨v, rfl, ⟨A8, n8, c8, B8, m8, d8, rfl, _, _, ra8, rb8⟩, b⟩; have b8 : Bel w12 w21 := b7.trans b; have ra7' := ra7.bel b; have rb7' := rb7.bel b; clear b ra7 rb7) | (go_at_call 37; refine' (same_eq h A7 B7 A8 B8 n7 c7 m7 d7 n8 c8 m8 d8 _ _ _ ra7' rb7' ra8 rb8).mono ?_; rintro e w22 ⟨rfl, b⟩; have b9 : Bel w12 w22 := b8.trans b; clear b ra7' rb7' ra8 rb8))
  have KK := hid_ (f9K.out.bel b9)
  have BB := hid_ (f9B.out.trans b9)
  clear f9K f9B q00 q01 q02 b9 b8 b7
  have q0 := KK.out.cell 0 rfl
  have q1 := KK.out.cell 1 rfl
  have q2 := KK.out.cell 2 rfl
  go_wp2_with fail
  go_region_held3 (fun W => W.cell? ⟨w.heap.size, 0, none⟩ = some (.int .i64 h) ∧ W.cell? ⟨w.heap.size, 1, none⟩ = some (.slice A n c) ∧ W.cell? ⟨w.heap.size, 2, none⟩ = some (.slice B m d)) (first | exact ⟨q0, q1, q2⟩ | exact ⟨b8.cell_ q0, b8.cell_ q1, b8.cell_ q2⟩ | exact ⟨b7.cell_ q0, b7.cell_ q1, b7.cell_ q2⟩)
    (first | (go_at_call 40; refine' (check_any h most A B n c m d F L _ (hA.bel (BB.out.trans (by first | exact Bel.refl _ | exact (Bel.refl _).drew))) (hB.bel (BB.out.trans (by first | exact Bel.refl _ | exact (Bel.refl _).drew)))).mono ?_; rintro e w23 ⟨rfl, b⟩; have b7 : Bel w22 w23 := Bel.trans (by first | exact Bel.refl _ | exact (Bel.refl _).drew) b; clear b) | (go_at_call 41; refine' (checkR_any h most A B n c m d F L _ (hA.bel (BB.out.trans b7)) (hB.bel (BB.out.trans b7))).mono ?_; rintro e w24 ⟨rfl, b⟩; have b8 : Bel w22 w24 := b7.trans b; clear b))
  have B9 := hid_ (BB.out.trans b8)
  clear b8 b7 BB KK q0 q1 q2
  go_wp2
  go_ret
  exact ⟨rfl, B9.out⟩
end Go.Proofs.Ytboaidjhhlidkaa
