/- account.names, account.of. -/
import Derived.Test.YtnpinolhhnpniaaGreatAc1
import Derived.Test.YtnpinolhhnpniaaGreatAccL
set_option linter.unusedSimpArgs false
set_option linter.unusedVariables false
namespace Go.Proofs.YtnpinolhhnpniaaGreat
open Go.RowKit Go.Lib Go.Sort Go.Shelf
set_option maxRecDepth 10000 in
theorem names_any (who asset : ByteArray) (w : World) (h1 : who.size ≤ 9223372036854775807) (h2 : asset.size ≤ 9223372036854775807) :
    Calls Tryz.prog 32 #[.string who, .string asset] w fun e w' => e = .returned (.bool (namedB ⟨who, asset⟩)) ∧ Bel w w' := by
  have H2 := hid_ h2
  clear h2
  go_enter Tryz.func32, Tryz.ntmps32
  go_wp2_with fail
  refine (who_big who w h1).mono ?_
  rintro e w1 ⟨rfl, b⟩
  have HB := hid_ b
  clear b h1
  obtain ⟨q, hq⟩ : ∃ q, whoB who = q := ⟨_, rfl⟩
  rw [hq]
  have HQ := hid_ hq
  clear hq
  cases q
  · have HF : Hid (namedB ⟨who, asset⟩ = false) := hid_ (by unfold namedB; rw [HQ.out]; rfl)
    go_wp2
    go_ret
    exact ⟨by rw [HF.out]; rfl, HB.out⟩
  · go_wp2_with fail
    refine (asset_big asset w1 H2.out).mono ?_
    rintro e w2 ⟨rfl, b⟩
    have HB2 := hid_ (HB.out.trans b)
    have HF : Hid (namedB ⟨who, asset⟩ = assetB asset) := hid_ (by unfold namedB; rw [HQ.out]; rfl)
    clear b
    rw [← HF.out]
    go_wp2
    go_ret
    exact ⟨rfl, HB2.out⟩
set_option maxRecDepth 10000 in
theorem of_acc (a0 a1 : ByteArray) (a2 a3 : Int) (w : World) :
    Calls Tryz.prog 34 #[.agg #[.string a0, .string a1, .int .i64 a2, .int .i64 a3]] w fun e w' => e = .returned (.agg #[.string a0, .string a1]) ∧ Bel w w' := by
  have K := Bx.new (w.alloc (.cells #[.string a0, .string a1, .int .i64 a2, .int .i64 a3] 37)) 56 [.string a0, .string a1]
  rw [sizeAl] at K
  have HK := hid_ K
  clear K
  go_enter Tryz.func34, Tryz.ntmps34
  go_wp2
  refine bodyPost_ret (results_c rfl _ _ (w.heap.size + 1) 56 _ (0, 0) _ rfl HK.out Tryz.underlying56 rfl (by kernel_rfl)) rfl ?_
  exact ⟨rfl, ((Bel.refl _).alloc _).alloc _⟩
end Go.Proofs.YtnpinolhhnpniaaGreat
