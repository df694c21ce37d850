/- The head of all statements of the layer: the calls whose answers the document fixes are answered so. -/
import Derived.Test.YtmjifckmfbfmkaaWalk
import Derived.Lib.SlBytesConst
namespace Go.Proofs.Ytmjifckmfbfmkaa
open Go.RowKit
theorem more_nil (x : W64) : more x [] = x := by simp [more, run]
def s9 : List Int := [49, 50, 51, 52, 53, 54, 55, 56, 57]
theorem more_s9 : more 0#64 s9 = 0x995DC9BBDF1939FA#64 := by decide +kernel
theorem uv_s9 : uv (more 0#64 s9) = 11051210869376104954 := by rw [more_s9]; decide
theorem uv_s9' : uv (more (more 0#64 [49, 50, 51, 52]) [53, 54, 55, 56, 57]) = 11051210869376104954 := by rw [more_append]; exact uv_s9
theorem addz (g j : Nat) : (⟨g, 0, none⟩ : Addr).add j = ⟨g, j, none⟩ := by unfold Addr.add; split <;> simp_all
theorem byts_lit (w : World) (bs : List Int) (fz : Nat × Nat) (hl : bs.length ≤ 9223372036854775807) (hb : ∀ b ∈ bs, 0 ≤ b ∧ b < 256) :
    Byts (w.alloc (.cells (bs.map (Value.int .u8)).toArray 5 fz)) (some ⟨w.heap.size, 0, none⟩) bs.length bs := by
  refine ⟨rfl, hl, fun _ => ⟨_, rfl, fun j hj => ?_⟩, hb⟩
  rw [addz, cell_of_row _ _ _ _ _ _ (heap_alloc_new w _)]
  simp [List.getElem?_eq_getElem hj, List.getD_eq_getElem?_getD]
theorem byts_nil (w : World) : Byts w none 0 [] := ⟨rfl, by omega, fun h => absurd h (by omega), fun b hb => by cases hb⟩
/-- One step behind another. -/
theorem bthen {w w1 w2 : World} (h : Below w.heap.size w w1) (k : Below w1.heap.size w1 w2) : Below w.heap.size w w2 := h.trans (k.mono h.size)
theorem balloc {w w1 w2 : World} {o : Obj} (h : Below w.heap.size w w1) (k : Below (w1.alloc o).heap.size (w1.alloc o) w2) : Below w.heap.size w w2 := bthen (h.alloc h.size o) k
set_option maxHeartbeats 400000 in
theorem awake_any (w : World) :
    Calls Try.prog 8 #[] w fun e w' => e = .returned (.bool true) ∧ Below w.heap.size w w' := by
  have kc := fun (w : World) (C : Array Value) (n c : Nat) => Lib.run_convert_bytes_const (P := Try.prog) w 23 5 C n c Try.underlying23 Try.underlying5
  have h9 := uv_s9
  have h9' := uv_s9'
  have h0 : uv (more 0#64 []) = 0 := by rw [more_nil]; exact uv0.symm
  go_enter Try.func8, Try.ntmps8
  go_wp2_with fail
  refine (sum_any _ _ _ [] _ (byts_nil _)).mono ?_
  rintro e w1 ⟨rfl, hbel1⟩
  go_wp2_with fail
  refine (sum_any _ _ _ s9 _ (byts_lit _ s9 _ (by decide) (by decide))).mono ?_
  rintro e w2 ⟨rfl, hbel2⟩
  go_wp2_with fail
  refine (sum_any _ _ _ [49, 50, 51, 52] _ (byts_lit _ _ _ (by decide) (by decide))).mono ?_
  rintro e w3 ⟨rfl, hbel3⟩
  go_wp2_with fail
  refine (more_any _ _ _ _ [53, 54, 55, 56, 57] _ (byts_lit _ _ _ (by decide) (by decide))).mono ?_
  rintro e w4 ⟨rfl, hbel4⟩
  go_wp2
  go_ret
  exact ⟨rfl, balloc (balloc (balloc hbel1 hbel2) hbel3) hbel4⟩

/-- Bytes that came in. -/
theorem byts_arg {w : World} {a : Option Addr} {len cap : Nat} {zs : List Int}
    (h : (a = none ∧ len = 0 ∧ cap = 0 ∧ zs = []) ∨ ∃ x, a = some x ∧ len ≤ cap ∧ cap ≤ maxLen ∧ zs.length = cap ∧ (∀ i, i < zs.length → w.cell? (x.add i) = some (.int .u8 (zs.getD i 0))) ∧ ∀ n ∈ zs, (Lit.int .u8 n).wf = true) :
    Byts w a len (zs.take len) ∧ len ≤ cap := by
  rcases h with ⟨rfl, rfl, rfl, rfl⟩ | ⟨x, rfl, hl, hm, hz, hc, hwf⟩
  · exact ⟨byts_nil w, by omega⟩
  · refine ⟨⟨?_, ?_, fun _ => ⟨x, rfl, fun j hj => ?_⟩, fun b hb => ?_⟩, hl⟩
    · rw [List.length_take]; omega
    · simp only [maxLen] at hm; omega
    · rw [hc j (by omega)]
      simp [List.getD_eq_getElem?_getD, hj]
    · have := hwf b (List.mem_of_mem_take hb)
      simp [Lit.wf, IntKind.min, IntKind.max, IntKind.signed, IntKind.bits] at this
      omega
theorem u64_arg {a : Int} (h : (Lit.int .u64 a).wf = true) : ∃ x : W64, a = uv x := by
  simp [Lit.wf, IntKind.min, IntKind.max, IntKind.signed, IntKind.bits] at h
  exact uv_of a (by omega) (by omega)
/-! The contracts seen from a world w that came before. -/
theorem sumB {w W : World} {A : Option Addr} {n c : Nat} {bs : List Int} (hB : Byts w A n bs) (hW : Below w.heap.size w W) :
    Calls Try.prog 11 #[.slice A n c] W fun e W' => e = .returned (.int .u64 (uv (more 0#64 bs))) ∧ Below w.heap.size w W' :=
  (sum_any A n c bs W (hB.below hW)).mono fun _ _ h => ⟨h.1, bthen hW h.2⟩
theorem moreB {w W : World} {x : W64} {A : Option Addr} {n c : Nat} {bs : List Int} (hB : Byts w A n bs) (hW : Below w.heap.size w W) :
    Calls Try.prog 9 #[.int .u64 (uv x), .slice A n c] W fun e W' => e = .returned (.int .u64 (uv (more x bs))) ∧ Below w.heap.size w W' :=
  (more_any x A n c bs W (hB.below hW)).mono fun _ _ h => ⟨h.1, bthen hW h.2⟩
end Go.Proofs.Ytmjifckmfbfmkaa
