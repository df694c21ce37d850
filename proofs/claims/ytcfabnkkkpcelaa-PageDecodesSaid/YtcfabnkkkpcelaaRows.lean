/-
  No cell of these rows narrows 'for every input' (looked for: loops, veiled, ifaces, maps, wideKeys, modest, calm, conditions, laid).
  DERIVED. THE GIVEN ROWS OF THIS SEAT. 7 by the template 'for every input the law returns true; each argument reads behind the call as it read before'; 0 by the template 'total and deterministic' (their statements: YtcfabnkkkpcelaaTotals.lean).
  GIVEN WITH THE SEED: the statements are not yours to turn. If you find one false, say at which input.
  Laid BY PROGRAM, IN A SANDBOX (cutbox-rows.mjs): the forced cells as the released guide's own fill.sh prints them over the translation 8dc5fdde785db971… (all of the seat's roots in one cut). By AI agents, Wed Nov 11 2026. No macro, syntax, notation, axiom, sorry.
-/
import Derived.Test.YtcfabnkkkpcelaaChecked
import GoSem.Claim
import GoSem.ClaimJoined
import GoSem.ClaimMapViews
import Derived.JoinedTies
import Derived.KernelRfl
namespace Go.Proofs.Ytcfabnkkkpcelaa
/- THE CELL 'sum', in the pinned program and in every row, IS THE sha256 OF THE DUMP (.gsa) THAT YtcfabnkkkpcelaaProg.lean LOADS. Nothing in Lean hashes anything: it is a label: what it is worth is what the hold of that sum in a sandbox is worth. -/
noncomputable def Try.pinned : Pinned := { name := "ytcfabnkkkpcelaa", sum := "8dc5fdde785db971851d1004f6da066d956baaace8eb10108f3060b75533aa39", checked := Try.checked }
namespace Rows
def none {H : Type} : Left H := { results := [], args := [] }

/-- 'cambistlaw05.PageNames': WHATEVER THE INPUT: true; the input reads as it did. -/
def pageNamesSpec : ChangeSpec := { name := "pageNames", fn := fun _ => fun
  | [] => { results := [.lit (.bool true)], args := [] }
  | _ => none }
def pageNamesRow : OpenClaim := { program := "ytcfabnkkkpcelaa", sum := "8dc5fdde785db971851d1004f6da066d956baaace8eb10108f3060b75533aa39", func := "cambist/cambistlaw05.PageNames", spec := "pageNames", unfollowed := true, recurses := true, apart := false }
def PageNamesSaid : Prop := pageNamesRow.holds Try.pinned (OpenSpec.ofChange pageNamesSpec)

/-- ITS FALSE NEIGHBOUR: 'it returns false'. Refute it at one input. -/
def pageNamesWrong : ChangeSpec := { name := "pageNames", fn := fun _ => fun
  | [] => { results := [.lit (.bool false)], args := [] }
  | _ => none }
def PageNamesWrongFalsely : Prop := pageNamesRow.holds Try.pinned (OpenSpec.ofChange pageNamesWrong)

/-- 'cambistlaw05.PageEncodes': WHATEVER THE INPUT: true; the input reads as it did. -/
def pageEncodesSpec : ChangeSpec := { name := "pageEncodes", fn := fun _ => fun
  | [d1, d2] => { results := [.lit (.bool true)], args := [d1, d2] }
  | _ => none }
def pageEncodesRow : OpenClaim := { program := "ytcfabnkkkpcelaa", sum := "8dc5fdde785db971851d1004f6da066d956baaace8eb10108f3060b75533aa39", func := "cambist/cambistlaw05.PageEncodes", spec := "pageEncodes", unfollowed := true, recurses := true, apart := false }
def PageEncodesSaid : Prop := pageEncodesRow.holds Try.pinned (OpenSpec.ofChange pageEncodesSpec)

/-- ITS FALSE NEIGHBOUR: 'it returns false'. Refute it at one input. -/
def pageEncodesWrong : ChangeSpec := { name := "pageEncodes", fn := fun _ => fun
  | [d1, d2] => { results := [.lit (.bool false)], args := [d1, d2] }
  | _ => none }
def PageEncodesWrongFalsely : Prop := pageEncodesRow.holds Try.pinned (OpenSpec.ofChange pageEncodesWrong)

/-- 'cambistlaw05.PageDecodes': WHATEVER THE INPUT: true; the input reads as it did. -/
def pageDecodesSpec : ChangeSpec := { name := "pageDecodes", fn := fun _ => fun
  | [d1, d2] => { results := [.lit (.bool true)], args := [d1, d2] }
  | _ => none }
def pageDecodesRow : OpenClaim := { program := "ytcfabnkkkpcelaa", sum := "8dc5fdde785db971851d1004f6da066d956baaace8eb10108f3060b75533aa39", func := "cambist/cambistlaw05.PageDecodes", spec := "pageDecodes", unfollowed := true, recurses := true, apart := false }
def PageDecodesSaid : Prop := pageDecodesRow.holds Try.pinned (OpenSpec.ofChange pageDecodesSpec)

/-- ITS FALSE NEIGHBOUR: 'it returns false'. Refute it at one input. -/
def pageDecodesWrong : ChangeSpec := { name := "pageDecodes", fn := fun _ => fun
  | [d1, d2] => { results := [.lit (.bool false)], args := [d1, d2] }
  | _ => none }
def PageDecodesWrongFalsely : Prop := pageDecodesRow.holds Try.pinned (OpenSpec.ofChange pageDecodesWrong)

/-- 'cambistlaw05.PageBack': WHATEVER THE INPUT: true; the input reads as it did. -/
def pageBackSpec : ChangeSpec := { name := "pageBack", fn := fun _ => fun
  | [d1, d2, d3, d4] => { results := [.lit (.bool true)], args := [d1, d2, d3, d4] }
  | _ => none }
def pageBackRow : OpenClaim := { program := "ytcfabnkkkpcelaa", sum := "8dc5fdde785db971851d1004f6da066d956baaace8eb10108f3060b75533aa39", func := "cambist/cambistlaw05.PageBack", spec := "pageBack", unfollowed := true, recurses := true, apart := false }
def PageBackSaid : Prop := pageBackRow.holds Try.pinned (OpenSpec.ofChange pageBackSpec)

/-- ITS FALSE NEIGHBOUR: 'it returns false'. Refute it at one input. -/
def pageBackWrong : ChangeSpec := { name := "pageBack", fn := fun _ => fun
  | [d1, d2, d3, d4] => { results := [.lit (.bool false)], args := [d1, d2, d3, d4] }
  | _ => none }
def PageBackWrongFalsely : Prop := pageBackRow.holds Try.pinned (OpenSpec.ofChange pageBackWrong)

/-- 'cambistlaw05.PageTurns': WHATEVER THE INPUT: true; the input reads as it did. -/
def pageTurnsSpec : ChangeSpec := { name := "pageTurns", fn := fun _ => fun
  | [d1, d2, d3, d4] => { results := [.lit (.bool true)], args := [d1, d2, d3, d4] }
  | _ => none }
def pageTurnsRow : OpenClaim := { program := "ytcfabnkkkpcelaa", sum := "8dc5fdde785db971851d1004f6da066d956baaace8eb10108f3060b75533aa39", func := "cambist/cambistlaw05.PageTurns", spec := "pageTurns", unfollowed := true, recurses := true, apart := false }
def PageTurnsSaid : Prop := pageTurnsRow.holds Try.pinned (OpenSpec.ofChange pageTurnsSpec)

/-- ITS FALSE NEIGHBOUR: 'it returns false'. Refute it at one input. -/
def pageTurnsWrong : ChangeSpec := { name := "pageTurns", fn := fun _ => fun
  | [d1, d2, d3, d4] => { results := [.lit (.bool false)], args := [d1, d2, d3, d4] }
  | _ => none }
def PageTurnsWrongFalsely : Prop := pageTurnsRow.holds Try.pinned (OpenSpec.ofChange pageTurnsWrong)

/-- 'cambistlaw05.PageTears': WHATEVER THE INPUT: true; the input reads as it did. -/
def pageTearsSpec : ChangeSpec := { name := "pageTears", fn := fun _ => fun
  | [d1, d2, d3, d4] => { results := [.lit (.bool true)], args := [d1, d2, d3, d4] }
  | _ => none }
def pageTearsRow : OpenClaim := { program := "ytcfabnkkkpcelaa", sum := "8dc5fdde785db971851d1004f6da066d956baaace8eb10108f3060b75533aa39", func := "cambist/cambistlaw05.PageTears", spec := "pageTears", unfollowed := true, recurses := true, apart := false }
def PageTearsSaid : Prop := pageTearsRow.holds Try.pinned (OpenSpec.ofChange pageTearsSpec)

/-- ITS FALSE NEIGHBOUR: 'it returns false'. Refute it at one input. -/
def pageTearsWrong : ChangeSpec := { name := "pageTears", fn := fun _ => fun
  | [d1, d2, d3, d4] => { results := [.lit (.bool false)], args := [d1, d2, d3, d4] }
  | _ => none }
def PageTearsWrongFalsely : Prop := pageTearsRow.holds Try.pinned (OpenSpec.ofChange pageTearsWrong)

/-- 'cambistlaw05.PagePlaces': WHATEVER THE INPUT: true; the input reads as it did. -/
def pagePlacesSpec : ChangeSpec := { name := "pagePlaces", fn := fun _ => fun
  | [d1, d2] => { results := [.lit (.bool true)], args := [d1, d2] }
  | _ => none }
def pagePlacesRow : OpenClaim := { program := "ytcfabnkkkpcelaa", sum := "8dc5fdde785db971851d1004f6da066d956baaace8eb10108f3060b75533aa39", func := "cambist/cambistlaw05.PagePlaces", spec := "pagePlaces", unfollowed := true, recurses := true, apart := false }
def PagePlacesSaid : Prop := pagePlacesRow.holds Try.pinned (OpenSpec.ofChange pagePlacesSpec)

/-- ITS FALSE NEIGHBOUR: 'it returns false'. Refute it at one input. -/
def pagePlacesWrong : ChangeSpec := { name := "pagePlaces", fn := fun _ => fun
  | [d1, d2] => { results := [.lit (.bool false)], args := [d1, d2] }
  | _ => none }
def PagePlacesWrongFalsely : Prop := pagePlacesRow.holds Try.pinned (OpenSpec.ofChange pagePlacesWrong)

/- THE SECOND FORM. 'bulk': how many values and letters a reading holds, each counted each time it is reached (what is shared counts as often as it is met; a slice's spare places count too). A statement '..UptoSaid' is the law's where the arguments, and the package variables that the reading takes, are together of bulk at most 1048576: NARROWER than '..Said'. Prove '..Said' where nothing that the law and all that it calls make is longer than what came in: it says more and counts as full. Else prove '..UptoSaid'. A law counts once. -/
mutual
def uptoBulk {H : Type} : DataW H → Nat
  | .lit (.string bytes) => bytes.length + 1
  | .lit _ => 1
  | .nil => 1
  | .ptr d => uptoBulk d + 1
  | .slice elems spare => uptoBulkAll elems + uptoBulkAll spare + 1
  | .agg parts => uptoBulkAll parts + 1
  | .iface _ d => uptoBulk d + 1
  | .map entries => uptoBulkEntries entries + 1
  | .held _ => 1
def uptoBulkAll {H : Type} : List (DataW H) → Nat
  | [] => 0
  | d :: r => uptoBulk d + uptoBulkAll r
def uptoBulkEntries {H : Type} : List (Lit × DataW H) → Nat
  | [] => 0
  | x :: r => uptoBulkEntry x + uptoBulkEntries r
def uptoBulkEntry {H : Type} : Lit × DataW H → Nat
  | (.string bytes, d) => bytes.length + uptoBulk d + 1
  | (_, d) => uptoBulk d + 1
 end
def uptoSmall : (H : Type) → List (DataW H) → Bool := fun _ ds => decide (uptoBulkAll ds ≤ 1048576)
def OpenSpec.upto (s : _root_.Go.ChangeSpec) : _root_.Go.OpenSpec := { _root_.Go.OpenSpec.ofChange s with cond := some uptoSmall }

/-- 'cambistlaw05.PageNames', WHERE WHAT IT READS IS OF BULK AT MOST 1048576: true; the input reads as it did. -/
def pageNamesUptoRow : OpenClaim := { program := "ytcfabnkkkpcelaa", sum := "8dc5fdde785db971851d1004f6da066d956baaace8eb10108f3060b75533aa39", func := "cambist/cambistlaw05.PageNames", spec := "pageNames", unfollowed := true, recurses := true, apart := false, narrowed := true }
def PageNamesUptoSaid : Prop := pageNamesUptoRow.holds Try.pinned (OpenSpec.upto pageNamesSpec)

/-- 'cambistlaw05.PageEncodes', WHERE WHAT IT READS IS OF BULK AT MOST 1048576: true; the input reads as it did. -/
def pageEncodesUptoRow : OpenClaim := { program := "ytcfabnkkkpcelaa", sum := "8dc5fdde785db971851d1004f6da066d956baaace8eb10108f3060b75533aa39", func := "cambist/cambistlaw05.PageEncodes", spec := "pageEncodes", unfollowed := true, recurses := true, apart := false, narrowed := true }
def PageEncodesUptoSaid : Prop := pageEncodesUptoRow.holds Try.pinned (OpenSpec.upto pageEncodesSpec)

/-- 'cambistlaw05.PageDecodes', WHERE WHAT IT READS IS OF BULK AT MOST 1048576: true; the input reads as it did. -/
def pageDecodesUptoRow : OpenClaim := { program := "ytcfabnkkkpcelaa", sum := "8dc5fdde785db971851d1004f6da066d956baaace8eb10108f3060b75533aa39", func := "cambist/cambistlaw05.PageDecodes", spec := "pageDecodes", unfollowed := true, recurses := true, apart := false, narrowed := true }
def PageDecodesUptoSaid : Prop := pageDecodesUptoRow.holds Try.pinned (OpenSpec.upto pageDecodesSpec)

/-- 'cambistlaw05.PageBack', WHERE WHAT IT READS IS OF BULK AT MOST 1048576: true; the input reads as it did. -/
def pageBackUptoRow : OpenClaim := { program := "ytcfabnkkkpcelaa", sum := "8dc5fdde785db971851d1004f6da066d956baaace8eb10108f3060b75533aa39", func := "cambist/cambistlaw05.PageBack", spec := "pageBack", unfollowed := true, recurses := true, apart := false, narrowed := true }
def PageBackUptoSaid : Prop := pageBackUptoRow.holds Try.pinned (OpenSpec.upto pageBackSpec)

/-- 'cambistlaw05.PageTurns', WHERE WHAT IT READS IS OF BULK AT MOST 1048576: true; the input reads as it did. -/
def pageTurnsUptoRow : OpenClaim := { program := "ytcfabnkkkpcelaa", sum := "8dc5fdde785db971851d1004f6da066d956baaace8eb10108f3060b75533aa39", func := "cambist/cambistlaw05.PageTurns", spec := "pageTurns", unfollowed := true, recurses := true, apart := false, narrowed := true }
def PageTurnsUptoSaid : Prop := pageTurnsUptoRow.holds Try.pinned (OpenSpec.upto pageTurnsSpec)

/-- 'cambistlaw05.PageTears', WHERE WHAT IT READS IS OF BULK AT MOST 1048576: true; the input reads as it did. -/
def pageTearsUptoRow : OpenClaim := { program := "ytcfabnkkkpcelaa", sum := "8dc5fdde785db971851d1004f6da066d956baaace8eb10108f3060b75533aa39", func := "cambist/cambistlaw05.PageTears", spec := "pageTears", unfollowed := true, recurses := true, apart := false, narrowed := true }
def PageTearsUptoSaid : Prop := pageTearsUptoRow.holds Try.pinned (OpenSpec.upto pageTearsSpec)

/-- 'cambistlaw05.PagePlaces', WHERE WHAT IT READS IS OF BULK AT MOST 1048576: true; the input reads as it did. -/
def pagePlacesUptoRow : OpenClaim := { program := "ytcfabnkkkpcelaa", sum := "8dc5fdde785db971851d1004f6da066d956baaace8eb10108f3060b75533aa39", func := "cambist/cambistlaw05.PagePlaces", spec := "pagePlaces", unfollowed := true, recurses := true, apart := false, narrowed := true }
def PagePlacesUptoSaid : Prop := pagePlacesUptoRow.holds Try.pinned (OpenSpec.upto pagePlacesSpec)

end Rows
end Go.Proofs.Ytcfabnkkkpcelaa
