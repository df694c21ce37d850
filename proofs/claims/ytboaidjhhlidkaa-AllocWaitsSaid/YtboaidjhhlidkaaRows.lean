/-
  No cell of these rows narrows 'for every input' (looked for: loops, veiled, ifaces, maps, wideKeys, modest, calm, conditions, laid).
  DERIVED. THE GIVEN ROWS OF THIS SEAT. 19 by the template 'for every input the law returns true; each argument reads behind the call as it read before'; 0 by the template 'total and deterministic' (their statements: YtboaidjhhlidkaaTotals.lean).
  GIVEN WITH THE SEED: the statements are not yours to turn. If you find one false, say at which input.
  Laid BY PROGRAM, IN A SANDBOX (cutbox-rows.mjs): the forced cells as the released guide's own fill.sh prints them over the translation 3562a67ca6b54427… (all of the seat's roots in one cut). By AI agents, Wed Nov 11 2026. No macro, syntax, notation, axiom, sorry.
-/
import Derived.Test.YtboaidjhhlidkaaChecked
import GoSem.Claim
import GoSem.ClaimJoined
import GoSem.ClaimMapViews
import Derived.JoinedTies
import Derived.KernelRfl
namespace Go.Proofs.Ytboaidjhhlidkaa
/- THE CELL 'sum', in the pinned program and in every row, IS THE sha256 OF THE DUMP (.gsa) THAT YtboaidjhhlidkaaProg.lean LOADS. Nothing in Lean hashes anything: it is a label: what it is worth is what the hold of that sum in a sandbox is worth. -/
noncomputable def Try.pinned : Pinned := { name := "ytboaidjhhlidkaa", sum := "3562a67ca6b54427654e2149249362c76ef6d78d7c3b36af22d4d8167390e9c9", checked := Try.checked }
namespace Rows
def none {H : Type} : Left H := { results := [], args := [] }

/-- 'cambistlaw14.AuctionBest': WHATEVER THE INPUT: true; the input reads as it did. -/
def auctionBestSpec : ChangeSpec := { name := "auctionBest", fn := fun _ => fun
  | [d1, d2, d3, d4] => { results := [.lit (.bool true)], args := [d1, d2, d3, d4] }
  | _ => none }
def auctionBestRow : OpenClaim := { program := "ytboaidjhhlidkaa", sum := "3562a67ca6b54427654e2149249362c76ef6d78d7c3b36af22d4d8167390e9c9", func := "cambist/cambistlaw14.AuctionBest", spec := "auctionBest", unfollowed := true, recurses := true, apart := false }
def AuctionBestSaid : Prop := auctionBestRow.holds Try.pinned (OpenSpec.ofChange auctionBestSpec)

/-- ITS FALSE NEIGHBOUR: 'it returns false'. Refute it at one input. -/
def auctionBestWrong : ChangeSpec := { name := "auctionBest", fn := fun _ => fun
  | [d1, d2, d3, d4] => { results := [.lit (.bool false)], args := [d1, d2, d3, d4] }
  | _ => none }
def AuctionBestWrongFalsely : Prop := auctionBestRow.holds Try.pinned (OpenSpec.ofChange auctionBestWrong)

/-- 'cambistlaw14.AuctionFills': WHATEVER THE INPUT: true; the input reads as it did. -/
def auctionFillsSpec : ChangeSpec := { name := "auctionFills", fn := fun _ => fun
  | [d1, d2] => { results := [.lit (.bool true)], args := [d1, d2] }
  | _ => none }
def auctionFillsRow : OpenClaim := { program := "ytboaidjhhlidkaa", sum := "3562a67ca6b54427654e2149249362c76ef6d78d7c3b36af22d4d8167390e9c9", func := "cambist/cambistlaw14.AuctionFills", spec := "auctionFills", unfollowed := true, recurses := true, apart := false }
def AuctionFillsSaid : Prop := auctionFillsRow.holds Try.pinned (OpenSpec.ofChange auctionFillsSpec)

/-- ITS FALSE NEIGHBOUR: 'it returns false'. Refute it at one input. -/
def auctionFillsWrong : ChangeSpec := { name := "auctionFills", fn := fun _ => fun
  | [d1, d2] => { results := [.lit (.bool false)], args := [d1, d2] }
  | _ => none }
def AuctionFillsWrongFalsely : Prop := auctionFillsRow.holds Try.pinned (OpenSpec.ofChange auctionFillsWrong)

/-- 'cambistlaw14.AuctionMore': WHATEVER THE INPUT: true; the input reads as it did. -/
def auctionMoreSpec : ChangeSpec := { name := "auctionMore", fn := fun _ => fun
  | [d1, d2, d3, d4, d5] => { results := [.lit (.bool true)], args := [d1, d2, d3, d4, d5] }
  | _ => none }
def auctionMoreRow : OpenClaim := { program := "ytboaidjhhlidkaa", sum := "3562a67ca6b54427654e2149249362c76ef6d78d7c3b36af22d4d8167390e9c9", func := "cambist/cambistlaw14.AuctionMore", spec := "auctionMore", unfollowed := true, recurses := true, apart := false }
def AuctionMoreSaid : Prop := auctionMoreRow.holds Try.pinned (OpenSpec.ofChange auctionMoreSpec)

/-- ITS FALSE NEIGHBOUR: 'it returns false'. Refute it at one input. -/
def auctionMoreWrong : ChangeSpec := { name := "auctionMore", fn := fun _ => fun
  | [d1, d2, d3, d4, d5] => { results := [.lit (.bool false)], args := [d1, d2, d3, d4, d5] }
  | _ => none }
def AuctionMoreWrongFalsely : Prop := auctionMoreRow.holds Try.pinned (OpenSpec.ofChange auctionMoreWrong)

/-- 'cambistlaw14.AuctionTwo': WHATEVER THE INPUT: true; the input reads as it did. -/
def auctionTwoSpec : ChangeSpec := { name := "auctionTwo", fn := fun _ => fun
  | [d1, d2] => { results := [.lit (.bool true)], args := [d1, d2] }
  | _ => none }
def auctionTwoRow : OpenClaim := { program := "ytboaidjhhlidkaa", sum := "3562a67ca6b54427654e2149249362c76ef6d78d7c3b36af22d4d8167390e9c9", func := "cambist/cambistlaw14.AuctionTwo", spec := "auctionTwo", unfollowed := true, recurses := true, apart := false }
def AuctionTwoSaid : Prop := auctionTwoRow.holds Try.pinned (OpenSpec.ofChange auctionTwoSpec)

/-- ITS FALSE NEIGHBOUR: 'it returns false'. Refute it at one input. -/
def auctionTwoWrong : ChangeSpec := { name := "auctionTwo", fn := fun _ => fun
  | [d1, d2] => { results := [.lit (.bool false)], args := [d1, d2] }
  | _ => none }
def AuctionTwoWrongFalsely : Prop := auctionTwoRow.holds Try.pinned (OpenSpec.ofChange auctionTwoWrong)

/-- 'cambistlaw06.AllocNames': WHATEVER THE INPUT: true; the input reads as it did. -/
def allocNamesSpec : ChangeSpec := { name := "allocNames", fn := fun _ => fun
  | [] => { results := [.lit (.bool true)], args := [] }
  | _ => none }
def allocNamesRow : OpenClaim := { program := "ytboaidjhhlidkaa", sum := "3562a67ca6b54427654e2149249362c76ef6d78d7c3b36af22d4d8167390e9c9", func := "cambist/cambistlaw06.AllocNames", spec := "allocNames", unfollowed := true, recurses := true, apart := false }
def AllocNamesSaid : Prop := allocNamesRow.holds Try.pinned (OpenSpec.ofChange allocNamesSpec)

/-- ITS FALSE NEIGHBOUR: 'it returns false'. Refute it at one input. -/
def allocNamesWrong : ChangeSpec := { name := "allocNames", fn := fun _ => fun
  | [] => { results := [.lit (.bool false)], args := [] }
  | _ => none }
def AllocNamesWrongFalsely : Prop := allocNamesRow.holds Try.pinned (OpenSpec.ofChange allocNamesWrong)

/-- 'cambistlaw06.AllocTells': WHATEVER THE INPUT: true; the input reads as it did. -/
def allocTellsSpec : ChangeSpec := { name := "allocTells", fn := fun _ => fun
  | [d1, d2, d3] => { results := [.lit (.bool true)], args := [d1, d2, d3] }
  | _ => none }
def allocTellsRow : OpenClaim := { program := "ytboaidjhhlidkaa", sum := "3562a67ca6b54427654e2149249362c76ef6d78d7c3b36af22d4d8167390e9c9", func := "cambist/cambistlaw06.AllocTells", spec := "allocTells", unfollowed := true, recurses := true, apart := false }
def AllocTellsSaid : Prop := allocTellsRow.holds Try.pinned (OpenSpec.ofChange allocTellsSpec)

/-- ITS FALSE NEIGHBOUR: 'it returns false'. Refute it at one input. -/
def allocTellsWrong : ChangeSpec := { name := "allocTells", fn := fun _ => fun
  | [d1, d2, d3] => { results := [.lit (.bool false)], args := [d1, d2, d3] }
  | _ => none }
def AllocTellsWrongFalsely : Prop := allocTellsRow.holds Try.pinned (OpenSpec.ofChange allocTellsWrong)

/-- 'cambistlaw06.AllocLists': WHATEVER THE INPUT: true; the input reads as it did. -/
def allocListsSpec : ChangeSpec := { name := "allocLists", fn := fun _ => fun
  | [d1, d2, d3] => { results := [.lit (.bool true)], args := [d1, d2, d3] }
  | _ => none }
def allocListsRow : OpenClaim := { program := "ytboaidjhhlidkaa", sum := "3562a67ca6b54427654e2149249362c76ef6d78d7c3b36af22d4d8167390e9c9", func := "cambist/cambistlaw06.AllocLists", spec := "allocLists", unfollowed := true, recurses := true, apart := false }
def AllocListsSaid : Prop := allocListsRow.holds Try.pinned (OpenSpec.ofChange allocListsSpec)

/-- ITS FALSE NEIGHBOUR: 'it returns false'. Refute it at one input. -/
def allocListsWrong : ChangeSpec := { name := "allocLists", fn := fun _ => fun
  | [d1, d2, d3] => { results := [.lit (.bool false)], args := [d1, d2, d3] }
  | _ => none }
def AllocListsWrongFalsely : Prop := allocListsRow.holds Try.pinned (OpenSpec.ofChange allocListsWrong)

/-- 'cambistlaw06.AllocStays': WHATEVER THE INPUT: true; the input reads as it did. -/
def allocStaysSpec : ChangeSpec := { name := "allocStays", fn := fun _ => fun
  | [d1, d2, d3] => { results := [.lit (.bool true)], args := [d1, d2, d3] }
  | _ => none }
def allocStaysRow : OpenClaim := { program := "ytboaidjhhlidkaa", sum := "3562a67ca6b54427654e2149249362c76ef6d78d7c3b36af22d4d8167390e9c9", func := "cambist/cambistlaw06.AllocStays", spec := "allocStays", unfollowed := true, recurses := true, apart := false }
def AllocStaysSaid : Prop := allocStaysRow.holds Try.pinned (OpenSpec.ofChange allocStaysSpec)

/-- ITS FALSE NEIGHBOUR: 'it returns false'. Refute it at one input. -/
def allocStaysWrong : ChangeSpec := { name := "allocStays", fn := fun _ => fun
  | [d1, d2, d3] => { results := [.lit (.bool false)], args := [d1, d2, d3] }
  | _ => none }
def AllocStaysWrongFalsely : Prop := allocStaysRow.holds Try.pinned (OpenSpec.ofChange allocStaysWrong)

/-- 'cambistlaw06.AllocWaits': WHATEVER THE INPUT: true; the input reads as it did. -/
def allocWaitsSpec : ChangeSpec := { name := "allocWaits", fn := fun _ => fun
  | [d1, d2, d3] => { results := [.lit (.bool true)], args := [d1, d2, d3] }
  | _ => none }
def allocWaitsRow : OpenClaim := { program := "ytboaidjhhlidkaa", sum := "3562a67ca6b54427654e2149249362c76ef6d78d7c3b36af22d4d8167390e9c9", func := "cambist/cambistlaw06.AllocWaits", spec := "allocWaits", unfollowed := true, recurses := true, apart := false }
def AllocWaitsSaid : Prop := allocWaitsRow.holds Try.pinned (OpenSpec.ofChange allocWaitsSpec)

/-- ITS FALSE NEIGHBOUR: 'it returns false'. Refute it at one input. -/
def allocWaitsWrong : ChangeSpec := { name := "allocWaits", fn := fun _ => fun
  | [d1, d2, d3] => { results := [.lit (.bool false)], args := [d1, d2, d3] }
  | _ => none }
def AllocWaitsWrongFalsely : Prop := allocWaitsRow.holds Try.pinned (OpenSpec.ofChange allocWaitsWrong)

/-- 'cambistlaw06.AllocBack': WHATEVER THE INPUT: true; the input reads as it did. -/
def allocBackSpec : ChangeSpec := { name := "allocBack", fn := fun _ => fun
  | [d] => { results := [.lit (.bool true)], args := [d] }
  | _ => none }
def allocBackRow : OpenClaim := { program := "ytboaidjhhlidkaa", sum := "3562a67ca6b54427654e2149249362c76ef6d78d7c3b36af22d4d8167390e9c9", func := "cambist/cambistlaw06.AllocBack", spec := "allocBack", unfollowed := true, recurses := true, apart := false }
def AllocBackSaid : Prop := allocBackRow.holds Try.pinned (OpenSpec.ofChange allocBackSpec)

/-- ITS FALSE NEIGHBOUR: 'it returns false'. Refute it at one input. -/
def allocBackWrong : ChangeSpec := { name := "allocBack", fn := fun _ => fun
  | [d] => { results := [.lit (.bool false)], args := [d] }
  | _ => none }
def AllocBackWrongFalsely : Prop := allocBackRow.holds Try.pinned (OpenSpec.ofChange allocBackWrong)

/-- 'cambistlaw06.AllocLow': WHATEVER THE INPUT: true; the input reads as it did. -/
def allocLowSpec : ChangeSpec := { name := "allocLow", fn := fun _ => fun
  | [d1, d2] => { results := [.lit (.bool true)], args := [d1, d2] }
  | _ => none }
def allocLowRow : OpenClaim := { program := "ytboaidjhhlidkaa", sum := "3562a67ca6b54427654e2149249362c76ef6d78d7c3b36af22d4d8167390e9c9", func := "cambist/cambistlaw06.AllocLow", spec := "allocLow", unfollowed := true, recurses := true, apart := false }
def AllocLowSaid : Prop := allocLowRow.holds Try.pinned (OpenSpec.ofChange allocLowSpec)

/-- ITS FALSE NEIGHBOUR: 'it returns false'. Refute it at one input. -/
def allocLowWrong : ChangeSpec := { name := "allocLow", fn := fun _ => fun
  | [d1, d2] => { results := [.lit (.bool false)], args := [d1, d2] }
  | _ => none }
def AllocLowWrongFalsely : Prop := allocLowRow.holds Try.pinned (OpenSpec.ofChange allocLowWrong)

/-- 'cambistlaw05.PageNames': WHATEVER THE INPUT: true; the input reads as it did. -/
def pageNamesSpec : ChangeSpec := { name := "pageNames", fn := fun _ => fun
  | [] => { results := [.lit (.bool true)], args := [] }
  | _ => none }
def pageNamesRow : OpenClaim := { program := "ytboaidjhhlidkaa", sum := "3562a67ca6b54427654e2149249362c76ef6d78d7c3b36af22d4d8167390e9c9", func := "cambist/cambistlaw05.PageNames", spec := "pageNames", unfollowed := true, recurses := true, apart := false }
def PageNamesSaid : Prop := pageNamesRow.holds Try.pinned (OpenSpec.ofChange pageNamesSpec)

/-- ITS FALSE NEIGHBOUR: 'it returns false'. Refute it at one input. -/
def pageNamesWrong : ChangeSpec := { name := "pageNames", fn := fun _ => fun
  | [] => { results := [.lit (.bool false)], args := [] }
  | _ => none }
def PageNamesWrongFalsely : Prop := pageNamesRow.holds Try.pinned (OpenSpec.ofChange pageNamesWrong)

/-- 'cambistlaw05.PageEncodes': WHATEVER THE INPUT: true; the input reads as it did. -/
def pageEncodesSpec : ChangeSpec := { name := "pageEncodes", fn := fun _ => fun
  | [d1, d2] => { results := [.lit (.bool true)], args := [d1, d2] }
  | _ => none }
def pageEncodesRow : OpenClaim := { program := "ytboaidjhhlidkaa", sum := "3562a67ca6b54427654e2149249362c76ef6d78d7c3b36af22d4d8167390e9c9", func := "cambist/cambistlaw05.PageEncodes", spec := "pageEncodes", unfollowed := true, recurses := true, apart := false }
def PageEncodesSaid : Prop := pageEncodesRow.holds Try.pinned (OpenSpec.ofChange pageEncodesSpec)

/-- ITS FALSE NEIGHBOUR: 'it returns false'. Refute it at one input. -/
def pageEncodesWrong : ChangeSpec := { name := "pageEncodes", fn := fun _ => fun
  | [d1, d2] => { results := [.lit (.bool false)], args := [d1, d2] }
  | _ => none }
def PageEncodesWrongFalsely : Prop := pageEncodesRow.holds Try.pinned (OpenSpec.ofChange pageEncodesWrong)

/-- 'cambistlaw05.PageDecodes': WHATEVER THE INPUT: true; the input reads as it did. -/
def pageDecodesSpec : ChangeSpec := { name := "pageDecodes", fn := fun _ => fun
  | [d1, d2] => { results := [.lit (.bool true)], args := [d1, d2] }
  | _ => none }
def pageDecodesRow : OpenClaim := { program := "ytboaidjhhlidkaa", sum := "3562a67ca6b54427654e2149249362c76ef6d78d7c3b36af22d4d8167390e9c9", func := "cambist/cambistlaw05.PageDecodes", spec := "pageDecodes", unfollowed := true, recurses := true, apart := false }
def PageDecodesSaid : Prop := pageDecodesRow.holds Try.pinned (OpenSpec.ofChange pageDecodesSpec)

/-- ITS FALSE NEIGHBOUR: 'it returns false'. Refute it at one input. -/
def pageDecodesWrong : ChangeSpec := { name := "pageDecodes", fn := fun _ => fun
  | [d1, d2] => { results := [.lit (.bool false)], args := [d1, d2] }
  | _ => none }
def PageDecodesWrongFalsely : Prop := pageDecodesRow.holds Try.pinned (OpenSpec.ofChange pageDecodesWrong)

/-- 'cambistlaw05.PageBack': WHATEVER THE INPUT: true; the input reads as it did. -/
def pageBackSpec : ChangeSpec := { name := "pageBack", fn := fun _ => fun
  | [d1, d2, d3, d4] => { results := [.lit (.bool true)], args := [d1, d2, d3, d4] }
  | _ => none }
def pageBackRow : OpenClaim := { program := "ytboaidjhhlidkaa", sum := "3562a67ca6b54427654e2149249362c76ef6d78d7c3b36af22d4d8167390e9c9", func := "cambist/cambistlaw05.PageBack", spec := "pageBack", unfollowed := true, recurses := true, apart := false }
def PageBackSaid : Prop := pageBackRow.holds Try.pinned (OpenSpec.ofChange pageBackSpec)

/-- ITS FALSE NEIGHBOUR: 'it returns false'. Refute it at one input. -/
def pageBackWrong : ChangeSpec := { name := "pageBack", fn := fun _ => fun
  | [d1, d2, d3, d4] => { results := [.lit (.bool false)], args := [d1, d2, d3, d4] }
  | _ => none }
def PageBackWrongFalsely : Prop := pageBackRow.holds Try.pinned (OpenSpec.ofChange pageBackWrong)

/-- 'cambistlaw05.PageTurns': WHATEVER THE INPUT: true; the input reads as it did. -/
def pageTurnsSpec : ChangeSpec := { name := "pageTurns", fn := fun _ => fun
  | [d1, d2, d3, d4] => { results := [.lit (.bool true)], args := [d1, d2, d3, d4] }
  | _ => none }
def pageTurnsRow : OpenClaim := { program := "ytboaidjhhlidkaa", sum := "3562a67ca6b54427654e2149249362c76ef6d78d7c3b36af22d4d8167390e9c9", func := "cambist/cambistlaw05.PageTurns", spec := "pageTurns", unfollowed := true, recurses := true, apart := false }
def PageTurnsSaid : Prop := pageTurnsRow.holds Try.pinned (OpenSpec.ofChange pageTurnsSpec)

/-- ITS FALSE NEIGHBOUR: 'it returns false'. Refute it at one input. -/
def pageTurnsWrong : ChangeSpec := { name := "pageTurns", fn := fun _ => fun
  | [d1, d2, d3, d4] => { results := [.lit (.bool false)], args := [d1, d2, d3, d4] }
  | _ => none }
def PageTurnsWrongFalsely : Prop := pageTurnsRow.holds Try.pinned (OpenSpec.ofChange pageTurnsWrong)

/-- 'cambistlaw05.PageTears': WHATEVER THE INPUT: true; the input reads as it did. -/
def pageTearsSpec : ChangeSpec := { name := "pageTears", fn := fun _ => fun
  | [d1, d2, d3, d4] => { results := [.lit (.bool true)], args := [d1, d2, d3, d4] }
  | _ => none }
def pageTearsRow : OpenClaim := { program := "ytboaidjhhlidkaa", sum := "3562a67ca6b54427654e2149249362c76ef6d78d7c3b36af22d4d8167390e9c9", func := "cambist/cambistlaw05.PageTears", spec := "pageTears", unfollowed := true, recurses := true, apart := false }
def PageTearsSaid : Prop := pageTearsRow.holds Try.pinned (OpenSpec.ofChange pageTearsSpec)

/-- ITS FALSE NEIGHBOUR: 'it returns false'. Refute it at one input. -/
def pageTearsWrong : ChangeSpec := { name := "pageTears", fn := fun _ => fun
  | [d1, d2, d3, d4] => { results := [.lit (.bool false)], args := [d1, d2, d3, d4] }
  | _ => none }
def PageTearsWrongFalsely : Prop := pageTearsRow.holds Try.pinned (OpenSpec.ofChange pageTearsWrong)

/-- 'cambistlaw05.PagePlaces': WHATEVER THE INPUT: true; the input reads as it did. -/
def pagePlacesSpec : ChangeSpec := { name := "pagePlaces", fn := fun _ => fun
  | [d1, d2] => { results := [.lit (.bool true)], args := [d1, d2] }
  | _ => none }
def pagePlacesRow : OpenClaim := { program := "ytboaidjhhlidkaa", sum := "3562a67ca6b54427654e2149249362c76ef6d78d7c3b36af22d4d8167390e9c9", func := "cambist/cambistlaw05.PagePlaces", spec := "pagePlaces", unfollowed := true, recurses := true, apart := false }
def PagePlacesSaid : Prop := pagePlacesRow.holds Try.pinned (OpenSpec.ofChange pagePlacesSpec)

/-- ITS FALSE NEIGHBOUR: 'it returns false'. Refute it at one input. -/
def pagePlacesWrong : ChangeSpec := { name := "pagePlaces", fn := fun _ => fun
  | [d1, d2] => { results := [.lit (.bool false)], args := [d1, d2] }
  | _ => none }
def PagePlacesWrongFalsely : Prop := pagePlacesRow.holds Try.pinned (OpenSpec.ofChange pagePlacesWrong)

/-- 'cambistlaw14.AuctionFair': WHATEVER THE INPUT: true; the input reads as it did. -/
def auctionFairSpec : ChangeSpec := { name := "auctionFair", fn := fun _ => fun
  | [d1, d2] => { results := [.lit (.bool true)], args := [d1, d2] }
  | _ => none }
def auctionFairRow : OpenClaim := { program := "ytboaidjhhlidkaa", sum := "3562a67ca6b54427654e2149249362c76ef6d78d7c3b36af22d4d8167390e9c9", func := "cambist/cambistlaw14.AuctionFair", spec := "auctionFair", unfollowed := true, recurses := true, apart := false }
def AuctionFairSaid : Prop := auctionFairRow.holds Try.pinned (OpenSpec.ofChange auctionFairSpec)

/-- ITS FALSE NEIGHBOUR: 'it returns false'. Refute it at one input. -/
def auctionFairWrong : ChangeSpec := { name := "auctionFair", fn := fun _ => fun
  | [d1, d2] => { results := [.lit (.bool false)], args := [d1, d2] }
  | _ => none }
def AuctionFairWrongFalsely : Prop := auctionFairRow.holds Try.pinned (OpenSpec.ofChange auctionFairWrong)

/- THE SECOND FORM. 'bulk': how many values and letters a reading holds, each counted each time it is reached (what is shared counts as often as it is met; a slice's spare places count too). A statement '..UptoSaid' is the law's where the arguments, and the package variables that the reading takes, are together of bulk at most 1048576: NARROWER than '..Said'. Prove '..Said' where nothing that the law and all that it calls make is longer than what came in: it says more and counts as full. Else prove '..UptoSaid'. A law counts once. -/
mutual
def uptoBulk {H : Type} : DataW H → Nat
  | .lit (.string bytes) => bytes.length + 1
  | .lit _ => 1
  | .nil => 1
  | .ptr d => uptoBulk d + 1
  | .slice elems spare => uptoBulkAll elems + uptoBulkAll spare + 1
  | .agg parts => uptoBulkAll parts + 1
  | .iface _ d => uptoBulk d + 1
  | .map entries => uptoBulkEntries entries + 1
  | .held _ => 1
def uptoBulkAll {H : Type} : List (DataW H) → Nat
  | [] => 0
  | d :: r => uptoBulk d + uptoBulkAll r
def uptoBulkEntries {H : Type} : List (Lit × DataW H) → Nat
  | [] => 0
  | x :: r => uptoBulkEntry x + uptoBulkEntries r
def uptoBulkEntry {H : Type} : Lit × DataW H → Nat
  | (.string bytes, d) => bytes.length + uptoBulk d + 1
  | (_, d) => uptoBulk d + 1
 end
def uptoSmall : (H : Type) → List (DataW H) → Bool := fun _ ds => decide (uptoBulkAll ds ≤ 1048576)
def OpenSpec.upto (s : _root_.Go.ChangeSpec) : _root_.Go.OpenSpec := { _root_.Go.OpenSpec.ofChange s with cond := some uptoSmall }

/-- 'cambistlaw14.AuctionBest', WHERE WHAT IT READS IS OF BULK AT MOST 1048576: true; the input reads as it did. -/
def auctionBestUptoRow : OpenClaim := { program := "ytboaidjhhlidkaa", sum := "3562a67ca6b54427654e2149249362c76ef6d78d7c3b36af22d4d8167390e9c9", func := "cambist/cambistlaw14.AuctionBest", spec := "auctionBest", unfollowed := true, recurses := true, apart := false, narrowed := true }
def AuctionBestUptoSaid : Prop := auctionBestUptoRow.holds Try.pinned (OpenSpec.upto auctionBestSpec)

/-- 'cambistlaw14.AuctionFills', WHERE WHAT IT READS IS OF BULK AT MOST 1048576: true; the input reads as it did. -/
def auctionFillsUptoRow : OpenClaim := { program := "ytboaidjhhlidkaa", sum := "3562a67ca6b54427654e2149249362c76ef6d78d7c3b36af22d4d8167390e9c9", func := "cambist/cambistlaw14.AuctionFills", spec := "auctionFills", unfollowed := true, recurses := true, apart := false, narrowed := true }
def AuctionFillsUptoSaid : Prop := auctionFillsUptoRow.holds Try.pinned (OpenSpec.upto auctionFillsSpec)

/-- 'cambistlaw14.AuctionMore', WHERE WHAT IT READS IS OF BULK AT MOST 1048576: true; the input reads as it did. -/
def auctionMoreUptoRow : OpenClaim := { program := "ytboaidjhhlidkaa", sum := "3562a67ca6b54427654e2149249362c76ef6d78d7c3b36af22d4d8167390e9c9", func := "cambist/cambistlaw14.AuctionMore", spec := "auctionMore", unfollowed := true, recurses := true, apart := false, narrowed := true }
def AuctionMoreUptoSaid : Prop := auctionMoreUptoRow.holds Try.pinned (OpenSpec.upto auctionMoreSpec)

/-- 'cambistlaw14.AuctionTwo', WHERE WHAT IT READS IS OF BULK AT MOST 1048576: true; the input reads as it did. -/
def auctionTwoUptoRow : OpenClaim := { program := "ytboaidjhhlidkaa", sum := "3562a67ca6b54427654e2149249362c76ef6d78d7c3b36af22d4d8167390e9c9", func := "cambist/cambistlaw14.AuctionTwo", spec := "auctionTwo", unfollowed := true, recurses := true, apart := false, narrowed := true }
def AuctionTwoUptoSaid : Prop := auctionTwoUptoRow.holds Try.pinned (OpenSpec.upto auctionTwoSpec)

/-- 'cambistlaw06.AllocNames', WHERE WHAT IT READS IS OF BULK AT MOST 1048576: true; the input reads as it did. -/
def allocNamesUptoRow : OpenClaim := { program := "ytboaidjhhlidkaa", sum := "3562a67ca6b54427654e2149249362c76ef6d78d7c3b36af22d4d8167390e9c9", func := "cambist/cambistlaw06.AllocNames", spec := "allocNames", unfollowed := true, recurses := true, apart := false, narrowed := true }
def AllocNamesUptoSaid : Prop := allocNamesUptoRow.holds Try.pinned (OpenSpec.upto allocNamesSpec)

/-- 'cambistlaw06.AllocTells', WHERE WHAT IT READS IS OF BULK AT MOST 1048576: true; the input reads as it did. -/
def allocTellsUptoRow : OpenClaim := { program := "ytboaidjhhlidkaa", sum := "3562a67ca6b54427654e2149249362c76ef6d78d7c3b36af22d4d8167390e9c9", func := "cambist/cambistlaw06.AllocTells", spec := "allocTells", unfollowed := true, recurses := true, apart := false, narrowed := true }
def AllocTellsUptoSaid : Prop := allocTellsUptoRow.holds Try.pinned (OpenSpec.upto allocTellsSpec)

/-- 'cambistlaw06.AllocLists', WHERE WHAT IT READS IS OF BULK AT MOST 1048576: true; the input reads as it did. -/
def allocListsUptoRow : OpenClaim := { program := "ytboaidjhhlidkaa", sum := "3562a67ca6b54427654e2149249362c76ef6d78d7c3b36af22d4d8167390e9c9", func := "cambist/cambistlaw06.AllocLists", spec := "allocLists", unfollowed := true, recurses := true, apart := false, narrowed := true }
def AllocListsUptoSaid : Prop := allocListsUptoRow.holds Try.pinned (OpenSpec.upto allocListsSpec)

/-- 'cambistlaw06.AllocStays', WHERE WHAT IT READS IS OF BULK AT MOST 1048576: true; the input reads as it did. -/
def allocStaysUptoRow : OpenClaim := { program := "ytboaidjhhlidkaa", sum := "3562a67ca6b54427654e2149249362c76ef6d78d7c3b36af22d4d8167390e9c9", func := "cambist/cambistlaw06.AllocStays", spec := "allocStays", unfollowed := true, recurses := true, apart := false, narrowed := true }
def AllocStaysUptoSaid : Prop := allocStaysUptoRow.holds Try.pinned (OpenSpec.upto allocStaysSpec)

/-- 'cambistlaw06.AllocWaits', WHERE WHAT IT READS IS OF BULK AT MOST 1048576: true; the input reads as it did. -/
def allocWaitsUptoRow : OpenClaim := { program := "ytboaidjhhlidkaa", sum := "3562a67ca6b54427654e2149249362c76ef6d78d7c3b36af22d4d8167390e9c9", func := "cambist/cambistlaw06.AllocWaits", spec := "allocWaits", unfollowed := true, recurses := true, apart := false, narrowed := true }
def AllocWaitsUptoSaid : Prop := allocWaitsUptoRow.holds Try.pinned (OpenSpec.upto allocWaitsSpec)

/-- 'cambistlaw06.AllocBack', WHERE WHAT IT READS IS OF BULK AT MOST 1048576: true; the input reads as it did. -/
def allocBackUptoRow : OpenClaim := { program := "ytboaidjhhlidkaa", sum := "3562a67ca6b54427654e2149249362c76ef6d78d7c3b36af22d4d8167390e9c9", func := "cambist/cambistlaw06.AllocBack", spec := "allocBack", unfollowed := true, recurses := true, apart := false, narrowed := true }
def AllocBackUptoSaid : Prop := allocBackUptoRow.holds Try.pinned (OpenSpec.upto allocBackSpec)

/-- 'cambistlaw06.AllocLow', WHERE WHAT IT READS IS OF BULK AT MOST 1048576: true; the input reads as it did. -/
def allocLowUptoRow : OpenClaim := { program := "ytboaidjhhlidkaa", sum := "3562a67ca6b54427654e2149249362c76ef6d78d7c3b36af22d4d8167390e9c9", func := "cambist/cambistlaw06.AllocLow", spec := "allocLow", unfollowed := true, recurses := true, apart := false, narrowed := true }
def AllocLowUptoSaid : Prop := allocLowUptoRow.holds Try.pinned (OpenSpec.upto allocLowSpec)

/-- 'cambistlaw05.PageNames', WHERE WHAT IT READS IS OF BULK AT MOST 1048576: true; the input reads as it did. -/
def pageNamesUptoRow : OpenClaim := { program := "ytboaidjhhlidkaa", sum := "3562a67ca6b54427654e2149249362c76ef6d78d7c3b36af22d4d8167390e9c9", func := "cambist/cambistlaw05.PageNames", spec := "pageNames", unfollowed := true, recurses := true, apart := false, narrowed := true }
def PageNamesUptoSaid : Prop := pageNamesUptoRow.holds Try.pinned (OpenSpec.upto pageNamesSpec)

/-- 'cambistlaw05.PageEncodes', WHERE WHAT IT READS IS OF BULK AT MOST 1048576: true; the input reads as it did. -/
def pageEncodesUptoRow : OpenClaim := { program := "ytboaidjhhlidkaa", sum := "3562a67ca6b54427654e2149249362c76ef6d78d7c3b36af22d4d8167390e9c9", func := "cambist/cambistlaw05.PageEncodes", spec := "pageEncodes", unfollowed := true, recurses := true, apart := false, narrowed := true }
def PageEncodesUptoSaid : Prop := pageEncodesUptoRow.holds Try.pinned (OpenSpec.upto pageEncodesSpec)

/-- 'cambistlaw05.PageDecodes', WHERE WHAT IT READS IS OF BULK AT MOST 1048576: true; the input reads as it did. -/
def pageDecodesUptoRow : OpenClaim := { program := "ytboaidjhhlidkaa", sum := "3562a67ca6b54427654e2149249362c76ef6d78d7c3b36af22d4d8167390e9c9", func := "cambist/cambistlaw05.PageDecodes", spec := "pageDecodes", unfollowed := true, recurses := true, apart := false, narrowed := true }
def PageDecodesUptoSaid : Prop := pageDecodesUptoRow.holds Try.pinned (OpenSpec.upto pageDecodesSpec)

/-- 'cambistlaw05.PageBack', WHERE WHAT IT READS IS OF BULK AT MOST 1048576: true; the input reads as it did. -/
def pageBackUptoRow : OpenClaim := { program := "ytboaidjhhlidkaa", sum := "3562a67ca6b54427654e2149249362c76ef6d78d7c3b36af22d4d8167390e9c9", func := "cambist/cambistlaw05.PageBack", spec := "pageBack", unfollowed := true, recurses := true, apart := false, narrowed := true }
def PageBackUptoSaid : Prop := pageBackUptoRow.holds Try.pinned (OpenSpec.upto pageBackSpec)

/-- 'cambistlaw05.PageTurns', WHERE WHAT IT READS IS OF BULK AT MOST 1048576: true; the input reads as it did. -/
def pageTurnsUptoRow : OpenClaim := { program := "ytboaidjhhlidkaa", sum := "3562a67ca6b54427654e2149249362c76ef6d78d7c3b36af22d4d8167390e9c9", func := "cambist/cambistlaw05.PageTurns", spec := "pageTurns", unfollowed := true, recurses := true, apart := false, narrowed := true }
def PageTurnsUptoSaid : Prop := pageTurnsUptoRow.holds Try.pinned (OpenSpec.upto pageTurnsSpec)

/-- 'cambistlaw05.PageTears', WHERE WHAT IT READS IS OF BULK AT MOST 1048576: true; the input reads as it did. -/
def pageTearsUptoRow : OpenClaim := { program := "ytboaidjhhlidkaa", sum := "3562a67ca6b54427654e2149249362c76ef6d78d7c3b36af22d4d8167390e9c9", func := "cambist/cambistlaw05.PageTears", spec := "pageTears", unfollowed := true, recurses := true, apart := false, narrowed := true }
def PageTearsUptoSaid : Prop := pageTearsUptoRow.holds Try.pinned (OpenSpec.upto pageTearsSpec)

/-- 'cambistlaw05.PagePlaces', WHERE WHAT IT READS IS OF BULK AT MOST 1048576: true; the input reads as it did. -/
def pagePlacesUptoRow : OpenClaim := { program := "ytboaidjhhlidkaa", sum := "3562a67ca6b54427654e2149249362c76ef6d78d7c3b36af22d4d8167390e9c9", func := "cambist/cambistlaw05.PagePlaces", spec := "pagePlaces", unfollowed := true, recurses := true, apart := false, narrowed := true }
def PagePlacesUptoSaid : Prop := pagePlacesUptoRow.holds Try.pinned (OpenSpec.upto pagePlacesSpec)

/-- 'cambistlaw14.AuctionFair', WHERE WHAT IT READS IS OF BULK AT MOST 1048576: true; the input reads as it did. -/
def auctionFairUptoRow : OpenClaim := { program := "ytboaidjhhlidkaa", sum := "3562a67ca6b54427654e2149249362c76ef6d78d7c3b36af22d4d8167390e9c9", func := "cambist/cambistlaw14.AuctionFair", spec := "auctionFair", unfollowed := true, recurses := true, apart := false, narrowed := true }
def AuctionFairUptoSaid : Prop := auctionFairUptoRow.holds Try.pinned (OpenSpec.upto auctionFairSpec)

end Rows
end Go.Proofs.Ytboaidjhhlidkaa
