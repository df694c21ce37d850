/-
  No cell of these rows narrows 'for every input' (looked for: loops, veiled, ifaces, maps, wideKeys, modest, calm, conditions, laid).
  DERIVED. THE GIVEN ROWS OF THIS SEAT. 3 by the template 'for every input the law returns true; each argument reads behind the call as it read before'; 0 by the template 'total and deterministic' (their statements: YtoachnhdedpbdaaTotals.lean).
  GIVEN WITH THE SEED: the statements are not yours to turn. If you find one false, say at which input.
  Laid BY PROGRAM, IN A SANDBOX (cutbox-rows.mjs): the forced cells as the released guide's own fill.sh prints them over the translation a84ba2e75a033858… (all of the seat's roots in one cut). By AI agents, Wed Nov 11 2026. No macro, syntax, notation, axiom, sorry.
-/
import Derived.Test.YtoachnhdedpbdaaChecked
import GoSem.Claim
import GoSem.ClaimJoined
import GoSem.ClaimMapViews
import Derived.JoinedTies
import Derived.KernelRfl
namespace Go.Proofs.Ytoachnhdedpbdaa
/- THE CELL 'sum', in the pinned program and in every row, IS THE sha256 OF THE DUMP (.gsa) THAT YtoachnhdedpbdaaProg.lean LOADS. Nothing in Lean hashes anything: it is a label: what it is worth is what the hold of that sum in a sandbox is worth. -/
noncomputable def Try.pinned : Pinned := { name := "ytoachnhdedpbdaa", sum := "a84ba2e75a033858508ac05f3ae458b2c2b6ec6704da74888d22357bded16cfc", checked := Try.checked }
namespace Rows
def none {H : Type} : Left H := { results := [], args := [] }

/-- 'cambistlaw15.NovateAuction': WHATEVER THE INPUT: true; the input reads as it did. -/
def novateAuctionSpec : ChangeSpec := { name := "novateAuction", fn := fun _ => fun
  | [d1, d2] => { results := [.lit (.bool true)], args := [d1, d2] }
  | _ => none }
def novateAuctionRow : OpenClaim := { program := "ytoachnhdedpbdaa", sum := "a84ba2e75a033858508ac05f3ae458b2c2b6ec6704da74888d22357bded16cfc", func := "cambist/cambistlaw15.NovateAuction", spec := "novateAuction", inPlace := ["internal/bytealg.IndexByteString", "internal/bytealg.IndexString"], unfollowed := true, recurses := true, named := ["internal/bytealg.MaxLen"], apart := false }
def NovateAuctionSaid : Prop := novateAuctionRow.holds Try.pinned (OpenSpec.ofChange novateAuctionSpec)

/-- ITS FALSE NEIGHBOUR: 'it returns false'. Refute it at one input. -/
def novateAuctionWrong : ChangeSpec := { name := "novateAuction", fn := fun _ => fun
  | [d1, d2] => { results := [.lit (.bool false)], args := [d1, d2] }
  | _ => none }
def NovateAuctionWrongFalsely : Prop := novateAuctionRow.holds Try.pinned (OpenSpec.ofChange novateAuctionWrong)

/-- 'cambistlaw16.MarginTells': WHATEVER THE INPUT: true; the input reads as it did. -/
def marginTellsSpec : ChangeSpec := { name := "marginTells", fn := fun _ => fun
  | [d1, d2, d3, d4, d5, d6] => { results := [.lit (.bool true)], args := [d1, d2, d3, d4, d5, d6] }
  | _ => none }
def marginTellsRow : OpenClaim := { program := "ytoachnhdedpbdaa", sum := "a84ba2e75a033858508ac05f3ae458b2c2b6ec6704da74888d22357bded16cfc", func := "cambist/cambistlaw16.MarginTells", spec := "marginTells", inPlace := ["internal/bytealg.IndexByteString", "internal/bytealg.IndexString"], unfollowed := true, recurses := true, named := ["internal/bytealg.MaxLen"], apart := false }
def MarginTellsSaid : Prop := marginTellsRow.holds Try.pinned (OpenSpec.ofChange marginTellsSpec)

/-- ITS FALSE NEIGHBOUR: 'it returns false'. Refute it at one input. -/
def marginTellsWrong : ChangeSpec := { name := "marginTells", fn := fun _ => fun
  | [d1, d2, d3, d4, d5, d6] => { results := [.lit (.bool false)], args := [d1, d2, d3, d4, d5, d6] }
  | _ => none }
def MarginTellsWrongFalsely : Prop := marginTellsRow.holds Try.pinned (OpenSpec.ofChange marginTellsWrong)

/-- 'cambistlaw16.MarginAuction': WHATEVER THE INPUT: true; the input reads as it did. -/
def marginAuctionSpec : ChangeSpec := { name := "marginAuction", fn := fun _ => fun
  | [d1, d2, d3] => { results := [.lit (.bool true)], args := [d1, d2, d3] }
  | _ => none }
def marginAuctionRow : OpenClaim := { program := "ytoachnhdedpbdaa", sum := "a84ba2e75a033858508ac05f3ae458b2c2b6ec6704da74888d22357bded16cfc", func := "cambist/cambistlaw16.MarginAuction", spec := "marginAuction", inPlace := ["internal/bytealg.IndexByteString", "internal/bytealg.IndexString"], unfollowed := true, recurses := true, named := ["internal/bytealg.MaxLen"], apart := false }
def MarginAuctionSaid : Prop := marginAuctionRow.holds Try.pinned (OpenSpec.ofChange marginAuctionSpec)

/-- ITS FALSE NEIGHBOUR: 'it returns false'. Refute it at one input. -/
def marginAuctionWrong : ChangeSpec := { name := "marginAuction", fn := fun _ => fun
  | [d1, d2, d3] => { results := [.lit (.bool false)], args := [d1, d2, d3] }
  | _ => none }
def MarginAuctionWrongFalsely : Prop := marginAuctionRow.holds Try.pinned (OpenSpec.ofChange marginAuctionWrong)

/- THE SECOND FORM. 'bulk': how many values and letters a reading holds, each counted each time it is reached (what is shared counts as often as it is met; a slice's spare places count too). A statement '..UptoSaid' is the law's where the arguments, and the package variables that the reading takes, are together of bulk at most 1048576: NARROWER than '..Said'. Prove '..Said' where nothing that the law and all that it calls make is longer than what came in: it says more and counts as full. Else prove '..UptoSaid'. A law counts once. -/
mutual
def uptoBulk {H : Type} : DataW H → Nat
  | .lit (.string bytes) => bytes.length + 1
  | .lit _ => 1
  | .nil => 1
  | .ptr d => uptoBulk d + 1
  | .slice elems spare => uptoBulkAll elems + uptoBulkAll spare + 1
  | .agg parts => uptoBulkAll parts + 1
  | .iface _ d => uptoBulk d + 1
  | .map entries => uptoBulkEntries entries + 1
  | .held _ => 1
def uptoBulkAll {H : Type} : List (DataW H) → Nat
  | [] => 0
  | d :: r => uptoBulk d + uptoBulkAll r
def uptoBulkEntries {H : Type} : List (Lit × DataW H) → Nat
  | [] => 0
  | x :: r => uptoBulkEntry x + uptoBulkEntries r
def uptoBulkEntry {H : Type} : Lit × DataW H → Nat
  | (.string bytes, d) => bytes.length + uptoBulk d + 1
  | (_, d) => uptoBulk d + 1
 end
def uptoSmall : (H : Type) → List (DataW H) → Bool := fun _ ds => decide (uptoBulkAll ds ≤ 1048576)
def OpenSpec.upto (s : _root_.Go.ChangeSpec) : _root_.Go.OpenSpec := { _root_.Go.OpenSpec.ofChange s with cond := some uptoSmall }

/-- 'cambistlaw15.NovateAuction', WHERE WHAT IT READS IS OF BULK AT MOST 1048576: true; the input reads as it did. -/
def novateAuctionUptoRow : OpenClaim := { program := "ytoachnhdedpbdaa", sum := "a84ba2e75a033858508ac05f3ae458b2c2b6ec6704da74888d22357bded16cfc", func := "cambist/cambistlaw15.NovateAuction", spec := "novateAuction", inPlace := ["internal/bytealg.IndexByteString", "internal/bytealg.IndexString"], unfollowed := true, recurses := true, named := ["internal/bytealg.MaxLen"], apart := false, narrowed := true }
def NovateAuctionUptoSaid : Prop := novateAuctionUptoRow.holds Try.pinned (OpenSpec.upto novateAuctionSpec)

/-- 'cambistlaw16.MarginTells', WHERE WHAT IT READS IS OF BULK AT MOST 1048576: true; the input reads as it did. -/
def marginTellsUptoRow : OpenClaim := { program := "ytoachnhdedpbdaa", sum := "a84ba2e75a033858508ac05f3ae458b2c2b6ec6704da74888d22357bded16cfc", func := "cambist/cambistlaw16.MarginTells", spec := "marginTells", inPlace := ["internal/bytealg.IndexByteString", "internal/bytealg.IndexString"], unfollowed := true, recurses := true, named := ["internal/bytealg.MaxLen"], apart := false, narrowed := true }
def MarginTellsUptoSaid : Prop := marginTellsUptoRow.holds Try.pinned (OpenSpec.upto marginTellsSpec)

/-- 'cambistlaw16.MarginAuction', WHERE WHAT IT READS IS OF BULK AT MOST 1048576: true; the input reads as it did. -/
def marginAuctionUptoRow : OpenClaim := { program := "ytoachnhdedpbdaa", sum := "a84ba2e75a033858508ac05f3ae458b2c2b6ec6704da74888d22357bded16cfc", func := "cambist/cambistlaw16.MarginAuction", spec := "marginAuction", inPlace := ["internal/bytealg.IndexByteString", "internal/bytealg.IndexString"], unfollowed := true, recurses := true, named := ["internal/bytealg.MaxLen"], apart := false, narrowed := true }
def MarginAuctionUptoSaid : Prop := marginAuctionUptoRow.holds Try.pinned (OpenSpec.upto marginAuctionSpec)

end Rows
end Go.Proofs.Ytoachnhdedpbdaa
