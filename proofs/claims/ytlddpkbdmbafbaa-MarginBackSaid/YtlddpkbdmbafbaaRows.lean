/-
  No cell of these rows narrows 'for every input' (looked for: loops, veiled, ifaces, maps, wideKeys, modest, calm, conditions, laid).
  DERIVED. THE GIVEN ROWS OF THIS SEAT. 10 by the template 'for every input the law returns true; each argument reads behind the call as it read before'; 0 by the template 'total and deterministic' (their statements: YtlddpkbdmbafbaaTotals.lean).
  GIVEN WITH THE SEED: the statements are not yours to turn. If you find one false, say at which input.
  Laid BY PROGRAM, IN A SANDBOX (cutbox-rows.mjs): the forced cells as the released guide's own fill.sh prints them over the translation 96892b98258ea75c… (all of the seat's roots in one cut). By AI agents, Wed Nov 11 2026. No macro, syntax, notation, axiom, sorry.
-/
import Derived.Test.YtlddpkbdmbafbaaChecked
import GoSem.Claim
import GoSem.ClaimJoined
import GoSem.ClaimMapViews
import Derived.JoinedTies
import Derived.KernelRfl
namespace Go.Proofs.Ytlddpkbdmbafbaa
/- THE CELL 'sum', in the pinned program and in every row, IS THE sha256 OF THE DUMP (.gsa) THAT YtlddpkbdmbafbaaProg.lean LOADS. Nothing in Lean hashes anything: it is a label: what it is worth is what the hold of that sum in a sandbox is worth. -/
noncomputable def Try.pinned : Pinned := { name := "ytlddpkbdmbafbaa", sum := "96892b98258ea75c1eedbd6509ca82bbd7ada5f180207000ac1799f7abcb067b", checked := Try.checked }
namespace Rows
def none {H : Type} : Left H := { results := [], args := [] }

/-- 'cambistlaw15.NovateAuction': WHATEVER THE INPUT: true; the input reads as it did. -/
def novateAuctionSpec : ChangeSpec := { name := "novateAuction", fn := fun _ => fun
  | [d1, d2] => { results := [.lit (.bool true)], args := [d1, d2] }
  | _ => none }
def novateAuctionRow : OpenClaim := { program := "ytlddpkbdmbafbaa", sum := "96892b98258ea75c1eedbd6509ca82bbd7ada5f180207000ac1799f7abcb067b", func := "cambist/cambistlaw15.NovateAuction", spec := "novateAuction", inPlace := ["internal/bytealg.IndexByteString", "internal/bytealg.IndexString"], unfollowed := true, recurses := true, named := ["internal/bytealg.MaxLen"], plainKeys := false, apart := false }
def NovateAuctionSaid : Prop := novateAuctionRow.holds Try.pinned (OpenSpec.ofChange novateAuctionSpec)

/-- ITS FALSE NEIGHBOUR: 'it returns false'. Refute it at one input. -/
def novateAuctionWrong : ChangeSpec := { name := "novateAuction", fn := fun _ => fun
  | [d1, d2] => { results := [.lit (.bool false)], args := [d1, d2] }
  | _ => none }
def NovateAuctionWrongFalsely : Prop := novateAuctionRow.holds Try.pinned (OpenSpec.ofChange novateAuctionWrong)

/-- 'cambistlaw16.MarginNames': WHATEVER THE INPUT: true; the input reads as it did. -/
def marginNamesSpec : ChangeSpec := { name := "marginNames", fn := fun _ => fun
  | [] => { results := [.lit (.bool true)], args := [] }
  | _ => none }
def marginNamesRow : OpenClaim := { program := "ytlddpkbdmbafbaa", sum := "96892b98258ea75c1eedbd6509ca82bbd7ada5f180207000ac1799f7abcb067b", func := "cambist/cambistlaw16.MarginNames", spec := "marginNames", inPlace := ["internal/bytealg.IndexByteString", "internal/bytealg.IndexString"], unfollowed := true, recurses := true, named := ["internal/bytealg.MaxLen"], plainKeys := false, apart := false }
def MarginNamesSaid : Prop := marginNamesRow.holds Try.pinned (OpenSpec.ofChange marginNamesSpec)

/-- ITS FALSE NEIGHBOUR: 'it returns false'. Refute it at one input. -/
def marginNamesWrong : ChangeSpec := { name := "marginNames", fn := fun _ => fun
  | [] => { results := [.lit (.bool false)], args := [] }
  | _ => none }
def MarginNamesWrongFalsely : Prop := marginNamesRow.holds Try.pinned (OpenSpec.ofChange marginNamesWrong)

/-- 'cambistlaw16.MarginParts': WHATEVER THE INPUT: true; the input reads as it did. -/
def marginPartsSpec : ChangeSpec := { name := "marginParts", fn := fun _ => fun
  | [d1, d2, d3] => { results := [.lit (.bool true)], args := [d1, d2, d3] }
  | _ => none }
def marginPartsRow : OpenClaim := { program := "ytlddpkbdmbafbaa", sum := "96892b98258ea75c1eedbd6509ca82bbd7ada5f180207000ac1799f7abcb067b", func := "cambist/cambistlaw16.MarginParts", spec := "marginParts", inPlace := ["internal/bytealg.IndexByteString", "internal/bytealg.IndexString"], unfollowed := true, recurses := true, named := ["internal/bytealg.MaxLen"], plainKeys := false, apart := false }
def MarginPartsSaid : Prop := marginPartsRow.holds Try.pinned (OpenSpec.ofChange marginPartsSpec)

/-- ITS FALSE NEIGHBOUR: 'it returns false'. Refute it at one input. -/
def marginPartsWrong : ChangeSpec := { name := "marginParts", fn := fun _ => fun
  | [d1, d2, d3] => { results := [.lit (.bool false)], args := [d1, d2, d3] }
  | _ => none }
def MarginPartsWrongFalsely : Prop := marginPartsRow.holds Try.pinned (OpenSpec.ofChange marginPartsWrong)

/-- 'cambistlaw16.MarginTwice': WHATEVER THE INPUT: true; the input reads as it did. -/
def marginTwiceSpec : ChangeSpec := { name := "marginTwice", fn := fun _ => fun
  | [d1, d2, d3, d4] => { results := [.lit (.bool true)], args := [d1, d2, d3, d4] }
  | _ => none }
def marginTwiceRow : OpenClaim := { program := "ytlddpkbdmbafbaa", sum := "96892b98258ea75c1eedbd6509ca82bbd7ada5f180207000ac1799f7abcb067b", func := "cambist/cambistlaw16.MarginTwice", spec := "marginTwice", inPlace := ["internal/bytealg.IndexByteString", "internal/bytealg.IndexString"], unfollowed := true, recurses := true, named := ["internal/bytealg.MaxLen"], plainKeys := false, apart := false }
def MarginTwiceSaid : Prop := marginTwiceRow.holds Try.pinned (OpenSpec.ofChange marginTwiceSpec)

/-- ITS FALSE NEIGHBOUR: 'it returns false'. Refute it at one input. -/
def marginTwiceWrong : ChangeSpec := { name := "marginTwice", fn := fun _ => fun
  | [d1, d2, d3, d4] => { results := [.lit (.bool false)], args := [d1, d2, d3, d4] }
  | _ => none }
def MarginTwiceWrongFalsely : Prop := marginTwiceRow.holds Try.pinned (OpenSpec.ofChange marginTwiceWrong)

/-- 'cambistlaw16.MarginTells': WHATEVER THE INPUT: true; the input reads as it did. -/
def marginTellsSpec : ChangeSpec := { name := "marginTells", fn := fun _ => fun
  | [d1, d2, d3, d4, d5, d6] => { results := [.lit (.bool true)], args := [d1, d2, d3, d4, d5, d6] }
  | _ => none }
def marginTellsRow : OpenClaim := { program := "ytlddpkbdmbafbaa", sum := "96892b98258ea75c1eedbd6509ca82bbd7ada5f180207000ac1799f7abcb067b", func := "cambist/cambistlaw16.MarginTells", spec := "marginTells", inPlace := ["internal/bytealg.IndexByteString", "internal/bytealg.IndexString"], unfollowed := true, recurses := true, named := ["internal/bytealg.MaxLen"], plainKeys := false, apart := false }
def MarginTellsSaid : Prop := marginTellsRow.holds Try.pinned (OpenSpec.ofChange marginTellsSpec)

/-- ITS FALSE NEIGHBOUR: 'it returns false'. Refute it at one input. -/
def marginTellsWrong : ChangeSpec := { name := "marginTells", fn := fun _ => fun
  | [d1, d2, d3, d4, d5, d6] => { results := [.lit (.bool false)], args := [d1, d2, d3, d4, d5, d6] }
  | _ => none }
def MarginTellsWrongFalsely : Prop := marginTellsRow.holds Try.pinned (OpenSpec.ofChange marginTellsWrong)

/-- 'cambistlaw16.MarginBack': WHATEVER THE INPUT: true; the input reads as it did. -/
def marginBackSpec : ChangeSpec := { name := "marginBack", fn := fun _ => fun
  | [d1, d2] => { results := [.lit (.bool true)], args := [d1, d2] }
  | _ => none }
def marginBackRow : OpenClaim := { program := "ytlddpkbdmbafbaa", sum := "96892b98258ea75c1eedbd6509ca82bbd7ada5f180207000ac1799f7abcb067b", func := "cambist/cambistlaw16.MarginBack", spec := "marginBack", inPlace := ["internal/bytealg.IndexByteString", "internal/bytealg.IndexString"], unfollowed := true, recurses := true, named := ["internal/bytealg.MaxLen"], plainKeys := false, apart := false }
def MarginBackSaid : Prop := marginBackRow.holds Try.pinned (OpenSpec.ofChange marginBackSpec)

/-- ITS FALSE NEIGHBOUR: 'it returns false'. Refute it at one input. -/
def marginBackWrong : ChangeSpec := { name := "marginBack", fn := fun _ => fun
  | [d1, d2] => { results := [.lit (.bool false)], args := [d1, d2] }
  | _ => none }
def MarginBackWrongFalsely : Prop := marginBackRow.holds Try.pinned (OpenSpec.ofChange marginBackWrong)

/-- 'cambistlaw16.MarginAuction': WHATEVER THE INPUT: true; the input reads as it did. -/
def marginAuctionSpec : ChangeSpec := { name := "marginAuction", fn := fun _ => fun
  | [d1, d2, d3] => { results := [.lit (.bool true)], args := [d1, d2, d3] }
  | _ => none }
def marginAuctionRow : OpenClaim := { program := "ytlddpkbdmbafbaa", sum := "96892b98258ea75c1eedbd6509ca82bbd7ada5f180207000ac1799f7abcb067b", func := "cambist/cambistlaw16.MarginAuction", spec := "marginAuction", inPlace := ["internal/bytealg.IndexByteString", "internal/bytealg.IndexString"], unfollowed := true, recurses := true, named := ["internal/bytealg.MaxLen"], plainKeys := false, apart := false }
def MarginAuctionSaid : Prop := marginAuctionRow.holds Try.pinned (OpenSpec.ofChange marginAuctionSpec)

/-- ITS FALSE NEIGHBOUR: 'it returns false'. Refute it at one input. -/
def marginAuctionWrong : ChangeSpec := { name := "marginAuction", fn := fun _ => fun
  | [d1, d2, d3] => { results := [.lit (.bool false)], args := [d1, d2, d3] }
  | _ => none }
def MarginAuctionWrongFalsely : Prop := marginAuctionRow.holds Try.pinned (OpenSpec.ofChange marginAuctionWrong)

/-- 'cambistlaw18.SettleNets': WHATEVER THE INPUT: true; the input reads as it did. -/
def settleNetsSpec : ChangeSpec := { name := "settleNets", fn := fun _ => fun
  | [d1, d2] => { results := [.lit (.bool true)], args := [d1, d2] }
  | _ => none }
def settleNetsRow : OpenClaim := { program := "ytlddpkbdmbafbaa", sum := "96892b98258ea75c1eedbd6509ca82bbd7ada5f180207000ac1799f7abcb067b", func := "cambist/cambistlaw18.SettleNets", spec := "settleNets", inPlace := ["internal/bytealg.IndexByteString"], unfollowed := true, recurses := true, plainKeys := false, apart := false }
def SettleNetsSaid : Prop := settleNetsRow.holds Try.pinned (OpenSpec.ofChange settleNetsSpec)

/-- ITS FALSE NEIGHBOUR: 'it returns false'. Refute it at one input. -/
def settleNetsWrong : ChangeSpec := { name := "settleNets", fn := fun _ => fun
  | [d1, d2] => { results := [.lit (.bool false)], args := [d1, d2] }
  | _ => none }
def SettleNetsWrongFalsely : Prop := settleNetsRow.holds Try.pinned (OpenSpec.ofChange settleNetsWrong)

/-- 'cambistlaw18.SettleTwo': WHATEVER THE INPUT: true; the input reads as it did. -/
def settleTwoSpec : ChangeSpec := { name := "settleTwo", fn := fun _ => fun
  | [d1, d2, d3] => { results := [.lit (.bool true)], args := [d1, d2, d3] }
  | _ => none }
def settleTwoRow : OpenClaim := { program := "ytlddpkbdmbafbaa", sum := "96892b98258ea75c1eedbd6509ca82bbd7ada5f180207000ac1799f7abcb067b", func := "cambist/cambistlaw18.SettleTwo", spec := "settleTwo", inPlace := ["internal/bytealg.IndexByteString"], unfollowed := true, recurses := true, plainKeys := false, apart := false }
def SettleTwoSaid : Prop := settleTwoRow.holds Try.pinned (OpenSpec.ofChange settleTwoSpec)

/-- ITS FALSE NEIGHBOUR: 'it returns false'. Refute it at one input. -/
def settleTwoWrong : ChangeSpec := { name := "settleTwo", fn := fun _ => fun
  | [d1, d2, d3] => { results := [.lit (.bool false)], args := [d1, d2, d3] }
  | _ => none }
def SettleTwoWrongFalsely : Prop := settleTwoRow.holds Try.pinned (OpenSpec.ofChange settleTwoWrong)

/-- 'cambistlaw18.SettleWhole': WHATEVER THE INPUT: true; the input reads as it did. -/
def settleWholeSpec : ChangeSpec := { name := "settleWhole", fn := fun _ => fun
  | [d1, d2, d3] => { results := [.lit (.bool true)], args := [d1, d2, d3] }
  | _ => none }
def settleWholeRow : OpenClaim := { program := "ytlddpkbdmbafbaa", sum := "96892b98258ea75c1eedbd6509ca82bbd7ada5f180207000ac1799f7abcb067b", func := "cambist/cambistlaw18.SettleWhole", spec := "settleWhole", inPlace := ["internal/bytealg.IndexByteString"], unfollowed := true, recurses := true, plainKeys := false, apart := false }
def SettleWholeSaid : Prop := settleWholeRow.holds Try.pinned (OpenSpec.ofChange settleWholeSpec)

/-- ITS FALSE NEIGHBOUR: 'it returns false'. Refute it at one input. -/
def settleWholeWrong : ChangeSpec := { name := "settleWhole", fn := fun _ => fun
  | [d1, d2, d3] => { results := [.lit (.bool false)], args := [d1, d2, d3] }
  | _ => none }
def SettleWholeWrongFalsely : Prop := settleWholeRow.holds Try.pinned (OpenSpec.ofChange settleWholeWrong)

/- THE SECOND FORM. 'bulk': how many values and letters a reading holds, each counted each time it is reached (what is shared counts as often as it is met; a slice's spare places count too). A statement '..UptoSaid' is the law's where the arguments, and the package variables that the reading takes, are together of bulk at most 1048576: NARROWER than '..Said'. Prove '..Said' where nothing that the law and all that it calls make is longer than what came in: it says more and counts as full. Else prove '..UptoSaid'. A law counts once. -/
mutual
def uptoBulk {H : Type} : DataW H → Nat
  | .lit (.string bytes) => bytes.length + 1
  | .lit _ => 1
  | .nil => 1
  | .ptr d => uptoBulk d + 1
  | .slice elems spare => uptoBulkAll elems + uptoBulkAll spare + 1
  | .agg parts => uptoBulkAll parts + 1
  | .iface _ d => uptoBulk d + 1
  | .map entries => uptoBulkEntries entries + 1
  | .held _ => 1
def uptoBulkAll {H : Type} : List (DataW H) → Nat
  | [] => 0
  | d :: r => uptoBulk d + uptoBulkAll r
def uptoBulkEntries {H : Type} : List (Lit × DataW H) → Nat
  | [] => 0
  | x :: r => uptoBulkEntry x + uptoBulkEntries r
def uptoBulkEntry {H : Type} : Lit × DataW H → Nat
  | (.string bytes, d) => bytes.length + uptoBulk d + 1
  | (_, d) => uptoBulk d + 1
 end
def uptoSmall : (H : Type) → List (DataW H) → Bool := fun _ ds => decide (uptoBulkAll ds ≤ 1048576)
def OpenSpec.upto (s : _root_.Go.ChangeSpec) : _root_.Go.OpenSpec := { _root_.Go.OpenSpec.ofChange s with cond := some uptoSmall }

/-- 'cambistlaw15.NovateAuction', WHERE WHAT IT READS IS OF BULK AT MOST 1048576: true; the input reads as it did. -/
def novateAuctionUptoRow : OpenClaim := { program := "ytlddpkbdmbafbaa", sum := "96892b98258ea75c1eedbd6509ca82bbd7ada5f180207000ac1799f7abcb067b", func := "cambist/cambistlaw15.NovateAuction", spec := "novateAuction", inPlace := ["internal/bytealg.IndexByteString", "internal/bytealg.IndexString"], unfollowed := true, recurses := true, named := ["internal/bytealg.MaxLen"], plainKeys := false, apart := false, narrowed := true }
def NovateAuctionUptoSaid : Prop := novateAuctionUptoRow.holds Try.pinned (OpenSpec.upto novateAuctionSpec)

/-- 'cambistlaw16.MarginNames', WHERE WHAT IT READS IS OF BULK AT MOST 1048576: true; the input reads as it did. -/
def marginNamesUptoRow : OpenClaim := { program := "ytlddpkbdmbafbaa", sum := "96892b98258ea75c1eedbd6509ca82bbd7ada5f180207000ac1799f7abcb067b", func := "cambist/cambistlaw16.MarginNames", spec := "marginNames", inPlace := ["internal/bytealg.IndexByteString", "internal/bytealg.IndexString"], unfollowed := true, recurses := true, named := ["internal/bytealg.MaxLen"], plainKeys := false, apart := false, narrowed := true }
def MarginNamesUptoSaid : Prop := marginNamesUptoRow.holds Try.pinned (OpenSpec.upto marginNamesSpec)

/-- 'cambistlaw16.MarginParts', WHERE WHAT IT READS IS OF BULK AT MOST 1048576: true; the input reads as it did. -/
def marginPartsUptoRow : OpenClaim := { program := "ytlddpkbdmbafbaa", sum := "96892b98258ea75c1eedbd6509ca82bbd7ada5f180207000ac1799f7abcb067b", func := "cambist/cambistlaw16.MarginParts", spec := "marginParts", inPlace := ["internal/bytealg.IndexByteString", "internal/bytealg.IndexString"], unfollowed := true, recurses := true, named := ["internal/bytealg.MaxLen"], plainKeys := false, apart := false, narrowed := true }
def MarginPartsUptoSaid : Prop := marginPartsUptoRow.holds Try.pinned (OpenSpec.upto marginPartsSpec)

/-- 'cambistlaw16.MarginTwice', WHERE WHAT IT READS IS OF BULK AT MOST 1048576: true; the input reads as it did. -/
def marginTwiceUptoRow : OpenClaim := { program := "ytlddpkbdmbafbaa", sum := "96892b98258ea75c1eedbd6509ca82bbd7ada5f180207000ac1799f7abcb067b", func := "cambist/cambistlaw16.MarginTwice", spec := "marginTwice", inPlace := ["internal/bytealg.IndexByteString", "internal/bytealg.IndexString"], unfollowed := true, recurses := true, named := ["internal/bytealg.MaxLen"], plainKeys := false, apart := false, narrowed := true }
def MarginTwiceUptoSaid : Prop := marginTwiceUptoRow.holds Try.pinned (OpenSpec.upto marginTwiceSpec)

/-- 'cambistlaw16.MarginTells', WHERE WHAT IT READS IS OF BULK AT MOST 1048576: true; the input reads as it did. -/
def marginTellsUptoRow : OpenClaim := { program := "ytlddpkbdmbafbaa", sum := "96892b98258ea75c1eedbd6509ca82bbd7ada5f180207000ac1799f7abcb067b", func := "cambist/cambistlaw16.MarginTells", spec := "marginTells", inPlace := ["internal/bytealg.IndexByteString", "internal/bytealg.IndexString"], unfollowed := true, recurses := true, named := ["internal/bytealg.MaxLen"], plainKeys := false, apart := false, narrowed := true }
def MarginTellsUptoSaid : Prop := marginTellsUptoRow.holds Try.pinned (OpenSpec.upto marginTellsSpec)

/-- 'cambistlaw16.MarginBack', WHERE WHAT IT READS IS OF BULK AT MOST 1048576: true; the input reads as it did. -/
def marginBackUptoRow : OpenClaim := { program := "ytlddpkbdmbafbaa", sum := "96892b98258ea75c1eedbd6509ca82bbd7ada5f180207000ac1799f7abcb067b", func := "cambist/cambistlaw16.MarginBack", spec := "marginBack", inPlace := ["internal/bytealg.IndexByteString", "internal/bytealg.IndexString"], unfollowed := true, recurses := true, named := ["internal/bytealg.MaxLen"], plainKeys := false, apart := false, narrowed := true }
def MarginBackUptoSaid : Prop := marginBackUptoRow.holds Try.pinned (OpenSpec.upto marginBackSpec)

/-- 'cambistlaw16.MarginAuction', WHERE WHAT IT READS IS OF BULK AT MOST 1048576: true; the input reads as it did. -/
def marginAuctionUptoRow : OpenClaim := { program := "ytlddpkbdmbafbaa", sum := "96892b98258ea75c1eedbd6509ca82bbd7ada5f180207000ac1799f7abcb067b", func := "cambist/cambistlaw16.MarginAuction", spec := "marginAuction", inPlace := ["internal/bytealg.IndexByteString", "internal/bytealg.IndexString"], unfollowed := true, recurses := true, named := ["internal/bytealg.MaxLen"], plainKeys := false, apart := false, narrowed := true }
def MarginAuctionUptoSaid : Prop := marginAuctionUptoRow.holds Try.pinned (OpenSpec.upto marginAuctionSpec)

/-- 'cambistlaw18.SettleNets', WHERE WHAT IT READS IS OF BULK AT MOST 1048576: true; the input reads as it did. -/
def settleNetsUptoRow : OpenClaim := { program := "ytlddpkbdmbafbaa", sum := "96892b98258ea75c1eedbd6509ca82bbd7ada5f180207000ac1799f7abcb067b", func := "cambist/cambistlaw18.SettleNets", spec := "settleNets", inPlace := ["internal/bytealg.IndexByteString"], unfollowed := true, recurses := true, plainKeys := false, apart := false, narrowed := true }
def SettleNetsUptoSaid : Prop := settleNetsUptoRow.holds Try.pinned (OpenSpec.upto settleNetsSpec)

/-- 'cambistlaw18.SettleTwo', WHERE WHAT IT READS IS OF BULK AT MOST 1048576: true; the input reads as it did. -/
def settleTwoUptoRow : OpenClaim := { program := "ytlddpkbdmbafbaa", sum := "96892b98258ea75c1eedbd6509ca82bbd7ada5f180207000ac1799f7abcb067b", func := "cambist/cambistlaw18.SettleTwo", spec := "settleTwo", inPlace := ["internal/bytealg.IndexByteString"], unfollowed := true, recurses := true, plainKeys := false, apart := false, narrowed := true }
def SettleTwoUptoSaid : Prop := settleTwoUptoRow.holds Try.pinned (OpenSpec.upto settleTwoSpec)

/-- 'cambistlaw18.SettleWhole', WHERE WHAT IT READS IS OF BULK AT MOST 1048576: true; the input reads as it did. -/
def settleWholeUptoRow : OpenClaim := { program := "ytlddpkbdmbafbaa", sum := "96892b98258ea75c1eedbd6509ca82bbd7ada5f180207000ac1799f7abcb067b", func := "cambist/cambistlaw18.SettleWhole", spec := "settleWhole", inPlace := ["internal/bytealg.IndexByteString"], unfollowed := true, recurses := true, plainKeys := false, apart := false, narrowed := true }
def SettleWholeUptoSaid : Prop := settleWholeUptoRow.holds Try.pinned (OpenSpec.upto settleWholeSpec)

end Rows
end Go.Proofs.Ytlddpkbdmbafbaa
