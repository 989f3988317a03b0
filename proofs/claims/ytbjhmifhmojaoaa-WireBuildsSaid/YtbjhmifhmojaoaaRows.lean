/-
  No cell of these rows narrows 'for every input' (looked for: loops, veiled, ifaces, maps, wideKeys, modest, calm, conditions, laid).
  DERIVED. THE GIVEN ROWS OF THIS SEAT. 12 by the template 'for every input the law returns true; each argument reads behind the call as it read before'; 0 by the template 'total and deterministic' (their statements: YtbjhmifhmojaoaaTotals.lean).
  GIVEN WITH THE SEED: the statements are not yours to turn. If you find one false, say at which input.
  Laid BY PROGRAM, IN A SANDBOX (cutbox-rows.mjs): the forced cells as the released guide's own fill.sh prints them over the translation 72a9f706d5c8f618… (all of the seat's roots in one cut). By AI agents, Wed Nov 11 2026. No macro, syntax, notation, axiom, sorry.
-/
import Derived.Test.YtbjhmifhmojaoaaChecked
import GoSem.Claim
import GoSem.ClaimJoined
import GoSem.ClaimMapViews
import Derived.JoinedTies
import Derived.KernelRfl
namespace Go.Proofs.Ytbjhmifhmojaoaa
/- THE CELL 'sum', in the pinned program and in every row, IS THE sha256 OF THE DUMP (.gsa) THAT YtbjhmifhmojaoaaProg.lean LOADS. Nothing in Lean hashes anything: it is a label: what it is worth is what the hold of that sum in a sandbox is worth. -/
noncomputable def Try.pinned : Pinned := { name := "ytbjhmifhmojaoaa", sum := "72a9f706d5c8f61841d09eeb9edd100c825bdaa8192f0ce797fbdfcf843d0f8d", checked := Try.checked }
namespace Rows
def none {H : Type} : Left H := { results := [], args := [] }

/-- 'roundhouselaw3.WireBack': WHATEVER THE INPUT: true; the input reads as it did. -/
def wireBackSpec : ChangeSpec := { name := "wireBack", fn := fun _ => fun
  | [d1, d2, d3] => { results := [.lit (.bool true)], args := [d1, d2, d3] }
  | _ => none }
def wireBackRow : OpenClaim := { program := "ytbjhmifhmojaoaa", sum := "72a9f706d5c8f61841d09eeb9edd100c825bdaa8192f0ce797fbdfcf843d0f8d", func := "roundhouse/roundhouselaw3.WireBack", spec := "wireBack", apart := false }
def WireBackSaid : Prop := wireBackRow.holds Try.pinned (OpenSpec.ofChange wireBackSpec)

/-- ITS FALSE NEIGHBOUR: 'it returns false'. Refute it at one input. -/
def wireBackWrong : ChangeSpec := { name := "wireBack", fn := fun _ => fun
  | [d1, d2, d3] => { results := [.lit (.bool false)], args := [d1, d2, d3] }
  | _ => none }
def WireBackWrongFalsely : Prop := wireBackRow.holds Try.pinned (OpenSpec.ofChange wireBackWrong)

/-- 'roundhouselaw3.WireReads': WHATEVER THE INPUT: true; the input reads as it did. -/
def wireReadsSpec : ChangeSpec := { name := "wireReads", fn := fun _ => fun
  | [d1, d2, d3, d4, d5, d6, d7, d8] => { results := [.lit (.bool true)], args := [d1, d2, d3, d4, d5, d6, d7, d8] }
  | _ => none }
def wireReadsRow : OpenClaim := { program := "ytbjhmifhmojaoaa", sum := "72a9f706d5c8f61841d09eeb9edd100c825bdaa8192f0ce797fbdfcf843d0f8d", func := "roundhouse/roundhouselaw3.WireReads", spec := "wireReads", apart := false }
def WireReadsSaid : Prop := wireReadsRow.holds Try.pinned (OpenSpec.ofChange wireReadsSpec)

/-- ITS FALSE NEIGHBOUR: 'it returns false'. Refute it at one input. -/
def wireReadsWrong : ChangeSpec := { name := "wireReads", fn := fun _ => fun
  | [d1, d2, d3, d4, d5, d6, d7, d8] => { results := [.lit (.bool false)], args := [d1, d2, d3, d4, d5, d6, d7, d8] }
  | _ => none }
def WireReadsWrongFalsely : Prop := wireReadsRow.holds Try.pinned (OpenSpec.ofChange wireReadsWrong)

/-- 'roundhouselaw3.WireBuilds': WHATEVER THE INPUT: true; the input reads as it did. -/
def wireBuildsSpec : ChangeSpec := { name := "wireBuilds", fn := fun _ => fun
  | [d1, d2, d3, d4, d5, d6] => { results := [.lit (.bool true)], args := [d1, d2, d3, d4, d5, d6] }
  | _ => none }
def wireBuildsRow : OpenClaim := { program := "ytbjhmifhmojaoaa", sum := "72a9f706d5c8f61841d09eeb9edd100c825bdaa8192f0ce797fbdfcf843d0f8d", func := "roundhouse/roundhouselaw3.WireBuilds", spec := "wireBuilds", apart := false }
def WireBuildsSaid : Prop := wireBuildsRow.holds Try.pinned (OpenSpec.ofChange wireBuildsSpec)

/-- ITS FALSE NEIGHBOUR: 'it returns false'. Refute it at one input. -/
def wireBuildsWrong : ChangeSpec := { name := "wireBuilds", fn := fun _ => fun
  | [d1, d2, d3, d4, d5, d6] => { results := [.lit (.bool false)], args := [d1, d2, d3, d4, d5, d6] }
  | _ => none }
def WireBuildsWrongFalsely : Prop := wireBuildsRow.holds Try.pinned (OpenSpec.ofChange wireBuildsWrong)

/-- 'roundhouselaw3.WireWrites': WHATEVER THE INPUT: true; the input reads as it did. -/
def wireWritesSpec : ChangeSpec := { name := "wireWrites", fn := fun _ => fun
  | [d1, d2, d3, d4, d5, d6, d7, d8] => { results := [.lit (.bool true)], args := [d1, d2, d3, d4, d5, d6, d7, d8] }
  | _ => none }
def wireWritesRow : OpenClaim := { program := "ytbjhmifhmojaoaa", sum := "72a9f706d5c8f61841d09eeb9edd100c825bdaa8192f0ce797fbdfcf843d0f8d", func := "roundhouse/roundhouselaw3.WireWrites", spec := "wireWrites", apart := false }
def WireWritesSaid : Prop := wireWritesRow.holds Try.pinned (OpenSpec.ofChange wireWritesSpec)

/-- ITS FALSE NEIGHBOUR: 'it returns false'. Refute it at one input. -/
def wireWritesWrong : ChangeSpec := { name := "wireWrites", fn := fun _ => fun
  | [d1, d2, d3, d4, d5, d6, d7, d8] => { results := [.lit (.bool false)], args := [d1, d2, d3, d4, d5, d6, d7, d8] }
  | _ => none }
def WireWritesWrongFalsely : Prop := wireWritesRow.holds Try.pinned (OpenSpec.ofChange wireWritesWrong)

/-- 'roundhouselaw3.WireNats': WHATEVER THE INPUT: true; the input reads as it did. -/
def wireNatsSpec : ChangeSpec := { name := "wireNats", fn := fun _ => fun
  | [d1, d2, d3, d4, d5, d6, d7, d8, d9] => { results := [.lit (.bool true)], args := [d1, d2, d3, d4, d5, d6, d7, d8, d9] }
  | _ => none }
def wireNatsRow : OpenClaim := { program := "ytbjhmifhmojaoaa", sum := "72a9f706d5c8f61841d09eeb9edd100c825bdaa8192f0ce797fbdfcf843d0f8d", func := "roundhouse/roundhouselaw3.WireNats", spec := "wireNats", apart := false }
def WireNatsSaid : Prop := wireNatsRow.holds Try.pinned (OpenSpec.ofChange wireNatsSpec)

/-- ITS FALSE NEIGHBOUR: 'it returns false'. Refute it at one input. -/
def wireNatsWrong : ChangeSpec := { name := "wireNats", fn := fun _ => fun
  | [d1, d2, d3, d4, d5, d6, d7, d8, d9] => { results := [.lit (.bool false)], args := [d1, d2, d3, d4, d5, d6, d7, d8, d9] }
  | _ => none }
def WireNatsWrongFalsely : Prop := wireNatsRow.holds Try.pinned (OpenSpec.ofChange wireNatsWrong)

/-- 'roundhouselaw3.WireKeeps': WHATEVER THE INPUT: true; the input reads as it did. -/
def wireKeepsSpec : ChangeSpec := { name := "wireKeeps", fn := fun _ => fun
  | [d1, d2, d3, d4, d5, d6] => { results := [.lit (.bool true)], args := [d1, d2, d3, d4, d5, d6] }
  | _ => none }
def wireKeepsRow : OpenClaim := { program := "ytbjhmifhmojaoaa", sum := "72a9f706d5c8f61841d09eeb9edd100c825bdaa8192f0ce797fbdfcf843d0f8d", func := "roundhouse/roundhouselaw3.WireKeeps", spec := "wireKeeps", apart := false }
def WireKeepsSaid : Prop := wireKeepsRow.holds Try.pinned (OpenSpec.ofChange wireKeepsSpec)

/-- ITS FALSE NEIGHBOUR: 'it returns false'. Refute it at one input. -/
def wireKeepsWrong : ChangeSpec := { name := "wireKeeps", fn := fun _ => fun
  | [d1, d2, d3, d4, d5, d6] => { results := [.lit (.bool false)], args := [d1, d2, d3, d4, d5, d6] }
  | _ => none }
def WireKeepsWrongFalsely : Prop := wireKeepsRow.holds Try.pinned (OpenSpec.ofChange wireKeepsWrong)

/-- 'roundhouselaw3.WireFields': WHATEVER THE INPUT: true; the input reads as it did. -/
def wireFieldsSpec : ChangeSpec := { name := "wireFields", fn := fun _ => fun
  | [d1, d2, d3, d4, d5, d6] => { results := [.lit (.bool true)], args := [d1, d2, d3, d4, d5, d6] }
  | _ => none }
def wireFieldsRow : OpenClaim := { program := "ytbjhmifhmojaoaa", sum := "72a9f706d5c8f61841d09eeb9edd100c825bdaa8192f0ce797fbdfcf843d0f8d", func := "roundhouse/roundhouselaw3.WireFields", spec := "wireFields", apart := false }
def WireFieldsSaid : Prop := wireFieldsRow.holds Try.pinned (OpenSpec.ofChange wireFieldsSpec)

/-- ITS FALSE NEIGHBOUR: 'it returns false'. Refute it at one input. -/
def wireFieldsWrong : ChangeSpec := { name := "wireFields", fn := fun _ => fun
  | [d1, d2, d3, d4, d5, d6] => { results := [.lit (.bool false)], args := [d1, d2, d3, d4, d5, d6] }
  | _ => none }
def WireFieldsWrongFalsely : Prop := wireFieldsRow.holds Try.pinned (OpenSpec.ofChange wireFieldsWrong)

/-- 'roundhouselaw3.WirePlaces': WHATEVER THE INPUT: true; the input reads as it did. -/
def wirePlacesSpec : ChangeSpec := { name := "wirePlaces", fn := fun _ => fun
  | [d1, d2, d3, d4, d5, d6] => { results := [.lit (.bool true)], args := [d1, d2, d3, d4, d5, d6] }
  | _ => none }
def wirePlacesRow : OpenClaim := { program := "ytbjhmifhmojaoaa", sum := "72a9f706d5c8f61841d09eeb9edd100c825bdaa8192f0ce797fbdfcf843d0f8d", func := "roundhouse/roundhouselaw3.WirePlaces", spec := "wirePlaces", apart := false }
def WirePlacesSaid : Prop := wirePlacesRow.holds Try.pinned (OpenSpec.ofChange wirePlacesSpec)

/-- ITS FALSE NEIGHBOUR: 'it returns false'. Refute it at one input. -/
def wirePlacesWrong : ChangeSpec := { name := "wirePlaces", fn := fun _ => fun
  | [d1, d2, d3, d4, d5, d6] => { results := [.lit (.bool false)], args := [d1, d2, d3, d4, d5, d6] }
  | _ => none }
def WirePlacesWrongFalsely : Prop := wirePlacesRow.holds Try.pinned (OpenSpec.ofChange wirePlacesWrong)

/-- 'roundhouselaw3.WireAges': WHATEVER THE INPUT: true; the input reads as it did. -/
def wireAgesSpec : ChangeSpec := { name := "wireAges", fn := fun _ => fun
  | [d1, d2, d3, d4] => { results := [.lit (.bool true)], args := [d1, d2, d3, d4] }
  | _ => none }
def wireAgesRow : OpenClaim := { program := "ytbjhmifhmojaoaa", sum := "72a9f706d5c8f61841d09eeb9edd100c825bdaa8192f0ce797fbdfcf843d0f8d", func := "roundhouse/roundhouselaw3.WireAges", spec := "wireAges", apart := false }
def WireAgesSaid : Prop := wireAgesRow.holds Try.pinned (OpenSpec.ofChange wireAgesSpec)

/-- ITS FALSE NEIGHBOUR: 'it returns false'. Refute it at one input. -/
def wireAgesWrong : ChangeSpec := { name := "wireAges", fn := fun _ => fun
  | [d1, d2, d3, d4] => { results := [.lit (.bool false)], args := [d1, d2, d3, d4] }
  | _ => none }
def WireAgesWrongFalsely : Prop := wireAgesRow.holds Try.pinned (OpenSpec.ofChange wireAgesWrong)

/-- 'roundhouselaw3.WireNought': WHATEVER THE INPUT: true; the input reads as it did. -/
def wireNoughtSpec : ChangeSpec := { name := "wireNought", fn := fun _ => fun
  | [d1, d2, d3, d4, d5] => { results := [.lit (.bool true)], args := [d1, d2, d3, d4, d5] }
  | _ => none }
def wireNoughtRow : OpenClaim := { program := "ytbjhmifhmojaoaa", sum := "72a9f706d5c8f61841d09eeb9edd100c825bdaa8192f0ce797fbdfcf843d0f8d", func := "roundhouse/roundhouselaw3.WireNought", spec := "wireNought", apart := false }
def WireNoughtSaid : Prop := wireNoughtRow.holds Try.pinned (OpenSpec.ofChange wireNoughtSpec)

/-- ITS FALSE NEIGHBOUR: 'it returns false'. Refute it at one input. -/
def wireNoughtWrong : ChangeSpec := { name := "wireNought", fn := fun _ => fun
  | [d1, d2, d3, d4, d5] => { results := [.lit (.bool false)], args := [d1, d2, d3, d4, d5] }
  | _ => none }
def WireNoughtWrongFalsely : Prop := wireNoughtRow.holds Try.pinned (OpenSpec.ofChange wireNoughtWrong)

/-- 'roundhouselaw3.WireHeads': WHATEVER THE INPUT: true; the input reads as it did. -/
def wireHeadsSpec : ChangeSpec := { name := "wireHeads", fn := fun _ => fun
  | [d1, d2, d3, d4, d5, d6] => { results := [.lit (.bool true)], args := [d1, d2, d3, d4, d5, d6] }
  | _ => none }
def wireHeadsRow : OpenClaim := { program := "ytbjhmifhmojaoaa", sum := "72a9f706d5c8f61841d09eeb9edd100c825bdaa8192f0ce797fbdfcf843d0f8d", func := "roundhouse/roundhouselaw3.WireHeads", spec := "wireHeads", apart := false }
def WireHeadsSaid : Prop := wireHeadsRow.holds Try.pinned (OpenSpec.ofChange wireHeadsSpec)

/-- ITS FALSE NEIGHBOUR: 'it returns false'. Refute it at one input. -/
def wireHeadsWrong : ChangeSpec := { name := "wireHeads", fn := fun _ => fun
  | [d1, d2, d3, d4, d5, d6] => { results := [.lit (.bool false)], args := [d1, d2, d3, d4, d5, d6] }
  | _ => none }
def WireHeadsWrongFalsely : Prop := wireHeadsRow.holds Try.pinned (OpenSpec.ofChange wireHeadsWrong)

/-- 'roundhouselaw3.WireOwn': WHATEVER THE INPUT: true; the input reads as it did. -/
def wireOwnSpec : ChangeSpec := { name := "wireOwn", fn := fun _ => fun
  | [d1, d2, d3] => { results := [.lit (.bool true)], args := [d1, d2, d3] }
  | _ => none }
def wireOwnRow : OpenClaim := { program := "ytbjhmifhmojaoaa", sum := "72a9f706d5c8f61841d09eeb9edd100c825bdaa8192f0ce797fbdfcf843d0f8d", func := "roundhouse/roundhouselaw3.WireOwn", spec := "wireOwn", apart := false }
def WireOwnSaid : Prop := wireOwnRow.holds Try.pinned (OpenSpec.ofChange wireOwnSpec)

/-- ITS FALSE NEIGHBOUR: 'it returns false'. Refute it at one input. -/
def wireOwnWrong : ChangeSpec := { name := "wireOwn", fn := fun _ => fun
  | [d1, d2, d3] => { results := [.lit (.bool false)], args := [d1, d2, d3] }
  | _ => none }
def WireOwnWrongFalsely : Prop := wireOwnRow.holds Try.pinned (OpenSpec.ofChange wireOwnWrong)

/- THE SECOND FORM. 'bulk': how many values and letters a reading holds, each counted each time it is reached (what is shared counts as often as it is met; a slice's spare places count too). A statement '..UptoSaid' is the law's where the arguments, and the package variables that the reading takes, are together of bulk at most 1048576: NARROWER than '..Said'. Prove '..Said' where nothing that the law and all that it calls make is longer than what came in: it says more and counts as full. Else prove '..UptoSaid'. A law counts once. -/
mutual
def uptoBulk {H : Type} : DataW H → Nat
  | .lit (.string bytes) => bytes.length + 1
  | .lit _ => 1
  | .nil => 1
  | .ptr d => uptoBulk d + 1
  | .slice elems spare => uptoBulkAll elems + uptoBulkAll spare + 1
  | .agg parts => uptoBulkAll parts + 1
  | .iface _ d => uptoBulk d + 1
  | .map entries => uptoBulkEntries entries + 1
  | .held _ => 1
def uptoBulkAll {H : Type} : List (DataW H) → Nat
  | [] => 0
  | d :: r => uptoBulk d + uptoBulkAll r
def uptoBulkEntries {H : Type} : List (Lit × DataW H) → Nat
  | [] => 0
  | x :: r => uptoBulkEntry x + uptoBulkEntries r
def uptoBulkEntry {H : Type} : Lit × DataW H → Nat
  | (.string bytes, d) => bytes.length + uptoBulk d + 1
  | (_, d) => uptoBulk d + 1
 end
def uptoSmall : (H : Type) → List (DataW H) → Bool := fun _ ds => decide (uptoBulkAll ds ≤ 1048576)
def OpenSpec.upto (s : _root_.Go.ChangeSpec) : _root_.Go.OpenSpec := { _root_.Go.OpenSpec.ofChange s with cond := some uptoSmall }

/-- 'roundhouselaw3.WireBack', WHERE WHAT IT READS IS OF BULK AT MOST 1048576: true; the input reads as it did. -/
def wireBackUptoRow : OpenClaim := { program := "ytbjhmifhmojaoaa", sum := "72a9f706d5c8f61841d09eeb9edd100c825bdaa8192f0ce797fbdfcf843d0f8d", func := "roundhouse/roundhouselaw3.WireBack", spec := "wireBack", apart := false, narrowed := true }
def WireBackUptoSaid : Prop := wireBackUptoRow.holds Try.pinned (OpenSpec.upto wireBackSpec)

/-- 'roundhouselaw3.WireReads', WHERE WHAT IT READS IS OF BULK AT MOST 1048576: true; the input reads as it did. -/
def wireReadsUptoRow : OpenClaim := { program := "ytbjhmifhmojaoaa", sum := "72a9f706d5c8f61841d09eeb9edd100c825bdaa8192f0ce797fbdfcf843d0f8d", func := "roundhouse/roundhouselaw3.WireReads", spec := "wireReads", apart := false, narrowed := true }
def WireReadsUptoSaid : Prop := wireReadsUptoRow.holds Try.pinned (OpenSpec.upto wireReadsSpec)

/-- 'roundhouselaw3.WireBuilds', WHERE WHAT IT READS IS OF BULK AT MOST 1048576: true; the input reads as it did. -/
def wireBuildsUptoRow : OpenClaim := { program := "ytbjhmifhmojaoaa", sum := "72a9f706d5c8f61841d09eeb9edd100c825bdaa8192f0ce797fbdfcf843d0f8d", func := "roundhouse/roundhouselaw3.WireBuilds", spec := "wireBuilds", apart := false, narrowed := true }
def WireBuildsUptoSaid : Prop := wireBuildsUptoRow.holds Try.pinned (OpenSpec.upto wireBuildsSpec)

/-- 'roundhouselaw3.WireWrites', WHERE WHAT IT READS IS OF BULK AT MOST 1048576: true; the input reads as it did. -/
def wireWritesUptoRow : OpenClaim := { program := "ytbjhmifhmojaoaa", sum := "72a9f706d5c8f61841d09eeb9edd100c825bdaa8192f0ce797fbdfcf843d0f8d", func := "roundhouse/roundhouselaw3.WireWrites", spec := "wireWrites", apart := false, narrowed := true }
def WireWritesUptoSaid : Prop := wireWritesUptoRow.holds Try.pinned (OpenSpec.upto wireWritesSpec)

/-- 'roundhouselaw3.WireNats', WHERE WHAT IT READS IS OF BULK AT MOST 1048576: true; the input reads as it did. -/
def wireNatsUptoRow : OpenClaim := { program := "ytbjhmifhmojaoaa", sum := "72a9f706d5c8f61841d09eeb9edd100c825bdaa8192f0ce797fbdfcf843d0f8d", func := "roundhouse/roundhouselaw3.WireNats", spec := "wireNats", apart := false, narrowed := true }
def WireNatsUptoSaid : Prop := wireNatsUptoRow.holds Try.pinned (OpenSpec.upto wireNatsSpec)

/-- 'roundhouselaw3.WireKeeps', WHERE WHAT IT READS IS OF BULK AT MOST 1048576: true; the input reads as it did. -/
def wireKeepsUptoRow : OpenClaim := { program := "ytbjhmifhmojaoaa", sum := "72a9f706d5c8f61841d09eeb9edd100c825bdaa8192f0ce797fbdfcf843d0f8d", func := "roundhouse/roundhouselaw3.WireKeeps", spec := "wireKeeps", apart := false, narrowed := true }
def WireKeepsUptoSaid : Prop := wireKeepsUptoRow.holds Try.pinned (OpenSpec.upto wireKeepsSpec)

/-- 'roundhouselaw3.WireFields', WHERE WHAT IT READS IS OF BULK AT MOST 1048576: true; the input reads as it did. -/
def wireFieldsUptoRow : OpenClaim := { program := "ytbjhmifhmojaoaa", sum := "72a9f706d5c8f61841d09eeb9edd100c825bdaa8192f0ce797fbdfcf843d0f8d", func := "roundhouse/roundhouselaw3.WireFields", spec := "wireFields", apart := false, narrowed := true }
def WireFieldsUptoSaid : Prop := wireFieldsUptoRow.holds Try.pinned (OpenSpec.upto wireFieldsSpec)

/-- 'roundhouselaw3.WirePlaces', WHERE WHAT IT READS IS OF BULK AT MOST 1048576: true; the input reads as it did. -/
def wirePlacesUptoRow : OpenClaim := { program := "ytbjhmifhmojaoaa", sum := "72a9f706d5c8f61841d09eeb9edd100c825bdaa8192f0ce797fbdfcf843d0f8d", func := "roundhouse/roundhouselaw3.WirePlaces", spec := "wirePlaces", apart := false, narrowed := true }
def WirePlacesUptoSaid : Prop := wirePlacesUptoRow.holds Try.pinned (OpenSpec.upto wirePlacesSpec)

/-- 'roundhouselaw3.WireAges', WHERE WHAT IT READS IS OF BULK AT MOST 1048576: true; the input reads as it did. -/
def wireAgesUptoRow : OpenClaim := { program := "ytbjhmifhmojaoaa", sum := "72a9f706d5c8f61841d09eeb9edd100c825bdaa8192f0ce797fbdfcf843d0f8d", func := "roundhouse/roundhouselaw3.WireAges", spec := "wireAges", apart := false, narrowed := true }
def WireAgesUptoSaid : Prop := wireAgesUptoRow.holds Try.pinned (OpenSpec.upto wireAgesSpec)

/-- 'roundhouselaw3.WireNought', WHERE WHAT IT READS IS OF BULK AT MOST 1048576: true; the input reads as it did. -/
def wireNoughtUptoRow : OpenClaim := { program := "ytbjhmifhmojaoaa", sum := "72a9f706d5c8f61841d09eeb9edd100c825bdaa8192f0ce797fbdfcf843d0f8d", func := "roundhouse/roundhouselaw3.WireNought", spec := "wireNought", apart := false, narrowed := true }
def WireNoughtUptoSaid : Prop := wireNoughtUptoRow.holds Try.pinned (OpenSpec.upto wireNoughtSpec)

/-- 'roundhouselaw3.WireHeads', WHERE WHAT IT READS IS OF BULK AT MOST 1048576: true; the input reads as it did. -/
def wireHeadsUptoRow : OpenClaim := { program := "ytbjhmifhmojaoaa", sum := "72a9f706d5c8f61841d09eeb9edd100c825bdaa8192f0ce797fbdfcf843d0f8d", func := "roundhouse/roundhouselaw3.WireHeads", spec := "wireHeads", apart := false, narrowed := true }
def WireHeadsUptoSaid : Prop := wireHeadsUptoRow.holds Try.pinned (OpenSpec.upto wireHeadsSpec)

/-- 'roundhouselaw3.WireOwn', WHERE WHAT IT READS IS OF BULK AT MOST 1048576: true; the input reads as it did. -/
def wireOwnUptoRow : OpenClaim := { program := "ytbjhmifhmojaoaa", sum := "72a9f706d5c8f61841d09eeb9edd100c825bdaa8192f0ce797fbdfcf843d0f8d", func := "roundhouse/roundhouselaw3.WireOwn", spec := "wireOwn", apart := false, narrowed := true }
def WireOwnUptoSaid : Prop := wireOwnUptoRow.holds Try.pinned (OpenSpec.upto wireOwnSpec)

end Rows
end Go.Proofs.Ytbjhmifhmojaoaa
