/-
  No cell of these rows narrows 'for every input' (looked for: loops, veiled, ifaces, maps, wideKeys, modest, calm, conditions, laid).
  DERIVED. THE GIVEN ROWS OF THIS SEAT. 10 by the template 'for every input the law returns true; each argument reads behind the call as it read before'; 0 by the template 'total and deterministic' (their statements: YtofgnnmlhnpcoaaTotals.lean).
  GIVEN WITH THE SEED: the statements are not yours to turn. If you find one false, say at which input.
  Laid BY PROGRAM, IN A SANDBOX (cutbox-rows.mjs): the forced cells as the released guide's own fill.sh prints them over the translation 6a61a1be9a50faf4… (all of the seat's roots in one cut). By AI agents, Wed Nov 11 2026. No macro, syntax, notation, axiom, sorry.
-/
import Derived.Test.YtofgnnmlhnpcoaaChecked
import GoSem.Claim
import GoSem.ClaimJoined
import GoSem.ClaimMapViews
import Derived.JoinedTies
import Derived.KernelRfl
namespace Go.Proofs.Ytofgnnmlhnpcoaa
/- THE CELL 'sum', in the pinned program and in every row, IS THE sha256 OF THE DUMP (.gsa) THAT YtofgnnmlhnpcoaaProg.lean LOADS. Nothing in Lean hashes anything: it is a label: what it is worth is what the hold of that sum in a sandbox is worth. -/
noncomputable def Try.pinned : Pinned := { name := "ytofgnnmlhnpcoaa", sum := "6a61a1be9a50faf41ac634cd306a6840cfb6dfff9ea3d3b084af23a965676be2", checked := Try.checked }
namespace Rows
def none {H : Type} : Left H := { results := [], args := [] }

/-- 'roundhouselaw1.SumAdds': WHATEVER THE INPUT: true; the input reads as it did. -/
def sumAddsSpec : ChangeSpec := { name := "sumAdds", fn := fun _ => fun
  | [d1, d2] => { results := [.lit (.bool true)], args := [d1, d2] }
  | _ => none }
def sumAddsRow : OpenClaim := { program := "ytofgnnmlhnpcoaa", sum := "6a61a1be9a50faf41ac634cd306a6840cfb6dfff9ea3d3b084af23a965676be2", func := "roundhouse/roundhouselaw1.SumAdds", spec := "sumAdds", apart := false }
def SumAddsSaid : Prop := sumAddsRow.holds Try.pinned (OpenSpec.ofChange sumAddsSpec)

/-- ITS FALSE NEIGHBOUR: 'it returns false'. Refute it at one input. -/
def sumAddsWrong : ChangeSpec := { name := "sumAdds", fn := fun _ => fun
  | [d1, d2] => { results := [.lit (.bool false)], args := [d1, d2] }
  | _ => none }
def SumAddsWrongFalsely : Prop := sumAddsRow.holds Try.pinned (OpenSpec.ofChange sumAddsWrong)

/-- 'roundhouselaw1.SumPluses': WHATEVER THE INPUT: true; the input reads as it did. -/
def sumPlusesSpec : ChangeSpec := { name := "sumPluses", fn := fun _ => fun
  | [d1, d2, d3] => { results := [.lit (.bool true)], args := [d1, d2, d3] }
  | _ => none }
def sumPlusesRow : OpenClaim := { program := "ytofgnnmlhnpcoaa", sum := "6a61a1be9a50faf41ac634cd306a6840cfb6dfff9ea3d3b084af23a965676be2", func := "roundhouse/roundhouselaw1.SumPluses", spec := "sumPluses", apart := false }
def SumPlusesSaid : Prop := sumPlusesRow.holds Try.pinned (OpenSpec.ofChange sumPlusesSpec)

/-- ITS FALSE NEIGHBOUR: 'it returns false'. Refute it at one input. -/
def sumPlusesWrong : ChangeSpec := { name := "sumPluses", fn := fun _ => fun
  | [d1, d2, d3] => { results := [.lit (.bool false)], args := [d1, d2, d3] }
  | _ => none }
def SumPlusesWrongFalsely : Prop := sumPlusesRow.holds Try.pinned (OpenSpec.ofChange sumPlusesWrong)

/-- 'roundhouselaw1.SumTurns': WHATEVER THE INPUT: true; the input reads as it did. -/
def sumTurnsSpec : ChangeSpec := { name := "sumTurns", fn := fun _ => fun
  | [d1, d2, d3] => { results := [.lit (.bool true)], args := [d1, d2, d3] }
  | _ => none }
def sumTurnsRow : OpenClaim := { program := "ytofgnnmlhnpcoaa", sum := "6a61a1be9a50faf41ac634cd306a6840cfb6dfff9ea3d3b084af23a965676be2", func := "roundhouse/roundhouselaw1.SumTurns", spec := "sumTurns", apart := false }
def SumTurnsSaid : Prop := sumTurnsRow.holds Try.pinned (OpenSpec.ofChange sumTurnsSpec)

/-- ITS FALSE NEIGHBOUR: 'it returns false'. Refute it at one input. -/
def sumTurnsWrong : ChangeSpec := { name := "sumTurns", fn := fun _ => fun
  | [d1, d2, d3] => { results := [.lit (.bool false)], args := [d1, d2, d3] }
  | _ => none }
def SumTurnsWrongFalsely : Prop := sumTurnsRow.holds Try.pinned (OpenSpec.ofChange sumTurnsWrong)

/-- 'roundhouselaw1.SumKeeps': WHATEVER THE INPUT: true; the input reads as it did. -/
def sumKeepsSpec : ChangeSpec := { name := "sumKeeps", fn := fun _ => fun
  | [d1, d2, d3] => { results := [.lit (.bool true)], args := [d1, d2, d3] }
  | _ => none }
def sumKeepsRow : OpenClaim := { program := "ytofgnnmlhnpcoaa", sum := "6a61a1be9a50faf41ac634cd306a6840cfb6dfff9ea3d3b084af23a965676be2", func := "roundhouse/roundhouselaw1.SumKeeps", spec := "sumKeeps", apart := false }
def SumKeepsSaid : Prop := sumKeepsRow.holds Try.pinned (OpenSpec.ofChange sumKeepsSpec)

/-- ITS FALSE NEIGHBOUR: 'it returns false'. Refute it at one input. -/
def sumKeepsWrong : ChangeSpec := { name := "sumKeeps", fn := fun _ => fun
  | [d1, d2, d3] => { results := [.lit (.bool false)], args := [d1, d2, d3] }
  | _ => none }
def SumKeepsWrongFalsely : Prop := sumKeepsRow.holds Try.pinned (OpenSpec.ofChange sumKeepsWrong)

/-- 'roundhouselaw1.SumWrong': WHATEVER THE INPUT: true; the input reads as it did. -/
def sumWrongSpec : ChangeSpec := { name := "sumWrong", fn := fun _ => fun
  | [d1, d2, d3] => { results := [.lit (.bool true)], args := [d1, d2, d3] }
  | _ => none }
def sumWrongRow : OpenClaim := { program := "ytofgnnmlhnpcoaa", sum := "6a61a1be9a50faf41ac634cd306a6840cfb6dfff9ea3d3b084af23a965676be2", func := "roundhouse/roundhouselaw1.SumWrong", spec := "sumWrong", apart := false }
def SumWrongSaid : Prop := sumWrongRow.holds Try.pinned (OpenSpec.ofChange sumWrongSpec)

/-- ITS FALSE NEIGHBOUR: 'it returns false'. Refute it at one input. -/
def sumWrongWrong : ChangeSpec := { name := "sumWrong", fn := fun _ => fun
  | [d1, d2, d3] => { results := [.lit (.bool false)], args := [d1, d2, d3] }
  | _ => none }
def SumWrongWrongFalsely : Prop := sumWrongRow.holds Try.pinned (OpenSpec.ofChange sumWrongWrong)

/-- 'roundhouselaw1.SumParts': WHATEVER THE INPUT: true; the input reads as it did. -/
def sumPartsSpec : ChangeSpec := { name := "sumParts", fn := fun _ => fun
  | [d1, d2, d3] => { results := [.lit (.bool true)], args := [d1, d2, d3] }
  | _ => none }
def sumPartsRow : OpenClaim := { program := "ytofgnnmlhnpcoaa", sum := "6a61a1be9a50faf41ac634cd306a6840cfb6dfff9ea3d3b084af23a965676be2", func := "roundhouse/roundhouselaw1.SumParts", spec := "sumParts", apart := false }
def SumPartsSaid : Prop := sumPartsRow.holds Try.pinned (OpenSpec.ofChange sumPartsSpec)

/-- ITS FALSE NEIGHBOUR: 'it returns false'. Refute it at one input. -/
def sumPartsWrong : ChangeSpec := { name := "sumParts", fn := fun _ => fun
  | [d1, d2, d3] => { results := [.lit (.bool false)], args := [d1, d2, d3] }
  | _ => none }
def SumPartsWrongFalsely : Prop := sumPartsRow.holds Try.pinned (OpenSpec.ofChange sumPartsWrong)

/-- 'roundhouselaw1.SumBounds': WHATEVER THE INPUT: true; the input reads as it did. -/
def sumBoundsSpec : ChangeSpec := { name := "sumBounds", fn := fun _ => fun
  | [d] => { results := [.lit (.bool true)], args := [d] }
  | _ => none }
def sumBoundsRow : OpenClaim := { program := "ytofgnnmlhnpcoaa", sum := "6a61a1be9a50faf41ac634cd306a6840cfb6dfff9ea3d3b084af23a965676be2", func := "roundhouse/roundhouselaw1.SumBounds", spec := "sumBounds", apart := false }
def SumBoundsSaid : Prop := sumBoundsRow.holds Try.pinned (OpenSpec.ofChange sumBoundsSpec)

/-- ITS FALSE NEIGHBOUR: 'it returns false'. Refute it at one input. -/
def sumBoundsWrong : ChangeSpec := { name := "sumBounds", fn := fun _ => fun
  | [d] => { results := [.lit (.bool false)], args := [d] }
  | _ => none }
def SumBoundsWrongFalsely : Prop := sumBoundsRow.holds Try.pinned (OpenSpec.ofChange sumBoundsWrong)

/-- 'roundhouselaw1.SumKnown': WHATEVER THE INPUT: true; the input reads as it did. -/
def sumKnownSpec : ChangeSpec := { name := "sumKnown", fn := fun _ => fun
  | [d] => { results := [.lit (.bool true)], args := [d] }
  | _ => none }
def sumKnownRow : OpenClaim := { program := "ytofgnnmlhnpcoaa", sum := "6a61a1be9a50faf41ac634cd306a6840cfb6dfff9ea3d3b084af23a965676be2", func := "roundhouse/roundhouselaw1.SumKnown", spec := "sumKnown", apart := false }
def SumKnownSaid : Prop := sumKnownRow.holds Try.pinned (OpenSpec.ofChange sumKnownSpec)

/-- ITS FALSE NEIGHBOUR: 'it returns false'. Refute it at one input. -/
def sumKnownWrong : ChangeSpec := { name := "sumKnown", fn := fun _ => fun
  | [d] => { results := [.lit (.bool false)], args := [d] }
  | _ => none }
def SumKnownWrongFalsely : Prop := sumKnownRow.holds Try.pinned (OpenSpec.ofChange sumKnownWrong)

/-- 'roundhouselaw1.SumOwn': WHATEVER THE INPUT: true; the input reads as it did. -/
def sumOwnSpec : ChangeSpec := { name := "sumOwn", fn := fun _ => fun
  | [d] => { results := [.lit (.bool true)], args := [d] }
  | _ => none }
def sumOwnRow : OpenClaim := { program := "ytofgnnmlhnpcoaa", sum := "6a61a1be9a50faf41ac634cd306a6840cfb6dfff9ea3d3b084af23a965676be2", func := "roundhouse/roundhouselaw1.SumOwn", spec := "sumOwn", apart := false }
def SumOwnSaid : Prop := sumOwnRow.holds Try.pinned (OpenSpec.ofChange sumOwnSpec)

/-- ITS FALSE NEIGHBOUR: 'it returns false'. Refute it at one input. -/
def sumOwnWrong : ChangeSpec := { name := "sumOwn", fn := fun _ => fun
  | [d] => { results := [.lit (.bool false)], args := [d] }
  | _ => none }
def SumOwnWrongFalsely : Prop := sumOwnRow.holds Try.pinned (OpenSpec.ofChange sumOwnWrong)

/-- 'roundhouselaw1.SumMany': WHATEVER THE INPUT: true; the input reads as it did. -/
def sumManySpec : ChangeSpec := { name := "sumMany", fn := fun _ => fun
  | [d1, d2, d3] => { results := [.lit (.bool true)], args := [d1, d2, d3] }
  | _ => none }
def sumManyRow : OpenClaim := { program := "ytofgnnmlhnpcoaa", sum := "6a61a1be9a50faf41ac634cd306a6840cfb6dfff9ea3d3b084af23a965676be2", func := "roundhouse/roundhouselaw1.SumMany", spec := "sumMany", apart := false }
def SumManySaid : Prop := sumManyRow.holds Try.pinned (OpenSpec.ofChange sumManySpec)

/-- ITS FALSE NEIGHBOUR: 'it returns false'. Refute it at one input. -/
def sumManyWrong : ChangeSpec := { name := "sumMany", fn := fun _ => fun
  | [d1, d2, d3] => { results := [.lit (.bool false)], args := [d1, d2, d3] }
  | _ => none }
def SumManyWrongFalsely : Prop := sumManyRow.holds Try.pinned (OpenSpec.ofChange sumManyWrong)

/- THE SECOND FORM. 'bulk': how many values and letters a reading holds, each counted each time it is reached (what is shared counts as often as it is met; a slice's spare places count too). A statement '..UptoSaid' is the law's where the arguments, and the package variables that the reading takes, are together of bulk at most 1048576: NARROWER than '..Said'. Prove '..Said' where nothing that the law and all that it calls make is longer than what came in: it says more and counts as full. Else prove '..UptoSaid'. A law counts once. -/
mutual
def uptoBulk {H : Type} : DataW H → Nat
  | .lit (.string bytes) => bytes.length + 1
  | .lit _ => 1
  | .nil => 1
  | .ptr d => uptoBulk d + 1
  | .slice elems spare => uptoBulkAll elems + uptoBulkAll spare + 1
  | .agg parts => uptoBulkAll parts + 1
  | .iface _ d => uptoBulk d + 1
  | .map entries => uptoBulkEntries entries + 1
  | .held _ => 1
def uptoBulkAll {H : Type} : List (DataW H) → Nat
  | [] => 0
  | d :: r => uptoBulk d + uptoBulkAll r
def uptoBulkEntries {H : Type} : List (Lit × DataW H) → Nat
  | [] => 0
  | x :: r => uptoBulkEntry x + uptoBulkEntries r
def uptoBulkEntry {H : Type} : Lit × DataW H → Nat
  | (.string bytes, d) => bytes.length + uptoBulk d + 1
  | (_, d) => uptoBulk d + 1
 end
def uptoSmall : (H : Type) → List (DataW H) → Bool := fun _ ds => decide (uptoBulkAll ds ≤ 1048576)
def OpenSpec.upto (s : _root_.Go.ChangeSpec) : _root_.Go.OpenSpec := { _root_.Go.OpenSpec.ofChange s with cond := some uptoSmall }

/-- 'roundhouselaw1.SumAdds', WHERE WHAT IT READS IS OF BULK AT MOST 1048576: true; the input reads as it did. -/
def sumAddsUptoRow : OpenClaim := { program := "ytofgnnmlhnpcoaa", sum := "6a61a1be9a50faf41ac634cd306a6840cfb6dfff9ea3d3b084af23a965676be2", func := "roundhouse/roundhouselaw1.SumAdds", spec := "sumAdds", apart := false, narrowed := true }
def SumAddsUptoSaid : Prop := sumAddsUptoRow.holds Try.pinned (OpenSpec.upto sumAddsSpec)

/-- 'roundhouselaw1.SumPluses', WHERE WHAT IT READS IS OF BULK AT MOST 1048576: true; the input reads as it did. -/
def sumPlusesUptoRow : OpenClaim := { program := "ytofgnnmlhnpcoaa", sum := "6a61a1be9a50faf41ac634cd306a6840cfb6dfff9ea3d3b084af23a965676be2", func := "roundhouse/roundhouselaw1.SumPluses", spec := "sumPluses", apart := false, narrowed := true }
def SumPlusesUptoSaid : Prop := sumPlusesUptoRow.holds Try.pinned (OpenSpec.upto sumPlusesSpec)

/-- 'roundhouselaw1.SumTurns', WHERE WHAT IT READS IS OF BULK AT MOST 1048576: true; the input reads as it did. -/
def sumTurnsUptoRow : OpenClaim := { program := "ytofgnnmlhnpcoaa", sum := "6a61a1be9a50faf41ac634cd306a6840cfb6dfff9ea3d3b084af23a965676be2", func := "roundhouse/roundhouselaw1.SumTurns", spec := "sumTurns", apart := false, narrowed := true }
def SumTurnsUptoSaid : Prop := sumTurnsUptoRow.holds Try.pinned (OpenSpec.upto sumTurnsSpec)

/-- 'roundhouselaw1.SumKeeps', WHERE WHAT IT READS IS OF BULK AT MOST 1048576: true; the input reads as it did. -/
def sumKeepsUptoRow : OpenClaim := { program := "ytofgnnmlhnpcoaa", sum := "6a61a1be9a50faf41ac634cd306a6840cfb6dfff9ea3d3b084af23a965676be2", func := "roundhouse/roundhouselaw1.SumKeeps", spec := "sumKeeps", apart := false, narrowed := true }
def SumKeepsUptoSaid : Prop := sumKeepsUptoRow.holds Try.pinned (OpenSpec.upto sumKeepsSpec)

/-- 'roundhouselaw1.SumWrong', WHERE WHAT IT READS IS OF BULK AT MOST 1048576: true; the input reads as it did. -/
def sumWrongUptoRow : OpenClaim := { program := "ytofgnnmlhnpcoaa", sum := "6a61a1be9a50faf41ac634cd306a6840cfb6dfff9ea3d3b084af23a965676be2", func := "roundhouse/roundhouselaw1.SumWrong", spec := "sumWrong", apart := false, narrowed := true }
def SumWrongUptoSaid : Prop := sumWrongUptoRow.holds Try.pinned (OpenSpec.upto sumWrongSpec)

/-- 'roundhouselaw1.SumParts', WHERE WHAT IT READS IS OF BULK AT MOST 1048576: true; the input reads as it did. -/
def sumPartsUptoRow : OpenClaim := { program := "ytofgnnmlhnpcoaa", sum := "6a61a1be9a50faf41ac634cd306a6840cfb6dfff9ea3d3b084af23a965676be2", func := "roundhouse/roundhouselaw1.SumParts", spec := "sumParts", apart := false, narrowed := true }
def SumPartsUptoSaid : Prop := sumPartsUptoRow.holds Try.pinned (OpenSpec.upto sumPartsSpec)

/-- 'roundhouselaw1.SumBounds', WHERE WHAT IT READS IS OF BULK AT MOST 1048576: true; the input reads as it did. -/
def sumBoundsUptoRow : OpenClaim := { program := "ytofgnnmlhnpcoaa", sum := "6a61a1be9a50faf41ac634cd306a6840cfb6dfff9ea3d3b084af23a965676be2", func := "roundhouse/roundhouselaw1.SumBounds", spec := "sumBounds", apart := false, narrowed := true }
def SumBoundsUptoSaid : Prop := sumBoundsUptoRow.holds Try.pinned (OpenSpec.upto sumBoundsSpec)

/-- 'roundhouselaw1.SumKnown', WHERE WHAT IT READS IS OF BULK AT MOST 1048576: true; the input reads as it did. -/
def sumKnownUptoRow : OpenClaim := { program := "ytofgnnmlhnpcoaa", sum := "6a61a1be9a50faf41ac634cd306a6840cfb6dfff9ea3d3b084af23a965676be2", func := "roundhouse/roundhouselaw1.SumKnown", spec := "sumKnown", apart := false, narrowed := true }
def SumKnownUptoSaid : Prop := sumKnownUptoRow.holds Try.pinned (OpenSpec.upto sumKnownSpec)

/-- 'roundhouselaw1.SumOwn', WHERE WHAT IT READS IS OF BULK AT MOST 1048576: true; the input reads as it did. -/
def sumOwnUptoRow : OpenClaim := { program := "ytofgnnmlhnpcoaa", sum := "6a61a1be9a50faf41ac634cd306a6840cfb6dfff9ea3d3b084af23a965676be2", func := "roundhouse/roundhouselaw1.SumOwn", spec := "sumOwn", apart := false, narrowed := true }
def SumOwnUptoSaid : Prop := sumOwnUptoRow.holds Try.pinned (OpenSpec.upto sumOwnSpec)

/-- 'roundhouselaw1.SumMany', WHERE WHAT IT READS IS OF BULK AT MOST 1048576: true; the input reads as it did. -/
def sumManyUptoRow : OpenClaim := { program := "ytofgnnmlhnpcoaa", sum := "6a61a1be9a50faf41ac634cd306a6840cfb6dfff9ea3d3b084af23a965676be2", func := "roundhouse/roundhouselaw1.SumMany", spec := "sumMany", apart := false, narrowed := true }
def SumManyUptoSaid : Prop := sumManyUptoRow.holds Try.pinned (OpenSpec.upto sumManySpec)

end Rows
end Go.Proofs.Ytofgnnmlhnpcoaa
