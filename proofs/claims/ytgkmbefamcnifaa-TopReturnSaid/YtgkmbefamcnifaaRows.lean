/-
  No cell of these rows narrows 'for every input' (looked for: loops, veiled, ifaces, maps, wideKeys, modest, calm, conditions, laid).
  DERIVED. THE GIVEN ROWS OF THIS SEAT. 3 by the template 'for every input the law returns true; each argument reads behind the call as it read before'; 0 by the template 'total and deterministic' (their statements: YtgkmbefamcnifaaTotals.lean).
  GIVEN WITH THE SEED: the statements are not yours to turn. If you find one false, say at which input.
  Laid BY PROGRAM, IN A SANDBOX (cutbox-rows.mjs): the forced cells as the released guide's own fill.sh prints them over the translation 8c67bfda1a6977b8… (all of the seat's roots in one cut). By AI agents, Wed Nov 11 2026. No macro, syntax, notation, axiom, sorry.
-/
import Derived.Test.YtgkmbefamcnifaaChecked
import GoSem.Claim
import GoSem.ClaimJoined
import GoSem.ClaimMapViews
import Derived.JoinedTies
import Derived.KernelRfl
namespace Go.Proofs.Ytgkmbefamcnifaa
/- THE CELL 'sum', in the pinned program and in every row, IS THE sha256 OF THE DUMP (.gsa) THAT YtgkmbefamcnifaaProg.lean LOADS. Nothing in Lean hashes anything: it is a label: what it is worth is what the hold of that sum in a sandbox is worth. -/
noncomputable def Try.pinned : Pinned := { name := "ytgkmbefamcnifaa", sum := "8c67bfda1a6977b8459d90a5f8386fb2773b893daf7d6e41d7d50058ba3dab10", checked := Try.checked }
namespace Rows
def none {H : Type} : Left H := { results := [], args := [] }

/-- 'roundhousetop.TopChain': WHATEVER THE INPUT: true; the input reads as it did. -/
def topChainSpec : ChangeSpec := { name := "topChain", fn := fun _ => fun
  | [d1, d2, d3, d4, d5] => { results := [.lit (.bool true)], args := [d1, d2, d3, d4, d5] }
  | _ => none }
def topChainRow : OpenClaim := { program := "ytgkmbefamcnifaa", sum := "8c67bfda1a6977b8459d90a5f8386fb2773b893daf7d6e41d7d50058ba3dab10", func := "roundhouse/roundhousetop.TopChain", spec := "topChain", unfollowed := true, recurses := true, apart := false }
def TopChainSaid : Prop := topChainRow.holds Try.pinned (OpenSpec.ofChange topChainSpec)

/-- ITS FALSE NEIGHBOUR: 'it returns false'. Refute it at one input. -/
def topChainWrong : ChangeSpec := { name := "topChain", fn := fun _ => fun
  | [d1, d2, d3, d4, d5] => { results := [.lit (.bool false)], args := [d1, d2, d3, d4, d5] }
  | _ => none }
def TopChainWrongFalsely : Prop := topChainRow.holds Try.pinned (OpenSpec.ofChange topChainWrong)

/-- 'roundhousetop.TopReturn': WHATEVER THE INPUT: true; the input reads as it did. -/
def topReturnSpec : ChangeSpec := { name := "topReturn", fn := fun _ => fun
  | [d1, d2, d3, d4, d5] => { results := [.lit (.bool true)], args := [d1, d2, d3, d4, d5] }
  | _ => none }
def topReturnRow : OpenClaim := { program := "ytgkmbefamcnifaa", sum := "8c67bfda1a6977b8459d90a5f8386fb2773b893daf7d6e41d7d50058ba3dab10", func := "roundhouse/roundhousetop.TopReturn", spec := "topReturn", unfollowed := true, recurses := true, apart := false }
def TopReturnSaid : Prop := topReturnRow.holds Try.pinned (OpenSpec.ofChange topReturnSpec)

/-- ITS FALSE NEIGHBOUR: 'it returns false'. Refute it at one input. -/
def topReturnWrong : ChangeSpec := { name := "topReturn", fn := fun _ => fun
  | [d1, d2, d3, d4, d5] => { results := [.lit (.bool false)], args := [d1, d2, d3, d4, d5] }
  | _ => none }
def TopReturnWrongFalsely : Prop := topReturnRow.holds Try.pinned (OpenSpec.ofChange topReturnWrong)

/-- 'roundhousetop.TopQuiet': WHATEVER THE INPUT: true; the input reads as it did. -/
def topQuietSpec : ChangeSpec := { name := "topQuiet", fn := fun _ => fun
  | [d1, d2, d3, d4] => { results := [.lit (.bool true)], args := [d1, d2, d3, d4] }
  | _ => none }
def topQuietRow : OpenClaim := { program := "ytgkmbefamcnifaa", sum := "8c67bfda1a6977b8459d90a5f8386fb2773b893daf7d6e41d7d50058ba3dab10", func := "roundhouse/roundhousetop.TopQuiet", spec := "topQuiet", unfollowed := true, recurses := true, apart := false }
def TopQuietSaid : Prop := topQuietRow.holds Try.pinned (OpenSpec.ofChange topQuietSpec)

/-- ITS FALSE NEIGHBOUR: 'it returns false'. Refute it at one input. -/
def topQuietWrong : ChangeSpec := { name := "topQuiet", fn := fun _ => fun
  | [d1, d2, d3, d4] => { results := [.lit (.bool false)], args := [d1, d2, d3, d4] }
  | _ => none }
def TopQuietWrongFalsely : Prop := topQuietRow.holds Try.pinned (OpenSpec.ofChange topQuietWrong)

/- THE SECOND FORM. 'bulk': how many values and letters a reading holds, each counted each time it is reached (what is shared counts as often as it is met; a slice's spare places count too). A statement '..UptoSaid' is the law's where the arguments, and the package variables that the reading takes, are together of bulk at most 1048576: NARROWER than '..Said'. Prove '..Said' where nothing that the law and all that it calls make is longer than what came in: it says more and counts as full. Else prove '..UptoSaid'. A law counts once. -/
mutual
def uptoBulk {H : Type} : DataW H → Nat
  | .lit (.string bytes) => bytes.length + 1
  | .lit _ => 1
  | .nil => 1
  | .ptr d => uptoBulk d + 1
  | .slice elems spare => uptoBulkAll elems + uptoBulkAll spare + 1
  | .agg parts => uptoBulkAll parts + 1
  | .iface _ d => uptoBulk d + 1
  | .map entries => uptoBulkEntries entries + 1
  | .held _ => 1
def uptoBulkAll {H : Type} : List (DataW H) → Nat
  | [] => 0
  | d :: r => uptoBulk d + uptoBulkAll r
def uptoBulkEntries {H : Type} : List (Lit × DataW H) → Nat
  | [] => 0
  | x :: r => uptoBulkEntry x + uptoBulkEntries r
def uptoBulkEntry {H : Type} : Lit × DataW H → Nat
  | (.string bytes, d) => bytes.length + uptoBulk d + 1
  | (_, d) => uptoBulk d + 1
 end
def uptoSmall : (H : Type) → List (DataW H) → Bool := fun _ ds => decide (uptoBulkAll ds ≤ 1048576)
def OpenSpec.upto (s : _root_.Go.ChangeSpec) : _root_.Go.OpenSpec := { _root_.Go.OpenSpec.ofChange s with cond := some uptoSmall }

/-- 'roundhousetop.TopChain', WHERE WHAT IT READS IS OF BULK AT MOST 1048576: true; the input reads as it did. -/
def topChainUptoRow : OpenClaim := { program := "ytgkmbefamcnifaa", sum := "8c67bfda1a6977b8459d90a5f8386fb2773b893daf7d6e41d7d50058ba3dab10", func := "roundhouse/roundhousetop.TopChain", spec := "topChain", unfollowed := true, recurses := true, apart := false, narrowed := true }
def TopChainUptoSaid : Prop := topChainUptoRow.holds Try.pinned (OpenSpec.upto topChainSpec)

/-- 'roundhousetop.TopReturn', WHERE WHAT IT READS IS OF BULK AT MOST 1048576: true; the input reads as it did. -/
def topReturnUptoRow : OpenClaim := { program := "ytgkmbefamcnifaa", sum := "8c67bfda1a6977b8459d90a5f8386fb2773b893daf7d6e41d7d50058ba3dab10", func := "roundhouse/roundhousetop.TopReturn", spec := "topReturn", unfollowed := true, recurses := true, apart := false, narrowed := true }
def TopReturnUptoSaid : Prop := topReturnUptoRow.holds Try.pinned (OpenSpec.upto topReturnSpec)

/-- 'roundhousetop.TopQuiet', WHERE WHAT IT READS IS OF BULK AT MOST 1048576: true; the input reads as it did. -/
def topQuietUptoRow : OpenClaim := { program := "ytgkmbefamcnifaa", sum := "8c67bfda1a6977b8459d90a5f8386fb2773b893daf7d6e41d7d50058ba3dab10", func := "roundhouse/roundhousetop.TopQuiet", spec := "topQuiet", unfollowed := true, recurses := true, apart := false, narrowed := true }
def TopQuietUptoSaid : Prop := topQuietUptoRow.holds Try.pinned (OpenSpec.upto topQuietSpec)

end Rows
end Go.Proofs.Ytgkmbefamcnifaa
