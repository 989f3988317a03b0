/-
  No cell of these rows narrows 'for every input' (looked for: loops, veiled, ifaces, maps, wideKeys, modest, calm, conditions, laid).
  DERIVED. THE GIVEN ROWS OF THIS SEAT. 10 by the template 'for every input the law returns true; each argument reads behind the call as it read before'; 0 by the template 'total and deterministic' (their statements: YtnlnkkblccppdaaTotals.lean).
  GIVEN WITH THE SEED: the statements are not yours to turn. If you find one false, say at which input.
  Laid BY PROGRAM, IN A SANDBOX (cutbox-rows.mjs): the forced cells as the released guide's own fill.sh prints them over the translation 0e9659765a570a04… (all of the seat's roots in one cut). By AI agents, Wed Nov 11 2026. No macro, syntax, notation, axiom, sorry.
-/
import Derived.Test.YtnlnkkblccppdaaChecked
import GoSem.Claim
import GoSem.ClaimJoined
import GoSem.ClaimMapViews
import Derived.JoinedTies
import Derived.KernelRfl
namespace Go.Proofs.Ytnlnkkblccppdaa
/- THE CELL 'sum', in the pinned program and in every row, IS THE sha256 OF THE DUMP (.gsa) THAT YtnlnkkblccppdaaProg.lean LOADS. Nothing in Lean hashes anything: it is a label: what it is worth is what the hold of that sum in a sandbox is worth. -/
noncomputable def Try.pinned : Pinned := { name := "ytnlnkkblccppdaa", sum := "0e9659765a570a04f0a4f59c6a7a5e0f91be633e9ca805eae3dc4738898969e0", checked := Try.checked }
namespace Rows
def none {H : Type} : Left H := { results := [], args := [] }

/-- 'roundhouselaw8.PulsePlays': WHATEVER THE INPUT: true; the input reads as it did. -/
def pulsePlaysSpec : ChangeSpec := { name := "pulsePlays", fn := fun _ => fun
  | [d1, d2, d3, d4, d5] => { results := [.lit (.bool true)], args := [d1, d2, d3, d4, d5] }
  | _ => none }
def pulsePlaysRow : OpenClaim := { program := "ytnlnkkblccppdaa", sum := "0e9659765a570a04f0a4f59c6a7a5e0f91be633e9ca805eae3dc4738898969e0", func := "roundhouse/roundhouselaw8.PulsePlays", spec := "pulsePlays", apart := false }
def PulsePlaysSaid : Prop := pulsePlaysRow.holds Try.pinned (OpenSpec.ofChange pulsePlaysSpec)

/-- ITS FALSE NEIGHBOUR: 'it returns false'. Refute it at one input. -/
def pulsePlaysWrong : ChangeSpec := { name := "pulsePlays", fn := fun _ => fun
  | [d1, d2, d3, d4, d5] => { results := [.lit (.bool false)], args := [d1, d2, d3, d4, d5] }
  | _ => none }
def PulsePlaysWrongFalsely : Prop := pulsePlaysRow.holds Try.pinned (OpenSpec.ofChange pulsePlaysWrong)

/-- 'roundhouselaw8.PulseErrs': WHATEVER THE INPUT: true; the input reads as it did. -/
def pulseErrsSpec : ChangeSpec := { name := "pulseErrs", fn := fun _ => fun
  | [d1, d2, d3] => { results := [.lit (.bool true)], args := [d1, d2, d3] }
  | _ => none }
def pulseErrsRow : OpenClaim := { program := "ytnlnkkblccppdaa", sum := "0e9659765a570a04f0a4f59c6a7a5e0f91be633e9ca805eae3dc4738898969e0", func := "roundhouse/roundhouselaw8.PulseErrs", spec := "pulseErrs", apart := false }
def PulseErrsSaid : Prop := pulseErrsRow.holds Try.pinned (OpenSpec.ofChange pulseErrsSpec)

/-- ITS FALSE NEIGHBOUR: 'it returns false'. Refute it at one input. -/
def pulseErrsWrong : ChangeSpec := { name := "pulseErrs", fn := fun _ => fun
  | [d1, d2, d3] => { results := [.lit (.bool false)], args := [d1, d2, d3] }
  | _ => none }
def PulseErrsWrongFalsely : Prop := pulseErrsRow.holds Try.pinned (OpenSpec.ofChange pulseErrsWrong)

/-- 'roundhouselaw8.PulseRows': WHATEVER THE INPUT: true; the input reads as it did. -/
def pulseRowsSpec : ChangeSpec := { name := "pulseRows", fn := fun _ => fun
  | [d1, d2, d3, d4] => { results := [.lit (.bool true)], args := [d1, d2, d3, d4] }
  | _ => none }
def pulseRowsRow : OpenClaim := { program := "ytnlnkkblccppdaa", sum := "0e9659765a570a04f0a4f59c6a7a5e0f91be633e9ca805eae3dc4738898969e0", func := "roundhouse/roundhouselaw8.PulseRows", spec := "pulseRows", apart := false }
def PulseRowsSaid : Prop := pulseRowsRow.holds Try.pinned (OpenSpec.ofChange pulseRowsSpec)

/-- ITS FALSE NEIGHBOUR: 'it returns false'. Refute it at one input. -/
def pulseRowsWrong : ChangeSpec := { name := "pulseRows", fn := fun _ => fun
  | [d1, d2, d3, d4] => { results := [.lit (.bool false)], args := [d1, d2, d3, d4] }
  | _ => none }
def PulseRowsWrongFalsely : Prop := pulseRowsRow.holds Try.pinned (OpenSpec.ofChange pulseRowsWrong)

/-- 'roundhouselaw8.PulseDue': WHATEVER THE INPUT: true; the input reads as it did. -/
def pulseDueSpec : ChangeSpec := { name := "pulseDue", fn := fun _ => fun
  | [d1, d2, d3, d4] => { results := [.lit (.bool true)], args := [d1, d2, d3, d4] }
  | _ => none }
def pulseDueRow : OpenClaim := { program := "ytnlnkkblccppdaa", sum := "0e9659765a570a04f0a4f59c6a7a5e0f91be633e9ca805eae3dc4738898969e0", func := "roundhouse/roundhouselaw8.PulseDue", spec := "pulseDue", apart := false }
def PulseDueSaid : Prop := pulseDueRow.holds Try.pinned (OpenSpec.ofChange pulseDueSpec)

/-- ITS FALSE NEIGHBOUR: 'it returns false'. Refute it at one input. -/
def pulseDueWrong : ChangeSpec := { name := "pulseDue", fn := fun _ => fun
  | [d1, d2, d3, d4] => { results := [.lit (.bool false)], args := [d1, d2, d3, d4] }
  | _ => none }
def PulseDueWrongFalsely : Prop := pulseDueRow.holds Try.pinned (OpenSpec.ofChange pulseDueWrong)

/-- 'roundhouselaw8.PulseApart': WHATEVER THE INPUT: true; the input reads as it did. -/
def pulseApartSpec : ChangeSpec := { name := "pulseApart", fn := fun _ => fun
  | [d1, d2, d3] => { results := [.lit (.bool true)], args := [d1, d2, d3] }
  | _ => none }
def pulseApartRow : OpenClaim := { program := "ytnlnkkblccppdaa", sum := "0e9659765a570a04f0a4f59c6a7a5e0f91be633e9ca805eae3dc4738898969e0", func := "roundhouse/roundhouselaw8.PulseApart", spec := "pulseApart", apart := false }
def PulseApartSaid : Prop := pulseApartRow.holds Try.pinned (OpenSpec.ofChange pulseApartSpec)

/-- ITS FALSE NEIGHBOUR: 'it returns false'. Refute it at one input. -/
def pulseApartWrong : ChangeSpec := { name := "pulseApart", fn := fun _ => fun
  | [d1, d2, d3] => { results := [.lit (.bool false)], args := [d1, d2, d3] }
  | _ => none }
def PulseApartWrongFalsely : Prop := pulseApartRow.holds Try.pinned (OpenSpec.ofChange pulseApartWrong)

/-- 'roundhouselaw8.PulseOnce': WHATEVER THE INPUT: true; the input reads as it did. -/
def pulseOnceSpec : ChangeSpec := { name := "pulseOnce", fn := fun _ => fun
  | [d1, d2] => { results := [.lit (.bool true)], args := [d1, d2] }
  | _ => none }
def pulseOnceRow : OpenClaim := { program := "ytnlnkkblccppdaa", sum := "0e9659765a570a04f0a4f59c6a7a5e0f91be633e9ca805eae3dc4738898969e0", func := "roundhouse/roundhouselaw8.PulseOnce", spec := "pulseOnce", apart := false }
def PulseOnceSaid : Prop := pulseOnceRow.holds Try.pinned (OpenSpec.ofChange pulseOnceSpec)

/-- ITS FALSE NEIGHBOUR: 'it returns false'. Refute it at one input. -/
def pulseOnceWrong : ChangeSpec := { name := "pulseOnce", fn := fun _ => fun
  | [d1, d2] => { results := [.lit (.bool false)], args := [d1, d2] }
  | _ => none }
def PulseOnceWrongFalsely : Prop := pulseOnceRow.holds Try.pinned (OpenSpec.ofChange pulseOnceWrong)

/-- 'roundhouselaw8.PulseDrops': WHATEVER THE INPUT: true; the input reads as it did. -/
def pulseDropsSpec : ChangeSpec := { name := "pulseDrops", fn := fun _ => fun
  | [d1, d2, d3, d4] => { results := [.lit (.bool true)], args := [d1, d2, d3, d4] }
  | _ => none }
def pulseDropsRow : OpenClaim := { program := "ytnlnkkblccppdaa", sum := "0e9659765a570a04f0a4f59c6a7a5e0f91be633e9ca805eae3dc4738898969e0", func := "roundhouse/roundhouselaw8.PulseDrops", spec := "pulseDrops", apart := false }
def PulseDropsSaid : Prop := pulseDropsRow.holds Try.pinned (OpenSpec.ofChange pulseDropsSpec)

/-- ITS FALSE NEIGHBOUR: 'it returns false'. Refute it at one input. -/
def pulseDropsWrong : ChangeSpec := { name := "pulseDrops", fn := fun _ => fun
  | [d1, d2, d3, d4] => { results := [.lit (.bool false)], args := [d1, d2, d3, d4] }
  | _ => none }
def PulseDropsWrongFalsely : Prop := pulseDropsRow.holds Try.pinned (OpenSpec.ofChange pulseDropsWrong)

/-- 'roundhouselaw8.PulseNone': WHATEVER THE INPUT: true; the input reads as it did. -/
def pulseNoneSpec : ChangeSpec := { name := "pulseNone", fn := fun _ => fun
  | [d1, d2, d3] => { results := [.lit (.bool true)], args := [d1, d2, d3] }
  | _ => none }
def pulseNoneRow : OpenClaim := { program := "ytnlnkkblccppdaa", sum := "0e9659765a570a04f0a4f59c6a7a5e0f91be633e9ca805eae3dc4738898969e0", func := "roundhouse/roundhouselaw8.PulseNone", spec := "pulseNone", apart := false }
def PulseNoneSaid : Prop := pulseNoneRow.holds Try.pinned (OpenSpec.ofChange pulseNoneSpec)

/-- ITS FALSE NEIGHBOUR: 'it returns false'. Refute it at one input. -/
def pulseNoneWrong : ChangeSpec := { name := "pulseNone", fn := fun _ => fun
  | [d1, d2, d3] => { results := [.lit (.bool false)], args := [d1, d2, d3] }
  | _ => none }
def PulseNoneWrongFalsely : Prop := pulseNoneRow.holds Try.pinned (OpenSpec.ofChange pulseNoneWrong)

/-- 'roundhouselaw8.PulseSteady': WHATEVER THE INPUT: true; the input reads as it did. -/
def pulseSteadySpec : ChangeSpec := { name := "pulseSteady", fn := fun _ => fun
  | [d1, d2, d3, d4, d5] => { results := [.lit (.bool true)], args := [d1, d2, d3, d4, d5] }
  | _ => none }
def pulseSteadyRow : OpenClaim := { program := "ytnlnkkblccppdaa", sum := "0e9659765a570a04f0a4f59c6a7a5e0f91be633e9ca805eae3dc4738898969e0", func := "roundhouse/roundhouselaw8.PulseSteady", spec := "pulseSteady", apart := false }
def PulseSteadySaid : Prop := pulseSteadyRow.holds Try.pinned (OpenSpec.ofChange pulseSteadySpec)

/-- ITS FALSE NEIGHBOUR: 'it returns false'. Refute it at one input. -/
def pulseSteadyWrong : ChangeSpec := { name := "pulseSteady", fn := fun _ => fun
  | [d1, d2, d3, d4, d5] => { results := [.lit (.bool false)], args := [d1, d2, d3, d4, d5] }
  | _ => none }
def PulseSteadyWrongFalsely : Prop := pulseSteadyRow.holds Try.pinned (OpenSpec.ofChange pulseSteadyWrong)

/-- 'roundhouselaw8.PulseMixed': WHATEVER THE INPUT: true; the input reads as it did. -/
def pulseMixedSpec : ChangeSpec := { name := "pulseMixed", fn := fun _ => fun
  | [d1, d2, d3] => { results := [.lit (.bool true)], args := [d1, d2, d3] }
  | _ => none }
def pulseMixedRow : OpenClaim := { program := "ytnlnkkblccppdaa", sum := "0e9659765a570a04f0a4f59c6a7a5e0f91be633e9ca805eae3dc4738898969e0", func := "roundhouse/roundhouselaw8.PulseMixed", spec := "pulseMixed", apart := false }
def PulseMixedSaid : Prop := pulseMixedRow.holds Try.pinned (OpenSpec.ofChange pulseMixedSpec)

/-- ITS FALSE NEIGHBOUR: 'it returns false'. Refute it at one input. -/
def pulseMixedWrong : ChangeSpec := { name := "pulseMixed", fn := fun _ => fun
  | [d1, d2, d3] => { results := [.lit (.bool false)], args := [d1, d2, d3] }
  | _ => none }
def PulseMixedWrongFalsely : Prop := pulseMixedRow.holds Try.pinned (OpenSpec.ofChange pulseMixedWrong)

/- THE SECOND FORM. 'bulk': how many values and letters a reading holds, each counted each time it is reached (what is shared counts as often as it is met; a slice's spare places count too). A statement '..UptoSaid' is the law's where the arguments, and the package variables that the reading takes, are together of bulk at most 1048576: NARROWER than '..Said'. Prove '..Said' where nothing that the law and all that it calls make is longer than what came in: it says more and counts as full. Else prove '..UptoSaid'. A law counts once. -/
mutual
def uptoBulk {H : Type} : DataW H → Nat
  | .lit (.string bytes) => bytes.length + 1
  | .lit _ => 1
  | .nil => 1
  | .ptr d => uptoBulk d + 1
  | .slice elems spare => uptoBulkAll elems + uptoBulkAll spare + 1
  | .agg parts => uptoBulkAll parts + 1
  | .iface _ d => uptoBulk d + 1
  | .map entries => uptoBulkEntries entries + 1
  | .held _ => 1
def uptoBulkAll {H : Type} : List (DataW H) → Nat
  | [] => 0
  | d :: r => uptoBulk d + uptoBulkAll r
def uptoBulkEntries {H : Type} : List (Lit × DataW H) → Nat
  | [] => 0
  | x :: r => uptoBulkEntry x + uptoBulkEntries r
def uptoBulkEntry {H : Type} : Lit × DataW H → Nat
  | (.string bytes, d) => bytes.length + uptoBulk d + 1
  | (_, d) => uptoBulk d + 1
 end
def uptoSmall : (H : Type) → List (DataW H) → Bool := fun _ ds => decide (uptoBulkAll ds ≤ 1048576)
def OpenSpec.upto (s : _root_.Go.ChangeSpec) : _root_.Go.OpenSpec := { _root_.Go.OpenSpec.ofChange s with cond := some uptoSmall }

/-- 'roundhouselaw8.PulsePlays', WHERE WHAT IT READS IS OF BULK AT MOST 1048576: true; the input reads as it did. -/
def pulsePlaysUptoRow : OpenClaim := { program := "ytnlnkkblccppdaa", sum := "0e9659765a570a04f0a4f59c6a7a5e0f91be633e9ca805eae3dc4738898969e0", func := "roundhouse/roundhouselaw8.PulsePlays", spec := "pulsePlays", apart := false, narrowed := true }
def PulsePlaysUptoSaid : Prop := pulsePlaysUptoRow.holds Try.pinned (OpenSpec.upto pulsePlaysSpec)

/-- 'roundhouselaw8.PulseErrs', WHERE WHAT IT READS IS OF BULK AT MOST 1048576: true; the input reads as it did. -/
def pulseErrsUptoRow : OpenClaim := { program := "ytnlnkkblccppdaa", sum := "0e9659765a570a04f0a4f59c6a7a5e0f91be633e9ca805eae3dc4738898969e0", func := "roundhouse/roundhouselaw8.PulseErrs", spec := "pulseErrs", apart := false, narrowed := true }
def PulseErrsUptoSaid : Prop := pulseErrsUptoRow.holds Try.pinned (OpenSpec.upto pulseErrsSpec)

/-- 'roundhouselaw8.PulseRows', WHERE WHAT IT READS IS OF BULK AT MOST 1048576: true; the input reads as it did. -/
def pulseRowsUptoRow : OpenClaim := { program := "ytnlnkkblccppdaa", sum := "0e9659765a570a04f0a4f59c6a7a5e0f91be633e9ca805eae3dc4738898969e0", func := "roundhouse/roundhouselaw8.PulseRows", spec := "pulseRows", apart := false, narrowed := true }
def PulseRowsUptoSaid : Prop := pulseRowsUptoRow.holds Try.pinned (OpenSpec.upto pulseRowsSpec)

/-- 'roundhouselaw8.PulseDue', WHERE WHAT IT READS IS OF BULK AT MOST 1048576: true; the input reads as it did. -/
def pulseDueUptoRow : OpenClaim := { program := "ytnlnkkblccppdaa", sum := "0e9659765a570a04f0a4f59c6a7a5e0f91be633e9ca805eae3dc4738898969e0", func := "roundhouse/roundhouselaw8.PulseDue", spec := "pulseDue", apart := false, narrowed := true }
def PulseDueUptoSaid : Prop := pulseDueUptoRow.holds Try.pinned (OpenSpec.upto pulseDueSpec)

/-- 'roundhouselaw8.PulseApart', WHERE WHAT IT READS IS OF BULK AT MOST 1048576: true; the input reads as it did. -/
def pulseApartUptoRow : OpenClaim := { program := "ytnlnkkblccppdaa", sum := "0e9659765a570a04f0a4f59c6a7a5e0f91be633e9ca805eae3dc4738898969e0", func := "roundhouse/roundhouselaw8.PulseApart", spec := "pulseApart", apart := false, narrowed := true }
def PulseApartUptoSaid : Prop := pulseApartUptoRow.holds Try.pinned (OpenSpec.upto pulseApartSpec)

/-- 'roundhouselaw8.PulseOnce', WHERE WHAT IT READS IS OF BULK AT MOST 1048576: true; the input reads as it did. -/
def pulseOnceUptoRow : OpenClaim := { program := "ytnlnkkblccppdaa", sum := "0e9659765a570a04f0a4f59c6a7a5e0f91be633e9ca805eae3dc4738898969e0", func := "roundhouse/roundhouselaw8.PulseOnce", spec := "pulseOnce", apart := false, narrowed := true }
def PulseOnceUptoSaid : Prop := pulseOnceUptoRow.holds Try.pinned (OpenSpec.upto pulseOnceSpec)

/-- 'roundhouselaw8.PulseDrops', WHERE WHAT IT READS IS OF BULK AT MOST 1048576: true; the input reads as it did. -/
def pulseDropsUptoRow : OpenClaim := { program := "ytnlnkkblccppdaa", sum := "0e9659765a570a04f0a4f59c6a7a5e0f91be633e9ca805eae3dc4738898969e0", func := "roundhouse/roundhouselaw8.PulseDrops", spec := "pulseDrops", apart := false, narrowed := true }
def PulseDropsUptoSaid : Prop := pulseDropsUptoRow.holds Try.pinned (OpenSpec.upto pulseDropsSpec)

/-- 'roundhouselaw8.PulseNone', WHERE WHAT IT READS IS OF BULK AT MOST 1048576: true; the input reads as it did. -/
def pulseNoneUptoRow : OpenClaim := { program := "ytnlnkkblccppdaa", sum := "0e9659765a570a04f0a4f59c6a7a5e0f91be633e9ca805eae3dc4738898969e0", func := "roundhouse/roundhouselaw8.PulseNone", spec := "pulseNone", apart := false, narrowed := true }
def PulseNoneUptoSaid : Prop := pulseNoneUptoRow.holds Try.pinned (OpenSpec.upto pulseNoneSpec)

/-- 'roundhouselaw8.PulseSteady', WHERE WHAT IT READS IS OF BULK AT MOST 1048576: true; the input reads as it did. -/
def pulseSteadyUptoRow : OpenClaim := { program := "ytnlnkkblccppdaa", sum := "0e9659765a570a04f0a4f59c6a7a5e0f91be633e9ca805eae3dc4738898969e0", func := "roundhouse/roundhouselaw8.PulseSteady", spec := "pulseSteady", apart := false, narrowed := true }
def PulseSteadyUptoSaid : Prop := pulseSteadyUptoRow.holds Try.pinned (OpenSpec.upto pulseSteadySpec)

/-- 'roundhouselaw8.PulseMixed', WHERE WHAT IT READS IS OF BULK AT MOST 1048576: true; the input reads as it did. -/
def pulseMixedUptoRow : OpenClaim := { program := "ytnlnkkblccppdaa", sum := "0e9659765a570a04f0a4f59c6a7a5e0f91be633e9ca805eae3dc4738898969e0", func := "roundhouse/roundhouselaw8.PulseMixed", spec := "pulseMixed", apart := false, narrowed := true }
def PulseMixedUptoSaid : Prop := pulseMixedUptoRow.holds Try.pinned (OpenSpec.upto pulseMixedSpec)

end Rows
end Go.Proofs.Ytnlnkkblccppdaa
