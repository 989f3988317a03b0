/- Words for the statements that take a row of ints. -/
import Derived.Test.YtnlnkkblccppdaaPulseK
namespace Go.Proofs.Ytnlnkkblccppdaa.PB
set_option linter.unusedVariables false
set_option linter.unusedSimpArgs false
open Go.RowKit Go.Maps

def IsRow (w : World) (a : Option Addr) (len cap : Nat) (zs : List Int) : Prop :=
  (a = none ∧ len = 0 ∧ cap = 0 ∧ zs = []) ∨
  ∃ x, a = some x ∧ len ≤ cap ∧ cap ≤ maxLen ∧ zs.length = cap ∧ (∀ i, i < zs.length → w.cell? (x.add i) = some (.int .i64 (zs.getD i 0))) ∧ ∀ n ∈ zs, (Lit.int .i64 n).wf = true
theorem cell_lt {w : World} {p : Addr} {v : Value} (h : w.cell? p = some v) : p.block < w.heap.size := by
  unfold World.cell? at h
  by_cases e : p.block < w.heap.size
  · exact e
  · rw [Array.getElem?_eq_none (by omega)] at h; cases h
theorem row_at {w w' : World} {a : Option Addr} {len cap : Nat} {zs : List Int} (h : IsRow w a len cap zs) (hb : Below w.heap.size w w') (i : Nat) (hi : i < len) :
    ∃ x v, a = some x ∧ w'.cell? (x.add i) = some (.int .i64 v) := by
  rcases h with ⟨_, h, _, _⟩ | ⟨x, hx, h1, _, h3, h4, _⟩
  · omega
  · have hc := h4 i (by omega)
    exact ⟨x, _, hx, (hb.cell (cell_lt hc)).trans hc⟩
end Go.Proofs.Ytnlnkkblccppdaa.PB
