/- Words for the statements' walks. -/
import Derived.Test.YtnlnkkblccppdaaPulseJ
namespace Go.Proofs.Ytnlnkkblccppdaa.PB
set_option linter.unusedVariables false
set_option linter.unusedSimpArgs false
open Go.RowKit Go.Maps

theorem next_eta (r f now ro : Int) (u ok : Bool) : next r f now ro u ok = ⟨now, (next r f now ro u ok).row, (next r f now ro u ok).up⟩ := by
  unfold next; split <;> rfl
theorem upd_same (M : Int → Option Hist) (s : Int) (x : Option Hist) : upd M s x s = x := if_pos rfl
theorem upd_other (M : Int → Option Hist) {s t : Int} (x : Option Hist) (h : t ≠ s) : upd M s x t = M t := if_neg h
theorem isB_of {s : Int} (h0 : 0 ≤ s) (h1 : s < 64) : isB s = true := by unfold isB; simp; omega
theorem emod_b (a n : Int) (h : 0 < n) : ∃ x, a % n = x ∧ 0 ≤ x ∧ x < n := ⟨_, rfl, Int.emod_nonneg a (by omega), Int.emod_lt_of_pos a h⟩
end Go.Proofs.Ytnlnkkblccppdaa.PB
