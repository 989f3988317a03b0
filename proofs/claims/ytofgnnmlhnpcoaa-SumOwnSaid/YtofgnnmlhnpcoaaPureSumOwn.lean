/- Add, Of, Right leave the bytes as they are, and Add says the same again, as the document says. For every slice of bytes. -/
import Derived.Test.YtofgnnmlhnpcoaaSumBase2
import Derived.Test.YtofgnnmlhnpcoaaHx9
namespace Go.Proofs.Ytofgnnmlhnpcoaa.Pure
set_option linter.unusedVariables false
set_option linter.unusedSimpArgs false
open Go.RowKit Go.Proofs.Ytofgnnmlhnpcoaa.Hp Go.Proofs.Ytofgnnmlhnpcoaa.SB Go.Proofs.YtofgnnmlhnpcoaaW.PrintWords Go.Proofs.YtofgnnmlhnpcoaaW.PrintLast

theorem SumOwn : roundhouselaw1_SumOwn.Pure := by
  intro l0 m0 s0 w0
  have hb := bytes_of_wf w0
  obtain ⟨k, hk⟩ : ∃ k : Nat, l0.length + 10 ≤ k := ⟨_, Nat.le_refl _⟩
  refine ⟨k, ?_⟩
  unfold roundhouselaw1_SumOwn.f
  rw [known_f (by omega), Option.bind_some, if_pos rfl, Option.bind_some, if_pos (by simp; omega), Option.bind_some, List.nil_append, add_f (by omega) hb (by omega), Option.bind_some, of_f (by omega) hb (by omega), Option.bind_some,
    right_f (by omega) hb (by omega), Option.bind_some, if_pos rfl, Option.bind_some, if_pos rfl, radd_f (by omega) hb (by omega), Option.bind_some]
  simp
end Go.Proofs.Ytofgnnmlhnpcoaa.Pure
