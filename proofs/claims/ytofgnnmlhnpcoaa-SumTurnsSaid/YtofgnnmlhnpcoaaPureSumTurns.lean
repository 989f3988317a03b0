/- Package sum's Turn of numbers from 0 to 65535 is the document's; turned back the sum is as good. For every three numbers. -/
import Derived.Test.YtofgnnmlhnpcoaaSumBase2
import Derived.Test.YtofgnnmlhnpcoaaHx4
namespace Go.Proofs.Ytofgnnmlhnpcoaa.Pure
set_option linter.unusedVariables false
set_option linter.unusedSimpArgs false
open Go.RowKit Go.Proofs.Ytofgnnmlhnpcoaa.Hp Go.Proofs.Ytofgnnmlhnpcoaa.SB Go.Proofs.YtofgnnmlhnpcoaaW.PrintWords Go.Proofs.YtofgnnmlhnpcoaaW.PrintLast

theorem SumTurns : roundhouselaw1_SumTurns.Pure := by
  intro a0 a1 a2 _ _ _
  obtain ⟨k, hk⟩ : ∃ k : Nat, 6 ≤ k := ⟨6, Nat.le_refl _⟩
  refine ⟨k, ?_⟩
  obtain ⟨x, hx, x0, x1⟩ := within_b (a := a0) (n := 65536) (by omega) (by omega)
  obtain ⟨p, hp, p0, p1⟩ := within_b (a := a1) (n := 65536) (by omega) (by omega)
  obtain ⟨q, hq, q0, q1⟩ := within_b (a := a2) (n := 65536) (by omega) (by omega)
  have b1 := turn_bounds (s := x) (a := p) (b := q) x0 (by omega) p0 (by omega) q0 (by omega)
  have c1 := plus_bounds (a := 65535 - x) (b := 65535 - p) (by omega) (by omega) (by omega) (by omega)
  have c2 := plus_bounds (a := plus (65535 - x) (65535 - p)) (b := q) c1.1 c1.2 q0 (by omega)
  have e1 : turn x p q = 65535 - plus (plus (65535 - x) (65535 - p)) q := by
    unfold turn plus; repeat' split
    all_goals omega
  have e2 : ¬ turn (turn x p q) q p = x → x = 65535 ∨ x = 0 := by
    intro h; revert h; unfold turn plus; repeat' split
    all_goals omega
  have e3 : x = 65535 ∨ x = 0 → turn (turn x p q) q p = 0 ∨ turn (turn x p q) q p = 65535 := by
    intro h; revert h; unfold turn plus; repeat' split
    all_goals omega
  unfold roundhouselaw1_SumTurns.f
  rw [known_f hk, Option.bind_some, if_pos rfl, hx, hp, hq]
  simp -implicitDefEqProofs only [Option.bind_some]
  rw [turn_f x0 (by omega) p0 (by omega) q0 (by omega)]
  simp -implicitDefEqProofs only [Option.bind_some]
  rw [turn_f b1.1 b1.2 q0 (by omega) p0 (by omega)]
  simp -implicitDefEqProofs only [Option.bind_some]
  unfold roundhouseref1_Turn.f
  rw [wid (n := 65535 - x) (by omega) (by omega), wid (n := 65535 - p) (by omega) (by omega), rplus_f (by omega) (by omega) (by omega) (by omega), Option.bind_some, rplus_f c1.1 c1.2 q0 (by omega), Option.bind_some, wid (by omega) (by omega), ← e1]
  simp -implicitDefEqProofs only [Option.bind_some, if_true]
  by_cases h : turn (turn x p q) q p = x
  · rw [if_pos h]
  · rw [if_neg h]
    have hx' := e2 h
    rw [if_pos (by rcases hx' with rfl | rfl <;> decide)]
    rcases e3 hx' with h' | h' <;> rw [h'] <;> decide
end Go.Proofs.Ytofgnnmlhnpcoaa.Pure
