/- Of ten given numbers and rows of bytes just the ten sums that the document tells come. For every index. -/
import Derived.Test.YtofgnnmlhnpcoaaSumBase2
import Derived.Test.YtofgnnmlhnpcoaaHx8
namespace Go.Proofs.Ytofgnnmlhnpcoaa.Pure
set_option linter.unusedVariables false
set_option linter.unusedSimpArgs false
open Go.RowKit Go.Proofs.Ytofgnnmlhnpcoaa.Hp Go.Proofs.Ytofgnnmlhnpcoaa.SB Go.Proofs.YtofgnnmlhnpcoaaW.PrintWords Go.Proofs.YtofgnnmlhnpcoaaW.PrintLast

theorem SumKnown : roundhouselaw1_SumKnown.Pure := by
  intro a0 _
  obtain ⟨k, hk⟩ : ∃ k : Nat, 6 ≤ k := ⟨6, Nat.le_refl _⟩
  refine ⟨k, ?_⟩
  obtain ⟨x, hx, x0, x1⟩ := within_b (a := a0) (n := 10) (by omega) (by omega)
  have b1 : Bytes [255, 255, 0, 1] := by intro x hx; simp at hx; omega
  have b2 : Bytes [7] := by intro x hx; simp at hx; omega
  have b3 : Bytes [255, 255] := by intro x hx; simp at hx; omega
  have e1 : fold (pairs [255, 255, 0, 1]) = 1 := by decide
  have e2 : fold (pairs [7]) = 1792 := by decide
  have e3 : 65535 - fold (pairs [255, 255]) = 0 := by decide
  have p1 : plus 65535 65535 = 65535 := by decide
  have p2 : plus 0 0 = 0 := by decide
  have p3 : plus 40000 40000 = 14465 := by decide
  have t1 : turn 0 0 0 = 0 := by decide
  have t2 : turn 65535 65535 0 = 65535 := by decide
  have t3 : turn 100 30 20 = 110 := by decide
  have t4 : turn 5 0 10 = 65530 := by decide
  unfold roundhouselaw1_SumKnown.f
  rw [known_f hk, Option.bind_some, if_pos rfl, plus_f (by omega) (by omega) (by omega) (by omega), p1, Option.bind_some, plus_f (by omega) (by omega) (by omega) (by omega), p2, Option.bind_some, plus_f (by omega) (by omega) (by omega) (by omega), p3, Option.bind_some]
  rw [turn_f (by omega) (by omega) (by omega) (by omega) (by omega) (by omega), t1, Option.bind_some, turn_f (by omega) (by omega) (by omega) (by omega) (by omega) (by omega), t2, Option.bind_some,
    turn_f (by omega) (by omega) (by omega) (by omega) (by omega) (by omega), t3, Option.bind_some, turn_f (by omega) (by omega) (by omega) (by omega) (by omega) (by omega), t4, Option.bind_some]
  rw [add_f (by simp) b1 (by simp; omega), e1, Option.bind_some, add_f (by simp) b2 (by simp; omega), e2, Option.bind_some, of_f (by simp) b3 (by simp; omega), e3, Option.bind_some, Option.bind_some, Option.bind_some, hx, Option.bind_some]
  rw [if_pos x0, if_pos (by simp; omega), if_pos (by simp; omega)]
  simp
end Go.Proofs.Ytofgnnmlhnpcoaa.Pure
