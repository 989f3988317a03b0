/- Package sum's Plus of numbers from 0 to 65535 is the document's; order and brackets do not matter; 65535 takes nothing but from nothing. For every three numbers. -/
import Derived.Test.YtofgnnmlhnpcoaaSumBase2
import Derived.Test.YtofgnnmlhnpcoaaHx4
namespace Go.Proofs.Ytofgnnmlhnpcoaa.Pure
set_option linter.unusedVariables false
set_option linter.unusedSimpArgs false
open Go.RowKit Go.Proofs.Ytofgnnmlhnpcoaa.Hp Go.Proofs.Ytofgnnmlhnpcoaa.SB Go.Proofs.YtofgnnmlhnpcoaaW.PrintWords Go.Proofs.YtofgnnmlhnpcoaaW.PrintLast

theorem SumPluses : roundhouselaw1_SumPluses.Pure := by
  intro a0 a1 a2 _ _ _
  obtain ⟨k, hk⟩ : ∃ k : Nat, 6 ≤ k := ⟨6, Nat.le_refl _⟩
  refine ⟨k, ?_⟩
  obtain ⟨x, hx, x0, x1⟩ := within_b (a := a0) (n := 65536) (by omega) (by omega)
  obtain ⟨y, hy, y0, y1⟩ := within_b (a := a1) (n := 65536) (by omega) (by omega)
  obtain ⟨z, hz, z0, z1⟩ := within_b (a := a2) (n := 65536) (by omega) (by omega)
  have b1 := plus_bounds (a := x) (b := y) x0 (by omega) y0 (by omega)
  have b2 := plus_bounds (a := y) (b := z) y0 (by omega) z0 (by omega)
  have e0 : plus y x = plus x y := by unfold plus; rw [Int.add_comm]
  have e1 : plus (plus x y) z = plus x (plus y z) := by
    unfold plus; repeat' split
    all_goals omega
  have e2 : x ≠ 0 → plus x 65535 = x := by intro h; unfold plus; split <;> omega
  have e3 : plus x 0 = x := by unfold plus; split <;> omega
  unfold roundhouselaw1_SumPluses.f
  rw [known_f hk, Option.bind_some, if_pos rfl, hx, hy, hz]
  simp -implicitDefEqProofs only [Option.bind_some, if_true]
  rw [plus_f x0 (by omega) y0 (by omega), rplus_f x0 (by omega) y0 (by omega)]
  simp -implicitDefEqProofs only [Option.bind_some, if_true]
  rw [plus_f y0 (by omega) x0 (by omega)]
  simp -implicitDefEqProofs only [Option.bind_some, if_true]
  rw [if_pos e0.symm, plus_f b1.1 b1.2 z0 (by omega), plus_f y0 (by omega) z0 (by omega)]
  simp -implicitDefEqProofs only [Option.bind_some, if_true]
  rw [plus_f x0 (by omega) b2.1 b2.2]
  simp -implicitDefEqProofs only [Option.bind_some, if_true]
  rw [if_pos e1, plus_f x0 (by omega) (by omega) (by omega), plus_f x0 (by omega) (by omega) (by omega)]
  simp -implicitDefEqProofs only [Option.bind_some, if_true]
  rw [e3]
  by_cases h : x = 0
  · rw [if_pos h]; simp
  · rw [if_neg h, if_pos (e2 h)]; simp
end Go.Proofs.Ytofgnnmlhnpcoaa.Pure
