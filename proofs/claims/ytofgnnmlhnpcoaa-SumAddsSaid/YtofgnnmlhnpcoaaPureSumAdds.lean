/- Package sum's Add, Of, Right answer as the document's reference; the sum of two rows behind each other, the first one even, is the sum of both. For every two slices of bytes. -/
import Derived.Test.YtofgnnmlhnpcoaaSumBase2
namespace Go.Proofs.Ytofgnnmlhnpcoaa.Pure
set_option linter.unusedVariables false
set_option linter.unusedSimpArgs false
open Go.RowKit Go.Proofs.Ytofgnnmlhnpcoaa.Hp Go.Proofs.Ytofgnnmlhnpcoaa.SB Go.Proofs.YtofgnnmlhnpcoaaW.PrintWords Go.Proofs.YtofgnnmlhnpcoaaW.PrintLast

theorem SumAdds : roundhouselaw1_SumAdds.Pure := by
  intro l0 l1 m0 s0 w0 m1 s1 w1
  have hb0 := bytes_of_wf w0
  have hb1 := bytes_of_wf w1
  refine ⟨l0.length + l1.length + 10, ?_⟩
  generalize hk : l0.length + l1.length + 9 = k
  have tr : ∀ k' : Nat, roundhouselaw1_SumAdds.j0 (k' + 1) l0 l1 true = some true := fun k' => by simp only [roundhouselaw1_SumAdds.j0]; rfl
  unfold roundhouselaw1_SumAdds.f
  rw [show l0.length + l1.length + 10 = k + 1 by omega, known_f (by omega), Option.bind_some, if_pos rfl]
  by_cases c0 : (l0.length : Int) > 2000
  · rw [if_pos c0, tr]
  · rw [if_neg c0]
    by_cases c1 : (l1.length : Int) > 2000
    · rw [decide_eq_true c1, tr]
    · rw [decide_eq_false c1]
      simp only [roundhouselaw1_SumAdds.j0]
      rw [if_neg (by simp), wid (n := (l0.length : Int) / 2) (by omega) (by omega), wid (n := (l0.length : Int) / 2 * 2) (by omega) (by omega), if_pos (by omega), if_pos (by omega)]
      simp -implicitDefEqProofs only [Option.bind_some, List.length_nil, List.nil_append, List.length_take]
      generalize hn : ((l0.length : Int) / 2 * 2).toNat = n
      rw [if_pos (by omega), if_pos (by omega)]
      have ht : Bytes (l0.take n) := hb0.take n
      have htl : (l0.take n).length = n := by rw [List.length_take]; omega
      rw [add_f (by omega) hb0 (by omega), radd_f (by omega) hb0 (by omega)]
      simp -implicitDefEqProofs only [Option.bind_some, if_true]
      rw [of_f (by omega) hb0 (by omega), rof_f (by omega) hb0 (by omega)]
      simp -implicitDefEqProofs only [Option.bind_some, if_true]
      rw [right_f (by omega) hb0 (by omega), rright_f (by omega) hb0 (by omega)]
      simp -implicitDefEqProofs only [Option.bind_some, if_true]
      rw [if_pos (by simp), add_f (by rw [List.length_append]; omega) (ht.app hb1) (by rw [List.length_append]; omega), add_f (by omega) ht (by omega), add_f (by omega) hb1 (by omega)]
      simp -implicitDefEqProofs only [Option.bind_some, if_true]
      have f1 := @fold_bounds (pairs (l0.take n))
      have f2 := @fold_bounds (pairs l1)
      rw [plus_f f1.1 f1.2 f2.1 f2.2, Option.bind_some, fold_fold (pairs_nonneg ht) (pairs_nonneg hb1), pairs_app _ _ (by rw [htl]; omega)]
      simp
end Go.Proofs.Ytofgnnmlhnpcoaa.Pure
