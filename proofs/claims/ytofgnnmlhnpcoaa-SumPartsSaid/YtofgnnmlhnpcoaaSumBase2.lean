/- The sums of chapter 1, of the printed functions of the reference; known, within. -/
import Derived.Test.YtofgnnmlhnpcoaaSumBase
import Derived.Test.YtofgnnmlhnpcoaaHx3
namespace Go.Proofs.Ytofgnnmlhnpcoaa.SB
set_option linter.unusedVariables false
set_option linter.unusedSimpArgs false
open Go.RowKit Go.Proofs.Ytofgnnmlhnpcoaa.Hp Go.Proofs.YtofgnnmlhnpcoaaW.PrintWords Go.Proofs.YtofgnnmlhnpcoaaW.PrintLast

theorem rplus_f {a b : Int} (ha : 0 ≤ a) (ha' : a ≤ 65535) (hb : 0 ≤ b) (hb' : b ≤ 65535) : roundhouseref1_Plus.f a b = some (plus a b) := by
  unfold roundhouseref1_Plus.f plus
  rw [wid (n := a + b) (by omega) (by omega)]
  split
  · rw [wid (by omega) (by omega)]
  · rfl
theorem radd_l0 (l : List Int) (hl : l.length ≤ 140737488355328) (hb : Bytes l) : ∀ (k i : Nat) (S : Int), 0 ≤ S → i ≤ l.length + 1 → l.length + 2 ≤ i + k → roundhouseref1_Add.l0 k l (fold S) i = some (fold (S + pairs (l.drop i))) := by
  intro k
  induction k with
  | zero => intro i S hS hi hk; omega
  | succ k ih =>
    intro i S hS hi hk
    have b1 := getD_byte hb i
    have b2 := getD_byte hb (i + 1)
    have bf := @fold_bounds S
    simp only [roundhouseref1_Add.l0]
    rw [wid (n := (i : Int) + 1) (by omega) (by omega), wid (n := (i : Int) + 2) (by omega) (by omega), rd_nat, rd_nat1]
    by_cases h : i < l.length
    · rw [if_pos (by omega), if_pos (by omega)]
      by_cases h1 : i + 1 < l.length
      · rw [if_pos (by omega), if_pos (by omega), wid (n := l.getD i 0) (by omega) (by omega), wid (n := l.getD (i + 1) 0) (by omega) (by omega), wid (n := l.getD i 0 * 256) (by omega) (by omega), wid (by omega) (by omega),
          rplus_f bf.1 bf.2 (by omega) (by omega), fold_plus hS (by omega) (by omega)]
        have := ih (i + 2) (S + (l.getD i 0 * 256 + l.getD (i + 1) 0)) (by omega) (by omega) (by omega)
        simp only [Option.bind_some]
        rw [show ((i : Int) + 2) = ((i + 2 : Nat) : Int) by omega, this, drop2 h1]
        simp only [pairs]
        congr 2; omega
      · rw [if_neg (by omega), wid (n := l.getD i 0) (by omega) (by omega), wid (n := l.getD i 0 * 256) (by omega) (by omega), rplus_f bf.1 bf.2 (by omega) (by omega), fold_plus hS (by omega) (by omega)]
        have := ih (i + 2) (S + (l.getD i 0 * 256)) (by omega) (by omega) (by omega)
        simp only [Option.bind_some]
        rw [show ((i : Int) + 2) = ((i + 2 : Nat) : Int) by omega, this, drop1 (show i + 1 = l.length by omega), List.drop_eq_nil_of_le (by omega)]
        simp only [pairs]
        congr 2; omega
    · rw [if_neg (by omega), List.drop_eq_nil_of_le (by omega)]
      simp [pairs]

theorem radd_f {l : List Int} {k : Nat} (hl : l.length ≤ 140737488355328) (hb : Bytes l) (hk : l.length + 2 ≤ k) : roundhouseref1_Add.f k l = some (fold (pairs l)) := by
  unfold roundhouseref1_Add.f
  have := radd_l0 l hl hb k 0 0 (Int.le_refl _) (by omega) (by omega)
  rw [List.drop_zero, Int.zero_add, fold_zero] at this
  exact this
theorem rof_f {l : List Int} {k : Nat} (hl : l.length ≤ 140737488355328) (hb : Bytes l) (hk : l.length + 2 ≤ k) : roundhouseref1_Of.f k l = some (65535 - fold (pairs l)) := by
  unfold roundhouseref1_Of.f
  have bf := @fold_bounds (pairs l)
  rw [radd_f hl hb hk, Option.bind_some, wid (by omega) (by omega)]
theorem rright_f {l : List Int} {k : Nat} (hl : l.length ≤ 140737488355328) (hb : Bytes l) (hk : l.length + 2 ≤ k) : roundhouseref1_Right.f k l = some (fold (pairs l) == 65535) := by
  unfold roundhouseref1_Right.f
  rw [radd_f hl hb hk, Option.bind_some]
theorem known_f {k : Nat} (hk : 6 ≤ k) : roundhouselaw1_known.f k = some true := by
  have b3 : Bytes [1, 2, 3] := by intro x hx; simp at hx; omega
  have b4 : Bytes [0, 1, 255, 254] := by intro x hx; simp at hx; omega
  unfold roundhouselaw1_known.f
  rw [of_f (by simp) bytes_nil (by simp; omega), Option.bind_some, if_pos (by decide), plus_f (by decide) (by decide) (by decide) (by decide), Option.bind_some, if_pos (by decide), add_f (by simp) b3 (by simp; omega), Option.bind_some, if_pos (by decide),
    right_f (by simp) b4 (by simp; omega), Option.bind_some, if_pos (by decide), turn_f (by decide) (by decide) (by decide) (by decide) (by decide) (by decide), Option.bind_some]
  decide
theorem within_f {a n : Int} (h0 : 0 < n) (h1 : n ≤ 4611686018427387904) : roundhouselaw1_within.f a n = some (a % n) := by
  unfold roundhouselaw1_within.f
  rw [if_neg (by omega)]
  have e := Int.tmod_eq_emod (a := a) (b := n)
  have m0 := Int.emod_nonneg a (show n ≠ 0 by omega)
  have m1 := Int.emod_lt_of_pos a h0
  by_cases h : 0 ≤ a ∨ n ∣ a
  · rw [if_pos h] at e
    rw [if_neg (by omega)]
    congr 1; omega
  · rw [if_neg h] at e
    have hn : ((n.natAbs : Nat) : Int) = n := by omega
    rw [if_pos (by omega), wid (by omega) (by omega)]
    congr 1; omega
theorem within_b {a n : Int} (h0 : 0 < n) (h1 : n ≤ 4611686018427387904) : ∃ x, roundhouselaw1_within.f a n = some x ∧ 0 ≤ x ∧ x < n :=
  ⟨_, within_f h0 h1, Int.emod_nonneg a (by omega), Int.emod_lt_of_pos a h0⟩
end Go.Proofs.Ytofgnnmlhnpcoaa.SB
