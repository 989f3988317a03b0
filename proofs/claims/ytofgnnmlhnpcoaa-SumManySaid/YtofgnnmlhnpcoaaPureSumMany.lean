/- Many pairs changed one behind the other, from either end, come to sums that are the same but for 0 and 65535. For every number, every two slices of numbers. -/
import Derived.Test.YtofgnnmlhnpcoaaSumBase2
import Derived.Test.YtofgnnmlhnpcoaaHx9
namespace Go.Proofs.Ytofgnnmlhnpcoaa.Pure
set_option linter.unusedVariables false
set_option linter.unusedSimpArgs false
open Go.RowKit Go.Proofs.Ytofgnnmlhnpcoaa.Hp Go.Proofs.Ytofgnnmlhnpcoaa.SB Go.Proofs.YtofgnnmlhnpcoaaW.PrintWords Go.Proofs.YtofgnnmlhnpcoaaW.PrintLast

theorem turn_mod (s a b : Int) (hs : 0 ≤ s) (hs' : s ≤ 65535) (ha : 0 ≤ a) (ha' : a ≤ 65535) (hb : 0 ≤ b) (hb' : b ≤ 65535) : (turn s a b - (s + a - b)) % 65535 = 0 := by
  unfold turn plus; repeat' split
  all_goals omega
def dif (l1 l2 : List Int) : Nat → Int
  | 0 => 0
  | n + 1 => dif l1 l2 n + (l1.getD n 0 % 65536 - l2.getD n 0 % 65536)
def difTo (l1 l2 : List Int) (n m : Nat) : Int := dif l1 l2 m - dif l1 l2 n
theorem many_l1 (l1 l2 : List Int) (x7 : Int) (h7 : 0 ≤ x7) (h1 : l1.length ≤ 140737488355328) (h2 : l2.length ≤ 140737488355328) : ∀ (n k : Nat) (y : Int), n ≤ l1.length → n ≤ l2.length → n < k → 0 ≤ y → y ≤ 65535 →
    (x7 - (y + dif l1 l2 n)) % 65535 = 0 → roundhouselaw1_SumMany.l1 k l1 l2 x7 y ((n : Int) - 1) = some true := by
  intro n
  induction n with
  | zero =>
    intro k y _ _ hk hy hy' hm
    obtain ⟨k, rfl⟩ : ∃ m, k = m + 1 := ⟨k - 1, by omega⟩
    simp only [roundhouselaw1_SumMany.l1]
    rw [if_neg (by omega), Int.tmod_eq_emod_of_nonneg h7, Int.tmod_eq_emod_of_nonneg hy]
    simp only [dif] at hm
    simp only [Option.some.injEq, beq_iff_eq]; omega
  | succ n ih =>
    intro k y hn1 hn2 hk hy hy' hm
    obtain ⟨k, rfl⟩ : ∃ m, k = m + 1 := ⟨k - 1, by omega⟩
    have e1 : ((n + 1 : Nat) : Int) - 1 = (n : Int) := by omega
    simp only [roundhouselaw1_SumMany.l1]
    rw [e1, if_pos (by omega), if_pos (by omega), if_pos (by omega), rd_nat, rd_nat, within_f (by omega) (by omega), Option.bind_some, if_pos (by omega), within_f (by omega) (by omega), Option.bind_some]
    have ba := Int.emod_nonneg (l1.getD n 0) (show (65536 : Int) ≠ 0 by omega)
    have bb := Int.emod_nonneg (l2.getD n 0) (show (65536 : Int) ≠ 0 by omega)
    have ca := Int.emod_lt_of_pos (l1.getD n 0) (show (0 : Int) < 65536 by omega)
    have cb := Int.emod_lt_of_pos (l2.getD n 0) (show (0 : Int) < 65536 by omega)
    simp only [dif] at hm
    generalize l1.getD n 0 % 65536 = a at *
    generalize l2.getD n 0 % 65536 = b at *
    have tb := turn_bounds hy hy' ba (by omega) bb (by omega)
    have tm := turn_mod y a b hy hy' ba (by omega) bb (by omega)
    rw [turn_f hy hy' ba (by omega) bb (by omega), Option.bind_some, wid (by omega) (by omega)]
    exact ih k _ (by omega) (by omega) (by omega) tb.1 tb.2 (by omega)
theorem many_l0 (l1 l2 : List Int) (x y n : Int) (N : Nat) (hn : n = (N : Int)) (hN1 : N ≤ l1.length) (hN2 : N ≤ l2.length) (h1 : l1.length ≤ 140737488355328) (h2 : l2.length ≤ 140737488355328) (hy : 0 ≤ y) (hy' : y ≤ 65535) : ∀ (d i k : Nat) (x : Int), N = i + d → 0 ≤ x → x ≤ 65535 → d + N + 5 ≤ k →
    (x - (y + dif l1 l2 i)) % 65535 = 0 → roundhouselaw1_SumMany.l0 k l1 l2 x y n (i : Int) = some true := by
  subst hn
  intro d
  induction d with
  | zero =>
    intro i k x hi hx hx' hk hm
    obtain ⟨k, rfl⟩ : ∃ m, k = m + 1 := ⟨k - 1, by omega⟩
    simp only [roundhouselaw1_SumMany.l0]
    rw [if_neg (by omega), wid (by omega) (by omega)]
    obtain rfl : N = i := by omega
    exact many_l1 l1 l2 x hx h1 h2 N k y hN1 hN2 (by omega) hy hy' hm
  | succ d ih =>
    intro i k x hi hx hx' hk hm
    obtain ⟨k, rfl⟩ : ∃ m, k = m + 1 := ⟨k - 1, by omega⟩
    simp only [roundhouselaw1_SumMany.l0]
    rw [if_pos (by omega), if_pos (by omega), if_pos (by omega), rd_nat, rd_nat, within_f (by omega) (by omega), Option.bind_some, if_pos (by omega), within_f (by omega) (by omega), Option.bind_some]
    have ba := Int.emod_nonneg (l1.getD i 0) (show (65536 : Int) ≠ 0 by omega)
    have bb := Int.emod_nonneg (l2.getD i 0) (show (65536 : Int) ≠ 0 by omega)
    have ca := Int.emod_lt_of_pos (l1.getD i 0) (show (0 : Int) < 65536 by omega)
    have cb := Int.emod_lt_of_pos (l2.getD i 0) (show (0 : Int) < 65536 by omega)
    have de : dif l1 l2 (i + 1) = dif l1 l2 i + (l1.getD i 0 % 65536 - l2.getD i 0 % 65536) := rfl
    generalize l1.getD i 0 % 65536 = a at *
    generalize l2.getD i 0 % 65536 = b at *
    have tb := turn_bounds hx hx' ba (by omega) bb (by omega)
    have tm := turn_mod x a b hx hx' ba (by omega) bb (by omega)
    rw [turn_f hx hx' ba (by omega) bb (by omega), Option.bind_some, if_neg (by omega), if_neg (by omega), wid (by omega) (by omega)]
    have := ih (i + 1) k (turn x a b) (by omega) tb.1 tb.2 (by omega) (by rw [de]; omega)
    rw [← this]; congr 1
theorem SumMany : roundhouselaw1_SumMany.Pure := by
  intro a0 l1 l2 _ m1 s1 _ m2 s2 _
  obtain ⟨k, hk⟩ : ∃ k : Nat, 50 ≤ k := ⟨50, Nat.le_refl _⟩
  refine ⟨k, ?_⟩
  obtain ⟨x, hx, x0, x1⟩ := within_b (a := a0) (n := 65536) (by omega) (by omega)
  unfold roundhouselaw1_SumMany.f
  rw [known_f (by omega), Option.bind_some, if_pos rfl, hx, Option.bind_some]
  obtain ⟨N, hN, h1, h2, h3⟩ : ∃ N : Nat, mn (mn (l1.length : Int) (l2.length : Int)) 12 = (N : Int) ∧ N ≤ l1.length ∧ N ≤ l2.length ∧ N ≤ 12 := by
    refine ⟨min (min l1.length l2.length) 12, ?_, by omega, by omega, by omega⟩
    unfold mn; repeat' split
    all_goals omega
  exact many_l0 l1 l2 x x _ N hN h1 h2 (by omega) (by omega) x0 (by omega) N 0 k x (by omega) x0 (by omega) (by omega) (by simp only [dif]; omega)
end Go.Proofs.Ytofgnnmlhnpcoaa.Pure
