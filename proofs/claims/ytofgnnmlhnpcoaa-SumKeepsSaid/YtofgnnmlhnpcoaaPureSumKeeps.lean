/- Bytes with their sum among them are right; with pairs, and their sum by Turn, changed they are right still. For every slice of bytes, every two slices of numbers. -/
import Derived.Test.YtofgnnmlhnpcoaaSumBase3
import Derived.Test.YtofgnnmlhnpcoaaHx5
namespace Go.Proofs.Ytofgnnmlhnpcoaa.Pure
set_option linter.unusedVariables false
set_option linter.unusedSimpArgs false
open Go.RowKit Go.Proofs.Ytofgnnmlhnpcoaa.Hp Go.Proofs.Ytofgnnmlhnpcoaa.SB Go.Proofs.YtofgnnmlhnpcoaaW.PrintWords Go.Proofs.YtofgnnmlhnpcoaaW.PrintLast

/-- What every round keeps. -/
def Kept1 (n : Nat) (x : List Int) : Prop := x.length = 2 * n + 2 ∧ Bytes x ∧ x.getD 0 0 = 1 ∧ fold (pairs x) = 65535
theorem kept_step {n j : Nat} {x : List Int} (h : Kept1 n x) (v : Int) (v0 : 0 ≤ v) (v1 : v ≤ 65535) (j0 : 0 < j) (j1 : j < n) : Kept1 n (setPair (setPair x j v) n (turn (pairAt x n) (pairAt x j) v)) := by
  obtain ⟨hl, hb, h0, hf⟩ := h
  have ch := changed hb (k := j) (n := n) v v0 v1 (by omega) (by omega) (by omega)
  have b2 : Bytes (setPair (setPair x j v) n (turn (pairAt x n) (pairAt x j) v)) := setPair_bytes (setPair_bytes hb j v) n _
  have e0 : (setPair (setPair x j v) n (turn (pairAt x n) (pairAt x j) v)).getD 0 0 = 1 := by
    rw [setPair_first _ _ _ (by omega), setPair_first _ _ _ j0, h0]
  refine ⟨by rw [setPair_length, setPair_length, hl], b2, e0, ?_⟩
  have q1 := pairs_ge_first _ b2
  rw [e0] at q1
  rw [fold_right (pairs_nonneg hb)] at hf
  rw [fold_right (by omega)]
  omega
theorem keeps_j3 (l1 l2 x : List Int) (n : Nat) (i : Int) (k : Nat) : roundhouselaw1_SumKeeps.j3 (k + 1) l1 l2 x (n : Int) i false = some true := by
  simp only [roundhouselaw1_SumKeeps.j3]; rfl
theorem keeps_l0 (l1 l2 : List Int) (n : Nat) (hn : 2 ≤ n) (hn' : n ≤ 2000) (h1 : l1.length ≤ 140737488355328) (h2 : l2.length ≤ 140737488355328) : ∀ (d i k : Nat) (x : List Int), Kept1 n x → i + d = 10 → 2 * d + 2 * n + 20 ≤ k →
    roundhouselaw1_SumKeeps.l0 k l1 l2 x (n : Int) (i : Int) = some true := by
  intro d
  induction d with
  | zero =>
    intro i k x hx hi hk
    obtain ⟨k, rfl⟩ : ∃ m, k = m + 2 := ⟨k - 2, by omega⟩
    simp only [roundhouselaw1_SumKeeps.l0]
    rw [if_neg (show ¬ (i : Int) < 10 by omega), keeps_j3]
    simp
  | succ d ih =>
    intro i k x hx hi hk
    obtain ⟨k, rfl⟩ : ∃ m, k = m + 2 := ⟨k - 2, by omega⟩
    obtain ⟨hl, hb, h0, hf⟩ := id hx
    rw [show k + 2 = (k + 1) + 1 from rfl]
    rw [roundhouselaw1_SumKeeps.l0, keeps_j3]
    by_cases c1 : (i : Int) < (l1.length : Int)
    · rw [if_pos c1]
      by_cases c2 : (i : Int) < (l2.length : Int)
      · rw [if_pos c2, if_pos (by omega), decide_eq_true (show (n : Int) > 1 by omega)]
        obtain ⟨kk, hkk, k0, k1⟩ := within_b (a := l1.getD i 0) (n := (n : Int) - 1) (by omega) (by omega)
        obtain ⟨v, hv, v0, v1⟩ := within_b (a := l2.getD i 0) (n := 65536) (by omega) (by omega)
        obtain ⟨j, rfl⟩ := Int.eq_ofNat_of_zero_le k0
        simp only [roundhouselaw1_SumKeeps.j3]
        rw [if_pos trivial, if_pos (by omega), if_pos c1, rd_nat, rd_nat, wid (n := (n : Int) - 1) (by omega) (by omega), hkk, Option.bind_some, if_pos c2, hv, Option.bind_some, hl]
        rw [show (2 : Int) * (n : Int) = ((2 * n : Nat) : Int) by omega, wid (n := ((2 * n : Nat) : Int)) (by omega) (by omega), show ((2 * n : Nat) : Int) + 1 = ((2 * n + 1 : Nat) : Int) by omega, wid (n := ((2 * n + 1 : Nat) : Int)) (by omega) (by omega),
          show (1 : Int) + (j : Int) = ((j + 1 : Nat) : Int) by omega, wid (n := ((j + 1 : Nat) : Int)) (by omega) (by omega), show (2 : Int) * ((j + 1 : Nat) : Int) = ((2 * (j + 1) : Nat) : Int) by omega, wid (n := ((2 * (j + 1) : Nat) : Int)) (by omega) (by omega),
          show ((2 * (j + 1) : Nat) : Int) + 1 = ((2 * (j + 1) + 1 : Nat) : Int) by omega, wid (n := ((2 * (j + 1) + 1 : Nat) : Int)) (by omega) (by omega)]
        rw [if_pos (by omega), if_pos (by omega), if_pos (by omega), if_pos (by omega), if_pos (by omega), if_pos (by omega), if_pos (by omega), if_pos (by omega), rd_nat, rd_nat, rd_nat, rd_nat, or_pair hb, or_pair hb]
        have p1 := pairAt_bounds hb n
        have p2 := pairAt_bounds hb (j + 1)
        have tb := turn_bounds p1.1 p1.2 p2.1 p2.2 v0 (by omega)
        have tf := turn_f p1.1 p1.2 p2.1 p2.2 v0 (by omega)
        have ks := kept_step hx v v0 (by omega) (show 0 < j + 1 by omega) (show j + 1 < n by omega)
        have rf := right_f (k := k) (by rw [ks.1]; omega) ks.2.1 (by rw [ks.1]; omega)
        have nx := ih (i + 1) k _ ks (by omega) (by omega)
        rw [ks.2.2.2] at rf
        rw [wid (n := (i : Int) + 1) (by omega) (by omega), show (i : Int) + 1 = ((i + 1 : Nat) : Int) by omega, Int.toNat_natCast, Int.toNat_natCast, Int.toNat_natCast, Int.toNat_natCast]
        unfold pairAt at tf tb
        unfold setPair pairAt at rf nx
        rw [tf, Option.bind_some, Option.bind_some, if_neg (by omega), if_neg (by omega), rf, Option.bind_some, if_pos (by simp)]
        exact nx
      · rw [if_neg c2]
    · rw [if_neg c1]
theorem keeps_j0 (l1 l2 x : List Int) (n : Nat) (hl : x.length = 2 * n) (hn : 2 ≤ n) (hn' : n ≤ 2000) (hb : Bytes x) (h0 : x.getD 0 0 = 1) (h1 : l1.length ≤ 140737488355328) (h2 : l2.length ≤ 140737488355328) (k : Nat) (hk : 2 * n + 60 ≤ k) :
    roundhouselaw1_SumKeeps.j0 k l1 l2 x = some true := by
  obtain ⟨k, rfl⟩ : ∃ m, k = m + 2 := ⟨k - 2, by omega⟩
  rw [show k + 2 = (k + 1) + 1 from rfl]
  simp only [roundhouselaw1_SumKeeps.j0]
  obtain ⟨y, hy⟩ : ∃ y, y = x ++ [0, 0] := ⟨_, rfl⟩
  have yb : Bytes y := hy ▸ hb.app (by intro z hz; simp at hz; omega)
  have yl : y.length = 2 * n + 2 := by rw [hy, List.length_append, hl]; rfl
  have bf := @fold_bounds (pairs y)
  have y0 : y.getD 0 0 = 1 := by
    rw [hy, List.getD_eq_getElem?_getD, List.getElem?_append_left (by omega), ← List.getD_eq_getElem?_getD, h0]
  have yp : pairAt y n = 0 := by
    unfold pairAt
    rw [hy, List.getD_eq_getElem?_getD, List.getD_eq_getElem?_getD, List.getElem?_append_right (by omega), List.getElem?_append_right (by omega), hl]
    rw [show 2 * n - 2 * n = 0 by omega, show 2 * n + 1 - 2 * n = 1 by omega]; rfl
  have ge := pairs_ge_first y yb
  rw [Option.bind_some, if_pos (by rw [hl]; simp; omega), Option.bind_some, ← hy, of_f (by omega) yb (by omega), Option.bind_some, if_neg (by omega), hl,
    show ((2 * n : Nat) : Int) / 2 = (n : Int) by omega, wid (n := (n : Int)) (by omega) (by omega), decide_eq_false (by omega)]
  rw [y0] at ge
  have ks : Kept1 n (setPair y n (65535 - fold (pairs y))) := by
    have b2 := setPair_bytes yb n (65535 - fold (pairs y))
    refine ⟨by rw [setPair_length, yl], b2, by rw [setPair_first _ _ _ (by omega), y0], ?_⟩
    rw [fold_right (pairs_nonneg b2), pairs_setPair n y _ (by omega) (by omega) (by omega), yp]
    unfold fold; split <;> omega
  simp only [roundhouselaw1_SumKeeps.j1]
  rw [if_neg (by simp), yl, show (2 : Int) * (n : Int) = ((2 * n : Nat) : Int) by omega, wid (n := ((2 * n : Nat) : Int)) (by omega) (by omega), show ((2 * n : Nat) : Int) + 1 = ((2 * n + 1 : Nat) : Int) by omega, wid (n := ((2 * n + 1 : Nat) : Int)) (by omega) (by omega)]
  rw [if_pos (by omega), if_pos (by omega), if_pos (by omega), if_pos (by omega), Int.toNat_natCast, Int.toNat_natCast, Option.bind_some]
  have rf := right_f (k := k) (by rw [ks.1]; omega) ks.2.1 (by rw [ks.1]; omega)
  rw [ks.2.2.2] at rf
  have nx := keeps_l0 l1 l2 n hn hn' h1 h2 10 0 k _ ks (by omega) (by omega)
  unfold setPair at rf nx
  rw [rf, Option.bind_some, if_pos (by simp)]
  exact nx
theorem SumKeeps : roundhouselaw1_SumKeeps.Pure := by
  intro l0 l1 l2 m0 s0 w0 m1 s1 _ m2 s2 _
  have hb0 := bytes_of_wf w0
  obtain ⟨k, hk⟩ : ∃ k : Nat, 5000 ≤ k := ⟨5000, Nat.le_refl _⟩
  refine ⟨k, ?_⟩
  unfold roundhouselaw1_SumKeeps.f
  rw [known_f (by omega), Option.bind_some, if_pos rfl]
  by_cases c0 : (l0.length : Int) > 2000
  · rw [if_pos c0]
  · have b3 : Bytes [1, 0, 0] := by intro z hz; simp at hz; omega
    have b7 : Bytes [7] := by intro z hz; simp at hz; omega
    rw [if_neg c0, Option.bind_some, if_pos (by simp; omega), Option.bind_some]
    have ll : ([1, 0, 0] ++ l0 : List Int).length = l0.length + 3 := by simp
    rw [ll]
    by_cases c1 : ((l0.length + 3 : Nat) : Int) % 2 = 1
    · rw [if_pos c1, if_pos (by omega)]
      exact keeps_j0 l1 l2 _ ((l0.length + 4) / 2) (by rw [List.length_append, ll]; simp; omega) (by omega) (by omega) ((b3.app hb0).app b7) rfl (by omega) (by omega) k (by omega)
    · rw [if_neg c1]
      exact keeps_j0 l1 l2 _ ((l0.length + 3) / 2) (by rw [ll]; omega) (by omega) (by omega) (b3.app hb0) rfl (by omega) (by omega) k (by omega)
end Go.Proofs.Ytofgnnmlhnpcoaa.Pure
