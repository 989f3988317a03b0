/- Bytes that are not right, with a pair and their sum by Turn changed, are not right; what is right stays so (but where all are noughts). For every slice of bytes, every two numbers. -/
import Derived.Test.YtofgnnmlhnpcoaaSumBase3
import Derived.Test.YtofgnnmlhnpcoaaHx6
namespace Go.Proofs.Ytofgnnmlhnpcoaa.Pure
set_option linter.unusedVariables false
set_option linter.unusedSimpArgs false
open Go.RowKit Go.Proofs.Ytofgnnmlhnpcoaa.Hp Go.Proofs.Ytofgnnmlhnpcoaa.SB Go.Proofs.YtofgnnmlhnpcoaaW.PrintWords Go.Proofs.YtofgnnmlhnpcoaaW.PrintLast

theorem pairs_zero : ∀ {l : List Int}, Bytes l → (pairs l = 0 ↔ ∀ x ∈ l, x = 0)
  | [], _ => by simp [pairs]
  | [x], h => by have := h x (by simp); simp only [pairs, List.mem_singleton, forall_eq]; omega
  | x :: y :: l, h => by
    have h1 := h x (by simp)
    have h2 := h y (by simp)
    have hl : Bytes l := fun z hz => h z (by simp [hz])
    have h3 := pairs_nonneg hl
    have ih := pairs_zero hl
    simp only [pairs, List.mem_cons, forall_eq_or_imp]
    rw [← ih]; omega
theorem take_zero (l : List Int) (i : Nat) (h : i < l.length) : (∀ x ∈ l.take (i + 1), x = 0) ↔ ((∀ x ∈ l.take i, x = 0) ∧ l.getD i 0 = 0) := by
  rw [List.take_succ_eq_append_getElem h, List.getD_eq_getElem?_getD, List.getElem?_eq_getElem h]
  simp only [List.mem_append, List.mem_singleton, Option.getD_some]
  constructor
  · intro q; exact ⟨fun x hx => q x (.inl hx), q _ (.inr rfl)⟩
  · rintro ⟨q, q'⟩ x (hx | hx)
    · exact q x hx
    · rw [hx]; exact q'
def allz (l : List Int) : Bool := decide (∀ x ∈ l, x = 0)
theorem allz_true {l : List Int} : allz l = true ↔ ∀ x ∈ l, x = 0 := by unfold allz; exact decide_eq_true_iff
theorem allz_not {l : List Int} (h : allz l = false) : ¬ ∀ x ∈ l, x = 0 := fun q => by rw [allz_true.2 q] at h; cases h
theorem dec_zero (l : List Int) (i : Nat) (h : i < l.length) (c : allz (l.take i) = true) : (l.getD i 0 == 0) = allz (l.take (i + 1)) := by
  rw [Bool.eq_iff_iff, allz_true, take_zero l i h, beq_iff_eq]
  exact ⟨fun q => ⟨allz_true.1 c, q⟩, fun q => q.2⟩
theorem dec_not (l : List Int) (i : Nat) (h : i < l.length) (c : allz (l.take i) = false) : false = allz (l.take (i + 1)) := by
  cases e : allz (l.take (i + 1)) with
  | false => rfl
  | true => exact absurd ((take_zero l i h).1 (allz_true.1 e)).1 (allz_not c)
theorem wrong_l0 (l0 x : List Int) (hl : x.length ≤ l0.length) (hl0 : l0.length ≤ 2000) (hb : Bytes x) (was : Bool) (hw : ¬ (∀ z ∈ x, z = 0) → ¬ (∀ z ∈ l0.take x.length, z = 0) → (fold (pairs x) == 65535) = was) : ∀ (d k i : Nat), x.length = i + d → x.length + 3 + d ≤ k →
    roundhouselaw1_SumWrong.l0 k l0 x was (allz (x.take i)) (allz (l0.take i)) (i : Int) = some true := by
  intro d
  induction d with
  | zero =>
    intro k i hi hk
    obtain ⟨k, rfl⟩ : ∃ m, k = m + 1 := ⟨k - 1, by omega⟩
    simp only [roundhouselaw1_SumWrong.l0]
    obtain rfl : i = x.length := by omega
    rw [if_neg (by omega), List.take_length]
    cases c : allz x with
    | true => rw [if_pos rfl]
    | false =>
      rw [if_neg (by simp)]
      cases c' : allz (l0.take x.length) with
      | true => rw [if_pos rfl]
      | false =>
        rw [if_neg (by simp), right_f (by omega) hb (by omega), Option.bind_some, hw (allz_not c) (allz_not c')]
        simp
  | succ d ih =>
    intro k i hi hk
    obtain ⟨k, rfl⟩ : ∃ m, k = m + 1 := ⟨k - 1, by omega⟩
    have := ih k (i + 1) (by omega) (by omega)
    simp only [roundhouselaw1_SumWrong.l0]
    rw [if_pos (by omega), wid (by omega) (by omega), rd_nat, rd_nat]
    cases c : allz (x.take i) with
    | true =>
      rw [if_pos rfl, if_pos (by omega), dec_zero x i (by omega) c]
      cases c' : allz (l0.take i) with
      | true => rw [if_pos rfl, if_pos (by omega), dec_zero l0 i (by omega) c', ← this]; congr 1
      | false => rw [if_neg (by simp), dec_not l0 i (by omega) c', ← this]; congr 1
    | false =>
      rw [if_neg (by simp)]
      cases c' : allz (l0.take i) with
      | true =>
        rw [if_pos rfl, if_pos (by omega), if_pos (by omega), dec_zero l0 i (by omega) c', ← this]
        congr 1
        exact dec_not x i (by omega) c
      | false =>
        rw [if_neg (by simp), ← this]
        congr 1
        · exact dec_not x i (by omega) c
        · exact dec_not l0 i (by omega) c'
theorem SumWrong : roundhouselaw1_SumWrong.Pure := by
  intro l0 a1 a2 m0 s0 w0 _ _
  have hb0 := bytes_of_wf w0
  obtain ⟨k, hk⟩ : ∃ k : Nat, 2 * l0.length + 20 ≤ k := ⟨_, Nat.le_refl _⟩
  refine ⟨k + 3, ?_⟩
  have tr : ∀ k' : Nat, roundhouselaw1_SumWrong.j0 (k' + 1) l0 a1 a2 true = some true := fun k' => by simp only [roundhouselaw1_SumWrong.j0]; rfl
  unfold roundhouselaw1_SumWrong.f
  rw [known_f (by omega), Option.bind_some, if_pos rfl]
  by_cases c0 : (l0.length : Int) > 2000
  · rw [if_pos c0, tr]
  · rw [if_neg c0]
    by_cases c1 : (l0.length : Int) < 6
    · rw [decide_eq_true c1, tr]
    · rw [decide_eq_false c1]
      simp only [roundhouselaw1_SumWrong.j0]
      obtain ⟨m, hm⟩ : ∃ m : Nat, l0.length / 2 = m + 1 := ⟨l0.length / 2 - 1, by omega⟩
      have e1 : (l0.length : Int) / 2 * 2 = ((2 * m + 2 : Nat) : Int) := by omega
      rw [if_neg (by simp), Option.bind_some, wid (n := (l0.length : Int) / 2) (by omega) (by omega), e1, wid (n := ((2 * m + 2 : Nat) : Int)) (by omega) (by omega), if_pos (by omega), if_pos (by omega), Int.toNat_natCast, if_pos (by simp; omega), Option.bind_some, List.nil_append]
      obtain ⟨x, hx⟩ : ∃ x, x = l0.take (2 * m + 2) := ⟨_, rfl⟩
      have hxl : x.length = 2 * m + 2 := by rw [hx, List.length_take]; omega
      have hxb : Bytes x := hx ▸ hb0.take _
      rw [← hx, right_f (by omega) hxb (by omega), Option.bind_some, hxl]
      have e2 : ((2 * m + 2 : Nat) : Int) / 2 = ((m + 1 : Nat) : Int) := by omega
      rw [e2, wid (n := ((m + 1 : Nat) : Int)) (by omega) (by omega), show ((m + 1 : Nat) : Int) - 1 = (m : Int) by omega, wid (n := (m : Int)) (by omega) (by omega)]
      obtain ⟨kk, hkk, k0, k1⟩ := within_b (a := a1) (n := (m : Int)) (by omega) (by omega)
      obtain ⟨v, hv, v0, v1⟩ := within_b (a := a2) (n := 65536) (by omega) (by omega)
      obtain ⟨j, rfl⟩ := Int.eq_ofNat_of_zero_le k0
      rw [hkk, Option.bind_some, hv, Option.bind_some]
      rw [show (2 : Int) * (m : Int) = ((2 * m : Nat) : Int) by omega, wid (n := ((2 * m : Nat) : Int)) (by omega) (by omega), show ((2 * m : Nat) : Int) + 1 = ((2 * m + 1 : Nat) : Int) by omega, wid (n := ((2 * m + 1 : Nat) : Int)) (by omega) (by omega),
        show (2 : Int) * (j : Int) = ((2 * j : Nat) : Int) by omega, wid (n := ((2 * j : Nat) : Int)) (by omega) (by omega), show ((2 * j : Nat) : Int) + 1 = ((2 * j + 1 : Nat) : Int) by omega, wid (n := ((2 * j + 1 : Nat) : Int)) (by omega) (by omega)]
      rw [if_pos (by omega), if_pos (by omega), if_pos (by omega), if_pos (by omega), if_pos (by omega), if_pos (by omega), if_pos (by omega), if_pos (by omega), rd_nat, rd_nat, rd_nat, rd_nat, or_pair hxb, or_pair hxb]
      have p1 := pairAt_bounds hxb m
      have p2 := pairAt_bounds hxb j
      have tb := turn_bounds p1.1 p1.2 p2.1 p2.2 v0 (by omega)
      have ch := changed hxb (k := j) (n := m) v v0 (by omega) (by omega) (by omega) (by omega)
      have tf := turn_f p1.1 p1.2 p2.1 p2.2 v0 (by omega)
      unfold pairAt at tf
      rw [tf, Option.bind_some, Option.bind_some, if_neg (by unfold pairAt at tb; omega)]
      have st : roundhouselaw1_SumWrong.j1 (k + 2) l0 (setPair x j v) (fold (pairs x) == 65535) (m : Int) (turn (pairAt x m) (pairAt x j) v) (decide (turn (pairAt x m) (pairAt x j) v > 65535)) = some true := by
        obtain ⟨x2, hx2⟩ : ∃ x2, x2 = setPair (setPair x j v) m (turn (pairAt x m) (pairAt x j) v) := ⟨_, rfl⟩
        have b2 : Bytes x2 := hx2 ▸ setPair_bytes (setPair_bytes hxb j v) m _
        have l2 : x2.length = 2 * m + 2 := by rw [hx2, setPair_length, setPair_length, hxl]
        simp only [roundhouselaw1_SumWrong.j1]
        rw [decide_eq_false (show ¬ turn (pairAt x m) (pairAt x j) v > 65535 by omega), if_neg (by simp), setPair_length, hxl]
        rw [show (2 : Int) * (m : Int) = ((2 * m : Nat) : Int) by omega, wid (n := ((2 * m : Nat) : Int)) (by omega) (by omega), show ((2 * m : Nat) : Int) + 1 = ((2 * m + 1 : Nat) : Int) by omega, wid (n := ((2 * m + 1 : Nat) : Int)) (by omega) (by omega),
          if_pos (by omega), if_pos (by omega), if_pos (by omega), if_pos (by omega), Int.toNat_natCast, Int.toNat_natCast]
        have w := wrong_l0 l0 x2 (by omega) (by omega) b2 (fold (pairs x) == 65535) (by
          intro n1 n2
          rw [← pairs_zero b2] at n1
          rw [l2, ← hx, ← pairs_zero hxb] at n2
          have q1 := pairs_nonneg b2
          have q2 := pairs_nonneg hxb
          rw [← hx2] at ch
          rw [Bool.eq_iff_iff, beq_iff_eq, beq_iff_eq, fold_right q1, fold_right q2]
          omega) (2 * m + 2) (k + 1) 0 (by omega) (by omega)
        rw [← w, hx2]
        unfold setPair
        congr 1
      unfold setPair pairAt at st
      exact st
end Go.Proofs.Ytofgnnmlhnpcoaa.Pure
