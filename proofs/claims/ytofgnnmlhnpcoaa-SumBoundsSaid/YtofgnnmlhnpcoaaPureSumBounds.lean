/- Sums are numbers from 0 to 65535, 0 just of noughts; Of is what lacks to 65535; Right is whether nothing lacks. For every slice of bytes. -/
import Derived.Test.YtofgnnmlhnpcoaaSumBase2
import Derived.Test.YtofgnnmlhnpcoaaHx8
namespace Go.Proofs.Ytofgnnmlhnpcoaa.Pure
set_option linter.unusedVariables false
set_option linter.unusedSimpArgs false
open Go.RowKit Go.Proofs.Ytofgnnmlhnpcoaa.Hp Go.Proofs.Ytofgnnmlhnpcoaa.SB Go.Proofs.YtofgnnmlhnpcoaaW.PrintWords Go.Proofs.YtofgnnmlhnpcoaaW.PrintLast

theorem pairs_zero : ∀ {l : List Int}, Bytes l → (pairs l = 0 ↔ ∀ x ∈ l, x = 0)
  | [], _ => by simp [pairs]
  | [x], h => by have := h x (by simp); simp only [pairs, List.mem_singleton, forall_eq]; omega
  | x :: y :: l, h => by
    have h1 := h x (by simp)
    have h2 := h y (by simp)
    have hl : Bytes l := fun z hz => h z (by simp [hz])
    have h3 := pairs_nonneg hl
    have ih := pairs_zero hl
    simp only [pairs, List.mem_cons, forall_eq_or_imp]
    rw [← ih]; omega
theorem fold_eq_zero {n : Int} (hn : 0 ≤ n) : fold n = 0 ↔ n = 0 := by unfold fold; split <;> omega
theorem take_zero (l : List Int) (i : Nat) (h : i < l.length) : (∀ x ∈ l.take (i + 1), x = 0) ↔ ((∀ x ∈ l.take i, x = 0) ∧ l.getD i 0 = 0) := by
  rw [List.take_succ_eq_append_getElem h, List.getD_eq_getElem?_getD, List.getElem?_eq_getElem h]
  simp only [List.mem_append, List.mem_singleton, Option.getD_some]
  constructor
  · intro q; exact ⟨fun x hx => q x (.inl hx), q _ (.inr rfl)⟩
  · rintro ⟨q, q'⟩ x (hx | hx)
    · exact q x hx
    · rw [hx]; exact q'
theorem bounds_l0 (l : List Int) (hl : l.length ≤ 2000) (hb : Bytes l) : ∀ (d k i : Nat), l.length = i + d → l.length + 3 + d ≤ k →
    roundhouselaw1_SumBounds.l0 k l (decide (∀ x ∈ l.take i, x = 0)) (i : Int) = some true := by
  intro d
  induction d with
  | zero =>
    intro k i hi hk
    obtain ⟨k, rfl⟩ : ∃ m, k = m + 1 := ⟨k - 1, by omega⟩
    have bf := @fold_bounds (pairs l)
    simp only [roundhouselaw1_SumBounds.l0]
    rw [if_neg (by omega), add_f (by omega) hb (by omega), Option.bind_some, if_pos bf.1, if_pos bf.2, List.take_of_length_le (by omega)]
    have e : (fold (pairs l) == 0) = decide (∀ x ∈ l, x = 0) := by
      rw [Bool.eq_iff_iff]; simp only [beq_iff_eq, decide_eq_true_eq]
      rw [fold_eq_zero (pairs_nonneg hb), pairs_zero hb]
    rw [if_pos (by rw [e]; simp), of_f (by omega) hb (by omega), Option.bind_some, wid (by omega) (by omega), if_pos rfl, right_f (by omega) hb (by omega), Option.bind_some]
    simp
  | succ d ih =>
    intro k i hi hk
    obtain ⟨k, rfl⟩ : ∃ m, k = m + 1 := ⟨k - 1, by omega⟩
    have := ih k (i + 1) (by omega) (by omega)
    simp only [roundhouselaw1_SumBounds.l0]
    rw [if_pos (by omega), wid (by omega) (by omega), rd_nat]
    have e := take_zero l i (by omega)
    by_cases c : ∀ x ∈ l.take i, x = 0
    · rw [if_pos (decide_eq_true c), if_pos (by omega), ← this]
      congr 1
      rw [Bool.eq_iff_iff, decide_eq_true_eq, e, beq_iff_eq]
      exact ⟨fun q => ⟨c, q⟩, fun q => q.2⟩
    · rw [if_neg (by simpa using c), ← this]
      congr 1
      rw [eq_comm, decide_eq_false_iff_not, e]
      exact fun q => c q.1

theorem SumBounds : roundhouselaw1_SumBounds.Pure := by
  intro l0 m0 s0 w0
  have hb := bytes_of_wf w0
  obtain ⟨k, hk⟩ : ∃ k : Nat, 2 * l0.length + 10 ≤ k := ⟨_, Nat.le_refl _⟩
  refine ⟨k, ?_⟩
  unfold roundhouselaw1_SumBounds.f
  rw [known_f (by omega), Option.bind_some, if_pos rfl]
  by_cases c0 : (l0.length : Int) > 2000
  · rw [if_pos c0]
  · rw [if_neg c0]
    have := bounds_l0 l0 (by omega) hb l0.length k 0 (by omega) (by omega)
    rw [← this]; congr 1
end Go.Proofs.Ytofgnnmlhnpcoaa.Pure
