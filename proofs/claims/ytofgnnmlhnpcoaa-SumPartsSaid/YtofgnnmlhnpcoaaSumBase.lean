/- What the sums of chapter 1 are, as numbers: fold (pairs b). Of the printed functions of package sum. -/
import Derived.Test.YtofgnnmlhnpcoaaHx1
namespace Go.Proofs.Ytofgnnmlhnpcoaa.SB
set_option linter.unusedVariables false
set_option linter.unusedSimpArgs false
open Go.RowKit Go.Proofs.Ytofgnnmlhnpcoaa.Hp Go.Proofs.YtofgnnmlhnpcoaaW.PrintWords Go.Proofs.YtofgnnmlhnpcoaaW.PrintLast

def plus (a b : Int) : Int := if a + b > 65535 then a + b - 65535 else a + b
def fold (n : Int) : Int := if n = 0 then 0 else (n - 1) % 65535 + 1
def pairs : List Int → Int
  | [] => 0
  | [x] => x * 256
  | x :: y :: l => x * 256 + y + pairs l
def Bytes (l : List Int) : Prop := ∀ x ∈ l, 0 ≤ x ∧ x ≤ 255
def turn (s a b : Int) : Int := 65535 - plus (65535 - s) (plus (65535 - a) b)

theorem wid {n : Int} (h : -9223372036854775808 ≤ n) (h' : n ≤ 9223372036854775807) : wrap64 n = n := by unfold wrap64; omega
theorem wrap_i64w (n : Int) (h0 : 0 ≤ n) (h1 : n < 2 ^ 63) : Go.IntKind.i64.wrap n = n := by rw [Go.IntKind.wrap_i64]; omega
theorem and_full {n : Int} (h0 : 0 ≤ n) (h1 : n < 9223372036854775808) : Go.bits .and .i64 n 65535 = n % 65536 :=
  Go.bits_mask .i64 63 (by decide) wrap_i64w 16 (by decide) n h0 h1

theorem fold_bounds {n : Int} : 0 ≤ fold n ∧ fold n ≤ 65535 := by unfold fold; split <;> omega
theorem fold_plus {n x : Int} (hn : 0 ≤ n) (h0 : 0 ≤ x) (h1 : x ≤ 65535) : plus (fold n) x = fold (n + x) := by
  unfold plus fold; repeat' split
  all_goals omega
theorem fold_fold {n m : Int} (hn : 0 ≤ n) (hm : 0 ≤ m) : plus (fold n) (fold m) = fold (n + m) := by
  unfold plus fold; repeat' split
  all_goals omega
theorem fold_zero : fold 0 = 0 := rfl
theorem fold_id {x : Int} (h0 : 0 ≤ x) (h1 : x ≤ 65535) : fold x = x := by unfold fold; split <;> omega
theorem plus_bounds {a b : Int} (ha : 0 ≤ a) (ha' : a ≤ 65535) (hb : 0 ≤ b) (hb' : b ≤ 65535) : 0 ≤ plus a b ∧ plus a b ≤ 65535 := by
  unfold plus; split <;> omega
theorem turn_bounds {s a b : Int} (hs : 0 ≤ s) (hs' : s ≤ 65535) (ha : 0 ≤ a) (ha' : a ≤ 65535) (hb : 0 ≤ b) (hb' : b ≤ 65535) : 0 ≤ turn s a b ∧ turn s a b ≤ 65535 := by
  unfold turn plus; repeat' split
  all_goals omega

theorem plus_f {a b : Int} (ha : 0 ≤ a) (ha' : a ≤ 65535) (hb : 0 ≤ b) (hb' : b ≤ 65535) : sum_Plus.f a b = some (plus a b) := by
  unfold sum_Plus.f
  rw [wid (n := a + b) (by omega) (by omega), and_full (by omega) (by omega), and_full (by omega) (by omega), wid (by omega) (by omega)]
  unfold plus
  split <;> (congr 1; omega)

theorem drop2 {l : List Int} {i : Nat} (h : i + 1 < l.length) : l.drop i = l.getD i 0 :: l.getD (i + 1) 0 :: l.drop (i + 2) := by
  rw [List.drop_eq_getElem_cons (by omega), List.drop_eq_getElem_cons h]
  simp [List.getD_eq_getElem?_getD, h, show i < l.length by omega]
theorem drop1 {l : List Int} {i : Nat} (h : i + 1 = l.length) : l.drop i = [l.getD i 0] := by
  rw [List.drop_eq_getElem_cons (by omega)]
  simp [List.getD_eq_getElem?_getD, show i < l.length by omega, h]
theorem getD_byte {l : List Int} (hb : Bytes l) (i : Nat) : 0 ≤ l.getD i 0 ∧ l.getD i 0 ≤ 255 := by
  rw [List.getD_eq_getElem?_getD]
  by_cases h : i < l.length
  · rw [List.getElem?_eq_getElem h]; exact hb _ (List.getElem_mem h)
  · rw [List.getElem?_eq_none (by omega)]; simp
theorem rd_nat (l : List Int) (i : Nat) : rd l (i : Int) = l.getD i 0 := by unfold rd; rw [Int.toNat_natCast]
theorem rd_nat1 (l : List Int) (i : Nat) : rd l ((i : Int) + 1) = l.getD (i + 1) 0 := rd_nat l (i + 1)
theorem pairs_nonneg : ∀ {l : List Int}, Bytes l → 0 ≤ pairs l
  | [], _ => Int.le_refl _
  | [x], h => by have := h x (by simp); simp only [pairs]; omega
  | x :: y :: l, h => by
    have h1 := h x (by simp)
    have h2 := h y (by simp)
    have := pairs_nonneg (l := l) (fun z hz => h z (by simp [hz]))
    simp only [pairs]; omega

theorem add_l0 (l : List Int) (hl : l.length ≤ 140737488355328) (hb : Bytes l) : ∀ (k i : Nat) (S : Int), 0 ≤ S → i ≤ l.length + 1 → l.length + 2 ≤ i + k → sum_Add.l0 k l (fold S) i = some (fold (S + pairs (l.drop i))) := by
  intro k
  induction k with
  | zero => intro i S hS hi hk; omega
  | succ k ih =>
    intro i S hS hi hk
    have b1 := getD_byte hb i
    have b2 := getD_byte hb (i + 1)
    have bf := @fold_bounds S
    simp only [sum_Add.l0]
    rw [wid (n := (i : Int) + 1) (by omega) (by omega), wid (n := (i : Int) + 2) (by omega) (by omega), rd_nat, rd_nat1]
    by_cases h : i < l.length
    · rw [if_pos (by omega), if_pos (by omega)]
      by_cases h1 : i + 1 < l.length
      · rw [if_pos (by omega), if_pos (by omega), wid (n := l.getD i 0) (by omega) (by omega), wid (n := l.getD (i + 1) 0) (by omega) (by omega), wid (n := l.getD i 0 * 256) (by omega) (by omega), wid (by omega) (by omega),
          plus_f bf.1 bf.2 (by omega) (by omega), fold_plus hS (by omega) (by omega)]
        have := ih (i + 2) (S + (l.getD i 0 * 256 + l.getD (i + 1) 0)) (by omega) (by omega) (by omega)
        simp only [Option.bind_some]
        rw [show ((i : Int) + 2) = ((i + 2 : Nat) : Int) by omega, this, drop2 h1]
        simp only [pairs]
        congr 2; omega
      · rw [if_neg (by omega), wid (n := l.getD i 0) (by omega) (by omega), wid (n := l.getD i 0 * 256) (by omega) (by omega), plus_f bf.1 bf.2 (by omega) (by omega), fold_plus hS (by omega) (by omega)]
        have := ih (i + 2) (S + (l.getD i 0 * 256)) (by omega) (by omega) (by omega)
        simp only [Option.bind_some]
        rw [show ((i : Int) + 2) = ((i + 2 : Nat) : Int) by omega, this, drop1 (show i + 1 = l.length by omega), List.drop_eq_nil_of_le (by omega)]
        simp only [pairs]
        congr 2; omega
    · rw [if_neg (by omega), List.drop_eq_nil_of_le (by omega)]
      simp [pairs]

theorem add_f {l : List Int} {k : Nat} (hl : l.length ≤ 140737488355328) (hb : Bytes l) (hk : l.length + 2 ≤ k) : sum_Add.f k l = some (fold (pairs l)) := by
  unfold sum_Add.f
  have := add_l0 l hl hb k 0 0 (Int.le_refl _) (by omega) (by omega)
  rw [List.drop_zero, Int.zero_add, fold_zero] at this
  exact this
theorem of_f {l : List Int} {k : Nat} (hl : l.length ≤ 140737488355328) (hb : Bytes l) (hk : l.length + 2 ≤ k) : sum_Of.f k l = some (65535 - fold (pairs l)) := by
  unfold sum_Of.f
  have bf := @fold_bounds (pairs l)
  rw [add_f hl hb hk, Option.bind_some, wid (by omega) (by omega)]
theorem right_f {l : List Int} {k : Nat} (hl : l.length ≤ 140737488355328) (hb : Bytes l) (hk : l.length + 2 ≤ k) : sum_Right.f k l = some (fold (pairs l) == 65535) := by
  unfold sum_Right.f
  rw [add_f hl hb hk, Option.bind_some]
theorem turn_f {s a b : Int} (hs : 0 ≤ s) (hs' : s ≤ 65535) (ha : 0 ≤ a) (ha' : a ≤ 65535) (hb : 0 ≤ b) (hb' : b ≤ 65535) : sum_Turn.f s a b = some (turn s a b) := by
  unfold sum_Turn.f turn
  have h1 := plus_bounds (a := 65535 - a) (b := b) (by omega) (by omega) hb hb'
  have h2 := plus_bounds (a := 65535 - s) (b := plus (65535 - a) b) (by omega) (by omega) h1.1 h1.2
  rw [wid (n := 65535 - a) (by omega) (by omega), wid (n := 65535 - s) (by omega) (by omega), plus_f (by omega) (by omega) hb hb', Option.bind_some, plus_f (by omega) (by omega) h1.1 h1.2, Option.bind_some, wid (by omega) (by omega)]
theorem bytes_of_wf {l : List Int} (h : ∀ x ∈ l, (Go.Lit.int .u8 x).wf = true) : Bytes l := by
  intro x hx
  have := h x hx
  simp only [Go.Lit.wf, Bool.and_eq_true, decide_eq_true_eq] at this
  exact ⟨this.1, this.2⟩
theorem bytes_nil : Bytes [] := by intro x hx; simp at hx
theorem Bytes.app {a b : List Int} (ha : Bytes a) (hb : Bytes b) : Bytes (a ++ b) := by
  intro x hx; rcases List.mem_append.1 hx with h | h
  · exact ha x h
  · exact hb x h
theorem Bytes.take {a : List Int} (ha : Bytes a) (n : Nat) : Bytes (a.take n) := fun x hx => ha x (List.mem_of_mem_take hx)
theorem Bytes.drop {a : List Int} (ha : Bytes a) (n : Nat) : Bytes (a.drop n) := fun x hx => ha x (List.mem_of_mem_drop hx)
theorem Bytes.set {a : List Int} (ha : Bytes a) (n : Nat) {v : Int} (h0 : 0 ≤ v) (h1 : v ≤ 255) : Bytes (a.set n v) := by
  intro x hx
  rcases List.mem_or_eq_of_mem_set hx with h | h
  · exact ha x h
  · subst h; exact ⟨h0, h1⟩
theorem pairs_app : ∀ (a b : List Int), a.length % 2 = 0 → pairs (a ++ b) = pairs a + pairs b
  | [], b, _ => by simp [pairs]
  | [x], b, h => by simp at h
  | x :: y :: l, b, h => by
    have := pairs_app l b (by simp at h; omega)
    simp only [List.cons_append, pairs, this]; omega
end Go.Proofs.Ytofgnnmlhnpcoaa.SB
