/- Pairs of bytes, and a pair changed. -/
import Derived.Test.YtofgnnmlhnpcoaaSumBase2
namespace Go.Proofs.Ytofgnnmlhnpcoaa.SB
set_option linter.unusedVariables false
set_option linter.unusedSimpArgs false
open Go.RowKit Go.Proofs.Ytofgnnmlhnpcoaa.Hp Go.Proofs.YtofgnnmlhnpcoaaW.PrintWords Go.Proofs.YtofgnnmlhnpcoaaW.PrintLast

def pairAt (l : List Int) (k : Nat) : Int := l.getD (2 * k) 0 * 256 + l.getD (2 * k + 1) 0
def setPair (l : List Int) (k : Nat) (v : Int) : List Int := (l.set (2 * k) (v / 256 % 256)).set (2 * k + 1) (v % 256)
theorem or8 {x y : Int} (hx : 0 ≤ x) (hx' : x ≤ 255) (hy : 0 ≤ y) (hy' : y ≤ 255) : Go.bits .or .i64 (x * 256) y = x * 256 + y :=
  Go.bits_join .i64 63 (by decide) wrap_i64w 8 (x * 256) y (by omega) (by omega) (by omega) hy (by omega) (by omega)
theorem or_pair {l : List Int} (hb : Bytes l) (a b : Nat) : Go.bits .or .i64 (wrap64 (wrap64 (l.getD a 0) * 256)) (wrap64 (l.getD b 0)) = l.getD a 0 * 256 + l.getD b 0 := by
  have h1 := getD_byte hb a
  have h2 := getD_byte hb b
  rw [wid (n := l.getD a 0) (by omega) (by omega), wid (n := l.getD b 0) (by omega) (by omega), wid (by omega) (by omega), or8 h1.1 h1.2 h2.1 h2.2]
theorem pairAt_bounds {l : List Int} (hb : Bytes l) (k : Nat) : 0 ≤ pairAt l k ∧ pairAt l k ≤ 65535 := by
  have h1 := getD_byte hb (2 * k)
  have h2 := getD_byte hb (2 * k + 1)
  unfold pairAt; omega
theorem setPair_length (l : List Int) (k : Nat) (v : Int) : (setPair l k v).length = l.length := by simp [setPair]
theorem setPair_bytes {l : List Int} (hb : Bytes l) (k : Nat) (v : Int) : Bytes (setPair l k v) :=
  (hb.set _ (by omega) (by omega)).set _ (by omega) (by omega)
theorem setPair_cons2 (x y : Int) (l : List Int) (k : Nat) (v : Int) : setPair (x :: y :: l) (k + 1) v = x :: y :: setPair l k v := by
  unfold setPair
  rw [show 2 * (k + 1) + 1 = 2 * k + 1 + 1 + 1 by omega, show 2 * (k + 1) = 2 * k + 1 + 1 by omega]
  rfl
theorem pairAt_cons2 (x y : Int) (l : List Int) (k : Nat) : pairAt (x :: y :: l) (k + 1) = pairAt l k := by
  unfold pairAt
  rw [show 2 * (k + 1) + 1 = 2 * k + 1 + 1 + 1 by omega, show 2 * (k + 1) = 2 * k + 1 + 1 by omega]
  rfl
theorem pairs_setPair : ∀ (k : Nat) (l : List Int) (v : Int), 0 ≤ v → v ≤ 65535 → 2 * k + 1 < l.length → pairs (setPair l k v) = pairs l - pairAt l k + v
  | 0, l, v, h0, h1, h => by
    match l, h with
    | x :: y :: l, _ => simp only [setPair, pairAt, Nat.mul_zero, Nat.zero_add, List.set_cons_zero, List.set_cons_succ, pairs, List.getD_cons_zero, List.getD_cons_succ]; omega
  | k + 1, l, v, h0, h1, h => by
    match l, h with
    | x :: y :: l, h =>
      have := pairs_setPair k l v h0 h1 (by simp at h; omega)
      rw [setPair_cons2, pairAt_cons2]
      simp only [pairs, this]; omega
theorem pairAt_setPair : ∀ (k j : Nat) (l : List Int) (v : Int), k ≠ j → pairAt (setPair l k v) j = pairAt l j := by
  intro k j l v h
  unfold pairAt setPair
  simp only [List.getD_eq_getElem?_getD, List.getElem?_set]
  rw [if_neg (by omega), if_neg (by omega), if_neg (by omega), if_neg (by omega)]
theorem pairs_ge_first : ∀ (l : List Int), Bytes l → l.getD 0 0 * 256 ≤ pairs l
  | [], _ => by simp [pairs]
  | [x], _ => by simp [pairs]
  | x :: y :: l, h => by
    have h2 := h y (by simp)
    have h3 := pairs_nonneg (l := l) (fun z hz => h z (by simp [hz]))
    simp only [pairs, List.getD_cons_zero]; omega
theorem setPair_first (l : List Int) (k : Nat) (v : Int) (hk : 0 < k) : (setPair l k v).getD 0 0 = l.getD 0 0 := by
  unfold setPair
  simp only [List.getD_eq_getElem?_getD, List.getElem?_set]
  rw [if_neg (by omega), if_neg (by omega)]
theorem turn_mod (s a b : Int) (hs : 0 ≤ s) (hs' : s ≤ 65535) (ha : 0 ≤ a) (ha' : a ≤ 65535) (hb : 0 ≤ b) (hb' : b ≤ 65535) : (turn s a b - (s + a - b)) % 65535 = 0 := by
  unfold turn plus; repeat' split
  all_goals omega
theorem fold_right {n : Int} (hn : 0 ≤ n) : fold n = 65535 ↔ (0 < n ∧ n % 65535 = 0) := by unfold fold; split <;> omega
/-- A pair and the sum so changed: what the whole comes to. -/
theorem changed {l : List Int} (hb : Bytes l) {k n : Nat} (v : Int) (h0 : 0 ≤ v) (h1 : v ≤ 65535) (hk : 2 * k + 1 < l.length) (hn : 2 * n + 1 < l.length) (hkn : k ≠ n) :
    (pairs (setPair (setPair l k v) n (turn (pairAt l n) (pairAt l k) v)) - pairs l) % 65535 = 0 := by
  have b1 := pairAt_bounds hb k
  have b2 := pairAt_bounds hb n
  have b3 := turn_bounds b2.1 b2.2 b1.1 b1.2 h0 h1
  have m := turn_mod (pairAt l n) (pairAt l k) v b2.1 b2.2 b1.1 b1.2 h0 h1
  rw [pairs_setPair n _ _ b3.1 b3.2 (by rw [setPair_length]; exact hn), pairs_setPair k _ _ h0 h1 hk, pairAt_setPair k n l v hkn]
  omega
end Go.Proofs.Ytofgnnmlhnpcoaa.SB
