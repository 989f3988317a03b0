/- Contracts: New of package pulse and of the reference; within, bit. -/
import Derived.Test.YtnlnkkblccppdaaPulseD
namespace Go.Proofs.Ytnlnkkblccppdaa.PB
set_option linter.unusedVariables false
set_option linter.unusedSimpArgs false
open Go.RowKit Go.Maps

def okNew (r f e : Int) : Prop := 1 ≤ r ∧ r ≤ 10 ∧ 1 ≤ f ∧ f ≤ 10 ∧ 1 ≤ e ∧ e ≤ 1000
def NewPost (w : World) (r f e : Int) (e' : Ending) (w' : World) : Prop := ∃ g mb, e' = .returned (.tuple #[.pointer (some ⟨g, 0, none⟩), .int .i64 0]) ∧ w.heap.size ≤ g ∧ w.heap.size ≤ mb ∧ Below w.heap.size w w' ∧ PAt w' g mb r f e 0 (fun _ => none)
theorem new_at (w : World) (r f e : Int) : PAt ((w.alloc (.map #[] 0)).alloc (.cells #[.map (some w.heap.size), .int .i64 r, .int .i64 f, .int .i64 e] 48)) (w.heap.size + 1) w.heap.size r f e 0 (fun _ => none) := by
  refine ⟨?_, _, (World.ownsMap_made _ _ _ _).alloc _, rep_empty⟩
  have e1 : (w.alloc (.map #[] 0)).heap.size = w.heap.size + 1 := by simp
  rw [← e1]
  exact new_blk _ _ 0
set_option maxRecDepth 100000 in
theorem new_ok (r f e : Int) (h : okNew r f e) (w : World) : Calls Try.prog 15 #[.int .i64 r, .int .i64 f, .int .i64 e] w (NewPost w r f e) := by
  obtain ⟨h1, h2, h3, h4, h5, h6⟩ := h
  have hmm := @run_makeMap Try.prog
  go_enter Try.func15, Try.ntmps15
  go_wp2
  all_goals exact bodyPost_ret (v := .tuple #[.pointer (some ⟨w.heap.size + 1, 0, none⟩), .int .i64 0]) (by simp [results, Try.results15, go_sem]) rfl ⟨_, _, rfl, by omega, Nat.le_refl _, ((Below.refl _ _).alloc (Nat.le_refl _) _).alloc (by simp) _, new_at w r f e⟩
set_option maxHeartbeats 4000000 in
set_option maxRecDepth 100000 in
theorem new_bad (r f e : Int) (h : ¬ okNew r f e) (w : World) : Calls Try.prog 15 #[.int .i64 r, .int .i64 f, .int .i64 e] w fun e' w' => e' = .returned (.tuple #[.pointer none, .int .i64 14]) ∧ Below w.heap.size w w' := by
  have H := Lib.hid h
  have hmm := @run_makeMap Try.prog
  clear h
  go_enter Try.func15, Try.ntmps15
  go_wp2
  all_goals first
    | exact bodyPost_ret (v := .tuple #[.pointer none, .int .i64 14]) (by simp [results, Try.results15, go_sem]) rfl ⟨rfl, Below.refl _ _⟩
    | (exfalso; apply H.out; unfold okNew; omega)
set_option maxRecDepth 100000 in
theorem within_calls (a n : Int) (h0 : 0 < n) (h1 : n ≤ 4611686018427387904) (w : World) : Calls Try.prog 14 #[.int .i64 a, .int .i64 n] w fun e w' => e = .returned (.int .i64 (a % n)) ∧ w = w' := by
  have e := Int.tmod_eq_emod (a := a) (b := n)
  have m0 := Int.emod_nonneg a (show n ≠ 0 by omega)
  have m1 := Int.emod_lt_of_pos a h0
  have hz : (n == 0) = false := beq_eq_false_iff_ne.mpr (by omega)
  have hz' : (n != 0) = true := bne_iff_ne.mpr (by omega)
  by_cases h : 0 ≤ a ∨ n ∣ a
  · rw [if_pos h] at e
    have e' : Int.tmod a n = a % n := by omega
    have E := Lib.hid e'
    have d : decide (Int.tmod a n < 0) = false := decide_eq_false (by omega)
    clear e e' h
    go_enter Try.func14, Try.ntmps14
    go_wp2
    go_ret
    exact ⟨by rw [← E.out]; rfl, rfl⟩
  · rw [if_neg h] at e
    have hn : ((n.natAbs : Nat) : Int) = n := by omega
    have e' : wrap64 (Int.tmod a n + n) = a % n := by unfold wrap64; omega
    have E := Lib.hid e'
    have d : decide (Int.tmod a n < 0) = true := decide_eq_true (by omega)
    clear e e' h hn
    go_enter Try.func14, Try.ntmps14
    go_wp2
    go_ret
    exact ⟨by rw [← E.out]; rfl, rfl⟩
set_option maxRecDepth 100000 in
theorem bit_calls (b : Bool) (w : World) : Calls Try.prog 25 #[.bool b] w fun e w' => e = .returned (.int .i64 (if b = true then 1 else 0)) ∧ w = w' := by
  cases b
  all_goals
    go_enter Try.func25, Try.ntmps25
    go_wp2
    go_ret
    exact ⟨rfl, rfl⟩
end Go.Proofs.Ytnlnkkblccppdaa.PB
