/- The walk of PulseNone. -/
import Derived.Test.YtnlnkkblccppdaaPulseJ
namespace Go.Proofs.Ytnlnkkblccppdaa.PL
set_option linter.unusedVariables false
set_option linter.unusedSimpArgs false
open Go.RowKit Go.Maps Go.Proofs.Ytnlnkkblccppdaa.PB

theorem no_slot (M : Int → Option Hist) (s : Int) (h : M s = none) : (M s).getD zeroH = ⟨0, 0, false⟩ := by rw [h]; rfl
theorem due_none (s now l e : Int) (was : Bool) (h : isB s = false) : dueB s now l e was = false := by unfold dueB; rw [h]; rfl
/-- The slot that is asked: none of the 64. -/
def off (s : Int) : Int := if 0 ≤ s ∧ s < 64 then s + 64 else s
theorem off_is (s : Int) : isB (off s) = false := by
  unfold isB off
  split <;> simp <;> omega
set_option maxHeartbeats 2000000 in
set_option maxRecDepth 100000 in
theorem PulseNone_walk (a0 a1 : Int) (a2 : Bool) (w : World) (w0 : (Lit.int .i64 a0).wf = true) (w1 : (Lit.int .i64 a1).wf = true) :
    Calls Try.prog 10 #[.int .i64 a0, .int .i64 a1, .bool a2] w fun e w' => e = .returned (.bool true) ∧ Below w.heap.size w w' := by
  obtain ⟨s, hs⟩ : ∃ s, off a0 = s := ⟨_, rfl⟩
  have b0 : -9223372036854775808 ≤ a0 ∧ a0 ≤ 9223372036854775807 := by
    simp only [Lit.wf, Bool.and_eq_true, decide_eq_true_eq] at w0; exact w0
  have hw : (Lit.int .i64 s).wf = true := by subst hs; unfold off; split <;> exact wfs _ (by omega) (by omega)
  have hi : isB s = false := hs ▸ off_is a0
  have t0 := Int.emod_nonneg a1 (show (1099511627776 : Int) ≠ 0 by omega)
  have t1 := Int.emod_lt_of_pos a1 (show (0 : Int) < 1099511627776 by omega)
  obtain ⟨t, ht⟩ : ∃ t, a1 % 1099511627776 = t := ⟨_, rfl⟩
  rw [ht] at t0 t1
  have HT := Lib.hid ht
  have HW := Lib.hid hw
  have HI := Lib.hid hi
  have HS := Lib.hid hs
  clear ht hw hi hs w0 w1
  have hm : ((fun _ => none : Int → Option Hist) s).getD zeroH = ⟨0, 0, false⟩ := rfl
  have HM := Lib.hid (show (M0 s).getD zeroH = ⟨0, 0, false⟩ from rfl)
  have HN := Lib.hid (show (M0 s).isSome = false from rfl)
  clear hm
  have c : (0 ≤ a0 ∧ a0 < 64 ∧ s = a0 + 64) ∨ (a0 < 0 ∧ s = a0) ∨ (64 ≤ a0 ∧ s = a0) := by
    have := HS.out; unfold off at this; split at this <;> omega
  rcases c with ⟨x0, x1, rfl⟩ | ⟨x0, rfl⟩ | ⟨x0, rfl⟩
  all_goals
    clear HS
    go_enter Try.func10, Try.ntmps10
    go_wp2_with (first
      | (go_at_call 13; refine (known_calls _).mono ?_; rintro e' w1 ⟨rfl, hb⟩; have HB1 := Lib.hid hb; clear hb)
      | (go_at_call 15; refine (new_ok 1 1 1 (by unfold okNew; omega) _).mono ?_; rintro e' w2 ⟨g, mb, rfl, hg, hmb, hb, hp⟩; have HB2 := Lib.hid (below_step HB1.out hb HB1.out.size); have HP2 := Lib.hid (show PAt w2 g mb 1 1 1 0 M0 from hp); have HMB := Lib.hid (Nat.le_trans HB1.out.size hmb); clear hb hp hg hmb)
      | (go_at_call 14; refine (within_calls a1 1099511627776 (by omega) (by omega) _).mono ?_; rintro e' w3 ⟨rfl, rfl⟩; rw [HT.out])
      | (go_at_call 19; (with_reducible refine (due_calls g mb 0 1 1 1 M0 _ t 0 0 false false HW.out _ HP2.out HM.out HN.out t0 (by omega) (by omega) (by omega)).mono ?_); rintro e' w3 ⟨rfl, hb⟩; have HB3 := Lib.hid (below_step HB2.out hb HB2.out.size); have HP3 := Lib.hid (HP2.out.below hb); clear hb; rw [due_none _ _ _ _ _ HI.out])
      | (go_at_call 17; (with_reducible refine (told_none g _ t a2 _ HI.out).mono ?_); rintro e' w4 ⟨rfl, rfl⟩)
      | (go_at_call 21; (with_reducible refine (up_calls g mb 0 1 1 1 M0 _ 0 0 false HW.out _ HP3.out HM.out).mono ?_); rintro e' w4 ⟨rfl, hb⟩; have HB4 := Lib.hid (below_step HB3.out hb HB3.out.size); have HP4 := Lib.hid (HP3.out.below hb); clear hb)
      | (go_at_call 23; (with_reducible refine (drop_calls g mb 0 1 1 1 M0 _ false HW.out _ HP4.out HN.out).mono ?_); rintro e' w5 ⟨rfl, hc, hp⟩; have HC5 := Lib.hid hc; clear hc hp))
    go_ret
    exact ⟨rfl, HB4.out.trans (HC5.out.below HMB.out HB4.out.size)⟩
end Go.Proofs.Ytnlnkkblccppdaa.PL
