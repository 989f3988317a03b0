/- The walk of PulseDue. -/
import Derived.Test.YtnlnkkblccppdaaPulseK
namespace Go.Proofs.Ytnlnkkblccppdaa.PL
set_option linter.unusedVariables false
set_option linter.unusedSimpArgs false
open Go.RowKit Go.Maps Go.Proofs.Ytnlnkkblccppdaa.PB

set_option maxHeartbeats 2000000 in
set_option maxRecDepth 100000 in
theorem PulseDue_walk (a0 a1 a2 a3 : Int) (w : World) (w0 : (Lit.int .i64 a0).wf = true) (w1 : (Lit.int .i64 a1).wf = true) (w2 : (Lit.int .i64 a2).wf = true) (w3 : (Lit.int .i64 a3).wf = true) :
    Calls Try.prog 6 #[.int .i64 a0, .int .i64 a1, .int .i64 a2, .int .i64 a3] w fun e w' => e = .returned (.bool true) ∧ Below w.heap.size w w' := by
  clear w0 w1 w2 w3
  obtain ⟨x, hx, x0, x1⟩ := emod_b a0 1000 (by omega)
  obtain ⟨s, hs, s0, s1⟩ := emod_b a1 64 (by omega)
  obtain ⟨t, ht, t0, t1⟩ := emod_b a2 1073741824 (by omega)
  obtain ⟨d, hd, d0, d1⟩ := emod_b a3 2000 (by omega)
  have HX := Lib.hid hx
  have HS := Lib.hid hs
  have HT := Lib.hid ht
  have HD := Lib.hid hd
  have HW := Lib.hid (wfs s (by omega) (by omega))
  have HI := Lib.hid (isB_of s0 s1)
  have HM := Lib.hid (show (M0 s).getD zeroH = ⟨0, 0, false⟩ from rfl)
  have HN := Lib.hid (show (M0 s).isSome = false from rfl)
  have HM1 := Lib.hid (fun ok : Bool => (show ((upd M0 s (some (next 1 1 t 0 false ok))) s).getD zeroH = ⟨t, (next 1 1 t 0 false ok).row, (next 1 1 t 0 false ok).up⟩ from by rw [upd_same]; exact next_eta _ _ _ _ _ _))
  have HN1 := Lib.hid (fun ok : Bool => (show ((upd M0 s (some (next 1 1 t 0 false ok))) s).isSome = true from by rw [upd_same]; rfl))
  have E1 := Lib.hid (show dueB s t 0 (1 + x) false = true from by unfold dueB; rw [HI.out]; rfl)
  have E2 := Lib.hid (show dueB s (t + d) t (1 + x) true = decide (1 + x ≤ d) from by
    unfold dueB; rw [HI.out, show t + d - t = d by omega]; simp)
  clear hx hs ht hd
  go_enter Try.func6, Try.ntmps6
  go_wp2_with (first
    | (go_at_call 13; refine (known_calls _).mono ?_; rintro e' w1 ⟨rfl, hb⟩; have HB1 := Lib.hid hb; clear hb)
    | (go_at_call 14; (with_reducible refine (within_calls a0 1000 (by omega) (by omega) _).mono ?_); rintro e' w3 ⟨rfl, rfl⟩; rw [HX.out])
    | (go_at_call 14; (with_reducible refine (within_calls a1 64 (by omega) (by omega) _).mono ?_); rintro e' w3 ⟨rfl, rfl⟩; rw [HS.out])
    | (go_at_call 14; (with_reducible refine (within_calls a2 1073741824 (by omega) (by omega) _).mono ?_); rintro e' w3 ⟨rfl, rfl⟩; rw [HT.out])
    | (go_at_call 14; (with_reducible refine (within_calls a3 2000 (by omega) (by omega) _).mono ?_); rintro e' w3 ⟨rfl, rfl⟩; rw [HD.out])
    | (go_at_call 15; refine (new_ok 1 1 (1 + x) (by unfold okNew; omega) _).mono ?_; rintro e' w2 ⟨g, mb, rfl, hg, hmb, hb, hp⟩; have HB2 := Lib.hid (below_step HB1.out hb HB1.out.size); have HP2 := Lib.hid (show PAt w2 g mb 1 1 (1 + x) 0 M0 from hp); have HMB := Lib.hid (Nat.le_trans HB1.out.size hmb); clear hb hp hg hmb)
    | (go_at_call 19; (with_reducible refine (due_calls g mb 0 1 1 (1 + x) M0 s t 0 0 false false HW.out _ HP2.out HM.out HN.out t0 (by omega) (by omega) (by omega)).mono ?_); rintro e' w3 ⟨rfl, hb⟩; have HB3 := Lib.hid (below_step HB2.out hb HB2.out.size); have HP3 := Lib.hid (HP2.out.below hb); clear hb; rw [E1.out])
    | (go_at_call 17; (with_reducible refine (told_calls g mb 0 1 1 (1 + x) M0 s t 0 0 false _ HW.out HI.out _ HP3.out HM.out (by omega) (by omega) (by omega) (by omega) (by omega)).mono ?_); rintro e' w4 ⟨rfl, hc, hp⟩; have HB4 := Lib.hid (HB3.out.trans (hc.below HMB.out HB3.out.size)); have HP4 := Lib.hid hp; clear hc hp)
    | (go_at_call 19; (with_reducible refine (due_calls g mb 1 1 1 (1 + x) _ s (t + d) t _ _ true HW.out _ HP4.out (HM1.out _) (HN1.out _) (by omega) (by omega) (by omega) (by omega)).mono ?_); rintro e' w5 ⟨rfl, hb⟩; have HB5 := Lib.hid (below_step HB4.out hb HB4.out.size); clear hb; rw [E2.out]))
  go_ret
  exact ⟨by simp, HB5.out⟩
end Go.Proofs.Ytnlnkkblccppdaa.PL
