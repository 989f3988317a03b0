/- The guard 'known' of chapter 8's statements. -/
import Derived.Test.YtnlnkkblccppdaaPulseI
namespace Go.Proofs.Ytnlnkkblccppdaa.PB
set_option linter.unusedVariables false
set_option linter.unusedSimpArgs false
open Go.RowKit Go.Maps

theorem below_step {B : Nat} {w a b : World} (h : Below B w a) (k : Below a.heap.size a b) (hs : B ≤ a.heap.size) : Below B w b := h.trans (k.mono hs)
def M0 : Int → Option Hist := fun _ => none
theorem wfs (s : Int) (h : -9223372036854775808 ≤ s) (h' : s ≤ 9223372036854775807) : (Lit.int .i64 s).wf = true := WalkArith.wf_i64 ⟨h, h'⟩
def M1 : Int → Option Hist := upd M0 3 (some (next 2 2 0 0 false true))
def M2 : Int → Option Hist := upd M1 3 (some (next 2 2 5 1 false true))
def M3 : Int → Option Hist := upd M2 3 none
theorem m0_3 : (M0 3).getD zeroH = ⟨0, 0, false⟩ := rfl
theorem m1_3 : (M1 3).getD zeroH = ⟨0, 1, false⟩ := rfl
theorem m2_3 : (M2 3).getD zeroH = ⟨5, 0, true⟩ := rfl
theorem m2_9 : (M2 9).getD zeroH = ⟨0, 0, false⟩ := rfl
theorem m2_4 : (M2 4).getD zeroH = ⟨0, 0, false⟩ := rfl
theorem s2_3 : (M2 3).isSome = true := rfl
theorem s2_4 : (M2 4).isSome = false := rfl
theorem m3_3 : (M3 3).getD zeroH = ⟨0, 0, false⟩ := rfl
theorem is3 : isB 3 = true := rfl
theorem v0 : verdict 2 2 0 false true = 0 := rfl
theorem v1 : verdict 2 2 1 false true = 1 := rfl
theorem due39 : dueB 3 9 5 5 true = false := rfl
theorem due310 : dueB 3 10 5 5 true = true := rfl
theorem due40 : dueB 4 0 0 5 false = true := rfl
set_option maxHeartbeats 2000000 in
set_option maxRecDepth 100000 in
theorem known_calls (w : World) : Calls Try.prog 13 #[] w fun e' w' => e' = .returned (.bool true) ∧ Below w.heap.size w w' := by
  have W3 := Lib.hid (wfs 3 (by omega) (by omega))
  have W4 := Lib.hid (wfs 4 (by omega) (by omega))
  have W9 := Lib.hid (wfs 9 (by omega) (by omega))
  go_enter Try.func13, Try.ntmps13
  go_wp2_with (first
    | (go_at_call 15; refine (new_ok 2 2 5 (by unfold okNew; omega) _).mono ?_; rintro e' w0 ⟨g, mb, rfl, hg, hmb, hb, hp⟩; have HB0 := Lib.hid hb; have HP0 := Lib.hid (show PAt w0 g mb 2 2 5 0 M0 from hp); have HG := Lib.hid hg; have HMB := Lib.hid hmb; clear hb hp hg hmb)
    | (go_at_call 17; (with_reducible refine (told_calls g mb 0 2 2 5 M0 3 0 0 0 false true W3.out is3 _ HP0.out m0_3 (by omega) (by omega) (by omega) (by omega) (by omega)).mono ?_); rintro e' w1 ⟨rfl, hc, hp⟩; have HB1 := Lib.hid (HB0.out.trans (hc.below HMB.out HB0.out.size)); have HP1 := Lib.hid hp; clear hc hp; try rw [v0])
    | (go_at_call 17; (with_reducible refine (told_calls g mb 1 2 2 5 M1 3 5 0 1 false true W3.out is3 _ HP1.out m1_3 (by omega) (by omega) (by omega) (by omega) (by omega)).mono ?_); rintro e' w2 ⟨rfl, hc, hp⟩; have HB2 := Lib.hid (HB1.out.trans (hc.below HMB.out HB1.out.size)); have HP2 := Lib.hid hp; clear hc hp; try rw [v1])
    | (go_at_call 21; (with_reducible refine (up_calls g mb 2 2 2 5 M2 9 0 0 false W9.out _ HP2.out m2_9).mono ?_); rintro e' w3 ⟨rfl, hb⟩; have HB3 := Lib.hid (below_step HB2.out hb HB2.out.size); have HP3 := Lib.hid (HP2.out.below hb); clear hb)
    | (go_at_call 21; (with_reducible refine (up_calls g mb 2 2 2 5 M2 3 5 0 true W3.out _ HP3.out m2_3).mono ?_); rintro e' w4 ⟨rfl, hb⟩; have HB4 := Lib.hid (below_step HB3.out hb HB3.out.size); have HP4 := Lib.hid (HP3.out.below hb); clear hb)
    | (go_at_call 19; (with_reducible refine (due_calls g mb 2 2 2 5 M2 3 9 5 0 true true W3.out _ HP4.out m2_3 s2_3 (by omega) (by omega) (by omega) (by omega)).mono ?_); rintro e' w5 ⟨rfl, hb⟩; have HB5 := Lib.hid (below_step HB4.out hb HB4.out.size); have HP5 := Lib.hid (HP4.out.below hb); clear hb; try rw [due39])
    | (go_at_call 19; (with_reducible refine (due_calls g mb 2 2 2 5 M2 3 10 5 0 true true W3.out _ HP5.out m2_3 s2_3 (by omega) (by omega) (by omega) (by omega)).mono ?_); rintro e' w6 ⟨rfl, hb⟩; have HB6 := Lib.hid (below_step HB5.out hb HB5.out.size); have HP6 := Lib.hid (HP5.out.below hb); clear hb; try rw [due310])
    | (go_at_call 19; (with_reducible refine (due_calls g mb 2 2 2 5 M2 4 0 0 0 false false W4.out _ HP6.out m2_4 s2_4 (by omega) (by omega) (by omega) (by omega)).mono ?_); rintro e' w7 ⟨rfl, hb⟩; have HB7 := Lib.hid (below_step HB6.out hb HB6.out.size); have HP7 := Lib.hid (HP6.out.below hb); clear hb; try rw [due40])
    | (go_at_call 23; (with_reducible refine (drop_calls g mb 2 2 2 5 M2 3 true W3.out _ HP7.out s2_3).mono ?_); rintro e' w8 ⟨rfl, hc, hp⟩; have HB8 := Lib.hid (HB7.out.trans (hc.below HMB.out HB7.out.size)); have HP8 := Lib.hid hp; clear hc hp)
    | (go_at_call 21; (with_reducible refine (up_calls g mb 2 2 2 5 M3 3 0 0 false W3.out _ HP8.out m3_3).mono ?_); rintro e' w9 ⟨rfl, hb⟩; have HB9 := Lib.hid (below_step HB8.out hb HB8.out.size); have HP9 := Lib.hid (HP8.out.below hb); clear hb))
  go_ret
  exact ⟨rfl, HB9.out⟩
end Go.Proofs.Ytnlnkkblccppdaa.PB
