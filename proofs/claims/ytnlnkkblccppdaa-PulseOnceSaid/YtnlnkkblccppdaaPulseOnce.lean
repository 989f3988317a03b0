/- The walk of PulseOnce. -/
import Derived.Test.YtnlnkkblccppdaaPulseL
namespace Go.Proofs.Ytnlnkkblccppdaa.PL
set_option linter.unusedVariables false
set_option linter.unusedSimpArgs false
open Go.RowKit Go.Maps Go.Proofs.Ytnlnkkblccppdaa.PB

def onV (u ok : Bool) : Int := if ok = u then 0 else if ok then 1 else 2
theorem on_v (u ok : Bool) : verdict 1 1 0 u ok = onV u ok := by cases u <;> cases ok <;> rfl
theorem on_n (i : Int) (u ok : Bool) : next 1 1 i 0 u ok = ⟨i, 0, ok⟩ := by cases u <;> cases ok <;> rfl
set_option maxHeartbeats 4000000 in
set_option maxRecDepth 100000 in
theorem PulseOnce_walk (a0 : Int) (a1 : Option Addr) (len1 cap1 : Nat) (z1 : List Int) (w : World) (w0 : (Lit.int .i64 a0).wf = true) (w1 : IsRow w a1 len1 cap1 z1) (y1 : len1 * 8 ≤ 140737488351232) :
    Calls Try.prog 8 #[.int .i64 a0, .slice a1 len1 cap1] w fun e w' => e = .returned (.bool true) ∧ Below w.heap.size w w' := by
  clear w0
  have HROW := Lib.hid w1
  clear w1
  obtain ⟨s, hs, s0, s1⟩ := emod_b a0 64 (by omega)
  have HS := Lib.hid hs
  have HW := Lib.hid (wfs s (by omega) (by omega))
  have HI := Lib.hid (isB_of s0 s1)
  have OK := Lib.hid (show okNew 1 1 1 from by unfold okNew; omega)
  clear hs
  go_enter Try.func8, Try.ntmps8
  go_wp2_with (first
    | (go_at_call 13; refine (known_calls _).mono ?_; rintro e' w1 ⟨rfl, hb⟩; have HB1 := Lib.hid hb; clear hb)
    | (go_at_call 14; (with_reducible refine (within_calls a0 64 (by omega) (by omega) _).mono ?_); rintro e' w3 ⟨rfl, rfl⟩; rw [HS.out])
    | (go_at_call 15; refine (new_ok 1 1 1 OK.out _).mono ?_; rintro e' w2 ⟨g, mb, rfl, hg, hmb, hb, hp⟩; have HB2 := Lib.hid (below_step HB1.out hb HB1.out.size); have HP2 := Lib.hid (show PAt w2 g mb 1 1 1 0 M0 from hp); have HMB := Lib.hid (Nat.le_trans HB1.out.size hmb); clear hb hp hg hmb))
  go_loopg [8, 9] 60 (fun kq v8 v9 w' => ∃ (i : Nat) (M : Int → Option Hist) (l : Int) (u : Bool), v8 = .bool u ∧ v9 = .int .i64 (i : Int) ∧ Aside (kq + i = 60) ∧ Aside (PAt w' g mb 1 1 1 i M) ∧ Aside ((M s).getD zeroH = ⟨l, 0, u⟩) ∧ Aside (Below w.heap.size w w'))
  case atStart =>
    exact ⟨0, M0, 0, false, rfl, rfl, rfl, HP2.out, rfl, HB2.out⟩
  case round =>
    obtain ⟨i, M, l, u, rfl, rfl, hk, hp, hm, hb⟩ := hrel
    have HK := Lib.hid hk.out
    have HP := Lib.hid hp.out
    have HM := Lib.hid hm.out
    have HB := Lib.hid hb.out
    clear hk hp hm hb
    have hi : i ≤ 60 := by have := HK.out; omega
    by_cases hlt : (i : Int) < len1
    · have hd : decide ((i : Int) < len1) = true := decide_eq_true hlt
      by_cases hl6 : (i : Int) < 60
      · have hd6 : decide ((i : Int) < 60) = true := decide_eq_true hl6
        obtain ⟨x, v, rfl, hc⟩ := row_at HROW.out HB.out i (by omega)
        obtain ⟨r, hr, r0, r1⟩ := emod_b v 2 (by omega)
        have HR := Lib.hid hr
        clear hr
        have r2 : r = 0 ∨ r = 1 := by omega
        clear r0 r1
        rcases r2 with rfl | rfl
        · cases u with
          | true =>
            have EV := Lib.hid (on_v true true)
            have EN := Lib.hid (on_n i true true)
            have HPA := HP
            have HBA := HB
            go_wp2_with (first
              | (go_at_call 14; (with_reducible refine (within_calls v 2 (by omega) (by omega) _).mono ?_); rintro e' w3 ⟨rfl, rfl⟩; rw [HR.out])
              | (go_at_call 25; refine (bit_calls true _).mono ?_; rintro e' w3 ⟨rfl, rfl⟩)
              | (go_at_call 17; (with_reducible refine (told_calls g mb i 1 1 1 M s i l 0 true true HW.out HI.out _ HPA.out HM.out (by omega) (by omega) (by omega) (by omega) (by omega)).mono ?_); rintro e' w4 ⟨rfl, hc, hp⟩; rw [EN.out] at hp; have HB4 := Lib.hid (HBA.out.trans (hc.below HMB.out HBA.out.size)); have HP4 := Lib.hid hp; clear hc hp; rw [EV.out])
              | (go_at_call 21; (with_reducible refine (up_calls g mb (i + 1) 1 1 1 _ s i 0 true HW.out _ HP4.out (congrArg (Option.getD · zeroH) (upd_same _ _ _))).mono ?_); rintro e' w6 ⟨rfl, hb⟩; have HB6 := Lib.hid (below_step HB4.out hb HB4.out.size); have HP6 := Lib.hid (HP4.out.below hb); clear hb))
            go_roundg (gk - 1)
            case measure => have := HK.out; omega
            case rel => exact ⟨i + 1, _, i, true, rfl, by go_num, by have := HK.out; show _ = _; omega, HP6.out, by rw [upd_same]; rfl, HB6.out⟩
          | false =>
            have EV := Lib.hid (on_v false true)
            have EN := Lib.hid (on_n i false true)
            have HPA := Lib.hid (HP.out.below ((Below.refl _ _).alloc (Nat.le_refl _) (.cells #[.int .i64 2, .int .i64 1] 3)))
            have HBA := Lib.hid (HB.out.alloc HB.out.size (.cells #[.int .i64 2, .int .i64 1] 3))
            go_wp2_with (first
              | (go_at_call 14; (with_reducible refine (within_calls v 2 (by omega) (by omega) _).mono ?_); rintro e' w3 ⟨rfl, rfl⟩; rw [HR.out])
              | (go_at_call 25; refine (bit_calls true _).mono ?_; rintro e' w3 ⟨rfl, rfl⟩)
              | (go_at_call 17; (with_reducible refine (told_calls g mb i 1 1 1 M s i l 0 false true HW.out HI.out _ HPA.out HM.out (by omega) (by omega) (by omega) (by omega) (by omega)).mono ?_); rintro e' w4 ⟨rfl, hc, hp⟩; rw [EN.out] at hp; have HB4 := Lib.hid (HBA.out.trans (hc.below HMB.out HBA.out.size)); have HP4 := Lib.hid hp; clear hc hp; rw [EV.out])
              | (go_at_call 21; (with_reducible refine (up_calls g mb (i + 1) 1 1 1 _ s i 0 true HW.out _ HP4.out (congrArg (Option.getD · zeroH) (upd_same _ _ _))).mono ?_); rintro e' w6 ⟨rfl, hb⟩; have HB6 := Lib.hid (below_step HB4.out hb HB4.out.size); have HP6 := Lib.hid (HP4.out.below hb); clear hb))
            go_roundg (gk - 1)
            case measure => have := HK.out; omega
            case rel => exact ⟨i + 1, _, i, true, rfl, by go_num, by have := HK.out; show _ = _; omega, HP6.out, by rw [upd_same]; rfl, HB6.out⟩
        · cases u with
          | true =>
            have EV := Lib.hid (on_v true false)
            have EN := Lib.hid (on_n i true false)
            have HPA := Lib.hid (HP.out.below ((Below.refl _ _).alloc (Nat.le_refl _) (.cells #[.int .i64 2, .int .i64 1] 3)))
            have HBA := Lib.hid (HB.out.alloc HB.out.size (.cells #[.int .i64 2, .int .i64 1] 3))
            go_wp2_with (first
              | (go_at_call 14; (with_reducible refine (within_calls v 2 (by omega) (by omega) _).mono ?_); rintro e' w3 ⟨rfl, rfl⟩; rw [HR.out])
              | (go_at_call 25; refine (bit_calls false _).mono ?_; rintro e' w3 ⟨rfl, rfl⟩)
              | (go_at_call 17; (with_reducible refine (told_calls g mb i 1 1 1 M s i l 0 true false HW.out HI.out _ HPA.out HM.out (by omega) (by omega) (by omega) (by omega) (by omega)).mono ?_); rintro e' w4 ⟨rfl, hc, hp⟩; rw [EN.out] at hp; have HB4 := Lib.hid (HBA.out.trans (hc.below HMB.out HBA.out.size)); have HP4 := Lib.hid hp; clear hc hp; rw [EV.out])
              | (go_at_call 21; (with_reducible refine (up_calls g mb (i + 1) 1 1 1 _ s i 0 false HW.out _ HP4.out (congrArg (Option.getD · zeroH) (upd_same _ _ _))).mono ?_); rintro e' w6 ⟨rfl, hb⟩; have HB6 := Lib.hid (below_step HB4.out hb HB4.out.size); have HP6 := Lib.hid (HP4.out.below hb); clear hb))
            go_roundg (gk - 1)
            case measure => have := HK.out; omega
            case rel => exact ⟨i + 1, _, i, false, rfl, by go_num, by have := HK.out; show _ = _; omega, HP6.out, by rw [upd_same]; rfl, HB6.out⟩
          | false =>
            have EV := Lib.hid (on_v false false)
            have EN := Lib.hid (on_n i false false)
            have HPA := HP
            have HBA := HB
            go_wp2_with (first
              | (go_at_call 14; (with_reducible refine (within_calls v 2 (by omega) (by omega) _).mono ?_); rintro e' w3 ⟨rfl, rfl⟩; rw [HR.out])
              | (go_at_call 25; refine (bit_calls false _).mono ?_; rintro e' w3 ⟨rfl, rfl⟩)
              | (go_at_call 17; (with_reducible refine (told_calls g mb i 1 1 1 M s i l 0 false false HW.out HI.out _ HPA.out HM.out (by omega) (by omega) (by omega) (by omega) (by omega)).mono ?_); rintro e' w4 ⟨rfl, hc, hp⟩; rw [EN.out] at hp; have HB4 := Lib.hid (HBA.out.trans (hc.below HMB.out HBA.out.size)); have HP4 := Lib.hid hp; clear hc hp; rw [EV.out])
              | (go_at_call 21; (with_reducible refine (up_calls g mb (i + 1) 1 1 1 _ s i 0 false HW.out _ HP4.out (congrArg (Option.getD · zeroH) (upd_same _ _ _))).mono ?_); rintro e' w6 ⟨rfl, hb⟩; have HB6 := Lib.hid (below_step HB4.out hb HB4.out.size); have HP6 := Lib.hid (HP4.out.below hb); clear hb))
            go_roundg (gk - 1)
            case measure => have := HK.out; omega
            case rel => exact ⟨i + 1, _, i, false, rfl, by go_num, by have := HK.out; show _ = _; omega, HP6.out, by rw [upd_same]; rfl, HB6.out⟩
      · have hd6 : decide ((i : Int) < 60) = false := decide_eq_false hl6
        go_wp2
        go_ret
        exact ⟨rfl, HB.out⟩
    · have hd : decide ((i : Int) < len1) = false := decide_eq_false hlt
      go_wp2
      go_ret
      exact ⟨rfl, HB.out⟩
end Go.Proofs.Ytnlnkkblccppdaa.PL
