/- The walk of PulseMixed. -/
import Derived.Test.YtnlnkkblccppdaaPulseK
namespace Go.Proofs.Ytnlnkkblccppdaa.PL
set_option linter.unusedVariables false
set_option linter.unusedSimpArgs false
open Go.RowKit Go.Maps Go.Proofs.Ytnlnkkblccppdaa.PB

theorem mx_even {a : Int} (ha : 2 ≤ a) : verdict a 1 0 false true = 0 := by
  unfold verdict rowOf; simp; omega
theorem mx_odd {a : Int} (ha : 2 ≤ a) : verdict a 1 1 false false = 0 := by
  unfold verdict rowOf; simp; omega
theorem mx_even' {a : Int} (now : Int) (ha : 2 ≤ a) : next a 1 now 0 false true = ⟨now, 1, false⟩ := by
  unfold next; rw [mx_even ha]; simp [rowOf]
theorem mx_odd' {a : Int} (now : Int) (ha : 2 ≤ a) : next a 1 now 1 false false = ⟨now, 0, false⟩ := by
  unfold next; rw [mx_odd ha]; simp [rowOf]
set_option maxHeartbeats 4000000 in
set_option maxRecDepth 100000 in
theorem PulseMixed_walk (a0 a1 a2 : Int) (w : World) (w0 : (Lit.int .i64 a0).wf = true) (w1 : (Lit.int .i64 a1).wf = true) (w2 : (Lit.int .i64 a2).wf = true) :
    Calls Try.prog 12 #[.int .i64 a0, .int .i64 a1, .int .i64 a2] w fun e w' => e = .returned (.bool true) ∧ Below w.heap.size w w' := by
  clear w0 w1 w2
  obtain ⟨x, hx, x0, x1⟩ := emod_b a0 9 (by omega)
  obtain ⟨s, hs, s0, s1⟩ := emod_b a1 64 (by omega)
  obtain ⟨z, hz, z0, z1⟩ := emod_b a2 60 (by omega)
  obtain ⟨N, rfl⟩ := Int.eq_ofNat_of_zero_le z0
  obtain ⟨k, rfl⟩ := Int.eq_ofNat_of_zero_le s0
  have hk64 : k < 64 := by omega
  have HX := Lib.hid hx
  have HS := Lib.hid hs
  have HZ := Lib.hid hz
  have HW := Lib.hid (wfs k (by omega) (by omega))
  have HI := Lib.hid (isB_of s0 s1)
  have OK := Lib.hid (show okNew (2 + x) 1 1 from by unfold okNew; omega)
  clear hx hs hz
  go_enter Try.func12, Try.ntmps12
  go_wp2_with (first
    | (go_at_call 13; refine (known_calls _).mono ?_; rintro e' w1 ⟨rfl, hb⟩; have HB1 := Lib.hid hb; clear hb)
    | (go_at_call 14; (with_reducible refine (within_calls a0 9 (by omega) (by omega) _).mono ?_); rintro e' w3 ⟨rfl, rfl⟩; rw [HX.out])
    | (go_at_call 14; (with_reducible refine (within_calls a1 64 (by omega) (by omega) _).mono ?_); rintro e' w3 ⟨rfl, rfl⟩; rw [HS.out])
    | (go_at_call 15; refine (new_ok (2 + x) 1 1 OK.out _).mono ?_; rintro e' w2 ⟨g, mb, rfl, hg, hmb, hb, hp⟩; have HB2 := Lib.hid (below_step HB1.out hb HB1.out.size); have HP2 := Lib.hid (show PAt w2 g mb (2 + x) 1 1 0 M0 from hp); have HMB := Lib.hid (Nat.le_trans HB1.out.size hmb); clear hb hp hg hmb)
    | (go_at_call 16; refine (rnew_ok (2 + x) 1 1 OK.out _).mono ?_; rintro e' w3 ⟨xr, rfl, hxr, hb, hr⟩; have HB3 := Lib.hid (below_step HB2.out hb HB2.out.size); have HP3 := Lib.hid (HP2.out.below hb); have HXN := Lib.hid (show g ≠ xr ∧ mb ≠ xr ∧ w.heap.size ≤ xr from by have := HP2.out.lt; have := HB2.out.size; omega); have HR3 := Lib.hid (show RAt w3 xr (2 + x) 1 1 (fun _ => zeroS) from hr); clear hb hr hxr))
  go_loopg [13] N (fun kq v13 w' => ∃ (i : Nat) (M : Int → Option Hist) (L : Nat → St) (l c : Int) (t : Bool), v13 = .int .i64 (i : Int) ∧ Aside (kq + i = N) ∧ Aside (PAt w' g mb (2 + x) 1 1 i M) ∧ Aside (RAt w' xr (2 + x) 1 1 L) ∧ Aside ((M k).getD zeroH = ⟨l, (i : Int) % 2, false⟩) ∧ Aside (L k = ⟨t, false, c, (i : Int) % 2⟩) ∧ Aside (Below w.heap.size w w'))
  case atStart => exact ⟨0, M0, fun _ => zeroS, 0, 0, false, rfl, by show _ = _; omega, HP3.out, HR3.out, rfl, rfl, HB3.out⟩
  case round =>
    obtain ⟨i, M, L, l, c, t, rfl, hk, hp, hr, hm, hl, hb⟩ := hrel
    have HK := Lib.hid hk.out
    have HP := Lib.hid hp.out
    have HR := Lib.hid hr.out
    have HB := Lib.hid hb.out
    have hi : i ≤ N := by have := HK.out; omega
    have hpar : (i : Int) % 2 = 0 ∨ (i : Int) % 2 = 1 := by omega
    rcases hpar with hpar | hpar
    · have HM := Lib.hid (hpar ▸ hm.out)
      have HL := Lib.hid (hpar ▸ hl.out)
      have HPAR := Lib.hid hpar
      have EV := Lib.hid (mx_even (a := 2 + x) (by omega))
      have EN := Lib.hid (mx_even' (a := 2 + x) i (by omega))
      clear hk hp hr hm hl hb
      by_cases hlt : (i : Int) < N
      · have hd : decide ((i : Int) < N) = true := decide_eq_true hlt
        go_wp2_with (first
          | (go_at_call 14; (with_reducible refine (within_calls a2 60 (by omega) (by omega) _).mono ?_); rintro e' w3 ⟨rfl, rfl⟩; rw [HZ.out])
          | (go_at_call 17; (with_reducible refine (told_calls g mb i (2 + x) 1 1 M k i l 0 false true HW.out HI.out _ HP.out HM.out (by omega) (by omega) (by omega) (by omega) (by omega)).mono ?_); rintro e' w4 ⟨rfl, hc, hp⟩; rw [EN.out] at hp; have HC4 := Lib.hid hc; have HP4 := Lib.hid hp; have HB4 := Lib.hid (HB.out.trans (hc.below HMB.out HB.out.size)); have HR4 := Lib.hid (HR.out.same (hc.block xr HR.out.lt (fun e => HXN.out.2.1 e.symm))); clear hc hp; rw [EV.out])
          | (go_at_call 18; (with_reducible refine (rtold_calls xr (2 + x) 1 1 L k hk64 t false true c 0 i _ HR4.out HL.out (by omega) (by omega) (by omega) (by omega)).mono ?_); rintro e' w5 ⟨rfl, hc, hr⟩; have HB5 := Lib.hid (HB4.out.trans (hc.below HXN.out.2.2 HB4.out.size)); have HP5 := Lib.hid (HP4.out.ch hc HXN.out.1 HXN.out.2.1); have HR5 := Lib.hid hr; clear hc hr; rw [EV.out])
          | (go_at_call 21; (with_reducible refine (up_calls g mb (i + 1) (2 + x) 1 1 _ k i 1 false HW.out _ HP5.out (congrArg (Option.getD · zeroH) (upd_same _ _ _))).mono ?_); rintro e' w6 ⟨rfl, hb⟩; have HB6 := Lib.hid (below_step HB5.out hb HB5.out.size); have HP6 := Lib.hid (HP5.out.below hb); have HR6 := Lib.hid (HR5.out.same (hb.block xr HR5.out.lt)); clear hb))
        go_roundg (gk - 1)
        case measure => have := HK.out; omega
        case rel =>
          have e1 : ((i + 1 : Nat) : Int) % 2 = 1 := by have := HPAR.out; omega
          exact ⟨i + 1, _, _, i, i, true, by go_num, by have := HK.out; show _ = _; omega, HP6.out, HR6.out, by rw [upd_same, e1]; rfl, by rw [e1]; show updS L k _ k = _; unfold updS; rw [if_pos rfl]; unfold nextS; rw [EN.out], HB6.out⟩
      · have hd : decide ((i : Int) < N) = false := decide_eq_false hlt
        go_wp2_with (first
          | (go_at_call 14; (with_reducible refine (within_calls a2 60 (by omega) (by omega) _).mono ?_); rintro e' w3 ⟨rfl, rfl⟩; rw [HZ.out]))
        go_ret
        exact ⟨rfl, HB.out⟩
    · have HM := Lib.hid (hpar ▸ hm.out)
      have HL := Lib.hid (hpar ▸ hl.out)
      have HPAR := Lib.hid hpar
      have EV := Lib.hid (mx_odd (a := 2 + x) (by omega))
      have EN := Lib.hid (mx_odd' (a := 2 + x) i (by omega))
      clear hk hp hr hm hl hb
      by_cases hlt : (i : Int) < N
      · have hd : decide ((i : Int) < N) = true := decide_eq_true hlt
        go_wp2_with (first
          | (go_at_call 14; (with_reducible refine (within_calls a2 60 (by omega) (by omega) _).mono ?_); rintro e' w3 ⟨rfl, rfl⟩; rw [HZ.out])
          | (go_at_call 17; (with_reducible refine (told_calls g mb i (2 + x) 1 1 M k i l 1 false false HW.out HI.out _ HP.out HM.out (by omega) (by omega) (by omega) (by omega) (by omega)).mono ?_); rintro e' w4 ⟨rfl, hc, hp⟩; rw [EN.out] at hp; have HC4 := Lib.hid hc; have HP4 := Lib.hid hp; have HB4 := Lib.hid (HB.out.trans (hc.below HMB.out HB.out.size)); have HR4 := Lib.hid (HR.out.same (hc.block xr HR.out.lt (fun e => HXN.out.2.1 e.symm))); clear hc hp; rw [EV.out])
          | (go_at_call 18; (with_reducible refine (rtold_calls xr (2 + x) 1 1 L k hk64 t false false c 1 i _ HR4.out HL.out (by omega) (by omega) (by omega) (by omega)).mono ?_); rintro e' w5 ⟨rfl, hc, hr⟩; have HB5 := Lib.hid (HB4.out.trans (hc.below HXN.out.2.2 HB4.out.size)); have HP5 := Lib.hid (HP4.out.ch hc HXN.out.1 HXN.out.2.1); have HR5 := Lib.hid hr; clear hc hr; rw [EV.out])
          | (go_at_call 21; (with_reducible refine (up_calls g mb (i + 1) (2 + x) 1 1 _ k i 0 false HW.out _ HP5.out (congrArg (Option.getD · zeroH) (upd_same _ _ _))).mono ?_); rintro e' w6 ⟨rfl, hb⟩; have HB6 := Lib.hid (below_step HB5.out hb HB5.out.size); have HP6 := Lib.hid (HP5.out.below hb); have HR6 := Lib.hid (HR5.out.same (hb.block xr HR5.out.lt)); clear hb))
        go_roundg (gk - 1)
        case measure => have := HK.out; omega
        case rel =>
          have e1 : ((i + 1 : Nat) : Int) % 2 = 0 := by have := HPAR.out; omega
          exact ⟨i + 1, _, _, i, i, true, by go_num, by have := HK.out; show _ = _; omega, HP6.out, HR6.out, by rw [upd_same, e1]; rfl, by rw [e1]; show updS L k _ k = _; unfold updS; rw [if_pos rfl]; unfold nextS; rw [EN.out], HB6.out⟩
      · have hd : decide ((i : Int) < N) = false := decide_eq_false hlt
        go_wp2_with (first
          | (go_at_call 14; (with_reducible refine (within_calls a2 60 (by omega) (by omega) _).mono ?_); rintro e' w3 ⟨rfl, rfl⟩; rw [HZ.out]))
        go_ret
        exact ⟨rfl, HB.out⟩
end Go.Proofs.Ytnlnkkblccppdaa.PL
