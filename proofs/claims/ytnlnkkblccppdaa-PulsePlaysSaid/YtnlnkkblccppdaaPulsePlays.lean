/- The walk of PulsePlays. -/
import Derived.Test.YtnlnkkblccppdaaPulsePlaysA
namespace Go.Proofs.Ytnlnkkblccppdaa.PL
set_option linter.unusedVariables false
set_option linter.unusedSimpArgs false
open Go.RowKit Go.Maps Go.Proofs.Ytnlnkkblccppdaa.PB

set_option maxHeartbeats 8000000 in
set_option maxRecDepth 100000 in
theorem PulsePlays_walk (a0 a1 a2 : Int) (a3 : Option Addr) (len3 cap3 : Nat) (z3 : List Int) (a4 : Int) (w : World) (w0 : (Lit.int .i64 a0).wf = true) (w1 : (Lit.int .i64 a1).wf = true) (w2 : (Lit.int .i64 a2).wf = true) (w3 : IsRow w a3 len3 cap3 z3) (y3 : len3 * 8 ≤ 140737488351232) (w4 : (Lit.int .i64 a4).wf = true) :
    Calls Try.prog 3 #[.int .i64 a0, .int .i64 a1, .int .i64 a2, .slice a3 len3 cap3, .int .i64 a4] w fun e w' => e = .returned (.bool true) ∧ Below w.heap.size w w' := by
  have HROW := Lib.hid w3
  have HRAW := Lib.hid w4
  clear w0 w1 w2 w3 w4
  obtain ⟨x, hx, x0, x1⟩ := emod_b a0 4 (by omega)
  obtain ⟨y, hy, yy0, yy1⟩ := emod_b a1 4 (by omega)
  obtain ⟨z, hz, zz0, zz1⟩ := emod_b a2 9 (by omega)
  have HX := Lib.hid hx
  have HY := Lib.hid hy
  have HZ := Lib.hid hz
  have OK := Lib.hid (show okNew (1 + x) (1 + y) (1 + z) from by unfold okNew; omega)
  clear hx hy hz
  go_enter Try.func3, Try.ntmps3
  go_wp2_with (first
    | (go_at_call 13; refine (known_calls _).mono ?_; rintro e' w1 ⟨rfl, hb⟩; have HB1 := Lib.hid hb; clear hb)
    | (go_at_call 14; (with_reducible refine (within_calls a0 4 (by omega) (by omega) _).mono ?_); rintro e' w3 ⟨rfl, rfl⟩; rw [HX.out])
    | (go_at_call 14; (with_reducible refine (within_calls a1 4 (by omega) (by omega) _).mono ?_); rintro e' w3 ⟨rfl, rfl⟩; rw [HY.out])
    | (go_at_call 14; (with_reducible refine (within_calls a2 9 (by omega) (by omega) _).mono ?_); rintro e' w3 ⟨rfl, rfl⟩; rw [HZ.out])
    | (go_at_call 15; refine (new_ok (1 + x) (1 + y) (1 + z) OK.out _).mono ?_; rintro e' w2 ⟨g, mb, rfl, hg, hmb, hb, hp⟩; have HB2 := Lib.hid (below_step HB1.out hb HB1.out.size); have HP2 := Lib.hid (show PAt w2 g mb (1 + x) (1 + y) (1 + z) 0 M0 from hp); have HMB := Lib.hid (Nat.le_trans HB1.out.size hmb); clear hb hp hg hmb)
    | (go_at_call 16; refine (rnew_ok (1 + x) (1 + y) (1 + z) OK.out _).mono ?_; rintro e' w3 ⟨xr, rfl, hxr, hb, hr⟩; have HB3 := Lib.hid (below_step HB2.out hb HB2.out.size); have HP3 := Lib.hid (HP2.out.below hb); have HXN := Lib.hid (show g ≠ xr ∧ mb ≠ xr ∧ w.heap.size ≤ xr from by have := HP2.out.lt; have := HB2.out.size; omega); have HR3 := Lib.hid (show RAt w3 xr (1 + x) (1 + y) (1 + z) (fun _ => zeroS) from hr); clear hb hr hxr))
  clear HB1 HB2 HP2
  go_loopg [18, 19] 120 (fun kq v18 v19 w' => ∃ (i : Nat) (n : Nat) (now : Int) (M : Int → Option Hist) (L : Nat → St), v18 = .int .i64 now ∧ v19 = .int .i64 (i : Int) ∧ Aside (kq + i = 120) ∧ Aside (n ≤ i) ∧ Aside (0 ≤ now ∧ now ≤ 5 * i) ∧ Aside (PAt w' g mb (1 + x) (1 + y) (1 + z) n M) ∧ Aside (RAt w' xr (1 + x) (1 + y) (1 + z) L) ∧ Aside (Rel M L now) ∧ Aside (Below w.heap.size w w'))
  case atStart =>
    exact ⟨0, 0, 0, M0, fun _ => zeroS, rfl, rfl, rfl, Nat.le_refl _, by show 0 ≤ (0 : Int) ∧ _; omega, HP3.out, HR3.out, Rel.start, HB3.out⟩
  case round =>
    obtain ⟨i, n, now, M, L, rfl, rfl, hk, hn, hnow, hp, hr, hrl, hb⟩ := hrel
    have HK := Lib.hid hk.out
    have HN := Lib.hid hn.out
    obtain ⟨n0, n1⟩ := hnow.out
    have HP := Lib.hid hp.out
    have HR := Lib.hid hr.out
    have HREL := Lib.hid hrl.out
    have HB := Lib.hid hb.out
    clear hk hn hnow hp hr hrl hb
    have hi : i ≤ 120 := by have := HK.out; omega
    by_cases hlt : (i : Int) < len3
    · have hd : decide ((i : Int) < len3) = true := decide_eq_true hlt
      by_cases hl6 : (i : Int) < 120
      · have hd6 : decide ((i : Int) < 120) = true := decide_eq_true hl6
        obtain ⟨q, v, rfl, hc⟩ := row_at HROW.out HB.out i (by omega)
        obtain ⟨r, hr, r0, r1⟩ := emod_b v 1099511627776 (by omega)
        have HV := Lib.hid hr
        clear hr
        go_upto_if 79 with (first
          | (go_at_call 14; (with_reducible refine (within_calls v 1099511627776 (by omega) (by omega) _).mono ?_); rintro e' w3 ⟨rfl, rfl⟩; rw [HV.out]))
        clear hc
        go_cut [21] (fun s21 wx => ∃ s : Int, s21 = .int .i64 s ∧ Aside ((Lit.int .i64 s).wf = true) ∧ Aside (Below wr.heap.size wr wx))
        case first =>
          by_cases h31 : r / 48 % 31 = 0
          · obtain ⟨j, hj, j0, j1⟩ := emod_b (r / 48) 4 (by omega)
            have hj4 : j = 0 ∨ j = 1 ∨ j = 2 ∨ j = 3 := by omega
            clear j0 j1
            rcases hj4 with rfl | rfl | rfl | rfl
            all_goals
              go_wp2_with fail
              go_meet
              exact ⟨_, rfl, (by first | exact HRAW.out | exact wfs _ (by omega) (by omega)), (Below.refl _ _).alloc (Nat.le_refl _) _⟩
          · go_wp2_with fail
            go_meet
            exact ⟨_, rfl, wfs _ (by omega) (by omega), Below.refl _ _⟩
        case rest =>
          obtain ⟨s, rfl, hs, hbc⟩ := hcut
          have HW := Lib.hid hs.out
          have HBC := Lib.hid hbc.out
          clear hs hbc
          have HB2 := Lib.hid (below_step HB.out HBC.out HB.out.size)
          have HP2 := Lib.hid (HP.out.below HBC.out)
          have HR2 := Lib.hid (HR.out.same (HBC.out.block xr HR.out.lt))
          obtain ⟨d, hdd, d0, d1⟩ := emod_b (r / 1500) 6 (by omega)
          have HREL2 := Lib.hid (HREL.out.later (show now ≤ now + d by omega))
          go_upto_block 2 with fail
          go_cut [22, 93] (fun s22 s93 wx => s22 = .bool true ∧ ∃ (n' : Nat) (M' : Int → Option Hist) (L' : Nat → St), Aside (n' ≤ n + 1) ∧ Aside (PAt wx g mb (1 + x) (1 + y) (1 + z) n' M') ∧ Aside (RAt wx xr (1 + x) (1 + y) (1 + z) L') ∧ Aside (Rel M' L' (now + d)) ∧ Aside (Below w.heap.size w wx))
          case first =>
            obtain ⟨m, hm, m0, m1⟩ := emod_b r 16 (by omega)
            have hg : m < 10 ∨ (10 ≤ m ∧ m < 13) ∨ (13 ≤ m ∧ m < 15) ∨ m = 15 := by omega
            have hnb := HN.out
            cases hB : isB s with
            | true =>
              obtain ⟨k, rfl, hk64⟩ := isB_in hB
              have HI := Lib.hid hB
              obtain ⟨l, ro, u, t, hm1, hl1, ht1, q0, q1, l0, l1⟩ := HREL2.out.1 k hk64
              have HM := Lib.hid hm1
              have HL := Lib.hid hl1
              have HT := Lib.hid ht1
              clear hm1 hl1 ht1 hB
              rcases hg with hg | hg | hg | hg
              · -- told
                have hh : m = 0 ∨ m = 1 ∨ m = 2 ∨ m = 3 ∨ m = 4 ∨ m = 5 ∨ m = 6 ∨ m = 7 ∨ m = 8 ∨ m = 9 := by omega
                clear hg m0 m1
                rcases hh with rfl | rfl | rfl | rfl | rfl | rfl | rfl | rfl | rfl | rfl
                all_goals
                  go_wp2_with (first
                    | (go_at_call 17; (with_reducible refine (told_calls g mb n (1 + x) (1 + y) (1 + z) M k (now + d) l ro u _ HW.out HI.out _ HP2.out HM.out (by omega) q0 (by omega) (by omega) (by omega)).mono ?_); rintro e' w4 ⟨rfl, hc, hp⟩; have HB4 := Lib.hid (HB2.out.trans (hc.below HMB.out HB2.out.size)); have HP4 := Lib.hid hp; have HR4 := Lib.hid (HR2.out.same (hc.block xr HR2.out.lt (fun e => HXN.out.2.1 e.symm))); clear hc hp)
                    | (go_at_call 18; (with_reducible refine (rtold_calls xr (1 + x) (1 + y) (1 + z) L k hk64 t u _ l ro (now + d) _ HR4.out HL.out q0 (by omega) (by omega) (by omega)).mono ?_); rintro e' w5 ⟨rfl, hc, hr⟩; have HB5 := Lib.hid (HB4.out.trans (hc.below HXN.out.2.2 HB4.out.size)); have HP5 := Lib.hid (HP4.out.ch hc HXN.out.1 HXN.out.2.1); have HR5 := Lib.hid hr; clear hc hr))
                  go_meet
                  exact ⟨by simp, n + 1, _, _, Nat.le_refl _, HP5.out, HR5.out, HREL2.out.told hk64 (by omega) q0 q1 (by omega) (by omega), HB5.out⟩
              · -- due
                have hh : m = 10 ∨ m = 11 ∨ m = 12 := by omega
                clear hg m0 m1
                rcases hh with rfl | rfl | rfl
                all_goals
                  go_wp2_with (first
                    | (go_at_call 19; (with_reducible refine (due_calls g mb n (1 + x) (1 + y) (1 + z) M k (now + d) l ro u t HW.out _ HP2.out HM.out HT.out (by omega) (by omega) l0 (by omega)).mono ?_); rintro e' w4 ⟨rfl, hb⟩; have HB4 := Lib.hid (below_step HB2.out hb HB2.out.size); have HP4 := Lib.hid (HP2.out.below hb); have HR4 := Lib.hid (HR2.out.same (hb.block xr HR2.out.lt)); clear hb; rw [due_same t HI.out])
                    | (go_at_call 20; (with_reducible refine (rdue_calls xr (1 + x) (1 + y) (1 + z) L k hk64 t u l ro (now + d) _ HR4.out HL.out (by omega) (by omega) l0 (by omega)).mono ?_); rintro e' w5 ⟨rfl, hb⟩; have HB5 := Lib.hid (below_step HB4.out hb HB4.out.size); have HP5 := Lib.hid (HP4.out.below hb); have HR5 := Lib.hid (HR4.out.same (hb.block xr HR4.out.lt)); clear hb))
                  go_meet
                  exact ⟨by simp, n, M, L, Nat.le_succ _, HP5.out, HR5.out, HREL2.out, HB5.out⟩
              · -- up
                have hh : m = 13 ∨ m = 14 := by omega
                clear hg m0 m1
                rcases hh with rfl | rfl
                all_goals
                  go_wp2_with (first
                    | (go_at_call 21; (with_reducible refine (up_calls g mb n (1 + x) (1 + y) (1 + z) M k l ro u HW.out _ HP2.out HM.out).mono ?_); rintro e' w4 ⟨rfl, hb⟩; have HB4 := Lib.hid (below_step HB2.out hb HB2.out.size); have HP4 := Lib.hid (HP2.out.below hb); have HR4 := Lib.hid (HR2.out.same (hb.block xr HR2.out.lt)); clear hb)
                    | (go_at_call 22; (with_reducible refine (rup_calls xr (1 + x) (1 + y) (1 + z) L k hk64 t u l ro _ HR4.out HL.out).mono ?_); rintro e' w5 ⟨rfl, rfl⟩))
                  go_meet
                  exact ⟨by simp, n, M, L, Nat.le_succ _, HP4.out, HR4.out, HREL2.out, HB4.out⟩
              · -- drop
                have hh : m = 15 := by omega
                clear hg m0 m1
                rcases hh with rfl
                all_goals
                  go_wp2_with (first
                    | (go_at_call 23; (with_reducible refine (drop_calls g mb n (1 + x) (1 + y) (1 + z) M k t HW.out _ HP2.out HT.out).mono ?_); rintro e' w4 ⟨rfl, hc, hp⟩; have HB4 := Lib.hid (HB2.out.trans (hc.below HMB.out HB2.out.size)); have HP4 := Lib.hid hp; have HR4 := Lib.hid (HR2.out.same (hc.block xr HR2.out.lt (fun e => HXN.out.2.1 e.symm))); clear hc hp)
                    | (go_at_call 24; (with_reducible refine (rdrop_calls xr (1 + x) (1 + y) (1 + z) L k hk64 t u l ro _ HR4.out HL.out).mono ?_); rintro e' w5 ⟨rfl, hc, hr⟩; have HB5 := Lib.hid (HB4.out.trans (hc.below HXN.out.2.2 HB4.out.size)); have HP5 := Lib.hid (HP4.out.ch hc HXN.out.1 HXN.out.2.1); have HR5 := Lib.hid hr; clear hc hr))
                  go_meet
                  exact ⟨by simp, n, _, _, Nat.le_succ _, HP5.out, HR5.out, HREL2.out.drop hk64 (by omega) HM.out HL.out HT.out, HB5.out⟩
            | false =>
              have HI := Lib.hid hB
              have hms := HREL2.out.2 s hB
              have HM := Lib.hid (show (M s).getD zeroH = ⟨0, 0, false⟩ from by rw [hms]; rfl)
              have HT := Lib.hid (show (M s).isSome = false from by rw [hms]; rfl)
              clear hms hB
              rcases hg with hg | hg | hg | hg
              · -- told
                have hh : m = 0 ∨ m = 1 ∨ m = 2 ∨ m = 3 ∨ m = 4 ∨ m = 5 ∨ m = 6 ∨ m = 7 ∨ m = 8 ∨ m = 9 := by omega
                clear hg m0 m1
                rcases hh with rfl | rfl | rfl | rfl | rfl | rfl | rfl | rfl | rfl | rfl
                all_goals
                  go_wp2_with (first
                    | (go_at_call 17; (with_reducible refine (told_none g s (now + d) _ _ HI.out).mono ?_); rintro e' w4 ⟨rfl, rfl⟩)
                    | (go_at_call 18; (with_reducible refine (rtold_none xr s (now + d) _ _ HI.out).mono ?_); rintro e' w5 ⟨rfl, rfl⟩))
                  go_meet
                  exact ⟨by simp, n, M, L, Nat.le_succ _, HP2.out, HR2.out, HREL2.out, HB2.out⟩
              · -- due
                have hh : m = 10 ∨ m = 11 ∨ m = 12 := by omega
                clear hg m0 m1
                rcases hh with rfl | rfl | rfl
                all_goals
                  go_wp2_with (first
                    | (go_at_call 19; (with_reducible refine (due_calls g mb n (1 + x) (1 + y) (1 + z) M s (now + d) 0 0 false false HW.out _ HP2.out HM.out HT.out (by omega) (by omega) (by omega) (by omega)).mono ?_); rintro e' w4 ⟨rfl, hb⟩; have HB4 := Lib.hid (below_step HB2.out hb HB2.out.size); have HP4 := Lib.hid (HP2.out.below hb); have HR4 := Lib.hid (HR2.out.same (hb.block xr HR2.out.lt)); clear hb; rw [due_out false HI.out])
                    | (go_at_call 20; (with_reducible refine (rdue_none xr s (now + d) HI.out _).mono ?_); rintro e' w5 ⟨rfl, hb⟩; have HB5 := Lib.hid (below_step HB4.out hb HB4.out.size); have HP5 := Lib.hid (HP4.out.below hb); have HR5 := Lib.hid (HR4.out.same (hb.block xr HR4.out.lt)); clear hb))
                  go_meet
                  exact ⟨by simp, n, M, L, Nat.le_succ _, HP5.out, HR5.out, HREL2.out, HB5.out⟩
              · -- up
                have hh : m = 13 ∨ m = 14 := by omega
                clear hg m0 m1
                rcases hh with rfl | rfl
                all_goals
                  go_wp2_with (first
                    | (go_at_call 21; (with_reducible refine (up_calls g mb n (1 + x) (1 + y) (1 + z) M s 0 0 false HW.out _ HP2.out HM.out).mono ?_); rintro e' w4 ⟨rfl, hb⟩; have HB4 := Lib.hid (below_step HB2.out hb HB2.out.size); have HP4 := Lib.hid (HP2.out.below hb); have HR4 := Lib.hid (HR2.out.same (hb.block xr HR2.out.lt)); clear hb)
                    | (go_at_call 22; (with_reducible refine (rup_none xr s HI.out _).mono ?_); rintro e' w5 ⟨rfl, rfl⟩))
                  go_meet
                  exact ⟨by simp, n, M, L, Nat.le_succ _, HP4.out, HR4.out, HREL2.out, HB4.out⟩
              · -- drop
                have hh : m = 15 := by omega
                clear hg m0 m1
                rcases hh with rfl
                all_goals
                  go_wp2_with (first
                    | (go_at_call 23; (with_reducible refine (drop_calls g mb n (1 + x) (1 + y) (1 + z) M s false HW.out _ HP2.out HT.out).mono ?_); rintro e' w4 ⟨rfl, hc, hp⟩; have HB4 := Lib.hid (HB2.out.trans (hc.below HMB.out HB2.out.size)); have HP4 := Lib.hid hp; have HR4 := Lib.hid (HR2.out.same (hc.block xr HR2.out.lt (fun e => HXN.out.2.1 e.symm))); clear hc hp)
                    | (go_at_call 24; (with_reducible refine (rdrop_none xr s _ HI.out).mono ?_); rintro e' w5 ⟨rfl, hb⟩; have HB5 := Lib.hid (below_step HB4.out hb HB4.out.size); have HP5 := Lib.hid (HP4.out.below hb); have HR5 := Lib.hid (HR4.out.same (hb.block xr HR4.out.lt)); clear hb))
                  go_meet
                  exact ⟨by simp, n, _, L, Nat.le_succ _, HP5.out, HR5.out, HREL2.out.drop_out HI.out, HB5.out⟩
          case rest =>
            obtain ⟨rfl, n', M', L', hn', hp, hr, hrl, hb⟩ := hcut
            have HN' := Lib.hid hn'.out
            have HP3 := Lib.hid hp.out
            have HR3 := Lib.hid hr.out
            have HREL3 := Lib.hid hrl.out
            have HB3 := Lib.hid hb.out
            clear hn' hp hr hrl hb
            go_wp2_with fail
            go_roundg (gk - 1)
            case measure => have := HK.out; omega
            case rel => exact ⟨i + 1, n', _, M', L', rfl, by go_num, by have := HK.out; show _ = _; omega, by have := HN.out; have := HN'.out; show _ ≤ _; omega, by show _ ∧ _; omega, HP3.out, HR3.out, HREL3.out, HB3.out⟩
      · have hd6 : decide ((i : Int) < 120) = false := decide_eq_false hl6
        go_wp2
        go_ret
        exact ⟨rfl, HB.out⟩
    · have hd : decide ((i : Int) < len3) = false := decide_eq_false hlt
      go_wp2
      go_ret
      exact ⟨rfl, HB.out⟩
end Go.Proofs.Ytnlnkkblccppdaa.PL
