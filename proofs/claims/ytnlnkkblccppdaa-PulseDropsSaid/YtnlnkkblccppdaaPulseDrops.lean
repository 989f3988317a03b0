/- The walk of PulseDrops. -/
import Derived.Test.YtnlnkkblccppdaaPulseSteady
namespace Go.Proofs.Ytnlnkkblccppdaa.PL
set_option linter.unusedVariables false
set_option linter.unusedSimpArgs false
open Go.RowKit Go.Maps Go.Proofs.Ytnlnkkblccppdaa.PB

theorem st_next' {a b i : Int} (ok : Bool) (now : Int) (ha : 1 ≤ a) (hb : 1 ≤ b) (hi : 0 ≤ i) : next a b now (stRow a ok i) (stUp a ok i) ok = ⟨now, stRow a ok (i + 1), stUp a ok (i + 1)⟩ := by
  have h := st_next (b := b) ok ha hb hi
  unfold next at h ⊢
  split at h
  · rename_i e; rw [if_pos e]; injection h with _ h2 h3; rw [h2, h3]
  · rename_i e; rw [if_neg e]; injection h with _ h2 h3; rw [h2, h3]
theorem st_V10 {x j : Int} : stV (1 + x) true j = if j = x then 1 else 0 := by
  unfold stV
  by_cases h : j = x
  · rw [if_pos ⟨rfl, by omega⟩, if_pos h]
  · rw [if_neg (fun e => h (by have := e.2; omega)), if_neg h]
set_option maxHeartbeats 4000000 in
set_option maxRecDepth 100000 in
theorem PulseDrops_walk (a0 a1 a2 a3 : Int) (w : World) (w0 : (Lit.int .i64 a0).wf = true) (w1 : (Lit.int .i64 a1).wf = true) (w2 : (Lit.int .i64 a2).wf = true) (w3 : (Lit.int .i64 a3).wf = true) :
    Calls Try.prog 9 #[.int .i64 a0, .int .i64 a1, .int .i64 a2, .int .i64 a3] w fun e w' => e = .returned (.bool true) ∧ Below w.heap.size w w' := by
  clear w0 w1 w2 w3
  obtain ⟨x, hx, x0, x1⟩ := emod_b a0 9 (by omega)
  obtain ⟨s, hs, s0, s1⟩ := emod_b a1 64 (by omega)
  obtain ⟨y, hy, y0, y1⟩ := emod_b a2 20 (by omega)
  obtain ⟨z, hz, z0, z1⟩ := emod_b a3 20 (by omega)
  obtain ⟨N, rfl⟩ := Int.eq_ofNat_of_zero_le y0
  obtain ⟨J, rfl⟩ := Int.eq_ofNat_of_zero_le z0
  have HX := Lib.hid hx
  have HS := Lib.hid hs
  have HY := Lib.hid hy
  have HZ := Lib.hid hz
  have HW := Lib.hid (wfs s (by omega) (by omega))
  have HI := Lib.hid (isB_of s0 s1)
  have OK := Lib.hid (show okNew (1 + x) 1 50 from by unfold okNew; omega)
  clear hx hs hz hy
  go_enter Try.func9, Try.ntmps9
  go_wp2_with (first
    | (go_at_call 13; refine (known_calls _).mono ?_; rintro e' w1 ⟨rfl, hb⟩; have HB1 := Lib.hid hb; clear hb)
    | (go_at_call 14; (with_reducible refine (within_calls a0 9 (by omega) (by omega) _).mono ?_); rintro e' w3 ⟨rfl, rfl⟩; rw [HX.out])
    | (go_at_call 14; (with_reducible refine (within_calls a1 64 (by omega) (by omega) _).mono ?_); rintro e' w3 ⟨rfl, rfl⟩; rw [HS.out])
    | (go_at_call 14; (with_reducible refine (within_calls a2 20 (by omega) (by omega) _).mono ?_); rintro e' w3 ⟨rfl, rfl⟩; rw [HY.out])
    | (go_at_call 15; refine (new_ok (1 + x) 1 50 OK.out _).mono ?_; rintro e' w2 ⟨g, mb, rfl, hg, hmb, hb, hp⟩; have HB2 := Lib.hid (below_step HB1.out hb HB1.out.size); have HP2 := Lib.hid (show PAt w2 g mb (1 + x) 1 50 0 M0 from hp); have HMB := Lib.hid (Nat.le_trans HB1.out.size hmb); clear hb hp hg hmb))
  go_loopg [14] N (fun kq v14 w' => ∃ (i : Nat) (M : Int → Option Hist) (l : Int), v14 = .int .i64 (i : Int) ∧ Aside (kq + i = N) ∧ Aside (PAt w' g mb (1 + x) 1 50 i M) ∧ Aside ((M s).getD zeroH = ⟨l, stRow (1 + x) true i, stUp (1 + x) true i⟩) ∧ Aside ((M s).isSome = decide (0 < i)) ∧ Aside (Below w.heap.size w w'))
  case atStart =>
    have e2 : stRow (1 + x) true ((0 : Nat) : Int) = 0 := by unfold stRow; split <;> rfl
    have e3 : stUp (1 + x) true ((0 : Nat) : Int) = false := by unfold stUp; rw [decide_eq_false (by omega)]; simp
    exact ⟨0, M0, 0, rfl, by show _ = _; omega, HP2.out, by rw [e2, e3]; rfl, rfl, HB2.out⟩
  case round =>
    obtain ⟨i, M, l, rfl, hk, hp, hm, hso, hb⟩ := hrel
    have HK := Lib.hid hk.out
    have HP := Lib.hid hp.out
    have HM := Lib.hid hm.out
    have HSO := Lib.hid hso.out
    have HB := Lib.hid hb.out
    clear hk hp hm hb hso
    have rb := stRow_b true (show 1 + x ≤ 10 by omega) (show 0 ≤ (i : Int) by omega)
    have hi : i ≤ N := by have := HK.out; omega
    have HV := Lib.hid (st_verdict (a := 1 + x) (b := 1) (i := i) true (by omega) (by omega) (by omega))
    have HN := Lib.hid (st_next (a := 1 + x) (b := 1) (i := i) true (by omega) (by omega) (by omega))
    by_cases hlt : (i : Int) < N
    · have hd : decide ((i : Int) < N) = true := decide_eq_true hlt
      go_wp2_with (first
        | (go_at_call 17; (with_reducible refine (told_calls g mb i (1 + x) 1 50 M s i l (stRow (1 + x) true i) (stUp (1 + x) true i) true HW.out HI.out _ HP.out HM.out (by omega) rb.1 rb.2 (by omega) (by omega)).mono ?_); rintro e' w4 ⟨rfl, hc, hp⟩; have HC4 := Lib.hid hc; have HP4 := Lib.hid hp; clear hc hp; rw [HV.out]))
      go_roundg (gk - 1)
      case measure => have := HK.out; omega
      case rel => exact ⟨i + 1, _, i, by go_num, by have := HK.out; show _ = _; omega, HP4.out, by rw [upd_same, HN.out, show ((i + 1 : Nat) : Int) = (i : Int) + 1 by omega]; rfl, by rw [upd_same]; show _ = _; simp, HB.out.trans (HC4.out.below HMB.out HB.out.size)⟩
    · have hd : decide ((i : Int) < N) = false := decide_eq_false hlt
      have hiN : i = N := by omega
      subst hiN
      clear HM HV HN rb HK hlt hd hi
      have E1 := Lib.hid (fun t : Int => (show dueB s t 0 50 false = true from by unfold dueB; rw [HI.out]; rfl))
      by_cases hz : i = 0
      all_goals
        have HSO' := Lib.hid (HSO.out.trans (show decide (0 < i) = !decide (i = 0) from by by_cases h : i = 0 <;> simp [h]; omega))
        have hdz : decide (0 < (i : Int)) = !decide (i = 0) := by by_cases h : i = 0 <;> simp [h]; omega
        clear HSO
        first | rw [decide_eq_true hz] at HSO' hdz | rw [decide_eq_false hz] at HSO' hdz
        have hd : decide ((i : Int) < i) = false := decide_eq_false (by omega)
        have HZ0 := Lib.hid hz
        clear hz
        go_wp2_with (first
          | (go_at_call 23; (with_reducible refine (drop_calls g mb i (1 + x) 1 50 M s _ HW.out _ HP.out HSO'.out).mono ?_); rintro e' w4 ⟨rfl, hc, hp⟩; have HB4 := Lib.hid (HB.out.trans (hc.below HMB.out HB.out.size)); have HP4 := Lib.hid hp; clear hc hp)
          | (go_at_call 23; (with_reducible refine (drop_calls g mb i (1 + x) 1 50 _ s false HW.out _ HP4.out (congrArg Option.isSome (upd_same _ _ _))).mono ?_); rintro e' w5 ⟨rfl, hc, hp⟩; have HB5 := Lib.hid (HB4.out.trans (hc.below HMB.out HB4.out.size)); have HP5 := Lib.hid hp; clear hc hp)
          | (go_at_call 21; (with_reducible refine (up_calls g mb i (1 + x) 1 50 _ s 0 0 false HW.out _ HP5.out (congrArg (Option.getD · zeroH) (upd_same _ _ _))).mono ?_); rintro e' w6 ⟨rfl, hb⟩; have HB6 := Lib.hid (below_step HB5.out hb HB5.out.size); have HP6 := Lib.hid (HP5.out.below hb); clear hb)
          | (go_at_call 19; (with_reducible refine (due_calls g mb i (1 + x) 1 50 _ s _ 0 0 false false HW.out _ HP6.out (congrArg (Option.getD · zeroH) (upd_same _ _ _)) (congrArg Option.isSome (upd_same _ _ _)) (by omega) (by omega) (by omega) (by omega)).mono ?_); rintro e' w7 ⟨rfl, hb⟩; have HB7 := Lib.hid (below_step HB6.out hb HB6.out.size); have HP7 := Lib.hid (HP6.out.below hb); clear hb; rw [E1.out])
          | (go_at_call 14; (with_reducible refine (within_calls a3 20 (by omega) (by omega) _).mono ?_); rintro e' w3 ⟨rfl, rfl⟩; rw [HZ.out]))
        all_goals try (exfalso; have := HZ0.out; omega)
        clear HZ0 HB1 HB2 HB4 HB5 HB6 HP HP2 HP4 HP5 HP6 HSO' hdz hd E1
        go_loopg [18] J (fun kq v18 w' => ∃ (j : Nat) (M : Int → Option Hist) (l : Int), v18 = .int .i64 (j : Int) ∧ Aside (kq + j = J) ∧ Aside (PAt w' g mb (1 + x) 1 50 (i + j) M) ∧ Aside ((M s).getD zeroH = ⟨l, stRow (1 + x) true j, stUp (1 + x) true j⟩) ∧ Aside (Below w.heap.size w w'))
        case atStart =>
          have e2 : stRow (1 + x) true ((0 : Nat) : Int) = 0 := by unfold stRow; split <;> rfl
          have e3 : stUp (1 + x) true ((0 : Nat) : Int) = false := by unfold stUp; rw [decide_eq_false (by omega)]; simp
          exact ⟨0, _, 0, rfl, by show _ = _; omega, HP7.out, by rw [e2, e3, upd_same]; rfl, HB7.out⟩
        case round =>
          obtain ⟨j, M, l, rfl, hk, hp, hm, hb⟩ := hrel
          have HK := Lib.hid hk.out
          have HP := Lib.hid hp.out
          have HM := Lib.hid hm.out
          have HB := Lib.hid hb.out
          clear hk hp hm hb
          have rb := stRow_b true (show 1 + x ≤ 10 by omega) (show 0 ≤ (j : Int) by omega)
          have hj : j ≤ J := by have := HK.out; omega
          have HV := Lib.hid (st_verdict (a := 1 + x) (b := 1) (i := j) true (by omega) (by omega) (by omega))
          have HN := Lib.hid (st_next' (a := 1 + x) (b := 1) (i := j) true (100 + j) (by omega) (by omega) (by omega))
          by_cases hlt : (j : Int) < J
          · have hd : decide ((j : Int) < J) = true := decide_eq_true hlt
            obtain ⟨V, hV⟩ : ∃ V, stV (1 + x) true (j : Int) = V := ⟨_, rfl⟩
            have HV' := Lib.hid (HV.out.trans hV)
            have HVX := Lib.hid (hV.symm.trans st_V10)
            have vb : V = 0 ∨ V = 1 := by subst hV; unfold stV; split <;> simp
            clear hV HV
            rcases vb with rfl | rfl
            all_goals
              go_wp2_with (first
                | (go_at_call 17; (with_reducible refine (told_calls g mb (i + j) (1 + x) 1 50 M s (100 + j) l (stRow (1 + x) true j) (stUp (1 + x) true j) true HW.out HI.out _ HP.out HM.out (by omega) rb.1 rb.2 (by omega) (by omega)).mono ?_); rintro e' w4 ⟨rfl, hc, hp⟩; have HC4 := Lib.hid hc; have HP4 := Lib.hid hp; clear hc hp; rw [HV'.out]))
              all_goals try (exfalso; have := HVX.out; split at this <;> omega)
              go_roundg (gk - 1)
              case measure => have := HK.out; omega
              case rel => exact ⟨j + 1, _, _, by go_num, by have := HK.out; show _ = _; omega, HP4.out, by rw [upd_same, HN.out, show ((j + 1 : Nat) : Int) = (j : Int) + 1 by omega]; rfl, HB.out.trans (HC4.out.below HMB.out HB.out.size)⟩
          · have hd : decide ((j : Int) < J) = false := decide_eq_false hlt
            obtain ⟨u, hu⟩ : ∃ u, stUp (1 + x) true (j : Int) = u := ⟨_, rfl⟩
            have HU := Lib.hid (show u = decide (1 + x ≤ (j : Int)) from hu.symm.trans (by unfold stUp; simp))
            have HM' := Lib.hid (show (M s).getD zeroH = ⟨l, stRow (1 + x) true j, u⟩ from by rw [HM.out, hu])
            clear hu HM HV HN
            go_wp2_with (first
              | (go_at_call 21; (with_reducible refine (up_calls g mb (i + j) (1 + x) 1 50 M s l _ _ HW.out _ HP.out HM'.out).mono ?_); rintro e' w4 ⟨rfl, hb⟩; have HB4 := Lib.hid (below_step HB.out hb HB.out.size); clear hb))
            go_ret
            exact ⟨by rw [HU.out]; simp; omega, HB4.out⟩
end Go.Proofs.Ytnlnkkblccppdaa.PL
