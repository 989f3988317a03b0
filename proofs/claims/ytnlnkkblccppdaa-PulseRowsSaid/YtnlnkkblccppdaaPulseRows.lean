/- The walk of PulseRows. -/
import Derived.Test.YtnlnkkblccppdaaPulseL
namespace Go.Proofs.Ytnlnkkblccppdaa.PL
set_option linter.unusedVariables false
set_option linter.unusedSimpArgs false
open Go.RowKit Go.Maps Go.Proofs.Ytnlnkkblccppdaa.PB

set_option maxHeartbeats 4000000 in
set_option maxRecDepth 100000 in
theorem PulseRows_walk (a0 a1 a2 : Int) (a3 : Option Addr) (len3 cap3 : Nat) (z3 : List Int) (w : World) (w0 : (Lit.int .i64 a0).wf = true) (w1 : (Lit.int .i64 a1).wf = true) (w2 : (Lit.int .i64 a2).wf = true) (w3 : IsRow w a3 len3 cap3 z3) (y3 : len3 * 8 ≤ 140737488351232) :
    Calls Try.prog 5 #[.int .i64 a0, .int .i64 a1, .int .i64 a2, .slice a3 len3 cap3] w fun e w' => e = .returned (.bool true) ∧ Below w.heap.size w w' := by
  clear w0 w1 w2
  have HROW := Lib.hid w3
  clear w3
  obtain ⟨x, hx, x0, x1⟩ := emod_b a0 10 (by omega)
  obtain ⟨y, hy, y0, y1⟩ := emod_b a1 10 (by omega)
  obtain ⟨s, hs, s0, s1⟩ := emod_b a2 64 (by omega)
  have HX := Lib.hid hx
  have HY := Lib.hid hy
  have HS := Lib.hid hs
  have HW := Lib.hid (wfs s (by omega) (by omega))
  have HI := Lib.hid (isB_of s0 s1)
  have OK := Lib.hid (show okNew (1 + x) (1 + y) 1 from by unfold okNew; omega)
  clear hs hx hy
  go_enter Try.func5, Try.ntmps5
  go_wp2_with (first
    | (go_at_call 13; refine (known_calls _).mono ?_; rintro e' w1 ⟨rfl, hb⟩; have HB1 := Lib.hid hb; clear hb)
    | (go_at_call 14; (with_reducible refine (within_calls a0 10 (by omega) (by omega) _).mono ?_); rintro e' w3 ⟨rfl, rfl⟩; rw [HX.out])
    | (go_at_call 14; (with_reducible refine (within_calls a1 10 (by omega) (by omega) _).mono ?_); rintro e' w3 ⟨rfl, rfl⟩; rw [HY.out])
    | (go_at_call 14; (with_reducible refine (within_calls a2 64 (by omega) (by omega) _).mono ?_); rintro e' w3 ⟨rfl, rfl⟩; rw [HS.out])
    | (go_at_call 15; refine (new_ok (1 + x) (1 + y) 1 OK.out _).mono ?_; rintro e' w2 ⟨g, mb, rfl, hg, hmb, hb, hp⟩; have HB2 := Lib.hid (below_step HB1.out hb HB1.out.size); have HP2 := Lib.hid (show PAt w2 g mb (1 + x) (1 + y) 1 0 M0 from hp); have HMB := Lib.hid (Nat.le_trans HB1.out.size hmb); clear hb hp hg hmb))
  go_loopg [14, 15, 16] 100 (fun kq v14 v15 v16 w' => ∃ (i : Nat) (M : Int → Option Hist) (l ro : Int) (u : Bool), v14 = .bool u ∧ v15 = .int .i64 ro ∧ v16 = .int .i64 (i : Int) ∧ Aside (kq + i = 100) ∧ Aside (PAt w' g mb (1 + x) (1 + y) 1 i M) ∧ Aside ((M s).getD zeroH = ⟨l, ro, u⟩) ∧ Aside (0 ≤ ro ∧ ro < if u = true then 1 + y else 1 + x) ∧ Aside (Below w.heap.size w w'))
  case atStart =>
    exact ⟨0, M0, 0, 0, false, rfl, rfl, rfl, rfl, HP2.out, rfl, by show 0 ≤ (0 : Int) ∧ (0 : Int) < 1 + x; omega, HB2.out⟩
  case round =>
    obtain ⟨i, M, l, ro, u, rfl, rfl, rfl, hk, hp, hm, hro, hb⟩ := hrel
    have HK := Lib.hid hk.out
    have HP := Lib.hid hp.out
    have HM := Lib.hid hm.out
    have HB := Lib.hid hb.out
    have HRO := Lib.hid hro.out
    have r0 : 0 ≤ ro := HRO.out.1
    have r10 : ro < 10 := by have := HRO.out.2; split at this <;> omega
    clear hk hp hm hb hro
    have hi : i ≤ 100 := by have := HK.out; omega
    by_cases hlt : (i : Int) < len3
    · have hd : decide ((i : Int) < len3) = true := decide_eq_true hlt
      by_cases hl6 : (i : Int) < 100
      · have hd6 : decide ((i : Int) < 100) = true := decide_eq_true hl6
        obtain ⟨q, v, rfl, hc⟩ := row_at HROW.out HB.out i (by omega)
        obtain ⟨r, hr, r0, r1⟩ := emod_b v 4 (by omega)
        have HR := Lib.hid hr
        clear hr
        go_wp2_with (first
          | (go_at_call 14; (with_reducible refine (within_calls v 4 (by omega) (by omega) _).mono ?_); rintro e' w3 ⟨rfl, rfl⟩; rw [HR.out]))
        generalize (!(decide (0 < r) == ((i : Int) / 20 % 2 == 1))) = ok
        clear r0 r1 HR
        cases u with
        | true =>
          cases ok with
          | true =>
            have EV := Lib.hid (show verdict (1 + x) (1 + y) ro true true = 0 from (by unfold verdict rowOf; simp; try omega))
            have EN := Lib.hid (show next (1 + x) (1 + y) i ro true true = ⟨i, 0, true⟩ from by unfold next; rw [EV.out]; simp [rowOf])
            (with_reducible refine (told_calls g mb i (1 + x) (1 + y) 1 M s i l ro true true HW.out HI.out _ HP.out HM.out (by omega) (by omega) (by omega) (by omega) (by omega)).mono ?_)
            rintro e' w4 ⟨rfl, hc, hp⟩
            rw [EN.out] at hp
            have HB4 := Lib.hid (HB.out.trans (hc.below HMB.out HB.out.size))
            have HP4 := Lib.hid hp
            clear hc hp
            rw [EV.out]
            go_wp2_with (first
              | (go_at_call 21; (with_reducible refine (up_calls g mb (i + 1) (1 + x) (1 + y) 1 _ s i 0 true HW.out _ HP4.out (congrArg (Option.getD · zeroH) (upd_same _ _ _))).mono ?_); rintro e' w6 ⟨rfl, hb⟩; have HB6 := Lib.hid (below_step HB4.out hb HB4.out.size); have HP6 := Lib.hid (HP4.out.below hb); clear hb))
            all_goals try (exfalso; omega)
            go_roundg (gk - 1)
            case measure => have := HK.out; omega
            case rel => exact ⟨i + 1, _, i, 0, true, rfl, rfl, by go_num, by have := HK.out; show _ = _; omega, HP6.out, by rw [upd_same]; rfl, by show _ ∧ _; simp; omega, HB6.out⟩
          | false =>
            by_cases he : ro + 1 = 1 + y
            · have HE := Lib.hid he
              clear he
              have HLT := Lib.hid (show ro < (1 + y) from by simpa using HRO.out.2)
              have EV := Lib.hid (show verdict (1 + x) (1 + y) ro true false = 2 from (by have := HE.out; have := HLT.out; unfold verdict rowOf; simp; omega))
              have EN := Lib.hid (show next (1 + x) (1 + y) i ro true false = ⟨i, 0, false⟩ from by unfold next; rw [EV.out]; simp [rowOf])
              (with_reducible refine (told_calls g mb i (1 + x) (1 + y) 1 M s i l ro true false HW.out HI.out _ HP.out HM.out (by omega) (by omega) (by omega) (by omega) (by omega)).mono ?_)
              rintro e' w4 ⟨rfl, hc, hp⟩
              rw [EN.out] at hp
              have HB4 := Lib.hid (HB.out.trans (hc.below HMB.out HB.out.size))
              have HP4 := Lib.hid hp
              clear hc hp
              rw [EV.out]
              go_wp2_with (first
                | (go_at_call 21; (with_reducible refine (up_calls g mb (i + 1) (1 + x) (1 + y) 1 _ s i 0 false HW.out _ HP4.out (congrArg (Option.getD · zeroH) (upd_same _ _ _))).mono ?_); rintro e' w6 ⟨rfl, hb⟩; have HB6 := Lib.hid (below_step HB4.out hb HB4.out.size); have HP6 := Lib.hid (HP4.out.below hb); clear hb))
              all_goals try (exfalso; have := HE.out; rename_i h; simp only [beq_eq_false_iff_ne, ne_eq, beq_iff_eq] at h; omega)
              go_roundg (gk - 1)
              case measure => have := HK.out; omega
              case rel => exact ⟨i + 1, _, i, 0, false, rfl, rfl, by go_num, by have := HK.out; show _ = _; omega, HP6.out, by rw [upd_same]; rfl, by have := HE.out; have := HLT.out; show _ ∧ _; simp; omega, HB6.out⟩
            · have HE := Lib.hid he
              clear he
              have HLT := Lib.hid (show ro < (1 + y) from by simpa using HRO.out.2)
              have EV := Lib.hid (show verdict (1 + x) (1 + y) ro true false = 0 from (by have := HE.out; have := HLT.out; unfold verdict rowOf; simp; omega))
              have EN := Lib.hid (show next (1 + x) (1 + y) i ro true false = ⟨i, (ro + 1), true⟩ from by unfold next; rw [EV.out]; simp [rowOf])
              (with_reducible refine (told_calls g mb i (1 + x) (1 + y) 1 M s i l ro true false HW.out HI.out _ HP.out HM.out (by omega) (by omega) (by omega) (by omega) (by omega)).mono ?_)
              rintro e' w4 ⟨rfl, hc, hp⟩
              rw [EN.out] at hp
              have HB4 := Lib.hid (HB.out.trans (hc.below HMB.out HB.out.size))
              have HP4 := Lib.hid hp
              clear hc hp
              rw [EV.out]
              go_wp2_with (first
                | (go_at_call 21; (with_reducible refine (up_calls g mb (i + 1) (1 + x) (1 + y) 1 _ s i (ro + 1) true HW.out _ HP4.out (congrArg (Option.getD · zeroH) (upd_same _ _ _))).mono ?_); rintro e' w6 ⟨rfl, hb⟩; have HB6 := Lib.hid (below_step HB4.out hb HB4.out.size); have HP6 := Lib.hid (HP4.out.below hb); clear hb))
              all_goals try (exfalso; have := HE.out; rename_i h; simp only [beq_eq_false_iff_ne, ne_eq, beq_iff_eq] at h; omega)
              go_roundg (gk - 1)
              case measure => have := HK.out; omega
              case rel => exact ⟨i + 1, _, i, (ro + 1), true, rfl, rfl, by go_num, by have := HK.out; show _ = _; omega, HP6.out, by rw [upd_same]; rfl, by have := HE.out; have := HLT.out; show _ ∧ _; simp; omega, HB6.out⟩
        | false =>
          cases ok with
          | true =>
            by_cases he : ro + 1 = 1 + x
            · have HE := Lib.hid he
              clear he
              have HLT := Lib.hid (show ro < (1 + x) from by simpa using HRO.out.2)
              have EV := Lib.hid (show verdict (1 + x) (1 + y) ro false true = 1 from (by have := HE.out; have := HLT.out; unfold verdict rowOf; simp; omega))
              have EN := Lib.hid (show next (1 + x) (1 + y) i ro false true = ⟨i, 0, true⟩ from by unfold next; rw [EV.out]; simp [rowOf])
              (with_reducible refine (told_calls g mb i (1 + x) (1 + y) 1 M s i l ro false true HW.out HI.out _ HP.out HM.out (by omega) (by omega) (by omega) (by omega) (by omega)).mono ?_)
              rintro e' w4 ⟨rfl, hc, hp⟩
              rw [EN.out] at hp
              have HB4 := Lib.hid (HB.out.trans (hc.below HMB.out HB.out.size))
              have HP4 := Lib.hid hp
              clear hc hp
              rw [EV.out]
              go_wp2_with (first
                | (go_at_call 21; (with_reducible refine (up_calls g mb (i + 1) (1 + x) (1 + y) 1 _ s i 0 true HW.out _ HP4.out (congrArg (Option.getD · zeroH) (upd_same _ _ _))).mono ?_); rintro e' w6 ⟨rfl, hb⟩; have HB6 := Lib.hid (below_step HB4.out hb HB4.out.size); have HP6 := Lib.hid (HP4.out.below hb); clear hb))
              all_goals try (exfalso; have := HE.out; rename_i h; simp only [beq_eq_false_iff_ne, ne_eq, beq_iff_eq] at h; omega)
              go_roundg (gk - 1)
              case measure => have := HK.out; omega
              case rel => exact ⟨i + 1, _, i, 0, true, rfl, rfl, by go_num, by have := HK.out; show _ = _; omega, HP6.out, by rw [upd_same]; rfl, by have := HE.out; have := HLT.out; show _ ∧ _; simp; omega, HB6.out⟩
            · have HE := Lib.hid he
              clear he
              have HLT := Lib.hid (show ro < (1 + x) from by simpa using HRO.out.2)
              have EV := Lib.hid (show verdict (1 + x) (1 + y) ro false true = 0 from (by have := HE.out; have := HLT.out; unfold verdict rowOf; simp; omega))
              have EN := Lib.hid (show next (1 + x) (1 + y) i ro false true = ⟨i, (ro + 1), false⟩ from by unfold next; rw [EV.out]; simp [rowOf])
              (with_reducible refine (told_calls g mb i (1 + x) (1 + y) 1 M s i l ro false true HW.out HI.out _ HP.out HM.out (by omega) (by omega) (by omega) (by omega) (by omega)).mono ?_)
              rintro e' w4 ⟨rfl, hc, hp⟩
              rw [EN.out] at hp
              have HB4 := Lib.hid (HB.out.trans (hc.below HMB.out HB.out.size))
              have HP4 := Lib.hid hp
              clear hc hp
              rw [EV.out]
              go_wp2_with (first
                | (go_at_call 21; (with_reducible refine (up_calls g mb (i + 1) (1 + x) (1 + y) 1 _ s i (ro + 1) false HW.out _ HP4.out (congrArg (Option.getD · zeroH) (upd_same _ _ _))).mono ?_); rintro e' w6 ⟨rfl, hb⟩; have HB6 := Lib.hid (below_step HB4.out hb HB4.out.size); have HP6 := Lib.hid (HP4.out.below hb); clear hb))
              all_goals try (exfalso; have := HE.out; rename_i h; simp only [beq_eq_false_iff_ne, ne_eq, beq_iff_eq] at h; omega)
              go_roundg (gk - 1)
              case measure => have := HK.out; omega
              case rel => exact ⟨i + 1, _, i, (ro + 1), false, rfl, rfl, by go_num, by have := HK.out; show _ = _; omega, HP6.out, by rw [upd_same]; rfl, by have := HE.out; have := HLT.out; show _ ∧ _; simp; omega, HB6.out⟩
          | false =>
            have EV := Lib.hid (show verdict (1 + x) (1 + y) ro false false = 0 from (by unfold verdict rowOf; simp; try omega))
            have EN := Lib.hid (show next (1 + x) (1 + y) i ro false false = ⟨i, 0, false⟩ from by unfold next; rw [EV.out]; simp [rowOf])
            (with_reducible refine (told_calls g mb i (1 + x) (1 + y) 1 M s i l ro false false HW.out HI.out _ HP.out HM.out (by omega) (by omega) (by omega) (by omega) (by omega)).mono ?_)
            rintro e' w4 ⟨rfl, hc, hp⟩
            rw [EN.out] at hp
            have HB4 := Lib.hid (HB.out.trans (hc.below HMB.out HB.out.size))
            have HP4 := Lib.hid hp
            clear hc hp
            rw [EV.out]
            go_wp2_with (first
              | (go_at_call 21; (with_reducible refine (up_calls g mb (i + 1) (1 + x) (1 + y) 1 _ s i 0 false HW.out _ HP4.out (congrArg (Option.getD · zeroH) (upd_same _ _ _))).mono ?_); rintro e' w6 ⟨rfl, hb⟩; have HB6 := Lib.hid (below_step HB4.out hb HB4.out.size); have HP6 := Lib.hid (HP4.out.below hb); clear hb))
            all_goals try (exfalso; omega)
            go_roundg (gk - 1)
            case measure => have := HK.out; omega
            case rel => exact ⟨i + 1, _, i, 0, false, rfl, rfl, by go_num, by have := HK.out; show _ = _; omega, HP6.out, by rw [upd_same]; rfl, by show _ ∧ _; simp; omega, HB6.out⟩
      · have hd6 : decide ((i : Int) < 100) = false := decide_eq_false hl6
        go_wp2
        go_ret
        exact ⟨rfl, HB.out⟩
    · have hd : decide ((i : Int) < len3) = false := decide_eq_false hlt
      go_wp2
      go_ret
      exact ⟨rfl, HB.out⟩
end Go.Proofs.Ytnlnkkblccppdaa.PL
