/- The walk of PulseApart. -/
import Derived.Test.YtnlnkkblccppdaaPulseL
namespace Go.Proofs.Ytnlnkkblccppdaa.PL
set_option linter.unusedVariables false
set_option linter.unusedSimpArgs false
open Go.RowKit Go.Maps Go.Proofs.Ytnlnkkblccppdaa.PB

theorem row_get {w w' : World} {a : Option Addr} {len cap : Nat} {zs : List Int} (h : IsRow w a len cap zs) (hb : Below w.heap.size w w') (i : Nat) (hi : i < len) :
    ∃ x, a = some x ∧ w'.cell? (x.add i) = some (.int .i64 (zs.getD i 0)) := by
  rcases h with ⟨_, h, _, _⟩ | ⟨x, hx, h1, _, h3, h4, _⟩
  · omega
  · have hc := h4 i (by omega)
    exact ⟨x, hx, (hb.cell (cell_lt hc)).trans hc⟩
theorem row_get' {w w' : World} {x : Addr} {len cap : Nat} {zs : List Int} (h : IsRow w (some x) len cap zs) (hb : Below w.heap.size w w') (i : Nat) (hi : i < len) :
    w'.cell? (x.add i) = some (.int .i64 (zs.getD i 0)) := by
  obtain ⟨y, e, h⟩ := row_get h hb i hi
  injection e with e
  subst e
  exact h
theorem ap_next (now ro : Int) (u ok : Bool) (h0 : 0 ≤ ro) (h1 : ro ≤ 1) : ∃ ro' u', next 2 2 now ro u ok = ⟨now, ro', u'⟩ ∧ 0 ≤ ro' ∧ ro' ≤ 1 := by
  refine ⟨_, _, next_eta _ _ _ _ _ _, ?_⟩
  unfold next verdict rowOf
  cases u <;> cases ok <;> simp <;> split <;> simp <;> omega
theorem ap_q (i : Int) (u ok : Bool) : next 1 1 i 0 u ok = ⟨i, 0, ok⟩ := by cases u <;> cases ok <;> rfl
def ApP (M : Int → Option Hist) (x y : Int) (i : Nat) : Prop := (∃ l ro u, (M x).getD zeroH = ⟨l, ro, u⟩ ∧ 0 ≤ ro ∧ ro ≤ 1) ∧ (M y).getD zeroH = ⟨0, 1, false⟩
def ApQ (Q : Int → Option Hist) (x y : Int) (i : Nat) : Prop := (∃ l u, (Q y).getD zeroH = ⟨l, 0, u⟩) ∧ (Q y).isSome = decide (0 < i) ∧ (Q x).isSome = false
set_option maxHeartbeats 4000000 in
set_option maxRecDepth 100000 in
theorem PulseApart_walk (a0 : Option Addr) (len0 cap0 : Nat) (z0 : List Int) (a1 a2 : Int) (w : World) (w0 : IsRow w a0 len0 cap0 z0) (y0 : len0 * 8 ≤ 140737488351232) (w1 : (Lit.int .i64 a1).wf = true) (w2 : (Lit.int .i64 a2).wf = true) :
    Calls Try.prog 7 #[.slice a0 len0 cap0, .int .i64 a1, .int .i64 a2] w fun e w' => e = .returned (.bool true) ∧ Below w.heap.size w w' := by
  have HROW := Lib.hid w0
  clear w0 w1 w2
  obtain ⟨x, hx, x0, x1⟩ := emod_b a1 64 (by omega)
  obtain ⟨y, hy, yy0, yy1⟩ := emod_b a2 64 (by omega)
  have HX := Lib.hid hx
  have HY := Lib.hid hy
  have HWX := Lib.hid (wfs x (by omega) (by omega))
  have HWY := Lib.hid (wfs y (by omega) (by omega))
  have HIX := Lib.hid (isB_of x0 x1)
  have HIY := Lib.hid (isB_of yy0 yy1)
  have OK1 := Lib.hid (show okNew 2 2 1 from by unfold okNew; omega)
  have OK2 := Lib.hid (show okNew 1 1 1 from by unfold okNew; omega)
  have HM0 := Lib.hid (show (M0 y).getD zeroH = ⟨0, 0, false⟩ from rfl)
  have E0 := Lib.hid (show next 2 2 0 0 false true = ⟨0, 1, false⟩ from rfl)
  clear hx hy
  by_cases hxy : x = y
  · subst hxy
    go_enter Try.func7, Try.ntmps7
    go_wp2_with (first
      | (go_at_call 13; refine (known_calls _).mono ?_; rintro e' w1 ⟨rfl, hb⟩; have HB1 := Lib.hid hb; clear hb)
      | (go_at_call 14; (with_reducible refine (within_calls a1 64 (by omega) (by omega) _).mono ?_); rintro e' w3 ⟨rfl, rfl⟩; rw [HX.out])
      | (go_at_call 14; (with_reducible refine (within_calls a2 64 (by omega) (by omega) _).mono ?_); rintro e' w3 ⟨rfl, rfl⟩; rw [HY.out])
      | (go_at_call 15; (with_reducible refine (new_ok 2 2 1 OK1.out _).mono ?_); rintro e' w2 ⟨g, mb, rfl, hg, hmb, hb, hp⟩; have HB2 := Lib.hid (below_step HB1.out hb HB1.out.size); clear hb hp hg hmb)
      | (go_at_call 15; (with_reducible refine (new_ok 1 1 1 OK2.out _).mono ?_); rintro e' w2 ⟨g2, mb2, rfl, hg, hmb, hb, hp⟩; have HB3 := Lib.hid (below_step HB2.out hb HB2.out.size); clear hb hp hg hmb))
    go_ret
    exact ⟨rfl, HB3.out⟩
  · have hne : decide (x = y) = false := decide_eq_false hxy
    have hne' : (x == y) = false := hne
    have HNE := Lib.hid hxy
    clear hxy
    go_enter Try.func7, Try.ntmps7
    go_wp2_with (first
      | (go_at_call 13; refine (known_calls _).mono ?_; rintro e' w1 ⟨rfl, hb⟩; have HB1 := Lib.hid hb; clear hb)
      | (go_at_call 14; (with_reducible refine (within_calls a1 64 (by omega) (by omega) _).mono ?_); rintro e' w3 ⟨rfl, rfl⟩; rw [HX.out])
      | (go_at_call 14; (with_reducible refine (within_calls a2 64 (by omega) (by omega) _).mono ?_); rintro e' w3 ⟨rfl, rfl⟩; rw [HY.out])
      | (go_at_call 15; (with_reducible refine (new_ok 2 2 1 OK1.out _).mono ?_); rintro e' w2 ⟨g, mb, rfl, hg, hmb, hb, hp⟩; have HB2 := Lib.hid (below_step HB1.out hb HB1.out.size); have HP2 := Lib.hid (show PAt w2 g mb 2 2 1 0 M0 from hp); have HMB := Lib.hid (Nat.le_trans HB1.out.size hmb); clear hb hp hg hmb)
      | (go_at_call 15; (with_reducible refine (new_ok 1 1 1 OK2.out _).mono ?_); rintro e' w3 ⟨g2, mb2, rfl, hg, hmb, hb, hp⟩; have HB3 := Lib.hid (below_step HB2.out hb HB2.out.size); have HP3 := Lib.hid (HP2.out.below hb); have HQ3 := Lib.hid (show PAt w3 g2 mb2 1 1 1 0 M0 from hp); have HD := Lib.hid (show g2 ≠ mb ∧ mb2 ≠ mb ∧ g ≠ mb2 ∧ mb ≠ mb2 ∧ w.heap.size ≤ mb2 from by have := HP2.out.lt; have := HB2.out.size; omega); clear hb hp hg hmb)
      | (go_at_call 17; (with_reducible refine (told_calls g mb 0 2 2 1 M0 y 0 0 0 false true HWY.out HIY.out _ HP3.out HM0.out (by omega) (by omega) (by omega) (by omega) (by omega)).mono ?_); rintro e' w4 ⟨rfl, hc, hp⟩; rw [E0.out] at hp; have HB4 := Lib.hid (HB3.out.trans (hc.below HMB.out HB3.out.size)); have HP4 := Lib.hid hp; have HQ4 := Lib.hid (HQ3.out.ch hc HD.out.1 HD.out.2.1); clear hc hp))
    clear HB1 HB2 HB3 HP2 HP3 HQ3
    go_loopg [13] 20 (fun kq v13 w' => ∃ (i : Nat) (M Q : Int → Option Hist), v13 = .int .i64 (i : Int) ∧ Aside (kq + i = 20) ∧ Aside (i ≤ len0) ∧ Aside (PAt w' g mb 2 2 1 (i + 1) M) ∧ Aside (PAt w' g2 mb2 1 1 1 i Q) ∧ Aside (ApP M x y i) ∧ Aside (ApQ Q x y i) ∧ Aside (Below w.heap.size w w'))
    case atStart =>
      exact ⟨0, _, _, rfl, rfl, Nat.zero_le _, HP4.out, HQ4.out, ⟨⟨0, 0, false, by rw [upd_other _ _ HNE.out]; rfl, by omega, by omega⟩, by rw [upd_same]; rfl⟩, ⟨⟨0, false, rfl⟩, rfl, rfl⟩, HB4.out⟩
    case round =>
      obtain ⟨i, M, Q, rfl, hk, hil, hp, hq, hm, hqq, hb⟩ := hrel
      have HK := Lib.hid hk.out
      have HIL := Lib.hid hil.out
      have HP := Lib.hid hp.out
      have HQ := Lib.hid hq.out
      have HB := Lib.hid hb.out
      obtain ⟨⟨l, ro, u, hmx, ro0, ro1⟩, hmy⟩ := hm.out
      obtain ⟨⟨l2, u2, hqy⟩, hqs, hqn⟩ := hqq.out
      have HMX := Lib.hid hmx
      have HMY := Lib.hid hmy
      have HQY := Lib.hid hqy
      have HQS := Lib.hid hqs
      have HQN := Lib.hid hqn
      clear hk hil hp hq hm hqq hb hmx hmy hqy hqs hqn
      have hi : i ≤ 20 := by have := HK.out; omega
      by_cases hlt : (i : Int) < len0
      · have hd : decide ((i : Int) < len0) = true := decide_eq_true hlt
        by_cases hl6 : (i : Int) < 20
        · have hd6 : decide ((i : Int) < 20) = true := decide_eq_true hl6
          obtain ⟨q, rfl, hc⟩ := row_get HROW.out HB.out i (by omega)
          have HC := Lib.hid (fun w' (hb : Below w.heap.size w w') => row_get' HROW.out hb i (by omega))
          generalize z0.getD i 0 = v at hc HC
          obtain ⟨r, hr, r0, r1⟩ := emod_b v 2 (by omega)
          have HR := Lib.hid hr
          clear hr
          go_wp2_with (first
            | (go_at_call 14; (with_reducible refine (within_calls v 2 (by omega) (by omega) _).mono ?_); rintro e' w3 ⟨rfl, rfl⟩; rw [HR.out])
            | (go_at_call 17; (with_reducible refine (told_calls g mb (i + 1) 2 2 1 M x i l ro u _ HWX.out HIX.out _ HP.out HMX.out (by omega) (by omega) (by omega) (by omega) (by omega)).mono ?_); rintro e' w4 ⟨rfl, hc, hp⟩; have HB4 := Lib.hid (HB.out.trans (hc.below HMB.out HB.out.size)); have HP4 := Lib.hid hp; have HQ4 := Lib.hid (HQ.out.ch hc HD.out.1 HD.out.2.1); have hc4 := HC.out _ HB4.out; clear hc hp)
            | (go_at_call 17; (with_reducible refine (told_calls g2 mb2 i 1 1 1 Q y i l2 0 u2 _ HWY.out HIY.out _ HQ4.out HQY.out (by omega) (by omega) (by omega) (by omega) (by omega)).mono ?_); rintro e' w5 ⟨rfl, hc, hp⟩; rw [ap_q] at hp; have HB5 := Lib.hid (HB4.out.trans (hc.below HD.out.2.2.2.2 HB4.out.size)); have HP5 := Lib.hid (HP4.out.ch hc HD.out.2.2.1 HD.out.2.2.2.1); have HQ5 := Lib.hid hp; clear hc hp))
          go_roundg (gk - 1)
          case measure => have := HK.out; omega
          case rel =>
            obtain ⟨ro', u', en, n0, n1⟩ := ap_next i ro u (r == 0) ro0 ro1
            have hxy : y ≠ x := fun e => HNE.out e.symm
            exact ⟨i + 1, _, _, by go_num, by have := HK.out; show _ = _; omega, by show _ ≤ _; omega, HP5.out, HQ5.out, ⟨⟨_, ro', u', by rw [upd_same, en]; rfl, n0, n1⟩, by rw [upd_other _ _ hxy]; exact HMY.out⟩, ⟨⟨i, _, by rw [upd_same]; rfl⟩, by rw [upd_same]; simp, by rw [upd_other _ _ HNE.out]; exact HQN.out⟩, HB5.out⟩
        · have hd6 : decide ((i : Int) < 20) = false := decide_eq_false hl6
          have HZ0 := Lib.hid (show 0 < len0 from by omega)
          have EV := Lib.hid (show verdict 2 2 1 false true = 1 from rfl)
          go_wp2_with (first
            | (go_at_call 21; (with_reducible refine (up_calls g mb (i + 1) 2 2 1 M y 0 1 false HWY.out _ HP.out HMY.out).mono ?_); rintro e' w5 ⟨rfl, hb⟩; have HB5 := Lib.hid (below_step HB.out hb HB.out.size); have HP5 := Lib.hid (HP.out.below hb); have HQ5 := Lib.hid (HQ.out.below hb); clear hb)
            | (go_at_call 17; (with_reducible refine (told_calls g mb (i + 1) 2 2 1 M y 50 0 1 false true HWY.out HIY.out _ HP5.out HMY.out (by omega) (by omega) (by omega) (by omega) (by omega)).mono ?_); rintro e' w6 ⟨rfl, hc, hp⟩; have HB6 := Lib.hid (HB5.out.trans (hc.below HMB.out HB5.out.size)); have HQ6 := Lib.hid (HQ5.out.ch hc HD.out.1 HD.out.2.1); clear hc hp; rw [EV.out])
            | (go_at_call 23; (with_reducible refine (drop_calls g2 mb2 i 1 1 1 Q x _ HWX.out _ HQ6.out HQN.out).mono ?_); rintro e' w8 ⟨rfl, hc, hp⟩; have HB8 := Lib.hid (HB6.out.trans (hc.below HD.out.2.2.2.2 HB6.out.size)); clear hc hp))
          all_goals try (exfalso; have := HZ0.out; omega)
          go_ret
          exact ⟨rfl, HB8.out⟩
      · have hd : decide ((i : Int) < len0) = false := decide_eq_false hlt
        have EV := Lib.hid (show verdict 2 2 1 false true = 1 from rfl)
        by_cases hz : 0 < len0
        · have HZ0 := Lib.hid hz
          clear hz
          go_wp2_with (first
            | (go_at_call 21; (with_reducible refine (up_calls g mb (i + 1) 2 2 1 M y 0 1 false HWY.out _ HP.out HMY.out).mono ?_); rintro e' w5 ⟨rfl, hb⟩; have HB5 := Lib.hid (below_step HB.out hb HB.out.size); have HP5 := Lib.hid (HP.out.below hb); have HQ5 := Lib.hid (HQ.out.below hb); clear hb)
            | (go_at_call 17; (with_reducible refine (told_calls g mb (i + 1) 2 2 1 M y 50 0 1 false true HWY.out HIY.out _ HP5.out HMY.out (by omega) (by omega) (by omega) (by omega) (by omega)).mono ?_); rintro e' w6 ⟨rfl, hc, hp⟩; have HB6 := Lib.hid (HB5.out.trans (hc.below HMB.out HB5.out.size)); have HQ6 := Lib.hid (HQ5.out.ch hc HD.out.1 HD.out.2.1); clear hc hp; rw [EV.out])
            | (go_at_call 23; (with_reducible refine (drop_calls g2 mb2 i 1 1 1 Q x _ HWX.out _ HQ6.out HQN.out).mono ?_); rintro e' w8 ⟨rfl, hc, hp⟩; have HB8 := Lib.hid (HB6.out.trans (hc.below HD.out.2.2.2.2 HB6.out.size)); clear hc hp))
          all_goals try (exfalso; have := HZ0.out; omega)
          go_ret
          exact ⟨rfl, HB8.out⟩
        · have HZ0 := Lib.hid hz
          have HQS' := Lib.hid (HQS.out.trans (show decide (0 < i) = false from decide_eq_false (by have := HIL.out; omega)))
          have HQN' := Lib.hid (show (upd Q y none x).isSome = false from by rw [upd_other _ _ HNE.out]; exact HQN.out)
          clear hz
          go_wp2_with (first
            | (go_at_call 21; (with_reducible refine (up_calls g mb (i + 1) 2 2 1 M y 0 1 false HWY.out _ HP.out HMY.out).mono ?_); rintro e' w5 ⟨rfl, hb⟩; have HB5 := Lib.hid (below_step HB.out hb HB.out.size); have HP5 := Lib.hid (HP.out.below hb); have HQ5 := Lib.hid (HQ.out.below hb); clear hb)
            | (go_at_call 17; (with_reducible refine (told_calls g mb (i + 1) 2 2 1 M y 50 0 1 false true HWY.out HIY.out _ HP5.out HMY.out (by omega) (by omega) (by omega) (by omega) (by omega)).mono ?_); rintro e' w6 ⟨rfl, hc, hp⟩; have HB6 := Lib.hid (HB5.out.trans (hc.below HMB.out HB5.out.size)); have HQ6 := Lib.hid (HQ5.out.ch hc HD.out.1 HD.out.2.1); clear hc hp; rw [EV.out])
            | (go_at_call 23; (with_reducible refine (drop_calls g2 mb2 i 1 1 1 Q y _ HWY.out _ HQ6.out HQS'.out).mono ?_); rintro e' w7 ⟨rfl, hc, hp⟩; have HB7 := Lib.hid (HB6.out.trans (hc.below HD.out.2.2.2.2 HB6.out.size)); have HQ7 := Lib.hid hp; clear hc hp)
            | (go_at_call 23; (with_reducible refine (drop_calls g2 mb2 i 1 1 1 _ x _ HWX.out _ HQ7.out HQN'.out).mono ?_); rintro e' w8 ⟨rfl, hc, hp⟩; have HB8 := Lib.hid (HB7.out.trans (hc.below HD.out.2.2.2.2 HB7.out.size)); clear hc hp))
          all_goals try (exfalso; have := HZ0.out; omega)
          go_ret
          exact ⟨rfl, HB8.out⟩
end Go.Proofs.Ytnlnkkblccppdaa.PL
