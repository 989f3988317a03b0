/- The walk of PulseSteady. -/
import Derived.Test.YtnlnkkblccppdaaPulseK
namespace Go.Proofs.Ytnlnkkblccppdaa.PL
set_option linter.unusedVariables false
set_option linter.unusedSimpArgs false
open Go.RowKit Go.Maps Go.Proofs.Ytnlnkkblccppdaa.PB

def stRow (a : Int) (ok : Bool) (i : Int) : Int := if ok = true ∧ i < a then i else 0
def stUp (a : Int) (ok : Bool) (i : Int) : Bool := ok && decide (a ≤ i)
def stTold (a : Int) (ok : Bool) (i : Int) : Int := if ok = true ∧ a ≤ i then 1 else 0
def stV (a : Int) (ok : Bool) (i : Int) : Int := if ok = true ∧ i + 1 = a then 1 else 0
theorem st_verdict {a b i : Int} (ok : Bool) (ha : 1 ≤ a) (hb : 1 ≤ b) (hi : 0 ≤ i) : verdict a b (stRow a ok i) (stUp a ok i) ok = stV a ok i := by
  unfold verdict rowOf stRow stUp stV
  cases ok
  · simp; omega
  · by_cases h : a ≤ i
    · simp [h, show ¬ i < a by omega]; omega
    · simp [h, show i < a by omega]; split <;> split <;> omega
theorem st_next {a b i : Int} (ok : Bool) (ha : 1 ≤ a) (hb : 1 ≤ b) (hi : 0 ≤ i) : next a b i (stRow a ok i) (stUp a ok i) ok = ⟨i, stRow a ok (i + 1), stUp a ok (i + 1)⟩ := by
  unfold next
  rw [st_verdict ok ha hb hi]
  unfold rowOf stRow stUp stV
  cases ok
  · simp
  · by_cases h : a ≤ i
    · simp [h, show ¬ i < a by omega, show ¬ i + 1 < a by omega, show a ≤ i + 1 by omega, show ¬ i + 1 = a by omega]
    · by_cases h' : i + 1 = a
      · simp [h, h', show i < a by omega, show ¬ a < a by omega]
      · simp [h, h', show i < a by omega, show i + 1 < a by omega, show ¬ a ≤ i + 1 by omega]
theorem st_told {a i : Int} (ok : Bool) : stTold a ok (i + 1) = stTold a ok i + stV a ok i := by
  unfold stTold stV
  cases ok
  · simp
  · simp; repeat' split
    all_goals omega
theorem stRow_b {a i : Int} (ok : Bool) (ha : a ≤ 10) (hi : 0 ≤ i) : 0 ≤ stRow a ok i ∧ stRow a ok i ≤ 1000 := by unfold stRow; split <;> omega
theorem stTold_b (a : Int) (ok : Bool) (i : Int) : 0 ≤ stTold a ok i ∧ stTold a ok i ≤ 1 := by unfold stTold; split <;> omega
set_option maxHeartbeats 4000000 in
set_option maxRecDepth 100000 in
theorem PulseSteady_walk (a0 a1 a2 a3 : Int) (a4 : Bool) (w : World) (w0 : (Lit.int .i64 a0).wf = true) (w1 : (Lit.int .i64 a1).wf = true) (w2 : (Lit.int .i64 a2).wf = true) (w3 : (Lit.int .i64 a3).wf = true) :
    Calls Try.prog 11 #[.int .i64 a0, .int .i64 a1, .int .i64 a2, .int .i64 a3, .bool a4] w fun e w' => e = .returned (.bool true) ∧ Below w.heap.size w w' := by
  clear w0 w1 w2 w3
  obtain ⟨x, hx, x0, x1⟩ := emod_b a0 10 (by omega)
  obtain ⟨y, hy, y0, y1⟩ := emod_b a1 10 (by omega)
  obtain ⟨s, hs, s0, s1⟩ := emod_b a2 64 (by omega)
  obtain ⟨z, hz, z0, z1⟩ := emod_b a3 40 (by omega)
  obtain ⟨N, rfl⟩ := Int.eq_ofNat_of_zero_le z0
  have HX := Lib.hid hx
  have HY := Lib.hid hy
  have HS := Lib.hid hs
  have HZ := Lib.hid hz
  have HW := Lib.hid (wfs s (by omega) (by omega))
  have HI := Lib.hid (isB_of s0 s1)
  clear hx hy hs hz
  go_enter Try.func11, Try.ntmps11
  go_wp2_with (first
    | (go_at_call 13; refine (known_calls _).mono ?_; rintro e' w1 ⟨rfl, hb⟩; have HB1 := Lib.hid hb; clear hb)
    | (go_at_call 14; (with_reducible refine (within_calls a0 10 (by omega) (by omega) _).mono ?_); rintro e' w3 ⟨rfl, rfl⟩; rw [HX.out])
    | (go_at_call 14; (with_reducible refine (within_calls a1 10 (by omega) (by omega) _).mono ?_); rintro e' w3 ⟨rfl, rfl⟩; rw [HY.out])
    | (go_at_call 14; (with_reducible refine (within_calls a2 64 (by omega) (by omega) _).mono ?_); rintro e' w3 ⟨rfl, rfl⟩; rw [HS.out])
    | (go_at_call 15; refine (new_ok (1 + x) (1 + y) 1 (by unfold okNew; omega) _).mono ?_; rintro e' w2 ⟨g, mb, rfl, hg, hmb, hb, hp⟩; have HB2 := Lib.hid (below_step HB1.out hb HB1.out.size); have HP2 := Lib.hid (show PAt w2 g mb (1 + x) (1 + y) 1 0 M0 from hp); have HMB := Lib.hid (Nat.le_trans HB1.out.size hmb); clear hb hp hg hmb))
  go_loopg [16, 17] (10 + N) (fun kq v16 v17 w' => ∃ (i : Nat) (M : Int → Option Hist) (l : Int), v16 = .int .i64 (stTold (1 + x) a4 i) ∧ v17 = .int .i64 (i : Int) ∧ Aside (kq + i = 10 + N) ∧ Aside (PAt w' g mb (1 + x) (1 + y) 1 i M) ∧ Aside ((M s).getD zeroH = ⟨l, stRow (1 + x) a4 i, stUp (1 + x) a4 i⟩) ∧ Aside (Below w.heap.size w w'))
  case atStart =>
    have e1 : stTold (1 + x) a4 ((0 : Nat) : Int) = 0 := by unfold stTold; rw [if_neg (by omega)]
    have e2 : stRow (1 + x) a4 ((0 : Nat) : Int) = 0 := by unfold stRow; split <;> rfl
    have e3 : stUp (1 + x) a4 ((0 : Nat) : Int) = false := by unfold stUp; rw [decide_eq_false (by omega)]; simp
    exact ⟨0, M0, 0, by rw [e1], rfl, rfl, HP2.out, by rw [e2, e3]; rfl, HB2.out⟩
  case round =>
    obtain ⟨i, M, l, rfl, rfl, hk, hp, hm, hb⟩ := hrel
    have HK := Lib.hid hk.out
    have HP := Lib.hid hp.out
    have HM := Lib.hid hm.out
    have HB := Lib.hid hb.out
    clear hk hp hm hb
    have rb := stRow_b a4 (show 1 + x ≤ 10 by omega) (show 0 ≤ (i : Int) by omega)
    have tb := stTold_b (1 + x) a4 i
    have hi : i ≤ 10 + N := by have := HK.out; omega
    have HV := Lib.hid (st_verdict (a := 1 + x) (b := 1 + y) (i := i) a4 (by omega) (by omega) (by omega))
    have HN := Lib.hid (st_next (a := 1 + x) (b := 1 + y) (i := i) a4 (by omega) (by omega) (by omega))
    have HT := Lib.hid (st_told (a := 1 + x) (i := (i : Int)) a4)
    obtain ⟨T, hT⟩ : ∃ T, stTold (1 + x) a4 (i : Int) = T := ⟨_, rfl⟩
    rw [hT] at tb ⊢
    have HTT := Lib.hid hT
    obtain ⟨V, hV⟩ : ∃ V, stV (1 + x) a4 (i : Int) = V := ⟨_, rfl⟩
    have vb : V = 0 ∨ V = 1 := by subst hV; unfold stV; split <;> simp
    have HVV := Lib.hid hV
    clear hT hV
    by_cases hlt : (i : Int) < 10 + N
    · have hd : decide ((i : Int) < 10 + N) = true := decide_eq_true hlt
      rcases vb with rfl | rfl
      all_goals
        go_wp2_with (first
          | (go_at_call 14; (with_reducible refine (within_calls a3 40 (by omega) (by omega) _).mono ?_); rintro e' w3 ⟨rfl, rfl⟩; rw [HZ.out])
          | (go_at_call 17; (with_reducible refine (told_calls g mb i (1 + x) (1 + y) 1 M s i l (stRow (1 + x) a4 i) (stUp (1 + x) a4 i) a4 HW.out HI.out _ HP.out HM.out (by omega) rb.1 rb.2 (by omega) (by omega)).mono ?_); rintro e' w4 ⟨rfl, hc, hp⟩; have HC4 := Lib.hid hc; have HP4 := Lib.hid hp; clear hc hp; rw [HV.out, HVV.out]))
        go_roundg (gk - 1)
        case measure => have := HK.out; omega
        case rel => exact ⟨i + 1, _, i, by rw [show ((i + 1 : Nat) : Int) = (i : Int) + 1 by omega, HT.out, HTT.out, HVV.out]; try simp, by go_num, by have := HK.out; show _ = _; omega, HP4.out, by rw [upd_same, HN.out, show ((i + 1 : Nat) : Int) = (i : Int) + 1 by omega]; rfl, HB.out.trans (HC4.out.below HMB.out HB.out.size)⟩
    · have hd : decide ((i : Int) < 10 + N) = false := decide_eq_false hlt
      have e1 : T = if a4 = true then 1 else 0 := by
        rw [← HTT.out]; unfold stTold
        cases a4 <;> simp; omega
      have e2 : stUp (1 + x) a4 i = a4 := by
        unfold stUp; cases a4 <;> simp; omega
      have HM' := Lib.hid (show (M s).getD zeroH = ⟨l, stRow (1 + x) a4 i, a4⟩ from by rw [HM.out, e2])
      clear HM e2 HV HN HT HTT HVV hlt vb tb rb
      cases a4
      all_goals
        simp at e1
        subst e1
        go_wp2_with (first
          | (go_at_call 14; (with_reducible refine (within_calls a3 40 (by omega) (by omega) _).mono ?_); rintro e' w3 ⟨rfl, rfl⟩; rw [HZ.out])
          | (go_at_call 25; refine (bit_calls _ _).mono ?_; rintro e' w3 ⟨rfl, rfl⟩)
          | (go_at_call 21; (with_reducible refine (up_calls g mb i (1 + x) (1 + y) 1 M s l _ _ HW.out _ HP.out HM'.out).mono ?_); rintro e' w4 ⟨rfl, hb⟩; have HB4 := Lib.hid (below_step HB.out hb HB.out.size); clear hb))
        go_ret
        exact ⟨rfl, HB4.out⟩
end Go.Proofs.Ytnlnkkblccppdaa.PL
