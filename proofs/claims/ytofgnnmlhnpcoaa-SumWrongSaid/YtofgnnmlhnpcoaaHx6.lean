-- Written by this session's own program (hook.py, over the kit's printer); proofs by hand where that has none.
import Derived.Test.YtofgnnmlhnpcoaaHx0
import Derived.Test.YtofgnnmlhnpcoaaHx1
import Derived.Test.YtofgnnmlhnpcoaaHx3
namespace Go.Proofs.Ytofgnnmlhnpcoaa.Hp
open Go.RowKit Go.Proofs.YtofgnnmlhnpcoaaW.PrintWords Go.Proofs.YtofgnnmlhnpcoaaW.PrintLast Go.Proofs.YtofgnnmlhnpcoaaW.PrintMore
attribute [local go_sem] max2_int min2_int max_two min_two max_three min_three max_four min_four   -- for this text's walks alone
set_option linter.unusedVariables false
set_option linter.unusedSimpArgs false

/-! ### roundhouselaw1_SumWrong: function 7 -/
mutual
def roundhouselaw1_SumWrong.j0 : Nat → List Int → Int → Int → Bool → Option (Bool)
  | 0, _, _, _, _ => none
  | k + 1, x0, x1, x2, x25 => if x25 = true then (some true) else ((some (([] : List Int) : List Int)).bind fun y206 => (if 0 ≤ (wrap64 ((wrap64 ((x0.length : Int) / 2)) * 2)) then (if (wrap64 ((wrap64 ((x0.length : Int) / 2)) * 2)) ≤ (x0.length : Int) then (if y206.length + (x0.take ((wrap64 ((wrap64 ((x0.length : Int) / 2)) * 2)) : Int).toNat).length < 140737488355328 then ((some (y206 ++ (x0.take ((wrap64 ((wrap64 ((x0.length : Int) / 2)) * 2)) : Int).toNat) : List Int)).bind fun y210 => ((sum_Right.f k y210).bind fun t213 => ((roundhouselaw1_within.f x1 (wrap64 ((wrap64 ((y210.length : Int) / 2)) - 1))).bind fun t214 => ((roundhouselaw1_within.f x2 65536).bind fun t215 => (if 0 ≤ (wrap64 (2 * (wrap64 ((wrap64 ((y210.length : Int) / 2)) - 1)))) then (if (wrap64 (2 * (wrap64 ((wrap64 ((y210.length : Int) / 2)) - 1)))) < (y210.length : Int) then (if 0 ≤ (wrap64 ((wrap64 (2 * (wrap64 ((wrap64 ((y210.length : Int) / 2)) - 1)))) + 1)) then (if (wrap64 ((wrap64 (2 * (wrap64 ((wrap64 ((y210.length : Int) / 2)) - 1)))) + 1)) < (y210.length : Int) then (if 0 ≤ (wrap64 (2 * t214)) then (if (wrap64 (2 * t214)) < (y210.length : Int) then (if 0 ≤ (wrap64 ((wrap64 (2 * t214)) + 1)) then (if (wrap64 ((wrap64 (2 * t214)) + 1)) < (y210.length : Int) then ((sum_Turn.f (Go.bits .or .i64 (wrap64 ((wrap64 (rd y210 (wrap64 (2 * (wrap64 ((wrap64 ((y210.length : Int) / 2)) - 1)))))) * 256)) (wrap64 (rd y210 (wrap64 ((wrap64 (2 * (wrap64 ((wrap64 ((y210.length : Int) / 2)) - 1)))) + 1))))) (Go.bits .or .i64 (wrap64 ((wrap64 (rd y210 (wrap64 (2 * t214)))) * 256)) (wrap64 (rd y210 (wrap64 ((wrap64 (2 * t214)) + 1))))) t215).bind fun t220 => ((some ((y210.set ((wrap64 (2 * t214)) : Int).toNat ((t215 / 256) % 256)).set ((wrap64 ((wrap64 (2 * t214)) + 1)) : Int).toNat ((t215) % 256) : List Int)).bind fun y222 => (if t220 < 0 then (roundhouselaw1_SumWrong.j1 k x0 y222 t213 (wrap64 ((wrap64 ((y210.length : Int) / 2)) - 1)) t220 true) else (roundhouselaw1_SumWrong.j1 k x0 y222 t213 (wrap64 ((wrap64 ((y210.length : Int) / 2)) - 1)) t220 (decide (t220 > 65535)))))) else (none)) else (none)) else (none)) else (none)) else (none)) else (none)) else (none)) else (none)))))) else (none)) else (none)) else (none)))
def roundhouselaw1_SumWrong.j1 : Nat → List Int → List Int → Bool → Int → Int → Bool → Option (Bool)
  | 0, _, _, _, _, _, _ => none
  | k + 1, x0, x7, x8, x9, x12, x96 => if x96 = true then (some false) else (if 0 ≤ (wrap64 (2 * x9)) then (if (wrap64 (2 * x9)) < (x7.length : Int) then (if 0 ≤ (wrap64 ((wrap64 (2 * x9)) + 1)) then (if (wrap64 ((wrap64 (2 * x9)) + 1)) < (x7.length : Int) then (roundhouselaw1_SumWrong.l0 k x0 ((x7.set ((wrap64 (2 * x9)) : Int).toNat ((x12 / 256) % 256)).set ((wrap64 ((wrap64 (2 * x9)) + 1)) : Int).toNat ((x12) % 256)) x8 true true 0) else (none)) else (none)) else (none)) else (none))
def roundhouselaw1_SumWrong.l0 : Nat → List Int → List Int → Bool → Bool → Bool → Int → Option (Bool)
  | 0, _, _, _, _, _, _ => none
  | k + 1, x0, x7, x8, x13, x14, x15 => if x15 < (x7.length : Int) then (if x13 = true then (if 0 ≤ x15 then (if x14 = true then (if x15 < (x0.length : Int) then (roundhouselaw1_SumWrong.l0 k x0 x7 x8 ((rd x7 x15) == 0) ((rd x0 x15) == 0) (wrap64 (x15 + 1))) else (none)) else (roundhouselaw1_SumWrong.l0 k x0 x7 x8 ((rd x7 x15) == 0) false (wrap64 (x15 + 1)))) else (none)) else (if x14 = true then (if 0 ≤ x15 then (if x15 < (x0.length : Int) then (roundhouselaw1_SumWrong.l0 k x0 x7 x8 false ((rd x0 x15) == 0) (wrap64 (x15 + 1))) else (none)) else (none)) else (roundhouselaw1_SumWrong.l0 k x0 x7 x8 false false (wrap64 (x15 + 1))))) else (if x13 = true then (some true) else (if x14 = true then (some true) else ((sum_Right.f k x7).bind fun t228 => (some (t228 == x8)))))
end
def roundhouselaw1_SumWrong.f (k : Nat) (l0 : List Int) (a1 : Int) (a2 : Int) : Option (Bool) := (roundhouselaw1_known.f k).bind fun t205 => (if t205 = true then (if (l0.length : Int) > 2000 then (roundhouselaw1_SumWrong.j0 k l0 a1 a2 true) else (roundhouselaw1_SumWrong.j0 k l0 a1 a2 (decide ((l0.length : Int) < 6)))) else (some false))
theorem roundhouselaw1_SumWrong.mono_l : ∀ k, (∀ y0 y1 y2 y3, LeO (roundhouselaw1_SumWrong.j0 k y0 y1 y2 y3) (roundhouselaw1_SumWrong.j0 (k + 1) y0 y1 y2 y3)) ∧ (∀ y0 y1 y2 y3 y4 y5, LeO (roundhouselaw1_SumWrong.j1 k y0 y1 y2 y3 y4 y5) (roundhouselaw1_SumWrong.j1 (k + 1) y0 y1 y2 y3 y4 y5)) ∧ (∀ y0 y1 y2 y3 y4 y5, LeO (roundhouselaw1_SumWrong.l0 k y0 y1 y2 y3 y4 y5) (roundhouselaw1_SumWrong.l0 (k + 1) y0 y1 y2 y3 y4 y5))
  | 0 => ⟨fun _ _ _ _ r h => by simp [roundhouselaw1_SumWrong.j0] at h, fun _ _ _ _ _ _ r h => by simp [roundhouselaw1_SumWrong.j1] at h, fun _ _ _ _ _ _ r h => by simp [roundhouselaw1_SumWrong.l0] at h⟩
  | k + 1 => by
    obtain ⟨ih0, ih1, ih2⟩ := roundhouselaw1_SumWrong.mono_l k
    refine ⟨?_, ?_, ?_⟩
    · intro y0 y1 y2 y3
      unfold roundhouselaw1_SumWrong.j0
      repeat' first
      | (with_reducible exact ih0 _ _ _ _)
      | (with_reducible exact ih1 _ _ _ _ _ _)
      | (with_reducible exact ih2 _ _ _ _ _ _)
      | (with_reducible exact roundhouselaw1_known.mono _)
      | (with_reducible exact sum_Right.mono _ _)
      | (with_reducible exact LeO.refl _)
      | (with_reducible exact LeO.none _)
      | (with_reducible refine LeO.ite ?_ ?_)
      | (with_reducible refine LeO.bind ?_ (fun _ => ?_))
      | exact ih0 _ _ _ _
      | exact ih1 _ _ _ _ _ _
      | exact ih2 _ _ _ _ _ _
      | exact roundhouselaw1_known.mono _
      | exact sum_Right.mono _ _
      | exact LeO.none _
      | refine LeO.ite ?_ ?_
      | refine LeO.bind ?_ (fun _ => ?_)
    · intro y0 y1 y2 y3 y4 y5
      unfold roundhouselaw1_SumWrong.j1
      repeat' first
      | (with_reducible exact ih0 _ _ _ _)
      | (with_reducible exact ih1 _ _ _ _ _ _)
      | (with_reducible exact ih2 _ _ _ _ _ _)
      | (with_reducible exact roundhouselaw1_known.mono _)
      | (with_reducible exact sum_Right.mono _ _)
      | (with_reducible exact LeO.refl _)
      | (with_reducible exact LeO.none _)
      | (with_reducible refine LeO.ite ?_ ?_)
      | (with_reducible refine LeO.bind ?_ (fun _ => ?_))
      | exact ih0 _ _ _ _
      | exact ih1 _ _ _ _ _ _
      | exact ih2 _ _ _ _ _ _
      | exact roundhouselaw1_known.mono _
      | exact sum_Right.mono _ _
      | exact LeO.none _
      | refine LeO.ite ?_ ?_
      | refine LeO.bind ?_ (fun _ => ?_)
    · intro y0 y1 y2 y3 y4 y5
      unfold roundhouselaw1_SumWrong.l0
      repeat' first
      | (with_reducible exact ih0 _ _ _ _)
      | (with_reducible exact ih1 _ _ _ _ _ _)
      | (with_reducible exact ih2 _ _ _ _ _ _)
      | (with_reducible exact roundhouselaw1_known.mono _)
      | (with_reducible exact sum_Right.mono _ _)
      | (with_reducible exact LeO.refl _)
      | (with_reducible exact LeO.none _)
      | (with_reducible refine LeO.ite ?_ ?_)
      | (with_reducible refine LeO.bind ?_ (fun _ => ?_))
      | exact ih0 _ _ _ _
      | exact ih1 _ _ _ _ _ _
      | exact ih2 _ _ _ _ _ _
      | exact roundhouselaw1_known.mono _
      | exact sum_Right.mono _ _
      | exact LeO.none _
      | refine LeO.ite ?_ ?_
      | refine LeO.bind ?_ (fun _ => ?_)
theorem roundhouselaw1_SumWrong.mono : ∀ a0 a1 a2 k, LeO (roundhouselaw1_SumWrong.f k a0 a1 a2) (roundhouselaw1_SumWrong.f (k + 1) a0 a1 a2) := by
  intro a0 a1 a2 k
  obtain ⟨ih0, ih1, ih2⟩ := roundhouselaw1_SumWrong.mono_l k
  unfold roundhouselaw1_SumWrong.f
  repeat' first
      | (with_reducible exact ih0 _ _ _ _)
      | (with_reducible exact ih1 _ _ _ _ _ _)
      | (with_reducible exact ih2 _ _ _ _ _ _)
      | (with_reducible exact roundhouselaw1_known.mono _)
      | (with_reducible exact sum_Right.mono _ _)
      | (with_reducible exact LeO.refl _)
      | (with_reducible exact LeO.none _)
      | (with_reducible refine LeO.ite ?_ ?_)
      | (with_reducible refine LeO.bind ?_ (fun _ => ?_))
      | exact ih0 _ _ _ _
      | exact ih1 _ _ _ _ _ _
      | exact ih2 _ _ _ _ _ _
      | exact roundhouselaw1_known.mono _
      | exact sum_Right.mono _ _
      | exact LeO.none _
      | refine LeO.ite ?_ ?_
      | refine LeO.bind ?_ (fun _ => ?_)
def roundhouselaw1_SumWrong.T9 : Bool × List (List Nat × List Nat) := (true, [([], []), ([], []), ([1], [1]), ([0, 2], [0, 2]), ([3], [3]), ([4], [4]), ([5], [5]), ([], []), ([], []), ([8], [8]), ([9], [9]), ([7, 10], [7, 10]), ([11], [11]), ([12], [12]), ([6, 13], [6, 13]), ([], []), ([], []), ([16], [16]), ([15, 17], [15, 17]), ([18], [18]), ([19], [19]), ([20], [20]), ([], []), ([], []), ([23], [23]), ([24], [24]), ([22, 25], [22, 25]), ([26], [26]), ([27], [27]), ([21, 28], [21, 28]), ([], []), ([14, 29, 30], [14, 29, 30]), ([31, 31, 0, 1, 2, 3, 4, 5, 6, 7, 8, 9, 10, 11, 12, 13, 14, 15, 16, 17, 18, 19, 20, 21, 22, 23, 24, 25, 26, 27, 28, 29, 30, 31], [31])])
def roundhouselaw1_SumWrong.B9 : List Nat := [0, 0, 2, 7, 15, 31, 63, 0, 0, 256, 768, 1920, 3968, 8064, 16383, 0, 0, 65536, 229376, 491520, 1015808, 2064384, 0, 0, 8388608, 25165824, 62914560, 130023424, 264241152, 536838144, 0, 2147483647, 4294967295]
theorem roundhouselaw1_SumWrong.tab9 : rtab .any (opsOf Try.f7 9) = roundhouselaw1_SumWrong.T9 := by kernel_rfl
theorem roundhouselaw1_SumWrong.bits9 : waitsOk roundhouselaw1_SumWrong.T9.2 roundhouselaw1_SumWrong.B9 = true := by kernel_rfl
set_option maxHeartbeats 8000000 in
set_option maxRecDepth 100000 in
theorem roundhouselaw1_SumWrong.calls (k : Nat) (A0 : Option Addr) (c0 : Nat) (l0 : List Int) (a1 : Int) (a2 : Int) (r : Bool) (w : World) (hr0 : Kd.C (Kd.int .u8) w A0 l0.length l0) (hc0 : l0.length ≤ c0) (h : roundhouselaw1_SumWrong.f k l0 a1 a2 = some r) :
    Calls Try.prog 7 #[.slice A0 l0.length c0, .int .i64 a1, .int .i64 a2] w fun e w' => e = .returned (.bool r) ∧ Below w.heap.size w w' := by
  have HR0 := Aside0.mk hr0
  have HC0 := Aside0.mk hc0
  clear hr0 hc0
  have HB := Aside0.mk (Below.refl w.heap.size w)
  have H : ((roundhouselaw1_known.f k).bind fun t205 => (if t205 = true then (if (l0.length : Int) > 2000 then (roundhouselaw1_SumWrong.j0 k l0 a1 a2 true) else (roundhouselaw1_SumWrong.j0 k l0 a1 a2 (decide ((l0.length : Int) < 6)))) else (some false))) = some r := h
  clear h
  replace H := Option.bind_eq_some_iff.mp H
  obtain ⟨t205, A40, H⟩ := H
  replace H : (if t205 = true then (if (l0.length : Int) > 2000 then (roundhouselaw1_SumWrong.j0 k l0 a1 a2 true) else (roundhouselaw1_SumWrong.j0 k l0 a1 a2 (decide ((l0.length : Int) < 6)))) else (some false)) = some r := H
  have A4 := Aside0.mk A40
  clear A40
  by_cases c5 : t205 = true
  · subst c5
    have H1 : (if (l0.length : Int) > 2000 then (roundhouselaw1_SumWrong.j0 k l0 a1 a2 true) else (roundhouselaw1_SumWrong.j0 k l0 a1 a2 (decide ((l0.length : Int) < 6)))) = some r := by rw [if_pos rfl] at H; exact H
    clear H
    have H := H1
    clear H1
    have HC6 := Aside0.mk H
    clear H
    go_enter Try.func7, Try.ntmps7
    go_upto_region 3 with (first | ((with_reducible refine gate_callee (f := 13) rfl ?_); refine goesL_ (some 16) rfl rfl Try.func13 (by kernel_rfl) rfl #[] rfl (by (try simp only [List.map_toArray, List.map_cons, List.map_nil]); first | done | rfl | (simp only [List.length_drop, List.length_take]; rfl)) ?_; (with_reducible refine (roundhouselaw1_known.calls k  true _ A4.out).mono ?_); rintro e w7 ⟨rfl, hb⟩; refine ⟨_, rfl, ?_⟩; have n0_ := Aside0.mk (below_step (by repeat (first | (with_reducible first | exact HB.out | apply below_alloc | apply pw_below_drewN | apply below_drew1) | exact HB.out)) hb); clear HB; have HB := n0_; clear n0_; (try clear hb); (try clear hb2); (try clear hk); (try clear hi)))
    (try simp only [Act.put, List.setIfInBounds_toArray, List.set_cons_zero, List.set_cons_succ])
    go_cut [25] (fun v25 wc => ∃ (kq : Nat) (x25_5 : Bool), v25 = .bool x25_5 ∧ Aside0 (roundhouselaw1_SumWrong.j0 kq l0 a1 a2 x25_5 = some r) ∧ Aside0 (kq ≤ k) ∧ Aside0 (Below w.heap.size w wc))
    case first =>
      have H := HC6.out
      clear HC6
      by_cases c8 : (l0.length : Int) > 2000
      · rw [if_pos c8] at H
        have c8b0 : decide (2000 < (l0.length : Int)) = true := decide_eq_true c8
        have c8b1 : decide (2000 < l0.length) = true := decide_eq_true (by omega)
        clear c8
        (first | rw [c8b0] | (simp only [i64_w, i32_w]; rw [c8b0]) | skip)
        have H' := Aside0.mk H
        clear H
        go_wp2
        go_meet
        case rel => exact ⟨_, (true), (by first | rfl | (simp; done) | (simp [*]; done)), H', ⟨by first | omega | exact Nat.le_refl _⟩, ⟨by repeat (first | (with_reducible first | exact HB.out | apply below_alloc | apply pw_below_drewN | apply below_drew1) | exact HB.out)⟩⟩
      · rw [if_neg c8] at H
        have c8b0 : decide (2000 < (l0.length : Int)) = false := decide_eq_false c8
        have c8b1 : decide (2000 < l0.length) = false := decide_eq_false (by omega)
        clear c8
        (first | rw [c8b0] | (simp only [i64_w, i32_w]; rw [c8b0]) | skip)
        have H' := Aside0.mk H
        clear H
        go_wp2
        go_meet
        case rel => exact ⟨_, (decide ((l0.length : Int) < 6)), (by first | rfl | (simp; done) | (simp [*]; done)), H', ⟨by first | omega | exact Nat.le_refl _⟩, ⟨by repeat (first | (with_reducible first | exact HB.out | apply below_alloc | apply pw_below_drewN | apply below_drew1) | exact HB.out)⟩⟩
    case rest =>
      clear HC6
      try clear c1
      try clear p2
      try clear c5
      try clear c7
      try clear c8
      try clear c8b0
      try clear c8b1
      obtain ⟨kq, x25_5, rfl, HA, HJ5, HB⟩ := hcut
      cases kq with
      | zero => exact absurd HA.out (by simp [roundhouselaw1_SumWrong.j0])
      | succ kj5 =>
        have H := HA.out
        clear HA
        simp only [roundhouselaw1_SumWrong.j0] at H
        by_cases c9 : x25_5 = true
        · subst c9
          have H1 : (some true) = some r := by rw [if_pos rfl] at H; exact H
          clear H
          have H := H1
          clear H1
          obtain rfl := Option.some.inj H
          go_wp2
          go_ret
          exact ⟨by first | rfl | (simp [errW_none, errW_some] <;> rfl) | (simp [*, errW_none, errW_some] <;> rfl), by repeat (first | (with_reducible first | exact HB.out | apply below_alloc | apply pw_below_drewN | apply below_drew1) | exact HB.out)⟩
        · replace c9 := Bool.eq_false_iff.mpr c9
          subst c9
          have H1 : ((some (([] : List Int) : List Int)).bind fun y206 => (if 0 ≤ (wrap64 ((wrap64 ((l0.length : Int) / 2)) * 2)) then (if (wrap64 ((wrap64 ((l0.length : Int) / 2)) * 2)) ≤ (l0.length : Int) then (if y206.length + (l0.take ((wrap64 ((wrap64 ((l0.length : Int) / 2)) * 2)) : Int).toNat).length < 140737488355328 then ((some (y206 ++ (l0.take ((wrap64 ((wrap64 ((l0.length : Int) / 2)) * 2)) : Int).toNat) : List Int)).bind fun y210 => ((sum_Right.f kj5 y210).bind fun t213 => ((roundhouselaw1_within.f a1 (wrap64 ((wrap64 ((y210.length : Int) / 2)) - 1))).bind fun t214 => ((roundhouselaw1_within.f a2 65536).bind fun t215 => (if 0 ≤ (wrap64 (2 * (wrap64 ((wrap64 ((y210.length : Int) / 2)) - 1)))) then (if (wrap64 (2 * (wrap64 ((wrap64 ((y210.length : Int) / 2)) - 1)))) < (y210.length : Int) then (if 0 ≤ (wrap64 ((wrap64 (2 * (wrap64 ((wrap64 ((y210.length : Int) / 2)) - 1)))) + 1)) then (if (wrap64 ((wrap64 (2 * (wrap64 ((wrap64 ((y210.length : Int) / 2)) - 1)))) + 1)) < (y210.length : Int) then (if 0 ≤ (wrap64 (2 * t214)) then (if (wrap64 (2 * t214)) < (y210.length : Int) then (if 0 ≤ (wrap64 ((wrap64 (2 * t214)) + 1)) then (if (wrap64 ((wrap64 (2 * t214)) + 1)) < (y210.length : Int) then ((sum_Turn.f (Go.bits .or .i64 (wrap64 ((wrap64 (rd y210 (wrap64 (2 * (wrap64 ((wrap64 ((y210.length : Int) / 2)) - 1)))))) * 256)) (wrap64 (rd y210 (wrap64 ((wrap64 (2 * (wrap64 ((wrap64 ((y210.length : Int) / 2)) - 1)))) + 1))))) (Go.bits .or .i64 (wrap64 ((wrap64 (rd y210 (wrap64 (2 * t214)))) * 256)) (wrap64 (rd y210 (wrap64 ((wrap64 (2 * t214)) + 1))))) t215).bind fun t220 => ((some ((y210.set ((wrap64 (2 * t214)) : Int).toNat ((t215 / 256) % 256)).set ((wrap64 ((wrap64 (2 * t214)) + 1)) : Int).toNat ((t215) % 256) : List Int)).bind fun y222 => (if t220 < 0 then (roundhouselaw1_SumWrong.j1 kj5 l0 y222 t213 (wrap64 ((wrap64 ((y210.length : Int) / 2)) - 1)) t220 true) else (roundhouselaw1_SumWrong.j1 kj5 l0 y222 t213 (wrap64 ((wrap64 ((y210.length : Int) / 2)) - 1)) t220 (decide (t220 > 65535)))))) else (none)) else (none)) else (none)) else (none)) else (none)) else (none)) else (none)) else (none)))))) else (none)) else (none)) else (none))) = some r := by rw [if_neg (show ¬ (false = true) by decide)] at H; exact H
          clear H
          have H := H1
          clear H1
          obtain ⟨y206, hy206⟩ : ∃ y_ : List Int, y_ = (([] : List Int)) := ⟨_, rfl⟩
          replace H : (if 0 ≤ (wrap64 ((wrap64 ((l0.length : Int) / 2)) * 2)) then (if (wrap64 ((wrap64 ((l0.length : Int) / 2)) * 2)) ≤ (l0.length : Int) then (if y206.length + (l0.take ((wrap64 ((wrap64 ((l0.length : Int) / 2)) * 2)) : Int).toNat).length < 140737488355328 then ((some (y206 ++ (l0.take ((wrap64 ((wrap64 ((l0.length : Int) / 2)) * 2)) : Int).toNat) : List Int)).bind fun y210 => ((sum_Right.f kj5 y210).bind fun t213 => ((roundhouselaw1_within.f a1 (wrap64 ((wrap64 ((y210.length : Int) / 2)) - 1))).bind fun t214 => ((roundhouselaw1_within.f a2 65536).bind fun t215 => (if 0 ≤ (wrap64 (2 * (wrap64 ((wrap64 ((y210.length : Int) / 2)) - 1)))) then (if (wrap64 (2 * (wrap64 ((wrap64 ((y210.length : Int) / 2)) - 1)))) < (y210.length : Int) then (if 0 ≤ (wrap64 ((wrap64 (2 * (wrap64 ((wrap64 ((y210.length : Int) / 2)) - 1)))) + 1)) then (if (wrap64 ((wrap64 (2 * (wrap64 ((wrap64 ((y210.length : Int) / 2)) - 1)))) + 1)) < (y210.length : Int) then (if 0 ≤ (wrap64 (2 * t214)) then (if (wrap64 (2 * t214)) < (y210.length : Int) then (if 0 ≤ (wrap64 ((wrap64 (2 * t214)) + 1)) then (if (wrap64 ((wrap64 (2 * t214)) + 1)) < (y210.length : Int) then ((sum_Turn.f (Go.bits .or .i64 (wrap64 ((wrap64 (rd y210 (wrap64 (2 * (wrap64 ((wrap64 ((y210.length : Int) / 2)) - 1)))))) * 256)) (wrap64 (rd y210 (wrap64 ((wrap64 (2 * (wrap64 ((wrap64 ((y210.length : Int) / 2)) - 1)))) + 1))))) (Go.bits .or .i64 (wrap64 ((wrap64 (rd y210 (wrap64 (2 * t214)))) * 256)) (wrap64 (rd y210 (wrap64 ((wrap64 (2 * t214)) + 1))))) t215).bind fun t220 => ((some ((y210.set ((wrap64 (2 * t214)) : Int).toNat ((t215 / 256) % 256)).set ((wrap64 ((wrap64 (2 * t214)) + 1)) : Int).toNat ((t215) % 256) : List Int)).bind fun y222 => (if t220 < 0 then (roundhouselaw1_SumWrong.j1 kj5 l0 y222 t213 (wrap64 ((wrap64 ((y210.length : Int) / 2)) - 1)) t220 true) else (roundhouselaw1_SumWrong.j1 kj5 l0 y222 t213 (wrap64 ((wrap64 ((y210.length : Int) / 2)) - 1)) t220 (decide (t220 > 65535)))))) else (none)) else (none)) else (none)) else (none)) else (none)) else (none)) else (none)) else (none)))))) else (none)) else (none)) else (none)) = some r := by first | (rw [hy206]; with_reducible exact H) | (have H2_ := (Option.bind_some _ _).symm.trans H; rw [hy206]; with_reducible exact H2_) | (have H2_ := (Option.bind_some _ _).symm.trans H; with_reducible exact H2_) | with_reducible exact H | (rw [hy206]; exact H) | exact H
          have Ny206 := Aside0.mk hy206
          clear hy206
          obtain ⟨ji10, hji10⟩ : ∃ j_ : Int, (wrap64 ((wrap64 ((l0.length : Int) / 2)) * 2)) = j_ := ⟨_, rfl⟩
          replace H : (if 0 ≤ (ji10) then (if (ji10) ≤ (l0.length : Int) then (if y206.length + (l0.take ((ji10) : Int).toNat).length < 140737488355328 then ((some (y206 ++ (l0.take ((ji10) : Int).toNat) : List Int)).bind fun y210 => ((sum_Right.f kj5 y210).bind fun t213 => ((roundhouselaw1_within.f a1 (wrap64 ((wrap64 ((y210.length : Int) / 2)) - 1))).bind fun t214 => ((roundhouselaw1_within.f a2 65536).bind fun t215 => (if 0 ≤ (wrap64 (2 * (wrap64 ((wrap64 ((y210.length : Int) / 2)) - 1)))) then (if (wrap64 (2 * (wrap64 ((wrap64 ((y210.length : Int) / 2)) - 1)))) < (y210.length : Int) then (if 0 ≤ (wrap64 ((wrap64 (2 * (wrap64 ((wrap64 ((y210.length : Int) / 2)) - 1)))) + 1)) then (if (wrap64 ((wrap64 (2 * (wrap64 ((wrap64 ((y210.length : Int) / 2)) - 1)))) + 1)) < (y210.length : Int) then (if 0 ≤ (wrap64 (2 * t214)) then (if (wrap64 (2 * t214)) < (y210.length : Int) then (if 0 ≤ (wrap64 ((wrap64 (2 * t214)) + 1)) then (if (wrap64 ((wrap64 (2 * t214)) + 1)) < (y210.length : Int) then ((sum_Turn.f (Go.bits .or .i64 (wrap64 ((wrap64 (rd y210 (wrap64 (2 * (wrap64 ((wrap64 ((y210.length : Int) / 2)) - 1)))))) * 256)) (wrap64 (rd y210 (wrap64 ((wrap64 (2 * (wrap64 ((wrap64 ((y210.length : Int) / 2)) - 1)))) + 1))))) (Go.bits .or .i64 (wrap64 ((wrap64 (rd y210 (wrap64 (2 * t214)))) * 256)) (wrap64 (rd y210 (wrap64 ((wrap64 (2 * t214)) + 1))))) t215).bind fun t220 => ((some ((y210.set ((wrap64 (2 * t214)) : Int).toNat ((t215 / 256) % 256)).set ((wrap64 ((wrap64 (2 * t214)) + 1)) : Int).toNat ((t215) % 256) : List Int)).bind fun y222 => (if t220 < 0 then (roundhouselaw1_SumWrong.j1 kj5 l0 y222 t213 (wrap64 ((wrap64 ((y210.length : Int) / 2)) - 1)) t220 true) else (roundhouselaw1_SumWrong.j1 kj5 l0 y222 t213 (wrap64 ((wrap64 ((y210.length : Int) / 2)) - 1)) t220 (decide (t220 > 65535)))))) else (none)) else (none)) else (none)) else (none)) else (none)) else (none)) else (none)) else (none)))))) else (none)) else (none)) else (none)) = some r := by first | (rw [hji10] at H; exact H) | (simp only [hji10] at H ⊢; exact H)
          have hji10w : (IntKind.i64.wrap ((wrap64 ((l0.length : Int) / 2)) * 2)) = ji10 := (i64_w _).trans hji10
          by_cases c11 : 0 ≤ (ji10)
          · rw [if_pos c11] at H
            have c11b0 := eq_true c11
            have c11b1 : decide (0 ≤ (ji10)) = true := decide_eq_true c11
            clear c11
            by_cases c12 : (ji10) ≤ (l0.length : Int)
            · rw [if_pos c12] at H
              have c12b0 := eq_true c12
              have c12b1 : decide ((ji10) ≤ (l0.length : Int)) = true := decide_eq_true c12
              clear c12
              by_cases c13 : y206.length + (l0.take ((ji10) : Int).toNat).length < 140737488355328
              · rw [if_pos c13] at H
                have LMc13 := Aside0.mk c13
                clear c13
                obtain ⟨y210, hy210⟩ : ∃ y_ : List Int, y_ = (y206 ++ (l0.take ((ji10) : Int).toNat)) := ⟨_, rfl⟩
                replace H : ((sum_Right.f kj5 y210).bind fun t213 => ((roundhouselaw1_within.f a1 (wrap64 ((wrap64 ((y210.length : Int) / 2)) - 1))).bind fun t214 => ((roundhouselaw1_within.f a2 65536).bind fun t215 => (if 0 ≤ (wrap64 (2 * (wrap64 ((wrap64 ((y210.length : Int) / 2)) - 1)))) then (if (wrap64 (2 * (wrap64 ((wrap64 ((y210.length : Int) / 2)) - 1)))) < (y210.length : Int) then (if 0 ≤ (wrap64 ((wrap64 (2 * (wrap64 ((wrap64 ((y210.length : Int) / 2)) - 1)))) + 1)) then (if (wrap64 ((wrap64 (2 * (wrap64 ((wrap64 ((y210.length : Int) / 2)) - 1)))) + 1)) < (y210.length : Int) then (if 0 ≤ (wrap64 (2 * t214)) then (if (wrap64 (2 * t214)) < (y210.length : Int) then (if 0 ≤ (wrap64 ((wrap64 (2 * t214)) + 1)) then (if (wrap64 ((wrap64 (2 * t214)) + 1)) < (y210.length : Int) then ((sum_Turn.f (Go.bits .or .i64 (wrap64 ((wrap64 (rd y210 (wrap64 (2 * (wrap64 ((wrap64 ((y210.length : Int) / 2)) - 1)))))) * 256)) (wrap64 (rd y210 (wrap64 ((wrap64 (2 * (wrap64 ((wrap64 ((y210.length : Int) / 2)) - 1)))) + 1))))) (Go.bits .or .i64 (wrap64 ((wrap64 (rd y210 (wrap64 (2 * t214)))) * 256)) (wrap64 (rd y210 (wrap64 ((wrap64 (2 * t214)) + 1))))) t215).bind fun t220 => ((some ((y210.set ((wrap64 (2 * t214)) : Int).toNat ((t215 / 256) % 256)).set ((wrap64 ((wrap64 (2 * t214)) + 1)) : Int).toNat ((t215) % 256) : List Int)).bind fun y222 => (if t220 < 0 then (roundhouselaw1_SumWrong.j1 kj5 l0 y222 t213 (wrap64 ((wrap64 ((y210.length : Int) / 2)) - 1)) t220 true) else (roundhouselaw1_SumWrong.j1 kj5 l0 y222 t213 (wrap64 ((wrap64 ((y210.length : Int) / 2)) - 1)) t220 (decide (t220 > 65535)))))) else (none)) else (none)) else (none)) else (none)) else (none)) else (none)) else (none)) else (none))))) = some r := by first | (rw [hy210]; with_reducible exact H) | (have H2_ := (Option.bind_some _ _).symm.trans H; rw [hy210]; with_reducible exact H2_) | (have H2_ := (Option.bind_some _ _).symm.trans H; with_reducible exact H2_) | with_reducible exact H | (rw [hy210]; exact H) | exact H
                have Ny210 := Aside0.mk hy210
                clear hy210
                replace H := Option.bind_eq_some_iff.mp H
                obtain ⟨t213, A140, H⟩ := H
                replace H : ((roundhouselaw1_within.f a1 (wrap64 ((wrap64 ((y210.length : Int) / 2)) - 1))).bind fun t214 => ((roundhouselaw1_within.f a2 65536).bind fun t215 => (if 0 ≤ (wrap64 (2 * (wrap64 ((wrap64 ((y210.length : Int) / 2)) - 1)))) then (if (wrap64 (2 * (wrap64 ((wrap64 ((y210.length : Int) / 2)) - 1)))) < (y210.length : Int) then (if 0 ≤ (wrap64 ((wrap64 (2 * (wrap64 ((wrap64 ((y210.length : Int) / 2)) - 1)))) + 1)) then (if (wrap64 ((wrap64 (2 * (wrap64 ((wrap64 ((y210.length : Int) / 2)) - 1)))) + 1)) < (y210.length : Int) then (if 0 ≤ (wrap64 (2 * t214)) then (if (wrap64 (2 * t214)) < (y210.length : Int) then (if 0 ≤ (wrap64 ((wrap64 (2 * t214)) + 1)) then (if (wrap64 ((wrap64 (2 * t214)) + 1)) < (y210.length : Int) then ((sum_Turn.f (Go.bits .or .i64 (wrap64 ((wrap64 (rd y210 (wrap64 (2 * (wrap64 ((wrap64 ((y210.length : Int) / 2)) - 1)))))) * 256)) (wrap64 (rd y210 (wrap64 ((wrap64 (2 * (wrap64 ((wrap64 ((y210.length : Int) / 2)) - 1)))) + 1))))) (Go.bits .or .i64 (wrap64 ((wrap64 (rd y210 (wrap64 (2 * t214)))) * 256)) (wrap64 (rd y210 (wrap64 ((wrap64 (2 * t214)) + 1))))) t215).bind fun t220 => ((some ((y210.set ((wrap64 (2 * t214)) : Int).toNat ((t215 / 256) % 256)).set ((wrap64 ((wrap64 (2 * t214)) + 1)) : Int).toNat ((t215) % 256) : List Int)).bind fun y222 => (if t220 < 0 then (roundhouselaw1_SumWrong.j1 kj5 l0 y222 t213 (wrap64 ((wrap64 ((y210.length : Int) / 2)) - 1)) t220 true) else (roundhouselaw1_SumWrong.j1 kj5 l0 y222 t213 (wrap64 ((wrap64 ((y210.length : Int) / 2)) - 1)) t220 (decide (t220 > 65535)))))) else (none)) else (none)) else (none)) else (none)) else (none)) else (none)) else (none)) else (none)))) = some r := H
                have A14 := Aside0.mk A140
                clear A140
                replace H := Option.bind_eq_some_iff.mp H
                obtain ⟨t214, A150, H⟩ := H
                replace H : ((roundhouselaw1_within.f a2 65536).bind fun t215 => (if 0 ≤ (wrap64 (2 * (wrap64 ((wrap64 ((y210.length : Int) / 2)) - 1)))) then (if (wrap64 (2 * (wrap64 ((wrap64 ((y210.length : Int) / 2)) - 1)))) < (y210.length : Int) then (if 0 ≤ (wrap64 ((wrap64 (2 * (wrap64 ((wrap64 ((y210.length : Int) / 2)) - 1)))) + 1)) then (if (wrap64 ((wrap64 (2 * (wrap64 ((wrap64 ((y210.length : Int) / 2)) - 1)))) + 1)) < (y210.length : Int) then (if 0 ≤ (wrap64 (2 * t214)) then (if (wrap64 (2 * t214)) < (y210.length : Int) then (if 0 ≤ (wrap64 ((wrap64 (2 * t214)) + 1)) then (if (wrap64 ((wrap64 (2 * t214)) + 1)) < (y210.length : Int) then ((sum_Turn.f (Go.bits .or .i64 (wrap64 ((wrap64 (rd y210 (wrap64 (2 * (wrap64 ((wrap64 ((y210.length : Int) / 2)) - 1)))))) * 256)) (wrap64 (rd y210 (wrap64 ((wrap64 (2 * (wrap64 ((wrap64 ((y210.length : Int) / 2)) - 1)))) + 1))))) (Go.bits .or .i64 (wrap64 ((wrap64 (rd y210 (wrap64 (2 * t214)))) * 256)) (wrap64 (rd y210 (wrap64 ((wrap64 (2 * t214)) + 1))))) t215).bind fun t220 => ((some ((y210.set ((wrap64 (2 * t214)) : Int).toNat ((t215 / 256) % 256)).set ((wrap64 ((wrap64 (2 * t214)) + 1)) : Int).toNat ((t215) % 256) : List Int)).bind fun y222 => (if t220 < 0 then (roundhouselaw1_SumWrong.j1 kj5 l0 y222 t213 (wrap64 ((wrap64 ((y210.length : Int) / 2)) - 1)) t220 true) else (roundhouselaw1_SumWrong.j1 kj5 l0 y222 t213 (wrap64 ((wrap64 ((y210.length : Int) / 2)) - 1)) t220 (decide (t220 > 65535)))))) else (none)) else (none)) else (none)) else (none)) else (none)) else (none)) else (none)) else (none))) = some r := H
                have A15 := Aside0.mk A150
                clear A150
                replace H := Option.bind_eq_some_iff.mp H
                obtain ⟨t215, A160, H⟩ := H
                replace H : (if 0 ≤ (wrap64 (2 * (wrap64 ((wrap64 ((y210.length : Int) / 2)) - 1)))) then (if (wrap64 (2 * (wrap64 ((wrap64 ((y210.length : Int) / 2)) - 1)))) < (y210.length : Int) then (if 0 ≤ (wrap64 ((wrap64 (2 * (wrap64 ((wrap64 ((y210.length : Int) / 2)) - 1)))) + 1)) then (if (wrap64 ((wrap64 (2 * (wrap64 ((wrap64 ((y210.length : Int) / 2)) - 1)))) + 1)) < (y210.length : Int) then (if 0 ≤ (wrap64 (2 * t214)) then (if (wrap64 (2 * t214)) < (y210.length : Int) then (if 0 ≤ (wrap64 ((wrap64 (2 * t214)) + 1)) then (if (wrap64 ((wrap64 (2 * t214)) + 1)) < (y210.length : Int) then ((sum_Turn.f (Go.bits .or .i64 (wrap64 ((wrap64 (rd y210 (wrap64 (2 * (wrap64 ((wrap64 ((y210.length : Int) / 2)) - 1)))))) * 256)) (wrap64 (rd y210 (wrap64 ((wrap64 (2 * (wrap64 ((wrap64 ((y210.length : Int) / 2)) - 1)))) + 1))))) (Go.bits .or .i64 (wrap64 ((wrap64 (rd y210 (wrap64 (2 * t214)))) * 256)) (wrap64 (rd y210 (wrap64 ((wrap64 (2 * t214)) + 1))))) t215).bind fun t220 => ((some ((y210.set ((wrap64 (2 * t214)) : Int).toNat ((t215 / 256) % 256)).set ((wrap64 ((wrap64 (2 * t214)) + 1)) : Int).toNat ((t215) % 256) : List Int)).bind fun y222 => (if t220 < 0 then (roundhouselaw1_SumWrong.j1 kj5 l0 y222 t213 (wrap64 ((wrap64 ((y210.length : Int) / 2)) - 1)) t220 true) else (roundhouselaw1_SumWrong.j1 kj5 l0 y222 t213 (wrap64 ((wrap64 ((y210.length : Int) / 2)) - 1)) t220 (decide (t220 > 65535)))))) else (none)) else (none)) else (none)) else (none)) else (none)) else (none)) else (none)) else (none)) = some r := H
                have A16 := Aside0.mk A160
                clear A160
                obtain ⟨ji17, hji17⟩ : ∃ j_ : Int, (wrap64 (2 * (wrap64 ((wrap64 ((y210.length : Int) / 2)) - 1)))) = j_ := ⟨_, rfl⟩
                replace H : (if 0 ≤ (ji17) then (if (ji17) < (y210.length : Int) then (if 0 ≤ (wrap64 ((ji17) + 1)) then (if (wrap64 ((ji17) + 1)) < (y210.length : Int) then (if 0 ≤ (wrap64 (2 * t214)) then (if (wrap64 (2 * t214)) < (y210.length : Int) then (if 0 ≤ (wrap64 ((wrap64 (2 * t214)) + 1)) then (if (wrap64 ((wrap64 (2 * t214)) + 1)) < (y210.length : Int) then ((sum_Turn.f (Go.bits .or .i64 (wrap64 ((wrap64 (rd y210 (ji17))) * 256)) (wrap64 (rd y210 (wrap64 ((ji17) + 1))))) (Go.bits .or .i64 (wrap64 ((wrap64 (rd y210 (wrap64 (2 * t214)))) * 256)) (wrap64 (rd y210 (wrap64 ((wrap64 (2 * t214)) + 1))))) t215).bind fun t220 => ((some ((y210.set ((wrap64 (2 * t214)) : Int).toNat ((t215 / 256) % 256)).set ((wrap64 ((wrap64 (2 * t214)) + 1)) : Int).toNat ((t215) % 256) : List Int)).bind fun y222 => (if t220 < 0 then (roundhouselaw1_SumWrong.j1 kj5 l0 y222 t213 (wrap64 ((wrap64 ((y210.length : Int) / 2)) - 1)) t220 true) else (roundhouselaw1_SumWrong.j1 kj5 l0 y222 t213 (wrap64 ((wrap64 ((y210.length : Int) / 2)) - 1)) t220 (decide (t220 > 65535)))))) else (none)) else (none)) else (none)) else (none)) else (none)) else (none)) else (none)) else (none)) = some r := by first | (rw [hji17] at H; exact H) | (simp only [hji17] at H ⊢; exact H)
                (try rw [hji17] at A14)
                (try rw [hji17] at A15)
                (try rw [hji17] at A16)
                have hji17w : (IntKind.i64.wrap (2 * (wrap64 ((wrap64 ((y210.length : Int) / 2)) - 1)))) = ji17 := (i64_w _).trans hji17
                by_cases c18 : 0 ≤ (ji17)
                · rw [if_pos c18] at H
                  have c18b0 : decide (0 ≤ (ji17)) = true := decide_eq_true c18
                  clear c18
                  by_cases c19 : (ji17) < (y210.length : Int)
                  · rw [if_pos c19] at H
                    have c19b0 : decide ((ji17) < (y210.length : Int)) = true := decide_eq_true c19
                    clear c19
                    obtain ⟨ji20, hji20⟩ : ∃ j_ : Int, (wrap64 ((ji17) + 1)) = j_ := ⟨_, rfl⟩
                    replace H : (if 0 ≤ (ji20) then (if (ji20) < (y210.length : Int) then (if 0 ≤ (wrap64 (2 * t214)) then (if (wrap64 (2 * t214)) < (y210.length : Int) then (if 0 ≤ (wrap64 ((wrap64 (2 * t214)) + 1)) then (if (wrap64 ((wrap64 (2 * t214)) + 1)) < (y210.length : Int) then ((sum_Turn.f (Go.bits .or .i64 (wrap64 ((wrap64 (rd y210 (ji17))) * 256)) (wrap64 (rd y210 (ji20)))) (Go.bits .or .i64 (wrap64 ((wrap64 (rd y210 (wrap64 (2 * t214)))) * 256)) (wrap64 (rd y210 (wrap64 ((wrap64 (2 * t214)) + 1))))) t215).bind fun t220 => ((some ((y210.set ((wrap64 (2 * t214)) : Int).toNat ((t215 / 256) % 256)).set ((wrap64 ((wrap64 (2 * t214)) + 1)) : Int).toNat ((t215) % 256) : List Int)).bind fun y222 => (if t220 < 0 then (roundhouselaw1_SumWrong.j1 kj5 l0 y222 t213 (wrap64 ((wrap64 ((y210.length : Int) / 2)) - 1)) t220 true) else (roundhouselaw1_SumWrong.j1 kj5 l0 y222 t213 (wrap64 ((wrap64 ((y210.length : Int) / 2)) - 1)) t220 (decide (t220 > 65535)))))) else (none)) else (none)) else (none)) else (none)) else (none)) else (none)) = some r := by first | (rw [hji20] at H; exact H) | (simp only [hji20] at H ⊢; exact H)
                    (try rw [hji20] at A14)
                    (try rw [hji20] at A15)
                    (try rw [hji20] at A16)
                    have hji20w : (IntKind.i64.wrap ((ji17) + 1)) = ji20 := (i64_w _).trans hji20
                    by_cases c21 : 0 ≤ (ji20)
                    · rw [if_pos c21] at H
                      have c21b0 : decide (0 ≤ (ji20)) = true := decide_eq_true c21
                      clear c21
                      by_cases c22 : (ji20) < (y210.length : Int)
                      · rw [if_pos c22] at H
                        have c22b0 : decide ((ji20) < (y210.length : Int)) = true := decide_eq_true c22
                        clear c22
                        obtain ⟨ji23, hji23⟩ : ∃ j_ : Int, (wrap64 (2 * t214)) = j_ := ⟨_, rfl⟩
                        replace H : (if 0 ≤ (ji23) then (if (ji23) < (y210.length : Int) then (if 0 ≤ (wrap64 ((ji23) + 1)) then (if (wrap64 ((ji23) + 1)) < (y210.length : Int) then ((sum_Turn.f (Go.bits .or .i64 (wrap64 ((wrap64 (rd y210 (ji17))) * 256)) (wrap64 (rd y210 (ji20)))) (Go.bits .or .i64 (wrap64 ((wrap64 (rd y210 (ji23))) * 256)) (wrap64 (rd y210 (wrap64 ((ji23) + 1))))) t215).bind fun t220 => ((some ((y210.set ((ji23) : Int).toNat ((t215 / 256) % 256)).set ((wrap64 ((ji23) + 1)) : Int).toNat ((t215) % 256) : List Int)).bind fun y222 => (if t220 < 0 then (roundhouselaw1_SumWrong.j1 kj5 l0 y222 t213 (wrap64 ((wrap64 ((y210.length : Int) / 2)) - 1)) t220 true) else (roundhouselaw1_SumWrong.j1 kj5 l0 y222 t213 (wrap64 ((wrap64 ((y210.length : Int) / 2)) - 1)) t220 (decide (t220 > 65535)))))) else (none)) else (none)) else (none)) else (none)) = some r := by first | (rw [hji23] at H; exact H) | (simp only [hji23] at H ⊢; exact H)
                        (try rw [hji23] at A14)
                        (try rw [hji23] at A15)
                        (try rw [hji23] at A16)
                        have hji23w : (IntKind.i64.wrap (2 * t214)) = ji23 := (i64_w _).trans hji23
                        by_cases c24 : 0 ≤ (ji23)
                        · rw [if_pos c24] at H
                          have c24b0 : decide (0 ≤ (ji23)) = true := decide_eq_true c24
                          clear c24
                          by_cases c25 : (ji23) < (y210.length : Int)
                          · rw [if_pos c25] at H
                            have c25b0 : decide ((ji23) < (y210.length : Int)) = true := decide_eq_true c25
                            clear c25
                            obtain ⟨ji26, hji26⟩ : ∃ j_ : Int, (wrap64 ((ji23) + 1)) = j_ := ⟨_, rfl⟩
                            replace H : (if 0 ≤ (ji26) then (if (ji26) < (y210.length : Int) then ((sum_Turn.f (Go.bits .or .i64 (wrap64 ((wrap64 (rd y210 (ji17))) * 256)) (wrap64 (rd y210 (ji20)))) (Go.bits .or .i64 (wrap64 ((wrap64 (rd y210 (ji23))) * 256)) (wrap64 (rd y210 (ji26)))) t215).bind fun t220 => ((some ((y210.set ((ji23) : Int).toNat ((t215 / 256) % 256)).set ((ji26) : Int).toNat ((t215) % 256) : List Int)).bind fun y222 => (if t220 < 0 then (roundhouselaw1_SumWrong.j1 kj5 l0 y222 t213 (wrap64 ((wrap64 ((y210.length : Int) / 2)) - 1)) t220 true) else (roundhouselaw1_SumWrong.j1 kj5 l0 y222 t213 (wrap64 ((wrap64 ((y210.length : Int) / 2)) - 1)) t220 (decide (t220 > 65535)))))) else (none)) else (none)) = some r := by first | (rw [hji26] at H; exact H) | (simp only [hji26] at H ⊢; exact H)
                            (try rw [hji26] at A14)
                            (try rw [hji26] at A15)
                            (try rw [hji26] at A16)
                            have hji26w : (IntKind.i64.wrap ((ji23) + 1)) = ji26 := (i64_w _).trans hji26
                            by_cases c27 : 0 ≤ (ji26)
                            · rw [if_pos c27] at H
                              have c27b0 : decide (0 ≤ (ji26)) = true := decide_eq_true c27
                              clear c27
                              by_cases c28 : (ji26) < (y210.length : Int)
                              · rw [if_pos c28] at H
                                have c28b0 : decide ((ji26) < (y210.length : Int)) = true := decide_eq_true c28
                                clear c28
                                replace H := Option.bind_eq_some_iff.mp H
                                obtain ⟨t220, A290, H⟩ := H
                                replace H : ((some ((y210.set ((ji23) : Int).toNat ((t215 / 256) % 256)).set ((ji26) : Int).toNat ((t215) % 256) : List Int)).bind fun y222 => (if t220 < 0 then (roundhouselaw1_SumWrong.j1 kj5 l0 y222 t213 (wrap64 ((wrap64 ((y210.length : Int) / 2)) - 1)) t220 true) else (roundhouselaw1_SumWrong.j1 kj5 l0 y222 t213 (wrap64 ((wrap64 ((y210.length : Int) / 2)) - 1)) t220 (decide (t220 > 65535))))) = some r := H
                                have A29 := Aside0.mk A290
                                clear A290
                                obtain ⟨y221, hy221⟩ : ∃ y_ : List Int, y_ = (y210.set ((ji23) : Int).toNat ((t215 / 256) % 256)) := ⟨_, rfl⟩
                                replace H : ((some (y221.set ((ji26) : Int).toNat ((t215) % 256) : List Int)).bind fun y222 => (if t220 < 0 then (roundhouselaw1_SumWrong.j1 kj5 l0 y222 t213 (wrap64 ((wrap64 ((y210.length : Int) / 2)) - 1)) t220 true) else (roundhouselaw1_SumWrong.j1 kj5 l0 y222 t213 (wrap64 ((wrap64 ((y210.length : Int) / 2)) - 1)) t220 (decide (t220 > 65535))))) = some r := by first | (rw [hy221]; with_reducible exact H) | (have H2_ := (Option.bind_some _ _).symm.trans H; rw [hy221]; with_reducible exact H2_) | (have H2_ := (Option.bind_some _ _).symm.trans H; with_reducible exact H2_) | with_reducible exact H | (rw [hy221]; exact H) | exact H
                                have Ny221 := Aside0.mk hy221
                                clear hy221
                                obtain ⟨y222, hy222⟩ : ∃ y_ : List Int, y_ = (y221.set ((ji26) : Int).toNat ((t215) % 256)) := ⟨_, rfl⟩
                                replace H : (if t220 < 0 then (roundhouselaw1_SumWrong.j1 kj5 l0 y222 t213 (wrap64 ((wrap64 ((y210.length : Int) / 2)) - 1)) t220 true) else (roundhouselaw1_SumWrong.j1 kj5 l0 y222 t213 (wrap64 ((wrap64 ((y210.length : Int) / 2)) - 1)) t220 (decide (t220 > 65535)))) = some r := by first | (rw [hy222]; with_reducible exact H) | (have H2_ := (Option.bind_some _ _).symm.trans H; rw [hy222]; with_reducible exact H2_) | (have H2_ := (Option.bind_some _ _).symm.trans H; with_reducible exact H2_) | with_reducible exact H | (rw [hy222]; exact H) | exact H
                                have Ny222 := Aside0.mk hy222
                                clear hy222
                                have HC32 := Aside0.mk H
                                clear H
                                try go_wp2_with (first | ((with_reducible refine gate_dst (N := 26) rfl ?_); (try (refine gate_guard (by rfl) ?_; dsimp only)); refine Kd.R_lit (Kd.int .u8) _ 5 ?hg (N := 26) ?hd (xs := ([] : List Int)) (inner := []) (ok := fun _ => True) (okp := fun _ => True) ?hr ?hp (fun _ hk => hk) trivial (Below.refl _ _) (Nat.le_refl _) (by simp) ?_; (case hd => rfl); (case hg => rfl); (case hr => first | (go_simp; done) | (go_simp; rfl)); (case hp => exact (Reps.none _ _)); intro v207 w33 ho34 hb hg_ hnew_; clear hg_ hnew_; (first | rw [← Ny206.out] at ho34 | (simp only [Int.reduceToNat] at ho34; rw [← Ny206.out] at ho34)); have n0_ := Aside0.mk (Kd.R_lower ho34 (below_size (by repeat (first | (with_reducible first | exact HB.out | apply below_alloc | apply pw_below_drewN | apply below_drew1) | exact HB.out)))); have n1_ := Aside0.mk (below_step (by repeat (first | (with_reducible first | exact HB.out | apply below_alloc | apply pw_below_drewN | apply below_drew1) | exact HB.out)) hb); clear HB; have HO208 := n0_; have HB := n1_; clear n0_ n1_; clear hb ho34; obtain ⟨i035, hi035, _, hsz35, _⟩ := info_parts info5; obtain ⟨hcut35, hA35, hC35⟩ := print_take_of (P := Try.prog) (Value.int .u8) 0 22 5 .i64 Try.underlying22 hi035 hsz35 A0 c0 l0 (ji10) (of_decide_eq_true (by first | (with_reducible assumption) | assumption)) (of_decide_eq_true (by first | (with_reducible assumption) | assumption)) HC0.out; have HR209 := Aside0.mk (Kd.C_of_reads (h1 := fun _ => rfl) (hA35 _ (Kd.reads_of_C HR0.out))); have HC209 := Aside0.mk hC35; clear hA35 hC35 hi035 hsz35) | ((with_reducible refine gate_builtin (b := .append) (xs := #[.tmp 26, .tmp 32]) rfl ?_); (try (refine gate_guard (by rfl) ?_; dsimp only)); at_builtin; refine Kd.R_append_rows (Kd.int .u8) (w0 := w) w.heap.size rfl (.tmp 26) (.tmp 32) 22 5 (.int .u8 0) 1 rfl Try.underlying22 info5 rfl (by decide) (by omega) v207 y206 (l0.take ((ji10) : Int).toNat) _ _ _ (fun _ => True) (fun _ => False) rfl rfl ?aO ?aR (fun _ _ h => h) (fun _ h => h.elim) ?aF ?aB ?aS ?aL ?_; (case aR => first | (have hC_ := (Kd.C_below HR209.out HB.out); rw [show (l0.take ((ji10) : Int).toNat).length = (ji10).toNat from (by rw [List.length_take]; have h_ : ((ji10) : Int) ≤ (l0.length : Int) := of_decide_eq_true (by first | (with_reducible assumption) | assumption); omega)] at hC_; repeat (first | exact hC_ | (with_reducible refine Kd.C_alloc ?_ _) | (with_reducible refine Kd.C_drewN ?_ _) | (with_reducible refine Kd.C_drew ?_))) | (rw [← show (l0.take ((ji10) : Int).toNat).length = (ji10).toNat from (by rw [List.length_take]; have h_ : ((ji10) : Int) ≤ (l0.length : Int) := of_decide_eq_true (by first | (with_reducible assumption) | assumption); omega)]; repeat (first | exact (Kd.C_below HR209.out HB.out) | (with_reducible refine Kd.C_alloc ?_ _) | (with_reducible refine Kd.C_drewN ?_ _) | (with_reducible refine Kd.C_drew ?_))) | (repeat (first | exact (Kd.C_below HR209.out HB.out) | (with_reducible refine Kd.C_alloc ?_ _) | (with_reducible refine Kd.C_drewN ?_ _) | (with_reducible refine Kd.C_drew ?_)))); (case aB => exact (by repeat (first | (with_reducible first | exact HB.out | apply below_alloc | apply pw_below_drewN | apply below_drew1) | exact HB.out))); (case aF => exact (fun _ _ => trivial)); (case aO => exact (by (with_reducible repeat (first | apply Kd.R_alloc | apply Kd.R_drewN | apply Kd.R_drew)); exact HO208.out)); (case aS => exact (below_size (by repeat (first | (with_reducible first | exact HB.out | apply below_alloc | apply pw_below_drewN | apply below_drew1) | exact HB.out)))); (case aL => have := LMc13.out; have hlx_ := (show (l0.take ((ji10) : Int).toNat).length = (ji10).toNat from (by rw [List.length_take]; have h_ : ((ji10) : Int) ≤ (l0.length : Int) := of_decide_eq_true (by first | (with_reducible assumption) | assumption); omega)); omega); intro v211 w36 ho hb hg hat; rw [← Ny210.out] at ho; have n0_ := Aside0.mk (hb); have n1_ := Aside0.mk (ho); clear HB; clear HO208; have HB := n0_; have HO212 := n1_; clear n0_ n1_; clear ho hb hg hat; obtain ⟨Ao37, co37, eo37⟩ := Kd.R_slice HO212.out; subst eo37) | ((with_reducible refine gate_callee (f := 18) rfl ?_); refine goesL_ (some 35) rfl rfl Try.func18 (by kernel_rfl) rfl #[.slice Ao37 y210.length co37] rfl (by (try simp only [List.map_toArray, List.map_cons, List.map_nil]); first | done | rfl | (simp only [List.length_drop, List.length_take]; rfl)) ?_; (with_reducible refine (sum_Right.calls kj5 _ _ y210 t213 _ ?side1 ?side2 A14.out).mono ?_); (case side1 => repeat (first | exact (Kd.R_reads' HO212.out).2.2 | (with_reducible refine Kd.C_alloc ?_ _) | (with_reducible refine Kd.C_drewN ?_ _) | (with_reducible refine Kd.C_drew ?_))); (case side2 => exact (Kd.R_reads' HO212.out).2.1); rintro e w' ⟨rfl, ⟨nd, rfl⟩⟩; refine ⟨_, rfl, ?_⟩; (try (rw [drewN_self w36]; generalize hq_ : World.drewN w36 _ = w36; have n0_ : Aside0 (Kd.R (Kd.int .u8) 5 w36 w.heap.size (fun _ => True) (.slice Ao37 y210.length co37) y210) := ⟨by rw [← hq_]; exact (by (with_reducible repeat (first | apply Kd.R_alloc | apply Kd.R_drewN | apply Kd.R_drew)); exact HO212.out)⟩; have n1_ : Aside0 (Below w.heap.size w w36) := ⟨by rw [← hq_]; exact (by repeat (first | (with_reducible first | exact HB.out | apply below_alloc | apply pw_below_drewN | apply below_drew1) | exact HB.out))⟩; clear HO212 HB hq_; have HO212 := n0_; have HB := n1_; clear n0_ n1_))) | ((with_reducible refine gate_callee (f := 21) rfl ?_); refine goesL_ (some 42) rfl rfl Try.func21 (by kernel_rfl) rfl #[.int .i64 a1, .int .i64 (wrap64 ((wrap64 ((y210.length : Int) / 2)) - 1))] rfl (by (try simp only [List.map_toArray, List.map_cons, List.map_nil]); first | done | rfl | (simp only [List.length_drop, List.length_take]; rfl)) ?_; (with_reducible refine (roundhouselaw1_within.calls a1 (wrap64 ((wrap64 ((y210.length : Int) / 2)) - 1)) t214 _ A15.out).mono ?_); rintro e w' ⟨rfl, ⟨nd, rfl⟩⟩; refine ⟨_, rfl, ?_⟩; (try (rw [drewN_self w36]; generalize hq_ : World.drewN w36 _ = w36; have n0_ : Aside0 (Kd.R (Kd.int .u8) 5 w36 w.heap.size (fun _ => True) (.slice Ao37 y210.length co37) y210) := ⟨by rw [← hq_]; exact (by (with_reducible repeat (first | apply Kd.R_alloc | apply Kd.R_drewN | apply Kd.R_drew)); exact HO212.out)⟩; have n1_ : Aside0 (Below w.heap.size w w36) := ⟨by rw [← hq_]; exact (by repeat (first | (with_reducible first | exact HB.out | apply below_alloc | apply pw_below_drewN | apply below_drew1) | exact HB.out))⟩; clear HO212 HB hq_; have HO212 := n0_; have HB := n1_; clear n0_ n1_))) | ((with_reducible refine gate_callee (f := 21) rfl ?_); refine goesL_ (some 44) rfl rfl Try.func21 (by kernel_rfl) rfl #[.int .i64 a2, .int .i64 65536] rfl (by (try simp only [List.map_toArray, List.map_cons, List.map_nil]); first | done | rfl | (simp only [List.length_drop, List.length_take]; rfl)) ?_; (with_reducible refine (roundhouselaw1_within.calls a2 65536 t215 _ A16.out).mono ?_); rintro e w' ⟨rfl, ⟨nd, rfl⟩⟩; refine ⟨_, rfl, ?_⟩; (try (rw [drewN_self w36]; generalize hq_ : World.drewN w36 _ = w36; have n0_ : Aside0 (Kd.R (Kd.int .u8) 5 w36 w.heap.size (fun _ => True) (.slice Ao37 y210.length co37) y210) := ⟨by rw [← hq_]; exact (by (with_reducible repeat (first | apply Kd.R_alloc | apply Kd.R_drewN | apply Kd.R_drew)); exact HO212.out)⟩; have n1_ : Aside0 (Below w.heap.size w w36) := ⟨by rw [← hq_]; exact (by repeat (first | (with_reducible first | exact HB.out | apply below_alloc | apply pw_below_drewN | apply below_drew1) | exact HB.out))⟩; clear HO212 HB hq_; have HO212 := n0_; have HB := n1_; clear n0_ n1_))))
                                have n0_ := Aside0.mk (Kd.R_drew HO212.out)
                                have n1_ := Aside0.mk (below_drew1 HB.out)
                                clear HO212
                                clear HB
                                have HO212 := n0_
                                have HB := n1_
                                clear n0_ n1_
                                have p216 : 0 ≤ ((ji17) : Int) := of_decide_eq_true (by first | (with_reducible assumption) | assumption)
                                have q216 : (ji17) < (y210.length : Int) := of_decide_eq_true (by first | (with_reducible assumption) | assumption)
                                obtain ⟨ad216, e216, hx216_0⟩ := Kd.at_int (Kd.R_reads' HO212.out).2.2 (ji17) p216 q216
                                cases e216
                                replace p216 := eq_true p216
                                replace q216 := eq_true q216
                                have p217 : 0 ≤ ((ji20) : Int) := of_decide_eq_true (by first | (with_reducible assumption) | assumption)
                                have q217 : (ji20) < (y210.length : Int) := of_decide_eq_true (by first | (with_reducible assumption) | assumption)
                                obtain ⟨ad217, e217, hx217_0⟩ := Kd.at_int (Kd.R_reads' HO212.out).2.2 (ji20) p217 q217
                                obtain rfl : ad216 = ad217 := (by injection e217)
                                replace p217 := eq_true p217
                                replace q217 := eq_true q217
                                have p218 : 0 ≤ ((ji23) : Int) := of_decide_eq_true (by first | (with_reducible assumption) | assumption)
                                have q218 : (ji23) < (y210.length : Int) := of_decide_eq_true (by first | (with_reducible assumption) | assumption)
                                obtain ⟨ad218, e218, hx218_0⟩ := Kd.at_int (Kd.R_reads' HO212.out).2.2 (ji23) p218 q218
                                obtain rfl : ad216 = ad218 := (by injection e218)
                                replace p218 := eq_true p218
                                replace q218 := eq_true q218
                                have p219 : 0 ≤ ((ji26) : Int) := of_decide_eq_true (by first | (with_reducible assumption) | assumption)
                                have q219 : (ji26) < (y210.length : Int) := of_decide_eq_true (by first | (with_reducible assumption) | assumption)
                                obtain ⟨ad219, e219, hx219_0⟩ := Kd.at_int (Kd.R_reads' HO212.out).2.2 (ji26) p219 q219
                                obtain rfl : ad216 = ad219 := (by injection e219)
                                replace p219 := eq_true p219
                                replace q219 := eq_true q219
                                refine start_ (n := 33) (S := fun w' => w'.cell? (ad216.add ((ji17)).toNat) = some (.int .u8 (rd y210 (ji17))) ∧ w'.cell? (ad216.add ((ji20)).toNat) = some (.int .u8 (rd y210 (ji20))) ∧ w'.cell? (ad216.add ((ji23)).toNat) = some (.int .u8 (rd y210 (ji23))) ∧ w'.cell? (ad216.add ((ji26)).toNat) = some (.int .u8 (rd y210 (ji26)))) (ds := []) #[false, false, false, false, false, false, false, false, false, false, false, false, false, false, false, false, false, false, false, false, false, false, false, false, false, false, false, false, false, false, false, false, false] (by kernel_rfl) rfl rfl ⟨hx216_0, hx217_0, hx218_0, hx219_0⟩ (fun hHeld => ?_); refine with_tabW roundhouselaw1_SumWrong.tab9 roundhouselaw1_SumWrong.bits9 (fun HT_ HW_ => ?_)
                                generalize w36.drew = w38 at HO212 HB hx216_0 hx217_0 hx218_0 hx219_0 hHeld ⊢
                                refine pure_ (i := 0) (N := some 45) (v := ?_) (a' := ?_) #[true, false, false, false, false, false, false, false, false, false, false, false, false, false, false, false, false, false, false, false, false, false, false, false, false, false, false, false, false, false, false, false, false] rfl rfl (any_of HT_.out (by kernel_rfl)) (fun _ _ _ h => h) (Or.inl ⟨by rfl, ?_⟩) ?_ ?_
                                rotate_left
                                · intro w'
                                  go_simp
                                  with_reducible rfl
                                rotate_left
                                · simp only [Act.put, List.setIfInBounds_toArray, List.set_cons_zero, List.set_cons_succ, i64_w, i32_w]
                                  rfl
                                refine pure_ (i := 1) (N := some 46) (v := ?_) (a' := ?_) #[true, true, false, false, false, false, false, false, false, false, false, false, false, false, false, false, false, false, false, false, false, false, false, false, false, false, false, false, false, false, false, false, false] rfl rfl (any_of HT_.out (by kernel_rfl)) (fun _ _ _ h => h) (Or.inl ⟨by rfl, ?_⟩) ?_ ?_
                                rotate_left
                                · intro w'
                                  go_simp
                                  with_reducible rfl
                                rotate_left
                                · simp only [Act.put, List.setIfInBounds_toArray, List.set_cons_zero, List.set_cons_succ, i64_w, i32_w]
                                  rfl
                                refine pure_ (i := 2) (N := some 47) (v := ?_) (a' := ?_) #[true, true, true, false, false, false, false, false, false, false, false, false, false, false, false, false, false, false, false, false, false, false, false, false, false, false, false, false, false, false, false, false, false] rfl rfl (any_of HT_.out (by kernel_rfl)) (fun _ _ _ h => h) (Or.inl ⟨by rfl, ?_⟩) ?_ ?_
                                rotate_left
                                · intro w'
                                  go_simp
                                  with_reducible rfl
                                rotate_left
                                · simp only [Act.put, List.setIfInBounds_toArray, List.set_cons_zero, List.set_cons_succ, i64_w, i32_w]
                                  rfl
                                refine pure_ (i := 3) (N := some 48) (v := ?_) (a' := ?_) #[true, true, true, true, false, false, false, false, false, false, false, false, false, false, false, false, false, false, false, false, false, false, false, false, false, false, false, false, false, false, false, false, false] rfl rfl (any_of HT_.out (by kernel_rfl)) (fun _ _ _ h => h) (Or.inl ⟨by rfl, ?_⟩) ?_ ?_
                                rotate_left
                                · intro w'
                                  go_simp
                                  with_reducible rfl
                                rotate_left
                                · simp only [Act.put, List.setIfInBounds_toArray, List.set_cons_zero, List.set_cons_succ, i64_w, i32_w]
                                  rfl
                                refine pure_ (i := 7) (N := some 52) (v := ?_) (a' := ?_) #[true, true, true, true, false, false, false, true, false, false, false, false, false, false, false, false, false, false, false, false, false, false, false, false, false, false, false, false, false, false, false, false, false] rfl rfl (any_of HT_.out (by kernel_rfl)) (fun _ _ _ h => h) (Or.inl ⟨by rfl, ?_⟩) ?_ ?_
                                rotate_left
                                · intro w'
                                  go_simp
                                  with_reducible rfl
                                rotate_left
                                · simp only [Act.put, List.setIfInBounds_toArray, List.set_cons_zero, List.set_cons_succ, i64_w, i32_w]
                                  rfl
                                refine pure_ (i := 8) (N := some 53) (v := ?_) (a' := ?_) #[true, true, true, true, false, false, false, true, true, false, false, false, false, false, false, false, false, false, false, false, false, false, false, false, false, false, false, false, false, false, false, false, false] rfl rfl (any_of HT_.out (by kernel_rfl)) (fun _ _ _ h => h) (Or.inl ⟨by rfl, ?_⟩) ?_ ?_
                                rotate_left
                                · intro w'
                                  go_simp
                                  with_reducible rfl
                                rotate_left
                                · simp only [Act.put, List.setIfInBounds_toArray, List.set_cons_zero, List.set_cons_succ, i64_w, i32_w]
                                  rfl
                                refine pure_ (i := 9) (N := some 54) (v := ?_) (a' := ?_) #[true, true, true, true, false, false, false, true, true, true, false, false, false, false, false, false, false, false, false, false, false, false, false, false, false, false, false, false, false, false, false, false, false] rfl rfl (any_of HT_.out (by kernel_rfl)) (fun _ _ _ h => h) (Or.inl ⟨by rfl, ?_⟩) ?_ ?_
                                rotate_left
                                · intro w'
                                  go_simp
                                  with_reducible rfl
                                rotate_left
                                · simp only [Act.put, List.setIfInBounds_toArray, List.set_cons_zero, List.set_cons_succ, i64_w, i32_w]
                                  rfl
                                refine pure_ (i := 10) (N := some 55) (v := ?_) (a' := ?_) #[true, true, true, true, false, false, false, true, true, true, true, false, false, false, false, false, false, false, false, false, false, false, false, false, false, false, false, false, false, false, false, false, false] rfl rfl (any_of HT_.out (by kernel_rfl)) (fun _ _ _ h => h) (Or.inl ⟨by rfl, ?_⟩) ?_ ?_
                                rotate_left
                                · intro w'
                                  go_simp
                                  with_reducible rfl
                                rotate_left
                                · simp only [Act.put, List.setIfInBounds_toArray, List.set_cons_zero, List.set_cons_succ, i64_w, i32_w]
                                  rfl
                                refine pure_ (i := 11) (N := some 56) (v := ?_) (a' := ?_) #[true, true, true, true, false, false, false, true, true, true, true, true, false, false, false, false, false, false, false, false, false, false, false, false, false, false, false, false, false, false, false, false, false] rfl rfl (any_of HT_.out (by kernel_rfl)) (fun _ _ _ h => h) (Or.inl ⟨by rfl, ?_⟩) ?_ ?_
                                rotate_left
                                · intro w'
                                  go_simp
                                  with_reducible rfl
                                rotate_left
                                · simp only [Act.put, List.setIfInBounds_toArray, List.set_cons_zero, List.set_cons_succ, i64_w, i32_w]
                                  rfl
                                refine pure_ (i := 15) (N := some 60) (v := ?_) (a' := ?_) #[true, true, true, true, false, false, false, true, true, true, true, true, false, false, false, true, false, false, false, false, false, false, false, false, false, false, false, false, false, false, false, false, false] rfl rfl (any_of HT_.out (by kernel_rfl)) (fun _ _ _ h => h) (Or.inl ⟨by rfl, ?_⟩) ?_ ?_
                                rotate_left
                                · intro w'
                                  go_simp
                                  with_reducible rfl
                                rotate_left
                                · simp only [Act.put, List.setIfInBounds_toArray, List.set_cons_zero, List.set_cons_succ, i64_w, i32_w]
                                  rfl
                                refine pure_ (i := 16) (N := some 61) (v := ?_) (a' := ?_) #[true, true, true, true, false, false, false, true, true, true, true, true, false, false, false, true, true, false, false, false, false, false, false, false, false, false, false, false, false, false, false, false, false] rfl rfl (any_of HT_.out (by kernel_rfl)) (fun _ _ _ h => h) (Or.inl ⟨by rfl, ?_⟩) ?_ ?_
                                rotate_left
                                · intro w'
                                  go_simp
                                  with_reducible rfl
                                rotate_left
                                · simp only [Act.put, List.setIfInBounds_toArray, List.set_cons_zero, List.set_cons_succ, i64_w, i32_w]
                                  rfl
                                refine pure_ (i := 17) (N := some 62) (v := ?_) (a' := ?_) #[true, true, true, true, false, false, false, true, true, true, true, true, false, false, false, true, true, true, false, false, false, false, false, false, false, false, false, false, false, false, false, false, false] rfl rfl (any_of HT_.out (by kernel_rfl)) (fun _ _ _ h => h) (Or.inl ⟨by rfl, ?_⟩) ?_ ?_
                                rotate_left
                                · intro w'
                                  go_simp
                                  with_reducible rfl
                                rotate_left
                                · simp only [Act.put, List.setIfInBounds_toArray, List.set_cons_zero, List.set_cons_succ, i64_w, i32_w]
                                  rfl
                                refine pure_ (i := 18) (N := some 63) (v := ?_) (a' := ?_) #[true, true, true, true, false, false, false, true, true, true, true, true, false, false, false, true, true, true, true, false, false, false, false, false, false, false, false, false, false, false, false, false, false] rfl rfl (any_of HT_.out (by kernel_rfl)) (fun _ _ _ h => h) (Or.inl ⟨by rfl, ?_⟩) ?_ ?_
                                rotate_left
                                · intro w'
                                  go_simp
                                  with_reducible rfl
                                rotate_left
                                · simp only [Act.put, List.setIfInBounds_toArray, List.set_cons_zero, List.set_cons_succ, i64_w, i32_w]
                                  rfl
                                refine pure_ (i := 22) (N := some 67) (v := ?_) (a' := ?_) #[true, true, true, true, false, false, false, true, true, true, true, true, false, false, false, true, true, true, true, false, false, false, true, false, false, false, false, false, false, false, false, false, false] rfl rfl (any_of HT_.out (by kernel_rfl)) (fun _ _ _ h => h) (Or.inl ⟨by rfl, ?_⟩) ?_ ?_
                                rotate_left
                                · intro w'
                                  go_simp
                                  with_reducible rfl
                                rotate_left
                                · simp only [Act.put, List.setIfInBounds_toArray, List.set_cons_zero, List.set_cons_succ, i64_w, i32_w]
                                  rfl
                                refine pure_ (i := 23) (N := some 68) (v := ?_) (a' := ?_) #[true, true, true, true, false, false, false, true, true, true, true, true, false, false, false, true, true, true, true, false, false, false, true, true, false, false, false, false, false, false, false, false, false] rfl rfl (any_of HT_.out (by kernel_rfl)) (fun _ _ _ h => h) (Or.inl ⟨by rfl, ?_⟩) ?_ ?_
                                rotate_left
                                · intro w'
                                  go_simp
                                  with_reducible rfl
                                rotate_left
                                · simp only [Act.put, List.setIfInBounds_toArray, List.set_cons_zero, List.set_cons_succ, i64_w, i32_w]
                                  rfl
                                refine pure_ (i := 24) (N := some 69) (v := ?_) (a' := ?_) #[true, true, true, true, false, false, false, true, true, true, true, true, false, false, false, true, true, true, true, false, false, false, true, true, true, false, false, false, false, false, false, false, false] rfl rfl (any_of HT_.out (by kernel_rfl)) (fun _ _ _ h => h) (Or.inl ⟨by rfl, ?_⟩) ?_ ?_
                                rotate_left
                                · intro w'
                                  go_simp
                                  with_reducible rfl
                                rotate_left
                                · simp only [Act.put, List.setIfInBounds_toArray, List.set_cons_zero, List.set_cons_succ, i64_w, i32_w]
                                  rfl
                                refine pure_ (i := 25) (N := some 70) (v := ?_) (a' := ?_) #[true, true, true, true, false, false, false, true, true, true, true, true, false, false, false, true, true, true, true, false, false, false, true, true, true, true, false, false, false, false, false, false, false] rfl rfl (any_of HT_.out (by kernel_rfl)) (fun _ _ _ h => h) (Or.inl ⟨by rfl, ?_⟩) ?_ ?_
                                rotate_left
                                · intro w'
                                  go_simp
                                  with_reducible rfl
                                rotate_left
                                · simp only [Act.put, List.setIfInBounds_toArray, List.set_cons_zero, List.set_cons_succ, i64_w, i32_w]
                                  rfl
                                refine pure_ (i := 26) (N := some 71) (v := ?_) (a' := ?_) #[true, true, true, true, false, false, false, true, true, true, true, true, false, false, false, true, true, true, true, false, false, false, true, true, true, true, true, false, false, false, false, false, false] rfl rfl (any_of HT_.out (by kernel_rfl)) (fun _ _ _ h => h) (Or.inl ⟨by rfl, ?_⟩) ?_ ?_
                                rotate_left
                                · intro w'
                                  go_simp
                                  with_reducible rfl
                                rotate_left
                                · simp only [Act.put, List.setIfInBounds_toArray, List.set_cons_zero, List.set_cons_succ, i64_w, i32_w]
                                  rfl
                                refine pure_ (i := 30) (N := some 75) (v := ?_) (a' := ?_) #[true, true, true, true, false, false, false, true, true, true, true, true, false, false, false, true, true, true, true, false, false, false, true, true, true, true, true, false, false, false, true, false, false] rfl rfl (any_of HT_.out (by kernel_rfl)) (fun _ _ _ h => h) (Or.inl ⟨by rfl, ?_⟩) ?_ ?_
                                rotate_left
                                · intro w'
                                  go_simp
                                  with_reducible rfl
                                rotate_left
                                · simp only [Act.put, List.setIfInBounds_toArray, List.set_cons_zero, List.set_cons_succ, i64_w, i32_w]
                                  rfl
                                refine take_ (i := 4) (N := some 49) (v := ?_) (a' := ?_) #[true, true, true, true, true, false, false, true, true, true, true, true, false, false, false, true, true, true, true, false, false, false, true, true, true, true, true, false, false, false, true, false, false] rfl rfl (take_ofW HT_.out HW_.out (by kernel_rfl)) (fun _ _ _ h => h) (Or.inl ⟨by rfl, ?_⟩) hHeld ?_ ?_
                                rotate_left
                                · rintro w' ⟨s0, s1, s2, s3⟩
                                  go_simp
                                  with_reducible rfl
                                rotate_left
                                · simp only [Act.put, List.setIfInBounds_toArray, List.set_cons_zero, List.set_cons_succ, i64_w, i32_w]
                                  rfl
                                refine pure_ (i := 5) (N := some 50) (v := ?_) (a' := ?_) #[true, true, true, true, true, true, false, true, true, true, true, true, false, false, false, true, true, true, true, false, false, false, true, true, true, true, true, false, false, false, true, false, false] rfl rfl (any_of HT_.out (by kernel_rfl)) (fun _ _ _ h => h) (Or.inl ⟨by rfl, ?_⟩) ?_ ?_
                                rotate_left
                                · intro w'
                                  go_simp
                                  with_reducible rfl
                                rotate_left
                                · simp only [Act.put, List.setIfInBounds_toArray, List.set_cons_zero, List.set_cons_succ, i64_w, i32_w]
                                  rfl
                                refine pure_ (i := 6) (N := some 51) (v := ?_) (a' := ?_) #[true, true, true, true, true, true, true, true, true, true, true, true, false, false, false, true, true, true, true, false, false, false, true, true, true, true, true, false, false, false, true, false, false] rfl rfl (any_of HT_.out (by kernel_rfl)) (fun _ _ _ h => h) (Or.inl ⟨by rfl, ?_⟩) ?_ ?_
                                rotate_left
                                · intro w'
                                  go_simp
                                  with_reducible rfl
                                rotate_left
                                · simp only [Act.put, List.setIfInBounds_toArray, List.set_cons_zero, List.set_cons_succ, i64_w, i32_w]
                                  rfl
                                refine take_ (i := 12) (N := some 57) (v := ?_) (a' := ?_) #[true, true, true, true, true, true, true, true, true, true, true, true, true, false, false, true, true, true, true, false, false, false, true, true, true, true, true, false, false, false, true, false, false] rfl rfl (take_ofW HT_.out HW_.out (by kernel_rfl)) (fun _ _ _ h => h) (Or.inl ⟨by rfl, ?_⟩) hHeld ?_ ?_
                                rotate_left
                                · rintro w' ⟨s0, s1, s2, s3⟩
                                  go_simp
                                  with_reducible rfl
                                rotate_left
                                · simp only [Act.put, List.setIfInBounds_toArray, List.set_cons_zero, List.set_cons_succ, i64_w, i32_w]
                                  rfl
                                refine pure_ (i := 13) (N := some 58) (v := ?_) (a' := ?_) #[true, true, true, true, true, true, true, true, true, true, true, true, true, true, false, true, true, true, true, false, false, false, true, true, true, true, true, false, false, false, true, false, false] rfl rfl (any_of HT_.out (by kernel_rfl)) (fun _ _ _ h => h) (Or.inl ⟨by rfl, ?_⟩) ?_ ?_
                                rotate_left
                                · intro w'
                                  go_simp
                                  with_reducible rfl
                                rotate_left
                                · simp only [Act.put, List.setIfInBounds_toArray, List.set_cons_zero, List.set_cons_succ, i64_w, i32_w]
                                  rfl
                                refine pure_ (i := 14) (N := some 59) (v := ?_) (a' := ?_) #[true, true, true, true, true, true, true, true, true, true, true, true, true, true, true, true, true, true, true, false, false, false, true, true, true, true, true, false, false, false, true, false, false] rfl rfl (any_of HT_.out (by kernel_rfl)) (fun _ _ _ h => h) (Or.inl ⟨by rfl, ?_⟩) ?_ ?_
                                rotate_left
                                · intro w'
                                  go_simp
                                  with_reducible rfl
                                rotate_left
                                · simp only [Act.put, List.setIfInBounds_toArray, List.set_cons_zero, List.set_cons_succ, i64_w, i32_w]
                                  rfl
                                refine take_ (i := 19) (N := some 64) (v := ?_) (a' := ?_) #[true, true, true, true, true, true, true, true, true, true, true, true, true, true, true, true, true, true, true, true, false, false, true, true, true, true, true, false, false, false, true, false, false] rfl rfl (take_ofW HT_.out HW_.out (by kernel_rfl)) (fun _ _ _ h => h) (Or.inl ⟨by rfl, ?_⟩) hHeld ?_ ?_
                                rotate_left
                                · rintro w' ⟨s0, s1, s2, s3⟩
                                  go_simp
                                  with_reducible rfl
                                rotate_left
                                · simp only [Act.put, List.setIfInBounds_toArray, List.set_cons_zero, List.set_cons_succ, i64_w, i32_w]
                                  rfl
                                refine pure_ (i := 20) (N := some 65) (v := ?_) (a' := ?_) #[true, true, true, true, true, true, true, true, true, true, true, true, true, true, true, true, true, true, true, true, true, false, true, true, true, true, true, false, false, false, true, false, false] rfl rfl (any_of HT_.out (by kernel_rfl)) (fun _ _ _ h => h) (Or.inl ⟨by rfl, ?_⟩) ?_ ?_
                                rotate_left
                                · intro w'
                                  go_simp
                                  with_reducible rfl
                                rotate_left
                                · simp only [Act.put, List.setIfInBounds_toArray, List.set_cons_zero, List.set_cons_succ, i64_w, i32_w]
                                  rfl
                                refine pure_ (i := 21) (N := some 66) (v := ?_) (a' := ?_) #[true, true, true, true, true, true, true, true, true, true, true, true, true, true, true, true, true, true, true, true, true, true, true, true, true, true, true, false, false, false, true, false, false] rfl rfl (any_of HT_.out (by kernel_rfl)) (fun _ _ _ h => h) (Or.inl ⟨by rfl, ?_⟩) ?_ ?_
                                rotate_left
                                · intro w'
                                  go_simp
                                  with_reducible rfl
                                rotate_left
                                · simp only [Act.put, List.setIfInBounds_toArray, List.set_cons_zero, List.set_cons_succ, i64_w, i32_w]
                                  rfl
                                refine take_ (i := 27) (N := some 72) (v := ?_) (a' := ?_) #[true, true, true, true, true, true, true, true, true, true, true, true, true, true, true, true, true, true, true, true, true, true, true, true, true, true, true, true, false, false, true, false, false] rfl rfl (take_ofW HT_.out HW_.out (by kernel_rfl)) (fun _ _ _ h => h) (Or.inl ⟨by rfl, ?_⟩) hHeld ?_ ?_
                                rotate_left
                                · rintro w' ⟨s0, s1, s2, s3⟩
                                  go_simp
                                  with_reducible rfl
                                rotate_left
                                · simp only [Act.put, List.setIfInBounds_toArray, List.set_cons_zero, List.set_cons_succ, i64_w, i32_w]
                                  rfl
                                refine pure_ (i := 28) (N := some 73) (v := ?_) (a' := ?_) #[true, true, true, true, true, true, true, true, true, true, true, true, true, true, true, true, true, true, true, true, true, true, true, true, true, true, true, true, true, false, true, false, false] rfl rfl (any_of HT_.out (by kernel_rfl)) (fun _ _ _ h => h) (Or.inl ⟨by rfl, ?_⟩) ?_ ?_
                                rotate_left
                                · intro w'
                                  go_simp
                                  with_reducible rfl
                                rotate_left
                                · simp only [Act.put, List.setIfInBounds_toArray, List.set_cons_zero, List.set_cons_succ, i64_w, i32_w]
                                  rfl
                                refine pure_ (i := 29) (N := some 74) (v := ?_) (a' := ?_) #[true, true, true, true, true, true, true, true, true, true, true, true, true, true, true, true, true, true, true, true, true, true, true, true, true, true, true, true, true, true, true, false, false] rfl rfl (any_of HT_.out (by kernel_rfl)) (fun _ _ _ h => h) (Or.inl ⟨by rfl, ?_⟩) ?_ ?_
                                rotate_left
                                · intro w'
                                  go_simp
                                  with_reducible rfl
                                rotate_left
                                · simp only [Act.put, List.setIfInBounds_toArray, List.set_cons_zero, List.set_cons_succ, i64_w, i32_w]
                                  rfl
                                refine one_ (i := 31) (N := some 76) #[true, true, true, true, true, true, true, true, true, true, true, true, true, true, true, true, true, true, true, true, true, true, true, true, true, true, true, true, true, true, true, true, false] rfl rfl (one_of HT_.out (by kernel_rfl)) (by decide) (fun K hK => ?_)
                                refine goes_ Try.func23 (by kernel_rfl) rfl #[.int .i64 (Go.bits .or .i64 (wrap64 ((wrap64 (rd y210 (ji17))) * 256)) (wrap64 (rd y210 (ji20)))), .int .i64 (Go.bits .or .i64 (wrap64 ((wrap64 (rd y210 (ji23))) * 256)) (wrap64 (rd y210 (ji26)))), .int .i64 t215] (by rfl) rfl rfl (by (try simp only [List.map_toArray, List.map_cons, List.map_nil]); first | done | (simp only [hji17, hji20, hji23, hji26]; rfl) | rfl | (simp only [List.length_drop, List.length_take]; rfl)) ?_
                                with_reducible refine (sum_Turn.calls (Go.bits .or .i64 (wrap64 ((wrap64 (rd y210 (ji17))) * 256)) (wrap64 (rd y210 (ji20)))) (Go.bits .or .i64 (wrap64 ((wrap64 (rd y210 (ji23))) * 256)) (wrap64 (rd y210 (ji26)))) t215 t220 _ A29.out).mono ?_
                                rintro e w' ⟨rfl, ⟨nd, rfl⟩⟩
                                refine ⟨_, rfl, ?_⟩
                                refine hK.out _ _ ⟨hHeld.1, hHeld.2.1, hHeld.2.2.1, hHeld.2.2.2⟩ (fun hHeld => ?_)
                                clear hK K
                                refine norm_ (a' := ?_) ?_ ?_
                                rotate_left
                                · show Act.put _ (some 76) _ = _
                                  simp only [Act.put, List.setIfInBounds_toArray, List.set_cons_zero, List.set_cons_succ, i64_w, i32_w]
                                  rfl
                                refine pure_ (i := 32) (N := some 12) (v := ?_) (a' := ?_) #[true, true, true, true, true, true, true, true, true, true, true, true, true, true, true, true, true, true, true, true, true, true, true, true, true, true, true, true, true, true, true, true, true] rfl rfl (any_of HT_.out (by kernel_rfl)) (fun _ _ _ h => h) (Or.inl ⟨by rfl, ?_⟩) ?_ ?_
                                rotate_left
                                · intro w'
                                  go_simp
                                  with_reducible rfl
                                rotate_left
                                · simp only [Act.put, List.setIfInBounds_toArray, List.set_cons_zero, List.set_cons_succ, i64_w, i32_w]
                                  rfl
                                refine done_ (done_of HT_.out (by kernel_rfl)) ?_
                                have n_HO212 := Aside0.mk (Kd.R_drewN HO212.out nd)
                                have n_HB := Aside0.mk (pw_below_drewN HB.out nd)
                                clear HO212 HB
                                have HO212 := n_HO212
                                have HB := n_HB
                                clear n_HB n_HO212
                                generalize w38.drewN nd = w38 at HO212 HB ⊢
                                have p30 : 0 ≤ ((ji23) : Int) := of_decide_eq_true (by first | (with_reducible assumption) | assumption)
                                have q30 : ((ji23) : Int) < ((y210.length : Int) : Int) := of_decide_eq_true (by first | (with_reducible assumption) | assumption)
                                obtain ⟨go30, co30, eo30, gb30, gl30, cl30, HG30⟩ := Kd.R_form HO212.out (by omega)
                                (first | cases eo30 | (injection eo30 with ea_ en_ ec_; (first | subst ea_ | (injection ea_ with ea_; subst ea_)); subst ec_; clear en_))
                                have GB30 := Aside0.mk gb30
                                have GG30 := Aside0.mk HG30
                                clear gb30 gl30 HG30
                                (first | simp only [add_plain] at hx216_0 | skip)
                                (first | simp only [add_plain] at hx217_0 | skip)
                                (first | simp only [add_plain] at hx218_0 | skip)
                                (first | simp only [add_plain] at hx219_0 | skip)
                                obtain ⟨hx30_0, hf30_0⟩ := Kd.R_celln 0 HO212.out ((ji23) : Int) p30 q30
                                replace p30 := eq_true p30
                                replace q30 := eq_true q30
                                obtain ⟨hy39_, hz39_⟩ := Kd.R_celln 0 HO212.out ((ji23) : Int) (of_decide_eq_true (by first | (with_reducible assumption) | assumption)) (of_decide_eq_true (by first | (with_reducible assumption) | assumption))
                                have HP39 := Kd.R_putg HO212.out ((ji23) : Int) ((t215 / 256) % 256)
                                go_upto_region 11 with (first | ((with_reducible refine gate_store (t := 5) (p := 89) rfl ?_); refine store_event (t := 5) (p := 89) (v := ?vo_w40) (w1 := (w38.setCell ⟨go30, ((ji23) : Int).toNat, none⟩ (.int .u8 ((t215 / 256) % 256)))) ?hg ?ho ?hn ?hr ?_; (case ho => rfl); (case hg => rfl); (case hn => rfl); (case hr => first | (go_simp; done) | (go_simp; rfl)); intro w40 hw; have hg : w38.grownBy w40 (some go30) := (by rw [hw]; exact HP39.2); have hp_ : Kd.R (Kd.int .u8) 5 w40 w.heap.size (fun _ => True) (.slice (some ⟨go30, 0, none⟩) y210.length co37) y221 := (by rw [hw, Ny221.out]; exact HP39.1); clear HP39; have n0_ := Aside0.mk (hp_); have n1_ := Aside0.mk ((by rw [hw]; exact below_set (HB.out) GB30.out : Below w.heap.size w w40)); clear HO212; clear HB; have HO212 := n0_; have HB := n1_; clear n0_ n1_; clear hg hw hp_; have p31 : 0 ≤ ((ji26) : Int) := of_decide_eq_true (by first | (with_reducible assumption) | assumption); have q31 : ((ji26) : Int) < ((y210.length : Int) : Int) := of_decide_eq_true (by first | (with_reducible assumption) | assumption); obtain ⟨hx31_0, hf31_0⟩ := Kd.R_celln 0 HO212.out ((ji26) : Int) p31 q31; replace p31 := eq_true p31; replace q31 := eq_true q31; obtain ⟨hy41_, hz41_⟩ := Kd.R_celln 0 HO212.out ((ji26) : Int) (of_decide_eq_true (by first | (with_reducible assumption) | assumption)) (of_decide_eq_true (by first | (with_reducible assumption) | assumption)); have HP41 := Kd.R_putg HO212.out ((ji26) : Int) ((t215) % 256)) | ((with_reducible refine gate_store (t := 5) (p := 90) rfl ?_); refine store_event (t := 5) (p := 90) (v := ?vo_w42) (w1 := (w40.setCell ⟨go30, ((ji26) : Int).toNat, none⟩ (.int .u8 ((t215) % 256)))) ?hg ?ho ?hn ?hr ?_; (case ho => rfl); (case hg => rfl); (case hn => rfl); (case hr => first | (go_simp; done) | (go_simp; rfl)); intro w42 hw; have hg : w40.grownBy w42 (some go30) := (by rw [hw]; exact HP41.2); have hp_ : Kd.R (Kd.int .u8) 5 w42 w.heap.size (fun _ => True) (.slice (some ⟨go30, 0, none⟩) y210.length co37) y222 := (by rw [hw, Ny222.out]; exact HP41.1); clear HP41; have n0_ := Aside0.mk (hp_); have n1_ := Aside0.mk ((by rw [hw]; exact below_set (HB.out) GB30.out : Below w.heap.size w w42)); clear HO212; clear HB; have HO212 := n0_; have HB := n1_; clear n0_ n1_; clear hg hw hp_))
                                (try simp only [Act.put, List.setIfInBounds_toArray, List.set_cons_zero, List.set_cons_succ])
                                go_cut [96] (fun v96 wc => ∃ (kq : Nat) (x96_31 : Bool), v96 = .bool x96_31 ∧ Aside0 (roundhouselaw1_SumWrong.j1 kq l0 y222 t213 (wrap64 ((wrap64 ((y210.length : Int) / 2)) - 1)) t220 x96_31 = some r) ∧ Aside0 (kq ≤ kj5) ∧ Aside0 (Kd.R (Kd.int .u8) 5 wc w.heap.size (fun _ => True) (.slice (some ⟨go30, 0, none⟩) y210.length co37) y222) ∧ Aside0 (Below w.heap.size w wc))
                                case first =>
                                  have H := HC32.out
                                  clear HC32
                                  by_cases c43 : t220 < 0
                                  · rw [if_pos c43] at H
                                    have c43b0 : decide (t220 < 0) = true := decide_eq_true c43
                                    clear c43
                                    (first | rw [c43b0] | (simp only [i64_w, i32_w]; rw [c43b0]) | skip)
                                    have H' := Aside0.mk H
                                    clear H
                                    go_wp2
                                    go_meet
                                    case rel => exact ⟨_, (true), (by first | rfl | (simp; done) | (simp [*]; done)), H', ⟨by have := HJ5.out; first | omega | exact Nat.le_refl _⟩, ⟨by (with_reducible repeat (first | apply Kd.R_alloc | apply Kd.R_drewN | apply Kd.R_drew)); exact HO212.out⟩, ⟨by repeat (first | (with_reducible first | exact HB.out | apply below_alloc | apply pw_below_drewN | apply below_drew1) | exact HB.out)⟩⟩
                                  · rw [if_neg c43] at H
                                    have c43b0 : decide (t220 < 0) = false := decide_eq_false c43
                                    clear c43
                                    (first | rw [c43b0] | (simp only [i64_w, i32_w]; rw [c43b0]) | skip)
                                    have H' := Aside0.mk H
                                    clear H
                                    go_wp2
                                    go_meet
                                    case rel => exact ⟨_, (decide (t220 > 65535)), (by first | rfl | (simp; done) | (simp [*]; done)), H', ⟨by have := HJ5.out; first | omega | exact Nat.le_refl _⟩, ⟨by (with_reducible repeat (first | apply Kd.R_alloc | apply Kd.R_drewN | apply Kd.R_drew)); exact HO212.out⟩, ⟨by repeat (first | (with_reducible first | exact HB.out | apply below_alloc | apply pw_below_drewN | apply below_drew1) | exact HB.out)⟩⟩
                                case rest =>
                                  clear HC32
                                  try clear c1
                                  try clear c2
                                  try clear p2
                                  try clear q2
                                  try clear hx2
                                  try clear p3
                                  try clear q3
                                  try clear hx3
                                  try clear hf3
                                  try clear c4
                                  try clear c5
                                  try clear p6
                                  try clear c7
                                  try clear c8
                                  try clear c8b0
                                  try clear c8b1
                                  try clear c9
                                  try clear c11
                                  try clear c11b0
                                  try clear c11b1
                                  try clear c12
                                  try clear c12b0
                                  try clear c12b1
                                  try clear c13
                                  try clear c18
                                  try clear c18b0
                                  try clear c19
                                  try clear c19b0
                                  try clear c21
                                  try clear c21b0
                                  try clear p21
                                  try clear q21
                                  try clear hx21
                                  try clear c22
                                  try clear c22b0
                                  try clear c23
                                  try clear c24
                                  try clear c24b0
                                  try clear c25
                                  try clear c25b0
                                  try clear c27
                                  try clear c27b0
                                  try clear c28
                                  try clear c28b0
                                  try clear p30
                                  try clear q30
                                  try clear hx30
                                  try clear hf30
                                  try clear p31
                                  try clear q31
                                  try clear hx31
                                  try clear hf31
                                  try clear c43
                                  try clear c43b0
                                  try clear hx216_0
                                  try clear hx217_0
                                  try clear hx218_0
                                  try clear hx219_0
                                  try clear hx30_0
                                  try clear hx31_0
                                  try clear p2
                                  try clear p216
                                  try clear p217
                                  try clear p218
                                  try clear p219
                                  try clear p30
                                  try clear p31
                                  try clear q216
                                  try clear q217
                                  try clear q218
                                  try clear q219
                                  try clear q30
                                  try clear q31
                                  obtain ⟨kq, x96_31, rfl, HA, HJ31, HO_7, HB⟩ := hcut
                                  have hl7_31 := (Kd.R_reads' HO_7.out).1
                                  rw [hl7_31] at HO_7
                                  (try simp only [hl7_31])
                                  cases kq with
                                  | zero => exact absurd HA.out (by simp [roundhouselaw1_SumWrong.j1])
                                  | succ kj31 =>
                                    have H := HA.out
                                    clear HA
                                    simp only [roundhouselaw1_SumWrong.j1] at H
                                    by_cases c44 : x96_31 = true
                                    · subst c44
                                      have H1 : (some false) = some r := by rw [if_pos rfl] at H; exact H
                                      clear H
                                      have H := H1
                                      clear H1
                                      obtain rfl := Option.some.inj H
                                      go_wp2
                                      go_ret
                                      exact ⟨by first | rfl | (simp [errW_none, errW_some] <;> rfl) | (simp only [← hji10, ← hji17, ← hji20, ← hji23, ← hji26]; first | rfl | (simp [errW_none, errW_some] <;> rfl)) | (simp [*, errW_none, errW_some] <;> rfl), by repeat (first | (with_reducible first | exact HB.out | apply below_alloc | apply pw_below_drewN | apply below_drew1) | exact HB.out)⟩
                                    · replace c44 := Bool.eq_false_iff.mpr c44
                                      subst c44
                                      have H1 : (if 0 ≤ (wrap64 (2 * (wrap64 ((wrap64 ((y210.length : Int) / 2)) - 1)))) then (if (wrap64 (2 * (wrap64 ((wrap64 ((y210.length : Int) / 2)) - 1)))) < (y222.length : Int) then (if 0 ≤ (wrap64 ((wrap64 (2 * (wrap64 ((wrap64 ((y210.length : Int) / 2)) - 1)))) + 1)) then (if (wrap64 ((wrap64 (2 * (wrap64 ((wrap64 ((y210.length : Int) / 2)) - 1)))) + 1)) < (y222.length : Int) then (roundhouselaw1_SumWrong.l0 kj31 l0 ((y222.set ((wrap64 (2 * (wrap64 ((wrap64 ((y210.length : Int) / 2)) - 1)))) : Int).toNat ((t220 / 256) % 256)).set ((wrap64 ((wrap64 (2 * (wrap64 ((wrap64 ((y210.length : Int) / 2)) - 1)))) + 1)) : Int).toNat ((t220) % 256)) t213 true true 0) else (none)) else (none)) else (none)) else (none)) = some r := by rw [if_neg (show ¬ (false = true) by decide)] at H; exact H
                                      clear H
                                      have H := H1
                                      clear H1
                                      obtain ⟨ji45, hji45⟩ : ∃ j_ : Int, (wrap64 (2 * (wrap64 ((wrap64 ((y210.length : Int) / 2)) - 1)))) = j_ := ⟨_, rfl⟩
                                      obtain rfl : ji17 = ji45 := hji17.symm.trans hji45
                                      replace H : (if 0 ≤ (ji17) then (if (ji17) < (y222.length : Int) then (if 0 ≤ (wrap64 ((ji17) + 1)) then (if (wrap64 ((ji17) + 1)) < (y222.length : Int) then (roundhouselaw1_SumWrong.l0 kj31 l0 ((y222.set ((ji17) : Int).toNat ((t220 / 256) % 256)).set ((wrap64 ((ji17) + 1)) : Int).toNat ((t220) % 256)) t213 true true 0) else (none)) else (none)) else (none)) else (none)) = some r := by first | (rw [hji45] at H; exact H) | (simp only [hji45] at H ⊢; exact H)
                                      have hji45w : (IntKind.i64.wrap (2 * (wrap64 ((wrap64 ((y210.length : Int) / 2)) - 1)))) = ji17 := (i64_w _).trans hji45
                                      (try (have hji45v_hl7_31 := hji45; rw [hl7_31] at hji45v_hl7_31; have hji45vw_hl7_31 := (i64_w _).trans hji45v_hl7_31))
                                      by_cases c46 : 0 ≤ (ji17)
                                      · rw [if_pos c46] at H
                                        have c46b0 : decide (0 ≤ (ji17)) = true := decide_eq_true c46
                                        clear c46
                                        by_cases c47 : (ji17) < (y222.length : Int)
                                        · rw [if_pos c47] at H
                                          have c47b0 : decide ((ji17) < (y222.length : Int)) = true := decide_eq_true c47
                                          clear c47
                                          obtain ⟨y223, hy223⟩ : ∃ y_ : List Int, y_ = (y222.set ((ji17) : Int).toNat ((t220 / 256) % 256)) := ⟨_, rfl⟩
                                          replace H : (if 0 ≤ (wrap64 ((ji17) + 1)) then (if (wrap64 ((ji17) + 1)) < (y222.length : Int) then (roundhouselaw1_SumWrong.l0 kj31 l0 (y223.set ((wrap64 ((ji17) + 1)) : Int).toNat ((t220) % 256)) t213 true true 0) else (none)) else (none)) = some r := by first | (rw [hy223]; with_reducible exact H) | (have H2_ := (Option.bind_some _ _).symm.trans H; rw [hy223]; with_reducible exact H2_) | (have H2_ := (Option.bind_some _ _).symm.trans H; with_reducible exact H2_) | with_reducible exact H | (rw [hy223]; exact H) | exact H
                                          have Ny223 := Aside0.mk hy223
                                          clear hy223
                                          obtain ⟨ji49, hji49⟩ : ∃ j_ : Int, (wrap64 ((ji17) + 1)) = j_ := ⟨_, rfl⟩
                                          obtain rfl : ji20 = ji49 := hji20.symm.trans hji49
                                          replace H : (if 0 ≤ (ji20) then (if (ji20) < (y222.length : Int) then (roundhouselaw1_SumWrong.l0 kj31 l0 (y223.set ((ji20) : Int).toNat ((t220) % 256)) t213 true true 0) else (none)) else (none)) = some r := by first | (rw [hji49] at H; exact H) | (simp only [hji49] at H ⊢; exact H)
                                          have hji49w : (IntKind.i64.wrap ((ji17) + 1)) = ji20 := (i64_w _).trans hji49
                                          by_cases c50 : 0 ≤ (ji20)
                                          · rw [if_pos c50] at H
                                            have c50b0 : decide (0 ≤ (ji20)) = true := decide_eq_true c50
                                            clear c50
                                            by_cases c51 : (ji20) < (y222.length : Int)
                                            · rw [if_pos c51] at H
                                              have c51b0 : decide ((ji20) < (y222.length : Int)) = true := decide_eq_true c51
                                              clear c51
                                              obtain ⟨y224, hy224⟩ : ∃ y_ : List Int, y_ = (y223.set ((ji20) : Int).toNat ((t220) % 256)) := ⟨_, rfl⟩
                                              replace H : (roundhouselaw1_SumWrong.l0 kj31 l0 y224 t213 true true 0) = some r := by first | (rw [hy224]; with_reducible exact H) | (have H2_ := (Option.bind_some _ _).symm.trans H; rw [hy224]; with_reducible exact H2_) | (have H2_ := (Option.bind_some _ _).symm.trans H; with_reducible exact H2_) | with_reducible exact H | (rw [hy224]; exact H) | exact H
                                              have Ny224 := Aside0.mk hy224
                                              clear hy224
                                              have H' := Aside0.mk H
                                              clear H
                                              have p48 : 0 ≤ ((ji17) : Int) := of_decide_eq_true (by first | (with_reducible assumption) | assumption)
                                              have q48 : ((ji17) : Int) < ((y222.length : Int) : Int) := of_decide_eq_true (by first | (with_reducible assumption) | assumption)
                                              obtain ⟨hx48_0, hf48_0⟩ := Kd.R_celln 0 HO_7.out ((ji17) : Int) p48 q48
                                              replace p48 := eq_true p48
                                              replace q48 := eq_true q48
                                              have HP53 := Kd.R_putg HO_7.out ((ji17) : Int) ((t220 / 256) % 256)
                                              go_wp2_with (first | ((with_reducible refine gate_store (t := 5) (p := 109) rfl ?_); refine store_event (t := 5) (p := 109) (v := ?vo_w54) (w1 := (wc.setCell ⟨go30, ((ji17) : Int).toNat, none⟩ (.int .u8 ((t220 / 256) % 256)))) ?hg ?ho ?hn ?hr ?_; (case ho => rfl); (case hg => rfl); (case hn => rfl); (case hr => first | (go_simp; done) | (go_simp; rfl)); intro w54 hw; have hg : wc.grownBy w54 (some go30) := (by rw [hw]; exact HP53.2); have hp_ : Kd.R (Kd.int .u8) 5 w54 w.heap.size (fun _ => True) (.slice (some ⟨go30, 0, none⟩) y222.length co37) y223 := (by rw [hw, Ny223.out]; exact HP53.1); clear HP53; have n0_ := Aside0.mk (hp_); have n1_ := Aside0.mk ((by rw [hw]; exact below_set (HB.out) GB30.out : Below w.heap.size w w54)); clear HO_7; clear HB; have HO_7 := n0_; have HB := n1_; clear n0_ n1_; clear hg hw hp_; have p52 : 0 ≤ ((ji20) : Int) := of_decide_eq_true (by first | (with_reducible assumption) | assumption); have q52 : ((ji20) : Int) < ((y222.length : Int) : Int) := of_decide_eq_true (by first | (with_reducible assumption) | assumption); obtain ⟨hx52_0, hf52_0⟩ := Kd.R_celln 0 HO_7.out ((ji20) : Int) p52 q52; replace p52 := eq_true p52; replace q52 := eq_true q52; obtain ⟨hy55_, hz55_⟩ := Kd.R_celln 0 HO_7.out ((ji20) : Int) (of_decide_eq_true (by first | (with_reducible assumption) | assumption)) (of_decide_eq_true (by first | (with_reducible assumption) | assumption)); have HP55 := Kd.R_putg HO_7.out ((ji20) : Int) ((t220) % 256)) | ((with_reducible refine gate_store (t := 5) (p := 110) rfl ?_); refine store_event (t := 5) (p := 110) (v := ?vo_w56) (w1 := (w54.setCell ⟨go30, ((ji20) : Int).toNat, none⟩ (.int .u8 ((t220) % 256)))) ?hg ?ho ?hn ?hr ?_; (case ho => rfl); (case hg => rfl); (case hn => rfl); (case hr => first | (go_simp; done) | (go_simp; rfl)); intro w56 hw; have hg : w54.grownBy w56 (some go30) := (by rw [hw]; exact HP55.2); have hp_ : Kd.R (Kd.int .u8) 5 w56 w.heap.size (fun _ => True) (.slice (some ⟨go30, 0, none⟩) y222.length co37) y224 := (by rw [hw, Ny224.out]; exact HP55.1); clear HP55; have n0_ := Aside0.mk (hp_); have n1_ := Aside0.mk ((by rw [hw]; exact below_set (HB.out) GB30.out : Below w.heap.size w w56)); clear HO_7; clear HB; have HO_7 := n0_; have HB := n1_; clear n0_ n1_; clear hg hw hp_))
                                              go_loopg [13, 14, 15] kj31 (fun kq v13 v14 v15 w' => ∃ (x13_3 : Bool) (x14_3 : Bool) (x15_3 : Int), v13 = .bool x13_3 ∧ v14 = .bool x14_3 ∧ v15 = .int .i64 x15_3 ∧ Aside0 (roundhouselaw1_SumWrong.l0 kq l0 y224 t213 x13_3 x14_3 x15_3 = some r) ∧ Aside0 (kq ≤ kj31) ∧ Aside0 (Kd.R (Kd.int .u8) 5 w' w.heap.size (fun _ => True) (.slice (some ⟨go30, 0, none⟩) y222.length co37) y224) ∧ Aside0 (Below w.heap.size w w'))
                                              case atStart => exact ⟨(true), (true), (0), (by first | rfl | (simp; done) | (simp [*]; done)), (by first | rfl | (simp; done) | (simp [*]; done)), (by first | rfl | (simp; done) | (simp [*]; done)), H', ⟨Nat.le_refl _⟩, ⟨by (try simp only [hl7_31]); (with_reducible repeat (first | apply Kd.R_alloc | apply Kd.R_drewN | apply Kd.R_drew)); exact HO_7.out⟩, ⟨by repeat (first | (with_reducible first | exact HB.out | apply below_alloc | apply pw_below_drewN | apply below_drew1) | exact HB.out)⟩⟩
                                              case round =>
                                                clear H'
                                                try clear c1
                                                try clear c2
                                                try clear p2
                                                try clear q2
                                                try clear hx2
                                                try clear p3
                                                try clear q3
                                                try clear hx3
                                                try clear hf3
                                                try clear c4
                                                try clear p4
                                                try clear q4
                                                try clear hx4
                                                try clear hf4
                                                try clear c5
                                                try clear p5
                                                try clear q5
                                                try clear hx5
                                                try clear hf5
                                                try clear p6
                                                try clear c7
                                                try clear c8
                                                try clear c8b0
                                                try clear c8b1
                                                try clear c9
                                                try clear c11
                                                try clear c11b0
                                                try clear c11b1
                                                try clear c12
                                                try clear c12b0
                                                try clear c12b1
                                                try clear c13
                                                try clear c18
                                                try clear c18b0
                                                try clear c19
                                                try clear c19b0
                                                try clear c21
                                                try clear c21b0
                                                try clear p21
                                                try clear q21
                                                try clear hx21
                                                try clear c22
                                                try clear c22b0
                                                try clear c23
                                                try clear c24
                                                try clear c24b0
                                                try clear c25
                                                try clear c25b0
                                                try clear c27
                                                try clear c27b0
                                                try clear c28
                                                try clear c28b0
                                                try clear p30
                                                try clear q30
                                                try clear hx30
                                                try clear hf30
                                                try clear p31
                                                try clear q31
                                                try clear hx31
                                                try clear hf31
                                                try clear c43
                                                try clear c43b0
                                                try clear c44
                                                try clear c46
                                                try clear c46b0
                                                try clear c47
                                                try clear c47b0
                                                try clear p48
                                                try clear q48
                                                try clear hx48
                                                try clear hf48
                                                try clear c50
                                                try clear c50b0
                                                try clear c51
                                                try clear c51b0
                                                try clear p52
                                                try clear q52
                                                try clear hx52
                                                try clear hf52
                                                try clear hx216_0
                                                try clear hx217_0
                                                try clear hx218_0
                                                try clear hx219_0
                                                try clear hx30_0
                                                try clear hx31_0
                                                try clear hx48_0
                                                try clear hx52_0
                                                try clear p2
                                                try clear p21
                                                try clear p216
                                                try clear p217
                                                try clear p218
                                                try clear p219
                                                try clear p3
                                                try clear p30
                                                try clear p31
                                                try clear p48
                                                try clear p52
                                                try clear p6
                                                try clear q2
                                                try clear q21
                                                try clear q216
                                                try clear q217
                                                try clear q218
                                                try clear q219
                                                try clear q3
                                                try clear q30
                                                try clear q31
                                                try clear q48
                                                try clear q52
                                                obtain ⟨x13_3, x14_3, x15_3, rfl, rfl, rfl, HA, HK3, HO_7, HB⟩ := hrel
                                                have hl7_3 := (Kd.R_reads' HO_7.out).1
                                                rw [hl7_3] at HO_7
                                                (try simp only [hl7_3])
                                                cases gk with
                                                | zero => exact absurd HA.out (by simp [roundhouselaw1_SumWrong.l0])
                                                | succ k3 =>
                                                  have H := HA.out
                                                  clear HA
                                                  simp only [roundhouselaw1_SumWrong.l0] at H
                                                  by_cases c57 : x15_3 < (y224.length : Int)
                                                  · rw [if_pos c57] at H
                                                    have c57b0 : decide (x15_3 < (y224.length : Int)) = true := decide_eq_true c57
                                                    clear c57
                                                    by_cases c58 : x13_3 = true
                                                    · subst c58
                                                      have H1 : (if 0 ≤ x15_3 then (if x14_3 = true then (if x15_3 < (l0.length : Int) then (roundhouselaw1_SumWrong.l0 k3 l0 y224 t213 ((rd y224 x15_3) == 0) ((rd l0 x15_3) == 0) (wrap64 (x15_3 + 1))) else (none)) else (roundhouselaw1_SumWrong.l0 k3 l0 y224 t213 ((rd y224 x15_3) == 0) false (wrap64 (x15_3 + 1)))) else (none)) = some r := by rw [if_pos rfl] at H; exact H
                                                      clear H
                                                      have H := H1
                                                      clear H1
                                                      by_cases c59 : 0 ≤ x15_3
                                                      · rw [if_pos c59] at H
                                                        have c59b0 : decide (0 ≤ x15_3) = true := decide_eq_true c59
                                                        clear c59
                                                        by_cases c60 : x14_3 = true
                                                        · subst c60
                                                          have H1 : (if x15_3 < (l0.length : Int) then (roundhouselaw1_SumWrong.l0 k3 l0 y224 t213 ((rd y224 x15_3) == 0) ((rd l0 x15_3) == 0) (wrap64 (x15_3 + 1))) else (none)) = some r := by rw [if_pos rfl] at H; exact H
                                                          clear H
                                                          have H := H1
                                                          clear H1
                                                          by_cases c61 : x15_3 < (l0.length : Int)
                                                          · rw [if_pos c61] at H
                                                            have c61b0 : decide (x15_3 < (l0.length : Int)) = true := decide_eq_true c61
                                                            clear c61
                                                            have H' := Aside0.mk H
                                                            clear H
                                                            have p225 : 0 ≤ (x15_3 : Int) := of_decide_eq_true (by first | (with_reducible assumption) | assumption)
                                                            have q225 : x15_3 < (y224.length : Int) := of_decide_eq_true (by first | (with_reducible assumption) | assumption)
                                                            obtain ⟨ad225, e225, hx225_0⟩ := Kd.at_int (Kd.R_reads' HO_7.out).2.2 x15_3 p225 q225
                                                            obtain rfl : (⟨go30, 0, none⟩ : Addr) = ad225 := (by injection e225)
                                                            (first | simp only [add_plain] at hx225_0 | simp only [add_at] at hx225_0 | simp only [Addr.add, Nat.zero_add] at hx225_0 | skip)
                                                            replace p225 := eq_true p225
                                                            replace q225 := eq_true q225
                                                            have p226 : 0 ≤ (x15_3 : Int) := of_decide_eq_true (by first | (with_reducible assumption) | assumption)
                                                            have q226 : x15_3 < (l0.length : Int) := of_decide_eq_true (by first | (with_reducible assumption) | assumption)
                                                            obtain ⟨ad226, e226, hx226_0⟩ := Kd.at_int HR0.out x15_3 p226 q226
                                                            cases e226
                                                            replace hx226_0 := (HB.out.cell (World.block_lt_of_cell? w _ hx226_0)).trans hx226_0
                                                            replace p226 := eq_true p226
                                                            replace q226 := eq_true q226
                                                            go_wp2
                                                            (try simp only [← hl7_3])
                                                            go_roundg k3
                                                            case measure => have := HJ5.out; have := HJ31.out; have := HK3.out; omega
                                                            case rel => exact ⟨(((rd y224 x15_3) == 0)), (((rd l0 x15_3) == 0)), (wrap64 (x15_3 + 1)), (by first | rfl | (simp; done) | (simp [*]; done)), (by first | rfl | (simp; done) | (simp [*]; done)), (by first | rfl | (simp; done) | (simp [*]; done)), H', ⟨by have := HJ5.out; have := HJ31.out; have := HK3.out; omega⟩, ⟨by (try simp only [hl7_31]); (try simp only [hl7_3]); (with_reducible repeat (first | apply Kd.R_alloc | apply Kd.R_drewN | apply Kd.R_drew)); exact HO_7.out⟩, ⟨by repeat (first | (with_reducible first | exact HB.out | apply below_alloc | apply pw_below_drewN | apply below_drew1) | exact HB.out)⟩⟩
                                                          · rw [if_neg c61] at H
                                                            exact absurd H (by simp)
                                                        · replace c60 := Bool.eq_false_iff.mpr c60
                                                          subst c60
                                                          have H1 : (roundhouselaw1_SumWrong.l0 k3 l0 y224 t213 ((rd y224 x15_3) == 0) false (wrap64 (x15_3 + 1))) = some r := by rw [if_neg (show ¬ (false = true) by decide)] at H; exact H
                                                          clear H
                                                          have H := H1
                                                          clear H1
                                                          have H' := Aside0.mk H
                                                          clear H
                                                          have p225 : 0 ≤ (x15_3 : Int) := of_decide_eq_true (by first | (with_reducible assumption) | assumption)
                                                          have q225 : x15_3 < (y224.length : Int) := of_decide_eq_true (by first | (with_reducible assumption) | assumption)
                                                          obtain ⟨ad225, e225, hx225_0⟩ := Kd.at_int (Kd.R_reads' HO_7.out).2.2 x15_3 p225 q225
                                                          obtain rfl : (⟨go30, 0, none⟩ : Addr) = ad225 := (by injection e225)
                                                          (first | simp only [add_plain] at hx225_0 | simp only [add_at] at hx225_0 | simp only [Addr.add, Nat.zero_add] at hx225_0 | skip)
                                                          replace p225 := eq_true p225
                                                          replace q225 := eq_true q225
                                                          go_wp2
                                                          (try simp only [← hl7_3])
                                                          go_roundg k3
                                                          case measure => have := HJ5.out; have := HJ31.out; have := HK3.out; omega
                                                          case rel => exact ⟨(((rd y224 x15_3) == 0)), (false), (wrap64 (x15_3 + 1)), (by first | rfl | (simp; done) | (simp [*]; done)), (by first | rfl | (simp; done) | (simp [*]; done)), (by first | rfl | (simp; done) | (simp [*]; done)), H', ⟨by have := HJ5.out; have := HJ31.out; have := HK3.out; omega⟩, ⟨by (try simp only [hl7_31]); (try simp only [hl7_3]); (with_reducible repeat (first | apply Kd.R_alloc | apply Kd.R_drewN | apply Kd.R_drew)); exact HO_7.out⟩, ⟨by repeat (first | (with_reducible first | exact HB.out | apply below_alloc | apply pw_below_drewN | apply below_drew1) | exact HB.out)⟩⟩
                                                      · rw [if_neg c59] at H
                                                        exact absurd H (by simp)
                                                    · replace c58 := Bool.eq_false_iff.mpr c58
                                                      subst c58
                                                      have H1 : (if x14_3 = true then (if 0 ≤ x15_3 then (if x15_3 < (l0.length : Int) then (roundhouselaw1_SumWrong.l0 k3 l0 y224 t213 false ((rd l0 x15_3) == 0) (wrap64 (x15_3 + 1))) else (none)) else (none)) else (roundhouselaw1_SumWrong.l0 k3 l0 y224 t213 false false (wrap64 (x15_3 + 1)))) = some r := by rw [if_neg (show ¬ (false = true) by decide)] at H; exact H
                                                      clear H
                                                      have H := H1
                                                      clear H1
                                                      by_cases c62 : x14_3 = true
                                                      · subst c62
                                                        have H1 : (if 0 ≤ x15_3 then (if x15_3 < (l0.length : Int) then (roundhouselaw1_SumWrong.l0 k3 l0 y224 t213 false ((rd l0 x15_3) == 0) (wrap64 (x15_3 + 1))) else (none)) else (none)) = some r := by rw [if_pos rfl] at H; exact H
                                                        clear H
                                                        have H := H1
                                                        clear H1
                                                        by_cases c63 : 0 ≤ x15_3
                                                        · rw [if_pos c63] at H
                                                          have c63b0 : decide (0 ≤ x15_3) = true := decide_eq_true c63
                                                          clear c63
                                                          by_cases c64 : x15_3 < (l0.length : Int)
                                                          · rw [if_pos c64] at H
                                                            have c64b0 : decide (x15_3 < (l0.length : Int)) = true := decide_eq_true c64
                                                            clear c64
                                                            have H' := Aside0.mk H
                                                            clear H
                                                            have p227 : 0 ≤ (x15_3 : Int) := of_decide_eq_true (by first | (with_reducible assumption) | assumption)
                                                            have q227 : x15_3 < (l0.length : Int) := of_decide_eq_true (by first | (with_reducible assumption) | assumption)
                                                            obtain ⟨ad227, e227, hx227_0⟩ := Kd.at_int HR0.out x15_3 p227 q227
                                                            cases e227
                                                            replace hx227_0 := (HB.out.cell (World.block_lt_of_cell? w _ hx227_0)).trans hx227_0
                                                            replace p227 := eq_true p227
                                                            replace q227 := eq_true q227
                                                            go_wp2
                                                            (try simp only [← hl7_3])
                                                            go_roundg k3
                                                            case measure => have := HJ5.out; have := HJ31.out; have := HK3.out; omega
                                                            case rel => exact ⟨(false), (((rd l0 x15_3) == 0)), (wrap64 (x15_3 + 1)), (by first | rfl | (simp; done) | (simp [*]; done)), (by first | rfl | (simp; done) | (simp [*]; done)), (by first | rfl | (simp; done) | (simp [*]; done)), H', ⟨by have := HJ5.out; have := HJ31.out; have := HK3.out; omega⟩, ⟨by (try simp only [hl7_31]); (try simp only [hl7_3]); (with_reducible repeat (first | apply Kd.R_alloc | apply Kd.R_drewN | apply Kd.R_drew)); exact HO_7.out⟩, ⟨by repeat (first | (with_reducible first | exact HB.out | apply below_alloc | apply pw_below_drewN | apply below_drew1) | exact HB.out)⟩⟩
                                                          · rw [if_neg c64] at H
                                                            exact absurd H (by simp)
                                                        · rw [if_neg c63] at H
                                                          exact absurd H (by simp)
                                                      · replace c62 := Bool.eq_false_iff.mpr c62
                                                        subst c62
                                                        have H1 : (roundhouselaw1_SumWrong.l0 k3 l0 y224 t213 false false (wrap64 (x15_3 + 1))) = some r := by rw [if_neg (show ¬ (false = true) by decide)] at H; exact H
                                                        clear H
                                                        have H := H1
                                                        clear H1
                                                        have H' := Aside0.mk H
                                                        clear H
                                                        go_wp2
                                                        (try simp only [← hl7_3])
                                                        go_roundg k3
                                                        case measure => have := HJ5.out; have := HJ31.out; have := HK3.out; omega
                                                        case rel => exact ⟨(false), (false), (wrap64 (x15_3 + 1)), (by first | rfl | (simp; done) | (simp [*]; done)), (by first | rfl | (simp; done) | (simp [*]; done)), (by first | rfl | (simp; done) | (simp [*]; done)), H', ⟨by have := HJ5.out; have := HJ31.out; have := HK3.out; omega⟩, ⟨by (try simp only [hl7_31]); (try simp only [hl7_3]); (with_reducible repeat (first | apply Kd.R_alloc | apply Kd.R_drewN | apply Kd.R_drew)); exact HO_7.out⟩, ⟨by repeat (first | (with_reducible first | exact HB.out | apply below_alloc | apply pw_below_drewN | apply below_drew1) | exact HB.out)⟩⟩
                                                  · rw [if_neg c57] at H
                                                    have c57b0 : decide (x15_3 < (y224.length : Int)) = false := decide_eq_false c57
                                                    clear c57
                                                    by_cases c65 : x13_3 = true
                                                    · subst c65
                                                      have H1 : (some true) = some r := by rw [if_pos rfl] at H; exact H
                                                      clear H
                                                      have H := H1
                                                      clear H1
                                                      obtain rfl := Option.some.inj H
                                                      go_wp2
                                                      go_ret
                                                      exact ⟨by first | rfl | (simp [errW_none, errW_some] <;> rfl) | (simp only [← hji10, ← hji17, ← hji20, ← hji23, ← hji26, ← hji45, ← hji49]; first | rfl | (simp [errW_none, errW_some] <;> rfl)) | (simp [*, errW_none, errW_some] <;> rfl), by repeat (first | (with_reducible first | exact HB.out | apply below_alloc | apply pw_below_drewN | apply below_drew1) | exact HB.out)⟩
                                                    · replace c65 := Bool.eq_false_iff.mpr c65
                                                      subst c65
                                                      have H1 : (if x14_3 = true then (some true) else ((sum_Right.f k3 y224).bind fun t228 => (some (t228 == t213)))) = some r := by rw [if_neg (show ¬ (false = true) by decide)] at H; exact H
                                                      clear H
                                                      have H := H1
                                                      clear H1
                                                      by_cases c66 : x14_3 = true
                                                      · subst c66
                                                        have H1 : (some true) = some r := by rw [if_pos rfl] at H; exact H
                                                        clear H
                                                        have H := H1
                                                        clear H1
                                                        obtain rfl := Option.some.inj H
                                                        go_wp2
                                                        go_ret
                                                        exact ⟨by first | rfl | (simp [errW_none, errW_some] <;> rfl) | (simp only [← hji10, ← hji17, ← hji20, ← hji23, ← hji26, ← hji45, ← hji49]; first | rfl | (simp [errW_none, errW_some] <;> rfl)) | (simp [*, errW_none, errW_some] <;> rfl), by repeat (first | (with_reducible first | exact HB.out | apply below_alloc | apply pw_below_drewN | apply below_drew1) | exact HB.out)⟩
                                                      · replace c66 := Bool.eq_false_iff.mpr c66
                                                        subst c66
                                                        have H1 : ((sum_Right.f k3 y224).bind fun t228 => (some (t228 == t213))) = some r := by rw [if_neg (show ¬ (false = true) by decide)] at H; exact H
                                                        clear H
                                                        have H := H1
                                                        clear H1
                                                        replace H := Option.bind_eq_some_iff.mp H
                                                        obtain ⟨t228, A670, H⟩ := H
                                                        replace H : (some (t228 == t213)) = some r := H
                                                        have A67 := Aside0.mk A670
                                                        clear A670
                                                        obtain rfl := Option.some.inj H
                                                        go_wp2_with (first | (go_at_call 18; (with_reducible refine (sum_Right.calls k3 _ _ y224 t228 _ ?side1 ?side2 A67.out).mono ?_); (case side1 => repeat (first | exact (Kd.R_reads' HO_7.out).2.2 | (with_reducible refine Kd.C_alloc ?_ _) | (with_reducible refine Kd.C_drewN ?_ _) | (with_reducible refine Kd.C_drew ?_))); (case side2 => exact (Kd.R_reads' HO_7.out).2.1); rintro e w' ⟨rfl, ⟨nd, rfl⟩⟩))
                                                        go_ret
                                                        exact ⟨by first | rfl | (simp [errW_none, errW_some] <;> rfl) | (simp only [← hji10, ← hji17, ← hji20, ← hji23, ← hji26, ← hji45, ← hji49]; first | rfl | (simp [errW_none, errW_some] <;> rfl)) | (simp [*, errW_none, errW_some] <;> rfl), by repeat (first | (with_reducible first | exact HB.out | apply below_alloc | apply pw_below_drewN | apply below_drew1) | exact HB.out)⟩
                                            · rw [if_neg c51] at H
                                              exact absurd H (by simp)
                                          · rw [if_neg c50] at H
                                            exact absurd H (by simp)
                                        · rw [if_neg c47] at H
                                          exact absurd H (by simp)
                                      · rw [if_neg c46] at H
                                        exact absurd H (by simp)
                              · rw [if_neg c28] at H
                                exact absurd H (by simp)
                            · rw [if_neg c27] at H
                              exact absurd H (by simp)
                          · rw [if_neg c25] at H
                            exact absurd H (by simp)
                        · rw [if_neg c24] at H
                          exact absurd H (by simp)
                      · rw [if_neg c22] at H
                        exact absurd H (by simp)
                    · rw [if_neg c21] at H
                      exact absurd H (by simp)
                  · rw [if_neg c19] at H
                    exact absurd H (by simp)
                · rw [if_neg c18] at H
                  exact absurd H (by simp)
              · rw [if_neg c13] at H
                exact absurd H (by simp)
            · rw [if_neg c12] at H
              exact absurd H (by simp)
          · rw [if_neg c11] at H
            exact absurd H (by simp)
  · replace c5 := Bool.eq_false_iff.mpr c5
    subst c5
    have H1 : (some false) = some r := by rw [if_neg (show ¬ (false = true) by decide)] at H; exact H
    clear H
    have H := H1
    clear H1
    obtain rfl := Option.some.inj H
    go_enter Try.func7, Try.ntmps7
    go_wp2_with (first | ((with_reducible refine gate_callee (f := 13) rfl ?_); refine goesL_ (some 16) rfl rfl Try.func13 (by kernel_rfl) rfl #[] rfl (by (try simp only [List.map_toArray, List.map_cons, List.map_nil]); first | done | rfl | (simp only [List.length_drop, List.length_take]; rfl)) ?_; (with_reducible refine (roundhouselaw1_known.calls k  false _ A4.out).mono ?_); rintro e w68 ⟨rfl, hb⟩; refine ⟨_, rfl, ?_⟩; have n0_ := Aside0.mk (below_step (by repeat (first | (with_reducible first | exact HB.out | apply below_alloc | apply pw_below_drewN | apply below_drew1) | exact HB.out)) hb); clear HB; have HB := n0_; clear n0_; (try clear hb); (try clear hb2); (try clear hk); (try clear hi)))
    go_ret
    exact ⟨by first | rfl | (simp [errW_none, errW_some] <;> rfl) | (simp [*, errW_none, errW_some] <;> rfl), by repeat (first | (with_reducible first | exact HB.out | apply below_alloc | apply pw_below_drewN | apply below_drew1) | exact HB.out)⟩

/-- THE ONE PURE STATEMENT of roundhouselaw1_SumWrong: yours. -/
def roundhouselaw1_SumWrong.Pure : Prop := ∀ (l0 : List Int) (a1 : Int) (a2 : Int), l0.length ≤ maxLen → l0.length * 1 ≤ 140737488351232 → (∀ x ∈ l0, (Lit.int .u8 x).wf = true) → (Lit.int .i64 a1).wf = true → (Lit.int .i64 a2).wf = true → ∃ k, roundhouselaw1_SumWrong.f k l0 a1 a2 = some true
theorem roundhouselaw1_SumWrong.walk (P : roundhouselaw1_SumWrong.Pure) (a0 : Option Addr) (len0 cap0 : Nat) (z0 : List Int) (a1 : Int) (a2 : Int) (w : World) (w0 : (a0 = none ∧ len0 = 0 ∧ cap0 = 0 ∧ z0 = []) ∨ ∃ x, a0 = some x ∧ len0 ≤ cap0 ∧ cap0 ≤ maxLen ∧ z0.length = cap0 ∧ (∀ i, i < z0.length → w.cell? (x.add i) = some (.int .u8 (z0.getD i 0))) ∧ ∀ n ∈ z0, (Lit.int .u8 n).wf = true) (y0 : len0 * 1 ≤ 140737488351232) (w1 : (Lit.int .i64 a1).wf = true) (w2 : (Lit.int .i64 a2).wf = true) :
    Calls Try.prog 7 #[.slice a0 len0 cap0, .int .i64 a1, .int .i64 a2] w fun e w' => e = .returned (.bool true) ∧ Below w.heap.size w w' := by
  obtain ⟨l0, rfl, hr0, hm0, hw0, hc0⟩ := ReadsInt.ofRowC w0
  obtain ⟨k, h⟩ := P l0 a1 a2 hm0 y0 hw0 w1 w2
  refine (roundhouselaw1_SumWrong.calls k _ _ l0 a1 a2 true w (Kd.C_of_reads (d := (0 : Int)) (h1 := fun _ => rfl) hr0) hc0 h).mono ?_
  rintro e w' ⟨rfl, hd⟩
  exact ⟨rfl, hd⟩

end Go.Proofs.Ytofgnnmlhnpcoaa.Hp
