/- The walk of PulseErrs. -/
import Derived.Test.YtnlnkkblccppdaaPulseK
namespace Go.Proofs.Ytnlnkkblccppdaa.PL
set_option linter.unusedVariables false
set_option linter.unusedSimpArgs false
open Go.RowKit Go.Maps Go.Proofs.Ytnlnkkblccppdaa.PB

def lit7 (x : Nat) : Int := [-1, 0, 1, 10, 11, 1000, 1001].getD x 0
theorem lit_cell (w : World) (x : Nat) (hx : x < 7) : (w.alloc (.cells #[.int .i64 (-1), .int .i64 0, .int .i64 1, .int .i64 10, .int .i64 11, .int .i64 1000, .int .i64 1001] 3)).cell? ⟨w.heap.size, x, none⟩ = some (.int .i64 (lit7 x)) := by
  refine cell_of (new_blk w _ 0) x _ ?_
  match x, hx with
  | 0, _ | 1, _ | 2, _ | 3, _ | 4, _ | 5, _ | 6, _ => rfl
theorem within_calls' (a n : Int) (h0 : 0 < n) (h1 : n ≤ 4611686018427387904) (w : World) : Calls Try.prog 14 #[.int .i64 a, .int .i64 n] w fun e w' => e = .returned (.int .i64 (a % n)) ∧ w' = w := (within_calls a n h0 h1 w).mono fun _ _ h => ⟨h.1, h.2.symm⟩
theorem within_at (a n x : Int) (h0 : 0 < n) (h1 : n ≤ 4611686018427387904) (hx : a % n = x) (w : World) : Calls Try.prog 14 #[.int .i64 a, .int .i64 n] w fun e w' => e = .returned (.int .i64 x) ∧ w' = w := hx ▸ within_calls' a n h0 h1 w
set_option maxHeartbeats 4000000 in
set_option maxRecDepth 100000 in
theorem PulseErrs_walk (a0 a1 a2 : Int) (w : World) (w0 : (Lit.int .i64 a0).wf = true) (w1 : (Lit.int .i64 a1).wf = true) (w2 : (Lit.int .i64 a2).wf = true) :
    Calls Try.prog 4 #[.int .i64 a0, .int .i64 a1, .int .i64 a2] w fun e w' => e = .returned (.bool true) ∧ Below w.heap.size w w' := by
  clear w0 w1 w2
  obtain ⟨x, hx, x0, x1⟩ := emod_b a0 7 (by omega)
  obtain ⟨y, hy, y0, y1⟩ := emod_b a1 7 (by omega)
  obtain ⟨z, hz, z0, z1⟩ := emod_b a2 7 (by omega)
  obtain ⟨x, rfl⟩ := Int.eq_ofNat_of_zero_le x0
  obtain ⟨y, rfl⟩ := Int.eq_ofNat_of_zero_le y0
  obtain ⟨z, rfl⟩ := Int.eq_ofNat_of_zero_le z0
  have HX := Lib.hid hx
  have HY := Lib.hid hy
  have HZ := Lib.hid hz
  clear hx hy hz x0 y0 z0
  go_enter Try.func4, Try.ntmps4
  go_wp2_with (first
    | (go_at_call 13; refine (known_calls _).mono ?_; rintro e' w1 ⟨rfl, hb⟩; have HB1 := Lib.hid hb; clear hb))
  have cx := lit_cell w1 x (by omega)
  have cy := lit_cell w1 y (by omega)
  have cz := lit_cell w1 z (by omega)
  have hb2 : Below w.heap.size w (w1.alloc (.cells #[.int .i64 (-1), .int .i64 0, .int .i64 1, .int .i64 10, .int .i64 11, .int .i64 1000, .int .i64 1001] 3)) := HB1.out.alloc HB1.out.size _
  generalize w1.alloc (.cells #[.int .i64 (-1), .int .i64 0, .int .i64 1, .int .i64 10, .int .i64 11, .int .i64 1000, .int .i64 1001] 3) = W2 at cx cy cz hb2 ⊢
  have HB2 := Lib.hid hb2
  have x2 : (x : Int) < 7 := by omega
  have y2 : (y : Int) < 7 := by omega
  have z2 : (z : Int) < 7 := by omega
  clear hb2
  go_quiet (first | (go_at_call 14; with_reducible exact Calls.quiet_of_same (within_at a0 7 x (by omega) (by omega) HX.out _)) | (go_at_call 14; with_reducible exact Calls.quiet_of_same (within_at a1 7 y (by omega) (by omega) HY.out _)) | (go_at_call 14; with_reducible exact Calls.quiet_of_same (within_at a2 7 z (by omega) (by omega) HZ.out _)))
  have HBQ := Lib.hid (bd HB2.out nq)
  clear cx cy cz HB2 HB1 HX HY HZ x1 y1 z1 x2 y2 z2
  generalize lit7 x = p
  generalize lit7 y = q
  generalize lit7 z = r
  generalize W2.drewN nq = W5 at HBQ ⊢
  have HB4 := Lib.hid HBQ.out
  clear HBQ
  by_cases h1 : okNew p q r
  · have H1 := Lib.hid h1
    clear h1
    by_cases h2 : okNew a0 a1 a2
    · have H2 := Lib.hid h2
      clear h2
      go_wp2_with (first
        | (go_at_call 15; (with_reducible refine (new_ok p q r H1.out _).mono ?_); rintro e' w4 ⟨g4, mb4, rfl, hg, hmb, hb, hp⟩; have HB5 := Lib.hid (below_step HB4.out hb HB4.out.size); clear hb hp hg hmb)
        | (go_at_call 16; (with_reducible refine (rnew_ok p q r H1.out _).mono ?_); rintro e' w5 ⟨g5, rfl, hg, hb, hp⟩; have HB6 := Lib.hid (below_step HB5.out hb HB5.out.size); clear hb hp hg)
        | (go_at_call 15; (with_reducible refine (new_ok a0 a1 a2 H2.out _).mono ?_); rintro e' w6 ⟨g6, mb6, rfl, hg, hmb, hb, hp⟩; have HB7 := Lib.hid (below_step HB6.out hb HB6.out.size); clear hb hp hg hmb)
        | (go_at_call 16; (with_reducible refine (rnew_ok a0 a1 a2 H2.out _).mono ?_); rintro e' w7 ⟨g7, rfl, hg, hb, hp⟩; have HB8 := Lib.hid (below_step HB7.out hb HB7.out.size); clear hb hp hg))
      go_ret
      exact ⟨rfl, HB8.out⟩
    · have H2 := Lib.hid h2
      clear h2
      go_wp2_with (first
        | (go_at_call 15; (with_reducible refine (new_ok p q r H1.out _).mono ?_); rintro e' w4 ⟨g4, mb4, rfl, hg, hmb, hb, hp⟩; have HB5 := Lib.hid (below_step HB4.out hb HB4.out.size); clear hb hp hg hmb)
        | (go_at_call 16; (with_reducible refine (rnew_ok p q r H1.out _).mono ?_); rintro e' w5 ⟨g5, rfl, hg, hb, hp⟩; have HB6 := Lib.hid (below_step HB5.out hb HB5.out.size); clear hb hp hg)
        | (go_at_call 15; (with_reducible refine (new_bad a0 a1 a2 H2.out _).mono ?_); rintro e' w6 ⟨rfl, hb⟩; have HB7 := Lib.hid (below_step HB6.out hb HB6.out.size); clear hb)
        | (go_at_call 16; (with_reducible refine (rnew_bad a0 a1 a2 H2.out _).mono ?_); rintro e' w7 ⟨rfl, hb⟩; have HB8 := Lib.hid (below_step HB7.out hb HB7.out.size); clear hb))
      go_ret
      exact ⟨rfl, HB8.out⟩
  · have H1 := Lib.hid h1
    clear h1
    by_cases h2 : okNew a0 a1 a2
    · have H2 := Lib.hid h2
      clear h2
      go_wp2_with (first
        | (go_at_call 15; (with_reducible refine (new_bad p q r H1.out _).mono ?_); rintro e' w4 ⟨rfl, hb⟩; have HB5 := Lib.hid (below_step HB4.out hb HB4.out.size); clear hb)
        | (go_at_call 16; (with_reducible refine (rnew_bad p q r H1.out _).mono ?_); rintro e' w5 ⟨rfl, hb⟩; have HB6 := Lib.hid (below_step HB5.out hb HB5.out.size); clear hb)
        | (go_at_call 15; (with_reducible refine (new_ok a0 a1 a2 H2.out _).mono ?_); rintro e' w6 ⟨g6, mb6, rfl, hg, hmb, hb, hp⟩; have HB7 := Lib.hid (below_step HB6.out hb HB6.out.size); clear hb hp hg hmb)
        | (go_at_call 16; (with_reducible refine (rnew_ok a0 a1 a2 H2.out _).mono ?_); rintro e' w7 ⟨g7, rfl, hg, hb, hp⟩; have HB8 := Lib.hid (below_step HB7.out hb HB7.out.size); clear hb hp hg))
      go_ret
      exact ⟨rfl, HB8.out⟩
    · have H2 := Lib.hid h2
      clear h2
      go_wp2_with (first
        | (go_at_call 15; (with_reducible refine (new_bad p q r H1.out _).mono ?_); rintro e' w4 ⟨rfl, hb⟩; have HB5 := Lib.hid (below_step HB4.out hb HB4.out.size); clear hb)
        | (go_at_call 16; (with_reducible refine (rnew_bad p q r H1.out _).mono ?_); rintro e' w5 ⟨rfl, hb⟩; have HB6 := Lib.hid (below_step HB5.out hb HB5.out.size); clear hb)
        | (go_at_call 15; (with_reducible refine (new_bad a0 a1 a2 H2.out _).mono ?_); rintro e' w6 ⟨rfl, hb⟩; have HB7 := Lib.hid (below_step HB6.out hb HB6.out.size); clear hb)
        | (go_at_call 16; (with_reducible refine (rnew_bad a0 a1 a2 H2.out _).mono ?_); rintro e' w7 ⟨rfl, hb⟩; have HB8 := Lib.hid (below_step HB7.out hb HB7.out.size); clear hb))
      go_ret
      exact ⟨rfl, HB8.out⟩
end Go.Proofs.Ytnlnkkblccppdaa.PL
