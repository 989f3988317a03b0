/- Contracts of the reference of chapter 8: Up, Due, Told, Drop. -/
import Derived.Test.YtnlnkkblccppdaaPulseF
import Derived.StillTailTactics
namespace Go.Proofs.Ytnlnkkblccppdaa.PB
set_option linter.unusedVariables false
set_option linter.unusedSimpArgs false
open Go.RowKit Go.Maps

theorem RAt.lt {w : World} {x : Nat} {r f e : Int} {L : Nat → St} (h : RAt w x r f e L) : x < w.heap.size := by
  obtain ⟨cs, h, _⟩ := h
  exact blk_lt h
theorem RAt.heads {w : World} {x : Nat} {r f e : Int} {L : Nat → St} (h : RAt w x r f e L) : w.cell? ⟨x, 0, none⟩ = some (.int .i64 r) ∧ w.cell? ⟨x, 1, none⟩ = some (.int .i64 f) ∧ w.cell? ⟨x, 2, none⟩ = some (.int .i64 e) := by
  obtain ⟨cs, h, h0, h1, h2, _⟩ := h
  exact ⟨cell_of h 0 _ h0, cell_of h 1 _ h1, cell_of h 2 _ h2⟩
theorem RAt.row {w : World} {x : Nat} {r f e : Int} {L : Nat → St} (h : RAt w x r f e L) {k : Nat} (hk : k < 64) {a b : Bool} {c d : Int} (hL : L k = ⟨a, b, c, d⟩) : w.cell? ⟨x, 3 + k * 4, none⟩ = some (.bool a) ∧ w.cell? ⟨x, 3 + k * 4 + 1, none⟩ = some (.bool b) ∧ w.cell? ⟨x, 3 + k * 4 + 2, none⟩ = some (.int .i64 c) ∧ w.cell? ⟨x, 3 + k * 4 + 3, none⟩ = some (.int .i64 d) := by
  obtain ⟨cs, h, _, _, _, h3⟩ := h
  obtain ⟨r0, r1, r2, r3⟩ := h3 k hk
  rw [hL] at r0 r1 r2 r3
  exact ⟨cell_of h _ _ r0, cell_of h _ _ r1, cell_of h _ _ r2, cell_of h _ _ r3⟩
set_option maxRecDepth 100000 in
theorem rup_calls (x : Nat) (r f e : Int) (L : Nat → St) (k : Nat) (hk : k < 64) (a b : Bool) (c d : Int) (w : World) (hp : RAt w x r f e L) (hL : L k = ⟨a, b, c, d⟩) :
    Calls Try.prog 22 #[.pointer (some ⟨x, 0, none⟩), .int .i64 (k : Int)] w fun e' w' => e' = .returned (.bool b) ∧ w = w' := by
  obtain ⟨c0, c1, c2, c3⟩ := hp.row hk hL
  have His := Lib.hid (show isB (k : Int) = true by unfold isB; simp; omega)
  clear hL
  go_enter Try.func22, Try.ntmps22
  go_wp2_with (go_at_call 28; refine (ris_calls (k : Int) true His.out _).mono ?_; rintro e' w1 ⟨rfl, rfl⟩)
  go_ret
  exact ⟨rfl, rfl⟩
set_option maxRecDepth 100000 in
theorem rup_none (x : Nat) (s : Int) (his : isB s = false) (w : World) :
    Calls Try.prog 22 #[.pointer (some ⟨x, 0, none⟩), .int .i64 s] w fun e' w' => e' = .returned (.bool false) ∧ w = w' := by
  go_enter Try.func22, Try.ntmps22
  go_wp2_with (go_at_call 28; refine (ris_calls s false his _).mono ?_; rintro e' w1 ⟨rfl, rfl⟩)
  go_ret
  exact ⟨rfl, rfl⟩
set_option maxRecDepth 100000 in
theorem rdue_none (x : Nat) (s now : Int) (his : isB s = false) (w : World) :
    Calls Try.prog 20 #[.pointer (some ⟨x, 0, none⟩), .int .i64 s, .int .i64 now] w fun e' w' => e' = .returned (.bool false) ∧ Below w.heap.size w w' := by
  have His := Lib.hid his
  clear his
  go_enter Try.func20, Try.ntmps20
  go_wp2
  go_quiet ((go_at_call 28; exact Calls.quiet_of_same (ris_calls' s false His.out _)))
  go_wp2
  go_ret
  exact ⟨rfl, bd (Below.refl _ _) _⟩
set_option maxRecDepth 100000 in
theorem rdue_calls (x : Nat) (r f e : Int) (L : Nat → St) (k : Nat) (hk : k < 64) (a b : Bool) (c d now : Int) (w : World) (hp : RAt w x r f e L) (hL : L k = ⟨a, b, c, d⟩) (he0 : 0 ≤ e) (he : e ≤ 1000) (hc : 0 ≤ c) (hc' : c ≤ 4611686018427387904) :
    Calls Try.prog 20 #[.pointer (some ⟨x, 0, none⟩), .int .i64 (k : Int), .int .i64 now] w fun e' w' => e' = .returned (.bool (!a || decide (c + e ≤ now))) ∧ Below w.heap.size w w' := by
  obtain ⟨c0, c1, c2, c3⟩ := hp.row hk hL
  obtain ⟨h0, h1, h2⟩ := hp.heads
  have His := Lib.hid (show isB (k : Int) = true by unfold isB; simp; omega)
  clear hL
  cases a with
  | false =>
    go_enter Try.func20, Try.ntmps20
    go_wp2
    go_quiet ((go_at_call 28; exact Calls.quiet_of_same (ris_calls' (k : Int) true His.out _)))
    go_wp2
    go_ret
    exact ⟨rfl, bd (Below.refl _ _) _⟩
  | true =>
    go_enter Try.func20, Try.ntmps20
    go_wp2
    go_quiet ((go_at_call 28; exact Calls.quiet_of_same (ris_calls' (k : Int) true His.out _)))
    go_wp2
    go_ret
    exact ⟨by simp, bd (Below.refl _ _) _⟩
end Go.Proofs.Ytnlnkkblccppdaa.PB
