/- Contracts of the reference of chapter 8: Drop. -/
import Derived.Test.YtnlnkkblccppdaaPulseH
namespace Go.Proofs.Ytnlnkkblccppdaa.PB
set_option linter.unusedVariables false
set_option linter.unusedSimpArgs false
open Go.RowKit Go.Maps

set_option maxRecDepth 100000 in
theorem rdrop_none (x : Nat) (s : Int) (w : World) (his : isB s = false) :
    Calls Try.prog 24 #[.pointer (some ⟨x, 0, none⟩), .int .i64 s] w fun e' w' => e' = .returned (.bool false) ∧ Below w.heap.size w w' := by
  have His := Lib.hid his
  clear his
  go_enter Try.func24, Try.ntmps24
  go_wp2_with (go_at_call 28; refine (ris_calls s false His.out _).mono ?_; rintro e' w1 ⟨rfl, rfl⟩)
  go_ret
  exact ⟨rfl, Below.refl _ _⟩
set_option maxHeartbeats 1000000 in
set_option maxRecDepth 100000 in
theorem rdrop_calls (x : Nat) (r f e : Int) (L : Nat → St) (k : Nat) (hk : k < 64) (a u : Bool) (l ro : Int) (w : World) (hp : RAt w x r f e L) (hL : L k = ⟨a, u, l, ro⟩) :
    Calls Try.prog 24 #[.pointer (some ⟨x, 0, none⟩), .int .i64 (k : Int)] w fun e' w' => e' = .returned (.bool a) ∧ Ch w w' x ∧ RAt w' x r f e (if a = true then updS L k zeroS else L) := by
  obtain ⟨c0, c1, c2, c3⟩ := hp.row hk hL
  have hlt := hp.lt
  have HP := Lib.hid hp
  have hki : (k : Int) < 64 := by omega
  have His := Lib.hid (show isB (k : Int) = true by unfold isB; simp; omega)
  have f0 := hp.frz (3 + k * 4)
  have f1 := hp.frz (3 + k * 4 + 1)
  have f2 := hp.frz (3 + k * 4 + 2)
  have f3 := hp.frz (3 + k * 4 + 3)
  have z50 : ∀ w : World, (Instr.build 50 #[]).run Try.prog w = .ok (.agg #[.bool false, .bool false, .int .i64 0, .int .i64 0]) w := fun w => by kernel_rfl
  clear hL hp
  cases a with
  | false =>
    go_enter Try.func24, Try.ntmps24
    go_wp2_with (go_at_call 28; refine (ris_calls (k : Int) true His.out _).mono ?_; rintro e' w1 ⟨rfl, rfl⟩)
    go_ret
    exact ⟨rfl, Ch.of_below (Below.refl _ _) x, HP.out⟩
  | true =>
    go_enter Try.func24, Try.ntmps24
    go_wp2_with (go_at_call 28; refine (ris_calls (k : Int) true His.out _).mono ?_; rintro e' w1 ⟨rfl, rfl⟩)
    go_ret
    exact ⟨rfl, Ch.lay4 _ x k false false 0 0, HP.out.lay4 hk false false 0 0⟩
end Go.Proofs.Ytnlnkkblccppdaa.PB
