/- Contracts: Due, Drop, New of package pulse. -/
import Derived.Test.YtnlnkkblccppdaaPulseA
namespace Go.Proofs.Ytnlnkkblccppdaa.PB
set_option linter.unusedVariables false
set_option linter.unusedSimpArgs false
open Go.RowKit Go.Maps

theorem is_calls' (s : Int) (b : Bool) (hb : isB s = b) (w : World) : Calls Try.prog 26 #[.int .i64 s] w fun e w' => e = .returned (.bool b) ∧ w' = w := (is_calls s b hb w).mono fun _ _ h => ⟨h.1, h.2.symm⟩
theorem ris_calls' (s : Int) (b : Bool) (hb : isB s = b) (w : World) : Calls Try.prog 28 #[.int .i64 s] w fun e w' => e = .returned (.bool b) ∧ w' = w := (ris_calls s b hb w).mono fun _ _ h => ⟨h.1, h.2.symm⟩
theorem bd {B : Nat} {a w : World} (h : Below B a w) (n : Nat) : Below B a (w.drewN n) := ⟨h.os, h.tape, h.output, h.size, h.block⟩
def dueB (s now l e : Int) (was : Bool) : Bool := isB s && (!was || decide (e ≤ now - l))
set_option maxRecDepth 100000 in
theorem due_calls (g mb n : Nat) (r f e : Int) (M : Int → Option Hist) (s now l ro : Int) (u was : Bool) (hs : (Lit.int .i64 s).wf = true) (w : World) (hp : PAt w g mb r f e n M) (hM : (M s).getD zeroH = ⟨l, ro, u⟩) (hw : (M s).isSome = was)
    (hnow : 0 ≤ now) (hnow' : now ≤ 4611686018427387904) (hl : 0 ≤ l) (hl' : l ≤ 4611686018427387904) :
    Calls Try.prog 19 #[.pointer (some ⟨g, 0, none⟩), .int .i64 s, .int .i64 now] w fun e' w' => e' = .returned (.bool (dueB s now l e was)) ∧ Below w.heap.size w w' := by
  obtain ⟨c0, c1, c2, c3⟩ := hp.cells
  have hlt := (List.getElem?_eq_some_iff.1 (show w.heap.toList[g]? = _ by rw [Array.getElem?_toList]; exact hp.1)).1
  obtain ⟨_, D, hown, hrep⟩ := hp
  have Hown := Lib.hid hown
  have Hg := Lib.hid (rep_get hrep hM)
  have Hh := Lib.hid ((hrep s).1.trans hw)
  have Hs := Lib.hid hs
  have c3' : ∀ W : World, Below w.heap.size w W → W.cell? ⟨g, 3, none⟩ = some (.int .i64 e) := fun W hb => (hb.cell (p := ⟨g, 3, none⟩) (by simpa using hlt)).trans c3
  have C3 := Lib.hid c3'
  clear hown hrep hM hs hw c3 c3'
  unfold dueB
  cases his : isB s with
  | false =>
    have His := Lib.hid his
    clear his
    go_enter Try.func19, Try.ntmps19
    go_wp2_with (go_at_call 27; refine (of_calls mb n D s l ro u was Hs.out _ Hown.out Hh.out Hg.out).mono ?_; rintro e' w1 ⟨rfl, hb1⟩; have HB := Lib.hid hb1; clear hb1)
    go_quiet ((go_at_call 26; exact Calls.quiet_of_same (is_calls' s false His.out _)))
    go_wp2
    go_ret
    exact ⟨rfl, bd (HB.out.alloc HB.out.size _) _⟩
  | true =>
    have His := Lib.hid his
    clear his
    cases was with
    | false =>
      go_enter Try.func19, Try.ntmps19
      go_wp2_with (go_at_call 27; refine (of_calls mb n D s l ro u false Hs.out _ Hown.out Hh.out Hg.out).mono ?_; rintro e' w1 ⟨rfl, hb1⟩; have HB := Lib.hid hb1; clear hb1)
      go_quiet ((go_at_call 26; exact Calls.quiet_of_same (is_calls' s true His.out _)))
      go_wp2
      go_ret
      exact ⟨rfl, bd (HB.out.alloc HB.out.size _) _⟩
    | true =>
      have hd : decide (e ≤ now - l) = decide (e ≤ now - l) := rfl
      go_enter Try.func19, Try.ntmps19
      go_wp2_with (go_at_call 27; refine (of_calls mb n D s l ro u true Hs.out _ Hown.out Hh.out Hg.out).mono ?_; rintro e' w1 ⟨rfl, hb1⟩; have c3 := fun o => C3.out (w1.alloc o) (hb1.alloc hb1.size o); have HB := Lib.hid hb1; clear hb1)
      go_quiet ((go_at_call 26; exact Calls.quiet_of_same (is_calls' s true His.out _)))
      go_wp2
      go_ret
      exact ⟨by simp, bd (HB.out.alloc HB.out.size _) _⟩
end Go.Proofs.Ytnlnkkblccppdaa.PB
