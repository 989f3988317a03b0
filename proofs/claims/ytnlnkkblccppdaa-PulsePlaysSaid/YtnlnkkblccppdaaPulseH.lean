/- Contracts of the reference of chapter 8: Told. -/
import Derived.Test.YtnlnkkblccppdaaPulseG
namespace Go.Proofs.Ytnlnkkblccppdaa.PB
set_option linter.unusedVariables false
set_option linter.unusedSimpArgs false
open Go.RowKit Go.Maps

theorem frz_of {w : World} {g : Nat} {cs : Array Value} {t : TypeId} (h : w.heap[g]? = some (.cells cs t (0, 0))) (i : Nat) : w.frozen? ⟨g, i, none⟩ = false := by
  simp [World.frozen?, h]
theorem RAt.frz {w : World} {x : Nat} {r f e : Int} {L : Nat → St} (h : RAt w x r f e L) (i : Nat) : w.frozen? ⟨x, i, none⟩ = false := by
  obtain ⟨cs, h, _⟩ := h
  exact frz_of h i
theorem RAt.same {w w' : World} {x : Nat} {r f e : Int} {L : Nat → St} (h : RAt w x r f e L) (he : w'.heap[x]? = w.heap[x]?) : RAt w' x r f e L := by
  obtain ⟨cs, h1, h2⟩ := h
  exact ⟨cs, he.trans h1, h2⟩
def updS (L : Nat → St) (k : Nat) (s : St) : Nat → St := fun j => if j = k then s else L j
def lay4 (w : World) (x k : Nat) (a b : Bool) (c d : Int) : World := (((w.setCell ⟨x, 3 + k * 4, none⟩ (.bool a)).setCell ⟨x, 3 + k * 4 + 1, none⟩ (.bool b)).setCell ⟨x, 3 + k * 4 + 2, none⟩ (.int .i64 c)).setCell ⟨x, 3 + k * 4 + 3, none⟩ (.int .i64 d)
theorem RAt.lay4 {w : World} {x : Nat} {r f e : Int} {L : Nat → St} (h : RAt w x r f e L) {k : Nat} (hk : k < 64) (a b : Bool) (c d : Int) : RAt (lay4 w x k a b c d) x r f e (updS L k ⟨a, b, c, d⟩) := by
  obtain ⟨cs, h1, g0, g1, g2, h3⟩ := h
  have hs : 3 + k * 4 + 3 < cs.size := by
    have := (h3 k hk).2.2.2
    exact (Array.getElem?_eq_some_iff.1 this).1
  refine ⟨_, set_blk (set_blk (set_blk (set_blk h1 _ _) _ _) _ _) _ _, ?_, ?_, ?_, ?_⟩
  · simp only [Array.getElem?_setIfInBounds, Array.size_setIfInBounds]
    rw [if_neg (by omega), if_neg (by omega), if_neg (by omega), if_neg (by omega)]; exact g0
  · simp only [Array.getElem?_setIfInBounds, Array.size_setIfInBounds]
    rw [if_neg (by omega), if_neg (by omega), if_neg (by omega), if_neg (by omega)]; exact g1
  · simp only [Array.getElem?_setIfInBounds, Array.size_setIfInBounds]
    rw [if_neg (by omega), if_neg (by omega), if_neg (by omega), if_neg (by omega)]; exact g2
  · intro s hs'
    simp only [Array.getElem?_setIfInBounds, Array.size_setIfInBounds]
    unfold updS
    by_cases e : s = k
    · subst e
      rw [if_pos rfl]
      refine ⟨?_, ?_, ?_, ?_⟩
      · rw [if_neg (by omega), if_neg (by omega), if_neg (by omega), if_pos rfl, if_pos (by omega)]; try simp
      · rw [if_neg (by omega), if_neg (by omega), if_pos rfl, if_pos (show 3 + s * 4 + 1 < cs.size by omega)]; try simp
      · rw [if_neg (by omega), if_pos rfl, if_pos (show 3 + s * 4 + 2 < cs.size by omega)]; try simp
      · rw [if_pos rfl, if_pos (show 3 + s * 4 + 3 < cs.size by omega)]; try simp
    · rw [if_neg e]
      obtain ⟨q0, q1, q2, q3⟩ := h3 s hs'
      refine ⟨?_, ?_, ?_, ?_⟩
      · rw [if_neg (by omega), if_neg (by omega), if_neg (by omega), if_neg (by omega)]; exact q0
      · rw [if_neg (by omega), if_neg (by omega), if_neg (by omega), if_neg (by omega)]; exact q1
      · rw [if_neg (by omega), if_neg (by omega), if_neg (by omega), if_neg (by omega)]; exact q2
      · rw [if_neg (by omega), if_neg (by omega), if_neg (by omega), if_neg (by omega)]; exact q3
theorem Ch.set {w : World} (x i : Nat) (v : Value) : Ch w (w.setCell ⟨x, i, none⟩ v) x := ⟨rfl, rfl, rfl, by simp [World.setCell], fun k _ hne => Below.heap_setCell w _ v k hne⟩
theorem Ch.lay4 (w : World) (x k : Nat) (a b : Bool) (c d : Int) : Ch w (lay4 w x k a b c d) x := (((Ch.set x _ _).trans (Ch.set x _ _)).trans (Ch.set x _ _)).trans (Ch.set x _ _)
def nextS (r f now ro : Int) (u ok : Bool) : St := ⟨true, (next r f now ro u ok).up, now, (next r f now ro u ok).row⟩
set_option maxRecDepth 100000 in
theorem rtold_none (x : Nat) (s now : Int) (ok : Bool) (w : World) (his : isB s = false) :
    Calls Try.prog 18 #[.pointer (some ⟨x, 0, none⟩), .int .i64 s, .int .i64 now, .bool ok] w fun e' w' => e' = .returned (.int .i64 0) ∧ w = w' := by
  go_enter Try.func18, Try.ntmps18
  go_wp2_with (go_at_call 28; refine (ris_calls s false his _).mono ?_; rintro e' w1 ⟨rfl, rfl⟩)
  go_ret
  exact ⟨rfl, rfl⟩
set_option maxHeartbeats 2000000 in
set_option maxRecDepth 100000 in
theorem rtold_calls (x : Nat) (r f e : Int) (L : Nat → St) (k : Nat) (hk : k < 64) (a u ok : Bool) (l ro now : Int) (w : World) (hp : RAt w x r f e L) (hL : L k = ⟨a, u, l, ro⟩) (h0 : 0 ≤ ro) (h1 : ro ≤ 1000) (hr : 1 ≤ r) (hf : 1 ≤ f) :
    Calls Try.prog 18 #[.pointer (some ⟨x, 0, none⟩), .int .i64 (k : Int), .int .i64 now, .bool ok] w fun e' w' => e' = .returned (.int .i64 (verdict r f ro u ok)) ∧ Ch w w' x ∧ RAt w' x r f e (updS L k (nextS r f now ro u ok)) := by
  obtain ⟨c0, c1, c2, c3⟩ := hp.row hk hL
  have hlt := hp.lt
  have al : ∀ o, Below w.heap.size w (w.alloc o) := fun o => (Below.refl _ _).alloc (Nat.le_refl _) o
  have g0 := fun o => ((al o).cell (p := ⟨x, 0, none⟩) hlt).trans hp.heads.1
  have g1 := fun o => ((al o).cell (p := ⟨x, 1, none⟩) hlt).trans hp.heads.2.1
  have AL := Lib.hid al
  have HP := Lib.hid hp
  have hki : (k : Int) < 64 := by omega
  have C1 := Lib.hid c1
  clear al hp
  have His := Lib.hid (show isB (k : Int) = true by unfold isB; simp; omega)
  clear hL
  cases u with
  | true =>
    cases ok with
    | true =>
      have hd : decide (f ≤ 0) = false := decide_eq_false (by omega)
      have hd' : Hid (¬ f ≤ 0) := Lib.hid (by omega)
      go_enter Try.func18, Try.ntmps18
      go_wp2_with (go_at_call 28; refine (ris_calls (k : Int) true His.out _).mono ?_; rintro e' w1 ⟨rfl, rfl⟩)
      go_quiet (fail)
      go_wp2
      go_quiet (fail)
      go_wp2
      generalize hW : World.drewN _ _ = W2
      have hb2 : W2.heap[w.heap.size]? = some (.cells #[.bool true, .bool true, .int .i64 now, .int .i64 (0)] 50 (0, 0)) := by rw [← hW]; exact new_blk _ _ 0
      have hbel : Below w.heap.size w W2 := by rw [← hW]; exact bd (bd (AL.out _) _) _
      have d0 := cell_of hb2 0 _ rfl
      have d1 := cell_of hb2 1 _ rfl
      have d2 := cell_of hb2 2 _ rfl
      have d3 := cell_of hb2 3 _ rfl
      refine region_tail_drew 6 (by kernel_rfl) (by kernel_rfl) ?_
      simp only [List.take_succ_cons, List.take_zero, List.drop_succ_cons, List.drop_zero]
      repeat still_step
      refine wpStill_nil ?_
      have s0 := (hbel.drew.cell (p := ⟨x, 3 + k * 4, none⟩) hlt).trans c0
      have f0 := (hbel.drew.frozen (p := ⟨x, 3 + k * 4, none⟩) hlt).trans (HP.out.frz _)
      have s1 := (hbel.drew.cell (p := ⟨x, 3 + k * 4 + 1, none⟩) hlt).trans C1.out
      have f1 := (hbel.drew.frozen (p := ⟨x, 3 + k * 4 + 1, none⟩) hlt).trans (HP.out.frz _)
      have s2 := (hbel.drew.cell (p := ⟨x, 3 + k * 4 + 2, none⟩) hlt).trans c2
      have f2 := (hbel.drew.frozen (p := ⟨x, 3 + k * 4 + 2, none⟩) hlt).trans (HP.out.frz _)
      have s3 := (hbel.drew.cell (p := ⟨x, 3 + k * 4 + 3, none⟩) hlt).trans c3
      have f3 := (hbel.drew.frozen (p := ⟨x, 3 + k * 4 + 3, none⟩) hlt).trans (HP.out.frz _)
      have HB := Lib.hid hbel.drew
      clear d0 d1 d2 d3 hW hb2 hbel c0 c1 c2 c3
      generalize W2.drew = W3 at s0 s1 s2 s3 f0 f1 f2 f3 HB ⊢
      go_wp2
      go_ret
      have hv : verdict r f ro true true = 0 := by simp [verdict, rowOf, hd'.out]
      have hn : nextS r f now ro true true = ⟨true, true, now, 0⟩ := by simp [nextS, next, hv, rowOf]
      rw [hv, hn]
      exact ⟨rfl, (Ch.of_below HB.out x).trans (Ch.lay4 W3 x k true true now (0)), (HP.out.same (HB.out.block x hlt)).lay4 hk true true now (0)⟩
    | false =>
      by_cases hx : f ≤ ro + 1
      · have hx' := Lib.hid hx
        clear hx
        have hd : decide (f ≤ ro + 1) = true := decide_eq_true hx'.out
        go_enter Try.func18, Try.ntmps18
        go_wp2_with (go_at_call 28; refine (ris_calls (k : Int) true His.out _).mono ?_; rintro e' w1 ⟨rfl, rfl⟩)
        go_quiet (fail)
        go_wp2
        go_quiet (fail)
        go_wp2
        generalize hW : World.setCell _ _ _ = W2
        have hb2 : W2.heap[w.heap.size]? = some (.cells #[.bool true, .bool false, .int .i64 now, .int .i64 (0)] 50 (0, 0)) := by rw [← hW]; exact set_blk (set_blk (new_blk _ _ 0) _ _) _ _
        have hbel : Below w.heap.size w W2 := by rw [← hW]; exact ((bd (AL.out _) _).setCell (p := ⟨w.heap.size, _, none⟩) (Nat.le_refl _) _).setCell (p := ⟨w.heap.size, _, none⟩) (Nat.le_refl _) _
        have d0 := cell_of hb2 0 _ rfl
        have d1 := cell_of hb2 1 _ rfl
        have d2 := cell_of hb2 2 _ rfl
        have d3 := cell_of hb2 3 _ rfl
        refine region_tail_drew 6 (by kernel_rfl) (by kernel_rfl) ?_
        simp only [List.take_succ_cons, List.take_zero, List.drop_succ_cons, List.drop_zero]
        repeat still_step
        refine wpStill_nil ?_
        have s0 := (hbel.drew.cell (p := ⟨x, 3 + k * 4, none⟩) hlt).trans c0
        have f0 := (hbel.drew.frozen (p := ⟨x, 3 + k * 4, none⟩) hlt).trans (HP.out.frz _)
        have s1 := (hbel.drew.cell (p := ⟨x, 3 + k * 4 + 1, none⟩) hlt).trans C1.out
        have f1 := (hbel.drew.frozen (p := ⟨x, 3 + k * 4 + 1, none⟩) hlt).trans (HP.out.frz _)
        have s2 := (hbel.drew.cell (p := ⟨x, 3 + k * 4 + 2, none⟩) hlt).trans c2
        have f2 := (hbel.drew.frozen (p := ⟨x, 3 + k * 4 + 2, none⟩) hlt).trans (HP.out.frz _)
        have s3 := (hbel.drew.cell (p := ⟨x, 3 + k * 4 + 3, none⟩) hlt).trans c3
        have f3 := (hbel.drew.frozen (p := ⟨x, 3 + k * 4 + 3, none⟩) hlt).trans (HP.out.frz _)
        have HB := Lib.hid hbel.drew
        clear d0 d1 d2 d3 hW hb2 hbel c0 c1 c2 c3
        generalize W2.drew = W3 at s0 s1 s2 s3 f0 f1 f2 f3 HB ⊢
        go_wp2
        go_ret
        have hv : verdict r f ro true false = 2 := by simp [verdict, rowOf, hx'.out]
        have hn : nextS r f now ro true false = ⟨true, false, now, 0⟩ := by simp [nextS, next, hv, rowOf]
        rw [hv, hn]
        exact ⟨rfl, (Ch.of_below HB.out x).trans (Ch.lay4 W3 x k true false now (0)), (HP.out.same (HB.out.block x hlt)).lay4 hk true false now (0)⟩
      · have hx' := Lib.hid hx
        clear hx
        have hd : decide (f ≤ ro + 1) = false := decide_eq_false hx'.out
        go_enter Try.func18, Try.ntmps18
        go_wp2_with (go_at_call 28; refine (ris_calls (k : Int) true His.out _).mono ?_; rintro e' w1 ⟨rfl, rfl⟩)
        go_quiet (fail)
        go_wp2
        go_quiet (fail)
        go_wp2
        generalize hW : World.drewN _ _ = W2
        have hb2 : W2.heap[w.heap.size]? = some (.cells #[.bool true, .bool true, .int .i64 now, .int .i64 (ro + 1)] 50 (0, 0)) := by rw [← hW]; exact new_blk _ _ 0
        have hbel : Below w.heap.size w W2 := by rw [← hW]; exact bd (bd (AL.out _) _) _
        have d0 := cell_of hb2 0 _ rfl
        have d1 := cell_of hb2 1 _ rfl
        have d2 := cell_of hb2 2 _ rfl
        have d3 := cell_of hb2 3 _ rfl
        refine region_tail_drew 6 (by kernel_rfl) (by kernel_rfl) ?_
        simp only [List.take_succ_cons, List.take_zero, List.drop_succ_cons, List.drop_zero]
        repeat still_step
        refine wpStill_nil ?_
        have s0 := (hbel.drew.cell (p := ⟨x, 3 + k * 4, none⟩) hlt).trans c0
        have f0 := (hbel.drew.frozen (p := ⟨x, 3 + k * 4, none⟩) hlt).trans (HP.out.frz _)
        have s1 := (hbel.drew.cell (p := ⟨x, 3 + k * 4 + 1, none⟩) hlt).trans C1.out
        have f1 := (hbel.drew.frozen (p := ⟨x, 3 + k * 4 + 1, none⟩) hlt).trans (HP.out.frz _)
        have s2 := (hbel.drew.cell (p := ⟨x, 3 + k * 4 + 2, none⟩) hlt).trans c2
        have f2 := (hbel.drew.frozen (p := ⟨x, 3 + k * 4 + 2, none⟩) hlt).trans (HP.out.frz _)
        have s3 := (hbel.drew.cell (p := ⟨x, 3 + k * 4 + 3, none⟩) hlt).trans c3
        have f3 := (hbel.drew.frozen (p := ⟨x, 3 + k * 4 + 3, none⟩) hlt).trans (HP.out.frz _)
        have HB := Lib.hid hbel.drew
        clear d0 d1 d2 d3 hW hb2 hbel c0 c1 c2 c3
        generalize W2.drew = W3 at s0 s1 s2 s3 f0 f1 f2 f3 HB ⊢
        go_wp2
        go_ret
        have hv : verdict r f ro true false = 0 := by simp [verdict, rowOf, hx'.out]
        have hn : nextS r f now ro true false = ⟨true, true, now, ro + 1⟩ := by simp [nextS, next, hv, rowOf]
        rw [hv, hn]
        exact ⟨rfl, (Ch.of_below HB.out x).trans (Ch.lay4 W3 x k true true now (ro + 1)), (HP.out.same (HB.out.block x hlt)).lay4 hk true true now (ro + 1)⟩
  | false =>
    cases ok with
    | false =>
      have hd : decide (r ≤ 0) = false := decide_eq_false (by omega)
      have hd' : Hid (¬ r ≤ 0) := Lib.hid (by omega)
      go_enter Try.func18, Try.ntmps18
      go_wp2_with (go_at_call 28; refine (ris_calls (k : Int) true His.out _).mono ?_; rintro e' w1 ⟨rfl, rfl⟩)
      go_quiet (fail)
      go_wp2
      go_quiet (fail)
      go_wp2
      generalize hW : World.drewN _ _ = W2
      have hb2 : W2.heap[w.heap.size]? = some (.cells #[.bool true, .bool false, .int .i64 now, .int .i64 (0)] 50 (0, 0)) := by rw [← hW]; exact new_blk _ _ 0
      have hbel : Below w.heap.size w W2 := by rw [← hW]; exact bd (bd (AL.out _) _) _
      have d0 := cell_of hb2 0 _ rfl
      have d1 := cell_of hb2 1 _ rfl
      have d2 := cell_of hb2 2 _ rfl
      have d3 := cell_of hb2 3 _ rfl
      refine region_tail_drew 6 (by kernel_rfl) (by kernel_rfl) ?_
      simp only [List.take_succ_cons, List.take_zero, List.drop_succ_cons, List.drop_zero]
      repeat still_step
      refine wpStill_nil ?_
      have s0 := (hbel.drew.cell (p := ⟨x, 3 + k * 4, none⟩) hlt).trans c0
      have f0 := (hbel.drew.frozen (p := ⟨x, 3 + k * 4, none⟩) hlt).trans (HP.out.frz _)
      have s1 := (hbel.drew.cell (p := ⟨x, 3 + k * 4 + 1, none⟩) hlt).trans C1.out
      have f1 := (hbel.drew.frozen (p := ⟨x, 3 + k * 4 + 1, none⟩) hlt).trans (HP.out.frz _)
      have s2 := (hbel.drew.cell (p := ⟨x, 3 + k * 4 + 2, none⟩) hlt).trans c2
      have f2 := (hbel.drew.frozen (p := ⟨x, 3 + k * 4 + 2, none⟩) hlt).trans (HP.out.frz _)
      have s3 := (hbel.drew.cell (p := ⟨x, 3 + k * 4 + 3, none⟩) hlt).trans c3
      have f3 := (hbel.drew.frozen (p := ⟨x, 3 + k * 4 + 3, none⟩) hlt).trans (HP.out.frz _)
      have HB := Lib.hid hbel.drew
      clear d0 d1 d2 d3 hW hb2 hbel c0 c1 c2 c3
      generalize W2.drew = W3 at s0 s1 s2 s3 f0 f1 f2 f3 HB ⊢
      go_wp2
      go_ret
      have hv : verdict r f ro false false = 0 := by simp [verdict, rowOf, hd'.out]
      have hn : nextS r f now ro false false = ⟨true, false, now, 0⟩ := by simp [nextS, next, hv, rowOf]
      rw [hv, hn]
      exact ⟨rfl, (Ch.of_below HB.out x).trans (Ch.lay4 W3 x k true false now (0)), (HP.out.same (HB.out.block x hlt)).lay4 hk true false now (0)⟩
    | true =>
      by_cases hx : r ≤ ro + 1
      · have hx' := Lib.hid hx
        clear hx
        have hd : decide (r ≤ ro + 1) = true := decide_eq_true hx'.out
        go_enter Try.func18, Try.ntmps18
        go_wp2_with (go_at_call 28; refine (ris_calls (k : Int) true His.out _).mono ?_; rintro e' w1 ⟨rfl, rfl⟩)
        go_quiet (fail)
        go_wp2
        go_quiet (fail)
        go_wp2
        generalize hW : World.drewN _ _ = W2
        have hb2 : W2.heap[w.heap.size]? = some (.cells #[.bool true, .bool true, .int .i64 now, .int .i64 (0)] 50 (0, 0)) := by rw [← hW]; exact set_blk (set_blk (new_blk _ _ 0) _ _) _ _
        have hbel : Below w.heap.size w W2 := by rw [← hW]; exact bd (((bd (AL.out _) _).setCell (p := ⟨w.heap.size, _, none⟩) (Nat.le_refl _) _).setCell (p := ⟨w.heap.size, _, none⟩) (Nat.le_refl _) _) _
        have d0 := cell_of hb2 0 _ rfl
        have d1 := cell_of hb2 1 _ rfl
        have d2 := cell_of hb2 2 _ rfl
        have d3 := cell_of hb2 3 _ rfl
        refine region_tail_drew 6 (by kernel_rfl) (by kernel_rfl) ?_
        simp only [List.take_succ_cons, List.take_zero, List.drop_succ_cons, List.drop_zero]
        repeat still_step
        refine wpStill_nil ?_
        have s0 := (hbel.drew.cell (p := ⟨x, 3 + k * 4, none⟩) hlt).trans c0
        have f0 := (hbel.drew.frozen (p := ⟨x, 3 + k * 4, none⟩) hlt).trans (HP.out.frz _)
        have s1 := (hbel.drew.cell (p := ⟨x, 3 + k * 4 + 1, none⟩) hlt).trans C1.out
        have f1 := (hbel.drew.frozen (p := ⟨x, 3 + k * 4 + 1, none⟩) hlt).trans (HP.out.frz _)
        have s2 := (hbel.drew.cell (p := ⟨x, 3 + k * 4 + 2, none⟩) hlt).trans c2
        have f2 := (hbel.drew.frozen (p := ⟨x, 3 + k * 4 + 2, none⟩) hlt).trans (HP.out.frz _)
        have s3 := (hbel.drew.cell (p := ⟨x, 3 + k * 4 + 3, none⟩) hlt).trans c3
        have f3 := (hbel.drew.frozen (p := ⟨x, 3 + k * 4 + 3, none⟩) hlt).trans (HP.out.frz _)
        have HB := Lib.hid hbel.drew
        clear d0 d1 d2 d3 hW hb2 hbel c0 c1 c2 c3
        generalize W2.drew = W3 at s0 s1 s2 s3 f0 f1 f2 f3 HB ⊢
        go_wp2
        go_ret
        have hv : verdict r f ro false true = 1 := by simp [verdict, rowOf, hx'.out]
        have hn : nextS r f now ro false true = ⟨true, true, now, 0⟩ := by simp [nextS, next, hv, rowOf]
        rw [hv, hn]
        exact ⟨rfl, (Ch.of_below HB.out x).trans (Ch.lay4 W3 x k true true now (0)), (HP.out.same (HB.out.block x hlt)).lay4 hk true true now (0)⟩
      · have hx' := Lib.hid hx
        clear hx
        have hd : decide (r ≤ ro + 1) = false := decide_eq_false hx'.out
        go_enter Try.func18, Try.ntmps18
        go_wp2_with (go_at_call 28; refine (ris_calls (k : Int) true His.out _).mono ?_; rintro e' w1 ⟨rfl, rfl⟩)
        go_quiet (fail)
        go_wp2
        go_quiet (fail)
        go_wp2
        generalize hW : World.drewN _ _ = W2
        have hb2 : W2.heap[w.heap.size]? = some (.cells #[.bool true, .bool false, .int .i64 now, .int .i64 (ro + 1)] 50 (0, 0)) := by rw [← hW]; exact new_blk _ _ 0
        have hbel : Below w.heap.size w W2 := by rw [← hW]; exact bd (bd (AL.out _) _) _
        have d0 := cell_of hb2 0 _ rfl
        have d1 := cell_of hb2 1 _ rfl
        have d2 := cell_of hb2 2 _ rfl
        have d3 := cell_of hb2 3 _ rfl
        refine region_tail_drew 6 (by kernel_rfl) (by kernel_rfl) ?_
        simp only [List.take_succ_cons, List.take_zero, List.drop_succ_cons, List.drop_zero]
        repeat still_step
        refine wpStill_nil ?_
        have s0 := (hbel.drew.cell (p := ⟨x, 3 + k * 4, none⟩) hlt).trans c0
        have f0 := (hbel.drew.frozen (p := ⟨x, 3 + k * 4, none⟩) hlt).trans (HP.out.frz _)
        have s1 := (hbel.drew.cell (p := ⟨x, 3 + k * 4 + 1, none⟩) hlt).trans C1.out
        have f1 := (hbel.drew.frozen (p := ⟨x, 3 + k * 4 + 1, none⟩) hlt).trans (HP.out.frz _)
        have s2 := (hbel.drew.cell (p := ⟨x, 3 + k * 4 + 2, none⟩) hlt).trans c2
        have f2 := (hbel.drew.frozen (p := ⟨x, 3 + k * 4 + 2, none⟩) hlt).trans (HP.out.frz _)
        have s3 := (hbel.drew.cell (p := ⟨x, 3 + k * 4 + 3, none⟩) hlt).trans c3
        have f3 := (hbel.drew.frozen (p := ⟨x, 3 + k * 4 + 3, none⟩) hlt).trans (HP.out.frz _)
        have HB := Lib.hid hbel.drew
        clear d0 d1 d2 d3 hW hb2 hbel c0 c1 c2 c3
        generalize W2.drew = W3 at s0 s1 s2 s3 f0 f1 f2 f3 HB ⊢
        go_wp2
        go_ret
        have hv : verdict r f ro false true = 0 := by simp [verdict, rowOf, hx'.out]
        have hn : nextS r f now ro false true = ⟨true, false, now, ro + 1⟩ := by simp [nextS, next, hv, rowOf]
        rw [hv, hn]
        exact ⟨rfl, (Ch.of_below HB.out x).trans (Ch.lay4 W3 x k true false now (ro + 1)), (HP.out.same (HB.out.block x hlt)).lay4 hk true false now (ro + 1)⟩
end Go.Proofs.Ytnlnkkblccppdaa.PB
