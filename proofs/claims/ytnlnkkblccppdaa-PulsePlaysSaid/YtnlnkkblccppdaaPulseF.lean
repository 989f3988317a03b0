/- Contracts of the reference of chapter 8: what memory holds; New. -/
import Derived.Test.YtnlnkkblccppdaaPulseE
import Derived.Laws.Tables
namespace Go.Proofs.Ytnlnkkblccppdaa.PB
set_option linter.unusedVariables false
set_option linter.unusedSimpArgs false
open Go.RowKit Go.Maps

theorem wpList_built {P : Program} {ops : Array Oper} {rest : List Oper} {o : Oper} {a : Act} {w : World} {Q : Exit → Act → World → Prop} (hg : o.guard = none) (t : TypeId) (parts : Array (Nat × Operand)) (ho : o.op = .build t parts) (cells : Array Value)
    (hc : P.built t (parts.map fun (i, x) => (i, a.eval x)).toList = some cells) (h : wpList P ops Q rest (a.put o.dst (.agg cells)) w) : wpList P ops Q (o :: rest) a w :=
  wpList_build hg t parts ho (by rw [hc]; rfl) (by rw [hc]; exact h)
theorem gate_slot {P : Program} {ops : Array Oper} {rest : List Oper} {o : Oper} {a : Act} {w : World} {Q : Exit → Act → World → Prop} {N : Nat} (_h : o.dst = some N) (h : wpList P ops Q (o :: rest) a w) : wpList P ops Q (o :: rest) a w := h
def zero4 : List Value := [.bool false, .bool false, .int .i64 0, .int .i64 0]
def refCells (r f e : Int) : Array Value := (.int .i64 r :: .int .i64 f :: .int .i64 e :: (List.replicate 64 zero4).flatten).toArray
theorem built53 (r f e : Int) : Try.prog.built 53 [(0, .int .i64 r), (1, .int .i64 f), (2, .int .i64 e)] = some (refCells r f e) := by kernel_rfl
structure St where
  told : Bool
  up : Bool
  last : Int
  row : Int
def zeroS : St := ⟨false, false, 0, 0⟩
/-- The reference's pulse at block x. -/
def RAt (w : World) (x : Nat) (r f e : Int) (L : Nat → St) : Prop :=
  ∃ cs : Array Value, w.heap[x]? = some (.cells cs 53 (0, 0)) ∧ cs[0]? = some (.int .i64 r) ∧ cs[1]? = some (.int .i64 f) ∧ cs[2]? = some (.int .i64 e) ∧
    ∀ s, s < 64 → cs[3 + s * 4]? = some (.bool (L s).told) ∧ cs[3 + s * 4 + 1]? = some (.bool (L s).up) ∧ cs[3 + s * 4 + 2]? = some (.int .i64 (L s).last) ∧ cs[3 + s * 4 + 3]? = some (.int .i64 (L s).row)
theorem rows_zero (s : Nat) (h : s < 64) (r f e : Int) : (refCells r f e)[3 + s * 4]? = some (.bool false) ∧ (refCells r f e)[3 + s * 4 + 1]? = some (.bool false) ∧ (refCells r f e)[3 + s * 4 + 2]? = some (.int .i64 0) ∧ (refCells r f e)[3 + s * 4 + 3]? = some (.int .i64 0) := by
  have key : ∀ (n s : Nat), s < n → ((List.replicate n zero4).flatten)[s * 4]? = some (.bool false) ∧ ((List.replicate n zero4).flatten)[s * 4 + 1]? = some (.bool false) ∧ ((List.replicate n zero4).flatten)[s * 4 + 2]? = some (.int .i64 0) ∧ ((List.replicate n zero4).flatten)[s * 4 + 3]? = some (.int .i64 0) := by
    intro n
    induction n with
    | zero => intro s h; omega
    | succ n ih =>
      intro s h
      rw [List.replicate_succ, List.flatten_cons]
      cases s with
      | zero => exact ⟨rfl, rfl, rfl, rfl⟩
      | succ s =>
        have := ih s (by omega)
        rw [show (s + 1) * 4 = s * 4 + 1 + 1 + 1 + 1 by omega]
        exact this
  have := key 64 s h
  unfold refCells
  simp only [List.getElem?_toArray]
  rw [show 3 + s * 4 = s * 4 + 1 + 1 + 1 by omega]
  exact this
def RNewPost (w : World) (r f e : Int) (e' : Ending) (w' : World) : Prop := ∃ x, e' = .returned (.tuple #[.pointer (some ⟨x, 0, none⟩), .int .i64 0]) ∧ w.heap.size ≤ x ∧ Below w.heap.size w w' ∧ RAt w' x r f e (fun _ => zeroS)
theorem rnew_at (w : World) (r f e : Int) : RAt (w.alloc (.cells (refCells r f e) 53)) w.heap.size r f e (fun _ => zeroS) :=
  ⟨_, new_blk _ _ 0, by unfold refCells; simp only [List.getElem?_toArray]; rfl, by unfold refCells; simp only [List.getElem?_toArray]; rfl, by unfold refCells; simp only [List.getElem?_toArray]; rfl, fun s h => rows_zero s h r f e⟩
set_option maxHeartbeats 4000000 in
set_option maxRecDepth 100000 in
theorem rnew_ok (r f e : Int) (h : okNew r f e) (w : World) : Calls Try.prog 16 #[.int .i64 r, .int .i64 f, .int .i64 e] w (RNewPost w r f e) := by
  obtain ⟨h1, h2, h3, h4, h5, h6⟩ := h
  go_enter Try.func16, Try.ntmps16
  go_wp2_with ((with_reducible refine gate_slot (N := 33) rfl ?_); refine wpList_built rfl 53 #[(0, .tmp 30), (1, .tmp 31), (2, .tmp 32)] rfl (refCells r f e) ?hc ?_; (case hc => (simp only [List.map_toArray, List.map_cons, List.map_nil]; exact built53 r f e)))
  exact bodyPost_ret (v := .tuple #[.pointer (some ⟨w.heap.size, 0, none⟩), .int .i64 0]) (by simp [results, Try.results16, go_sem]) rfl ⟨_, rfl, Nat.le_refl _, (Below.refl _ _).alloc (Nat.le_refl _) _, rnew_at w r f e⟩
set_option maxHeartbeats 4000000 in
set_option maxRecDepth 100000 in
theorem rnew_bad (r f e : Int) (h : ¬ okNew r f e) (w : World) : Calls Try.prog 16 #[.int .i64 r, .int .i64 f, .int .i64 e] w fun e' w' => e' = .returned (.tuple #[.pointer none, .int .i64 14]) ∧ Below w.heap.size w w' := by
  have H := Lib.hid h
  clear h
  go_enter Try.func16, Try.ntmps16
  go_wp2_with ((with_reducible refine gate_slot (N := 33) rfl ?_); refine wpList_built rfl 53 #[(0, .tmp 30), (1, .tmp 31), (2, .tmp 32)] rfl (refCells r f e) ?hc ?_; (case hc => (simp only [List.map_toArray, List.map_cons, List.map_nil]; exact built53 r f e)))
  all_goals first
    | exact bodyPost_ret (v := .tuple #[.pointer none, .int .i64 14]) (by simp [results, Try.results16, go_sem]) rfl ⟨rfl, Below.refl _ _⟩
    | (exfalso; apply H.out; unfold okNew; omega)
end Go.Proofs.Ytnlnkkblccppdaa.PB
