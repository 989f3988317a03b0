/- Contracts: is, of. -/
import Derived.Test.YtnlnkkblccppdaaPulseBase
namespace Go.Proofs.Ytnlnkkblccppdaa.PB
set_option linter.unusedVariables false
set_option linter.unusedSimpArgs false
open Go.RowKit Go.Maps

theorem law3 : Keyed Try.prog 3 := int_keyed Try.underlying3
theorem zero55 (w : World) : (zeroValue 55).run Try.prog w = .ok (encV zeroH) w := by kernel_rfl
def isB (s : Int) : Bool := decide (0 ≤ s) && decide (s < 64)
set_option maxRecDepth 100000 in
theorem is_calls (s : Int) (b : Bool) (hb : isB s = b) (w : World) : Calls Try.prog 26 #[.int .i64 s] w fun e w' => e = .returned (.bool b) ∧ w = w' := by
  subst hb
  unfold isB
  by_cases h : 0 ≤ s
  all_goals
    go_enter Try.func26, Try.ntmps26
    go_wp2
    go_ret
    first | (simp [h]; done) | (simp; omega)
set_option maxRecDepth 100000 in
theorem ris_calls (s : Int) (b : Bool) (hb : isB s = b) (w : World) : Calls Try.prog 28 #[.int .i64 s] w fun e w' => e = .returned (.bool b) ∧ w = w' := by
  subst hb
  unfold isB
  by_cases h : 0 ≤ s
  all_goals
    go_enter Try.func28, Try.ntmps28
    go_wp2
    go_ret
    first | (simp [h]; done) | (simp; omega)
set_option maxRecDepth 100000 in
theorem of_calls (mb n : Nat) (D : DataW Unit) (s l r : Int) (u b : Bool) (hs : (Lit.int .i64 s).wf = true) (w : World) (hown : w.ownsMap Try.prog 3 hR mb n D) (hb : Maps.has D (K s) = b) (hh : D.atKey (K s) (encD zeroH) = encD ⟨l, r, u⟩) :
    Calls Try.prog 27 #[.agg #[.map (some mb)], .int .i64 s] w fun e w' => e = .returned (.tuple #[.agg #[.int .i64 l, .int .i64 r, .bool u], .bool b]) ∧ Below w.heap.size w w' := by
  have Hown := Lib.hid hown
  have Hb := Lib.hid hb
  have Hh := Lib.hid hh
  have Hs := Lib.hid hs
  clear hown hb hh hs
  go_enter Try.func27, Try.ntmps27
  go_wp2_with (at_lookup; refine wpList_lookup_own_ok _ rfl _ _ 44 rfl 3 55 law3 Try.underlying44 hR (zero55 _) (encD zeroH) [] rfl mb n D rfl ?hown _ _ rfl (keyOf_int_mk Try.underlying3 Hs.out) ?_; (case hown => ((repeat apply World.ownsMap.alloc); exact Hown.out)); intro v ps hv; rw [Hh.out] at hv; obtain rfl := hR_inv hv; clear hv; rw [Hb.out]; unfold encV; dsimp only)
  exact bodyPost_ret (v := .tuple #[.agg #[.int .i64 l, .int .i64 r, .bool u], .bool b]) (by simp [results, Try.results27, go_sem]) rfl ⟨rfl, by first | exact ((((Below.refl _ _).alloc (Nat.le_refl _) _).alloc (by simp <;> omega) _).alloc (by simp <;> omega) _)⟩
/-- A pulse at block g, its map at block mb. -/
def PAt (w : World) (g mb : Nat) (r f e : Int) (n : Nat) (M : Int → Option Hist) : Prop :=
  w.heap[g]? = some (.cells #[.map (some mb), .int .i64 r, .int .i64 f, .int .i64 e] 48 (0, 0)) ∧ ∃ D, w.ownsMap Try.prog 3 hR mb n D ∧ Rep D M
theorem cell_of {w : World} {g : Nat} {cs : Array Value} {t : TypeId} (h : w.heap[g]? = some (.cells cs t (0, 0))) (i : Nat) (v : Value) (hv : cs[i]? = some v) : w.cell? ⟨g, i, none⟩ = some v := by
  simp [World.cell?, h, hv]
theorem PAt.cells {w : World} {g mb n : Nat} {r f e : Int} {M : Int → Option Hist} (h : PAt w g mb r f e n M) : w.cell? ⟨g, 0, none⟩ = some (.map (some mb)) ∧ w.cell? ⟨g, 1, none⟩ = some (.int .i64 r) ∧ w.cell? ⟨g, 2, none⟩ = some (.int .i64 f) ∧ w.cell? ⟨g, 3, none⟩ = some (.int .i64 e) :=
  ⟨cell_of h.1 0 _ rfl, cell_of h.1 1 _ rfl, cell_of h.1 2 _ rfl, cell_of h.1 3 _ rfl⟩
theorem rep_get {D : DataW Unit} {M : Int → Option Hist} (h : Rep D M) {s : Int} {x : Hist} (hM : (M s).getD zeroH = x) : D.atKey (K s) (encD zeroH) = encD x := by
  rw [(h s).2]; subst hM; cases M s <;> rfl
set_option maxRecDepth 100000 in
theorem up_calls (g mb n : Nat) (r f e : Int) (M : Int → Option Hist) (s l ro : Int) (u : Bool) (hs : (Lit.int .i64 s).wf = true) (w : World) (hp : PAt w g mb r f e n M) (hM : (M s).getD zeroH = ⟨l, ro, u⟩) :
    Calls Try.prog 21 #[.pointer (some ⟨g, 0, none⟩), .int .i64 s] w fun e w' => e = .returned (.bool u) ∧ Below w.heap.size w w' := by
  obtain ⟨c0, c1, c2, c3⟩ := hp.cells
  obtain ⟨_, D, hown, hrep⟩ := hp
  have Hown := Lib.hid hown
  have Hg := Lib.hid (rep_get hrep hM)
  have Hs := Lib.hid hs
  clear hown hrep hM hs
  go_enter Try.func21, Try.ntmps21
  go_wp2_with (go_at_call 27; refine (of_calls mb n D s l ro u _ Hs.out _ Hown.out rfl Hg.out).mono ?_; rintro e w1 ⟨rfl, hb1⟩)
  go_ret
  exact ⟨rfl, hb1.alloc hb1.size _⟩
end Go.Proofs.Ytnlnkkblccppdaa.PB
