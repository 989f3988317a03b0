/- Contracts: Drop, Told, New of package pulse. -/
import Derived.Test.YtnlnkkblccppdaaPulseB
namespace Go.Proofs.Ytnlnkkblccppdaa.PB
set_option linter.unusedVariables false
set_option linter.unusedSimpArgs false
open Go.RowKit Go.Maps

/-- Nothing that was there has turned, but for block mb. -/
structure Ch (w w' : World) (mb : Nat) : Prop where
  os : w'.os = w.os
  tape : w'.tape = w.tape
  output : w'.output = w.output
  size : w.heap.size ≤ w'.heap.size
  block : ∀ k, k < w.heap.size → k ≠ mb → w'.heap[k]? = w.heap[k]?
theorem Ch.of_below {w w' : World} (h : Below w.heap.size w w') (mb : Nat) : Ch w w' mb := ⟨h.os, h.tape, h.output, h.size, fun k hk _ => h.block k hk⟩
theorem Ch.of_grown {w w' : World} {mb : Nat} (h : w.grownBy w' (some mb)) : Ch w w' mb := ⟨h.os, h.tape, h.output, h.size, fun k hk hne => h.block k hk (fun e => hne (by injection e))⟩
theorem Ch.trans {a b c : World} {mb : Nat} (h : Ch a b mb) (k : Ch b c mb) : Ch a c mb :=
  ⟨k.os.trans h.os, k.tape.trans h.tape, k.output.trans h.output, Nat.le_trans h.size k.size, fun i hi hne => (k.block i (Nat.lt_of_lt_of_le hi h.size) hne).trans (h.block i hi hne)⟩
theorem Ch.below {w w' : World} {mb B : Nat} (h : Ch w w' mb) (hB : B ≤ mb) (hs : B ≤ w.heap.size) : Below B w w' := ⟨h.os, h.tape, h.output, h.size, fun k hk => h.block k (by omega) (by omega)⟩
theorem Ch.drewN {a b : World} {mb : Nat} (h : Ch a b mb) (n : Nat) : Ch a (b.drewN n) mb := ⟨h.os, h.tape, h.output, h.size, h.block⟩
theorem blk_lt {w : World} {g : Nat} {o : Obj} (h : w.heap[g]? = some o) : g < w.heap.size := by
  rcases Nat.lt_or_ge g w.heap.size with h' | h'
  · exact h'
  · rw [Array.getElem?_eq_none h'] at h; cases h
theorem owns_eq {w w' : World} {b n : Nat} {D : DataW Unit} (h : w.ownsMap Try.prog 3 hR b n D) (e : w'.heap[b]? = w.heap[b]?) : w'.ownsMap Try.prog 3 hR b n D := by
  obtain ⟨es, clock, h1, h2⟩ := h
  exact ⟨es, clock, e.trans h1, h2⟩
theorem PAt.ne {w : World} {g mb n : Nat} {r f e : Int} {M : Int → Option Hist} (h : PAt w g mb r f e n M) : g ≠ mb := by
  rintro rfl
  obtain ⟨h1, D, ⟨es, clock, h2, _⟩, _⟩ := h
  rw [h1] at h2; injection h2 with h2; cases h2
theorem PAt.lt {w : World} {g mb n : Nat} {r f e : Int} {M : Int → Option Hist} (h : PAt w g mb r f e n M) : g < w.heap.size ∧ mb < w.heap.size := by
  refine ⟨blk_lt h.1, ?_⟩
  obtain ⟨h1, D, ⟨es, clock, h2, _⟩, _⟩ := h
  exact blk_lt h2
theorem PAt.same {w w' : World} {g mb n : Nat} {r f e : Int} {M : Int → Option Hist} (h : PAt w g mb r f e n M) (e1 : w'.heap[g]? = w.heap[g]?) (e2 : w'.heap[mb]? = w.heap[mb]?) : PAt w' g mb r f e n M := by
  obtain ⟨h1, D, h2, h3⟩ := h
  exact ⟨e1.trans h1, D, owns_eq h2 e2, h3⟩
theorem PAt.below {w w' : World} {g mb n : Nat} {r f e : Int} {M : Int → Option Hist} (h : PAt w g mb r f e n M) (hb : Below w.heap.size w w') : PAt w' g mb r f e n M :=
  h.same (hb.block _ h.lt.1) (hb.block _ h.lt.2)
theorem PAt.ch {w w' : World} {g mb n x : Nat} {r f e : Int} {M : Int → Option Hist} (h : PAt w g mb r f e n M) (hc : Ch w w' x) (h1 : g ≠ x) (h2 : mb ≠ x) : PAt w' g mb r f e n M :=
  h.same (hc.block _ h.lt.1 h1) (hc.block _ h.lt.2 h2)
set_option maxRecDepth 100000 in
theorem drop_calls (g mb n : Nat) (r f e : Int) (M : Int → Option Hist) (s : Int) (was : Bool) (hs : (Lit.int .i64 s).wf = true) (w : World) (hp : PAt w g mb r f e n M) (hw : (M s).isSome = was) :
    Calls Try.prog 23 #[.pointer (some ⟨g, 0, none⟩), .int .i64 s] w fun e' w' => e' = .returned (.bool was) ∧ Ch w w' mb ∧ PAt w' g mb r f e n (upd M s none) := by
  have HP := Lib.hid hp
  obtain ⟨c0, c1, c2, c3⟩ := hp.cells
  obtain ⟨hblk, D, hown, hrep⟩ := hp
  have hlt := blk_lt hblk
  have Hown := Lib.hid hown
  obtain ⟨x, hx⟩ : ∃ x, (M s).getD zeroH = x := ⟨_, rfl⟩
  obtain ⟨l, ro, u⟩ := x
  have Hg := Lib.hid (rep_get hrep hx)
  have Hh := Lib.hid ((hrep s).1.trans hw)
  have Hs := Lib.hid hs
  have HR := Lib.hid hrep
  have C0 := Lib.hid c0
  have Hb := Lib.hid hblk
  clear hown hrep hx hs hw hblk c1 c2 c3
  go_enter Try.func23, Try.ntmps23
  go_wp2_with (first | (go_at_call 27; refine (of_calls mb n D s l ro u was Hs.out _ Hown.out Hh.out Hg.out).mono ?_; rintro e' w1 ⟨rfl, hb1⟩; have c0 := fun o => ((hb1.alloc hb1.size o).cell (p := ⟨g, 0, none⟩) hlt).trans C0.out; have HB := Lib.hid hb1; clear hb1) | (at_delete; refine wpList_delete_own _ rfl _ _ 44 3 rfl 55 law3 Try.underlying44 hR mb n D rfl ?hown _ _ rfl (keyOf_int_mk Try.underlying3 Hs.out) ?_; (case hown => exact (owns_eq Hown.out (HB.out.block mb HP.out.lt.2)).alloc _); intro w2 hown2 hturn2; have HT := Lib.hid hturn2; have HO2 := Lib.hid hown2; clear hturn2 hown2))
  go_ret
  have h1 : Ch w w2 mb := (Ch.of_below (HB.out.alloc HB.out.size _) mb).trans (Ch.of_grown HT.out.grown)
  exact ⟨rfl, h1, (h1.block g hlt HP.out.ne).trans Hb.out, _, HO2.out, rep_del HR.out s⟩
end Go.Proofs.Ytnlnkkblccppdaa.PB
