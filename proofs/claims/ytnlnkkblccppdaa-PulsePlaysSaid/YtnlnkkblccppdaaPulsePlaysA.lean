/- What the two pulses hold alike. -/
import Derived.Test.YtnlnkkblccppdaaPulseApart
namespace Go.Proofs.Ytnlnkkblccppdaa.PB
set_option linter.unusedVariables false
set_option linter.unusedSimpArgs false
open Go.RowKit Go.Maps

def RelAt (M : Int → Option Hist) (L : Nat → St) (now : Int) (k : Nat) : Prop :=
  ∃ l ro u t, (M k).getD zeroH = ⟨l, ro, u⟩ ∧ L k = ⟨t, u, l, ro⟩ ∧ (M k).isSome = t ∧ 0 ≤ ro ∧ ro ≤ 10 ∧ 0 ≤ l ∧ l ≤ now
def Rel (M : Int → Option Hist) (L : Nat → St) (now : Int) : Prop :=
  (∀ k : Nat, k < 64 → RelAt M L now k) ∧ ∀ s, isB s = false → M s = none
theorem Rel.start : Rel M0 (fun _ => zeroS) 0 := ⟨fun k _ => ⟨0, 0, false, false, rfl, rfl, rfl, by omega, by omega, by omega, by omega⟩, fun _ _ => rfl⟩
theorem RelAt.later {M : Int → Option Hist} {L : Nat → St} {now now' : Int} {k : Nat} (h : RelAt M L now k) (hn : now ≤ now') : RelAt M L now' k := by
  obtain ⟨l, ro, u, t, h1, h2, h3, h4, h5, h6, h7⟩ := h
  exact ⟨l, ro, u, t, h1, h2, h3, h4, h5, h6, by omega⟩
theorem Rel.later {M : Int → Option Hist} {L : Nat → St} {now now' : Int} (h : Rel M L now) (hn : now ≤ now') : Rel M L now' := ⟨fun k hk => (h.1 k hk).later hn, h.2⟩
theorem isB_nat {k : Nat} (h : k < 64) : isB (k : Int) = true := isB_of (by omega) (by omega)
theorem isB_out {s : Int} (h : isB s = false) (k : Nat) (hk : k < 64) : (k : Int) ≠ s := by
  intro e; rw [← e, isB_nat hk] at h; cases h
theorem isB_in {s : Int} (h : isB s = true) : ∃ k : Nat, s = k ∧ k < 64 := by
  unfold isB at h
  simp at h
  exact ⟨s.toNat, by omega, by omega⟩
theorem next_row {r f ro : Int} (now : Int) (u ok : Bool) (h0 : 0 ≤ ro) (h1 : ro ≤ 10) (hr : r ≤ 10) (hf : f ≤ 10) : 0 ≤ (next r f now ro u ok).row ∧ (next r f now ro u ok).row ≤ 10 := by
  unfold next verdict rowOf
  cases u <;> cases ok <;> simp <;> split <;> simp <;> omega
theorem Rel.told {M : Int → Option Hist} {L : Nat → St} {now r f ro : Int} {k : Nat} {u ok : Bool} (h : Rel M L now) (hk : k < 64) (hn : 0 ≤ now) (h0 : 0 ≤ ro) (h1 : ro ≤ 10) (hr : r ≤ 10) (hf : f ≤ 10) :
    Rel (upd M k (some (next r f now ro u ok))) (updS L k (nextS r f now ro u ok)) now := by
  refine ⟨fun j hj => ?_, fun s hs => ?_⟩
  · by_cases e : j = k
    · subst e
      have hb := next_row (r := r) (f := f) now u ok h0 h1 hr hf
      refine ⟨now, (next r f now ro u ok).row, (next r f now ro u ok).up, true, ?_, ?_, ?_, hb.1, hb.2, hn, by omega⟩
      · rw [upd_same]; exact next_eta _ _ _ _ _ _
      · unfold updS; rw [if_pos rfl]; rfl
      · rw [upd_same]; rfl
    · obtain ⟨l, ro', u', t, g1, g2, g3, g4⟩ := h.1 j hj
      refine ⟨l, ro', u', t, ?_, ?_, ?_, g4⟩
      · rw [upd_other _ _ (by omega)]; exact g1
      · unfold updS; rw [if_neg e]; exact g2
      · rw [upd_other _ _ (by omega)]; exact g3
  · rw [upd_other _ _ (fun e => isB_out hs k hk e.symm)]; exact h.2 s hs
theorem Rel.drop {M : Int → Option Hist} {L : Nat → St} {now l ro : Int} {k : Nat} {u t : Bool} (h : Rel M L now) (hk : k < 64) (hn : 0 ≤ now) (hm : (M k).getD zeroH = ⟨l, ro, u⟩) (hl : L k = ⟨t, u, l, ro⟩) (ht : (M k).isSome = t) :
    Rel (upd M k none) (if t = true then updS L k zeroS else L) now := by
  refine ⟨fun j hj => ?_, fun s hs => ?_⟩
  · by_cases e : j = k
    · subst e
      refine ⟨0, 0, false, false, ?_, ?_, ?_, by omega, by omega, by omega, hn⟩
      · rw [upd_same]; rfl
      · cases t with
        | true => rw [if_pos rfl]; unfold updS; rw [if_pos rfl]; rfl
        | false =>
          rw [if_neg (by simp), hl]
          rw [Option.isSome_eq_false_iff, Option.isNone_iff_eq_none] at ht
          rw [ht] at hm
          simp [zeroH] at hm
          obtain ⟨rfl, rfl, rfl⟩ := hm
          rfl
      · rw [upd_same]; rfl
    · obtain ⟨l', ro', u', t', g1, g2, g3, g4⟩ := h.1 j hj
      refine ⟨l', ro', u', t', ?_, ?_, ?_, g4⟩
      · rw [upd_other _ _ (by omega)]; exact g1
      · split
        · unfold updS; rw [if_neg e]; exact g2
        · exact g2
      · rw [upd_other _ _ (by omega)]; exact g3
  · by_cases e : s = k
    · rw [e, upd_same]
    · rw [upd_other _ _ e]; exact h.2 s hs
theorem Rel.drop_out {M : Int → Option Hist} {L : Nat → St} {now s : Int} (h : Rel M L now) (hs : isB s = false) : Rel (upd M s none) L now := by
  refine ⟨fun j hj => ?_, fun t ht => ?_⟩
  · obtain ⟨l', ro', u', t', g1, g2, g3, g4⟩ := h.1 j hj
    have hne := isB_out hs j hj
    exact ⟨l', ro', u', t', by rw [upd_other _ _ hne]; exact g1, g2, by rw [upd_other _ _ hne]; exact g3, g4⟩
  · by_cases e : t = s
    · rw [e, upd_same]
    · rw [upd_other _ _ e]; exact h.2 t ht
theorem due_same {s now l c : Int} (t : Bool) (h : isB s = true) : dueB s now l c t = (!t || decide (l + c ≤ now)) := by
  unfold dueB
  rw [h, Bool.true_and]
  cases t
  · rfl
  · simp only [Bool.not_true, Bool.false_or]; rw [decide_eq_decide]; omega
theorem due_out {s now l c : Int} (t : Bool) (h : isB s = false) : dueB s now l c t = false := by
  unfold dueB; rw [h, Bool.false_and]
end Go.Proofs.Ytnlnkkblccppdaa.PB
