/- Lemmas and contracts that the row YtgkmbefamcnifaaGreatLawTopWays goes by (part 3; joined by pack.py out of this session's texts, and of words that the kit's print lays). -/
import Derived.Test.YtgkmbefamcnifaaGreatKW2
import Derived.SizedLaws
import Derived.ChangeSlices
set_option maxRecDepth 100000
set_option maxHeartbeats 8000000
namespace Go.Proofs.YtgkmbefamcnifaaGreatW.PrintWords
open Go.ChangeShapes Go.WideShapes
/-- A row's slice of whole numbers is no longer than its weight allows. -/
theorem sized_ints {H : Type} {enc : TypeId × Value → H} {P : Program} {W : World} {base : Nat} {spare : Nat → Bool} {held : Bool} {t e : TypeId} {k : IntKind} {a : Option Addr} {len cap : Nat} {d : DataW H} {ps : List MemPlace} {ts : List TypeId} {ds : List (DataW H)} {j : Nat}
    (hsz : (DataW.weightsEach P ts ds).all (· ≤ reachBytes) = true) (ht : ts[j]? = some t) (hd : ds[j]? = some d) (hu : P.underlying t = some (.slice e)) (he : P.underlying e = some (.int k)) (hc : P.cellsOf e = 1) {B : Nat} (hB : P.bytesOf e = B)
    (h : DataW.Trod enc P W base spare held t (.slice a len cap) d ps) : len * B ≤ 140737488351232 := by
  obtain ⟨fuel, hf⟩ := h
  rcases open_ints hu he hc hf with ⟨hcs, _⟩ | ⟨x, l, c, zs, hcs, _, hl, _, hz, hx, _, _⟩
  · simp [Value.cells] at hcs
    obtain ⟨rfl, rfl, rfl⟩ := hcs
    simp
  · simp [Value.cells] at hcs
    obtain ⟨rfl, rfl, rfl⟩ := hcs
    obtain ⟨hx, _⟩ := Prod.mk.inj hx
    subst hx
    have z := sized_slice hsz ht hd hu
    rw [hB] at z
    have hl2 : len ≤ zs.length := by
      rw [hz]
      split
      · exact hl
      · exact Nat.le_refl _
    have h1 : (lits (H := H) k (zs.take len)).length + (lits (H := H) k (zs.drop len)).length = zs.length := by
      simp [lits]
      omega
    rw [h1] at z
    exact Nat.le_trans (Nat.mul_le_mul_right _ hl2) z
end Go.Proofs.YtgkmbefamcnifaaGreatW.PrintWords
namespace Go.Proofs.YtgkmbefamcnifaaGreat
open Go.RowKit Go.Proofs.YtgkmbefamcnifaaGreatW.PrintWords Go.Proofs.YtgkmbefamcnifaaGreatW.PrintLast Go.Proofs.YtgkmbefamcnifaaGreatW.PrintMore
section
variable {P : Program} {md : Region.Mode} {ops : Array Oper} {Q : Exit → Act → World → Prop} {S : World → Prop} {ds : List Nat}
theorem p_ (i N : Nat) {oi : Oper} {v : Value} {fuel : Nat} {l : Array Bool} {a a' : Act} {w : World}
    (h : wpAnyLast P md ops Q S ds fuel (l.setIfInBounds i true) a' w) (hi : ops[i]? = some oi := by rfl) (hN : oi.dst = some N := by rfl) (hc : anyB md ops l (l.setIfInBounds i true) i = true := by kernel_rfl)
    (hQ : ∀ c a w, Q (.panic c) (a.put oi.dst v) w → Q (.panic c) a w := by exact fun _ _ _ h => h) (hw : Region.wanted oi (yielded ops a.tmps) = true := by rfl) (hy : ∀ w, (execOp a.eval oi).run P w = .ok (.value v) w := by (intro w'; go_simp; with_reducible rfl))
    (ha : a.put (some N) v = a' := by (simp only [Act.put, q_a, q_0, q_s, i64_w, i32_w]; rfl)) : wpAnyLast P md ops Q S ds (fuel + 1) l a w :=
  pure_ (l.setIfInBounds i true) hi hN hc hQ (Or.inl ⟨hw, hy⟩) ha h
theorem u_ (i N : Nat) {oi : Oper} {fuel : Nat} {l : Array Bool} {a a' : Act} {w : World}
    (h : wpAnyLast P md ops Q S ds fuel (l.setIfInBounds i true) a' w) (hi : ops[i]? = some oi := by rfl) (hN : oi.dst = some N := by rfl) (hc : anyB md ops l (l.setIfInBounds i true) i = true := by kernel_rfl)
    (hQ : ∀ c a w, Q (.panic c) (a.put oi.dst undef) w → Q (.panic c) a w := by exact fun _ _ _ h => h) (hw : Region.wanted oi (yielded ops a.tmps) = false := by rfl)
    (ha : a.put (some N) undef = a' := by (simp only [Act.put, q_a, q_0, q_s, i64_w, i32_w]; rfl)) : wpAnyLast P md ops Q S ds (fuel + 1) l a w :=
  pure_ (l.setIfInBounds i true) hi hN hc hQ (Or.inr ⟨hw, rfl⟩) ha h
theorem t_ (i N : Nat) {oi : Oper} {v : Value} {fuel : Nat} {l : Array Bool} {a a' : Act} {w : World} (hS : S w)
    (h : wpAnyLast P md ops Q S ds fuel (l.setIfInBounds i true) a' w) (hi : ops[i]? = some oi := by rfl) (hN : oi.dst = some N := by rfl) (hc : takeB md ops ds l (l.setIfInBounds i true) i = true := by kernel_rfl)
    (hQ : ∀ c a w, Q (.panic c) (a.put oi.dst v) w → Q (.panic c) a w := by exact fun _ _ _ h => h) (hw : Region.wanted oi (yielded ops a.tmps) = true := by rfl) (hy : ∀ w, S w → (execOp a.eval oi).run P w = .ok (.value v) w := by (intro w' s; revert s; (try simp only [and_imp]); intros; go_simp; with_reducible rfl))
    (ha : a.put (some N) v = a' := by (simp only [Act.put, q_a, q_0, q_s, i64_w, i32_w]; rfl)) : wpAnyLast P md ops Q S ds (fuel + 1) l a w :=
  take_ (l.setIfInBounds i true) hi hN hc hQ (Or.inl ⟨hw, hy⟩) hS ha h
theorem n_ (N : Nat) {fuel : Nat} {l : Array Bool} {a a' : Act} {v : Value} {w : World} (h : wpAnyLast P md ops Q S ds fuel l a' w) (ha : a.put (some N) v = a' := by (simp only [Act.put, q_a, q_0, q_s, i64_w, i32_w]; rfl)) : wpAnyLast P md ops Q S ds fuel l (a.put (some N) v) w :=
  norm_ ha h
theorem g_ {oi : Oper} {N : Option Tmp} {a : Act} {w : World} {K : Act → World → Prop} {f : FuncId} {fn : Func} {as : Array Operand} {ts : Array TypeId} (hf : P.funcs[f]? = some fn) (args : Array Value)
    (h : Calls P f args w fun e w' => ∃ v, e = .returned v ∧ K (a.put N v) w') (hname : (fn.name == "runtime.NumGoroutine") = false := by kernel_rfl) (hb : fn.body.isSome = true := by rfl)
    (hw : Region.wanted oi (yielded ops a.tmps) = true := by rfl) (hN : oi.dst = N := by rfl) (hop : oi.op = .call { callee := .value (.func f), args := as, argTypes := ts } := by rfl) (hargs : as.map a.eval = args := by (simp only [List.map_toArray, List.map_cons, List.map_nil]; rfl)) :
    if Region.wanted oi (yielded ops a.tmps) = true then Oper.wp P oi a w K Q else K (a.put N undef) w :=
  goes_ hf hname hb args hw hN hop hargs h
theorem o_ (i : Nat) (N : Option Tmp) {oi : Oper} {fuel : Nat} {l : Array Bool} {a : Act} {w : World}
    (h : ∀ K : Act → World → Prop, Shut (∀ a' w', S w' → (S w' → wpAnyLast P md ops Q S ds fuel (l.setIfInBounds i true) a' w') → K a' w') → if Region.wanted oi (yielded ops a.tmps) = true then Oper.wp P oi a w K Q else K (a.put N undef) w)
    (hi : ops[i]? = some oi := by rfl) (hN : oi.dst = N := by rfl) (hc : readyB md ops l (l.setIfInBounds i true) i = true := by kernel_rfl) (hd : i ∉ ds := by decide) : wpAnyLast P md ops Q S ds (fuel + 1) l a w :=
  one_ (l.setIfInBounds i true) hi hN hc hd h
theorem l_ (i : Nat) (N : Option Tmp) {oi : Oper} {fuel : Nat} {l : Array Bool} {a : Act} {w : World}
    (h : ∀ K : Act → World → Prop, Shut (∀ a' w', wpAnyLast P md ops Q S ds fuel (l.setIfInBounds i true) a' w' → K a' w') → if Region.wanted oi (yielded ops a.tmps) = true then Oper.wp P oi a w K Q else K (a.put N undef) w)
    (hi : ops[i]? = some oi := by rfl) (hN : oi.dst = N := by rfl) (hc : readyB md ops l (l.setIfInBounds i true) i = true := by kernel_rfl) (hd : i ∈ ds := by decide) : wpAnyLast P md ops Q S ds (fuel + 1) l a w :=
  last_ (l.setIfInBounds i true) hi hN hc hd h
theorem am_ {p : Prop} (h : p) : Aside0 p := Aside0.mk h
theorem s_ {oi : Oper} {a : Act} {w w1 : World} {K : Act → World → Prop} (h : K a w1) (hw : Region.wanted oi (yielded ops a.tmps) = true := by rfl) (hN : oi.dst = none := by rfl) (hrun : (execOp a.eval oi).run P w = .ok .skip w1 := by (go_simp; rfl)) :
    if Region.wanted oi (yielded ops a.tmps) = true then Oper.wp P oi a w K Q else K (a.put none undef) w :=
  skip_ hw hN hrun h
end
end Go.Proofs.YtgkmbefamcnifaaGreat
