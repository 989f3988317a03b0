/- Lemmas and contracts that the row YtgkmbefamcnifaaGreatLawTopWays goes by (part 9; joined by pack.py out of this session's texts, and of words that the kit's print lays). -/
import Derived.Test.YtgkmbefamcnifaaGreatKW8
import Derived.ChangeKeysEq
set_option maxRecDepth 100000
set_option maxHeartbeats 8000000
namespace Go.Proofs.YtgkmbefamcnifaaGreat.TB
set_option linter.unusedVariables false
set_option linter.unusedSimpArgs false
open Go.RowKit Go.Proofs.YtgkmbefamcnifaaGreat.Hp Go.Proofs.YtgkmbefamcnifaaGreat.SB Go.Proofs.YtgkmbefamcnifaaGreat.WB Go.Proofs.YtgkmbefamcnifaaGreatW.PrintWords Go.Proofs.YtgkmbefamcnifaaGreatW.PrintLast Go.Proofs.YtgkmbefamcnifaaGreatW.PrintMore
structure Wk where
  slot : Nat
  pl : Nat
  step : Nat
  wt : Nat
def Wk.z : Wk := ⟨0, 0, 1, 1⟩
def Wk.cs (x : Wk) : List Value := [.int .i64 x.slot, .int .i64 x.pl, .int .i64 x.step, .int .i64 x.wt]
structure WkOk (x : Wk) : Prop where
  slot : x.slot < 64
  pl : x.pl < 127
  st1 : 1 ≤ x.step
  st2 : x.step ≤ 126
  wt1 : 1 ≤ x.wt
  wt2 : x.wt ≤ 8
def wtI (we : Int) : Int := min (max we 1) 8
theorem wtI_b (we : Int) : 1 ≤ wtI we ∧ wtI we ≤ 8 := by unfold wtI; omega
def wkOf (p : Po) (i : Nat) : Wk := ⟨i, (spunL 127 [1, (p.s i).ad, (p.s i).po]).toNat, (1 + spunL 126 [2, (p.s i).ad, (p.s i).po]).toNat, (wtI (p.s i).we).toNat⟩
theorem wkOf_ok (p : Po) (i : Nat) (hi : i < 64) : WkOk (wkOf p i) := by
  have a := spun_b 127 [1, (p.s i).ad, (p.s i).po] (by decide) (by decide)
  have b := spun_b 126 [2, (p.s i).ad, (p.s i).po] (by decide) (by decide)
  have c := wtI_b (p.s i).we
  unfold wkOf
  constructor <;> simp only <;> omega
def wksL (p : Po) : Nat → Nat → List Wk
  | 0, _ => []
  | k + 1, i => if (p.s i).st = 2 then wkOf p i :: wksL p k (i + 1) else wksL p k (i + 1)
theorem wksL_len (p : Po) : ∀ k i, (wksL p k i).length ≤ k
  | 0, i => by simp [wksL]
  | k + 1, i => by
    have h := wksL_len p k (i + 1)
    unfold wksL
    split
    · simp only [List.length_cons]; omega
    · omega
theorem wksL_ok (p : Po) : ∀ k i, i + k ≤ 64 → ∀ x ∈ wksL p k i, WkOk x
  | 0, i, _, x, hx => by simp [wksL] at hx
  | k + 1, i, h, x, hx => by
    unfold wksL at hx
    split at hx
    · rcases List.mem_cons.1 hx with rfl | hx
      · exact wkOf_ok p i (by omega)
      · exact wksL_ok p k (i + 1) (by omega) x hx
    · exact wksL_ok p k (i + 1) (by omega) x hx
/-- The next free place from a, in steps. -/
def adv (W : List Int) (st : Nat) : Nat → Nat → Nat
  | 0, a => a
  | f + 1, a => if W.getD a 0 = -1 then a else adv W st f ((a + st) % 127)
def plc (s : List Int × List Wk) (k : Nat) : List Int × List Wk :=
  let x := s.2.getD k Wk.z
  let a := adv s.1 x.step 127 x.pl
  (s.1.set a x.slot, s.2.set k ⟨x.slot, a, x.step, x.wt⟩)
def ordL : List Wk → Nat → List Nat
  | [], _ => []
  | x :: l, k => List.replicate x.wt k ++ ordL l (k + 1)
def runW (L : List Wk) : Nat → List Int × List Wk
  | 0 => (List.replicate 127 (-1), L)
  | n + 1 => plc (runW L n) ((ordL L 0).getD (n % (ordL L 0).length) 0)
def wheelL (p : Po) : List Int := if wksL p 64 0 = [] then List.replicate 127 (-1) else (runW (wksL p 64 0) 127).1
/-- How many turns the first k have in one round. -/
def preW : List Wk → Nat → Nat
  | _, 0 => 0
  | [], _ + 1 => 0
  | x :: l, k + 1 => x.wt + preW l k
theorem preW_succ : ∀ (L : List Wk) (k : Nat) (x : Wk), L[k]? = some x → preW L (k + 1) = preW L k + x.wt
  | [], k, x, h => by simp at h
  | y :: l, 0, x, h => by
    simp only [List.getElem?_cons_zero, Option.some.injEq] at h
    subst h
    cases l <;> simp [preW]
  | y :: l, k + 1, x, h => by
    simp only [List.getElem?_cons_succ] at h
    show y.wt + preW l (k + 1) = y.wt + preW l k + x.wt
    rw [preW_succ l k x h]; omega
theorem preW_all : ∀ (L : List Wk) (o : Nat), preW L L.length = (ordL L o).length
  | [], o => rfl
  | y :: l, o => by
    show y.wt + preW l l.length = _
    rw [preW_all l (o + 1), ordL, List.length_append, List.length_replicate]
theorem ord_at : ∀ (L : List Wk) (o k j : Nat) (x : Wk), L[k]? = some x → j < x.wt → preW L k + j < (ordL L o).length ∧ (ordL L o).getD (preW L k + j) 0 = o + k
  | [], o, k, j, x, h, _ => by simp at h
  | y :: l, o, 0, j, x, h, hj => by
    simp only [List.getElem?_cons_zero, Option.some.injEq] at h
    subst h
    have e : preW (y :: l) 0 + j = j := by simp [preW]
    rw [e, ordL, List.length_append, List.length_replicate]
    refine ⟨by omega, ?_⟩
    rw [List.getD_eq_getElem?_getD, List.getElem?_append_left (by simpa using hj)]
    simp [hj]
  | y :: l, o, k + 1, j, x, h, hj => by
    simp only [List.getElem?_cons_succ] at h
    have ih := ord_at l (o + 1) k j x h hj
    have e : preW (y :: l) (k + 1) + j = y.wt + (preW l k + j) := by show y.wt + preW l k + j = _; omega
    rw [e, ordL, List.length_append, List.length_replicate]
    refine ⟨by omega, ?_⟩
    rw [List.getD_eq_getElem?_getD, List.getElem?_append_right (by simp), List.length_replicate, show y.wt + (preW l k + j) - y.wt = preW l k + j by omega, ← List.getD_eq_getElem?_getD, ih.2]
    omega
theorem inv127 : ∀ st, st < 127 → st ≠ 0 → ∃ t, t < 127 ∧ (st * t) % 127 = 1 := by decide +kernel
theorem hit127 (a st i : Nat) (ha : a < 127) (h1 : 1 ≤ st) (h2 : st ≤ 126) (hi : i < 127) : ∃ j, j < 127 ∧ (a + j * st) % 127 = i := by
  obtain ⟨t, ht, h⟩ := inv127 st (by omega) (by omega)
  refine ⟨(t * (i + 127 - a)) % 127, Nat.mod_lt _ (by decide), ?_⟩
  have e : (t * (i + 127 - a)) % 127 * st % 127 = (i + 127 - a) % 127 := by
    rw [Nat.mod_mul_mod, Nat.mul_right_comm, Nat.mul_comm t st, Nat.mul_mod, h, Nat.one_mul, Nat.mod_mod]
  rw [Nat.add_mod, e, ← Nat.add_mod]
  omega
theorem adv_lt (W : List Int) (st : Nat) : ∀ f a, a < 127 → adv W st f a < 127
  | 0, a, h => h
  | f + 1, a, h => by
    unfold adv
    split
    · exact h
    · exact adv_lt W st f _ (Nat.mod_lt _ (by decide))
theorem adv_free (W : List Int) (st : Nat) : ∀ f a j, j < f → a < 127 → W.getD ((a + j * st) % 127) 0 = -1 → W.getD (adv W st f a) 0 = -1
  | 0, a, j, h, _, _ => by omega
  | f + 1, a, j, h, ha, hw => by
    unfold adv
    by_cases h0 : W.getD a 0 = -1
    · rw [if_pos h0]; exact h0
    · rw [if_neg h0]
      cases j with
      | zero =>
        rw [Nat.zero_mul, Nat.add_zero, Nat.mod_eq_of_lt ha] at hw
        exact absurd hw h0
      | succ j =>
        refine adv_free W st f _ j (by omega) (Nat.mod_lt _ (by decide)) ?_
        rw [← hw]
        congr 1
        rw [Nat.mod_add_mod]
        congr 1
        rw [Nat.add_mul, Nat.one_mul]; omega
structure RunOk (L : List Wk) (n : Nat) (s : List Int × List Wk) : Prop where
  len : s.1.length = 127
  cnt : s.1.count (-1) = 127 - n
  val : ∀ x ∈ s.1, -1 ≤ x ∧ x < 64
  wl : s.2.length = L.length
  wk : ∀ (k : Nat) (x : Wk), s.2[k]? = some x → WkOk x
  same : ∀ (k : Nat) (x : Wk), s.2[k]? = some x → ∃ y : Wk, L[k]? = some y ∧ x.slot = y.slot ∧ x.step = y.step ∧ x.wt = y.wt
theorem RunOk.start {L : List Wk} (h : ∀ x ∈ L, WkOk x) : RunOk L 0 (List.replicate 127 (-1), L) where
  len := by simp
  cnt := by simp
  val := by intro x hx; have := (List.mem_replicate.1 hx).2; omega
  wl := rfl
  wk := fun k x hx => h x (List.mem_of_getElem? hx)
  same := fun k x hx => ⟨x, hx, rfl, rfl, rfl⟩
theorem RunOk.free {L : List Wk} {n : Nat} {s : List Int × List Wk} (h : RunOk L n s) (hn : n < 127) {x : Wk} (hx : WkOk x) : s.1.getD (adv s.1 x.step 127 x.pl) 0 = -1 ∧ adv s.1 x.step 127 x.pl < 127 := by
  have hc : 0 < s.1.count (-1) := by rw [h.cnt]; omega
  obtain ⟨i, hi, he⟩ := List.getElem_of_mem (List.count_pos_iff.1 hc)
  rw [h.len] at hi
  obtain ⟨j, hj, e⟩ := hit127 x.pl x.step i hx.pl hx.st1 hx.st2 hi
  refine ⟨adv_free _ _ 127 _ j hj hx.pl ?_, adv_lt _ _ _ _ hx.pl⟩
  rw [e, List.getD_eq_getElem?_getD, List.getElem?_eq_getElem (by rw [h.len]; exact hi), he]
  rfl
theorem RunOk.next {L : List Wk} {n : Nat} {s : List Int × List Wk} (h : RunOk L n s) (hn : n < 127) {k : Nat} (hk : k < L.length) : RunOk L (n + 1) (plc s k) := by
  have hk2 : k < s.2.length := by rw [h.wl]; exact hk
  have hx : s.2[k]? = some (s.2.getD k Wk.z) := by rw [List.getD_eq_getElem?_getD, List.getElem?_eq_getElem hk2]; rfl
  have ok := h.wk k _ hx
  obtain ⟨f0, f1⟩ := h.free hn ok
  have hf : adv s.1 (s.2.getD k Wk.z).step 127 (s.2.getD k Wk.z).pl < s.1.length := by rw [h.len]; exact f1
  have e0 : s.1[adv s.1 (s.2.getD k Wk.z).step 127 (s.2.getD k Wk.z).pl]'hf = -1 := by
    rw [List.getD_eq_getElem?_getD, List.getElem?_eq_getElem hf] at f0
    exact f0
  obtain ⟨y, hy, e1, e2, e3⟩ := h.same k _ hx
  have key : ∀ j x, (s.2.set k ⟨(s.2.getD k Wk.z).slot, adv s.1 (s.2.getD k Wk.z).step 127 (s.2.getD k Wk.z).pl, (s.2.getD k Wk.z).step, (s.2.getD k Wk.z).wt⟩)[j]? = some x → (j = k ∧ x = ⟨(s.2.getD k Wk.z).slot, adv s.1 (s.2.getD k Wk.z).step 127 (s.2.getD k Wk.z).pl, (s.2.getD k Wk.z).step, (s.2.getD k Wk.z).wt⟩) ∨ s.2[j]? = some x := by
    intro j x hj
    by_cases hjk : j = k
    · subst hjk
      rw [List.getElem?_set_self hk2] at hj
      exact .inl ⟨rfl, (Option.some.inj hj).symm⟩
    · rw [List.getElem?_set_ne (fun e => hjk e.symm)] at hj
      exact .inr hj
  refine ⟨?_, ?_, ?_, ?_, ?_, ?_⟩
  · show (s.1.set _ _).length = 127
    rw [List.length_set]; exact h.len
  · show (s.1.set _ _).count (-1) = 127 - (n + 1)
    rw [List.count_set hf, e0, h.cnt]
    have : ((((s.2.getD k Wk.z).slot : Nat) : Int) == -1) = false := beq_eq_false_iff_ne.mpr (by omega)
    simp only [this]
    simp
    omega
  · intro x hx'
    rcases List.mem_or_eq_of_mem_set hx' with h' | rfl
    · exact h.val x h'
    · have := ok.slot; omega
  · show (s.2.set _ _).length = _
    rw [List.length_set]; exact h.wl
  · intro j x hj
    rcases key j x hj with ⟨_, rfl⟩ | hj
    · exact ⟨ok.slot, f1, ok.st1, ok.st2, ok.wt1, ok.wt2⟩
    · exact h.wk j x hj
  · intro j x hj
    rcases key j x hj with ⟨rfl, rfl⟩ | hj
    · exact ⟨y, hy, e1, e2, e3⟩
    · exact h.same j x hj
/-- Turns so far: whole rounds, whole turns of walkers, turns of this one. -/
theorem run_step {L : List Wk} {q k j : Nat} {x : Wk} (hx : L[k]? = some x) (hj : j < x.wt) : runW L (q * (ordL L 0).length + preW L k + j + 1) = plc (runW L (q * (ordL L 0).length + preW L k + j)) k := by
  obtain ⟨h1, h2⟩ := ord_at L 0 k j x hx hj
  show plc _ _ = _
  rw [show q * (ordL L 0).length + preW L k + j = (preW L k + j) + q * (ordL L 0).length by omega, Nat.add_mul_mod_self_right, Nat.mod_eq_of_lt h1, h2, Nat.zero_add]
/-- Walkers in a block. -/
def WkAt (w : World) (g : Nat) (l : List Wk) : Prop := ∃ cur, w.heap[g]? = some (.cells cur 141 (0, 0)) ∧ ∀ k x, l[k]? = some x → ∀ j v, x.cs[j]? = some v → cur[k * 4 + j]? = some v
theorem WkAt.cell {w : World} {g : Nat} {l : List Wk} (h : WkAt w g l) {k : Nat} {x : Wk} (hx : l[k]? = some x) : w.cell? ⟨g, k * 4, none⟩ = some (.int .i64 x.slot) ∧ w.cell? ⟨g, k * 4 + 1, none⟩ = some (.int .i64 x.pl) ∧ w.cell? ⟨g, k * 4 + 2, none⟩ = some (.int .i64 x.step) ∧ w.cell? ⟨g, k * 4 + 3, none⟩ = some (.int .i64 x.wt) := by
  obtain ⟨cur, hc, hv⟩ := h
  have f : ∀ j v, x.cs[j]? = some v → w.cell? ⟨g, k * 4 + j, none⟩ = some v := fun j v hj => by rw [cell_of_row w g _ _ _ _ hc]; exact hv k x hx j v hj
  exact ⟨f 0 _ rfl, f 1 _ rfl, f 2 _ rfl, f 3 _ rfl⟩
theorem WkAt.below {w w' : World} {g : Nat} {l : List Wk} (h : WkAt w g l) (hb : Below w.heap.size w w') : WkAt w' g l := by
  obtain ⟨cur, hc, hv⟩ := h
  exact ⟨cur, bk_ hc hb, hv⟩
theorem WkAt.chg {w w' : World} {g b : Nat} {l : List Wk} (h : WkAt w b l) (hc : Chg g w w') (hne : b ≠ g) : WkAt w' b l := by
  obtain ⟨cur, h1, hv⟩ := h
  exact ⟨cur, (hc.block b hne).trans h1, hv⟩
theorem WkAt.lt {w : World} {g : Nat} {l : List Wk} (h : WkAt w g l) : g < w.heap.size := by
  obtain ⟨cur, h1, hv⟩ := h
  exact blk_lt h1
theorem WkAt.free {w : World} {g : Nat} {l : List Wk} (h : WkAt w g l) (i : Nat) : w.frozen? ⟨g, i, none⟩ = false := by
  obtain ⟨cur, h1, hv⟩ := h
  exact fr_ h1 i
theorem WkAt.set {w : World} {g : Nat} {l : List Wk} (h : WkAt w g l) {k : Nat} {x : Wk} (hx : l[k]? = some x) (a : Nat) : WkAt (w.setCell ⟨g, k * 4 + 1, none⟩ (.int .i64 a)) g (l.set k ⟨x.slot, a, x.step, x.wt⟩) := by
  obtain ⟨cur, hc, hv⟩ := h
  refine ⟨_, heap_setCell_same w g _ _ 141 _ hc, fun i y hy j v hj => ?_⟩
  have hk : k < l.length := (List.getElem?_eq_some_iff.1 hx).1
  have hj4 : j < 4 := (List.getElem?_eq_some_iff.1 hj).1
  by_cases hik : i = k
  · subst hik
    rw [List.getElem?_set_self hk, Option.some.injEq] at hy
    subst hy
    have h1 := hv i x hx 1 _ rfl
    have hlt : i * 4 + 1 < cur.size := (Array.getElem?_eq_some_iff.1 h1).1
    by_cases hj1 : j = 1
    · subst hj1
      rw [Array.getElem?_setIfInBounds_self_of_lt hlt]
      exact hj
    · rw [Array.getElem?_setIfInBounds_ne (by omega)]
      refine hv i x hx j v ?_
      rw [← hj]
      match j, hj1, hj4 with
      | 0, _, _ => rfl
      | 2, _, _ => rfl
      | 3, _, _ => rfl
  · rw [List.getElem?_set_ne (fun e => hik e.symm)] at hy
    rw [Array.getElem?_setIfInBounds_ne (by omega)]
    exact hv i y hy j v hj
/-- Arrays of 127 whole numbers: loaded, stored, compared. -/
def arI (L : List Int) : Array Value := (L.map (Value.int .i64)).toArray
theorem arI_one (L : List Int) : ∀ v ∈ L.map (Value.int .i64), v.oneCell' = true := by
  intro v hv
  obtain ⟨x, _, rfl⟩ := List.mem_map.1 hv
  rfl
section
variable {ops : Array Oper} {rest : List Oper} {o : Oper} {a : Act} {Q : Exit → Act → World → Prop} {W : World}
theorem info142 : (Tryz.prog.info? 137).map (·.size) = some 127 := by kernel_rfl
theorem arw_load {x : Operand} {L : List Int} {g : Nat} (hgd : o.guard = none) (ho : o.op = .load 137 x) (hx : a.eval x = .pointer (some ⟨g, 0, none⟩)) (hp : ArW W g L) (hl : L.length = 127) (h : wpList Tryz.prog ops Q rest (a.put o.dst (.agg (arI L))) W) : wpList Tryz.prog ops Q (o :: rest) a W :=
  wpList_load_row hgd 137 x ho g hx 137 (arI L) (0, 0) _ hp Tryz.underlying137 rfl (by rw [info142, arI, List.size_toArray, List.length_map, hl]) h
theorem arw_store {x y : Operand} {L M : List Int} {g : Nat} (hgd : o.guard = none) (hN : o.dst = none) (ho : o.op = .store 137 x y) (hx : a.eval x = .pointer (some ⟨g, 0, none⟩)) (hy : a.eval y = .agg (arI M)) (hp : ArW W g L) (hl : L.length = 127) (hm : M.length = 127) (h : ∀ w1, ArW w1 g M → Chg g W w1 → wpList Tryz.prog ops Q rest a w1) : wpList Tryz.prog ops Q (o :: rest) a W := by
  refine wpList_store_row hgd 137 x y ho g (arI M) hx hy 137 (arI L) hp (by rw [info142, arI, List.size_toArray, List.length_map, hm]) (by simp [arI, hl, hm]) (all_oneCell_toArray (arI_one M)) ?_
  rw [hN]
  exact h _ (setRow_heap W g (arI L) (arI M) 137 (0, 0) hp) ⟨rfl, rfl, rfl, setRow_size W g _, fun k hk => setRow_other W g k _ hk⟩
theorem all_range_i : ∀ (xs ys : List Int), xs.length = ys.length → ((List.range xs.length).all fun i => xs.getD i 0 == ys.getD i 0) = (xs == ys)
  | [], [], _ => rfl
  | x :: xs, y :: ys, h => by
    have ih := all_range_i xs ys (by simpa using h)
    rw [List.length_cons, List.range_succ_eq_map, List.all_cons, List.all_map]
    simp only [List.getD_cons_zero, Function.comp_def, List.getD_cons_succ, ih]
    simp [List.cons_beq_cons]
  | [], _ :: _, h => by simp at h
  | _ :: _, [], h => by simp at h
theorem run_equalIn_ints {P : Program} (w : World) (d : Nat) (t e : TypeId) (n : Nat) (ht : P.underlying t = some (.array n e)) (he : P.underlying e = some (.int .i64)) (hsz : ∀ w, (sizeOf e).run P w = .ok 1 w) (xs ys : List Int) (hx : xs.length = n) (hy : ys.length = n) :
    (Op.equalIn (d + 2) t (.agg (arI xs)) (.agg (arI ys))).run P w = .ok (xs == ys) w := by
  rw [← all_range_i xs ys (hx.trans hy.symm), hx, List.range_eq_range', Op.equalIn]
  simp only [Sem.run_bind, run_underlying ht, Result.andThen_ok, hsz, Std.Legacy.Range.forIn_eq_forIn_range', Std.Legacy.Range.size, Nat.sub_zero, Nat.add_sub_cancel, Nat.div_one]
  have hl : ∀ i ∈ List.range' 0 n 1, i < n := fun i hi => by simpa using (List.mem_range'_1.1 hi).2
  generalize List.range' 0 n 1 = l at hl ⊢
  induction l with
  | nil => simp
  | cons i l ih =>
    have hi : i < n := hl i (by simp)
    have px : (part e (arI xs) (i * 1)).run P w = .ok (.int .i64 (xs.getD i 0)) w := by
      simp [arI, part, isAgg, run_underlying he, List.getD, List.getElem?_eq_getElem (show i < xs.length by omega)]
    have py : (part e (arI ys) (i * 1)).run P w = .ok (.int .i64 (ys.getD i 0)) w := by
      simp [arI, part, isAgg, run_underlying he, List.getD, List.getElem?_eq_getElem (show i < ys.length by omega)]
    have pe : (Op.equalIn (d + 1) e (.int .i64 (xs.getD i 0)) (.int .i64 (ys.getD i 0))).run P w = .ok (xs.getD i 0 == ys.getD i 0) w := run_equalIn_int w d e .i64 .i64 _ _ he
    simp only [List.forIn_cons, Sem.run_bind, px, py, pe, Result.andThen_ok, List.all_cons]
    cases hb : (xs.getD i 0 == ys.getD i 0)
    · simp
    · simp only [Bool.not_true, Bool.false_eq_true, if_false, Sem.run_pure, Result.andThen_ok, Bool.true_and]
      exact ih fun j hj => hl j (by simp [hj])
theorem eqg142 : Tryz.prog.eqGuardType Tryz.prog.depth 137 = false := by kernel_rfl
theorem arw_neq {x y : Operand} {L M : List Int} (hgd : o.guard = none) (ho : o.op = .binOp .neq 137 x y 137) (hx : a.eval x = .agg (arI L)) (hy : a.eval y = .agg (arI M)) (hl : L.length = 127) (hm : M.length = 127) (h : wpList Tryz.prog ops Q rest (a.put o.dst (.bool (!(L == M)))) W) : wpList Tryz.prog ops Q (o :: rest) a W := by
  refine Kd.event_run hgd (w1 := W) (v := .bool (!(L == M))) ?_ h
  have hq := run_equalIn_ints (P := Tryz.prog) W 9998 137 3 127 Tryz.underlying137 Tryz.underlying3 (fun w => by obtain ⟨i, hi, hz⟩ := Option.map_eq_some_iff.1 info3; simp only [Prod.mk.injEq] at hz; simp [sizeOf, typeInfo, hi, hz.2.1]) L M hl hm
  have : execOp a.eval o = (do pure (.value (← (do eqGuard .neq 137 x y (a.eval x) (a.eval y); binOp .neq 137 (a.eval x) (a.eval y))))) := by simp only [execOp, ho]
  rw [this, hx, hy]
  have hg : (eqGuard .neq 137 x y (.agg (arI L)) (.agg (arI M))).run Tryz.prog W = .ok () W := by
    simp [eqGuard, Sem.run_bind, run_program, eqg142]
  have hb : (binOp .neq 137 (.agg (arI L)) (.agg (arI M))).run Tryz.prog W = .ok (.bool (!(L == M))) W := by
    simp only [binOp, Op.equal, Op.maxDepth, Sem.run_bind]
    rw [hq]
    rfl
  simp only [Sem.run_bind, hg, hb, Result.andThen_ok, Sem.run_pure]
end
theorem rorder_calls (st ad po we si : Int) (w : World) : Calls Tryz.prog 55 #[.agg #[.int .i64 st, .int .i64 ad, .int .i64 po, .int .i64 we, .int .i64 si]] w fun e w' => e = .returned (.tuple #[.int .i64 (spunL 127 [1, ad, po]), .int .i64 (1 + spunL 126 [2, ad, po])]) ∧ Below w.heap.size w w' := by
  have hb2 := spun_b 126 [2, ad, po] (by decide) (by decide)
  have hu1 := words_u ⟨0, 0⟩ [1, ad, po]
  have hu2 := words_u ⟨0, 0⟩ [2, ad, po]
  unfold spunL at hb2 ⊢
  obtain ⟨a, ha⟩ : ∃ a, wordsL ⟨0, 0⟩ [1, ad, po] = a := ⟨_, rfl⟩
  obtain ⟨b, hb⟩ : ∃ a, wordsL ⟨0, 0⟩ [2, ad, po] = a := ⟨_, rfl⟩
  rw [ha] at hu1 ⊢
  rw [hb] at hu2 hb2 ⊢
  have HU1 := am_ hu1
  have HU2 := am_ hu2
  have HB2 := am_ hb2
  have HWA := am_ (fun W (Al : Option Addr) (cl : Nat) (h : Kd.C (Kd.int .i64) W Al 3 [1, ad, po]) (hc : 3 ≤ cl) => ha ▸ rwords_calls ⟨0, 0⟩ (w := W) (A := Al) (c := cl) (l := [1, ad, po]) h rfl hc (by simp))
  have HWB := am_ (fun W (Al : Option Addr) (cl : Nat) (h : Kd.C (Kd.int .i64) W Al 3 [2, ad, po]) (hc : 3 ≤ cl) => hb ▸ rwords_calls ⟨0, 0⟩ (w := W) (A := Al) (c := cl) (l := [2, ad, po]) h rfl hc (by simp))
  clear ha hb hu1 hu2 hb2
  obtain ⟨g, HG⟩ : ∃ g, w.heap.size = g := ⟨_, rfl⟩
  go_enter Tryz.func55, Tryz.ntmps55
  go_upto_region 1 with fail
  refine wp_w (fun W => W.heap[g]? = some (.cells #[.int .i64 st, .int .i64 ad, .int .i64 po, .int .i64 we, .int .i64 si] 25 (0, 0)) ∧ Below w.heap.size w W) ?_ ?_
  · exact ⟨(box_at w HG _).1, (box_at w HG _).2.1⟩
  intro w1 h1
  have HK1 := am_ h1.1
  have HB1 := am_ h1.2
  obtain ⟨j0, j1, j2, j3, j4⟩ := c5 h1.1
  clear h1
  go_upto_region 2 with (first
    | ((with_reducible refine gate_dst (N := 11) rfl ?_); refine Kd.R_lit (Kd.int .i64) (w0 := w1) w1.heap.size 3 ?hg (N := 11) ?hd (xs := ([1, ad, po] : List Int)) (inner := [.int .i64 1, .int .i64 ad, .int .i64 po]) (ok := fun _ => True) (okp := fun _ => True) ?hr ?hp (fun _ hk => hk) trivial (Below.refl _ _) (Nat.le_refl _) (by simp) ?_; (case hd => rfl); (case hg => rfl); (case hr => first | (go_simp; done) | (go_simp; rfl)); (case hp => exact (Reps.one (show Kd.M (Kd.int .i64) _ _ _ 1 [.int .i64 1] from rfl) (Reps.one (show Kd.M (Kd.int .i64) _ _ _ ad [.int .i64 ad] from rfl) (Reps.one (show Kd.M (Kd.int .i64) _ _ _ po [.int .i64 po] from rfl) (Reps.none _ _))))); intro vl wl ho hb hg hat; obtain ⟨Al, cl, el⟩ := Kd.R_slice ho; subst el; have HLI := am_ (Kd.R_reads' ho); have HBL := am_ hb; skip; clear ho hb hg hat)
    | (go_at_call 54; ((with_reducible refine (HWA.out _ _ _ HLI.out.2.2 HLI.out.2.1).mono ?_); rintro e1 x1 ⟨rfl, hx⟩; have HX1 := am_ (below_step HBL.out hx); clear hx)))
  refine wp_w (fun W => W.heap[g]? = some (.cells #[.int .i64 st, .int .i64 ad, .int .i64 po, .int .i64 we, .int .i64 si] 25 (0, 0)) ∧ Below w.heap.size w W) ?_ ?_
  · exact ⟨bk_ HK1.out HX1.out, below_step HB1.out HX1.out⟩
  intro w2 h2
  have HK2 := am_ h2.1
  have HB2' := am_ h2.2
  clear j0 j1 j2 j3 j4 HBL HLI HX1 HK1 HB1
  obtain ⟨j0, j1, j2, j3, j4⟩ := c5 h2.1
  clear h2
  go_upto_region 3 with (first
    | ((with_reducible refine gate_dst (N := 18) rfl ?_); refine Kd.R_lit (Kd.int .i64) (w0 := w2) w2.heap.size 3 ?hg (N := 18) ?hd (xs := ([2, ad, po] : List Int)) (inner := [.int .i64 2, .int .i64 ad, .int .i64 po]) (ok := fun _ => True) (okp := fun _ => True) ?hr ?hp (fun _ hk => hk) trivial (Below.refl _ _) (Nat.le_refl _) (by simp) ?_; (case hd => rfl); (case hg => rfl); (case hr => first | (go_simp; done) | (go_simp; rfl)); (case hp => exact (Reps.one (show Kd.M (Kd.int .i64) _ _ _ 2 [.int .i64 2] from rfl) (Reps.one (show Kd.M (Kd.int .i64) _ _ _ ad [.int .i64 ad] from rfl) (Reps.one (show Kd.M (Kd.int .i64) _ _ _ po [.int .i64 po] from rfl) (Reps.none _ _))))); intro vl wl ho hb hg hat; obtain ⟨Al, cl, el⟩ := Kd.R_slice ho; subst el; have HLI := am_ (Kd.R_reads' ho); have HBL := am_ hb; skip; clear ho hb hg hat)
    | (go_at_call 54; ((with_reducible refine (HWB.out _ _ _ HLI.out.2.2 HLI.out.2.1).mono ?_); rintro e1 x2 ⟨rfl, hx⟩; have HX2 := am_ (below_step HB2'.out (below_step HBL.out hx)); clear hx)))
  go_wp2
  go_ret2
  refine ⟨?_, HX2.out⟩
  have e : wrap64 (wrap64 (Int.tmod b 126) + 1) = 1 + wrap64 (Int.tmod b 126) := by have := HB2.out; rw [wid (n := wrap64 (Int.tmod b 126) + 1) (by omega) (by omega)]; omega
  rw [← e]
  rfl
theorem rpick_calls (f : Fl) {A : Option Addr} {c n : Nat} {l : List Int} {w : World} (hr : Kd.C (Kd.int .i64) w A n l) (hn : l.length = n) (hc : n ≤ c) (h127 : n = 127) :
    Calls Tryz.prog 16 #[.slice A n c, .agg #[.int .i64 f.ad, .int .i64 f.po, .int .i64 f.tad, .int .i64 f.tpo]] w fun e w' => e = .returned (.int .i64 (rd l (spunL 127 [3, f.ad, f.po, f.tad, f.tpo]))) ∧ Below w.heap.size w w' := by
  subst hn
  obtain ⟨f0, f1, f2, f3⟩ := f
  have HR := am_ hr
  have HC := am_ hc
  have hsb := spun_b 127 [3, f0, f1, f2, f3] (by decide) (by decide)
  have hu := words_u ⟨0, 0⟩ [3, f0, f1, f2, f3]
  show Calls Tryz.prog 16 _ w fun e w' => e = .returned (.int .i64 (rd l (spunL 127 [3, f0, f1, f2, f3]))) ∧ Below w.heap.size w w'
  unfold spunL at hsb ⊢
  obtain ⟨a, ha⟩ : ∃ a, wordsL ⟨0, 0⟩ [3, f0, f1, f2, f3] = a := ⟨_, rfl⟩
  rw [ha] at hu hsb ⊢
  have HWA := am_ (fun W (Al : Option Addr) (cl : Nat) (h : Kd.C (Kd.int .i64) W Al 5 [3, f0, f1, f2, f3]) (hc : 5 ≤ cl) => ha ▸ rwords_calls ⟨0, 0⟩ (w := W) (A := Al) (c := cl) (l := [3, f0, f1, f2, f3]) h rfl hc (by simp))
  have htm : Int.tmod a 127 = wrap64 (Int.tmod a 127) := by
    rw [Int.tmod_eq_emod_of_nonneg hu.1]
    rw [wid (by omega) (by omega)]
  have hx0 : (0 : Int) ≤ Int.tmod a 127 := by rw [htm]; exact hsb.1
  have hx1 : Int.tmod a 127 < (l.length : Int) := by rw [htm, h127]; exact hsb.2
  rw [← htm]
  have HTM := am_ htm
  have hge : decide ((l.length : Int) ≤ Int.tmod a 127) = false := decide_eq_false (by omega)
  clear ha hu hsb hr hc h127 htm
  obtain ⟨g, HG⟩ : ∃ g, w.heap.size = g := ⟨_, rfl⟩
  go_enter Tryz.func16, Tryz.ntmps16
  go_upto_region 1 with fail
  refine wp_w (fun W => W.heap[g]? = some (.cells #[.int .i64 f0, .int .i64 f1, .int .i64 f2, .int .i64 f3] 56 (0, 0)) ∧ Below w.heap.size w W) ?_ ?_
  · exact ⟨(box_at w HG _).1, (box_at w HG _).2.1⟩
  intro w1 h1
  obtain ⟨j0, j1, j2, j3⟩ := c4 h1.1
  have HB1 := am_ h1.2
  clear h1
  obtain ⟨ad, ead, HCELL⟩ : ∃ ad, A = some ad ∧ Aside0 (∀ W, Below w.heap.size w W → W.cell? (ad.add (Int.tmod a 127).toNat) = some (.int .i64 (rd l (Int.tmod a 127)))) := by
    obtain ⟨ad, ead, _⟩ := Kd.at_int HR.out (Int.tmod a 127) hx0 hx1
    refine ⟨ad, ead, am_ fun W hW => ?_⟩
    obtain ⟨ad', ead', hc⟩ := Kd.at_int (Kd.C_below HR.out hW) (Int.tmod a 127) hx0 hx1
    rw [ead] at ead'
    cases ead'
    exact hc
  subst ead
  go_wp2_with (first
    | ((with_reducible refine gate_dst (N := 15) rfl ?_); refine Kd.R_lit (Kd.int .i64) (w0 := w1) w1.heap.size 3 ?hg (N := 15) ?hd (xs := ([3, f0, f1, f2, f3] : List Int)) (inner := [.int .i64 3, .int .i64 f0, .int .i64 f1, .int .i64 f2, .int .i64 f3]) (ok := fun _ => True) (okp := fun _ => True) ?hr ?hp (fun _ hk => hk) trivial (Below.refl _ _) (Nat.le_refl _) (by simp) ?_; (case hd => rfl); (case hg => rfl); (case hr => first | (go_simp; done) | (go_simp; rfl)); (case hp => exact (Reps.one (show Kd.M (Kd.int .i64) _ _ _ 3 [.int .i64 3] from rfl) (Reps.one (show Kd.M (Kd.int .i64) _ _ _ f0 [.int .i64 f0] from rfl) (Reps.one (show Kd.M (Kd.int .i64) _ _ _ f1 [.int .i64 f1] from rfl) (Reps.one (show Kd.M (Kd.int .i64) _ _ _ f2 [.int .i64 f2] from rfl) (Reps.one (show Kd.M (Kd.int .i64) _ _ _ f3 [.int .i64 f3] from rfl) (Reps.none _ _))))))); intro vl wl ho hb hg hat; obtain ⟨Al, cl, el⟩ := Kd.R_slice ho; subst el; have HLI := am_ (Kd.R_reads' ho); have HBL := am_ hb; skip; clear ho hb hg hat)
    | (go_at_call 54; ((with_reducible refine (HWA.out _ _ _ HLI.out.2.2 HLI.out.2.1).mono ?_); rintro e1 x1 ⟨rfl, hx⟩; have HX := am_ (below_step (below_step HB1.out HBL.out) hx); have hcell := HCELL.out _ HX.out; clear hx)))
  go_ret
  exact ⟨rfl, HX.out⟩
def kdWk : Kd Wk where
  sz := 4
  E := []
  K := fun _ x cs => cs = x.cs
  M := fun _ _ _ x cs => cs = x.cs
  K_len := fun h => by rw [h]; rfl
  K_one := fun h u hu => by
    rw [h] at hu
    simp only [Wk.cs, List.mem_cons, List.not_mem_nil, or_false] at hu
    rcases hu with rfl | rfl | rfl | rfl <;> rfl
  K_below := fun _ h => h
  K_of_M := fun h => h
  M_mono := fun _ h => h
  M_bound := fun h => h
  M_move := fun _ h => h
  M_lower := fun _ h => h
theorem info146 : (Tryz.prog.info? 141).map (fun i => (i.zero, i.size, i.bytes)) = some (some (.agg #[.int .i64 0, .int .i64 0, .int .i64 0, .int .i64 0]), 4, 32) := by kernel_rfl
theorem preW_zero (L : List Wk) : preW L 0 = 0 := by cases L <;> rfl
theorem ord_lt : ∀ (L : List Wk) (o i : Nat), i < (ordL L o).length → (ordL L o).getD i 0 < o + L.length
  | [], o, i, h => by simp [ordL] at h
  | y :: l, o, i, h => by
    rw [ordL] at h ⊢
    rw [List.length_append, List.length_replicate] at h
    rw [List.getD_eq_getElem?_getD, List.length_cons]
    by_cases hi : i < y.wt
    · rw [List.getElem?_append_left (by simpa using hi)]
      simp [hi]
    · rw [List.getElem?_append_right (by simpa using hi), List.length_replicate, ← List.getD_eq_getElem?_getD]
      have := ord_lt l (o + 1) (i - y.wt) (by omega)
      omega
theorem ord_pos {L : List Wk} (h : ∀ x ∈ L, WkOk x) (hn : L ≠ []) : 0 < (ordL L 0).length := by
  cases L with
  | nil => exact absurd rfl hn
  | cons x l =>
    have := (h x List.mem_cons_self).wt1
    rw [ordL, List.length_append, List.length_replicate]
    omega
theorem run_ok {L : List Wk} (h : ∀ x ∈ L, WkOk x) (hn : L ≠ []) : ∀ n, n ≤ 127 → RunOk L n (runW L n)
  | 0, _ => RunOk.start h
  | n + 1, hn1 => by
    have := ord_lt L 0 (n % (ordL L 0).length) (Nat.mod_lt _ (ord_pos h hn))
    exact (run_ok h hn n (by omega)).next (by omega) (by omega)
theorem set_same {α : Type} {l : List α} {k : Nat} {x : α} (h : l[k]? = some x) : l.set k x = l := by
  obtain ⟨hk, he⟩ := List.getElem?_eq_some_iff.1 h
  rw [← he, List.set_getElem_self]
/-- n turns are done: places in g3, walkers in g5. -/
def WSt (L : List Wk) (g3 g5 : Nat) (w0 w : World) (n : Nat) : Prop := ArW w g3 (runW L n).1 ∧ WkAt w g5 (runW L n).2 ∧ Below w0.heap.size w0 w
/-- A walker is on its way: at a. -/
def WGo (R : List Int) (l : List Wk) (g3 g5 g10 k : Nat) (x : Wk) (w0 w : World) (a : Nat) : Prop := ArW w g3 R ∧ ArW w g10 R ∧ WkAt w g5 (l.set k ⟨x.slot, a, x.step, x.wt⟩) ∧ Below w0.heap.size w0 w
theorem wk_of_R {w : World} {base n c : Nat} {ok : Nat → Prop} {A : Option Addr} {L : List Wk} (h : kdWk.R 141 w base ok (.slice A n c) L) (hn : L ≠ []) : ∃ g, A = some ⟨g, 0, none⟩ ∧ base ≤ g ∧ WkAt w g L := by
  obtain ⟨_, inner, ho, hr⟩ := h
  rcases ho.2 with ⟨_, h0⟩ | ⟨g, cap, cur, e, hg, hh, h1, _, hcs, ht⟩
  · exact absurd (List.length_eq_zero_iff.1 h0) hn
  · simp only [Value.slice.injEq] at e
    obtain ⟨rfl, _, _⟩ := e
    refine ⟨g, rfl, hg, cur, hh, fun k x hx j v hj => ?_⟩
    have hR : (inner.drop (k * 4)).take 4 = x.cs := hr.2 k x hx
    have hj4 : j < 4 := (List.getElem?_eq_some_iff.1 hj).1
    have hk : k < L.length := (List.getElem?_eq_some_iff.1 hx).1
    have e4 : inner[k * 4 + j]? = some v := by
      rw [← hR, List.getElem?_take_of_lt hj4, List.getElem?_drop] at hj
      exact hj
    have hlt : k * 4 + j < L.length * kdWk.sz := by show _ < L.length * 4; omega
    rw [← ht, List.getElem?_take_of_lt hlt, Array.getElem?_toList] at e4
    exact e4
theorem wmake_calls (p : Po) (hl : p.sl.length = 64) (w : World) :
    Calls Tryz.prog 36 #[.agg p.ag] w fun e w' => ∃ A c, e = .returned (.slice A 127 c) ∧ Kd.R (Kd.int .i64) 3 w' w.heap.size (fun _ => True) (.slice A 127 c) (wheelL p) ∧ Below w.heap.size w w' := by
  have HL := am_ hl
  clear hl
  go_enter Tryz.func36, Tryz.ntmps36
  go_upto_region 1 with (first
    | ((with_reducible refine gate_dst (N := 1) rfl ?_); refine pool_box (p := p) rfl rfl rfl ?_; intro g hg w1 hp1 hb1 hs1; have HP1 := am_ hp1; have HB1 := am_ hb1; have HGE := am_ hg; clear hp1 hb1 hs1 hg))
  refine wp_scope_straight ?_
  go_wp2_with (first
    | ((with_reducible refine gate_dst (N := 3) rfl ?_); (refine arw_alloc rfl rfl ?_; intro g3 hg3 w3 ha3 hb3; have HA3 := am_ ha3; have HB3 := am_ hb3; have HP3 := am_ (HP1.out.below hb3); have HG3 := am_ (show g < g3 from by rw [← hg3]; exact blk_lt HP1.out); clear ha3 hb3 hg3)))
  go_loopg [11] 127 (fun kq v11 w' => ∃ (i : Nat), v11 = .int .i64 (i : Int) ∧ Aside (kq + i = 127) ∧ Aside0 (ArW w' g3 (List.replicate i (-1) ++ List.replicate (127 - i) 0) ∧ PoolAt w' g p ∧ Below w.heap.size w w'))
  case atStart => exact ⟨0, rfl, (by show _ = _; omega), am_ ⟨HA3.out, HP3.out, below_step HB1.out HB3.out⟩⟩
  case round =>
    obtain ⟨i, rfl, hk, HW⟩ := hrel
    have HKQ := am_ hk.out
    clear hk
    rename World => wr1
    have HGL := am_ (show w.heap.size ≤ g3 from by have := HG3.out; have := HGE.out; omega)
    by_cases hlt : i < 127
    · have hd : decide (i < 127) = true := decide_eq_true hlt
      have hd2 : decide ((i : Int) < 127) = true := decide_eq_true (by omega)
      have hi0 : (0 : Int) ≤ (i : Int) := by omega
      have hi1 : (i : Int) < 127 := by omega
      have HLT := am_ hlt
      have HGK := am_ (show 0 < gk from by have := HKQ.out; omega)
      have t0 := arw_cell HW.out.1 i (by simp only [List.length_append, List.length_replicate]; omega)
      have u0 := fr_ HW.out.1 i
      clear hlt
      go_wp2
      go_roundg (gk - 1)
      case measure => have := HGK.out; omega
      case rel =>
        refine ⟨i + 1, (by have := HLT.out; show Value.int _ _ = Value.int _ _; first | rfl | (rw [wid (by omega) (by omega)]; rfl)), (by show _ = _; have := HKQ.out; have := HGK.out; omega), am_ ⟨?_, HW.out.2.1.chg ((Chg.refl g3 _).set _ _) (by have := HG3.out; omega), below_set HW.out.2.2 HGL.out⟩⟩
        have e : (List.replicate i (-1 : Int) ++ List.replicate (127 - i) 0).set i (-1) = List.replicate (i + 1) (-1) ++ List.replicate (127 - (i + 1)) 0 := by
          rw [List.set_append_right _ _ (by simp), List.length_replicate, Nat.sub_self, show 127 - i = (127 - (i + 1)) + 1 by have := HLT.out; omega, List.replicate_succ, List.set_cons_zero, List.replicate_succ', List.append_assoc]
          rfl
        rw [← e]
        exact HW.out.1.set i (-1)
    · have hd : decide (i < 127) = false := decide_eq_false hlt
      have hd2 : decide ((i : Int) < 127) = false := decide_eq_false (by omega)
      have hi : i = 127 := by have := HKQ.out; omega
      subst hi
      have HAF : Aside0 (ArW wr1 g3 (List.replicate 127 (-1))) := am_ (by have h := HW.out.1; simpa using h)
      clear hlt
      obtain ⟨L, hLd⟩ : ∃ L, wksL p 64 0 = L := ⟨_, rfl⟩
      have HLD := am_ hLd
      have HGF5 := am_ (show w.heap.size ≤ wr1.heap.size from HW.out.2.2.size)
      have HG3L := am_ (show g3 < wr1.heap.size from blk_lt HAF.out)
      clear hLd
      go_wp2_with (first | ((with_reducible refine gate_dst (N := 18) rfl ?_); refine slots_load rfl rfl rfl HW.out.2.1 HL.out ?_))
      go_loopg [19, 5] 64 (fun kq v19 v5 w' => ∃ (j : Nat) (A' : Option Addr) (c' : Nat) (xs : List Wk), v19 = .int .i64 (j : Int) ∧ v5 = .slice A' xs.length c' ∧ Aside (kq + j = 64) ∧ Aside0 (xs ++ wksL p kq j = L) ∧ Aside0 (kdWk.R 141 w' wr1.heap.size (fun _ => True) (.slice A' xs.length c') xs) ∧ Aside0 (xs.length ≤ j) ∧ Aside0 (Below wr1.heap.size wr1 w'))
      case atStart => exact ⟨0, none, 0, [], rfl, rfl, (by show _ = _; omega), am_ (by rw [List.nil_append]; exact HLD.out), am_ (Kd.R_nil _ _ _ _ _), am_ (by simp), am_ (Below.refl _ wr1)⟩
      case round =>
        obtain ⟨j, A', c', xs, rfl, rfl, hk, HX, HO, HXL, HB2⟩ := hrel
        have HKQ2 := am_ hk.out
        clear hk
        rename World => wr2
        by_cases hlj : j < 64
        · have hd3 : decide (j < 64) = true := decide_eq_true hlj
          have hd4 : decide ((j : Int) < 64) = true := decide_eq_true (by omega)
          have hj0 : (0 : Int) ≤ (j : Int) := by omega
          have hj1 : (j : Int) < 64 := by omega
          have HLJ := am_ hlj
          have HGK2 := am_ (show 0 < gk from by have := HKQ2.out; omega)
          have hix := slot_index p HL.out j hlj
          have HPS := am_ (rfl : p.s j = p.s j)
          obtain ⟨⟨st, sa, sp, sw, sq⟩, hss⟩ : ∃ x, p.s j = x := ⟨_, rfl⟩
          rw [hss] at hix
          have HSS := am_ hss
          have HN := am_ (show xs ++ (if st = 2 then wkOf p j :: wksL p (gk - 1) (j + 1) else wksL p (gk - 1) (j + 1)) = L from by
            have h1 := HX.out
            obtain ⟨m, hm⟩ : ∃ m, gk = m + 1 := ⟨gk - 1, by have := HGK2.out; omega⟩
            rw [hm] at h1 ⊢
            rw [wksL, hss] at h1
            exact h1)
          clear hss hlj HPS
          obtain ⟨g7, hg7⟩ : ∃ n, wr2.heap.size = n := ⟨_, rfl⟩
          go_upto_region 11 with fail
          refine wp_w (fun W => W.heap[g7]? = some (.cells #[.int .i64 st, .int .i64 sa, .int .i64 sp, .int .i64 sw, .int .i64 sq] 25 (0, 0)) ∧ Below wr1.heap.size wr1 W ∧ kdWk.R 141 W wr1.heap.size (fun _ => True) (.slice A' xs.length c') xs) ?_ ?_
          · exact ⟨by rw [← hg7]; exact new_blk wr2 _, below_alloc HB2.out _, Kd.R_alloc HO.out _⟩
          intro w5 h5
          have HS5 := am_ h5.1
          have HB5 := am_ h5.2.1
          have HO5 := am_ h5.2.2
          obtain ⟨t0, t1, t2, t3, t4⟩ := c5 h5.1
          clear h5 hg7 hix
          by_cases h0 : st = 2
          · have hb0 : (st == 2) = true := beq_iff_eq.mpr h0
            obtain ⟨ta, hta⟩ := Int.eq_ofNat_of_zero_le (spun_b 127 [1, sa, sp] (by decide) (by decide)).1
            obtain ⟨tb, htb⟩ := Int.eq_ofNat_of_zero_le (spun_b 126 [2, sa, sp] (by decide) (by decide)).1
            have htb2 := (spun_b 126 [2, sa, sp] (by decide) (by decide)).2
            have hw := wtI_b sw
            obtain ⟨tw, htw⟩ := Int.eq_ofNat_of_zero_le (show 0 ≤ wtI sw by omega)
            have HW40 := am_ (show wrap64 (1 + (tb : Int)) = ((tb + 1 : Nat) : Int) by rw [wid (by omega) (by omega)]; omega)
            have HW44 := am_ (show wtI sw = (tw : Int) from htw)
            have HWKE := am_ (show wkOf p j = ⟨j, ta, tb + 1, tw⟩ by
              unfold wkOf
              rw [HSS.out]
              simp only
              rw [hta, htb, htw]
              simp only [Wk.mk.injEq]
              exact ⟨trivial, rfl, by omega, rfl⟩)
            have HX0 := am_ (show (xs ++ [(⟨j, ta, tb + 1, tw⟩ : Wk)]) ++ wksL p (gk - 1) (j + 1) = L from by have h2 := HN.out; rw [if_pos h0, HWKE.out] at h2; rw [List.append_assoc]; exact h2)
            have HSa := am_ (fun W A c (hr : Kd.C (Kd.int .i64) W A 3 [1, sa, sp]) (hc : 3 ≤ c) => hta ▸ spun_calls 127 (by decide) (w := W) hr rfl hc (by simp))
            have HSb := am_ (fun W A c (hr : Kd.C (Kd.int .i64) W A 3 [2, sa, sp]) (hc : 3 ≤ c) => htb ▸ spun_calls 126 (by decide) (w := W) hr rfl hc (by simp))
            have HCK := am_ (fun W (h : Below w5.heap.size w5 W) => show W.cell? ⟨g7, 1, none⟩ = some (.int .i64 sa) ∧ W.cell? ⟨g7, 2, none⟩ = some (.int .i64 sp) ∧ W.cell? ⟨g7, 3, none⟩ = some (.int .i64 sw) from by
              obtain ⟨_, h1, h2, h3, _⟩ := c5 (bk_ HS5.out h)
              exact ⟨h1, h2, h3⟩)
            have HQc := am_ (Below.refl w5.heap.size w5).drew
            clear h0 hta htb htb2 hw htw
            go_upto_region 12 with fail
            clear t0 t1 t2 t3 t4
            refine start_ (n := 23) (S := fun w' => w'.cell? ⟨g7, 1, none⟩ = some (.int .i64 sa) ∧ w'.cell? ⟨g7, 2, none⟩ = some (.int .i64 sp) ∧ w'.cell? ⟨g7, 3, none⟩ = some (.int .i64 sw)) (ds := [21]) #[fF,fF,fF,fF,fF,fF,fF,fF,fF,fF,fF,fF,fF,fF,fF,fF,fF,fF,fF,fF,fF,fF,fF] (by kernel_rfl) rfl rfl ⟨(HCK.out _ HQc.out).1, (HCK.out _ HQc.out).2.1, (HCK.out _ HQc.out).2.2⟩ (fun hHeld => ?_)
            refine p_ 0 26 ?_
            refine p_ 1 27 ?_
            refine p_ 2 28 ?_
            refine p_ 4 30 ?_
            refine p_ 8 34 ?_
            refine p_ 10 36 ?_
            refine p_ 15 41 ?_
            refine t_ 3 29 hHeld ?_
            refine t_ 5 31 hHeld ?_
            refine t_ 9 35 hHeld ?_
            refine t_ 11 37 hHeld ?_
            refine t_ 16 42 hHeld ?_
            refine p_ 17 43 ?_
            refine p_ 18 44 ?_
            refine join_ (σ := (Option Addr × Nat) × (Option Addr × Nat)) 6 #[tT,tT,tT,tT,tT,tT,tT,tT,tT,tT,tT,tT,tT,fF,fF,tT,tT,tT,tT,fF,fF,fF,fF] (fun s => [(32, .slice s.1.1 3 s.1.2), (33, .int .i64 (ta : Int)), (38, .slice s.2.1 3 s.2.2)]) (fun s w' => Below w5.heap.size w5 w' ∧ Kd.C (Kd.int .i64) w' s.2.1 3 [2, sa, sp] ∧ 3 ≤ s.2.2) ?_ ?_
            rotate_left
            · intro hCont
              refine two_ (i := 6) (j := 12) (Ni := some 32) (Nj := some 38) #[tT,tT,tT,tT,tT,tT,tT,fF,tT,tT,tT,tT,fF,fF,fF,tT,tT,tT,tT,fF,fF,fF,fF] #[tT,tT,tT,tT,tT,tT,fF,fF,tT,tT,tT,tT,tT,fF,fF,tT,tT,tT,tT,fF,fF,fF,fF] rfl rfl rfl rfl (by kernel_rfl) (by decide) (by decide) (fun K hK => ?_) (fun K hK => ?_)
              · skip
                refine Kd.R_lit_step (Kd.int .i64) (w0 := w5.drew) w5.drew.heap.size 3 ?hg (N := 32) ?hd (xs := ([1, sa, sp] : List Int)) (inner := [.int .i64 1, .int .i64 sa, .int .i64 sp]) (ok := fun _ => True) (okp := fun _ => True) ?hr ?hp (fun _ hk => hk) trivial (Below.refl _ _) (Nat.le_refl _) (by simp) ?_; (case hd => rfl); (case hg => rfl); (case hr => first | (go_simp; done) | (go_simp; rfl)); (case hp => exact (Reps.one (show Kd.M (Kd.int .i64) _ _ _ 1 [.int .i64 1] from rfl) (Reps.one (show Kd.M (Kd.int .i64) _ _ _ sa [.int .i64 sa] from rfl) (Reps.one (show Kd.M (Kd.int .i64) _ _ _ sp [.int .i64 sp] from rfl) (Reps.none _ _)))))
                intro va wa ho hx hg hat
                obtain ⟨Ala, cla, el⟩ := Kd.R_slice ho
                replace el : va = .slice Ala 3 cla := el
                subst el
                have HCa := am_ (show Kd.C (Kd.int .i64) wa Ala 3 [1, sa, sp] from (Kd.R_reads' ho).2.2)
                have HNa := am_ (show 3 ≤ cla from (Kd.R_reads' ho).2.1)
                replace HQc := am_ (below_step HQc.out hx)
                clear ho hx hg hat
                refine hK.out _ _ ⟨(HCK.out _ HQc.out).1, (HCK.out _ HQc.out).2.1, (HCK.out _ HQc.out).2.2⟩ (fun hHeld => ?_)
                clear hK K
                refine n_ 32 ?_
                refine two_ (i := 7) (j := 12) (Ni := some 33) (Nj := some 38) #[tT,tT,tT,tT,tT,tT,tT,tT,tT,tT,tT,tT,fF,fF,fF,tT,tT,tT,tT,fF,fF,fF,fF] #[tT,tT,tT,tT,tT,tT,tT,fF,tT,tT,tT,tT,tT,fF,fF,tT,tT,tT,tT,fF,fF,fF,fF] rfl rfl rfl rfl (by kernel_rfl) (by decide) (by decide) (fun K hK => ?_) (fun K hK => ?_)
                · skip
                  refine g_ Tryz.func72 #[.int .u64 127, .slice Ala 3 cla] ?_
                  with_reducible refine (HSa.out _ _ _ HCa.out HNa.out).mono ?_
                  rintro e7 wb ⟨rfl, hx⟩
                  refine ⟨_, rfl, ?_⟩
                  replace HQc := am_ (below_step HQc.out hx)
                  clear hx
                  refine hK.out _ _ ⟨(HCK.out _ HQc.out).1, (HCK.out _ HQc.out).2.1, (HCK.out _ HQc.out).2.2⟩ (fun hHeld => ?_)
                  clear hK K
                  refine n_ 33 ?_
                  refine o_ 12 (some 38) (fun K hK => ?_)
                  refine Kd.R_lit_step (Kd.int .i64) (w0 := wb) wb.heap.size 3 ?hg (N := 38) ?hd (xs := ([2, sa, sp] : List Int)) (inner := [.int .i64 2, .int .i64 sa, .int .i64 sp]) (ok := fun _ => True) (okp := fun _ => True) ?hr ?hp (fun _ hk => hk) trivial (Below.refl _ _) (Nat.le_refl _) (by simp) ?_; (case hd => rfl); (case hg => rfl); (case hr => first | (go_simp; done) | (go_simp; rfl)); (case hp => exact (Reps.one (show Kd.M (Kd.int .i64) _ _ _ 2 [.int .i64 2] from rfl) (Reps.one (show Kd.M (Kd.int .i64) _ _ _ sa [.int .i64 sa] from rfl) (Reps.one (show Kd.M (Kd.int .i64) _ _ _ sp [.int .i64 sp] from rfl) (Reps.none _ _)))))
                  intro vb wc ho hx hg hat
                  obtain ⟨Alb, clb, el⟩ := Kd.R_slice ho
                  replace el : vb = .slice Alb 3 clb := el
                  subst el
                  have HCb := am_ (show Kd.C (Kd.int .i64) wc Alb 3 [2, sa, sp] from (Kd.R_reads' ho).2.2)
                  have HNb := am_ (show 3 ≤ clb from (Kd.R_reads' ho).2.1)
                  replace HQc := am_ (below_step HQc.out hx)
                  clear ho hx hg hat
                  refine hK.out _ _ ⟨(HCK.out _ HQc.out).1, (HCK.out _ HQc.out).2.1, (HCK.out _ HQc.out).2.2⟩ (fun hHeld => ?_)
                  clear hK K
                  refine n_ 38 ?_
                  exact norm_ (by simp only [putAll, Act.put, q_a, q_0, q_s]) (hCont ((Ala, cla), (Alb, clb)) _ ⟨HQc.out, HCb.out, HNb.out⟩)
                · skip
                  refine Kd.R_lit_step (Kd.int .i64) (w0 := wa) wa.heap.size 3 ?hg (N := 38) ?hd (xs := ([2, sa, sp] : List Int)) (inner := [.int .i64 2, .int .i64 sa, .int .i64 sp]) (ok := fun _ => True) (okp := fun _ => True) ?hr ?hp (fun _ hk => hk) trivial (Below.refl _ _) (Nat.le_refl _) (by simp) ?_; (case hd => rfl); (case hg => rfl); (case hr => first | (go_simp; done) | (go_simp; rfl)); (case hp => exact (Reps.one (show Kd.M (Kd.int .i64) _ _ _ 2 [.int .i64 2] from rfl) (Reps.one (show Kd.M (Kd.int .i64) _ _ _ sa [.int .i64 sa] from rfl) (Reps.one (show Kd.M (Kd.int .i64) _ _ _ sp [.int .i64 sp] from rfl) (Reps.none _ _)))))
                  intro vb wc ho hx hg hat
                  obtain ⟨Alb, clb, el⟩ := Kd.R_slice ho
                  replace el : vb = .slice Alb 3 clb := el
                  subst el
                  have HCb := am_ (show Kd.C (Kd.int .i64) wc Alb 3 [2, sa, sp] from (Kd.R_reads' ho).2.2)
                  have HNb := am_ (show 3 ≤ clb from (Kd.R_reads' ho).2.1)
                  replace HQc := am_ (below_step HQc.out hx)
                  have n1_ := am_ (Kd.C_below HCa.out hx)
                  clear HCa
                  have HCa := n1_
                  clear n1_
                  clear ho hx hg hat
                  refine hK.out _ _ ⟨(HCK.out _ HQc.out).1, (HCK.out _ HQc.out).2.1, (HCK.out _ HQc.out).2.2⟩ (fun hHeld => ?_)
                  clear hK K
                  refine n_ 38 ?_
                  refine o_ 7 (some 33) (fun K hK => ?_)
                  refine g_ Tryz.func72 #[.int .u64 127, .slice Ala 3 cla] ?_
                  with_reducible refine (HSa.out _ _ _ HCa.out HNa.out).mono ?_
                  rintro e7 wb ⟨rfl, hx⟩
                  refine ⟨_, rfl, ?_⟩
                  replace HQc := am_ (below_step HQc.out hx)
                  have n1_ := am_ (Kd.C_below HCb.out hx)
                  clear HCb
                  have HCb := n1_
                  clear n1_
                  clear hx
                  refine hK.out _ _ ⟨(HCK.out _ HQc.out).1, (HCK.out _ HQc.out).2.1, (HCK.out _ HQc.out).2.2⟩ (fun hHeld => ?_)
                  clear hK K
                  refine n_ 33 ?_
                  exact norm_ (by simp only [putAll, Act.put, q_a, q_0, q_s]) (hCont ((Ala, cla), (Alb, clb)) _ ⟨HQc.out, HCb.out, HNb.out⟩)
              · skip
                refine Kd.R_lit_step (Kd.int .i64) (w0 := w5.drew) w5.drew.heap.size 3 ?hg (N := 38) ?hd (xs := ([2, sa, sp] : List Int)) (inner := [.int .i64 2, .int .i64 sa, .int .i64 sp]) (ok := fun _ => True) (okp := fun _ => True) ?hr ?hp (fun _ hk => hk) trivial (Below.refl _ _) (Nat.le_refl _) (by simp) ?_; (case hd => rfl); (case hg => rfl); (case hr => first | (go_simp; done) | (go_simp; rfl)); (case hp => exact (Reps.one (show Kd.M (Kd.int .i64) _ _ _ 2 [.int .i64 2] from rfl) (Reps.one (show Kd.M (Kd.int .i64) _ _ _ sa [.int .i64 sa] from rfl) (Reps.one (show Kd.M (Kd.int .i64) _ _ _ sp [.int .i64 sp] from rfl) (Reps.none _ _)))))
                intro vb wc ho hx hg hat
                obtain ⟨Alb, clb, el⟩ := Kd.R_slice ho
                replace el : vb = .slice Alb 3 clb := el
                subst el
                have HCb := am_ (show Kd.C (Kd.int .i64) wc Alb 3 [2, sa, sp] from (Kd.R_reads' ho).2.2)
                have HNb := am_ (show 3 ≤ clb from (Kd.R_reads' ho).2.1)
                replace HQc := am_ (below_step HQc.out hx)
                clear ho hx hg hat
                refine hK.out _ _ ⟨(HCK.out _ HQc.out).1, (HCK.out _ HQc.out).2.1, (HCK.out _ HQc.out).2.2⟩ (fun hHeld => ?_)
                clear hK K
                refine n_ 38 ?_
                refine o_ 6 (some 32) (fun K hK => ?_)
                refine Kd.R_lit_step (Kd.int .i64) (w0 := wc) wc.heap.size 3 ?hg (N := 32) ?hd (xs := ([1, sa, sp] : List Int)) (inner := [.int .i64 1, .int .i64 sa, .int .i64 sp]) (ok := fun _ => True) (okp := fun _ => True) ?hr ?hp (fun _ hk => hk) trivial (Below.refl _ _) (Nat.le_refl _) (by simp) ?_; (case hd => rfl); (case hg => rfl); (case hr => first | (go_simp; done) | (go_simp; rfl)); (case hp => exact (Reps.one (show Kd.M (Kd.int .i64) _ _ _ 1 [.int .i64 1] from rfl) (Reps.one (show Kd.M (Kd.int .i64) _ _ _ sa [.int .i64 sa] from rfl) (Reps.one (show Kd.M (Kd.int .i64) _ _ _ sp [.int .i64 sp] from rfl) (Reps.none _ _)))))
                intro va wa ho hx hg hat
                obtain ⟨Ala, cla, el⟩ := Kd.R_slice ho
                replace el : va = .slice Ala 3 cla := el
                subst el
                have HCa := am_ (show Kd.C (Kd.int .i64) wa Ala 3 [1, sa, sp] from (Kd.R_reads' ho).2.2)
                have HNa := am_ (show 3 ≤ cla from (Kd.R_reads' ho).2.1)
                replace HQc := am_ (below_step HQc.out hx)
                have n1_ := am_ (Kd.C_below HCb.out hx)
                clear HCb
                have HCb := n1_
                clear n1_
                clear ho hx hg hat
                refine hK.out _ _ ⟨(HCK.out _ HQc.out).1, (HCK.out _ HQc.out).2.1, (HCK.out _ HQc.out).2.2⟩ (fun hHeld => ?_)
                clear hK K
                refine n_ 32 ?_
                refine o_ 7 (some 33) (fun K hK => ?_)
                refine g_ Tryz.func72 #[.int .u64 127, .slice Ala 3 cla] ?_
                with_reducible refine (HSa.out _ _ _ HCa.out HNa.out).mono ?_
                rintro e7 wb ⟨rfl, hx⟩
                refine ⟨_, rfl, ?_⟩
                replace HQc := am_ (below_step HQc.out hx)
                have n1_ := am_ (Kd.C_below HCb.out hx)
                clear HCb
                have HCb := n1_
                clear n1_
                clear hx
                refine hK.out _ _ ⟨(HCK.out _ HQc.out).1, (HCK.out _ HQc.out).2.1, (HCK.out _ HQc.out).2.2⟩ (fun hHeld => ?_)
                clear hK K
                refine n_ 33 ?_
                exact norm_ (by simp only [putAll, Act.put, q_a, q_0, q_s]) (hCont ((Ala, cla), (Alb, clb)) _ ⟨HQc.out, HCb.out, HNb.out⟩)
            rintro ⟨⟨Ala, cla⟩, ⟨Alb, clb⟩⟩ w4 ⟨hq, hcb, hnb⟩
            clear HQc
            have HQc := am_ hq
            have HCb := am_ hcb
            have HNb := am_ hnb
            clear hq hcb hnb
            have hHeld := HCK.out _ HQc.out
            refine norm_ (a' := ?_) ?_ ?_
            rotate_left; · simp only [putAll, Act.put, q_a, q_0, q_s]; rfl
            refine o_ 13 (some 39) (fun K hK => ?_)
            refine g_ Tryz.func72 #[.int .u64 126, .slice Alb 3 clb] ?_
            with_reducible refine (HSb.out _ _ _ HCb.out HNb.out).mono ?_
            rintro e13 wd ⟨rfl, hx⟩
            refine ⟨_, rfl, ?_⟩
            replace HQc := am_ (below_step HQc.out hx)
            clear hx
            refine hK.out _ _ ⟨(HCK.out _ HQc.out).1, (HCK.out _ HQc.out).2.1, (HCK.out _ HQc.out).2.2⟩ (fun hHeld => ?_)
            clear hK K
            refine n_ 39 ?_
            refine p_ 14 40 ?_
            refine p_ 19 45 ?_
            refine o_ 20 (some 46) (fun K hK => ?_)
            refine Kd.R_lit_step (kdWk) (w0 := wd) wd.heap.size 141 ?hg (N := 46) ?hd (xs := [(⟨j, ta, tb + 1, tw⟩ : Wk)]) (inner := [.int .i64 (j : Int), .int .i64 (ta : Int), .int .i64 (wrap64 (1 + (tb : Int))), .int .i64 (wtI sw)]) (ok := fun _ => True) (okp := fun _ => True) ?hr ?hp (fun _ hk => hk) trivial (Below.refl _ _) (Nat.le_refl _) (by simp) ?_; (case hd => rfl); (case hg => rfl); (case hr => first | (go_simp; done) | (go_simp; rfl)); (case hp => exact (Reps.snoc (Reps.none _ _) (show Kd.M kdWk _ _ _ (⟨j, ta, tb + 1, tw⟩ : Wk) [.int .i64 (j : Int), .int .i64 (ta : Int), .int .i64 (wrap64 (1 + (tb : Int))), .int .i64 (wtI sw)] from by rw [HW40.out, HW44.out]; rfl) rfl))
            intro vl w46 ho hx hg hat
            obtain ⟨Al, cl, el⟩ := Kd.R_slice ho
            replace el : vl = .slice Al 1 cl := el
            subst el
            have HC46 := am_ (Kd.R_reads' ho).2.2
            replace HQc := am_ (below_step HQc.out hx)
            have HO46 := am_ (Kd.R_below HO5.out HQc.out)
            clear ho hx hg hat
            refine hK.out _ _ ⟨(HCK.out _ HQc.out).1, (HCK.out _ HQc.out).2.1, (HCK.out _ HQc.out).2.2⟩ (fun hHeld => ?_)
            clear hK K
            refine n_ 46 ?_
            refine l_ 21 (some 47) (fun K hK => ?_)
            refine Kd.R_append_rows_step kdWk (w0 := wr1) wr1.heap.size (by rfl) (.tmp 26) (.tmp 46) 138 141 (.agg #[.int .i64 0, .int .i64 0, .int .i64 0, .int .i64 0]) 32 rfl Tryz.underlying138 info146 rfl (by decide) (by omega) (.slice A' xs.length c') xs [(⟨j, ta, tb + 1, tw⟩ : Wk)] Al 1 cl (fun _ => True) (fun _ => False) rfl rfl HO46.out HC46.out (fun _ _ h => h) (fun _ h => h.elim) (fun _ _ => trivial) (below_step HB5.out HQc.out) (below_step HB5.out HQc.out).size (by have := HXL.out; have := HLJ.out; omega) ?_
            intro vq w47 ho hx hg hat
            obtain ⟨Aq, cq, el⟩ := Kd.R_slice ho
            subst el
            have HO47 := am_ ho
            have HB47 := am_ hx
            clear ho hx hg hat
            refine hK.out _ _ ?_
            clear hK K
            refine n_ 47 ?_
            refine p_ 22 5 ?_
            refine done_ (by kernel_rfl) ?_
            clear hHeld
            go_wp2
            go_roundg (gk - 1)
            case measure => have := HGK2.out; omega
            case rel => exact ⟨j + 1, Aq, cq, _, (by have := HLJ.out; show Value.int _ _ = Value.int _ _; first | rfl | (rw [wid (by omega) (by omega)]; rfl)), (by rw [List.length_append]; rfl), (by show _ = _; have := HKQ2.out; have := HGK2.out; omega), HX0, HO47, am_ (by have := HXL.out; simp only [List.length_append, List.length_singleton]; omega), HB47⟩
          · have hb0 : (st == 2) = false := beq_eq_false_iff_ne.mpr h0
            have HX0 := am_ (show xs ++ wksL p (gk - 1) (j + 1) = L from by have h2 := HN.out; rw [if_neg h0] at h2; exact h2)
            clear h0
            go_wp2
            go_roundg (gk - 1)
            case measure => have := HGK2.out; omega
            case rel => exact ⟨j + 1, A', c', xs, (by have := HLJ.out; show Value.int _ _ = Value.int _ _; first | rfl | (rw [wid (by omega) (by omega)]; rfl)), rfl, (by show _ = _; have := HKQ2.out; have := HGK2.out; omega), HX0, HO5, am_ (by have := HXL.out; omega), HB5⟩
        · have hd3 : decide (j < 64) = false := decide_eq_false hlj
          have hd4 : decide ((j : Int) < 64) = false := decide_eq_false (by omega)
          have hgk : gk = 0 := by have := HKQ2.out; omega
          have hxL : xs = L := by
            have h1 := HX.out
            rw [hgk] at h1
            simpa [wksL] using h1
          subst hxL
          clear hlj
          have HOKS := am_ (show ∀ x ∈ xs, WkOk x from by rw [← HLD.out]; exact wksL_ok p 64 0 (by omega))
          by_cases hne : xs = []
          · subst hne
            have HWL := am_ (show wheelL p = List.replicate 127 (-1) from by rw [wheelL, if_pos HLD.out])
            have H127 := am_ (show (List.replicate 127 (-1 : Int)).length = 127 by simp)
            have hz : (((([] : List Wk).length : Nat) : Int) == 0) = true := rfl
            go_wp2
            refine wp_label ?_
            go_wp2
            go_loopg [8] 0 (fun kq v8 w' => v8 = .int .i64 0 ∧ Aside0 (Below wr1.heap.size wr1 w'))
            case atStart => exact ⟨rfl, HB2⟩
            case round =>
              obtain ⟨rfl, HB3'⟩ := hrel
              rename World => wr3
              have HA5 : Aside0 (ArW wr3 g3 (List.replicate 127 (-1))) := am_ (bk_ HAF.out HB3'.out)
              have HRD := am_ (arw_reads HA5.out H127.out)
              go_wp2_with (first
                | ((with_reducible refine gate_builtin (b := .append) (xs := #[.const (.slice none 0 0), .tmp 111]) rfl ?_); at_builtin; (refine Kd.R_append_rows (Kd.int .i64) (w0 := wr3) wr3.heap.size rfl (.const (.slice none 0 0)) (.tmp 111) 22 3 (.int .i64 0) 8 rfl Tryz.underlying22 info3 rfl (by decide) (by omega) (.slice none 0 0) [] (List.replicate 127 (-1)) (some ⟨g3, 0, none⟩) 127 127 (fun _ => True) (fun _ => False) rfl rfl (Kd.R_nil _ _ _ _ _) HRD.out (fun _ _ h => h) (fun _ h => h.elim) (fun _ _ => trivial) (Below.refl wr3.heap.size wr3) (Nat.le_refl _) (by simp) ?_; intro vq wq ho hb hg hat; have HO_ := am_ ho; have HBQ := am_ hb; clear hb ho hg hat)))
              obtain ⟨Aq, cq, rfl⟩ := Kd.R_slice HO_.out
              simp only [Exit.noGoto]
              go_ret
              have hb_ := (below_step HW.out.2.2 HB3'.out)
              rw [HWL.out]
              exact ⟨Aq, cq, (by first | (simp; done) | (simp [H127.out]; done) | (rw [List.nil_append, H127.out]; rfl)), (by
                have h := Kd.R_lower HO_.out hb_.size
                rw [List.nil_append, H127.out] at h
                exact h), below_step hb_ HBQ.out⟩
          · have HNE := am_ hne
            have HRUN := am_ (run_ok HOKS.out hne)
            have HPOS := am_ (ord_pos HOKS.out hne)
            obtain ⟨g5, hA5, hg5, hwk⟩ := wk_of_R HO.out hne
            subst hA5
            have HWL := am_ (show wheelL p = (runW xs 127).1 from by rw [wheelL, HLD.out, if_neg hne])
            have H127 := am_ (show (runW xs 127).1.length = 127 from (HRUN.out 127 (Nat.le_refl _)).len)
            have HG5 := am_ hg5
            have HG35 := am_ (show g3 < g5 from by have := HG3L.out; omega)
            have HWS := am_ (show WSt xs g3 g5 w wr2 0 from ⟨bk_ HAF.out HB2.out, hwk, below_step HW.out.2.2 HB2.out⟩)
            have hl0 : 0 < xs.length := List.length_pos_iff.2 hne
            have hz : ((xs.length : Int) == 0) = false := beq_eq_false_iff_ne.mpr (by omega)
            have HXL64 := am_ (show xs.length ≤ 64 from by rw [← HLD.out]; exact wksL_len p 64 0)
            clear hne hg5 hwk hl0
            go_wp2
            refine wp_label ?_
            go_wp2
            clear hz
            go_loopg [8] 127 (fun kq v8 w' => ∃ (n q : Nat), v8 = .int .i64 (kq : Int) ∧ Aside (n + kq = 127) ∧ Aside0 (n = q * (ordL xs 0).length) ∧ Aside0 (WSt xs g3 g5 w w' n))
            case atStart => exact ⟨0, 0, rfl, (by show _ = _; omega), am_ (by omega), HWS⟩
            case round =>
              obtain ⟨n, q, rfl, hk, HQ, HS⟩ := hrel
              have HKM := am_ hk.out
              clear hk
              rename World => wo
              by_cases hm : 0 < gk
              · have hd5 : decide (0 < gk) = true := decide_eq_true hm
                have hd6 : decide (0 < (gk : Int)) = true := decide_eq_true (by omega)
                have HM := am_ hm
                clear hm
                go_wp2
                go_loopg [56, 8] xs.length (fun kr v56 v8 w' => ∃ (k m : Nat), v56 = .int .i64 (k : Int) ∧ v8 = .int .i64 (m : Int) ∧ Aside (kr + k = xs.length) ∧ Aside0 (q * (ordL xs 0).length + preW xs k + m = 127) ∧ Aside0 (WSt xs g3 g5 w w' (q * (ordL xs 0).length + preW xs k)))
                case atStart => exact ⟨0, gk, rfl, rfl, (by show _ = _; omega), am_ (by have := HQ.out; have := HKM.out; rw [preW_zero]; omega), am_ (by have h := HS.out; rw [HQ.out] at h; rw [preW_zero]; exact h)⟩
                case round =>
                  obtain ⟨k, m, rfl, rfl, hk, HQM, HSK⟩ := hrel
                  have HKR := am_ hk.out
                  clear hk
                  rename World => wk
                  by_cases hkl : k < xs.length
                  · have hd7 : decide (k < xs.length) = true := decide_eq_true hkl
                    have hd8 : decide ((k : Int) < (xs.length : Int)) = true := decide_eq_true (by omega)
                    have hk0 : (0 : Int) ≤ (k : Int) := by omega
                    have hk1 : (k : Int) < (xs.length : Int) := by omega
                    have HKL := am_ hkl
                    have HGR := am_ (show 0 < gk from by have := HKR.out; omega)
                    obtain ⟨y, hy⟩ : ∃ y, xs[k]? = some y := ⟨_, List.getElem?_eq_getElem hkl⟩
                    have HY := am_ hy
                    have HYW := am_ (HOKS.out y (List.mem_of_getElem? hy))
                    obtain ⟨wt, hwt⟩ : ∃ x, y.wt = x := ⟨_, rfl⟩
                    have HWT := am_ hwt
                    have hx0 : ∃ x, (runW xs (q * (ordL xs 0).length + preW xs k)).2[k]? = some x := ⟨_, List.getElem?_eq_getElem (by rw [(HRUN.out _ (by have := HQM.out; omega)).wl]; exact hkl)⟩
                    obtain ⟨x0, hx0⟩ := hx0
                    have hs0 := (HRUN.out _ (by have := HQM.out; omega)).same k x0 hx0
                    obtain ⟨y', hy', _, _, hw0⟩ := hs0
                    rw [hy, Option.some.injEq] at hy'
                    subst hy'
                    have t3 := (HSK.out.2.1.cell hx0).2.2.2
                    rw [hw0, hwt] at t3
                    clear hkl hy hwt hx0 hw0
                    go_wp2
                    clear t3
                    go_loopg [64, 8] wt (fun ks v64 v8 w' => ∃ (j m : Nat), v64 = .int .i64 (j : Int) ∧ v8 = .int .i64 (m : Int) ∧ Aside (ks + j = wt) ∧ Aside0 ((q * (ordL xs 0).length + preW xs k + j) + m = 127) ∧ Aside0 (WSt xs g3 g5 w w' (q * (ordL xs 0).length + preW xs k + j)))
                    case atStart => exact ⟨0, m, rfl, rfl, (by show _ = _; omega), am_ (by have := HQM.out; omega), HSK⟩
                    case round =>
                      obtain ⟨j, m, rfl, rfl, hk, HJM, HSJ⟩ := hrel
                      have HKJ := am_ hk.out
                      clear hk
                      rename World => wj
                      by_cases hjw : j < wt
                      · have hd9 : decide (j < wt) = true := decide_eq_true hjw
                        have hda : decide ((j : Int) < (wt : Int)) = true := decide_eq_true (by omega)
                        have HJW := am_ hjw
                        have HGJ := am_ (show 0 < gk from by have := HKJ.out; omega)
                        clear hjw
                        by_cases hm0 : m = 0
                        · subst hm0
                          have HA9 := am_ (show ArW wj g3 (runW xs 127).1 from by have h := HSJ.out.1; rw [show (q * (ordL xs 0).length + preW xs k + j) = 127 by have := HJM.out; omega] at h; exact h)
                          have HB9 := am_ HSJ.out.2.2
                          clear HSJ
                          have HRD := am_ (arw_reads HA9.out H127.out)
                          go_wp2_with (first
                            | ((with_reducible refine gate_builtin (b := .append) (xs := #[.const (.slice none 0 0), .tmp 111]) rfl ?_); at_builtin; (refine Kd.R_append_rows (Kd.int .i64) (w0 := wj) wj.heap.size rfl (.const (.slice none 0 0)) (.tmp 111) 22 3 (.int .i64 0) 8 rfl Tryz.underlying22 info3 rfl (by decide) (by omega) (.slice none 0 0) [] ((runW xs 127).1) (some ⟨g3, 0, none⟩) 127 127 (fun _ => True) (fun _ => False) rfl rfl (Kd.R_nil _ _ _ _ _) HRD.out (fun _ _ h => h) (fun _ h => h.elim) (fun _ _ => trivial) (Below.refl wj.heap.size wj) (Nat.le_refl _) (by simp) ?_; intro vq wq ho hb hg hat; have HO_ := am_ ho; have HBQ := am_ hb; clear hb ho hg hat)))
                          obtain ⟨Aq, cq, rfl⟩ := Kd.R_slice HO_.out
                          simp only [Exit.noGoto]
                          go_ret
                          have hb_ := HB9.out
                          rw [HWL.out]
                          exact ⟨Aq, cq, (by first | (simp; done) | (simp [H127.out]; done) | (rw [List.nil_append, H127.out]; rfl)), (by
                            have h := Kd.R_lower HO_.out hb_.size
                            rw [List.nil_append, H127.out] at h
                            exact h), below_step hb_ HBQ.out⟩
                        · have hmb : ((m : Int) == 0) = false := beq_eq_false_iff_ne.mpr (by omega)
                          have HM0 := am_ hm0
                          have HR := am_ (HRUN.out (q * (ordL xs 0).length + preW xs k + j) (by have := HJM.out; omega))
                          have HRS := am_ (run_step (q := q) HY.out (show j < y.wt from by rw [HWT.out]; exact HJW.out))
                          obtain ⟨⟨R, l⟩, hrun⟩ : ∃ s, runW xs (q * (ordL xs 0).length + preW xs k + j) = s := ⟨_, rfl⟩
                          rw [hrun] at HR HRS
                          have HA6 := am_ (show ArW wj g3 R from by have h := HSJ.out.1; rw [hrun] at h; exact h)
                          have HW6 := am_ (show WkAt wj g5 l from by have h := HSJ.out.2.1; rw [hrun] at h; exact h)
                          have HB6 := am_ HSJ.out.2.2
                          obtain ⟨x, hx⟩ : ∃ x, l[k]? = some x := ⟨_, List.getElem?_eq_getElem (by rw [show l.length = xs.length from HR.out.wl]; exact HKL.out)⟩
                          have HX := am_ hx
                          have HXO := am_ (HR.out.wk k x hx)
                          have HFR := am_ (HR.out.free (by have := HJM.out; have := HM0.out; omega) HXO.out)
                          have HRL := am_ (show R.length = 127 from HR.out.len)
                          have HPL := am_ (show plc (R, l) k = (R.set (adv R x.step 127 x.pl) x.slot, l.set k ⟨x.slot, adv R x.step 127 x.pl, x.step, x.wt⟩) from by
                            have e : l.getD k Wk.z = x := by rw [List.getD_eq_getElem?_getD, hx]; rfl
                            simp only [plc, e])
                          obtain ⟨xA, hxA⟩ : ∃ a, adv R x.step 127 x.pl = a := ⟨_, rfl⟩
                          have HXA := am_ hxA
                          rw [hxA] at HPL HFR
                          have HSE := am_ (set_same hx)
                          have HWB := am_ (show wt ≤ 8 from by rw [← HWT.out]; exact HYW.out.wt2)
                          obtain ⟨xsl, xpl, xst, xwt⟩ := x
                          clear hm0 hrun hx hxA HSJ
                          go_wp2_with (first
                            | ((with_reducible refine gate_dst (N := 68) rfl ?_); (refine arw_load rfl rfl rfl HA6.out HRL.out ?_))
                            | ((with_reducible refine gate_dst (N := 10) rfl ?_); (refine arw_alloc rfl rfl ?_; intro g10 hg10 w10 ha10 hb10; have HA10 := am_ ha10; have HB10 := am_ hb10; have HG10 := am_ hg10; clear ha10 hb10 hg10))
                            | ((with_reducible refine gate_store (t := 137) (p := 10) rfl ?_); (refine arw_store (M := R) rfl rfl rfl rfl rfl HA10.out (by simp) HRL.out ?_; intro w11 ha11 hc11; have HA11 := am_ ha11; have HC11 := am_ hc11; clear ha11 hc11)))
                          go_loopg [76] 127 (fun kf v76 w' => ∃ (a : Nat), v76 = v76 ∧ Aside0 (adv R xst kf a = xA ∧ a < 127) ∧ Aside0 (WGo R l g3 g5 g10 k ⟨xsl, xpl, xst, xwt⟩ w w' a))
                          case atStart =>
                            refine ⟨xpl, rfl, am_ ⟨HXA.out, HXO.out.pl⟩, am_ ⟨?_, HA11.out, ?_, ?_⟩⟩
                            · exact (HC11.out.block g3 (by have := blk_lt HA6.out; have := HG10.out; omega)).trans (bk_ HA6.out HB10.out)
                            · rw [HSE.out]
                              exact (HW6.out.below HB10.out).chg HC11.out (by have := HW6.out.lt; have := HG10.out; omega)
                            · exact Chg.step (below_step HB6.out HB10.out) HC11.out (by have := HG10.out; have := HB6.out.size; omega)
                          case round =>
                            obtain ⟨a, _, HAD, HGO⟩ := hrel
                            rename World => wf
                            have HG1X := am_ (show g3 ≠ g10 from by have := blk_lt HA6.out; have := HG10.out; omega)
                            have HG5X := am_ (show g5 ≠ g10 from by have := HW6.out.lt; have := HG10.out; omega)
                            have hk4 := (List.getElem?_eq_some_iff.1 HX.out).1
                            obtain ⟨s0, s1, s2, s3⟩ := HGO.out.2.2.1.cell (List.getElem?_set_self hk4)
                            have HW5 := am_ (And.intro s0 (And.intro s1 (And.intro s2 s3)))
                            have ha0 : (0 : Int) ≤ (a : Int) := by omega
                            have ha1 : (a : Int) < 127 := by have := HAD.out.2; omega
                            have r0 := arw_cell HGO.out.1 a (by rw [HRL.out]; exact HAD.out.2)
                            have f5 := HGO.out.2.2.1.free (k * 4 + 1)
                            have f3 := fr_ HGO.out.1 a
                            obtain ⟨rv, hrv⟩ : ∃ v, R.getD a 0 = v := ⟨_, rfl⟩
                            rw [hrv] at r0
                            by_cases hfree : R.getD a 0 = -1
                            · have hv0 : (rv != -1) = false := bne_eq_false_iff_eq.mpr (by rw [← hrv]; exact hfree)
                              have HAA := am_ (show a = xA from by
                                have h := HAD.out.1
                                cases gk with
                                | zero => exact h
                                | succ f => rw [adv, if_pos hfree] at h; exact h)
                              clear hfree hrv
                              go_upto_region 27 with fail
                              refine start_ (n := 12) (S := fun w' => w'.cell? ⟨g5, k * 4, none⟩ = some (.int .i64 (xsl : Int)) ∧ w'.cell? ⟨g5, k * 4 + 1, none⟩ = some (.int .i64 (a : Int))) (ds := [11]) #[fF,fF,fF,fF,fF,fF,fF,fF,fF,fF,fF,fF] (by kernel_rfl) rfl rfl ⟨HW5.out.1, HW5.out.2.1⟩ (fun hHeld => ?_)
                              refine p_ 0 93 ?_
                              refine p_ 1 94 ?_
                              refine p_ 2 95 ?_
                              refine p_ 3 96 ?_
                              refine p_ 5 98 ?_
                              refine p_ 6 99 ?_
                              refine p_ 7 100 ?_
                              refine p_ 8 101 ?_
                              refine t_ 4 97 hHeld ?_
                              refine t_ 9 102 hHeld ?_
                              refine p_ 10 103 ?_
                              refine l_ 11 none (fun K hK => ?_)
                              refine s_ ?_
                              refine hK.out _ _ ?_
                              clear hK K
                              refine done_ (by kernel_rfl) ?_
                              refine ex_w (fun W => ArW W g3 (R.set a xsl) ∧ ArW W g10 R ∧ WkAt W g5 (l.set k ⟨xsl, a, xst, xwt⟩) ∧ Below w.heap.size w W) ?_ ?_
                              · have h := HGO.out
                                have hc : Chg g3 wf (wf.setCell ⟨g3, a, none⟩ (.int .i64 (xsl : Int))) := (Chg.refl g3 wf).set _ _
                                have hd_ := hc.drew
                                have n1_ : g10 ≠ g3 := fun e => HG1X.out e.symm
                                have n2_ : g5 ≠ g3 := by have := HG35.out; omega
                                have n3_ : w.heap.size ≤ g3 := HGL.out
                                first
                                  | exact ⟨h.1.set a xsl, (hd_.block g10 n1_).trans h.2.1, h.2.2.1.chg hd_ n2_, Chg.step h.2.2.2 hd_ n3_⟩
                                  | exact ⟨h.1.set a xsl, (hc.block g10 n1_).trans h.2.1, h.2.2.1.chg hc n2_, Chg.step h.2.2.2 hc n3_⟩
                              intro wg hg_
                              have HA12 := am_ hg_.1
                              have HA13 := am_ hg_.2.1
                              have HW12 := am_ hg_.2.2.1
                              have HB12 := am_ hg_.2.2.2
                              have HRL2 := am_ (show (R.set a (xsl : Int)).length = 127 by rw [List.length_set]; exact HRL.out)
                              have HNEQ := am_ (show (!((R.set a (xsl : Int)) == R)) = true from by
                                have hne : ¬ (R.set a (xsl : Int)) = R := by
                                  intro e
                                  have h1 : (R.set a (xsl : Int)).getD a 0 = (xsl : Int) := by
                                    rw [List.getD_eq_getElem?_getD, List.getElem?_set_self (by rw [HRL.out]; exact HAD.out.2)]; rfl
                                  rw [e] at h1
                                  have h2 := HFR.out.1
                                  rw [← HAA.out, h1] at h2
                                  omega
                                simp [hne])
                              clear hg_ s0 s1 s2 s3 r0 f5 f3 hv0
                              go_wp2_with (first
                                | ((with_reducible refine gate_dst (N := 104) rfl ?_); (refine arw_load rfl rfl rfl HA12.out HRL2.out ?_))
                                | ((with_reducible refine gate_dst (N := 105) rfl ?_); (refine arw_load rfl rfl rfl HA13.out HRL.out ?_))
                                | ((with_reducible refine gate_dst (N := 106) rfl ?_); (refine arw_neq rfl rfl rfl rfl HRL2.out HRL.out ?_; rw [HNEQ.out])))
                              go_roundg (wt - (j + 1))
                              case measure => have := HJW.out; have := HKJ.out; omega
                              case rel =>
                                refine ⟨j + 1, m - 1, (by have := HWB.out; have := HJW.out; show Value.int _ _ = Value.int _ _; first | rfl | (rw [wid (by omega) (by omega)]; rfl)), (by have := HM0.out; have := HJM.out; show Value.int _ _ = Value.int _ _; first | (congr 1; omega) | (rw [wid (by omega) (by omega)]; congr 1; omega)), (by show _ = _; have := HJW.out; omega), am_ (by have := HM0.out; have := HJM.out; omega), am_ ?_⟩
                                have e := HRS.out
                                rw [HPL.out, ← HAA.out] at e
                                show ArW wg g3 (runW xs _).1 ∧ WkAt wg g5 (runW xs _).2 ∧ _
                                rw [← Nat.add_assoc, e]
                                exact ⟨HA12.out, HW12.out, HB12.out⟩
                            · have hv0 : (rv != -1) = true := bne_iff_ne.mpr (by rw [← hrv]; exact hfree)
                              have HGF := am_ (show 0 < gk from Nat.pos_of_ne_zero (by
                                rintro rfl
                                have h := HAD.out.1
                                rw [show a = xA from h] at hfree
                                exact hfree HFR.out.1))
                              have HAN := am_ (show adv R xst (gk - 1) ((a + xst) % 127) = xA from by
                                have h := HAD.out.1
                                obtain ⟨f, rfl⟩ : ∃ f, gk = f + 1 := ⟨gk - 1, by have := HGF.out; omega⟩
                                rw [adv, if_neg hfree] at h
                                exact h)
                              clear hfree hrv
                              go_upto_region 26 with fail
                              refine start_ (n := 17) (S := fun w' => w'.cell? ⟨g5, k * 4 + 1, none⟩ = some (.int .i64 (a : Int)) ∧ w'.cell? ⟨g5, k * 4 + 2, none⟩ = some (.int .i64 (xst : Int))) (ds := [16]) #[fF,fF,fF,fF,fF,fF,fF,fF,fF,fF,fF,fF,fF,fF,fF,fF,fF] (by kernel_rfl) rfl rfl ⟨HW5.out.2.1, HW5.out.2.2.1⟩ (fun hHeld => ?_)
                              refine p_ 0 77 ?_
                              refine p_ 1 78 ?_
                              refine p_ 2 79 ?_
                              refine p_ 3 80 ?_
                              refine p_ 4 81 ?_
                              refine p_ 5 82 ?_
                              refine p_ 7 84 ?_
                              refine p_ 8 85 ?_
                              refine p_ 9 86 ?_
                              refine p_ 10 87 ?_
                              refine t_ 6 83 hHeld ?_
                              refine t_ 11 88 hHeld ?_
                              refine p_ 12 89 ?_
                              refine p_ 13 90 ?_
                              refine p_ 14 91 ?_
                              refine p_ 15 92 ?_
                              refine l_ 16 none (fun K hK => ?_)
                              refine s_ ?_
                              refine hK.out _ _ ?_
                              clear hK K
                              refine done_ (by kernel_rfl) ?_
                              simp only [Exit.inBlock]
                              refine ex_w (fun W => WGo R l g3 g5 g10 k ⟨xsl, xpl, xst, xwt⟩ w W ((a + xst) % 127)) ?_ ?_
                              · have h := HGO.out
                                have hst := HXO.out.st2
                                have e : Int.tmod (wrap64 ((a : Int) + (xst : Int))) 127 = (((a + xst) % 127 : Nat) : Int) := by
                                  simp only at hst
                                  rw [wid (by omega) (by omega), Int.tmod_eq_emod_of_nonneg (by omega)]
                                  omega
                                have hw := h.2.2.1.set (List.getElem?_set_self hk4) ((a + xst) % 127)
                                rw [List.set_set] at hw
                                have hc : Chg g5 wf (wf.setCell ⟨g5, k * 4 + 1, none⟩ (.int .i64 (((a + xst) % 127 : Nat) : Int))) := (Chg.refl g5 wf).set _ _
                                have n3_ : w.heap.size ≤ g5 := by have := HG5.out; have := HGF5.out; omega
                                have hb_ := Chg.step h.2.2.2 hc n3_
                                have hbd_ := Chg.step h.2.2.2 hc.drew n3_
                                have g1_ := (hc.block g3 (by have := HG35.out; omega)).trans h.1
                                have g2_ := (hc.block g10 (by have := HG5X.out; omega)).trans h.2.1
                                first
                                  | (rw [e]; exact ⟨g1_, g2_, hw, hbd_⟩)
                                  | (rw [e]; exact ⟨g1_, g2_, hw, hb_⟩)
                              intro wg hg_
                              have HG12 := am_ hg_
                              clear hg_ s0 s1 s2 s3 r0 f5 f3 hv0
                              go_wp2
                              go_roundg (gk - 1)
                              case measure => have := HGF.out; omega
                              case rel => exact ⟨(a + xst) % 127, (by trivial), am_ ⟨HAN.out, Nat.mod_lt _ (by decide)⟩, HG12⟩
                      · have hd9 : decide (j < wt) = false := decide_eq_false hjw
                        have hda : decide ((j : Int) < (wt : Int)) = false := decide_eq_false (by omega)
                        have hj : j = wt := by have := HKJ.out; omega
                        subst hj
                        have HNX := am_ (show preW xs (k + 1) = preW xs k + j from by rw [preW_succ xs k y HY.out, HWT.out])
                        clear hjw
                        go_wp2
                        go_roundg (xs.length - (k + 1))
                        case measure => have := HGR.out; have := HKR.out; omega
                        case rel => exact ⟨k + 1, m, (by have := HKL.out; have := HXL64.out; show Value.int _ _ = Value.int _ _; first | rfl | (rw [wid (by omega) (by omega)]; rfl)), rfl, (by show _ = _; have := HKL.out; omega), am_ (by have := HNX.out; have := HJM.out; omega), am_ (by have h := HSJ.out; rw [HNX.out, ← Nat.add_assoc]; exact h)⟩
                  · have hd7 : decide (k < xs.length) = false := decide_eq_false hkl
                    have hd8 : decide ((k : Int) < (xs.length : Int)) = false := decide_eq_false (by omega)
                    have hk : k = xs.length := by have := HKR.out; omega
                    subst hk
                    have HPA := am_ (preW_all xs 0)
                    clear hkl
                    go_wp2
                    go_roundg m
                    case measure => have := HKM.out; have := HQ.out; have := HQM.out; have := HPA.out; have := HPOS.out; omega
                    case rel => exact ⟨(q + 1) * (ordL xs 0).length, q + 1, rfl, (by show _ = _; have := HQM.out; have := HPA.out; rw [Nat.add_mul, Nat.one_mul]; omega), am_ rfl, am_ (by have h := HSK.out; rw [HPA.out] at h; rw [Nat.add_mul, Nat.one_mul]; exact h)⟩
              · have hd5 : decide (0 < gk) = false := decide_eq_false hm
                have hd6 : decide (0 < (gk : Int)) = false := decide_eq_false (by omega)
                have hn : n = 127 := by have := HKM.out; omega
                subst hn
                have HA9 := am_ HS.out.1
                have HB9 := am_ HS.out.2.2
                clear hm
                have HRD := am_ (arw_reads HA9.out H127.out)
                go_wp2_with (first
                  | ((with_reducible refine gate_builtin (b := .append) (xs := #[.const (.slice none 0 0), .tmp 111]) rfl ?_); at_builtin; (refine Kd.R_append_rows (Kd.int .i64) (w0 := wo) wo.heap.size rfl (.const (.slice none 0 0)) (.tmp 111) 22 3 (.int .i64 0) 8 rfl Tryz.underlying22 info3 rfl (by decide) (by omega) (.slice none 0 0) [] ((runW xs 127).1) (some ⟨g3, 0, none⟩) 127 127 (fun _ => True) (fun _ => False) rfl rfl (Kd.R_nil _ _ _ _ _) HRD.out (fun _ _ h => h) (fun _ h => h.elim) (fun _ _ => trivial) (Below.refl wo.heap.size wo) (Nat.le_refl _) (by simp) ?_; intro vq wq ho hb hg hat; have HO_ := am_ ho; have HBQ := am_ hb; clear hb ho hg hat)))
                obtain ⟨Aq, cq, rfl⟩ := Kd.R_slice HO_.out
                simp only [Exit.noGoto]
                go_ret
                have hb_ := HB9.out
                rw [HWL.out]
                exact ⟨Aq, cq, (by first | (simp; done) | (simp [H127.out]; done) | (rw [List.nil_append, H127.out]; rfl)), (by
                  have h := Kd.R_lower HO_.out hb_.size
                  rw [List.nil_append, H127.out] at h
                  exact h), below_step hb_ HBQ.out⟩
theorem wksL_inc (p : Po) : ∀ k i, (∀ x ∈ wksL p k i, i ≤ x.slot) ∧ (wksL p k i).Pairwise (fun x y => x.slot < y.slot)
  | 0, i => by simp [wksL]
  | k + 1, i => by
    obtain ⟨a, b⟩ := wksL_inc p k (i + 1)
    unfold wksL
    split
    · refine ⟨fun x hx => ?_, List.pairwise_cons.2 ⟨fun y hy => ?_, b⟩⟩
      · rcases List.mem_cons.1 hx with rfl | h
        · exact Nat.le_refl _
        · have := a x h; omega
      · have := a y hy
        show i < y.slot
        omega
    · exact ⟨fun x hx => by have := a x hx; omega, b⟩
theorem slot_inj {L : List Wk} (h : L.Pairwise (fun x y => x.slot < y.slot)) {a b : Nat} {x y : Wk} (ha : L[a]? = some x) (hb : L[b]? = some y) (he : x.slot = y.slot) : a = b := by
  obtain ⟨ha1, ha2⟩ := List.getElem?_eq_some_iff.1 ha
  obtain ⟨hb1, hb2⟩ := List.getElem?_eq_some_iff.1 hb
  have hp := List.pairwise_iff_getElem.1 h
  rcases Nat.lt_trichotomy a b with hl | hl | hl
  · have := hp a b ha1 hb1 hl
    rw [ha2, hb2] at this
    omega
  · exact hl
  · have := hp b a hb1 ha1 hl
    rw [ha2, hb2] at this
    omega
/-- How far each slot went on, behind n placings. -/
structure NxOk (L : List Wk) (n : Nat) (nx : List Int) : Prop where
  len : nx.length = 64
  at_ : ∀ (k : Nat) (x y : Wk), (runW L n).2[k]? = some x → L[k]? = some y → ∃ m : Nat, nx.getD y.slot 0 = (m : Int) ∧ m ≤ 127 * n ∧ (y.pl + m * y.step) % 127 = x.pl
theorem NxOk.start {L : List Wk} (h : ∀ x ∈ L, WkOk x) : NxOk L 0 (List.replicate 64 0) where
  len := by simp
  at_ := by
    intro k x y hx hy
    have hx' : L[k]? = some x := hx
    rw [hy] at hx'
    obtain rfl := Option.some.inj hx'
    have ok := h y (List.mem_of_getElem? hy)
    have h1 := ok.slot
    have h2 := ok.pl
    refine ⟨0, ?_, by omega, by rw [Nat.zero_mul, Nat.add_zero]; exact Nat.mod_eq_of_lt h2⟩
    rw [List.getD_eq_getElem?_getD, List.getElem?_replicate, if_pos h1]
    rfl
/-- Where in its round a turn is: k walkers are done, t turns of the next one. -/
def PhW (L : List Wk) (n k t : Nat) : Prop := n = 127 ∨ ∃ r, n = r * (ordL L 0).length + (preW L k + t)
theorem PhW.ord {L : List Wk} {n k t : Nat} {y : Wk} (h : PhW L n k t) (hn : n < 127) (hy : L[k]? = some y) (ht : t < y.wt) : (ordL L 0).getD (n % (ordL L 0).length) 0 = k := by
  rcases h with rfl | ⟨r, hr⟩
  · omega
  · obtain ⟨a, b⟩ := ord_at L 0 k t y hy ht
    have e : n % (ordL L 0).length = preW L k + t := by
      rw [hr, Nat.mul_comm, Nat.mul_add_mod]
      exact Nat.mod_eq_of_lt a
    rw [e, b]
    omega
theorem PhW.step {L : List Wk} {n k t : Nat} (h : PhW L n k t) (hn : n < 127) : PhW L (n + 1) k (t + 1) := by
  rcases h with rfl | ⟨r, hr⟩
  · omega
  · exact Or.inr ⟨r, by omega⟩
theorem PhW.up {L : List Wk} {n k : Nat} {y : Wk} (hy : L[k]? = some y) (h : PhW L n k y.wt) : PhW L n (k + 1) 0 := by
  rcases h with rfl | ⟨r, hr⟩
  · exact Or.inl rfl
  · exact Or.inr ⟨r, by rw [preW_succ L k y hy]; omega⟩
theorem PhW.wrap {L : List Wk} {n : Nat} (h : PhW L n L.length 0) : PhW L n 0 0 := by
  rcases h with rfl | ⟨r, hr⟩
  · exact Or.inl rfl
  · exact Or.inr ⟨r + 1, by rw [preW_zero, hr, preW_all L 0, Nat.add_mul]; omega⟩
theorem run_succ {L : List Wk} {n k : Nat} (h : (ordL L 0).getD (n % (ordL L 0).length) 0 = k) : runW L (n + 1) = plc (runW L n) k := by
  rw [runW, h]
/-- A walker goes on till a free place: T. -/
theorem srch_step {W : List Int} {st T f a : Nat} (h : adv W st f a = T) (hT : W.getD T 0 = -1) (ha : W.getD a 0 ≠ -1) : ∃ f', f = f' + 1 ∧ adv W st f' ((a + st) % 127) = T := by
  cases f with
  | zero =>
    have e : a = T := h
    rw [e] at ha
    exact absurd hT ha
  | succ f =>
    refine ⟨f, rfl, ?_⟩
    rw [adv, if_neg ha] at h
    exact h
theorem srch_stop {W : List Int} {st T f a : Nat} (h : adv W st f a = T) (ha : W.getD a 0 = -1) : a = T := by
  cases f with
  | zero => exact h
  | succ f =>
    rw [adv, if_pos ha] at h
    exact h
theorem NxOk.next {p : Po} {L : List Wk} {n k m : Nat} {nx : List Int} {y x : Wk} (h : NxOk L n nx) (hL : L.Pairwise (fun x y => x.slot < y.slot)) (ho : ∀ x ∈ L, WkOk x) (hr : RunOk L n (runW L n)) (hk : (ordL L 0).getD (n % (ordL L 0).length) 0 = k) (hy : L[k]? = some y) (hx : (runW L n).2[k]? = some x)
    (hm : m ≤ 127 * (n + 1)) (hT : (y.pl + m * y.step) % 127 = adv (runW L n).1 x.step 127 x.pl) :
    NxOk L (n + 1) (nx.set y.slot (m : Int)) ∧ (runW L (n + 1)).1 = (runW L n).1.set (adv (runW L n).1 x.step 127 x.pl) (y.slot : Int) := by
  have hs : x.slot = y.slot := by
    obtain ⟨y', h1, h2, _⟩ := hr.same k x hx
    rw [hy] at h1
    obtain rfl := Option.some.inj h1
    exact h2
  have hg : (runW L n).2.getD k Wk.z = x := by rw [List.getD_eq_getElem?_getD, hx]; rfl
  have hk2 : k < (runW L n).2.length := (List.getElem?_eq_some_iff.1 hx).1
  rw [run_succ hk]
  unfold plc
  simp only [hg]
  refine ⟨⟨by rw [List.length_set]; exact h.len, ?_⟩, by rw [hs]⟩
  intro j x' y' hx' hy'
  have hys := (ho y (List.mem_of_getElem? hy)).slot
  by_cases hjk : j = k
  · subst hjk
    rw [hy] at hy'
    obtain rfl := Option.some.inj hy'
    rw [run_succ hk] at hx'
    unfold plc at hx'
    simp only [hg] at hx'
    rw [List.getElem?_set_self hk2] at hx'
    obtain rfl := Option.some.inj hx'
    refine ⟨m, ?_, hm, hT⟩
    rw [List.getD_eq_getElem?_getD, List.getElem?_set_self (by rw [h.len]; exact hys)]
    rfl
  · rw [run_succ hk] at hx'
    unfold plc at hx'
    simp only [hg] at hx'
    rw [List.getElem?_set_ne (fun e => hjk e.symm)] at hx'
    obtain ⟨m', e1, e2, e3⟩ := h.at_ j x' y' hx' hy'
    refine ⟨m', ?_, by omega, e3⟩
    rw [← e1, List.getD_eq_getElem?_getD, List.getD_eq_getElem?_getD, List.getElem?_set_ne]
    intro e
    exact hjk (slot_inj hL hy' hy e.symm)
/-- Numbers that fill their block: an own row's; an array's of 64. -/
def IRow (w : World) (g : Nat) (L : List Int) : Prop := w.heap[g]? = some (.cells (L.map (Value.int .i64)).toArray 3 (0, 0))
def A64 (w : World) (g : Nat) (L : List Int) : Prop := w.heap[g]? = some (.cells (L.map (Value.int .i64)).toArray 119 (0, 0))
theorem irow_cell {w : World} {g t : Nat} {L : List Int} (h : w.heap[g]? = some (.cells (L.map (Value.int .i64)).toArray t (0, 0))) (i : Nat) (hi : i < L.length) : w.cell? ⟨g, i, none⟩ = some (.int .i64 (L.getD i 0)) := by
  rw [cell_of_row w g i _ _ _ h]
  simp [hi]
theorem irow_set {w : World} {g t : Nat} {L : List Int} (h : w.heap[g]? = some (.cells (L.map (Value.int .i64)).toArray t (0, 0))) (i : Nat) (v : Int) : (w.setCell ⟨g, i, none⟩ (.int .i64 v)).heap[g]? = some (.cells ((L.set i v).map (Value.int .i64)).toArray t (0, 0)) := by
  have e := heap_setCell_same w g i _ t (.int .i64 v) h
  rw [List.setIfInBounds_toArray, ← List.map_set] at e
  exact e
theorem zero119 : (Tryz.prog.info? 119).map (fun i => (i.zero, i.size)) = some (some (.agg (((List.replicate 64 (0 : Int)).map (Value.int .i64)).toArray)), 64) := by kernel_rfl
theorem a64_alloc {ops : Array Oper} {rest : List Oper} {o : Oper} {a : Act} {Q : Exit → Act → World → Prop} {W : World} (hgd : o.guard = none) (ho : o.op = .alloc 119) (h : ∀ g, W.heap.size = g → ∀ w1, A64 w1 g (List.replicate 64 0) → Below W.heap.size W w1 → wpList Tryz.prog ops Q rest (a.put o.dst (.pointer (some ⟨g, 0, none⟩))) w1) : wpList Tryz.prog ops Q (o :: rest) a W := by
  obtain ⟨i0, hi, hz⟩ := Option.map_eq_some_iff.1 zero119
  simp only [Prod.mk.injEq] at hz
  refine Kd.event_run hgd (w1 := W.alloc (.cells ((List.replicate 64 (0 : Int)).map (Value.int .i64)).toArray 119)) (v := .pointer (some ⟨W.heap.size, 0, none⟩)) ?_ (h _ rfl _ (new_blk W _) (below_alloc (Below.refl _ _) _))
  have : execOp a.eval o = (do pure (.value (← Instr.alloc 119 true (.tuple #[])))) := by simp only [execOp, ho]
  rw [this]
  simp only [Instr.alloc, zeroValue, typeInfo, Sem.run_bind]
  simp [hi, hz.1, go_sem, newVar, newRow, Value.cells, Sem.run_bind, Result.andThen]
/-- make([]int, n), as a row. -/
theorem imake_row {ops : Array Oper} {rest : List Oper} {o : Oper} {a : Act} {Q : Exit → Act → World → Prop} {W : World} (hgd : o.guard = none) (x y : Operand) (ho : o.op = .makeSlice 22 x y) (n : Nat) (nz : Int)
    (hnz : nz = n) (hx : a.eval x = .int .i64 nz) (hy : a.eval y = .int .i64 nz) (hn : n ≤ 100000)
    (h : ∀ g, W.heap.size = g → ∀ w1, IRow w1 g (List.replicate n 0) → Below W.heap.size W w1 → wpList Tryz.prog ops Q rest (a.put o.dst (.slice (some ⟨g, 0, none⟩) n n)) w1) : wpList Tryz.prog ops Q (o :: rest) a W := by
  subst hnz
  obtain ⟨i0, hi, hzz⟩ := Option.map_eq_some_iff.1 info3
  simp only [Prod.mk.injEq] at hzz
  obtain ⟨hz0, hz1, hz2⟩ := hzz
  have hr := run_make (P := Tryz.prog) W 22 3 i0 (.int .i64 0) Tryz.underlying22 hi hz0 .i64 .i64 (n : Int) (n : Int) (by omega) (by omega) (by rw [hz2]; omega) (by omega)
  simp only [Int.toNat_natCast, hz1] at hr
  refine Kd.event_run hgd (v := .slice (some ⟨W.heap.size, 0, none⟩) n n) (w1 := W.alloc (.cells (madeCells (Value.int .i64 0).cells (n * 1)) 3)) (by simp [execOp, ho, hx, hy, hr]) (h _ rfl _ ?_ ((Below.refl _ W).alloc (Nat.le_refl _) _))
  unfold IRow
  rw [new_blk]
  have : madeCells (Value.int .i64 0).cells (n * 1) = (List.map (Value.int .i64) (List.replicate n 0)).toArray := by
    apply Array.toList_inj.1
    show (madeCells #[Value.int .i64 0] (n * 1)).toList = _
    rw [toList_madeCells_one]
    simp
  rw [this]
theorem irow_reads {w : World} {g : Nat} {L : List Int} (h : IRow w g L) (hl : L.length ≤ 100000) : Kd.C (Kd.int .i64) w (some ⟨g, 0, none⟩) L.length L := by
  refine ⟨rfl, by omega, fun _ => ⟨_, rfl, fun j p hp => ⟨[.int .i64 p], rfl, rfl, fun i u hu => ?_⟩⟩⟩
  have hi : i = 0 := by
    have := (List.getElem?_eq_some_iff.1 hu).1
    simp only [List.length_singleton] at this
    omega
  subst hi
  simp only [List.getElem?_cons_zero, Option.some.injEq] at hu
  subst hu
  show w.cell? ((⟨g, 0, none⟩ : Addr).add (j * 1 + 0)) = _
  rw [Addr.add_mid, cell_of_row w g _ _ _ _ h]
  simp [hp]
/-- What lies in memory while the wheel is made. -/
def RMem (p : Po) (g g3 g5 : Nat) (w w' : World) (W nx : List Int) : Prop := IRow w' g3 W ∧ A64 w' g5 nx ∧ PoolAt w' g p ∧ Below w.heap.size w w'
theorem RMem.below {p : Po} {g g3 g5 : Nat} {w w1 w2 : World} {W nx : List Int} (h : RMem p g g3 g5 w w1 W nx) (hb : Below w1.heap.size w1 w2) : RMem p g g3 g5 w w2 W nx :=
  ⟨bk_ h.1 hb, bk_ h.2.1 hb, h.2.2.1.below hb, below_step h.2.2.2 hb⟩
theorem RMem.setx {p : Po} {g g3 g5 : Nat} {w w1 : World} {W nx : List Int} (h : RMem p g g3 g5 w w1 W nx) (h1 : g ≠ g5) (h2 : g3 ≠ g5) (h3 : w.heap.size ≤ g5) (i : Nat) (v : Int) : RMem p g g3 g5 w (w1.setCell ⟨g5, i, none⟩ (.int .i64 v)) W (nx.set i v) := by
  have hc : Chg g5 w1 (w1.setCell ⟨g5, i, none⟩ (.int .i64 v)) := (Chg.refl g5 w1).set _ _
  exact ⟨(hc.block g3 h2).trans h.1, irow_set h.2.1 i v, h.2.2.1.chg hc h1, Chg.step h.2.2.2 hc h3⟩
theorem RMem.setw {p : Po} {g g3 g5 : Nat} {w w1 : World} {W nx : List Int} (h : RMem p g g3 g5 w w1 W nx) (h1 : g ≠ g3) (h2 : g3 ≠ g5) (h3 : w.heap.size ≤ g3) (i : Nat) (v : Int) : RMem p g g3 g5 w (w1.setCell ⟨g3, i, none⟩ (.int .i64 v)) (W.set i v) nx := by
  have hc : Chg g3 w1 (w1.setCell ⟨g3, i, none⟩ (.int .i64 v)) := (Chg.refl g3 w1).set _ _
  exact ⟨irow_set h.1 i v, (hc.block g5 (Ne.symm h2)).trans h.2.1, h.2.2.1.chg hc h1, Chg.step h.2.2.2 hc h3⟩
theorem set_getD {l : List Int} {i : Nat} {v : Int} (h : l.getD i 0 = v) (hi : i < l.length) : l.set i v = l := by
  rw [← h, List.getD_eq_getElem?_getD, List.getElem?_eq_getElem hi]
  exact List.set_getElem_self hi
theorem rmake_calls (p : Po) (hl : p.sl.length = 64) (hwe : ∀ i, i < 64 → (p.s i).st = 2 → 1 ≤ (p.s i).we ∧ (p.s i).we ≤ 8) (w : World) :
    Calls Tryz.prog 17 #[.agg p.ag] w fun e w' => ∃ g, e = .returned (.slice (some ⟨g, 0, none⟩) 127 127) ∧ Kd.C (Kd.int .i64) w' (some ⟨g, 0, none⟩) 127 (wheelL p) ∧ Below w.heap.size w w' := by
  have HL := am_ hl
  have HWE := am_ hwe
  obtain ⟨L, hLd⟩ : ∃ L, wksL p 64 0 = L := ⟨_, rfl⟩
  have HLD := am_ hLd
  have HOK := am_ (show ∀ x ∈ L, WkOk x by rw [← hLd]; exact wksL_ok p 64 0 (by omega))
  have HPW := am_ (show L.Pairwise (fun x y => x.slot < y.slot) by rw [← hLd]; exact (wksL_inc p 64 0).2)
  have HWL := am_ (show wheelL p = if L = [] then List.replicate 127 (-1) else (runW L 127).1 by rw [wheelL, hLd])
  clear hl hwe hLd
  go_enter Tryz.func17, Tryz.ntmps17
  go_upto_region 1 with (first
    | ((with_reducible refine gate_dst (N := 1) rfl ?_); refine pool_box (p := p) rfl rfl rfl ?_; intro g hg w1 hp1 hb1 hs1; have HP1 := am_ hp1; have HB1 := am_ hb1; have HGE := am_ hg; clear hp1 hb1 hs1 hg))
  go_wp2_with (first
    | ((with_reducible refine gate_dst (N := 12) rfl ?_); (refine imake_row rfl _ _ rfl 127 127 rfl rfl rfl (by decide) ?_; intro g3 hg3 w3 ha3 hb3; have HA3 := am_ ha3; have HB3 := am_ hb3; have HP3 := am_ (HP1.out.below hb3); have HG3 := am_ (show g < g3 from by rw [← hg3]; exact blk_lt HP1.out); clear ha3 hb3 hg3)))
  go_loopg [4] 127 (fun kq v4 w' => ∃ (i : Nat), v4 = .int .i64 (i : Int) ∧ Aside (kq + i = 127) ∧ Aside0 (IRow w' g3 (List.replicate i (-1) ++ List.replicate (127 - i) 0) ∧ PoolAt w' g p ∧ Below w.heap.size w w'))
  case atStart => exact ⟨0, rfl, (by show _ = _; omega), am_ ⟨HA3.out, HP3.out, below_step HB1.out HB3.out⟩⟩
  case round =>
    obtain ⟨i, rfl, hk, HW⟩ := hrel
    have HKQ := am_ hk.out
    clear hk
    rename World => wr1
    have HGL := am_ (show w.heap.size ≤ g3 from by have := HG3.out; have := HGE.out; omega)
    by_cases hlt : i < 127
    · have hd : decide (i < 127) = true := decide_eq_true hlt
      have hd2 : decide ((i : Int) < 127) = true := decide_eq_true (by omega)
      have hge : decide ((127 : Int) ≤ (i : Int)) = false := decide_eq_false (by omega)
      have hi0 : (0 : Int) ≤ (i : Int) := by omega
      have hi1 : (i : Int) < 127 := by omega
      have HLT := am_ hlt
      have HGK := am_ (show 0 < gk from by have := HKQ.out; omega)
      have t0 := irow_cell HW.out.1 i (by simp only [List.length_append, List.length_replicate]; omega)
      have u0 := fr_ HW.out.1 i
      clear hlt
      go_wp2
      go_roundg (gk - 1)
      case measure => have := HGK.out; omega
      case rel =>
        refine ⟨i + 1, (by have := HLT.out; show Value.int _ _ = Value.int _ _; first | rfl | (rw [wid (by omega) (by omega)]; rfl)), (by show _ = _; have := HKQ.out; have := HGK.out; omega), am_ ⟨?_, HW.out.2.1.chg ((Chg.refl g3 _).set _ _) (by have := HG3.out; omega), below_set HW.out.2.2 HGL.out⟩⟩
        have e : (List.replicate i (-1 : Int) ++ List.replicate (127 - i) 0).set i (-1) = List.replicate (i + 1) (-1) ++ List.replicate (127 - (i + 1)) 0 := by
          rw [List.set_append_right _ _ (by simp), List.length_replicate, Nat.sub_self, show 127 - i = (127 - (i + 1)) + 1 by have := HLT.out; omega, List.replicate_succ, List.set_cons_zero, List.replicate_succ', List.append_assoc]
          rfl
        rw [← e]
        exact irow_set HW.out.1 i (-1)
    · have hd : decide (i < 127) = false := decide_eq_false hlt
      have hd2 : decide ((i : Int) < 127) = false := decide_eq_false (by omega)
      have hi : i = 127 := by have := HKQ.out; omega
      subst hi
      have HAF : Aside0 (IRow wr1 g3 (List.replicate 127 (-1))) := am_ (by have h := HW.out.1; simpa using h)
      clear hlt
      go_wp2_with (first
        | ((with_reducible refine gate_dst (N := 5) rfl ?_); (refine a64_alloc rfl rfl ?_; intro g5 hg5 w5 ha5 hb5; have HMEM := am_ (show RMem p g g3 g5 w w5 (List.replicate 127 (-1)) (List.replicate 64 0) from ⟨bk_ HAF.out hb5, ha5, HW.out.2.1.below hb5, below_step HW.out.2.2 hb5⟩); have HG5 := am_ (show g3 < g5 from by rw [← hg5]; exact blk_lt HAF.out); clear ha5 hb5 hg5)))
      have HN1 := am_ (show g ≠ g5 ∧ g3 ≠ g5 ∧ w.heap.size ≤ g5 ∧ g ≠ g3 ∧ w.heap.size ≤ g3 from by have := HG3.out; have := HG5.out; have := HGL.out; omega)
      go_loopg [6, 7] 128 (fun kq v6 v7 w' => ∃ (n : Nat) (ag : Bool) (lv : Int) (nx : List Int), v6 = .int .i64 lv ∧ v7 = .bool ag ∧ Aside (kq = if ag = true then 128 - n else 0) ∧ Aside0 (lv = 127 - (n : Int) ∧ n ≤ 127 ∧ PhW L n 0 0 ∧ (L = [] → n = 0) ∧ (ag = false → L = [])) ∧ Aside0 (NxOk L n nx) ∧ Aside0 (RMem p g g3 g5 w w' (runW L n).1 nx))
      case atStart => exact ⟨0, true, 127, _, rfl, rfl, (by show _ = _; rfl), am_ ⟨by omega, by omega, Or.inr ⟨0, by rw [preW_zero]; omega⟩, fun _ => rfl, fun h => by cases h⟩, am_ (NxOk.start HOK.out), HMEM⟩
      case round =>
        obtain ⟨n, ag, lv, nx, rfl, rfl, hk, HF, HNX, HM⟩ := hrel
        have HKQ2 := am_ hk.out
        clear hk
        rename World => wr2
        obtain ⟨gko, HGKO⟩ : ∃ n, gk = n := ⟨_, rfl⟩
        have HGO := am_ HGKO
        clear HGKO
        by_cases hgo : ag = true ∧ n < 127
        · obtain ⟨rfl, hn⟩ := hgo
          have hd3 : decide (0 < lv) = true := decide_eq_true (by have := HF.out.1; omega)
          have HN := am_ hn
          have HGK2 := am_ (show gk = 128 - n from by have h := HKQ2.out; rw [if_pos rfl] at h; exact h)
          clear hn
          go_wp2
          go_loopg [6, 7, 8] 64 (fun kq v6 v7 v8 w' => ∃ (i : Nat) (xs : List Wk) (n' : Nat) (ag : Bool) (lv : Int) (nx : List Int), v6 = .int .i64 lv ∧ v7 = .bool ag ∧ v8 = .int .i64 (i : Int) ∧ Aside (kq + i = 64) ∧ Aside0 (xs ++ wksL p kq i = L) ∧ Aside0 (lv = 127 - (n' : Int) ∧ n' ≤ 127 ∧ PhW L n' xs.length 0 ∧ (xs = [] → n' = n ∧ ag = false) ∧ (xs ≠ [] → n < n' ∧ ag = true)) ∧ Aside0 (NxOk L n' nx) ∧ Aside0 (RMem p g g3 g5 w w' (runW L n').1 nx))
          case atStart => exact ⟨0, [], n, false, lv, nx, rfl, rfl, rfl, (by show _ = _; omega), am_ (by rw [List.nil_append]; exact HLD.out), am_ ⟨HF.out.1, HF.out.2.1, HF.out.2.2.1, fun _ => ⟨rfl, rfl⟩, fun h => absurd rfl h⟩, HNX, HM⟩
          case round =>
            obtain ⟨i, xs, n', ag', lv', nx', rfl, rfl, rfl, hk, HX, HF2, HNX2, HM2⟩ := hrel
            have HKQ3 := am_ hk.out
            clear hk
            rename World => wr3
            by_cases hli : i < 64
            · have hd4 : decide (i < 64) = true := decide_eq_true hli
              have hd5 : decide ((i : Int) < 64) = true := decide_eq_true (by omega)
              have hi0 : (0 : Int) ≤ (i : Int) := by omega
              have hi1 : (i : Int) < 64 := by omega
              have HLI := am_ hli
              have HGK3 := am_ (show 0 < gk from by have := HKQ3.out; omega)
              obtain ⟨c0, c1, c2, c3, c4⟩ := HM2.out.2.2.1.slot HL.out hli
              obtain ⟨⟨st, sa, sp, sw, sq⟩, hss⟩ : ∃ x, p.s i = x := ⟨_, rfl⟩
              rw [hss] at c0 c1 c2 c3 c4
              simp only at c0 c1 c2 c3 c4
              have HSS := am_ hss
              have HN2 := am_ (show xs ++ (if st = 2 then wkOf p i :: wksL p (gk - 1) (i + 1) else wksL p (gk - 1) (i + 1)) = L from by
                have h1 := HX.out
                obtain ⟨m, hm⟩ : ∃ m, gk = m + 1 := ⟨gk - 1, by have := HGK3.out; omega⟩
                rw [hm] at h1 ⊢
                rw [wksL, hss] at h1
                exact h1)
              clear hss hli
              by_cases h0 : st = 2
              · have hb0 : (st != 2) = false := bne_eq_false_iff_eq.mpr h0
                have hb1 : (st == 2) = true := beq_iff_eq.mpr h0
                have hwr := HWE.out i HLI.out (by rw [HSS.out]; exact h0)
                rw [HSS.out] at hwr
                simp only at hwr
                obtain ⟨wt, hwt⟩ := Int.eq_ofNat_of_zero_le (show 0 ≤ sw by omega)
                subst hwt
                have HWT := am_ (show 1 ≤ wt ∧ wt ≤ 8 by omega)
                obtain ⟨va, hva⟩ : ∃ v, spunL 127 [1, sa, sp] = v := ⟨_, rfl⟩
                obtain ⟨vb, hvb⟩ : ∃ v, 1 + spunL 126 [2, sa, sp] = v := ⟨_, rfl⟩
                have hba := spun_b 127 [1, sa, sp] (by decide) (by decide)
                have hbb := spun_b 126 [2, sa, sp] (by decide) (by decide)
                obtain ⟨y, hy⟩ : ∃ y, wkOf p i = y := ⟨_, rfl⟩
                have HY := am_ (show y.slot = i ∧ (y.pl : Int) = va ∧ (y.step : Int) = vb ∧ y.wt = wt ∧ y.pl < 127 ∧ y.step ≤ 126 by
                  rw [← hy]
                  unfold wkOf
                  rw [HSS.out]
                  simp only
                  have e := HWT.out
                  have e2 : wtI (wt : Int) = (wt : Int) := by unfold wtI; omega
                  rw [e2]
                  refine ⟨trivial, ?_, ?_, ?_, ?_, ?_⟩
                  · omega
                  · omega
                  · omega
                  · omega
                  · omega)
                have HX3 := am_ (show (xs ++ [y]) ++ wksL p (gk - 1) (i + 1) = L from by have h2 := HN2.out; rw [if_pos h0, hy] at h2; rw [List.append_assoc]; exact h2)
                have HLY := am_ (show L[xs.length]? = some y from by rw [← HX3.out, List.append_assoc, List.getElem?_append_right (Nat.le_refl _), Nat.sub_self]; rfl)
                have HOR := am_ (fun W => (by rw [← hva, ← hvb]; exact rorder_calls st sa sp (wt : Int) sq W : Calls Tryz.prog 55 #[.agg #[.int .i64 st, .int .i64 sa, .int .i64 sp, .int .i64 (wt : Int), .int .i64 sq]] W fun e w' => e = .returned (.tuple #[.int .i64 va, .int .i64 vb]) ∧ Below W.heap.size W w'))
                clear h0 hva hvb hba hbb hy hwr HN2
                go_wp2_with (first
                  | (go_at_call 55; ((with_reducible refine (HOR.out _).mono ?_); rintro e1 x1 ⟨rfl, hx⟩; have HM3 := am_ (HM2.out.below hx); clear hx)))
                clear c0 c1 c2 c3 c4
                obtain ⟨gk3, HGK3E⟩ : ∃ n, gk = n := ⟨_, rfl⟩
                have HGK3' := am_ (show 0 < gk3 ∧ gk3 + i = 64 ∧ gk3 = gk from by have := HKQ3.out; have := HGK3.out; omega)
                have HX4 := am_ (show (xs ++ [y]) ++ wksL p (gk3 - 1) (i + 1) = L from by rw [← HGK3E]; exact HX3.out)
                have HNN := am_ (show n ≤ n' from by
                  by_cases hx : xs = []
                  · have := (HF2.out.2.2.2.1 hx).1; omega
                  · have := (HF2.out.2.2.2.2 hx).1; omega)
                go_loopg [6, 11] wt (fun kq v6 v11 w' => ∃ (t : Nat) (n2 : Nat) (lv : Int) (nx : List Int), v6 = .int .i64 lv ∧ v11 = .int .i64 (t : Int) ∧ Aside (kq + t = wt) ∧ Aside0 (lv = 127 - (n2 : Int) ∧ n2 ≤ 127 ∧ PhW L n2 xs.length t ∧ n' ≤ n2 ∧ (n2 = n' → t = 0 ∨ n2 = 127)) ∧ Aside0 (NxOk L n2 nx) ∧ Aside0 (RMem p g g3 g5 w w' (runW L n2).1 nx))
                case atStart => exact ⟨0, n', lv', nx', rfl, rfl, (by show _ = _; omega), am_ ⟨HF2.out.1, HF2.out.2.1, HF2.out.2.2.1, Nat.le_refl _, fun _ => Or.inl rfl⟩, HNX2, HM3⟩
                case round =>
                  obtain ⟨t, n2, lv2, nx2, rfl, rfl, hk, HF3, HNX3, HM4⟩ := hrel
                  have HKQ4 := am_ hk.out
                  clear hk
                  rename World => wr4
                  obtain ⟨c0, c1, c2, c3, c4⟩ := HM4.out.2.2.1.slot HL.out HLI.out
                  rw [HSS.out] at c0 c1 c2 c3 c4
                  simp only at c0 c1 c2 c3 c4
                  have HEX := am_ (show ¬ (t < wt ∧ n2 < 127) → (lv2 = 127 - (n2 : Int) ∧ n2 ≤ 127 ∧ PhW L n2 (xs ++ [y]).length 0 ∧ (xs ++ [y] = [] → n2 = n ∧ true = false) ∧ (xs ++ [y] ≠ [] → n < n2 ∧ true = true)) from by
                    intro hno
                    have h := HF3.out
                    have h2 := HKQ4.out
                    have h3 := HWT.out
                    have h4 := HN.out
                    have h5 := HNN.out
                    have hlt : n < n2 := by
                      by_cases hq : n2 = n'
                      · rcases h.2.2.2.2 hq with h6 | h6 <;> omega
                      · omega
                    refine ⟨h.1, h.2.1, ?_, fun hx => absurd hx (by simp), fun _ => ⟨hlt, rfl⟩⟩
                    rw [List.length_append, List.length_singleton]
                    by_cases h127 : n2 = 127
                    · exact Or.inl h127
                    · refine PhW.up HLY.out ?_
                      rw [HY.out.2.2.2.1, show wt = t by omega]
                      exact h.2.2.1)
                  by_cases hgo2 : t < wt ∧ n2 < 127
                  · obtain ⟨htw, hn2⟩ := hgo2
                    have hd6 : decide (t < wt) = true := decide_eq_true htw
                    have hd7 : decide ((t : Int) < (wt : Int)) = true := decide_eq_true (by omega)
                    have hd8 : decide (0 < lv2) = true := decide_eq_true (by have := HF3.out.1; omega)
                    obtain ⟨T, m0, x, HSR⟩ : ∃ (T m0 : Nat) (x : Wk), Aside0 ((runW L n2).2[xs.length]? = some x ∧ adv (runW L n2).1 x.step 127 x.pl = T ∧ x.step = y.step ∧ (runW L n2).1.getD T 0 = -1 ∧ T < 127 ∧ nx2.getD i 0 = (m0 : Int) ∧ m0 ≤ 127 * n2 ∧ (y.pl + m0 * y.step) % 127 = x.pl ∧ RunOk L n2 (runW L n2) ∧ nx2.length = 64) := by
                      have hne : L ≠ [] := by intro h; have h2 := HLY.out; rw [h] at h2; simp at h2
                      have hr := run_ok HOK.out hne n2 (by omega)
                      have hl1 : xs.length < (runW L n2).2.length := by rw [hr.wl]; exact (List.getElem?_eq_some_iff.1 HLY.out).1
                      have hx := List.getElem?_eq_getElem hl1
                      have hw := hr.wk _ _ hx
                      obtain ⟨y', h1, h2, h3, _⟩ := hr.same _ _ hx
                      have hyy : y = y' := Option.some.inj (HLY.out.symm.trans h1)
                      rw [← hyy] at h3
                      obtain ⟨m0, e1, e2, e3⟩ := HNX3.out.at_ _ _ y hx HLY.out
                      have hf := hr.free hn2 hw
                      rw [HY.out.1] at e1
                      exact ⟨_, m0, _, am_ ⟨hx, rfl, h3, hf.1, hf.2, e1, e2, e3, hr, HNX3.out.len⟩⟩
                    obtain ⟨gk4, HGK4E⟩ : ∃ n, gk = n := ⟨_, rfl⟩
                    have HGK4 := am_ (show 0 < gk4 ∧ gk4 + t = wt ∧ gk4 = gk from by have := HKQ4.out; omega)
                    have HN2 := am_ hn2
                    have HTW := am_ htw
                    clear hn2 htw HEX HGK4E
                    go_wp2
                    go_loopg [60] 127 (fun kf v60 w' => ∃ (m : Nat) (mv : Int), v60 = v60 ∧ Aside0 (mv = (m : Int) ∧ m + kf = m0 + 127 ∧ adv (runW L n2).1 y.step kf ((y.pl + m * y.step) % 127) = T) ∧ Aside0 (RMem p g g3 g5 w w' (runW L n2).1 (nx2.set i mv)))
                    case atStart =>
                      refine ⟨m0, (m0 : Int), (by trivial), am_ ⟨rfl, rfl, ?_⟩, am_ ?_⟩
                      · have h := HSR.out
                        rw [h.2.2.2.2.2.2.2.1, ← h.2.2.1]
                        exact h.2.1
                      · rw [set_getD HSR.out.2.2.2.2.2.1 (by rw [HSR.out.2.2.2.2.2.2.2.2.2]; exact HLI.out)]
                        exact HM4.out
                    case round =>
                      obtain ⟨m, mv, _, HFM, HM5⟩ := hrel
                      rename World => wr5
                      clear c0 c1 c2 c3 c4
                      obtain ⟨a, ha⟩ : ∃ a, (y.pl + m * y.step) % 127 = a := ⟨_, rfl⟩
                      have HAA := am_ ha
                      have halt : a < 127 := by rw [← ha]; exact Nat.mod_lt _ (by decide)
                      obtain ⟨y1, hy1⟩ : ∃ y1, wrap64 (mv * vb) = y1 := ⟨_, rfl⟩
                      obtain ⟨y2, hy2⟩ : ∃ y2, wrap64 (va + y1) = y2 := ⟨_, rfl⟩
                      have hy3 : Int.tmod y2 127 = (a : Int) := by
                        obtain ⟨_, q1, q2, _, q4, q5⟩ := HY.out
                        obtain ⟨r1, r2, _⟩ := HFM.out
                        have r3 := HSR.out.2.2.2.2.2.2.1
                        have r4 := HN2.out
                        have hms : m * y.step ≤ 16256 * 126 := Nat.mul_le_mul (by omega) q5
                        have e1 : mv * vb = ((m * y.step : Nat) : Int) := by rw [r1, ← q2]; exact (Int.natCast_mul _ _).symm
                        rw [e1] at hy1
                        generalize m * y.step = N at hms hy1 ha
                        rw [wid (by omega) (by omega)] at hy1
                        rw [← hy1, ← q1, wid (by omega) (by omega)] at hy2
                        rw [← hy2, Int.tmod_eq_emod_of_nonneg (by omega)]
                        omega
                      have ha0 : (0 : Int) ≤ (a : Int) := by omega
                      have ha1 : (a : Int) < 127 := by omega
                      have hage : decide ((127 : Int) ≤ (a : Int)) = false := decide_eq_false (by omega)
                      have n0 := irow_cell HM5.out.2.1 i (by rw [List.length_set, HSR.out.2.2.2.2.2.2.2.2.2]; exact HLI.out)
                      rw [show (nx2.set i mv).getD i 0 = mv by rw [List.getD_eq_getElem?_getD, List.getElem?_set_self (by rw [HSR.out.2.2.2.2.2.2.2.2.2]; exact HLI.out)]; rfl] at n0
                      have n1 := fr_ HM5.out.2.1 i
                      have s0 := irow_cell HM5.out.1 a (by rw [HSR.out.2.2.2.2.2.2.2.2.1.len]; exact halt)
                      have s1 := fr_ HM5.out.1 a
                      obtain ⟨cw, hcw⟩ : ∃ c, (runW L n2).1.getD a 0 = c := ⟨_, rfl⟩
                      rw [hcw] at s0
                      have HCW := am_ hcw
                      have HALT := am_ halt
                      have HADV := am_ (show adv (runW L n2).1 y.step gk a = T from by rw [← ha]; exact HFM.out.2.2)
                      clear ha halt hcw
                      by_cases hm1 : cw = -1
                      · have hd9 : decide (0 ≤ cw) = false := decide_eq_false (by omega)
                        have HAT := am_ (show a = T from srch_stop HADV.out (by rw [HCW.out]; exact hm1))
                        have HMB := am_ (show m ≤ 127 * (n2 + 1) from by have := HFM.out.2.1; have := HSR.out.2.2.2.2.2.2.1; omega)
                        have HNXT := am_ (show NxOk L (n2 + 1) (nx2.set i mv) ∧ (runW L (n2 + 1)).1 = (runW L n2).1.set a (i : Int) from by
                          have q := HSR.out
                          have h := HNX3.out.next (p := p) (m := m) HPW.out HOK.out q.2.2.2.2.2.2.2.2.1 (HF3.out.2.2.1.ord HN2.out HLY.out (by rw [HY.out.2.2.2.1]; exact HTW.out)) HLY.out q.1 HMB.out (by rw [q.2.1, HAA.out]; exact HAT.out)
                          rw [HY.out.1, q.2.1, ← HAT.out, ← HFM.out.1] at h
                          exact h)
                        clear hm1
                        go_wp2
                        go_roundg (gk4 - 1)
                        case measure => have := HGK4.out; omega
                        case rel =>
                          have hb := HF3.out
                          have hb2 := HN2.out
                          have hb3 := HTW.out
                          have hb4 := HWT.out
                          refine ⟨t + 1, n2 + 1, wrap64 (lv2 - 1), nx2.set i mv, rfl, (by show Value.int _ _ = Value.int _ _; first | rfl | (rw [wid (by omega) (by omega)]; rfl)), (by show _ = _; have := HGK4.out; omega), am_ ⟨(by rw [wid (by omega) (by omega)]; omega), by omega, hb.2.2.1.step hb2, by omega, fun h => absurd h (by omega)⟩, am_ HNXT.out.1, am_ ?_⟩
                          rw [HNXT.out.2]
                          exact HM5.out.setw HN1.out.2.2.2.1 HN1.out.2.1 HN1.out.2.2.2.2 a (i : Int)
                      · have hv := HSR.out.2.2.2.2.2.2.2.2.1.val cw (by rw [← HCW.out, List.getD_eq_getElem?_getD, List.getElem?_eq_getElem (by rw [HSR.out.2.2.2.2.2.2.2.2.1.len]; exact HALT.out)]; exact List.getElem_mem _)
                        have hd9 : decide (0 ≤ cw) = true := decide_eq_true (by omega)
                        have HSS2 := am_ (srch_step HADV.out HSR.out.2.2.2.1 (by rw [HCW.out]; exact hm1))
                        clear hm1 hv
                        go_wp2
                        go_roundg (gk - 1)
                        case measure => obtain ⟨f', e, _⟩ := HSS2.out; omega
                        case rel =>
                          obtain ⟨f', e, hadv⟩ := HSS2.out
                          have hb := HFM.out
                          have hb2 := HSR.out.2.2.2.2.2.2.1
                          have hb3 := HN2.out
                          refine ⟨m + 1, wrap64 (mv + 1), (by trivial), am_ ⟨(by rw [wid (by omega) (by omega)]; omega), by omega, ?_⟩, am_ ?_⟩
                          · rw [show gk - 1 = f' by omega, show (y.pl + (m + 1) * y.step) % 127 = (a + y.step) % 127 by rw [← HAA.out, Nat.mod_add_mod, Nat.add_mul, Nat.one_mul, Nat.add_assoc]]
                            exact hadv
                          · have h := HM5.out.setx HN1.out.1 HN1.out.2.1 HN1.out.2.2.1 i (wrap64 (mv + 1))
                            rw [List.set_set] at h
                            exact h
                  · have HEO := am_ (HEX.out hgo2)
                    by_cases htw : t < wt
                    · have hd6 : decide (t < wt) = true := decide_eq_true htw
                      have hd7 : decide ((t : Int) < (wt : Int)) = true := decide_eq_true (by omega)
                      have hd8 : decide (0 < lv2) = false := decide_eq_false (by have := HF3.out.1; omega)
                      clear hgo2 htw HEX
                      go_wp2
                      go_roundg (gk3 - 1)
                      case measure => have := HGK3'.out; omega
                      case rel => exact ⟨i + 1, xs ++ [y], n2, true, lv2, nx2, rfl, rfl, (by have := HLI.out; show Value.int _ _ = Value.int _ _; first | rfl | (rw [wid (by omega) (by omega)]; rfl)), (by show _ = _; have := HGK3'.out; omega), HX4, am_ ⟨HEO.out.1, HEO.out.2.1, HEO.out.2.2.1, fun h => absurd h (by simp), fun h => ⟨(HEO.out.2.2.2.2 h).1, rfl⟩⟩, HNX3, HM4⟩
                    · have hd6 : decide (t < wt) = false := decide_eq_false htw
                      have hd7 : decide ((t : Int) < (wt : Int)) = false := decide_eq_false (by omega)
                      clear hgo2 htw HEX
                      go_wp2
                      go_roundg (gk3 - 1)
                      case measure => have := HGK3'.out; omega
                      case rel => exact ⟨i + 1, xs ++ [y], n2, true, lv2, nx2, rfl, rfl, (by have := HLI.out; show Value.int _ _ = Value.int _ _; first | rfl | (rw [wid (by omega) (by omega)]; rfl)), (by show _ = _; have := HGK3'.out; omega), HX4, am_ ⟨HEO.out.1, HEO.out.2.1, HEO.out.2.2.1, fun h => absurd h (by simp), fun h => ⟨(HEO.out.2.2.2.2 h).1, rfl⟩⟩, HNX3, HM4⟩
              · have hb0 : (st != 2) = true := bne_iff_ne.mpr h0
                have hb1 : (st == 2) = false := beq_eq_false_iff_ne.mpr h0
                have HX3 := am_ (show xs ++ wksL p (gk - 1) (i + 1) = L from by have h2 := HN2.out; rw [if_neg h0] at h2; exact h2)
                clear h0 HN2
                go_wp2
                go_roundg (gk - 1)
                case measure => have := HGK3.out; omega
                case rel => exact ⟨i + 1, xs, n', ag', lv', nx', rfl, rfl, (by have := HLI.out; show Value.int _ _ = Value.int _ _; first | rfl | (rw [wid (by omega) (by omega)]; rfl)), (by show _ = _; have := HKQ3.out; have := HGK3.out; omega), HX3, HF2, HNX2, HM2⟩
            · have hd4 : decide (i < 64) = false := decide_eq_false hli
              have hd5 : decide ((i : Int) < 64) = false := decide_eq_false (by omega)
              have hk0 : gk = 0 := by have := HKQ3.out; omega
              have HXL := am_ (show xs = L from by have h := HX.out; rw [hk0, wksL, List.append_nil] at h; exact h)
              clear hli hk0
              go_wp2
              go_roundg (if ag' = true then 128 - n' else 0)
              case measure =>
                have h1 := HGK2.out
                have h2 := HN.out
                by_cases hx : xs = []
                · rw [(HF2.out.2.2.2.1 hx).2, if_neg (by decide)]; omega
                · have h3 := HF2.out.2.2.2.2 hx
                  rw [h3.2, if_pos rfl]; omega
              case rel =>
                exact ⟨n', ag', lv', nx', rfl, rfl, (by show _ = _; rfl), am_ ⟨HF2.out.1, HF2.out.2.1, PhW.wrap (by have h := HF2.out.2.2.1; rw [HXL.out] at h; exact h), fun h => (by
                  have h3 := HF2.out.2.2.2.1 (by rw [HXL.out]; exact h)
                  rw [h3.1]
                  exact HF.out.2.2.2.1 h), fun h => (by
                  by_cases hx : xs = []
                  · rw [← HXL.out]; exact hx
                  · have h3 := (HF2.out.2.2.2.2 hx).2
                    rw [h] at h3; cases h3)⟩, HNX2, HM2⟩
        · have hd3 : (ag && decide (0 < lv)) = false := by
            have h1 := HF.out
            cases ag with
            | false => rfl
            | true =>
              have : ¬ n < 127 := fun h => hgo ⟨rfl, h⟩
              rw [Bool.true_and]
              exact decide_eq_false (by omega)
          have HEND := am_ (show wheelL p = (runW L n).1 from by
            rw [HWL.out]
            by_cases hL : L = []
            · rw [if_pos hL, HF.out.2.2.2.1 hL, hL]; rfl
            · rw [if_neg hL]
              have h1 := HF.out
              cases ag with
              | false => exact absurd (h1.2.2.2.2 rfl) hL
              | true =>
                have : ¬ n < 127 := fun h => hgo ⟨rfl, h⟩
                rw [show n = 127 by omega])
          have HLEN := am_ (show (runW L n).1.length = 127 from by
            by_cases hL : L = []
            · rw [HF.out.2.2.2.1 hL, hL]; rfl
            · exact (run_ok HOK.out hL n HF.out.2.1).len)
          clear hgo
          have HRD := am_ (irow_reads HM.out.1 (by rw [HLEN.out]; decide))
          have HBE := am_ HM.out.2.2.2
          cases ag with
          | false =>
            go_wp2
            go_ret
            exact ⟨g3, rfl, by have h := HRD.out; rw [HLEN.out] at h; rw [HEND.out]; exact h, HBE.out⟩
          | true =>
            rw [Bool.true_and] at hd3
            go_wp2
            go_ret
            exact ⟨g3, rfl, by have h := HRD.out; rw [HLEN.out] at h; rw [HEND.out]; exact h, HBE.out⟩
structure Op3 where
  k : Int
  a : Int
  n : Int
def Op3.cs (x : Op3) : List Value := [.int .i64 x.k, .int .i64 x.a, .int .i64 x.n]
def kdOp : Kd Op3 where
  sz := 3
  E := []
  K := fun _ x cs => cs = x.cs
  M := fun _ _ _ x cs => cs = x.cs
  K_len := fun h => by rw [h]; rfl
  K_one := fun h u hu => by
    rw [h] at hu
    simp only [Op3.cs, List.mem_cons, List.not_mem_nil, or_false] at hu
    rcases hu with rfl | rfl | rfl <;> rfl
  K_below := fun _ h => h
  K_of_M := fun h => h
  M_mono := fun _ h => h
  M_bound := fun h => h
  M_move := fun _ h => h
  M_lower := fun _ h => h
theorem info114 : (Tryz.prog.info? 106).map (fun i => (i.zero, i.size, i.bytes)) = some (some (.agg #[.int .i64 0, .int .i64 0, .int .i64 0]), 3, 24) := by kernel_rfl
/-- The options from i on; none where they are wrong. -/
def walkL : Nat → List Int → Nat → Option (List Op3)
  | 0, _, _ => some []
  | f + 1, l, i =>
    if i = l.length then some []
    else if 1 < l.getD i 0 then
      if i + 1 = l.length then none
      else if l.getD (i + 1) 0 < 2 then none
      else if (l.length : Int) < (i : Int) + l.getD (i + 1) 0 then none
      else (walkL f l (i + (l.getD (i + 1) 0).toNat)).map (⟨l.getD i 0, i, l.getD (i + 1) 0⟩ :: ·)
    else if l.getD i 0 = 0 then some [⟨l.getD i 0, i, 1⟩]
    else (walkL f l (i + 1)).map (⟨l.getD i 0, i, 1⟩ :: ·)
theorem byte_at {l : List Int} (hb : Bytes l) {i : Nat} (h : i < l.length) : 0 ≤ l.getD i 0 ∧ l.getD i 0 ≤ 255 := by
  rw [List.getD_eq_getElem?_getD, List.getElem?_eq_getElem h]
  exact hb _ (List.getElem_mem h)
theorem wid_m {m : Nat} (h : m ≤ 255) : wrap64 (m : Int) = (m : Int) := wid (by omega) (by omega)
theorem wid_add {i m : Nat} (h : i ≤ 1000) (h2 : m ≤ 255) : wrap64 ((i : Int) + (m : Int)) = (i : Int) + (m : Int) := wid (by omega) (by omega)
theorem add_one_ (ad : Addr) (i : Nat) : ad.add (i + 1) = ⟨ad.block, ad.off + (i + 1), none⟩ := by simp [Addr.add]
theorem opt_bound {a i n : Nat} (h1 : a ≤ i) (h2 : i ≤ n) (h3 : n ≤ 1000) : (a + 1) * 24 ≤ 140737488355328 := by omega
theorem len_step {a i m : Nat} (h : a ≤ i) (hm : ¬ (m : Int) < 2) : a + 1 ≤ i + m := by omega
theorem goto_step {n k i m : Nat} (h : n + 1 ≤ k + 1 + i) (hm : ¬ (m : Int) < 2) (hc : ¬ (n : Int) < (i : Int) + (m : Int)) : n + 1 ≤ k + (i + m) ∧ i + m ≤ n := by omega
theorem goto_one {n k i : Nat} (h : n + 1 ≤ k + 1 + i) (hc : i < n) : n + 1 ≤ k + (i + 1) ∧ i + 1 ≤ n := by omega
theorem rd_succ (l : List Int) (i : Nat) : rd l ((i : Int) + 1) = l.getD (i + 1) 0 := by
  unfold rd
  congr 1
def WalkPost (w : World) : Option (List Op3) → Ending → World → Prop
  | none, e, w' => e = .returned (.tuple #[.slice none 0 0, .int .i64 5]) ∧ Below w.heap.size w w'
  | some L, e, w' => ∃ A, e = .returned (.tuple #[.slice A L.length L.length, .int .i64 0]) ∧ kdOp.C w' A L.length L ∧ Below w.heap.size w w'
theorem opclip_calls {A : Option Addr} {n c : Nat} (hc : n ≤ c) (w : World) : Calls Tryz.prog 90 #[.slice A n c] w fun e w' => e = .returned (.slice A n n) ∧ Below w.heap.size w w' := by
  have hel : Tryz.prog.elem 102 = 106 := by simp [Program.elem, Tryz.underlying102]
  have hr : ∀ W : World, (Instr.slice 102 (.slice A n c) none (some (.int .i64 (n : Int))) (some (.int .i64 (n : Int)))).run Tryz.prog W = .ok (.slice A n n) W := by
    intro W
    have hu : Tryz.prog.underlying 102 = some (.slice (Tryz.prog.elem 102)) := by rw [hel]; exact Tryz.underlying102
    rw [run_slice_hm W 102 A n c hu .i64 .i64 (n : Int) (n : Int) (by omega) (by omega) (by omega)]
    obtain ⟨i0, hi, hz⟩ := Option.map_eq_some_iff.1 info114
    have e : Option.map (fun x : Addr => x.add 0) A = A := by cases A <;> simp [ad_add0]
    simp [sliced, Result.andThen, hel, sizeOf, typeInfo, hi, e]
  go_enter Tryz.func90, Tryz.ntmps90
  go_wp2
  go_ret
  exact ⟨rfl, Below.refl _ _⟩
theorem opclip_at {A : Option Addr} {n m c : Nat} (h : m = n) (hc : m ≤ c) (w : World) : Calls Tryz.prog 90 #[.slice A n c] w fun e w' => e = .returned (.slice A n n) ∧ Below w.heap.size w w' := by
  subst h
  exact opclip_calls hc w
theorem len_app {α : Type} (xs : List α) (x : α) : (xs ++ [x]).length = xs.length + 1 := by rw [List.length_append]; rfl
theorem walk_calls {A : Option Addr} {c n : Nat} {l : List Int} {w : World} (hr : Kd.C (Kd.int .u8) w A n l) (hn : l.length = n) (hc : n ≤ c) (hl : l.length ≤ 1000) (hb : Bytes l) :
    Calls Tryz.prog 45 #[.slice A n c] w (WalkPost w (walkL (l.length + 1) l 0)) := by
  subst hn
  have HR := am_ hr
  have HC := am_ hc
  have HLE := am_ hl
  have HBY := am_ hb
  have hu114 := Tryz.underlying106
  obtain ⟨R, hR⟩ : ∃ R, walkL (l.length + 1) l 0 = R := ⟨_, rfl⟩
  rw [hR]
  have HRR := am_ hR
  clear hr hc hl hb hR
  go_enter Tryz.func45, Tryz.ntmps45
  go_wp2
  refine Hp.wp_scope_ghost_k 0 (fun kq a' w' => ∃ (i : Nat) (A' : Option Addr) (c' : Nat) (xs : List Op3) (nx : Nat) (ai : Int) (u6 u7 u8 u9 u10 u11 u12 u13 u14 u15 u16 u17 u18 u19 u20 u21 u22 u23 u24 u25 u26 u27 u28 u29 u30 u31 u32 u33 u34 u35 u36 u37 u38 u39 u40 u41 u42 u43 u44 u45 u46 u47 u48 u49 u50 u51 u52 u53 u54 u55 u56 u57 u58 u59 u60 u61 u62 u63 u64 u65 u66 u67 u68 : Value), Aside0 ((walkL kq l i).map (xs ++ ·) = R) ∧ Aside0 (l.length + 1 ≤ kq + i ∧ i ≤ l.length) ∧ Aside0 (kdOp.R 106 w' w.heap.size (fun _ => True) (.slice A' xs.length c') xs) ∧ Aside0 (xs.length ≤ i) ∧ Aside0 (Below w.heap.size w w') ∧ Aside0 (nx = xs.length ∧ ai = (i : Int)) ∧ a' = { tmps := #[.slice A l.length c, undef, .slice none 0 0, .int .i64 0, .slice A' nx c', .int .i64 ai, u6, u7, u8, u9, u10, u11, u12, u13, u14, u15, u16, u17, u18, u19, u20, u21, u22, u23, u24, u25, u26, u27, u28, u29, u30, u31, u32, u33, u34, u35, u36, u37, u38, u39, u40, u41, u42, u43, u44, u45, u46, u47, u48, u49, u50, u51, u52, u53, u54, u55, u56, u57, u58, u59, u60, u61, u62, u63, u64, u65, u66, u67, u68], defers := [] }) (l.length + 1) (by rfl) ?_ ?_
  · intro R' hR'
    go_wp2
    go_step3
    go_step
    go_step
    exact hR' _ _ ⟨0, none, 0, [], _, _, _, _, _, _, _, _, _, _, _, _, _, _, _, _, _, _, _, _, _, _, _, _, _, _, _, _, _, _, _, _, _, _, _, _, _, _, _, _, _, _, _, _, _, _, _, _, _, _, _, _, _, _, _, _, _, _, _, _, _, _, _, _, _, am_ (by rw [HRR.out]; cases R <;> simp), am_ ⟨by omega, by omega⟩, am_ (Kd.R_nil _ _ _ _ _), am_ (by simp), am_ (Below.refl _ _), am_ ⟨rfl, rfl⟩, rfl⟩
  · intro gk a' wr h
    refine h.elim fun i z1 => z1.elim fun A' z2 => z2.elim fun c' z3 => z3.elim fun xs z4 => z4.elim fun nx z5 => z5.elim fun ai z6 => z6.elim fun u6 z7 => z7.elim fun u7 z8 => z8.elim fun u8 z9 => z9.elim fun u9 z10 => z10.elim fun u10 z11 => z11.elim fun u11 z12 => z12.elim fun u12 z13 => z13.elim fun u13 z14 => z14.elim fun u14 z15 => z15.elim fun u15 z16 => z16.elim fun u16 z17 => z17.elim fun u17 z18 => z18.elim fun u18 z19 => z19.elim fun u19 z20 => z20.elim fun u20 z21 => z21.elim fun u21 z22 => z22.elim fun u22 z23 => z23.elim fun u23 z24 => z24.elim fun u24 z25 => z25.elim fun u25 z26 => z26.elim fun u26 z27 => z27.elim fun u27 z28 => z28.elim fun u28 z29 => z29.elim fun u29 z30 => z30.elim fun u30 z31 => z31.elim fun u31 z32 => z32.elim fun u32 z33 => z33.elim fun u33 z34 => z34.elim fun u34 z35 => z35.elim fun u35 z36 => z36.elim fun u36 z37 => z37.elim fun u37 z38 => z38.elim fun u38 z39 => z39.elim fun u39 z40 => z40.elim fun u40 z41 => z41.elim fun u41 z42 => z42.elim fun u42 z43 => z43.elim fun u43 z44 => z44.elim fun u44 z45 => z45.elim fun u45 z46 => z46.elim fun u46 z47 => z47.elim fun u47 z48 => z48.elim fun u48 z49 => z49.elim fun u49 z50 => z50.elim fun u50 z51 => z51.elim fun u51 z52 => z52.elim fun u52 z53 => z53.elim fun u53 z54 => z54.elim fun u54 z55 => z55.elim fun u55 z56 => z56.elim fun u56 z57 => z57.elim fun u57 z58 => z58.elim fun u58 z59 => z59.elim fun u59 z60 => z60.elim fun u60 z61 => z61.elim fun u61 z62 => z62.elim fun u62 z63 => z63.elim fun u63 z64 => z64.elim fun u64 z65 => z65.elim fun u65 z66 => z66.elim fun u66 z67 => z67.elim fun u67 z68 => z68.elim fun u68 z69 => ?_
    obtain ⟨HW, HI, HO, HXL, HB, HE, ha⟩ := z69
    obtain ⟨rfl, rfl⟩ := HE.out
    clear HE
    clear z1 z2 z3 z4 z5 z6 z7 z8 z9 z10 z11 z12 z13 z14 z15 z16 z17 z18 z19 z20 z21 z22 z23 z24 z25 z26 z27 z28 z29 z30 z31 z32 z33 z34 z35 z36 z37 z38 z39 z40 z41 z42 z43 z44 z45 z46 z47 z48 z49 z50 z51 z52 z53 z54 z55 z56 z57 z58 z59 z60 z61 z62 z63 z64 z65 z66 z67 z68 h
    subst ha
    intro J K hJ hK
    have hk1 : 0 < gk := by have := HI.out; omega
    obtain ⟨k1, rfl⟩ : ∃ k1, gk = k1 + 1 := ⟨gk - 1, by omega⟩
    have h := HW.out
    rw [walkL] at h
    by_cases h0 : i = l.length
    · rw [if_pos h0] at h
      have hd0 : ((i : Int) == (l.length : Int)) = true := beq_iff_eq.mpr (by omega)
      have HRN := am_ (show some xs = R by rw [← h]; simp)
      clear h h0 hk1
      go_wp2_with (first
      | (go_at_call 90; ((with_reducible refine (opclip_calls (Kd.R_reads' HO.out).2.1 _).mono ?_); rintro e9 x9 ⟨rfl, hx⟩; have HX9 := am_ (below_step HB.out hx); have HC9 := am_ (Kd.C_below (Kd.R_reads' HO.out).2.2 hx); clear hx)))
      go_ret2
      rw [← HRN.out]
      exact ⟨A', rfl, HC9.out, HX9.out⟩
    · rw [if_neg h0] at h
      have hd0 : ((i : Int) == (l.length : Int)) = false := beq_eq_false_iff_ne.mpr (by omega)
      have hil : i < l.length := by have := HI.out; omega
      have HIL := am_ hil
      have hi0 : (0 : Int) ≤ (i : Int) := by omega
      have hi1 : (i : Int) < (l.length : Int) := by omega
      obtain ⟨ad, ead, hcell⟩ := Kd.at_int (Kd.C_below HR.out HB.out) (i : Int) hi0 hi1
      subst ead
      have hkb := byte_at HBY.out hil
      obtain ⟨k, hkk⟩ : ∃ k, l.getD i 0 = k := ⟨_, rfl⟩
      rw [show rd l (i : Int) = k from hkk, Int.toNat_natCast] at hcell
      rw [hkk] at h hkb
      have HKB := am_ hkb
      have hwk : wrap64 k = k := wid (by omega) (by omega)
      have hlen : l.length ≤ 1000 := HLE.out
      have hwi : wrap64 ((i : Int) + 1) = (i : Int) + 1 := wid (by omega) (by omega)
      have HH := am_ h
      obtain ⟨g6, HG6⟩ : ∃ n, wr.heap.size = n := ⟨_, rfl⟩
      clear h h0 hkb hkk hlen
      go_upto_region 6 with fail
      refine wp_w (fun W => W.heap[g6]? = some (.cells #[.int .i64 k, .int .i64 (i : Int), .int .i64 1] 106 (0, 0)) ∧ Below w.heap.size w W ∧ kdOp.R 106 W w.heap.size (fun k => k < g6) (.slice A' xs.length c') xs) ?_ ?_
      · exact ⟨by rw [← HG6]; exact new_blk wr _, below_alloc HB.out _, Kd.R_alloc (Kd.R_mono (Kd.R_bound HO.out) (fun k hk => HG6 ▸ hk.2.2.1)) _⟩
      intro w6 h6
      have HB6 := am_ h6.2.1
      have HO6 := am_ h6.2.2
      have HZ6 := am_ h6.1
      have HOF := am_ h6.2.2.1
      obtain ⟨t0, t1, t2⟩ := c3 h6.1
      have v2 := fr_ h6.1 2
      clear h6 hcell
      by_cases h1 : 1 < k
      · have h := HH.out
        rw [if_pos h1] at h
        have hd1 : decide (1 < k) = true := decide_eq_true h1
        by_cases hA : i + 1 = l.length
        · rw [if_pos hA] at h
          have HRN := am_ (show none = R by rw [← h]; rfl)
          have hd2 : ((i : Int) + 1 == (l.length : Int)) = true := beq_iff_eq.mpr (by omega)
          clear h h1 hA
          go_wp2
          go_ret2
          rw [← HRN.out]
          exact ⟨rfl, HB6.out⟩
        · rw [if_neg hA] at h
          have hd2 : ((i : Int) + 1 == (l.length : Int)) = false := beq_eq_false_iff_ne.mpr (by omega)
          have hj0 : (0 : Int) ≤ (i : Int) + 1 := by omega
          have hj1 : (i : Int) + 1 < (l.length : Int) := by omega
          obtain ⟨ad', ead, hcell⟩ := Kd.at_int (Kd.C_below HR.out HB6.out) ((i : Int) + 1) hj0 hj1
          obtain rfl : ad = ad' := by injection ead
          have hmb := byte_at HBY.out (show i + 1 < l.length by omega)
          obtain ⟨m, hm⟩ := Int.eq_ofNat_of_zero_le hmb.1
          rw [rd_succ, hm] at hcell
          have hcell' := hcell
          rw [show ((i : Int) + 1).toNat = i + 1 from rfl, add_one_ ad i] at hcell'
          rw [hm] at h hmb
          have hwm : wrap64 (m : Int) = (m : Int) := wid_m (Int.ofNat_le.1 hmb.2)
          have hwim : wrap64 ((i : Int) + (m : Int)) = (i : Int) + (m : Int) := wid_add (Nat.le_trans (Nat.le_of_lt HIL.out) HLE.out) (Int.ofNat_le.1 hmb.2)
          by_cases hBm : (m : Int) < 2
          · rw [if_pos hBm] at h
            have HRN := am_ (show none = R by rw [← h]; rfl)
            have hd3 : decide ((m : Int) < 2) = true := decide_eq_true hBm
            clear h h1 hA hBm hmb hm
            go_wp2
            go_ret2
            rw [← HRN.out]
            exact ⟨rfl, HB6.out⟩
          · rw [if_neg hBm] at h
            have hd3 : decide ((m : Int) < 2) = false := decide_eq_false hBm
            by_cases hCm : (l.length : Int) < (i : Int) + (m : Int)
            · rw [if_pos hCm] at h
              have HRN := am_ (show none = R by rw [← h]; rfl)
              have hd4 : decide ((l.length : Int) < (i : Int) + (m : Int)) = true := decide_eq_true hCm
              clear h h1 hA hBm hmb hm hCm
              go_wp2
              go_ret2
              rw [← HRN.out]
              exact ⟨rfl, HB6.out⟩
            · rw [if_neg hCm, Int.toNat_natCast] at h
              have hd4 : decide ((l.length : Int) < (i : Int) + (m : Int)) = false := decide_eq_false hCm
              have HN := am_ h
              have HMB := am_ (And.intro hBm hCm)
              have hk0 : (k == 0) = false := beq_eq_false_iff_ne.mpr (by omega)
              clear h h1 hA hBm hmb hm hCm
              go_upto_region 10 with fail
              refine wp_w (fun W => W.heap[g6]? = some (.cells #[.int .i64 k, .int .i64 (i : Int), .int .i64 (m : Int)] 106 (0, 0)) ∧ Below w.heap.size w W ∧ kdOp.R 106 W w.heap.size (fun _ => True) (.slice A' xs.length c') xs) ?_ ?_
              · exact ⟨heap_setCell_same w6 g6 2 _ 106 _ HZ6.out, below_set HB6.out (by rw [← HG6]; exact HB.out.size), Kd.R_mono (Kd.R_far HO6.out (fun k hk => Nat.ne_of_lt hk) _) (fun _ _ => trivial)⟩
              intro w7 h7
              have HB7 := am_ h7.2.1
              have HO7 := am_ h7.2.2
              have HZ7 := am_ h7.1
              clear t0 t1 t2 v2 hcell hcell'
              obtain ⟨t0, t1, t2⟩ := c3 h7.1
              clear h7
              have HLX := am_ (show xs.length + 1 ≤ i + m from by have h1 := HXL.out; have h2 := HMB.out.1; exact len_step h1 h2)
              have HIX := am_ (show l.length + 1 ≤ k1 + (i + m) ∧ i + m ≤ l.length from goto_step HI.out.1 HMB.out.1 HMB.out.2)
              clear HMB
              go_wp2_with (first
      | ((with_reducible refine gate_dst (N := 58) rfl ?_); (refine Kd.R_lit kdOp (w0 := w7) w7.heap.size 106 ?hg (N := 58) ?hd (xs := [(⟨k, (i : Int), (m : Int)⟩ : Op3)]) (inner := Op3.cs ⟨k, (i : Int), (m : Int)⟩) (ok := fun _ => True) (okp := fun _ => True) ?hr ?hp (fun _ hk => hk) trivial (Below.refl _ _) (Nat.le_refl _) (by simp) ?_; (case hd => rfl); (case hg => rfl); (case hr => first | (go_simp; done) | (go_simp; rfl)); (case hp => exact Reps.snoc (Reps.none _ _) (show Kd.M kdOp _ _ _ (⟨k, (i : Int), (m : Int)⟩ : Op3) (Op3.cs ⟨k, (i : Int), (m : Int)⟩) from rfl) rfl); intro vl wl ho hb hg hat; obtain ⟨Al, cl, el⟩ := Kd.R_slice ho; replace el : vl = .slice Al 1 cl := el; subst el; have HCl := am_ (Kd.R_reads' ho).2.2; have HBl := am_ (below_step HB7.out hb); have HOl := am_ (Kd.R_below HO7.out hb); have HZl := am_ (bk_ HZ7.out hb); clear ho hb hg hat))
      | ((with_reducible refine gate_builtin (b := .append) (xs := #[.tmp 56, .tmp 58]) rfl ?_); at_builtin; (refine Kd.R_append_rows kdOp (w0 := w) w.heap.size rfl (.tmp 56) (.tmp 58) 102 106 (.agg #[.int .i64 0, .int .i64 0, .int .i64 0]) 24 rfl Tryz.underlying102 info114 rfl (by decide) (by decide) (.slice A' xs.length c') xs [(⟨k, (i : Int), (m : Int)⟩ : Op3)] Al 1 cl (fun _ => True) (fun _ => False) rfl rfl HOl.out HCl.out (fun _ _ h => h) (fun _ h => h.elim) (fun _ _ => trivial) HBl.out HBl.out.size (opt_bound HXL.out HI.out.2 HLE.out) ?_; intro vq wq ho hb hg hat; obtain ⟨Aq, cq, el⟩ := Kd.R_slice ho; subst el; have HOq := am_ ho; have HBq := am_ hb; obtain ⟨y0, y1, y2⟩ := c3 ((hg.block g6 (blk_lt HZl.out) (fun e => absurd (HOF.out g6 e.symm) (Nat.lt_irrefl _))).trans HZl.out); clear ho hb hg hat)))
              go_step3
              (repeat go_step)
              refine ⟨rfl, hK _ _ (Handed.intro k1 (Nat.lt_succ_self _) (hJ _ _ _ ⟨i + m, Aq, cq, _, _, _, _, _, _, _, _, _, _, _, _, _, _, _, _, _, _, _, _, _, _, _, _, _, _, _, _, _, _, _, _, _, _, _, _, _, _, _, _, _, _, _, _, _, _, _, _, _, _, _, _, _, _, _, _, _, _, _, _, _, _, _, _, _, _, am_ (by
                have h := HN.out
                rw [Option.map_map] at h
                rw [← h]
                congr 1
                funext y
                simp), am_ HIX.out, HOq, am_ (by rw [List.length_append]; exact HLX.out), HBq, am_ ⟨by simp, by simp⟩, rfl⟩))⟩
      · have h := HH.out
        rw [if_neg h1] at h
        have hd1 : decide (1 < k) = false := decide_eq_false h1
        have HB7 := am_ HB6.out
        have HZ7 := am_ HZ6.out
        have HO7 := am_ (Kd.R_mono HO6.out (fun _ _ => trivial))
        clear v2
        by_cases h2 : k = 0
        · rw [if_pos h2] at h
          have hk0 : (k == 0) = true := beq_iff_eq.mpr h2
          have HRN := am_ (show some (xs ++ [(⟨k, (i : Int), 1⟩ : Op3)]) = R by rw [← h]; rfl)
          clear h h1 h2
          go_wp2_with (first
      | ((with_reducible refine gate_dst (N := 58) rfl ?_); (refine Kd.R_lit kdOp (w0 := w6) w6.heap.size 106 ?hg (N := 58) ?hd (xs := [(⟨k, (i : Int), 1⟩ : Op3)]) (inner := Op3.cs ⟨k, (i : Int), 1⟩) (ok := fun _ => True) (okp := fun _ => True) ?hr ?hp (fun _ hk => hk) trivial (Below.refl _ _) (Nat.le_refl _) (by simp) ?_; (case hd => rfl); (case hg => rfl); (case hr => first | (go_simp; done) | (go_simp; rfl)); (case hp => exact Reps.snoc (Reps.none _ _) (show Kd.M kdOp _ _ _ (⟨k, (i : Int), 1⟩ : Op3) (Op3.cs ⟨k, (i : Int), 1⟩) from rfl) rfl); intro vl wl ho hb hg hat; obtain ⟨Al, cl, el⟩ := Kd.R_slice ho; replace el : vl = .slice Al 1 cl := el; subst el; have HCl := am_ (Kd.R_reads' ho).2.2; have HBl := am_ (below_step HB7.out hb); have HOl := am_ (Kd.R_below HO7.out hb); have HZl := am_ (bk_ HZ7.out hb); clear ho hb hg hat))
      | ((with_reducible refine gate_builtin (b := .append) (xs := #[.tmp 56, .tmp 58]) rfl ?_); at_builtin; (refine Kd.R_append_rows kdOp (w0 := w) w.heap.size rfl (.tmp 56) (.tmp 58) 102 106 (.agg #[.int .i64 0, .int .i64 0, .int .i64 0]) 24 rfl Tryz.underlying102 info114 rfl (by decide) (by decide) (.slice A' xs.length c') xs [(⟨k, (i : Int), 1⟩ : Op3)] Al 1 cl (fun _ => True) (fun _ => False) rfl rfl HOl.out HCl.out (fun _ _ h => h) (fun _ h => h.elim) (fun _ _ => trivial) HBl.out HBl.out.size (opt_bound HXL.out HI.out.2 HLE.out) ?_; intro vq wq ho hb hg hat; obtain ⟨Aq, cq, el⟩ := Kd.R_slice ho; subst el; have HOq := am_ ho; have HBq := am_ hb; obtain ⟨y0, y1, y2⟩ := c3 ((hg.block g6 (blk_lt HZl.out) (fun e => absurd (HOF.out g6 e.symm) (Nat.lt_irrefl _))).trans HZl.out); clear ho hb hg hat))
      | (go_at_call 90; ((with_reducible refine (opclip_at (len_app xs _) (Kd.R_reads' HOq.out).2.1 _).mono ?_); rintro e9 x9 ⟨rfl, hx⟩; have HX9 := am_ (below_step HBq.out hx); have HC9 := am_ (Kd.C_below (Kd.R_reads' HOq.out).2.2 hx); clear hx)))
          go_ret2
          rw [← HRN.out]
          exact ⟨Aq, by rw [List.length_append]; rfl, HC9.out, HX9.out⟩
        · rw [if_neg h2] at h
          have hk0 : (k == 0) = false := beq_eq_false_iff_ne.mpr h2
          have HN := am_ h
          have HLX := am_ (show xs.length + 1 ≤ i + 1 from Nat.succ_le_succ HXL.out)
          have HIX := am_ (show l.length + 1 ≤ k1 + (i + 1) ∧ i + 1 ≤ l.length from goto_one HI.out.1 HIL.out)
          clear h h1 h2
          go_wp2_with (first
      | ((with_reducible refine gate_dst (N := 58) rfl ?_); (refine Kd.R_lit kdOp (w0 := w6) w6.heap.size 106 ?hg (N := 58) ?hd (xs := [(⟨k, (i : Int), 1⟩ : Op3)]) (inner := Op3.cs ⟨k, (i : Int), 1⟩) (ok := fun _ => True) (okp := fun _ => True) ?hr ?hp (fun _ hk => hk) trivial (Below.refl _ _) (Nat.le_refl _) (by simp) ?_; (case hd => rfl); (case hg => rfl); (case hr => first | (go_simp; done) | (go_simp; rfl)); (case hp => exact Reps.snoc (Reps.none _ _) (show Kd.M kdOp _ _ _ (⟨k, (i : Int), 1⟩ : Op3) (Op3.cs ⟨k, (i : Int), 1⟩) from rfl) rfl); intro vl wl ho hb hg hat; obtain ⟨Al, cl, el⟩ := Kd.R_slice ho; replace el : vl = .slice Al 1 cl := el; subst el; have HCl := am_ (Kd.R_reads' ho).2.2; have HBl := am_ (below_step HB7.out hb); have HOl := am_ (Kd.R_below HO7.out hb); have HZl := am_ (bk_ HZ7.out hb); clear ho hb hg hat))
      | ((with_reducible refine gate_builtin (b := .append) (xs := #[.tmp 56, .tmp 58]) rfl ?_); at_builtin; (refine Kd.R_append_rows kdOp (w0 := w) w.heap.size rfl (.tmp 56) (.tmp 58) 102 106 (.agg #[.int .i64 0, .int .i64 0, .int .i64 0]) 24 rfl Tryz.underlying102 info114 rfl (by decide) (by decide) (.slice A' xs.length c') xs [(⟨k, (i : Int), 1⟩ : Op3)] Al 1 cl (fun _ => True) (fun _ => False) rfl rfl HOl.out HCl.out (fun _ _ h => h) (fun _ h => h.elim) (fun _ _ => trivial) HBl.out HBl.out.size (opt_bound HXL.out HI.out.2 HLE.out) ?_; intro vq wq ho hb hg hat; obtain ⟨Aq, cq, el⟩ := Kd.R_slice ho; subst el; have HOq := am_ ho; have HBq := am_ hb; obtain ⟨y0, y1, y2⟩ := c3 ((hg.block g6 (blk_lt HZl.out) (fun e => absurd (HOF.out g6 e.symm) (Nat.lt_irrefl _))).trans HZl.out); clear ho hb hg hat)))
          go_step3
          (repeat go_step)
          refine ⟨rfl, hK _ _ (Handed.intro k1 (Nat.lt_succ_self _) (hJ _ _ _ ⟨i + 1, Aq, cq, _, _, _, _, _, _, _, _, _, _, _, _, _, _, _, _, _, _, _, _, _, _, _, _, _, _, _, _, _, _, _, _, _, _, _, _, _, _, _, _, _, _, _, _, _, _, _, _, _, _, _, _, _, _, _, _, _, _, _, _, _, _, _, _, _, _, am_ (by
            have h := HN.out
            rw [Option.map_map] at h
            rw [← h]
            congr 1
            funext y
            simp), am_ HIX.out, HOq, am_ (by rw [List.length_append]; exact HLX.out), HBq, am_ ⟨by simp, by simp⟩, rfl⟩))⟩
def nearV (l : List (Int × Bool)) : List Value := l.flatMap fun x => [.int .u32 x.1, .bool x.2]
theorem nearV_cons (x : Int × Bool) (l : List (Int × Bool)) : nearV (x :: l) = .int .u32 x.1 :: .bool x.2 :: nearV l := rfl
theorem nearV_len : ∀ l : List (Int × Bool), (nearV l).length = l.length * 2
  | [] => rfl
  | x :: l => by rw [nearV_cons, List.length_cons, List.length_cons, nearV_len l, List.length_cons]; omega
theorem nearV_get : ∀ (l : List (Int × Bool)) (i : Nat), i < l.length → (nearV l)[i * 2]? = some (.int .u32 (l.getD i (0, false)).1) ∧ (nearV l)[i * 2 + 1]? = some (.bool (l.getD i (0, false)).2)
  | [], i, h => absurd h (by simp)
  | x :: l, 0, _ => ⟨rfl, rfl⟩
  | x :: l, i + 1, h => by
    have ih := nearV_get l i (by simpa using h)
    rw [nearV_cons, show (i + 1) * 2 = i * 2 + 1 + 1 by omega]
    simpa using ih
theorem nearZ_eq : nearZ = nearV (List.replicate 64 (0, false)) := by simp [nearZ, nearV, List.flatMap]
theorem PL_near {p : Po} (h : p.sl.length = 64) (is : Bool) {near : List Value} (hn : near.length = 128) (wv : Value) {j : Nat} (hj : j < 128) : (PL p is near wv)[331 + j]? = near[j]? := by
  rw [PL, List.getElem?_append_right (by rw [Po.cs_len p h]; omega), Po.cs_len p h, show 331 + j - 330 = j + 1 by omega, List.getElem?_cons_succ, List.getElem?_append_left (by omega)]
theorem PlaneAt.c_near {w : World} {b : Nat} {p : Po} {is : Bool} {nl : List (Int × Bool)} {wv : Value} (h : PlaneAt w b p is (nearV nl) wv) {i : Nat} (hi : i < 64) : w.cell? ⟨b, 331 + i * 2, none⟩ = some (.int .u32 (nl.getD i (0, false)).1) ∧ w.cell? ⟨b, 331 + i * 2 + 1, none⟩ = some (.bool (nl.getD i (0, false)).2) := by
  have hl : nl.length = 64 := by have := h.1; rw [nearV_len] at this; omega
  have g := nearV_get nl i (by omega)
  exact ⟨((h.cell _).trans (PL_near h.2.1 _ h.1 _ (by omega))).trans g.1, ((h.cell (331 + (i * 2 + 1))).trans (PL_near h.2.1 _ h.1 _ (by omega))).trans g.2⟩
theorem load_calls {p x : Po} {is : Bool} {near : List Value} {wv : Value} {b : Nat} {w : World} (h : PlaneAt w b p is near wv) (hx : x.sl.length = 64) :
    Calls Tryz.prog 9 #[.pointer (some ⟨b, 0, none⟩), .agg x.ag] w fun e w' => e = .returned (.tuple #[]) ∧ ∃ A c, PlaneAt w' b x true near (.slice A 127 c) ∧ Kd.R (Kd.int .i64) 3 w' w.heap.size (fun _ => True) (.slice A 127 c) (wheelL x) ∧ Grw b w w' := by
  have HP := am_ h
  have HL := am_ hx
  have HMK := am_ (fun W => wmake_calls x hx W)
  have hbl := blk_lt h.2.2
  have HBL := am_ hbl
  clear h hx
  go_enter Tryz.func9, Tryz.ntmps9
  go_upto_region 1 with (first
    | ((with_reducible refine gate_dst (N := 3) rfl ?_); refine pool_box (p := x) rfl rfl rfl ?_; intro g hg w2 hp1 hb1 hs1; have HP2 := am_ hp1; have HB2 := am_ hb1; have HNE := am_ (show g ≠ b from by omega); clear hp1 hb1 hs1 hg))
  have HLAY := am_ (fun W (hW : Below w2.heap.size w2 W) => lay_calls (w := W) ((HP.out.below HB2.out).below hW) HL.out)
  have HQc := am_ (Below.refl w2.heap.size w2).drew
  refine start_ (n := 5) (S := fun w' => PoolAt w' g x) (ds := []) #[fF,fF,fF,fF,fF] (by kernel_rfl) rfl rfl (HP2.out) (fun hHeld => ?_)
  refine p_ 0 4 ?_
  refine p_ 1 5 ?_
  refine p_ 2 6 ?_
  refine take_ (i := 3) (N := some 7) (v := ?_) (a' := ?_) #[tT,tT,tT,tT,fF] rfl rfl (by kernel_rfl) (fun _ _ _ h => h) (Or.inl ⟨by rfl, ?_⟩) hHeld ?_ ?_
  rotate_left
  · intro w' s0
    refine load34_run (x := .tmp 3) _ ?_ ?_ s0 HL.out <;> rfl
  rotate_left; · simp only [Act.put, q_a, q_0, q_s, i64_w, i32_w]; rfl
  refine o_ 4 (some 8) (fun K hK => ?_)
  refine g_ Tryz.func35 #[.pointer (some ⟨b, 0, none⟩), .agg x.ag] ?_
  with_reducible refine (HLAY.out _ HQc.out).mono ?_
  rintro e1 w31 ⟨rfl, hpl, hgr⟩
  refine ⟨_, rfl, ?_⟩
  have HPL := am_ hpl
  have HGR := am_ hgr
  have HPG := am_ (HP2.out.below_but HQc.out hgr HNE.out)
  clear hpl hgr
  refine hK.out _ _ (HPG.out) (fun hHeld => ?_)
  clear hK K
  refine n_ 8 ?_
  refine done_ (by kernel_rfl) ?_
  go_upto_region 2 with fail
  refine wp_w (fun W => PlaneAt W b x true near wv ∧ PoolAt W g x ∧ Grw b w W) ?_ ?_
  · exact ⟨HPL.out, HPG.out, (Grw.of_below HB2.out).trans ((Grw.of_below HQc.out).trans HGR.out)⟩
  intro w5 h5
  have HP5 := am_ h5.1
  have HG5 := am_ h5.2.1
  have HR5 := am_ h5.2.2
  clear h5
  go_wp2_with (first
    | ((with_reducible refine gate_dst (N := 10) rfl ?_); refine pool_load rfl rfl rfl HG5.out HL.out ?_)
    | (go_at_call 36; ((with_reducible refine (HMK.out _).mono ?_); rintro e2 x2 ⟨A, c, rfl, hr, hx2⟩; have HX2 := am_ hx2; have HWR := am_ hr; have HP6 := am_ (HP5.out.below hx2); have t0 := HP6.out.c_w; have u0 := fr_ HP6.out.2.2 459; clear hr hx2)))
  go_end0
  refine ⟨rfl, A, c, HP6.out.setw _, ?_, HR5.out.trans ((Grw.of_below HX2.out).trans (Grw.of_chg ((Chg.refl b _).set _ _)))⟩
  have h1 := Kd.R_bound HWR.out
  have h2 := Kd.R_far (p := ⟨b, 459, none⟩) h1 (fun k hk => by
    have := hk.2.1
    have := HR5.out.size
    have := HBL.out
    show k ≠ b
    omega) (.slice A 127 c)
  exact Kd.R_lower (Kd.R_mono h2 (fun _ _ => trivial)) HR5.out.size
theorem near_calls {p : Po} {is : Bool} {nl : List (Int × Bool)} {wv : Value} {b i : Nat} {w : World} (h : PlaneAt w b p is (nearV nl) wv) (hi : i < 64) :
    Calls Tryz.prog 85 #[.pointer (some ⟨b, 0, none⟩), .int .i64 (i : Int)] w fun e w' => e = .returned (.tuple #[.int .u32 (nl.getD i (0, false)).1, .bool (nl.getD i (0, false)).2]) ∧ Below w.heap.size w w' := by
  obtain ⟨⟨nv, nb⟩, hn⟩ : ∃ z, nl.getD i (0, false) = z := ⟨_, rfl⟩
  have HP := am_ h
  have HI := am_ hi
  have hi0 : (0 : Int) ≤ (i : Int) := by omega
  have hi1 : (i : Int) < 64 := by omega
  have hd0 : decide ((i : Int) < 0) = false := decide_eq_false (by omega)
  have hd1 : decide ((64 : Int) ≤ (i : Int)) = false := decide_eq_false (by omega)
  rw [hn]
  have HCK := am_ (fun W (hW : Below w.heap.size w W) => show W.cell? ⟨b, 331 + i * 2, none⟩ = some (.int .u32 nv) ∧ W.cell? ⟨b, 331 + i * 2 + 1, none⟩ = some (.bool nb) from by
    have := (h.below hW).c_near hi
    rw [hn] at this
    exact this)
  clear h hi hn
  go_enter Tryz.func85, Tryz.ntmps85
  go_upto_region 3 with fail
  have HQc := am_ (Below.refl w.heap.size w).drew
  refine start_ (n := 16) (S := fun w' => w'.cell? ⟨b, 331 + i * 2, none⟩ = some (.int .u32 nv) ∧ w'.cell? ⟨b, 331 + i * 2 + 1, none⟩ = some (.bool nb)) (ds := []) #[fF,fF,fF,fF,fF,fF,fF,fF,fF,fF,fF,fF,fF,fF,fF,fF] (by kernel_rfl) rfl rfl ⟨(HCK.out _ HQc.out).1, (HCK.out _ HQc.out).2⟩ (fun hHeld => ?_)
  refine p_ 0 12 ?_
  refine p_ 1 13 ?_
  refine p_ 2 14 ?_
  refine p_ 3 15 ?_
  refine p_ 4 16 ?_
  refine p_ 5 17 ?_
  refine p_ 7 19 ?_
  refine p_ 8 20 ?_
  refine p_ 9 21 ?_
  refine p_ 10 22 ?_
  refine p_ 11 23 ?_
  refine p_ 12 24 ?_
  refine t_ 6 18 hHeld ?_
  refine p_ 14 4 ?_
  refine t_ 13 25 hHeld ?_
  refine p_ 15 5 ?_
  refine done_ (by kernel_rfl) ?_
  go_wp2
  go_ret2
  exact ⟨rfl, HQc.out⟩
theorem walkL_ok : ∀ (f : Nat) (l : List Int) (i : Nat) (L : List Op3), walkL f l i = some L → i ≤ l.length → ∀ x ∈ L, 0 ≤ x.a ∧ x.a + x.n ≤ l.length
  | 0, l, i, L, h, _ => by
    rw [walkL] at h
    cases h
    intro x hx
    cases hx
  | f + 1, l, i, L, h, hi => by
    rw [walkL] at h
    split at h
    · cases h
      intro x hx
      cases hx
    · rename_i h0
      split at h
      · split at h
        · cases h
        · split at h
          · cases h
          · split at h
            · cases h
            · rename_i h1 h2 h3 h4
              obtain ⟨L', hL, rfl⟩ := Option.map_eq_some_iff.1 h
              intro x hx
              rcases List.mem_cons.1 hx with rfl | hx
              · exact ⟨by show (0 : Int) ≤ (i : Int); omega, by show (i : Int) + l.getD (i + 1) 0 ≤ (l.length : Int); omega⟩
              · exact walkL_ok f l _ L' hL (by omega) x hx
      · split at h
        · cases h
          intro x hx
          rw [List.mem_singleton] at hx
          subst hx
          exact ⟨by show (0 : Int) ≤ (i : Int); omega, by show (i : Int) + 1 ≤ (l.length : Int); omega⟩
        · obtain ⟨L', hL, rfl⟩ := Option.map_eq_some_iff.1 h
          intro x hx
          rcases List.mem_cons.1 hx with rfl | hx
          · exact ⟨by show (0 : Int) ≤ (i : Int); omega, by show (i : Int) + 1 ≤ (l.length : Int); omega⟩
          · exact walkL_ok f l _ L' hL (by omega) x hx
def Op3.z : Op3 := ⟨0, 0, 0⟩
def opIs (x : Op3) : Bool := x.k == 8 && x.n == 10
def opIdx (L : List Op3) : Nat → Nat → Int
  | 0, _ => -1
  | k + 1, i => if opIs (L.getD i Op3.z) = true then (i : Int) else opIdx L k (i + 1)
theorem opIdx_ok (L : List Op3) : ∀ k i, i + k ≤ L.length → opIdx L k i = -1 ∨ ∃ j : Nat, opIdx L k i = (j : Int) ∧ j < L.length ∧ opIs (L.getD j Op3.z) = true
  | 0, i, _ => Or.inl rfl
  | k + 1, i, h => by
    rw [opIdx]
    by_cases hs : opIs (L.getD i Op3.z) = true
    · rw [if_pos hs]
      exact Or.inr ⟨i, rfl, by omega, hs⟩
    · rw [if_neg hs]
      exact opIdx_ok L k (i + 1) (by omega)
/-- The four bytes from a on as a number. -/
def numV (l : List Int) (a : Nat) : Int := (opts_number.f (l.drop a)).getD 0
theorem numV_some {l : List Int} {a : Nat} (h : a + 4 ≤ l.length) : opts_number.f (l.drop a) = some (numV l a) := by
  have hl : ((l.drop a).length : Int) = (l.length : Int) - a := by rw [List.length_drop]; omega
  unfold numV opts_number.f
  rw [if_pos (by omega), if_pos (by omega), if_pos (by omega), if_pos (by omega)]
  rfl
/-- The first stamp: where it is, what it says, what it echoes, and if there is one. -/
def stampL (l : List Int) : Int × Int × Int × Bool :=
  match walkL (l.length + 1) l 0 with
  | none => (0, 0, 0, false)
  | some L => if opIdx L L.length 0 < 0 then (0, 0, 0, false)
    else ((L.getD (opIdx L L.length 0).toNat Op3.z).a + 2, numV l ((L.getD (opIdx L L.length 0).toNat Op3.z).a + 2).toNat, numV l ((L.getD (opIdx L L.length 0).toNat Op3.z).a + 6).toNat, true)
theorem stamp_at {l : List Int} {L : List Op3} (h : walkL (l.length + 1) l 0 = some L) {j : Nat} (hj : j < L.length) (hs : opIs (L.getD j Op3.z) = true) : ∃ a : Nat, (L.getD j Op3.z).a = (a : Int) ∧ a + 10 ≤ l.length := by
  have hm : L.getD j Op3.z ∈ L := by rw [List.getD_eq_getElem?_getD, List.getElem?_eq_getElem hj]; exact List.getElem_mem hj
  have hk := walkL_ok _ _ _ _ h (Nat.zero_le _) _ hm
  simp only [opIs, Bool.and_eq_true, beq_iff_eq] at hs
  obtain ⟨a, ha⟩ := Int.eq_ofNat_of_zero_le hk.1
  exact ⟨a, ha, by omega⟩
theorem stampL_ok (l : List Int) : stampL l = (0, 0, 0, false) ∨ ∃ a : Nat, a + 8 ≤ l.length ∧ 2 ≤ a ∧ stampL l = ((a : Int), numV l a, numV l (a + 4), true) := by
  unfold stampL
  cases h : walkL (l.length + 1) l 0 with
  | none => exact Or.inl rfl
  | some L =>
    simp only
    rcases opIdx_ok L L.length 0 (by omega) with e | ⟨j, e, hj, hs⟩
    · rw [e, if_pos (by omega)]
      exact Or.inl rfl
    · rw [e, if_neg (by omega), Int.toNat_natCast]
      obtain ⟨a, ha, hl⟩ := stamp_at h hj hs
      rw [ha]
      exact Or.inr ⟨a + 2, by omega, by omega, rfl⟩
end Go.Proofs.YtgkmbefamcnifaaGreat.TB
