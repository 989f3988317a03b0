/- Lemmas and contracts that the row YtgkmbefamcnifaaGreatLawTopWays goes by (part 4; joined by pack.py out of this session's texts, and of words that the kit's print lays). -/
import Derived.Test.YtgkmbefamcnifaaGreatKW3
import Derived.Test.YtgkmbefamcnifaaGreatProg
import Derived.Laws.Tables
import Derived.Deep.MidRow
set_option maxRecDepth 100000
set_option maxHeartbeats 8000000
namespace Go.Proofs.YtgkmbefamcnifaaGreat.TB
set_option linter.unusedVariables false
set_option linter.unusedSimpArgs false
structure Sl where
  st : Int
  ad : Int
  po : Int
  we : Int
  si : Int
structure Ky where
  a : Int
  b : Int
structure Po where
  ver : Int
  ad : Int
  po : Int
  sl : List Sl
  ep : Int
  k0 : Ky
  k1 : Ky
  k2 : Ky
def Sl.z : Sl := ⟨0, 0, 0, 0, 0⟩
def Sl.cs (s : Sl) : List Value := [.int .i64 s.st, .int .i64 s.ad, .int .i64 s.po, .int .i64 s.we, .int .i64 s.si]
def slots (l : List Sl) : List Value := l.flatMap Sl.cs
def Po.tl (p : Po) : List Value := [.int .i64 p.ep, .int .u64 p.k0.a, .int .u64 p.k0.b, .int .u64 p.k1.a, .int .u64 p.k1.b, .int .u64 p.k2.a, .int .u64 p.k2.b]
def Po.cs (p : Po) : List Value := .int .i64 p.ver :: .int .i64 p.ad :: .int .i64 p.po :: (slots p.sl ++ p.tl)
def Po.ag (p : Po) : Array Value := p.cs.toArray
def Po.s (p : Po) (i : Nat) : Sl := p.sl.getD i Sl.z
def Po.put (p : Po) (i : Nat) (s : Sl) : Po := { p with sl := p.sl.set i s }
@[simp] theorem slots_nil : slots [] = [] := rfl
theorem slots_cons (s : Sl) (l : List Sl) : slots (s :: l) = .int .i64 s.st :: .int .i64 s.ad :: .int .i64 s.po :: .int .i64 s.we :: .int .i64 s.si :: slots l := rfl
theorem slots_len : ∀ l : List Sl, (slots l).length = l.length * 5
  | [] => rfl
  | s :: l => by rw [slots_cons]; simp only [List.length_cons, slots_len l]; omega
theorem slots_get : ∀ (l : List Sl) (i j : Nat), i < l.length → j < 5 → (slots l)[i * 5 + j]? = (l.getD i Sl.z).cs[j]?
  | [], _, _, h, _ => absurd h (by simp)
  | s :: l, 0, j, _, hj => by
    rw [slots_cons, Nat.zero_mul, Nat.zero_add]
    match j, hj with
    | 0, _ | 1, _ | 2, _ | 3, _ | 4, _ => rfl
  | s :: l, i + 1, j, h, hj => by
    have e := slots_get l i j (by simpa using h) hj
    rw [slots_cons, show (i + 1) * 5 + j = i * 5 + j + 1 + 1 + 1 + 1 + 1 by omega]
    simpa using e
theorem slots_set : ∀ (l : List Sl) (i j : Nat) (v : Value) (s' : Sl), i < l.length → j < 5 → s'.cs = (l.getD i Sl.z).cs.set j v → (slots l).set (i * 5 + j) v = slots (l.set i s')
  | [], _, _, _, _, h, _, _ => absurd h (by simp)
  | s :: l, 0, j, v, s', _, hj, hs => by
    have hs' : s'.cs = s.cs.set j v := hs
    rw [Nat.zero_mul, Nat.zero_add]
    show (s.cs ++ slots l).set j v = s'.cs ++ slots l
    rw [hs', List.set_append_left _ _ (by show j < 5; exact hj)]
  | s :: l, i + 1, j, v, s', h, hj, hs => by
    have e := slots_set l i j v s' (by simpa using h) hj (by simpa using hs)
    rw [slots_cons, show (i + 1) * 5 + j = i * 5 + j + 1 + 1 + 1 + 1 + 1 by omega]
    simp only [List.set_cons_succ, e, slots_cons]
theorem Po.cs_len (p : Po) (h : p.sl.length = 64) : p.cs.length = 330 := by
  simp [Po.cs, slots_len, h, Po.tl]
theorem Po.ag_size {p : Po} (h : p.sl.length = 64) : p.ag.size = 330 := by
  rw [Po.ag, List.size_toArray, Po.cs_len p h]
theorem Po.ag_slot {p : Po} (h : p.sl.length = 64) {i j : Nat} (hi : i < 64) (hj : j < 5) : p.ag[3 + i * 5 + j]? = (p.s i).cs[j]? := by
  rw [Po.ag, List.getElem?_toArray, Po.cs, show 3 + i * 5 + j = i * 5 + j + 1 + 1 + 1 by omega]
  simp only [List.getElem?_cons_succ]
  rw [List.getElem?_append_left (by rw [slots_len]; omega), slots_get _ _ _ (by omega) hj]
  rfl
theorem Po.ag_tl {p : Po} (h : p.sl.length = 64) {j : Nat} : p.ag[323 + j]? = p.tl[j]? := by
  rw [Po.ag, List.getElem?_toArray, Po.cs, show 323 + j = 320 + j + 1 + 1 + 1 by omega]
  simp only [List.getElem?_cons_succ]
  rw [List.getElem?_append_right (by rw [slots_len]; omega), slots_len, h, show 320 + j - 64 * 5 = j by omega]
theorem Po.put_len (p : Po) (i : Nat) (s : Sl) : (p.put i s).sl.length = p.sl.length := by simp [Po.put]
theorem Po.s_put_same {p : Po} {i : Nat} (s : Sl) (h : i < p.sl.length) : (p.put i s).s i = s := by
  simp [Po.s, Po.put, h]
theorem Po.s_put_other {p : Po} {i j : Nat} (s : Sl) (h : i ≠ j) : (p.put i s).s j = p.s j := by
  simp [Po.s, Po.put, List.getElem?_set_ne h]
theorem Po.put_put (p : Po) (i : Nat) (s t : Sl) : (p.put i s).put i t = p.put i t := by simp [Po.put]
theorem Po.ag_set {p : Po} (h : p.sl.length = 64) {i j : Nat} (hi : i < 64) (hj : j < 5) {v : Value} {s' : Sl} (hs : s'.cs = (p.s i).cs.set j v) : p.ag.setIfInBounds (3 + i * 5 + j) v = (p.put i s').ag := by
  rw [Po.ag, List.setIfInBounds_toArray, Po.cs, show 3 + i * 5 + j = i * 5 + j + 1 + 1 + 1 by omega]
  simp only [List.set_cons_succ]
  rw [List.set_append_left _ _ (by rw [slots_len]; omega), slots_set _ _ _ _ s' (by omega) hj hs]
  rfl
theorem Po.ag_put {p : Po} (h : p.sl.length = 64) {i : Nat} (hi : i < 64) (s : Sl) :
    (((((p.ag.setIfInBounds (3 + i * 5) (.int .i64 s.st)).setIfInBounds (3 + i * 5 + 1) (.int .i64 s.ad)).setIfInBounds (3 + i * 5 + 2) (.int .i64 s.po)).setIfInBounds (3 + i * 5 + 3) (.int .i64 s.we)).setIfInBounds (3 + i * 5 + 4) (.int .i64 s.si)) = (p.put i s).ag := by
  have l1 : ∀ s, (p.put i s).sl.length = 64 := fun s => (Po.put_len p i s).trans h
  have g : ∀ s, (p.put i s).s i = s := fun s => Po.s_put_same s (by omega)
  rw [show 3 + i * 5 = 3 + i * 5 + 0 from rfl, Po.ag_set (p := p) h hi (j := 0) (by omega) (s' := ⟨s.st, (p.s i).ad, (p.s i).po, (p.s i).we, (p.s i).si⟩) rfl]
  rw [show 3 + i * 5 + 0 + 1 = 3 + i * 5 + 1 from rfl, Po.ag_set (l1 _) hi (j := 1) (by omega) (s' := ⟨s.st, s.ad, (p.s i).po, (p.s i).we, (p.s i).si⟩) (by rw [g]; rfl), Po.put_put]
  rw [show 3 + i * 5 + 0 + 2 = 3 + i * 5 + 2 from rfl, Po.ag_set (l1 _) hi (j := 2) (by omega) (s' := ⟨s.st, s.ad, s.po, (p.s i).we, (p.s i).si⟩) (by rw [g]; rfl), Po.put_put]
  rw [show 3 + i * 5 + 0 + 3 = 3 + i * 5 + 3 from rfl, Po.ag_set (l1 _) hi (j := 3) (by omega) (s' := ⟨s.st, s.ad, s.po, s.we, (p.s i).si⟩) (by rw [g]; rfl), Po.put_put]
  rw [show 3 + i * 5 + 0 + 4 = 3 + i * 5 + 4 from rfl, Po.ag_set (l1 _) hi (j := 4) (by omega) (s' := s) (by rw [g]; rfl), Po.put_put]
theorem Po.ag_ver (p : Po) (v : Int) : p.ag.setIfInBounds 0 (.int .i64 v) = { p with ver := v : Po }.ag := by
  rw [Po.ag, List.setIfInBounds_toArray]; rfl
theorem Po.ag_h0 (p : Po) : p.ag[0]? = some (.int .i64 p.ver) := rfl
theorem Po.ag_h1 (p : Po) : p.ag[1]? = some (.int .i64 p.ad) := rfl
theorem Po.ag_h2 (p : Po) : p.ag[2]? = some (.int .i64 p.po) := rfl
/-- A ring's seven cells anew. -/
def Po.ring (p : Po) (e : Int) (x y z : Ky) : Po := { p with ep := e, k0 := x, k1 := y, k2 := z }
theorem Po.ag_ring {p : Po} (h : p.sl.length = 64) (e : Int) (x y z : Ky) :
    (((((((p.ag.setIfInBounds 323 (.int .i64 e)).setIfInBounds 324 (.int .u64 x.a)).setIfInBounds 325 (.int .u64 x.b)).setIfInBounds 326 (.int .u64 y.a)).setIfInBounds 327 (.int .u64 y.b)).setIfInBounds 328 (.int .u64 z.a)).setIfInBounds 329 (.int .u64 z.b)) = (p.ring e x y z).ag := by
  have hl : ∀ (t : List Value) (j : Nat) (v : Value), (Value.int .i64 p.ver :: .int .i64 p.ad :: .int .i64 p.po :: (slots p.sl ++ t)).set (323 + j) v = Value.int .i64 p.ver :: .int .i64 p.ad :: .int .i64 p.po :: (slots p.sl ++ t.set j v) := by
    intro t j v
    rw [show 323 + j = 320 + j + 1 + 1 + 1 by omega]
    simp only [List.set_cons_succ]
    rw [List.set_append_right _ _ (by rw [slots_len]; omega), slots_len, h, show 320 + j - 64 * 5 = j by omega]
  have h0 := hl p.tl 0 (.int .i64 e)
  simp only [Po.ag, List.setIfInBounds_toArray, Po.cs, Po.tl, Po.ring] at *
  rw [h0]
  simp only [List.set_cons_zero]
  rw [hl _ 1, hl _ 2, hl _ 3, hl _ 4, hl _ 5, hl _ 6]
  rfl
theorem Sl.one (s : Sl) : ∀ v ∈ s.cs, v.oneCell' = true := by
  intro v hv
  simp only [Sl.cs, List.mem_cons, List.not_mem_nil, or_false] at hv
  rcases hv with rfl | rfl | rfl | rfl | rfl <;> rfl
theorem Po.one (p : Po) : ∀ v ∈ p.cs, v.oneCell' = true := by
  intro v hv
  simp only [Po.cs, Po.tl, List.mem_cons, List.mem_append, List.not_mem_nil, or_false, slots, List.mem_flatMap] at hv
  rcases hv with rfl | rfl | rfl | ⟨s, _, hs⟩ | rfl | rfl | rfl | rfl | rfl | rfl | rfl
  · rfl
  · rfl
  · rfl
  · exact s.one v hs
  all_goals rfl
theorem info34 : (Tryz.prog.info? 33).map (·.size) = some 330 := by kernel_rfl
theorem info27 : (Tryz.prog.info? 26).map (·.size) = some 320 := by kernel_rfl
theorem info26 : (Tryz.prog.info? 25).map (·.size) = some 5 := by kernel_rfl
/-- A pool in memory. -/
def PoolAt (w : World) (b : Nat) (p : Po) : Prop := w.heap[b]? = some (.cells p.ag 33 (0, 0))
theorem PoolAt.cell {w : World} {b : Nat} {p : Po} (h : PoolAt w b p) (j : Nat) : w.cell? ⟨b, j, none⟩ = p.ag[j]? := cell_of_row w b j _ _ _ h
theorem PoolAt.head {w : World} {b : Nat} {p : Po} (h : PoolAt w b p) : w.cell? ⟨b, 0, none⟩ = some (.int .i64 p.ver) ∧ w.cell? ⟨b, 1, none⟩ = some (.int .i64 p.ad) ∧ w.cell? ⟨b, 2, none⟩ = some (.int .i64 p.po) :=
  ⟨(h.cell 0).trans p.ag_h0, (h.cell 1).trans p.ag_h1, (h.cell 2).trans p.ag_h2⟩
theorem PoolAt.ring {w : World} {b : Nat} {p : Po} (h : PoolAt w b p) (hl : p.sl.length = 64) : w.cell? ⟨b, 323, none⟩ = some (.int .i64 p.ep) ∧ w.cell? ⟨b, 324, none⟩ = some (.int .u64 p.k0.a) ∧ w.cell? ⟨b, 325, none⟩ = some (.int .u64 p.k0.b) ∧
    w.cell? ⟨b, 326, none⟩ = some (.int .u64 p.k1.a) ∧ w.cell? ⟨b, 327, none⟩ = some (.int .u64 p.k1.b) ∧ w.cell? ⟨b, 328, none⟩ = some (.int .u64 p.k2.a) ∧ w.cell? ⟨b, 329, none⟩ = some (.int .u64 p.k2.b) :=
  ⟨(h.cell 323).trans (Po.ag_tl hl (j := 0)), (h.cell 324).trans (Po.ag_tl hl (j := 1)), (h.cell 325).trans (Po.ag_tl hl (j := 2)), (h.cell 326).trans (Po.ag_tl hl (j := 3)), (h.cell 327).trans (Po.ag_tl hl (j := 4)), (h.cell 328).trans (Po.ag_tl hl (j := 5)), (h.cell 329).trans (Po.ag_tl hl (j := 6))⟩
theorem PoolAt.slot {w : World} {b : Nat} {p : Po} (h : PoolAt w b p) (hl : p.sl.length = 64) {i : Nat} (hi : i < 64) : w.cell? ⟨b, 3 + i * 5, none⟩ = some (.int .i64 (p.s i).st) ∧ w.cell? ⟨b, 3 + i * 5 + 1, none⟩ = some (.int .i64 (p.s i).ad) ∧ w.cell? ⟨b, 3 + i * 5 + 2, none⟩ = some (.int .i64 (p.s i).po) ∧
    w.cell? ⟨b, 3 + i * 5 + 3, none⟩ = some (.int .i64 (p.s i).we) ∧ w.cell? ⟨b, 3 + i * 5 + 4, none⟩ = some (.int .i64 (p.s i).si) :=
  ⟨(h.cell _).trans (Po.ag_slot hl hi (j := 0) (by omega)), (h.cell _).trans (Po.ag_slot hl hi (j := 1) (by omega)), (h.cell _).trans (Po.ag_slot hl hi (j := 2) (by omega)), (h.cell _).trans (Po.ag_slot hl hi (j := 3) (by omega)), (h.cell _).trans (Po.ag_slot hl hi (j := 4) (by omega))⟩
theorem PoolAt.free {w : World} {b : Nat} {p : Po} (h : PoolAt w b p) (j : Nat) : w.frozen? ⟨b, j, none⟩ = false := frozen_of_row w b j _ _ h
theorem PoolAt.load {w : World} {b : Nat} {p : Po} (h : PoolAt w b p) (hl : p.sl.length = 64) : (Instr.loadAt 33 (.pointer (some ⟨b, 0, none⟩))).run Tryz.prog w = .ok (.agg p.ag) w := by
  simp only [Instr.loadAt, Instr.sureAddr, Sem.run_bind, Sem.run_pure, Result.andThen_ok, run_loadVar_row w b 33 33 p.ag (0, 0) _ h Tryz.underlying33 rfl (by rw [info34, Po.ag_size hl])]
end Go.Proofs.YtgkmbefamcnifaaGreat.TB
