/- Lemmas and contracts that the row YtgkmbefamcnifaaGreatLawTopWays goes by (part 8; joined by pack.py out of this session's texts, and of words that the kit's print lays). -/
import Derived.Test.YtgkmbefamcnifaaGreatKW7
import Derived.Lib.SlBuf
set_option maxRecDepth 100000
set_option maxHeartbeats 8000000
namespace Go.Proofs.YtgkmbefamcnifaaGreat.TB
set_option linter.unusedVariables false
set_option linter.unusedSimpArgs false
open Go.RowKit Go.Proofs.YtgkmbefamcnifaaGreat.Hp Go.Proofs.YtgkmbefamcnifaaGreat.SB Go.Proofs.YtgkmbefamcnifaaGreat.WB Go.Proofs.YtgkmbefamcnifaaGreatW.PrintWords Go.Proofs.YtgkmbefamcnifaaGreatW.PrintLast Go.Proofs.YtgkmbefamcnifaaGreatW.PrintMore
def Po.z : Po := ⟨0, 0, 0, List.replicate 64 Sl.z, 0, ⟨0, 0⟩, ⟨0, 0⟩, ⟨0, 0⟩⟩
theorem zero34 : (Tryz.prog.info? 33).map (fun i => (i.zero, i.size)) = some (some (.agg Po.z.ag), 330) := by kernel_rfl
theorem built34 : Tryz.prog.built 33 [] = some Po.z.ag := by kernel_rfl
section
variable {ops : Array Oper} {rest : List Oper} {o : Oper} {a : Act} {Q : Exit → Act → World → Prop} {W : World}
theorem pool_alloc (hgd : o.guard = none) (ho : o.op = .alloc 33) (h : ∀ g, W.heap.size = g → ∀ w1, PoolAt w1 g Po.z → Below W.heap.size W w1 → w1.heap.size = g + 1 → wpList Tryz.prog ops Q rest (a.put o.dst (.pointer (some ⟨g, 0, none⟩))) w1) : wpList Tryz.prog ops Q (o :: rest) a W := by
  obtain ⟨i0, hi, hz⟩ := Option.map_eq_some_iff.1 zero34
  simp only [Prod.mk.injEq] at hz
  refine Kd.event_run hgd (w1 := W.alloc (.cells Po.z.ag 33)) (v := .pointer (some ⟨W.heap.size, 0, none⟩)) ?_ (h _ rfl _ (new_blk W _) (below_alloc (Below.refl _ _) _) (Array.size_push _))
  have : execOp a.eval o = (do pure (.value (← Instr.alloc 33 true (.tuple #[])))) := by simp only [execOp, ho]
  rw [this]
  simp [Instr.alloc, zeroValue, typeInfo, hi, hz.1, go_sem, newVar, newRow, Value.cells, Sem.run_bind, Result.andThen]
theorem pool_box {x : Operand} {p : Po} (hgd : o.guard = none) (ho : o.op = .box 33 x) (hx : a.eval x = .agg p.ag) (h : ∀ g, W.heap.size = g → ∀ w1, PoolAt w1 g p → Below W.heap.size W w1 → w1.heap.size = g + 1 → wpList Tryz.prog ops Q rest (a.put o.dst (.pointer (some ⟨g, 0, none⟩))) w1) : wpList Tryz.prog ops Q (o :: rest) a W := by
  refine Kd.event_run hgd (w1 := W.alloc (.cells p.ag 33)) (v := .pointer (some ⟨W.heap.size, 0, none⟩)) ?_ (h _ rfl _ (new_blk W _) (below_alloc (Below.refl _ _) _) (Array.size_push _))
  have : execOp a.eval o = (do pure (.value (← Instr.box 33 (a.eval x)))) := by simp only [execOp, ho]
  rw [this, hx]
  simp [Instr.box, go_sem, newVar, newRow, Value.cells, Sem.run_bind, Result.andThen]
theorem pool_load {x : Operand} {p : Po} {g : Nat} (hgd : o.guard = none) (ho : o.op = .load 33 x) (hx : a.eval x = .pointer (some ⟨g, 0, none⟩)) (hp : PoolAt W g p) (hl : p.sl.length = 64) (h : wpList Tryz.prog ops Q rest (a.put o.dst (.agg p.ag)) W) : wpList Tryz.prog ops Q (o :: rest) a W :=
  wpList_load_row hgd 33 x ho g hx 33 p.ag (0, 0) _ hp Tryz.underlying33 rfl (by rw [info34, Po.ag_size hl]) h
theorem pool_zero (hgd : o.guard = none) (ho : o.op = .build 33 #[]) (h : wpList Tryz.prog ops Q rest (a.put o.dst (.agg Po.z.ag)) W) : wpList Tryz.prog ops Q (o :: rest) a W := by
  have e : Tryz.prog.built 33 ((#[] : Array (Nat × Operand)).map fun (i, x) => (i, a.eval x)).toList = some Po.z.ag := by rw [Array.map_empty]; exact built34
  refine wpList_build hgd 33 #[] ho ?_ ?_
  · rw [e]; rfl
  · rw [e]; exact h
theorem pool_store {x y : Operand} {p q : Po} {g : Nat} (hgd : o.guard = none) (hN : o.dst = none) (ho : o.op = .store 33 x y) (hx : a.eval x = .pointer (some ⟨g, 0, none⟩)) (hy : a.eval y = .agg q.ag) (hp : PoolAt W g p) (hl : p.sl.length = 64) (hq : q.sl.length = 64) (h : ∀ w1, PoolAt w1 g q → Chg g W w1 → wpList Tryz.prog ops Q rest a w1) : wpList Tryz.prog ops Q (o :: rest) a W := by
  refine wpList_store_row hgd 33 x y ho g q.ag hx hy 33 p.ag hp (by rw [info34, Po.ag_size hq]) (by rw [Po.ag_size hl, Po.ag_size hq]) (all_oneCell_toArray q.one) ?_
  rw [hN]
  exact h _ (setRow_heap W g p.ag q.ag 33 (0, 0) hp) ⟨rfl, rfl, rfl, setRow_size W g _, fun k hk => setRow_other W g k _ hk⟩
end
theorem PoolAt.below {w w' : World} {b : Nat} {p : Po} (h : PoolAt w b p) (hb : Below w.heap.size w w') : PoolAt w' b p := bk_ h hb
theorem PoolAt.chg {w w' : World} {g b : Nat} {p : Po} (h : PoolAt w b p) (hc : Chg g w w') (hne : b ≠ g) : PoolAt w' b p := (hc.block b hne).trans h
theorem Po.z_len : Po.z.sl.length = 64 := by simp [Po.z]
theorem res7 {w : World} {g : Nat} {t : TypeId} {x0 x1 x2 x3 x4 x5 x6 : Value} (h : w.heap[g]? = some (.cells #[x0, x1, x2, x3, x4, x5, x6] t (0, 0))) (a b c d e f i : Value) :
    (((((((w.setCell ⟨g, 0, none⟩ a).setCell ⟨g, 1, none⟩ b).setCell ⟨g, 2, none⟩ c).setCell ⟨g, 3, none⟩ d).setCell ⟨g, 4, none⟩ e).setCell ⟨g, 5, none⟩ f).setCell ⟨g, 6, none⟩ i).heap[g]? = some (.cells #[a, b, c, d, e, f, i] t (0, 0)) := by
  have st : ∀ (W : World) (l : List Value) (k : Nat) (v : Value), W.heap[g]? = some (.cells l.toArray t (0, 0)) → (W.setCell ⟨g, k, none⟩ v).heap[g]? = some (.cells (l.set k v).toArray t (0, 0)) := by
    intro W l k v hW
    rw [heap_setCell_same W g k _ t v hW, List.setIfInBounds_toArray]
  exact st _ _ 6 i (st _ _ 5 f (st _ _ 4 e (st _ _ 3 d (st _ _ 2 c (st _ _ 1 b (st _ _ 0 a h))))))
theorem copy3 (w : World) (ty : TypeId) (g : Nat) (t : TypeId) (a : Addr) (cur : Array Value) (cs : List Value) (hg : w.heap[g]? = some (.cells cur t (0, 0))) (hc : cur.size = 6) (hl : cs.length = 6)
    (hsrc : ∀ j v, cs[j]? = some v → w.cell? (a.add j) = some v) (h1 : ∀ v ∈ cs, v.oneCell' = true) :
    (Builtin.copy_ #[131, 131] ty #[.slice (some ⟨g, 0, none⟩) 3 3, .slice (some a) 3 3]).run Tryz.prog w = .ok (goInt 3) (w.setRow g cs.toArray) := by
  have hl' := run_loadCells_list (P := Tryz.prog) w a cs hsrc
  rw [hl] at hl'
  have hst := run_storeCells_at Tryz.prog g 0 t cs 0 cur w hg (by omega) h1
  have e : (cur.toList.take (0 + 0) ++ cs ++ cur.toList.drop (0 + 0 + cs.length)).toArray = cs.toArray := by simp [hl, ← hc]
  rw [e] at hst
  obtain ⟨i, hi, hsz⟩ := Option.map_eq_some_iff.1 info30
  simp [Builtin.copy_, run_underlying Tryz.underlying131, Builtin.lenOf, Builtin.firstCells, sizeOf, typeInfo, hi, hsz, hl', hst]
theorem ring_calls (ep : Int) (k0 k1 k2 : Ky) (g : Nat) (w : World) (h : w.heap[g]? = some (.cells #[.int .u64 k0.a, .int .u64 k0.b, .int .u64 k1.a, .int .u64 k1.b, .int .u64 k2.a, .int .u64 k2.b] 29 (0, 0))) :
    Calls Tryz.prog 57 #[.int .i64 ep, .slice (some ⟨g, 0, none⟩) 3 3] w fun e w' => e = .returned (.agg #[.int .i64 ep, .int .u64 k0.a, .int .u64 k0.b, .int .u64 k1.a, .int .u64 k1.b, .int .u64 k2.a, .int .u64 k2.b]) ∧ Below w.heap.size w w' := by
  have HK := am_ h
  have q6 : w.cell? ⟨g, 0, none⟩ = some (.int .u64 k0.a) ∧ w.cell? ⟨g, 1, none⟩ = some (.int .u64 k0.b) ∧ w.cell? ⟨g, 2, none⟩ = some (.int .u64 k1.a) ∧ w.cell? ⟨g, 3, none⟩ = some (.int .u64 k1.b) ∧ w.cell? ⟨g, 4, none⟩ = some (.int .u64 k2.a) ∧ w.cell? ⟨g, 5, none⟩ = some (.int .u64 k2.b) := by simp [World.cell?, h]
  obtain ⟨q0, q1, q2, q3, q4, q5⟩ := q6
  have hlt := blk_lt h
  clear h
  obtain ⟨n, hn⟩ : ∃ n, w.heap.size = n := ⟨_, rfl⟩
  go_enter Tryz.func57, Tryz.ntmps57
  go_upto_region 2 with fail
  refine wp_w (fun W => W.heap[n]? = some (.cells #[.int .i64 0, .int .u64 0, .int .u64 0, .int .u64 0, .int .u64 0, .int .u64 0, .int .u64 0] 31 (0, 0)) ∧ W.heap[n + 1]? = some (.cells #[.int .u64 0, .int .u64 0, .int .u64 0, .int .u64 0, .int .u64 0, .int .u64 0] 164 (0, 0)) ∧ Below w.heap.size w W) ?_ ?_
  · exact ⟨(two_boxes w hn _ _).1, (two_boxes w hn _ _).2.1, (two_boxes w hn _ _).2.2.1⟩
  intro w1 h1
  have HR1 := am_ h1.1
  have HA1 := am_ h1.2.1
  have HB1 := am_ h1.2.2
  have HK1 := am_ (bk_ HK.out h1.2.2)
  clear h1
  have HC := am_ (fun ty => copy3 w1 ty (n + 1) 164 ⟨g, 0, none⟩ _ [.int .u64 k0.a, .int .u64 k0.b, .int .u64 k1.a, .int .u64 k1.b, .int .u64 k2.a, .int .u64 k2.b] HA1.out rfl rfl (by
    intro j v hv
    rw [Addr.add_mid, Nat.zero_add, cell_of_row w1 g j _ _ _ HK1.out]
    simpa using hv) (by
    intro v hv
    simp only [List.mem_cons, List.not_mem_nil, or_false] at hv
    rcases hv with rfl | rfl | rfl | rfl | rfl | rfl <;> rfl))
  clear q0 q1 q2 q3 q4 q5
  go_upto_region 3 with (first
    | ((with_reducible refine gate_builtin (b := .copy) (xs := #[.tmp 6, .tmp 7]) rfl ?_); (refine Lib.wpList_copy_run _ rfl _ _ 131 131 rfl _ _ rfl rfl (HC.out _) ?_)))
  refine wp_w (fun W => W.heap[n]? = some (.cells #[.int .i64 0, .int .u64 0, .int .u64 0, .int .u64 0, .int .u64 0, .int .u64 0, .int .u64 0] 31 (0, 0)) ∧ W.heap[n + 1]? = some (.cells #[.int .u64 k0.a, .int .u64 k0.b, .int .u64 k1.a, .int .u64 k1.b, .int .u64 k2.a, .int .u64 k2.b] 164 (0, 0)) ∧ Below w.heap.size w W) ?_ ?_
  · refine ⟨(setRow_other w1 (n + 1) n _ (by omega)).trans HR1.out, setRow_heap w1 (n + 1) _ _ 164 (0, 0) HA1.out, HB1.out.trans ⟨rfl, rfl, rfl, by simp, fun k hk => setRow_other w1 (n + 1) k _ (by omega)⟩⟩
  intro w2 h2
  have HR2 := am_ h2.1
  have HB2 := am_ h2.2.2
  have q6 : w2.cell? ⟨n + 1, 0, none⟩ = some (.int .u64 k0.a) ∧ w2.cell? ⟨n + 1, 1, none⟩ = some (.int .u64 k0.b) ∧ w2.cell? ⟨n + 1, 2, none⟩ = some (.int .u64 k1.a) ∧ w2.cell? ⟨n + 1, 3, none⟩ = some (.int .u64 k1.b) ∧ w2.cell? ⟨n + 1, 4, none⟩ = some (.int .u64 k2.a) ∧ w2.cell? ⟨n + 1, 5, none⟩ = some (.int .u64 k2.b) := by simp [World.cell?, h2.2.1]
  obtain ⟨q0, q1, q2, q3, q4, q5⟩ := q6
  obtain ⟨z0, z1, z2, z3, z4, z5, z6⟩ := c7 h2.1
  have y := fun i => fr_ h2.1 i
  have y0 := y 0
  have y1 := y 1
  have y2 := y 2
  have y3 := y 3
  have y4 := y 4
  have y5 := y 5
  have y6 := y 6
  clear h2 y
  go_wp2
  refine bodyPost_ret (results_cell_row rfl _ _ n 31 #[.int .i64 ep, .int .u64 k0.a, .int .u64 k0.b, .int .u64 k1.a, .int .u64 k1.b, .int .u64 k2.a, .int .u64 k2.b] (0, 0) _ rfl (res7 HR2.out _ _ _ _ _ _ _) Tryz.underlying31 rfl info32) rfl ⟨rfl, ?_⟩
  have hle : w.heap.size ≤ n := by omega
  exact below_set (below_set (below_set (below_set (below_set (below_set (below_set HB2.out hle) hle) hle) hle) hle) hle) hle
def arrK (k0 k1 k2 : Ky) : Nat → Array Value
  | 0 => #[.int .u64 0, .int .u64 0, .int .u64 0, .int .u64 0, .int .u64 0, .int .u64 0]
  | 1 => #[.int .u64 k0.a, .int .u64 k0.b, .int .u64 0, .int .u64 0, .int .u64 0, .int .u64 0]
  | 2 => #[.int .u64 k0.a, .int .u64 k0.b, .int .u64 k1.a, .int .u64 k1.b, .int .u64 0, .int .u64 0]
  | _ => #[.int .u64 k0.a, .int .u64 k0.b, .int .u64 k1.a, .int .u64 k1.b, .int .u64 k2.a, .int .u64 k2.b]
theorem rring_calls (ep : Int) (k0 k1 k2 : Ky) (g : Nat) (w : World) (h : w.heap[g]? = some (.cells #[.int .u64 k0.a, .int .u64 k0.b, .int .u64 k1.a, .int .u64 k1.b, .int .u64 k2.a, .int .u64 k2.b] 29 (0, 0))) :
    Calls Tryz.prog 63 #[.int .i64 ep, .slice (some ⟨g, 0, none⟩) 3 3] w fun e w' => e = .returned (.agg #[.int .i64 ep, .int .u64 k0.a, .int .u64 k0.b, .int .u64 k1.a, .int .u64 k1.b, .int .u64 k2.a, .int .u64 k2.b]) ∧ Below w.heap.size w w' := by
  have HK := am_ h
  obtain ⟨n, hn⟩ : ∃ n, w.heap.size = n := ⟨_, rfl⟩
  clear h
  go_enter Tryz.func63, Tryz.ntmps63
  go_upto_region 2 with fail
  refine wp_w (fun W => W.heap[n]? = some (.cells #[.int .i64 0, .int .u64 0, .int .u64 0, .int .u64 0, .int .u64 0, .int .u64 0, .int .u64 0] 31 (0, 0)) ∧ W.heap[n + 1]? = some (.cells #[.int .u64 0, .int .u64 0, .int .u64 0, .int .u64 0, .int .u64 0, .int .u64 0] 163 (0, 0)) ∧ Below w.heap.size w W) ?_ ?_
  · exact ⟨(two_boxes w hn _ _).1, (two_boxes w hn _ _).2.1, (two_boxes w hn _ _).2.2.1⟩
  intro w1 h1
  have HR1 := am_ h1.1
  have HA1 : Aside0 (w1.heap[n + 1]? = some (.cells (arrK k0 k1 k2 0) 163 (0, 0))) := am_ h1.2.1
  have HB1 := am_ h1.2.2
  clear h1
  go_wp2
  go_loopg [6] 3 (fun kq v6 w' => ∃ (i : Nat), v6 = .int .i64 (i : Int) ∧ Aside (kq + i = 3) ∧ Aside0 (w'.heap[n]? = some (.cells #[.int .i64 0, .int .u64 0, .int .u64 0, .int .u64 0, .int .u64 0, .int .u64 0, .int .u64 0] 31 (0, 0)) ∧ w'.heap[n + 1]? = some (.cells (arrK k0 k1 k2 i) 163 (0, 0)) ∧ Below w.heap.size w w'))
  case atStart => exact ⟨0, rfl, (by show _ = _; omega), am_ ⟨HR1.out, HA1.out, HB1.out⟩⟩
  case round =>
    obtain ⟨i, rfl, hk, HS⟩ := hrel
    have HKQ := am_ hk.out
    clear hk
    rename World => wr1
    have HKW := am_ (bk_ HK.out HS.out.2.2)
    have hle : w.heap.size ≤ n + 1 := by omega
    have q6 : wr1.cell? ⟨g, 0, none⟩ = some (.int .u64 k0.a) ∧ wr1.cell? ⟨g, 1, none⟩ = some (.int .u64 k0.b) ∧ wr1.cell? ⟨g, 2, none⟩ = some (.int .u64 k1.a) ∧ wr1.cell? ⟨g, 3, none⟩ = some (.int .u64 k1.b) ∧ wr1.cell? ⟨g, 4, none⟩ = some (.int .u64 k2.a) ∧ wr1.cell? ⟨g, 5, none⟩ = some (.int .u64 k2.b) := by simp [World.cell?, HKW.out]
    obtain ⟨q0, q1, q2, q3, q4, q5⟩ := q6
    match i, HS, HKQ with
    | 0, HS, HKQ =>
      have HGK := am_ (show 0 < gk from by have := HKQ.out; omega)
      have t0 := cell_of_row wr1 (n + 1) 0 _ _ _ HS.out.2.1
      have t1 := cell_of_row wr1 (n + 1) 1 _ _ _ HS.out.2.1
      simp only [arrK] at t0 t1
      have u0 := fr_ HS.out.2.1 0
      have u1 := fr_ HS.out.2.1 1
      go_wp2
      go_roundg (gk - 1)
      case measure => have := HGK.out; omega
      case rel => exact ⟨1, rfl, (by show _ = _; have := HKQ.out; have := HGK.out; omega), am_ ⟨((heap_setCell_other _ _ n _ (by show n ≠ n + 1; omega)).trans (heap_setCell_other _ _ n _ (by show n ≠ n + 1; omega))).trans HS.out.1, heap_setCell_same _ (n + 1) 1 _ _ _ (heap_setCell_same _ (n + 1) 0 _ _ _ HS.out.2.1), below_set (below_set HS.out.2.2 hle) hle⟩⟩
    | 1, HS, HKQ =>
      have HGK := am_ (show 0 < gk from by have := HKQ.out; omega)
      have t0 := cell_of_row wr1 (n + 1) 2 _ _ _ HS.out.2.1
      have t1 := cell_of_row wr1 (n + 1) 3 _ _ _ HS.out.2.1
      simp only [arrK] at t0 t1
      have u0 := fr_ HS.out.2.1 2
      have u1 := fr_ HS.out.2.1 3
      go_wp2
      go_roundg (gk - 1)
      case measure => have := HGK.out; omega
      case rel => exact ⟨2, rfl, (by show _ = _; have := HKQ.out; have := HGK.out; omega), am_ ⟨((heap_setCell_other _ _ n _ (by show n ≠ n + 1; omega)).trans (heap_setCell_other _ _ n _ (by show n ≠ n + 1; omega))).trans HS.out.1, heap_setCell_same _ (n + 1) 3 _ _ _ (heap_setCell_same _ (n + 1) 2 _ _ _ HS.out.2.1), below_set (below_set HS.out.2.2 hle) hle⟩⟩
    | 2, HS, HKQ =>
      have HGK := am_ (show 0 < gk from by have := HKQ.out; omega)
      have t0 := cell_of_row wr1 (n + 1) 4 _ _ _ HS.out.2.1
      have t1 := cell_of_row wr1 (n + 1) 5 _ _ _ HS.out.2.1
      simp only [arrK] at t0 t1
      have u0 := fr_ HS.out.2.1 4
      have u1 := fr_ HS.out.2.1 5
      go_wp2
      go_roundg (gk - 1)
      case measure => have := HGK.out; omega
      case rel => exact ⟨3, rfl, (by show _ = _; have := HKQ.out; have := HGK.out; omega), am_ ⟨((heap_setCell_other _ _ n _ (by show n ≠ n + 1; omega)).trans (heap_setCell_other _ _ n _ (by show n ≠ n + 1; omega))).trans HS.out.1, heap_setCell_same _ (n + 1) 5 _ _ _ (heap_setCell_same _ (n + 1) 4 _ _ _ HS.out.2.1), below_set (below_set HS.out.2.2 hle) hle⟩⟩
    | 3, HS, HKQ =>
      have e6 : wr1.cell? ⟨n + 1, 0, none⟩ = some (.int .u64 k0.a) ∧ wr1.cell? ⟨n + 1, 1, none⟩ = some (.int .u64 k0.b) ∧ wr1.cell? ⟨n + 1, 2, none⟩ = some (.int .u64 k1.a) ∧ wr1.cell? ⟨n + 1, 3, none⟩ = some (.int .u64 k1.b) ∧ wr1.cell? ⟨n + 1, 4, none⟩ = some (.int .u64 k2.a) ∧ wr1.cell? ⟨n + 1, 5, none⟩ = some (.int .u64 k2.b) := by simp [World.cell?, HS.out.2.1, arrK]
      obtain ⟨t0, t1, t2, t3, t4, t5⟩ := e6
      obtain ⟨z0, z1, z2, z3, z4, z5, z6⟩ := c7 HS.out.1
      have y := fun i => fr_ HS.out.1 i
      have y0 := y 0
      have y1 := y 1
      have y2 := y 2
      have y3 := y 3
      have y4 := y 4
      have y5 := y 5
      have y6 := y 6
      clear y
      go_wp2
      refine bodyPost_ret (results_cell_row rfl _ _ n 31 #[.int .i64 ep, .int .u64 k0.a, .int .u64 k0.b, .int .u64 k1.a, .int .u64 k1.b, .int .u64 k2.a, .int .u64 k2.b] (0, 0) _ rfl (res7 HS.out.1 _ _ _ _ _ _ _) Tryz.underlying31 rfl info32) rfl ⟨rfl, ?_⟩
      have hle : w.heap.size ≤ n := by omega
      exact below_set (below_set (below_set (below_set (below_set (below_set (below_set HS.out.2.2 hle) hle) hle) hle) hle) hle) hle
    | i + 4, HS, HKQ => exact absurd HKQ.out (by omega)
def Po.new (ad po : Int) (k n : Ky) : Po := ⟨0, ad, po, List.replicate 64 Sl.z, 1, ⟨0, 0⟩, k, n⟩
theorem Po.new_len (ad po : Int) (k n : Ky) : (Po.new ad po k n).sl.length = 64 := by simp [Po.new]
theorem built34n (ad po : Int) (k n : Ky) : Tryz.prog.built 33 [(1, .int .i64 ad), (2, .int .i64 po), (4, .agg #[.int .i64 1, .int .u64 0, .int .u64 0, .int .u64 k.a, .int .u64 k.b, .int .u64 n.a, .int .u64 n.b])] = some (Po.new ad po k n).ag := by kernel_rfl
theorem pool_built {ops : Array Oper} {rest : List Oper} {o : Oper} {a : Act} {Q : Exit → Act → World → Prop} {W : World} {x y z : Operand} {ad po : Int} {k n : Ky} (hgd : o.guard = none) (ho : o.op = .build 33 #[(1, x), (2, y), (4, z)]) (hx : a.eval x = .int .i64 ad) (hy : a.eval y = .int .i64 po) (hz : a.eval z = .agg #[.int .i64 1, .int .u64 0, .int .u64 0, .int .u64 k.a, .int .u64 k.b, .int .u64 n.a, .int .u64 n.b]) (h : wpList Tryz.prog ops Q rest (a.put o.dst (.agg (Po.new ad po k n).ag)) W) : wpList Tryz.prog ops Q (o :: rest) a W := by
  have e : Tryz.prog.built 33 ((#[(1, x), (2, y), (4, z)] : Array (Nat × Operand)).map fun (i, x) => (i, a.eval x)).toList = some (Po.new ad po k n).ag := by
    rw [show ((#[(1, x), (2, y), (4, z)] : Array (Nat × Operand)).map fun (i, x) => (i, a.eval x)).toList = [(1, a.eval x), (2, a.eval y), (4, a.eval z)] by simp, hx, hy, hz]
    exact built34n ad po k n
  refine wpList_build hgd 33 _ ho ?_ ?_
  · rw [e]; rfl
  · rw [e]; exact h
theorem placed_calls (ad po : Int) (h0 : 0 ≤ ad) (h1 : ad ≤ 4294967295) (h2 : 0 ≤ po) (h3 : po ≤ 65535) (w : World) : Calls Tryz.prog 56 #[.int .i64 ad, .int .i64 po] w fun e w' => e = .returned (.bool true) ∧ Drawn0 w w' :=
  pool_placed.calls ad po true w (by unfold pool_placed.f; simp [h0, h1, h2, h3])
theorem rout_calls (x lo hi : Int) (b : Bool) (h : (decide (x < lo) || decide (hi < x)) = b) (w : World) : Calls Tryz.prog 62 #[.int .i64 x, .int .i64 lo, .int .i64 hi] w fun e w' => e = .returned (.bool b) ∧ Drawn0 w w' :=
  roundhouseref6_out.calls x lo hi b w (by unfold roundhouseref6_out.f; subst h; by_cases h : x < lo <;> simp [h])
theorem new_calls (ad po : Int) (h0 : 0 ≤ ad) (h1 : ad ≤ 4294967295) (h2 : 0 ≤ po) (h3 : po ≤ 65535) (k n : Ky) (w : World) :
    Calls Tryz.prog 18 #[.int .i64 ad, .int .i64 po, .agg #[.int .u64 k.a, .int .u64 k.b], .agg #[.int .u64 n.a, .int .u64 n.b]] w fun e w' => e = .returned (.tuple #[.agg (Po.new ad po k n).ag, .int .i64 0]) ∧ Below w.heap.size w w' := by
  have HPL := am_ (fun W => placed_calls ad po h0 h1 h2 h3 W)
  clear h0 h1 h2 h3
  obtain ⟨g, HG⟩ : ∃ g, w.heap.size = g := ⟨_, rfl⟩
  go_enter Tryz.func18, Tryz.ntmps18
  go_upto_region 1 with (first | ((with_reducible refine gate_dst (N := 8) rfl ?_); (refine pool_alloc rfl rfl ?_; intro g8 hg8 w8 hp8 hb8 hs8; have HP8 := am_ hp8; have HB8 := am_ hb8; have HG8 := am_ hg8; clear hp8 hb8 hs8 hg8)))
  refine wp_w (fun W => W.heap[g]? = some (.cells #[.int .u64 k.a, .int .u64 k.b] 29 (0, 0)) ∧ W.heap[g + 1]? = some (.cells #[.int .u64 n.a, .int .u64 n.b] 29 (0, 0)) ∧ Below w.heap.size w W ∧ PoolAt W g8 Po.z ∧ g < g8) ?_ ?_
  · obtain ⟨b0, b1, b2, b3⟩ := two_boxes w HG (.cells #[.int .u64 k.a, .int .u64 k.b] 29) (.cells #[.int .u64 n.a, .int .u64 n.b] 29)
    exact ⟨bk_ b0 HB8.out, bk_ b1 HB8.out, below_step b2 HB8.out, HP8.out, by rw [← HG8.out, b3]; omega⟩
  intro w1 h1
  have HB1 := am_ h1.2.2.1
  have HP1 := am_ h1.2.2.2.1
  have HLT := am_ h1.2.2.2.2
  obtain ⟨k0, k1⟩ := c2 h1.1
  obtain ⟨j0, j1⟩ := c2 h1.2.1
  clear h1 HP8 HB8 HG8
  have HRG := am_ (fun (m : Nat) => ring_calls 1 ⟨0, 0⟩ k n w1.heap.size ((w1.drewN m).alloc (.cells #[.int .u64 0, .int .u64 0, .int .u64 k.a, .int .u64 k.b, .int .u64 n.a, .int .u64 n.b] 29)) (new_blk (w1.drewN m) _))
  go_wp2_with (first
    | (go_at_call 56; (with_reducible refine (HPL.out _).mono ?_); rintro e0 x0 ⟨rfl, ⟨⟨nq, rfl⟩⟩⟩)
    | (go_at_call 57; ((with_reducible refine (HRG.out _).mono ?_); rintro e1 x1 ⟨rfl, hx⟩; have HX := am_ (below_step (below_alloc (bd (Below.refl w1.heap.size w1) _) _) hx); clear hx))
    | ((with_reducible refine gate_dst (N := 22) rfl ?_); (refine pool_built (k := k) (n := n) rfl rfl rfl rfl rfl ?_))
    | ((with_reducible refine gate_store (t := 33) (p := 8) rfl ?_); (refine pool_store (q := Po.new ad po k n) rfl rfl rfl rfl rfl (HP1.out.below HX.out) Po.z_len (Po.new_len _ _ _ _) ?_; intro w9 hp9 hc9; have HP9 := am_ hp9; have HC9 := am_ hc9; clear hp9 hc9)))
  refine bodyPost_ret (results_ct_row rfl _ _ g8 33 (Po.new ad po k n).ag (0, 0) _ rfl HP9.out Tryz.underlying33 rfl (by rw [info34, Po.ag_size (Po.new_len _ _ _ _)])) rfl ⟨rfl, ?_⟩
  exact Chg.step (below_step HB1.out HX.out) HC9.out (by have := HLT.out; omega)
theorem rnew_calls (ad po : Int) (h0 : 0 ≤ ad) (h1 : ad ≤ 4294967295) (h2 : 0 ≤ po) (h3 : po ≤ 65535) (k n : Ky) (w : World) :
    Calls Tryz.prog 22 #[.int .i64 ad, .int .i64 po, .agg #[.int .u64 k.a, .int .u64 k.b], .agg #[.int .u64 n.a, .int .u64 n.b]] w fun e w' => e = .returned (.tuple #[.agg (Po.new ad po k n).ag, .int .i64 0]) ∧ Below w.heap.size w w' := by
  have HP1_ := am_ (fun W => rout_calls ad 0 4294967295 false (by simp; omega) W)
  have HP2_ := am_ (fun W => rout_calls po 0 65535 false (by simp; omega) W)
  clear h0 h1 h2 h3
  obtain ⟨g, HG⟩ : ∃ g, w.heap.size = g := ⟨_, rfl⟩
  go_enter Tryz.func22, Tryz.ntmps22
  go_upto_region 1 with (first | ((with_reducible refine gate_dst (N := 8) rfl ?_); (refine pool_alloc rfl rfl ?_; intro g8 hg8 w8 hp8 hb8 hs8; have HP8 := am_ hp8; have HB8 := am_ hb8; have HG8 := am_ hg8; clear hp8 hb8 hs8 hg8)))
  refine wp_w (fun W => W.heap[g]? = some (.cells #[.int .u64 k.a, .int .u64 k.b] 29 (0, 0)) ∧ W.heap[g + 1]? = some (.cells #[.int .u64 n.a, .int .u64 n.b] 29 (0, 0)) ∧ Below w.heap.size w W ∧ PoolAt W g8 Po.z ∧ g < g8) ?_ ?_
  · obtain ⟨b0, b1, b2, b3⟩ := two_boxes w HG (.cells #[.int .u64 k.a, .int .u64 k.b] 29) (.cells #[.int .u64 n.a, .int .u64 n.b] 29)
    exact ⟨bk_ b0 HB8.out, bk_ b1 HB8.out, below_step b2 HB8.out, HP8.out, by rw [← HG8.out, b3]; omega⟩
  intro w1 h1
  have HB1 := am_ h1.2.2.1
  have HP1 := am_ h1.2.2.2.1
  have HLT := am_ h1.2.2.2.2
  obtain ⟨k0, k1⟩ := c2 h1.1
  obtain ⟨j0, j1⟩ := c2 h1.2.1
  clear h1 HP8 HB8 HG8
  have HRG := am_ (fun (m : Nat) => rring_calls 1 ⟨0, 0⟩ k n w1.heap.size ((w1.drewN m).alloc (.cells #[.int .u64 0, .int .u64 0, .int .u64 k.a, .int .u64 k.b, .int .u64 n.a, .int .u64 n.b] 29)) (new_blk (w1.drewN m) _))
  go_wp2_with (first
    | (go_at_call 62; first | ((with_reducible refine (HP1_.out _).mono ?_); rintro e0 x0 ⟨rfl, ⟨⟨nq, rfl⟩⟩⟩) | ((with_reducible refine (HP2_.out _).mono ?_); rintro e0 x0 ⟨rfl, ⟨⟨nq2, rfl⟩⟩⟩))
    | (go_at_call 63; ((with_reducible refine (HRG.out _).mono ?_); rintro e1 x1 ⟨rfl, hx⟩; have HX := am_ (below_step (below_alloc (bd (Below.refl w1.heap.size w1) _) _) hx); clear hx))
    | ((with_reducible refine gate_dst (N := 24) rfl ?_); (refine pool_built (k := k) (n := n) rfl rfl rfl rfl rfl ?_))
    | ((with_reducible refine gate_store (t := 33) (p := 8) rfl ?_); (refine pool_store (q := Po.new ad po k n) rfl rfl rfl rfl rfl (HP1.out.below HX.out) Po.z_len (Po.new_len _ _ _ _) ?_; intro w9 hp9 hc9; have HP9 := am_ hp9; have HC9 := am_ hc9; clear hp9 hc9)))
  refine bodyPost_ret (results_ct_row rfl _ _ g8 33 (Po.new ad po k n).ag (0, 0) _ rfl HP9.out Tryz.underlying33 rfl (by rw [info34, Po.ag_size (Po.new_len _ _ _ _)])) rfl ⟨rfl, ?_⟩
  exact Chg.step (below_step HB1.out HX.out) HC9.out (by have := HLT.out; omega)
structure En where
  kind : Int
  slot : Int
  ad : Int
  po : Int
  we : Int
  key : Ky
/-- An entry of form: only its slot may be beyond the last one. -/
structure EnOk (e : En) : Prop where
  k1 : 1 ≤ e.kind
  k6 : e.kind ≤ 6
  s0 : 0 ≤ e.slot
  s1 : e.slot ≤ 1000
  rot : e.kind = 6 → e.slot = 0
  bind : e.kind = 1 → 0 ≤ e.ad ∧ e.ad ≤ 4294967295 ∧ 0 ≤ e.po ∧ e.po ≤ 65535 ∧ 1 ≤ e.we ∧ e.we ≤ 8
  zero : e.kind ≠ 1 → e.ad = 0 ∧ e.po = 0 ∧ e.we = 0
  nkey : e.kind ≠ 6 → e.key = ⟨0, 0⟩
theorem box_at (w : World) {g : Nat} (hg : w.heap.size = g) (A : Obj) : (w.alloc A).heap[g]? = some A ∧ Below w.heap.size w (w.alloc A) ∧ (w.alloc A).heap.size = g + 1 := by
  subst hg
  exact ⟨new_blk w A, below_alloc (Below.refl _ w) _, Array.size_push _⟩
theorem rcheck_1 (s a p we : Int) (h0 : 0 ≤ s) (hs : s ≤ 63) (ha0 : 0 ≤ a) (ha : a ≤ 4294967295) (hp0 : 0 ≤ p) (hp : p ≤ 65535) (hw0 : 1 ≤ we) (hw : we ≤ 8) (w : World) :
    Calls Tryz.prog 64 #[.agg #[.int .i64 1, .int .i64 s, .int .i64 a, .int .i64 p, .int .i64 we, .int .u64 0, .int .u64 0]] w fun e w' => e = .returned (.int .i64 0) ∧ Below w.heap.size w w' := by
  have HK := am_ (fun W => rout_calls 1 1 6 false (by decide) W)
  have HS := am_ (fun W => rout_calls s 0 63 false (by simp; omega) W)
  have HA := am_ (fun W => rout_calls a 0 4294967295 false (by simp; omega) W)
  have HP := am_ (fun W => rout_calls p 0 65535 false (by simp; omega) W)
  have HW := am_ (fun W => rout_calls we 1 8 false (by simp; omega) W)
  clear h0 hs ha0 ha hp0 hp hw0 hw
  obtain ⟨g, HG⟩ : ∃ g, w.heap.size = g := ⟨_, rfl⟩
  have hu30 := Tryz.underlying29
  go_enter Tryz.func64, Tryz.ntmps64
  go_upto_region 1 with fail
  refine wp_w (fun W => W.heap[g]? = some (.cells #[.int .i64 1, .int .i64 s, .int .i64 a, .int .i64 p, .int .i64 we, .int .u64 0, .int .u64 0] 72 (0, 0)) ∧ Below w.heap.size w W) ?_ ?_
  · exact ⟨(box_at w HG _).1, (box_at w HG _).2.1⟩
  intro w1 h1
  have HB1 := am_ h1.2
  obtain ⟨q0, q1, q2, q3, q4, q5, q6⟩ := c7 h1.1
  clear h1
  refine start_ (n := 8) (S := fun w' => w'.cell? ⟨g, 0, none⟩ = some (.int .i64 1)) (ds := []) #[fF,fF,fF,fF,fF,fF,fF,fF] (by kernel_rfl) rfl rfl (q0) (fun hHeld => ?_)
  refine p_ 0 5 ?_
  refine p_ 3 8 ?_
  refine t_ 1 6 hHeld ?_
  refine p_ 2 7 ?_
  refine p_ 6 3 ?_
  refine t_ 4 9 hHeld ?_
  refine p_ 5 10 ?_
  refine p_ 7 4 ?_
  refine done_ (by kernel_rfl) ?_
  go_wp2_with (first | (go_at_call 62; first | ((with_reducible refine (HK.out _).mono ?_); rintro e0 x0 ⟨rfl, ⟨⟨nqHK, rfl⟩⟩⟩) | ((with_reducible refine (HS.out _).mono ?_); rintro e0 x0 ⟨rfl, ⟨⟨nqHS, rfl⟩⟩⟩) | ((with_reducible refine (HA.out _).mono ?_); rintro e0 x0 ⟨rfl, ⟨⟨nqHA, rfl⟩⟩⟩) | ((with_reducible refine (HP.out _).mono ?_); rintro e0 x0 ⟨rfl, ⟨⟨nqHP, rfl⟩⟩⟩) | ((with_reducible refine (HW.out _).mono ?_); rintro e0 x0 ⟨rfl, ⟨⟨nqHW, rfl⟩⟩⟩)))
  go_ret
  exact ⟨rfl, by first | exact HB1.out.drew | exact bd HB1.out _ | exact (bd HB1.out _).drew | (rw [← HG]; exact bd HB1.out _)⟩
theorem rcheck_1b (s a p we : Int) (hs : 63 < s) (ha0 : 0 ≤ a) (ha : a ≤ 4294967295) (hp0 : 0 ≤ p) (hp : p ≤ 65535) (hw0 : 1 ≤ we) (hw : we ≤ 8) (w : World) :
    Calls Tryz.prog 64 #[.agg #[.int .i64 1, .int .i64 s, .int .i64 a, .int .i64 p, .int .i64 we, .int .u64 0, .int .u64 0]] w fun e w' => e = .returned (.int .i64 11) ∧ Below w.heap.size w w' := by
  have HK := am_ (fun W => rout_calls 1 1 6 false (by decide) W)
  have HS := am_ (fun W => rout_calls s 0 63 true (by simp; omega) W)
  have HA := am_ (fun W => rout_calls a 0 4294967295 false (by simp; omega) W)
  have HP := am_ (fun W => rout_calls p 0 65535 false (by simp; omega) W)
  have HW := am_ (fun W => rout_calls we 1 8 false (by simp; omega) W)
  clear hs ha0 ha hp0 hp hw0 hw
  obtain ⟨g, HG⟩ : ∃ g, w.heap.size = g := ⟨_, rfl⟩
  have hu30 := Tryz.underlying29
  go_enter Tryz.func64, Tryz.ntmps64
  go_upto_region 1 with fail
  refine wp_w (fun W => W.heap[g]? = some (.cells #[.int .i64 1, .int .i64 s, .int .i64 a, .int .i64 p, .int .i64 we, .int .u64 0, .int .u64 0] 72 (0, 0)) ∧ Below w.heap.size w W) ?_ ?_
  · exact ⟨(box_at w HG _).1, (box_at w HG _).2.1⟩
  intro w1 h1
  have HB1 := am_ h1.2
  obtain ⟨q0, q1, q2, q3, q4, q5, q6⟩ := c7 h1.1
  clear h1
  refine start_ (n := 8) (S := fun w' => w'.cell? ⟨g, 0, none⟩ = some (.int .i64 1)) (ds := []) #[fF,fF,fF,fF,fF,fF,fF,fF] (by kernel_rfl) rfl rfl (q0) (fun hHeld => ?_)
  refine p_ 0 5 ?_
  refine p_ 3 8 ?_
  refine t_ 1 6 hHeld ?_
  refine p_ 2 7 ?_
  refine p_ 6 3 ?_
  refine t_ 4 9 hHeld ?_
  refine p_ 5 10 ?_
  refine p_ 7 4 ?_
  refine done_ (by kernel_rfl) ?_
  go_wp2_with (first | (go_at_call 62; first | ((with_reducible refine (HK.out _).mono ?_); rintro e0 x0 ⟨rfl, ⟨⟨nqHK, rfl⟩⟩⟩) | ((with_reducible refine (HS.out _).mono ?_); rintro e0 x0 ⟨rfl, ⟨⟨nqHS, rfl⟩⟩⟩) | ((with_reducible refine (HA.out _).mono ?_); rintro e0 x0 ⟨rfl, ⟨⟨nqHA, rfl⟩⟩⟩) | ((with_reducible refine (HP.out _).mono ?_); rintro e0 x0 ⟨rfl, ⟨⟨nqHP, rfl⟩⟩⟩) | ((with_reducible refine (HW.out _).mono ?_); rintro e0 x0 ⟨rfl, ⟨⟨nqHW, rfl⟩⟩⟩)))
  go_ret
  exact ⟨rfl, by first | exact HB1.out.drew | exact bd HB1.out _ | exact (bd HB1.out _).drew | (rw [← HG]; exact bd HB1.out _)⟩
theorem rcheck_2 (s : Int) (h0 : 0 ≤ s) (hs : s ≤ 63) (w : World) :
    Calls Tryz.prog 64 #[.agg #[.int .i64 2, .int .i64 s, .int .i64 0, .int .i64 0, .int .i64 0, .int .u64 0, .int .u64 0]] w fun e w' => e = .returned (.int .i64 0) ∧ Below w.heap.size w w' := by
  have HK := am_ (fun W => rout_calls 2 1 6 false (by decide) W)
  have HS := am_ (fun W => rout_calls s 0 63 false (by simp; omega) W)
  clear h0 hs
  obtain ⟨g, HG⟩ : ∃ g, w.heap.size = g := ⟨_, rfl⟩
  have hu30 := Tryz.underlying29
  go_enter Tryz.func64, Tryz.ntmps64
  go_upto_region 1 with fail
  refine wp_w (fun W => W.heap[g]? = some (.cells #[.int .i64 2, .int .i64 s, .int .i64 0, .int .i64 0, .int .i64 0, .int .u64 0, .int .u64 0] 72 (0, 0)) ∧ Below w.heap.size w W) ?_ ?_
  · exact ⟨(box_at w HG _).1, (box_at w HG _).2.1⟩
  intro w1 h1
  have HB1 := am_ h1.2
  obtain ⟨q0, q1, q2, q3, q4, q5, q6⟩ := c7 h1.1
  clear h1
  refine start_ (n := 8) (S := fun w' => w'.cell? ⟨g, 0, none⟩ = some (.int .i64 2)) (ds := []) #[fF,fF,fF,fF,fF,fF,fF,fF] (by kernel_rfl) rfl rfl (q0) (fun hHeld => ?_)
  refine p_ 0 5 ?_
  refine p_ 3 8 ?_
  refine t_ 1 6 hHeld ?_
  refine p_ 2 7 ?_
  refine p_ 6 3 ?_
  refine t_ 4 9 hHeld ?_
  refine p_ 5 10 ?_
  refine p_ 7 4 ?_
  refine done_ (by kernel_rfl) ?_
  go_wp2_with (first | (go_at_call 62; first | ((with_reducible refine (HK.out _).mono ?_); rintro e0 x0 ⟨rfl, ⟨⟨nqHK, rfl⟩⟩⟩) | ((with_reducible refine (HS.out _).mono ?_); rintro e0 x0 ⟨rfl, ⟨⟨nqHS, rfl⟩⟩⟩)))
  go_ret
  exact ⟨rfl, by first | exact HB1.out.drew | exact bd HB1.out _ | exact (bd HB1.out _).drew | (rw [← HG]; exact bd HB1.out _)⟩
theorem rcheck_2b (s : Int) (hs : 63 < s) (w : World) :
    Calls Tryz.prog 64 #[.agg #[.int .i64 2, .int .i64 s, .int .i64 0, .int .i64 0, .int .i64 0, .int .u64 0, .int .u64 0]] w fun e w' => e = .returned (.int .i64 11) ∧ Below w.heap.size w w' := by
  have HK := am_ (fun W => rout_calls 2 1 6 false (by decide) W)
  have HS := am_ (fun W => rout_calls s 0 63 true (by simp; omega) W)
  clear hs
  obtain ⟨g, HG⟩ : ∃ g, w.heap.size = g := ⟨_, rfl⟩
  have hu30 := Tryz.underlying29
  go_enter Tryz.func64, Tryz.ntmps64
  go_upto_region 1 with fail
  refine wp_w (fun W => W.heap[g]? = some (.cells #[.int .i64 2, .int .i64 s, .int .i64 0, .int .i64 0, .int .i64 0, .int .u64 0, .int .u64 0] 72 (0, 0)) ∧ Below w.heap.size w W) ?_ ?_
  · exact ⟨(box_at w HG _).1, (box_at w HG _).2.1⟩
  intro w1 h1
  have HB1 := am_ h1.2
  obtain ⟨q0, q1, q2, q3, q4, q5, q6⟩ := c7 h1.1
  clear h1
  refine start_ (n := 8) (S := fun w' => w'.cell? ⟨g, 0, none⟩ = some (.int .i64 2)) (ds := []) #[fF,fF,fF,fF,fF,fF,fF,fF] (by kernel_rfl) rfl rfl (q0) (fun hHeld => ?_)
  refine p_ 0 5 ?_
  refine p_ 3 8 ?_
  refine t_ 1 6 hHeld ?_
  refine p_ 2 7 ?_
  refine p_ 6 3 ?_
  refine t_ 4 9 hHeld ?_
  refine p_ 5 10 ?_
  refine p_ 7 4 ?_
  refine done_ (by kernel_rfl) ?_
  go_wp2_with (first | (go_at_call 62; first | ((with_reducible refine (HK.out _).mono ?_); rintro e0 x0 ⟨rfl, ⟨⟨nqHK, rfl⟩⟩⟩) | ((with_reducible refine (HS.out _).mono ?_); rintro e0 x0 ⟨rfl, ⟨⟨nqHS, rfl⟩⟩⟩)))
  go_ret
  exact ⟨rfl, by first | exact HB1.out.drew | exact bd HB1.out _ | exact (bd HB1.out _).drew | (rw [← HG]; exact bd HB1.out _)⟩
theorem rcheck_3 (s : Int) (h0 : 0 ≤ s) (hs : s ≤ 63) (w : World) :
    Calls Tryz.prog 64 #[.agg #[.int .i64 3, .int .i64 s, .int .i64 0, .int .i64 0, .int .i64 0, .int .u64 0, .int .u64 0]] w fun e w' => e = .returned (.int .i64 0) ∧ Below w.heap.size w w' := by
  have HK := am_ (fun W => rout_calls 3 1 6 false (by decide) W)
  have HS := am_ (fun W => rout_calls s 0 63 false (by simp; omega) W)
  clear h0 hs
  obtain ⟨g, HG⟩ : ∃ g, w.heap.size = g := ⟨_, rfl⟩
  have hu30 := Tryz.underlying29
  go_enter Tryz.func64, Tryz.ntmps64
  go_upto_region 1 with fail
  refine wp_w (fun W => W.heap[g]? = some (.cells #[.int .i64 3, .int .i64 s, .int .i64 0, .int .i64 0, .int .i64 0, .int .u64 0, .int .u64 0] 72 (0, 0)) ∧ Below w.heap.size w W) ?_ ?_
  · exact ⟨(box_at w HG _).1, (box_at w HG _).2.1⟩
  intro w1 h1
  have HB1 := am_ h1.2
  obtain ⟨q0, q1, q2, q3, q4, q5, q6⟩ := c7 h1.1
  clear h1
  refine start_ (n := 8) (S := fun w' => w'.cell? ⟨g, 0, none⟩ = some (.int .i64 3)) (ds := []) #[fF,fF,fF,fF,fF,fF,fF,fF] (by kernel_rfl) rfl rfl (q0) (fun hHeld => ?_)
  refine p_ 0 5 ?_
  refine p_ 3 8 ?_
  refine t_ 1 6 hHeld ?_
  refine p_ 2 7 ?_
  refine p_ 6 3 ?_
  refine t_ 4 9 hHeld ?_
  refine p_ 5 10 ?_
  refine p_ 7 4 ?_
  refine done_ (by kernel_rfl) ?_
  go_wp2_with (first | (go_at_call 62; first | ((with_reducible refine (HK.out _).mono ?_); rintro e0 x0 ⟨rfl, ⟨⟨nqHK, rfl⟩⟩⟩) | ((with_reducible refine (HS.out _).mono ?_); rintro e0 x0 ⟨rfl, ⟨⟨nqHS, rfl⟩⟩⟩)))
  go_ret
  exact ⟨rfl, by first | exact HB1.out.drew | exact bd HB1.out _ | exact (bd HB1.out _).drew | (rw [← HG]; exact bd HB1.out _)⟩
theorem rcheck_3b (s : Int) (hs : 63 < s) (w : World) :
    Calls Tryz.prog 64 #[.agg #[.int .i64 3, .int .i64 s, .int .i64 0, .int .i64 0, .int .i64 0, .int .u64 0, .int .u64 0]] w fun e w' => e = .returned (.int .i64 11) ∧ Below w.heap.size w w' := by
  have HK := am_ (fun W => rout_calls 3 1 6 false (by decide) W)
  have HS := am_ (fun W => rout_calls s 0 63 true (by simp; omega) W)
  clear hs
  obtain ⟨g, HG⟩ : ∃ g, w.heap.size = g := ⟨_, rfl⟩
  have hu30 := Tryz.underlying29
  go_enter Tryz.func64, Tryz.ntmps64
  go_upto_region 1 with fail
  refine wp_w (fun W => W.heap[g]? = some (.cells #[.int .i64 3, .int .i64 s, .int .i64 0, .int .i64 0, .int .i64 0, .int .u64 0, .int .u64 0] 72 (0, 0)) ∧ Below w.heap.size w W) ?_ ?_
  · exact ⟨(box_at w HG _).1, (box_at w HG _).2.1⟩
  intro w1 h1
  have HB1 := am_ h1.2
  obtain ⟨q0, q1, q2, q3, q4, q5, q6⟩ := c7 h1.1
  clear h1
  refine start_ (n := 8) (S := fun w' => w'.cell? ⟨g, 0, none⟩ = some (.int .i64 3)) (ds := []) #[fF,fF,fF,fF,fF,fF,fF,fF] (by kernel_rfl) rfl rfl (q0) (fun hHeld => ?_)
  refine p_ 0 5 ?_
  refine p_ 3 8 ?_
  refine t_ 1 6 hHeld ?_
  refine p_ 2 7 ?_
  refine p_ 6 3 ?_
  refine t_ 4 9 hHeld ?_
  refine p_ 5 10 ?_
  refine p_ 7 4 ?_
  refine done_ (by kernel_rfl) ?_
  go_wp2_with (first | (go_at_call 62; first | ((with_reducible refine (HK.out _).mono ?_); rintro e0 x0 ⟨rfl, ⟨⟨nqHK, rfl⟩⟩⟩) | ((with_reducible refine (HS.out _).mono ?_); rintro e0 x0 ⟨rfl, ⟨⟨nqHS, rfl⟩⟩⟩)))
  go_ret
  exact ⟨rfl, by first | exact HB1.out.drew | exact bd HB1.out _ | exact (bd HB1.out _).drew | (rw [← HG]; exact bd HB1.out _)⟩
theorem rcheck_4 (s : Int) (h0 : 0 ≤ s) (hs : s ≤ 63) (w : World) :
    Calls Tryz.prog 64 #[.agg #[.int .i64 4, .int .i64 s, .int .i64 0, .int .i64 0, .int .i64 0, .int .u64 0, .int .u64 0]] w fun e w' => e = .returned (.int .i64 0) ∧ Below w.heap.size w w' := by
  have HK := am_ (fun W => rout_calls 4 1 6 false (by decide) W)
  have HS := am_ (fun W => rout_calls s 0 63 false (by simp; omega) W)
  clear h0 hs
  obtain ⟨g, HG⟩ : ∃ g, w.heap.size = g := ⟨_, rfl⟩
  have hu30 := Tryz.underlying29
  go_enter Tryz.func64, Tryz.ntmps64
  go_upto_region 1 with fail
  refine wp_w (fun W => W.heap[g]? = some (.cells #[.int .i64 4, .int .i64 s, .int .i64 0, .int .i64 0, .int .i64 0, .int .u64 0, .int .u64 0] 72 (0, 0)) ∧ Below w.heap.size w W) ?_ ?_
  · exact ⟨(box_at w HG _).1, (box_at w HG _).2.1⟩
  intro w1 h1
  have HB1 := am_ h1.2
  obtain ⟨q0, q1, q2, q3, q4, q5, q6⟩ := c7 h1.1
  clear h1
  refine start_ (n := 8) (S := fun w' => w'.cell? ⟨g, 0, none⟩ = some (.int .i64 4)) (ds := []) #[fF,fF,fF,fF,fF,fF,fF,fF] (by kernel_rfl) rfl rfl (q0) (fun hHeld => ?_)
  refine p_ 0 5 ?_
  refine p_ 3 8 ?_
  refine t_ 1 6 hHeld ?_
  refine p_ 2 7 ?_
  refine p_ 6 3 ?_
  refine t_ 4 9 hHeld ?_
  refine p_ 5 10 ?_
  refine p_ 7 4 ?_
  refine done_ (by kernel_rfl) ?_
  go_wp2_with (first | (go_at_call 62; first | ((with_reducible refine (HK.out _).mono ?_); rintro e0 x0 ⟨rfl, ⟨⟨nqHK, rfl⟩⟩⟩) | ((with_reducible refine (HS.out _).mono ?_); rintro e0 x0 ⟨rfl, ⟨⟨nqHS, rfl⟩⟩⟩)))
  go_ret
  exact ⟨rfl, by first | exact HB1.out.drew | exact bd HB1.out _ | exact (bd HB1.out _).drew | (rw [← HG]; exact bd HB1.out _)⟩
theorem rcheck_4b (s : Int) (hs : 63 < s) (w : World) :
    Calls Tryz.prog 64 #[.agg #[.int .i64 4, .int .i64 s, .int .i64 0, .int .i64 0, .int .i64 0, .int .u64 0, .int .u64 0]] w fun e w' => e = .returned (.int .i64 11) ∧ Below w.heap.size w w' := by
  have HK := am_ (fun W => rout_calls 4 1 6 false (by decide) W)
  have HS := am_ (fun W => rout_calls s 0 63 true (by simp; omega) W)
  clear hs
  obtain ⟨g, HG⟩ : ∃ g, w.heap.size = g := ⟨_, rfl⟩
  have hu30 := Tryz.underlying29
  go_enter Tryz.func64, Tryz.ntmps64
  go_upto_region 1 with fail
  refine wp_w (fun W => W.heap[g]? = some (.cells #[.int .i64 4, .int .i64 s, .int .i64 0, .int .i64 0, .int .i64 0, .int .u64 0, .int .u64 0] 72 (0, 0)) ∧ Below w.heap.size w W) ?_ ?_
  · exact ⟨(box_at w HG _).1, (box_at w HG _).2.1⟩
  intro w1 h1
  have HB1 := am_ h1.2
  obtain ⟨q0, q1, q2, q3, q4, q5, q6⟩ := c7 h1.1
  clear h1
  refine start_ (n := 8) (S := fun w' => w'.cell? ⟨g, 0, none⟩ = some (.int .i64 4)) (ds := []) #[fF,fF,fF,fF,fF,fF,fF,fF] (by kernel_rfl) rfl rfl (q0) (fun hHeld => ?_)
  refine p_ 0 5 ?_
  refine p_ 3 8 ?_
  refine t_ 1 6 hHeld ?_
  refine p_ 2 7 ?_
  refine p_ 6 3 ?_
  refine t_ 4 9 hHeld ?_
  refine p_ 5 10 ?_
  refine p_ 7 4 ?_
  refine done_ (by kernel_rfl) ?_
  go_wp2_with (first | (go_at_call 62; first | ((with_reducible refine (HK.out _).mono ?_); rintro e0 x0 ⟨rfl, ⟨⟨nqHK, rfl⟩⟩⟩) | ((with_reducible refine (HS.out _).mono ?_); rintro e0 x0 ⟨rfl, ⟨⟨nqHS, rfl⟩⟩⟩)))
  go_ret
  exact ⟨rfl, by first | exact HB1.out.drew | exact bd HB1.out _ | exact (bd HB1.out _).drew | (rw [← HG]; exact bd HB1.out _)⟩
theorem rcheck_5 (s : Int) (h0 : 0 ≤ s) (hs : s ≤ 63) (w : World) :
    Calls Tryz.prog 64 #[.agg #[.int .i64 5, .int .i64 s, .int .i64 0, .int .i64 0, .int .i64 0, .int .u64 0, .int .u64 0]] w fun e w' => e = .returned (.int .i64 0) ∧ Below w.heap.size w w' := by
  have HK := am_ (fun W => rout_calls 5 1 6 false (by decide) W)
  have HS := am_ (fun W => rout_calls s 0 63 false (by simp; omega) W)
  clear h0 hs
  obtain ⟨g, HG⟩ : ∃ g, w.heap.size = g := ⟨_, rfl⟩
  have hu30 := Tryz.underlying29
  go_enter Tryz.func64, Tryz.ntmps64
  go_upto_region 1 with fail
  refine wp_w (fun W => W.heap[g]? = some (.cells #[.int .i64 5, .int .i64 s, .int .i64 0, .int .i64 0, .int .i64 0, .int .u64 0, .int .u64 0] 72 (0, 0)) ∧ Below w.heap.size w W) ?_ ?_
  · exact ⟨(box_at w HG _).1, (box_at w HG _).2.1⟩
  intro w1 h1
  have HB1 := am_ h1.2
  obtain ⟨q0, q1, q2, q3, q4, q5, q6⟩ := c7 h1.1
  clear h1
  refine start_ (n := 8) (S := fun w' => w'.cell? ⟨g, 0, none⟩ = some (.int .i64 5)) (ds := []) #[fF,fF,fF,fF,fF,fF,fF,fF] (by kernel_rfl) rfl rfl (q0) (fun hHeld => ?_)
  refine p_ 0 5 ?_
  refine p_ 3 8 ?_
  refine t_ 1 6 hHeld ?_
  refine p_ 2 7 ?_
  refine p_ 6 3 ?_
  refine t_ 4 9 hHeld ?_
  refine p_ 5 10 ?_
  refine p_ 7 4 ?_
  refine done_ (by kernel_rfl) ?_
  go_wp2_with (first | (go_at_call 62; first | ((with_reducible refine (HK.out _).mono ?_); rintro e0 x0 ⟨rfl, ⟨⟨nqHK, rfl⟩⟩⟩) | ((with_reducible refine (HS.out _).mono ?_); rintro e0 x0 ⟨rfl, ⟨⟨nqHS, rfl⟩⟩⟩)))
  go_ret
  exact ⟨rfl, by first | exact HB1.out.drew | exact bd HB1.out _ | exact (bd HB1.out _).drew | (rw [← HG]; exact bd HB1.out _)⟩
theorem rcheck_5b (s : Int) (hs : 63 < s) (w : World) :
    Calls Tryz.prog 64 #[.agg #[.int .i64 5, .int .i64 s, .int .i64 0, .int .i64 0, .int .i64 0, .int .u64 0, .int .u64 0]] w fun e w' => e = .returned (.int .i64 11) ∧ Below w.heap.size w w' := by
  have HK := am_ (fun W => rout_calls 5 1 6 false (by decide) W)
  have HS := am_ (fun W => rout_calls s 0 63 true (by simp; omega) W)
  clear hs
  obtain ⟨g, HG⟩ : ∃ g, w.heap.size = g := ⟨_, rfl⟩
  have hu30 := Tryz.underlying29
  go_enter Tryz.func64, Tryz.ntmps64
  go_upto_region 1 with fail
  refine wp_w (fun W => W.heap[g]? = some (.cells #[.int .i64 5, .int .i64 s, .int .i64 0, .int .i64 0, .int .i64 0, .int .u64 0, .int .u64 0] 72 (0, 0)) ∧ Below w.heap.size w W) ?_ ?_
  · exact ⟨(box_at w HG _).1, (box_at w HG _).2.1⟩
  intro w1 h1
  have HB1 := am_ h1.2
  obtain ⟨q0, q1, q2, q3, q4, q5, q6⟩ := c7 h1.1
  clear h1
  refine start_ (n := 8) (S := fun w' => w'.cell? ⟨g, 0, none⟩ = some (.int .i64 5)) (ds := []) #[fF,fF,fF,fF,fF,fF,fF,fF] (by kernel_rfl) rfl rfl (q0) (fun hHeld => ?_)
  refine p_ 0 5 ?_
  refine p_ 3 8 ?_
  refine t_ 1 6 hHeld ?_
  refine p_ 2 7 ?_
  refine p_ 6 3 ?_
  refine t_ 4 9 hHeld ?_
  refine p_ 5 10 ?_
  refine p_ 7 4 ?_
  refine done_ (by kernel_rfl) ?_
  go_wp2_with (first | (go_at_call 62; first | ((with_reducible refine (HK.out _).mono ?_); rintro e0 x0 ⟨rfl, ⟨⟨nqHK, rfl⟩⟩⟩) | ((with_reducible refine (HS.out _).mono ?_); rintro e0 x0 ⟨rfl, ⟨⟨nqHS, rfl⟩⟩⟩)))
  go_ret
  exact ⟨rfl, by first | exact HB1.out.drew | exact bd HB1.out _ | exact (bd HB1.out _).drew | (rw [← HG]; exact bd HB1.out _)⟩
theorem rcheck_6 (x y : Int) (w : World) :
    Calls Tryz.prog 64 #[.agg #[.int .i64 6, .int .i64 0, .int .i64 0, .int .i64 0, .int .i64 0, .int .u64 x, .int .u64 y]] w fun e w' => e = .returned (.int .i64 0) ∧ Below w.heap.size w w' := by
  have HK := am_ (fun W => rout_calls 6 1 6 false (by decide) W)
  have HS := am_ (fun W => rout_calls 0 0 63 false (by decide) W)
  obtain ⟨g, HG⟩ : ∃ g, w.heap.size = g := ⟨_, rfl⟩
  have hu30 := Tryz.underlying29
  go_enter Tryz.func64, Tryz.ntmps64
  go_upto_region 1 with fail
  refine wp_w (fun W => W.heap[g]? = some (.cells #[.int .i64 6, .int .i64 0, .int .i64 0, .int .i64 0, .int .i64 0, .int .u64 x, .int .u64 y] 72 (0, 0)) ∧ Below w.heap.size w W) ?_ ?_
  · exact ⟨(box_at w HG _).1, (box_at w HG _).2.1⟩
  intro w1 h1
  have HB1 := am_ h1.2
  obtain ⟨q0, q1, q2, q3, q4, q5, q6⟩ := c7 h1.1
  clear h1
  refine start_ (n := 8) (S := fun w' => w'.cell? ⟨g, 0, none⟩ = some (.int .i64 6)) (ds := []) #[fF,fF,fF,fF,fF,fF,fF,fF] (by kernel_rfl) rfl rfl (q0) (fun hHeld => ?_)
  refine p_ 0 5 ?_
  refine p_ 3 8 ?_
  refine t_ 1 6 hHeld ?_
  refine p_ 2 7 ?_
  refine p_ 6 3 ?_
  refine t_ 4 9 hHeld ?_
  refine p_ 5 10 ?_
  refine p_ 7 4 ?_
  refine done_ (by kernel_rfl) ?_
  go_wp2_with (first | (go_at_call 62; first | ((with_reducible refine (HK.out _).mono ?_); rintro e0 x0 ⟨rfl, ⟨⟨nqHK, rfl⟩⟩⟩) | ((with_reducible refine (HS.out _).mono ?_); rintro e0 x0 ⟨rfl, ⟨⟨nqHS, rfl⟩⟩⟩)))
  go_ret
  exact ⟨rfl, by first | exact HB1.out.drew | exact bd HB1.out _ | exact (bd HB1.out _).drew | (rw [← HG]; exact bd HB1.out _)⟩
theorem rcheck_calls {e : En} (h : EnOk e) (w : World) :
    Calls Tryz.prog 64 #[.agg #[.int .i64 e.kind, .int .i64 e.slot, .int .i64 e.ad, .int .i64 e.po, .int .i64 e.we, .int .u64 e.key.a, .int .u64 e.key.b]] w fun e' w' => e' = .returned (.int .i64 (if 63 < e.slot then 11 else 0)) ∧ Below w.heap.size w w' := by
  obtain ⟨kind, slot, ad, po, we, ⟨x, y⟩⟩ := e
  obtain ⟨k1, k6, s0, s1, rot, bind, zero, nkey⟩ := h
  simp only at k1 k6 s0 s1 rot bind zero nkey ⊢
  by_cases hs : 63 < slot
  · rw [if_pos hs]
    have hk : kind = 1 ∨ kind = 2 ∨ kind = 3 ∨ kind = 4 ∨ kind = 5 := by
      by_cases h6 : kind = 6
      · have := rot h6; omega
      · omega
    rcases hk with rfl | rfl | rfl | rfl | rfl
    · obtain ⟨a, b, c, d, e, f⟩ := bind rfl
      obtain ⟨rfl, rfl⟩ := Ky.mk.inj (nkey (by decide))
      exact rcheck_1b slot ad po we hs a b c d e f w
    all_goals obtain ⟨rfl, rfl, rfl⟩ := zero (by decide)
    all_goals obtain ⟨rfl, rfl⟩ := Ky.mk.inj (nkey (by decide))
    · exact rcheck_2b slot hs w
    · exact rcheck_3b slot hs w
    · exact rcheck_4b slot hs w
    · exact rcheck_5b slot hs w
  · rw [if_neg hs]
    have hs' : slot ≤ 63 := by omega
    have hk : kind = 1 ∨ kind = 2 ∨ kind = 3 ∨ kind = 4 ∨ kind = 5 ∨ kind = 6 := by omega
    rcases hk with rfl | rfl | rfl | rfl | rfl | rfl
    · obtain ⟨a, b, c, d, e, f⟩ := bind rfl
      obtain ⟨rfl, rfl⟩ := Ky.mk.inj (nkey (by decide))
      exact rcheck_1 slot ad po we s0 hs' a b c d e f w
    all_goals obtain ⟨rfl, rfl, rfl⟩ := zero (by decide)
    · obtain ⟨rfl, rfl⟩ := Ky.mk.inj (nkey (by decide))
      exact rcheck_2 slot s0 hs' w
    · obtain ⟨rfl, rfl⟩ := Ky.mk.inj (nkey (by decide))
      exact rcheck_3 slot s0 hs' w
    · obtain ⟨rfl, rfl⟩ := Ky.mk.inj (nkey (by decide))
      exact rcheck_4 slot s0 hs' w
    · obtain ⟨rfl, rfl⟩ := Ky.mk.inj (nkey (by decide))
      exact rcheck_5 slot s0 hs' w
    · obtain rfl := rot rfl
      exact rcheck_6 x y w
def heldR (p : Po) (ad po : Int) : Nat → Nat → Bool
  | 0, _ => p.ad == ad && p.po == po
  | k + 1, i => if (p.s i).st ≠ 0 ∧ (p.s i).ad = ad ∧ (p.s i).po = po then true else heldR p ad po k (i + 1)
theorem held_calls (p : Po) (hl : p.sl.length = 64) (ad po : Int) (w : World) :
    Calls Tryz.prog 97 #[.agg p.ag, .int .i64 ad, .int .i64 po] w fun e w' => e = .returned (.bool (heldR p ad po 64 0)) ∧ Below w.heap.size w w' := by
  obtain ⟨R, hR⟩ : ∃ R, heldR p ad po 64 0 = R := ⟨_, rfl⟩
  rw [hR]
  have HR := am_ hR
  have HL := am_ hl
  clear hR hl
  go_enter Tryz.func97, Tryz.ntmps97
  go_upto_region 1 with (first | ((with_reducible refine gate_dst (N := 3) rfl ?_); (refine pool_box (p := p) rfl rfl rfl ?_; intro g hg w1 hp1 hb1 hs1; have HP1 := am_ hp1; have HB1 := am_ hb1; have HGE := am_ hg; clear hp1 hb1 hs1 hg)))
  go_wp2
  go_loopg [7] 64 (fun kq v7 w' => ∃ (i : Nat), v7 = .int .i64 (i : Int) ∧ Aside (kq + i = 64) ∧ Aside0 (heldR p ad po kq i = R) ∧ Aside0 (Below w1.heap.size w1 w'))
  case atStart => exact ⟨0, rfl, (by show _ = _; omega), HR, am_ (Below.refl _ w1)⟩
  case round =>
    obtain ⟨i, rfl, hk, HRI, HB⟩ := hrel
    have HKQ := am_ hk.out
    clear hk
    rename World => wr1
    have HPW := am_ (HP1.out.below HB.out)
    by_cases hlt : i < 64
    · have hd : decide (i < 64) = true := decide_eq_true hlt
      have hd2 : decide ((i : Int) < 64) = true := decide_eq_true (by omega)
      have HLT := am_ hlt
      have hi0 : (0 : Int) ≤ (i : Int) := by omega
      have hi1 : (i : Int) < 64 := by omega
      have HGK := am_ (show 0 < gk from by have := HKQ.out; omega)
      obtain ⟨c0, c1, c2, c3, c4⟩ := HPW.out.slot HL.out hlt
      obtain ⟨st, hst⟩ : ∃ x, (p.s i).st = x := ⟨_, rfl⟩
      obtain ⟨sa, hsa⟩ : ∃ x, (p.s i).ad = x := ⟨_, rfl⟩
      obtain ⟨sp, hsp⟩ : ∃ x, (p.s i).po = x := ⟨_, rfl⟩
      have HN := am_ (show (if st ≠ 0 ∧ sa = ad ∧ sp = po then true else heldR p ad po (gk - 1) (i + 1)) = R from by
        have h1 := HRI.out
        obtain ⟨m, hm⟩ : ∃ m, gk = m + 1 := ⟨gk - 1, by have := HGK.out; omega⟩
        rw [hm] at h1 ⊢
        rw [← hst, ← hsa, ← hsp]
        exact h1)
      rw [hst] at c0
      rw [hsa] at c1
      rw [hsp] at c2
      clear hst hsa hsp
      by_cases h0 : st = 0
      · have hb0 : (st == 0) = true := beq_iff_eq.mpr h0
        have hb1 : (st != 0) = false := bne_eq_false_iff_eq.mpr h0
        have HX := am_ (show heldR p ad po (gk - 1) (i + 1) = R from by have h1 := HN.out; rw [if_neg (by simp [h0])] at h1; exact h1)
        clear h0
        go_wp2
        go_roundg (gk - 1)
        case measure => have := HGK.out; omega
        case rel => exact ⟨i + 1, rfl, (by show _ = _; have := HKQ.out; have := HGK.out; omega), HX, am_ (below_alloc HB.out _)⟩
      · have hb0 : (st == 0) = false := beq_eq_false_iff_ne.mpr h0
        have hb1 : (st != 0) = true := bne_iff_ne.mpr h0
        by_cases h1 : sa = ad
        · have hb2 : (sa == ad) = true := beq_iff_eq.mpr h1
          by_cases h2 : sp = po
          · have hb3 : (sp == po) = true := beq_iff_eq.mpr h2
            have HX := am_ (show true = R from by have h3 := HN.out; rw [if_pos ⟨h0, h1, h2⟩] at h3; exact h3)
            clear h0 h1 h2
            go_wp2
            go_ret
            exact ⟨by rw [← HX.out]; rfl, by first | exact below_alloc (below_step HB1.out HB.out) _ | (rw [← HGE.out]; exact below_alloc (below_step HB1.out HB.out) _)⟩
          · have hb3 : (sp == po) = false := beq_eq_false_iff_ne.mpr h2
            have HX := am_ (show heldR p ad po (gk - 1) (i + 1) = R from by have h3 := HN.out; rw [if_neg (fun h => h2 h.2.2)] at h3; exact h3)
            clear h0 h1 h2
            go_wp2
            go_roundg (gk - 1)
            case measure => have := HGK.out; omega
            case rel => exact ⟨i + 1, rfl, (by show _ = _; have := HKQ.out; have := HGK.out; omega), HX, am_ (below_alloc HB.out _)⟩
        · have hb2 : (sa == ad) = false := beq_eq_false_iff_ne.mpr h1
          have HX := am_ (show heldR p ad po (gk - 1) (i + 1) = R from by have h3 := HN.out; rw [if_neg (fun h => h1 h.2.1)] at h3; exact h3)
          clear h0 h1
          go_wp2
          go_roundg (gk - 1)
          case measure => have := HGK.out; omega
          case rel => exact ⟨i + 1, rfl, (by show _ = _; have := HKQ.out; have := HGK.out; omega), HX, am_ (below_alloc HB.out _)⟩
    · have hd : decide (i < 64) = false := decide_eq_false hlt
      have hd2 : decide ((i : Int) < 64) = false := decide_eq_false (by omega)
      have hk0 : gk = 0 := by have := HKQ.out; omega
      have HX := am_ (show (p.ad == ad && p.po == po) = R from by have h1 := HRI.out; rw [hk0] at h1; exact h1)
      obtain ⟨c0, c1, c2⟩ := HPW.out.head
      clear hlt
      by_cases h1 : p.ad = ad
      · have hb2 : (p.ad == ad) = true := beq_iff_eq.mpr h1
        have HY := am_ (show (p.po == po) = R from by have h3 := HX.out; rw [hb2, Bool.true_and] at h3; exact h3)
        clear h1
        go_wp2
        go_ret
        exact ⟨by rw [← HY.out]; rfl, below_step HB1.out HB.out⟩
      · have hb2 : (p.ad == ad) = false := beq_eq_false_iff_ne.mpr h1
        have HY := am_ (show false = R from by have h3 := HX.out; rw [hb2, Bool.false_and] at h3; exact h3)
        clear h1
        go_wp2
        go_ret
        exact ⟨by rw [← HY.out]; rfl, below_step HB1.out HB.out⟩
def badR (p : Po) (k : Int) (i : Nat) (ad po : Int) : Bool :=
  if k = 1 then (if (p.s i).st = 0 then heldR p ad po 64 0 else true)
  else if k = 2 ∨ k = 4 then ((p.s i).st != 1 && (p.s i).st != 3)
  else if k = 3 then (p.s i).st != 2
  else if k = 5 then (p.s i).st != 4
  else false
theorem bad_1 (p : Po) (hl : p.sl.length = 64) (i : Nat) (hi : i < 64) (ad po we x y st : Int) (hst : (p.s i).st = st) (w : World) :
    Calls Tryz.prog 65 #[.agg p.ag, .agg #[.int .i64 1, .int .i64 (i : Int), .int .i64 ad, .int .i64 po, .int .i64 we, .int .u64 x, .int .u64 y]] w fun e w' => e = .returned (.bool (if st = 0 then heldR p ad po 64 0 else true)) ∧ Below w.heap.size w w' := by
  have HL := am_ hl
  have HI := am_ hi
  have hi0 : (0 : Int) ≤ (i : Int) := by omega
  have hi1 : (i : Int) < 64 := by omega
  have HH := am_ (fun W => held_calls p hl ad po W)
  have HST := am_ hst
  clear hl hst
  by_cases h0 : st = 0
  · rw [if_pos h0]
    have hb0 : (st == 0) = true := beq_iff_eq.mpr h0
    have hn0 : (st != 0) = false := bne_eq_false_iff_eq.mpr h0
    clear h0
    go_enter Tryz.func65, Tryz.ntmps65
    go_upto_region 1 with (first | ((with_reducible refine gate_dst (N := 2) rfl ?_); refine pool_box (p := p) rfl rfl rfl ?_; intro g hg w1 hp1 hb1 hs1; have HP1 := am_ hp1; have HB1 := am_ hb1; have HGE := am_ hg; clear hp1 hb1 hg))
    refine wp_w (fun W => W.heap[g + 1]? = some (.cells #[.int .i64 1, .int .i64 (i : Int), .int .i64 ad, .int .i64 po, .int .i64 we, .int .u64 x, .int .u64 y] 72 (0, 0)) ∧ Below w.heap.size w W ∧ PoolAt W g p) ?_ ?_
    · exact ⟨(box_at w1 hs1 _).1, below_step HB1.out (box_at w1 hs1 _).2.1, HP1.out.below (box_at w1 hs1 _).2.1⟩
    intro w2 h2
    have HB2 := am_ h2.2.1
    have HP2 := am_ h2.2.2
    obtain ⟨q0, q1, q2, q3, q4, q5, q6⟩ := c7 h2.1
    obtain ⟨c0, c1, c2, c3, c4⟩ := HP2.out.slot HL.out HI.out
    rw [HST.out] at c0
    clear h2 HB1 HP1 hs1
    go_wp2_with (first | ((with_reducible refine gate_dst (N := 19) rfl ?_); (try refine gate_guard rfl ?_); refine pool_load rfl rfl rfl HP2.out HL.out ?_) | (go_at_call 97; (with_reducible refine (HH.out _).mono ?_); rintro e1 x1 ⟨rfl, hx⟩; have HX := am_ (below_step HB2.out hx); clear hx))
    go_ret
    exact ⟨rfl, HX.out⟩
  · rw [if_neg h0]
    have hb0 : (st == 0) = false := beq_eq_false_iff_ne.mpr h0
    have hn0 : (st != 0) = true := bne_iff_ne.mpr h0
    clear h0
    go_enter Tryz.func65, Tryz.ntmps65
    go_upto_region 1 with (first | ((with_reducible refine gate_dst (N := 2) rfl ?_); refine pool_box (p := p) rfl rfl rfl ?_; intro g hg w1 hp1 hb1 hs1; have HP1 := am_ hp1; have HB1 := am_ hb1; have HGE := am_ hg; clear hp1 hb1 hg))
    refine wp_w (fun W => W.heap[g + 1]? = some (.cells #[.int .i64 1, .int .i64 (i : Int), .int .i64 ad, .int .i64 po, .int .i64 we, .int .u64 x, .int .u64 y] 72 (0, 0)) ∧ Below w.heap.size w W ∧ PoolAt W g p) ?_ ?_
    · exact ⟨(box_at w1 hs1 _).1, below_step HB1.out (box_at w1 hs1 _).2.1, HP1.out.below (box_at w1 hs1 _).2.1⟩
    intro w2 h2
    have HB2 := am_ h2.2.1
    have HP2 := am_ h2.2.2
    obtain ⟨q0, q1, q2, q3, q4, q5, q6⟩ := c7 h2.1
    obtain ⟨c0, c1, c2, c3, c4⟩ := HP2.out.slot HL.out HI.out
    rw [HST.out] at c0
    clear h2 HB1 HP1 hs1
    go_wp2
    go_ret
    exact ⟨rfl, by first | exact HB2.out | (rw [← HGE.out]; exact HB2.out)⟩
theorem bad_2 (p : Po) (hl : p.sl.length = 64) (i : Nat) (hi : i < 64) (ad po we x y st : Int) (hst : (p.s i).st = st) (w : World) :
    Calls Tryz.prog 65 #[.agg p.ag, .agg #[.int .i64 2, .int .i64 (i : Int), .int .i64 ad, .int .i64 po, .int .i64 we, .int .u64 x, .int .u64 y]] w fun e w' => e = .returned (.bool (st != 1 && st != 3)) ∧ Below w.heap.size w w' := by
  have HL := am_ hl
  have HI := am_ hi
  have hi0 : (0 : Int) ≤ (i : Int) := by omega
  have hi1 : (i : Int) < 64 := by omega
  have HH := am_ (fun W => held_calls p hl ad po W)
  have HST := am_ hst
  clear hl hst
  by_cases h1 : st = 1
  · have hb1 : (st == 1) = true := beq_iff_eq.mpr h1
    have hn1 : (st != 1) = false := bne_eq_false_iff_eq.mpr h1
    rw [hn1]
    clear h1
    go_enter Tryz.func65, Tryz.ntmps65
    go_upto_region 1 with (first | ((with_reducible refine gate_dst (N := 2) rfl ?_); refine pool_box (p := p) rfl rfl rfl ?_; intro g hg w1 hp1 hb1 hs1; have HP1 := am_ hp1; have HB1 := am_ hb1; have HGE := am_ hg; clear hp1 hb1 hg))
    refine wp_w (fun W => W.heap[g + 1]? = some (.cells #[.int .i64 2, .int .i64 (i : Int), .int .i64 ad, .int .i64 po, .int .i64 we, .int .u64 x, .int .u64 y] 72 (0, 0)) ∧ Below w.heap.size w W ∧ PoolAt W g p) ?_ ?_
    · exact ⟨(box_at w1 hs1 _).1, below_step HB1.out (box_at w1 hs1 _).2.1, HP1.out.below (box_at w1 hs1 _).2.1⟩
    intro w2 h2
    have HB2 := am_ h2.2.1
    have HP2 := am_ h2.2.2
    obtain ⟨q0, q1, q2, q3, q4, q5, q6⟩ := c7 h2.1
    obtain ⟨c0, c1, c2, c3, c4⟩ := HP2.out.slot HL.out HI.out
    rw [HST.out] at c0
    clear h2 HB1 HP1 hs1
    go_wp2
    go_ret
    exact ⟨rfl, by first | exact HB2.out | (rw [← HGE.out]; exact HB2.out)⟩
  · have hb1 : (st == 1) = false := beq_eq_false_iff_ne.mpr h1
    have hn1 : (st != 1) = true := bne_iff_ne.mpr h1
    rw [hn1]
    clear h1
    go_enter Tryz.func65, Tryz.ntmps65
    go_upto_region 1 with (first | ((with_reducible refine gate_dst (N := 2) rfl ?_); refine pool_box (p := p) rfl rfl rfl ?_; intro g hg w1 hp1 hb1 hs1; have HP1 := am_ hp1; have HB1 := am_ hb1; have HGE := am_ hg; clear hp1 hb1 hg))
    refine wp_w (fun W => W.heap[g + 1]? = some (.cells #[.int .i64 2, .int .i64 (i : Int), .int .i64 ad, .int .i64 po, .int .i64 we, .int .u64 x, .int .u64 y] 72 (0, 0)) ∧ Below w.heap.size w W ∧ PoolAt W g p) ?_ ?_
    · exact ⟨(box_at w1 hs1 _).1, below_step HB1.out (box_at w1 hs1 _).2.1, HP1.out.below (box_at w1 hs1 _).2.1⟩
    intro w2 h2
    have HB2 := am_ h2.2.1
    have HP2 := am_ h2.2.2
    obtain ⟨q0, q1, q2, q3, q4, q5, q6⟩ := c7 h2.1
    obtain ⟨c0, c1, c2, c3, c4⟩ := HP2.out.slot HL.out HI.out
    rw [HST.out] at c0
    clear h2 HB1 HP1 hs1
    go_wp2
    go_ret
    exact ⟨rfl, by first | exact HB2.out | (rw [← HGE.out]; exact HB2.out)⟩
theorem bad_3 (p : Po) (hl : p.sl.length = 64) (i : Nat) (hi : i < 64) (ad po we x y st : Int) (hst : (p.s i).st = st) (w : World) :
    Calls Tryz.prog 65 #[.agg p.ag, .agg #[.int .i64 3, .int .i64 (i : Int), .int .i64 ad, .int .i64 po, .int .i64 we, .int .u64 x, .int .u64 y]] w fun e w' => e = .returned (.bool (st != 2)) ∧ Below w.heap.size w w' := by
  have HL := am_ hl
  have HI := am_ hi
  have hi0 : (0 : Int) ≤ (i : Int) := by omega
  have hi1 : (i : Int) < 64 := by omega
  have HH := am_ (fun W => held_calls p hl ad po W)
  have HST := am_ hst
  clear hl hst
  go_enter Tryz.func65, Tryz.ntmps65
  go_upto_region 1 with (first | ((with_reducible refine gate_dst (N := 2) rfl ?_); refine pool_box (p := p) rfl rfl rfl ?_; intro g hg w1 hp1 hb1 hs1; have HP1 := am_ hp1; have HB1 := am_ hb1; have HGE := am_ hg; clear hp1 hb1 hg))
  refine wp_w (fun W => W.heap[g + 1]? = some (.cells #[.int .i64 3, .int .i64 (i : Int), .int .i64 ad, .int .i64 po, .int .i64 we, .int .u64 x, .int .u64 y] 72 (0, 0)) ∧ Below w.heap.size w W ∧ PoolAt W g p) ?_ ?_
  · exact ⟨(box_at w1 hs1 _).1, below_step HB1.out (box_at w1 hs1 _).2.1, HP1.out.below (box_at w1 hs1 _).2.1⟩
  intro w2 h2
  have HB2 := am_ h2.2.1
  have HP2 := am_ h2.2.2
  obtain ⟨q0, q1, q2, q3, q4, q5, q6⟩ := c7 h2.1
  obtain ⟨c0, c1, c2, c3, c4⟩ := HP2.out.slot HL.out HI.out
  rw [HST.out] at c0
  clear h2 HB1 HP1 hs1
  go_wp2
  go_ret
  exact ⟨rfl, by first | exact HB2.out | (rw [← HGE.out]; exact HB2.out)⟩
theorem bad_4 (p : Po) (hl : p.sl.length = 64) (i : Nat) (hi : i < 64) (ad po we x y st : Int) (hst : (p.s i).st = st) (w : World) :
    Calls Tryz.prog 65 #[.agg p.ag, .agg #[.int .i64 4, .int .i64 (i : Int), .int .i64 ad, .int .i64 po, .int .i64 we, .int .u64 x, .int .u64 y]] w fun e w' => e = .returned (.bool (st != 1 && st != 3)) ∧ Below w.heap.size w w' := by
  have HL := am_ hl
  have HI := am_ hi
  have hi0 : (0 : Int) ≤ (i : Int) := by omega
  have hi1 : (i : Int) < 64 := by omega
  have HH := am_ (fun W => held_calls p hl ad po W)
  have HST := am_ hst
  clear hl hst
  by_cases h1 : st = 1
  · have hb1 : (st == 1) = true := beq_iff_eq.mpr h1
    have hn1 : (st != 1) = false := bne_eq_false_iff_eq.mpr h1
    rw [hn1]
    clear h1
    go_enter Tryz.func65, Tryz.ntmps65
    go_upto_region 1 with (first | ((with_reducible refine gate_dst (N := 2) rfl ?_); refine pool_box (p := p) rfl rfl rfl ?_; intro g hg w1 hp1 hb1 hs1; have HP1 := am_ hp1; have HB1 := am_ hb1; have HGE := am_ hg; clear hp1 hb1 hg))
    refine wp_w (fun W => W.heap[g + 1]? = some (.cells #[.int .i64 4, .int .i64 (i : Int), .int .i64 ad, .int .i64 po, .int .i64 we, .int .u64 x, .int .u64 y] 72 (0, 0)) ∧ Below w.heap.size w W ∧ PoolAt W g p) ?_ ?_
    · exact ⟨(box_at w1 hs1 _).1, below_step HB1.out (box_at w1 hs1 _).2.1, HP1.out.below (box_at w1 hs1 _).2.1⟩
    intro w2 h2
    have HB2 := am_ h2.2.1
    have HP2 := am_ h2.2.2
    obtain ⟨q0, q1, q2, q3, q4, q5, q6⟩ := c7 h2.1
    obtain ⟨c0, c1, c2, c3, c4⟩ := HP2.out.slot HL.out HI.out
    rw [HST.out] at c0
    clear h2 HB1 HP1 hs1
    go_wp2
    go_ret
    exact ⟨rfl, by first | exact HB2.out | (rw [← HGE.out]; exact HB2.out)⟩
  · have hb1 : (st == 1) = false := beq_eq_false_iff_ne.mpr h1
    have hn1 : (st != 1) = true := bne_iff_ne.mpr h1
    rw [hn1]
    clear h1
    go_enter Tryz.func65, Tryz.ntmps65
    go_upto_region 1 with (first | ((with_reducible refine gate_dst (N := 2) rfl ?_); refine pool_box (p := p) rfl rfl rfl ?_; intro g hg w1 hp1 hb1 hs1; have HP1 := am_ hp1; have HB1 := am_ hb1; have HGE := am_ hg; clear hp1 hb1 hg))
    refine wp_w (fun W => W.heap[g + 1]? = some (.cells #[.int .i64 4, .int .i64 (i : Int), .int .i64 ad, .int .i64 po, .int .i64 we, .int .u64 x, .int .u64 y] 72 (0, 0)) ∧ Below w.heap.size w W ∧ PoolAt W g p) ?_ ?_
    · exact ⟨(box_at w1 hs1 _).1, below_step HB1.out (box_at w1 hs1 _).2.1, HP1.out.below (box_at w1 hs1 _).2.1⟩
    intro w2 h2
    have HB2 := am_ h2.2.1
    have HP2 := am_ h2.2.2
    obtain ⟨q0, q1, q2, q3, q4, q5, q6⟩ := c7 h2.1
    obtain ⟨c0, c1, c2, c3, c4⟩ := HP2.out.slot HL.out HI.out
    rw [HST.out] at c0
    clear h2 HB1 HP1 hs1
    go_wp2
    go_ret
    exact ⟨rfl, by first | exact HB2.out | (rw [← HGE.out]; exact HB2.out)⟩
theorem bad_5 (p : Po) (hl : p.sl.length = 64) (i : Nat) (hi : i < 64) (ad po we x y st : Int) (hst : (p.s i).st = st) (w : World) :
    Calls Tryz.prog 65 #[.agg p.ag, .agg #[.int .i64 5, .int .i64 (i : Int), .int .i64 ad, .int .i64 po, .int .i64 we, .int .u64 x, .int .u64 y]] w fun e w' => e = .returned (.bool (st != 4)) ∧ Below w.heap.size w w' := by
  have HL := am_ hl
  have HI := am_ hi
  have hi0 : (0 : Int) ≤ (i : Int) := by omega
  have hi1 : (i : Int) < 64 := by omega
  have HH := am_ (fun W => held_calls p hl ad po W)
  have HST := am_ hst
  clear hl hst
  go_enter Tryz.func65, Tryz.ntmps65
  go_upto_region 1 with (first | ((with_reducible refine gate_dst (N := 2) rfl ?_); refine pool_box (p := p) rfl rfl rfl ?_; intro g hg w1 hp1 hb1 hs1; have HP1 := am_ hp1; have HB1 := am_ hb1; have HGE := am_ hg; clear hp1 hb1 hg))
  refine wp_w (fun W => W.heap[g + 1]? = some (.cells #[.int .i64 5, .int .i64 (i : Int), .int .i64 ad, .int .i64 po, .int .i64 we, .int .u64 x, .int .u64 y] 72 (0, 0)) ∧ Below w.heap.size w W ∧ PoolAt W g p) ?_ ?_
  · exact ⟨(box_at w1 hs1 _).1, below_step HB1.out (box_at w1 hs1 _).2.1, HP1.out.below (box_at w1 hs1 _).2.1⟩
  intro w2 h2
  have HB2 := am_ h2.2.1
  have HP2 := am_ h2.2.2
  obtain ⟨q0, q1, q2, q3, q4, q5, q6⟩ := c7 h2.1
  obtain ⟨c0, c1, c2, c3, c4⟩ := HP2.out.slot HL.out HI.out
  rw [HST.out] at c0
  clear h2 HB1 HP1 hs1
  go_wp2
  go_ret
  exact ⟨rfl, by first | exact HB2.out | (rw [← HGE.out]; exact HB2.out)⟩
theorem bad_6 (p : Po) (hl : p.sl.length = 64) (i : Nat) (hi : i < 64) (ad po we x y st : Int) (hst : (p.s i).st = st) (w : World) :
    Calls Tryz.prog 65 #[.agg p.ag, .agg #[.int .i64 6, .int .i64 (i : Int), .int .i64 ad, .int .i64 po, .int .i64 we, .int .u64 x, .int .u64 y]] w fun e w' => e = .returned (.bool false) ∧ Below w.heap.size w w' := by
  have HL := am_ hl
  have HI := am_ hi
  have hi0 : (0 : Int) ≤ (i : Int) := by omega
  have hi1 : (i : Int) < 64 := by omega
  have HH := am_ (fun W => held_calls p hl ad po W)
  have HST := am_ hst
  clear hl hst
  go_enter Tryz.func65, Tryz.ntmps65
  go_upto_region 1 with (first | ((with_reducible refine gate_dst (N := 2) rfl ?_); refine pool_box (p := p) rfl rfl rfl ?_; intro g hg w1 hp1 hb1 hs1; have HP1 := am_ hp1; have HB1 := am_ hb1; have HGE := am_ hg; clear hp1 hb1 hg))
  refine wp_w (fun W => W.heap[g + 1]? = some (.cells #[.int .i64 6, .int .i64 (i : Int), .int .i64 ad, .int .i64 po, .int .i64 we, .int .u64 x, .int .u64 y] 72 (0, 0)) ∧ Below w.heap.size w W ∧ PoolAt W g p) ?_ ?_
  · exact ⟨(box_at w1 hs1 _).1, below_step HB1.out (box_at w1 hs1 _).2.1, HP1.out.below (box_at w1 hs1 _).2.1⟩
  intro w2 h2
  have HB2 := am_ h2.2.1
  have HP2 := am_ h2.2.2
  obtain ⟨q0, q1, q2, q3, q4, q5, q6⟩ := c7 h2.1
  obtain ⟨c0, c1, c2, c3, c4⟩ := HP2.out.slot HL.out HI.out
  rw [HST.out] at c0
  clear h2 HB1 HP1 hs1
  go_wp2
  go_ret
  exact ⟨rfl, by first | exact HB2.out | (rw [← HGE.out]; exact HB2.out)⟩
theorem rbad_calls (p : Po) (hl : p.sl.length = 64) (k : Int) (h1 : 1 ≤ k) (h6 : k ≤ 6) (i : Nat) (hi : i < 64) (ad po we x y : Int) (w : World) :
    Calls Tryz.prog 65 #[.agg p.ag, .agg #[.int .i64 k, .int .i64 (i : Int), .int .i64 ad, .int .i64 po, .int .i64 we, .int .u64 x, .int .u64 y]] w fun e w' => e = .returned (.bool (badR p k i ad po)) ∧ Below w.heap.size w w' := by
  have hk : k = 1 ∨ k = 2 ∨ k = 3 ∨ k = 4 ∨ k = 5 ∨ k = 6 := by omega
  rcases hk with rfl | rfl | rfl | rfl | rfl | rfl
  · exact bad_1 p hl i hi ad po we x y _ rfl w
  · exact bad_2 p hl i hi ad po we x y _ rfl w
  · exact bad_3 p hl i hi ad po we x y _ rfl w
  · exact bad_4 p hl i hi ad po we x y _ rfl w
  · exact bad_5 p hl i hi ad po we x y _ rfl w
  · exact bad_6 p hl i hi ad po we x y _ rfl w
/-- Apply's blocks: the pool (g), the entry (g + 1), the result (g + 2). -/
structure Ap (w0 W : World) (g : Nat) (p : Po) (e : Array Value) : Prop where
  pool : PoolAt W g p
  ent : W.heap[g + 1]? = some (.cells e 72 (0, 0))
  res : PoolAt W (g + 2) Po.z
  below : Below w0.heap.size w0 W
  lo : w0.heap.size ≤ g
theorem Ap.grow {w0 W W' : World} {g : Nat} {p : Po} {e : Array Value} (h : Ap w0 W g p e) (hb : Below W.heap.size W W') : Ap w0 W' g p e :=
  ⟨h.pool.below hb, bk_ h.ent hb, h.res.below hb, below_step h.below hb, h.lo⟩
theorem Ap.hi {w0 W : World} {g : Nat} {p : Po} {e : Array Value} (h : Ap w0 W g p e) : g + 2 < W.heap.size := blk_lt h.res
theorem Ap.drewN {w0 W : World} {g : Nat} {p : Po} {e : Array Value} (h : Ap w0 W g p e) (n : Nat) : Ap w0 (W.drewN n) g p e := h.grow (bd (Below.refl _ W) n)
theorem Ap.drew {w0 W : World} {g : Nat} {p : Po} {e : Array Value} (h : Ap w0 W g p e) : Ap w0 W.drew g p e := h.grow (Below.refl _ W).drew
theorem Ap.alloc {w0 W : World} {g : Nat} {p : Po} {e : Array Value} (h : Ap w0 W g p e) (o : Obj) : Ap w0 (W.alloc o) g p e := h.grow (below_alloc (Below.refl _ W) o)
theorem Ap.other {w0 W W' : World} {g b : Nat} {p : Po} {e : Array Value} (h : Ap w0 W g p e) (hc : Chg b W W') (hb : g + 2 < b) : Ap w0 W' g p e :=
  ⟨h.pool.chg hc (by omega), (hc.block _ (by omega)).trans h.ent, h.res.chg hc (by omega), Chg.step h.below hc (by have := h.lo; omega), h.lo⟩
theorem Ap.own {w0 W W' : World} {g : Nat} {p q : Po} {e : Array Value} (h : Ap w0 W g p e) (hc : Chg g W W') (hq : PoolAt W' g q) : Ap w0 W' g q e :=
  ⟨hq, (hc.block _ (by omega)).trans h.ent, h.res.chg hc (by omega), Chg.step h.below hc h.lo, h.lo⟩
theorem set5 {W : World} {b : Nat} {t : TypeId} {l : List Value} {o : Nat} (h : W.heap[b]? = some (.cells l.toArray t (0, 0))) (a0 a1 a2 a3 a4 : Value) :
    (((((W.setCell ⟨b, o, none⟩ a0).setCell ⟨b, o + 1, none⟩ a1).setCell ⟨b, o + 2, none⟩ a2).setCell ⟨b, o + 3, none⟩ a3).setCell ⟨b, o + 4, none⟩ a4).heap[b]? =
      some (.cells (((((l.toArray.setIfInBounds o a0).setIfInBounds (o + 1) a1).setIfInBounds (o + 2) a2).setIfInBounds (o + 3) a3).setIfInBounds (o + 4) a4) t (0, 0)) := by
  have st : ∀ (W : World) (l : Array Value) (k : Nat) (v : Value), W.heap[b]? = some (.cells l t (0, 0)) → (W.setCell ⟨b, k, none⟩ v).heap[b]? = some (.cells (l.setIfInBounds k v) t (0, 0)) :=
    fun W l k v hW => heap_setCell_same W b k _ t v hW
  exact st _ _ _ _ (st _ _ _ _ (st _ _ _ _ (st _ _ _ _ (st _ _ _ _ h))))
theorem PoolAt.put {W : World} {b : Nat} {p : Po} (h : PoolAt W b p) (hl : p.sl.length = 64) {i : Nat} (hi : i < 64) (s : Sl) :
    PoolAt (((((W.setCell ⟨b, 3 + i * 5, none⟩ (.int .i64 s.st)).setCell ⟨b, 3 + i * 5 + 1, none⟩ (.int .i64 s.ad)).setCell ⟨b, 3 + i * 5 + 2, none⟩ (.int .i64 s.po)).setCell ⟨b, 3 + i * 5 + 3, none⟩ (.int .i64 s.we)).setCell ⟨b, 3 + i * 5 + 4, none⟩ (.int .i64 s.si)) b (p.put i s) := by
  have e := set5 (l := p.cs) (o := 3 + i * 5) h (.int .i64 s.st) (.int .i64 s.ad) (.int .i64 s.po) (.int .i64 s.we) (.int .i64 s.si)
  have e2 := Po.ag_put hl hi s
  rw [Po.ag] at e2
  rw [e2] at e
  exact e
theorem PoolAt.setver {W : World} {b : Nat} {p : Po} (h : PoolAt W b p) (v : Int) : PoolAt (W.setCell ⟨b, 0, none⟩ (.int .i64 v)) b { p with ver := v } := by
  have e := heap_setCell_same W b 0 _ 33 (.int .i64 v) h
  rw [Po.ag_ver] at e
  exact e
theorem PoolAt.setring {W : World} {b : Nat} {p : Po} (h : PoolAt W b p) (hl : p.sl.length = 64) (ep : Int) (x y z : Ky) :
    PoolAt (((((((W.setCell ⟨b, 323, none⟩ (.int .i64 ep)).setCell ⟨b, 324, none⟩ (.int .u64 x.a)).setCell ⟨b, 325, none⟩ (.int .u64 x.b)).setCell ⟨b, 326, none⟩ (.int .u64 y.a)).setCell ⟨b, 327, none⟩ (.int .u64 y.b)).setCell ⟨b, 328, none⟩ (.int .u64 z.a)).setCell ⟨b, 329, none⟩ (.int .u64 z.b)) b (p.ring ep x y z) := by
  have st : ∀ (W : World) (l : Array Value) (k : Nat) (v : Value), W.heap[b]? = some (.cells l 33 (0, 0)) → (W.setCell ⟨b, k, none⟩ v).heap[b]? = some (.cells (l.setIfInBounds k v) 33 (0, 0)) :=
    fun W l k v hW => heap_setCell_same W b k _ 33 v hW
  have e := st _ _ 329 (.int .u64 z.b) (st _ _ 328 (.int .u64 z.a) (st _ _ 327 (.int .u64 y.b) (st _ _ 326 (.int .u64 y.a) (st _ _ 325 (.int .u64 x.b) (st _ _ 324 (.int .u64 x.a) (st _ _ 323 (.int .i64 ep) h))))))
  rw [Po.ag_ring hl] at e
  exact e
theorem chg5 (W : World) (b o : Nat) (a0 a1 a2 a3 a4 : Value) : Chg b W (((((W.setCell ⟨b, o, none⟩ a0).setCell ⟨b, o + 1, none⟩ a1).setCell ⟨b, o + 2, none⟩ a2).setCell ⟨b, o + 3, none⟩ a3).setCell ⟨b, o + 4, none⟩ a4) :=
  ((((((Chg.refl b W).set _ _).set _ _).set _ _).set _ _).set _ _)
theorem chg7 (W : World) (b : Nat) (a0 a1 a2 a3 a4 a5 a6 : Value) : Chg b W (((((((W.setCell ⟨b, 323, none⟩ a0).setCell ⟨b, 324, none⟩ a1).setCell ⟨b, 325, none⟩ a2).setCell ⟨b, 326, none⟩ a3).setCell ⟨b, 327, none⟩ a4).setCell ⟨b, 328, none⟩ a5).setCell ⟨b, 329, none⟩ a6) :=
  ((((((((Chg.refl b W).set _ _).set _ _).set _ _).set _ _).set _ _).set _ _).set _ _)
theorem c5 {w : World} {g t : Nat} {a0 a1 a2 a3 a4 : Value} (h : w.heap[g]? = some (.cells #[a0, a1, a2, a3, a4] t (0, 0))) : w.cell? ⟨g, 0, none⟩ = some a0 ∧ w.cell? ⟨g, 1, none⟩ = some a1 ∧ w.cell? ⟨g, 2, none⟩ = some a2 ∧ w.cell? ⟨g, 3, none⟩ = some a3 ∧ w.cell? ⟨g, 4, none⟩ = some a4 := by
  simp [World.cell?, h]
theorem rcheck_ok {k s ad po we x y : Int} (h : EnOk ⟨k, s, ad, po, we, ⟨x, y⟩⟩) (hs : s ≤ 63) (w : World) : Calls Tryz.prog 64 #[.agg #[.int .i64 k, .int .i64 s, .int .i64 ad, .int .i64 po, .int .i64 we, .int .u64 x, .int .u64 y]] w fun e' w' => e' = .returned (.int .i64 0) ∧ Below w.heap.size w w' := by
  have := rcheck_calls h w
  rw [if_neg (by show ¬ 63 < s; omega)] at this
  exact this
theorem rcheck_no {k s ad po we x y : Int} (h : EnOk ⟨k, s, ad, po, we, ⟨x, y⟩⟩) (hs : 63 < s) (w : World) : Calls Tryz.prog 64 #[.agg #[.int .i64 k, .int .i64 s, .int .i64 ad, .int .i64 po, .int .i64 we, .int .u64 x, .int .u64 y]] w fun e' w' => e' = .returned (.int .i64 11) ∧ Below w.heap.size w w' := by
  have := rcheck_calls h w
  rw [if_pos (show 63 < s from hs)] at this
  exact this
theorem f5 {w : World} {g t : Nat} {cs : Array Value} (h : w.heap[g]? = some (.cells cs t (0, 0))) (o : Nat) : w.frozen? ⟨g, o, none⟩ = false ∧ w.frozen? ⟨g, o + 1, none⟩ = false ∧ w.frozen? ⟨g, o + 2, none⟩ = false ∧ w.frozen? ⟨g, o + 3, none⟩ = false ∧ w.frozen? ⟨g, o + 4, none⟩ = false :=
  ⟨fr_ h _, fr_ h _, fr_ h _, fr_ h _, fr_ h _⟩
theorem apply_slot (p : Po) (hl : p.sl.length = 64) (k s ad po we x y : Int) (hk : EnOk ⟨k, s, ad, po, we, ⟨x, y⟩⟩) (hs : 63 < s) (w : World) :
    Calls Tryz.prog 24 #[.agg p.ag, .agg #[.int .i64 k, .int .i64 s, .int .i64 ad, .int .i64 po, .int .i64 we, .int .u64 x, .int .u64 y]] w fun e w' => e = .returned (.tuple #[.agg Po.z.ag, .int .i64 11]) ∧ Below w.heap.size w w' := by
  have HL := am_ hl
  have HCK := am_ (fun W => rcheck_no hk hs W)
  clear hk hs
  go_enter Tryz.func24, Tryz.ntmps24
  go_upto_region 1 with (first
    | ((with_reducible refine gate_dst (N := 2) rfl ?_); refine pool_box (p := p) rfl rfl rfl ?_; intro g hg w1 hp1 hb1 hs1; have HP1 := am_ hp1; have HB1 := am_ hb1; have HGE := am_ hg; clear hp1 hb1 hg)
    | ((with_reducible refine gate_dst (N := 4) rfl ?_); refine pool_alloc rfl rfl ?_; intro g4 hg4 w4 hp4 hb4 hs4; have HP4 := am_ hp4; have HB4 := am_ hb4; have HG4 := am_ hg4; clear hp4 hb4 hs4 hg4))
  obtain rfl : g4 = g + 2 := by rw [← HG4.out, (box_at w1 hs1 _).2.2]
  refine wp_w (fun W => Ap w W g p #[.int .i64 k, .int .i64 s, .int .i64 ad, .int .i64 po, .int .i64 we, .int .u64 x, .int .u64 y]) ?_ ?_
  · exact ⟨(HP1.out.below (box_at w1 hs1 _).2.1).below HB4.out, bk_ (box_at w1 hs1 _).1 HB4.out, HP4.out, below_step (below_step HB1.out (box_at w1 hs1 _).2.1) HB4.out, Nat.le_of_eq HGE.out⟩
  intro w2 h2
  have HA2 := am_ h2
  obtain ⟨q0, q1, q2, q3, q4, q5, q6⟩ := c7 h2.ent
  clear h2 HB1 HP1 hs1 HP4 HB4 HG4
  go_wp2_with (first
    | ((with_reducible refine gate_dst (N := 12) rfl ?_); refine pool_zero rfl rfl ?_)
    | ((with_reducible refine gate_store (t := 33) (p := 4) rfl ?_); refine pool_store (q := Po.z) rfl rfl rfl rfl rfl HA3.out.res Po.z_len Po.z_len ?_; intro w9 hp9 hc9; have HP9 := am_ hp9; have HC9 := am_ hc9; clear hp9 hc9)
    | (go_at_call 64; (with_reducible refine (HCK.out _).mono ?_); rintro e1 x1 ⟨rfl, hx⟩; have HA3 := am_ (HA2.out.grow hx); clear hx))
  refine bodyPost_ret (results_ct_row rfl _ _ (g + 2) 33 Po.z.ag (0, 0) _ rfl HP9.out Tryz.underlying33 rfl (by rw [info34, Po.ag_size Po.z_len])) rfl ⟨rfl, ?_⟩
  exact Chg.step HA3.out.below HC9.out (by have := HA3.out.lo; omega)
theorem apply_bad (p : Po) (hl : p.sl.length = 64) (k : Int) (i : Nat) (hi : i < 64) (ad po we x y : Int) (hk : EnOk ⟨k, (i : Int), ad, po, we, ⟨x, y⟩⟩) (hb : badR p k i ad po = true) (w : World) :
    Calls Tryz.prog 24 #[.agg p.ag, .agg #[.int .i64 k, .int .i64 (i : Int), .int .i64 ad, .int .i64 po, .int .i64 we, .int .u64 x, .int .u64 y]] w fun e w' => e = .returned (.tuple #[.agg Po.z.ag, .int .i64 12]) ∧ Below w.heap.size w w' := by
  have HL := am_ hl
  have HCK := am_ (fun W => rcheck_ok hk (by omega) W)
  have HBD := am_ (fun W => hb ▸ rbad_calls p hl k hk.k1 hk.k6 i hi ad po we x y W)
  clear hk hb
  go_enter Tryz.func24, Tryz.ntmps24
  go_upto_region 1 with (first
    | ((with_reducible refine gate_dst (N := 2) rfl ?_); refine pool_box (p := p) rfl rfl rfl ?_; intro g hg w1 hp1 hb1 hs1; have HP1 := am_ hp1; have HB1 := am_ hb1; have HGE := am_ hg; clear hp1 hb1 hg)
    | ((with_reducible refine gate_dst (N := 4) rfl ?_); refine pool_alloc rfl rfl ?_; intro g4 hg4 w4 hp4 hb4 hs4; have HP4 := am_ hp4; have HB4 := am_ hb4; have HG4 := am_ hg4; clear hp4 hb4 hs4 hg4))
  obtain rfl : g4 = g + 2 := by rw [← HG4.out, (box_at w1 hs1 _).2.2]
  refine wp_w (fun W => Ap w W g p #[.int .i64 k, .int .i64 (i : Int), .int .i64 ad, .int .i64 po, .int .i64 we, .int .u64 x, .int .u64 y]) ?_ ?_
  · exact ⟨(HP1.out.below (box_at w1 hs1 _).2.1).below HB4.out, bk_ (box_at w1 hs1 _).1 HB4.out, HP4.out, below_step (below_step HB1.out (box_at w1 hs1 _).2.1) HB4.out, Nat.le_of_eq HGE.out⟩
  intro w2 h2
  have HA2 := am_ h2
  obtain ⟨q0, q1, q2, q3, q4, q5, q6⟩ := c7 h2.ent
  clear h2 HB1 HP1 hs1 HP4 HB4 HG4
  go_wp2_with (first
    | ((with_reducible refine gate_dst (N := 17) rfl ?_); refine pool_zero rfl rfl ?_)
    | ((with_reducible refine gate_store (t := 33) (p := 4) rfl ?_); refine pool_store (q := Po.z) rfl rfl rfl rfl rfl HA4.out.res Po.z_len Po.z_len ?_; intro w9 hp9 hc9; have HP9 := am_ hp9; have HC9 := am_ hc9; clear hp9 hc9)
    | (go_at_call 64; (with_reducible refine (HCK.out _).mono ?_); rintro e1 x1 ⟨rfl, hx⟩; have HA3 := am_ (HA2.out.grow hx); obtain ⟨q0, q1, q2, q3, q4, q5, q6⟩ := c7 HA3.out.ent; clear hx)
    | ((with_reducible refine gate_dst (N := 14) rfl ?_); refine pool_load rfl rfl rfl HA3.out.pool HL.out ?_)
    | (go_at_call 65; (with_reducible refine (HBD.out _).mono ?_); rintro e2 x2 ⟨rfl, hx⟩; have HA4 := am_ (HA3.out.grow hx); clear hx))
  refine bodyPost_ret (results_ct_row rfl _ _ (g + 2) 33 Po.z.ag (0, 0) _ rfl HP9.out Tryz.underlying33 rfl (by rw [info34, Po.ag_size Po.z_len])) rfl ⟨rfl, ?_⟩
  exact Chg.step HA4.out.below HC9.out (by have := HA4.out.lo; omega)
theorem apply_soon (p : Po) (hl : p.sl.length = 64) (i : Nat) (hi : i < 64) (ad po we x y : Int) (hk : EnOk ⟨5, (i : Int), ad, po, we, ⟨x, y⟩⟩) (hb : badR p 5 i ad po = false) (hs : p.ep < wrap64 ((p.s i).si + 3)) (w : World) :
    Calls Tryz.prog 24 #[.agg p.ag, .agg #[.int .i64 5, .int .i64 (i : Int), .int .i64 ad, .int .i64 po, .int .i64 we, .int .u64 x, .int .u64 y]] w fun e w' => e = .returned (.tuple #[.agg Po.z.ag, .int .i64 13]) ∧ Below w.heap.size w w' := by
  have HL := am_ hl
  have HCK := am_ (fun W => rcheck_ok hk (by omega) W)
  have HBD := am_ (fun W => hb ▸ rbad_calls p hl 5 hk.k1 hk.k6 i hi ad po we x y W)
  have HI := am_ hi
  obtain ⟨ep, hep⟩ : ∃ x, p.ep = x := ⟨_, rfl⟩
  obtain ⟨⟨s0, s1, s2, s3, s4⟩, hss⟩ : ∃ x, p.s i = x := ⟨_, rfl⟩
  have HEP := am_ hep
  have HSS := am_ hss
  rw [hep, hss] at hs
  have hi0 : (0 : Int) ≤ (i : Int) := by omega
  have hi1 : (i : Int) < 64 := by omega
  have hd : decide (ep < wrap64 (s4 + 3)) = true := decide_eq_true hs
  clear hk hb hep hss hs
  go_enter Tryz.func24, Tryz.ntmps24
  go_upto_region 1 with (first
    | ((with_reducible refine gate_dst (N := 2) rfl ?_); refine pool_box (p := p) rfl rfl rfl ?_; intro g hg w1 hp1 hb1 hs1; have HP1 := am_ hp1; have HB1 := am_ hb1; have HGE := am_ hg; clear hp1 hb1 hg)
    | ((with_reducible refine gate_dst (N := 4) rfl ?_); refine pool_alloc rfl rfl ?_; intro g4 hg4 w4 hp4 hb4 hs4; have HP4 := am_ hp4; have HB4 := am_ hb4; have HG4 := am_ hg4; clear hp4 hb4 hs4 hg4))
  obtain rfl : g4 = g + 2 := by rw [← HG4.out, (box_at w1 hs1 _).2.2]
  refine wp_w (fun W => Ap w W g p #[.int .i64 5, .int .i64 (i : Int), .int .i64 ad, .int .i64 po, .int .i64 we, .int .u64 x, .int .u64 y]) ?_ ?_
  · exact ⟨(HP1.out.below (box_at w1 hs1 _).2.1).below HB4.out, bk_ (box_at w1 hs1 _).1 HB4.out, HP4.out, below_step (below_step HB1.out (box_at w1 hs1 _).2.1) HB4.out, Nat.le_of_eq HGE.out⟩
  intro w2 h2
  have HA2 := am_ h2
  obtain ⟨q0, q1, q2, q3, q4, q5, q6⟩ := c7 h2.ent
  clear h2 HB1 HP1 hs1 HP4 HB4 HG4
  go_upto_region 6 with (first
    | (go_at_call 64; (with_reducible refine (HCK.out _).mono ?_); rintro e1 x1 ⟨rfl, hx⟩; have HA3 := am_ (HA2.out.grow hx); obtain ⟨q0, q1, q2, q3, q4, q5, q6⟩ := c7 HA3.out.ent; clear hx)
    | ((with_reducible refine gate_dst (N := 14) rfl ?_); refine pool_load rfl rfl rfl HA3.out.pool HL.out ?_)
    | (go_at_call 65; (with_reducible refine (HBD.out _).mono ?_); rintro e2 x2 ⟨rfl, hx⟩; have HA4 := am_ (HA3.out.grow hx); clear hx))
  refine wp_w (fun W => Ap w W g p #[.int .i64 5, .int .i64 (i : Int), .int .i64 ad, .int .i64 po, .int .i64 we, .int .u64 x, .int .u64 y]) ?_ ?_
  · first | exact HA4.out | exact HA4.out.drew
  intro w5 h5
  have HA5 := am_ h5
  clear h5 HA2 HA3 HA4 q0 q1 q2 q3 q4 q5 q6
  obtain ⟨q0, q1, q2, q3, q4, q5, q6⟩ := c7 HA5.out.ent
  obtain ⟨r0, r1, r2, r3, r4, r5, r6⟩ := HA5.out.pool.ring HL.out
  obtain ⟨c0, c1, c2, c3, c4⟩ := HA5.out.pool.slot HL.out HI.out
  rw [show p.s i = ⟨s0, s1, s2, s3, s4⟩ from HSS.out] at c0 c1 c2 c3 c4
  rw [show p.ep = ep from HEP.out] at r0
  refine start_ (n := 16) (S := fun w' => w'.cell? ⟨g + 1, 0, none⟩ = some (.int .i64 5) ∧ w'.cell? ⟨g + 1, 1, none⟩ = some (.int .i64 (i : Int)) ∧ w'.cell? ⟨g, 323, none⟩ = some (.int .i64 ep) ∧ w'.cell? ⟨g, 3 + i * 5 + 4, none⟩ = some (.int .i64 s4)) (ds := []) #[fF,fF,fF,fF,fF,fF,fF,fF,fF,fF,fF,fF,fF,fF,fF,fF] (by kernel_rfl) rfl rfl ⟨q0, q1, r0, c4⟩ (fun hHeld => ?_)
  refine p_ 0 18 ?_
  refine t_ 1 19 hHeld ?_
  refine p_ 2 20 ?_
  refine p_ 3 21 ?_
  refine p_ 4 22 ?_
  refine p_ 5 23 ?_
  refine p_ 7 25 ?_
  refine p_ 9 27 ?_
  refine t_ 6 24 hHeld ?_
  refine t_ 8 26 hHeld ?_
  refine p_ 10 28 ?_
  refine p_ 11 29 ?_
  refine t_ 12 30 hHeld ?_
  refine p_ 13 31 ?_
  refine p_ 14 32 ?_
  refine p_ 15 33 ?_
  refine done_ (by kernel_rfl) ?_
  have HA6 := am_ HA5.out.drew
  go_wp2_with (first
    | ((with_reducible refine gate_dst (N := 34) rfl ?_); refine pool_zero rfl rfl ?_)
    | ((with_reducible refine gate_store (t := 33) (p := 4) rfl ?_); refine pool_store (q := Po.z) rfl rfl rfl rfl rfl HA6.out.res Po.z_len Po.z_len ?_; intro w9 hp9 hc9; have HP9 := am_ hp9; have HC9 := am_ hc9; clear hp9 hc9))
  refine bodyPost_ret (results_ct_row rfl _ _ (g + 2) 33 Po.z.ag (0, 0) _ rfl HP9.out Tryz.underlying33 rfl (by rw [info34, Po.ag_size Po.z_len])) rfl ⟨rfl, ?_⟩
  exact Chg.step HA6.out.below HC9.out (by have := HA6.out.lo; omega)
theorem apply_1 (p : Po) (hl : p.sl.length = 64) (i : Nat) (hi : i < 64) (ad po we x y : Int) (hk : EnOk ⟨1, (i : Int), ad, po, we, ⟨x, y⟩⟩) (hb : badR p 1 i ad po = false) (ep s0 s1 s2 s3 s4 : Int) (hep : p.ep = ep) (hss : p.s i = ⟨s0, s1, s2, s3, s4⟩) (w : World) :
    Calls Tryz.prog 24 #[.agg p.ag, .agg #[.int .i64 1, .int .i64 (i : Int), .int .i64 ad, .int .i64 po, .int .i64 we, .int .u64 x, .int .u64 y]] w fun e w' => e = .returned (.tuple #[.agg (({ p with ver := wrap64 (p.ver + 1) } : Po).put i ⟨1, ad, po, we, 0⟩).ag, .int .i64 0]) ∧ Below w.heap.size w w' := by
  have HL := am_ hl
  have HCK := am_ (fun W => rcheck_ok hk (by omega) W)
  have HBD := am_ (fun W => hb ▸ rbad_calls p hl 1 hk.k1 hk.k6 i hi ad po we x y W)
  have HI := am_ hi
  have HEP := am_ hep
  have HSS := am_ hss
  have hi0 : (0 : Int) ≤ (i : Int) := by omega
  have hi1 : (i : Int) < 64 := by omega
  clear hk hb hep hss
  go_enter Tryz.func24, Tryz.ntmps24
  go_upto_region 1 with (first
    | ((with_reducible refine gate_dst (N := 2) rfl ?_); refine pool_box (p := p) rfl rfl rfl ?_; intro g hg w1 hp1 hb1 hs1; have HP1 := am_ hp1; have HB1 := am_ hb1; have HGE := am_ hg; clear hp1 hb1 hg)
    | ((with_reducible refine gate_dst (N := 4) rfl ?_); refine pool_alloc rfl rfl ?_; intro g4 hg4 w4 hp4 hb4 hs4; have HP4 := am_ hp4; have HB4 := am_ hb4; have HG4 := am_ hg4; clear hp4 hb4 hs4 hg4))
  obtain rfl : g4 = g + 2 := by rw [← HG4.out, (box_at w1 hs1 _).2.2]
  refine wp_w (fun W => Ap w W g p #[.int .i64 1, .int .i64 (i : Int), .int .i64 ad, .int .i64 po, .int .i64 we, .int .u64 x, .int .u64 y]) ?_ ?_
  · exact ⟨(HP1.out.below (box_at w1 hs1 _).2.1).below HB4.out, bk_ (box_at w1 hs1 _).1 HB4.out, HP4.out, below_step (below_step HB1.out (box_at w1 hs1 _).2.1) HB4.out, Nat.le_of_eq HGE.out⟩
  intro w2 h2
  have HA2 := am_ h2
  obtain ⟨q0, q1, q2, q3, q4, q5, q6⟩ := c7 h2.ent
  clear h2 HB1 HP1 hs1 HP4 HB4 HG4
  go_upto_region 6 with (first
    | (go_at_call 64; (with_reducible refine (HCK.out _).mono ?_); rintro e1 x1 ⟨rfl, hx⟩; have HA3 := am_ (HA2.out.grow hx); obtain ⟨q0, q1, q2, q3, q4, q5, q6⟩ := c7 HA3.out.ent; clear hx)
    | ((with_reducible refine gate_dst (N := 14) rfl ?_); refine pool_load rfl rfl rfl HA3.out.pool HL.out ?_)
    | (go_at_call 65; (with_reducible refine (HBD.out _).mono ?_); rintro e2 x2 ⟨rfl, hx⟩; have HA4 := am_ (HA3.out.grow hx); clear hx))
  refine wp_w (fun W => Ap w W g p #[.int .i64 1, .int .i64 (i : Int), .int .i64 ad, .int .i64 po, .int .i64 we, .int .u64 x, .int .u64 y]) ?_ ?_
  · first | exact HA4.out | exact HA4.out.drew
  intro w5 h5
  have HA5 := am_ h5
  clear h5 HA2 HA3 HA4 q0 q1 q2 q3 q4 q5 q6
  obtain ⟨q0, q1, q2, q3, q4, q5, q6⟩ := c7 HA5.out.ent
  obtain ⟨r0, r1, r2, r3, r4, r5, r6⟩ := HA5.out.pool.ring HL.out
  obtain ⟨c0, c1, c2, c3, c4⟩ := HA5.out.pool.slot HL.out HI.out
  rw [show p.s i = ⟨s0, s1, s2, s3, s4⟩ from HSS.out] at c0 c1 c2 c3 c4
  rw [show p.ep = ep from HEP.out] at r0
  refine start_ (n := 16) (S := fun w' => w'.cell? ⟨g + 1, 0, none⟩ = some (.int .i64 1)) (ds := []) #[fF,fF,fF,fF,fF,fF,fF,fF,fF,fF,fF,fF,fF,fF,fF,fF] (by kernel_rfl) rfl rfl (q0) (fun hHeld => ?_)
  refine p_ 0 18 ?_
  refine t_ 1 19 hHeld ?_
  refine p_ 2 20 ?_
  refine p_ 3 21 ?_
  refine u_ 4 22 ?_
  refine u_ 5 23 ?_
  refine u_ 6 24 ?_
  refine u_ 7 25 ?_
  refine u_ 8 26 ?_
  refine u_ 9 27 ?_
  refine u_ 10 28 ?_
  refine u_ 11 29 ?_
  refine u_ 12 30 ?_
  refine u_ 13 31 ?_
  refine u_ 14 32 ?_
  refine p_ 15 33 ?_
  refine done_ (by kernel_rfl) ?_
  obtain ⟨h0, h1, h2⟩ := HA5.out.pool.head
  have fr0 := HA5.out.pool.free 0
  go_upto_region 9 with fail
  refine wp_w (fun W => Ap w W g ({ p with ver := wrap64 (p.ver + 1) } : Po) #[.int .i64 1, .int .i64 (i : Int), .int .i64 ad, .int .i64 po, .int .i64 we, .int .u64 x, .int .u64 y]) ?_ ?_
  · first | exact HA5.out.drew.own ((Chg.refl g _).set _ _) (HA5.out.drew.pool.setver _) | exact (HA5.out.own ((Chg.refl g _).set _ _) (HA5.out.pool.setver _)).drew
  intro w6 h6
  have HA6 := am_ h6
  clear h6 HA5 q0 q1 q2 q3 q4 q5 q6 r0 r1 r2 r3 r4 r5 r6 c0 c1 c2 c3 c4 h0 h1 h2 fr0
  obtain ⟨q0, q1, q2, q3, q4, q5, q6⟩ := c7 HA6.out.ent
  obtain ⟨r0, r1, r2, r3, r4, r5, r6⟩ := HA6.out.pool.ring HL.out
  obtain ⟨c0, c1, c2, c3, c4⟩ := HA6.out.pool.slot HL.out HI.out
  rw [show ({ p with ver := wrap64 (p.ver + 1) } : Po).s i = ⟨s0, s1, s2, s3, s4⟩ from HSS.out] at c0 c1 c2 c3 c4
  rw [show ({ p with ver := wrap64 (p.ver + 1) } : Po).ep = ep from HEP.out] at r0
  obtain ⟨g7, hg7⟩ : ∃ n, w6.heap.size = n := ⟨_, rfl⟩
  go_upto_region 10 with fail
  refine wp_w (fun W => Ap w W g ({ p with ver := wrap64 (p.ver + 1) } : Po) #[.int .i64 1, .int .i64 (i : Int), .int .i64 ad, .int .i64 po, .int .i64 we, .int .u64 x, .int .u64 y] ∧ W.heap[g7]? = some (.cells #[.int .i64 s0, .int .i64 s1, .int .i64 s2, .int .i64 s3, .int .i64 s4] 25 (0, 0))) ?_ ?_
  · exact ⟨HA6.out.alloc _, by rw [← hg7]; exact new_blk w6 _⟩
  intro w7 h7
  have HA7 := am_ h7.1
  have HS7 := am_ h7.2
  have HG7 := am_ (show g + 2 < g7 from by rw [← hg7]; exact HA6.out.hi)
  clear h7 HA6 hg7 q0 q1 q2 q3 q4 q5 q6 r0 r1 r2 r3 r4 r5 r6 c0 c1 c2 c3 c4
  obtain ⟨q0, q1, q2, q3, q4, q5, q6⟩ := c7 HA7.out.ent
  obtain ⟨r0, r1, r2, r3, r4, r5, r6⟩ := HA7.out.pool.ring HL.out
  obtain ⟨c0, c1, c2, c3, c4⟩ := HA7.out.pool.slot HL.out HI.out
  rw [show ({ p with ver := wrap64 (p.ver + 1) } : Po).s i = ⟨s0, s1, s2, s3, s4⟩ from HSS.out] at c0 c1 c2 c3 c4
  rw [show ({ p with ver := wrap64 (p.ver + 1) } : Po).ep = ep from HEP.out] at r0
  obtain ⟨t0, t1, t2, t3, t4⟩ := c5 HS7.out
  obtain ⟨u0, u1, u2, u3, u4⟩ := f5 HS7.out 0
  have v0 := fr_ HA7.out.pool 323
  have v1 := fr_ HA7.out.pool 324
  have v2 := fr_ HA7.out.pool 325
  have v3 := fr_ HA7.out.pool 326
  have v4 := fr_ HA7.out.pool 327
  have v5 := fr_ HA7.out.pool 328
  have v6 := fr_ HA7.out.pool 329
  go_upto_region 23 with fail
  refine wp_w (fun W => Ap w W g ({ p with ver := wrap64 (p.ver + 1) } : Po) #[.int .i64 1, .int .i64 (i : Int), .int .i64 ad, .int .i64 po, .int .i64 we, .int .u64 x, .int .u64 y] ∧ W.heap[g7]? = some (.cells #[.int .i64 1, .int .i64 ad, .int .i64 po, .int .i64 we, .int .i64 0] 25 (0, 0))) ?_ ?_
  · exact ⟨HA7.out.other (chg5 w7 g7 0 _ _ _ _ _) HG7.out, set5 (o := 0) HS7.out _ _ _ _ _⟩
  intro w8 h8
  have HA8 := am_ h8.1
  have HS8 := am_ h8.2
  clear h8 HA7 HS7 q0 q1 q2 q3 q4 q5 q6 r0 r1 r2 r3 r4 r5 r6 c0 c1 c2 c3 c4 t0 t1 t2 t3 t4 u0 u1 u2 u3 u4 v0 v1 v2 v3 v4 v5 v6
  obtain ⟨q0, q1, q2, q3, q4, q5, q6⟩ := c7 HA8.out.ent
  obtain ⟨c0, c1, c2, c3, c4⟩ := HA8.out.pool.slot HL.out HI.out
  obtain ⟨t0, t1, t2, t3, t4⟩ := c5 HS8.out
  obtain ⟨u0, u1, u2, u3, u4⟩ := f5 HA8.out.pool (3 + i * 5)
  go_upto_region 24 with fail
  refine wp_w (fun W => Ap w W g (({ p with ver := wrap64 (p.ver + 1) } : Po).put i ⟨1, ad, po, we, 0⟩) #[.int .i64 1, .int .i64 (i : Int), .int .i64 ad, .int .i64 po, .int .i64 we, .int .u64 x, .int .u64 y]) ?_ ?_
  · exact HA8.out.own (chg5 _ g _ _ _ _ _ _) (HA8.out.pool.put HL.out HI.out ⟨1, ad, po, we, 0⟩)
  intro w9 h9
  have HA9 := am_ h9
  have HLP := am_ (show (({ p with ver := wrap64 (p.ver + 1) } : Po).put i ⟨1, ad, po, we, 0⟩).sl.length = 64 from (Po.put_len _ _ _).trans HL.out)
  clear h9 HA8 HS8 q0 q1 q2 q3 q4 q5 q6 c0 c1 c2 c3 c4 t0 t1 t2 t3 t4 u0 u1 u2 u3 u4
  go_wp2_with (first
    | ((with_reducible refine gate_dst (N := 84) rfl ?_); (refine pool_load rfl rfl rfl HA9.out.pool HLP.out ?_))
    | ((with_reducible refine gate_store (t := 33) (p := 4) rfl ?_); (refine pool_store rfl rfl rfl rfl rfl HA9.out.res Po.z_len HLP.out ?_; intro wa hpa hca; have HPA := am_ hpa; have HCA := am_ hca; clear hpa hca)))
  refine bodyPost_ret (results_ct_row rfl _ _ (g + 2) 33 _ (0, 0) _ rfl HPA.out Tryz.underlying33 rfl (by rw [info34, Po.ag_size HLP.out])) rfl ⟨rfl, ?_⟩
  exact Chg.step HA9.out.below HCA.out (by have := HA9.out.lo; omega)
theorem apply_2 (p : Po) (hl : p.sl.length = 64) (i : Nat) (hi : i < 64) (ad po we x y : Int) (hk : EnOk ⟨2, (i : Int), ad, po, we, ⟨x, y⟩⟩) (hb : badR p 2 i ad po = false) (ep s0 s1 s2 s3 s4 : Int) (hep : p.ep = ep) (hss : p.s i = ⟨s0, s1, s2, s3, s4⟩) (w : World) :
    Calls Tryz.prog 24 #[.agg p.ag, .agg #[.int .i64 2, .int .i64 (i : Int), .int .i64 ad, .int .i64 po, .int .i64 we, .int .u64 x, .int .u64 y]] w fun e w' => e = .returned (.tuple #[.agg (({ p with ver := wrap64 (p.ver + 1) } : Po).put i ⟨2, s1, s2, s3, s4⟩).ag, .int .i64 0]) ∧ Below w.heap.size w w' := by
  have HL := am_ hl
  have HCK := am_ (fun W => rcheck_ok hk (by omega) W)
  have HBD := am_ (fun W => hb ▸ rbad_calls p hl 2 hk.k1 hk.k6 i hi ad po we x y W)
  have HI := am_ hi
  have HEP := am_ hep
  have HSS := am_ hss
  have hi0 : (0 : Int) ≤ (i : Int) := by omega
  have hi1 : (i : Int) < 64 := by omega
  clear hk hb hep hss
  go_enter Tryz.func24, Tryz.ntmps24
  go_upto_region 1 with (first
    | ((with_reducible refine gate_dst (N := 2) rfl ?_); refine pool_box (p := p) rfl rfl rfl ?_; intro g hg w1 hp1 hb1 hs1; have HP1 := am_ hp1; have HB1 := am_ hb1; have HGE := am_ hg; clear hp1 hb1 hg)
    | ((with_reducible refine gate_dst (N := 4) rfl ?_); refine pool_alloc rfl rfl ?_; intro g4 hg4 w4 hp4 hb4 hs4; have HP4 := am_ hp4; have HB4 := am_ hb4; have HG4 := am_ hg4; clear hp4 hb4 hs4 hg4))
  obtain rfl : g4 = g + 2 := by rw [← HG4.out, (box_at w1 hs1 _).2.2]
  refine wp_w (fun W => Ap w W g p #[.int .i64 2, .int .i64 (i : Int), .int .i64 ad, .int .i64 po, .int .i64 we, .int .u64 x, .int .u64 y]) ?_ ?_
  · exact ⟨(HP1.out.below (box_at w1 hs1 _).2.1).below HB4.out, bk_ (box_at w1 hs1 _).1 HB4.out, HP4.out, below_step (below_step HB1.out (box_at w1 hs1 _).2.1) HB4.out, Nat.le_of_eq HGE.out⟩
  intro w2 h2
  have HA2 := am_ h2
  obtain ⟨q0, q1, q2, q3, q4, q5, q6⟩ := c7 h2.ent
  clear h2 HB1 HP1 hs1 HP4 HB4 HG4
  go_upto_region 6 with (first
    | (go_at_call 64; (with_reducible refine (HCK.out _).mono ?_); rintro e1 x1 ⟨rfl, hx⟩; have HA3 := am_ (HA2.out.grow hx); obtain ⟨q0, q1, q2, q3, q4, q5, q6⟩ := c7 HA3.out.ent; clear hx)
    | ((with_reducible refine gate_dst (N := 14) rfl ?_); refine pool_load rfl rfl rfl HA3.out.pool HL.out ?_)
    | (go_at_call 65; (with_reducible refine (HBD.out _).mono ?_); rintro e2 x2 ⟨rfl, hx⟩; have HA4 := am_ (HA3.out.grow hx); clear hx))
  refine wp_w (fun W => Ap w W g p #[.int .i64 2, .int .i64 (i : Int), .int .i64 ad, .int .i64 po, .int .i64 we, .int .u64 x, .int .u64 y]) ?_ ?_
  · first | exact HA4.out | exact HA4.out.drew
  intro w5 h5
  have HA5 := am_ h5
  clear h5 HA2 HA3 HA4 q0 q1 q2 q3 q4 q5 q6
  obtain ⟨q0, q1, q2, q3, q4, q5, q6⟩ := c7 HA5.out.ent
  obtain ⟨r0, r1, r2, r3, r4, r5, r6⟩ := HA5.out.pool.ring HL.out
  obtain ⟨c0, c1, c2, c3, c4⟩ := HA5.out.pool.slot HL.out HI.out
  rw [show p.s i = ⟨s0, s1, s2, s3, s4⟩ from HSS.out] at c0 c1 c2 c3 c4
  rw [show p.ep = ep from HEP.out] at r0
  refine start_ (n := 16) (S := fun w' => w'.cell? ⟨g + 1, 0, none⟩ = some (.int .i64 2)) (ds := []) #[fF,fF,fF,fF,fF,fF,fF,fF,fF,fF,fF,fF,fF,fF,fF,fF] (by kernel_rfl) rfl rfl (q0) (fun hHeld => ?_)
  refine p_ 0 18 ?_
  refine t_ 1 19 hHeld ?_
  refine p_ 2 20 ?_
  refine p_ 3 21 ?_
  refine u_ 4 22 ?_
  refine u_ 5 23 ?_
  refine u_ 6 24 ?_
  refine u_ 7 25 ?_
  refine u_ 8 26 ?_
  refine u_ 9 27 ?_
  refine u_ 10 28 ?_
  refine u_ 11 29 ?_
  refine u_ 12 30 ?_
  refine u_ 13 31 ?_
  refine u_ 14 32 ?_
  refine p_ 15 33 ?_
  refine done_ (by kernel_rfl) ?_
  obtain ⟨h0, h1, h2⟩ := HA5.out.pool.head
  have fr0 := HA5.out.pool.free 0
  go_upto_region 9 with fail
  refine wp_w (fun W => Ap w W g ({ p with ver := wrap64 (p.ver + 1) } : Po) #[.int .i64 2, .int .i64 (i : Int), .int .i64 ad, .int .i64 po, .int .i64 we, .int .u64 x, .int .u64 y]) ?_ ?_
  · first | exact HA5.out.drew.own ((Chg.refl g _).set _ _) (HA5.out.drew.pool.setver _) | exact (HA5.out.own ((Chg.refl g _).set _ _) (HA5.out.pool.setver _)).drew
  intro w6 h6
  have HA6 := am_ h6
  clear h6 HA5 q0 q1 q2 q3 q4 q5 q6 r0 r1 r2 r3 r4 r5 r6 c0 c1 c2 c3 c4 h0 h1 h2 fr0
  obtain ⟨q0, q1, q2, q3, q4, q5, q6⟩ := c7 HA6.out.ent
  obtain ⟨r0, r1, r2, r3, r4, r5, r6⟩ := HA6.out.pool.ring HL.out
  obtain ⟨c0, c1, c2, c3, c4⟩ := HA6.out.pool.slot HL.out HI.out
  rw [show ({ p with ver := wrap64 (p.ver + 1) } : Po).s i = ⟨s0, s1, s2, s3, s4⟩ from HSS.out] at c0 c1 c2 c3 c4
  rw [show ({ p with ver := wrap64 (p.ver + 1) } : Po).ep = ep from HEP.out] at r0
  obtain ⟨g7, hg7⟩ : ∃ n, w6.heap.size = n := ⟨_, rfl⟩
  go_upto_region 10 with fail
  refine wp_w (fun W => Ap w W g ({ p with ver := wrap64 (p.ver + 1) } : Po) #[.int .i64 2, .int .i64 (i : Int), .int .i64 ad, .int .i64 po, .int .i64 we, .int .u64 x, .int .u64 y] ∧ W.heap[g7]? = some (.cells #[.int .i64 s0, .int .i64 s1, .int .i64 s2, .int .i64 s3, .int .i64 s4] 25 (0, 0))) ?_ ?_
  · exact ⟨HA6.out.alloc _, by rw [← hg7]; exact new_blk w6 _⟩
  intro w7 h7
  have HA7 := am_ h7.1
  have HS7 := am_ h7.2
  have HG7 := am_ (show g + 2 < g7 from by rw [← hg7]; exact HA6.out.hi)
  clear h7 HA6 hg7 q0 q1 q2 q3 q4 q5 q6 r0 r1 r2 r3 r4 r5 r6 c0 c1 c2 c3 c4
  obtain ⟨q0, q1, q2, q3, q4, q5, q6⟩ := c7 HA7.out.ent
  obtain ⟨r0, r1, r2, r3, r4, r5, r6⟩ := HA7.out.pool.ring HL.out
  obtain ⟨c0, c1, c2, c3, c4⟩ := HA7.out.pool.slot HL.out HI.out
  rw [show ({ p with ver := wrap64 (p.ver + 1) } : Po).s i = ⟨s0, s1, s2, s3, s4⟩ from HSS.out] at c0 c1 c2 c3 c4
  rw [show ({ p with ver := wrap64 (p.ver + 1) } : Po).ep = ep from HEP.out] at r0
  obtain ⟨t0, t1, t2, t3, t4⟩ := c5 HS7.out
  obtain ⟨u0, u1, u2, u3, u4⟩ := f5 HS7.out 0
  have v0 := fr_ HA7.out.pool 323
  have v1 := fr_ HA7.out.pool 324
  have v2 := fr_ HA7.out.pool 325
  have v3 := fr_ HA7.out.pool 326
  have v4 := fr_ HA7.out.pool 327
  have v5 := fr_ HA7.out.pool 328
  have v6 := fr_ HA7.out.pool 329
  go_upto_region 23 with fail
  refine wp_w (fun W => Ap w W g ({ p with ver := wrap64 (p.ver + 1) } : Po) #[.int .i64 2, .int .i64 (i : Int), .int .i64 ad, .int .i64 po, .int .i64 we, .int .u64 x, .int .u64 y] ∧ W.heap[g7]? = some (.cells #[.int .i64 2, .int .i64 s1, .int .i64 s2, .int .i64 s3, .int .i64 s4] 25 (0, 0))) ?_ ?_
  · exact ⟨HA7.out.other ((Chg.refl g7 w7).set _ _) HG7.out, heap_setCell_same w7 g7 0 _ 25 _ HS7.out⟩
  intro w8 h8
  have HA8 := am_ h8.1
  have HS8 := am_ h8.2
  clear h8 HA7 HS7 q0 q1 q2 q3 q4 q5 q6 r0 r1 r2 r3 r4 r5 r6 c0 c1 c2 c3 c4 t0 t1 t2 t3 t4 u0 u1 u2 u3 u4 v0 v1 v2 v3 v4 v5 v6
  obtain ⟨q0, q1, q2, q3, q4, q5, q6⟩ := c7 HA8.out.ent
  obtain ⟨c0, c1, c2, c3, c4⟩ := HA8.out.pool.slot HL.out HI.out
  obtain ⟨t0, t1, t2, t3, t4⟩ := c5 HS8.out
  obtain ⟨u0, u1, u2, u3, u4⟩ := f5 HA8.out.pool (3 + i * 5)
  go_upto_region 24 with fail
  refine wp_w (fun W => Ap w W g (({ p with ver := wrap64 (p.ver + 1) } : Po).put i ⟨2, s1, s2, s3, s4⟩) #[.int .i64 2, .int .i64 (i : Int), .int .i64 ad, .int .i64 po, .int .i64 we, .int .u64 x, .int .u64 y]) ?_ ?_
  · exact HA8.out.own (chg5 _ g _ _ _ _ _ _) (HA8.out.pool.put HL.out HI.out ⟨2, s1, s2, s3, s4⟩)
  intro w9 h9
  have HA9 := am_ h9
  have HLP := am_ (show (({ p with ver := wrap64 (p.ver + 1) } : Po).put i ⟨2, s1, s2, s3, s4⟩).sl.length = 64 from (Po.put_len _ _ _).trans HL.out)
  clear h9 HA8 HS8 q0 q1 q2 q3 q4 q5 q6 c0 c1 c2 c3 c4 t0 t1 t2 t3 t4 u0 u1 u2 u3 u4
  go_wp2_with (first
    | ((with_reducible refine gate_dst (N := 84) rfl ?_); (refine pool_load rfl rfl rfl HA9.out.pool HLP.out ?_))
    | ((with_reducible refine gate_store (t := 33) (p := 4) rfl ?_); (refine pool_store rfl rfl rfl rfl rfl HA9.out.res Po.z_len HLP.out ?_; intro wa hpa hca; have HPA := am_ hpa; have HCA := am_ hca; clear hpa hca)))
  refine bodyPost_ret (results_ct_row rfl _ _ (g + 2) 33 _ (0, 0) _ rfl HPA.out Tryz.underlying33 rfl (by rw [info34, Po.ag_size HLP.out])) rfl ⟨rfl, ?_⟩
  exact Chg.step HA9.out.below HCA.out (by have := HA9.out.lo; omega)
theorem apply_3 (p : Po) (hl : p.sl.length = 64) (i : Nat) (hi : i < 64) (ad po we x y : Int) (hk : EnOk ⟨3, (i : Int), ad, po, we, ⟨x, y⟩⟩) (hb : badR p 3 i ad po = false) (ep s0 s1 s2 s3 s4 : Int) (hep : p.ep = ep) (hss : p.s i = ⟨s0, s1, s2, s3, s4⟩) (w : World) :
    Calls Tryz.prog 24 #[.agg p.ag, .agg #[.int .i64 3, .int .i64 (i : Int), .int .i64 ad, .int .i64 po, .int .i64 we, .int .u64 x, .int .u64 y]] w fun e w' => e = .returned (.tuple #[.agg (({ p with ver := wrap64 (p.ver + 1) } : Po).put i ⟨3, s1, s2, s3, s4⟩).ag, .int .i64 0]) ∧ Below w.heap.size w w' := by
  have HL := am_ hl
  have HCK := am_ (fun W => rcheck_ok hk (by omega) W)
  have HBD := am_ (fun W => hb ▸ rbad_calls p hl 3 hk.k1 hk.k6 i hi ad po we x y W)
  have HI := am_ hi
  have HEP := am_ hep
  have HSS := am_ hss
  have hi0 : (0 : Int) ≤ (i : Int) := by omega
  have hi1 : (i : Int) < 64 := by omega
  clear hk hb hep hss
  go_enter Tryz.func24, Tryz.ntmps24
  go_upto_region 1 with (first
    | ((with_reducible refine gate_dst (N := 2) rfl ?_); refine pool_box (p := p) rfl rfl rfl ?_; intro g hg w1 hp1 hb1 hs1; have HP1 := am_ hp1; have HB1 := am_ hb1; have HGE := am_ hg; clear hp1 hb1 hg)
    | ((with_reducible refine gate_dst (N := 4) rfl ?_); refine pool_alloc rfl rfl ?_; intro g4 hg4 w4 hp4 hb4 hs4; have HP4 := am_ hp4; have HB4 := am_ hb4; have HG4 := am_ hg4; clear hp4 hb4 hs4 hg4))
  obtain rfl : g4 = g + 2 := by rw [← HG4.out, (box_at w1 hs1 _).2.2]
  refine wp_w (fun W => Ap w W g p #[.int .i64 3, .int .i64 (i : Int), .int .i64 ad, .int .i64 po, .int .i64 we, .int .u64 x, .int .u64 y]) ?_ ?_
  · exact ⟨(HP1.out.below (box_at w1 hs1 _).2.1).below HB4.out, bk_ (box_at w1 hs1 _).1 HB4.out, HP4.out, below_step (below_step HB1.out (box_at w1 hs1 _).2.1) HB4.out, Nat.le_of_eq HGE.out⟩
  intro w2 h2
  have HA2 := am_ h2
  obtain ⟨q0, q1, q2, q3, q4, q5, q6⟩ := c7 h2.ent
  clear h2 HB1 HP1 hs1 HP4 HB4 HG4
  go_upto_region 6 with (first
    | (go_at_call 64; (with_reducible refine (HCK.out _).mono ?_); rintro e1 x1 ⟨rfl, hx⟩; have HA3 := am_ (HA2.out.grow hx); obtain ⟨q0, q1, q2, q3, q4, q5, q6⟩ := c7 HA3.out.ent; clear hx)
    | ((with_reducible refine gate_dst (N := 14) rfl ?_); refine pool_load rfl rfl rfl HA3.out.pool HL.out ?_)
    | (go_at_call 65; (with_reducible refine (HBD.out _).mono ?_); rintro e2 x2 ⟨rfl, hx⟩; have HA4 := am_ (HA3.out.grow hx); clear hx))
  refine wp_w (fun W => Ap w W g p #[.int .i64 3, .int .i64 (i : Int), .int .i64 ad, .int .i64 po, .int .i64 we, .int .u64 x, .int .u64 y]) ?_ ?_
  · first | exact HA4.out | exact HA4.out.drew
  intro w5 h5
  have HA5 := am_ h5
  clear h5 HA2 HA3 HA4 q0 q1 q2 q3 q4 q5 q6
  obtain ⟨q0, q1, q2, q3, q4, q5, q6⟩ := c7 HA5.out.ent
  obtain ⟨r0, r1, r2, r3, r4, r5, r6⟩ := HA5.out.pool.ring HL.out
  obtain ⟨c0, c1, c2, c3, c4⟩ := HA5.out.pool.slot HL.out HI.out
  rw [show p.s i = ⟨s0, s1, s2, s3, s4⟩ from HSS.out] at c0 c1 c2 c3 c4
  rw [show p.ep = ep from HEP.out] at r0
  refine start_ (n := 16) (S := fun w' => w'.cell? ⟨g + 1, 0, none⟩ = some (.int .i64 3)) (ds := []) #[fF,fF,fF,fF,fF,fF,fF,fF,fF,fF,fF,fF,fF,fF,fF,fF] (by kernel_rfl) rfl rfl (q0) (fun hHeld => ?_)
  refine p_ 0 18 ?_
  refine t_ 1 19 hHeld ?_
  refine p_ 2 20 ?_
  refine p_ 3 21 ?_
  refine u_ 4 22 ?_
  refine u_ 5 23 ?_
  refine u_ 6 24 ?_
  refine u_ 7 25 ?_
  refine u_ 8 26 ?_
  refine u_ 9 27 ?_
  refine u_ 10 28 ?_
  refine u_ 11 29 ?_
  refine u_ 12 30 ?_
  refine u_ 13 31 ?_
  refine u_ 14 32 ?_
  refine p_ 15 33 ?_
  refine done_ (by kernel_rfl) ?_
  obtain ⟨h0, h1, h2⟩ := HA5.out.pool.head
  have fr0 := HA5.out.pool.free 0
  go_upto_region 9 with fail
  refine wp_w (fun W => Ap w W g ({ p with ver := wrap64 (p.ver + 1) } : Po) #[.int .i64 3, .int .i64 (i : Int), .int .i64 ad, .int .i64 po, .int .i64 we, .int .u64 x, .int .u64 y]) ?_ ?_
  · first | exact HA5.out.drew.own ((Chg.refl g _).set _ _) (HA5.out.drew.pool.setver _) | exact (HA5.out.own ((Chg.refl g _).set _ _) (HA5.out.pool.setver _)).drew
  intro w6 h6
  have HA6 := am_ h6
  clear h6 HA5 q0 q1 q2 q3 q4 q5 q6 r0 r1 r2 r3 r4 r5 r6 c0 c1 c2 c3 c4 h0 h1 h2 fr0
  obtain ⟨q0, q1, q2, q3, q4, q5, q6⟩ := c7 HA6.out.ent
  obtain ⟨r0, r1, r2, r3, r4, r5, r6⟩ := HA6.out.pool.ring HL.out
  obtain ⟨c0, c1, c2, c3, c4⟩ := HA6.out.pool.slot HL.out HI.out
  rw [show ({ p with ver := wrap64 (p.ver + 1) } : Po).s i = ⟨s0, s1, s2, s3, s4⟩ from HSS.out] at c0 c1 c2 c3 c4
  rw [show ({ p with ver := wrap64 (p.ver + 1) } : Po).ep = ep from HEP.out] at r0
  obtain ⟨g7, hg7⟩ : ∃ n, w6.heap.size = n := ⟨_, rfl⟩
  go_upto_region 10 with fail
  refine wp_w (fun W => Ap w W g ({ p with ver := wrap64 (p.ver + 1) } : Po) #[.int .i64 3, .int .i64 (i : Int), .int .i64 ad, .int .i64 po, .int .i64 we, .int .u64 x, .int .u64 y] ∧ W.heap[g7]? = some (.cells #[.int .i64 s0, .int .i64 s1, .int .i64 s2, .int .i64 s3, .int .i64 s4] 25 (0, 0))) ?_ ?_
  · exact ⟨HA6.out.alloc _, by rw [← hg7]; exact new_blk w6 _⟩
  intro w7 h7
  have HA7 := am_ h7.1
  have HS7 := am_ h7.2
  have HG7 := am_ (show g + 2 < g7 from by rw [← hg7]; exact HA6.out.hi)
  clear h7 HA6 hg7 q0 q1 q2 q3 q4 q5 q6 r0 r1 r2 r3 r4 r5 r6 c0 c1 c2 c3 c4
  obtain ⟨q0, q1, q2, q3, q4, q5, q6⟩ := c7 HA7.out.ent
  obtain ⟨r0, r1, r2, r3, r4, r5, r6⟩ := HA7.out.pool.ring HL.out
  obtain ⟨c0, c1, c2, c3, c4⟩ := HA7.out.pool.slot HL.out HI.out
  rw [show ({ p with ver := wrap64 (p.ver + 1) } : Po).s i = ⟨s0, s1, s2, s3, s4⟩ from HSS.out] at c0 c1 c2 c3 c4
  rw [show ({ p with ver := wrap64 (p.ver + 1) } : Po).ep = ep from HEP.out] at r0
  obtain ⟨t0, t1, t2, t3, t4⟩ := c5 HS7.out
  obtain ⟨u0, u1, u2, u3, u4⟩ := f5 HS7.out 0
  have v0 := fr_ HA7.out.pool 323
  have v1 := fr_ HA7.out.pool 324
  have v2 := fr_ HA7.out.pool 325
  have v3 := fr_ HA7.out.pool 326
  have v4 := fr_ HA7.out.pool 327
  have v5 := fr_ HA7.out.pool 328
  have v6 := fr_ HA7.out.pool 329
  go_upto_region 23 with fail
  refine wp_w (fun W => Ap w W g ({ p with ver := wrap64 (p.ver + 1) } : Po) #[.int .i64 3, .int .i64 (i : Int), .int .i64 ad, .int .i64 po, .int .i64 we, .int .u64 x, .int .u64 y] ∧ W.heap[g7]? = some (.cells #[.int .i64 3, .int .i64 s1, .int .i64 s2, .int .i64 s3, .int .i64 s4] 25 (0, 0))) ?_ ?_
  · exact ⟨HA7.out.other ((Chg.refl g7 w7).set _ _) HG7.out, heap_setCell_same w7 g7 0 _ 25 _ HS7.out⟩
  intro w8 h8
  have HA8 := am_ h8.1
  have HS8 := am_ h8.2
  clear h8 HA7 HS7 q0 q1 q2 q3 q4 q5 q6 r0 r1 r2 r3 r4 r5 r6 c0 c1 c2 c3 c4 t0 t1 t2 t3 t4 u0 u1 u2 u3 u4 v0 v1 v2 v3 v4 v5 v6
  obtain ⟨q0, q1, q2, q3, q4, q5, q6⟩ := c7 HA8.out.ent
  obtain ⟨c0, c1, c2, c3, c4⟩ := HA8.out.pool.slot HL.out HI.out
  obtain ⟨t0, t1, t2, t3, t4⟩ := c5 HS8.out
  obtain ⟨u0, u1, u2, u3, u4⟩ := f5 HA8.out.pool (3 + i * 5)
  go_upto_region 24 with fail
  refine wp_w (fun W => Ap w W g (({ p with ver := wrap64 (p.ver + 1) } : Po).put i ⟨3, s1, s2, s3, s4⟩) #[.int .i64 3, .int .i64 (i : Int), .int .i64 ad, .int .i64 po, .int .i64 we, .int .u64 x, .int .u64 y]) ?_ ?_
  · exact HA8.out.own (chg5 _ g _ _ _ _ _ _) (HA8.out.pool.put HL.out HI.out ⟨3, s1, s2, s3, s4⟩)
  intro w9 h9
  have HA9 := am_ h9
  have HLP := am_ (show (({ p with ver := wrap64 (p.ver + 1) } : Po).put i ⟨3, s1, s2, s3, s4⟩).sl.length = 64 from (Po.put_len _ _ _).trans HL.out)
  clear h9 HA8 HS8 q0 q1 q2 q3 q4 q5 q6 c0 c1 c2 c3 c4 t0 t1 t2 t3 t4 u0 u1 u2 u3 u4
  go_wp2_with (first
    | ((with_reducible refine gate_dst (N := 84) rfl ?_); (refine pool_load rfl rfl rfl HA9.out.pool HLP.out ?_))
    | ((with_reducible refine gate_store (t := 33) (p := 4) rfl ?_); (refine pool_store rfl rfl rfl rfl rfl HA9.out.res Po.z_len HLP.out ?_; intro wa hpa hca; have HPA := am_ hpa; have HCA := am_ hca; clear hpa hca)))
  refine bodyPost_ret (results_ct_row rfl _ _ (g + 2) 33 _ (0, 0) _ rfl HPA.out Tryz.underlying33 rfl (by rw [info34, Po.ag_size HLP.out])) rfl ⟨rfl, ?_⟩
  exact Chg.step HA9.out.below HCA.out (by have := HA9.out.lo; omega)
theorem apply_4 (p : Po) (hl : p.sl.length = 64) (i : Nat) (hi : i < 64) (ad po we x y : Int) (hk : EnOk ⟨4, (i : Int), ad, po, we, ⟨x, y⟩⟩) (hb : badR p 4 i ad po = false) (ep s0 s1 s2 s3 s4 : Int) (hep : p.ep = ep) (hss : p.s i = ⟨s0, s1, s2, s3, s4⟩) (w : World) :
    Calls Tryz.prog 24 #[.agg p.ag, .agg #[.int .i64 4, .int .i64 (i : Int), .int .i64 ad, .int .i64 po, .int .i64 we, .int .u64 x, .int .u64 y]] w fun e w' => e = .returned (.tuple #[.agg (({ p with ver := wrap64 (p.ver + 1) } : Po).put i ⟨4, s1, s2, s3, ep⟩).ag, .int .i64 0]) ∧ Below w.heap.size w w' := by
  have HL := am_ hl
  have HCK := am_ (fun W => rcheck_ok hk (by omega) W)
  have HBD := am_ (fun W => hb ▸ rbad_calls p hl 4 hk.k1 hk.k6 i hi ad po we x y W)
  have HI := am_ hi
  have HEP := am_ hep
  have HSS := am_ hss
  have hi0 : (0 : Int) ≤ (i : Int) := by omega
  have hi1 : (i : Int) < 64 := by omega
  clear hk hb hep hss
  go_enter Tryz.func24, Tryz.ntmps24
  go_upto_region 1 with (first
    | ((with_reducible refine gate_dst (N := 2) rfl ?_); refine pool_box (p := p) rfl rfl rfl ?_; intro g hg w1 hp1 hb1 hs1; have HP1 := am_ hp1; have HB1 := am_ hb1; have HGE := am_ hg; clear hp1 hb1 hg)
    | ((with_reducible refine gate_dst (N := 4) rfl ?_); refine pool_alloc rfl rfl ?_; intro g4 hg4 w4 hp4 hb4 hs4; have HP4 := am_ hp4; have HB4 := am_ hb4; have HG4 := am_ hg4; clear hp4 hb4 hs4 hg4))
  obtain rfl : g4 = g + 2 := by rw [← HG4.out, (box_at w1 hs1 _).2.2]
  refine wp_w (fun W => Ap w W g p #[.int .i64 4, .int .i64 (i : Int), .int .i64 ad, .int .i64 po, .int .i64 we, .int .u64 x, .int .u64 y]) ?_ ?_
  · exact ⟨(HP1.out.below (box_at w1 hs1 _).2.1).below HB4.out, bk_ (box_at w1 hs1 _).1 HB4.out, HP4.out, below_step (below_step HB1.out (box_at w1 hs1 _).2.1) HB4.out, Nat.le_of_eq HGE.out⟩
  intro w2 h2
  have HA2 := am_ h2
  obtain ⟨q0, q1, q2, q3, q4, q5, q6⟩ := c7 h2.ent
  clear h2 HB1 HP1 hs1 HP4 HB4 HG4
  go_upto_region 6 with (first
    | (go_at_call 64; (with_reducible refine (HCK.out _).mono ?_); rintro e1 x1 ⟨rfl, hx⟩; have HA3 := am_ (HA2.out.grow hx); obtain ⟨q0, q1, q2, q3, q4, q5, q6⟩ := c7 HA3.out.ent; clear hx)
    | ((with_reducible refine gate_dst (N := 14) rfl ?_); refine pool_load rfl rfl rfl HA3.out.pool HL.out ?_)
    | (go_at_call 65; (with_reducible refine (HBD.out _).mono ?_); rintro e2 x2 ⟨rfl, hx⟩; have HA4 := am_ (HA3.out.grow hx); clear hx))
  refine wp_w (fun W => Ap w W g p #[.int .i64 4, .int .i64 (i : Int), .int .i64 ad, .int .i64 po, .int .i64 we, .int .u64 x, .int .u64 y]) ?_ ?_
  · first | exact HA4.out | exact HA4.out.drew
  intro w5 h5
  have HA5 := am_ h5
  clear h5 HA2 HA3 HA4 q0 q1 q2 q3 q4 q5 q6
  obtain ⟨q0, q1, q2, q3, q4, q5, q6⟩ := c7 HA5.out.ent
  obtain ⟨r0, r1, r2, r3, r4, r5, r6⟩ := HA5.out.pool.ring HL.out
  obtain ⟨c0, c1, c2, c3, c4⟩ := HA5.out.pool.slot HL.out HI.out
  rw [show p.s i = ⟨s0, s1, s2, s3, s4⟩ from HSS.out] at c0 c1 c2 c3 c4
  rw [show p.ep = ep from HEP.out] at r0
  refine start_ (n := 16) (S := fun w' => w'.cell? ⟨g + 1, 0, none⟩ = some (.int .i64 4)) (ds := []) #[fF,fF,fF,fF,fF,fF,fF,fF,fF,fF,fF,fF,fF,fF,fF,fF] (by kernel_rfl) rfl rfl (q0) (fun hHeld => ?_)
  refine p_ 0 18 ?_
  refine t_ 1 19 hHeld ?_
  refine p_ 2 20 ?_
  refine p_ 3 21 ?_
  refine u_ 4 22 ?_
  refine u_ 5 23 ?_
  refine u_ 6 24 ?_
  refine u_ 7 25 ?_
  refine u_ 8 26 ?_
  refine u_ 9 27 ?_
  refine u_ 10 28 ?_
  refine u_ 11 29 ?_
  refine u_ 12 30 ?_
  refine u_ 13 31 ?_
  refine u_ 14 32 ?_
  refine p_ 15 33 ?_
  refine done_ (by kernel_rfl) ?_
  obtain ⟨h0, h1, h2⟩ := HA5.out.pool.head
  have fr0 := HA5.out.pool.free 0
  go_upto_region 9 with fail
  refine wp_w (fun W => Ap w W g ({ p with ver := wrap64 (p.ver + 1) } : Po) #[.int .i64 4, .int .i64 (i : Int), .int .i64 ad, .int .i64 po, .int .i64 we, .int .u64 x, .int .u64 y]) ?_ ?_
  · first | exact HA5.out.drew.own ((Chg.refl g _).set _ _) (HA5.out.drew.pool.setver _) | exact (HA5.out.own ((Chg.refl g _).set _ _) (HA5.out.pool.setver _)).drew
  intro w6 h6
  have HA6 := am_ h6
  clear h6 HA5 q0 q1 q2 q3 q4 q5 q6 r0 r1 r2 r3 r4 r5 r6 c0 c1 c2 c3 c4 h0 h1 h2 fr0
  obtain ⟨q0, q1, q2, q3, q4, q5, q6⟩ := c7 HA6.out.ent
  obtain ⟨r0, r1, r2, r3, r4, r5, r6⟩ := HA6.out.pool.ring HL.out
  obtain ⟨c0, c1, c2, c3, c4⟩ := HA6.out.pool.slot HL.out HI.out
  rw [show ({ p with ver := wrap64 (p.ver + 1) } : Po).s i = ⟨s0, s1, s2, s3, s4⟩ from HSS.out] at c0 c1 c2 c3 c4
  rw [show ({ p with ver := wrap64 (p.ver + 1) } : Po).ep = ep from HEP.out] at r0
  obtain ⟨g7, hg7⟩ : ∃ n, w6.heap.size = n := ⟨_, rfl⟩
  go_upto_region 10 with fail
  refine wp_w (fun W => Ap w W g ({ p with ver := wrap64 (p.ver + 1) } : Po) #[.int .i64 4, .int .i64 (i : Int), .int .i64 ad, .int .i64 po, .int .i64 we, .int .u64 x, .int .u64 y] ∧ W.heap[g7]? = some (.cells #[.int .i64 s0, .int .i64 s1, .int .i64 s2, .int .i64 s3, .int .i64 s4] 25 (0, 0))) ?_ ?_
  · exact ⟨HA6.out.alloc _, by rw [← hg7]; exact new_blk w6 _⟩
  intro w7 h7
  have HA7 := am_ h7.1
  have HS7 := am_ h7.2
  have HG7 := am_ (show g + 2 < g7 from by rw [← hg7]; exact HA6.out.hi)
  clear h7 HA6 hg7 q0 q1 q2 q3 q4 q5 q6 r0 r1 r2 r3 r4 r5 r6 c0 c1 c2 c3 c4
  obtain ⟨q0, q1, q2, q3, q4, q5, q6⟩ := c7 HA7.out.ent
  obtain ⟨r0, r1, r2, r3, r4, r5, r6⟩ := HA7.out.pool.ring HL.out
  obtain ⟨c0, c1, c2, c3, c4⟩ := HA7.out.pool.slot HL.out HI.out
  rw [show ({ p with ver := wrap64 (p.ver + 1) } : Po).s i = ⟨s0, s1, s2, s3, s4⟩ from HSS.out] at c0 c1 c2 c3 c4
  rw [show ({ p with ver := wrap64 (p.ver + 1) } : Po).ep = ep from HEP.out] at r0
  obtain ⟨t0, t1, t2, t3, t4⟩ := c5 HS7.out
  obtain ⟨u0, u1, u2, u3, u4⟩ := f5 HS7.out 0
  have v0 := fr_ HA7.out.pool 323
  have v1 := fr_ HA7.out.pool 324
  have v2 := fr_ HA7.out.pool 325
  have v3 := fr_ HA7.out.pool 326
  have v4 := fr_ HA7.out.pool 327
  have v5 := fr_ HA7.out.pool 328
  have v6 := fr_ HA7.out.pool 329
  go_upto_region 18 with fail
  refine start_ (n := 7) (S := fun w' => w'.cell? ⟨g, 323, none⟩ = some (.int .i64 ep)) (ds := [6]) #[fF,fF,fF,fF,fF,fF,fF] (by kernel_rfl) rfl rfl (r0) (fun hHeld => ?_)
  refine p_ 0 63 ?_
  refine p_ 1 64 ?_
  refine p_ 3 66 ?_
  refine t_ 2 65 hHeld ?_
  refine o_ 4 none (fun K hK => ?_)
  refine s_ ?_
  refine hK.out _ _ (((HEP.out ▸ ((PoolAt.chg (b := g) HA7.out.pool ((Chg.refl g7 w7).drew.set 0 (.int .i64 4)) (by have := HG7.out; omega)).ring HL.out).1))) (fun hHeld => ?_)
  clear hK K
  refine p_ 5 67 ?_
  refine l_ 6 none (fun K hK => ?_)
  refine s_ ?_
  refine hK.out _ _ ?_
  clear hK K
  refine done_ (by kernel_rfl) ?_
  go_upto_region 23 with fail
  refine wp_w (fun W => Ap w W g ({ p with ver := wrap64 (p.ver + 1) } : Po) #[.int .i64 4, .int .i64 (i : Int), .int .i64 ad, .int .i64 po, .int .i64 we, .int .u64 x, .int .u64 y] ∧ W.heap[g7]? = some (.cells #[.int .i64 4, .int .i64 s1, .int .i64 s2, .int .i64 s3, .int .i64 ep] 25 (0, 0))) ?_ ?_
  · first | exact ⟨(HA7.out.other (((Chg.refl g7 w7).set _ _).set _ _) HG7.out).drew, heap_setCell_same _ g7 4 _ 25 _ (heap_setCell_same w7 g7 0 _ 25 _ HS7.out)⟩ | exact ⟨HA7.out.other (((Chg.refl g7 w7).drew.set _ _).set _ _) HG7.out, heap_setCell_same _ g7 4 _ 25 _ (heap_setCell_same w7.drew g7 0 _ 25 _ HS7.out)⟩
  intro w8 h8
  have HA8 := am_ h8.1
  have HS8 := am_ h8.2
  clear h8 HA7 HS7 q0 q1 q2 q3 q4 q5 q6 r0 r1 r2 r3 r4 r5 r6 c0 c1 c2 c3 c4 t0 t1 t2 t3 t4 u0 u1 u2 u3 u4 v0 v1 v2 v3 v4 v5 v6
  obtain ⟨q0, q1, q2, q3, q4, q5, q6⟩ := c7 HA8.out.ent
  obtain ⟨c0, c1, c2, c3, c4⟩ := HA8.out.pool.slot HL.out HI.out
  obtain ⟨t0, t1, t2, t3, t4⟩ := c5 HS8.out
  obtain ⟨u0, u1, u2, u3, u4⟩ := f5 HA8.out.pool (3 + i * 5)
  go_upto_region 24 with fail
  refine wp_w (fun W => Ap w W g (({ p with ver := wrap64 (p.ver + 1) } : Po).put i ⟨4, s1, s2, s3, ep⟩) #[.int .i64 4, .int .i64 (i : Int), .int .i64 ad, .int .i64 po, .int .i64 we, .int .u64 x, .int .u64 y]) ?_ ?_
  · exact HA8.out.own (chg5 _ g _ _ _ _ _ _) (HA8.out.pool.put HL.out HI.out ⟨4, s1, s2, s3, ep⟩)
  intro w9 h9
  have HA9 := am_ h9
  have HLP := am_ (show (({ p with ver := wrap64 (p.ver + 1) } : Po).put i ⟨4, s1, s2, s3, ep⟩).sl.length = 64 from (Po.put_len _ _ _).trans HL.out)
  clear h9 HA8 HS8 q0 q1 q2 q3 q4 q5 q6 c0 c1 c2 c3 c4 t0 t1 t2 t3 t4 u0 u1 u2 u3 u4
  go_wp2_with (first
    | ((with_reducible refine gate_dst (N := 84) rfl ?_); (refine pool_load rfl rfl rfl HA9.out.pool HLP.out ?_))
    | ((with_reducible refine gate_store (t := 33) (p := 4) rfl ?_); (refine pool_store rfl rfl rfl rfl rfl HA9.out.res Po.z_len HLP.out ?_; intro wa hpa hca; have HPA := am_ hpa; have HCA := am_ hca; clear hpa hca)))
  refine bodyPost_ret (results_ct_row rfl _ _ (g + 2) 33 _ (0, 0) _ rfl HPA.out Tryz.underlying33 rfl (by rw [info34, Po.ag_size HLP.out])) rfl ⟨rfl, ?_⟩
  exact Chg.step HA9.out.below HCA.out (by have := HA9.out.lo; omega)
theorem apply_5 (p : Po) (hl : p.sl.length = 64) (i : Nat) (hi : i < 64) (ad po we x y : Int) (hk : EnOk ⟨5, (i : Int), ad, po, we, ⟨x, y⟩⟩) (hb : badR p 5 i ad po = false) (ep s0 s1 s2 s3 s4 : Int) (hep : p.ep = ep) (hss : p.s i = ⟨s0, s1, s2, s3, s4⟩) (hs : ¬ ep < wrap64 (s4 + 3)) (w : World) :
    Calls Tryz.prog 24 #[.agg p.ag, .agg #[.int .i64 5, .int .i64 (i : Int), .int .i64 ad, .int .i64 po, .int .i64 we, .int .u64 x, .int .u64 y]] w fun e w' => e = .returned (.tuple #[.agg (({ p with ver := wrap64 (p.ver + 1) } : Po).put i ⟨0, 0, 0, 0, 0⟩).ag, .int .i64 0]) ∧ Below w.heap.size w w' := by
  have HL := am_ hl
  have HCK := am_ (fun W => rcheck_ok hk (by omega) W)
  have HBD := am_ (fun W => hb ▸ rbad_calls p hl 5 hk.k1 hk.k6 i hi ad po we x y W)
  have HI := am_ hi
  have HEP := am_ hep
  have HSS := am_ hss
  have hi0 : (0 : Int) ≤ (i : Int) := by omega
  have hi1 : (i : Int) < 64 := by omega
  have hd : decide (ep < wrap64 (s4 + 3)) = false := decide_eq_false hs
  clear hk hb hep hss hs
  go_enter Tryz.func24, Tryz.ntmps24
  go_upto_region 1 with (first
    | ((with_reducible refine gate_dst (N := 2) rfl ?_); refine pool_box (p := p) rfl rfl rfl ?_; intro g hg w1 hp1 hb1 hs1; have HP1 := am_ hp1; have HB1 := am_ hb1; have HGE := am_ hg; clear hp1 hb1 hg)
    | ((with_reducible refine gate_dst (N := 4) rfl ?_); refine pool_alloc rfl rfl ?_; intro g4 hg4 w4 hp4 hb4 hs4; have HP4 := am_ hp4; have HB4 := am_ hb4; have HG4 := am_ hg4; clear hp4 hb4 hs4 hg4))
  obtain rfl : g4 = g + 2 := by rw [← HG4.out, (box_at w1 hs1 _).2.2]
  refine wp_w (fun W => Ap w W g p #[.int .i64 5, .int .i64 (i : Int), .int .i64 ad, .int .i64 po, .int .i64 we, .int .u64 x, .int .u64 y]) ?_ ?_
  · exact ⟨(HP1.out.below (box_at w1 hs1 _).2.1).below HB4.out, bk_ (box_at w1 hs1 _).1 HB4.out, HP4.out, below_step (below_step HB1.out (box_at w1 hs1 _).2.1) HB4.out, Nat.le_of_eq HGE.out⟩
  intro w2 h2
  have HA2 := am_ h2
  obtain ⟨q0, q1, q2, q3, q4, q5, q6⟩ := c7 h2.ent
  clear h2 HB1 HP1 hs1 HP4 HB4 HG4
  go_upto_region 6 with (first
    | (go_at_call 64; (with_reducible refine (HCK.out _).mono ?_); rintro e1 x1 ⟨rfl, hx⟩; have HA3 := am_ (HA2.out.grow hx); obtain ⟨q0, q1, q2, q3, q4, q5, q6⟩ := c7 HA3.out.ent; clear hx)
    | ((with_reducible refine gate_dst (N := 14) rfl ?_); refine pool_load rfl rfl rfl HA3.out.pool HL.out ?_)
    | (go_at_call 65; (with_reducible refine (HBD.out _).mono ?_); rintro e2 x2 ⟨rfl, hx⟩; have HA4 := am_ (HA3.out.grow hx); clear hx))
  refine wp_w (fun W => Ap w W g p #[.int .i64 5, .int .i64 (i : Int), .int .i64 ad, .int .i64 po, .int .i64 we, .int .u64 x, .int .u64 y]) ?_ ?_
  · first | exact HA4.out | exact HA4.out.drew
  intro w5 h5
  have HA5 := am_ h5
  clear h5 HA2 HA3 HA4 q0 q1 q2 q3 q4 q5 q6
  obtain ⟨q0, q1, q2, q3, q4, q5, q6⟩ := c7 HA5.out.ent
  obtain ⟨r0, r1, r2, r3, r4, r5, r6⟩ := HA5.out.pool.ring HL.out
  obtain ⟨c0, c1, c2, c3, c4⟩ := HA5.out.pool.slot HL.out HI.out
  rw [show p.s i = ⟨s0, s1, s2, s3, s4⟩ from HSS.out] at c0 c1 c2 c3 c4
  rw [show p.ep = ep from HEP.out] at r0
  refine start_ (n := 16) (S := fun w' => w'.cell? ⟨g + 1, 0, none⟩ = some (.int .i64 5) ∧ w'.cell? ⟨g + 1, 1, none⟩ = some (.int .i64 (i : Int)) ∧ w'.cell? ⟨g, 323, none⟩ = some (.int .i64 ep) ∧ w'.cell? ⟨g, 3 + i * 5 + 4, none⟩ = some (.int .i64 s4)) (ds := []) #[fF,fF,fF,fF,fF,fF,fF,fF,fF,fF,fF,fF,fF,fF,fF,fF] (by kernel_rfl) rfl rfl ⟨q0, q1, r0, c4⟩ (fun hHeld => ?_)
  refine p_ 0 18 ?_
  refine t_ 1 19 hHeld ?_
  refine p_ 2 20 ?_
  refine p_ 3 21 ?_
  refine p_ 4 22 ?_
  refine p_ 5 23 ?_
  refine p_ 7 25 ?_
  refine p_ 9 27 ?_
  refine t_ 6 24 hHeld ?_
  refine t_ 8 26 hHeld ?_
  refine p_ 10 28 ?_
  refine p_ 11 29 ?_
  refine t_ 12 30 hHeld ?_
  refine p_ 13 31 ?_
  refine p_ 14 32 ?_
  refine p_ 15 33 ?_
  refine done_ (by kernel_rfl) ?_
  obtain ⟨h0, h1, h2⟩ := HA5.out.pool.head
  have fr0 := HA5.out.pool.free 0
  go_upto_region 9 with fail
  refine wp_w (fun W => Ap w W g ({ p with ver := wrap64 (p.ver + 1) } : Po) #[.int .i64 5, .int .i64 (i : Int), .int .i64 ad, .int .i64 po, .int .i64 we, .int .u64 x, .int .u64 y]) ?_ ?_
  · first | exact HA5.out.drew.own ((Chg.refl g _).set _ _) (HA5.out.drew.pool.setver _) | exact (HA5.out.own ((Chg.refl g _).set _ _) (HA5.out.pool.setver _)).drew
  intro w6 h6
  have HA6 := am_ h6
  clear h6 HA5 q0 q1 q2 q3 q4 q5 q6 r0 r1 r2 r3 r4 r5 r6 c0 c1 c2 c3 c4 h0 h1 h2 fr0
  obtain ⟨q0, q1, q2, q3, q4, q5, q6⟩ := c7 HA6.out.ent
  obtain ⟨r0, r1, r2, r3, r4, r5, r6⟩ := HA6.out.pool.ring HL.out
  obtain ⟨c0, c1, c2, c3, c4⟩ := HA6.out.pool.slot HL.out HI.out
  rw [show ({ p with ver := wrap64 (p.ver + 1) } : Po).s i = ⟨s0, s1, s2, s3, s4⟩ from HSS.out] at c0 c1 c2 c3 c4
  rw [show ({ p with ver := wrap64 (p.ver + 1) } : Po).ep = ep from HEP.out] at r0
  obtain ⟨g7, hg7⟩ : ∃ n, w6.heap.size = n := ⟨_, rfl⟩
  go_upto_region 10 with fail
  refine wp_w (fun W => Ap w W g ({ p with ver := wrap64 (p.ver + 1) } : Po) #[.int .i64 5, .int .i64 (i : Int), .int .i64 ad, .int .i64 po, .int .i64 we, .int .u64 x, .int .u64 y] ∧ W.heap[g7]? = some (.cells #[.int .i64 s0, .int .i64 s1, .int .i64 s2, .int .i64 s3, .int .i64 s4] 25 (0, 0))) ?_ ?_
  · exact ⟨HA6.out.alloc _, by rw [← hg7]; exact new_blk w6 _⟩
  intro w7 h7
  have HA7 := am_ h7.1
  have HS7 := am_ h7.2
  have HG7 := am_ (show g + 2 < g7 from by rw [← hg7]; exact HA6.out.hi)
  clear h7 HA6 hg7 q0 q1 q2 q3 q4 q5 q6 r0 r1 r2 r3 r4 r5 r6 c0 c1 c2 c3 c4
  obtain ⟨q0, q1, q2, q3, q4, q5, q6⟩ := c7 HA7.out.ent
  obtain ⟨r0, r1, r2, r3, r4, r5, r6⟩ := HA7.out.pool.ring HL.out
  obtain ⟨c0, c1, c2, c3, c4⟩ := HA7.out.pool.slot HL.out HI.out
  rw [show ({ p with ver := wrap64 (p.ver + 1) } : Po).s i = ⟨s0, s1, s2, s3, s4⟩ from HSS.out] at c0 c1 c2 c3 c4
  rw [show ({ p with ver := wrap64 (p.ver + 1) } : Po).ep = ep from HEP.out] at r0
  obtain ⟨t0, t1, t2, t3, t4⟩ := c5 HS7.out
  obtain ⟨u0, u1, u2, u3, u4⟩ := f5 HS7.out 0
  have v0 := fr_ HA7.out.pool 323
  have v1 := fr_ HA7.out.pool 324
  have v2 := fr_ HA7.out.pool 325
  have v3 := fr_ HA7.out.pool 326
  have v4 := fr_ HA7.out.pool 327
  have v5 := fr_ HA7.out.pool 328
  have v6 := fr_ HA7.out.pool 329
  go_upto_region 23 with fail
  refine wp_w (fun W => Ap w W g ({ p with ver := wrap64 (p.ver + 1) } : Po) #[.int .i64 5, .int .i64 (i : Int), .int .i64 ad, .int .i64 po, .int .i64 we, .int .u64 x, .int .u64 y] ∧ W.heap[g7]? = some (.cells #[.int .i64 0, .int .i64 0, .int .i64 0, .int .i64 0, .int .i64 0] 25 (0, 0))) ?_ ?_
  · exact ⟨HA7.out.other (chg5 w7 g7 0 _ _ _ _ _) HG7.out, set5 (o := 0) HS7.out _ _ _ _ _⟩
  intro w8 h8
  have HA8 := am_ h8.1
  have HS8 := am_ h8.2
  clear h8 HA7 HS7 q0 q1 q2 q3 q4 q5 q6 r0 r1 r2 r3 r4 r5 r6 c0 c1 c2 c3 c4 t0 t1 t2 t3 t4 u0 u1 u2 u3 u4 v0 v1 v2 v3 v4 v5 v6
  obtain ⟨q0, q1, q2, q3, q4, q5, q6⟩ := c7 HA8.out.ent
  obtain ⟨c0, c1, c2, c3, c4⟩ := HA8.out.pool.slot HL.out HI.out
  obtain ⟨t0, t1, t2, t3, t4⟩ := c5 HS8.out
  obtain ⟨u0, u1, u2, u3, u4⟩ := f5 HA8.out.pool (3 + i * 5)
  go_upto_region 24 with fail
  refine wp_w (fun W => Ap w W g (({ p with ver := wrap64 (p.ver + 1) } : Po).put i ⟨0, 0, 0, 0, 0⟩) #[.int .i64 5, .int .i64 (i : Int), .int .i64 ad, .int .i64 po, .int .i64 we, .int .u64 x, .int .u64 y]) ?_ ?_
  · exact HA8.out.own (chg5 _ g _ _ _ _ _ _) (HA8.out.pool.put HL.out HI.out ⟨0, 0, 0, 0, 0⟩)
  intro w9 h9
  have HA9 := am_ h9
  have HLP := am_ (show (({ p with ver := wrap64 (p.ver + 1) } : Po).put i ⟨0, 0, 0, 0, 0⟩).sl.length = 64 from (Po.put_len _ _ _).trans HL.out)
  clear h9 HA8 HS8 q0 q1 q2 q3 q4 q5 q6 c0 c1 c2 c3 c4 t0 t1 t2 t3 t4 u0 u1 u2 u3 u4
  go_wp2_with (first
    | ((with_reducible refine gate_dst (N := 84) rfl ?_); (refine pool_load rfl rfl rfl HA9.out.pool HLP.out ?_))
    | ((with_reducible refine gate_store (t := 33) (p := 4) rfl ?_); (refine pool_store rfl rfl rfl rfl rfl HA9.out.res Po.z_len HLP.out ?_; intro wa hpa hca; have HPA := am_ hpa; have HCA := am_ hca; clear hpa hca)))
  refine bodyPost_ret (results_ct_row rfl _ _ (g + 2) 33 _ (0, 0) _ rfl HPA.out Tryz.underlying33 rfl (by rw [info34, Po.ag_size HLP.out])) rfl ⟨rfl, ?_⟩
  exact Chg.step HA9.out.below HCA.out (by have := HA9.out.lo; omega)
theorem apply_6 (p : Po) (hl : p.sl.length = 64) (i : Nat) (hi : i < 64) (ad po we x y : Int) (hk : EnOk ⟨6, 0, ad, po, we, ⟨x, y⟩⟩) (hi0' : i = 0) (hb : badR p 6 i ad po = false) (ep s0 s1 s2 s3 s4 : Int) (hep : p.ep = ep) (hss : p.s i = ⟨s0, s1, s2, s3, s4⟩) (w : World) :
    Calls Tryz.prog 24 #[.agg p.ag, .agg #[.int .i64 6, .int .i64 0, .int .i64 ad, .int .i64 po, .int .i64 we, .int .u64 x, .int .u64 y]] w fun e w' => e = .returned (.tuple #[.agg ((({ p with ver := wrap64 (p.ver + 1) } : Po).ring (wrap64 (ep + 1)) p.k1 p.k2 ⟨x, y⟩).put i ⟨s0, s1, s2, s3, s4⟩).ag, .int .i64 0]) ∧ Below w.heap.size w w' := by
  have HL := am_ hl
  subst hi0'
  have HCK := am_ (fun W => rcheck_ok hk (by decide) W)
  have HBD := am_ (fun W => show Calls Tryz.prog 65 #[.agg p.ag, .agg #[.int .i64 6, .int .i64 0, .int .i64 ad, .int .i64 po, .int .i64 we, .int .u64 x, .int .u64 y]] W fun e w' => e = .returned (.bool false) ∧ Below W.heap.size W w' from hb ▸ rbad_calls p hl 6 hk.k1 hk.k6 0 hi ad po we x y W)
  have HI := am_ hi
  have HEP := am_ hep
  have HSS := am_ hss
  clear hk hb hep hss
  go_enter Tryz.func24, Tryz.ntmps24
  go_upto_region 1 with (first
    | ((with_reducible refine gate_dst (N := 2) rfl ?_); refine pool_box (p := p) rfl rfl rfl ?_; intro g hg w1 hp1 hb1 hs1; have HP1 := am_ hp1; have HB1 := am_ hb1; have HGE := am_ hg; clear hp1 hb1 hg)
    | ((with_reducible refine gate_dst (N := 4) rfl ?_); refine pool_alloc rfl rfl ?_; intro g4 hg4 w4 hp4 hb4 hs4; have HP4 := am_ hp4; have HB4 := am_ hb4; have HG4 := am_ hg4; clear hp4 hb4 hs4 hg4))
  obtain rfl : g4 = g + 2 := by rw [← HG4.out, (box_at w1 hs1 _).2.2]
  refine wp_w (fun W => Ap w W g p #[.int .i64 6, .int .i64 0, .int .i64 ad, .int .i64 po, .int .i64 we, .int .u64 x, .int .u64 y]) ?_ ?_
  · exact ⟨(HP1.out.below (box_at w1 hs1 _).2.1).below HB4.out, bk_ (box_at w1 hs1 _).1 HB4.out, HP4.out, below_step (below_step HB1.out (box_at w1 hs1 _).2.1) HB4.out, Nat.le_of_eq HGE.out⟩
  intro w2 h2
  have HA2 := am_ h2
  obtain ⟨q0, q1, q2, q3, q4, q5, q6⟩ := c7 h2.ent
  clear h2 HB1 HP1 hs1 HP4 HB4 HG4
  go_upto_region 6 with (first
    | (go_at_call 64; (with_reducible refine (HCK.out _).mono ?_); rintro e1 x1 ⟨rfl, hx⟩; have HA3 := am_ (HA2.out.grow hx); obtain ⟨q0, q1, q2, q3, q4, q5, q6⟩ := c7 HA3.out.ent; clear hx)
    | ((with_reducible refine gate_dst (N := 14) rfl ?_); refine pool_load rfl rfl rfl HA3.out.pool HL.out ?_)
    | (go_at_call 65; (with_reducible refine (HBD.out _).mono ?_); rintro e2 x2 ⟨rfl, hx⟩; have HA4 := am_ (HA3.out.grow hx); clear hx))
  refine wp_w (fun W => Ap w W g p #[.int .i64 6, .int .i64 0, .int .i64 ad, .int .i64 po, .int .i64 we, .int .u64 x, .int .u64 y]) ?_ ?_
  · first | exact HA4.out | exact HA4.out.drew
  intro w5 h5
  have HA5 := am_ h5
  clear h5 HA2 HA3 HA4 q0 q1 q2 q3 q4 q5 q6
  obtain ⟨q0, q1, q2, q3, q4, q5, q6⟩ := c7 HA5.out.ent
  obtain ⟨r0, r1, r2, r3, r4, r5, r6⟩ := HA5.out.pool.ring HL.out
  obtain ⟨c0, c1, c2, c3, c4⟩ := HA5.out.pool.slot HL.out (i := 0) HI.out
  simp only [Nat.zero_mul, Nat.add_zero, Nat.reduceAdd] at c0 c1 c2 c3 c4
  rw [show p.s 0 = ⟨s0, s1, s2, s3, s4⟩ from HSS.out] at c0 c1 c2 c3 c4
  rw [show p.ep = ep from HEP.out] at r0
  refine start_ (n := 16) (S := fun w' => w'.cell? ⟨g + 1, 0, none⟩ = some (.int .i64 6)) (ds := []) #[fF,fF,fF,fF,fF,fF,fF,fF,fF,fF,fF,fF,fF,fF,fF,fF] (by kernel_rfl) rfl rfl (q0) (fun hHeld => ?_)
  refine p_ 0 18 ?_
  refine t_ 1 19 hHeld ?_
  refine p_ 2 20 ?_
  refine p_ 3 21 ?_
  refine u_ 4 22 ?_
  refine u_ 5 23 ?_
  refine u_ 6 24 ?_
  refine u_ 7 25 ?_
  refine u_ 8 26 ?_
  refine u_ 9 27 ?_
  refine u_ 10 28 ?_
  refine u_ 11 29 ?_
  refine u_ 12 30 ?_
  refine u_ 13 31 ?_
  refine u_ 14 32 ?_
  refine p_ 15 33 ?_
  refine done_ (by kernel_rfl) ?_
  obtain ⟨h0, h1, h2⟩ := HA5.out.pool.head
  have fr0 := HA5.out.pool.free 0
  go_upto_region 9 with fail
  refine wp_w (fun W => Ap w W g ({ p with ver := wrap64 (p.ver + 1) } : Po) #[.int .i64 6, .int .i64 0, .int .i64 ad, .int .i64 po, .int .i64 we, .int .u64 x, .int .u64 y]) ?_ ?_
  · first | exact HA5.out.drew.own ((Chg.refl g _).set _ _) (HA5.out.drew.pool.setver _) | exact (HA5.out.own ((Chg.refl g _).set _ _) (HA5.out.pool.setver _)).drew
  intro w6 h6
  have HA6 := am_ h6
  clear h6 HA5 q0 q1 q2 q3 q4 q5 q6 r0 r1 r2 r3 r4 r5 r6 c0 c1 c2 c3 c4 h0 h1 h2 fr0
  obtain ⟨q0, q1, q2, q3, q4, q5, q6⟩ := c7 HA6.out.ent
  obtain ⟨r0, r1, r2, r3, r4, r5, r6⟩ := HA6.out.pool.ring HL.out
  obtain ⟨c0, c1, c2, c3, c4⟩ := HA6.out.pool.slot HL.out (i := 0) HI.out
  simp only [Nat.zero_mul, Nat.add_zero, Nat.reduceAdd] at c0 c1 c2 c3 c4
  rw [show ({ p with ver := wrap64 (p.ver + 1) } : Po).s 0 = ⟨s0, s1, s2, s3, s4⟩ from HSS.out] at c0 c1 c2 c3 c4
  rw [show ({ p with ver := wrap64 (p.ver + 1) } : Po).ep = ep from HEP.out] at r0
  obtain ⟨g7, hg7⟩ : ∃ n, w6.heap.size = n := ⟨_, rfl⟩
  go_upto_region 10 with fail
  refine wp_w (fun W => Ap w W g ({ p with ver := wrap64 (p.ver + 1) } : Po) #[.int .i64 6, .int .i64 0, .int .i64 ad, .int .i64 po, .int .i64 we, .int .u64 x, .int .u64 y] ∧ W.heap[g7]? = some (.cells #[.int .i64 s0, .int .i64 s1, .int .i64 s2, .int .i64 s3, .int .i64 s4] 25 (0, 0))) ?_ ?_
  · exact ⟨HA6.out.alloc _, by rw [← hg7]; exact new_blk w6 _⟩
  intro w7 h7
  have HA7 := am_ h7.1
  have HS7 := am_ h7.2
  have HG7 := am_ (show g + 2 < g7 from by rw [← hg7]; exact HA6.out.hi)
  clear h7 HA6 hg7 q0 q1 q2 q3 q4 q5 q6 r0 r1 r2 r3 r4 r5 r6 c0 c1 c2 c3 c4
  obtain ⟨q0, q1, q2, q3, q4, q5, q6⟩ := c7 HA7.out.ent
  obtain ⟨r0, r1, r2, r3, r4, r5, r6⟩ := HA7.out.pool.ring HL.out
  obtain ⟨c0, c1, c2, c3, c4⟩ := HA7.out.pool.slot HL.out (i := 0) HI.out
  simp only [Nat.zero_mul, Nat.add_zero, Nat.reduceAdd] at c0 c1 c2 c3 c4
  rw [show ({ p with ver := wrap64 (p.ver + 1) } : Po).s 0 = ⟨s0, s1, s2, s3, s4⟩ from HSS.out] at c0 c1 c2 c3 c4
  rw [show ({ p with ver := wrap64 (p.ver + 1) } : Po).ep = ep from HEP.out] at r0
  obtain ⟨t0, t1, t2, t3, t4⟩ := c5 HS7.out
  obtain ⟨u0, u1, u2, u3, u4⟩ := f5 HS7.out 0
  have v0 := fr_ HA7.out.pool 323
  have v1 := fr_ HA7.out.pool 324
  have v2 := fr_ HA7.out.pool 325
  have v3 := fr_ HA7.out.pool 326
  have v4 := fr_ HA7.out.pool 327
  have v5 := fr_ HA7.out.pool 328
  have v6 := fr_ HA7.out.pool 329
  have HNX := am_ (fun W => roundhouseref5_Next.calls ep p.k0.a p.k0.b p.k1.a p.k1.b p.k2.a p.k2.b x y _ _ _ _ _ _ _ W rfl)
  have ALLR := am_ (fun W (hW : Ap w W g ({ p with ver := wrap64 (p.ver + 1) } : Po) #[.int .i64 6, .int .i64 0, .int .i64 ad, .int .i64 po, .int .i64 we, .int .u64 x, .int .u64 y]) => hW.pool.ring HL.out)
  go_upto_region 23 with (first | (go_at_call 66; ((with_reducible refine (HNX.out _).mono ?_); rintro e3 x3 ⟨rfl, hx⟩; have HA7' := am_ (HA7.out.grow hx); have HS7' := am_ (bk_ HS7.out hx); obtain ⟨r0, r1, r2, r3, r4, r5, r6⟩ := HA7'.out.pool.ring HL.out; have v0 := fr_ HA7'.out.pool 323; have v1 := fr_ HA7'.out.pool 324; have v2 := fr_ HA7'.out.pool 325; have v3 := fr_ HA7'.out.pool 326; have v4 := fr_ HA7'.out.pool 327; have v5 := fr_ HA7'.out.pool 328; have v6 := fr_ HA7'.out.pool 329; clear hx)))
  refine wp_w (fun W => Ap w W g (({ p with ver := wrap64 (p.ver + 1) } : Po).ring (wrap64 (ep + 1)) p.k1 p.k2 ⟨x, y⟩) #[.int .i64 6, .int .i64 0, .int .i64 ad, .int .i64 po, .int .i64 we, .int .u64 x, .int .u64 y] ∧ W.heap[g7]? = some (.cells #[.int .i64 s0, .int .i64 s1, .int .i64 s2, .int .i64 s3, .int .i64 s4] 25 (0, 0))) ?_ ?_
  · exact ⟨HA7'.out.own (chg7 _ g _ _ _ _ _ _ _) (HA7'.out.pool.setring HL.out _ _ _ ⟨x, y⟩), (((chg7 _ g _ _ _ _ _ _ _).block g7 (by have := HG7.out; omega)).trans HS7'.out)⟩
  intro w8 h8
  have HA8 := am_ h8.1
  have HS8 := am_ h8.2
  clear h8 HA7' HS7' HA7 HS7 q0 q1 q2 q3 q4 q5 q6 r0 r1 r2 r3 r4 r5 r6 c0 c1 c2 c3 c4 t0 t1 t2 t3 t4 u0 u1 u2 u3 u4 v0 v1 v2 v3 v4 v5 v6
  obtain ⟨q0, q1, q2, q3, q4, q5, q6⟩ := c7 HA8.out.ent
  obtain ⟨c0, c1, c2, c3, c4⟩ := HA8.out.pool.slot HL.out (i := 0) HI.out
  obtain ⟨t0, t1, t2, t3, t4⟩ := c5 HS8.out
  obtain ⟨u0, u1, u2, u3, u4⟩ := f5 HA8.out.pool (3)
  simp only [Nat.zero_mul, Nat.add_zero, Nat.reduceAdd] at c0 c1 c2 c3 c4 u0 u1 u2 u3 u4
  go_upto_region 24 with fail
  refine wp_w (fun W => Ap w W g ((({ p with ver := wrap64 (p.ver + 1) } : Po).ring (wrap64 (ep + 1)) p.k1 p.k2 ⟨x, y⟩).put 0 ⟨s0, s1, s2, s3, s4⟩) #[.int .i64 6, .int .i64 0, .int .i64 ad, .int .i64 po, .int .i64 we, .int .u64 x, .int .u64 y]) ?_ ?_
  · exact HA8.out.own (chg5 _ g _ _ _ _ _ _) (HA8.out.pool.put HL.out (i := 0) HI.out ⟨s0, s1, s2, s3, s4⟩)
  intro w9 h9
  have HA9 := am_ h9
  have HLP := am_ (show ((({ p with ver := wrap64 (p.ver + 1) } : Po).ring (wrap64 (ep + 1)) p.k1 p.k2 ⟨x, y⟩).put 0 ⟨s0, s1, s2, s3, s4⟩).sl.length = 64 from (Po.put_len _ _ _).trans HL.out)
  clear h9 HA8 HS8 q0 q1 q2 q3 q4 q5 q6 c0 c1 c2 c3 c4 t0 t1 t2 t3 t4 u0 u1 u2 u3 u4
  go_wp2_with (first
    | ((with_reducible refine gate_dst (N := 84) rfl ?_); (refine pool_load rfl rfl rfl HA9.out.pool HLP.out ?_))
    | ((with_reducible refine gate_store (t := 33) (p := 4) rfl ?_); (refine pool_store rfl rfl rfl rfl rfl HA9.out.res Po.z_len HLP.out ?_; intro wa hpa hca; have HPA := am_ hpa; have HCA := am_ hca; clear hpa hca)))
  refine bodyPost_ret (results_ct_row rfl _ _ (g + 2) 33 _ (0, 0) _ rfl HPA.out Tryz.underlying33 rfl (by rw [info34, Po.ag_size HLP.out])) rfl ⟨rfl, ?_⟩
  exact Chg.step HA9.out.below HCA.out (by have := HA9.out.lo; omega)
def Po.up (p : Po) : Po := { p with ver := wrap64 (p.ver + 1) }
def appliedR (p : Po) (e : En) (i : Nat) : Po :=
  if e.kind = 1 then p.up.put i ⟨1, e.ad, e.po, e.we, 0⟩
  else if e.kind = 2 then p.up.put i ⟨2, (p.s i).ad, (p.s i).po, (p.s i).we, (p.s i).si⟩
  else if e.kind = 3 then p.up.put i ⟨3, (p.s i).ad, (p.s i).po, (p.s i).we, (p.s i).si⟩
  else if e.kind = 4 then p.up.put i ⟨4, (p.s i).ad, (p.s i).po, (p.s i).we, p.ep⟩
  else if e.kind = 5 then p.up.put i ⟨0, 0, 0, 0, 0⟩
  else (p.up.ring (wrap64 (p.ep + 1)) p.k1 p.k2 e.key).put i (p.s i)
def applyR (p : Po) (e : En) : Po × Int :=
  if 63 < e.slot then (Po.z, 11)
  else if badR p e.kind e.slot.toNat e.ad e.po = true then (Po.z, 12)
  else if e.kind = 5 ∧ p.ep < wrap64 ((p.s e.slot.toNat).si + 3) then (Po.z, 13)
  else (appliedR p e e.slot.toNat, 0)
theorem rapply_calls (p : Po) (hl : p.sl.length = 64) {e : En} (he : EnOk e) (w : World) :
    Calls Tryz.prog 24 #[.agg p.ag, .agg #[.int .i64 e.kind, .int .i64 e.slot, .int .i64 e.ad, .int .i64 e.po, .int .i64 e.we, .int .u64 e.key.a, .int .u64 e.key.b]] w fun e' w' => e' = .returned (.tuple #[.agg (applyR p e).1.ag, .int .i64 (applyR p e).2]) ∧ Below w.heap.size w w' := by
  obtain ⟨k, s, ad, po, we, ⟨x, y⟩⟩ := e
  have h0 := he.s0
  have hk1 := he.k1
  have hk6 := he.k6
  simp only at h0 hk1 hk6
  unfold applyR
  simp only
  by_cases hs : 63 < s
  · rw [if_pos hs]
    exact apply_slot p hl k s ad po we x y he hs w
  rw [if_neg hs]
  obtain ⟨i, rfl⟩ := Int.eq_ofNat_of_zero_le h0
  have hi : i < 64 := by omega
  rw [Int.toNat_natCast]
  by_cases hb : badR p k i ad po = true
  · rw [if_pos hb]
    exact apply_bad p hl k i hi ad po we x y he hb w
  rw [if_neg hb]
  have hb' : badR p k i ad po = false := by simpa using hb
  obtain ⟨⟨s0, s1, s2, s3, s4⟩, hss⟩ : ∃ x, p.s i = x := ⟨_, rfl⟩
  by_cases hsoon : k = 5 ∧ p.ep < wrap64 ((p.s i).si + 3)
  · rw [if_pos hsoon]
    obtain ⟨rfl, hq⟩ := hsoon
    exact apply_soon p hl i hi ad po we x y he hb' hq w
  rw [if_neg hsoon]
  unfold appliedR
  simp only [hss] at hsoon ⊢
  have hk : k = 1 ∨ k = 2 ∨ k = 3 ∨ k = 4 ∨ k = 5 ∨ k = 6 := by omega
  rcases hk with rfl | rfl | rfl | rfl | rfl | rfl
  · exact apply_1 p hl i hi ad po we x y he hb' p.ep s0 s1 s2 s3 s4 rfl hss w
  · exact apply_2 p hl i hi ad po we x y he hb' p.ep s0 s1 s2 s3 s4 rfl hss w
  · exact apply_3 p hl i hi ad po we x y he hb' p.ep s0 s1 s2 s3 s4 rfl hss w
  · exact apply_4 p hl i hi ad po we x y he hb' p.ep s0 s1 s2 s3 s4 rfl hss w
  · exact apply_5 p hl i hi ad po we x y he hb' p.ep s0 s1 s2 s3 s4 rfl hss (fun h => hsoon ⟨rfl, h⟩) w
  · have hi0 : i = 0 := by have := he.rot rfl; simp only at this; omega
    subst hi0
    exact apply_6 p hl 0 hi ad po we x y he rfl hb' p.ep s0 s1 s2 s3 s4 rfl hss w
theorem wn6 (a : Int) : roundhouselaw6_within.f a 1125899906842624 = some (a % 1125899906842624) := by
  unfold roundhouselaw6_within.f
  rw [if_neg (by decide)]
  have h1 := Int.emod_nonneg a (show (1125899906842624 : Int) ≠ 0 by decide)
  have h2 := Int.emod_lt_of_pos a (show (0 : Int) < 1125899906842624 by decide)
  have h3 : a.tmod 1125899906842624 = a % 1125899906842624 ∨ a.tmod 1125899906842624 = a % 1125899906842624 - 1125899906842624 := by
    rw [Int.tmod_eq_emod]
    split <;> simp
  by_cases h : a.tmod 1125899906842624 < 0
  · rw [if_pos h]
    rcases h3 with h3 | h3
    · omega
    · rw [h3, wid (by omega) (by omega)]; congr 1; omega
  · rw [if_neg h]
    rcases h3 with h3 | h3
    · rw [h3]
    · omega
theorem entry_some (n : Int) : ∃ e : En, EnOk e ∧ roundhouselaw6_Entry.f 3 n = some (e.kind, e.slot, e.ad, e.po, e.we, e.key.a, e.key.b) := by
  unfold roundhouselaw6_Entry.f
  rw [wn6, Option.bind_some]
  obtain ⟨t, ht⟩ : ∃ t, n % 1125899906842624 = t := ⟨_, rfl⟩
  have h1 := Int.emod_nonneg n (show (1125899906842624 : Int) ≠ 0 by decide)
  have h2 := Int.emod_lt_of_pos n (show (0 : Int) < 1125899906842624 by decide)
  rw [ht] at h1 h2 ⊢
  have key : ∀ s : Int, 0 ≤ s → s ≤ 1000 → ∃ e : En, EnOk e ∧ roundhouselaw6_Entry.j0 3 t s = some (e.kind, e.slot, e.ad, e.po, e.we, e.key.a, e.key.b) := by
    intro s hs0 hs1
    have h8 : t.tmod 8 = t % 8 := Int.tmod_eq_emod_of_nonneg h1
    have hw : ∀ x : Int, 0 ≤ x → x ≤ 1125899906842624 → wrap64 x = x := fun x a b => wid (by omega) (by omega)
    have hq : ∀ m : Int, 0 < m → 0 ≤ t.tdiv m ∧ t.tdiv m ≤ 1125899906842624 := by
      intro m hm
      rw [Int.tdiv_eq_ediv_of_nonneg h1]
      exact ⟨Int.ediv_nonneg h1 (by omega), Int.le_trans (Int.ediv_le_self _ h1) (by omega)⟩
    have bind : ∃ e : En, EnOk e ∧ (some ((1 : Int), s, Int.tmod (wrap64 (Int.tdiv t 400)) 5, Int.tmod (wrap64 (Int.tdiv t 2000)) 3, wrap64 (1 + (Int.tmod (wrap64 (Int.tdiv t 6000)) 8)), (0 : Int), (0 : Int))) = some (e.kind, e.slot, e.ad, e.po, e.we, e.key.a, e.key.b) := by
      have a := hq 400 (by decide)
      have b := hq 2000 (by decide)
      have c := hq 6000 (by decide)
      rw [hw _ a.1 a.2, hw _ b.1 b.2, hw _ c.1 c.2, Int.tmod_eq_emod_of_nonneg a.1, Int.tmod_eq_emod_of_nonneg b.1, Int.tmod_eq_emod_of_nonneg c.1, hw (1 + _) (by omega) (by omega)]
      exact ⟨⟨1, s, _, _, _, ⟨0, 0⟩⟩, ⟨by simp, by simp, hs0, hs1, by simp, fun _ => ⟨by simp only; omega, by simp only; omega, by simp only; omega, by simp only; omega, by simp only; omega, by simp only; omega⟩, fun h => absurd rfl h, fun _ => rfl⟩, rfl⟩
    have plain : ∀ k : Int, 2 ≤ k → k ≤ 5 → ∃ e : En, EnOk e ∧ (some (k, s, (0 : Int), (0 : Int), (0 : Int), (0 : Int), (0 : Int))) = some (e.kind, e.slot, e.ad, e.po, e.we, e.key.a, e.key.b) := by
      intro k h2 h5
      exact ⟨⟨k, s, 0, 0, 0, ⟨0, 0⟩⟩, ⟨by simp only; omega, by simp only; omega, hs0, hs1, by simp only; omega, by simp only; omega, fun _ => ⟨rfl, rfl, rfl⟩, fun _ => rfl⟩, rfl⟩
    have j1 : ∀ m : Int, 0 ≤ m → m < 8 → ∀ b : Bool, ∃ e : En, EnOk e ∧ roundhouselaw6_Entry.j1 2 t s m b = some (e.kind, e.slot, e.ad, e.po, e.we, e.key.a, e.key.b) := by
      intro m hm0 hm8 b
      simp -implicitDefEqProofs only [roundhouselaw6_Entry.j1]
      by_cases hb : b = true
      · rw [if_pos hb]; exact bind
      rw [if_neg hb]
      by_cases e2 : m = 2
      · rw [if_pos e2]; exact plain 2 (by decide) (by decide)
      rw [if_neg e2]
      by_cases e3 : m = 3
      · rw [if_pos e3]; exact plain 3 (by decide) (by decide)
      rw [if_neg e3]
      by_cases e4 : m = 4
      · rw [if_pos e4]; exact plain 4 (by decide) (by decide)
      rw [if_neg e4]
      by_cases e5 : m = 5
      · rw [if_pos e5]; exact plain 5 (by decide) (by decide)
      rw [if_neg e5]
      exact ⟨⟨6, 0, 0, 0, 0, ⟨_, _⟩⟩, ⟨by simp, by simp, by simp, by simp, by simp, by simp, fun _ => ⟨rfl, rfl, rfl⟩, fun h => absurd rfl h⟩, rfl⟩
    have e0 : 0 ≤ t.tmod 8 ∧ t.tmod 8 < 8 := by rw [h8]; omega
    simp -implicitDefEqProofs only [roundhouselaw6_Entry.j0]
    by_cases h : t.tmod 8 = 0
    · rw [if_pos h]; exact j1 _ e0.1 e0.2 _
    · rw [if_neg h]; exact j1 _ e0.1 e0.2 _
  have hw : ∀ x : Int, 0 ≤ x → x ≤ 1125899906842624 → wrap64 x = x := fun x a b => wid (by omega) (by omega)
  have a : 0 ≤ t.tdiv 48 ∧ t.tdiv 48 ≤ 1125899906842624 := by
    rw [Int.tdiv_eq_ediv_of_nonneg h1]; omega
  have b : 0 ≤ t.tdiv 8 ∧ t.tdiv 8 ≤ 1125899906842624 := by
    rw [Int.tdiv_eq_ediv_of_nonneg h1]; omega
  rw [hw _ a.1 a.2, hw _ b.1 b.2]
  by_cases h : (t.tdiv 48).tmod 29 = 0
  · rw [if_pos h]
    refine key _ ?_ ?_ <;> · rw [Int.tmod_eq_emod_of_nonneg a.1]; omega
  · rw [if_neg h]
    refine key _ ?_ ?_ <;> · rw [Int.tmod_eq_emod_of_nonneg b.1]; omega
theorem entry_calls (n : Int) (w : World) : ∃ e : En, EnOk e ∧ ∀ w, Calls Tryz.prog 25 #[.int .i64 n] w fun e' w' => e' = .returned (.agg #[.int .i64 e.kind, .int .i64 e.slot, .int .i64 e.ad, .int .i64 e.po, .int .i64 e.we, .int .u64 e.key.a, .int .u64 e.key.b]) ∧ Below w.heap.size w w' := by
  obtain ⟨e, he, h⟩ := entry_some n
  exact ⟨e, he, fun w => roundhouselaw6_Entry.calls 3 n _ _ _ _ _ _ _ w h⟩
/-- A pool behind m entries at most. -/
structure Inv (p : Po) (m : Nat) : Prop where
  len : p.sl.length = 64
  st : ∀ i, i < 64 → 0 ≤ (p.s i).st ∧ (p.s i).st ≤ 4
  dis : ∀ i j, i < 64 → j < 64 → i ≠ j → (p.s i).st ≠ 0 → (p.s j).st ≠ 0 → ¬ ((p.s i).ad = (p.s j).ad ∧ (p.s i).po = (p.s j).po)
  own : ∀ i, i < 64 → (p.s i).st ≠ 0 → ¬ (p.ad = (p.s i).ad ∧ p.po = (p.s i).po)
  pl : ∀ i, i < 64 → 0 ≤ (p.s i).ad ∧ (p.s i).ad ≤ 4294967295 ∧ 0 ≤ (p.s i).po ∧ (p.s i).po ≤ 65535
  we : ∀ i, i < 64 → (p.s i).st ≠ 0 → 1 ≤ (p.s i).we ∧ (p.s i).we ≤ 8
  si : ∀ i, i < 64 → 0 ≤ (p.s i).si ∧ (p.s i).si ≤ p.ep
  ep : 1 ≤ p.ep ∧ p.ep ≤ 1 + m
  ad : p.ad = 10
  po : p.po = 80
theorem heldR_false {p : Po} {ad po : Int} : ∀ (k i : Nat), heldR p ad po k i = false → (∀ j, i ≤ j → j < i + k → ¬ ((p.s j).st ≠ 0 ∧ (p.s j).ad = ad ∧ (p.s j).po = po)) ∧ ¬ (p.ad = ad ∧ p.po = po)
  | 0, i, h => ⟨fun j h1 h2 => by omega, by
      simp only [heldR, Bool.and_eq_false_iff, beq_eq_false_iff_ne] at h
      rintro ⟨h1, h2⟩
      rcases h with h | h
      · exact h h1
      · exact h h2⟩
  | k + 1, i, h => by
    rw [heldR] at h
    split at h
    · cases h
    · rename_i hn
      obtain ⟨h1, h2⟩ := heldR_false k (i + 1) h
      refine ⟨fun j hj hk => ?_, h2⟩
      by_cases e : j = i
      · subst e; exact hn
      · exact h1 j (by omega) (by omega)
/-- One slot anew. -/
theorem Inv.put {p : Po} {m : Nat} (h : Inv p m) {i : Nat} (hi : i < 64) (s : Sl) (hs : 0 ≤ s.st ∧ s.st ≤ 4)
    (hd : s.st ≠ 0 → ∀ j, j < 64 → j ≠ i → (p.s j).st ≠ 0 → ¬ ((p.s j).ad = s.ad ∧ (p.s j).po = s.po)) (ho : s.st ≠ 0 → ¬ (p.ad = s.ad ∧ p.po = s.po))
    (hp : 0 ≤ s.ad ∧ s.ad ≤ 4294967295 ∧ 0 ≤ s.po ∧ s.po ≤ 65535) (hw : s.st ≠ 0 → 1 ≤ s.we ∧ s.we ≤ 8) (hsi : 0 ≤ s.si ∧ s.si ≤ p.ep) : Inv (p.up.put i s) (m + 1) := by
  have hl : p.up.sl.length = 64 := h.len
  have e : ∀ j, (p.up.put i s).s j = if j = i then s else p.s j := by
    intro j
    by_cases hj : j = i
    · subst hj; rw [if_pos rfl, Po.s_put_same s (by omega)]
    · rw [if_neg hj, Po.s_put_other s (fun h => hj h.symm)]; rfl
  refine ⟨(Po.put_len _ _ _).trans hl, ?_, ?_, ?_, ?_, ?_, ?_, ?_, h.ad, h.po⟩
  · intro j hj; rw [e]; split
    · exact hs
    · exact h.st j hj
  · intro a b ha hb hab h1 h2
    rw [e] at h1 h2
    rw [e a, e b]
    by_cases h3 : a = i
    · rw [if_pos h3] at h1 ⊢
      rw [if_neg (by omega)] at h2 ⊢
      rintro ⟨h4, h5⟩
      exact hd h1 b hb (by omega) h2 ⟨h4.symm, h5.symm⟩
    · rw [if_neg h3] at h1 ⊢
      by_cases h4 : b = i
      · rw [if_pos h4] at h2 ⊢
        exact hd h2 a ha h3 h1
      · rw [if_neg h4] at h2 ⊢
        exact h.dis a b ha hb hab h1 h2
  · intro j hj h1
    rw [e] at h1 ⊢
    by_cases h3 : j = i
    · rw [if_pos h3] at h1 ⊢; exact ho h1
    · rw [if_neg h3] at h1 ⊢; exact h.own j hj h1
  · intro j hj; rw [e]; split
    · exact hp
    · exact h.pl j hj
  · intro j hj h1
    rw [e] at h1 ⊢
    by_cases h3 : j = i
    · rw [if_pos h3] at h1 ⊢; exact hw h1
    · rw [if_neg h3] at h1 ⊢; exact h.we j hj h1
  · intro j hj; rw [e]; show _ ∧ _ ≤ p.ep; split
    · exact hsi
    · exact h.si j hj
  · have := h.ep; show 1 ≤ p.ep ∧ p.ep ≤ _; omega
theorem Po.put_self {p : Po} {i : Nat} (h : i < p.sl.length) : p.put i (p.s i) = p := by
  unfold Po.put Po.s
  have : p.sl.set i (p.sl.getD i Sl.z) = p.sl := by
    rw [List.getD_eq_getElem?_getD, List.getElem?_eq_getElem h, Option.getD_some]
    exact List.set_getElem_self h
  rw [this]
theorem inv_apply {p : Po} {m : Nat} (h : Inv p m) (hm : m ≤ 1000) {e : En} (he : EnOk e) (h0 : (applyR p e).2 = 0) : Inv (applyR p e).1 (m + 1) := by
  unfold applyR at h0 ⊢
  by_cases hs : 63 < e.slot
  · rw [if_pos hs] at h0; simp at h0
  rw [if_neg hs] at h0 ⊢
  by_cases hb : badR p e.kind e.slot.toNat e.ad e.po = true
  · rw [if_pos hb] at h0; simp at h0
  rw [if_neg hb] at h0 ⊢
  by_cases hq : e.kind = 5 ∧ p.ep < wrap64 ((p.s e.slot.toNat).si + 3)
  · rw [if_pos hq] at h0; simp at h0
  rw [if_neg hq]
  show Inv (appliedR p e e.slot.toNat) (m + 1)
  obtain ⟨i, hi⟩ : ∃ i, e.slot.toNat = i := ⟨_, rfl⟩
  rw [hi] at hb ⊢
  have hi64 : i < 64 := by have := he.s0; omega
  have hb' : badR p e.kind i e.ad e.po = false := by simpa using hb
  unfold appliedR
  have hst := h.st i hi64
  have hpl := h.pl i hi64
  have hsi := h.si i hi64
  by_cases k1 : e.kind = 1
  · rw [if_pos k1]
    rw [k1] at hb'
    unfold badR at hb'
    rw [if_pos rfl] at hb'
    split at hb'
    · rename_i hz
      obtain ⟨a, b⟩ := heldR_false 64 0 hb'
      have hbd := he.bind k1
      exact h.put hi64 _ ⟨by simp, by simp⟩ (fun _ j hj hne hs hh => a j (by omega) (by omega) ⟨hs, hh⟩) (fun _ => b) ⟨hbd.1, hbd.2.1, hbd.2.2.1, hbd.2.2.2.1⟩ (fun _ => ⟨hbd.2.2.2.2.1, hbd.2.2.2.2.2⟩) ⟨by simp, by have := h.ep; show (0 : Int) ≤ p.ep; omega⟩
    · cases hb'
  rw [if_neg k1]
  have keep : ∀ (x : Int) (y : Int), 1 ≤ x → x ≤ 4 → (p.s i).st ≠ 0 → 0 ≤ y ∧ y ≤ p.ep → Inv (p.up.put i ⟨x, (p.s i).ad, (p.s i).po, (p.s i).we, y⟩) (m + 1) := by
    intro x y h1 h4 hne hy
    exact h.put hi64 _ ⟨by show 0 ≤ x; omega, h4⟩ (fun _ j hj hji hs => h.dis j i hj hi64 hji hs hne) (fun _ => h.own i hi64 hne) hpl (fun _ => h.we i hi64 hne) hy
  by_cases k2 : e.kind = 2
  · rw [if_pos k2]
    rw [k2] at hb'
    simp [badR] at hb'
    exact keep 2 _ (by decide) (by decide) (by intro h; rw [h] at hb'; simp at hb') hsi
  rw [if_neg k2]
  by_cases k3 : e.kind = 3
  · rw [if_pos k3]
    rw [k3] at hb'
    simp [badR] at hb'
    exact keep 3 _ (by decide) (by decide) (by rw [hb']; decide) hsi
  rw [if_neg k3]
  by_cases k4 : e.kind = 4
  · rw [if_pos k4]
    rw [k4] at hb'
    simp [badR] at hb'
    exact keep 4 _ (by decide) (by decide) (by intro h; rw [h] at hb'; simp at hb') ⟨by have := h.ep; omega, Int.le_refl _⟩
  rw [if_neg k4]
  by_cases k5 : e.kind = 5
  · rw [if_pos k5]
    exact h.put hi64 _ ⟨by simp, by simp⟩ (fun hh => absurd rfl hh) (fun hh => absurd rfl hh) ⟨by simp, by simp, by simp, by simp⟩ (fun hh => absurd rfl hh) ⟨by simp, by have := h.ep; show (0 : Int) ≤ p.ep; omega⟩
  rw [if_neg k5]
  have hw : wrap64 (p.ep + 1) = p.ep + 1 := wid (by have := h.ep; omega) (by have := h.ep; omega)
  have hl : (p.up.ring (wrap64 (p.ep + 1)) p.k1 p.k2 e.key).sl.length = 64 := h.len
  have es : (p.up.ring (wrap64 (p.ep + 1)) p.k1 p.k2 e.key).put i (p.s i) = p.up.ring (wrap64 (p.ep + 1)) p.k1 p.k2 e.key :=
    Po.put_self (p := p.up.ring (wrap64 (p.ep + 1)) p.k1 p.k2 e.key) (by omega)
  rw [es]
  exact ⟨h.len, h.st, h.dis, h.own, h.pl, h.we, fun j hj => ⟨(h.si j hj).1, by show _ ≤ wrap64 (p.ep + 1); rw [hw]; have := (h.si j hj).2; show (p.s j).si ≤ _; omega⟩, by show 1 ≤ wrap64 (p.ep + 1) ∧ wrap64 (p.ep + 1) ≤ _; rw [hw]; have := h.ep; omega, h.ad, h.po⟩
theorem Po.new_s (ad po : Int) (k n : Ky) (i : Nat) : (Po.new ad po k n).s i = Sl.z := by
  unfold Po.s Po.new
  rw [List.getD_eq_getElem?_getD, List.getElem?_replicate]
  split <;> rfl
theorem inv_new (k n : Ky) : Inv (Po.new 10 80 k n) 0 := by
  refine ⟨Po.new_len _ _ _ _, ?_, ?_, ?_, ?_, ?_, ?_, ⟨by show (1 : Int) ≤ 1; decide, by show (1 : Int) ≤ _; omega⟩, rfl, rfl⟩
  all_goals intro i
  · intro _; rw [Po.new_s]; simp [Sl.z]
  · intro j _ _ _ h; rw [Po.new_s] at h; exact absurd rfl h
  · intro _ h; rw [Po.new_s] at h; exact absurd rfl h
  · intro _; rw [Po.new_s]; simp [Sl.z]
  · intro _ h; rw [Po.new_s] at h; exact absurd rfl h
  · intro _; rw [Po.new_s]; show _ ∧ _ ≤ (1 : Int); simp [Sl.z]
theorem Inv.more {p : Po} {m n : Nat} (h : Inv p m) (hn : m ≤ n) : Inv p n := ⟨h.len, h.st, h.dis, h.own, h.pl, h.we, h.si, ⟨h.ep.1, by have := h.ep.2; omega⟩, h.ad, h.po⟩
theorem alloc34_run {o : Oper} {ρ : Operand → Value} (W : World) (ho : o.op = .alloc 33) : (execOp ρ o).run Tryz.prog W = .ok (.value (.pointer (some ⟨W.heap.size, 0, none⟩))) (W.alloc (.cells Po.z.ag 33)) := by
  obtain ⟨i0, hi, hz⟩ := Option.map_eq_some_iff.1 zero34
  simp only [Prod.mk.injEq] at hz
  have : execOp ρ o = (do pure (.value (← Instr.alloc 33 true (.tuple #[])))) := by simp only [execOp, ho]
  rw [this]
  simp [Instr.alloc, zeroValue, typeInfo, hi, hz.1, go_sem, newVar, newRow, Value.cells, Sem.run_bind, Result.andThen]
theorem store34_run {o : Oper} {a : Act} {x y : Operand} {p q : Po} {g : Nat} (W : World) (ho : o.op = .store 33 x y) (hx : a.eval x = .pointer (some ⟨g, 0, none⟩)) (hy : a.eval y = .agg q.ag) (hp : PoolAt W g p) (hl : p.sl.length = 64) (hq : q.sl.length = 64) :
    (execOp a.eval o).run Tryz.prog W = .ok .skip (W.setRow g q.ag) := by
  have hr := run_storeVar_row (P := Tryz.prog) W g 33 33 p.ag q.ag hp (by rw [info34, Po.ag_size hq]) (by rw [Po.ag_size hl, Po.ag_size hq]) (all_oneCell_toArray q.one)
  unfold execOp
  simp only [ho, hx, hy, Instr.storeAt, Instr.sureAddr, Sem.run_bind, Sem.run_pure, Result.andThen_ok, hr]
theorem PoolAt.setRow {W : World} {g : Nat} {p : Po} (h : PoolAt W g p) (q : Po) : PoolAt (W.setRow g q.ag) g q ∧ Chg g W (W.setRow g q.ag) :=
  ⟨setRow_heap W g p.ag q.ag 33 (0, 0) h, ⟨rfl, rfl, rfl, setRow_size W g _, fun k hk => setRow_other W g k _ hk⟩⟩
theorem load34_run {o : Oper} {a : Act} {x : Operand} {p : Po} {g : Nat} (W : World) (ho : o.op = .load 33 x) (hx : a.eval x = .pointer (some ⟨g, 0, none⟩)) (hp : PoolAt W g p) (hl : p.sl.length = 64) : (execOp a.eval o).run Tryz.prog W = .ok (.value (.agg p.ag)) W := by
  unfold execOp
  simp only [ho, hx, Sem.run_bind, Sem.run_pure, Result.andThen_ok, hp.load hl]
theorem applyR_len (p : Po) (hl : p.sl.length = 64) (e : En) : (applyR p e).1.sl.length = 64 := by
  unfold applyR
  split
  · exact Po.z_len
  split
  · exact Po.z_len
  split
  · exact Po.z_len
  unfold appliedR
  have h : ∀ i s, (p.up.put i s).sl.length = 64 := fun i s => (Po.put_len _ _ _).trans hl
  have h2 : ∀ i s, ((p.up.ring (wrap64 (p.ep + 1)) p.k1 p.k2 e.key).put i s).sl.length = 64 := fun i s => (Po.put_len _ _ _).trans hl
  simp only
  repeat (first | exact h _ _ | exact h2 _ _ | split)
def keyL (n : Int) : Ky := ⟨IntKind.u64.wrap ((IntKind.u64.wrap n) * 11400714819323198485), Go.bits .xor .u64 (IntKind.u64.wrap n) 19088743⟩
theorem key5_calls (n : Int) (w : World) : Calls Tryz.prog 23 #[.int .i64 n] w fun e w' => e = .returned (.agg #[.int .u64 (keyL n).a, .int .u64 (keyL n).b]) ∧ Below w.heap.size w w' :=
  roundhouselaw5_Key.calls n _ _ w rfl
theorem lmake_calls {A : Option Addr} {c n : Nat} {ns : List Int} {w : World} (hr : Kd.C (Kd.int .i64) w A n ns) (hn : ns.length = n) (hc : n ≤ c) :
    Calls Tryz.prog 5 #[.slice A n c, .int .i64 60] w fun e w' => ∃ p, Inv p 60 ∧ e = .returned (.agg p.ag) ∧ Below w.heap.size w w' := by
  subst hn
  have HR := am_ hr
  have HC := am_ hc
  clear hr hc
  obtain ⟨k1, hk1⟩ : ∃ k, keyL 1 = k := ⟨_, rfl⟩
  obtain ⟨k2, hk2⟩ : ∃ k, keyL 2 = k := ⟨_, rfl⟩
  have HK1 := am_ (fun W => hk1 ▸ key5_calls 1 W)
  have HK2 := am_ (fun W => hk2 ▸ key5_calls 2 W)
  have HNW := am_ (fun W => rnew_calls 10 80 (by decide) (by decide) (by decide) (by decide) k1 k2 W)
  clear hk1 hk2
  go_enter Tryz.func5, Tryz.ntmps5
  go_upto_region 1 with (first
    | ((with_reducible refine gate_dst (N := 4) rfl ?_); refine pool_alloc rfl rfl ?_; intro g4 hg4 w4 hp4 hb4 hs4; have HP4 := am_ hp4; have HB4 := am_ hb4; have HG4 := am_ hg4; clear hp4 hb4 hs4 hg4))
  go_upto_region 2 with (first
    | (go_at_call 23; first | ((with_reducible refine (HK1.out _).mono ?_); rintro e1 x1 ⟨rfl, hx1⟩; have HX1 := am_ hx1; clear hx1) | ((with_reducible refine (HK2.out _).mono ?_); rintro e2 x2 ⟨rfl, hx2⟩; have HX2 := am_ hx2; clear hx2))
    | (go_at_call 22; (with_reducible refine (HNW.out _).mono ?_); rintro e3 x3 ⟨rfl, hx3⟩; have HX3 := am_ (below_step (below_step HX1.out HX2.out) hx3); have HP5 := am_ (HP4.out.below HX3.out); clear hx3)
    | ((with_reducible refine gate_dst (N := 5) rfl ?_); refine pool_alloc rfl rfl ?_; intro g5 hg5 w5 hp5 hb5 hs5; have HPA := am_ hp5; have HB5 := am_ hb5; have HP6 := am_ (HP5.out.below hb5); have HG5 := am_ (show g4 < g5 from by rw [← hg5]; exact blk_lt HP5.out); clear hp5 hb5 hs5 hg5)
    | ((with_reducible refine gate_store (t := 33) (p := 5) rfl ?_); (refine pool_store (q := Po.new 10 80 k1 k2) rfl rfl rfl rfl rfl HPA.out Po.z_len (Po.new_len _ _ _ _) ?_; intro w6 hp6 hc6; have HP7 := am_ hp6; have HR7 := am_ (HP6.out.chg hc6 (by have := HG5.out; omega)); have HB7 := am_ (Chg.step (below_step (below_step HB4.out HX3.out) HB5.out) hc6 (by have := HG5.out; have := HG4.out; omega)); clear hp6 hc6)))
  go_wp2
  go_loopg [7] 60 (fun kq v7 w' => ∃ (i : Nat) (p : Po), v7 = .int .i64 (i : Int) ∧ Aside (kq + i = 60) ∧ Aside0 (Inv p i) ∧ Aside0 (PoolAt w' g5 p ∧ PoolAt w' g4 Po.z ∧ Below w.heap.size w w'))
  case atStart => exact ⟨0, _, rfl, (by show _ = _; omega), am_ (inv_new k1 k2), am_ ⟨HP7.out, HR7.out, HB7.out⟩⟩
  case round =>
    obtain ⟨i, p, rfl, hk, HI, HS⟩ := hrel
    have HKQ := am_ hk.out
    clear hk
    rename World => wr1
    have hi0 : (0 : Int) ≤ (i : Int) := by omega
    by_cases hlt : i < ns.length ∧ i < 60
    · have hd : decide (i < ns.length) = true := decide_eq_true hlt.1
      have hd1 : decide ((i : Int) < (ns.length : Int)) = true := decide_eq_true (by omega)
      have hd2 : decide ((i : Int) < 60) = true := decide_eq_true (by omega)
      have hi1 : (i : Int) < (ns.length : Int) := by omega
      have hin : i < ns.length := hlt.1
      have HLT := am_ hlt
      have HGK := am_ (show 0 < gk from by have := HKQ.out; omega)
      obtain ⟨ad, ead, hcell0⟩ := Kd.at_int HR.out (i : Int) (by omega) (by omega)
      subst ead
      obtain ⟨y, hy⟩ : ∃ x, rd ns (i : Int) = x := ⟨_, rfl⟩
      obtain ⟨e, he, hen⟩ := entry_calls y w
      obtain ⟨⟨q, x⟩, hq⟩ : ∃ r, applyR p e = r := ⟨_, rfl⟩
      have HEN := am_ hen
      have HAP := am_ (fun W => hq ▸ rapply_calls p HI.out.len he W)
      have HQL := am_ (show q.sl.length = 64 from by have h := applyR_len p HI.out.len e; rw [hq] at h; exact h)
      have HQI := am_ (fun (h : x = 0) => show Inv q (i + 1) from by
        have h1 := inv_apply HI.out (by omega) he
        rw [hq] at h1
        exact h1 h)
      have HCK := am_ (fun W (h : Below wr1.heap.size wr1 W) => show PoolAt W g5 p ∧ W.cell? (ad.add i) = some (.int .i64 y) from
        ⟨HS.out.1.below h, by
          obtain ⟨ad', ead', hc'⟩ := Kd.at_int (Kd.C_below HR.out (below_step HS.out.2.2 h)) (i : Int) (by omega) (by omega)
          rw [Int.toNat_natCast, hy] at hc'
          injection ead' with ead'
          rw [← ead'] at hc'
          exact hc'⟩)
      have HQc := am_ (Below.refl wr1.heap.size wr1).drew
      clear hlt hen he hq hy hcell0
      go_upto_region 5 with fail
      refine start_ (n := 13) (S := fun w' => PoolAt w' g5 p ∧ w'.cell? (ad.add i) = some (.int .i64 y)) (ds := [11]) #[fF,fF,fF,fF,fF,fF,fF,fF,fF,fF,fF,fF,fF] (by kernel_rfl) rfl rfl ⟨(HCK.out _ HQc.out).1, (HCK.out _ HQc.out).2⟩ (fun hHeld => ?_)
      refine p_ 1 29 ?_
      refine p_ 2 30 ?_
      refine p_ 3 31 ?_
      refine take_ (i := 0) (N := some 28) (v := ?_) (a' := ?_) #[tT,tT,tT,tT,fF,fF,fF,fF,fF,fF,fF,fF,fF] rfl rfl (by kernel_rfl) (fun _ _ _ h => h) (Or.inl ⟨by rfl, ?_⟩) hHeld ?_ ?_
      rotate_left
      · rintro w' ⟨s0, s1⟩
        refine load34_run (x := .tmp 5) _ ?_ ?_ s0 HI.out.len <;> rfl
      rotate_left; · simp only [Act.put, q_a, q_0, q_s, i64_w, i32_w]; rfl
      refine t_ 4 32 hHeld ?_
      refine join_ (σ := Nat) 2 #[tT,tT,tT,tT,tT,tT,tT,tT,tT,tT,tT,fF,fF] (fun b => [(33, .agg #[.int .i64 e.kind, .int .i64 e.slot, .int .i64 e.ad, .int .i64 e.po, .int .i64 e.we, .int .u64 e.key.a, .int .u64 e.key.b]), (34, .tuple #[.agg q.ag, .int .i64 x]), (27, .tuple #[.agg q.ag, .int .i64 x]), (35, .agg q.ag), (36, .int .i64 x), (8, .pointer (some ⟨b, 0, none⟩))]) (fun b w' => PoolAt w' b Po.z ∧ wr1.heap.size ≤ b ∧ Below wr1.heap.size wr1 w') ?_ ?_
      rotate_left
      · intro hCont
        refine two_ (i := 5) (j := 10) (Ni := some 33) (Nj := some 8) #[tT,tT,tT,tT,tT,tT,fF,fF,fF,fF,fF,fF,fF] #[tT,tT,tT,tT,tT,fF,fF,fF,fF,fF,tT,fF,fF] rfl rfl rfl rfl (by kernel_rfl) (by decide) (by decide) (fun K hK => ?_) (fun K hK => ?_)
        · skip
          refine g_ Tryz.func25 #[.int .i64 y] ?_
          with_reducible refine (HEN.out _).mono ?_
          rintro e1 w31 ⟨rfl, hx⟩
          refine ⟨_, rfl, ?_⟩
          replace HQc := am_ (below_step HQc.out hx)
          refine hK.out _ _ ⟨(HCK.out _ HQc.out).1, (HCK.out _ HQc.out).2⟩ (fun hHeld => ?_)
          clear hK K
          refine n_ 33 ?_
          refine two_ (i := 6) (j := 10) (Ni := some 34) (Nj := some 8) #[tT,tT,tT,tT,tT,tT,tT,fF,fF,fF,fF,fF,fF] #[tT,tT,tT,tT,tT,tT,fF,fF,fF,fF,tT,fF,fF] rfl rfl rfl rfl (by kernel_rfl) (by decide) (by decide) (fun K hK => ?_) (fun K hK => ?_)
          · skip
            refine g_ Tryz.func24 #[.agg p.ag, .agg #[.int .i64 e.kind, .int .i64 e.slot, .int .i64 e.ad, .int .i64 e.po, .int .i64 e.we, .int .u64 e.key.a, .int .u64 e.key.b]] ?_
            with_reducible refine (HAP.out _).mono ?_
            rintro e2 w32 ⟨rfl, hx⟩
            refine ⟨_, rfl, ?_⟩
            replace HQc := am_ (below_step HQc.out hx)
            refine hK.out _ _ ⟨(HCK.out _ HQc.out).1, (HCK.out _ HQc.out).2⟩ (fun hHeld => ?_)
            clear hK K
            refine n_ 34 ?_
            refine p_ 7 27 ?_
            refine p_ 8 35 ?_
            refine p_ 9 36 ?_
            refine o_ 10 (some 8) (fun K hK => ?_)
            refine value_ (w1 := (w32).alloc (.cells Po.z.ag 33)) (v := .pointer (some ⟨(w32).heap.size, 0, none⟩)) (by rfl) rfl (alloc34_run _ rfl) ?_
            have HAL : Aside0 (PoolAt ((w32).alloc (.cells Po.z.ag 33)) (w32).heap.size Po.z) := am_ (new_blk (w32) _)
            have HLE := am_ (HQc.out.size)
            replace HQc := am_ (below_alloc HQc.out (.cells Po.z.ag 33))
            refine hK.out _ _ ⟨(HCK.out _ HQc.out).1, (HCK.out _ HQc.out).2⟩ (fun hHeld => ?_)
            clear hK K
            refine n_ 8 ?_
            exact norm_ (by simp only [putAll, Act.put, q_a, q_0, q_s]) (hCont w32.heap.size _ ⟨HAL.out, HLE.out, HQc.out⟩)
          · skip
            refine value_ (w1 := (w31).alloc (.cells Po.z.ag 33)) (v := .pointer (some ⟨(w31).heap.size, 0, none⟩)) (by rfl) rfl (alloc34_run _ rfl) ?_
            have HAL : Aside0 (PoolAt ((w31).alloc (.cells Po.z.ag 33)) (w31).heap.size Po.z) := am_ (new_blk (w31) _)
            have HLE := am_ (HQc.out.size)
            replace HQc := am_ (below_alloc HQc.out (.cells Po.z.ag 33))
            refine hK.out _ _ ⟨(HCK.out _ HQc.out).1, (HCK.out _ HQc.out).2⟩ (fun hHeld => ?_)
            clear hK K
            refine n_ 8 ?_
            refine o_ 6 (some 34) (fun K hK => ?_)
            refine g_ Tryz.func24 #[.agg p.ag, .agg #[.int .i64 e.kind, .int .i64 e.slot, .int .i64 e.ad, .int .i64 e.po, .int .i64 e.we, .int .u64 e.key.a, .int .u64 e.key.b]] ?_
            with_reducible refine (HAP.out _).mono ?_
            rintro e2 w32 ⟨rfl, hx⟩
            refine ⟨_, rfl, ?_⟩
            replace HAL := am_ (HAL.out.below hx)
            replace HQc := am_ (below_step HQc.out hx)
            refine hK.out _ _ ⟨(HCK.out _ HQc.out).1, (HCK.out _ HQc.out).2⟩ (fun hHeld => ?_)
            clear hK K
            refine n_ 34 ?_
            refine p_ 7 27 ?_
            refine p_ 8 35 ?_
            refine p_ 9 36 ?_
            exact norm_ (by simp only [putAll, Act.put, q_a, q_0, q_s]) (hCont w31.heap.size _ ⟨HAL.out, HLE.out, HQc.out⟩)
        · skip
          refine value_ (w1 := (wr1.drew).alloc (.cells Po.z.ag 33)) (v := .pointer (some ⟨(wr1.drew).heap.size, 0, none⟩)) (by rfl) rfl (alloc34_run _ rfl) ?_
          have HAL : Aside0 (PoolAt ((wr1.drew).alloc (.cells Po.z.ag 33)) (wr1.drew).heap.size Po.z) := am_ (new_blk (wr1.drew) _)
          have HLE := am_ (HQc.out.size)
          replace HQc := am_ (below_alloc HQc.out (.cells Po.z.ag 33))
          refine hK.out _ _ ⟨(HCK.out _ HQc.out).1, (HCK.out _ HQc.out).2⟩ (fun hHeld => ?_)
          clear hK K
          refine n_ 8 ?_
          refine o_ 5 (some 33) (fun K hK => ?_)
          refine g_ Tryz.func25 #[.int .i64 y] ?_
          with_reducible refine (HEN.out _).mono ?_
          rintro e1 w31 ⟨rfl, hx⟩
          refine ⟨_, rfl, ?_⟩
          replace HAL := am_ (HAL.out.below hx)
          replace HQc := am_ (below_step HQc.out hx)
          refine hK.out _ _ ⟨(HCK.out _ HQc.out).1, (HCK.out _ HQc.out).2⟩ (fun hHeld => ?_)
          clear hK K
          refine n_ 33 ?_
          refine o_ 6 (some 34) (fun K hK => ?_)
          refine g_ Tryz.func24 #[.agg p.ag, .agg #[.int .i64 e.kind, .int .i64 e.slot, .int .i64 e.ad, .int .i64 e.po, .int .i64 e.we, .int .u64 e.key.a, .int .u64 e.key.b]] ?_
          with_reducible refine (HAP.out _).mono ?_
          rintro e2 w32 ⟨rfl, hx⟩
          refine ⟨_, rfl, ?_⟩
          replace HAL := am_ (HAL.out.below hx)
          replace HQc := am_ (below_step HQc.out hx)
          refine hK.out _ _ ⟨(HCK.out _ HQc.out).1, (HCK.out _ HQc.out).2⟩ (fun hHeld => ?_)
          clear hK K
          refine n_ 34 ?_
          refine p_ 7 27 ?_
          refine p_ 8 35 ?_
          refine p_ 9 36 ?_
          exact norm_ (by simp only [putAll, Act.put, q_a, q_0, q_s]) (hCont wr1.drew.heap.size _ ⟨HAL.out, HLE.out, HQc.out⟩)
      rintro gb w4 ⟨hal, hle, hq⟩
      clear HQc
      have HQc := am_ hq
      have HAL := am_ hal
      have HLE := am_ hle
      clear hq hal hle
      have hHeld := HCK.out _ HQc.out
      refine norm_ (a' := ?_) ?_ ?_
      rotate_left; · simp only [putAll, Act.put, q_a, q_0, q_s]; rfl
      refine l_ 11 none (fun K hK => ?_)
      refine skip_ (w1 := w4.setRow gb q.ag) (by rfl) rfl (store34_run w4 rfl rfl rfl HAL.out Po.z_len HQL.out) ?_
      refine hK.out _ _ ?_
      clear hK K
      refine p_ 12 9 ?_
      refine done_ (by kernel_rfl) ?_
      have HQR := am_ (HAL.out.setRow q)
      refine ex_w (fun W => PoolAt W gb q ∧ PoolAt W g5 p ∧ PoolAt W g4 Po.z ∧ Below w.heap.size w W ∧ g4 < g5 ∧ g5 < gb ∧ w.heap.size ≤ g4) ?_ ?_
      · have e5 := HS.out.1.below HQc.out
        have e4 := HS.out.2.1.below HQc.out
        have hlt5 := blk_lt HS.out.1
        have hle := HLE.out
        have h45 := HG5.out
        have h4 := HG4.out
        first
          | exact ⟨HQR.out.1, e5.chg HQR.out.2 (by omega), e4.chg HQR.out.2 (by omega), Chg.step (below_step HS.out.2.2 HQc.out) HQR.out.2 (by omega), h45, by omega, by omega⟩
          | exact ⟨HQR.out.1, e5.chg HQR.out.2 (by omega), e4.chg HQR.out.2 (by omega), (Chg.step (below_step HS.out.2.2 HQc.out) HQR.out.2 (by omega)).drew, h45, by omega, by omega⟩
      intro w8 h8
      have HQ8 := am_ h8.1
      have HP8 := am_ h8.2.1
      have HR8 := am_ h8.2.2.1
      have HB8 := am_ h8.2.2.2.1
      have HN8 := am_ h8.2.2.2.2
      clear h8 hHeld HAL HLE HQc HCK HQR HEN HAP
      by_cases hx : x = 0
      · have hb0 : (x == 0) = true := beq_iff_eq.mpr hx
        have HIN := am_ (HQI.out hx)
        clear hx
        go_wp2_with (first
          | ((with_reducible refine gate_dst (N := 39) rfl ?_); refine pool_load rfl rfl rfl HQ8.out HQL.out ?_)
          | ((with_reducible refine gate_store (t := 33) (p := 5) rfl ?_); refine pool_store rfl rfl rfl rfl rfl HP8.out HI.out.len HQL.out ?_; intro w9 hp9 hc9; have HP9 := am_ hp9; have HC9 := am_ hc9; clear hp9 hc9))
        go_roundg (gk - 1)
        case measure => have := HGK.out; omega
        case rel => exact ⟨i + 1, q, (by have := HLT.out; show Value.int _ _ = Value.int _ _; first | rfl | (rw [wid (by omega) (by omega)]; rfl)), (by show _ = _; have := HKQ.out; have := HGK.out; omega), HIN, am_ ⟨HP9.out, HR8.out.chg HC9.out (by have := HN8.out; omega), Chg.step HB8.out HC9.out (by have := HN8.out; omega)⟩⟩
      · have hb0 : (x == 0) = false := beq_eq_false_iff_ne.mpr hx
        clear hx
        go_wp2
        go_roundg (gk - 1)
        case measure => have := HGK.out; omega
        case rel => exact ⟨i + 1, p, (by have := HLT.out; show Value.int _ _ = Value.int _ _; first | rfl | (rw [wid (by omega) (by omega)]; rfl)), (by show _ = _; have := HKQ.out; have := HGK.out; omega), am_ (HI.out.more (by omega)), am_ ⟨HP8.out, HR8.out, HB8.out⟩⟩
    · have HIF := am_ (HI.out.more (n := 60) (by have := HKQ.out; omega))
      have HG4' := am_ (show w.heap.size ≤ g4 from by have := HG4.out; omega)
      have fin : ∀ (W : World), W.heap = wr1.heap → True := fun _ _ => trivial
      by_cases h1 : i < ns.length
      · have hd : decide (i < ns.length) = true := decide_eq_true h1
        have hd1 : decide ((i : Int) < (ns.length : Int)) = true := decide_eq_true (by omega)
        have hd2 : decide ((i : Int) < 60) = false := decide_eq_false (by omega)
        clear hlt h1 fin
        go_wp2_with (first
          | ((with_reducible refine gate_dst (N := 40) rfl ?_); refine pool_load rfl rfl rfl HS.out.1 HI.out.len ?_)
          | ((with_reducible refine gate_store (t := 33) (p := 4) rfl ?_); refine pool_store rfl rfl rfl rfl rfl HS.out.2.1 Po.z_len HI.out.len ?_; intro w9 hp9 hc9; have HP9 := am_ hp9; have HC9 := am_ hc9; clear hp9 hc9))
        refine bodyPost_ret (results_cell_row rfl _ _ g4 33 _ (0, 0) _ rfl HP9.out Tryz.underlying33 rfl (by rw [info34, Po.ag_size HI.out.len])) rfl ⟨p, HIF.out, rfl, ?_⟩
        exact Chg.step HS.out.2.2 HC9.out HG4'.out
      · have hd : decide (i < ns.length) = false := decide_eq_false h1
        have hd1 : decide ((i : Int) < (ns.length : Int)) = false := decide_eq_false (by omega)
        clear hlt h1 fin
        go_wp2_with (first
          | ((with_reducible refine gate_dst (N := 40) rfl ?_); refine pool_load rfl rfl rfl HS.out.1 HI.out.len ?_)
          | ((with_reducible refine gate_store (t := 33) (p := 4) rfl ?_); refine pool_store rfl rfl rfl rfl rfl HS.out.2.1 Po.z_len HI.out.len ?_; intro w9 hp9 hc9; have HP9 := am_ hp9; have HC9 := am_ hc9; clear hp9 hc9))
        refine bodyPost_ret (results_cell_row rfl _ _ g4 33 _ (0, 0) _ rfl HP9.out Tryz.underlying33 rfl (by rw [info34, Po.ag_size HI.out.len])) rfl ⟨p, HIF.out, rfl, ?_⟩
        exact Chg.step HS.out.2.2 HC9.out HG4'.out
theorem PoolAt.set1 {W : World} {b : Nat} {p : Po} (h : PoolAt W b p) (hl : p.sl.length = 64) {i j : Nat} (hi : i < 64) (hj : j < 5) {v : Value} {s' : Sl} (hs : s'.cs = (p.s i).cs.set j v) : PoolAt (W.setCell ⟨b, 3 + i * 5 + j, none⟩ v) b (p.put i s') := by
  have e := heap_setCell_same W b (3 + i * 5 + j) _ 33 v h
  rw [Po.ag_set hl hi hj hs] at e
  exact e
def En.cs (e : En) : List Value := [.int .i64 e.kind, .int .i64 e.slot, .int .i64 e.ad, .int .i64 e.po, .int .i64 e.we, .int .u64 e.key.a, .int .u64 e.key.b]
theorem En.one (e : En) : ∀ v ∈ e.cs, v.oneCell' = true := by
  intro v hv
  simp only [En.cs, List.mem_cons, List.not_mem_nil, or_false] at hv
  rcases hv with rfl | rfl | rfl | rfl | rfl | rfl | rfl <;> rfl
theorem ad_add (a : Addr) (i j : Nat) : (a.add i).add j = a.add (i + j) := by
  obtain ⟨b, o, s⟩ := a
  by_cases hi : i = 0
  · subst hi; simp [Addr.add]
  · by_cases hj : j = 0
    · subst hj; simp [Addr.add]
    · simp [Addr.add, hi, hj, Nat.add_assoc]
theorem ad_add0 (a : Addr) : a.add 0 = a := by
  obtain ⟨b, o, s⟩ := a
  cases s with
  | none => simp [Addr.add]
  | some s => cases s <;> simp [Addr.add]
theorem slots_extract (l : List Sl) (i : Nat) (h : i < l.length) : (slots l).toArray.extract (i * 5) (i * 5 + 5) = (l.getD i Sl.z).cs.toArray := by
  apply Array.ext_getElem?
  intro j
  rw [Array.getElem?_extract]
  by_cases hj : j < 5
  · rw [if_pos (by simp only [List.size_toArray, slots_len]; omega), List.getElem?_toArray, List.getElem?_toArray, slots_get l i j h hj]
  · rw [if_neg (by omega), List.getElem?_toArray, List.getElem?_eq_none (by show 5 ≤ j; omega)]
theorem slot_index (p : Po) (hl : p.sl.length = 64) (i : Nat) (hi : i < 64) (W : World) : (Instr.index 26 (.agg (slots p.sl).toArray) (.int .i64 (i : Int))).run Tryz.prog W = .ok (.agg #[.int .i64 (p.s i).st, .int .i64 (p.s i).ad, .int .i64 (p.s i).po, .int .i64 (p.s i).we, .int .i64 (p.s i).si]) W := by
  rw [run_index_agg W 26 25 64 _ i 5 _ Tryz.underlying26 Tryz.underlying25 rfl info26 hi _ rfl, slots_extract _ _ (by omega)]
  rfl
theorem PoolAt.range {w : World} {b : Nat} {p : Po} (h : PoolAt w b p) (hl : p.sl.length = 64) : w.rangeAt b 3 (slots p.sl) := by
  intro j v hv
  have hj : j < (slots p.sl).length := (List.getElem?_eq_some_iff.1 hv).1
  rw [h.cell, Po.ag, List.getElem?_toArray, Po.cs, show 3 + j = j + 1 + 1 + 1 by omega]
  simp only [List.getElem?_cons_succ]
  rw [List.getElem?_append_left hj, hv]
theorem slots_load {ops : Array Oper} {rest : List Oper} {o : Oper} {a : Act} {Q : Exit → Act → World → Prop} {W : World} {x : Operand} {p : Po} {g : Nat} (hgd : o.guard = none) (ho : o.op = .load 26 x) (hx : a.eval x = .pointer (some ⟨g, 3, none⟩)) (hp : PoolAt W g p) (hl : p.sl.length = 64) (h : wpList Tryz.prog ops Q rest (a.put o.dst (.agg (slots p.sl).toArray)) W) : wpList Tryz.prog ops Q (o :: rest) a W :=
  wpList_load_mid hgd 26 x ho g 3 hx (slots p.sl) _ (hp.range hl) Tryz.underlying26 rfl (by rw [info27, slots_len, hl]) h
theorem and63_i (x : Int) : 0 ≤ Go.bits .and .i64 x 63 ∧ Go.bits .and .i64 x 63 ≤ 63 := by
  show 0 ≤ IntKind.i64.wrap ((BitVec.ofInt 64 x &&& BitVec.ofInt 64 63).toNat : Int) ∧ IntKind.i64.wrap ((BitVec.ofInt 64 x &&& BitVec.ofInt 64 63).toNat : Int) ≤ 63
  have h : (BitVec.ofInt 64 x &&& BitVec.ofInt 64 63).toNat ≤ 63 := by
    rw [BitVec.toNat_and]
    exact Nat.le_trans Nat.and_le_right (by decide)
  rw [IntKind.wrap_i64]
  omega
theorem and63_u (x : Int) : 0 ≤ Go.bits .and .u64 x 63 ∧ Go.bits .and .u64 x 63 ≤ 63 := by
  show 0 ≤ IntKind.u64.wrap ((BitVec.ofInt 64 x &&& BitVec.ofInt 64 63).toNat : Int) ∧ IntKind.u64.wrap ((BitVec.ofInt 64 x &&& BitVec.ofInt 64 63).toNat : Int) ≤ 63
  have h : (BitVec.ofInt 64 x &&& BitVec.ofInt 64 63).toNat ≤ 63 := by
    rw [BitVec.toNat_and]
    exact Nat.le_trans Nat.and_le_right (by decide)
  rw [IntKind.wrap_u64]
  omega
theorem xor63 {x y : Int} (hx : 0 ≤ x ∧ x ≤ 63) (hy : 0 ≤ y ∧ y ≤ 63) : 0 ≤ Go.bits .xor .i64 x y ∧ Go.bits .xor .i64 x y ≤ 63 := by
  obtain ⟨a, rfl⟩ := Int.eq_ofNat_of_zero_le hx.1
  obtain ⟨b, rfl⟩ := Int.eq_ofNat_of_zero_le hy.1
  show 0 ≤ IntKind.i64.wrap ((BitVec.ofInt 64 (a : Int) ^^^ BitVec.ofInt 64 (b : Int)).toNat : Int) ∧ IntKind.i64.wrap ((BitVec.ofInt 64 (a : Int) ^^^ BitVec.ofInt 64 (b : Int)).toNat : Int) ≤ 63
  have h1 : (BitVec.ofInt 64 (a : Int)).toNat = a := by
    rw [BitVec.ofInt_natCast, BitVec.toNat_ofNat]; exact Nat.mod_eq_of_lt (by omega)
  have h2 : (BitVec.ofInt 64 (b : Int)).toNat = b := by
    rw [BitVec.ofInt_natCast, BitVec.toNat_ofNat]; exact Nat.mod_eq_of_lt (by omega)
  have h : a ^^^ b < 2 ^ 6 := Nat.xor_lt_two_pow (by omega) (by omega)
  rw [BitVec.toNat_xor, h1, h2, IntKind.wrap_i64]
  omega
theorem veil_b (k : Ky) (kind : Int) (f : Fl) (e : Int) : 0 ≤ veilC k kind f e ∧ veilC k kind f e ≤ 63 := by
  have h := and63_u (sumC k kind f 64 e)
  unfold veilC
  rw [wid (by omega) (by omega)]
  exact h
theorem readD_b (r : Rg) (kind : Int) (f : Fl) (e s t : Int) (hs : 0 ≤ s ∧ s ≤ 63) : 0 ≤ (readD r kind f e s t).1 ∧ (readD r kind f e s t).1 ≤ 63 := by
  unfold readD
  split
  · simp
  split
  · exact xor63 hs (veil_b _ _ _ _)
  · simp
theorem readC_b (r : Rg) (kind : Int) (f : Fl) (c : Int) : 0 ≤ (readC r kind f c).1 ∧ (readC r kind f c).1 ≤ 63 := by
  unfold readC
  split
  · split
    · simp
    · exact readD_b _ _ _ _ _ _ (and63_i _)
  · split
    · simp
    · exact readD_b _ _ _ _ _ _ (and63_i _)
def due (p : Po) (j : Nat) : Prop := (p.s j).st = 4 ∧ wrap64 ((p.s j).si + 3) ≤ wrap64 (p.ep + 1)
instance (p : Po) (j : Nat) : Decidable (due p j) := inferInstanceAs (Decidable (_ ∧ _))
def spunL (b : Int) (l : List Int) : Int := wrap64 (Int.tmod (wordsL ⟨0, 0⟩ l) b)
theorem words_u (k : Ky) (l : List Int) : 0 ≤ wordsL k l ∧ wordsL k l ≤ 18446744073709551615 := by
  unfold wordsL ofL
  simp only
  unfold outS
  exact ⟨bits_lo_u64 _ _ _, bits_hi_u64 _ _ _⟩
theorem spun_b (b : Int) (l : List Int) (h0 : 0 < b) (h1 : b ≤ 1000) : 0 ≤ spunL b l ∧ spunL b l < b := by
  have h := (words_u ⟨0, 0⟩ l).1
  unfold spunL
  rw [Int.tmod_eq_emod_of_nonneg h]
  have a := Int.emod_nonneg (wordsL ⟨0, 0⟩ l) (show b ≠ 0 by omega)
  have c := Int.emod_lt_of_pos (wordsL ⟨0, 0⟩ l) h0
  rw [wid (by omega) (by omega)]
  exact ⟨a, c⟩
theorem spun_calls (b : Int) (h0 : 0 < b) {A : Option Addr} {c n : Nat} {l : List Int} {w : World} (hr : Kd.C (Kd.int .i64) w A n l) (hn : l.length = n) (hc : n ≤ c) (hl : l.length ≤ 1000) :
    Calls Tryz.prog 72 #[.int .u64 b, .slice A n c] w fun e w' => e = .returned (.int .i64 (spunL b l)) ∧ Below w.heap.size w w' := by
  have HW := am_ (fun W (hW : Below w.heap.size w W) => words_calls ⟨0, 0⟩ (w := W) (Kd.C_below hr hW) hn hc hl)
  have hb : (b == 0) = false := beq_eq_false_iff_ne.mpr (by omega)
  have hb2 : ¬ b = 0 := by omega
  obtain ⟨x, hx⟩ : ∃ x, wordsL ⟨0, 0⟩ l = x := ⟨_, rfl⟩
  rw [spunL, hx]
  rw [hx] at HW
  clear hr hn hc hl hx h0
  go_enter Tryz.func72, Tryz.ntmps72
  go_wp2_with (first | (go_at_call 20; ((with_reducible refine (HW.out _ (Below.refl _ _)).mono ?_); rintro e x1 ⟨rfl, hx⟩; have HX := am_ hx; clear hx)))
  go_ret
  exact ⟨rfl, HX.out⟩
theorem pick_calls (f : Fl) {A : Option Addr} {c n : Nat} {l : List Int} {w : World} (hr : Kd.C (Kd.int .i64) w A n l) (hn : l.length = n) (hc : n ≤ c) (h127 : n = 127) :
    Calls Tryz.prog 80 #[.slice A n c, .agg #[.int .i64 f.ad, .int .i64 f.po, .int .i64 f.tad, .int .i64 f.tpo]] w fun e w' => e = .returned (.int .i64 (rd l (spunL 127 [3, f.ad, f.po, f.tad, f.tpo]))) ∧ Below w.heap.size w w' := by
  subst hn
  obtain ⟨f0, f1, f2, f3⟩ := f
  have HR := am_ hr
  have HC := am_ hc
  have H127 := am_ h127
  have HSB := am_ (spun_b 127 [3, f0, f1, f2, f3] (by decide) (by decide))
  obtain ⟨x, hx⟩ : ∃ x, spunL 127 [3, f0, f1, f2, f3] = x := ⟨_, rfl⟩
  show Calls Tryz.prog 80 _ w fun e w' => e = .returned (.int .i64 (rd l (spunL 127 [3, f0, f1, f2, f3]))) ∧ Below w.heap.size w w'
  rw [hx] at HSB ⊢
  have HXX := am_ hx
  clear hr hc hx
  obtain ⟨g, HG⟩ : ∃ g, w.heap.size = g := ⟨_, rfl⟩
  have hx0 : (0 : Int) ≤ x := HSB.out.1
  have hx1 : x < (l.length : Int) := by have := HSB.out.2; omega
  have hge : decide ((l.length : Int) ≤ x) = false := decide_eq_false (by omega)
  clear h127
  go_enter Tryz.func80, Tryz.ntmps80
  go_upto_region 1 with fail
  refine wp_w (fun W => W.heap[g]? = some (.cells #[.int .i64 f0, .int .i64 f1, .int .i64 f2, .int .i64 f3] 56 (0, 0)) ∧ Below w.heap.size w W) ?_ ?_
  · exact ⟨(box_at w HG _).1, (box_at w HG _).2.1⟩
  intro w1 h1
  obtain ⟨j0, j1, j2, j3⟩ := c4 h1.1
  have HB1 := am_ h1.2
  clear h1
  go_upto_region 2 with (first
    | ((with_reducible refine gate_dst (N := 14) rfl ?_); refine Kd.R_lit (Kd.int .i64) (w0 := w1) w1.heap.size 3 ?hg (N := 14) ?hd (xs := ([3, f0, f1, f2, f3] : List Int)) (inner := [.int .i64 3, .int .i64 f0, .int .i64 f1, .int .i64 f2, .int .i64 f3]) (ok := fun _ => True) (okp := fun _ => True) ?hr ?hp (fun _ hk => hk) trivial (Below.refl _ _) (Nat.le_refl _) (by simp) ?_; (case hd => rfl); (case hg => rfl); (case hr => first | (go_simp; done) | (go_simp; rfl)); (case hp => exact (Reps.one (show Kd.M (Kd.int .i64) _ _ _ 3 [.int .i64 3] from rfl) (Reps.one (show Kd.M (Kd.int .i64) _ _ _ f0 [.int .i64 f0] from rfl) (Reps.one (show Kd.M (Kd.int .i64) _ _ _ f1 [.int .i64 f1] from rfl) (Reps.one (show Kd.M (Kd.int .i64) _ _ _ f2 [.int .i64 f2] from rfl) (Reps.one (show Kd.M (Kd.int .i64) _ _ _ f3 [.int .i64 f3] from rfl) (Reps.none _ _))))))); intro vl wl ho hb hg hat; obtain ⟨Al, cl, el⟩ := Kd.R_slice ho; subst el; have HLI := am_ (Kd.R_reads' ho); have HBL := am_ hb; have HSP := am_ (fun W (hW : Below wl.heap.size wl W) => HXX.out ▸ spun_calls 127 (by decide) (w := W) (n := 5) (l := [3, f0, f1, f2, f3]) (Kd.C_below HLI.out.2.2 hW) rfl HLI.out.2.1 (by simp)); clear ho hb hg hat)
    | (go_at_call 72; ((with_reducible refine (HSP.out _ (Below.refl _ _)).mono ?_); rintro e1 x1 ⟨rfl, hx⟩; have HX := am_ (below_step (below_step HB1.out HBL.out) hx); clear hx)))
  obtain ⟨ad, ead, hcell⟩ := Kd.at_int (Kd.C_below HR.out HX.out) x hx0 hx1
  subst ead
  go_wp2
  go_ret
  exact ⟨rfl, by first | exact HX.out | (rw [← HG]; exact HX.out)⟩
/-- 127 places in a block of their own. -/
def ArW (w : World) (g : Nat) (L : List Int) : Prop := w.heap[g]? = some (.cells (L.map (Value.int .i64)).toArray 137 (0, 0))
theorem arw_cell {w : World} {g : Nat} {L : List Int} (h : ArW w g L) (i : Nat) (hi : i < L.length) : w.cell? ⟨g, i, none⟩ = some (.int .i64 (L.getD i 0)) := by
  rw [cell_of_row w g i _ _ _ h]
  simp [hi]
theorem ArW.set {w : World} {g : Nat} {L : List Int} (h : ArW w g L) (i : Nat) (v : Int) : ArW (w.setCell ⟨g, i, none⟩ (.int .i64 v)) g (L.set i v) := by
  have e := heap_setCell_same w g i _ 137 (.int .i64 v) h
  rw [List.setIfInBounds_toArray, ← List.map_set] at e
  exact e
theorem zero142 : (Tryz.prog.info? 137).map (fun i => (i.zero, i.size)) = some (some (.agg (((List.replicate 127 (0 : Int)).map (Value.int .i64)).toArray)), 127) := by kernel_rfl
theorem arw_alloc {ops : Array Oper} {rest : List Oper} {o : Oper} {a : Act} {Q : Exit → Act → World → Prop} {W : World} (hgd : o.guard = none) (ho : o.op = .alloc 137) (h : ∀ g, W.heap.size = g → ∀ w1, ArW w1 g (List.replicate 127 0) → Below W.heap.size W w1 → wpList Tryz.prog ops Q rest (a.put o.dst (.pointer (some ⟨g, 0, none⟩))) w1) : wpList Tryz.prog ops Q (o :: rest) a W := by
  obtain ⟨i0, hi, hz⟩ := Option.map_eq_some_iff.1 zero142
  simp only [Prod.mk.injEq] at hz
  refine Kd.event_run hgd (w1 := W.alloc (.cells ((List.replicate 127 (0 : Int)).map (Value.int .i64)).toArray 137)) (v := .pointer (some ⟨W.heap.size, 0, none⟩)) ?_ (h _ rfl _ (new_blk W _) (below_alloc (Below.refl _ _) _))
  have : execOp a.eval o = (do pure (.value (← Instr.alloc 137 true (.tuple #[])))) := by simp only [execOp, ho]
  rw [this]
  simp only [Instr.alloc, zeroValue, typeInfo, Sem.run_bind]
  simp [hi, hz.1, go_sem, newVar, newRow, Value.cells, Sem.run_bind, Result.andThen]
theorem arw_reads {w : World} {g : Nat} {L : List Int} (h : ArW w g L) (h127 : L.length = 127) : Kd.C (Kd.int .i64) w (some ⟨g, 0, none⟩) 127 L := by
  refine ⟨h127, by decide, fun _ => ⟨_, rfl, fun j p hp => ⟨[.int .i64 p], rfl, rfl, fun i u hu => ?_⟩⟩⟩
  have hi : i = 0 := by
    have := (List.getElem?_eq_some_iff.1 hu).1
    simp only [List.length_singleton] at this
    omega
  subst hi
  simp only [List.getElem?_cons_zero, Option.some.injEq] at hu
  subst hu
  show w.cell? ((⟨g, 0, none⟩ : Addr).add (j * 1 + 0)) = _
  rw [Addr.add_mid, cell_of_row w g _ _ _ _ h]
  simp [hp]
/-- A plane's cells. -/
def PL (p : Po) (is : Bool) (near : List Value) (wv : Value) : List Value := p.cs ++ (.bool is :: (near ++ [wv]))
def nearZ : List Value := (List.replicate 64 [Value.int .u32 0, Value.bool false]).flatten
theorem nearZ_len : nearZ.length = 128 := by simp [nearZ]
theorem built96 : Tryz.prog.built 90 [] = some (PL Po.z false nearZ (.slice none 0 0)).toArray := by kernel_rfl
def PlaneAt (w : World) (b : Nat) (p : Po) (is : Bool) (near : List Value) (wv : Value) : Prop := near.length = 128 ∧ p.sl.length = 64 ∧ w.heap[b]? = some (.cells (PL p is near wv).toArray 90 (0, 0))
theorem PL_pool {p : Po} (h : p.sl.length = 64) (is : Bool) (near : List Value) (wv : Value) {j : Nat} (hj : j < 330) : (PL p is near wv)[j]? = p.cs[j]? := by
  rw [PL, List.getElem?_append_left (by rw [Po.cs_len p h]; exact hj)]
theorem PL_is {p : Po} (h : p.sl.length = 64) (is : Bool) (near : List Value) (wv : Value) : (PL p is near wv)[330]? = some (.bool is) := by
  rw [PL, List.getElem?_append_right (by rw [Po.cs_len p h]; omega), Po.cs_len p h]; rfl
theorem PL_w {p : Po} (h : p.sl.length = 64) (is : Bool) {near : List Value} (hn : near.length = 128) (wv : Value) : (PL p is near wv)[459]? = some wv := by
  rw [PL, List.getElem?_append_right (by rw [Po.cs_len p h]; omega), Po.cs_len p h]
  show (Value.bool is :: (near ++ [wv]))[129]? = some wv
  rw [List.getElem?_cons_succ, List.getElem?_append_right (by omega), hn]
  rfl
theorem PL_len {p : Po} (h : p.sl.length = 64) (is : Bool) {near : List Value} (hn : near.length = 128) (wv : Value) : (PL p is near wv).length = 460 := by
  simp [PL, Po.cs_len p h, hn]
theorem PlaneAt.cell {w : World} {b : Nat} {p : Po} {is : Bool} {near : List Value} {wv : Value} (h : PlaneAt w b p is near wv) (j : Nat) : w.cell? ⟨b, j, none⟩ = (PL p is near wv)[j]? := by
  rw [cell_of_row w b j _ _ _ h.2.2, List.getElem?_toArray]
theorem PlaneAt.c_is {w : World} {b : Nat} {p : Po} {is : Bool} {near : List Value} {wv : Value} (h : PlaneAt w b p is near wv) : w.cell? ⟨b, 330, none⟩ = some (.bool is) := (h.cell 330).trans (PL_is h.2.1 _ _ _)
theorem PlaneAt.c_w {w : World} {b : Nat} {p : Po} {is : Bool} {near : List Value} {wv : Value} (h : PlaneAt w b p is near wv) : w.cell? ⟨b, 459, none⟩ = some wv := (h.cell 459).trans (PL_w h.2.1 _ h.1 _)
theorem PlaneAt.c_ad {w : World} {b : Nat} {p : Po} {is : Bool} {near : List Value} {wv : Value} (h : PlaneAt w b p is near wv) : w.cell? ⟨b, 1, none⟩ = some (.int .i64 p.ad) ∧ w.cell? ⟨b, 2, none⟩ = some (.int .i64 p.po) :=
  ⟨(h.cell 1).trans (PL_pool h.2.1 _ _ _ (by omega)), (h.cell 2).trans (PL_pool h.2.1 _ _ _ (by omega))⟩
theorem PlaneAt.ring {w : World} {b : Nat} {p : Po} {is : Bool} {near : List Value} {wv : Value} (h : PlaneAt w b p is near wv) : w.cell? ⟨b, 323, none⟩ = some (.int .i64 p.ep) ∧ w.cell? ⟨b, 324, none⟩ = some (.int .u64 p.k0.a) ∧ w.cell? ⟨b, 325, none⟩ = some (.int .u64 p.k0.b) ∧
    w.cell? ⟨b, 326, none⟩ = some (.int .u64 p.k1.a) ∧ w.cell? ⟨b, 327, none⟩ = some (.int .u64 p.k1.b) ∧ w.cell? ⟨b, 328, none⟩ = some (.int .u64 p.k2.a) ∧ w.cell? ⟨b, 329, none⟩ = some (.int .u64 p.k2.b) := by
  have t : ∀ j, j < 7 → w.cell? ⟨b, 323 + j, none⟩ = p.tl[j]? := fun j hj => by
    have e := Po.ag_tl h.2.1 (j := j)
    rw [Po.ag, List.getElem?_toArray] at e
    exact ((h.cell (323 + j)).trans (PL_pool h.2.1 _ _ _ (by omega))).trans e
  exact ⟨t 0 (by omega), t 1 (by omega), t 2 (by omega), t 3 (by omega), t 4 (by omega), t 5 (by omega), t 6 (by omega)⟩
theorem PlaneAt.range {w : World} {b : Nat} {p : Po} {is : Bool} {near : List Value} {wv : Value} (h : PlaneAt w b p is near wv) : w.rangeAt b 0 p.cs := by
  intro j v hv
  have hj : j < p.cs.length := (List.getElem?_eq_some_iff.1 hv).1
  rw [Nat.zero_add, h.cell, PL_pool h.2.1 _ _ _ (by rw [Po.cs_len p h.2.1] at hj; exact hj), hv]
theorem PlaneAt.below {w w' : World} {b : Nat} {p : Po} {is : Bool} {near : List Value} {wv : Value} (h : PlaneAt w b p is near wv) (hb : Below w.heap.size w w') : PlaneAt w' b p is near wv := ⟨h.1, h.2.1, bk_ h.2.2 hb⟩
/-- One old block may be another one, and new ones may be there. -/
structure Grw (b : Nat) (w w' : World) : Prop where
  os : w'.os = w.os
  tape : w'.tape = w.tape
  output : w'.output = w.output
  size : w.heap.size ≤ w'.heap.size
  block : ∀ k, k < w.heap.size → k ≠ b → w'.heap[k]? = w.heap[k]?
theorem Grw.of_below {b : Nat} {w w' : World} (h : Below w.heap.size w w') : Grw b w w' := ⟨h.os, h.tape, h.output, h.size, fun k hk _ => h.block k hk⟩
theorem Grw.of_chg {b : Nat} {w w' : World} (h : Chg b w w') : Grw b w w' := ⟨h.os, h.tape, h.output, Nat.le_of_eq h.size.symm, fun k _ hne => h.block k hne⟩
theorem Grw.trans {b : Nat} {w w1 w2 : World} (h : Grw b w w1) (k : Grw b w1 w2) : Grw b w w2 := ⟨k.os.trans h.os, k.tape.trans h.tape, k.output.trans h.output, Nat.le_trans h.size k.size, fun i hi hne => (k.block i (Nat.lt_of_lt_of_le hi h.size) hne).trans (h.block i hi hne)⟩
theorem Grw.below {b B : Nat} {w0 w w' : World} (h : Grw b w w') (h0 : Below B w0 w) (hB : B ≤ w.heap.size) (hb : B ≤ b) : Below B w0 w' :=
  h0.trans ⟨h.os, h.tape, h.output, h.size, fun k hk => h.block k (by omega) (by omega)⟩
theorem PoolAt.below_but {w w1 w2 : World} {g b : Nat} {p : Po} (h : PoolAt w g p) (hb : Below w.heap.size w w1) (hg : Grw b w1 w2) (hne : g ≠ b) : PoolAt w2 g p :=
  (hg.block g (blk_lt (h.below hb)) hne).trans (h.below hb)
theorem plane_zero {ops : Array Oper} {rest : List Oper} {o : Oper} {a : Act} {Q : Exit → Act → World → Prop} {W : World} (hgd : o.guard = none) (ho : o.op = .build 90 #[]) (h : wpList Tryz.prog ops Q rest (a.put o.dst (.agg (PL Po.z false nearZ (.slice none 0 0)).toArray)) W) : wpList Tryz.prog ops Q (o :: rest) a W := by
  have e : Tryz.prog.built 90 ((#[] : Array (Nat × Operand)).map fun (i, x) => (i, a.eval x)).toList = some (PL Po.z false nearZ (.slice none 0 0)).toArray := by rw [Array.map_empty]; exact built96
  refine wpList_build hgd 90 #[] ho ?_ ?_
  · rw [e]; rfl
  · rw [e]; exact h
theorem plane_store {ops : Array Oper} {rest : List Oper} {o : Oper} {a : Act} {Q : Exit → Act → World → Prop} {W : World} {x y : Operand} {b : Nat} {p q : Po} {is : Bool} {near : List Value} {wv : Value} (hgd : o.guard = none) (hN : o.dst = none) (ho : o.op = .store 33 x y) (hx : a.eval x = .pointer (some ⟨b, 0, none⟩)) (hy : a.eval y = .agg q.ag) (hP : PlaneAt W b p is near wv) (hq : q.sl.length = 64)
    (h : ∀ w1, PlaneAt w1 b q is near wv → Chg b W w1 → wpList Tryz.prog ops Q rest a w1) : wpList Tryz.prog ops Q (o :: rest) a W := by
  have hlen := PL_len hP.2.1 is hP.1 wv
  have hst := run_storeCells_at Tryz.prog b 0 90 q.cs 0 (PL p is near wv).toArray W hP.2.2 (by rw [Po.cs_len q hq, List.size_toArray, hlen]; omega) q.one
  have e : ((PL p is near wv).toArray.toList.take (0 + 0) ++ q.cs ++ (PL p is near wv).toArray.toList.drop (0 + 0 + q.cs.length)).toArray = (PL q is near wv).toArray := by
    rw [Po.cs_len q hq]
    simp only [PL, Nat.zero_add, List.take_zero, List.nil_append]
    rw [List.drop_append_of_le_length (by rw [Po.cs_len p hP.2.1]; omega), List.drop_of_length_le (by rw [Po.cs_len p hP.2.1]; omega), List.nil_append]
  rw [e] at hst
  obtain ⟨i0, hi, hsz⟩ := Option.map_eq_some_iff.1 info34
  have hsv : (storeVar 33 ⟨b, 0, none⟩ (.agg q.ag)).run Tryz.prog W = .ok () (W.setRow b (PL q is near wv).toArray) := by
    have h330 : q.ag.size = i0.size := by rw [Po.ag_size hq, hsz]
    simp [storeVar, sizeOf, typeInfo, hi, Value.cells, h330, Po.ag, hst] at *
    simp [h330, hst]
  refine wpList_plain hgd fun K hK => ?_
  unfold Oper.wp execOp
  simp only [ho, hx, hy, Instr.storeAt, Instr.sureAddr, Sem.run_bind, Sem.run_pure, Result.andThen_ok, hsv]
  have := h (W.setRow b (PL q is near wv).toArray) ⟨hP.1, hq, setRow_heap W b _ _ 90 (0, 0) hP.2.2⟩ ⟨rfl, rfl, rfl, setRow_size W b _, fun k hk => setRow_other W b k _ hk⟩
  exact hK _ _ (by rw [hN]; exact this)
theorem PlaneAt.setis {w : World} {b : Nat} {p : Po} {is : Bool} {near : List Value} {wv : Value} (h : PlaneAt w b p is near wv) (v : Bool) : PlaneAt (w.setCell ⟨b, 330, none⟩ (.bool v)) b p v near wv := by
  refine ⟨h.1, h.2.1, ?_⟩
  have e := heap_setCell_same w b 330 _ 90 (.bool v) h.2.2
  rw [List.setIfInBounds_toArray, PL, List.set_append_right _ _ (by rw [Po.cs_len p h.2.1]; omega), Po.cs_len p h.2.1] at e
  exact e
theorem PlaneAt.setw {w : World} {b : Nat} {p : Po} {is : Bool} {near : List Value} {wv : Value} (h : PlaneAt w b p is near wv) (v : Value) : PlaneAt (w.setCell ⟨b, 459, none⟩ v) b p is near v := by
  refine ⟨h.1, h.2.1, ?_⟩
  have e := heap_setCell_same w b 459 _ 90 v h.2.2
  rw [List.setIfInBounds_toArray, PL, List.set_append_right _ _ (by rw [Po.cs_len p h.2.1]; omega), Po.cs_len p h.2.1, show 459 - 330 = 128 + 1 from rfl, List.set_cons_succ, List.set_append_right _ _ (by rw [h.1]; omega), h.1] at e
  exact e
theorem pnew_calls (w : World) : Calls Tryz.prog 8 #[] w fun e w' => e = .returned (.pointer (some ⟨w.heap.size, 0, none⟩)) ∧ PlaneAt w' w.heap.size Po.z false nearZ (.slice none 0 0) ∧ Below w.heap.size w w' := by
  go_enter Tryz.func8, Tryz.ntmps8
  go_wp2_with (first | ((with_reducible refine gate_dst (N := 1) rfl ?_); (refine plane_zero rfl rfl ?_)))
  go_ret
  exact ⟨rfl, ⟨nearZ_len, Po.z_len, new_blk w _⟩, below_alloc (Below.refl _ w) _⟩
theorem lay_calls {p x : Po} {is : Bool} {near : List Value} {wv : Value} {b : Nat} {w : World} (h : PlaneAt w b p is near wv) (hx : x.sl.length = 64) :
    Calls Tryz.prog 35 #[.pointer (some ⟨b, 0, none⟩), .agg x.ag] w fun e w' => e = .returned (.tuple #[]) ∧ PlaneAt w' b x true near wv ∧ Grw b w w' := by
  have HP := am_ h
  have HX := am_ hx
  clear h hx
  go_enter Tryz.func35, Tryz.ntmps35
  go_wp2_with (first
    | ((with_reducible refine gate_dst (N := 3) rfl ?_); refine pool_box (p := x) rfl rfl rfl ?_; intro g hg w1 hp1 hb1 hs1; have HP1 := am_ hp1; have HB1 := am_ hb1; clear hp1 hb1 hs1 hg)
    | ((with_reducible refine gate_dst (N := 6) rfl ?_); refine pool_load rfl rfl rfl HP1.out HX.out ?_)
    | ((with_reducible refine gate_store (t := 33) (p := 8) rfl ?_); (refine plane_store (q := x) rfl rfl rfl rfl rfl (HP.out.below HB1.out) HX.out ?_; intro w9 hp9 hc9; have HP9 := am_ hp9; have HC9 := am_ hc9; have t0 := hp9.c_is; have u0 := fr_ hp9.2.2 330; clear hp9 hc9)))
  go_end0
  exact ⟨rfl, HP9.out.setis true, (Grw.of_below HB1.out).trans (Grw.of_chg (HC9.out.set _ _))⟩
theorem c15 {w : World} {g t : Nat} {a0 a1 a2 a3 a4 a5 a6 a7 a8 a9 a10 a11 a12 a13 a14 : Value} (h : w.heap[g]? = some (.cells #[a0, a1, a2, a3, a4, a5, a6, a7, a8, a9, a10, a11, a12, a13, a14] t (0, 0))) :
    w.cell? ⟨g, 0, none⟩ = some a0 ∧ w.cell? ⟨g, 1, none⟩ = some a1 ∧ w.cell? ⟨g, 2, none⟩ = some a2 ∧ w.cell? ⟨g, 3, none⟩ = some a3 ∧ w.cell? ⟨g, 4, none⟩ = some a4 ∧ w.cell? ⟨g, 5, none⟩ = some a5 ∧ w.cell? ⟨g, 6, none⟩ = some a6 ∧ w.cell? ⟨g, 7, none⟩ = some a7 ∧ w.cell? ⟨g, 8, none⟩ = some a8 ∧
    w.cell? ⟨g, 9, none⟩ = some a9 ∧ w.cell? ⟨g, 10, none⟩ = some a10 ∧ w.cell? ⟨g, 11, none⟩ = some a11 ∧ w.cell? ⟨g, 12, none⟩ = some a12 ∧ w.cell? ⟨g, 13, none⟩ = some a13 ∧ w.cell? ⟨g, 14, none⟩ = some a14 := by
  simp [World.cell?, h]
theorem info48 : (Tryz.prog.info? 46).map (·.size) = some 4 := by kernel_rfl
theorem drop_calls (e : Int) (w : World) : Calls Tryz.prog 37 #[.int .i64 e] w fun e' w' => e' = .returned (.agg #[.int .i64 e, .int .i64 (-1), .bool false, .slice none 0 0]) ∧ Below w.heap.size w w' := by
  obtain ⟨g, HG⟩ : ∃ g, w.heap.size = g := ⟨_, rfl⟩
  have hu48 := Tryz.underlying46
  go_enter Tryz.func37, Tryz.ntmps37
  go_upto_region 1 with fail
  refine wp_w (fun W => W.heap[g]? = some (.cells #[.int .i64 0, .int .i64 0, .bool false, .slice none 0 0] 46 (0, 0)) ∧ Below w.heap.size w W) ?_ ?_
  · exact ⟨(box_at w HG _).1, (box_at w HG _).2.1⟩
  intro w1 h1
  have HB1 := am_ h1.2
  have HK1 := am_ h1.1
  obtain ⟨j0, j1, j2, j3⟩ := c4 h1.1
  have u0 := fr_ h1.1 0
  have u1 := fr_ h1.1 1
  have u2 := fr_ h1.1 2
  have u3 := fr_ h1.1 3
  clear h1
  go_wp2
  refine bodyPost_ret (results_cell_row rfl _ _ g 46 #[.int .i64 e, .int .i64 (-1), .bool false, .slice none 0 0] (0, 0) _ rfl (heap_setCell_same _ g 3 _ 46 _ (heap_setCell_same _ g 2 _ 46 _ (heap_setCell_same _ g 1 _ 46 _ (heap_setCell_same _ g 0 _ 46 _ HK1.out)))) Tryz.underlying46 rfl info48) rfl ⟨rfl, ?_⟩
  have hle : w.heap.size ≤ g := by omega
  exact below_set (below_set (below_set (below_set HB1.out hle) hle) hle) hle
theorem plane_load {ops : Array Oper} {rest : List Oper} {o : Oper} {a : Act} {Q : Exit → Act → World → Prop} {W : World} {x : Operand} {b : Nat} {p : Po} {is : Bool} {near : List Value} {wv : Value} (hgd : o.guard = none) (ho : o.op = .load 33 x) (hx : a.eval x = .pointer (some ⟨b, 0, none⟩)) (hP : PlaneAt W b p is near wv) (h : wpList Tryz.prog ops Q rest (a.put o.dst (.agg p.ag)) W) : wpList Tryz.prog ops Q (o :: rest) a W :=
  wpList_load_mid hgd 33 x ho b 0 hx p.cs _ hP.range Tryz.underlying33 rfl (by rw [info34, Po.cs_len p hP.2.1]) h
end Go.Proofs.YtgkmbefamcnifaaGreat.TB
