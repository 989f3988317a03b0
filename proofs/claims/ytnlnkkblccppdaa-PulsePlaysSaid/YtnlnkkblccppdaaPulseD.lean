/- Contract: Told of package pulse. -/
import Derived.Test.YtnlnkkblccppdaaPulseC
import Derived.StillTailTactics
namespace Go.Proofs.Ytnlnkkblccppdaa.PB
set_option linter.unusedVariables false
set_option linter.unusedSimpArgs false
open Go.RowKit Go.Maps

theorem region_tail_drew {P : Program} {id : Nat} {Q : Exit → Act → World → Prop} {a : Act} {w : World} {l : List Oper} (n : Nat) (hm : P.follows .mixedOrders = true) (hB : Region.lexTailB .any l.toArray n = true)
    (h : wpStill P l.toArray w.drew (fun a' => wpList P l.toArray Q (l.drop n) a' w.drew) (l.take n) a) : (Code.region id l.toArray true).wp P Q a w := wp_region_still_tail n hm hB h
theorem new_blk (w : World) (o : Obj) (n : Nat) : ((w.alloc o).drewN n).heap[w.heap.size]? = some o := by
  show (w.heap.push o)[w.heap.size]? = some o
  simp
theorem set_blk {w : World} {g : Nat} {cs : Array Value} {t : TypeId} (h : w.heap[g]? = some (.cells cs t (0, 0))) (i : Nat) (v : Value) : (w.setCell ⟨g, i, none⟩ v).heap[g]? = some (.cells (cs.setIfInBounds i v) t (0, 0)) := by
  simp [World.setCell, Array.getElem?_modify, h]
/-- What an answer makes of a history: the verdict, the history. -/
def rowOf (ro : Int) (u ok : Bool) : Int := if ok = u then 0 else ro + 1
def verdict (r f ro : Int) (u ok : Bool) : Int := if u = true ∧ f ≤ rowOf ro u ok then 2 else if u = false ∧ r ≤ rowOf ro u ok then 1 else 0
def next (r f now ro : Int) (u ok : Bool) : Hist := if verdict r f ro u ok = 0 then ⟨now, rowOf ro u ok, u⟩ else ⟨now, 0, !u⟩
set_option maxHeartbeats 1000000 in
set_option maxRecDepth 100000 in
theorem told_none (g : Nat) (s now : Int) (ok : Bool) (w : World) (his : isB s = false) :
    Calls Try.prog 17 #[.pointer (some ⟨g, 0, none⟩), .int .i64 s, .int .i64 now, .bool ok] w fun e' w' => e' = .returned (.int .i64 0) ∧ w = w' := by
  go_enter Try.func17, Try.ntmps17
  go_wp2_with (go_at_call 26; refine (is_calls s false his _).mono ?_; rintro e' w1 ⟨rfl, rfl⟩)
  go_ret
  exact ⟨rfl, rfl⟩
set_option maxHeartbeats 1000000 in
set_option maxRecDepth 100000 in
theorem told_calls (g mb n : Nat) (r f e : Int) (M : Int → Option Hist) (s now l ro : Int) (u ok : Bool) (hs : (Lit.int .i64 s).wf = true) (his : isB s = true) (w : World) (hp : PAt w g mb r f e n M) (hM : (M s).getD zeroH = ⟨l, ro, u⟩) (hn : n < 1000000) (h0 : 0 ≤ ro) (h1 : ro ≤ 1000) (hr : 1 ≤ r) (hf : 1 ≤ f) :
    Calls Try.prog 17 #[.pointer (some ⟨g, 0, none⟩), .int .i64 s, .int .i64 now, .bool ok] w fun e' w' => e' = .returned (.int .i64 (verdict r f ro u ok)) ∧ Ch w w' mb ∧ PAt w' g mb r f e (n + 1) (upd M s (some (next r f now ro u ok))) := by
  have HP := Lib.hid hp
  obtain ⟨c0, c1, c2, c3⟩ := hp.cells
  obtain ⟨hblk, D, hown, hrep⟩ := hp
  have hlt := blk_lt hblk
  have Hown := Lib.hid hown
  have Hg := Lib.hid (rep_get hrep hM)
  have Hs := Lib.hid hs
  have HR := Lib.hid hrep
  have C0 := Lib.hid c0
  have C1 := Lib.hid c1
  have C2 := Lib.hid c2
  have Hb := Lib.hid hblk
  have His := Lib.hid his
  have HM := Lib.hid (World.ownsMap.isMap hown)
  clear hown hrep hM hs hblk c1 c2 c3 his
  cases u with
  | true =>
    cases ok with
    | true =>
      have hd : decide (f ≤ 0) = false := decide_eq_false (by omega)
      have hd' : Hid (¬ f ≤ 0) := Lib.hid (by omega)
      go_enter Try.func17, Try.ntmps17
      go_wp2_with (first | (go_at_call 26; refine (is_calls s true His.out _).mono ?_; rintro e' w1 ⟨rfl, rfl⟩) | (go_at_call 27; refine (of_calls mb n D s l ro true _ Hs.out _ Hown.out rfl Hg.out).mono ?_; rintro e' w1 ⟨rfl, hb1⟩; have c0 := fun o => ((hb1.alloc hb1.size o).cell (p := ⟨g, 0, none⟩) hlt).trans C0.out; have c1 := fun o => ((hb1.alloc hb1.size o).cell (p := ⟨g, 1, none⟩) hlt).trans C1.out; have c2 := fun o => ((hb1.alloc hb1.size o).cell (p := ⟨g, 2, none⟩) hlt).trans C2.out; have HB := Lib.hid hb1; clear hb1))
      go_quiet (fail)
      go_wp2
      go_quiet (fail)
      go_wp2
      generalize hW : World.drewN _ _ = W2
      have hb2 : W2.heap[w1.heap.size]? = some (.cells #[.int .i64 now, .int .i64 (0), .bool true] 55 (0, 0)) := by rw [← hW]; exact new_blk _ _ _
      have hbel : Below w.heap.size w W2 := by rw [← hW]; exact bd (HB.out.alloc HB.out.size _) _
      have d0 := cell_of hb2 0 _ rfl
      have d1 := cell_of hb2 1 _ rfl
      have d2 := cell_of hb2 2 _ rfl
      have e0 : W2.cell? ⟨g, 0, none⟩ = some (.map (some mb)) := (hbel.cell (p := ⟨g, 0, none⟩) hlt).trans C0.out
      have HO := Lib.hid (show W2.drew.ownsMap Try.prog 3 hR mb n D from owns_eq Hown.out (hbel.block mb HP.out.lt.2))
      have HC := Lib.hid (show Ch w W2.drew mb from Ch.of_below hbel.drew mb)
      clear hW c0 c1 c2 hb2 hbel
      refine region_tail_drew 7 (by kernel_rfl) (by kernel_rfl) ?_
      simp only [List.take_succ_cons, List.take_zero, List.drop_succ_cons, List.drop_zero]
      repeat still_step
      refine wpStill_nil ?_
      clear d0 d1 d2 e0
      generalize W2.drew = W3 at HO HC ⊢
      go_wp2_with (at_mapUpdate; refine wpList_mapUpdate_own _ rfl _ _ _ 44 rfl 3 55 law3 Try.underlying44 hR mb n D rfl ?hown (by unfold maxLen; omega) _ _ _ rfl rfl (keyOf_int_mk Try.underlying3 Hs.out) (encD ⟨now, 0, true⟩) [] rfl ?_; (case hown => exact HO.out); intro w3 hown3 hgrow3; have HG := Lib.hid hgrow3; have HO3 := Lib.hid hown3; clear hgrow3 hown3)
      go_ret
      have hch := HC.out.trans (Ch.of_grown HG.out)
      have hv : verdict r f ro true true = 0 := by simp [verdict, rowOf, hd'.out]
      have hn : next r f now ro true true = ⟨now, 0, true⟩ := by simp [next, hv, rowOf]
      rw [hv, hn]
      exact ⟨rfl, hch, (hch.block g hlt HP.out.ne).trans Hb.out, _, HO3.out, rep_put HM.out HR.out s ⟨now, 0, true⟩⟩
    | false =>
      by_cases hx : f ≤ ro + 1
      · have hx' := Lib.hid hx
        clear hx
        have hd : decide (f ≤ ro + 1) = true := decide_eq_true hx'.out
        go_enter Try.func17, Try.ntmps17
        go_wp2_with (first | (go_at_call 26; refine (is_calls s true His.out _).mono ?_; rintro e' w1 ⟨rfl, rfl⟩) | (go_at_call 27; refine (of_calls mb n D s l ro true _ Hs.out _ Hown.out rfl Hg.out).mono ?_; rintro e' w1 ⟨rfl, hb1⟩; have c0 := fun o => ((hb1.alloc hb1.size o).cell (p := ⟨g, 0, none⟩) hlt).trans C0.out; have c1 := fun o => ((hb1.alloc hb1.size o).cell (p := ⟨g, 1, none⟩) hlt).trans C1.out; have c2 := fun o => ((hb1.alloc hb1.size o).cell (p := ⟨g, 2, none⟩) hlt).trans C2.out; have HB := Lib.hid hb1; clear hb1))
        go_quiet (fail)
        go_wp2
        generalize hW : World.setCell _ _ _ = W2
        have hb2 : W2.heap[w1.heap.size]? = some (.cells #[.int .i64 now, .int .i64 (0), .bool false] 55 (0, 0)) := by rw [← hW]; exact set_blk (set_blk (new_blk _ _ _) _ _) _ _
        have hbel : Below w.heap.size w W2 := by rw [← hW]; exact ((bd (HB.out.alloc HB.out.size _) _).setCell HB.out.size _).setCell HB.out.size _
        have d0 := cell_of hb2 0 _ rfl
        have d1 := cell_of hb2 1 _ rfl
        have d2 := cell_of hb2 2 _ rfl
        have e0 : W2.cell? ⟨g, 0, none⟩ = some (.map (some mb)) := (hbel.cell (p := ⟨g, 0, none⟩) hlt).trans C0.out
        have HO := Lib.hid (show W2.drew.ownsMap Try.prog 3 hR mb n D from owns_eq Hown.out (hbel.block mb HP.out.lt.2))
        have HC := Lib.hid (show Ch w W2.drew mb from Ch.of_below hbel.drew mb)
        clear hW c0 c1 c2 hb2 hbel
        refine region_tail_drew 7 (by kernel_rfl) (by kernel_rfl) ?_
        simp only [List.take_succ_cons, List.take_zero, List.drop_succ_cons, List.drop_zero]
        repeat still_step
        refine wpStill_nil ?_
        clear d0 d1 d2 e0
        generalize W2.drew = W3 at HO HC ⊢
        go_wp2_with (at_mapUpdate; refine wpList_mapUpdate_own _ rfl _ _ _ 44 rfl 3 55 law3 Try.underlying44 hR mb n D rfl ?hown (by unfold maxLen; omega) _ _ _ rfl rfl (keyOf_int_mk Try.underlying3 Hs.out) (encD ⟨now, 0, false⟩) [] rfl ?_; (case hown => exact HO.out); intro w3 hown3 hgrow3; have HG := Lib.hid hgrow3; have HO3 := Lib.hid hown3; clear hgrow3 hown3)
        go_ret
        have hch := HC.out.trans (Ch.of_grown HG.out)
        have hv : verdict r f ro true false = 2 := by simp [verdict, rowOf, hx'.out]
        have hn : next r f now ro true false = ⟨now, 0, false⟩ := by simp [next, hv, rowOf]
        rw [hv, hn]
        exact ⟨rfl, hch, (hch.block g hlt HP.out.ne).trans Hb.out, _, HO3.out, rep_put HM.out HR.out s ⟨now, 0, false⟩⟩
      · have hx' := Lib.hid hx
        clear hx
        have hd : decide (f ≤ ro + 1) = false := decide_eq_false hx'.out
        go_enter Try.func17, Try.ntmps17
        go_wp2_with (first | (go_at_call 26; refine (is_calls s true His.out _).mono ?_; rintro e' w1 ⟨rfl, rfl⟩) | (go_at_call 27; refine (of_calls mb n D s l ro true _ Hs.out _ Hown.out rfl Hg.out).mono ?_; rintro e' w1 ⟨rfl, hb1⟩; have c0 := fun o => ((hb1.alloc hb1.size o).cell (p := ⟨g, 0, none⟩) hlt).trans C0.out; have c1 := fun o => ((hb1.alloc hb1.size o).cell (p := ⟨g, 1, none⟩) hlt).trans C1.out; have c2 := fun o => ((hb1.alloc hb1.size o).cell (p := ⟨g, 2, none⟩) hlt).trans C2.out; have HB := Lib.hid hb1; clear hb1))
        go_quiet (fail)
        go_wp2
        go_quiet (fail)
        go_wp2
        generalize hW : World.drewN _ _ = W2
        have hb2 : W2.heap[w1.heap.size]? = some (.cells #[.int .i64 now, .int .i64 (ro + 1), .bool true] 55 (0, 0)) := by rw [← hW]; exact new_blk _ _ _
        have hbel : Below w.heap.size w W2 := by rw [← hW]; exact bd (HB.out.alloc HB.out.size _) _
        have d0 := cell_of hb2 0 _ rfl
        have d1 := cell_of hb2 1 _ rfl
        have d2 := cell_of hb2 2 _ rfl
        have e0 : W2.cell? ⟨g, 0, none⟩ = some (.map (some mb)) := (hbel.cell (p := ⟨g, 0, none⟩) hlt).trans C0.out
        have HO := Lib.hid (show W2.drew.ownsMap Try.prog 3 hR mb n D from owns_eq Hown.out (hbel.block mb HP.out.lt.2))
        have HC := Lib.hid (show Ch w W2.drew mb from Ch.of_below hbel.drew mb)
        clear hW c0 c1 c2 hb2 hbel
        refine region_tail_drew 7 (by kernel_rfl) (by kernel_rfl) ?_
        simp only [List.take_succ_cons, List.take_zero, List.drop_succ_cons, List.drop_zero]
        repeat still_step
        refine wpStill_nil ?_
        clear d0 d1 d2 e0
        generalize W2.drew = W3 at HO HC ⊢
        go_wp2_with (at_mapUpdate; refine wpList_mapUpdate_own _ rfl _ _ _ 44 rfl 3 55 law3 Try.underlying44 hR mb n D rfl ?hown (by unfold maxLen; omega) _ _ _ rfl rfl (keyOf_int_mk Try.underlying3 Hs.out) (encD ⟨now, ro + 1, true⟩) [] rfl ?_; (case hown => exact HO.out); intro w3 hown3 hgrow3; have HG := Lib.hid hgrow3; have HO3 := Lib.hid hown3; clear hgrow3 hown3)
        go_ret
        have hch := HC.out.trans (Ch.of_grown HG.out)
        have hv : verdict r f ro true false = 0 := by simp [verdict, rowOf, hx'.out]
        have hn : next r f now ro true false = ⟨now, ro + 1, true⟩ := by simp [next, hv, rowOf]
        rw [hv, hn]
        exact ⟨rfl, hch, (hch.block g hlt HP.out.ne).trans Hb.out, _, HO3.out, rep_put HM.out HR.out s ⟨now, ro + 1, true⟩⟩
  | false =>
    cases ok with
    | false =>
      have hd : decide (r ≤ 0) = false := decide_eq_false (by omega)
      have hd' : Hid (¬ r ≤ 0) := Lib.hid (by omega)
      go_enter Try.func17, Try.ntmps17
      go_wp2_with (first | (go_at_call 26; refine (is_calls s true His.out _).mono ?_; rintro e' w1 ⟨rfl, rfl⟩) | (go_at_call 27; refine (of_calls mb n D s l ro false _ Hs.out _ Hown.out rfl Hg.out).mono ?_; rintro e' w1 ⟨rfl, hb1⟩; have c0 := fun o => ((hb1.alloc hb1.size o).cell (p := ⟨g, 0, none⟩) hlt).trans C0.out; have c1 := fun o => ((hb1.alloc hb1.size o).cell (p := ⟨g, 1, none⟩) hlt).trans C1.out; have c2 := fun o => ((hb1.alloc hb1.size o).cell (p := ⟨g, 2, none⟩) hlt).trans C2.out; have HB := Lib.hid hb1; clear hb1))
      go_quiet (fail)
      go_wp2
      go_quiet (fail)
      go_wp2
      generalize hW : World.drewN _ _ = W2
      have hb2 : W2.heap[w1.heap.size]? = some (.cells #[.int .i64 now, .int .i64 (0), .bool false] 55 (0, 0)) := by rw [← hW]; exact new_blk _ _ _
      have hbel : Below w.heap.size w W2 := by rw [← hW]; exact bd (HB.out.alloc HB.out.size _) _
      have d0 := cell_of hb2 0 _ rfl
      have d1 := cell_of hb2 1 _ rfl
      have d2 := cell_of hb2 2 _ rfl
      have e0 : W2.cell? ⟨g, 0, none⟩ = some (.map (some mb)) := (hbel.cell (p := ⟨g, 0, none⟩) hlt).trans C0.out
      have HO := Lib.hid (show W2.drew.ownsMap Try.prog 3 hR mb n D from owns_eq Hown.out (hbel.block mb HP.out.lt.2))
      have HC := Lib.hid (show Ch w W2.drew mb from Ch.of_below hbel.drew mb)
      clear hW c0 c1 c2 hb2 hbel
      refine region_tail_drew 7 (by kernel_rfl) (by kernel_rfl) ?_
      simp only [List.take_succ_cons, List.take_zero, List.drop_succ_cons, List.drop_zero]
      repeat still_step
      refine wpStill_nil ?_
      clear d0 d1 d2 e0
      generalize W2.drew = W3 at HO HC ⊢
      go_wp2_with (at_mapUpdate; refine wpList_mapUpdate_own _ rfl _ _ _ 44 rfl 3 55 law3 Try.underlying44 hR mb n D rfl ?hown (by unfold maxLen; omega) _ _ _ rfl rfl (keyOf_int_mk Try.underlying3 Hs.out) (encD ⟨now, 0, false⟩) [] rfl ?_; (case hown => exact HO.out); intro w3 hown3 hgrow3; have HG := Lib.hid hgrow3; have HO3 := Lib.hid hown3; clear hgrow3 hown3)
      go_ret
      have hch := HC.out.trans (Ch.of_grown HG.out)
      have hv : verdict r f ro false false = 0 := by simp [verdict, rowOf, hd'.out]
      have hn : next r f now ro false false = ⟨now, 0, false⟩ := by simp [next, hv, rowOf]
      rw [hv, hn]
      exact ⟨rfl, hch, (hch.block g hlt HP.out.ne).trans Hb.out, _, HO3.out, rep_put HM.out HR.out s ⟨now, 0, false⟩⟩
    | true =>
      by_cases hx : r ≤ ro + 1
      · have hx' := Lib.hid hx
        clear hx
        have hd : decide (r ≤ ro + 1) = true := decide_eq_true hx'.out
        go_enter Try.func17, Try.ntmps17
        go_wp2_with (first | (go_at_call 26; refine (is_calls s true His.out _).mono ?_; rintro e' w1 ⟨rfl, rfl⟩) | (go_at_call 27; refine (of_calls mb n D s l ro false _ Hs.out _ Hown.out rfl Hg.out).mono ?_; rintro e' w1 ⟨rfl, hb1⟩; have c0 := fun o => ((hb1.alloc hb1.size o).cell (p := ⟨g, 0, none⟩) hlt).trans C0.out; have c1 := fun o => ((hb1.alloc hb1.size o).cell (p := ⟨g, 1, none⟩) hlt).trans C1.out; have c2 := fun o => ((hb1.alloc hb1.size o).cell (p := ⟨g, 2, none⟩) hlt).trans C2.out; have HB := Lib.hid hb1; clear hb1))
        go_quiet (fail)
        go_wp2
        go_quiet (fail)
        go_wp2
        generalize hW : World.setCell _ _ _ = W2
        have hb2 : W2.heap[w1.heap.size]? = some (.cells #[.int .i64 now, .int .i64 (0), .bool true] 55 (0, 0)) := by rw [← hW]; exact set_blk (set_blk (new_blk _ _ _) _ _) _ _
        have hbel : Below w.heap.size w W2 := by rw [← hW]; exact ((bd (HB.out.alloc HB.out.size _) _).setCell HB.out.size _).setCell HB.out.size _
        have d0 := cell_of hb2 0 _ rfl
        have d1 := cell_of hb2 1 _ rfl
        have d2 := cell_of hb2 2 _ rfl
        have e0 : W2.cell? ⟨g, 0, none⟩ = some (.map (some mb)) := (hbel.cell (p := ⟨g, 0, none⟩) hlt).trans C0.out
        have HO := Lib.hid (show W2.drew.ownsMap Try.prog 3 hR mb n D from owns_eq Hown.out (hbel.block mb HP.out.lt.2))
        have HC := Lib.hid (show Ch w W2.drew mb from Ch.of_below hbel.drew mb)
        clear hW c0 c1 c2 hb2 hbel
        refine region_tail_drew 7 (by kernel_rfl) (by kernel_rfl) ?_
        simp only [List.take_succ_cons, List.take_zero, List.drop_succ_cons, List.drop_zero]
        repeat still_step
        refine wpStill_nil ?_
        clear d0 d1 d2 e0
        generalize W2.drew = W3 at HO HC ⊢
        go_wp2_with (at_mapUpdate; refine wpList_mapUpdate_own _ rfl _ _ _ 44 rfl 3 55 law3 Try.underlying44 hR mb n D rfl ?hown (by unfold maxLen; omega) _ _ _ rfl rfl (keyOf_int_mk Try.underlying3 Hs.out) (encD ⟨now, 0, true⟩) [] rfl ?_; (case hown => exact HO.out); intro w3 hown3 hgrow3; have HG := Lib.hid hgrow3; have HO3 := Lib.hid hown3; clear hgrow3 hown3)
        go_ret
        have hch := HC.out.trans (Ch.of_grown HG.out)
        have hv : verdict r f ro false true = 1 := by simp [verdict, rowOf, hx'.out]
        have hn : next r f now ro false true = ⟨now, 0, true⟩ := by simp [next, hv, rowOf]
        rw [hv, hn]
        exact ⟨rfl, hch, (hch.block g hlt HP.out.ne).trans Hb.out, _, HO3.out, rep_put HM.out HR.out s ⟨now, 0, true⟩⟩
      · have hx' := Lib.hid hx
        clear hx
        have hd : decide (r ≤ ro + 1) = false := decide_eq_false hx'.out
        go_enter Try.func17, Try.ntmps17
        go_wp2_with (first | (go_at_call 26; refine (is_calls s true His.out _).mono ?_; rintro e' w1 ⟨rfl, rfl⟩) | (go_at_call 27; refine (of_calls mb n D s l ro false _ Hs.out _ Hown.out rfl Hg.out).mono ?_; rintro e' w1 ⟨rfl, hb1⟩; have c0 := fun o => ((hb1.alloc hb1.size o).cell (p := ⟨g, 0, none⟩) hlt).trans C0.out; have c1 := fun o => ((hb1.alloc hb1.size o).cell (p := ⟨g, 1, none⟩) hlt).trans C1.out; have c2 := fun o => ((hb1.alloc hb1.size o).cell (p := ⟨g, 2, none⟩) hlt).trans C2.out; have HB := Lib.hid hb1; clear hb1))
        go_quiet (fail)
        go_wp2
        go_quiet (fail)
        go_wp2
        generalize hW : World.drewN _ _ = W2
        have hb2 : W2.heap[w1.heap.size]? = some (.cells #[.int .i64 now, .int .i64 (ro + 1), .bool false] 55 (0, 0)) := by rw [← hW]; exact new_blk _ _ _
        have hbel : Below w.heap.size w W2 := by rw [← hW]; exact bd (HB.out.alloc HB.out.size _) _
        have d0 := cell_of hb2 0 _ rfl
        have d1 := cell_of hb2 1 _ rfl
        have d2 := cell_of hb2 2 _ rfl
        have e0 : W2.cell? ⟨g, 0, none⟩ = some (.map (some mb)) := (hbel.cell (p := ⟨g, 0, none⟩) hlt).trans C0.out
        have HO := Lib.hid (show W2.drew.ownsMap Try.prog 3 hR mb n D from owns_eq Hown.out (hbel.block mb HP.out.lt.2))
        have HC := Lib.hid (show Ch w W2.drew mb from Ch.of_below hbel.drew mb)
        clear hW c0 c1 c2 hb2 hbel
        refine region_tail_drew 7 (by kernel_rfl) (by kernel_rfl) ?_
        simp only [List.take_succ_cons, List.take_zero, List.drop_succ_cons, List.drop_zero]
        repeat still_step
        refine wpStill_nil ?_
        clear d0 d1 d2 e0
        generalize W2.drew = W3 at HO HC ⊢
        go_wp2_with (at_mapUpdate; refine wpList_mapUpdate_own _ rfl _ _ _ 44 rfl 3 55 law3 Try.underlying44 hR mb n D rfl ?hown (by unfold maxLen; omega) _ _ _ rfl rfl (keyOf_int_mk Try.underlying3 Hs.out) (encD ⟨now, ro + 1, false⟩) [] rfl ?_; (case hown => exact HO.out); intro w3 hown3 hgrow3; have HG := Lib.hid hgrow3; have HO3 := Lib.hid hown3; clear hgrow3 hown3)
        go_ret
        have hch := HC.out.trans (Ch.of_grown HG.out)
        have hv : verdict r f ro false true = 0 := by simp [verdict, rowOf, hx'.out]
        have hn : next r f now ro false true = ⟨now, ro + 1, false⟩ := by simp [next, hv, rowOf]
        rw [hv, hn]
        exact ⟨rfl, hch, (hch.block g hlt HP.out.ne).trans Hb.out, _, HO3.out, rep_put HM.out HR.out s ⟨now, ro + 1, false⟩⟩
end Go.Proofs.Ytnlnkkblccppdaa.PB
