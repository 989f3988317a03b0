/- Lemmas and contracts that the row YtgkmbefamcnifaaLawTopQuiet goes by (part 11; joined by pack.py out of this session's texts, and of words that the kit's print lays). -/
import Derived.Test.YtgkmbefamcnifaaKT10
namespace Go.Proofs.Ytgkmbefamcnifaa.TB
set_option linter.unusedVariables false
set_option linter.unusedSimpArgs false
open Go.RowKit Go.Proofs.Ytgkmbefamcnifaa.Hp Go.Proofs.Ytgkmbefamcnifaa.SB Go.Proofs.Ytgkmbefamcnifaa.WB Go.Proofs.YtgkmbefamcnifaaW.PrintWords Go.Proofs.YtgkmbefamcnifaaW.PrintLast Go.Proofs.YtgkmbefamcnifaaW.PrintMore
theorem PoolAt.set1 {W : World} {b : Nat} {p : Po} (h : PoolAt W b p) (hl : p.sl.length = 64) {i j : Nat} (hi : i < 64) (hj : j < 5) {v : Value} {s' : Sl} (hs : s'.cs = (p.s i).cs.set j v) : PoolAt (W.setCell ⟨b, 3 + i * 5 + j, none⟩ v) b (p.put i s') := by
  have e := heap_setCell_same W b (3 + i * 5 + j) _ 34 v h
  rw [Po.ag_set hl hi hj hs] at e
  exact e
set_option maxHeartbeats 4000000 in
set_option maxRecDepth 100000 in
theorem papply_3 (p : Po) (hl : p.sl.length = 64) (i : Nat) (hi : i < 64) (s1 s2 s3 s4 ep x y : Int) (hss : p.s i = ⟨2, s1, s2, s3, s4⟩) (hep : p.ep = ep) (w : World) :
    Calls Try.prog 61 #[.agg p.ag, .agg #[.int .i64 3, .int .i64 (i : Int), .int .i64 0, .int .i64 0, .int .i64 0, .int .u64 0, .int .u64 0]] w fun e w' => e = .returned (.tuple #[.agg (p.up.put i ⟨3, s1, s2, s3, s4⟩).ag, .int .i64 0]) ∧ Below w.heap.size w w' := by
  have HL := Aside0.mk hl
  have HI := Aside0.mk hi
  have HSS := Aside0.mk hss
  have HEP := Aside0.mk hep
  have HCK := Aside0.mk (fun W => check_3 (i : Int) (by omega) (by omega) W)
  have HFT := Aside0.mk (fun W => fits_3 p hl i hi s1 s2 s3 s4 ep 0 0 hss hep W)
  have hi0 : (0 : Int) ≤ (i : Int) := by omega
  have hi1 : (i : Int) < 64 := by omega
  clear hl hi hss hep
  have hu26 := Try.underlying26
  go_enter Try.func61, Try.ntmps61
  go_upto_region 1 with (first
    | ((with_reducible refine gate_dst (N := 2) rfl ?_); refine pool_box (p := p) rfl rfl rfl ?_; intro g hg w1 hp1 hb1 hs1; have HP1 := Aside0.mk hp1; have HB1 := Aside0.mk hb1; have HGE := Aside0.mk hg; clear hp1 hb1 hg)
    | ((with_reducible refine gate_dst (N := 4) rfl ?_); refine pool_alloc rfl rfl ?_; intro g4 hg4 w4 hp4 hb4 hs4; have HP4 := Aside0.mk hp4; have HB4 := Aside0.mk hb4; have HG4 := Aside0.mk hg4; clear hp4 hb4 hs4 hg4))
  obtain rfl : g4 = g + 2 := by rw [← HG4.out, (box_at w1 hs1 _).2.2]
  refine wp_w (fun W => Ap w W g p #[.int .i64 3, .int .i64 (i : Int), .int .i64 0, .int .i64 0, .int .i64 0, .int .u64 0, .int .u64 0]) ?_ ?_
  · exact ⟨(HP1.out.below (box_at w1 hs1 _).2.1).below HB4.out, bk_ (box_at w1 hs1 _).1 HB4.out, HP4.out, below_step (below_step HB1.out (box_at w1 hs1 _).2.1) HB4.out, Nat.le_of_eq HGE.out⟩
  intro w2 h2
  have HA2 := Aside0.mk h2
  obtain ⟨q0, q1, q2, q3, q4, q5, q6⟩ := c7 h2.ent
  clear h2 HB1 HP1 hs1 HP4 HB4 HG4
  go_upto_region 7 with (first
    | (go_at_call 96; (with_reducible refine (HCK.out _).mono ?_); rintro e1 x1 ⟨rfl, hx⟩; have HA3 := Aside0.mk (HA2.out.grow hx); obtain ⟨q0, q1, q2, q3, q4, q5, q6⟩ := c7 HA3.out.ent; clear hx)
    | ((with_reducible refine gate_dst (N := 15) rfl ?_); refine pool_load rfl rfl rfl HA3.out.pool HL.out ?_)
    | (go_at_call 97; (with_reducible refine (HFT.out _).mono ?_); rintro e2 x2 ⟨rfl, hx⟩; have HA4 := Aside0.mk (HA3.out.grow hx); clear hx))
  refine wp_w (fun W => Ap w W g p #[.int .i64 3, .int .i64 (i : Int), .int .i64 0, .int .i64 0, .int .i64 0, .int .u64 0, .int .u64 0]) ?_ ?_
  · first | exact HA4.out | exact HA4.out.drew
  intro w5 h5
  have HA5 := Aside0.mk h5
  clear h5 HA2 HA3 HA4 q0 q1 q2 q3 q4 q5 q6
  obtain ⟨h0, h1, h2⟩ := HA5.out.pool.head
  have fr0 := HA5.out.pool.free 0
  go_upto_region 8 with fail
  refine wp_w (fun W => Ap w W g p.up #[.int .i64 3, .int .i64 (i : Int), .int .i64 0, .int .i64 0, .int .i64 0, .int .u64 0, .int .u64 0]) ?_ ?_
  · first | exact HA5.out.own ((Chg.refl g _).set _ _) (HA5.out.pool.setver _) | exact HA5.out.drew.own ((Chg.refl g _).set _ _) (HA5.out.drew.pool.setver _) | exact (HA5.out.own ((Chg.refl g _).set _ _) (HA5.out.pool.setver _)).drew
  intro w6 h6
  have HA6 := Aside0.mk h6
  clear h6 HA5 h0 h1 h2 fr0
  obtain ⟨q0, q1, q2, q3, q4, q5, q6⟩ := c7 HA6.out.ent
  obtain ⟨r0, r1, r2, r3, r4, r5, r6⟩ := HA6.out.pool.ring HL.out
  obtain ⟨c0, c1, c2, c3, c4⟩ := HA6.out.pool.slot HL.out HI.out
  rw [show p.up.s i = ⟨2, s1, s2, s3, s4⟩ from HSS.out] at c0 c1 c2 c3 c4
  rw [show p.up.ep = ep from HEP.out] at r0
  obtain ⟨u0, u1, u2, u3, u4⟩ := f5 HA6.out.pool (3 + i * 5)
  skip
  go_upto_region 22 with fail
  refine wp_w (fun W => Ap w W g (p.up.put i ⟨3, s1, s2, s3, s4⟩) #[.int .i64 3, .int .i64 (i : Int), .int .i64 0, .int .i64 0, .int .i64 0, .int .u64 0, .int .u64 0]) ?_ ?_
  · exact HA6.out.own ((Chg.refl g _).set _ _) (HA6.out.pool.set1 HL.out HI.out (j := 0) (by omega) (by rw [show p.up.s i = _ from HSS.out]; rfl))
  intro w9 h9
  have HA9 := Aside0.mk h9
  have HLP := Aside0.mk (show (p.up.put i ⟨3, s1, s2, s3, s4⟩).sl.length = 64 from (Po.put_len _ _ _).trans HL.out)
  clear h9
  go_wp2_with (first
    | ((with_reducible refine gate_dst (N := 77) rfl ?_); refine pool_load rfl rfl rfl HA9.out.pool HLP.out ?_)
    | ((with_reducible refine gate_store (t := 34) (p := 4) rfl ?_); refine pool_store rfl rfl rfl rfl rfl HA9.out.res Po.z_len HLP.out ?_; intro wa hpa hca; have HPA := Aside0.mk hpa; have HCA := Aside0.mk hca; clear hpa hca))
  refine bodyPost_ret (results_ct_row rfl _ _ (g + 2) 34 _ (0, 0) _ rfl HPA.out Try.underlying34 rfl (by rw [info34, Po.ag_size HLP.out])) rfl ⟨rfl, ?_⟩
  exact Chg.step HA9.out.below HCA.out (by have := HA9.out.lo; omega)
set_option maxHeartbeats 4000000 in
set_option maxRecDepth 100000 in
theorem papply_4_1 (p : Po) (hl : p.sl.length = 64) (i : Nat) (hi : i < 64) (s1 s2 s3 s4 ep x y : Int) (hss : p.s i = ⟨1, s1, s2, s3, s4⟩) (hep : p.ep = ep) (w : World) :
    Calls Try.prog 61 #[.agg p.ag, .agg #[.int .i64 4, .int .i64 (i : Int), .int .i64 0, .int .i64 0, .int .i64 0, .int .u64 0, .int .u64 0]] w fun e w' => e = .returned (.tuple #[.agg (p.up.put i ⟨4, s1, s2, s3, ep⟩).ag, .int .i64 0]) ∧ Below w.heap.size w w' := by
  have HL := Aside0.mk hl
  have HI := Aside0.mk hi
  have HSS := Aside0.mk hss
  have HEP := Aside0.mk hep
  have HCK := Aside0.mk (fun W => check_4 (i : Int) (by omega) (by omega) W)
  have HFT := Aside0.mk (fun W => fits_4_1 p hl i hi s1 s2 s3 s4 ep 0 0 hss hep W)
  have hi0 : (0 : Int) ≤ (i : Int) := by omega
  have hi1 : (i : Int) < 64 := by omega
  clear hl hi hss hep
  have hu26 := Try.underlying26
  go_enter Try.func61, Try.ntmps61
  go_upto_region 1 with (first
    | ((with_reducible refine gate_dst (N := 2) rfl ?_); refine pool_box (p := p) rfl rfl rfl ?_; intro g hg w1 hp1 hb1 hs1; have HP1 := Aside0.mk hp1; have HB1 := Aside0.mk hb1; have HGE := Aside0.mk hg; clear hp1 hb1 hg)
    | ((with_reducible refine gate_dst (N := 4) rfl ?_); refine pool_alloc rfl rfl ?_; intro g4 hg4 w4 hp4 hb4 hs4; have HP4 := Aside0.mk hp4; have HB4 := Aside0.mk hb4; have HG4 := Aside0.mk hg4; clear hp4 hb4 hs4 hg4))
  obtain rfl : g4 = g + 2 := by rw [← HG4.out, (box_at w1 hs1 _).2.2]
  refine wp_w (fun W => Ap w W g p #[.int .i64 4, .int .i64 (i : Int), .int .i64 0, .int .i64 0, .int .i64 0, .int .u64 0, .int .u64 0]) ?_ ?_
  · exact ⟨(HP1.out.below (box_at w1 hs1 _).2.1).below HB4.out, bk_ (box_at w1 hs1 _).1 HB4.out, HP4.out, below_step (below_step HB1.out (box_at w1 hs1 _).2.1) HB4.out, Nat.le_of_eq HGE.out⟩
  intro w2 h2
  have HA2 := Aside0.mk h2
  obtain ⟨q0, q1, q2, q3, q4, q5, q6⟩ := c7 h2.ent
  clear h2 HB1 HP1 hs1 HP4 HB4 HG4
  go_upto_region 7 with (first
    | (go_at_call 96; (with_reducible refine (HCK.out _).mono ?_); rintro e1 x1 ⟨rfl, hx⟩; have HA3 := Aside0.mk (HA2.out.grow hx); obtain ⟨q0, q1, q2, q3, q4, q5, q6⟩ := c7 HA3.out.ent; clear hx)
    | ((with_reducible refine gate_dst (N := 15) rfl ?_); refine pool_load rfl rfl rfl HA3.out.pool HL.out ?_)
    | (go_at_call 97; (with_reducible refine (HFT.out _).mono ?_); rintro e2 x2 ⟨rfl, hx⟩; have HA4 := Aside0.mk (HA3.out.grow hx); clear hx))
  refine wp_w (fun W => Ap w W g p #[.int .i64 4, .int .i64 (i : Int), .int .i64 0, .int .i64 0, .int .i64 0, .int .u64 0, .int .u64 0]) ?_ ?_
  · first | exact HA4.out | exact HA4.out.drew
  intro w5 h5
  have HA5 := Aside0.mk h5
  clear h5 HA2 HA3 HA4 q0 q1 q2 q3 q4 q5 q6
  obtain ⟨h0, h1, h2⟩ := HA5.out.pool.head
  have fr0 := HA5.out.pool.free 0
  go_upto_region 8 with fail
  refine wp_w (fun W => Ap w W g p.up #[.int .i64 4, .int .i64 (i : Int), .int .i64 0, .int .i64 0, .int .i64 0, .int .u64 0, .int .u64 0]) ?_ ?_
  · first | exact HA5.out.own ((Chg.refl g _).set _ _) (HA5.out.pool.setver _) | exact HA5.out.drew.own ((Chg.refl g _).set _ _) (HA5.out.drew.pool.setver _) | exact (HA5.out.own ((Chg.refl g _).set _ _) (HA5.out.pool.setver _)).drew
  intro w6 h6
  have HA6 := Aside0.mk h6
  clear h6 HA5 h0 h1 h2 fr0
  obtain ⟨q0, q1, q2, q3, q4, q5, q6⟩ := c7 HA6.out.ent
  obtain ⟨r0, r1, r2, r3, r4, r5, r6⟩ := HA6.out.pool.ring HL.out
  obtain ⟨c0, c1, c2, c3, c4⟩ := HA6.out.pool.slot HL.out HI.out
  rw [show p.up.s i = ⟨1, s1, s2, s3, s4⟩ from HSS.out] at c0 c1 c2 c3 c4
  rw [show p.up.ep = ep from HEP.out] at r0
  obtain ⟨u0, u1, u2, u3, u4⟩ := f5 HA6.out.pool (3 + i * 5)
  skip
  go_upto_region 22 with fail
  refine wp_w (fun W => Ap w W g (p.up.put i ⟨4, s1, s2, s3, ep⟩) #[.int .i64 4, .int .i64 (i : Int), .int .i64 0, .int .i64 0, .int .i64 0, .int .u64 0, .int .u64 0]) ?_ ?_
  · have e1 := HA6.out.pool.set1 HL.out HI.out (j := 0) (by omega) (v := .int .i64 4) (s' := ⟨4, s1, s2, s3, s4⟩) (by rw [show p.up.s i = _ from HSS.out]; rfl)
    have e2 := e1.set1 ((Po.put_len _ _ _).trans HL.out) HI.out (j := 4) (by omega) (v := .int .i64 ep) (s' := ⟨4, s1, s2, s3, ep⟩) (by rw [Po.s_put_same _ (by show i < p.sl.length; rw [HL.out]; exact HI.out)]; rfl)
    rw [Po.put_put] at e2
    exact HA6.out.own (((Chg.refl g _).set _ _).set _ _) e2
  intro w9 h9
  have HA9 := Aside0.mk h9
  have HLP := Aside0.mk (show (p.up.put i ⟨4, s1, s2, s3, ep⟩).sl.length = 64 from (Po.put_len _ _ _).trans HL.out)
  clear h9
  go_wp2_with (first
    | ((with_reducible refine gate_dst (N := 77) rfl ?_); refine pool_load rfl rfl rfl HA9.out.pool HLP.out ?_)
    | ((with_reducible refine gate_store (t := 34) (p := 4) rfl ?_); refine pool_store rfl rfl rfl rfl rfl HA9.out.res Po.z_len HLP.out ?_; intro wa hpa hca; have HPA := Aside0.mk hpa; have HCA := Aside0.mk hca; clear hpa hca))
  refine bodyPost_ret (results_ct_row rfl _ _ (g + 2) 34 _ (0, 0) _ rfl HPA.out Try.underlying34 rfl (by rw [info34, Po.ag_size HLP.out])) rfl ⟨rfl, ?_⟩
  exact Chg.step HA9.out.below HCA.out (by have := HA9.out.lo; omega)
set_option maxHeartbeats 4000000 in
set_option maxRecDepth 100000 in
theorem papply_4_3 (p : Po) (hl : p.sl.length = 64) (i : Nat) (hi : i < 64) (s1 s2 s3 s4 ep x y : Int) (hss : p.s i = ⟨3, s1, s2, s3, s4⟩) (hep : p.ep = ep) (w : World) :
    Calls Try.prog 61 #[.agg p.ag, .agg #[.int .i64 4, .int .i64 (i : Int), .int .i64 0, .int .i64 0, .int .i64 0, .int .u64 0, .int .u64 0]] w fun e w' => e = .returned (.tuple #[.agg (p.up.put i ⟨4, s1, s2, s3, ep⟩).ag, .int .i64 0]) ∧ Below w.heap.size w w' := by
  have HL := Aside0.mk hl
  have HI := Aside0.mk hi
  have HSS := Aside0.mk hss
  have HEP := Aside0.mk hep
  have HCK := Aside0.mk (fun W => check_4 (i : Int) (by omega) (by omega) W)
  have HFT := Aside0.mk (fun W => fits_4_3 p hl i hi s1 s2 s3 s4 ep 0 0 hss hep W)
  have hi0 : (0 : Int) ≤ (i : Int) := by omega
  have hi1 : (i : Int) < 64 := by omega
  clear hl hi hss hep
  have hu26 := Try.underlying26
  go_enter Try.func61, Try.ntmps61
  go_upto_region 1 with (first
    | ((with_reducible refine gate_dst (N := 2) rfl ?_); refine pool_box (p := p) rfl rfl rfl ?_; intro g hg w1 hp1 hb1 hs1; have HP1 := Aside0.mk hp1; have HB1 := Aside0.mk hb1; have HGE := Aside0.mk hg; clear hp1 hb1 hg)
    | ((with_reducible refine gate_dst (N := 4) rfl ?_); refine pool_alloc rfl rfl ?_; intro g4 hg4 w4 hp4 hb4 hs4; have HP4 := Aside0.mk hp4; have HB4 := Aside0.mk hb4; have HG4 := Aside0.mk hg4; clear hp4 hb4 hs4 hg4))
  obtain rfl : g4 = g + 2 := by rw [← HG4.out, (box_at w1 hs1 _).2.2]
  refine wp_w (fun W => Ap w W g p #[.int .i64 4, .int .i64 (i : Int), .int .i64 0, .int .i64 0, .int .i64 0, .int .u64 0, .int .u64 0]) ?_ ?_
  · exact ⟨(HP1.out.below (box_at w1 hs1 _).2.1).below HB4.out, bk_ (box_at w1 hs1 _).1 HB4.out, HP4.out, below_step (below_step HB1.out (box_at w1 hs1 _).2.1) HB4.out, Nat.le_of_eq HGE.out⟩
  intro w2 h2
  have HA2 := Aside0.mk h2
  obtain ⟨q0, q1, q2, q3, q4, q5, q6⟩ := c7 h2.ent
  clear h2 HB1 HP1 hs1 HP4 HB4 HG4
  go_upto_region 7 with (first
    | (go_at_call 96; (with_reducible refine (HCK.out _).mono ?_); rintro e1 x1 ⟨rfl, hx⟩; have HA3 := Aside0.mk (HA2.out.grow hx); obtain ⟨q0, q1, q2, q3, q4, q5, q6⟩ := c7 HA3.out.ent; clear hx)
    | ((with_reducible refine gate_dst (N := 15) rfl ?_); refine pool_load rfl rfl rfl HA3.out.pool HL.out ?_)
    | (go_at_call 97; (with_reducible refine (HFT.out _).mono ?_); rintro e2 x2 ⟨rfl, hx⟩; have HA4 := Aside0.mk (HA3.out.grow hx); clear hx))
  refine wp_w (fun W => Ap w W g p #[.int .i64 4, .int .i64 (i : Int), .int .i64 0, .int .i64 0, .int .i64 0, .int .u64 0, .int .u64 0]) ?_ ?_
  · first | exact HA4.out | exact HA4.out.drew
  intro w5 h5
  have HA5 := Aside0.mk h5
  clear h5 HA2 HA3 HA4 q0 q1 q2 q3 q4 q5 q6
  obtain ⟨h0, h1, h2⟩ := HA5.out.pool.head
  have fr0 := HA5.out.pool.free 0
  go_upto_region 8 with fail
  refine wp_w (fun W => Ap w W g p.up #[.int .i64 4, .int .i64 (i : Int), .int .i64 0, .int .i64 0, .int .i64 0, .int .u64 0, .int .u64 0]) ?_ ?_
  · first | exact HA5.out.own ((Chg.refl g _).set _ _) (HA5.out.pool.setver _) | exact HA5.out.drew.own ((Chg.refl g _).set _ _) (HA5.out.drew.pool.setver _) | exact (HA5.out.own ((Chg.refl g _).set _ _) (HA5.out.pool.setver _)).drew
  intro w6 h6
  have HA6 := Aside0.mk h6
  clear h6 HA5 h0 h1 h2 fr0
  obtain ⟨q0, q1, q2, q3, q4, q5, q6⟩ := c7 HA6.out.ent
  obtain ⟨r0, r1, r2, r3, r4, r5, r6⟩ := HA6.out.pool.ring HL.out
  obtain ⟨c0, c1, c2, c3, c4⟩ := HA6.out.pool.slot HL.out HI.out
  rw [show p.up.s i = ⟨3, s1, s2, s3, s4⟩ from HSS.out] at c0 c1 c2 c3 c4
  rw [show p.up.ep = ep from HEP.out] at r0
  obtain ⟨u0, u1, u2, u3, u4⟩ := f5 HA6.out.pool (3 + i * 5)
  skip
  go_upto_region 22 with fail
  refine wp_w (fun W => Ap w W g (p.up.put i ⟨4, s1, s2, s3, ep⟩) #[.int .i64 4, .int .i64 (i : Int), .int .i64 0, .int .i64 0, .int .i64 0, .int .u64 0, .int .u64 0]) ?_ ?_
  · have e1 := HA6.out.pool.set1 HL.out HI.out (j := 0) (by omega) (v := .int .i64 4) (s' := ⟨4, s1, s2, s3, s4⟩) (by rw [show p.up.s i = _ from HSS.out]; rfl)
    have e2 := e1.set1 ((Po.put_len _ _ _).trans HL.out) HI.out (j := 4) (by omega) (v := .int .i64 ep) (s' := ⟨4, s1, s2, s3, ep⟩) (by rw [Po.s_put_same _ (by show i < p.sl.length; rw [HL.out]; exact HI.out)]; rfl)
    rw [Po.put_put] at e2
    exact HA6.out.own (((Chg.refl g _).set _ _).set _ _) e2
  intro w9 h9
  have HA9 := Aside0.mk h9
  have HLP := Aside0.mk (show (p.up.put i ⟨4, s1, s2, s3, ep⟩).sl.length = 64 from (Po.put_len _ _ _).trans HL.out)
  clear h9
  go_wp2_with (first
    | ((with_reducible refine gate_dst (N := 77) rfl ?_); refine pool_load rfl rfl rfl HA9.out.pool HLP.out ?_)
    | ((with_reducible refine gate_store (t := 34) (p := 4) rfl ?_); refine pool_store rfl rfl rfl rfl rfl HA9.out.res Po.z_len HLP.out ?_; intro wa hpa hca; have HPA := Aside0.mk hpa; have HCA := Aside0.mk hca; clear hpa hca))
  refine bodyPost_ret (results_ct_row rfl _ _ (g + 2) 34 _ (0, 0) _ rfl HPA.out Try.underlying34 rfl (by rw [info34, Po.ag_size HLP.out])) rfl ⟨rfl, ?_⟩
  exact Chg.step HA9.out.below HCA.out (by have := HA9.out.lo; omega)
set_option maxHeartbeats 4000000 in
set_option maxRecDepth 100000 in
theorem papply_5 (p : Po) (hl : p.sl.length = 64) (i : Nat) (hi : i < 64) (s1 s2 s3 s4 ep x y : Int) (hss : p.s i = ⟨4, s1, s2, s3, s4⟩) (hep : p.ep = ep) (hs : ¬ ep < wrap64 (s4 + 3)) (w : World) :
    Calls Try.prog 61 #[.agg p.ag, .agg #[.int .i64 5, .int .i64 (i : Int), .int .i64 0, .int .i64 0, .int .i64 0, .int .u64 0, .int .u64 0]] w fun e w' => e = .returned (.tuple #[.agg (p.up.put i ⟨0, 0, 0, 0, 0⟩).ag, .int .i64 0]) ∧ Below w.heap.size w w' := by
  have HL := Aside0.mk hl
  have HI := Aside0.mk hi
  have HSS := Aside0.mk hss
  have HEP := Aside0.mk hep
  have HCK := Aside0.mk (fun W => check_5 (i : Int) (by omega) (by omega) W)
  have HFT := Aside0.mk (fun W => fits_5 p hl i hi s1 s2 s3 s4 ep 0 0 hss hep hs W)
  have hi0 : (0 : Int) ≤ (i : Int) := by omega
  have hi1 : (i : Int) < 64 := by omega
  clear hl hi hss hep hs
  have hu26 := Try.underlying26
  go_enter Try.func61, Try.ntmps61
  go_upto_region 1 with (first
    | ((with_reducible refine gate_dst (N := 2) rfl ?_); refine pool_box (p := p) rfl rfl rfl ?_; intro g hg w1 hp1 hb1 hs1; have HP1 := Aside0.mk hp1; have HB1 := Aside0.mk hb1; have HGE := Aside0.mk hg; clear hp1 hb1 hg)
    | ((with_reducible refine gate_dst (N := 4) rfl ?_); refine pool_alloc rfl rfl ?_; intro g4 hg4 w4 hp4 hb4 hs4; have HP4 := Aside0.mk hp4; have HB4 := Aside0.mk hb4; have HG4 := Aside0.mk hg4; clear hp4 hb4 hs4 hg4))
  obtain rfl : g4 = g + 2 := by rw [← HG4.out, (box_at w1 hs1 _).2.2]
  refine wp_w (fun W => Ap w W g p #[.int .i64 5, .int .i64 (i : Int), .int .i64 0, .int .i64 0, .int .i64 0, .int .u64 0, .int .u64 0]) ?_ ?_
  · exact ⟨(HP1.out.below (box_at w1 hs1 _).2.1).below HB4.out, bk_ (box_at w1 hs1 _).1 HB4.out, HP4.out, below_step (below_step HB1.out (box_at w1 hs1 _).2.1) HB4.out, Nat.le_of_eq HGE.out⟩
  intro w2 h2
  have HA2 := Aside0.mk h2
  obtain ⟨q0, q1, q2, q3, q4, q5, q6⟩ := c7 h2.ent
  clear h2 HB1 HP1 hs1 HP4 HB4 HG4
  go_upto_region 7 with (first
    | (go_at_call 96; (with_reducible refine (HCK.out _).mono ?_); rintro e1 x1 ⟨rfl, hx⟩; have HA3 := Aside0.mk (HA2.out.grow hx); obtain ⟨q0, q1, q2, q3, q4, q5, q6⟩ := c7 HA3.out.ent; clear hx)
    | ((with_reducible refine gate_dst (N := 15) rfl ?_); refine pool_load rfl rfl rfl HA3.out.pool HL.out ?_)
    | (go_at_call 97; (with_reducible refine (HFT.out _).mono ?_); rintro e2 x2 ⟨rfl, hx⟩; have HA4 := Aside0.mk (HA3.out.grow hx); clear hx))
  refine wp_w (fun W => Ap w W g p #[.int .i64 5, .int .i64 (i : Int), .int .i64 0, .int .i64 0, .int .i64 0, .int .u64 0, .int .u64 0]) ?_ ?_
  · first | exact HA4.out | exact HA4.out.drew
  intro w5 h5
  have HA5 := Aside0.mk h5
  clear h5 HA2 HA3 HA4 q0 q1 q2 q3 q4 q5 q6
  obtain ⟨h0, h1, h2⟩ := HA5.out.pool.head
  have fr0 := HA5.out.pool.free 0
  go_upto_region 8 with fail
  refine wp_w (fun W => Ap w W g p.up #[.int .i64 5, .int .i64 (i : Int), .int .i64 0, .int .i64 0, .int .i64 0, .int .u64 0, .int .u64 0]) ?_ ?_
  · first | exact HA5.out.own ((Chg.refl g _).set _ _) (HA5.out.pool.setver _) | exact HA5.out.drew.own ((Chg.refl g _).set _ _) (HA5.out.drew.pool.setver _) | exact (HA5.out.own ((Chg.refl g _).set _ _) (HA5.out.pool.setver _)).drew
  intro w6 h6
  have HA6 := Aside0.mk h6
  clear h6 HA5 h0 h1 h2 fr0
  obtain ⟨q0, q1, q2, q3, q4, q5, q6⟩ := c7 HA6.out.ent
  obtain ⟨r0, r1, r2, r3, r4, r5, r6⟩ := HA6.out.pool.ring HL.out
  obtain ⟨c0, c1, c2, c3, c4⟩ := HA6.out.pool.slot HL.out HI.out
  rw [show p.up.s i = ⟨4, s1, s2, s3, s4⟩ from HSS.out] at c0 c1 c2 c3 c4
  rw [show p.up.ep = ep from HEP.out] at r0
  obtain ⟨u0, u1, u2, u3, u4⟩ := f5 HA6.out.pool (3 + i * 5)
  skip
  go_upto_region 22 with fail
  refine wp_w (fun W => Ap w W g (p.up.put i ⟨0, 0, 0, 0, 0⟩) #[.int .i64 5, .int .i64 (i : Int), .int .i64 0, .int .i64 0, .int .i64 0, .int .u64 0, .int .u64 0]) ?_ ?_
  · exact HA6.out.own (chg5 _ g _ _ _ _ _ _) (HA6.out.pool.put HL.out HI.out ⟨0, 0, 0, 0, 0⟩)
  intro w9 h9
  have HA9 := Aside0.mk h9
  have HLP := Aside0.mk (show (p.up.put i ⟨0, 0, 0, 0, 0⟩).sl.length = 64 from (Po.put_len _ _ _).trans HL.out)
  clear h9
  go_wp2_with (first
    | ((with_reducible refine gate_dst (N := 77) rfl ?_); refine pool_load rfl rfl rfl HA9.out.pool HLP.out ?_)
    | ((with_reducible refine gate_store (t := 34) (p := 4) rfl ?_); refine pool_store rfl rfl rfl rfl rfl HA9.out.res Po.z_len HLP.out ?_; intro wa hpa hca; have HPA := Aside0.mk hpa; have HCA := Aside0.mk hca; clear hpa hca))
  refine bodyPost_ret (results_ct_row rfl _ _ (g + 2) 34 _ (0, 0) _ rfl HPA.out Try.underlying34 rfl (by rw [info34, Po.ag_size HLP.out])) rfl ⟨rfl, ?_⟩
  exact Chg.step HA9.out.below HCA.out (by have := HA9.out.lo; omega)
set_option maxHeartbeats 4000000 in
set_option maxRecDepth 100000 in
theorem papply_6 (p : Po) (hl : p.sl.length = 64) (i : Nat) (hi : i < 64) (s0 s1 s2 s3 s4 ep x y : Int) (hss : p.s 0 = ⟨s0, s1, s2, s3, s4⟩) (hep : p.ep = ep) (w : World) :
    Calls Try.prog 61 #[.agg p.ag, .agg #[.int .i64 6, .int .i64 0, .int .i64 0, .int .i64 0, .int .i64 0, .int .u64 x, .int .u64 y]] w fun e w' => e = .returned (.tuple #[.agg (p.up.ring (wrap64 (ep + 1)) p.k1 p.k2 ⟨x, y⟩).ag, .int .i64 0]) ∧ Below w.heap.size w w' := by
  have HL := Aside0.mk hl
  have HI := Aside0.mk hi
  have HSS := Aside0.mk hss
  have HEP := Aside0.mk hep
  have HCK := Aside0.mk (fun W => check_6 x y W)
  have HFT := Aside0.mk (fun W => fits_6 p hl i hi s0 s1 s2 s3 s4 ep x y hss hep W)
  clear hl hi hss hep
  have hu26 := Try.underlying26
  go_enter Try.func61, Try.ntmps61
  go_upto_region 1 with (first
    | ((with_reducible refine gate_dst (N := 2) rfl ?_); refine pool_box (p := p) rfl rfl rfl ?_; intro g hg w1 hp1 hb1 hs1; have HP1 := Aside0.mk hp1; have HB1 := Aside0.mk hb1; have HGE := Aside0.mk hg; clear hp1 hb1 hg)
    | ((with_reducible refine gate_dst (N := 4) rfl ?_); refine pool_alloc rfl rfl ?_; intro g4 hg4 w4 hp4 hb4 hs4; have HP4 := Aside0.mk hp4; have HB4 := Aside0.mk hb4; have HG4 := Aside0.mk hg4; clear hp4 hb4 hs4 hg4))
  obtain rfl : g4 = g + 2 := by rw [← HG4.out, (box_at w1 hs1 _).2.2]
  refine wp_w (fun W => Ap w W g p #[.int .i64 6, .int .i64 0, .int .i64 0, .int .i64 0, .int .i64 0, .int .u64 x, .int .u64 y]) ?_ ?_
  · exact ⟨(HP1.out.below (box_at w1 hs1 _).2.1).below HB4.out, bk_ (box_at w1 hs1 _).1 HB4.out, HP4.out, below_step (below_step HB1.out (box_at w1 hs1 _).2.1) HB4.out, Nat.le_of_eq HGE.out⟩
  intro w2 h2
  have HA2 := Aside0.mk h2
  obtain ⟨q0, q1, q2, q3, q4, q5, q6⟩ := c7 h2.ent
  clear h2 HB1 HP1 hs1 HP4 HB4 HG4
  go_upto_region 7 with (first
    | (go_at_call 96; (with_reducible refine (HCK.out _).mono ?_); rintro e1 x1 ⟨rfl, hx⟩; have HA3 := Aside0.mk (HA2.out.grow hx); obtain ⟨q0, q1, q2, q3, q4, q5, q6⟩ := c7 HA3.out.ent; clear hx)
    | ((with_reducible refine gate_dst (N := 15) rfl ?_); refine pool_load rfl rfl rfl HA3.out.pool HL.out ?_)
    | (go_at_call 97; (with_reducible refine (HFT.out _).mono ?_); rintro e2 x2 ⟨rfl, hx⟩; have HA4 := Aside0.mk (HA3.out.grow hx); clear hx))
  refine wp_w (fun W => Ap w W g p #[.int .i64 6, .int .i64 0, .int .i64 0, .int .i64 0, .int .i64 0, .int .u64 x, .int .u64 y]) ?_ ?_
  · first | exact HA4.out | exact HA4.out.drew
  intro w5 h5
  have HA5 := Aside0.mk h5
  clear h5 HA2 HA3 HA4 q0 q1 q2 q3 q4 q5 q6
  obtain ⟨h0, h1, h2⟩ := HA5.out.pool.head
  have fr0 := HA5.out.pool.free 0
  go_upto_region 8 with fail
  refine wp_w (fun W => Ap w W g p.up #[.int .i64 6, .int .i64 0, .int .i64 0, .int .i64 0, .int .i64 0, .int .u64 x, .int .u64 y]) ?_ ?_
  · first | exact HA5.out.own ((Chg.refl g _).set _ _) (HA5.out.pool.setver _) | exact HA5.out.drew.own ((Chg.refl g _).set _ _) (HA5.out.drew.pool.setver _) | exact (HA5.out.own ((Chg.refl g _).set _ _) (HA5.out.pool.setver _)).drew
  intro w6 h6
  have HA6 := Aside0.mk h6
  clear h6 HA5 h0 h1 h2 fr0
  obtain ⟨q0, q1, q2, q3, q4, q5, q6⟩ := c7 HA6.out.ent
  obtain ⟨r0, r1, r2, r3, r4, r5, r6⟩ := HA6.out.pool.ring HL.out
  obtain ⟨c0, c1, c2, c3, c4⟩ := HA6.out.pool.slot HL.out (i := 0) (by omega)
  simp only [Nat.zero_mul, Nat.add_zero, Nat.reduceAdd] at c0 c1 c2 c3 c4
  rw [show p.up.s 0 = ⟨s0, s1, s2, s3, s4⟩ from HSS.out] at c0 c1 c2 c3 c4
  rw [show p.up.ep = ep from HEP.out] at r0
  obtain ⟨u0, u1, u2, u3, u4⟩ := f5 HA6.out.pool (3)
  simp only [Nat.reduceAdd] at u1 u2 u3 u4
  have HNX := Aside0.mk (fun W => cookie_Next.calls ep p.up.k0.a p.up.k0.b p.up.k1.a p.up.k1.b p.up.k2.a p.up.k2.b x y _ _ _ _ _ _ _ W rfl)
  go_upto_region 22 with (first | (go_at_call 98; go_loud ((with_reducible refine (HNX.out _).mono ?_); rintro e3 x3 ⟨rfl, hx⟩; have HA7' := Aside0.mk (HA6.out.grow hx); obtain ⟨r0, r1, r2, r3, r4, r5, r6⟩ := HA7'.out.pool.ring HL.out; have v0 := fr_ HA7'.out.pool 323; have v1 := fr_ HA7'.out.pool 324; have v2 := fr_ HA7'.out.pool 325; have v3 := fr_ HA7'.out.pool 326; have v4 := fr_ HA7'.out.pool 327; have v5 := fr_ HA7'.out.pool 328; have v6 := fr_ HA7'.out.pool 329; clear hx)))
  refine wp_w (fun W => Ap w W g (p.up.ring (wrap64 (ep + 1)) p.k1 p.k2 ⟨x, y⟩) #[.int .i64 6, .int .i64 0, .int .i64 0, .int .i64 0, .int .i64 0, .int .u64 x, .int .u64 y]) ?_ ?_
  · exact HA7'.out.own (chg7 _ g _ _ _ _ _ _ _) (HA7'.out.pool.setring HL.out _ _ _ ⟨x, y⟩)
  intro w9 h9
  have HA9 := Aside0.mk h9
  have HLP := Aside0.mk (show (p.up.ring (wrap64 (ep + 1)) p.k1 p.k2 ⟨x, y⟩).sl.length = 64 from HL.out)
  clear h9
  go_wp2_with (first
    | ((with_reducible refine gate_dst (N := 77) rfl ?_); refine pool_load rfl rfl rfl HA9.out.pool HLP.out ?_)
    | ((with_reducible refine gate_store (t := 34) (p := 4) rfl ?_); refine pool_store rfl rfl rfl rfl rfl HA9.out.res Po.z_len HLP.out ?_; intro wa hpa hca; have HPA := Aside0.mk hpa; have HCA := Aside0.mk hca; clear hpa hca))
  refine bodyPost_ret (results_ct_row rfl _ _ (g + 2) 34 _ (0, 0) _ rfl HPA.out Try.underlying34 rfl (by rw [info34, Po.ag_size HLP.out])) rfl ⟨rfl, ?_⟩
  exact Chg.step HA9.out.below HCA.out (by have := HA9.out.lo; omega)
def En.cs (e : En) : List Value := [.int .i64 e.kind, .int .i64 e.slot, .int .i64 e.ad, .int .i64 e.po, .int .i64 e.we, .int .u64 e.key.a, .int .u64 e.key.b]
theorem En.one (e : En) : ∀ v ∈ e.cs, v.oneCell' = true := by
  intro v hv
  simp only [En.cs, List.mem_cons, List.not_mem_nil, or_false] at hv
  rcases hv with rfl | rfl | rfl | rfl | rfl | rfl | rfl <;> rfl
def kdEn : Kd En where
  sz := 7
  E := []
  K := fun _ x cs => cs = x.cs
  M := fun _ _ _ x cs => cs = x.cs
  K_len := fun h => by rw [h]; rfl
  K_one := fun h u hu => by rw [h] at hu; exact En.one _ u hu
  K_below := fun _ h => h
  K_of_M := fun h => h
  M_mono := fun _ h => h
  M_bound := fun h => h
  M_move := fun _ h => h
  M_lower := fun _ h => h
theorem info81 : (Try.prog.info? 81).map (fun i => (i.zero, i.size, i.bytes)) = some (some (.agg #[.int .i64 0, .int .i64 0, .int .i64 0, .int .i64 0, .int .i64 0, .int .u64 0, .int .u64 0]), 7, 56) := by kernel_rfl
theorem ad_add (a : Addr) (i j : Nat) : (a.add i).add j = a.add (i + j) := by
  obtain ⟨b, o, s⟩ := a
  by_cases hi : i = 0
  · subst hi; simp [Addr.add]
  · by_cases hj : j = 0
    · subst hj; simp [Addr.add]
    · simp [Addr.add, hi, hj, Nat.add_assoc]
theorem ad_add0 (a : Addr) : a.add 0 = a := by
  obtain ⟨b, o, s⟩ := a
  cases s with
  | none => simp [Addr.add]
  | some s => cases s <;> simp [Addr.add]
theorem en_at {w : World} {A : Option Addr} {n : Nat} {L : List En} (h : kdEn.C w A n L) {i : Nat} {e : En} (he : L[i]? = some e) : ∃ ad, A = some ad ∧ ∀ j v, e.cs[j]? = some v → w.cell? ((ad.add (i * 7)).add j) = some v := by
  have hi : i < L.length := (List.getElem?_eq_some_iff.1 he).1
  obtain ⟨ad, hA, hc⟩ := h.2.2 (by have := h.1; omega)
  obtain ⟨c, _, hR, hcell⟩ := hc i e he
  have hR' : c = e.cs := hR
  subst hR'
  exact ⟨ad, hA, fun j v hv => by rw [ad_add]; exact hcell j v hv⟩
theorem en_load {ops : Array Oper} {rest : List Oper} {o : Oper} {a : Act} {Q : Exit → Act → World → Prop} {W : World} {x : Operand} {e : En} {ad : Addr} (hgd : o.guard = none) (ho : o.op = .load 81 x) (hx : a.eval x = .pointer (some ad)) (hc : ∀ j v, e.cs[j]? = some v → W.cell? (ad.add j) = some v)
    (h : wpList Try.prog ops Q rest (a.put o.dst (.agg #[.int .i64 e.kind, .int .i64 e.slot, .int .i64 e.ad, .int .i64 e.po, .int .i64 e.we, .int .u64 e.key.a, .int .u64 e.key.b])) W) : wpList Try.prog ops Q (o :: rest) a W := by
  refine Kd.event_run hgd (w1 := W) (v := .agg e.cs.toArray) ?_ h
  have hl : (loadCells ad 7).run Try.prog W = .ok e.cs.toArray W := run_loadCells_list (P := Try.prog) W ad e.cs hc
  obtain ⟨i0, hi, hz⟩ := Option.map_eq_some_iff.1 info81
  simp only [Prod.mk.injEq] at hz
  have hagg : (isAgg 81).run Try.prog W = .ok true W := by
    unfold isAgg
    rw [Sem.run_bind, run_underlying Try.underlying81 W]
    rfl
  unfold execOp
  simp only [ho, hx, Instr.loadAt, Instr.sureAddr, Sem.run_bind, Sem.run_pure, Result.andThen_ok]
  simp [loadVar, Sem.run_bind, hagg, sizeOf, typeInfo, hi, hz.2.1, hl]
set_option maxHeartbeats 2000000 in
set_option maxRecDepth 100000 in
theorem clip_calls {A : Option Addr} {n c : Nat} (hc : n ≤ c) (w : World) : Calls Try.prog 60 #[.slice A n c] w fun e w' => e = .returned (.slice A n n) ∧ Below w.heap.size w w' := by
  have hel : Try.prog.elem 62 = 81 := by simp [Program.elem, Try.underlying62]
  have hr : ∀ W : World, (Instr.slice 62 (.slice A n c) none (some (.int .i64 (n : Int))) (some (.int .i64 (n : Int)))).run Try.prog W = .ok (.slice A n n) W := by
    intro W
    have hu : Try.prog.underlying 62 = some (.slice (Try.prog.elem 62)) := by rw [hel]; exact Try.underlying62
    rw [run_slice_hm W 62 A n c hu .i64 .i64 (n : Int) (n : Int) (by omega) (by omega) (by omega)]
    obtain ⟨i0, hi, hz⟩ := Option.map_eq_some_iff.1 info81
    have e : Option.map (fun x : Addr => x.add 0) A = A := by cases A <;> simp [ad_add0]
    simp [sliced, Result.andThen, hel, sizeOf, typeInfo, hi, e]
  go_enter Try.func60, Try.ntmps60
  go_wp2
  go_ret
  exact ⟨rfl, Below.refl _ _⟩
/-- Entries that may be done, one behind the other. -/
inductive AllOk : Po → List En → Po → Prop
  | nil (p : Po) (h : p.sl.length = 64) : AllOk p [] p
  | cons {p q r : Po} {e : En} {l : List En} (h : p.sl.length = 64) (hc : ∀ w, Calls Try.prog 61 #[.agg p.ag, .agg #[.int .i64 e.kind, .int .i64 e.slot, .int .i64 e.ad, .int .i64 e.po, .int .i64 e.we, .int .u64 e.key.a, .int .u64 e.key.b]] w fun e' w' => e' = .returned (.tuple #[.agg q.ag, .int .i64 0]) ∧ Below w.heap.size w w')
      (ht : AllOk q l r) : AllOk p (e :: l) r
theorem AllOk.len {p q : Po} {l : List En} (h : AllOk p l q) : p.sl.length = 64 := by cases h <;> assumption
theorem AllOk.end_ {p q : Po} {l : List En} (h : AllOk p l q) : q.sl.length = 64 := by induction h <;> assumption
theorem AllOk.at_ {p q : Po} {l : List En} (h : AllOk p l q) {e : En} (h0 : l[0]? = some e) : ∃ r, (∀ w, Calls Try.prog 61 #[.agg p.ag, .agg #[.int .i64 e.kind, .int .i64 e.slot, .int .i64 e.ad, .int .i64 e.po, .int .i64 e.we, .int .u64 e.key.a, .int .u64 e.key.b]] w fun e' w' => e' = .returned (.tuple #[.agg r.ag, .int .i64 0]) ∧ Below w.heap.size w w') ∧ AllOk r (l.drop 1) q := by
  cases h with
  | nil => simp at h0
  | cons h hc ht =>
    simp only [List.getElem?_cons_zero, Option.some.injEq] at h0
    subst h0
    exact ⟨_, hc, ht⟩
set_option maxHeartbeats 4000000 in
set_option maxRecDepth 100000 in
theorem all_calls {p q : Po} {L : List En} (h : AllOk p L q) {A : Option Addr} {c n : Nat} {w : World} (hr : kdEn.C w A n L) (hn : L.length = n) (hc : n ≤ c) (hs : n ≤ 1000) :
    Calls Try.prog 21 #[.agg p.ag, .slice A n c] w fun e w' => e = .returned (.tuple #[.agg q.ag, .int .i64 (n : Int), .int .i64 0]) ∧ Below w.heap.size w w' := by
  subst hn
  have HR := Aside0.mk hr
  have HC := Aside0.mk hc
  have HS := Aside0.mk hs
  have HH := Aside0.mk h
  have hu81 := Try.underlying81
  clear hr hc hs h
  go_enter Try.func21, Try.ntmps21
  go_upto_region 1 with (first
    | ((with_reducible refine gate_dst (N := 2) rfl ?_); refine pool_box (p := p) rfl rfl rfl ?_; intro g hg w1 hp1 hb1 hs1; have HP1 := Aside0.mk hp1; have HB1 := Aside0.mk hb1; have HGE := Aside0.mk hg; clear hp1 hb1 hg hs1)
    | ((with_reducible refine gate_dst (N := 4) rfl ?_); refine pool_alloc rfl rfl ?_; intro g4 hg4 w4 hp4 hb4 hs4; have HP4 := Aside0.mk hp4; have HB4 := Aside0.mk hb4; have HG4 := Aside0.mk hg4; have HPP := Aside0.mk (HP1.out.below hb4); have HLT := Aside0.mk (show g < g4 from by rw [← hg4]; exact blk_lt HP1.out); clear hp4 hb4 hs4 hg4))
  go_wp2
  go_loopg [13] L.length (fun kq v13 w' => ∃ (i : Nat) (r : Po), v13 = .int .i64 (i : Int) ∧ Aside (kq + i = L.length) ∧ Aside0 (AllOk r (L.drop i) q) ∧ Aside0 (PoolAt w' g r ∧ PoolAt w' g4 Po.z ∧ Below w.heap.size w w'))
  case atStart => exact ⟨0, p, rfl, (by show _ = _; omega), HH, Aside0.mk ⟨HPP.out, HP4.out, below_step HB1.out HB4.out⟩⟩
  case round =>
    obtain ⟨i, r, rfl, hk, HA, HW⟩ := hrel
    have HKQ := Aside0.mk hk.out
    clear hk
    rename World => wr1
    by_cases hlt : i < L.length
    · have hd : decide (i < L.length) = true := decide_eq_true hlt
      have hi0 : (0 : Int) ≤ (i : Int) := by omega
      have hi1 : (i : Int) < (L.length : Int) := by omega
      have HLI := Aside0.mk hlt
      have HGK := Aside0.mk (show 0 < gk from by have := HKQ.out; omega)
      obtain ⟨e, he⟩ : ∃ e, L[i]? = some e := ⟨_, List.getElem?_eq_getElem hlt⟩
      obtain ⟨ad, ead, hcell⟩ := en_at (Kd.C_below HR.out HW.out.2.2) he
      subst ead
      have HCELL := Aside0.mk hcell
      obtain ⟨s, hs1, hs2⟩ := HA.out.at_ (by rw [List.getElem?_drop, Nat.add_zero]; exact he)
      rw [List.drop_drop] at hs2
      have HS1 := Aside0.mk hs1
      have HS2 := Aside0.mk hs2
      have HRL := Aside0.mk HA.out.len
      have HSL := Aside0.mk hs2.len
      clear hlt hcell he hs1 hs2
      obtain ⟨g8, hg8⟩ : ∃ n, wr1.heap.size = n := ⟨_, rfl⟩
      go_upto_region 4 with (first
        | ((with_reducible refine gate_dst (N := 17) rfl ?_); go_loud (refine en_load (e := e) rfl rfl rfl HCELL.out ?_)))
      refine wp_w (fun W => W.heap[g8]? = some (.cells #[.int .i64 e.kind, .int .i64 e.slot, .int .i64 e.ad, .int .i64 e.po, .int .i64 e.we, .int .u64 e.key.a, .int .u64 e.key.b] 81 (0, 0)) ∧ PoolAt W g r ∧ PoolAt W g4 Po.z ∧ Below w.heap.size w W) ?_ ?_
      · have hb := below_alloc (Below.refl _ wr1) (.cells #[.int .i64 e.kind, .int .i64 e.slot, .int .i64 e.ad, .int .i64 e.po, .int .i64 e.we, .int .u64 e.key.a, .int .u64 e.key.b] 81)
        exact ⟨by rw [← hg8]; exact new_blk wr1 _, HW.out.1.below hb, HW.out.2.1.below hb, below_step HW.out.2.2 hb⟩
      intro w5 h5
      have HP5 := Aside0.mk h5.2.1
      have HR5 := Aside0.mk h5.2.2.1
      have HB5 := Aside0.mk h5.2.2.2
      obtain ⟨q0, q1, q2, q3, q4, q5, q6⟩ := c7 h5.1
      clear h5 hg8
      go_upto_region 5 with (first
        | ((with_reducible refine gate_dst (N := 19) rfl ?_); refine pool_load rfl rfl rfl HP5.out HRL.out ?_)
        | (go_at_call 61; (with_reducible refine (HS1.out _).mono ?_); rintro e1 x1 ⟨rfl, hx⟩; have HX1 := Aside0.mk hx; clear hx)
        | ((with_reducible refine gate_dst (N := 9) rfl ?_); refine pool_alloc rfl rfl ?_; intro g9 hg9 w9 hp9 hb9 hs9; have HP9 := Aside0.mk hp9; have HB9 := Aside0.mk hb9; have HG9 := Aside0.mk (show g4 < g9 from by rw [← hg9]; exact blk_lt (HR5.out.below HX1.out)); clear hp9 hb9 hg9 hs9)
        | ((with_reducible refine gate_store (t := 34) (p := 9) rfl ?_); refine pool_store (q := s) rfl rfl rfl rfl rfl HP9.out Po.z_len HSL.out ?_; intro w6 hp6 hc6; have HP6 := Aside0.mk hp6; have HC6 := Aside0.mk hc6; clear hp6 hc6))
      refine wp_w (fun W => PoolAt W g9 s ∧ PoolAt W g r ∧ PoolAt W g4 Po.z ∧ Below w.heap.size w W) ?_ ?_
      · have hb := below_step HX1.out HB9.out
        have h1 := HLT.out
        have h2 := HG9.out
        have h3 := HGE.out
        exact ⟨HP6.out, (HP5.out.below hb).chg HC6.out (by omega), (HR5.out.below hb).chg HC6.out (by omega), Chg.step (below_step HB5.out hb) HC6.out (by omega)⟩
      intro w7 h7
      have HQ7 := Aside0.mk h7.1
      have HP7 := Aside0.mk h7.2.1
      have HR7 := Aside0.mk h7.2.2.1
      have HB7 := Aside0.mk h7.2.2.2
      clear h7 HP9 HP6 HC6 HB9 q0 q1 q2 q3 q4 q5 q6
      go_wp2_with (first
        | ((with_reducible refine gate_dst (N := 29) rfl ?_); refine pool_load rfl rfl rfl HQ7.out HSL.out ?_)
        | ((with_reducible refine gate_store (t := 34) (p := 2) rfl ?_); refine pool_store (q := s) rfl rfl rfl rfl rfl HP7.out HRL.out HSL.out ?_; intro w8 hp8 hc8; have HP8 := Aside0.mk hp8; have HC8 := Aside0.mk hc8; clear hp8 hc8))
      go_roundg (gk - 1)
      case measure => have := HGK.out; omega
      case rel => exact ⟨i + 1, s, (by have := HLI.out; have := HS.out; show Value.int _ _ = Value.int _ _; first | rfl | (rw [wid (by omega) (by omega)]; rfl)), (by show _ = _; have := HKQ.out; have := HGK.out; omega), HS2, Aside0.mk ⟨HP8.out, HR7.out.chg HC8.out (by have := HLT.out; omega), Chg.step HB7.out HC8.out (Nat.le_of_eq HGE.out)⟩⟩
    · have hd : decide (i < L.length) = false := decide_eq_false hlt
      have HE := Aside0.mk (show r = q from by
        have h1 := HA.out
        rw [List.drop_of_length_le (by omega)] at h1
        cases h1
        rfl)
      have HRL := Aside0.mk HA.out.len
      clear hlt
      go_wp2_with (first
        | ((with_reducible refine gate_dst (N := 31) rfl ?_); refine pool_load rfl rfl rfl HW.out.1 HRL.out ?_)
        | ((with_reducible refine gate_store (t := 34) (p := 4) rfl ?_); refine pool_store (q := r) rfl rfl rfl rfl rfl HW.out.2.1 Po.z_len HRL.out ?_; intro w9 hp9 hc9; have HP9 := Aside0.mk hp9; have HC9 := Aside0.mk hc9; clear hp9 hc9))
      refine bodyPost_ret (results_ctt_row rfl _ _ g4 34 _ (0, 0) _ rfl HP9.out Try.underlying34 rfl (by rw [info34, Po.ag_size HRL.out])) rfl ⟨by rw [HE.out]; rfl, ?_⟩
      exact Chg.step HW.out.2.2 HC9.out (by have := HLT.out; have := HGE.out; omega)
theorem slots_extract (l : List Sl) (i : Nat) (h : i < l.length) : (slots l).toArray.extract (i * 5) (i * 5 + 5) = (l.getD i Sl.z).cs.toArray := by
  apply Array.ext_getElem?
  intro j
  rw [Array.getElem?_extract]
  by_cases hj : j < 5
  · rw [if_pos (by simp only [List.size_toArray, slots_len]; omega), List.getElem?_toArray, List.getElem?_toArray, slots_get l i j h hj]
  · rw [if_neg (by omega), List.getElem?_toArray, List.getElem?_eq_none (by show 5 ≤ j; omega)]
theorem slot_index (p : Po) (hl : p.sl.length = 64) (i : Nat) (hi : i < 64) (W : World) : (Instr.index 27 (.agg (slots p.sl).toArray) (.int .i64 (i : Int))).run Try.prog W = .ok (.agg #[.int .i64 (p.s i).st, .int .i64 (p.s i).ad, .int .i64 (p.s i).po, .int .i64 (p.s i).we, .int .i64 (p.s i).si]) W := by
  rw [run_index_agg W 27 26 64 _ i 5 _ Try.underlying27 Try.underlying26 rfl info26 hi _ rfl, slots_extract _ _ (by omega)]
  rfl
theorem PoolAt.range {w : World} {b : Nat} {p : Po} (h : PoolAt w b p) (hl : p.sl.length = 64) : w.rangeAt b 3 (slots p.sl) := by
  intro j v hv
  have hj : j < (slots p.sl).length := (List.getElem?_eq_some_iff.1 hv).1
  rw [h.cell, Po.ag, List.getElem?_toArray, Po.cs, show 3 + j = j + 1 + 1 + 1 by omega]
  simp only [List.getElem?_cons_succ]
  rw [List.getElem?_append_left hj, hv]
theorem slots_load {ops : Array Oper} {rest : List Oper} {o : Oper} {a : Act} {Q : Exit → Act → World → Prop} {W : World} {x : Operand} {p : Po} {g : Nat} (hgd : o.guard = none) (ho : o.op = .load 27 x) (hx : a.eval x = .pointer (some ⟨g, 3, none⟩)) (hp : PoolAt W g p) (hl : p.sl.length = 64) (h : wpList Try.prog ops Q rest (a.put o.dst (.agg (slots p.sl).toArray)) W) : wpList Try.prog ops Q (o :: rest) a W :=
  wpList_load_mid hgd 27 x ho g 3 hx (slots p.sl) _ (hp.range hl) Try.underlying27 rfl (by rw [info27, slots_len, hl]) h
def findR (p : Po) (ad po : Int) : Nat → Nat → Int × Bool
  | 0, _ => (0, false)
  | k + 1, i => if ¬ ((p.s i).st = 0 ∨ (p.s i).st = 4) ∧ (p.s i).ad = ad ∧ (p.s i).po = po then ((i : Int), true) else findR p ad po k (i + 1)
set_option maxHeartbeats 4000000 in
set_option maxRecDepth 100000 in
theorem find_calls (p : Po) (hl : p.sl.length = 64) (ad po : Int) (w : World) :
    Calls Try.prog 45 #[.agg p.ag, .int .i64 ad, .int .i64 po] w fun e w' => e = .returned (.tuple #[.int .i64 (findR p ad po 64 0).1, .bool (findR p ad po 64 0).2]) ∧ Below w.heap.size w w' := by
  obtain ⟨R, hR⟩ : ∃ R, findR p ad po 64 0 = R := ⟨_, rfl⟩
  rw [hR]
  have HR := Aside0.mk hR
  have HL := Aside0.mk hl
  have hu26 := Try.underlying26
  clear hR hl
  go_enter Try.func45, Try.ntmps45
  go_upto_region 1 with (first | ((with_reducible refine gate_dst (N := 3) rfl ?_); refine pool_box (p := p) rfl rfl rfl ?_; intro g hg w1 hp1 hb1 hs1; have HP1 := Aside0.mk hp1; have HB1 := Aside0.mk hb1; have HGE := Aside0.mk hg; clear hp1 hb1 hs1 hg))
  go_wp2_with (first | ((with_reducible refine gate_dst (N := 11) rfl ?_); go_loud (refine slots_load rfl rfl rfl HP1.out HL.out ?_)))
  go_loopg [12] 64 (fun kq v12 w' => ∃ (i : Nat), v12 = .int .i64 (i : Int) ∧ Aside (kq + i = 64) ∧ Aside0 (findR p ad po kq i = R) ∧ Aside0 (Below w.heap.size w w'))
  case atStart => exact ⟨0, rfl, (by show _ = _; omega), HR, HB1⟩
  case round =>
    obtain ⟨i, rfl, hk, HRI, HB⟩ := hrel
    have HKQ := Aside0.mk hk.out
    clear hk
    rename World => wr1
    by_cases hlt : i < 64
    · have hd : decide (i < 64) = true := decide_eq_true hlt
      have hd2 : decide ((i : Int) < 64) = true := decide_eq_true (by omega)
      have hi0 : (0 : Int) ≤ (i : Int) := by omega
      have hi1 : (i : Int) < 64 := by omega
      have HGK := Aside0.mk (show 0 < gk from by have := HKQ.out; omega)
      have hix := slot_index p HL.out i hlt
      obtain ⟨⟨st, sa, sp, sw, sq⟩, hss⟩ : ∃ x, p.s i = x := ⟨_, rfl⟩
      rw [hss] at hix
      have HN := Aside0.mk (show (if ¬ (st = 0 ∨ st = 4) ∧ sa = ad ∧ sp = po then ((i : Int), true) else findR p ad po (gk - 1) (i + 1)) = R from by
        have h1 := HRI.out
        obtain ⟨m, hm⟩ : ∃ m, gk = m + 1 := ⟨gk - 1, by have := HGK.out; omega⟩
        rw [hm] at h1 ⊢
        rw [findR, hss] at h1
        exact h1)
      clear hss hlt
      obtain ⟨g8, hg8⟩ : ∃ n, wr1.heap.size = n := ⟨_, rfl⟩
      go_upto_region 4 with fail
      refine wp_w (fun W => W.heap[g8]? = some (.cells #[.int .i64 st, .int .i64 sa, .int .i64 sp, .int .i64 sw, .int .i64 sq] 26 (0, 0)) ∧ Below w.heap.size w W) ?_ ?_
      · exact ⟨by rw [← hg8]; exact new_blk wr1 _, below_alloc HB.out _⟩
      intro w5 h5
      have HS5 := Aside0.mk h5.1
      have HB5 := Aside0.mk h5.2
      clear h5 hg8 hix
      have FS := Aside0.mk (fun W (h : Below w5.heap.size w5 W) => c5 (bk_ HS5.out h))
      obtain ⟨t0, t1, t2, t3, t4⟩ := FS.out _ (Below.refl _ w5)
      by_cases h0 : st = 0 ∨ st = 4
      · have HMY := Aside0.mk (decide_eq_true h0)
        have HX0 := Aside0.mk (show findR p ad po (gk - 1) (i + 1) = R from by have h1 := HN.out; rw [if_neg (fun h => h.1 h0)] at h1; exact h1)
        clear h0
        go_wp2_with (first
          | ((with_reducible refine gate_dst (N := 17) rfl ?_); refine Kd.R_lit (Kd.int .i64) (w0 := w5) w5.heap.size 3 ?hg (N := 17) ?hd (xs := ([0, 4] : List Int)) (inner := [.int .i64 0, .int .i64 4]) (ok := fun _ => True) (okp := fun _ => True) ?hr ?hp (fun _ hk => hk) trivial (Below.refl _ _) (Nat.le_refl _) (by simp) ?_; (case hd => rfl); (case hg => rfl); (case hr => first | (go_simp; done) | (go_simp; rfl)); (case hp => exact (Reps.one (show Kd.M (Kd.int .i64) _ _ _ 0 [.int .i64 0] from rfl) (Reps.one (show Kd.M (Kd.int .i64) _ _ _ 4 [.int .i64 4] from rfl) (Reps.none _ _)))); intro vl wl ho hb hg hat; obtain ⟨Al, cl, el⟩ := Kd.R_slice ho; subst el; have HLI := Aside0.mk (Kd.R_reads' ho); have HBL := Aside0.mk hb; obtain ⟨t0, t1, t2, t3, t4⟩ := FS.out _ hb; clear ho hb hg hat)
          | (go_at_call 90; (with_reducible refine (may_calls st sa sp sw sq (n := 2) (l := [0, 4]) (r := true) ((may2 _ _ _ _ _ 0 4).trans (by rw [HMY.out])) HLI.out.2.2 rfl HLI.out.2.1).mono ?_); rintro e1 x1 ⟨rfl, hx⟩; have HX := Aside0.mk (below_step HBL.out hx); obtain ⟨t0, t1, t2, t3, t4⟩ := FS.out _ HX.out; clear hx))
        go_roundg (gk - 1)
        case measure => have := HGK.out; omega
        case rel => exact ⟨i + 1, rfl, (by show _ = _; have := HKQ.out; have := HGK.out; omega), HX0, Aside0.mk (below_step HB5.out HX.out)⟩
      · have HMY := Aside0.mk (decide_eq_false h0)
        by_cases h1 : sa = ad
        · by_cases h2 : sp = po
          · have HX0 := Aside0.mk (show ((i : Int), true) = R from by have h3 := HN.out; rw [if_pos ⟨h0, h1, h2⟩] at h3; exact h3)
            have hb2 : (sa == ad) = true := beq_iff_eq.mpr h1
            have hb3 : (sp == po) = true := beq_iff_eq.mpr h2
            clear h0 h1 h2
            go_wp2_with (first
              | ((with_reducible refine gate_dst (N := 17) rfl ?_); refine Kd.R_lit (Kd.int .i64) (w0 := w5) w5.heap.size 3 ?hg (N := 17) ?hd (xs := ([0, 4] : List Int)) (inner := [.int .i64 0, .int .i64 4]) (ok := fun _ => True) (okp := fun _ => True) ?hr ?hp (fun _ hk => hk) trivial (Below.refl _ _) (Nat.le_refl _) (by simp) ?_; (case hd => rfl); (case hg => rfl); (case hr => first | (go_simp; done) | (go_simp; rfl)); (case hp => exact (Reps.one (show Kd.M (Kd.int .i64) _ _ _ 0 [.int .i64 0] from rfl) (Reps.one (show Kd.M (Kd.int .i64) _ _ _ 4 [.int .i64 4] from rfl) (Reps.none _ _)))); intro vl wl ho hb hg hat; obtain ⟨Al, cl, el⟩ := Kd.R_slice ho; subst el; have HLI := Aside0.mk (Kd.R_reads' ho); have HBL := Aside0.mk hb; obtain ⟨t0, t1, t2, t3, t4⟩ := FS.out _ hb; clear ho hb hg hat)
              | (go_at_call 90; (with_reducible refine (may_calls st sa sp sw sq (n := 2) (l := [0, 4]) (r := false) ((may2 _ _ _ _ _ 0 4).trans (by rw [HMY.out])) HLI.out.2.2 rfl HLI.out.2.1).mono ?_); rintro e1 x1 ⟨rfl, hx⟩; have HX := Aside0.mk (below_step HBL.out hx); obtain ⟨t0, t1, t2, t3, t4⟩ := FS.out _ HX.out; clear hx))
            go_ret2
            exact ⟨by rw [← HX0.out]; rfl, below_step HB5.out HX.out⟩
          · have HX0 := Aside0.mk (show findR p ad po (gk - 1) (i + 1) = R from by have h3 := HN.out; rw [if_neg (fun h => h2 h.2.2)] at h3; exact h3)
            have hb2 : (sa == ad) = true := beq_iff_eq.mpr h1
            have hb3 : (sp == po) = false := beq_eq_false_iff_ne.mpr h2
            clear h0 h1 h2
            go_wp2_with (first
              | ((with_reducible refine gate_dst (N := 17) rfl ?_); refine Kd.R_lit (Kd.int .i64) (w0 := w5) w5.heap.size 3 ?hg (N := 17) ?hd (xs := ([0, 4] : List Int)) (inner := [.int .i64 0, .int .i64 4]) (ok := fun _ => True) (okp := fun _ => True) ?hr ?hp (fun _ hk => hk) trivial (Below.refl _ _) (Nat.le_refl _) (by simp) ?_; (case hd => rfl); (case hg => rfl); (case hr => first | (go_simp; done) | (go_simp; rfl)); (case hp => exact (Reps.one (show Kd.M (Kd.int .i64) _ _ _ 0 [.int .i64 0] from rfl) (Reps.one (show Kd.M (Kd.int .i64) _ _ _ 4 [.int .i64 4] from rfl) (Reps.none _ _)))); intro vl wl ho hb hg hat; obtain ⟨Al, cl, el⟩ := Kd.R_slice ho; subst el; have HLI := Aside0.mk (Kd.R_reads' ho); have HBL := Aside0.mk hb; obtain ⟨t0, t1, t2, t3, t4⟩ := FS.out _ hb; clear ho hb hg hat)
              | (go_at_call 90; (with_reducible refine (may_calls st sa sp sw sq (n := 2) (l := [0, 4]) (r := false) ((may2 _ _ _ _ _ 0 4).trans (by rw [HMY.out])) HLI.out.2.2 rfl HLI.out.2.1).mono ?_); rintro e1 x1 ⟨rfl, hx⟩; have HX := Aside0.mk (below_step HBL.out hx); obtain ⟨t0, t1, t2, t3, t4⟩ := FS.out _ HX.out; clear hx))
            go_roundg (gk - 1)
            case measure => have := HGK.out; omega
            case rel => exact ⟨i + 1, rfl, (by show _ = _; have := HKQ.out; have := HGK.out; omega), HX0, Aside0.mk (below_step HB5.out HX.out)⟩
        · have HX0 := Aside0.mk (show findR p ad po (gk - 1) (i + 1) = R from by have h3 := HN.out; rw [if_neg (fun h => h1 h.2.1)] at h3; exact h3)
          have hb2 : (sa == ad) = false := beq_eq_false_iff_ne.mpr h1
          clear h0 h1
          go_wp2_with (first
            | ((with_reducible refine gate_dst (N := 17) rfl ?_); refine Kd.R_lit (Kd.int .i64) (w0 := w5) w5.heap.size 3 ?hg (N := 17) ?hd (xs := ([0, 4] : List Int)) (inner := [.int .i64 0, .int .i64 4]) (ok := fun _ => True) (okp := fun _ => True) ?hr ?hp (fun _ hk => hk) trivial (Below.refl _ _) (Nat.le_refl _) (by simp) ?_; (case hd => rfl); (case hg => rfl); (case hr => first | (go_simp; done) | (go_simp; rfl)); (case hp => exact (Reps.one (show Kd.M (Kd.int .i64) _ _ _ 0 [.int .i64 0] from rfl) (Reps.one (show Kd.M (Kd.int .i64) _ _ _ 4 [.int .i64 4] from rfl) (Reps.none _ _)))); intro vl wl ho hb hg hat; obtain ⟨Al, cl, el⟩ := Kd.R_slice ho; subst el; have HLI := Aside0.mk (Kd.R_reads' ho); have HBL := Aside0.mk hb; obtain ⟨t0, t1, t2, t3, t4⟩ := FS.out _ hb; clear ho hb hg hat)
            | (go_at_call 90; (with_reducible refine (may_calls st sa sp sw sq (n := 2) (l := [0, 4]) (r := false) ((may2 _ _ _ _ _ 0 4).trans (by rw [HMY.out])) HLI.out.2.2 rfl HLI.out.2.1).mono ?_); rintro e1 x1 ⟨rfl, hx⟩; have HX := Aside0.mk (below_step HBL.out hx); obtain ⟨t0, t1, t2, t3, t4⟩ := FS.out _ HX.out; clear hx))
          go_roundg (gk - 1)
          case measure => have := HGK.out; omega
          case rel => exact ⟨i + 1, rfl, (by show _ = _; have := HKQ.out; have := HGK.out; omega), HX0, Aside0.mk (below_step HB5.out HX.out)⟩
    · have hd : decide (i < 64) = false := decide_eq_false hlt
      have hd2 : decide ((i : Int) < 64) = false := decide_eq_false (by omega)
      have hk0 : gk = 0 := by have := HKQ.out; omega
      have HX0 := Aside0.mk (show ((0 : Int), false) = R from by have h1 := HRI.out; rw [hk0] at h1; exact h1)
      clear hlt
      go_wp2
      go_ret2
      exact ⟨by rw [← HX0.out]; rfl, HB.out⟩
abbrev RE (b : Nat) (w : World) (v : Value) (l : List En) : Prop := Kd.R kdEn 81 w b (fun _ => True) v l
def enD (i : Int) : En := ⟨3, i, 0, 0, 0, ⟨0, 0⟩⟩
def enS (i : Int) : En := ⟨4, i, 0, 0, 0, ⟨0, 0⟩⟩
def enF (i : Int) : En := ⟨5, i, 0, 0, 0, ⟨0, 0⟩⟩
def enR (k : Ky) : En := ⟨6, 0, 0, 0, 0, k⟩
set_option maxHeartbeats 4000000 in
set_option maxRecDepth 100000 in
theorem remove_2 (p : Po) (hl : p.sl.length = 64) (ad po : Int) (i : Nat) (hi : i < 64) (hf : findR p ad po 64 0 = ((i : Int), true)) (hs : (p.s i).st = 2) (w : World) :
    Calls Try.prog 20 #[.agg p.ag, .int .i64 ad, .int .i64 po] w fun e w' => ∃ A, e = .returned (.tuple #[.slice A 2 2, .int .i64 0]) ∧ kdEn.C w' A 2 [enD i, enS i] ∧ Below w.heap.size w w' := by
  have HL := Aside0.mk hl
  have HI := Aside0.mk hi
  have HFD := Aside0.mk (fun W => show Calls Try.prog 45 #[.agg p.ag, .int .i64 ad, .int .i64 po] W fun e w' => e = .returned (.tuple #[.int .i64 (i : Int), .bool true]) ∧ Below W.heap.size W w' from by
    have h := find_calls p hl ad po W
    rw [hf] at h
    exact h)
  have hi0 : (0 : Int) ≤ (i : Int) := by omega
  have hi1 : (i : Int) < 64 := by omega
  obtain ⟨st, hst⟩ : ∃ x, (p.s i).st = x := ⟨_, rfl⟩
  rw [hst] at hs
  have hb0 : (st == 2) = true := beq_iff_eq.mpr hs
  have HST := Aside0.mk hst
  have hu81 := Try.underlying81
  clear hl hi hf hs hst
  go_enter Try.func20, Try.ntmps20
  go_upto_region 1 with (first | ((with_reducible refine gate_dst (N := 3) rfl ?_); refine pool_box (p := p) rfl rfl rfl ?_; intro g hg w1 hp1 hb1 hs1; have HP1 := Aside0.mk hp1; have HB1 := Aside0.mk hb1; have HGE := Aside0.mk hg; clear hp1 hb1 hs1 hg))
  go_upto_region 5 with (first
    | ((with_reducible refine gate_dst (N := 12) rfl ?_); refine pool_load rfl rfl rfl HP1.out HL.out ?_)
    | (go_at_call 45; (with_reducible refine (HFD.out _).mono ?_); rintro e1 x1 ⟨rfl, hx⟩; have HX1 := Aside0.mk hx; clear hx))
  refine wp_w (fun W => PoolAt W g p ∧ Below w.heap.size w W) ?_ ?_
  · exact ⟨HP1.out.below HX1.out, below_step HB1.out HX1.out⟩
  intro w2 h2
  have HP2 := Aside0.mk h2.1
  have HB2 := Aside0.mk h2.2
  obtain ⟨c0, c1, c2, c3, c4⟩ := h2.1.slot HL.out HI.out
  rw [HST.out] at c0
  clear h2
  go_wp2_with (first
    | ((with_reducible refine gate_dst (N := 29) rfl ?_); go_loud (refine Kd.R_lit kdEn (w0 := w2) w2.heap.size 81 ?hg (N := 29) ?hd (xs := [(En.mk 3 (i : Int) 0 0 0 ⟨0, 0⟩)]) (inner := [.int .i64 3, .int .i64 (i : Int), .int .i64 0, .int .i64 0, .int .i64 0, .int .u64 0, .int .u64 0]) (ok := fun _ => True) (okp := fun _ => True) ?hr ?hp (fun _ hk => hk) trivial (Below.refl w2.heap.size w2) ((Below.refl w2.heap.size w2)).size (by simp) ?_; (case hd => rfl); (case hg => rfl); (case hr => first | (go_simp; done) | (go_simp; rfl)); (case hp => exact Reps.snoc (Reps.none _ _) (show Kd.M kdEn _ _ _ ((En.mk 3 (i : Int) 0 0 0 ⟨0, 0⟩)) [.int .i64 3, .int .i64 (i : Int), .int .i64 0, .int .i64 0, .int .i64 0, .int .u64 0, .int .u64 0] from rfl) rfl); intro vl wl ho hb hg hat; have HL1 := Aside0.mk ho; have HB1' := Aside0.mk hb; obtain ⟨Al, cl, el⟩ := Kd.R_slice ho; subst el; have HLC := Aside0.mk (Kd.R_reads' HL1.out); clear ho hb hg hat))
    | ((with_reducible refine gate_builtin (b := .append) (xs := #[.tmp 26, .tmp 29]) rfl ?_); at_builtin; go_loud (refine Kd.R_append_rows kdEn (w0 := w2) w2.heap.size rfl (.tmp 26) (.tmp 29) 62 81 (.agg #[.int .i64 0, .int .i64 0, .int .i64 0, .int .i64 0, .int .i64 0, .int .u64 0, .int .u64 0]) 56 rfl Try.underlying62 info81 rfl (by decide) (by omega) (.slice none 0 0) ([]) [(En.mk 3 (i : Int) 0 0 0 ⟨0, 0⟩)] Al 1 cl (fun _ => True) (fun _ => False) rfl rfl (Kd.R_nil _ _ _ _ _) HLC.out.2.2 (fun _ _ h => h) (fun _ h => h.elim) (fun _ _ => trivial) HB1'.out (HB1'.out).size (by simp) ?_; intro vq wq ho hb hg hat; have HO1 := Aside0.mk ho; have HB2' := Aside0.mk hb; clear hb ho hg hat))
    | ((with_reducible refine gate_dst (N := 34) rfl ?_); go_loud (refine Kd.R_lit kdEn (w0 := w2) w2.heap.size 81 ?hg (N := 34) ?hd (xs := [(En.mk 4 (i : Int) 0 0 0 ⟨0, 0⟩)]) (inner := [.int .i64 4, .int .i64 (i : Int), .int .i64 0, .int .i64 0, .int .i64 0, .int .u64 0, .int .u64 0]) (ok := fun _ => True) (okp := fun _ => True) ?hr ?hp (fun _ hk => hk) trivial HB2'.out (HB2'.out).size (by simp) ?_; (case hd => rfl); (case hg => rfl); (case hr => first | (go_simp; done) | (go_simp; rfl)); (case hp => exact Reps.snoc (Reps.none _ _) (show Kd.M kdEn _ _ _ ((En.mk 4 (i : Int) 0 0 0 ⟨0, 0⟩)) [.int .i64 4, .int .i64 (i : Int), .int .i64 0, .int .i64 0, .int .i64 0, .int .u64 0, .int .u64 0] from rfl) rfl); intro vl wl ho hb hg hat; have HO2 := Aside0.mk (Kd.R_grown HO1.out hg (fun _ _ => by simp)); have HL2 := Aside0.mk ho; have HB3' := Aside0.mk hb; obtain ⟨Al, cl, el⟩ := Kd.R_slice ho; subst el; have HLC2 := Aside0.mk (Kd.R_reads' HL2.out); clear ho hb hg hat))
    | ((with_reducible refine gate_builtin (b := .append) (xs := #[.tmp 31, .tmp 34]) rfl ?_); at_builtin; go_loud (refine Kd.R_append_rows kdEn (w0 := w2) w2.heap.size rfl (.tmp 31) (.tmp 34) 62 81 (.agg #[.int .i64 0, .int .i64 0, .int .i64 0, .int .i64 0, .int .i64 0, .int .u64 0, .int .u64 0]) 56 rfl Try.underlying62 info81 rfl (by decide) (by omega) (vq) ([] ++ [(En.mk 3 (i : Int) 0 0 0 ⟨0, 0⟩)]) [(En.mk 4 (i : Int) 0 0 0 ⟨0, 0⟩)] Al 1 cl (fun _ => True) (fun _ => False) rfl rfl HO2.out HLC2.out.2.2 (fun _ _ h => h) (fun _ h => h.elim) (fun _ _ => trivial) HB3'.out (HB3'.out).size (by simp) ?_; intro vq wq ho hb hg hat; have HO3 := Aside0.mk ho; have HB4' := Aside0.mk hb; obtain ⟨Aq, cq, eq_⟩ := Kd.R_slice ho; subst eq_; have HOC := Aside0.mk (Kd.R_reads' HO3.out); have HCQ := Aside0.mk (show 2 ≤ cq from HOC.out.2.1); clear hb ho hg hat))
    | (go_at_call 60; go_loud ((with_reducible refine (clip_calls (A := Aq) (n := 2) (c := cq) HCQ.out _).mono ?_); rintro e2 x2 ⟨rfl, hx⟩; have HX2 := Aside0.mk hx; clear hx)))
  go_ret2
  exact ⟨Aq, rfl, by
    have h := Kd.C_below HOC.out.2.2 HX2.out
    exact h, below_step (below_step HB2.out HB4'.out) HX2.out⟩
set_option maxHeartbeats 4000000 in
set_option maxRecDepth 100000 in
theorem remove_n (p : Po) (hl : p.sl.length = 64) (ad po : Int) (i : Nat) (hi : i < 64) (hf : findR p ad po 64 0 = ((i : Int), true)) (hs : (p.s i).st ≠ 2) (w : World) :
    Calls Try.prog 20 #[.agg p.ag, .int .i64 ad, .int .i64 po] w fun e w' => ∃ A, e = .returned (.tuple #[.slice A 1 1, .int .i64 0]) ∧ kdEn.C w' A 1 [enS i] ∧ Below w.heap.size w w' := by
  have HL := Aside0.mk hl
  have HI := Aside0.mk hi
  have HFD := Aside0.mk (fun W => show Calls Try.prog 45 #[.agg p.ag, .int .i64 ad, .int .i64 po] W fun e w' => e = .returned (.tuple #[.int .i64 (i : Int), .bool true]) ∧ Below W.heap.size W w' from by
    have h := find_calls p hl ad po W
    rw [hf] at h
    exact h)
  have hi0 : (0 : Int) ≤ (i : Int) := by omega
  have hi1 : (i : Int) < 64 := by omega
  obtain ⟨st, hst⟩ : ∃ x, (p.s i).st = x := ⟨_, rfl⟩
  rw [hst] at hs
  have hb0 : (st == 2) = false := beq_eq_false_iff_ne.mpr hs
  have HST := Aside0.mk hst
  have hu81 := Try.underlying81
  clear hl hi hf hs hst
  go_enter Try.func20, Try.ntmps20
  go_upto_region 1 with (first | ((with_reducible refine gate_dst (N := 3) rfl ?_); refine pool_box (p := p) rfl rfl rfl ?_; intro g hg w1 hp1 hb1 hs1; have HP1 := Aside0.mk hp1; have HB1 := Aside0.mk hb1; have HGE := Aside0.mk hg; clear hp1 hb1 hs1 hg))
  go_upto_region 5 with (first
    | ((with_reducible refine gate_dst (N := 12) rfl ?_); refine pool_load rfl rfl rfl HP1.out HL.out ?_)
    | (go_at_call 45; (with_reducible refine (HFD.out _).mono ?_); rintro e1 x1 ⟨rfl, hx⟩; have HX1 := Aside0.mk hx; clear hx))
  refine wp_w (fun W => PoolAt W g p ∧ Below w.heap.size w W) ?_ ?_
  · exact ⟨HP1.out.below HX1.out, below_step HB1.out HX1.out⟩
  intro w2 h2
  have HP2 := Aside0.mk h2.1
  have HB2 := Aside0.mk h2.2
  obtain ⟨c0, c1, c2, c3, c4⟩ := h2.1.slot HL.out HI.out
  rw [HST.out] at c0
  clear h2
  go_wp2_with (first
    | ((with_reducible refine gate_dst (N := 34) rfl ?_); go_loud (refine Kd.R_lit kdEn (w0 := w2) w2.heap.size 81 ?hg (N := 34) ?hd (xs := [(En.mk 4 (i : Int) 0 0 0 ⟨0, 0⟩)]) (inner := [.int .i64 4, .int .i64 (i : Int), .int .i64 0, .int .i64 0, .int .i64 0, .int .u64 0, .int .u64 0]) (ok := fun _ => True) (okp := fun _ => True) ?hr ?hp (fun _ hk => hk) trivial (Below.refl w2.heap.size w2) ((Below.refl w2.heap.size w2)).size (by simp) ?_; (case hd => rfl); (case hg => rfl); (case hr => first | (go_simp; done) | (go_simp; rfl)); (case hp => exact Reps.snoc (Reps.none _ _) (show Kd.M kdEn _ _ _ ((En.mk 4 (i : Int) 0 0 0 ⟨0, 0⟩)) [.int .i64 4, .int .i64 (i : Int), .int .i64 0, .int .i64 0, .int .i64 0, .int .u64 0, .int .u64 0] from rfl) rfl); intro vl wl ho hb hg hat; have HL1 := Aside0.mk ho; have HB1' := Aside0.mk hb; obtain ⟨Al, cl, el⟩ := Kd.R_slice ho; subst el; have HLC := Aside0.mk (Kd.R_reads' HL1.out); clear ho hb hg hat))
    | ((with_reducible refine gate_builtin (b := .append) (xs := #[.tmp 31, .tmp 34]) rfl ?_); at_builtin; go_loud (refine Kd.R_append_rows kdEn (w0 := w2) w2.heap.size rfl (.tmp 31) (.tmp 34) 62 81 (.agg #[.int .i64 0, .int .i64 0, .int .i64 0, .int .i64 0, .int .i64 0, .int .u64 0, .int .u64 0]) 56 rfl Try.underlying62 info81 rfl (by decide) (by omega) (.slice none 0 0) ([]) [(En.mk 4 (i : Int) 0 0 0 ⟨0, 0⟩)] Al 1 cl (fun _ => True) (fun _ => False) rfl rfl (Kd.R_nil _ _ _ _ _) HLC.out.2.2 (fun _ _ h => h) (fun _ h => h.elim) (fun _ _ => trivial) HB1'.out (HB1'.out).size (by simp) ?_; intro vq wq ho hb hg hat; have HO3 := Aside0.mk ho; have HB4' := Aside0.mk hb; obtain ⟨Aq, cq, eq_⟩ := Kd.R_slice ho; subst eq_; have HOC := Aside0.mk (Kd.R_reads' HO3.out); have HCQ := Aside0.mk (show 1 ≤ cq from HOC.out.2.1); clear hb ho hg hat))
    | (go_at_call 60; go_loud ((with_reducible refine (clip_calls (A := Aq) (n := 1) (c := cq) HCQ.out _).mono ?_); rintro e2 x2 ⟨rfl, hx⟩; have HX2 := Aside0.mk hx; clear hx)))
  go_ret2
  exact ⟨Aq, rfl, by
    have h := Kd.C_below HOC.out.2.2 HX2.out
    exact h, below_step (below_step HB2.out HB4'.out) HX2.out⟩
def freeL (p : Po) : Nat → Nat → List En
  | 0, _ => []
  | k + 1, i => if (p.s i).st = 4 ∧ wrap64 ((p.s i).si + 3) ≤ wrap64 (p.ep + 1) then enF i :: freeL p k (i + 1) else freeL p k (i + 1)
theorem freeL_len (p : Po) : ∀ k i, (freeL p k i).length ≤ k
  | 0, _ => by simp [freeL]
  | k + 1, i => by
    rw [freeL]
    have := freeL_len p k (i + 1)
    split
    · simp only [List.length_cons]; omega
    · omega
set_option maxHeartbeats 4000000 in
set_option maxRecDepth 100000 in
theorem rotate_calls (p : Po) (hl : p.sl.length = 64) (k : Ky) (w : World) :
    Calls Try.prog 22 #[.agg p.ag, .agg #[.int .u64 k.a, .int .u64 k.b]] w fun e w' => ∃ A, e = .returned (.slice A (enR k :: freeL p 64 0).length (enR k :: freeL p 64 0).length) ∧ kdEn.C w' A (enR k :: freeL p 64 0).length (enR k :: freeL p 64 0) ∧ Below w.heap.size w w' := by
  obtain ⟨L, hL⟩ : ∃ L, enR k :: freeL p 64 0 = L := ⟨_, rfl⟩
  rw [hL]
  have HLL := Aside0.mk hL
  have HL := Aside0.mk hl
  have hu26 := Try.underlying26
  have hu81 := Try.underlying81
  clear hL hl
  go_enter Try.func22, Try.ntmps22
  go_upto_region 1 with (first | ((with_reducible refine gate_dst (N := 2) rfl ?_); refine pool_box (p := p) rfl rfl rfl ?_; intro g hg w0 hp0 hb0 hs0; have HP0 := Aside0.mk hp0; have HB0 := Aside0.mk hb0; clear hp0 hb0 hg))
  refine wp_w (fun W => PoolAt W g p ∧ W.heap[g + 1]? = some (.cells #[.int .u64 k.a, .int .u64 k.b] 30 (0, 0)) ∧ Below w.heap.size w W) ?_ ?_
  · exact ⟨HP0.out.below (box_at w0 hs0 _).2.1, (box_at w0 hs0 _).1, below_step HB0.out (box_at w0 hs0 _).2.1⟩
  intro w1 h1
  have HP1 := Aside0.mk h1.1
  have HB1 := Aside0.mk h1.2.2
  obtain ⟨k0, k1⟩ := c2 h1.2.1
  clear h1 HP0 HB0 hs0
  go_wp2_with (first
    | ((with_reducible refine gate_dst (N := 10) rfl ?_); go_loud (refine Kd.R_lit kdEn (w0 := w1) w1.heap.size 81 ?hg (N := 10) ?hd (xs := [enR k]) (inner := [.int .i64 6, .int .i64 0, .int .i64 0, .int .i64 0, .int .i64 0, .int .u64 k.a, .int .u64 k.b]) (ok := fun _ => True) (okp := fun _ => True) ?hr ?hp (fun _ hk => hk) trivial (Below.refl w1.heap.size w1) ((Below.refl w1.heap.size w1)).size (by simp) ?_; (case hd => rfl); (case hg => rfl); (case hr => first | (go_simp; done) | (go_simp; rfl)); (case hp => exact Reps.snoc (Reps.none _ _) (show Kd.M kdEn _ _ _ (enR k) [.int .i64 6, .int .i64 0, .int .i64 0, .int .i64 0, .int .i64 0, .int .u64 k.a, .int .u64 k.b] from rfl) rfl); intro vl wl ho hb hg hat; have HO0 := Aside0.mk ho; have HBL := Aside0.mk hb; obtain ⟨Al, cl, el⟩ := Kd.R_slice ho; subst el; clear ho hb hg hat))
    | ((with_reducible refine gate_dst (N := 12) rfl ?_); refine slots_load rfl rfl rfl (HP1.out.below HBL.out) HL.out ?_))
  go_loopg [13, 5] 64 (fun kq v13 v5 w' => ∃ (i : Nat) (A' : Option Addr) (c' : Nat) (xs : List En), v13 = .int .i64 (i : Int) ∧ v5 = .slice A' xs.length c' ∧ Aside (kq + i = 64) ∧ Aside0 (xs ++ freeL p kq i = L) ∧ Aside0 (RE w1.heap.size w' (.slice A' xs.length c') xs) ∧ Aside0 (xs.length ≤ 1 + i) ∧ Aside0 (Below w1.heap.size w1 w'))
  case atStart => exact ⟨0, Al, cl, [enR k], rfl, rfl, (by show _ = _; omega), Aside0.mk HLL.out, HO0, Aside0.mk (by simp), HBL⟩
  case round =>
    obtain ⟨i, A', c', xs, rfl, rfl, hk, HX, HO, HXL, HB⟩ := hrel
    have HKQ := Aside0.mk hk.out
    clear hk
    rename World => wr1
    by_cases hlt : i < 64
    · have hd : decide (i < 64) = true := decide_eq_true hlt
      have hd2 : decide ((i : Int) < 64) = true := decide_eq_true (by omega)
      have hi0 : (0 : Int) ≤ (i : Int) := by omega
      have hi1 : (i : Int) < 64 := by omega
      have HLT := Aside0.mk hlt
      have HGK := Aside0.mk (show 0 < gk from by have := HKQ.out; omega)
      have hix := slot_index p HL.out i hlt
      obtain ⟨⟨st, sa, sp, sw, sq⟩, hss⟩ : ∃ x, p.s i = x := ⟨_, rfl⟩
      rw [hss] at hix
      obtain ⟨ep, hep⟩ : ∃ x, p.ep = x := ⟨_, rfl⟩
      have HN := Aside0.mk (show xs ++ (if st = 4 ∧ wrap64 (sq + 3) ≤ wrap64 (ep + 1) then enF i :: freeL p (gk - 1) (i + 1) else freeL p (gk - 1) (i + 1)) = L from by
        have h1 := HX.out
        obtain ⟨m, hm⟩ : ∃ m, gk = m + 1 := ⟨gk - 1, by have := HGK.out; omega⟩
        rw [hm] at h1 ⊢
        rw [freeL, hss, hep] at h1
        exact h1)
      have HEP := Aside0.mk hep
      clear hss hlt hep
      obtain ⟨g8, hg8⟩ : ∃ n, wr1.heap.size = n := ⟨_, rfl⟩
      go_upto_region 5 with fail
      refine wp_w (fun W => W.heap[g8]? = some (.cells #[.int .i64 st, .int .i64 sa, .int .i64 sp, .int .i64 sw, .int .i64 sq] 26 (0, 0)) ∧ Below w1.heap.size w1 W ∧ RE w1.heap.size W (.slice A' xs.length c') xs) ?_ ?_
      · exact ⟨by rw [← hg8]; exact new_blk wr1 _, below_alloc HB.out _, Kd.R_alloc HO.out _⟩
      intro w5 h5
      have HS5 := Aside0.mk h5.1
      have HB5 := Aside0.mk h5.2.1
      have HO5 := Aside0.mk h5.2.2
      obtain ⟨t0, t1, t2, t3, t4⟩ := c5 h5.1
      obtain ⟨r0, r1, r2, r3, r4, r5, r6⟩ := (HP1.out.below h5.2.1).ring HL.out
      rw [HEP.out] at r0
      clear h5 hg8 hix
      by_cases h0 : st = 4
      · have hb0 : (st == 4) = true := beq_iff_eq.mpr h0
        by_cases h1 : wrap64 (sq + 3) ≤ wrap64 (ep + 1)
        · have hb1 : decide (wrap64 (sq + 3) ≤ wrap64 (ep + 1)) = true := decide_eq_true h1
          have HX0 := Aside0.mk (show (xs ++ [(En.mk 5 (i : Int) 0 0 0 ⟨0, 0⟩)]) ++ freeL p (gk - 1) (i + 1) = L from by have h2 := HN.out; rw [if_pos ⟨h0, h1⟩] at h2; rw [List.append_assoc]; exact h2)
          clear h0 h1
          go_wp2_with (first
            | ((with_reducible refine gate_dst (N := 33) rfl ?_); go_loud (refine Kd.R_lit kdEn (w0 := w1) w1.heap.size 81 ?hg (N := 33) ?hd (xs := [(En.mk 5 (i : Int) 0 0 0 ⟨0, 0⟩)]) (inner := [.int .i64 5, .int .i64 (i : Int), .int .i64 0, .int .i64 0, .int .i64 0, .int .u64 0, .int .u64 0]) (ok := fun _ => True) (okp := fun _ => True) ?hr ?hp (fun _ hk => hk) trivial HB5.out (HB5.out).size (by simp) ?_; (case hd => rfl); (case hg => rfl); (case hr => first | (go_simp; done) | (go_simp; rfl)); (case hp => exact Reps.snoc (Reps.none _ _) (show Kd.M kdEn _ _ _ ((En.mk 5 (i : Int) 0 0 0 ⟨0, 0⟩)) [.int .i64 5, .int .i64 (i : Int), .int .i64 0, .int .i64 0, .int .i64 0, .int .u64 0, .int .u64 0] from rfl) rfl); intro vl wl ho hb hg hat; have HO2 := Aside0.mk (Kd.R_grown HO5.out hg (fun _ _ => by simp)); have HL2 := Aside0.mk ho; have HB6 := Aside0.mk hb; obtain ⟨Al, cl, el⟩ := Kd.R_slice ho; subst el; have HLC2 := Aside0.mk (Kd.R_reads' HL2.out); clear ho hb hg hat))
            | ((with_reducible refine gate_builtin (b := .append) (xs := #[.tmp 30, .tmp 33]) rfl ?_); at_builtin; go_loud (refine Kd.R_append_rows kdEn (w0 := w1) w1.heap.size rfl (.tmp 30) (.tmp 33) 62 81 (.agg #[.int .i64 0, .int .i64 0, .int .i64 0, .int .i64 0, .int .i64 0, .int .u64 0, .int .u64 0]) 56 rfl Try.underlying62 info81 rfl (by decide) (by omega) (.slice A' xs.length c') (xs) [(En.mk 5 (i : Int) 0 0 0 ⟨0, 0⟩)] Al 1 cl (fun _ => True) (fun _ => False) rfl rfl HO2.out HLC2.out.2.2 (fun _ _ h => h) (fun _ h => h.elim) (fun _ _ => trivial) HB6.out (HB6.out).size (by have := HXL.out; omega) ?_; intro vq wq ho hb hg hat; have HO3 := Aside0.mk ho; have HB7 := Aside0.mk hb; obtain ⟨Aq, cq, eq_⟩ := Kd.R_slice ho; subst eq_; clear hb ho hg hat)))
          go_roundg (gk - 1)
          case measure => have := HGK.out; omega
          case rel => exact ⟨i + 1, Aq, cq, _, (by have := HLT.out; show Value.int _ _ = Value.int _ _; first | rfl | (rw [wid (by omega) (by omega)]; rfl)), (by rw [List.length_append]; rfl), (by show _ = _; have := HKQ.out; have := HGK.out; omega), HX0, HO3, Aside0.mk (by have := HXL.out; simp only [List.length_append, List.length_singleton]; omega), HB7⟩
        · have hb1 : decide (wrap64 (sq + 3) ≤ wrap64 (ep + 1)) = false := decide_eq_false h1
          have HX0 := Aside0.mk (show xs ++ freeL p (gk - 1) (i + 1) = L from by have h2 := HN.out; rw [if_neg (fun h => h1 h.2)] at h2; exact h2)
          clear h0 h1
          go_wp2
          go_roundg (gk - 1)
          case measure => have := HGK.out; omega
          case rel => exact ⟨i + 1, A', c', xs, (by have := HLT.out; show Value.int _ _ = Value.int _ _; first | rfl | (rw [wid (by omega) (by omega)]; rfl)), rfl, (by show _ = _; have := HKQ.out; have := HGK.out; omega), HX0, HO5, Aside0.mk (by have := HXL.out; omega), HB5⟩
      · have hb0 : (st == 4) = false := beq_eq_false_iff_ne.mpr h0
        have HX0 := Aside0.mk (show xs ++ freeL p (gk - 1) (i + 1) = L from by have h2 := HN.out; rw [if_neg (fun h => h0 h.1)] at h2; exact h2)
        clear h0
        go_wp2
        go_roundg (gk - 1)
        case measure => have := HGK.out; omega
        case rel => exact ⟨i + 1, A', c', xs, (by have := HLT.out; show Value.int _ _ = Value.int _ _; first | rfl | (rw [wid (by omega) (by omega)]; rfl)), rfl, (by show _ = _; have := HKQ.out; have := HGK.out; omega), HX0, HO5, Aside0.mk (by have := HXL.out; omega), HB5⟩
    · have hd : decide (i < 64) = false := decide_eq_false hlt
      have hd2 : decide ((i : Int) < 64) = false := decide_eq_false (by omega)
      have hk0 : gk = 0 := by have := HKQ.out; omega
      have HX0 := Aside0.mk (show xs = L from by have h1 := HX.out; rw [hk0, freeL, List.append_nil] at h1; exact h1)
      have HOC := Aside0.mk (Kd.R_reads' HO.out)
      have HCL := Aside0.mk (fun W => clip_calls (A := A') (n := xs.length) (c := c') HOC.out.2.1 W)
      clear hlt
      go_wp2_with (first | (go_at_call 60; go_loud ((with_reducible refine (HCL.out _).mono ?_); rintro e2 x2 ⟨rfl, hx⟩; have HX2 := Aside0.mk hx; clear hx)))
      go_ret
      refine ⟨A', by rw [← HX0.out]; rfl, ?_, below_step (below_step HB1.out HB.out) HX2.out⟩
      have h := Kd.C_below HOC.out.2.2 HX2.out
      rw [HX0.out] at h
      exact h
theorem and63_i (x : Int) : 0 ≤ Go.bits .and .i64 x 63 ∧ Go.bits .and .i64 x 63 ≤ 63 := by
  show 0 ≤ IntKind.i64.wrap ((BitVec.ofInt 64 x &&& BitVec.ofInt 64 63).toNat : Int) ∧ IntKind.i64.wrap ((BitVec.ofInt 64 x &&& BitVec.ofInt 64 63).toNat : Int) ≤ 63
  have h : (BitVec.ofInt 64 x &&& BitVec.ofInt 64 63).toNat ≤ 63 := by
    rw [BitVec.toNat_and]
    exact Nat.le_trans Nat.and_le_right (by decide)
  rw [IntKind.wrap_i64]
  omega
theorem and63_u (x : Int) : 0 ≤ Go.bits .and .u64 x 63 ∧ Go.bits .and .u64 x 63 ≤ 63 := by
  show 0 ≤ IntKind.u64.wrap ((BitVec.ofInt 64 x &&& BitVec.ofInt 64 63).toNat : Int) ∧ IntKind.u64.wrap ((BitVec.ofInt 64 x &&& BitVec.ofInt 64 63).toNat : Int) ≤ 63
  have h : (BitVec.ofInt 64 x &&& BitVec.ofInt 64 63).toNat ≤ 63 := by
    rw [BitVec.toNat_and]
    exact Nat.le_trans Nat.and_le_right (by decide)
  rw [IntKind.wrap_u64]
  omega
theorem xor63 {x y : Int} (hx : 0 ≤ x ∧ x ≤ 63) (hy : 0 ≤ y ∧ y ≤ 63) : 0 ≤ Go.bits .xor .i64 x y ∧ Go.bits .xor .i64 x y ≤ 63 := by
  obtain ⟨a, rfl⟩ := Int.eq_ofNat_of_zero_le hx.1
  obtain ⟨b, rfl⟩ := Int.eq_ofNat_of_zero_le hy.1
  show 0 ≤ IntKind.i64.wrap ((BitVec.ofInt 64 (a : Int) ^^^ BitVec.ofInt 64 (b : Int)).toNat : Int) ∧ IntKind.i64.wrap ((BitVec.ofInt 64 (a : Int) ^^^ BitVec.ofInt 64 (b : Int)).toNat : Int) ≤ 63
  have h1 : (BitVec.ofInt 64 (a : Int)).toNat = a := by
    rw [BitVec.ofInt_natCast, BitVec.toNat_ofNat]; exact Nat.mod_eq_of_lt (by omega)
  have h2 : (BitVec.ofInt 64 (b : Int)).toNat = b := by
    rw [BitVec.ofInt_natCast, BitVec.toNat_ofNat]; exact Nat.mod_eq_of_lt (by omega)
  have h : a ^^^ b < 2 ^ 6 := Nat.xor_lt_two_pow (by omega) (by omega)
  rw [BitVec.toNat_xor, h1, h2, IntKind.wrap_i64]
  omega
theorem veil_b (k : Ky) (kind : Int) (f : Fl) (e : Int) : 0 ≤ veilC k kind f e ∧ veilC k kind f e ≤ 63 := by
  have h := and63_u (sumC k kind f 64 e)
  unfold veilC
  rw [wid (by omega) (by omega)]
  exact h
theorem readD_b (r : Rg) (kind : Int) (f : Fl) (e s t : Int) (hs : 0 ≤ s ∧ s ≤ 63) : 0 ≤ (readD r kind f e s t).1 ∧ (readD r kind f e s t).1 ≤ 63 := by
  unfold readD
  split
  · simp
  split
  · exact xor63 hs (veil_b _ _ _ _)
  · simp
theorem readC_b (r : Rg) (kind : Int) (f : Fl) (c : Int) : 0 ≤ (readC r kind f c).1 ∧ (readC r kind f c).1 ≤ 63 := by
  unfold readC
  split
  · split
    · simp
    · exact readD_b _ _ _ _ _ _ (and63_i _)
  · split
    · simp
    · exact readD_b _ _ _ _ _ _ (and63_i _)
def due (p : Po) (j : Nat) : Prop := (p.s j).st = 4 ∧ wrap64 ((p.s j).si + 3) ≤ wrap64 (p.ep + 1)
instance (p : Po) (j : Nat) : Decidable (due p j) := inferInstanceAs (Decidable (_ ∧ _))
theorem up_len {p : Po} (h : p.sl.length = 64) (i : Nat) (s : Sl) : (p.up.put i s).sl.length = 64 := (Po.put_len _ _ _).trans h
theorem up_s {p : Po} (h : p.sl.length = 64) {i : Nat} (hi : i < 64) (s : Sl) (j : Nat) : (p.up.put i s).s j = if j = i then s else p.s j := by
  by_cases hj : j = i
  · subst hj; rw [if_pos rfl, Po.s_put_same s (by show j < p.sl.length; omega)]
  · rw [if_neg hj, Po.s_put_other s (fun h => hj h.symm)]; rfl
theorem free_ok (p : Po) : ∀ (k i : Nat) (r : Po), k + i = 64 → r.sl.length = 64 → r.ep = wrap64 (p.ep + 1) → (∀ j, i ≤ j → j < 64 → r.s j = p.s j) →
    ∃ q, AllOk r (freeL p k i) q ∧ q.ep = r.ep ∧ (∀ j, j < i → j < 64 → q.s j = r.s j) ∧ ∀ j, i ≤ j → j < 64 → q.s j = if due p j then Sl.z else p.s j
  | 0, i, r, h, hl, he, hs => ⟨r, .nil r hl, rfl, fun _ _ _ => rfl, fun j h1 h2 => by omega⟩
  | k + 1, i, r, h, hl, he, hs => by
    rw [freeL]
    by_cases hd : (p.s i).st = 4 ∧ wrap64 ((p.s i).si + 3) ≤ wrap64 (p.ep + 1)
    · rw [if_pos hd]
      have hi : i < 64 := by omega
      have hsi := hs i (Nat.le_refl _) hi
      obtain ⟨⟨st, sa, sp, sw, sq⟩, hss⟩ : ∃ x, p.s i = x := ⟨_, rfl⟩
      rw [hss] at hd hsi
      obtain ⟨h4, hq⟩ := hd
      simp only at h4 hq
      subst h4
      have hc := papply_5 r hl i hi sa sp sw sq r.ep 0 0 hsi rfl (by rw [he]; omega)
      obtain ⟨q, h1, h2, h3, h5⟩ := free_ok p k (i + 1) (r.up.put i ⟨0, 0, 0, 0, 0⟩) (by omega) (up_len hl _ _) he (fun j h1 h2 => by rw [up_s hl hi, if_neg (by omega)]; exact hs j (by omega) h2)
      refine ⟨q, .cons hl hc h1, h2, fun j hj hj2 => ?_, fun j hj hj2 => ?_⟩
      · rw [h3 j (by omega) hj2, up_s hl hi, if_neg (by omega)]
      · by_cases e : j = i
        · subst e
          rw [h3 j (by omega) hj2, up_s hl hi, if_pos rfl, if_pos (by unfold due; rw [hss]; exact ⟨rfl, hq⟩)]
          rfl
        · exact h5 j (by omega) hj2
    · rw [if_neg hd]
      obtain ⟨q, h1, h2, h3, h5⟩ := free_ok p k (i + 1) r (by omega) hl he (fun j h1 h2 => hs j (by omega) h2)
      refine ⟨q, h1, h2, fun j hj hj2 => h3 j (by omega) hj2, fun j hj hj2 => ?_⟩
      by_cases e : j = i
      · subst e
        rw [h3 j (by omega) hj2, hs j (Nat.le_refl _) hj2, if_neg (show ¬ due p j from hd)]
      · exact h5 j (by omega) hj2
theorem rot_ok (p : Po) (hl : p.sl.length = 64) (k : Ky) : ∃ q, AllOk p (enR k :: freeL p 64 0) q ∧ q.ep = wrap64 (p.ep + 1) ∧ ∀ j, j < 64 → q.s j = if due p j then Sl.z else p.s j := by
  obtain ⟨⟨s0, s1, s2, s3, s4⟩, hss⟩ : ∃ x, p.s 0 = x := ⟨_, rfl⟩
  have hc := papply_6 p hl 0 (by omega) s0 s1 s2 s3 s4 p.ep k.a k.b hss rfl
  obtain ⟨q, h1, h2, _, h5⟩ := free_ok p 64 0 (p.up.ring (wrap64 (p.ep + 1)) p.k1 p.k2 ⟨k.a, k.b⟩) (by omega) hl rfl (fun j _ _ => rfl)
  exact ⟨q, .cons hl hc h1, h2, fun j hj => h5 j (by omega) hj⟩
theorem find_self {p : Po} {m : Nat} (h : Inv p m) {i : Nat} (hi : i < 64) (ht : (p.s i).st ≠ 0 ∧ (p.s i).st ≠ 4) : ∀ (k j : Nat), j ≤ i → i < j + k → j + k ≤ 64 → findR p (p.s i).ad (p.s i).po k j = ((i : Int), true)
  | 0, j, h1, h2, _ => by omega
  | k + 1, j, h1, h2, h3 => by
    rw [findR]
    by_cases e : j = i
    · subst e
      rw [if_pos ⟨fun hh => hh.elim ht.1 ht.2, rfl, rfl⟩]
    · rw [if_neg]
      · exact find_self h hi ht k (j + 1) (by omega) (by omega) (by omega)
      · rintro ⟨h4, h5, h6⟩
        exact h.dis j i (by omega) hi e (fun hh => h4 (.inl hh)) ht.1 ⟨h5, h6⟩
/-- The slot is shut, by one entry or by two. -/
theorem shut_ok {p : Po} {m : Nat} (h : Inv p m) {i : Nat} (hi : i < 64) (ht : (p.s i).st = 1 ∨ (p.s i).st = 2 ∨ (p.s i).st = 3) :
    ∃ q, AllOk p (if (p.s i).st = 2 then [enD i, enS i] else [enS i]) q ∧ q.ep = p.ep ∧ (q.s i).st = 4 ∧ (q.s i).si = p.ep := by
  have hl := h.len
  obtain ⟨⟨st, sa, sp, sw, sq⟩, hss⟩ : ∃ x, p.s i = x := ⟨_, rfl⟩
  rw [hss] at ht ⊢
  simp only at ht ⊢
  rcases ht with rfl | rfl | rfl
  · rw [if_neg (by decide)]
    have hc := papply_4_1 p hl i hi sa sp sw sq p.ep 0 0 hss rfl
    refine ⟨_, .cons hl hc (.nil _ (up_len hl _ _)), rfl, ?_⟩
    rw [up_s hl hi, if_pos rfl]; exact ⟨rfl, rfl⟩
  · rw [if_pos rfl]
    have hc := papply_3 p hl i hi sa sp sw sq p.ep 0 0 hss rfl
    have hl2 := up_len hl i ⟨3, sa, sp, sw, sq⟩
    have hs2 : (p.up.put i ⟨3, sa, sp, sw, sq⟩).s i = ⟨3, sa, sp, sw, sq⟩ := by rw [up_s hl hi, if_pos rfl]
    have hc2 := papply_4_3 _ hl2 i hi sa sp sw sq p.ep 0 0 hs2 rfl
    refine ⟨_, .cons hl hc (.cons hl2 hc2 (.nil _ (up_len hl2 _ _))), rfl, ?_⟩
    rw [up_s hl2 hi, if_pos rfl]; exact ⟨rfl, rfl⟩
  · rw [if_neg (by decide)]
    have hc := papply_4_3 p hl i hi sa sp sw sq p.ep 0 0 hss rfl
    refine ⟨_, .cons hl hc (.nil _ (up_len hl _ _)), rfl, ?_⟩
    rw [up_s hl hi, if_pos rfl]; exact ⟨rfl, rfl⟩
/-- How a shut slot stands behind j rotations. -/
structure Wait (q : Po) (i : Nat) (E : Int) (j : Nat) : Prop where
  len : q.sl.length = 64
  ep : q.ep = E + j
  sl : if j < 3 then (q.s i).st = 4 ∧ (q.s i).si = E else (q.s i).st = 0
theorem wait_step {q : Po} {i : Nat} (hi : i < 64) {E : Int} (hE : 1 ≤ E ∧ E ≤ 1000) {j : Nat} (hj : j < 3) (h : Wait q i E j) (k : Ky) : ∃ r, AllOk q (enR k :: freeL q 64 0) r ∧ Wait r i E (j + 1) := by
  obtain ⟨r, h1, h2, h3⟩ := rot_ok q h.len k
  have hs := h.sl
  rw [if_pos hj] at hs
  have he := h.ep
  refine ⟨r, h1, h1.end_, ?_, ?_⟩
  · rw [h2, he, wid (by omega) (by omega)]; omega
  · have h4 := h3 i hi
    have hd : due q i ↔ j = 2 := by
      unfold due
      rw [hs.1, hs.2, he, wid (n := E + 3) (by omega) (by omega), wid (n := E + j + 1) (by omega) (by omega)]
      omega
    by_cases h5 : j = 2
    · rw [if_neg (by omega), h4, if_pos (hd.2 h5)]; rfl
    · rw [if_pos (by omega), h4, if_neg (fun hh => h5 (hd.1 hh))]; exact hs
def spunL (b : Int) (l : List Int) : Int := wrap64 (Int.tmod (wordsL ⟨0, 0⟩ l) b)
theorem words_u (k : Ky) (l : List Int) : 0 ≤ wordsL k l ∧ wordsL k l ≤ 18446744073709551615 := by
  unfold wordsL ofL
  simp only
  unfold outS
  exact ⟨bits_lo_u64 _ _ _, bits_hi_u64 _ _ _⟩
theorem spun_b (b : Int) (l : List Int) (h0 : 0 < b) (h1 : b ≤ 1000) : 0 ≤ spunL b l ∧ spunL b l < b := by
  have h := (words_u ⟨0, 0⟩ l).1
  unfold spunL
  rw [Int.tmod_eq_emod_of_nonneg h]
  have a := Int.emod_nonneg (wordsL ⟨0, 0⟩ l) (show b ≠ 0 by omega)
  have c := Int.emod_lt_of_pos (wordsL ⟨0, 0⟩ l) h0
  rw [wid (by omega) (by omega)]
  exact ⟨a, c⟩
set_option maxHeartbeats 4000000 in
set_option maxRecDepth 100000 in
theorem spun_calls (b : Int) (h0 : 0 < b) {A : Option Addr} {c n : Nat} {l : List Int} {w : World} (hr : Kd.C (Kd.int .i64) w A n l) (hn : l.length = n) (hc : n ≤ c) (hl : l.length ≤ 1000) :
    Calls Try.prog 77 #[.int .u64 b, .slice A n c] w fun e w' => e = .returned (.int .i64 (spunL b l)) ∧ Below w.heap.size w w' := by
  have HW := Aside0.mk (fun W (hW : Below w.heap.size w W) => words_calls ⟨0, 0⟩ (w := W) (Kd.C_below hr hW) hn hc hl)
  have hb : (b == 0) = false := beq_eq_false_iff_ne.mpr (by omega)
  have hb2 : ¬ b = 0 := by omega
  obtain ⟨x, hx⟩ : ∃ x, wordsL ⟨0, 0⟩ l = x := ⟨_, rfl⟩
  rw [spunL, hx]
  rw [hx] at HW
  clear hr hn hc hl hx h0
  go_enter Try.func77, Try.ntmps77
  go_wp2_with (first | (go_at_call 27; go_loud ((with_reducible refine (HW.out _ (Below.refl _ _)).mono ?_); rintro e x1 ⟨rfl, hx⟩; have HX := Aside0.mk hx; clear hx)))
  go_ret
  exact ⟨rfl, HX.out⟩
set_option maxHeartbeats 4000000 in
set_option maxRecDepth 100000 in
theorem pick_calls (f : Fl) {A : Option Addr} {c n : Nat} {l : List Int} {w : World} (hr : Kd.C (Kd.int .i64) w A n l) (hn : l.length = n) (hc : n ≤ c) (h127 : n = 127) :
    Calls Try.prog 82 #[.slice A n c, .agg #[.int .i64 f.ad, .int .i64 f.po, .int .i64 f.tad, .int .i64 f.tpo]] w fun e w' => e = .returned (.int .i64 (rd l (spunL 127 [3, f.ad, f.po, f.tad, f.tpo]))) ∧ Below w.heap.size w w' := by
  subst hn
  obtain ⟨f0, f1, f2, f3⟩ := f
  have HR := Aside0.mk hr
  have HC := Aside0.mk hc
  have H127 := Aside0.mk h127
  have HSB := Aside0.mk (spun_b 127 [3, f0, f1, f2, f3] (by decide) (by decide))
  obtain ⟨x, hx⟩ : ∃ x, spunL 127 [3, f0, f1, f2, f3] = x := ⟨_, rfl⟩
  show Calls Try.prog 82 _ w fun e w' => e = .returned (.int .i64 (rd l (spunL 127 [3, f0, f1, f2, f3]))) ∧ Below w.heap.size w w'
  rw [hx] at HSB ⊢
  have HXX := Aside0.mk hx
  clear hr hc hx
  obtain ⟨g, HG⟩ : ∃ g, w.heap.size = g := ⟨_, rfl⟩
  have hx0 : (0 : Int) ≤ x := HSB.out.1
  have hx1 : x < (l.length : Int) := by have := HSB.out.2; omega
  have hge : decide ((l.length : Int) ≤ x) = false := decide_eq_false (by omega)
  clear h127
  go_enter Try.func82, Try.ntmps82
  go_upto_region 1 with fail
  refine wp_w (fun W => W.heap[g]? = some (.cells #[.int .i64 f0, .int .i64 f1, .int .i64 f2, .int .i64 f3] 60 (0, 0)) ∧ Below w.heap.size w W) ?_ ?_
  · exact ⟨(box_at w HG _).1, (box_at w HG _).2.1⟩
  intro w1 h1
  obtain ⟨j0, j1, j2, j3⟩ := c4 h1.1
  have HB1 := Aside0.mk h1.2
  clear h1
  go_upto_region 2 with (first
    | ((with_reducible refine gate_dst (N := 14) rfl ?_); refine Kd.R_lit (Kd.int .i64) (w0 := w1) w1.heap.size 3 ?hg (N := 14) ?hd (xs := ([3, f0, f1, f2, f3] : List Int)) (inner := [.int .i64 3, .int .i64 f0, .int .i64 f1, .int .i64 f2, .int .i64 f3]) (ok := fun _ => True) (okp := fun _ => True) ?hr ?hp (fun _ hk => hk) trivial (Below.refl _ _) (Nat.le_refl _) (by simp) ?_; (case hd => rfl); (case hg => rfl); (case hr => first | (go_simp; done) | (go_simp; rfl)); (case hp => exact (Reps.one (show Kd.M (Kd.int .i64) _ _ _ 3 [.int .i64 3] from rfl) (Reps.one (show Kd.M (Kd.int .i64) _ _ _ f0 [.int .i64 f0] from rfl) (Reps.one (show Kd.M (Kd.int .i64) _ _ _ f1 [.int .i64 f1] from rfl) (Reps.one (show Kd.M (Kd.int .i64) _ _ _ f2 [.int .i64 f2] from rfl) (Reps.one (show Kd.M (Kd.int .i64) _ _ _ f3 [.int .i64 f3] from rfl) (Reps.none _ _))))))); intro vl wl ho hb hg hat; obtain ⟨Al, cl, el⟩ := Kd.R_slice ho; subst el; have HLI := Aside0.mk (Kd.R_reads' ho); have HBL := Aside0.mk hb; have HSP := Aside0.mk (fun W (hW : Below wl.heap.size wl W) => HXX.out ▸ spun_calls 127 (by decide) (w := W) (n := 5) (l := [3, f0, f1, f2, f3]) (Kd.C_below HLI.out.2.2 hW) rfl HLI.out.2.1 (by simp)); clear ho hb hg hat)
    | (go_at_call 77; go_loud ((with_reducible refine (HSP.out _ (Below.refl _ _)).mono ?_); rintro e1 x1 ⟨rfl, hx⟩; have HX := Aside0.mk (below_step (below_step HB1.out HBL.out) hx); clear hx)))
  obtain ⟨ad, ead, hcell⟩ := Kd.at_int (Kd.C_below HR.out HX.out) x hx0 hx1
  subst ead
  go_wp2
  go_ret
  exact ⟨rfl, by first | exact HX.out | (rw [← HG]; exact HX.out)⟩
/-- 127 places in a block of their own. -/
def ArW (w : World) (g : Nat) (L : List Int) : Prop := w.heap[g]? = some (.cells (L.map (Value.int .i64)).toArray 142 (0, 0))
theorem arw_cell {w : World} {g : Nat} {L : List Int} (h : ArW w g L) (i : Nat) (hi : i < L.length) : w.cell? ⟨g, i, none⟩ = some (.int .i64 (L.getD i 0)) := by
  rw [cell_of_row w g i _ _ _ h]
  simp [hi]
theorem ArW.set {w : World} {g : Nat} {L : List Int} (h : ArW w g L) (i : Nat) (v : Int) : ArW (w.setCell ⟨g, i, none⟩ (.int .i64 v)) g (L.set i v) := by
  have e := heap_setCell_same w g i _ 142 (.int .i64 v) h
  rw [List.setIfInBounds_toArray, ← List.map_set] at e
  exact e
theorem zero142 : (Try.prog.info? 142).map (fun i => (i.zero, i.size)) = some (some (.agg (((List.replicate 127 (0 : Int)).map (Value.int .i64)).toArray)), 127) := by kernel_rfl
theorem arw_alloc {ops : Array Oper} {rest : List Oper} {o : Oper} {a : Act} {Q : Exit → Act → World → Prop} {W : World} (hgd : o.guard = none) (ho : o.op = .alloc 142) (h : ∀ g, W.heap.size = g → ∀ w1, ArW w1 g (List.replicate 127 0) → Below W.heap.size W w1 → wpList Try.prog ops Q rest (a.put o.dst (.pointer (some ⟨g, 0, none⟩))) w1) : wpList Try.prog ops Q (o :: rest) a W := by
  obtain ⟨i0, hi, hz⟩ := Option.map_eq_some_iff.1 zero142
  simp only [Prod.mk.injEq] at hz
  refine Kd.event_run hgd (w1 := W.alloc (.cells ((List.replicate 127 (0 : Int)).map (Value.int .i64)).toArray 142)) (v := .pointer (some ⟨W.heap.size, 0, none⟩)) ?_ (h _ rfl _ (new_blk W _) (below_alloc (Below.refl _ _) _))
  have : execOp a.eval o = (do pure (.value (← Instr.alloc 142 true (.tuple #[])))) := by simp only [execOp, ho]
  rw [this]
  simp only [Instr.alloc, zeroValue, typeInfo, Sem.run_bind]
  simp [hi, hz.1, go_sem, newVar, newRow, Value.cells, Sem.run_bind, Result.andThen]
theorem arw_reads {w : World} {g : Nat} {L : List Int} (h : ArW w g L) (h127 : L.length = 127) : Kd.C (Kd.int .i64) w (some ⟨g, 0, none⟩) 127 L := by
  refine ⟨h127, by decide, fun _ => ⟨_, rfl, fun j p hp => ⟨[.int .i64 p], rfl, rfl, fun i u hu => ?_⟩⟩⟩
  have hi : i = 0 := by
    have := (List.getElem?_eq_some_iff.1 hu).1
    simp only [List.length_singleton] at this
    omega
  subst hi
  simp only [List.getElem?_cons_zero, Option.some.injEq] at hu
  subst hu
  show w.cell? ((⟨g, 0, none⟩ : Addr).add (j * 1 + 0)) = _
  rw [Addr.add_mid, cell_of_row w g _ _ _ _ h]
  simp [hp]
set_option maxHeartbeats 4000000 in
set_option maxRecDepth 100000 in
theorem wmake0_calls (p : Po) (hl : p.sl.length = 64) (hna : ∀ i, i < 64 → (p.s i).st ≠ 2) (w : World) :
    Calls Try.prog 39 #[.agg p.ag] w fun e w' => ∃ A c, e = .returned (.slice A 127 c) ∧ Kd.R (Kd.int .i64) 3 w' w.heap.size (fun _ => True) (.slice A 127 c) (List.replicate 127 (-1)) ∧ Below w.heap.size w w' := by
  have HL := Aside0.mk hl
  have HNA := Aside0.mk hna
  clear hl hna
  go_enter Try.func39, Try.ntmps39
  go_upto_region 1 with (first
    | ((with_reducible refine gate_dst (N := 1) rfl ?_); refine pool_box (p := p) rfl rfl rfl ?_; intro g hg w1 hp1 hb1 hs1; have HP1 := Aside0.mk hp1; have HB1 := Aside0.mk hb1; have HGE := Aside0.mk hg; clear hp1 hb1 hs1 hg))
  refine wp_scope_straight ?_
  go_wp2_with (first
    | ((with_reducible refine gate_dst (N := 3) rfl ?_); go_loud (refine arw_alloc rfl rfl ?_; intro g3 hg3 w3 ha3 hb3; have HA3 := Aside0.mk ha3; have HB3 := Aside0.mk hb3; have HP3 := Aside0.mk (HP1.out.below hb3); have HG3 := Aside0.mk (show g < g3 from by rw [← hg3]; exact blk_lt HP1.out); clear ha3 hb3 hg3)))
  go_loopg [11] 127 (fun kq v11 w' => ∃ (i : Nat), v11 = .int .i64 (i : Int) ∧ Aside (kq + i = 127) ∧ Aside0 (ArW w' g3 (List.replicate i (-1) ++ List.replicate (127 - i) 0) ∧ PoolAt w' g p ∧ Below w.heap.size w w'))
  case atStart => exact ⟨0, rfl, (by show _ = _; omega), Aside0.mk ⟨HA3.out, HP3.out, below_step HB1.out HB3.out⟩⟩
  case round =>
    obtain ⟨i, rfl, hk, HW⟩ := hrel
    have HKQ := Aside0.mk hk.out
    clear hk
    rename World => wr1
    have HGL := Aside0.mk (show w.heap.size ≤ g3 from by have := HG3.out; have := HGE.out; omega)
    by_cases hlt : i < 127
    · have hd : decide (i < 127) = true := decide_eq_true hlt
      have hd2 : decide ((i : Int) < 127) = true := decide_eq_true (by omega)
      have hi0 : (0 : Int) ≤ (i : Int) := by omega
      have hi1 : (i : Int) < 127 := by omega
      have HLT := Aside0.mk hlt
      have HGK := Aside0.mk (show 0 < gk from by have := HKQ.out; omega)
      have t0 := arw_cell HW.out.1 i (by simp only [List.length_append, List.length_replicate]; omega)
      have u0 := fr_ HW.out.1 i
      clear hlt
      go_wp2
      go_roundg (gk - 1)
      case measure => have := HGK.out; omega
      case rel =>
        refine ⟨i + 1, (by have := HLT.out; show Value.int _ _ = Value.int _ _; first | rfl | (rw [wid (by omega) (by omega)]; rfl)), (by show _ = _; have := HKQ.out; have := HGK.out; omega), Aside0.mk ⟨?_, HW.out.2.1.chg ((Chg.refl g3 _).set _ _) (by have := HG3.out; omega), below_set HW.out.2.2 HGL.out⟩⟩
        have e : (List.replicate i (-1 : Int) ++ List.replicate (127 - i) 0).set i (-1) = List.replicate (i + 1) (-1) ++ List.replicate (127 - (i + 1)) 0 := by
          rw [List.set_append_right _ _ (by simp), List.length_replicate, Nat.sub_self, show 127 - i = (127 - (i + 1)) + 1 by have := HLT.out; omega, List.replicate_succ, List.set_cons_zero, List.replicate_succ', List.append_assoc]
          rfl
        rw [← e]
        exact HW.out.1.set i (-1)
    · have hd : decide (i < 127) = false := decide_eq_false hlt
      have hd2 : decide ((i : Int) < 127) = false := decide_eq_false (by omega)
      have hi : i = 127 := by have := HKQ.out; omega
      subst hi
      have HAF : Aside0 (ArW wr1 g3 (List.replicate 127 (-1))) := Aside0.mk (by have h := HW.out.1; simpa using h)
      clear hlt
      go_wp2_with (first | ((with_reducible refine gate_dst (N := 18) rfl ?_); refine slots_load rfl rfl rfl HW.out.2.1 HL.out ?_))
      go_loopg [19, 5] 64 (fun kq v19 v5 w' => ∃ (j : Nat), v19 = .int .i64 (j : Int) ∧ v5 = .slice none 0 0 ∧ Aside (kq + j = 64) ∧ Aside0 (Below wr1.heap.size wr1 w'))
      case atStart => exact ⟨0, rfl, rfl, (by show _ = _; omega), Aside0.mk (Below.refl _ wr1)⟩
      case round =>
        obtain ⟨j, rfl, rfl, hk, HB2⟩ := hrel
        have HKQ2 := Aside0.mk hk.out
        clear hk
        rename World => wr2
        by_cases hlj : j < 64
        · have hd3 : decide (j < 64) = true := decide_eq_true hlj
          have hd4 : decide ((j : Int) < 64) = true := decide_eq_true (by omega)
          have hj0 : (0 : Int) ≤ (j : Int) := by omega
          have hj1 : (j : Int) < 64 := by omega
          have HLJ := Aside0.mk hlj
          have HGK2 := Aside0.mk (show 0 < gk from by have := HKQ2.out; omega)
          have hix := slot_index p HL.out j hlj
          have hne := HNA.out j hlj
          obtain ⟨⟨st, sa, sp, sw, sq⟩, hss⟩ : ∃ x, p.s j = x := ⟨_, rfl⟩
          rw [hss] at hix hne
          simp only at hne
          have hb0 : (st == 2) = false := beq_eq_false_iff_ne.mpr hne
          clear hss hlj hne
          go_wp2
          go_roundg (gk - 1)
          case measure => have := HGK2.out; omega
          case rel => exact ⟨j + 1, (by have := HLJ.out; show Value.int _ _ = Value.int _ _; first | rfl | (rw [wid (by omega) (by omega)]; rfl)), rfl, (by show _ = _; have := HKQ2.out; have := HGK2.out; omega), Aside0.mk (below_alloc HB2.out _)⟩
        · have hd3 : decide (j < 64) = false := decide_eq_false hlj
          have hd4 : decide ((j : Int) < 64) = false := decide_eq_false (by omega)
          clear hlj
          go_wp2
          refine wp_label ?_
          go_wp2
          go_loopg [8] 0 (fun kq v8 w' => v8 = .int .i64 0 ∧ Aside0 (Below wr1.heap.size wr1 w'))
          case atStart => exact ⟨rfl, HB2⟩
          case round =>
            obtain ⟨rfl, HB3'⟩ := hrel
            rename World => wr3
            have HA5 : Aside0 (ArW wr3 g3 (List.replicate 127 (-1))) := Aside0.mk (bk_ HAF.out HB3'.out)
            have HRD := Aside0.mk (arw_reads HA5.out (by simp))
            go_wp2_with (first
              | ((with_reducible refine gate_builtin (b := .append) (xs := #[.const (.slice none 0 0), .tmp 111]) rfl ?_); at_builtin; go_loud (refine Kd.R_append_rows (Kd.int .i64) (w0 := wr3) wr3.heap.size rfl (.const (.slice none 0 0)) (.tmp 111) 22 3 (.int .i64 0) 8 rfl Try.underlying22 info3 rfl (by decide) (by omega) (.slice none 0 0) [] (List.replicate 127 (-1)) (some ⟨g3, 0, none⟩) 127 127 (fun _ => True) (fun _ => False) rfl rfl (Kd.R_nil _ _ _ _ _) HRD.out (fun _ _ h => h) (fun _ h => h.elim) (fun _ _ => trivial) (Below.refl wr3.heap.size wr3) (Nat.le_refl _) (by simp) ?_; intro vq wq ho hb hg hat; have HO := Aside0.mk ho; have HBQ := Aside0.mk hb; clear hb ho hg hat)))
            obtain ⟨Aq, cq, rfl⟩ := Kd.R_slice HO.out
            have HOC := Aside0.mk (Kd.R_reads' HO.out)
            simp only [Exit.noGoto]
            go_ret
            have hb := below_step HW.out.2.2 HB3'.out
            exact ⟨Aq, cq, by simp, by
              have h := Kd.R_lower HO.out hb.size
              simpa using h, below_step hb HBQ.out⟩
/-- A plane's cells. -/
def PL (p : Po) (is : Bool) (near : List Value) (wv : Value) : List Value := p.cs ++ (.bool is :: (near ++ [wv]))
def nearZ : List Value := (List.replicate 64 [Value.int .u32 0, Value.bool false]).flatten
theorem nearZ_len : nearZ.length = 128 := by simp [nearZ]
theorem built96 : Try.prog.built 96 [] = some (PL Po.z false nearZ (.slice none 0 0)).toArray := by kernel_rfl
def PlaneAt (w : World) (b : Nat) (p : Po) (is : Bool) (near : List Value) (wv : Value) : Prop := near.length = 128 ∧ p.sl.length = 64 ∧ w.heap[b]? = some (.cells (PL p is near wv).toArray 96 (0, 0))
theorem PL_pool {p : Po} (h : p.sl.length = 64) (is : Bool) (near : List Value) (wv : Value) {j : Nat} (hj : j < 330) : (PL p is near wv)[j]? = p.cs[j]? := by
  rw [PL, List.getElem?_append_left (by rw [Po.cs_len p h]; exact hj)]
theorem PL_is {p : Po} (h : p.sl.length = 64) (is : Bool) (near : List Value) (wv : Value) : (PL p is near wv)[330]? = some (.bool is) := by
  rw [PL, List.getElem?_append_right (by rw [Po.cs_len p h]; omega), Po.cs_len p h]; rfl
theorem PL_w {p : Po} (h : p.sl.length = 64) (is : Bool) {near : List Value} (hn : near.length = 128) (wv : Value) : (PL p is near wv)[459]? = some wv := by
  rw [PL, List.getElem?_append_right (by rw [Po.cs_len p h]; omega), Po.cs_len p h]
  show (Value.bool is :: (near ++ [wv]))[129]? = some wv
  rw [List.getElem?_cons_succ, List.getElem?_append_right (by omega), hn]
  rfl
theorem PL_len {p : Po} (h : p.sl.length = 64) (is : Bool) {near : List Value} (hn : near.length = 128) (wv : Value) : (PL p is near wv).length = 460 := by
  simp [PL, Po.cs_len p h, hn]
theorem PlaneAt.cell {w : World} {b : Nat} {p : Po} {is : Bool} {near : List Value} {wv : Value} (h : PlaneAt w b p is near wv) (j : Nat) : w.cell? ⟨b, j, none⟩ = (PL p is near wv)[j]? := by
  rw [cell_of_row w b j _ _ _ h.2.2, List.getElem?_toArray]
theorem PlaneAt.c_is {w : World} {b : Nat} {p : Po} {is : Bool} {near : List Value} {wv : Value} (h : PlaneAt w b p is near wv) : w.cell? ⟨b, 330, none⟩ = some (.bool is) := (h.cell 330).trans (PL_is h.2.1 _ _ _)
theorem PlaneAt.c_w {w : World} {b : Nat} {p : Po} {is : Bool} {near : List Value} {wv : Value} (h : PlaneAt w b p is near wv) : w.cell? ⟨b, 459, none⟩ = some wv := (h.cell 459).trans (PL_w h.2.1 _ h.1 _)
theorem PlaneAt.c_ad {w : World} {b : Nat} {p : Po} {is : Bool} {near : List Value} {wv : Value} (h : PlaneAt w b p is near wv) : w.cell? ⟨b, 1, none⟩ = some (.int .i64 p.ad) ∧ w.cell? ⟨b, 2, none⟩ = some (.int .i64 p.po) :=
  ⟨(h.cell 1).trans (PL_pool h.2.1 _ _ _ (by omega)), (h.cell 2).trans (PL_pool h.2.1 _ _ _ (by omega))⟩
theorem PlaneAt.ring {w : World} {b : Nat} {p : Po} {is : Bool} {near : List Value} {wv : Value} (h : PlaneAt w b p is near wv) : w.cell? ⟨b, 323, none⟩ = some (.int .i64 p.ep) ∧ w.cell? ⟨b, 324, none⟩ = some (.int .u64 p.k0.a) ∧ w.cell? ⟨b, 325, none⟩ = some (.int .u64 p.k0.b) ∧
    w.cell? ⟨b, 326, none⟩ = some (.int .u64 p.k1.a) ∧ w.cell? ⟨b, 327, none⟩ = some (.int .u64 p.k1.b) ∧ w.cell? ⟨b, 328, none⟩ = some (.int .u64 p.k2.a) ∧ w.cell? ⟨b, 329, none⟩ = some (.int .u64 p.k2.b) := by
  have t : ∀ j, j < 7 → w.cell? ⟨b, 323 + j, none⟩ = p.tl[j]? := fun j hj => by
    have e := Po.ag_tl h.2.1 (j := j)
    rw [Po.ag, List.getElem?_toArray] at e
    exact ((h.cell (323 + j)).trans (PL_pool h.2.1 _ _ _ (by omega))).trans e
  exact ⟨t 0 (by omega), t 1 (by omega), t 2 (by omega), t 3 (by omega), t 4 (by omega), t 5 (by omega), t 6 (by omega)⟩
theorem PlaneAt.range {w : World} {b : Nat} {p : Po} {is : Bool} {near : List Value} {wv : Value} (h : PlaneAt w b p is near wv) : w.rangeAt b 0 p.cs := by
  intro j v hv
  have hj : j < p.cs.length := (List.getElem?_eq_some_iff.1 hv).1
  rw [Nat.zero_add, h.cell, PL_pool h.2.1 _ _ _ (by rw [Po.cs_len p h.2.1] at hj; exact hj), hv]
theorem PlaneAt.below {w w' : World} {b : Nat} {p : Po} {is : Bool} {near : List Value} {wv : Value} (h : PlaneAt w b p is near wv) (hb : Below w.heap.size w w') : PlaneAt w' b p is near wv := ⟨h.1, h.2.1, bk_ h.2.2 hb⟩
/-- One old block may be another one, and new ones may be there. -/
structure Grw (b : Nat) (w w' : World) : Prop where
  os : w'.os = w.os
  tape : w'.tape = w.tape
  output : w'.output = w.output
  size : w.heap.size ≤ w'.heap.size
  block : ∀ k, k < w.heap.size → k ≠ b → w'.heap[k]? = w.heap[k]?
theorem Grw.of_below {b : Nat} {w w' : World} (h : Below w.heap.size w w') : Grw b w w' := ⟨h.os, h.tape, h.output, h.size, fun k hk _ => h.block k hk⟩
theorem Grw.of_chg {b : Nat} {w w' : World} (h : Chg b w w') : Grw b w w' := ⟨h.os, h.tape, h.output, Nat.le_of_eq h.size.symm, fun k _ hne => h.block k hne⟩
theorem Grw.trans {b : Nat} {w w1 w2 : World} (h : Grw b w w1) (k : Grw b w1 w2) : Grw b w w2 := ⟨k.os.trans h.os, k.tape.trans h.tape, k.output.trans h.output, Nat.le_trans h.size k.size, fun i hi hne => (k.block i (Nat.lt_of_lt_of_le hi h.size) hne).trans (h.block i hi hne)⟩
theorem Grw.below {b B : Nat} {w0 w w' : World} (h : Grw b w w') (h0 : Below B w0 w) (hB : B ≤ w.heap.size) (hb : B ≤ b) : Below B w0 w' :=
  h0.trans ⟨h.os, h.tape, h.output, h.size, fun k hk => h.block k (by omega) (by omega)⟩
theorem PoolAt.below_but {w w1 w2 : World} {g b : Nat} {p : Po} (h : PoolAt w g p) (hb : Below w.heap.size w w1) (hg : Grw b w1 w2) (hne : g ≠ b) : PoolAt w2 g p :=
  (hg.block g (blk_lt (h.below hb)) hne).trans (h.below hb)
theorem plane_zero {ops : Array Oper} {rest : List Oper} {o : Oper} {a : Act} {Q : Exit → Act → World → Prop} {W : World} (hgd : o.guard = none) (ho : o.op = .build 96 #[]) (h : wpList Try.prog ops Q rest (a.put o.dst (.agg (PL Po.z false nearZ (.slice none 0 0)).toArray)) W) : wpList Try.prog ops Q (o :: rest) a W := by
  have e : Try.prog.built 96 ((#[] : Array (Nat × Operand)).map fun (i, x) => (i, a.eval x)).toList = some (PL Po.z false nearZ (.slice none 0 0)).toArray := by rw [Array.map_empty]; exact built96
  refine wpList_build hgd 96 #[] ho ?_ ?_
  · rw [e]; rfl
  · rw [e]; exact h
theorem plane_store {ops : Array Oper} {rest : List Oper} {o : Oper} {a : Act} {Q : Exit → Act → World → Prop} {W : World} {x y : Operand} {b : Nat} {p q : Po} {is : Bool} {near : List Value} {wv : Value} (hgd : o.guard = none) (hN : o.dst = none) (ho : o.op = .store 34 x y) (hx : a.eval x = .pointer (some ⟨b, 0, none⟩)) (hy : a.eval y = .agg q.ag) (hP : PlaneAt W b p is near wv) (hq : q.sl.length = 64)
    (h : ∀ w1, PlaneAt w1 b q is near wv → Chg b W w1 → wpList Try.prog ops Q rest a w1) : wpList Try.prog ops Q (o :: rest) a W := by
  have hlen := PL_len hP.2.1 is hP.1 wv
  have hst := run_storeCells_at Try.prog b 0 96 q.cs 0 (PL p is near wv).toArray W hP.2.2 (by rw [Po.cs_len q hq, List.size_toArray, hlen]; omega) q.one
  have e : ((PL p is near wv).toArray.toList.take (0 + 0) ++ q.cs ++ (PL p is near wv).toArray.toList.drop (0 + 0 + q.cs.length)).toArray = (PL q is near wv).toArray := by
    rw [Po.cs_len q hq]
    simp only [PL, Nat.zero_add, List.take_zero, List.nil_append]
    rw [List.drop_append_of_le_length (by rw [Po.cs_len p hP.2.1]; omega), List.drop_of_length_le (by rw [Po.cs_len p hP.2.1]; omega), List.nil_append]
  rw [e] at hst
  obtain ⟨i0, hi, hsz⟩ := Option.map_eq_some_iff.1 info34
  have hsv : (storeVar 34 ⟨b, 0, none⟩ (.agg q.ag)).run Try.prog W = .ok () (W.setRow b (PL q is near wv).toArray) := by
    have h330 : q.ag.size = i0.size := by rw [Po.ag_size hq, hsz]
    simp [storeVar, sizeOf, typeInfo, hi, Value.cells, h330, Po.ag, hst] at *
    simp [h330, hst]
  refine wpList_plain hgd fun K hK => ?_
  unfold Oper.wp execOp
  simp only [ho, hx, hy, Instr.storeAt, Instr.sureAddr, Sem.run_bind, Sem.run_pure, Result.andThen_ok, hsv]
  have := h (W.setRow b (PL q is near wv).toArray) ⟨hP.1, hq, setRow_heap W b _ _ 96 (0, 0) hP.2.2⟩ ⟨rfl, rfl, rfl, setRow_size W b _, fun k hk => setRow_other W b k _ hk⟩
  exact hK _ _ (by rw [hN]; exact this)
theorem PlaneAt.setis {w : World} {b : Nat} {p : Po} {is : Bool} {near : List Value} {wv : Value} (h : PlaneAt w b p is near wv) (v : Bool) : PlaneAt (w.setCell ⟨b, 330, none⟩ (.bool v)) b p v near wv := by
  refine ⟨h.1, h.2.1, ?_⟩
  have e := heap_setCell_same w b 330 _ 96 (.bool v) h.2.2
  rw [List.setIfInBounds_toArray, PL, List.set_append_right _ _ (by rw [Po.cs_len p h.2.1]; omega), Po.cs_len p h.2.1] at e
  exact e
theorem PlaneAt.setw {w : World} {b : Nat} {p : Po} {is : Bool} {near : List Value} {wv : Value} (h : PlaneAt w b p is near wv) (v : Value) : PlaneAt (w.setCell ⟨b, 459, none⟩ v) b p is near v := by
  refine ⟨h.1, h.2.1, ?_⟩
  have e := heap_setCell_same w b 459 _ 96 v h.2.2
  rw [List.setIfInBounds_toArray, PL, List.set_append_right _ _ (by rw [Po.cs_len p h.2.1]; omega), Po.cs_len p h.2.1, show 459 - 330 = 128 + 1 from rfl, List.set_cons_succ, List.set_append_right _ _ (by rw [h.1]; omega), h.1] at e
  exact e
set_option maxHeartbeats 4000000 in
set_option maxRecDepth 100000 in
theorem pnew_calls (w : World) : Calls Try.prog 12 #[] w fun e w' => e = .returned (.pointer (some ⟨w.heap.size, 0, none⟩)) ∧ PlaneAt w' w.heap.size Po.z false nearZ (.slice none 0 0) ∧ Below w.heap.size w w' := by
  go_enter Try.func12, Try.ntmps12
  go_wp2_with (first | ((with_reducible refine gate_dst (N := 1) rfl ?_); go_loud (refine plane_zero rfl rfl ?_)))
  go_ret
  exact ⟨rfl, ⟨nearZ_len, Po.z_len, new_blk w _⟩, below_alloc (Below.refl _ w) _⟩
set_option maxHeartbeats 4000000 in
set_option maxRecDepth 100000 in
theorem lay_calls {p x : Po} {is : Bool} {near : List Value} {wv : Value} {b : Nat} {w : World} (h : PlaneAt w b p is near wv) (hx : x.sl.length = 64) :
    Calls Try.prog 38 #[.pointer (some ⟨b, 0, none⟩), .agg x.ag] w fun e w' => e = .returned (.tuple #[]) ∧ PlaneAt w' b x true near wv ∧ Grw b w w' := by
  have HP := Aside0.mk h
  have HX := Aside0.mk hx
  clear h hx
  go_enter Try.func38, Try.ntmps38
  go_wp2_with (first
    | ((with_reducible refine gate_dst (N := 3) rfl ?_); refine pool_box (p := x) rfl rfl rfl ?_; intro g hg w1 hp1 hb1 hs1; have HP1 := Aside0.mk hp1; have HB1 := Aside0.mk hb1; clear hp1 hb1 hs1 hg)
    | ((with_reducible refine gate_dst (N := 6) rfl ?_); refine pool_load rfl rfl rfl HP1.out HX.out ?_)
    | ((with_reducible refine gate_store (t := 34) (p := 8) rfl ?_); go_loud (refine plane_store (q := x) rfl rfl rfl rfl rfl (HP.out.below HB1.out) HX.out ?_; intro w9 hp9 hc9; have HP9 := Aside0.mk hp9; have HC9 := Aside0.mk hc9; have t0 := hp9.c_is; have u0 := fr_ hp9.2.2 330; clear hp9 hc9)))
  go_end0
  exact ⟨rfl, HP9.out.setis true, (Grw.of_below HB1.out).trans (Grw.of_chg (HC9.out.set _ _))⟩
set_option maxHeartbeats 4000000 in
set_option maxRecDepth 100000 in
theorem load0_calls {p x : Po} {is : Bool} {near : List Value} {wv : Value} {b : Nat} {w : World} (h : PlaneAt w b p is near wv) (hx : x.sl.length = 64) (hna : ∀ i, i < 64 → (x.s i).st ≠ 2) :
    Calls Try.prog 13 #[.pointer (some ⟨b, 0, none⟩), .agg x.ag] w fun e w' => e = .returned (.tuple #[]) ∧ ∃ A c, PlaneAt w' b x true near (.slice A 127 c) ∧ Kd.R (Kd.int .i64) 3 w' w.heap.size (fun _ => True) (.slice A 127 c) (List.replicate 127 (-1)) ∧ Grw b w w' := by
  have HP := Aside0.mk h
  have HL := Aside0.mk hx
  have HMK := Aside0.mk (fun W => wmake0_calls x hx hna W)
  have hbl := blk_lt h.2.2
  have HBL := Aside0.mk hbl
  clear h hx hna
  go_enter Try.func13, Try.ntmps13
  go_upto_region 1 with (first
    | ((with_reducible refine gate_dst (N := 3) rfl ?_); refine pool_box (p := x) rfl rfl rfl ?_; intro g hg w2 hp1 hb1 hs1; have HP2 := Aside0.mk hp1; have HB2 := Aside0.mk hb1; have HNE := Aside0.mk (show g ≠ b from by omega); clear hp1 hb1 hs1 hg))
  have HLAY := Aside0.mk (fun W (hW : Below w2.heap.size w2 W) => lay_calls (w := W) ((HP.out.below HB2.out).below hW) HL.out)
  have HQc := Aside0.mk (Below.refl w2.heap.size w2).drew
  refine start_ (n := 5) (S := fun w' => PoolAt w' g x) (ds := []) #[fF,fF,fF,fF,fF] (by kernel_rfl) rfl rfl (HP2.out) (fun hHeld => ?_)
  refine pure_ (i := 0) (N := some 4) (v := ?_) (a' := ?_) #[tT,fF,fF,fF,fF] rfl rfl (by kernel_rfl) (fun _ _ _ h => h) (Or.inl ⟨by rfl, ?_⟩) ?_ ?_
  rotate_left; · intro w'; go_simp; with_reducible rfl
  rotate_left; · simp only [Act.put, q_a, q_0, q_s, i64_w, i32_w]; rfl
  refine pure_ (i := 1) (N := some 5) (v := ?_) (a' := ?_) #[tT,tT,fF,fF,fF] rfl rfl (by kernel_rfl) (fun _ _ _ h => h) (Or.inl ⟨by rfl, ?_⟩) ?_ ?_
  rotate_left; · intro w'; go_simp; with_reducible rfl
  rotate_left; · simp only [Act.put, q_a, q_0, q_s, i64_w, i32_w]; rfl
  refine pure_ (i := 2) (N := some 6) (v := ?_) (a' := ?_) #[tT,tT,tT,fF,fF] rfl rfl (by kernel_rfl) (fun _ _ _ h => h) (Or.inl ⟨by rfl, ?_⟩) ?_ ?_
  rotate_left; · intro w'; go_simp; with_reducible rfl
  rotate_left; · simp only [Act.put, q_a, q_0, q_s, i64_w, i32_w]; rfl
  refine take_ (i := 3) (N := some 7) (v := ?_) (a' := ?_) #[tT,tT,tT,tT,fF] rfl rfl (by kernel_rfl) (fun _ _ _ h => h) (Or.inl ⟨by rfl, ?_⟩) hHeld ?_ ?_
  rotate_left
  · intro w' s0
    refine load34_run (x := .tmp 3) _ ?_ ?_ s0 HL.out <;> rfl
  rotate_left; · simp only [Act.put, q_a, q_0, q_s, i64_w, i32_w]; rfl
  refine one_ (i := 4) (N := some 8) #[tT,tT,tT,tT,tT] rfl rfl (by kernel_rfl) (by decide) (fun K hK => ?_)
  refine goes_ Try.func38 (by kernel_rfl) rfl #[.pointer (some ⟨b, 0, none⟩), .agg x.ag] (by rfl) rfl rfl (by simp only [List.map_toArray, List.map_cons, List.map_nil]; rfl) ?_
  with_reducible refine (HLAY.out _ HQc.out).mono ?_
  rintro e1 w31 ⟨rfl, hpl, hgr⟩
  refine ⟨_, rfl, ?_⟩
  have HPL := Aside0.mk hpl
  have HGR := Aside0.mk hgr
  have HPG := Aside0.mk (HP2.out.below_but HQc.out hgr HNE.out)
  clear hpl hgr
  refine hK.out _ _ (HPG.out) (fun hHeld => ?_)
  clear hK K
  refine norm_ (a' := ?_) ?_ ?_
  rotate_left
  · show Act.put _ (some 8) _ = _
    simp only [Act.put, q_a, q_0, q_s, i64_w, i32_w]
    rfl
  refine done_ (by kernel_rfl) ?_
  go_upto_region 2 with fail
  refine wp_w (fun W => PlaneAt W b x true near wv ∧ PoolAt W g x ∧ Grw b w W) ?_ ?_
  · exact ⟨HPL.out, HPG.out, (Grw.of_below HB2.out).trans ((Grw.of_below HQc.out).trans HGR.out)⟩
  intro w5 h5
  have HP5 := Aside0.mk h5.1
  have HG5 := Aside0.mk h5.2.1
  have HR5 := Aside0.mk h5.2.2
  clear h5
  go_wp2_with (first
    | ((with_reducible refine gate_dst (N := 10) rfl ?_); refine pool_load rfl rfl rfl HG5.out HL.out ?_)
    | (go_at_call 39; go_loud ((with_reducible refine (HMK.out _).mono ?_); rintro e2 x2 ⟨A, c, rfl, hr, hx2⟩; have HX2 := Aside0.mk hx2; have HWR := Aside0.mk hr; have HP6 := Aside0.mk (HP5.out.below hx2); have t0 := HP6.out.c_w; have u0 := fr_ HP6.out.2.2 459; clear hr hx2)))
  go_end0
  refine ⟨rfl, A, c, HP6.out.setw _, ?_, HR5.out.trans ((Grw.of_below HX2.out).trans (Grw.of_chg ((Chg.refl b _).set _ _)))⟩
  have h1 := Kd.R_bound HWR.out
  have h2 := Kd.R_far (p := ⟨b, 459, none⟩) h1 (fun k hk => by
    have := hk.2.1
    have := HR5.out.size
    have := HBL.out
    show k ≠ b
    omega) (.slice A 127 c)
  exact Kd.R_lower (Kd.R_mono h2 (fun _ _ => trivial)) HR5.out.size
theorem c15 {w : World} {g t : Nat} {a0 a1 a2 a3 a4 a5 a6 a7 a8 a9 a10 a11 a12 a13 a14 : Value} (h : w.heap[g]? = some (.cells #[a0, a1, a2, a3, a4, a5, a6, a7, a8, a9, a10, a11, a12, a13, a14] t (0, 0))) :
    w.cell? ⟨g, 0, none⟩ = some a0 ∧ w.cell? ⟨g, 1, none⟩ = some a1 ∧ w.cell? ⟨g, 2, none⟩ = some a2 ∧ w.cell? ⟨g, 3, none⟩ = some a3 ∧ w.cell? ⟨g, 4, none⟩ = some a4 ∧ w.cell? ⟨g, 5, none⟩ = some a5 ∧ w.cell? ⟨g, 6, none⟩ = some a6 ∧ w.cell? ⟨g, 7, none⟩ = some a7 ∧ w.cell? ⟨g, 8, none⟩ = some a8 ∧
    w.cell? ⟨g, 9, none⟩ = some a9 ∧ w.cell? ⟨g, 10, none⟩ = some a10 ∧ w.cell? ⟨g, 11, none⟩ = some a11 ∧ w.cell? ⟨g, 12, none⟩ = some a12 ∧ w.cell? ⟨g, 13, none⟩ = some a13 ∧ w.cell? ⟨g, 14, none⟩ = some a14 := by
  simp [World.cell?, h]
theorem info48 : (Try.prog.info? 48).map (·.size) = some 4 := by kernel_rfl
set_option maxHeartbeats 4000000 in
set_option maxRecDepth 100000 in
theorem drop_calls (e : Int) (w : World) : Calls Try.prog 40 #[.int .i64 e] w fun e' w' => e' = .returned (.agg #[.int .i64 e, .int .i64 (-1), .bool false, .slice none 0 0]) ∧ Below w.heap.size w w' := by
  obtain ⟨g, HG⟩ : ∃ g, w.heap.size = g := ⟨_, rfl⟩
  have hu48 := Try.underlying48
  go_enter Try.func40, Try.ntmps40
  go_upto_region 1 with fail
  refine wp_w (fun W => W.heap[g]? = some (.cells #[.int .i64 0, .int .i64 0, .bool false, .slice none 0 0] 48 (0, 0)) ∧ Below w.heap.size w W) ?_ ?_
  · exact ⟨(box_at w HG _).1, (box_at w HG _).2.1⟩
  intro w1 h1
  have HB1 := Aside0.mk h1.2
  have HK1 := Aside0.mk h1.1
  obtain ⟨j0, j1, j2, j3⟩ := c4 h1.1
  have u0 := fr_ h1.1 0
  have u1 := fr_ h1.1 1
  have u2 := fr_ h1.1 2
  have u3 := fr_ h1.1 3
  clear h1
  go_wp2
  refine bodyPost_ret (results_cell_row rfl _ _ g 48 #[.int .i64 e, .int .i64 (-1), .bool false, .slice none 0 0] (0, 0) _ rfl (heap_setCell_same _ g 3 _ 48 _ (heap_setCell_same _ g 2 _ 48 _ (heap_setCell_same _ g 1 _ 48 _ (heap_setCell_same _ g 0 _ 48 _ HK1.out)))) Try.underlying48 rfl info48) rfl ⟨rfl, ?_⟩
  have hle : w.heap.size ≤ g := by omega
  exact below_set (below_set (below_set (below_set HB1.out hle) hle) hle) hle
set_option maxHeartbeats 4000000 in
set_option maxRecDepth 100000 in
theorem carried0_calls (pl pp frm dst fp tp fl code : Int) (bare : Bool) (op da bs : Value) {k b : Nat} {x : Po} {near : List Value} {wv : Value} (f : Fl) {w : World} (hk : w.heap[k]? = some (.cells #[.int .i64 2, .int .i64 pl, .int .i64 pp, .int .i64 frm, .int .i64 dst, .int .i64 fp, .int .i64 tp, .int .i64 fl, .int .i64 0, .bool bare, .int .i64 code, op, da, .pointer (some ⟨b, 0, none⟩), bs] 101 (0, 0))) (hP : PlaneAt w b x true near wv) :
    Calls Try.prog 85 #[.pointer (some ⟨k, 0, none⟩), .agg #[.int .i64 f.ad, .int .i64 f.po, .int .i64 f.tad, .int .i64 f.tpo]] w fun e w' => e = .returned (.tuple #[.int .i64 0, .bool false]) ∧ Below w.heap.size w w' := by
  have HK := Aside0.mk hk
  have HP := Aside0.mk hP
  obtain ⟨f0, f1, f2, f3⟩ := f
  clear hk hP
  obtain ⟨g, HG⟩ : ∃ g, w.heap.size = g := ⟨_, rfl⟩
  go_enter Try.func85, Try.ntmps85
  go_upto_region 1 with fail
  refine wp_w (fun W => Below w.heap.size w W) ?_ ?_
  · exact (box_at w HG _).2.1
  intro w1 h1
  have HB1 := Aside0.mk h1
  have HK1 := Aside0.mk (bk_ HK.out h1)
  obtain ⟨k0, k1, k2, k3, k4, k5, k6, k7, k8, k9, k10, k11, k12, k13, k14⟩ := c15 HK1.out
  obtain ⟨r0, r1, r2, r3, r4, r5, r6⟩ := (HP.out.below h1).ring
  clear h1
  go_upto_region 2 with fail
  refine wp_w (fun W => Below w1.heap.size w1 W) ?_ ?_
  · exact below_alloc (Below.refl _ w1) _
  intro w2 h2
  have HB2 := Aside0.mk h2
  obtain ⟨k0, k1, k2, k3, k4, k5, k6, k7, k8, k9, k10, k11, k12, k13, k14⟩ := c15 (bk_ HK1.out h2)
  clear h2
  go_wp2
  go_ret2
  exact ⟨rfl, by first | exact below_step HB1.out HB2.out | (rw [← HG]; exact below_step HB1.out HB2.out)⟩
theorem plane_load {ops : Array Oper} {rest : List Oper} {o : Oper} {a : Act} {Q : Exit → Act → World → Prop} {W : World} {x : Operand} {b : Nat} {p : Po} {is : Bool} {near : List Value} {wv : Value} (hgd : o.guard = none) (ho : o.op = .load 34 x) (hx : a.eval x = .pointer (some ⟨b, 0, none⟩)) (hP : PlaneAt W b p is near wv) (h : wpList Try.prog ops Q rest (a.put o.dst (.agg p.ag)) W) : wpList Try.prog ops Q (o :: rest) a W :=
  wpList_load_mid hgd 34 x ho b 0 hx p.cs _ hP.range Try.underlying34 rfl (by rw [info34, Po.cs_len p hP.2.1]) h
set_option maxHeartbeats 4000000 in
set_option maxRecDepth 100000 in
theorem in0_calls (pl pp frm dst fp tp fl code : Int) (bare : Bool) (op da bs : Value) {k b : Nat} {x : Po} {near : List Value} {A : Option Addr} {c : Nat} {w : World} (hk : w.heap[k]? = some (.cells #[.int .i64 2, .int .i64 pl, .int .i64 pp, .int .i64 frm, .int .i64 dst, .int .i64 fp, .int .i64 tp, .int .i64 fl, .int .i64 0, .bool bare, .int .i64 code, op, da, .pointer (some ⟨b, 0, none⟩), bs] 101 (0, 0))) (hP : PlaneAt w b x true near (.slice A 127 c)) (hw : Kd.C (Kd.int .i64) w A 127 (List.replicate 127 (-1))) (hc : 127 ≤ c) :
    Calls Try.prog 44 #[.pointer (some ⟨k, 0, none⟩)] w fun e w' => e = .returned (.agg #[.int .i64 9, .int .i64 (-1), .bool false, .slice none 0 0]) ∧ Below w.heap.size w w' := by
  have HK := Aside0.mk hk
  have HP := Aside0.mk hP
  have HW := Aside0.mk hw
  have HC := Aside0.mk hc
  have HL := Aside0.mk hP.2.1
  clear hk hP hw hc
  obtain ⟨g, HG⟩ : ∃ g, w.heap.size = g := ⟨_, rfl⟩
  go_enter Try.func44, Try.ntmps44
  go_upto_region 1 with fail
  refine wp_w (fun W => W.heap[g]? = some (.cells #[.int .i64 0, .int .i64 0, .bool false, .slice none 0 0] 48 (0, 0)) ∧ Below w.heap.size w W) ?_ ?_
  · exact ⟨(box_at w HG _).1, (box_at w HG _).2.1⟩
  intro w1 h1
  have HR1 := Aside0.mk h1.1
  have HB1 := Aside0.mk h1.2
  have HK1 := Aside0.mk (bk_ HK.out h1.2)
  have HP1 := Aside0.mk (HP.out.below h1.2)
  obtain ⟨k0, k1, k2, k3, k4, k5, k6, k7, k8, k9, k10, k11, k12, k13, k14⟩ := c15 HK1.out
  clear h1
  go_upto_region 2 with (first
    | ((with_reducible refine gate_dst (N := 22) rfl ?_); go_loud (refine plane_load rfl rfl rfl HP1.out ?_))
    | ((with_reducible refine gate_dst (N := 3) rfl ?_); refine pool_alloc rfl rfl ?_; intro g3 hg3 w3 hp3 hb3 hs3; have HP3 := Aside0.mk hp3; have HB3 := Aside0.mk hb3; have HG3 := Aside0.mk hg3; clear hp3 hb3 hs3 hg3)
    | ((with_reducible refine gate_store (t := 34) (p := 3) rfl ?_); refine pool_store (q := x) rfl rfl rfl rfl rfl HP3.out Po.z_len HL.out ?_; intro w4 hp4 hc4; have HP4 := Aside0.mk hp4; have HC4 := Aside0.mk hc4; clear hp4 hc4))
  refine wp_w (fun W => PoolAt W g3 x ∧ Below w1.heap.size w1 W) ?_ ?_
  · exact ⟨HP4.out, Chg.step HB3.out HC4.out (Nat.le_of_eq HG3.out)⟩
  intro w5 h5
  have HP5 := Aside0.mk h5.1
  have HB5 := Aside0.mk h5.2
  obtain ⟨k0, k1, k2, k3, k4, k5, k6, k7, k8, k9, k10, k11, k12, k13, k14⟩ := c15 (bk_ HK1.out h5.2)
  obtain ⟨h0, h1, h2⟩ := HP5.out.head
  have hk0 := blk_lt (bk_ HK1.out h5.2)
  have hg0 := blk_lt h5.1
  obtain ⟨g4, hg4⟩ : ∃ n, w5.heap.size = n := ⟨_, rfl⟩
  have hg4d : w5.drew.heap.size = g4 := hg4
  clear h5
  go_upto_region 2 with fail
  refine start_ (n := 17) (S := fun w' => w'.cell? ⟨k, 3, none⟩ = some (.int .i64 frm) ∧ w'.cell? ⟨k, 5, none⟩ = some (.int .i64 fp) ∧ w'.cell? ⟨g3, 1, none⟩ = some (.int .i64 x.ad) ∧ w'.cell? ⟨g3, 2, none⟩ = some (.int .i64 x.po)) (ds := [16]) #[fF,fF,fF,fF,fF,fF,fF,fF,fF,fF,fF,fF,fF,fF,fF,fF,fF] (by kernel_rfl) rfl rfl ⟨k3, k5, h1, h2⟩ (fun hHeld => ?_)
  refine pure_ (i := 0) (N := some 23) (v := ?_) (a' := ?_) #[tT,fF,fF,fF,fF,fF,fF,fF,fF,fF,fF,fF,fF,fF,fF,fF,fF] rfl rfl (by kernel_rfl) (fun _ _ _ h => h) (Or.inl ⟨by rfl, ?_⟩) ?_ ?_
  rotate_left; · intro w'; go_simp; with_reducible rfl
  rotate_left; · simp only [Act.put, q_a, q_0, q_s, i64_w, i32_w]; rfl
  refine pure_ (i := 1) (N := some 24) (v := ?_) (a' := ?_) #[tT,tT,fF,fF,fF,fF,fF,fF,fF,fF,fF,fF,fF,fF,fF,fF,fF] rfl rfl (by kernel_rfl) (fun _ _ _ h => h) (Or.inl ⟨by rfl, ?_⟩) ?_ ?_
  rotate_left; · intro w'; go_simp; with_reducible rfl
  rotate_left; · simp only [Act.put, q_a, q_0, q_s, i64_w, i32_w]; rfl
  refine pure_ (i := 2) (N := some 25) (v := ?_) (a' := ?_) #[tT,tT,tT,fF,fF,fF,fF,fF,fF,fF,fF,fF,fF,fF,fF,fF,fF] rfl rfl (by kernel_rfl) (fun _ _ _ h => h) (Or.inl ⟨by rfl, ?_⟩) ?_ ?_
  rotate_left; · intro w'; go_simp; with_reducible rfl
  rotate_left; · simp only [Act.put, q_a, q_0, q_s, i64_w, i32_w]; rfl
  refine pure_ (i := 3) (N := some 26) (v := ?_) (a' := ?_) #[tT,tT,tT,tT,fF,fF,fF,fF,fF,fF,fF,fF,fF,fF,fF,fF,fF] rfl rfl (by kernel_rfl) (fun _ _ _ h => h) (Or.inl ⟨by rfl, ?_⟩) ?_ ?_
  rotate_left; · intro w'; go_simp; with_reducible rfl
  rotate_left; · simp only [Act.put, q_a, q_0, q_s, i64_w, i32_w]; rfl
  refine pure_ (i := 5) (N := some 28) (v := ?_) (a' := ?_) #[tT,tT,tT,tT,fF,tT,fF,fF,fF,fF,fF,fF,fF,fF,fF,fF,fF] rfl rfl (by kernel_rfl) (fun _ _ _ h => h) (Or.inl ⟨by rfl, ?_⟩) ?_ ?_
  rotate_left; · intro w'; go_simp; with_reducible rfl
  rotate_left; · simp only [Act.put, q_a, q_0, q_s, i64_w, i32_w]; rfl
  refine pure_ (i := 6) (N := some 29) (v := ?_) (a' := ?_) #[tT,tT,tT,tT,fF,tT,tT,fF,fF,fF,fF,fF,fF,fF,fF,fF,fF] rfl rfl (by kernel_rfl) (fun _ _ _ h => h) (Or.inl ⟨by rfl, ?_⟩) ?_ ?_
  rotate_left; · intro w'; go_simp; with_reducible rfl
  rotate_left; · simp only [Act.put, q_a, q_0, q_s, i64_w, i32_w]; rfl
  refine pure_ (i := 7) (N := some 30) (v := ?_) (a' := ?_) #[tT,tT,tT,tT,fF,tT,tT,tT,fF,fF,fF,fF,fF,fF,fF,fF,fF] rfl rfl (by kernel_rfl) (fun _ _ _ h => h) (Or.inl ⟨by rfl, ?_⟩) ?_ ?_
  rotate_left; · intro w'; go_simp; with_reducible rfl
  rotate_left; · simp only [Act.put, q_a, q_0, q_s, i64_w, i32_w]; rfl
  refine pure_ (i := 8) (N := some 31) (v := ?_) (a' := ?_) #[tT,tT,tT,tT,fF,tT,tT,tT,tT,fF,fF,fF,fF,fF,fF,fF,fF] rfl rfl (by kernel_rfl) (fun _ _ _ h => h) (Or.inl ⟨by rfl, ?_⟩) ?_ ?_
  rotate_left; · intro w'; go_simp; with_reducible rfl
  rotate_left; · simp only [Act.put, q_a, q_0, q_s, i64_w, i32_w]; rfl
  refine pure_ (i := 10) (N := some 33) (v := ?_) (a' := ?_) #[tT,tT,tT,tT,fF,tT,tT,tT,tT,fF,tT,fF,fF,fF,fF,fF,fF] rfl rfl (by kernel_rfl) (fun _ _ _ h => h) (Or.inl ⟨by rfl, ?_⟩) ?_ ?_
  rotate_left; · intro w'; go_simp; with_reducible rfl
  rotate_left; · simp only [Act.put, q_a, q_0, q_s, i64_w, i32_w]; rfl
  refine pure_ (i := 12) (N := some 35) (v := ?_) (a' := ?_) #[tT,tT,tT,tT,fF,tT,tT,tT,tT,fF,tT,fF,tT,fF,fF,fF,fF] rfl rfl (by kernel_rfl) (fun _ _ _ h => h) (Or.inl ⟨by rfl, ?_⟩) ?_ ?_
  rotate_left; · intro w'; go_simp; with_reducible rfl
  rotate_left; · simp only [Act.put, q_a, q_0, q_s, i64_w, i32_w]; rfl
  refine take_ (i := 4) (N := some 27) (v := ?_) (a' := ?_) #[tT,tT,tT,tT,tT,tT,tT,tT,tT,fF,tT,fF,tT,fF,fF,fF,fF] rfl rfl (by kernel_rfl) (fun _ _ _ h => h) (Or.inl ⟨by rfl, ?_⟩) hHeld ?_ ?_
  rotate_left
  · rintro w' ⟨s0, s1, s2, s3⟩
    go_simp
    with_reducible rfl
  rotate_left; · simp only [Act.put, q_a, q_0, q_s, i64_w, i32_w]; rfl
  refine take_ (i := 9) (N := some 32) (v := ?_) (a' := ?_) #[tT,tT,tT,tT,tT,tT,tT,tT,tT,tT,tT,fF,tT,fF,fF,fF,fF] rfl rfl (by kernel_rfl) (fun _ _ _ h => h) (Or.inl ⟨by rfl, ?_⟩) hHeld ?_ ?_
  rotate_left
  · rintro w' ⟨s0, s1, s2, s3⟩
    go_simp
    with_reducible rfl
  rotate_left; · simp only [Act.put, q_a, q_0, q_s, i64_w, i32_w]; rfl
  refine take_ (i := 11) (N := some 34) (v := ?_) (a' := ?_) #[tT,tT,tT,tT,tT,tT,tT,tT,tT,tT,tT,tT,tT,fF,fF,fF,fF] rfl rfl (by kernel_rfl) (fun _ _ _ h => h) (Or.inl ⟨by rfl, ?_⟩) hHeld ?_ ?_
  rotate_left
  · rintro w' ⟨s0, s1, s2, s3⟩
    go_simp
    with_reducible rfl
  rotate_left; · simp only [Act.put, q_a, q_0, q_s, i64_w, i32_w]; rfl
  refine take_ (i := 13) (N := some 36) (v := ?_) (a' := ?_) #[tT,tT,tT,tT,tT,tT,tT,tT,tT,tT,tT,tT,tT,tT,fF,fF,fF] rfl rfl (by kernel_rfl) (fun _ _ _ h => h) (Or.inl ⟨by rfl, ?_⟩) hHeld ?_ ?_
  rotate_left
  · rintro w' ⟨s0, s1, s2, s3⟩
    go_simp
    with_reducible rfl
  rotate_left; · simp only [Act.put, q_a, q_0, q_s, i64_w, i32_w]; rfl
  refine pure_ (i := 14) (N := some 37) (v := ?_) (a' := ?_) #[tT,tT,tT,tT,tT,tT,tT,tT,tT,tT,tT,tT,tT,tT,tT,fF,fF] rfl rfl (by kernel_rfl) (fun _ _ _ h => h) (Or.inl ⟨by rfl, ?_⟩) ?_ ?_
  rotate_left; · intro w'; go_simp; with_reducible rfl
  rotate_left; · simp only [Act.put, q_a, q_0, q_s, i64_w, i32_w]; rfl
  refine one_ (i := 15) (N := some 4) #[tT,tT,tT,tT,tT,tT,tT,tT,tT,tT,tT,tT,tT,tT,tT,tT,fF] rfl rfl (by kernel_rfl) (by decide) (fun K hK => ?_)
  refine value_ (w1 := ?_) (v := ?_) (by rfl) rfl ?_ ?_
  rotate_left 2
  · go_simp
    constructor
    · rfl
    · rfl
  refine hK.out _ _ ⟨((World.cell?_alloc_lt w5 _ _ hk0).trans k3), ((World.cell?_alloc_lt w5 _ _ hk0).trans k5), ((World.cell?_alloc_lt w5 _ _ hg0).trans h1), ((World.cell?_alloc_lt w5 _ _ hg0).trans h2)⟩ (fun hHeld => ?_)
  clear hK K
  refine norm_ (a' := ?_) ?_ ?_
  rotate_left
  · show Act.put _ (some 4) _ = _
    simp only [Act.put, q_a, q_0, q_s, i64_w, i32_w]
    rfl
  refine last_ (i := 16) (N := none) #[tT,tT,tT,tT,tT,tT,tT,tT,tT,tT,tT,tT,tT,tT,tT,tT,tT] rfl rfl (by kernel_rfl) (by decide) (fun K hK => ?_)
  refine skip_ (w1 := ?_) (by rfl) rfl ?_ ?_
  rotate_left
  · go_simp
    rfl
  refine hK.out _ _ ?_
  clear hK K
  refine done_ (by kernel_rfl) ?_
  go_upto_region 3 with fail
  refine wp_w (fun W => W.heap[g4]? = some (.cells #[.int .i64 frm, .int .i64 fp, .int .i64 x.ad, .int .i64 x.po] 60 (0, 0)) ∧ Below w5.heap.size w5 W) ?_ ?_
  · first
      | exact ⟨by rw [← hg4]; exact new_blk w5 _, below_alloc (Below.refl _ w5) _⟩
      | exact ⟨by rw [← hg4]; exact new_blk w5.drew _, below_alloc (Below.refl _ w5).drew _⟩
  intro w6 h6
  have HF6 := Aside0.mk h6.1
  have HB6 := Aside0.mk h6.2
  obtain ⟨j0, j1, j2, j3⟩ := c4 h6.1
  have HCA := Aside0.mk (fun W (hW : Below w6.heap.size w6 W) => carried0_calls pl pp frm dst fp tp fl code bare op da bs (k := k) (b := b) (w := W) ⟨frm, fp, x.ad, x.po⟩ (bk_ (bk_ (bk_ HK1.out HB5.out) HB6.out) hW) (((HP1.out.below HB5.out).below HB6.out).below hW))
  clear h6 hg4 hg4d hk0 hg0
  go_upto_region 6 with (first | (go_at_call 85; go_loud ((with_reducible refine (HCA.out _ ?hb).mono ?_); (case hb => (repeat (first | with_reducible exact Below.refl _ _ | with_reducible apply pw_below_drewN | with_reducible apply below_drew1))); rintro e1 x1 ⟨rfl, hx⟩; have HX1 := Aside0.mk hx; clear hx)))
  refine wp_w (fun W => Below w6.heap.size w6 W) ?_ ?_
  · exact HX1.out
  intro w7 h7
  have HB7 := Aside0.mk h7
  have HF7 := Aside0.mk (bk_ HF6.out h7)
  have HK7 := Aside0.mk (bk_ (bk_ (bk_ HK1.out HB5.out) HB6.out) h7)
  have HP7 := Aside0.mk (((HP1.out.below HB5.out).below HB6.out).below h7)
  have HBA := Aside0.mk (below_step (below_step (below_step HB1.out HB5.out) HB6.out) h7)
  have HRM := Aside0.mk (show rd (List.replicate 127 (-1)) (spunL 127 [3, frm, fp, x.ad, x.po]) = -1 from by
    have h := spun_b 127 [3, frm, fp, x.ad, x.po] (by decide) (by decide)
    obtain ⟨i, hi⟩ := Int.eq_ofNat_of_zero_le h.1
    rw [hi, rd_nat, List.getD_eq_getElem?_getD, List.getElem?_replicate, if_pos (by omega)]; rfl)
  have HPK := Aside0.mk (fun W (hW : Below w7.heap.size w7 W) => show Calls Try.prog 82 #[.slice A 127 c, .agg #[.int .i64 frm, .int .i64 fp, .int .i64 x.ad, .int .i64 x.po]] W fun e w' => e = .returned (.int .i64 (-1)) ∧ Below W.heap.size W w' from by
    have h := pick_calls ⟨frm, fp, x.ad, x.po⟩ (w := W) (Kd.C_below HW.out (below_step HBA.out hW)) (by simp) HC.out rfl
    simp only at h
    rw [HRM.out] at h
    exact h)
  have FK := Aside0.mk (fun W (hW : Below w7.heap.size w7 W) => (c15 (bk_ HK7.out hW)).2.2.2.2.2.2.2.2.2.2.2.2.2.1)
  have FB := Aside0.mk (fun W (hW : Below w7.heap.size w7 W) => (HP7.out.below hW).c_w)
  have FF := Aside0.mk (fun W (hW : Below w7.heap.size w7 W) => c4 (bk_ HF7.out hW))
  have k13 := FK.out _ (Below.refl _ w7)
  have b459 := FB.out _ (Below.refl _ w7)
  obtain ⟨j0, j1, j2, j3⟩ := FF.out _ (Below.refl _ w7)
  clear h7
  refine start_ (n := 10) (S := fun w' => w'.cell? ⟨k, 13, none⟩ = some (.pointer (some ⟨b, 0, none⟩)) ∧ w'.cell? ⟨b, 459, none⟩ = some (.slice A 127 c) ∧ w'.cell? ⟨g4, 0, none⟩ = some (.int .i64 frm) ∧ w'.cell? ⟨g4, 1, none⟩ = some (.int .i64 fp) ∧ w'.cell? ⟨g4, 2, none⟩ = some (.int .i64 x.ad) ∧ w'.cell? ⟨g4, 3, none⟩ = some (.int .i64 x.po)) (ds := []) #[fF,fF,fF,fF,fF,fF,fF,fF,fF,fF] (by kernel_rfl) rfl rfl ⟨k13, b459, j0, j1, j2, j3⟩ (fun hHeld => ?_)
  refine pure_ (i := 0) (N := some 54) (v := ?_) (a' := ?_) #[tT,fF,fF,fF,fF,fF,fF,fF,fF,fF] rfl rfl (by kernel_rfl) (fun _ _ _ h => h) (Or.inl ⟨by rfl, ?_⟩) ?_ ?_
  rotate_left; · intro w'; go_simp; with_reducible rfl
  rotate_left; · simp only [Act.put, q_a, q_0, q_s, i64_w, i32_w]; rfl
  refine pure_ (i := 1) (N := some 55) (v := ?_) (a' := ?_) #[tT,tT,fF,fF,fF,fF,fF,fF,fF,fF] rfl rfl (by kernel_rfl) (fun _ _ _ h => h) (Or.inl ⟨by rfl, ?_⟩) ?_ ?_
  rotate_left; · intro w'; go_simp; with_reducible rfl
  rotate_left; · simp only [Act.put, q_a, q_0, q_s, i64_w, i32_w]; rfl
  refine pure_ (i := 2) (N := some 56) (v := ?_) (a' := ?_) #[tT,tT,tT,fF,fF,fF,fF,fF,fF,fF] rfl rfl (by kernel_rfl) (fun _ _ _ h => h) (Or.inl ⟨by rfl, ?_⟩) ?_ ?_
  rotate_left; · intro w'; go_simp; with_reducible rfl
  rotate_left; · simp only [Act.put, q_a, q_0, q_s, i64_w, i32_w]; rfl
  refine take_ (i := 3) (N := some 57) (v := ?_) (a' := ?_) #[tT,tT,tT,tT,fF,fF,fF,fF,fF,fF] rfl rfl (by kernel_rfl) (fun _ _ _ h => h) (Or.inl ⟨by rfl, ?_⟩) hHeld ?_ ?_
  rotate_left
  · rintro w' ⟨s0, s1, s2, s3, s4, s5⟩
    go_simp
    with_reducible rfl
  rotate_left; · simp only [Act.put, q_a, q_0, q_s, i64_w, i32_w]; rfl
  refine pure_ (i := 4) (N := some 58) (v := ?_) (a' := ?_) #[tT,tT,tT,tT,tT,fF,fF,fF,fF,fF] rfl rfl (by kernel_rfl) (fun _ _ _ h => h) (Or.inl ⟨by rfl, ?_⟩) ?_ ?_
  rotate_left; · intro w'; go_simp; with_reducible rfl
  rotate_left; · simp only [Act.put, q_a, q_0, q_s, i64_w, i32_w]; rfl
  refine pure_ (i := 5) (N := some 59) (v := ?_) (a' := ?_) #[tT,tT,tT,tT,tT,tT,fF,fF,fF,fF] rfl rfl (by kernel_rfl) (fun _ _ _ h => h) (Or.inl ⟨by rfl, ?_⟩) ?_ ?_
  rotate_left; · intro w'; go_simp; with_reducible rfl
  rotate_left; · simp only [Act.put, q_a, q_0, q_s, i64_w, i32_w]; rfl
  refine take_ (i := 6) (N := some 60) (v := ?_) (a' := ?_) #[tT,tT,tT,tT,tT,tT,tT,fF,fF,fF] rfl rfl (by kernel_rfl) (fun _ _ _ h => h) (Or.inl ⟨by rfl, ?_⟩) hHeld ?_ ?_
  rotate_left
  · rintro w' ⟨s0, s1, s2, s3, s4, s5⟩
    go_simp
    with_reducible rfl
  rotate_left; · simp only [Act.put, q_a, q_0, q_s, i64_w, i32_w]; rfl
  refine take_ (i := 7) (N := some 61) (v := ?_) (a' := ?_) #[tT,tT,tT,tT,tT,tT,tT,tT,fF,fF] rfl rfl (by kernel_rfl) (fun _ _ _ h => h) (Or.inl ⟨by rfl, ?_⟩) hHeld ?_ ?_
  rotate_left
  · rintro w' ⟨s0, s1, s2, s3, s4, s5⟩
    go_simp
    with_reducible rfl
  rotate_left; · simp only [Act.put, q_a, q_0, q_s, i64_w, i32_w]; rfl
  refine one_ (i := 8) (N := some 62) #[tT,tT,tT,tT,tT,tT,tT,tT,tT,fF] rfl rfl (by kernel_rfl) (by decide) (fun K hK => ?_)
  refine goes_ Try.func82 (by kernel_rfl) rfl #[.slice A 127 c, .agg #[.int .i64 frm, .int .i64 fp, .int .i64 x.ad, .int .i64 x.po]] (by rfl) rfl rfl (by simp only [List.map_toArray, List.map_cons, List.map_nil]; rfl) ?_
  with_reducible refine (HPK.out _ (Below.refl _ w7).drew).mono ?_
  rintro e2 w31 ⟨rfl, hx⟩
  refine ⟨_, rfl, ?_⟩
  have HX6 := Aside0.mk (below_step (Below.refl _ w7).drew hx)
  clear hx
  refine hK.out _ _ ⟨(FK.out _ HX6.out), (FB.out _ HX6.out), (FF.out _ HX6.out).1, (FF.out _ HX6.out).2.1, (FF.out _ HX6.out).2.2.1, (FF.out _ HX6.out).2.2.2⟩ (fun hHeld => ?_)
  clear hK K
  refine norm_ (a' := ?_) ?_ ?_
  rotate_left
  · show Act.put _ (some 62) _ = _
    simp only [Act.put, q_a, q_0, q_s, i64_w, i32_w]
    rfl
  refine pure_ (i := 9) (N := some 5) (v := ?_) (a' := ?_) #[tT,tT,tT,tT,tT,tT,tT,tT,tT,tT] rfl rfl (by kernel_rfl) (fun _ _ _ h => h) (Or.inl ⟨by rfl, ?_⟩) ?_ ?_
  rotate_left; · intro w'; go_simp; with_reducible rfl
  rotate_left; · simp only [Act.put, q_a, q_0, q_s, i64_w, i32_w]; rfl
  refine done_ (by kernel_rfl) ?_
  have HDR := Aside0.mk (fun W => drop_calls 9 W)
  have HR6 := Aside0.mk (bk_ (bk_ (bk_ HR1.out HB5.out) HB6.out) HB7.out)
  go_wp2_with (first
    | (go_at_call 40; go_loud ((with_reducible refine (HDR.out _).mono ?_); rintro e3 x3 ⟨rfl, hx⟩; have HR8 := Aside0.mk (bk_ (bk_ HR6.out HX6.out) hx); have HB8 := Aside0.mk (below_step HX6.out hx); obtain ⟨t0, t1, t2, t3⟩ := c4 HR8.out; have u0 := fr_ HR8.out 0; have u1 := fr_ HR8.out 1; have u2 := fr_ HR8.out 2; have u3 := fr_ HR8.out 3; clear hx)))
  refine bodyPost_ret (results_cell_row rfl _ _ g 48 #[.int .i64 9, .int .i64 (-1), .bool false, .slice none 0 0] (0, 0) _ rfl (heap_setCell_same _ g 3 _ 48 _ (heap_setCell_same _ g 2 _ 48 _ (heap_setCell_same _ g 1 _ 48 _ (heap_setCell_same _ g 0 _ 48 _ HR8.out)))) Try.underlying48 rfl info48) rfl ⟨rfl, ?_⟩
  have hle : w.heap.size ≤ g := by omega
  exact below_set (below_set (below_set (below_set (below_step HBA.out HB8.out) hle) hle) hle) hle
set_option maxHeartbeats 4000000 in
set_option maxRecDepth 100000 in
theorem then_calls {a0 a1 a2 a3 a4 a5 a6 a7 a8 a9 a10 a11 a12 a13 a14 : Value} {k : Nat} (A : Option Addr) (n c : Nat) (e : Int) {w : World} (hk : w.heap[k]? = some (.cells #[a0, a1, a2, a3, a4, a5, a6, a7, a8, a9, a10, a11, a12, a13, a14] 101 (0, 0))) :
    Calls Try.prog 41 #[.pointer (some ⟨k, 0, none⟩), .slice A n c, .int .i64 e] w fun e' w' => e' = .returned (.tuple #[]) ∧ w'.heap[k]? = some (.cells #[a0, a1, a2, a3, a4, a5, a6, a7, a8, a9, a10, a11, a12, a13, if e = 0 then .slice A n c else a14] 101 (0, 0)) ∧ Chg k w w' := by
  have HK := Aside0.mk hk
  obtain ⟨k0, k1, k2, k3, k4, k5, k6, k7, k8, k9, k10, k11, k12, k13, k14⟩ := c15 hk
  have u14 := fr_ hk 14
  clear hk
  by_cases he : e = 0
  · have hb : (e == 0) = true := beq_iff_eq.mpr he
    rw [if_pos he]
    clear he
    go_enter Try.func41, Try.ntmps41
    go_wp2
    go_end0
    exact ⟨rfl, heap_setCell_same w k 14 _ 101 _ HK.out, (Chg.refl k w).set _ _⟩
  · have hb : (e == 0) = false := beq_eq_false_iff_ne.mpr he
    rw [if_neg he]
    clear he
    go_enter Try.func41, Try.ntmps41
    go_wp2
    go_end0
    exact ⟨rfl, HK.out, Chg.refl k w⟩
set_option maxHeartbeats 4000000 in
set_option maxRecDepth 100000 in
theorem take0_calls {b : Nat} {x : Po} {near : List Value} {A : Option Addr} {c : Nat} {w : World} (hP : PlaneAt w b x true near (.slice A 127 c)) (hw : Kd.C (Kd.int .i64) w A 127 (List.replicate 127 (-1))) (hc : 127 ≤ c)
    {Ab : Option Addr} {cb n : Nat} {l : List Int} (hb : Rw w Ab cb l) (hn : l.length = n) (hl : l.length ≤ 10000) (hby : Bytes l) (pl frm fp fl code : Int) (bare : Bool) (op da : List Int) (hpl : 2 ≤ pl) (hr : parseL l = (⟨2, pl, 0, frm, x.ad, fp, x.po, fl, 0, bare, code, op, da⟩, 0)) :
    Calls Try.prog 14 #[.pointer (some ⟨b, 0, none⟩), .slice Ab n cb] w fun e w' => e = .returned (.agg #[.int .i64 9, .int .i64 (-1), .bool false, .slice none 0 0]) ∧ Below w.heap.size w w' := by
  subst hn
  obtain ⟨⟨y, xe⟩, hy⟩ : ∃ r, ageR l = r := ⟨_, rfl⟩
  have HP := Aside0.mk hP
  have HW := Aside0.mk hw
  have HC := Aside0.mk hc
  have HPA0 := Aside0.mk (fun W (hW : Below w.heap.size w W) => parse_at (W0 := W) (hb.below hW) rfl hl hby hr)
  have HAG0 := Aside0.mk (fun W (hW : Below w.heap.size w W) => age_at (W0 := W) (hb.below hW) rfl hl hby hy)
  have hd : decide (pl < 2) = false := decide_eq_false (by omega)
  clear hP hw hc hb hl hby hr hy hpl
  obtain ⟨g, HG⟩ : ∃ g, w.heap.size = g := ⟨_, rfl⟩
  have HLE := Aside0.mk (show w.heap.size ≤ g by omega)
  go_enter Try.func14, Try.ntmps14
  go_upto_region 1 with fail
  refine wp_w (fun W => W.heap[g]? = some (.cells #[.int .i64 0, .int .i64 0, .bool false, .slice none 0 0] 48 (0, 0)) ∧ Below w.heap.size w W) ?_ ?_
  · exact ⟨(box_at w HG _).1, (box_at w HG _).2.1⟩
  intro w1 h1
  have HR1 := Aside0.mk h1.1
  have HB1 := Aside0.mk h1.2
  have b330 := (HP.out.below h1.2).c_is
  have HPA := Aside0.mk (HPA0.out w1 h1.2)
  clear h1 HG
  go_upto_region 4 with (first
    | (go_at_call 15; go_loud ((with_reducible refine (HPA.out _ ?hb).mono ?_); (case hb => first | exact Below.refl _ _ | exact bd (Below.refl _ _) _ | exact (Below.refl _ _).drew); rintro e1 x1 ⟨A1, c1, A2, c2, rfl, ho1, ho2, hsep, hx⟩; have HX1 := Aside0.mk hx; obtain ⟨g5, hg5⟩ : ∃ n, x1.heap.size = n := ⟨_, rfl⟩; clear ho1 ho2 hsep hx)))
  refine wp_w (fun W => W.heap[g5]? = some (.cells #[.int .i64 2, .int .i64 pl, .int .i64 0, .int .i64 frm, .int .i64 x.ad, .int .i64 fp, .int .i64 x.po, .int .i64 fl, .int .i64 0, .bool bare, .int .i64 code, .slice A1 op.length c1, .slice A2 da.length c2] 39 (0, 0)) ∧ Below x1.heap.size x1 W) ?_ ?_
  · exact ⟨by rw [← hg5]; exact new_blk x1 _, below_alloc (Below.refl _ x1) _⟩
  intro w2 h2
  have HK2 := Aside0.mk h2.1
  have HX2 := Aside0.mk (below_step HX1.out h2.2)
  have HL5 := Aside0.mk (show w1.heap.size ≤ g5 from by rw [← hg5]; exact HX1.out.size)
  obtain ⟨k0, k1, k2, k3, k4, k5, k6, k7, k8, k9, k10, k11, k12⟩ := c13 h2.1
  clear h2 b330 hg5
  obtain ⟨g6, hg6⟩ : ∃ n, w2.heap.size = n := ⟨_, rfl⟩
  go_upto_region 11 with fail
  refine wp_w (fun W => W.heap[g6]? = some (.cells #[.int .i64 2, .int .i64 pl, .int .i64 0, .int .i64 frm, .int .i64 x.ad, .int .i64 fp, .int .i64 x.po, .int .i64 fl, .int .i64 0, .bool bare, .int .i64 code, .slice A1 op.length c1, .slice A2 da.length c2, .pointer (some ⟨b, 0, none⟩), .slice Ab l.length cb] 101 (0, 0)) ∧ Below w2.heap.size w2 W) ?_ ?_
  · exact ⟨by rw [← hg6]; exact new_blk w2 _, below_alloc (Below.refl _ w2) _⟩
  intro w3 h3
  have HK3 := Aside0.mk h3.1
  have HX3 := Aside0.mk h3.2
  have HL6 := Aside0.mk (show g5 < g6 from by rw [← hg6]; exact blk_lt HK2.out)
  clear h3 hg6 k0 k1 k2 k3 k4 k5 k6 k7 k8 k9 k10 k11 k12
  have HB3 := Aside0.mk (below_step (below_step HB1.out HX2.out) HX3.out)
  have HAG := Aside0.mk (HAG0.out w3 HB3.out)
  go_upto_region 12 with (first
    | (go_at_call 42; go_loud ((with_reducible refine (HAG.out _ (Below.refl _ _)).mono ?_); rintro e2 x2 ⟨Ay, cy, rfl, hry, hx⟩; have HXY := Aside0.mk hx; clear hry hx; have HKY := Aside0.mk (show x2.heap[g6]? = some (.cells #[.int .i64 2, .int .i64 pl, .int .i64 0, .int .i64 frm, .int .i64 x.ad, .int .i64 fp, .int .i64 x.po, .int .i64 fl, .int .i64 0, .bool bare, .int .i64 code, .slice A1 op.length c1, .slice A2 da.length c2, .pointer (some ⟨b, 0, none⟩), .slice Ab l.length cb] 101 (0, 0)) from bk_ HK3.out HXY.out); have HTH := Aside0.mk (then_calls Ay y.length cy xe HKY.out)))
    | (go_at_call 41; go_loud ((with_reducible refine HTH.out.mono ?_); rintro e3 x3 ⟨rfl, hk, hch⟩; have HK4 := Aside0.mk hk; have HC4 := Aside0.mk hch; clear hk hch)))
  obtain ⟨bs, hbs⟩ : ∃ v, (if xe = 0 then Value.slice Ay y.length cy else Value.slice Ab l.length cb) = v := ⟨_, rfl⟩
  rw [hbs] at HK4
  refine wp_w (fun W => W.heap[g6]? = some (.cells #[.int .i64 2, .int .i64 pl, .int .i64 0, .int .i64 frm, .int .i64 x.ad, .int .i64 fp, .int .i64 x.po, .int .i64 fl, .int .i64 0, .bool bare, .int .i64 code, .slice A1 op.length c1, .slice A2 da.length c2, .pointer (some ⟨b, 0, none⟩), bs] 101 (0, 0)) ∧ W.heap[g5]? = some (.cells #[.int .i64 2, .int .i64 pl, .int .i64 0, .int .i64 frm, .int .i64 x.ad, .int .i64 fp, .int .i64 x.po, .int .i64 fl, .int .i64 0, .bool bare, .int .i64 code, .slice A1 op.length c1, .slice A2 da.length c2] 39 (0, 0)) ∧ PlaneAt W b x true near (.slice A 127 c) ∧ W.heap[g]? = some (.cells #[.int .i64 0, .int .i64 0, .bool false, .slice none 0 0] 48 (0, 0)) ∧ Below w.heap.size w W) ?_ ?_
  · have l5 := HL6.out
    have l6 := HL5.out
    have lg := blk_lt HR1.out
    have lb := blk_lt HP.out.2.2
    have lw := HB1.out.size
    refine ⟨HK4.out, (HC4.out.block _ (by omega)).trans (bk_ (bk_ HK2.out HX3.out) HXY.out), ?_, (HC4.out.block _ (by omega)).trans (bk_ (bk_ (bk_ HR1.out HX2.out) HX3.out) HXY.out), Chg.step (below_step HB3.out HXY.out) HC4.out (by omega)⟩
    have hp := HP.out.below (below_step HB3.out HXY.out)
    exact ⟨hp.1, hp.2.1, (HC4.out.block _ (by omega)).trans hp.2.2⟩
  intro w5 h5
  have HK5 := Aside0.mk h5.1
  have HP5 := Aside0.mk h5.2.2.1
  have HR5 := Aside0.mk h5.2.2.2.1
  have HB5 := Aside0.mk h5.2.2.2.2
  obtain ⟨k0, k1, k2, k3, k4, k5, k6, k7, k8, k9, k10, k11, k12⟩ := c13 h5.2.1
  obtain ⟨b1, b2⟩ := HP5.out.c_ad
  have HIN := Aside0.mk (fun W (hW : Below w5.heap.size w5 W) => in0_calls pl 0 frm x.ad fp x.po fl code bare (.slice A1 op.length c1) (.slice A2 da.length c2) bs (w := W) (bk_ HK5.out hW) (HP5.out.below hW) (Kd.C_below HW.out (below_step HB5.out hW)) HC.out)
  clear h5 HK4 HC4 HXY HKY HTH HAG HPA
  go_upto_region 16 with fail
  refine start_ (n := 20) (S := fun w' => w'.cell? ⟨g5, 4, none⟩ = some (.int .i64 x.ad) ∧ w'.cell? ⟨g5, 6, none⟩ = some (.int .i64 x.po) ∧ w'.cell? ⟨b, 1, none⟩ = some (.int .i64 x.ad) ∧ w'.cell? ⟨b, 2, none⟩ = some (.int .i64 x.po)) (ds := []) #[fF,fF,fF,fF,fF,fF,fF,fF,fF,fF,fF,fF,fF,fF,fF,fF,fF,fF,fF,fF] (by kernel_rfl) rfl rfl ⟨k4, k6, b1, b2⟩ (fun hHeld => ?_)
  refine pure_ (i := 0) (N := some 63) (v := ?_) (a' := ?_) #[tT,fF,fF,fF,fF,fF,fF,fF,fF,fF,fF,fF,fF,fF,fF,fF,fF,fF,fF,fF] rfl rfl (by kernel_rfl) (fun _ _ _ h => h) (Or.inl ⟨by rfl, ?_⟩) ?_ ?_
  rotate_left; · intro w'; go_simp; with_reducible rfl
  rotate_left; · simp only [Act.put, q_a, q_0, q_s, i64_w, i32_w]; rfl
  refine pure_ (i := 2) (N := some 65) (v := ?_) (a' := ?_) #[tT,fF,tT,fF,fF,fF,fF,fF,fF,fF,fF,fF,fF,fF,fF,fF,fF,fF,fF,fF] rfl rfl (by kernel_rfl) (fun _ _ _ h => h) (Or.inl ⟨by rfl, ?_⟩) ?_ ?_
  rotate_left; · intro w'; go_simp; with_reducible rfl
  rotate_left; · simp only [Act.put, q_a, q_0, q_s, i64_w, i32_w]; rfl
  refine pure_ (i := 3) (N := some 66) (v := ?_) (a' := ?_) #[tT,fF,tT,tT,fF,fF,fF,fF,fF,fF,fF,fF,fF,fF,fF,fF,fF,fF,fF,fF] rfl rfl (by kernel_rfl) (fun _ _ _ h => h) (Or.inl ⟨by rfl, ?_⟩) ?_ ?_
  rotate_left; · intro w'; go_simp; with_reducible rfl
  rotate_left; · simp only [Act.put, q_a, q_0, q_s, i64_w, i32_w]; rfl
  refine pure_ (i := 4) (N := some 67) (v := ?_) (a' := ?_) #[tT,fF,tT,tT,tT,fF,fF,fF,fF,fF,fF,fF,fF,fF,fF,fF,fF,fF,fF,fF] rfl rfl (by kernel_rfl) (fun _ _ _ h => h) (Or.inl ⟨by rfl, ?_⟩) ?_ ?_
  rotate_left; · intro w'; go_simp; with_reducible rfl
  rotate_left; · simp only [Act.put, q_a, q_0, q_s, i64_w, i32_w]; rfl
  refine pure_ (i := 5) (N := some 68) (v := ?_) (a' := ?_) #[tT,fF,tT,tT,tT,tT,fF,fF,fF,fF,fF,fF,fF,fF,fF,fF,fF,fF,fF,fF] rfl rfl (by kernel_rfl) (fun _ _ _ h => h) (Or.inl ⟨by rfl, ?_⟩) ?_ ?_
  rotate_left; · intro w'; go_simp; with_reducible rfl
  rotate_left; · simp only [Act.put, q_a, q_0, q_s, i64_w, i32_w]; rfl
  refine pure_ (i := 6) (N := some 69) (v := ?_) (a' := ?_) #[tT,fF,tT,tT,tT,tT,tT,fF,fF,fF,fF,fF,fF,fF,fF,fF,fF,fF,fF,fF] rfl rfl (by kernel_rfl) (fun _ _ _ h => h) (Or.inl ⟨by rfl, ?_⟩) ?_ ?_
  rotate_left; · intro w'; go_simp; with_reducible rfl
  rotate_left; · simp only [Act.put, q_a, q_0, q_s, i64_w, i32_w]; rfl
  refine take_ (i := 1) (N := some 64) (v := ?_) (a' := ?_) #[tT,tT,tT,tT,tT,tT,tT,fF,fF,fF,fF,fF,fF,fF,fF,fF,fF,fF,fF,fF] rfl rfl (by kernel_rfl) (fun _ _ _ h => h) (Or.inl ⟨by rfl, ?_⟩) hHeld ?_ ?_
  rotate_left
  · rintro w' ⟨s0, s1, s2, s3⟩
    go_simp
    with_reducible rfl
  rotate_left; · simp only [Act.put, q_a, q_0, q_s, i64_w, i32_w]; rfl
  refine take_ (i := 7) (N := some 70) (v := ?_) (a' := ?_) #[tT,tT,tT,tT,tT,tT,tT,tT,fF,fF,fF,fF,fF,fF,fF,fF,fF,fF,fF,fF] rfl rfl (by kernel_rfl) (fun _ _ _ h => h) (Or.inl ⟨by rfl, ?_⟩) hHeld ?_ ?_
  rotate_left
  · rintro w' ⟨s0, s1, s2, s3⟩
    go_simp
    with_reducible rfl
  rotate_left; · simp only [Act.put, q_a, q_0, q_s, i64_w, i32_w]; rfl
  refine pure_ (i := 8) (N := some 71) (v := ?_) (a' := ?_) #[tT,tT,tT,tT,tT,tT,tT,tT,tT,fF,fF,fF,fF,fF,fF,fF,fF,fF,fF,fF] rfl rfl (by kernel_rfl) (fun _ _ _ h => h) (Or.inl ⟨by rfl, ?_⟩) ?_ ?_
  rotate_left; · intro w'; go_simp; with_reducible rfl
  rotate_left; · simp only [Act.put, q_a, q_0, q_s, i64_w, i32_w]; rfl
  refine pure_ (i := 9) (N := some 72) (v := ?_) (a' := ?_) #[tT,tT,tT,tT,tT,tT,tT,tT,tT,tT,fF,fF,fF,fF,fF,fF,fF,fF,fF,fF] rfl rfl (by kernel_rfl) (fun _ _ _ h => h) (Or.inl ⟨by rfl, ?_⟩) ?_ ?_
  rotate_left; · intro w'; go_simp; with_reducible rfl
  rotate_left; · simp only [Act.put, q_a, q_0, q_s, i64_w, i32_w]; rfl
  refine pure_ (i := 10) (N := some 73) (v := ?_) (a' := ?_) #[tT,tT,tT,tT,tT,tT,tT,tT,tT,tT,tT,fF,fF,fF,fF,fF,fF,fF,fF,fF] rfl rfl (by kernel_rfl) (fun _ _ _ h => h) (Or.inl ⟨by rfl, ?_⟩) ?_ ?_
  rotate_left; · intro w'; go_simp; with_reducible rfl
  rotate_left; · simp only [Act.put, q_a, q_0, q_s, i64_w, i32_w]; rfl
  refine pure_ (i := 12) (N := some 75) (v := ?_) (a' := ?_) #[tT,tT,tT,tT,tT,tT,tT,tT,tT,tT,tT,fF,tT,fF,fF,fF,fF,fF,fF,fF] rfl rfl (by kernel_rfl) (fun _ _ _ h => h) (Or.inl ⟨by rfl, ?_⟩) ?_ ?_
  rotate_left; · intro w'; go_simp; with_reducible rfl
  rotate_left; · simp only [Act.put, q_a, q_0, q_s, i64_w, i32_w]; rfl
  refine pure_ (i := 13) (N := some 76) (v := ?_) (a' := ?_) #[tT,tT,tT,tT,tT,tT,tT,tT,tT,tT,tT,fF,tT,tT,fF,fF,fF,fF,fF,fF] rfl rfl (by kernel_rfl) (fun _ _ _ h => h) (Or.inl ⟨by rfl, ?_⟩) ?_ ?_
  rotate_left; · intro w'; go_simp; with_reducible rfl
  rotate_left; · simp only [Act.put, q_a, q_0, q_s, i64_w, i32_w]; rfl
  refine pure_ (i := 14) (N := some 77) (v := ?_) (a' := ?_) #[tT,tT,tT,tT,tT,tT,tT,tT,tT,tT,tT,fF,tT,tT,tT,fF,fF,fF,fF,fF] rfl rfl (by kernel_rfl) (fun _ _ _ h => h) (Or.inl ⟨by rfl, ?_⟩) ?_ ?_
  rotate_left; · intro w'; go_simp; with_reducible rfl
  rotate_left; · simp only [Act.put, q_a, q_0, q_s, i64_w, i32_w]; rfl
  refine pure_ (i := 15) (N := some 78) (v := ?_) (a' := ?_) #[tT,tT,tT,tT,tT,tT,tT,tT,tT,tT,tT,fF,tT,tT,tT,tT,fF,fF,fF,fF] rfl rfl (by kernel_rfl) (fun _ _ _ h => h) (Or.inl ⟨by rfl, ?_⟩) ?_ ?_
  rotate_left; · intro w'; go_simp; with_reducible rfl
  rotate_left; · simp only [Act.put, q_a, q_0, q_s, i64_w, i32_w]; rfl
  refine pure_ (i := 16) (N := some 79) (v := ?_) (a' := ?_) #[tT,tT,tT,tT,tT,tT,tT,tT,tT,tT,tT,fF,tT,tT,tT,tT,tT,fF,fF,fF] rfl rfl (by kernel_rfl) (fun _ _ _ h => h) (Or.inl ⟨by rfl, ?_⟩) ?_ ?_
  rotate_left; · intro w'; go_simp; with_reducible rfl
  rotate_left; · simp only [Act.put, q_a, q_0, q_s, i64_w, i32_w]; rfl
  refine take_ (i := 11) (N := some 74) (v := ?_) (a' := ?_) #[tT,tT,tT,tT,tT,tT,tT,tT,tT,tT,tT,tT,tT,tT,tT,tT,tT,fF,fF,fF] rfl rfl (by kernel_rfl) (fun _ _ _ h => h) (Or.inl ⟨by rfl, ?_⟩) hHeld ?_ ?_
  rotate_left
  · rintro w' ⟨s0, s1, s2, s3⟩
    go_simp
    with_reducible rfl
  rotate_left; · simp only [Act.put, q_a, q_0, q_s, i64_w, i32_w]; rfl
  refine take_ (i := 17) (N := some 80) (v := ?_) (a' := ?_) #[tT,tT,tT,tT,tT,tT,tT,tT,tT,tT,tT,tT,tT,tT,tT,tT,tT,tT,fF,fF] rfl rfl (by kernel_rfl) (fun _ _ _ h => h) (Or.inl ⟨by rfl, ?_⟩) hHeld ?_ ?_
  rotate_left
  · rintro w' ⟨s0, s1, s2, s3⟩
    go_simp
    with_reducible rfl
  rotate_left; · simp only [Act.put, q_a, q_0, q_s, i64_w, i32_w]; rfl
  refine pure_ (i := 18) (N := some 81) (v := ?_) (a' := ?_) #[tT,tT,tT,tT,tT,tT,tT,tT,tT,tT,tT,tT,tT,tT,tT,tT,tT,tT,tT,fF] rfl rfl (by kernel_rfl) (fun _ _ _ h => h) (Or.inl ⟨by rfl, ?_⟩) ?_ ?_
  rotate_left; · intro w'; go_simp; with_reducible rfl
  rotate_left; · simp only [Act.put, q_a, q_0, q_s, i64_w, i32_w]; rfl
  refine pure_ (i := 19) (N := some 82) (v := ?_) (a' := ?_) #[tT,tT,tT,tT,tT,tT,tT,tT,tT,tT,tT,tT,tT,tT,tT,tT,tT,tT,tT,tT] rfl rfl (by kernel_rfl) (fun _ _ _ h => h) (Or.inl ⟨by rfl, ?_⟩) ?_ ?_
  rotate_left; · intro w'; go_simp; with_reducible rfl
  rotate_left; · simp only [Act.put, q_a, q_0, q_s, i64_w, i32_w]; rfl
  refine done_ (by kernel_rfl) ?_
  go_wp2_with (first
    | (go_at_call 44; go_loud ((with_reducible refine (HIN.out _ ?hb).mono ?_); (case hb => first | exact Below.refl _ _ | exact (Below.refl _ _).drew | exact bd (Below.refl _ _) _ | exact bd (Below.refl _ _).drew _); rintro e4 x4 ⟨rfl, hx⟩; have HX4 := Aside0.mk hx; have HR8 := Aside0.mk (show x4.heap[g]? = some (.cells #[.int .i64 0, .int .i64 0, .bool false, .slice none 0 0] 48 (0, 0)) from bk_ (bk_ HR5.out (Below.refl _ w5).drew) hx); obtain ⟨t0, t1, t2, t3⟩ := c4 HR8.out; have u0 := fr_ HR8.out 0; have u1 := fr_ HR8.out 1; have u2 := fr_ HR8.out 2; have u3 := fr_ HR8.out 3; clear hx)))
  refine bodyPost_ret (results_cell_row rfl _ _ g 48 #[.int .i64 9, .int .i64 (-1), .bool false, .slice none 0 0] (0, 0) _ rfl (heap_setCell_same _ g 3 _ 48 _ (heap_setCell_same _ g 2 _ 48 _ (heap_setCell_same _ g 1 _ 48 _ (heap_setCell_same _ g 0 _ 48 _ HR8.out)))) Try.underlying48 rfl info48) rfl ⟨rfl, ?_⟩
  have hle := HLE.out
  exact below_set (below_set (below_set (below_set (below_step HB5.out.drew HX4.out) hle) hle) hle) hle
def pk0 : Pk := ⟨2, 9, 0, 1, 10, 0, 80, 0, 0, false, 0, [], []⟩
theorem pk0_e : buildE pk0 = 0 := by decide +kernel
theorem by_nil : Bytes [] := by intro n h; cases h
theorem pk0_c : Canon pk0 := ⟨by_nil, by_nil, by decide, by decide, by decide⟩
theorem rw_nil (w : World) : Rw w none 0 [] := ⟨⟨rfl, by decide, fun h => absurd h (by decide)⟩, by decide⟩
theorem c_nil (w : World) : Kd.C (Kd.int .i64) w none 0 [] := ⟨rfl, by decide, fun h => absurd h (by decide)⟩
set_option maxHeartbeats 4000000 in
set_option maxRecDepth 100000 in
theorem known_calls (w : World) : Calls Try.prog 6 #[] w fun e w' => e = .returned (.bool true) ∧ Below w.heap.size w w' := by
  obtain ⟨l, hl⟩ : ∃ l, buildL pk0 = l := ⟨_, rfl⟩
  obtain ⟨ob, pb, wb, lb, yb⟩ := parse_build pk0_e pk0_c
  rw [hl] at ob pb wb lb yb
  have HPB := Aside0.mk (show parseL l = (pk0, 0) from by rw [ob.parse, pb])
  have HLB := Aside0.mk (show l.length ≤ 10000 by rw [lb]; decide +kernel)
  have HYB := Aside0.mk yb
  have HLL := Aside0.mk hl
  have HN := Aside0.mk (fun W => new_calls 10 80 (by decide) (by decide) (by decide) (by decide) ⟨1, 0⟩ ⟨2, 0⟩ W)
  obtain ⟨x, hx⟩ : ∃ x, Po.new 10 80 ⟨1, 0⟩ ⟨2, 0⟩ = x := ⟨_, rfl⟩
  have HXL := Aside0.mk (show x.sl.length = 64 from by rw [← hx]; exact Po.new_len _ _ _ _)
  have HNA := Aside0.mk (show ∀ i, i < 64 → (x.s i).st ≠ 2 from by intro i _; rw [← hx, Po.new_s]; decide)
  have HAD := Aside0.mk (show x.ad = 10 ∧ x.po = 80 from by rw [← hx]; exact ⟨rfl, rfl⟩)
  rw [hx] at HN
  obtain ⟨r, hr⟩ : ∃ r, ofL ⟨0, 0⟩ [] = r := ⟨_, rfl⟩
  have HW := Aside0.mk (fun W => show Calls Try.prog 27 #[.agg #[.int .u64 0, .int .u64 0], .slice none 0 0] W fun e w' => e = .returned (.int .u64 r) ∧ Below W.heap.size W w' from hr ▸ words_calls ⟨0, 0⟩ (w := W) (l := []) (c_nil W) rfl (by decide) (by decide))
  have HO := Aside0.mk (fun W => show Calls Try.prog 28 #[.agg #[.int .u64 0, .int .u64 0], .slice none 0 0] W fun e w' => e = .returned (.int .u64 r) ∧ Below W.heap.size W w' from hr ▸ of_calls ⟨0, 0⟩ (w := W) (l := []) (rw_nil W).rd rfl (by decide) (by decide))
  have HSM := Aside0.mk (fun W => show Calls Try.prog 26 #[.slice none 0 0] W fun e w' => e = .returned (.int .i64 65535) ∧ Drawn0 W w' from WB.of_calls (w := W) (l := []) (rw_nil W).rd rfl (by decide) by_nil (by decide))
  clear hl ob pb wb lb yb hx hr
  go_enter Try.func6, Try.ntmps6
  go_upto_region 2 with (first
    | (go_at_call 25; go_loud ((with_reducible refine (HN.out _).mono ?_); rintro e1 x1 ⟨rfl, hx1⟩; have HX1 := Aside0.mk hx1; clear hx1))
    | ((with_reducible refine gate_dst (N := 1) rfl ?_); refine pool_alloc rfl rfl ?_; intro g1 hg1 w1 hp1 hb1 hs1; have HP1 := Aside0.mk hp1; have HB1 := Aside0.mk hb1; have HG1 := Aside0.mk hg1; clear hp1 hb1 hs1 hg1)
    | ((with_reducible refine gate_store (t := 34) (p := 1) rfl ?_); refine pool_store (q := x) rfl rfl rfl rfl rfl HP1.out Po.z_len HXL.out ?_; intro w2 hp2 hc2; have HP2 := Aside0.mk hp2; have HC2 := Aside0.mk hc2; clear hp2 hc2))
  refine wp_w (fun W => PoolAt W g1 x ∧ Below w.heap.size w W) ?_ ?_
  · exact ⟨HP2.out, Chg.step (below_step HX1.out HB1.out) HC2.out (by have := HG1.out; have := HX1.out.size; omega)⟩
  intro w3 h3
  have HP3 := Aside0.mk h3.1
  have HB3 := Aside0.mk h3.2
  have HPN := Aside0.mk (pnew_calls w3)
  clear h3
  obtain ⟨b, hb⟩ : ∃ n, w3.heap.size = n := ⟨_, rfl⟩
  have HNE := Aside0.mk (show g1 ≠ b from by have := blk_lt HP3.out; omega)
  have HBL := Aside0.mk (show w.heap.size ≤ b from by have := HB3.out.size; omega)
  rw [hb] at HPN
  go_upto_region 5 with (first
    | (go_at_call 12; go_loud ((with_reducible refine HPN.out.mono ?_); rintro e2 x2 ⟨rfl, hp, hx2⟩; have HPL := Aside0.mk hp; have HX2 := Aside0.mk (show Below w3.heap.size w3 x2 from by rw [hb]; exact hx2); clear hp hx2)))
  refine wp_w (fun W => PlaneAt W b Po.z false nearZ (.slice none 0 0) ∧ PoolAt W g1 x ∧ Below w.heap.size w W) ?_ ?_
  · exact ⟨HPL.out, HP3.out.below HX2.out, below_step HB3.out HX2.out⟩
  intro w4 h4
  have HP4 := Aside0.mk h4.2.1
  have HB4 := Aside0.mk h4.2.2
  have HLD := Aside0.mk (load0_calls h4.1 HXL.out HNA.out)
  clear h4 hb
  go_upto_region 6 with (first
    | ((with_reducible refine gate_dst (N := 21) rfl ?_); refine pool_load rfl rfl rfl HP4.out HXL.out ?_)
    | (go_at_call 13; go_loud ((with_reducible refine HLD.out.mono ?_); rintro e3 x3 ⟨rfl, Aw, cw, hpl, hwr, hgr⟩; have HPL3 := Aside0.mk hpl; have HWR := Aside0.mk (Kd.R_reads' hwr); have HB5 := Aside0.mk (hgr.below HB4.out HB4.out.size HBL.out); clear hpl hwr hgr)))
  refine wp_w (fun W => PlaneAt W b x true nearZ (.slice Aw 127 cw) ∧ Kd.C (Kd.int .i64) W Aw 127 (List.replicate 127 (-1)) ∧ Below w.heap.size w W) ?_ ?_
  · exact ⟨HPL3.out, by have h := HWR.out.2.2; simpa using h, HB5.out⟩
  intro w5 h5
  have HPL5 := Aside0.mk h5.1
  have HW5 := Aside0.mk h5.2.1
  have HB6 := Aside0.mk h5.2.2
  have HCW := Aside0.mk (show 127 ≤ cw from HWR.out.2.1)
  have HBU := Aside0.mk (show ∀ W, Below w5.heap.size w5 W → Calls Try.prog 11 #[.agg #[.int .i64 2, .int .i64 9, .int .i64 0, .int .i64 1, .int .i64 10, .int .i64 0, .int .i64 80, .int .i64 0, .int .i64 0, .bool false, .int .i64 0, .slice none 0 0, .slice none 0 0]] W fun e w' => ∃ (A : Option Addr) (c : Nat), e = .returned (.tuple #[.slice A l.length c, .int .i64 0]) ∧ RB w5.heap.size w' (.slice A l.length c) l ∧ Below w5.heap.size w5 w' from build_at (W0 := w5) (p := pk0) (rw_nil w5) (rw_nil w5) rfl rfl pk0_e pk0_c (by decide) (by decide) HLL.out)
  clear h5
  go_upto_region 7 with (first
    | (go_at_call 11; go_loud ((with_reducible refine (HBU.out _ (Below.refl _ _)).mono ?_); rintro e4 x4 ⟨Ab, cb, rfl, hrb, hx4⟩; have HRB := Aside0.mk (rw_of hrb); have HX4 := Aside0.mk hx4; clear hrb hx4)))
  have HPB' : Aside0 (parseL l = (⟨2, 9, 0, 1, x.ad, 0, x.po, 0, 0, false, 0, [], []⟩, 0)) := Aside0.mk (by rw [HAD.out.1, HAD.out.2]; exact HPB.out)
  have HTK := Aside0.mk (take0_calls (HPL5.out.below HX4.out) (Kd.C_below HW5.out HX4.out) HCW.out HRB.out rfl HLB.out HYB.out 9 1 0 0 0 false [] [] (by decide) HPB'.out)
  obtain ⟨g6, hg6⟩ : ∃ n, x4.heap.size = n := ⟨_, rfl⟩
  go_upto_region 8 with (first
    | (go_at_call 14; go_loud ((with_reducible refine HTK.out.mono ?_); rintro e5 x5 ⟨rfl, hx5⟩; have HX5 := Aside0.mk hx5; obtain ⟨g7, hg7⟩ : ∃ n, x5.heap.size = n := ⟨_, rfl⟩; clear hx5)))
  refine wp_w (fun W => W.heap[g7]? = some (.cells #[.int .i64 9, .int .i64 (-1), .bool false, .slice none 0 0] 48 (0, 0)) ∧ Below w.heap.size w W) ?_ ?_
  · exact ⟨by rw [← hg7]; exact new_blk x5 _, below_alloc (below_step (below_step HB6.out HX4.out) HX5.out) _⟩
  intro w7 h7
  have HB7 := Aside0.mk h7.2
  obtain ⟨t0, t1, t2, t3⟩ := c4 h7.1
  clear h7 hg6 hg7
  go_wp2_with (first
    | (go_at_call 26; go_loud ((with_reducible refine (HSM.out _).mono ?_); rintro e6 x6 ⟨rfl, ⟨⟨nq, rfl⟩⟩⟩))
    | (go_at_call 27; go_loud ((with_reducible refine (HW.out _).mono ?_); rintro e7 x7 ⟨rfl, hx⟩; have HX7 := Aside0.mk (below_step (bd HB7.out _) hx); clear hx))
    | (go_at_call 28; go_loud ((with_reducible refine (HO.out _).mono ?_); rintro e8 x8 ⟨rfl, hx⟩; have HX8 := Aside0.mk (below_step HX7.out hx); clear hx)))
  go_ret
  exact ⟨by simp, HX8.out⟩
theorem twithin_calls (a : Int) {n : Int} (h0 : 0 < n) (h1 : n ≤ 4611686018427387904) (w : World) : Calls Try.prog 8 #[.int .i64 a, .int .i64 n] w fun e w' => e = .returned (.int .i64 (a % n)) ∧ Below w.heap.size w w' := by
  refine (roundhousetop_within.calls a n (a % n) w (within_f h0 h1)).mono ?_
  rintro e w' ⟨rfl, ⟨⟨nd, rfl⟩⟩⟩
  exact ⟨rfl, bd (Below.refl _ w) nd⟩
theorem rtakes_calls (st a b c d : Int) (w : World) : Calls Try.prog 9 #[.agg #[.int .i64 st, .int .i64 a, .int .i64 b, .int .i64 c, .int .i64 d]] w fun e w' => e = .returned (.bool (decide (st = 1 ∨ st = 2 ∨ st = 3))) ∧ Below w.heap.size w w' :=
  roundhouseref6_Takes.calls st a b c d _ w (by
    unfold roundhouseref6_Takes.f
    by_cases h1 : st = 1
    · simp [h1]
    · by_cases h2 : st = 2
      · simp [h2]
      · by_cases h3 : st = 3 <;> simp [h1, h2, h3])
theorem remove_calls (p : Po) (hl : p.sl.length = 64) (ad po : Int) (i : Nat) (hi : i < 64) (hf : findR p ad po 64 0 = ((i : Int), true)) {L : List En} (hL : (if (p.s i).st = 2 then [enD i, enS i] else [enS i]) = L) (w : World) :
    Calls Try.prog 20 #[.agg p.ag, .int .i64 ad, .int .i64 po] w fun e w' => ∃ A, e = .returned (.tuple #[.slice A L.length L.length, .int .i64 0]) ∧ kdEn.C w' A L.length L ∧ Below w.heap.size w w' := by
  by_cases hs : (p.s i).st = 2
  · rw [if_pos hs] at hL
    subst hL
    exact remove_2 p hl ad po i hi hf hs w
  · rw [if_neg hs] at hL
    subst hL
    exact remove_n p hl ad po i hi hf hs w
set_option maxHeartbeats 4000000 in
set_option maxRecDepth 100000 in
theorem TopQuiet_walk {A0 : Option Addr} {cap0 n0 : Nat} {ns : List Int} (a1 a2 a3 : Int) {w : World} (hr : Kd.C (Kd.int .i64) w A0 n0 ns) (hn : ns.length = n0) (hc : n0 ≤ cap0) :
    Calls Try.prog 5 #[.slice A0 n0 cap0, .int .i64 a1, .int .i64 a2, .int .i64 a3] w fun e w' => e = .returned (.bool true) ∧ Below w.heap.size w w' := by
  have HKN := Aside0.mk (known_calls w)
  have HMK := Aside0.mk (fun W (hW : Below w.heap.size w W) => lmake_calls (w := W) (Kd.C_below hr hW) hn hc)
  have HW1 := Aside0.mk (fun W => twithin_calls a1 (n := 6) (by decide) (by decide) W)
  have hs0 := Int.emod_nonneg a1 (show (6 : Int) ≠ 0 by decide)
  have hs1 := Int.emod_lt_of_pos a1 (show (0 : Int) < 6 by decide)
  obtain ⟨s, hs⟩ := Int.eq_ofNat_of_zero_le hs0
  have HSI := Aside0.mk (show s < 64 by omega)
  rw [hs] at HW1
  obtain ⟨pq, hpq⟩ : ∃ x, a2 % 65536 = x := ⟨_, rfl⟩
  have HW2 := Aside0.mk (fun W => hpq ▸ twithin_calls a2 (n := 65536) (by decide) (by decide) W)
  have hi0 : (0 : Int) ≤ (s : Int) := by omega
  have hi1 : (s : Int) < 64 := by omega
  clear hr hn hc hs0 hs1 hs hpq
  go_enter Try.func5, Try.ntmps5
  go_upto_region 4 with (first
    | (go_at_call 6; (with_reducible refine HKN.out.mono ?_); rintro e1 x1 ⟨rfl, hx⟩; have HX1 := Aside0.mk hx; clear hx)
    | (go_at_call 7; go_loud ((with_reducible refine (HMK.out _ HX1.out).mono ?_); rintro e2 x2 ⟨p, hinv, rfl, hx⟩; have HI := Aside0.mk hinv; have HX2 := Aside0.mk (below_step HX1.out hx); clear hinv hx))
    | ((with_reducible refine gate_dst (N := 9) rfl ?_); refine pool_alloc rfl rfl ?_; intro g9 hg9 w1 hp1 hb1 hs1; have HP1 := Aside0.mk hp1; have HB1 := Aside0.mk hb1; have HG9 := Aside0.mk hg9; clear hp1 hb1 hs1 hg9)
    | ((with_reducible refine gate_store (t := 34) (p := 9) rfl ?_); refine pool_store (q := p) rfl rfl rfl rfl rfl HP1.out Po.z_len HI.out.len ?_; intro w2 hp2 hc2; have HP2 := Aside0.mk hp2; have HC2 := Aside0.mk hc2; clear hp2 hc2))
  refine wp_w (fun W => PoolAt W g9 p ∧ Below w.heap.size w W) ?_ ?_
  · exact ⟨HP2.out, Chg.step (below_step HX2.out HB1.out) HC2.out (by have := HG9.out; have := HX2.out.size; omega)⟩
  intro w3 h3
  have HP3 := Aside0.mk h3.1
  have HB3 := Aside0.mk h3.2
  clear h3
  obtain ⟨⟨st, sa, sp, sw, sq⟩, hss⟩ : ∃ x, p.s s = x := ⟨_, rfl⟩
  have HSS := Aside0.mk hss
  have HTK := Aside0.mk (fun W => rtakes_calls st sa sp sw sq W)
  obtain ⟨d0, d1, d2, d3, d4⟩ := HP3.out.slot HI.out.len HSI.out
  rw [hss] at d0 d1 d2 d3 d4
  clear hss
  by_cases ht : st = 1 ∨ st = 2 ∨ st = 3
  · have HTT := Aside0.mk ht
    have HDT := Aside0.mk (decide_eq_true ht)
    rw [HDT.out] at HTK
    clear ht
    obtain ⟨pad, hpad⟩ : ∃ x, p.ad = x := ⟨_, rfl⟩
    obtain ⟨ppo, hppo⟩ : ∃ x, p.po = x := ⟨_, rfl⟩
    have HPAD := Aside0.mk hpad
    have HPPO := Aside0.mk hppo
    clear hpad hppo
    go_upto_region 7 with (first
      | (go_at_call 8; go_loud ((with_reducible refine (HW1.out _).mono ?_); rintro e3 x3 ⟨rfl, hx⟩; have HX3 := Aside0.mk hx; obtain ⟨d0, d1, d2, d3, d4⟩ := (HP3.out.below hx).slot HI.out.len HSI.out; rw [HSS.out] at d0 d1 d2 d3 d4; clear hx))
      | (go_at_call 9; go_loud ((with_reducible refine (HTK.out _).mono ?_); rintro e4 x4 ⟨rfl, hx⟩; have HX4 := Aside0.mk (below_step HX3.out hx); clear hx)))
    refine wp_w (fun W => PoolAt W g9 p ∧ Below w.heap.size w W) ?_ ?_
    · exact ⟨HP3.out.below HX4.out, below_step HB3.out HX4.out⟩
    intro w5 h5
    have HP5 := Aside0.mk h5.1
    have HB5 := Aside0.mk h5.2
    have HCK := Aside0.mk (fun W (h : Below w5.heap.size w5 W) => show W.cell? ⟨g9, 1, none⟩ = some (.int .i64 pad) ∧ W.cell? ⟨g9, 2, none⟩ = some (.int .i64 ppo) from by
      obtain ⟨_, h1, h2⟩ := (HP5.out.below h).head
      rw [HPAD.out] at h1
      rw [HPPO.out] at h2
      exact ⟨h1, h2⟩)
    have HQc := Aside0.mk (Below.refl w5.heap.size w5).drew
    clear h5 d0 d1 d2 d3 d4
    go_upto_region 7 with fail
    refine start_ (n := 9) (S := fun w' => w'.cell? ⟨g9, 1, none⟩ = some (.int .i64 pad) ∧ w'.cell? ⟨g9, 2, none⟩ = some (.int .i64 ppo)) (ds := [8]) #[fF,fF,fF,fF,fF,fF,fF,fF,fF] (by kernel_rfl) rfl rfl ⟨(HCK.out _ HQc.out).1, (HCK.out _ HQc.out).2⟩ (fun hHeld => ?_)
    refine pure_ (i := 0) (N := some 33) (v := ?_) (a' := ?_) #[tT,fF,fF,fF,fF,fF,fF,fF,fF] rfl rfl (by kernel_rfl) (fun _ _ _ h => h) (Or.inl ⟨by rfl, ?_⟩) ?_ ?_
    rotate_left; · intro w'; go_simp; with_reducible rfl
    rotate_left; · simp only [Act.put, q_a, q_0, q_s, i64_w, i32_w]; rfl
    refine pure_ (i := 2) (N := some 35) (v := ?_) (a' := ?_) #[tT,fF,tT,fF,fF,fF,fF,fF,fF] rfl rfl (by kernel_rfl) (fun _ _ _ h => h) (Or.inl ⟨by rfl, ?_⟩) ?_ ?_
    rotate_left; · intro w'; go_simp; with_reducible rfl
    rotate_left; · simp only [Act.put, q_a, q_0, q_s, i64_w, i32_w]; rfl
    refine pure_ (i := 4) (N := some 37) (v := ?_) (a' := ?_) #[tT,fF,tT,fF,tT,fF,fF,fF,fF] rfl rfl (by kernel_rfl) (fun _ _ _ h => h) (Or.inl ⟨by rfl, ?_⟩) ?_ ?_
    rotate_left; · intro w'; go_simp; with_reducible rfl
    rotate_left; · simp only [Act.put, q_a, q_0, q_s, i64_w, i32_w]; rfl
    refine take_ (i := 3) (N := some 36) (v := ?_) (a' := ?_) #[tT,fF,tT,tT,tT,fF,fF,fF,fF] rfl rfl (by kernel_rfl) (fun _ _ _ h => h) (Or.inl ⟨by rfl, ?_⟩) hHeld ?_ ?_
    rotate_left
    · rintro w' ⟨s0, s1⟩
      go_simp
      with_reducible rfl
    rotate_left; · simp only [Act.put, q_a, q_0, q_s, i64_w, i32_w]; rfl
    refine take_ (i := 5) (N := some 38) (v := ?_) (a' := ?_) #[tT,fF,tT,tT,tT,tT,fF,fF,fF] rfl rfl (by kernel_rfl) (fun _ _ _ h => h) (Or.inl ⟨by rfl, ?_⟩) hHeld ?_ ?_
    rotate_left
    · rintro w' ⟨s0, s1⟩
      go_simp
      with_reducible rfl
    rotate_left; · simp only [Act.put, q_a, q_0, q_s, i64_w, i32_w]; rfl
    refine join_ (σ := Nat) 1 #[tT,tT,tT,tT,tT,tT,tT,tT,fF] (fun b => [(34, .int .i64 pq), (39, .agg #[.int .i64 5000, .int .i64 pq, .int .i64 pad, .int .i64 ppo]), (11, .pointer (some ⟨b, 0, none⟩))]) (fun b w' => w'.heap[b]? = some (.cells #[.int .i64 0, .int .i64 0, .int .i64 0, .int .i64 0] 60 (0, 0)) ∧ w5.heap.size ≤ b ∧ Below w5.heap.size w5 w') ?_ ?_
    rotate_left
    · intro hCont
      refine two_ (i := 1) (j := 7) (Ni := some 34) (Nj := some 11) #[tT,tT,tT,tT,tT,tT,fF,fF,fF] #[tT,fF,tT,tT,tT,tT,fF,tT,fF] rfl rfl rfl rfl (by kernel_rfl) (by decide) (by decide) (fun K hK => ?_) (fun K hK => ?_)
      · skip
        refine goes_ Try.func8 (by kernel_rfl) rfl #[.int .i64 a2, .int .i64 65536] (by rfl) rfl rfl (by simp only [List.map_toArray, List.map_cons, List.map_nil]; rfl) ?_
        with_reducible refine (HW2.out _).mono ?_
        rintro e1 w31 ⟨rfl, hx⟩
        refine ⟨_, rfl, ?_⟩
        replace HQc := Aside0.mk (below_step HQc.out hx)
        refine hK.out _ _ ⟨(HCK.out _ HQc.out).1, (HCK.out _ HQc.out).2⟩ (fun hHeld => ?_)
        clear hK K
        refine norm_ (a' := ?_) ?_ ?_
        rotate_left
        · show Act.put _ (some 34) _ = _
          simp only [Act.put, q_a, q_0, q_s, i64_w, i32_w]
          rfl
        refine pure_ (i := 6) (N := some 39) (v := ?_) (a' := ?_) #[tT,tT,tT,tT,tT,tT,tT,fF,fF] rfl rfl (by kernel_rfl) (fun _ _ _ h => h) (Or.inl ⟨by rfl, ?_⟩) ?_ ?_
        rotate_left; · intro w'; go_simp; with_reducible rfl
        rotate_left; · simp only [Act.put, q_a, q_0, q_s, i64_w, i32_w]; rfl
        refine one_ (i := 7) (N := some 11) #[tT,tT,tT,tT,tT,tT,tT,tT,fF] rfl rfl (by kernel_rfl) (by decide) (fun K hK => ?_)
        refine value_ (w1 := ?_) (v := ?_) (by rfl) rfl ?_ ?_
        rotate_left 2
        · go_simp
          constructor
          · rfl
          · rfl
        have HAL := Aside0.mk (new_blk w31 (.cells #[.int .i64 0, .int .i64 0, .int .i64 0, .int .i64 0] 60))
        have HLE := Aside0.mk (HQc.out.size)
        replace HQc := Aside0.mk (below_alloc HQc.out (.cells #[.int .i64 0, .int .i64 0, .int .i64 0, .int .i64 0] 60))
        refine hK.out _ _ ⟨(HCK.out _ HQc.out).1, (HCK.out _ HQc.out).2⟩ (fun hHeld => ?_)
        clear hK K
        refine norm_ (a' := ?_) ?_ ?_
        rotate_left
        · show Act.put _ (some 11) _ = _
          simp only [Act.put, q_a, q_0, q_s, i64_w, i32_w]
          rfl
        exact norm_ (by simp only [putAll, Act.put, q_a, q_0, q_s]) (hCont w31.heap.size _ ⟨HAL.out, HLE.out, HQc.out⟩)
      · skip
        refine value_ (w1 := ?_) (v := ?_) (by rfl) rfl ?_ ?_
        rotate_left 2
        · go_simp
          constructor
          · rfl
          · rfl
        have HAL := Aside0.mk (new_blk w5.drew (.cells #[.int .i64 0, .int .i64 0, .int .i64 0, .int .i64 0] 60))
        have HLE := Aside0.mk (HQc.out.size)
        replace HQc := Aside0.mk (below_alloc HQc.out (.cells #[.int .i64 0, .int .i64 0, .int .i64 0, .int .i64 0] 60))
        refine hK.out _ _ ⟨(HCK.out _ HQc.out).1, (HCK.out _ HQc.out).2⟩ (fun hHeld => ?_)
        clear hK K
        refine norm_ (a' := ?_) ?_ ?_
        rotate_left
        · show Act.put _ (some 11) _ = _
          simp only [Act.put, q_a, q_0, q_s, i64_w, i32_w]
          rfl
        refine one_ (i := 1) (N := some 34) #[tT,tT,tT,tT,tT,tT,fF,tT,fF] rfl rfl (by kernel_rfl) (by decide) (fun K hK => ?_)
        refine goes_ Try.func8 (by kernel_rfl) rfl #[.int .i64 a2, .int .i64 65536] (by rfl) rfl rfl (by simp only [List.map_toArray, List.map_cons, List.map_nil]; rfl) ?_
        with_reducible refine (HW2.out _).mono ?_
        rintro e1 w31 ⟨rfl, hx⟩
        refine ⟨_, rfl, ?_⟩
        replace HAL := Aside0.mk (bk_ HAL.out hx)
        replace HQc := Aside0.mk (below_step HQc.out hx)
        refine hK.out _ _ ⟨(HCK.out _ HQc.out).1, (HCK.out _ HQc.out).2⟩ (fun hHeld => ?_)
        clear hK K
        refine norm_ (a' := ?_) ?_ ?_
        rotate_left
        · show Act.put _ (some 34) _ = _
          simp only [Act.put, q_a, q_0, q_s, i64_w, i32_w]
          rfl
        refine pure_ (i := 6) (N := some 39) (v := ?_) (a' := ?_) #[tT,tT,tT,tT,tT,tT,tT,tT,fF] rfl rfl (by kernel_rfl) (fun _ _ _ h => h) (Or.inl ⟨by rfl, ?_⟩) ?_ ?_
        rotate_left; · intro w'; go_simp; with_reducible rfl
        rotate_left; · simp only [Act.put, q_a, q_0, q_s, i64_w, i32_w]; rfl
        exact norm_ (by simp only [putAll, Act.put, q_a, q_0, q_s]) (hCont w5.heap.size _ ⟨HAL.out, HLE.out, HQc.out⟩)
    rintro gb w4 ⟨hal, hle, hq⟩
    clear HQc
    have HQc := Aside0.mk hq
    have HAL := Aside0.mk hal
    have HLE := Aside0.mk hle
    obtain ⟨T0, T1, T2, T3⟩ := c4 hal
    have U0 := fr_ hal 0
    have U1 := fr_ hal 1
    have U2 := fr_ hal 2
    have U3 := fr_ hal 3
    clear hq hal hle
    have hHeld := HCK.out _ HQc.out
    refine norm_ (a' := ?_) ?_ ?_
    rotate_left; · simp only [putAll, Act.put, q_a, q_0, q_s]; rfl
    refine last_ (i := 8) (N := none) #[tT,tT,tT,tT,tT,tT,tT,tT,tT] rfl rfl (by kernel_rfl) (by decide) (fun K hK => ?_)
    refine skip_ (w1 := ?_) (by rfl) rfl ?_ ?_
    rotate_left
    · go_simp
      rfl
    refine hK.out _ _ ?_
    clear hK K
    refine done_ (by kernel_rfl) ?_
    go_upto_region 8 with fail
    refine wp_w (fun W => W.heap[gb]? = some (.cells #[.int .i64 5000, .int .i64 pq, .int .i64 pad, .int .i64 ppo] 60 (0, 0)) ∧ PoolAt W g9 p ∧ Below w.heap.size w W) ?_ ?_
    · have hne : g9 ≠ gb := by have := blk_lt HP5.out; have := HLE.out; omega
      have hle : w.heap.size ≤ gb := by have := HB5.out.size; have := HLE.out; omega
      have hp := HP5.out.below HQc.out
      have hch : Chg gb w4 ((((w4.setCell ⟨gb, 0, none⟩ (.int .i64 5000)).setCell ⟨gb, 1, none⟩ (.int .i64 pq)).setCell ⟨gb, 2, none⟩ (.int .i64 pad)).setCell ⟨gb, 3, none⟩ (.int .i64 ppo)) := (((((Chg.refl gb w4).set _ _).set _ _).set _ _).set _ _)
      have hh := heap_setCell_same _ gb 3 _ 60 (.int .i64 ppo) (heap_setCell_same _ gb 2 _ 60 (.int .i64 pad) (heap_setCell_same _ gb 1 _ 60 (.int .i64 pq) (heap_setCell_same w4 gb 0 _ 60 (.int .i64 5000) HAL.out)))
      have hb := Chg.step (below_step HB5.out HQc.out) hch hle
      first
        | exact ⟨hh, hp.chg hch hne, hb⟩
        | exact ⟨hh, hp.chg hch hne, hb.drew⟩
    intro w6 h6
    have HF6 := Aside0.mk h6.1
    have HP6 := Aside0.mk h6.2.1
    have HB6 := Aside0.mk h6.2.2
    obtain ⟨j0, j1, j2, j3⟩ := c4 h6.1
    obtain ⟨r0, r1, r2, r3, r4, r5, r6⟩ := h6.2.1.ring HI.out.len
    obtain ⟨ck, hck⟩ : ∃ x, makeC ⟨p.ep, p.k0, p.k1, p.k2⟩ 1 ⟨5000, pq, pad, ppo⟩ s = x := ⟨_, rfl⟩
    have HMC := Aside0.mk (fun W => hck ▸ cmake_calls ⟨p.ep, p.k0, p.k1, p.k2⟩ 1 ⟨5000, pq, pad, ppo⟩ s W)
    clear h6 hck HQc HAL HLE hHeld T0 T1 T2 T3 U0 U1 U2 U3
    go_upto_region 9 with (first
      | (go_at_call 19; go_loud ((with_reducible refine (HMC.out _).mono ?_); rintro e5 x5 ⟨rfl, hx⟩; have HX5 := Aside0.mk hx; clear hx)))
    refine wp_w (fun W => W.heap[gb]? = some (.cells #[.int .i64 5000, .int .i64 pq, .int .i64 pad, .int .i64 ppo] 60 (0, 0)) ∧ PoolAt W g9 p ∧ Below w.heap.size w W) ?_ ?_
    · exact ⟨bk_ HF6.out HX5.out, HP6.out.below HX5.out, below_step HB6.out HX5.out⟩
    intro w7 h7
    have HF7 := Aside0.mk h7.1
    have HP7 := Aside0.mk h7.2.1
    have HB7 := Aside0.mk h7.2.2
    have HCK := Aside0.mk (fun W (h : Below w7.heap.size w7 W) => show PoolAt W g9 p ∧ W.cell? ⟨g9, 3 + s * 5 + 1, none⟩ = some (.int .i64 sa) ∧ W.cell? ⟨g9, 3 + s * 5 + 2, none⟩ = some (.int .i64 sp) from by
      obtain ⟨_, h1, h2, _, _⟩ := (HP7.out.below h).slot HI.out.len HSI.out
      rw [HSS.out] at h1 h2
      exact ⟨HP7.out.below h, h1, h2⟩)
    have HQc := Aside0.mk (Below.refl w7.heap.size w7).drew
    have hst4 : (p.s s).st = 1 ∨ (p.s s).st = 2 ∨ (p.s s).st = 3 := by rw [HSS.out]; exact HTT.out
    have hfind : findR p sa sp 64 0 = ((s : Int), true) := by
      have h := find_self HI.out HSI.out (by omega) 64 0 (by omega) (by have := HSI.out; omega) (by omega)
      rw [HSS.out] at h
      exact h
    obtain ⟨q0, hao, hep0, hst0, hsi0⟩ := shut_ok HI.out HSI.out hst4
    obtain ⟨Lr, hLr⟩ : ∃ L, (if (p.s s).st = 2 then [enD s, enS s] else [enS s]) = L := ⟨_, rfl⟩
    rw [hLr] at hao
    have HRM := Aside0.mk (fun W => remove_calls p HI.out.len sa sp s HSI.out hfind hLr W)
    have HAO0 := Aside0.mk hao
    have HLr := Aside0.mk (show Lr.length ≤ 1000 from by rw [← hLr]; split <;> simp)
    have HW0 := Aside0.mk (show Wait q0 s p.ep 0 from ⟨hao.end_, by rw [hep0]; omega, by rw [if_pos (by omega)]; exact ⟨hst0, hsi0⟩⟩)
    clear h7 hst4 hfind hao hep0 hst0 hsi0 hLr j0 j1 j2 j3 r0 r1 r2 r3 r4 r5 r6
    go_upto_region 9 with fail
    refine start_ (n := 17) (S := fun w' => PoolAt w' g9 p ∧ w'.cell? ⟨g9, 3 + s * 5 + 1, none⟩ = some (.int .i64 sa) ∧ w'.cell? ⟨g9, 3 + s * 5 + 2, none⟩ = some (.int .i64 sp)) (ds := []) #[fF,fF,fF,fF,fF,fF,fF,fF,fF,fF,fF,fF,fF,fF,fF,fF,fF] (by kernel_rfl) rfl rfl ⟨(HCK.out _ HQc.out).1, (HCK.out _ HQc.out).2.1, (HCK.out _ HQc.out).2.2⟩ (fun hHeld => ?_)
    refine pure_ (i := 1) (N := some 47) (v := ?_) (a' := ?_) #[fF,tT,fF,fF,fF,fF,fF,fF,fF,fF,fF,fF,fF,fF,fF,fF,fF] rfl rfl (by kernel_rfl) (fun _ _ _ h => h) (Or.inl ⟨by rfl, ?_⟩) ?_ ?_
    rotate_left; · intro w'; go_simp; with_reducible rfl
    rotate_left; · simp only [Act.put, q_a, q_0, q_s, i64_w, i32_w]; rfl
    refine pure_ (i := 2) (N := some 48) (v := ?_) (a' := ?_) #[fF,tT,tT,fF,fF,fF,fF,fF,fF,fF,fF,fF,fF,fF,fF,fF,fF] rfl rfl (by kernel_rfl) (fun _ _ _ h => h) (Or.inl ⟨by rfl, ?_⟩) ?_ ?_
    rotate_left; · intro w'; go_simp; with_reducible rfl
    rotate_left; · simp only [Act.put, q_a, q_0, q_s, i64_w, i32_w]; rfl
    refine pure_ (i := 3) (N := some 49) (v := ?_) (a' := ?_) #[fF,tT,tT,tT,fF,fF,fF,fF,fF,fF,fF,fF,fF,fF,fF,fF,fF] rfl rfl (by kernel_rfl) (fun _ _ _ h => h) (Or.inl ⟨by rfl, ?_⟩) ?_ ?_
    rotate_left; · intro w'; go_simp; with_reducible rfl
    rotate_left; · simp only [Act.put, q_a, q_0, q_s, i64_w, i32_w]; rfl
    refine pure_ (i := 4) (N := some 50) (v := ?_) (a' := ?_) #[fF,tT,tT,tT,tT,fF,fF,fF,fF,fF,fF,fF,fF,fF,fF,fF,fF] rfl rfl (by kernel_rfl) (fun _ _ _ h => h) (Or.inl ⟨by rfl, ?_⟩) ?_ ?_
    rotate_left; · intro w'; go_simp; with_reducible rfl
    rotate_left; · simp only [Act.put, q_a, q_0, q_s, i64_w, i32_w]; rfl
    refine pure_ (i := 6) (N := some 52) (v := ?_) (a' := ?_) #[fF,tT,tT,tT,tT,fF,tT,fF,fF,fF,fF,fF,fF,fF,fF,fF,fF] rfl rfl (by kernel_rfl) (fun _ _ _ h => h) (Or.inl ⟨by rfl, ?_⟩) ?_ ?_
    rotate_left; · intro w'; go_simp; with_reducible rfl
    rotate_left; · simp only [Act.put, q_a, q_0, q_s, i64_w, i32_w]; rfl
    refine pure_ (i := 7) (N := some 53) (v := ?_) (a' := ?_) #[fF,tT,tT,tT,tT,fF,tT,tT,fF,fF,fF,fF,fF,fF,fF,fF,fF] rfl rfl (by kernel_rfl) (fun _ _ _ h => h) (Or.inl ⟨by rfl, ?_⟩) ?_ ?_
    rotate_left; · intro w'; go_simp; with_reducible rfl
    rotate_left; · simp only [Act.put, q_a, q_0, q_s, i64_w, i32_w]; rfl
    refine pure_ (i := 8) (N := some 54) (v := ?_) (a' := ?_) #[fF,tT,tT,tT,tT,fF,tT,tT,tT,fF,fF,fF,fF,fF,fF,fF,fF] rfl rfl (by kernel_rfl) (fun _ _ _ h => h) (Or.inl ⟨by rfl, ?_⟩) ?_ ?_
    rotate_left; · intro w'; go_simp; with_reducible rfl
    rotate_left; · simp only [Act.put, q_a, q_0, q_s, i64_w, i32_w]; rfl
    refine pure_ (i := 9) (N := some 55) (v := ?_) (a' := ?_) #[fF,tT,tT,tT,tT,fF,tT,tT,tT,tT,fF,fF,fF,fF,fF,fF,fF] rfl rfl (by kernel_rfl) (fun _ _ _ h => h) (Or.inl ⟨by rfl, ?_⟩) ?_ ?_
    rotate_left; · intro w'; go_simp; with_reducible rfl
    rotate_left; · simp only [Act.put, q_a, q_0, q_s, i64_w, i32_w]; rfl
    refine take_ (i := 0) (N := some 46) (v := ?_) (a' := ?_) #[tT,tT,tT,tT,tT,fF,tT,tT,tT,tT,fF,fF,fF,fF,fF,fF,fF] rfl rfl (by kernel_rfl) (fun _ _ _ h => h) (Or.inl ⟨by rfl, ?_⟩) hHeld ?_ ?_
    rotate_left
    · rintro w' ⟨s0, s1, s2⟩
      refine load34_run (x := .tmp 9) _ ?_ ?_ s0 HI.out.len <;> rfl
    rotate_left; · simp only [Act.put, q_a, q_0, q_s, i64_w, i32_w]; rfl
    refine take_ (i := 5) (N := some 51) (v := ?_) (a' := ?_) #[tT,tT,tT,tT,tT,tT,tT,tT,tT,tT,fF,fF,fF,fF,fF,fF,fF] rfl rfl (by kernel_rfl) (fun _ _ _ h => h) (Or.inl ⟨by rfl, ?_⟩) hHeld ?_ ?_
    rotate_left
    · rintro w' ⟨s0, s1, s2⟩
      go_simp
      with_reducible rfl
    rotate_left; · simp only [Act.put, q_a, q_0, q_s, i64_w, i32_w]; rfl
    refine take_ (i := 10) (N := some 56) (v := ?_) (a' := ?_) #[tT,tT,tT,tT,tT,tT,tT,tT,tT,tT,tT,fF,fF,fF,fF,fF,fF] rfl rfl (by kernel_rfl) (fun _ _ _ h => h) (Or.inl ⟨by rfl, ?_⟩) hHeld ?_ ?_
    rotate_left
    · rintro w' ⟨s0, s1, s2⟩
      go_simp
      with_reducible rfl
    rotate_left; · simp only [Act.put, q_a, q_0, q_s, i64_w, i32_w]; rfl
    refine one_ (i := 11) (N := some 57) #[tT,tT,tT,tT,tT,tT,tT,tT,tT,tT,tT,tT,fF,fF,fF,fF,fF] rfl rfl (by kernel_rfl) (by decide) (fun K hK => ?_)
    refine goes_ Try.func20 (by kernel_rfl) rfl #[.agg p.ag, .int .i64 sa, .int .i64 sp] (by rfl) rfl rfl (by simp only [List.map_toArray, List.map_cons, List.map_nil]; rfl) ?_
    with_reducible refine (HRM.out _).mono ?_
    rintro e2 w32 ⟨A, rfl, hC, hx⟩
    refine ⟨_, rfl, ?_⟩
    replace HQc := Aside0.mk (below_step HQc.out hx)
    have HLC := Aside0.mk hC
    clear hx hC
    refine hK.out _ _ ⟨(HCK.out _ HQc.out).1, (HCK.out _ HQc.out).2.1, (HCK.out _ HQc.out).2.2⟩ (fun hHeld => ?_)
    clear hK K
    refine norm_ (a' := ?_) ?_ ?_
    rotate_left
    · show Act.put _ (some 57) _ = _
      simp only [Act.put, q_a, q_0, q_s, i64_w, i32_w]
      rfl
    refine pure_ (i := 12) (N := some 45) (v := ?_) (a' := ?_) #[tT,tT,tT,tT,tT,tT,tT,tT,tT,tT,tT,tT,tT,fF,fF,fF,fF] rfl rfl (by kernel_rfl) (fun _ _ _ h => h) (Or.inl ⟨by rfl, ?_⟩) ?_ ?_
    rotate_left; · intro w'; go_simp; with_reducible rfl
    rotate_left; · simp only [Act.put, q_a, q_0, q_s, i64_w, i32_w]; rfl
    refine pure_ (i := 13) (N := some 58) (v := ?_) (a' := ?_) #[tT,tT,tT,tT,tT,tT,tT,tT,tT,tT,tT,tT,tT,tT,fF,fF,fF] rfl rfl (by kernel_rfl) (fun _ _ _ h => h) (Or.inl ⟨by rfl, ?_⟩) ?_ ?_
    rotate_left; · intro w'; go_simp; with_reducible rfl
    rotate_left; · simp only [Act.put, q_a, q_0, q_s, i64_w, i32_w]; rfl
    refine pure_ (i := 14) (N := some 59) (v := ?_) (a' := ?_) #[tT,tT,tT,tT,tT,tT,tT,tT,tT,tT,tT,tT,tT,tT,tT,fF,fF] rfl rfl (by kernel_rfl) (fun _ _ _ h => h) (Or.inl ⟨by rfl, ?_⟩) ?_ ?_
    rotate_left; · intro w'; go_simp; with_reducible rfl
    rotate_left; · simp only [Act.put, q_a, q_0, q_s, i64_w, i32_w]; rfl
    refine pure_ (i := 15) (N := some 13) (v := ?_) (a' := ?_) #[tT,tT,tT,tT,tT,tT,tT,tT,tT,tT,tT,tT,tT,tT,tT,tT,fF] rfl rfl (by kernel_rfl) (fun _ _ _ h => h) (Or.inl ⟨by rfl, ?_⟩) ?_ ?_
    rotate_left; · intro w'; go_simp; with_reducible rfl
    rotate_left; · simp only [Act.put, q_a, q_0, q_s, i64_w, i32_w]; rfl
    refine pure_ (i := 16) (N := some 14) (v := ?_) (a' := ?_) #[tT,tT,tT,tT,tT,tT,tT,tT,tT,tT,tT,tT,tT,tT,tT,tT,tT] rfl rfl (by kernel_rfl) (fun _ _ _ h => h) (Or.inl ⟨by rfl, ?_⟩) ?_ ?_
    rotate_left; · intro w'; go_simp; with_reducible rfl
    rotate_left; · simp only [Act.put, q_a, q_0, q_s, i64_w, i32_w]; rfl
    refine done_ (by kernel_rfl) ?_
    go_upto_region 10 with fail
    refine wp_w (fun W => Below w7.heap.size w7 W ∧ kdEn.C W A Lr.length Lr) ?_ ?_
    · exact ⟨HQc.out, HLC.out⟩
    intro w8 h8
    have HB8 := Aside0.mk h8.1
    have HP8 := Aside0.mk (HP7.out.below h8.1)
    have HAL8 := Aside0.mk (all_calls HAO0.out h8.2 rfl (Nat.le_refl _) HLr.out)
    have HL0 := Aside0.mk HAO0.out.end_
    clear h8 HQc HLC HCK hHeld
    go_upto_region 11 with (first
      | ((with_reducible refine gate_dst (N := 61) rfl ?_); refine pool_load rfl rfl rfl HP8.out HI.out.len ?_)
      | (go_at_call 21; go_loud ((with_reducible refine HAL8.out.mono ?_); rintro e6 x6 ⟨rfl, hx⟩; have HX6 := Aside0.mk hx; clear hx))
      | ((with_reducible refine gate_dst (N := 15) rfl ?_); refine pool_alloc rfl rfl ?_; intro g15 hg15 w9 hp9 hb9 hs9; have HP9 := Aside0.mk hp9; have HB9 := Aside0.mk hb9; have HG15 := Aside0.mk hg15; clear hp9 hb9 hs9 hg15)
      | ((with_reducible refine gate_store (t := 34) (p := 15) rfl ?_); refine pool_store (q := q0) rfl rfl rfl rfl rfl HP9.out Po.z_len HL0.out ?_; intro wa hpa hca; have HPa := Aside0.mk hpa; have HCa := Aside0.mk hca; clear hpa hca))
    refine wp_w (fun W => PoolAt W g15 q0 ∧ Below x6.heap.size x6 W) ?_ ?_
    · exact ⟨HPa.out, Chg.step HB9.out HCa.out (Nat.le_of_eq HG15.out)⟩
    intro wb hb
    have HPb := Aside0.mk hb.1
    have HBb := Aside0.mk hb.2
    have HF10 := Aside0.mk (bk_ (bk_ HF7.out HB8.out) HX6.out)
    have HP10 := Aside0.mk (HP8.out.below HX6.out)
    have HB10 := Aside0.mk (below_step (below_step HB7.out HB8.out) HX6.out)
    clear hb HP9 HB9 HPa HCa
    go_wp2
    go_loopg [18, 17] 3 (fun kq v18 v17 w' => ∃ (i : Nat) (q : Po), v18 = .int .i64 (i : Int) ∧ v17 = .int .i64 0 ∧ Aside (kq + i = 3) ∧ Aside0 (Wait q s p.ep i) ∧ Aside0 (PoolAt w' g15 q ∧ Below x6.heap.size x6 w'))
    case atStart => exact ⟨0, q0, rfl, rfl, (by show _ = _; omega), HW0, Aside0.mk ⟨HPb.out, HBb.out⟩⟩
    case round =>
      obtain ⟨i, q, rfl, rfl, hk, HWT, HS⟩ := hrel
      have HKQ := Aside0.mk hk.out
      clear hk
      rename World => wr1
      have HQP := Aside0.mk HS.out.1
      have HQL := Aside0.mk HWT.out.len
      by_cases hlt : i < 3
      · have hd : decide (i < 3) = true := decide_eq_true hlt
        have hd2 : decide ((i : Int) < 3) = true := decide_eq_true (by omega)
        have HLT := Aside0.mk hlt
        have HGK := Aside0.mk (show 0 < gk from by have := HKQ.out; omega)
        obtain ⟨ky, hky⟩ : ∃ x, keyL (wrap64 (a3 + (i : Int))) = x := ⟨_, rfl⟩
        have HKY := Aside0.mk (fun W => hky ▸ key5_calls (wrap64 (a3 + (i : Int))) W)
        obtain ⟨r, hao, hwt⟩ := wait_step HSI.out (E := p.ep) (by have := HI.out.ep; omega) hlt HWT.out ky
        obtain ⟨Lq, hLq⟩ : ∃ L, enR ky :: freeL q 64 0 = L := ⟨_, rfl⟩
        rw [hLq] at hao
        have HAO := Aside0.mk hao
        have HWN := Aside0.mk hwt
        have HRL := Aside0.mk hao.end_
        have HRT := Aside0.mk (fun W => hLq ▸ rotate_calls q HQL.out ky W)
        have HLN := Aside0.mk (show Lq.length ≤ 1000 from by rw [← hLq]; have := freeL_len q 64 0; simp only [List.length_cons]; omega)
        have HCK := Aside0.mk (fun W (h : Below wr1.heap.size wr1 W) => HQP.out.below h)
        have HQc := Aside0.mk (Below.refl wr1.heap.size wr1).drew
        clear hlt hao hwt hky hLq
        go_upto_region 16 with fail
        refine start_ (n := 14) (S := fun w' => PoolAt w' g15 q) (ds := [12]) #[fF,fF,fF,fF,fF,fF,fF,fF,fF,fF,fF,fF,fF,fF] (by kernel_rfl) rfl rfl (HCK.out _ HQc.out) (fun hHeld => ?_)
        refine pure_ (i := 2) (N := some 80) (v := ?_) (a' := ?_) #[fF,fF,tT,fF,fF,fF,fF,fF,fF,fF,fF,fF,fF,fF] rfl rfl (by kernel_rfl) (fun _ _ _ h => h) (Or.inl ⟨by rfl, ?_⟩) ?_ ?_
        rotate_left; · intro w'; go_simp; with_reducible rfl
        rotate_left; · simp only [Act.put, q_a, q_0, q_s, i64_w, i32_w]; rfl
        refine pure_ (i := 3) (N := some 81) (v := ?_) (a' := ?_) #[fF,fF,tT,tT,fF,fF,fF,fF,fF,fF,fF,fF,fF,fF] rfl rfl (by kernel_rfl) (fun _ _ _ h => h) (Or.inl ⟨by rfl, ?_⟩) ?_ ?_
        rotate_left; · intro w'; go_simp; with_reducible rfl
        rotate_left; · simp only [Act.put, q_a, q_0, q_s, i64_w, i32_w]; rfl
        refine pure_ (i := 4) (N := some 82) (v := ?_) (a' := ?_) #[fF,fF,tT,tT,tT,fF,fF,fF,fF,fF,fF,fF,fF,fF] rfl rfl (by kernel_rfl) (fun _ _ _ h => h) (Or.inl ⟨by rfl, ?_⟩) ?_ ?_
        rotate_left; · intro w'; go_simp; with_reducible rfl
        rotate_left; · simp only [Act.put, q_a, q_0, q_s, i64_w, i32_w]; rfl
        refine take_ (i := 0) (N := some 78) (v := ?_) (a' := ?_) #[tT,fF,tT,tT,tT,fF,fF,fF,fF,fF,fF,fF,fF,fF] rfl rfl (by kernel_rfl) (fun _ _ _ h => h) (Or.inl ⟨by rfl, ?_⟩) hHeld ?_ ?_
        rotate_left
        · intro w' s0
          refine load34_run (x := .tmp 15) _ ?_ ?_ s0 HQL.out <;> rfl
        rotate_left; · simp only [Act.put, q_a, q_0, q_s, i64_w, i32_w]; rfl
        refine take_ (i := 1) (N := some 79) (v := ?_) (a' := ?_) #[tT,tT,tT,tT,tT,fF,fF,fF,fF,fF,fF,fF,fF,fF] rfl rfl (by kernel_rfl) (fun _ _ _ h => h) (Or.inl ⟨by rfl, ?_⟩) hHeld ?_ ?_
        rotate_left
        · intro w' s0
          refine load34_run (x := .tmp 15) _ ?_ ?_ s0 HQL.out <;> rfl
        rotate_left; · simp only [Act.put, q_a, q_0, q_s, i64_w, i32_w]; rfl
        refine one_ (i := 5) (N := some 83) #[tT,tT,tT,tT,tT,tT,fF,fF,fF,fF,fF,fF,fF,fF] rfl rfl (by kernel_rfl) (by decide) (fun K hK => ?_)
        refine goes_ Try.func23 (by kernel_rfl) rfl #[.int .i64 (wrap64 (a3 + (i : Int)))] (by rfl) rfl rfl (by simp only [List.map_toArray, List.map_cons, List.map_nil]; rfl) ?_
        with_reducible refine (HKY.out _).mono ?_
        rintro e3 w33 ⟨rfl, hx⟩
        refine ⟨_, rfl, ?_⟩
        replace HQc := Aside0.mk (below_step HQc.out hx)
        refine hK.out _ _ (HCK.out _ HQc.out) (fun hHeld => ?_)
        clear hK K
        refine norm_ (a' := ?_) ?_ ?_
        rotate_left
        · show Act.put _ (some 83) _ = _
          simp only [Act.put, q_a, q_0, q_s, i64_w, i32_w]
          rfl
        refine one_ (i := 6) (N := some 84) #[tT,tT,tT,tT,tT,tT,tT,fF,fF,fF,fF,fF,fF,fF] rfl rfl (by kernel_rfl) (by decide) (fun K hK => ?_)
        refine goes_ Try.func22 (by kernel_rfl) rfl #[.agg q.ag, .agg #[.int .u64 ky.a, .int .u64 ky.b]] (by rfl) rfl rfl (by simp only [List.map_toArray, List.map_cons, List.map_nil]; rfl) ?_
        with_reducible refine (HRT.out _).mono ?_
        rintro e4 w34 ⟨A2, rfl, hC, hx⟩
        refine ⟨_, rfl, ?_⟩
        replace HQc := Aside0.mk (below_step HQc.out hx)
        have HAL2 := Aside0.mk (fun W (hW : Below w34.heap.size w34 W) => all_calls HAO.out (w := W) (Kd.C_below hC hW) rfl (Nat.le_refl _) HLN.out)
        clear hx hC
        refine hK.out _ _ (HCK.out _ HQc.out) (fun hHeld => ?_)
        clear hK K
        refine norm_ (a' := ?_) ?_ ?_
        rotate_left
        · show Act.put _ (some 84) _ = _
          simp only [Act.put, q_a, q_0, q_s, i64_w, i32_w]
          rfl
        refine one_ (i := 7) (N := some 85) #[tT,tT,tT,tT,tT,tT,tT,tT,fF,fF,fF,fF,fF,fF] rfl rfl (by kernel_rfl) (by decide) (fun K hK => ?_)
        refine goes_ Try.func21 (by kernel_rfl) rfl #[.agg q.ag, .slice A2 Lq.length Lq.length] (by rfl) rfl rfl (by simp only [List.map_toArray, List.map_cons, List.map_nil]; rfl) ?_
        with_reducible refine (HAL2.out _ (Below.refl _ _)).mono ?_
        rintro e5 w35 ⟨rfl, hx⟩
        refine ⟨_, rfl, ?_⟩
        replace HQc := Aside0.mk (below_step HQc.out hx)
        clear hx
        refine hK.out _ _ (HCK.out _ HQc.out) (fun hHeld => ?_)
        clear hK K
        refine norm_ (a' := ?_) ?_ ?_
        rotate_left
        · show Act.put _ (some 85) _ = _
          simp only [Act.put, q_a, q_0, q_s, i64_w, i32_w]
          rfl
        refine pure_ (i := 8) (N := some 77) (v := ?_) (a' := ?_) #[tT,tT,tT,tT,tT,tT,tT,tT,tT,fF,fF,fF,fF,fF] rfl rfl (by kernel_rfl) (fun _ _ _ h => h) (Or.inl ⟨by rfl, ?_⟩) ?_ ?_
        rotate_left; · intro w'; go_simp; with_reducible rfl
        rotate_left; · simp only [Act.put, q_a, q_0, q_s, i64_w, i32_w]; rfl
        refine pure_ (i := 9) (N := some 86) (v := ?_) (a' := ?_) #[tT,tT,tT,tT,tT,tT,tT,tT,tT,tT,fF,fF,fF,fF] rfl rfl (by kernel_rfl) (fun _ _ _ h => h) (Or.inl ⟨by rfl, ?_⟩) ?_ ?_
        rotate_left; · intro w'; go_simp; with_reducible rfl
        rotate_left; · simp only [Act.put, q_a, q_0, q_s, i64_w, i32_w]; rfl
        refine pure_ (i := 10) (N := some 87) (v := ?_) (a' := ?_) #[tT,tT,tT,tT,tT,tT,tT,tT,tT,tT,tT,fF,fF,fF] rfl rfl (by kernel_rfl) (fun _ _ _ h => h) (Or.inl ⟨by rfl, ?_⟩) ?_ ?_
        rotate_left; · intro w'; go_simp; with_reducible rfl
        rotate_left; · simp only [Act.put, q_a, q_0, q_s, i64_w, i32_w]; rfl
        refine pure_ (i := 11) (N := some 88) (v := ?_) (a' := ?_) #[tT,tT,tT,tT,tT,tT,tT,tT,tT,tT,tT,tT,fF,fF] rfl rfl (by kernel_rfl) (fun _ _ _ h => h) (Or.inl ⟨by rfl, ?_⟩) ?_ ?_
        rotate_left; · intro w'; go_simp; with_reducible rfl
        rotate_left; · simp only [Act.put, q_a, q_0, q_s, i64_w, i32_w]; rfl
        refine last_ (i := 12) (N := none) #[tT,tT,tT,tT,tT,tT,tT,tT,tT,tT,tT,tT,tT,fF] rfl rfl (by kernel_rfl) (by decide) (fun K hK => ?_)
        refine skip_ (w1 := w35.setRow g15 r.ag) (by rfl) rfl (store34_run w35 rfl rfl rfl (HQP.out.below HQc.out) HQL.out HRL.out) ?_
        refine hK.out _ _ ?_
        clear hK K
        refine pure_ (i := 13) (N := some 17) (v := ?_) (a' := ?_) #[tT,tT,tT,tT,tT,tT,tT,tT,tT,tT,tT,tT,tT,tT] rfl rfl (by kernel_rfl) (fun _ _ _ h => h) (Or.inl ⟨by rfl, ?_⟩) ?_ ?_
        rotate_left; · intro w'; go_simp; with_reducible rfl
        rotate_left; · simp only [Act.put, q_a, q_0, q_s, i64_w, i32_w]; rfl
        refine done_ (by kernel_rfl) ?_
        have HSR := Aside0.mk ((HQP.out.below HQc.out).setRow r)
        refine ex_w (fun W => PoolAt W g15 r ∧ Below x6.heap.size x6 W) ?_ ?_
        · have hb := Chg.step (below_step HS.out.2 HQc.out) HSR.out.2 (Nat.le_of_eq HG15.out)
          first
            | exact ⟨HSR.out.1, hb⟩
            | exact ⟨HSR.out.1, hb.drew⟩
        intro wc hc
        have HPC := Aside0.mk hc.1
        have HBC := Aside0.mk hc.2
        clear hc hHeld HCK HQc HSR
        go_wp2
        go_roundg (gk - 1)
        case measure => have := HGK.out; omega
        case rel => exact ⟨i + 1, r, (by have := HLT.out; show Value.int _ _ = Value.int _ _; first | rfl | (rw [wid (by omega) (by omega)]; rfl)), rfl, (by show _ = _; have := HKQ.out; have := HGK.out; omega), HWN, Aside0.mk ⟨HPC.out, HBC.out⟩⟩
      · have hd : decide (i < 3) = false := decide_eq_false hlt
        have hd2 : decide ((i : Int) < 3) = false := decide_eq_false (by omega)
        have hi3 : i = 3 := by have := HKQ.out; omega
        subst hi3
        have HEP := Aside0.mk (show q.ep = p.ep + 3 from HWT.out.ep)
        have HZS := Aside0.mk (show (q.s s).st = 0 from by have h := HWT.out.sl; rw [if_neg (by omega)] at h; exact h)
        obtain ⟨⟨t, is⟩, hti⟩ : ∃ x, readC ⟨q.ep, q.k0, q.k1, q.k2⟩ 1 ⟨5000, pq, pad, ppo⟩ ck = x := ⟨_, rfl⟩
        have HTB := Aside0.mk (show 0 ≤ t ∧ t ≤ 63 from by have h := readC_b ⟨q.ep, q.k0, q.k1, q.k2⟩ 1 ⟨5000, pq, pad, ppo⟩ ck; rw [hti] at h; exact h)
        have HRD := Aside0.mk (fun W => hti ▸ cread_calls ⟨q.ep, q.k0, q.k1, q.k2⟩ 1 ⟨5000, pq, pad, ppo⟩ ck W)
        have HF11 := Aside0.mk (bk_ HF10.out HS.out.2)
        have HP11 := Aside0.mk (HP10.out.below HS.out.2)
        obtain ⟨j0, j1, j2, j3⟩ := c4 HF11.out
        obtain ⟨r0, r1, r2, r3, r4, r5, r6⟩ := HQP.out.ring HQL.out
        clear hlt hti
        go_upto_region 20 with (first
          | (go_at_call 24; go_loud ((with_reducible refine (HRD.out _).mono ?_); rintro e7 x7 ⟨rfl, hx⟩; have HX7 := Aside0.mk hx; clear hx)))
        clear j0 j1 j2 j3 r0 r1 r2 r3 r4 r5 r6
        obtain ⟨y0, y1, y2, y3, y4⟩ := (HQP.out.below HX7.out).slot HQL.out HSI.out
        obtain ⟨r0, r1, r2, r3, r4, r5, r6⟩ := (HQP.out.below HX7.out).ring HQL.out
        obtain ⟨m0, m1, m2, m3, m4, m5, m6⟩ := (HP11.out.below HX7.out).ring HI.out.len
        rw [HZS.out] at y0
        rw [HEP.out] at r0
        have hw3 : wrap64 (p.ep + 3) = p.ep + 3 := wid (by have := HI.out.ep; omega) (by have := HI.out.ep; omega)
        have ht0 : decide (0 ≤ t) = true := decide_eq_true HTB.out.1
        have ht1 : decide (t < 64) = true := decide_eq_true (by have := HTB.out.2; omega)
        have HBF := Aside0.mk (below_step (below_step HB10.out HS.out.2) HX7.out)
        cases is with
        | false =>
          go_wp2
          go_ret
          exact ⟨by simp, HBF.out⟩
        | true =>
          go_wp2
          go_ret
          exact ⟨by simp, HBF.out⟩
  · have HDT := Aside0.mk (decide_eq_false ht)
    rw [HDT.out] at HTK
    clear ht
    go_wp2_with (first
      | (go_at_call 8; go_loud ((with_reducible refine (HW1.out _).mono ?_); rintro e3 x3 ⟨rfl, hx⟩; have HX3 := Aside0.mk hx; obtain ⟨d0, d1, d2, d3, d4⟩ := (HP3.out.below hx).slot HI.out.len HSI.out; rw [HSS.out] at d0 d1 d2 d3 d4; clear hx))
      | (go_at_call 9; go_loud ((with_reducible refine (HTK.out _).mono ?_); rintro e4 x4 ⟨rfl, hx⟩; have HX4 := Aside0.mk (below_step HX3.out hx); clear hx)))
    go_ret
    exact ⟨rfl, below_step HB3.out HX4.out⟩
end Go.Proofs.Ytgkmbefamcnifaa.TB
namespace Go.Proofs.Ytgkmbefamcnifaa.PL
set_option linter.unusedVariables false
open Go.RowKit Go.Proofs.Ytgkmbefamcnifaa.Hp Go.Proofs.Ytgkmbefamcnifaa.SB Go.Proofs.YtgkmbefamcnifaaW.PrintWords Go.Proofs.YtgkmbefamcnifaaW.PrintLast Go.Proofs.YtgkmbefamcnifaaW.PrintMore Go.Proofs.Ytgkmbefamcnifaa.WB
theorem TopQuiet_walk (a0 : Option Addr) (len0 cap0 : Nat) (z0 : List Int) (a1 : Int) (a2 : Int) (a3 : Int) (w : World) (w0 : (a0 = none ∧ len0 = 0 ∧ cap0 = 0 ∧ z0 = []) ∨ ∃ x, a0 = some x ∧ len0 ≤ cap0 ∧ cap0 ≤ maxLen ∧ z0.length = cap0 ∧ (∀ j, j < z0.length → w.cell? (x.add j) = some (.int .i64 (z0.getD j 0))) ∧ ∀ n ∈ z0, (Lit.int .i64 n).wf = true) (y0 : len0 * 8 ≤ 140737488351232) (w1 : (Lit.int .i64 a1).wf = true) (w2 : (Lit.int .i64 a2).wf = true) (w3 : (Lit.int .i64 a3).wf = true) :
    Calls Try.prog 5 #[.slice a0 len0 cap0, .int .i64 a1, .int .i64 a2, .int .i64 a3] w fun e w' => e = .returned (.bool true) ∧ Below w.heap.size w w' := by
  obtain ⟨ns0, rfl, hr0, hm0, hw0, hc0⟩ := ReadsInt.ofRowC w0
  exact Go.Proofs.Ytgkmbefamcnifaa.TB.TopQuiet_walk a1 a2 a3 (show Kd.C (Kd.int .i64) w a0 ns0.length ns0 from Kd.C_of_reads (d := (0 : Int)) (h1 := fun _ => rfl) hr0) rfl hc0
end Go.Proofs.Ytgkmbefamcnifaa.PL
