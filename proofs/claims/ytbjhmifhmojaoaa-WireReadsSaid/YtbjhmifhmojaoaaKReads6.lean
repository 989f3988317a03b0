/- Lemmas and contracts that the row YtbjhmifhmojaoaaLawWireReads goes by (part 6; joined by pack.py out of this session's texts, and of words that the kit's print lays). -/
import Derived.Test.YtbjhmifhmojaoaaKReads5
namespace Go.Proofs.Ytbjhmifhmojaoaa.WB
set_option linter.unusedVariables false
set_option linter.unusedSimpArgs false
open Go.RowKit Go.Proofs.Ytbjhmifhmojaoaa.Hp Go.Proofs.Ytbjhmifhmojaoaa.SB Go.Proofs.YtbjhmifhmojaoaaW.PrintWords Go.Proofs.YtbjhmifhmojaoaaW.PrintLast Go.Proofs.YtbjhmifhmojaoaaW.PrintMore
theorem ne_of_hat {u v : Option Nat} {n : Nat} (h : ∀ k, u = some k → k < n) (hv : ∃ b, v = some b ∧ n ≤ b) : u ≠ v := by
  rintro rfl
  obtain ⟨b, rfl, hb⟩ := hv
  have := h b rfl
  omega
theorem ne_of_app {u v v2 : Option Nat} {n : Nat} (h : ∀ k, u = some k → k < n) (hne : v ≠ u) (hv : v2 = v ∨ ∃ b, v2 = some b ∧ n ≤ b) : v2 ≠ u := by
  rcases hv with rfl | hv
  · exact hne
  · exact (ne_of_hat h hv).symm
theorem below_of_none {w w' : World} (h : w.grownBy w' none) : Below w.heap.size w w' := ⟨h.os, h.tape, h.output, h.size, fun k hk => h.block k hk (by simp)⟩
set_option maxHeartbeats 8000000 in
set_option maxRecDepth 100000 in
theorem rparse_stream {c : Nat} {A : Option Addr} {l : List Int} {w : World} (hr : Kd.C (Kd.int .u8) w A l.length l) (hc : l.length ≤ c) (hl : l.length ≤ 100000) (hb : Bytes l) (he : headE l = 0) (h24 : 24 ≤ l.length) (hk : l.getD 0 0 = 1) :
    Calls Try.prog 24 #[.slice A l.length c] w (Parsed w l) := by
  have HR := Aside0.mk hr
  have HC := Aside0.mk hc
  have HL := Aside0.mk hl
  have HY := Aside0.mk hb
  have HE := Aside0.mk he
  have HKD := Aside0.mk hk
  have H24 := Aside0.mk (show 24 ≤ l.length by omega)
  have H16 := Aside0.mk (show 16 ≤ l.length by omega)
  have HLE := Aside0.mk h24
  have HBA := Aside0.mk (fun o => (Below.refl w.heap.size w).alloc (Nat.le_refl _) o)
  obtain ⟨hh1, hh2, hh3, hh4, hh5, hh6⟩ := head0 he
  obtain ⟨ad, rfl, hcell⟩ := cells_of hr (by omega)
  have c0 := hcell 0 (by omega)
  rw [Addr.add_zero'] at c0
  have b0 := getD_byte hb 0
  obtain ⟨x0, e0⟩ : ∃ x, l.getD 0 0 = x := ⟨_, rfl⟩
  rw [e0] at c0 b0
  have w0 : wrap64 x0 = x0 := wid (by omega) (by omega)
  have i0 : (0 : Int) < (l.length : Int) := by omega
  have c1 : w.cell? ⟨ad.block, ad.off + 1, none⟩ = _ := hcell 1 (by omega)
  have b1 := getD_byte hb 1
  obtain ⟨x1, e1⟩ : ∃ x, l.getD 1 0 = x := ⟨_, rfl⟩
  rw [e1] at c1 b1
  have w1 : wrap64 x1 = x1 := wid (by omega) (by omega)
  have i1 : (1 : Int) < (l.length : Int) := by omega
  have c12 : w.cell? ⟨ad.block, ad.off + 12, none⟩ = _ := hcell 12 (by omega)
  have b12 := getD_byte hb 12
  obtain ⟨x12, e12⟩ : ∃ x, l.getD 12 0 = x := ⟨_, rfl⟩
  rw [e12] at c12 b12
  have w12 : wrap64 x12 = x12 := wid (by omega) (by omega)
  have i12 : (12 : Int) < (l.length : Int) := by omega
  have c13 : w.cell? ⟨ad.block, ad.off + 13, none⟩ = _ := hcell 13 (by omega)
  have b13 := getD_byte hb 13
  obtain ⟨x13, e13⟩ : ∃ x, l.getD 13 0 = x := ⟨_, rfl⟩
  rw [e13] at c13 b13
  have w13 : wrap64 x13 = x13 := wid (by omega) (by omega)
  have i13 : (13 : Int) < (l.length : Int) := by omega
  have c20 : w.cell? ⟨ad.block, ad.off + 20, none⟩ = _ := hcell 20 (by omega)
  have b20 := getD_byte hb 20
  obtain ⟨x20, e20⟩ : ∃ x, l.getD 20 0 = x := ⟨_, rfl⟩
  rw [e20] at c20 b20
  have w20 : wrap64 x20 = x20 := wid (by omega) (by omega)
  have i20 : (20 : Int) < (l.length : Int) := by omega
  have c21 : w.cell? ⟨ad.block, ad.off + 21, none⟩ = _ := hcell 21 (by omega)
  have b21 := getD_byte hb 21
  obtain ⟨x21, e21⟩ : ∃ x, l.getD 21 0 = x := ⟨_, rfl⟩
  rw [e21] at c21 b21
  have w21 : wrap64 x21 = x21 := wid (by omega) (by omega)
  have i21 : (21 : Int) < (l.length : Int) := by omega
  have i0n : 0 < l.length := by omega
  have HC0 := Aside0.mk (show ∀ W, Below w.heap.size w W → W.cell? ad = some (.int .u8 x0) from fun W h => (h.cell (World.block_lt_of_cell? w _ c0)).trans c0)
  have HC1 := Aside0.mk (show ∀ W, Below w.heap.size w W → W.cell? ⟨ad.block, ad.off + 1, none⟩ = some (.int .u8 x1) from fun W h => (h.cell (World.block_lt_of_cell? w _ c1)).trans c1)
  have HC12 := Aside0.mk (show ∀ W, Below w.heap.size w W → W.cell? ⟨ad.block, ad.off + 12, none⟩ = some (.int .u8 x12) from fun W h => (h.cell (World.block_lt_of_cell? w _ c12)).trans c12)
  have HC13 := Aside0.mk (show ∀ W, Below w.heap.size w W → W.cell? ⟨ad.block, ad.off + 13, none⟩ = some (.int .u8 x13) from fun W h => (h.cell (World.block_lt_of_cell? w _ c13)).trans c13)
  have HC20 := Aside0.mk (show ∀ W, Below w.heap.size w W → W.cell? ⟨ad.block, ad.off + 20, none⟩ = some (.int .u8 x20) from fun W h => (h.cell (World.block_lt_of_cell? w _ c20)).trans c20)
  have HC21 := Aside0.mk (show ∀ W, Below w.heap.size w W → W.cell? ⟨ad.block, ad.off + 21, none⟩ = some (.int .u8 x21) from fun W h => (h.cell (World.block_lt_of_cell? w _ c21)).trans c21)
  have EE := Aside0.mk (And.intro e0 (And.intro e1 (And.intro e12 (And.intro e13 (And.intro e20 (And.intro e21 trivial))))))
  clear hcell c0 c1 c12 c13 c20 c21 e0 e1 e12 e13 e20 e21
  have HCL := Aside0.mk hc
  have G2 := Aside0.mk (fun W (h : Below w.heap.size w W) => num_calls (l := l) (w := W) 2 2 (iz := 2) (mz := 2) (Kd.C_below HR.out h) rfl HC.out HY.out HL.out rfl rfl (by omega) (by have := H16.out; omega))
  obtain ⟨hcut16, hC16⟩ := cut_to (A := some ad) (c := c) (l := l) 16 (jz := 16) rfl (by have := H16.out; omega) rfl HC.out
  have GR := Aside0.mk (fun W (h : Below w.heap.size w W) => right_calls_r (c := c) (hC16 W (Kd.C_below HR.out h)) (by rw [List.length_take]; have := H16.out; omega) (by have := H16.out; have := HC.out; omega) (HY.out.take 16) (by rw [List.length_take]; omega))
  clear hC16
  have d0 : decide ((l.length : Int) < 16) = false := decide_eq_false (by omega)
  have d1 : decide (l.length < 16) = false := decide_eq_false (by omega)
  have m0 := HC0.out _ (HBA.out (.cells zero13 26))
  have m13 := HC13.out _ (HBA.out (.cells zero13 26))
  rw [EE.out.1] at hk
  have hx13 : x13 = 0 := by rw [← EE.out.2.2.2.1]; exact hh4
  have t1b0 : decide (x0 < 1) = false := decide_eq_false (by omega)
  have t2b0 : decide (3 < x0) = false := decide_eq_false (by omega)
  have t3b0 : (numL l 2 2 == (l.length : Int)) = true := beq_iff_eq.mpr (by omega)
  have t3b1 : (numL l 2 2 != (l.length : Int)) = false := by rw [bne, t3b0]; rfl
  have t4b0 : decide (1500 < (l.length : Int)) = false := decide_eq_false (by omega)
  have t4b1 : decide (1500 < l.length) = false := decide_eq_false (by omega)
  have t5b0 : (x13 == 0) = true := beq_iff_eq.mpr (by omega)
  have t5b1 : (x13 != 0) = false := by rw [bne, t5b0]; rfl
  have t6b0 : (fold (pairs (l.take 16)) == 65535) = true := beq_iff_eq.mpr (by omega)
  have t6b1 : (fold (pairs (l.take 16)) != 65535) = false := by rw [bne, t6b0]; rfl
  have t7b0 : decide ((l.length : Int) < 24) = false := decide_eq_false (by omega)
  have t7b1 : decide (l.length < 24) = false := decide_eq_false (by omega)
  have q3 : (x0 == 3) = false := by rw [hk]; rfl
  have q3n : (x0 != 3) = true := by rw [hk]; rfl
  have q2 : (x0 == 2) = false := by rw [hk]; rfl
  have q2n : (x0 != 2) = true := by rw [hk]; rfl
  have t8b0 : (x0 == 3) = false := by rw [hk]; rfl
  clear he hr hc hl hb h24 hk hh1 hh2 hh3 hh4 hh5 hh6
  go_enter Try.func24, Try.ntmps24
  go_upto_region 11 with (first | (go_at_call 32; (with_reducible refine (G2.out _ ?hb).mono ?_); (case hb => (repeat (first | with_reducible exact HBA.out _ | with_reducible apply pw_below_drewN))); rintro e w3 ⟨rfl, ⟨⟨nq, rfl⟩⟩⟩) | (go_at_call 33; (with_reducible refine (GR.out _ ?hb).mono ?_); (case hb => (repeat (first | with_reducible exact HBA.out _ | with_reducible apply pw_below_drewN))); rintro e w3 ⟨rfl, ⟨⟨nq, rfl⟩⟩⟩))
  generalize hW : World.drewN _ _ = W1
  have HBR : Aside0 (Below w.heap.size w W1) := Aside0.mk (by rw [← hW]; repeat (first | with_reducible exact HBA.out _ | with_reducible apply pw_below_drewN))
  have HK1 : Aside0 (W1.heap[w.heap.size]? = some (.cells zero13 26 (0, 0))) := Aside0.mk (by rw [← hW]; exact new_blk w _)
  have HR1 := Aside0.mk (Kd.C_below HR.out HBR.out)
  have HG1 := Aside0.mk (show w.heap.size ≤ W1.heap.size from HBR.out.size)
  have HG2 := Aside0.mk (show w.heap.size < W1.heap.size from blk_lt HK1.out)
  have HBS := Aside0.mk (Below.refl W1.heap.size W1)
  clear hW hcut16 m0 m13 t1b0 t2b0 t3b0 t3b1 t4b0 t4b1 t5b0 t5b1 t6b0 t6b1 t7b0 t7b1 d0 d1 G2 GR HBA
  refine start_ (n := 19) (S := fun w' => w'.cell? ad = some (.int .u8 x0) ∧ w'.cell? ⟨ad.block, ad.off + 1, none⟩ = some (.int .u8 x1) ∧ w'.cell? ⟨ad.block, ad.off + 12, none⟩ = some (.int .u8 x12)) (ds := []) #[false, false, false, false, false, false, false, false, false, false, false, false, false, false, false, false, false, false, false] (by kernel_rfl) rfl rfl ⟨(HC0.out _ (by repeat (first | (with_reducible first | exact HBR.out | apply below_alloc | apply pw_below_drewN | apply below_drew1) | exact HBR.out))), (HC1.out _ (by repeat (first | (with_reducible first | exact HBR.out | apply below_alloc | apply pw_below_drewN | apply below_drew1) | exact HBR.out))), (HC12.out _ (by repeat (first | (with_reducible first | exact HBR.out | apply below_alloc | apply pw_below_drewN | apply below_drew1) | exact HBR.out)))⟩ (fun hHeld => ?_)
  refine pure_ (i := 0) (N := some 63) (v := ?_) (a' := ?_) #[true, false, false, false, false, false, false, false, false, false, false, false, false, false, false, false, false, false, false] rfl rfl (by kernel_rfl) (fun _ _ _ h => h) (Or.inl ⟨by rfl, ?_⟩) ?_ ?_
  rotate_left
  · intro w'
    go_simp
    with_reducible rfl
  rotate_left
  · simp only [Act.put, List.setIfInBounds_toArray, List.set_cons_zero, List.set_cons_succ, i64_w, i32_w]
    rfl
  refine pure_ (i := 1) (N := some 64) (v := ?_) (a' := ?_) #[true, true, false, false, false, false, false, false, false, false, false, false, false, false, false, false, false, false, false] rfl rfl (by kernel_rfl) (fun _ _ _ h => h) (Or.inl ⟨by rfl, ?_⟩) ?_ ?_
  rotate_left
  · intro w'
    go_simp
    with_reducible rfl
  rotate_left
  · simp only [Act.put, List.setIfInBounds_toArray, List.set_cons_zero, List.set_cons_succ, i64_w, i32_w]
    rfl
  refine pure_ (i := 4) (N := some 67) (v := ?_) (a' := ?_) #[true, true, false, false, true, false, false, false, false, false, false, false, false, false, false, false, false, false, false] rfl rfl (by kernel_rfl) (fun _ _ _ h => h) (Or.inl ⟨by rfl, ?_⟩) ?_ ?_
  rotate_left
  · intro w'
    go_simp
    with_reducible rfl
  rotate_left
  · simp only [Act.put, List.setIfInBounds_toArray, List.set_cons_zero, List.set_cons_succ, i64_w, i32_w]
    rfl
  refine pure_ (i := 5) (N := some 68) (v := ?_) (a' := ?_) #[true, true, false, false, true, true, false, false, false, false, false, false, false, false, false, false, false, false, false] rfl rfl (by kernel_rfl) (fun _ _ _ h => h) (Or.inl ⟨by rfl, ?_⟩) ?_ ?_
  rotate_left
  · intro w'
    go_simp
    with_reducible rfl
  rotate_left
  · simp only [Act.put, List.setIfInBounds_toArray, List.set_cons_zero, List.set_cons_succ, i64_w, i32_w]
    rfl
  refine pure_ (i := 8) (N := some 71) (v := ?_) (a' := ?_) #[true, true, false, false, true, true, false, false, true, false, false, false, false, false, false, false, false, false, false] rfl rfl (by kernel_rfl) (fun _ _ _ h => h) (Or.inl ⟨by rfl, ?_⟩) ?_ ?_
  rotate_left
  · intro w'
    go_simp
    with_reducible rfl
  rotate_left
  · simp only [Act.put, List.setIfInBounds_toArray, List.set_cons_zero, List.set_cons_succ, i64_w, i32_w]
    rfl
  refine pure_ (i := 9) (N := some 72) (v := ?_) (a' := ?_) #[true, true, false, false, true, true, false, false, true, true, false, false, false, false, false, false, false, false, false] rfl rfl (by kernel_rfl) (fun _ _ _ h => h) (Or.inl ⟨by rfl, ?_⟩) ?_ ?_
  rotate_left
  · intro w'
    go_simp
    with_reducible rfl
  rotate_left
  · simp only [Act.put, List.setIfInBounds_toArray, List.set_cons_zero, List.set_cons_succ, i64_w, i32_w]
    rfl
  refine pure_ (i := 12) (N := some 75) (v := ?_) (a' := ?_) #[true, true, false, false, true, true, false, false, true, true, false, false, true, false, false, false, false, false, false] rfl rfl (by kernel_rfl) (fun _ _ _ h => h) (Or.inl ⟨by rfl, ?_⟩) ?_ ?_
  rotate_left
  · intro w'
    go_simp
    with_reducible rfl
  rotate_left
  · simp only [Act.put, List.setIfInBounds_toArray, List.set_cons_zero, List.set_cons_succ, i64_w, i32_w]
    rfl
  refine pure_ (i := 14) (N := some 77) (v := ?_) (a' := ?_) #[true, true, false, false, true, true, false, false, true, true, false, false, true, false, true, false, false, false, false] rfl rfl (by kernel_rfl) (fun _ _ _ h => h) (Or.inl ⟨by rfl, ?_⟩) ?_ ?_
  rotate_left
  · intro w'
    go_simp
    with_reducible rfl
  rotate_left
  · simp only [Act.put, List.setIfInBounds_toArray, List.set_cons_zero, List.set_cons_succ, i64_w, i32_w]
    rfl
  refine take_ (i := 2) (N := some 65) (v := ?_) (a' := ?_) #[true, true, true, false, true, true, false, false, true, true, false, false, true, false, true, false, false, false, false] rfl rfl (by kernel_rfl) (fun _ _ _ h => h) (Or.inl ⟨by rfl, ?_⟩) hHeld ?_ ?_
  rotate_left
  · rintro w' ⟨s0, s1, s2⟩
    go_simp
    with_reducible rfl
  rotate_left
  · simp only [Act.put, List.setIfInBounds_toArray, List.set_cons_zero, List.set_cons_succ, i64_w, i32_w]
    rfl
  refine pure_ (i := 3) (N := some 66) (v := ?_) (a' := ?_) #[true, true, true, true, true, true, false, false, true, true, false, false, true, false, true, false, false, false, false] rfl rfl (by kernel_rfl) (fun _ _ _ h => h) (Or.inl ⟨by rfl, ?_⟩) ?_ ?_
  rotate_left
  · intro w'
    go_simp
    with_reducible rfl
  rotate_left
  · simp only [Act.put, List.setIfInBounds_toArray, List.set_cons_zero, List.set_cons_succ, i64_w, i32_w]
    rfl
  refine take_ (i := 6) (N := some 69) (v := ?_) (a' := ?_) #[true, true, true, true, true, true, true, false, true, true, false, false, true, false, true, false, false, false, false] rfl rfl (by kernel_rfl) (fun _ _ _ h => h) (Or.inl ⟨by rfl, ?_⟩) hHeld ?_ ?_
  rotate_left
  · rintro w' ⟨s0, s1, s2⟩
    go_simp
    with_reducible rfl
  rotate_left
  · simp only [Act.put, List.setIfInBounds_toArray, List.set_cons_zero, List.set_cons_succ, i64_w, i32_w]
    rfl
  refine pure_ (i := 7) (N := some 70) (v := ?_) (a' := ?_) #[true, true, true, true, true, true, true, true, true, true, false, false, true, false, true, false, false, false, false] rfl rfl (by kernel_rfl) (fun _ _ _ h => h) (Or.inl ⟨by rfl, ?_⟩) ?_ ?_
  rotate_left
  · intro w'
    go_simp
    with_reducible rfl
  rotate_left
  · simp only [Act.put, List.setIfInBounds_toArray, List.set_cons_zero, List.set_cons_succ, i64_w, i32_w]
    rfl
  refine take_ (i := 10) (N := some 73) (v := ?_) (a' := ?_) #[true, true, true, true, true, true, true, true, true, true, true, false, true, false, true, false, false, false, false] rfl rfl (by kernel_rfl) (fun _ _ _ h => h) (Or.inl ⟨by rfl, ?_⟩) hHeld ?_ ?_
  rotate_left
  · rintro w' ⟨s0, s1, s2⟩
    go_simp
    with_reducible rfl
  rotate_left
  · simp only [Act.put, List.setIfInBounds_toArray, List.set_cons_zero, List.set_cons_succ, i64_w, i32_w]
    rfl
  refine pure_ (i := 11) (N := some 74) (v := ?_) (a' := ?_) #[true, true, true, true, true, true, true, true, true, true, true, true, true, false, true, false, false, false, false] rfl rfl (by kernel_rfl) (fun _ _ _ h => h) (Or.inl ⟨by rfl, ?_⟩) ?_ ?_
  rotate_left
  · intro w'
    go_simp
    with_reducible rfl
  rotate_left
  · simp only [Act.put, List.setIfInBounds_toArray, List.set_cons_zero, List.set_cons_succ, i64_w, i32_w]
    rfl
  refine join_ (σ := Unit) 1 #[true, true, true, true, true, true, true, true, true, true, true, true, true, true, true, true, true, true, false] (fun _ => [(76, .int .i64 (numL l 4 4)), (78, .int .i64 (numL l 8 4)), (79, .agg #[.int .i64 x0, .int .i64 x1, .int .i64 x12, .int .i64 (numL l 4 4), .int .i64 (numL l 8 4), .int .i64 0, .int .i64 0, .int .i64 0, .int .i64 0, .bool false, .int .i64 0, .slice none 0 0, .slice none 0 0]), (4, .pointer (some ⟨W1.heap.size, 0, none⟩))]) (fun _ w' => w'.heap[W1.heap.size]? = some (.cells zero13 26 (0, 0)) ∧ w'.heap[w.heap.size]? = some (.cells zero13 26 (0, 0)) ∧ Below w.heap.size w w') ?_ ?_
  rotate_left
  · intro hCont
    refine two_ (i := 13) (j := 17) (Ni := some 76) (Nj := some 4) #[true, true, true, true, true, true, true, true, true, true, true, true, true, true, true, false, false, false, false] #[true, true, true, true, true, true, true, true, true, true, true, true, true, false, true, false, false, true, false] rfl rfl rfl rfl (by kernel_rfl) (by decide) (by decide) (fun K hK => ?_) (fun K hK => ?_)
    · skip
      refine goes_ Try.func32 (by kernel_rfl) rfl #[.slice (some ad) l.length c, .int .i64 4, .int .i64 4] (by rfl) rfl rfl (by simp only [List.map_toArray, List.map_cons, List.map_nil]; rfl) ?_
      with_reducible refine (num_calls (l := l) 4 4 (iz := 4) (mz := 4) (by repeat (first | exact HR1.out | (with_reducible refine Kd.C_alloc ?_ _) | (with_reducible refine Kd.C_drewN ?_ _) | (with_reducible refine Kd.C_drew ?_))) rfl HC.out HY.out HL.out rfl rfl (by omega) (by have := H24.out; omega)).mono ?_
      rintro e w3 ⟨rfl, ⟨⟨nq, rfl⟩⟩⟩
      refine ⟨_, rfl, ?_⟩
      refine hK.out _ _ ⟨(HC0.out _ (by repeat (first | (with_reducible first | exact HBR.out | apply below_alloc | apply pw_below_drewN | apply below_drew1) | exact HBR.out))), (HC1.out _ (by repeat (first | (with_reducible first | exact HBR.out | apply below_alloc | apply pw_below_drewN | apply below_drew1) | exact HBR.out))), (HC12.out _ (by repeat (first | (with_reducible first | exact HBR.out | apply below_alloc | apply pw_below_drewN | apply below_drew1) | exact HBR.out)))⟩ (fun hHeld => ?_)
      clear hK K
      refine norm_ (a' := ?_) ?_ ?_
      rotate_left
      · show Act.put _ (some 76) _ = _
        simp only [Act.put, List.setIfInBounds_toArray, List.set_cons_zero, List.set_cons_succ, i64_w, i32_w]
        rfl
      refine two_ (i := 15) (j := 17) (Ni := some 78) (Nj := some 4) #[true, true, true, true, true, true, true, true, true, true, true, true, true, true, true, true, false, false, false] #[true, true, true, true, true, true, true, true, true, true, true, true, true, true, true, false, false, true, false] rfl rfl rfl rfl (by kernel_rfl) (by decide) (by decide) (fun K hK => ?_) (fun K hK => ?_)
      · skip
        refine goes_ Try.func32 (by kernel_rfl) rfl #[.slice (some ad) l.length c, .int .i64 8, .int .i64 4] (by rfl) rfl rfl (by simp only [List.map_toArray, List.map_cons, List.map_nil]; rfl) ?_
        with_reducible refine (num_calls (l := l) 8 4 (iz := 8) (mz := 4) (by repeat (first | exact HR1.out | (with_reducible refine Kd.C_alloc ?_ _) | (with_reducible refine Kd.C_drewN ?_ _) | (with_reducible refine Kd.C_drew ?_))) rfl HC.out HY.out HL.out rfl rfl (by omega) (by have := H24.out; omega)).mono ?_
        rintro e w3 ⟨rfl, ⟨⟨nq, rfl⟩⟩⟩
        refine ⟨_, rfl, ?_⟩
        refine hK.out _ _ ⟨(HC0.out _ (by repeat (first | (with_reducible first | exact HBR.out | apply below_alloc | apply pw_below_drewN | apply below_drew1) | exact HBR.out))), (HC1.out _ (by repeat (first | (with_reducible first | exact HBR.out | apply below_alloc | apply pw_below_drewN | apply below_drew1) | exact HBR.out))), (HC12.out _ (by repeat (first | (with_reducible first | exact HBR.out | apply below_alloc | apply pw_below_drewN | apply below_drew1) | exact HBR.out)))⟩ (fun hHeld => ?_)
        clear hK K
        refine norm_ (a' := ?_) ?_ ?_
        rotate_left
        · show Act.put _ (some 78) _ = _
          simp only [Act.put, List.setIfInBounds_toArray, List.set_cons_zero, List.set_cons_succ, i64_w, i32_w]
          rfl
        refine pure_ (i := 16) (N := some 79) (v := ?_) (a' := ?_) #[true, true, true, true, true, true, true, true, true, true, true, true, true, true, true, true, true, false, false] rfl rfl (by kernel_rfl) (fun _ _ _ h => h) (Or.inl ⟨by rfl, ?_⟩) ?_ ?_
        rotate_left
        · intro w'
          go_simp
          with_reducible rfl
        rotate_left
        · simp only [Act.put, List.setIfInBounds_toArray, List.set_cons_zero, List.set_cons_succ, i64_w, i32_w]
          rfl
        refine one_ (i := 17) (N := some 4) #[true, true, true, true, true, true, true, true, true, true, true, true, true, true, true, true, true, true, false] rfl rfl (by kernel_rfl) (by decide) (fun K hK => ?_)
        refine value_ (w1 := ?_) (v := ?_) (by rfl) rfl ?_ ?_
        rotate_left 2
        · go_simp
          constructor
          · rfl
          · rfl
        refine hK.out _ _ ⟨(HC0.out _ (by repeat (first | (with_reducible first | exact HBR.out | apply below_alloc | apply pw_below_drewN | apply below_drew1) | exact HBR.out))), (HC1.out _ (by repeat (first | (with_reducible first | exact HBR.out | apply below_alloc | apply pw_below_drewN | apply below_drew1) | exact HBR.out))), (HC12.out _ (by repeat (first | (with_reducible first | exact HBR.out | apply below_alloc | apply pw_below_drewN | apply below_drew1) | exact HBR.out)))⟩ (fun hHeld => ?_)
        clear hK K
        refine norm_ (a' := ?_) ?_ ?_
        rotate_left
        · show Act.put _ (some 4) _ = _
          simp only [Act.put, List.setIfInBounds_toArray, List.set_cons_zero, List.set_cons_succ, i64_w, i32_w]
          rfl
        exact norm_ (by simp only [putAll, Act.put, List.setIfInBounds_toArray, List.set_cons_zero, List.set_cons_succ]) (hCont () _ ⟨new_blk W1 _, (by refine Eq.trans (Below.block (B := W1.heap.size) (w := W1) ?_ _ HG2.out) HK1.out; repeat (first | (with_reducible first | exact HBS.out | apply below_alloc | apply pw_below_drewN | apply below_drew1) | exact HBS.out)), (by repeat (first | (with_reducible first | exact HBR.out | apply below_alloc | apply pw_below_drewN | apply below_drew1) | exact HBR.out))⟩)
      · skip
        refine value_ (w1 := ?_) (v := ?_) (by rfl) rfl ?_ ?_
        rotate_left 2
        · go_simp
          constructor
          · rfl
          · rfl
        refine hK.out _ _ ⟨(HC0.out _ (by repeat (first | (with_reducible first | exact HBR.out | apply below_alloc | apply pw_below_drewN | apply below_drew1) | exact HBR.out))), (HC1.out _ (by repeat (first | (with_reducible first | exact HBR.out | apply below_alloc | apply pw_below_drewN | apply below_drew1) | exact HBR.out))), (HC12.out _ (by repeat (first | (with_reducible first | exact HBR.out | apply below_alloc | apply pw_below_drewN | apply below_drew1) | exact HBR.out)))⟩ (fun hHeld => ?_)
        clear hK K
        refine norm_ (a' := ?_) ?_ ?_
        rotate_left
        · show Act.put _ (some 4) _ = _
          simp only [Act.put, List.setIfInBounds_toArray, List.set_cons_zero, List.set_cons_succ, i64_w, i32_w]
          rfl
        refine one_ (i := 15) (N := some 78) #[true, true, true, true, true, true, true, true, true, true, true, true, true, true, true, true, false, true, false] rfl rfl (by kernel_rfl) (by decide) (fun K hK => ?_)
        refine goes_ Try.func32 (by kernel_rfl) rfl #[.slice (some ad) l.length c, .int .i64 8, .int .i64 4] (by rfl) rfl rfl (by simp only [List.map_toArray, List.map_cons, List.map_nil]; rfl) ?_
        with_reducible refine (num_calls (l := l) 8 4 (iz := 8) (mz := 4) (by repeat (first | exact HR1.out | (with_reducible refine Kd.C_alloc ?_ _) | (with_reducible refine Kd.C_drewN ?_ _) | (with_reducible refine Kd.C_drew ?_))) rfl HC.out HY.out HL.out rfl rfl (by omega) (by have := H24.out; omega)).mono ?_
        rintro e w3 ⟨rfl, ⟨⟨nq, rfl⟩⟩⟩
        refine ⟨_, rfl, ?_⟩
        refine hK.out _ _ ⟨(HC0.out _ (by repeat (first | (with_reducible first | exact HBR.out | apply below_alloc | apply pw_below_drewN | apply below_drew1) | exact HBR.out))), (HC1.out _ (by repeat (first | (with_reducible first | exact HBR.out | apply below_alloc | apply pw_below_drewN | apply below_drew1) | exact HBR.out))), (HC12.out _ (by repeat (first | (with_reducible first | exact HBR.out | apply below_alloc | apply pw_below_drewN | apply below_drew1) | exact HBR.out)))⟩ (fun hHeld => ?_)
        clear hK K
        refine norm_ (a' := ?_) ?_ ?_
        rotate_left
        · show Act.put _ (some 78) _ = _
          simp only [Act.put, List.setIfInBounds_toArray, List.set_cons_zero, List.set_cons_succ, i64_w, i32_w]
          rfl
        refine pure_ (i := 16) (N := some 79) (v := ?_) (a' := ?_) #[true, true, true, true, true, true, true, true, true, true, true, true, true, true, true, true, true, true, false] rfl rfl (by kernel_rfl) (fun _ _ _ h => h) (Or.inl ⟨by rfl, ?_⟩) ?_ ?_
        rotate_left
        · intro w'
          go_simp
          with_reducible rfl
        rotate_left
        · simp only [Act.put, List.setIfInBounds_toArray, List.set_cons_zero, List.set_cons_succ, i64_w, i32_w]
          rfl
        exact norm_ (by simp only [putAll, Act.put, List.setIfInBounds_toArray, List.set_cons_zero, List.set_cons_succ]) (hCont () _ ⟨new_blk W1 _, (by refine Eq.trans (Below.block (B := W1.heap.size) (w := W1) ?_ _ HG2.out) HK1.out; repeat (first | (with_reducible first | exact HBS.out | apply below_alloc | apply pw_below_drewN | apply below_drew1) | exact HBS.out)), (by repeat (first | (with_reducible first | exact HBR.out | apply below_alloc | apply pw_below_drewN | apply below_drew1) | exact HBR.out))⟩)
    · skip
      refine value_ (w1 := ?_) (v := ?_) (by rfl) rfl ?_ ?_
      rotate_left 2
      · go_simp
        constructor
        · rfl
        · rfl
      refine hK.out _ _ ⟨(HC0.out _ (by repeat (first | (with_reducible first | exact HBR.out | apply below_alloc | apply pw_below_drewN | apply below_drew1) | exact HBR.out))), (HC1.out _ (by repeat (first | (with_reducible first | exact HBR.out | apply below_alloc | apply pw_below_drewN | apply below_drew1) | exact HBR.out))), (HC12.out _ (by repeat (first | (with_reducible first | exact HBR.out | apply below_alloc | apply pw_below_drewN | apply below_drew1) | exact HBR.out)))⟩ (fun hHeld => ?_)
      clear hK K
      refine norm_ (a' := ?_) ?_ ?_
      rotate_left
      · show Act.put _ (some 4) _ = _
        simp only [Act.put, List.setIfInBounds_toArray, List.set_cons_zero, List.set_cons_succ, i64_w, i32_w]
        rfl
      refine one_ (i := 13) (N := some 76) #[true, true, true, true, true, true, true, true, true, true, true, true, true, true, true, false, false, true, false] rfl rfl (by kernel_rfl) (by decide) (fun K hK => ?_)
      refine goes_ Try.func32 (by kernel_rfl) rfl #[.slice (some ad) l.length c, .int .i64 4, .int .i64 4] (by rfl) rfl rfl (by simp only [List.map_toArray, List.map_cons, List.map_nil]; rfl) ?_
      with_reducible refine (num_calls (l := l) 4 4 (iz := 4) (mz := 4) (by repeat (first | exact HR1.out | (with_reducible refine Kd.C_alloc ?_ _) | (with_reducible refine Kd.C_drewN ?_ _) | (with_reducible refine Kd.C_drew ?_))) rfl HC.out HY.out HL.out rfl rfl (by omega) (by have := H24.out; omega)).mono ?_
      rintro e w3 ⟨rfl, ⟨⟨nq, rfl⟩⟩⟩
      refine ⟨_, rfl, ?_⟩
      refine hK.out _ _ ⟨(HC0.out _ (by repeat (first | (with_reducible first | exact HBR.out | apply below_alloc | apply pw_below_drewN | apply below_drew1) | exact HBR.out))), (HC1.out _ (by repeat (first | (with_reducible first | exact HBR.out | apply below_alloc | apply pw_below_drewN | apply below_drew1) | exact HBR.out))), (HC12.out _ (by repeat (first | (with_reducible first | exact HBR.out | apply below_alloc | apply pw_below_drewN | apply below_drew1) | exact HBR.out)))⟩ (fun hHeld => ?_)
      clear hK K
      refine norm_ (a' := ?_) ?_ ?_
      rotate_left
      · show Act.put _ (some 76) _ = _
        simp only [Act.put, List.setIfInBounds_toArray, List.set_cons_zero, List.set_cons_succ, i64_w, i32_w]
        rfl
      refine one_ (i := 15) (N := some 78) #[true, true, true, true, true, true, true, true, true, true, true, true, true, true, true, true, false, true, false] rfl rfl (by kernel_rfl) (by decide) (fun K hK => ?_)
      refine goes_ Try.func32 (by kernel_rfl) rfl #[.slice (some ad) l.length c, .int .i64 8, .int .i64 4] (by rfl) rfl rfl (by simp only [List.map_toArray, List.map_cons, List.map_nil]; rfl) ?_
      with_reducible refine (num_calls (l := l) 8 4 (iz := 8) (mz := 4) (by repeat (first | exact HR1.out | (with_reducible refine Kd.C_alloc ?_ _) | (with_reducible refine Kd.C_drewN ?_ _) | (with_reducible refine Kd.C_drew ?_))) rfl HC.out HY.out HL.out rfl rfl (by omega) (by have := H24.out; omega)).mono ?_
      rintro e w3 ⟨rfl, ⟨⟨nq, rfl⟩⟩⟩
      refine ⟨_, rfl, ?_⟩
      refine hK.out _ _ ⟨(HC0.out _ (by repeat (first | (with_reducible first | exact HBR.out | apply below_alloc | apply pw_below_drewN | apply below_drew1) | exact HBR.out))), (HC1.out _ (by repeat (first | (with_reducible first | exact HBR.out | apply below_alloc | apply pw_below_drewN | apply below_drew1) | exact HBR.out))), (HC12.out _ (by repeat (first | (with_reducible first | exact HBR.out | apply below_alloc | apply pw_below_drewN | apply below_drew1) | exact HBR.out)))⟩ (fun hHeld => ?_)
      clear hK K
      refine norm_ (a' := ?_) ?_ ?_
      rotate_left
      · show Act.put _ (some 78) _ = _
        simp only [Act.put, List.setIfInBounds_toArray, List.set_cons_zero, List.set_cons_succ, i64_w, i32_w]
        rfl
      refine pure_ (i := 16) (N := some 79) (v := ?_) (a' := ?_) #[true, true, true, true, true, true, true, true, true, true, true, true, true, true, true, true, true, true, false] rfl rfl (by kernel_rfl) (fun _ _ _ h => h) (Or.inl ⟨by rfl, ?_⟩) ?_ ?_
      rotate_left
      · intro w'
        go_simp
        with_reducible rfl
      rotate_left
      · simp only [Act.put, List.setIfInBounds_toArray, List.set_cons_zero, List.set_cons_succ, i64_w, i32_w]
        rfl
      exact norm_ (by simp only [putAll, Act.put, List.setIfInBounds_toArray, List.set_cons_zero, List.set_cons_succ]) (hCont () _ ⟨new_blk W1 _, (by refine Eq.trans (Below.block (B := W1.heap.size) (w := W1) ?_ _ HG2.out) HK1.out; repeat (first | (with_reducible first | exact HBS.out | apply below_alloc | apply pw_below_drewN | apply below_drew1) | exact HBS.out)), (by repeat (first | (with_reducible first | exact HBR.out | apply below_alloc | apply pw_below_drewN | apply below_drew1) | exact HBR.out))⟩)
  rintro ⟨⟩ w3 ⟨hz3, hy3, hb3⟩
  have hHeld : w3.cell? ad = some (.int .u8 x0) ∧ w3.cell? ⟨ad.block, ad.off + 1, none⟩ = some (.int .u8 x1) ∧ w3.cell? ⟨ad.block, ad.off + 12, none⟩ = some (.int .u8 x12) := ⟨HC0.out _ hb3, HC1.out _ hb3, HC12.out _ hb3⟩
  refine norm_ (a' := ?_) ?_ ?_
  rotate_left
  · simp only [putAll, Act.put, List.setIfInBounds_toArray, List.set_cons_zero, List.set_cons_succ]
    rfl
  refine one_ (i := 18) (N := none) #[true, true, true, true, true, true, true, true, true, true, true, true, true, true, true, true, true, true, true] rfl rfl (by kernel_rfl) (by decide) (fun K hK => ?_)
  obtain ⟨k0, k1, k2, k3, k4, k5, k6, k7, k8, k9, k10, k11, k12⟩ := c13 hz3
  obtain ⟨z0, z1, z2, z3, z4, z5, z6, z7, z8, z9, z10, z11, z12⟩ := f13 hz3
  refine skip_ (w1 := ?_) (by rfl) rfl ?_ ?_
  rotate_left
  · go_simp
    rfl
  refine hK.out _ _ ⟨(HC0.out _ (lay13_below hb3 HG1.out _ _ _ _ _ _ _ _ _ _ _ _ _)), (HC1.out _ (lay13_below hb3 HG1.out _ _ _ _ _ _ _ _ _ _ _ _ _)), (HC12.out _ (lay13_below hb3 HG1.out _ _ _ _ _ _ _ _ _ _ _ _ _))⟩ (fun hHeld => ?_)
  clear hK K
  refine done_ (by kernel_rfl) ?_
  generalize hW : World.setCell _ _ _ = W4
  have hz4 : W4.heap[W1.heap.size]? = some (.cells #[(.int .i64 x0), (.int .i64 x1), (.int .i64 x12), (.int .i64 (numL l 4 4)), (.int .i64 (numL l 8 4)), (.int .i64 0), (.int .i64 0), (.int .i64 0), (.int .i64 0), (.bool false), (.int .i64 0), (.slice none 0 0), (.slice none 0 0)] 26 (0, 0)) := by rw [← hW]; exact lay13_blk hz3 rfl (.int .i64 x0) (.int .i64 x1) (.int .i64 x12) (.int .i64 (numL l 4 4)) (.int .i64 (numL l 8 4)) (.int .i64 0) (.int .i64 0) (.int .i64 0) (.int .i64 0) (.bool false) (.int .i64 0) (.slice none 0 0) (.slice none 0 0)
  have hy4 : W4.heap[w.heap.size]? = some (.cells zero13 26 (0, 0)) := by rw [← hW]; exact (lay13_far (Nat.ne_of_lt HG2.out) (.int .i64 x0) (.int .i64 x1) (.int .i64 x12) (.int .i64 (numL l 4 4)) (.int .i64 (numL l 8 4)) (.int .i64 0) (.int .i64 0) (.int .i64 0) (.int .i64 0) (.bool false) (.int .i64 0) (.slice none 0 0) (.slice none 0 0)).trans hy3
  have HB4 := Aside0.mk (show Below w.heap.size w W4 from by rw [← hW]; exact lay13_below hb3 HG1.out (.int .i64 x0) (.int .i64 x1) (.int .i64 x12) (.int .i64 (numL l 4 4)) (.int .i64 (numL l 8 4)) (.int .i64 0) (.int .i64 0) (.int .i64 0) (.int .i64 0) (.bool false) (.int .i64 0) (.slice none 0 0) (.slice none 0 0))
  have HZ4 := Aside0.mk hz4
  have HY4 := Aside0.mk hy4
  obtain ⟨g, HGE⟩ : ∃ g, W1.heap.size = g := ⟨_, rfl⟩
  rw [HGE] at HZ4 HG1 HG2 hz4 ⊢
  have HGL := Aside0.mk (show g < W4.heap.size from blk_lt hz4)
  clear hHeld hW hz3 hy3 hb3 k0 k1 k2 k3 k4 k5 k6 k7 k8 k9 k10 k11 k12 z0 z1 z2 z3 z4 z5 z6 z7 z8 z9 z10 z11 z12
  obtain ⟨k0, k1, k2, k3, k4, k5, k6, k7, k8, k9, k10, k11, k12⟩ := c13 hz4
  obtain ⟨z0, z1, z2, z3, z4, z5, z6, z7, z8, z9, z10, z11, z12⟩ := f13 hz4
  clear hz4 hy4
  clear HBR HR1 HBS HK1
  have m13 := HC13.out W4 HB4.out
  have m20 := HC20.out W4 HB4.out
  have m21 := HC21.out W4 HB4.out
  have HBW := Aside0.mk HB4.out
  have G16 := Aside0.mk (fun W (h : Below w.heap.size w W) => num_calls (l := l) (w := W) 16 2 (iz := 16) (mz := 2) (Kd.C_below HR.out h) rfl HC.out HY.out HL.out rfl rfl (by omega) (by have := H24.out; omega))
  have G18 := Aside0.mk (fun W (h : Below w.heap.size w W) => num_calls (l := l) (w := W) 18 2 (iz := 18) (mz := 2) (Kd.C_below HR.out h) rfl HC.out HY.out HL.out rfl rfl (by omega) (by have := H24.out; omega))
  have wr : wrap64 (24 + x21) = 24 + x21 := wid (by omega) (by omega)
  have HWL := Aside0.mk (show wrap64 ((l.length : Int) - 24) = (l.length : Int) - 24 from by have := HL.out; exact wid (by omega) (by omega))
  go_upto_region 18 with (first | (go_at_call 32; (with_reducible refine (G16.out _ ?hb).mono ?_); (case hb => (repeat (first | with_reducible exact HBW.out | with_reducible apply pw_below_drewN | (refine Below.setCell ?_ HG1.out _)))); rintro e w3 ⟨rfl, ⟨⟨nq, rfl⟩⟩⟩) | (go_at_call 32; (with_reducible refine (G18.out _ ?hb).mono ?_); (case hb => (repeat (first | with_reducible exact HBW.out | with_reducible apply pw_below_drewN | (refine Below.setCell ?_ HG1.out _)))); rintro e w3 ⟨rfl, ⟨⟨nq, rfl⟩⟩⟩))
  generalize hW : World.setCell _ _ _ = W5
  have hz5 : W5.heap[g]? = some (.cells #[.int .i64 x0, .int .i64 x1, .int .i64 x12, .int .i64 (numL l 4 4), .int .i64 (numL l 8 4), .int .i64 (numL l 16 2), .int .i64 (numL l 18 2), .int .i64 0, .int .i64 0, .bool false, .int .i64 0, .slice none 0 0, .slice none 0 0] 26 (0, 0)) := by
    rw [← hW]
    have h := (set_blk ((set_blk (HZ4.out) 5 (.int .i64 (numL l 16 2)))) 6 (.int .i64 (numL l 18 2)))
    simp only [List.setIfInBounds_toArray, List.set_cons_zero, List.set_cons_succ] at h
    exact h
  have hy5 : W5.heap[w.heap.size]? = some (.cells zero13 26 (0, 0)) := by
    rw [← hW]
    exact (Below.heap_setCell _ ⟨g, 6, none⟩ (.int .i64 (numL l 18 2)) w.heap.size (Nat.ne_of_lt HG2.out)).trans ((Below.heap_setCell _ ⟨g, 5, none⟩ (.int .i64 (numL l 16 2)) w.heap.size (Nat.ne_of_lt HG2.out)).trans (HY4.out))
  have HB5 : Aside0 (Below w.heap.size w W5) := Aside0.mk (by
    rw [← hW]
    repeat (first | with_reducible exact HB4.out | with_reducible apply pw_below_drewN | (refine Below.setCell ?_ HG1.out _)))
  have HZ5 := Aside0.mk hz5
  have HY5 := Aside0.mk hy5
  have HF5 : Aside0 (∀ k, k ≠ g → W5.heap[k]? = W4.heap[k]?) := Aside0.mk (by
    rw [← hW]
    exact fun k hk => (Below.heap_setCell _ ⟨g, 6, none⟩ (.int .i64 (numL l 18 2)) k hk).trans ((Below.heap_setCell _ ⟨g, 5, none⟩ (.int .i64 (numL l 16 2)) k hk).trans (rfl)))
  clear hW k0 k1 k2 k3 k4 k5 k6 k7 k8 k9 k10 k11 k12 z0 z1 z2 z3 z4 z5 z6 z7 z8 z9 z10 z11 z12
  obtain ⟨k0, k1, k2, k3, k4, k5, k6, k7, k8, k9, k10, k11, k12⟩ := c13 hz5
  obtain ⟨z0, z1, z2, z3, z4, z5, z6, z7, z8, z9, z10, z11, z12⟩ := f13 hz5
  clear hz5 hy5
  clear m20
  have m20 := HC20.out W5 HB5.out
  clear m21
  have m21 := HC21.out W5 HB5.out
  by_cases h20 : 15 < x20
  · have d20 : decide (15 < x20) = true := decide_eq_true h20
    have HPE := Aside0.mk (show parseL l = (zeroP, 5) from by
      unfold parseL
      rw [if_neg (fun h => h HE.out), if_neg (by rw [HKD.out]; decide), if_neg (by rw [HKD.out]; decide), if_pos (by rw [EE.out.2.2.2.2.1, EE.out.2.2.2.2.2.1]; unfold restS; rw [EE.out.2.2.2.2.2.1]; have := b21; omega)])
    have hny := HY5.out
    obtain ⟨y0, y1, y2, y3, y4, y5, y6, y7, y8, y9, y10, y11, y12⟩ := c13 hny
    obtain ⟨u0, u1, u2, u3, u4, u5, u6, u7, u8, u9, u10, u11, u12⟩ := f13 hny
    clear hny
    go_wp2
    (try simp only [Exit.inBlock, Exit.then])
    refine bodyPost_ret (v := .tuple #[.agg zero13, .int .i64 5]) ?_ rfl (parsed_err HPE.out ?_)
    · rw [results_cell_tmp rfl]
      go_simp
    · exact lay13_below HB5.out (Nat.le_refl _) _ _ _ _ _ _ _ _ _ _ _ _ _
  · have d20 : decide (15 < x20) = false := decide_eq_false h20
    by_cases h21 : 40 < x21
    · have d21 : decide (40 < x21) = true := decide_eq_true h21
      have HPE := Aside0.mk (show parseL l = (zeroP, 5) from by
        unfold parseL
        rw [if_neg (fun h => h HE.out), if_neg (by rw [HKD.out]; decide), if_neg (by rw [HKD.out]; decide), if_pos (by rw [EE.out.2.2.2.2.1, EE.out.2.2.2.2.2.1]; unfold restS; rw [EE.out.2.2.2.2.2.1]; have := b21; omega)])
      have hny := HY5.out
      obtain ⟨y0, y1, y2, y3, y4, y5, y6, y7, y8, y9, y10, y11, y12⟩ := c13 hny
      obtain ⟨u0, u1, u2, u3, u4, u5, u6, u7, u8, u9, u10, u11, u12⟩ := f13 hny
      clear hny
      go_wp2
      (try simp only [Exit.inBlock, Exit.then])
      refine bodyPost_ret (v := .tuple #[.agg zero13, .int .i64 5]) ?_ rfl (parsed_err HPE.out ?_)
      · rw [results_cell_tmp rfl]
        go_simp
      · exact lay13_below HB5.out (Nat.le_refl _) _ _ _ _ _ _ _ _ _ _ _ _ _
    · have d21 : decide (40 < x21) = false := decide_eq_false h21
      by_cases h22 : (l.length : Int) - 24 < x21
      · have d22 : decide (wrap64 ((l.length : Int) - 24) < x21) = true := decide_eq_true (by rw [HWL.out]; exact h22)
        have HPE := Aside0.mk (show parseL l = (zeroP, 5) from by
          unfold parseL
          rw [if_neg (fun h => h HE.out), if_neg (by rw [HKD.out]; decide), if_neg (by rw [HKD.out]; decide), if_pos (by rw [EE.out.2.2.2.2.1, EE.out.2.2.2.2.2.1]; unfold restS; rw [EE.out.2.2.2.2.2.1]; have := b21; omega)])
        have hny := HY5.out
        obtain ⟨y0, y1, y2, y3, y4, y5, y6, y7, y8, y9, y10, y11, y12⟩ := c13 hny
        obtain ⟨u0, u1, u2, u3, u4, u5, u6, u7, u8, u9, u10, u11, u12⟩ := f13 hny
        clear hny
        go_wp2
        (try simp only [Exit.inBlock, Exit.then])
        refine bodyPost_ret (v := .tuple #[.agg zero13, .int .i64 5]) ?_ rfl (parsed_err HPE.out ?_)
        · rw [results_cell_tmp rfl]
          go_simp
        · exact lay13_below HB5.out (Nat.le_refl _) _ _ _ _ _ _ _ _ _ _ _ _ _
      · have d22 : decide (wrap64 ((l.length : Int) - 24) < x21) = false := decide_eq_false (by rw [HWL.out]; exact h22)
        have HPE := Aside0.mk (show parseL l = (⟨x0, x1, x12, numL l 4 4, numL l 8 4, numL l 16 2, numL l 18 2, x20, 0, false, 0, (l.take (24 + x21.toNat)).drop 24, l.drop (24 + x21.toNat)⟩, 0) from by
          unfold parseL
          rw [if_neg (fun h => h HE.out), if_neg (by rw [HKD.out]; decide), if_neg (by rw [HKD.out]; decide), if_neg (by rw [EE.out.2.2.2.2.1, EE.out.2.2.2.2.2.1]; unfold restS; rw [EE.out.2.2.2.2.2.1]; have := b21; omega)]
          unfold restS
          rw [EE.out.2.1, EE.out.2.2.1, EE.out.2.2.2.2.1, EE.out.2.2.2.2.2.1, ← EE.out.1, HKD.out])
        have HX21 := Aside0.mk (show 0 ≤ x21 ∧ 24 + x21.toNat ≤ l.length from by have := b21; omega)
        obtain ⟨A2, hcut2, hC2, hc2⟩ := cut_mid (A := some ad) (c := c) (l := l) 24 (24 + x21.toNat) x21.toNat (iz := 24) (jz := 24 + x21) rfl (by have := b21; omega) (by omega) (by omega) (by have := HX21.out; omega) rfl HC.out
        have HC2 := Aside0.mk (fun W (h : Below w.heap.size w W) => hC2 W (Kd.C_below HR.out h))
        obtain ⟨A3, hcut3, hC3, hc3⟩ := cut_from (A := some ad) (c := c) (l := l) (24 + x21.toNat) (l.length - (24 + x21.toNat)) (iz := 24 + x21) (by have := b21; omega) rfl (by have := HX21.out; omega) rfl HC.out
        have HC3 := Aside0.mk (fun W (h : Below w.heap.size w W) => hC3 W (Kd.C_below HR.out h))
        clear hC3 hc3 hC2 hc2
        have HLE2 := Aside0.mk HX21.out
        go_upto_region 24 with fail
        have HBQ := Aside0.mk (fun W (h : Below (g + 1) W5 W) => (HB5.out.trans (h.mono (by have := HG1.out; omega)) : Below w.heap.size w W))
        have HQc := Aside0.mk (Below.refl (g + 1) W5)
        have HGZ := Aside0.mk (show g + 1 ≤ W5.heap.size from blk_lt HZ5.out)
        have HSZ := Aside0.mk (fun W (h : Below (g + 1) W5 W) => Nat.le_trans HGZ.out h.size)
        have n1_ := Aside0.mk (below_drew1 HQc.out)
        clear HQc
        have HQc := n1_
        clear n1_
        refine start_ (n := 22) (S := fun w' => w'.cell? ⟨ad.block, ad.off + 20, none⟩ = some (.int .u8 x20)) (ds := []) #[false, false, false, false, false, false, false, false, false, false, false, false, false, false, false, false, false, false, false, false, false, false] (by kernel_rfl) rfl rfl ((HC20.out _ (HBQ.out _ HQc.out))) (fun hHeld => ?_)
        refine pure_ (i := 0) (N := some 141) (v := ?_) (a' := ?_) #[true, false, false, false, false, false, false, false, false, false, false, false, false, false, false, false, false, false, false, false, false, false] rfl rfl (by kernel_rfl) (fun _ _ _ h => h) (Or.inl ⟨by rfl, ?_⟩) ?_ ?_
        rotate_left
        · intro w'
          go_simp
          with_reducible rfl
        rotate_left
        · simp only [Act.put, List.setIfInBounds_toArray, List.set_cons_zero, List.set_cons_succ, i64_w, i32_w]
          rfl
        refine pure_ (i := 1) (N := some 142) (v := ?_) (a' := ?_) #[true, true, false, false, false, false, false, false, false, false, false, false, false, false, false, false, false, false, false, false, false, false] rfl rfl (by kernel_rfl) (fun _ _ _ h => h) (Or.inl ⟨by rfl, ?_⟩) ?_ ?_
        rotate_left
        · intro w'
          go_simp
          with_reducible rfl
        rotate_left
        · simp only [Act.put, List.setIfInBounds_toArray, List.set_cons_zero, List.set_cons_succ, i64_w, i32_w]
          rfl
        refine pure_ (i := 5) (N := some 146) (v := ?_) (a' := ?_) #[true, true, false, false, false, true, false, false, false, false, false, false, false, false, false, false, false, false, false, false, false, false] rfl rfl (by kernel_rfl) (fun _ _ _ h => h) (Or.inl ⟨by rfl, ?_⟩) ?_ ?_
        rotate_left
        · intro w'
          go_simp
          with_reducible rfl
        rotate_left
        · simp only [Act.put, List.setIfInBounds_toArray, List.set_cons_zero, List.set_cons_succ, i64_w, i32_w]
          rfl
        refine pure_ (i := 6) (N := some 147) (v := ?_) (a' := ?_) #[true, true, false, false, false, true, true, false, false, false, false, false, false, false, false, false, false, false, false, false, false, false] rfl rfl (by kernel_rfl) (fun _ _ _ h => h) (Or.inl ⟨by rfl, ?_⟩) ?_ ?_
        rotate_left
        · intro w'
          go_simp
          with_reducible rfl
        rotate_left
        · simp only [Act.put, List.setIfInBounds_toArray, List.set_cons_zero, List.set_cons_succ, i64_w, i32_w]
          rfl
        refine pure_ (i := 7) (N := some 148) (v := ?_) (a' := ?_) #[true, true, false, false, false, true, true, true, false, false, false, false, false, false, false, false, false, false, false, false, false, false] rfl rfl (by kernel_rfl) (fun _ _ _ h => h) (Or.inl ⟨by rfl, ?_⟩) ?_ ?_
        rotate_left
        · intro w'
          go_simp
          with_reducible rfl
        rotate_left
        · simp only [Act.put, List.setIfInBounds_toArray, List.set_cons_zero, List.set_cons_succ, i64_w, i32_w]
          rfl
        refine pure_ (i := 8) (N := some 149) (v := ?_) (a' := ?_) #[true, true, false, false, false, true, true, true, true, false, false, false, false, false, false, false, false, false, false, false, false, false] rfl rfl (by kernel_rfl) (fun _ _ _ h => h) (Or.inl ⟨by rfl, ?_⟩) ?_ ?_
        rotate_left
        · intro w'
          go_simp
          with_reducible rfl
        rotate_left
        · simp only [Act.put, List.setIfInBounds_toArray, List.set_cons_zero, List.set_cons_succ, i64_w, i32_w]
          rfl
        refine pure_ (i := 11) (N := some 152) (v := ?_) (a' := ?_) #[true, true, false, false, false, true, true, true, true, false, false, true, false, false, false, false, false, false, false, false, false, false] rfl rfl (by kernel_rfl) (fun _ _ _ h => h) (Or.inl ⟨by rfl, ?_⟩) ?_ ?_
        rotate_left
        · intro w'
          go_simp
          with_reducible rfl
        rotate_left
        · simp only [Act.put, List.setIfInBounds_toArray, List.set_cons_zero, List.set_cons_succ, i64_w, i32_w]
          rfl
        refine pure_ (i := 12) (N := some 153) (v := ?_) (a' := ?_) #[true, true, false, false, false, true, true, true, true, false, false, true, true, false, false, false, false, false, false, false, false, false] rfl rfl (by kernel_rfl) (fun _ _ _ h => h) (Or.inl ⟨by rfl, ?_⟩) ?_ ?_
        rotate_left
        · intro w'
          go_simp
          with_reducible rfl
        rotate_left
        · simp only [Act.put, List.setIfInBounds_toArray, List.set_cons_zero, List.set_cons_succ, i64_w, i32_w]
          rfl
        refine pure_ (i := 13) (N := some 154) (v := ?_) (a' := ?_) #[true, true, false, false, false, true, true, true, true, false, false, true, true, true, false, false, false, false, false, false, false, false] rfl rfl (by kernel_rfl) (fun _ _ _ h => h) (Or.inl ⟨by rfl, ?_⟩) ?_ ?_
        rotate_left
        · intro w'
          go_simp
          with_reducible rfl
        rotate_left
        · simp only [Act.put, List.setIfInBounds_toArray, List.set_cons_zero, List.set_cons_succ, i64_w, i32_w]
          rfl
        refine pure_ (i := 14) (N := some 155) (v := ?_) (a' := ?_) #[true, true, false, false, false, true, true, true, true, false, false, true, true, true, true, false, false, false, false, false, false, false] rfl rfl (by kernel_rfl) (fun _ _ _ h => h) (Or.inl ⟨by rfl, ?_⟩) ?_ ?_
        rotate_left
        · intro w'
          go_simp
          with_reducible rfl
        rotate_left
        · simp only [Act.put, List.setIfInBounds_toArray, List.set_cons_zero, List.set_cons_succ, i64_w, i32_w]
          rfl
        refine take_ (i := 2) (N := some 143) (v := ?_) (a' := ?_) #[true, true, true, false, false, true, true, true, true, false, false, true, true, true, true, false, false, false, false, false, false, false] rfl rfl (by kernel_rfl) (fun _ _ _ h => h) (Or.inl ⟨by rfl, ?_⟩) hHeld ?_ ?_
        rotate_left
        · intro w' s0
          go_simp
          with_reducible rfl
        rotate_left
        · simp only [Act.put, List.setIfInBounds_toArray, List.set_cons_zero, List.set_cons_succ, i64_w, i32_w]
          rfl
        refine pure_ (i := 3) (N := some 144) (v := ?_) (a' := ?_) #[true, true, true, true, false, true, true, true, true, false, false, true, true, true, true, false, false, false, false, false, false, false] rfl rfl (by kernel_rfl) (fun _ _ _ h => h) (Or.inl ⟨by rfl, ?_⟩) ?_ ?_
        rotate_left
        · intro w'
          go_simp
          with_reducible rfl
        rotate_left
        · simp only [Act.put, List.setIfInBounds_toArray, List.set_cons_zero, List.set_cons_succ, i64_w, i32_w]
          rfl
        refine pure_ (i := 16) (N := some 157) (v := ?_) (a' := ?_) #[true, true, true, true, false, true, true, true, true, false, false, true, true, true, true, false, true, false, false, false, false, false] rfl rfl (by kernel_rfl) (fun _ _ _ h => h) (Or.inl ⟨by rfl, ?_⟩) ?_ ?_
        rotate_left
        · intro w'
          go_simp
          with_reducible rfl
        rotate_left
        · simp only [Act.put, List.setIfInBounds_toArray, List.set_cons_zero, List.set_cons_succ, i64_w, i32_w]
          rfl
        refine join_ (σ := Option Addr × Nat × Value × Value) 6 #[true, true, true, true, true, true, true, true, true, true, true, true, true, true, true, false, true, false, false, false, false, false] (fun s => [(145, s.2.2.1), (150, .slice s.1 x21.toNat s.2.1), (151, s.2.2.2)]) (fun s w' => RB (g + 1) w' (.slice s.1 x21.toNat s.2.1) ((l.take (24 + x21.toNat)).drop 24) ∧ RB (g + 1) w' s.2.2.2 [] ∧ (Value.slice s.1 x21.toNat s.2.1).ownBlock ≠ s.2.2.2.ownBlock ∧ Below (g + 1) W5 w') ?_ ?_
        rotate_left
        · intro hCont
          refine two_ (i := 4) (j := 10) (Ni := some 145) (Nj := some 151) #[true, true, true, true, true, true, true, true, true, false, false, true, true, true, true, false, true, false, false, false, false, false] #[true, true, true, true, false, true, true, true, true, false, true, true, true, true, true, false, true, false, false, false, false, false] rfl rfl rfl rfl (by kernel_rfl) (by decide) (by decide) (fun K hK => ?_) (fun K hK => ?_)
          · skip
            refine Kd.R_lit_step (Kd.int .u8) (w0 := W5) (g + 1) 5 ?hg (N := 145) ?hd (xs := ([] : List Int)) (inner := []) (ok := fun _ => True) (okp := fun _ => True) ?hr ?hp (fun _ hk => hk) trivial HQc.out (HSZ.out _ HQc.out) (by simp) ?_; (case hd => rfl); (case hg => rfl); (case hr => first | (go_simp; done) | (go_simp; rfl)); (case hp => exact (Reps.none _ _))
            intro v1 w5 ho hb hg hat
            clear HQc
            have HQc := Aside0.mk hb
            have HO1 := Aside0.mk ho
            have HO1n := Aside0.mk hat
            clear ho hb hg hat
            refine hK.out _ _ ((HC20.out _ (HBQ.out _ HQc.out))) (fun hHeld => ?_)
            clear hK K
            refine norm_ (a' := ?_) ?_ ?_
            rotate_left
            · show Act.put _ (some 145) _ = _
              simp only [Act.put, List.setIfInBounds_toArray, List.set_cons_zero, List.set_cons_succ, i64_w, i32_w]
              rfl
            refine two_ (i := 9) (j := 10) (Ni := some 150) (Nj := some 151) #[true, true, true, true, true, true, true, true, true, true, false, true, true, true, true, false, true, false, false, false, false, false] #[true, true, true, true, true, true, true, true, true, false, true, true, true, true, true, false, true, false, false, false, false, false] rfl rfl rfl rfl (by kernel_rfl) (by decide) (by decide) (fun K hK => ?_) (fun K hK => ?_)
            · skip
              refine Kd.R_append_rows_step (Kd.int .u8) (w0 := W5) (g + 1) (by rfl) (.tmp 145) (.tmp 149) 23 5 (.int .u8 0) 1 rfl Try.underlying23 info5 rfl (by decide) (by omega) v1 [] ((l.take (24 + x21.toNat)).drop 24) A2 (x21.toNat) (c - 24) (fun _ => True) (fun _ => False) rfl rfl HO1.out (HC2.out _ (HBQ.out _ HQc.out)) (fun _ _ h => h) (fun _ h => h.elim) (fun _ _ => trivial) HQc.out (HSZ.out _ HQc.out) (by have := HL.out; have := HLE2.out; simp only [List.length_nil]; omega) ?_
              intro v2 w6 ho hb hg hat
              rw [List.nil_append] at ho
              obtain ⟨Av2, cv2, ev⟩ := Kd.R_slice ho
              rw [C_len (HC2.out w (Below.refl _ _))] at ev
              subst ev
              clear HQc
              have HQc := Aside0.mk hb
              have HO2 := Aside0.mk ho
              have HO2n := Aside0.mk hat
              clear ho hb hg hat
              refine hK.out _ _ ((HC20.out _ (HBQ.out _ HQc.out))) (fun hHeld => ?_)
              clear hK K
              refine norm_ (a' := ?_) ?_ ?_
              rotate_left
              · show Act.put _ (some 150) _ = _
                simp only [Act.put, List.setIfInBounds_toArray, List.set_cons_zero, List.set_cons_succ, i64_w, i32_w]
                rfl
              refine one_ (i := 10) (N := some 151) #[true, true, true, true, true, true, true, true, true, true, true, true, true, true, true, false, true, false, false, false, false, false] rfl rfl (by kernel_rfl) (by decide) (fun K hK => ?_)
              refine Kd.R_lit_step (Kd.int .u8) (w0 := W5) (g + 1) 5 ?hg (N := 151) ?hd (xs := ([] : List Int)) (inner := []) (ok := fun _ => True) (okp := fun _ => True) ?hr ?hp (fun _ hk => hk) trivial HQc.out (HSZ.out _ HQc.out) (by simp) ?_; (case hd => rfl); (case hg => rfl); (case hr => first | (go_simp; done) | (go_simp; rfl)); (case hp => exact (Reps.none _ _))
              intro v3 w5 ho hb hg hat
              clear HQc
              have HQc := Aside0.mk hb
              have HO3 := Aside0.mk ho
              have HO3n := Aside0.mk hat
              have HSP := Aside0.mk (ne_of_hat (Kd.R_lt HO2.out) hat)
              have n1_ := Aside0.mk (Kd.R_below HO2.out (below_of_none hg))
              clear HO2
              have HO2 := n1_
              clear n1_
              clear ho hb hg hat
              refine hK.out _ _ ((HC20.out _ (HBQ.out _ HQc.out))) (fun hHeld => ?_)
              clear hK K
              refine norm_ (a' := ?_) ?_ ?_
              rotate_left
              · show Act.put _ (some 151) _ = _
                simp only [Act.put, List.setIfInBounds_toArray, List.set_cons_zero, List.set_cons_succ, i64_w, i32_w]
                rfl
              exact norm_ (by simp only [putAll, Act.put, List.setIfInBounds_toArray, List.set_cons_zero, List.set_cons_succ]) (hCont (Av2, cv2, v1, v3) _ ⟨HO2.out, HO3.out, HSP.out, HQc.out⟩)
            · skip
              refine Kd.R_lit_step (Kd.int .u8) (w0 := W5) (g + 1) 5 ?hg (N := 151) ?hd (xs := ([] : List Int)) (inner := []) (ok := fun _ => True) (okp := fun _ => True) ?hr ?hp (fun _ hk => hk) trivial HQc.out (HSZ.out _ HQc.out) (by simp) ?_; (case hd => rfl); (case hg => rfl); (case hr => first | (go_simp; done) | (go_simp; rfl)); (case hp => exact (Reps.none _ _))
              intro v3 w5 ho hb hg hat
              clear HQc
              have HQc := Aside0.mk hb
              have HO3 := Aside0.mk ho
              have HO3n := Aside0.mk hat
              have HNE := Aside0.mk (ne_of_hat (Kd.R_lt HO1.out) hat)
              have n1_ := Aside0.mk (Kd.R_below HO1.out (below_of_none hg))
              clear HO1
              have HO1 := n1_
              clear n1_
              clear ho hb hg hat
              refine hK.out _ _ ((HC20.out _ (HBQ.out _ HQc.out))) (fun hHeld => ?_)
              clear hK K
              refine norm_ (a' := ?_) ?_ ?_
              rotate_left
              · show Act.put _ (some 151) _ = _
                simp only [Act.put, List.setIfInBounds_toArray, List.set_cons_zero, List.set_cons_succ, i64_w, i32_w]
                rfl
              refine one_ (i := 9) (N := some 150) #[true, true, true, true, true, true, true, true, true, true, true, true, true, true, true, false, true, false, false, false, false, false] rfl rfl (by kernel_rfl) (by decide) (fun K hK => ?_)
              refine Kd.R_append_rows_step (Kd.int .u8) (w0 := W5) (g + 1) (by rfl) (.tmp 145) (.tmp 149) 23 5 (.int .u8 0) 1 rfl Try.underlying23 info5 rfl (by decide) (by omega) v1 [] ((l.take (24 + x21.toNat)).drop 24) A2 (x21.toNat) (c - 24) (fun _ => True) (fun _ => False) rfl rfl HO1.out (HC2.out _ (HBQ.out _ HQc.out)) (fun _ _ h => h) (fun _ h => h.elim) (fun _ _ => trivial) HQc.out (HSZ.out _ HQc.out) (by have := HL.out; have := HLE2.out; simp only [List.length_nil]; omega) ?_
              intro v2 w6 ho hb hg hat
              rw [List.nil_append] at ho
              obtain ⟨Av2, cv2, ev⟩ := Kd.R_slice ho
              rw [C_len (HC2.out w (Below.refl _ _))] at ev
              subst ev
              clear HQc
              have HQc := Aside0.mk hb
              have HO2 := Aside0.mk ho
              have HO2n := Aside0.mk hat
              have HSP := Aside0.mk (ne_of_app (Kd.R_lt HO3.out) HNE.out hat)
              have n1_ := Aside0.mk (Kd.R_grown1 HO3.out rfl hg HNE.out)
              clear HO3
              have HO3 := n1_
              clear n1_
              clear ho hb hg hat
              refine hK.out _ _ ((HC20.out _ (HBQ.out _ HQc.out))) (fun hHeld => ?_)
              clear hK K
              refine norm_ (a' := ?_) ?_ ?_
              rotate_left
              · show Act.put _ (some 150) _ = _
                simp only [Act.put, List.setIfInBounds_toArray, List.set_cons_zero, List.set_cons_succ, i64_w, i32_w]
                rfl
              exact norm_ (by simp only [putAll, Act.put, List.setIfInBounds_toArray, List.set_cons_zero, List.set_cons_succ]) (hCont (Av2, cv2, v1, v3) _ ⟨HO2.out, HO3.out, HSP.out, HQc.out⟩)
          · skip
            refine Kd.R_lit_step (Kd.int .u8) (w0 := W5) (g + 1) 5 ?hg (N := 151) ?hd (xs := ([] : List Int)) (inner := []) (ok := fun _ => True) (okp := fun _ => True) ?hr ?hp (fun _ hk => hk) trivial HQc.out (HSZ.out _ HQc.out) (by simp) ?_; (case hd => rfl); (case hg => rfl); (case hr => first | (go_simp; done) | (go_simp; rfl)); (case hp => exact (Reps.none _ _))
            intro v3 w5 ho hb hg hat
            clear HQc
            have HQc := Aside0.mk hb
            have HO3 := Aside0.mk ho
            have HO3n := Aside0.mk hat
            clear ho hb hg hat
            refine hK.out _ _ ((HC20.out _ (HBQ.out _ HQc.out))) (fun hHeld => ?_)
            clear hK K
            refine norm_ (a' := ?_) ?_ ?_
            rotate_left
            · show Act.put _ (some 151) _ = _
              simp only [Act.put, List.setIfInBounds_toArray, List.set_cons_zero, List.set_cons_succ, i64_w, i32_w]
              rfl
            refine one_ (i := 4) (N := some 145) #[true, true, true, true, true, true, true, true, true, false, true, true, true, true, true, false, true, false, false, false, false, false] rfl rfl (by kernel_rfl) (by decide) (fun K hK => ?_)
            refine Kd.R_lit_step (Kd.int .u8) (w0 := W5) (g + 1) 5 ?hg (N := 145) ?hd (xs := ([] : List Int)) (inner := []) (ok := fun _ => True) (okp := fun _ => True) ?hr ?hp (fun _ hk => hk) trivial HQc.out (HSZ.out _ HQc.out) (by simp) ?_; (case hd => rfl); (case hg => rfl); (case hr => first | (go_simp; done) | (go_simp; rfl)); (case hp => exact (Reps.none _ _))
            intro v1 w5 ho hb hg hat
            clear HQc
            have HQc := Aside0.mk hb
            have HO1 := Aside0.mk ho
            have HO1n := Aside0.mk hat
            have HNE := Aside0.mk (ne_of_hat (Kd.R_lt HO3.out) hat).symm
            have n1_ := Aside0.mk (Kd.R_below HO3.out (below_of_none hg))
            clear HO3
            have HO3 := n1_
            clear n1_
            clear ho hb hg hat
            refine hK.out _ _ ((HC20.out _ (HBQ.out _ HQc.out))) (fun hHeld => ?_)
            clear hK K
            refine norm_ (a' := ?_) ?_ ?_
            rotate_left
            · show Act.put _ (some 145) _ = _
              simp only [Act.put, List.setIfInBounds_toArray, List.set_cons_zero, List.set_cons_succ, i64_w, i32_w]
              rfl
            refine one_ (i := 9) (N := some 150) #[true, true, true, true, true, true, true, true, true, true, true, true, true, true, true, false, true, false, false, false, false, false] rfl rfl (by kernel_rfl) (by decide) (fun K hK => ?_)
            refine Kd.R_append_rows_step (Kd.int .u8) (w0 := W5) (g + 1) (by rfl) (.tmp 145) (.tmp 149) 23 5 (.int .u8 0) 1 rfl Try.underlying23 info5 rfl (by decide) (by omega) v1 [] ((l.take (24 + x21.toNat)).drop 24) A2 (x21.toNat) (c - 24) (fun _ => True) (fun _ => False) rfl rfl HO1.out (HC2.out _ (HBQ.out _ HQc.out)) (fun _ _ h => h) (fun _ h => h.elim) (fun _ _ => trivial) HQc.out (HSZ.out _ HQc.out) (by have := HL.out; have := HLE2.out; simp only [List.length_nil]; omega) ?_
            intro v2 w6 ho hb hg hat
            rw [List.nil_append] at ho
            obtain ⟨Av2, cv2, ev⟩ := Kd.R_slice ho
            rw [C_len (HC2.out w (Below.refl _ _))] at ev
            subst ev
            clear HQc
            have HQc := Aside0.mk hb
            have HO2 := Aside0.mk ho
            have HO2n := Aside0.mk hat
            have HSP := Aside0.mk (ne_of_app (Kd.R_lt HO3.out) HNE.out hat)
            have n1_ := Aside0.mk (Kd.R_grown1 HO3.out rfl hg HNE.out)
            clear HO3
            have HO3 := n1_
            clear n1_
            clear ho hb hg hat
            refine hK.out _ _ ((HC20.out _ (HBQ.out _ HQc.out))) (fun hHeld => ?_)
            clear hK K
            refine norm_ (a' := ?_) ?_ ?_
            rotate_left
            · show Act.put _ (some 150) _ = _
              simp only [Act.put, List.setIfInBounds_toArray, List.set_cons_zero, List.set_cons_succ, i64_w, i32_w]
              rfl
            exact norm_ (by simp only [putAll, Act.put, List.setIfInBounds_toArray, List.set_cons_zero, List.set_cons_succ]) (hCont (Av2, cv2, v1, v3) _ ⟨HO2.out, HO3.out, HSP.out, HQc.out⟩)
        rintro ⟨Av2, cv2, v1, v3⟩ w4 ⟨ho2, ho3, hsp, hq1⟩
        clear HQc
        have HQc := Aside0.mk hq1
        have HO2 := Aside0.mk ho2
        have HO3 := Aside0.mk ho3
        have HSP := Aside0.mk hsp
        clear hq1 ho2 ho3 hsp
        dsimp only at HO2 HO3 HSP
        have hHeld : w4.cell? ⟨ad.block, ad.off + 20, none⟩ = some (.int .u8 x20) := (HC20.out _ (HBQ.out _ HQc.out))
        refine norm_ (a' := ?_) ?_ ?_
        rotate_left
        · simp only [putAll, Act.put, List.setIfInBounds_toArray, List.set_cons_zero, List.set_cons_succ]
          rfl
        refine one_ (i := 15) (N := some 156) #[true, true, true, true, true, true, true, true, true, true, true, true, true, true, true, true, true, false, false, false, false, false] rfl rfl (by kernel_rfl) (by decide) (fun K hK => ?_)
        refine Kd.R_append_rows_step (Kd.int .u8) (w0 := W5) (g + 1) (by rfl) (.tmp 151) (.tmp 155) 23 5 (.int .u8 0) 1 rfl Try.underlying23 info5 rfl (by decide) (by omega) v3 [] (l.drop (24 + x21.toNat)) A3 (l.length - (24 + x21.toNat)) (c - (24 + x21.toNat)) (fun _ => True) (fun _ => False) rfl rfl HO3.out (HC3.out _ (HBQ.out _ HQc.out)) (fun _ _ h => h) (fun _ h => h.elim) (fun _ _ => trivial) HQc.out (HSZ.out _ HQc.out) (by have := HL.out; have := HLE2.out; simp only [List.length_nil]; omega) ?_
        intro v5 w6 ho hb hg hat
        rw [List.nil_append] at ho
        obtain ⟨Av5, cv5, ev⟩ := Kd.R_slice ho
        rw [C_len (HC3.out w (Below.refl _ _))] at ev
        subst ev
        clear HQc
        have HQc := Aside0.mk hb
        have HO5 := Aside0.mk ho
        have HO5n := Aside0.mk hat
        have HSE := Aside0.mk (ne_of_app (Kd.R_lt HO2.out) HSP.out.symm hat)
        have n1_ := Aside0.mk (Kd.R_grown1 HO2.out rfl hg HSP.out.symm)
        clear HO2
        have HO2 := n1_
        clear n1_
        clear ho hb hg hat
        refine hK.out _ _ ((HC20.out _ (HBQ.out _ HQc.out))) (fun hHeld => ?_)
        clear hK K
        refine norm_ (a' := ?_) ?_ ?_
        rotate_left
        · show Act.put _ (some 156) _ = _
          simp only [Act.put, List.setIfInBounds_toArray, List.set_cons_zero, List.set_cons_succ, i64_w, i32_w]
          rfl
        refine one_ (i := 17) (N := none) #[true, true, true, true, true, true, true, true, true, true, true, true, true, true, true, true, true, true, false, false, false, false] rfl rfl (by kernel_rfl) (by decide) (fun K hK => ?_)
        have hz6 := (HQc.out.block g (by omega)).trans HZ5.out
        clear k0 k1 k2 k3 k4 k5 k6 k7 k8 k9 k10 k11 k12 z0 z1 z2 z3 z4 z5 z6 z7 z8 z9 z10 z11 z12
        obtain ⟨k0, k1, k2, k3, k4, k5, k6, k7, k8, k9, k10, k11, k12⟩ := c13 hz6
        obtain ⟨z0, z1, z2, z3, z4, z5, z6, z7, z8, z9, z10, z11, z12⟩ := f13 hz6
        refine skip_ (w1 := ?_) (by rfl) rfl ?_ ?_
        rotate_left
        · go_simp
          rfl
        refine hK.out _ _ ((HC20.out _ ((HBQ.out _ HQc.out).setCell (p := ⟨g, 7, none⟩) HG1.out _))) (fun hHeld => ?_)
        clear hK K
        refine pure_ (i := 18) (N := some 158) (v := ?_) (a' := ?_) #[true, true, true, true, true, true, true, true, true, true, true, true, true, true, true, true, true, true, true, false, false, false] rfl rfl (by kernel_rfl) (fun _ _ _ h => h) (Or.inl ⟨by rfl, ?_⟩) ?_ ?_
        rotate_left
        · intro w'
          go_simp
          with_reducible rfl
        rotate_left
        · simp only [Act.put, List.setIfInBounds_toArray, List.set_cons_zero, List.set_cons_succ, i64_w, i32_w]
          rfl
        refine one_ (i := 19) (N := none) #[true, true, true, true, true, true, true, true, true, true, true, true, true, true, true, true, true, true, true, true, false, false] rfl rfl (by kernel_rfl) (by decide) (fun K hK => ?_)
        refine skip_ (w1 := ?_) (by rfl) rfl ?_ ?_
        rotate_left
        · go_simp
          rfl
        refine hK.out _ _ ((HC20.out _ (((HBQ.out _ HQc.out).setCell (p := ⟨g, 7, none⟩) HG1.out _).setCell (p := ⟨g, 11, none⟩) HG1.out _))) (fun hHeld => ?_)
        clear hK K
        refine pure_ (i := 20) (N := some 159) (v := ?_) (a' := ?_) #[true, true, true, true, true, true, true, true, true, true, true, true, true, true, true, true, true, true, true, true, true, false] rfl rfl (by kernel_rfl) (fun _ _ _ h => h) (Or.inl ⟨by rfl, ?_⟩) ?_ ?_
        rotate_left
        · intro w'
          go_simp
          with_reducible rfl
        rotate_left
        · simp only [Act.put, List.setIfInBounds_toArray, List.set_cons_zero, List.set_cons_succ, i64_w, i32_w]
          rfl
        refine one_ (i := 21) (N := none) #[true, true, true, true, true, true, true, true, true, true, true, true, true, true, true, true, true, true, true, true, true, true] rfl rfl (by kernel_rfl) (by decide) (fun K hK => ?_)
        refine skip_ (w1 := ?_) (by rfl) rfl ?_ ?_
        rotate_left
        · go_simp
          rfl
        refine hK.out _ _ ((HC20.out _ ((((HBQ.out _ HQc.out).setCell (p := ⟨g, 7, none⟩) HG1.out _).setCell (p := ⟨g, 11, none⟩) HG1.out _).setCell (p := ⟨g, 12, none⟩) HG1.out _))) (fun hHeld => ?_)
        clear hK K
        refine done_ (by kernel_rfl) ?_
        have HSEP := Aside0.mk (fun k (h1 : (Value.slice Av2 x21.toNat cv2).ownBlock = some k) (h2 : (Value.slice Av5 (l.length - (24 + x21.toNat)) cv5).ownBlock = some k) => HSE.out (h2.trans h1.symm))
        have HO1 := Aside0.mk HO2.out
        clear HO2
        have HO2 := Aside0.mk HO5.out
        have HZ6 := Aside0.mk hz6
        have HY6 := Aside0.mk ((HQc.out.block w.heap.size (by have := HG1.out; omega)).trans HY5.out)
        have HB6 := Aside0.mk (HBQ.out _ HQc.out)
        clear hHeld hz6 hcut3 hcut2 wr d20 d21 d22 HQc
        generalize hW : World.setCell _ _ _ = W7
        have hz7 : W7.heap[g]? = some (.cells #[.int .i64 x0, .int .i64 x1, .int .i64 x12, .int .i64 (numL l 4 4), .int .i64 (numL l 8 4), .int .i64 (numL l 16 2), .int .i64 (numL l 18 2), .int .i64 x20, .int .i64 0, .bool false, .int .i64 0, .slice Av2 x21.toNat cv2, .slice Av5 (l.length - (24 + x21.toNat)) cv5] 26 (0, 0)) := by
          rw [← hW]
          have h := (set_blk ((set_blk ((set_blk (HZ6.out) 7 (.int .i64 x20))) 11 (.slice Av2 x21.toNat cv2))) 12 (.slice Av5 (l.length - (24 + x21.toNat)) cv5))
          simp only [List.setIfInBounds_toArray, List.set_cons_zero, List.set_cons_succ] at h
          exact h
        have hy7 : W7.heap[w.heap.size]? = some (.cells zero13 26 (0, 0)) := by
          rw [← hW]
          exact (Below.heap_setCell _ ⟨g, 12, none⟩ (.slice Av5 (l.length - (24 + x21.toNat)) cv5) w.heap.size (Nat.ne_of_lt HG2.out)).trans ((Below.heap_setCell _ ⟨g, 11, none⟩ (.slice Av2 x21.toNat cv2) w.heap.size (Nat.ne_of_lt HG2.out)).trans ((Below.heap_setCell _ ⟨g, 7, none⟩ (.int .i64 x20) w.heap.size (Nat.ne_of_lt HG2.out)).trans (HY6.out)))
        have HB7 : Aside0 (Below w.heap.size w W7) := Aside0.mk (by
          rw [← hW]
          repeat (first | with_reducible exact HB6.out | with_reducible apply pw_below_drewN | (refine Below.setCell ?_ HG1.out _)))
        have HZ7 := Aside0.mk hz7
        have HY7 := Aside0.mk hy7
        have HF7 : Aside0 (∀ k, k ≠ g → W7.heap[k]? = w6.heap[k]?) := Aside0.mk (by
          rw [← hW]
          exact fun k hk => (Below.heap_setCell _ ⟨g, 12, none⟩ (.slice Av5 (l.length - (24 + x21.toNat)) cv5) k hk).trans ((Below.heap_setCell _ ⟨g, 11, none⟩ (.slice Av2 x21.toNat cv2) k hk).trans ((Below.heap_setCell _ ⟨g, 7, none⟩ (.int .i64 x20) k hk).trans (rfl))))
        clear hW k0 k1 k2 k3 k4 k5 k6 k7 k8 k9 k10 k11 k12 z0 z1 z2 z3 z4 z5 z6 z7 z8 z9 z10 z11 z12
        obtain ⟨k0, k1, k2, k3, k4, k5, k6, k7, k8, k9, k10, k11, k12⟩ := c13 hz7
        obtain ⟨z0, z1, z2, z3, z4, z5, z6, z7, z8, z9, z10, z11, z12⟩ := f13 hz7
        clear hz7 hy7
        clear k0 k1 k2 k3 k4 k5 k6 k7 k8 k9 k10 k11 k12 z0 z1 z2 z3 z4 z5 z6 z7 z8 z9 z10 z11 z12
        have hz7 := HZ7.out
        have hy7 := HY7.out
        obtain ⟨k0, k1, k2, k3, k4, k5, k6, k7, k8, k9, k10, k11, k12⟩ := c13 hz7
        obtain ⟨y0, y1, y2, y3, y4, y5, y6, y7, y8, y9, y10, y11, y12⟩ := c13 hy7
        obtain ⟨u0, u1, u2, u3, u4, u5, u6, u7, u8, u9, u10, u11, u12⟩ := f13 hy7
        clear hz7 hy7
        go_wp2
        (try simp only [Exit.inBlock, Exit.then])
        refine bodyPost_ret (v := .tuple #[.agg #[.int .i64 x0, .int .i64 x1, .int .i64 x12, .int .i64 (numL l 4 4), .int .i64 (numL l 8 4), .int .i64 (numL l 16 2), .int .i64 (numL l 18 2), .int .i64 x20, .int .i64 0, .bool false, .int .i64 0, .slice Av2 x21.toNat cv2, .slice Av5 (l.length - (24 + x21.toNat)) cv5], .int .i64 0]) ?_ rfl (parsed_ok (v1 := .slice Av2 x21.toNat cv2) (v2 := .slice Av5 (l.length - (24 + x21.toNat)) cv5) HPE.out (RB_move HO1.out (by have := HG1.out; omega) ?_) (RB_move HO2.out (by have := HG1.out; omega) ?_) ?_ ?_)
        · rw [results_cell_tmp rfl]
          go_simp
        · intro k hk _
          have h1 := HG2.out
          exact (lay13_far (by omega) _ _ _ _ _ _ _ _ _ _ _ _ _).trans (HF7.out k (by omega))
        · intro k hk _
          have h1 := HG2.out
          exact (lay13_far (by omega) _ _ _ _ _ _ _ _ _ _ _ _ _).trans (HF7.out k (by omega))
        · exact HSEP.out
        · exact lay13_below HB7.out (Nat.le_refl _) _ _ _ _ _ _ _ _ _ _ _ _ _
end Go.Proofs.Ytbjhmifhmojaoaa.WB

namespace Go.Proofs.Ytbjhmifhmojaoaa.WB
set_option linter.unusedVariables false
set_option linter.unusedSimpArgs false
open Go.RowKit Go.Proofs.Ytbjhmifhmojaoaa.Hp Go.Proofs.Ytbjhmifhmojaoaa.SB Go.Proofs.YtbjhmifhmojaoaaW.PrintWords Go.Proofs.YtbjhmifhmojaoaaW.PrintLast Go.Proofs.YtbjhmifhmojaoaaW.PrintMore
theorem rparse_calls {A : Option Addr} {c n : Nat} {l : List Int} {w : World} (hr : Kd.C (Kd.int .u8) w A n l) (hn : l.length = n) (hc : n ≤ c) (hl : l.length ≤ 100000) (hb : Bytes l) :
    Calls Try.prog 24 #[.slice A n c] w (Parsed w l) := by
  subst hn
  by_cases h16 : 16 ≤ l.length
  · by_cases he : headE l = 0
    · obtain ⟨h24, _, _, _, _, hk | hk | ⟨hk, h44⟩⟩ := head0 he
      · exact rparse_stream hr hc hl hb he h24 hk
      · exact rparse_gram hr hc hl hb he h24 hk
      · exact rparse_fault hr hc hl hb he h44 hk
    · exact rparse_err hr hc hl hb h16 he
  · exact rparse_short hr hc (by omega)
theorem parse0 {l : List Int} {p : Pk} (h : parseL l = (p, 0)) : headE l = 0 := by
  by_cases he : headE l = 0
  · exact he
  · unfold parseL at h
    rw [if_pos he] at h
    exact absurd (congrArg Prod.snd h) he
theorem summed_ok {l : List Int} (hy : Bytes l) (h16 : 16 ≤ l.length) (h15 : l.length ≤ 1500) : (summedL l).length ≤ 2000 ∧ Bytes (summedL l) := by
  have q0 := getD_byte hy 0
  unfold summedL
  refine ⟨?_, ?_⟩
  · split <;> simp [List.length_append, List.length_drop, List.length_take] <;> omega
  · generalize l.getD 0 0 = x at q0 ⊢
    refine Bytes.app (Bytes.app (by split; · exact bytes_nil
                                    · exact (hy.take 12).drop 4) ?_) (hy.drop 16)
    intro y hy'
    simp only [List.mem_cons, List.not_mem_nil, or_false] at hy'
    omega
/-- What stands behind Parse's call, its packet taken apart. -/
def Got (w : World) (p0 p1 p2 p3 p4 p5 p6 p7 p8 : Int) (p9 : Bool) (p10 : Int) (p11 p12 : List Int) (x : Int) (e : Ending) (w' : World) : Prop :=
  ∃ (A1 : Option Addr) (c1 : Nat) (A2 : Option Addr) (c2 : Nat), e = .returned (.tuple #[.agg #[.int .i64 p0, .int .i64 p1, .int .i64 p2, .int .i64 p3, .int .i64 p4, .int .i64 p5, .int .i64 p6, .int .i64 p7, .int .i64 p8, .bool p9, .int .i64 p10, .slice A1 p11.length c1, .slice A2 p12.length c2], .int .i64 x]) ∧ RB w.heap.size w' (.slice A1 p11.length c1) p11 ∧ RB w.heap.size w' (.slice A2 p12.length c2) p12 ∧
    (∀ k, (Value.slice A1 p11.length c1).ownBlock = some k → (Value.slice A2 p12.length c2).ownBlock ≠ some k) ∧ Below w.heap.size w w'
theorem got_of {w w' : World} {l : List Int} {e : Ending} {p0 p1 p2 p3 p4 p5 p6 p7 p8 : Int} {p9 : Bool} {p10 : Int} {p11 p12 : List Int} {x : Int} (hp : parseL l = (⟨p0, p1, p2, p3, p4, p5, p6, p7, p8, p9, p10, p11, p12⟩, x)) (h : Parsed w l e w') : Got w p0 p1 p2 p3 p4 p5 p6 p7 p8 p9 p10 p11 p12 x e w' := by
  obtain ⟨v1, v2, he, h1, h2, h3, h4⟩ := h
  rw [hp] at he h1 h2
  obtain ⟨A1, c1, rfl⟩ := Kd.R_slice h1
  obtain ⟨A2, c2, rfl⟩ := Kd.R_slice h2
  exact ⟨A1, c1, A2, c2, he, h1, h2, h3, h4⟩
set_option maxRecDepth 100000 in
set_option maxHeartbeats 1000000 in
theorem whole_calls {A : Option Addr} {c n : Nat} {l : List Int} {w : World} (hr : Kd.C (Kd.int .u8) w A n l) (hn : l.length = n) (hc : n ≤ c) (hl : l.length ≤ 100000) (hb : Bytes l) :
    Calls Try.prog 21 #[.slice A n c] w fun e w' => e = .returned (.bool (wholeL l)) ∧ Below w.heap.size w w' := by
  subst hn
  obtain ⟨⟨p0, p1, p2, p3, p4, p5, p6, p7, p8, p9, p10, p11, p12⟩, x, hp⟩ : ∃ p x, parseL l = (p, x) := ⟨_, _, rfl⟩
  have HR := Aside0.mk hr
  have HC := Aside0.mk hc
  have HL := Aside0.mk hl
  have HY := Aside0.mk hb
  have HP := Aside0.mk hp
  have HG := Aside0.mk (parse_calls hr rfl hc hl hb)
  have HW := Aside0.mk (show wholeL l = (x == 0 && (p9 || fold (pairs (summedL l)) == 65535)) from by unfold wholeL; rw [hp])
  clear hr hc hl hb hp
  go_enter Try.func21, Try.ntmps21
  go_upto_region 2 with (first
    | (go_at_call 19; (with_reducible refine HG.out.mono ?_); intro e w1 hq; obtain ⟨A1, c1, A2, c2, rfl, h1, h2, h3, hb1⟩ := got_of HP.out hq; have HB1 := Aside0.mk hb1; clear hq h1 h2 h3 hb1))
  change Code.wp _ _ _ _ (w1.alloc (.cells #[.int .i64 p0, .int .i64 p1, .int .i64 p2, .int .i64 p3, .int .i64 p4, .int .i64 p5, .int .i64 p6, .int .i64 p7, .int .i64 p8, .bool p9, .int .i64 p10, .slice A1 p11.length c1, .slice A2 p12.length c2] 26))
  have hz := new_blk w1 (.cells #[.int .i64 p0, .int .i64 p1, .int .i64 p2, .int .i64 p3, .int .i64 p4, .int .i64 p5, .int .i64 p6, .int .i64 p7, .int .i64 p8, .bool p9, .int .i64 p10, .slice A1 p11.length c1, .slice A2 p12.length c2] 26)
  have HB8 := Aside0.mk (HB1.out.alloc HB1.out.size (.cells #[.int .i64 p0, .int .i64 p1, .int .i64 p2, .int .i64 p3, .int .i64 p4, .int .i64 p5, .int .i64 p6, .int .i64 p7, .int .i64 p8, .bool p9, .int .i64 p10, .slice A1 p11.length c1, .slice A2 p12.length c2] 26))
  generalize w1.alloc (.cells #[.int .i64 p0, .int .i64 p1, .int .i64 p2, .int .i64 p3, .int .i64 p4, .int .i64 p5, .int .i64 p6, .int .i64 p7, .int .i64 p8, .bool p9, .int .i64 p10, .slice A1 p11.length c1, .slice A2 p12.length c2] 26) = W8 at hz HB8 ⊢
  have k9 := (c13 hz).2.2.2.2.2.2.2.2.2.1
  clear hz
  have HR8 := Aside0.mk (Kd.C_below HR.out HB8.out)
  by_cases hx : x = 0
  · subst hx
    have h0 := parse0 HP.out
    have H24 := Aside0.mk (show 16 ≤ l.length from by have := (head0 h0).1; omega)
    have HL2 := Aside0.mk (show l.length ≤ 1500 from (head0 h0).2.1)
    clear h0
    cases p9
    · have HS := Aside0.mk (summed_calls HR8.out rfl HC.out H24.out (by have := HL2.out; omega) HY.out)
      have hlen := summed_ok HY.out H24.out HL2.out
      have HLS := Aside0.mk hlen
      clear hlen
      go_wp2_with (first
        | (go_at_call 38; (with_reducible refine HS.out.mono ?_); rintro e w9 ⟨v, rfl, ho, hb9⟩; obtain ⟨Av, cv, ev⟩ := Kd.R_slice ho; subst ev; have HB9 := Aside0.mk (below_step HB8.out hb9); have HQ := Aside0.mk (Kd.R_reads' ho); have HRT := Aside0.mk (right_calls HQ.out.2.2 rfl HQ.out.2.1 HLS.out.2 (by have := HLS.out.1; omega)); clear ho hb9)
        | (go_at_call 47; (with_reducible refine HRT.out.mono ?_); rintro e w10 ⟨rfl, ⟨⟨nq, rfl⟩⟩⟩))
      go_ret
      exact ⟨by rw [HW.out]; simp, bd HB9.out _⟩
    · go_wp2
      go_ret
      exact ⟨by rw [HW.out]; simp, HB8.out⟩
  · have q0 : (x == 0) = false := beq_eq_false_iff_ne.mpr hx
    go_wp2
    go_ret
    exact ⟨by rw [HW.out, q0]; simp, HB8.out⟩
set_option maxRecDepth 100000 in
set_option maxHeartbeats 1000000 in
theorem rwhole_calls {A : Option Addr} {c n : Nat} {l : List Int} {w : World} (hr : Kd.C (Kd.int .u8) w A n l) (hn : l.length = n) (hc : n ≤ c) (hl : l.length ≤ 100000) (hb : Bytes l) :
    Calls Try.prog 25 #[.slice A n c] w fun e w' => e = .returned (.bool (wholeL l)) ∧ Below w.heap.size w w' := by
  subst hn
  obtain ⟨⟨p0, p1, p2, p3, p4, p5, p6, p7, p8, p9, p10, p11, p12⟩, x, hp⟩ : ∃ p x, parseL l = (p, x) := ⟨_, _, rfl⟩
  have HR := Aside0.mk hr
  have HC := Aside0.mk hc
  have HL := Aside0.mk hl
  have HY := Aside0.mk hb
  have HP := Aside0.mk hp
  have HG := Aside0.mk (rparse_calls hr rfl hc hl hb)
  have HW := Aside0.mk (show wholeL l = (x == 0 && (p9 || fold (pairs (summedL l)) == 65535)) from by unfold wholeL; rw [hp])
  clear hr hc hl hb hp
  go_enter Try.func25, Try.ntmps25
  go_upto_region 2 with (first
    | (go_at_call 24; (with_reducible refine HG.out.mono ?_); intro e w1 hq; obtain ⟨A1, c1, A2, c2, rfl, h1, h2, h3, hb1⟩ := got_of HP.out hq; have HB1 := Aside0.mk hb1; clear hq h1 h2 h3 hb1))
  change Code.wp _ _ _ _ (w1.alloc (.cells #[.int .i64 p0, .int .i64 p1, .int .i64 p2, .int .i64 p3, .int .i64 p4, .int .i64 p5, .int .i64 p6, .int .i64 p7, .int .i64 p8, .bool p9, .int .i64 p10, .slice A1 p11.length c1, .slice A2 p12.length c2] 26))
  have hz := new_blk w1 (.cells #[.int .i64 p0, .int .i64 p1, .int .i64 p2, .int .i64 p3, .int .i64 p4, .int .i64 p5, .int .i64 p6, .int .i64 p7, .int .i64 p8, .bool p9, .int .i64 p10, .slice A1 p11.length c1, .slice A2 p12.length c2] 26)
  have HB8 := Aside0.mk (HB1.out.alloc HB1.out.size (.cells #[.int .i64 p0, .int .i64 p1, .int .i64 p2, .int .i64 p3, .int .i64 p4, .int .i64 p5, .int .i64 p6, .int .i64 p7, .int .i64 p8, .bool p9, .int .i64 p10, .slice A1 p11.length c1, .slice A2 p12.length c2] 26))
  generalize w1.alloc (.cells #[.int .i64 p0, .int .i64 p1, .int .i64 p2, .int .i64 p3, .int .i64 p4, .int .i64 p5, .int .i64 p6, .int .i64 p7, .int .i64 p8, .bool p9, .int .i64 p10, .slice A1 p11.length c1, .slice A2 p12.length c2] 26) = W8 at hz HB8 ⊢
  have k9 := (c13 hz).2.2.2.2.2.2.2.2.2.1
  clear hz
  have HR8 := Aside0.mk (Kd.C_below HR.out HB8.out)
  by_cases hx : x = 0
  · subst hx
    have h0 := parse0 HP.out
    have H24 := Aside0.mk (show 16 ≤ l.length from by have := (head0 h0).1; omega)
    have HL2 := Aside0.mk (show l.length ≤ 1500 from (head0 h0).2.1)
    clear h0
    cases p9
    · have HS := Aside0.mk (rsummed_calls HR8.out rfl HC.out H24.out (by have := HL2.out; omega))
      have hlen := summed_ok HY.out H24.out HL2.out
      have HLS := Aside0.mk hlen
      clear hlen
      go_wp2_with (first
        | (go_at_call 42; (with_reducible refine HS.out.mono ?_); rintro e w9 ⟨v, rfl, ho, hb9⟩; obtain ⟨Av, cv, ev⟩ := Kd.R_slice ho; subst ev; have HB9 := Aside0.mk (below_step HB8.out hb9); have HQ := Aside0.mk (Kd.R_reads' ho); have HRT := Aside0.mk (rright_calls HQ.out.2.2 rfl HQ.out.2.1 HLS.out.2 (by have := HLS.out.1; omega)); clear ho hb9)
        | (go_at_call 33; (with_reducible refine HRT.out.mono ?_); rintro e w10 ⟨rfl, ⟨⟨nq, rfl⟩⟩⟩))
      go_ret
      exact ⟨by rw [HW.out]; simp, bd HB9.out _⟩
    · go_wp2
      go_ret
      exact ⟨by rw [HW.out]; simp, HB8.out⟩
  · have q0 : (x == 0) = false := beq_eq_false_iff_ne.mpr hx
    go_wp2
    go_ret
    exact ⟨by rw [HW.out, q0]; simp, HB8.out⟩
end Go.Proofs.Ytbjhmifhmojaoaa.WB

namespace Go.Proofs.Ytbjhmifhmojaoaa.WB
set_option linter.unusedVariables false
set_option linter.unusedSimpArgs false
open Go.RowKit Go.Proofs.Ytbjhmifhmojaoaa.Hp Go.Proofs.Ytbjhmifhmojaoaa.SB Go.Proofs.YtbjhmifhmojaoaaW.PrintWords Go.Proofs.YtbjhmifhmojaoaaW.PrintLast Go.Proofs.YtbjhmifhmojaoaaW.PrintMore

/-- Block g holds just these bytes. -/
def Row (w : World) (g : Nat) (L : List Int) : Prop := w.heap[g]? = some (.cells (L.map (Value.int .u8)).toArray 5 (0, 0))
theorem RB_of_row {w : World} {g b : Nat} {L : List Int} (h : Row w g L) (hb : b ≤ g) (hl : L.length ≤ 100000) : RB b w (.slice (some ⟨g, 0, none⟩) L.length L.length) L := by
  refine Kd.R_of_own (enc := Value.int .u8) (h1 := fun _ => rfl) ?_ (fun _ _ => trivial)
  refine ⟨by simp [encs], .inr ⟨g, L.length, (L.map (Value.int .u8)).toArray, rfl, hb, h, Nat.le_refl _, by simp [maxLen]; omega, by simp, ?_⟩⟩
  simp [encs]
  exact List.take_of_length_le (by simp)
theorem row_of_RB {w : World} {g b n : Nat} {L : List Int} (h : RB b w (.slice (some ⟨g, 0, none⟩) n n) L) : Row w g L := by
  have ho := Kd.own_of_R (enc := Value.int .u8) (h1 := fun _ => rfl) h
  have hn : L.length = n := (Kd.R_reads' h).1.symm
  rcases ho.2 with ⟨hv, _⟩ | ⟨g', cap, cur, hv, _, hh, _, _, hs, ht⟩
  · cases hv
  · injection hv with ha hc hd
    injection ha with ha
    injection ha with ha
    subst ha
    unfold Row
    rw [hh]
    have hcs : cur.size = L.length := by omega
    have : cur = (L.map (Value.int .u8)).toArray := by
      apply Array.toList_inj.1
      have h2 : cur.toList.take (L.length * 1) = cur.toList := List.take_of_length_le (by simp; omega)
      rw [← h2, ht]
      simp [encs]
    rw [this]
theorem row_cells {w : World} {g : Nat} {L : List Int} (h : Row w g L) (i : Nat) (hi : i < L.length) : w.cell? ⟨g, i, none⟩ = some (.int .u8 (L.getD i 0)) := by
  unfold Row at h
  simp [World.cell?, h, hi]
theorem row_frozen {w : World} {g : Nat} {L : List Int} (h : Row w g L) (i : Nat) : w.frozen? ⟨g, i, none⟩ = false := by
  unfold Row at h
  simp [World.frozen?, h]
theorem row_set {w : World} {g : Nat} {L : List Int} (h : Row w g L) (i : Nat) (x : Int) : Row (w.setCell ⟨g, i, none⟩ (.int .u8 x)) g (L.set i x) := by
  have := set_blk h i (.int .u8 x)
  unfold Row
  rw [this]
  simp [List.map_set]
theorem row_C {w : World} {g : Nat} {L : List Int} (h : Row w g L) (hl : L.length ≤ 100000) : Kd.C (Kd.int .u8) w (some ⟨g, 0, none⟩) L.length L := (Kd.R_reads' (RB_of_row (b := 0) h (Nat.zero_le _) hl)).2.2
/-- What turns no block but one. -/
structure Chg (w w' : World) (g : Nat) : Prop where
  os : w'.os = w.os
  tape : w'.tape = w.tape
  output : w'.output = w.output
  size : w.heap.size ≤ w'.heap.size
  block : ∀ k, k < w.heap.size → k ≠ g → w'.heap[k]? = w.heap[k]?
theorem Chg.below {w0 w w' : World} {g : Nat} (h : Chg w w' g) (h0 : Below w0.heap.size w0 w) (hg : w0.heap.size ≤ g) : Below w0.heap.size w0 w' :=
  h0.trans ⟨h.os, h.tape, h.output, h.size, fun k hk => h.block k (Nat.lt_of_lt_of_le hk h0.size) (by omega)⟩
theorem Chg.of_grown {w w' : World} {g : Nat} (h : w.grownBy w' (some g)) : Chg w w' g := ⟨h.os, h.tape, h.output, h.size, fun k hk hne => h.block k hk (fun e => hne (by injection e))⟩
theorem put_row {w0 w : World} {g n : Nat} {L : List Int} (i m : Nat) (x : Int) {iz mz : Int} (hB : Below w0.heap.size w0 w) (hg : w0.heap.size ≤ g) (h : Row w g L) (hn : L.length = n) (hl : L.length ≤ 100000) (h1 : iz = i) (h2 : mz = m) (hm : m ≤ 4) (hi : i + m ≤ L.length) :
    Calls Try.prog 36 #[.slice (some ⟨g, 0, none⟩) n n, .int .i64 iz, .int .i64 mz, .int .i64 x] w fun e w' => e = .returned (.tuple #[]) ∧ Row w' g (putL L i m x) ∧ Chg w w' g := by
  subst hn
  refine (put_calls i m x hB (RB_of_row h hg hl) hl h1 h2 hm hi).mono ?_
  rintro e w' ⟨rfl, hr, hb, hgr⟩
  exact ⟨rfl, row_of_RB hr, Chg.of_grown hgr⟩
/-- May a packet's numbers be? -/
def rgB (n m : Int) : Bool := decide (0 ≤ n) && decide (n ≤ m)
def okR (p : Pk) : Bool :=
  rgB p.life 255 && rgB p.piece 255 && rgB p.frm 4294967295 && rgB p.dst 4294967295 && (if p.kind = 3 then rgB p.code 255 else rgB p.fp 65535 && rgB p.tp 65535 && (if p.kind = 2 then rgB p.label 65535 else rgB p.flags 15))
theorem within_ff (n m : Int) : wire_within.f n m = some (rgB n m) := by
  unfold wire_within.f rgB
  by_cases h : n ≥ 0
  · rw [if_pos h, decide_eq_true (show 0 ≤ n from h)]; simp
  · rw [if_neg h, decide_eq_false (show ¬ 0 ≤ n from h)]; simp
theorem ranges_f (p : Pk) : wire_ranges.f 5 p.kind p.life p.piece p.frm p.dst p.fp p.tp p.flags p.label p.bare p.code p.opts p.data = some (okR p) := by
  have jj : ∀ t, wire_ranges.j1 4 t p.kind p.life p.piece p.frm p.dst p.fp p.tp p.flags p.label p.bare p.code p.opts p.data = some (t && (if p.kind = 2 then rgB p.label 65535 else rgB p.flags 15)) := by
    intro t
    simp only [wire_ranges.j1, within_ff]
    cases t <;> split <;> simp
  have j : ∀ t, wire_ranges.j0 5 t p.kind p.life p.piece p.frm p.dst p.fp p.tp p.flags p.label p.bare p.code p.opts p.data = some (t && (if p.kind = 3 then rgB p.code 255 else rgB p.fp 65535 && rgB p.tp 65535 && (if p.kind = 2 then rgB p.label 65535 else rgB p.flags 15))) := by
    intro t
    simp only [wire_ranges.j0, within_ff]
    simp only [Option.bind_some, jj]
    generalize rgB p.fp 65535 = a
    generalize rgB p.tp 65535 = b
    generalize rgB p.code 255 = c
    generalize rgB p.label 65535 = d
    generalize rgB p.flags 15 = e
    by_cases h3 : p.kind = 3
    · rw [if_pos h3, if_pos h3]; cases t <;> simp
    · rw [if_neg h3, if_neg h3]; cases t <;> cases a <;> cases b <;> simp
  unfold wire_ranges.f
  simp only [within_ff, Option.bind_some, j]
  unfold okR
  generalize rgB p.life 255 = a
  generalize rgB p.piece 255 = b
  generalize rgB p.frm 4294967295 = c
  generalize rgB p.dst 4294967295 = d
  cases a <;> cases b <;> cases c <;> simp
theorem ranges_calls {p : Pk} {A1 A2 : Option Addr} {c1 c2 : Nat} {w : World} (h1 : Kd.C (Kd.int .u8) w A1 p.opts.length p.opts) (hc1 : p.opts.length ≤ c1) (h2 : Kd.C (Kd.int .u8) w A2 p.data.length p.data) (hc2 : p.data.length ≤ c2) :
    Calls Try.prog 35 #[pkV p (.slice A1 p.opts.length c1) (.slice A2 p.data.length c2)] w fun e w' => e = .returned (.bool (okR p)) ∧ Below w.heap.size w w' :=
  wire_ranges.calls 5 _ _ _ _ _ _ _ _ _ _ _ A1 c1 p.opts A2 c2 p.data _ w h1 hc1 h2 hc2 (ranges_f p)
end Go.Proofs.Ytbjhmifhmojaoaa.WB

namespace Go.Proofs.Ytbjhmifhmojaoaa.WB
set_option linter.unusedVariables false
set_option linter.unusedSimpArgs false
open Go.RowKit Go.Proofs.Ytbjhmifhmojaoaa.Hp Go.Proofs.Ytbjhmifhmojaoaa.SB Go.Proofs.YtbjhmifhmojaoaaW.PrintWords Go.Proofs.YtbjhmifhmojaoaaW.PrintLast Go.Proofs.YtbjhmifhmojaoaaW.PrintMore

def nL (p : Pk) : Nat := if p.kind = 1 then 24 + p.data.length + p.opts.length else if p.kind = 3 then 20 + p.data.length else 24 + p.data.length
def buildE (p : Pk) : Int :=
  if ¬ (1 ≤ p.kind ∧ p.kind ≤ 3) then 2 else if okR p = false then 14 else if p.kind = 1 ∧ 40 < p.opts.length then 5
  else if (p.kind = 3 ∧ p.data.length < 24) ∨ 1500 < nL p then 3 else 0
def h3L (n : Nat) (kind life piece frm dst : Int) : List Int :=
  putL (putL (putL ((((List.replicate n 0).set 0 (kind % 256)).set 1 (life % 256)).set 12 (piece % 256)) 2 2 n) 4 4 frm) 8 4 dst
def h4L (n : Nat) (kind life piece frm dst : Int) : List Int :=
  putL (h3L n kind life piece frm dst) 14 2 (65535 - fold (pairs ((h3L n kind life piece frm dst).take 16)))
/-- The sum that a body gets. -/
def sumL (kind : Int) (bare : Bool) (l : List Int) : Int :=
  if kind = 2 ∧ bare = true then 0 else if kind = 2 ∧ 65535 - fold (pairs (summedL l)) = 0 then 65535 else 65535 - fold (pairs (summedL l))
def bodyL (p : Pk) : List Int :=
  let h4 := h4L (nL p) p.kind p.life p.piece p.frm p.dst
  let h5 := putL (putL h4 16 2 p.fp) 18 2 p.tp
  splice (if p.kind = 3 then h4.set 16 (p.code % 256) else if p.kind = 2 then putL h5 20 2 p.label else splice ((h5.set 20 (p.flags % 256)).set 21 ((p.opts.length : Int) % 256)) 24 p.opts) (nL p - p.data.length) p.data
def buildL (p : Pk) : List Int := putL (bodyL p) (if p.kind = 3 then 18 else 22) 2 (sumL p.kind p.bare (bodyL p))
/-- make([]byte, n), as a row. -/
theorem make_row {ops : Array Oper} {rest : List Oper} {o : Oper} {a : Act} {Q : Exit → Act → World → Prop} {W : World} (g : Nat) (hgW : W.heap.size = g) (hgd : o.guard = none) (x y : Operand) (ho : o.op = .makeSlice 23 x y) (n : Nat) (nz : Int)
    (hnz : nz = n) (hx : a.eval x = .int .i64 nz) (hy : a.eval y = .int .i64 nz) (hn : n ≤ 100000)
    (h : ∀ w1, Row w1 g (List.replicate n 0) → Below g W w1 → wpList Try.prog ops Q rest (a.put o.dst (.slice (some ⟨g, 0, none⟩) n n)) w1) : wpList Try.prog ops Q (o :: rest) a W := by
  subst hnz hgW
  obtain ⟨i0, hi, hzz⟩ := Option.map_eq_some_iff.1 info5
  simp only [Prod.mk.injEq] at hzz
  obtain ⟨hz0, hz1, hz2⟩ := hzz
  have hr := run_make (P := Try.prog) W 23 5 i0 (.int .u8 0) Try.underlying23 hi hz0 .i64 .i64 (n : Int) (n : Int) (by omega) (by omega) (by rw [hz2]; omega) (by omega)
  simp only [Int.toNat_natCast, hz1] at hr
  refine Kd.event_run hgd (v := .slice (some ⟨W.heap.size, 0, none⟩) n n) (w1 := W.alloc (.cells (madeCells (Value.int .u8 0).cells (n * 1)) 5)) (by simp [execOp, ho, hx, hy, hr]) (h _ ?_ ((Below.refl _ W).alloc (Nat.le_refl _) _))
  unfold Row
  rw [new_blk]
  have : madeCells (Value.int .u8 0).cells (n * 1) = (List.map (Value.int .u8) (List.replicate n 0)).toArray := by
    apply Array.toList_inj.1
    show (madeCells #[Value.int .u8 0] (n * 1)).toList = _
    rw [toList_madeCells_one]
    simp
  rw [this]
theorem splice_len {L : List Int} {o : Nat} {cs : List Int} (h : o + cs.length ≤ L.length) : (splice L o cs).length = L.length := length_splice L o cs h
theorem splice_bytes {L : List Int} {o : Nat} {cs : List Int} (h : Bytes L) (h2 : Bytes cs) : Bytes (splice L o cs) := by
  unfold splice
  exact (h.take _).app (h2.app (h.drop _))
theorem splice_map {L cs : List Int} {o : Nat} : (splice L o cs).map (Value.int .u8) = splice (L.map (Value.int .u8)) o (cs.map (Value.int .u8)) := by
  unfold splice
  simp [List.map_take, List.map_drop]
end Go.Proofs.Ytbjhmifhmojaoaa.WB

namespace Go.Proofs.Ytbjhmifhmojaoaa.WB
set_option linter.unusedVariables false
set_option linter.unusedSimpArgs false
open Go.RowKit Go.Proofs.Ytbjhmifhmojaoaa.Hp Go.Proofs.Ytbjhmifhmojaoaa.SB Go.Proofs.YtbjhmifhmojaoaaW.PrintWords Go.Proofs.YtbjhmifhmojaoaaW.PrintLast Go.Proofs.YtbjhmifhmojaoaaW.PrintMore

/-- b[i:] of a row: where it lies. -/
theorem cut_row (g n i : Nat) {iz : Int} (hi : iz = i) (hin : i ≤ n) : ∃ A' : Option Addr, (i < n → A' = some ⟨g, i, none⟩) ∧
    ∀ W : World, (Instr.slice 23 (.slice (some ⟨g, 0, none⟩) n n) (some (.int .i64 iz)) none none).run Try.prog W = .ok (.slice A' (n - i) (n - i)) W := by
  subst hi
  obtain ⟨i0, hi0, _, hsz, _⟩ := info_parts info5
  have hel : Try.prog.elem 23 = 5 := by simp [Program.elem, Try.underlying23]
  have hu : Try.prog.underlying 23 = some (.slice (Try.prog.elem 23)) := by rw [hel]; exact Try.underlying23
  refine ⟨if n = i then some ⟨g, 0, none⟩ else (some (⟨g, 0, none⟩ : Addr)).map (·.add i), fun h => ?_, fun W => ?_⟩
  · rw [if_neg (by omega)]
    simp [Addr.add_lit]
  · rw [run_slice_l W 23 (some ⟨g, 0, none⟩) n n hu .i64 (i : Int) (by omega) (by omega), hel]
    simp [sizeOf, typeInfo, hi0, hsz, sliced, Result.andThen]
/-- copy(b[i:], src) into a row, as a step of a region that draws. -/
theorem copy_row {ops : Array Oper} {o : Oper} {a : Act} {w : World} {K : Act → World → Prop} {Q : Exit → Act → World → Prop} {E : Prop} (hgd : o.guard = none) (d s : Operand)
    (ho : o.op = .call { callee := .builtin .copy, args := #[d, s], argTypes := #[23, 23] }) {g i n m c : Nat} {A' A : Option Addr} {L cs : List Int} (hd : a.eval d = .slice A' m m) (hs : a.eval s = .slice A cs.length c)
    (hA : i < n → A' = some ⟨g, i, none⟩) (hm : m = n - i) (hR : Row w g L) (hL : L.length = n) (hC : Kd.C (Kd.int .u8) w A cs.length cs) (hfit : i + cs.length ≤ n)
    (h : ∀ w', Row w' g (splice L i cs) → Below g w w' → K (a.put o.dst (goInt cs.length)) w') :
    if Region.wanted o (yielded ops a.tmps) = true then Oper.wp Try.prog o a w K Q else E := by
  obtain ⟨i0, hi0, _, hsz, _⟩ := info_parts info5
  refine step_copy_splice hgd d s 23 23 ho 5 Try.underlying23 (by rw [hi0]; simp [hsz]) A' A m m cs.length c hd hs g i (L.map (Value.int .u8)) 5 hR (cs.map (Value.int .u8)) ?_ ?_ ?_ ?_ g w (Below.refl _ _) (Nat.le_refl _) ?_
  · rw [List.length_map]
    exact (Nat.min_eq_left (by omega)).symm
  · intro h0
    rw [List.length_map] at h0
    obtain ⟨ad, e, hc⟩ := cells_of hC h0
    refine ⟨hA (by omega), ad, e, fun j v hj => ?_⟩
    rw [List.getElem?_map] at hj
    obtain ⟨y, hy, rfl⟩ := Option.map_eq_some_iff.1 hj
    have hjl := (List.getElem?_eq_some_iff.1 hy).1
    rw [hc j hjl, List.getD_eq_getElem?_getD, hy]
    rfl
  · rw [List.length_map, List.length_map]; omega
  · intro v hv
    obtain ⟨y, _, rfl⟩ := List.mem_map.1 hv
    rfl
  · intro w' hh hb
    have := h w' (by unfold Row; rw [splice_map]; exact hh.out) hb
    simpa using this
end Go.Proofs.Ytbjhmifhmojaoaa.WB

namespace Go.Proofs.Ytbjhmifhmojaoaa.WB
set_option linter.unusedVariables false
set_option linter.unusedSimpArgs false
open Go.RowKit Go.Proofs.Ytbjhmifhmojaoaa.Hp Go.Proofs.Ytbjhmifhmojaoaa.SB Go.Proofs.YtbjhmifhmojaoaaW.PrintWords Go.Proofs.YtbjhmifhmojaoaaW.PrintLast Go.Proofs.YtbjhmifhmojaoaaW.PrintMore
set_option maxHeartbeats 8000000 in
set_option maxRecDepth 100000 in
theorem build_gram {A1 A2 : Option Addr} {c1 c2 : Nat} {p0 p1 p2 p3 p4 p5 p6 p7 p8 : Int} {p9 : Bool} {p10 : Int} {p11 p12 : List Int} {w : World} (ha : Kd.C (Kd.int .u8) w A1 p11.length p11) (hca : p11.length ≤ c1) (hd : Kd.C (Kd.int .u8) w A2 p12.length p12) (hcd : p12.length ≤ c2) (hba : Bytes p11) (hbd : Bytes p12) (hk : p0 = 2) (he : buildE ⟨p0, p1, p2, p3, p4, p5, p6, p7, p8, p9, p10, p11, p12⟩ = 0) :
    Calls Try.prog 17 #[.agg #[.int .i64 p0, .int .i64 p1, .int .i64 p2, .int .i64 p3, .int .i64 p4, .int .i64 p5, .int .i64 p6, .int .i64 p7, .int .i64 p8, .bool p9, .int .i64 p10, .slice A1 p11.length c1, .slice A2 p12.length c2]] w fun e w' => ∃ v, e = .returned (.tuple #[v, .int .i64 0]) ∧ RB w.heap.size w' v (buildL ⟨p0, p1, p2, p3, p4, p5, p6, p7, p8, p9, p10, p11, p12⟩) ∧ Below w.heap.size w w' := by
  have hn : nL ⟨p0, p1, p2, p3, p4, p5, p6, p7, p8, p9, p10, p11, p12⟩ = 24 + p12.length := by unfold nL; simp [hk]
  have hok : okR ⟨p0, p1, p2, p3, p4, p5, p6, p7, p8, p9, p10, p11, p12⟩ = true := by
    unfold buildE at he
    split at he
    · cases he
    split at he
    · cases he
    rename_i h; simpa using h
  have hlim : nL ⟨p0, p1, p2, p3, p4, p5, p6, p7, p8, p9, p10, p11, p12⟩ ≤ 1500 ∧ (p0 = 1 → p11.length ≤ 40) ∧ (p0 = 3 → 24 ≤ p12.length) := by
    unfold buildE at he
    split at he
    · cases he
    split at he
    · cases he
    split at he
    · cases he
    split at he
    · cases he
    rename_i h1 h2 h3 h4
    refine ⟨by omega, fun h => ?_, fun h => ?_⟩
    · have : ¬ 40 < p11.length := fun h5 => h3 ⟨h, h5⟩
      omega
    · have : ¬ p12.length < 24 := fun h5 => h4 (Or.inl ⟨h, h5⟩)
      omega
  obtain ⟨n, hne⟩ : ∃ n, 24 + p12.length = n := ⟨_, rfl⟩
  rw [hn, hne] at hlim
  have HN := Aside0.mk (show 20 ≤ n ∧ n ≤ 1500 ∧ 24 + p12.length = n from ⟨by omega, hlim.1, hne⟩)
  have HNL := Aside0.mk (hn.trans hne)
  have HLIM := Aside0.mk hlim
  have HNN := Aside0.mk (show wrap64 (24 + (p12.length : Int)) = (n : Int) from by rw [wid (by omega) (by omega)]; omega)
  have dlim : decide (1500 < wrap64 (24 + (p12.length : Int))) = false := decide_eq_false (by rw [HNN.out]; omega)
  have HA := Aside0.mk ha
  have HD := Aside0.mk hd
  have HYA := Aside0.mk hba
  have HYD := Aside0.mk hbd
  have HK := Aside0.mk hk
  have q1 : (p0 == 1) = false := by rw [hk]; rfl
  have q1n : (p0 != 1) = true := by rw [hk]; rfl
  have q2 : (p0 == 2) = true := by rw [hk]; rfl
  have q2n : (p0 != 2) = false := by rw [hk]; rfl
  have q3 : (p0 == 3) = false := by rw [hk]; rfl
  have q3n : (p0 != 3) = true := by rw [hk]; rfl
  have G34 := Aside0.mk (fun W => wire_known.calls p0 true W (by unfold wire_known.f; rw [if_pos (by omega)]; simp [hk]))
  have G35 := Aside0.mk (fun W (h : Below w.heap.size w W) => (show Calls Try.prog 35 #[.agg #[.int .i64 p0, .int .i64 p1, .int .i64 p2, .int .i64 p3, .int .i64 p4, .int .i64 p5, .int .i64 p6, .int .i64 p7, .int .i64 p8, .bool p9, .int .i64 p10, .slice A1 p11.length c1, .slice A2 p12.length c2]] W fun e w' => e = .returned (.bool true) ∧ Below W.heap.size W w' from by
    have := ranges_calls (p := ⟨p0, p1, p2, p3, p4, p5, p6, p7, p8, p9, p10, p11, p12⟩) (A1 := A1) (A2 := A2) (c1 := c1) (c2 := c2) (w := W) (Kd.C_below ha h) hca (Kd.C_below hd h) hcd
    rw [hok] at this
    exact this))
  have HBA := Aside0.mk (fun o => (Below.refl w.heap.size w).alloc (Nat.le_refl _) o)
  clear ha hd hba hbd hk he hn hok hlim hne hca hcd
  go_enter Try.func17, Try.ntmps17
  go_upto_region 14 with (first
    | (go_at_call 34; (with_reducible refine (G34.out _).mono ?_); rintro e w1 ⟨rfl, ⟨⟨nd, rfl⟩⟩⟩)
    | (go_at_call 35; (with_reducible refine (G35.out _ ?hb).mono ?_); (case hb => repeat (first | with_reducible exact HBA.out _ | with_reducible apply pw_below_drewN)); rintro e w2 ⟨rfl, hb2⟩; have HZ2 := Aside0.mk ((hb2.block w.heap.size (blk_lt (new_blk w (.cells #[.int .i64 p0, .int .i64 p1, .int .i64 p2, .int .i64 p3, .int .i64 p4, .int .i64 p5, .int .i64 p6, .int .i64 p7, .int .i64 p8, .bool p9, .int .i64 p10, .slice A1 p11.length c1, .slice A2 p12.length c2] 26)))).trans (new_blk w (.cells #[.int .i64 p0, .int .i64 p1, .int .i64 p2, .int .i64 p3, .int .i64 p4, .int .i64 p5, .int .i64 p6, .int .i64 p7, .int .i64 p8, .bool p9, .int .i64 p10, .slice A1 p11.length c1, .slice A2 p12.length c2] 26))); have HB2 := Aside0.mk (below_step (bd (HBA.out (.cells #[.int .i64 p0, .int .i64 p1, .int .i64 p2, .int .i64 p3, .int .i64 p4, .int .i64 p5, .int .i64 p6, .int .i64 p7, .int .i64 p8, .bool p9, .int .i64 p10, .slice A1 p11.length c1, .slice A2 p12.length c2] 26)) _) hb2); clear hb2; obtain ⟨k0, k1, k2, k3, k4, k5, k6, k7, k8, k9, k10, k11, k12⟩ := c13 HZ2.out))
  clear G34 G35 HBA dlim
  obtain ⟨g, HGE⟩ : ∃ g, w2.heap.size = g := ⟨_, rfl⟩
  have HGL := Aside0.mk (show w.heap.size < g from by rw [← HGE]; exact blk_lt HZ2.out)
  have HGG := Aside0.mk (Nat.le_of_lt HGL.out)
  go_upto_region 15 with (first
    | ((with_reducible refine gate_dst (N := 61) rfl ?_); refine make_row g HGE rfl (.tmp 60) (.tmp 60) rfl n (wrap64 (24 + (p12.length : Int))) HNN.out rfl rfl (by have := HN.out; omega) ?_; intro w3 hr hb3; have HR3 := Aside0.mk hr; have HZ3 := Aside0.mk ((hb3.block w.heap.size HGL.out).trans HZ2.out); have HB3 := Aside0.mk (HB2.out.trans (hb3.mono HGG.out)); have HS3 := Aside0.mk (show g < w3.heap.size from blk_lt hr); clear hr hb3; clear k0 k1 k2 k3 k4 k5 k6 k7 k8 k9 k10 k11 k12; obtain ⟨k0, k1, k2, k3, k4, k5, k6, k7, k8, k9, k10, k11, k12⟩ := c13 HZ3.out))
  have HCZ := Aside0.mk (fun W (h : Below g w3 W) => c13 ((h.block w.heap.size HGL.out).trans HZ3.out))
  have r0 := row_cells HR3.out 0 (by have := HN.out; simp; omega)
  have r1 := row_cells HR3.out 1 (by have := HN.out; simp; omega)
  have r12 := row_cells HR3.out 12 (by have := HN.out; simp; omega)
  have s0 := row_frozen HR3.out 0
  have s1 := row_frozen HR3.out 1
  have s12 := row_frozen HR3.out 12
  have hn0 : (0 : Int) < (n : Int) := by have := HN.out; omega
  have hn0n : 0 < n := by have := HN.out; omega
  have hn1 : (1 : Int) < (n : Int) := by have := HN.out; omega
  have hn12 : (12 : Int) < (n : Int) := by have := HN.out; omega
  clear k0 k1 k2 k3 k4 k5 k6 k7 k8 k9 k10 k11 k12
  refine start_ (n := 18) (S := fun w' => w'.cell? ⟨w.heap.size, 0, none⟩ = some (.int .i64 p0) ∧ w'.cell? ⟨w.heap.size, 1, none⟩ = some (.int .i64 p1) ∧ w'.cell? ⟨w.heap.size, 2, none⟩ = some (.int .i64 p2)) (ds := []) #[false, false, false, false, false, false, false, false, false, false, false, false, false, false, false, false, false, false] (by kernel_rfl) rfl rfl ⟨(HCZ.out _ (Below.refl g w3).drew).1, (HCZ.out _ (Below.refl g w3).drew).2.1, (HCZ.out _ (Below.refl g w3).drew).2.2.1⟩ (fun hHeld => ?_)
  refine pure_ (i := 0) (N := some 62) (v := ?_) (a' := ?_) #[true, false, false, false, false, false, false, false, false, false, false, false, false, false, false, false, false, false] rfl rfl (by kernel_rfl) (fun _ _ _ h => h) (Or.inl ⟨by rfl, ?_⟩) ?_ ?_
  rotate_left
  · intro w'
    go_simp
    with_reducible rfl
  rotate_left
  · simp only [Act.put, List.setIfInBounds_toArray, List.set_cons_zero, List.set_cons_succ, i64_w, i32_w]
    rfl
  refine pure_ (i := 1) (N := some 63) (v := ?_) (a' := ?_) #[true, true, false, false, false, false, false, false, false, false, false, false, false, false, false, false, false, false] rfl rfl (by kernel_rfl) (fun _ _ _ h => h) (Or.inl ⟨by rfl, ?_⟩) ?_ ?_
  rotate_left
  · intro w'
    go_simp
    with_reducible rfl
  rotate_left
  · simp only [Act.put, List.setIfInBounds_toArray, List.set_cons_zero, List.set_cons_succ, i64_w, i32_w]
    rfl
  refine pure_ (i := 2) (N := some 64) (v := ?_) (a' := ?_) #[true, true, true, false, false, false, false, false, false, false, false, false, false, false, false, false, false, false] rfl rfl (by kernel_rfl) (fun _ _ _ h => h) (Or.inl ⟨by rfl, ?_⟩) ?_ ?_
  rotate_left
  · intro w'
    go_simp
    with_reducible rfl
  rotate_left
  · simp only [Act.put, List.setIfInBounds_toArray, List.set_cons_zero, List.set_cons_succ, i64_w, i32_w]
    rfl
  refine pure_ (i := 3) (N := some 65) (v := ?_) (a' := ?_) #[true, true, true, true, false, false, false, false, false, false, false, false, false, false, false, false, false, false] rfl rfl (by kernel_rfl) (fun _ _ _ h => h) (Or.inl ⟨by rfl, ?_⟩) ?_ ?_
  rotate_left
  · intro w'
    go_simp
    with_reducible rfl
  rotate_left
  · simp only [Act.put, List.setIfInBounds_toArray, List.set_cons_zero, List.set_cons_succ, i64_w, i32_w]
    rfl
  refine pure_ (i := 6) (N := some 68) (v := ?_) (a' := ?_) #[true, true, true, true, false, false, true, false, false, false, false, false, false, false, false, false, false, false] rfl rfl (by kernel_rfl) (fun _ _ _ h => h) (Or.inl ⟨by rfl, ?_⟩) ?_ ?_
  rotate_left
  · intro w'
    go_simp
    with_reducible rfl
  rotate_left
  · simp only [Act.put, List.setIfInBounds_toArray, List.set_cons_zero, List.set_cons_succ, i64_w, i32_w]
    rfl
  refine pure_ (i := 9) (N := some 71) (v := ?_) (a' := ?_) #[true, true, true, true, false, false, true, false, false, true, false, false, false, false, false, false, false, false] rfl rfl (by kernel_rfl) (fun _ _ _ h => h) (Or.inl ⟨by rfl, ?_⟩) ?_ ?_
  rotate_left
  · intro w'
    go_simp
    with_reducible rfl
  rotate_left
  · simp only [Act.put, List.setIfInBounds_toArray, List.set_cons_zero, List.set_cons_succ, i64_w, i32_w]
    rfl
  refine take_ (i := 4) (N := some 66) (v := ?_) (a' := ?_) #[true, true, true, true, true, false, true, false, false, true, false, false, false, false, false, false, false, false] rfl rfl (by kernel_rfl) (fun _ _ _ h => h) (Or.inl ⟨by rfl, ?_⟩) hHeld ?_ ?_
  rotate_left
  · rintro w' ⟨s0, s1, s2⟩
    go_simp
    with_reducible rfl
  rotate_left
  · simp only [Act.put, List.setIfInBounds_toArray, List.set_cons_zero, List.set_cons_succ, i64_w, i32_w]
    rfl
  refine pure_ (i := 5) (N := some 67) (v := ?_) (a' := ?_) #[true, true, true, true, true, true, true, false, false, true, false, false, false, false, false, false, false, false] rfl rfl (by kernel_rfl) (fun _ _ _ h => h) (Or.inl ⟨by rfl, ?_⟩) ?_ ?_
  rotate_left
  · intro w'
    go_simp
    with_reducible rfl
  rotate_left
  · simp only [Act.put, List.setIfInBounds_toArray, List.set_cons_zero, List.set_cons_succ, i64_w, i32_w]
    rfl
  refine pure_ (i := 12) (N := some 74) (v := ?_) (a' := ?_) #[true, true, true, true, true, true, true, false, false, true, false, false, true, false, false, false, false, false] rfl rfl (by kernel_rfl) (fun _ _ _ h => h) (Or.inl ⟨by rfl, ?_⟩) ?_ ?_
  rotate_left
  · intro w'
    go_simp
    with_reducible rfl
  rotate_left
  · simp only [Act.put, List.setIfInBounds_toArray, List.set_cons_zero, List.set_cons_succ, i64_w, i32_w]
    rfl
  refine take_ (i := 7) (N := some 69) (v := ?_) (a' := ?_) #[true, true, true, true, true, true, true, true, false, true, false, false, true, false, false, false, false, false] rfl rfl (by kernel_rfl) (fun _ _ _ h => h) (Or.inl ⟨by rfl, ?_⟩) hHeld ?_ ?_
  rotate_left
  · rintro w' ⟨s0, s1, s2⟩
    go_simp
    with_reducible rfl
  rotate_left
  · simp only [Act.put, List.setIfInBounds_toArray, List.set_cons_zero, List.set_cons_succ, i64_w, i32_w]
    rfl
  refine pure_ (i := 8) (N := some 70) (v := ?_) (a' := ?_) #[true, true, true, true, true, true, true, true, true, true, false, false, true, false, false, false, false, false] rfl rfl (by kernel_rfl) (fun _ _ _ h => h) (Or.inl ⟨by rfl, ?_⟩) ?_ ?_
  rotate_left
  · intro w'
    go_simp
    with_reducible rfl
  rotate_left
  · simp only [Act.put, List.setIfInBounds_toArray, List.set_cons_zero, List.set_cons_succ, i64_w, i32_w]
    rfl
  refine take_ (i := 10) (N := some 72) (v := ?_) (a' := ?_) #[true, true, true, true, true, true, true, true, true, true, true, false, true, false, false, false, false, false] rfl rfl (by kernel_rfl) (fun _ _ _ h => h) (Or.inl ⟨by rfl, ?_⟩) hHeld ?_ ?_
  rotate_left
  · rintro w' ⟨s0, s1, s2⟩
    go_simp
    with_reducible rfl
  rotate_left
  · simp only [Act.put, List.setIfInBounds_toArray, List.set_cons_zero, List.set_cons_succ, i64_w, i32_w]
    rfl
  refine pure_ (i := 11) (N := some 73) (v := ?_) (a' := ?_) #[true, true, true, true, true, true, true, true, true, true, true, true, true, false, false, false, false, false] rfl rfl (by kernel_rfl) (fun _ _ _ h => h) (Or.inl ⟨by rfl, ?_⟩) ?_ ?_
  rotate_left
  · intro w'
    go_simp
    with_reducible rfl
  rotate_left
  · simp only [Act.put, List.setIfInBounds_toArray, List.set_cons_zero, List.set_cons_succ, i64_w, i32_w]
    rfl
  refine one_ (i := 13) (N := none) #[true, true, true, true, true, true, true, true, true, true, true, true, true, true, false, false, false, false] rfl rfl (by kernel_rfl) (by decide) (fun K hK => ?_)
  refine skip_ (w1 := ?_) (by rfl) rfl ?_ ?_
  rotate_left
  · go_simp
    rfl
  refine hK.out _ _ ⟨(HCZ.out _ ((Below.refl g w3).drew.setCell (p := ⟨g, 0, none⟩) (Nat.le_refl _) _)).1, (HCZ.out _ ((Below.refl g w3).drew.setCell (p := ⟨g, 0, none⟩) (Nat.le_refl _) _)).2.1, (HCZ.out _ ((Below.refl g w3).drew.setCell (p := ⟨g, 0, none⟩) (Nat.le_refl _) _)).2.2.1⟩ (fun hHeld => ?_)
  clear hK K
  refine pure_ (i := 14) (N := some 75) (v := ?_) (a' := ?_) #[true, true, true, true, true, true, true, true, true, true, true, true, true, true, true, false, false, false] rfl rfl (by kernel_rfl) (fun _ _ _ h => h) (Or.inl ⟨by rfl, ?_⟩) ?_ ?_
  rotate_left
  · intro w'
    go_simp
    with_reducible rfl
  rotate_left
  · simp only [Act.put, List.setIfInBounds_toArray, List.set_cons_zero, List.set_cons_succ, i64_w, i32_w]
    rfl
  refine one_ (i := 15) (N := none) #[true, true, true, true, true, true, true, true, true, true, true, true, true, true, true, true, false, false] rfl rfl (by kernel_rfl) (by decide) (fun K hK => ?_)
  refine skip_ (w1 := ?_) (by rfl) rfl ?_ ?_
  rotate_left
  · go_simp
    rfl
  refine hK.out _ _ ⟨(HCZ.out _ (((Below.refl g w3).drew.setCell (p := ⟨g, 0, none⟩) (Nat.le_refl _) _).setCell (p := ⟨g, 1, none⟩) (Nat.le_refl _) _)).1, (HCZ.out _ (((Below.refl g w3).drew.setCell (p := ⟨g, 0, none⟩) (Nat.le_refl _) _).setCell (p := ⟨g, 1, none⟩) (Nat.le_refl _) _)).2.1, (HCZ.out _ (((Below.refl g w3).drew.setCell (p := ⟨g, 0, none⟩) (Nat.le_refl _) _).setCell (p := ⟨g, 1, none⟩) (Nat.le_refl _) _)).2.2.1⟩ (fun hHeld => ?_)
  clear hK K
  refine pure_ (i := 16) (N := some 76) (v := ?_) (a' := ?_) #[true, true, true, true, true, true, true, true, true, true, true, true, true, true, true, true, true, false] rfl rfl (by kernel_rfl) (fun _ _ _ h => h) (Or.inl ⟨by rfl, ?_⟩) ?_ ?_
  rotate_left
  · intro w'
    go_simp
    with_reducible rfl
  rotate_left
  · simp only [Act.put, List.setIfInBounds_toArray, List.set_cons_zero, List.set_cons_succ, i64_w, i32_w]
    rfl
  refine one_ (i := 17) (N := none) #[true, true, true, true, true, true, true, true, true, true, true, true, true, true, true, true, true, true] rfl rfl (by kernel_rfl) (by decide) (fun K hK => ?_)
  refine skip_ (w1 := ?_) (by rfl) rfl ?_ ?_
  rotate_left
  · go_simp
    rfl
  refine hK.out _ _ ⟨(HCZ.out _ ((((Below.refl g w3).drew.setCell (p := ⟨g, 0, none⟩) (Nat.le_refl _) _).setCell (p := ⟨g, 1, none⟩) (Nat.le_refl _) _).setCell (p := ⟨g, 12, none⟩) (Nat.le_refl _) _)).1, (HCZ.out _ ((((Below.refl g w3).drew.setCell (p := ⟨g, 0, none⟩) (Nat.le_refl _) _).setCell (p := ⟨g, 1, none⟩) (Nat.le_refl _) _).setCell (p := ⟨g, 12, none⟩) (Nat.le_refl _) _)).2.1, (HCZ.out _ ((((Below.refl g w3).drew.setCell (p := ⟨g, 0, none⟩) (Nat.le_refl _) _).setCell (p := ⟨g, 1, none⟩) (Nat.le_refl _) _).setCell (p := ⟨g, 12, none⟩) (Nat.le_refl _) _)).2.2.1⟩ (fun hHeld => ?_)
  clear hK K
  refine done_ (by kernel_rfl) ?_
  clear r0 r1 r12 s0 s1 s12 hHeld
  generalize hW : World.drew _ = w4
  have hr : Row w4 g ((((List.replicate n 0).set 0 (IntKind.u8.wrap p0)).set 1 (IntKind.u8.wrap p1)).set 12 (IntKind.u8.wrap p2)) := by
    rw [← hW]
    exact row_set (row_set (row_set HR3.out 0 (IntKind.u8.wrap p0)) 1 (IntKind.u8.wrap p1)) 12 (IntKind.u8.wrap p2)
  simp only [IntKind.wrap_u8] at hr
  obtain ⟨L4, el⟩ : ∃ L, (((List.replicate n 0).set 0 (p0 % 256)).set 1 (p1 % 256)).set 12 (p2 % 256) = L := ⟨_, rfl⟩
  rw [el] at hr
  have EL4 := Aside0.mk el
  clear el
  have HR4 := Aside0.mk hr
  have HX4 := Aside0.mk (show Below g w3 w4 from by
    rw [← hW]
    exact (((((Below.refl g w3).setCell (p := ⟨g, 0, none⟩) (Nat.le_refl _) _).setCell (p := ⟨g, 1, none⟩) (Nat.le_refl _) _).setCell (p := ⟨g, 12, none⟩) (Nat.le_refl _) _)).drew)
  have HZ4 := Aside0.mk ((HX4.out.block w.heap.size HGL.out).trans HZ3.out)
  have HB4 := Aside0.mk (HB3.out.trans (HX4.out.mono HGG.out))
  have HS4 := Aside0.mk (show g ≤ w4.heap.size from Nat.le_of_lt (blk_lt hr))
  have HL4 := Aside0.mk (show L4.length = n from by rw [← EL4.out]; simp)
  have HQ4 := Aside0.mk (show Bytes L4 from by
    rw [← EL4.out]
    refine Bytes.set (Bytes.set (Bytes.set ?_ _ (by omega) (by omega)) _ (by omega) (by omega)) _ (by omega) (by omega)
    intro x hx
    have := List.eq_of_mem_replicate hx
    omega)
  clear hW hr HX4 HCZ HR3 HZ3 HZ2 HB2
  obtain ⟨k0, k1, k2, k3, k4, k5, k6, k7, k8, k9, k10, k11, k12⟩ := c13 HZ4.out
  have PR := Aside0.mk (put_row (w0 := w) (w := w4) 2 2 (wrap64 (24 + (p12.length : Int))) (iz := 2) (mz := 2) (HB4.out) HGG.out HR4.out HL4.out (by have := HL4.out; have := HN.out; omega) rfl rfl (by omega) (by have := HL4.out; have := HN.out; omega))
  go_upto_region 17 with (first | (go_at_call 36; (with_reducible refine PR.out.mono ?_); rintro e w5 ⟨rfl, hr, hc⟩; obtain ⟨L5, el⟩ : ∃ L, putL L4 2 2 (wrap64 (24 + (p12.length : Int))) = L := ⟨_, rfl⟩; rw [el] at hr; have EL5 := Aside0.mk el; clear el; have HR5 := Aside0.mk hr; have HB5 := Aside0.mk (hc.below HB4.out HGG.out); have HZ5 := Aside0.mk ((hc.block w.heap.size (Nat.lt_of_lt_of_le HGL.out HS4.out) (Nat.ne_of_lt HGL.out)).trans HZ4.out); have HS5 := Aside0.mk (Nat.le_trans HS4.out hc.size); have HL5 := Aside0.mk (show L5.length = n from by rw [← EL5.out, putL_len]; exact HL4.out); have HQ5 := Aside0.mk (show Bytes L5 from by rw [← EL5.out]; exact putL_bytes _ _ _ HQ4.out); clear hr hc; clear k0 k1 k2 k3 k4 k5 k6 k7 k8 k9 k10 k11 k12; obtain ⟨k0, k1, k2, k3, k4, k5, k6, k7, k8, k9, k10, k11, k12⟩ := c13 HZ5.out))
  clear PR
  have PR := Aside0.mk (put_row (w0 := w) (w := w5) 4 4 (p3) (iz := 4) (mz := 4) (HB5.out) HGG.out HR5.out HL5.out (by have := HL5.out; have := HN.out; omega) rfl rfl (by omega) (by have := HL5.out; have := HN.out; omega))
  go_upto_region 18 with (first | (go_at_call 36; (with_reducible refine PR.out.mono ?_); rintro e w6 ⟨rfl, hr, hc⟩; obtain ⟨L6, el⟩ : ∃ L, putL L5 4 4 (p3) = L := ⟨_, rfl⟩; rw [el] at hr; have EL6 := Aside0.mk el; clear el; have HR6 := Aside0.mk hr; have HB6 := Aside0.mk (hc.below HB5.out HGG.out); have HZ6 := Aside0.mk ((hc.block w.heap.size (Nat.lt_of_lt_of_le HGL.out HS5.out) (Nat.ne_of_lt HGL.out)).trans HZ5.out); have HS6 := Aside0.mk (Nat.le_trans HS5.out hc.size); have HL6 := Aside0.mk (show L6.length = n from by rw [← EL6.out, putL_len]; exact HL5.out); have HQ6 := Aside0.mk (show Bytes L6 from by rw [← EL6.out]; exact putL_bytes _ _ _ HQ5.out); clear hr hc; clear k0 k1 k2 k3 k4 k5 k6 k7 k8 k9 k10 k11 k12; obtain ⟨k0, k1, k2, k3, k4, k5, k6, k7, k8, k9, k10, k11, k12⟩ := c13 HZ6.out))
  clear PR
  have PR := Aside0.mk (put_row (w0 := w) (w := w6) 8 4 (p4) (iz := 8) (mz := 4) (HB6.out) HGG.out HR6.out HL6.out (by have := HL6.out; have := HN.out; omega) rfl rfl (by omega) (by have := HL6.out; have := HN.out; omega))
  go_upto_region 19 with (first | (go_at_call 36; (with_reducible refine PR.out.mono ?_); rintro e w7 ⟨rfl, hr, hc⟩; obtain ⟨L7, el⟩ : ∃ L, putL L6 8 4 (p4) = L := ⟨_, rfl⟩; rw [el] at hr; have EL7 := Aside0.mk el; clear el; have HR7 := Aside0.mk hr; have HB7 := Aside0.mk (hc.below HB6.out HGG.out); have HZ7 := Aside0.mk ((hc.block w.heap.size (Nat.lt_of_lt_of_le HGL.out HS6.out) (Nat.ne_of_lt HGL.out)).trans HZ6.out); have HS7 := Aside0.mk (Nat.le_trans HS6.out hc.size); have HL7 := Aside0.mk (show L7.length = n from by rw [← EL7.out, putL_len]; exact HL6.out); have HQ7 := Aside0.mk (show Bytes L7 from by rw [← EL7.out]; exact putL_bytes _ _ _ HQ6.out); clear hr hc; clear k0 k1 k2 k3 k4 k5 k6 k7 k8 k9 k10 k11 k12; obtain ⟨k0, k1, k2, k3, k4, k5, k6, k7, k8, k9, k10, k11, k12⟩ := c13 HZ7.out))
  clear PR
  obtain ⟨hcut16, hC16⟩ := cut_to (A := some ⟨g, 0, none⟩) (c := n) (l := L7) 16 (jz := 16) rfl (by have := HN.out; omega) HL7.out (Nat.le_refl _)
  have OF := Aside0.mk (of_calls (c := n) (hC16 w7 (by have h := row_C HR7.out (by have := HL7.out; have := HN.out; omega); rw [HL7.out] at h; exact h)) (by rw [List.length_take, HL7.out]; have := HN.out; omega) (by have := HN.out; omega) (HQ7.out.take 16) (by rw [List.length_take]; omega))
  clear hC16
  have PR := Aside0.mk (fun nd_ => put_row (w0 := w) (w := (w7.drewN nd_)) 14 2 (65535 - fold (pairs (L7.take 16))) (iz := 14) (mz := 2) (bd HB7.out nd_) HGG.out HR7.out HL7.out (by have := HL7.out; have := HN.out; omega) rfl rfl (by omega) (by have := HL7.out; have := HN.out; omega))
  go_upto_region 20 with (first | (go_at_call 36; (with_reducible refine (PR.out _).mono ?_); rintro e w8 ⟨rfl, hr, hc⟩; obtain ⟨L8, el⟩ : ∃ L, putL L7 14 2 (65535 - fold (pairs (L7.take 16))) = L := ⟨_, rfl⟩; rw [el] at hr; have EL8 := Aside0.mk el; clear el; have HR8 := Aside0.mk hr; have HB8 := Aside0.mk (hc.below (bd HB7.out _) HGG.out); have HZ8 := Aside0.mk ((hc.block w.heap.size (Nat.lt_of_lt_of_le HGL.out HS7.out) (Nat.ne_of_lt HGL.out)).trans HZ7.out); have HS8 := Aside0.mk (Nat.le_trans HS7.out hc.size); have HL8 := Aside0.mk (show L8.length = n from by rw [← EL8.out, putL_len]; exact HL7.out); have HQ8 := Aside0.mk (show Bytes L8 from by rw [← EL8.out]; exact putL_bytes _ _ _ HQ7.out); clear hr hc; clear k0 k1 k2 k3 k4 k5 k6 k7 k8 k9 k10 k11 k12; obtain ⟨k0, k1, k2, k3, k4, k5, k6, k7, k8, k9, k10, k11, k12⟩ := c13 HZ8.out) | (go_at_call 37; (with_reducible refine OF.out.mono ?_); rintro e w20 ⟨rfl, ⟨⟨nd, rfl⟩⟩⟩))
  clear PR
  clear OF hcut16
  have PR := Aside0.mk (put_row (w0 := w) (w := w8) 16 2 (p5) (iz := 16) (mz := 2) (HB8.out) HGG.out HR8.out HL8.out (by have := HL8.out; have := HN.out; omega) rfl rfl (by omega) (by have := HL8.out; have := HN.out; omega))
  go_upto_region 22 with (first | (go_at_call 36; (with_reducible refine PR.out.mono ?_); rintro e w9 ⟨rfl, hr, hc⟩; obtain ⟨L9, el⟩ : ∃ L, putL L8 16 2 (p5) = L := ⟨_, rfl⟩; rw [el] at hr; have EL9 := Aside0.mk el; clear el; have HR9 := Aside0.mk hr; have HB9 := Aside0.mk (hc.below HB8.out HGG.out); have HZ9 := Aside0.mk ((hc.block w.heap.size (Nat.lt_of_lt_of_le HGL.out HS8.out) (Nat.ne_of_lt HGL.out)).trans HZ8.out); have HS9 := Aside0.mk (Nat.le_trans HS8.out hc.size); have HL9 := Aside0.mk (show L9.length = n from by rw [← EL9.out, putL_len]; exact HL8.out); have HQ9 := Aside0.mk (show Bytes L9 from by rw [← EL9.out]; exact putL_bytes _ _ _ HQ8.out); clear hr hc; clear k0 k1 k2 k3 k4 k5 k6 k7 k8 k9 k10 k11 k12; obtain ⟨k0, k1, k2, k3, k4, k5, k6, k7, k8, k9, k10, k11, k12⟩ := c13 HZ9.out))
  clear PR
  have PR := Aside0.mk (put_row (w0 := w) (w := w9) 18 2 (p6) (iz := 18) (mz := 2) (HB9.out) HGG.out HR9.out HL9.out (by have := HL9.out; have := HN.out; omega) rfl rfl (by omega) (by have := HL9.out; have := HN.out; omega))
  go_upto_region 23 with (first | (go_at_call 36; (with_reducible refine PR.out.mono ?_); rintro e w10 ⟨rfl, hr, hc⟩; obtain ⟨L10, el⟩ : ∃ L, putL L9 18 2 (p6) = L := ⟨_, rfl⟩; rw [el] at hr; have EL10 := Aside0.mk el; clear el; have HR10 := Aside0.mk hr; have HB10 := Aside0.mk (hc.below HB9.out HGG.out); have HZ10 := Aside0.mk ((hc.block w.heap.size (Nat.lt_of_lt_of_le HGL.out HS9.out) (Nat.ne_of_lt HGL.out)).trans HZ9.out); have HS10 := Aside0.mk (Nat.le_trans HS9.out hc.size); have HL10 := Aside0.mk (show L10.length = n from by rw [← EL10.out, putL_len]; exact HL9.out); have HQ10 := Aside0.mk (show Bytes L10 from by rw [← EL10.out]; exact putL_bytes _ _ _ HQ9.out); clear hr hc; clear k0 k1 k2 k3 k4 k5 k6 k7 k8 k9 k10 k11 k12; obtain ⟨k0, k1, k2, k3, k4, k5, k6, k7, k8, k9, k10, k11, k12⟩ := c13 HZ10.out))
  clear PR
  have PR := Aside0.mk (put_row (w0 := w) (w := w10) 20 2 (p8) (iz := 20) (mz := 2) (HB10.out) HGG.out HR10.out HL10.out (by have := HL10.out; have := HN.out; omega) rfl rfl (by omega) (by have := HL10.out; have := HN.out; omega))
  go_upto_region 30 with (first | (go_at_call 36; (with_reducible refine PR.out.mono ?_); rintro e w11 ⟨rfl, hr, hc⟩; obtain ⟨L11, el⟩ : ∃ L, putL L10 20 2 (p8) = L := ⟨_, rfl⟩; rw [el] at hr; have EL11 := Aside0.mk el; clear el; have HR11 := Aside0.mk hr; have HB11 := Aside0.mk (hc.below HB10.out HGG.out); have HZ11 := Aside0.mk ((hc.block w.heap.size (Nat.lt_of_lt_of_le HGL.out HS10.out) (Nat.ne_of_lt HGL.out)).trans HZ10.out); have HS11 := Aside0.mk (Nat.le_trans HS10.out hc.size); have HL11 := Aside0.mk (show L11.length = n from by rw [← EL11.out, putL_len]; exact HL10.out); have HQ11 := Aside0.mk (show Bytes L11 from by rw [← EL11.out]; exact putL_bytes _ _ _ HQ10.out); clear hr hc; clear k0 k1 k2 k3 k4 k5 k6 k7 k8 k9 k10 k11 k12; obtain ⟨k0, k1, k2, k3, k4, k5, k6, k7, k8, k9, k10, k11, k12⟩ := c13 HZ11.out))
  clear PR
  obtain ⟨A3, hA3, hcut3⟩ := cut_row g n (24) (iz := wrap64 (wrap64 (24 + (p12.length : Int)) - (p12.length : Int))) (by rw [HNN.out, wid (by have := HN.out; omega) (by have := HN.out; omega)]; have := HN.out; omega) (by have := HN.out; omega)
  have HA3 := Aside0.mk hA3
  clear hA3
  have HCZ := Aside0.mk (fun W (h : Below g w11 W) => c13 ((h.block w.heap.size HGL.out).trans HZ11.out))
  clear k0 k1 k2 k3 k4 k5 k6 k7 k8 k9 k10 k11 k12
  refine start_ (n := 10) (S := fun w' => w'.cell? ⟨w.heap.size, 12, none⟩ = some (.slice A2 p12.length c2)) (ds := []) #[false, false, false, false, false, false, false, false, false, false] (by kernel_rfl) rfl rfl ((HCZ.out _ (Below.refl g w11).drew).2.2.2.2.2.2.2.2.2.2.2.2) (fun hHeld => ?_)
  refine pure_ (i := 0) (N := some 135) (v := ?_) (a' := ?_) #[true, false, false, false, false, false, false, false, false, false] rfl rfl (by kernel_rfl) (fun _ _ _ h => h) (Or.inl ⟨by rfl, ?_⟩) ?_ ?_
  rotate_left
  · intro w'
    go_simp
    with_reducible rfl
  rotate_left
  · simp only [Act.put, List.setIfInBounds_toArray, List.set_cons_zero, List.set_cons_succ, i64_w, i32_w]
    rfl
  refine pure_ (i := 1) (N := some 136) (v := ?_) (a' := ?_) #[true, true, false, false, false, false, false, false, false, false] rfl rfl (by kernel_rfl) (fun _ _ _ h => h) (Or.inl ⟨by rfl, ?_⟩) ?_ ?_
  rotate_left
  · intro w'
    go_simp
    with_reducible rfl
  rotate_left
  · simp only [Act.put, List.setIfInBounds_toArray, List.set_cons_zero, List.set_cons_succ, i64_w, i32_w]
    rfl
  refine pure_ (i := 2) (N := some 137) (v := ?_) (a' := ?_) #[true, true, true, false, false, false, false, false, false, false] rfl rfl (by kernel_rfl) (fun _ _ _ h => h) (Or.inl ⟨by rfl, ?_⟩) ?_ ?_
  rotate_left
  · intro w'
    go_simp
    with_reducible rfl
  rotate_left
  · simp only [Act.put, List.setIfInBounds_toArray, List.set_cons_zero, List.set_cons_succ, i64_w, i32_w]
    rfl
  refine pure_ (i := 7) (N := some 142) (v := ?_) (a' := ?_) #[true, true, true, false, false, false, false, true, false, false] rfl rfl (by kernel_rfl) (fun _ _ _ h => h) (Or.inl ⟨by rfl, ?_⟩) ?_ ?_
  rotate_left
  · intro w'
    go_simp
    with_reducible rfl
  rotate_left
  · simp only [Act.put, List.setIfInBounds_toArray, List.set_cons_zero, List.set_cons_succ, i64_w, i32_w]
    rfl
  refine take_ (i := 3) (N := some 138) (v := ?_) (a' := ?_) #[true, true, true, true, false, false, false, true, false, false] rfl rfl (by kernel_rfl) (fun _ _ _ h => h) (Or.inl ⟨by rfl, ?_⟩) hHeld ?_ ?_
  rotate_left
  · intro w' s0
    go_simp
    with_reducible rfl
  rotate_left
  · simp only [Act.put, List.setIfInBounds_toArray, List.set_cons_zero, List.set_cons_succ, i64_w, i32_w]
    rfl
  refine pure_ (i := 4) (N := some 139) (v := ?_) (a' := ?_) #[true, true, true, true, true, false, false, true, false, false] rfl rfl (by kernel_rfl) (fun _ _ _ h => h) (Or.inl ⟨by rfl, ?_⟩) ?_ ?_
  rotate_left
  · intro w'
    go_simp
    with_reducible rfl
  rotate_left
  · simp only [Act.put, List.setIfInBounds_toArray, List.set_cons_zero, List.set_cons_succ, i64_w, i32_w]
    rfl
  refine pure_ (i := 5) (N := some 140) (v := ?_) (a' := ?_) #[true, true, true, true, true, true, false, true, false, false] rfl rfl (by kernel_rfl) (fun _ _ _ h => h) (Or.inl ⟨by rfl, ?_⟩) ?_ ?_
  rotate_left
  · intro w'
    go_simp
    with_reducible rfl
  rotate_left
  · simp only [Act.put, List.setIfInBounds_toArray, List.set_cons_zero, List.set_cons_succ, i64_w, i32_w]
    rfl
  refine pure_ (i := 6) (N := some 141) (v := ?_) (a' := ?_) #[true, true, true, true, true, true, true, true, false, false] rfl rfl (by kernel_rfl) (fun _ _ _ h => h) (Or.inl ⟨by rfl, ?_⟩) ?_ ?_
  rotate_left
  · intro w'
    go_simp
    with_reducible rfl
  rotate_left
  · simp only [Act.put, List.setIfInBounds_toArray, List.set_cons_zero, List.set_cons_succ, i64_w, i32_w]
    rfl
  refine take_ (i := 8) (N := some 143) (v := ?_) (a' := ?_) #[true, true, true, true, true, true, true, true, true, false] rfl rfl (by kernel_rfl) (fun _ _ _ h => h) (Or.inl ⟨by rfl, ?_⟩) hHeld ?_ ?_
  rotate_left
  · intro w' s0
    go_simp
    with_reducible rfl
  rotate_left
  · simp only [Act.put, List.setIfInBounds_toArray, List.set_cons_zero, List.set_cons_succ, i64_w, i32_w]
    rfl
  refine one_ (i := 9) (N := some 144) #[true, true, true, true, true, true, true, true, true, true] rfl rfl (by kernel_rfl) (by decide) (fun K hK => ?_)
  refine copy_row rfl (.tmp 141) (.tmp 143) rfl (g := g) (i := 24) (n := n) (m := n - (24)) (c := c2) (A' := A3) (A := A2) (L := L11) (cs := p12) rfl rfl HA3.out rfl HR11.out HL11.out (Kd.C_drew (Kd.C_below HD.out HB11.out)) (by have := HN.out; have := HLIM.out; omega) ?_
  intro w12 hr hb
  refine hK.out _ _ ((HCZ.out _ ((Below.refl g w11).drew.trans hb)).2.2.2.2.2.2.2.2.2.2.2.2) (fun hHeld => ?_)
  clear hK K
  refine norm_ (a' := ?_) ?_ ?_
  rotate_left
  · show Act.put _ (some 144) _ = _
    simp only [Act.put, List.setIfInBounds_toArray, List.set_cons_zero, List.set_cons_succ, i64_w, i32_w]
    rfl
  refine done_ (by kernel_rfl) ?_
  obtain ⟨L12, el⟩ : ∃ L, splice L11 (24) p12 = L := ⟨_, rfl⟩
  rw [el] at hr
  have EL12 := Aside0.mk el
  have HR12 := Aside0.mk hr
  have HX := Aside0.mk ((Below.refl g w11).drew.trans hb)
  have HZ12 := Aside0.mk ((HX.out.block w.heap.size HGL.out).trans HZ11.out)
  have HB12 := Aside0.mk (HB11.out.trans (HX.out.mono HGG.out))
  have HS12 := Aside0.mk (Nat.le_trans HS11.out HX.out.size)
  have HL12 := Aside0.mk (show L12.length = n from by rw [← el, splice_len (by rw [HL11.out]; have := HN.out; have := HLIM.out; omega)]; exact HL11.out)
  have HQ12 := Aside0.mk (show Bytes L12 from by rw [← el]; exact splice_bytes HQ11.out HYD.out)
  clear hHeld hr hb el HX HCZ HA3 hcut3
  obtain ⟨k0, k1, k2, k3, k4, k5, k6, k7, k8, k9, k10, k11, k12⟩ := c13 HZ12.out
  have SF := Aside0.mk (summed_calls (c := n) (by have h := row_C HR12.out (by have := HL12.out; have := HN.out; omega); rw [HL12.out] at h; exact h) HL12.out (Nat.le_refl _) (by have := HL12.out; have := HN.out; omega) (by have := HL12.out; have := HN.out; omega) HQ12.out)
  have HSO := Aside0.mk (summed_ok HQ12.out (by have := HL12.out; have := HN.out; omega) (by have := HL12.out; have := HN.out; omega))
  go_upto_region 32 with (first
    | (go_at_call 38; (with_reducible refine SF.out.mono ?_); rintro e w13 ⟨v, rfl, ho, hb⟩; obtain ⟨Av, cv, ev⟩ := Kd.R_slice ho; subst ev; have HR13 := Aside0.mk (show Row w13 g L12 from (hb.block g (blk_lt HR12.out)).trans HR12.out); have HZ13 := Aside0.mk ((hb.block w.heap.size (blk_lt HZ12.out)).trans HZ12.out); have HB13 := Aside0.mk (below_step HB12.out hb); have HS13 := Aside0.mk (Nat.le_trans HS12.out hb.size); have HRD := Aside0.mk (Kd.R_reads' ho); have OF := Aside0.mk (of_calls HRD.out.2.2 rfl HRD.out.2.1 HSO.out.2 (by have := HSO.out.1; omega)); clear ho hb; clear k0 k1 k2 k3 k4 k5 k6 k7 k8 k9 k10 k11 k12; obtain ⟨k0, k1, k2, k3, k4, k5, k6, k7, k8, k9, k10, k11, k12⟩ := c13 HZ13.out)
    | (go_at_call 37; (with_reducible refine OF.out.mono ?_); rintro e w30 ⟨rfl, ⟨⟨nd2, rfl⟩⟩⟩))
  have HR13' := Aside0.mk (show Row (w13.drewN nd2) g L12 from HR13.out)
  have HZ13' := Aside0.mk (show (w13.drewN nd2).heap[w.heap.size]? = _ from HZ13.out)
  have HB13' := Aside0.mk (bd HB13.out nd2)
  have HS13' := Aside0.mk (show g ≤ (w13.drewN nd2).heap.size from HS13.out)
  generalize w13.drewN nd2 = w40 at HR13' HZ13' HB13' HS13' ⊢
  clear SF OF HRD HR13 HZ13 HB13 HS13 k0 k1 k2 k3 k4 k5 k6 k7 k8 k9 k10 k11 k12
  obtain ⟨k0, k1, k2, k3, k4, k5, k6, k7, k8, k9, k10, k11, k12⟩ := c13 HZ13'.out
  have G39 := Aside0.mk (fun W => wire_sumPlace.calls p0 22 W (by unfold wire_sumPlace.f; have := HK.out; rw [if_neg (by omega)]))
  cases hp9 : p9
  · rw [hp9] at HZ13' k9
    by_cases hs : 65535 - fold (pairs (summedL L12)) = 0
    · have d0 : (65535 - fold (pairs (summedL L12)) == 0) = true := beq_iff_eq.mpr hs
      have PR := Aside0.mk (fun nd_ => put_row (w0 := w) (w := w40.drewN nd_) 22 2 (65535) (iz := 22) (mz := 2) (bd HB13'.out nd_) HGG.out HR13'.out HL12.out (by have := HL12.out; have := HN.out; omega) rfl rfl (by omega) (by have := HL12.out; have := HN.out; have := HLIM.out; have := HK.out; omega))
      go_wp2_with (first
        | (go_at_call 39; (with_reducible refine (G39.out _).mono ?_); rintro e w41 ⟨rfl, ⟨⟨nd3, rfl⟩⟩⟩)
        | (go_at_call 36; (with_reducible refine (PR.out _).mono ?_); rintro e w42 ⟨rfl, hr, hc⟩; have HRX := Aside0.mk hr; have HBX := Aside0.mk (hc.below (bd HB13'.out _) HGG.out); clear hr hc))
      go_ret2
      refine ⟨_, rfl, ?_, HBX.out⟩
      have hl := RB_of_row HRX.out HGG.out (by rw [putL_len, HL12.out]; have := HN.out; omega)
      rw [putL_len, HL12.out] at hl
      have e : putL L12 22 2 (65535) = buildL ⟨p0, p1, p2, p3, p4, p5, p6, p7, p8, p9, p10, p11, p12⟩ := by
        rw [show (65535 : Int) = sumL p0 p9 L12 from by unfold sumL; rw [if_neg (by simp [hp9]), if_pos ⟨HK.out, hs⟩]]
        have hb : L12 = bodyL ⟨p0, p1, p2, p3, p4, p5, p6, p7, p8, p9, p10, p11, p12⟩ := by
          rw [← EL12.out, ← EL11.out, ← EL10.out, ← EL9.out, ← EL8.out, ← EL7.out, ← EL6.out, ← EL5.out, ← EL4.out]
          unfold bodyL h4L h3L
          simp only [HNL.out, HNN.out]
          rw [if_neg (show ¬ p0 = 3 by have := HK.out; omega), if_pos HK.out]
          rw [show n - p12.length = 24 from by have := HN.out; omega]
        rw [hb]
        unfold buildL
        simp only []
        rw [if_neg (show ¬ p0 = 3 by have := HK.out; omega)]
      rw [← e]
      exact hl
    · have d0 : (65535 - fold (pairs (summedL L12)) == 0) = false := beq_eq_false_iff_ne.mpr hs
      have PR := Aside0.mk (fun nd_ => put_row (w0 := w) (w := w40.drewN nd_) 22 2 (65535 - fold (pairs (summedL L12))) (iz := 22) (mz := 2) (bd HB13'.out nd_) HGG.out HR13'.out HL12.out (by have := HL12.out; have := HN.out; omega) rfl rfl (by omega) (by have := HL12.out; have := HN.out; have := HLIM.out; have := HK.out; omega))
      go_wp2_with (first
        | (go_at_call 39; (with_reducible refine (G39.out _).mono ?_); rintro e w41 ⟨rfl, ⟨⟨nd3, rfl⟩⟩⟩)
        | (go_at_call 36; (with_reducible refine (PR.out _).mono ?_); rintro e w42 ⟨rfl, hr, hc⟩; have HRX := Aside0.mk hr; have HBX := Aside0.mk (hc.below (bd HB13'.out _) HGG.out); clear hr hc))
      go_ret2
      refine ⟨_, rfl, ?_, HBX.out⟩
      have hl := RB_of_row HRX.out HGG.out (by rw [putL_len, HL12.out]; have := HN.out; omega)
      rw [putL_len, HL12.out] at hl
      have e : putL L12 22 2 (65535 - fold (pairs (summedL L12))) = buildL ⟨p0, p1, p2, p3, p4, p5, p6, p7, p8, p9, p10, p11, p12⟩ := by
        rw [show (65535 - fold (pairs (summedL L12)) : Int) = sumL p0 p9 L12 from by unfold sumL; rw [if_neg (by simp [hp9]), if_neg (fun h => hs h.2)]]
        have hb : L12 = bodyL ⟨p0, p1, p2, p3, p4, p5, p6, p7, p8, p9, p10, p11, p12⟩ := by
          rw [← EL12.out, ← EL11.out, ← EL10.out, ← EL9.out, ← EL8.out, ← EL7.out, ← EL6.out, ← EL5.out, ← EL4.out]
          unfold bodyL h4L h3L
          simp only [HNL.out, HNN.out]
          rw [if_neg (show ¬ p0 = 3 by have := HK.out; omega), if_pos HK.out]
          rw [show n - p12.length = 24 from by have := HN.out; omega]
        rw [hb]
        unfold buildL
        simp only []
        rw [if_neg (show ¬ p0 = 3 by have := HK.out; omega)]
      rw [← e]
      exact hl
  · rw [hp9] at HZ13' k9
    have PR := Aside0.mk (fun nd_ => put_row (w0 := w) (w := w40.drewN nd_) 22 2 (0) (iz := 22) (mz := 2) (bd HB13'.out nd_) HGG.out HR13'.out HL12.out (by have := HL12.out; have := HN.out; omega) rfl rfl (by omega) (by have := HL12.out; have := HN.out; have := HLIM.out; have := HK.out; omega))
    go_wp2_with (first
      | (go_at_call 39; (with_reducible refine (G39.out _).mono ?_); rintro e w41 ⟨rfl, ⟨⟨nd3, rfl⟩⟩⟩)
      | (go_at_call 36; (with_reducible refine (PR.out _).mono ?_); rintro e w42 ⟨rfl, hr, hc⟩; have HRX := Aside0.mk hr; have HBX := Aside0.mk (hc.below (bd HB13'.out _) HGG.out); clear hr hc))
    go_ret2
    refine ⟨_, rfl, ?_, HBX.out⟩
    have hl := RB_of_row HRX.out HGG.out (by rw [putL_len, HL12.out]; have := HN.out; omega)
    rw [putL_len, HL12.out] at hl
    have e : putL L12 22 2 (0) = buildL ⟨p0, p1, p2, p3, p4, p5, p6, p7, p8, p9, p10, p11, p12⟩ := by
      rw [show (0 : Int) = sumL p0 p9 L12 from by unfold sumL; rw [if_pos ⟨HK.out, hp9⟩]]
      have hb : L12 = bodyL ⟨p0, p1, p2, p3, p4, p5, p6, p7, p8, p9, p10, p11, p12⟩ := by
        rw [← EL12.out, ← EL11.out, ← EL10.out, ← EL9.out, ← EL8.out, ← EL7.out, ← EL6.out, ← EL5.out, ← EL4.out]
        unfold bodyL h4L h3L
        simp only [HNL.out, HNN.out]
        rw [if_neg (show ¬ p0 = 3 by have := HK.out; omega), if_pos HK.out]
        rw [show n - p12.length = 24 from by have := HN.out; omega]
      rw [hb]
      unfold buildL
      simp only []
      rw [if_neg (show ¬ p0 = 3 by have := HK.out; omega)]
    rw [← e]
    exact hl
end Go.Proofs.Ytbjhmifhmojaoaa.WB

namespace Go.Proofs.Ytbjhmifhmojaoaa.WB
set_option linter.unusedVariables false
set_option linter.unusedSimpArgs false
open Go.RowKit Go.Proofs.Ytbjhmifhmojaoaa.Hp Go.Proofs.Ytbjhmifhmojaoaa.SB Go.Proofs.YtbjhmifhmojaoaaW.PrintWords Go.Proofs.YtbjhmifhmojaoaaW.PrintLast Go.Proofs.YtbjhmifhmojaoaaW.PrintMore

/-- What stands behind Build's call. -/
def Built (w : World) (p : Pk) (e : Ending) (w' : World) : Prop :=
  ∃ v, e = .returned (.tuple #[v, .int .i64 (buildE p)]) ∧ RB w.heap.size w' v (if buildE p = 0 then buildL p else []) ∧ Below w.heap.size w w'
theorem built_ok {w w' : World} {p : Pk} {e : Ending} (hx : buildE p = 0) (h : ∃ v, e = .returned (.tuple #[v, .int .i64 0]) ∧ RB w.heap.size w' v (buildL p) ∧ Below w.heap.size w w') : Built w p e w' := by
  obtain ⟨v, h1, h2, h3⟩ := h
  exact ⟨v, by rw [hx]; exact h1, by rw [if_pos hx]; exact h2, h3⟩
end Go.Proofs.Ytbjhmifhmojaoaa.WB

namespace Go.Proofs.Ytbjhmifhmojaoaa.WB
set_option linter.unusedVariables false
set_option linter.unusedSimpArgs false
open Go.RowKit Go.Proofs.Ytbjhmifhmojaoaa.Hp Go.Proofs.Ytbjhmifhmojaoaa.SB Go.Proofs.YtbjhmifhmojaoaaW.PrintWords Go.Proofs.YtbjhmifhmojaoaaW.PrintLast Go.Proofs.YtbjhmifhmojaoaaW.PrintMore

theorem rb_form {b : Nat} {w : World} {v : Value} {l : List Int} (h : RB b w v l) (h0 : 0 < l.length) : ∃ g c, v = .slice (some ⟨g, 0, none⟩) l.length c ∧ b ≤ g := by
  obtain ⟨g, c, e, hb, _⟩ := Kd.R_form h h0
  exact ⟨g, c, e, hb⟩
theorem rb_cell {b g n c : Nat} {w : World} {l : List Int} (h : RB b w (.slice (some ⟨g, 0, none⟩) n c) l) (i : Nat) (hi : i < n) : w.cell? ⟨g, i, none⟩ = some (.int .u8 (l.getD i 0)) := by
  obtain ⟨ad, e, hc⟩ := cells_of (w := w) (A := some ⟨g, 0, none⟩) (n := n) (l := l) (by have := (Kd.R_reads' h); rw [this.1]; exact this.2.2) (by omega)
  injection e with e
  subst e
  have := hc i hi
  rw [Addr.add_mid] at this
  simpa using this
theorem rb_frozen {b g n c : Nat} {w : World} {l : List Int} (h : RB b w (.slice (some ⟨g, 0, none⟩) n c) l) (i : Nat) : w.frozen? ⟨g, i, none⟩ = false := by
  have ho := Kd.own_of_R (enc := Value.int .u8) (h1 := fun _ => rfl) h
  rcases ho.2 with ⟨hv, _⟩ | ⟨g', cap, cur, hv, _, hh, _⟩
  · cases hv
  · injection hv with ha _ _
    injection ha with ha
    injection ha with ha
    subst ha
    simp [World.frozen?, hh]
theorem rb_set {b g n c : Nat} {w : World} {l : List Int} (h : RB b w (.slice (some ⟨g, 0, none⟩) n c) l) (i : Nat) (x : Int) : RB b (w.setCell ⟨g, i, none⟩ (.int .u8 x)) (.slice (some ⟨g, 0, none⟩) n c) (l.set i x) := by
  have := Kd.R_putn h (i : Int) x
  simp only [Int.toNat_natCast] at this
  exact this
def h3R (n : Nat) (kind life piece frm dst : Int) : List Int :=
  putL (putL (putL ((((List.replicate 16 0).set 0 (kind % 256)).set 1 (life % 256)).set 12 (piece % 256)) 2 2 n) 4 4 frm) 8 4 dst
def h4R (n : Nat) (kind life piece frm dst : Int) : List Int := putL (h3R n kind life piece frm dst) 14 2 (65535 - fold (pairs (h3R n kind life piece frm dst)))
def rbodyL (p : Pk) : List Int :=
  let h4 := h4R (nL p) p.kind p.life p.piece p.frm p.dst
  (if p.kind = 3 then h4 ++ [p.code % 256, 0, 0, 0]
    else putL (putL (if p.kind = 2 then putL (h4 ++ List.replicate 8 0) 20 2 p.label else ((h4 ++ List.replicate 8 0 ++ p.opts).set 20 (p.flags % 256)).set 21 ((p.opts.length : Int) % 256)) 16 2 p.fp) 18 2 p.tp) ++ p.data
def rbuildL (p : Pk) : List Int := putL (rbodyL p) (if p.kind = 3 then 18 else 22) 2 (sumL p.kind p.bare (rbodyL p))
theorem putL_app (i : Nat) : ∀ (m : Nat) (A B : List Int) (v : Int), i + m ≤ A.length → putL (A ++ B) i m v = putL A i m v ++ B
  | 0, _, _, _, _ => rfl
  | m + 1, A, B, v, h => by
    rw [putL, putL, List.set_append_left _ _ (by omega)]
    exact putL_app i m _ _ _ (by rw [List.length_set]; omega)
theorem h3L_app (n : Nat) (h : 16 ≤ n) (a b c d e : Int) : h3L n a b c d e = h3R n a b c d e ++ List.replicate (n - 16) 0 := by
  unfold h3L h3R
  have e0 : List.replicate n (0 : Int) = List.replicate 16 0 ++ List.replicate (n - 16) 0 := by rw [List.replicate_append_replicate]; congr 1; omega
  rw [e0, List.set_append_left _ _ (by simp), List.set_append_left _ _ (by simp), List.set_append_left _ _ (by simp), putL_app _ _ _ _ _ (by simp), putL_app _ _ _ _ _ (by rw [putL_len]; simp), putL_app _ _ _ _ _ (by rw [putL_len, putL_len]; simp)]
theorem h3R_len (n : Nat) (a b c d e : Int) : (h3R n a b c d e).length = 16 := by unfold h3R; rw [putL_len, putL_len, putL_len]; simp
theorem h4R_len (n : Nat) (a b c d e : Int) : (h4R n a b c d e).length = 16 := by unfold h4R; rw [putL_len, h3R_len]
theorem h4L_app (n : Nat) (h : 16 ≤ n) (a b c d e : Int) : h4L n a b c d e = h4R n a b c d e ++ List.replicate (n - 16) 0 := by
  unfold h4L h4R
  rw [h3L_app n h, List.take_left' (h3R_len ..), putL_app _ _ _ _ _ (by rw [h3R_len]; decide)]
theorem splice_end {A Z : List Int} {cs : List Int} {o : Nat} (ho : A.length = o) (hz : Z.length = cs.length) : splice (A ++ Z) o cs = A ++ cs := by
  unfold splice
  rw [List.take_left' ho, List.drop_of_length_le (by rw [List.length_append]; omega), List.append_nil]
end Go.Proofs.Ytbjhmifhmojaoaa.WB

namespace Go.Proofs.Ytbjhmifhmojaoaa.WB
set_option linter.unusedVariables false
set_option linter.unusedSimpArgs false
open Go.RowKit Go.Proofs.Ytbjhmifhmojaoaa.Hp Go.Proofs.Ytbjhmifhmojaoaa.SB Go.Proofs.YtbjhmifhmojaoaaW.PrintWords Go.Proofs.YtbjhmifhmojaoaaW.PrintLast Go.Proofs.YtbjhmifhmojaoaaW.PrintMore
set_option maxHeartbeats 8000000 in
set_option maxRecDepth 100000 in
theorem rbuild_gram {A1 A2 : Option Addr} {c1 c2 : Nat} {p0 p1 p2 p3 p4 p5 p6 p7 p8 : Int} {p9 : Bool} {p10 : Int} {p11 p12 : List Int} {w : World} (ha : Kd.C (Kd.int .u8) w A1 p11.length p11) (hca : p11.length ≤ c1) (hd : Kd.C (Kd.int .u8) w A2 p12.length p12) (hcd : p12.length ≤ c2) (hba : Bytes p11) (hbd : Bytes p12) (hk : p0 = 2) (he : buildE ⟨p0, p1, p2, p3, p4, p5, p6, p7, p8, p9, p10, p11, p12⟩ = 0) :
    Calls Try.prog 18 #[.agg #[.int .i64 p0, .int .i64 p1, .int .i64 p2, .int .i64 p3, .int .i64 p4, .int .i64 p5, .int .i64 p6, .int .i64 p7, .int .i64 p8, .bool p9, .int .i64 p10, .slice A1 p11.length c1, .slice A2 p12.length c2]] w fun e w' => ∃ v, e = .returned (.tuple #[v, .int .i64 0]) ∧ RB w.heap.size w' v (rbuildL ⟨p0, p1, p2, p3, p4, p5, p6, p7, p8, p9, p10, p11, p12⟩) ∧ Below w.heap.size w w' := by
  have hn : nL ⟨p0, p1, p2, p3, p4, p5, p6, p7, p8, p9, p10, p11, p12⟩ = 24 + p12.length := by unfold nL; simp [hk]
  have hok : okR ⟨p0, p1, p2, p3, p4, p5, p6, p7, p8, p9, p10, p11, p12⟩ = true := by
    unfold buildE at he
    split at he
    · cases he
    split at he
    · cases he
    rename_i h; simpa using h
  have hlim : nL ⟨p0, p1, p2, p3, p4, p5, p6, p7, p8, p9, p10, p11, p12⟩ ≤ 1500 ∧ (p0 = 1 → p11.length ≤ 40) ∧ (p0 = 3 → 24 ≤ p12.length) := by
    unfold buildE at he
    split at he
    · cases he
    split at he
    · cases he
    split at he
    · cases he
    split at he
    · cases he
    rename_i h1 h2 h3 h4
    refine ⟨by omega, fun h => ?_, fun h => ?_⟩
    · have : ¬ 40 < p11.length := fun h5 => h3 ⟨h, h5⟩
      omega
    · have : ¬ p12.length < 24 := fun h5 => h4 (Or.inl ⟨h, h5⟩)
      omega
  obtain ⟨n, hne⟩ : ∃ n, 24 + p12.length = n := ⟨_, rfl⟩
  rw [hn, hne] at hlim
  have HN := Aside0.mk (show 20 ≤ n ∧ n ≤ 1500 ∧ 24 + p12.length = n from ⟨by omega, hlim.1, hne⟩)
  have HNL := Aside0.mk (hn.trans hne)
  have HLIM := Aside0.mk hlim
  have HNN := Aside0.mk (show wrap64 (24 + (p12.length : Int)) = (n : Int) from by rw [wid (by omega) (by omega)]; omega)
  have dlim : decide (1500 < wrap64 (24 + (p12.length : Int))) = false := decide_eq_false (by rw [HNN.out]; omega)
  have HA := Aside0.mk ha
  have HD := Aside0.mk hd
  have HCA := Aside0.mk hca
  have HCD := Aside0.mk hcd
  have HYA := Aside0.mk hba
  have HYD := Aside0.mk hbd
  have HK := Aside0.mk hk
  simp [okR, rgB, hk] at hok
  have dk1 : decide (p0 < 1) = false := decide_eq_false (by omega)
  have dk3 : decide (3 < p0) = false := decide_eq_false (by omega)
  have of : ∀ (a m : Int), 0 ≤ a → a ≤ m → roundhouseref3_out.f a m = some false := fun a m h0 h1 => by unfold roundhouseref3_out.f; rw [if_neg (by omega)]; simp; omega
  have O1 := Aside0.mk (fun W => roundhouseref3_out.calls p1 255 false W (of _ _ (by omega) (by omega)))
  have O2 := Aside0.mk (fun W => roundhouseref3_out.calls p2 255 false W (of _ _ (by omega) (by omega)))
  have O3 := Aside0.mk (fun W => roundhouseref3_out.calls p3 4294967295 false W (of _ _ (by omega) (by omega)))
  have O4 := Aside0.mk (fun W => roundhouseref3_out.calls p4 4294967295 false W (of _ _ (by omega) (by omega)))
  have O5 := Aside0.mk (fun W => roundhouseref3_out.calls p5 65535 false W (of _ _ (by omega) (by omega)))
  have O6 := Aside0.mk (fun W => roundhouseref3_out.calls p6 65535 false W (of _ _ (by omega) (by omega)))
  have O8 := Aside0.mk (fun W => roundhouseref3_out.calls p8 65535 false W (of _ _ (by omega) (by omega)))
  have q1 : (p0 == 1) = false := by rw [hk]; rfl
  have q1n : (p0 != 1) = true := by rw [hk]; rfl
  have q2 : (p0 == 2) = true := by rw [hk]; rfl
  have q2n : (p0 != 2) = false := by rw [hk]; rfl
  have q3 : (p0 == 3) = false := by rw [hk]; rfl
  have q3n : (p0 != 3) = true := by rw [hk]; rfl
  clear ha hd hba hbd hk he hn hok hlim hne hca hcd of
  go_enter Try.func18, Try.ntmps18
  go_upto_region 3 with fail
  have hz1 := new_blk w (.cells #[.int .i64 p0, .int .i64 p1, .int .i64 p2, .int .i64 p3, .int .i64 p4, .int .i64 p5, .int .i64 p6, .int .i64 p7, .int .i64 p8, .bool p9, .int .i64 p10, .slice A1 p11.length c1, .slice A2 p12.length c2] 26)
  have HB1 := Aside0.mk ((Below.refl w.heap.size w).alloc (Nat.le_refl _) (.cells #[.int .i64 p0, .int .i64 p1, .int .i64 p2, .int .i64 p3, .int .i64 p4, .int .i64 p5, .int .i64 p6, .int .i64 p7, .int .i64 p8, .bool p9, .int .i64 p10, .slice A1 p11.length c1, .slice A2 p12.length c2] 26))
  generalize (w.alloc (.cells #[.int .i64 p0, .int .i64 p1, .int .i64 p2, .int .i64 p3, .int .i64 p4, .int .i64 p5, .int .i64 p6, .int .i64 p7, .int .i64 p8, .bool p9, .int .i64 p10, .slice A1 p11.length c1, .slice A2 p12.length c2] 26)) = w1 at hz1 HB1 ⊢
  have HZ1 := Aside0.mk hz1
  have k0 := (c13 hz1).1
  clear hz1
  refine start_ (n := 12) (S := fun w' => w'.cell? ⟨w.heap.size, 0, none⟩ = some (.int .i64 p0)) (ds := []) #[false, false, false, false, false, false, false, false, false, false, false, false] (by kernel_rfl) rfl rfl (k0) (fun hHeld => ?_)
  refine pure_ (i := 0) (N := some 18) (v := ?_) (a' := ?_) #[true, false, false, false, false, false, false, false, false, false, false, false] rfl rfl (by kernel_rfl) (fun _ _ _ h => h) (Or.inl ⟨by rfl, ?_⟩) ?_ ?_
  rotate_left
  · intro w'
    go_simp
    with_reducible rfl
  rotate_left
  · simp only [Act.put, List.setIfInBounds_toArray, List.set_cons_zero, List.set_cons_succ, i64_w, i32_w]
    rfl
  refine pure_ (i := 3) (N := some 21) (v := ?_) (a' := ?_) #[true, false, false, true, false, false, false, false, false, false, false, false] rfl rfl (by kernel_rfl) (fun _ _ _ h => h) (Or.inl ⟨by rfl, ?_⟩) ?_ ?_
  rotate_left
  · intro w'
    go_simp
    with_reducible rfl
  rotate_left
  · simp only [Act.put, List.setIfInBounds_toArray, List.set_cons_zero, List.set_cons_succ, i64_w, i32_w]
    rfl
  refine pure_ (i := 6) (N := some 24) (v := ?_) (a' := ?_) #[true, false, false, true, false, false, true, false, false, false, false, false] rfl rfl (by kernel_rfl) (fun _ _ _ h => h) (Or.inl ⟨by rfl, ?_⟩) ?_ ?_
  rotate_left
  · intro w'
    go_simp
    with_reducible rfl
  rotate_left
  · simp only [Act.put, List.setIfInBounds_toArray, List.set_cons_zero, List.set_cons_succ, i64_w, i32_w]
    rfl
  refine take_ (i := 1) (N := some 19) (v := ?_) (a' := ?_) #[true, true, false, true, false, false, true, false, false, false, false, false] rfl rfl (by kernel_rfl) (fun _ _ _ h => h) (Or.inl ⟨by rfl, ?_⟩) hHeld ?_ ?_
  rotate_left
  · intro w' s0
    go_simp
    with_reducible rfl
  rotate_left
  · simp only [Act.put, List.setIfInBounds_toArray, List.set_cons_zero, List.set_cons_succ, i64_w, i32_w]
    rfl
  refine pure_ (i := 2) (N := some 20) (v := ?_) (a' := ?_) #[true, true, true, true, false, false, true, false, false, false, false, false] rfl rfl (by kernel_rfl) (fun _ _ _ h => h) (Or.inl ⟨by rfl, ?_⟩) ?_ ?_
  rotate_left
  · intro w'
    go_simp
    with_reducible rfl
  rotate_left
  · simp only [Act.put, List.setIfInBounds_toArray, List.set_cons_zero, List.set_cons_succ, i64_w, i32_w]
    rfl
  refine pure_ (i := 9) (N := some 4) (v := ?_) (a' := ?_) #[true, true, true, true, false, false, true, false, false, true, false, false] rfl rfl (by kernel_rfl) (fun _ _ _ h => h) (Or.inl ⟨by rfl, ?_⟩) ?_ ?_
  rotate_left
  · intro w'
    go_simp
    with_reducible rfl
  rotate_left
  · simp only [Act.put, List.setIfInBounds_toArray, List.set_cons_zero, List.set_cons_succ, i64_w, i32_w]
    rfl
  refine take_ (i := 4) (N := some 22) (v := ?_) (a' := ?_) #[true, true, true, true, true, false, true, false, false, true, false, false] rfl rfl (by kernel_rfl) (fun _ _ _ h => h) (Or.inl ⟨by rfl, ?_⟩) hHeld ?_ ?_
  rotate_left
  · intro w' s0
    go_simp
    with_reducible rfl
  rotate_left
  · simp only [Act.put, List.setIfInBounds_toArray, List.set_cons_zero, List.set_cons_succ, i64_w, i32_w]
    rfl
  refine pure_ (i := 5) (N := some 23) (v := ?_) (a' := ?_) #[true, true, true, true, true, true, true, false, false, true, false, false] rfl rfl (by kernel_rfl) (fun _ _ _ h => h) (Or.inl ⟨by rfl, ?_⟩) ?_ ?_
  rotate_left
  · intro w'
    go_simp
    with_reducible rfl
  rotate_left
  · simp only [Act.put, List.setIfInBounds_toArray, List.set_cons_zero, List.set_cons_succ, i64_w, i32_w]
    rfl
  refine pure_ (i := 10) (N := some 5) (v := ?_) (a' := ?_) #[true, true, true, true, true, true, true, false, false, true, true, false] rfl rfl (by kernel_rfl) (fun _ _ _ h => h) (Or.inl ⟨by rfl, ?_⟩) ?_ ?_
  rotate_left
  · intro w'
    go_simp
    with_reducible rfl
  rotate_left
  · simp only [Act.put, List.setIfInBounds_toArray, List.set_cons_zero, List.set_cons_succ, i64_w, i32_w]
    rfl
  refine take_ (i := 7) (N := some 25) (v := ?_) (a' := ?_) #[true, true, true, true, true, true, true, true, false, true, true, false] rfl rfl (by kernel_rfl) (fun _ _ _ h => h) (Or.inl ⟨by rfl, ?_⟩) hHeld ?_ ?_
  rotate_left
  · intro w' s0
    go_simp
    with_reducible rfl
  rotate_left
  · simp only [Act.put, List.setIfInBounds_toArray, List.set_cons_zero, List.set_cons_succ, i64_w, i32_w]
    rfl
  refine pure_ (i := 8) (N := some 26) (v := ?_) (a' := ?_) #[true, true, true, true, true, true, true, true, true, true, true, false] rfl rfl (by kernel_rfl) (fun _ _ _ h => h) (Or.inl ⟨by rfl, ?_⟩) ?_ ?_
  rotate_left
  · intro w'
    go_simp
    with_reducible rfl
  rotate_left
  · simp only [Act.put, List.setIfInBounds_toArray, List.set_cons_zero, List.set_cons_succ, i64_w, i32_w]
    rfl
  refine pure_ (i := 11) (N := some 6) (v := ?_) (a' := ?_) #[true, true, true, true, true, true, true, true, true, true, true, true] rfl rfl (by kernel_rfl) (fun _ _ _ h => h) (Or.inl ⟨by rfl, ?_⟩) ?_ ?_
  rotate_left
  · intro w'
    go_simp
    with_reducible rfl
  rotate_left
  · simp only [Act.put, List.setIfInBounds_toArray, List.set_cons_zero, List.set_cons_succ, i64_w, i32_w]
    rfl
  refine done_ (by kernel_rfl) ?_
  clear hHeld k0
  obtain ⟨k0, k1, k2, k3, k4, k5, k6, k7, k8, k9, k10, k11, k12⟩ := c13 HZ1.out
  go_upto_region 15 with (first | (go_at_call 40; (with_reducible refine (O1.out _).mono ?_); rintro e w5 ⟨rfl, ⟨⟨nd, rfl⟩⟩⟩) | (go_at_call 40; (with_reducible refine (O2.out _).mono ?_); rintro e w5 ⟨rfl, ⟨⟨nd, rfl⟩⟩⟩) | (go_at_call 40; (with_reducible refine (O3.out _).mono ?_); rintro e w5 ⟨rfl, ⟨⟨nd, rfl⟩⟩⟩) | (go_at_call 40; (with_reducible refine (O4.out _).mono ?_); rintro e w5 ⟨rfl, ⟨⟨nd, rfl⟩⟩⟩) | (go_at_call 40; (with_reducible refine (O5.out _).mono ?_); rintro e w5 ⟨rfl, ⟨⟨nd, rfl⟩⟩⟩) | (go_at_call 40; (with_reducible refine (O6.out _).mono ?_); rintro e w5 ⟨rfl, ⟨⟨nd, rfl⟩⟩⟩) | (go_at_call 40; (with_reducible refine (O8.out _).mono ?_); rintro e w5 ⟨rfl, ⟨⟨nd, rfl⟩⟩⟩))
  generalize hW : World.drewN _ _ = w2
  have HZ2 : Aside0 (w2.heap[w.heap.size]? = some (.cells #[.int .i64 p0, .int .i64 p1, .int .i64 p2, .int .i64 p3, .int .i64 p4, .int .i64 p5, .int .i64 p6, .int .i64 p7, .int .i64 p8, .bool p9, .int .i64 p10, .slice A1 p11.length c1, .slice A2 p12.length c2] 26 (0, 0))) := Aside0.mk (by rw [← hW]; exact HZ1.out)
  have HB2 : Aside0 (Below w.heap.size w w2) := Aside0.mk (by rw [← hW]; exact bd HB1.out _)
  clear hW k0 k1 k2 k3 k4 k5 k6 k7 k8 k9 k10 k11 k12 HZ1 HB1 dlim dk1 dk3 O1 O2 O3 O4 O5 O6 O8
  have HQ2 := Aside0.mk (Below.refl w2.heap.size w2)
  obtain ⟨k0, k1, k2, k3, k4, k5, k6, k7, k8, k9, k10, k11, k12⟩ := c13 HZ2.out
  go_upto_region 16 with (first
    | ((with_reducible refine gate_dst (N := 117) rfl ?_); refine R_make_cap (w0 := w2) w2.heap.size rfl rfl (.const (.int .i64 16)) (.tmp 116) rfl 16 n 16 (wrap64 (24 + (p12.length : Int))) rfl HNN.out rfl rfl (by have := HN.out; omega) (by have := HN.out; omega) HQ2.out (Nat.le_refl _) ?_; intro v3 w3 ho hb hg hat; obtain ⟨g3, cc3, ev, hgb⟩ := rb_form ho (by simp); simp only [List.length_replicate] at ev; subst ev; have HG3 := Aside0.mk hgb; have HR3 := Aside0.mk ho; have HQ3 := Aside0.mk hb; clear ho hb hg hat hgb; clear k0 k1 k2 k3 k4 k5 k6 k7 k8 k9 k10 k11 k12; have hz_ := (HQ3.out.block w.heap.size (blk_lt HZ2.out)).trans HZ2.out; obtain ⟨k0, k1, k2, k3, k4, k5, k6, k7, k8, k9, k10, k11, k12⟩ := c13 hz_; clear hz_))
  have HCZ := Aside0.mk (fun W (h : Below w2.heap.size w2 W) => c13 ((h.block w.heap.size (blk_lt HZ2.out)).trans HZ2.out))
  have r0 := rb_cell HR3.out 0 (by omega)
  have r1 := rb_cell HR3.out 1 (by omega)
  have r12 := rb_cell HR3.out 12 (by omega)
  have s0 := rb_frozen HR3.out 0
  have s1 := rb_frozen HR3.out 1
  have s12 := rb_frozen HR3.out 12
  clear k0 k1 k2 k3 k4 k5 k6 k7 k8 k9 k10 k11 k12
  refine start_ (n := 18) (S := fun w' => w'.cell? ⟨w.heap.size, 0, none⟩ = some (.int .i64 p0) ∧ w'.cell? ⟨w.heap.size, 1, none⟩ = some (.int .i64 p1) ∧ w'.cell? ⟨w.heap.size, 2, none⟩ = some (.int .i64 p2)) (ds := []) #[false, false, false, false, false, false, false, false, false, false, false, false, false, false, false, false, false, false] (by kernel_rfl) rfl rfl ⟨(HCZ.out _ HQ3.out.drew).1, (HCZ.out _ HQ3.out.drew).2.1, (HCZ.out _ HQ3.out.drew).2.2.1⟩ (fun hHeld => ?_)
  refine pure_ (i := 0) (N := some 118) (v := ?_) (a' := ?_) #[true, false, false, false, false, false, false, false, false, false, false, false, false, false, false, false, false, false] rfl rfl (by kernel_rfl) (fun _ _ _ h => h) (Or.inl ⟨by rfl, ?_⟩) ?_ ?_
  rotate_left
  · intro w'
    go_simp
    with_reducible rfl
  rotate_left
  · simp only [Act.put, List.setIfInBounds_toArray, List.set_cons_zero, List.set_cons_succ, i64_w, i32_w]
    rfl
  refine pure_ (i := 1) (N := some 119) (v := ?_) (a' := ?_) #[true, true, false, false, false, false, false, false, false, false, false, false, false, false, false, false, false, false] rfl rfl (by kernel_rfl) (fun _ _ _ h => h) (Or.inl ⟨by rfl, ?_⟩) ?_ ?_
  rotate_left
  · intro w'
    go_simp
    with_reducible rfl
  rotate_left
  · simp only [Act.put, List.setIfInBounds_toArray, List.set_cons_zero, List.set_cons_succ, i64_w, i32_w]
    rfl
  refine pure_ (i := 2) (N := some 120) (v := ?_) (a' := ?_) #[true, true, true, false, false, false, false, false, false, false, false, false, false, false, false, false, false, false] rfl rfl (by kernel_rfl) (fun _ _ _ h => h) (Or.inl ⟨by rfl, ?_⟩) ?_ ?_
  rotate_left
  · intro w'
    go_simp
    with_reducible rfl
  rotate_left
  · simp only [Act.put, List.setIfInBounds_toArray, List.set_cons_zero, List.set_cons_succ, i64_w, i32_w]
    rfl
  refine pure_ (i := 3) (N := some 121) (v := ?_) (a' := ?_) #[true, true, true, true, false, false, false, false, false, false, false, false, false, false, false, false, false, false] rfl rfl (by kernel_rfl) (fun _ _ _ h => h) (Or.inl ⟨by rfl, ?_⟩) ?_ ?_
  rotate_left
  · intro w'
    go_simp
    with_reducible rfl
  rotate_left
  · simp only [Act.put, List.setIfInBounds_toArray, List.set_cons_zero, List.set_cons_succ, i64_w, i32_w]
    rfl
  refine pure_ (i := 6) (N := some 124) (v := ?_) (a' := ?_) #[true, true, true, true, false, false, true, false, false, false, false, false, false, false, false, false, false, false] rfl rfl (by kernel_rfl) (fun _ _ _ h => h) (Or.inl ⟨by rfl, ?_⟩) ?_ ?_
  rotate_left
  · intro w'
    go_simp
    with_reducible rfl
  rotate_left
  · simp only [Act.put, List.setIfInBounds_toArray, List.set_cons_zero, List.set_cons_succ, i64_w, i32_w]
    rfl
  refine pure_ (i := 9) (N := some 127) (v := ?_) (a' := ?_) #[true, true, true, true, false, false, true, false, false, true, false, false, false, false, false, false, false, false] rfl rfl (by kernel_rfl) (fun _ _ _ h => h) (Or.inl ⟨by rfl, ?_⟩) ?_ ?_
  rotate_left
  · intro w'
    go_simp
    with_reducible rfl
  rotate_left
  · simp only [Act.put, List.setIfInBounds_toArray, List.set_cons_zero, List.set_cons_succ, i64_w, i32_w]
    rfl
  refine take_ (i := 4) (N := some 122) (v := ?_) (a' := ?_) #[true, true, true, true, true, false, true, false, false, true, false, false, false, false, false, false, false, false] rfl rfl (by kernel_rfl) (fun _ _ _ h => h) (Or.inl ⟨by rfl, ?_⟩) hHeld ?_ ?_
  rotate_left
  · rintro w' ⟨s0, s1, s2⟩
    go_simp
    with_reducible rfl
  rotate_left
  · simp only [Act.put, List.setIfInBounds_toArray, List.set_cons_zero, List.set_cons_succ, i64_w, i32_w]
    rfl
  refine pure_ (i := 5) (N := some 123) (v := ?_) (a' := ?_) #[true, true, true, true, true, true, true, false, false, true, false, false, false, false, false, false, false, false] rfl rfl (by kernel_rfl) (fun _ _ _ h => h) (Or.inl ⟨by rfl, ?_⟩) ?_ ?_
  rotate_left
  · intro w'
    go_simp
    with_reducible rfl
  rotate_left
  · simp only [Act.put, List.setIfInBounds_toArray, List.set_cons_zero, List.set_cons_succ, i64_w, i32_w]
    rfl
  refine pure_ (i := 12) (N := some 130) (v := ?_) (a' := ?_) #[true, true, true, true, true, true, true, false, false, true, false, false, true, false, false, false, false, false] rfl rfl (by kernel_rfl) (fun _ _ _ h => h) (Or.inl ⟨by rfl, ?_⟩) ?_ ?_
  rotate_left
  · intro w'
    go_simp
    with_reducible rfl
  rotate_left
  · simp only [Act.put, List.setIfInBounds_toArray, List.set_cons_zero, List.set_cons_succ, i64_w, i32_w]
    rfl
  refine take_ (i := 7) (N := some 125) (v := ?_) (a' := ?_) #[true, true, true, true, true, true, true, true, false, true, false, false, true, false, false, false, false, false] rfl rfl (by kernel_rfl) (fun _ _ _ h => h) (Or.inl ⟨by rfl, ?_⟩) hHeld ?_ ?_
  rotate_left
  · rintro w' ⟨s0, s1, s2⟩
    go_simp
    with_reducible rfl
  rotate_left
  · simp only [Act.put, List.setIfInBounds_toArray, List.set_cons_zero, List.set_cons_succ, i64_w, i32_w]
    rfl
  refine pure_ (i := 8) (N := some 126) (v := ?_) (a' := ?_) #[true, true, true, true, true, true, true, true, true, true, false, false, true, false, false, false, false, false] rfl rfl (by kernel_rfl) (fun _ _ _ h => h) (Or.inl ⟨by rfl, ?_⟩) ?_ ?_
  rotate_left
  · intro w'
    go_simp
    with_reducible rfl
  rotate_left
  · simp only [Act.put, List.setIfInBounds_toArray, List.set_cons_zero, List.set_cons_succ, i64_w, i32_w]
    rfl
  refine take_ (i := 10) (N := some 128) (v := ?_) (a' := ?_) #[true, true, true, true, true, true, true, true, true, true, true, false, true, false, false, false, false, false] rfl rfl (by kernel_rfl) (fun _ _ _ h => h) (Or.inl ⟨by rfl, ?_⟩) hHeld ?_ ?_
  rotate_left
  · rintro w' ⟨s0, s1, s2⟩
    go_simp
    with_reducible rfl
  rotate_left
  · simp only [Act.put, List.setIfInBounds_toArray, List.set_cons_zero, List.set_cons_succ, i64_w, i32_w]
    rfl
  refine pure_ (i := 11) (N := some 129) (v := ?_) (a' := ?_) #[true, true, true, true, true, true, true, true, true, true, true, true, true, false, false, false, false, false] rfl rfl (by kernel_rfl) (fun _ _ _ h => h) (Or.inl ⟨by rfl, ?_⟩) ?_ ?_
  rotate_left
  · intro w'
    go_simp
    with_reducible rfl
  rotate_left
  · simp only [Act.put, List.setIfInBounds_toArray, List.set_cons_zero, List.set_cons_succ, i64_w, i32_w]
    rfl
  refine one_ (i := 13) (N := none) #[true, true, true, true, true, true, true, true, true, true, true, true, true, true, false, false, false, false] rfl rfl (by kernel_rfl) (by decide) (fun K hK => ?_)
  refine skip_ (w1 := ?_) (by rfl) rfl ?_ ?_
  rotate_left
  · go_simp
    rfl
  refine hK.out _ _ ⟨(HCZ.out _ (HQ3.out.drew.setCell (p := ⟨g3, 0, none⟩) HG3.out _)).1, (HCZ.out _ (HQ3.out.drew.setCell (p := ⟨g3, 0, none⟩) HG3.out _)).2.1, (HCZ.out _ (HQ3.out.drew.setCell (p := ⟨g3, 0, none⟩) HG3.out _)).2.2.1⟩ (fun hHeld => ?_)
  clear hK K
  refine pure_ (i := 14) (N := some 131) (v := ?_) (a' := ?_) #[true, true, true, true, true, true, true, true, true, true, true, true, true, true, true, false, false, false] rfl rfl (by kernel_rfl) (fun _ _ _ h => h) (Or.inl ⟨by rfl, ?_⟩) ?_ ?_
  rotate_left
  · intro w'
    go_simp
    with_reducible rfl
  rotate_left
  · simp only [Act.put, List.setIfInBounds_toArray, List.set_cons_zero, List.set_cons_succ, i64_w, i32_w]
    rfl
  refine one_ (i := 15) (N := none) #[true, true, true, true, true, true, true, true, true, true, true, true, true, true, true, true, false, false] rfl rfl (by kernel_rfl) (by decide) (fun K hK => ?_)
  refine skip_ (w1 := ?_) (by rfl) rfl ?_ ?_
  rotate_left
  · go_simp
    rfl
  refine hK.out _ _ ⟨(HCZ.out _ ((HQ3.out.drew.setCell (p := ⟨g3, 0, none⟩) HG3.out _).setCell (p := ⟨g3, 1, none⟩) HG3.out _)).1, (HCZ.out _ ((HQ3.out.drew.setCell (p := ⟨g3, 0, none⟩) HG3.out _).setCell (p := ⟨g3, 1, none⟩) HG3.out _)).2.1, (HCZ.out _ ((HQ3.out.drew.setCell (p := ⟨g3, 0, none⟩) HG3.out _).setCell (p := ⟨g3, 1, none⟩) HG3.out _)).2.2.1⟩ (fun hHeld => ?_)
  clear hK K
  refine pure_ (i := 16) (N := some 132) (v := ?_) (a' := ?_) #[true, true, true, true, true, true, true, true, true, true, true, true, true, true, true, true, true, false] rfl rfl (by kernel_rfl) (fun _ _ _ h => h) (Or.inl ⟨by rfl, ?_⟩) ?_ ?_
  rotate_left
  · intro w'
    go_simp
    with_reducible rfl
  rotate_left
  · simp only [Act.put, List.setIfInBounds_toArray, List.set_cons_zero, List.set_cons_succ, i64_w, i32_w]
    rfl
  refine one_ (i := 17) (N := none) #[true, true, true, true, true, true, true, true, true, true, true, true, true, true, true, true, true, true] rfl rfl (by kernel_rfl) (by decide) (fun K hK => ?_)
  refine skip_ (w1 := ?_) (by rfl) rfl ?_ ?_
  rotate_left
  · go_simp
    rfl
  refine hK.out _ _ ⟨(HCZ.out _ (((HQ3.out.drew.setCell (p := ⟨g3, 0, none⟩) HG3.out _).setCell (p := ⟨g3, 1, none⟩) HG3.out _).setCell (p := ⟨g3, 12, none⟩) HG3.out _)).1, (HCZ.out _ (((HQ3.out.drew.setCell (p := ⟨g3, 0, none⟩) HG3.out _).setCell (p := ⟨g3, 1, none⟩) HG3.out _).setCell (p := ⟨g3, 12, none⟩) HG3.out _)).2.1, (HCZ.out _ (((HQ3.out.drew.setCell (p := ⟨g3, 0, none⟩) HG3.out _).setCell (p := ⟨g3, 1, none⟩) HG3.out _).setCell (p := ⟨g3, 12, none⟩) HG3.out _)).2.2.1⟩ (fun hHeld => ?_)
  clear hK K
  refine done_ (by kernel_rfl) ?_
  clear r0 r1 r12 s0 s1 s12 hHeld
  generalize hW : World.drew _ = w4
  have hr : RB w2.heap.size w4 (.slice (some ⟨g3, 0, none⟩) 16 cc3) ((((List.replicate 16 0).set 0 (IntKind.u8.wrap p0)).set 1 (IntKind.u8.wrap p1)).set 12 (IntKind.u8.wrap p2)) := by
    rw [← hW]
    exact Kd.R_drew (rb_set (rb_set (rb_set HR3.out 0 (IntKind.u8.wrap p0)) 1 (IntKind.u8.wrap p1)) 12 (IntKind.u8.wrap p2))
  simp only [IntKind.wrap_u8] at hr
  obtain ⟨L4, el⟩ : ∃ L, (((List.replicate 16 0).set 0 (p0 % 256)).set 1 (p1 % 256)).set 12 (p2 % 256) = L := ⟨_, rfl⟩
  rw [el] at hr
  have EL4 := Aside0.mk el
  clear el
  have HR4 := Aside0.mk hr
  have HQ4 := Aside0.mk (show Below w2.heap.size w2 w4 from by
    rw [← hW]
    exact (((HQ3.out.setCell (p := ⟨g3, 0, none⟩) HG3.out _).setCell (p := ⟨g3, 1, none⟩) HG3.out _).setCell (p := ⟨g3, 12, none⟩) HG3.out _).drew)
  have HL4 := Aside0.mk (show L4.length = 16 from by rw [← EL4.out]; simp)
  have HY4 := Aside0.mk (show Bytes L4 from by
    rw [← EL4.out]
    refine Bytes.set (Bytes.set (Bytes.set ?_ _ (by omega) (by omega)) _ (by omega) (by omega)) _ (by omega) (by omega)
    intro x hx
    have := List.eq_of_mem_replicate hx
    omega)
  clear hW hr HCZ HR3
  have hz_ := (HQ4.out.block w.heap.size (blk_lt HZ2.out)).trans HZ2.out; obtain ⟨k0, k1, k2, k3, k4, k5, k6, k7, k8, k9, k10, k11, k12⟩ := c13 hz_; clear hz_
  have PR := Aside0.mk (rput_calls (w0 := w2) (w := w4) 2 2 (wrap64 (24 + (p12.length : Int))) (iz := 2) (mz := 2) HQ4.out HR4.out (by have := HL4.out; have := HN.out; omega) rfl rfl (by omega) (by have := HL4.out; have := HN.out; omega))
  go_upto_region 18 with (first | (go_at_call 41; (with_reducible refine PR.out.mono ?_); rintro e w5 ⟨rfl, hr, hq, hg⟩; obtain ⟨L5, el⟩ : ∃ L, putL L4 2 2 (wrap64 (24 + (p12.length : Int))) = L := ⟨_, rfl⟩; rw [el] at hr; have EL5 := Aside0.mk el; clear el; have HR5 := Aside0.mk hr; have HQ5 := Aside0.mk hq; have HL5 := Aside0.mk (show L5.length = 16 from by rw [← EL5.out, putL_len]; exact HL4.out); have HY5 := Aside0.mk (show Bytes L5 from by rw [← EL5.out]; exact putL_bytes _ _ _ HY4.out); clear hr hq hg; clear k0 k1 k2 k3 k4 k5 k6 k7 k8 k9 k10 k11 k12; have hz_ := (HQ5.out.block w.heap.size (blk_lt HZ2.out)).trans HZ2.out; obtain ⟨k0, k1, k2, k3, k4, k5, k6, k7, k8, k9, k10, k11, k12⟩ := c13 hz_; clear hz_))
  clear PR
  have PR := Aside0.mk (rput_calls (w0 := w2) (w := w5) 4 4 (p3) (iz := 4) (mz := 4) HQ5.out HR5.out (by have := HL5.out; have := HN.out; omega) rfl rfl (by omega) (by have := HL5.out; have := HN.out; omega))
  go_upto_region 19 with (first | (go_at_call 41; (with_reducible refine PR.out.mono ?_); rintro e w6 ⟨rfl, hr, hq, hg⟩; obtain ⟨L6, el⟩ : ∃ L, putL L5 4 4 (p3) = L := ⟨_, rfl⟩; rw [el] at hr; have EL6 := Aside0.mk el; clear el; have HR6 := Aside0.mk hr; have HQ6 := Aside0.mk hq; have HL6 := Aside0.mk (show L6.length = 16 from by rw [← EL6.out, putL_len]; exact HL5.out); have HY6 := Aside0.mk (show Bytes L6 from by rw [← EL6.out]; exact putL_bytes _ _ _ HY5.out); clear hr hq hg; clear k0 k1 k2 k3 k4 k5 k6 k7 k8 k9 k10 k11 k12; have hz_ := (HQ6.out.block w.heap.size (blk_lt HZ2.out)).trans HZ2.out; obtain ⟨k0, k1, k2, k3, k4, k5, k6, k7, k8, k9, k10, k11, k12⟩ := c13 hz_; clear hz_))
  clear PR
  have PR := Aside0.mk (rput_calls (w0 := w2) (w := w6) 8 4 (p4) (iz := 8) (mz := 4) HQ6.out HR6.out (by have := HL6.out; have := HN.out; omega) rfl rfl (by omega) (by have := HL6.out; have := HN.out; omega))
  go_upto_region 20 with (first | (go_at_call 41; (with_reducible refine PR.out.mono ?_); rintro e w7 ⟨rfl, hr, hq, hg⟩; obtain ⟨L7, el⟩ : ∃ L, putL L6 8 4 (p4) = L := ⟨_, rfl⟩; rw [el] at hr; have EL7 := Aside0.mk el; clear el; have HR7 := Aside0.mk hr; have HQ7 := Aside0.mk hq; have HL7 := Aside0.mk (show L7.length = 16 from by rw [← EL7.out, putL_len]; exact HL6.out); have HY7 := Aside0.mk (show Bytes L7 from by rw [← EL7.out]; exact putL_bytes _ _ _ HY6.out); clear hr hq hg; clear k0 k1 k2 k3 k4 k5 k6 k7 k8 k9 k10 k11 k12; have hz_ := (HQ7.out.block w.heap.size (blk_lt HZ2.out)).trans HZ2.out; obtain ⟨k0, k1, k2, k3, k4, k5, k6, k7, k8, k9, k10, k11, k12⟩ := c13 hz_; clear hz_))
  clear PR
  have HC7 := Aside0.mk (Kd.R_reads' HR7.out)
  have OF := Aside0.mk (rof_calls (c := cc3) (n := 16) (l := L7) (w := w7) (by have h := HC7.out.2.2; rw [← HC7.out.1] at h; exact h) HL7.out HC7.out.2.1 HY7.out (by rw [HL7.out]; omega))
  have PR := Aside0.mk (fun nd_ => rput_calls (w0 := w2) (w := (w7.drewN nd_)) 14 2 (65535 - fold (pairs L7)) (iz := 14) (mz := 2) (bd HQ7.out nd_) (Kd.R_drewN HR7.out nd_) (by have := HL7.out; have := HN.out; omega) rfl rfl (by omega) (by have := HL7.out; have := HN.out; omega))
  go_upto_region 26 with (first | (go_at_call 41; (with_reducible refine (PR.out _).mono ?_); rintro e w8 ⟨rfl, hr, hq, hg⟩; obtain ⟨L8, el⟩ : ∃ L, putL L7 14 2 (65535 - fold (pairs L7)) = L := ⟨_, rfl⟩; rw [el] at hr; have EL8 := Aside0.mk el; clear el; have HR8 := Aside0.mk hr; have HQ8 := Aside0.mk hq; have HL8 := Aside0.mk (show L8.length = 16 from by rw [← EL8.out, putL_len]; exact HL7.out); have HY8 := Aside0.mk (show Bytes L8 from by rw [← EL8.out]; exact putL_bytes _ _ _ HY7.out); clear hr hq hg; clear k0 k1 k2 k3 k4 k5 k6 k7 k8 k9 k10 k11 k12; have hz_ := (HQ8.out.block w.heap.size (blk_lt HZ2.out)).trans HZ2.out; obtain ⟨k0, k1, k2, k3, k4, k5, k6, k7, k8, k9, k10, k11, k12⟩ := c13 hz_; clear hz_) | (go_at_call 23; (with_reducible refine OF.out.mono ?_); rintro e w20 ⟨rfl, ⟨⟨nd, rfl⟩⟩⟩))
  clear PR
  clear OF HC7
  go_upto_region 27 with (first | ((with_reducible refine gate_builtin (b := .append) (xs := #[.tmp 174, .const (.int .i64 8)]) rfl ?_); at_builtin; refine Kd.R_append_zeros (Kd.int .u8) (w0 := w2) w2.heap.size rfl (.tmp 174) (.const (.int .i64 8)) 23 3 5 (.int .u8 0) 1 rfl Try.underlying23 Try.underlying3 info5 rfl (by decide) (by decide) (.slice (some ⟨g3, 0, none⟩) (16) cc3) L8 (0 : Int) 8 (fun _ => True) rfl rfl rfl (fun _ _ => trivial) HR8.out (by decide) HQ8.out HQ8.out.size (by have := HL8.out; omega) ?_; intro v9 w9 ho hb hg hat; obtain ⟨L9, el⟩ : ∃ L, L8 ++ List.replicate (Int.toNat 8) 0 = L := ⟨_, rfl⟩; rw [el] at ho; have EL9 := Aside0.mk el; have HL9 := Aside0.mk (show L9.length = 24 from by rw [← el]; simp only [List.length_append, List.length_replicate, List.length_cons, List.length_nil]; have := HL8.out; have := HN.out; omega); have HY9 := Aside0.mk (show Bytes L9 from by rw [← el]; exact HY8.out.app (fun x hx => by have := List.eq_of_mem_replicate hx; omega)); clear el; obtain ⟨g9, cc9, ev, hgb⟩ := rb_form ho (by rw [HL9.out]; have := HN.out; omega); rw [HL9.out] at ev; subst ev; have HG9 := Aside0.mk hgb; have HR9 := Aside0.mk ho; have HQ9 := Aside0.mk hb; clear ho hb hg hat hgb; clear k0 k1 k2 k3 k4 k5 k6 k7 k8 k9 k10 k11 k12; have hz_ := (HQ9.out.block w.heap.size (blk_lt HZ2.out)).trans HZ2.out; obtain ⟨k0, k1, k2, k3, k4, k5, k6, k7, k8, k9, k10, k11, k12⟩ := c13 hz_; clear hz_))
  have PR := Aside0.mk (rput_calls (w0 := w2) (w := w9) 20 2 (p8) (iz := 20) (mz := 2) HQ9.out HR9.out (by have := HL9.out; have := HN.out; omega) rfl rfl (by omega) (by have := HL9.out; have := HN.out; omega))
  go_upto_region 28 with (first | (go_at_call 41; (with_reducible refine PR.out.mono ?_); rintro e w10 ⟨rfl, hr, hq, hg⟩; obtain ⟨L10, el⟩ : ∃ L, putL L9 20 2 (p8) = L := ⟨_, rfl⟩; rw [el] at hr; have EL10 := Aside0.mk el; clear el; have HR10 := Aside0.mk hr; have HQ10 := Aside0.mk hq; have HL10 := Aside0.mk (show L10.length = 24 from by rw [← EL10.out, putL_len]; exact HL9.out); have HY10 := Aside0.mk (show Bytes L10 from by rw [← EL10.out]; exact putL_bytes _ _ _ HY9.out); clear hr hq hg; clear k0 k1 k2 k3 k4 k5 k6 k7 k8 k9 k10 k11 k12; have hz_ := (HQ10.out.block w.heap.size (blk_lt HZ2.out)).trans HZ2.out; obtain ⟨k0, k1, k2, k3, k4, k5, k6, k7, k8, k9, k10, k11, k12⟩ := c13 hz_; clear hz_))
  clear PR
  go_upto_region 29 with fail
  have PR := Aside0.mk (rput_calls (w0 := w2) (w := w10) 16 2 (p5) (iz := 16) (mz := 2) HQ10.out HR10.out (by have := HL10.out; have := HN.out; omega) rfl rfl (by omega) (by have := HL10.out; have := HN.out; omega))
  go_upto_region 30 with (first | (go_at_call 41; (with_reducible refine PR.out.mono ?_); rintro e w11 ⟨rfl, hr, hq, hg⟩; obtain ⟨L11, el⟩ : ∃ L, putL L10 16 2 (p5) = L := ⟨_, rfl⟩; rw [el] at hr; have EL11 := Aside0.mk el; clear el; have HR11 := Aside0.mk hr; have HQ11 := Aside0.mk hq; have HL11 := Aside0.mk (show L11.length = 24 from by rw [← EL11.out, putL_len]; exact HL10.out); have HY11 := Aside0.mk (show Bytes L11 from by rw [← EL11.out]; exact putL_bytes _ _ _ HY10.out); clear hr hq hg; clear k0 k1 k2 k3 k4 k5 k6 k7 k8 k9 k10 k11 k12; have hz_ := (HQ11.out.block w.heap.size (blk_lt HZ2.out)).trans HZ2.out; obtain ⟨k0, k1, k2, k3, k4, k5, k6, k7, k8, k9, k10, k11, k12⟩ := c13 hz_; clear hz_))
  clear PR
  have PR := Aside0.mk (rput_calls (w0 := w2) (w := w11) 18 2 (p6) (iz := 18) (mz := 2) HQ11.out HR11.out (by have := HL11.out; have := HN.out; omega) rfl rfl (by omega) (by have := HL11.out; have := HN.out; omega))
  go_upto_region 31 with (first | (go_at_call 41; (with_reducible refine PR.out.mono ?_); rintro e w12 ⟨rfl, hr, hq, hg⟩; obtain ⟨L12, el⟩ : ∃ L, putL L11 18 2 (p6) = L := ⟨_, rfl⟩; rw [el] at hr; have EL12 := Aside0.mk el; clear el; have HR12 := Aside0.mk hr; have HQ12 := Aside0.mk hq; have HL12 := Aside0.mk (show L12.length = 24 from by rw [← EL12.out, putL_len]; exact HL11.out); have HY12 := Aside0.mk (show Bytes L12 from by rw [← EL12.out]; exact putL_bytes _ _ _ HY11.out); clear hr hq hg; clear k0 k1 k2 k3 k4 k5 k6 k7 k8 k9 k10 k11 k12; have hz_ := (HQ12.out.block w.heap.size (blk_lt HZ2.out)).trans HZ2.out; obtain ⟨k0, k1, k2, k3, k4, k5, k6, k7, k8, k9, k10, k11, k12⟩ := c13 hz_; clear hz_))
  clear PR
  go_upto_region 32 with (first | ((with_reducible refine gate_builtin (b := .append) (xs := #[.tmp 190, .tmp 192]) rfl ?_); at_builtin; refine Kd.R_append_rows (Kd.int .u8) (w0 := w2) w2.heap.size rfl (.tmp 190) (.tmp 192) 23 5 (.int .u8 0) 1 rfl Try.underlying23 info5 rfl (by decide) (by omega) (.slice (some ⟨g9, 0, none⟩) (24) cc9) L12 p12 A2 p12.length c2 (fun _ => True) (fun _ => False) rfl rfl HR12.out (Kd.C_below HD.out (below_step HB2.out HQ12.out)) (fun _ _ h => h) (fun _ h => h.elim) (fun _ _ => trivial) HQ12.out HQ12.out.size (by have := HL12.out; have := HN.out; have := HLIM.out; omega) ?_; intro v13 w13 ho hb hg hat; obtain ⟨L13, el⟩ : ∃ L, L12 ++ p12 = L := ⟨_, rfl⟩; rw [el] at ho; have EL13 := Aside0.mk el; have HL13 := Aside0.mk (show L13.length = n from by rw [← el]; simp only [List.length_append, List.length_replicate, List.length_cons, List.length_nil]; have := HL12.out; have := HN.out; omega); have HY13 := Aside0.mk (show Bytes L13 from by rw [← el]; exact HY12.out.app HYD.out); clear el; obtain ⟨g13, cc13, ev, hgb⟩ := rb_form ho (by rw [HL13.out]; have := HN.out; omega); rw [HL13.out] at ev; subst ev; have HG13 := Aside0.mk hgb; have HR13 := Aside0.mk ho; have HQ13 := Aside0.mk hb; clear ho hb hg hat hgb; clear k0 k1 k2 k3 k4 k5 k6 k7 k8 k9 k10 k11 k12; have hz_ := (HQ13.out.block w.heap.size (blk_lt HZ2.out)).trans HZ2.out; obtain ⟨k0, k1, k2, k3, k4, k5, k6, k7, k8, k9, k10, k11, k12⟩ := c13 hz_; clear hz_))
  have HC13 := Aside0.mk (Kd.R_reads' HR13.out)
  have SF := Aside0.mk (rsummed_calls (c := cc13) (n := n) (l := L13) (w := w13) (by have h := HC13.out.2.2; rw [← HC13.out.1] at h; exact h) HL13.out HC13.out.2.1 (by have := HL13.out; have := HN.out; omega) (by have := HL13.out; have := HN.out; omega))
  have HSO := Aside0.mk (summed_ok HY13.out (by have := HL13.out; have := HN.out; omega) (by have := HL13.out; have := HN.out; omega))
  go_upto_region 33 with (first
    | (go_at_call 42; (with_reducible refine SF.out.mono ?_); rintro e w14 ⟨v, rfl, ho, hb⟩; obtain ⟨Av, cv, ev⟩ := Kd.R_slice ho; subst ev; have HR14 := Aside0.mk (Kd.R_below HR13.out hb); have HQ14 := Aside0.mk (below_step HQ13.out hb); have HRD := Aside0.mk (Kd.R_reads' ho); have OF := Aside0.mk (rof_calls HRD.out.2.2 rfl HRD.out.2.1 HSO.out.2 (by have := HSO.out.1; omega)); clear ho hb; clear k0 k1 k2 k3 k4 k5 k6 k7 k8 k9 k10 k11 k12; have hz_ := (HQ14.out.block w.heap.size (blk_lt HZ2.out)).trans HZ2.out; obtain ⟨k0, k1, k2, k3, k4, k5, k6, k7, k8, k9, k10, k11, k12⟩ := c13 hz_; clear hz_)
    | (go_at_call 23; (with_reducible refine OF.out.mono ?_); rintro e w30 ⟨rfl, ⟨⟨nd2, rfl⟩⟩⟩))
  have HR14' := Aside0.mk (Kd.R_drewN HR14.out nd2)
  have HQ14' := Aside0.mk (bd HQ14.out nd2)
  generalize w14.drewN nd2 = w40 at HR14' HQ14' ⊢
  clear SF OF HRD HR14 HQ14 k0 k1 k2 k3 k4 k5 k6 k7 k8 k9 k10 k11 k12
  have hz_ := (HQ14'.out.block w.heap.size (blk_lt HZ2.out)).trans HZ2.out
  obtain ⟨k0, k1, k2, k3, k4, k5, k6, k7, k8, k9, k10, k11, k12⟩ := c13 hz_
  clear hz_
  have G43 := Aside0.mk (fun W => roundhouseref3_place.calls p0 22 W (by unfold roundhouseref3_place.f; have := HK.out; rw [if_neg (by omega)]))
  cases hp9 : p9
  · rw [hp9] at k9
    by_cases hs : 65535 - fold (pairs (summedL L13)) = 0
    · have d0 : (65535 - fold (pairs (summedL L13)) == 0) = true := beq_iff_eq.mpr hs
      have PR := Aside0.mk (fun nd_ => rput_calls (w0 := w2) (w := w40.drewN nd_) 22 2 (65535) (iz := 22) (mz := 2) (bd HQ14'.out nd_) (Kd.R_drewN HR14'.out nd_) (by have := HL13.out; have := HN.out; omega) rfl rfl (by omega) (by have := HL13.out; have := HN.out; have := HLIM.out; have := HK.out; omega))
      go_wp2_with (first
        | (go_at_call 43; (with_reducible refine (G43.out _).mono ?_); rintro e w41 ⟨rfl, ⟨⟨nd3, rfl⟩⟩⟩)
        | (go_at_call 41; (with_reducible refine (PR.out _).mono ?_); rintro e w42 ⟨rfl, hr, hq, hg⟩; have HRX := Aside0.mk hr; have HQX := Aside0.mk hq; clear hr hq hg))
      go_ret2
      refine ⟨_, rfl, ?_, below_step HB2.out HQX.out⟩
      have hb : L13 = rbodyL ⟨p0, p1, p2, p3, p4, p5, p6, p7, p8, p9, p10, p11, p12⟩ := by
        rw [← EL13.out, ← EL12.out, ← EL11.out, ← EL10.out, ← EL9.out, ← EL8.out, ← EL7.out, ← EL6.out, ← EL5.out, ← EL4.out]
        unfold rbodyL h4R h3R
        simp only [HNL.out, HNN.out, Int.reduceToNat]
        rw [if_neg (show ¬ p0 = 3 by have := HK.out; omega), if_pos HK.out]
      unfold rbuildL
      rw [← hb]
      simp only []
      rw [if_neg (show ¬ p0 = 3 by have := HK.out; omega)]
      rw [show sumL p0 p9 L13 = 65535 from by unfold sumL; rw [if_neg (by simp [hp9]), if_pos ⟨HK.out, hs⟩]]
      exact Kd.R_lower HRX.out HB2.out.size
    · have d0 : (65535 - fold (pairs (summedL L13)) == 0) = false := beq_eq_false_iff_ne.mpr hs
      have PR := Aside0.mk (fun nd_ => rput_calls (w0 := w2) (w := w40.drewN nd_) 22 2 (65535 - fold (pairs (summedL L13))) (iz := 22) (mz := 2) (bd HQ14'.out nd_) (Kd.R_drewN HR14'.out nd_) (by have := HL13.out; have := HN.out; omega) rfl rfl (by omega) (by have := HL13.out; have := HN.out; have := HLIM.out; have := HK.out; omega))
      go_wp2_with (first
        | (go_at_call 43; (with_reducible refine (G43.out _).mono ?_); rintro e w41 ⟨rfl, ⟨⟨nd3, rfl⟩⟩⟩)
        | (go_at_call 41; (with_reducible refine (PR.out _).mono ?_); rintro e w42 ⟨rfl, hr, hq, hg⟩; have HRX := Aside0.mk hr; have HQX := Aside0.mk hq; clear hr hq hg))
      go_ret2
      refine ⟨_, rfl, ?_, below_step HB2.out HQX.out⟩
      have hb : L13 = rbodyL ⟨p0, p1, p2, p3, p4, p5, p6, p7, p8, p9, p10, p11, p12⟩ := by
        rw [← EL13.out, ← EL12.out, ← EL11.out, ← EL10.out, ← EL9.out, ← EL8.out, ← EL7.out, ← EL6.out, ← EL5.out, ← EL4.out]
        unfold rbodyL h4R h3R
        simp only [HNL.out, HNN.out, Int.reduceToNat]
        rw [if_neg (show ¬ p0 = 3 by have := HK.out; omega), if_pos HK.out]
      unfold rbuildL
      rw [← hb]
      simp only []
      rw [if_neg (show ¬ p0 = 3 by have := HK.out; omega)]
      rw [show sumL p0 p9 L13 = 65535 - fold (pairs (summedL L13)) from by unfold sumL; rw [if_neg (by simp [hp9]), if_neg (fun h => hs h.2)]]
      exact Kd.R_lower HRX.out HB2.out.size
  · rw [hp9] at k9
    by_cases hs : 65535 - fold (pairs (summedL L13)) = 0
    · have d0 : (65535 - fold (pairs (summedL L13)) == 0) = true := beq_iff_eq.mpr hs
      have PR := Aside0.mk (fun nd_ => rput_calls (w0 := w2) (w := w40.drewN nd_) 22 2 (0) (iz := 22) (mz := 2) (bd HQ14'.out nd_) (Kd.R_drewN HR14'.out nd_) (by have := HL13.out; have := HN.out; omega) rfl rfl (by omega) (by have := HL13.out; have := HN.out; have := HLIM.out; have := HK.out; omega))
      go_wp2_with (first
        | (go_at_call 43; (with_reducible refine (G43.out _).mono ?_); rintro e w41 ⟨rfl, ⟨⟨nd3, rfl⟩⟩⟩)
        | (go_at_call 41; (with_reducible refine (PR.out _).mono ?_); rintro e w42 ⟨rfl, hr, hq, hg⟩; have HRX := Aside0.mk hr; have HQX := Aside0.mk hq; clear hr hq hg))
      go_ret2
      refine ⟨_, rfl, ?_, below_step HB2.out HQX.out⟩
      have hb : L13 = rbodyL ⟨p0, p1, p2, p3, p4, p5, p6, p7, p8, p9, p10, p11, p12⟩ := by
        rw [← EL13.out, ← EL12.out, ← EL11.out, ← EL10.out, ← EL9.out, ← EL8.out, ← EL7.out, ← EL6.out, ← EL5.out, ← EL4.out]
        unfold rbodyL h4R h3R
        simp only [HNL.out, HNN.out, Int.reduceToNat]
        rw [if_neg (show ¬ p0 = 3 by have := HK.out; omega), if_pos HK.out]
      unfold rbuildL
      rw [← hb]
      simp only []
      rw [if_neg (show ¬ p0 = 3 by have := HK.out; omega)]
      rw [show sumL p0 p9 L13 = 0 from by unfold sumL; rw [if_pos ⟨HK.out, hp9⟩]]
      exact Kd.R_lower HRX.out HB2.out.size
    · have d0 : (65535 - fold (pairs (summedL L13)) == 0) = false := beq_eq_false_iff_ne.mpr hs
      have PR := Aside0.mk (fun nd_ => rput_calls (w0 := w2) (w := w40.drewN nd_) 22 2 (0) (iz := 22) (mz := 2) (bd HQ14'.out nd_) (Kd.R_drewN HR14'.out nd_) (by have := HL13.out; have := HN.out; omega) rfl rfl (by omega) (by have := HL13.out; have := HN.out; have := HLIM.out; have := HK.out; omega))
      go_wp2_with (first
        | (go_at_call 43; (with_reducible refine (G43.out _).mono ?_); rintro e w41 ⟨rfl, ⟨⟨nd3, rfl⟩⟩⟩)
        | (go_at_call 41; (with_reducible refine (PR.out _).mono ?_); rintro e w42 ⟨rfl, hr, hq, hg⟩; have HRX := Aside0.mk hr; have HQX := Aside0.mk hq; clear hr hq hg))
      go_ret2
      refine ⟨_, rfl, ?_, below_step HB2.out HQX.out⟩
      have hb : L13 = rbodyL ⟨p0, p1, p2, p3, p4, p5, p6, p7, p8, p9, p10, p11, p12⟩ := by
        rw [← EL13.out, ← EL12.out, ← EL11.out, ← EL10.out, ← EL9.out, ← EL8.out, ← EL7.out, ← EL6.out, ← EL5.out, ← EL4.out]
        unfold rbodyL h4R h3R
        simp only [HNL.out, HNN.out, Int.reduceToNat]
        rw [if_neg (show ¬ p0 = 3 by have := HK.out; omega), if_pos HK.out]
      unfold rbuildL
      rw [← hb]
      simp only []
      rw [if_neg (show ¬ p0 = 3 by have := HK.out; omega)]
      rw [show sumL p0 p9 L13 = 0 from by unfold sumL; rw [if_pos ⟨HK.out, hp9⟩]]
      exact Kd.R_lower HRX.out HB2.out.size
end Go.Proofs.Ytbjhmifhmojaoaa.WB

namespace Go.Proofs.Ytbjhmifhmojaoaa.WB
set_option linter.unusedVariables false
set_option linter.unusedSimpArgs false
open Go.RowKit Go.Proofs.Ytbjhmifhmojaoaa.Hp Go.Proofs.Ytbjhmifhmojaoaa.SB Go.Proofs.YtbjhmifhmojaoaaW.PrintWords Go.Proofs.YtbjhmifhmojaoaaW.PrintLast Go.Proofs.YtbjhmifhmojaoaaW.PrintMore
set_option maxHeartbeats 8000000 in
set_option maxRecDepth 100000 in
theorem rbuild_fault {A1 A2 : Option Addr} {c1 c2 : Nat} {p0 p1 p2 p3 p4 p5 p6 p7 p8 : Int} {p9 : Bool} {p10 : Int} {p11 p12 : List Int} {w : World} (ha : Kd.C (Kd.int .u8) w A1 p11.length p11) (hca : p11.length ≤ c1) (hd : Kd.C (Kd.int .u8) w A2 p12.length p12) (hcd : p12.length ≤ c2) (hba : Bytes p11) (hbd : Bytes p12) (hk : p0 = 3) (he : buildE ⟨p0, p1, p2, p3, p4, p5, p6, p7, p8, p9, p10, p11, p12⟩ = 0) :
    Calls Try.prog 18 #[.agg #[.int .i64 p0, .int .i64 p1, .int .i64 p2, .int .i64 p3, .int .i64 p4, .int .i64 p5, .int .i64 p6, .int .i64 p7, .int .i64 p8, .bool p9, .int .i64 p10, .slice A1 p11.length c1, .slice A2 p12.length c2]] w fun e w' => ∃ v, e = .returned (.tuple #[v, .int .i64 0]) ∧ RB w.heap.size w' v (rbuildL ⟨p0, p1, p2, p3, p4, p5, p6, p7, p8, p9, p10, p11, p12⟩) ∧ Below w.heap.size w w' := by
  have hn : nL ⟨p0, p1, p2, p3, p4, p5, p6, p7, p8, p9, p10, p11, p12⟩ = 20 + p12.length := by unfold nL; simp [hk]
  have hok : okR ⟨p0, p1, p2, p3, p4, p5, p6, p7, p8, p9, p10, p11, p12⟩ = true := by
    unfold buildE at he
    split at he
    · cases he
    split at he
    · cases he
    rename_i h; simpa using h
  have hlim : nL ⟨p0, p1, p2, p3, p4, p5, p6, p7, p8, p9, p10, p11, p12⟩ ≤ 1500 ∧ (p0 = 1 → p11.length ≤ 40) ∧ (p0 = 3 → 24 ≤ p12.length) := by
    unfold buildE at he
    split at he
    · cases he
    split at he
    · cases he
    split at he
    · cases he
    split at he
    · cases he
    rename_i h1 h2 h3 h4
    refine ⟨by omega, fun h => ?_, fun h => ?_⟩
    · have : ¬ 40 < p11.length := fun h5 => h3 ⟨h, h5⟩
      omega
    · have : ¬ p12.length < 24 := fun h5 => h4 (Or.inl ⟨h, h5⟩)
      omega
  obtain ⟨n, hne⟩ : ∃ n, 20 + p12.length = n := ⟨_, rfl⟩
  rw [hn, hne] at hlim
  have HN := Aside0.mk (show 20 ≤ n ∧ n ≤ 1500 ∧ 20 + p12.length = n from ⟨by omega, hlim.1, hne⟩)
  have HNL := Aside0.mk (hn.trans hne)
  have HLIM := Aside0.mk hlim
  have HNN := Aside0.mk (show wrap64 (20 + (p12.length : Int)) = (n : Int) from by rw [wid (by omega) (by omega)]; omega)
  have dlim : decide (1500 < wrap64 (20 + (p12.length : Int))) = false := decide_eq_false (by rw [HNN.out]; omega)
  have HA := Aside0.mk ha
  have HD := Aside0.mk hd
  have HCA := Aside0.mk hca
  have HCD := Aside0.mk hcd
  have HYA := Aside0.mk hba
  have HYD := Aside0.mk hbd
  have HK := Aside0.mk hk
  simp [okR, rgB, hk] at hok
  have dk1 : decide (p0 < 1) = false := decide_eq_false (by omega)
  have dk3 : decide (3 < p0) = false := decide_eq_false (by omega)
  have of : ∀ (a m : Int), 0 ≤ a → a ≤ m → roundhouseref3_out.f a m = some false := fun a m h0 h1 => by unfold roundhouseref3_out.f; rw [if_neg (by omega)]; simp; omega
  have O1 := Aside0.mk (fun W => roundhouseref3_out.calls p1 255 false W (of _ _ (by omega) (by omega)))
  have O2 := Aside0.mk (fun W => roundhouseref3_out.calls p2 255 false W (of _ _ (by omega) (by omega)))
  have O3 := Aside0.mk (fun W => roundhouseref3_out.calls p3 4294967295 false W (of _ _ (by omega) (by omega)))
  have O4 := Aside0.mk (fun W => roundhouseref3_out.calls p4 4294967295 false W (of _ _ (by omega) (by omega)))
  have O10 := Aside0.mk (fun W => roundhouseref3_out.calls p10 255 false W (of _ _ (by omega) (by omega)))
  have q1 : (p0 == 1) = false := by rw [hk]; rfl
  have q1n : (p0 != 1) = true := by rw [hk]; rfl
  have q2 : (p0 == 2) = false := by rw [hk]; rfl
  have q2n : (p0 != 2) = true := by rw [hk]; rfl
  have q3 : (p0 == 3) = true := by rw [hk]; rfl
  have q3n : (p0 != 3) = false := by rw [hk]; rfl
  have ddat : decide ((p12.length : Int) < 24) = false := decide_eq_false (by have := hlim.2.2 hk; omega)
  have ddatn : decide (p12.length < 24) = false := decide_eq_false (by have := hlim.2.2 hk; omega)
  clear ha hd hba hbd hk he hn hok hlim hne hca hcd of
  go_enter Try.func18, Try.ntmps18
  go_upto_region 3 with fail
  have hz1 := new_blk w (.cells #[.int .i64 p0, .int .i64 p1, .int .i64 p2, .int .i64 p3, .int .i64 p4, .int .i64 p5, .int .i64 p6, .int .i64 p7, .int .i64 p8, .bool p9, .int .i64 p10, .slice A1 p11.length c1, .slice A2 p12.length c2] 26)
  have HB1 := Aside0.mk ((Below.refl w.heap.size w).alloc (Nat.le_refl _) (.cells #[.int .i64 p0, .int .i64 p1, .int .i64 p2, .int .i64 p3, .int .i64 p4, .int .i64 p5, .int .i64 p6, .int .i64 p7, .int .i64 p8, .bool p9, .int .i64 p10, .slice A1 p11.length c1, .slice A2 p12.length c2] 26))
  generalize (w.alloc (.cells #[.int .i64 p0, .int .i64 p1, .int .i64 p2, .int .i64 p3, .int .i64 p4, .int .i64 p5, .int .i64 p6, .int .i64 p7, .int .i64 p8, .bool p9, .int .i64 p10, .slice A1 p11.length c1, .slice A2 p12.length c2] 26)) = w1 at hz1 HB1 ⊢
  have HZ1 := Aside0.mk hz1
  have k0 := (c13 hz1).1
  clear hz1
  refine start_ (n := 12) (S := fun w' => w'.cell? ⟨w.heap.size, 0, none⟩ = some (.int .i64 p0)) (ds := []) #[false, false, false, false, false, false, false, false, false, false, false, false] (by kernel_rfl) rfl rfl (k0) (fun hHeld => ?_)
  refine pure_ (i := 0) (N := some 18) (v := ?_) (a' := ?_) #[true, false, false, false, false, false, false, false, false, false, false, false] rfl rfl (by kernel_rfl) (fun _ _ _ h => h) (Or.inl ⟨by rfl, ?_⟩) ?_ ?_
  rotate_left
  · intro w'
    go_simp
    with_reducible rfl
  rotate_left
  · simp only [Act.put, List.setIfInBounds_toArray, List.set_cons_zero, List.set_cons_succ, i64_w, i32_w]
    rfl
  refine pure_ (i := 3) (N := some 21) (v := ?_) (a' := ?_) #[true, false, false, true, false, false, false, false, false, false, false, false] rfl rfl (by kernel_rfl) (fun _ _ _ h => h) (Or.inl ⟨by rfl, ?_⟩) ?_ ?_
  rotate_left
  · intro w'
    go_simp
    with_reducible rfl
  rotate_left
  · simp only [Act.put, List.setIfInBounds_toArray, List.set_cons_zero, List.set_cons_succ, i64_w, i32_w]
    rfl
  refine pure_ (i := 6) (N := some 24) (v := ?_) (a' := ?_) #[true, false, false, true, false, false, true, false, false, false, false, false] rfl rfl (by kernel_rfl) (fun _ _ _ h => h) (Or.inl ⟨by rfl, ?_⟩) ?_ ?_
  rotate_left
  · intro w'
    go_simp
    with_reducible rfl
  rotate_left
  · simp only [Act.put, List.setIfInBounds_toArray, List.set_cons_zero, List.set_cons_succ, i64_w, i32_w]
    rfl
  refine take_ (i := 1) (N := some 19) (v := ?_) (a' := ?_) #[true, true, false, true, false, false, true, false, false, false, false, false] rfl rfl (by kernel_rfl) (fun _ _ _ h => h) (Or.inl ⟨by rfl, ?_⟩) hHeld ?_ ?_
  rotate_left
  · intro w' s0
    go_simp
    with_reducible rfl
  rotate_left
  · simp only [Act.put, List.setIfInBounds_toArray, List.set_cons_zero, List.set_cons_succ, i64_w, i32_w]
    rfl
  refine pure_ (i := 2) (N := some 20) (v := ?_) (a' := ?_) #[true, true, true, true, false, false, true, false, false, false, false, false] rfl rfl (by kernel_rfl) (fun _ _ _ h => h) (Or.inl ⟨by rfl, ?_⟩) ?_ ?_
  rotate_left
  · intro w'
    go_simp
    with_reducible rfl
  rotate_left
  · simp only [Act.put, List.setIfInBounds_toArray, List.set_cons_zero, List.set_cons_succ, i64_w, i32_w]
    rfl
  refine pure_ (i := 9) (N := some 4) (v := ?_) (a' := ?_) #[true, true, true, true, false, false, true, false, false, true, false, false] rfl rfl (by kernel_rfl) (fun _ _ _ h => h) (Or.inl ⟨by rfl, ?_⟩) ?_ ?_
  rotate_left
  · intro w'
    go_simp
    with_reducible rfl
  rotate_left
  · simp only [Act.put, List.setIfInBounds_toArray, List.set_cons_zero, List.set_cons_succ, i64_w, i32_w]
    rfl
  refine take_ (i := 4) (N := some 22) (v := ?_) (a' := ?_) #[true, true, true, true, true, false, true, false, false, true, false, false] rfl rfl (by kernel_rfl) (fun _ _ _ h => h) (Or.inl ⟨by rfl, ?_⟩) hHeld ?_ ?_
  rotate_left
  · intro w' s0
    go_simp
    with_reducible rfl
  rotate_left
  · simp only [Act.put, List.setIfInBounds_toArray, List.set_cons_zero, List.set_cons_succ, i64_w, i32_w]
    rfl
  refine pure_ (i := 5) (N := some 23) (v := ?_) (a' := ?_) #[true, true, true, true, true, true, true, false, false, true, false, false] rfl rfl (by kernel_rfl) (fun _ _ _ h => h) (Or.inl ⟨by rfl, ?_⟩) ?_ ?_
  rotate_left
  · intro w'
    go_simp
    with_reducible rfl
  rotate_left
  · simp only [Act.put, List.setIfInBounds_toArray, List.set_cons_zero, List.set_cons_succ, i64_w, i32_w]
    rfl
  refine pure_ (i := 10) (N := some 5) (v := ?_) (a' := ?_) #[true, true, true, true, true, true, true, false, false, true, true, false] rfl rfl (by kernel_rfl) (fun _ _ _ h => h) (Or.inl ⟨by rfl, ?_⟩) ?_ ?_
  rotate_left
  · intro w'
    go_simp
    with_reducible rfl
  rotate_left
  · simp only [Act.put, List.setIfInBounds_toArray, List.set_cons_zero, List.set_cons_succ, i64_w, i32_w]
    rfl
  refine take_ (i := 7) (N := some 25) (v := ?_) (a' := ?_) #[true, true, true, true, true, true, true, true, false, true, true, false] rfl rfl (by kernel_rfl) (fun _ _ _ h => h) (Or.inl ⟨by rfl, ?_⟩) hHeld ?_ ?_
  rotate_left
  · intro w' s0
    go_simp
    with_reducible rfl
  rotate_left
  · simp only [Act.put, List.setIfInBounds_toArray, List.set_cons_zero, List.set_cons_succ, i64_w, i32_w]
    rfl
  refine pure_ (i := 8) (N := some 26) (v := ?_) (a' := ?_) #[true, true, true, true, true, true, true, true, true, true, true, false] rfl rfl (by kernel_rfl) (fun _ _ _ h => h) (Or.inl ⟨by rfl, ?_⟩) ?_ ?_
  rotate_left
  · intro w'
    go_simp
    with_reducible rfl
  rotate_left
  · simp only [Act.put, List.setIfInBounds_toArray, List.set_cons_zero, List.set_cons_succ, i64_w, i32_w]
    rfl
  refine pure_ (i := 11) (N := some 6) (v := ?_) (a' := ?_) #[true, true, true, true, true, true, true, true, true, true, true, true] rfl rfl (by kernel_rfl) (fun _ _ _ h => h) (Or.inl ⟨by rfl, ?_⟩) ?_ ?_
  rotate_left
  · intro w'
    go_simp
    with_reducible rfl
  rotate_left
  · simp only [Act.put, List.setIfInBounds_toArray, List.set_cons_zero, List.set_cons_succ, i64_w, i32_w]
    rfl
  refine done_ (by kernel_rfl) ?_
  clear hHeld k0
  obtain ⟨k0, k1, k2, k3, k4, k5, k6, k7, k8, k9, k10, k11, k12⟩ := c13 HZ1.out
  go_upto_region 15 with (first | (go_at_call 40; (with_reducible refine (O1.out _).mono ?_); rintro e w5 ⟨rfl, ⟨⟨nd, rfl⟩⟩⟩) | (go_at_call 40; (with_reducible refine (O2.out _).mono ?_); rintro e w5 ⟨rfl, ⟨⟨nd, rfl⟩⟩⟩) | (go_at_call 40; (with_reducible refine (O3.out _).mono ?_); rintro e w5 ⟨rfl, ⟨⟨nd, rfl⟩⟩⟩) | (go_at_call 40; (with_reducible refine (O4.out _).mono ?_); rintro e w5 ⟨rfl, ⟨⟨nd, rfl⟩⟩⟩) | (go_at_call 40; (with_reducible refine (O10.out _).mono ?_); rintro e w5 ⟨rfl, ⟨⟨nd, rfl⟩⟩⟩))
  generalize hW : World.drewN _ _ = w2
  have HZ2 : Aside0 (w2.heap[w.heap.size]? = some (.cells #[.int .i64 p0, .int .i64 p1, .int .i64 p2, .int .i64 p3, .int .i64 p4, .int .i64 p5, .int .i64 p6, .int .i64 p7, .int .i64 p8, .bool p9, .int .i64 p10, .slice A1 p11.length c1, .slice A2 p12.length c2] 26 (0, 0))) := Aside0.mk (by rw [← hW]; exact HZ1.out)
  have HB2 : Aside0 (Below w.heap.size w w2) := Aside0.mk (by rw [← hW]; exact bd HB1.out _)
  clear hW k0 k1 k2 k3 k4 k5 k6 k7 k8 k9 k10 k11 k12 HZ1 HB1 dlim dk1 dk3 O1 O2 O3 O4 O10 ddat ddatn
  have HQ2 := Aside0.mk (Below.refl w2.heap.size w2)
  obtain ⟨k0, k1, k2, k3, k4, k5, k6, k7, k8, k9, k10, k11, k12⟩ := c13 HZ2.out
  go_upto_region 16 with (first
    | ((with_reducible refine gate_dst (N := 117) rfl ?_); refine R_make_cap (w0 := w2) w2.heap.size rfl rfl (.const (.int .i64 16)) (.tmp 116) rfl 16 n 16 (wrap64 (20 + (p12.length : Int))) rfl HNN.out rfl rfl (by have := HN.out; omega) (by have := HN.out; omega) HQ2.out (Nat.le_refl _) ?_; intro v3 w3 ho hb hg hat; obtain ⟨g3, cc3, ev, hgb⟩ := rb_form ho (by simp); simp only [List.length_replicate] at ev; subst ev; have HG3 := Aside0.mk hgb; have HR3 := Aside0.mk ho; have HQ3 := Aside0.mk hb; clear ho hb hg hat hgb; clear k0 k1 k2 k3 k4 k5 k6 k7 k8 k9 k10 k11 k12; have hz_ := (HQ3.out.block w.heap.size (blk_lt HZ2.out)).trans HZ2.out; obtain ⟨k0, k1, k2, k3, k4, k5, k6, k7, k8, k9, k10, k11, k12⟩ := c13 hz_; clear hz_))
  have HCZ := Aside0.mk (fun W (h : Below w2.heap.size w2 W) => c13 ((h.block w.heap.size (blk_lt HZ2.out)).trans HZ2.out))
  have r0 := rb_cell HR3.out 0 (by omega)
  have r1 := rb_cell HR3.out 1 (by omega)
  have r12 := rb_cell HR3.out 12 (by omega)
  have s0 := rb_frozen HR3.out 0
  have s1 := rb_frozen HR3.out 1
  have s12 := rb_frozen HR3.out 12
  clear k0 k1 k2 k3 k4 k5 k6 k7 k8 k9 k10 k11 k12
  refine start_ (n := 18) (S := fun w' => w'.cell? ⟨w.heap.size, 0, none⟩ = some (.int .i64 p0) ∧ w'.cell? ⟨w.heap.size, 1, none⟩ = some (.int .i64 p1) ∧ w'.cell? ⟨w.heap.size, 2, none⟩ = some (.int .i64 p2)) (ds := []) #[false, false, false, false, false, false, false, false, false, false, false, false, false, false, false, false, false, false] (by kernel_rfl) rfl rfl ⟨(HCZ.out _ HQ3.out.drew).1, (HCZ.out _ HQ3.out.drew).2.1, (HCZ.out _ HQ3.out.drew).2.2.1⟩ (fun hHeld => ?_)
  refine pure_ (i := 0) (N := some 118) (v := ?_) (a' := ?_) #[true, false, false, false, false, false, false, false, false, false, false, false, false, false, false, false, false, false] rfl rfl (by kernel_rfl) (fun _ _ _ h => h) (Or.inl ⟨by rfl, ?_⟩) ?_ ?_
  rotate_left
  · intro w'
    go_simp
    with_reducible rfl
  rotate_left
  · simp only [Act.put, List.setIfInBounds_toArray, List.set_cons_zero, List.set_cons_succ, i64_w, i32_w]
    rfl
  refine pure_ (i := 1) (N := some 119) (v := ?_) (a' := ?_) #[true, true, false, false, false, false, false, false, false, false, false, false, false, false, false, false, false, false] rfl rfl (by kernel_rfl) (fun _ _ _ h => h) (Or.inl ⟨by rfl, ?_⟩) ?_ ?_
  rotate_left
  · intro w'
    go_simp
    with_reducible rfl
  rotate_left
  · simp only [Act.put, List.setIfInBounds_toArray, List.set_cons_zero, List.set_cons_succ, i64_w, i32_w]
    rfl
  refine pure_ (i := 2) (N := some 120) (v := ?_) (a' := ?_) #[true, true, true, false, false, false, false, false, false, false, false, false, false, false, false, false, false, false] rfl rfl (by kernel_rfl) (fun _ _ _ h => h) (Or.inl ⟨by rfl, ?_⟩) ?_ ?_
  rotate_left
  · intro w'
    go_simp
    with_reducible rfl
  rotate_left
  · simp only [Act.put, List.setIfInBounds_toArray, List.set_cons_zero, List.set_cons_succ, i64_w, i32_w]
    rfl
  refine pure_ (i := 3) (N := some 121) (v := ?_) (a' := ?_) #[true, true, true, true, false, false, false, false, false, false, false, false, false, false, false, false, false, false] rfl rfl (by kernel_rfl) (fun _ _ _ h => h) (Or.inl ⟨by rfl, ?_⟩) ?_ ?_
  rotate_left
  · intro w'
    go_simp
    with_reducible rfl
  rotate_left
  · simp only [Act.put, List.setIfInBounds_toArray, List.set_cons_zero, List.set_cons_succ, i64_w, i32_w]
    rfl
  refine pure_ (i := 6) (N := some 124) (v := ?_) (a' := ?_) #[true, true, true, true, false, false, true, false, false, false, false, false, false, false, false, false, false, false] rfl rfl (by kernel_rfl) (fun _ _ _ h => h) (Or.inl ⟨by rfl, ?_⟩) ?_ ?_
  rotate_left
  · intro w'
    go_simp
    with_reducible rfl
  rotate_left
  · simp only [Act.put, List.setIfInBounds_toArray, List.set_cons_zero, List.set_cons_succ, i64_w, i32_w]
    rfl
  refine pure_ (i := 9) (N := some 127) (v := ?_) (a' := ?_) #[true, true, true, true, false, false, true, false, false, true, false, false, false, false, false, false, false, false] rfl rfl (by kernel_rfl) (fun _ _ _ h => h) (Or.inl ⟨by rfl, ?_⟩) ?_ ?_
  rotate_left
  · intro w'
    go_simp
    with_reducible rfl
  rotate_left
  · simp only [Act.put, List.setIfInBounds_toArray, List.set_cons_zero, List.set_cons_succ, i64_w, i32_w]
    rfl
  refine take_ (i := 4) (N := some 122) (v := ?_) (a' := ?_) #[true, true, true, true, true, false, true, false, false, true, false, false, false, false, false, false, false, false] rfl rfl (by kernel_rfl) (fun _ _ _ h => h) (Or.inl ⟨by rfl, ?_⟩) hHeld ?_ ?_
  rotate_left
  · rintro w' ⟨s0, s1, s2⟩
    go_simp
    with_reducible rfl
  rotate_left
  · simp only [Act.put, List.setIfInBounds_toArray, List.set_cons_zero, List.set_cons_succ, i64_w, i32_w]
    rfl
  refine pure_ (i := 5) (N := some 123) (v := ?_) (a' := ?_) #[true, true, true, true, true, true, true, false, false, true, false, false, false, false, false, false, false, false] rfl rfl (by kernel_rfl) (fun _ _ _ h => h) (Or.inl ⟨by rfl, ?_⟩) ?_ ?_
  rotate_left
  · intro w'
    go_simp
    with_reducible rfl
  rotate_left
  · simp only [Act.put, List.setIfInBounds_toArray, List.set_cons_zero, List.set_cons_succ, i64_w, i32_w]
    rfl
  refine pure_ (i := 12) (N := some 130) (v := ?_) (a' := ?_) #[true, true, true, true, true, true, true, false, false, true, false, false, true, false, false, false, false, false] rfl rfl (by kernel_rfl) (fun _ _ _ h => h) (Or.inl ⟨by rfl, ?_⟩) ?_ ?_
  rotate_left
  · intro w'
    go_simp
    with_reducible rfl
  rotate_left
  · simp only [Act.put, List.setIfInBounds_toArray, List.set_cons_zero, List.set_cons_succ, i64_w, i32_w]
    rfl
  refine take_ (i := 7) (N := some 125) (v := ?_) (a' := ?_) #[true, true, true, true, true, true, true, true, false, true, false, false, true, false, false, false, false, false] rfl rfl (by kernel_rfl) (fun _ _ _ h => h) (Or.inl ⟨by rfl, ?_⟩) hHeld ?_ ?_
  rotate_left
  · rintro w' ⟨s0, s1, s2⟩
    go_simp
    with_reducible rfl
  rotate_left
  · simp only [Act.put, List.setIfInBounds_toArray, List.set_cons_zero, List.set_cons_succ, i64_w, i32_w]
    rfl
  refine pure_ (i := 8) (N := some 126) (v := ?_) (a' := ?_) #[true, true, true, true, true, true, true, true, true, true, false, false, true, false, false, false, false, false] rfl rfl (by kernel_rfl) (fun _ _ _ h => h) (Or.inl ⟨by rfl, ?_⟩) ?_ ?_
  rotate_left
  · intro w'
    go_simp
    with_reducible rfl
  rotate_left
  · simp only [Act.put, List.setIfInBounds_toArray, List.set_cons_zero, List.set_cons_succ, i64_w, i32_w]
    rfl
  refine take_ (i := 10) (N := some 128) (v := ?_) (a' := ?_) #[true, true, true, true, true, true, true, true, true, true, true, false, true, false, false, false, false, false] rfl rfl (by kernel_rfl) (fun _ _ _ h => h) (Or.inl ⟨by rfl, ?_⟩) hHeld ?_ ?_
  rotate_left
  · rintro w' ⟨s0, s1, s2⟩
    go_simp
    with_reducible rfl
  rotate_left
  · simp only [Act.put, List.setIfInBounds_toArray, List.set_cons_zero, List.set_cons_succ, i64_w, i32_w]
    rfl
  refine pure_ (i := 11) (N := some 129) (v := ?_) (a' := ?_) #[true, true, true, true, true, true, true, true, true, true, true, true, true, false, false, false, false, false] rfl rfl (by kernel_rfl) (fun _ _ _ h => h) (Or.inl ⟨by rfl, ?_⟩) ?_ ?_
  rotate_left
  · intro w'
    go_simp
    with_reducible rfl
  rotate_left
  · simp only [Act.put, List.setIfInBounds_toArray, List.set_cons_zero, List.set_cons_succ, i64_w, i32_w]
    rfl
  refine one_ (i := 13) (N := none) #[true, true, true, true, true, true, true, true, true, true, true, true, true, true, false, false, false, false] rfl rfl (by kernel_rfl) (by decide) (fun K hK => ?_)
  refine skip_ (w1 := ?_) (by rfl) rfl ?_ ?_
  rotate_left
  · go_simp
    rfl
  refine hK.out _ _ ⟨(HCZ.out _ (HQ3.out.drew.setCell (p := ⟨g3, 0, none⟩) HG3.out _)).1, (HCZ.out _ (HQ3.out.drew.setCell (p := ⟨g3, 0, none⟩) HG3.out _)).2.1, (HCZ.out _ (HQ3.out.drew.setCell (p := ⟨g3, 0, none⟩) HG3.out _)).2.2.1⟩ (fun hHeld => ?_)
  clear hK K
  refine pure_ (i := 14) (N := some 131) (v := ?_) (a' := ?_) #[true, true, true, true, true, true, true, true, true, true, true, true, true, true, true, false, false, false] rfl rfl (by kernel_rfl) (fun _ _ _ h => h) (Or.inl ⟨by rfl, ?_⟩) ?_ ?_
  rotate_left
  · intro w'
    go_simp
    with_reducible rfl
  rotate_left
  · simp only [Act.put, List.setIfInBounds_toArray, List.set_cons_zero, List.set_cons_succ, i64_w, i32_w]
    rfl
  refine one_ (i := 15) (N := none) #[true, true, true, true, true, true, true, true, true, true, true, true, true, true, true, true, false, false] rfl rfl (by kernel_rfl) (by decide) (fun K hK => ?_)
  refine skip_ (w1 := ?_) (by rfl) rfl ?_ ?_
  rotate_left
  · go_simp
    rfl
  refine hK.out _ _ ⟨(HCZ.out _ ((HQ3.out.drew.setCell (p := ⟨g3, 0, none⟩) HG3.out _).setCell (p := ⟨g3, 1, none⟩) HG3.out _)).1, (HCZ.out _ ((HQ3.out.drew.setCell (p := ⟨g3, 0, none⟩) HG3.out _).setCell (p := ⟨g3, 1, none⟩) HG3.out _)).2.1, (HCZ.out _ ((HQ3.out.drew.setCell (p := ⟨g3, 0, none⟩) HG3.out _).setCell (p := ⟨g3, 1, none⟩) HG3.out _)).2.2.1⟩ (fun hHeld => ?_)
  clear hK K
  refine pure_ (i := 16) (N := some 132) (v := ?_) (a' := ?_) #[true, true, true, true, true, true, true, true, true, true, true, true, true, true, true, true, true, false] rfl rfl (by kernel_rfl) (fun _ _ _ h => h) (Or.inl ⟨by rfl, ?_⟩) ?_ ?_
  rotate_left
  · intro w'
    go_simp
    with_reducible rfl
  rotate_left
  · simp only [Act.put, List.setIfInBounds_toArray, List.set_cons_zero, List.set_cons_succ, i64_w, i32_w]
    rfl
  refine one_ (i := 17) (N := none) #[true, true, true, true, true, true, true, true, true, true, true, true, true, true, true, true, true, true] rfl rfl (by kernel_rfl) (by decide) (fun K hK => ?_)
  refine skip_ (w1 := ?_) (by rfl) rfl ?_ ?_
  rotate_left
  · go_simp
    rfl
  refine hK.out _ _ ⟨(HCZ.out _ (((HQ3.out.drew.setCell (p := ⟨g3, 0, none⟩) HG3.out _).setCell (p := ⟨g3, 1, none⟩) HG3.out _).setCell (p := ⟨g3, 12, none⟩) HG3.out _)).1, (HCZ.out _ (((HQ3.out.drew.setCell (p := ⟨g3, 0, none⟩) HG3.out _).setCell (p := ⟨g3, 1, none⟩) HG3.out _).setCell (p := ⟨g3, 12, none⟩) HG3.out _)).2.1, (HCZ.out _ (((HQ3.out.drew.setCell (p := ⟨g3, 0, none⟩) HG3.out _).setCell (p := ⟨g3, 1, none⟩) HG3.out _).setCell (p := ⟨g3, 12, none⟩) HG3.out _)).2.2.1⟩ (fun hHeld => ?_)
  clear hK K
  refine done_ (by kernel_rfl) ?_
  clear r0 r1 r12 s0 s1 s12 hHeld
  generalize hW : World.drew _ = w4
  have hr : RB w2.heap.size w4 (.slice (some ⟨g3, 0, none⟩) 16 cc3) ((((List.replicate 16 0).set 0 (IntKind.u8.wrap p0)).set 1 (IntKind.u8.wrap p1)).set 12 (IntKind.u8.wrap p2)) := by
    rw [← hW]
    exact Kd.R_drew (rb_set (rb_set (rb_set HR3.out 0 (IntKind.u8.wrap p0)) 1 (IntKind.u8.wrap p1)) 12 (IntKind.u8.wrap p2))
  simp only [IntKind.wrap_u8] at hr
  obtain ⟨L4, el⟩ : ∃ L, (((List.replicate 16 0).set 0 (p0 % 256)).set 1 (p1 % 256)).set 12 (p2 % 256) = L := ⟨_, rfl⟩
  rw [el] at hr
  have EL4 := Aside0.mk el
  clear el
  have HR4 := Aside0.mk hr
  have HQ4 := Aside0.mk (show Below w2.heap.size w2 w4 from by
    rw [← hW]
    exact (((HQ3.out.setCell (p := ⟨g3, 0, none⟩) HG3.out _).setCell (p := ⟨g3, 1, none⟩) HG3.out _).setCell (p := ⟨g3, 12, none⟩) HG3.out _).drew)
  have HL4 := Aside0.mk (show L4.length = 16 from by rw [← EL4.out]; simp)
  have HY4 := Aside0.mk (show Bytes L4 from by
    rw [← EL4.out]
    refine Bytes.set (Bytes.set (Bytes.set ?_ _ (by omega) (by omega)) _ (by omega) (by omega)) _ (by omega) (by omega)
    intro x hx
    have := List.eq_of_mem_replicate hx
    omega)
  clear hW hr HCZ HR3
  have hz_ := (HQ4.out.block w.heap.size (blk_lt HZ2.out)).trans HZ2.out; obtain ⟨k0, k1, k2, k3, k4, k5, k6, k7, k8, k9, k10, k11, k12⟩ := c13 hz_; clear hz_
  have PR := Aside0.mk (rput_calls (w0 := w2) (w := w4) 2 2 (wrap64 (20 + (p12.length : Int))) (iz := 2) (mz := 2) HQ4.out HR4.out (by have := HL4.out; have := HN.out; omega) rfl rfl (by omega) (by have := HL4.out; have := HN.out; omega))
  go_upto_region 18 with (first | (go_at_call 41; (with_reducible refine PR.out.mono ?_); rintro e w5 ⟨rfl, hr, hq, hg⟩; obtain ⟨L5, el⟩ : ∃ L, putL L4 2 2 (wrap64 (20 + (p12.length : Int))) = L := ⟨_, rfl⟩; rw [el] at hr; have EL5 := Aside0.mk el; clear el; have HR5 := Aside0.mk hr; have HQ5 := Aside0.mk hq; have HL5 := Aside0.mk (show L5.length = 16 from by rw [← EL5.out, putL_len]; exact HL4.out); have HY5 := Aside0.mk (show Bytes L5 from by rw [← EL5.out]; exact putL_bytes _ _ _ HY4.out); clear hr hq hg; clear k0 k1 k2 k3 k4 k5 k6 k7 k8 k9 k10 k11 k12; have hz_ := (HQ5.out.block w.heap.size (blk_lt HZ2.out)).trans HZ2.out; obtain ⟨k0, k1, k2, k3, k4, k5, k6, k7, k8, k9, k10, k11, k12⟩ := c13 hz_; clear hz_))
  clear PR
  have PR := Aside0.mk (rput_calls (w0 := w2) (w := w5) 4 4 (p3) (iz := 4) (mz := 4) HQ5.out HR5.out (by have := HL5.out; have := HN.out; omega) rfl rfl (by omega) (by have := HL5.out; have := HN.out; omega))
  go_upto_region 19 with (first | (go_at_call 41; (with_reducible refine PR.out.mono ?_); rintro e w6 ⟨rfl, hr, hq, hg⟩; obtain ⟨L6, el⟩ : ∃ L, putL L5 4 4 (p3) = L := ⟨_, rfl⟩; rw [el] at hr; have EL6 := Aside0.mk el; clear el; have HR6 := Aside0.mk hr; have HQ6 := Aside0.mk hq; have HL6 := Aside0.mk (show L6.length = 16 from by rw [← EL6.out, putL_len]; exact HL5.out); have HY6 := Aside0.mk (show Bytes L6 from by rw [← EL6.out]; exact putL_bytes _ _ _ HY5.out); clear hr hq hg; clear k0 k1 k2 k3 k4 k5 k6 k7 k8 k9 k10 k11 k12; have hz_ := (HQ6.out.block w.heap.size (blk_lt HZ2.out)).trans HZ2.out; obtain ⟨k0, k1, k2, k3, k4, k5, k6, k7, k8, k9, k10, k11, k12⟩ := c13 hz_; clear hz_))
  clear PR
  have PR := Aside0.mk (rput_calls (w0 := w2) (w := w6) 8 4 (p4) (iz := 8) (mz := 4) HQ6.out HR6.out (by have := HL6.out; have := HN.out; omega) rfl rfl (by omega) (by have := HL6.out; have := HN.out; omega))
  go_upto_region 20 with (first | (go_at_call 41; (with_reducible refine PR.out.mono ?_); rintro e w7 ⟨rfl, hr, hq, hg⟩; obtain ⟨L7, el⟩ : ∃ L, putL L6 8 4 (p4) = L := ⟨_, rfl⟩; rw [el] at hr; have EL7 := Aside0.mk el; clear el; have HR7 := Aside0.mk hr; have HQ7 := Aside0.mk hq; have HL7 := Aside0.mk (show L7.length = 16 from by rw [← EL7.out, putL_len]; exact HL6.out); have HY7 := Aside0.mk (show Bytes L7 from by rw [← EL7.out]; exact putL_bytes _ _ _ HY6.out); clear hr hq hg; clear k0 k1 k2 k3 k4 k5 k6 k7 k8 k9 k10 k11 k12; have hz_ := (HQ7.out.block w.heap.size (blk_lt HZ2.out)).trans HZ2.out; obtain ⟨k0, k1, k2, k3, k4, k5, k6, k7, k8, k9, k10, k11, k12⟩ := c13 hz_; clear hz_))
  clear PR
  have HC7 := Aside0.mk (Kd.R_reads' HR7.out)
  have OF := Aside0.mk (rof_calls (c := cc3) (n := 16) (l := L7) (w := w7) (by have h := HC7.out.2.2; rw [← HC7.out.1] at h; exact h) HL7.out HC7.out.2.1 HY7.out (by rw [HL7.out]; omega))
  have PR := Aside0.mk (fun nd_ => rput_calls (w0 := w2) (w := (w7.drewN nd_)) 14 2 (65535 - fold (pairs L7)) (iz := 14) (mz := 2) (bd HQ7.out nd_) (Kd.R_drewN HR7.out nd_) (by have := HL7.out; have := HN.out; omega) rfl rfl (by omega) (by have := HL7.out; have := HN.out; omega))
  go_upto_region 24 with (first | (go_at_call 41; (with_reducible refine (PR.out _).mono ?_); rintro e w8 ⟨rfl, hr, hq, hg⟩; obtain ⟨L8, el⟩ : ∃ L, putL L7 14 2 (65535 - fold (pairs L7)) = L := ⟨_, rfl⟩; rw [el] at hr; have EL8 := Aside0.mk el; clear el; have HR8 := Aside0.mk hr; have HQ8 := Aside0.mk hq; have HL8 := Aside0.mk (show L8.length = 16 from by rw [← EL8.out, putL_len]; exact HL7.out); have HY8 := Aside0.mk (show Bytes L8 from by rw [← EL8.out]; exact putL_bytes _ _ _ HY7.out); clear hr hq hg; clear k0 k1 k2 k3 k4 k5 k6 k7 k8 k9 k10 k11 k12; have hz_ := (HQ8.out.block w.heap.size (blk_lt HZ2.out)).trans HZ2.out; obtain ⟨k0, k1, k2, k3, k4, k5, k6, k7, k8, k9, k10, k11, k12⟩ := c13 hz_; clear hz_) | (go_at_call 23; (with_reducible refine OF.out.mono ?_); rintro e w20 ⟨rfl, ⟨⟨nd, rfl⟩⟩⟩))
  clear PR
  clear OF HC7
  go_upto_region 28 with (first | ((with_reducible refine gate_dst (N := 170) rfl ?_); refine Kd.R_lit (Kd.int .u8) (w0 := w2) w2.heap.size 5 ?hg (N := 170) ?hd (xs := ([p10 % 256, 0, 0, 0] : List Int)) (inner := [.int .u8 (p10 % 256), .int .u8 0, .int .u8 0, .int .u8 0]) (ok := fun _ => True) (okp := fun _ => True) ?hr ?hp (fun _ hk => hk) trivial HQ8.out HQ8.out.size (by simp) ?_; (case hd => rfl); (case hg => rfl); (case hr => first | (go_simp; done) | (go_simp; rfl)); (case hp => exact (Reps.one (show Kd.M (Kd.int .u8) _ _ _ (p10 % 256) [.int .u8 (p10 % 256)] from rfl) (Reps.one (show Kd.M (Kd.int .u8) _ _ _ 0 [.int .u8 0] from rfl) (Reps.one (show Kd.M (Kd.int .u8) _ _ _ 0 [.int .u8 0] from rfl) (Reps.one (show Kd.M (Kd.int .u8) _ _ _ 0 [.int .u8 0] from rfl) (Reps.none _ _)))))); intro v30 w21 ho hb hg hat; have n1_ := Aside0.mk (Kd.R_below HR8.out (below_of_none hg)); clear HR8; have HR8 := n1_; have n2_ := Aside0.mk hb; clear HQ8; have HQ8 := n2_; obtain ⟨Al, cl, el⟩ := Kd.R_slice ho; subst el; have HLC := Aside0.mk (Kd.R_reads' ho); clear ho hb hg hat n1_ n2_) | ((with_reducible refine gate_builtin (b := .append) (xs := #[.tmp 166, .tmp 170]) rfl ?_); at_builtin; refine Kd.R_append_rows (Kd.int .u8) (w0 := w2) w2.heap.size rfl (.tmp 166) (.tmp 170) 23 5 (.int .u8 0) 1 rfl Try.underlying23 info5 rfl (by decide) (by omega) (.slice (some ⟨g3, 0, none⟩) (16) cc3) L8 ([p10 % 256, 0, 0, 0] : List Int) Al 4 cl (fun _ => True) (fun _ => False) rfl rfl HR8.out (HLC.out.2.2) (fun _ _ h => h) (fun _ h => h.elim) (fun _ _ => trivial) HQ8.out HQ8.out.size (by have := HL8.out; have := HN.out; have := HLIM.out; omega) ?_; intro v9 w9 ho hb hg hat; obtain ⟨L9, el⟩ : ∃ L, L8 ++ ([p10 % 256, 0, 0, 0] : List Int) = L := ⟨_, rfl⟩; rw [el] at ho; have EL9 := Aside0.mk el; have HL9 := Aside0.mk (show L9.length = 20 from by rw [← el]; simp only [List.length_append, List.length_replicate, List.length_cons, List.length_nil]; have := HL8.out; have := HN.out; omega); have HY9 := Aside0.mk (show Bytes L9 from by rw [← el]; exact HY8.out.app (fun x hx => by simp only [List.mem_cons, List.not_mem_nil, or_false] at hx; omega)); clear el; obtain ⟨g9, cc9, ev, hgb⟩ := rb_form ho (by rw [HL9.out]; have := HN.out; omega); rw [HL9.out] at ev; subst ev; have HG9 := Aside0.mk hgb; have HR9 := Aside0.mk ho; have HQ9 := Aside0.mk hb; clear ho hb hg hat hgb; clear k0 k1 k2 k3 k4 k5 k6 k7 k8 k9 k10 k11 k12; have hz_ := (HQ9.out.block w.heap.size (blk_lt HZ2.out)).trans HZ2.out; obtain ⟨k0, k1, k2, k3, k4, k5, k6, k7, k8, k9, k10, k11, k12⟩ := c13 hz_; clear hz_))
  go_upto_region 31 with fail
  go_upto_region 32 with (first | ((with_reducible refine gate_builtin (b := .append) (xs := #[.tmp 190, .tmp 192]) rfl ?_); at_builtin; refine Kd.R_append_rows (Kd.int .u8) (w0 := w2) w2.heap.size rfl (.tmp 190) (.tmp 192) 23 5 (.int .u8 0) 1 rfl Try.underlying23 info5 rfl (by decide) (by omega) (.slice (some ⟨g9, 0, none⟩) (20) cc9) L9 p12 A2 p12.length c2 (fun _ => True) (fun _ => False) rfl rfl HR9.out (Kd.C_below HD.out (below_step HB2.out HQ9.out)) (fun _ _ h => h) (fun _ h => h.elim) (fun _ _ => trivial) HQ9.out HQ9.out.size (by have := HL9.out; have := HN.out; have := HLIM.out; omega) ?_; intro v10 w10 ho hb hg hat; obtain ⟨L10, el⟩ : ∃ L, L9 ++ p12 = L := ⟨_, rfl⟩; rw [el] at ho; have EL10 := Aside0.mk el; have HL10 := Aside0.mk (show L10.length = n from by rw [← el]; simp only [List.length_append, List.length_replicate, List.length_cons, List.length_nil]; have := HL9.out; have := HN.out; omega); have HY10 := Aside0.mk (show Bytes L10 from by rw [← el]; exact HY9.out.app HYD.out); clear el; obtain ⟨g10, cc10, ev, hgb⟩ := rb_form ho (by rw [HL10.out]; have := HN.out; omega); rw [HL10.out] at ev; subst ev; have HG10 := Aside0.mk hgb; have HR10 := Aside0.mk ho; have HQ10 := Aside0.mk hb; clear ho hb hg hat hgb; clear k0 k1 k2 k3 k4 k5 k6 k7 k8 k9 k10 k11 k12; have hz_ := (HQ10.out.block w.heap.size (blk_lt HZ2.out)).trans HZ2.out; obtain ⟨k0, k1, k2, k3, k4, k5, k6, k7, k8, k9, k10, k11, k12⟩ := c13 hz_; clear hz_))
  have HC10 := Aside0.mk (Kd.R_reads' HR10.out)
  have SF := Aside0.mk (rsummed_calls (c := cc10) (n := n) (l := L10) (w := w10) (by have h := HC10.out.2.2; rw [← HC10.out.1] at h; exact h) HL10.out HC10.out.2.1 (by have := HL10.out; have := HN.out; omega) (by have := HL10.out; have := HN.out; omega))
  have HSO := Aside0.mk (summed_ok HY10.out (by have := HL10.out; have := HN.out; omega) (by have := HL10.out; have := HN.out; omega))
  go_upto_region 33 with (first
    | (go_at_call 42; (with_reducible refine SF.out.mono ?_); rintro e w11 ⟨v, rfl, ho, hb⟩; obtain ⟨Av, cv, ev⟩ := Kd.R_slice ho; subst ev; have HR11 := Aside0.mk (Kd.R_below HR10.out hb); have HQ11 := Aside0.mk (below_step HQ10.out hb); have HRD := Aside0.mk (Kd.R_reads' ho); have OF := Aside0.mk (rof_calls HRD.out.2.2 rfl HRD.out.2.1 HSO.out.2 (by have := HSO.out.1; omega)); clear ho hb; clear k0 k1 k2 k3 k4 k5 k6 k7 k8 k9 k10 k11 k12; have hz_ := (HQ11.out.block w.heap.size (blk_lt HZ2.out)).trans HZ2.out; obtain ⟨k0, k1, k2, k3, k4, k5, k6, k7, k8, k9, k10, k11, k12⟩ := c13 hz_; clear hz_)
    | (go_at_call 23; (with_reducible refine OF.out.mono ?_); rintro e w30 ⟨rfl, ⟨⟨nd2, rfl⟩⟩⟩))
  have HR11' := Aside0.mk (Kd.R_drewN HR11.out nd2)
  have HQ11' := Aside0.mk (bd HQ11.out nd2)
  generalize w11.drewN nd2 = w40 at HR11' HQ11' ⊢
  clear SF OF HRD HR11 HQ11 k0 k1 k2 k3 k4 k5 k6 k7 k8 k9 k10 k11 k12
  have hz_ := (HQ11'.out.block w.heap.size (blk_lt HZ2.out)).trans HZ2.out
  obtain ⟨k0, k1, k2, k3, k4, k5, k6, k7, k8, k9, k10, k11, k12⟩ := c13 hz_
  clear hz_
  have G43 := Aside0.mk (fun W => roundhouseref3_place.calls p0 18 W (by unfold roundhouseref3_place.f; have := HK.out; rw [if_pos (by omega)]))
  have PR := Aside0.mk (fun nd_ => rput_calls (w0 := w2) (w := w40.drewN nd_) 18 2 (65535 - fold (pairs (summedL L10))) (iz := 18) (mz := 2) (bd HQ11'.out nd_) (Kd.R_drewN HR11'.out nd_) (by have := HL10.out; have := HN.out; omega) rfl rfl (by omega) (by have := HL10.out; have := HN.out; have := HLIM.out; have := HK.out; omega))
  go_wp2_with (first
    | (go_at_call 43; (with_reducible refine (G43.out _).mono ?_); rintro e w41 ⟨rfl, ⟨⟨nd3, rfl⟩⟩⟩)
    | (go_at_call 41; (with_reducible refine (PR.out _).mono ?_); rintro e w42 ⟨rfl, hr, hq, hg⟩; have HRX := Aside0.mk hr; have HQX := Aside0.mk hq; clear hr hq hg))
  go_ret2
  refine ⟨_, rfl, ?_, below_step HB2.out HQX.out⟩
  have hb : L10 = rbodyL ⟨p0, p1, p2, p3, p4, p5, p6, p7, p8, p9, p10, p11, p12⟩ := by
    rw [← EL10.out, ← EL9.out, ← EL8.out, ← EL7.out, ← EL6.out, ← EL5.out, ← EL4.out]
    unfold rbodyL h4R h3R
    simp only [HNL.out, HNN.out, Int.reduceToNat]
    rw [if_pos HK.out]
  unfold rbuildL
  rw [← hb]
  simp only []
  rw [if_pos HK.out]
  rw [show sumL p0 p9 L10 = 65535 - fold (pairs (summedL L10)) from by unfold sumL; rw [if_neg (fun h => by have := HK.out; omega), if_neg (fun h => by have := HK.out; omega)]]
  exact Kd.R_lower HRX.out HB2.out.size
end Go.Proofs.Ytbjhmifhmojaoaa.WB

namespace Go.Proofs.Ytbjhmifhmojaoaa.WB
set_option linter.unusedVariables false
set_option linter.unusedSimpArgs false
open Go.RowKit Go.Proofs.Ytbjhmifhmojaoaa.Hp Go.Proofs.Ytbjhmifhmojaoaa.SB Go.Proofs.YtbjhmifhmojaoaaW.PrintWords Go.Proofs.YtbjhmifhmojaoaaW.PrintLast Go.Proofs.YtbjhmifhmojaoaaW.PrintMore
set_option maxHeartbeats 8000000 in
set_option maxRecDepth 100000 in
theorem rbuild_stream {A1 A2 : Option Addr} {c1 c2 : Nat} {p0 p1 p2 p3 p4 p5 p6 p7 p8 : Int} {p9 : Bool} {p10 : Int} {p11 p12 : List Int} {w : World} (ha : Kd.C (Kd.int .u8) w A1 p11.length p11) (hca : p11.length ≤ c1) (hd : Kd.C (Kd.int .u8) w A2 p12.length p12) (hcd : p12.length ≤ c2) (hba : Bytes p11) (hbd : Bytes p12) (hk : p0 = 1) (he : buildE ⟨p0, p1, p2, p3, p4, p5, p6, p7, p8, p9, p10, p11, p12⟩ = 0) :
    Calls Try.prog 18 #[.agg #[.int .i64 p0, .int .i64 p1, .int .i64 p2, .int .i64 p3, .int .i64 p4, .int .i64 p5, .int .i64 p6, .int .i64 p7, .int .i64 p8, .bool p9, .int .i64 p10, .slice A1 p11.length c1, .slice A2 p12.length c2]] w fun e w' => ∃ v, e = .returned (.tuple #[v, .int .i64 0]) ∧ RB w.heap.size w' v (rbuildL ⟨p0, p1, p2, p3, p4, p5, p6, p7, p8, p9, p10, p11, p12⟩) ∧ Below w.heap.size w w' := by
  have hn : nL ⟨p0, p1, p2, p3, p4, p5, p6, p7, p8, p9, p10, p11, p12⟩ = 24 + p12.length + p11.length := by unfold nL; simp [hk]
  have hok : okR ⟨p0, p1, p2, p3, p4, p5, p6, p7, p8, p9, p10, p11, p12⟩ = true := by
    unfold buildE at he
    split at he
    · cases he
    split at he
    · cases he
    rename_i h; simpa using h
  have hlim : nL ⟨p0, p1, p2, p3, p4, p5, p6, p7, p8, p9, p10, p11, p12⟩ ≤ 1500 ∧ (p0 = 1 → p11.length ≤ 40) ∧ (p0 = 3 → 24 ≤ p12.length) := by
    unfold buildE at he
    split at he
    · cases he
    split at he
    · cases he
    split at he
    · cases he
    split at he
    · cases he
    rename_i h1 h2 h3 h4
    refine ⟨by omega, fun h => ?_, fun h => ?_⟩
    · have : ¬ 40 < p11.length := fun h5 => h3 ⟨h, h5⟩
      omega
    · have : ¬ p12.length < 24 := fun h5 => h4 (Or.inl ⟨h, h5⟩)
      omega
  obtain ⟨n, hne⟩ : ∃ n, 24 + p12.length + p11.length = n := ⟨_, rfl⟩
  rw [hn, hne] at hlim
  have HN := Aside0.mk (show 20 ≤ n ∧ n ≤ 1500 ∧ 24 + p12.length + p11.length = n from ⟨by omega, hlim.1, hne⟩)
  have HNL := Aside0.mk (hn.trans hne)
  have HLIM := Aside0.mk hlim
  have HNN := Aside0.mk (show wrap64 (wrap64 (24 + (p12.length : Int)) + (p11.length : Int)) = (n : Int) from by rw [wid (n := 24 + (p12.length : Int)) (by omega) (by omega), wid (by omega) (by omega)]; omega)
  have dlim : decide (1500 < wrap64 (wrap64 (24 + (p12.length : Int)) + (p11.length : Int))) = false := decide_eq_false (by rw [HNN.out]; omega)
  have HA := Aside0.mk ha
  have HD := Aside0.mk hd
  have HCA := Aside0.mk hca
  have HCD := Aside0.mk hcd
  have HYA := Aside0.mk hba
  have HYD := Aside0.mk hbd
  have HK := Aside0.mk hk
  simp [okR, rgB, hk] at hok
  have dk1 : decide (p0 < 1) = false := decide_eq_false (by omega)
  have dk3 : decide (3 < p0) = false := decide_eq_false (by omega)
  have of : ∀ (a m : Int), 0 ≤ a → a ≤ m → roundhouseref3_out.f a m = some false := fun a m h0 h1 => by unfold roundhouseref3_out.f; rw [if_neg (by omega)]; simp; omega
  have O1 := Aside0.mk (fun W => roundhouseref3_out.calls p1 255 false W (of _ _ (by omega) (by omega)))
  have O2 := Aside0.mk (fun W => roundhouseref3_out.calls p2 255 false W (of _ _ (by omega) (by omega)))
  have O3 := Aside0.mk (fun W => roundhouseref3_out.calls p3 4294967295 false W (of _ _ (by omega) (by omega)))
  have O4 := Aside0.mk (fun W => roundhouseref3_out.calls p4 4294967295 false W (of _ _ (by omega) (by omega)))
  have O5 := Aside0.mk (fun W => roundhouseref3_out.calls p5 65535 false W (of _ _ (by omega) (by omega)))
  have O6 := Aside0.mk (fun W => roundhouseref3_out.calls p6 65535 false W (of _ _ (by omega) (by omega)))
  have O7 := Aside0.mk (fun W => roundhouseref3_out.calls p7 15 false W (of _ _ (by omega) (by omega)))
  have q1 : (p0 == 1) = true := by rw [hk]; rfl
  have q1n : (p0 != 1) = false := by rw [hk]; rfl
  have q2 : (p0 == 2) = false := by rw [hk]; rfl
  have q2n : (p0 != 2) = true := by rw [hk]; rfl
  have q3 : (p0 == 3) = false := by rw [hk]; rfl
  have q3n : (p0 != 3) = true := by rw [hk]; rfl
  have dopt : decide (40 < (p11.length : Int)) = false := decide_eq_false (by have := hlim.2.1 hk; omega)
  have doptn : decide (40 < p11.length) = false := decide_eq_false (by have := hlim.2.1 hk; omega)
  clear ha hd hba hbd hk he hn hok hlim hne hca hcd of
  go_enter Try.func18, Try.ntmps18
  go_upto_region 3 with fail
  have hz1 := new_blk w (.cells #[.int .i64 p0, .int .i64 p1, .int .i64 p2, .int .i64 p3, .int .i64 p4, .int .i64 p5, .int .i64 p6, .int .i64 p7, .int .i64 p8, .bool p9, .int .i64 p10, .slice A1 p11.length c1, .slice A2 p12.length c2] 26)
  have HB1 := Aside0.mk ((Below.refl w.heap.size w).alloc (Nat.le_refl _) (.cells #[.int .i64 p0, .int .i64 p1, .int .i64 p2, .int .i64 p3, .int .i64 p4, .int .i64 p5, .int .i64 p6, .int .i64 p7, .int .i64 p8, .bool p9, .int .i64 p10, .slice A1 p11.length c1, .slice A2 p12.length c2] 26))
  generalize (w.alloc (.cells #[.int .i64 p0, .int .i64 p1, .int .i64 p2, .int .i64 p3, .int .i64 p4, .int .i64 p5, .int .i64 p6, .int .i64 p7, .int .i64 p8, .bool p9, .int .i64 p10, .slice A1 p11.length c1, .slice A2 p12.length c2] 26)) = w1 at hz1 HB1 ⊢
  have HZ1 := Aside0.mk hz1
  have k0 := (c13 hz1).1
  clear hz1
  refine start_ (n := 12) (S := fun w' => w'.cell? ⟨w.heap.size, 0, none⟩ = some (.int .i64 p0)) (ds := []) #[false, false, false, false, false, false, false, false, false, false, false, false] (by kernel_rfl) rfl rfl (k0) (fun hHeld => ?_)
  refine pure_ (i := 0) (N := some 18) (v := ?_) (a' := ?_) #[true, false, false, false, false, false, false, false, false, false, false, false] rfl rfl (by kernel_rfl) (fun _ _ _ h => h) (Or.inl ⟨by rfl, ?_⟩) ?_ ?_
  rotate_left
  · intro w'
    go_simp
    with_reducible rfl
  rotate_left
  · simp only [Act.put, List.setIfInBounds_toArray, List.set_cons_zero, List.set_cons_succ, i64_w, i32_w]
    rfl
  refine pure_ (i := 3) (N := some 21) (v := ?_) (a' := ?_) #[true, false, false, true, false, false, false, false, false, false, false, false] rfl rfl (by kernel_rfl) (fun _ _ _ h => h) (Or.inl ⟨by rfl, ?_⟩) ?_ ?_
  rotate_left
  · intro w'
    go_simp
    with_reducible rfl
  rotate_left
  · simp only [Act.put, List.setIfInBounds_toArray, List.set_cons_zero, List.set_cons_succ, i64_w, i32_w]
    rfl
  refine pure_ (i := 6) (N := some 24) (v := ?_) (a' := ?_) #[true, false, false, true, false, false, true, false, false, false, false, false] rfl rfl (by kernel_rfl) (fun _ _ _ h => h) (Or.inl ⟨by rfl, ?_⟩) ?_ ?_
  rotate_left
  · intro w'
    go_simp
    with_reducible rfl
  rotate_left
  · simp only [Act.put, List.setIfInBounds_toArray, List.set_cons_zero, List.set_cons_succ, i64_w, i32_w]
    rfl
  refine take_ (i := 1) (N := some 19) (v := ?_) (a' := ?_) #[true, true, false, true, false, false, true, false, false, false, false, false] rfl rfl (by kernel_rfl) (fun _ _ _ h => h) (Or.inl ⟨by rfl, ?_⟩) hHeld ?_ ?_
  rotate_left
  · intro w' s0
    go_simp
    with_reducible rfl
  rotate_left
  · simp only [Act.put, List.setIfInBounds_toArray, List.set_cons_zero, List.set_cons_succ, i64_w, i32_w]
    rfl
  refine pure_ (i := 2) (N := some 20) (v := ?_) (a' := ?_) #[true, true, true, true, false, false, true, false, false, false, false, false] rfl rfl (by kernel_rfl) (fun _ _ _ h => h) (Or.inl ⟨by rfl, ?_⟩) ?_ ?_
  rotate_left
  · intro w'
    go_simp
    with_reducible rfl
  rotate_left
  · simp only [Act.put, List.setIfInBounds_toArray, List.set_cons_zero, List.set_cons_succ, i64_w, i32_w]
    rfl
  refine pure_ (i := 9) (N := some 4) (v := ?_) (a' := ?_) #[true, true, true, true, false, false, true, false, false, true, false, false] rfl rfl (by kernel_rfl) (fun _ _ _ h => h) (Or.inl ⟨by rfl, ?_⟩) ?_ ?_
  rotate_left
  · intro w'
    go_simp
    with_reducible rfl
  rotate_left
  · simp only [Act.put, List.setIfInBounds_toArray, List.set_cons_zero, List.set_cons_succ, i64_w, i32_w]
    rfl
  refine take_ (i := 4) (N := some 22) (v := ?_) (a' := ?_) #[true, true, true, true, true, false, true, false, false, true, false, false] rfl rfl (by kernel_rfl) (fun _ _ _ h => h) (Or.inl ⟨by rfl, ?_⟩) hHeld ?_ ?_
  rotate_left
  · intro w' s0
    go_simp
    with_reducible rfl
  rotate_left
  · simp only [Act.put, List.setIfInBounds_toArray, List.set_cons_zero, List.set_cons_succ, i64_w, i32_w]
    rfl
  refine pure_ (i := 5) (N := some 23) (v := ?_) (a' := ?_) #[true, true, true, true, true, true, true, false, false, true, false, false] rfl rfl (by kernel_rfl) (fun _ _ _ h => h) (Or.inl ⟨by rfl, ?_⟩) ?_ ?_
  rotate_left
  · intro w'
    go_simp
    with_reducible rfl
  rotate_left
  · simp only [Act.put, List.setIfInBounds_toArray, List.set_cons_zero, List.set_cons_succ, i64_w, i32_w]
    rfl
  refine pure_ (i := 10) (N := some 5) (v := ?_) (a' := ?_) #[true, true, true, true, true, true, true, false, false, true, true, false] rfl rfl (by kernel_rfl) (fun _ _ _ h => h) (Or.inl ⟨by rfl, ?_⟩) ?_ ?_
  rotate_left
  · intro w'
    go_simp
    with_reducible rfl
  rotate_left
  · simp only [Act.put, List.setIfInBounds_toArray, List.set_cons_zero, List.set_cons_succ, i64_w, i32_w]
    rfl
  refine take_ (i := 7) (N := some 25) (v := ?_) (a' := ?_) #[true, true, true, true, true, true, true, true, false, true, true, false] rfl rfl (by kernel_rfl) (fun _ _ _ h => h) (Or.inl ⟨by rfl, ?_⟩) hHeld ?_ ?_
  rotate_left
  · intro w' s0
    go_simp
    with_reducible rfl
  rotate_left
  · simp only [Act.put, List.setIfInBounds_toArray, List.set_cons_zero, List.set_cons_succ, i64_w, i32_w]
    rfl
  refine pure_ (i := 8) (N := some 26) (v := ?_) (a' := ?_) #[true, true, true, true, true, true, true, true, true, true, true, false] rfl rfl (by kernel_rfl) (fun _ _ _ h => h) (Or.inl ⟨by rfl, ?_⟩) ?_ ?_
  rotate_left
  · intro w'
    go_simp
    with_reducible rfl
  rotate_left
  · simp only [Act.put, List.setIfInBounds_toArray, List.set_cons_zero, List.set_cons_succ, i64_w, i32_w]
    rfl
  refine pure_ (i := 11) (N := some 6) (v := ?_) (a' := ?_) #[true, true, true, true, true, true, true, true, true, true, true, true] rfl rfl (by kernel_rfl) (fun _ _ _ h => h) (Or.inl ⟨by rfl, ?_⟩) ?_ ?_
  rotate_left
  · intro w'
    go_simp
    with_reducible rfl
  rotate_left
  · simp only [Act.put, List.setIfInBounds_toArray, List.set_cons_zero, List.set_cons_succ, i64_w, i32_w]
    rfl
  refine done_ (by kernel_rfl) ?_
  clear hHeld k0
  obtain ⟨k0, k1, k2, k3, k4, k5, k6, k7, k8, k9, k10, k11, k12⟩ := c13 HZ1.out
  go_upto_region 15 with (first | (go_at_call 40; (with_reducible refine (O1.out _).mono ?_); rintro e w5 ⟨rfl, ⟨⟨nd, rfl⟩⟩⟩) | (go_at_call 40; (with_reducible refine (O2.out _).mono ?_); rintro e w5 ⟨rfl, ⟨⟨nd, rfl⟩⟩⟩) | (go_at_call 40; (with_reducible refine (O3.out _).mono ?_); rintro e w5 ⟨rfl, ⟨⟨nd, rfl⟩⟩⟩) | (go_at_call 40; (with_reducible refine (O4.out _).mono ?_); rintro e w5 ⟨rfl, ⟨⟨nd, rfl⟩⟩⟩) | (go_at_call 40; (with_reducible refine (O5.out _).mono ?_); rintro e w5 ⟨rfl, ⟨⟨nd, rfl⟩⟩⟩) | (go_at_call 40; (with_reducible refine (O6.out _).mono ?_); rintro e w5 ⟨rfl, ⟨⟨nd, rfl⟩⟩⟩) | (go_at_call 40; (with_reducible refine (O7.out _).mono ?_); rintro e w5 ⟨rfl, ⟨⟨nd, rfl⟩⟩⟩))
  generalize hW : World.drewN _ _ = w2
  have HZ2 : Aside0 (w2.heap[w.heap.size]? = some (.cells #[.int .i64 p0, .int .i64 p1, .int .i64 p2, .int .i64 p3, .int .i64 p4, .int .i64 p5, .int .i64 p6, .int .i64 p7, .int .i64 p8, .bool p9, .int .i64 p10, .slice A1 p11.length c1, .slice A2 p12.length c2] 26 (0, 0))) := Aside0.mk (by rw [← hW]; exact HZ1.out)
  have HB2 : Aside0 (Below w.heap.size w w2) := Aside0.mk (by rw [← hW]; exact bd HB1.out _)
  clear hW k0 k1 k2 k3 k4 k5 k6 k7 k8 k9 k10 k11 k12 HZ1 HB1 dlim dk1 dk3 O1 O2 O3 O4 O5 O6 O7 dopt doptn
  have HQ2 := Aside0.mk (Below.refl w2.heap.size w2)
  obtain ⟨k0, k1, k2, k3, k4, k5, k6, k7, k8, k9, k10, k11, k12⟩ := c13 HZ2.out
  go_upto_region 16 with (first
    | ((with_reducible refine gate_dst (N := 117) rfl ?_); refine R_make_cap (w0 := w2) w2.heap.size rfl rfl (.const (.int .i64 16)) (.tmp 116) rfl 16 n 16 (wrap64 (wrap64 (24 + (p12.length : Int)) + (p11.length : Int))) rfl HNN.out rfl rfl (by have := HN.out; omega) (by have := HN.out; omega) HQ2.out (Nat.le_refl _) ?_; intro v3 w3 ho hb hg hat; obtain ⟨g3, cc3, ev, hgb⟩ := rb_form ho (by simp); simp only [List.length_replicate] at ev; subst ev; have HG3 := Aside0.mk hgb; have HR3 := Aside0.mk ho; have HQ3 := Aside0.mk hb; clear ho hb hg hat hgb; clear k0 k1 k2 k3 k4 k5 k6 k7 k8 k9 k10 k11 k12; have hz_ := (HQ3.out.block w.heap.size (blk_lt HZ2.out)).trans HZ2.out; obtain ⟨k0, k1, k2, k3, k4, k5, k6, k7, k8, k9, k10, k11, k12⟩ := c13 hz_; clear hz_))
  have HCZ := Aside0.mk (fun W (h : Below w2.heap.size w2 W) => c13 ((h.block w.heap.size (blk_lt HZ2.out)).trans HZ2.out))
  have r0 := rb_cell HR3.out 0 (by omega)
  have r1 := rb_cell HR3.out 1 (by omega)
  have r12 := rb_cell HR3.out 12 (by omega)
  have s0 := rb_frozen HR3.out 0
  have s1 := rb_frozen HR3.out 1
  have s12 := rb_frozen HR3.out 12
  clear k0 k1 k2 k3 k4 k5 k6 k7 k8 k9 k10 k11 k12
  refine start_ (n := 18) (S := fun w' => w'.cell? ⟨w.heap.size, 0, none⟩ = some (.int .i64 p0) ∧ w'.cell? ⟨w.heap.size, 1, none⟩ = some (.int .i64 p1) ∧ w'.cell? ⟨w.heap.size, 2, none⟩ = some (.int .i64 p2)) (ds := []) #[false, false, false, false, false, false, false, false, false, false, false, false, false, false, false, false, false, false] (by kernel_rfl) rfl rfl ⟨(HCZ.out _ HQ3.out.drew).1, (HCZ.out _ HQ3.out.drew).2.1, (HCZ.out _ HQ3.out.drew).2.2.1⟩ (fun hHeld => ?_)
  refine pure_ (i := 0) (N := some 118) (v := ?_) (a' := ?_) #[true, false, false, false, false, false, false, false, false, false, false, false, false, false, false, false, false, false] rfl rfl (by kernel_rfl) (fun _ _ _ h => h) (Or.inl ⟨by rfl, ?_⟩) ?_ ?_
  rotate_left
  · intro w'
    go_simp
    with_reducible rfl
  rotate_left
  · simp only [Act.put, List.setIfInBounds_toArray, List.set_cons_zero, List.set_cons_succ, i64_w, i32_w]
    rfl
  refine pure_ (i := 1) (N := some 119) (v := ?_) (a' := ?_) #[true, true, false, false, false, false, false, false, false, false, false, false, false, false, false, false, false, false] rfl rfl (by kernel_rfl) (fun _ _ _ h => h) (Or.inl ⟨by rfl, ?_⟩) ?_ ?_
  rotate_left
  · intro w'
    go_simp
    with_reducible rfl
  rotate_left
  · simp only [Act.put, List.setIfInBounds_toArray, List.set_cons_zero, List.set_cons_succ, i64_w, i32_w]
    rfl
  refine pure_ (i := 2) (N := some 120) (v := ?_) (a' := ?_) #[true, true, true, false, false, false, false, false, false, false, false, false, false, false, false, false, false, false] rfl rfl (by kernel_rfl) (fun _ _ _ h => h) (Or.inl ⟨by rfl, ?_⟩) ?_ ?_
  rotate_left
  · intro w'
    go_simp
    with_reducible rfl
  rotate_left
  · simp only [Act.put, List.setIfInBounds_toArray, List.set_cons_zero, List.set_cons_succ, i64_w, i32_w]
    rfl
  refine pure_ (i := 3) (N := some 121) (v := ?_) (a' := ?_) #[true, true, true, true, false, false, false, false, false, false, false, false, false, false, false, false, false, false] rfl rfl (by kernel_rfl) (fun _ _ _ h => h) (Or.inl ⟨by rfl, ?_⟩) ?_ ?_
  rotate_left
  · intro w'
    go_simp
    with_reducible rfl
  rotate_left
  · simp only [Act.put, List.setIfInBounds_toArray, List.set_cons_zero, List.set_cons_succ, i64_w, i32_w]
    rfl
  refine pure_ (i := 6) (N := some 124) (v := ?_) (a' := ?_) #[true, true, true, true, false, false, true, false, false, false, false, false, false, false, false, false, false, false] rfl rfl (by kernel_rfl) (fun _ _ _ h => h) (Or.inl ⟨by rfl, ?_⟩) ?_ ?_
  rotate_left
  · intro w'
    go_simp
    with_reducible rfl
  rotate_left
  · simp only [Act.put, List.setIfInBounds_toArray, List.set_cons_zero, List.set_cons_succ, i64_w, i32_w]
    rfl
  refine pure_ (i := 9) (N := some 127) (v := ?_) (a' := ?_) #[true, true, true, true, false, false, true, false, false, true, false, false, false, false, false, false, false, false] rfl rfl (by kernel_rfl) (fun _ _ _ h => h) (Or.inl ⟨by rfl, ?_⟩) ?_ ?_
  rotate_left
  · intro w'
    go_simp
    with_reducible rfl
  rotate_left
  · simp only [Act.put, List.setIfInBounds_toArray, List.set_cons_zero, List.set_cons_succ, i64_w, i32_w]
    rfl
  refine take_ (i := 4) (N := some 122) (v := ?_) (a' := ?_) #[true, true, true, true, true, false, true, false, false, true, false, false, false, false, false, false, false, false] rfl rfl (by kernel_rfl) (fun _ _ _ h => h) (Or.inl ⟨by rfl, ?_⟩) hHeld ?_ ?_
  rotate_left
  · rintro w' ⟨s0, s1, s2⟩
    go_simp
    with_reducible rfl
  rotate_left
  · simp only [Act.put, List.setIfInBounds_toArray, List.set_cons_zero, List.set_cons_succ, i64_w, i32_w]
    rfl
  refine pure_ (i := 5) (N := some 123) (v := ?_) (a' := ?_) #[true, true, true, true, true, true, true, false, false, true, false, false, false, false, false, false, false, false] rfl rfl (by kernel_rfl) (fun _ _ _ h => h) (Or.inl ⟨by rfl, ?_⟩) ?_ ?_
  rotate_left
  · intro w'
    go_simp
    with_reducible rfl
  rotate_left
  · simp only [Act.put, List.setIfInBounds_toArray, List.set_cons_zero, List.set_cons_succ, i64_w, i32_w]
    rfl
  refine pure_ (i := 12) (N := some 130) (v := ?_) (a' := ?_) #[true, true, true, true, true, true, true, false, false, true, false, false, true, false, false, false, false, false] rfl rfl (by kernel_rfl) (fun _ _ _ h => h) (Or.inl ⟨by rfl, ?_⟩) ?_ ?_
  rotate_left
  · intro w'
    go_simp
    with_reducible rfl
  rotate_left
  · simp only [Act.put, List.setIfInBounds_toArray, List.set_cons_zero, List.set_cons_succ, i64_w, i32_w]
    rfl
  refine take_ (i := 7) (N := some 125) (v := ?_) (a' := ?_) #[true, true, true, true, true, true, true, true, false, true, false, false, true, false, false, false, false, false] rfl rfl (by kernel_rfl) (fun _ _ _ h => h) (Or.inl ⟨by rfl, ?_⟩) hHeld ?_ ?_
  rotate_left
  · rintro w' ⟨s0, s1, s2⟩
    go_simp
    with_reducible rfl
  rotate_left
  · simp only [Act.put, List.setIfInBounds_toArray, List.set_cons_zero, List.set_cons_succ, i64_w, i32_w]
    rfl
  refine pure_ (i := 8) (N := some 126) (v := ?_) (a' := ?_) #[true, true, true, true, true, true, true, true, true, true, false, false, true, false, false, false, false, false] rfl rfl (by kernel_rfl) (fun _ _ _ h => h) (Or.inl ⟨by rfl, ?_⟩) ?_ ?_
  rotate_left
  · intro w'
    go_simp
    with_reducible rfl
  rotate_left
  · simp only [Act.put, List.setIfInBounds_toArray, List.set_cons_zero, List.set_cons_succ, i64_w, i32_w]
    rfl
  refine take_ (i := 10) (N := some 128) (v := ?_) (a' := ?_) #[true, true, true, true, true, true, true, true, true, true, true, false, true, false, false, false, false, false] rfl rfl (by kernel_rfl) (fun _ _ _ h => h) (Or.inl ⟨by rfl, ?_⟩) hHeld ?_ ?_
  rotate_left
  · rintro w' ⟨s0, s1, s2⟩
    go_simp
    with_reducible rfl
  rotate_left
  · simp only [Act.put, List.setIfInBounds_toArray, List.set_cons_zero, List.set_cons_succ, i64_w, i32_w]
    rfl
  refine pure_ (i := 11) (N := some 129) (v := ?_) (a' := ?_) #[true, true, true, true, true, true, true, true, true, true, true, true, true, false, false, false, false, false] rfl rfl (by kernel_rfl) (fun _ _ _ h => h) (Or.inl ⟨by rfl, ?_⟩) ?_ ?_
  rotate_left
  · intro w'
    go_simp
    with_reducible rfl
  rotate_left
  · simp only [Act.put, List.setIfInBounds_toArray, List.set_cons_zero, List.set_cons_succ, i64_w, i32_w]
    rfl
  refine one_ (i := 13) (N := none) #[true, true, true, true, true, true, true, true, true, true, true, true, true, true, false, false, false, false] rfl rfl (by kernel_rfl) (by decide) (fun K hK => ?_)
  refine skip_ (w1 := ?_) (by rfl) rfl ?_ ?_
  rotate_left
  · go_simp
    rfl
  refine hK.out _ _ ⟨(HCZ.out _ (HQ3.out.drew.setCell (p := ⟨g3, 0, none⟩) HG3.out _)).1, (HCZ.out _ (HQ3.out.drew.setCell (p := ⟨g3, 0, none⟩) HG3.out _)).2.1, (HCZ.out _ (HQ3.out.drew.setCell (p := ⟨g3, 0, none⟩) HG3.out _)).2.2.1⟩ (fun hHeld => ?_)
  clear hK K
  refine pure_ (i := 14) (N := some 131) (v := ?_) (a' := ?_) #[true, true, true, true, true, true, true, true, true, true, true, true, true, true, true, false, false, false] rfl rfl (by kernel_rfl) (fun _ _ _ h => h) (Or.inl ⟨by rfl, ?_⟩) ?_ ?_
  rotate_left
  · intro w'
    go_simp
    with_reducible rfl
  rotate_left
  · simp only [Act.put, List.setIfInBounds_toArray, List.set_cons_zero, List.set_cons_succ, i64_w, i32_w]
    rfl
  refine one_ (i := 15) (N := none) #[true, true, true, true, true, true, true, true, true, true, true, true, true, true, true, true, false, false] rfl rfl (by kernel_rfl) (by decide) (fun K hK => ?_)
  refine skip_ (w1 := ?_) (by rfl) rfl ?_ ?_
  rotate_left
  · go_simp
    rfl
  refine hK.out _ _ ⟨(HCZ.out _ ((HQ3.out.drew.setCell (p := ⟨g3, 0, none⟩) HG3.out _).setCell (p := ⟨g3, 1, none⟩) HG3.out _)).1, (HCZ.out _ ((HQ3.out.drew.setCell (p := ⟨g3, 0, none⟩) HG3.out _).setCell (p := ⟨g3, 1, none⟩) HG3.out _)).2.1, (HCZ.out _ ((HQ3.out.drew.setCell (p := ⟨g3, 0, none⟩) HG3.out _).setCell (p := ⟨g3, 1, none⟩) HG3.out _)).2.2.1⟩ (fun hHeld => ?_)
  clear hK K
  refine pure_ (i := 16) (N := some 132) (v := ?_) (a' := ?_) #[true, true, true, true, true, true, true, true, true, true, true, true, true, true, true, true, true, false] rfl rfl (by kernel_rfl) (fun _ _ _ h => h) (Or.inl ⟨by rfl, ?_⟩) ?_ ?_
  rotate_left
  · intro w'
    go_simp
    with_reducible rfl
  rotate_left
  · simp only [Act.put, List.setIfInBounds_toArray, List.set_cons_zero, List.set_cons_succ, i64_w, i32_w]
    rfl
  refine one_ (i := 17) (N := none) #[true, true, true, true, true, true, true, true, true, true, true, true, true, true, true, true, true, true] rfl rfl (by kernel_rfl) (by decide) (fun K hK => ?_)
  refine skip_ (w1 := ?_) (by rfl) rfl ?_ ?_
  rotate_left
  · go_simp
    rfl
  refine hK.out _ _ ⟨(HCZ.out _ (((HQ3.out.drew.setCell (p := ⟨g3, 0, none⟩) HG3.out _).setCell (p := ⟨g3, 1, none⟩) HG3.out _).setCell (p := ⟨g3, 12, none⟩) HG3.out _)).1, (HCZ.out _ (((HQ3.out.drew.setCell (p := ⟨g3, 0, none⟩) HG3.out _).setCell (p := ⟨g3, 1, none⟩) HG3.out _).setCell (p := ⟨g3, 12, none⟩) HG3.out _)).2.1, (HCZ.out _ (((HQ3.out.drew.setCell (p := ⟨g3, 0, none⟩) HG3.out _).setCell (p := ⟨g3, 1, none⟩) HG3.out _).setCell (p := ⟨g3, 12, none⟩) HG3.out _)).2.2.1⟩ (fun hHeld => ?_)
  clear hK K
  refine done_ (by kernel_rfl) ?_
  clear r0 r1 r12 s0 s1 s12 hHeld
  generalize hW : World.drew _ = w4
  have hr : RB w2.heap.size w4 (.slice (some ⟨g3, 0, none⟩) 16 cc3) ((((List.replicate 16 0).set 0 (IntKind.u8.wrap p0)).set 1 (IntKind.u8.wrap p1)).set 12 (IntKind.u8.wrap p2)) := by
    rw [← hW]
    exact Kd.R_drew (rb_set (rb_set (rb_set HR3.out 0 (IntKind.u8.wrap p0)) 1 (IntKind.u8.wrap p1)) 12 (IntKind.u8.wrap p2))
  simp only [IntKind.wrap_u8] at hr
  obtain ⟨L4, el⟩ : ∃ L, (((List.replicate 16 0).set 0 (p0 % 256)).set 1 (p1 % 256)).set 12 (p2 % 256) = L := ⟨_, rfl⟩
  rw [el] at hr
  have EL4 := Aside0.mk el
  clear el
  have HR4 := Aside0.mk hr
  have HQ4 := Aside0.mk (show Below w2.heap.size w2 w4 from by
    rw [← hW]
    exact (((HQ3.out.setCell (p := ⟨g3, 0, none⟩) HG3.out _).setCell (p := ⟨g3, 1, none⟩) HG3.out _).setCell (p := ⟨g3, 12, none⟩) HG3.out _).drew)
  have HL4 := Aside0.mk (show L4.length = 16 from by rw [← EL4.out]; simp)
  have HY4 := Aside0.mk (show Bytes L4 from by
    rw [← EL4.out]
    refine Bytes.set (Bytes.set (Bytes.set ?_ _ (by omega) (by omega)) _ (by omega) (by omega)) _ (by omega) (by omega)
    intro x hx
    have := List.eq_of_mem_replicate hx
    omega)
  clear hW hr HCZ HR3
  have hz_ := (HQ4.out.block w.heap.size (blk_lt HZ2.out)).trans HZ2.out; obtain ⟨k0, k1, k2, k3, k4, k5, k6, k7, k8, k9, k10, k11, k12⟩ := c13 hz_; clear hz_
  have PR := Aside0.mk (rput_calls (w0 := w2) (w := w4) 2 2 (wrap64 (wrap64 (24 + (p12.length : Int)) + (p11.length : Int))) (iz := 2) (mz := 2) HQ4.out HR4.out (by have := HL4.out; have := HN.out; omega) rfl rfl (by omega) (by have := HL4.out; have := HN.out; omega))
  go_upto_region 18 with (first | (go_at_call 41; (with_reducible refine PR.out.mono ?_); rintro e w5 ⟨rfl, hr, hq, hg⟩; obtain ⟨L5, el⟩ : ∃ L, putL L4 2 2 (wrap64 (wrap64 (24 + (p12.length : Int)) + (p11.length : Int))) = L := ⟨_, rfl⟩; rw [el] at hr; have EL5 := Aside0.mk el; clear el; have HR5 := Aside0.mk hr; have HQ5 := Aside0.mk hq; have HL5 := Aside0.mk (show L5.length = 16 from by rw [← EL5.out, putL_len]; exact HL4.out); have HY5 := Aside0.mk (show Bytes L5 from by rw [← EL5.out]; exact putL_bytes _ _ _ HY4.out); clear hr hq hg; clear k0 k1 k2 k3 k4 k5 k6 k7 k8 k9 k10 k11 k12; have hz_ := (HQ5.out.block w.heap.size (blk_lt HZ2.out)).trans HZ2.out; obtain ⟨k0, k1, k2, k3, k4, k5, k6, k7, k8, k9, k10, k11, k12⟩ := c13 hz_; clear hz_))
  clear PR
  have PR := Aside0.mk (rput_calls (w0 := w2) (w := w5) 4 4 (p3) (iz := 4) (mz := 4) HQ5.out HR5.out (by have := HL5.out; have := HN.out; omega) rfl rfl (by omega) (by have := HL5.out; have := HN.out; omega))
  go_upto_region 19 with (first | (go_at_call 41; (with_reducible refine PR.out.mono ?_); rintro e w6 ⟨rfl, hr, hq, hg⟩; obtain ⟨L6, el⟩ : ∃ L, putL L5 4 4 (p3) = L := ⟨_, rfl⟩; rw [el] at hr; have EL6 := Aside0.mk el; clear el; have HR6 := Aside0.mk hr; have HQ6 := Aside0.mk hq; have HL6 := Aside0.mk (show L6.length = 16 from by rw [← EL6.out, putL_len]; exact HL5.out); have HY6 := Aside0.mk (show Bytes L6 from by rw [← EL6.out]; exact putL_bytes _ _ _ HY5.out); clear hr hq hg; clear k0 k1 k2 k3 k4 k5 k6 k7 k8 k9 k10 k11 k12; have hz_ := (HQ6.out.block w.heap.size (blk_lt HZ2.out)).trans HZ2.out; obtain ⟨k0, k1, k2, k3, k4, k5, k6, k7, k8, k9, k10, k11, k12⟩ := c13 hz_; clear hz_))
  clear PR
  have PR := Aside0.mk (rput_calls (w0 := w2) (w := w6) 8 4 (p4) (iz := 8) (mz := 4) HQ6.out HR6.out (by have := HL6.out; have := HN.out; omega) rfl rfl (by omega) (by have := HL6.out; have := HN.out; omega))
  go_upto_region 20 with (first | (go_at_call 41; (with_reducible refine PR.out.mono ?_); rintro e w7 ⟨rfl, hr, hq, hg⟩; obtain ⟨L7, el⟩ : ∃ L, putL L6 8 4 (p4) = L := ⟨_, rfl⟩; rw [el] at hr; have EL7 := Aside0.mk el; clear el; have HR7 := Aside0.mk hr; have HQ7 := Aside0.mk hq; have HL7 := Aside0.mk (show L7.length = 16 from by rw [← EL7.out, putL_len]; exact HL6.out); have HY7 := Aside0.mk (show Bytes L7 from by rw [← EL7.out]; exact putL_bytes _ _ _ HY6.out); clear hr hq hg; clear k0 k1 k2 k3 k4 k5 k6 k7 k8 k9 k10 k11 k12; have hz_ := (HQ7.out.block w.heap.size (blk_lt HZ2.out)).trans HZ2.out; obtain ⟨k0, k1, k2, k3, k4, k5, k6, k7, k8, k9, k10, k11, k12⟩ := c13 hz_; clear hz_))
  clear PR
  have HC7 := Aside0.mk (Kd.R_reads' HR7.out)
  have OF := Aside0.mk (rof_calls (c := cc3) (n := 16) (l := L7) (w := w7) (by have h := HC7.out.2.2; rw [← HC7.out.1] at h; exact h) HL7.out HC7.out.2.1 HY7.out (by rw [HL7.out]; omega))
  have PR := Aside0.mk (fun nd_ => rput_calls (w0 := w2) (w := (w7.drewN nd_)) 14 2 (65535 - fold (pairs L7)) (iz := 14) (mz := 2) (bd HQ7.out nd_) (Kd.R_drewN HR7.out nd_) (by have := HL7.out; have := HN.out; omega) rfl rfl (by omega) (by have := HL7.out; have := HN.out; omega))
  go_upto_region 21 with (first | (go_at_call 41; (with_reducible refine (PR.out _).mono ?_); rintro e w8 ⟨rfl, hr, hq, hg⟩; obtain ⟨L8, el⟩ : ∃ L, putL L7 14 2 (65535 - fold (pairs L7)) = L := ⟨_, rfl⟩; rw [el] at hr; have EL8 := Aside0.mk el; clear el; have HR8 := Aside0.mk hr; have HQ8 := Aside0.mk hq; have HL8 := Aside0.mk (show L8.length = 16 from by rw [← EL8.out, putL_len]; exact HL7.out); have HY8 := Aside0.mk (show Bytes L8 from by rw [← EL8.out]; exact putL_bytes _ _ _ HY7.out); clear hr hq hg; clear k0 k1 k2 k3 k4 k5 k6 k7 k8 k9 k10 k11 k12; have hz_ := (HQ8.out.block w.heap.size (blk_lt HZ2.out)).trans HZ2.out; obtain ⟨k0, k1, k2, k3, k4, k5, k6, k7, k8, k9, k10, k11, k12⟩ := c13 hz_; clear hz_) | (go_at_call 23; (with_reducible refine OF.out.mono ?_); rintro e w20 ⟨rfl, ⟨⟨nd, rfl⟩⟩⟩))
  clear PR
  clear OF HC7
  have HCZ := Aside0.mk (fun W (h : Below w2.heap.size w2 W) => c13 ((h.block w.heap.size (blk_lt HZ2.out)).trans HZ2.out))
  clear k0 k1 k2 k3 k4 k5 k6 k7 k8 k9 k10 k11 k12
  refine start_ (n := 6) (S := fun w' => w'.cell? ⟨w.heap.size, 11, none⟩ = some (.slice A1 p11.length c1)) (ds := []) #[false, false, false, false, false, false] (by kernel_rfl) rfl rfl ((HCZ.out _ HQ8.out.drew).2.2.2.2.2.2.2.2.2.2.2.1) (fun hHeld => ?_)
  refine pure_ (i := 0) (N := some 148) (v := ?_) (a' := ?_) #[true, false, false, false, false, false] rfl rfl (by kernel_rfl) (fun _ _ _ h => h) (Or.inl ⟨by rfl, ?_⟩) ?_ ?_
  rotate_left
  · intro w'
    go_simp
    with_reducible rfl
  rotate_left
  · simp only [Act.put, List.setIfInBounds_toArray, List.set_cons_zero, List.set_cons_succ, i64_w, i32_w]
    rfl
  refine pure_ (i := 2) (N := some 150) (v := ?_) (a' := ?_) #[true, false, true, false, false, false] rfl rfl (by kernel_rfl) (fun _ _ _ h => h) (Or.inl ⟨by rfl, ?_⟩) ?_ ?_
  rotate_left
  · intro w'
    go_simp
    with_reducible rfl
  rotate_left
  · simp only [Act.put, List.setIfInBounds_toArray, List.set_cons_zero, List.set_cons_succ, i64_w, i32_w]
    rfl
  refine take_ (i := 3) (N := some 151) (v := ?_) (a' := ?_) #[true, false, true, true, false, false] rfl rfl (by kernel_rfl) (fun _ _ _ h => h) (Or.inl ⟨by rfl, ?_⟩) hHeld ?_ ?_
  rotate_left
  · intro w' s0
    go_simp
    with_reducible rfl
  rotate_left
  · simp only [Act.put, List.setIfInBounds_toArray, List.set_cons_zero, List.set_cons_succ, i64_w, i32_w]
    rfl
  refine one_ (i := 1) (N := some 149) #[true, true, true, true, false, false] rfl rfl (by kernel_rfl) (by decide) (fun K hK => ?_)
  refine Kd.R_append_zeros_step (Kd.int .u8) (w0 := w2) w2.heap.size (by rfl) (.tmp 148) (.const (.int .i64 8)) 23 3 5 (.int .u8 0) 1 rfl Try.underlying23 Try.underlying3 info5 rfl (by decide) (by decide) (.slice (some ⟨g3, 0, none⟩) (16) cc3) L8 (0 : Int) 8 (fun _ => True) rfl rfl rfl (fun _ _ => trivial) (Kd.R_drew HR8.out) (by decide) HQ8.out.drew HQ8.out.drew.size (by have := HL8.out; omega) ?_
  intro v9 w9 ho hb hg hat
  obtain ⟨L9, el⟩ : ∃ L, L8 ++ List.replicate (Int.toNat 8) 0 = L := ⟨_, rfl⟩
  rw [el] at ho
  have EL9 := Aside0.mk el
  have HL9 := Aside0.mk (show L9.length = 24 from by rw [← el]; simp only [List.length_append, List.length_replicate, List.length_cons, List.length_nil]; have := HL8.out; have := HN.out; omega)
  have HY9 := Aside0.mk (show Bytes L9 from by rw [← el]; exact HY8.out.app (fun x hx => by have := List.eq_of_mem_replicate hx; omega))
  clear el
  obtain ⟨g9, cc9, ev, hgb⟩ := rb_form ho (by rw [HL9.out]; have := HN.out; omega)
  rw [HL9.out] at ev
  subst ev
  have HG9 := Aside0.mk hgb
  have HR9 := Aside0.mk ho
  have HQ9 := Aside0.mk hb
  clear ho hb hg hat hgb
  refine hK.out _ _ ((HCZ.out _ HQ9.out).2.2.2.2.2.2.2.2.2.2.2.1) (fun hHeld => ?_)
  clear hK K
  refine norm_ (a' := ?_) ?_ ?_
  rotate_left
  · show Act.put _ (some 149) _ = _
    simp only [Act.put, List.setIfInBounds_toArray, List.set_cons_zero, List.set_cons_succ, i64_w, i32_w]
    rfl
  refine one_ (i := 4) (N := some 152) #[true, true, true, true, true, false] rfl rfl (by kernel_rfl) (by decide) (fun K hK => ?_)
  refine Kd.R_append_rows_step (Kd.int .u8) (w0 := w2) w2.heap.size (by rfl) (.tmp 149) (.tmp 151) 23 5 (.int .u8 0) 1 rfl Try.underlying23 info5 rfl (by decide) (by omega) (.slice (some ⟨g9, 0, none⟩) (24) cc9) L9 p11 A1 p11.length c1 (fun _ => True) (fun _ => False) rfl rfl HR9.out (Kd.C_below HA.out (below_step HB2.out HQ9.out)) (fun _ _ h => h) (fun _ h => h.elim) (fun _ _ => trivial) HQ9.out HQ9.out.size (by have := HL9.out; have := HN.out; have := HLIM.out; omega) ?_
  intro v10 w10 ho hb hg hat
  obtain ⟨L10, el⟩ : ∃ L, L9 ++ p11 = L := ⟨_, rfl⟩
  rw [el] at ho
  have EL10 := Aside0.mk el
  have HL10 := Aside0.mk (show L10.length = 24 + p11.length from by rw [← el]; simp only [List.length_append, List.length_replicate, List.length_cons, List.length_nil]; have := HL9.out; have := HN.out; omega)
  have HY10 := Aside0.mk (show Bytes L10 from by rw [← el]; exact HY9.out.app HYA.out)
  clear el
  obtain ⟨g10, cc10, ev, hgb⟩ := rb_form ho (by rw [HL10.out]; have := HN.out; omega)
  rw [HL10.out] at ev
  subst ev
  have HG10 := Aside0.mk hgb
  have HR10 := Aside0.mk ho
  have HQ10 := Aside0.mk hb
  clear ho hb hg hat hgb
  refine hK.out _ _ ((HCZ.out _ HQ10.out).2.2.2.2.2.2.2.2.2.2.2.1) (fun hHeld => ?_)
  clear hK K
  refine norm_ (a' := ?_) ?_ ?_
  rotate_left
  · show Act.put _ (some 152) _ = _
    simp only [Act.put, List.setIfInBounds_toArray, List.set_cons_zero, List.set_cons_succ, i64_w, i32_w]
    rfl
  refine pure_ (i := 5) (N := some 8) (v := ?_) (a' := ?_) #[true, true, true, true, true, true] rfl rfl (by kernel_rfl) (fun _ _ _ h => h) (Or.inl ⟨by rfl, ?_⟩) ?_ ?_
  rotate_left
  · intro w'
    go_simp
    with_reducible rfl
  rotate_left
  · simp only [Act.put, List.setIfInBounds_toArray, List.set_cons_zero, List.set_cons_succ, i64_w, i32_w]
    rfl
  refine done_ (by kernel_rfl) ?_
  clear hHeld
  have hz_ := (HQ10.out.block w.heap.size (blk_lt HZ2.out)).trans HZ2.out; obtain ⟨k0, k1, k2, k3, k4, k5, k6, k7, k8, k9, k10, k11, k12⟩ := c13 hz_; clear hz_
  go_upto_region 22 with fail
  clear k0 k1 k2 k3 k4 k5 k6 k7 k8 k9 k10 k11 k12
  have r20 := rb_cell HR10.out 20 (by omega)
  have r21 := rb_cell HR10.out 21 (by omega)
  have s20 := rb_frozen HR10.out 20
  have s21 := rb_frozen HR10.out 21
  have hn20 : (20 : Int) < 24 + (p11.length : Int) := by omega
  have hn21 : (21 : Int) < 24 + (p11.length : Int) := by omega
  have hn20' : 20 < 24 + p11.length := by omega
  have hn21' : 21 < 24 + p11.length := by omega
  refine start_ (n := 13) (S := fun w' => w'.cell? ⟨w.heap.size, 7, none⟩ = some (.int .i64 p7) ∧ w'.cell? ⟨w.heap.size, 11, none⟩ = some (.slice A1 p11.length c1)) (ds := []) #[false, false, false, false, false, false, false, false, false, false, false, false, false] (by kernel_rfl) rfl rfl ⟨(HCZ.out _ HQ10.out.drew).2.2.2.2.2.2.2.1, (HCZ.out _ HQ10.out.drew).2.2.2.2.2.2.2.2.2.2.2.1⟩ (fun hHeld => ?_)
  refine pure_ (i := 0) (N := some 153) (v := ?_) (a' := ?_) #[true, false, false, false, false, false, false, false, false, false, false, false, false] rfl rfl (by kernel_rfl) (fun _ _ _ h => h) (Or.inl ⟨by rfl, ?_⟩) ?_ ?_
  rotate_left
  · intro w'
    go_simp
    with_reducible rfl
  rotate_left
  · simp only [Act.put, List.setIfInBounds_toArray, List.set_cons_zero, List.set_cons_succ, i64_w, i32_w]
    rfl
  refine pure_ (i := 1) (N := some 154) (v := ?_) (a' := ?_) #[true, true, false, false, false, false, false, false, false, false, false, false, false] rfl rfl (by kernel_rfl) (fun _ _ _ h => h) (Or.inl ⟨by rfl, ?_⟩) ?_ ?_
  rotate_left
  · intro w'
    go_simp
    with_reducible rfl
  rotate_left
  · simp only [Act.put, List.setIfInBounds_toArray, List.set_cons_zero, List.set_cons_succ, i64_w, i32_w]
    rfl
  refine pure_ (i := 2) (N := some 155) (v := ?_) (a' := ?_) #[true, true, true, false, false, false, false, false, false, false, false, false, false] rfl rfl (by kernel_rfl) (fun _ _ _ h => h) (Or.inl ⟨by rfl, ?_⟩) ?_ ?_
  rotate_left
  · intro w'
    go_simp
    with_reducible rfl
  rotate_left
  · simp only [Act.put, List.setIfInBounds_toArray, List.set_cons_zero, List.set_cons_succ, i64_w, i32_w]
    rfl
  refine pure_ (i := 5) (N := some 158) (v := ?_) (a' := ?_) #[true, true, true, false, false, true, false, false, false, false, false, false, false] rfl rfl (by kernel_rfl) (fun _ _ _ h => h) (Or.inl ⟨by rfl, ?_⟩) ?_ ?_
  rotate_left
  · intro w'
    go_simp
    with_reducible rfl
  rotate_left
  · simp only [Act.put, List.setIfInBounds_toArray, List.set_cons_zero, List.set_cons_succ, i64_w, i32_w]
    rfl
  refine take_ (i := 3) (N := some 156) (v := ?_) (a' := ?_) #[true, true, true, true, false, true, false, false, false, false, false, false, false] rfl rfl (by kernel_rfl) (fun _ _ _ h => h) (Or.inl ⟨by rfl, ?_⟩) hHeld ?_ ?_
  rotate_left
  · rintro w' ⟨s0, s1⟩
    go_simp
    with_reducible rfl
  rotate_left
  · simp only [Act.put, List.setIfInBounds_toArray, List.set_cons_zero, List.set_cons_succ, i64_w, i32_w]
    rfl
  refine pure_ (i := 4) (N := some 157) (v := ?_) (a' := ?_) #[true, true, true, true, true, true, false, false, false, false, false, false, false] rfl rfl (by kernel_rfl) (fun _ _ _ h => h) (Or.inl ⟨by rfl, ?_⟩) ?_ ?_
  rotate_left
  · intro w'
    go_simp
    with_reducible rfl
  rotate_left
  · simp only [Act.put, List.setIfInBounds_toArray, List.set_cons_zero, List.set_cons_succ, i64_w, i32_w]
    rfl
  refine pure_ (i := 9) (N := some 162) (v := ?_) (a' := ?_) #[true, true, true, true, true, true, false, false, false, true, false, false, false] rfl rfl (by kernel_rfl) (fun _ _ _ h => h) (Or.inl ⟨by rfl, ?_⟩) ?_ ?_
  rotate_left
  · intro w'
    go_simp
    with_reducible rfl
  rotate_left
  · simp only [Act.put, List.setIfInBounds_toArray, List.set_cons_zero, List.set_cons_succ, i64_w, i32_w]
    rfl
  refine take_ (i := 6) (N := some 159) (v := ?_) (a' := ?_) #[true, true, true, true, true, true, true, false, false, true, false, false, false] rfl rfl (by kernel_rfl) (fun _ _ _ h => h) (Or.inl ⟨by rfl, ?_⟩) hHeld ?_ ?_
  rotate_left
  · rintro w' ⟨s0, s1⟩
    go_simp
    with_reducible rfl
  rotate_left
  · simp only [Act.put, List.setIfInBounds_toArray, List.set_cons_zero, List.set_cons_succ, i64_w, i32_w]
    rfl
  refine pure_ (i := 7) (N := some 160) (v := ?_) (a' := ?_) #[true, true, true, true, true, true, true, true, false, true, false, false, false] rfl rfl (by kernel_rfl) (fun _ _ _ h => h) (Or.inl ⟨by rfl, ?_⟩) ?_ ?_
  rotate_left
  · intro w'
    go_simp
    with_reducible rfl
  rotate_left
  · simp only [Act.put, List.setIfInBounds_toArray, List.set_cons_zero, List.set_cons_succ, i64_w, i32_w]
    rfl
  refine pure_ (i := 8) (N := some 161) (v := ?_) (a' := ?_) #[true, true, true, true, true, true, true, true, true, true, false, false, false] rfl rfl (by kernel_rfl) (fun _ _ _ h => h) (Or.inl ⟨by rfl, ?_⟩) ?_ ?_
  rotate_left
  · intro w'
    go_simp
    with_reducible rfl
  rotate_left
  · simp only [Act.put, List.setIfInBounds_toArray, List.set_cons_zero, List.set_cons_succ, i64_w, i32_w]
    rfl
  refine one_ (i := 10) (N := none) #[true, true, true, true, true, true, true, true, true, true, true, false, false] rfl rfl (by kernel_rfl) (by decide) (fun K hK => ?_)
  refine skip_ (w1 := ?_) (by rfl) rfl ?_ ?_
  rotate_left
  · go_simp
    rfl
  refine hK.out _ _ ⟨(HCZ.out _ (HQ10.out.drew.setCell (p := ⟨g10, 20, none⟩) HG10.out _)).2.2.2.2.2.2.2.1, (HCZ.out _ (HQ10.out.drew.setCell (p := ⟨g10, 20, none⟩) HG10.out _)).2.2.2.2.2.2.2.2.2.2.2.1⟩ (fun hHeld => ?_)
  clear hK K
  refine pure_ (i := 11) (N := some 163) (v := ?_) (a' := ?_) #[true, true, true, true, true, true, true, true, true, true, true, true, false] rfl rfl (by kernel_rfl) (fun _ _ _ h => h) (Or.inl ⟨by rfl, ?_⟩) ?_ ?_
  rotate_left
  · intro w'
    go_simp
    with_reducible rfl
  rotate_left
  · simp only [Act.put, List.setIfInBounds_toArray, List.set_cons_zero, List.set_cons_succ, i64_w, i32_w]
    rfl
  refine one_ (i := 12) (N := none) #[true, true, true, true, true, true, true, true, true, true, true, true, true] rfl rfl (by kernel_rfl) (by decide) (fun K hK => ?_)
  refine skip_ (w1 := ?_) (by rfl) rfl ?_ ?_
  rotate_left
  · go_simp
    rfl
  refine hK.out _ _ ⟨(HCZ.out _ ((HQ10.out.drew.setCell (p := ⟨g10, 20, none⟩) HG10.out _).setCell (p := ⟨g10, 21, none⟩) HG10.out _)).2.2.2.2.2.2.2.1, (HCZ.out _ ((HQ10.out.drew.setCell (p := ⟨g10, 20, none⟩) HG10.out _).setCell (p := ⟨g10, 21, none⟩) HG10.out _)).2.2.2.2.2.2.2.2.2.2.2.1⟩ (fun hHeld => ?_)
  clear hK K
  refine done_ (by kernel_rfl) ?_
  clear r20 r21 s20 s21 hHeld HCZ
  generalize hW : World.drew _ = w11
  have hr : RB w2.heap.size w11 (.slice (some ⟨g10, 0, none⟩) (24 + p11.length) cc10) ((L10.set 20 (IntKind.u8.wrap p7)).set 21 (IntKind.u8.wrap (p11.length : Int))) := by
    rw [← hW]
    exact Kd.R_drew (rb_set (rb_set HR10.out 20 (IntKind.u8.wrap p7)) 21 (IntKind.u8.wrap (p11.length : Int)))
  simp only [IntKind.wrap_u8] at hr
  obtain ⟨L11, el⟩ : ∃ L, (L10.set 20 (p7 % 256)).set 21 ((p11.length : Int) % 256) = L := ⟨_, rfl⟩
  rw [el] at hr
  have EL11 := Aside0.mk el
  clear el
  have HR11 := Aside0.mk hr
  have HQ11 := Aside0.mk (show Below w2.heap.size w2 w11 from by
    rw [← hW]
    exact ((HQ10.out.setCell (p := ⟨g10, 20, none⟩) HG10.out _).setCell (p := ⟨g10, 21, none⟩) HG10.out _).drew)
  have HL11 := Aside0.mk (show L11.length = 24 + p11.length from by rw [← EL11.out]; simp only [List.length_set]; exact HL10.out)
  have HY11 := Aside0.mk (show Bytes L11 from by rw [← EL11.out]; exact Bytes.set (Bytes.set HY10.out _ (by omega) (by omega)) _ (by omega) (by omega))
  clear hW hr
  have hz_ := (HQ11.out.block w.heap.size (blk_lt HZ2.out)).trans HZ2.out; obtain ⟨k0, k1, k2, k3, k4, k5, k6, k7, k8, k9, k10, k11, k12⟩ := c13 hz_; clear hz_
  go_upto_region 29 with fail
  have PR := Aside0.mk (rput_calls (w0 := w2) (w := w11) 16 2 (p5) (iz := 16) (mz := 2) HQ11.out HR11.out (by have := HL11.out; have := HN.out; omega) rfl rfl (by omega) (by have := HL11.out; have := HN.out; omega))
  go_upto_region 30 with (first | (go_at_call 41; (with_reducible refine PR.out.mono ?_); rintro e w12 ⟨rfl, hr, hq, hg⟩; obtain ⟨L12, el⟩ : ∃ L, putL L11 16 2 (p5) = L := ⟨_, rfl⟩; rw [el] at hr; have EL12 := Aside0.mk el; clear el; have HR12 := Aside0.mk hr; have HQ12 := Aside0.mk hq; have HL12 := Aside0.mk (show L12.length = 24 + p11.length from by rw [← EL12.out, putL_len]; exact HL11.out); have HY12 := Aside0.mk (show Bytes L12 from by rw [← EL12.out]; exact putL_bytes _ _ _ HY11.out); clear hr hq hg; clear k0 k1 k2 k3 k4 k5 k6 k7 k8 k9 k10 k11 k12; have hz_ := (HQ12.out.block w.heap.size (blk_lt HZ2.out)).trans HZ2.out; obtain ⟨k0, k1, k2, k3, k4, k5, k6, k7, k8, k9, k10, k11, k12⟩ := c13 hz_; clear hz_))
  clear PR
  have PR := Aside0.mk (rput_calls (w0 := w2) (w := w12) 18 2 (p6) (iz := 18) (mz := 2) HQ12.out HR12.out (by have := HL12.out; have := HN.out; omega) rfl rfl (by omega) (by have := HL12.out; have := HN.out; omega))
  go_upto_region 31 with (first | (go_at_call 41; (with_reducible refine PR.out.mono ?_); rintro e w13 ⟨rfl, hr, hq, hg⟩; obtain ⟨L13, el⟩ : ∃ L, putL L12 18 2 (p6) = L := ⟨_, rfl⟩; rw [el] at hr; have EL13 := Aside0.mk el; clear el; have HR13 := Aside0.mk hr; have HQ13 := Aside0.mk hq; have HL13 := Aside0.mk (show L13.length = 24 + p11.length from by rw [← EL13.out, putL_len]; exact HL12.out); have HY13 := Aside0.mk (show Bytes L13 from by rw [← EL13.out]; exact putL_bytes _ _ _ HY12.out); clear hr hq hg; clear k0 k1 k2 k3 k4 k5 k6 k7 k8 k9 k10 k11 k12; have hz_ := (HQ13.out.block w.heap.size (blk_lt HZ2.out)).trans HZ2.out; obtain ⟨k0, k1, k2, k3, k4, k5, k6, k7, k8, k9, k10, k11, k12⟩ := c13 hz_; clear hz_))
  clear PR
  go_upto_region 32 with (first | ((with_reducible refine gate_builtin (b := .append) (xs := #[.tmp 190, .tmp 192]) rfl ?_); at_builtin; refine Kd.R_append_rows (Kd.int .u8) (w0 := w2) w2.heap.size rfl (.tmp 190) (.tmp 192) 23 5 (.int .u8 0) 1 rfl Try.underlying23 info5 rfl (by decide) (by omega) (.slice (some ⟨g10, 0, none⟩) (24 + p11.length) cc10) L13 p12 A2 p12.length c2 (fun _ => True) (fun _ => False) rfl rfl HR13.out (Kd.C_below HD.out (below_step HB2.out HQ13.out)) (fun _ _ h => h) (fun _ h => h.elim) (fun _ _ => trivial) HQ13.out HQ13.out.size (by have := HL13.out; have := HN.out; have := HLIM.out; omega) ?_; intro v14 w14 ho hb hg hat; obtain ⟨L14, el⟩ : ∃ L, L13 ++ p12 = L := ⟨_, rfl⟩; rw [el] at ho; have EL14 := Aside0.mk el; have HL14 := Aside0.mk (show L14.length = n from by rw [← el]; simp only [List.length_append, List.length_replicate, List.length_cons, List.length_nil]; have := HL13.out; have := HN.out; omega); have HY14 := Aside0.mk (show Bytes L14 from by rw [← el]; exact HY13.out.app HYD.out); clear el; obtain ⟨g14, cc14, ev, hgb⟩ := rb_form ho (by rw [HL14.out]; have := HN.out; omega); rw [HL14.out] at ev; subst ev; have HG14 := Aside0.mk hgb; have HR14 := Aside0.mk ho; have HQ14 := Aside0.mk hb; clear ho hb hg hat hgb; clear k0 k1 k2 k3 k4 k5 k6 k7 k8 k9 k10 k11 k12; have hz_ := (HQ14.out.block w.heap.size (blk_lt HZ2.out)).trans HZ2.out; obtain ⟨k0, k1, k2, k3, k4, k5, k6, k7, k8, k9, k10, k11, k12⟩ := c13 hz_; clear hz_))
  have HC14 := Aside0.mk (Kd.R_reads' HR14.out)
  have SF := Aside0.mk (rsummed_calls (c := cc14) (n := n) (l := L14) (w := w14) (by have h := HC14.out.2.2; rw [← HC14.out.1] at h; exact h) HL14.out HC14.out.2.1 (by have := HL14.out; have := HN.out; omega) (by have := HL14.out; have := HN.out; omega))
  have HSO := Aside0.mk (summed_ok HY14.out (by have := HL14.out; have := HN.out; omega) (by have := HL14.out; have := HN.out; omega))
  go_upto_region 33 with (first
    | (go_at_call 42; (with_reducible refine SF.out.mono ?_); rintro e w15 ⟨v, rfl, ho, hb⟩; obtain ⟨Av, cv, ev⟩ := Kd.R_slice ho; subst ev; have HR15 := Aside0.mk (Kd.R_below HR14.out hb); have HQ15 := Aside0.mk (below_step HQ14.out hb); have HRD := Aside0.mk (Kd.R_reads' ho); have OF := Aside0.mk (rof_calls HRD.out.2.2 rfl HRD.out.2.1 HSO.out.2 (by have := HSO.out.1; omega)); clear ho hb; clear k0 k1 k2 k3 k4 k5 k6 k7 k8 k9 k10 k11 k12; have hz_ := (HQ15.out.block w.heap.size (blk_lt HZ2.out)).trans HZ2.out; obtain ⟨k0, k1, k2, k3, k4, k5, k6, k7, k8, k9, k10, k11, k12⟩ := c13 hz_; clear hz_)
    | (go_at_call 23; (with_reducible refine OF.out.mono ?_); rintro e w30 ⟨rfl, ⟨⟨nd2, rfl⟩⟩⟩))
  have HR15' := Aside0.mk (Kd.R_drewN HR15.out nd2)
  have HQ15' := Aside0.mk (bd HQ15.out nd2)
  generalize w15.drewN nd2 = w40 at HR15' HQ15' ⊢
  clear SF OF HRD HR15 HQ15 k0 k1 k2 k3 k4 k5 k6 k7 k8 k9 k10 k11 k12
  have hz_ := (HQ15'.out.block w.heap.size (blk_lt HZ2.out)).trans HZ2.out
  obtain ⟨k0, k1, k2, k3, k4, k5, k6, k7, k8, k9, k10, k11, k12⟩ := c13 hz_
  clear hz_
  have G43 := Aside0.mk (fun W => roundhouseref3_place.calls p0 22 W (by unfold roundhouseref3_place.f; have := HK.out; rw [if_neg (by omega)]))
  have PR := Aside0.mk (fun nd_ => rput_calls (w0 := w2) (w := w40.drewN nd_) 22 2 (65535 - fold (pairs (summedL L14))) (iz := 22) (mz := 2) (bd HQ15'.out nd_) (Kd.R_drewN HR15'.out nd_) (by have := HL14.out; have := HN.out; omega) rfl rfl (by omega) (by have := HL14.out; have := HN.out; have := HLIM.out; have := HK.out; omega))
  go_wp2_with (first
    | (go_at_call 43; (with_reducible refine (G43.out _).mono ?_); rintro e w41 ⟨rfl, ⟨⟨nd3, rfl⟩⟩⟩)
    | (go_at_call 41; (with_reducible refine (PR.out _).mono ?_); rintro e w42 ⟨rfl, hr, hq, hg⟩; have HRX := Aside0.mk hr; have HQX := Aside0.mk hq; clear hr hq hg))
  go_ret2
  refine ⟨_, rfl, ?_, below_step HB2.out HQX.out⟩
  have hb : L14 = rbodyL ⟨p0, p1, p2, p3, p4, p5, p6, p7, p8, p9, p10, p11, p12⟩ := by
    rw [← EL14.out, ← EL13.out, ← EL12.out, ← EL11.out, ← EL10.out, ← EL9.out, ← EL8.out, ← EL7.out, ← EL6.out, ← EL5.out, ← EL4.out]
    unfold rbodyL h4R h3R
    simp only [HNL.out, HNN.out, Int.reduceToNat]
    rw [if_neg (show ¬ p0 = 3 by have := HK.out; omega), if_neg (show ¬ p0 = 2 by have := HK.out; omega)]
  unfold rbuildL
  rw [← hb]
  simp only []
  rw [if_neg (show ¬ p0 = 3 by have := HK.out; omega)]
  rw [show sumL p0 p9 L14 = 65535 - fold (pairs (summedL L14)) from by unfold sumL; rw [if_neg (fun h => by have := HK.out; omega), if_neg (fun h => by have := HK.out; omega)]]
  exact Kd.R_lower HRX.out HB2.out.size
end Go.Proofs.Ytbjhmifhmojaoaa.WB

namespace Go.Proofs.Ytbjhmifhmojaoaa.WB
set_option linter.unusedVariables false
set_option linter.unusedSimpArgs false
open Go.RowKit Go.Proofs.Ytbjhmifhmojaoaa.Hp Go.Proofs.Ytbjhmifhmojaoaa.SB Go.Proofs.YtbjhmifhmojaoaaW.PrintWords Go.Proofs.YtbjhmifhmojaoaaW.PrintLast Go.Proofs.YtbjhmifhmojaoaaW.PrintMore

theorem putL_set (i : Nat) (a : Nat) (x : Int) : ∀ (m : Nat) (l : List Int) (v : Int), (a < i ∨ i + m ≤ a) → putL (l.set a x) i m v = (putL l i m v).set a x
  | 0, _, _, _ => rfl
  | m + 1, l, v, h => by
    rw [putL, putL, List.set_comm _ _ (show a ≠ i + m by omega)]
    exact putL_set i a x m _ _ (by omega)
theorem putL_comm (i j k : Nat) (u : Int) : ∀ (m : Nat) (l : List Int) (v : Int), (i + m ≤ j ∨ j + k ≤ i) → putL (putL l i m v) j k u = putL (putL l j k u) i m v
  | 0, _, _, _ => rfl
  | m + 1, l, v, h => by
    rw [putL, putL, putL_comm i j k u m _ _ (by omega), putL_set j _ _ k _ _ (by omega)]
theorem body_eq {p : Pk} (hk : 1 ≤ p.kind ∧ p.kind ≤ 3) : rbodyL p = bodyL p := by
  obtain ⟨p0, p1, p2, p3, p4, p5, p6, p7, p8, p9, p10, p11, p12⟩ := p
  dsimp only at hk
  unfold rbodyL bodyL
  dsimp only
  have hkk : p0 = 1 ∨ p0 = 2 ∨ p0 = 3 := by omega
  rcases hkk with rfl | rfl | rfl
  · have hn : nL ⟨1, p1, p2, p3, p4, p5, p6, p7, p8, p9, p10, p11, p12⟩ = 24 + p12.length + p11.length := rfl
    rw [hn, h4L_app _ (by omega), if_neg (by decide), if_neg (by decide), if_neg (by decide), if_neg (by decide)]
    have hH := h4R_len (24 + p12.length + p11.length) 1 p1 p2 p3 p4
    generalize h4R (24 + p12.length + p11.length) 1 p1 p2 p3 p4 = H at hH ⊢
    obtain ⟨X, hX⟩ : ∃ X, H ++ List.replicate 8 (0 : Int) = X := ⟨_, rfl⟩
    have hXl : X.length = 24 := by rw [← hX]; simp [hH]
    have e1 : H ++ List.replicate (24 + p12.length + p11.length - 16) (0 : Int) = X ++ (List.replicate p11.length 0 ++ List.replicate p12.length 0) := by
      rw [← hX, List.append_assoc, List.replicate_append_replicate, List.replicate_append_replicate]; congr 2; omega
    rw [e1, hX, show 24 + p12.length + p11.length - p12.length = 24 + p11.length by omega]
    obtain ⟨Y, hY⟩ : ∃ Y, ((putL (putL X 16 2 p5) 18 2 p6).set 20 (p7 % 256)).set 21 ((p11.length : Int) % 256) = Y := ⟨_, rfl⟩
    have hYl : Y.length = 24 := by rw [← hY, List.length_set, List.length_set, putL_len, putL_len, hXl]
    have r : putL (putL (((X ++ p11).set 20 (p7 % 256)).set 21 ((p11.length : Int) % 256)) 16 2 p5) 18 2 p6 = Y ++ p11 := by
      rw [List.set_append_left _ _ (by omega), List.set_append_left _ _ (by rw [List.length_set]; omega), putL_app _ _ _ _ _ (by rw [List.length_set, List.length_set]; omega), putL_app _ _ _ _ _ (by rw [putL_len, List.length_set, List.length_set]; omega),
        putL_set _ _ _ _ _ _ (by omega), putL_set _ _ _ _ _ _ (by omega), putL_set _ _ _ _ _ _ (by omega), putL_set _ _ _ _ _ _ (by omega), hY]
    have q : ((putL (putL (X ++ (List.replicate p11.length 0 ++ List.replicate p12.length 0)) 16 2 p5) 18 2 p6).set 20 (p7 % 256)).set 21 ((p11.length : Int) % 256) = Y ++ (List.replicate p11.length 0 ++ List.replicate p12.length 0) := by
      rw [putL_app _ _ _ _ _ (by omega), putL_app _ _ _ _ _ (by rw [putL_len]; omega), List.set_append_left _ _ (by rw [putL_len, putL_len]; omega), List.set_append_left _ _ (by rw [List.length_set, putL_len, putL_len]; omega), hY]
    rw [r, q]
    have s1 : splice (Y ++ (List.replicate p11.length 0 ++ List.replicate p12.length 0)) 24 p11 = (Y ++ p11) ++ List.replicate p12.length 0 := by
      unfold splice
      rw [List.take_left' hYl, show 24 + p11.length = Y.length + p11.length by omega, ← List.drop_drop, List.drop_left, List.drop_left' (by simp), List.append_assoc]
    rw [s1, splice_end (by rw [List.length_append]; omega) (by simp)]
  · have hn : nL ⟨2, p1, p2, p3, p4, p5, p6, p7, p8, p9, p10, p11, p12⟩ = 24 + p12.length := rfl
    rw [hn, h4L_app _ (by omega), if_neg (by decide), if_pos rfl, if_neg (by decide), if_pos rfl]
    have hH := h4R_len (24 + p12.length) 2 p1 p2 p3 p4
    generalize h4R (24 + p12.length) 2 p1 p2 p3 p4 = H at hH ⊢
    obtain ⟨X, hX⟩ : ∃ X, H ++ List.replicate 8 (0 : Int) = X := ⟨_, rfl⟩
    have hXl : X.length = 24 := by rw [← hX]; simp [hH]
    have e1 : H ++ List.replicate (24 + p12.length - 16) (0 : Int) = X ++ List.replicate p12.length 0 := by
      rw [← hX, List.append_assoc, List.replicate_append_replicate]; congr 2; omega
    rw [e1, hX, show 24 + p12.length - p12.length = 24 by omega, putL_app _ _ _ _ _ (by omega), putL_app _ _ _ _ _ (by rw [putL_len]; omega), putL_app _ _ _ _ _ (by rw [putL_len, putL_len]; omega), splice_end (by rw [putL_len, putL_len, putL_len]; exact hXl) (by simp)]
    rw [putL_comm 20 16 2 _ _ _ _ (by omega), putL_comm 20 18 2 _ _ _ _ (by omega)]
  · have hn : nL ⟨3, p1, p2, p3, p4, p5, p6, p7, p8, p9, p10, p11, p12⟩ = 20 + p12.length := rfl
    rw [hn, h4L_app _ (by omega), if_pos rfl, if_pos rfl]
    have hH := h4R_len (20 + p12.length) 3 p1 p2 p3 p4
    generalize h4R (20 + p12.length) 3 p1 p2 p3 p4 = H at hH ⊢
    have e1 : (H ++ List.replicate (20 + p12.length - 16) (0 : Int)).set 16 (p10 % 256) = (H ++ [p10 % 256, 0, 0, 0]) ++ List.replicate p12.length 0 := by
      rw [List.set_append_right _ _ (by omega), hH, show 20 + p12.length - 16 = 4 + p12.length by omega, ← List.replicate_append_replicate]
      simp [List.replicate]
    rw [e1, show 20 + p12.length - p12.length = 20 by omega, splice_end (by simp [hH]) (by simp)]
theorem rbuildL_eq {p : Pk} (hk : 1 ≤ p.kind ∧ p.kind ≤ 3) : rbuildL p = buildL p := by
  unfold rbuildL buildL
  rw [body_eq hk]
theorem rbuild_calls {p : Pk} {A1 A2 : Option Addr} {c1 c2 : Nat} {w : World} (ha : Kd.C (Kd.int .u8) w A1 p.opts.length p.opts) (hca : p.opts.length ≤ c1) (hd : Kd.C (Kd.int .u8) w A2 p.data.length p.data) (hcd : p.data.length ≤ c2) (hba : Bytes p.opts) (hbd : Bytes p.data) (he : buildE p = 0) :
    Calls Try.prog 18 #[pkV p (.slice A1 p.opts.length c1) (.slice A2 p.data.length c2)] w (Built w p) := by
  have hk : 1 ≤ p.kind ∧ p.kind ≤ 3 := by
    by_cases hk : 1 ≤ p.kind ∧ p.kind ≤ 3
    · exact hk
    · unfold buildE at he; rw [if_pos hk] at he; cases he
  have heq := rbuildL_eq hk
  obtain ⟨p0, p1, p2, p3, p4, p5, p6, p7, p8, p9, p10, p11, p12⟩ := p
  dsimp only at ha hca hd hcd hba hbd hk
  have hkk : p0 = 1 ∨ p0 = 2 ∨ p0 = 3 := by omega
  rcases hkk with h | h | h
  · exact (rbuild_stream ha hca hd hcd hba hbd h he).mono fun _ _ h => built_ok he (by rw [heq] at h; exact h)
  · exact (rbuild_gram ha hca hd hcd hba hbd h he).mono fun _ _ h => built_ok he (by rw [heq] at h; exact h)
  · exact (rbuild_fault ha hca hd hcd hba hbd h he).mono fun _ _ h => built_ok he (by rw [heq] at h; exact h)
end Go.Proofs.Ytbjhmifhmojaoaa.WB

namespace Go.Proofs.Ytbjhmifhmojaoaa.WB
set_option linter.unusedVariables false
set_option linter.unusedSimpArgs false
open Go.RowKit Go.Proofs.Ytbjhmifhmojaoaa.Hp Go.Proofs.Ytbjhmifhmojaoaa.SB Go.Proofs.YtbjhmifhmojaoaaW.PrintWords Go.Proofs.YtbjhmifhmojaoaaW.PrintLast Go.Proofs.YtbjhmifhmojaoaaW.PrintMore

set_option maxHeartbeats 4000000 in
set_option maxRecDepth 100000 in
theorem same_calls {A1 A2 B1 B2 : Option Addr} {c1 c2 d1 d2 : Nat} {p0 p1 p2 p3 p4 p5 p6 p7 p8 : Int} {p9 : Bool} {p10 : Int} {p11 p12 : List Int} {w : World} (h1 : Kd.C (Kd.int .u8) w A1 p11.length p11) (h2 : Kd.C (Kd.int .u8) w A2 p12.length p12) (h3 : Kd.C (Kd.int .u8) w B1 p11.length p11) (h4 : Kd.C (Kd.int .u8) w B2 p12.length p12) :
    Calls Try.prog 20 #[.agg #[.int .i64 p0, .int .i64 p1, .int .i64 p2, .int .i64 p3, .int .i64 p4, .int .i64 p5, .int .i64 p6, .int .i64 p7, .int .i64 p8, .bool p9, .int .i64 p10, .slice A1 p11.length c1, .slice A2 p12.length c2], .agg #[.int .i64 p0, .int .i64 p1, .int .i64 p2, .int .i64 p3, .int .i64 p4, .int .i64 p5, .int .i64 p6, .int .i64 p7, .int .i64 p8, .bool p9, .int .i64 p10, .slice B1 p11.length d1, .slice B2 p12.length d2]] w fun e w' => e = .returned (.bool true) ∧ Below w.heap.size w w' := by
  have H1 := Aside0.mk h1
  have H2 := Aside0.mk h2
  have H3 := Aside0.mk h3
  have H4 := Aside0.mk h4
  clear h1 h2 h3 h4
  go_enter Try.func20, Try.ntmps20
  go_upto_region 1 with fail
  have n1 := new_blk w (.cells #[.int .i64 p0, .int .i64 p1, .int .i64 p2, .int .i64 p3, .int .i64 p4, .int .i64 p5, .int .i64 p6, .int .i64 p7, .int .i64 p8, .bool p9, .int .i64 p10, .slice A1 p11.length c1, .slice A2 p12.length c2] 26)
  have n2 := new_blk (w.alloc (.cells #[.int .i64 p0, .int .i64 p1, .int .i64 p2, .int .i64 p3, .int .i64 p4, .int .i64 p5, .int .i64 p6, .int .i64 p7, .int .i64 p8, .bool p9, .int .i64 p10, .slice A1 p11.length c1, .slice A2 p12.length c2] 26)) (.cells #[.int .i64 p0, .int .i64 p1, .int .i64 p2, .int .i64 p3, .int .i64 p4, .int .i64 p5, .int .i64 p6, .int .i64 p7, .int .i64 p8, .bool p9, .int .i64 p10, .slice B1 p11.length d1, .slice B2 p12.length d2] 26)
  have HB := Aside0.mk (((Below.refl w.heap.size w).alloc (Nat.le_refl _) (.cells #[.int .i64 p0, .int .i64 p1, .int .i64 p2, .int .i64 p3, .int .i64 p4, .int .i64 p5, .int .i64 p6, .int .i64 p7, .int .i64 p8, .bool p9, .int .i64 p10, .slice A1 p11.length c1, .slice A2 p12.length c2] 26)).alloc (by simp) (.cells #[.int .i64 p0, .int .i64 p1, .int .i64 p2, .int .i64 p3, .int .i64 p4, .int .i64 p5, .int .i64 p6, .int .i64 p7, .int .i64 p8, .bool p9, .int .i64 p10, .slice B1 p11.length d1, .slice B2 p12.length d2] 26))
  have hsz : (w.alloc (.cells #[.int .i64 p0, .int .i64 p1, .int .i64 p2, .int .i64 p3, .int .i64 p4, .int .i64 p5, .int .i64 p6, .int .i64 p7, .int .i64 p8, .bool p9, .int .i64 p10, .slice A1 p11.length c1, .slice A2 p12.length c2] 26)).heap.size = w.heap.size + 1 := by simp
  have n1' := (Below.heap_alloc (w.alloc (.cells #[.int .i64 p0, .int .i64 p1, .int .i64 p2, .int .i64 p3, .int .i64 p4, .int .i64 p5, .int .i64 p6, .int .i64 p7, .int .i64 p8, .bool p9, .int .i64 p10, .slice A1 p11.length c1, .slice A2 p12.length c2] 26)) (.cells #[.int .i64 p0, .int .i64 p1, .int .i64 p2, .int .i64 p3, .int .i64 p4, .int .i64 p5, .int .i64 p6, .int .i64 p7, .int .i64 p8, .bool p9, .int .i64 p10, .slice B1 p11.length d1, .slice B2 p12.length d2] 26) w.heap.size (by rw [hsz]; omega)).trans n1
  rw [hsz] at n2
  change Code.wp _ _ _ _ ((w.alloc (.cells #[.int .i64 p0, .int .i64 p1, .int .i64 p2, .int .i64 p3, .int .i64 p4, .int .i64 p5, .int .i64 p6, .int .i64 p7, .int .i64 p8, .bool p9, .int .i64 p10, .slice A1 p11.length c1, .slice A2 p12.length c2] 26)).alloc (.cells #[.int .i64 p0, .int .i64 p1, .int .i64 p2, .int .i64 p3, .int .i64 p4, .int .i64 p5, .int .i64 p6, .int .i64 p7, .int .i64 p8, .bool p9, .int .i64 p10, .slice B1 p11.length d1, .slice B2 p12.length d2] 26))
  generalize (w.alloc (.cells #[.int .i64 p0, .int .i64 p1, .int .i64 p2, .int .i64 p3, .int .i64 p4, .int .i64 p5, .int .i64 p6, .int .i64 p7, .int .i64 p8, .bool p9, .int .i64 p10, .slice A1 p11.length c1, .slice A2 p12.length c2] 26)).alloc (.cells #[.int .i64 p0, .int .i64 p1, .int .i64 p2, .int .i64 p3, .int .i64 p4, .int .i64 p5, .int .i64 p6, .int .i64 p7, .int .i64 p8, .bool p9, .int .i64 p10, .slice B1 p11.length d1, .slice B2 p12.length d2] 26) = W at n1' n2 HB ⊢
  obtain ⟨k0, k1, k2, k3, k4, k5, k6, k7, k8, k9, k10, k11, k12⟩ := c13 n1'
  obtain ⟨m0, m1, m2, m3, m4, m5, m6, m7, m8, m9, m10, m11, m12⟩ := c13 n2
  clear n1 n1' n2 hsz
  have hcv1 := Kd.C_string (P := Try.prog) (A := A1) (c := c1) Try.underlying23 Try.underlying5 Try.underlying9 (Kd.C_below H1.out HB.out)
  have hcv2 := Kd.C_string (P := Try.prog) (A := A2) (c := c2) Try.underlying23 Try.underlying5 Try.underlying9 (Kd.C_below H2.out HB.out)
  have hcv3 := Kd.C_string (P := Try.prog) (A := B1) (c := d1) Try.underlying23 Try.underlying5 Try.underlying9 (Kd.C_below H3.out HB.out)
  have hcv4 := Kd.C_string (P := Try.prog) (A := B2) (c := d2) Try.underlying23 Try.underlying5 Try.underlying9 (Kd.C_below H4.out HB.out)
  go_wp2
  go_ret
  exact ⟨by simp, HB.out⟩
end Go.Proofs.Ytbjhmifhmojaoaa.WB
