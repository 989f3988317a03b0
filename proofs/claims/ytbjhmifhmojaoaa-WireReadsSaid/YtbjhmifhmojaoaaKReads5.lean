/- Lemmas and contracts that the row YtbjhmifhmojaoaaLawWireReads goes by (part 5; joined by pack.py out of this session's texts, and of words that the kit's print lays). -/
import Derived.Test.YtbjhmifhmojaoaaKReads4
import Derived.Laws.ResultCell
namespace Go.Proofs.Ytbjhmifhmojaoaa.WB
set_option linter.unusedVariables false
set_option linter.unusedSimpArgs false
open Go.RowKit Go.Proofs.Ytbjhmifhmojaoaa.Hp Go.Proofs.Ytbjhmifhmojaoaa.SB Go.Proofs.YtbjhmifhmojaoaaW.PrintWords Go.Proofs.YtbjhmifhmojaoaaW.PrintLast Go.Proofs.YtbjhmifhmojaoaaW.PrintMore
abbrev zero13 : Array Value := #[.int .i64 0, .int .i64 0, .int .i64 0, .int .i64 0, .int .i64 0, .int .i64 0, .int .i64 0, .int .i64 0, .int .i64 0, .bool false, .int .i64 0, .slice none 0 0, .slice none 0 0]
theorem parsed_err {w w' : World} {l : List Int} {x : Int} (h : parseL l = (zeroP, x)) (hb : Below w.heap.size w w') : Parsed w l (.returned (.tuple #[.agg zero13, .int .i64 x])) w' :=
  ⟨.slice none 0 0, .slice none 0 0, by rw [h]; rfl, by rw [h]; exact Kd.R_nil _ _ _ _ _, by rw [h]; exact Kd.R_nil _ _ _ _ _, by intro k hk; simp [Value.ownBlock] at hk, hb⟩
set_option maxRecDepth 100000 in
theorem parse_err {A : Option Addr} {c : Nat} {l : List Int} {w : World} (hr : Kd.C (Kd.int .u8) w A l.length l) (hc : l.length ≤ c) (hl : l.length ≤ 100000) (hb : Bytes l) (he : headE l ≠ 0) :
    Calls Try.prog 19 #[.slice A l.length c] w (Parsed w l) := by
  have HR := Aside0.mk hr
  have HC := Aside0.mk hc
  have HL := Aside0.mk hl
  have HY := Aside0.mk hb
  have HBW := fun o => Kd.C_alloc hr o
  have hbe : (headE l == 0) = false := beq_eq_false_iff_ne.mpr he
  have hbn : (headE l != 0) = true := bne_iff_ne.mpr he
  have HE := Aside0.mk (show parseL l = (zeroP, headE l) from if_pos he)
  clear he hr hc hl hb
  go_enter Try.func19, Try.ntmps19
  go_wp2_with (first
    | (go_at_call 44; refine (head_calls (HBW _) rfl HC.out HY.out HL.out).mono ?_; rintro e w1 ⟨rfl, ⟨⟨nd, rfl⟩⟩⟩))
  (try simp only [Exit.inBlock, Exit.then])
  refine bodyPost_ret (v := .tuple #[.agg zero13, .int .i64 (headE l)]) ?_ rfl (parsed_err HE.out ?_)
  · rw [results_cell_tmp rfl]
    go_simp
  · have h1 : Below w.heap.size w ((w.alloc (.cells zero13 26)).drewN nd) := bd ((Below.refl _ w).alloc (Nat.le_refl _) _) _
    exact lay13_below h1 (Nat.le_refl _) _ _ _ _ _ _ _ _ _ _ _ _ _
set_option maxHeartbeats 4000000 in
set_option maxRecDepth 100000 in
theorem parse_fault {c : Nat} {A : Option Addr} {l : List Int} {w : World} (hr : Kd.C (Kd.int .u8) w A l.length l) (hc : l.length ≤ c) (hl : l.length ≤ 100000) (hb : Bytes l) (he : headE l = 0) (h24 : 44 ≤ l.length) (hk : l.getD 0 0 = 3) :
    Calls Try.prog 19 #[.slice A l.length c] w (Parsed w l) := by
  have HR := Aside0.mk hr
  have HC := Aside0.mk hc
  have HL := Aside0.mk hl
  have HY := Aside0.mk hb
  have HBW := fun o => Kd.C_alloc hr o
  have hbe : (headE l == 0) = true := beq_iff_eq.mpr he
  have hbn : (headE l != 0) = false := by rw [he]; rfl
  have HE := Aside0.mk he
  have HKD := Aside0.mk hk
  have H24 := Aside0.mk (show 24 ≤ l.length by omega)
  have HLE := Aside0.mk h24
  obtain ⟨ad, rfl, hcell⟩ := cells_of hr (by omega)
  have c0 := hcell 0 (by omega)
  rw [Addr.add_zero'] at c0
  have b0 := getD_byte hb 0
  obtain ⟨x0, e0⟩ : ∃ x, l.getD 0 0 = x := ⟨_, rfl⟩
  rw [e0] at c0 b0
  have w0 : wrap64 x0 = x0 := wid (by omega) (by omega)
  have i0 : (0 : Int) < (l.length : Int) := by omega
  have c1 : w.cell? ⟨ad.block, ad.off + 1, none⟩ = _ := hcell 1 (by omega)
  have b1 := getD_byte hb 1
  obtain ⟨x1, e1⟩ : ∃ x, l.getD 1 0 = x := ⟨_, rfl⟩
  rw [e1] at c1 b1
  have w1 : wrap64 x1 = x1 := wid (by omega) (by omega)
  have i1 : (1 : Int) < (l.length : Int) := by omega
  have c12 : w.cell? ⟨ad.block, ad.off + 12, none⟩ = _ := hcell 12 (by omega)
  have b12 := getD_byte hb 12
  obtain ⟨x12, e12⟩ : ∃ x, l.getD 12 0 = x := ⟨_, rfl⟩
  rw [e12] at c12 b12
  have w12 : wrap64 x12 = x12 := wid (by omega) (by omega)
  have i12 : (12 : Int) < (l.length : Int) := by omega
  have c16 : w.cell? ⟨ad.block, ad.off + 16, none⟩ = _ := hcell 16 (by omega)
  have b16 := getD_byte hb 16
  obtain ⟨x16, e16⟩ : ∃ x, l.getD 16 0 = x := ⟨_, rfl⟩
  rw [e16] at c16 b16
  have w16 : wrap64 x16 = x16 := wid (by omega) (by omega)
  have i16 : (16 : Int) < (l.length : Int) := by omega
  have c17 : w.cell? ⟨ad.block, ad.off + 17, none⟩ = _ := hcell 17 (by omega)
  have b17 := getD_byte hb 17
  obtain ⟨x17, e17⟩ : ∃ x, l.getD 17 0 = x := ⟨_, rfl⟩
  rw [e17] at c17 b17
  have w17 : wrap64 x17 = x17 := wid (by omega) (by omega)
  have i17 : (17 : Int) < (l.length : Int) := by omega
  have i0n : 0 < l.length := by omega
  have HC0 := Aside0.mk (show ∀ W, Below w.heap.size w W → W.cell? ad = some (.int .u8 x0) from fun W h => (h.cell (World.block_lt_of_cell? w _ c0)).trans c0)
  have HC1 := Aside0.mk (show ∀ W, Below w.heap.size w W → W.cell? ⟨ad.block, ad.off + 1, none⟩ = some (.int .u8 x1) from fun W h => (h.cell (World.block_lt_of_cell? w _ c1)).trans c1)
  have HC12 := Aside0.mk (show ∀ W, Below w.heap.size w W → W.cell? ⟨ad.block, ad.off + 12, none⟩ = some (.int .u8 x12) from fun W h => (h.cell (World.block_lt_of_cell? w _ c12)).trans c12)
  have HC16 := Aside0.mk (show ∀ W, Below w.heap.size w W → W.cell? ⟨ad.block, ad.off + 16, none⟩ = some (.int .u8 x16) from fun W h => (h.cell (World.block_lt_of_cell? w _ c16)).trans c16)
  have HC17 := Aside0.mk (show ∀ W, Below w.heap.size w W → W.cell? ⟨ad.block, ad.off + 17, none⟩ = some (.int .u8 x17) from fun W h => (h.cell (World.block_lt_of_cell? w _ c17)).trans c17)
  have EE := Aside0.mk (And.intro e0 (And.intro e1 (And.intro e12 (And.intro e16 (And.intro e17 trivial)))))
  clear hcell c0 c1 c12 c16 c17 e0 e1 e12 e16 e17
  rw [EE.out.1] at hk
  have q3 : (x0 == 3) = true := by rw [hk]; rfl
  have q2 : (x0 == 2) = false := by rw [hk]; rfl
  clear he hr hc hl hb h24 hk
  go_enter Try.func19, Try.ntmps19
  go_upto_region 4 with (first
    | (go_at_call 44; refine (head_calls (HBW _) rfl HC.out HY.out HL.out).mono ?_; rintro e w1 ⟨rfl, ⟨⟨nd, rfl⟩⟩⟩))
  have HBR := Aside0.mk (bd ((Below.refl w.heap.size w).alloc (Nat.le_refl _) (.cells zero13 26)) nd)
  have HK1 := Aside0.mk (show (((w.alloc (.cells zero13 26)).drewN nd).heap[w.heap.size]? = some (.cells zero13 26 (0, 0))) from new_blk w _)
  have HR1 := Aside0.mk (Kd.C_drewN (HBW (.cells zero13 26)) nd)
  have HG1 := Aside0.mk (show w.heap.size ≤ ((w.alloc (.cells zero13 26)).drewN nd).heap.size from HBR.out.size)
  have HG2 := Aside0.mk (show w.heap.size < ((w.alloc (.cells zero13 26)).drewN nd).heap.size from blk_lt HK1.out)
  change Code.wp _ _ _ _ ((w.alloc (.cells zero13 26)).drewN nd)
  generalize ((w.alloc (.cells zero13 26)).drewN nd) = W1 at HBR HK1 HR1 HG1 HG2 ⊢
  have HBS := Aside0.mk (Below.refl W1.heap.size W1)
  clear HBW nd
  refine start_ (n := 19) (S := fun w' => w'.cell? ad = some (.int .u8 x0) ∧ w'.cell? ⟨ad.block, ad.off + 1, none⟩ = some (.int .u8 x1) ∧ w'.cell? ⟨ad.block, ad.off + 12, none⟩ = some (.int .u8 x12)) (ds := []) #[false, false, false, false, false, false, false, false, false, false, false, false, false, false, false, false, false, false, false] (by kernel_rfl) rfl rfl ⟨(HC0.out _ (by repeat (first | (with_reducible first | exact HBR.out | apply below_alloc | apply pw_below_drewN | apply below_drew1) | exact HBR.out))), (HC1.out _ (by repeat (first | (with_reducible first | exact HBR.out | apply below_alloc | apply pw_below_drewN | apply below_drew1) | exact HBR.out))), (HC12.out _ (by repeat (first | (with_reducible first | exact HBR.out | apply below_alloc | apply pw_below_drewN | apply below_drew1) | exact HBR.out)))⟩ (fun hHeld => ?_)
  refine pure_ (i := 0) (N := some 13) (v := ?_) (a' := ?_) #[true, false, false, false, false, false, false, false, false, false, false, false, false, false, false, false, false, false, false] rfl rfl (by kernel_rfl) (fun _ _ _ h => h) (Or.inl ⟨by rfl, ?_⟩) ?_ ?_
  rotate_left
  · intro w'
    go_simp
    with_reducible rfl
  rotate_left
  · simp only [Act.put, List.setIfInBounds_toArray, List.set_cons_zero, List.set_cons_succ, i64_w, i32_w]
    rfl
  refine pure_ (i := 1) (N := some 14) (v := ?_) (a' := ?_) #[true, true, false, false, false, false, false, false, false, false, false, false, false, false, false, false, false, false, false] rfl rfl (by kernel_rfl) (fun _ _ _ h => h) (Or.inl ⟨by rfl, ?_⟩) ?_ ?_
  rotate_left
  · intro w'
    go_simp
    with_reducible rfl
  rotate_left
  · simp only [Act.put, List.setIfInBounds_toArray, List.set_cons_zero, List.set_cons_succ, i64_w, i32_w]
    rfl
  refine pure_ (i := 4) (N := some 17) (v := ?_) (a' := ?_) #[true, true, false, false, true, false, false, false, false, false, false, false, false, false, false, false, false, false, false] rfl rfl (by kernel_rfl) (fun _ _ _ h => h) (Or.inl ⟨by rfl, ?_⟩) ?_ ?_
  rotate_left
  · intro w'
    go_simp
    with_reducible rfl
  rotate_left
  · simp only [Act.put, List.setIfInBounds_toArray, List.set_cons_zero, List.set_cons_succ, i64_w, i32_w]
    rfl
  refine pure_ (i := 5) (N := some 18) (v := ?_) (a' := ?_) #[true, true, false, false, true, true, false, false, false, false, false, false, false, false, false, false, false, false, false] rfl rfl (by kernel_rfl) (fun _ _ _ h => h) (Or.inl ⟨by rfl, ?_⟩) ?_ ?_
  rotate_left
  · intro w'
    go_simp
    with_reducible rfl
  rotate_left
  · simp only [Act.put, List.setIfInBounds_toArray, List.set_cons_zero, List.set_cons_succ, i64_w, i32_w]
    rfl
  refine pure_ (i := 8) (N := some 21) (v := ?_) (a' := ?_) #[true, true, false, false, true, true, false, false, true, false, false, false, false, false, false, false, false, false, false] rfl rfl (by kernel_rfl) (fun _ _ _ h => h) (Or.inl ⟨by rfl, ?_⟩) ?_ ?_
  rotate_left
  · intro w'
    go_simp
    with_reducible rfl
  rotate_left
  · simp only [Act.put, List.setIfInBounds_toArray, List.set_cons_zero, List.set_cons_succ, i64_w, i32_w]
    rfl
  refine pure_ (i := 9) (N := some 22) (v := ?_) (a' := ?_) #[true, true, false, false, true, true, false, false, true, true, false, false, false, false, false, false, false, false, false] rfl rfl (by kernel_rfl) (fun _ _ _ h => h) (Or.inl ⟨by rfl, ?_⟩) ?_ ?_
  rotate_left
  · intro w'
    go_simp
    with_reducible rfl
  rotate_left
  · simp only [Act.put, List.setIfInBounds_toArray, List.set_cons_zero, List.set_cons_succ, i64_w, i32_w]
    rfl
  refine pure_ (i := 12) (N := some 25) (v := ?_) (a' := ?_) #[true, true, false, false, true, true, false, false, true, true, false, false, true, false, false, false, false, false, false] rfl rfl (by kernel_rfl) (fun _ _ _ h => h) (Or.inl ⟨by rfl, ?_⟩) ?_ ?_
  rotate_left
  · intro w'
    go_simp
    with_reducible rfl
  rotate_left
  · simp only [Act.put, List.setIfInBounds_toArray, List.set_cons_zero, List.set_cons_succ, i64_w, i32_w]
    rfl
  refine pure_ (i := 14) (N := some 27) (v := ?_) (a' := ?_) #[true, true, false, false, true, true, false, false, true, true, false, false, true, false, true, false, false, false, false] rfl rfl (by kernel_rfl) (fun _ _ _ h => h) (Or.inl ⟨by rfl, ?_⟩) ?_ ?_
  rotate_left
  · intro w'
    go_simp
    with_reducible rfl
  rotate_left
  · simp only [Act.put, List.setIfInBounds_toArray, List.set_cons_zero, List.set_cons_succ, i64_w, i32_w]
    rfl
  refine take_ (i := 2) (N := some 15) (v := ?_) (a' := ?_) #[true, true, true, false, true, true, false, false, true, true, false, false, true, false, true, false, false, false, false] rfl rfl (by kernel_rfl) (fun _ _ _ h => h) (Or.inl ⟨by rfl, ?_⟩) hHeld ?_ ?_
  rotate_left
  · rintro w' ⟨s0, s1, s2⟩
    go_simp
    with_reducible rfl
  rotate_left
  · simp only [Act.put, List.setIfInBounds_toArray, List.set_cons_zero, List.set_cons_succ, i64_w, i32_w]
    rfl
  refine pure_ (i := 3) (N := some 16) (v := ?_) (a' := ?_) #[true, true, true, true, true, true, false, false, true, true, false, false, true, false, true, false, false, false, false] rfl rfl (by kernel_rfl) (fun _ _ _ h => h) (Or.inl ⟨by rfl, ?_⟩) ?_ ?_
  rotate_left
  · intro w'
    go_simp
    with_reducible rfl
  rotate_left
  · simp only [Act.put, List.setIfInBounds_toArray, List.set_cons_zero, List.set_cons_succ, i64_w, i32_w]
    rfl
  refine take_ (i := 6) (N := some 19) (v := ?_) (a' := ?_) #[true, true, true, true, true, true, true, false, true, true, false, false, true, false, true, false, false, false, false] rfl rfl (by kernel_rfl) (fun _ _ _ h => h) (Or.inl ⟨by rfl, ?_⟩) hHeld ?_ ?_
  rotate_left
  · rintro w' ⟨s0, s1, s2⟩
    go_simp
    with_reducible rfl
  rotate_left
  · simp only [Act.put, List.setIfInBounds_toArray, List.set_cons_zero, List.set_cons_succ, i64_w, i32_w]
    rfl
  refine pure_ (i := 7) (N := some 20) (v := ?_) (a' := ?_) #[true, true, true, true, true, true, true, true, true, true, false, false, true, false, true, false, false, false, false] rfl rfl (by kernel_rfl) (fun _ _ _ h => h) (Or.inl ⟨by rfl, ?_⟩) ?_ ?_
  rotate_left
  · intro w'
    go_simp
    with_reducible rfl
  rotate_left
  · simp only [Act.put, List.setIfInBounds_toArray, List.set_cons_zero, List.set_cons_succ, i64_w, i32_w]
    rfl
  refine take_ (i := 10) (N := some 23) (v := ?_) (a' := ?_) #[true, true, true, true, true, true, true, true, true, true, true, false, true, false, true, false, false, false, false] rfl rfl (by kernel_rfl) (fun _ _ _ h => h) (Or.inl ⟨by rfl, ?_⟩) hHeld ?_ ?_
  rotate_left
  · rintro w' ⟨s0, s1, s2⟩
    go_simp
    with_reducible rfl
  rotate_left
  · simp only [Act.put, List.setIfInBounds_toArray, List.set_cons_zero, List.set_cons_succ, i64_w, i32_w]
    rfl
  refine pure_ (i := 11) (N := some 24) (v := ?_) (a' := ?_) #[true, true, true, true, true, true, true, true, true, true, true, true, true, false, true, false, false, false, false] rfl rfl (by kernel_rfl) (fun _ _ _ h => h) (Or.inl ⟨by rfl, ?_⟩) ?_ ?_
  rotate_left
  · intro w'
    go_simp
    with_reducible rfl
  rotate_left
  · simp only [Act.put, List.setIfInBounds_toArray, List.set_cons_zero, List.set_cons_succ, i64_w, i32_w]
    rfl
  refine join_ (σ := Unit) 1 #[true, true, true, true, true, true, true, true, true, true, true, true, true, true, true, true, true, true, false] (fun _ => [(26, .int .i64 (numL l 4 4)), (28, .int .i64 (numL l 8 4)), (29, .agg #[.int .i64 x0, .int .i64 x1, .int .i64 x12, .int .i64 (numL l 4 4), .int .i64 (numL l 8 4), .int .i64 0, .int .i64 0, .int .i64 0, .int .i64 0, .bool false, .int .i64 0, .slice none 0 0, .slice none 0 0]), (5, .pointer (some ⟨W1.heap.size, 0, none⟩))]) (fun _ w' => w'.heap[W1.heap.size]? = some (.cells zero13 26 (0, 0)) ∧ w'.heap[w.heap.size]? = some (.cells zero13 26 (0, 0)) ∧ Below w.heap.size w w') ?_ ?_
  rotate_left
  · intro hCont
    refine two_ (i := 13) (j := 17) (Ni := some 26) (Nj := some 5) #[true, true, true, true, true, true, true, true, true, true, true, true, true, true, true, false, false, false, false] #[true, true, true, true, true, true, true, true, true, true, true, true, true, false, true, false, false, true, false] rfl rfl rfl rfl (by kernel_rfl) (by decide) (by decide) (fun K hK => ?_) (fun K hK => ?_)
    · skip
      refine goes_ Try.func45 (by kernel_rfl) rfl #[.slice (some ad) l.length c, .int .i64 4, .int .i64 4] (by rfl) rfl rfl (by simp only [List.map_toArray, List.map_cons, List.map_nil]; rfl) ?_
      with_reducible refine (get_calls (l := l) 4 4 (iz := 4) (mz := 4) (by repeat (first | exact HR1.out | (with_reducible refine Kd.C_alloc ?_ _) | (with_reducible refine Kd.C_drewN ?_ _) | (with_reducible refine Kd.C_drew ?_))) rfl HC.out HY.out HL.out rfl rfl (by omega) (by have := H24.out; omega)).mono ?_
      rintro e w3 ⟨rfl, ⟨⟨nq, rfl⟩⟩⟩
      refine ⟨_, rfl, ?_⟩
      refine hK.out _ _ ⟨(HC0.out _ (by repeat (first | (with_reducible first | exact HBR.out | apply below_alloc | apply pw_below_drewN | apply below_drew1) | exact HBR.out))), (HC1.out _ (by repeat (first | (with_reducible first | exact HBR.out | apply below_alloc | apply pw_below_drewN | apply below_drew1) | exact HBR.out))), (HC12.out _ (by repeat (first | (with_reducible first | exact HBR.out | apply below_alloc | apply pw_below_drewN | apply below_drew1) | exact HBR.out)))⟩ (fun hHeld => ?_)
      clear hK K
      refine norm_ (a' := ?_) ?_ ?_
      rotate_left
      · show Act.put _ (some 26) _ = _
        simp only [Act.put, List.setIfInBounds_toArray, List.set_cons_zero, List.set_cons_succ, i64_w, i32_w]
        rfl
      refine two_ (i := 15) (j := 17) (Ni := some 28) (Nj := some 5) #[true, true, true, true, true, true, true, true, true, true, true, true, true, true, true, true, false, false, false] #[true, true, true, true, true, true, true, true, true, true, true, true, true, true, true, false, false, true, false] rfl rfl rfl rfl (by kernel_rfl) (by decide) (by decide) (fun K hK => ?_) (fun K hK => ?_)
      · skip
        refine goes_ Try.func45 (by kernel_rfl) rfl #[.slice (some ad) l.length c, .int .i64 8, .int .i64 4] (by rfl) rfl rfl (by simp only [List.map_toArray, List.map_cons, List.map_nil]; rfl) ?_
        with_reducible refine (get_calls (l := l) 8 4 (iz := 8) (mz := 4) (by repeat (first | exact HR1.out | (with_reducible refine Kd.C_alloc ?_ _) | (with_reducible refine Kd.C_drewN ?_ _) | (with_reducible refine Kd.C_drew ?_))) rfl HC.out HY.out HL.out rfl rfl (by omega) (by have := H24.out; omega)).mono ?_
        rintro e w3 ⟨rfl, ⟨⟨nq, rfl⟩⟩⟩
        refine ⟨_, rfl, ?_⟩
        refine hK.out _ _ ⟨(HC0.out _ (by repeat (first | (with_reducible first | exact HBR.out | apply below_alloc | apply pw_below_drewN | apply below_drew1) | exact HBR.out))), (HC1.out _ (by repeat (first | (with_reducible first | exact HBR.out | apply below_alloc | apply pw_below_drewN | apply below_drew1) | exact HBR.out))), (HC12.out _ (by repeat (first | (with_reducible first | exact HBR.out | apply below_alloc | apply pw_below_drewN | apply below_drew1) | exact HBR.out)))⟩ (fun hHeld => ?_)
        clear hK K
        refine norm_ (a' := ?_) ?_ ?_
        rotate_left
        · show Act.put _ (some 28) _ = _
          simp only [Act.put, List.setIfInBounds_toArray, List.set_cons_zero, List.set_cons_succ, i64_w, i32_w]
          rfl
        refine pure_ (i := 16) (N := some 29) (v := ?_) (a' := ?_) #[true, true, true, true, true, true, true, true, true, true, true, true, true, true, true, true, true, false, false] rfl rfl (by kernel_rfl) (fun _ _ _ h => h) (Or.inl ⟨by rfl, ?_⟩) ?_ ?_
        rotate_left
        · intro w'
          go_simp
          with_reducible rfl
        rotate_left
        · simp only [Act.put, List.setIfInBounds_toArray, List.set_cons_zero, List.set_cons_succ, i64_w, i32_w]
          rfl
        refine one_ (i := 17) (N := some 5) #[true, true, true, true, true, true, true, true, true, true, true, true, true, true, true, true, true, true, false] rfl rfl (by kernel_rfl) (by decide) (fun K hK => ?_)
        refine value_ (w1 := ?_) (v := ?_) (by rfl) rfl ?_ ?_
        rotate_left 2
        · go_simp
          constructor
          · rfl
          · rfl
        refine hK.out _ _ ⟨(HC0.out _ (by repeat (first | (with_reducible first | exact HBR.out | apply below_alloc | apply pw_below_drewN | apply below_drew1) | exact HBR.out))), (HC1.out _ (by repeat (first | (with_reducible first | exact HBR.out | apply below_alloc | apply pw_below_drewN | apply below_drew1) | exact HBR.out))), (HC12.out _ (by repeat (first | (with_reducible first | exact HBR.out | apply below_alloc | apply pw_below_drewN | apply below_drew1) | exact HBR.out)))⟩ (fun hHeld => ?_)
        clear hK K
        refine norm_ (a' := ?_) ?_ ?_
        rotate_left
        · show Act.put _ (some 5) _ = _
          simp only [Act.put, List.setIfInBounds_toArray, List.set_cons_zero, List.set_cons_succ, i64_w, i32_w]
          rfl
        exact norm_ (by simp only [putAll, Act.put, List.setIfInBounds_toArray, List.set_cons_zero, List.set_cons_succ]) (hCont () _ ⟨new_blk W1 _, (by refine Eq.trans (Below.block (B := W1.heap.size) (w := W1) ?_ _ HG2.out) HK1.out; repeat (first | (with_reducible first | exact HBS.out | apply below_alloc | apply pw_below_drewN | apply below_drew1) | exact HBS.out)), (by repeat (first | (with_reducible first | exact HBR.out | apply below_alloc | apply pw_below_drewN | apply below_drew1) | exact HBR.out))⟩)
      · skip
        refine value_ (w1 := ?_) (v := ?_) (by rfl) rfl ?_ ?_
        rotate_left 2
        · go_simp
          constructor
          · rfl
          · rfl
        refine hK.out _ _ ⟨(HC0.out _ (by repeat (first | (with_reducible first | exact HBR.out | apply below_alloc | apply pw_below_drewN | apply below_drew1) | exact HBR.out))), (HC1.out _ (by repeat (first | (with_reducible first | exact HBR.out | apply below_alloc | apply pw_below_drewN | apply below_drew1) | exact HBR.out))), (HC12.out _ (by repeat (first | (with_reducible first | exact HBR.out | apply below_alloc | apply pw_below_drewN | apply below_drew1) | exact HBR.out)))⟩ (fun hHeld => ?_)
        clear hK K
        refine norm_ (a' := ?_) ?_ ?_
        rotate_left
        · show Act.put _ (some 5) _ = _
          simp only [Act.put, List.setIfInBounds_toArray, List.set_cons_zero, List.set_cons_succ, i64_w, i32_w]
          rfl
        refine one_ (i := 15) (N := some 28) #[true, true, true, true, true, true, true, true, true, true, true, true, true, true, true, true, false, true, false] rfl rfl (by kernel_rfl) (by decide) (fun K hK => ?_)
        refine goes_ Try.func45 (by kernel_rfl) rfl #[.slice (some ad) l.length c, .int .i64 8, .int .i64 4] (by rfl) rfl rfl (by simp only [List.map_toArray, List.map_cons, List.map_nil]; rfl) ?_
        with_reducible refine (get_calls (l := l) 8 4 (iz := 8) (mz := 4) (by repeat (first | exact HR1.out | (with_reducible refine Kd.C_alloc ?_ _) | (with_reducible refine Kd.C_drewN ?_ _) | (with_reducible refine Kd.C_drew ?_))) rfl HC.out HY.out HL.out rfl rfl (by omega) (by have := H24.out; omega)).mono ?_
        rintro e w3 ⟨rfl, ⟨⟨nq, rfl⟩⟩⟩
        refine ⟨_, rfl, ?_⟩
        refine hK.out _ _ ⟨(HC0.out _ (by repeat (first | (with_reducible first | exact HBR.out | apply below_alloc | apply pw_below_drewN | apply below_drew1) | exact HBR.out))), (HC1.out _ (by repeat (first | (with_reducible first | exact HBR.out | apply below_alloc | apply pw_below_drewN | apply below_drew1) | exact HBR.out))), (HC12.out _ (by repeat (first | (with_reducible first | exact HBR.out | apply below_alloc | apply pw_below_drewN | apply below_drew1) | exact HBR.out)))⟩ (fun hHeld => ?_)
        clear hK K
        refine norm_ (a' := ?_) ?_ ?_
        rotate_left
        · show Act.put _ (some 28) _ = _
          simp only [Act.put, List.setIfInBounds_toArray, List.set_cons_zero, List.set_cons_succ, i64_w, i32_w]
          rfl
        refine pure_ (i := 16) (N := some 29) (v := ?_) (a' := ?_) #[true, true, true, true, true, true, true, true, true, true, true, true, true, true, true, true, true, true, false] rfl rfl (by kernel_rfl) (fun _ _ _ h => h) (Or.inl ⟨by rfl, ?_⟩) ?_ ?_
        rotate_left
        · intro w'
          go_simp
          with_reducible rfl
        rotate_left
        · simp only [Act.put, List.setIfInBounds_toArray, List.set_cons_zero, List.set_cons_succ, i64_w, i32_w]
          rfl
        exact norm_ (by simp only [putAll, Act.put, List.setIfInBounds_toArray, List.set_cons_zero, List.set_cons_succ]) (hCont () _ ⟨new_blk W1 _, (by refine Eq.trans (Below.block (B := W1.heap.size) (w := W1) ?_ _ HG2.out) HK1.out; repeat (first | (with_reducible first | exact HBS.out | apply below_alloc | apply pw_below_drewN | apply below_drew1) | exact HBS.out)), (by repeat (first | (with_reducible first | exact HBR.out | apply below_alloc | apply pw_below_drewN | apply below_drew1) | exact HBR.out))⟩)
    · skip
      refine value_ (w1 := ?_) (v := ?_) (by rfl) rfl ?_ ?_
      rotate_left 2
      · go_simp
        constructor
        · rfl
        · rfl
      refine hK.out _ _ ⟨(HC0.out _ (by repeat (first | (with_reducible first | exact HBR.out | apply below_alloc | apply pw_below_drewN | apply below_drew1) | exact HBR.out))), (HC1.out _ (by repeat (first | (with_reducible first | exact HBR.out | apply below_alloc | apply pw_below_drewN | apply below_drew1) | exact HBR.out))), (HC12.out _ (by repeat (first | (with_reducible first | exact HBR.out | apply below_alloc | apply pw_below_drewN | apply below_drew1) | exact HBR.out)))⟩ (fun hHeld => ?_)
      clear hK K
      refine norm_ (a' := ?_) ?_ ?_
      rotate_left
      · show Act.put _ (some 5) _ = _
        simp only [Act.put, List.setIfInBounds_toArray, List.set_cons_zero, List.set_cons_succ, i64_w, i32_w]
        rfl
      refine one_ (i := 13) (N := some 26) #[true, true, true, true, true, true, true, true, true, true, true, true, true, true, true, false, false, true, false] rfl rfl (by kernel_rfl) (by decide) (fun K hK => ?_)
      refine goes_ Try.func45 (by kernel_rfl) rfl #[.slice (some ad) l.length c, .int .i64 4, .int .i64 4] (by rfl) rfl rfl (by simp only [List.map_toArray, List.map_cons, List.map_nil]; rfl) ?_
      with_reducible refine (get_calls (l := l) 4 4 (iz := 4) (mz := 4) (by repeat (first | exact HR1.out | (with_reducible refine Kd.C_alloc ?_ _) | (with_reducible refine Kd.C_drewN ?_ _) | (with_reducible refine Kd.C_drew ?_))) rfl HC.out HY.out HL.out rfl rfl (by omega) (by have := H24.out; omega)).mono ?_
      rintro e w3 ⟨rfl, ⟨⟨nq, rfl⟩⟩⟩
      refine ⟨_, rfl, ?_⟩
      refine hK.out _ _ ⟨(HC0.out _ (by repeat (first | (with_reducible first | exact HBR.out | apply below_alloc | apply pw_below_drewN | apply below_drew1) | exact HBR.out))), (HC1.out _ (by repeat (first | (with_reducible first | exact HBR.out | apply below_alloc | apply pw_below_drewN | apply below_drew1) | exact HBR.out))), (HC12.out _ (by repeat (first | (with_reducible first | exact HBR.out | apply below_alloc | apply pw_below_drewN | apply below_drew1) | exact HBR.out)))⟩ (fun hHeld => ?_)
      clear hK K
      refine norm_ (a' := ?_) ?_ ?_
      rotate_left
      · show Act.put _ (some 26) _ = _
        simp only [Act.put, List.setIfInBounds_toArray, List.set_cons_zero, List.set_cons_succ, i64_w, i32_w]
        rfl
      refine one_ (i := 15) (N := some 28) #[true, true, true, true, true, true, true, true, true, true, true, true, true, true, true, true, false, true, false] rfl rfl (by kernel_rfl) (by decide) (fun K hK => ?_)
      refine goes_ Try.func45 (by kernel_rfl) rfl #[.slice (some ad) l.length c, .int .i64 8, .int .i64 4] (by rfl) rfl rfl (by simp only [List.map_toArray, List.map_cons, List.map_nil]; rfl) ?_
      with_reducible refine (get_calls (l := l) 8 4 (iz := 8) (mz := 4) (by repeat (first | exact HR1.out | (with_reducible refine Kd.C_alloc ?_ _) | (with_reducible refine Kd.C_drewN ?_ _) | (with_reducible refine Kd.C_drew ?_))) rfl HC.out HY.out HL.out rfl rfl (by omega) (by have := H24.out; omega)).mono ?_
      rintro e w3 ⟨rfl, ⟨⟨nq, rfl⟩⟩⟩
      refine ⟨_, rfl, ?_⟩
      refine hK.out _ _ ⟨(HC0.out _ (by repeat (first | (with_reducible first | exact HBR.out | apply below_alloc | apply pw_below_drewN | apply below_drew1) | exact HBR.out))), (HC1.out _ (by repeat (first | (with_reducible first | exact HBR.out | apply below_alloc | apply pw_below_drewN | apply below_drew1) | exact HBR.out))), (HC12.out _ (by repeat (first | (with_reducible first | exact HBR.out | apply below_alloc | apply pw_below_drewN | apply below_drew1) | exact HBR.out)))⟩ (fun hHeld => ?_)
      clear hK K
      refine norm_ (a' := ?_) ?_ ?_
      rotate_left
      · show Act.put _ (some 28) _ = _
        simp only [Act.put, List.setIfInBounds_toArray, List.set_cons_zero, List.set_cons_succ, i64_w, i32_w]
        rfl
      refine pure_ (i := 16) (N := some 29) (v := ?_) (a' := ?_) #[true, true, true, true, true, true, true, true, true, true, true, true, true, true, true, true, true, true, false] rfl rfl (by kernel_rfl) (fun _ _ _ h => h) (Or.inl ⟨by rfl, ?_⟩) ?_ ?_
      rotate_left
      · intro w'
        go_simp
        with_reducible rfl
      rotate_left
      · simp only [Act.put, List.setIfInBounds_toArray, List.set_cons_zero, List.set_cons_succ, i64_w, i32_w]
        rfl
      exact norm_ (by simp only [putAll, Act.put, List.setIfInBounds_toArray, List.set_cons_zero, List.set_cons_succ]) (hCont () _ ⟨new_blk W1 _, (by refine Eq.trans (Below.block (B := W1.heap.size) (w := W1) ?_ _ HG2.out) HK1.out; repeat (first | (with_reducible first | exact HBS.out | apply below_alloc | apply pw_below_drewN | apply below_drew1) | exact HBS.out)), (by repeat (first | (with_reducible first | exact HBR.out | apply below_alloc | apply pw_below_drewN | apply below_drew1) | exact HBR.out))⟩)
  rintro ⟨⟩ w3 ⟨hz3, hy3, hb3⟩
  have hHeld : w3.cell? ad = some (.int .u8 x0) ∧ w3.cell? ⟨ad.block, ad.off + 1, none⟩ = some (.int .u8 x1) ∧ w3.cell? ⟨ad.block, ad.off + 12, none⟩ = some (.int .u8 x12) := ⟨HC0.out _ hb3, HC1.out _ hb3, HC12.out _ hb3⟩
  refine norm_ (a' := ?_) ?_ ?_
  rotate_left
  · simp only [putAll, Act.put, List.setIfInBounds_toArray, List.set_cons_zero, List.set_cons_succ]
    rfl
  refine one_ (i := 18) (N := none) #[true, true, true, true, true, true, true, true, true, true, true, true, true, true, true, true, true, true, true] rfl rfl (by kernel_rfl) (by decide) (fun K hK => ?_)
  obtain ⟨k0, k1, k2, k3, k4, k5, k6, k7, k8, k9, k10, k11, k12⟩ := c13 hz3
  obtain ⟨z0, z1, z2, z3, z4, z5, z6, z7, z8, z9, z10, z11, z12⟩ := f13 hz3
  refine skip_ (w1 := ?_) (by rfl) rfl ?_ ?_
  rotate_left
  · go_simp
    rfl
  refine hK.out _ _ ⟨(HC0.out _ (lay13_below hb3 HG1.out _ _ _ _ _ _ _ _ _ _ _ _ _)), (HC1.out _ (lay13_below hb3 HG1.out _ _ _ _ _ _ _ _ _ _ _ _ _)), (HC12.out _ (lay13_below hb3 HG1.out _ _ _ _ _ _ _ _ _ _ _ _ _))⟩ (fun hHeld => ?_)
  clear hK K
  refine done_ (by kernel_rfl) ?_
  generalize hW : World.setCell _ _ _ = W4
  have hz4 : W4.heap[W1.heap.size]? = some (.cells #[(.int .i64 x0), (.int .i64 x1), (.int .i64 x12), (.int .i64 (numL l 4 4)), (.int .i64 (numL l 8 4)), (.int .i64 0), (.int .i64 0), (.int .i64 0), (.int .i64 0), (.bool false), (.int .i64 0), (.slice none 0 0), (.slice none 0 0)] 26 (0, 0)) := by rw [← hW]; exact lay13_blk hz3 rfl (.int .i64 x0) (.int .i64 x1) (.int .i64 x12) (.int .i64 (numL l 4 4)) (.int .i64 (numL l 8 4)) (.int .i64 0) (.int .i64 0) (.int .i64 0) (.int .i64 0) (.bool false) (.int .i64 0) (.slice none 0 0) (.slice none 0 0)
  have hy4 : W4.heap[w.heap.size]? = some (.cells zero13 26 (0, 0)) := by rw [← hW]; exact (lay13_far (Nat.ne_of_lt HG2.out) (.int .i64 x0) (.int .i64 x1) (.int .i64 x12) (.int .i64 (numL l 4 4)) (.int .i64 (numL l 8 4)) (.int .i64 0) (.int .i64 0) (.int .i64 0) (.int .i64 0) (.bool false) (.int .i64 0) (.slice none 0 0) (.slice none 0 0)).trans hy3
  have HB4 := Aside0.mk (show Below w.heap.size w W4 from by rw [← hW]; exact lay13_below hb3 HG1.out (.int .i64 x0) (.int .i64 x1) (.int .i64 x12) (.int .i64 (numL l 4 4)) (.int .i64 (numL l 8 4)) (.int .i64 0) (.int .i64 0) (.int .i64 0) (.int .i64 0) (.bool false) (.int .i64 0) (.slice none 0 0) (.slice none 0 0))
  have HZ4 := Aside0.mk hz4
  have HY4 := Aside0.mk hy4
  obtain ⟨g, HGE⟩ : ∃ g, W1.heap.size = g := ⟨_, rfl⟩
  rw [HGE] at HZ4 HG1 HG2 hz4 ⊢
  have HGL := Aside0.mk (show g < W4.heap.size from blk_lt hz4)
  clear hHeld hW hz3 hy3 hb3 k0 k1 k2 k3 k4 k5 k6 k7 k8 k9 k10 k11 k12 z0 z1 z2 z3 z4 z5 z6 z7 z8 z9 z10 z11 z12
  obtain ⟨k0, k1, k2, k3, k4, k5, k6, k7, k8, k9, k10, k11, k12⟩ := c13 hz4
  obtain ⟨z0, z1, z2, z3, z4, z5, z6, z7, z8, z9, z10, z11, z12⟩ := f13 hz4
  clear hz4 hy4
  clear HBR HR1 HBS HK1
  have m16 := HC16.out W4 HB4.out
  have m17 := HC17.out W4 HB4.out
  by_cases h17 : x17 = 0
  · have q17 : (x17 == 0) = true := beq_iff_eq.mpr h17
    have q17n : (x17 != 0) = false := by rw [h17]; rfl
    have HPE := Aside0.mk (show parseL l = (⟨x0, x1, x12, numL l 4 4, numL l 8 4, 0, 0, 0, 0, false, x16, [], (l.take l.length).drop 20⟩, 0) from by
      unfold parseL
      rw [if_neg (fun h => h HE.out), if_pos HKD.out, if_neg (by rw [EE.out.2.2.2.2.1]; exact fun h => h h17), List.take_length, EE.out.2.1, EE.out.2.2.1, EE.out.2.2.2.1, ← EE.out.1, HKD.out])
    obtain ⟨A3, hcut3, hC3⟩ := cut3 (A := some ad) (c := c) (l := l) 20 l.length (l.length - 20) (iz := 20) (jz := (l.length : Int)) rfl rfl rfl (by have := HLE.out; omega) (Nat.le_refl _) rfl HC.out
    have HC3 := Aside0.mk (fun W (h : Below w.heap.size w W) => hC3 W (Kd.C_below HR.out h))
    clear hC3
    go_upto_region 21 with (first
      | (go_at_call 46; refine (clone_calls (HC3.out _ (HB4.out.setCell (p := ⟨g, 10, none⟩) HG1.out _)) (C_len (HC3.out w (Below.refl _ _))) (Nat.le_refl _) (by rw [C_len (HC3.out w (Below.refl _ _))]; have := HL.out; omega)).mono ?_; rintro e w6 ⟨v, rfl, ho, hb6⟩; obtain ⟨Av, cv, ev⟩ := Kd.R_slice ho; rw [C_len (HC3.out w (Below.refl _ _))] at ev; subst ev; have hz5 := set_blk HZ4.out 10 (.int .i64 x16); have hz6 := (hb6.block g (blk_lt hz5)).trans hz5; simp only [List.setIfInBounds_toArray, List.set_cons_zero, List.set_cons_succ] at hz6; have hy6 := (hb6.block w.heap.size (Nat.lt_trans HG2.out (blk_lt hz5))).trans ((Below.heap_setCell W4 ⟨g, 10, none⟩ (.int .i64 x16) w.heap.size (Nat.ne_of_lt HG2.out)).trans HY4.out); have HO := Aside0.mk ho; have HLT := Aside0.mk (blk_lt hz5); have HB6 := Aside0.mk (below_step (HB4.out.setCell (p := ⟨g, 10, none⟩) HG1.out (.int .i64 x16)) hb6); have HZ6 := Aside0.mk hz6; have HY6 := Aside0.mk hy6; clear ho hb6 hz5 hz6 hy6 k0 k1 k2 k3 k4 k5 k6 k7 k8 k9 k10 k11 k12 z0 z1 z2 z3 z4 z5 z6 z7 z8 z9 z10 z11 z12; obtain ⟨k0, k1, k2, k3, k4, k5, k6, k7, k8, k9, k10, k11, k12⟩ := c13 HZ6.out; obtain ⟨z0, z1, z2, z3, z4, z5, z6, z7, z8, z9, z10, z11, z12⟩ := f13 HZ6.out))
    clear k0 k1 k2 k3 k4 k5 k6 k7 k8 k9 k10 k11 k12 z0 z1 z2 z3 z4 z5 z6 z7 z8 z9 z10 z11 z12 hcut3
    have hz7 := set_blk HZ6.out 12 (.slice Av (l.length - 20) cv)
    simp only [List.setIfInBounds_toArray, List.set_cons_zero, List.set_cons_succ] at hz7
    have hy7 := (Below.heap_setCell w6 ⟨g, 12, none⟩ (.slice Av (l.length - 20) cv) w.heap.size (Nat.ne_of_lt HG2.out)).trans HY6.out
    have HB7 := Aside0.mk (HB6.out.setCell (p := ⟨g, 12, none⟩) HG1.out (.slice Av (l.length - 20) cv))
    have HF7 := Aside0.mk (show ∀ k, (W4.setCell ⟨g, 10, none⟩ (.int .i64 x16)).heap.size ≤ k → (w6.setCell ⟨g, 12, none⟩ (.slice Av (l.length - 20) cv)).heap[k]? = w6.heap[k]? from fun k hk => Below.heap_setCell w6 ⟨g, 12, none⟩ _ k (show k ≠ g by have := HLT.out; omega))
    generalize w6.setCell ⟨g, 12, none⟩ (.slice Av (l.length - 20) cv) = W7 at hz7 hy7 HB7 HF7 ⊢
    obtain ⟨k0, k1, k2, k3, k4, k5, k6, k7, k8, k9, k10, k11, k12⟩ := c13 hz7
    obtain ⟨y0, y1, y2, y3, y4, y5, y6, y7, y8, y9, y10, y11, y12⟩ := c13 hy7
    obtain ⟨u0, u1, u2, u3, u4, u5, u6, u7, u8, u9, u10, u11, u12⟩ := f13 hy7
    clear hz7 hy7
    go_wp2
    (try simp only [Exit.inBlock, Exit.then])
    refine bodyPost_ret (v := .tuple #[.agg #[.int .i64 x0, .int .i64 x1, .int .i64 x12, .int .i64 (numL l 4 4), .int .i64 (numL l 8 4), .int .i64 0, .int .i64 0, .int .i64 0, .int .i64 0, .bool false, .int .i64 x16, .slice none 0 0, .slice Av (l.length - 20) cv], .int .i64 0]) ?_ rfl (parsed_ok (v1 := .slice none 0 0) (v2 := .slice Av (l.length - 20) cv) HPE.out (Kd.R_nil _ _ _ _ _) (RB_move HO.out (Nat.le_of_lt (Nat.lt_trans HG2.out HLT.out)) ?_) (by intro k hk; simp [Value.ownBlock] at hk) ?_)
    · rw [results_cell_tmp rfl]
      go_simp
    · intro k hk _
      have h1 := HG2.out
      have h2 := HLT.out
      exact (lay13_far (by omega) _ _ _ _ _ _ _ _ _ _ _ _ _).trans (HF7.out k hk)
    · exact lay13_below HB7.out (Nat.le_refl _) _ _ _ _ _ _ _ _ _ _ _ _ _
  · have q17 : (x17 == 0) = false := beq_eq_false_iff_ne.mpr h17
    have q17n : (x17 != 0) = true := bne_iff_ne.mpr h17
    have HPE := Aside0.mk (show parseL l = (zeroP, 2) from by unfold parseL; rw [if_neg (fun h => h HE.out), if_pos HKD.out, if_pos (by rw [EE.out.2.2.2.2.1]; exact h17)])
    have hny := HY4.out
    obtain ⟨y0, y1, y2, y3, y4, y5, y6, y7, y8, y9, y10, y11, y12⟩ := c13 hny
    obtain ⟨u0, u1, u2, u3, u4, u5, u6, u7, u8, u9, u10, u11, u12⟩ := f13 hny
    clear hny
    go_wp2
    (try simp only [Exit.inBlock, Exit.then])
    refine bodyPost_ret (v := .tuple #[.agg zero13, .int .i64 2]) ?_ rfl (parsed_err HPE.out ?_)
    · rw [results_cell_tmp rfl]
      go_simp
    · exact lay13_below HB4.out (Nat.le_refl _) _ _ _ _ _ _ _ _ _ _ _ _ _
end Go.Proofs.Ytbjhmifhmojaoaa.WB

namespace Go.Proofs.Ytbjhmifhmojaoaa.WB
set_option linter.unusedVariables false
set_option linter.unusedSimpArgs false
open Go.RowKit Go.Proofs.Ytbjhmifhmojaoaa.Hp Go.Proofs.Ytbjhmifhmojaoaa.SB Go.Proofs.YtbjhmifhmojaoaaW.PrintWords Go.Proofs.YtbjhmifhmojaoaaW.PrintLast Go.Proofs.YtbjhmifhmojaoaaW.PrintMore
set_option maxHeartbeats 4000000 in
set_option maxRecDepth 100000 in
theorem parse_gram {c : Nat} {A : Option Addr} {l : List Int} {w : World} (hr : Kd.C (Kd.int .u8) w A l.length l) (hc : l.length ≤ c) (hl : l.length ≤ 100000) (hb : Bytes l) (he : headE l = 0) (h24 : 24 ≤ l.length) (hk : l.getD 0 0 = 2) :
    Calls Try.prog 19 #[.slice A l.length c] w (Parsed w l) := by
  have HR := Aside0.mk hr
  have HC := Aside0.mk hc
  have HL := Aside0.mk hl
  have HY := Aside0.mk hb
  have HBW := fun o => Kd.C_alloc hr o
  have hbe : (headE l == 0) = true := beq_iff_eq.mpr he
  have hbn : (headE l != 0) = false := by rw [he]; rfl
  have HE := Aside0.mk he
  have HKD := Aside0.mk hk
  have H24 := Aside0.mk (show 24 ≤ l.length by omega)
  have HLE := Aside0.mk h24
  obtain ⟨ad, rfl, hcell⟩ := cells_of hr (by omega)
  have c0 := hcell 0 (by omega)
  rw [Addr.add_zero'] at c0
  have b0 := getD_byte hb 0
  obtain ⟨x0, e0⟩ : ∃ x, l.getD 0 0 = x := ⟨_, rfl⟩
  rw [e0] at c0 b0
  have w0 : wrap64 x0 = x0 := wid (by omega) (by omega)
  have i0 : (0 : Int) < (l.length : Int) := by omega
  have c1 : w.cell? ⟨ad.block, ad.off + 1, none⟩ = _ := hcell 1 (by omega)
  have b1 := getD_byte hb 1
  obtain ⟨x1, e1⟩ : ∃ x, l.getD 1 0 = x := ⟨_, rfl⟩
  rw [e1] at c1 b1
  have w1 : wrap64 x1 = x1 := wid (by omega) (by omega)
  have i1 : (1 : Int) < (l.length : Int) := by omega
  have c12 : w.cell? ⟨ad.block, ad.off + 12, none⟩ = _ := hcell 12 (by omega)
  have b12 := getD_byte hb 12
  obtain ⟨x12, e12⟩ : ∃ x, l.getD 12 0 = x := ⟨_, rfl⟩
  rw [e12] at c12 b12
  have w12 : wrap64 x12 = x12 := wid (by omega) (by omega)
  have i12 : (12 : Int) < (l.length : Int) := by omega
  have i0n : 0 < l.length := by omega
  have HC0 := Aside0.mk (show ∀ W, Below w.heap.size w W → W.cell? ad = some (.int .u8 x0) from fun W h => (h.cell (World.block_lt_of_cell? w _ c0)).trans c0)
  have HC1 := Aside0.mk (show ∀ W, Below w.heap.size w W → W.cell? ⟨ad.block, ad.off + 1, none⟩ = some (.int .u8 x1) from fun W h => (h.cell (World.block_lt_of_cell? w _ c1)).trans c1)
  have HC12 := Aside0.mk (show ∀ W, Below w.heap.size w W → W.cell? ⟨ad.block, ad.off + 12, none⟩ = some (.int .u8 x12) from fun W h => (h.cell (World.block_lt_of_cell? w _ c12)).trans c12)
  have EE := Aside0.mk (And.intro e0 (And.intro e1 (And.intro e12 trivial)))
  clear hcell c0 c1 c12 e0 e1 e12
  rw [EE.out.1] at hk
  have q3 : (x0 == 3) = false := by rw [hk]; rfl
  have q2 : (x0 == 2) = true := by rw [hk]; rfl
  clear he hr hc hl hb h24 hk
  go_enter Try.func19, Try.ntmps19
  go_upto_region 4 with (first
    | (go_at_call 44; refine (head_calls (HBW _) rfl HC.out HY.out HL.out).mono ?_; rintro e w1 ⟨rfl, ⟨⟨nd, rfl⟩⟩⟩))
  have HBR := Aside0.mk (bd ((Below.refl w.heap.size w).alloc (Nat.le_refl _) (.cells zero13 26)) nd)
  have HK1 := Aside0.mk (show (((w.alloc (.cells zero13 26)).drewN nd).heap[w.heap.size]? = some (.cells zero13 26 (0, 0))) from new_blk w _)
  have HR1 := Aside0.mk (Kd.C_drewN (HBW (.cells zero13 26)) nd)
  have HG1 := Aside0.mk (show w.heap.size ≤ ((w.alloc (.cells zero13 26)).drewN nd).heap.size from HBR.out.size)
  have HG2 := Aside0.mk (show w.heap.size < ((w.alloc (.cells zero13 26)).drewN nd).heap.size from blk_lt HK1.out)
  change Code.wp _ _ _ _ ((w.alloc (.cells zero13 26)).drewN nd)
  generalize ((w.alloc (.cells zero13 26)).drewN nd) = W1 at HBR HK1 HR1 HG1 HG2 ⊢
  have HBS := Aside0.mk (Below.refl W1.heap.size W1)
  clear HBW nd
  refine start_ (n := 19) (S := fun w' => w'.cell? ad = some (.int .u8 x0) ∧ w'.cell? ⟨ad.block, ad.off + 1, none⟩ = some (.int .u8 x1) ∧ w'.cell? ⟨ad.block, ad.off + 12, none⟩ = some (.int .u8 x12)) (ds := []) #[false, false, false, false, false, false, false, false, false, false, false, false, false, false, false, false, false, false, false] (by kernel_rfl) rfl rfl ⟨(HC0.out _ (by repeat (first | (with_reducible first | exact HBR.out | apply below_alloc | apply pw_below_drewN | apply below_drew1) | exact HBR.out))), (HC1.out _ (by repeat (first | (with_reducible first | exact HBR.out | apply below_alloc | apply pw_below_drewN | apply below_drew1) | exact HBR.out))), (HC12.out _ (by repeat (first | (with_reducible first | exact HBR.out | apply below_alloc | apply pw_below_drewN | apply below_drew1) | exact HBR.out)))⟩ (fun hHeld => ?_)
  refine pure_ (i := 0) (N := some 13) (v := ?_) (a' := ?_) #[true, false, false, false, false, false, false, false, false, false, false, false, false, false, false, false, false, false, false] rfl rfl (by kernel_rfl) (fun _ _ _ h => h) (Or.inl ⟨by rfl, ?_⟩) ?_ ?_
  rotate_left
  · intro w'
    go_simp
    with_reducible rfl
  rotate_left
  · simp only [Act.put, List.setIfInBounds_toArray, List.set_cons_zero, List.set_cons_succ, i64_w, i32_w]
    rfl
  refine pure_ (i := 1) (N := some 14) (v := ?_) (a' := ?_) #[true, true, false, false, false, false, false, false, false, false, false, false, false, false, false, false, false, false, false] rfl rfl (by kernel_rfl) (fun _ _ _ h => h) (Or.inl ⟨by rfl, ?_⟩) ?_ ?_
  rotate_left
  · intro w'
    go_simp
    with_reducible rfl
  rotate_left
  · simp only [Act.put, List.setIfInBounds_toArray, List.set_cons_zero, List.set_cons_succ, i64_w, i32_w]
    rfl
  refine pure_ (i := 4) (N := some 17) (v := ?_) (a' := ?_) #[true, true, false, false, true, false, false, false, false, false, false, false, false, false, false, false, false, false, false] rfl rfl (by kernel_rfl) (fun _ _ _ h => h) (Or.inl ⟨by rfl, ?_⟩) ?_ ?_
  rotate_left
  · intro w'
    go_simp
    with_reducible rfl
  rotate_left
  · simp only [Act.put, List.setIfInBounds_toArray, List.set_cons_zero, List.set_cons_succ, i64_w, i32_w]
    rfl
  refine pure_ (i := 5) (N := some 18) (v := ?_) (a' := ?_) #[true, true, false, false, true, true, false, false, false, false, false, false, false, false, false, false, false, false, false] rfl rfl (by kernel_rfl) (fun _ _ _ h => h) (Or.inl ⟨by rfl, ?_⟩) ?_ ?_
  rotate_left
  · intro w'
    go_simp
    with_reducible rfl
  rotate_left
  · simp only [Act.put, List.setIfInBounds_toArray, List.set_cons_zero, List.set_cons_succ, i64_w, i32_w]
    rfl
  refine pure_ (i := 8) (N := some 21) (v := ?_) (a' := ?_) #[true, true, false, false, true, true, false, false, true, false, false, false, false, false, false, false, false, false, false] rfl rfl (by kernel_rfl) (fun _ _ _ h => h) (Or.inl ⟨by rfl, ?_⟩) ?_ ?_
  rotate_left
  · intro w'
    go_simp
    with_reducible rfl
  rotate_left
  · simp only [Act.put, List.setIfInBounds_toArray, List.set_cons_zero, List.set_cons_succ, i64_w, i32_w]
    rfl
  refine pure_ (i := 9) (N := some 22) (v := ?_) (a' := ?_) #[true, true, false, false, true, true, false, false, true, true, false, false, false, false, false, false, false, false, false] rfl rfl (by kernel_rfl) (fun _ _ _ h => h) (Or.inl ⟨by rfl, ?_⟩) ?_ ?_
  rotate_left
  · intro w'
    go_simp
    with_reducible rfl
  rotate_left
  · simp only [Act.put, List.setIfInBounds_toArray, List.set_cons_zero, List.set_cons_succ, i64_w, i32_w]
    rfl
  refine pure_ (i := 12) (N := some 25) (v := ?_) (a' := ?_) #[true, true, false, false, true, true, false, false, true, true, false, false, true, false, false, false, false, false, false] rfl rfl (by kernel_rfl) (fun _ _ _ h => h) (Or.inl ⟨by rfl, ?_⟩) ?_ ?_
  rotate_left
  · intro w'
    go_simp
    with_reducible rfl
  rotate_left
  · simp only [Act.put, List.setIfInBounds_toArray, List.set_cons_zero, List.set_cons_succ, i64_w, i32_w]
    rfl
  refine pure_ (i := 14) (N := some 27) (v := ?_) (a' := ?_) #[true, true, false, false, true, true, false, false, true, true, false, false, true, false, true, false, false, false, false] rfl rfl (by kernel_rfl) (fun _ _ _ h => h) (Or.inl ⟨by rfl, ?_⟩) ?_ ?_
  rotate_left
  · intro w'
    go_simp
    with_reducible rfl
  rotate_left
  · simp only [Act.put, List.setIfInBounds_toArray, List.set_cons_zero, List.set_cons_succ, i64_w, i32_w]
    rfl
  refine take_ (i := 2) (N := some 15) (v := ?_) (a' := ?_) #[true, true, true, false, true, true, false, false, true, true, false, false, true, false, true, false, false, false, false] rfl rfl (by kernel_rfl) (fun _ _ _ h => h) (Or.inl ⟨by rfl, ?_⟩) hHeld ?_ ?_
  rotate_left
  · rintro w' ⟨s0, s1, s2⟩
    go_simp
    with_reducible rfl
  rotate_left
  · simp only [Act.put, List.setIfInBounds_toArray, List.set_cons_zero, List.set_cons_succ, i64_w, i32_w]
    rfl
  refine pure_ (i := 3) (N := some 16) (v := ?_) (a' := ?_) #[true, true, true, true, true, true, false, false, true, true, false, false, true, false, true, false, false, false, false] rfl rfl (by kernel_rfl) (fun _ _ _ h => h) (Or.inl ⟨by rfl, ?_⟩) ?_ ?_
  rotate_left
  · intro w'
    go_simp
    with_reducible rfl
  rotate_left
  · simp only [Act.put, List.setIfInBounds_toArray, List.set_cons_zero, List.set_cons_succ, i64_w, i32_w]
    rfl
  refine take_ (i := 6) (N := some 19) (v := ?_) (a' := ?_) #[true, true, true, true, true, true, true, false, true, true, false, false, true, false, true, false, false, false, false] rfl rfl (by kernel_rfl) (fun _ _ _ h => h) (Or.inl ⟨by rfl, ?_⟩) hHeld ?_ ?_
  rotate_left
  · rintro w' ⟨s0, s1, s2⟩
    go_simp
    with_reducible rfl
  rotate_left
  · simp only [Act.put, List.setIfInBounds_toArray, List.set_cons_zero, List.set_cons_succ, i64_w, i32_w]
    rfl
  refine pure_ (i := 7) (N := some 20) (v := ?_) (a' := ?_) #[true, true, true, true, true, true, true, true, true, true, false, false, true, false, true, false, false, false, false] rfl rfl (by kernel_rfl) (fun _ _ _ h => h) (Or.inl ⟨by rfl, ?_⟩) ?_ ?_
  rotate_left
  · intro w'
    go_simp
    with_reducible rfl
  rotate_left
  · simp only [Act.put, List.setIfInBounds_toArray, List.set_cons_zero, List.set_cons_succ, i64_w, i32_w]
    rfl
  refine take_ (i := 10) (N := some 23) (v := ?_) (a' := ?_) #[true, true, true, true, true, true, true, true, true, true, true, false, true, false, true, false, false, false, false] rfl rfl (by kernel_rfl) (fun _ _ _ h => h) (Or.inl ⟨by rfl, ?_⟩) hHeld ?_ ?_
  rotate_left
  · rintro w' ⟨s0, s1, s2⟩
    go_simp
    with_reducible rfl
  rotate_left
  · simp only [Act.put, List.setIfInBounds_toArray, List.set_cons_zero, List.set_cons_succ, i64_w, i32_w]
    rfl
  refine pure_ (i := 11) (N := some 24) (v := ?_) (a' := ?_) #[true, true, true, true, true, true, true, true, true, true, true, true, true, false, true, false, false, false, false] rfl rfl (by kernel_rfl) (fun _ _ _ h => h) (Or.inl ⟨by rfl, ?_⟩) ?_ ?_
  rotate_left
  · intro w'
    go_simp
    with_reducible rfl
  rotate_left
  · simp only [Act.put, List.setIfInBounds_toArray, List.set_cons_zero, List.set_cons_succ, i64_w, i32_w]
    rfl
  refine join_ (σ := Unit) 1 #[true, true, true, true, true, true, true, true, true, true, true, true, true, true, true, true, true, true, false] (fun _ => [(26, .int .i64 (numL l 4 4)), (28, .int .i64 (numL l 8 4)), (29, .agg #[.int .i64 x0, .int .i64 x1, .int .i64 x12, .int .i64 (numL l 4 4), .int .i64 (numL l 8 4), .int .i64 0, .int .i64 0, .int .i64 0, .int .i64 0, .bool false, .int .i64 0, .slice none 0 0, .slice none 0 0]), (5, .pointer (some ⟨W1.heap.size, 0, none⟩))]) (fun _ w' => w'.heap[W1.heap.size]? = some (.cells zero13 26 (0, 0)) ∧ w'.heap[w.heap.size]? = some (.cells zero13 26 (0, 0)) ∧ Below w.heap.size w w') ?_ ?_
  rotate_left
  · intro hCont
    refine two_ (i := 13) (j := 17) (Ni := some 26) (Nj := some 5) #[true, true, true, true, true, true, true, true, true, true, true, true, true, true, true, false, false, false, false] #[true, true, true, true, true, true, true, true, true, true, true, true, true, false, true, false, false, true, false] rfl rfl rfl rfl (by kernel_rfl) (by decide) (by decide) (fun K hK => ?_) (fun K hK => ?_)
    · skip
      refine goes_ Try.func45 (by kernel_rfl) rfl #[.slice (some ad) l.length c, .int .i64 4, .int .i64 4] (by rfl) rfl rfl (by simp only [List.map_toArray, List.map_cons, List.map_nil]; rfl) ?_
      with_reducible refine (get_calls (l := l) 4 4 (iz := 4) (mz := 4) (by repeat (first | exact HR1.out | (with_reducible refine Kd.C_alloc ?_ _) | (with_reducible refine Kd.C_drewN ?_ _) | (with_reducible refine Kd.C_drew ?_))) rfl HC.out HY.out HL.out rfl rfl (by omega) (by have := H24.out; omega)).mono ?_
      rintro e w3 ⟨rfl, ⟨⟨nq, rfl⟩⟩⟩
      refine ⟨_, rfl, ?_⟩
      refine hK.out _ _ ⟨(HC0.out _ (by repeat (first | (with_reducible first | exact HBR.out | apply below_alloc | apply pw_below_drewN | apply below_drew1) | exact HBR.out))), (HC1.out _ (by repeat (first | (with_reducible first | exact HBR.out | apply below_alloc | apply pw_below_drewN | apply below_drew1) | exact HBR.out))), (HC12.out _ (by repeat (first | (with_reducible first | exact HBR.out | apply below_alloc | apply pw_below_drewN | apply below_drew1) | exact HBR.out)))⟩ (fun hHeld => ?_)
      clear hK K
      refine norm_ (a' := ?_) ?_ ?_
      rotate_left
      · show Act.put _ (some 26) _ = _
        simp only [Act.put, List.setIfInBounds_toArray, List.set_cons_zero, List.set_cons_succ, i64_w, i32_w]
        rfl
      refine two_ (i := 15) (j := 17) (Ni := some 28) (Nj := some 5) #[true, true, true, true, true, true, true, true, true, true, true, true, true, true, true, true, false, false, false] #[true, true, true, true, true, true, true, true, true, true, true, true, true, true, true, false, false, true, false] rfl rfl rfl rfl (by kernel_rfl) (by decide) (by decide) (fun K hK => ?_) (fun K hK => ?_)
      · skip
        refine goes_ Try.func45 (by kernel_rfl) rfl #[.slice (some ad) l.length c, .int .i64 8, .int .i64 4] (by rfl) rfl rfl (by simp only [List.map_toArray, List.map_cons, List.map_nil]; rfl) ?_
        with_reducible refine (get_calls (l := l) 8 4 (iz := 8) (mz := 4) (by repeat (first | exact HR1.out | (with_reducible refine Kd.C_alloc ?_ _) | (with_reducible refine Kd.C_drewN ?_ _) | (with_reducible refine Kd.C_drew ?_))) rfl HC.out HY.out HL.out rfl rfl (by omega) (by have := H24.out; omega)).mono ?_
        rintro e w3 ⟨rfl, ⟨⟨nq, rfl⟩⟩⟩
        refine ⟨_, rfl, ?_⟩
        refine hK.out _ _ ⟨(HC0.out _ (by repeat (first | (with_reducible first | exact HBR.out | apply below_alloc | apply pw_below_drewN | apply below_drew1) | exact HBR.out))), (HC1.out _ (by repeat (first | (with_reducible first | exact HBR.out | apply below_alloc | apply pw_below_drewN | apply below_drew1) | exact HBR.out))), (HC12.out _ (by repeat (first | (with_reducible first | exact HBR.out | apply below_alloc | apply pw_below_drewN | apply below_drew1) | exact HBR.out)))⟩ (fun hHeld => ?_)
        clear hK K
        refine norm_ (a' := ?_) ?_ ?_
        rotate_left
        · show Act.put _ (some 28) _ = _
          simp only [Act.put, List.setIfInBounds_toArray, List.set_cons_zero, List.set_cons_succ, i64_w, i32_w]
          rfl
        refine pure_ (i := 16) (N := some 29) (v := ?_) (a' := ?_) #[true, true, true, true, true, true, true, true, true, true, true, true, true, true, true, true, true, false, false] rfl rfl (by kernel_rfl) (fun _ _ _ h => h) (Or.inl ⟨by rfl, ?_⟩) ?_ ?_
        rotate_left
        · intro w'
          go_simp
          with_reducible rfl
        rotate_left
        · simp only [Act.put, List.setIfInBounds_toArray, List.set_cons_zero, List.set_cons_succ, i64_w, i32_w]
          rfl
        refine one_ (i := 17) (N := some 5) #[true, true, true, true, true, true, true, true, true, true, true, true, true, true, true, true, true, true, false] rfl rfl (by kernel_rfl) (by decide) (fun K hK => ?_)
        refine value_ (w1 := ?_) (v := ?_) (by rfl) rfl ?_ ?_
        rotate_left 2
        · go_simp
          constructor
          · rfl
          · rfl
        refine hK.out _ _ ⟨(HC0.out _ (by repeat (first | (with_reducible first | exact HBR.out | apply below_alloc | apply pw_below_drewN | apply below_drew1) | exact HBR.out))), (HC1.out _ (by repeat (first | (with_reducible first | exact HBR.out | apply below_alloc | apply pw_below_drewN | apply below_drew1) | exact HBR.out))), (HC12.out _ (by repeat (first | (with_reducible first | exact HBR.out | apply below_alloc | apply pw_below_drewN | apply below_drew1) | exact HBR.out)))⟩ (fun hHeld => ?_)
        clear hK K
        refine norm_ (a' := ?_) ?_ ?_
        rotate_left
        · show Act.put _ (some 5) _ = _
          simp only [Act.put, List.setIfInBounds_toArray, List.set_cons_zero, List.set_cons_succ, i64_w, i32_w]
          rfl
        exact norm_ (by simp only [putAll, Act.put, List.setIfInBounds_toArray, List.set_cons_zero, List.set_cons_succ]) (hCont () _ ⟨new_blk W1 _, (by refine Eq.trans (Below.block (B := W1.heap.size) (w := W1) ?_ _ HG2.out) HK1.out; repeat (first | (with_reducible first | exact HBS.out | apply below_alloc | apply pw_below_drewN | apply below_drew1) | exact HBS.out)), (by repeat (first | (with_reducible first | exact HBR.out | apply below_alloc | apply pw_below_drewN | apply below_drew1) | exact HBR.out))⟩)
      · skip
        refine value_ (w1 := ?_) (v := ?_) (by rfl) rfl ?_ ?_
        rotate_left 2
        · go_simp
          constructor
          · rfl
          · rfl
        refine hK.out _ _ ⟨(HC0.out _ (by repeat (first | (with_reducible first | exact HBR.out | apply below_alloc | apply pw_below_drewN | apply below_drew1) | exact HBR.out))), (HC1.out _ (by repeat (first | (with_reducible first | exact HBR.out | apply below_alloc | apply pw_below_drewN | apply below_drew1) | exact HBR.out))), (HC12.out _ (by repeat (first | (with_reducible first | exact HBR.out | apply below_alloc | apply pw_below_drewN | apply below_drew1) | exact HBR.out)))⟩ (fun hHeld => ?_)
        clear hK K
        refine norm_ (a' := ?_) ?_ ?_
        rotate_left
        · show Act.put _ (some 5) _ = _
          simp only [Act.put, List.setIfInBounds_toArray, List.set_cons_zero, List.set_cons_succ, i64_w, i32_w]
          rfl
        refine one_ (i := 15) (N := some 28) #[true, true, true, true, true, true, true, true, true, true, true, true, true, true, true, true, false, true, false] rfl rfl (by kernel_rfl) (by decide) (fun K hK => ?_)
        refine goes_ Try.func45 (by kernel_rfl) rfl #[.slice (some ad) l.length c, .int .i64 8, .int .i64 4] (by rfl) rfl rfl (by simp only [List.map_toArray, List.map_cons, List.map_nil]; rfl) ?_
        with_reducible refine (get_calls (l := l) 8 4 (iz := 8) (mz := 4) (by repeat (first | exact HR1.out | (with_reducible refine Kd.C_alloc ?_ _) | (with_reducible refine Kd.C_drewN ?_ _) | (with_reducible refine Kd.C_drew ?_))) rfl HC.out HY.out HL.out rfl rfl (by omega) (by have := H24.out; omega)).mono ?_
        rintro e w3 ⟨rfl, ⟨⟨nq, rfl⟩⟩⟩
        refine ⟨_, rfl, ?_⟩
        refine hK.out _ _ ⟨(HC0.out _ (by repeat (first | (with_reducible first | exact HBR.out | apply below_alloc | apply pw_below_drewN | apply below_drew1) | exact HBR.out))), (HC1.out _ (by repeat (first | (with_reducible first | exact HBR.out | apply below_alloc | apply pw_below_drewN | apply below_drew1) | exact HBR.out))), (HC12.out _ (by repeat (first | (with_reducible first | exact HBR.out | apply below_alloc | apply pw_below_drewN | apply below_drew1) | exact HBR.out)))⟩ (fun hHeld => ?_)
        clear hK K
        refine norm_ (a' := ?_) ?_ ?_
        rotate_left
        · show Act.put _ (some 28) _ = _
          simp only [Act.put, List.setIfInBounds_toArray, List.set_cons_zero, List.set_cons_succ, i64_w, i32_w]
          rfl
        refine pure_ (i := 16) (N := some 29) (v := ?_) (a' := ?_) #[true, true, true, true, true, true, true, true, true, true, true, true, true, true, true, true, true, true, false] rfl rfl (by kernel_rfl) (fun _ _ _ h => h) (Or.inl ⟨by rfl, ?_⟩) ?_ ?_
        rotate_left
        · intro w'
          go_simp
          with_reducible rfl
        rotate_left
        · simp only [Act.put, List.setIfInBounds_toArray, List.set_cons_zero, List.set_cons_succ, i64_w, i32_w]
          rfl
        exact norm_ (by simp only [putAll, Act.put, List.setIfInBounds_toArray, List.set_cons_zero, List.set_cons_succ]) (hCont () _ ⟨new_blk W1 _, (by refine Eq.trans (Below.block (B := W1.heap.size) (w := W1) ?_ _ HG2.out) HK1.out; repeat (first | (with_reducible first | exact HBS.out | apply below_alloc | apply pw_below_drewN | apply below_drew1) | exact HBS.out)), (by repeat (first | (with_reducible first | exact HBR.out | apply below_alloc | apply pw_below_drewN | apply below_drew1) | exact HBR.out))⟩)
    · skip
      refine value_ (w1 := ?_) (v := ?_) (by rfl) rfl ?_ ?_
      rotate_left 2
      · go_simp
        constructor
        · rfl
        · rfl
      refine hK.out _ _ ⟨(HC0.out _ (by repeat (first | (with_reducible first | exact HBR.out | apply below_alloc | apply pw_below_drewN | apply below_drew1) | exact HBR.out))), (HC1.out _ (by repeat (first | (with_reducible first | exact HBR.out | apply below_alloc | apply pw_below_drewN | apply below_drew1) | exact HBR.out))), (HC12.out _ (by repeat (first | (with_reducible first | exact HBR.out | apply below_alloc | apply pw_below_drewN | apply below_drew1) | exact HBR.out)))⟩ (fun hHeld => ?_)
      clear hK K
      refine norm_ (a' := ?_) ?_ ?_
      rotate_left
      · show Act.put _ (some 5) _ = _
        simp only [Act.put, List.setIfInBounds_toArray, List.set_cons_zero, List.set_cons_succ, i64_w, i32_w]
        rfl
      refine one_ (i := 13) (N := some 26) #[true, true, true, true, true, true, true, true, true, true, true, true, true, true, true, false, false, true, false] rfl rfl (by kernel_rfl) (by decide) (fun K hK => ?_)
      refine goes_ Try.func45 (by kernel_rfl) rfl #[.slice (some ad) l.length c, .int .i64 4, .int .i64 4] (by rfl) rfl rfl (by simp only [List.map_toArray, List.map_cons, List.map_nil]; rfl) ?_
      with_reducible refine (get_calls (l := l) 4 4 (iz := 4) (mz := 4) (by repeat (first | exact HR1.out | (with_reducible refine Kd.C_alloc ?_ _) | (with_reducible refine Kd.C_drewN ?_ _) | (with_reducible refine Kd.C_drew ?_))) rfl HC.out HY.out HL.out rfl rfl (by omega) (by have := H24.out; omega)).mono ?_
      rintro e w3 ⟨rfl, ⟨⟨nq, rfl⟩⟩⟩
      refine ⟨_, rfl, ?_⟩
      refine hK.out _ _ ⟨(HC0.out _ (by repeat (first | (with_reducible first | exact HBR.out | apply below_alloc | apply pw_below_drewN | apply below_drew1) | exact HBR.out))), (HC1.out _ (by repeat (first | (with_reducible first | exact HBR.out | apply below_alloc | apply pw_below_drewN | apply below_drew1) | exact HBR.out))), (HC12.out _ (by repeat (first | (with_reducible first | exact HBR.out | apply below_alloc | apply pw_below_drewN | apply below_drew1) | exact HBR.out)))⟩ (fun hHeld => ?_)
      clear hK K
      refine norm_ (a' := ?_) ?_ ?_
      rotate_left
      · show Act.put _ (some 26) _ = _
        simp only [Act.put, List.setIfInBounds_toArray, List.set_cons_zero, List.set_cons_succ, i64_w, i32_w]
        rfl
      refine one_ (i := 15) (N := some 28) #[true, true, true, true, true, true, true, true, true, true, true, true, true, true, true, true, false, true, false] rfl rfl (by kernel_rfl) (by decide) (fun K hK => ?_)
      refine goes_ Try.func45 (by kernel_rfl) rfl #[.slice (some ad) l.length c, .int .i64 8, .int .i64 4] (by rfl) rfl rfl (by simp only [List.map_toArray, List.map_cons, List.map_nil]; rfl) ?_
      with_reducible refine (get_calls (l := l) 8 4 (iz := 8) (mz := 4) (by repeat (first | exact HR1.out | (with_reducible refine Kd.C_alloc ?_ _) | (with_reducible refine Kd.C_drewN ?_ _) | (with_reducible refine Kd.C_drew ?_))) rfl HC.out HY.out HL.out rfl rfl (by omega) (by have := H24.out; omega)).mono ?_
      rintro e w3 ⟨rfl, ⟨⟨nq, rfl⟩⟩⟩
      refine ⟨_, rfl, ?_⟩
      refine hK.out _ _ ⟨(HC0.out _ (by repeat (first | (with_reducible first | exact HBR.out | apply below_alloc | apply pw_below_drewN | apply below_drew1) | exact HBR.out))), (HC1.out _ (by repeat (first | (with_reducible first | exact HBR.out | apply below_alloc | apply pw_below_drewN | apply below_drew1) | exact HBR.out))), (HC12.out _ (by repeat (first | (with_reducible first | exact HBR.out | apply below_alloc | apply pw_below_drewN | apply below_drew1) | exact HBR.out)))⟩ (fun hHeld => ?_)
      clear hK K
      refine norm_ (a' := ?_) ?_ ?_
      rotate_left
      · show Act.put _ (some 28) _ = _
        simp only [Act.put, List.setIfInBounds_toArray, List.set_cons_zero, List.set_cons_succ, i64_w, i32_w]
        rfl
      refine pure_ (i := 16) (N := some 29) (v := ?_) (a' := ?_) #[true, true, true, true, true, true, true, true, true, true, true, true, true, true, true, true, true, true, false] rfl rfl (by kernel_rfl) (fun _ _ _ h => h) (Or.inl ⟨by rfl, ?_⟩) ?_ ?_
      rotate_left
      · intro w'
        go_simp
        with_reducible rfl
      rotate_left
      · simp only [Act.put, List.setIfInBounds_toArray, List.set_cons_zero, List.set_cons_succ, i64_w, i32_w]
        rfl
      exact norm_ (by simp only [putAll, Act.put, List.setIfInBounds_toArray, List.set_cons_zero, List.set_cons_succ]) (hCont () _ ⟨new_blk W1 _, (by refine Eq.trans (Below.block (B := W1.heap.size) (w := W1) ?_ _ HG2.out) HK1.out; repeat (first | (with_reducible first | exact HBS.out | apply below_alloc | apply pw_below_drewN | apply below_drew1) | exact HBS.out)), (by repeat (first | (with_reducible first | exact HBR.out | apply below_alloc | apply pw_below_drewN | apply below_drew1) | exact HBR.out))⟩)
  rintro ⟨⟩ w3 ⟨hz3, hy3, hb3⟩
  have hHeld : w3.cell? ad = some (.int .u8 x0) ∧ w3.cell? ⟨ad.block, ad.off + 1, none⟩ = some (.int .u8 x1) ∧ w3.cell? ⟨ad.block, ad.off + 12, none⟩ = some (.int .u8 x12) := ⟨HC0.out _ hb3, HC1.out _ hb3, HC12.out _ hb3⟩
  refine norm_ (a' := ?_) ?_ ?_
  rotate_left
  · simp only [putAll, Act.put, List.setIfInBounds_toArray, List.set_cons_zero, List.set_cons_succ]
    rfl
  refine one_ (i := 18) (N := none) #[true, true, true, true, true, true, true, true, true, true, true, true, true, true, true, true, true, true, true] rfl rfl (by kernel_rfl) (by decide) (fun K hK => ?_)
  obtain ⟨k0, k1, k2, k3, k4, k5, k6, k7, k8, k9, k10, k11, k12⟩ := c13 hz3
  obtain ⟨z0, z1, z2, z3, z4, z5, z6, z7, z8, z9, z10, z11, z12⟩ := f13 hz3
  refine skip_ (w1 := ?_) (by rfl) rfl ?_ ?_
  rotate_left
  · go_simp
    rfl
  refine hK.out _ _ ⟨(HC0.out _ (lay13_below hb3 HG1.out _ _ _ _ _ _ _ _ _ _ _ _ _)), (HC1.out _ (lay13_below hb3 HG1.out _ _ _ _ _ _ _ _ _ _ _ _ _)), (HC12.out _ (lay13_below hb3 HG1.out _ _ _ _ _ _ _ _ _ _ _ _ _))⟩ (fun hHeld => ?_)
  clear hK K
  refine done_ (by kernel_rfl) ?_
  generalize hW : World.setCell _ _ _ = W4
  have hz4 : W4.heap[W1.heap.size]? = some (.cells #[(.int .i64 x0), (.int .i64 x1), (.int .i64 x12), (.int .i64 (numL l 4 4)), (.int .i64 (numL l 8 4)), (.int .i64 0), (.int .i64 0), (.int .i64 0), (.int .i64 0), (.bool false), (.int .i64 0), (.slice none 0 0), (.slice none 0 0)] 26 (0, 0)) := by rw [← hW]; exact lay13_blk hz3 rfl (.int .i64 x0) (.int .i64 x1) (.int .i64 x12) (.int .i64 (numL l 4 4)) (.int .i64 (numL l 8 4)) (.int .i64 0) (.int .i64 0) (.int .i64 0) (.int .i64 0) (.bool false) (.int .i64 0) (.slice none 0 0) (.slice none 0 0)
  have hy4 : W4.heap[w.heap.size]? = some (.cells zero13 26 (0, 0)) := by rw [← hW]; exact (lay13_far (Nat.ne_of_lt HG2.out) (.int .i64 x0) (.int .i64 x1) (.int .i64 x12) (.int .i64 (numL l 4 4)) (.int .i64 (numL l 8 4)) (.int .i64 0) (.int .i64 0) (.int .i64 0) (.int .i64 0) (.bool false) (.int .i64 0) (.slice none 0 0) (.slice none 0 0)).trans hy3
  have HB4 := Aside0.mk (show Below w.heap.size w W4 from by rw [← hW]; exact lay13_below hb3 HG1.out (.int .i64 x0) (.int .i64 x1) (.int .i64 x12) (.int .i64 (numL l 4 4)) (.int .i64 (numL l 8 4)) (.int .i64 0) (.int .i64 0) (.int .i64 0) (.int .i64 0) (.bool false) (.int .i64 0) (.slice none 0 0) (.slice none 0 0))
  have HZ4 := Aside0.mk hz4
  have HY4 := Aside0.mk hy4
  obtain ⟨g, HGE⟩ : ∃ g, W1.heap.size = g := ⟨_, rfl⟩
  rw [HGE] at HZ4 HG1 HG2 hz4 ⊢
  have HGL := Aside0.mk (show g < W4.heap.size from blk_lt hz4)
  clear hHeld hW hz3 hy3 hb3 k0 k1 k2 k3 k4 k5 k6 k7 k8 k9 k10 k11 k12 z0 z1 z2 z3 z4 z5 z6 z7 z8 z9 z10 z11 z12
  obtain ⟨k0, k1, k2, k3, k4, k5, k6, k7, k8, k9, k10, k11, k12⟩ := c13 hz4
  obtain ⟨z0, z1, z2, z3, z4, z5, z6, z7, z8, z9, z10, z11, z12⟩ := f13 hz4
  clear hz4 hy4
  clear HBR HR1 HBS HK1
  have HBW := Aside0.mk HB4.out
  have HPE := Aside0.mk (show parseL l = (⟨x0, x1, x12, numL l 4 4, numL l 8 4, numL l 16 2, numL l 18 2, 0, numL l 20 2, numL l 22 2 == 0, 0, [], (l.take l.length).drop 24⟩, 0) from by
    unfold parseL
    rw [if_neg (fun h => h HE.out), if_neg (by rw [HKD.out]; decide), if_pos HKD.out, List.take_length, EE.out.2.1, EE.out.2.2.1, ← EE.out.1, HKD.out])
  have G16 := Aside0.mk (fun W (h : Below w.heap.size w W) => get_calls (l := l) (w := W) 16 2 (iz := 16) (mz := 2) (Kd.C_below HR.out h) rfl HC.out HY.out HL.out rfl rfl (by omega) (by have := H24.out; omega))
  have G18 := Aside0.mk (fun W (h : Below w.heap.size w W) => get_calls (l := l) (w := W) 18 2 (iz := 18) (mz := 2) (Kd.C_below HR.out h) rfl HC.out HY.out HL.out rfl rfl (by omega) (by have := H24.out; omega))
  have G20 := Aside0.mk (fun W (h : Below w.heap.size w W) => get_calls (l := l) (w := W) 20 2 (iz := 20) (mz := 2) (Kd.C_below HR.out h) rfl HC.out HY.out HL.out rfl rfl (by omega) (by have := H24.out; omega))
  have G22 := Aside0.mk (fun W (h : Below w.heap.size w W) => get_calls (l := l) (w := W) 22 2 (iz := 22) (mz := 2) (Kd.C_below HR.out h) rfl HC.out HY.out HL.out rfl rfl (by omega) (by have := H24.out; omega))
  go_upto_region 19 with (first | (go_at_call 45; (with_reducible refine (G16.out _ ?hb).mono ?_); (case hb => (repeat (first | with_reducible exact HBW.out | with_reducible apply pw_below_drewN | (refine Below.setCell ?_ HG1.out _)))); rintro e w3 ⟨rfl, ⟨⟨nq, rfl⟩⟩⟩) | (go_at_call 45; (with_reducible refine (G18.out _ ?hb).mono ?_); (case hb => (repeat (first | with_reducible exact HBW.out | with_reducible apply pw_below_drewN | (refine Below.setCell ?_ HG1.out _)))); rintro e w3 ⟨rfl, ⟨⟨nq, rfl⟩⟩⟩))
  generalize hW : World.setCell _ _ _ = W5
  have hz5 : W5.heap[g]? = some (.cells #[.int .i64 x0, .int .i64 x1, .int .i64 x12, .int .i64 (numL l 4 4), .int .i64 (numL l 8 4), .int .i64 (numL l 16 2), .int .i64 (numL l 18 2), .int .i64 0, .int .i64 0, .bool false, .int .i64 0, .slice none 0 0, .slice none 0 0] 26 (0, 0)) := by
    rw [← hW]
    have h := (set_blk ((set_blk (HZ4.out) 5 (.int .i64 (numL l 16 2)))) 6 (.int .i64 (numL l 18 2)))
    simp only [List.setIfInBounds_toArray, List.set_cons_zero, List.set_cons_succ] at h
    exact h
  have hy5 : W5.heap[w.heap.size]? = some (.cells zero13 26 (0, 0)) := by
    rw [← hW]
    exact (Below.heap_setCell _ ⟨g, 6, none⟩ (.int .i64 (numL l 18 2)) w.heap.size (Nat.ne_of_lt HG2.out)).trans ((Below.heap_setCell _ ⟨g, 5, none⟩ (.int .i64 (numL l 16 2)) w.heap.size (Nat.ne_of_lt HG2.out)).trans (HY4.out))
  have HB5 : Aside0 (Below w.heap.size w W5) := Aside0.mk (by
    rw [← hW]
    repeat (first | with_reducible exact HB4.out | with_reducible apply pw_below_drewN | (refine Below.setCell ?_ HG1.out _)))
  have HZ5 := Aside0.mk hz5
  have HY5 := Aside0.mk hy5
  clear hW k0 k1 k2 k3 k4 k5 k6 k7 k8 k9 k10 k11 k12 z0 z1 z2 z3 z4 z5 z6 z7 z8 z9 z10 z11 z12
  obtain ⟨k0, k1, k2, k3, k4, k5, k6, k7, k8, k9, k10, k11, k12⟩ := c13 hz5
  obtain ⟨z0, z1, z2, z3, z4, z5, z6, z7, z8, z9, z10, z11, z12⟩ := f13 hz5
  clear hz5 hy5
  clear HBW
  have HBW := Aside0.mk HB5.out
  go_upto_region 20 with (first | (go_at_call 45; (with_reducible refine (G20.out _ ?hb).mono ?_); (case hb => (repeat (first | with_reducible exact HBW.out | with_reducible apply pw_below_drewN | (refine Below.setCell ?_ HG1.out _)))); rintro e w3 ⟨rfl, ⟨⟨nq, rfl⟩⟩⟩) | (go_at_call 45; (with_reducible refine (G22.out _ ?hb).mono ?_); (case hb => (repeat (first | with_reducible exact HBW.out | with_reducible apply pw_below_drewN | (refine Below.setCell ?_ HG1.out _)))); rintro e w3 ⟨rfl, ⟨⟨nq, rfl⟩⟩⟩))
  generalize hW : World.setCell _ _ _ = W6
  have hz6 : W6.heap[g]? = some (.cells #[.int .i64 x0, .int .i64 x1, .int .i64 x12, .int .i64 (numL l 4 4), .int .i64 (numL l 8 4), .int .i64 (numL l 16 2), .int .i64 (numL l 18 2), .int .i64 0, .int .i64 (numL l 20 2), .bool (numL l 22 2 == 0), .int .i64 0, .slice none 0 0, .slice none 0 0] 26 (0, 0)) := by
    rw [← hW]
    have h := (set_blk ((set_blk (HZ5.out) 8 (.int .i64 (numL l 20 2)))) 9 (.bool (numL l 22 2 == 0)))
    simp only [List.setIfInBounds_toArray, List.set_cons_zero, List.set_cons_succ] at h
    exact h
  have hy6 : W6.heap[w.heap.size]? = some (.cells zero13 26 (0, 0)) := by
    rw [← hW]
    exact (Below.heap_setCell _ ⟨g, 9, none⟩ (.bool (numL l 22 2 == 0)) w.heap.size (Nat.ne_of_lt HG2.out)).trans ((Below.heap_setCell _ ⟨g, 8, none⟩ (.int .i64 (numL l 20 2)) w.heap.size (Nat.ne_of_lt HG2.out)).trans (HY5.out))
  have HB6 : Aside0 (Below w.heap.size w W6) := Aside0.mk (by
    rw [← hW]
    repeat (first | with_reducible exact HB5.out | with_reducible apply pw_below_drewN | (refine Below.setCell ?_ HG1.out _)))
  have HZ6 := Aside0.mk hz6
  have HY6 := Aside0.mk hy6
  clear hW k0 k1 k2 k3 k4 k5 k6 k7 k8 k9 k10 k11 k12 z0 z1 z2 z3 z4 z5 z6 z7 z8 z9 z10 z11 z12
  obtain ⟨k0, k1, k2, k3, k4, k5, k6, k7, k8, k9, k10, k11, k12⟩ := c13 hz6
  obtain ⟨z0, z1, z2, z3, z4, z5, z6, z7, z8, z9, z10, z11, z12⟩ := f13 hz6
  clear hz6 hy6
  obtain ⟨A3, hcut3, hC3⟩ := cut3 (A := some ad) (c := c) (l := l) (24) l.length (l.length - (24)) (iz := 24) (jz := (l.length : Int)) (by have := HLE.out; omega) rfl rfl (by have := HLE.out; omega) (Nat.le_refl _) rfl HC.out
  have HC3 := Aside0.mk (fun W (h : Below w.heap.size w W) => hC3 W (Kd.C_below HR.out h))
  clear hC3
  go_upto_region 21 with (first
    | (go_at_call 46; refine (clone_calls (HC3.out _ HB6.out) (C_len (HC3.out w (Below.refl _ _))) (Nat.le_refl _) (by rw [C_len (HC3.out w (Below.refl _ _))]; have := HL.out; omega)).mono ?_; rintro e w6 ⟨v, rfl, ho, hb6⟩; obtain ⟨Av, cv, ev⟩ := Kd.R_slice ho; rw [C_len (HC3.out w (Below.refl _ _))] at ev; subst ev; have HZc := Aside0.mk ((hb6.block g (blk_lt HZ6.out)).trans HZ6.out); have HYc := Aside0.mk ((hb6.block w.heap.size (blk_lt HY6.out)).trans HY6.out); have HO := Aside0.mk ho; have HF6 := Aside0.mk (show ∀ k, k < W6.heap.size → w6.heap[k]? = W6.heap[k]? from hb6.block); have HLT := Aside0.mk (blk_lt HZ6.out); have HBc := Aside0.mk (below_step HB6.out hb6); clear ho hb6 k0 k1 k2 k3 k4 k5 k6 k7 k8 k9 k10 k11 k12 z0 z1 z2 z3 z4 z5 z6 z7 z8 z9 z10 z11 z12; obtain ⟨k0, k1, k2, k3, k4, k5, k6, k7, k8, k9, k10, k11, k12⟩ := c13 HZc.out; obtain ⟨z0, z1, z2, z3, z4, z5, z6, z7, z8, z9, z10, z11, z12⟩ := f13 HZc.out))
  clear k0 k1 k2 k3 k4 k5 k6 k7 k8 k9 k10 k11 k12 z0 z1 z2 z3 z4 z5 z6 z7 z8 z9 z10 z11 z12 hcut3
  have hz7 := set_blk HZc.out 12 (.slice Av (l.length - (24)) cv)
  simp only [List.setIfInBounds_toArray, List.set_cons_zero, List.set_cons_succ] at hz7
  have hy7 := (Below.heap_setCell w6 ⟨g, 12, none⟩ (.slice Av (l.length - (24)) cv) w.heap.size (Nat.ne_of_lt HG2.out)).trans HYc.out
  have HB7 := Aside0.mk (HBc.out.setCell (p := ⟨g, 12, none⟩) HG1.out (.slice Av (l.length - (24)) cv))
  have HF7 := Aside0.mk (show ∀ k, k ≠ g → (w6.setCell ⟨g, 12, none⟩ (.slice Av (l.length - (24)) cv)).heap[k]? = w6.heap[k]? from fun k hk => Below.heap_setCell w6 ⟨g, 12, none⟩ _ k hk)
  generalize w6.setCell ⟨g, 12, none⟩ (.slice Av (l.length - (24)) cv) = W7 at hz7 hy7 HB7 HF7 ⊢
  obtain ⟨k0, k1, k2, k3, k4, k5, k6, k7, k8, k9, k10, k11, k12⟩ := c13 hz7
  obtain ⟨y0, y1, y2, y3, y4, y5, y6, y7, y8, y9, y10, y11, y12⟩ := c13 hy7
  obtain ⟨u0, u1, u2, u3, u4, u5, u6, u7, u8, u9, u10, u11, u12⟩ := f13 hy7
  clear hz7 hy7
  go_wp2
  (try simp only [Exit.inBlock, Exit.then])
  refine bodyPost_ret (v := .tuple #[.agg #[.int .i64 x0, .int .i64 x1, .int .i64 x12, .int .i64 (numL l 4 4), .int .i64 (numL l 8 4), .int .i64 (numL l 16 2), .int .i64 (numL l 18 2), .int .i64 0, .int .i64 (numL l 20 2), .bool (numL l 22 2 == 0), .int .i64 0, .slice none 0 0, .slice Av (l.length - (24)) cv], .int .i64 0]) ?_ rfl (parsed_ok (v1 := .slice none 0 0) (v2 := .slice Av (l.length - (24)) cv) HPE.out (Kd.R_nil _ _ _ _ _) (RB_move HO.out (Nat.le_of_lt (Nat.lt_trans HG2.out HLT.out)) ?_) ?_ ?_)
  · rw [results_cell_tmp rfl]
    go_simp
  · intro k hk _
    have h1 := HG2.out
    have h2 := HLT.out
    exact (lay13_far (by omega) _ _ _ _ _ _ _ _ _ _ _ _ _).trans (HF7.out k (by omega))
  · intro k hk; simp [Value.ownBlock] at hk
  · exact lay13_below HB7.out (Nat.le_refl _) _ _ _ _ _ _ _ _ _ _ _ _ _
end Go.Proofs.Ytbjhmifhmojaoaa.WB

namespace Go.Proofs.Ytbjhmifhmojaoaa.WB
set_option linter.unusedVariables false
set_option linter.unusedSimpArgs false
open Go.RowKit Go.Proofs.Ytbjhmifhmojaoaa.Hp Go.Proofs.Ytbjhmifhmojaoaa.SB Go.Proofs.YtbjhmifhmojaoaaW.PrintWords Go.Proofs.YtbjhmifhmojaoaaW.PrintLast Go.Proofs.YtbjhmifhmojaoaaW.PrintMore
set_option maxHeartbeats 8000000 in
set_option maxRecDepth 100000 in
theorem parse_stream {c : Nat} {A : Option Addr} {l : List Int} {w : World} (hr : Kd.C (Kd.int .u8) w A l.length l) (hc : l.length ≤ c) (hl : l.length ≤ 100000) (hb : Bytes l) (he : headE l = 0) (h24 : 24 ≤ l.length) (hk : l.getD 0 0 = 1) :
    Calls Try.prog 19 #[.slice A l.length c] w (Parsed w l) := by
  have HR := Aside0.mk hr
  have HC := Aside0.mk hc
  have HL := Aside0.mk hl
  have HY := Aside0.mk hb
  have HBW := fun o => Kd.C_alloc hr o
  have hbe : (headE l == 0) = true := beq_iff_eq.mpr he
  have hbn : (headE l != 0) = false := by rw [he]; rfl
  have HE := Aside0.mk he
  have HKD := Aside0.mk hk
  have H24 := Aside0.mk (show 24 ≤ l.length by omega)
  have HLE := Aside0.mk h24
  obtain ⟨ad, rfl, hcell⟩ := cells_of hr (by omega)
  have c0 := hcell 0 (by omega)
  rw [Addr.add_zero'] at c0
  have b0 := getD_byte hb 0
  obtain ⟨x0, e0⟩ : ∃ x, l.getD 0 0 = x := ⟨_, rfl⟩
  rw [e0] at c0 b0
  have w0 : wrap64 x0 = x0 := wid (by omega) (by omega)
  have i0 : (0 : Int) < (l.length : Int) := by omega
  have c1 : w.cell? ⟨ad.block, ad.off + 1, none⟩ = _ := hcell 1 (by omega)
  have b1 := getD_byte hb 1
  obtain ⟨x1, e1⟩ : ∃ x, l.getD 1 0 = x := ⟨_, rfl⟩
  rw [e1] at c1 b1
  have w1 : wrap64 x1 = x1 := wid (by omega) (by omega)
  have i1 : (1 : Int) < (l.length : Int) := by omega
  have c12 : w.cell? ⟨ad.block, ad.off + 12, none⟩ = _ := hcell 12 (by omega)
  have b12 := getD_byte hb 12
  obtain ⟨x12, e12⟩ : ∃ x, l.getD 12 0 = x := ⟨_, rfl⟩
  rw [e12] at c12 b12
  have w12 : wrap64 x12 = x12 := wid (by omega) (by omega)
  have i12 : (12 : Int) < (l.length : Int) := by omega
  have c20 : w.cell? ⟨ad.block, ad.off + 20, none⟩ = _ := hcell 20 (by omega)
  have b20 := getD_byte hb 20
  obtain ⟨x20, e20⟩ : ∃ x, l.getD 20 0 = x := ⟨_, rfl⟩
  rw [e20] at c20 b20
  have w20 : wrap64 x20 = x20 := wid (by omega) (by omega)
  have i20 : (20 : Int) < (l.length : Int) := by omega
  have c21 : w.cell? ⟨ad.block, ad.off + 21, none⟩ = _ := hcell 21 (by omega)
  have b21 := getD_byte hb 21
  obtain ⟨x21, e21⟩ : ∃ x, l.getD 21 0 = x := ⟨_, rfl⟩
  rw [e21] at c21 b21
  have w21 : wrap64 x21 = x21 := wid (by omega) (by omega)
  have i21 : (21 : Int) < (l.length : Int) := by omega
  have i0n : 0 < l.length := by omega
  have HC0 := Aside0.mk (show ∀ W, Below w.heap.size w W → W.cell? ad = some (.int .u8 x0) from fun W h => (h.cell (World.block_lt_of_cell? w _ c0)).trans c0)
  have HC1 := Aside0.mk (show ∀ W, Below w.heap.size w W → W.cell? ⟨ad.block, ad.off + 1, none⟩ = some (.int .u8 x1) from fun W h => (h.cell (World.block_lt_of_cell? w _ c1)).trans c1)
  have HC12 := Aside0.mk (show ∀ W, Below w.heap.size w W → W.cell? ⟨ad.block, ad.off + 12, none⟩ = some (.int .u8 x12) from fun W h => (h.cell (World.block_lt_of_cell? w _ c12)).trans c12)
  have HC20 := Aside0.mk (show ∀ W, Below w.heap.size w W → W.cell? ⟨ad.block, ad.off + 20, none⟩ = some (.int .u8 x20) from fun W h => (h.cell (World.block_lt_of_cell? w _ c20)).trans c20)
  have HC21 := Aside0.mk (show ∀ W, Below w.heap.size w W → W.cell? ⟨ad.block, ad.off + 21, none⟩ = some (.int .u8 x21) from fun W h => (h.cell (World.block_lt_of_cell? w _ c21)).trans c21)
  have EE := Aside0.mk (And.intro e0 (And.intro e1 (And.intro e12 (And.intro e20 (And.intro e21 trivial)))))
  clear hcell c0 c1 c12 c20 c21 e0 e1 e12 e20 e21
  rw [EE.out.1] at hk
  have q3 : (x0 == 3) = false := by rw [hk]; rfl
  have q2 : (x0 == 2) = false := by rw [hk]; rfl
  clear he hr hc hl hb h24 hk
  go_enter Try.func19, Try.ntmps19
  go_upto_region 4 with (first
    | (go_at_call 44; refine (head_calls (HBW _) rfl HC.out HY.out HL.out).mono ?_; rintro e w1 ⟨rfl, ⟨⟨nd, rfl⟩⟩⟩))
  have HBR := Aside0.mk (bd ((Below.refl w.heap.size w).alloc (Nat.le_refl _) (.cells zero13 26)) nd)
  have HK1 := Aside0.mk (show (((w.alloc (.cells zero13 26)).drewN nd).heap[w.heap.size]? = some (.cells zero13 26 (0, 0))) from new_blk w _)
  have HR1 := Aside0.mk (Kd.C_drewN (HBW (.cells zero13 26)) nd)
  have HG1 := Aside0.mk (show w.heap.size ≤ ((w.alloc (.cells zero13 26)).drewN nd).heap.size from HBR.out.size)
  have HG2 := Aside0.mk (show w.heap.size < ((w.alloc (.cells zero13 26)).drewN nd).heap.size from blk_lt HK1.out)
  change Code.wp _ _ _ _ ((w.alloc (.cells zero13 26)).drewN nd)
  generalize ((w.alloc (.cells zero13 26)).drewN nd) = W1 at HBR HK1 HR1 HG1 HG2 ⊢
  have HBS := Aside0.mk (Below.refl W1.heap.size W1)
  clear HBW nd
  refine start_ (n := 19) (S := fun w' => w'.cell? ad = some (.int .u8 x0) ∧ w'.cell? ⟨ad.block, ad.off + 1, none⟩ = some (.int .u8 x1) ∧ w'.cell? ⟨ad.block, ad.off + 12, none⟩ = some (.int .u8 x12)) (ds := []) #[false, false, false, false, false, false, false, false, false, false, false, false, false, false, false, false, false, false, false] (by kernel_rfl) rfl rfl ⟨(HC0.out _ (by repeat (first | (with_reducible first | exact HBR.out | apply below_alloc | apply pw_below_drewN | apply below_drew1) | exact HBR.out))), (HC1.out _ (by repeat (first | (with_reducible first | exact HBR.out | apply below_alloc | apply pw_below_drewN | apply below_drew1) | exact HBR.out))), (HC12.out _ (by repeat (first | (with_reducible first | exact HBR.out | apply below_alloc | apply pw_below_drewN | apply below_drew1) | exact HBR.out)))⟩ (fun hHeld => ?_)
  refine pure_ (i := 0) (N := some 13) (v := ?_) (a' := ?_) #[true, false, false, false, false, false, false, false, false, false, false, false, false, false, false, false, false, false, false] rfl rfl (by kernel_rfl) (fun _ _ _ h => h) (Or.inl ⟨by rfl, ?_⟩) ?_ ?_
  rotate_left
  · intro w'
    go_simp
    with_reducible rfl
  rotate_left
  · simp only [Act.put, List.setIfInBounds_toArray, List.set_cons_zero, List.set_cons_succ, i64_w, i32_w]
    rfl
  refine pure_ (i := 1) (N := some 14) (v := ?_) (a' := ?_) #[true, true, false, false, false, false, false, false, false, false, false, false, false, false, false, false, false, false, false] rfl rfl (by kernel_rfl) (fun _ _ _ h => h) (Or.inl ⟨by rfl, ?_⟩) ?_ ?_
  rotate_left
  · intro w'
    go_simp
    with_reducible rfl
  rotate_left
  · simp only [Act.put, List.setIfInBounds_toArray, List.set_cons_zero, List.set_cons_succ, i64_w, i32_w]
    rfl
  refine pure_ (i := 4) (N := some 17) (v := ?_) (a' := ?_) #[true, true, false, false, true, false, false, false, false, false, false, false, false, false, false, false, false, false, false] rfl rfl (by kernel_rfl) (fun _ _ _ h => h) (Or.inl ⟨by rfl, ?_⟩) ?_ ?_
  rotate_left
  · intro w'
    go_simp
    with_reducible rfl
  rotate_left
  · simp only [Act.put, List.setIfInBounds_toArray, List.set_cons_zero, List.set_cons_succ, i64_w, i32_w]
    rfl
  refine pure_ (i := 5) (N := some 18) (v := ?_) (a' := ?_) #[true, true, false, false, true, true, false, false, false, false, false, false, false, false, false, false, false, false, false] rfl rfl (by kernel_rfl) (fun _ _ _ h => h) (Or.inl ⟨by rfl, ?_⟩) ?_ ?_
  rotate_left
  · intro w'
    go_simp
    with_reducible rfl
  rotate_left
  · simp only [Act.put, List.setIfInBounds_toArray, List.set_cons_zero, List.set_cons_succ, i64_w, i32_w]
    rfl
  refine pure_ (i := 8) (N := some 21) (v := ?_) (a' := ?_) #[true, true, false, false, true, true, false, false, true, false, false, false, false, false, false, false, false, false, false] rfl rfl (by kernel_rfl) (fun _ _ _ h => h) (Or.inl ⟨by rfl, ?_⟩) ?_ ?_
  rotate_left
  · intro w'
    go_simp
    with_reducible rfl
  rotate_left
  · simp only [Act.put, List.setIfInBounds_toArray, List.set_cons_zero, List.set_cons_succ, i64_w, i32_w]
    rfl
  refine pure_ (i := 9) (N := some 22) (v := ?_) (a' := ?_) #[true, true, false, false, true, true, false, false, true, true, false, false, false, false, false, false, false, false, false] rfl rfl (by kernel_rfl) (fun _ _ _ h => h) (Or.inl ⟨by rfl, ?_⟩) ?_ ?_
  rotate_left
  · intro w'
    go_simp
    with_reducible rfl
  rotate_left
  · simp only [Act.put, List.setIfInBounds_toArray, List.set_cons_zero, List.set_cons_succ, i64_w, i32_w]
    rfl
  refine pure_ (i := 12) (N := some 25) (v := ?_) (a' := ?_) #[true, true, false, false, true, true, false, false, true, true, false, false, true, false, false, false, false, false, false] rfl rfl (by kernel_rfl) (fun _ _ _ h => h) (Or.inl ⟨by rfl, ?_⟩) ?_ ?_
  rotate_left
  · intro w'
    go_simp
    with_reducible rfl
  rotate_left
  · simp only [Act.put, List.setIfInBounds_toArray, List.set_cons_zero, List.set_cons_succ, i64_w, i32_w]
    rfl
  refine pure_ (i := 14) (N := some 27) (v := ?_) (a' := ?_) #[true, true, false, false, true, true, false, false, true, true, false, false, true, false, true, false, false, false, false] rfl rfl (by kernel_rfl) (fun _ _ _ h => h) (Or.inl ⟨by rfl, ?_⟩) ?_ ?_
  rotate_left
  · intro w'
    go_simp
    with_reducible rfl
  rotate_left
  · simp only [Act.put, List.setIfInBounds_toArray, List.set_cons_zero, List.set_cons_succ, i64_w, i32_w]
    rfl
  refine take_ (i := 2) (N := some 15) (v := ?_) (a' := ?_) #[true, true, true, false, true, true, false, false, true, true, false, false, true, false, true, false, false, false, false] rfl rfl (by kernel_rfl) (fun _ _ _ h => h) (Or.inl ⟨by rfl, ?_⟩) hHeld ?_ ?_
  rotate_left
  · rintro w' ⟨s0, s1, s2⟩
    go_simp
    with_reducible rfl
  rotate_left
  · simp only [Act.put, List.setIfInBounds_toArray, List.set_cons_zero, List.set_cons_succ, i64_w, i32_w]
    rfl
  refine pure_ (i := 3) (N := some 16) (v := ?_) (a' := ?_) #[true, true, true, true, true, true, false, false, true, true, false, false, true, false, true, false, false, false, false] rfl rfl (by kernel_rfl) (fun _ _ _ h => h) (Or.inl ⟨by rfl, ?_⟩) ?_ ?_
  rotate_left
  · intro w'
    go_simp
    with_reducible rfl
  rotate_left
  · simp only [Act.put, List.setIfInBounds_toArray, List.set_cons_zero, List.set_cons_succ, i64_w, i32_w]
    rfl
  refine take_ (i := 6) (N := some 19) (v := ?_) (a' := ?_) #[true, true, true, true, true, true, true, false, true, true, false, false, true, false, true, false, false, false, false] rfl rfl (by kernel_rfl) (fun _ _ _ h => h) (Or.inl ⟨by rfl, ?_⟩) hHeld ?_ ?_
  rotate_left
  · rintro w' ⟨s0, s1, s2⟩
    go_simp
    with_reducible rfl
  rotate_left
  · simp only [Act.put, List.setIfInBounds_toArray, List.set_cons_zero, List.set_cons_succ, i64_w, i32_w]
    rfl
  refine pure_ (i := 7) (N := some 20) (v := ?_) (a' := ?_) #[true, true, true, true, true, true, true, true, true, true, false, false, true, false, true, false, false, false, false] rfl rfl (by kernel_rfl) (fun _ _ _ h => h) (Or.inl ⟨by rfl, ?_⟩) ?_ ?_
  rotate_left
  · intro w'
    go_simp
    with_reducible rfl
  rotate_left
  · simp only [Act.put, List.setIfInBounds_toArray, List.set_cons_zero, List.set_cons_succ, i64_w, i32_w]
    rfl
  refine take_ (i := 10) (N := some 23) (v := ?_) (a' := ?_) #[true, true, true, true, true, true, true, true, true, true, true, false, true, false, true, false, false, false, false] rfl rfl (by kernel_rfl) (fun _ _ _ h => h) (Or.inl ⟨by rfl, ?_⟩) hHeld ?_ ?_
  rotate_left
  · rintro w' ⟨s0, s1, s2⟩
    go_simp
    with_reducible rfl
  rotate_left
  · simp only [Act.put, List.setIfInBounds_toArray, List.set_cons_zero, List.set_cons_succ, i64_w, i32_w]
    rfl
  refine pure_ (i := 11) (N := some 24) (v := ?_) (a' := ?_) #[true, true, true, true, true, true, true, true, true, true, true, true, true, false, true, false, false, false, false] rfl rfl (by kernel_rfl) (fun _ _ _ h => h) (Or.inl ⟨by rfl, ?_⟩) ?_ ?_
  rotate_left
  · intro w'
    go_simp
    with_reducible rfl
  rotate_left
  · simp only [Act.put, List.setIfInBounds_toArray, List.set_cons_zero, List.set_cons_succ, i64_w, i32_w]
    rfl
  refine join_ (σ := Unit) 1 #[true, true, true, true, true, true, true, true, true, true, true, true, true, true, true, true, true, true, false] (fun _ => [(26, .int .i64 (numL l 4 4)), (28, .int .i64 (numL l 8 4)), (29, .agg #[.int .i64 x0, .int .i64 x1, .int .i64 x12, .int .i64 (numL l 4 4), .int .i64 (numL l 8 4), .int .i64 0, .int .i64 0, .int .i64 0, .int .i64 0, .bool false, .int .i64 0, .slice none 0 0, .slice none 0 0]), (5, .pointer (some ⟨W1.heap.size, 0, none⟩))]) (fun _ w' => w'.heap[W1.heap.size]? = some (.cells zero13 26 (0, 0)) ∧ w'.heap[w.heap.size]? = some (.cells zero13 26 (0, 0)) ∧ Below w.heap.size w w') ?_ ?_
  rotate_left
  · intro hCont
    refine two_ (i := 13) (j := 17) (Ni := some 26) (Nj := some 5) #[true, true, true, true, true, true, true, true, true, true, true, true, true, true, true, false, false, false, false] #[true, true, true, true, true, true, true, true, true, true, true, true, true, false, true, false, false, true, false] rfl rfl rfl rfl (by kernel_rfl) (by decide) (by decide) (fun K hK => ?_) (fun K hK => ?_)
    · skip
      refine goes_ Try.func45 (by kernel_rfl) rfl #[.slice (some ad) l.length c, .int .i64 4, .int .i64 4] (by rfl) rfl rfl (by simp only [List.map_toArray, List.map_cons, List.map_nil]; rfl) ?_
      with_reducible refine (get_calls (l := l) 4 4 (iz := 4) (mz := 4) (by repeat (first | exact HR1.out | (with_reducible refine Kd.C_alloc ?_ _) | (with_reducible refine Kd.C_drewN ?_ _) | (with_reducible refine Kd.C_drew ?_))) rfl HC.out HY.out HL.out rfl rfl (by omega) (by have := H24.out; omega)).mono ?_
      rintro e w3 ⟨rfl, ⟨⟨nq, rfl⟩⟩⟩
      refine ⟨_, rfl, ?_⟩
      refine hK.out _ _ ⟨(HC0.out _ (by repeat (first | (with_reducible first | exact HBR.out | apply below_alloc | apply pw_below_drewN | apply below_drew1) | exact HBR.out))), (HC1.out _ (by repeat (first | (with_reducible first | exact HBR.out | apply below_alloc | apply pw_below_drewN | apply below_drew1) | exact HBR.out))), (HC12.out _ (by repeat (first | (with_reducible first | exact HBR.out | apply below_alloc | apply pw_below_drewN | apply below_drew1) | exact HBR.out)))⟩ (fun hHeld => ?_)
      clear hK K
      refine norm_ (a' := ?_) ?_ ?_
      rotate_left
      · show Act.put _ (some 26) _ = _
        simp only [Act.put, List.setIfInBounds_toArray, List.set_cons_zero, List.set_cons_succ, i64_w, i32_w]
        rfl
      refine two_ (i := 15) (j := 17) (Ni := some 28) (Nj := some 5) #[true, true, true, true, true, true, true, true, true, true, true, true, true, true, true, true, false, false, false] #[true, true, true, true, true, true, true, true, true, true, true, true, true, true, true, false, false, true, false] rfl rfl rfl rfl (by kernel_rfl) (by decide) (by decide) (fun K hK => ?_) (fun K hK => ?_)
      · skip
        refine goes_ Try.func45 (by kernel_rfl) rfl #[.slice (some ad) l.length c, .int .i64 8, .int .i64 4] (by rfl) rfl rfl (by simp only [List.map_toArray, List.map_cons, List.map_nil]; rfl) ?_
        with_reducible refine (get_calls (l := l) 8 4 (iz := 8) (mz := 4) (by repeat (first | exact HR1.out | (with_reducible refine Kd.C_alloc ?_ _) | (with_reducible refine Kd.C_drewN ?_ _) | (with_reducible refine Kd.C_drew ?_))) rfl HC.out HY.out HL.out rfl rfl (by omega) (by have := H24.out; omega)).mono ?_
        rintro e w3 ⟨rfl, ⟨⟨nq, rfl⟩⟩⟩
        refine ⟨_, rfl, ?_⟩
        refine hK.out _ _ ⟨(HC0.out _ (by repeat (first | (with_reducible first | exact HBR.out | apply below_alloc | apply pw_below_drewN | apply below_drew1) | exact HBR.out))), (HC1.out _ (by repeat (first | (with_reducible first | exact HBR.out | apply below_alloc | apply pw_below_drewN | apply below_drew1) | exact HBR.out))), (HC12.out _ (by repeat (first | (with_reducible first | exact HBR.out | apply below_alloc | apply pw_below_drewN | apply below_drew1) | exact HBR.out)))⟩ (fun hHeld => ?_)
        clear hK K
        refine norm_ (a' := ?_) ?_ ?_
        rotate_left
        · show Act.put _ (some 28) _ = _
          simp only [Act.put, List.setIfInBounds_toArray, List.set_cons_zero, List.set_cons_succ, i64_w, i32_w]
          rfl
        refine pure_ (i := 16) (N := some 29) (v := ?_) (a' := ?_) #[true, true, true, true, true, true, true, true, true, true, true, true, true, true, true, true, true, false, false] rfl rfl (by kernel_rfl) (fun _ _ _ h => h) (Or.inl ⟨by rfl, ?_⟩) ?_ ?_
        rotate_left
        · intro w'
          go_simp
          with_reducible rfl
        rotate_left
        · simp only [Act.put, List.setIfInBounds_toArray, List.set_cons_zero, List.set_cons_succ, i64_w, i32_w]
          rfl
        refine one_ (i := 17) (N := some 5) #[true, true, true, true, true, true, true, true, true, true, true, true, true, true, true, true, true, true, false] rfl rfl (by kernel_rfl) (by decide) (fun K hK => ?_)
        refine value_ (w1 := ?_) (v := ?_) (by rfl) rfl ?_ ?_
        rotate_left 2
        · go_simp
          constructor
          · rfl
          · rfl
        refine hK.out _ _ ⟨(HC0.out _ (by repeat (first | (with_reducible first | exact HBR.out | apply below_alloc | apply pw_below_drewN | apply below_drew1) | exact HBR.out))), (HC1.out _ (by repeat (first | (with_reducible first | exact HBR.out | apply below_alloc | apply pw_below_drewN | apply below_drew1) | exact HBR.out))), (HC12.out _ (by repeat (first | (with_reducible first | exact HBR.out | apply below_alloc | apply pw_below_drewN | apply below_drew1) | exact HBR.out)))⟩ (fun hHeld => ?_)
        clear hK K
        refine norm_ (a' := ?_) ?_ ?_
        rotate_left
        · show Act.put _ (some 5) _ = _
          simp only [Act.put, List.setIfInBounds_toArray, List.set_cons_zero, List.set_cons_succ, i64_w, i32_w]
          rfl
        exact norm_ (by simp only [putAll, Act.put, List.setIfInBounds_toArray, List.set_cons_zero, List.set_cons_succ]) (hCont () _ ⟨new_blk W1 _, (by refine Eq.trans (Below.block (B := W1.heap.size) (w := W1) ?_ _ HG2.out) HK1.out; repeat (first | (with_reducible first | exact HBS.out | apply below_alloc | apply pw_below_drewN | apply below_drew1) | exact HBS.out)), (by repeat (first | (with_reducible first | exact HBR.out | apply below_alloc | apply pw_below_drewN | apply below_drew1) | exact HBR.out))⟩)
      · skip
        refine value_ (w1 := ?_) (v := ?_) (by rfl) rfl ?_ ?_
        rotate_left 2
        · go_simp
          constructor
          · rfl
          · rfl
        refine hK.out _ _ ⟨(HC0.out _ (by repeat (first | (with_reducible first | exact HBR.out | apply below_alloc | apply pw_below_drewN | apply below_drew1) | exact HBR.out))), (HC1.out _ (by repeat (first | (with_reducible first | exact HBR.out | apply below_alloc | apply pw_below_drewN | apply below_drew1) | exact HBR.out))), (HC12.out _ (by repeat (first | (with_reducible first | exact HBR.out | apply below_alloc | apply pw_below_drewN | apply below_drew1) | exact HBR.out)))⟩ (fun hHeld => ?_)
        clear hK K
        refine norm_ (a' := ?_) ?_ ?_
        rotate_left
        · show Act.put _ (some 5) _ = _
          simp only [Act.put, List.setIfInBounds_toArray, List.set_cons_zero, List.set_cons_succ, i64_w, i32_w]
          rfl
        refine one_ (i := 15) (N := some 28) #[true, true, true, true, true, true, true, true, true, true, true, true, true, true, true, true, false, true, false] rfl rfl (by kernel_rfl) (by decide) (fun K hK => ?_)
        refine goes_ Try.func45 (by kernel_rfl) rfl #[.slice (some ad) l.length c, .int .i64 8, .int .i64 4] (by rfl) rfl rfl (by simp only [List.map_toArray, List.map_cons, List.map_nil]; rfl) ?_
        with_reducible refine (get_calls (l := l) 8 4 (iz := 8) (mz := 4) (by repeat (first | exact HR1.out | (with_reducible refine Kd.C_alloc ?_ _) | (with_reducible refine Kd.C_drewN ?_ _) | (with_reducible refine Kd.C_drew ?_))) rfl HC.out HY.out HL.out rfl rfl (by omega) (by have := H24.out; omega)).mono ?_
        rintro e w3 ⟨rfl, ⟨⟨nq, rfl⟩⟩⟩
        refine ⟨_, rfl, ?_⟩
        refine hK.out _ _ ⟨(HC0.out _ (by repeat (first | (with_reducible first | exact HBR.out | apply below_alloc | apply pw_below_drewN | apply below_drew1) | exact HBR.out))), (HC1.out _ (by repeat (first | (with_reducible first | exact HBR.out | apply below_alloc | apply pw_below_drewN | apply below_drew1) | exact HBR.out))), (HC12.out _ (by repeat (first | (with_reducible first | exact HBR.out | apply below_alloc | apply pw_below_drewN | apply below_drew1) | exact HBR.out)))⟩ (fun hHeld => ?_)
        clear hK K
        refine norm_ (a' := ?_) ?_ ?_
        rotate_left
        · show Act.put _ (some 28) _ = _
          simp only [Act.put, List.setIfInBounds_toArray, List.set_cons_zero, List.set_cons_succ, i64_w, i32_w]
          rfl
        refine pure_ (i := 16) (N := some 29) (v := ?_) (a' := ?_) #[true, true, true, true, true, true, true, true, true, true, true, true, true, true, true, true, true, true, false] rfl rfl (by kernel_rfl) (fun _ _ _ h => h) (Or.inl ⟨by rfl, ?_⟩) ?_ ?_
        rotate_left
        · intro w'
          go_simp
          with_reducible rfl
        rotate_left
        · simp only [Act.put, List.setIfInBounds_toArray, List.set_cons_zero, List.set_cons_succ, i64_w, i32_w]
          rfl
        exact norm_ (by simp only [putAll, Act.put, List.setIfInBounds_toArray, List.set_cons_zero, List.set_cons_succ]) (hCont () _ ⟨new_blk W1 _, (by refine Eq.trans (Below.block (B := W1.heap.size) (w := W1) ?_ _ HG2.out) HK1.out; repeat (first | (with_reducible first | exact HBS.out | apply below_alloc | apply pw_below_drewN | apply below_drew1) | exact HBS.out)), (by repeat (first | (with_reducible first | exact HBR.out | apply below_alloc | apply pw_below_drewN | apply below_drew1) | exact HBR.out))⟩)
    · skip
      refine value_ (w1 := ?_) (v := ?_) (by rfl) rfl ?_ ?_
      rotate_left 2
      · go_simp
        constructor
        · rfl
        · rfl
      refine hK.out _ _ ⟨(HC0.out _ (by repeat (first | (with_reducible first | exact HBR.out | apply below_alloc | apply pw_below_drewN | apply below_drew1) | exact HBR.out))), (HC1.out _ (by repeat (first | (with_reducible first | exact HBR.out | apply below_alloc | apply pw_below_drewN | apply below_drew1) | exact HBR.out))), (HC12.out _ (by repeat (first | (with_reducible first | exact HBR.out | apply below_alloc | apply pw_below_drewN | apply below_drew1) | exact HBR.out)))⟩ (fun hHeld => ?_)
      clear hK K
      refine norm_ (a' := ?_) ?_ ?_
      rotate_left
      · show Act.put _ (some 5) _ = _
        simp only [Act.put, List.setIfInBounds_toArray, List.set_cons_zero, List.set_cons_succ, i64_w, i32_w]
        rfl
      refine one_ (i := 13) (N := some 26) #[true, true, true, true, true, true, true, true, true, true, true, true, true, true, true, false, false, true, false] rfl rfl (by kernel_rfl) (by decide) (fun K hK => ?_)
      refine goes_ Try.func45 (by kernel_rfl) rfl #[.slice (some ad) l.length c, .int .i64 4, .int .i64 4] (by rfl) rfl rfl (by simp only [List.map_toArray, List.map_cons, List.map_nil]; rfl) ?_
      with_reducible refine (get_calls (l := l) 4 4 (iz := 4) (mz := 4) (by repeat (first | exact HR1.out | (with_reducible refine Kd.C_alloc ?_ _) | (with_reducible refine Kd.C_drewN ?_ _) | (with_reducible refine Kd.C_drew ?_))) rfl HC.out HY.out HL.out rfl rfl (by omega) (by have := H24.out; omega)).mono ?_
      rintro e w3 ⟨rfl, ⟨⟨nq, rfl⟩⟩⟩
      refine ⟨_, rfl, ?_⟩
      refine hK.out _ _ ⟨(HC0.out _ (by repeat (first | (with_reducible first | exact HBR.out | apply below_alloc | apply pw_below_drewN | apply below_drew1) | exact HBR.out))), (HC1.out _ (by repeat (first | (with_reducible first | exact HBR.out | apply below_alloc | apply pw_below_drewN | apply below_drew1) | exact HBR.out))), (HC12.out _ (by repeat (first | (with_reducible first | exact HBR.out | apply below_alloc | apply pw_below_drewN | apply below_drew1) | exact HBR.out)))⟩ (fun hHeld => ?_)
      clear hK K
      refine norm_ (a' := ?_) ?_ ?_
      rotate_left
      · show Act.put _ (some 26) _ = _
        simp only [Act.put, List.setIfInBounds_toArray, List.set_cons_zero, List.set_cons_succ, i64_w, i32_w]
        rfl
      refine one_ (i := 15) (N := some 28) #[true, true, true, true, true, true, true, true, true, true, true, true, true, true, true, true, false, true, false] rfl rfl (by kernel_rfl) (by decide) (fun K hK => ?_)
      refine goes_ Try.func45 (by kernel_rfl) rfl #[.slice (some ad) l.length c, .int .i64 8, .int .i64 4] (by rfl) rfl rfl (by simp only [List.map_toArray, List.map_cons, List.map_nil]; rfl) ?_
      with_reducible refine (get_calls (l := l) 8 4 (iz := 8) (mz := 4) (by repeat (first | exact HR1.out | (with_reducible refine Kd.C_alloc ?_ _) | (with_reducible refine Kd.C_drewN ?_ _) | (with_reducible refine Kd.C_drew ?_))) rfl HC.out HY.out HL.out rfl rfl (by omega) (by have := H24.out; omega)).mono ?_
      rintro e w3 ⟨rfl, ⟨⟨nq, rfl⟩⟩⟩
      refine ⟨_, rfl, ?_⟩
      refine hK.out _ _ ⟨(HC0.out _ (by repeat (first | (with_reducible first | exact HBR.out | apply below_alloc | apply pw_below_drewN | apply below_drew1) | exact HBR.out))), (HC1.out _ (by repeat (first | (with_reducible first | exact HBR.out | apply below_alloc | apply pw_below_drewN | apply below_drew1) | exact HBR.out))), (HC12.out _ (by repeat (first | (with_reducible first | exact HBR.out | apply below_alloc | apply pw_below_drewN | apply below_drew1) | exact HBR.out)))⟩ (fun hHeld => ?_)
      clear hK K
      refine norm_ (a' := ?_) ?_ ?_
      rotate_left
      · show Act.put _ (some 28) _ = _
        simp only [Act.put, List.setIfInBounds_toArray, List.set_cons_zero, List.set_cons_succ, i64_w, i32_w]
        rfl
      refine pure_ (i := 16) (N := some 29) (v := ?_) (a' := ?_) #[true, true, true, true, true, true, true, true, true, true, true, true, true, true, true, true, true, true, false] rfl rfl (by kernel_rfl) (fun _ _ _ h => h) (Or.inl ⟨by rfl, ?_⟩) ?_ ?_
      rotate_left
      · intro w'
        go_simp
        with_reducible rfl
      rotate_left
      · simp only [Act.put, List.setIfInBounds_toArray, List.set_cons_zero, List.set_cons_succ, i64_w, i32_w]
        rfl
      exact norm_ (by simp only [putAll, Act.put, List.setIfInBounds_toArray, List.set_cons_zero, List.set_cons_succ]) (hCont () _ ⟨new_blk W1 _, (by refine Eq.trans (Below.block (B := W1.heap.size) (w := W1) ?_ _ HG2.out) HK1.out; repeat (first | (with_reducible first | exact HBS.out | apply below_alloc | apply pw_below_drewN | apply below_drew1) | exact HBS.out)), (by repeat (first | (with_reducible first | exact HBR.out | apply below_alloc | apply pw_below_drewN | apply below_drew1) | exact HBR.out))⟩)
  rintro ⟨⟩ w3 ⟨hz3, hy3, hb3⟩
  have hHeld : w3.cell? ad = some (.int .u8 x0) ∧ w3.cell? ⟨ad.block, ad.off + 1, none⟩ = some (.int .u8 x1) ∧ w3.cell? ⟨ad.block, ad.off + 12, none⟩ = some (.int .u8 x12) := ⟨HC0.out _ hb3, HC1.out _ hb3, HC12.out _ hb3⟩
  refine norm_ (a' := ?_) ?_ ?_
  rotate_left
  · simp only [putAll, Act.put, List.setIfInBounds_toArray, List.set_cons_zero, List.set_cons_succ]
    rfl
  refine one_ (i := 18) (N := none) #[true, true, true, true, true, true, true, true, true, true, true, true, true, true, true, true, true, true, true] rfl rfl (by kernel_rfl) (by decide) (fun K hK => ?_)
  obtain ⟨k0, k1, k2, k3, k4, k5, k6, k7, k8, k9, k10, k11, k12⟩ := c13 hz3
  obtain ⟨z0, z1, z2, z3, z4, z5, z6, z7, z8, z9, z10, z11, z12⟩ := f13 hz3
  refine skip_ (w1 := ?_) (by rfl) rfl ?_ ?_
  rotate_left
  · go_simp
    rfl
  refine hK.out _ _ ⟨(HC0.out _ (lay13_below hb3 HG1.out _ _ _ _ _ _ _ _ _ _ _ _ _)), (HC1.out _ (lay13_below hb3 HG1.out _ _ _ _ _ _ _ _ _ _ _ _ _)), (HC12.out _ (lay13_below hb3 HG1.out _ _ _ _ _ _ _ _ _ _ _ _ _))⟩ (fun hHeld => ?_)
  clear hK K
  refine done_ (by kernel_rfl) ?_
  generalize hW : World.setCell _ _ _ = W4
  have hz4 : W4.heap[W1.heap.size]? = some (.cells #[(.int .i64 x0), (.int .i64 x1), (.int .i64 x12), (.int .i64 (numL l 4 4)), (.int .i64 (numL l 8 4)), (.int .i64 0), (.int .i64 0), (.int .i64 0), (.int .i64 0), (.bool false), (.int .i64 0), (.slice none 0 0), (.slice none 0 0)] 26 (0, 0)) := by rw [← hW]; exact lay13_blk hz3 rfl (.int .i64 x0) (.int .i64 x1) (.int .i64 x12) (.int .i64 (numL l 4 4)) (.int .i64 (numL l 8 4)) (.int .i64 0) (.int .i64 0) (.int .i64 0) (.int .i64 0) (.bool false) (.int .i64 0) (.slice none 0 0) (.slice none 0 0)
  have hy4 : W4.heap[w.heap.size]? = some (.cells zero13 26 (0, 0)) := by rw [← hW]; exact (lay13_far (Nat.ne_of_lt HG2.out) (.int .i64 x0) (.int .i64 x1) (.int .i64 x12) (.int .i64 (numL l 4 4)) (.int .i64 (numL l 8 4)) (.int .i64 0) (.int .i64 0) (.int .i64 0) (.int .i64 0) (.bool false) (.int .i64 0) (.slice none 0 0) (.slice none 0 0)).trans hy3
  have HB4 := Aside0.mk (show Below w.heap.size w W4 from by rw [← hW]; exact lay13_below hb3 HG1.out (.int .i64 x0) (.int .i64 x1) (.int .i64 x12) (.int .i64 (numL l 4 4)) (.int .i64 (numL l 8 4)) (.int .i64 0) (.int .i64 0) (.int .i64 0) (.int .i64 0) (.bool false) (.int .i64 0) (.slice none 0 0) (.slice none 0 0))
  have HZ4 := Aside0.mk hz4
  have HY4 := Aside0.mk hy4
  obtain ⟨g, HGE⟩ : ∃ g, W1.heap.size = g := ⟨_, rfl⟩
  rw [HGE] at HZ4 HG1 HG2 hz4 ⊢
  have HGL := Aside0.mk (show g < W4.heap.size from blk_lt hz4)
  clear hHeld hW hz3 hy3 hb3 k0 k1 k2 k3 k4 k5 k6 k7 k8 k9 k10 k11 k12 z0 z1 z2 z3 z4 z5 z6 z7 z8 z9 z10 z11 z12
  obtain ⟨k0, k1, k2, k3, k4, k5, k6, k7, k8, k9, k10, k11, k12⟩ := c13 hz4
  obtain ⟨z0, z1, z2, z3, z4, z5, z6, z7, z8, z9, z10, z11, z12⟩ := f13 hz4
  clear hz4 hy4
  clear HBR HR1 HBS HK1
  have m20 := HC20.out W4 HB4.out
  have m21 := HC21.out W4 HB4.out
  have HBW := Aside0.mk HB4.out
  have G16 := Aside0.mk (fun W (h : Below w.heap.size w W) => get_calls (l := l) (w := W) 16 2 (iz := 16) (mz := 2) (Kd.C_below HR.out h) rfl HC.out HY.out HL.out rfl rfl (by omega) (by have := H24.out; omega))
  have G18 := Aside0.mk (fun W (h : Below w.heap.size w W) => get_calls (l := l) (w := W) 18 2 (iz := 18) (mz := 2) (Kd.C_below HR.out h) rfl HC.out HY.out HL.out rfl rfl (by omega) (by have := H24.out; omega))
  have wr : wrap64 (24 + x21) = 24 + x21 := wid (by omega) (by omega)
  go_upto_region 8 with (first | (go_at_call 45; (with_reducible refine (G16.out _ ?hb).mono ?_); (case hb => (repeat (first | with_reducible exact HBW.out | with_reducible apply pw_below_drewN | (refine Below.setCell ?_ HG1.out _)))); rintro e w3 ⟨rfl, ⟨⟨nq, rfl⟩⟩⟩) | (go_at_call 45; (with_reducible refine (G18.out _ ?hb).mono ?_); (case hb => (repeat (first | with_reducible exact HBW.out | with_reducible apply pw_below_drewN | (refine Below.setCell ?_ HG1.out _)))); rintro e w3 ⟨rfl, ⟨⟨nq, rfl⟩⟩⟩))
  generalize hW : World.setCell _ _ _ = W5
  have hz5 : W5.heap[g]? = some (.cells #[.int .i64 x0, .int .i64 x1, .int .i64 x12, .int .i64 (numL l 4 4), .int .i64 (numL l 8 4), .int .i64 (numL l 16 2), .int .i64 (numL l 18 2), .int .i64 0, .int .i64 0, .bool false, .int .i64 0, .slice none 0 0, .slice none 0 0] 26 (0, 0)) := by
    rw [← hW]
    have h := (set_blk ((set_blk (HZ4.out) 5 (.int .i64 (numL l 16 2)))) 6 (.int .i64 (numL l 18 2)))
    simp only [List.setIfInBounds_toArray, List.set_cons_zero, List.set_cons_succ] at h
    exact h
  have hy5 : W5.heap[w.heap.size]? = some (.cells zero13 26 (0, 0)) := by
    rw [← hW]
    exact (Below.heap_setCell _ ⟨g, 6, none⟩ (.int .i64 (numL l 18 2)) w.heap.size (Nat.ne_of_lt HG2.out)).trans ((Below.heap_setCell _ ⟨g, 5, none⟩ (.int .i64 (numL l 16 2)) w.heap.size (Nat.ne_of_lt HG2.out)).trans (HY4.out))
  have HB5 : Aside0 (Below w.heap.size w W5) := Aside0.mk (by
    rw [← hW]
    repeat (first | with_reducible exact HB4.out | with_reducible apply pw_below_drewN | (refine Below.setCell ?_ HG1.out _)))
  have HZ5 := Aside0.mk hz5
  have HY5 := Aside0.mk hy5
  clear hW k0 k1 k2 k3 k4 k5 k6 k7 k8 k9 k10 k11 k12 z0 z1 z2 z3 z4 z5 z6 z7 z8 z9 z10 z11 z12
  obtain ⟨k0, k1, k2, k3, k4, k5, k6, k7, k8, k9, k10, k11, k12⟩ := c13 hz5
  obtain ⟨z0, z1, z2, z3, z4, z5, z6, z7, z8, z9, z10, z11, z12⟩ := f13 hz5
  clear hz5 hy5
  clear m20
  have m20 := HC20.out W5 HB5.out
  clear m21
  have m21 := HC21.out W5 HB5.out
  go_upto_region 9 with fail
  generalize hW : World.setCell _ _ _ = W6
  have hz6 : W6.heap[g]? = some (.cells #[.int .i64 x0, .int .i64 x1, .int .i64 x12, .int .i64 (numL l 4 4), .int .i64 (numL l 8 4), .int .i64 (numL l 16 2), .int .i64 (numL l 18 2), .int .i64 x20, .int .i64 0, .bool false, .int .i64 0, .slice none 0 0, .slice none 0 0] 26 (0, 0)) := by
    rw [← hW]
    have h := (set_blk (HZ5.out) 7 (.int .i64 x20))
    simp only [List.setIfInBounds_toArray, List.set_cons_zero, List.set_cons_succ] at h
    exact h
  have hy6 : W6.heap[w.heap.size]? = some (.cells zero13 26 (0, 0)) := by
    rw [← hW]
    exact (Below.heap_setCell _ ⟨g, 7, none⟩ (.int .i64 x20) w.heap.size (Nat.ne_of_lt HG2.out)).trans (HY5.out)
  have HB6 : Aside0 (Below w.heap.size w W6) := Aside0.mk (by
    rw [← hW]
    repeat (first | with_reducible exact HB5.out | with_reducible apply pw_below_drewN | (refine Below.setCell ?_ HG1.out _)))
  have HZ6 := Aside0.mk hz6
  have HY6 := Aside0.mk hy6
  clear hW k0 k1 k2 k3 k4 k5 k6 k7 k8 k9 k10 k11 k12 z0 z1 z2 z3 z4 z5 z6 z7 z8 z9 z10 z11 z12
  obtain ⟨k0, k1, k2, k3, k4, k5, k6, k7, k8, k9, k10, k11, k12⟩ := c13 hz6
  obtain ⟨z0, z1, z2, z3, z4, z5, z6, z7, z8, z9, z10, z11, z12⟩ := f13 hz6
  clear hz6 hy6
  clear m20
  have m20 := HC20.out W6 HB6.out
  clear m21
  have m21 := HC21.out W6 HB6.out
  by_cases h20 : 15 < x20
  · have d20 : decide (15 < x20) = true := decide_eq_true h20
    have HPE := Aside0.mk (show parseL l = (zeroP, 5) from by
      unfold parseL
      rw [if_neg (fun h => h HE.out), if_neg (by rw [HKD.out]; decide), if_neg (by rw [HKD.out]; decide), if_pos (by rw [EE.out.2.2.2.1, EE.out.2.2.2.2.1]; unfold restS; rw [EE.out.2.2.2.2.1]; have := b21; omega)])
    have hny := HY6.out
    obtain ⟨y0, y1, y2, y3, y4, y5, y6, y7, y8, y9, y10, y11, y12⟩ := c13 hny
    obtain ⟨u0, u1, u2, u3, u4, u5, u6, u7, u8, u9, u10, u11, u12⟩ := f13 hny
    clear hny
    go_wp2
    (try simp only [Exit.inBlock, Exit.then])
    refine bodyPost_ret (v := .tuple #[.agg zero13, .int .i64 5]) ?_ rfl (parsed_err HPE.out ?_)
    · rw [results_cell_tmp rfl]
      go_simp
    · exact lay13_below HB6.out (Nat.le_refl _) _ _ _ _ _ _ _ _ _ _ _ _ _
  · have d20 : decide (15 < x20) = false := decide_eq_false h20
    by_cases h21 : 40 < x21
    · have d21 : decide (40 < x21) = true := decide_eq_true h21
      have HPE := Aside0.mk (show parseL l = (zeroP, 5) from by
        unfold parseL
        rw [if_neg (fun h => h HE.out), if_neg (by rw [HKD.out]; decide), if_neg (by rw [HKD.out]; decide), if_pos (by rw [EE.out.2.2.2.1, EE.out.2.2.2.2.1]; unfold restS; rw [EE.out.2.2.2.2.1]; have := b21; omega)])
      have hny := HY6.out
      obtain ⟨y0, y1, y2, y3, y4, y5, y6, y7, y8, y9, y10, y11, y12⟩ := c13 hny
      obtain ⟨u0, u1, u2, u3, u4, u5, u6, u7, u8, u9, u10, u11, u12⟩ := f13 hny
      clear hny
      go_wp2
      (try simp only [Exit.inBlock, Exit.then])
      refine bodyPost_ret (v := .tuple #[.agg zero13, .int .i64 5]) ?_ rfl (parsed_err HPE.out ?_)
      · rw [results_cell_tmp rfl]
        go_simp
      · exact lay13_below HB6.out (Nat.le_refl _) _ _ _ _ _ _ _ _ _ _ _ _ _
    · have d21 : decide (40 < x21) = false := decide_eq_false h21
      by_cases h22 : (l.length : Int) < 24 + x21
      · have d22 : decide ((l.length : Int) < 24 + x21) = true := decide_eq_true h22
        have HPE := Aside0.mk (show parseL l = (zeroP, 5) from by
          unfold parseL
          rw [if_neg (fun h => h HE.out), if_neg (by rw [HKD.out]; decide), if_neg (by rw [HKD.out]; decide), if_pos (by rw [EE.out.2.2.2.1, EE.out.2.2.2.2.1]; unfold restS; rw [EE.out.2.2.2.2.1]; have := b21; omega)])
        have hny := HY6.out
        obtain ⟨y0, y1, y2, y3, y4, y5, y6, y7, y8, y9, y10, y11, y12⟩ := c13 hny
        obtain ⟨u0, u1, u2, u3, u4, u5, u6, u7, u8, u9, u10, u11, u12⟩ := f13 hny
        clear hny
        go_wp2
        (try simp only [Exit.inBlock, Exit.then])
        refine bodyPost_ret (v := .tuple #[.agg zero13, .int .i64 5]) ?_ rfl (parsed_err HPE.out ?_)
        · rw [results_cell_tmp rfl]
          go_simp
        · exact lay13_below HB6.out (Nat.le_refl _) _ _ _ _ _ _ _ _ _ _ _ _ _
      · have d22 : decide ((l.length : Int) < 24 + x21) = false := decide_eq_false h22
        have HPE := Aside0.mk (show parseL l = (⟨x0, x1, x12, numL l 4 4, numL l 8 4, numL l 16 2, numL l 18 2, x20, 0, false, 0, (l.take (24 + x21.toNat)).drop 24, (l.take l.length).drop (24 + x21.toNat)⟩, 0) from by
          unfold parseL
          rw [if_neg (fun h => h HE.out), if_neg (by rw [HKD.out]; decide), if_neg (by rw [HKD.out]; decide), if_neg (by rw [EE.out.2.2.2.1, EE.out.2.2.2.2.1]; unfold restS; rw [EE.out.2.2.2.2.1]; have := b21; omega), List.take_length]
          unfold restS
          rw [EE.out.2.1, EE.out.2.2.1, EE.out.2.2.2.1, EE.out.2.2.2.2.1, ← EE.out.1, HKD.out])
        have HX21 := Aside0.mk (show 0 ≤ x21 ∧ 24 + x21.toNat ≤ l.length from by have := b21; omega)
        obtain ⟨A2, hcut2, hC2⟩ := cut3 (A := some ad) (c := c) (l := l) 24 (24 + x21.toNat) x21.toNat (iz := 24) (jz := 24 + x21) rfl (by have := b21; omega) (by omega) (by omega) (by have := b21; omega) rfl HC.out
        have HC2 := Aside0.mk (fun W (h : Below w.heap.size w W) => hC2 W (Kd.C_below HR.out h))
        clear hC2
        go_upto_region 20 with (first
          | (go_at_call 46; refine (clone_calls (HC2.out _ HB6.out) (C_len (HC2.out w (Below.refl _ _))) (Nat.le_refl _) (by rw [C_len (HC2.out w (Below.refl _ _))]; have := HL.out; have := HX21.out; omega)).mono ?_; rintro e wo ⟨v, rfl, ho, hb6⟩; obtain ⟨Ao, co, ev⟩ := Kd.R_slice ho; rw [C_len (HC2.out w (Below.refl _ _))] at ev; subst ev; have HZo := Aside0.mk ((hb6.block g (blk_lt HZ6.out)).trans HZ6.out); have HYo := Aside0.mk ((hb6.block w.heap.size (blk_lt HY6.out)).trans HY6.out); have HOo := Aside0.mk ho; have HGo := Aside0.mk (blk_lt HZ6.out); have HBo := Aside0.mk (below_step HB6.out hb6); clear ho hb6 k0 k1 k2 k3 k4 k5 k6 k7 k8 k9 k10 k11 k12 z0 z1 z2 z3 z4 z5 z6 z7 z8 z9 z10 z11 z12; obtain ⟨k0, k1, k2, k3, k4, k5, k6, k7, k8, k9, k10, k11, k12⟩ := c13 HZo.out; obtain ⟨z0, z1, z2, z3, z4, z5, z6, z7, z8, z9, z10, z11, z12⟩ := f13 HZo.out))
        have HFo : Aside0 (∀ k, k ≠ g → (wo.setCell ⟨g, 11, none⟩ (.slice Ao x21.toNat co)).heap[k]? = wo.heap[k]?) := Aside0.mk (fun k hk => Below.heap_setCell wo ⟨g, 11, none⟩ _ k hk)
        have HSo : Aside0 ((wo.setCell ⟨g, 11, none⟩ (.slice Ao x21.toNat co)).heap.size = wo.heap.size) := Aside0.mk (by simp [World.setCell])
        change Code.wp _ _ _ _ (wo.setCell ⟨g, 11, none⟩ (.slice Ao x21.toNat co))
        clear hcut2 wr d20 d21 d22
        have HLo := Aside0.mk HX21.out.2
        generalize hW : wo.setCell ⟨g, 11, none⟩ (.slice Ao x21.toNat co) = W7 at HFo HSo ⊢
        have hz7 : W7.heap[g]? = some (.cells #[.int .i64 x0, .int .i64 x1, .int .i64 x12, .int .i64 (numL l 4 4), .int .i64 (numL l 8 4), .int .i64 (numL l 16 2), .int .i64 (numL l 18 2), .int .i64 x20, .int .i64 0, .bool false, .int .i64 0, .slice Ao x21.toNat co, .slice none 0 0] 26 (0, 0)) := by
          rw [← hW]
          have h := (set_blk (HZo.out) 11 (.slice Ao x21.toNat co))
          simp only [List.setIfInBounds_toArray, List.set_cons_zero, List.set_cons_succ] at h
          exact h
        have hy7 : W7.heap[w.heap.size]? = some (.cells zero13 26 (0, 0)) := by
          rw [← hW]
          exact (Below.heap_setCell _ ⟨g, 11, none⟩ (.slice Ao x21.toNat co) w.heap.size (Nat.ne_of_lt HG2.out)).trans (HYo.out)
        have HB7 : Aside0 (Below w.heap.size w W7) := Aside0.mk (by
          rw [← hW]
          repeat (first | with_reducible exact HBo.out | with_reducible apply pw_below_drewN | (refine Below.setCell ?_ HG1.out _)))
        have HZ7 := Aside0.mk hz7
        have HY7 := Aside0.mk hy7
        clear hW k0 k1 k2 k3 k4 k5 k6 k7 k8 k9 k10 k11 k12 z0 z1 z2 z3 z4 z5 z6 z7 z8 z9 z10 z11 z12
        obtain ⟨k0, k1, k2, k3, k4, k5, k6, k7, k8, k9, k10, k11, k12⟩ := c13 hz7
        obtain ⟨z0, z1, z2, z3, z4, z5, z6, z7, z8, z9, z10, z11, z12⟩ := f13 hz7
        clear hz7 hy7
        obtain ⟨A3, hcut3, hC3⟩ := cut3 (A := some ad) (c := c) (l := l) (24 + x21.toNat) l.length (l.length - (24 + x21.toNat)) (iz := 24 + x21) (jz := (l.length : Int)) (by have := HX21.out; omega) rfl rfl (by have := HX21.out; omega) (Nat.le_refl _) rfl HC.out
        have HC3 := Aside0.mk (fun W (h : Below w.heap.size w W) => hC3 W (Kd.C_below HR.out h))
        clear hC3
        go_upto_region 21 with (first
          | (go_at_call 46; refine (clone_calls (HC3.out _ HB7.out) (C_len (HC3.out w (Below.refl _ _))) (Nat.le_refl _) (by rw [C_len (HC3.out w (Below.refl _ _))]; have := HL.out; omega)).mono ?_; rintro e w6 ⟨v, rfl, ho, hb6⟩; obtain ⟨Av, cv, ev⟩ := Kd.R_slice ho; rw [C_len (HC3.out w (Below.refl _ _))] at ev; subst ev; have HZc := Aside0.mk ((hb6.block g (blk_lt HZ7.out)).trans HZ7.out); have HYc := Aside0.mk ((hb6.block w.heap.size (blk_lt HY7.out)).trans HY7.out); have HO := Aside0.mk ho; have HF6 := Aside0.mk (show ∀ k, k < W7.heap.size → w6.heap[k]? = W7.heap[k]? from hb6.block); have HLT := Aside0.mk (blk_lt HZ7.out); have HBc := Aside0.mk (below_step HB7.out hb6); clear ho hb6 k0 k1 k2 k3 k4 k5 k6 k7 k8 k9 k10 k11 k12 z0 z1 z2 z3 z4 z5 z6 z7 z8 z9 z10 z11 z12; obtain ⟨k0, k1, k2, k3, k4, k5, k6, k7, k8, k9, k10, k11, k12⟩ := c13 HZc.out; obtain ⟨z0, z1, z2, z3, z4, z5, z6, z7, z8, z9, z10, z11, z12⟩ := f13 HZc.out))
        clear k0 k1 k2 k3 k4 k5 k6 k7 k8 k9 k10 k11 k12 z0 z1 z2 z3 z4 z5 z6 z7 z8 z9 z10 z11 z12 hcut3
        have hz7 := set_blk HZc.out 12 (.slice Av (l.length - (24 + x21.toNat)) cv)
        simp only [List.setIfInBounds_toArray, List.set_cons_zero, List.set_cons_succ] at hz7
        have hy7 := (Below.heap_setCell w6 ⟨g, 12, none⟩ (.slice Av (l.length - (24 + x21.toNat)) cv) w.heap.size (Nat.ne_of_lt HG2.out)).trans HYc.out
        have HB7 := Aside0.mk (HBc.out.setCell (p := ⟨g, 12, none⟩) HG1.out (.slice Av (l.length - (24 + x21.toNat)) cv))
        have HF7 := Aside0.mk (show ∀ k, k ≠ g → (w6.setCell ⟨g, 12, none⟩ (.slice Av (l.length - (24 + x21.toNat)) cv)).heap[k]? = w6.heap[k]? from fun k hk => Below.heap_setCell w6 ⟨g, 12, none⟩ _ k hk)
        generalize w6.setCell ⟨g, 12, none⟩ (.slice Av (l.length - (24 + x21.toNat)) cv) = W9 at hz7 hy7 HB7 HF7 ⊢
        obtain ⟨k0, k1, k2, k3, k4, k5, k6, k7, k8, k9, k10, k11, k12⟩ := c13 hz7
        obtain ⟨y0, y1, y2, y3, y4, y5, y6, y7, y8, y9, y10, y11, y12⟩ := c13 hy7
        obtain ⟨u0, u1, u2, u3, u4, u5, u6, u7, u8, u9, u10, u11, u12⟩ := f13 hy7
        clear hz7 hy7
        go_wp2
        (try simp only [Exit.inBlock, Exit.then])
        refine bodyPost_ret (v := .tuple #[.agg #[.int .i64 x0, .int .i64 x1, .int .i64 x12, .int .i64 (numL l 4 4), .int .i64 (numL l 8 4), .int .i64 (numL l 16 2), .int .i64 (numL l 18 2), .int .i64 x20, .int .i64 0, .bool false, .int .i64 0, .slice Ao x21.toNat co, .slice Av (l.length - (24 + x21.toNat)) cv], .int .i64 0]) ?_ rfl (parsed_ok (v1 := .slice Ao x21.toNat co) (v2 := .slice Av (l.length - (24 + x21.toNat)) cv) HPE.out (RB_move HOo.out (Nat.le_of_lt (Nat.lt_trans HG2.out HGo.out)) ?_) (RB_move HO.out (Nat.le_of_lt (Nat.lt_trans HG2.out HLT.out)) ?_) ?_ ?_)
        · rw [results_cell_tmp rfl]
          go_simp
        · intro k hk hlt
          have h1 := HG2.out
          have h2 := HGo.out
          have h3 := HSo.out
          exact (lay13_far (by omega) _ _ _ _ _ _ _ _ _ _ _ _ _).trans ((HF7.out k (by omega)).trans ((HF6.out k (by omega)).trans (HFo.out k (by omega))))
        · intro k hk _
          have h1 := HG2.out
          have h2 := HLT.out
          exact (lay13_far (by omega) _ _ _ _ _ _ _ _ _ _ _ _ _).trans (HF7.out k (by omega))
        · intro k hk he
          have h1 := Kd.R_lt HOo.out k hk
          have h2 := Kd.R_base HO.out k he
          have h3 := HSo.out
          omega
        · exact lay13_below HB7.out (Nat.le_refl _) _ _ _ _ _ _ _ _ _ _ _ _ _
end Go.Proofs.Ytbjhmifhmojaoaa.WB

namespace Go.Proofs.Ytbjhmifhmojaoaa.WB
set_option linter.unusedVariables false
set_option linter.unusedSimpArgs false
open Go.RowKit Go.Proofs.Ytbjhmifhmojaoaa.Hp Go.Proofs.Ytbjhmifhmojaoaa.SB Go.Proofs.YtbjhmifhmojaoaaW.PrintWords Go.Proofs.YtbjhmifhmojaoaaW.PrintLast Go.Proofs.YtbjhmifhmojaoaaW.PrintMore
theorem head0 {l : List Int} (h : headE l = 0) : 24 ≤ l.length ∧ l.length ≤ 1500 ∧ numL l 2 2 = (l.length : Int) ∧ l.getD 13 0 = 0 ∧ fold (pairs (l.take 16)) = 65535 ∧ (l.getD 0 0 = 1 ∨ l.getD 0 0 = 2 ∨ (l.getD 0 0 = 3 ∧ 44 ≤ l.length)) := by
  unfold headE at h
  split at h
  · cases h
  split at h
  · cases h
  split at h
  · cases h
  split at h
  · cases h
  split at h
  · cases h
  rename_i h1 h2 h3 h4 h5
  have h3 := Decidable.not_not.1 h3
  have h4 := Decidable.not_not.1 h4
  have h2 := Decidable.not_not.1 h2
  refine ⟨by omega, h3.2.1, h3.1, h3.2.2, h4, by omega⟩
theorem parse_calls {A : Option Addr} {c n : Nat} {l : List Int} {w : World} (hr : Kd.C (Kd.int .u8) w A n l) (hn : l.length = n) (hc : n ≤ c) (hl : l.length ≤ 100000) (hb : Bytes l) :
    Calls Try.prog 19 #[.slice A n c] w (Parsed w l) := by
  subst hn
  by_cases he : headE l = 0
  · obtain ⟨h24, _, _, _, _, hk | hk | ⟨hk, h44⟩⟩ := head0 he
    · exact parse_stream hr hc hl hb he h24 hk
    · exact parse_gram hr hc hl hb he h24 hk
    · exact parse_fault hr hc hl hb he h44 hk
  · exact parse_err hr hc hl hb he
/-- Is a packet whole? -/
def wholeL (l : List Int) : Bool := (parseL l).2 == 0 && ((parseL l).1.bare || fold (pairs (summedL l)) == 65535)
theorem right_calls {A : Option Addr} {c n : Nat} {l : List Int} {w : World} (hr : Kd.C (Kd.int .u8) w A n l) (hn : l.length = n) (hc : n ≤ c) (hb : Bytes l) (hl : l.length ≤ 100000) :
    Calls Try.prog 47 #[.slice A n c] w fun e w' => e = .returned (.bool (fold (pairs l) == 65535)) ∧ Drawn0 w w' := by
  subst hn
  exact sum_Right.calls (l.length + 2) A c l _ w hr hc (right_f (by omega) hb (Nat.le_refl _))
theorem of_calls {A : Option Addr} {c n : Nat} {l : List Int} {w : World} (hr : Kd.C (Kd.int .u8) w A n l) (hn : l.length = n) (hc : n ≤ c) (hb : Bytes l) (hl : l.length ≤ 100000) :
    Calls Try.prog 37 #[.slice A n c] w fun e w' => e = .returned (.int .i64 (65535 - fold (pairs l))) ∧ Drawn0 w w' := by
  subst hn
  exact sum_Of.calls (l.length + 2) A c l _ w hr hc (of_f (by omega) hb (Nat.le_refl _))
theorem rright_calls {A : Option Addr} {c n : Nat} {l : List Int} {w : World} (hr : Kd.C (Kd.int .u8) w A n l) (hn : l.length = n) (hc : n ≤ c) (hb : Bytes l) (hl : l.length ≤ 100000) :
    Calls Try.prog 33 #[.slice A n c] w fun e w' => e = .returned (.bool (fold (pairs l) == 65535)) ∧ Drawn0 w w' := by
  subst hn
  exact roundhouseref1_Right.calls (l.length + 2) A c l _ w hr hc (rright_f (by omega) hb (Nat.le_refl _))
theorem rof_calls {A : Option Addr} {c n : Nat} {l : List Int} {w : World} (hr : Kd.C (Kd.int .u8) w A n l) (hn : l.length = n) (hc : n ≤ c) (hb : Bytes l) (hl : l.length ≤ 100000) :
    Calls Try.prog 23 #[.slice A n c] w fun e w' => e = .returned (.int .i64 (65535 - fold (pairs l))) ∧ Drawn0 w w' := by
  subst hn
  exact roundhouseref1_Of.calls (l.length + 2) A c l _ w hr hc (rof_f (by omega) hb (Nat.le_refl _))
end Go.Proofs.Ytbjhmifhmojaoaa.WB

namespace Go.Proofs.Ytbjhmifhmojaoaa.WB
set_option linter.unusedVariables false
set_option linter.unusedSimpArgs false
open Go.RowKit Go.Proofs.Ytbjhmifhmojaoaa.Hp Go.Proofs.Ytbjhmifhmojaoaa.SB Go.Proofs.YtbjhmifhmojaoaaW.PrintWords Go.Proofs.YtbjhmifhmojaoaaW.PrintLast Go.Proofs.YtbjhmifhmojaoaaW.PrintMore
theorem right_calls_r {A : Option Addr} {c n : Nat} {l : List Int} {w : World} (hr : Kd.C (Kd.int .u8) w A n l) (hn : l.length = n) (hc : n ≤ c) (hb : Bytes l) (hl : l.length ≤ 100000) :
    Calls Try.prog 33 #[.slice A n c] w fun e w' => e = .returned (.bool (fold (pairs l) == 65535)) ∧ Drawn0 w w' := rright_calls hr hn hc hb hl
set_option maxRecDepth 100000 in
theorem rparse_short {A : Option Addr} {c : Nat} {l : List Int} {w : World} (hr : Kd.C (Kd.int .u8) w A l.length l) (hc : l.length ≤ c) (h16 : l.length < 16) :
    Calls Try.prog 24 #[.slice A l.length c] w (Parsed w l) := by
  have HBA := Aside0.mk (fun o => (Below.refl w.heap.size w).alloc (Nat.le_refl _) o)
  have d0 : decide ((l.length : Int) < 16) = true := decide_eq_true (by omega)
  have d1 : decide (l.length < 16) = true := decide_eq_true h16
  have HPE := Aside0.mk (show parseL l = (zeroP, 1) from by unfold parseL headE; rw [if_pos h16]; rfl)
  clear hr hc h16
  go_enter Try.func24, Try.ntmps24
  go_wp2
  (try simp only [Exit.inBlock, Exit.then])
  refine bodyPost_ret (v := .tuple #[.agg zero13, .int .i64 1]) ?_ rfl (parsed_err HPE.out ?_)
  · rw [results_cell_tmp rfl]
    go_simp
  · repeat (with_reducible refine Below.setCell ?_ ?_ _)
    · repeat (first | with_reducible exact HBA.out _ | with_reducible apply pw_below_drewN)
    all_goals exact Nat.le_refl _
set_option maxHeartbeats 4000000 in
set_option maxRecDepth 100000 in
theorem rparse_err {c : Nat} {A : Option Addr} {l : List Int} {w : World} (hr : Kd.C (Kd.int .u8) w A l.length l) (hc : l.length ≤ c) (hl : l.length ≤ 100000) (hb : Bytes l) (h16 : 16 ≤ l.length) (he : headE l ≠ 0) :
    Calls Try.prog 24 #[.slice A l.length c] w (Parsed w l) := by
  have HR := Aside0.mk hr
  have HC := Aside0.mk hc
  have HL := Aside0.mk hl
  have HY := Aside0.mk hb
  have H16 := Aside0.mk h16
  have HBA := Aside0.mk (fun o => (Below.refl w.heap.size w).alloc (Nat.le_refl _) o)
  obtain ⟨ad, rfl, hcell⟩ := cells_of hr (by omega)
  have c0 := hcell 0 (by omega)
  rw [Addr.add_zero'] at c0
  have b0 := getD_byte hb 0
  obtain ⟨x0, e0⟩ : ∃ x, l.getD 0 0 = x := ⟨_, rfl⟩
  rw [e0] at c0 b0
  have w0 : wrap64 x0 = x0 := wid (by omega) (by omega)
  have i0 : (0 : Int) < (l.length : Int) := by omega
  have c13 : w.cell? ⟨ad.block, ad.off + 13, none⟩ = _ := hcell 13 (by omega)
  have b13 := getD_byte hb 13
  obtain ⟨x13, e13⟩ : ∃ x, l.getD 13 0 = x := ⟨_, rfl⟩
  rw [e13] at c13 b13
  have w13 : wrap64 x13 = x13 := wid (by omega) (by omega)
  have i13 : (13 : Int) < (l.length : Int) := by omega
  have i0n : 0 < l.length := by omega
  have HC0 := Aside0.mk (show ∀ W, Below w.heap.size w W → W.cell? ad = some (.int .u8 x0) from fun W h => (h.cell (World.block_lt_of_cell? w _ c0)).trans c0)
  have HC13 := Aside0.mk (show ∀ W, Below w.heap.size w W → W.cell? ⟨ad.block, ad.off + 13, none⟩ = some (.int .u8 x13) from fun W h => (h.cell (World.block_lt_of_cell? w _ c13)).trans c13)
  have EE := Aside0.mk (And.intro e0 (And.intro e13 trivial))
  clear hcell c0 c13 e0 e13
  have HCL := Aside0.mk hc
  have G2 := Aside0.mk (fun W (h : Below w.heap.size w W) => num_calls (l := l) (w := W) 2 2 (iz := 2) (mz := 2) (Kd.C_below HR.out h) rfl HC.out HY.out HL.out rfl rfl (by omega) (by have := H16.out; omega))
  obtain ⟨hcut16, hC16⟩ := cut_to (A := some ad) (c := c) (l := l) 16 (jz := 16) rfl (by have := H16.out; omega) rfl HC.out
  have GR := Aside0.mk (fun W (h : Below w.heap.size w W) => right_calls_r (c := c) (hC16 W (Kd.C_below HR.out h)) (by rw [List.length_take]; have := H16.out; omega) (by have := H16.out; have := HC.out; omega) (HY.out.take 16) (by rw [List.length_take]; omega))
  clear hC16
  have d0 : decide ((l.length : Int) < 16) = false := decide_eq_false (by omega)
  have d1 : decide (l.length < 16) = false := decide_eq_false (by omega)
  have c0 := HC0.out _ (HBA.out (.cells zero13 26))
  have c13 := HC13.out _ (HBA.out (.cells zero13 26))
  have hhe : headE l = (if ¬ (1 ≤ x0 ∧ x0 ≤ 3) then 2 else if ¬ (numL l 2 2 = (l.length : Int) ∧ l.length ≤ 1500 ∧ x13 = 0) then 3 else if ¬ fold (pairs (l.take 16)) = 65535 then 4 else if l.length < 24 ∨ (x0 = 3 ∧ l.length < 44) then 1 else 0) := by
    unfold headE
    rw [if_neg (by omega), EE.out.1, EE.out.2.1]
  have hpe : ∀ x, headE l = x → x ≠ 0 → parseL l = (zeroP, x) := fun x h h0 => by unfold parseL; rw [if_pos (by omega), h]
  clear hr hc hl hb
  by_cases t1 : x0 < 1
  · skip
    have HPE := Aside0.mk (hpe 2 (by rw [hhe, if_pos (by omega)]) (by decide))
    clear hhe hpe he
    have t1b0 : decide (x0 < 1) = true := decide_eq_true (by omega)
    clear h16 t1
    go_enter Try.func24, Try.ntmps24
    go_wp2_with (first | (go_at_call 32; (with_reducible refine (G2.out _ ?hb).mono ?_); (case hb => (repeat (first | with_reducible exact HBA.out _ | with_reducible apply pw_below_drewN))); rintro e w3 ⟨rfl, ⟨⟨nq, rfl⟩⟩⟩) | (go_at_call 33; (with_reducible refine (GR.out _ ?hb).mono ?_); (case hb => (repeat (first | with_reducible exact HBA.out _ | with_reducible apply pw_below_drewN))); rintro e w3 ⟨rfl, ⟨⟨nq, rfl⟩⟩⟩))
    (try simp only [Exit.inBlock, Exit.then])
    refine bodyPost_ret (v := .tuple #[.agg zero13, .int .i64 2]) ?_ rfl (parsed_err HPE.out ?_)
    · rw [results_cell_tmp rfl]
      go_simp
    · repeat (with_reducible refine Below.setCell ?_ ?_ _)
      · repeat (first | with_reducible exact HBA.out _ | with_reducible apply pw_below_drewN)
      all_goals exact Nat.le_refl _
  · skip
    by_cases t2 : 3 < x0
    · skip
      have HPE := Aside0.mk (hpe 2 (by rw [hhe, if_pos (by omega)]) (by decide))
      clear hhe hpe he
      have t1b0 : decide (x0 < 1) = false := decide_eq_false (by omega)
      have t2b0 : decide (3 < x0) = true := decide_eq_true (by omega)
      clear h16 t1 t2
      go_enter Try.func24, Try.ntmps24
      go_wp2_with (first | (go_at_call 32; (with_reducible refine (G2.out _ ?hb).mono ?_); (case hb => (repeat (first | with_reducible exact HBA.out _ | with_reducible apply pw_below_drewN))); rintro e w3 ⟨rfl, ⟨⟨nq, rfl⟩⟩⟩) | (go_at_call 33; (with_reducible refine (GR.out _ ?hb).mono ?_); (case hb => (repeat (first | with_reducible exact HBA.out _ | with_reducible apply pw_below_drewN))); rintro e w3 ⟨rfl, ⟨⟨nq, rfl⟩⟩⟩))
      (try simp only [Exit.inBlock, Exit.then])
      refine bodyPost_ret (v := .tuple #[.agg zero13, .int .i64 2]) ?_ rfl (parsed_err HPE.out ?_)
      · rw [results_cell_tmp rfl]
        go_simp
      · repeat (with_reducible refine Below.setCell ?_ ?_ _)
        · repeat (first | with_reducible exact HBA.out _ | with_reducible apply pw_below_drewN)
        all_goals exact Nat.le_refl _
    · skip
      by_cases t3 : ¬ numL l 2 2 = (l.length : Int)
      · skip
        have HPE := Aside0.mk (hpe 3 (by rw [hhe, if_neg (by omega), if_pos (by omega)]) (by decide))
        clear hhe hpe he
        have t1b0 : decide (x0 < 1) = false := decide_eq_false (by omega)
        have t2b0 : decide (3 < x0) = false := decide_eq_false (by omega)
        have t3b0 : (numL l 2 2 == (l.length : Int)) = false := beq_eq_false_iff_ne.mpr (by omega)
        have t3b1 : (numL l 2 2 != (l.length : Int)) = true := bne_iff_ne.mpr (by omega)
        clear h16 t1 t2 t3
        go_enter Try.func24, Try.ntmps24
        go_wp2_with (first | (go_at_call 32; (with_reducible refine (G2.out _ ?hb).mono ?_); (case hb => (repeat (first | with_reducible exact HBA.out _ | with_reducible apply pw_below_drewN))); rintro e w3 ⟨rfl, ⟨⟨nq, rfl⟩⟩⟩) | (go_at_call 33; (with_reducible refine (GR.out _ ?hb).mono ?_); (case hb => (repeat (first | with_reducible exact HBA.out _ | with_reducible apply pw_below_drewN))); rintro e w3 ⟨rfl, ⟨⟨nq, rfl⟩⟩⟩))
        (try simp only [Exit.inBlock, Exit.then])
        refine bodyPost_ret (v := .tuple #[.agg zero13, .int .i64 3]) ?_ rfl (parsed_err HPE.out ?_)
        · rw [results_cell_tmp rfl]
          go_simp
        · repeat (with_reducible refine Below.setCell ?_ ?_ _)
          · repeat (first | with_reducible exact HBA.out _ | with_reducible apply pw_below_drewN)
          all_goals exact Nat.le_refl _
      · skip
        by_cases t4 : 1500 < l.length
        · skip
          have HPE := Aside0.mk (hpe 3 (by rw [hhe, if_neg (by omega), if_pos (by omega)]) (by decide))
          clear hhe hpe he
          have t1b0 : decide (x0 < 1) = false := decide_eq_false (by omega)
          have t2b0 : decide (3 < x0) = false := decide_eq_false (by omega)
          have t3b0 : (numL l 2 2 == (l.length : Int)) = true := beq_iff_eq.mpr (by omega)
          have t3b1 : (numL l 2 2 != (l.length : Int)) = false := by rw [bne, t3b0]; rfl
          have t4b0 : decide (1500 < (l.length : Int)) = true := decide_eq_true (by omega)
          have t4b1 : decide (1500 < l.length) = true := decide_eq_true (by omega)
          clear h16 t1 t2 t3 t4
          go_enter Try.func24, Try.ntmps24
          go_wp2_with (first | (go_at_call 32; (with_reducible refine (G2.out _ ?hb).mono ?_); (case hb => (repeat (first | with_reducible exact HBA.out _ | with_reducible apply pw_below_drewN))); rintro e w3 ⟨rfl, ⟨⟨nq, rfl⟩⟩⟩) | (go_at_call 33; (with_reducible refine (GR.out _ ?hb).mono ?_); (case hb => (repeat (first | with_reducible exact HBA.out _ | with_reducible apply pw_below_drewN))); rintro e w3 ⟨rfl, ⟨⟨nq, rfl⟩⟩⟩))
          (try simp only [Exit.inBlock, Exit.then])
          refine bodyPost_ret (v := .tuple #[.agg zero13, .int .i64 3]) ?_ rfl (parsed_err HPE.out ?_)
          · rw [results_cell_tmp rfl]
            go_simp
          · repeat (with_reducible refine Below.setCell ?_ ?_ _)
            · repeat (first | with_reducible exact HBA.out _ | with_reducible apply pw_below_drewN)
            all_goals exact Nat.le_refl _
        · skip
          by_cases t5 : ¬ x13 = 0
          · skip
            have HPE := Aside0.mk (hpe 3 (by rw [hhe, if_neg (by omega), if_pos (by omega)]) (by decide))
            clear hhe hpe he
            have t1b0 : decide (x0 < 1) = false := decide_eq_false (by omega)
            have t2b0 : decide (3 < x0) = false := decide_eq_false (by omega)
            have t3b0 : (numL l 2 2 == (l.length : Int)) = true := beq_iff_eq.mpr (by omega)
            have t3b1 : (numL l 2 2 != (l.length : Int)) = false := by rw [bne, t3b0]; rfl
            have t4b0 : decide (1500 < (l.length : Int)) = false := decide_eq_false (by omega)
            have t4b1 : decide (1500 < l.length) = false := decide_eq_false (by omega)
            have t5b0 : (x13 == 0) = false := beq_eq_false_iff_ne.mpr (by omega)
            have t5b1 : (x13 != 0) = true := bne_iff_ne.mpr (by omega)
            clear h16 t1 t2 t3 t4 t5
            go_enter Try.func24, Try.ntmps24
            go_wp2_with (first | (go_at_call 32; (with_reducible refine (G2.out _ ?hb).mono ?_); (case hb => (repeat (first | with_reducible exact HBA.out _ | with_reducible apply pw_below_drewN))); rintro e w3 ⟨rfl, ⟨⟨nq, rfl⟩⟩⟩) | (go_at_call 33; (with_reducible refine (GR.out _ ?hb).mono ?_); (case hb => (repeat (first | with_reducible exact HBA.out _ | with_reducible apply pw_below_drewN))); rintro e w3 ⟨rfl, ⟨⟨nq, rfl⟩⟩⟩))
            (try simp only [Exit.inBlock, Exit.then])
            refine bodyPost_ret (v := .tuple #[.agg zero13, .int .i64 3]) ?_ rfl (parsed_err HPE.out ?_)
            · rw [results_cell_tmp rfl]
              go_simp
            · repeat (with_reducible refine Below.setCell ?_ ?_ _)
              · repeat (first | with_reducible exact HBA.out _ | with_reducible apply pw_below_drewN)
              all_goals exact Nat.le_refl _
          · skip
            by_cases t6 : ¬ fold (pairs (l.take 16)) = 65535
            · skip
              have HPE := Aside0.mk (hpe 4 (by rw [hhe, if_neg (by omega), if_neg (by omega), if_pos (by omega)]) (by decide))
              clear hhe hpe he
              have t1b0 : decide (x0 < 1) = false := decide_eq_false (by omega)
              have t2b0 : decide (3 < x0) = false := decide_eq_false (by omega)
              have t3b0 : (numL l 2 2 == (l.length : Int)) = true := beq_iff_eq.mpr (by omega)
              have t3b1 : (numL l 2 2 != (l.length : Int)) = false := by rw [bne, t3b0]; rfl
              have t4b0 : decide (1500 < (l.length : Int)) = false := decide_eq_false (by omega)
              have t4b1 : decide (1500 < l.length) = false := decide_eq_false (by omega)
              have t5b0 : (x13 == 0) = true := beq_iff_eq.mpr (by omega)
              have t5b1 : (x13 != 0) = false := by rw [bne, t5b0]; rfl
              have t6b0 : (fold (pairs (l.take 16)) == 65535) = false := beq_eq_false_iff_ne.mpr (by omega)
              have t6b1 : (fold (pairs (l.take 16)) != 65535) = true := bne_iff_ne.mpr (by omega)
              clear h16 t1 t2 t3 t4 t5 t6
              go_enter Try.func24, Try.ntmps24
              go_wp2_with (first | (go_at_call 32; (with_reducible refine (G2.out _ ?hb).mono ?_); (case hb => (repeat (first | with_reducible exact HBA.out _ | with_reducible apply pw_below_drewN))); rintro e w3 ⟨rfl, ⟨⟨nq, rfl⟩⟩⟩) | (go_at_call 33; (with_reducible refine (GR.out _ ?hb).mono ?_); (case hb => (repeat (first | with_reducible exact HBA.out _ | with_reducible apply pw_below_drewN))); rintro e w3 ⟨rfl, ⟨⟨nq, rfl⟩⟩⟩))
              (try simp only [Exit.inBlock, Exit.then])
              refine bodyPost_ret (v := .tuple #[.agg zero13, .int .i64 4]) ?_ rfl (parsed_err HPE.out ?_)
              · rw [results_cell_tmp rfl]
                go_simp
              · repeat (with_reducible refine Below.setCell ?_ ?_ _)
                · repeat (first | with_reducible exact HBA.out _ | with_reducible apply pw_below_drewN)
                all_goals exact Nat.le_refl _
            · skip
              by_cases t7 : l.length < 24
              · skip
                have HPE := Aside0.mk (hpe 1 (by rw [hhe, if_neg (by omega), if_neg (by omega), if_neg (by omega), if_pos (by omega)]) (by decide))
                clear hhe hpe he
                have t1b0 : decide (x0 < 1) = false := decide_eq_false (by omega)
                have t2b0 : decide (3 < x0) = false := decide_eq_false (by omega)
                have t3b0 : (numL l 2 2 == (l.length : Int)) = true := beq_iff_eq.mpr (by omega)
                have t3b1 : (numL l 2 2 != (l.length : Int)) = false := by rw [bne, t3b0]; rfl
                have t4b0 : decide (1500 < (l.length : Int)) = false := decide_eq_false (by omega)
                have t4b1 : decide (1500 < l.length) = false := decide_eq_false (by omega)
                have t5b0 : (x13 == 0) = true := beq_iff_eq.mpr (by omega)
                have t5b1 : (x13 != 0) = false := by rw [bne, t5b0]; rfl
                have t6b0 : (fold (pairs (l.take 16)) == 65535) = true := beq_iff_eq.mpr (by omega)
                have t6b1 : (fold (pairs (l.take 16)) != 65535) = false := by rw [bne, t6b0]; rfl
                have t7b0 : decide ((l.length : Int) < 24) = true := decide_eq_true (by omega)
                have t7b1 : decide (l.length < 24) = true := decide_eq_true (by omega)
                clear h16 t1 t2 t3 t4 t5 t6 t7
                go_enter Try.func24, Try.ntmps24
                go_wp2_with (first | (go_at_call 32; (with_reducible refine (G2.out _ ?hb).mono ?_); (case hb => (repeat (first | with_reducible exact HBA.out _ | with_reducible apply pw_below_drewN))); rintro e w3 ⟨rfl, ⟨⟨nq, rfl⟩⟩⟩) | (go_at_call 33; (with_reducible refine (GR.out _ ?hb).mono ?_); (case hb => (repeat (first | with_reducible exact HBA.out _ | with_reducible apply pw_below_drewN))); rintro e w3 ⟨rfl, ⟨⟨nq, rfl⟩⟩⟩))
                (try simp only [Exit.inBlock, Exit.then])
                refine bodyPost_ret (v := .tuple #[.agg zero13, .int .i64 1]) ?_ rfl (parsed_err HPE.out ?_)
                · rw [results_cell_tmp rfl]
                  go_simp
                · repeat (with_reducible refine Below.setCell ?_ ?_ _)
                  · repeat (first | with_reducible exact HBA.out _ | with_reducible apply pw_below_drewN)
                  all_goals exact Nat.le_refl _
              · skip
                by_cases t8 : x0 = 3
                · skip
                  by_cases t9 : l.length < 44
                  · skip
                    have HPE := Aside0.mk (hpe 1 (by rw [hhe, if_neg (by omega), if_neg (by omega), if_neg (by omega), if_pos (by omega)]) (by decide))
                    clear hhe hpe he
                    have t1b0 : decide (x0 < 1) = false := decide_eq_false (by omega)
                    have t2b0 : decide (3 < x0) = false := decide_eq_false (by omega)
                    have t3b0 : (numL l 2 2 == (l.length : Int)) = true := beq_iff_eq.mpr (by omega)
                    have t3b1 : (numL l 2 2 != (l.length : Int)) = false := by rw [bne, t3b0]; rfl
                    have t4b0 : decide (1500 < (l.length : Int)) = false := decide_eq_false (by omega)
                    have t4b1 : decide (1500 < l.length) = false := decide_eq_false (by omega)
                    have t5b0 : (x13 == 0) = true := beq_iff_eq.mpr (by omega)
                    have t5b1 : (x13 != 0) = false := by rw [bne, t5b0]; rfl
                    have t6b0 : (fold (pairs (l.take 16)) == 65535) = true := beq_iff_eq.mpr (by omega)
                    have t6b1 : (fold (pairs (l.take 16)) != 65535) = false := by rw [bne, t6b0]; rfl
                    have t7b0 : decide ((l.length : Int) < 24) = false := decide_eq_false (by omega)
                    have t7b1 : decide (l.length < 24) = false := decide_eq_false (by omega)
                    have t8b0 : (x0 == 3) = true := beq_iff_eq.mpr (by omega)
                    have t8b1 : (x0 != 3) = false := by rw [bne, t8b0]; rfl
                    have t9b0 : decide ((l.length : Int) < 44) = true := decide_eq_true (by omega)
                    have t9b1 : decide (l.length < 44) = true := decide_eq_true (by omega)
                    clear h16 t1 t2 t3 t4 t5 t6 t7 t8 t9
                    go_enter Try.func24, Try.ntmps24
                    go_wp2_with (first | (go_at_call 32; (with_reducible refine (G2.out _ ?hb).mono ?_); (case hb => (repeat (first | with_reducible exact HBA.out _ | with_reducible apply pw_below_drewN))); rintro e w3 ⟨rfl, ⟨⟨nq, rfl⟩⟩⟩) | (go_at_call 33; (with_reducible refine (GR.out _ ?hb).mono ?_); (case hb => (repeat (first | with_reducible exact HBA.out _ | with_reducible apply pw_below_drewN))); rintro e w3 ⟨rfl, ⟨⟨nq, rfl⟩⟩⟩))
                    (try simp only [Exit.inBlock, Exit.then])
                    refine bodyPost_ret (v := .tuple #[.agg zero13, .int .i64 1]) ?_ rfl (parsed_err HPE.out ?_)
                    · rw [results_cell_tmp rfl]
                      go_simp
                    · repeat (with_reducible refine Below.setCell ?_ ?_ _)
                      · repeat (first | with_reducible exact HBA.out _ | with_reducible apply pw_below_drewN)
                      all_goals exact Nat.le_refl _
                  · exact absurd (by rw [hhe, if_neg (by omega), if_neg (by omega), if_neg (by omega), if_neg (by omega)]) he
                · exact absurd (by rw [hhe, if_neg (by omega), if_neg (by omega), if_neg (by omega), if_neg (by omega)]) he
end Go.Proofs.Ytbjhmifhmojaoaa.WB

namespace Go.Proofs.Ytbjhmifhmojaoaa.WB
set_option linter.unusedVariables false
set_option linter.unusedSimpArgs false
open Go.RowKit Go.Proofs.Ytbjhmifhmojaoaa.Hp Go.Proofs.Ytbjhmifhmojaoaa.SB Go.Proofs.YtbjhmifhmojaoaaW.PrintWords Go.Proofs.YtbjhmifhmojaoaaW.PrintLast Go.Proofs.YtbjhmifhmojaoaaW.PrintMore
set_option maxHeartbeats 4000000 in
set_option maxRecDepth 100000 in
theorem rparse_fault {c : Nat} {A : Option Addr} {l : List Int} {w : World} (hr : Kd.C (Kd.int .u8) w A l.length l) (hc : l.length ≤ c) (hl : l.length ≤ 100000) (hb : Bytes l) (he : headE l = 0) (h24 : 44 ≤ l.length) (hk : l.getD 0 0 = 3) :
    Calls Try.prog 24 #[.slice A l.length c] w (Parsed w l) := by
  have HR := Aside0.mk hr
  have HC := Aside0.mk hc
  have HL := Aside0.mk hl
  have HY := Aside0.mk hb
  have HE := Aside0.mk he
  have HKD := Aside0.mk hk
  have H24 := Aside0.mk (show 24 ≤ l.length by omega)
  have H16 := Aside0.mk (show 16 ≤ l.length by omega)
  have HLE := Aside0.mk h24
  have HBA := Aside0.mk (fun o => (Below.refl w.heap.size w).alloc (Nat.le_refl _) o)
  obtain ⟨hh1, hh2, hh3, hh4, hh5, hh6⟩ := head0 he
  obtain ⟨ad, rfl, hcell⟩ := cells_of hr (by omega)
  have c0 := hcell 0 (by omega)
  rw [Addr.add_zero'] at c0
  have b0 := getD_byte hb 0
  obtain ⟨x0, e0⟩ : ∃ x, l.getD 0 0 = x := ⟨_, rfl⟩
  rw [e0] at c0 b0
  have w0 : wrap64 x0 = x0 := wid (by omega) (by omega)
  have i0 : (0 : Int) < (l.length : Int) := by omega
  have c1 : w.cell? ⟨ad.block, ad.off + 1, none⟩ = _ := hcell 1 (by omega)
  have b1 := getD_byte hb 1
  obtain ⟨x1, e1⟩ : ∃ x, l.getD 1 0 = x := ⟨_, rfl⟩
  rw [e1] at c1 b1
  have w1 : wrap64 x1 = x1 := wid (by omega) (by omega)
  have i1 : (1 : Int) < (l.length : Int) := by omega
  have c12 : w.cell? ⟨ad.block, ad.off + 12, none⟩ = _ := hcell 12 (by omega)
  have b12 := getD_byte hb 12
  obtain ⟨x12, e12⟩ : ∃ x, l.getD 12 0 = x := ⟨_, rfl⟩
  rw [e12] at c12 b12
  have w12 : wrap64 x12 = x12 := wid (by omega) (by omega)
  have i12 : (12 : Int) < (l.length : Int) := by omega
  have c13 : w.cell? ⟨ad.block, ad.off + 13, none⟩ = _ := hcell 13 (by omega)
  have b13 := getD_byte hb 13
  obtain ⟨x13, e13⟩ : ∃ x, l.getD 13 0 = x := ⟨_, rfl⟩
  rw [e13] at c13 b13
  have w13 : wrap64 x13 = x13 := wid (by omega) (by omega)
  have i13 : (13 : Int) < (l.length : Int) := by omega
  have c16 : w.cell? ⟨ad.block, ad.off + 16, none⟩ = _ := hcell 16 (by omega)
  have b16 := getD_byte hb 16
  obtain ⟨x16, e16⟩ : ∃ x, l.getD 16 0 = x := ⟨_, rfl⟩
  rw [e16] at c16 b16
  have w16 : wrap64 x16 = x16 := wid (by omega) (by omega)
  have i16 : (16 : Int) < (l.length : Int) := by omega
  have c17 : w.cell? ⟨ad.block, ad.off + 17, none⟩ = _ := hcell 17 (by omega)
  have b17 := getD_byte hb 17
  obtain ⟨x17, e17⟩ : ∃ x, l.getD 17 0 = x := ⟨_, rfl⟩
  rw [e17] at c17 b17
  have w17 : wrap64 x17 = x17 := wid (by omega) (by omega)
  have i17 : (17 : Int) < (l.length : Int) := by omega
  have i0n : 0 < l.length := by omega
  have HC0 := Aside0.mk (show ∀ W, Below w.heap.size w W → W.cell? ad = some (.int .u8 x0) from fun W h => (h.cell (World.block_lt_of_cell? w _ c0)).trans c0)
  have HC1 := Aside0.mk (show ∀ W, Below w.heap.size w W → W.cell? ⟨ad.block, ad.off + 1, none⟩ = some (.int .u8 x1) from fun W h => (h.cell (World.block_lt_of_cell? w _ c1)).trans c1)
  have HC12 := Aside0.mk (show ∀ W, Below w.heap.size w W → W.cell? ⟨ad.block, ad.off + 12, none⟩ = some (.int .u8 x12) from fun W h => (h.cell (World.block_lt_of_cell? w _ c12)).trans c12)
  have HC13 := Aside0.mk (show ∀ W, Below w.heap.size w W → W.cell? ⟨ad.block, ad.off + 13, none⟩ = some (.int .u8 x13) from fun W h => (h.cell (World.block_lt_of_cell? w _ c13)).trans c13)
  have HC16 := Aside0.mk (show ∀ W, Below w.heap.size w W → W.cell? ⟨ad.block, ad.off + 16, none⟩ = some (.int .u8 x16) from fun W h => (h.cell (World.block_lt_of_cell? w _ c16)).trans c16)
  have HC17 := Aside0.mk (show ∀ W, Below w.heap.size w W → W.cell? ⟨ad.block, ad.off + 17, none⟩ = some (.int .u8 x17) from fun W h => (h.cell (World.block_lt_of_cell? w _ c17)).trans c17)
  have EE := Aside0.mk (And.intro e0 (And.intro e1 (And.intro e12 (And.intro e13 (And.intro e16 (And.intro e17 trivial))))))
  clear hcell c0 c1 c12 c13 c16 c17 e0 e1 e12 e13 e16 e17
  have HCL := Aside0.mk hc
  have G2 := Aside0.mk (fun W (h : Below w.heap.size w W) => num_calls (l := l) (w := W) 2 2 (iz := 2) (mz := 2) (Kd.C_below HR.out h) rfl HC.out HY.out HL.out rfl rfl (by omega) (by have := H16.out; omega))
  obtain ⟨hcut16, hC16⟩ := cut_to (A := some ad) (c := c) (l := l) 16 (jz := 16) rfl (by have := H16.out; omega) rfl HC.out
  have GR := Aside0.mk (fun W (h : Below w.heap.size w W) => right_calls_r (c := c) (hC16 W (Kd.C_below HR.out h)) (by rw [List.length_take]; have := H16.out; omega) (by have := H16.out; have := HC.out; omega) (HY.out.take 16) (by rw [List.length_take]; omega))
  clear hC16
  have d0 : decide ((l.length : Int) < 16) = false := decide_eq_false (by omega)
  have d1 : decide (l.length < 16) = false := decide_eq_false (by omega)
  have m0 := HC0.out _ (HBA.out (.cells zero13 26))
  have m13 := HC13.out _ (HBA.out (.cells zero13 26))
  rw [EE.out.1] at hk
  have hx13 : x13 = 0 := by rw [← EE.out.2.2.2.1]; exact hh4
  have t1b0 : decide (x0 < 1) = false := decide_eq_false (by omega)
  have t2b0 : decide (3 < x0) = false := decide_eq_false (by omega)
  have t3b0 : (numL l 2 2 == (l.length : Int)) = true := beq_iff_eq.mpr (by omega)
  have t3b1 : (numL l 2 2 != (l.length : Int)) = false := by rw [bne, t3b0]; rfl
  have t4b0 : decide (1500 < (l.length : Int)) = false := decide_eq_false (by omega)
  have t4b1 : decide (1500 < l.length) = false := decide_eq_false (by omega)
  have t5b0 : (x13 == 0) = true := beq_iff_eq.mpr (by omega)
  have t5b1 : (x13 != 0) = false := by rw [bne, t5b0]; rfl
  have t6b0 : (fold (pairs (l.take 16)) == 65535) = true := beq_iff_eq.mpr (by omega)
  have t6b1 : (fold (pairs (l.take 16)) != 65535) = false := by rw [bne, t6b0]; rfl
  have t7b0 : decide ((l.length : Int) < 24) = false := decide_eq_false (by omega)
  have t7b1 : decide (l.length < 24) = false := decide_eq_false (by omega)
  have t9b0 : decide ((l.length : Int) < 44) = false := decide_eq_false (by omega)
  have t9b1 : decide (l.length < 44) = false := decide_eq_false (by omega)
  have q3 : (x0 == 3) = true := by rw [hk]; rfl
  have q3n : (x0 != 3) = false := by rw [hk]; rfl
  have q2 : (x0 == 2) = false := by rw [hk]; rfl
  have q2n : (x0 != 2) = true := by rw [hk]; rfl
  clear he hr hc hl hb h24 hk hh1 hh2 hh3 hh4 hh5 hh6
  go_enter Try.func24, Try.ntmps24
  go_upto_region 11 with (first | (go_at_call 32; (with_reducible refine (G2.out _ ?hb).mono ?_); (case hb => (repeat (first | with_reducible exact HBA.out _ | with_reducible apply pw_below_drewN))); rintro e w3 ⟨rfl, ⟨⟨nq, rfl⟩⟩⟩) | (go_at_call 33; (with_reducible refine (GR.out _ ?hb).mono ?_); (case hb => (repeat (first | with_reducible exact HBA.out _ | with_reducible apply pw_below_drewN))); rintro e w3 ⟨rfl, ⟨⟨nq, rfl⟩⟩⟩))
  generalize hW : World.drewN _ _ = W1
  have HBR : Aside0 (Below w.heap.size w W1) := Aside0.mk (by rw [← hW]; repeat (first | with_reducible exact HBA.out _ | with_reducible apply pw_below_drewN))
  have HK1 : Aside0 (W1.heap[w.heap.size]? = some (.cells zero13 26 (0, 0))) := Aside0.mk (by rw [← hW]; exact new_blk w _)
  have HR1 := Aside0.mk (Kd.C_below HR.out HBR.out)
  have HG1 := Aside0.mk (show w.heap.size ≤ W1.heap.size from HBR.out.size)
  have HG2 := Aside0.mk (show w.heap.size < W1.heap.size from blk_lt HK1.out)
  have HBS := Aside0.mk (Below.refl W1.heap.size W1)
  clear hW hcut16 m0 m13 t1b0 t2b0 t3b0 t3b1 t4b0 t4b1 t5b0 t5b1 t6b0 t6b1 t7b0 t7b1 d0 d1 G2 GR HBA
  refine start_ (n := 19) (S := fun w' => w'.cell? ad = some (.int .u8 x0) ∧ w'.cell? ⟨ad.block, ad.off + 1, none⟩ = some (.int .u8 x1) ∧ w'.cell? ⟨ad.block, ad.off + 12, none⟩ = some (.int .u8 x12)) (ds := []) #[false, false, false, false, false, false, false, false, false, false, false, false, false, false, false, false, false, false, false] (by kernel_rfl) rfl rfl ⟨(HC0.out _ (by repeat (first | (with_reducible first | exact HBR.out | apply below_alloc | apply pw_below_drewN | apply below_drew1) | exact HBR.out))), (HC1.out _ (by repeat (first | (with_reducible first | exact HBR.out | apply below_alloc | apply pw_below_drewN | apply below_drew1) | exact HBR.out))), (HC12.out _ (by repeat (first | (with_reducible first | exact HBR.out | apply below_alloc | apply pw_below_drewN | apply below_drew1) | exact HBR.out)))⟩ (fun hHeld => ?_)
  refine pure_ (i := 0) (N := some 63) (v := ?_) (a' := ?_) #[true, false, false, false, false, false, false, false, false, false, false, false, false, false, false, false, false, false, false] rfl rfl (by kernel_rfl) (fun _ _ _ h => h) (Or.inl ⟨by rfl, ?_⟩) ?_ ?_
  rotate_left
  · intro w'
    go_simp
    with_reducible rfl
  rotate_left
  · simp only [Act.put, List.setIfInBounds_toArray, List.set_cons_zero, List.set_cons_succ, i64_w, i32_w]
    rfl
  refine pure_ (i := 1) (N := some 64) (v := ?_) (a' := ?_) #[true, true, false, false, false, false, false, false, false, false, false, false, false, false, false, false, false, false, false] rfl rfl (by kernel_rfl) (fun _ _ _ h => h) (Or.inl ⟨by rfl, ?_⟩) ?_ ?_
  rotate_left
  · intro w'
    go_simp
    with_reducible rfl
  rotate_left
  · simp only [Act.put, List.setIfInBounds_toArray, List.set_cons_zero, List.set_cons_succ, i64_w, i32_w]
    rfl
  refine pure_ (i := 4) (N := some 67) (v := ?_) (a' := ?_) #[true, true, false, false, true, false, false, false, false, false, false, false, false, false, false, false, false, false, false] rfl rfl (by kernel_rfl) (fun _ _ _ h => h) (Or.inl ⟨by rfl, ?_⟩) ?_ ?_
  rotate_left
  · intro w'
    go_simp
    with_reducible rfl
  rotate_left
  · simp only [Act.put, List.setIfInBounds_toArray, List.set_cons_zero, List.set_cons_succ, i64_w, i32_w]
    rfl
  refine pure_ (i := 5) (N := some 68) (v := ?_) (a' := ?_) #[true, true, false, false, true, true, false, false, false, false, false, false, false, false, false, false, false, false, false] rfl rfl (by kernel_rfl) (fun _ _ _ h => h) (Or.inl ⟨by rfl, ?_⟩) ?_ ?_
  rotate_left
  · intro w'
    go_simp
    with_reducible rfl
  rotate_left
  · simp only [Act.put, List.setIfInBounds_toArray, List.set_cons_zero, List.set_cons_succ, i64_w, i32_w]
    rfl
  refine pure_ (i := 8) (N := some 71) (v := ?_) (a' := ?_) #[true, true, false, false, true, true, false, false, true, false, false, false, false, false, false, false, false, false, false] rfl rfl (by kernel_rfl) (fun _ _ _ h => h) (Or.inl ⟨by rfl, ?_⟩) ?_ ?_
  rotate_left
  · intro w'
    go_simp
    with_reducible rfl
  rotate_left
  · simp only [Act.put, List.setIfInBounds_toArray, List.set_cons_zero, List.set_cons_succ, i64_w, i32_w]
    rfl
  refine pure_ (i := 9) (N := some 72) (v := ?_) (a' := ?_) #[true, true, false, false, true, true, false, false, true, true, false, false, false, false, false, false, false, false, false] rfl rfl (by kernel_rfl) (fun _ _ _ h => h) (Or.inl ⟨by rfl, ?_⟩) ?_ ?_
  rotate_left
  · intro w'
    go_simp
    with_reducible rfl
  rotate_left
  · simp only [Act.put, List.setIfInBounds_toArray, List.set_cons_zero, List.set_cons_succ, i64_w, i32_w]
    rfl
  refine pure_ (i := 12) (N := some 75) (v := ?_) (a' := ?_) #[true, true, false, false, true, true, false, false, true, true, false, false, true, false, false, false, false, false, false] rfl rfl (by kernel_rfl) (fun _ _ _ h => h) (Or.inl ⟨by rfl, ?_⟩) ?_ ?_
  rotate_left
  · intro w'
    go_simp
    with_reducible rfl
  rotate_left
  · simp only [Act.put, List.setIfInBounds_toArray, List.set_cons_zero, List.set_cons_succ, i64_w, i32_w]
    rfl
  refine pure_ (i := 14) (N := some 77) (v := ?_) (a' := ?_) #[true, true, false, false, true, true, false, false, true, true, false, false, true, false, true, false, false, false, false] rfl rfl (by kernel_rfl) (fun _ _ _ h => h) (Or.inl ⟨by rfl, ?_⟩) ?_ ?_
  rotate_left
  · intro w'
    go_simp
    with_reducible rfl
  rotate_left
  · simp only [Act.put, List.setIfInBounds_toArray, List.set_cons_zero, List.set_cons_succ, i64_w, i32_w]
    rfl
  refine take_ (i := 2) (N := some 65) (v := ?_) (a' := ?_) #[true, true, true, false, true, true, false, false, true, true, false, false, true, false, true, false, false, false, false] rfl rfl (by kernel_rfl) (fun _ _ _ h => h) (Or.inl ⟨by rfl, ?_⟩) hHeld ?_ ?_
  rotate_left
  · rintro w' ⟨s0, s1, s2⟩
    go_simp
    with_reducible rfl
  rotate_left
  · simp only [Act.put, List.setIfInBounds_toArray, List.set_cons_zero, List.set_cons_succ, i64_w, i32_w]
    rfl
  refine pure_ (i := 3) (N := some 66) (v := ?_) (a' := ?_) #[true, true, true, true, true, true, false, false, true, true, false, false, true, false, true, false, false, false, false] rfl rfl (by kernel_rfl) (fun _ _ _ h => h) (Or.inl ⟨by rfl, ?_⟩) ?_ ?_
  rotate_left
  · intro w'
    go_simp
    with_reducible rfl
  rotate_left
  · simp only [Act.put, List.setIfInBounds_toArray, List.set_cons_zero, List.set_cons_succ, i64_w, i32_w]
    rfl
  refine take_ (i := 6) (N := some 69) (v := ?_) (a' := ?_) #[true, true, true, true, true, true, true, false, true, true, false, false, true, false, true, false, false, false, false] rfl rfl (by kernel_rfl) (fun _ _ _ h => h) (Or.inl ⟨by rfl, ?_⟩) hHeld ?_ ?_
  rotate_left
  · rintro w' ⟨s0, s1, s2⟩
    go_simp
    with_reducible rfl
  rotate_left
  · simp only [Act.put, List.setIfInBounds_toArray, List.set_cons_zero, List.set_cons_succ, i64_w, i32_w]
    rfl
  refine pure_ (i := 7) (N := some 70) (v := ?_) (a' := ?_) #[true, true, true, true, true, true, true, true, true, true, false, false, true, false, true, false, false, false, false] rfl rfl (by kernel_rfl) (fun _ _ _ h => h) (Or.inl ⟨by rfl, ?_⟩) ?_ ?_
  rotate_left
  · intro w'
    go_simp
    with_reducible rfl
  rotate_left
  · simp only [Act.put, List.setIfInBounds_toArray, List.set_cons_zero, List.set_cons_succ, i64_w, i32_w]
    rfl
  refine take_ (i := 10) (N := some 73) (v := ?_) (a' := ?_) #[true, true, true, true, true, true, true, true, true, true, true, false, true, false, true, false, false, false, false] rfl rfl (by kernel_rfl) (fun _ _ _ h => h) (Or.inl ⟨by rfl, ?_⟩) hHeld ?_ ?_
  rotate_left
  · rintro w' ⟨s0, s1, s2⟩
    go_simp
    with_reducible rfl
  rotate_left
  · simp only [Act.put, List.setIfInBounds_toArray, List.set_cons_zero, List.set_cons_succ, i64_w, i32_w]
    rfl
  refine pure_ (i := 11) (N := some 74) (v := ?_) (a' := ?_) #[true, true, true, true, true, true, true, true, true, true, true, true, true, false, true, false, false, false, false] rfl rfl (by kernel_rfl) (fun _ _ _ h => h) (Or.inl ⟨by rfl, ?_⟩) ?_ ?_
  rotate_left
  · intro w'
    go_simp
    with_reducible rfl
  rotate_left
  · simp only [Act.put, List.setIfInBounds_toArray, List.set_cons_zero, List.set_cons_succ, i64_w, i32_w]
    rfl
  refine join_ (σ := Unit) 1 #[true, true, true, true, true, true, true, true, true, true, true, true, true, true, true, true, true, true, false] (fun _ => [(76, .int .i64 (numL l 4 4)), (78, .int .i64 (numL l 8 4)), (79, .agg #[.int .i64 x0, .int .i64 x1, .int .i64 x12, .int .i64 (numL l 4 4), .int .i64 (numL l 8 4), .int .i64 0, .int .i64 0, .int .i64 0, .int .i64 0, .bool false, .int .i64 0, .slice none 0 0, .slice none 0 0]), (4, .pointer (some ⟨W1.heap.size, 0, none⟩))]) (fun _ w' => w'.heap[W1.heap.size]? = some (.cells zero13 26 (0, 0)) ∧ w'.heap[w.heap.size]? = some (.cells zero13 26 (0, 0)) ∧ Below w.heap.size w w') ?_ ?_
  rotate_left
  · intro hCont
    refine two_ (i := 13) (j := 17) (Ni := some 76) (Nj := some 4) #[true, true, true, true, true, true, true, true, true, true, true, true, true, true, true, false, false, false, false] #[true, true, true, true, true, true, true, true, true, true, true, true, true, false, true, false, false, true, false] rfl rfl rfl rfl (by kernel_rfl) (by decide) (by decide) (fun K hK => ?_) (fun K hK => ?_)
    · skip
      refine goes_ Try.func32 (by kernel_rfl) rfl #[.slice (some ad) l.length c, .int .i64 4, .int .i64 4] (by rfl) rfl rfl (by simp only [List.map_toArray, List.map_cons, List.map_nil]; rfl) ?_
      with_reducible refine (num_calls (l := l) 4 4 (iz := 4) (mz := 4) (by repeat (first | exact HR1.out | (with_reducible refine Kd.C_alloc ?_ _) | (with_reducible refine Kd.C_drewN ?_ _) | (with_reducible refine Kd.C_drew ?_))) rfl HC.out HY.out HL.out rfl rfl (by omega) (by have := H24.out; omega)).mono ?_
      rintro e w3 ⟨rfl, ⟨⟨nq, rfl⟩⟩⟩
      refine ⟨_, rfl, ?_⟩
      refine hK.out _ _ ⟨(HC0.out _ (by repeat (first | (with_reducible first | exact HBR.out | apply below_alloc | apply pw_below_drewN | apply below_drew1) | exact HBR.out))), (HC1.out _ (by repeat (first | (with_reducible first | exact HBR.out | apply below_alloc | apply pw_below_drewN | apply below_drew1) | exact HBR.out))), (HC12.out _ (by repeat (first | (with_reducible first | exact HBR.out | apply below_alloc | apply pw_below_drewN | apply below_drew1) | exact HBR.out)))⟩ (fun hHeld => ?_)
      clear hK K
      refine norm_ (a' := ?_) ?_ ?_
      rotate_left
      · show Act.put _ (some 76) _ = _
        simp only [Act.put, List.setIfInBounds_toArray, List.set_cons_zero, List.set_cons_succ, i64_w, i32_w]
        rfl
      refine two_ (i := 15) (j := 17) (Ni := some 78) (Nj := some 4) #[true, true, true, true, true, true, true, true, true, true, true, true, true, true, true, true, false, false, false] #[true, true, true, true, true, true, true, true, true, true, true, true, true, true, true, false, false, true, false] rfl rfl rfl rfl (by kernel_rfl) (by decide) (by decide) (fun K hK => ?_) (fun K hK => ?_)
      · skip
        refine goes_ Try.func32 (by kernel_rfl) rfl #[.slice (some ad) l.length c, .int .i64 8, .int .i64 4] (by rfl) rfl rfl (by simp only [List.map_toArray, List.map_cons, List.map_nil]; rfl) ?_
        with_reducible refine (num_calls (l := l) 8 4 (iz := 8) (mz := 4) (by repeat (first | exact HR1.out | (with_reducible refine Kd.C_alloc ?_ _) | (with_reducible refine Kd.C_drewN ?_ _) | (with_reducible refine Kd.C_drew ?_))) rfl HC.out HY.out HL.out rfl rfl (by omega) (by have := H24.out; omega)).mono ?_
        rintro e w3 ⟨rfl, ⟨⟨nq, rfl⟩⟩⟩
        refine ⟨_, rfl, ?_⟩
        refine hK.out _ _ ⟨(HC0.out _ (by repeat (first | (with_reducible first | exact HBR.out | apply below_alloc | apply pw_below_drewN | apply below_drew1) | exact HBR.out))), (HC1.out _ (by repeat (first | (with_reducible first | exact HBR.out | apply below_alloc | apply pw_below_drewN | apply below_drew1) | exact HBR.out))), (HC12.out _ (by repeat (first | (with_reducible first | exact HBR.out | apply below_alloc | apply pw_below_drewN | apply below_drew1) | exact HBR.out)))⟩ (fun hHeld => ?_)
        clear hK K
        refine norm_ (a' := ?_) ?_ ?_
        rotate_left
        · show Act.put _ (some 78) _ = _
          simp only [Act.put, List.setIfInBounds_toArray, List.set_cons_zero, List.set_cons_succ, i64_w, i32_w]
          rfl
        refine pure_ (i := 16) (N := some 79) (v := ?_) (a' := ?_) #[true, true, true, true, true, true, true, true, true, true, true, true, true, true, true, true, true, false, false] rfl rfl (by kernel_rfl) (fun _ _ _ h => h) (Or.inl ⟨by rfl, ?_⟩) ?_ ?_
        rotate_left
        · intro w'
          go_simp
          with_reducible rfl
        rotate_left
        · simp only [Act.put, List.setIfInBounds_toArray, List.set_cons_zero, List.set_cons_succ, i64_w, i32_w]
          rfl
        refine one_ (i := 17) (N := some 4) #[true, true, true, true, true, true, true, true, true, true, true, true, true, true, true, true, true, true, false] rfl rfl (by kernel_rfl) (by decide) (fun K hK => ?_)
        refine value_ (w1 := ?_) (v := ?_) (by rfl) rfl ?_ ?_
        rotate_left 2
        · go_simp
          constructor
          · rfl
          · rfl
        refine hK.out _ _ ⟨(HC0.out _ (by repeat (first | (with_reducible first | exact HBR.out | apply below_alloc | apply pw_below_drewN | apply below_drew1) | exact HBR.out))), (HC1.out _ (by repeat (first | (with_reducible first | exact HBR.out | apply below_alloc | apply pw_below_drewN | apply below_drew1) | exact HBR.out))), (HC12.out _ (by repeat (first | (with_reducible first | exact HBR.out | apply below_alloc | apply pw_below_drewN | apply below_drew1) | exact HBR.out)))⟩ (fun hHeld => ?_)
        clear hK K
        refine norm_ (a' := ?_) ?_ ?_
        rotate_left
        · show Act.put _ (some 4) _ = _
          simp only [Act.put, List.setIfInBounds_toArray, List.set_cons_zero, List.set_cons_succ, i64_w, i32_w]
          rfl
        exact norm_ (by simp only [putAll, Act.put, List.setIfInBounds_toArray, List.set_cons_zero, List.set_cons_succ]) (hCont () _ ⟨new_blk W1 _, (by refine Eq.trans (Below.block (B := W1.heap.size) (w := W1) ?_ _ HG2.out) HK1.out; repeat (first | (with_reducible first | exact HBS.out | apply below_alloc | apply pw_below_drewN | apply below_drew1) | exact HBS.out)), (by repeat (first | (with_reducible first | exact HBR.out | apply below_alloc | apply pw_below_drewN | apply below_drew1) | exact HBR.out))⟩)
      · skip
        refine value_ (w1 := ?_) (v := ?_) (by rfl) rfl ?_ ?_
        rotate_left 2
        · go_simp
          constructor
          · rfl
          · rfl
        refine hK.out _ _ ⟨(HC0.out _ (by repeat (first | (with_reducible first | exact HBR.out | apply below_alloc | apply pw_below_drewN | apply below_drew1) | exact HBR.out))), (HC1.out _ (by repeat (first | (with_reducible first | exact HBR.out | apply below_alloc | apply pw_below_drewN | apply below_drew1) | exact HBR.out))), (HC12.out _ (by repeat (first | (with_reducible first | exact HBR.out | apply below_alloc | apply pw_below_drewN | apply below_drew1) | exact HBR.out)))⟩ (fun hHeld => ?_)
        clear hK K
        refine norm_ (a' := ?_) ?_ ?_
        rotate_left
        · show Act.put _ (some 4) _ = _
          simp only [Act.put, List.setIfInBounds_toArray, List.set_cons_zero, List.set_cons_succ, i64_w, i32_w]
          rfl
        refine one_ (i := 15) (N := some 78) #[true, true, true, true, true, true, true, true, true, true, true, true, true, true, true, true, false, true, false] rfl rfl (by kernel_rfl) (by decide) (fun K hK => ?_)
        refine goes_ Try.func32 (by kernel_rfl) rfl #[.slice (some ad) l.length c, .int .i64 8, .int .i64 4] (by rfl) rfl rfl (by simp only [List.map_toArray, List.map_cons, List.map_nil]; rfl) ?_
        with_reducible refine (num_calls (l := l) 8 4 (iz := 8) (mz := 4) (by repeat (first | exact HR1.out | (with_reducible refine Kd.C_alloc ?_ _) | (with_reducible refine Kd.C_drewN ?_ _) | (with_reducible refine Kd.C_drew ?_))) rfl HC.out HY.out HL.out rfl rfl (by omega) (by have := H24.out; omega)).mono ?_
        rintro e w3 ⟨rfl, ⟨⟨nq, rfl⟩⟩⟩
        refine ⟨_, rfl, ?_⟩
        refine hK.out _ _ ⟨(HC0.out _ (by repeat (first | (with_reducible first | exact HBR.out | apply below_alloc | apply pw_below_drewN | apply below_drew1) | exact HBR.out))), (HC1.out _ (by repeat (first | (with_reducible first | exact HBR.out | apply below_alloc | apply pw_below_drewN | apply below_drew1) | exact HBR.out))), (HC12.out _ (by repeat (first | (with_reducible first | exact HBR.out | apply below_alloc | apply pw_below_drewN | apply below_drew1) | exact HBR.out)))⟩ (fun hHeld => ?_)
        clear hK K
        refine norm_ (a' := ?_) ?_ ?_
        rotate_left
        · show Act.put _ (some 78) _ = _
          simp only [Act.put, List.setIfInBounds_toArray, List.set_cons_zero, List.set_cons_succ, i64_w, i32_w]
          rfl
        refine pure_ (i := 16) (N := some 79) (v := ?_) (a' := ?_) #[true, true, true, true, true, true, true, true, true, true, true, true, true, true, true, true, true, true, false] rfl rfl (by kernel_rfl) (fun _ _ _ h => h) (Or.inl ⟨by rfl, ?_⟩) ?_ ?_
        rotate_left
        · intro w'
          go_simp
          with_reducible rfl
        rotate_left
        · simp only [Act.put, List.setIfInBounds_toArray, List.set_cons_zero, List.set_cons_succ, i64_w, i32_w]
          rfl
        exact norm_ (by simp only [putAll, Act.put, List.setIfInBounds_toArray, List.set_cons_zero, List.set_cons_succ]) (hCont () _ ⟨new_blk W1 _, (by refine Eq.trans (Below.block (B := W1.heap.size) (w := W1) ?_ _ HG2.out) HK1.out; repeat (first | (with_reducible first | exact HBS.out | apply below_alloc | apply pw_below_drewN | apply below_drew1) | exact HBS.out)), (by repeat (first | (with_reducible first | exact HBR.out | apply below_alloc | apply pw_below_drewN | apply below_drew1) | exact HBR.out))⟩)
    · skip
      refine value_ (w1 := ?_) (v := ?_) (by rfl) rfl ?_ ?_
      rotate_left 2
      · go_simp
        constructor
        · rfl
        · rfl
      refine hK.out _ _ ⟨(HC0.out _ (by repeat (first | (with_reducible first | exact HBR.out | apply below_alloc | apply pw_below_drewN | apply below_drew1) | exact HBR.out))), (HC1.out _ (by repeat (first | (with_reducible first | exact HBR.out | apply below_alloc | apply pw_below_drewN | apply below_drew1) | exact HBR.out))), (HC12.out _ (by repeat (first | (with_reducible first | exact HBR.out | apply below_alloc | apply pw_below_drewN | apply below_drew1) | exact HBR.out)))⟩ (fun hHeld => ?_)
      clear hK K
      refine norm_ (a' := ?_) ?_ ?_
      rotate_left
      · show Act.put _ (some 4) _ = _
        simp only [Act.put, List.setIfInBounds_toArray, List.set_cons_zero, List.set_cons_succ, i64_w, i32_w]
        rfl
      refine one_ (i := 13) (N := some 76) #[true, true, true, true, true, true, true, true, true, true, true, true, true, true, true, false, false, true, false] rfl rfl (by kernel_rfl) (by decide) (fun K hK => ?_)
      refine goes_ Try.func32 (by kernel_rfl) rfl #[.slice (some ad) l.length c, .int .i64 4, .int .i64 4] (by rfl) rfl rfl (by simp only [List.map_toArray, List.map_cons, List.map_nil]; rfl) ?_
      with_reducible refine (num_calls (l := l) 4 4 (iz := 4) (mz := 4) (by repeat (first | exact HR1.out | (with_reducible refine Kd.C_alloc ?_ _) | (with_reducible refine Kd.C_drewN ?_ _) | (with_reducible refine Kd.C_drew ?_))) rfl HC.out HY.out HL.out rfl rfl (by omega) (by have := H24.out; omega)).mono ?_
      rintro e w3 ⟨rfl, ⟨⟨nq, rfl⟩⟩⟩
      refine ⟨_, rfl, ?_⟩
      refine hK.out _ _ ⟨(HC0.out _ (by repeat (first | (with_reducible first | exact HBR.out | apply below_alloc | apply pw_below_drewN | apply below_drew1) | exact HBR.out))), (HC1.out _ (by repeat (first | (with_reducible first | exact HBR.out | apply below_alloc | apply pw_below_drewN | apply below_drew1) | exact HBR.out))), (HC12.out _ (by repeat (first | (with_reducible first | exact HBR.out | apply below_alloc | apply pw_below_drewN | apply below_drew1) | exact HBR.out)))⟩ (fun hHeld => ?_)
      clear hK K
      refine norm_ (a' := ?_) ?_ ?_
      rotate_left
      · show Act.put _ (some 76) _ = _
        simp only [Act.put, List.setIfInBounds_toArray, List.set_cons_zero, List.set_cons_succ, i64_w, i32_w]
        rfl
      refine one_ (i := 15) (N := some 78) #[true, true, true, true, true, true, true, true, true, true, true, true, true, true, true, true, false, true, false] rfl rfl (by kernel_rfl) (by decide) (fun K hK => ?_)
      refine goes_ Try.func32 (by kernel_rfl) rfl #[.slice (some ad) l.length c, .int .i64 8, .int .i64 4] (by rfl) rfl rfl (by simp only [List.map_toArray, List.map_cons, List.map_nil]; rfl) ?_
      with_reducible refine (num_calls (l := l) 8 4 (iz := 8) (mz := 4) (by repeat (first | exact HR1.out | (with_reducible refine Kd.C_alloc ?_ _) | (with_reducible refine Kd.C_drewN ?_ _) | (with_reducible refine Kd.C_drew ?_))) rfl HC.out HY.out HL.out rfl rfl (by omega) (by have := H24.out; omega)).mono ?_
      rintro e w3 ⟨rfl, ⟨⟨nq, rfl⟩⟩⟩
      refine ⟨_, rfl, ?_⟩
      refine hK.out _ _ ⟨(HC0.out _ (by repeat (first | (with_reducible first | exact HBR.out | apply below_alloc | apply pw_below_drewN | apply below_drew1) | exact HBR.out))), (HC1.out _ (by repeat (first | (with_reducible first | exact HBR.out | apply below_alloc | apply pw_below_drewN | apply below_drew1) | exact HBR.out))), (HC12.out _ (by repeat (first | (with_reducible first | exact HBR.out | apply below_alloc | apply pw_below_drewN | apply below_drew1) | exact HBR.out)))⟩ (fun hHeld => ?_)
      clear hK K
      refine norm_ (a' := ?_) ?_ ?_
      rotate_left
      · show Act.put _ (some 78) _ = _
        simp only [Act.put, List.setIfInBounds_toArray, List.set_cons_zero, List.set_cons_succ, i64_w, i32_w]
        rfl
      refine pure_ (i := 16) (N := some 79) (v := ?_) (a' := ?_) #[true, true, true, true, true, true, true, true, true, true, true, true, true, true, true, true, true, true, false] rfl rfl (by kernel_rfl) (fun _ _ _ h => h) (Or.inl ⟨by rfl, ?_⟩) ?_ ?_
      rotate_left
      · intro w'
        go_simp
        with_reducible rfl
      rotate_left
      · simp only [Act.put, List.setIfInBounds_toArray, List.set_cons_zero, List.set_cons_succ, i64_w, i32_w]
        rfl
      exact norm_ (by simp only [putAll, Act.put, List.setIfInBounds_toArray, List.set_cons_zero, List.set_cons_succ]) (hCont () _ ⟨new_blk W1 _, (by refine Eq.trans (Below.block (B := W1.heap.size) (w := W1) ?_ _ HG2.out) HK1.out; repeat (first | (with_reducible first | exact HBS.out | apply below_alloc | apply pw_below_drewN | apply below_drew1) | exact HBS.out)), (by repeat (first | (with_reducible first | exact HBR.out | apply below_alloc | apply pw_below_drewN | apply below_drew1) | exact HBR.out))⟩)
  rintro ⟨⟩ w3 ⟨hz3, hy3, hb3⟩
  have hHeld : w3.cell? ad = some (.int .u8 x0) ∧ w3.cell? ⟨ad.block, ad.off + 1, none⟩ = some (.int .u8 x1) ∧ w3.cell? ⟨ad.block, ad.off + 12, none⟩ = some (.int .u8 x12) := ⟨HC0.out _ hb3, HC1.out _ hb3, HC12.out _ hb3⟩
  refine norm_ (a' := ?_) ?_ ?_
  rotate_left
  · simp only [putAll, Act.put, List.setIfInBounds_toArray, List.set_cons_zero, List.set_cons_succ]
    rfl
  refine one_ (i := 18) (N := none) #[true, true, true, true, true, true, true, true, true, true, true, true, true, true, true, true, true, true, true] rfl rfl (by kernel_rfl) (by decide) (fun K hK => ?_)
  obtain ⟨k0, k1, k2, k3, k4, k5, k6, k7, k8, k9, k10, k11, k12⟩ := c13 hz3
  obtain ⟨z0, z1, z2, z3, z4, z5, z6, z7, z8, z9, z10, z11, z12⟩ := f13 hz3
  refine skip_ (w1 := ?_) (by rfl) rfl ?_ ?_
  rotate_left
  · go_simp
    rfl
  refine hK.out _ _ ⟨(HC0.out _ (lay13_below hb3 HG1.out _ _ _ _ _ _ _ _ _ _ _ _ _)), (HC1.out _ (lay13_below hb3 HG1.out _ _ _ _ _ _ _ _ _ _ _ _ _)), (HC12.out _ (lay13_below hb3 HG1.out _ _ _ _ _ _ _ _ _ _ _ _ _))⟩ (fun hHeld => ?_)
  clear hK K
  refine done_ (by kernel_rfl) ?_
  generalize hW : World.setCell _ _ _ = W4
  have hz4 : W4.heap[W1.heap.size]? = some (.cells #[(.int .i64 x0), (.int .i64 x1), (.int .i64 x12), (.int .i64 (numL l 4 4)), (.int .i64 (numL l 8 4)), (.int .i64 0), (.int .i64 0), (.int .i64 0), (.int .i64 0), (.bool false), (.int .i64 0), (.slice none 0 0), (.slice none 0 0)] 26 (0, 0)) := by rw [← hW]; exact lay13_blk hz3 rfl (.int .i64 x0) (.int .i64 x1) (.int .i64 x12) (.int .i64 (numL l 4 4)) (.int .i64 (numL l 8 4)) (.int .i64 0) (.int .i64 0) (.int .i64 0) (.int .i64 0) (.bool false) (.int .i64 0) (.slice none 0 0) (.slice none 0 0)
  have hy4 : W4.heap[w.heap.size]? = some (.cells zero13 26 (0, 0)) := by rw [← hW]; exact (lay13_far (Nat.ne_of_lt HG2.out) (.int .i64 x0) (.int .i64 x1) (.int .i64 x12) (.int .i64 (numL l 4 4)) (.int .i64 (numL l 8 4)) (.int .i64 0) (.int .i64 0) (.int .i64 0) (.int .i64 0) (.bool false) (.int .i64 0) (.slice none 0 0) (.slice none 0 0)).trans hy3
  have HB4 := Aside0.mk (show Below w.heap.size w W4 from by rw [← hW]; exact lay13_below hb3 HG1.out (.int .i64 x0) (.int .i64 x1) (.int .i64 x12) (.int .i64 (numL l 4 4)) (.int .i64 (numL l 8 4)) (.int .i64 0) (.int .i64 0) (.int .i64 0) (.int .i64 0) (.bool false) (.int .i64 0) (.slice none 0 0) (.slice none 0 0))
  have HZ4 := Aside0.mk hz4
  have HY4 := Aside0.mk hy4
  obtain ⟨g, HGE⟩ : ∃ g, W1.heap.size = g := ⟨_, rfl⟩
  rw [HGE] at HZ4 HG1 HG2 hz4 ⊢
  have HGL := Aside0.mk (show g < W4.heap.size from blk_lt hz4)
  clear hHeld hW hz3 hy3 hb3 k0 k1 k2 k3 k4 k5 k6 k7 k8 k9 k10 k11 k12 z0 z1 z2 z3 z4 z5 z6 z7 z8 z9 z10 z11 z12
  obtain ⟨k0, k1, k2, k3, k4, k5, k6, k7, k8, k9, k10, k11, k12⟩ := c13 hz4
  obtain ⟨z0, z1, z2, z3, z4, z5, z6, z7, z8, z9, z10, z11, z12⟩ := f13 hz4
  clear hz4 hy4
  clear HBR HR1 HBS HK1
  have m13 := HC13.out W4 HB4.out
  have m16 := HC16.out W4 HB4.out
  have m17 := HC17.out W4 HB4.out
  by_cases h17 : x17 = 0
  · have q17 : (x17 == 0) = true := beq_iff_eq.mpr h17
    have q17n : (x17 != 0) = false := by rw [h17]; rfl
    have HPE := Aside0.mk (show parseL l = (⟨x0, x1, x12, numL l 4 4, numL l 8 4, 0, 0, 0, 0, false, x16, [], l.drop 20⟩, 0) from by
      unfold parseL
      rw [if_neg (fun h => h HE.out), if_pos HKD.out, if_neg (by rw [EE.out.2.2.2.2.2.1]; exact fun h => h h17), EE.out.2.1, EE.out.2.2.1, EE.out.2.2.2.2.1, ← EE.out.1, HKD.out])
    obtain ⟨A3, hcut3, hC3, hc3⟩ := cut_from (A := some ad) (c := c) (l := l) 20 (l.length - 20) (iz := 20) rfl rfl (by have := HLE.out; omega) rfl HC.out
    have HC3 := Aside0.mk (fun W (h : Below w.heap.size w W) => hC3 W (Kd.C_below HR.out h))
    clear hC3 hc3
    go_upto_region 15 with fail
    have HBQ := Aside0.mk (fun W (h : Below (g + 1) W4 W) => (HB4.out.trans (h.mono (by have := HG1.out; omega)) : Below w.heap.size w W))
    have HQc := Aside0.mk (Below.refl (g + 1) W4)
    have HGZ := Aside0.mk (show g + 1 ≤ W4.heap.size from blk_lt HZ4.out)
    have HSZ := Aside0.mk (fun W (h : Below (g + 1) W4 W) => Nat.le_trans HGZ.out h.size)
    have n1_ := Aside0.mk (below_drew1 HQc.out)
    clear HQc
    have HQc := n1_
    clear n1_
    refine start_ (n := 12) (S := fun w' => w'.cell? ⟨ad.block, ad.off + 16, none⟩ = some (.int .u8 x16)) (ds := []) #[false, false, false, false, false, false, false, false, false, false, false, false] (by kernel_rfl) rfl rfl ((HC16.out _ (HBQ.out _ HQc.out))) (fun hHeld => ?_)
    refine pure_ (i := 0) (N := some 88) (v := ?_) (a' := ?_) #[true, false, false, false, false, false, false, false, false, false, false, false] rfl rfl (by kernel_rfl) (fun _ _ _ h => h) (Or.inl ⟨by rfl, ?_⟩) ?_ ?_
    rotate_left
    · intro w'
      go_simp
      with_reducible rfl
    rotate_left
    · simp only [Act.put, List.setIfInBounds_toArray, List.set_cons_zero, List.set_cons_succ, i64_w, i32_w]
      rfl
    refine pure_ (i := 1) (N := some 89) (v := ?_) (a' := ?_) #[true, true, false, false, false, false, false, false, false, false, false, false] rfl rfl (by kernel_rfl) (fun _ _ _ h => h) (Or.inl ⟨by rfl, ?_⟩) ?_ ?_
    rotate_left
    · intro w'
      go_simp
      with_reducible rfl
    rotate_left
    · simp only [Act.put, List.setIfInBounds_toArray, List.set_cons_zero, List.set_cons_succ, i64_w, i32_w]
      rfl
    refine pure_ (i := 5) (N := some 93) (v := ?_) (a' := ?_) #[true, true, false, false, false, true, false, false, false, false, false, false] rfl rfl (by kernel_rfl) (fun _ _ _ h => h) (Or.inl ⟨by rfl, ?_⟩) ?_ ?_
    rotate_left
    · intro w'
      go_simp
      with_reducible rfl
    rotate_left
    · simp only [Act.put, List.setIfInBounds_toArray, List.set_cons_zero, List.set_cons_succ, i64_w, i32_w]
      rfl
    refine pure_ (i := 6) (N := some 94) (v := ?_) (a' := ?_) #[true, true, false, false, false, true, true, false, false, false, false, false] rfl rfl (by kernel_rfl) (fun _ _ _ h => h) (Or.inl ⟨by rfl, ?_⟩) ?_ ?_
    rotate_left
    · intro w'
      go_simp
      with_reducible rfl
    rotate_left
    · simp only [Act.put, List.setIfInBounds_toArray, List.set_cons_zero, List.set_cons_succ, i64_w, i32_w]
      rfl
    refine take_ (i := 2) (N := some 90) (v := ?_) (a' := ?_) #[true, true, true, false, false, true, true, false, false, false, false, false] rfl rfl (by kernel_rfl) (fun _ _ _ h => h) (Or.inl ⟨by rfl, ?_⟩) hHeld ?_ ?_
    rotate_left
    · intro w' s0
      go_simp
      with_reducible rfl
    rotate_left
    · simp only [Act.put, List.setIfInBounds_toArray, List.set_cons_zero, List.set_cons_succ, i64_w, i32_w]
      rfl
    refine pure_ (i := 3) (N := some 91) (v := ?_) (a' := ?_) #[true, true, true, true, false, true, true, false, false, false, false, false] rfl rfl (by kernel_rfl) (fun _ _ _ h => h) (Or.inl ⟨by rfl, ?_⟩) ?_ ?_
    rotate_left
    · intro w'
      go_simp
      with_reducible rfl
    rotate_left
    · simp only [Act.put, List.setIfInBounds_toArray, List.set_cons_zero, List.set_cons_succ, i64_w, i32_w]
      rfl
    refine pure_ (i := 8) (N := some 96) (v := ?_) (a' := ?_) #[true, true, true, true, false, true, true, false, true, false, false, false] rfl rfl (by kernel_rfl) (fun _ _ _ h => h) (Or.inl ⟨by rfl, ?_⟩) ?_ ?_
    rotate_left
    · intro w'
      go_simp
      with_reducible rfl
    rotate_left
    · simp only [Act.put, List.setIfInBounds_toArray, List.set_cons_zero, List.set_cons_succ, i64_w, i32_w]
      rfl
    refine one_ (i := 4) (N := some 92) #[true, true, true, true, true, true, true, false, true, false, false, false] rfl rfl (by kernel_rfl) (by decide) (fun K hK => ?_)
    refine Kd.R_lit_step (Kd.int .u8) (w0 := W4) (g + 1) 5 ?hg (N := 92) ?hd (xs := ([] : List Int)) (inner := []) (ok := fun _ => True) (okp := fun _ => True) ?hr ?hp (fun _ hk => hk) trivial HQc.out (HSZ.out _ HQc.out) (by simp) ?_; (case hd => rfl); (case hg => rfl); (case hr => first | (go_simp; done) | (go_simp; rfl)); (case hp => exact (Reps.none _ _))
    intro v1 w5 ho hb hg hat
    clear HQc
    have HQc := Aside0.mk hb
    have HO1 := Aside0.mk ho
    have HO1n := Aside0.mk hat
    clear ho hb hg hat
    refine hK.out _ _ ((HC16.out _ (HBQ.out _ HQc.out))) (fun hHeld => ?_)
    clear hK K
    refine norm_ (a' := ?_) ?_ ?_
    rotate_left
    · show Act.put _ (some 92) _ = _
      simp only [Act.put, List.setIfInBounds_toArray, List.set_cons_zero, List.set_cons_succ, i64_w, i32_w]
      rfl
    refine one_ (i := 7) (N := some 95) #[true, true, true, true, true, true, true, true, true, false, false, false] rfl rfl (by kernel_rfl) (by decide) (fun K hK => ?_)
    refine Kd.R_append_rows_step (Kd.int .u8) (w0 := W4) (g + 1) (by rfl) (.tmp 92) (.tmp 94) 23 5 (.int .u8 0) 1 rfl Try.underlying23 info5 rfl (by decide) (by omega) v1 [] (l.drop 20) A3 (l.length - 20) (c - 20) (fun _ => True) (fun _ => False) rfl rfl HO1.out (HC3.out _ (HBQ.out _ HQc.out)) (fun _ _ h => h) (fun _ h => h.elim) (fun _ _ => trivial) HQc.out (HSZ.out _ HQc.out) (by have := HL.out; have := HLE.out; simp only [List.length_nil]; omega) ?_
    intro v2 w6 ho hb hg hat
    rw [List.nil_append] at ho
    obtain ⟨Av2, cv2, ev⟩ := Kd.R_slice ho
    rw [C_len (HC3.out w (Below.refl _ _))] at ev
    subst ev
    clear HQc
    have HQc := Aside0.mk hb
    have HO2 := Aside0.mk ho
    have HO2n := Aside0.mk hat
    clear ho hb hg hat
    refine hK.out _ _ ((HC16.out _ (HBQ.out _ HQc.out))) (fun hHeld => ?_)
    clear hK K
    refine norm_ (a' := ?_) ?_ ?_
    rotate_left
    · show Act.put _ (some 95) _ = _
      simp only [Act.put, List.setIfInBounds_toArray, List.set_cons_zero, List.set_cons_succ, i64_w, i32_w]
      rfl
    refine one_ (i := 9) (N := none) #[true, true, true, true, true, true, true, true, true, true, false, false] rfl rfl (by kernel_rfl) (by decide) (fun K hK => ?_)
    have hz6 := (HQc.out.block g (by omega)).trans HZ4.out
    clear k0 k1 k2 k3 k4 k5 k6 k7 k8 k9 k10 k11 k12 z0 z1 z2 z3 z4 z5 z6 z7 z8 z9 z10 z11 z12
    obtain ⟨k0, k1, k2, k3, k4, k5, k6, k7, k8, k9, k10, k11, k12⟩ := c13 hz6
    obtain ⟨z0, z1, z2, z3, z4, z5, z6, z7, z8, z9, z10, z11, z12⟩ := f13 hz6
    refine skip_ (w1 := ?_) (by rfl) rfl ?_ ?_
    rotate_left
    · go_simp
      rfl
    refine hK.out _ _ ((HC16.out _ ((HBQ.out _ HQc.out).setCell (p := ⟨g, 10, none⟩) HG1.out _))) (fun hHeld => ?_)
    clear hK K
    refine pure_ (i := 10) (N := some 97) (v := ?_) (a' := ?_) #[true, true, true, true, true, true, true, true, true, true, true, false] rfl rfl (by kernel_rfl) (fun _ _ _ h => h) (Or.inl ⟨by rfl, ?_⟩) ?_ ?_
    rotate_left
    · intro w'
      go_simp
      with_reducible rfl
    rotate_left
    · simp only [Act.put, List.setIfInBounds_toArray, List.set_cons_zero, List.set_cons_succ, i64_w, i32_w]
      rfl
    refine one_ (i := 11) (N := none) #[true, true, true, true, true, true, true, true, true, true, true, true] rfl rfl (by kernel_rfl) (by decide) (fun K hK => ?_)
    refine skip_ (w1 := ?_) (by rfl) rfl ?_ ?_
    rotate_left
    · go_simp
      rfl
    refine hK.out _ _ ((HC16.out _ (((HBQ.out _ HQc.out).setCell (p := ⟨g, 10, none⟩) HG1.out _).setCell (p := ⟨g, 12, none⟩) HG1.out _))) (fun hHeld => ?_)
    clear hK K
    refine done_ (by kernel_rfl) ?_
    have HZ6 := Aside0.mk hz6
    have HY6 := Aside0.mk ((HQc.out.block w.heap.size (by have := HG1.out; omega)).trans HY4.out)
    have HB6 := Aside0.mk (HBQ.out _ HQc.out)
    clear hHeld hz6 hcut3 HQc
    generalize hW : World.setCell _ _ _ = W7
    have hz7 : W7.heap[g]? = some (.cells #[.int .i64 x0, .int .i64 x1, .int .i64 x12, .int .i64 (numL l 4 4), .int .i64 (numL l 8 4), .int .i64 0, .int .i64 0, .int .i64 0, .int .i64 0, .bool false, .int .i64 x16, .slice none 0 0, .slice Av2 (l.length - 20) cv2] 26 (0, 0)) := by
      rw [← hW]
      have h := (set_blk ((set_blk (HZ6.out) 10 (.int .i64 x16))) 12 (.slice Av2 (l.length - 20) cv2))
      simp only [List.setIfInBounds_toArray, List.set_cons_zero, List.set_cons_succ] at h
      exact h
    have hy7 : W7.heap[w.heap.size]? = some (.cells zero13 26 (0, 0)) := by
      rw [← hW]
      exact (Below.heap_setCell _ ⟨g, 12, none⟩ (.slice Av2 (l.length - 20) cv2) w.heap.size (Nat.ne_of_lt HG2.out)).trans ((Below.heap_setCell _ ⟨g, 10, none⟩ (.int .i64 x16) w.heap.size (Nat.ne_of_lt HG2.out)).trans (HY6.out))
    have HB7 : Aside0 (Below w.heap.size w W7) := Aside0.mk (by
      rw [← hW]
      repeat (first | with_reducible exact HB6.out | with_reducible apply pw_below_drewN | (refine Below.setCell ?_ HG1.out _)))
    have HZ7 := Aside0.mk hz7
    have HY7 := Aside0.mk hy7
    have HF7 : Aside0 (∀ k, k ≠ g → W7.heap[k]? = w6.heap[k]?) := Aside0.mk (by
      rw [← hW]
      exact fun k hk => (Below.heap_setCell _ ⟨g, 12, none⟩ (.slice Av2 (l.length - 20) cv2) k hk).trans ((Below.heap_setCell _ ⟨g, 10, none⟩ (.int .i64 x16) k hk).trans (rfl)))
    clear hW k0 k1 k2 k3 k4 k5 k6 k7 k8 k9 k10 k11 k12 z0 z1 z2 z3 z4 z5 z6 z7 z8 z9 z10 z11 z12
    obtain ⟨k0, k1, k2, k3, k4, k5, k6, k7, k8, k9, k10, k11, k12⟩ := c13 hz7
    obtain ⟨z0, z1, z2, z3, z4, z5, z6, z7, z8, z9, z10, z11, z12⟩ := f13 hz7
    clear hz7 hy7
    clear k0 k1 k2 k3 k4 k5 k6 k7 k8 k9 k10 k11 k12 z0 z1 z2 z3 z4 z5 z6 z7 z8 z9 z10 z11 z12
    have hz7 := HZ7.out
    have hy7 := HY7.out
    obtain ⟨k0, k1, k2, k3, k4, k5, k6, k7, k8, k9, k10, k11, k12⟩ := c13 hz7
    obtain ⟨y0, y1, y2, y3, y4, y5, y6, y7, y8, y9, y10, y11, y12⟩ := c13 hy7
    obtain ⟨u0, u1, u2, u3, u4, u5, u6, u7, u8, u9, u10, u11, u12⟩ := f13 hy7
    clear hz7 hy7
    go_wp2
    (try simp only [Exit.inBlock, Exit.then])
    refine bodyPost_ret (v := .tuple #[.agg #[.int .i64 x0, .int .i64 x1, .int .i64 x12, .int .i64 (numL l 4 4), .int .i64 (numL l 8 4), .int .i64 0, .int .i64 0, .int .i64 0, .int .i64 0, .bool false, .int .i64 x16, .slice none 0 0, .slice Av2 (l.length - 20) cv2], .int .i64 0]) ?_ rfl (parsed_ok (v1 := .slice none 0 0) (v2 := .slice Av2 (l.length - 20) cv2) HPE.out (Kd.R_nil _ _ _ _ _) (RB_move HO2.out (by have := HG1.out; omega) ?_) ?_ ?_)
    · rw [results_cell_tmp rfl]
      go_simp
    · intro k hk _
      have h1 := HG2.out
      exact (lay13_far (by omega) _ _ _ _ _ _ _ _ _ _ _ _ _).trans (HF7.out k (by omega))
    · intro k hk; simp [Value.ownBlock] at hk
    · exact lay13_below HB7.out (Nat.le_refl _) _ _ _ _ _ _ _ _ _ _ _ _ _
  · have q17 : (x17 == 0) = false := beq_eq_false_iff_ne.mpr h17
    have q17n : (x17 != 0) = true := bne_iff_ne.mpr h17
    have HPE := Aside0.mk (show parseL l = (zeroP, 2) from by unfold parseL; rw [if_neg (fun h => h HE.out), if_pos HKD.out, if_pos (by rw [EE.out.2.2.2.2.2.1]; exact h17)])
    have hny := HY4.out
    obtain ⟨y0, y1, y2, y3, y4, y5, y6, y7, y8, y9, y10, y11, y12⟩ := c13 hny
    obtain ⟨u0, u1, u2, u3, u4, u5, u6, u7, u8, u9, u10, u11, u12⟩ := f13 hny
    clear hny
    go_wp2
    (try simp only [Exit.inBlock, Exit.then])
    refine bodyPost_ret (v := .tuple #[.agg zero13, .int .i64 2]) ?_ rfl (parsed_err HPE.out ?_)
    · rw [results_cell_tmp rfl]
      go_simp
    · exact lay13_below HB4.out (Nat.le_refl _) _ _ _ _ _ _ _ _ _ _ _ _ _
end Go.Proofs.Ytbjhmifhmojaoaa.WB

namespace Go.Proofs.Ytbjhmifhmojaoaa.WB
set_option linter.unusedVariables false
set_option linter.unusedSimpArgs false
open Go.RowKit Go.Proofs.Ytbjhmifhmojaoaa.Hp Go.Proofs.Ytbjhmifhmojaoaa.SB Go.Proofs.YtbjhmifhmojaoaaW.PrintWords Go.Proofs.YtbjhmifhmojaoaaW.PrintLast Go.Proofs.YtbjhmifhmojaoaaW.PrintMore
set_option maxHeartbeats 4000000 in
set_option maxRecDepth 100000 in
theorem rparse_gram {c : Nat} {A : Option Addr} {l : List Int} {w : World} (hr : Kd.C (Kd.int .u8) w A l.length l) (hc : l.length ≤ c) (hl : l.length ≤ 100000) (hb : Bytes l) (he : headE l = 0) (h24 : 24 ≤ l.length) (hk : l.getD 0 0 = 2) :
    Calls Try.prog 24 #[.slice A l.length c] w (Parsed w l) := by
  have HR := Aside0.mk hr
  have HC := Aside0.mk hc
  have HL := Aside0.mk hl
  have HY := Aside0.mk hb
  have HE := Aside0.mk he
  have HKD := Aside0.mk hk
  have H24 := Aside0.mk (show 24 ≤ l.length by omega)
  have H16 := Aside0.mk (show 16 ≤ l.length by omega)
  have HLE := Aside0.mk h24
  have HBA := Aside0.mk (fun o => (Below.refl w.heap.size w).alloc (Nat.le_refl _) o)
  obtain ⟨hh1, hh2, hh3, hh4, hh5, hh6⟩ := head0 he
  obtain ⟨ad, rfl, hcell⟩ := cells_of hr (by omega)
  have c0 := hcell 0 (by omega)
  rw [Addr.add_zero'] at c0
  have b0 := getD_byte hb 0
  obtain ⟨x0, e0⟩ : ∃ x, l.getD 0 0 = x := ⟨_, rfl⟩
  rw [e0] at c0 b0
  have w0 : wrap64 x0 = x0 := wid (by omega) (by omega)
  have i0 : (0 : Int) < (l.length : Int) := by omega
  have c1 : w.cell? ⟨ad.block, ad.off + 1, none⟩ = _ := hcell 1 (by omega)
  have b1 := getD_byte hb 1
  obtain ⟨x1, e1⟩ : ∃ x, l.getD 1 0 = x := ⟨_, rfl⟩
  rw [e1] at c1 b1
  have w1 : wrap64 x1 = x1 := wid (by omega) (by omega)
  have i1 : (1 : Int) < (l.length : Int) := by omega
  have c12 : w.cell? ⟨ad.block, ad.off + 12, none⟩ = _ := hcell 12 (by omega)
  have b12 := getD_byte hb 12
  obtain ⟨x12, e12⟩ : ∃ x, l.getD 12 0 = x := ⟨_, rfl⟩
  rw [e12] at c12 b12
  have w12 : wrap64 x12 = x12 := wid (by omega) (by omega)
  have i12 : (12 : Int) < (l.length : Int) := by omega
  have c13 : w.cell? ⟨ad.block, ad.off + 13, none⟩ = _ := hcell 13 (by omega)
  have b13 := getD_byte hb 13
  obtain ⟨x13, e13⟩ : ∃ x, l.getD 13 0 = x := ⟨_, rfl⟩
  rw [e13] at c13 b13
  have w13 : wrap64 x13 = x13 := wid (by omega) (by omega)
  have i13 : (13 : Int) < (l.length : Int) := by omega
  have i0n : 0 < l.length := by omega
  have HC0 := Aside0.mk (show ∀ W, Below w.heap.size w W → W.cell? ad = some (.int .u8 x0) from fun W h => (h.cell (World.block_lt_of_cell? w _ c0)).trans c0)
  have HC1 := Aside0.mk (show ∀ W, Below w.heap.size w W → W.cell? ⟨ad.block, ad.off + 1, none⟩ = some (.int .u8 x1) from fun W h => (h.cell (World.block_lt_of_cell? w _ c1)).trans c1)
  have HC12 := Aside0.mk (show ∀ W, Below w.heap.size w W → W.cell? ⟨ad.block, ad.off + 12, none⟩ = some (.int .u8 x12) from fun W h => (h.cell (World.block_lt_of_cell? w _ c12)).trans c12)
  have HC13 := Aside0.mk (show ∀ W, Below w.heap.size w W → W.cell? ⟨ad.block, ad.off + 13, none⟩ = some (.int .u8 x13) from fun W h => (h.cell (World.block_lt_of_cell? w _ c13)).trans c13)
  have EE := Aside0.mk (And.intro e0 (And.intro e1 (And.intro e12 (And.intro e13 trivial))))
  clear hcell c0 c1 c12 c13 e0 e1 e12 e13
  have HCL := Aside0.mk hc
  have G2 := Aside0.mk (fun W (h : Below w.heap.size w W) => num_calls (l := l) (w := W) 2 2 (iz := 2) (mz := 2) (Kd.C_below HR.out h) rfl HC.out HY.out HL.out rfl rfl (by omega) (by have := H16.out; omega))
  obtain ⟨hcut16, hC16⟩ := cut_to (A := some ad) (c := c) (l := l) 16 (jz := 16) rfl (by have := H16.out; omega) rfl HC.out
  have GR := Aside0.mk (fun W (h : Below w.heap.size w W) => right_calls_r (c := c) (hC16 W (Kd.C_below HR.out h)) (by rw [List.length_take]; have := H16.out; omega) (by have := H16.out; have := HC.out; omega) (HY.out.take 16) (by rw [List.length_take]; omega))
  clear hC16
  have d0 : decide ((l.length : Int) < 16) = false := decide_eq_false (by omega)
  have d1 : decide (l.length < 16) = false := decide_eq_false (by omega)
  have m0 := HC0.out _ (HBA.out (.cells zero13 26))
  have m13 := HC13.out _ (HBA.out (.cells zero13 26))
  rw [EE.out.1] at hk
  have hx13 : x13 = 0 := by rw [← EE.out.2.2.2.1]; exact hh4
  have t1b0 : decide (x0 < 1) = false := decide_eq_false (by omega)
  have t2b0 : decide (3 < x0) = false := decide_eq_false (by omega)
  have t3b0 : (numL l 2 2 == (l.length : Int)) = true := beq_iff_eq.mpr (by omega)
  have t3b1 : (numL l 2 2 != (l.length : Int)) = false := by rw [bne, t3b0]; rfl
  have t4b0 : decide (1500 < (l.length : Int)) = false := decide_eq_false (by omega)
  have t4b1 : decide (1500 < l.length) = false := decide_eq_false (by omega)
  have t5b0 : (x13 == 0) = true := beq_iff_eq.mpr (by omega)
  have t5b1 : (x13 != 0) = false := by rw [bne, t5b0]; rfl
  have t6b0 : (fold (pairs (l.take 16)) == 65535) = true := beq_iff_eq.mpr (by omega)
  have t6b1 : (fold (pairs (l.take 16)) != 65535) = false := by rw [bne, t6b0]; rfl
  have t7b0 : decide ((l.length : Int) < 24) = false := decide_eq_false (by omega)
  have t7b1 : decide (l.length < 24) = false := decide_eq_false (by omega)
  have q3 : (x0 == 3) = false := by rw [hk]; rfl
  have q3n : (x0 != 3) = true := by rw [hk]; rfl
  have q2 : (x0 == 2) = true := by rw [hk]; rfl
  have q2n : (x0 != 2) = false := by rw [hk]; rfl
  have t8b0 : (x0 == 3) = false := by rw [hk]; rfl
  clear he hr hc hl hb h24 hk hh1 hh2 hh3 hh4 hh5 hh6
  go_enter Try.func24, Try.ntmps24
  go_upto_region 11 with (first | (go_at_call 32; (with_reducible refine (G2.out _ ?hb).mono ?_); (case hb => (repeat (first | with_reducible exact HBA.out _ | with_reducible apply pw_below_drewN))); rintro e w3 ⟨rfl, ⟨⟨nq, rfl⟩⟩⟩) | (go_at_call 33; (with_reducible refine (GR.out _ ?hb).mono ?_); (case hb => (repeat (first | with_reducible exact HBA.out _ | with_reducible apply pw_below_drewN))); rintro e w3 ⟨rfl, ⟨⟨nq, rfl⟩⟩⟩))
  generalize hW : World.drewN _ _ = W1
  have HBR : Aside0 (Below w.heap.size w W1) := Aside0.mk (by rw [← hW]; repeat (first | with_reducible exact HBA.out _ | with_reducible apply pw_below_drewN))
  have HK1 : Aside0 (W1.heap[w.heap.size]? = some (.cells zero13 26 (0, 0))) := Aside0.mk (by rw [← hW]; exact new_blk w _)
  have HR1 := Aside0.mk (Kd.C_below HR.out HBR.out)
  have HG1 := Aside0.mk (show w.heap.size ≤ W1.heap.size from HBR.out.size)
  have HG2 := Aside0.mk (show w.heap.size < W1.heap.size from blk_lt HK1.out)
  have HBS := Aside0.mk (Below.refl W1.heap.size W1)
  clear hW hcut16 m0 m13 t1b0 t2b0 t3b0 t3b1 t4b0 t4b1 t5b0 t5b1 t6b0 t6b1 t7b0 t7b1 d0 d1 G2 GR HBA
  refine start_ (n := 19) (S := fun w' => w'.cell? ad = some (.int .u8 x0) ∧ w'.cell? ⟨ad.block, ad.off + 1, none⟩ = some (.int .u8 x1) ∧ w'.cell? ⟨ad.block, ad.off + 12, none⟩ = some (.int .u8 x12)) (ds := []) #[false, false, false, false, false, false, false, false, false, false, false, false, false, false, false, false, false, false, false] (by kernel_rfl) rfl rfl ⟨(HC0.out _ (by repeat (first | (with_reducible first | exact HBR.out | apply below_alloc | apply pw_below_drewN | apply below_drew1) | exact HBR.out))), (HC1.out _ (by repeat (first | (with_reducible first | exact HBR.out | apply below_alloc | apply pw_below_drewN | apply below_drew1) | exact HBR.out))), (HC12.out _ (by repeat (first | (with_reducible first | exact HBR.out | apply below_alloc | apply pw_below_drewN | apply below_drew1) | exact HBR.out)))⟩ (fun hHeld => ?_)
  refine pure_ (i := 0) (N := some 63) (v := ?_) (a' := ?_) #[true, false, false, false, false, false, false, false, false, false, false, false, false, false, false, false, false, false, false] rfl rfl (by kernel_rfl) (fun _ _ _ h => h) (Or.inl ⟨by rfl, ?_⟩) ?_ ?_
  rotate_left
  · intro w'
    go_simp
    with_reducible rfl
  rotate_left
  · simp only [Act.put, List.setIfInBounds_toArray, List.set_cons_zero, List.set_cons_succ, i64_w, i32_w]
    rfl
  refine pure_ (i := 1) (N := some 64) (v := ?_) (a' := ?_) #[true, true, false, false, false, false, false, false, false, false, false, false, false, false, false, false, false, false, false] rfl rfl (by kernel_rfl) (fun _ _ _ h => h) (Or.inl ⟨by rfl, ?_⟩) ?_ ?_
  rotate_left
  · intro w'
    go_simp
    with_reducible rfl
  rotate_left
  · simp only [Act.put, List.setIfInBounds_toArray, List.set_cons_zero, List.set_cons_succ, i64_w, i32_w]
    rfl
  refine pure_ (i := 4) (N := some 67) (v := ?_) (a' := ?_) #[true, true, false, false, true, false, false, false, false, false, false, false, false, false, false, false, false, false, false] rfl rfl (by kernel_rfl) (fun _ _ _ h => h) (Or.inl ⟨by rfl, ?_⟩) ?_ ?_
  rotate_left
  · intro w'
    go_simp
    with_reducible rfl
  rotate_left
  · simp only [Act.put, List.setIfInBounds_toArray, List.set_cons_zero, List.set_cons_succ, i64_w, i32_w]
    rfl
  refine pure_ (i := 5) (N := some 68) (v := ?_) (a' := ?_) #[true, true, false, false, true, true, false, false, false, false, false, false, false, false, false, false, false, false, false] rfl rfl (by kernel_rfl) (fun _ _ _ h => h) (Or.inl ⟨by rfl, ?_⟩) ?_ ?_
  rotate_left
  · intro w'
    go_simp
    with_reducible rfl
  rotate_left
  · simp only [Act.put, List.setIfInBounds_toArray, List.set_cons_zero, List.set_cons_succ, i64_w, i32_w]
    rfl
  refine pure_ (i := 8) (N := some 71) (v := ?_) (a' := ?_) #[true, true, false, false, true, true, false, false, true, false, false, false, false, false, false, false, false, false, false] rfl rfl (by kernel_rfl) (fun _ _ _ h => h) (Or.inl ⟨by rfl, ?_⟩) ?_ ?_
  rotate_left
  · intro w'
    go_simp
    with_reducible rfl
  rotate_left
  · simp only [Act.put, List.setIfInBounds_toArray, List.set_cons_zero, List.set_cons_succ, i64_w, i32_w]
    rfl
  refine pure_ (i := 9) (N := some 72) (v := ?_) (a' := ?_) #[true, true, false, false, true, true, false, false, true, true, false, false, false, false, false, false, false, false, false] rfl rfl (by kernel_rfl) (fun _ _ _ h => h) (Or.inl ⟨by rfl, ?_⟩) ?_ ?_
  rotate_left
  · intro w'
    go_simp
    with_reducible rfl
  rotate_left
  · simp only [Act.put, List.setIfInBounds_toArray, List.set_cons_zero, List.set_cons_succ, i64_w, i32_w]
    rfl
  refine pure_ (i := 12) (N := some 75) (v := ?_) (a' := ?_) #[true, true, false, false, true, true, false, false, true, true, false, false, true, false, false, false, false, false, false] rfl rfl (by kernel_rfl) (fun _ _ _ h => h) (Or.inl ⟨by rfl, ?_⟩) ?_ ?_
  rotate_left
  · intro w'
    go_simp
    with_reducible rfl
  rotate_left
  · simp only [Act.put, List.setIfInBounds_toArray, List.set_cons_zero, List.set_cons_succ, i64_w, i32_w]
    rfl
  refine pure_ (i := 14) (N := some 77) (v := ?_) (a' := ?_) #[true, true, false, false, true, true, false, false, true, true, false, false, true, false, true, false, false, false, false] rfl rfl (by kernel_rfl) (fun _ _ _ h => h) (Or.inl ⟨by rfl, ?_⟩) ?_ ?_
  rotate_left
  · intro w'
    go_simp
    with_reducible rfl
  rotate_left
  · simp only [Act.put, List.setIfInBounds_toArray, List.set_cons_zero, List.set_cons_succ, i64_w, i32_w]
    rfl
  refine take_ (i := 2) (N := some 65) (v := ?_) (a' := ?_) #[true, true, true, false, true, true, false, false, true, true, false, false, true, false, true, false, false, false, false] rfl rfl (by kernel_rfl) (fun _ _ _ h => h) (Or.inl ⟨by rfl, ?_⟩) hHeld ?_ ?_
  rotate_left
  · rintro w' ⟨s0, s1, s2⟩
    go_simp
    with_reducible rfl
  rotate_left
  · simp only [Act.put, List.setIfInBounds_toArray, List.set_cons_zero, List.set_cons_succ, i64_w, i32_w]
    rfl
  refine pure_ (i := 3) (N := some 66) (v := ?_) (a' := ?_) #[true, true, true, true, true, true, false, false, true, true, false, false, true, false, true, false, false, false, false] rfl rfl (by kernel_rfl) (fun _ _ _ h => h) (Or.inl ⟨by rfl, ?_⟩) ?_ ?_
  rotate_left
  · intro w'
    go_simp
    with_reducible rfl
  rotate_left
  · simp only [Act.put, List.setIfInBounds_toArray, List.set_cons_zero, List.set_cons_succ, i64_w, i32_w]
    rfl
  refine take_ (i := 6) (N := some 69) (v := ?_) (a' := ?_) #[true, true, true, true, true, true, true, false, true, true, false, false, true, false, true, false, false, false, false] rfl rfl (by kernel_rfl) (fun _ _ _ h => h) (Or.inl ⟨by rfl, ?_⟩) hHeld ?_ ?_
  rotate_left
  · rintro w' ⟨s0, s1, s2⟩
    go_simp
    with_reducible rfl
  rotate_left
  · simp only [Act.put, List.setIfInBounds_toArray, List.set_cons_zero, List.set_cons_succ, i64_w, i32_w]
    rfl
  refine pure_ (i := 7) (N := some 70) (v := ?_) (a' := ?_) #[true, true, true, true, true, true, true, true, true, true, false, false, true, false, true, false, false, false, false] rfl rfl (by kernel_rfl) (fun _ _ _ h => h) (Or.inl ⟨by rfl, ?_⟩) ?_ ?_
  rotate_left
  · intro w'
    go_simp
    with_reducible rfl
  rotate_left
  · simp only [Act.put, List.setIfInBounds_toArray, List.set_cons_zero, List.set_cons_succ, i64_w, i32_w]
    rfl
  refine take_ (i := 10) (N := some 73) (v := ?_) (a' := ?_) #[true, true, true, true, true, true, true, true, true, true, true, false, true, false, true, false, false, false, false] rfl rfl (by kernel_rfl) (fun _ _ _ h => h) (Or.inl ⟨by rfl, ?_⟩) hHeld ?_ ?_
  rotate_left
  · rintro w' ⟨s0, s1, s2⟩
    go_simp
    with_reducible rfl
  rotate_left
  · simp only [Act.put, List.setIfInBounds_toArray, List.set_cons_zero, List.set_cons_succ, i64_w, i32_w]
    rfl
  refine pure_ (i := 11) (N := some 74) (v := ?_) (a' := ?_) #[true, true, true, true, true, true, true, true, true, true, true, true, true, false, true, false, false, false, false] rfl rfl (by kernel_rfl) (fun _ _ _ h => h) (Or.inl ⟨by rfl, ?_⟩) ?_ ?_
  rotate_left
  · intro w'
    go_simp
    with_reducible rfl
  rotate_left
  · simp only [Act.put, List.setIfInBounds_toArray, List.set_cons_zero, List.set_cons_succ, i64_w, i32_w]
    rfl
  refine join_ (σ := Unit) 1 #[true, true, true, true, true, true, true, true, true, true, true, true, true, true, true, true, true, true, false] (fun _ => [(76, .int .i64 (numL l 4 4)), (78, .int .i64 (numL l 8 4)), (79, .agg #[.int .i64 x0, .int .i64 x1, .int .i64 x12, .int .i64 (numL l 4 4), .int .i64 (numL l 8 4), .int .i64 0, .int .i64 0, .int .i64 0, .int .i64 0, .bool false, .int .i64 0, .slice none 0 0, .slice none 0 0]), (4, .pointer (some ⟨W1.heap.size, 0, none⟩))]) (fun _ w' => w'.heap[W1.heap.size]? = some (.cells zero13 26 (0, 0)) ∧ w'.heap[w.heap.size]? = some (.cells zero13 26 (0, 0)) ∧ Below w.heap.size w w') ?_ ?_
  rotate_left
  · intro hCont
    refine two_ (i := 13) (j := 17) (Ni := some 76) (Nj := some 4) #[true, true, true, true, true, true, true, true, true, true, true, true, true, true, true, false, false, false, false] #[true, true, true, true, true, true, true, true, true, true, true, true, true, false, true, false, false, true, false] rfl rfl rfl rfl (by kernel_rfl) (by decide) (by decide) (fun K hK => ?_) (fun K hK => ?_)
    · skip
      refine goes_ Try.func32 (by kernel_rfl) rfl #[.slice (some ad) l.length c, .int .i64 4, .int .i64 4] (by rfl) rfl rfl (by simp only [List.map_toArray, List.map_cons, List.map_nil]; rfl) ?_
      with_reducible refine (num_calls (l := l) 4 4 (iz := 4) (mz := 4) (by repeat (first | exact HR1.out | (with_reducible refine Kd.C_alloc ?_ _) | (with_reducible refine Kd.C_drewN ?_ _) | (with_reducible refine Kd.C_drew ?_))) rfl HC.out HY.out HL.out rfl rfl (by omega) (by have := H24.out; omega)).mono ?_
      rintro e w3 ⟨rfl, ⟨⟨nq, rfl⟩⟩⟩
      refine ⟨_, rfl, ?_⟩
      refine hK.out _ _ ⟨(HC0.out _ (by repeat (first | (with_reducible first | exact HBR.out | apply below_alloc | apply pw_below_drewN | apply below_drew1) | exact HBR.out))), (HC1.out _ (by repeat (first | (with_reducible first | exact HBR.out | apply below_alloc | apply pw_below_drewN | apply below_drew1) | exact HBR.out))), (HC12.out _ (by repeat (first | (with_reducible first | exact HBR.out | apply below_alloc | apply pw_below_drewN | apply below_drew1) | exact HBR.out)))⟩ (fun hHeld => ?_)
      clear hK K
      refine norm_ (a' := ?_) ?_ ?_
      rotate_left
      · show Act.put _ (some 76) _ = _
        simp only [Act.put, List.setIfInBounds_toArray, List.set_cons_zero, List.set_cons_succ, i64_w, i32_w]
        rfl
      refine two_ (i := 15) (j := 17) (Ni := some 78) (Nj := some 4) #[true, true, true, true, true, true, true, true, true, true, true, true, true, true, true, true, false, false, false] #[true, true, true, true, true, true, true, true, true, true, true, true, true, true, true, false, false, true, false] rfl rfl rfl rfl (by kernel_rfl) (by decide) (by decide) (fun K hK => ?_) (fun K hK => ?_)
      · skip
        refine goes_ Try.func32 (by kernel_rfl) rfl #[.slice (some ad) l.length c, .int .i64 8, .int .i64 4] (by rfl) rfl rfl (by simp only [List.map_toArray, List.map_cons, List.map_nil]; rfl) ?_
        with_reducible refine (num_calls (l := l) 8 4 (iz := 8) (mz := 4) (by repeat (first | exact HR1.out | (with_reducible refine Kd.C_alloc ?_ _) | (with_reducible refine Kd.C_drewN ?_ _) | (with_reducible refine Kd.C_drew ?_))) rfl HC.out HY.out HL.out rfl rfl (by omega) (by have := H24.out; omega)).mono ?_
        rintro e w3 ⟨rfl, ⟨⟨nq, rfl⟩⟩⟩
        refine ⟨_, rfl, ?_⟩
        refine hK.out _ _ ⟨(HC0.out _ (by repeat (first | (with_reducible first | exact HBR.out | apply below_alloc | apply pw_below_drewN | apply below_drew1) | exact HBR.out))), (HC1.out _ (by repeat (first | (with_reducible first | exact HBR.out | apply below_alloc | apply pw_below_drewN | apply below_drew1) | exact HBR.out))), (HC12.out _ (by repeat (first | (with_reducible first | exact HBR.out | apply below_alloc | apply pw_below_drewN | apply below_drew1) | exact HBR.out)))⟩ (fun hHeld => ?_)
        clear hK K
        refine norm_ (a' := ?_) ?_ ?_
        rotate_left
        · show Act.put _ (some 78) _ = _
          simp only [Act.put, List.setIfInBounds_toArray, List.set_cons_zero, List.set_cons_succ, i64_w, i32_w]
          rfl
        refine pure_ (i := 16) (N := some 79) (v := ?_) (a' := ?_) #[true, true, true, true, true, true, true, true, true, true, true, true, true, true, true, true, true, false, false] rfl rfl (by kernel_rfl) (fun _ _ _ h => h) (Or.inl ⟨by rfl, ?_⟩) ?_ ?_
        rotate_left
        · intro w'
          go_simp
          with_reducible rfl
        rotate_left
        · simp only [Act.put, List.setIfInBounds_toArray, List.set_cons_zero, List.set_cons_succ, i64_w, i32_w]
          rfl
        refine one_ (i := 17) (N := some 4) #[true, true, true, true, true, true, true, true, true, true, true, true, true, true, true, true, true, true, false] rfl rfl (by kernel_rfl) (by decide) (fun K hK => ?_)
        refine value_ (w1 := ?_) (v := ?_) (by rfl) rfl ?_ ?_
        rotate_left 2
        · go_simp
          constructor
          · rfl
          · rfl
        refine hK.out _ _ ⟨(HC0.out _ (by repeat (first | (with_reducible first | exact HBR.out | apply below_alloc | apply pw_below_drewN | apply below_drew1) | exact HBR.out))), (HC1.out _ (by repeat (first | (with_reducible first | exact HBR.out | apply below_alloc | apply pw_below_drewN | apply below_drew1) | exact HBR.out))), (HC12.out _ (by repeat (first | (with_reducible first | exact HBR.out | apply below_alloc | apply pw_below_drewN | apply below_drew1) | exact HBR.out)))⟩ (fun hHeld => ?_)
        clear hK K
        refine norm_ (a' := ?_) ?_ ?_
        rotate_left
        · show Act.put _ (some 4) _ = _
          simp only [Act.put, List.setIfInBounds_toArray, List.set_cons_zero, List.set_cons_succ, i64_w, i32_w]
          rfl
        exact norm_ (by simp only [putAll, Act.put, List.setIfInBounds_toArray, List.set_cons_zero, List.set_cons_succ]) (hCont () _ ⟨new_blk W1 _, (by refine Eq.trans (Below.block (B := W1.heap.size) (w := W1) ?_ _ HG2.out) HK1.out; repeat (first | (with_reducible first | exact HBS.out | apply below_alloc | apply pw_below_drewN | apply below_drew1) | exact HBS.out)), (by repeat (first | (with_reducible first | exact HBR.out | apply below_alloc | apply pw_below_drewN | apply below_drew1) | exact HBR.out))⟩)
      · skip
        refine value_ (w1 := ?_) (v := ?_) (by rfl) rfl ?_ ?_
        rotate_left 2
        · go_simp
          constructor
          · rfl
          · rfl
        refine hK.out _ _ ⟨(HC0.out _ (by repeat (first | (with_reducible first | exact HBR.out | apply below_alloc | apply pw_below_drewN | apply below_drew1) | exact HBR.out))), (HC1.out _ (by repeat (first | (with_reducible first | exact HBR.out | apply below_alloc | apply pw_below_drewN | apply below_drew1) | exact HBR.out))), (HC12.out _ (by repeat (first | (with_reducible first | exact HBR.out | apply below_alloc | apply pw_below_drewN | apply below_drew1) | exact HBR.out)))⟩ (fun hHeld => ?_)
        clear hK K
        refine norm_ (a' := ?_) ?_ ?_
        rotate_left
        · show Act.put _ (some 4) _ = _
          simp only [Act.put, List.setIfInBounds_toArray, List.set_cons_zero, List.set_cons_succ, i64_w, i32_w]
          rfl
        refine one_ (i := 15) (N := some 78) #[true, true, true, true, true, true, true, true, true, true, true, true, true, true, true, true, false, true, false] rfl rfl (by kernel_rfl) (by decide) (fun K hK => ?_)
        refine goes_ Try.func32 (by kernel_rfl) rfl #[.slice (some ad) l.length c, .int .i64 8, .int .i64 4] (by rfl) rfl rfl (by simp only [List.map_toArray, List.map_cons, List.map_nil]; rfl) ?_
        with_reducible refine (num_calls (l := l) 8 4 (iz := 8) (mz := 4) (by repeat (first | exact HR1.out | (with_reducible refine Kd.C_alloc ?_ _) | (with_reducible refine Kd.C_drewN ?_ _) | (with_reducible refine Kd.C_drew ?_))) rfl HC.out HY.out HL.out rfl rfl (by omega) (by have := H24.out; omega)).mono ?_
        rintro e w3 ⟨rfl, ⟨⟨nq, rfl⟩⟩⟩
        refine ⟨_, rfl, ?_⟩
        refine hK.out _ _ ⟨(HC0.out _ (by repeat (first | (with_reducible first | exact HBR.out | apply below_alloc | apply pw_below_drewN | apply below_drew1) | exact HBR.out))), (HC1.out _ (by repeat (first | (with_reducible first | exact HBR.out | apply below_alloc | apply pw_below_drewN | apply below_drew1) | exact HBR.out))), (HC12.out _ (by repeat (first | (with_reducible first | exact HBR.out | apply below_alloc | apply pw_below_drewN | apply below_drew1) | exact HBR.out)))⟩ (fun hHeld => ?_)
        clear hK K
        refine norm_ (a' := ?_) ?_ ?_
        rotate_left
        · show Act.put _ (some 78) _ = _
          simp only [Act.put, List.setIfInBounds_toArray, List.set_cons_zero, List.set_cons_succ, i64_w, i32_w]
          rfl
        refine pure_ (i := 16) (N := some 79) (v := ?_) (a' := ?_) #[true, true, true, true, true, true, true, true, true, true, true, true, true, true, true, true, true, true, false] rfl rfl (by kernel_rfl) (fun _ _ _ h => h) (Or.inl ⟨by rfl, ?_⟩) ?_ ?_
        rotate_left
        · intro w'
          go_simp
          with_reducible rfl
        rotate_left
        · simp only [Act.put, List.setIfInBounds_toArray, List.set_cons_zero, List.set_cons_succ, i64_w, i32_w]
          rfl
        exact norm_ (by simp only [putAll, Act.put, List.setIfInBounds_toArray, List.set_cons_zero, List.set_cons_succ]) (hCont () _ ⟨new_blk W1 _, (by refine Eq.trans (Below.block (B := W1.heap.size) (w := W1) ?_ _ HG2.out) HK1.out; repeat (first | (with_reducible first | exact HBS.out | apply below_alloc | apply pw_below_drewN | apply below_drew1) | exact HBS.out)), (by repeat (first | (with_reducible first | exact HBR.out | apply below_alloc | apply pw_below_drewN | apply below_drew1) | exact HBR.out))⟩)
    · skip
      refine value_ (w1 := ?_) (v := ?_) (by rfl) rfl ?_ ?_
      rotate_left 2
      · go_simp
        constructor
        · rfl
        · rfl
      refine hK.out _ _ ⟨(HC0.out _ (by repeat (first | (with_reducible first | exact HBR.out | apply below_alloc | apply pw_below_drewN | apply below_drew1) | exact HBR.out))), (HC1.out _ (by repeat (first | (with_reducible first | exact HBR.out | apply below_alloc | apply pw_below_drewN | apply below_drew1) | exact HBR.out))), (HC12.out _ (by repeat (first | (with_reducible first | exact HBR.out | apply below_alloc | apply pw_below_drewN | apply below_drew1) | exact HBR.out)))⟩ (fun hHeld => ?_)
      clear hK K
      refine norm_ (a' := ?_) ?_ ?_
      rotate_left
      · show Act.put _ (some 4) _ = _
        simp only [Act.put, List.setIfInBounds_toArray, List.set_cons_zero, List.set_cons_succ, i64_w, i32_w]
        rfl
      refine one_ (i := 13) (N := some 76) #[true, true, true, true, true, true, true, true, true, true, true, true, true, true, true, false, false, true, false] rfl rfl (by kernel_rfl) (by decide) (fun K hK => ?_)
      refine goes_ Try.func32 (by kernel_rfl) rfl #[.slice (some ad) l.length c, .int .i64 4, .int .i64 4] (by rfl) rfl rfl (by simp only [List.map_toArray, List.map_cons, List.map_nil]; rfl) ?_
      with_reducible refine (num_calls (l := l) 4 4 (iz := 4) (mz := 4) (by repeat (first | exact HR1.out | (with_reducible refine Kd.C_alloc ?_ _) | (with_reducible refine Kd.C_drewN ?_ _) | (with_reducible refine Kd.C_drew ?_))) rfl HC.out HY.out HL.out rfl rfl (by omega) (by have := H24.out; omega)).mono ?_
      rintro e w3 ⟨rfl, ⟨⟨nq, rfl⟩⟩⟩
      refine ⟨_, rfl, ?_⟩
      refine hK.out _ _ ⟨(HC0.out _ (by repeat (first | (with_reducible first | exact HBR.out | apply below_alloc | apply pw_below_drewN | apply below_drew1) | exact HBR.out))), (HC1.out _ (by repeat (first | (with_reducible first | exact HBR.out | apply below_alloc | apply pw_below_drewN | apply below_drew1) | exact HBR.out))), (HC12.out _ (by repeat (first | (with_reducible first | exact HBR.out | apply below_alloc | apply pw_below_drewN | apply below_drew1) | exact HBR.out)))⟩ (fun hHeld => ?_)
      clear hK K
      refine norm_ (a' := ?_) ?_ ?_
      rotate_left
      · show Act.put _ (some 76) _ = _
        simp only [Act.put, List.setIfInBounds_toArray, List.set_cons_zero, List.set_cons_succ, i64_w, i32_w]
        rfl
      refine one_ (i := 15) (N := some 78) #[true, true, true, true, true, true, true, true, true, true, true, true, true, true, true, true, false, true, false] rfl rfl (by kernel_rfl) (by decide) (fun K hK => ?_)
      refine goes_ Try.func32 (by kernel_rfl) rfl #[.slice (some ad) l.length c, .int .i64 8, .int .i64 4] (by rfl) rfl rfl (by simp only [List.map_toArray, List.map_cons, List.map_nil]; rfl) ?_
      with_reducible refine (num_calls (l := l) 8 4 (iz := 8) (mz := 4) (by repeat (first | exact HR1.out | (with_reducible refine Kd.C_alloc ?_ _) | (with_reducible refine Kd.C_drewN ?_ _) | (with_reducible refine Kd.C_drew ?_))) rfl HC.out HY.out HL.out rfl rfl (by omega) (by have := H24.out; omega)).mono ?_
      rintro e w3 ⟨rfl, ⟨⟨nq, rfl⟩⟩⟩
      refine ⟨_, rfl, ?_⟩
      refine hK.out _ _ ⟨(HC0.out _ (by repeat (first | (with_reducible first | exact HBR.out | apply below_alloc | apply pw_below_drewN | apply below_drew1) | exact HBR.out))), (HC1.out _ (by repeat (first | (with_reducible first | exact HBR.out | apply below_alloc | apply pw_below_drewN | apply below_drew1) | exact HBR.out))), (HC12.out _ (by repeat (first | (with_reducible first | exact HBR.out | apply below_alloc | apply pw_below_drewN | apply below_drew1) | exact HBR.out)))⟩ (fun hHeld => ?_)
      clear hK K
      refine norm_ (a' := ?_) ?_ ?_
      rotate_left
      · show Act.put _ (some 78) _ = _
        simp only [Act.put, List.setIfInBounds_toArray, List.set_cons_zero, List.set_cons_succ, i64_w, i32_w]
        rfl
      refine pure_ (i := 16) (N := some 79) (v := ?_) (a' := ?_) #[true, true, true, true, true, true, true, true, true, true, true, true, true, true, true, true, true, true, false] rfl rfl (by kernel_rfl) (fun _ _ _ h => h) (Or.inl ⟨by rfl, ?_⟩) ?_ ?_
      rotate_left
      · intro w'
        go_simp
        with_reducible rfl
      rotate_left
      · simp only [Act.put, List.setIfInBounds_toArray, List.set_cons_zero, List.set_cons_succ, i64_w, i32_w]
        rfl
      exact norm_ (by simp only [putAll, Act.put, List.setIfInBounds_toArray, List.set_cons_zero, List.set_cons_succ]) (hCont () _ ⟨new_blk W1 _, (by refine Eq.trans (Below.block (B := W1.heap.size) (w := W1) ?_ _ HG2.out) HK1.out; repeat (first | (with_reducible first | exact HBS.out | apply below_alloc | apply pw_below_drewN | apply below_drew1) | exact HBS.out)), (by repeat (first | (with_reducible first | exact HBR.out | apply below_alloc | apply pw_below_drewN | apply below_drew1) | exact HBR.out))⟩)
  rintro ⟨⟩ w3 ⟨hz3, hy3, hb3⟩
  have hHeld : w3.cell? ad = some (.int .u8 x0) ∧ w3.cell? ⟨ad.block, ad.off + 1, none⟩ = some (.int .u8 x1) ∧ w3.cell? ⟨ad.block, ad.off + 12, none⟩ = some (.int .u8 x12) := ⟨HC0.out _ hb3, HC1.out _ hb3, HC12.out _ hb3⟩
  refine norm_ (a' := ?_) ?_ ?_
  rotate_left
  · simp only [putAll, Act.put, List.setIfInBounds_toArray, List.set_cons_zero, List.set_cons_succ]
    rfl
  refine one_ (i := 18) (N := none) #[true, true, true, true, true, true, true, true, true, true, true, true, true, true, true, true, true, true, true] rfl rfl (by kernel_rfl) (by decide) (fun K hK => ?_)
  obtain ⟨k0, k1, k2, k3, k4, k5, k6, k7, k8, k9, k10, k11, k12⟩ := c13 hz3
  obtain ⟨z0, z1, z2, z3, z4, z5, z6, z7, z8, z9, z10, z11, z12⟩ := f13 hz3
  refine skip_ (w1 := ?_) (by rfl) rfl ?_ ?_
  rotate_left
  · go_simp
    rfl
  refine hK.out _ _ ⟨(HC0.out _ (lay13_below hb3 HG1.out _ _ _ _ _ _ _ _ _ _ _ _ _)), (HC1.out _ (lay13_below hb3 HG1.out _ _ _ _ _ _ _ _ _ _ _ _ _)), (HC12.out _ (lay13_below hb3 HG1.out _ _ _ _ _ _ _ _ _ _ _ _ _))⟩ (fun hHeld => ?_)
  clear hK K
  refine done_ (by kernel_rfl) ?_
  generalize hW : World.setCell _ _ _ = W4
  have hz4 : W4.heap[W1.heap.size]? = some (.cells #[(.int .i64 x0), (.int .i64 x1), (.int .i64 x12), (.int .i64 (numL l 4 4)), (.int .i64 (numL l 8 4)), (.int .i64 0), (.int .i64 0), (.int .i64 0), (.int .i64 0), (.bool false), (.int .i64 0), (.slice none 0 0), (.slice none 0 0)] 26 (0, 0)) := by rw [← hW]; exact lay13_blk hz3 rfl (.int .i64 x0) (.int .i64 x1) (.int .i64 x12) (.int .i64 (numL l 4 4)) (.int .i64 (numL l 8 4)) (.int .i64 0) (.int .i64 0) (.int .i64 0) (.int .i64 0) (.bool false) (.int .i64 0) (.slice none 0 0) (.slice none 0 0)
  have hy4 : W4.heap[w.heap.size]? = some (.cells zero13 26 (0, 0)) := by rw [← hW]; exact (lay13_far (Nat.ne_of_lt HG2.out) (.int .i64 x0) (.int .i64 x1) (.int .i64 x12) (.int .i64 (numL l 4 4)) (.int .i64 (numL l 8 4)) (.int .i64 0) (.int .i64 0) (.int .i64 0) (.int .i64 0) (.bool false) (.int .i64 0) (.slice none 0 0) (.slice none 0 0)).trans hy3
  have HB4 := Aside0.mk (show Below w.heap.size w W4 from by rw [← hW]; exact lay13_below hb3 HG1.out (.int .i64 x0) (.int .i64 x1) (.int .i64 x12) (.int .i64 (numL l 4 4)) (.int .i64 (numL l 8 4)) (.int .i64 0) (.int .i64 0) (.int .i64 0) (.int .i64 0) (.bool false) (.int .i64 0) (.slice none 0 0) (.slice none 0 0))
  have HZ4 := Aside0.mk hz4
  have HY4 := Aside0.mk hy4
  obtain ⟨g, HGE⟩ : ∃ g, W1.heap.size = g := ⟨_, rfl⟩
  rw [HGE] at HZ4 HG1 HG2 hz4 ⊢
  have HGL := Aside0.mk (show g < W4.heap.size from blk_lt hz4)
  clear hHeld hW hz3 hy3 hb3 k0 k1 k2 k3 k4 k5 k6 k7 k8 k9 k10 k11 k12 z0 z1 z2 z3 z4 z5 z6 z7 z8 z9 z10 z11 z12
  obtain ⟨k0, k1, k2, k3, k4, k5, k6, k7, k8, k9, k10, k11, k12⟩ := c13 hz4
  obtain ⟨z0, z1, z2, z3, z4, z5, z6, z7, z8, z9, z10, z11, z12⟩ := f13 hz4
  clear hz4 hy4
  clear HBR HR1 HBS HK1
  have m13 := HC13.out W4 HB4.out
  have HBW := Aside0.mk HB4.out
  have HPE := Aside0.mk (show parseL l = (⟨x0, x1, x12, numL l 4 4, numL l 8 4, numL l 16 2, numL l 18 2, 0, numL l 20 2, numL l 22 2 == 0, 0, [], l.drop 24⟩, 0) from by
    unfold parseL
    rw [if_neg (fun h => h HE.out), if_neg (by rw [HKD.out]; decide), if_pos HKD.out, EE.out.2.1, EE.out.2.2.1, ← EE.out.1, HKD.out])
  have G16 := Aside0.mk (fun W (h : Below w.heap.size w W) => num_calls (l := l) (w := W) 16 2 (iz := 16) (mz := 2) (Kd.C_below HR.out h) rfl HC.out HY.out HL.out rfl rfl (by omega) (by have := H24.out; omega))
  have G18 := Aside0.mk (fun W (h : Below w.heap.size w W) => num_calls (l := l) (w := W) 18 2 (iz := 18) (mz := 2) (Kd.C_below HR.out h) rfl HC.out HY.out HL.out rfl rfl (by omega) (by have := H24.out; omega))
  have G20 := Aside0.mk (fun W (h : Below w.heap.size w W) => num_calls (l := l) (w := W) 20 2 (iz := 20) (mz := 2) (Kd.C_below HR.out h) rfl HC.out HY.out HL.out rfl rfl (by omega) (by have := H24.out; omega))
  have G22 := Aside0.mk (fun W (h : Below w.heap.size w W) => num_calls (l := l) (w := W) 22 2 (iz := 22) (mz := 2) (Kd.C_below HR.out h) rfl HC.out HY.out HL.out rfl rfl (by omega) (by have := H24.out; omega))
  go_upto_region 18 with (first | (go_at_call 32; (with_reducible refine (G16.out _ ?hb).mono ?_); (case hb => (repeat (first | with_reducible exact HBW.out | with_reducible apply pw_below_drewN | (refine Below.setCell ?_ HG1.out _)))); rintro e w3 ⟨rfl, ⟨⟨nq, rfl⟩⟩⟩) | (go_at_call 32; (with_reducible refine (G18.out _ ?hb).mono ?_); (case hb => (repeat (first | with_reducible exact HBW.out | with_reducible apply pw_below_drewN | (refine Below.setCell ?_ HG1.out _)))); rintro e w3 ⟨rfl, ⟨⟨nq, rfl⟩⟩⟩))
  generalize hW : World.setCell _ _ _ = W5
  have hz5 : W5.heap[g]? = some (.cells #[.int .i64 x0, .int .i64 x1, .int .i64 x12, .int .i64 (numL l 4 4), .int .i64 (numL l 8 4), .int .i64 (numL l 16 2), .int .i64 (numL l 18 2), .int .i64 0, .int .i64 0, .bool false, .int .i64 0, .slice none 0 0, .slice none 0 0] 26 (0, 0)) := by
    rw [← hW]
    have h := (set_blk ((set_blk (HZ4.out) 5 (.int .i64 (numL l 16 2)))) 6 (.int .i64 (numL l 18 2)))
    simp only [List.setIfInBounds_toArray, List.set_cons_zero, List.set_cons_succ] at h
    exact h
  have hy5 : W5.heap[w.heap.size]? = some (.cells zero13 26 (0, 0)) := by
    rw [← hW]
    exact (Below.heap_setCell _ ⟨g, 6, none⟩ (.int .i64 (numL l 18 2)) w.heap.size (Nat.ne_of_lt HG2.out)).trans ((Below.heap_setCell _ ⟨g, 5, none⟩ (.int .i64 (numL l 16 2)) w.heap.size (Nat.ne_of_lt HG2.out)).trans (HY4.out))
  have HB5 : Aside0 (Below w.heap.size w W5) := Aside0.mk (by
    rw [← hW]
    repeat (first | with_reducible exact HB4.out | with_reducible apply pw_below_drewN | (refine Below.setCell ?_ HG1.out _)))
  have HZ5 := Aside0.mk hz5
  have HY5 := Aside0.mk hy5
  have HF5 : Aside0 (∀ k, k ≠ g → W5.heap[k]? = W4.heap[k]?) := Aside0.mk (by
    rw [← hW]
    exact fun k hk => (Below.heap_setCell _ ⟨g, 6, none⟩ (.int .i64 (numL l 18 2)) k hk).trans ((Below.heap_setCell _ ⟨g, 5, none⟩ (.int .i64 (numL l 16 2)) k hk).trans (rfl)))
  clear hW k0 k1 k2 k3 k4 k5 k6 k7 k8 k9 k10 k11 k12 z0 z1 z2 z3 z4 z5 z6 z7 z8 z9 z10 z11 z12
  obtain ⟨k0, k1, k2, k3, k4, k5, k6, k7, k8, k9, k10, k11, k12⟩ := c13 hz5
  obtain ⟨z0, z1, z2, z3, z4, z5, z6, z7, z8, z9, z10, z11, z12⟩ := f13 hz5
  clear hz5 hy5
  obtain ⟨A3, hcut3, hC3, hc3⟩ := cut_from (A := some ad) (c := c) (l := l) 24 (l.length - 24) (iz := 24) rfl rfl (by have := HLE.out; omega) rfl HC.out
  have HC3 := Aside0.mk (fun W (h : Below w.heap.size w W) => hC3 W (Kd.C_below HR.out h))
  clear hC3 hc3
  go_upto_region 19 with fail
  have HBQ := Aside0.mk (fun W (h : Below (g + 1) W5 W) => (HB5.out.trans (h.mono (by have := HG1.out; omega)) : Below w.heap.size w W))
  have HQc := Aside0.mk (Below.refl (g + 1) W5)
  have HGZ := Aside0.mk (show g + 1 ≤ W5.heap.size from blk_lt HZ5.out)
  have HSZ := Aside0.mk (fun W (h : Below (g + 1) W5 W) => Nat.le_trans HGZ.out h.size)
  have n1_ := Aside0.mk (below_drew1 HQc.out)
  clear HQc
  have HQc := n1_
  clear n1_
  refine start_ (n := 15) (S := fun w' => True) (ds := []) #[false, false, false, false, false, false, false, false, false, false, false, false, false, false, false] (by kernel_rfl) rfl rfl trivial (fun hHeld => ?_)
  refine pure_ (i := 0) (N := some 108) (v := ?_) (a' := ?_) #[true, false, false, false, false, false, false, false, false, false, false, false, false, false, false] rfl rfl (by kernel_rfl) (fun _ _ _ h => h) (Or.inl ⟨by rfl, ?_⟩) ?_ ?_
  rotate_left
  · intro w'
    go_simp
    with_reducible rfl
  rotate_left
  · simp only [Act.put, List.setIfInBounds_toArray, List.set_cons_zero, List.set_cons_succ, i64_w, i32_w]
    rfl
  refine pure_ (i := 2) (N := some 110) (v := ?_) (a' := ?_) #[true, false, true, false, false, false, false, false, false, false, false, false, false, false, false] rfl rfl (by kernel_rfl) (fun _ _ _ h => h) (Or.inl ⟨by rfl, ?_⟩) ?_ ?_
  rotate_left
  · intro w'
    go_simp
    with_reducible rfl
  rotate_left
  · simp only [Act.put, List.setIfInBounds_toArray, List.set_cons_zero, List.set_cons_succ, i64_w, i32_w]
    rfl
  refine pure_ (i := 6) (N := some 114) (v := ?_) (a' := ?_) #[true, false, true, false, false, false, true, false, false, false, false, false, false, false, false] rfl rfl (by kernel_rfl) (fun _ _ _ h => h) (Or.inl ⟨by rfl, ?_⟩) ?_ ?_
  rotate_left
  · intro w'
    go_simp
    with_reducible rfl
  rotate_left
  · simp only [Act.put, List.setIfInBounds_toArray, List.set_cons_zero, List.set_cons_succ, i64_w, i32_w]
    rfl
  refine pure_ (i := 7) (N := some 115) (v := ?_) (a' := ?_) #[true, false, true, false, false, false, true, true, false, false, false, false, false, false, false] rfl rfl (by kernel_rfl) (fun _ _ _ h => h) (Or.inl ⟨by rfl, ?_⟩) ?_ ?_
  rotate_left
  · intro w'
    go_simp
    with_reducible rfl
  rotate_left
  · simp only [Act.put, List.setIfInBounds_toArray, List.set_cons_zero, List.set_cons_succ, i64_w, i32_w]
    rfl
  refine join_ (σ := Value) 6 #[true, true, true, true, true, true, true, true, false, true, false, false, false, false, false] (fun s => [(109, .int .i64 (numL l 20 2)), (111, .int .i64 (numL l 22 2)), (112, .bool (numL l 22 2 == 0)), (117, .pointer (some ⟨g, 8, none⟩)), (113, s)]) (fun s w' => RB (g + 1) w' s [] ∧ Below (g + 1) W5 w') ?_ ?_
  rotate_left
  · intro hCont
    refine two_ (i := 1) (j := 5) (Ni := some 109) (Nj := some 113) #[true, true, true, false, false, false, true, true, false, false, false, false, false, false, false] #[true, false, true, false, false, true, true, true, false, false, false, false, false, false, false] rfl rfl rfl rfl (by kernel_rfl) (by decide) (by decide) (fun K hK => ?_) (fun K hK => ?_)
    · skip
      refine goes_ Try.func32 (by kernel_rfl) rfl #[.slice (some ad) l.length c, .int .i64 20, .int .i64 2] (by rfl) rfl rfl (by simp only [List.map_toArray, List.map_cons, List.map_nil]; rfl) ?_
      with_reducible refine (G20.out _ (HBQ.out _ HQc.out)).mono ?_
      rintro e w3 ⟨rfl, ⟨⟨nq, rfl⟩⟩⟩
      refine ⟨_, rfl, ?_⟩
      have n1_ := Aside0.mk (bd HQc.out nq)
      clear HQc
      have HQc := n1_
      clear n1_
      refine hK.out _ _ trivial (fun hHeld => ?_)
      clear hK K
      refine norm_ (a' := ?_) ?_ ?_
      rotate_left
      · show Act.put _ (some 109) _ = _
        simp only [Act.put, List.setIfInBounds_toArray, List.set_cons_zero, List.set_cons_succ, i64_w, i32_w]
        rfl
      refine pure_ (i := 9) (N := some 117) (v := ?_) (a' := ?_) #[true, true, true, false, false, false, true, true, false, true, false, false, false, false, false] rfl rfl (by kernel_rfl) (fun _ _ _ h => h) (Or.inl ⟨by rfl, ?_⟩) ?_ ?_
      rotate_left
      · intro w'
        go_simp
        with_reducible rfl
      rotate_left
      · simp only [Act.put, List.setIfInBounds_toArray, List.set_cons_zero, List.set_cons_succ, i64_w, i32_w]
        rfl
      refine two_ (i := 3) (j := 5) (Ni := some 111) (Nj := some 113) #[true, true, true, true, false, false, true, true, false, true, false, false, false, false, false] #[true, true, true, false, false, true, true, true, false, true, false, false, false, false, false] rfl rfl rfl rfl (by kernel_rfl) (by decide) (by decide) (fun K hK => ?_) (fun K hK => ?_)
      · skip
        refine goes_ Try.func32 (by kernel_rfl) rfl #[.slice (some ad) l.length c, .int .i64 22, .int .i64 2] (by rfl) rfl rfl (by simp only [List.map_toArray, List.map_cons, List.map_nil]; rfl) ?_
        with_reducible refine (G22.out _ (HBQ.out _ HQc.out)).mono ?_
        rintro e w3 ⟨rfl, ⟨⟨nq, rfl⟩⟩⟩
        refine ⟨_, rfl, ?_⟩
        have n1_ := Aside0.mk (bd HQc.out nq)
        clear HQc
        have HQc := n1_
        clear n1_
        refine hK.out _ _ trivial (fun hHeld => ?_)
        clear hK K
        refine norm_ (a' := ?_) ?_ ?_
        rotate_left
        · show Act.put _ (some 111) _ = _
          simp only [Act.put, List.setIfInBounds_toArray, List.set_cons_zero, List.set_cons_succ, i64_w, i32_w]
          rfl
        refine pure_ (i := 4) (N := some 112) (v := ?_) (a' := ?_) #[true, true, true, true, true, false, true, true, false, true, false, false, false, false, false] rfl rfl (by kernel_rfl) (fun _ _ _ h => h) (Or.inl ⟨by rfl, ?_⟩) ?_ ?_
        rotate_left
        · intro w'
          go_simp
          with_reducible rfl
        rotate_left
        · simp only [Act.put, List.setIfInBounds_toArray, List.set_cons_zero, List.set_cons_succ, i64_w, i32_w]
          rfl
        refine one_ (i := 5) (N := some 113) #[true, true, true, true, true, true, true, true, false, true, false, false, false, false, false] rfl rfl (by kernel_rfl) (by decide) (fun K hK => ?_)
        refine Kd.R_lit_step (Kd.int .u8) (w0 := W5) (g + 1) 5 ?hg (N := 113) ?hd (xs := ([] : List Int)) (inner := []) (ok := fun _ => True) (okp := fun _ => True) ?hr ?hp (fun _ hk => hk) trivial HQc.out (HSZ.out _ HQc.out) (by simp) ?_; (case hd => rfl); (case hg => rfl); (case hr => first | (go_simp; done) | (go_simp; rfl)); (case hp => exact (Reps.none _ _))
        intro v1 w5 ho hb hg hat
        clear HQc
        have HQc := Aside0.mk hb
        have HO1 := Aside0.mk ho
        have HO1n := Aside0.mk hat
        clear ho hb hg hat
        refine hK.out _ _ trivial (fun hHeld => ?_)
        clear hK K
        refine norm_ (a' := ?_) ?_ ?_
        rotate_left
        · show Act.put _ (some 113) _ = _
          simp only [Act.put, List.setIfInBounds_toArray, List.set_cons_zero, List.set_cons_succ, i64_w, i32_w]
          rfl
        exact norm_ (by simp only [putAll, Act.put, List.setIfInBounds_toArray, List.set_cons_zero, List.set_cons_succ]) (hCont v1 _ ⟨HO1.out, HQc.out⟩)
      · skip
        refine Kd.R_lit_step (Kd.int .u8) (w0 := W5) (g + 1) 5 ?hg (N := 113) ?hd (xs := ([] : List Int)) (inner := []) (ok := fun _ => True) (okp := fun _ => True) ?hr ?hp (fun _ hk => hk) trivial HQc.out (HSZ.out _ HQc.out) (by simp) ?_; (case hd => rfl); (case hg => rfl); (case hr => first | (go_simp; done) | (go_simp; rfl)); (case hp => exact (Reps.none _ _))
        intro v1 w5 ho hb hg hat
        clear HQc
        have HQc := Aside0.mk hb
        have HO1 := Aside0.mk ho
        have HO1n := Aside0.mk hat
        clear ho hb hg hat
        refine hK.out _ _ trivial (fun hHeld => ?_)
        clear hK K
        refine norm_ (a' := ?_) ?_ ?_
        rotate_left
        · show Act.put _ (some 113) _ = _
          simp only [Act.put, List.setIfInBounds_toArray, List.set_cons_zero, List.set_cons_succ, i64_w, i32_w]
          rfl
        refine one_ (i := 3) (N := some 111) #[true, true, true, true, false, true, true, true, false, true, false, false, false, false, false] rfl rfl (by kernel_rfl) (by decide) (fun K hK => ?_)
        refine goes_ Try.func32 (by kernel_rfl) rfl #[.slice (some ad) l.length c, .int .i64 22, .int .i64 2] (by rfl) rfl rfl (by simp only [List.map_toArray, List.map_cons, List.map_nil]; rfl) ?_
        with_reducible refine (G22.out _ (HBQ.out _ HQc.out)).mono ?_
        rintro e w3 ⟨rfl, ⟨⟨nq, rfl⟩⟩⟩
        refine ⟨_, rfl, ?_⟩
        have n1_ := Aside0.mk (bd HQc.out nq)
        clear HQc
        have HQc := n1_
        clear n1_
        have n1_ := Aside0.mk (Kd.R_drewN HO1.out nq)
        clear HO1
        have HO1 := n1_
        clear n1_
        refine hK.out _ _ trivial (fun hHeld => ?_)
        clear hK K
        refine norm_ (a' := ?_) ?_ ?_
        rotate_left
        · show Act.put _ (some 111) _ = _
          simp only [Act.put, List.setIfInBounds_toArray, List.set_cons_zero, List.set_cons_succ, i64_w, i32_w]
          rfl
        refine pure_ (i := 4) (N := some 112) (v := ?_) (a' := ?_) #[true, true, true, true, true, true, true, true, false, true, false, false, false, false, false] rfl rfl (by kernel_rfl) (fun _ _ _ h => h) (Or.inl ⟨by rfl, ?_⟩) ?_ ?_
        rotate_left
        · intro w'
          go_simp
          with_reducible rfl
        rotate_left
        · simp only [Act.put, List.setIfInBounds_toArray, List.set_cons_zero, List.set_cons_succ, i64_w, i32_w]
          rfl
        exact norm_ (by simp only [putAll, Act.put, List.setIfInBounds_toArray, List.set_cons_zero, List.set_cons_succ]) (hCont v1 _ ⟨HO1.out, HQc.out⟩)
    · skip
      refine Kd.R_lit_step (Kd.int .u8) (w0 := W5) (g + 1) 5 ?hg (N := 113) ?hd (xs := ([] : List Int)) (inner := []) (ok := fun _ => True) (okp := fun _ => True) ?hr ?hp (fun _ hk => hk) trivial HQc.out (HSZ.out _ HQc.out) (by simp) ?_; (case hd => rfl); (case hg => rfl); (case hr => first | (go_simp; done) | (go_simp; rfl)); (case hp => exact (Reps.none _ _))
      intro v1 w5 ho hb hg hat
      clear HQc
      have HQc := Aside0.mk hb
      have HO1 := Aside0.mk ho
      have HO1n := Aside0.mk hat
      clear ho hb hg hat
      refine hK.out _ _ trivial (fun hHeld => ?_)
      clear hK K
      refine norm_ (a' := ?_) ?_ ?_
      rotate_left
      · show Act.put _ (some 113) _ = _
        simp only [Act.put, List.setIfInBounds_toArray, List.set_cons_zero, List.set_cons_succ, i64_w, i32_w]
        rfl
      refine one_ (i := 1) (N := some 109) #[true, true, true, false, false, true, true, true, false, false, false, false, false, false, false] rfl rfl (by kernel_rfl) (by decide) (fun K hK => ?_)
      refine goes_ Try.func32 (by kernel_rfl) rfl #[.slice (some ad) l.length c, .int .i64 20, .int .i64 2] (by rfl) rfl rfl (by simp only [List.map_toArray, List.map_cons, List.map_nil]; rfl) ?_
      with_reducible refine (G20.out _ (HBQ.out _ HQc.out)).mono ?_
      rintro e w3 ⟨rfl, ⟨⟨nq, rfl⟩⟩⟩
      refine ⟨_, rfl, ?_⟩
      have n1_ := Aside0.mk (bd HQc.out nq)
      clear HQc
      have HQc := n1_
      clear n1_
      have n1_ := Aside0.mk (Kd.R_drewN HO1.out nq)
      clear HO1
      have HO1 := n1_
      clear n1_
      refine hK.out _ _ trivial (fun hHeld => ?_)
      clear hK K
      refine norm_ (a' := ?_) ?_ ?_
      rotate_left
      · show Act.put _ (some 109) _ = _
        simp only [Act.put, List.setIfInBounds_toArray, List.set_cons_zero, List.set_cons_succ, i64_w, i32_w]
        rfl
      refine pure_ (i := 9) (N := some 117) (v := ?_) (a' := ?_) #[true, true, true, false, false, true, true, true, false, true, false, false, false, false, false] rfl rfl (by kernel_rfl) (fun _ _ _ h => h) (Or.inl ⟨by rfl, ?_⟩) ?_ ?_
      rotate_left
      · intro w'
        go_simp
        with_reducible rfl
      rotate_left
      · simp only [Act.put, List.setIfInBounds_toArray, List.set_cons_zero, List.set_cons_succ, i64_w, i32_w]
        rfl
      refine one_ (i := 3) (N := some 111) #[true, true, true, true, false, true, true, true, false, true, false, false, false, false, false] rfl rfl (by kernel_rfl) (by decide) (fun K hK => ?_)
      refine goes_ Try.func32 (by kernel_rfl) rfl #[.slice (some ad) l.length c, .int .i64 22, .int .i64 2] (by rfl) rfl rfl (by simp only [List.map_toArray, List.map_cons, List.map_nil]; rfl) ?_
      with_reducible refine (G22.out _ (HBQ.out _ HQc.out)).mono ?_
      rintro e w3 ⟨rfl, ⟨⟨nq, rfl⟩⟩⟩
      refine ⟨_, rfl, ?_⟩
      have n1_ := Aside0.mk (bd HQc.out nq)
      clear HQc
      have HQc := n1_
      clear n1_
      have n1_ := Aside0.mk (Kd.R_drewN HO1.out nq)
      clear HO1
      have HO1 := n1_
      clear n1_
      refine hK.out _ _ trivial (fun hHeld => ?_)
      clear hK K
      refine norm_ (a' := ?_) ?_ ?_
      rotate_left
      · show Act.put _ (some 111) _ = _
        simp only [Act.put, List.setIfInBounds_toArray, List.set_cons_zero, List.set_cons_succ, i64_w, i32_w]
        rfl
      refine pure_ (i := 4) (N := some 112) (v := ?_) (a' := ?_) #[true, true, true, true, true, true, true, true, false, true, false, false, false, false, false] rfl rfl (by kernel_rfl) (fun _ _ _ h => h) (Or.inl ⟨by rfl, ?_⟩) ?_ ?_
      rotate_left
      · intro w'
        go_simp
        with_reducible rfl
      rotate_left
      · simp only [Act.put, List.setIfInBounds_toArray, List.set_cons_zero, List.set_cons_succ, i64_w, i32_w]
        rfl
      exact norm_ (by simp only [putAll, Act.put, List.setIfInBounds_toArray, List.set_cons_zero, List.set_cons_succ]) (hCont v1 _ ⟨HO1.out, HQc.out⟩)
  rintro v1 w4 ⟨ho1, hq1⟩
  clear HQc
  have HQc := Aside0.mk hq1
  have HO1 := Aside0.mk ho1
  clear hq1 ho1
  have hHeld : True := trivial
  refine norm_ (a' := ?_) ?_ ?_
  rotate_left
  · simp only [putAll, Act.put, List.setIfInBounds_toArray, List.set_cons_zero, List.set_cons_succ]
    rfl
  refine one_ (i := 8) (N := some 116) #[true, true, true, true, true, true, true, true, true, true, false, false, false, false, false] rfl rfl (by kernel_rfl) (by decide) (fun K hK => ?_)
  refine Kd.R_append_rows_step (Kd.int .u8) (w0 := W5) (g + 1) (by rfl) (.tmp 113) (.tmp 115) 23 5 (.int .u8 0) 1 rfl Try.underlying23 info5 rfl (by decide) (by omega) v1 [] (l.drop 24) A3 (l.length - 24) (c - 24) (fun _ => True) (fun _ => False) rfl rfl HO1.out (HC3.out _ (HBQ.out _ HQc.out)) (fun _ _ h => h) (fun _ h => h.elim) (fun _ _ => trivial) HQc.out (HSZ.out _ HQc.out) (by have := HL.out; have := HLE.out; simp only [List.length_nil]; omega) ?_
  intro v2 w6 ho hb hg hat
  rw [List.nil_append] at ho
  obtain ⟨Av2, cv2, ev⟩ := Kd.R_slice ho
  rw [C_len (HC3.out w (Below.refl _ _))] at ev
  subst ev
  clear HQc
  have HQc := Aside0.mk hb
  have HO2 := Aside0.mk ho
  have HO2n := Aside0.mk hat
  clear ho hb hg hat
  refine hK.out _ _ trivial (fun hHeld => ?_)
  clear hK K
  refine norm_ (a' := ?_) ?_ ?_
  rotate_left
  · show Act.put _ (some 116) _ = _
    simp only [Act.put, List.setIfInBounds_toArray, List.set_cons_zero, List.set_cons_succ, i64_w, i32_w]
    rfl
  refine one_ (i := 10) (N := none) #[true, true, true, true, true, true, true, true, true, true, true, false, false, false, false] rfl rfl (by kernel_rfl) (by decide) (fun K hK => ?_)
  have hz6 := (HQc.out.block g (by omega)).trans HZ5.out
  clear k0 k1 k2 k3 k4 k5 k6 k7 k8 k9 k10 k11 k12 z0 z1 z2 z3 z4 z5 z6 z7 z8 z9 z10 z11 z12
  obtain ⟨k0, k1, k2, k3, k4, k5, k6, k7, k8, k9, k10, k11, k12⟩ := c13 hz6
  obtain ⟨z0, z1, z2, z3, z4, z5, z6, z7, z8, z9, z10, z11, z12⟩ := f13 hz6
  refine skip_ (w1 := ?_) (by rfl) rfl ?_ ?_
  rotate_left
  · go_simp
    rfl
  refine hK.out _ _ trivial (fun hHeld => ?_)
  clear hK K
  refine pure_ (i := 11) (N := some 118) (v := ?_) (a' := ?_) #[true, true, true, true, true, true, true, true, true, true, true, true, false, false, false] rfl rfl (by kernel_rfl) (fun _ _ _ h => h) (Or.inl ⟨by rfl, ?_⟩) ?_ ?_
  rotate_left
  · intro w'
    go_simp
    with_reducible rfl
  rotate_left
  · simp only [Act.put, List.setIfInBounds_toArray, List.set_cons_zero, List.set_cons_succ, i64_w, i32_w]
    rfl
  refine one_ (i := 12) (N := none) #[true, true, true, true, true, true, true, true, true, true, true, true, true, false, false] rfl rfl (by kernel_rfl) (by decide) (fun K hK => ?_)
  refine skip_ (w1 := ?_) (by rfl) rfl ?_ ?_
  rotate_left
  · go_simp
    rfl
  refine hK.out _ _ trivial (fun hHeld => ?_)
  clear hK K
  refine pure_ (i := 13) (N := some 119) (v := ?_) (a' := ?_) #[true, true, true, true, true, true, true, true, true, true, true, true, true, true, false] rfl rfl (by kernel_rfl) (fun _ _ _ h => h) (Or.inl ⟨by rfl, ?_⟩) ?_ ?_
  rotate_left
  · intro w'
    go_simp
    with_reducible rfl
  rotate_left
  · simp only [Act.put, List.setIfInBounds_toArray, List.set_cons_zero, List.set_cons_succ, i64_w, i32_w]
    rfl
  refine one_ (i := 14) (N := none) #[true, true, true, true, true, true, true, true, true, true, true, true, true, true, true] rfl rfl (by kernel_rfl) (by decide) (fun K hK => ?_)
  refine skip_ (w1 := ?_) (by rfl) rfl ?_ ?_
  rotate_left
  · go_simp
    rfl
  refine hK.out _ _ trivial (fun hHeld => ?_)
  clear hK K
  refine done_ (by kernel_rfl) ?_
  have HZ6 := Aside0.mk hz6
  have HY6 := Aside0.mk ((HQc.out.block w.heap.size (by have := HG1.out; omega)).trans HY5.out)
  have HB6 := Aside0.mk (HBQ.out _ HQc.out)
  clear hHeld hz6 hcut3 HQc
  generalize hW : World.setCell _ _ _ = W7
  have hz7 : W7.heap[g]? = some (.cells #[.int .i64 x0, .int .i64 x1, .int .i64 x12, .int .i64 (numL l 4 4), .int .i64 (numL l 8 4), .int .i64 (numL l 16 2), .int .i64 (numL l 18 2), .int .i64 0, .int .i64 (numL l 20 2), .bool (numL l 22 2 == 0), .int .i64 0, .slice none 0 0, .slice Av2 (l.length - 24) cv2] 26 (0, 0)) := by
    rw [← hW]
    have h := (set_blk ((set_blk ((set_blk (HZ6.out) 8 (.int .i64 (numL l 20 2)))) 9 (.bool (numL l 22 2 == 0)))) 12 (.slice Av2 (l.length - 24) cv2))
    simp only [List.setIfInBounds_toArray, List.set_cons_zero, List.set_cons_succ] at h
    exact h
  have hy7 : W7.heap[w.heap.size]? = some (.cells zero13 26 (0, 0)) := by
    rw [← hW]
    exact (Below.heap_setCell _ ⟨g, 12, none⟩ (.slice Av2 (l.length - 24) cv2) w.heap.size (Nat.ne_of_lt HG2.out)).trans ((Below.heap_setCell _ ⟨g, 9, none⟩ (.bool (numL l 22 2 == 0)) w.heap.size (Nat.ne_of_lt HG2.out)).trans ((Below.heap_setCell _ ⟨g, 8, none⟩ (.int .i64 (numL l 20 2)) w.heap.size (Nat.ne_of_lt HG2.out)).trans (HY6.out)))
  have HB7 : Aside0 (Below w.heap.size w W7) := Aside0.mk (by
    rw [← hW]
    repeat (first | with_reducible exact HB6.out | with_reducible apply pw_below_drewN | (refine Below.setCell ?_ HG1.out _)))
  have HZ7 := Aside0.mk hz7
  have HY7 := Aside0.mk hy7
  have HF7 : Aside0 (∀ k, k ≠ g → W7.heap[k]? = w6.heap[k]?) := Aside0.mk (by
    rw [← hW]
    exact fun k hk => (Below.heap_setCell _ ⟨g, 12, none⟩ (.slice Av2 (l.length - 24) cv2) k hk).trans ((Below.heap_setCell _ ⟨g, 9, none⟩ (.bool (numL l 22 2 == 0)) k hk).trans ((Below.heap_setCell _ ⟨g, 8, none⟩ (.int .i64 (numL l 20 2)) k hk).trans (rfl))))
  clear hW k0 k1 k2 k3 k4 k5 k6 k7 k8 k9 k10 k11 k12 z0 z1 z2 z3 z4 z5 z6 z7 z8 z9 z10 z11 z12
  obtain ⟨k0, k1, k2, k3, k4, k5, k6, k7, k8, k9, k10, k11, k12⟩ := c13 hz7
  obtain ⟨z0, z1, z2, z3, z4, z5, z6, z7, z8, z9, z10, z11, z12⟩ := f13 hz7
  clear hz7 hy7
  clear k0 k1 k2 k3 k4 k5 k6 k7 k8 k9 k10 k11 k12 z0 z1 z2 z3 z4 z5 z6 z7 z8 z9 z10 z11 z12
  have hz7 := HZ7.out
  have hy7 := HY7.out
  obtain ⟨k0, k1, k2, k3, k4, k5, k6, k7, k8, k9, k10, k11, k12⟩ := c13 hz7
  obtain ⟨y0, y1, y2, y3, y4, y5, y6, y7, y8, y9, y10, y11, y12⟩ := c13 hy7
  obtain ⟨u0, u1, u2, u3, u4, u5, u6, u7, u8, u9, u10, u11, u12⟩ := f13 hy7
  clear hz7 hy7
  go_wp2
  (try simp only [Exit.inBlock, Exit.then])
  refine bodyPost_ret (v := .tuple #[.agg #[.int .i64 x0, .int .i64 x1, .int .i64 x12, .int .i64 (numL l 4 4), .int .i64 (numL l 8 4), .int .i64 (numL l 16 2), .int .i64 (numL l 18 2), .int .i64 0, .int .i64 (numL l 20 2), .bool (numL l 22 2 == 0), .int .i64 0, .slice none 0 0, .slice Av2 (l.length - 24) cv2], .int .i64 0]) ?_ rfl (parsed_ok (v1 := .slice none 0 0) (v2 := .slice Av2 (l.length - 24) cv2) HPE.out (Kd.R_nil _ _ _ _ _) (RB_move HO2.out (by have := HG1.out; omega) ?_) ?_ ?_)
  · rw [results_cell_tmp rfl]
    go_simp
  · intro k hk _
    have h1 := HG2.out
    exact (lay13_far (by omega) _ _ _ _ _ _ _ _ _ _ _ _ _).trans (HF7.out k (by omega))
  · intro k hk; simp [Value.ownBlock] at hk
  · exact lay13_below HB7.out (Nat.le_refl _) _ _ _ _ _ _ _ _ _ _ _ _ _
end Go.Proofs.Ytbjhmifhmojaoaa.WB
