/- Lemmas and contracts that the row YtgkmbefamcnifaaLawTopQuiet goes by (part 8; joined by pack.py out of this session's texts, and of words that the kit's print lays). -/
import Derived.Test.YtgkmbefamcnifaaKT7
import Derived.Laws.ResultCell
namespace Go.Proofs.Ytgkmbefamcnifaa.WB
set_option linter.unusedVariables false
set_option linter.unusedSimpArgs false
open Go.RowKit Go.Proofs.Ytgkmbefamcnifaa.Hp Go.Proofs.Ytgkmbefamcnifaa.SB Go.Proofs.YtgkmbefamcnifaaW.PrintWords Go.Proofs.YtgkmbefamcnifaaW.PrintLast Go.Proofs.YtgkmbefamcnifaaW.PrintMore
abbrev zero13 : Array Value := #[.int .i64 0, .int .i64 0, .int .i64 0, .int .i64 0, .int .i64 0, .int .i64 0, .int .i64 0, .int .i64 0, .int .i64 0, .bool false, .int .i64 0, .slice none 0 0, .slice none 0 0]
theorem parsed_err {w w' : World} {l : List Int} {x : Int} (h : parseL l = (zeroP, x)) (hb : Below w.heap.size w w') : Parsed w l (.returned (.tuple #[.agg zero13, .int .i64 x])) w' :=
  ⟨.slice none 0 0, .slice none 0 0, by rw [h]; rfl, by rw [h]; exact Kd.R_nil _ _ _ _ _, by rw [h]; exact Kd.R_nil _ _ _ _ _, by intro k hk; simp [Value.ownBlock] at hk, hb⟩
set_option maxRecDepth 100000 in
theorem parse_err {A : Option Addr} {c : Nat} {l : List Int} {w : World} (hr : Kd.C (Kd.int .u8) w A l.length l) (hc : l.length ≤ c) (hl : l.length ≤ 100000) (hb : Bytes l) (he : headE l ≠ 0) :
    Calls Try.prog 15 #[.slice A l.length c] w (Parsed w l) := by
  have HR := Aside0.mk hr
  have HC := Aside0.mk hc
  have HL := Aside0.mk hl
  have HY := Aside0.mk hb
  have HBW := fun o => Kd.C_alloc hr o
  have hbe : (headE l == 0) = false := beq_eq_false_iff_ne.mpr he
  have hbn : (headE l != 0) = true := bne_iff_ne.mpr he
  have HE := Aside0.mk (show parseL l = (zeroP, headE l) from if_pos he)
  clear he hr hc hl hb
  go_enter Try.func15, Try.ntmps15
  go_wp2_with (first
    | (go_at_call 47; refine (head_calls (HBW _) rfl HC.out HY.out HL.out).mono ?_; rintro e w1 ⟨rfl, ⟨⟨nd, rfl⟩⟩⟩))
  (try simp only [Exit.inBlock, Exit.then])
  refine bodyPost_ret (v := .tuple #[.agg zero13, .int .i64 (headE l)]) ?_ rfl (parsed_err HE.out ?_)
  · rw [results_cell_tmp rfl]
    go_simp
  · have h1 : Below w.heap.size w ((w.alloc (.cells zero13 39)).drewN nd) := bd ((Below.refl _ w).alloc (Nat.le_refl _) _) _
    exact lay13_below h1 (Nat.le_refl _) _ _ _ _ _ _ _ _ _ _ _ _ _
set_option maxHeartbeats 4000000 in
set_option maxRecDepth 100000 in
theorem parse_fault {c : Nat} {A : Option Addr} {l : List Int} {w : World} (hr : Kd.C (Kd.int .u8) w A l.length l) (hc : l.length ≤ c) (hl : l.length ≤ 100000) (hb : Bytes l) (he : headE l = 0) (h24 : 44 ≤ l.length) (hk : l.getD 0 0 = 3) :
    Calls Try.prog 15 #[.slice A l.length c] w (Parsed w l) := by
  have HR := Aside0.mk hr
  have HC := Aside0.mk hc
  have HL := Aside0.mk hl
  have HY := Aside0.mk hb
  have HBW := fun o => Kd.C_alloc hr o
  have hbe : (headE l == 0) = true := beq_iff_eq.mpr he
  have hbn : (headE l != 0) = false := by rw [he]; rfl
  have HE := Aside0.mk he
  have HKD := Aside0.mk hk
  have H24 := Aside0.mk (show 24 ≤ l.length by omega)
  have HLE := Aside0.mk h24
  obtain ⟨ad, rfl, hcell⟩ := cells_of hr (by omega)
  have c0 := hcell 0 (by omega)
  rw [Addr.add_zero'] at c0
  have b0 := getD_byte hb 0
  obtain ⟨x0, e0⟩ : ∃ x, l.getD 0 0 = x := ⟨_, rfl⟩
  rw [e0] at c0 b0
  have w0 : wrap64 x0 = x0 := wid (by omega) (by omega)
  have i0 : (0 : Int) < (l.length : Int) := by omega
  have c1 : w.cell? ⟨ad.block, ad.off + 1, none⟩ = _ := hcell 1 (by omega)
  have b1 := getD_byte hb 1
  obtain ⟨x1, e1⟩ : ∃ x, l.getD 1 0 = x := ⟨_, rfl⟩
  rw [e1] at c1 b1
  have w1 : wrap64 x1 = x1 := wid (by omega) (by omega)
  have i1 : (1 : Int) < (l.length : Int) := by omega
  have c12 : w.cell? ⟨ad.block, ad.off + 12, none⟩ = _ := hcell 12 (by omega)
  have b12 := getD_byte hb 12
  obtain ⟨x12, e12⟩ : ∃ x, l.getD 12 0 = x := ⟨_, rfl⟩
  rw [e12] at c12 b12
  have w12 : wrap64 x12 = x12 := wid (by omega) (by omega)
  have i12 : (12 : Int) < (l.length : Int) := by omega
  have c16 : w.cell? ⟨ad.block, ad.off + 16, none⟩ = _ := hcell 16 (by omega)
  have b16 := getD_byte hb 16
  obtain ⟨x16, e16⟩ : ∃ x, l.getD 16 0 = x := ⟨_, rfl⟩
  rw [e16] at c16 b16
  have w16 : wrap64 x16 = x16 := wid (by omega) (by omega)
  have i16 : (16 : Int) < (l.length : Int) := by omega
  have c17 : w.cell? ⟨ad.block, ad.off + 17, none⟩ = _ := hcell 17 (by omega)
  have b17 := getD_byte hb 17
  obtain ⟨x17, e17⟩ : ∃ x, l.getD 17 0 = x := ⟨_, rfl⟩
  rw [e17] at c17 b17
  have w17 : wrap64 x17 = x17 := wid (by omega) (by omega)
  have i17 : (17 : Int) < (l.length : Int) := by omega
  have i0n : 0 < l.length := by omega
  have HC0 := Aside0.mk (show ∀ W, Below w.heap.size w W → W.cell? ad = some (.int .u8 x0) from fun W h => (h.cell (World.block_lt_of_cell? w _ c0)).trans c0)
  have HC1 := Aside0.mk (show ∀ W, Below w.heap.size w W → W.cell? ⟨ad.block, ad.off + 1, none⟩ = some (.int .u8 x1) from fun W h => (h.cell (World.block_lt_of_cell? w _ c1)).trans c1)
  have HC12 := Aside0.mk (show ∀ W, Below w.heap.size w W → W.cell? ⟨ad.block, ad.off + 12, none⟩ = some (.int .u8 x12) from fun W h => (h.cell (World.block_lt_of_cell? w _ c12)).trans c12)
  have HC16 := Aside0.mk (show ∀ W, Below w.heap.size w W → W.cell? ⟨ad.block, ad.off + 16, none⟩ = some (.int .u8 x16) from fun W h => (h.cell (World.block_lt_of_cell? w _ c16)).trans c16)
  have HC17 := Aside0.mk (show ∀ W, Below w.heap.size w W → W.cell? ⟨ad.block, ad.off + 17, none⟩ = some (.int .u8 x17) from fun W h => (h.cell (World.block_lt_of_cell? w _ c17)).trans c17)
  have EE := Aside0.mk (And.intro e0 (And.intro e1 (And.intro e12 (And.intro e16 (And.intro e17 trivial)))))
  clear hcell c0 c1 c12 c16 c17 e0 e1 e12 e16 e17
  rw [EE.out.1] at hk
  have q3 : (x0 == 3) = true := by rw [hk]; rfl
  have q2 : (x0 == 2) = false := by rw [hk]; rfl
  clear he hr hc hl hb h24 hk
  go_enter Try.func15, Try.ntmps15
  go_upto_region 4 with (first
    | (go_at_call 47; refine (head_calls (HBW _) rfl HC.out HY.out HL.out).mono ?_; rintro e w1 ⟨rfl, ⟨⟨nd, rfl⟩⟩⟩))
  have HBR := Aside0.mk (bd ((Below.refl w.heap.size w).alloc (Nat.le_refl _) (.cells zero13 39)) nd)
  have HK1 := Aside0.mk (show (((w.alloc (.cells zero13 39)).drewN nd).heap[w.heap.size]? = some (.cells zero13 39 (0, 0))) from new_blk w _)
  have HR1 := Aside0.mk (Kd.C_drewN (HBW (.cells zero13 39)) nd)
  have HG1 := Aside0.mk (show w.heap.size ≤ ((w.alloc (.cells zero13 39)).drewN nd).heap.size from HBR.out.size)
  have HG2 := Aside0.mk (show w.heap.size < ((w.alloc (.cells zero13 39)).drewN nd).heap.size from blk_lt HK1.out)
  change Code.wp _ _ _ _ ((w.alloc (.cells zero13 39)).drewN nd)
  generalize ((w.alloc (.cells zero13 39)).drewN nd) = W1 at HBR HK1 HR1 HG1 HG2 ⊢
  have HBS := Aside0.mk (Below.refl W1.heap.size W1)
  clear HBW nd
  refine start_ (n := 19) (S := fun w' => w'.cell? ad = some (.int .u8 x0) ∧ w'.cell? ⟨ad.block, ad.off + 1, none⟩ = some (.int .u8 x1) ∧ w'.cell? ⟨ad.block, ad.off + 12, none⟩ = some (.int .u8 x12)) (ds := []) #[fF,fF,fF,fF,fF,fF,fF,fF,fF,fF,fF,fF,fF,fF,fF,fF,fF,fF,fF] (by kernel_rfl) rfl rfl ⟨(HC0.out _ (by repeat (first | (with_reducible first | exact HBR.out | apply below_alloc | apply pw_below_drewN | apply below_drew1) | exact HBR.out))), (HC1.out _ (by repeat (first | (with_reducible first | exact HBR.out | apply below_alloc | apply pw_below_drewN | apply below_drew1) | exact HBR.out))), (HC12.out _ (by repeat (first | (with_reducible first | exact HBR.out | apply below_alloc | apply pw_below_drewN | apply below_drew1) | exact HBR.out)))⟩ (fun hHeld => ?_)
  refine pure_ (i := 0) (N := some 13) (v := ?_) (a' := ?_) #[tT,fF,fF,fF,fF,fF,fF,fF,fF,fF,fF,fF,fF,fF,fF,fF,fF,fF,fF] rfl rfl (by kernel_rfl) (fun _ _ _ h => h) (Or.inl ⟨by rfl, ?_⟩) ?_ ?_
  rotate_left; · intro w'; go_simp; with_reducible rfl
  rotate_left; · simp only [Act.put, q_a, q_0, q_s, i64_w, i32_w]; rfl
  refine pure_ (i := 1) (N := some 14) (v := ?_) (a' := ?_) #[tT,tT,fF,fF,fF,fF,fF,fF,fF,fF,fF,fF,fF,fF,fF,fF,fF,fF,fF] rfl rfl (by kernel_rfl) (fun _ _ _ h => h) (Or.inl ⟨by rfl, ?_⟩) ?_ ?_
  rotate_left; · intro w'; go_simp; with_reducible rfl
  rotate_left; · simp only [Act.put, q_a, q_0, q_s, i64_w, i32_w]; rfl
  refine pure_ (i := 4) (N := some 17) (v := ?_) (a' := ?_) #[tT,tT,fF,fF,tT,fF,fF,fF,fF,fF,fF,fF,fF,fF,fF,fF,fF,fF,fF] rfl rfl (by kernel_rfl) (fun _ _ _ h => h) (Or.inl ⟨by rfl, ?_⟩) ?_ ?_
  rotate_left; · intro w'; go_simp; with_reducible rfl
  rotate_left; · simp only [Act.put, q_a, q_0, q_s, i64_w, i32_w]; rfl
  refine pure_ (i := 5) (N := some 18) (v := ?_) (a' := ?_) #[tT,tT,fF,fF,tT,tT,fF,fF,fF,fF,fF,fF,fF,fF,fF,fF,fF,fF,fF] rfl rfl (by kernel_rfl) (fun _ _ _ h => h) (Or.inl ⟨by rfl, ?_⟩) ?_ ?_
  rotate_left; · intro w'; go_simp; with_reducible rfl
  rotate_left; · simp only [Act.put, q_a, q_0, q_s, i64_w, i32_w]; rfl
  refine pure_ (i := 8) (N := some 21) (v := ?_) (a' := ?_) #[tT,tT,fF,fF,tT,tT,fF,fF,tT,fF,fF,fF,fF,fF,fF,fF,fF,fF,fF] rfl rfl (by kernel_rfl) (fun _ _ _ h => h) (Or.inl ⟨by rfl, ?_⟩) ?_ ?_
  rotate_left; · intro w'; go_simp; with_reducible rfl
  rotate_left; · simp only [Act.put, q_a, q_0, q_s, i64_w, i32_w]; rfl
  refine pure_ (i := 9) (N := some 22) (v := ?_) (a' := ?_) #[tT,tT,fF,fF,tT,tT,fF,fF,tT,tT,fF,fF,fF,fF,fF,fF,fF,fF,fF] rfl rfl (by kernel_rfl) (fun _ _ _ h => h) (Or.inl ⟨by rfl, ?_⟩) ?_ ?_
  rotate_left; · intro w'; go_simp; with_reducible rfl
  rotate_left; · simp only [Act.put, q_a, q_0, q_s, i64_w, i32_w]; rfl
  refine pure_ (i := 12) (N := some 25) (v := ?_) (a' := ?_) #[tT,tT,fF,fF,tT,tT,fF,fF,tT,tT,fF,fF,tT,fF,fF,fF,fF,fF,fF] rfl rfl (by kernel_rfl) (fun _ _ _ h => h) (Or.inl ⟨by rfl, ?_⟩) ?_ ?_
  rotate_left; · intro w'; go_simp; with_reducible rfl
  rotate_left; · simp only [Act.put, q_a, q_0, q_s, i64_w, i32_w]; rfl
  refine pure_ (i := 14) (N := some 27) (v := ?_) (a' := ?_) #[tT,tT,fF,fF,tT,tT,fF,fF,tT,tT,fF,fF,tT,fF,tT,fF,fF,fF,fF] rfl rfl (by kernel_rfl) (fun _ _ _ h => h) (Or.inl ⟨by rfl, ?_⟩) ?_ ?_
  rotate_left; · intro w'; go_simp; with_reducible rfl
  rotate_left; · simp only [Act.put, q_a, q_0, q_s, i64_w, i32_w]; rfl
  refine take_ (i := 2) (N := some 15) (v := ?_) (a' := ?_) #[tT,tT,tT,fF,tT,tT,fF,fF,tT,tT,fF,fF,tT,fF,tT,fF,fF,fF,fF] rfl rfl (by kernel_rfl) (fun _ _ _ h => h) (Or.inl ⟨by rfl, ?_⟩) hHeld ?_ ?_
  rotate_left
  · rintro w' ⟨s0, s1, s2⟩
    go_simp
    with_reducible rfl
  rotate_left; · simp only [Act.put, q_a, q_0, q_s, i64_w, i32_w]; rfl
  refine pure_ (i := 3) (N := some 16) (v := ?_) (a' := ?_) #[tT,tT,tT,tT,tT,tT,fF,fF,tT,tT,fF,fF,tT,fF,tT,fF,fF,fF,fF] rfl rfl (by kernel_rfl) (fun _ _ _ h => h) (Or.inl ⟨by rfl, ?_⟩) ?_ ?_
  rotate_left; · intro w'; go_simp; with_reducible rfl
  rotate_left; · simp only [Act.put, q_a, q_0, q_s, i64_w, i32_w]; rfl
  refine take_ (i := 6) (N := some 19) (v := ?_) (a' := ?_) #[tT,tT,tT,tT,tT,tT,tT,fF,tT,tT,fF,fF,tT,fF,tT,fF,fF,fF,fF] rfl rfl (by kernel_rfl) (fun _ _ _ h => h) (Or.inl ⟨by rfl, ?_⟩) hHeld ?_ ?_
  rotate_left
  · rintro w' ⟨s0, s1, s2⟩
    go_simp
    with_reducible rfl
  rotate_left; · simp only [Act.put, q_a, q_0, q_s, i64_w, i32_w]; rfl
  refine pure_ (i := 7) (N := some 20) (v := ?_) (a' := ?_) #[tT,tT,tT,tT,tT,tT,tT,tT,tT,tT,fF,fF,tT,fF,tT,fF,fF,fF,fF] rfl rfl (by kernel_rfl) (fun _ _ _ h => h) (Or.inl ⟨by rfl, ?_⟩) ?_ ?_
  rotate_left; · intro w'; go_simp; with_reducible rfl
  rotate_left; · simp only [Act.put, q_a, q_0, q_s, i64_w, i32_w]; rfl
  refine take_ (i := 10) (N := some 23) (v := ?_) (a' := ?_) #[tT,tT,tT,tT,tT,tT,tT,tT,tT,tT,tT,fF,tT,fF,tT,fF,fF,fF,fF] rfl rfl (by kernel_rfl) (fun _ _ _ h => h) (Or.inl ⟨by rfl, ?_⟩) hHeld ?_ ?_
  rotate_left
  · rintro w' ⟨s0, s1, s2⟩
    go_simp
    with_reducible rfl
  rotate_left; · simp only [Act.put, q_a, q_0, q_s, i64_w, i32_w]; rfl
  refine pure_ (i := 11) (N := some 24) (v := ?_) (a' := ?_) #[tT,tT,tT,tT,tT,tT,tT,tT,tT,tT,tT,tT,tT,fF,tT,fF,fF,fF,fF] rfl rfl (by kernel_rfl) (fun _ _ _ h => h) (Or.inl ⟨by rfl, ?_⟩) ?_ ?_
  rotate_left; · intro w'; go_simp; with_reducible rfl
  rotate_left; · simp only [Act.put, q_a, q_0, q_s, i64_w, i32_w]; rfl
  refine join_ (σ := Unit) 1 #[tT,tT,tT,tT,tT,tT,tT,tT,tT,tT,tT,tT,tT,tT,tT,tT,tT,tT,fF] (fun _ => [(26, .int .i64 (numL l 4 4)), (28, .int .i64 (numL l 8 4)), (29, .agg #[.int .i64 x0, .int .i64 x1, .int .i64 x12, .int .i64 (numL l 4 4), .int .i64 (numL l 8 4), .int .i64 0, .int .i64 0, .int .i64 0, .int .i64 0, .bool false, .int .i64 0, .slice none 0 0, .slice none 0 0]), (5, .pointer (some ⟨W1.heap.size, 0, none⟩))]) (fun _ w' => w'.heap[W1.heap.size]? = some (.cells zero13 39 (0, 0)) ∧ w'.heap[w.heap.size]? = some (.cells zero13 39 (0, 0)) ∧ Below w.heap.size w w') ?_ ?_
  rotate_left
  · intro hCont
    refine two_ (i := 13) (j := 17) (Ni := some 26) (Nj := some 5) #[tT,tT,tT,tT,tT,tT,tT,tT,tT,tT,tT,tT,tT,tT,tT,fF,fF,fF,fF] #[tT,tT,tT,tT,tT,tT,tT,tT,tT,tT,tT,tT,tT,fF,tT,fF,fF,tT,fF] rfl rfl rfl rfl (by kernel_rfl) (by decide) (by decide) (fun K hK => ?_) (fun K hK => ?_)
    · skip
      refine goes_ Try.func48 (by kernel_rfl) rfl #[.slice (some ad) l.length c, .int .i64 4, .int .i64 4] (by rfl) rfl rfl (by simp only [List.map_toArray, List.map_cons, List.map_nil]; rfl) ?_
      with_reducible refine (get_calls (l := l) 4 4 (iz := 4) (mz := 4) (by repeat (first | exact HR1.out | (with_reducible refine Kd.C_alloc ?_ _) | (with_reducible refine Kd.C_drewN ?_ _) | (with_reducible refine Kd.C_drew ?_))) rfl HC.out HY.out HL.out rfl rfl (by omega) (by have := H24.out; omega)).mono ?_
      rintro e w3 ⟨rfl, ⟨⟨nq, rfl⟩⟩⟩
      refine ⟨_, rfl, ?_⟩
      refine hK.out _ _ ⟨(HC0.out _ (by repeat (first | (with_reducible first | exact HBR.out | apply below_alloc | apply pw_below_drewN | apply below_drew1) | exact HBR.out))), (HC1.out _ (by repeat (first | (with_reducible first | exact HBR.out | apply below_alloc | apply pw_below_drewN | apply below_drew1) | exact HBR.out))), (HC12.out _ (by repeat (first | (with_reducible first | exact HBR.out | apply below_alloc | apply pw_below_drewN | apply below_drew1) | exact HBR.out)))⟩ (fun hHeld => ?_)
      clear hK K
      refine norm_ (a' := ?_) ?_ ?_
      rotate_left
      · show Act.put _ (some 26) _ = _
        simp only [Act.put, q_a, q_0, q_s, i64_w, i32_w]
        rfl
      refine two_ (i := 15) (j := 17) (Ni := some 28) (Nj := some 5) #[tT,tT,tT,tT,tT,tT,tT,tT,tT,tT,tT,tT,tT,tT,tT,tT,fF,fF,fF] #[tT,tT,tT,tT,tT,tT,tT,tT,tT,tT,tT,tT,tT,tT,tT,fF,fF,tT,fF] rfl rfl rfl rfl (by kernel_rfl) (by decide) (by decide) (fun K hK => ?_) (fun K hK => ?_)
      · skip
        refine goes_ Try.func48 (by kernel_rfl) rfl #[.slice (some ad) l.length c, .int .i64 8, .int .i64 4] (by rfl) rfl rfl (by simp only [List.map_toArray, List.map_cons, List.map_nil]; rfl) ?_
        with_reducible refine (get_calls (l := l) 8 4 (iz := 8) (mz := 4) (by repeat (first | exact HR1.out | (with_reducible refine Kd.C_alloc ?_ _) | (with_reducible refine Kd.C_drewN ?_ _) | (with_reducible refine Kd.C_drew ?_))) rfl HC.out HY.out HL.out rfl rfl (by omega) (by have := H24.out; omega)).mono ?_
        rintro e w3 ⟨rfl, ⟨⟨nq, rfl⟩⟩⟩
        refine ⟨_, rfl, ?_⟩
        refine hK.out _ _ ⟨(HC0.out _ (by repeat (first | (with_reducible first | exact HBR.out | apply below_alloc | apply pw_below_drewN | apply below_drew1) | exact HBR.out))), (HC1.out _ (by repeat (first | (with_reducible first | exact HBR.out | apply below_alloc | apply pw_below_drewN | apply below_drew1) | exact HBR.out))), (HC12.out _ (by repeat (first | (with_reducible first | exact HBR.out | apply below_alloc | apply pw_below_drewN | apply below_drew1) | exact HBR.out)))⟩ (fun hHeld => ?_)
        clear hK K
        refine norm_ (a' := ?_) ?_ ?_
        rotate_left
        · show Act.put _ (some 28) _ = _
          simp only [Act.put, q_a, q_0, q_s, i64_w, i32_w]
          rfl
        refine pure_ (i := 16) (N := some 29) (v := ?_) (a' := ?_) #[tT,tT,tT,tT,tT,tT,tT,tT,tT,tT,tT,tT,tT,tT,tT,tT,tT,fF,fF] rfl rfl (by kernel_rfl) (fun _ _ _ h => h) (Or.inl ⟨by rfl, ?_⟩) ?_ ?_
        rotate_left; · intro w'; go_simp; with_reducible rfl
        rotate_left; · simp only [Act.put, q_a, q_0, q_s, i64_w, i32_w]; rfl
        refine one_ (i := 17) (N := some 5) #[tT,tT,tT,tT,tT,tT,tT,tT,tT,tT,tT,tT,tT,tT,tT,tT,tT,tT,fF] rfl rfl (by kernel_rfl) (by decide) (fun K hK => ?_)
        refine value_ (w1 := ?_) (v := ?_) (by rfl) rfl ?_ ?_
        rotate_left 2
        · go_simp
          constructor
          · rfl
          · rfl
        refine hK.out _ _ ⟨(HC0.out _ (by repeat (first | (with_reducible first | exact HBR.out | apply below_alloc | apply pw_below_drewN | apply below_drew1) | exact HBR.out))), (HC1.out _ (by repeat (first | (with_reducible first | exact HBR.out | apply below_alloc | apply pw_below_drewN | apply below_drew1) | exact HBR.out))), (HC12.out _ (by repeat (first | (with_reducible first | exact HBR.out | apply below_alloc | apply pw_below_drewN | apply below_drew1) | exact HBR.out)))⟩ (fun hHeld => ?_)
        clear hK K
        refine norm_ (a' := ?_) ?_ ?_
        rotate_left
        · show Act.put _ (some 5) _ = _
          simp only [Act.put, q_a, q_0, q_s, i64_w, i32_w]
          rfl
        exact norm_ (by simp only [putAll, Act.put, q_a, q_0, q_s]) (hCont () _ ⟨new_blk W1 _, (by refine Eq.trans (Below.block (B := W1.heap.size) (w := W1) ?_ _ HG2.out) HK1.out; repeat (first | (with_reducible first | exact HBS.out | apply below_alloc | apply pw_below_drewN | apply below_drew1) | exact HBS.out)), (by repeat (first | (with_reducible first | exact HBR.out | apply below_alloc | apply pw_below_drewN | apply below_drew1) | exact HBR.out))⟩)
      · skip
        refine value_ (w1 := ?_) (v := ?_) (by rfl) rfl ?_ ?_
        rotate_left 2
        · go_simp
          constructor
          · rfl
          · rfl
        refine hK.out _ _ ⟨(HC0.out _ (by repeat (first | (with_reducible first | exact HBR.out | apply below_alloc | apply pw_below_drewN | apply below_drew1) | exact HBR.out))), (HC1.out _ (by repeat (first | (with_reducible first | exact HBR.out | apply below_alloc | apply pw_below_drewN | apply below_drew1) | exact HBR.out))), (HC12.out _ (by repeat (first | (with_reducible first | exact HBR.out | apply below_alloc | apply pw_below_drewN | apply below_drew1) | exact HBR.out)))⟩ (fun hHeld => ?_)
        clear hK K
        refine norm_ (a' := ?_) ?_ ?_
        rotate_left
        · show Act.put _ (some 5) _ = _
          simp only [Act.put, q_a, q_0, q_s, i64_w, i32_w]
          rfl
        refine one_ (i := 15) (N := some 28) #[tT,tT,tT,tT,tT,tT,tT,tT,tT,tT,tT,tT,tT,tT,tT,tT,fF,tT,fF] rfl rfl (by kernel_rfl) (by decide) (fun K hK => ?_)
        refine goes_ Try.func48 (by kernel_rfl) rfl #[.slice (some ad) l.length c, .int .i64 8, .int .i64 4] (by rfl) rfl rfl (by simp only [List.map_toArray, List.map_cons, List.map_nil]; rfl) ?_
        with_reducible refine (get_calls (l := l) 8 4 (iz := 8) (mz := 4) (by repeat (first | exact HR1.out | (with_reducible refine Kd.C_alloc ?_ _) | (with_reducible refine Kd.C_drewN ?_ _) | (with_reducible refine Kd.C_drew ?_))) rfl HC.out HY.out HL.out rfl rfl (by omega) (by have := H24.out; omega)).mono ?_
        rintro e w3 ⟨rfl, ⟨⟨nq, rfl⟩⟩⟩
        refine ⟨_, rfl, ?_⟩
        refine hK.out _ _ ⟨(HC0.out _ (by repeat (first | (with_reducible first | exact HBR.out | apply below_alloc | apply pw_below_drewN | apply below_drew1) | exact HBR.out))), (HC1.out _ (by repeat (first | (with_reducible first | exact HBR.out | apply below_alloc | apply pw_below_drewN | apply below_drew1) | exact HBR.out))), (HC12.out _ (by repeat (first | (with_reducible first | exact HBR.out | apply below_alloc | apply pw_below_drewN | apply below_drew1) | exact HBR.out)))⟩ (fun hHeld => ?_)
        clear hK K
        refine norm_ (a' := ?_) ?_ ?_
        rotate_left
        · show Act.put _ (some 28) _ = _
          simp only [Act.put, q_a, q_0, q_s, i64_w, i32_w]
          rfl
        refine pure_ (i := 16) (N := some 29) (v := ?_) (a' := ?_) #[tT,tT,tT,tT,tT,tT,tT,tT,tT,tT,tT,tT,tT,tT,tT,tT,tT,tT,fF] rfl rfl (by kernel_rfl) (fun _ _ _ h => h) (Or.inl ⟨by rfl, ?_⟩) ?_ ?_
        rotate_left; · intro w'; go_simp; with_reducible rfl
        rotate_left; · simp only [Act.put, q_a, q_0, q_s, i64_w, i32_w]; rfl
        exact norm_ (by simp only [putAll, Act.put, q_a, q_0, q_s]) (hCont () _ ⟨new_blk W1 _, (by refine Eq.trans (Below.block (B := W1.heap.size) (w := W1) ?_ _ HG2.out) HK1.out; repeat (first | (with_reducible first | exact HBS.out | apply below_alloc | apply pw_below_drewN | apply below_drew1) | exact HBS.out)), (by repeat (first | (with_reducible first | exact HBR.out | apply below_alloc | apply pw_below_drewN | apply below_drew1) | exact HBR.out))⟩)
    · skip
      refine value_ (w1 := ?_) (v := ?_) (by rfl) rfl ?_ ?_
      rotate_left 2
      · go_simp
        constructor
        · rfl
        · rfl
      refine hK.out _ _ ⟨(HC0.out _ (by repeat (first | (with_reducible first | exact HBR.out | apply below_alloc | apply pw_below_drewN | apply below_drew1) | exact HBR.out))), (HC1.out _ (by repeat (first | (with_reducible first | exact HBR.out | apply below_alloc | apply pw_below_drewN | apply below_drew1) | exact HBR.out))), (HC12.out _ (by repeat (first | (with_reducible first | exact HBR.out | apply below_alloc | apply pw_below_drewN | apply below_drew1) | exact HBR.out)))⟩ (fun hHeld => ?_)
      clear hK K
      refine norm_ (a' := ?_) ?_ ?_
      rotate_left
      · show Act.put _ (some 5) _ = _
        simp only [Act.put, q_a, q_0, q_s, i64_w, i32_w]
        rfl
      refine one_ (i := 13) (N := some 26) #[tT,tT,tT,tT,tT,tT,tT,tT,tT,tT,tT,tT,tT,tT,tT,fF,fF,tT,fF] rfl rfl (by kernel_rfl) (by decide) (fun K hK => ?_)
      refine goes_ Try.func48 (by kernel_rfl) rfl #[.slice (some ad) l.length c, .int .i64 4, .int .i64 4] (by rfl) rfl rfl (by simp only [List.map_toArray, List.map_cons, List.map_nil]; rfl) ?_
      with_reducible refine (get_calls (l := l) 4 4 (iz := 4) (mz := 4) (by repeat (first | exact HR1.out | (with_reducible refine Kd.C_alloc ?_ _) | (with_reducible refine Kd.C_drewN ?_ _) | (with_reducible refine Kd.C_drew ?_))) rfl HC.out HY.out HL.out rfl rfl (by omega) (by have := H24.out; omega)).mono ?_
      rintro e w3 ⟨rfl, ⟨⟨nq, rfl⟩⟩⟩
      refine ⟨_, rfl, ?_⟩
      refine hK.out _ _ ⟨(HC0.out _ (by repeat (first | (with_reducible first | exact HBR.out | apply below_alloc | apply pw_below_drewN | apply below_drew1) | exact HBR.out))), (HC1.out _ (by repeat (first | (with_reducible first | exact HBR.out | apply below_alloc | apply pw_below_drewN | apply below_drew1) | exact HBR.out))), (HC12.out _ (by repeat (first | (with_reducible first | exact HBR.out | apply below_alloc | apply pw_below_drewN | apply below_drew1) | exact HBR.out)))⟩ (fun hHeld => ?_)
      clear hK K
      refine norm_ (a' := ?_) ?_ ?_
      rotate_left
      · show Act.put _ (some 26) _ = _
        simp only [Act.put, q_a, q_0, q_s, i64_w, i32_w]
        rfl
      refine one_ (i := 15) (N := some 28) #[tT,tT,tT,tT,tT,tT,tT,tT,tT,tT,tT,tT,tT,tT,tT,tT,fF,tT,fF] rfl rfl (by kernel_rfl) (by decide) (fun K hK => ?_)
      refine goes_ Try.func48 (by kernel_rfl) rfl #[.slice (some ad) l.length c, .int .i64 8, .int .i64 4] (by rfl) rfl rfl (by simp only [List.map_toArray, List.map_cons, List.map_nil]; rfl) ?_
      with_reducible refine (get_calls (l := l) 8 4 (iz := 8) (mz := 4) (by repeat (first | exact HR1.out | (with_reducible refine Kd.C_alloc ?_ _) | (with_reducible refine Kd.C_drewN ?_ _) | (with_reducible refine Kd.C_drew ?_))) rfl HC.out HY.out HL.out rfl rfl (by omega) (by have := H24.out; omega)).mono ?_
      rintro e w3 ⟨rfl, ⟨⟨nq, rfl⟩⟩⟩
      refine ⟨_, rfl, ?_⟩
      refine hK.out _ _ ⟨(HC0.out _ (by repeat (first | (with_reducible first | exact HBR.out | apply below_alloc | apply pw_below_drewN | apply below_drew1) | exact HBR.out))), (HC1.out _ (by repeat (first | (with_reducible first | exact HBR.out | apply below_alloc | apply pw_below_drewN | apply below_drew1) | exact HBR.out))), (HC12.out _ (by repeat (first | (with_reducible first | exact HBR.out | apply below_alloc | apply pw_below_drewN | apply below_drew1) | exact HBR.out)))⟩ (fun hHeld => ?_)
      clear hK K
      refine norm_ (a' := ?_) ?_ ?_
      rotate_left
      · show Act.put _ (some 28) _ = _
        simp only [Act.put, q_a, q_0, q_s, i64_w, i32_w]
        rfl
      refine pure_ (i := 16) (N := some 29) (v := ?_) (a' := ?_) #[tT,tT,tT,tT,tT,tT,tT,tT,tT,tT,tT,tT,tT,tT,tT,tT,tT,tT,fF] rfl rfl (by kernel_rfl) (fun _ _ _ h => h) (Or.inl ⟨by rfl, ?_⟩) ?_ ?_
      rotate_left; · intro w'; go_simp; with_reducible rfl
      rotate_left; · simp only [Act.put, q_a, q_0, q_s, i64_w, i32_w]; rfl
      exact norm_ (by simp only [putAll, Act.put, q_a, q_0, q_s]) (hCont () _ ⟨new_blk W1 _, (by refine Eq.trans (Below.block (B := W1.heap.size) (w := W1) ?_ _ HG2.out) HK1.out; repeat (first | (with_reducible first | exact HBS.out | apply below_alloc | apply pw_below_drewN | apply below_drew1) | exact HBS.out)), (by repeat (first | (with_reducible first | exact HBR.out | apply below_alloc | apply pw_below_drewN | apply below_drew1) | exact HBR.out))⟩)
  rintro ⟨⟩ w3 ⟨hz3, hy3, hb3⟩
  have hHeld : w3.cell? ad = some (.int .u8 x0) ∧ w3.cell? ⟨ad.block, ad.off + 1, none⟩ = some (.int .u8 x1) ∧ w3.cell? ⟨ad.block, ad.off + 12, none⟩ = some (.int .u8 x12) := ⟨HC0.out _ hb3, HC1.out _ hb3, HC12.out _ hb3⟩
  refine norm_ (a' := ?_) ?_ ?_
  rotate_left; · simp only [putAll, Act.put, q_a, q_0, q_s]; rfl
  refine one_ (i := 18) (N := none) #[tT,tT,tT,tT,tT,tT,tT,tT,tT,tT,tT,tT,tT,tT,tT,tT,tT,tT,tT] rfl rfl (by kernel_rfl) (by decide) (fun K hK => ?_)
  obtain ⟨k0, k1, k2, k3, k4, k5, k6, k7, k8, k9, k10, k11, k12⟩ := c13 hz3
  obtain ⟨z0, z1, z2, z3, z4, z5, z6, z7, z8, z9, z10, z11, z12⟩ := f13 hz3
  refine skip_ (w1 := ?_) (by rfl) rfl ?_ ?_
  rotate_left
  · go_simp
    rfl
  refine hK.out _ _ ⟨(HC0.out _ (lay13_below hb3 HG1.out _ _ _ _ _ _ _ _ _ _ _ _ _)), (HC1.out _ (lay13_below hb3 HG1.out _ _ _ _ _ _ _ _ _ _ _ _ _)), (HC12.out _ (lay13_below hb3 HG1.out _ _ _ _ _ _ _ _ _ _ _ _ _))⟩ (fun hHeld => ?_)
  clear hK K
  refine done_ (by kernel_rfl) ?_
  generalize hW : World.setCell _ _ _ = W4
  have hz4 : W4.heap[W1.heap.size]? = some (.cells #[(.int .i64 x0), (.int .i64 x1), (.int .i64 x12), (.int .i64 (numL l 4 4)), (.int .i64 (numL l 8 4)), (.int .i64 0), (.int .i64 0), (.int .i64 0), (.int .i64 0), (.bool false), (.int .i64 0), (.slice none 0 0), (.slice none 0 0)] 39 (0, 0)) := by rw [← hW]; exact lay13_blk hz3 rfl (.int .i64 x0) (.int .i64 x1) (.int .i64 x12) (.int .i64 (numL l 4 4)) (.int .i64 (numL l 8 4)) (.int .i64 0) (.int .i64 0) (.int .i64 0) (.int .i64 0) (.bool false) (.int .i64 0) (.slice none 0 0) (.slice none 0 0)
  have hy4 : W4.heap[w.heap.size]? = some (.cells zero13 39 (0, 0)) := by rw [← hW]; exact (lay13_far (Nat.ne_of_lt HG2.out) (.int .i64 x0) (.int .i64 x1) (.int .i64 x12) (.int .i64 (numL l 4 4)) (.int .i64 (numL l 8 4)) (.int .i64 0) (.int .i64 0) (.int .i64 0) (.int .i64 0) (.bool false) (.int .i64 0) (.slice none 0 0) (.slice none 0 0)).trans hy3
  have HB4 := Aside0.mk (show Below w.heap.size w W4 from by rw [← hW]; exact lay13_below hb3 HG1.out (.int .i64 x0) (.int .i64 x1) (.int .i64 x12) (.int .i64 (numL l 4 4)) (.int .i64 (numL l 8 4)) (.int .i64 0) (.int .i64 0) (.int .i64 0) (.int .i64 0) (.bool false) (.int .i64 0) (.slice none 0 0) (.slice none 0 0))
  have HZ4 := Aside0.mk hz4
  have HY4 := Aside0.mk hy4
  obtain ⟨g, HGE⟩ : ∃ g, W1.heap.size = g := ⟨_, rfl⟩
  rw [HGE] at HZ4 HG1 HG2 hz4 ⊢
  have HGL := Aside0.mk (show g < W4.heap.size from blk_lt hz4)
  clear hHeld hW hz3 hy3 hb3 k0 k1 k2 k3 k4 k5 k6 k7 k8 k9 k10 k11 k12 z0 z1 z2 z3 z4 z5 z6 z7 z8 z9 z10 z11 z12
  obtain ⟨k0, k1, k2, k3, k4, k5, k6, k7, k8, k9, k10, k11, k12⟩ := c13 hz4
  obtain ⟨z0, z1, z2, z3, z4, z5, z6, z7, z8, z9, z10, z11, z12⟩ := f13 hz4
  clear hz4 hy4
  clear HBR HR1 HBS HK1
  have m16 := HC16.out W4 HB4.out
  have m17 := HC17.out W4 HB4.out
  by_cases h17 : x17 = 0
  · have q17 : (x17 == 0) = true := beq_iff_eq.mpr h17
    have q17n : (x17 != 0) = false := by rw [h17]; rfl
    have HPE := Aside0.mk (show parseL l = (⟨x0, x1, x12, numL l 4 4, numL l 8 4, 0, 0, 0, 0, false, x16, [], (l.take l.length).drop 20⟩, 0) from by
      unfold parseL
      rw [if_neg (fun h => h HE.out), if_pos HKD.out, if_neg (by rw [EE.out.2.2.2.2.1]; exact fun h => h h17), List.take_length, EE.out.2.1, EE.out.2.2.1, EE.out.2.2.2.1, ← EE.out.1, HKD.out])
    obtain ⟨A3, hcut3, hC3⟩ := cut3 (A := some ad) (c := c) (l := l) 20 l.length (l.length - 20) (iz := 20) (jz := (l.length : Int)) rfl rfl rfl (by have := HLE.out; omega) (Nat.le_refl _) rfl HC.out
    have HC3 := Aside0.mk (fun W (h : Below w.heap.size w W) => hC3 W (Kd.C_below HR.out h))
    clear hC3
    go_upto_region 21 with (first
      | (go_at_call 49; refine (clone_calls (HC3.out _ (HB4.out.setCell (p := ⟨g, 10, none⟩) HG1.out _)) (C_len (HC3.out w (Below.refl _ _))) (Nat.le_refl _) (by rw [C_len (HC3.out w (Below.refl _ _))]; have := HL.out; omega)).mono ?_; rintro e w6 ⟨v, rfl, ho, hb6⟩; obtain ⟨Av, cv, ev⟩ := Kd.R_slice ho; rw [C_len (HC3.out w (Below.refl _ _))] at ev; subst ev; have hz5 := set_blk HZ4.out 10 (.int .i64 x16); have hz6 := (hb6.block g (blk_lt hz5)).trans hz5; simp only [List.setIfInBounds_toArray, List.set_cons_zero, List.set_cons_succ] at hz6; have hy6 := (hb6.block w.heap.size (Nat.lt_trans HG2.out (blk_lt hz5))).trans ((Below.heap_setCell W4 ⟨g, 10, none⟩ (.int .i64 x16) w.heap.size (Nat.ne_of_lt HG2.out)).trans HY4.out); have HO := Aside0.mk ho; have HLT := Aside0.mk (blk_lt hz5); have HB6 := Aside0.mk (below_step (HB4.out.setCell (p := ⟨g, 10, none⟩) HG1.out (.int .i64 x16)) hb6); have HZ6 := Aside0.mk hz6; have HY6 := Aside0.mk hy6; clear ho hb6 hz5 hz6 hy6 k0 k1 k2 k3 k4 k5 k6 k7 k8 k9 k10 k11 k12 z0 z1 z2 z3 z4 z5 z6 z7 z8 z9 z10 z11 z12; obtain ⟨k0, k1, k2, k3, k4, k5, k6, k7, k8, k9, k10, k11, k12⟩ := c13 HZ6.out; obtain ⟨z0, z1, z2, z3, z4, z5, z6, z7, z8, z9, z10, z11, z12⟩ := f13 HZ6.out))
    clear k0 k1 k2 k3 k4 k5 k6 k7 k8 k9 k10 k11 k12 z0 z1 z2 z3 z4 z5 z6 z7 z8 z9 z10 z11 z12 hcut3
    have hz7 := set_blk HZ6.out 12 (.slice Av (l.length - 20) cv)
    simp only [List.setIfInBounds_toArray, List.set_cons_zero, List.set_cons_succ] at hz7
    have hy7 := (Below.heap_setCell w6 ⟨g, 12, none⟩ (.slice Av (l.length - 20) cv) w.heap.size (Nat.ne_of_lt HG2.out)).trans HY6.out
    have HB7 := Aside0.mk (HB6.out.setCell (p := ⟨g, 12, none⟩) HG1.out (.slice Av (l.length - 20) cv))
    have HF7 := Aside0.mk (show ∀ k, (W4.setCell ⟨g, 10, none⟩ (.int .i64 x16)).heap.size ≤ k → (w6.setCell ⟨g, 12, none⟩ (.slice Av (l.length - 20) cv)).heap[k]? = w6.heap[k]? from fun k hk => Below.heap_setCell w6 ⟨g, 12, none⟩ _ k (show k ≠ g by have := HLT.out; omega))
    generalize w6.setCell ⟨g, 12, none⟩ (.slice Av (l.length - 20) cv) = W7 at hz7 hy7 HB7 HF7 ⊢
    obtain ⟨k0, k1, k2, k3, k4, k5, k6, k7, k8, k9, k10, k11, k12⟩ := c13 hz7
    obtain ⟨y0, y1, y2, y3, y4, y5, y6, y7, y8, y9, y10, y11, y12⟩ := c13 hy7
    obtain ⟨u0, u1, u2, u3, u4, u5, u6, u7, u8, u9, u10, u11, u12⟩ := f13 hy7
    clear hz7 hy7
    go_wp2
    (try simp only [Exit.inBlock, Exit.then])
    refine bodyPost_ret (v := .tuple #[.agg #[.int .i64 x0, .int .i64 x1, .int .i64 x12, .int .i64 (numL l 4 4), .int .i64 (numL l 8 4), .int .i64 0, .int .i64 0, .int .i64 0, .int .i64 0, .bool false, .int .i64 x16, .slice none 0 0, .slice Av (l.length - 20) cv], .int .i64 0]) ?_ rfl (parsed_ok (v1 := .slice none 0 0) (v2 := .slice Av (l.length - 20) cv) HPE.out (Kd.R_nil _ _ _ _ _) (RB_move HO.out (Nat.le_of_lt (Nat.lt_trans HG2.out HLT.out)) ?_) (by intro k hk; simp [Value.ownBlock] at hk) ?_)
    · rw [results_cell_tmp rfl]
      go_simp
    · intro k hk _
      have h1 := HG2.out
      have h2 := HLT.out
      exact (lay13_far (by omega) _ _ _ _ _ _ _ _ _ _ _ _ _).trans (HF7.out k hk)
    · exact lay13_below HB7.out (Nat.le_refl _) _ _ _ _ _ _ _ _ _ _ _ _ _
  · have q17 : (x17 == 0) = false := beq_eq_false_iff_ne.mpr h17
    have q17n : (x17 != 0) = true := bne_iff_ne.mpr h17
    have HPE := Aside0.mk (show parseL l = (zeroP, 2) from by unfold parseL; rw [if_neg (fun h => h HE.out), if_pos HKD.out, if_pos (by rw [EE.out.2.2.2.2.1]; exact h17)])
    have hny := HY4.out
    obtain ⟨y0, y1, y2, y3, y4, y5, y6, y7, y8, y9, y10, y11, y12⟩ := c13 hny
    obtain ⟨u0, u1, u2, u3, u4, u5, u6, u7, u8, u9, u10, u11, u12⟩ := f13 hny
    clear hny
    go_wp2
    (try simp only [Exit.inBlock, Exit.then])
    refine bodyPost_ret (v := .tuple #[.agg zero13, .int .i64 2]) ?_ rfl (parsed_err HPE.out ?_)
    · rw [results_cell_tmp rfl]
      go_simp
    · exact lay13_below HB4.out (Nat.le_refl _) _ _ _ _ _ _ _ _ _ _ _ _ _
set_option maxHeartbeats 4000000 in
set_option maxRecDepth 100000 in
theorem parse_gram {c : Nat} {A : Option Addr} {l : List Int} {w : World} (hr : Kd.C (Kd.int .u8) w A l.length l) (hc : l.length ≤ c) (hl : l.length ≤ 100000) (hb : Bytes l) (he : headE l = 0) (h24 : 24 ≤ l.length) (hk : l.getD 0 0 = 2) :
    Calls Try.prog 15 #[.slice A l.length c] w (Parsed w l) := by
  have HR := Aside0.mk hr
  have HC := Aside0.mk hc
  have HL := Aside0.mk hl
  have HY := Aside0.mk hb
  have HBW := fun o => Kd.C_alloc hr o
  have hbe : (headE l == 0) = true := beq_iff_eq.mpr he
  have hbn : (headE l != 0) = false := by rw [he]; rfl
  have HE := Aside0.mk he
  have HKD := Aside0.mk hk
  have H24 := Aside0.mk (show 24 ≤ l.length by omega)
  have HLE := Aside0.mk h24
  obtain ⟨ad, rfl, hcell⟩ := cells_of hr (by omega)
  have c0 := hcell 0 (by omega)
  rw [Addr.add_zero'] at c0
  have b0 := getD_byte hb 0
  obtain ⟨x0, e0⟩ : ∃ x, l.getD 0 0 = x := ⟨_, rfl⟩
  rw [e0] at c0 b0
  have w0 : wrap64 x0 = x0 := wid (by omega) (by omega)
  have i0 : (0 : Int) < (l.length : Int) := by omega
  have c1 : w.cell? ⟨ad.block, ad.off + 1, none⟩ = _ := hcell 1 (by omega)
  have b1 := getD_byte hb 1
  obtain ⟨x1, e1⟩ : ∃ x, l.getD 1 0 = x := ⟨_, rfl⟩
  rw [e1] at c1 b1
  have w1 : wrap64 x1 = x1 := wid (by omega) (by omega)
  have i1 : (1 : Int) < (l.length : Int) := by omega
  have c12 : w.cell? ⟨ad.block, ad.off + 12, none⟩ = _ := hcell 12 (by omega)
  have b12 := getD_byte hb 12
  obtain ⟨x12, e12⟩ : ∃ x, l.getD 12 0 = x := ⟨_, rfl⟩
  rw [e12] at c12 b12
  have w12 : wrap64 x12 = x12 := wid (by omega) (by omega)
  have i12 : (12 : Int) < (l.length : Int) := by omega
  have i0n : 0 < l.length := by omega
  have HC0 := Aside0.mk (show ∀ W, Below w.heap.size w W → W.cell? ad = some (.int .u8 x0) from fun W h => (h.cell (World.block_lt_of_cell? w _ c0)).trans c0)
  have HC1 := Aside0.mk (show ∀ W, Below w.heap.size w W → W.cell? ⟨ad.block, ad.off + 1, none⟩ = some (.int .u8 x1) from fun W h => (h.cell (World.block_lt_of_cell? w _ c1)).trans c1)
  have HC12 := Aside0.mk (show ∀ W, Below w.heap.size w W → W.cell? ⟨ad.block, ad.off + 12, none⟩ = some (.int .u8 x12) from fun W h => (h.cell (World.block_lt_of_cell? w _ c12)).trans c12)
  have EE := Aside0.mk (And.intro e0 (And.intro e1 (And.intro e12 trivial)))
  clear hcell c0 c1 c12 e0 e1 e12
  rw [EE.out.1] at hk
  have q3 : (x0 == 3) = false := by rw [hk]; rfl
  have q2 : (x0 == 2) = true := by rw [hk]; rfl
  clear he hr hc hl hb h24 hk
  go_enter Try.func15, Try.ntmps15
  go_upto_region 4 with (first
    | (go_at_call 47; refine (head_calls (HBW _) rfl HC.out HY.out HL.out).mono ?_; rintro e w1 ⟨rfl, ⟨⟨nd, rfl⟩⟩⟩))
  have HBR := Aside0.mk (bd ((Below.refl w.heap.size w).alloc (Nat.le_refl _) (.cells zero13 39)) nd)
  have HK1 := Aside0.mk (show (((w.alloc (.cells zero13 39)).drewN nd).heap[w.heap.size]? = some (.cells zero13 39 (0, 0))) from new_blk w _)
  have HR1 := Aside0.mk (Kd.C_drewN (HBW (.cells zero13 39)) nd)
  have HG1 := Aside0.mk (show w.heap.size ≤ ((w.alloc (.cells zero13 39)).drewN nd).heap.size from HBR.out.size)
  have HG2 := Aside0.mk (show w.heap.size < ((w.alloc (.cells zero13 39)).drewN nd).heap.size from blk_lt HK1.out)
  change Code.wp _ _ _ _ ((w.alloc (.cells zero13 39)).drewN nd)
  generalize ((w.alloc (.cells zero13 39)).drewN nd) = W1 at HBR HK1 HR1 HG1 HG2 ⊢
  have HBS := Aside0.mk (Below.refl W1.heap.size W1)
  clear HBW nd
  refine start_ (n := 19) (S := fun w' => w'.cell? ad = some (.int .u8 x0) ∧ w'.cell? ⟨ad.block, ad.off + 1, none⟩ = some (.int .u8 x1) ∧ w'.cell? ⟨ad.block, ad.off + 12, none⟩ = some (.int .u8 x12)) (ds := []) #[fF,fF,fF,fF,fF,fF,fF,fF,fF,fF,fF,fF,fF,fF,fF,fF,fF,fF,fF] (by kernel_rfl) rfl rfl ⟨(HC0.out _ (by repeat (first | (with_reducible first | exact HBR.out | apply below_alloc | apply pw_below_drewN | apply below_drew1) | exact HBR.out))), (HC1.out _ (by repeat (first | (with_reducible first | exact HBR.out | apply below_alloc | apply pw_below_drewN | apply below_drew1) | exact HBR.out))), (HC12.out _ (by repeat (first | (with_reducible first | exact HBR.out | apply below_alloc | apply pw_below_drewN | apply below_drew1) | exact HBR.out)))⟩ (fun hHeld => ?_)
  refine pure_ (i := 0) (N := some 13) (v := ?_) (a' := ?_) #[tT,fF,fF,fF,fF,fF,fF,fF,fF,fF,fF,fF,fF,fF,fF,fF,fF,fF,fF] rfl rfl (by kernel_rfl) (fun _ _ _ h => h) (Or.inl ⟨by rfl, ?_⟩) ?_ ?_
  rotate_left; · intro w'; go_simp; with_reducible rfl
  rotate_left; · simp only [Act.put, q_a, q_0, q_s, i64_w, i32_w]; rfl
  refine pure_ (i := 1) (N := some 14) (v := ?_) (a' := ?_) #[tT,tT,fF,fF,fF,fF,fF,fF,fF,fF,fF,fF,fF,fF,fF,fF,fF,fF,fF] rfl rfl (by kernel_rfl) (fun _ _ _ h => h) (Or.inl ⟨by rfl, ?_⟩) ?_ ?_
  rotate_left; · intro w'; go_simp; with_reducible rfl
  rotate_left; · simp only [Act.put, q_a, q_0, q_s, i64_w, i32_w]; rfl
  refine pure_ (i := 4) (N := some 17) (v := ?_) (a' := ?_) #[tT,tT,fF,fF,tT,fF,fF,fF,fF,fF,fF,fF,fF,fF,fF,fF,fF,fF,fF] rfl rfl (by kernel_rfl) (fun _ _ _ h => h) (Or.inl ⟨by rfl, ?_⟩) ?_ ?_
  rotate_left; · intro w'; go_simp; with_reducible rfl
  rotate_left; · simp only [Act.put, q_a, q_0, q_s, i64_w, i32_w]; rfl
  refine pure_ (i := 5) (N := some 18) (v := ?_) (a' := ?_) #[tT,tT,fF,fF,tT,tT,fF,fF,fF,fF,fF,fF,fF,fF,fF,fF,fF,fF,fF] rfl rfl (by kernel_rfl) (fun _ _ _ h => h) (Or.inl ⟨by rfl, ?_⟩) ?_ ?_
  rotate_left; · intro w'; go_simp; with_reducible rfl
  rotate_left; · simp only [Act.put, q_a, q_0, q_s, i64_w, i32_w]; rfl
  refine pure_ (i := 8) (N := some 21) (v := ?_) (a' := ?_) #[tT,tT,fF,fF,tT,tT,fF,fF,tT,fF,fF,fF,fF,fF,fF,fF,fF,fF,fF] rfl rfl (by kernel_rfl) (fun _ _ _ h => h) (Or.inl ⟨by rfl, ?_⟩) ?_ ?_
  rotate_left; · intro w'; go_simp; with_reducible rfl
  rotate_left; · simp only [Act.put, q_a, q_0, q_s, i64_w, i32_w]; rfl
  refine pure_ (i := 9) (N := some 22) (v := ?_) (a' := ?_) #[tT,tT,fF,fF,tT,tT,fF,fF,tT,tT,fF,fF,fF,fF,fF,fF,fF,fF,fF] rfl rfl (by kernel_rfl) (fun _ _ _ h => h) (Or.inl ⟨by rfl, ?_⟩) ?_ ?_
  rotate_left; · intro w'; go_simp; with_reducible rfl
  rotate_left; · simp only [Act.put, q_a, q_0, q_s, i64_w, i32_w]; rfl
  refine pure_ (i := 12) (N := some 25) (v := ?_) (a' := ?_) #[tT,tT,fF,fF,tT,tT,fF,fF,tT,tT,fF,fF,tT,fF,fF,fF,fF,fF,fF] rfl rfl (by kernel_rfl) (fun _ _ _ h => h) (Or.inl ⟨by rfl, ?_⟩) ?_ ?_
  rotate_left; · intro w'; go_simp; with_reducible rfl
  rotate_left; · simp only [Act.put, q_a, q_0, q_s, i64_w, i32_w]; rfl
  refine pure_ (i := 14) (N := some 27) (v := ?_) (a' := ?_) #[tT,tT,fF,fF,tT,tT,fF,fF,tT,tT,fF,fF,tT,fF,tT,fF,fF,fF,fF] rfl rfl (by kernel_rfl) (fun _ _ _ h => h) (Or.inl ⟨by rfl, ?_⟩) ?_ ?_
  rotate_left; · intro w'; go_simp; with_reducible rfl
  rotate_left; · simp only [Act.put, q_a, q_0, q_s, i64_w, i32_w]; rfl
  refine take_ (i := 2) (N := some 15) (v := ?_) (a' := ?_) #[tT,tT,tT,fF,tT,tT,fF,fF,tT,tT,fF,fF,tT,fF,tT,fF,fF,fF,fF] rfl rfl (by kernel_rfl) (fun _ _ _ h => h) (Or.inl ⟨by rfl, ?_⟩) hHeld ?_ ?_
  rotate_left
  · rintro w' ⟨s0, s1, s2⟩
    go_simp
    with_reducible rfl
  rotate_left; · simp only [Act.put, q_a, q_0, q_s, i64_w, i32_w]; rfl
  refine pure_ (i := 3) (N := some 16) (v := ?_) (a' := ?_) #[tT,tT,tT,tT,tT,tT,fF,fF,tT,tT,fF,fF,tT,fF,tT,fF,fF,fF,fF] rfl rfl (by kernel_rfl) (fun _ _ _ h => h) (Or.inl ⟨by rfl, ?_⟩) ?_ ?_
  rotate_left; · intro w'; go_simp; with_reducible rfl
  rotate_left; · simp only [Act.put, q_a, q_0, q_s, i64_w, i32_w]; rfl
  refine take_ (i := 6) (N := some 19) (v := ?_) (a' := ?_) #[tT,tT,tT,tT,tT,tT,tT,fF,tT,tT,fF,fF,tT,fF,tT,fF,fF,fF,fF] rfl rfl (by kernel_rfl) (fun _ _ _ h => h) (Or.inl ⟨by rfl, ?_⟩) hHeld ?_ ?_
  rotate_left
  · rintro w' ⟨s0, s1, s2⟩
    go_simp
    with_reducible rfl
  rotate_left; · simp only [Act.put, q_a, q_0, q_s, i64_w, i32_w]; rfl
  refine pure_ (i := 7) (N := some 20) (v := ?_) (a' := ?_) #[tT,tT,tT,tT,tT,tT,tT,tT,tT,tT,fF,fF,tT,fF,tT,fF,fF,fF,fF] rfl rfl (by kernel_rfl) (fun _ _ _ h => h) (Or.inl ⟨by rfl, ?_⟩) ?_ ?_
  rotate_left; · intro w'; go_simp; with_reducible rfl
  rotate_left; · simp only [Act.put, q_a, q_0, q_s, i64_w, i32_w]; rfl
  refine take_ (i := 10) (N := some 23) (v := ?_) (a' := ?_) #[tT,tT,tT,tT,tT,tT,tT,tT,tT,tT,tT,fF,tT,fF,tT,fF,fF,fF,fF] rfl rfl (by kernel_rfl) (fun _ _ _ h => h) (Or.inl ⟨by rfl, ?_⟩) hHeld ?_ ?_
  rotate_left
  · rintro w' ⟨s0, s1, s2⟩
    go_simp
    with_reducible rfl
  rotate_left; · simp only [Act.put, q_a, q_0, q_s, i64_w, i32_w]; rfl
  refine pure_ (i := 11) (N := some 24) (v := ?_) (a' := ?_) #[tT,tT,tT,tT,tT,tT,tT,tT,tT,tT,tT,tT,tT,fF,tT,fF,fF,fF,fF] rfl rfl (by kernel_rfl) (fun _ _ _ h => h) (Or.inl ⟨by rfl, ?_⟩) ?_ ?_
  rotate_left; · intro w'; go_simp; with_reducible rfl
  rotate_left; · simp only [Act.put, q_a, q_0, q_s, i64_w, i32_w]; rfl
  refine join_ (σ := Unit) 1 #[tT,tT,tT,tT,tT,tT,tT,tT,tT,tT,tT,tT,tT,tT,tT,tT,tT,tT,fF] (fun _ => [(26, .int .i64 (numL l 4 4)), (28, .int .i64 (numL l 8 4)), (29, .agg #[.int .i64 x0, .int .i64 x1, .int .i64 x12, .int .i64 (numL l 4 4), .int .i64 (numL l 8 4), .int .i64 0, .int .i64 0, .int .i64 0, .int .i64 0, .bool false, .int .i64 0, .slice none 0 0, .slice none 0 0]), (5, .pointer (some ⟨W1.heap.size, 0, none⟩))]) (fun _ w' => w'.heap[W1.heap.size]? = some (.cells zero13 39 (0, 0)) ∧ w'.heap[w.heap.size]? = some (.cells zero13 39 (0, 0)) ∧ Below w.heap.size w w') ?_ ?_
  rotate_left
  · intro hCont
    refine two_ (i := 13) (j := 17) (Ni := some 26) (Nj := some 5) #[tT,tT,tT,tT,tT,tT,tT,tT,tT,tT,tT,tT,tT,tT,tT,fF,fF,fF,fF] #[tT,tT,tT,tT,tT,tT,tT,tT,tT,tT,tT,tT,tT,fF,tT,fF,fF,tT,fF] rfl rfl rfl rfl (by kernel_rfl) (by decide) (by decide) (fun K hK => ?_) (fun K hK => ?_)
    · skip
      refine goes_ Try.func48 (by kernel_rfl) rfl #[.slice (some ad) l.length c, .int .i64 4, .int .i64 4] (by rfl) rfl rfl (by simp only [List.map_toArray, List.map_cons, List.map_nil]; rfl) ?_
      with_reducible refine (get_calls (l := l) 4 4 (iz := 4) (mz := 4) (by repeat (first | exact HR1.out | (with_reducible refine Kd.C_alloc ?_ _) | (with_reducible refine Kd.C_drewN ?_ _) | (with_reducible refine Kd.C_drew ?_))) rfl HC.out HY.out HL.out rfl rfl (by omega) (by have := H24.out; omega)).mono ?_
      rintro e w3 ⟨rfl, ⟨⟨nq, rfl⟩⟩⟩
      refine ⟨_, rfl, ?_⟩
      refine hK.out _ _ ⟨(HC0.out _ (by repeat (first | (with_reducible first | exact HBR.out | apply below_alloc | apply pw_below_drewN | apply below_drew1) | exact HBR.out))), (HC1.out _ (by repeat (first | (with_reducible first | exact HBR.out | apply below_alloc | apply pw_below_drewN | apply below_drew1) | exact HBR.out))), (HC12.out _ (by repeat (first | (with_reducible first | exact HBR.out | apply below_alloc | apply pw_below_drewN | apply below_drew1) | exact HBR.out)))⟩ (fun hHeld => ?_)
      clear hK K
      refine norm_ (a' := ?_) ?_ ?_
      rotate_left
      · show Act.put _ (some 26) _ = _
        simp only [Act.put, q_a, q_0, q_s, i64_w, i32_w]
        rfl
      refine two_ (i := 15) (j := 17) (Ni := some 28) (Nj := some 5) #[tT,tT,tT,tT,tT,tT,tT,tT,tT,tT,tT,tT,tT,tT,tT,tT,fF,fF,fF] #[tT,tT,tT,tT,tT,tT,tT,tT,tT,tT,tT,tT,tT,tT,tT,fF,fF,tT,fF] rfl rfl rfl rfl (by kernel_rfl) (by decide) (by decide) (fun K hK => ?_) (fun K hK => ?_)
      · skip
        refine goes_ Try.func48 (by kernel_rfl) rfl #[.slice (some ad) l.length c, .int .i64 8, .int .i64 4] (by rfl) rfl rfl (by simp only [List.map_toArray, List.map_cons, List.map_nil]; rfl) ?_
        with_reducible refine (get_calls (l := l) 8 4 (iz := 8) (mz := 4) (by repeat (first | exact HR1.out | (with_reducible refine Kd.C_alloc ?_ _) | (with_reducible refine Kd.C_drewN ?_ _) | (with_reducible refine Kd.C_drew ?_))) rfl HC.out HY.out HL.out rfl rfl (by omega) (by have := H24.out; omega)).mono ?_
        rintro e w3 ⟨rfl, ⟨⟨nq, rfl⟩⟩⟩
        refine ⟨_, rfl, ?_⟩
        refine hK.out _ _ ⟨(HC0.out _ (by repeat (first | (with_reducible first | exact HBR.out | apply below_alloc | apply pw_below_drewN | apply below_drew1) | exact HBR.out))), (HC1.out _ (by repeat (first | (with_reducible first | exact HBR.out | apply below_alloc | apply pw_below_drewN | apply below_drew1) | exact HBR.out))), (HC12.out _ (by repeat (first | (with_reducible first | exact HBR.out | apply below_alloc | apply pw_below_drewN | apply below_drew1) | exact HBR.out)))⟩ (fun hHeld => ?_)
        clear hK K
        refine norm_ (a' := ?_) ?_ ?_
        rotate_left
        · show Act.put _ (some 28) _ = _
          simp only [Act.put, q_a, q_0, q_s, i64_w, i32_w]
          rfl
        refine pure_ (i := 16) (N := some 29) (v := ?_) (a' := ?_) #[tT,tT,tT,tT,tT,tT,tT,tT,tT,tT,tT,tT,tT,tT,tT,tT,tT,fF,fF] rfl rfl (by kernel_rfl) (fun _ _ _ h => h) (Or.inl ⟨by rfl, ?_⟩) ?_ ?_
        rotate_left; · intro w'; go_simp; with_reducible rfl
        rotate_left; · simp only [Act.put, q_a, q_0, q_s, i64_w, i32_w]; rfl
        refine one_ (i := 17) (N := some 5) #[tT,tT,tT,tT,tT,tT,tT,tT,tT,tT,tT,tT,tT,tT,tT,tT,tT,tT,fF] rfl rfl (by kernel_rfl) (by decide) (fun K hK => ?_)
        refine value_ (w1 := ?_) (v := ?_) (by rfl) rfl ?_ ?_
        rotate_left 2
        · go_simp
          constructor
          · rfl
          · rfl
        refine hK.out _ _ ⟨(HC0.out _ (by repeat (first | (with_reducible first | exact HBR.out | apply below_alloc | apply pw_below_drewN | apply below_drew1) | exact HBR.out))), (HC1.out _ (by repeat (first | (with_reducible first | exact HBR.out | apply below_alloc | apply pw_below_drewN | apply below_drew1) | exact HBR.out))), (HC12.out _ (by repeat (first | (with_reducible first | exact HBR.out | apply below_alloc | apply pw_below_drewN | apply below_drew1) | exact HBR.out)))⟩ (fun hHeld => ?_)
        clear hK K
        refine norm_ (a' := ?_) ?_ ?_
        rotate_left
        · show Act.put _ (some 5) _ = _
          simp only [Act.put, q_a, q_0, q_s, i64_w, i32_w]
          rfl
        exact norm_ (by simp only [putAll, Act.put, q_a, q_0, q_s]) (hCont () _ ⟨new_blk W1 _, (by refine Eq.trans (Below.block (B := W1.heap.size) (w := W1) ?_ _ HG2.out) HK1.out; repeat (first | (with_reducible first | exact HBS.out | apply below_alloc | apply pw_below_drewN | apply below_drew1) | exact HBS.out)), (by repeat (first | (with_reducible first | exact HBR.out | apply below_alloc | apply pw_below_drewN | apply below_drew1) | exact HBR.out))⟩)
      · skip
        refine value_ (w1 := ?_) (v := ?_) (by rfl) rfl ?_ ?_
        rotate_left 2
        · go_simp
          constructor
          · rfl
          · rfl
        refine hK.out _ _ ⟨(HC0.out _ (by repeat (first | (with_reducible first | exact HBR.out | apply below_alloc | apply pw_below_drewN | apply below_drew1) | exact HBR.out))), (HC1.out _ (by repeat (first | (with_reducible first | exact HBR.out | apply below_alloc | apply pw_below_drewN | apply below_drew1) | exact HBR.out))), (HC12.out _ (by repeat (first | (with_reducible first | exact HBR.out | apply below_alloc | apply pw_below_drewN | apply below_drew1) | exact HBR.out)))⟩ (fun hHeld => ?_)
        clear hK K
        refine norm_ (a' := ?_) ?_ ?_
        rotate_left
        · show Act.put _ (some 5) _ = _
          simp only [Act.put, q_a, q_0, q_s, i64_w, i32_w]
          rfl
        refine one_ (i := 15) (N := some 28) #[tT,tT,tT,tT,tT,tT,tT,tT,tT,tT,tT,tT,tT,tT,tT,tT,fF,tT,fF] rfl rfl (by kernel_rfl) (by decide) (fun K hK => ?_)
        refine goes_ Try.func48 (by kernel_rfl) rfl #[.slice (some ad) l.length c, .int .i64 8, .int .i64 4] (by rfl) rfl rfl (by simp only [List.map_toArray, List.map_cons, List.map_nil]; rfl) ?_
        with_reducible refine (get_calls (l := l) 8 4 (iz := 8) (mz := 4) (by repeat (first | exact HR1.out | (with_reducible refine Kd.C_alloc ?_ _) | (with_reducible refine Kd.C_drewN ?_ _) | (with_reducible refine Kd.C_drew ?_))) rfl HC.out HY.out HL.out rfl rfl (by omega) (by have := H24.out; omega)).mono ?_
        rintro e w3 ⟨rfl, ⟨⟨nq, rfl⟩⟩⟩
        refine ⟨_, rfl, ?_⟩
        refine hK.out _ _ ⟨(HC0.out _ (by repeat (first | (with_reducible first | exact HBR.out | apply below_alloc | apply pw_below_drewN | apply below_drew1) | exact HBR.out))), (HC1.out _ (by repeat (first | (with_reducible first | exact HBR.out | apply below_alloc | apply pw_below_drewN | apply below_drew1) | exact HBR.out))), (HC12.out _ (by repeat (first | (with_reducible first | exact HBR.out | apply below_alloc | apply pw_below_drewN | apply below_drew1) | exact HBR.out)))⟩ (fun hHeld => ?_)
        clear hK K
        refine norm_ (a' := ?_) ?_ ?_
        rotate_left
        · show Act.put _ (some 28) _ = _
          simp only [Act.put, q_a, q_0, q_s, i64_w, i32_w]
          rfl
        refine pure_ (i := 16) (N := some 29) (v := ?_) (a' := ?_) #[tT,tT,tT,tT,tT,tT,tT,tT,tT,tT,tT,tT,tT,tT,tT,tT,tT,tT,fF] rfl rfl (by kernel_rfl) (fun _ _ _ h => h) (Or.inl ⟨by rfl, ?_⟩) ?_ ?_
        rotate_left; · intro w'; go_simp; with_reducible rfl
        rotate_left; · simp only [Act.put, q_a, q_0, q_s, i64_w, i32_w]; rfl
        exact norm_ (by simp only [putAll, Act.put, q_a, q_0, q_s]) (hCont () _ ⟨new_blk W1 _, (by refine Eq.trans (Below.block (B := W1.heap.size) (w := W1) ?_ _ HG2.out) HK1.out; repeat (first | (with_reducible first | exact HBS.out | apply below_alloc | apply pw_below_drewN | apply below_drew1) | exact HBS.out)), (by repeat (first | (with_reducible first | exact HBR.out | apply below_alloc | apply pw_below_drewN | apply below_drew1) | exact HBR.out))⟩)
    · skip
      refine value_ (w1 := ?_) (v := ?_) (by rfl) rfl ?_ ?_
      rotate_left 2
      · go_simp
        constructor
        · rfl
        · rfl
      refine hK.out _ _ ⟨(HC0.out _ (by repeat (first | (with_reducible first | exact HBR.out | apply below_alloc | apply pw_below_drewN | apply below_drew1) | exact HBR.out))), (HC1.out _ (by repeat (first | (with_reducible first | exact HBR.out | apply below_alloc | apply pw_below_drewN | apply below_drew1) | exact HBR.out))), (HC12.out _ (by repeat (first | (with_reducible first | exact HBR.out | apply below_alloc | apply pw_below_drewN | apply below_drew1) | exact HBR.out)))⟩ (fun hHeld => ?_)
      clear hK K
      refine norm_ (a' := ?_) ?_ ?_
      rotate_left
      · show Act.put _ (some 5) _ = _
        simp only [Act.put, q_a, q_0, q_s, i64_w, i32_w]
        rfl
      refine one_ (i := 13) (N := some 26) #[tT,tT,tT,tT,tT,tT,tT,tT,tT,tT,tT,tT,tT,tT,tT,fF,fF,tT,fF] rfl rfl (by kernel_rfl) (by decide) (fun K hK => ?_)
      refine goes_ Try.func48 (by kernel_rfl) rfl #[.slice (some ad) l.length c, .int .i64 4, .int .i64 4] (by rfl) rfl rfl (by simp only [List.map_toArray, List.map_cons, List.map_nil]; rfl) ?_
      with_reducible refine (get_calls (l := l) 4 4 (iz := 4) (mz := 4) (by repeat (first | exact HR1.out | (with_reducible refine Kd.C_alloc ?_ _) | (with_reducible refine Kd.C_drewN ?_ _) | (with_reducible refine Kd.C_drew ?_))) rfl HC.out HY.out HL.out rfl rfl (by omega) (by have := H24.out; omega)).mono ?_
      rintro e w3 ⟨rfl, ⟨⟨nq, rfl⟩⟩⟩
      refine ⟨_, rfl, ?_⟩
      refine hK.out _ _ ⟨(HC0.out _ (by repeat (first | (with_reducible first | exact HBR.out | apply below_alloc | apply pw_below_drewN | apply below_drew1) | exact HBR.out))), (HC1.out _ (by repeat (first | (with_reducible first | exact HBR.out | apply below_alloc | apply pw_below_drewN | apply below_drew1) | exact HBR.out))), (HC12.out _ (by repeat (first | (with_reducible first | exact HBR.out | apply below_alloc | apply pw_below_drewN | apply below_drew1) | exact HBR.out)))⟩ (fun hHeld => ?_)
      clear hK K
      refine norm_ (a' := ?_) ?_ ?_
      rotate_left
      · show Act.put _ (some 26) _ = _
        simp only [Act.put, q_a, q_0, q_s, i64_w, i32_w]
        rfl
      refine one_ (i := 15) (N := some 28) #[tT,tT,tT,tT,tT,tT,tT,tT,tT,tT,tT,tT,tT,tT,tT,tT,fF,tT,fF] rfl rfl (by kernel_rfl) (by decide) (fun K hK => ?_)
      refine goes_ Try.func48 (by kernel_rfl) rfl #[.slice (some ad) l.length c, .int .i64 8, .int .i64 4] (by rfl) rfl rfl (by simp only [List.map_toArray, List.map_cons, List.map_nil]; rfl) ?_
      with_reducible refine (get_calls (l := l) 8 4 (iz := 8) (mz := 4) (by repeat (first | exact HR1.out | (with_reducible refine Kd.C_alloc ?_ _) | (with_reducible refine Kd.C_drewN ?_ _) | (with_reducible refine Kd.C_drew ?_))) rfl HC.out HY.out HL.out rfl rfl (by omega) (by have := H24.out; omega)).mono ?_
      rintro e w3 ⟨rfl, ⟨⟨nq, rfl⟩⟩⟩
      refine ⟨_, rfl, ?_⟩
      refine hK.out _ _ ⟨(HC0.out _ (by repeat (first | (with_reducible first | exact HBR.out | apply below_alloc | apply pw_below_drewN | apply below_drew1) | exact HBR.out))), (HC1.out _ (by repeat (first | (with_reducible first | exact HBR.out | apply below_alloc | apply pw_below_drewN | apply below_drew1) | exact HBR.out))), (HC12.out _ (by repeat (first | (with_reducible first | exact HBR.out | apply below_alloc | apply pw_below_drewN | apply below_drew1) | exact HBR.out)))⟩ (fun hHeld => ?_)
      clear hK K
      refine norm_ (a' := ?_) ?_ ?_
      rotate_left
      · show Act.put _ (some 28) _ = _
        simp only [Act.put, q_a, q_0, q_s, i64_w, i32_w]
        rfl
      refine pure_ (i := 16) (N := some 29) (v := ?_) (a' := ?_) #[tT,tT,tT,tT,tT,tT,tT,tT,tT,tT,tT,tT,tT,tT,tT,tT,tT,tT,fF] rfl rfl (by kernel_rfl) (fun _ _ _ h => h) (Or.inl ⟨by rfl, ?_⟩) ?_ ?_
      rotate_left; · intro w'; go_simp; with_reducible rfl
      rotate_left; · simp only [Act.put, q_a, q_0, q_s, i64_w, i32_w]; rfl
      exact norm_ (by simp only [putAll, Act.put, q_a, q_0, q_s]) (hCont () _ ⟨new_blk W1 _, (by refine Eq.trans (Below.block (B := W1.heap.size) (w := W1) ?_ _ HG2.out) HK1.out; repeat (first | (with_reducible first | exact HBS.out | apply below_alloc | apply pw_below_drewN | apply below_drew1) | exact HBS.out)), (by repeat (first | (with_reducible first | exact HBR.out | apply below_alloc | apply pw_below_drewN | apply below_drew1) | exact HBR.out))⟩)
  rintro ⟨⟩ w3 ⟨hz3, hy3, hb3⟩
  have hHeld : w3.cell? ad = some (.int .u8 x0) ∧ w3.cell? ⟨ad.block, ad.off + 1, none⟩ = some (.int .u8 x1) ∧ w3.cell? ⟨ad.block, ad.off + 12, none⟩ = some (.int .u8 x12) := ⟨HC0.out _ hb3, HC1.out _ hb3, HC12.out _ hb3⟩
  refine norm_ (a' := ?_) ?_ ?_
  rotate_left; · simp only [putAll, Act.put, q_a, q_0, q_s]; rfl
  refine one_ (i := 18) (N := none) #[tT,tT,tT,tT,tT,tT,tT,tT,tT,tT,tT,tT,tT,tT,tT,tT,tT,tT,tT] rfl rfl (by kernel_rfl) (by decide) (fun K hK => ?_)
  obtain ⟨k0, k1, k2, k3, k4, k5, k6, k7, k8, k9, k10, k11, k12⟩ := c13 hz3
  obtain ⟨z0, z1, z2, z3, z4, z5, z6, z7, z8, z9, z10, z11, z12⟩ := f13 hz3
  refine skip_ (w1 := ?_) (by rfl) rfl ?_ ?_
  rotate_left
  · go_simp
    rfl
  refine hK.out _ _ ⟨(HC0.out _ (lay13_below hb3 HG1.out _ _ _ _ _ _ _ _ _ _ _ _ _)), (HC1.out _ (lay13_below hb3 HG1.out _ _ _ _ _ _ _ _ _ _ _ _ _)), (HC12.out _ (lay13_below hb3 HG1.out _ _ _ _ _ _ _ _ _ _ _ _ _))⟩ (fun hHeld => ?_)
  clear hK K
  refine done_ (by kernel_rfl) ?_
  generalize hW : World.setCell _ _ _ = W4
  have hz4 : W4.heap[W1.heap.size]? = some (.cells #[(.int .i64 x0), (.int .i64 x1), (.int .i64 x12), (.int .i64 (numL l 4 4)), (.int .i64 (numL l 8 4)), (.int .i64 0), (.int .i64 0), (.int .i64 0), (.int .i64 0), (.bool false), (.int .i64 0), (.slice none 0 0), (.slice none 0 0)] 39 (0, 0)) := by rw [← hW]; exact lay13_blk hz3 rfl (.int .i64 x0) (.int .i64 x1) (.int .i64 x12) (.int .i64 (numL l 4 4)) (.int .i64 (numL l 8 4)) (.int .i64 0) (.int .i64 0) (.int .i64 0) (.int .i64 0) (.bool false) (.int .i64 0) (.slice none 0 0) (.slice none 0 0)
  have hy4 : W4.heap[w.heap.size]? = some (.cells zero13 39 (0, 0)) := by rw [← hW]; exact (lay13_far (Nat.ne_of_lt HG2.out) (.int .i64 x0) (.int .i64 x1) (.int .i64 x12) (.int .i64 (numL l 4 4)) (.int .i64 (numL l 8 4)) (.int .i64 0) (.int .i64 0) (.int .i64 0) (.int .i64 0) (.bool false) (.int .i64 0) (.slice none 0 0) (.slice none 0 0)).trans hy3
  have HB4 := Aside0.mk (show Below w.heap.size w W4 from by rw [← hW]; exact lay13_below hb3 HG1.out (.int .i64 x0) (.int .i64 x1) (.int .i64 x12) (.int .i64 (numL l 4 4)) (.int .i64 (numL l 8 4)) (.int .i64 0) (.int .i64 0) (.int .i64 0) (.int .i64 0) (.bool false) (.int .i64 0) (.slice none 0 0) (.slice none 0 0))
  have HZ4 := Aside0.mk hz4
  have HY4 := Aside0.mk hy4
  obtain ⟨g, HGE⟩ : ∃ g, W1.heap.size = g := ⟨_, rfl⟩
  rw [HGE] at HZ4 HG1 HG2 hz4 ⊢
  have HGL := Aside0.mk (show g < W4.heap.size from blk_lt hz4)
  clear hHeld hW hz3 hy3 hb3 k0 k1 k2 k3 k4 k5 k6 k7 k8 k9 k10 k11 k12 z0 z1 z2 z3 z4 z5 z6 z7 z8 z9 z10 z11 z12
  obtain ⟨k0, k1, k2, k3, k4, k5, k6, k7, k8, k9, k10, k11, k12⟩ := c13 hz4
  obtain ⟨z0, z1, z2, z3, z4, z5, z6, z7, z8, z9, z10, z11, z12⟩ := f13 hz4
  clear hz4 hy4
  clear HBR HR1 HBS HK1
  have HBW := Aside0.mk HB4.out
  have HPE := Aside0.mk (show parseL l = (⟨x0, x1, x12, numL l 4 4, numL l 8 4, numL l 16 2, numL l 18 2, 0, numL l 20 2, numL l 22 2 == 0, 0, [], (l.take l.length).drop 24⟩, 0) from by
    unfold parseL
    rw [if_neg (fun h => h HE.out), if_neg (by rw [HKD.out]; decide), if_pos HKD.out, List.take_length, EE.out.2.1, EE.out.2.2.1, ← EE.out.1, HKD.out])
  have G16 := Aside0.mk (fun W (h : Below w.heap.size w W) => get_calls (l := l) (w := W) 16 2 (iz := 16) (mz := 2) (Kd.C_below HR.out h) rfl HC.out HY.out HL.out rfl rfl (by omega) (by have := H24.out; omega))
  have G18 := Aside0.mk (fun W (h : Below w.heap.size w W) => get_calls (l := l) (w := W) 18 2 (iz := 18) (mz := 2) (Kd.C_below HR.out h) rfl HC.out HY.out HL.out rfl rfl (by omega) (by have := H24.out; omega))
  have G20 := Aside0.mk (fun W (h : Below w.heap.size w W) => get_calls (l := l) (w := W) 20 2 (iz := 20) (mz := 2) (Kd.C_below HR.out h) rfl HC.out HY.out HL.out rfl rfl (by omega) (by have := H24.out; omega))
  have G22 := Aside0.mk (fun W (h : Below w.heap.size w W) => get_calls (l := l) (w := W) 22 2 (iz := 22) (mz := 2) (Kd.C_below HR.out h) rfl HC.out HY.out HL.out rfl rfl (by omega) (by have := H24.out; omega))
  go_upto_region 19 with (first | (go_at_call 48; (with_reducible refine (G16.out _ ?hb).mono ?_); (case hb => (repeat (first | with_reducible exact HBW.out | with_reducible apply pw_below_drewN | (refine Below.setCell ?_ HG1.out _)))); rintro e w3 ⟨rfl, ⟨⟨nq, rfl⟩⟩⟩) | (go_at_call 48; (with_reducible refine (G18.out _ ?hb).mono ?_); (case hb => (repeat (first | with_reducible exact HBW.out | with_reducible apply pw_below_drewN | (refine Below.setCell ?_ HG1.out _)))); rintro e w3 ⟨rfl, ⟨⟨nq, rfl⟩⟩⟩))
  generalize hW : World.setCell _ _ _ = W5
  have hz5 : W5.heap[g]? = some (.cells #[.int .i64 x0, .int .i64 x1, .int .i64 x12, .int .i64 (numL l 4 4), .int .i64 (numL l 8 4), .int .i64 (numL l 16 2), .int .i64 (numL l 18 2), .int .i64 0, .int .i64 0, .bool false, .int .i64 0, .slice none 0 0, .slice none 0 0] 39 (0, 0)) := by
    rw [← hW]
    have h := (set_blk ((set_blk (HZ4.out) 5 (.int .i64 (numL l 16 2)))) 6 (.int .i64 (numL l 18 2)))
    simp only [List.setIfInBounds_toArray, List.set_cons_zero, List.set_cons_succ] at h
    exact h
  have hy5 : W5.heap[w.heap.size]? = some (.cells zero13 39 (0, 0)) := by
    rw [← hW]
    exact (Below.heap_setCell _ ⟨g, 6, none⟩ (.int .i64 (numL l 18 2)) w.heap.size (Nat.ne_of_lt HG2.out)).trans ((Below.heap_setCell _ ⟨g, 5, none⟩ (.int .i64 (numL l 16 2)) w.heap.size (Nat.ne_of_lt HG2.out)).trans (HY4.out))
  have HB5 : Aside0 (Below w.heap.size w W5) := Aside0.mk (by
    rw [← hW]
    repeat (first | with_reducible exact HB4.out | with_reducible apply pw_below_drewN | (refine Below.setCell ?_ HG1.out _)))
  have HZ5 := Aside0.mk hz5
  have HY5 := Aside0.mk hy5
  clear hW k0 k1 k2 k3 k4 k5 k6 k7 k8 k9 k10 k11 k12 z0 z1 z2 z3 z4 z5 z6 z7 z8 z9 z10 z11 z12
  obtain ⟨k0, k1, k2, k3, k4, k5, k6, k7, k8, k9, k10, k11, k12⟩ := c13 hz5
  obtain ⟨z0, z1, z2, z3, z4, z5, z6, z7, z8, z9, z10, z11, z12⟩ := f13 hz5
  clear hz5 hy5
  clear HBW
  have HBW := Aside0.mk HB5.out
  go_upto_region 20 with (first | (go_at_call 48; (with_reducible refine (G20.out _ ?hb).mono ?_); (case hb => (repeat (first | with_reducible exact HBW.out | with_reducible apply pw_below_drewN | (refine Below.setCell ?_ HG1.out _)))); rintro e w3 ⟨rfl, ⟨⟨nq, rfl⟩⟩⟩) | (go_at_call 48; (with_reducible refine (G22.out _ ?hb).mono ?_); (case hb => (repeat (first | with_reducible exact HBW.out | with_reducible apply pw_below_drewN | (refine Below.setCell ?_ HG1.out _)))); rintro e w3 ⟨rfl, ⟨⟨nq, rfl⟩⟩⟩))
  generalize hW : World.setCell _ _ _ = W6
  have hz6 : W6.heap[g]? = some (.cells #[.int .i64 x0, .int .i64 x1, .int .i64 x12, .int .i64 (numL l 4 4), .int .i64 (numL l 8 4), .int .i64 (numL l 16 2), .int .i64 (numL l 18 2), .int .i64 0, .int .i64 (numL l 20 2), .bool (numL l 22 2 == 0), .int .i64 0, .slice none 0 0, .slice none 0 0] 39 (0, 0)) := by
    rw [← hW]
    have h := (set_blk ((set_blk (HZ5.out) 8 (.int .i64 (numL l 20 2)))) 9 (.bool (numL l 22 2 == 0)))
    simp only [List.setIfInBounds_toArray, List.set_cons_zero, List.set_cons_succ] at h
    exact h
  have hy6 : W6.heap[w.heap.size]? = some (.cells zero13 39 (0, 0)) := by
    rw [← hW]
    exact (Below.heap_setCell _ ⟨g, 9, none⟩ (.bool (numL l 22 2 == 0)) w.heap.size (Nat.ne_of_lt HG2.out)).trans ((Below.heap_setCell _ ⟨g, 8, none⟩ (.int .i64 (numL l 20 2)) w.heap.size (Nat.ne_of_lt HG2.out)).trans (HY5.out))
  have HB6 : Aside0 (Below w.heap.size w W6) := Aside0.mk (by
    rw [← hW]
    repeat (first | with_reducible exact HB5.out | with_reducible apply pw_below_drewN | (refine Below.setCell ?_ HG1.out _)))
  have HZ6 := Aside0.mk hz6
  have HY6 := Aside0.mk hy6
  clear hW k0 k1 k2 k3 k4 k5 k6 k7 k8 k9 k10 k11 k12 z0 z1 z2 z3 z4 z5 z6 z7 z8 z9 z10 z11 z12
  obtain ⟨k0, k1, k2, k3, k4, k5, k6, k7, k8, k9, k10, k11, k12⟩ := c13 hz6
  obtain ⟨z0, z1, z2, z3, z4, z5, z6, z7, z8, z9, z10, z11, z12⟩ := f13 hz6
  clear hz6 hy6
  obtain ⟨A3, hcut3, hC3⟩ := cut3 (A := some ad) (c := c) (l := l) (24) l.length (l.length - (24)) (iz := 24) (jz := (l.length : Int)) (by have := HLE.out; omega) rfl rfl (by have := HLE.out; omega) (Nat.le_refl _) rfl HC.out
  have HC3 := Aside0.mk (fun W (h : Below w.heap.size w W) => hC3 W (Kd.C_below HR.out h))
  clear hC3
  go_upto_region 21 with (first
    | (go_at_call 49; refine (clone_calls (HC3.out _ HB6.out) (C_len (HC3.out w (Below.refl _ _))) (Nat.le_refl _) (by rw [C_len (HC3.out w (Below.refl _ _))]; have := HL.out; omega)).mono ?_; rintro e w6 ⟨v, rfl, ho, hb6⟩; obtain ⟨Av, cv, ev⟩ := Kd.R_slice ho; rw [C_len (HC3.out w (Below.refl _ _))] at ev; subst ev; have HZc := Aside0.mk ((hb6.block g (blk_lt HZ6.out)).trans HZ6.out); have HYc := Aside0.mk ((hb6.block w.heap.size (blk_lt HY6.out)).trans HY6.out); have HO := Aside0.mk ho; have HF6 := Aside0.mk (show ∀ k, k < W6.heap.size → w6.heap[k]? = W6.heap[k]? from hb6.block); have HLT := Aside0.mk (blk_lt HZ6.out); have HBc := Aside0.mk (below_step HB6.out hb6); clear ho hb6 k0 k1 k2 k3 k4 k5 k6 k7 k8 k9 k10 k11 k12 z0 z1 z2 z3 z4 z5 z6 z7 z8 z9 z10 z11 z12; obtain ⟨k0, k1, k2, k3, k4, k5, k6, k7, k8, k9, k10, k11, k12⟩ := c13 HZc.out; obtain ⟨z0, z1, z2, z3, z4, z5, z6, z7, z8, z9, z10, z11, z12⟩ := f13 HZc.out))
  clear k0 k1 k2 k3 k4 k5 k6 k7 k8 k9 k10 k11 k12 z0 z1 z2 z3 z4 z5 z6 z7 z8 z9 z10 z11 z12 hcut3
  have hz7 := set_blk HZc.out 12 (.slice Av (l.length - (24)) cv)
  simp only [List.setIfInBounds_toArray, List.set_cons_zero, List.set_cons_succ] at hz7
  have hy7 := (Below.heap_setCell w6 ⟨g, 12, none⟩ (.slice Av (l.length - (24)) cv) w.heap.size (Nat.ne_of_lt HG2.out)).trans HYc.out
  have HB7 := Aside0.mk (HBc.out.setCell (p := ⟨g, 12, none⟩) HG1.out (.slice Av (l.length - (24)) cv))
  have HF7 := Aside0.mk (show ∀ k, k ≠ g → (w6.setCell ⟨g, 12, none⟩ (.slice Av (l.length - (24)) cv)).heap[k]? = w6.heap[k]? from fun k hk => Below.heap_setCell w6 ⟨g, 12, none⟩ _ k hk)
  generalize w6.setCell ⟨g, 12, none⟩ (.slice Av (l.length - (24)) cv) = W7 at hz7 hy7 HB7 HF7 ⊢
  obtain ⟨k0, k1, k2, k3, k4, k5, k6, k7, k8, k9, k10, k11, k12⟩ := c13 hz7
  obtain ⟨y0, y1, y2, y3, y4, y5, y6, y7, y8, y9, y10, y11, y12⟩ := c13 hy7
  obtain ⟨u0, u1, u2, u3, u4, u5, u6, u7, u8, u9, u10, u11, u12⟩ := f13 hy7
  clear hz7 hy7
  go_wp2
  (try simp only [Exit.inBlock, Exit.then])
  refine bodyPost_ret (v := .tuple #[.agg #[.int .i64 x0, .int .i64 x1, .int .i64 x12, .int .i64 (numL l 4 4), .int .i64 (numL l 8 4), .int .i64 (numL l 16 2), .int .i64 (numL l 18 2), .int .i64 0, .int .i64 (numL l 20 2), .bool (numL l 22 2 == 0), .int .i64 0, .slice none 0 0, .slice Av (l.length - (24)) cv], .int .i64 0]) ?_ rfl (parsed_ok (v1 := .slice none 0 0) (v2 := .slice Av (l.length - (24)) cv) HPE.out (Kd.R_nil _ _ _ _ _) (RB_move HO.out (Nat.le_of_lt (Nat.lt_trans HG2.out HLT.out)) ?_) ?_ ?_)
  · rw [results_cell_tmp rfl]
    go_simp
  · intro k hk _
    have h1 := HG2.out
    have h2 := HLT.out
    exact (lay13_far (by omega) _ _ _ _ _ _ _ _ _ _ _ _ _).trans (HF7.out k (by omega))
  · intro k hk; simp [Value.ownBlock] at hk
  · exact lay13_below HB7.out (Nat.le_refl _) _ _ _ _ _ _ _ _ _ _ _ _ _
set_option maxHeartbeats 8000000 in
set_option maxRecDepth 100000 in
theorem parse_stream {c : Nat} {A : Option Addr} {l : List Int} {w : World} (hr : Kd.C (Kd.int .u8) w A l.length l) (hc : l.length ≤ c) (hl : l.length ≤ 100000) (hb : Bytes l) (he : headE l = 0) (h24 : 24 ≤ l.length) (hk : l.getD 0 0 = 1) :
    Calls Try.prog 15 #[.slice A l.length c] w (Parsed w l) := by
  have HR := Aside0.mk hr
  have HC := Aside0.mk hc
  have HL := Aside0.mk hl
  have HY := Aside0.mk hb
  have HBW := fun o => Kd.C_alloc hr o
  have hbe : (headE l == 0) = true := beq_iff_eq.mpr he
  have hbn : (headE l != 0) = false := by rw [he]; rfl
  have HE := Aside0.mk he
  have HKD := Aside0.mk hk
  have H24 := Aside0.mk (show 24 ≤ l.length by omega)
  have HLE := Aside0.mk h24
  obtain ⟨ad, rfl, hcell⟩ := cells_of hr (by omega)
  have c0 := hcell 0 (by omega)
  rw [Addr.add_zero'] at c0
  have b0 := getD_byte hb 0
  obtain ⟨x0, e0⟩ : ∃ x, l.getD 0 0 = x := ⟨_, rfl⟩
  rw [e0] at c0 b0
  have w0 : wrap64 x0 = x0 := wid (by omega) (by omega)
  have i0 : (0 : Int) < (l.length : Int) := by omega
  have c1 : w.cell? ⟨ad.block, ad.off + 1, none⟩ = _ := hcell 1 (by omega)
  have b1 := getD_byte hb 1
  obtain ⟨x1, e1⟩ : ∃ x, l.getD 1 0 = x := ⟨_, rfl⟩
  rw [e1] at c1 b1
  have w1 : wrap64 x1 = x1 := wid (by omega) (by omega)
  have i1 : (1 : Int) < (l.length : Int) := by omega
  have c12 : w.cell? ⟨ad.block, ad.off + 12, none⟩ = _ := hcell 12 (by omega)
  have b12 := getD_byte hb 12
  obtain ⟨x12, e12⟩ : ∃ x, l.getD 12 0 = x := ⟨_, rfl⟩
  rw [e12] at c12 b12
  have w12 : wrap64 x12 = x12 := wid (by omega) (by omega)
  have i12 : (12 : Int) < (l.length : Int) := by omega
  have c20 : w.cell? ⟨ad.block, ad.off + 20, none⟩ = _ := hcell 20 (by omega)
  have b20 := getD_byte hb 20
  obtain ⟨x20, e20⟩ : ∃ x, l.getD 20 0 = x := ⟨_, rfl⟩
  rw [e20] at c20 b20
  have w20 : wrap64 x20 = x20 := wid (by omega) (by omega)
  have i20 : (20 : Int) < (l.length : Int) := by omega
  have c21 : w.cell? ⟨ad.block, ad.off + 21, none⟩ = _ := hcell 21 (by omega)
  have b21 := getD_byte hb 21
  obtain ⟨x21, e21⟩ : ∃ x, l.getD 21 0 = x := ⟨_, rfl⟩
  rw [e21] at c21 b21
  have w21 : wrap64 x21 = x21 := wid (by omega) (by omega)
  have i21 : (21 : Int) < (l.length : Int) := by omega
  have i0n : 0 < l.length := by omega
  have HC0 := Aside0.mk (show ∀ W, Below w.heap.size w W → W.cell? ad = some (.int .u8 x0) from fun W h => (h.cell (World.block_lt_of_cell? w _ c0)).trans c0)
  have HC1 := Aside0.mk (show ∀ W, Below w.heap.size w W → W.cell? ⟨ad.block, ad.off + 1, none⟩ = some (.int .u8 x1) from fun W h => (h.cell (World.block_lt_of_cell? w _ c1)).trans c1)
  have HC12 := Aside0.mk (show ∀ W, Below w.heap.size w W → W.cell? ⟨ad.block, ad.off + 12, none⟩ = some (.int .u8 x12) from fun W h => (h.cell (World.block_lt_of_cell? w _ c12)).trans c12)
  have HC20 := Aside0.mk (show ∀ W, Below w.heap.size w W → W.cell? ⟨ad.block, ad.off + 20, none⟩ = some (.int .u8 x20) from fun W h => (h.cell (World.block_lt_of_cell? w _ c20)).trans c20)
  have HC21 := Aside0.mk (show ∀ W, Below w.heap.size w W → W.cell? ⟨ad.block, ad.off + 21, none⟩ = some (.int .u8 x21) from fun W h => (h.cell (World.block_lt_of_cell? w _ c21)).trans c21)
  have EE := Aside0.mk (And.intro e0 (And.intro e1 (And.intro e12 (And.intro e20 (And.intro e21 trivial)))))
  clear hcell c0 c1 c12 c20 c21 e0 e1 e12 e20 e21
  rw [EE.out.1] at hk
  have q3 : (x0 == 3) = false := by rw [hk]; rfl
  have q2 : (x0 == 2) = false := by rw [hk]; rfl
  clear he hr hc hl hb h24 hk
  go_enter Try.func15, Try.ntmps15
  go_upto_region 4 with (first
    | (go_at_call 47; refine (head_calls (HBW _) rfl HC.out HY.out HL.out).mono ?_; rintro e w1 ⟨rfl, ⟨⟨nd, rfl⟩⟩⟩))
  have HBR := Aside0.mk (bd ((Below.refl w.heap.size w).alloc (Nat.le_refl _) (.cells zero13 39)) nd)
  have HK1 := Aside0.mk (show (((w.alloc (.cells zero13 39)).drewN nd).heap[w.heap.size]? = some (.cells zero13 39 (0, 0))) from new_blk w _)
  have HR1 := Aside0.mk (Kd.C_drewN (HBW (.cells zero13 39)) nd)
  have HG1 := Aside0.mk (show w.heap.size ≤ ((w.alloc (.cells zero13 39)).drewN nd).heap.size from HBR.out.size)
  have HG2 := Aside0.mk (show w.heap.size < ((w.alloc (.cells zero13 39)).drewN nd).heap.size from blk_lt HK1.out)
  change Code.wp _ _ _ _ ((w.alloc (.cells zero13 39)).drewN nd)
  generalize ((w.alloc (.cells zero13 39)).drewN nd) = W1 at HBR HK1 HR1 HG1 HG2 ⊢
  have HBS := Aside0.mk (Below.refl W1.heap.size W1)
  clear HBW nd
  refine start_ (n := 19) (S := fun w' => w'.cell? ad = some (.int .u8 x0) ∧ w'.cell? ⟨ad.block, ad.off + 1, none⟩ = some (.int .u8 x1) ∧ w'.cell? ⟨ad.block, ad.off + 12, none⟩ = some (.int .u8 x12)) (ds := []) #[fF,fF,fF,fF,fF,fF,fF,fF,fF,fF,fF,fF,fF,fF,fF,fF,fF,fF,fF] (by kernel_rfl) rfl rfl ⟨(HC0.out _ (by repeat (first | (with_reducible first | exact HBR.out | apply below_alloc | apply pw_below_drewN | apply below_drew1) | exact HBR.out))), (HC1.out _ (by repeat (first | (with_reducible first | exact HBR.out | apply below_alloc | apply pw_below_drewN | apply below_drew1) | exact HBR.out))), (HC12.out _ (by repeat (first | (with_reducible first | exact HBR.out | apply below_alloc | apply pw_below_drewN | apply below_drew1) | exact HBR.out)))⟩ (fun hHeld => ?_)
  refine pure_ (i := 0) (N := some 13) (v := ?_) (a' := ?_) #[tT,fF,fF,fF,fF,fF,fF,fF,fF,fF,fF,fF,fF,fF,fF,fF,fF,fF,fF] rfl rfl (by kernel_rfl) (fun _ _ _ h => h) (Or.inl ⟨by rfl, ?_⟩) ?_ ?_
  rotate_left; · intro w'; go_simp; with_reducible rfl
  rotate_left; · simp only [Act.put, q_a, q_0, q_s, i64_w, i32_w]; rfl
  refine pure_ (i := 1) (N := some 14) (v := ?_) (a' := ?_) #[tT,tT,fF,fF,fF,fF,fF,fF,fF,fF,fF,fF,fF,fF,fF,fF,fF,fF,fF] rfl rfl (by kernel_rfl) (fun _ _ _ h => h) (Or.inl ⟨by rfl, ?_⟩) ?_ ?_
  rotate_left; · intro w'; go_simp; with_reducible rfl
  rotate_left; · simp only [Act.put, q_a, q_0, q_s, i64_w, i32_w]; rfl
  refine pure_ (i := 4) (N := some 17) (v := ?_) (a' := ?_) #[tT,tT,fF,fF,tT,fF,fF,fF,fF,fF,fF,fF,fF,fF,fF,fF,fF,fF,fF] rfl rfl (by kernel_rfl) (fun _ _ _ h => h) (Or.inl ⟨by rfl, ?_⟩) ?_ ?_
  rotate_left; · intro w'; go_simp; with_reducible rfl
  rotate_left; · simp only [Act.put, q_a, q_0, q_s, i64_w, i32_w]; rfl
  refine pure_ (i := 5) (N := some 18) (v := ?_) (a' := ?_) #[tT,tT,fF,fF,tT,tT,fF,fF,fF,fF,fF,fF,fF,fF,fF,fF,fF,fF,fF] rfl rfl (by kernel_rfl) (fun _ _ _ h => h) (Or.inl ⟨by rfl, ?_⟩) ?_ ?_
  rotate_left; · intro w'; go_simp; with_reducible rfl
  rotate_left; · simp only [Act.put, q_a, q_0, q_s, i64_w, i32_w]; rfl
  refine pure_ (i := 8) (N := some 21) (v := ?_) (a' := ?_) #[tT,tT,fF,fF,tT,tT,fF,fF,tT,fF,fF,fF,fF,fF,fF,fF,fF,fF,fF] rfl rfl (by kernel_rfl) (fun _ _ _ h => h) (Or.inl ⟨by rfl, ?_⟩) ?_ ?_
  rotate_left; · intro w'; go_simp; with_reducible rfl
  rotate_left; · simp only [Act.put, q_a, q_0, q_s, i64_w, i32_w]; rfl
  refine pure_ (i := 9) (N := some 22) (v := ?_) (a' := ?_) #[tT,tT,fF,fF,tT,tT,fF,fF,tT,tT,fF,fF,fF,fF,fF,fF,fF,fF,fF] rfl rfl (by kernel_rfl) (fun _ _ _ h => h) (Or.inl ⟨by rfl, ?_⟩) ?_ ?_
  rotate_left; · intro w'; go_simp; with_reducible rfl
  rotate_left; · simp only [Act.put, q_a, q_0, q_s, i64_w, i32_w]; rfl
  refine pure_ (i := 12) (N := some 25) (v := ?_) (a' := ?_) #[tT,tT,fF,fF,tT,tT,fF,fF,tT,tT,fF,fF,tT,fF,fF,fF,fF,fF,fF] rfl rfl (by kernel_rfl) (fun _ _ _ h => h) (Or.inl ⟨by rfl, ?_⟩) ?_ ?_
  rotate_left; · intro w'; go_simp; with_reducible rfl
  rotate_left; · simp only [Act.put, q_a, q_0, q_s, i64_w, i32_w]; rfl
  refine pure_ (i := 14) (N := some 27) (v := ?_) (a' := ?_) #[tT,tT,fF,fF,tT,tT,fF,fF,tT,tT,fF,fF,tT,fF,tT,fF,fF,fF,fF] rfl rfl (by kernel_rfl) (fun _ _ _ h => h) (Or.inl ⟨by rfl, ?_⟩) ?_ ?_
  rotate_left; · intro w'; go_simp; with_reducible rfl
  rotate_left; · simp only [Act.put, q_a, q_0, q_s, i64_w, i32_w]; rfl
  refine take_ (i := 2) (N := some 15) (v := ?_) (a' := ?_) #[tT,tT,tT,fF,tT,tT,fF,fF,tT,tT,fF,fF,tT,fF,tT,fF,fF,fF,fF] rfl rfl (by kernel_rfl) (fun _ _ _ h => h) (Or.inl ⟨by rfl, ?_⟩) hHeld ?_ ?_
  rotate_left
  · rintro w' ⟨s0, s1, s2⟩
    go_simp
    with_reducible rfl
  rotate_left; · simp only [Act.put, q_a, q_0, q_s, i64_w, i32_w]; rfl
  refine pure_ (i := 3) (N := some 16) (v := ?_) (a' := ?_) #[tT,tT,tT,tT,tT,tT,fF,fF,tT,tT,fF,fF,tT,fF,tT,fF,fF,fF,fF] rfl rfl (by kernel_rfl) (fun _ _ _ h => h) (Or.inl ⟨by rfl, ?_⟩) ?_ ?_
  rotate_left; · intro w'; go_simp; with_reducible rfl
  rotate_left; · simp only [Act.put, q_a, q_0, q_s, i64_w, i32_w]; rfl
  refine take_ (i := 6) (N := some 19) (v := ?_) (a' := ?_) #[tT,tT,tT,tT,tT,tT,tT,fF,tT,tT,fF,fF,tT,fF,tT,fF,fF,fF,fF] rfl rfl (by kernel_rfl) (fun _ _ _ h => h) (Or.inl ⟨by rfl, ?_⟩) hHeld ?_ ?_
  rotate_left
  · rintro w' ⟨s0, s1, s2⟩
    go_simp
    with_reducible rfl
  rotate_left; · simp only [Act.put, q_a, q_0, q_s, i64_w, i32_w]; rfl
  refine pure_ (i := 7) (N := some 20) (v := ?_) (a' := ?_) #[tT,tT,tT,tT,tT,tT,tT,tT,tT,tT,fF,fF,tT,fF,tT,fF,fF,fF,fF] rfl rfl (by kernel_rfl) (fun _ _ _ h => h) (Or.inl ⟨by rfl, ?_⟩) ?_ ?_
  rotate_left; · intro w'; go_simp; with_reducible rfl
  rotate_left; · simp only [Act.put, q_a, q_0, q_s, i64_w, i32_w]; rfl
  refine take_ (i := 10) (N := some 23) (v := ?_) (a' := ?_) #[tT,tT,tT,tT,tT,tT,tT,tT,tT,tT,tT,fF,tT,fF,tT,fF,fF,fF,fF] rfl rfl (by kernel_rfl) (fun _ _ _ h => h) (Or.inl ⟨by rfl, ?_⟩) hHeld ?_ ?_
  rotate_left
  · rintro w' ⟨s0, s1, s2⟩
    go_simp
    with_reducible rfl
  rotate_left; · simp only [Act.put, q_a, q_0, q_s, i64_w, i32_w]; rfl
  refine pure_ (i := 11) (N := some 24) (v := ?_) (a' := ?_) #[tT,tT,tT,tT,tT,tT,tT,tT,tT,tT,tT,tT,tT,fF,tT,fF,fF,fF,fF] rfl rfl (by kernel_rfl) (fun _ _ _ h => h) (Or.inl ⟨by rfl, ?_⟩) ?_ ?_
  rotate_left; · intro w'; go_simp; with_reducible rfl
  rotate_left; · simp only [Act.put, q_a, q_0, q_s, i64_w, i32_w]; rfl
  refine join_ (σ := Unit) 1 #[tT,tT,tT,tT,tT,tT,tT,tT,tT,tT,tT,tT,tT,tT,tT,tT,tT,tT,fF] (fun _ => [(26, .int .i64 (numL l 4 4)), (28, .int .i64 (numL l 8 4)), (29, .agg #[.int .i64 x0, .int .i64 x1, .int .i64 x12, .int .i64 (numL l 4 4), .int .i64 (numL l 8 4), .int .i64 0, .int .i64 0, .int .i64 0, .int .i64 0, .bool false, .int .i64 0, .slice none 0 0, .slice none 0 0]), (5, .pointer (some ⟨W1.heap.size, 0, none⟩))]) (fun _ w' => w'.heap[W1.heap.size]? = some (.cells zero13 39 (0, 0)) ∧ w'.heap[w.heap.size]? = some (.cells zero13 39 (0, 0)) ∧ Below w.heap.size w w') ?_ ?_
  rotate_left
  · intro hCont
    refine two_ (i := 13) (j := 17) (Ni := some 26) (Nj := some 5) #[tT,tT,tT,tT,tT,tT,tT,tT,tT,tT,tT,tT,tT,tT,tT,fF,fF,fF,fF] #[tT,tT,tT,tT,tT,tT,tT,tT,tT,tT,tT,tT,tT,fF,tT,fF,fF,tT,fF] rfl rfl rfl rfl (by kernel_rfl) (by decide) (by decide) (fun K hK => ?_) (fun K hK => ?_)
    · skip
      refine goes_ Try.func48 (by kernel_rfl) rfl #[.slice (some ad) l.length c, .int .i64 4, .int .i64 4] (by rfl) rfl rfl (by simp only [List.map_toArray, List.map_cons, List.map_nil]; rfl) ?_
      with_reducible refine (get_calls (l := l) 4 4 (iz := 4) (mz := 4) (by repeat (first | exact HR1.out | (with_reducible refine Kd.C_alloc ?_ _) | (with_reducible refine Kd.C_drewN ?_ _) | (with_reducible refine Kd.C_drew ?_))) rfl HC.out HY.out HL.out rfl rfl (by omega) (by have := H24.out; omega)).mono ?_
      rintro e w3 ⟨rfl, ⟨⟨nq, rfl⟩⟩⟩
      refine ⟨_, rfl, ?_⟩
      refine hK.out _ _ ⟨(HC0.out _ (by repeat (first | (with_reducible first | exact HBR.out | apply below_alloc | apply pw_below_drewN | apply below_drew1) | exact HBR.out))), (HC1.out _ (by repeat (first | (with_reducible first | exact HBR.out | apply below_alloc | apply pw_below_drewN | apply below_drew1) | exact HBR.out))), (HC12.out _ (by repeat (first | (with_reducible first | exact HBR.out | apply below_alloc | apply pw_below_drewN | apply below_drew1) | exact HBR.out)))⟩ (fun hHeld => ?_)
      clear hK K
      refine norm_ (a' := ?_) ?_ ?_
      rotate_left
      · show Act.put _ (some 26) _ = _
        simp only [Act.put, q_a, q_0, q_s, i64_w, i32_w]
        rfl
      refine two_ (i := 15) (j := 17) (Ni := some 28) (Nj := some 5) #[tT,tT,tT,tT,tT,tT,tT,tT,tT,tT,tT,tT,tT,tT,tT,tT,fF,fF,fF] #[tT,tT,tT,tT,tT,tT,tT,tT,tT,tT,tT,tT,tT,tT,tT,fF,fF,tT,fF] rfl rfl rfl rfl (by kernel_rfl) (by decide) (by decide) (fun K hK => ?_) (fun K hK => ?_)
      · skip
        refine goes_ Try.func48 (by kernel_rfl) rfl #[.slice (some ad) l.length c, .int .i64 8, .int .i64 4] (by rfl) rfl rfl (by simp only [List.map_toArray, List.map_cons, List.map_nil]; rfl) ?_
        with_reducible refine (get_calls (l := l) 8 4 (iz := 8) (mz := 4) (by repeat (first | exact HR1.out | (with_reducible refine Kd.C_alloc ?_ _) | (with_reducible refine Kd.C_drewN ?_ _) | (with_reducible refine Kd.C_drew ?_))) rfl HC.out HY.out HL.out rfl rfl (by omega) (by have := H24.out; omega)).mono ?_
        rintro e w3 ⟨rfl, ⟨⟨nq, rfl⟩⟩⟩
        refine ⟨_, rfl, ?_⟩
        refine hK.out _ _ ⟨(HC0.out _ (by repeat (first | (with_reducible first | exact HBR.out | apply below_alloc | apply pw_below_drewN | apply below_drew1) | exact HBR.out))), (HC1.out _ (by repeat (first | (with_reducible first | exact HBR.out | apply below_alloc | apply pw_below_drewN | apply below_drew1) | exact HBR.out))), (HC12.out _ (by repeat (first | (with_reducible first | exact HBR.out | apply below_alloc | apply pw_below_drewN | apply below_drew1) | exact HBR.out)))⟩ (fun hHeld => ?_)
        clear hK K
        refine norm_ (a' := ?_) ?_ ?_
        rotate_left
        · show Act.put _ (some 28) _ = _
          simp only [Act.put, q_a, q_0, q_s, i64_w, i32_w]
          rfl
        refine pure_ (i := 16) (N := some 29) (v := ?_) (a' := ?_) #[tT,tT,tT,tT,tT,tT,tT,tT,tT,tT,tT,tT,tT,tT,tT,tT,tT,fF,fF] rfl rfl (by kernel_rfl) (fun _ _ _ h => h) (Or.inl ⟨by rfl, ?_⟩) ?_ ?_
        rotate_left; · intro w'; go_simp; with_reducible rfl
        rotate_left; · simp only [Act.put, q_a, q_0, q_s, i64_w, i32_w]; rfl
        refine one_ (i := 17) (N := some 5) #[tT,tT,tT,tT,tT,tT,tT,tT,tT,tT,tT,tT,tT,tT,tT,tT,tT,tT,fF] rfl rfl (by kernel_rfl) (by decide) (fun K hK => ?_)
        refine value_ (w1 := ?_) (v := ?_) (by rfl) rfl ?_ ?_
        rotate_left 2
        · go_simp
          constructor
          · rfl
          · rfl
        refine hK.out _ _ ⟨(HC0.out _ (by repeat (first | (with_reducible first | exact HBR.out | apply below_alloc | apply pw_below_drewN | apply below_drew1) | exact HBR.out))), (HC1.out _ (by repeat (first | (with_reducible first | exact HBR.out | apply below_alloc | apply pw_below_drewN | apply below_drew1) | exact HBR.out))), (HC12.out _ (by repeat (first | (with_reducible first | exact HBR.out | apply below_alloc | apply pw_below_drewN | apply below_drew1) | exact HBR.out)))⟩ (fun hHeld => ?_)
        clear hK K
        refine norm_ (a' := ?_) ?_ ?_
        rotate_left
        · show Act.put _ (some 5) _ = _
          simp only [Act.put, q_a, q_0, q_s, i64_w, i32_w]
          rfl
        exact norm_ (by simp only [putAll, Act.put, q_a, q_0, q_s]) (hCont () _ ⟨new_blk W1 _, (by refine Eq.trans (Below.block (B := W1.heap.size) (w := W1) ?_ _ HG2.out) HK1.out; repeat (first | (with_reducible first | exact HBS.out | apply below_alloc | apply pw_below_drewN | apply below_drew1) | exact HBS.out)), (by repeat (first | (with_reducible first | exact HBR.out | apply below_alloc | apply pw_below_drewN | apply below_drew1) | exact HBR.out))⟩)
      · skip
        refine value_ (w1 := ?_) (v := ?_) (by rfl) rfl ?_ ?_
        rotate_left 2
        · go_simp
          constructor
          · rfl
          · rfl
        refine hK.out _ _ ⟨(HC0.out _ (by repeat (first | (with_reducible first | exact HBR.out | apply below_alloc | apply pw_below_drewN | apply below_drew1) | exact HBR.out))), (HC1.out _ (by repeat (first | (with_reducible first | exact HBR.out | apply below_alloc | apply pw_below_drewN | apply below_drew1) | exact HBR.out))), (HC12.out _ (by repeat (first | (with_reducible first | exact HBR.out | apply below_alloc | apply pw_below_drewN | apply below_drew1) | exact HBR.out)))⟩ (fun hHeld => ?_)
        clear hK K
        refine norm_ (a' := ?_) ?_ ?_
        rotate_left
        · show Act.put _ (some 5) _ = _
          simp only [Act.put, q_a, q_0, q_s, i64_w, i32_w]
          rfl
        refine one_ (i := 15) (N := some 28) #[tT,tT,tT,tT,tT,tT,tT,tT,tT,tT,tT,tT,tT,tT,tT,tT,fF,tT,fF] rfl rfl (by kernel_rfl) (by decide) (fun K hK => ?_)
        refine goes_ Try.func48 (by kernel_rfl) rfl #[.slice (some ad) l.length c, .int .i64 8, .int .i64 4] (by rfl) rfl rfl (by simp only [List.map_toArray, List.map_cons, List.map_nil]; rfl) ?_
        with_reducible refine (get_calls (l := l) 8 4 (iz := 8) (mz := 4) (by repeat (first | exact HR1.out | (with_reducible refine Kd.C_alloc ?_ _) | (with_reducible refine Kd.C_drewN ?_ _) | (with_reducible refine Kd.C_drew ?_))) rfl HC.out HY.out HL.out rfl rfl (by omega) (by have := H24.out; omega)).mono ?_
        rintro e w3 ⟨rfl, ⟨⟨nq, rfl⟩⟩⟩
        refine ⟨_, rfl, ?_⟩
        refine hK.out _ _ ⟨(HC0.out _ (by repeat (first | (with_reducible first | exact HBR.out | apply below_alloc | apply pw_below_drewN | apply below_drew1) | exact HBR.out))), (HC1.out _ (by repeat (first | (with_reducible first | exact HBR.out | apply below_alloc | apply pw_below_drewN | apply below_drew1) | exact HBR.out))), (HC12.out _ (by repeat (first | (with_reducible first | exact HBR.out | apply below_alloc | apply pw_below_drewN | apply below_drew1) | exact HBR.out)))⟩ (fun hHeld => ?_)
        clear hK K
        refine norm_ (a' := ?_) ?_ ?_
        rotate_left
        · show Act.put _ (some 28) _ = _
          simp only [Act.put, q_a, q_0, q_s, i64_w, i32_w]
          rfl
        refine pure_ (i := 16) (N := some 29) (v := ?_) (a' := ?_) #[tT,tT,tT,tT,tT,tT,tT,tT,tT,tT,tT,tT,tT,tT,tT,tT,tT,tT,fF] rfl rfl (by kernel_rfl) (fun _ _ _ h => h) (Or.inl ⟨by rfl, ?_⟩) ?_ ?_
        rotate_left; · intro w'; go_simp; with_reducible rfl
        rotate_left; · simp only [Act.put, q_a, q_0, q_s, i64_w, i32_w]; rfl
        exact norm_ (by simp only [putAll, Act.put, q_a, q_0, q_s]) (hCont () _ ⟨new_blk W1 _, (by refine Eq.trans (Below.block (B := W1.heap.size) (w := W1) ?_ _ HG2.out) HK1.out; repeat (first | (with_reducible first | exact HBS.out | apply below_alloc | apply pw_below_drewN | apply below_drew1) | exact HBS.out)), (by repeat (first | (with_reducible first | exact HBR.out | apply below_alloc | apply pw_below_drewN | apply below_drew1) | exact HBR.out))⟩)
    · skip
      refine value_ (w1 := ?_) (v := ?_) (by rfl) rfl ?_ ?_
      rotate_left 2
      · go_simp
        constructor
        · rfl
        · rfl
      refine hK.out _ _ ⟨(HC0.out _ (by repeat (first | (with_reducible first | exact HBR.out | apply below_alloc | apply pw_below_drewN | apply below_drew1) | exact HBR.out))), (HC1.out _ (by repeat (first | (with_reducible first | exact HBR.out | apply below_alloc | apply pw_below_drewN | apply below_drew1) | exact HBR.out))), (HC12.out _ (by repeat (first | (with_reducible first | exact HBR.out | apply below_alloc | apply pw_below_drewN | apply below_drew1) | exact HBR.out)))⟩ (fun hHeld => ?_)
      clear hK K
      refine norm_ (a' := ?_) ?_ ?_
      rotate_left
      · show Act.put _ (some 5) _ = _
        simp only [Act.put, q_a, q_0, q_s, i64_w, i32_w]
        rfl
      refine one_ (i := 13) (N := some 26) #[tT,tT,tT,tT,tT,tT,tT,tT,tT,tT,tT,tT,tT,tT,tT,fF,fF,tT,fF] rfl rfl (by kernel_rfl) (by decide) (fun K hK => ?_)
      refine goes_ Try.func48 (by kernel_rfl) rfl #[.slice (some ad) l.length c, .int .i64 4, .int .i64 4] (by rfl) rfl rfl (by simp only [List.map_toArray, List.map_cons, List.map_nil]; rfl) ?_
      with_reducible refine (get_calls (l := l) 4 4 (iz := 4) (mz := 4) (by repeat (first | exact HR1.out | (with_reducible refine Kd.C_alloc ?_ _) | (with_reducible refine Kd.C_drewN ?_ _) | (with_reducible refine Kd.C_drew ?_))) rfl HC.out HY.out HL.out rfl rfl (by omega) (by have := H24.out; omega)).mono ?_
      rintro e w3 ⟨rfl, ⟨⟨nq, rfl⟩⟩⟩
      refine ⟨_, rfl, ?_⟩
      refine hK.out _ _ ⟨(HC0.out _ (by repeat (first | (with_reducible first | exact HBR.out | apply below_alloc | apply pw_below_drewN | apply below_drew1) | exact HBR.out))), (HC1.out _ (by repeat (first | (with_reducible first | exact HBR.out | apply below_alloc | apply pw_below_drewN | apply below_drew1) | exact HBR.out))), (HC12.out _ (by repeat (first | (with_reducible first | exact HBR.out | apply below_alloc | apply pw_below_drewN | apply below_drew1) | exact HBR.out)))⟩ (fun hHeld => ?_)
      clear hK K
      refine norm_ (a' := ?_) ?_ ?_
      rotate_left
      · show Act.put _ (some 26) _ = _
        simp only [Act.put, q_a, q_0, q_s, i64_w, i32_w]
        rfl
      refine one_ (i := 15) (N := some 28) #[tT,tT,tT,tT,tT,tT,tT,tT,tT,tT,tT,tT,tT,tT,tT,tT,fF,tT,fF] rfl rfl (by kernel_rfl) (by decide) (fun K hK => ?_)
      refine goes_ Try.func48 (by kernel_rfl) rfl #[.slice (some ad) l.length c, .int .i64 8, .int .i64 4] (by rfl) rfl rfl (by simp only [List.map_toArray, List.map_cons, List.map_nil]; rfl) ?_
      with_reducible refine (get_calls (l := l) 8 4 (iz := 8) (mz := 4) (by repeat (first | exact HR1.out | (with_reducible refine Kd.C_alloc ?_ _) | (with_reducible refine Kd.C_drewN ?_ _) | (with_reducible refine Kd.C_drew ?_))) rfl HC.out HY.out HL.out rfl rfl (by omega) (by have := H24.out; omega)).mono ?_
      rintro e w3 ⟨rfl, ⟨⟨nq, rfl⟩⟩⟩
      refine ⟨_, rfl, ?_⟩
      refine hK.out _ _ ⟨(HC0.out _ (by repeat (first | (with_reducible first | exact HBR.out | apply below_alloc | apply pw_below_drewN | apply below_drew1) | exact HBR.out))), (HC1.out _ (by repeat (first | (with_reducible first | exact HBR.out | apply below_alloc | apply pw_below_drewN | apply below_drew1) | exact HBR.out))), (HC12.out _ (by repeat (first | (with_reducible first | exact HBR.out | apply below_alloc | apply pw_below_drewN | apply below_drew1) | exact HBR.out)))⟩ (fun hHeld => ?_)
      clear hK K
      refine norm_ (a' := ?_) ?_ ?_
      rotate_left
      · show Act.put _ (some 28) _ = _
        simp only [Act.put, q_a, q_0, q_s, i64_w, i32_w]
        rfl
      refine pure_ (i := 16) (N := some 29) (v := ?_) (a' := ?_) #[tT,tT,tT,tT,tT,tT,tT,tT,tT,tT,tT,tT,tT,tT,tT,tT,tT,tT,fF] rfl rfl (by kernel_rfl) (fun _ _ _ h => h) (Or.inl ⟨by rfl, ?_⟩) ?_ ?_
      rotate_left; · intro w'; go_simp; with_reducible rfl
      rotate_left; · simp only [Act.put, q_a, q_0, q_s, i64_w, i32_w]; rfl
      exact norm_ (by simp only [putAll, Act.put, q_a, q_0, q_s]) (hCont () _ ⟨new_blk W1 _, (by refine Eq.trans (Below.block (B := W1.heap.size) (w := W1) ?_ _ HG2.out) HK1.out; repeat (first | (with_reducible first | exact HBS.out | apply below_alloc | apply pw_below_drewN | apply below_drew1) | exact HBS.out)), (by repeat (first | (with_reducible first | exact HBR.out | apply below_alloc | apply pw_below_drewN | apply below_drew1) | exact HBR.out))⟩)
  rintro ⟨⟩ w3 ⟨hz3, hy3, hb3⟩
  have hHeld : w3.cell? ad = some (.int .u8 x0) ∧ w3.cell? ⟨ad.block, ad.off + 1, none⟩ = some (.int .u8 x1) ∧ w3.cell? ⟨ad.block, ad.off + 12, none⟩ = some (.int .u8 x12) := ⟨HC0.out _ hb3, HC1.out _ hb3, HC12.out _ hb3⟩
  refine norm_ (a' := ?_) ?_ ?_
  rotate_left; · simp only [putAll, Act.put, q_a, q_0, q_s]; rfl
  refine one_ (i := 18) (N := none) #[tT,tT,tT,tT,tT,tT,tT,tT,tT,tT,tT,tT,tT,tT,tT,tT,tT,tT,tT] rfl rfl (by kernel_rfl) (by decide) (fun K hK => ?_)
  obtain ⟨k0, k1, k2, k3, k4, k5, k6, k7, k8, k9, k10, k11, k12⟩ := c13 hz3
  obtain ⟨z0, z1, z2, z3, z4, z5, z6, z7, z8, z9, z10, z11, z12⟩ := f13 hz3
  refine skip_ (w1 := ?_) (by rfl) rfl ?_ ?_
  rotate_left
  · go_simp
    rfl
  refine hK.out _ _ ⟨(HC0.out _ (lay13_below hb3 HG1.out _ _ _ _ _ _ _ _ _ _ _ _ _)), (HC1.out _ (lay13_below hb3 HG1.out _ _ _ _ _ _ _ _ _ _ _ _ _)), (HC12.out _ (lay13_below hb3 HG1.out _ _ _ _ _ _ _ _ _ _ _ _ _))⟩ (fun hHeld => ?_)
  clear hK K
  refine done_ (by kernel_rfl) ?_
  generalize hW : World.setCell _ _ _ = W4
  have hz4 : W4.heap[W1.heap.size]? = some (.cells #[(.int .i64 x0), (.int .i64 x1), (.int .i64 x12), (.int .i64 (numL l 4 4)), (.int .i64 (numL l 8 4)), (.int .i64 0), (.int .i64 0), (.int .i64 0), (.int .i64 0), (.bool false), (.int .i64 0), (.slice none 0 0), (.slice none 0 0)] 39 (0, 0)) := by rw [← hW]; exact lay13_blk hz3 rfl (.int .i64 x0) (.int .i64 x1) (.int .i64 x12) (.int .i64 (numL l 4 4)) (.int .i64 (numL l 8 4)) (.int .i64 0) (.int .i64 0) (.int .i64 0) (.int .i64 0) (.bool false) (.int .i64 0) (.slice none 0 0) (.slice none 0 0)
  have hy4 : W4.heap[w.heap.size]? = some (.cells zero13 39 (0, 0)) := by rw [← hW]; exact (lay13_far (Nat.ne_of_lt HG2.out) (.int .i64 x0) (.int .i64 x1) (.int .i64 x12) (.int .i64 (numL l 4 4)) (.int .i64 (numL l 8 4)) (.int .i64 0) (.int .i64 0) (.int .i64 0) (.int .i64 0) (.bool false) (.int .i64 0) (.slice none 0 0) (.slice none 0 0)).trans hy3
  have HB4 := Aside0.mk (show Below w.heap.size w W4 from by rw [← hW]; exact lay13_below hb3 HG1.out (.int .i64 x0) (.int .i64 x1) (.int .i64 x12) (.int .i64 (numL l 4 4)) (.int .i64 (numL l 8 4)) (.int .i64 0) (.int .i64 0) (.int .i64 0) (.int .i64 0) (.bool false) (.int .i64 0) (.slice none 0 0) (.slice none 0 0))
  have HZ4 := Aside0.mk hz4
  have HY4 := Aside0.mk hy4
  obtain ⟨g, HGE⟩ : ∃ g, W1.heap.size = g := ⟨_, rfl⟩
  rw [HGE] at HZ4 HG1 HG2 hz4 ⊢
  have HGL := Aside0.mk (show g < W4.heap.size from blk_lt hz4)
  clear hHeld hW hz3 hy3 hb3 k0 k1 k2 k3 k4 k5 k6 k7 k8 k9 k10 k11 k12 z0 z1 z2 z3 z4 z5 z6 z7 z8 z9 z10 z11 z12
  obtain ⟨k0, k1, k2, k3, k4, k5, k6, k7, k8, k9, k10, k11, k12⟩ := c13 hz4
  obtain ⟨z0, z1, z2, z3, z4, z5, z6, z7, z8, z9, z10, z11, z12⟩ := f13 hz4
  clear hz4 hy4
  clear HBR HR1 HBS HK1
  have m20 := HC20.out W4 HB4.out
  have m21 := HC21.out W4 HB4.out
  have HBW := Aside0.mk HB4.out
  have G16 := Aside0.mk (fun W (h : Below w.heap.size w W) => get_calls (l := l) (w := W) 16 2 (iz := 16) (mz := 2) (Kd.C_below HR.out h) rfl HC.out HY.out HL.out rfl rfl (by omega) (by have := H24.out; omega))
  have G18 := Aside0.mk (fun W (h : Below w.heap.size w W) => get_calls (l := l) (w := W) 18 2 (iz := 18) (mz := 2) (Kd.C_below HR.out h) rfl HC.out HY.out HL.out rfl rfl (by omega) (by have := H24.out; omega))
  have wr : wrap64 (24 + x21) = 24 + x21 := wid (by omega) (by omega)
  go_upto_region 8 with (first | (go_at_call 48; (with_reducible refine (G16.out _ ?hb).mono ?_); (case hb => (repeat (first | with_reducible exact HBW.out | with_reducible apply pw_below_drewN | (refine Below.setCell ?_ HG1.out _)))); rintro e w3 ⟨rfl, ⟨⟨nq, rfl⟩⟩⟩) | (go_at_call 48; (with_reducible refine (G18.out _ ?hb).mono ?_); (case hb => (repeat (first | with_reducible exact HBW.out | with_reducible apply pw_below_drewN | (refine Below.setCell ?_ HG1.out _)))); rintro e w3 ⟨rfl, ⟨⟨nq, rfl⟩⟩⟩))
  generalize hW : World.setCell _ _ _ = W5
  have hz5 : W5.heap[g]? = some (.cells #[.int .i64 x0, .int .i64 x1, .int .i64 x12, .int .i64 (numL l 4 4), .int .i64 (numL l 8 4), .int .i64 (numL l 16 2), .int .i64 (numL l 18 2), .int .i64 0, .int .i64 0, .bool false, .int .i64 0, .slice none 0 0, .slice none 0 0] 39 (0, 0)) := by
    rw [← hW]
    have h := (set_blk ((set_blk (HZ4.out) 5 (.int .i64 (numL l 16 2)))) 6 (.int .i64 (numL l 18 2)))
    simp only [List.setIfInBounds_toArray, List.set_cons_zero, List.set_cons_succ] at h
    exact h
  have hy5 : W5.heap[w.heap.size]? = some (.cells zero13 39 (0, 0)) := by
    rw [← hW]
    exact (Below.heap_setCell _ ⟨g, 6, none⟩ (.int .i64 (numL l 18 2)) w.heap.size (Nat.ne_of_lt HG2.out)).trans ((Below.heap_setCell _ ⟨g, 5, none⟩ (.int .i64 (numL l 16 2)) w.heap.size (Nat.ne_of_lt HG2.out)).trans (HY4.out))
  have HB5 : Aside0 (Below w.heap.size w W5) := Aside0.mk (by
    rw [← hW]
    repeat (first | with_reducible exact HB4.out | with_reducible apply pw_below_drewN | (refine Below.setCell ?_ HG1.out _)))
  have HZ5 := Aside0.mk hz5
  have HY5 := Aside0.mk hy5
  clear hW k0 k1 k2 k3 k4 k5 k6 k7 k8 k9 k10 k11 k12 z0 z1 z2 z3 z4 z5 z6 z7 z8 z9 z10 z11 z12
  obtain ⟨k0, k1, k2, k3, k4, k5, k6, k7, k8, k9, k10, k11, k12⟩ := c13 hz5
  obtain ⟨z0, z1, z2, z3, z4, z5, z6, z7, z8, z9, z10, z11, z12⟩ := f13 hz5
  clear hz5 hy5
  clear m20
  have m20 := HC20.out W5 HB5.out
  clear m21
  have m21 := HC21.out W5 HB5.out
  go_upto_region 9 with fail
  generalize hW : World.setCell _ _ _ = W6
  have hz6 : W6.heap[g]? = some (.cells #[.int .i64 x0, .int .i64 x1, .int .i64 x12, .int .i64 (numL l 4 4), .int .i64 (numL l 8 4), .int .i64 (numL l 16 2), .int .i64 (numL l 18 2), .int .i64 x20, .int .i64 0, .bool false, .int .i64 0, .slice none 0 0, .slice none 0 0] 39 (0, 0)) := by
    rw [← hW]
    have h := (set_blk (HZ5.out) 7 (.int .i64 x20))
    simp only [List.setIfInBounds_toArray, List.set_cons_zero, List.set_cons_succ] at h
    exact h
  have hy6 : W6.heap[w.heap.size]? = some (.cells zero13 39 (0, 0)) := by
    rw [← hW]
    exact (Below.heap_setCell _ ⟨g, 7, none⟩ (.int .i64 x20) w.heap.size (Nat.ne_of_lt HG2.out)).trans (HY5.out)
  have HB6 : Aside0 (Below w.heap.size w W6) := Aside0.mk (by
    rw [← hW]
    repeat (first | with_reducible exact HB5.out | with_reducible apply pw_below_drewN | (refine Below.setCell ?_ HG1.out _)))
  have HZ6 := Aside0.mk hz6
  have HY6 := Aside0.mk hy6
  clear hW k0 k1 k2 k3 k4 k5 k6 k7 k8 k9 k10 k11 k12 z0 z1 z2 z3 z4 z5 z6 z7 z8 z9 z10 z11 z12
  obtain ⟨k0, k1, k2, k3, k4, k5, k6, k7, k8, k9, k10, k11, k12⟩ := c13 hz6
  obtain ⟨z0, z1, z2, z3, z4, z5, z6, z7, z8, z9, z10, z11, z12⟩ := f13 hz6
  clear hz6 hy6
  clear m20
  have m20 := HC20.out W6 HB6.out
  clear m21
  have m21 := HC21.out W6 HB6.out
  by_cases h20 : 15 < x20
  · have d20 : decide (15 < x20) = true := decide_eq_true h20
    have HPE := Aside0.mk (show parseL l = (zeroP, 5) from by
      unfold parseL
      rw [if_neg (fun h => h HE.out), if_neg (by rw [HKD.out]; decide), if_neg (by rw [HKD.out]; decide), if_pos (by rw [EE.out.2.2.2.1, EE.out.2.2.2.2.1]; unfold restS; rw [EE.out.2.2.2.2.1]; have := b21; omega)])
    have hny := HY6.out
    obtain ⟨y0, y1, y2, y3, y4, y5, y6, y7, y8, y9, y10, y11, y12⟩ := c13 hny
    obtain ⟨u0, u1, u2, u3, u4, u5, u6, u7, u8, u9, u10, u11, u12⟩ := f13 hny
    clear hny
    go_wp2
    (try simp only [Exit.inBlock, Exit.then])
    refine bodyPost_ret (v := .tuple #[.agg zero13, .int .i64 5]) ?_ rfl (parsed_err HPE.out ?_)
    · rw [results_cell_tmp rfl]
      go_simp
    · exact lay13_below HB6.out (Nat.le_refl _) _ _ _ _ _ _ _ _ _ _ _ _ _
  · have d20 : decide (15 < x20) = false := decide_eq_false h20
    by_cases h21 : 40 < x21
    · have d21 : decide (40 < x21) = true := decide_eq_true h21
      have HPE := Aside0.mk (show parseL l = (zeroP, 5) from by
        unfold parseL
        rw [if_neg (fun h => h HE.out), if_neg (by rw [HKD.out]; decide), if_neg (by rw [HKD.out]; decide), if_pos (by rw [EE.out.2.2.2.1, EE.out.2.2.2.2.1]; unfold restS; rw [EE.out.2.2.2.2.1]; have := b21; omega)])
      have hny := HY6.out
      obtain ⟨y0, y1, y2, y3, y4, y5, y6, y7, y8, y9, y10, y11, y12⟩ := c13 hny
      obtain ⟨u0, u1, u2, u3, u4, u5, u6, u7, u8, u9, u10, u11, u12⟩ := f13 hny
      clear hny
      go_wp2
      (try simp only [Exit.inBlock, Exit.then])
      refine bodyPost_ret (v := .tuple #[.agg zero13, .int .i64 5]) ?_ rfl (parsed_err HPE.out ?_)
      · rw [results_cell_tmp rfl]
        go_simp
      · exact lay13_below HB6.out (Nat.le_refl _) _ _ _ _ _ _ _ _ _ _ _ _ _
    · have d21 : decide (40 < x21) = false := decide_eq_false h21
      by_cases h22 : (l.length : Int) < 24 + x21
      · have d22 : decide ((l.length : Int) < 24 + x21) = true := decide_eq_true h22
        have HPE := Aside0.mk (show parseL l = (zeroP, 5) from by
          unfold parseL
          rw [if_neg (fun h => h HE.out), if_neg (by rw [HKD.out]; decide), if_neg (by rw [HKD.out]; decide), if_pos (by rw [EE.out.2.2.2.1, EE.out.2.2.2.2.1]; unfold restS; rw [EE.out.2.2.2.2.1]; have := b21; omega)])
        have hny := HY6.out
        obtain ⟨y0, y1, y2, y3, y4, y5, y6, y7, y8, y9, y10, y11, y12⟩ := c13 hny
        obtain ⟨u0, u1, u2, u3, u4, u5, u6, u7, u8, u9, u10, u11, u12⟩ := f13 hny
        clear hny
        go_wp2
        (try simp only [Exit.inBlock, Exit.then])
        refine bodyPost_ret (v := .tuple #[.agg zero13, .int .i64 5]) ?_ rfl (parsed_err HPE.out ?_)
        · rw [results_cell_tmp rfl]
          go_simp
        · exact lay13_below HB6.out (Nat.le_refl _) _ _ _ _ _ _ _ _ _ _ _ _ _
      · have d22 : decide ((l.length : Int) < 24 + x21) = false := decide_eq_false h22
        have HPE := Aside0.mk (show parseL l = (⟨x0, x1, x12, numL l 4 4, numL l 8 4, numL l 16 2, numL l 18 2, x20, 0, false, 0, (l.take (24 + x21.toNat)).drop 24, (l.take l.length).drop (24 + x21.toNat)⟩, 0) from by
          unfold parseL
          rw [if_neg (fun h => h HE.out), if_neg (by rw [HKD.out]; decide), if_neg (by rw [HKD.out]; decide), if_neg (by rw [EE.out.2.2.2.1, EE.out.2.2.2.2.1]; unfold restS; rw [EE.out.2.2.2.2.1]; have := b21; omega), List.take_length]
          unfold restS
          rw [EE.out.2.1, EE.out.2.2.1, EE.out.2.2.2.1, EE.out.2.2.2.2.1, ← EE.out.1, HKD.out])
        have HX21 := Aside0.mk (show 0 ≤ x21 ∧ 24 + x21.toNat ≤ l.length from by have := b21; omega)
        obtain ⟨A2, hcut2, hC2⟩ := cut3 (A := some ad) (c := c) (l := l) 24 (24 + x21.toNat) x21.toNat (iz := 24) (jz := 24 + x21) rfl (by have := b21; omega) (by omega) (by omega) (by have := b21; omega) rfl HC.out
        have HC2 := Aside0.mk (fun W (h : Below w.heap.size w W) => hC2 W (Kd.C_below HR.out h))
        clear hC2
        go_upto_region 20 with (first
          | (go_at_call 49; refine (clone_calls (HC2.out _ HB6.out) (C_len (HC2.out w (Below.refl _ _))) (Nat.le_refl _) (by rw [C_len (HC2.out w (Below.refl _ _))]; have := HL.out; have := HX21.out; omega)).mono ?_; rintro e wo ⟨v, rfl, ho, hb6⟩; obtain ⟨Ao, co, ev⟩ := Kd.R_slice ho; rw [C_len (HC2.out w (Below.refl _ _))] at ev; subst ev; have HZo := Aside0.mk ((hb6.block g (blk_lt HZ6.out)).trans HZ6.out); have HYo := Aside0.mk ((hb6.block w.heap.size (blk_lt HY6.out)).trans HY6.out); have HOo := Aside0.mk ho; have HGo := Aside0.mk (blk_lt HZ6.out); have HBo := Aside0.mk (below_step HB6.out hb6); clear ho hb6 k0 k1 k2 k3 k4 k5 k6 k7 k8 k9 k10 k11 k12 z0 z1 z2 z3 z4 z5 z6 z7 z8 z9 z10 z11 z12; obtain ⟨k0, k1, k2, k3, k4, k5, k6, k7, k8, k9, k10, k11, k12⟩ := c13 HZo.out; obtain ⟨z0, z1, z2, z3, z4, z5, z6, z7, z8, z9, z10, z11, z12⟩ := f13 HZo.out))
        have HFo : Aside0 (∀ k, k ≠ g → (wo.setCell ⟨g, 11, none⟩ (.slice Ao x21.toNat co)).heap[k]? = wo.heap[k]?) := Aside0.mk (fun k hk => Below.heap_setCell wo ⟨g, 11, none⟩ _ k hk)
        have HSo : Aside0 ((wo.setCell ⟨g, 11, none⟩ (.slice Ao x21.toNat co)).heap.size = wo.heap.size) := Aside0.mk (by simp [World.setCell])
        change Code.wp _ _ _ _ (wo.setCell ⟨g, 11, none⟩ (.slice Ao x21.toNat co))
        clear hcut2 wr d20 d21 d22
        have HLo := Aside0.mk HX21.out.2
        generalize hW : wo.setCell ⟨g, 11, none⟩ (.slice Ao x21.toNat co) = W7 at HFo HSo ⊢
        have hz7 : W7.heap[g]? = some (.cells #[.int .i64 x0, .int .i64 x1, .int .i64 x12, .int .i64 (numL l 4 4), .int .i64 (numL l 8 4), .int .i64 (numL l 16 2), .int .i64 (numL l 18 2), .int .i64 x20, .int .i64 0, .bool false, .int .i64 0, .slice Ao x21.toNat co, .slice none 0 0] 39 (0, 0)) := by
          rw [← hW]
          have h := (set_blk (HZo.out) 11 (.slice Ao x21.toNat co))
          simp only [List.setIfInBounds_toArray, List.set_cons_zero, List.set_cons_succ] at h
          exact h
        have hy7 : W7.heap[w.heap.size]? = some (.cells zero13 39 (0, 0)) := by
          rw [← hW]
          exact (Below.heap_setCell _ ⟨g, 11, none⟩ (.slice Ao x21.toNat co) w.heap.size (Nat.ne_of_lt HG2.out)).trans (HYo.out)
        have HB7 : Aside0 (Below w.heap.size w W7) := Aside0.mk (by
          rw [← hW]
          repeat (first | with_reducible exact HBo.out | with_reducible apply pw_below_drewN | (refine Below.setCell ?_ HG1.out _)))
        have HZ7 := Aside0.mk hz7
        have HY7 := Aside0.mk hy7
        clear hW k0 k1 k2 k3 k4 k5 k6 k7 k8 k9 k10 k11 k12 z0 z1 z2 z3 z4 z5 z6 z7 z8 z9 z10 z11 z12
        obtain ⟨k0, k1, k2, k3, k4, k5, k6, k7, k8, k9, k10, k11, k12⟩ := c13 hz7
        obtain ⟨z0, z1, z2, z3, z4, z5, z6, z7, z8, z9, z10, z11, z12⟩ := f13 hz7
        clear hz7 hy7
        obtain ⟨A3, hcut3, hC3⟩ := cut3 (A := some ad) (c := c) (l := l) (24 + x21.toNat) l.length (l.length - (24 + x21.toNat)) (iz := 24 + x21) (jz := (l.length : Int)) (by have := HX21.out; omega) rfl rfl (by have := HX21.out; omega) (Nat.le_refl _) rfl HC.out
        have HC3 := Aside0.mk (fun W (h : Below w.heap.size w W) => hC3 W (Kd.C_below HR.out h))
        clear hC3
        go_upto_region 21 with (first
          | (go_at_call 49; refine (clone_calls (HC3.out _ HB7.out) (C_len (HC3.out w (Below.refl _ _))) (Nat.le_refl _) (by rw [C_len (HC3.out w (Below.refl _ _))]; have := HL.out; omega)).mono ?_; rintro e w6 ⟨v, rfl, ho, hb6⟩; obtain ⟨Av, cv, ev⟩ := Kd.R_slice ho; rw [C_len (HC3.out w (Below.refl _ _))] at ev; subst ev; have HZc := Aside0.mk ((hb6.block g (blk_lt HZ7.out)).trans HZ7.out); have HYc := Aside0.mk ((hb6.block w.heap.size (blk_lt HY7.out)).trans HY7.out); have HO := Aside0.mk ho; have HF6 := Aside0.mk (show ∀ k, k < W7.heap.size → w6.heap[k]? = W7.heap[k]? from hb6.block); have HLT := Aside0.mk (blk_lt HZ7.out); have HBc := Aside0.mk (below_step HB7.out hb6); clear ho hb6 k0 k1 k2 k3 k4 k5 k6 k7 k8 k9 k10 k11 k12 z0 z1 z2 z3 z4 z5 z6 z7 z8 z9 z10 z11 z12; obtain ⟨k0, k1, k2, k3, k4, k5, k6, k7, k8, k9, k10, k11, k12⟩ := c13 HZc.out; obtain ⟨z0, z1, z2, z3, z4, z5, z6, z7, z8, z9, z10, z11, z12⟩ := f13 HZc.out))
        clear k0 k1 k2 k3 k4 k5 k6 k7 k8 k9 k10 k11 k12 z0 z1 z2 z3 z4 z5 z6 z7 z8 z9 z10 z11 z12 hcut3
        have hz7 := set_blk HZc.out 12 (.slice Av (l.length - (24 + x21.toNat)) cv)
        simp only [List.setIfInBounds_toArray, List.set_cons_zero, List.set_cons_succ] at hz7
        have hy7 := (Below.heap_setCell w6 ⟨g, 12, none⟩ (.slice Av (l.length - (24 + x21.toNat)) cv) w.heap.size (Nat.ne_of_lt HG2.out)).trans HYc.out
        have HB7 := Aside0.mk (HBc.out.setCell (p := ⟨g, 12, none⟩) HG1.out (.slice Av (l.length - (24 + x21.toNat)) cv))
        have HF7 := Aside0.mk (show ∀ k, k ≠ g → (w6.setCell ⟨g, 12, none⟩ (.slice Av (l.length - (24 + x21.toNat)) cv)).heap[k]? = w6.heap[k]? from fun k hk => Below.heap_setCell w6 ⟨g, 12, none⟩ _ k hk)
        generalize w6.setCell ⟨g, 12, none⟩ (.slice Av (l.length - (24 + x21.toNat)) cv) = W9 at hz7 hy7 HB7 HF7 ⊢
        obtain ⟨k0, k1, k2, k3, k4, k5, k6, k7, k8, k9, k10, k11, k12⟩ := c13 hz7
        obtain ⟨y0, y1, y2, y3, y4, y5, y6, y7, y8, y9, y10, y11, y12⟩ := c13 hy7
        obtain ⟨u0, u1, u2, u3, u4, u5, u6, u7, u8, u9, u10, u11, u12⟩ := f13 hy7
        clear hz7 hy7
        go_wp2
        (try simp only [Exit.inBlock, Exit.then])
        refine bodyPost_ret (v := .tuple #[.agg #[.int .i64 x0, .int .i64 x1, .int .i64 x12, .int .i64 (numL l 4 4), .int .i64 (numL l 8 4), .int .i64 (numL l 16 2), .int .i64 (numL l 18 2), .int .i64 x20, .int .i64 0, .bool false, .int .i64 0, .slice Ao x21.toNat co, .slice Av (l.length - (24 + x21.toNat)) cv], .int .i64 0]) ?_ rfl (parsed_ok (v1 := .slice Ao x21.toNat co) (v2 := .slice Av (l.length - (24 + x21.toNat)) cv) HPE.out (RB_move HOo.out (Nat.le_of_lt (Nat.lt_trans HG2.out HGo.out)) ?_) (RB_move HO.out (Nat.le_of_lt (Nat.lt_trans HG2.out HLT.out)) ?_) ?_ ?_)
        · rw [results_cell_tmp rfl]
          go_simp
        · intro k hk hlt
          have h1 := HG2.out
          have h2 := HGo.out
          have h3 := HSo.out
          exact (lay13_far (by omega) _ _ _ _ _ _ _ _ _ _ _ _ _).trans ((HF7.out k (by omega)).trans ((HF6.out k (by omega)).trans (HFo.out k (by omega))))
        · intro k hk _
          have h1 := HG2.out
          have h2 := HLT.out
          exact (lay13_far (by omega) _ _ _ _ _ _ _ _ _ _ _ _ _).trans (HF7.out k (by omega))
        · intro k hk he
          have h1 := Kd.R_lt HOo.out k hk
          have h2 := Kd.R_base HO.out k he
          have h3 := HSo.out
          omega
        · exact lay13_below HB7.out (Nat.le_refl _) _ _ _ _ _ _ _ _ _ _ _ _ _
theorem head0 {l : List Int} (h : headE l = 0) : 24 ≤ l.length ∧ l.length ≤ 1500 ∧ numL l 2 2 = (l.length : Int) ∧ l.getD 13 0 = 0 ∧ fold (pairs (l.take 16)) = 65535 ∧ (l.getD 0 0 = 1 ∨ l.getD 0 0 = 2 ∨ (l.getD 0 0 = 3 ∧ 44 ≤ l.length)) := by
  unfold headE at h
  split at h
  · cases h
  split at h
  · cases h
  split at h
  · cases h
  split at h
  · cases h
  split at h
  · cases h
  rename_i h1 h2 h3 h4 h5
  have h3 := Decidable.not_not.1 h3
  have h4 := Decidable.not_not.1 h4
  have h2 := Decidable.not_not.1 h2
  refine ⟨by omega, h3.2.1, h3.1, h3.2.2, h4, by omega⟩
theorem parse_calls {A : Option Addr} {c n : Nat} {l : List Int} {w : World} (hr : Kd.C (Kd.int .u8) w A n l) (hn : l.length = n) (hc : n ≤ c) (hl : l.length ≤ 100000) (hb : Bytes l) :
    Calls Try.prog 15 #[.slice A n c] w (Parsed w l) := by
  subst hn
  by_cases he : headE l = 0
  · obtain ⟨h24, _, _, _, _, hk | hk | ⟨hk, h44⟩⟩ := head0 he
    · exact parse_stream hr hc hl hb he h24 hk
    · exact parse_gram hr hc hl hb he h24 hk
    · exact parse_fault hr hc hl hb he h44 hk
  · exact parse_err hr hc hl hb he
/-- Is a packet whole? -/
def wholeL (l : List Int) : Bool := (parseL l).2 == 0 && ((parseL l).1.bare || fold (pairs (summedL l)) == 65535)
theorem of_calls {A : Option Addr} {c n : Nat} {l : List Int} {w : World} (hr : Kd.C (Kd.int .u8) w A n l) (hn : l.length = n) (hc : n ≤ c) (hb : Bytes l) (hl : l.length ≤ 100000) :
    Calls Try.prog 26 #[.slice A n c] w fun e w' => e = .returned (.int .i64 (65535 - fold (pairs l))) ∧ Drawn0 w w' := by
  subst hn
  exact sum_Of.calls (l.length + 2) A c l _ w hr hc (of_f (by omega) hb (Nat.le_refl _))
theorem parse0 {l : List Int} {p : Pk} (h : parseL l = (p, 0)) : headE l = 0 := by
  by_cases he : headE l = 0
  · exact he
  · unfold parseL at h
    rw [if_pos he] at h
    exact absurd (congrArg Prod.snd h) he
theorem summed_ok {l : List Int} (hy : Bytes l) (h16 : 16 ≤ l.length) (h15 : l.length ≤ 1500) : (summedL l).length ≤ 2000 ∧ Bytes (summedL l) := by
  have q0 := getD_byte hy 0
  unfold summedL
  refine ⟨?_, ?_⟩
  · split <;> simp [List.length_append, List.length_drop, List.length_take] <;> omega
  · generalize l.getD 0 0 = x at q0 ⊢
    refine Bytes.app (Bytes.app (by split; · exact bytes_nil
                                    · exact (hy.take 12).drop 4) ?_) (hy.drop 16)
    intro y hy'
    simp only [List.mem_cons, List.not_mem_nil, or_false] at hy'
    omega
/-- What stands behind Parse's call, its packet taken apart. -/
def Got (w : World) (p0 p1 p2 p3 p4 p5 p6 p7 p8 : Int) (p9 : Bool) (p10 : Int) (p11 p12 : List Int) (x : Int) (e : Ending) (w' : World) : Prop :=
  ∃ (A1 : Option Addr) (c1 : Nat) (A2 : Option Addr) (c2 : Nat), e = .returned (.tuple #[.agg #[.int .i64 p0, .int .i64 p1, .int .i64 p2, .int .i64 p3, .int .i64 p4, .int .i64 p5, .int .i64 p6, .int .i64 p7, .int .i64 p8, .bool p9, .int .i64 p10, .slice A1 p11.length c1, .slice A2 p12.length c2], .int .i64 x]) ∧ RB w.heap.size w' (.slice A1 p11.length c1) p11 ∧ RB w.heap.size w' (.slice A2 p12.length c2) p12 ∧
    (∀ k, (Value.slice A1 p11.length c1).ownBlock = some k → (Value.slice A2 p12.length c2).ownBlock ≠ some k) ∧ Below w.heap.size w w'
theorem got_of {w w' : World} {l : List Int} {e : Ending} {p0 p1 p2 p3 p4 p5 p6 p7 p8 : Int} {p9 : Bool} {p10 : Int} {p11 p12 : List Int} {x : Int} (hp : parseL l = (⟨p0, p1, p2, p3, p4, p5, p6, p7, p8, p9, p10, p11, p12⟩, x)) (h : Parsed w l e w') : Got w p0 p1 p2 p3 p4 p5 p6 p7 p8 p9 p10 p11 p12 x e w' := by
  obtain ⟨v1, v2, he, h1, h2, h3, h4⟩ := h
  rw [hp] at he h1 h2
  obtain ⟨A1, c1, rfl⟩ := Kd.R_slice h1
  obtain ⟨A2, c2, rfl⟩ := Kd.R_slice h2
  exact ⟨A1, c1, A2, c2, he, h1, h2, h3, h4⟩
/-- Block g holds just these bytes. -/
def Row (w : World) (g : Nat) (L : List Int) : Prop := w.heap[g]? = some (.cells (L.map (Value.int .u8)).toArray 5 (0, 0))
theorem RB_of_row {w : World} {g b : Nat} {L : List Int} (h : Row w g L) (hb : b ≤ g) (hl : L.length ≤ 100000) : RB b w (.slice (some ⟨g, 0, none⟩) L.length L.length) L := by
  refine Kd.R_of_own (enc := Value.int .u8) (h1 := fun _ => rfl) ?_ (fun _ _ => trivial)
  refine ⟨by simp [encs], .inr ⟨g, L.length, (L.map (Value.int .u8)).toArray, rfl, hb, h, Nat.le_refl _, by simp [maxLen]; omega, by simp, ?_⟩⟩
  simp [encs]
  exact List.take_of_length_le (by simp)
theorem row_of_RB {w : World} {g b n : Nat} {L : List Int} (h : RB b w (.slice (some ⟨g, 0, none⟩) n n) L) : Row w g L := by
  have ho := Kd.own_of_R (enc := Value.int .u8) (h1 := fun _ => rfl) h
  have hn : L.length = n := (Kd.R_reads' h).1.symm
  rcases ho.2 with ⟨hv, _⟩ | ⟨g', cap, cur, hv, _, hh, _, _, hs, ht⟩
  · cases hv
  · injection hv with ha hc hd
    injection ha with ha
    injection ha with ha
    subst ha
    unfold Row
    rw [hh]
    have hcs : cur.size = L.length := by omega
    have : cur = (L.map (Value.int .u8)).toArray := by
      apply Array.toList_inj.1
      have h2 : cur.toList.take (L.length * 1) = cur.toList := List.take_of_length_le (by simp; omega)
      rw [← h2, ht]
      simp [encs]
    rw [this]
theorem row_cells {w : World} {g : Nat} {L : List Int} (h : Row w g L) (i : Nat) (hi : i < L.length) : w.cell? ⟨g, i, none⟩ = some (.int .u8 (L.getD i 0)) := by
  unfold Row at h
  simp [World.cell?, h, hi]
theorem row_frozen {w : World} {g : Nat} {L : List Int} (h : Row w g L) (i : Nat) : w.frozen? ⟨g, i, none⟩ = false := by
  unfold Row at h
  simp [World.frozen?, h]
theorem row_set {w : World} {g : Nat} {L : List Int} (h : Row w g L) (i : Nat) (x : Int) : Row (w.setCell ⟨g, i, none⟩ (.int .u8 x)) g (L.set i x) := by
  have := set_blk h i (.int .u8 x)
  unfold Row
  rw [this]
  simp [List.map_set]
theorem row_C {w : World} {g : Nat} {L : List Int} (h : Row w g L) (hl : L.length ≤ 100000) : Kd.C (Kd.int .u8) w (some ⟨g, 0, none⟩) L.length L := (Kd.R_reads' (RB_of_row (b := 0) h (Nat.zero_le _) hl)).2.2
/-- What turns no block but one. -/
structure Chg (w w' : World) (g : Nat) : Prop where
  os : w'.os = w.os
  tape : w'.tape = w.tape
  output : w'.output = w.output
  size : w.heap.size ≤ w'.heap.size
  block : ∀ k, k < w.heap.size → k ≠ g → w'.heap[k]? = w.heap[k]?
theorem Chg.below {w0 w w' : World} {g : Nat} (h : Chg w w' g) (h0 : Below w0.heap.size w0 w) (hg : w0.heap.size ≤ g) : Below w0.heap.size w0 w' :=
  h0.trans ⟨h.os, h.tape, h.output, h.size, fun k hk => h.block k (Nat.lt_of_lt_of_le hk h0.size) (by omega)⟩
theorem Chg.of_grown {w w' : World} {g : Nat} (h : w.grownBy w' (some g)) : Chg w w' g := ⟨h.os, h.tape, h.output, h.size, fun k hk hne => h.block k hk (fun e => hne (by injection e))⟩
theorem put_row {w0 w : World} {g n : Nat} {L : List Int} (i m : Nat) (x : Int) {iz mz : Int} (hB : Below w0.heap.size w0 w) (hg : w0.heap.size ≤ g) (h : Row w g L) (hn : L.length = n) (hl : L.length ≤ 100000) (h1 : iz = i) (h2 : mz = m) (hm : m ≤ 4) (hi : i + m ≤ L.length) :
    Calls Try.prog 35 #[.slice (some ⟨g, 0, none⟩) n n, .int .i64 iz, .int .i64 mz, .int .i64 x] w fun e w' => e = .returned (.tuple #[]) ∧ Row w' g (putL L i m x) ∧ Chg w w' g := by
  subst hn
  refine (put_calls i m x hB (RB_of_row h hg hl) hl h1 h2 hm hi).mono ?_
  rintro e w' ⟨rfl, hr, hb, hgr⟩
  exact ⟨rfl, row_of_RB hr, Chg.of_grown hgr⟩
/-- May a packet's numbers be? -/
def rgB (n m : Int) : Bool := decide (0 ≤ n) && decide (n ≤ m)
def okR (p : Pk) : Bool :=
  rgB p.life 255 && rgB p.piece 255 && rgB p.frm 4294967295 && rgB p.dst 4294967295 && (if p.kind = 3 then rgB p.code 255 else rgB p.fp 65535 && rgB p.tp 65535 && (if p.kind = 2 then rgB p.label 65535 else rgB p.flags 15))
theorem within_ff (n m : Int) : wire_within.f n m = some (rgB n m) := by
  unfold wire_within.f rgB
  by_cases h : n ≥ 0
  · rw [if_pos h, decide_eq_true (show 0 ≤ n from h)]; simp
  · rw [if_neg h, decide_eq_false (show ¬ 0 ≤ n from h)]; simp
theorem ranges_f (p : Pk) : wire_ranges.f 5 p.kind p.life p.piece p.frm p.dst p.fp p.tp p.flags p.label p.bare p.code p.opts p.data = some (okR p) := by
  have jj : ∀ t, wire_ranges.j1 4 t p.kind p.life p.piece p.frm p.dst p.fp p.tp p.flags p.label p.bare p.code p.opts p.data = some (t && (if p.kind = 2 then rgB p.label 65535 else rgB p.flags 15)) := by
    intro t
    simp only [wire_ranges.j1, within_ff]
    cases t <;> split <;> simp
  have j : ∀ t, wire_ranges.j0 5 t p.kind p.life p.piece p.frm p.dst p.fp p.tp p.flags p.label p.bare p.code p.opts p.data = some (t && (if p.kind = 3 then rgB p.code 255 else rgB p.fp 65535 && rgB p.tp 65535 && (if p.kind = 2 then rgB p.label 65535 else rgB p.flags 15))) := by
    intro t
    simp only [wire_ranges.j0, within_ff]
    simp only [Option.bind_some, jj]
    generalize rgB p.fp 65535 = a
    generalize rgB p.tp 65535 = b
    generalize rgB p.code 255 = c
    generalize rgB p.label 65535 = d
    generalize rgB p.flags 15 = e
    by_cases h3 : p.kind = 3
    · rw [if_pos h3, if_pos h3]; cases t <;> simp
    · rw [if_neg h3, if_neg h3]; cases t <;> cases a <;> cases b <;> simp
  unfold wire_ranges.f
  simp only [within_ff, Option.bind_some, j]
  unfold okR
  generalize rgB p.life 255 = a
  generalize rgB p.piece 255 = b
  generalize rgB p.frm 4294967295 = c
  generalize rgB p.dst 4294967295 = d
  cases a <;> cases b <;> cases c <;> simp
theorem ranges_calls {p : Pk} {A1 A2 : Option Addr} {c1 c2 : Nat} {w : World} (h1 : Kd.C (Kd.int .u8) w A1 p.opts.length p.opts) (hc1 : p.opts.length ≤ c1) (h2 : Kd.C (Kd.int .u8) w A2 p.data.length p.data) (hc2 : p.data.length ≤ c2) :
    Calls Try.prog 34 #[pkV p (.slice A1 p.opts.length c1) (.slice A2 p.data.length c2)] w fun e w' => e = .returned (.bool (okR p)) ∧ Below w.heap.size w w' :=
  wire_ranges.calls 5 _ _ _ _ _ _ _ _ _ _ _ A1 c1 p.opts A2 c2 p.data _ w h1 hc1 h2 hc2 (ranges_f p)
def nL (p : Pk) : Nat := if p.kind = 1 then 24 + p.data.length + p.opts.length else if p.kind = 3 then 20 + p.data.length else 24 + p.data.length
def buildE (p : Pk) : Int :=
  if ¬ (1 ≤ p.kind ∧ p.kind ≤ 3) then 2 else if okR p = false then 14 else if p.kind = 1 ∧ 40 < p.opts.length then 5
  else if (p.kind = 3 ∧ p.data.length < 24) ∨ 1500 < nL p then 3 else 0
def h3L (n : Nat) (kind life piece frm dst : Int) : List Int :=
  putL (putL (putL ((((List.replicate n 0).set 0 (kind % 256)).set 1 (life % 256)).set 12 (piece % 256)) 2 2 n) 4 4 frm) 8 4 dst
def h4L (n : Nat) (kind life piece frm dst : Int) : List Int :=
  putL (h3L n kind life piece frm dst) 14 2 (65535 - fold (pairs ((h3L n kind life piece frm dst).take 16)))
/-- The sum that a body gets. -/
def sumL (kind : Int) (bare : Bool) (l : List Int) : Int :=
  if kind = 2 ∧ bare = true then 0 else if kind = 2 ∧ 65535 - fold (pairs (summedL l)) = 0 then 65535 else 65535 - fold (pairs (summedL l))
def bodyL (p : Pk) : List Int :=
  let h4 := h4L (nL p) p.kind p.life p.piece p.frm p.dst
  let h5 := putL (putL h4 16 2 p.fp) 18 2 p.tp
  splice (if p.kind = 3 then h4.set 16 (p.code % 256) else if p.kind = 2 then putL h5 20 2 p.label else splice ((h5.set 20 (p.flags % 256)).set 21 ((p.opts.length : Int) % 256)) 24 p.opts) (nL p - p.data.length) p.data
def buildL (p : Pk) : List Int := putL (bodyL p) (if p.kind = 3 then 18 else 22) 2 (sumL p.kind p.bare (bodyL p))
/-- make([]byte, n), as a row. -/
theorem make_row {ops : Array Oper} {rest : List Oper} {o : Oper} {a : Act} {Q : Exit → Act → World → Prop} {W : World} (g : Nat) (hgW : W.heap.size = g) (hgd : o.guard = none) (x y : Operand) (ho : o.op = .makeSlice 23 x y) (n : Nat) (nz : Int)
    (hnz : nz = n) (hx : a.eval x = .int .i64 nz) (hy : a.eval y = .int .i64 nz) (hn : n ≤ 100000)
    (h : ∀ w1, Row w1 g (List.replicate n 0) → Below g W w1 → wpList Try.prog ops Q rest (a.put o.dst (.slice (some ⟨g, 0, none⟩) n n)) w1) : wpList Try.prog ops Q (o :: rest) a W := by
  subst hnz hgW
  obtain ⟨i0, hi, hzz⟩ := Option.map_eq_some_iff.1 info5
  simp only [Prod.mk.injEq] at hzz
  obtain ⟨hz0, hz1, hz2⟩ := hzz
  have hr := run_make (P := Try.prog) W 23 5 i0 (.int .u8 0) Try.underlying23 hi hz0 .i64 .i64 (n : Int) (n : Int) (by omega) (by omega) (by rw [hz2]; omega) (by omega)
  simp only [Int.toNat_natCast, hz1] at hr
  refine Kd.event_run hgd (v := .slice (some ⟨W.heap.size, 0, none⟩) n n) (w1 := W.alloc (.cells (madeCells (Value.int .u8 0).cells (n * 1)) 5)) (by simp [execOp, ho, hx, hy, hr]) (h _ ?_ ((Below.refl _ W).alloc (Nat.le_refl _) _))
  unfold Row
  rw [new_blk]
  have : madeCells (Value.int .u8 0).cells (n * 1) = (List.map (Value.int .u8) (List.replicate n 0)).toArray := by
    apply Array.toList_inj.1
    show (madeCells #[Value.int .u8 0] (n * 1)).toList = _
    rw [toList_madeCells_one]
    simp
  rw [this]
theorem splice_len {L : List Int} {o : Nat} {cs : List Int} (h : o + cs.length ≤ L.length) : (splice L o cs).length = L.length := length_splice L o cs h
theorem splice_bytes {L : List Int} {o : Nat} {cs : List Int} (h : Bytes L) (h2 : Bytes cs) : Bytes (splice L o cs) := by
  unfold splice
  exact (h.take _).app (h2.app (h.drop _))
theorem splice_map {L cs : List Int} {o : Nat} : (splice L o cs).map (Value.int .u8) = splice (L.map (Value.int .u8)) o (cs.map (Value.int .u8)) := by
  unfold splice
  simp [List.map_take, List.map_drop]
/-- b[i:] of a row: where it lies. -/
theorem cut_row (g n i : Nat) {iz : Int} (hi : iz = i) (hin : i ≤ n) : ∃ A' : Option Addr, (i < n → A' = some ⟨g, i, none⟩) ∧
    ∀ W : World, (Instr.slice 23 (.slice (some ⟨g, 0, none⟩) n n) (some (.int .i64 iz)) none none).run Try.prog W = .ok (.slice A' (n - i) (n - i)) W := by
  subst hi
  obtain ⟨i0, hi0, _, hsz, _⟩ := info_parts info5
  have hel : Try.prog.elem 23 = 5 := by simp [Program.elem, Try.underlying23]
  have hu : Try.prog.underlying 23 = some (.slice (Try.prog.elem 23)) := by rw [hel]; exact Try.underlying23
  refine ⟨if n = i then some ⟨g, 0, none⟩ else (some (⟨g, 0, none⟩ : Addr)).map (·.add i), fun h => ?_, fun W => ?_⟩
  · rw [if_neg (by omega)]
    simp [Addr.add_lit]
  · rw [run_slice_l W 23 (some ⟨g, 0, none⟩) n n hu .i64 (i : Int) (by omega) (by omega), hel]
    simp [sizeOf, typeInfo, hi0, hsz, sliced, Result.andThen]
/-- copy(b[i:], src) into a row, as a step of a region that draws. -/
theorem copy_row {ops : Array Oper} {o : Oper} {a : Act} {w : World} {K : Act → World → Prop} {Q : Exit → Act → World → Prop} {E : Prop} (hgd : o.guard = none) (d s : Operand)
    (ho : o.op = .call { callee := .builtin .copy, args := #[d, s], argTypes := #[23, 23] }) {g i n m c : Nat} {A' A : Option Addr} {L cs : List Int} (hd : a.eval d = .slice A' m m) (hs : a.eval s = .slice A cs.length c)
    (hA : i < n → A' = some ⟨g, i, none⟩) (hm : m = n - i) (hR : Row w g L) (hL : L.length = n) (hC : Kd.C (Kd.int .u8) w A cs.length cs) (hfit : i + cs.length ≤ n)
    (h : ∀ w', Row w' g (splice L i cs) → Below g w w' → K (a.put o.dst (goInt cs.length)) w') :
    if Region.wanted o (yielded ops a.tmps) = true then Oper.wp Try.prog o a w K Q else E := by
  obtain ⟨i0, hi0, _, hsz, _⟩ := info_parts info5
  refine step_copy_splice hgd d s 23 23 ho 5 Try.underlying23 (by rw [hi0]; simp [hsz]) A' A m m cs.length c hd hs g i (L.map (Value.int .u8)) 5 hR (cs.map (Value.int .u8)) ?_ ?_ ?_ ?_ g w (Below.refl _ _) (Nat.le_refl _) ?_
  · rw [List.length_map]
    exact (Nat.min_eq_left (by omega)).symm
  · intro h0
    rw [List.length_map] at h0
    obtain ⟨ad, e, hc⟩ := cells_of hC h0
    refine ⟨hA (by omega), ad, e, fun j v hj => ?_⟩
    rw [List.getElem?_map] at hj
    obtain ⟨y, hy, rfl⟩ := Option.map_eq_some_iff.1 hj
    have hjl := (List.getElem?_eq_some_iff.1 hy).1
    rw [hc j hjl, List.getD_eq_getElem?_getD, hy]
    rfl
  · rw [List.length_map, List.length_map]; omega
  · intro v hv
    obtain ⟨y, _, rfl⟩ := List.mem_map.1 hv
    rfl
  · intro w' hh hb
    have := h w' (by unfold Row; rw [splice_map]; exact hh.out) hb
    simpa using this
set_option maxHeartbeats 2000000 in
set_option maxRecDepth 100000 in
theorem build_ekind {A1 A2 : Option Addr} {c1 c2 : Nat} {p0 p1 p2 p3 p4 p5 p6 p7 p8 : Int} {p9 : Bool} {p10 : Int} {p11 p12 : List Int} {w : World} (ha : Kd.C (Kd.int .u8) w A1 p11.length p11) (hca : p11.length ≤ c1) (hd : Kd.C (Kd.int .u8) w A2 p12.length p12) (hcd : p12.length ≤ c2) (hba : Bytes p11) (hbd : Bytes p12) (hla : p11.length ≤ 100000) (hld : p12.length ≤ 100000) (h : ¬ (1 ≤ p0 ∧ p0 ≤ 3)) :
    Calls Try.prog 11 #[.agg #[.int .i64 p0, .int .i64 p1, .int .i64 p2, .int .i64 p3, .int .i64 p4, .int .i64 p5, .int .i64 p6, .int .i64 p7, .int .i64 p8, .bool p9, .int .i64 p10, .slice A1 p11.length c1, .slice A2 p12.length c2]] w fun e w' => e = .returned (.tuple #[.slice none 0 0, .int .i64 2]) ∧ Below w.heap.size w w' := by
  have G34 := Aside0.mk (fun W => wire_known.calls p0 false W (by unfold wire_known.f; by_cases h1 : p0 ≥ 1 <;> simp [h1] <;> omega))
  have HBA := Aside0.mk (fun o => (Below.refl w.heap.size w).alloc (Nat.le_refl _) o)
  clear ha hd hba hbd hca hcd hla hld h
  go_enter Try.func11, Try.ntmps11
  go_wp2_with (first
    | (go_at_call 33; (with_reducible refine (G34.out _).mono ?_); rintro e w1 ⟨rfl, ⟨⟨nd, rfl⟩⟩⟩))
  go_ret2
  exact ⟨rfl, bd (HBA.out _) _⟩
set_option maxHeartbeats 2000000 in
set_option maxRecDepth 100000 in
theorem build_erange {A1 A2 : Option Addr} {c1 c2 : Nat} {p0 p1 p2 p3 p4 p5 p6 p7 p8 : Int} {p9 : Bool} {p10 : Int} {p11 p12 : List Int} {w : World} (ha : Kd.C (Kd.int .u8) w A1 p11.length p11) (hca : p11.length ≤ c1) (hd : Kd.C (Kd.int .u8) w A2 p12.length p12) (hcd : p12.length ≤ c2) (hba : Bytes p11) (hbd : Bytes p12) (hla : p11.length ≤ 100000) (hld : p12.length ≤ 100000) (h : 1 ≤ p0 ∧ p0 ≤ 3) (hok : okR ⟨p0, p1, p2, p3, p4, p5, p6, p7, p8, p9, p10, p11, p12⟩ = false) :
    Calls Try.prog 11 #[.agg #[.int .i64 p0, .int .i64 p1, .int .i64 p2, .int .i64 p3, .int .i64 p4, .int .i64 p5, .int .i64 p6, .int .i64 p7, .int .i64 p8, .bool p9, .int .i64 p10, .slice A1 p11.length c1, .slice A2 p12.length c2]] w fun e w' => e = .returned (.tuple #[.slice none 0 0, .int .i64 14]) ∧ Below w.heap.size w w' := by
  have G34 := Aside0.mk (fun W => wire_known.calls p0 true W (by unfold wire_known.f; rw [if_pos (by omega)]; simp; omega))
  have G35 := Aside0.mk (fun W (h : Below w.heap.size w W) => (show Calls Try.prog 34 #[.agg #[.int .i64 p0, .int .i64 p1, .int .i64 p2, .int .i64 p3, .int .i64 p4, .int .i64 p5, .int .i64 p6, .int .i64 p7, .int .i64 p8, .bool p9, .int .i64 p10, .slice A1 p11.length c1, .slice A2 p12.length c2]] W fun e w' => e = .returned (.bool false) ∧ Below W.heap.size W w' from by
    have := ranges_calls (p := ⟨p0, p1, p2, p3, p4, p5, p6, p7, p8, p9, p10, p11, p12⟩) (A1 := A1) (A2 := A2) (c1 := c1) (c2 := c2) (w := W) (Kd.C_below ha h) hca (Kd.C_below hd h) hcd
    rw [hok] at this
    exact this))
  have HBA := Aside0.mk (fun o => (Below.refl w.heap.size w).alloc (Nat.le_refl _) o)
  clear ha hd hba hbd hca hcd hla hld h hok
  go_enter Try.func11, Try.ntmps11
  go_wp2_with (first
    | (go_at_call 33; (with_reducible refine (G34.out _).mono ?_); rintro e w1 ⟨rfl, ⟨⟨nd, rfl⟩⟩⟩)
    | (go_at_call 34; (with_reducible refine (G35.out _ ?hb).mono ?_); (case hb => repeat (first | with_reducible exact HBA.out _ | with_reducible apply pw_below_drewN)); rintro e w2 ⟨rfl, hb2⟩; have HZ2 := Aside0.mk ((hb2.block w.heap.size (blk_lt (new_blk w (.cells #[.int .i64 p0, .int .i64 p1, .int .i64 p2, .int .i64 p3, .int .i64 p4, .int .i64 p5, .int .i64 p6, .int .i64 p7, .int .i64 p8, .bool p9, .int .i64 p10, .slice A1 p11.length c1, .slice A2 p12.length c2] 39)))).trans (new_blk w (.cells #[.int .i64 p0, .int .i64 p1, .int .i64 p2, .int .i64 p3, .int .i64 p4, .int .i64 p5, .int .i64 p6, .int .i64 p7, .int .i64 p8, .bool p9, .int .i64 p10, .slice A1 p11.length c1, .slice A2 p12.length c2] 39))); have HB2 := Aside0.mk (below_step (bd (HBA.out (.cells #[.int .i64 p0, .int .i64 p1, .int .i64 p2, .int .i64 p3, .int .i64 p4, .int .i64 p5, .int .i64 p6, .int .i64 p7, .int .i64 p8, .bool p9, .int .i64 p10, .slice A1 p11.length c1, .slice A2 p12.length c2] 39)) _) hb2); clear hb2; obtain ⟨k0, k1, k2, k3, k4, k5, k6, k7, k8, k9, k10, k11, k12⟩ := c13 HZ2.out))
  go_ret2
  exact ⟨rfl, HB2.out⟩
set_option maxHeartbeats 2000000 in
set_option maxRecDepth 100000 in
theorem build_eopt {A1 A2 : Option Addr} {c1 c2 : Nat} {p0 p1 p2 p3 p4 p5 p6 p7 p8 : Int} {p9 : Bool} {p10 : Int} {p11 p12 : List Int} {w : World} (ha : Kd.C (Kd.int .u8) w A1 p11.length p11) (hca : p11.length ≤ c1) (hd : Kd.C (Kd.int .u8) w A2 p12.length p12) (hcd : p12.length ≤ c2) (hba : Bytes p11) (hbd : Bytes p12) (hla : p11.length ≤ 100000) (hld : p12.length ≤ 100000) (hk : p0 = 1) (hok : okR ⟨p0, p1, p2, p3, p4, p5, p6, p7, p8, p9, p10, p11, p12⟩ = true) (h : 40 < p11.length) :
    Calls Try.prog 11 #[.agg #[.int .i64 p0, .int .i64 p1, .int .i64 p2, .int .i64 p3, .int .i64 p4, .int .i64 p5, .int .i64 p6, .int .i64 p7, .int .i64 p8, .bool p9, .int .i64 p10, .slice A1 p11.length c1, .slice A2 p12.length c2]] w fun e w' => e = .returned (.tuple #[.slice none 0 0, .int .i64 5]) ∧ Below w.heap.size w w' := by
  have q1 : (p0 == 1) = true := by rw [hk]; rfl
  have q1n : (p0 != 1) = false := by rw [hk]; rfl
  have q2 : (p0 == 2) = false := by rw [hk]; rfl
  have q2n : (p0 != 2) = true := by rw [hk]; rfl
  have q3 : (p0 == 3) = false := by rw [hk]; rfl
  have q3n : (p0 != 3) = true := by rw [hk]; rfl
  have d1 : decide (40 < (p11.length : Int)) = true := decide_eq_true (by omega)
  have d2 : decide (40 < p11.length) = true := decide_eq_true h
  have G34 := Aside0.mk (fun W => wire_known.calls p0 true W (by unfold wire_known.f; rw [if_pos (by omega)]; simp [hk]))
  have G35 := Aside0.mk (fun W (h : Below w.heap.size w W) => (show Calls Try.prog 34 #[.agg #[.int .i64 p0, .int .i64 p1, .int .i64 p2, .int .i64 p3, .int .i64 p4, .int .i64 p5, .int .i64 p6, .int .i64 p7, .int .i64 p8, .bool p9, .int .i64 p10, .slice A1 p11.length c1, .slice A2 p12.length c2]] W fun e w' => e = .returned (.bool true) ∧ Below W.heap.size W w' from by
    have := ranges_calls (p := ⟨p0, p1, p2, p3, p4, p5, p6, p7, p8, p9, p10, p11, p12⟩) (A1 := A1) (A2 := A2) (c1 := c1) (c2 := c2) (w := W) (Kd.C_below ha h) hca (Kd.C_below hd h) hcd
    rw [hok] at this
    exact this))
  have HBA := Aside0.mk (fun o => (Below.refl w.heap.size w).alloc (Nat.le_refl _) o)
  clear ha hd hba hbd hca hcd hla hld hok h hk
  go_enter Try.func11, Try.ntmps11
  go_wp2_with (first
    | (go_at_call 33; (with_reducible refine (G34.out _).mono ?_); rintro e w1 ⟨rfl, ⟨⟨nd, rfl⟩⟩⟩)
    | (go_at_call 34; (with_reducible refine (G35.out _ ?hb).mono ?_); (case hb => repeat (first | with_reducible exact HBA.out _ | with_reducible apply pw_below_drewN)); rintro e w2 ⟨rfl, hb2⟩; have HZ2 := Aside0.mk ((hb2.block w.heap.size (blk_lt (new_blk w (.cells #[.int .i64 p0, .int .i64 p1, .int .i64 p2, .int .i64 p3, .int .i64 p4, .int .i64 p5, .int .i64 p6, .int .i64 p7, .int .i64 p8, .bool p9, .int .i64 p10, .slice A1 p11.length c1, .slice A2 p12.length c2] 39)))).trans (new_blk w (.cells #[.int .i64 p0, .int .i64 p1, .int .i64 p2, .int .i64 p3, .int .i64 p4, .int .i64 p5, .int .i64 p6, .int .i64 p7, .int .i64 p8, .bool p9, .int .i64 p10, .slice A1 p11.length c1, .slice A2 p12.length c2] 39))); have HB2 := Aside0.mk (below_step (bd (HBA.out (.cells #[.int .i64 p0, .int .i64 p1, .int .i64 p2, .int .i64 p3, .int .i64 p4, .int .i64 p5, .int .i64 p6, .int .i64 p7, .int .i64 p8, .bool p9, .int .i64 p10, .slice A1 p11.length c1, .slice A2 p12.length c2] 39)) _) hb2); clear hb2; obtain ⟨k0, k1, k2, k3, k4, k5, k6, k7, k8, k9, k10, k11, k12⟩ := c13 HZ2.out))
  go_ret2
  exact ⟨rfl, HB2.out⟩
set_option maxHeartbeats 2000000 in
set_option maxRecDepth 100000 in
theorem build_elen3 {A1 A2 : Option Addr} {c1 c2 : Nat} {p0 p1 p2 p3 p4 p5 p6 p7 p8 : Int} {p9 : Bool} {p10 : Int} {p11 p12 : List Int} {w : World} (ha : Kd.C (Kd.int .u8) w A1 p11.length p11) (hca : p11.length ≤ c1) (hd : Kd.C (Kd.int .u8) w A2 p12.length p12) (hcd : p12.length ≤ c2) (hba : Bytes p11) (hbd : Bytes p12) (hla : p11.length ≤ 100000) (hld : p12.length ≤ 100000) (hk : p0 = 3) (hok : okR ⟨p0, p1, p2, p3, p4, p5, p6, p7, p8, p9, p10, p11, p12⟩ = true) (h : p12.length < 24) :
    Calls Try.prog 11 #[.agg #[.int .i64 p0, .int .i64 p1, .int .i64 p2, .int .i64 p3, .int .i64 p4, .int .i64 p5, .int .i64 p6, .int .i64 p7, .int .i64 p8, .bool p9, .int .i64 p10, .slice A1 p11.length c1, .slice A2 p12.length c2]] w fun e w' => e = .returned (.tuple #[.slice none 0 0, .int .i64 3]) ∧ Below w.heap.size w w' := by
  have q1 : (p0 == 1) = false := by rw [hk]; rfl
  have q1n : (p0 != 1) = true := by rw [hk]; rfl
  have q2 : (p0 == 2) = false := by rw [hk]; rfl
  have q2n : (p0 != 2) = true := by rw [hk]; rfl
  have q3 : (p0 == 3) = true := by rw [hk]; rfl
  have q3n : (p0 != 3) = false := by rw [hk]; rfl
  have d1 : decide ((p12.length : Int) < 24) = true := decide_eq_true (by omega)
  have d2 : decide (p12.length < 24) = true := decide_eq_true h
  have G34 := Aside0.mk (fun W => wire_known.calls p0 true W (by unfold wire_known.f; rw [if_pos (by omega)]; simp [hk]))
  have G35 := Aside0.mk (fun W (h : Below w.heap.size w W) => (show Calls Try.prog 34 #[.agg #[.int .i64 p0, .int .i64 p1, .int .i64 p2, .int .i64 p3, .int .i64 p4, .int .i64 p5, .int .i64 p6, .int .i64 p7, .int .i64 p8, .bool p9, .int .i64 p10, .slice A1 p11.length c1, .slice A2 p12.length c2]] W fun e w' => e = .returned (.bool true) ∧ Below W.heap.size W w' from by
    have := ranges_calls (p := ⟨p0, p1, p2, p3, p4, p5, p6, p7, p8, p9, p10, p11, p12⟩) (A1 := A1) (A2 := A2) (c1 := c1) (c2 := c2) (w := W) (Kd.C_below ha h) hca (Kd.C_below hd h) hcd
    rw [hok] at this
    exact this))
  have HBA := Aside0.mk (fun o => (Below.refl w.heap.size w).alloc (Nat.le_refl _) o)
  clear ha hd hba hbd hca hcd hla hld hok h hk
  go_enter Try.func11, Try.ntmps11
  go_wp2_with (first
    | (go_at_call 33; (with_reducible refine (G34.out _).mono ?_); rintro e w1 ⟨rfl, ⟨⟨nd, rfl⟩⟩⟩)
    | (go_at_call 34; (with_reducible refine (G35.out _ ?hb).mono ?_); (case hb => repeat (first | with_reducible exact HBA.out _ | with_reducible apply pw_below_drewN)); rintro e w2 ⟨rfl, hb2⟩; have HZ2 := Aside0.mk ((hb2.block w.heap.size (blk_lt (new_blk w (.cells #[.int .i64 p0, .int .i64 p1, .int .i64 p2, .int .i64 p3, .int .i64 p4, .int .i64 p5, .int .i64 p6, .int .i64 p7, .int .i64 p8, .bool p9, .int .i64 p10, .slice A1 p11.length c1, .slice A2 p12.length c2] 39)))).trans (new_blk w (.cells #[.int .i64 p0, .int .i64 p1, .int .i64 p2, .int .i64 p3, .int .i64 p4, .int .i64 p5, .int .i64 p6, .int .i64 p7, .int .i64 p8, .bool p9, .int .i64 p10, .slice A1 p11.length c1, .slice A2 p12.length c2] 39))); have HB2 := Aside0.mk (below_step (bd (HBA.out (.cells #[.int .i64 p0, .int .i64 p1, .int .i64 p2, .int .i64 p3, .int .i64 p4, .int .i64 p5, .int .i64 p6, .int .i64 p7, .int .i64 p8, .bool p9, .int .i64 p10, .slice A1 p11.length c1, .slice A2 p12.length c2] 39)) _) hb2); clear hb2; obtain ⟨k0, k1, k2, k3, k4, k5, k6, k7, k8, k9, k10, k11, k12⟩ := c13 HZ2.out))
  go_ret2
  exact ⟨rfl, HB2.out⟩
set_option maxHeartbeats 2000000 in
set_option maxRecDepth 100000 in
theorem build_elens {A1 A2 : Option Addr} {c1 c2 : Nat} {p0 p1 p2 p3 p4 p5 p6 p7 p8 : Int} {p9 : Bool} {p10 : Int} {p11 p12 : List Int} {w : World} (ha : Kd.C (Kd.int .u8) w A1 p11.length p11) (hca : p11.length ≤ c1) (hd : Kd.C (Kd.int .u8) w A2 p12.length p12) (hcd : p12.length ≤ c2) (hba : Bytes p11) (hbd : Bytes p12) (hla : p11.length ≤ 100000) (hld : p12.length ≤ 100000) (hk : p0 = 1) (hok : okR ⟨p0, p1, p2, p3, p4, p5, p6, p7, p8, p9, p10, p11, p12⟩ = true) (h : 1500 < 24 + p12.length + p11.length) (h40 : p11.length ≤ 40) :
    Calls Try.prog 11 #[.agg #[.int .i64 p0, .int .i64 p1, .int .i64 p2, .int .i64 p3, .int .i64 p4, .int .i64 p5, .int .i64 p6, .int .i64 p7, .int .i64 p8, .bool p9, .int .i64 p10, .slice A1 p11.length c1, .slice A2 p12.length c2]] w fun e w' => e = .returned (.tuple #[.slice none 0 0, .int .i64 3]) ∧ Below w.heap.size w w' := by
  have q1 : (p0 == 1) = true := by rw [hk]; rfl
  have q1n : (p0 != 1) = false := by rw [hk]; rfl
  have q2 : (p0 == 2) = false := by rw [hk]; rfl
  have q2n : (p0 != 2) = true := by rw [hk]; rfl
  have q3 : (p0 == 3) = false := by rw [hk]; rfl
  have q3n : (p0 != 3) = true := by rw [hk]; rfl
  have d3 : decide (40 < (p11.length : Int)) = false := decide_eq_false (by omega)
  have d4 : decide (40 < p11.length) = false := decide_eq_false (by omega)
  have d1 : decide (1500 < wrap64 (wrap64 (24 + (p12.length : Int)) + (p11.length : Int))) = true := decide_eq_true (by rw [wid (n := 24 + (p12.length : Int)) (by omega) (by omega), wid (by omega) (by omega)]; omega)
  have G34 := Aside0.mk (fun W => wire_known.calls p0 true W (by unfold wire_known.f; rw [if_pos (by omega)]; simp [hk]))
  have G35 := Aside0.mk (fun W (h : Below w.heap.size w W) => (show Calls Try.prog 34 #[.agg #[.int .i64 p0, .int .i64 p1, .int .i64 p2, .int .i64 p3, .int .i64 p4, .int .i64 p5, .int .i64 p6, .int .i64 p7, .int .i64 p8, .bool p9, .int .i64 p10, .slice A1 p11.length c1, .slice A2 p12.length c2]] W fun e w' => e = .returned (.bool true) ∧ Below W.heap.size W w' from by
    have := ranges_calls (p := ⟨p0, p1, p2, p3, p4, p5, p6, p7, p8, p9, p10, p11, p12⟩) (A1 := A1) (A2 := A2) (c1 := c1) (c2 := c2) (w := W) (Kd.C_below ha h) hca (Kd.C_below hd h) hcd
    rw [hok] at this
    exact this))
  have HBA := Aside0.mk (fun o => (Below.refl w.heap.size w).alloc (Nat.le_refl _) o)
  clear ha hd hba hbd hca hcd hla hld hok h hk h40
  go_enter Try.func11, Try.ntmps11
  go_wp2_with (first
    | (go_at_call 33; (with_reducible refine (G34.out _).mono ?_); rintro e w1 ⟨rfl, ⟨⟨nd, rfl⟩⟩⟩)
    | (go_at_call 34; (with_reducible refine (G35.out _ ?hb).mono ?_); (case hb => repeat (first | with_reducible exact HBA.out _ | with_reducible apply pw_below_drewN)); rintro e w2 ⟨rfl, hb2⟩; have HZ2 := Aside0.mk ((hb2.block w.heap.size (blk_lt (new_blk w (.cells #[.int .i64 p0, .int .i64 p1, .int .i64 p2, .int .i64 p3, .int .i64 p4, .int .i64 p5, .int .i64 p6, .int .i64 p7, .int .i64 p8, .bool p9, .int .i64 p10, .slice A1 p11.length c1, .slice A2 p12.length c2] 39)))).trans (new_blk w (.cells #[.int .i64 p0, .int .i64 p1, .int .i64 p2, .int .i64 p3, .int .i64 p4, .int .i64 p5, .int .i64 p6, .int .i64 p7, .int .i64 p8, .bool p9, .int .i64 p10, .slice A1 p11.length c1, .slice A2 p12.length c2] 39))); have HB2 := Aside0.mk (below_step (bd (HBA.out (.cells #[.int .i64 p0, .int .i64 p1, .int .i64 p2, .int .i64 p3, .int .i64 p4, .int .i64 p5, .int .i64 p6, .int .i64 p7, .int .i64 p8, .bool p9, .int .i64 p10, .slice A1 p11.length c1, .slice A2 p12.length c2] 39)) _) hb2); clear hb2; obtain ⟨k0, k1, k2, k3, k4, k5, k6, k7, k8, k9, k10, k11, k12⟩ := c13 HZ2.out))
  go_ret2
  exact ⟨rfl, HB2.out⟩
set_option maxHeartbeats 2000000 in
set_option maxRecDepth 100000 in
theorem build_eleng {A1 A2 : Option Addr} {c1 c2 : Nat} {p0 p1 p2 p3 p4 p5 p6 p7 p8 : Int} {p9 : Bool} {p10 : Int} {p11 p12 : List Int} {w : World} (ha : Kd.C (Kd.int .u8) w A1 p11.length p11) (hca : p11.length ≤ c1) (hd : Kd.C (Kd.int .u8) w A2 p12.length p12) (hcd : p12.length ≤ c2) (hba : Bytes p11) (hbd : Bytes p12) (hla : p11.length ≤ 100000) (hld : p12.length ≤ 100000) (hk : p0 = 2) (hok : okR ⟨p0, p1, p2, p3, p4, p5, p6, p7, p8, p9, p10, p11, p12⟩ = true) (h : 1500 < 24 + p12.length) :
    Calls Try.prog 11 #[.agg #[.int .i64 p0, .int .i64 p1, .int .i64 p2, .int .i64 p3, .int .i64 p4, .int .i64 p5, .int .i64 p6, .int .i64 p7, .int .i64 p8, .bool p9, .int .i64 p10, .slice A1 p11.length c1, .slice A2 p12.length c2]] w fun e w' => e = .returned (.tuple #[.slice none 0 0, .int .i64 3]) ∧ Below w.heap.size w w' := by
  have q1 : (p0 == 1) = false := by rw [hk]; rfl
  have q1n : (p0 != 1) = true := by rw [hk]; rfl
  have q2 : (p0 == 2) = true := by rw [hk]; rfl
  have q2n : (p0 != 2) = false := by rw [hk]; rfl
  have q3 : (p0 == 3) = false := by rw [hk]; rfl
  have q3n : (p0 != 3) = true := by rw [hk]; rfl
  have d1 : decide (1500 < wrap64 (24 + (p12.length : Int))) = true := decide_eq_true (by rw [wid (by omega) (by omega)]; omega)
  have G34 := Aside0.mk (fun W => wire_known.calls p0 true W (by unfold wire_known.f; rw [if_pos (by omega)]; simp [hk]))
  have G35 := Aside0.mk (fun W (h : Below w.heap.size w W) => (show Calls Try.prog 34 #[.agg #[.int .i64 p0, .int .i64 p1, .int .i64 p2, .int .i64 p3, .int .i64 p4, .int .i64 p5, .int .i64 p6, .int .i64 p7, .int .i64 p8, .bool p9, .int .i64 p10, .slice A1 p11.length c1, .slice A2 p12.length c2]] W fun e w' => e = .returned (.bool true) ∧ Below W.heap.size W w' from by
    have := ranges_calls (p := ⟨p0, p1, p2, p3, p4, p5, p6, p7, p8, p9, p10, p11, p12⟩) (A1 := A1) (A2 := A2) (c1 := c1) (c2 := c2) (w := W) (Kd.C_below ha h) hca (Kd.C_below hd h) hcd
    rw [hok] at this
    exact this))
  have HBA := Aside0.mk (fun o => (Below.refl w.heap.size w).alloc (Nat.le_refl _) o)
  clear ha hd hba hbd hca hcd hla hld hok h hk
  go_enter Try.func11, Try.ntmps11
  go_wp2_with (first
    | (go_at_call 33; (with_reducible refine (G34.out _).mono ?_); rintro e w1 ⟨rfl, ⟨⟨nd, rfl⟩⟩⟩)
    | (go_at_call 34; (with_reducible refine (G35.out _ ?hb).mono ?_); (case hb => repeat (first | with_reducible exact HBA.out _ | with_reducible apply pw_below_drewN)); rintro e w2 ⟨rfl, hb2⟩; have HZ2 := Aside0.mk ((hb2.block w.heap.size (blk_lt (new_blk w (.cells #[.int .i64 p0, .int .i64 p1, .int .i64 p2, .int .i64 p3, .int .i64 p4, .int .i64 p5, .int .i64 p6, .int .i64 p7, .int .i64 p8, .bool p9, .int .i64 p10, .slice A1 p11.length c1, .slice A2 p12.length c2] 39)))).trans (new_blk w (.cells #[.int .i64 p0, .int .i64 p1, .int .i64 p2, .int .i64 p3, .int .i64 p4, .int .i64 p5, .int .i64 p6, .int .i64 p7, .int .i64 p8, .bool p9, .int .i64 p10, .slice A1 p11.length c1, .slice A2 p12.length c2] 39))); have HB2 := Aside0.mk (below_step (bd (HBA.out (.cells #[.int .i64 p0, .int .i64 p1, .int .i64 p2, .int .i64 p3, .int .i64 p4, .int .i64 p5, .int .i64 p6, .int .i64 p7, .int .i64 p8, .bool p9, .int .i64 p10, .slice A1 p11.length c1, .slice A2 p12.length c2] 39)) _) hb2); clear hb2; obtain ⟨k0, k1, k2, k3, k4, k5, k6, k7, k8, k9, k10, k11, k12⟩ := c13 HZ2.out))
  go_ret2
  exact ⟨rfl, HB2.out⟩
set_option maxHeartbeats 2000000 in
set_option maxRecDepth 100000 in
theorem build_elenf {A1 A2 : Option Addr} {c1 c2 : Nat} {p0 p1 p2 p3 p4 p5 p6 p7 p8 : Int} {p9 : Bool} {p10 : Int} {p11 p12 : List Int} {w : World} (ha : Kd.C (Kd.int .u8) w A1 p11.length p11) (hca : p11.length ≤ c1) (hd : Kd.C (Kd.int .u8) w A2 p12.length p12) (hcd : p12.length ≤ c2) (hba : Bytes p11) (hbd : Bytes p12) (hla : p11.length ≤ 100000) (hld : p12.length ≤ 100000) (hk : p0 = 3) (hok : okR ⟨p0, p1, p2, p3, p4, p5, p6, p7, p8, p9, p10, p11, p12⟩ = true) (h : 1500 < 20 + p12.length) (h24 : 24 ≤ p12.length) :
    Calls Try.prog 11 #[.agg #[.int .i64 p0, .int .i64 p1, .int .i64 p2, .int .i64 p3, .int .i64 p4, .int .i64 p5, .int .i64 p6, .int .i64 p7, .int .i64 p8, .bool p9, .int .i64 p10, .slice A1 p11.length c1, .slice A2 p12.length c2]] w fun e w' => e = .returned (.tuple #[.slice none 0 0, .int .i64 3]) ∧ Below w.heap.size w w' := by
  have q1 : (p0 == 1) = false := by rw [hk]; rfl
  have q1n : (p0 != 1) = true := by rw [hk]; rfl
  have q2 : (p0 == 2) = false := by rw [hk]; rfl
  have q2n : (p0 != 2) = true := by rw [hk]; rfl
  have q3 : (p0 == 3) = true := by rw [hk]; rfl
  have q3n : (p0 != 3) = false := by rw [hk]; rfl
  have d3 : decide ((p12.length : Int) < 24) = false := decide_eq_false (by omega)
  have d4 : decide (p12.length < 24) = false := decide_eq_false (by omega)
  have d1 : decide (1500 < wrap64 (20 + (p12.length : Int))) = true := decide_eq_true (by rw [wid (by omega) (by omega)]; omega)
  have G34 := Aside0.mk (fun W => wire_known.calls p0 true W (by unfold wire_known.f; rw [if_pos (by omega)]; simp [hk]))
  have G35 := Aside0.mk (fun W (h : Below w.heap.size w W) => (show Calls Try.prog 34 #[.agg #[.int .i64 p0, .int .i64 p1, .int .i64 p2, .int .i64 p3, .int .i64 p4, .int .i64 p5, .int .i64 p6, .int .i64 p7, .int .i64 p8, .bool p9, .int .i64 p10, .slice A1 p11.length c1, .slice A2 p12.length c2]] W fun e w' => e = .returned (.bool true) ∧ Below W.heap.size W w' from by
    have := ranges_calls (p := ⟨p0, p1, p2, p3, p4, p5, p6, p7, p8, p9, p10, p11, p12⟩) (A1 := A1) (A2 := A2) (c1 := c1) (c2 := c2) (w := W) (Kd.C_below ha h) hca (Kd.C_below hd h) hcd
    rw [hok] at this
    exact this))
  have HBA := Aside0.mk (fun o => (Below.refl w.heap.size w).alloc (Nat.le_refl _) o)
  clear ha hd hba hbd hca hcd hla hld hok h hk h24
  go_enter Try.func11, Try.ntmps11
  go_wp2_with (first
    | (go_at_call 33; (with_reducible refine (G34.out _).mono ?_); rintro e w1 ⟨rfl, ⟨⟨nd, rfl⟩⟩⟩)
    | (go_at_call 34; (with_reducible refine (G35.out _ ?hb).mono ?_); (case hb => repeat (first | with_reducible exact HBA.out _ | with_reducible apply pw_below_drewN)); rintro e w2 ⟨rfl, hb2⟩; have HZ2 := Aside0.mk ((hb2.block w.heap.size (blk_lt (new_blk w (.cells #[.int .i64 p0, .int .i64 p1, .int .i64 p2, .int .i64 p3, .int .i64 p4, .int .i64 p5, .int .i64 p6, .int .i64 p7, .int .i64 p8, .bool p9, .int .i64 p10, .slice A1 p11.length c1, .slice A2 p12.length c2] 39)))).trans (new_blk w (.cells #[.int .i64 p0, .int .i64 p1, .int .i64 p2, .int .i64 p3, .int .i64 p4, .int .i64 p5, .int .i64 p6, .int .i64 p7, .int .i64 p8, .bool p9, .int .i64 p10, .slice A1 p11.length c1, .slice A2 p12.length c2] 39))); have HB2 := Aside0.mk (below_step (bd (HBA.out (.cells #[.int .i64 p0, .int .i64 p1, .int .i64 p2, .int .i64 p3, .int .i64 p4, .int .i64 p5, .int .i64 p6, .int .i64 p7, .int .i64 p8, .bool p9, .int .i64 p10, .slice A1 p11.length c1, .slice A2 p12.length c2] 39)) _) hb2); clear hb2; obtain ⟨k0, k1, k2, k3, k4, k5, k6, k7, k8, k9, k10, k11, k12⟩ := c13 HZ2.out))
  go_ret2
  exact ⟨rfl, HB2.out⟩
set_option maxHeartbeats 8000000 in
set_option maxRecDepth 100000 in
theorem build_fault {A1 A2 : Option Addr} {c1 c2 : Nat} {p0 p1 p2 p3 p4 p5 p6 p7 p8 : Int} {p9 : Bool} {p10 : Int} {p11 p12 : List Int} {w : World} (ha : Kd.C (Kd.int .u8) w A1 p11.length p11) (hca : p11.length ≤ c1) (hd : Kd.C (Kd.int .u8) w A2 p12.length p12) (hcd : p12.length ≤ c2) (hba : Bytes p11) (hbd : Bytes p12) (hk : p0 = 3) (he : buildE ⟨p0, p1, p2, p3, p4, p5, p6, p7, p8, p9, p10, p11, p12⟩ = 0) :
    Calls Try.prog 11 #[.agg #[.int .i64 p0, .int .i64 p1, .int .i64 p2, .int .i64 p3, .int .i64 p4, .int .i64 p5, .int .i64 p6, .int .i64 p7, .int .i64 p8, .bool p9, .int .i64 p10, .slice A1 p11.length c1, .slice A2 p12.length c2]] w fun e w' => ∃ v, e = .returned (.tuple #[v, .int .i64 0]) ∧ RB w.heap.size w' v (buildL ⟨p0, p1, p2, p3, p4, p5, p6, p7, p8, p9, p10, p11, p12⟩) ∧ Below w.heap.size w w' := by
  have hn : nL ⟨p0, p1, p2, p3, p4, p5, p6, p7, p8, p9, p10, p11, p12⟩ = 20 + p12.length := by unfold nL; simp [hk]
  have hok : okR ⟨p0, p1, p2, p3, p4, p5, p6, p7, p8, p9, p10, p11, p12⟩ = true := by
    unfold buildE at he
    split at he
    · cases he
    split at he
    · cases he
    rename_i h; simpa using h
  have hlim : nL ⟨p0, p1, p2, p3, p4, p5, p6, p7, p8, p9, p10, p11, p12⟩ ≤ 1500 ∧ (p0 = 1 → p11.length ≤ 40) ∧ (p0 = 3 → 24 ≤ p12.length) := by
    unfold buildE at he
    split at he
    · cases he
    split at he
    · cases he
    split at he
    · cases he
    split at he
    · cases he
    rename_i h1 h2 h3 h4
    refine ⟨by omega, fun h => ?_, fun h => ?_⟩
    · have : ¬ 40 < p11.length := fun h5 => h3 ⟨h, h5⟩
      omega
    · have : ¬ p12.length < 24 := fun h5 => h4 (Or.inl ⟨h, h5⟩)
      omega
  obtain ⟨n, hne⟩ : ∃ n, 20 + p12.length = n := ⟨_, rfl⟩
  rw [hn, hne] at hlim
  have HN := Aside0.mk (show 20 ≤ n ∧ n ≤ 1500 ∧ 20 + p12.length = n from ⟨by omega, hlim.1, hne⟩)
  have HNL := Aside0.mk (hn.trans hne)
  have HLIM := Aside0.mk hlim
  have HNN := Aside0.mk (show wrap64 (20 + (p12.length : Int)) = (n : Int) from by rw [wid (by omega) (by omega)]; omega)
  have dlim : decide (1500 < wrap64 (20 + (p12.length : Int))) = false := decide_eq_false (by rw [HNN.out]; omega)
  have HA := Aside0.mk ha
  have HD := Aside0.mk hd
  have HYA := Aside0.mk hba
  have HYD := Aside0.mk hbd
  have HK := Aside0.mk hk
  have q1 : (p0 == 1) = false := by rw [hk]; rfl
  have q1n : (p0 != 1) = true := by rw [hk]; rfl
  have q2 : (p0 == 2) = false := by rw [hk]; rfl
  have q2n : (p0 != 2) = true := by rw [hk]; rfl
  have q3 : (p0 == 3) = true := by rw [hk]; rfl
  have q3n : (p0 != 3) = false := by rw [hk]; rfl
  have ddat : decide ((p12.length : Int) < 24) = false := decide_eq_false (by have := hlim.2.2 hk; omega)
  have ddatn : decide (p12.length < 24) = false := decide_eq_false (by have := hlim.2.2 hk; omega)
  have G34 := Aside0.mk (fun W => wire_known.calls p0 true W (by unfold wire_known.f; rw [if_pos (by omega)]; simp [hk]))
  have G35 := Aside0.mk (fun W (h : Below w.heap.size w W) => (show Calls Try.prog 34 #[.agg #[.int .i64 p0, .int .i64 p1, .int .i64 p2, .int .i64 p3, .int .i64 p4, .int .i64 p5, .int .i64 p6, .int .i64 p7, .int .i64 p8, .bool p9, .int .i64 p10, .slice A1 p11.length c1, .slice A2 p12.length c2]] W fun e w' => e = .returned (.bool true) ∧ Below W.heap.size W w' from by
    have := ranges_calls (p := ⟨p0, p1, p2, p3, p4, p5, p6, p7, p8, p9, p10, p11, p12⟩) (A1 := A1) (A2 := A2) (c1 := c1) (c2 := c2) (w := W) (Kd.C_below ha h) hca (Kd.C_below hd h) hcd
    rw [hok] at this
    exact this))
  have HBA := Aside0.mk (fun o => (Below.refl w.heap.size w).alloc (Nat.le_refl _) o)
  clear ha hd hba hbd hk he hn hok hlim hne hca hcd
  go_enter Try.func11, Try.ntmps11
  go_upto_region 14 with (first
    | (go_at_call 33; (with_reducible refine (G34.out _).mono ?_); rintro e w1 ⟨rfl, ⟨⟨nd, rfl⟩⟩⟩)
    | (go_at_call 34; (with_reducible refine (G35.out _ ?hb).mono ?_); (case hb => repeat (first | with_reducible exact HBA.out _ | with_reducible apply pw_below_drewN)); rintro e w2 ⟨rfl, hb2⟩; have HZ2 := Aside0.mk ((hb2.block w.heap.size (blk_lt (new_blk w (.cells #[.int .i64 p0, .int .i64 p1, .int .i64 p2, .int .i64 p3, .int .i64 p4, .int .i64 p5, .int .i64 p6, .int .i64 p7, .int .i64 p8, .bool p9, .int .i64 p10, .slice A1 p11.length c1, .slice A2 p12.length c2] 39)))).trans (new_blk w (.cells #[.int .i64 p0, .int .i64 p1, .int .i64 p2, .int .i64 p3, .int .i64 p4, .int .i64 p5, .int .i64 p6, .int .i64 p7, .int .i64 p8, .bool p9, .int .i64 p10, .slice A1 p11.length c1, .slice A2 p12.length c2] 39))); have HB2 := Aside0.mk (below_step (bd (HBA.out (.cells #[.int .i64 p0, .int .i64 p1, .int .i64 p2, .int .i64 p3, .int .i64 p4, .int .i64 p5, .int .i64 p6, .int .i64 p7, .int .i64 p8, .bool p9, .int .i64 p10, .slice A1 p11.length c1, .slice A2 p12.length c2] 39)) _) hb2); clear hb2; obtain ⟨k0, k1, k2, k3, k4, k5, k6, k7, k8, k9, k10, k11, k12⟩ := c13 HZ2.out))
  clear G34 G35 HBA dlim ddat ddatn
  obtain ⟨g, HGE⟩ : ∃ g, w2.heap.size = g := ⟨_, rfl⟩
  have HGL := Aside0.mk (show w.heap.size < g from by rw [← HGE]; exact blk_lt HZ2.out)
  have HGG := Aside0.mk (Nat.le_of_lt HGL.out)
  go_upto_region 15 with (first
    | ((with_reducible refine gate_dst (N := 61) rfl ?_); refine make_row g HGE rfl (.tmp 60) (.tmp 60) rfl n (wrap64 (20 + (p12.length : Int))) HNN.out rfl rfl (by have := HN.out; omega) ?_; intro w3 hr hb3; have HR3 := Aside0.mk hr; have HZ3 := Aside0.mk ((hb3.block w.heap.size HGL.out).trans HZ2.out); have HB3 := Aside0.mk (HB2.out.trans (hb3.mono HGG.out)); have HS3 := Aside0.mk (show g < w3.heap.size from blk_lt hr); clear hr hb3; clear k0 k1 k2 k3 k4 k5 k6 k7 k8 k9 k10 k11 k12; obtain ⟨k0, k1, k2, k3, k4, k5, k6, k7, k8, k9, k10, k11, k12⟩ := c13 HZ3.out))
  have HCZ := Aside0.mk (fun W (h : Below g w3 W) => c13 ((h.block w.heap.size HGL.out).trans HZ3.out))
  have r0 := row_cells HR3.out 0 (by have := HN.out; simp; omega)
  have r1 := row_cells HR3.out 1 (by have := HN.out; simp; omega)
  have r12 := row_cells HR3.out 12 (by have := HN.out; simp; omega)
  have s0 := row_frozen HR3.out 0
  have s1 := row_frozen HR3.out 1
  have s12 := row_frozen HR3.out 12
  have hn0 : (0 : Int) < (n : Int) := by have := HN.out; omega
  have hn0n : 0 < n := by have := HN.out; omega
  have hn1 : (1 : Int) < (n : Int) := by have := HN.out; omega
  have hn12 : (12 : Int) < (n : Int) := by have := HN.out; omega
  clear k0 k1 k2 k3 k4 k5 k6 k7 k8 k9 k10 k11 k12
  refine start_ (n := 18) (S := fun w' => w'.cell? ⟨w.heap.size, 0, none⟩ = some (.int .i64 p0) ∧ w'.cell? ⟨w.heap.size, 1, none⟩ = some (.int .i64 p1) ∧ w'.cell? ⟨w.heap.size, 2, none⟩ = some (.int .i64 p2)) (ds := []) #[fF,fF,fF,fF,fF,fF,fF,fF,fF,fF,fF,fF,fF,fF,fF,fF,fF,fF] (by kernel_rfl) rfl rfl ⟨(HCZ.out _ (Below.refl g w3).drew).1, (HCZ.out _ (Below.refl g w3).drew).2.1, (HCZ.out _ (Below.refl g w3).drew).2.2.1⟩ (fun hHeld => ?_)
  refine pure_ (i := 0) (N := some 62) (v := ?_) (a' := ?_) #[tT,fF,fF,fF,fF,fF,fF,fF,fF,fF,fF,fF,fF,fF,fF,fF,fF,fF] rfl rfl (by kernel_rfl) (fun _ _ _ h => h) (Or.inl ⟨by rfl, ?_⟩) ?_ ?_
  rotate_left; · intro w'; go_simp; with_reducible rfl
  rotate_left; · simp only [Act.put, q_a, q_0, q_s, i64_w, i32_w]; rfl
  refine pure_ (i := 1) (N := some 63) (v := ?_) (a' := ?_) #[tT,tT,fF,fF,fF,fF,fF,fF,fF,fF,fF,fF,fF,fF,fF,fF,fF,fF] rfl rfl (by kernel_rfl) (fun _ _ _ h => h) (Or.inl ⟨by rfl, ?_⟩) ?_ ?_
  rotate_left; · intro w'; go_simp; with_reducible rfl
  rotate_left; · simp only [Act.put, q_a, q_0, q_s, i64_w, i32_w]; rfl
  refine pure_ (i := 2) (N := some 64) (v := ?_) (a' := ?_) #[tT,tT,tT,fF,fF,fF,fF,fF,fF,fF,fF,fF,fF,fF,fF,fF,fF,fF] rfl rfl (by kernel_rfl) (fun _ _ _ h => h) (Or.inl ⟨by rfl, ?_⟩) ?_ ?_
  rotate_left; · intro w'; go_simp; with_reducible rfl
  rotate_left; · simp only [Act.put, q_a, q_0, q_s, i64_w, i32_w]; rfl
  refine pure_ (i := 3) (N := some 65) (v := ?_) (a' := ?_) #[tT,tT,tT,tT,fF,fF,fF,fF,fF,fF,fF,fF,fF,fF,fF,fF,fF,fF] rfl rfl (by kernel_rfl) (fun _ _ _ h => h) (Or.inl ⟨by rfl, ?_⟩) ?_ ?_
  rotate_left; · intro w'; go_simp; with_reducible rfl
  rotate_left; · simp only [Act.put, q_a, q_0, q_s, i64_w, i32_w]; rfl
  refine pure_ (i := 6) (N := some 68) (v := ?_) (a' := ?_) #[tT,tT,tT,tT,fF,fF,tT,fF,fF,fF,fF,fF,fF,fF,fF,fF,fF,fF] rfl rfl (by kernel_rfl) (fun _ _ _ h => h) (Or.inl ⟨by rfl, ?_⟩) ?_ ?_
  rotate_left; · intro w'; go_simp; with_reducible rfl
  rotate_left; · simp only [Act.put, q_a, q_0, q_s, i64_w, i32_w]; rfl
  refine pure_ (i := 9) (N := some 71) (v := ?_) (a' := ?_) #[tT,tT,tT,tT,fF,fF,tT,fF,fF,tT,fF,fF,fF,fF,fF,fF,fF,fF] rfl rfl (by kernel_rfl) (fun _ _ _ h => h) (Or.inl ⟨by rfl, ?_⟩) ?_ ?_
  rotate_left; · intro w'; go_simp; with_reducible rfl
  rotate_left; · simp only [Act.put, q_a, q_0, q_s, i64_w, i32_w]; rfl
  refine take_ (i := 4) (N := some 66) (v := ?_) (a' := ?_) #[tT,tT,tT,tT,tT,fF,tT,fF,fF,tT,fF,fF,fF,fF,fF,fF,fF,fF] rfl rfl (by kernel_rfl) (fun _ _ _ h => h) (Or.inl ⟨by rfl, ?_⟩) hHeld ?_ ?_
  rotate_left
  · rintro w' ⟨s0, s1, s2⟩
    go_simp
    with_reducible rfl
  rotate_left; · simp only [Act.put, q_a, q_0, q_s, i64_w, i32_w]; rfl
  refine pure_ (i := 5) (N := some 67) (v := ?_) (a' := ?_) #[tT,tT,tT,tT,tT,tT,tT,fF,fF,tT,fF,fF,fF,fF,fF,fF,fF,fF] rfl rfl (by kernel_rfl) (fun _ _ _ h => h) (Or.inl ⟨by rfl, ?_⟩) ?_ ?_
  rotate_left; · intro w'; go_simp; with_reducible rfl
  rotate_left; · simp only [Act.put, q_a, q_0, q_s, i64_w, i32_w]; rfl
  refine pure_ (i := 12) (N := some 74) (v := ?_) (a' := ?_) #[tT,tT,tT,tT,tT,tT,tT,fF,fF,tT,fF,fF,tT,fF,fF,fF,fF,fF] rfl rfl (by kernel_rfl) (fun _ _ _ h => h) (Or.inl ⟨by rfl, ?_⟩) ?_ ?_
  rotate_left; · intro w'; go_simp; with_reducible rfl
  rotate_left; · simp only [Act.put, q_a, q_0, q_s, i64_w, i32_w]; rfl
  refine take_ (i := 7) (N := some 69) (v := ?_) (a' := ?_) #[tT,tT,tT,tT,tT,tT,tT,tT,fF,tT,fF,fF,tT,fF,fF,fF,fF,fF] rfl rfl (by kernel_rfl) (fun _ _ _ h => h) (Or.inl ⟨by rfl, ?_⟩) hHeld ?_ ?_
  rotate_left
  · rintro w' ⟨s0, s1, s2⟩
    go_simp
    with_reducible rfl
  rotate_left; · simp only [Act.put, q_a, q_0, q_s, i64_w, i32_w]; rfl
  refine pure_ (i := 8) (N := some 70) (v := ?_) (a' := ?_) #[tT,tT,tT,tT,tT,tT,tT,tT,tT,tT,fF,fF,tT,fF,fF,fF,fF,fF] rfl rfl (by kernel_rfl) (fun _ _ _ h => h) (Or.inl ⟨by rfl, ?_⟩) ?_ ?_
  rotate_left; · intro w'; go_simp; with_reducible rfl
  rotate_left; · simp only [Act.put, q_a, q_0, q_s, i64_w, i32_w]; rfl
  refine take_ (i := 10) (N := some 72) (v := ?_) (a' := ?_) #[tT,tT,tT,tT,tT,tT,tT,tT,tT,tT,tT,fF,tT,fF,fF,fF,fF,fF] rfl rfl (by kernel_rfl) (fun _ _ _ h => h) (Or.inl ⟨by rfl, ?_⟩) hHeld ?_ ?_
  rotate_left
  · rintro w' ⟨s0, s1, s2⟩
    go_simp
    with_reducible rfl
  rotate_left; · simp only [Act.put, q_a, q_0, q_s, i64_w, i32_w]; rfl
  refine pure_ (i := 11) (N := some 73) (v := ?_) (a' := ?_) #[tT,tT,tT,tT,tT,tT,tT,tT,tT,tT,tT,tT,tT,fF,fF,fF,fF,fF] rfl rfl (by kernel_rfl) (fun _ _ _ h => h) (Or.inl ⟨by rfl, ?_⟩) ?_ ?_
  rotate_left; · intro w'; go_simp; with_reducible rfl
  rotate_left; · simp only [Act.put, q_a, q_0, q_s, i64_w, i32_w]; rfl
  refine one_ (i := 13) (N := none) #[tT,tT,tT,tT,tT,tT,tT,tT,tT,tT,tT,tT,tT,tT,fF,fF,fF,fF] rfl rfl (by kernel_rfl) (by decide) (fun K hK => ?_)
  refine skip_ (w1 := ?_) (by rfl) rfl ?_ ?_
  rotate_left
  · go_simp
    rfl
  refine hK.out _ _ ⟨(HCZ.out _ ((Below.refl g w3).drew.setCell (p := ⟨g, 0, none⟩) (Nat.le_refl _) _)).1, (HCZ.out _ ((Below.refl g w3).drew.setCell (p := ⟨g, 0, none⟩) (Nat.le_refl _) _)).2.1, (HCZ.out _ ((Below.refl g w3).drew.setCell (p := ⟨g, 0, none⟩) (Nat.le_refl _) _)).2.2.1⟩ (fun hHeld => ?_)
  clear hK K
  refine pure_ (i := 14) (N := some 75) (v := ?_) (a' := ?_) #[tT,tT,tT,tT,tT,tT,tT,tT,tT,tT,tT,tT,tT,tT,tT,fF,fF,fF] rfl rfl (by kernel_rfl) (fun _ _ _ h => h) (Or.inl ⟨by rfl, ?_⟩) ?_ ?_
  rotate_left; · intro w'; go_simp; with_reducible rfl
  rotate_left; · simp only [Act.put, q_a, q_0, q_s, i64_w, i32_w]; rfl
  refine one_ (i := 15) (N := none) #[tT,tT,tT,tT,tT,tT,tT,tT,tT,tT,tT,tT,tT,tT,tT,tT,fF,fF] rfl rfl (by kernel_rfl) (by decide) (fun K hK => ?_)
  refine skip_ (w1 := ?_) (by rfl) rfl ?_ ?_
  rotate_left
  · go_simp
    rfl
  refine hK.out _ _ ⟨(HCZ.out _ (((Below.refl g w3).drew.setCell (p := ⟨g, 0, none⟩) (Nat.le_refl _) _).setCell (p := ⟨g, 1, none⟩) (Nat.le_refl _) _)).1, (HCZ.out _ (((Below.refl g w3).drew.setCell (p := ⟨g, 0, none⟩) (Nat.le_refl _) _).setCell (p := ⟨g, 1, none⟩) (Nat.le_refl _) _)).2.1, (HCZ.out _ (((Below.refl g w3).drew.setCell (p := ⟨g, 0, none⟩) (Nat.le_refl _) _).setCell (p := ⟨g, 1, none⟩) (Nat.le_refl _) _)).2.2.1⟩ (fun hHeld => ?_)
  clear hK K
  refine pure_ (i := 16) (N := some 76) (v := ?_) (a' := ?_) #[tT,tT,tT,tT,tT,tT,tT,tT,tT,tT,tT,tT,tT,tT,tT,tT,tT,fF] rfl rfl (by kernel_rfl) (fun _ _ _ h => h) (Or.inl ⟨by rfl, ?_⟩) ?_ ?_
  rotate_left; · intro w'; go_simp; with_reducible rfl
  rotate_left; · simp only [Act.put, q_a, q_0, q_s, i64_w, i32_w]; rfl
  refine one_ (i := 17) (N := none) #[tT,tT,tT,tT,tT,tT,tT,tT,tT,tT,tT,tT,tT,tT,tT,tT,tT,tT] rfl rfl (by kernel_rfl) (by decide) (fun K hK => ?_)
  refine skip_ (w1 := ?_) (by rfl) rfl ?_ ?_
  rotate_left
  · go_simp
    rfl
  refine hK.out _ _ ⟨(HCZ.out _ ((((Below.refl g w3).drew.setCell (p := ⟨g, 0, none⟩) (Nat.le_refl _) _).setCell (p := ⟨g, 1, none⟩) (Nat.le_refl _) _).setCell (p := ⟨g, 12, none⟩) (Nat.le_refl _) _)).1, (HCZ.out _ ((((Below.refl g w3).drew.setCell (p := ⟨g, 0, none⟩) (Nat.le_refl _) _).setCell (p := ⟨g, 1, none⟩) (Nat.le_refl _) _).setCell (p := ⟨g, 12, none⟩) (Nat.le_refl _) _)).2.1, (HCZ.out _ ((((Below.refl g w3).drew.setCell (p := ⟨g, 0, none⟩) (Nat.le_refl _) _).setCell (p := ⟨g, 1, none⟩) (Nat.le_refl _) _).setCell (p := ⟨g, 12, none⟩) (Nat.le_refl _) _)).2.2.1⟩ (fun hHeld => ?_)
  clear hK K
  refine done_ (by kernel_rfl) ?_
  clear r0 r1 r12 s0 s1 s12 hHeld
  generalize hW : World.drew _ = w4
  have hr : Row w4 g ((((List.replicate n 0).set 0 (IntKind.u8.wrap p0)).set 1 (IntKind.u8.wrap p1)).set 12 (IntKind.u8.wrap p2)) := by
    rw [← hW]
    exact row_set (row_set (row_set HR3.out 0 (IntKind.u8.wrap p0)) 1 (IntKind.u8.wrap p1)) 12 (IntKind.u8.wrap p2)
  simp only [IntKind.wrap_u8] at hr
  obtain ⟨L4, el⟩ : ∃ L, (((List.replicate n 0).set 0 (p0 % 256)).set 1 (p1 % 256)).set 12 (p2 % 256) = L := ⟨_, rfl⟩
  rw [el] at hr
  have EL4 := Aside0.mk el
  clear el
  have HR4 := Aside0.mk hr
  have HX4 := Aside0.mk (show Below g w3 w4 from by
    rw [← hW]
    exact (((((Below.refl g w3).setCell (p := ⟨g, 0, none⟩) (Nat.le_refl _) _).setCell (p := ⟨g, 1, none⟩) (Nat.le_refl _) _).setCell (p := ⟨g, 12, none⟩) (Nat.le_refl _) _)).drew)
  have HZ4 := Aside0.mk ((HX4.out.block w.heap.size HGL.out).trans HZ3.out)
  have HB4 := Aside0.mk (HB3.out.trans (HX4.out.mono HGG.out))
  have HS4 := Aside0.mk (show g ≤ w4.heap.size from Nat.le_of_lt (blk_lt hr))
  have HL4 := Aside0.mk (show L4.length = n from by rw [← EL4.out]; simp)
  have HQ4 := Aside0.mk (show Bytes L4 from by
    rw [← EL4.out]
    refine Bytes.set (Bytes.set (Bytes.set ?_ _ (by omega) (by omega)) _ (by omega) (by omega)) _ (by omega) (by omega)
    intro x hx
    have := List.eq_of_mem_replicate hx
    omega)
  clear hW hr HX4 HCZ HR3 HZ3 HZ2 HB2
  obtain ⟨k0, k1, k2, k3, k4, k5, k6, k7, k8, k9, k10, k11, k12⟩ := c13 HZ4.out
  have PR := Aside0.mk (put_row (w0 := w) (w := w4) 2 2 (wrap64 (20 + (p12.length : Int))) (iz := 2) (mz := 2) (HB4.out) HGG.out HR4.out HL4.out (by have := HL4.out; have := HN.out; omega) rfl rfl (by omega) (by have := HL4.out; have := HN.out; omega))
  go_upto_region 17 with (first | (go_at_call 35; (with_reducible refine PR.out.mono ?_); rintro e w5 ⟨rfl, hr, hc⟩; obtain ⟨L5, el⟩ : ∃ L, putL L4 2 2 (wrap64 (20 + (p12.length : Int))) = L := ⟨_, rfl⟩; rw [el] at hr; have EL5 := Aside0.mk el; clear el; have HR5 := Aside0.mk hr; have HB5 := Aside0.mk (hc.below HB4.out HGG.out); have HZ5 := Aside0.mk ((hc.block w.heap.size (Nat.lt_of_lt_of_le HGL.out HS4.out) (Nat.ne_of_lt HGL.out)).trans HZ4.out); have HS5 := Aside0.mk (Nat.le_trans HS4.out hc.size); have HL5 := Aside0.mk (show L5.length = n from by rw [← EL5.out, putL_len]; exact HL4.out); have HQ5 := Aside0.mk (show Bytes L5 from by rw [← EL5.out]; exact putL_bytes _ _ _ HQ4.out); clear hr hc; clear k0 k1 k2 k3 k4 k5 k6 k7 k8 k9 k10 k11 k12; obtain ⟨k0, k1, k2, k3, k4, k5, k6, k7, k8, k9, k10, k11, k12⟩ := c13 HZ5.out))
  clear PR
  have PR := Aside0.mk (put_row (w0 := w) (w := w5) 4 4 (p3) (iz := 4) (mz := 4) (HB5.out) HGG.out HR5.out HL5.out (by have := HL5.out; have := HN.out; omega) rfl rfl (by omega) (by have := HL5.out; have := HN.out; omega))
  go_upto_region 18 with (first | (go_at_call 35; (with_reducible refine PR.out.mono ?_); rintro e w6 ⟨rfl, hr, hc⟩; obtain ⟨L6, el⟩ : ∃ L, putL L5 4 4 (p3) = L := ⟨_, rfl⟩; rw [el] at hr; have EL6 := Aside0.mk el; clear el; have HR6 := Aside0.mk hr; have HB6 := Aside0.mk (hc.below HB5.out HGG.out); have HZ6 := Aside0.mk ((hc.block w.heap.size (Nat.lt_of_lt_of_le HGL.out HS5.out) (Nat.ne_of_lt HGL.out)).trans HZ5.out); have HS6 := Aside0.mk (Nat.le_trans HS5.out hc.size); have HL6 := Aside0.mk (show L6.length = n from by rw [← EL6.out, putL_len]; exact HL5.out); have HQ6 := Aside0.mk (show Bytes L6 from by rw [← EL6.out]; exact putL_bytes _ _ _ HQ5.out); clear hr hc; clear k0 k1 k2 k3 k4 k5 k6 k7 k8 k9 k10 k11 k12; obtain ⟨k0, k1, k2, k3, k4, k5, k6, k7, k8, k9, k10, k11, k12⟩ := c13 HZ6.out))
  clear PR
  have PR := Aside0.mk (put_row (w0 := w) (w := w6) 8 4 (p4) (iz := 8) (mz := 4) (HB6.out) HGG.out HR6.out HL6.out (by have := HL6.out; have := HN.out; omega) rfl rfl (by omega) (by have := HL6.out; have := HN.out; omega))
  go_upto_region 19 with (first | (go_at_call 35; (with_reducible refine PR.out.mono ?_); rintro e w7 ⟨rfl, hr, hc⟩; obtain ⟨L7, el⟩ : ∃ L, putL L6 8 4 (p4) = L := ⟨_, rfl⟩; rw [el] at hr; have EL7 := Aside0.mk el; clear el; have HR7 := Aside0.mk hr; have HB7 := Aside0.mk (hc.below HB6.out HGG.out); have HZ7 := Aside0.mk ((hc.block w.heap.size (Nat.lt_of_lt_of_le HGL.out HS6.out) (Nat.ne_of_lt HGL.out)).trans HZ6.out); have HS7 := Aside0.mk (Nat.le_trans HS6.out hc.size); have HL7 := Aside0.mk (show L7.length = n from by rw [← EL7.out, putL_len]; exact HL6.out); have HQ7 := Aside0.mk (show Bytes L7 from by rw [← EL7.out]; exact putL_bytes _ _ _ HQ6.out); clear hr hc; clear k0 k1 k2 k3 k4 k5 k6 k7 k8 k9 k10 k11 k12; obtain ⟨k0, k1, k2, k3, k4, k5, k6, k7, k8, k9, k10, k11, k12⟩ := c13 HZ7.out))
  clear PR
  obtain ⟨hcut16, hC16⟩ := cut_to (A := some ⟨g, 0, none⟩) (c := n) (l := L7) 16 (jz := 16) rfl (by have := HN.out; omega) HL7.out (Nat.le_refl _)
  have OF := Aside0.mk (of_calls (c := n) (hC16 w7 (by have h := row_C HR7.out (by have := HL7.out; have := HN.out; omega); rw [HL7.out] at h; exact h)) (by rw [List.length_take, HL7.out]; have := HN.out; omega) (by have := HN.out; omega) (HQ7.out.take 16) (by rw [List.length_take]; omega))
  clear hC16
  have PR := Aside0.mk (fun nd_ => put_row (w0 := w) (w := (w7.drewN nd_)) 14 2 (65535 - fold (pairs (L7.take 16))) (iz := 14) (mz := 2) (bd HB7.out nd_) HGG.out HR7.out HL7.out (by have := HL7.out; have := HN.out; omega) rfl rfl (by omega) (by have := HL7.out; have := HN.out; omega))
  go_upto_region 20 with (first | (go_at_call 35; (with_reducible refine (PR.out _).mono ?_); rintro e w8 ⟨rfl, hr, hc⟩; obtain ⟨L8, el⟩ : ∃ L, putL L7 14 2 (65535 - fold (pairs (L7.take 16))) = L := ⟨_, rfl⟩; rw [el] at hr; have EL8 := Aside0.mk el; clear el; have HR8 := Aside0.mk hr; have HB8 := Aside0.mk (hc.below (bd HB7.out _) HGG.out); have HZ8 := Aside0.mk ((hc.block w.heap.size (Nat.lt_of_lt_of_le HGL.out HS7.out) (Nat.ne_of_lt HGL.out)).trans HZ7.out); have HS8 := Aside0.mk (Nat.le_trans HS7.out hc.size); have HL8 := Aside0.mk (show L8.length = n from by rw [← EL8.out, putL_len]; exact HL7.out); have HQ8 := Aside0.mk (show Bytes L8 from by rw [← EL8.out]; exact putL_bytes _ _ _ HQ7.out); clear hr hc; clear k0 k1 k2 k3 k4 k5 k6 k7 k8 k9 k10 k11 k12; obtain ⟨k0, k1, k2, k3, k4, k5, k6, k7, k8, k9, k10, k11, k12⟩ := c13 HZ8.out) | (go_at_call 26; (with_reducible refine OF.out.mono ?_); rintro e w20 ⟨rfl, ⟨⟨nd, rfl⟩⟩⟩))
  clear PR
  clear OF hcut16
  have r16 := row_cells HR8.out 16 (by have := HN.out; rw [HL8.out]; omega)
  have s16 := row_frozen HR8.out 16
  have hn16 : (16 : Int) < (n : Int) := by have := HN.out; omega
  go_upto_region 30 with fail
  generalize hW : World.setCell _ _ _ = w9
  clear r16 s16
  have hr : Row w9 g (L8.set 16 (p10 % 256)) := by
    rw [← hW]
    exact row_set HR8.out 16 (p10 % 256)
  try simp only [IntKind.wrap_u8] at hr
  obtain ⟨L9, el⟩ : ∃ L, L8.set 16 (p10 % 256) = L := ⟨_, rfl⟩
  rw [el] at hr
  have EL9 := Aside0.mk el
  clear el
  have HR9 := Aside0.mk hr
  have HX := Aside0.mk (show Below g w8 w9 from by
    rw [← hW]
    exact (Below.refl g w8).setCell (p := ⟨g, 16, none⟩) (Nat.le_refl _) _)
  have HZ9 := Aside0.mk ((HX.out.block w.heap.size HGL.out).trans HZ8.out)
  have HB9 := Aside0.mk (HB8.out.trans (HX.out.mono HGG.out))
  have HS9 := Aside0.mk (Nat.le_trans HS8.out HX.out.size)
  have HL9 := Aside0.mk (show L9.length = n from by rw [← EL9.out]; simp only [List.length_set]; exact HL8.out)
  have HQ9 := Aside0.mk (show Bytes L9 from by
    rw [← EL9.out]
    exact Bytes.set HQ8.out _ (by omega) (by omega))
  clear hW hr HX k0 k1 k2 k3 k4 k5 k6 k7 k8 k9 k10 k11 k12
  obtain ⟨k0, k1, k2, k3, k4, k5, k6, k7, k8, k9, k10, k11, k12⟩ := c13 HZ9.out
  obtain ⟨A3, hA3, hcut3⟩ := cut_row g n (20) (iz := wrap64 (wrap64 (20 + (p12.length : Int)) - (p12.length : Int))) (by rw [HNN.out, wid (by have := HN.out; omega) (by have := HN.out; omega)]; have := HN.out; omega) (by have := HN.out; omega)
  have HA3 := Aside0.mk hA3
  clear hA3
  have HCZ := Aside0.mk (fun W (h : Below g w9 W) => c13 ((h.block w.heap.size HGL.out).trans HZ9.out))
  clear k0 k1 k2 k3 k4 k5 k6 k7 k8 k9 k10 k11 k12
  refine start_ (n := 10) (S := fun w' => w'.cell? ⟨w.heap.size, 12, none⟩ = some (.slice A2 p12.length c2)) (ds := []) #[fF,fF,fF,fF,fF,fF,fF,fF,fF,fF] (by kernel_rfl) rfl rfl ((HCZ.out _ (Below.refl g w9).drew).2.2.2.2.2.2.2.2.2.2.2.2) (fun hHeld => ?_)
  refine pure_ (i := 0) (N := some 135) (v := ?_) (a' := ?_) #[tT,fF,fF,fF,fF,fF,fF,fF,fF,fF] rfl rfl (by kernel_rfl) (fun _ _ _ h => h) (Or.inl ⟨by rfl, ?_⟩) ?_ ?_
  rotate_left; · intro w'; go_simp; with_reducible rfl
  rotate_left; · simp only [Act.put, q_a, q_0, q_s, i64_w, i32_w]; rfl
  refine pure_ (i := 1) (N := some 136) (v := ?_) (a' := ?_) #[tT,tT,fF,fF,fF,fF,fF,fF,fF,fF] rfl rfl (by kernel_rfl) (fun _ _ _ h => h) (Or.inl ⟨by rfl, ?_⟩) ?_ ?_
  rotate_left; · intro w'; go_simp; with_reducible rfl
  rotate_left; · simp only [Act.put, q_a, q_0, q_s, i64_w, i32_w]; rfl
  refine pure_ (i := 2) (N := some 137) (v := ?_) (a' := ?_) #[tT,tT,tT,fF,fF,fF,fF,fF,fF,fF] rfl rfl (by kernel_rfl) (fun _ _ _ h => h) (Or.inl ⟨by rfl, ?_⟩) ?_ ?_
  rotate_left; · intro w'; go_simp; with_reducible rfl
  rotate_left; · simp only [Act.put, q_a, q_0, q_s, i64_w, i32_w]; rfl
  refine pure_ (i := 7) (N := some 142) (v := ?_) (a' := ?_) #[tT,tT,tT,fF,fF,fF,fF,tT,fF,fF] rfl rfl (by kernel_rfl) (fun _ _ _ h => h) (Or.inl ⟨by rfl, ?_⟩) ?_ ?_
  rotate_left; · intro w'; go_simp; with_reducible rfl
  rotate_left; · simp only [Act.put, q_a, q_0, q_s, i64_w, i32_w]; rfl
  refine take_ (i := 3) (N := some 138) (v := ?_) (a' := ?_) #[tT,tT,tT,tT,fF,fF,fF,tT,fF,fF] rfl rfl (by kernel_rfl) (fun _ _ _ h => h) (Or.inl ⟨by rfl, ?_⟩) hHeld ?_ ?_
  rotate_left
  · intro w' s0
    go_simp
    with_reducible rfl
  rotate_left; · simp only [Act.put, q_a, q_0, q_s, i64_w, i32_w]; rfl
  refine pure_ (i := 4) (N := some 139) (v := ?_) (a' := ?_) #[tT,tT,tT,tT,tT,fF,fF,tT,fF,fF] rfl rfl (by kernel_rfl) (fun _ _ _ h => h) (Or.inl ⟨by rfl, ?_⟩) ?_ ?_
  rotate_left; · intro w'; go_simp; with_reducible rfl
  rotate_left; · simp only [Act.put, q_a, q_0, q_s, i64_w, i32_w]; rfl
  refine pure_ (i := 5) (N := some 140) (v := ?_) (a' := ?_) #[tT,tT,tT,tT,tT,tT,fF,tT,fF,fF] rfl rfl (by kernel_rfl) (fun _ _ _ h => h) (Or.inl ⟨by rfl, ?_⟩) ?_ ?_
  rotate_left; · intro w'; go_simp; with_reducible rfl
  rotate_left; · simp only [Act.put, q_a, q_0, q_s, i64_w, i32_w]; rfl
  refine pure_ (i := 6) (N := some 141) (v := ?_) (a' := ?_) #[tT,tT,tT,tT,tT,tT,tT,tT,fF,fF] rfl rfl (by kernel_rfl) (fun _ _ _ h => h) (Or.inl ⟨by rfl, ?_⟩) ?_ ?_
  rotate_left; · intro w'; go_simp; with_reducible rfl
  rotate_left; · simp only [Act.put, q_a, q_0, q_s, i64_w, i32_w]; rfl
  refine take_ (i := 8) (N := some 143) (v := ?_) (a' := ?_) #[tT,tT,tT,tT,tT,tT,tT,tT,tT,fF] rfl rfl (by kernel_rfl) (fun _ _ _ h => h) (Or.inl ⟨by rfl, ?_⟩) hHeld ?_ ?_
  rotate_left
  · intro w' s0
    go_simp
    with_reducible rfl
  rotate_left; · simp only [Act.put, q_a, q_0, q_s, i64_w, i32_w]; rfl
  refine one_ (i := 9) (N := some 144) #[tT,tT,tT,tT,tT,tT,tT,tT,tT,tT] rfl rfl (by kernel_rfl) (by decide) (fun K hK => ?_)
  refine copy_row rfl (.tmp 141) (.tmp 143) rfl (g := g) (i := 20) (n := n) (m := n - (20)) (c := c2) (A' := A3) (A := A2) (L := L9) (cs := p12) rfl rfl HA3.out rfl HR9.out HL9.out (Kd.C_drew (Kd.C_below HD.out HB9.out)) (by have := HN.out; have := HLIM.out; omega) ?_
  intro w10 hr hb
  refine hK.out _ _ ((HCZ.out _ ((Below.refl g w9).drew.trans hb)).2.2.2.2.2.2.2.2.2.2.2.2) (fun hHeld => ?_)
  clear hK K
  refine norm_ (a' := ?_) ?_ ?_
  rotate_left
  · show Act.put _ (some 144) _ = _
    simp only [Act.put, q_a, q_0, q_s, i64_w, i32_w]
    rfl
  refine done_ (by kernel_rfl) ?_
  obtain ⟨L10, el⟩ : ∃ L, splice L9 (20) p12 = L := ⟨_, rfl⟩
  rw [el] at hr
  have EL10 := Aside0.mk el
  have HR10 := Aside0.mk hr
  have HX := Aside0.mk ((Below.refl g w9).drew.trans hb)
  have HZ10 := Aside0.mk ((HX.out.block w.heap.size HGL.out).trans HZ9.out)
  have HB10 := Aside0.mk (HB9.out.trans (HX.out.mono HGG.out))
  have HS10 := Aside0.mk (Nat.le_trans HS9.out HX.out.size)
  have HL10 := Aside0.mk (show L10.length = n from by rw [← el, splice_len (by rw [HL9.out]; have := HN.out; have := HLIM.out; omega)]; exact HL9.out)
  have HQ10 := Aside0.mk (show Bytes L10 from by rw [← el]; exact splice_bytes HQ9.out HYD.out)
  clear hHeld hr hb el HX HCZ HA3 hcut3
  obtain ⟨k0, k1, k2, k3, k4, k5, k6, k7, k8, k9, k10, k11, k12⟩ := c13 HZ10.out
  have SF := Aside0.mk (summed_calls (c := n) (by have h := row_C HR10.out (by have := HL10.out; have := HN.out; omega); rw [HL10.out] at h; exact h) HL10.out (Nat.le_refl _) (by have := HL10.out; have := HN.out; omega) (by have := HL10.out; have := HN.out; omega) HQ10.out)
  have HSO := Aside0.mk (summed_ok HQ10.out (by have := HL10.out; have := HN.out; omega) (by have := HL10.out; have := HN.out; omega))
  go_upto_region 32 with (first
    | (go_at_call 36; (with_reducible refine SF.out.mono ?_); rintro e w11 ⟨v, rfl, ho, hb⟩; obtain ⟨Av, cv, ev⟩ := Kd.R_slice ho; subst ev; have HR11 := Aside0.mk (show Row w11 g L10 from (hb.block g (blk_lt HR10.out)).trans HR10.out); have HZ11 := Aside0.mk ((hb.block w.heap.size (blk_lt HZ10.out)).trans HZ10.out); have HB11 := Aside0.mk (below_step HB10.out hb); have HS11 := Aside0.mk (Nat.le_trans HS10.out hb.size); have HRD := Aside0.mk (Kd.R_reads' ho); have OF := Aside0.mk (of_calls HRD.out.2.2 rfl HRD.out.2.1 HSO.out.2 (by have := HSO.out.1; omega)); clear ho hb; clear k0 k1 k2 k3 k4 k5 k6 k7 k8 k9 k10 k11 k12; obtain ⟨k0, k1, k2, k3, k4, k5, k6, k7, k8, k9, k10, k11, k12⟩ := c13 HZ11.out)
    | (go_at_call 26; (with_reducible refine OF.out.mono ?_); rintro e w30 ⟨rfl, ⟨⟨nd2, rfl⟩⟩⟩))
  have HR11' := Aside0.mk (show Row (w11.drewN nd2) g L10 from HR11.out)
  have HZ11' := Aside0.mk (show (w11.drewN nd2).heap[w.heap.size]? = _ from HZ11.out)
  have HB11' := Aside0.mk (bd HB11.out nd2)
  have HS11' := Aside0.mk (show g ≤ (w11.drewN nd2).heap.size from HS11.out)
  generalize w11.drewN nd2 = w40 at HR11' HZ11' HB11' HS11' ⊢
  clear SF OF HRD HR11 HZ11 HB11 HS11 k0 k1 k2 k3 k4 k5 k6 k7 k8 k9 k10 k11 k12
  obtain ⟨k0, k1, k2, k3, k4, k5, k6, k7, k8, k9, k10, k11, k12⟩ := c13 HZ11'.out
  have G39 := Aside0.mk (fun W => wire_sumPlace.calls p0 18 W (by unfold wire_sumPlace.f; have := HK.out; rw [if_pos (by omega)]))
  have PR := Aside0.mk (fun nd_ => put_row (w0 := w) (w := w40.drewN nd_) 18 2 (65535 - fold (pairs (summedL L10))) (iz := 18) (mz := 2) (bd HB11'.out nd_) HGG.out HR11'.out HL10.out (by have := HL10.out; have := HN.out; omega) rfl rfl (by omega) (by have := HL10.out; have := HN.out; have := HLIM.out; have := HK.out; omega))
  go_wp2_with (first
    | (go_at_call 37; (with_reducible refine (G39.out _).mono ?_); rintro e w41 ⟨rfl, ⟨⟨nd3, rfl⟩⟩⟩)
    | (go_at_call 35; (with_reducible refine (PR.out _).mono ?_); rintro e w42 ⟨rfl, hr, hc⟩; have HRX := Aside0.mk hr; have HBX := Aside0.mk (hc.below (bd HB11'.out _) HGG.out); clear hr hc))
  go_ret2
  refine ⟨_, rfl, ?_, HBX.out⟩
  have hl := RB_of_row HRX.out HGG.out (by rw [putL_len, HL10.out]; have := HN.out; omega)
  rw [putL_len, HL10.out] at hl
  have e : putL L10 18 2 (65535 - fold (pairs (summedL L10))) = buildL ⟨p0, p1, p2, p3, p4, p5, p6, p7, p8, p9, p10, p11, p12⟩ := by
    rw [show (65535 - fold (pairs (summedL L10)) : Int) = sumL p0 p9 L10 from by unfold sumL; rw [if_neg (fun h => by have := HK.out; omega), if_neg (fun h => by have := HK.out; omega)]]
    have hb : L10 = bodyL ⟨p0, p1, p2, p3, p4, p5, p6, p7, p8, p9, p10, p11, p12⟩ := by
      rw [← EL10.out, ← EL9.out, ← EL8.out, ← EL7.out, ← EL6.out, ← EL5.out, ← EL4.out]
      unfold bodyL h4L h3L
      simp only [HNL.out, HNN.out]
      rw [if_pos HK.out]
      rw [show n - p12.length = 20 from by have := HN.out; omega]
    rw [hb]
    unfold buildL
    simp only []
    rw [if_pos HK.out]
  rw [← e]
  exact hl
set_option maxHeartbeats 8000000 in
set_option maxRecDepth 100000 in
theorem build_gram {A1 A2 : Option Addr} {c1 c2 : Nat} {p0 p1 p2 p3 p4 p5 p6 p7 p8 : Int} {p9 : Bool} {p10 : Int} {p11 p12 : List Int} {w : World} (ha : Kd.C (Kd.int .u8) w A1 p11.length p11) (hca : p11.length ≤ c1) (hd : Kd.C (Kd.int .u8) w A2 p12.length p12) (hcd : p12.length ≤ c2) (hba : Bytes p11) (hbd : Bytes p12) (hk : p0 = 2) (he : buildE ⟨p0, p1, p2, p3, p4, p5, p6, p7, p8, p9, p10, p11, p12⟩ = 0) :
    Calls Try.prog 11 #[.agg #[.int .i64 p0, .int .i64 p1, .int .i64 p2, .int .i64 p3, .int .i64 p4, .int .i64 p5, .int .i64 p6, .int .i64 p7, .int .i64 p8, .bool p9, .int .i64 p10, .slice A1 p11.length c1, .slice A2 p12.length c2]] w fun e w' => ∃ v, e = .returned (.tuple #[v, .int .i64 0]) ∧ RB w.heap.size w' v (buildL ⟨p0, p1, p2, p3, p4, p5, p6, p7, p8, p9, p10, p11, p12⟩) ∧ Below w.heap.size w w' := by
  have hn : nL ⟨p0, p1, p2, p3, p4, p5, p6, p7, p8, p9, p10, p11, p12⟩ = 24 + p12.length := by unfold nL; simp [hk]
  have hok : okR ⟨p0, p1, p2, p3, p4, p5, p6, p7, p8, p9, p10, p11, p12⟩ = true := by
    unfold buildE at he
    split at he
    · cases he
    split at he
    · cases he
    rename_i h; simpa using h
  have hlim : nL ⟨p0, p1, p2, p3, p4, p5, p6, p7, p8, p9, p10, p11, p12⟩ ≤ 1500 ∧ (p0 = 1 → p11.length ≤ 40) ∧ (p0 = 3 → 24 ≤ p12.length) := by
    unfold buildE at he
    split at he
    · cases he
    split at he
    · cases he
    split at he
    · cases he
    split at he
    · cases he
    rename_i h1 h2 h3 h4
    refine ⟨by omega, fun h => ?_, fun h => ?_⟩
    · have : ¬ 40 < p11.length := fun h5 => h3 ⟨h, h5⟩
      omega
    · have : ¬ p12.length < 24 := fun h5 => h4 (Or.inl ⟨h, h5⟩)
      omega
  obtain ⟨n, hne⟩ : ∃ n, 24 + p12.length = n := ⟨_, rfl⟩
  rw [hn, hne] at hlim
  have HN := Aside0.mk (show 20 ≤ n ∧ n ≤ 1500 ∧ 24 + p12.length = n from ⟨by omega, hlim.1, hne⟩)
  have HNL := Aside0.mk (hn.trans hne)
  have HLIM := Aside0.mk hlim
  have HNN := Aside0.mk (show wrap64 (24 + (p12.length : Int)) = (n : Int) from by rw [wid (by omega) (by omega)]; omega)
  have dlim : decide (1500 < wrap64 (24 + (p12.length : Int))) = false := decide_eq_false (by rw [HNN.out]; omega)
  have HA := Aside0.mk ha
  have HD := Aside0.mk hd
  have HYA := Aside0.mk hba
  have HYD := Aside0.mk hbd
  have HK := Aside0.mk hk
  have q1 : (p0 == 1) = false := by rw [hk]; rfl
  have q1n : (p0 != 1) = true := by rw [hk]; rfl
  have q2 : (p0 == 2) = true := by rw [hk]; rfl
  have q2n : (p0 != 2) = false := by rw [hk]; rfl
  have q3 : (p0 == 3) = false := by rw [hk]; rfl
  have q3n : (p0 != 3) = true := by rw [hk]; rfl
  have G34 := Aside0.mk (fun W => wire_known.calls p0 true W (by unfold wire_known.f; rw [if_pos (by omega)]; simp [hk]))
  have G35 := Aside0.mk (fun W (h : Below w.heap.size w W) => (show Calls Try.prog 34 #[.agg #[.int .i64 p0, .int .i64 p1, .int .i64 p2, .int .i64 p3, .int .i64 p4, .int .i64 p5, .int .i64 p6, .int .i64 p7, .int .i64 p8, .bool p9, .int .i64 p10, .slice A1 p11.length c1, .slice A2 p12.length c2]] W fun e w' => e = .returned (.bool true) ∧ Below W.heap.size W w' from by
    have := ranges_calls (p := ⟨p0, p1, p2, p3, p4, p5, p6, p7, p8, p9, p10, p11, p12⟩) (A1 := A1) (A2 := A2) (c1 := c1) (c2 := c2) (w := W) (Kd.C_below ha h) hca (Kd.C_below hd h) hcd
    rw [hok] at this
    exact this))
  have HBA := Aside0.mk (fun o => (Below.refl w.heap.size w).alloc (Nat.le_refl _) o)
  clear ha hd hba hbd hk he hn hok hlim hne hca hcd
  go_enter Try.func11, Try.ntmps11
  go_upto_region 14 with (first
    | (go_at_call 33; (with_reducible refine (G34.out _).mono ?_); rintro e w1 ⟨rfl, ⟨⟨nd, rfl⟩⟩⟩)
    | (go_at_call 34; (with_reducible refine (G35.out _ ?hb).mono ?_); (case hb => repeat (first | with_reducible exact HBA.out _ | with_reducible apply pw_below_drewN)); rintro e w2 ⟨rfl, hb2⟩; have HZ2 := Aside0.mk ((hb2.block w.heap.size (blk_lt (new_blk w (.cells #[.int .i64 p0, .int .i64 p1, .int .i64 p2, .int .i64 p3, .int .i64 p4, .int .i64 p5, .int .i64 p6, .int .i64 p7, .int .i64 p8, .bool p9, .int .i64 p10, .slice A1 p11.length c1, .slice A2 p12.length c2] 39)))).trans (new_blk w (.cells #[.int .i64 p0, .int .i64 p1, .int .i64 p2, .int .i64 p3, .int .i64 p4, .int .i64 p5, .int .i64 p6, .int .i64 p7, .int .i64 p8, .bool p9, .int .i64 p10, .slice A1 p11.length c1, .slice A2 p12.length c2] 39))); have HB2 := Aside0.mk (below_step (bd (HBA.out (.cells #[.int .i64 p0, .int .i64 p1, .int .i64 p2, .int .i64 p3, .int .i64 p4, .int .i64 p5, .int .i64 p6, .int .i64 p7, .int .i64 p8, .bool p9, .int .i64 p10, .slice A1 p11.length c1, .slice A2 p12.length c2] 39)) _) hb2); clear hb2; obtain ⟨k0, k1, k2, k3, k4, k5, k6, k7, k8, k9, k10, k11, k12⟩ := c13 HZ2.out))
  clear G34 G35 HBA dlim
  obtain ⟨g, HGE⟩ : ∃ g, w2.heap.size = g := ⟨_, rfl⟩
  have HGL := Aside0.mk (show w.heap.size < g from by rw [← HGE]; exact blk_lt HZ2.out)
  have HGG := Aside0.mk (Nat.le_of_lt HGL.out)
  go_upto_region 15 with (first
    | ((with_reducible refine gate_dst (N := 61) rfl ?_); refine make_row g HGE rfl (.tmp 60) (.tmp 60) rfl n (wrap64 (24 + (p12.length : Int))) HNN.out rfl rfl (by have := HN.out; omega) ?_; intro w3 hr hb3; have HR3 := Aside0.mk hr; have HZ3 := Aside0.mk ((hb3.block w.heap.size HGL.out).trans HZ2.out); have HB3 := Aside0.mk (HB2.out.trans (hb3.mono HGG.out)); have HS3 := Aside0.mk (show g < w3.heap.size from blk_lt hr); clear hr hb3; clear k0 k1 k2 k3 k4 k5 k6 k7 k8 k9 k10 k11 k12; obtain ⟨k0, k1, k2, k3, k4, k5, k6, k7, k8, k9, k10, k11, k12⟩ := c13 HZ3.out))
  have HCZ := Aside0.mk (fun W (h : Below g w3 W) => c13 ((h.block w.heap.size HGL.out).trans HZ3.out))
  have r0 := row_cells HR3.out 0 (by have := HN.out; simp; omega)
  have r1 := row_cells HR3.out 1 (by have := HN.out; simp; omega)
  have r12 := row_cells HR3.out 12 (by have := HN.out; simp; omega)
  have s0 := row_frozen HR3.out 0
  have s1 := row_frozen HR3.out 1
  have s12 := row_frozen HR3.out 12
  have hn0 : (0 : Int) < (n : Int) := by have := HN.out; omega
  have hn0n : 0 < n := by have := HN.out; omega
  have hn1 : (1 : Int) < (n : Int) := by have := HN.out; omega
  have hn12 : (12 : Int) < (n : Int) := by have := HN.out; omega
  clear k0 k1 k2 k3 k4 k5 k6 k7 k8 k9 k10 k11 k12
  refine start_ (n := 18) (S := fun w' => w'.cell? ⟨w.heap.size, 0, none⟩ = some (.int .i64 p0) ∧ w'.cell? ⟨w.heap.size, 1, none⟩ = some (.int .i64 p1) ∧ w'.cell? ⟨w.heap.size, 2, none⟩ = some (.int .i64 p2)) (ds := []) #[fF,fF,fF,fF,fF,fF,fF,fF,fF,fF,fF,fF,fF,fF,fF,fF,fF,fF] (by kernel_rfl) rfl rfl ⟨(HCZ.out _ (Below.refl g w3).drew).1, (HCZ.out _ (Below.refl g w3).drew).2.1, (HCZ.out _ (Below.refl g w3).drew).2.2.1⟩ (fun hHeld => ?_)
  refine pure_ (i := 0) (N := some 62) (v := ?_) (a' := ?_) #[tT,fF,fF,fF,fF,fF,fF,fF,fF,fF,fF,fF,fF,fF,fF,fF,fF,fF] rfl rfl (by kernel_rfl) (fun _ _ _ h => h) (Or.inl ⟨by rfl, ?_⟩) ?_ ?_
  rotate_left; · intro w'; go_simp; with_reducible rfl
  rotate_left; · simp only [Act.put, q_a, q_0, q_s, i64_w, i32_w]; rfl
  refine pure_ (i := 1) (N := some 63) (v := ?_) (a' := ?_) #[tT,tT,fF,fF,fF,fF,fF,fF,fF,fF,fF,fF,fF,fF,fF,fF,fF,fF] rfl rfl (by kernel_rfl) (fun _ _ _ h => h) (Or.inl ⟨by rfl, ?_⟩) ?_ ?_
  rotate_left; · intro w'; go_simp; with_reducible rfl
  rotate_left; · simp only [Act.put, q_a, q_0, q_s, i64_w, i32_w]; rfl
  refine pure_ (i := 2) (N := some 64) (v := ?_) (a' := ?_) #[tT,tT,tT,fF,fF,fF,fF,fF,fF,fF,fF,fF,fF,fF,fF,fF,fF,fF] rfl rfl (by kernel_rfl) (fun _ _ _ h => h) (Or.inl ⟨by rfl, ?_⟩) ?_ ?_
  rotate_left; · intro w'; go_simp; with_reducible rfl
  rotate_left; · simp only [Act.put, q_a, q_0, q_s, i64_w, i32_w]; rfl
  refine pure_ (i := 3) (N := some 65) (v := ?_) (a' := ?_) #[tT,tT,tT,tT,fF,fF,fF,fF,fF,fF,fF,fF,fF,fF,fF,fF,fF,fF] rfl rfl (by kernel_rfl) (fun _ _ _ h => h) (Or.inl ⟨by rfl, ?_⟩) ?_ ?_
  rotate_left; · intro w'; go_simp; with_reducible rfl
  rotate_left; · simp only [Act.put, q_a, q_0, q_s, i64_w, i32_w]; rfl
  refine pure_ (i := 6) (N := some 68) (v := ?_) (a' := ?_) #[tT,tT,tT,tT,fF,fF,tT,fF,fF,fF,fF,fF,fF,fF,fF,fF,fF,fF] rfl rfl (by kernel_rfl) (fun _ _ _ h => h) (Or.inl ⟨by rfl, ?_⟩) ?_ ?_
  rotate_left; · intro w'; go_simp; with_reducible rfl
  rotate_left; · simp only [Act.put, q_a, q_0, q_s, i64_w, i32_w]; rfl
  refine pure_ (i := 9) (N := some 71) (v := ?_) (a' := ?_) #[tT,tT,tT,tT,fF,fF,tT,fF,fF,tT,fF,fF,fF,fF,fF,fF,fF,fF] rfl rfl (by kernel_rfl) (fun _ _ _ h => h) (Or.inl ⟨by rfl, ?_⟩) ?_ ?_
  rotate_left; · intro w'; go_simp; with_reducible rfl
  rotate_left; · simp only [Act.put, q_a, q_0, q_s, i64_w, i32_w]; rfl
  refine take_ (i := 4) (N := some 66) (v := ?_) (a' := ?_) #[tT,tT,tT,tT,tT,fF,tT,fF,fF,tT,fF,fF,fF,fF,fF,fF,fF,fF] rfl rfl (by kernel_rfl) (fun _ _ _ h => h) (Or.inl ⟨by rfl, ?_⟩) hHeld ?_ ?_
  rotate_left
  · rintro w' ⟨s0, s1, s2⟩
    go_simp
    with_reducible rfl
  rotate_left; · simp only [Act.put, q_a, q_0, q_s, i64_w, i32_w]; rfl
  refine pure_ (i := 5) (N := some 67) (v := ?_) (a' := ?_) #[tT,tT,tT,tT,tT,tT,tT,fF,fF,tT,fF,fF,fF,fF,fF,fF,fF,fF] rfl rfl (by kernel_rfl) (fun _ _ _ h => h) (Or.inl ⟨by rfl, ?_⟩) ?_ ?_
  rotate_left; · intro w'; go_simp; with_reducible rfl
  rotate_left; · simp only [Act.put, q_a, q_0, q_s, i64_w, i32_w]; rfl
  refine pure_ (i := 12) (N := some 74) (v := ?_) (a' := ?_) #[tT,tT,tT,tT,tT,tT,tT,fF,fF,tT,fF,fF,tT,fF,fF,fF,fF,fF] rfl rfl (by kernel_rfl) (fun _ _ _ h => h) (Or.inl ⟨by rfl, ?_⟩) ?_ ?_
  rotate_left; · intro w'; go_simp; with_reducible rfl
  rotate_left; · simp only [Act.put, q_a, q_0, q_s, i64_w, i32_w]; rfl
  refine take_ (i := 7) (N := some 69) (v := ?_) (a' := ?_) #[tT,tT,tT,tT,tT,tT,tT,tT,fF,tT,fF,fF,tT,fF,fF,fF,fF,fF] rfl rfl (by kernel_rfl) (fun _ _ _ h => h) (Or.inl ⟨by rfl, ?_⟩) hHeld ?_ ?_
  rotate_left
  · rintro w' ⟨s0, s1, s2⟩
    go_simp
    with_reducible rfl
  rotate_left; · simp only [Act.put, q_a, q_0, q_s, i64_w, i32_w]; rfl
  refine pure_ (i := 8) (N := some 70) (v := ?_) (a' := ?_) #[tT,tT,tT,tT,tT,tT,tT,tT,tT,tT,fF,fF,tT,fF,fF,fF,fF,fF] rfl rfl (by kernel_rfl) (fun _ _ _ h => h) (Or.inl ⟨by rfl, ?_⟩) ?_ ?_
  rotate_left; · intro w'; go_simp; with_reducible rfl
  rotate_left; · simp only [Act.put, q_a, q_0, q_s, i64_w, i32_w]; rfl
  refine take_ (i := 10) (N := some 72) (v := ?_) (a' := ?_) #[tT,tT,tT,tT,tT,tT,tT,tT,tT,tT,tT,fF,tT,fF,fF,fF,fF,fF] rfl rfl (by kernel_rfl) (fun _ _ _ h => h) (Or.inl ⟨by rfl, ?_⟩) hHeld ?_ ?_
  rotate_left
  · rintro w' ⟨s0, s1, s2⟩
    go_simp
    with_reducible rfl
  rotate_left; · simp only [Act.put, q_a, q_0, q_s, i64_w, i32_w]; rfl
  refine pure_ (i := 11) (N := some 73) (v := ?_) (a' := ?_) #[tT,tT,tT,tT,tT,tT,tT,tT,tT,tT,tT,tT,tT,fF,fF,fF,fF,fF] rfl rfl (by kernel_rfl) (fun _ _ _ h => h) (Or.inl ⟨by rfl, ?_⟩) ?_ ?_
  rotate_left; · intro w'; go_simp; with_reducible rfl
  rotate_left; · simp only [Act.put, q_a, q_0, q_s, i64_w, i32_w]; rfl
  refine one_ (i := 13) (N := none) #[tT,tT,tT,tT,tT,tT,tT,tT,tT,tT,tT,tT,tT,tT,fF,fF,fF,fF] rfl rfl (by kernel_rfl) (by decide) (fun K hK => ?_)
  refine skip_ (w1 := ?_) (by rfl) rfl ?_ ?_
  rotate_left
  · go_simp
    rfl
  refine hK.out _ _ ⟨(HCZ.out _ ((Below.refl g w3).drew.setCell (p := ⟨g, 0, none⟩) (Nat.le_refl _) _)).1, (HCZ.out _ ((Below.refl g w3).drew.setCell (p := ⟨g, 0, none⟩) (Nat.le_refl _) _)).2.1, (HCZ.out _ ((Below.refl g w3).drew.setCell (p := ⟨g, 0, none⟩) (Nat.le_refl _) _)).2.2.1⟩ (fun hHeld => ?_)
  clear hK K
  refine pure_ (i := 14) (N := some 75) (v := ?_) (a' := ?_) #[tT,tT,tT,tT,tT,tT,tT,tT,tT,tT,tT,tT,tT,tT,tT,fF,fF,fF] rfl rfl (by kernel_rfl) (fun _ _ _ h => h) (Or.inl ⟨by rfl, ?_⟩) ?_ ?_
  rotate_left; · intro w'; go_simp; with_reducible rfl
  rotate_left; · simp only [Act.put, q_a, q_0, q_s, i64_w, i32_w]; rfl
  refine one_ (i := 15) (N := none) #[tT,tT,tT,tT,tT,tT,tT,tT,tT,tT,tT,tT,tT,tT,tT,tT,fF,fF] rfl rfl (by kernel_rfl) (by decide) (fun K hK => ?_)
  refine skip_ (w1 := ?_) (by rfl) rfl ?_ ?_
  rotate_left
  · go_simp
    rfl
  refine hK.out _ _ ⟨(HCZ.out _ (((Below.refl g w3).drew.setCell (p := ⟨g, 0, none⟩) (Nat.le_refl _) _).setCell (p := ⟨g, 1, none⟩) (Nat.le_refl _) _)).1, (HCZ.out _ (((Below.refl g w3).drew.setCell (p := ⟨g, 0, none⟩) (Nat.le_refl _) _).setCell (p := ⟨g, 1, none⟩) (Nat.le_refl _) _)).2.1, (HCZ.out _ (((Below.refl g w3).drew.setCell (p := ⟨g, 0, none⟩) (Nat.le_refl _) _).setCell (p := ⟨g, 1, none⟩) (Nat.le_refl _) _)).2.2.1⟩ (fun hHeld => ?_)
  clear hK K
  refine pure_ (i := 16) (N := some 76) (v := ?_) (a' := ?_) #[tT,tT,tT,tT,tT,tT,tT,tT,tT,tT,tT,tT,tT,tT,tT,tT,tT,fF] rfl rfl (by kernel_rfl) (fun _ _ _ h => h) (Or.inl ⟨by rfl, ?_⟩) ?_ ?_
  rotate_left; · intro w'; go_simp; with_reducible rfl
  rotate_left; · simp only [Act.put, q_a, q_0, q_s, i64_w, i32_w]; rfl
  refine one_ (i := 17) (N := none) #[tT,tT,tT,tT,tT,tT,tT,tT,tT,tT,tT,tT,tT,tT,tT,tT,tT,tT] rfl rfl (by kernel_rfl) (by decide) (fun K hK => ?_)
  refine skip_ (w1 := ?_) (by rfl) rfl ?_ ?_
  rotate_left
  · go_simp
    rfl
  refine hK.out _ _ ⟨(HCZ.out _ ((((Below.refl g w3).drew.setCell (p := ⟨g, 0, none⟩) (Nat.le_refl _) _).setCell (p := ⟨g, 1, none⟩) (Nat.le_refl _) _).setCell (p := ⟨g, 12, none⟩) (Nat.le_refl _) _)).1, (HCZ.out _ ((((Below.refl g w3).drew.setCell (p := ⟨g, 0, none⟩) (Nat.le_refl _) _).setCell (p := ⟨g, 1, none⟩) (Nat.le_refl _) _).setCell (p := ⟨g, 12, none⟩) (Nat.le_refl _) _)).2.1, (HCZ.out _ ((((Below.refl g w3).drew.setCell (p := ⟨g, 0, none⟩) (Nat.le_refl _) _).setCell (p := ⟨g, 1, none⟩) (Nat.le_refl _) _).setCell (p := ⟨g, 12, none⟩) (Nat.le_refl _) _)).2.2.1⟩ (fun hHeld => ?_)
  clear hK K
  refine done_ (by kernel_rfl) ?_
  clear r0 r1 r12 s0 s1 s12 hHeld
  generalize hW : World.drew _ = w4
  have hr : Row w4 g ((((List.replicate n 0).set 0 (IntKind.u8.wrap p0)).set 1 (IntKind.u8.wrap p1)).set 12 (IntKind.u8.wrap p2)) := by
    rw [← hW]
    exact row_set (row_set (row_set HR3.out 0 (IntKind.u8.wrap p0)) 1 (IntKind.u8.wrap p1)) 12 (IntKind.u8.wrap p2)
  simp only [IntKind.wrap_u8] at hr
  obtain ⟨L4, el⟩ : ∃ L, (((List.replicate n 0).set 0 (p0 % 256)).set 1 (p1 % 256)).set 12 (p2 % 256) = L := ⟨_, rfl⟩
  rw [el] at hr
  have EL4 := Aside0.mk el
  clear el
  have HR4 := Aside0.mk hr
  have HX4 := Aside0.mk (show Below g w3 w4 from by
    rw [← hW]
    exact (((((Below.refl g w3).setCell (p := ⟨g, 0, none⟩) (Nat.le_refl _) _).setCell (p := ⟨g, 1, none⟩) (Nat.le_refl _) _).setCell (p := ⟨g, 12, none⟩) (Nat.le_refl _) _)).drew)
  have HZ4 := Aside0.mk ((HX4.out.block w.heap.size HGL.out).trans HZ3.out)
  have HB4 := Aside0.mk (HB3.out.trans (HX4.out.mono HGG.out))
  have HS4 := Aside0.mk (show g ≤ w4.heap.size from Nat.le_of_lt (blk_lt hr))
  have HL4 := Aside0.mk (show L4.length = n from by rw [← EL4.out]; simp)
  have HQ4 := Aside0.mk (show Bytes L4 from by
    rw [← EL4.out]
    refine Bytes.set (Bytes.set (Bytes.set ?_ _ (by omega) (by omega)) _ (by omega) (by omega)) _ (by omega) (by omega)
    intro x hx
    have := List.eq_of_mem_replicate hx
    omega)
  clear hW hr HX4 HCZ HR3 HZ3 HZ2 HB2
  obtain ⟨k0, k1, k2, k3, k4, k5, k6, k7, k8, k9, k10, k11, k12⟩ := c13 HZ4.out
  have PR := Aside0.mk (put_row (w0 := w) (w := w4) 2 2 (wrap64 (24 + (p12.length : Int))) (iz := 2) (mz := 2) (HB4.out) HGG.out HR4.out HL4.out (by have := HL4.out; have := HN.out; omega) rfl rfl (by omega) (by have := HL4.out; have := HN.out; omega))
  go_upto_region 17 with (first | (go_at_call 35; (with_reducible refine PR.out.mono ?_); rintro e w5 ⟨rfl, hr, hc⟩; obtain ⟨L5, el⟩ : ∃ L, putL L4 2 2 (wrap64 (24 + (p12.length : Int))) = L := ⟨_, rfl⟩; rw [el] at hr; have EL5 := Aside0.mk el; clear el; have HR5 := Aside0.mk hr; have HB5 := Aside0.mk (hc.below HB4.out HGG.out); have HZ5 := Aside0.mk ((hc.block w.heap.size (Nat.lt_of_lt_of_le HGL.out HS4.out) (Nat.ne_of_lt HGL.out)).trans HZ4.out); have HS5 := Aside0.mk (Nat.le_trans HS4.out hc.size); have HL5 := Aside0.mk (show L5.length = n from by rw [← EL5.out, putL_len]; exact HL4.out); have HQ5 := Aside0.mk (show Bytes L5 from by rw [← EL5.out]; exact putL_bytes _ _ _ HQ4.out); clear hr hc; clear k0 k1 k2 k3 k4 k5 k6 k7 k8 k9 k10 k11 k12; obtain ⟨k0, k1, k2, k3, k4, k5, k6, k7, k8, k9, k10, k11, k12⟩ := c13 HZ5.out))
  clear PR
  have PR := Aside0.mk (put_row (w0 := w) (w := w5) 4 4 (p3) (iz := 4) (mz := 4) (HB5.out) HGG.out HR5.out HL5.out (by have := HL5.out; have := HN.out; omega) rfl rfl (by omega) (by have := HL5.out; have := HN.out; omega))
  go_upto_region 18 with (first | (go_at_call 35; (with_reducible refine PR.out.mono ?_); rintro e w6 ⟨rfl, hr, hc⟩; obtain ⟨L6, el⟩ : ∃ L, putL L5 4 4 (p3) = L := ⟨_, rfl⟩; rw [el] at hr; have EL6 := Aside0.mk el; clear el; have HR6 := Aside0.mk hr; have HB6 := Aside0.mk (hc.below HB5.out HGG.out); have HZ6 := Aside0.mk ((hc.block w.heap.size (Nat.lt_of_lt_of_le HGL.out HS5.out) (Nat.ne_of_lt HGL.out)).trans HZ5.out); have HS6 := Aside0.mk (Nat.le_trans HS5.out hc.size); have HL6 := Aside0.mk (show L6.length = n from by rw [← EL6.out, putL_len]; exact HL5.out); have HQ6 := Aside0.mk (show Bytes L6 from by rw [← EL6.out]; exact putL_bytes _ _ _ HQ5.out); clear hr hc; clear k0 k1 k2 k3 k4 k5 k6 k7 k8 k9 k10 k11 k12; obtain ⟨k0, k1, k2, k3, k4, k5, k6, k7, k8, k9, k10, k11, k12⟩ := c13 HZ6.out))
  clear PR
  have PR := Aside0.mk (put_row (w0 := w) (w := w6) 8 4 (p4) (iz := 8) (mz := 4) (HB6.out) HGG.out HR6.out HL6.out (by have := HL6.out; have := HN.out; omega) rfl rfl (by omega) (by have := HL6.out; have := HN.out; omega))
  go_upto_region 19 with (first | (go_at_call 35; (with_reducible refine PR.out.mono ?_); rintro e w7 ⟨rfl, hr, hc⟩; obtain ⟨L7, el⟩ : ∃ L, putL L6 8 4 (p4) = L := ⟨_, rfl⟩; rw [el] at hr; have EL7 := Aside0.mk el; clear el; have HR7 := Aside0.mk hr; have HB7 := Aside0.mk (hc.below HB6.out HGG.out); have HZ7 := Aside0.mk ((hc.block w.heap.size (Nat.lt_of_lt_of_le HGL.out HS6.out) (Nat.ne_of_lt HGL.out)).trans HZ6.out); have HS7 := Aside0.mk (Nat.le_trans HS6.out hc.size); have HL7 := Aside0.mk (show L7.length = n from by rw [← EL7.out, putL_len]; exact HL6.out); have HQ7 := Aside0.mk (show Bytes L7 from by rw [← EL7.out]; exact putL_bytes _ _ _ HQ6.out); clear hr hc; clear k0 k1 k2 k3 k4 k5 k6 k7 k8 k9 k10 k11 k12; obtain ⟨k0, k1, k2, k3, k4, k5, k6, k7, k8, k9, k10, k11, k12⟩ := c13 HZ7.out))
  clear PR
  obtain ⟨hcut16, hC16⟩ := cut_to (A := some ⟨g, 0, none⟩) (c := n) (l := L7) 16 (jz := 16) rfl (by have := HN.out; omega) HL7.out (Nat.le_refl _)
  have OF := Aside0.mk (of_calls (c := n) (hC16 w7 (by have h := row_C HR7.out (by have := HL7.out; have := HN.out; omega); rw [HL7.out] at h; exact h)) (by rw [List.length_take, HL7.out]; have := HN.out; omega) (by have := HN.out; omega) (HQ7.out.take 16) (by rw [List.length_take]; omega))
  clear hC16
  have PR := Aside0.mk (fun nd_ => put_row (w0 := w) (w := (w7.drewN nd_)) 14 2 (65535 - fold (pairs (L7.take 16))) (iz := 14) (mz := 2) (bd HB7.out nd_) HGG.out HR7.out HL7.out (by have := HL7.out; have := HN.out; omega) rfl rfl (by omega) (by have := HL7.out; have := HN.out; omega))
  go_upto_region 20 with (first | (go_at_call 35; (with_reducible refine (PR.out _).mono ?_); rintro e w8 ⟨rfl, hr, hc⟩; obtain ⟨L8, el⟩ : ∃ L, putL L7 14 2 (65535 - fold (pairs (L7.take 16))) = L := ⟨_, rfl⟩; rw [el] at hr; have EL8 := Aside0.mk el; clear el; have HR8 := Aside0.mk hr; have HB8 := Aside0.mk (hc.below (bd HB7.out _) HGG.out); have HZ8 := Aside0.mk ((hc.block w.heap.size (Nat.lt_of_lt_of_le HGL.out HS7.out) (Nat.ne_of_lt HGL.out)).trans HZ7.out); have HS8 := Aside0.mk (Nat.le_trans HS7.out hc.size); have HL8 := Aside0.mk (show L8.length = n from by rw [← EL8.out, putL_len]; exact HL7.out); have HQ8 := Aside0.mk (show Bytes L8 from by rw [← EL8.out]; exact putL_bytes _ _ _ HQ7.out); clear hr hc; clear k0 k1 k2 k3 k4 k5 k6 k7 k8 k9 k10 k11 k12; obtain ⟨k0, k1, k2, k3, k4, k5, k6, k7, k8, k9, k10, k11, k12⟩ := c13 HZ8.out) | (go_at_call 26; (with_reducible refine OF.out.mono ?_); rintro e w20 ⟨rfl, ⟨⟨nd, rfl⟩⟩⟩))
  clear PR
  clear OF hcut16
  have PR := Aside0.mk (put_row (w0 := w) (w := w8) 16 2 (p5) (iz := 16) (mz := 2) (HB8.out) HGG.out HR8.out HL8.out (by have := HL8.out; have := HN.out; omega) rfl rfl (by omega) (by have := HL8.out; have := HN.out; omega))
  go_upto_region 22 with (first | (go_at_call 35; (with_reducible refine PR.out.mono ?_); rintro e w9 ⟨rfl, hr, hc⟩; obtain ⟨L9, el⟩ : ∃ L, putL L8 16 2 (p5) = L := ⟨_, rfl⟩; rw [el] at hr; have EL9 := Aside0.mk el; clear el; have HR9 := Aside0.mk hr; have HB9 := Aside0.mk (hc.below HB8.out HGG.out); have HZ9 := Aside0.mk ((hc.block w.heap.size (Nat.lt_of_lt_of_le HGL.out HS8.out) (Nat.ne_of_lt HGL.out)).trans HZ8.out); have HS9 := Aside0.mk (Nat.le_trans HS8.out hc.size); have HL9 := Aside0.mk (show L9.length = n from by rw [← EL9.out, putL_len]; exact HL8.out); have HQ9 := Aside0.mk (show Bytes L9 from by rw [← EL9.out]; exact putL_bytes _ _ _ HQ8.out); clear hr hc; clear k0 k1 k2 k3 k4 k5 k6 k7 k8 k9 k10 k11 k12; obtain ⟨k0, k1, k2, k3, k4, k5, k6, k7, k8, k9, k10, k11, k12⟩ := c13 HZ9.out))
  clear PR
  have PR := Aside0.mk (put_row (w0 := w) (w := w9) 18 2 (p6) (iz := 18) (mz := 2) (HB9.out) HGG.out HR9.out HL9.out (by have := HL9.out; have := HN.out; omega) rfl rfl (by omega) (by have := HL9.out; have := HN.out; omega))
  go_upto_region 23 with (first | (go_at_call 35; (with_reducible refine PR.out.mono ?_); rintro e w10 ⟨rfl, hr, hc⟩; obtain ⟨L10, el⟩ : ∃ L, putL L9 18 2 (p6) = L := ⟨_, rfl⟩; rw [el] at hr; have EL10 := Aside0.mk el; clear el; have HR10 := Aside0.mk hr; have HB10 := Aside0.mk (hc.below HB9.out HGG.out); have HZ10 := Aside0.mk ((hc.block w.heap.size (Nat.lt_of_lt_of_le HGL.out HS9.out) (Nat.ne_of_lt HGL.out)).trans HZ9.out); have HS10 := Aside0.mk (Nat.le_trans HS9.out hc.size); have HL10 := Aside0.mk (show L10.length = n from by rw [← EL10.out, putL_len]; exact HL9.out); have HQ10 := Aside0.mk (show Bytes L10 from by rw [← EL10.out]; exact putL_bytes _ _ _ HQ9.out); clear hr hc; clear k0 k1 k2 k3 k4 k5 k6 k7 k8 k9 k10 k11 k12; obtain ⟨k0, k1, k2, k3, k4, k5, k6, k7, k8, k9, k10, k11, k12⟩ := c13 HZ10.out))
  clear PR
  have PR := Aside0.mk (put_row (w0 := w) (w := w10) 20 2 (p8) (iz := 20) (mz := 2) (HB10.out) HGG.out HR10.out HL10.out (by have := HL10.out; have := HN.out; omega) rfl rfl (by omega) (by have := HL10.out; have := HN.out; omega))
  go_upto_region 30 with (first | (go_at_call 35; (with_reducible refine PR.out.mono ?_); rintro e w11 ⟨rfl, hr, hc⟩; obtain ⟨L11, el⟩ : ∃ L, putL L10 20 2 (p8) = L := ⟨_, rfl⟩; rw [el] at hr; have EL11 := Aside0.mk el; clear el; have HR11 := Aside0.mk hr; have HB11 := Aside0.mk (hc.below HB10.out HGG.out); have HZ11 := Aside0.mk ((hc.block w.heap.size (Nat.lt_of_lt_of_le HGL.out HS10.out) (Nat.ne_of_lt HGL.out)).trans HZ10.out); have HS11 := Aside0.mk (Nat.le_trans HS10.out hc.size); have HL11 := Aside0.mk (show L11.length = n from by rw [← EL11.out, putL_len]; exact HL10.out); have HQ11 := Aside0.mk (show Bytes L11 from by rw [← EL11.out]; exact putL_bytes _ _ _ HQ10.out); clear hr hc; clear k0 k1 k2 k3 k4 k5 k6 k7 k8 k9 k10 k11 k12; obtain ⟨k0, k1, k2, k3, k4, k5, k6, k7, k8, k9, k10, k11, k12⟩ := c13 HZ11.out))
  clear PR
  obtain ⟨A3, hA3, hcut3⟩ := cut_row g n (24) (iz := wrap64 (wrap64 (24 + (p12.length : Int)) - (p12.length : Int))) (by rw [HNN.out, wid (by have := HN.out; omega) (by have := HN.out; omega)]; have := HN.out; omega) (by have := HN.out; omega)
  have HA3 := Aside0.mk hA3
  clear hA3
  have HCZ := Aside0.mk (fun W (h : Below g w11 W) => c13 ((h.block w.heap.size HGL.out).trans HZ11.out))
  clear k0 k1 k2 k3 k4 k5 k6 k7 k8 k9 k10 k11 k12
  refine start_ (n := 10) (S := fun w' => w'.cell? ⟨w.heap.size, 12, none⟩ = some (.slice A2 p12.length c2)) (ds := []) #[fF,fF,fF,fF,fF,fF,fF,fF,fF,fF] (by kernel_rfl) rfl rfl ((HCZ.out _ (Below.refl g w11).drew).2.2.2.2.2.2.2.2.2.2.2.2) (fun hHeld => ?_)
  refine pure_ (i := 0) (N := some 135) (v := ?_) (a' := ?_) #[tT,fF,fF,fF,fF,fF,fF,fF,fF,fF] rfl rfl (by kernel_rfl) (fun _ _ _ h => h) (Or.inl ⟨by rfl, ?_⟩) ?_ ?_
  rotate_left; · intro w'; go_simp; with_reducible rfl
  rotate_left; · simp only [Act.put, q_a, q_0, q_s, i64_w, i32_w]; rfl
  refine pure_ (i := 1) (N := some 136) (v := ?_) (a' := ?_) #[tT,tT,fF,fF,fF,fF,fF,fF,fF,fF] rfl rfl (by kernel_rfl) (fun _ _ _ h => h) (Or.inl ⟨by rfl, ?_⟩) ?_ ?_
  rotate_left; · intro w'; go_simp; with_reducible rfl
  rotate_left; · simp only [Act.put, q_a, q_0, q_s, i64_w, i32_w]; rfl
  refine pure_ (i := 2) (N := some 137) (v := ?_) (a' := ?_) #[tT,tT,tT,fF,fF,fF,fF,fF,fF,fF] rfl rfl (by kernel_rfl) (fun _ _ _ h => h) (Or.inl ⟨by rfl, ?_⟩) ?_ ?_
  rotate_left; · intro w'; go_simp; with_reducible rfl
  rotate_left; · simp only [Act.put, q_a, q_0, q_s, i64_w, i32_w]; rfl
  refine pure_ (i := 7) (N := some 142) (v := ?_) (a' := ?_) #[tT,tT,tT,fF,fF,fF,fF,tT,fF,fF] rfl rfl (by kernel_rfl) (fun _ _ _ h => h) (Or.inl ⟨by rfl, ?_⟩) ?_ ?_
  rotate_left; · intro w'; go_simp; with_reducible rfl
  rotate_left; · simp only [Act.put, q_a, q_0, q_s, i64_w, i32_w]; rfl
  refine take_ (i := 3) (N := some 138) (v := ?_) (a' := ?_) #[tT,tT,tT,tT,fF,fF,fF,tT,fF,fF] rfl rfl (by kernel_rfl) (fun _ _ _ h => h) (Or.inl ⟨by rfl, ?_⟩) hHeld ?_ ?_
  rotate_left
  · intro w' s0
    go_simp
    with_reducible rfl
  rotate_left; · simp only [Act.put, q_a, q_0, q_s, i64_w, i32_w]; rfl
  refine pure_ (i := 4) (N := some 139) (v := ?_) (a' := ?_) #[tT,tT,tT,tT,tT,fF,fF,tT,fF,fF] rfl rfl (by kernel_rfl) (fun _ _ _ h => h) (Or.inl ⟨by rfl, ?_⟩) ?_ ?_
  rotate_left; · intro w'; go_simp; with_reducible rfl
  rotate_left; · simp only [Act.put, q_a, q_0, q_s, i64_w, i32_w]; rfl
  refine pure_ (i := 5) (N := some 140) (v := ?_) (a' := ?_) #[tT,tT,tT,tT,tT,tT,fF,tT,fF,fF] rfl rfl (by kernel_rfl) (fun _ _ _ h => h) (Or.inl ⟨by rfl, ?_⟩) ?_ ?_
  rotate_left; · intro w'; go_simp; with_reducible rfl
  rotate_left; · simp only [Act.put, q_a, q_0, q_s, i64_w, i32_w]; rfl
  refine pure_ (i := 6) (N := some 141) (v := ?_) (a' := ?_) #[tT,tT,tT,tT,tT,tT,tT,tT,fF,fF] rfl rfl (by kernel_rfl) (fun _ _ _ h => h) (Or.inl ⟨by rfl, ?_⟩) ?_ ?_
  rotate_left; · intro w'; go_simp; with_reducible rfl
  rotate_left; · simp only [Act.put, q_a, q_0, q_s, i64_w, i32_w]; rfl
  refine take_ (i := 8) (N := some 143) (v := ?_) (a' := ?_) #[tT,tT,tT,tT,tT,tT,tT,tT,tT,fF] rfl rfl (by kernel_rfl) (fun _ _ _ h => h) (Or.inl ⟨by rfl, ?_⟩) hHeld ?_ ?_
  rotate_left
  · intro w' s0
    go_simp
    with_reducible rfl
  rotate_left; · simp only [Act.put, q_a, q_0, q_s, i64_w, i32_w]; rfl
  refine one_ (i := 9) (N := some 144) #[tT,tT,tT,tT,tT,tT,tT,tT,tT,tT] rfl rfl (by kernel_rfl) (by decide) (fun K hK => ?_)
  refine copy_row rfl (.tmp 141) (.tmp 143) rfl (g := g) (i := 24) (n := n) (m := n - (24)) (c := c2) (A' := A3) (A := A2) (L := L11) (cs := p12) rfl rfl HA3.out rfl HR11.out HL11.out (Kd.C_drew (Kd.C_below HD.out HB11.out)) (by have := HN.out; have := HLIM.out; omega) ?_
  intro w12 hr hb
  refine hK.out _ _ ((HCZ.out _ ((Below.refl g w11).drew.trans hb)).2.2.2.2.2.2.2.2.2.2.2.2) (fun hHeld => ?_)
  clear hK K
  refine norm_ (a' := ?_) ?_ ?_
  rotate_left
  · show Act.put _ (some 144) _ = _
    simp only [Act.put, q_a, q_0, q_s, i64_w, i32_w]
    rfl
  refine done_ (by kernel_rfl) ?_
  obtain ⟨L12, el⟩ : ∃ L, splice L11 (24) p12 = L := ⟨_, rfl⟩
  rw [el] at hr
  have EL12 := Aside0.mk el
  have HR12 := Aside0.mk hr
  have HX := Aside0.mk ((Below.refl g w11).drew.trans hb)
  have HZ12 := Aside0.mk ((HX.out.block w.heap.size HGL.out).trans HZ11.out)
  have HB12 := Aside0.mk (HB11.out.trans (HX.out.mono HGG.out))
  have HS12 := Aside0.mk (Nat.le_trans HS11.out HX.out.size)
  have HL12 := Aside0.mk (show L12.length = n from by rw [← el, splice_len (by rw [HL11.out]; have := HN.out; have := HLIM.out; omega)]; exact HL11.out)
  have HQ12 := Aside0.mk (show Bytes L12 from by rw [← el]; exact splice_bytes HQ11.out HYD.out)
  clear hHeld hr hb el HX HCZ HA3 hcut3
  obtain ⟨k0, k1, k2, k3, k4, k5, k6, k7, k8, k9, k10, k11, k12⟩ := c13 HZ12.out
  have SF := Aside0.mk (summed_calls (c := n) (by have h := row_C HR12.out (by have := HL12.out; have := HN.out; omega); rw [HL12.out] at h; exact h) HL12.out (Nat.le_refl _) (by have := HL12.out; have := HN.out; omega) (by have := HL12.out; have := HN.out; omega) HQ12.out)
  have HSO := Aside0.mk (summed_ok HQ12.out (by have := HL12.out; have := HN.out; omega) (by have := HL12.out; have := HN.out; omega))
  go_upto_region 32 with (first
    | (go_at_call 36; (with_reducible refine SF.out.mono ?_); rintro e w13 ⟨v, rfl, ho, hb⟩; obtain ⟨Av, cv, ev⟩ := Kd.R_slice ho; subst ev; have HR13 := Aside0.mk (show Row w13 g L12 from (hb.block g (blk_lt HR12.out)).trans HR12.out); have HZ13 := Aside0.mk ((hb.block w.heap.size (blk_lt HZ12.out)).trans HZ12.out); have HB13 := Aside0.mk (below_step HB12.out hb); have HS13 := Aside0.mk (Nat.le_trans HS12.out hb.size); have HRD := Aside0.mk (Kd.R_reads' ho); have OF := Aside0.mk (of_calls HRD.out.2.2 rfl HRD.out.2.1 HSO.out.2 (by have := HSO.out.1; omega)); clear ho hb; clear k0 k1 k2 k3 k4 k5 k6 k7 k8 k9 k10 k11 k12; obtain ⟨k0, k1, k2, k3, k4, k5, k6, k7, k8, k9, k10, k11, k12⟩ := c13 HZ13.out)
    | (go_at_call 26; (with_reducible refine OF.out.mono ?_); rintro e w30 ⟨rfl, ⟨⟨nd2, rfl⟩⟩⟩))
  have HR13' := Aside0.mk (show Row (w13.drewN nd2) g L12 from HR13.out)
  have HZ13' := Aside0.mk (show (w13.drewN nd2).heap[w.heap.size]? = _ from HZ13.out)
  have HB13' := Aside0.mk (bd HB13.out nd2)
  have HS13' := Aside0.mk (show g ≤ (w13.drewN nd2).heap.size from HS13.out)
  generalize w13.drewN nd2 = w40 at HR13' HZ13' HB13' HS13' ⊢
  clear SF OF HRD HR13 HZ13 HB13 HS13 k0 k1 k2 k3 k4 k5 k6 k7 k8 k9 k10 k11 k12
  obtain ⟨k0, k1, k2, k3, k4, k5, k6, k7, k8, k9, k10, k11, k12⟩ := c13 HZ13'.out
  have G39 := Aside0.mk (fun W => wire_sumPlace.calls p0 22 W (by unfold wire_sumPlace.f; have := HK.out; rw [if_neg (by omega)]))
  cases hp9 : p9
  · rw [hp9] at HZ13' k9
    by_cases hs : 65535 - fold (pairs (summedL L12)) = 0
    · have d0 : (65535 - fold (pairs (summedL L12)) == 0) = true := beq_iff_eq.mpr hs
      have PR := Aside0.mk (fun nd_ => put_row (w0 := w) (w := w40.drewN nd_) 22 2 (65535) (iz := 22) (mz := 2) (bd HB13'.out nd_) HGG.out HR13'.out HL12.out (by have := HL12.out; have := HN.out; omega) rfl rfl (by omega) (by have := HL12.out; have := HN.out; have := HLIM.out; have := HK.out; omega))
      go_wp2_with (first
        | (go_at_call 37; (with_reducible refine (G39.out _).mono ?_); rintro e w41 ⟨rfl, ⟨⟨nd3, rfl⟩⟩⟩)
        | (go_at_call 35; (with_reducible refine (PR.out _).mono ?_); rintro e w42 ⟨rfl, hr, hc⟩; have HRX := Aside0.mk hr; have HBX := Aside0.mk (hc.below (bd HB13'.out _) HGG.out); clear hr hc))
      go_ret2
      refine ⟨_, rfl, ?_, HBX.out⟩
      have hl := RB_of_row HRX.out HGG.out (by rw [putL_len, HL12.out]; have := HN.out; omega)
      rw [putL_len, HL12.out] at hl
      have e : putL L12 22 2 (65535) = buildL ⟨p0, p1, p2, p3, p4, p5, p6, p7, p8, p9, p10, p11, p12⟩ := by
        rw [show (65535 : Int) = sumL p0 p9 L12 from by unfold sumL; rw [if_neg (by simp [hp9]), if_pos ⟨HK.out, hs⟩]]
        have hb : L12 = bodyL ⟨p0, p1, p2, p3, p4, p5, p6, p7, p8, p9, p10, p11, p12⟩ := by
          rw [← EL12.out, ← EL11.out, ← EL10.out, ← EL9.out, ← EL8.out, ← EL7.out, ← EL6.out, ← EL5.out, ← EL4.out]
          unfold bodyL h4L h3L
          simp only [HNL.out, HNN.out]
          rw [if_neg (show ¬ p0 = 3 by have := HK.out; omega), if_pos HK.out]
          rw [show n - p12.length = 24 from by have := HN.out; omega]
        rw [hb]
        unfold buildL
        simp only []
        rw [if_neg (show ¬ p0 = 3 by have := HK.out; omega)]
      rw [← e]
      exact hl
    · have d0 : (65535 - fold (pairs (summedL L12)) == 0) = false := beq_eq_false_iff_ne.mpr hs
      have PR := Aside0.mk (fun nd_ => put_row (w0 := w) (w := w40.drewN nd_) 22 2 (65535 - fold (pairs (summedL L12))) (iz := 22) (mz := 2) (bd HB13'.out nd_) HGG.out HR13'.out HL12.out (by have := HL12.out; have := HN.out; omega) rfl rfl (by omega) (by have := HL12.out; have := HN.out; have := HLIM.out; have := HK.out; omega))
      go_wp2_with (first
        | (go_at_call 37; (with_reducible refine (G39.out _).mono ?_); rintro e w41 ⟨rfl, ⟨⟨nd3, rfl⟩⟩⟩)
        | (go_at_call 35; (with_reducible refine (PR.out _).mono ?_); rintro e w42 ⟨rfl, hr, hc⟩; have HRX := Aside0.mk hr; have HBX := Aside0.mk (hc.below (bd HB13'.out _) HGG.out); clear hr hc))
      go_ret2
      refine ⟨_, rfl, ?_, HBX.out⟩
      have hl := RB_of_row HRX.out HGG.out (by rw [putL_len, HL12.out]; have := HN.out; omega)
      rw [putL_len, HL12.out] at hl
      have e : putL L12 22 2 (65535 - fold (pairs (summedL L12))) = buildL ⟨p0, p1, p2, p3, p4, p5, p6, p7, p8, p9, p10, p11, p12⟩ := by
        rw [show (65535 - fold (pairs (summedL L12)) : Int) = sumL p0 p9 L12 from by unfold sumL; rw [if_neg (by simp [hp9]), if_neg (fun h => hs h.2)]]
        have hb : L12 = bodyL ⟨p0, p1, p2, p3, p4, p5, p6, p7, p8, p9, p10, p11, p12⟩ := by
          rw [← EL12.out, ← EL11.out, ← EL10.out, ← EL9.out, ← EL8.out, ← EL7.out, ← EL6.out, ← EL5.out, ← EL4.out]
          unfold bodyL h4L h3L
          simp only [HNL.out, HNN.out]
          rw [if_neg (show ¬ p0 = 3 by have := HK.out; omega), if_pos HK.out]
          rw [show n - p12.length = 24 from by have := HN.out; omega]
        rw [hb]
        unfold buildL
        simp only []
        rw [if_neg (show ¬ p0 = 3 by have := HK.out; omega)]
      rw [← e]
      exact hl
  · rw [hp9] at HZ13' k9
    have PR := Aside0.mk (fun nd_ => put_row (w0 := w) (w := w40.drewN nd_) 22 2 (0) (iz := 22) (mz := 2) (bd HB13'.out nd_) HGG.out HR13'.out HL12.out (by have := HL12.out; have := HN.out; omega) rfl rfl (by omega) (by have := HL12.out; have := HN.out; have := HLIM.out; have := HK.out; omega))
    go_wp2_with (first
      | (go_at_call 37; (with_reducible refine (G39.out _).mono ?_); rintro e w41 ⟨rfl, ⟨⟨nd3, rfl⟩⟩⟩)
      | (go_at_call 35; (with_reducible refine (PR.out _).mono ?_); rintro e w42 ⟨rfl, hr, hc⟩; have HRX := Aside0.mk hr; have HBX := Aside0.mk (hc.below (bd HB13'.out _) HGG.out); clear hr hc))
    go_ret2
    refine ⟨_, rfl, ?_, HBX.out⟩
    have hl := RB_of_row HRX.out HGG.out (by rw [putL_len, HL12.out]; have := HN.out; omega)
    rw [putL_len, HL12.out] at hl
    have e : putL L12 22 2 (0) = buildL ⟨p0, p1, p2, p3, p4, p5, p6, p7, p8, p9, p10, p11, p12⟩ := by
      rw [show (0 : Int) = sumL p0 p9 L12 from by unfold sumL; rw [if_pos ⟨HK.out, hp9⟩]]
      have hb : L12 = bodyL ⟨p0, p1, p2, p3, p4, p5, p6, p7, p8, p9, p10, p11, p12⟩ := by
        rw [← EL12.out, ← EL11.out, ← EL10.out, ← EL9.out, ← EL8.out, ← EL7.out, ← EL6.out, ← EL5.out, ← EL4.out]
        unfold bodyL h4L h3L
        simp only [HNL.out, HNN.out]
        rw [if_neg (show ¬ p0 = 3 by have := HK.out; omega), if_pos HK.out]
        rw [show n - p12.length = 24 from by have := HN.out; omega]
      rw [hb]
      unfold buildL
      simp only []
      rw [if_neg (show ¬ p0 = 3 by have := HK.out; omega)]
    rw [← e]
    exact hl
set_option maxHeartbeats 8000000 in
set_option maxRecDepth 100000 in
theorem build_stream {A1 A2 : Option Addr} {c1 c2 : Nat} {p0 p1 p2 p3 p4 p5 p6 p7 p8 : Int} {p9 : Bool} {p10 : Int} {p11 p12 : List Int} {w : World} (ha : Kd.C (Kd.int .u8) w A1 p11.length p11) (hca : p11.length ≤ c1) (hd : Kd.C (Kd.int .u8) w A2 p12.length p12) (hcd : p12.length ≤ c2) (hba : Bytes p11) (hbd : Bytes p12) (hk : p0 = 1) (he : buildE ⟨p0, p1, p2, p3, p4, p5, p6, p7, p8, p9, p10, p11, p12⟩ = 0) :
    Calls Try.prog 11 #[.agg #[.int .i64 p0, .int .i64 p1, .int .i64 p2, .int .i64 p3, .int .i64 p4, .int .i64 p5, .int .i64 p6, .int .i64 p7, .int .i64 p8, .bool p9, .int .i64 p10, .slice A1 p11.length c1, .slice A2 p12.length c2]] w fun e w' => ∃ v, e = .returned (.tuple #[v, .int .i64 0]) ∧ RB w.heap.size w' v (buildL ⟨p0, p1, p2, p3, p4, p5, p6, p7, p8, p9, p10, p11, p12⟩) ∧ Below w.heap.size w w' := by
  have hn : nL ⟨p0, p1, p2, p3, p4, p5, p6, p7, p8, p9, p10, p11, p12⟩ = 24 + p12.length + p11.length := by unfold nL; simp [hk]
  have hok : okR ⟨p0, p1, p2, p3, p4, p5, p6, p7, p8, p9, p10, p11, p12⟩ = true := by
    unfold buildE at he
    split at he
    · cases he
    split at he
    · cases he
    rename_i h; simpa using h
  have hlim : nL ⟨p0, p1, p2, p3, p4, p5, p6, p7, p8, p9, p10, p11, p12⟩ ≤ 1500 ∧ (p0 = 1 → p11.length ≤ 40) ∧ (p0 = 3 → 24 ≤ p12.length) := by
    unfold buildE at he
    split at he
    · cases he
    split at he
    · cases he
    split at he
    · cases he
    split at he
    · cases he
    rename_i h1 h2 h3 h4
    refine ⟨by omega, fun h => ?_, fun h => ?_⟩
    · have : ¬ 40 < p11.length := fun h5 => h3 ⟨h, h5⟩
      omega
    · have : ¬ p12.length < 24 := fun h5 => h4 (Or.inl ⟨h, h5⟩)
      omega
  obtain ⟨n, hne⟩ : ∃ n, 24 + p12.length + p11.length = n := ⟨_, rfl⟩
  rw [hn, hne] at hlim
  have HN := Aside0.mk (show 20 ≤ n ∧ n ≤ 1500 ∧ 24 + p12.length + p11.length = n from ⟨by omega, hlim.1, hne⟩)
  have HNL := Aside0.mk (hn.trans hne)
  have HLIM := Aside0.mk hlim
  have HNN := Aside0.mk (show wrap64 (wrap64 (24 + (p12.length : Int)) + (p11.length : Int)) = (n : Int) from by rw [wid (n := 24 + (p12.length : Int)) (by omega) (by omega), wid (by omega) (by omega)]; omega)
  have dlim : decide (1500 < wrap64 (wrap64 (24 + (p12.length : Int)) + (p11.length : Int))) = false := decide_eq_false (by rw [HNN.out]; omega)
  have HA := Aside0.mk ha
  have HD := Aside0.mk hd
  have HYA := Aside0.mk hba
  have HYD := Aside0.mk hbd
  have HK := Aside0.mk hk
  have q1 : (p0 == 1) = true := by rw [hk]; rfl
  have q1n : (p0 != 1) = false := by rw [hk]; rfl
  have q2 : (p0 == 2) = false := by rw [hk]; rfl
  have q2n : (p0 != 2) = true := by rw [hk]; rfl
  have q3 : (p0 == 3) = false := by rw [hk]; rfl
  have q3n : (p0 != 3) = true := by rw [hk]; rfl
  have dopt : decide (40 < (p11.length : Int)) = false := decide_eq_false (by have := hlim.2.1 hk; omega)
  have doptn : decide (40 < p11.length) = false := decide_eq_false (by have := hlim.2.1 hk; omega)
  have G34 := Aside0.mk (fun W => wire_known.calls p0 true W (by unfold wire_known.f; rw [if_pos (by omega)]; simp [hk]))
  have G35 := Aside0.mk (fun W (h : Below w.heap.size w W) => (show Calls Try.prog 34 #[.agg #[.int .i64 p0, .int .i64 p1, .int .i64 p2, .int .i64 p3, .int .i64 p4, .int .i64 p5, .int .i64 p6, .int .i64 p7, .int .i64 p8, .bool p9, .int .i64 p10, .slice A1 p11.length c1, .slice A2 p12.length c2]] W fun e w' => e = .returned (.bool true) ∧ Below W.heap.size W w' from by
    have := ranges_calls (p := ⟨p0, p1, p2, p3, p4, p5, p6, p7, p8, p9, p10, p11, p12⟩) (A1 := A1) (A2 := A2) (c1 := c1) (c2 := c2) (w := W) (Kd.C_below ha h) hca (Kd.C_below hd h) hcd
    rw [hok] at this
    exact this))
  have HBA := Aside0.mk (fun o => (Below.refl w.heap.size w).alloc (Nat.le_refl _) o)
  clear ha hd hba hbd hk he hn hok hlim hne hca hcd
  go_enter Try.func11, Try.ntmps11
  go_upto_region 14 with (first
    | (go_at_call 33; (with_reducible refine (G34.out _).mono ?_); rintro e w1 ⟨rfl, ⟨⟨nd, rfl⟩⟩⟩)
    | (go_at_call 34; (with_reducible refine (G35.out _ ?hb).mono ?_); (case hb => repeat (first | with_reducible exact HBA.out _ | with_reducible apply pw_below_drewN)); rintro e w2 ⟨rfl, hb2⟩; have HZ2 := Aside0.mk ((hb2.block w.heap.size (blk_lt (new_blk w (.cells #[.int .i64 p0, .int .i64 p1, .int .i64 p2, .int .i64 p3, .int .i64 p4, .int .i64 p5, .int .i64 p6, .int .i64 p7, .int .i64 p8, .bool p9, .int .i64 p10, .slice A1 p11.length c1, .slice A2 p12.length c2] 39)))).trans (new_blk w (.cells #[.int .i64 p0, .int .i64 p1, .int .i64 p2, .int .i64 p3, .int .i64 p4, .int .i64 p5, .int .i64 p6, .int .i64 p7, .int .i64 p8, .bool p9, .int .i64 p10, .slice A1 p11.length c1, .slice A2 p12.length c2] 39))); have HB2 := Aside0.mk (below_step (bd (HBA.out (.cells #[.int .i64 p0, .int .i64 p1, .int .i64 p2, .int .i64 p3, .int .i64 p4, .int .i64 p5, .int .i64 p6, .int .i64 p7, .int .i64 p8, .bool p9, .int .i64 p10, .slice A1 p11.length c1, .slice A2 p12.length c2] 39)) _) hb2); clear hb2; obtain ⟨k0, k1, k2, k3, k4, k5, k6, k7, k8, k9, k10, k11, k12⟩ := c13 HZ2.out))
  clear G34 G35 HBA dlim dopt doptn
  obtain ⟨g, HGE⟩ : ∃ g, w2.heap.size = g := ⟨_, rfl⟩
  have HGL := Aside0.mk (show w.heap.size < g from by rw [← HGE]; exact blk_lt HZ2.out)
  have HGG := Aside0.mk (Nat.le_of_lt HGL.out)
  go_upto_region 15 with (first
    | ((with_reducible refine gate_dst (N := 61) rfl ?_); refine make_row g HGE rfl (.tmp 60) (.tmp 60) rfl n (wrap64 (wrap64 (24 + (p12.length : Int)) + (p11.length : Int))) HNN.out rfl rfl (by have := HN.out; omega) ?_; intro w3 hr hb3; have HR3 := Aside0.mk hr; have HZ3 := Aside0.mk ((hb3.block w.heap.size HGL.out).trans HZ2.out); have HB3 := Aside0.mk (HB2.out.trans (hb3.mono HGG.out)); have HS3 := Aside0.mk (show g < w3.heap.size from blk_lt hr); clear hr hb3; clear k0 k1 k2 k3 k4 k5 k6 k7 k8 k9 k10 k11 k12; obtain ⟨k0, k1, k2, k3, k4, k5, k6, k7, k8, k9, k10, k11, k12⟩ := c13 HZ3.out))
  have HCZ := Aside0.mk (fun W (h : Below g w3 W) => c13 ((h.block w.heap.size HGL.out).trans HZ3.out))
  have r0 := row_cells HR3.out 0 (by have := HN.out; simp; omega)
  have r1 := row_cells HR3.out 1 (by have := HN.out; simp; omega)
  have r12 := row_cells HR3.out 12 (by have := HN.out; simp; omega)
  have s0 := row_frozen HR3.out 0
  have s1 := row_frozen HR3.out 1
  have s12 := row_frozen HR3.out 12
  have hn0 : (0 : Int) < (n : Int) := by have := HN.out; omega
  have hn0n : 0 < n := by have := HN.out; omega
  have hn1 : (1 : Int) < (n : Int) := by have := HN.out; omega
  have hn12 : (12 : Int) < (n : Int) := by have := HN.out; omega
  clear k0 k1 k2 k3 k4 k5 k6 k7 k8 k9 k10 k11 k12
  refine start_ (n := 18) (S := fun w' => w'.cell? ⟨w.heap.size, 0, none⟩ = some (.int .i64 p0) ∧ w'.cell? ⟨w.heap.size, 1, none⟩ = some (.int .i64 p1) ∧ w'.cell? ⟨w.heap.size, 2, none⟩ = some (.int .i64 p2)) (ds := []) #[fF,fF,fF,fF,fF,fF,fF,fF,fF,fF,fF,fF,fF,fF,fF,fF,fF,fF] (by kernel_rfl) rfl rfl ⟨(HCZ.out _ (Below.refl g w3).drew).1, (HCZ.out _ (Below.refl g w3).drew).2.1, (HCZ.out _ (Below.refl g w3).drew).2.2.1⟩ (fun hHeld => ?_)
  refine pure_ (i := 0) (N := some 62) (v := ?_) (a' := ?_) #[tT,fF,fF,fF,fF,fF,fF,fF,fF,fF,fF,fF,fF,fF,fF,fF,fF,fF] rfl rfl (by kernel_rfl) (fun _ _ _ h => h) (Or.inl ⟨by rfl, ?_⟩) ?_ ?_
  rotate_left; · intro w'; go_simp; with_reducible rfl
  rotate_left; · simp only [Act.put, q_a, q_0, q_s, i64_w, i32_w]; rfl
  refine pure_ (i := 1) (N := some 63) (v := ?_) (a' := ?_) #[tT,tT,fF,fF,fF,fF,fF,fF,fF,fF,fF,fF,fF,fF,fF,fF,fF,fF] rfl rfl (by kernel_rfl) (fun _ _ _ h => h) (Or.inl ⟨by rfl, ?_⟩) ?_ ?_
  rotate_left; · intro w'; go_simp; with_reducible rfl
  rotate_left; · simp only [Act.put, q_a, q_0, q_s, i64_w, i32_w]; rfl
  refine pure_ (i := 2) (N := some 64) (v := ?_) (a' := ?_) #[tT,tT,tT,fF,fF,fF,fF,fF,fF,fF,fF,fF,fF,fF,fF,fF,fF,fF] rfl rfl (by kernel_rfl) (fun _ _ _ h => h) (Or.inl ⟨by rfl, ?_⟩) ?_ ?_
  rotate_left; · intro w'; go_simp; with_reducible rfl
  rotate_left; · simp only [Act.put, q_a, q_0, q_s, i64_w, i32_w]; rfl
  refine pure_ (i := 3) (N := some 65) (v := ?_) (a' := ?_) #[tT,tT,tT,tT,fF,fF,fF,fF,fF,fF,fF,fF,fF,fF,fF,fF,fF,fF] rfl rfl (by kernel_rfl) (fun _ _ _ h => h) (Or.inl ⟨by rfl, ?_⟩) ?_ ?_
  rotate_left; · intro w'; go_simp; with_reducible rfl
  rotate_left; · simp only [Act.put, q_a, q_0, q_s, i64_w, i32_w]; rfl
  refine pure_ (i := 6) (N := some 68) (v := ?_) (a' := ?_) #[tT,tT,tT,tT,fF,fF,tT,fF,fF,fF,fF,fF,fF,fF,fF,fF,fF,fF] rfl rfl (by kernel_rfl) (fun _ _ _ h => h) (Or.inl ⟨by rfl, ?_⟩) ?_ ?_
  rotate_left; · intro w'; go_simp; with_reducible rfl
  rotate_left; · simp only [Act.put, q_a, q_0, q_s, i64_w, i32_w]; rfl
  refine pure_ (i := 9) (N := some 71) (v := ?_) (a' := ?_) #[tT,tT,tT,tT,fF,fF,tT,fF,fF,tT,fF,fF,fF,fF,fF,fF,fF,fF] rfl rfl (by kernel_rfl) (fun _ _ _ h => h) (Or.inl ⟨by rfl, ?_⟩) ?_ ?_
  rotate_left; · intro w'; go_simp; with_reducible rfl
  rotate_left; · simp only [Act.put, q_a, q_0, q_s, i64_w, i32_w]; rfl
  refine take_ (i := 4) (N := some 66) (v := ?_) (a' := ?_) #[tT,tT,tT,tT,tT,fF,tT,fF,fF,tT,fF,fF,fF,fF,fF,fF,fF,fF] rfl rfl (by kernel_rfl) (fun _ _ _ h => h) (Or.inl ⟨by rfl, ?_⟩) hHeld ?_ ?_
  rotate_left
  · rintro w' ⟨s0, s1, s2⟩
    go_simp
    with_reducible rfl
  rotate_left; · simp only [Act.put, q_a, q_0, q_s, i64_w, i32_w]; rfl
  refine pure_ (i := 5) (N := some 67) (v := ?_) (a' := ?_) #[tT,tT,tT,tT,tT,tT,tT,fF,fF,tT,fF,fF,fF,fF,fF,fF,fF,fF] rfl rfl (by kernel_rfl) (fun _ _ _ h => h) (Or.inl ⟨by rfl, ?_⟩) ?_ ?_
  rotate_left; · intro w'; go_simp; with_reducible rfl
  rotate_left; · simp only [Act.put, q_a, q_0, q_s, i64_w, i32_w]; rfl
  refine pure_ (i := 12) (N := some 74) (v := ?_) (a' := ?_) #[tT,tT,tT,tT,tT,tT,tT,fF,fF,tT,fF,fF,tT,fF,fF,fF,fF,fF] rfl rfl (by kernel_rfl) (fun _ _ _ h => h) (Or.inl ⟨by rfl, ?_⟩) ?_ ?_
  rotate_left; · intro w'; go_simp; with_reducible rfl
  rotate_left; · simp only [Act.put, q_a, q_0, q_s, i64_w, i32_w]; rfl
  refine take_ (i := 7) (N := some 69) (v := ?_) (a' := ?_) #[tT,tT,tT,tT,tT,tT,tT,tT,fF,tT,fF,fF,tT,fF,fF,fF,fF,fF] rfl rfl (by kernel_rfl) (fun _ _ _ h => h) (Or.inl ⟨by rfl, ?_⟩) hHeld ?_ ?_
  rotate_left
  · rintro w' ⟨s0, s1, s2⟩
    go_simp
    with_reducible rfl
  rotate_left; · simp only [Act.put, q_a, q_0, q_s, i64_w, i32_w]; rfl
  refine pure_ (i := 8) (N := some 70) (v := ?_) (a' := ?_) #[tT,tT,tT,tT,tT,tT,tT,tT,tT,tT,fF,fF,tT,fF,fF,fF,fF,fF] rfl rfl (by kernel_rfl) (fun _ _ _ h => h) (Or.inl ⟨by rfl, ?_⟩) ?_ ?_
  rotate_left; · intro w'; go_simp; with_reducible rfl
  rotate_left; · simp only [Act.put, q_a, q_0, q_s, i64_w, i32_w]; rfl
  refine take_ (i := 10) (N := some 72) (v := ?_) (a' := ?_) #[tT,tT,tT,tT,tT,tT,tT,tT,tT,tT,tT,fF,tT,fF,fF,fF,fF,fF] rfl rfl (by kernel_rfl) (fun _ _ _ h => h) (Or.inl ⟨by rfl, ?_⟩) hHeld ?_ ?_
  rotate_left
  · rintro w' ⟨s0, s1, s2⟩
    go_simp
    with_reducible rfl
  rotate_left; · simp only [Act.put, q_a, q_0, q_s, i64_w, i32_w]; rfl
  refine pure_ (i := 11) (N := some 73) (v := ?_) (a' := ?_) #[tT,tT,tT,tT,tT,tT,tT,tT,tT,tT,tT,tT,tT,fF,fF,fF,fF,fF] rfl rfl (by kernel_rfl) (fun _ _ _ h => h) (Or.inl ⟨by rfl, ?_⟩) ?_ ?_
  rotate_left; · intro w'; go_simp; with_reducible rfl
  rotate_left; · simp only [Act.put, q_a, q_0, q_s, i64_w, i32_w]; rfl
  refine one_ (i := 13) (N := none) #[tT,tT,tT,tT,tT,tT,tT,tT,tT,tT,tT,tT,tT,tT,fF,fF,fF,fF] rfl rfl (by kernel_rfl) (by decide) (fun K hK => ?_)
  refine skip_ (w1 := ?_) (by rfl) rfl ?_ ?_
  rotate_left
  · go_simp
    rfl
  refine hK.out _ _ ⟨(HCZ.out _ ((Below.refl g w3).drew.setCell (p := ⟨g, 0, none⟩) (Nat.le_refl _) _)).1, (HCZ.out _ ((Below.refl g w3).drew.setCell (p := ⟨g, 0, none⟩) (Nat.le_refl _) _)).2.1, (HCZ.out _ ((Below.refl g w3).drew.setCell (p := ⟨g, 0, none⟩) (Nat.le_refl _) _)).2.2.1⟩ (fun hHeld => ?_)
  clear hK K
  refine pure_ (i := 14) (N := some 75) (v := ?_) (a' := ?_) #[tT,tT,tT,tT,tT,tT,tT,tT,tT,tT,tT,tT,tT,tT,tT,fF,fF,fF] rfl rfl (by kernel_rfl) (fun _ _ _ h => h) (Or.inl ⟨by rfl, ?_⟩) ?_ ?_
  rotate_left; · intro w'; go_simp; with_reducible rfl
  rotate_left; · simp only [Act.put, q_a, q_0, q_s, i64_w, i32_w]; rfl
  refine one_ (i := 15) (N := none) #[tT,tT,tT,tT,tT,tT,tT,tT,tT,tT,tT,tT,tT,tT,tT,tT,fF,fF] rfl rfl (by kernel_rfl) (by decide) (fun K hK => ?_)
  refine skip_ (w1 := ?_) (by rfl) rfl ?_ ?_
  rotate_left
  · go_simp
    rfl
  refine hK.out _ _ ⟨(HCZ.out _ (((Below.refl g w3).drew.setCell (p := ⟨g, 0, none⟩) (Nat.le_refl _) _).setCell (p := ⟨g, 1, none⟩) (Nat.le_refl _) _)).1, (HCZ.out _ (((Below.refl g w3).drew.setCell (p := ⟨g, 0, none⟩) (Nat.le_refl _) _).setCell (p := ⟨g, 1, none⟩) (Nat.le_refl _) _)).2.1, (HCZ.out _ (((Below.refl g w3).drew.setCell (p := ⟨g, 0, none⟩) (Nat.le_refl _) _).setCell (p := ⟨g, 1, none⟩) (Nat.le_refl _) _)).2.2.1⟩ (fun hHeld => ?_)
  clear hK K
  refine pure_ (i := 16) (N := some 76) (v := ?_) (a' := ?_) #[tT,tT,tT,tT,tT,tT,tT,tT,tT,tT,tT,tT,tT,tT,tT,tT,tT,fF] rfl rfl (by kernel_rfl) (fun _ _ _ h => h) (Or.inl ⟨by rfl, ?_⟩) ?_ ?_
  rotate_left; · intro w'; go_simp; with_reducible rfl
  rotate_left; · simp only [Act.put, q_a, q_0, q_s, i64_w, i32_w]; rfl
  refine one_ (i := 17) (N := none) #[tT,tT,tT,tT,tT,tT,tT,tT,tT,tT,tT,tT,tT,tT,tT,tT,tT,tT] rfl rfl (by kernel_rfl) (by decide) (fun K hK => ?_)
  refine skip_ (w1 := ?_) (by rfl) rfl ?_ ?_
  rotate_left
  · go_simp
    rfl
  refine hK.out _ _ ⟨(HCZ.out _ ((((Below.refl g w3).drew.setCell (p := ⟨g, 0, none⟩) (Nat.le_refl _) _).setCell (p := ⟨g, 1, none⟩) (Nat.le_refl _) _).setCell (p := ⟨g, 12, none⟩) (Nat.le_refl _) _)).1, (HCZ.out _ ((((Below.refl g w3).drew.setCell (p := ⟨g, 0, none⟩) (Nat.le_refl _) _).setCell (p := ⟨g, 1, none⟩) (Nat.le_refl _) _).setCell (p := ⟨g, 12, none⟩) (Nat.le_refl _) _)).2.1, (HCZ.out _ ((((Below.refl g w3).drew.setCell (p := ⟨g, 0, none⟩) (Nat.le_refl _) _).setCell (p := ⟨g, 1, none⟩) (Nat.le_refl _) _).setCell (p := ⟨g, 12, none⟩) (Nat.le_refl _) _)).2.2.1⟩ (fun hHeld => ?_)
  clear hK K
  refine done_ (by kernel_rfl) ?_
  clear r0 r1 r12 s0 s1 s12 hHeld
  generalize hW : World.drew _ = w4
  have hr : Row w4 g ((((List.replicate n 0).set 0 (IntKind.u8.wrap p0)).set 1 (IntKind.u8.wrap p1)).set 12 (IntKind.u8.wrap p2)) := by
    rw [← hW]
    exact row_set (row_set (row_set HR3.out 0 (IntKind.u8.wrap p0)) 1 (IntKind.u8.wrap p1)) 12 (IntKind.u8.wrap p2)
  simp only [IntKind.wrap_u8] at hr
  obtain ⟨L4, el⟩ : ∃ L, (((List.replicate n 0).set 0 (p0 % 256)).set 1 (p1 % 256)).set 12 (p2 % 256) = L := ⟨_, rfl⟩
  rw [el] at hr
  have EL4 := Aside0.mk el
  clear el
  have HR4 := Aside0.mk hr
  have HX4 := Aside0.mk (show Below g w3 w4 from by
    rw [← hW]
    exact (((((Below.refl g w3).setCell (p := ⟨g, 0, none⟩) (Nat.le_refl _) _).setCell (p := ⟨g, 1, none⟩) (Nat.le_refl _) _).setCell (p := ⟨g, 12, none⟩) (Nat.le_refl _) _)).drew)
  have HZ4 := Aside0.mk ((HX4.out.block w.heap.size HGL.out).trans HZ3.out)
  have HB4 := Aside0.mk (HB3.out.trans (HX4.out.mono HGG.out))
  have HS4 := Aside0.mk (show g ≤ w4.heap.size from Nat.le_of_lt (blk_lt hr))
  have HL4 := Aside0.mk (show L4.length = n from by rw [← EL4.out]; simp)
  have HQ4 := Aside0.mk (show Bytes L4 from by
    rw [← EL4.out]
    refine Bytes.set (Bytes.set (Bytes.set ?_ _ (by omega) (by omega)) _ (by omega) (by omega)) _ (by omega) (by omega)
    intro x hx
    have := List.eq_of_mem_replicate hx
    omega)
  clear hW hr HX4 HCZ HR3 HZ3 HZ2 HB2
  obtain ⟨k0, k1, k2, k3, k4, k5, k6, k7, k8, k9, k10, k11, k12⟩ := c13 HZ4.out
  have PR := Aside0.mk (put_row (w0 := w) (w := w4) 2 2 (wrap64 (wrap64 (24 + (p12.length : Int)) + (p11.length : Int))) (iz := 2) (mz := 2) (HB4.out) HGG.out HR4.out HL4.out (by have := HL4.out; have := HN.out; omega) rfl rfl (by omega) (by have := HL4.out; have := HN.out; omega))
  go_upto_region 17 with (first | (go_at_call 35; (with_reducible refine PR.out.mono ?_); rintro e w5 ⟨rfl, hr, hc⟩; obtain ⟨L5, el⟩ : ∃ L, putL L4 2 2 (wrap64 (wrap64 (24 + (p12.length : Int)) + (p11.length : Int))) = L := ⟨_, rfl⟩; rw [el] at hr; have EL5 := Aside0.mk el; clear el; have HR5 := Aside0.mk hr; have HB5 := Aside0.mk (hc.below HB4.out HGG.out); have HZ5 := Aside0.mk ((hc.block w.heap.size (Nat.lt_of_lt_of_le HGL.out HS4.out) (Nat.ne_of_lt HGL.out)).trans HZ4.out); have HS5 := Aside0.mk (Nat.le_trans HS4.out hc.size); have HL5 := Aside0.mk (show L5.length = n from by rw [← EL5.out, putL_len]; exact HL4.out); have HQ5 := Aside0.mk (show Bytes L5 from by rw [← EL5.out]; exact putL_bytes _ _ _ HQ4.out); clear hr hc; clear k0 k1 k2 k3 k4 k5 k6 k7 k8 k9 k10 k11 k12; obtain ⟨k0, k1, k2, k3, k4, k5, k6, k7, k8, k9, k10, k11, k12⟩ := c13 HZ5.out))
  clear PR
  have PR := Aside0.mk (put_row (w0 := w) (w := w5) 4 4 (p3) (iz := 4) (mz := 4) (HB5.out) HGG.out HR5.out HL5.out (by have := HL5.out; have := HN.out; omega) rfl rfl (by omega) (by have := HL5.out; have := HN.out; omega))
  go_upto_region 18 with (first | (go_at_call 35; (with_reducible refine PR.out.mono ?_); rintro e w6 ⟨rfl, hr, hc⟩; obtain ⟨L6, el⟩ : ∃ L, putL L5 4 4 (p3) = L := ⟨_, rfl⟩; rw [el] at hr; have EL6 := Aside0.mk el; clear el; have HR6 := Aside0.mk hr; have HB6 := Aside0.mk (hc.below HB5.out HGG.out); have HZ6 := Aside0.mk ((hc.block w.heap.size (Nat.lt_of_lt_of_le HGL.out HS5.out) (Nat.ne_of_lt HGL.out)).trans HZ5.out); have HS6 := Aside0.mk (Nat.le_trans HS5.out hc.size); have HL6 := Aside0.mk (show L6.length = n from by rw [← EL6.out, putL_len]; exact HL5.out); have HQ6 := Aside0.mk (show Bytes L6 from by rw [← EL6.out]; exact putL_bytes _ _ _ HQ5.out); clear hr hc; clear k0 k1 k2 k3 k4 k5 k6 k7 k8 k9 k10 k11 k12; obtain ⟨k0, k1, k2, k3, k4, k5, k6, k7, k8, k9, k10, k11, k12⟩ := c13 HZ6.out))
  clear PR
  have PR := Aside0.mk (put_row (w0 := w) (w := w6) 8 4 (p4) (iz := 8) (mz := 4) (HB6.out) HGG.out HR6.out HL6.out (by have := HL6.out; have := HN.out; omega) rfl rfl (by omega) (by have := HL6.out; have := HN.out; omega))
  go_upto_region 19 with (first | (go_at_call 35; (with_reducible refine PR.out.mono ?_); rintro e w7 ⟨rfl, hr, hc⟩; obtain ⟨L7, el⟩ : ∃ L, putL L6 8 4 (p4) = L := ⟨_, rfl⟩; rw [el] at hr; have EL7 := Aside0.mk el; clear el; have HR7 := Aside0.mk hr; have HB7 := Aside0.mk (hc.below HB6.out HGG.out); have HZ7 := Aside0.mk ((hc.block w.heap.size (Nat.lt_of_lt_of_le HGL.out HS6.out) (Nat.ne_of_lt HGL.out)).trans HZ6.out); have HS7 := Aside0.mk (Nat.le_trans HS6.out hc.size); have HL7 := Aside0.mk (show L7.length = n from by rw [← EL7.out, putL_len]; exact HL6.out); have HQ7 := Aside0.mk (show Bytes L7 from by rw [← EL7.out]; exact putL_bytes _ _ _ HQ6.out); clear hr hc; clear k0 k1 k2 k3 k4 k5 k6 k7 k8 k9 k10 k11 k12; obtain ⟨k0, k1, k2, k3, k4, k5, k6, k7, k8, k9, k10, k11, k12⟩ := c13 HZ7.out))
  clear PR
  obtain ⟨hcut16, hC16⟩ := cut_to (A := some ⟨g, 0, none⟩) (c := n) (l := L7) 16 (jz := 16) rfl (by have := HN.out; omega) HL7.out (Nat.le_refl _)
  have OF := Aside0.mk (of_calls (c := n) (hC16 w7 (by have h := row_C HR7.out (by have := HL7.out; have := HN.out; omega); rw [HL7.out] at h; exact h)) (by rw [List.length_take, HL7.out]; have := HN.out; omega) (by have := HN.out; omega) (HQ7.out.take 16) (by rw [List.length_take]; omega))
  clear hC16
  have PR := Aside0.mk (fun nd_ => put_row (w0 := w) (w := (w7.drewN nd_)) 14 2 (65535 - fold (pairs (L7.take 16))) (iz := 14) (mz := 2) (bd HB7.out nd_) HGG.out HR7.out HL7.out (by have := HL7.out; have := HN.out; omega) rfl rfl (by omega) (by have := HL7.out; have := HN.out; omega))
  go_upto_region 20 with (first | (go_at_call 35; (with_reducible refine (PR.out _).mono ?_); rintro e w8 ⟨rfl, hr, hc⟩; obtain ⟨L8, el⟩ : ∃ L, putL L7 14 2 (65535 - fold (pairs (L7.take 16))) = L := ⟨_, rfl⟩; rw [el] at hr; have EL8 := Aside0.mk el; clear el; have HR8 := Aside0.mk hr; have HB8 := Aside0.mk (hc.below (bd HB7.out _) HGG.out); have HZ8 := Aside0.mk ((hc.block w.heap.size (Nat.lt_of_lt_of_le HGL.out HS7.out) (Nat.ne_of_lt HGL.out)).trans HZ7.out); have HS8 := Aside0.mk (Nat.le_trans HS7.out hc.size); have HL8 := Aside0.mk (show L8.length = n from by rw [← EL8.out, putL_len]; exact HL7.out); have HQ8 := Aside0.mk (show Bytes L8 from by rw [← EL8.out]; exact putL_bytes _ _ _ HQ7.out); clear hr hc; clear k0 k1 k2 k3 k4 k5 k6 k7 k8 k9 k10 k11 k12; obtain ⟨k0, k1, k2, k3, k4, k5, k6, k7, k8, k9, k10, k11, k12⟩ := c13 HZ8.out) | (go_at_call 26; (with_reducible refine OF.out.mono ?_); rintro e w20 ⟨rfl, ⟨⟨nd, rfl⟩⟩⟩))
  clear PR
  clear OF hcut16
  have PR := Aside0.mk (put_row (w0 := w) (w := w8) 16 2 (p5) (iz := 16) (mz := 2) (HB8.out) HGG.out HR8.out HL8.out (by have := HL8.out; have := HN.out; omega) rfl rfl (by omega) (by have := HL8.out; have := HN.out; omega))
  go_upto_region 22 with (first | (go_at_call 35; (with_reducible refine PR.out.mono ?_); rintro e w9 ⟨rfl, hr, hc⟩; obtain ⟨L9, el⟩ : ∃ L, putL L8 16 2 (p5) = L := ⟨_, rfl⟩; rw [el] at hr; have EL9 := Aside0.mk el; clear el; have HR9 := Aside0.mk hr; have HB9 := Aside0.mk (hc.below HB8.out HGG.out); have HZ9 := Aside0.mk ((hc.block w.heap.size (Nat.lt_of_lt_of_le HGL.out HS8.out) (Nat.ne_of_lt HGL.out)).trans HZ8.out); have HS9 := Aside0.mk (Nat.le_trans HS8.out hc.size); have HL9 := Aside0.mk (show L9.length = n from by rw [← EL9.out, putL_len]; exact HL8.out); have HQ9 := Aside0.mk (show Bytes L9 from by rw [← EL9.out]; exact putL_bytes _ _ _ HQ8.out); clear hr hc; clear k0 k1 k2 k3 k4 k5 k6 k7 k8 k9 k10 k11 k12; obtain ⟨k0, k1, k2, k3, k4, k5, k6, k7, k8, k9, k10, k11, k12⟩ := c13 HZ9.out))
  clear PR
  have PR := Aside0.mk (put_row (w0 := w) (w := w9) 18 2 (p6) (iz := 18) (mz := 2) (HB9.out) HGG.out HR9.out HL9.out (by have := HL9.out; have := HN.out; omega) rfl rfl (by omega) (by have := HL9.out; have := HN.out; omega))
  go_upto_region 23 with (first | (go_at_call 35; (with_reducible refine PR.out.mono ?_); rintro e w10 ⟨rfl, hr, hc⟩; obtain ⟨L10, el⟩ : ∃ L, putL L9 18 2 (p6) = L := ⟨_, rfl⟩; rw [el] at hr; have EL10 := Aside0.mk el; clear el; have HR10 := Aside0.mk hr; have HB10 := Aside0.mk (hc.below HB9.out HGG.out); have HZ10 := Aside0.mk ((hc.block w.heap.size (Nat.lt_of_lt_of_le HGL.out HS9.out) (Nat.ne_of_lt HGL.out)).trans HZ9.out); have HS10 := Aside0.mk (Nat.le_trans HS9.out hc.size); have HL10 := Aside0.mk (show L10.length = n from by rw [← EL10.out, putL_len]; exact HL9.out); have HQ10 := Aside0.mk (show Bytes L10 from by rw [← EL10.out]; exact putL_bytes _ _ _ HQ9.out); clear hr hc; clear k0 k1 k2 k3 k4 k5 k6 k7 k8 k9 k10 k11 k12; obtain ⟨k0, k1, k2, k3, k4, k5, k6, k7, k8, k9, k10, k11, k12⟩ := c13 HZ10.out))
  clear PR
  go_upto_region 24 with fail
  have HCZ := Aside0.mk (fun W (h : Below g w10 W) => c13 ((h.block w.heap.size HGL.out).trans HZ10.out))
  have r20 := row_cells HR10.out 20 (by have := HN.out; rw [HL10.out]; omega)
  have r21 := row_cells HR10.out 21 (by have := HN.out; rw [HL10.out]; omega)
  have s20 := row_frozen HR10.out 20
  have s21 := row_frozen HR10.out 21
  have hn20 : (20 : Int) < (n : Int) := by have := HN.out; omega
  have hn21 : (21 : Int) < (n : Int) := by have := HN.out; omega
  clear k0 k1 k2 k3 k4 k5 k6 k7 k8 k9 k10 k11 k12
  refine start_ (n := 13) (S := fun w' => w'.cell? ⟨w.heap.size, 7, none⟩ = some (.int .i64 p7) ∧ w'.cell? ⟨w.heap.size, 11, none⟩ = some (.slice A1 p11.length c1)) (ds := []) #[fF,fF,fF,fF,fF,fF,fF,fF,fF,fF,fF,fF,fF] (by kernel_rfl) rfl rfl ⟨(HCZ.out _ (Below.refl g w10).drew).2.2.2.2.2.2.2.1, (HCZ.out _ (Below.refl g w10).drew).2.2.2.2.2.2.2.2.2.2.2.1⟩ (fun hHeld => ?_)
  refine pure_ (i := 0) (N := some 106) (v := ?_) (a' := ?_) #[tT,fF,fF,fF,fF,fF,fF,fF,fF,fF,fF,fF,fF] rfl rfl (by kernel_rfl) (fun _ _ _ h => h) (Or.inl ⟨by rfl, ?_⟩) ?_ ?_
  rotate_left; · intro w'; go_simp; with_reducible rfl
  rotate_left; · simp only [Act.put, q_a, q_0, q_s, i64_w, i32_w]; rfl
  refine pure_ (i := 1) (N := some 107) (v := ?_) (a' := ?_) #[tT,tT,fF,fF,fF,fF,fF,fF,fF,fF,fF,fF,fF] rfl rfl (by kernel_rfl) (fun _ _ _ h => h) (Or.inl ⟨by rfl, ?_⟩) ?_ ?_
  rotate_left; · intro w'; go_simp; with_reducible rfl
  rotate_left; · simp only [Act.put, q_a, q_0, q_s, i64_w, i32_w]; rfl
  refine pure_ (i := 2) (N := some 108) (v := ?_) (a' := ?_) #[tT,tT,tT,fF,fF,fF,fF,fF,fF,fF,fF,fF,fF] rfl rfl (by kernel_rfl) (fun _ _ _ h => h) (Or.inl ⟨by rfl, ?_⟩) ?_ ?_
  rotate_left; · intro w'; go_simp; with_reducible rfl
  rotate_left; · simp only [Act.put, q_a, q_0, q_s, i64_w, i32_w]; rfl
  refine pure_ (i := 5) (N := some 111) (v := ?_) (a' := ?_) #[tT,tT,tT,fF,fF,tT,fF,fF,fF,fF,fF,fF,fF] rfl rfl (by kernel_rfl) (fun _ _ _ h => h) (Or.inl ⟨by rfl, ?_⟩) ?_ ?_
  rotate_left; · intro w'; go_simp; with_reducible rfl
  rotate_left; · simp only [Act.put, q_a, q_0, q_s, i64_w, i32_w]; rfl
  refine take_ (i := 3) (N := some 109) (v := ?_) (a' := ?_) #[tT,tT,tT,tT,fF,tT,fF,fF,fF,fF,fF,fF,fF] rfl rfl (by kernel_rfl) (fun _ _ _ h => h) (Or.inl ⟨by rfl, ?_⟩) hHeld ?_ ?_
  rotate_left
  · rintro w' ⟨s0, s1⟩
    go_simp
    with_reducible rfl
  rotate_left; · simp only [Act.put, q_a, q_0, q_s, i64_w, i32_w]; rfl
  refine pure_ (i := 4) (N := some 110) (v := ?_) (a' := ?_) #[tT,tT,tT,tT,tT,tT,fF,fF,fF,fF,fF,fF,fF] rfl rfl (by kernel_rfl) (fun _ _ _ h => h) (Or.inl ⟨by rfl, ?_⟩) ?_ ?_
  rotate_left; · intro w'; go_simp; with_reducible rfl
  rotate_left; · simp only [Act.put, q_a, q_0, q_s, i64_w, i32_w]; rfl
  refine pure_ (i := 9) (N := some 115) (v := ?_) (a' := ?_) #[tT,tT,tT,tT,tT,tT,fF,fF,fF,tT,fF,fF,fF] rfl rfl (by kernel_rfl) (fun _ _ _ h => h) (Or.inl ⟨by rfl, ?_⟩) ?_ ?_
  rotate_left; · intro w'; go_simp; with_reducible rfl
  rotate_left; · simp only [Act.put, q_a, q_0, q_s, i64_w, i32_w]; rfl
  refine take_ (i := 6) (N := some 112) (v := ?_) (a' := ?_) #[tT,tT,tT,tT,tT,tT,tT,fF,fF,tT,fF,fF,fF] rfl rfl (by kernel_rfl) (fun _ _ _ h => h) (Or.inl ⟨by rfl, ?_⟩) hHeld ?_ ?_
  rotate_left
  · rintro w' ⟨s0, s1⟩
    go_simp
    with_reducible rfl
  rotate_left; · simp only [Act.put, q_a, q_0, q_s, i64_w, i32_w]; rfl
  refine pure_ (i := 7) (N := some 113) (v := ?_) (a' := ?_) #[tT,tT,tT,tT,tT,tT,tT,tT,fF,tT,fF,fF,fF] rfl rfl (by kernel_rfl) (fun _ _ _ h => h) (Or.inl ⟨by rfl, ?_⟩) ?_ ?_
  rotate_left; · intro w'; go_simp; with_reducible rfl
  rotate_left; · simp only [Act.put, q_a, q_0, q_s, i64_w, i32_w]; rfl
  refine pure_ (i := 8) (N := some 114) (v := ?_) (a' := ?_) #[tT,tT,tT,tT,tT,tT,tT,tT,tT,tT,fF,fF,fF] rfl rfl (by kernel_rfl) (fun _ _ _ h => h) (Or.inl ⟨by rfl, ?_⟩) ?_ ?_
  rotate_left; · intro w'; go_simp; with_reducible rfl
  rotate_left; · simp only [Act.put, q_a, q_0, q_s, i64_w, i32_w]; rfl
  refine one_ (i := 10) (N := none) #[tT,tT,tT,tT,tT,tT,tT,tT,tT,tT,tT,fF,fF] rfl rfl (by kernel_rfl) (by decide) (fun K hK => ?_)
  refine skip_ (w1 := ?_) (by rfl) rfl ?_ ?_
  rotate_left
  · go_simp
    rfl
  refine hK.out _ _ ⟨(HCZ.out _ ((Below.refl g w10).drew.setCell (p := ⟨g, 20, none⟩) (Nat.le_refl _) _)).2.2.2.2.2.2.2.1, (HCZ.out _ ((Below.refl g w10).drew.setCell (p := ⟨g, 20, none⟩) (Nat.le_refl _) _)).2.2.2.2.2.2.2.2.2.2.2.1⟩ (fun hHeld => ?_)
  clear hK K
  refine pure_ (i := 11) (N := some 116) (v := ?_) (a' := ?_) #[tT,tT,tT,tT,tT,tT,tT,tT,tT,tT,tT,tT,fF] rfl rfl (by kernel_rfl) (fun _ _ _ h => h) (Or.inl ⟨by rfl, ?_⟩) ?_ ?_
  rotate_left; · intro w'; go_simp; with_reducible rfl
  rotate_left; · simp only [Act.put, q_a, q_0, q_s, i64_w, i32_w]; rfl
  refine one_ (i := 12) (N := none) #[tT,tT,tT,tT,tT,tT,tT,tT,tT,tT,tT,tT,tT] rfl rfl (by kernel_rfl) (by decide) (fun K hK => ?_)
  refine skip_ (w1 := ?_) (by rfl) rfl ?_ ?_
  rotate_left
  · go_simp
    rfl
  refine hK.out _ _ ⟨(HCZ.out _ (((Below.refl g w10).drew.setCell (p := ⟨g, 20, none⟩) (Nat.le_refl _) _).setCell (p := ⟨g, 21, none⟩) (Nat.le_refl _) _)).2.2.2.2.2.2.2.1, (HCZ.out _ (((Below.refl g w10).drew.setCell (p := ⟨g, 20, none⟩) (Nat.le_refl _) _).setCell (p := ⟨g, 21, none⟩) (Nat.le_refl _) _)).2.2.2.2.2.2.2.2.2.2.2.1⟩ (fun hHeld => ?_)
  clear hK K
  refine done_ (by kernel_rfl) ?_
  clear r20 r21 s20 s21 hHeld HCZ
  generalize hW : World.drew _ = w11
  have hr : Row w11 g ((L10.set 20 (IntKind.u8.wrap p7)).set 21 (IntKind.u8.wrap (p11.length : Int))) := by
    rw [← hW]
    exact row_set (row_set HR10.out 20 (IntKind.u8.wrap p7)) 21 (IntKind.u8.wrap (p11.length : Int))
  try simp only [IntKind.wrap_u8] at hr
  obtain ⟨L11, el⟩ : ∃ L, (L10.set 20 (p7 % 256)).set 21 ((p11.length : Int) % 256) = L := ⟨_, rfl⟩
  rw [el] at hr
  have EL11 := Aside0.mk el
  clear el
  have HR11 := Aside0.mk hr
  have HX := Aside0.mk (show Below g w10 w11 from by
    rw [← hW]
    exact ((((Below.refl g w10).setCell (p := ⟨g, 20, none⟩) (Nat.le_refl _) _).setCell (p := ⟨g, 21, none⟩) (Nat.le_refl _) _)).drew)
  have HZ11 := Aside0.mk ((HX.out.block w.heap.size HGL.out).trans HZ10.out)
  have HB11 := Aside0.mk (HB10.out.trans (HX.out.mono HGG.out))
  have HS11 := Aside0.mk (Nat.le_trans HS10.out HX.out.size)
  have HL11 := Aside0.mk (show L11.length = n from by rw [← EL11.out]; simp only [List.length_set]; exact HL10.out)
  have HQ11 := Aside0.mk (show Bytes L11 from by
    rw [← EL11.out]
    exact Bytes.set (Bytes.set HQ10.out _ (by omega) (by omega)) _ (by omega) (by omega))
  clear hW hr HX
  obtain ⟨k0, k1, k2, k3, k4, k5, k6, k7, k8, k9, k10, k11, k12⟩ := c13 HZ11.out
  go_upto_region 25 with fail
  obtain ⟨A3, hA3, hcut3⟩ := cut_row g n (24) (iz := 24) (rfl) (by have := HN.out; omega)
  have HA3 := Aside0.mk hA3
  clear hA3
  have HCZ := Aside0.mk (fun W (h : Below g w11 W) => c13 ((h.block w.heap.size HGL.out).trans HZ11.out))
  clear k0 k1 k2 k3 k4 k5 k6 k7 k8 k9 k10 k11 k12
  refine start_ (n := 5) (S := fun w' => w'.cell? ⟨w.heap.size, 11, none⟩ = some (.slice A1 p11.length c1)) (ds := []) #[fF,fF,fF,fF,fF] (by kernel_rfl) rfl rfl ((HCZ.out _ (Below.refl g w11).drew).2.2.2.2.2.2.2.2.2.2.2.1) (fun hHeld => ?_)
  refine pure_ (i := 0) (N := some 117) (v := ?_) (a' := ?_) #[tT,fF,fF,fF,fF] rfl rfl (by kernel_rfl) (fun _ _ _ h => h) (Or.inl ⟨by rfl, ?_⟩) ?_ ?_
  rotate_left; · intro w'; go_simp; with_reducible rfl
  rotate_left; · simp only [Act.put, q_a, q_0, q_s, i64_w, i32_w]; rfl
  refine pure_ (i := 1) (N := some 118) (v := ?_) (a' := ?_) #[tT,tT,fF,fF,fF] rfl rfl (by kernel_rfl) (fun _ _ _ h => h) (Or.inl ⟨by rfl, ?_⟩) ?_ ?_
  rotate_left; · intro w'; go_simp; with_reducible rfl
  rotate_left; · simp only [Act.put, q_a, q_0, q_s, i64_w, i32_w]; rfl
  refine pure_ (i := 2) (N := some 119) (v := ?_) (a' := ?_) #[tT,tT,tT,fF,fF] rfl rfl (by kernel_rfl) (fun _ _ _ h => h) (Or.inl ⟨by rfl, ?_⟩) ?_ ?_
  rotate_left; · intro w'; go_simp; with_reducible rfl
  rotate_left; · simp only [Act.put, q_a, q_0, q_s, i64_w, i32_w]; rfl
  refine take_ (i := 3) (N := some 120) (v := ?_) (a' := ?_) #[tT,tT,tT,tT,fF] rfl rfl (by kernel_rfl) (fun _ _ _ h => h) (Or.inl ⟨by rfl, ?_⟩) hHeld ?_ ?_
  rotate_left
  · intro w' s0
    go_simp
    with_reducible rfl
  rotate_left; · simp only [Act.put, q_a, q_0, q_s, i64_w, i32_w]; rfl
  refine one_ (i := 4) (N := some 121) #[tT,tT,tT,tT,tT] rfl rfl (by kernel_rfl) (by decide) (fun K hK => ?_)
  refine copy_row rfl (.tmp 118) (.tmp 120) rfl (g := g) (i := 24) (n := n) (m := n - (24)) (c := c1) (A' := A3) (A := A1) (L := L11) (cs := p11) rfl rfl HA3.out rfl HR11.out HL11.out (Kd.C_drew (Kd.C_below HA.out HB11.out)) (by have := HN.out; have := HLIM.out; omega) ?_
  intro w12 hr hb
  refine hK.out _ _ ((HCZ.out _ ((Below.refl g w11).drew.trans hb)).2.2.2.2.2.2.2.2.2.2.2.1) (fun hHeld => ?_)
  clear hK K
  refine norm_ (a' := ?_) ?_ ?_
  rotate_left
  · show Act.put _ (some 121) _ = _
    simp only [Act.put, q_a, q_0, q_s, i64_w, i32_w]
    rfl
  refine done_ (by kernel_rfl) ?_
  obtain ⟨L12, el⟩ : ∃ L, splice L11 (24) p11 = L := ⟨_, rfl⟩
  rw [el] at hr
  have EL12 := Aside0.mk el
  have HR12 := Aside0.mk hr
  have HX := Aside0.mk ((Below.refl g w11).drew.trans hb)
  have HZ12 := Aside0.mk ((HX.out.block w.heap.size HGL.out).trans HZ11.out)
  have HB12 := Aside0.mk (HB11.out.trans (HX.out.mono HGG.out))
  have HS12 := Aside0.mk (Nat.le_trans HS11.out HX.out.size)
  have HL12 := Aside0.mk (show L12.length = n from by rw [← el, splice_len (by rw [HL11.out]; have := HN.out; have := HLIM.out; omega)]; exact HL11.out)
  have HQ12 := Aside0.mk (show Bytes L12 from by rw [← el]; exact splice_bytes HQ11.out HYA.out)
  clear hHeld hr hb el HX HCZ HA3 hcut3
  obtain ⟨k0, k1, k2, k3, k4, k5, k6, k7, k8, k9, k10, k11, k12⟩ := c13 HZ12.out
  go_upto_region 30 with fail
  obtain ⟨A3, hA3, hcut3⟩ := cut_row g n (24 + p11.length) (iz := wrap64 (wrap64 (wrap64 (24 + (p12.length : Int)) + (p11.length : Int)) - (p12.length : Int))) (by rw [HNN.out, wid (by have := HN.out; omega) (by have := HN.out; omega)]; have := HN.out; omega) (by have := HN.out; omega)
  have HA3 := Aside0.mk hA3
  clear hA3
  have HCZ := Aside0.mk (fun W (h : Below g w12 W) => c13 ((h.block w.heap.size HGL.out).trans HZ12.out))
  clear k0 k1 k2 k3 k4 k5 k6 k7 k8 k9 k10 k11 k12
  refine start_ (n := 10) (S := fun w' => w'.cell? ⟨w.heap.size, 12, none⟩ = some (.slice A2 p12.length c2)) (ds := []) #[fF,fF,fF,fF,fF,fF,fF,fF,fF,fF] (by kernel_rfl) rfl rfl ((HCZ.out _ (Below.refl g w12).drew).2.2.2.2.2.2.2.2.2.2.2.2) (fun hHeld => ?_)
  refine pure_ (i := 0) (N := some 135) (v := ?_) (a' := ?_) #[tT,fF,fF,fF,fF,fF,fF,fF,fF,fF] rfl rfl (by kernel_rfl) (fun _ _ _ h => h) (Or.inl ⟨by rfl, ?_⟩) ?_ ?_
  rotate_left; · intro w'; go_simp; with_reducible rfl
  rotate_left; · simp only [Act.put, q_a, q_0, q_s, i64_w, i32_w]; rfl
  refine pure_ (i := 1) (N := some 136) (v := ?_) (a' := ?_) #[tT,tT,fF,fF,fF,fF,fF,fF,fF,fF] rfl rfl (by kernel_rfl) (fun _ _ _ h => h) (Or.inl ⟨by rfl, ?_⟩) ?_ ?_
  rotate_left; · intro w'; go_simp; with_reducible rfl
  rotate_left; · simp only [Act.put, q_a, q_0, q_s, i64_w, i32_w]; rfl
  refine pure_ (i := 2) (N := some 137) (v := ?_) (a' := ?_) #[tT,tT,tT,fF,fF,fF,fF,fF,fF,fF] rfl rfl (by kernel_rfl) (fun _ _ _ h => h) (Or.inl ⟨by rfl, ?_⟩) ?_ ?_
  rotate_left; · intro w'; go_simp; with_reducible rfl
  rotate_left; · simp only [Act.put, q_a, q_0, q_s, i64_w, i32_w]; rfl
  refine pure_ (i := 7) (N := some 142) (v := ?_) (a' := ?_) #[tT,tT,tT,fF,fF,fF,fF,tT,fF,fF] rfl rfl (by kernel_rfl) (fun _ _ _ h => h) (Or.inl ⟨by rfl, ?_⟩) ?_ ?_
  rotate_left; · intro w'; go_simp; with_reducible rfl
  rotate_left; · simp only [Act.put, q_a, q_0, q_s, i64_w, i32_w]; rfl
  refine take_ (i := 3) (N := some 138) (v := ?_) (a' := ?_) #[tT,tT,tT,tT,fF,fF,fF,tT,fF,fF] rfl rfl (by kernel_rfl) (fun _ _ _ h => h) (Or.inl ⟨by rfl, ?_⟩) hHeld ?_ ?_
  rotate_left
  · intro w' s0
    go_simp
    with_reducible rfl
  rotate_left; · simp only [Act.put, q_a, q_0, q_s, i64_w, i32_w]; rfl
  refine pure_ (i := 4) (N := some 139) (v := ?_) (a' := ?_) #[tT,tT,tT,tT,tT,fF,fF,tT,fF,fF] rfl rfl (by kernel_rfl) (fun _ _ _ h => h) (Or.inl ⟨by rfl, ?_⟩) ?_ ?_
  rotate_left; · intro w'; go_simp; with_reducible rfl
  rotate_left; · simp only [Act.put, q_a, q_0, q_s, i64_w, i32_w]; rfl
  refine pure_ (i := 5) (N := some 140) (v := ?_) (a' := ?_) #[tT,tT,tT,tT,tT,tT,fF,tT,fF,fF] rfl rfl (by kernel_rfl) (fun _ _ _ h => h) (Or.inl ⟨by rfl, ?_⟩) ?_ ?_
  rotate_left; · intro w'; go_simp; with_reducible rfl
  rotate_left; · simp only [Act.put, q_a, q_0, q_s, i64_w, i32_w]; rfl
  refine pure_ (i := 6) (N := some 141) (v := ?_) (a' := ?_) #[tT,tT,tT,tT,tT,tT,tT,tT,fF,fF] rfl rfl (by kernel_rfl) (fun _ _ _ h => h) (Or.inl ⟨by rfl, ?_⟩) ?_ ?_
  rotate_left; · intro w'; go_simp; with_reducible rfl
  rotate_left; · simp only [Act.put, q_a, q_0, q_s, i64_w, i32_w]; rfl
  refine take_ (i := 8) (N := some 143) (v := ?_) (a' := ?_) #[tT,tT,tT,tT,tT,tT,tT,tT,tT,fF] rfl rfl (by kernel_rfl) (fun _ _ _ h => h) (Or.inl ⟨by rfl, ?_⟩) hHeld ?_ ?_
  rotate_left
  · intro w' s0
    go_simp
    with_reducible rfl
  rotate_left; · simp only [Act.put, q_a, q_0, q_s, i64_w, i32_w]; rfl
  refine one_ (i := 9) (N := some 144) #[tT,tT,tT,tT,tT,tT,tT,tT,tT,tT] rfl rfl (by kernel_rfl) (by decide) (fun K hK => ?_)
  refine copy_row rfl (.tmp 141) (.tmp 143) rfl (g := g) (i := 24 + p11.length) (n := n) (m := n - (24 + p11.length)) (c := c2) (A' := A3) (A := A2) (L := L12) (cs := p12) rfl rfl HA3.out rfl HR12.out HL12.out (Kd.C_drew (Kd.C_below HD.out HB12.out)) (by have := HN.out; have := HLIM.out; omega) ?_
  intro w13 hr hb
  refine hK.out _ _ ((HCZ.out _ ((Below.refl g w12).drew.trans hb)).2.2.2.2.2.2.2.2.2.2.2.2) (fun hHeld => ?_)
  clear hK K
  refine norm_ (a' := ?_) ?_ ?_
  rotate_left
  · show Act.put _ (some 144) _ = _
    simp only [Act.put, q_a, q_0, q_s, i64_w, i32_w]
    rfl
  refine done_ (by kernel_rfl) ?_
  obtain ⟨L13, el⟩ : ∃ L, splice L12 (24 + p11.length) p12 = L := ⟨_, rfl⟩
  rw [el] at hr
  have EL13 := Aside0.mk el
  have HR13 := Aside0.mk hr
  have HX := Aside0.mk ((Below.refl g w12).drew.trans hb)
  have HZ13 := Aside0.mk ((HX.out.block w.heap.size HGL.out).trans HZ12.out)
  have HB13 := Aside0.mk (HB12.out.trans (HX.out.mono HGG.out))
  have HS13 := Aside0.mk (Nat.le_trans HS12.out HX.out.size)
  have HL13 := Aside0.mk (show L13.length = n from by rw [← el, splice_len (by rw [HL12.out]; have := HN.out; have := HLIM.out; omega)]; exact HL12.out)
  have HQ13 := Aside0.mk (show Bytes L13 from by rw [← el]; exact splice_bytes HQ12.out HYD.out)
  clear hHeld hr hb el HX HCZ HA3 hcut3
  obtain ⟨k0, k1, k2, k3, k4, k5, k6, k7, k8, k9, k10, k11, k12⟩ := c13 HZ13.out
  have SF := Aside0.mk (summed_calls (c := n) (by have h := row_C HR13.out (by have := HL13.out; have := HN.out; omega); rw [HL13.out] at h; exact h) HL13.out (Nat.le_refl _) (by have := HL13.out; have := HN.out; omega) (by have := HL13.out; have := HN.out; omega) HQ13.out)
  have HSO := Aside0.mk (summed_ok HQ13.out (by have := HL13.out; have := HN.out; omega) (by have := HL13.out; have := HN.out; omega))
  go_upto_region 32 with (first
    | (go_at_call 36; (with_reducible refine SF.out.mono ?_); rintro e w14 ⟨v, rfl, ho, hb⟩; obtain ⟨Av, cv, ev⟩ := Kd.R_slice ho; subst ev; have HR14 := Aside0.mk (show Row w14 g L13 from (hb.block g (blk_lt HR13.out)).trans HR13.out); have HZ14 := Aside0.mk ((hb.block w.heap.size (blk_lt HZ13.out)).trans HZ13.out); have HB14 := Aside0.mk (below_step HB13.out hb); have HS14 := Aside0.mk (Nat.le_trans HS13.out hb.size); have HRD := Aside0.mk (Kd.R_reads' ho); have OF := Aside0.mk (of_calls HRD.out.2.2 rfl HRD.out.2.1 HSO.out.2 (by have := HSO.out.1; omega)); clear ho hb; clear k0 k1 k2 k3 k4 k5 k6 k7 k8 k9 k10 k11 k12; obtain ⟨k0, k1, k2, k3, k4, k5, k6, k7, k8, k9, k10, k11, k12⟩ := c13 HZ14.out)
    | (go_at_call 26; (with_reducible refine OF.out.mono ?_); rintro e w30 ⟨rfl, ⟨⟨nd2, rfl⟩⟩⟩))
  have HR14' := Aside0.mk (show Row (w14.drewN nd2) g L13 from HR14.out)
  have HZ14' := Aside0.mk (show (w14.drewN nd2).heap[w.heap.size]? = _ from HZ14.out)
  have HB14' := Aside0.mk (bd HB14.out nd2)
  have HS14' := Aside0.mk (show g ≤ (w14.drewN nd2).heap.size from HS14.out)
  generalize w14.drewN nd2 = w40 at HR14' HZ14' HB14' HS14' ⊢
  clear SF OF HRD HR14 HZ14 HB14 HS14 k0 k1 k2 k3 k4 k5 k6 k7 k8 k9 k10 k11 k12
  obtain ⟨k0, k1, k2, k3, k4, k5, k6, k7, k8, k9, k10, k11, k12⟩ := c13 HZ14'.out
  have G39 := Aside0.mk (fun W => wire_sumPlace.calls p0 22 W (by unfold wire_sumPlace.f; have := HK.out; rw [if_neg (by omega)]))
  have PR := Aside0.mk (fun nd_ => put_row (w0 := w) (w := w40.drewN nd_) 22 2 (65535 - fold (pairs (summedL L13))) (iz := 22) (mz := 2) (bd HB14'.out nd_) HGG.out HR14'.out HL13.out (by have := HL13.out; have := HN.out; omega) rfl rfl (by omega) (by have := HL13.out; have := HN.out; have := HLIM.out; have := HK.out; omega))
  go_wp2_with (first
    | (go_at_call 37; (with_reducible refine (G39.out _).mono ?_); rintro e w41 ⟨rfl, ⟨⟨nd3, rfl⟩⟩⟩)
    | (go_at_call 35; (with_reducible refine (PR.out _).mono ?_); rintro e w42 ⟨rfl, hr, hc⟩; have HRX := Aside0.mk hr; have HBX := Aside0.mk (hc.below (bd HB14'.out _) HGG.out); clear hr hc))
  go_ret2
  refine ⟨_, rfl, ?_, HBX.out⟩
  have hl := RB_of_row HRX.out HGG.out (by rw [putL_len, HL13.out]; have := HN.out; omega)
  rw [putL_len, HL13.out] at hl
  have e : putL L13 22 2 (65535 - fold (pairs (summedL L13))) = buildL ⟨p0, p1, p2, p3, p4, p5, p6, p7, p8, p9, p10, p11, p12⟩ := by
    rw [show (65535 - fold (pairs (summedL L13)) : Int) = sumL p0 p9 L13 from by unfold sumL; rw [if_neg (fun h => by have := HK.out; omega), if_neg (fun h => by have := HK.out; omega)]]
    have hb : L13 = bodyL ⟨p0, p1, p2, p3, p4, p5, p6, p7, p8, p9, p10, p11, p12⟩ := by
      rw [← EL13.out, ← EL12.out, ← EL11.out, ← EL10.out, ← EL9.out, ← EL8.out, ← EL7.out, ← EL6.out, ← EL5.out, ← EL4.out]
      unfold bodyL h4L h3L
      simp only [HNL.out, HNN.out]
      rw [if_neg (show ¬ p0 = 3 by have := HK.out; omega), if_neg (show ¬ p0 = 2 by have := HK.out; omega)]
      rw [show n - p12.length = 24 + p11.length from by have := HN.out; omega]
    rw [hb]
    unfold buildL
    simp only []
    rw [if_neg (show ¬ p0 = 3 by have := HK.out; omega)]
  rw [← e]
  exact hl
/-- What stands behind Build's call. -/
def Built (w : World) (p : Pk) (e : Ending) (w' : World) : Prop :=
  ∃ v, e = .returned (.tuple #[v, .int .i64 (buildE p)]) ∧ RB w.heap.size w' v (if buildE p = 0 then buildL p else []) ∧ Below w.heap.size w w'
theorem built_err {w w' : World} {p : Pk} {e : Ending} {x : Int} (hx : buildE p = x) (h0 : x ≠ 0) (h : e = .returned (.tuple #[.slice none 0 0, .int .i64 x]) ∧ Below w.heap.size w w') : Built w p e w' :=
  ⟨.slice none 0 0, by rw [hx]; exact h.1, by rw [if_neg (by omega)]; exact Kd.R_nil _ _ _ _ _, h.2⟩
theorem built_ok {w w' : World} {p : Pk} {e : Ending} (hx : buildE p = 0) (h : ∃ v, e = .returned (.tuple #[v, .int .i64 0]) ∧ RB w.heap.size w' v (buildL p) ∧ Below w.heap.size w w') : Built w p e w' := by
  obtain ⟨v, h1, h2, h3⟩ := h
  exact ⟨v, by rw [hx]; exact h1, by rw [if_pos hx]; exact h2, h3⟩
theorem build_calls {p : Pk} {A1 A2 : Option Addr} {c1 c2 : Nat} {w : World} (ha : Kd.C (Kd.int .u8) w A1 p.opts.length p.opts) (hca : p.opts.length ≤ c1) (hd : Kd.C (Kd.int .u8) w A2 p.data.length p.data) (hcd : p.data.length ≤ c2) (hba : Bytes p.opts) (hbd : Bytes p.data)
    (hla : p.opts.length ≤ 100000) (hld : p.data.length ≤ 100000) : Calls Try.prog 11 #[pkV p (.slice A1 p.opts.length c1) (.slice A2 p.data.length c2)] w (Built w p) := by
  obtain ⟨p0, p1, p2, p3, p4, p5, p6, p7, p8, p9, p10, p11, p12⟩ := p
  dsimp only at ha hca hd hcd hba hbd hla hld
  have hE : buildE ⟨p0, p1, p2, p3, p4, p5, p6, p7, p8, p9, p10, p11, p12⟩ = (if ¬ (1 ≤ p0 ∧ p0 ≤ 3) then 2 else if okR ⟨p0, p1, p2, p3, p4, p5, p6, p7, p8, p9, p10, p11, p12⟩ = false then 14 else if p0 = 1 ∧ 40 < p11.length then 5
    else if (p0 = 3 ∧ p12.length < 24) ∨ 1500 < (if p0 = 1 then 24 + p12.length + p11.length else if p0 = 3 then 20 + p12.length else 24 + p12.length) then 3 else 0) := rfl
  by_cases hk : 1 ≤ p0 ∧ p0 ≤ 3
  · rw [if_neg (fun h => h hk)] at hE
    by_cases hok : okR ⟨p0, p1, p2, p3, p4, p5, p6, p7, p8, p9, p10, p11, p12⟩ = false
    · rw [if_pos hok] at hE
      exact (build_erange ha hca hd hcd hba hbd hla hld hk hok).mono fun _ _ h => built_err hE (by decide) h
    · rw [if_neg hok] at hE
      have hok' : okR ⟨p0, p1, p2, p3, p4, p5, p6, p7, p8, p9, p10, p11, p12⟩ = true := by simpa using hok
      have hkk : p0 = 1 ∨ p0 = 2 ∨ p0 = 3 := by omega
      rcases hkk with h | h | h
      · by_cases h5 : 40 < p11.length
        · rw [if_pos ⟨h, h5⟩] at hE
          exact (build_eopt ha hca hd hcd hba hbd hla hld h hok' h5).mono fun _ _ h => built_err hE (by decide) h
        · rw [if_neg (fun x => h5 x.2), if_pos h] at hE
          by_cases hl : 1500 < 24 + p12.length + p11.length
          · rw [if_pos (Or.inr hl)] at hE
            exact (build_elens ha hca hd hcd hba hbd hla hld h hok' hl (by omega)).mono fun _ _ h => built_err hE (by decide) h
          · rw [if_neg (by omega)] at hE
            exact (build_stream ha hca hd hcd hba hbd h hE).mono fun _ _ h => built_ok hE h
      · rw [if_neg (by omega), if_neg (show ¬ p0 = 1 by omega), if_neg (show ¬ p0 = 3 by omega)] at hE
        by_cases hl : 1500 < 24 + p12.length
        · rw [if_pos (Or.inr hl)] at hE
          exact (build_eleng ha hca hd hcd hba hbd hla hld h hok' hl).mono fun _ _ h => built_err hE (by decide) h
        · rw [if_neg (by omega)] at hE
          exact (build_gram ha hca hd hcd hba hbd h hE).mono fun _ _ h => built_ok hE h
      · rw [if_neg (by omega), if_neg (show ¬ p0 = 1 by omega), if_pos h] at hE
        by_cases h24 : p12.length < 24
        · rw [if_pos (Or.inl ⟨h, h24⟩)] at hE
          exact (build_elen3 ha hca hd hcd hba hbd hla hld h hok' h24).mono fun _ _ h => built_err hE (by decide) h
        · by_cases hl : 1500 < 20 + p12.length
          · rw [if_pos (Or.inr hl)] at hE
            exact (build_elenf ha hca hd hcd hba hbd hla hld h hok' hl (by omega)).mono fun _ _ h => built_err hE (by decide) h
          · rw [if_neg (by omega)] at hE
            exact (build_fault ha hca hd hcd hba hbd h hE).mono fun _ _ h => built_ok hE h
  · rw [if_pos hk] at hE
    exact (build_ekind ha hca hd hcd hba hbd hla hld hk).mono fun _ _ h => built_err hE (by decide) h
theorem rb_form {b : Nat} {w : World} {v : Value} {l : List Int} (h : RB b w v l) (h0 : 0 < l.length) : ∃ g c, v = .slice (some ⟨g, 0, none⟩) l.length c ∧ b ≤ g := by
  obtain ⟨g, c, e, hb, _⟩ := Kd.R_form h h0
  exact ⟨g, c, e, hb⟩
theorem rb_cell {b g n c : Nat} {w : World} {l : List Int} (h : RB b w (.slice (some ⟨g, 0, none⟩) n c) l) (i : Nat) (hi : i < n) : w.cell? ⟨g, i, none⟩ = some (.int .u8 (l.getD i 0)) := by
  obtain ⟨ad, e, hc⟩ := cells_of (w := w) (A := some ⟨g, 0, none⟩) (n := n) (l := l) (by have := (Kd.R_reads' h); rw [this.1]; exact this.2.2) (by omega)
  injection e with e
  subst e
  have := hc i hi
  rw [Addr.add_mid] at this
  simpa using this
theorem rb_frozen {b g n c : Nat} {w : World} {l : List Int} (h : RB b w (.slice (some ⟨g, 0, none⟩) n c) l) (i : Nat) : w.frozen? ⟨g, i, none⟩ = false := by
  have ho := Kd.own_of_R (enc := Value.int .u8) (h1 := fun _ => rfl) h
  rcases ho.2 with ⟨hv, _⟩ | ⟨g', cap, cur, hv, _, hh, _⟩
  · cases hv
  · injection hv with ha _ _
    injection ha with ha
    injection ha with ha
    subst ha
    simp [World.frozen?, hh]
theorem rb_set {b g n c : Nat} {w : World} {l : List Int} (h : RB b w (.slice (some ⟨g, 0, none⟩) n c) l) (i : Nat) (x : Int) : RB b (w.setCell ⟨g, i, none⟩ (.int .u8 x)) (.slice (some ⟨g, 0, none⟩) n c) (l.set i x) := by
  have := Kd.R_putn h (i : Int) x
  simp only [Int.toNat_natCast] at this
  exact this
def h3R (n : Nat) (kind life piece frm dst : Int) : List Int :=
  putL (putL (putL ((((List.replicate 16 0).set 0 (kind % 256)).set 1 (life % 256)).set 12 (piece % 256)) 2 2 n) 4 4 frm) 8 4 dst
def h4R (n : Nat) (kind life piece frm dst : Int) : List Int := putL (h3R n kind life piece frm dst) 14 2 (65535 - fold (pairs (h3R n kind life piece frm dst)))
def rbodyL (p : Pk) : List Int :=
  let h4 := h4R (nL p) p.kind p.life p.piece p.frm p.dst
  (if p.kind = 3 then h4 ++ [p.code % 256, 0, 0, 0]
    else putL (putL (if p.kind = 2 then putL (h4 ++ List.replicate 8 0) 20 2 p.label else ((h4 ++ List.replicate 8 0 ++ p.opts).set 20 (p.flags % 256)).set 21 ((p.opts.length : Int) % 256)) 16 2 p.fp) 18 2 p.tp) ++ p.data
def rbuildL (p : Pk) : List Int := putL (rbodyL p) (if p.kind = 3 then 18 else 22) 2 (sumL p.kind p.bare (rbodyL p))
theorem putL_app (i : Nat) : ∀ (m : Nat) (A B : List Int) (v : Int), i + m ≤ A.length → putL (A ++ B) i m v = putL A i m v ++ B
  | 0, _, _, _, _ => rfl
  | m + 1, A, B, v, h => by
    rw [putL, putL, List.set_append_left _ _ (by omega)]
    exact putL_app i m _ _ _ (by rw [List.length_set]; omega)
theorem h3L_app (n : Nat) (h : 16 ≤ n) (a b c d e : Int) : h3L n a b c d e = h3R n a b c d e ++ List.replicate (n - 16) 0 := by
  unfold h3L h3R
  have e0 : List.replicate n (0 : Int) = List.replicate 16 0 ++ List.replicate (n - 16) 0 := by rw [List.replicate_append_replicate]; congr 1; omega
  rw [e0, List.set_append_left _ _ (by simp), List.set_append_left _ _ (by simp), List.set_append_left _ _ (by simp), putL_app _ _ _ _ _ (by simp), putL_app _ _ _ _ _ (by rw [putL_len]; simp), putL_app _ _ _ _ _ (by rw [putL_len, putL_len]; simp)]
theorem h3R_len (n : Nat) (a b c d e : Int) : (h3R n a b c d e).length = 16 := by unfold h3R; rw [putL_len, putL_len, putL_len]; simp
theorem h4R_len (n : Nat) (a b c d e : Int) : (h4R n a b c d e).length = 16 := by unfold h4R; rw [putL_len, h3R_len]
theorem h4L_app (n : Nat) (h : 16 ≤ n) (a b c d e : Int) : h4L n a b c d e = h4R n a b c d e ++ List.replicate (n - 16) 0 := by
  unfold h4L h4R
  rw [h3L_app n h, List.take_left' (h3R_len ..), putL_app _ _ _ _ _ (by rw [h3R_len]; decide)]
theorem splice_end {A Z : List Int} {cs : List Int} {o : Nat} (ho : A.length = o) (hz : Z.length = cs.length) : splice (A ++ Z) o cs = A ++ cs := by
  unfold splice
  rw [List.take_left' ho, List.drop_of_length_le (by rw [List.length_append]; omega), List.append_nil]
theorem putL_set (i : Nat) (a : Nat) (x : Int) : ∀ (m : Nat) (l : List Int) (v : Int), (a < i ∨ i + m ≤ a) → putL (l.set a x) i m v = (putL l i m v).set a x
  | 0, _, _, _ => rfl
  | m + 1, l, v, h => by
    rw [putL, putL, List.set_comm _ _ (show a ≠ i + m by omega)]
    exact putL_set i a x m _ _ (by omega)
theorem putL_comm (i j k : Nat) (u : Int) : ∀ (m : Nat) (l : List Int) (v : Int), (i + m ≤ j ∨ j + k ≤ i) → putL (putL l i m v) j k u = putL (putL l j k u) i m v
  | 0, _, _, _ => rfl
  | m + 1, l, v, h => by
    rw [putL, putL, putL_comm i j k u m _ _ (by omega), putL_set j _ _ k _ _ (by omega)]
theorem body_eq {p : Pk} (hk : 1 ≤ p.kind ∧ p.kind ≤ 3) : rbodyL p = bodyL p := by
  obtain ⟨p0, p1, p2, p3, p4, p5, p6, p7, p8, p9, p10, p11, p12⟩ := p
  dsimp only at hk
  unfold rbodyL bodyL
  dsimp only
  have hkk : p0 = 1 ∨ p0 = 2 ∨ p0 = 3 := by omega
  rcases hkk with rfl | rfl | rfl
  · have hn : nL ⟨1, p1, p2, p3, p4, p5, p6, p7, p8, p9, p10, p11, p12⟩ = 24 + p12.length + p11.length := rfl
    rw [hn, h4L_app _ (by omega), if_neg (by decide), if_neg (by decide), if_neg (by decide), if_neg (by decide)]
    have hH := h4R_len (24 + p12.length + p11.length) 1 p1 p2 p3 p4
    generalize h4R (24 + p12.length + p11.length) 1 p1 p2 p3 p4 = H at hH ⊢
    obtain ⟨X, hX⟩ : ∃ X, H ++ List.replicate 8 (0 : Int) = X := ⟨_, rfl⟩
    have hXl : X.length = 24 := by rw [← hX]; simp [hH]
    have e1 : H ++ List.replicate (24 + p12.length + p11.length - 16) (0 : Int) = X ++ (List.replicate p11.length 0 ++ List.replicate p12.length 0) := by
      rw [← hX, List.append_assoc, List.replicate_append_replicate, List.replicate_append_replicate]; congr 2; omega
    rw [e1, hX, show 24 + p12.length + p11.length - p12.length = 24 + p11.length by omega]
    obtain ⟨Y, hY⟩ : ∃ Y, ((putL (putL X 16 2 p5) 18 2 p6).set 20 (p7 % 256)).set 21 ((p11.length : Int) % 256) = Y := ⟨_, rfl⟩
    have hYl : Y.length = 24 := by rw [← hY, List.length_set, List.length_set, putL_len, putL_len, hXl]
    have r : putL (putL (((X ++ p11).set 20 (p7 % 256)).set 21 ((p11.length : Int) % 256)) 16 2 p5) 18 2 p6 = Y ++ p11 := by
      rw [List.set_append_left _ _ (by omega), List.set_append_left _ _ (by rw [List.length_set]; omega), putL_app _ _ _ _ _ (by rw [List.length_set, List.length_set]; omega), putL_app _ _ _ _ _ (by rw [putL_len, List.length_set, List.length_set]; omega),
        putL_set _ _ _ _ _ _ (by omega), putL_set _ _ _ _ _ _ (by omega), putL_set _ _ _ _ _ _ (by omega), putL_set _ _ _ _ _ _ (by omega), hY]
    have q : ((putL (putL (X ++ (List.replicate p11.length 0 ++ List.replicate p12.length 0)) 16 2 p5) 18 2 p6).set 20 (p7 % 256)).set 21 ((p11.length : Int) % 256) = Y ++ (List.replicate p11.length 0 ++ List.replicate p12.length 0) := by
      rw [putL_app _ _ _ _ _ (by omega), putL_app _ _ _ _ _ (by rw [putL_len]; omega), List.set_append_left _ _ (by rw [putL_len, putL_len]; omega), List.set_append_left _ _ (by rw [List.length_set, putL_len, putL_len]; omega), hY]
    rw [r, q]
    have s1 : splice (Y ++ (List.replicate p11.length 0 ++ List.replicate p12.length 0)) 24 p11 = (Y ++ p11) ++ List.replicate p12.length 0 := by
      unfold splice
      rw [List.take_left' hYl, show 24 + p11.length = Y.length + p11.length by omega, ← List.drop_drop, List.drop_left, List.drop_left' (by simp), List.append_assoc]
    rw [s1, splice_end (by rw [List.length_append]; omega) (by simp)]
  · have hn : nL ⟨2, p1, p2, p3, p4, p5, p6, p7, p8, p9, p10, p11, p12⟩ = 24 + p12.length := rfl
    rw [hn, h4L_app _ (by omega), if_neg (by decide), if_pos rfl, if_neg (by decide), if_pos rfl]
    have hH := h4R_len (24 + p12.length) 2 p1 p2 p3 p4
    generalize h4R (24 + p12.length) 2 p1 p2 p3 p4 = H at hH ⊢
    obtain ⟨X, hX⟩ : ∃ X, H ++ List.replicate 8 (0 : Int) = X := ⟨_, rfl⟩
    have hXl : X.length = 24 := by rw [← hX]; simp [hH]
    have e1 : H ++ List.replicate (24 + p12.length - 16) (0 : Int) = X ++ List.replicate p12.length 0 := by
      rw [← hX, List.append_assoc, List.replicate_append_replicate]; congr 2; omega
    rw [e1, hX, show 24 + p12.length - p12.length = 24 by omega, putL_app _ _ _ _ _ (by omega), putL_app _ _ _ _ _ (by rw [putL_len]; omega), putL_app _ _ _ _ _ (by rw [putL_len, putL_len]; omega), splice_end (by rw [putL_len, putL_len, putL_len]; exact hXl) (by simp)]
    rw [putL_comm 20 16 2 _ _ _ _ (by omega), putL_comm 20 18 2 _ _ _ _ (by omega)]
  · have hn : nL ⟨3, p1, p2, p3, p4, p5, p6, p7, p8, p9, p10, p11, p12⟩ = 20 + p12.length := rfl
    rw [hn, h4L_app _ (by omega), if_pos rfl, if_pos rfl]
    have hH := h4R_len (20 + p12.length) 3 p1 p2 p3 p4
    generalize h4R (20 + p12.length) 3 p1 p2 p3 p4 = H at hH ⊢
    have e1 : (H ++ List.replicate (20 + p12.length - 16) (0 : Int)).set 16 (p10 % 256) = (H ++ [p10 % 256, 0, 0, 0]) ++ List.replicate p12.length 0 := by
      rw [List.set_append_right _ _ (by omega), hH, show 20 + p12.length - 16 = 4 + p12.length by omega, ← List.replicate_append_replicate]
      simp [List.replicate]
    rw [e1, show 20 + p12.length - p12.length = 20 by omega, splice_end (by simp [hH]) (by simp)]
theorem rbuildL_eq {p : Pk} (hk : 1 ≤ p.kind ∧ p.kind ≤ 3) : rbuildL p = buildL p := by
  unfold rbuildL buildL
  rw [body_eq hk]
end Go.Proofs.Ytgkmbefamcnifaa.WB
