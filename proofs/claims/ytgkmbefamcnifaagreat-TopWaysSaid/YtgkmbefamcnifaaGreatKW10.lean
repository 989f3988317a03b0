/- Lemmas and contracts that the row YtgkmbefamcnifaaGreatLawTopWays goes by (part 10; joined by pack.py out of this session's texts, and of words that the kit's print lays). -/
import Derived.Test.YtgkmbefamcnifaaGreatKW9
import Derived.Laws.ResultCell
set_option maxRecDepth 100000
set_option maxHeartbeats 8000000
namespace Go.Proofs.YtgkmbefamcnifaaGreat.WB
set_option linter.unusedVariables false
set_option linter.unusedSimpArgs false
open Go.RowKit Go.Proofs.YtgkmbefamcnifaaGreat.Hp Go.Proofs.YtgkmbefamcnifaaGreat.SB Go.Proofs.YtgkmbefamcnifaaGreatW.PrintWords Go.Proofs.YtgkmbefamcnifaaGreatW.PrintLast Go.Proofs.YtgkmbefamcnifaaGreatW.PrintMore
abbrev zero13 : Array Value := #[.int .i64 0, .int .i64 0, .int .i64 0, .int .i64 0, .int .i64 0, .int .i64 0, .int .i64 0, .int .i64 0, .int .i64 0, .bool false, .int .i64 0, .slice none 0 0, .slice none 0 0]
theorem parsed_err {w w' : World} {l : List Int} {x : Int} (h : parseL l = (zeroP, x)) (hb : Below w.heap.size w w') : Parsed w l (.returned (.tuple #[.agg zero13, .int .i64 x])) w' :=
  ⟨.slice none 0 0, .slice none 0 0, by rw [h]; rfl, by rw [h]; exact Kd.R_nil _ _ _ _ _, by rw [h]; exact Kd.R_nil _ _ _ _ _, by intro k hk; simp [Value.ownBlock] at hk, hb⟩
theorem parse_err {A : Option Addr} {c : Nat} {l : List Int} {w : World} (hr : Kd.C (Kd.int .u8) w A l.length l) (hc : l.length ≤ c) (hl : l.length ≤ 100000) (hb : Bytes l) (he : headE l ≠ 0) :
    Calls Tryz.prog 38 #[.slice A l.length c] w (Parsed w l) := by
  have HR := am_ hr
  have HC := am_ hc
  have HL := am_ hl
  have HY := am_ hb
  have HBW := fun o => Kd.C_alloc hr o
  have hbe : (headE l == 0) = false := beq_eq_false_iff_ne.mpr he
  have hbn : (headE l != 0) = true := bne_iff_ne.mpr he
  have HE := am_ (show parseL l = (zeroP, headE l) from if_pos he)
  clear he hr hc hl hb
  go_enter Tryz.func38, Tryz.ntmps38
  go_wp2_with (first
    | (go_at_call 73; refine (head_calls (HBW _) rfl HC.out HY.out HL.out).mono ?_; rintro e w1 ⟨rfl, ⟨⟨nd, rfl⟩⟩⟩))
  (try simp only [Exit.inBlock, Exit.then])
  refine bodyPost_ret (v := .tuple #[.agg zero13, .int .i64 (headE l)]) ?_ rfl (parsed_err HE.out ?_)
  · rw [results_cell_tmp rfl]
    go_simp
  · have h1 : Below w.heap.size w ((w.alloc (.cells zero13 37)).drewN nd) := bd ((Below.refl _ w).alloc (Nat.le_refl _) _) _
    exact lay13_below h1 (Nat.le_refl _) _ _ _ _ _ _ _ _ _ _ _ _ _
theorem parse_fault {c : Nat} {A : Option Addr} {l : List Int} {w : World} (hr : Kd.C (Kd.int .u8) w A l.length l) (hc : l.length ≤ c) (hl : l.length ≤ 100000) (hb : Bytes l) (he : headE l = 0) (h24 : 44 ≤ l.length) (hk : l.getD 0 0 = 3) :
    Calls Tryz.prog 38 #[.slice A l.length c] w (Parsed w l) := by
  have HR := am_ hr
  have HC := am_ hc
  have HL := am_ hl
  have HY := am_ hb
  have HBW := fun o => Kd.C_alloc hr o
  have hbe : (headE l == 0) = true := beq_iff_eq.mpr he
  have hbn : (headE l != 0) = false := by rw [he]; rfl
  have HE := am_ he
  have HKD := am_ hk
  have H24 := am_ (show 24 ≤ l.length by omega)
  have HLE := am_ h24
  obtain ⟨ad, rfl, hcell⟩ := cells_of hr (by omega)
  have c0 := hcell 0 (by omega)
  rw [Addr.add_zero'] at c0
  have b0 := getD_byte hb 0
  obtain ⟨x0, e0⟩ : ∃ x, l.getD 0 0 = x := ⟨_, rfl⟩
  rw [e0] at c0 b0
  have w0 : wrap64 x0 = x0 := wid (by omega) (by omega)
  have i0 : (0 : Int) < (l.length : Int) := by omega
  have c1 : w.cell? ⟨ad.block, ad.off + 1, none⟩ = _ := hcell 1 (by omega)
  have b1 := getD_byte hb 1
  obtain ⟨x1, e1⟩ : ∃ x, l.getD 1 0 = x := ⟨_, rfl⟩
  rw [e1] at c1 b1
  have w1 : wrap64 x1 = x1 := wid (by omega) (by omega)
  have i1 : (1 : Int) < (l.length : Int) := by omega
  have c12 : w.cell? ⟨ad.block, ad.off + 12, none⟩ = _ := hcell 12 (by omega)
  have b12 := getD_byte hb 12
  obtain ⟨x12, e12⟩ : ∃ x, l.getD 12 0 = x := ⟨_, rfl⟩
  rw [e12] at c12 b12
  have w12 : wrap64 x12 = x12 := wid (by omega) (by omega)
  have i12 : (12 : Int) < (l.length : Int) := by omega
  have c16 : w.cell? ⟨ad.block, ad.off + 16, none⟩ = _ := hcell 16 (by omega)
  have b16 := getD_byte hb 16
  obtain ⟨x16, e16⟩ : ∃ x, l.getD 16 0 = x := ⟨_, rfl⟩
  rw [e16] at c16 b16
  have w16 : wrap64 x16 = x16 := wid (by omega) (by omega)
  have i16 : (16 : Int) < (l.length : Int) := by omega
  have c17 : w.cell? ⟨ad.block, ad.off + 17, none⟩ = _ := hcell 17 (by omega)
  have b17 := getD_byte hb 17
  obtain ⟨x17, e17⟩ : ∃ x, l.getD 17 0 = x := ⟨_, rfl⟩
  rw [e17] at c17 b17
  have w17 : wrap64 x17 = x17 := wid (by omega) (by omega)
  have i17 : (17 : Int) < (l.length : Int) := by omega
  have i0n : 0 < l.length := by omega
  have HC0 := am_ (show ∀ W, Below w.heap.size w W → W.cell? ad = some (.int .u8 x0) from fun W h => (h.cell (World.block_lt_of_cell? w _ c0)).trans c0)
  have HC1 := am_ (show ∀ W, Below w.heap.size w W → W.cell? ⟨ad.block, ad.off + 1, none⟩ = some (.int .u8 x1) from fun W h => (h.cell (World.block_lt_of_cell? w _ c1)).trans c1)
  have HC12 := am_ (show ∀ W, Below w.heap.size w W → W.cell? ⟨ad.block, ad.off + 12, none⟩ = some (.int .u8 x12) from fun W h => (h.cell (World.block_lt_of_cell? w _ c12)).trans c12)
  have HC16 := am_ (show ∀ W, Below w.heap.size w W → W.cell? ⟨ad.block, ad.off + 16, none⟩ = some (.int .u8 x16) from fun W h => (h.cell (World.block_lt_of_cell? w _ c16)).trans c16)
  have HC17 := am_ (show ∀ W, Below w.heap.size w W → W.cell? ⟨ad.block, ad.off + 17, none⟩ = some (.int .u8 x17) from fun W h => (h.cell (World.block_lt_of_cell? w _ c17)).trans c17)
  have EE := am_ (And.intro e0 (And.intro e1 (And.intro e12 (And.intro e16 (And.intro e17 trivial)))))
  clear hcell c0 c1 c12 c16 c17 e0 e1 e12 e16 e17
  rw [EE.out.1] at hk
  have q3 : (x0 == 3) = true := by rw [hk]; rfl
  have q2 : (x0 == 2) = false := by rw [hk]; rfl
  clear he hr hc hl hb h24 hk
  go_enter Tryz.func38, Tryz.ntmps38
  go_upto_region 4 with (first
    | (go_at_call 73; refine (head_calls (HBW _) rfl HC.out HY.out HL.out).mono ?_; rintro e w1 ⟨rfl, ⟨⟨nd, rfl⟩⟩⟩))
  have HBR := am_ (bd ((Below.refl w.heap.size w).alloc (Nat.le_refl _) (.cells zero13 37)) nd)
  have HK1 := am_ (show (((w.alloc (.cells zero13 37)).drewN nd).heap[w.heap.size]? = some (.cells zero13 37 (0, 0))) from new_blk w _)
  have HR1 := am_ (Kd.C_drewN (HBW (.cells zero13 37)) nd)
  have HG1 := am_ (show w.heap.size ≤ ((w.alloc (.cells zero13 37)).drewN nd).heap.size from HBR.out.size)
  have HG2 := am_ (show w.heap.size < ((w.alloc (.cells zero13 37)).drewN nd).heap.size from blk_lt HK1.out)
  change Code.wp _ _ _ _ ((w.alloc (.cells zero13 37)).drewN nd)
  generalize ((w.alloc (.cells zero13 37)).drewN nd) = W1 at HBR HK1 HR1 HG1 HG2 ⊢
  have HBS := am_ (Below.refl W1.heap.size W1)
  clear HBW nd
  refine start_ (n := 19) (S := fun w' => w'.cell? ad = some (.int .u8 x0) ∧ w'.cell? ⟨ad.block, ad.off + 1, none⟩ = some (.int .u8 x1) ∧ w'.cell? ⟨ad.block, ad.off + 12, none⟩ = some (.int .u8 x12)) (ds := []) #[fF,fF,fF,fF,fF,fF,fF,fF,fF,fF,fF,fF,fF,fF,fF,fF,fF,fF,fF] (by kernel_rfl) rfl rfl ⟨(HC0.out _ (by repeat (first | (with_reducible first | exact HBR.out | apply below_alloc | apply pw_below_drewN | apply below_drew1) | exact HBR.out))), (HC1.out _ (by repeat (first | (with_reducible first | exact HBR.out | apply below_alloc | apply pw_below_drewN | apply below_drew1) | exact HBR.out))), (HC12.out _ (by repeat (first | (with_reducible first | exact HBR.out | apply below_alloc | apply pw_below_drewN | apply below_drew1) | exact HBR.out)))⟩ (fun hHeld => ?_)
  refine p_ 0 13 ?_
  refine p_ 1 14 ?_
  refine p_ 4 17 ?_
  refine p_ 5 18 ?_
  refine p_ 8 21 ?_
  refine p_ 9 22 ?_
  refine p_ 12 25 ?_
  refine p_ 14 27 ?_
  refine t_ 2 15 hHeld ?_
  refine p_ 3 16 ?_
  refine t_ 6 19 hHeld ?_
  refine p_ 7 20 ?_
  refine t_ 10 23 hHeld ?_
  refine p_ 11 24 ?_
  refine join_ (σ := Unit) 1 #[tT,tT,tT,tT,tT,tT,tT,tT,tT,tT,tT,tT,tT,tT,tT,tT,tT,tT,fF] (fun _ => [(26, .int .i64 (numL l 4 4)), (28, .int .i64 (numL l 8 4)), (29, .agg #[.int .i64 x0, .int .i64 x1, .int .i64 x12, .int .i64 (numL l 4 4), .int .i64 (numL l 8 4), .int .i64 0, .int .i64 0, .int .i64 0, .int .i64 0, .bool false, .int .i64 0, .slice none 0 0, .slice none 0 0]), (5, .pointer (some ⟨W1.heap.size, 0, none⟩))]) (fun _ w' => w'.heap[W1.heap.size]? = some (.cells zero13 37 (0, 0)) ∧ w'.heap[w.heap.size]? = some (.cells zero13 37 (0, 0)) ∧ Below w.heap.size w w') ?_ ?_
  rotate_left
  · intro hCont
    refine two_ (i := 13) (j := 17) (Ni := some 26) (Nj := some 5) #[tT,tT,tT,tT,tT,tT,tT,tT,tT,tT,tT,tT,tT,tT,tT,fF,fF,fF,fF] #[tT,tT,tT,tT,tT,tT,tT,tT,tT,tT,tT,tT,tT,fF,tT,fF,fF,tT,fF] rfl rfl rfl rfl (by kernel_rfl) (by decide) (by decide) (fun K hK => ?_) (fun K hK => ?_)
    · skip
      refine g_ Tryz.func74 #[.slice (some ad) l.length c, .int .i64 4, .int .i64 4] ?_
      with_reducible refine (get_calls (l := l) 4 4 (iz := 4) (mz := 4) (by repeat (first | exact HR1.out | (with_reducible refine Kd.C_alloc ?_ _) | (with_reducible refine Kd.C_drewN ?_ _) | (with_reducible refine Kd.C_drew ?_))) rfl HC.out HY.out HL.out rfl rfl (by omega) (by have := H24.out; omega)).mono ?_
      rintro e w3 ⟨rfl, ⟨⟨nq, rfl⟩⟩⟩
      refine ⟨_, rfl, ?_⟩
      refine hK.out _ _ ⟨(HC0.out _ (by repeat (first | (with_reducible first | exact HBR.out | apply below_alloc | apply pw_below_drewN | apply below_drew1) | exact HBR.out))), (HC1.out _ (by repeat (first | (with_reducible first | exact HBR.out | apply below_alloc | apply pw_below_drewN | apply below_drew1) | exact HBR.out))), (HC12.out _ (by repeat (first | (with_reducible first | exact HBR.out | apply below_alloc | apply pw_below_drewN | apply below_drew1) | exact HBR.out)))⟩ (fun hHeld => ?_)
      clear hK K
      refine n_ 26 ?_
      refine two_ (i := 15) (j := 17) (Ni := some 28) (Nj := some 5) #[tT,tT,tT,tT,tT,tT,tT,tT,tT,tT,tT,tT,tT,tT,tT,tT,fF,fF,fF] #[tT,tT,tT,tT,tT,tT,tT,tT,tT,tT,tT,tT,tT,tT,tT,fF,fF,tT,fF] rfl rfl rfl rfl (by kernel_rfl) (by decide) (by decide) (fun K hK => ?_) (fun K hK => ?_)
      · skip
        refine g_ Tryz.func74 #[.slice (some ad) l.length c, .int .i64 8, .int .i64 4] ?_
        with_reducible refine (get_calls (l := l) 8 4 (iz := 8) (mz := 4) (by repeat (first | exact HR1.out | (with_reducible refine Kd.C_alloc ?_ _) | (with_reducible refine Kd.C_drewN ?_ _) | (with_reducible refine Kd.C_drew ?_))) rfl HC.out HY.out HL.out rfl rfl (by omega) (by have := H24.out; omega)).mono ?_
        rintro e w3 ⟨rfl, ⟨⟨nq, rfl⟩⟩⟩
        refine ⟨_, rfl, ?_⟩
        refine hK.out _ _ ⟨(HC0.out _ (by repeat (first | (with_reducible first | exact HBR.out | apply below_alloc | apply pw_below_drewN | apply below_drew1) | exact HBR.out))), (HC1.out _ (by repeat (first | (with_reducible first | exact HBR.out | apply below_alloc | apply pw_below_drewN | apply below_drew1) | exact HBR.out))), (HC12.out _ (by repeat (first | (with_reducible first | exact HBR.out | apply below_alloc | apply pw_below_drewN | apply below_drew1) | exact HBR.out)))⟩ (fun hHeld => ?_)
        clear hK K
        refine n_ 28 ?_
        refine p_ 16 29 ?_
        refine o_ 17 (some 5) (fun K hK => ?_)
        refine value_ (w1 := ?_) (v := ?_) (by rfl) rfl ?_ ?_
        rotate_left 2
        · go_simp
          constructor
          · rfl
          · rfl
        refine hK.out _ _ ⟨(HC0.out _ (by repeat (first | (with_reducible first | exact HBR.out | apply below_alloc | apply pw_below_drewN | apply below_drew1) | exact HBR.out))), (HC1.out _ (by repeat (first | (with_reducible first | exact HBR.out | apply below_alloc | apply pw_below_drewN | apply below_drew1) | exact HBR.out))), (HC12.out _ (by repeat (first | (with_reducible first | exact HBR.out | apply below_alloc | apply pw_below_drewN | apply below_drew1) | exact HBR.out)))⟩ (fun hHeld => ?_)
        clear hK K
        refine n_ 5 ?_
        exact norm_ (by simp only [putAll, Act.put, q_a, q_0, q_s]) (hCont () _ ⟨new_blk W1 _, (by refine Eq.trans (Below.block (B := W1.heap.size) (w := W1) ?_ _ HG2.out) HK1.out; repeat (first | (with_reducible first | exact HBS.out | apply below_alloc | apply pw_below_drewN | apply below_drew1) | exact HBS.out)), (by repeat (first | (with_reducible first | exact HBR.out | apply below_alloc | apply pw_below_drewN | apply below_drew1) | exact HBR.out))⟩)
      · skip
        refine value_ (w1 := ?_) (v := ?_) (by rfl) rfl ?_ ?_
        rotate_left 2
        · go_simp
          constructor
          · rfl
          · rfl
        refine hK.out _ _ ⟨(HC0.out _ (by repeat (first | (with_reducible first | exact HBR.out | apply below_alloc | apply pw_below_drewN | apply below_drew1) | exact HBR.out))), (HC1.out _ (by repeat (first | (with_reducible first | exact HBR.out | apply below_alloc | apply pw_below_drewN | apply below_drew1) | exact HBR.out))), (HC12.out _ (by repeat (first | (with_reducible first | exact HBR.out | apply below_alloc | apply pw_below_drewN | apply below_drew1) | exact HBR.out)))⟩ (fun hHeld => ?_)
        clear hK K
        refine n_ 5 ?_
        refine o_ 15 (some 28) (fun K hK => ?_)
        refine g_ Tryz.func74 #[.slice (some ad) l.length c, .int .i64 8, .int .i64 4] ?_
        with_reducible refine (get_calls (l := l) 8 4 (iz := 8) (mz := 4) (by repeat (first | exact HR1.out | (with_reducible refine Kd.C_alloc ?_ _) | (with_reducible refine Kd.C_drewN ?_ _) | (with_reducible refine Kd.C_drew ?_))) rfl HC.out HY.out HL.out rfl rfl (by omega) (by have := H24.out; omega)).mono ?_
        rintro e w3 ⟨rfl, ⟨⟨nq, rfl⟩⟩⟩
        refine ⟨_, rfl, ?_⟩
        refine hK.out _ _ ⟨(HC0.out _ (by repeat (first | (with_reducible first | exact HBR.out | apply below_alloc | apply pw_below_drewN | apply below_drew1) | exact HBR.out))), (HC1.out _ (by repeat (first | (with_reducible first | exact HBR.out | apply below_alloc | apply pw_below_drewN | apply below_drew1) | exact HBR.out))), (HC12.out _ (by repeat (first | (with_reducible first | exact HBR.out | apply below_alloc | apply pw_below_drewN | apply below_drew1) | exact HBR.out)))⟩ (fun hHeld => ?_)
        clear hK K
        refine n_ 28 ?_
        refine p_ 16 29 ?_
        exact norm_ (by simp only [putAll, Act.put, q_a, q_0, q_s]) (hCont () _ ⟨new_blk W1 _, (by refine Eq.trans (Below.block (B := W1.heap.size) (w := W1) ?_ _ HG2.out) HK1.out; repeat (first | (with_reducible first | exact HBS.out | apply below_alloc | apply pw_below_drewN | apply below_drew1) | exact HBS.out)), (by repeat (first | (with_reducible first | exact HBR.out | apply below_alloc | apply pw_below_drewN | apply below_drew1) | exact HBR.out))⟩)
    · skip
      refine value_ (w1 := ?_) (v := ?_) (by rfl) rfl ?_ ?_
      rotate_left 2
      · go_simp
        constructor
        · rfl
        · rfl
      refine hK.out _ _ ⟨(HC0.out _ (by repeat (first | (with_reducible first | exact HBR.out | apply below_alloc | apply pw_below_drewN | apply below_drew1) | exact HBR.out))), (HC1.out _ (by repeat (first | (with_reducible first | exact HBR.out | apply below_alloc | apply pw_below_drewN | apply below_drew1) | exact HBR.out))), (HC12.out _ (by repeat (first | (with_reducible first | exact HBR.out | apply below_alloc | apply pw_below_drewN | apply below_drew1) | exact HBR.out)))⟩ (fun hHeld => ?_)
      clear hK K
      refine n_ 5 ?_
      refine o_ 13 (some 26) (fun K hK => ?_)
      refine g_ Tryz.func74 #[.slice (some ad) l.length c, .int .i64 4, .int .i64 4] ?_
      with_reducible refine (get_calls (l := l) 4 4 (iz := 4) (mz := 4) (by repeat (first | exact HR1.out | (with_reducible refine Kd.C_alloc ?_ _) | (with_reducible refine Kd.C_drewN ?_ _) | (with_reducible refine Kd.C_drew ?_))) rfl HC.out HY.out HL.out rfl rfl (by omega) (by have := H24.out; omega)).mono ?_
      rintro e w3 ⟨rfl, ⟨⟨nq, rfl⟩⟩⟩
      refine ⟨_, rfl, ?_⟩
      refine hK.out _ _ ⟨(HC0.out _ (by repeat (first | (with_reducible first | exact HBR.out | apply below_alloc | apply pw_below_drewN | apply below_drew1) | exact HBR.out))), (HC1.out _ (by repeat (first | (with_reducible first | exact HBR.out | apply below_alloc | apply pw_below_drewN | apply below_drew1) | exact HBR.out))), (HC12.out _ (by repeat (first | (with_reducible first | exact HBR.out | apply below_alloc | apply pw_below_drewN | apply below_drew1) | exact HBR.out)))⟩ (fun hHeld => ?_)
      clear hK K
      refine n_ 26 ?_
      refine o_ 15 (some 28) (fun K hK => ?_)
      refine g_ Tryz.func74 #[.slice (some ad) l.length c, .int .i64 8, .int .i64 4] ?_
      with_reducible refine (get_calls (l := l) 8 4 (iz := 8) (mz := 4) (by repeat (first | exact HR1.out | (with_reducible refine Kd.C_alloc ?_ _) | (with_reducible refine Kd.C_drewN ?_ _) | (with_reducible refine Kd.C_drew ?_))) rfl HC.out HY.out HL.out rfl rfl (by omega) (by have := H24.out; omega)).mono ?_
      rintro e w3 ⟨rfl, ⟨⟨nq, rfl⟩⟩⟩
      refine ⟨_, rfl, ?_⟩
      refine hK.out _ _ ⟨(HC0.out _ (by repeat (first | (with_reducible first | exact HBR.out | apply below_alloc | apply pw_below_drewN | apply below_drew1) | exact HBR.out))), (HC1.out _ (by repeat (first | (with_reducible first | exact HBR.out | apply below_alloc | apply pw_below_drewN | apply below_drew1) | exact HBR.out))), (HC12.out _ (by repeat (first | (with_reducible first | exact HBR.out | apply below_alloc | apply pw_below_drewN | apply below_drew1) | exact HBR.out)))⟩ (fun hHeld => ?_)
      clear hK K
      refine n_ 28 ?_
      refine p_ 16 29 ?_
      exact norm_ (by simp only [putAll, Act.put, q_a, q_0, q_s]) (hCont () _ ⟨new_blk W1 _, (by refine Eq.trans (Below.block (B := W1.heap.size) (w := W1) ?_ _ HG2.out) HK1.out; repeat (first | (with_reducible first | exact HBS.out | apply below_alloc | apply pw_below_drewN | apply below_drew1) | exact HBS.out)), (by repeat (first | (with_reducible first | exact HBR.out | apply below_alloc | apply pw_below_drewN | apply below_drew1) | exact HBR.out))⟩)
  rintro ⟨⟩ w3 ⟨hz3, hy3, hb3⟩
  have hHeld : w3.cell? ad = some (.int .u8 x0) ∧ w3.cell? ⟨ad.block, ad.off + 1, none⟩ = some (.int .u8 x1) ∧ w3.cell? ⟨ad.block, ad.off + 12, none⟩ = some (.int .u8 x12) := ⟨HC0.out _ hb3, HC1.out _ hb3, HC12.out _ hb3⟩
  refine norm_ (a' := ?_) ?_ ?_
  rotate_left; · simp only [putAll, Act.put, q_a, q_0, q_s]; rfl
  refine o_ 18 none (fun K hK => ?_)
  obtain ⟨k0, k1, k2, k3, k4, k5, k6, k7, k8, k9, k10, k11, k12⟩ := c13 hz3
  obtain ⟨z0, z1, z2, z3, z4, z5, z6, z7, z8, z9, z10, z11, z12⟩ := f13 hz3
  refine s_ ?_
  refine hK.out _ _ ⟨(HC0.out _ (lay13_below hb3 HG1.out _ _ _ _ _ _ _ _ _ _ _ _ _)), (HC1.out _ (lay13_below hb3 HG1.out _ _ _ _ _ _ _ _ _ _ _ _ _)), (HC12.out _ (lay13_below hb3 HG1.out _ _ _ _ _ _ _ _ _ _ _ _ _))⟩ (fun hHeld => ?_)
  clear hK K
  refine done_ (by kernel_rfl) ?_
  generalize hW : World.setCell _ _ _ = W4
  have hz4 : W4.heap[W1.heap.size]? = some (.cells #[(.int .i64 x0), (.int .i64 x1), (.int .i64 x12), (.int .i64 (numL l 4 4)), (.int .i64 (numL l 8 4)), (.int .i64 0), (.int .i64 0), (.int .i64 0), (.int .i64 0), (.bool false), (.int .i64 0), (.slice none 0 0), (.slice none 0 0)] 37 (0, 0)) := by rw [← hW]; exact lay13_blk hz3 rfl (.int .i64 x0) (.int .i64 x1) (.int .i64 x12) (.int .i64 (numL l 4 4)) (.int .i64 (numL l 8 4)) (.int .i64 0) (.int .i64 0) (.int .i64 0) (.int .i64 0) (.bool false) (.int .i64 0) (.slice none 0 0) (.slice none 0 0)
  have hy4 : W4.heap[w.heap.size]? = some (.cells zero13 37 (0, 0)) := by rw [← hW]; exact (lay13_far (Nat.ne_of_lt HG2.out) (.int .i64 x0) (.int .i64 x1) (.int .i64 x12) (.int .i64 (numL l 4 4)) (.int .i64 (numL l 8 4)) (.int .i64 0) (.int .i64 0) (.int .i64 0) (.int .i64 0) (.bool false) (.int .i64 0) (.slice none 0 0) (.slice none 0 0)).trans hy3
  have HB4 := am_ (show Below w.heap.size w W4 from by rw [← hW]; exact lay13_below hb3 HG1.out (.int .i64 x0) (.int .i64 x1) (.int .i64 x12) (.int .i64 (numL l 4 4)) (.int .i64 (numL l 8 4)) (.int .i64 0) (.int .i64 0) (.int .i64 0) (.int .i64 0) (.bool false) (.int .i64 0) (.slice none 0 0) (.slice none 0 0))
  have HZ4 := am_ hz4
  have HY4 := am_ hy4
  obtain ⟨g, HGE⟩ : ∃ g, W1.heap.size = g := ⟨_, rfl⟩
  rw [HGE] at HZ4 HG1 HG2 hz4 ⊢
  have HGL := am_ (show g < W4.heap.size from blk_lt hz4)
  clear hHeld hW hz3 hy3 hb3 k0 k1 k2 k3 k4 k5 k6 k7 k8 k9 k10 k11 k12 z0 z1 z2 z3 z4 z5 z6 z7 z8 z9 z10 z11 z12
  obtain ⟨k0, k1, k2, k3, k4, k5, k6, k7, k8, k9, k10, k11, k12⟩ := c13 hz4
  obtain ⟨z0, z1, z2, z3, z4, z5, z6, z7, z8, z9, z10, z11, z12⟩ := f13 hz4
  clear hz4 hy4
  clear HBR HR1 HBS HK1
  have m16 := HC16.out W4 HB4.out
  have m17 := HC17.out W4 HB4.out
  by_cases h17 : x17 = 0
  · have q17 : (x17 == 0) = true := beq_iff_eq.mpr h17
    have q17n : (x17 != 0) = false := by rw [h17]; rfl
    have HPE := am_ (show parseL l = (⟨x0, x1, x12, numL l 4 4, numL l 8 4, 0, 0, 0, 0, false, x16, [], (l.take l.length).drop 20⟩, 0) from by
      unfold parseL
      rw [if_neg (fun h => h HE.out), if_pos HKD.out, if_neg (by rw [EE.out.2.2.2.2.1]; exact fun h => h h17), List.take_length, EE.out.2.1, EE.out.2.2.1, EE.out.2.2.2.1, ← EE.out.1, HKD.out])
    obtain ⟨A3, hcut3, hC3⟩ := cut3 (A := some ad) (c := c) (l := l) 20 l.length (l.length - 20) (iz := 20) (jz := (l.length : Int)) rfl rfl rfl (by have := HLE.out; omega) (Nat.le_refl _) rfl HC.out
    have HC3 := am_ (fun W (h : Below w.heap.size w W) => hC3 W (Kd.C_below HR.out h))
    clear hC3
    go_upto_region 21 with (first
      | (go_at_call 75; refine (clone_calls (HC3.out _ (HB4.out.setCell (p := ⟨g, 10, none⟩) HG1.out _)) (C_len (HC3.out w (Below.refl _ _))) (Nat.le_refl _) (by rw [C_len (HC3.out w (Below.refl _ _))]; have := HL.out; omega)).mono ?_; rintro e w6 ⟨v, rfl, ho, hb6⟩; obtain ⟨Av, cv, ev⟩ := Kd.R_slice ho; rw [C_len (HC3.out w (Below.refl _ _))] at ev; subst ev; have hz5 := set_blk HZ4.out 10 (.int .i64 x16); have hz6 := (hb6.block g (blk_lt hz5)).trans hz5; simp only [List.setIfInBounds_toArray, List.set_cons_zero, List.set_cons_succ] at hz6; have hy6 := (hb6.block w.heap.size (Nat.lt_trans HG2.out (blk_lt hz5))).trans ((Below.heap_setCell W4 ⟨g, 10, none⟩ (.int .i64 x16) w.heap.size (Nat.ne_of_lt HG2.out)).trans HY4.out); have HO := am_ ho; have HLT := am_ (blk_lt hz5); have HB6 := am_ (below_step (HB4.out.setCell (p := ⟨g, 10, none⟩) HG1.out (.int .i64 x16)) hb6); have HZ6 := am_ hz6; have HY6 := am_ hy6; clear ho hb6 hz5 hz6 hy6 k0 k1 k2 k3 k4 k5 k6 k7 k8 k9 k10 k11 k12 z0 z1 z2 z3 z4 z5 z6 z7 z8 z9 z10 z11 z12; obtain ⟨k0, k1, k2, k3, k4, k5, k6, k7, k8, k9, k10, k11, k12⟩ := c13 HZ6.out; obtain ⟨z0, z1, z2, z3, z4, z5, z6, z7, z8, z9, z10, z11, z12⟩ := f13 HZ6.out))
    clear k0 k1 k2 k3 k4 k5 k6 k7 k8 k9 k10 k11 k12 z0 z1 z2 z3 z4 z5 z6 z7 z8 z9 z10 z11 z12 hcut3
    have hz7 := set_blk HZ6.out 12 (.slice Av (l.length - 20) cv)
    simp only [List.setIfInBounds_toArray, List.set_cons_zero, List.set_cons_succ] at hz7
    have hy7 := (Below.heap_setCell w6 ⟨g, 12, none⟩ (.slice Av (l.length - 20) cv) w.heap.size (Nat.ne_of_lt HG2.out)).trans HY6.out
    have HB7 := am_ (HB6.out.setCell (p := ⟨g, 12, none⟩) HG1.out (.slice Av (l.length - 20) cv))
    have HF7 := am_ (show ∀ k, (W4.setCell ⟨g, 10, none⟩ (.int .i64 x16)).heap.size ≤ k → (w6.setCell ⟨g, 12, none⟩ (.slice Av (l.length - 20) cv)).heap[k]? = w6.heap[k]? from fun k hk => Below.heap_setCell w6 ⟨g, 12, none⟩ _ k (show k ≠ g by have := HLT.out; omega))
    generalize w6.setCell ⟨g, 12, none⟩ (.slice Av (l.length - 20) cv) = W7 at hz7 hy7 HB7 HF7 ⊢
    obtain ⟨k0, k1, k2, k3, k4, k5, k6, k7, k8, k9, k10, k11, k12⟩ := c13 hz7
    obtain ⟨y0, y1, y2, y3, y4, y5, y6, y7, y8, y9, y10, y11, y12⟩ := c13 hy7
    obtain ⟨u0, u1, u2, u3, u4, u5, u6, u7, u8, u9, u10, u11, u12⟩ := f13 hy7
    clear hz7 hy7
    go_wp2
    (try simp only [Exit.inBlock, Exit.then])
    refine bodyPost_ret (v := .tuple #[.agg #[.int .i64 x0, .int .i64 x1, .int .i64 x12, .int .i64 (numL l 4 4), .int .i64 (numL l 8 4), .int .i64 0, .int .i64 0, .int .i64 0, .int .i64 0, .bool false, .int .i64 x16, .slice none 0 0, .slice Av (l.length - 20) cv], .int .i64 0]) ?_ rfl (parsed_ok (v1 := .slice none 0 0) (v2 := .slice Av (l.length - 20) cv) HPE.out (Kd.R_nil _ _ _ _ _) (RB_move HO.out (Nat.le_of_lt (Nat.lt_trans HG2.out HLT.out)) ?_) (by intro k hk; simp [Value.ownBlock] at hk) ?_)
    · rw [results_cell_tmp rfl]
      go_simp
    · intro k hk _
      have h1 := HG2.out
      have h2 := HLT.out
      exact (lay13_far (by omega) _ _ _ _ _ _ _ _ _ _ _ _ _).trans (HF7.out k hk)
    · exact lay13_below HB7.out (Nat.le_refl _) _ _ _ _ _ _ _ _ _ _ _ _ _
  · have q17 : (x17 == 0) = false := beq_eq_false_iff_ne.mpr h17
    have q17n : (x17 != 0) = true := bne_iff_ne.mpr h17
    have HPE := am_ (show parseL l = (zeroP, 2) from by unfold parseL; rw [if_neg (fun h => h HE.out), if_pos HKD.out, if_pos (by rw [EE.out.2.2.2.2.1]; exact h17)])
    have hny := HY4.out
    obtain ⟨y0, y1, y2, y3, y4, y5, y6, y7, y8, y9, y10, y11, y12⟩ := c13 hny
    obtain ⟨u0, u1, u2, u3, u4, u5, u6, u7, u8, u9, u10, u11, u12⟩ := f13 hny
    clear hny
    go_wp2
    (try simp only [Exit.inBlock, Exit.then])
    refine bodyPost_ret (v := .tuple #[.agg zero13, .int .i64 2]) ?_ rfl (parsed_err HPE.out ?_)
    · rw [results_cell_tmp rfl]
      go_simp
    · exact lay13_below HB4.out (Nat.le_refl _) _ _ _ _ _ _ _ _ _ _ _ _ _
theorem parse_gram {c : Nat} {A : Option Addr} {l : List Int} {w : World} (hr : Kd.C (Kd.int .u8) w A l.length l) (hc : l.length ≤ c) (hl : l.length ≤ 100000) (hb : Bytes l) (he : headE l = 0) (h24 : 24 ≤ l.length) (hk : l.getD 0 0 = 2) :
    Calls Tryz.prog 38 #[.slice A l.length c] w (Parsed w l) := by
  have HR := am_ hr
  have HC := am_ hc
  have HL := am_ hl
  have HY := am_ hb
  have HBW := fun o => Kd.C_alloc hr o
  have hbe : (headE l == 0) = true := beq_iff_eq.mpr he
  have hbn : (headE l != 0) = false := by rw [he]; rfl
  have HE := am_ he
  have HKD := am_ hk
  have H24 := am_ (show 24 ≤ l.length by omega)
  have HLE := am_ h24
  obtain ⟨ad, rfl, hcell⟩ := cells_of hr (by omega)
  have c0 := hcell 0 (by omega)
  rw [Addr.add_zero'] at c0
  have b0 := getD_byte hb 0
  obtain ⟨x0, e0⟩ : ∃ x, l.getD 0 0 = x := ⟨_, rfl⟩
  rw [e0] at c0 b0
  have w0 : wrap64 x0 = x0 := wid (by omega) (by omega)
  have i0 : (0 : Int) < (l.length : Int) := by omega
  have c1 : w.cell? ⟨ad.block, ad.off + 1, none⟩ = _ := hcell 1 (by omega)
  have b1 := getD_byte hb 1
  obtain ⟨x1, e1⟩ : ∃ x, l.getD 1 0 = x := ⟨_, rfl⟩
  rw [e1] at c1 b1
  have w1 : wrap64 x1 = x1 := wid (by omega) (by omega)
  have i1 : (1 : Int) < (l.length : Int) := by omega
  have c12 : w.cell? ⟨ad.block, ad.off + 12, none⟩ = _ := hcell 12 (by omega)
  have b12 := getD_byte hb 12
  obtain ⟨x12, e12⟩ : ∃ x, l.getD 12 0 = x := ⟨_, rfl⟩
  rw [e12] at c12 b12
  have w12 : wrap64 x12 = x12 := wid (by omega) (by omega)
  have i12 : (12 : Int) < (l.length : Int) := by omega
  have i0n : 0 < l.length := by omega
  have HC0 := am_ (show ∀ W, Below w.heap.size w W → W.cell? ad = some (.int .u8 x0) from fun W h => (h.cell (World.block_lt_of_cell? w _ c0)).trans c0)
  have HC1 := am_ (show ∀ W, Below w.heap.size w W → W.cell? ⟨ad.block, ad.off + 1, none⟩ = some (.int .u8 x1) from fun W h => (h.cell (World.block_lt_of_cell? w _ c1)).trans c1)
  have HC12 := am_ (show ∀ W, Below w.heap.size w W → W.cell? ⟨ad.block, ad.off + 12, none⟩ = some (.int .u8 x12) from fun W h => (h.cell (World.block_lt_of_cell? w _ c12)).trans c12)
  have EE := am_ (And.intro e0 (And.intro e1 (And.intro e12 trivial)))
  clear hcell c0 c1 c12 e0 e1 e12
  rw [EE.out.1] at hk
  have q3 : (x0 == 3) = false := by rw [hk]; rfl
  have q2 : (x0 == 2) = true := by rw [hk]; rfl
  clear he hr hc hl hb h24 hk
  go_enter Tryz.func38, Tryz.ntmps38
  go_upto_region 4 with (first
    | (go_at_call 73; refine (head_calls (HBW _) rfl HC.out HY.out HL.out).mono ?_; rintro e w1 ⟨rfl, ⟨⟨nd, rfl⟩⟩⟩))
  have HBR := am_ (bd ((Below.refl w.heap.size w).alloc (Nat.le_refl _) (.cells zero13 37)) nd)
  have HK1 := am_ (show (((w.alloc (.cells zero13 37)).drewN nd).heap[w.heap.size]? = some (.cells zero13 37 (0, 0))) from new_blk w _)
  have HR1 := am_ (Kd.C_drewN (HBW (.cells zero13 37)) nd)
  have HG1 := am_ (show w.heap.size ≤ ((w.alloc (.cells zero13 37)).drewN nd).heap.size from HBR.out.size)
  have HG2 := am_ (show w.heap.size < ((w.alloc (.cells zero13 37)).drewN nd).heap.size from blk_lt HK1.out)
  change Code.wp _ _ _ _ ((w.alloc (.cells zero13 37)).drewN nd)
  generalize ((w.alloc (.cells zero13 37)).drewN nd) = W1 at HBR HK1 HR1 HG1 HG2 ⊢
  have HBS := am_ (Below.refl W1.heap.size W1)
  clear HBW nd
  refine start_ (n := 19) (S := fun w' => w'.cell? ad = some (.int .u8 x0) ∧ w'.cell? ⟨ad.block, ad.off + 1, none⟩ = some (.int .u8 x1) ∧ w'.cell? ⟨ad.block, ad.off + 12, none⟩ = some (.int .u8 x12)) (ds := []) #[fF,fF,fF,fF,fF,fF,fF,fF,fF,fF,fF,fF,fF,fF,fF,fF,fF,fF,fF] (by kernel_rfl) rfl rfl ⟨(HC0.out _ (by repeat (first | (with_reducible first | exact HBR.out | apply below_alloc | apply pw_below_drewN | apply below_drew1) | exact HBR.out))), (HC1.out _ (by repeat (first | (with_reducible first | exact HBR.out | apply below_alloc | apply pw_below_drewN | apply below_drew1) | exact HBR.out))), (HC12.out _ (by repeat (first | (with_reducible first | exact HBR.out | apply below_alloc | apply pw_below_drewN | apply below_drew1) | exact HBR.out)))⟩ (fun hHeld => ?_)
  refine p_ 0 13 ?_
  refine p_ 1 14 ?_
  refine p_ 4 17 ?_
  refine p_ 5 18 ?_
  refine p_ 8 21 ?_
  refine p_ 9 22 ?_
  refine p_ 12 25 ?_
  refine p_ 14 27 ?_
  refine t_ 2 15 hHeld ?_
  refine p_ 3 16 ?_
  refine t_ 6 19 hHeld ?_
  refine p_ 7 20 ?_
  refine t_ 10 23 hHeld ?_
  refine p_ 11 24 ?_
  refine join_ (σ := Unit) 1 #[tT,tT,tT,tT,tT,tT,tT,tT,tT,tT,tT,tT,tT,tT,tT,tT,tT,tT,fF] (fun _ => [(26, .int .i64 (numL l 4 4)), (28, .int .i64 (numL l 8 4)), (29, .agg #[.int .i64 x0, .int .i64 x1, .int .i64 x12, .int .i64 (numL l 4 4), .int .i64 (numL l 8 4), .int .i64 0, .int .i64 0, .int .i64 0, .int .i64 0, .bool false, .int .i64 0, .slice none 0 0, .slice none 0 0]), (5, .pointer (some ⟨W1.heap.size, 0, none⟩))]) (fun _ w' => w'.heap[W1.heap.size]? = some (.cells zero13 37 (0, 0)) ∧ w'.heap[w.heap.size]? = some (.cells zero13 37 (0, 0)) ∧ Below w.heap.size w w') ?_ ?_
  rotate_left
  · intro hCont
    refine two_ (i := 13) (j := 17) (Ni := some 26) (Nj := some 5) #[tT,tT,tT,tT,tT,tT,tT,tT,tT,tT,tT,tT,tT,tT,tT,fF,fF,fF,fF] #[tT,tT,tT,tT,tT,tT,tT,tT,tT,tT,tT,tT,tT,fF,tT,fF,fF,tT,fF] rfl rfl rfl rfl (by kernel_rfl) (by decide) (by decide) (fun K hK => ?_) (fun K hK => ?_)
    · skip
      refine g_ Tryz.func74 #[.slice (some ad) l.length c, .int .i64 4, .int .i64 4] ?_
      with_reducible refine (get_calls (l := l) 4 4 (iz := 4) (mz := 4) (by repeat (first | exact HR1.out | (with_reducible refine Kd.C_alloc ?_ _) | (with_reducible refine Kd.C_drewN ?_ _) | (with_reducible refine Kd.C_drew ?_))) rfl HC.out HY.out HL.out rfl rfl (by omega) (by have := H24.out; omega)).mono ?_
      rintro e w3 ⟨rfl, ⟨⟨nq, rfl⟩⟩⟩
      refine ⟨_, rfl, ?_⟩
      refine hK.out _ _ ⟨(HC0.out _ (by repeat (first | (with_reducible first | exact HBR.out | apply below_alloc | apply pw_below_drewN | apply below_drew1) | exact HBR.out))), (HC1.out _ (by repeat (first | (with_reducible first | exact HBR.out | apply below_alloc | apply pw_below_drewN | apply below_drew1) | exact HBR.out))), (HC12.out _ (by repeat (first | (with_reducible first | exact HBR.out | apply below_alloc | apply pw_below_drewN | apply below_drew1) | exact HBR.out)))⟩ (fun hHeld => ?_)
      clear hK K
      refine n_ 26 ?_
      refine two_ (i := 15) (j := 17) (Ni := some 28) (Nj := some 5) #[tT,tT,tT,tT,tT,tT,tT,tT,tT,tT,tT,tT,tT,tT,tT,tT,fF,fF,fF] #[tT,tT,tT,tT,tT,tT,tT,tT,tT,tT,tT,tT,tT,tT,tT,fF,fF,tT,fF] rfl rfl rfl rfl (by kernel_rfl) (by decide) (by decide) (fun K hK => ?_) (fun K hK => ?_)
      · skip
        refine g_ Tryz.func74 #[.slice (some ad) l.length c, .int .i64 8, .int .i64 4] ?_
        with_reducible refine (get_calls (l := l) 8 4 (iz := 8) (mz := 4) (by repeat (first | exact HR1.out | (with_reducible refine Kd.C_alloc ?_ _) | (with_reducible refine Kd.C_drewN ?_ _) | (with_reducible refine Kd.C_drew ?_))) rfl HC.out HY.out HL.out rfl rfl (by omega) (by have := H24.out; omega)).mono ?_
        rintro e w3 ⟨rfl, ⟨⟨nq, rfl⟩⟩⟩
        refine ⟨_, rfl, ?_⟩
        refine hK.out _ _ ⟨(HC0.out _ (by repeat (first | (with_reducible first | exact HBR.out | apply below_alloc | apply pw_below_drewN | apply below_drew1) | exact HBR.out))), (HC1.out _ (by repeat (first | (with_reducible first | exact HBR.out | apply below_alloc | apply pw_below_drewN | apply below_drew1) | exact HBR.out))), (HC12.out _ (by repeat (first | (with_reducible first | exact HBR.out | apply below_alloc | apply pw_below_drewN | apply below_drew1) | exact HBR.out)))⟩ (fun hHeld => ?_)
        clear hK K
        refine n_ 28 ?_
        refine p_ 16 29 ?_
        refine o_ 17 (some 5) (fun K hK => ?_)
        refine value_ (w1 := ?_) (v := ?_) (by rfl) rfl ?_ ?_
        rotate_left 2
        · go_simp
          constructor
          · rfl
          · rfl
        refine hK.out _ _ ⟨(HC0.out _ (by repeat (first | (with_reducible first | exact HBR.out | apply below_alloc | apply pw_below_drewN | apply below_drew1) | exact HBR.out))), (HC1.out _ (by repeat (first | (with_reducible first | exact HBR.out | apply below_alloc | apply pw_below_drewN | apply below_drew1) | exact HBR.out))), (HC12.out _ (by repeat (first | (with_reducible first | exact HBR.out | apply below_alloc | apply pw_below_drewN | apply below_drew1) | exact HBR.out)))⟩ (fun hHeld => ?_)
        clear hK K
        refine n_ 5 ?_
        exact norm_ (by simp only [putAll, Act.put, q_a, q_0, q_s]) (hCont () _ ⟨new_blk W1 _, (by refine Eq.trans (Below.block (B := W1.heap.size) (w := W1) ?_ _ HG2.out) HK1.out; repeat (first | (with_reducible first | exact HBS.out | apply below_alloc | apply pw_below_drewN | apply below_drew1) | exact HBS.out)), (by repeat (first | (with_reducible first | exact HBR.out | apply below_alloc | apply pw_below_drewN | apply below_drew1) | exact HBR.out))⟩)
      · skip
        refine value_ (w1 := ?_) (v := ?_) (by rfl) rfl ?_ ?_
        rotate_left 2
        · go_simp
          constructor
          · rfl
          · rfl
        refine hK.out _ _ ⟨(HC0.out _ (by repeat (first | (with_reducible first | exact HBR.out | apply below_alloc | apply pw_below_drewN | apply below_drew1) | exact HBR.out))), (HC1.out _ (by repeat (first | (with_reducible first | exact HBR.out | apply below_alloc | apply pw_below_drewN | apply below_drew1) | exact HBR.out))), (HC12.out _ (by repeat (first | (with_reducible first | exact HBR.out | apply below_alloc | apply pw_below_drewN | apply below_drew1) | exact HBR.out)))⟩ (fun hHeld => ?_)
        clear hK K
        refine n_ 5 ?_
        refine o_ 15 (some 28) (fun K hK => ?_)
        refine g_ Tryz.func74 #[.slice (some ad) l.length c, .int .i64 8, .int .i64 4] ?_
        with_reducible refine (get_calls (l := l) 8 4 (iz := 8) (mz := 4) (by repeat (first | exact HR1.out | (with_reducible refine Kd.C_alloc ?_ _) | (with_reducible refine Kd.C_drewN ?_ _) | (with_reducible refine Kd.C_drew ?_))) rfl HC.out HY.out HL.out rfl rfl (by omega) (by have := H24.out; omega)).mono ?_
        rintro e w3 ⟨rfl, ⟨⟨nq, rfl⟩⟩⟩
        refine ⟨_, rfl, ?_⟩
        refine hK.out _ _ ⟨(HC0.out _ (by repeat (first | (with_reducible first | exact HBR.out | apply below_alloc | apply pw_below_drewN | apply below_drew1) | exact HBR.out))), (HC1.out _ (by repeat (first | (with_reducible first | exact HBR.out | apply below_alloc | apply pw_below_drewN | apply below_drew1) | exact HBR.out))), (HC12.out _ (by repeat (first | (with_reducible first | exact HBR.out | apply below_alloc | apply pw_below_drewN | apply below_drew1) | exact HBR.out)))⟩ (fun hHeld => ?_)
        clear hK K
        refine n_ 28 ?_
        refine p_ 16 29 ?_
        exact norm_ (by simp only [putAll, Act.put, q_a, q_0, q_s]) (hCont () _ ⟨new_blk W1 _, (by refine Eq.trans (Below.block (B := W1.heap.size) (w := W1) ?_ _ HG2.out) HK1.out; repeat (first | (with_reducible first | exact HBS.out | apply below_alloc | apply pw_below_drewN | apply below_drew1) | exact HBS.out)), (by repeat (first | (with_reducible first | exact HBR.out | apply below_alloc | apply pw_below_drewN | apply below_drew1) | exact HBR.out))⟩)
    · skip
      refine value_ (w1 := ?_) (v := ?_) (by rfl) rfl ?_ ?_
      rotate_left 2
      · go_simp
        constructor
        · rfl
        · rfl
      refine hK.out _ _ ⟨(HC0.out _ (by repeat (first | (with_reducible first | exact HBR.out | apply below_alloc | apply pw_below_drewN | apply below_drew1) | exact HBR.out))), (HC1.out _ (by repeat (first | (with_reducible first | exact HBR.out | apply below_alloc | apply pw_below_drewN | apply below_drew1) | exact HBR.out))), (HC12.out _ (by repeat (first | (with_reducible first | exact HBR.out | apply below_alloc | apply pw_below_drewN | apply below_drew1) | exact HBR.out)))⟩ (fun hHeld => ?_)
      clear hK K
      refine n_ 5 ?_
      refine o_ 13 (some 26) (fun K hK => ?_)
      refine g_ Tryz.func74 #[.slice (some ad) l.length c, .int .i64 4, .int .i64 4] ?_
      with_reducible refine (get_calls (l := l) 4 4 (iz := 4) (mz := 4) (by repeat (first | exact HR1.out | (with_reducible refine Kd.C_alloc ?_ _) | (with_reducible refine Kd.C_drewN ?_ _) | (with_reducible refine Kd.C_drew ?_))) rfl HC.out HY.out HL.out rfl rfl (by omega) (by have := H24.out; omega)).mono ?_
      rintro e w3 ⟨rfl, ⟨⟨nq, rfl⟩⟩⟩
      refine ⟨_, rfl, ?_⟩
      refine hK.out _ _ ⟨(HC0.out _ (by repeat (first | (with_reducible first | exact HBR.out | apply below_alloc | apply pw_below_drewN | apply below_drew1) | exact HBR.out))), (HC1.out _ (by repeat (first | (with_reducible first | exact HBR.out | apply below_alloc | apply pw_below_drewN | apply below_drew1) | exact HBR.out))), (HC12.out _ (by repeat (first | (with_reducible first | exact HBR.out | apply below_alloc | apply pw_below_drewN | apply below_drew1) | exact HBR.out)))⟩ (fun hHeld => ?_)
      clear hK K
      refine n_ 26 ?_
      refine o_ 15 (some 28) (fun K hK => ?_)
      refine g_ Tryz.func74 #[.slice (some ad) l.length c, .int .i64 8, .int .i64 4] ?_
      with_reducible refine (get_calls (l := l) 8 4 (iz := 8) (mz := 4) (by repeat (first | exact HR1.out | (with_reducible refine Kd.C_alloc ?_ _) | (with_reducible refine Kd.C_drewN ?_ _) | (with_reducible refine Kd.C_drew ?_))) rfl HC.out HY.out HL.out rfl rfl (by omega) (by have := H24.out; omega)).mono ?_
      rintro e w3 ⟨rfl, ⟨⟨nq, rfl⟩⟩⟩
      refine ⟨_, rfl, ?_⟩
      refine hK.out _ _ ⟨(HC0.out _ (by repeat (first | (with_reducible first | exact HBR.out | apply below_alloc | apply pw_below_drewN | apply below_drew1) | exact HBR.out))), (HC1.out _ (by repeat (first | (with_reducible first | exact HBR.out | apply below_alloc | apply pw_below_drewN | apply below_drew1) | exact HBR.out))), (HC12.out _ (by repeat (first | (with_reducible first | exact HBR.out | apply below_alloc | apply pw_below_drewN | apply below_drew1) | exact HBR.out)))⟩ (fun hHeld => ?_)
      clear hK K
      refine n_ 28 ?_
      refine p_ 16 29 ?_
      exact norm_ (by simp only [putAll, Act.put, q_a, q_0, q_s]) (hCont () _ ⟨new_blk W1 _, (by refine Eq.trans (Below.block (B := W1.heap.size) (w := W1) ?_ _ HG2.out) HK1.out; repeat (first | (with_reducible first | exact HBS.out | apply below_alloc | apply pw_below_drewN | apply below_drew1) | exact HBS.out)), (by repeat (first | (with_reducible first | exact HBR.out | apply below_alloc | apply pw_below_drewN | apply below_drew1) | exact HBR.out))⟩)
  rintro ⟨⟩ w3 ⟨hz3, hy3, hb3⟩
  have hHeld : w3.cell? ad = some (.int .u8 x0) ∧ w3.cell? ⟨ad.block, ad.off + 1, none⟩ = some (.int .u8 x1) ∧ w3.cell? ⟨ad.block, ad.off + 12, none⟩ = some (.int .u8 x12) := ⟨HC0.out _ hb3, HC1.out _ hb3, HC12.out _ hb3⟩
  refine norm_ (a' := ?_) ?_ ?_
  rotate_left; · simp only [putAll, Act.put, q_a, q_0, q_s]; rfl
  refine o_ 18 none (fun K hK => ?_)
  obtain ⟨k0, k1, k2, k3, k4, k5, k6, k7, k8, k9, k10, k11, k12⟩ := c13 hz3
  obtain ⟨z0, z1, z2, z3, z4, z5, z6, z7, z8, z9, z10, z11, z12⟩ := f13 hz3
  refine s_ ?_
  refine hK.out _ _ ⟨(HC0.out _ (lay13_below hb3 HG1.out _ _ _ _ _ _ _ _ _ _ _ _ _)), (HC1.out _ (lay13_below hb3 HG1.out _ _ _ _ _ _ _ _ _ _ _ _ _)), (HC12.out _ (lay13_below hb3 HG1.out _ _ _ _ _ _ _ _ _ _ _ _ _))⟩ (fun hHeld => ?_)
  clear hK K
  refine done_ (by kernel_rfl) ?_
  generalize hW : World.setCell _ _ _ = W4
  have hz4 : W4.heap[W1.heap.size]? = some (.cells #[(.int .i64 x0), (.int .i64 x1), (.int .i64 x12), (.int .i64 (numL l 4 4)), (.int .i64 (numL l 8 4)), (.int .i64 0), (.int .i64 0), (.int .i64 0), (.int .i64 0), (.bool false), (.int .i64 0), (.slice none 0 0), (.slice none 0 0)] 37 (0, 0)) := by rw [← hW]; exact lay13_blk hz3 rfl (.int .i64 x0) (.int .i64 x1) (.int .i64 x12) (.int .i64 (numL l 4 4)) (.int .i64 (numL l 8 4)) (.int .i64 0) (.int .i64 0) (.int .i64 0) (.int .i64 0) (.bool false) (.int .i64 0) (.slice none 0 0) (.slice none 0 0)
  have hy4 : W4.heap[w.heap.size]? = some (.cells zero13 37 (0, 0)) := by rw [← hW]; exact (lay13_far (Nat.ne_of_lt HG2.out) (.int .i64 x0) (.int .i64 x1) (.int .i64 x12) (.int .i64 (numL l 4 4)) (.int .i64 (numL l 8 4)) (.int .i64 0) (.int .i64 0) (.int .i64 0) (.int .i64 0) (.bool false) (.int .i64 0) (.slice none 0 0) (.slice none 0 0)).trans hy3
  have HB4 := am_ (show Below w.heap.size w W4 from by rw [← hW]; exact lay13_below hb3 HG1.out (.int .i64 x0) (.int .i64 x1) (.int .i64 x12) (.int .i64 (numL l 4 4)) (.int .i64 (numL l 8 4)) (.int .i64 0) (.int .i64 0) (.int .i64 0) (.int .i64 0) (.bool false) (.int .i64 0) (.slice none 0 0) (.slice none 0 0))
  have HZ4 := am_ hz4
  have HY4 := am_ hy4
  obtain ⟨g, HGE⟩ : ∃ g, W1.heap.size = g := ⟨_, rfl⟩
  rw [HGE] at HZ4 HG1 HG2 hz4 ⊢
  have HGL := am_ (show g < W4.heap.size from blk_lt hz4)
  clear hHeld hW hz3 hy3 hb3 k0 k1 k2 k3 k4 k5 k6 k7 k8 k9 k10 k11 k12 z0 z1 z2 z3 z4 z5 z6 z7 z8 z9 z10 z11 z12
  obtain ⟨k0, k1, k2, k3, k4, k5, k6, k7, k8, k9, k10, k11, k12⟩ := c13 hz4
  obtain ⟨z0, z1, z2, z3, z4, z5, z6, z7, z8, z9, z10, z11, z12⟩ := f13 hz4
  clear hz4 hy4
  clear HBR HR1 HBS HK1
  have HBW := am_ HB4.out
  have HPE := am_ (show parseL l = (⟨x0, x1, x12, numL l 4 4, numL l 8 4, numL l 16 2, numL l 18 2, 0, numL l 20 2, numL l 22 2 == 0, 0, [], (l.take l.length).drop 24⟩, 0) from by
    unfold parseL
    rw [if_neg (fun h => h HE.out), if_neg (by rw [HKD.out]; decide), if_pos HKD.out, List.take_length, EE.out.2.1, EE.out.2.2.1, ← EE.out.1, HKD.out])
  have G16 := am_ (fun W (h : Below w.heap.size w W) => get_calls (l := l) (w := W) 16 2 (iz := 16) (mz := 2) (Kd.C_below HR.out h) rfl HC.out HY.out HL.out rfl rfl (by omega) (by have := H24.out; omega))
  have G18 := am_ (fun W (h : Below w.heap.size w W) => get_calls (l := l) (w := W) 18 2 (iz := 18) (mz := 2) (Kd.C_below HR.out h) rfl HC.out HY.out HL.out rfl rfl (by omega) (by have := H24.out; omega))
  have G20 := am_ (fun W (h : Below w.heap.size w W) => get_calls (l := l) (w := W) 20 2 (iz := 20) (mz := 2) (Kd.C_below HR.out h) rfl HC.out HY.out HL.out rfl rfl (by omega) (by have := H24.out; omega))
  have G22 := am_ (fun W (h : Below w.heap.size w W) => get_calls (l := l) (w := W) 22 2 (iz := 22) (mz := 2) (Kd.C_below HR.out h) rfl HC.out HY.out HL.out rfl rfl (by omega) (by have := H24.out; omega))
  go_upto_region 19 with (first | (go_at_call 74; (with_reducible refine (G16.out _ ?hb).mono ?_); (case hb => (repeat (first | with_reducible exact HBW.out | with_reducible apply pw_below_drewN | (refine Below.setCell ?_ HG1.out _)))); rintro e w3 ⟨rfl, ⟨⟨nq, rfl⟩⟩⟩) | (go_at_call 74; (with_reducible refine (G18.out _ ?hb).mono ?_); (case hb => (repeat (first | with_reducible exact HBW.out | with_reducible apply pw_below_drewN | (refine Below.setCell ?_ HG1.out _)))); rintro e w3 ⟨rfl, ⟨⟨nq, rfl⟩⟩⟩))
  generalize hW : World.setCell _ _ _ = W5
  have hz5 : W5.heap[g]? = some (.cells #[.int .i64 x0, .int .i64 x1, .int .i64 x12, .int .i64 (numL l 4 4), .int .i64 (numL l 8 4), .int .i64 (numL l 16 2), .int .i64 (numL l 18 2), .int .i64 0, .int .i64 0, .bool false, .int .i64 0, .slice none 0 0, .slice none 0 0] 37 (0, 0)) := by
    rw [← hW]
    have h := (set_blk ((set_blk (HZ4.out) 5 (.int .i64 (numL l 16 2)))) 6 (.int .i64 (numL l 18 2)))
    simp only [List.setIfInBounds_toArray, List.set_cons_zero, List.set_cons_succ] at h
    exact h
  have hy5 : W5.heap[w.heap.size]? = some (.cells zero13 37 (0, 0)) := by
    rw [← hW]
    exact (Below.heap_setCell _ ⟨g, 6, none⟩ (.int .i64 (numL l 18 2)) w.heap.size (Nat.ne_of_lt HG2.out)).trans ((Below.heap_setCell _ ⟨g, 5, none⟩ (.int .i64 (numL l 16 2)) w.heap.size (Nat.ne_of_lt HG2.out)).trans (HY4.out))
  have HB5 : Aside0 (Below w.heap.size w W5) := am_ (by
    rw [← hW]
    repeat (first | with_reducible exact HB4.out | with_reducible apply pw_below_drewN | (refine Below.setCell ?_ HG1.out _)))
  have HZ5 := am_ hz5
  have HY5 := am_ hy5
  clear hW k0 k1 k2 k3 k4 k5 k6 k7 k8 k9 k10 k11 k12 z0 z1 z2 z3 z4 z5 z6 z7 z8 z9 z10 z11 z12
  obtain ⟨k0, k1, k2, k3, k4, k5, k6, k7, k8, k9, k10, k11, k12⟩ := c13 hz5
  obtain ⟨z0, z1, z2, z3, z4, z5, z6, z7, z8, z9, z10, z11, z12⟩ := f13 hz5
  clear hz5 hy5
  clear HBW
  have HBW := am_ HB5.out
  go_upto_region 20 with (first | (go_at_call 74; (with_reducible refine (G20.out _ ?hb).mono ?_); (case hb => (repeat (first | with_reducible exact HBW.out | with_reducible apply pw_below_drewN | (refine Below.setCell ?_ HG1.out _)))); rintro e w3 ⟨rfl, ⟨⟨nq, rfl⟩⟩⟩) | (go_at_call 74; (with_reducible refine (G22.out _ ?hb).mono ?_); (case hb => (repeat (first | with_reducible exact HBW.out | with_reducible apply pw_below_drewN | (refine Below.setCell ?_ HG1.out _)))); rintro e w3 ⟨rfl, ⟨⟨nq, rfl⟩⟩⟩))
  generalize hW : World.setCell _ _ _ = W6
  have hz6 : W6.heap[g]? = some (.cells #[.int .i64 x0, .int .i64 x1, .int .i64 x12, .int .i64 (numL l 4 4), .int .i64 (numL l 8 4), .int .i64 (numL l 16 2), .int .i64 (numL l 18 2), .int .i64 0, .int .i64 (numL l 20 2), .bool (numL l 22 2 == 0), .int .i64 0, .slice none 0 0, .slice none 0 0] 37 (0, 0)) := by
    rw [← hW]
    have h := (set_blk ((set_blk (HZ5.out) 8 (.int .i64 (numL l 20 2)))) 9 (.bool (numL l 22 2 == 0)))
    simp only [List.setIfInBounds_toArray, List.set_cons_zero, List.set_cons_succ] at h
    exact h
  have hy6 : W6.heap[w.heap.size]? = some (.cells zero13 37 (0, 0)) := by
    rw [← hW]
    exact (Below.heap_setCell _ ⟨g, 9, none⟩ (.bool (numL l 22 2 == 0)) w.heap.size (Nat.ne_of_lt HG2.out)).trans ((Below.heap_setCell _ ⟨g, 8, none⟩ (.int .i64 (numL l 20 2)) w.heap.size (Nat.ne_of_lt HG2.out)).trans (HY5.out))
  have HB6 : Aside0 (Below w.heap.size w W6) := am_ (by
    rw [← hW]
    repeat (first | with_reducible exact HB5.out | with_reducible apply pw_below_drewN | (refine Below.setCell ?_ HG1.out _)))
  have HZ6 := am_ hz6
  have HY6 := am_ hy6
  clear hW k0 k1 k2 k3 k4 k5 k6 k7 k8 k9 k10 k11 k12 z0 z1 z2 z3 z4 z5 z6 z7 z8 z9 z10 z11 z12
  obtain ⟨k0, k1, k2, k3, k4, k5, k6, k7, k8, k9, k10, k11, k12⟩ := c13 hz6
  obtain ⟨z0, z1, z2, z3, z4, z5, z6, z7, z8, z9, z10, z11, z12⟩ := f13 hz6
  clear hz6 hy6
  obtain ⟨A3, hcut3, hC3⟩ := cut3 (A := some ad) (c := c) (l := l) (24) l.length (l.length - (24)) (iz := 24) (jz := (l.length : Int)) (by have := HLE.out; omega) rfl rfl (by have := HLE.out; omega) (Nat.le_refl _) rfl HC.out
  have HC3 := am_ (fun W (h : Below w.heap.size w W) => hC3 W (Kd.C_below HR.out h))
  clear hC3
  go_upto_region 21 with (first
    | (go_at_call 75; refine (clone_calls (HC3.out _ HB6.out) (C_len (HC3.out w (Below.refl _ _))) (Nat.le_refl _) (by rw [C_len (HC3.out w (Below.refl _ _))]; have := HL.out; omega)).mono ?_; rintro e w6 ⟨v, rfl, ho, hb6⟩; obtain ⟨Av, cv, ev⟩ := Kd.R_slice ho; rw [C_len (HC3.out w (Below.refl _ _))] at ev; subst ev; have HZc := am_ ((hb6.block g (blk_lt HZ6.out)).trans HZ6.out); have HYc := am_ ((hb6.block w.heap.size (blk_lt HY6.out)).trans HY6.out); have HO := am_ ho; have HF6 := am_ (show ∀ k, k < W6.heap.size → w6.heap[k]? = W6.heap[k]? from hb6.block); have HLT := am_ (blk_lt HZ6.out); have HBc := am_ (below_step HB6.out hb6); clear ho hb6 k0 k1 k2 k3 k4 k5 k6 k7 k8 k9 k10 k11 k12 z0 z1 z2 z3 z4 z5 z6 z7 z8 z9 z10 z11 z12; obtain ⟨k0, k1, k2, k3, k4, k5, k6, k7, k8, k9, k10, k11, k12⟩ := c13 HZc.out; obtain ⟨z0, z1, z2, z3, z4, z5, z6, z7, z8, z9, z10, z11, z12⟩ := f13 HZc.out))
  clear k0 k1 k2 k3 k4 k5 k6 k7 k8 k9 k10 k11 k12 z0 z1 z2 z3 z4 z5 z6 z7 z8 z9 z10 z11 z12 hcut3
  have hz7 := set_blk HZc.out 12 (.slice Av (l.length - (24)) cv)
  simp only [List.setIfInBounds_toArray, List.set_cons_zero, List.set_cons_succ] at hz7
  have hy7 := (Below.heap_setCell w6 ⟨g, 12, none⟩ (.slice Av (l.length - (24)) cv) w.heap.size (Nat.ne_of_lt HG2.out)).trans HYc.out
  have HB7 := am_ (HBc.out.setCell (p := ⟨g, 12, none⟩) HG1.out (.slice Av (l.length - (24)) cv))
  have HF7 := am_ (show ∀ k, k ≠ g → (w6.setCell ⟨g, 12, none⟩ (.slice Av (l.length - (24)) cv)).heap[k]? = w6.heap[k]? from fun k hk => Below.heap_setCell w6 ⟨g, 12, none⟩ _ k hk)
  generalize w6.setCell ⟨g, 12, none⟩ (.slice Av (l.length - (24)) cv) = W7 at hz7 hy7 HB7 HF7 ⊢
  obtain ⟨k0, k1, k2, k3, k4, k5, k6, k7, k8, k9, k10, k11, k12⟩ := c13 hz7
  obtain ⟨y0, y1, y2, y3, y4, y5, y6, y7, y8, y9, y10, y11, y12⟩ := c13 hy7
  obtain ⟨u0, u1, u2, u3, u4, u5, u6, u7, u8, u9, u10, u11, u12⟩ := f13 hy7
  clear hz7 hy7
  go_wp2
  (try simp only [Exit.inBlock, Exit.then])
  refine bodyPost_ret (v := .tuple #[.agg #[.int .i64 x0, .int .i64 x1, .int .i64 x12, .int .i64 (numL l 4 4), .int .i64 (numL l 8 4), .int .i64 (numL l 16 2), .int .i64 (numL l 18 2), .int .i64 0, .int .i64 (numL l 20 2), .bool (numL l 22 2 == 0), .int .i64 0, .slice none 0 0, .slice Av (l.length - (24)) cv], .int .i64 0]) ?_ rfl (parsed_ok (v1 := .slice none 0 0) (v2 := .slice Av (l.length - (24)) cv) HPE.out (Kd.R_nil _ _ _ _ _) (RB_move HO.out (Nat.le_of_lt (Nat.lt_trans HG2.out HLT.out)) ?_) ?_ ?_)
  · rw [results_cell_tmp rfl]
    go_simp
  · intro k hk _
    have h1 := HG2.out
    have h2 := HLT.out
    exact (lay13_far (by omega) _ _ _ _ _ _ _ _ _ _ _ _ _).trans (HF7.out k (by omega))
  · intro k hk; simp [Value.ownBlock] at hk
  · exact lay13_below HB7.out (Nat.le_refl _) _ _ _ _ _ _ _ _ _ _ _ _ _
theorem parse_stream {c : Nat} {A : Option Addr} {l : List Int} {w : World} (hr : Kd.C (Kd.int .u8) w A l.length l) (hc : l.length ≤ c) (hl : l.length ≤ 100000) (hb : Bytes l) (he : headE l = 0) (h24 : 24 ≤ l.length) (hk : l.getD 0 0 = 1) :
    Calls Tryz.prog 38 #[.slice A l.length c] w (Parsed w l) := by
  have HR := am_ hr
  have HC := am_ hc
  have HL := am_ hl
  have HY := am_ hb
  have HBW := fun o => Kd.C_alloc hr o
  have hbe : (headE l == 0) = true := beq_iff_eq.mpr he
  have hbn : (headE l != 0) = false := by rw [he]; rfl
  have HE := am_ he
  have HKD := am_ hk
  have H24 := am_ (show 24 ≤ l.length by omega)
  have HLE := am_ h24
  obtain ⟨ad, rfl, hcell⟩ := cells_of hr (by omega)
  have c0 := hcell 0 (by omega)
  rw [Addr.add_zero'] at c0
  have b0 := getD_byte hb 0
  obtain ⟨x0, e0⟩ : ∃ x, l.getD 0 0 = x := ⟨_, rfl⟩
  rw [e0] at c0 b0
  have w0 : wrap64 x0 = x0 := wid (by omega) (by omega)
  have i0 : (0 : Int) < (l.length : Int) := by omega
  have c1 : w.cell? ⟨ad.block, ad.off + 1, none⟩ = _ := hcell 1 (by omega)
  have b1 := getD_byte hb 1
  obtain ⟨x1, e1⟩ : ∃ x, l.getD 1 0 = x := ⟨_, rfl⟩
  rw [e1] at c1 b1
  have w1 : wrap64 x1 = x1 := wid (by omega) (by omega)
  have i1 : (1 : Int) < (l.length : Int) := by omega
  have c12 : w.cell? ⟨ad.block, ad.off + 12, none⟩ = _ := hcell 12 (by omega)
  have b12 := getD_byte hb 12
  obtain ⟨x12, e12⟩ : ∃ x, l.getD 12 0 = x := ⟨_, rfl⟩
  rw [e12] at c12 b12
  have w12 : wrap64 x12 = x12 := wid (by omega) (by omega)
  have i12 : (12 : Int) < (l.length : Int) := by omega
  have c20 : w.cell? ⟨ad.block, ad.off + 20, none⟩ = _ := hcell 20 (by omega)
  have b20 := getD_byte hb 20
  obtain ⟨x20, e20⟩ : ∃ x, l.getD 20 0 = x := ⟨_, rfl⟩
  rw [e20] at c20 b20
  have w20 : wrap64 x20 = x20 := wid (by omega) (by omega)
  have i20 : (20 : Int) < (l.length : Int) := by omega
  have c21 : w.cell? ⟨ad.block, ad.off + 21, none⟩ = _ := hcell 21 (by omega)
  have b21 := getD_byte hb 21
  obtain ⟨x21, e21⟩ : ∃ x, l.getD 21 0 = x := ⟨_, rfl⟩
  rw [e21] at c21 b21
  have w21 : wrap64 x21 = x21 := wid (by omega) (by omega)
  have i21 : (21 : Int) < (l.length : Int) := by omega
  have i0n : 0 < l.length := by omega
  have HC0 := am_ (show ∀ W, Below w.heap.size w W → W.cell? ad = some (.int .u8 x0) from fun W h => (h.cell (World.block_lt_of_cell? w _ c0)).trans c0)
  have HC1 := am_ (show ∀ W, Below w.heap.size w W → W.cell? ⟨ad.block, ad.off + 1, none⟩ = some (.int .u8 x1) from fun W h => (h.cell (World.block_lt_of_cell? w _ c1)).trans c1)
  have HC12 := am_ (show ∀ W, Below w.heap.size w W → W.cell? ⟨ad.block, ad.off + 12, none⟩ = some (.int .u8 x12) from fun W h => (h.cell (World.block_lt_of_cell? w _ c12)).trans c12)
  have HC20 := am_ (show ∀ W, Below w.heap.size w W → W.cell? ⟨ad.block, ad.off + 20, none⟩ = some (.int .u8 x20) from fun W h => (h.cell (World.block_lt_of_cell? w _ c20)).trans c20)
  have HC21 := am_ (show ∀ W, Below w.heap.size w W → W.cell? ⟨ad.block, ad.off + 21, none⟩ = some (.int .u8 x21) from fun W h => (h.cell (World.block_lt_of_cell? w _ c21)).trans c21)
  have EE := am_ (And.intro e0 (And.intro e1 (And.intro e12 (And.intro e20 (And.intro e21 trivial)))))
  clear hcell c0 c1 c12 c20 c21 e0 e1 e12 e20 e21
  rw [EE.out.1] at hk
  have q3 : (x0 == 3) = false := by rw [hk]; rfl
  have q2 : (x0 == 2) = false := by rw [hk]; rfl
  clear he hr hc hl hb h24 hk
  go_enter Tryz.func38, Tryz.ntmps38
  go_upto_region 4 with (first
    | (go_at_call 73; refine (head_calls (HBW _) rfl HC.out HY.out HL.out).mono ?_; rintro e w1 ⟨rfl, ⟨⟨nd, rfl⟩⟩⟩))
  have HBR := am_ (bd ((Below.refl w.heap.size w).alloc (Nat.le_refl _) (.cells zero13 37)) nd)
  have HK1 := am_ (show (((w.alloc (.cells zero13 37)).drewN nd).heap[w.heap.size]? = some (.cells zero13 37 (0, 0))) from new_blk w _)
  have HR1 := am_ (Kd.C_drewN (HBW (.cells zero13 37)) nd)
  have HG1 := am_ (show w.heap.size ≤ ((w.alloc (.cells zero13 37)).drewN nd).heap.size from HBR.out.size)
  have HG2 := am_ (show w.heap.size < ((w.alloc (.cells zero13 37)).drewN nd).heap.size from blk_lt HK1.out)
  change Code.wp _ _ _ _ ((w.alloc (.cells zero13 37)).drewN nd)
  generalize ((w.alloc (.cells zero13 37)).drewN nd) = W1 at HBR HK1 HR1 HG1 HG2 ⊢
  have HBS := am_ (Below.refl W1.heap.size W1)
  clear HBW nd
  refine start_ (n := 19) (S := fun w' => w'.cell? ad = some (.int .u8 x0) ∧ w'.cell? ⟨ad.block, ad.off + 1, none⟩ = some (.int .u8 x1) ∧ w'.cell? ⟨ad.block, ad.off + 12, none⟩ = some (.int .u8 x12)) (ds := []) #[fF,fF,fF,fF,fF,fF,fF,fF,fF,fF,fF,fF,fF,fF,fF,fF,fF,fF,fF] (by kernel_rfl) rfl rfl ⟨(HC0.out _ (by repeat (first | (with_reducible first | exact HBR.out | apply below_alloc | apply pw_below_drewN | apply below_drew1) | exact HBR.out))), (HC1.out _ (by repeat (first | (with_reducible first | exact HBR.out | apply below_alloc | apply pw_below_drewN | apply below_drew1) | exact HBR.out))), (HC12.out _ (by repeat (first | (with_reducible first | exact HBR.out | apply below_alloc | apply pw_below_drewN | apply below_drew1) | exact HBR.out)))⟩ (fun hHeld => ?_)
  refine p_ 0 13 ?_
  refine p_ 1 14 ?_
  refine p_ 4 17 ?_
  refine p_ 5 18 ?_
  refine p_ 8 21 ?_
  refine p_ 9 22 ?_
  refine p_ 12 25 ?_
  refine p_ 14 27 ?_
  refine t_ 2 15 hHeld ?_
  refine p_ 3 16 ?_
  refine t_ 6 19 hHeld ?_
  refine p_ 7 20 ?_
  refine t_ 10 23 hHeld ?_
  refine p_ 11 24 ?_
  refine join_ (σ := Unit) 1 #[tT,tT,tT,tT,tT,tT,tT,tT,tT,tT,tT,tT,tT,tT,tT,tT,tT,tT,fF] (fun _ => [(26, .int .i64 (numL l 4 4)), (28, .int .i64 (numL l 8 4)), (29, .agg #[.int .i64 x0, .int .i64 x1, .int .i64 x12, .int .i64 (numL l 4 4), .int .i64 (numL l 8 4), .int .i64 0, .int .i64 0, .int .i64 0, .int .i64 0, .bool false, .int .i64 0, .slice none 0 0, .slice none 0 0]), (5, .pointer (some ⟨W1.heap.size, 0, none⟩))]) (fun _ w' => w'.heap[W1.heap.size]? = some (.cells zero13 37 (0, 0)) ∧ w'.heap[w.heap.size]? = some (.cells zero13 37 (0, 0)) ∧ Below w.heap.size w w') ?_ ?_
  rotate_left
  · intro hCont
    refine two_ (i := 13) (j := 17) (Ni := some 26) (Nj := some 5) #[tT,tT,tT,tT,tT,tT,tT,tT,tT,tT,tT,tT,tT,tT,tT,fF,fF,fF,fF] #[tT,tT,tT,tT,tT,tT,tT,tT,tT,tT,tT,tT,tT,fF,tT,fF,fF,tT,fF] rfl rfl rfl rfl (by kernel_rfl) (by decide) (by decide) (fun K hK => ?_) (fun K hK => ?_)
    · skip
      refine g_ Tryz.func74 #[.slice (some ad) l.length c, .int .i64 4, .int .i64 4] ?_
      with_reducible refine (get_calls (l := l) 4 4 (iz := 4) (mz := 4) (by repeat (first | exact HR1.out | (with_reducible refine Kd.C_alloc ?_ _) | (with_reducible refine Kd.C_drewN ?_ _) | (with_reducible refine Kd.C_drew ?_))) rfl HC.out HY.out HL.out rfl rfl (by omega) (by have := H24.out; omega)).mono ?_
      rintro e w3 ⟨rfl, ⟨⟨nq, rfl⟩⟩⟩
      refine ⟨_, rfl, ?_⟩
      refine hK.out _ _ ⟨(HC0.out _ (by repeat (first | (with_reducible first | exact HBR.out | apply below_alloc | apply pw_below_drewN | apply below_drew1) | exact HBR.out))), (HC1.out _ (by repeat (first | (with_reducible first | exact HBR.out | apply below_alloc | apply pw_below_drewN | apply below_drew1) | exact HBR.out))), (HC12.out _ (by repeat (first | (with_reducible first | exact HBR.out | apply below_alloc | apply pw_below_drewN | apply below_drew1) | exact HBR.out)))⟩ (fun hHeld => ?_)
      clear hK K
      refine n_ 26 ?_
      refine two_ (i := 15) (j := 17) (Ni := some 28) (Nj := some 5) #[tT,tT,tT,tT,tT,tT,tT,tT,tT,tT,tT,tT,tT,tT,tT,tT,fF,fF,fF] #[tT,tT,tT,tT,tT,tT,tT,tT,tT,tT,tT,tT,tT,tT,tT,fF,fF,tT,fF] rfl rfl rfl rfl (by kernel_rfl) (by decide) (by decide) (fun K hK => ?_) (fun K hK => ?_)
      · skip
        refine g_ Tryz.func74 #[.slice (some ad) l.length c, .int .i64 8, .int .i64 4] ?_
        with_reducible refine (get_calls (l := l) 8 4 (iz := 8) (mz := 4) (by repeat (first | exact HR1.out | (with_reducible refine Kd.C_alloc ?_ _) | (with_reducible refine Kd.C_drewN ?_ _) | (with_reducible refine Kd.C_drew ?_))) rfl HC.out HY.out HL.out rfl rfl (by omega) (by have := H24.out; omega)).mono ?_
        rintro e w3 ⟨rfl, ⟨⟨nq, rfl⟩⟩⟩
        refine ⟨_, rfl, ?_⟩
        refine hK.out _ _ ⟨(HC0.out _ (by repeat (first | (with_reducible first | exact HBR.out | apply below_alloc | apply pw_below_drewN | apply below_drew1) | exact HBR.out))), (HC1.out _ (by repeat (first | (with_reducible first | exact HBR.out | apply below_alloc | apply pw_below_drewN | apply below_drew1) | exact HBR.out))), (HC12.out _ (by repeat (first | (with_reducible first | exact HBR.out | apply below_alloc | apply pw_below_drewN | apply below_drew1) | exact HBR.out)))⟩ (fun hHeld => ?_)
        clear hK K
        refine n_ 28 ?_
        refine p_ 16 29 ?_
        refine o_ 17 (some 5) (fun K hK => ?_)
        refine value_ (w1 := ?_) (v := ?_) (by rfl) rfl ?_ ?_
        rotate_left 2
        · go_simp
          constructor
          · rfl
          · rfl
        refine hK.out _ _ ⟨(HC0.out _ (by repeat (first | (with_reducible first | exact HBR.out | apply below_alloc | apply pw_below_drewN | apply below_drew1) | exact HBR.out))), (HC1.out _ (by repeat (first | (with_reducible first | exact HBR.out | apply below_alloc | apply pw_below_drewN | apply below_drew1) | exact HBR.out))), (HC12.out _ (by repeat (first | (with_reducible first | exact HBR.out | apply below_alloc | apply pw_below_drewN | apply below_drew1) | exact HBR.out)))⟩ (fun hHeld => ?_)
        clear hK K
        refine n_ 5 ?_
        exact norm_ (by simp only [putAll, Act.put, q_a, q_0, q_s]) (hCont () _ ⟨new_blk W1 _, (by refine Eq.trans (Below.block (B := W1.heap.size) (w := W1) ?_ _ HG2.out) HK1.out; repeat (first | (with_reducible first | exact HBS.out | apply below_alloc | apply pw_below_drewN | apply below_drew1) | exact HBS.out)), (by repeat (first | (with_reducible first | exact HBR.out | apply below_alloc | apply pw_below_drewN | apply below_drew1) | exact HBR.out))⟩)
      · skip
        refine value_ (w1 := ?_) (v := ?_) (by rfl) rfl ?_ ?_
        rotate_left 2
        · go_simp
          constructor
          · rfl
          · rfl
        refine hK.out _ _ ⟨(HC0.out _ (by repeat (first | (with_reducible first | exact HBR.out | apply below_alloc | apply pw_below_drewN | apply below_drew1) | exact HBR.out))), (HC1.out _ (by repeat (first | (with_reducible first | exact HBR.out | apply below_alloc | apply pw_below_drewN | apply below_drew1) | exact HBR.out))), (HC12.out _ (by repeat (first | (with_reducible first | exact HBR.out | apply below_alloc | apply pw_below_drewN | apply below_drew1) | exact HBR.out)))⟩ (fun hHeld => ?_)
        clear hK K
        refine n_ 5 ?_
        refine o_ 15 (some 28) (fun K hK => ?_)
        refine g_ Tryz.func74 #[.slice (some ad) l.length c, .int .i64 8, .int .i64 4] ?_
        with_reducible refine (get_calls (l := l) 8 4 (iz := 8) (mz := 4) (by repeat (first | exact HR1.out | (with_reducible refine Kd.C_alloc ?_ _) | (with_reducible refine Kd.C_drewN ?_ _) | (with_reducible refine Kd.C_drew ?_))) rfl HC.out HY.out HL.out rfl rfl (by omega) (by have := H24.out; omega)).mono ?_
        rintro e w3 ⟨rfl, ⟨⟨nq, rfl⟩⟩⟩
        refine ⟨_, rfl, ?_⟩
        refine hK.out _ _ ⟨(HC0.out _ (by repeat (first | (with_reducible first | exact HBR.out | apply below_alloc | apply pw_below_drewN | apply below_drew1) | exact HBR.out))), (HC1.out _ (by repeat (first | (with_reducible first | exact HBR.out | apply below_alloc | apply pw_below_drewN | apply below_drew1) | exact HBR.out))), (HC12.out _ (by repeat (first | (with_reducible first | exact HBR.out | apply below_alloc | apply pw_below_drewN | apply below_drew1) | exact HBR.out)))⟩ (fun hHeld => ?_)
        clear hK K
        refine n_ 28 ?_
        refine p_ 16 29 ?_
        exact norm_ (by simp only [putAll, Act.put, q_a, q_0, q_s]) (hCont () _ ⟨new_blk W1 _, (by refine Eq.trans (Below.block (B := W1.heap.size) (w := W1) ?_ _ HG2.out) HK1.out; repeat (first | (with_reducible first | exact HBS.out | apply below_alloc | apply pw_below_drewN | apply below_drew1) | exact HBS.out)), (by repeat (first | (with_reducible first | exact HBR.out | apply below_alloc | apply pw_below_drewN | apply below_drew1) | exact HBR.out))⟩)
    · skip
      refine value_ (w1 := ?_) (v := ?_) (by rfl) rfl ?_ ?_
      rotate_left 2
      · go_simp
        constructor
        · rfl
        · rfl
      refine hK.out _ _ ⟨(HC0.out _ (by repeat (first | (with_reducible first | exact HBR.out | apply below_alloc | apply pw_below_drewN | apply below_drew1) | exact HBR.out))), (HC1.out _ (by repeat (first | (with_reducible first | exact HBR.out | apply below_alloc | apply pw_below_drewN | apply below_drew1) | exact HBR.out))), (HC12.out _ (by repeat (first | (with_reducible first | exact HBR.out | apply below_alloc | apply pw_below_drewN | apply below_drew1) | exact HBR.out)))⟩ (fun hHeld => ?_)
      clear hK K
      refine n_ 5 ?_
      refine o_ 13 (some 26) (fun K hK => ?_)
      refine g_ Tryz.func74 #[.slice (some ad) l.length c, .int .i64 4, .int .i64 4] ?_
      with_reducible refine (get_calls (l := l) 4 4 (iz := 4) (mz := 4) (by repeat (first | exact HR1.out | (with_reducible refine Kd.C_alloc ?_ _) | (with_reducible refine Kd.C_drewN ?_ _) | (with_reducible refine Kd.C_drew ?_))) rfl HC.out HY.out HL.out rfl rfl (by omega) (by have := H24.out; omega)).mono ?_
      rintro e w3 ⟨rfl, ⟨⟨nq, rfl⟩⟩⟩
      refine ⟨_, rfl, ?_⟩
      refine hK.out _ _ ⟨(HC0.out _ (by repeat (first | (with_reducible first | exact HBR.out | apply below_alloc | apply pw_below_drewN | apply below_drew1) | exact HBR.out))), (HC1.out _ (by repeat (first | (with_reducible first | exact HBR.out | apply below_alloc | apply pw_below_drewN | apply below_drew1) | exact HBR.out))), (HC12.out _ (by repeat (first | (with_reducible first | exact HBR.out | apply below_alloc | apply pw_below_drewN | apply below_drew1) | exact HBR.out)))⟩ (fun hHeld => ?_)
      clear hK K
      refine n_ 26 ?_
      refine o_ 15 (some 28) (fun K hK => ?_)
      refine g_ Tryz.func74 #[.slice (some ad) l.length c, .int .i64 8, .int .i64 4] ?_
      with_reducible refine (get_calls (l := l) 8 4 (iz := 8) (mz := 4) (by repeat (first | exact HR1.out | (with_reducible refine Kd.C_alloc ?_ _) | (with_reducible refine Kd.C_drewN ?_ _) | (with_reducible refine Kd.C_drew ?_))) rfl HC.out HY.out HL.out rfl rfl (by omega) (by have := H24.out; omega)).mono ?_
      rintro e w3 ⟨rfl, ⟨⟨nq, rfl⟩⟩⟩
      refine ⟨_, rfl, ?_⟩
      refine hK.out _ _ ⟨(HC0.out _ (by repeat (first | (with_reducible first | exact HBR.out | apply below_alloc | apply pw_below_drewN | apply below_drew1) | exact HBR.out))), (HC1.out _ (by repeat (first | (with_reducible first | exact HBR.out | apply below_alloc | apply pw_below_drewN | apply below_drew1) | exact HBR.out))), (HC12.out _ (by repeat (first | (with_reducible first | exact HBR.out | apply below_alloc | apply pw_below_drewN | apply below_drew1) | exact HBR.out)))⟩ (fun hHeld => ?_)
      clear hK K
      refine n_ 28 ?_
      refine p_ 16 29 ?_
      exact norm_ (by simp only [putAll, Act.put, q_a, q_0, q_s]) (hCont () _ ⟨new_blk W1 _, (by refine Eq.trans (Below.block (B := W1.heap.size) (w := W1) ?_ _ HG2.out) HK1.out; repeat (first | (with_reducible first | exact HBS.out | apply below_alloc | apply pw_below_drewN | apply below_drew1) | exact HBS.out)), (by repeat (first | (with_reducible first | exact HBR.out | apply below_alloc | apply pw_below_drewN | apply below_drew1) | exact HBR.out))⟩)
  rintro ⟨⟩ w3 ⟨hz3, hy3, hb3⟩
  have hHeld : w3.cell? ad = some (.int .u8 x0) ∧ w3.cell? ⟨ad.block, ad.off + 1, none⟩ = some (.int .u8 x1) ∧ w3.cell? ⟨ad.block, ad.off + 12, none⟩ = some (.int .u8 x12) := ⟨HC0.out _ hb3, HC1.out _ hb3, HC12.out _ hb3⟩
  refine norm_ (a' := ?_) ?_ ?_
  rotate_left; · simp only [putAll, Act.put, q_a, q_0, q_s]; rfl
  refine o_ 18 none (fun K hK => ?_)
  obtain ⟨k0, k1, k2, k3, k4, k5, k6, k7, k8, k9, k10, k11, k12⟩ := c13 hz3
  obtain ⟨z0, z1, z2, z3, z4, z5, z6, z7, z8, z9, z10, z11, z12⟩ := f13 hz3
  refine s_ ?_
  refine hK.out _ _ ⟨(HC0.out _ (lay13_below hb3 HG1.out _ _ _ _ _ _ _ _ _ _ _ _ _)), (HC1.out _ (lay13_below hb3 HG1.out _ _ _ _ _ _ _ _ _ _ _ _ _)), (HC12.out _ (lay13_below hb3 HG1.out _ _ _ _ _ _ _ _ _ _ _ _ _))⟩ (fun hHeld => ?_)
  clear hK K
  refine done_ (by kernel_rfl) ?_
  generalize hW : World.setCell _ _ _ = W4
  have hz4 : W4.heap[W1.heap.size]? = some (.cells #[(.int .i64 x0), (.int .i64 x1), (.int .i64 x12), (.int .i64 (numL l 4 4)), (.int .i64 (numL l 8 4)), (.int .i64 0), (.int .i64 0), (.int .i64 0), (.int .i64 0), (.bool false), (.int .i64 0), (.slice none 0 0), (.slice none 0 0)] 37 (0, 0)) := by rw [← hW]; exact lay13_blk hz3 rfl (.int .i64 x0) (.int .i64 x1) (.int .i64 x12) (.int .i64 (numL l 4 4)) (.int .i64 (numL l 8 4)) (.int .i64 0) (.int .i64 0) (.int .i64 0) (.int .i64 0) (.bool false) (.int .i64 0) (.slice none 0 0) (.slice none 0 0)
  have hy4 : W4.heap[w.heap.size]? = some (.cells zero13 37 (0, 0)) := by rw [← hW]; exact (lay13_far (Nat.ne_of_lt HG2.out) (.int .i64 x0) (.int .i64 x1) (.int .i64 x12) (.int .i64 (numL l 4 4)) (.int .i64 (numL l 8 4)) (.int .i64 0) (.int .i64 0) (.int .i64 0) (.int .i64 0) (.bool false) (.int .i64 0) (.slice none 0 0) (.slice none 0 0)).trans hy3
  have HB4 := am_ (show Below w.heap.size w W4 from by rw [← hW]; exact lay13_below hb3 HG1.out (.int .i64 x0) (.int .i64 x1) (.int .i64 x12) (.int .i64 (numL l 4 4)) (.int .i64 (numL l 8 4)) (.int .i64 0) (.int .i64 0) (.int .i64 0) (.int .i64 0) (.bool false) (.int .i64 0) (.slice none 0 0) (.slice none 0 0))
  have HZ4 := am_ hz4
  have HY4 := am_ hy4
  obtain ⟨g, HGE⟩ : ∃ g, W1.heap.size = g := ⟨_, rfl⟩
  rw [HGE] at HZ4 HG1 HG2 hz4 ⊢
  have HGL := am_ (show g < W4.heap.size from blk_lt hz4)
  clear hHeld hW hz3 hy3 hb3 k0 k1 k2 k3 k4 k5 k6 k7 k8 k9 k10 k11 k12 z0 z1 z2 z3 z4 z5 z6 z7 z8 z9 z10 z11 z12
  obtain ⟨k0, k1, k2, k3, k4, k5, k6, k7, k8, k9, k10, k11, k12⟩ := c13 hz4
  obtain ⟨z0, z1, z2, z3, z4, z5, z6, z7, z8, z9, z10, z11, z12⟩ := f13 hz4
  clear hz4 hy4
  clear HBR HR1 HBS HK1
  have m20 := HC20.out W4 HB4.out
  have m21 := HC21.out W4 HB4.out
  have HBW := am_ HB4.out
  have G16 := am_ (fun W (h : Below w.heap.size w W) => get_calls (l := l) (w := W) 16 2 (iz := 16) (mz := 2) (Kd.C_below HR.out h) rfl HC.out HY.out HL.out rfl rfl (by omega) (by have := H24.out; omega))
  have G18 := am_ (fun W (h : Below w.heap.size w W) => get_calls (l := l) (w := W) 18 2 (iz := 18) (mz := 2) (Kd.C_below HR.out h) rfl HC.out HY.out HL.out rfl rfl (by omega) (by have := H24.out; omega))
  have wr : wrap64 (24 + x21) = 24 + x21 := wid (by omega) (by omega)
  go_upto_region 8 with (first | (go_at_call 74; (with_reducible refine (G16.out _ ?hb).mono ?_); (case hb => (repeat (first | with_reducible exact HBW.out | with_reducible apply pw_below_drewN | (refine Below.setCell ?_ HG1.out _)))); rintro e w3 ⟨rfl, ⟨⟨nq, rfl⟩⟩⟩) | (go_at_call 74; (with_reducible refine (G18.out _ ?hb).mono ?_); (case hb => (repeat (first | with_reducible exact HBW.out | with_reducible apply pw_below_drewN | (refine Below.setCell ?_ HG1.out _)))); rintro e w3 ⟨rfl, ⟨⟨nq, rfl⟩⟩⟩))
  generalize hW : World.setCell _ _ _ = W5
  have hz5 : W5.heap[g]? = some (.cells #[.int .i64 x0, .int .i64 x1, .int .i64 x12, .int .i64 (numL l 4 4), .int .i64 (numL l 8 4), .int .i64 (numL l 16 2), .int .i64 (numL l 18 2), .int .i64 0, .int .i64 0, .bool false, .int .i64 0, .slice none 0 0, .slice none 0 0] 37 (0, 0)) := by
    rw [← hW]
    have h := (set_blk ((set_blk (HZ4.out) 5 (.int .i64 (numL l 16 2)))) 6 (.int .i64 (numL l 18 2)))
    simp only [List.setIfInBounds_toArray, List.set_cons_zero, List.set_cons_succ] at h
    exact h
  have hy5 : W5.heap[w.heap.size]? = some (.cells zero13 37 (0, 0)) := by
    rw [← hW]
    exact (Below.heap_setCell _ ⟨g, 6, none⟩ (.int .i64 (numL l 18 2)) w.heap.size (Nat.ne_of_lt HG2.out)).trans ((Below.heap_setCell _ ⟨g, 5, none⟩ (.int .i64 (numL l 16 2)) w.heap.size (Nat.ne_of_lt HG2.out)).trans (HY4.out))
  have HB5 : Aside0 (Below w.heap.size w W5) := am_ (by
    rw [← hW]
    repeat (first | with_reducible exact HB4.out | with_reducible apply pw_below_drewN | (refine Below.setCell ?_ HG1.out _)))
  have HZ5 := am_ hz5
  have HY5 := am_ hy5
  clear hW k0 k1 k2 k3 k4 k5 k6 k7 k8 k9 k10 k11 k12 z0 z1 z2 z3 z4 z5 z6 z7 z8 z9 z10 z11 z12
  obtain ⟨k0, k1, k2, k3, k4, k5, k6, k7, k8, k9, k10, k11, k12⟩ := c13 hz5
  obtain ⟨z0, z1, z2, z3, z4, z5, z6, z7, z8, z9, z10, z11, z12⟩ := f13 hz5
  clear hz5 hy5
  clear m20
  have m20 := HC20.out W5 HB5.out
  clear m21
  have m21 := HC21.out W5 HB5.out
  go_upto_region 9 with fail
  generalize hW : World.setCell _ _ _ = W6
  have hz6 : W6.heap[g]? = some (.cells #[.int .i64 x0, .int .i64 x1, .int .i64 x12, .int .i64 (numL l 4 4), .int .i64 (numL l 8 4), .int .i64 (numL l 16 2), .int .i64 (numL l 18 2), .int .i64 x20, .int .i64 0, .bool false, .int .i64 0, .slice none 0 0, .slice none 0 0] 37 (0, 0)) := by
    rw [← hW]
    have h := (set_blk (HZ5.out) 7 (.int .i64 x20))
    simp only [List.setIfInBounds_toArray, List.set_cons_zero, List.set_cons_succ] at h
    exact h
  have hy6 : W6.heap[w.heap.size]? = some (.cells zero13 37 (0, 0)) := by
    rw [← hW]
    exact (Below.heap_setCell _ ⟨g, 7, none⟩ (.int .i64 x20) w.heap.size (Nat.ne_of_lt HG2.out)).trans (HY5.out)
  have HB6 : Aside0 (Below w.heap.size w W6) := am_ (by
    rw [← hW]
    repeat (first | with_reducible exact HB5.out | with_reducible apply pw_below_drewN | (refine Below.setCell ?_ HG1.out _)))
  have HZ6 := am_ hz6
  have HY6 := am_ hy6
  clear hW k0 k1 k2 k3 k4 k5 k6 k7 k8 k9 k10 k11 k12 z0 z1 z2 z3 z4 z5 z6 z7 z8 z9 z10 z11 z12
  obtain ⟨k0, k1, k2, k3, k4, k5, k6, k7, k8, k9, k10, k11, k12⟩ := c13 hz6
  obtain ⟨z0, z1, z2, z3, z4, z5, z6, z7, z8, z9, z10, z11, z12⟩ := f13 hz6
  clear hz6 hy6
  clear m20
  have m20 := HC20.out W6 HB6.out
  clear m21
  have m21 := HC21.out W6 HB6.out
  by_cases h20 : 15 < x20
  · have d20 : decide (15 < x20) = true := decide_eq_true h20
    have HPE := am_ (show parseL l = (zeroP, 5) from by
      unfold parseL
      rw [if_neg (fun h => h HE.out), if_neg (by rw [HKD.out]; decide), if_neg (by rw [HKD.out]; decide), if_pos (by rw [EE.out.2.2.2.1, EE.out.2.2.2.2.1]; unfold restS; rw [EE.out.2.2.2.2.1]; have := b21; omega)])
    have hny := HY6.out
    obtain ⟨y0, y1, y2, y3, y4, y5, y6, y7, y8, y9, y10, y11, y12⟩ := c13 hny
    obtain ⟨u0, u1, u2, u3, u4, u5, u6, u7, u8, u9, u10, u11, u12⟩ := f13 hny
    clear hny
    go_wp2
    (try simp only [Exit.inBlock, Exit.then])
    refine bodyPost_ret (v := .tuple #[.agg zero13, .int .i64 5]) ?_ rfl (parsed_err HPE.out ?_)
    · rw [results_cell_tmp rfl]
      go_simp
    · exact lay13_below HB6.out (Nat.le_refl _) _ _ _ _ _ _ _ _ _ _ _ _ _
  · have d20 : decide (15 < x20) = false := decide_eq_false h20
    by_cases h21 : 40 < x21
    · have d21 : decide (40 < x21) = true := decide_eq_true h21
      have HPE := am_ (show parseL l = (zeroP, 5) from by
        unfold parseL
        rw [if_neg (fun h => h HE.out), if_neg (by rw [HKD.out]; decide), if_neg (by rw [HKD.out]; decide), if_pos (by rw [EE.out.2.2.2.1, EE.out.2.2.2.2.1]; unfold restS; rw [EE.out.2.2.2.2.1]; have := b21; omega)])
      have hny := HY6.out
      obtain ⟨y0, y1, y2, y3, y4, y5, y6, y7, y8, y9, y10, y11, y12⟩ := c13 hny
      obtain ⟨u0, u1, u2, u3, u4, u5, u6, u7, u8, u9, u10, u11, u12⟩ := f13 hny
      clear hny
      go_wp2
      (try simp only [Exit.inBlock, Exit.then])
      refine bodyPost_ret (v := .tuple #[.agg zero13, .int .i64 5]) ?_ rfl (parsed_err HPE.out ?_)
      · rw [results_cell_tmp rfl]
        go_simp
      · exact lay13_below HB6.out (Nat.le_refl _) _ _ _ _ _ _ _ _ _ _ _ _ _
    · have d21 : decide (40 < x21) = false := decide_eq_false h21
      by_cases h22 : (l.length : Int) < 24 + x21
      · have d22 : decide ((l.length : Int) < 24 + x21) = true := decide_eq_true h22
        have HPE := am_ (show parseL l = (zeroP, 5) from by
          unfold parseL
          rw [if_neg (fun h => h HE.out), if_neg (by rw [HKD.out]; decide), if_neg (by rw [HKD.out]; decide), if_pos (by rw [EE.out.2.2.2.1, EE.out.2.2.2.2.1]; unfold restS; rw [EE.out.2.2.2.2.1]; have := b21; omega)])
        have hny := HY6.out
        obtain ⟨y0, y1, y2, y3, y4, y5, y6, y7, y8, y9, y10, y11, y12⟩ := c13 hny
        obtain ⟨u0, u1, u2, u3, u4, u5, u6, u7, u8, u9, u10, u11, u12⟩ := f13 hny
        clear hny
        go_wp2
        (try simp only [Exit.inBlock, Exit.then])
        refine bodyPost_ret (v := .tuple #[.agg zero13, .int .i64 5]) ?_ rfl (parsed_err HPE.out ?_)
        · rw [results_cell_tmp rfl]
          go_simp
        · exact lay13_below HB6.out (Nat.le_refl _) _ _ _ _ _ _ _ _ _ _ _ _ _
      · have d22 : decide ((l.length : Int) < 24 + x21) = false := decide_eq_false h22
        have HPE := am_ (show parseL l = (⟨x0, x1, x12, numL l 4 4, numL l 8 4, numL l 16 2, numL l 18 2, x20, 0, false, 0, (l.take (24 + x21.toNat)).drop 24, (l.take l.length).drop (24 + x21.toNat)⟩, 0) from by
          unfold parseL
          rw [if_neg (fun h => h HE.out), if_neg (by rw [HKD.out]; decide), if_neg (by rw [HKD.out]; decide), if_neg (by rw [EE.out.2.2.2.1, EE.out.2.2.2.2.1]; unfold restS; rw [EE.out.2.2.2.2.1]; have := b21; omega), List.take_length]
          unfold restS
          rw [EE.out.2.1, EE.out.2.2.1, EE.out.2.2.2.1, EE.out.2.2.2.2.1, ← EE.out.1, HKD.out])
        have HX21 := am_ (show 0 ≤ x21 ∧ 24 + x21.toNat ≤ l.length from by have := b21; omega)
        obtain ⟨A2, hcut2, hC2⟩ := cut3 (A := some ad) (c := c) (l := l) 24 (24 + x21.toNat) x21.toNat (iz := 24) (jz := 24 + x21) rfl (by have := b21; omega) (by omega) (by omega) (by have := b21; omega) rfl HC.out
        have HC2 := am_ (fun W (h : Below w.heap.size w W) => hC2 W (Kd.C_below HR.out h))
        clear hC2
        go_upto_region 20 with (first
          | (go_at_call 75; refine (clone_calls (HC2.out _ HB6.out) (C_len (HC2.out w (Below.refl _ _))) (Nat.le_refl _) (by rw [C_len (HC2.out w (Below.refl _ _))]; have := HL.out; have := HX21.out; omega)).mono ?_; rintro e wo ⟨v, rfl, ho, hb6⟩; obtain ⟨Ao, co, ev⟩ := Kd.R_slice ho; rw [C_len (HC2.out w (Below.refl _ _))] at ev; subst ev; have HZo := am_ ((hb6.block g (blk_lt HZ6.out)).trans HZ6.out); have HYo := am_ ((hb6.block w.heap.size (blk_lt HY6.out)).trans HY6.out); have HOo := am_ ho; have HGo := am_ (blk_lt HZ6.out); have HBo := am_ (below_step HB6.out hb6); clear ho hb6 k0 k1 k2 k3 k4 k5 k6 k7 k8 k9 k10 k11 k12 z0 z1 z2 z3 z4 z5 z6 z7 z8 z9 z10 z11 z12; obtain ⟨k0, k1, k2, k3, k4, k5, k6, k7, k8, k9, k10, k11, k12⟩ := c13 HZo.out; obtain ⟨z0, z1, z2, z3, z4, z5, z6, z7, z8, z9, z10, z11, z12⟩ := f13 HZo.out))
        have HFo : Aside0 (∀ k, k ≠ g → (wo.setCell ⟨g, 11, none⟩ (.slice Ao x21.toNat co)).heap[k]? = wo.heap[k]?) := am_ (fun k hk => Below.heap_setCell wo ⟨g, 11, none⟩ _ k hk)
        have HSo : Aside0 ((wo.setCell ⟨g, 11, none⟩ (.slice Ao x21.toNat co)).heap.size = wo.heap.size) := am_ (by simp [World.setCell])
        change Code.wp _ _ _ _ (wo.setCell ⟨g, 11, none⟩ (.slice Ao x21.toNat co))
        clear hcut2 wr d20 d21 d22
        have HLo := am_ HX21.out.2
        generalize hW : wo.setCell ⟨g, 11, none⟩ (.slice Ao x21.toNat co) = W7 at HFo HSo ⊢
        have hz7 : W7.heap[g]? = some (.cells #[.int .i64 x0, .int .i64 x1, .int .i64 x12, .int .i64 (numL l 4 4), .int .i64 (numL l 8 4), .int .i64 (numL l 16 2), .int .i64 (numL l 18 2), .int .i64 x20, .int .i64 0, .bool false, .int .i64 0, .slice Ao x21.toNat co, .slice none 0 0] 37 (0, 0)) := by
          rw [← hW]
          have h := (set_blk (HZo.out) 11 (.slice Ao x21.toNat co))
          simp only [List.setIfInBounds_toArray, List.set_cons_zero, List.set_cons_succ] at h
          exact h
        have hy7 : W7.heap[w.heap.size]? = some (.cells zero13 37 (0, 0)) := by
          rw [← hW]
          exact (Below.heap_setCell _ ⟨g, 11, none⟩ (.slice Ao x21.toNat co) w.heap.size (Nat.ne_of_lt HG2.out)).trans (HYo.out)
        have HB7 : Aside0 (Below w.heap.size w W7) := am_ (by
          rw [← hW]
          repeat (first | with_reducible exact HBo.out | with_reducible apply pw_below_drewN | (refine Below.setCell ?_ HG1.out _)))
        have HZ7 := am_ hz7
        have HY7 := am_ hy7
        clear hW k0 k1 k2 k3 k4 k5 k6 k7 k8 k9 k10 k11 k12 z0 z1 z2 z3 z4 z5 z6 z7 z8 z9 z10 z11 z12
        obtain ⟨k0, k1, k2, k3, k4, k5, k6, k7, k8, k9, k10, k11, k12⟩ := c13 hz7
        obtain ⟨z0, z1, z2, z3, z4, z5, z6, z7, z8, z9, z10, z11, z12⟩ := f13 hz7
        clear hz7 hy7
        obtain ⟨A3, hcut3, hC3⟩ := cut3 (A := some ad) (c := c) (l := l) (24 + x21.toNat) l.length (l.length - (24 + x21.toNat)) (iz := 24 + x21) (jz := (l.length : Int)) (by have := HX21.out; omega) rfl rfl (by have := HX21.out; omega) (Nat.le_refl _) rfl HC.out
        have HC3 := am_ (fun W (h : Below w.heap.size w W) => hC3 W (Kd.C_below HR.out h))
        clear hC3
        go_upto_region 21 with (first
          | (go_at_call 75; refine (clone_calls (HC3.out _ HB7.out) (C_len (HC3.out w (Below.refl _ _))) (Nat.le_refl _) (by rw [C_len (HC3.out w (Below.refl _ _))]; have := HL.out; omega)).mono ?_; rintro e w6 ⟨v, rfl, ho, hb6⟩; obtain ⟨Av, cv, ev⟩ := Kd.R_slice ho; rw [C_len (HC3.out w (Below.refl _ _))] at ev; subst ev; have HZc := am_ ((hb6.block g (blk_lt HZ7.out)).trans HZ7.out); have HYc := am_ ((hb6.block w.heap.size (blk_lt HY7.out)).trans HY7.out); have HO := am_ ho; have HF6 := am_ (show ∀ k, k < W7.heap.size → w6.heap[k]? = W7.heap[k]? from hb6.block); have HLT := am_ (blk_lt HZ7.out); have HBc := am_ (below_step HB7.out hb6); clear ho hb6 k0 k1 k2 k3 k4 k5 k6 k7 k8 k9 k10 k11 k12 z0 z1 z2 z3 z4 z5 z6 z7 z8 z9 z10 z11 z12; obtain ⟨k0, k1, k2, k3, k4, k5, k6, k7, k8, k9, k10, k11, k12⟩ := c13 HZc.out; obtain ⟨z0, z1, z2, z3, z4, z5, z6, z7, z8, z9, z10, z11, z12⟩ := f13 HZc.out))
        clear k0 k1 k2 k3 k4 k5 k6 k7 k8 k9 k10 k11 k12 z0 z1 z2 z3 z4 z5 z6 z7 z8 z9 z10 z11 z12 hcut3
        have hz7 := set_blk HZc.out 12 (.slice Av (l.length - (24 + x21.toNat)) cv)
        simp only [List.setIfInBounds_toArray, List.set_cons_zero, List.set_cons_succ] at hz7
        have hy7 := (Below.heap_setCell w6 ⟨g, 12, none⟩ (.slice Av (l.length - (24 + x21.toNat)) cv) w.heap.size (Nat.ne_of_lt HG2.out)).trans HYc.out
        have HB7 := am_ (HBc.out.setCell (p := ⟨g, 12, none⟩) HG1.out (.slice Av (l.length - (24 + x21.toNat)) cv))
        have HF7 := am_ (show ∀ k, k ≠ g → (w6.setCell ⟨g, 12, none⟩ (.slice Av (l.length - (24 + x21.toNat)) cv)).heap[k]? = w6.heap[k]? from fun k hk => Below.heap_setCell w6 ⟨g, 12, none⟩ _ k hk)
        generalize w6.setCell ⟨g, 12, none⟩ (.slice Av (l.length - (24 + x21.toNat)) cv) = W9 at hz7 hy7 HB7 HF7 ⊢
        obtain ⟨k0, k1, k2, k3, k4, k5, k6, k7, k8, k9, k10, k11, k12⟩ := c13 hz7
        obtain ⟨y0, y1, y2, y3, y4, y5, y6, y7, y8, y9, y10, y11, y12⟩ := c13 hy7
        obtain ⟨u0, u1, u2, u3, u4, u5, u6, u7, u8, u9, u10, u11, u12⟩ := f13 hy7
        clear hz7 hy7
        go_wp2
        (try simp only [Exit.inBlock, Exit.then])
        refine bodyPost_ret (v := .tuple #[.agg #[.int .i64 x0, .int .i64 x1, .int .i64 x12, .int .i64 (numL l 4 4), .int .i64 (numL l 8 4), .int .i64 (numL l 16 2), .int .i64 (numL l 18 2), .int .i64 x20, .int .i64 0, .bool false, .int .i64 0, .slice Ao x21.toNat co, .slice Av (l.length - (24 + x21.toNat)) cv], .int .i64 0]) ?_ rfl (parsed_ok (v1 := .slice Ao x21.toNat co) (v2 := .slice Av (l.length - (24 + x21.toNat)) cv) HPE.out (RB_move HOo.out (Nat.le_of_lt (Nat.lt_trans HG2.out HGo.out)) ?_) (RB_move HO.out (Nat.le_of_lt (Nat.lt_trans HG2.out HLT.out)) ?_) ?_ ?_)
        · rw [results_cell_tmp rfl]
          go_simp
        · intro k hk hlt
          have h1 := HG2.out
          have h2 := HGo.out
          have h3 := HSo.out
          exact (lay13_far (by omega) _ _ _ _ _ _ _ _ _ _ _ _ _).trans ((HF7.out k (by omega)).trans ((HF6.out k (by omega)).trans (HFo.out k (by omega))))
        · intro k hk _
          have h1 := HG2.out
          have h2 := HLT.out
          exact (lay13_far (by omega) _ _ _ _ _ _ _ _ _ _ _ _ _).trans (HF7.out k (by omega))
        · intro k hk he
          have h1 := Kd.R_lt HOo.out k hk
          have h2 := Kd.R_base HO.out k he
          have h3 := HSo.out
          omega
        · exact lay13_below HB7.out (Nat.le_refl _) _ _ _ _ _ _ _ _ _ _ _ _ _
theorem head0 {l : List Int} (h : headE l = 0) : 24 ≤ l.length ∧ l.length ≤ 1500 ∧ numL l 2 2 = (l.length : Int) ∧ l.getD 13 0 = 0 ∧ fold (pairs (l.take 16)) = 65535 ∧ (l.getD 0 0 = 1 ∨ l.getD 0 0 = 2 ∨ (l.getD 0 0 = 3 ∧ 44 ≤ l.length)) := by
  unfold headE at h
  split at h
  · cases h
  split at h
  · cases h
  split at h
  · cases h
  split at h
  · cases h
  split at h
  · cases h
  rename_i h1 h2 h3 h4 h5
  have h3 := Decidable.not_not.1 h3
  have h4 := Decidable.not_not.1 h4
  have h2 := Decidable.not_not.1 h2
  refine ⟨by omega, h3.2.1, h3.1, h3.2.2, h4, by omega⟩
theorem parse_calls {A : Option Addr} {c n : Nat} {l : List Int} {w : World} (hr : Kd.C (Kd.int .u8) w A n l) (hn : l.length = n) (hc : n ≤ c) (hl : l.length ≤ 100000) (hb : Bytes l) :
    Calls Tryz.prog 38 #[.slice A n c] w (Parsed w l) := by
  subst hn
  by_cases he : headE l = 0
  · obtain ⟨h24, _, _, _, _, hk | hk | ⟨hk, h44⟩⟩ := head0 he
    · exact parse_stream hr hc hl hb he h24 hk
    · exact parse_gram hr hc hl hb he h24 hk
    · exact parse_fault hr hc hl hb he h44 hk
  · exact parse_err hr hc hl hb he
/-- Is a packet whole? -/
def wholeL (l : List Int) : Bool := (parseL l).2 == 0 && ((parseL l).1.bare || fold (pairs (summedL l)) == 65535)
theorem of_calls {A : Option Addr} {c n : Nat} {l : List Int} {w : World} (hr : Kd.C (Kd.int .u8) w A n l) (hn : l.length = n) (hc : n ≤ c) (hb : Bytes l) (hl : l.length ≤ 100000) :
    Calls Tryz.prog 19 #[.slice A n c] w fun e w' => e = .returned (.int .i64 (65535 - fold (pairs l))) ∧ Drawn0 w w' := by
  subst hn
  exact sum_Of.calls (l.length + 2) A c l _ w hr hc (of_f (by omega) hb (Nat.le_refl _))
theorem parse0 {l : List Int} {p : Pk} (h : parseL l = (p, 0)) : headE l = 0 := by
  by_cases he : headE l = 0
  · exact he
  · unfold parseL at h
    rw [if_pos he] at h
    exact absurd (congrArg Prod.snd h) he
theorem summed_ok {l : List Int} (hy : Bytes l) (h16 : 16 ≤ l.length) (h15 : l.length ≤ 1500) : (summedL l).length ≤ 2000 ∧ Bytes (summedL l) := by
  have q0 := getD_byte hy 0
  unfold summedL
  refine ⟨?_, ?_⟩
  · split <;> simp [List.length_append, List.length_drop, List.length_take] <;> omega
  · generalize l.getD 0 0 = x at q0 ⊢
    refine Bytes.app (Bytes.app (by split; · exact bytes_nil
                                    · exact (hy.take 12).drop 4) ?_) (hy.drop 16)
    intro y hy'
    simp only [List.mem_cons, List.not_mem_nil, or_false] at hy'
    omega
/-- What stands behind Parse's call, its packet taken apart. -/
def Got (w : World) (p0 p1 p2 p3 p4 p5 p6 p7 p8 : Int) (p9 : Bool) (p10 : Int) (p11 p12 : List Int) (x : Int) (e : Ending) (w' : World) : Prop :=
  ∃ (A1 : Option Addr) (c1 : Nat) (A2 : Option Addr) (c2 : Nat), e = .returned (.tuple #[.agg #[.int .i64 p0, .int .i64 p1, .int .i64 p2, .int .i64 p3, .int .i64 p4, .int .i64 p5, .int .i64 p6, .int .i64 p7, .int .i64 p8, .bool p9, .int .i64 p10, .slice A1 p11.length c1, .slice A2 p12.length c2], .int .i64 x]) ∧ RB w.heap.size w' (.slice A1 p11.length c1) p11 ∧ RB w.heap.size w' (.slice A2 p12.length c2) p12 ∧
    (∀ k, (Value.slice A1 p11.length c1).ownBlock = some k → (Value.slice A2 p12.length c2).ownBlock ≠ some k) ∧ Below w.heap.size w w'
theorem got_of {w w' : World} {l : List Int} {e : Ending} {p0 p1 p2 p3 p4 p5 p6 p7 p8 : Int} {p9 : Bool} {p10 : Int} {p11 p12 : List Int} {x : Int} (hp : parseL l = (⟨p0, p1, p2, p3, p4, p5, p6, p7, p8, p9, p10, p11, p12⟩, x)) (h : Parsed w l e w') : Got w p0 p1 p2 p3 p4 p5 p6 p7 p8 p9 p10 p11 p12 x e w' := by
  obtain ⟨v1, v2, he, h1, h2, h3, h4⟩ := h
  rw [hp] at he h1 h2
  obtain ⟨A1, c1, rfl⟩ := Kd.R_slice h1
  obtain ⟨A2, c2, rfl⟩ := Kd.R_slice h2
  exact ⟨A1, c1, A2, c2, he, h1, h2, h3, h4⟩
/-- Block g holds just these bytes. -/
def Row (w : World) (g : Nat) (L : List Int) : Prop := w.heap[g]? = some (.cells (L.map (Value.int .u8)).toArray 5 (0, 0))
theorem RB_of_row {w : World} {g b : Nat} {L : List Int} (h : Row w g L) (hb : b ≤ g) (hl : L.length ≤ 100000) : RB b w (.slice (some ⟨g, 0, none⟩) L.length L.length) L := by
  refine Kd.R_of_own (enc := Value.int .u8) (h1 := fun _ => rfl) ?_ (fun _ _ => trivial)
  refine ⟨by simp [encs], .inr ⟨g, L.length, (L.map (Value.int .u8)).toArray, rfl, hb, h, Nat.le_refl _, by simp [maxLen]; omega, by simp, ?_⟩⟩
  simp [encs]
  exact List.take_of_length_le (by simp)
theorem row_of_RB {w : World} {g b n : Nat} {L : List Int} (h : RB b w (.slice (some ⟨g, 0, none⟩) n n) L) : Row w g L := by
  have ho := Kd.own_of_R (enc := Value.int .u8) (h1 := fun _ => rfl) h
  have hn : L.length = n := (Kd.R_reads' h).1.symm
  rcases ho.2 with ⟨hv, _⟩ | ⟨g', cap, cur, hv, _, hh, _, _, hs, ht⟩
  · cases hv
  · injection hv with ha hc hd
    injection ha with ha
    injection ha with ha
    subst ha
    unfold Row
    rw [hh]
    have hcs : cur.size = L.length := by omega
    have : cur = (L.map (Value.int .u8)).toArray := by
      apply Array.toList_inj.1
      have h2 : cur.toList.take (L.length * 1) = cur.toList := List.take_of_length_le (by simp; omega)
      rw [← h2, ht]
      simp [encs]
    rw [this]
theorem row_cells {w : World} {g : Nat} {L : List Int} (h : Row w g L) (i : Nat) (hi : i < L.length) : w.cell? ⟨g, i, none⟩ = some (.int .u8 (L.getD i 0)) := by
  unfold Row at h
  simp [World.cell?, h, hi]
theorem row_frozen {w : World} {g : Nat} {L : List Int} (h : Row w g L) (i : Nat) : w.frozen? ⟨g, i, none⟩ = false := by
  unfold Row at h
  simp [World.frozen?, h]
theorem row_set {w : World} {g : Nat} {L : List Int} (h : Row w g L) (i : Nat) (x : Int) : Row (w.setCell ⟨g, i, none⟩ (.int .u8 x)) g (L.set i x) := by
  have := set_blk h i (.int .u8 x)
  unfold Row
  rw [this]
  simp [List.map_set]
theorem row_C {w : World} {g : Nat} {L : List Int} (h : Row w g L) (hl : L.length ≤ 100000) : Kd.C (Kd.int .u8) w (some ⟨g, 0, none⟩) L.length L := (Kd.R_reads' (RB_of_row (b := 0) h (Nat.zero_le _) hl)).2.2
/-- What turns no block but one. -/
structure Chg (w w' : World) (g : Nat) : Prop where
  os : w'.os = w.os
  tape : w'.tape = w.tape
  output : w'.output = w.output
  size : w.heap.size ≤ w'.heap.size
  block : ∀ k, k < w.heap.size → k ≠ g → w'.heap[k]? = w.heap[k]?
theorem Chg.below {w0 w w' : World} {g : Nat} (h : Chg w w' g) (h0 : Below w0.heap.size w0 w) (hg : w0.heap.size ≤ g) : Below w0.heap.size w0 w' :=
  h0.trans ⟨h.os, h.tape, h.output, h.size, fun k hk => h.block k (Nat.lt_of_lt_of_le hk h0.size) (by omega)⟩
theorem Chg.of_grown {w w' : World} {g : Nat} (h : w.grownBy w' (some g)) : Chg w w' g := ⟨h.os, h.tape, h.output, h.size, fun k hk hne => h.block k hk (fun e => hne (by injection e))⟩
theorem put_row {w0 w : World} {g n : Nat} {L : List Int} (i m : Nat) (x : Int) {iz mz : Int} (hB : Below w0.heap.size w0 w) (hg : w0.heap.size ≤ g) (h : Row w g L) (hn : L.length = n) (hl : L.length ≤ 100000) (h1 : iz = i) (h2 : mz = m) (hm : m ≤ 4) (hi : i + m ≤ L.length) :
    Calls Tryz.prog 32 #[.slice (some ⟨g, 0, none⟩) n n, .int .i64 iz, .int .i64 mz, .int .i64 x] w fun e w' => e = .returned (.tuple #[]) ∧ Row w' g (putL L i m x) ∧ Chg w w' g := by
  subst hn
  refine (put_calls i m x hB (RB_of_row h hg hl) hl h1 h2 hm hi).mono ?_
  rintro e w' ⟨rfl, hr, hb, hgr⟩
  exact ⟨rfl, row_of_RB hr, Chg.of_grown hgr⟩
/-- May a packet's numbers be? -/
def rgB (n m : Int) : Bool := decide (0 ≤ n) && decide (n ≤ m)
def okR (p : Pk) : Bool :=
  rgB p.life 255 && rgB p.piece 255 && rgB p.frm 4294967295 && rgB p.dst 4294967295 && (if p.kind = 3 then rgB p.code 255 else rgB p.fp 65535 && rgB p.tp 65535 && (if p.kind = 2 then rgB p.label 65535 else rgB p.flags 15))
theorem within_ff (n m : Int) : wire_within.f n m = some (rgB n m) := by
  unfold wire_within.f rgB
  by_cases h : n ≥ 0
  · rw [if_pos h, decide_eq_true (show 0 ≤ n from h)]; simp
  · rw [if_neg h, decide_eq_false (show ¬ 0 ≤ n from h)]; simp
theorem within_true {a m : Int} (h : rgB a m = true) (W : World) : Calls Tryz.prog 71 #[.int .i64 a, .int .i64 m] W fun e w' => e = .returned (.bool true) ∧ Drawn0 W w' := wire_within.calls a m true W (by rw [within_ff, h])
theorem ranges_true {p0 p1 p2 p3 p4 p5 p6 p7 p8 : Int} {p9 : Bool} {p10 : Int} {A1 A2 : Option Addr} {n1 c1 n2 c2 : Nat} {p11 p12 : List Int} (hk : p0 = 1 ∨ p0 = 2) (hok : okR ⟨p0, p1, p2, p3, p4, p5, p6, p7, p8, p9, p10, p11, p12⟩ = true) (w : World) :
    Calls Tryz.prog 31 #[.agg #[.int .i64 p0, .int .i64 p1, .int .i64 p2, .int .i64 p3, .int .i64 p4, .int .i64 p5, .int .i64 p6, .int .i64 p7, .int .i64 p8, .bool p9, .int .i64 p10, .slice A1 n1 c1, .slice A2 n2 c2]] w fun e w' => e = .returned (.bool true) ∧ Below w.heap.size w w' := by
  have q3 : (p0 == 3) = false := by rcases hk with h | h <;> rw [h] <;> rfl
  unfold okR at hok
  simp only [Bool.and_eq_true] at hok
  obtain ⟨⟨⟨⟨h1, h2⟩, h3⟩, h4⟩, h5⟩ := hok
  rw [if_neg (by omega)] at h5
  simp only [Bool.and_eq_true] at h5
  obtain ⟨⟨h6, h7⟩, h8⟩ := h5
  have W1 := am_ (within_true h1)
  have W2 := am_ (within_true h2)
  have W3 := am_ (within_true h3)
  have W4 := am_ (within_true h4)
  have W5 := am_ (within_true h6)
  have W6 := am_ (within_true h7)
  have hb := below_alloc (Below.refl w.heap.size w) (.cells #[.int .i64 p0, .int .i64 p1, .int .i64 p2, .int .i64 p3, .int .i64 p4, .int .i64 p5, .int .i64 p6, .int .i64 p7, .int .i64 p8, .bool p9, .int .i64 p10, .slice A1 n1 c1, .slice A2 n2 c2] 37)
  have HB := am_ hb
  rcases hk with hk | hk
  · have q2 : (p0 == 2) = false := by rw [hk]; rfl
    rw [if_neg (by omega)] at h8
    have W7 := am_ (within_true h8)
    clear hk h1 h2 h3 h4 h6 h7 h8 hb
    go_enter Tryz.func31, Tryz.ntmps31
    go_wp2_with (first | (go_at_call 71; (first | (with_reducible refine (W1.out _).mono ?_) | (with_reducible refine (W2.out _).mono ?_) | (with_reducible refine (W3.out _).mono ?_) | (with_reducible refine (W4.out _).mono ?_) | (with_reducible refine (W5.out _).mono ?_) | (with_reducible refine (W6.out _).mono ?_) | (with_reducible refine (W7.out _).mono ?_)); rintro e6 x6 ⟨rfl, ⟨⟨nq, rfl⟩⟩⟩))
    go_ret
    exact ⟨rfl, by repeat (first | exact HB.out | apply pw_below_drewN)⟩
  · have q2 : (p0 == 2) = true := by rw [hk]; rfl
    rw [if_pos hk] at h8
    have W7 := am_ (within_true h8)
    clear hk h1 h2 h3 h4 h6 h7 h8 hb
    go_enter Tryz.func31, Tryz.ntmps31
    go_wp2_with (first | (go_at_call 71; (first | (with_reducible refine (W1.out _).mono ?_) | (with_reducible refine (W2.out _).mono ?_) | (with_reducible refine (W3.out _).mono ?_) | (with_reducible refine (W4.out _).mono ?_) | (with_reducible refine (W5.out _).mono ?_) | (with_reducible refine (W6.out _).mono ?_) | (with_reducible refine (W7.out _).mono ?_)); rintro e6 x6 ⟨rfl, ⟨⟨nq, rfl⟩⟩⟩))
    go_ret
    exact ⟨rfl, by repeat (first | exact HB.out | apply pw_below_drewN)⟩
def nL (p : Pk) : Nat := if p.kind = 1 then 24 + p.data.length + p.opts.length else if p.kind = 3 then 20 + p.data.length else 24 + p.data.length
def buildE (p : Pk) : Int :=
  if ¬ (1 ≤ p.kind ∧ p.kind ≤ 3) then 2 else if okR p = false then 14 else if p.kind = 1 ∧ 40 < p.opts.length then 5
  else if (p.kind = 3 ∧ p.data.length < 24) ∨ 1500 < nL p then 3 else 0
def h3L (n : Nat) (kind life piece frm dst : Int) : List Int :=
  putL (putL (putL ((((List.replicate n 0).set 0 (kind % 256)).set 1 (life % 256)).set 12 (piece % 256)) 2 2 n) 4 4 frm) 8 4 dst
def h4L (n : Nat) (kind life piece frm dst : Int) : List Int :=
  putL (h3L n kind life piece frm dst) 14 2 (65535 - fold (pairs ((h3L n kind life piece frm dst).take 16)))
/-- The sum that a body gets. -/
def sumL (kind : Int) (bare : Bool) (l : List Int) : Int :=
  if kind = 2 ∧ bare = true then 0 else if kind = 2 ∧ 65535 - fold (pairs (summedL l)) = 0 then 65535 else 65535 - fold (pairs (summedL l))
def bodyL (p : Pk) : List Int :=
  let h4 := h4L (nL p) p.kind p.life p.piece p.frm p.dst
  let h5 := putL (putL h4 16 2 p.fp) 18 2 p.tp
  splice (if p.kind = 3 then h4.set 16 (p.code % 256) else if p.kind = 2 then putL h5 20 2 p.label else splice ((h5.set 20 (p.flags % 256)).set 21 ((p.opts.length : Int) % 256)) 24 p.opts) (nL p - p.data.length) p.data
def buildL (p : Pk) : List Int := putL (bodyL p) (if p.kind = 3 then 18 else 22) 2 (sumL p.kind p.bare (bodyL p))
/-- make([]byte, n), as a row. -/
theorem make_row {ops : Array Oper} {rest : List Oper} {o : Oper} {a : Act} {Q : Exit → Act → World → Prop} {W : World} (g : Nat) (hgW : W.heap.size = g) (hgd : o.guard = none) (x y : Operand) (ho : o.op = .makeSlice 35 x y) (n : Nat) (nz : Int)
    (hnz : nz = n) (hx : a.eval x = .int .i64 nz) (hy : a.eval y = .int .i64 nz) (hn : n ≤ 100000)
    (h : ∀ w1, Row w1 g (List.replicate n 0) → Below g W w1 → wpList Tryz.prog ops Q rest (a.put o.dst (.slice (some ⟨g, 0, none⟩) n n)) w1) : wpList Tryz.prog ops Q (o :: rest) a W := by
  subst hnz hgW
  obtain ⟨i0, hi, hzz⟩ := Option.map_eq_some_iff.1 info5
  simp only [Prod.mk.injEq] at hzz
  obtain ⟨hz0, hz1, hz2⟩ := hzz
  have hr := run_make (P := Tryz.prog) W 35 5 i0 (.int .u8 0) Tryz.underlying35 hi hz0 .i64 .i64 (n : Int) (n : Int) (by omega) (by omega) (by rw [hz2]; omega) (by omega)
  simp only [Int.toNat_natCast, hz1] at hr
  refine Kd.event_run hgd (v := .slice (some ⟨W.heap.size, 0, none⟩) n n) (w1 := W.alloc (.cells (madeCells (Value.int .u8 0).cells (n * 1)) 5)) (by simp [execOp, ho, hx, hy, hr]) (h _ ?_ ((Below.refl _ W).alloc (Nat.le_refl _) _))
  unfold Row
  rw [new_blk]
  have : madeCells (Value.int .u8 0).cells (n * 1) = (List.map (Value.int .u8) (List.replicate n 0)).toArray := by
    apply Array.toList_inj.1
    show (madeCells #[Value.int .u8 0] (n * 1)).toList = _
    rw [toList_madeCells_one]
    simp
  rw [this]
theorem splice_len {L : List Int} {o : Nat} {cs : List Int} (h : o + cs.length ≤ L.length) : (splice L o cs).length = L.length := length_splice L o cs h
theorem splice_bytes {L : List Int} {o : Nat} {cs : List Int} (h : Bytes L) (h2 : Bytes cs) : Bytes (splice L o cs) := by
  unfold splice
  exact (h.take _).app (h2.app (h.drop _))
theorem splice_map {L cs : List Int} {o : Nat} : (splice L o cs).map (Value.int .u8) = splice (L.map (Value.int .u8)) o (cs.map (Value.int .u8)) := by
  unfold splice
  simp [List.map_take, List.map_drop]
/-- b[i:] of a row: where it lies. -/
theorem cut_row (g n i : Nat) {iz : Int} (hi : iz = i) (hin : i ≤ n) : ∃ A' : Option Addr, (i < n → A' = some ⟨g, i, none⟩) ∧
    ∀ W : World, (Instr.slice 35 (.slice (some ⟨g, 0, none⟩) n n) (some (.int .i64 iz)) none none).run Tryz.prog W = .ok (.slice A' (n - i) (n - i)) W := by
  subst hi
  obtain ⟨i0, hi0, _, hsz, _⟩ := info_parts info5
  have hel : Tryz.prog.elem 35 = 5 := by simp [Program.elem, Tryz.underlying35]
  have hu : Tryz.prog.underlying 35 = some (.slice (Tryz.prog.elem 35)) := by rw [hel]; exact Tryz.underlying35
  refine ⟨if n = i then some ⟨g, 0, none⟩ else (some (⟨g, 0, none⟩ : Addr)).map (·.add i), fun h => ?_, fun W => ?_⟩
  · rw [if_neg (by omega)]
    simp [Addr.add_lit]
  · rw [run_slice_l W 35 (some ⟨g, 0, none⟩) n n hu .i64 (i : Int) (by omega) (by omega), hel]
    simp [sizeOf, typeInfo, hi0, hsz, sliced, Result.andThen]
/-- copy(b[i:], src) into a row, as a step of a region that draws. -/
theorem copy_row {ops : Array Oper} {o : Oper} {a : Act} {w : World} {K : Act → World → Prop} {Q : Exit → Act → World → Prop} {E : Prop} (hgd : o.guard = none) (d s : Operand)
    (ho : o.op = .call { callee := .builtin .copy, args := #[d, s], argTypes := #[35, 35] }) {g i n m c : Nat} {A' A : Option Addr} {L cs : List Int} (hd : a.eval d = .slice A' m m) (hs : a.eval s = .slice A cs.length c)
    (hA : i < n → A' = some ⟨g, i, none⟩) (hm : m = n - i) (hR : Row w g L) (hL : L.length = n) (hC : Kd.C (Kd.int .u8) w A cs.length cs) (hfit : i + cs.length ≤ n)
    (h : ∀ w', Row w' g (splice L i cs) → Below g w w' → K (a.put o.dst (goInt cs.length)) w') :
    if Region.wanted o (yielded ops a.tmps) = true then Oper.wp Tryz.prog o a w K Q else E := by
  obtain ⟨i0, hi0, _, hsz, _⟩ := info_parts info5
  refine step_copy_splice hgd d s 35 35 ho 5 Tryz.underlying35 (by rw [hi0]; simp [hsz]) A' A m m cs.length c hd hs g i (L.map (Value.int .u8)) 5 hR (cs.map (Value.int .u8)) ?_ ?_ ?_ ?_ g w (Below.refl _ _) (Nat.le_refl _) ?_
  · rw [List.length_map]
    exact (Nat.min_eq_left (by omega)).symm
  · intro h0
    rw [List.length_map] at h0
    obtain ⟨ad, e, hc⟩ := cells_of hC h0
    refine ⟨hA (by omega), ad, e, fun j v hj => ?_⟩
    rw [List.getElem?_map] at hj
    obtain ⟨y, hy, rfl⟩ := Option.map_eq_some_iff.1 hj
    have hjl := (List.getElem?_eq_some_iff.1 hy).1
    rw [hc j hjl, List.getD_eq_getElem?_getD, hy]
    rfl
  · rw [List.length_map, List.length_map]; omega
  · intro v hv
    obtain ⟨y, _, rfl⟩ := List.mem_map.1 hv
    rfl
  · intro w' hh hb
    have := h w' (by unfold Row; rw [splice_map]; exact hh.out) hb
    simpa using this
theorem build_gram {A1 A2 : Option Addr} {c1 c2 : Nat} {p0 p1 p2 p3 p4 p5 p6 p7 p8 : Int} {p9 : Bool} {p10 : Int} {p11 p12 : List Int} {w : World} (ha : Kd.C (Kd.int .u8) w A1 p11.length p11) (hca : p11.length ≤ c1) (hd : Kd.C (Kd.int .u8) w A2 p12.length p12) (hcd : p12.length ≤ c2) (hba : Bytes p11) (hbd : Bytes p12) (hk : p0 = 2) (he : buildE ⟨p0, p1, p2, p3, p4, p5, p6, p7, p8, p9, p10, p11, p12⟩ = 0) :
    Calls Tryz.prog 7 #[.agg #[.int .i64 p0, .int .i64 p1, .int .i64 p2, .int .i64 p3, .int .i64 p4, .int .i64 p5, .int .i64 p6, .int .i64 p7, .int .i64 p8, .bool p9, .int .i64 p10, .slice A1 p11.length c1, .slice A2 p12.length c2]] w fun e w' => ∃ v, e = .returned (.tuple #[v, .int .i64 0]) ∧ RB w.heap.size w' v (buildL ⟨p0, p1, p2, p3, p4, p5, p6, p7, p8, p9, p10, p11, p12⟩) ∧ Below w.heap.size w w' := by
  have hn : nL ⟨p0, p1, p2, p3, p4, p5, p6, p7, p8, p9, p10, p11, p12⟩ = 24 + p12.length := by unfold nL; simp [hk]
  have hok : okR ⟨p0, p1, p2, p3, p4, p5, p6, p7, p8, p9, p10, p11, p12⟩ = true := by
    unfold buildE at he
    split at he
    · cases he
    split at he
    · cases he
    rename_i h; simpa using h
  have hlim : nL ⟨p0, p1, p2, p3, p4, p5, p6, p7, p8, p9, p10, p11, p12⟩ ≤ 1500 ∧ (p0 = 1 → p11.length ≤ 40) ∧ (p0 = 3 → 24 ≤ p12.length) := by
    unfold buildE at he
    split at he
    · cases he
    split at he
    · cases he
    split at he
    · cases he
    split at he
    · cases he
    rename_i h1 h2 h3 h4
    refine ⟨by omega, fun h => ?_, fun h => ?_⟩
    · have : ¬ 40 < p11.length := fun h5 => h3 ⟨h, h5⟩
      omega
    · have : ¬ p12.length < 24 := fun h5 => h4 (Or.inl ⟨h, h5⟩)
      omega
  obtain ⟨n, hne⟩ : ∃ n, 24 + p12.length = n := ⟨_, rfl⟩
  rw [hn, hne] at hlim
  have HN := am_ (show 20 ≤ n ∧ n ≤ 1500 ∧ 24 + p12.length = n from ⟨by omega, hlim.1, hne⟩)
  have HNL := am_ (hn.trans hne)
  have HLIM := am_ hlim
  have HNN := am_ (show wrap64 (24 + (p12.length : Int)) = (n : Int) from by rw [wid (by omega) (by omega)]; omega)
  have dlim : decide (1500 < wrap64 (24 + (p12.length : Int))) = false := decide_eq_false (by rw [HNN.out]; omega)
  have HA := am_ ha
  have HD := am_ hd
  have HYA := am_ hba
  have HYD := am_ hbd
  have HK := am_ hk
  have q1 : (p0 == 1) = false := by rw [hk]; rfl
  have q1n : (p0 != 1) = true := by rw [hk]; rfl
  have q2 : (p0 == 2) = true := by rw [hk]; rfl
  have q2n : (p0 != 2) = false := by rw [hk]; rfl
  have q3 : (p0 == 3) = false := by rw [hk]; rfl
  have q3n : (p0 != 3) = true := by rw [hk]; rfl
  have G34 := am_ (fun W => wire_known.calls p0 true W (by unfold wire_known.f; rw [if_pos (by omega)]; simp [hk]))
  have HOK := am_ hok
  have G35 := am_ (fun W (h : Below w.heap.size w W) => (show Calls Tryz.prog 31 #[.agg #[.int .i64 p0, .int .i64 p1, .int .i64 p2, .int .i64 p3, .int .i64 p4, .int .i64 p5, .int .i64 p6, .int .i64 p7, .int .i64 p8, .bool p9, .int .i64 p10, .slice A1 p11.length c1, .slice A2 p12.length c2]] W fun e w' => e = .returned (.bool true) ∧ Below W.heap.size W w' from by
    exact ranges_true (Or.inr HK.out) HOK.out W))
  have HBA := am_ (fun o => (Below.refl w.heap.size w).alloc (Nat.le_refl _) o)
  clear ha hd hba hbd hk he hn hok hlim hne hca hcd
  go_enter Tryz.func7, Tryz.ntmps7
  go_upto_region 14 with (first
    | (go_at_call 30; (with_reducible refine (G34.out _).mono ?_); rintro e w1 ⟨rfl, ⟨⟨nd, rfl⟩⟩⟩)
    | (go_at_call 31; (with_reducible refine (G35.out _ ?hb).mono ?_); (case hb => repeat (first | with_reducible exact HBA.out _ | with_reducible apply pw_below_drewN)); rintro e w2 ⟨rfl, hb2⟩; have HZ2 := am_ ((hb2.block w.heap.size (blk_lt (new_blk w (.cells #[.int .i64 p0, .int .i64 p1, .int .i64 p2, .int .i64 p3, .int .i64 p4, .int .i64 p5, .int .i64 p6, .int .i64 p7, .int .i64 p8, .bool p9, .int .i64 p10, .slice A1 p11.length c1, .slice A2 p12.length c2] 37)))).trans (new_blk w (.cells #[.int .i64 p0, .int .i64 p1, .int .i64 p2, .int .i64 p3, .int .i64 p4, .int .i64 p5, .int .i64 p6, .int .i64 p7, .int .i64 p8, .bool p9, .int .i64 p10, .slice A1 p11.length c1, .slice A2 p12.length c2] 37))); have HB2 := am_ (below_step (bd (HBA.out (.cells #[.int .i64 p0, .int .i64 p1, .int .i64 p2, .int .i64 p3, .int .i64 p4, .int .i64 p5, .int .i64 p6, .int .i64 p7, .int .i64 p8, .bool p9, .int .i64 p10, .slice A1 p11.length c1, .slice A2 p12.length c2] 37)) _) hb2); clear hb2; obtain ⟨k0, k1, k2, k3, k4, k5, k6, k7, k8, k9, k10, k11, k12⟩ := c13 HZ2.out))
  clear G34 G35 HBA dlim
  obtain ⟨g, HGE⟩ : ∃ g, w2.heap.size = g := ⟨_, rfl⟩
  have HGL := am_ (show w.heap.size < g from by rw [← HGE]; exact blk_lt HZ2.out)
  have HGG := am_ (Nat.le_of_lt HGL.out)
  go_upto_region 15 with (first
    | ((with_reducible refine gate_dst (N := 61) rfl ?_); refine make_row g HGE rfl (.tmp 60) (.tmp 60) rfl n (wrap64 (24 + (p12.length : Int))) HNN.out rfl rfl (by have := HN.out; omega) ?_; intro w3 hr hb3; have HR3 := am_ hr; have HZ3 := am_ ((hb3.block w.heap.size HGL.out).trans HZ2.out); have HB3 := am_ (HB2.out.trans (hb3.mono HGG.out)); have HS3 := am_ (show g < w3.heap.size from blk_lt hr); clear hr hb3; clear k0 k1 k2 k3 k4 k5 k6 k7 k8 k9 k10 k11 k12; obtain ⟨k0, k1, k2, k3, k4, k5, k6, k7, k8, k9, k10, k11, k12⟩ := c13 HZ3.out))
  have HCZ := am_ (fun W (h : Below g w3 W) => c13 ((h.block w.heap.size HGL.out).trans HZ3.out))
  have r0 := row_cells HR3.out 0 (by have := HN.out; simp; omega)
  have r1 := row_cells HR3.out 1 (by have := HN.out; simp; omega)
  have r12 := row_cells HR3.out 12 (by have := HN.out; simp; omega)
  have s0 := row_frozen HR3.out 0
  have s1 := row_frozen HR3.out 1
  have s12 := row_frozen HR3.out 12
  have hn0 : (0 : Int) < (n : Int) := by have := HN.out; omega
  have hn0n : 0 < n := by have := HN.out; omega
  have hn1 : (1 : Int) < (n : Int) := by have := HN.out; omega
  have hn12 : (12 : Int) < (n : Int) := by have := HN.out; omega
  clear k0 k1 k2 k3 k4 k5 k6 k7 k8 k9 k10 k11 k12
  refine start_ (n := 18) (S := fun w' => w'.cell? ⟨w.heap.size, 0, none⟩ = some (.int .i64 p0) ∧ w'.cell? ⟨w.heap.size, 1, none⟩ = some (.int .i64 p1) ∧ w'.cell? ⟨w.heap.size, 2, none⟩ = some (.int .i64 p2)) (ds := []) #[fF,fF,fF,fF,fF,fF,fF,fF,fF,fF,fF,fF,fF,fF,fF,fF,fF,fF] (by kernel_rfl) rfl rfl ⟨(HCZ.out _ (Below.refl g w3).drew).1, (HCZ.out _ (Below.refl g w3).drew).2.1, (HCZ.out _ (Below.refl g w3).drew).2.2.1⟩ (fun hHeld => ?_)
  refine p_ 0 62 ?_
  refine p_ 1 63 ?_
  refine p_ 2 64 ?_
  refine p_ 3 65 ?_
  refine p_ 6 68 ?_
  refine p_ 9 71 ?_
  refine t_ 4 66 hHeld ?_
  refine p_ 5 67 ?_
  refine p_ 12 74 ?_
  refine t_ 7 69 hHeld ?_
  refine p_ 8 70 ?_
  refine t_ 10 72 hHeld ?_
  refine p_ 11 73 ?_
  refine o_ 13 none (fun K hK => ?_)
  refine s_ ?_
  refine hK.out _ _ ⟨(HCZ.out _ ((Below.refl g w3).drew.setCell (p := ⟨g, 0, none⟩) (Nat.le_refl _) _)).1, (HCZ.out _ ((Below.refl g w3).drew.setCell (p := ⟨g, 0, none⟩) (Nat.le_refl _) _)).2.1, (HCZ.out _ ((Below.refl g w3).drew.setCell (p := ⟨g, 0, none⟩) (Nat.le_refl _) _)).2.2.1⟩ (fun hHeld => ?_)
  clear hK K
  refine p_ 14 75 ?_
  refine o_ 15 none (fun K hK => ?_)
  refine s_ ?_
  refine hK.out _ _ ⟨(HCZ.out _ (((Below.refl g w3).drew.setCell (p := ⟨g, 0, none⟩) (Nat.le_refl _) _).setCell (p := ⟨g, 1, none⟩) (Nat.le_refl _) _)).1, (HCZ.out _ (((Below.refl g w3).drew.setCell (p := ⟨g, 0, none⟩) (Nat.le_refl _) _).setCell (p := ⟨g, 1, none⟩) (Nat.le_refl _) _)).2.1, (HCZ.out _ (((Below.refl g w3).drew.setCell (p := ⟨g, 0, none⟩) (Nat.le_refl _) _).setCell (p := ⟨g, 1, none⟩) (Nat.le_refl _) _)).2.2.1⟩ (fun hHeld => ?_)
  clear hK K
  refine p_ 16 76 ?_
  refine o_ 17 none (fun K hK => ?_)
  refine s_ ?_
  refine hK.out _ _ ⟨(HCZ.out _ ((((Below.refl g w3).drew.setCell (p := ⟨g, 0, none⟩) (Nat.le_refl _) _).setCell (p := ⟨g, 1, none⟩) (Nat.le_refl _) _).setCell (p := ⟨g, 12, none⟩) (Nat.le_refl _) _)).1, (HCZ.out _ ((((Below.refl g w3).drew.setCell (p := ⟨g, 0, none⟩) (Nat.le_refl _) _).setCell (p := ⟨g, 1, none⟩) (Nat.le_refl _) _).setCell (p := ⟨g, 12, none⟩) (Nat.le_refl _) _)).2.1, (HCZ.out _ ((((Below.refl g w3).drew.setCell (p := ⟨g, 0, none⟩) (Nat.le_refl _) _).setCell (p := ⟨g, 1, none⟩) (Nat.le_refl _) _).setCell (p := ⟨g, 12, none⟩) (Nat.le_refl _) _)).2.2.1⟩ (fun hHeld => ?_)
  clear hK K
  refine done_ (by kernel_rfl) ?_
  clear r0 r1 r12 s0 s1 s12 hHeld
  generalize hW : World.drew _ = w4
  have hr : Row w4 g ((((List.replicate n 0).set 0 (IntKind.u8.wrap p0)).set 1 (IntKind.u8.wrap p1)).set 12 (IntKind.u8.wrap p2)) := by
    rw [← hW]
    exact row_set (row_set (row_set HR3.out 0 (IntKind.u8.wrap p0)) 1 (IntKind.u8.wrap p1)) 12 (IntKind.u8.wrap p2)
  simp only [IntKind.wrap_u8] at hr
  obtain ⟨L4, el⟩ : ∃ L, (((List.replicate n 0).set 0 (p0 % 256)).set 1 (p1 % 256)).set 12 (p2 % 256) = L := ⟨_, rfl⟩
  rw [el] at hr
  have EL4 := am_ el
  clear el
  have HR4 := am_ hr
  have HX4 := am_ (show Below g w3 w4 from by
    rw [← hW]
    exact (((((Below.refl g w3).setCell (p := ⟨g, 0, none⟩) (Nat.le_refl _) _).setCell (p := ⟨g, 1, none⟩) (Nat.le_refl _) _).setCell (p := ⟨g, 12, none⟩) (Nat.le_refl _) _)).drew)
  have HZ4 := am_ ((HX4.out.block w.heap.size HGL.out).trans HZ3.out)
  have HB4 := am_ (HB3.out.trans (HX4.out.mono HGG.out))
  have HS4 := am_ (show g ≤ w4.heap.size from Nat.le_of_lt (blk_lt hr))
  have HL4 := am_ (show L4.length = n from by rw [← EL4.out]; simp)
  have HQ4 := am_ (show Bytes L4 from by
    rw [← EL4.out]
    refine Bytes.set (Bytes.set (Bytes.set ?_ _ (by omega) (by omega)) _ (by omega) (by omega)) _ (by omega) (by omega)
    intro x hx
    have := List.eq_of_mem_replicate hx
    omega)
  clear hW hr HX4 HCZ HR3 HZ3 HZ2 HB2
  obtain ⟨k0, k1, k2, k3, k4, k5, k6, k7, k8, k9, k10, k11, k12⟩ := c13 HZ4.out
  have PR := am_ (put_row (w0 := w) (w := w4) 2 2 (wrap64 (24 + (p12.length : Int))) (iz := 2) (mz := 2) (HB4.out) HGG.out HR4.out HL4.out (by have := HL4.out; have := HN.out; omega) rfl rfl (by omega) (by have := HL4.out; have := HN.out; omega))
  go_upto_region 17 with (first | (go_at_call 32; (with_reducible refine PR.out.mono ?_); rintro e w5 ⟨rfl, hr, hc⟩; obtain ⟨L5, el⟩ : ∃ L, putL L4 2 2 (wrap64 (24 + (p12.length : Int))) = L := ⟨_, rfl⟩; rw [el] at hr; have EL5 := am_ el; clear el; have HR5 := am_ hr; have HB5 := am_ (hc.below HB4.out HGG.out); have HZ5 := am_ ((hc.block w.heap.size (Nat.lt_of_lt_of_le HGL.out HS4.out) (Nat.ne_of_lt HGL.out)).trans HZ4.out); have HS5 := am_ (Nat.le_trans HS4.out hc.size); have HL5 := am_ (show L5.length = n from by rw [← EL5.out, putL_len]; exact HL4.out); have HQ5 := am_ (show Bytes L5 from by rw [← EL5.out]; exact putL_bytes _ _ _ HQ4.out); clear hr hc; clear k0 k1 k2 k3 k4 k5 k6 k7 k8 k9 k10 k11 k12; obtain ⟨k0, k1, k2, k3, k4, k5, k6, k7, k8, k9, k10, k11, k12⟩ := c13 HZ5.out))
  clear PR
  have PR := am_ (put_row (w0 := w) (w := w5) 4 4 (p3) (iz := 4) (mz := 4) (HB5.out) HGG.out HR5.out HL5.out (by have := HL5.out; have := HN.out; omega) rfl rfl (by omega) (by have := HL5.out; have := HN.out; omega))
  go_upto_region 18 with (first | (go_at_call 32; (with_reducible refine PR.out.mono ?_); rintro e w6 ⟨rfl, hr, hc⟩; obtain ⟨L6, el⟩ : ∃ L, putL L5 4 4 (p3) = L := ⟨_, rfl⟩; rw [el] at hr; have EL6 := am_ el; clear el; have HR6 := am_ hr; have HB6 := am_ (hc.below HB5.out HGG.out); have HZ6 := am_ ((hc.block w.heap.size (Nat.lt_of_lt_of_le HGL.out HS5.out) (Nat.ne_of_lt HGL.out)).trans HZ5.out); have HS6 := am_ (Nat.le_trans HS5.out hc.size); have HL6 := am_ (show L6.length = n from by rw [← EL6.out, putL_len]; exact HL5.out); have HQ6 := am_ (show Bytes L6 from by rw [← EL6.out]; exact putL_bytes _ _ _ HQ5.out); clear hr hc; clear k0 k1 k2 k3 k4 k5 k6 k7 k8 k9 k10 k11 k12; obtain ⟨k0, k1, k2, k3, k4, k5, k6, k7, k8, k9, k10, k11, k12⟩ := c13 HZ6.out))
  clear PR
  have PR := am_ (put_row (w0 := w) (w := w6) 8 4 (p4) (iz := 8) (mz := 4) (HB6.out) HGG.out HR6.out HL6.out (by have := HL6.out; have := HN.out; omega) rfl rfl (by omega) (by have := HL6.out; have := HN.out; omega))
  go_upto_region 19 with (first | (go_at_call 32; (with_reducible refine PR.out.mono ?_); rintro e w7 ⟨rfl, hr, hc⟩; obtain ⟨L7, el⟩ : ∃ L, putL L6 8 4 (p4) = L := ⟨_, rfl⟩; rw [el] at hr; have EL7 := am_ el; clear el; have HR7 := am_ hr; have HB7 := am_ (hc.below HB6.out HGG.out); have HZ7 := am_ ((hc.block w.heap.size (Nat.lt_of_lt_of_le HGL.out HS6.out) (Nat.ne_of_lt HGL.out)).trans HZ6.out); have HS7 := am_ (Nat.le_trans HS6.out hc.size); have HL7 := am_ (show L7.length = n from by rw [← EL7.out, putL_len]; exact HL6.out); have HQ7 := am_ (show Bytes L7 from by rw [← EL7.out]; exact putL_bytes _ _ _ HQ6.out); clear hr hc; clear k0 k1 k2 k3 k4 k5 k6 k7 k8 k9 k10 k11 k12; obtain ⟨k0, k1, k2, k3, k4, k5, k6, k7, k8, k9, k10, k11, k12⟩ := c13 HZ7.out))
  clear PR
  obtain ⟨hcut16, hC16⟩ := cut_to (A := some ⟨g, 0, none⟩) (c := n) (l := L7) 16 (jz := 16) rfl (by have := HN.out; omega) HL7.out (Nat.le_refl _)
  have OF := am_ (of_calls (c := n) (hC16 w7 (by have h := row_C HR7.out (by have := HL7.out; have := HN.out; omega); rw [HL7.out] at h; exact h)) (by rw [List.length_take, HL7.out]; have := HN.out; omega) (by have := HN.out; omega) (HQ7.out.take 16) (by rw [List.length_take]; omega))
  clear hC16
  have PR := am_ (fun nd_ => put_row (w0 := w) (w := (w7.drewN nd_)) 14 2 (65535 - fold (pairs (L7.take 16))) (iz := 14) (mz := 2) (bd HB7.out nd_) HGG.out HR7.out HL7.out (by have := HL7.out; have := HN.out; omega) rfl rfl (by omega) (by have := HL7.out; have := HN.out; omega))
  go_upto_region 20 with (first | (go_at_call 32; (with_reducible refine (PR.out _).mono ?_); rintro e w8 ⟨rfl, hr, hc⟩; obtain ⟨L8, el⟩ : ∃ L, putL L7 14 2 (65535 - fold (pairs (L7.take 16))) = L := ⟨_, rfl⟩; rw [el] at hr; have EL8 := am_ el; clear el; have HR8 := am_ hr; have HB8 := am_ (hc.below (bd HB7.out _) HGG.out); have HZ8 := am_ ((hc.block w.heap.size (Nat.lt_of_lt_of_le HGL.out HS7.out) (Nat.ne_of_lt HGL.out)).trans HZ7.out); have HS8 := am_ (Nat.le_trans HS7.out hc.size); have HL8 := am_ (show L8.length = n from by rw [← EL8.out, putL_len]; exact HL7.out); have HQ8 := am_ (show Bytes L8 from by rw [← EL8.out]; exact putL_bytes _ _ _ HQ7.out); clear hr hc; clear k0 k1 k2 k3 k4 k5 k6 k7 k8 k9 k10 k11 k12; obtain ⟨k0, k1, k2, k3, k4, k5, k6, k7, k8, k9, k10, k11, k12⟩ := c13 HZ8.out) | (go_at_call 19; (with_reducible refine OF.out.mono ?_); rintro e w20 ⟨rfl, ⟨⟨nd, rfl⟩⟩⟩))
  clear PR
  clear OF hcut16
  have PR := am_ (put_row (w0 := w) (w := w8) 16 2 (p5) (iz := 16) (mz := 2) (HB8.out) HGG.out HR8.out HL8.out (by have := HL8.out; have := HN.out; omega) rfl rfl (by omega) (by have := HL8.out; have := HN.out; omega))
  go_upto_region 22 with (first | (go_at_call 32; (with_reducible refine PR.out.mono ?_); rintro e w9 ⟨rfl, hr, hc⟩; obtain ⟨L9, el⟩ : ∃ L, putL L8 16 2 (p5) = L := ⟨_, rfl⟩; rw [el] at hr; have EL9 := am_ el; clear el; have HR9 := am_ hr; have HB9 := am_ (hc.below HB8.out HGG.out); have HZ9 := am_ ((hc.block w.heap.size (Nat.lt_of_lt_of_le HGL.out HS8.out) (Nat.ne_of_lt HGL.out)).trans HZ8.out); have HS9 := am_ (Nat.le_trans HS8.out hc.size); have HL9 := am_ (show L9.length = n from by rw [← EL9.out, putL_len]; exact HL8.out); have HQ9 := am_ (show Bytes L9 from by rw [← EL9.out]; exact putL_bytes _ _ _ HQ8.out); clear hr hc; clear k0 k1 k2 k3 k4 k5 k6 k7 k8 k9 k10 k11 k12; obtain ⟨k0, k1, k2, k3, k4, k5, k6, k7, k8, k9, k10, k11, k12⟩ := c13 HZ9.out))
  clear PR
  have PR := am_ (put_row (w0 := w) (w := w9) 18 2 (p6) (iz := 18) (mz := 2) (HB9.out) HGG.out HR9.out HL9.out (by have := HL9.out; have := HN.out; omega) rfl rfl (by omega) (by have := HL9.out; have := HN.out; omega))
  go_upto_region 23 with (first | (go_at_call 32; (with_reducible refine PR.out.mono ?_); rintro e w10 ⟨rfl, hr, hc⟩; obtain ⟨L10, el⟩ : ∃ L, putL L9 18 2 (p6) = L := ⟨_, rfl⟩; rw [el] at hr; have EL10 := am_ el; clear el; have HR10 := am_ hr; have HB10 := am_ (hc.below HB9.out HGG.out); have HZ10 := am_ ((hc.block w.heap.size (Nat.lt_of_lt_of_le HGL.out HS9.out) (Nat.ne_of_lt HGL.out)).trans HZ9.out); have HS10 := am_ (Nat.le_trans HS9.out hc.size); have HL10 := am_ (show L10.length = n from by rw [← EL10.out, putL_len]; exact HL9.out); have HQ10 := am_ (show Bytes L10 from by rw [← EL10.out]; exact putL_bytes _ _ _ HQ9.out); clear hr hc; clear k0 k1 k2 k3 k4 k5 k6 k7 k8 k9 k10 k11 k12; obtain ⟨k0, k1, k2, k3, k4, k5, k6, k7, k8, k9, k10, k11, k12⟩ := c13 HZ10.out))
  clear PR
  have PR := am_ (put_row (w0 := w) (w := w10) 20 2 (p8) (iz := 20) (mz := 2) (HB10.out) HGG.out HR10.out HL10.out (by have := HL10.out; have := HN.out; omega) rfl rfl (by omega) (by have := HL10.out; have := HN.out; omega))
  go_upto_region 30 with (first | (go_at_call 32; (with_reducible refine PR.out.mono ?_); rintro e w11 ⟨rfl, hr, hc⟩; obtain ⟨L11, el⟩ : ∃ L, putL L10 20 2 (p8) = L := ⟨_, rfl⟩; rw [el] at hr; have EL11 := am_ el; clear el; have HR11 := am_ hr; have HB11 := am_ (hc.below HB10.out HGG.out); have HZ11 := am_ ((hc.block w.heap.size (Nat.lt_of_lt_of_le HGL.out HS10.out) (Nat.ne_of_lt HGL.out)).trans HZ10.out); have HS11 := am_ (Nat.le_trans HS10.out hc.size); have HL11 := am_ (show L11.length = n from by rw [← EL11.out, putL_len]; exact HL10.out); have HQ11 := am_ (show Bytes L11 from by rw [← EL11.out]; exact putL_bytes _ _ _ HQ10.out); clear hr hc; clear k0 k1 k2 k3 k4 k5 k6 k7 k8 k9 k10 k11 k12; obtain ⟨k0, k1, k2, k3, k4, k5, k6, k7, k8, k9, k10, k11, k12⟩ := c13 HZ11.out))
  clear PR
  obtain ⟨A3, hA3, hcut3⟩ := cut_row g n (24) (iz := wrap64 (wrap64 (24 + (p12.length : Int)) - (p12.length : Int))) (by rw [HNN.out, wid (by have := HN.out; omega) (by have := HN.out; omega)]; have := HN.out; omega) (by have := HN.out; omega)
  have HA3 := am_ hA3
  clear hA3
  have HCZ := am_ (fun W (h : Below g w11 W) => c13 ((h.block w.heap.size HGL.out).trans HZ11.out))
  clear k0 k1 k2 k3 k4 k5 k6 k7 k8 k9 k10 k11 k12
  refine start_ (n := 10) (S := fun w' => w'.cell? ⟨w.heap.size, 12, none⟩ = some (.slice A2 p12.length c2)) (ds := []) #[fF,fF,fF,fF,fF,fF,fF,fF,fF,fF] (by kernel_rfl) rfl rfl ((HCZ.out _ (Below.refl g w11).drew).2.2.2.2.2.2.2.2.2.2.2.2) (fun hHeld => ?_)
  refine p_ 0 135 ?_
  refine p_ 1 136 ?_
  refine p_ 2 137 ?_
  refine p_ 7 142 ?_
  refine t_ 3 138 hHeld ?_
  refine p_ 4 139 ?_
  refine p_ 5 140 ?_
  refine p_ 6 141 ?_
  refine t_ 8 143 hHeld ?_
  refine o_ 9 (some 144) (fun K hK => ?_)
  refine copy_row rfl (.tmp 141) (.tmp 143) rfl (g := g) (i := 24) (n := n) (m := n - (24)) (c := c2) (A' := A3) (A := A2) (L := L11) (cs := p12) rfl rfl HA3.out rfl HR11.out HL11.out (Kd.C_drew (Kd.C_below HD.out HB11.out)) (by have := HN.out; have := HLIM.out; omega) ?_
  intro w12 hr hb
  refine hK.out _ _ ((HCZ.out _ ((Below.refl g w11).drew.trans hb)).2.2.2.2.2.2.2.2.2.2.2.2) (fun hHeld => ?_)
  clear hK K
  refine n_ 144 ?_
  refine done_ (by kernel_rfl) ?_
  obtain ⟨L12, el⟩ : ∃ L, splice L11 (24) p12 = L := ⟨_, rfl⟩
  rw [el] at hr
  have EL12 := am_ el
  have HR12 := am_ hr
  have HX := am_ ((Below.refl g w11).drew.trans hb)
  have HZ12 := am_ ((HX.out.block w.heap.size HGL.out).trans HZ11.out)
  have HB12 := am_ (HB11.out.trans (HX.out.mono HGG.out))
  have HS12 := am_ (Nat.le_trans HS11.out HX.out.size)
  have HL12 := am_ (show L12.length = n from by rw [← el, splice_len (by rw [HL11.out]; have := HN.out; have := HLIM.out; omega)]; exact HL11.out)
  have HQ12 := am_ (show Bytes L12 from by rw [← el]; exact splice_bytes HQ11.out HYD.out)
  clear hHeld hr hb el HX HCZ HA3 hcut3
  obtain ⟨k0, k1, k2, k3, k4, k5, k6, k7, k8, k9, k10, k11, k12⟩ := c13 HZ12.out
  have SF := am_ (summed_calls (c := n) (by have h := row_C HR12.out (by have := HL12.out; have := HN.out; omega); rw [HL12.out] at h; exact h) HL12.out (Nat.le_refl _) (by have := HL12.out; have := HN.out; omega) (by have := HL12.out; have := HN.out; omega) HQ12.out)
  have HSO := am_ (summed_ok HQ12.out (by have := HL12.out; have := HN.out; omega) (by have := HL12.out; have := HN.out; omega))
  go_upto_region 32 with (first
    | (go_at_call 33; (with_reducible refine SF.out.mono ?_); rintro e w13 ⟨v, rfl, ho, hb⟩; obtain ⟨Av, cv, ev⟩ := Kd.R_slice ho; subst ev; have HR13 := am_ (show Row w13 g L12 from (hb.block g (blk_lt HR12.out)).trans HR12.out); have HZ13 := am_ ((hb.block w.heap.size (blk_lt HZ12.out)).trans HZ12.out); have HB13 := am_ (below_step HB12.out hb); have HS13 := am_ (Nat.le_trans HS12.out hb.size); have HRD := am_ (Kd.R_reads' ho); have OF := am_ (of_calls HRD.out.2.2 rfl HRD.out.2.1 HSO.out.2 (by have := HSO.out.1; omega)); clear ho hb; clear k0 k1 k2 k3 k4 k5 k6 k7 k8 k9 k10 k11 k12; obtain ⟨k0, k1, k2, k3, k4, k5, k6, k7, k8, k9, k10, k11, k12⟩ := c13 HZ13.out)
    | (go_at_call 19; (with_reducible refine OF.out.mono ?_); rintro e w30 ⟨rfl, ⟨⟨nd2, rfl⟩⟩⟩))
  have HR13' := am_ (show Row (w13.drewN nd2) g L12 from HR13.out)
  have HZ13' := am_ (show (w13.drewN nd2).heap[w.heap.size]? = _ from HZ13.out)
  have HB13' := am_ (bd HB13.out nd2)
  have HS13' := am_ (show g ≤ (w13.drewN nd2).heap.size from HS13.out)
  generalize w13.drewN nd2 = w40 at HR13' HZ13' HB13' HS13' ⊢
  clear SF OF HRD HR13 HZ13 HB13 HS13 k0 k1 k2 k3 k4 k5 k6 k7 k8 k9 k10 k11 k12
  obtain ⟨k0, k1, k2, k3, k4, k5, k6, k7, k8, k9, k10, k11, k12⟩ := c13 HZ13'.out
  have G39 := am_ (fun W => wire_sumPlace.calls p0 22 W (by unfold wire_sumPlace.f; have := HK.out; rw [if_neg (by omega)]))
  cases hp9 : p9
  · rw [hp9] at HZ13' k9
    by_cases hs : 65535 - fold (pairs (summedL L12)) = 0
    · have d0 : (65535 - fold (pairs (summedL L12)) == 0) = true := beq_iff_eq.mpr hs
      have PR := am_ (fun nd_ => put_row (w0 := w) (w := w40.drewN nd_) 22 2 (65535) (iz := 22) (mz := 2) (bd HB13'.out nd_) HGG.out HR13'.out HL12.out (by have := HL12.out; have := HN.out; omega) rfl rfl (by omega) (by have := HL12.out; have := HN.out; have := HLIM.out; have := HK.out; omega))
      go_wp2_with (first
        | (go_at_call 34; (with_reducible refine (G39.out _).mono ?_); rintro e w41 ⟨rfl, ⟨⟨nd3, rfl⟩⟩⟩)
        | (go_at_call 32; (with_reducible refine (PR.out _).mono ?_); rintro e w42 ⟨rfl, hr, hc⟩; have HRX := am_ hr; have HBX := am_ (hc.below (bd HB13'.out _) HGG.out); clear hr hc))
      go_ret2
      refine ⟨_, rfl, ?_, HBX.out⟩
      have hl := RB_of_row HRX.out HGG.out (by rw [putL_len, HL12.out]; have := HN.out; omega)
      rw [putL_len, HL12.out] at hl
      have e : putL L12 22 2 (65535) = buildL ⟨p0, p1, p2, p3, p4, p5, p6, p7, p8, p9, p10, p11, p12⟩ := by
        rw [show (65535 : Int) = sumL p0 p9 L12 from by unfold sumL; rw [if_neg (by simp [hp9]), if_pos ⟨HK.out, hs⟩]]
        have hb : L12 = bodyL ⟨p0, p1, p2, p3, p4, p5, p6, p7, p8, p9, p10, p11, p12⟩ := by
          rw [← EL12.out, ← EL11.out, ← EL10.out, ← EL9.out, ← EL8.out, ← EL7.out, ← EL6.out, ← EL5.out, ← EL4.out]
          unfold bodyL h4L h3L
          simp only [HNL.out, HNN.out]
          rw [if_neg (show ¬ p0 = 3 by have := HK.out; omega), if_pos HK.out]
          rw [show n - p12.length = 24 from by have := HN.out; omega]
        rw [hb]
        unfold buildL
        simp only []
        rw [if_neg (show ¬ p0 = 3 by have := HK.out; omega)]
      rw [← e]
      exact hl
    · have d0 : (65535 - fold (pairs (summedL L12)) == 0) = false := beq_eq_false_iff_ne.mpr hs
      have PR := am_ (fun nd_ => put_row (w0 := w) (w := w40.drewN nd_) 22 2 (65535 - fold (pairs (summedL L12))) (iz := 22) (mz := 2) (bd HB13'.out nd_) HGG.out HR13'.out HL12.out (by have := HL12.out; have := HN.out; omega) rfl rfl (by omega) (by have := HL12.out; have := HN.out; have := HLIM.out; have := HK.out; omega))
      go_wp2_with (first
        | (go_at_call 34; (with_reducible refine (G39.out _).mono ?_); rintro e w41 ⟨rfl, ⟨⟨nd3, rfl⟩⟩⟩)
        | (go_at_call 32; (with_reducible refine (PR.out _).mono ?_); rintro e w42 ⟨rfl, hr, hc⟩; have HRX := am_ hr; have HBX := am_ (hc.below (bd HB13'.out _) HGG.out); clear hr hc))
      go_ret2
      refine ⟨_, rfl, ?_, HBX.out⟩
      have hl := RB_of_row HRX.out HGG.out (by rw [putL_len, HL12.out]; have := HN.out; omega)
      rw [putL_len, HL12.out] at hl
      have e : putL L12 22 2 (65535 - fold (pairs (summedL L12))) = buildL ⟨p0, p1, p2, p3, p4, p5, p6, p7, p8, p9, p10, p11, p12⟩ := by
        rw [show (65535 - fold (pairs (summedL L12)) : Int) = sumL p0 p9 L12 from by unfold sumL; rw [if_neg (by simp [hp9]), if_neg (fun h => hs h.2)]]
        have hb : L12 = bodyL ⟨p0, p1, p2, p3, p4, p5, p6, p7, p8, p9, p10, p11, p12⟩ := by
          rw [← EL12.out, ← EL11.out, ← EL10.out, ← EL9.out, ← EL8.out, ← EL7.out, ← EL6.out, ← EL5.out, ← EL4.out]
          unfold bodyL h4L h3L
          simp only [HNL.out, HNN.out]
          rw [if_neg (show ¬ p0 = 3 by have := HK.out; omega), if_pos HK.out]
          rw [show n - p12.length = 24 from by have := HN.out; omega]
        rw [hb]
        unfold buildL
        simp only []
        rw [if_neg (show ¬ p0 = 3 by have := HK.out; omega)]
      rw [← e]
      exact hl
  · rw [hp9] at HZ13' k9
    have PR := am_ (fun nd_ => put_row (w0 := w) (w := w40.drewN nd_) 22 2 (0) (iz := 22) (mz := 2) (bd HB13'.out nd_) HGG.out HR13'.out HL12.out (by have := HL12.out; have := HN.out; omega) rfl rfl (by omega) (by have := HL12.out; have := HN.out; have := HLIM.out; have := HK.out; omega))
    go_wp2_with (first
      | (go_at_call 34; (with_reducible refine (G39.out _).mono ?_); rintro e w41 ⟨rfl, ⟨⟨nd3, rfl⟩⟩⟩)
      | (go_at_call 32; (with_reducible refine (PR.out _).mono ?_); rintro e w42 ⟨rfl, hr, hc⟩; have HRX := am_ hr; have HBX := am_ (hc.below (bd HB13'.out _) HGG.out); clear hr hc))
    go_ret2
    refine ⟨_, rfl, ?_, HBX.out⟩
    have hl := RB_of_row HRX.out HGG.out (by rw [putL_len, HL12.out]; have := HN.out; omega)
    rw [putL_len, HL12.out] at hl
    have e : putL L12 22 2 (0) = buildL ⟨p0, p1, p2, p3, p4, p5, p6, p7, p8, p9, p10, p11, p12⟩ := by
      rw [show (0 : Int) = sumL p0 p9 L12 from by unfold sumL; rw [if_pos ⟨HK.out, hp9⟩]]
      have hb : L12 = bodyL ⟨p0, p1, p2, p3, p4, p5, p6, p7, p8, p9, p10, p11, p12⟩ := by
        rw [← EL12.out, ← EL11.out, ← EL10.out, ← EL9.out, ← EL8.out, ← EL7.out, ← EL6.out, ← EL5.out, ← EL4.out]
        unfold bodyL h4L h3L
        simp only [HNL.out, HNN.out]
        rw [if_neg (show ¬ p0 = 3 by have := HK.out; omega), if_pos HK.out]
        rw [show n - p12.length = 24 from by have := HN.out; omega]
      rw [hb]
      unfold buildL
      simp only []
      rw [if_neg (show ¬ p0 = 3 by have := HK.out; omega)]
    rw [← e]
    exact hl
theorem build_stream {A1 A2 : Option Addr} {c1 c2 : Nat} {p0 p1 p2 p3 p4 p5 p6 p7 p8 : Int} {p9 : Bool} {p10 : Int} {p11 p12 : List Int} {w : World} (ha : Kd.C (Kd.int .u8) w A1 p11.length p11) (hca : p11.length ≤ c1) (hd : Kd.C (Kd.int .u8) w A2 p12.length p12) (hcd : p12.length ≤ c2) (hba : Bytes p11) (hbd : Bytes p12) (hk : p0 = 1) (he : buildE ⟨p0, p1, p2, p3, p4, p5, p6, p7, p8, p9, p10, p11, p12⟩ = 0) :
    Calls Tryz.prog 7 #[.agg #[.int .i64 p0, .int .i64 p1, .int .i64 p2, .int .i64 p3, .int .i64 p4, .int .i64 p5, .int .i64 p6, .int .i64 p7, .int .i64 p8, .bool p9, .int .i64 p10, .slice A1 p11.length c1, .slice A2 p12.length c2]] w fun e w' => ∃ v, e = .returned (.tuple #[v, .int .i64 0]) ∧ RB w.heap.size w' v (buildL ⟨p0, p1, p2, p3, p4, p5, p6, p7, p8, p9, p10, p11, p12⟩) ∧ Below w.heap.size w w' := by
  have hn : nL ⟨p0, p1, p2, p3, p4, p5, p6, p7, p8, p9, p10, p11, p12⟩ = 24 + p12.length + p11.length := by unfold nL; simp [hk]
  have hok : okR ⟨p0, p1, p2, p3, p4, p5, p6, p7, p8, p9, p10, p11, p12⟩ = true := by
    unfold buildE at he
    split at he
    · cases he
    split at he
    · cases he
    rename_i h; simpa using h
  have hlim : nL ⟨p0, p1, p2, p3, p4, p5, p6, p7, p8, p9, p10, p11, p12⟩ ≤ 1500 ∧ (p0 = 1 → p11.length ≤ 40) ∧ (p0 = 3 → 24 ≤ p12.length) := by
    unfold buildE at he
    split at he
    · cases he
    split at he
    · cases he
    split at he
    · cases he
    split at he
    · cases he
    rename_i h1 h2 h3 h4
    refine ⟨by omega, fun h => ?_, fun h => ?_⟩
    · have : ¬ 40 < p11.length := fun h5 => h3 ⟨h, h5⟩
      omega
    · have : ¬ p12.length < 24 := fun h5 => h4 (Or.inl ⟨h, h5⟩)
      omega
  obtain ⟨n, hne⟩ : ∃ n, 24 + p12.length + p11.length = n := ⟨_, rfl⟩
  rw [hn, hne] at hlim
  have HN := am_ (show 20 ≤ n ∧ n ≤ 1500 ∧ 24 + p12.length + p11.length = n from ⟨by omega, hlim.1, hne⟩)
  have HNL := am_ (hn.trans hne)
  have HLIM := am_ hlim
  have HNN := am_ (show wrap64 (wrap64 (24 + (p12.length : Int)) + (p11.length : Int)) = (n : Int) from by rw [wid (n := 24 + (p12.length : Int)) (by omega) (by omega), wid (by omega) (by omega)]; omega)
  have dlim : decide (1500 < wrap64 (wrap64 (24 + (p12.length : Int)) + (p11.length : Int))) = false := decide_eq_false (by rw [HNN.out]; omega)
  have HA := am_ ha
  have HD := am_ hd
  have HYA := am_ hba
  have HYD := am_ hbd
  have HK := am_ hk
  have q1 : (p0 == 1) = true := by rw [hk]; rfl
  have q1n : (p0 != 1) = false := by rw [hk]; rfl
  have q2 : (p0 == 2) = false := by rw [hk]; rfl
  have q2n : (p0 != 2) = true := by rw [hk]; rfl
  have q3 : (p0 == 3) = false := by rw [hk]; rfl
  have q3n : (p0 != 3) = true := by rw [hk]; rfl
  have dopt : decide (40 < (p11.length : Int)) = false := decide_eq_false (by have := hlim.2.1 hk; omega)
  have doptn : decide (40 < p11.length) = false := decide_eq_false (by have := hlim.2.1 hk; omega)
  have G34 := am_ (fun W => wire_known.calls p0 true W (by unfold wire_known.f; rw [if_pos (by omega)]; simp [hk]))
  have HOK := am_ hok
  have G35 := am_ (fun W (h : Below w.heap.size w W) => (show Calls Tryz.prog 31 #[.agg #[.int .i64 p0, .int .i64 p1, .int .i64 p2, .int .i64 p3, .int .i64 p4, .int .i64 p5, .int .i64 p6, .int .i64 p7, .int .i64 p8, .bool p9, .int .i64 p10, .slice A1 p11.length c1, .slice A2 p12.length c2]] W fun e w' => e = .returned (.bool true) ∧ Below W.heap.size W w' from by
    exact ranges_true (Or.inl HK.out) HOK.out W))
  have HBA := am_ (fun o => (Below.refl w.heap.size w).alloc (Nat.le_refl _) o)
  clear ha hd hba hbd hk he hn hok hlim hne hca hcd
  go_enter Tryz.func7, Tryz.ntmps7
  go_upto_region 14 with (first
    | (go_at_call 30; (with_reducible refine (G34.out _).mono ?_); rintro e w1 ⟨rfl, ⟨⟨nd, rfl⟩⟩⟩)
    | (go_at_call 31; (with_reducible refine (G35.out _ ?hb).mono ?_); (case hb => repeat (first | with_reducible exact HBA.out _ | with_reducible apply pw_below_drewN)); rintro e w2 ⟨rfl, hb2⟩; have HZ2 := am_ ((hb2.block w.heap.size (blk_lt (new_blk w (.cells #[.int .i64 p0, .int .i64 p1, .int .i64 p2, .int .i64 p3, .int .i64 p4, .int .i64 p5, .int .i64 p6, .int .i64 p7, .int .i64 p8, .bool p9, .int .i64 p10, .slice A1 p11.length c1, .slice A2 p12.length c2] 37)))).trans (new_blk w (.cells #[.int .i64 p0, .int .i64 p1, .int .i64 p2, .int .i64 p3, .int .i64 p4, .int .i64 p5, .int .i64 p6, .int .i64 p7, .int .i64 p8, .bool p9, .int .i64 p10, .slice A1 p11.length c1, .slice A2 p12.length c2] 37))); have HB2 := am_ (below_step (bd (HBA.out (.cells #[.int .i64 p0, .int .i64 p1, .int .i64 p2, .int .i64 p3, .int .i64 p4, .int .i64 p5, .int .i64 p6, .int .i64 p7, .int .i64 p8, .bool p9, .int .i64 p10, .slice A1 p11.length c1, .slice A2 p12.length c2] 37)) _) hb2); clear hb2; obtain ⟨k0, k1, k2, k3, k4, k5, k6, k7, k8, k9, k10, k11, k12⟩ := c13 HZ2.out))
  clear G34 G35 HBA dlim dopt doptn
  obtain ⟨g, HGE⟩ : ∃ g, w2.heap.size = g := ⟨_, rfl⟩
  have HGL := am_ (show w.heap.size < g from by rw [← HGE]; exact blk_lt HZ2.out)
  have HGG := am_ (Nat.le_of_lt HGL.out)
  go_upto_region 15 with (first
    | ((with_reducible refine gate_dst (N := 61) rfl ?_); refine make_row g HGE rfl (.tmp 60) (.tmp 60) rfl n (wrap64 (wrap64 (24 + (p12.length : Int)) + (p11.length : Int))) HNN.out rfl rfl (by have := HN.out; omega) ?_; intro w3 hr hb3; have HR3 := am_ hr; have HZ3 := am_ ((hb3.block w.heap.size HGL.out).trans HZ2.out); have HB3 := am_ (HB2.out.trans (hb3.mono HGG.out)); have HS3 := am_ (show g < w3.heap.size from blk_lt hr); clear hr hb3; clear k0 k1 k2 k3 k4 k5 k6 k7 k8 k9 k10 k11 k12; obtain ⟨k0, k1, k2, k3, k4, k5, k6, k7, k8, k9, k10, k11, k12⟩ := c13 HZ3.out))
  have HCZ := am_ (fun W (h : Below g w3 W) => c13 ((h.block w.heap.size HGL.out).trans HZ3.out))
  have r0 := row_cells HR3.out 0 (by have := HN.out; simp; omega)
  have r1 := row_cells HR3.out 1 (by have := HN.out; simp; omega)
  have r12 := row_cells HR3.out 12 (by have := HN.out; simp; omega)
  have s0 := row_frozen HR3.out 0
  have s1 := row_frozen HR3.out 1
  have s12 := row_frozen HR3.out 12
  have hn0 : (0 : Int) < (n : Int) := by have := HN.out; omega
  have hn0n : 0 < n := by have := HN.out; omega
  have hn1 : (1 : Int) < (n : Int) := by have := HN.out; omega
  have hn12 : (12 : Int) < (n : Int) := by have := HN.out; omega
  clear k0 k1 k2 k3 k4 k5 k6 k7 k8 k9 k10 k11 k12
  refine start_ (n := 18) (S := fun w' => w'.cell? ⟨w.heap.size, 0, none⟩ = some (.int .i64 p0) ∧ w'.cell? ⟨w.heap.size, 1, none⟩ = some (.int .i64 p1) ∧ w'.cell? ⟨w.heap.size, 2, none⟩ = some (.int .i64 p2)) (ds := []) #[fF,fF,fF,fF,fF,fF,fF,fF,fF,fF,fF,fF,fF,fF,fF,fF,fF,fF] (by kernel_rfl) rfl rfl ⟨(HCZ.out _ (Below.refl g w3).drew).1, (HCZ.out _ (Below.refl g w3).drew).2.1, (HCZ.out _ (Below.refl g w3).drew).2.2.1⟩ (fun hHeld => ?_)
  refine p_ 0 62 ?_
  refine p_ 1 63 ?_
  refine p_ 2 64 ?_
  refine p_ 3 65 ?_
  refine p_ 6 68 ?_
  refine p_ 9 71 ?_
  refine t_ 4 66 hHeld ?_
  refine p_ 5 67 ?_
  refine p_ 12 74 ?_
  refine t_ 7 69 hHeld ?_
  refine p_ 8 70 ?_
  refine t_ 10 72 hHeld ?_
  refine p_ 11 73 ?_
  refine o_ 13 none (fun K hK => ?_)
  refine s_ ?_
  refine hK.out _ _ ⟨(HCZ.out _ ((Below.refl g w3).drew.setCell (p := ⟨g, 0, none⟩) (Nat.le_refl _) _)).1, (HCZ.out _ ((Below.refl g w3).drew.setCell (p := ⟨g, 0, none⟩) (Nat.le_refl _) _)).2.1, (HCZ.out _ ((Below.refl g w3).drew.setCell (p := ⟨g, 0, none⟩) (Nat.le_refl _) _)).2.2.1⟩ (fun hHeld => ?_)
  clear hK K
  refine p_ 14 75 ?_
  refine o_ 15 none (fun K hK => ?_)
  refine s_ ?_
  refine hK.out _ _ ⟨(HCZ.out _ (((Below.refl g w3).drew.setCell (p := ⟨g, 0, none⟩) (Nat.le_refl _) _).setCell (p := ⟨g, 1, none⟩) (Nat.le_refl _) _)).1, (HCZ.out _ (((Below.refl g w3).drew.setCell (p := ⟨g, 0, none⟩) (Nat.le_refl _) _).setCell (p := ⟨g, 1, none⟩) (Nat.le_refl _) _)).2.1, (HCZ.out _ (((Below.refl g w3).drew.setCell (p := ⟨g, 0, none⟩) (Nat.le_refl _) _).setCell (p := ⟨g, 1, none⟩) (Nat.le_refl _) _)).2.2.1⟩ (fun hHeld => ?_)
  clear hK K
  refine p_ 16 76 ?_
  refine o_ 17 none (fun K hK => ?_)
  refine s_ ?_
  refine hK.out _ _ ⟨(HCZ.out _ ((((Below.refl g w3).drew.setCell (p := ⟨g, 0, none⟩) (Nat.le_refl _) _).setCell (p := ⟨g, 1, none⟩) (Nat.le_refl _) _).setCell (p := ⟨g, 12, none⟩) (Nat.le_refl _) _)).1, (HCZ.out _ ((((Below.refl g w3).drew.setCell (p := ⟨g, 0, none⟩) (Nat.le_refl _) _).setCell (p := ⟨g, 1, none⟩) (Nat.le_refl _) _).setCell (p := ⟨g, 12, none⟩) (Nat.le_refl _) _)).2.1, (HCZ.out _ ((((Below.refl g w3).drew.setCell (p := ⟨g, 0, none⟩) (Nat.le_refl _) _).setCell (p := ⟨g, 1, none⟩) (Nat.le_refl _) _).setCell (p := ⟨g, 12, none⟩) (Nat.le_refl _) _)).2.2.1⟩ (fun hHeld => ?_)
  clear hK K
  refine done_ (by kernel_rfl) ?_
  clear r0 r1 r12 s0 s1 s12 hHeld
  generalize hW : World.drew _ = w4
  have hr : Row w4 g ((((List.replicate n 0).set 0 (IntKind.u8.wrap p0)).set 1 (IntKind.u8.wrap p1)).set 12 (IntKind.u8.wrap p2)) := by
    rw [← hW]
    exact row_set (row_set (row_set HR3.out 0 (IntKind.u8.wrap p0)) 1 (IntKind.u8.wrap p1)) 12 (IntKind.u8.wrap p2)
  simp only [IntKind.wrap_u8] at hr
  obtain ⟨L4, el⟩ : ∃ L, (((List.replicate n 0).set 0 (p0 % 256)).set 1 (p1 % 256)).set 12 (p2 % 256) = L := ⟨_, rfl⟩
  rw [el] at hr
  have EL4 := am_ el
  clear el
  have HR4 := am_ hr
  have HX4 := am_ (show Below g w3 w4 from by
    rw [← hW]
    exact (((((Below.refl g w3).setCell (p := ⟨g, 0, none⟩) (Nat.le_refl _) _).setCell (p := ⟨g, 1, none⟩) (Nat.le_refl _) _).setCell (p := ⟨g, 12, none⟩) (Nat.le_refl _) _)).drew)
  have HZ4 := am_ ((HX4.out.block w.heap.size HGL.out).trans HZ3.out)
  have HB4 := am_ (HB3.out.trans (HX4.out.mono HGG.out))
  have HS4 := am_ (show g ≤ w4.heap.size from Nat.le_of_lt (blk_lt hr))
  have HL4 := am_ (show L4.length = n from by rw [← EL4.out]; simp)
  have HQ4 := am_ (show Bytes L4 from by
    rw [← EL4.out]
    refine Bytes.set (Bytes.set (Bytes.set ?_ _ (by omega) (by omega)) _ (by omega) (by omega)) _ (by omega) (by omega)
    intro x hx
    have := List.eq_of_mem_replicate hx
    omega)
  clear hW hr HX4 HCZ HR3 HZ3 HZ2 HB2
  obtain ⟨k0, k1, k2, k3, k4, k5, k6, k7, k8, k9, k10, k11, k12⟩ := c13 HZ4.out
  have PR := am_ (put_row (w0 := w) (w := w4) 2 2 (wrap64 (wrap64 (24 + (p12.length : Int)) + (p11.length : Int))) (iz := 2) (mz := 2) (HB4.out) HGG.out HR4.out HL4.out (by have := HL4.out; have := HN.out; omega) rfl rfl (by omega) (by have := HL4.out; have := HN.out; omega))
  go_upto_region 17 with (first | (go_at_call 32; (with_reducible refine PR.out.mono ?_); rintro e w5 ⟨rfl, hr, hc⟩; obtain ⟨L5, el⟩ : ∃ L, putL L4 2 2 (wrap64 (wrap64 (24 + (p12.length : Int)) + (p11.length : Int))) = L := ⟨_, rfl⟩; rw [el] at hr; have EL5 := am_ el; clear el; have HR5 := am_ hr; have HB5 := am_ (hc.below HB4.out HGG.out); have HZ5 := am_ ((hc.block w.heap.size (Nat.lt_of_lt_of_le HGL.out HS4.out) (Nat.ne_of_lt HGL.out)).trans HZ4.out); have HS5 := am_ (Nat.le_trans HS4.out hc.size); have HL5 := am_ (show L5.length = n from by rw [← EL5.out, putL_len]; exact HL4.out); have HQ5 := am_ (show Bytes L5 from by rw [← EL5.out]; exact putL_bytes _ _ _ HQ4.out); clear hr hc; clear k0 k1 k2 k3 k4 k5 k6 k7 k8 k9 k10 k11 k12; obtain ⟨k0, k1, k2, k3, k4, k5, k6, k7, k8, k9, k10, k11, k12⟩ := c13 HZ5.out))
  clear PR
  have PR := am_ (put_row (w0 := w) (w := w5) 4 4 (p3) (iz := 4) (mz := 4) (HB5.out) HGG.out HR5.out HL5.out (by have := HL5.out; have := HN.out; omega) rfl rfl (by omega) (by have := HL5.out; have := HN.out; omega))
  go_upto_region 18 with (first | (go_at_call 32; (with_reducible refine PR.out.mono ?_); rintro e w6 ⟨rfl, hr, hc⟩; obtain ⟨L6, el⟩ : ∃ L, putL L5 4 4 (p3) = L := ⟨_, rfl⟩; rw [el] at hr; have EL6 := am_ el; clear el; have HR6 := am_ hr; have HB6 := am_ (hc.below HB5.out HGG.out); have HZ6 := am_ ((hc.block w.heap.size (Nat.lt_of_lt_of_le HGL.out HS5.out) (Nat.ne_of_lt HGL.out)).trans HZ5.out); have HS6 := am_ (Nat.le_trans HS5.out hc.size); have HL6 := am_ (show L6.length = n from by rw [← EL6.out, putL_len]; exact HL5.out); have HQ6 := am_ (show Bytes L6 from by rw [← EL6.out]; exact putL_bytes _ _ _ HQ5.out); clear hr hc; clear k0 k1 k2 k3 k4 k5 k6 k7 k8 k9 k10 k11 k12; obtain ⟨k0, k1, k2, k3, k4, k5, k6, k7, k8, k9, k10, k11, k12⟩ := c13 HZ6.out))
  clear PR
  have PR := am_ (put_row (w0 := w) (w := w6) 8 4 (p4) (iz := 8) (mz := 4) (HB6.out) HGG.out HR6.out HL6.out (by have := HL6.out; have := HN.out; omega) rfl rfl (by omega) (by have := HL6.out; have := HN.out; omega))
  go_upto_region 19 with (first | (go_at_call 32; (with_reducible refine PR.out.mono ?_); rintro e w7 ⟨rfl, hr, hc⟩; obtain ⟨L7, el⟩ : ∃ L, putL L6 8 4 (p4) = L := ⟨_, rfl⟩; rw [el] at hr; have EL7 := am_ el; clear el; have HR7 := am_ hr; have HB7 := am_ (hc.below HB6.out HGG.out); have HZ7 := am_ ((hc.block w.heap.size (Nat.lt_of_lt_of_le HGL.out HS6.out) (Nat.ne_of_lt HGL.out)).trans HZ6.out); have HS7 := am_ (Nat.le_trans HS6.out hc.size); have HL7 := am_ (show L7.length = n from by rw [← EL7.out, putL_len]; exact HL6.out); have HQ7 := am_ (show Bytes L7 from by rw [← EL7.out]; exact putL_bytes _ _ _ HQ6.out); clear hr hc; clear k0 k1 k2 k3 k4 k5 k6 k7 k8 k9 k10 k11 k12; obtain ⟨k0, k1, k2, k3, k4, k5, k6, k7, k8, k9, k10, k11, k12⟩ := c13 HZ7.out))
  clear PR
  obtain ⟨hcut16, hC16⟩ := cut_to (A := some ⟨g, 0, none⟩) (c := n) (l := L7) 16 (jz := 16) rfl (by have := HN.out; omega) HL7.out (Nat.le_refl _)
  have OF := am_ (of_calls (c := n) (hC16 w7 (by have h := row_C HR7.out (by have := HL7.out; have := HN.out; omega); rw [HL7.out] at h; exact h)) (by rw [List.length_take, HL7.out]; have := HN.out; omega) (by have := HN.out; omega) (HQ7.out.take 16) (by rw [List.length_take]; omega))
  clear hC16
  have PR := am_ (fun nd_ => put_row (w0 := w) (w := (w7.drewN nd_)) 14 2 (65535 - fold (pairs (L7.take 16))) (iz := 14) (mz := 2) (bd HB7.out nd_) HGG.out HR7.out HL7.out (by have := HL7.out; have := HN.out; omega) rfl rfl (by omega) (by have := HL7.out; have := HN.out; omega))
  go_upto_region 20 with (first | (go_at_call 32; (with_reducible refine (PR.out _).mono ?_); rintro e w8 ⟨rfl, hr, hc⟩; obtain ⟨L8, el⟩ : ∃ L, putL L7 14 2 (65535 - fold (pairs (L7.take 16))) = L := ⟨_, rfl⟩; rw [el] at hr; have EL8 := am_ el; clear el; have HR8 := am_ hr; have HB8 := am_ (hc.below (bd HB7.out _) HGG.out); have HZ8 := am_ ((hc.block w.heap.size (Nat.lt_of_lt_of_le HGL.out HS7.out) (Nat.ne_of_lt HGL.out)).trans HZ7.out); have HS8 := am_ (Nat.le_trans HS7.out hc.size); have HL8 := am_ (show L8.length = n from by rw [← EL8.out, putL_len]; exact HL7.out); have HQ8 := am_ (show Bytes L8 from by rw [← EL8.out]; exact putL_bytes _ _ _ HQ7.out); clear hr hc; clear k0 k1 k2 k3 k4 k5 k6 k7 k8 k9 k10 k11 k12; obtain ⟨k0, k1, k2, k3, k4, k5, k6, k7, k8, k9, k10, k11, k12⟩ := c13 HZ8.out) | (go_at_call 19; (with_reducible refine OF.out.mono ?_); rintro e w20 ⟨rfl, ⟨⟨nd, rfl⟩⟩⟩))
  clear PR
  clear OF hcut16
  have PR := am_ (put_row (w0 := w) (w := w8) 16 2 (p5) (iz := 16) (mz := 2) (HB8.out) HGG.out HR8.out HL8.out (by have := HL8.out; have := HN.out; omega) rfl rfl (by omega) (by have := HL8.out; have := HN.out; omega))
  go_upto_region 22 with (first | (go_at_call 32; (with_reducible refine PR.out.mono ?_); rintro e w9 ⟨rfl, hr, hc⟩; obtain ⟨L9, el⟩ : ∃ L, putL L8 16 2 (p5) = L := ⟨_, rfl⟩; rw [el] at hr; have EL9 := am_ el; clear el; have HR9 := am_ hr; have HB9 := am_ (hc.below HB8.out HGG.out); have HZ9 := am_ ((hc.block w.heap.size (Nat.lt_of_lt_of_le HGL.out HS8.out) (Nat.ne_of_lt HGL.out)).trans HZ8.out); have HS9 := am_ (Nat.le_trans HS8.out hc.size); have HL9 := am_ (show L9.length = n from by rw [← EL9.out, putL_len]; exact HL8.out); have HQ9 := am_ (show Bytes L9 from by rw [← EL9.out]; exact putL_bytes _ _ _ HQ8.out); clear hr hc; clear k0 k1 k2 k3 k4 k5 k6 k7 k8 k9 k10 k11 k12; obtain ⟨k0, k1, k2, k3, k4, k5, k6, k7, k8, k9, k10, k11, k12⟩ := c13 HZ9.out))
  clear PR
  have PR := am_ (put_row (w0 := w) (w := w9) 18 2 (p6) (iz := 18) (mz := 2) (HB9.out) HGG.out HR9.out HL9.out (by have := HL9.out; have := HN.out; omega) rfl rfl (by omega) (by have := HL9.out; have := HN.out; omega))
  go_upto_region 23 with (first | (go_at_call 32; (with_reducible refine PR.out.mono ?_); rintro e w10 ⟨rfl, hr, hc⟩; obtain ⟨L10, el⟩ : ∃ L, putL L9 18 2 (p6) = L := ⟨_, rfl⟩; rw [el] at hr; have EL10 := am_ el; clear el; have HR10 := am_ hr; have HB10 := am_ (hc.below HB9.out HGG.out); have HZ10 := am_ ((hc.block w.heap.size (Nat.lt_of_lt_of_le HGL.out HS9.out) (Nat.ne_of_lt HGL.out)).trans HZ9.out); have HS10 := am_ (Nat.le_trans HS9.out hc.size); have HL10 := am_ (show L10.length = n from by rw [← EL10.out, putL_len]; exact HL9.out); have HQ10 := am_ (show Bytes L10 from by rw [← EL10.out]; exact putL_bytes _ _ _ HQ9.out); clear hr hc; clear k0 k1 k2 k3 k4 k5 k6 k7 k8 k9 k10 k11 k12; obtain ⟨k0, k1, k2, k3, k4, k5, k6, k7, k8, k9, k10, k11, k12⟩ := c13 HZ10.out))
  clear PR
  go_upto_region 24 with fail
  have HCZ := am_ (fun W (h : Below g w10 W) => c13 ((h.block w.heap.size HGL.out).trans HZ10.out))
  have r20 := row_cells HR10.out 20 (by have := HN.out; rw [HL10.out]; omega)
  have r21 := row_cells HR10.out 21 (by have := HN.out; rw [HL10.out]; omega)
  have s20 := row_frozen HR10.out 20
  have s21 := row_frozen HR10.out 21
  have hn20 : (20 : Int) < (n : Int) := by have := HN.out; omega
  have hn21 : (21 : Int) < (n : Int) := by have := HN.out; omega
  clear k0 k1 k2 k3 k4 k5 k6 k7 k8 k9 k10 k11 k12
  refine start_ (n := 13) (S := fun w' => w'.cell? ⟨w.heap.size, 7, none⟩ = some (.int .i64 p7) ∧ w'.cell? ⟨w.heap.size, 11, none⟩ = some (.slice A1 p11.length c1)) (ds := []) #[fF,fF,fF,fF,fF,fF,fF,fF,fF,fF,fF,fF,fF] (by kernel_rfl) rfl rfl ⟨(HCZ.out _ (Below.refl g w10).drew).2.2.2.2.2.2.2.1, (HCZ.out _ (Below.refl g w10).drew).2.2.2.2.2.2.2.2.2.2.2.1⟩ (fun hHeld => ?_)
  refine p_ 0 106 ?_
  refine p_ 1 107 ?_
  refine p_ 2 108 ?_
  refine p_ 5 111 ?_
  refine t_ 3 109 hHeld ?_
  refine p_ 4 110 ?_
  refine p_ 9 115 ?_
  refine t_ 6 112 hHeld ?_
  refine p_ 7 113 ?_
  refine p_ 8 114 ?_
  refine o_ 10 none (fun K hK => ?_)
  refine s_ ?_
  refine hK.out _ _ ⟨(HCZ.out _ ((Below.refl g w10).drew.setCell (p := ⟨g, 20, none⟩) (Nat.le_refl _) _)).2.2.2.2.2.2.2.1, (HCZ.out _ ((Below.refl g w10).drew.setCell (p := ⟨g, 20, none⟩) (Nat.le_refl _) _)).2.2.2.2.2.2.2.2.2.2.2.1⟩ (fun hHeld => ?_)
  clear hK K
  refine p_ 11 116 ?_
  refine o_ 12 none (fun K hK => ?_)
  refine s_ ?_
  refine hK.out _ _ ⟨(HCZ.out _ (((Below.refl g w10).drew.setCell (p := ⟨g, 20, none⟩) (Nat.le_refl _) _).setCell (p := ⟨g, 21, none⟩) (Nat.le_refl _) _)).2.2.2.2.2.2.2.1, (HCZ.out _ (((Below.refl g w10).drew.setCell (p := ⟨g, 20, none⟩) (Nat.le_refl _) _).setCell (p := ⟨g, 21, none⟩) (Nat.le_refl _) _)).2.2.2.2.2.2.2.2.2.2.2.1⟩ (fun hHeld => ?_)
  clear hK K
  refine done_ (by kernel_rfl) ?_
  clear r20 r21 s20 s21 hHeld HCZ
  generalize hW : World.drew _ = w11
  have hr : Row w11 g ((L10.set 20 (IntKind.u8.wrap p7)).set 21 (IntKind.u8.wrap (p11.length : Int))) := by
    rw [← hW]
    exact row_set (row_set HR10.out 20 (IntKind.u8.wrap p7)) 21 (IntKind.u8.wrap (p11.length : Int))
  try simp only [IntKind.wrap_u8] at hr
  obtain ⟨L11, el⟩ : ∃ L, (L10.set 20 (p7 % 256)).set 21 ((p11.length : Int) % 256) = L := ⟨_, rfl⟩
  rw [el] at hr
  have EL11 := am_ el
  clear el
  have HR11 := am_ hr
  have HX := am_ (show Below g w10 w11 from by
    rw [← hW]
    exact ((((Below.refl g w10).setCell (p := ⟨g, 20, none⟩) (Nat.le_refl _) _).setCell (p := ⟨g, 21, none⟩) (Nat.le_refl _) _)).drew)
  have HZ11 := am_ ((HX.out.block w.heap.size HGL.out).trans HZ10.out)
  have HB11 := am_ (HB10.out.trans (HX.out.mono HGG.out))
  have HS11 := am_ (Nat.le_trans HS10.out HX.out.size)
  have HL11 := am_ (show L11.length = n from by rw [← EL11.out]; simp only [List.length_set]; exact HL10.out)
  have HQ11 := am_ (show Bytes L11 from by
    rw [← EL11.out]
    exact Bytes.set (Bytes.set HQ10.out _ (by omega) (by omega)) _ (by omega) (by omega))
  clear hW hr HX
  obtain ⟨k0, k1, k2, k3, k4, k5, k6, k7, k8, k9, k10, k11, k12⟩ := c13 HZ11.out
  go_upto_region 25 with fail
  obtain ⟨A3, hA3, hcut3⟩ := cut_row g n (24) (iz := 24) (rfl) (by have := HN.out; omega)
  have HA3 := am_ hA3
  clear hA3
  have HCZ := am_ (fun W (h : Below g w11 W) => c13 ((h.block w.heap.size HGL.out).trans HZ11.out))
  clear k0 k1 k2 k3 k4 k5 k6 k7 k8 k9 k10 k11 k12
  refine start_ (n := 5) (S := fun w' => w'.cell? ⟨w.heap.size, 11, none⟩ = some (.slice A1 p11.length c1)) (ds := []) #[fF,fF,fF,fF,fF] (by kernel_rfl) rfl rfl ((HCZ.out _ (Below.refl g w11).drew).2.2.2.2.2.2.2.2.2.2.2.1) (fun hHeld => ?_)
  refine p_ 0 117 ?_
  refine p_ 1 118 ?_
  refine p_ 2 119 ?_
  refine t_ 3 120 hHeld ?_
  refine o_ 4 (some 121) (fun K hK => ?_)
  refine copy_row rfl (.tmp 118) (.tmp 120) rfl (g := g) (i := 24) (n := n) (m := n - (24)) (c := c1) (A' := A3) (A := A1) (L := L11) (cs := p11) rfl rfl HA3.out rfl HR11.out HL11.out (Kd.C_drew (Kd.C_below HA.out HB11.out)) (by have := HN.out; have := HLIM.out; omega) ?_
  intro w12 hr hb
  refine hK.out _ _ ((HCZ.out _ ((Below.refl g w11).drew.trans hb)).2.2.2.2.2.2.2.2.2.2.2.1) (fun hHeld => ?_)
  clear hK K
  refine n_ 121 ?_
  refine done_ (by kernel_rfl) ?_
  obtain ⟨L12, el⟩ : ∃ L, splice L11 (24) p11 = L := ⟨_, rfl⟩
  rw [el] at hr
  have EL12 := am_ el
  have HR12 := am_ hr
  have HX := am_ ((Below.refl g w11).drew.trans hb)
  have HZ12 := am_ ((HX.out.block w.heap.size HGL.out).trans HZ11.out)
  have HB12 := am_ (HB11.out.trans (HX.out.mono HGG.out))
  have HS12 := am_ (Nat.le_trans HS11.out HX.out.size)
  have HL12 := am_ (show L12.length = n from by rw [← el, splice_len (by rw [HL11.out]; have := HN.out; have := HLIM.out; omega)]; exact HL11.out)
  have HQ12 := am_ (show Bytes L12 from by rw [← el]; exact splice_bytes HQ11.out HYA.out)
  clear hHeld hr hb el HX HCZ HA3 hcut3
  obtain ⟨k0, k1, k2, k3, k4, k5, k6, k7, k8, k9, k10, k11, k12⟩ := c13 HZ12.out
  go_upto_region 30 with fail
  obtain ⟨A3, hA3, hcut3⟩ := cut_row g n (24 + p11.length) (iz := wrap64 (wrap64 (wrap64 (24 + (p12.length : Int)) + (p11.length : Int)) - (p12.length : Int))) (by rw [HNN.out, wid (by have := HN.out; omega) (by have := HN.out; omega)]; have := HN.out; omega) (by have := HN.out; omega)
  have HA3 := am_ hA3
  clear hA3
  have HCZ := am_ (fun W (h : Below g w12 W) => c13 ((h.block w.heap.size HGL.out).trans HZ12.out))
  clear k0 k1 k2 k3 k4 k5 k6 k7 k8 k9 k10 k11 k12
  refine start_ (n := 10) (S := fun w' => w'.cell? ⟨w.heap.size, 12, none⟩ = some (.slice A2 p12.length c2)) (ds := []) #[fF,fF,fF,fF,fF,fF,fF,fF,fF,fF] (by kernel_rfl) rfl rfl ((HCZ.out _ (Below.refl g w12).drew).2.2.2.2.2.2.2.2.2.2.2.2) (fun hHeld => ?_)
  refine p_ 0 135 ?_
  refine p_ 1 136 ?_
  refine p_ 2 137 ?_
  refine p_ 7 142 ?_
  refine t_ 3 138 hHeld ?_
  refine p_ 4 139 ?_
  refine p_ 5 140 ?_
  refine p_ 6 141 ?_
  refine t_ 8 143 hHeld ?_
  refine o_ 9 (some 144) (fun K hK => ?_)
  refine copy_row rfl (.tmp 141) (.tmp 143) rfl (g := g) (i := 24 + p11.length) (n := n) (m := n - (24 + p11.length)) (c := c2) (A' := A3) (A := A2) (L := L12) (cs := p12) rfl rfl HA3.out rfl HR12.out HL12.out (Kd.C_drew (Kd.C_below HD.out HB12.out)) (by have := HN.out; have := HLIM.out; omega) ?_
  intro w13 hr hb
  refine hK.out _ _ ((HCZ.out _ ((Below.refl g w12).drew.trans hb)).2.2.2.2.2.2.2.2.2.2.2.2) (fun hHeld => ?_)
  clear hK K
  refine n_ 144 ?_
  refine done_ (by kernel_rfl) ?_
  obtain ⟨L13, el⟩ : ∃ L, splice L12 (24 + p11.length) p12 = L := ⟨_, rfl⟩
  rw [el] at hr
  have EL13 := am_ el
  have HR13 := am_ hr
  have HX := am_ ((Below.refl g w12).drew.trans hb)
  have HZ13 := am_ ((HX.out.block w.heap.size HGL.out).trans HZ12.out)
  have HB13 := am_ (HB12.out.trans (HX.out.mono HGG.out))
  have HS13 := am_ (Nat.le_trans HS12.out HX.out.size)
  have HL13 := am_ (show L13.length = n from by rw [← el, splice_len (by rw [HL12.out]; have := HN.out; have := HLIM.out; omega)]; exact HL12.out)
  have HQ13 := am_ (show Bytes L13 from by rw [← el]; exact splice_bytes HQ12.out HYD.out)
  clear hHeld hr hb el HX HCZ HA3 hcut3
  obtain ⟨k0, k1, k2, k3, k4, k5, k6, k7, k8, k9, k10, k11, k12⟩ := c13 HZ13.out
  have SF := am_ (summed_calls (c := n) (by have h := row_C HR13.out (by have := HL13.out; have := HN.out; omega); rw [HL13.out] at h; exact h) HL13.out (Nat.le_refl _) (by have := HL13.out; have := HN.out; omega) (by have := HL13.out; have := HN.out; omega) HQ13.out)
  have HSO := am_ (summed_ok HQ13.out (by have := HL13.out; have := HN.out; omega) (by have := HL13.out; have := HN.out; omega))
  go_upto_region 32 with (first
    | (go_at_call 33; (with_reducible refine SF.out.mono ?_); rintro e w14 ⟨v, rfl, ho, hb⟩; obtain ⟨Av, cv, ev⟩ := Kd.R_slice ho; subst ev; have HR14 := am_ (show Row w14 g L13 from (hb.block g (blk_lt HR13.out)).trans HR13.out); have HZ14 := am_ ((hb.block w.heap.size (blk_lt HZ13.out)).trans HZ13.out); have HB14 := am_ (below_step HB13.out hb); have HS14 := am_ (Nat.le_trans HS13.out hb.size); have HRD := am_ (Kd.R_reads' ho); have OF := am_ (of_calls HRD.out.2.2 rfl HRD.out.2.1 HSO.out.2 (by have := HSO.out.1; omega)); clear ho hb; clear k0 k1 k2 k3 k4 k5 k6 k7 k8 k9 k10 k11 k12; obtain ⟨k0, k1, k2, k3, k4, k5, k6, k7, k8, k9, k10, k11, k12⟩ := c13 HZ14.out)
    | (go_at_call 19; (with_reducible refine OF.out.mono ?_); rintro e w30 ⟨rfl, ⟨⟨nd2, rfl⟩⟩⟩))
  have HR14' := am_ (show Row (w14.drewN nd2) g L13 from HR14.out)
  have HZ14' := am_ (show (w14.drewN nd2).heap[w.heap.size]? = _ from HZ14.out)
  have HB14' := am_ (bd HB14.out nd2)
  have HS14' := am_ (show g ≤ (w14.drewN nd2).heap.size from HS14.out)
  generalize w14.drewN nd2 = w40 at HR14' HZ14' HB14' HS14' ⊢
  clear SF OF HRD HR14 HZ14 HB14 HS14 k0 k1 k2 k3 k4 k5 k6 k7 k8 k9 k10 k11 k12
  obtain ⟨k0, k1, k2, k3, k4, k5, k6, k7, k8, k9, k10, k11, k12⟩ := c13 HZ14'.out
  have G39 := am_ (fun W => wire_sumPlace.calls p0 22 W (by unfold wire_sumPlace.f; have := HK.out; rw [if_neg (by omega)]))
  have PR := am_ (fun nd_ => put_row (w0 := w) (w := w40.drewN nd_) 22 2 (65535 - fold (pairs (summedL L13))) (iz := 22) (mz := 2) (bd HB14'.out nd_) HGG.out HR14'.out HL13.out (by have := HL13.out; have := HN.out; omega) rfl rfl (by omega) (by have := HL13.out; have := HN.out; have := HLIM.out; have := HK.out; omega))
  go_wp2_with (first
    | (go_at_call 34; (with_reducible refine (G39.out _).mono ?_); rintro e w41 ⟨rfl, ⟨⟨nd3, rfl⟩⟩⟩)
    | (go_at_call 32; (with_reducible refine (PR.out _).mono ?_); rintro e w42 ⟨rfl, hr, hc⟩; have HRX := am_ hr; have HBX := am_ (hc.below (bd HB14'.out _) HGG.out); clear hr hc))
  go_ret2
  refine ⟨_, rfl, ?_, HBX.out⟩
  have hl := RB_of_row HRX.out HGG.out (by rw [putL_len, HL13.out]; have := HN.out; omega)
  rw [putL_len, HL13.out] at hl
  have e : putL L13 22 2 (65535 - fold (pairs (summedL L13))) = buildL ⟨p0, p1, p2, p3, p4, p5, p6, p7, p8, p9, p10, p11, p12⟩ := by
    rw [show (65535 - fold (pairs (summedL L13)) : Int) = sumL p0 p9 L13 from by unfold sumL; rw [if_neg (fun h => by have := HK.out; omega), if_neg (fun h => by have := HK.out; omega)]]
    have hb : L13 = bodyL ⟨p0, p1, p2, p3, p4, p5, p6, p7, p8, p9, p10, p11, p12⟩ := by
      rw [← EL13.out, ← EL12.out, ← EL11.out, ← EL10.out, ← EL9.out, ← EL8.out, ← EL7.out, ← EL6.out, ← EL5.out, ← EL4.out]
      unfold bodyL h4L h3L
      simp only [HNL.out, HNN.out]
      rw [if_neg (show ¬ p0 = 3 by have := HK.out; omega), if_neg (show ¬ p0 = 2 by have := HK.out; omega)]
      rw [show n - p12.length = 24 + p11.length from by have := HN.out; omega]
    rw [hb]
    unfold buildL
    simp only []
    rw [if_neg (show ¬ p0 = 3 by have := HK.out; omega)]
  rw [← e]
  exact hl
/-- What stands behind Build's call. -/
def Built (w : World) (p : Pk) (e : Ending) (w' : World) : Prop :=
  ∃ v, e = .returned (.tuple #[v, .int .i64 (buildE p)]) ∧ RB w.heap.size w' v (if buildE p = 0 then buildL p else []) ∧ Below w.heap.size w w'
theorem built_ok {w w' : World} {p : Pk} {e : Ending} (hx : buildE p = 0) (h : ∃ v, e = .returned (.tuple #[v, .int .i64 0]) ∧ RB w.heap.size w' v (buildL p) ∧ Below w.heap.size w w') : Built w p e w' := by
  obtain ⟨v, h1, h2, h3⟩ := h
  exact ⟨v, by rw [hx]; exact h1, by rw [if_pos hx]; exact h2, h3⟩
theorem build_calls {p : Pk} {A1 A2 : Option Addr} {c1 c2 : Nat} {w : World} (ha : Kd.C (Kd.int .u8) w A1 p.opts.length p.opts) (hca : p.opts.length ≤ c1) (hd : Kd.C (Kd.int .u8) w A2 p.data.length p.data) (hcd : p.data.length ≤ c2) (hba : Bytes p.opts) (hbd : Bytes p.data)
    (hE : buildE p = 0) (hk : p.kind = 1 ∨ p.kind = 2) : Calls Tryz.prog 7 #[pkV p (.slice A1 p.opts.length c1) (.slice A2 p.data.length c2)] w (Built w p) := by
  obtain ⟨p0, p1, p2, p3, p4, p5, p6, p7, p8, p9, p10, p11, p12⟩ := p
  dsimp only at ha hca hd hcd hba hbd hk
  rcases hk with h | h
  · exact (build_stream ha hca hd hcd hba hbd h hE).mono fun _ _ h => built_ok hE h
  · exact (build_gram ha hca hd hcd hba hbd h hE).mono fun _ _ h => built_ok hE h
theorem rb_form {b : Nat} {w : World} {v : Value} {l : List Int} (h : RB b w v l) (h0 : 0 < l.length) : ∃ g c, v = .slice (some ⟨g, 0, none⟩) l.length c ∧ b ≤ g := by
  obtain ⟨g, c, e, hb, _⟩ := Kd.R_form h h0
  exact ⟨g, c, e, hb⟩
theorem rb_cell {b g n c : Nat} {w : World} {l : List Int} (h : RB b w (.slice (some ⟨g, 0, none⟩) n c) l) (i : Nat) (hi : i < n) : w.cell? ⟨g, i, none⟩ = some (.int .u8 (l.getD i 0)) := by
  obtain ⟨ad, e, hc⟩ := cells_of (w := w) (A := some ⟨g, 0, none⟩) (n := n) (l := l) (by have := (Kd.R_reads' h); rw [this.1]; exact this.2.2) (by omega)
  injection e with e
  subst e
  have := hc i hi
  rw [Addr.add_mid] at this
  simpa using this
theorem rb_frozen {b g n c : Nat} {w : World} {l : List Int} (h : RB b w (.slice (some ⟨g, 0, none⟩) n c) l) (i : Nat) : w.frozen? ⟨g, i, none⟩ = false := by
  have ho := Kd.own_of_R (enc := Value.int .u8) (h1 := fun _ => rfl) h
  rcases ho.2 with ⟨hv, _⟩ | ⟨g', cap, cur, hv, _, hh, _⟩
  · cases hv
  · injection hv with ha _ _
    injection ha with ha
    injection ha with ha
    subst ha
    simp [World.frozen?, hh]
theorem rb_set {b g n c : Nat} {w : World} {l : List Int} (h : RB b w (.slice (some ⟨g, 0, none⟩) n c) l) (i : Nat) (x : Int) : RB b (w.setCell ⟨g, i, none⟩ (.int .u8 x)) (.slice (some ⟨g, 0, none⟩) n c) (l.set i x) := by
  have := Kd.R_putn h (i : Int) x
  simp only [Int.toNat_natCast] at this
  exact this
def h3R (n : Nat) (kind life piece frm dst : Int) : List Int :=
  putL (putL (putL ((((List.replicate 16 0).set 0 (kind % 256)).set 1 (life % 256)).set 12 (piece % 256)) 2 2 n) 4 4 frm) 8 4 dst
def h4R (n : Nat) (kind life piece frm dst : Int) : List Int := putL (h3R n kind life piece frm dst) 14 2 (65535 - fold (pairs (h3R n kind life piece frm dst)))
def rbodyL (p : Pk) : List Int :=
  let h4 := h4R (nL p) p.kind p.life p.piece p.frm p.dst
  (if p.kind = 3 then h4 ++ [p.code % 256, 0, 0, 0]
    else putL (putL (if p.kind = 2 then putL (h4 ++ List.replicate 8 0) 20 2 p.label else ((h4 ++ List.replicate 8 0 ++ p.opts).set 20 (p.flags % 256)).set 21 ((p.opts.length : Int) % 256)) 16 2 p.fp) 18 2 p.tp) ++ p.data
def rbuildL (p : Pk) : List Int := putL (rbodyL p) (if p.kind = 3 then 18 else 22) 2 (sumL p.kind p.bare (rbodyL p))
theorem putL_app (i : Nat) : ∀ (m : Nat) (A B : List Int) (v : Int), i + m ≤ A.length → putL (A ++ B) i m v = putL A i m v ++ B
  | 0, _, _, _, _ => rfl
  | m + 1, A, B, v, h => by
    rw [putL, putL, List.set_append_left _ _ (by omega)]
    exact putL_app i m _ _ _ (by rw [List.length_set]; omega)
theorem h3L_app (n : Nat) (h : 16 ≤ n) (a b c d e : Int) : h3L n a b c d e = h3R n a b c d e ++ List.replicate (n - 16) 0 := by
  unfold h3L h3R
  have e0 : List.replicate n (0 : Int) = List.replicate 16 0 ++ List.replicate (n - 16) 0 := by rw [List.replicate_append_replicate]; congr 1; omega
  rw [e0, List.set_append_left _ _ (by simp), List.set_append_left _ _ (by simp), List.set_append_left _ _ (by simp), putL_app _ _ _ _ _ (by simp), putL_app _ _ _ _ _ (by rw [putL_len]; simp), putL_app _ _ _ _ _ (by rw [putL_len, putL_len]; simp)]
theorem h3R_len (n : Nat) (a b c d e : Int) : (h3R n a b c d e).length = 16 := by unfold h3R; rw [putL_len, putL_len, putL_len]; simp
theorem h4R_len (n : Nat) (a b c d e : Int) : (h4R n a b c d e).length = 16 := by unfold h4R; rw [putL_len, h3R_len]
theorem h4L_app (n : Nat) (h : 16 ≤ n) (a b c d e : Int) : h4L n a b c d e = h4R n a b c d e ++ List.replicate (n - 16) 0 := by
  unfold h4L h4R
  rw [h3L_app n h, List.take_left' (h3R_len ..), putL_app _ _ _ _ _ (by rw [h3R_len]; decide)]
theorem splice_end {A Z : List Int} {cs : List Int} {o : Nat} (ho : A.length = o) (hz : Z.length = cs.length) : splice (A ++ Z) o cs = A ++ cs := by
  unfold splice
  rw [List.take_left' ho, List.drop_of_length_le (by rw [List.length_append]; omega), List.append_nil]
theorem putL_set (i : Nat) (a : Nat) (x : Int) : ∀ (m : Nat) (l : List Int) (v : Int), (a < i ∨ i + m ≤ a) → putL (l.set a x) i m v = (putL l i m v).set a x
  | 0, _, _, _ => rfl
  | m + 1, l, v, h => by
    rw [putL, putL, List.set_comm _ _ (show a ≠ i + m by omega)]
    exact putL_set i a x m _ _ (by omega)
theorem putL_comm (i j k : Nat) (u : Int) : ∀ (m : Nat) (l : List Int) (v : Int), (i + m ≤ j ∨ j + k ≤ i) → putL (putL l i m v) j k u = putL (putL l j k u) i m v
  | 0, _, _, _ => rfl
  | m + 1, l, v, h => by
    rw [putL, putL, putL_comm i j k u m _ _ (by omega), putL_set j _ _ k _ _ (by omega)]
theorem body_eq {p : Pk} (hk : 1 ≤ p.kind ∧ p.kind ≤ 3) : rbodyL p = bodyL p := by
  obtain ⟨p0, p1, p2, p3, p4, p5, p6, p7, p8, p9, p10, p11, p12⟩ := p
  dsimp only at hk
  unfold rbodyL bodyL
  dsimp only
  have hkk : p0 = 1 ∨ p0 = 2 ∨ p0 = 3 := by omega
  rcases hkk with rfl | rfl | rfl
  · have hn : nL ⟨1, p1, p2, p3, p4, p5, p6, p7, p8, p9, p10, p11, p12⟩ = 24 + p12.length + p11.length := rfl
    rw [hn, h4L_app _ (by omega), if_neg (by decide), if_neg (by decide), if_neg (by decide), if_neg (by decide)]
    have hH := h4R_len (24 + p12.length + p11.length) 1 p1 p2 p3 p4
    generalize h4R (24 + p12.length + p11.length) 1 p1 p2 p3 p4 = H at hH ⊢
    obtain ⟨X, hX⟩ : ∃ X, H ++ List.replicate 8 (0 : Int) = X := ⟨_, rfl⟩
    have hXl : X.length = 24 := by rw [← hX]; simp [hH]
    have e1 : H ++ List.replicate (24 + p12.length + p11.length - 16) (0 : Int) = X ++ (List.replicate p11.length 0 ++ List.replicate p12.length 0) := by
      rw [← hX, List.append_assoc, List.replicate_append_replicate, List.replicate_append_replicate]; congr 2; omega
    rw [e1, hX, show 24 + p12.length + p11.length - p12.length = 24 + p11.length by omega]
    obtain ⟨Y, hY⟩ : ∃ Y, ((putL (putL X 16 2 p5) 18 2 p6).set 20 (p7 % 256)).set 21 ((p11.length : Int) % 256) = Y := ⟨_, rfl⟩
    have hYl : Y.length = 24 := by rw [← hY, List.length_set, List.length_set, putL_len, putL_len, hXl]
    have r : putL (putL (((X ++ p11).set 20 (p7 % 256)).set 21 ((p11.length : Int) % 256)) 16 2 p5) 18 2 p6 = Y ++ p11 := by
      rw [List.set_append_left _ _ (by omega), List.set_append_left _ _ (by rw [List.length_set]; omega), putL_app _ _ _ _ _ (by rw [List.length_set, List.length_set]; omega), putL_app _ _ _ _ _ (by rw [putL_len, List.length_set, List.length_set]; omega),
        putL_set _ _ _ _ _ _ (by omega), putL_set _ _ _ _ _ _ (by omega), putL_set _ _ _ _ _ _ (by omega), putL_set _ _ _ _ _ _ (by omega), hY]
    have q : ((putL (putL (X ++ (List.replicate p11.length 0 ++ List.replicate p12.length 0)) 16 2 p5) 18 2 p6).set 20 (p7 % 256)).set 21 ((p11.length : Int) % 256) = Y ++ (List.replicate p11.length 0 ++ List.replicate p12.length 0) := by
      rw [putL_app _ _ _ _ _ (by omega), putL_app _ _ _ _ _ (by rw [putL_len]; omega), List.set_append_left _ _ (by rw [putL_len, putL_len]; omega), List.set_append_left _ _ (by rw [List.length_set, putL_len, putL_len]; omega), hY]
    rw [r, q]
    have s1 : splice (Y ++ (List.replicate p11.length 0 ++ List.replicate p12.length 0)) 24 p11 = (Y ++ p11) ++ List.replicate p12.length 0 := by
      unfold splice
      rw [List.take_left' hYl, show 24 + p11.length = Y.length + p11.length by omega, ← List.drop_drop, List.drop_left, List.drop_left' (by simp), List.append_assoc]
    rw [s1, splice_end (by rw [List.length_append]; omega) (by simp)]
  · have hn : nL ⟨2, p1, p2, p3, p4, p5, p6, p7, p8, p9, p10, p11, p12⟩ = 24 + p12.length := rfl
    rw [hn, h4L_app _ (by omega), if_neg (by decide), if_pos rfl, if_neg (by decide), if_pos rfl]
    have hH := h4R_len (24 + p12.length) 2 p1 p2 p3 p4
    generalize h4R (24 + p12.length) 2 p1 p2 p3 p4 = H at hH ⊢
    obtain ⟨X, hX⟩ : ∃ X, H ++ List.replicate 8 (0 : Int) = X := ⟨_, rfl⟩
    have hXl : X.length = 24 := by rw [← hX]; simp [hH]
    have e1 : H ++ List.replicate (24 + p12.length - 16) (0 : Int) = X ++ List.replicate p12.length 0 := by
      rw [← hX, List.append_assoc, List.replicate_append_replicate]; congr 2; omega
    rw [e1, hX, show 24 + p12.length - p12.length = 24 by omega, putL_app _ _ _ _ _ (by omega), putL_app _ _ _ _ _ (by rw [putL_len]; omega), putL_app _ _ _ _ _ (by rw [putL_len, putL_len]; omega), splice_end (by rw [putL_len, putL_len, putL_len]; exact hXl) (by simp)]
    rw [putL_comm 20 16 2 _ _ _ _ (by omega), putL_comm 20 18 2 _ _ _ _ (by omega)]
  · have hn : nL ⟨3, p1, p2, p3, p4, p5, p6, p7, p8, p9, p10, p11, p12⟩ = 20 + p12.length := rfl
    rw [hn, h4L_app _ (by omega), if_pos rfl, if_pos rfl]
    have hH := h4R_len (20 + p12.length) 3 p1 p2 p3 p4
    generalize h4R (20 + p12.length) 3 p1 p2 p3 p4 = H at hH ⊢
    have e1 : (H ++ List.replicate (20 + p12.length - 16) (0 : Int)).set 16 (p10 % 256) = (H ++ [p10 % 256, 0, 0, 0]) ++ List.replicate p12.length 0 := by
      rw [List.set_append_right _ _ (by omega), hH, show 20 + p12.length - 16 = 4 + p12.length by omega, ← List.replicate_append_replicate]
      simp [List.replicate]
    rw [e1, show 20 + p12.length - p12.length = 20 by omega, splice_end (by simp [hH]) (by simp)]
theorem rbuildL_eq {p : Pk} (hk : 1 ≤ p.kind ∧ p.kind ≤ 3) : rbuildL p = buildL p := by
  unfold rbuildL buildL
  rw [body_eq hk]
theorem results_tct {fn : Func} {q p u : Tmp} {ty : TypeId} (h : fn.results = #[.tmp q, .cell p ty, .tmp u]) (tmps : Array Value) (P : Program) (w : World) :
    (results fn tmps).run P w =
      ((asAddr (tmps.getD p undef)).run P w).andThen fun a w₁ => ((loadVar ty a).run P w₁).andThen fun v w₂ => .ok (.tuple #[tmps.getD q undef, v, tmps.getD u undef]) w₂ := by
  simp only [results, h]
  simp [Sem.run_bind, Result.andThen]
/-- A turner in block t: what was, what is (row g), bare or not. -/
structure Tur (w0 w : World) (t g : Nat) (A : Option Addr) (c cc : Nat) (was L : List Int) (bare : Bool) : Prop where
  blk : w.heap[t]? = some (.cells #[.slice A was.length c, .slice (some ⟨g, 0, none⟩) was.length cc, .bool bare] 148 (0, 0))
  row : RB w0.heap.size w (.slice (some ⟨g, 0, none⟩) was.length cc) L
  rd : Kd.C (Kd.int .u8) w0 A was.length was
  le : was.length ≤ c
  len : L.length = was.length
  ne : t ≠ g
  ht : w0.heap.size ≤ t
  hg : w0.heap.size ≤ g
  below : Below w0.heap.size w0 w
theorem begin_err {A : Option Addr} {c : Nat} {l : List Int} {w : World} (hr : Kd.C (Kd.int .u8) w A l.length l) (hc : l.length ≤ c) (hl : l.length ≤ 100000) (hb : Bytes l) {p0 p1 p2 p3 p4 p5 p6 p7 p8 : Int} {p9 : Bool} {p10 : Int} {p11 p12 : List Int} {x : Int} (hp : parseL l = (⟨p0, p1, p2, p3, p4, p5, p6, p7, p8, p9, p10, p11, p12⟩, x)) (hx : x ≠ 0) :
    Calls Tryz.prog 76 #[.slice A l.length c] w fun e w' => (∃ (A1 : Option Addr) (c1 : Nat) (A2 : Option Addr) (c2 : Nat), e = .returned (.tuple #[.pointer none, .agg #[.int .i64 p0, .int .i64 p1, .int .i64 p2, .int .i64 p3, .int .i64 p4, .int .i64 p5, .int .i64 p6, .int .i64 p7, .int .i64 p8, .bool p9, .int .i64 p10, .slice A1 p11.length c1, .slice A2 p12.length c2], .int .i64 x])) ∧ Below w.heap.size w w' := by
  have q0 : (x == 0) = false := beq_eq_false_iff_ne.mpr hx
  have q0n : (x != 0) = true := bne_iff_ne.mpr hx
  have HR := am_ hr
  have HC := am_ hc
  have HL := am_ hl
  have HY := am_ hb
  have HP := am_ hp
  have HG := am_ (fun o => parse_calls (Kd.C_alloc hr o) rfl hc hl hb)
  have HBA := am_ ((Below.refl w.heap.size w).alloc (Nat.le_refl _) (.cells zero13 37))
  have HNB := am_ (new_blk w (.cells zero13 37))
  clear hr hc hl hb hp
  go_enter Tryz.func76, Tryz.ntmps76
  go_upto_region 3 with (first
    | (go_at_call 38; (with_reducible refine (HG.out _).mono ?_); intro e w1 hq; obtain ⟨A1, c1, A2, c2, rfl, h1, h2, h3, hb1⟩ := got_of HP.out hq; have HB1 := am_ (below_step HBA.out hb1); have HYB := am_ ((hb1.block w.heap.size (blk_lt HNB.out)).trans HNB.out); clear hq h1 h2 h3 hb1))
  change Code.wp _ _ _ _ (w1.alloc (.cells #[.int .i64 p0, .int .i64 p1, .int .i64 p2, .int .i64 p3, .int .i64 p4, .int .i64 p5, .int .i64 p6, .int .i64 p7, .int .i64 p8, .bool p9, .int .i64 p10, .slice A1 p11.length c1, .slice A2 p12.length c2] 37))
  obtain ⟨g5, HG5⟩ : ∃ g, w1.heap.size = g := ⟨_, rfl⟩
  have HLT := am_ (show w.heap.size < g5 from by rw [← HG5]; exact blk_lt HYB.out)
  have HZ5 : Aside0 ((w1.alloc (.cells #[.int .i64 p0, .int .i64 p1, .int .i64 p2, .int .i64 p3, .int .i64 p4, .int .i64 p5, .int .i64 p6, .int .i64 p7, .int .i64 p8, .bool p9, .int .i64 p10, .slice A1 p11.length c1, .slice A2 p12.length c2] 37)).heap[g5]? = some (.cells #[.int .i64 p0, .int .i64 p1, .int .i64 p2, .int .i64 p3, .int .i64 p4, .int .i64 p5, .int .i64 p6, .int .i64 p7, .int .i64 p8, .bool p9, .int .i64 p10, .slice A1 p11.length c1, .slice A2 p12.length c2] 37 (0, 0))) := am_ (by rw [← HG5]; exact new_blk w1 _)
  have HY5 := am_ ((Below.heap_alloc w1 (.cells #[.int .i64 p0, .int .i64 p1, .int .i64 p2, .int .i64 p3, .int .i64 p4, .int .i64 p5, .int .i64 p6, .int .i64 p7, .int .i64 p8, .bool p9, .int .i64 p10, .slice A1 p11.length c1, .slice A2 p12.length c2] 37) w.heap.size (blk_lt HYB.out)).trans HYB.out)
  have HB5 := am_ (HB1.out.alloc HB1.out.size (.cells #[.int .i64 p0, .int .i64 p1, .int .i64 p2, .int .i64 p3, .int .i64 p4, .int .i64 p5, .int .i64 p6, .int .i64 p7, .int .i64 p8, .bool p9, .int .i64 p10, .slice A1 p11.length c1, .slice A2 p12.length c2] 37))
  generalize w1.alloc (.cells #[.int .i64 p0, .int .i64 p1, .int .i64 p2, .int .i64 p3, .int .i64 p4, .int .i64 p5, .int .i64 p6, .int .i64 p7, .int .i64 p8, .bool p9, .int .i64 p10, .slice A1 p11.length c1, .slice A2 p12.length c2] 37) = w5 at HZ5 HY5 HB5 ⊢
  clear HB1 HYB HBA HNB HG
  have HCZ := am_ (fun W (h : Below (g5 + 1) w5 W) => c13 ((h.block g5 (Nat.lt_succ_self _)).trans HZ5.out))
  refine start_ (n := 5) (S := fun w' => w'.cell? ⟨g5, 0, none⟩ = some (.int .i64 p0) ∧ w'.cell? ⟨g5, 1, none⟩ = some (.int .i64 p1) ∧ w'.cell? ⟨g5, 2, none⟩ = some (.int .i64 p2) ∧ w'.cell? ⟨g5, 3, none⟩ = some (.int .i64 p3) ∧ w'.cell? ⟨g5, 4, none⟩ = some (.int .i64 p4) ∧ w'.cell? ⟨g5, 5, none⟩ = some (.int .i64 p5) ∧ w'.cell? ⟨g5, 6, none⟩ = some (.int .i64 p6) ∧ w'.cell? ⟨g5, 7, none⟩ = some (.int .i64 p7) ∧ w'.cell? ⟨g5, 8, none⟩ = some (.int .i64 p8) ∧ w'.cell? ⟨g5, 9, none⟩ = some (.bool p9) ∧ w'.cell? ⟨g5, 10, none⟩ = some (.int .i64 p10) ∧ w'.cell? ⟨g5, 11, none⟩ = some (.slice A1 p11.length c1) ∧ w'.cell? ⟨g5, 12, none⟩ = some (.slice A2 p12.length c2)) (ds := [3]) #[fF,fF,fF,fF,fF] (by kernel_rfl) rfl rfl ⟨(HCZ.out _ (Below.refl (g5 + 1) w5).drew).1, (HCZ.out _ (Below.refl (g5 + 1) w5).drew).2.1, (HCZ.out _ (Below.refl (g5 + 1) w5).drew).2.2.1, (HCZ.out _ (Below.refl (g5 + 1) w5).drew).2.2.2.1, (HCZ.out _ (Below.refl (g5 + 1) w5).drew).2.2.2.2.1, (HCZ.out _ (Below.refl (g5 + 1) w5).drew).2.2.2.2.2.1, (HCZ.out _ (Below.refl (g5 + 1) w5).drew).2.2.2.2.2.2.1, (HCZ.out _ (Below.refl (g5 + 1) w5).drew).2.2.2.2.2.2.2.1, (HCZ.out _ (Below.refl (g5 + 1) w5).drew).2.2.2.2.2.2.2.2.1, (HCZ.out _ (Below.refl (g5 + 1) w5).drew).2.2.2.2.2.2.2.2.2.1, (HCZ.out _ (Below.refl (g5 + 1) w5).drew).2.2.2.2.2.2.2.2.2.2.1, (HCZ.out _ (Below.refl (g5 + 1) w5).drew).2.2.2.2.2.2.2.2.2.2.2.1, (HCZ.out _ (Below.refl (g5 + 1) w5).drew).2.2.2.2.2.2.2.2.2.2.2.2⟩ (fun hHeld => ?_)
  refine p_ 1 15 ?_
  refine p_ 2 2 ?_
  refine t_ 0 14 hHeld ?_
  refine l_ 3 none (fun K hK => ?_)
  obtain ⟨y0, y1, y2, y3, y4, y5, y6, y7, y8, y9, y10, y11, y12⟩ := c13 HY5.out
  obtain ⟨u0, u1, u2, u3, u4, u5, u6, u7, u8, u9, u10, u11, u12⟩ := f13 HY5.out
  refine s_ ?_
  refine hK.out _ _ ?_
  clear hK K
  refine p_ 4 4 ?_
  refine done_ (by kernel_rfl) ?_
  go_wp2
  (try simp only [Exit.inBlock, Exit.then])
  refine bodyPost_ret (v := .tuple #[.pointer none, .agg #[.int .i64 p0, .int .i64 p1, .int .i64 p2, .int .i64 p3, .int .i64 p4, .int .i64 p5, .int .i64 p6, .int .i64 p7, .int .i64 p8, .bool p9, .int .i64 p10, .slice A1 p11.length c1, .slice A2 p12.length c2], .int .i64 x]) ?_ rfl ⟨⟨A1, c1, A2, c2, rfl⟩, ?_⟩
  · rw [results_tct rfl]
    go_simp
  · exact (lay13_below HB5.out (Nat.le_refl _) _ _ _ _ _ _ _ _ _ _ _ _ _).drew
theorem begin_ok {A : Option Addr} {c : Nat} {l : List Int} {w : World} (hr : Kd.C (Kd.int .u8) w A l.length l) (hc : l.length ≤ c) (hl : l.length ≤ 100000) (hb : Bytes l) {p0 p1 p2 p3 p4 p5 p6 p7 p8 : Int} {p9 : Bool} {p10 : Int} {p11 p12 : List Int} (hp : parseL l = (⟨p0, p1, p2, p3, p4, p5, p6, p7, p8, p9, p10, p11, p12⟩, 0)) :
    Calls Tryz.prog 76 #[.slice A l.length c] w fun e w' => ∃ (t g cc : Nat) (A1 : Option Addr) (c1 : Nat) (A2 : Option Addr) (c2 : Nat), e = .returned (.tuple #[.pointer (some ⟨t, 0, none⟩), .agg #[.int .i64 p0, .int .i64 p1, .int .i64 p2, .int .i64 p3, .int .i64 p4, .int .i64 p5, .int .i64 p6, .int .i64 p7, .int .i64 p8, .bool p9, .int .i64 p10, .slice A1 p11.length c1, .slice A2 p12.length c2], .int .i64 0]) ∧ Tur w w' t g A c cc l l p9 := by
  have H0 := am_ (show 0 < l.length from by have := (head0 (parse0 hp)).1; omega)
  have HR := am_ hr
  have HC := am_ hc
  have HL := am_ hl
  have HY := am_ hb
  have HP := am_ hp
  have HG := am_ (fun o => parse_calls (Kd.C_alloc hr o) rfl hc hl hb)
  have HBA := am_ ((Below.refl w.heap.size w).alloc (Nat.le_refl _) (.cells zero13 37))
  have HNB := am_ (new_blk w (.cells zero13 37))
  clear hr hc hl hb hp
  go_enter Tryz.func76, Tryz.ntmps76
  go_upto_region 4 with (first
    | (go_at_call 38; (with_reducible refine (HG.out _).mono ?_); intro e w1 hq; obtain ⟨A1, c1, A2, c2, rfl, h1, h2, h3, hb1⟩ := got_of HP.out hq; have HB1 := am_ (below_step HBA.out hb1); have HYB := am_ ((hb1.block w.heap.size (blk_lt HNB.out)).trans HNB.out); clear hq h1 h2 h3 hb1))
  change Code.wp _ _ _ _ (w1.alloc (.cells #[.int .i64 p0, .int .i64 p1, .int .i64 p2, .int .i64 p3, .int .i64 p4, .int .i64 p5, .int .i64 p6, .int .i64 p7, .int .i64 p8, .bool p9, .int .i64 p10, .slice A1 p11.length c1, .slice A2 p12.length c2] 37))
  obtain ⟨g5, HG5⟩ : ∃ g, w1.heap.size = g := ⟨_, rfl⟩
  have HLT := am_ (show w.heap.size < g5 from by rw [← HG5]; exact blk_lt HYB.out)
  have HZ5 : Aside0 ((w1.alloc (.cells #[.int .i64 p0, .int .i64 p1, .int .i64 p2, .int .i64 p3, .int .i64 p4, .int .i64 p5, .int .i64 p6, .int .i64 p7, .int .i64 p8, .bool p9, .int .i64 p10, .slice A1 p11.length c1, .slice A2 p12.length c2] 37)).heap[g5]? = some (.cells #[.int .i64 p0, .int .i64 p1, .int .i64 p2, .int .i64 p3, .int .i64 p4, .int .i64 p5, .int .i64 p6, .int .i64 p7, .int .i64 p8, .bool p9, .int .i64 p10, .slice A1 p11.length c1, .slice A2 p12.length c2] 37 (0, 0))) := am_ (by rw [← HG5]; exact new_blk w1 _)
  have HY5 := am_ ((Below.heap_alloc w1 (.cells #[.int .i64 p0, .int .i64 p1, .int .i64 p2, .int .i64 p3, .int .i64 p4, .int .i64 p5, .int .i64 p6, .int .i64 p7, .int .i64 p8, .bool p9, .int .i64 p10, .slice A1 p11.length c1, .slice A2 p12.length c2] 37) w.heap.size (blk_lt HYB.out)).trans HYB.out)
  have HB5 := am_ (HB1.out.alloc HB1.out.size (.cells #[.int .i64 p0, .int .i64 p1, .int .i64 p2, .int .i64 p3, .int .i64 p4, .int .i64 p5, .int .i64 p6, .int .i64 p7, .int .i64 p8, .bool p9, .int .i64 p10, .slice A1 p11.length c1, .slice A2 p12.length c2] 37))
  generalize w1.alloc (.cells #[.int .i64 p0, .int .i64 p1, .int .i64 p2, .int .i64 p3, .int .i64 p4, .int .i64 p5, .int .i64 p6, .int .i64 p7, .int .i64 p8, .bool p9, .int .i64 p10, .slice A1 p11.length c1, .slice A2 p12.length c2] 37) = w5 at HZ5 HY5 HB5 ⊢
  clear HB1 HYB HBA HNB HG
  have HCZ := am_ (fun W (h : Below (g5 + 1) w5 W) => c13 ((h.block g5 (Nat.lt_succ_self _)).trans HZ5.out))
  refine start_ (n := 11) (S := fun w' => w'.cell? ⟨g5, 0, none⟩ = some (.int .i64 p0) ∧ w'.cell? ⟨g5, 1, none⟩ = some (.int .i64 p1) ∧ w'.cell? ⟨g5, 2, none⟩ = some (.int .i64 p2) ∧ w'.cell? ⟨g5, 3, none⟩ = some (.int .i64 p3) ∧ w'.cell? ⟨g5, 4, none⟩ = some (.int .i64 p4) ∧ w'.cell? ⟨g5, 5, none⟩ = some (.int .i64 p5) ∧ w'.cell? ⟨g5, 6, none⟩ = some (.int .i64 p6) ∧ w'.cell? ⟨g5, 7, none⟩ = some (.int .i64 p7) ∧ w'.cell? ⟨g5, 8, none⟩ = some (.int .i64 p8) ∧ w'.cell? ⟨g5, 9, none⟩ = some (.bool p9) ∧ w'.cell? ⟨g5, 10, none⟩ = some (.int .i64 p10) ∧ w'.cell? ⟨g5, 11, none⟩ = some (.slice A1 p11.length c1) ∧ w'.cell? ⟨g5, 12, none⟩ = some (.slice A2 p12.length c2)) (ds := [9]) #[fF,fF,fF,fF,fF,fF,fF,fF,fF,fF,fF] (by kernel_rfl) rfl rfl ⟨(HCZ.out _ (Below.refl (g5 + 1) w5).drew).1, (HCZ.out _ (Below.refl (g5 + 1) w5).drew).2.1, (HCZ.out _ (Below.refl (g5 + 1) w5).drew).2.2.1, (HCZ.out _ (Below.refl (g5 + 1) w5).drew).2.2.2.1, (HCZ.out _ (Below.refl (g5 + 1) w5).drew).2.2.2.2.1, (HCZ.out _ (Below.refl (g5 + 1) w5).drew).2.2.2.2.2.1, (HCZ.out _ (Below.refl (g5 + 1) w5).drew).2.2.2.2.2.2.1, (HCZ.out _ (Below.refl (g5 + 1) w5).drew).2.2.2.2.2.2.2.1, (HCZ.out _ (Below.refl (g5 + 1) w5).drew).2.2.2.2.2.2.2.2.1, (HCZ.out _ (Below.refl (g5 + 1) w5).drew).2.2.2.2.2.2.2.2.2.1, (HCZ.out _ (Below.refl (g5 + 1) w5).drew).2.2.2.2.2.2.2.2.2.2.1, (HCZ.out _ (Below.refl (g5 + 1) w5).drew).2.2.2.2.2.2.2.2.2.2.2.1, (HCZ.out _ (Below.refl (g5 + 1) w5).drew).2.2.2.2.2.2.2.2.2.2.2.2⟩ (fun hHeld => ?_)
  refine p_ 0 16 ?_
  refine p_ 1 17 ?_
  refine p_ 3 19 ?_
  refine t_ 4 20 hHeld ?_
  refine t_ 7 23 hHeld ?_
  refine o_ 2 (some 18) (fun K hK => ?_)
  refine g_ Tryz.func75 #[.slice A l.length c] ?_
  with_reducible refine (clone_calls (Kd.C_drew (Kd.C_below HR.out HB5.out)) rfl HC.out HL.out).mono ?_
  rintro e w6 ⟨v, rfl, ho, hb6⟩
  obtain ⟨g, cc, ev, hgb⟩ := rb_form ho H0.out
  subst ev
  refine ⟨_, rfl, ?_⟩
  have HX := am_ (((Below.refl (g5 + 1) w5).drew).trans (hb6.mono (blk_lt HZ5.out)))
  have HRW := am_ ho
  have HGB := am_ hgb
  clear ho hb6 hgb
  refine hK.out _ _ ⟨(HCZ.out _ HX.out).1, (HCZ.out _ HX.out).2.1, (HCZ.out _ HX.out).2.2.1, (HCZ.out _ HX.out).2.2.2.1, (HCZ.out _ HX.out).2.2.2.2.1, (HCZ.out _ HX.out).2.2.2.2.2.1, (HCZ.out _ HX.out).2.2.2.2.2.2.1, (HCZ.out _ HX.out).2.2.2.2.2.2.2.1, (HCZ.out _ HX.out).2.2.2.2.2.2.2.2.1, (HCZ.out _ HX.out).2.2.2.2.2.2.2.2.2.1, (HCZ.out _ HX.out).2.2.2.2.2.2.2.2.2.2.1, (HCZ.out _ HX.out).2.2.2.2.2.2.2.2.2.2.2.1, (HCZ.out _ HX.out).2.2.2.2.2.2.2.2.2.2.2.2⟩ (fun hHeld => ?_)
  clear hK K
  refine n_ 18 ?_
  refine p_ 5 21 ?_
  refine o_ 6 (some 22) (fun K hK => ?_)
  refine value_ (w1 := ?_) (v := ?_) (by rfl) rfl ?_ ?_
  rotate_left 2
  · go_simp
    constructor
    · rfl
    · rfl
  refine hK.out _ _ ⟨(HCZ.out _ (HX.out.alloc (Nat.le_trans (blk_lt HZ5.out) HX.out.size) _)).1, (HCZ.out _ (HX.out.alloc (Nat.le_trans (blk_lt HZ5.out) HX.out.size) _)).2.1, (HCZ.out _ (HX.out.alloc (Nat.le_trans (blk_lt HZ5.out) HX.out.size) _)).2.2.1, (HCZ.out _ (HX.out.alloc (Nat.le_trans (blk_lt HZ5.out) HX.out.size) _)).2.2.2.1, (HCZ.out _ (HX.out.alloc (Nat.le_trans (blk_lt HZ5.out) HX.out.size) _)).2.2.2.2.1, (HCZ.out _ (HX.out.alloc (Nat.le_trans (blk_lt HZ5.out) HX.out.size) _)).2.2.2.2.2.1, (HCZ.out _ (HX.out.alloc (Nat.le_trans (blk_lt HZ5.out) HX.out.size) _)).2.2.2.2.2.2.1, (HCZ.out _ (HX.out.alloc (Nat.le_trans (blk_lt HZ5.out) HX.out.size) _)).2.2.2.2.2.2.2.1, (HCZ.out _ (HX.out.alloc (Nat.le_trans (blk_lt HZ5.out) HX.out.size) _)).2.2.2.2.2.2.2.2.1, (HCZ.out _ (HX.out.alloc (Nat.le_trans (blk_lt HZ5.out) HX.out.size) _)).2.2.2.2.2.2.2.2.2.1, (HCZ.out _ (HX.out.alloc (Nat.le_trans (blk_lt HZ5.out) HX.out.size) _)).2.2.2.2.2.2.2.2.2.2.1, (HCZ.out _ (HX.out.alloc (Nat.le_trans (blk_lt HZ5.out) HX.out.size) _)).2.2.2.2.2.2.2.2.2.2.2.1, (HCZ.out _ (HX.out.alloc (Nat.le_trans (blk_lt HZ5.out) HX.out.size) _)).2.2.2.2.2.2.2.2.2.2.2.2⟩ (fun hHeld => ?_)
  clear hK K
  refine n_ 22 ?_
  refine p_ 8 2 ?_
  refine l_ 9 none (fun K hK => ?_)
  have hy_ := ((HX.out.alloc (Nat.le_trans (blk_lt HZ5.out) HX.out.size) (.cells #[.slice A l.length c, .slice (some ⟨g, 0, none⟩) l.length cc, .bool p9] 148)).block w.heap.size (Nat.lt_succ_of_lt HLT.out)).trans HY5.out
  obtain ⟨y0, y1, y2, y3, y4, y5, y6, y7, y8, y9, y10, y11, y12⟩ := c13 hy_
  obtain ⟨u0, u1, u2, u3, u4, u5, u6, u7, u8, u9, u10, u11, u12⟩ := f13 hy_
  clear hy_
  refine s_ ?_
  refine hK.out _ _ ?_
  clear hK K
  refine p_ 10 4 ?_
  refine done_ (by kernel_rfl) ?_
  go_wp2
  (try simp only [Exit.inBlock, Exit.then])
  have hlt6 := Kd.R_lt HRW.out g (by simp [Value.ownBlock])
  have hgb := HGB.out
  have hs5 : w5.drew.heap.size = w5.heap.size := rfl
  have h1 := HLT.out
  have h2 := blk_lt HZ5.out
  have h3 := HX.out.size
  have HB6 := HB5.out.trans (HX.out.mono (show w.heap.size ≤ g5 + 1 by omega))
  have HB7 := HB6.alloc (by omega) (.cells #[.slice A l.length c, .slice (some ⟨g, 0, none⟩) l.length cc, .bool p9] 148)
  refine bodyPost_ret (v := .tuple #[.pointer (some ⟨w6.heap.size, 0, none⟩), .agg #[.int .i64 p0, .int .i64 p1, .int .i64 p2, .int .i64 p3, .int .i64 p4, .int .i64 p5, .int .i64 p6, .int .i64 p7, .int .i64 p8, .bool p9, .int .i64 p10, .slice A1 p11.length c1, .slice A2 p12.length c2], .int .i64 0]) ?_ rfl ⟨w6.heap.size, g, cc, A1, c1, A2, c2, rfl, ?_⟩
  · rw [results_tct rfl]
    go_simp
  · refine ⟨(lay13_far (by omega) _ _ _ _ _ _ _ _ _ _ _ _ _).trans (new_blk w6 _), RB_move HRW.out (by omega) (fun k hk hlt => (lay13_far (by omega) _ _ _ _ _ _ _ _ _ _ _ _ _).trans (Below.heap_alloc w6 _ k hlt)), HR.out, HC.out, rfl, by omega, by omega, by omega, lay13_below HB7 (Nat.le_refl _) _ _ _ _ _ _ _ _ _ _ _ _ _⟩
/-- A pair of bytes, a 0 behind an odd one at the end. -/
def pairL (l : List Int) (i : Nat) : Int := if i + 1 = l.length then l.getD i 0 * 256 else numL l i 2
theorem num2_b {l : List Int} (hb : Bytes l) (i : Nat) : 0 ≤ numL l i 2 ∧ numL l i 2 ≤ 65535 := by
  have := numL_b hb i 2
  omega
theorem pairL_b {l : List Int} (hb : Bytes l) (i : Nat) : 0 ≤ pairL l i ∧ pairL l i ≤ 65535 := by
  unfold pairL
  split
  · have := getD_byte hb i; omega
  · exact num2_b hb i
theorem pair_f {l : List Int} {k : Nat} (hb : Bytes l) (i : Nat) (hi : i < l.length) (hl : l.length ≤ 100000) (hk : 5 ≤ k) : wire_pair.f k l i = some (pairL l i) := by
  unfold wire_pair.f pairL
  have b := getD_byte hb i
  rw [wid (n := (i : Int) + 1) (by omega) (by omega)]
  by_cases h : i + 1 = l.length
  · rw [if_pos (by omega), if_pos (by omega), if_pos (by omega), if_pos h, rd_nat, wid (n := l.getD i 0) (by omega) (by omega), wid (by omega) (by omega)]
  · rw [if_neg (by omega), if_neg h, show (2 : Int) = ((2 : Nat) : Int) from rfl, get_f hb i 2 (by omega) (by omega) hl hk, Option.bind_some]
theorem pair_calls {A : Option Addr} {c n : Nat} {l : List Int} {w : World} (i : Nat) {iz : Int} (hr : Kd.C (Kd.int .u8) w A n l) (hn : l.length = n) (hc : n ≤ c) (hb : Bytes l) (hl : l.length ≤ 100000) (h1 : iz = i) (hi : i < l.length) :
    Calls Tryz.prog 101 #[.slice A n c, .int .i64 iz] w fun e w' => e = .returned (.int .i64 (pairL l i)) ∧ Drawn0 w w' := by
  subst hn h1
  exact wire_pair.calls 5 A c l i _ w hr hc (pair_f hb i hi hl (Nat.le_refl _))
theorem turn_calls {s a b : Int} (hs : 0 ≤ s) (hs' : s ≤ 65535) (ha : 0 ≤ a) (ha' : a ≤ 65535) (hb : 0 ≤ b) (hb' : b ≤ 65535) (w : World) :
    Calls Tryz.prog 82 #[.int .i64 s, .int .i64 a, .int .i64 b] w fun e w' => e = .returned (.int .i64 (turn s a b)) ∧ Drawn0 w w' :=
  sum_Turn.calls s a b _ w (turn_f hs hs' ha ha' hb hb')
/-- A sum turned by the pairs from i on, k of them. -/
def turnS (was L : List Int) : Nat → Nat → Int → Int
  | 0, _, s => s
  | k + 1, i, s => turnS was L k (i + 2) (turn s (pairL was i) (pairL L i))
theorem turnS_b {was L : List Int} (h1 : Bytes was) (h2 : Bytes L) : ∀ (k i : Nat) (s : Int), 0 ≤ s → s ≤ 65535 → 0 ≤ turnS was L k i s ∧ turnS was L k i s ≤ 65535
  | 0, _, _, a, b => ⟨a, b⟩
  | k + 1, i, s, a, b => by
    have p1 := pairL_b h1 i
    have p2 := pairL_b h2 i
    have t := turn_bounds a b p1.1 p1.2 p2.1 p2.2
    exact turnS_b h1 h2 k (i + 2) _ t.1 t.2
/-- (i + n) / 2 - i / 2 pairs, rounded up: how many an even walk from i (rounded down) below i + n takes. -/
def pairsN (i n : Nat) : Nat := (i + n + 1) / 2 - i / 2
theorem c3 {w : World} {g t : Nat} {a0 a1 a2 : Value} (h : w.heap[g]? = some (.cells #[a0, a1, a2] t (0, 0))) : w.cell? ⟨g, 0, none⟩ = some a0 ∧ w.cell? ⟨g, 1, none⟩ = some a1 ∧ w.cell? ⟨g, 2, none⟩ = some a2 := by
  simp [World.cell?, h]
theorem tturn_calls {w0 w : World} {t g : Nat} {A : Option Addr} {c cc : Nat} {was L : List Int} {bare : Bool} (h : Tur w0 w t g A c cc was L bare) (hbw : Bytes was) (hbl : Bytes L) (hl : was.length ≤ 10000) (place at_ n : Nat) {pz az nz : Int} (e1 : pz = place) (e2 : az = at_) (e3 : nz = n)
    (hp : place + 2 ≤ was.length) (ha : at_ + n ≤ was.length) (hand : Go.bits .andNot .i64 az 1 = ((at_ / 2 * 2 : Nat) : Int)) :
    Calls Tryz.prog 77 #[.pointer (some ⟨t, 0, none⟩), .int .i64 pz, .int .i64 az, .int .i64 nz] w fun e w' => e = .returned (.tuple #[]) ∧ Tur w0 w' t g A c cc was (putL L place 2 (turnS was L (pairsN at_ n) (at_ / 2 * 2) (numL L place 2))) bare := by
  have HT := am_ h
  obtain ⟨T0, T1, T2⟩ := c3 h.blk
  have HBW := am_ hbw
  have HBL := am_ hbl
  have HL := am_ (show was.length ≤ 100000 by omega)
  have HLL := am_ (show L.length ≤ 100000 by rw [h.len]; omega)
  have HRR := am_ (Kd.R_reads' h.row)
  have HRD := am_ (Kd.C_below h.rd h.below)
  have HRL : Aside0 (Kd.C (Kd.int .u8) w (some ⟨g, 0, none⟩) was.length L) := am_ (by have := HRR.out.2.2; rw [← HRR.out.1] at this; exact this)
  have HCC := am_ HRR.out.2.1
  have G0 := am_ (get_calls (l := L) (w := w) place 2 (iz := pz) (mz := 2) HRL.out h.len HCC.out hbl HLL.out e1 rfl (by omega) (by rw [h.len]; omega))
  have E1 := am_ e1
  have E2 := am_ e2
  have E3 := am_ e3
  have HPA := am_ (And.intro hp ha)
  have HL4 := am_ hl
  have hwe : wrap64 (az + nz) = az + nz := wid (by omega) (by omega)
  clear e1 e2 e3 hp ha hbw hbl hl h
  obtain ⟨R, hR⟩ : ∃ R, turnS was L (pairsN at_ n) (at_ / 2 * 2) (numL L place 2) = R := ⟨_, rfl⟩
  rw [hR]
  have HRE := am_ hR
  clear hR
  go_enter Tryz.func77, Tryz.ntmps77
  go_wp2_with (first | (go_at_call 74; (with_reducible refine G0.out.mono ?_); rintro e w1 ⟨rfl, ⟨⟨nd, rfl⟩⟩⟩))
  clear hand
  have HNB := am_ (num2_b HBL.out place)
  go_loopg [8, 9] (pairsN at_ n) (fun kq v8 v9 w' => ∃ (i : Nat) (s : Int), v8 = .int .i64 s ∧ v9 = .int .i64 (i : Int) ∧ Aside (kq = (at_ + n + 1) / 2 - i / 2) ∧ Aside (i % 2 = 0) ∧ Aside (0 ≤ s ∧ s ≤ 65535) ∧ Aside (turnS was L kq i s = R) ∧ Drawn0 w w')
  case atStart =>
    exact ⟨at_ / 2 * 2, _, rfl, by simp, (by show _ = _; unfold pairsN; omega), (by show _ = _; omega), HNB.out, HRE.out, ⟨⟨nd, rfl⟩⟩⟩
  case round =>
    obtain ⟨i, s, rfl, rfl, hk, hev, hsb, hr, ⟨⟨nd', rfl⟩⟩⟩ := hrel
    have HKQ := am_ hk.out
    have HEV := am_ hev.out
    have HSB := am_ hsb.out
    have HRR2 := am_ hr.out
    clear hk hev hsb hr
    by_cases hlt : (i : Int) < az + nz
    · have hd : decide ((i : Int) < az + nz) = true := decide_eq_true hlt
      have HI := am_ (show i < was.length from by have := HPA.out; have := E2.out; have := E3.out; omega)
      have HLT2 := am_ hlt
      clear hlt
      go_upto_region 4 with fail
      refine start_ (n := 15) (S := fun w' => w'.cell? ⟨t, 0, none⟩ = some (.slice A was.length c) ∧ w'.cell? ⟨t, 1, none⟩ = some (.slice (some ⟨g, 0, none⟩) was.length cc) ∧ w'.cell? ⟨t, 2, none⟩ = some (.bool bare)) (ds := []) #[fF,fF,fF,fF,fF,fF,fF,fF,fF,fF,fF,fF,fF,fF,fF] (by kernel_rfl) rfl rfl ⟨T0, T1, T2⟩ (fun hHeld => ?_)
      refine p_ 0 25 ?_
      refine p_ 1 26 ?_
      refine p_ 2 27 ?_
      refine p_ 3 28 ?_
      refine p_ 5 30 ?_
      refine p_ 7 32 ?_
      refine p_ 8 33 ?_
      refine p_ 9 34 ?_
      refine p_ 11 36 ?_
      refine t_ 4 29 hHeld ?_
      refine t_ 10 35 hHeld ?_
      refine o_ 6 (some 31) (fun K hK => ?_)
      refine g_ Tryz.func101 #[.slice A was.length c, .int .i64 (i : Int)] ?_
      with_reducible refine (pair_calls (l := was) i (by repeat (first | with_reducible exact HRD.out | (with_reducible refine Kd.C_drewN ?_ _) | (with_reducible refine Kd.C_drew ?_))) rfl HT.out.le HBW.out HL.out rfl HI.out).mono ?_
      rintro e w3 ⟨rfl, ⟨⟨nq, rfl⟩⟩⟩
      refine ⟨_, rfl, ?_⟩
      refine hK.out _ _ ⟨T0, T1, T2⟩ (fun hHeld => ?_)
      clear hK K
      refine n_ 31 ?_
      refine o_ 12 (some 37) (fun K hK => ?_)
      refine g_ Tryz.func101 #[.slice (some ⟨g, 0, none⟩) was.length cc, .int .i64 (i : Int)] ?_
      with_reducible refine (pair_calls (l := L) i (by repeat (first | with_reducible exact HRL.out | (with_reducible refine Kd.C_drewN ?_ _) | (with_reducible refine Kd.C_drew ?_))) HT.out.len HCC.out HBL.out HLL.out rfl (by rw [HT.out.len]; exact HI.out)).mono ?_
      rintro e w3 ⟨rfl, ⟨⟨nq, rfl⟩⟩⟩
      refine ⟨_, rfl, ?_⟩
      refine hK.out _ _ ⟨T0, T1, T2⟩ (fun hHeld => ?_)
      clear hK K
      refine n_ 37 ?_
      refine o_ 13 (some 38) (fun K hK => ?_)
      refine g_ Tryz.func82 #[.int .i64 s, .int .i64 (pairL was i), .int .i64 (pairL L i)] ?_
      with_reducible refine (turn_calls HSB.out.1 HSB.out.2 (pairL_b HBW.out i).1 (pairL_b HBW.out i).2 (pairL_b HBL.out i).1 (pairL_b HBL.out i).2 _).mono ?_
      rintro e w3 ⟨rfl, ⟨⟨nq, rfl⟩⟩⟩
      refine ⟨_, rfl, ?_⟩
      refine hK.out _ _ ⟨T0, T1, T2⟩ (fun hHeld => ?_)
      clear hK K
      refine n_ 38 ?_
      refine p_ 14 8 ?_
      refine done_ (by kernel_rfl) ?_
      have HT2 := am_ (turn_bounds HSB.out.1 HSB.out.2 (pairL_b HBW.out i).1 (pairL_b HBW.out i).2 (pairL_b HBL.out i).1 (pairL_b HBL.out i).2)
      have hi2 : wrap64 ((i : Int) + 2) = ((i + 2 : Nat) : Int) := by have := HI.out; have := HL.out; rw [wid (by omega) (by omega)]; omega
      have HGK := am_ (show 0 < gk from by have := HKQ.out; have := HEV.out; have := HLT2.out; have := E2.out; have := E3.out; omega)
      have HRN := am_ (show turnS was L (gk - 1) (i + 2) (turn s (pairL was i) (pairL L i)) = R from by
        have h1 := HRR2.out
        obtain ⟨m, hm⟩ : ∃ m, gk = m + 1 := ⟨gk - 1, by have := HGK.out; omega⟩
        rw [hm] at h1 ⊢
        exact h1)
      clear hHeld
      go_wp2
      go_roundg (gk - 1)
      case measure => have := HGK.out; omega
      case rel => exact ⟨i + 2, _, rfl, (by first | rfl | (show Value.int _ _ = Value.int _ _; rw [hi2])), (by show _ = _; have := HKQ.out; have := HEV.out; omega), (by show _ = _; have := HEV.out; omega), HT2.out, HRN.out, by repeat (first | exact Drawn0.refl _ | apply Drawn0.step)⟩
    · have hd : decide ((i : Int) < az + nz) = false := decide_eq_false hlt
      have hk0 : gk = 0 := by have := HKQ.out; have := HEV.out; have := E2.out; have := E3.out; omega
      have HS := am_ (show s = R from by have h1 := HRR2.out; rw [hk0] at h1; exact h1)
      clear hlt
      have PR := am_ (fun nd_ => put_calls (w0 := w0) (w := (w.drewN nd').drewN nd_) (v := .slice (some ⟨g, 0, none⟩) was.length cc) place 2 s (iz := pz) (mz := 2) (bd (bd HT.out.below nd') nd_) (Kd.R_drewN (Kd.R_drewN HT.out.row nd') nd_) HLL.out E1.out rfl (by omega) (by rw [HT.out.len]; exact HPA.out.1))
      have PR0 := am_ (put_calls (w0 := w0) (w := w.drewN nd') (v := .slice (some ⟨g, 0, none⟩) was.length cc) place 2 s (iz := pz) (mz := 2) (bd HT.out.below nd') (Kd.R_drewN HT.out.row nd') HLL.out E1.out rfl (by omega) (by rw [HT.out.len]; exact HPA.out.1))
      go_wp2_with (first | (go_at_call 32; (with_reducible refine PR0.out.mono ?_); rintro e w9 ⟨rfl, hr9, hb9, hg9⟩))
      have hfin : Tur w0 w9 t g A c cc was (putL L place 2 R) bare := by
        have hb := HT.out.blk
        have hl0 : t < w.heap.size := blk_lt hb
        have hg' : ∀ k, k < w.heap.size → k ≠ g → w9.heap[k]? = w.heap[k]? := fun k hk hne => hg9.block k hk (by simp [Value.ownBlock]; exact hne)
        refine ⟨(hg' t hl0 HT.out.ne).trans hb, by rw [← HS.out]; exact hr9, HT.out.rd, HT.out.le, by rw [putL_len]; exact HT.out.len, HT.out.ne, HT.out.ht, HT.out.hg, hb9⟩
      go_end0
      exact ⟨rfl, hfin⟩
theorem Tur.drewN {w0 w : World} {t g : Nat} {A : Option Addr} {c cc : Nat} {was L : List Int} {bare : Bool} (h : Tur w0 w t g A c cc was L bare) (n : Nat) : Tur w0 (w.drewN n) t g A c cc was L bare :=
  ⟨h.blk, Kd.R_drewN h.row n, h.rd, h.le, h.len, h.ne, h.ht, h.hg, bd h.below n⟩
/-- Where a body's sum is. -/
def placeL (l : List Int) : Nat := if l.getD 0 0 = 3 then 18 else 22
/-- A sum at a place, turned by the pairs that some bytes touch. -/
def turnL (was L : List Int) (place at_ n : Nat) : List Int := putL L place 2 (turnS was L (pairsN at_ n) (at_ / 2 * 2) (numL L place 2))
theorem turnL_bytes {was L : List Int} (h : Bytes L) (p a n : Nat) : Bytes (turnL was L p a n) := putL_bytes _ _ _ h
/-- What body lays. -/
def bodyT (bare : Bool) (was L : List Int) (at_ n : Nat) : List Int := if bare = true then L else turnL was L (placeL L) at_ n
theorem tbody_calls {w0 w : World} {t g : Nat} {A : Option Addr} {c cc : Nat} {was L : List Int} {bare : Bool} (h : Tur w0 w t g A c cc was L bare) (hbw : Bytes was) (hbl : Bytes L) (hl : was.length ≤ 10000) (at_ n : Nat) {az nz : Int} (e2 : az = at_) (e3 : nz = n)
    (hp : placeL L + 2 ≤ was.length) (ha : at_ + n ≤ was.length) (hand : Go.bits .andNot .i64 az 1 = ((at_ / 2 * 2 : Nat) : Int)) :
    Calls Tryz.prog 102 #[.pointer (some ⟨t, 0, none⟩), .int .i64 az, .int .i64 nz] w fun e w' => e = .returned (.tuple #[]) ∧ Tur w0 w' t g A c cc was (bodyT bare was L at_ n) bare := by
  obtain ⟨T0, T1, T2⟩ := c3 h.blk
  have HT := am_ h
  have b0 := getD_byte hbl 0
  have r0 := rb_cell h.row 0 (by omega)
  obtain ⟨x, hx⟩ : ∃ x, L.getD 0 0 = x := ⟨_, rfl⟩
  rw [hx] at b0 r0
  have wx : wrap64 x = x := wid (by omega) (by omega)
  have i0 : (0 : Int) < (was.length : Int) := by omega
  have i0n : 0 < was.length := by omega
  have G39 := am_ (fun W => wire_sumPlace.calls x (placeL L) W (by unfold wire_sumPlace.f placeL; rw [hx]; split <;> rfl))
  have G57 := am_ (fun (nd : Nat) => tturn_calls (h.drewN nd) hbw hbl hl (placeL L) at_ n (pz := (placeL L : Int)) rfl e2 e3 hp ha hand)
  clear h hbw hbl hl e2 e3 hp ha hand hx
  cases bare with
  | true =>
    go_enter Tryz.func102, Tryz.ntmps102
    go_wp2
    go_end0
    exact ⟨rfl, HT.out⟩
  | false =>
    go_enter Tryz.func102, Tryz.ntmps102
    go_wp2_with (first
      | (go_at_call 34; (with_reducible refine (G39.out _).mono ?_); rintro e w1 ⟨rfl, ⟨⟨nd, rfl⟩⟩⟩)
      | (go_at_call 77; (with_reducible refine (G57.out _).mono ?_); rintro e w2 ⟨rfl, ht⟩; have HX := am_ ht; clear ht))
    go_end0
    exact ⟨rfl, HX.out⟩
/-- A gram's sum is no nought. -/
def doneL (bare : Bool) (L : List Int) : List Int := if L.getD 0 0 = 2 ∧ bare = false ∧ numL L 22 2 = 0 then putL L 22 2 65535 else L
theorem tdone_calls {w0 w : World} {t g : Nat} {A : Option Addr} {c cc : Nat} {was L : List Int} {bare : Bool} (h : Tur w0 w t g A c cc was L bare) (hbl : Bytes L) (hl : was.length ≤ 10000) (h24 : 24 ≤ was.length) :
    Calls Tryz.prog 78 #[.pointer (some ⟨t, 0, none⟩)] w fun e w' => ∃ v, e = .returned v ∧ RB w0.heap.size w' v (doneL bare L) ∧ Below w0.heap.size w0 w' := by
  obtain ⟨T0, T1, T2⟩ := c3 h.blk
  have HT := am_ h
  have b0 := getD_byte hbl 0
  have r0 := rb_cell h.row 0 (by omega)
  obtain ⟨x, hx⟩ : ∃ x, L.getD 0 0 = x := ⟨_, rfl⟩
  rw [hx] at b0 r0
  have wx : wrap64 x = x := wid (by omega) (by omega)
  have i0 : (0 : Int) < (was.length : Int) := by omega
  have i0n : 0 < was.length := by omega
  have HRR := am_ (Kd.R_reads' h.row)
  have HRL : Aside0 (Kd.C (Kd.int .u8) w (some ⟨g, 0, none⟩) was.length L) := am_ (by have := HRR.out.2.2; rw [← HRR.out.1] at this; exact this)
  have G45 := am_ (get_calls (l := L) (w := w) 22 2 (iz := 22) (mz := 2) HRL.out h.len HRR.out.2.1 hbl (by rw [h.len]; omega) rfl rfl (by omega) (by rw [h.len]; omega))
  have P36 := am_ (fun nd => put_calls (w0 := w0) (w := w.drewN nd) (v := .slice (some ⟨g, 0, none⟩) was.length cc) 22 2 65535 (iz := 22) (mz := 2) (bd h.below nd) (Kd.R_drewN h.row nd) (by rw [h.len]; omega) rfl rfl (by omega) (by rw [h.len]; omega))
  have HX := am_ hx
  have HN0 := am_ h.ne
  have HLT := am_ (blk_lt h.blk)
  have HBK := am_ h.blk
  have HDD := am_ (show doneL bare L = (if x = 2 ∧ bare = false ∧ numL L 22 2 = 0 then putL L 22 2 65535 else L)  from by unfold doneL; rw [hx])
  clear h hbl hl h24 hx
  by_cases h2 : x = 2
  · have q2 : (x == 2) = true := beq_iff_eq.mpr h2
    cases bare with
    | true =>
      go_enter Tryz.func78, Tryz.ntmps78
      go_wp2
      go_ret
      exact ⟨_, rfl, by rw [HDD.out, if_neg (by simp)]; exact HT.out.row, HT.out.below⟩
    | false =>
      by_cases hz : numL L 22 2 = 0
      · have qz : (numL L 22 2 == 0) = true := beq_iff_eq.mpr hz
        go_enter Tryz.func78, Tryz.ntmps78
        go_wp2_with (first
          | (go_at_call 74; (with_reducible refine G45.out.mono ?_); rintro e w1 ⟨rfl, ⟨⟨nd, rfl⟩⟩⟩)
          | (go_at_call 32; (with_reducible refine (P36.out _).mono ?_); rintro e w2 ⟨rfl, hr, hb, hg⟩; have HRX := am_ hr; have HBX := am_ hb; have hz2 := (hg.block t HLT.out (by simp [Value.ownBlock]; exact HN0.out)).trans HBK.out; clear hr hb hg T0 T1 T2; obtain ⟨T0, T1, T2⟩ := c3 hz2; clear hz2))
        go_ret
        exact ⟨_, rfl, by rw [HDD.out, if_pos (by simp [h2, hz])]; exact HRX.out, HBX.out⟩
      · have qz : (numL L 22 2 == 0) = false := beq_eq_false_iff_ne.mpr hz
        go_enter Tryz.func78, Tryz.ntmps78
        go_wp2_with (first
          | (go_at_call 74; (with_reducible refine G45.out.mono ?_); rintro e w1 ⟨rfl, ⟨⟨nd, rfl⟩⟩⟩))
        go_ret
        exact ⟨_, rfl, by rw [HDD.out, if_neg (fun h => hz h.2.2)]; exact Kd.R_drewN HT.out.row _, bd HT.out.below _⟩
  · have q2 : (x == 2) = false := beq_eq_false_iff_ne.mpr h2
    go_enter Tryz.func78, Tryz.ntmps78
    go_wp2
    go_ret
    exact ⟨_, rfl, by rw [HDD.out, if_neg (fun h => h2 h.1)]; exact HT.out.row, HT.out.below⟩
theorem Tur.alloc {w0 w : World} {t g : Nat} {A : Option Addr} {c cc : Nat} {was L : List Int} {bare : Bool} (h : Tur w0 w t g A c cc was L bare) (o : Obj) : Tur w0 (w.alloc o) t g A c cc was L bare :=
  ⟨(Below.heap_alloc w o t (blk_lt h.blk)).trans h.blk, Kd.R_alloc h.row o, h.rd, h.le, h.len, h.ne, h.ht, h.hg, h.below.alloc h.below.size o⟩
theorem Tur.set {w0 w : World} {t g : Nat} {A : Option Addr} {c cc : Nat} {was L : List Int} {bare : Bool} (h : Tur w0 w t g A c cc was L bare) (i : Nat) (x : Int) : Tur w0 (w.setCell ⟨g, i, none⟩ (.int .u8 x)) t g A c cc was (L.set i x) bare :=
  ⟨(Below.heap_setCell w ⟨g, i, none⟩ _ t h.ne).trans h.blk, rb_set h.row i x, h.rd, h.le, by rw [List.length_set]; exact h.len, h.ne, h.ht, h.hg, h.below.setCell (p := ⟨g, i, none⟩) h.hg _⟩
/-- What stands behind a call that answers bytes, or an error. -/
def Told (w : World) (r : List Int) (x : Int) (e : Ending) (w' : World) : Prop := ∃ v, e = .returned (.tuple #[v, .int .i64 x]) ∧ RB w.heap.size w' v r ∧ Below w.heap.size w w'
theorem told_nil {w w' : World} {x : Int} (hb : Below w.heap.size w w') : Told w [] x (.returned (.tuple #[.slice none 0 0, .int .i64 x])) w' := ⟨_, rfl, Kd.R_nil _ _ _ _ _, hb⟩
theorem age_err {A : Option Addr} {c : Nat} {l : List Int} {w : World} (hr : Kd.C (Kd.int .u8) w A l.length l) (hc : l.length ≤ c) (hl : l.length ≤ 10000) (hb : Bytes l) {p0 p1 p2 p3 p4 p5 p6 p7 p8 : Int} {p9 : Bool} {p10 : Int} {p11 p12 : List Int} {x : Int} (hp : parseL l = (⟨p0, p1, p2, p3, p4, p5, p6, p7, p8, p9, p10, p11, p12⟩, x)) (hx : x ≠ 0) :
    Calls Tryz.prog 40 #[.slice A l.length c] w (Told w [] x) := by
  have q0 : (x == 0) = false := beq_eq_false_iff_ne.mpr hx
  have q0n : (x != 0) = true := bne_iff_ne.mpr hx
  have G := am_ (begin_err hr hc (by omega) hb hp hx)
  clear hr hc hl hb hp hx
  go_enter Tryz.func40, Tryz.ntmps40
  go_wp2_with (first | (go_at_call 76; (with_reducible refine G.out.mono ?_); rintro e w1 ⟨⟨A1, c1, A2, c2, rfl⟩, hb1⟩; have HB1 := am_ hb1; clear hb1))
  go_ret2
  exact told_nil (HB1.out.alloc HB1.out.size _)
theorem age_ok {A : Option Addr} {c : Nat} {l : List Int} {w : World} (hr : Kd.C (Kd.int .u8) w A l.length l) (hc : l.length ≤ c) (hl : l.length ≤ 10000) (hb : Bytes l) {p0 p1 p2 p3 p4 p5 p6 p7 p8 : Int} {p9 : Bool} {p10 : Int} {p11 p12 : List Int} (hp : parseL l = (⟨p0, p1, p2, p3, p4, p5, p6, p7, p8, p9, p10, p11, p12⟩, 0)) :
    Calls Tryz.prog 40 #[.slice A l.length c] w (Told w (if p1 < 2 then [] else doneL p9 (turnL l (l.set 1 ((l.getD 1 0 - 1) % 256)) 14 0 2)) (if p1 < 2 then 7 else 0)) := by
  have G := am_ (begin_ok hr hc (by omega) hb hp)
  have H24 := am_ (show 24 ≤ l.length from (head0 (parse0 hp)).1)
  have HY := am_ hb
  have HL := am_ hl
  by_cases h2 : p1 < 2
  · rw [if_pos h2, if_pos h2]
    have d2 : decide (p1 < 2) = true := decide_eq_true h2
    clear hr hc hl hb hp h2
    go_enter Tryz.func40, Tryz.ntmps40
    go_wp2_with (first | (go_at_call 76; (with_reducible refine G.out.mono ?_); rintro e w1 ⟨t, g, cc, A1, c1, A2, c2, rfl, ht⟩; have HT := am_ ht; clear ht))
    go_ret2
    exact told_nil (HT.out.below.alloc HT.out.below.size _)
  · rw [if_neg h2, if_neg h2]
    have d2 : decide (p1 < 2) = false := decide_eq_false h2
    clear hr hc hl hb hp h2
    go_enter Tryz.func40, Tryz.ntmps40
    go_upto_region 6 with (first | (go_at_call 76; (with_reducible refine G.out.mono ?_); rintro e w1 ⟨t, g, cc, A1, c1, A2, c2, rfl, ht⟩; have HT := am_ ht; clear ht))
    change Code.wp _ _ _ _ (w1.alloc (.cells #[.int .i64 p0, .int .i64 p1, .int .i64 p2, .int .i64 p3, .int .i64 p4, .int .i64 p5, .int .i64 p6, .int .i64 p7, .int .i64 p8, .bool p9, .int .i64 p10, .slice A1 p11.length c1, .slice A2 p12.length c2] 37))
    have HT1 := am_ (HT.out.alloc (.cells #[.int .i64 p0, .int .i64 p1, .int .i64 p2, .int .i64 p3, .int .i64 p4, .int .i64 p5, .int .i64 p6, .int .i64 p7, .int .i64 p8, .bool p9, .int .i64 p10, .slice A1 p11.length c1, .slice A2 p12.length c2] 37))
    generalize w1.alloc (.cells #[.int .i64 p0, .int .i64 p1, .int .i64 p2, .int .i64 p3, .int .i64 p4, .int .i64 p5, .int .i64 p6, .int .i64 p7, .int .i64 p8, .bool p9, .int .i64 p10, .slice A1 p11.length c1, .slice A2 p12.length c2] 37) = w2 at HT1 ⊢
    obtain ⟨T0, T1, T2⟩ := c3 HT1.out.blk
    have r1 := rb_cell HT1.out.row 1 (by have := H24.out; omega)
    have s1 := rb_frozen HT1.out.row 1
    have i1 : (1 : Int) < (l.length : Int) := by have := H24.out; omega
    have i1n : 1 < l.length := by have := H24.out; omega
    obtain ⟨x, hx⟩ : ∃ x, l.getD 1 0 = x := ⟨_, rfl⟩
    rw [hx] at r1
    have HX := am_ hx
    clear hx
    go_upto_region 7 with fail
    generalize hW : World.setCell _ _ _ = w3
    have HT3 : Tur w w3 t g A c cc l (l.set 1 ((x - 1) % 256)) p9 := by rw [← hW]; exact HT1.out.set 1 ((x - 1) % 256)
    have hbs : Bytes (l.set 1 ((x - 1) % 256)) := HY.out.set _ (by omega) (by omega)
    have G57 := am_ (tturn_calls HT3 HY.out hbs HL.out 14 0 2 (pz := 14) (az := 0) (nz := 2) rfl rfl rfl (by have := H24.out; omega) (by have := H24.out; omega) (by decide))
    have HBT := am_ (turnL_bytes (was := l) hbs 14 0 2)
    clear hW hbs r1 s1 T0 T1 T2 HT3 HT1 HT
    go_wp2_with (first
      | (go_at_call 77; (with_reducible refine G57.out.mono ?_); rintro e w4 ⟨rfl, ht⟩; have G51 := am_ (tdone_calls ht HBT.out HL.out H24.out); clear ht)
      | (go_at_call 78; (with_reducible refine G51.out.mono ?_); rintro e w5 ⟨v, rfl, hr, hb⟩; have HRX := am_ hr; have HBX := am_ hb; clear hr hb))
    go_ret2
    exact ⟨v, rfl, by rw [HX.out]; exact HRX.out, HBX.out⟩
theorem tput_calls {w0 w : World} {t g : Nat} {A : Option Addr} {c cc : Nat} {was L : List Int} {bare : Bool} (h : Tur w0 w t g A c cc was L bare) (hl : was.length ≤ 10000) (i m : Nat) (x : Int) {iz mz : Int} (h1 : iz = i) (h2 : mz = m) (hm : m ≤ 4) (hi : i + m ≤ was.length) :
    Calls Tryz.prog 32 #[.slice (some ⟨g, 0, none⟩) was.length cc, .int .i64 iz, .int .i64 mz, .int .i64 x] w fun e w' => e = .returned (.tuple #[]) ∧ Tur w0 w' t g A c cc was (putL L i m x) bare := by
  refine (put_calls i m x h.below h.row (by rw [h.len]; omega) h1 h2 hm (by rw [h.len]; exact hi)).mono ?_
  rintro e w' ⟨rfl, hr, hb, hg⟩
  exact ⟨rfl, (hg.block t (blk_lt h.blk) (by simp [Value.ownBlock]; exact h.ne)).trans h.blk, hr, h.rd, h.le, by rw [putL_len]; exact h.len, h.ne, h.ht, h.hg, hb⟩
theorem placeL_le (l : List Int) : placeL l ≤ 22 := by unfold placeL; split <;> omega
theorem bodyT_bytes {b : Bool} {was L : List Int} (h : Bytes L) (a n : Nat) : Bytes (bodyT b was L a n) := by
  unfold bodyT
  split
  · exact h
  · exact turnL_bytes h _ _ _
/-- What Nat lays. -/
def natL (bare : Bool) (l : List Int) (a p : Nat) (addr port : Int) : List Int :=
  doneL bare (bodyT bare l (bodyT bare l (turnL l (putL (putL l a 4 addr) p 2 port) 14 a 4) a 4) p 2)
theorem nat_err {A : Option Addr} {c : Nat} {l : List Int} {w : World} (hr : Kd.C (Kd.int .u8) w A l.length l) (hc : l.length ≤ c) (hl : l.length ≤ 10000) (hb : Bytes l) {p0 p1 p2 p3 p4 p5 p6 p7 p8 : Int} {p9 : Bool} {p10 : Int} {p11 p12 : List Int} (source : Bool) (addr port : Int) {x : Int} (hp : parseL l = (⟨p0, p1, p2, p3, p4, p5, p6, p7, p8, p9, p10, p11, p12⟩, x)) (hx : x ≠ 0) :
    Calls Tryz.prog 84 #[.slice A l.length c, .bool source, .int .i64 addr, .int .i64 port] w (Told w [] (x)) := by
  have q0 : (x == 0) = false := beq_eq_false_iff_ne.mpr hx
  have q0n : (x != 0) = true := bne_iff_ne.mpr hx
  have G := am_ (begin_err hr hc (by omega) hb hp hx)
  clear hx
  clear hr hc hl hb hp
  go_enter Tryz.func84, Tryz.ntmps84
  go_wp2_with (first | (go_at_call 76; (with_reducible refine G.out.mono ?_); rintro e w1 ⟨⟨A1, c1, A2, c2, rfl⟩, hb1⟩; have HB1 := am_ hb1; clear hb1))
  go_ret2
  exact told_nil (HB1.out.alloc HB1.out.size _)
theorem nat_fault {A : Option Addr} {c : Nat} {l : List Int} {w : World} (hr : Kd.C (Kd.int .u8) w A l.length l) (hc : l.length ≤ c) (hl : l.length ≤ 10000) (hb : Bytes l) {p0 p1 p2 p3 p4 p5 p6 p7 p8 : Int} {p9 : Bool} {p10 : Int} {p11 p12 : List Int} (source : Bool) (addr port : Int) (hp : parseL l = (⟨p0, p1, p2, p3, p4, p5, p6, p7, p8, p9, p10, p11, p12⟩, 0)) (hk : p0 = 3) :
    Calls Tryz.prog 84 #[.slice A l.length c, .bool source, .int .i64 addr, .int .i64 port] w (Told w [] (2)) := by
  have q3 : (p0 == 3) = true := beq_iff_eq.mpr hk
  have G := am_ (begin_ok hr hc (by omega) hb hp)
  clear hk
  clear hr hc hl hb hp
  go_enter Tryz.func84, Tryz.ntmps84
  go_wp2_with (first | (go_at_call 76; (with_reducible refine G.out.mono ?_); rintro e w1 ⟨t, g, cc, A1, c1, A2, c2, rfl, ht⟩; have HT := am_ ht; clear ht))
  go_ret2
  exact told_nil (HT.out.below.alloc HT.out.below.size _)
theorem nat_range1 {A : Option Addr} {c : Nat} {l : List Int} {w : World} (hr : Kd.C (Kd.int .u8) w A l.length l) (hc : l.length ≤ c) (hl : l.length ≤ 10000) (hb : Bytes l) {p0 p1 p2 p3 p4 p5 p6 p7 p8 : Int} {p9 : Bool} {p10 : Int} {p11 p12 : List Int} (source : Bool) (addr port : Int) (hp : parseL l = (⟨p0, p1, p2, p3, p4, p5, p6, p7, p8, p9, p10, p11, p12⟩, 0)) (hk : ¬ p0 = 3) (h : rgB addr 4294967295 = false) :
    Calls Tryz.prog 84 #[.slice A l.length c, .bool source, .int .i64 addr, .int .i64 port] w (Told w [] (14)) := by
  have q3 : (p0 == 3) = false := beq_eq_false_iff_ne.mpr hk
  have G := am_ (begin_ok hr hc (by omega) hb hp)
  have W1 := am_ (fun W => wire_within.calls addr 4294967295 false W (by rw [within_ff, h]))
  clear hk h
  clear hr hc hl hb hp
  go_enter Tryz.func84, Tryz.ntmps84
  go_wp2_with (first | (go_at_call 76; (with_reducible refine G.out.mono ?_); rintro e w1 ⟨t, g, cc, A1, c1, A2, c2, rfl, ht⟩; have HT := am_ ht; clear ht) | (go_at_call 71; (with_reducible refine (W1.out _).mono ?_); rintro e w2 ⟨rfl, ⟨⟨nd, rfl⟩⟩⟩))
  go_ret2
  exact told_nil (bd (HT.out.below.alloc HT.out.below.size _) _)
theorem nat_range2 {A : Option Addr} {c : Nat} {l : List Int} {w : World} (hr : Kd.C (Kd.int .u8) w A l.length l) (hc : l.length ≤ c) (hl : l.length ≤ 10000) (hb : Bytes l) {p0 p1 p2 p3 p4 p5 p6 p7 p8 : Int} {p9 : Bool} {p10 : Int} {p11 p12 : List Int} (source : Bool) (addr port : Int) (hp : parseL l = (⟨p0, p1, p2, p3, p4, p5, p6, p7, p8, p9, p10, p11, p12⟩, 0)) (hk : ¬ p0 = 3) (h : rgB addr 4294967295 = true) (h' : rgB port 65535 = false) :
    Calls Tryz.prog 84 #[.slice A l.length c, .bool source, .int .i64 addr, .int .i64 port] w (Told w [] (14)) := by
  have q3 : (p0 == 3) = false := beq_eq_false_iff_ne.mpr hk
  have G := am_ (begin_ok hr hc (by omega) hb hp)
  have W1 := am_ (fun W => wire_within.calls addr 4294967295 true W (by rw [within_ff, h]))
  have W2 := am_ (fun W => wire_within.calls port 65535 false W (by rw [within_ff, h']))
  clear hk h h'
  clear hr hc hl hb hp
  go_enter Tryz.func84, Tryz.ntmps84
  go_wp2_with (first | (go_at_call 76; (with_reducible refine G.out.mono ?_); rintro e w1 ⟨t, g, cc, A1, c1, A2, c2, rfl, ht⟩; have HT := am_ ht; clear ht) | (go_at_call 71; (with_reducible refine (W1.out _).mono ?_); rintro e w2 ⟨rfl, ⟨⟨nd, rfl⟩⟩⟩) | (go_at_call 71; (with_reducible refine (W2.out _).mono ?_); rintro e w2 ⟨rfl, ⟨⟨nd, rfl⟩⟩⟩))
  go_ret2
  exact told_nil (bd (HT.out.below.alloc HT.out.below.size _) _)
theorem nat_ok_true {A : Option Addr} {c : Nat} {l : List Int} {w : World} (hr : Kd.C (Kd.int .u8) w A l.length l) (hc : l.length ≤ c) (hl : l.length ≤ 10000) (hb : Bytes l) {p0 p1 p2 p3 p4 p5 p6 p7 p8 : Int} {p9 : Bool} {p10 : Int} {p11 p12 : List Int} (addr port : Int) (hp : parseL l = (⟨p0, p1, p2, p3, p4, p5, p6, p7, p8, p9, p10, p11, p12⟩, 0)) (hk : ¬ p0 = 3) (h : rgB addr 4294967295 = true) (h' : rgB port 65535 = true) :
    Calls Tryz.prog 84 #[.slice A l.length c, .bool true, .int .i64 addr, .int .i64 port] w (Told w (natL p9 l 4 16 addr port) 0) := by
  have q3 : (p0 == 3) = false := beq_eq_false_iff_ne.mpr hk
  have G := am_ (begin_ok hr hc (by omega) hb hp)
  have W1 := am_ (fun W => wire_within.calls addr 4294967295 true W (by rw [within_ff, h]))
  have W2 := am_ (fun W => wire_within.calls port 65535 true W (by rw [within_ff, h']))
  have H24 := am_ (show 24 ≤ l.length from (head0 (parse0 hp)).1)
  have HY := am_ hb
  have HL := am_ hl
  clear hr hc hl hb hp hk h h'
  go_enter Tryz.func84, Tryz.ntmps84
  go_upto_region 11 with (first | (go_at_call 76; (with_reducible refine G.out.mono ?_); rintro e w1 ⟨t, g, cc, A1, c1, A2, c2, rfl, ht⟩; have HT := am_ ht; clear ht) | (go_at_call 71; (with_reducible refine (W1.out _).mono ?_); rintro e w2 ⟨rfl, ⟨⟨nd, rfl⟩⟩⟩) | (go_at_call 71; (with_reducible refine (W2.out _).mono ?_); rintro e w2 ⟨rfl, ⟨⟨nd, rfl⟩⟩⟩))
  generalize hW : World.drewN _ _ = w4
  have HT4 : Aside0 (Tur w w4 t g A c cc l l p9) := am_ (by rw [← hW]; exact (HT.out.alloc _).drewN _)
  clear hW HT
  obtain ⟨T0, T1, T2⟩ := c3 HT4.out.blk
  have P1 := am_ (tput_calls HT4.out HL.out 4 4 addr (iz := 4) (mz := 4) rfl rfl (by omega) (by have := H24.out; omega))
  go_upto_region 12 with (first | (go_at_call 32; (with_reducible refine P1.out.mono ?_); rintro e w5 ⟨rfl, ht⟩; have HT5 := am_ ht; clear ht T0 T1 T2; obtain ⟨T0, T1, T2⟩ := c3 HT5.out.blk))
  have P2 := am_ (tput_calls HT5.out HL.out 16 2 port (iz := 16) (mz := 2) rfl rfl (by omega) (by have := H24.out; omega))
  go_upto_region 13 with (first | (go_at_call 32; (with_reducible refine P2.out.mono ?_); rintro e w6 ⟨rfl, ht⟩; have HT6 := am_ ht; clear ht T0 T1 T2))
  have B6 := am_ (putL_bytes 16 2 port (putL_bytes 4 4 addr HY.out))
  have P3 := am_ (tturn_calls HT6.out HY.out B6.out HL.out 14 4 4 (pz := 14) (az := 4) (nz := 4) rfl rfl rfl (by have := H24.out; omega) (by have := H24.out; omega) (by decide))
  have B7 := am_ (turnL_bytes (was := l) B6.out 14 4 4)
  go_upto_region 14 with (first | (go_at_call 77; (with_reducible refine P3.out.mono ?_); rintro e w7 ⟨rfl, ht⟩; have HT7 := am_ ht; clear ht))
  have P4 := am_ (tbody_calls HT7.out HY.out B7.out HL.out 4 4 (az := 4) (nz := 4) rfl rfl (by have := H24.out; have := placeL_le (turnL l (putL (putL l 4 4 addr) 16 2 port) 14 4 4); exact Nat.le_trans (Nat.add_le_add_right this 2) H24.out) (by have := H24.out; omega) (by decide))
  have B8 := am_ (bodyT_bytes (b := p9) (was := l) B7.out 4 4)
  go_upto_region 15 with (first | (go_at_call 102; (with_reducible refine P4.out.mono ?_); rintro e w8 ⟨rfl, ht⟩; have HT8 := am_ ht; clear ht))
  have P5 := am_ (tbody_calls HT8.out HY.out B8.out HL.out 16 2 (az := 16) (nz := 2) rfl rfl (Nat.le_trans (Nat.add_le_add_right (placeL_le _) 2) H24.out) (by have := H24.out; omega) (by decide))
  have B9 := am_ (bodyT_bytes (b := p9) (was := l) B8.out 16 2)
  go_wp2_with (first
    | (go_at_call 102; (with_reducible refine P5.out.mono ?_); rintro e w9 ⟨rfl, ht⟩; have G51 := am_ (tdone_calls ht B9.out HL.out H24.out); clear ht)
    | (go_at_call 78; (with_reducible refine G51.out.mono ?_); rintro e w10 ⟨v, rfl, hr, hb⟩; have HRX := am_ hr; have HBX := am_ hb; clear hr hb))
  go_ret2
  exact ⟨v, rfl, HRX.out, HBX.out⟩
theorem nat_ok_false {A : Option Addr} {c : Nat} {l : List Int} {w : World} (hr : Kd.C (Kd.int .u8) w A l.length l) (hc : l.length ≤ c) (hl : l.length ≤ 10000) (hb : Bytes l) {p0 p1 p2 p3 p4 p5 p6 p7 p8 : Int} {p9 : Bool} {p10 : Int} {p11 p12 : List Int} (addr port : Int) (hp : parseL l = (⟨p0, p1, p2, p3, p4, p5, p6, p7, p8, p9, p10, p11, p12⟩, 0)) (hk : ¬ p0 = 3) (h : rgB addr 4294967295 = true) (h' : rgB port 65535 = true) :
    Calls Tryz.prog 84 #[.slice A l.length c, .bool false, .int .i64 addr, .int .i64 port] w (Told w (natL p9 l 8 18 addr port) 0) := by
  have q3 : (p0 == 3) = false := beq_eq_false_iff_ne.mpr hk
  have G := am_ (begin_ok hr hc (by omega) hb hp)
  have W1 := am_ (fun W => wire_within.calls addr 4294967295 true W (by rw [within_ff, h]))
  have W2 := am_ (fun W => wire_within.calls port 65535 true W (by rw [within_ff, h']))
  have H24 := am_ (show 24 ≤ l.length from (head0 (parse0 hp)).1)
  have HY := am_ hb
  have HL := am_ hl
  clear hr hc hl hb hp hk h h'
  go_enter Tryz.func84, Tryz.ntmps84
  go_upto_region 11 with (first | (go_at_call 76; (with_reducible refine G.out.mono ?_); rintro e w1 ⟨t, g, cc, A1, c1, A2, c2, rfl, ht⟩; have HT := am_ ht; clear ht) | (go_at_call 71; (with_reducible refine (W1.out _).mono ?_); rintro e w2 ⟨rfl, ⟨⟨nd, rfl⟩⟩⟩) | (go_at_call 71; (with_reducible refine (W2.out _).mono ?_); rintro e w2 ⟨rfl, ⟨⟨nd, rfl⟩⟩⟩))
  generalize hW : World.drewN _ _ = w4
  have HT4 : Aside0 (Tur w w4 t g A c cc l l p9) := am_ (by rw [← hW]; exact (HT.out.alloc _).drewN _)
  clear hW HT
  obtain ⟨T0, T1, T2⟩ := c3 HT4.out.blk
  have P1 := am_ (tput_calls HT4.out HL.out 8 4 addr (iz := 8) (mz := 4) rfl rfl (by omega) (by have := H24.out; omega))
  go_upto_region 12 with (first | (go_at_call 32; (with_reducible refine P1.out.mono ?_); rintro e w5 ⟨rfl, ht⟩; have HT5 := am_ ht; clear ht T0 T1 T2; obtain ⟨T0, T1, T2⟩ := c3 HT5.out.blk))
  have P2 := am_ (tput_calls HT5.out HL.out 18 2 port (iz := 18) (mz := 2) rfl rfl (by omega) (by have := H24.out; omega))
  go_upto_region 13 with (first | (go_at_call 32; (with_reducible refine P2.out.mono ?_); rintro e w6 ⟨rfl, ht⟩; have HT6 := am_ ht; clear ht T0 T1 T2))
  have B6 := am_ (putL_bytes 18 2 port (putL_bytes 8 4 addr HY.out))
  have P3 := am_ (tturn_calls HT6.out HY.out B6.out HL.out 14 8 4 (pz := 14) (az := 8) (nz := 4) rfl rfl rfl (by have := H24.out; omega) (by have := H24.out; omega) (by decide))
  have B7 := am_ (turnL_bytes (was := l) B6.out 14 8 4)
  go_upto_region 14 with (first | (go_at_call 77; (with_reducible refine P3.out.mono ?_); rintro e w7 ⟨rfl, ht⟩; have HT7 := am_ ht; clear ht))
  have P4 := am_ (tbody_calls HT7.out HY.out B7.out HL.out 8 4 (az := 8) (nz := 4) rfl rfl (by have := H24.out; have := placeL_le (turnL l (putL (putL l 8 4 addr) 18 2 port) 14 8 4); exact Nat.le_trans (Nat.add_le_add_right this 2) H24.out) (by have := H24.out; omega) (by decide))
  have B8 := am_ (bodyT_bytes (b := p9) (was := l) B7.out 8 4)
  go_upto_region 15 with (first | (go_at_call 102; (with_reducible refine P4.out.mono ?_); rintro e w8 ⟨rfl, ht⟩; have HT8 := am_ ht; clear ht))
  have P5 := am_ (tbody_calls HT8.out HY.out B8.out HL.out 18 2 (az := 18) (nz := 2) rfl rfl (Nat.le_trans (Nat.add_le_add_right (placeL_le _) 2) H24.out) (by have := H24.out; omega) (by decide))
  have B9 := am_ (bodyT_bytes (b := p9) (was := l) B8.out 18 2)
  go_wp2_with (first
    | (go_at_call 102; (with_reducible refine P5.out.mono ?_); rintro e w9 ⟨rfl, ht⟩; have G51 := am_ (tdone_calls ht B9.out HL.out H24.out); clear ht)
    | (go_at_call 78; (with_reducible refine G51.out.mono ?_); rintro e w10 ⟨v, rfl, hr, hb⟩; have HRX := am_ hr; have HBX := am_ hb; clear hr hb))
  go_ret2
  exact ⟨v, rfl, HRX.out, HBX.out⟩
end Go.Proofs.YtgkmbefamcnifaaGreat.WB
