/- Lemmas and contracts that the row YtbjhmifhmojaoaaLawWireReads goes by (part 9; joined by pack.py out of this session's texts, and of words that the kit's print lays). -/
import Derived.Test.YtbjhmifhmojaoaaKReads8
namespace Go.Proofs.Ytbjhmifhmojaoaa.PL
set_option linter.unusedVariables false
set_option linter.unusedSimpArgs false
open Go.RowKit Go.Proofs.Ytbjhmifhmojaoaa.Hp Go.Proofs.Ytbjhmifhmojaoaa.SB Go.Proofs.YtbjhmifhmojaoaaW.PrintWords Go.Proofs.YtbjhmifhmojaoaaW.PrintLast Go.Proofs.YtbjhmifhmojaoaaW.PrintMore Go.Proofs.Ytbjhmifhmojaoaa.WB

set_option maxHeartbeats 8000000 in
set_option maxRecDepth 100000 in
theorem WireReads_walk (a0 : Int) (a1 : Option Addr) (len1 cap1 : Nat) (z1 : List Int) (a2 : Option Addr) (len2 cap2 : Nat) (z2 : List Int) (a3 : Int) (a4 : Int) (a5 : Int) (a6 : Option Addr) (len6 cap6 : Nat) (z6 : List Int) (a7 : Bool) (w : World) (w0 : (Lit.int .i64 a0).wf = true) (w1 : (a1 = none ∧ len1 = 0 ∧ cap1 = 0 ∧ z1 = []) ∨ ∃ x, a1 = some x ∧ len1 ≤ cap1 ∧ cap1 ≤ maxLen ∧ z1.length = cap1 ∧ (∀ j, j < z1.length → w.cell? (x.add j) = some (.int .i64 (z1.getD j 0))) ∧ ∀ n ∈ z1, (Lit.int .i64 n).wf = true) (y1 : len1 * 8 ≤ 140737488351232) (w2 : (a2 = none ∧ len2 = 0 ∧ cap2 = 0 ∧ z2 = []) ∨ ∃ x, a2 = some x ∧ len2 ≤ cap2 ∧ cap2 ≤ maxLen ∧ z2.length = cap2 ∧ (∀ j, j < z2.length → w.cell? (x.add j) = some (.int .u8 (z2.getD j 0))) ∧ ∀ n ∈ z2, (Lit.int .u8 n).wf = true) (y2 : len2 * 1 ≤ 140737488351232) (w3 : (Lit.int .i64 a3).wf = true) (w4 : (Lit.int .u8 a4).wf = true) (w5 : (Lit.int .i64 a5).wf = true) (w6 : (a6 = none ∧ len6 = 0 ∧ cap6 = 0 ∧ z6 = []) ∨ ∃ x, a6 = some x ∧ len6 ≤ cap6 ∧ cap6 ≤ maxLen ∧ z6.length = cap6 ∧ (∀ j, j < z6.length → w.cell? (x.add j) = some (.int .u8 (z6.getD j 0))) ∧ ∀ n ∈ z6, (Lit.int .u8 n).wf = true) (y6 : len6 * 1 ≤ 140737488351232) :
    Calls Try.prog 4 #[.int .i64 a0, .slice a1 len1 cap1, .slice a2 len2 cap2, .int .i64 a3, .int .u8 a4, .int .i64 a5, .slice a6 len6 cap6, .bool a7] w fun e w' => e = .returned (.bool true) ∧ Below w.heap.size w w' := by
  have HA0 := Aside0.mk w0
  clear w0
  obtain ⟨ns1, rfl, hr1, hm1, hw1, hc1⟩ := ReadsInt.ofRowC w1
  have HN1 := Aside0.mk (And.intro (show Kd.C (Kd.int .i64) w a1 ns1.length ns1 from Kd.C_of_reads (d := (0 : Int)) (h1 := fun _ => rfl) hr1) hc1)
  have HW1 := Aside0.mk hw1
  have HS1 := Aside0.mk y1
  clear hr1 hm1 hw1 hc1 w1 y1
  obtain ⟨l2, rfl, hr2, hm2, hw2, hc2⟩ := ReadsInt.ofRowC w2
  have HR2 := Aside0.mk (⟨Kd.C_of_reads (d := (0 : Int)) (h1 := fun _ => rfl) hr2, hc2⟩ : Rw w a2 cap2 l2)
  have HY2 := Aside0.mk (bytes_of_wf hw2)
  have HS2 := Aside0.mk y2
  clear hr2 hm2 hw2 hc2 w2 y2
  have HA3 := Aside0.mk w3
  clear w3
  have HA4 := Aside0.mk w4
  clear w4
  have HA5 := Aside0.mk w5
  clear w5
  obtain ⟨l6, rfl, hr6, hm6, hw6, hc6⟩ := ReadsInt.ofRowC w6
  have HR6 := Aside0.mk (⟨Kd.C_of_reads (d := (0 : Int)) (h1 := fun _ => rfl) hr6, hc6⟩ : Rw w a6 cap6 l6)
  have HY6 := Aside0.mk (bytes_of_wf hw6)
  have HS6 := Aside0.mk y6
  clear hr6 hm6 hw6 hc6 w6 y6
  by_cases hraw : 1600 < l6.length
  · have d0 : decide (1600 < (l6.length : Int)) = true := decide_eq_true (by omega)
    have d1 : decide (1600 < l6.length) = true := decide_eq_true hraw
    have KN := Aside0.mk (known_calls w)
    clear hraw
    go_enter Try.func4, Try.ntmps4
    go_wp2_with (first | (go_at_call 15; (with_reducible refine KN.out.mono ?_); rintro e w0 ⟨rfl, hb0⟩; have HB0 := Aside0.mk hb0; clear hb0))
    go_ret
    exact ⟨by simp, HB0.out⟩
  have d0 : decide (1600 < (l6.length : Int)) = false := decide_eq_false (by omega)
  have d1 : decide (1600 < l6.length) = false := decide_eq_false hraw
  have HL6 := Aside0.mk (show l6.length ≤ 1600 from by omega)
  clear hraw
  obtain ⟨p, hp⟩ : ∃ p, makeP a0 ns1 l2 = p := ⟨_, rfl⟩
  have HMK := Aside0.mk (show MkOk p ∧ p.kind = 1 + a0 % 3 from by rw [← hp]; exact makeP_ok a0 HY2.out)
  have HMP := Aside0.mk hp
  have KN := Aside0.mk (known_calls w)
  clear hp
  obtain ⟨b, hbb⟩ : ∃ b, buildL p = b := ⟨_, rfl⟩
  obtain ⟨ob, pb, wb, lb, yb⟩ := parse_build HMK.out.1.e HMK.out.1.c
  rw [hbb] at ob pb wb lb yb
  have HBB := Aside0.mk hbb
  have HPB := Aside0.mk (show parseL b = (p, 0) from by rw [ob.parse, pb])
  have HWB := Aside0.mk wb
  have HOK := Aside0.mk ob
  have HLB := Aside0.mk (show 24 ≤ b.length ∧ b.length ≤ 264 from ⟨ob.h24, by rw [lb]; exact nL_le HMK.out.1⟩)
  have HYB := Aside0.mk yb
  clear hbb ob pb wb lb yb
  go_enter Try.func4, Try.ntmps4
  go_upto_region 5 with (first | (go_at_call 15; (with_reducible refine KN.out.mono ?_); rintro e w0 ⟨rfl, hb0⟩; have HB0 := Aside0.mk hb0; clear hb0))
  have CM := Aside0.mk (make_at (W0 := w0) a0 (Kd.C_below HN1.out.1 HB0.out) rfl HN1.out.2 (by have := HS1.out; omega) (HR2.out.below HB0.out) rfl (by have := HS2.out; omega) HY2.out HMP.out)
  go_upto_region 6 with (first | (go_at_call 16; (with_reducible refine (CM.out _ ?hb).mono ?_); (case hb => (repeat (first | with_reducible assumption | with_reducible exact Below.refl _ _ | with_reducible apply below_alloc | with_reducible apply pw_below_drewN | with_reducible apply below_drew1))); rintro e w1 ⟨A1, c1, A2, c2, rfl, h1, h2, h3, hb1⟩; have HB1 := Aside0.mk (below_step HB0.out hb1); have HO := Aside0.mk (rw_of h1); have HD := Aside0.mk (rw_of h2); have CB := Aside0.mk (rbuild_at (W0 := w1) HO.out HD.out rfl rfl HMK.out.1.e HMK.out.1.c (by have := HMK.out.1.o; omega) (by have := HMK.out.1.d; omega) HBB.out); clear h1 h2 h3 hb1) | (go_at_call 18; (with_reducible refine (CB.out _ ?hb).mono ?_); (case hb => (repeat (first | with_reducible assumption | with_reducible exact Below.refl _ _ | with_reducible apply below_alloc | with_reducible apply pw_below_drewN | with_reducible apply below_drew1))); rintro e w2 ⟨Ab, cb, rfl, hr, hb⟩; have HB := Aside0.mk (below_step HB1.out hb); have HOB := Aside0.mk (Kd.R_lower hr HB1.out.size); have HRB := Aside0.mk (rw_of hr); clear hr hb))
  have HR6 := Aside0.mk (HR6.out.below HB.out)
  clear HOB d0 d1
  go_upto_region 7 with (first | ((with_reducible refine gate_dst (N := 42) rfl ?_); refine Kd.R_lit (Kd.int .u8) (w0 := w2) w2.heap.size 5 ?hg (N := 42) ?hd (xs := ([] : List Int)) (inner := []) (ok := fun _ => True) (okp := fun _ => True) ?hr ?hp (fun _ hk => hk) trivial (Below.refl _ _) (Nat.le_refl _) (by simp) ?_; (case hd => rfl); (case hg => rfl); (case hr => first | (go_simp; done) | (go_simp; rfl)); (case hp => exact (Reps.none _ _)); intro v3 w3 ho hb hg hat; have HO3 := Aside0.mk ho; have HB3 := Aside0.mk hb; clear ho hb hg hat) | ((with_reducible refine gate_builtin (b := .append) (xs := #[.tmp 42, .tmp 43]) rfl ?_); at_builtin; refine Kd.R_append_rows (Kd.int .u8) (w0 := w2) w2.heap.size rfl (.tmp 42) (.tmp 43) 23 5 (.int .u8 0) 1 rfl Try.underlying23 info5 rfl (by decide) (by omega) v3 [] b Ab b.length cb (fun _ => True) (fun _ => False) rfl rfl HO3.out (HRB.out.below HB3.out).rd (fun _ _ h => h) (fun _ h => h.elim) (fun _ _ => trivial) HB3.out HB3.out.size (by have := HLB.out; simp only [List.length_nil]; omega) ?_; intro v4 w4 ho hb hg hat; rw [List.nil_append] at ho; have HX := Aside0.mk hb; obtain ⟨Ax, cx, ev⟩ := Kd.R_slice ho; subst ev; have HOX := Aside0.mk ho; clear ho hb hg hat))
  obtain ⟨gx, cx2, ev, hgx⟩ := rb_form HOX.out (by have := HLB.out.1; omega)
  injection ev with ev1 ev2 ev3
  subst ev1 ev3
  have HGX := Aside0.mk hgx
  clear hgx ev2 HO3 HB3
  obtain ⟨K, hk⟩ := Int.eq_ofNat_of_zero_le (show 0 ≤ a3 % (b.length : Int) from Int.emod_nonneg _ (by have := HLB.out.1; omega))
  have ikn : K < b.length := by have h_ := Int.emod_lt_of_pos a3 (show (0 : Int) < (b.length : Int) by have := HLB.out.1; omega); omega
  have ik : (K : Int) < (b.length : Int) := by omega
  have HKN := Aside0.mk ikn
  have CS := Aside0.mk (withn_at w4 a3 (n := (b.length : Int)) (by have := HLB.out.1; omega) (by have := HLB.out.2; omega) hk)
  have r1 := rb_cell HOX.out K ikn
  have r2 := rb_frozen HOX.out K
  clear hk
  go_upto_region 8 with (first | (go_at_call 22; (with_reducible refine (CS.out _ ?hb).mono ?_); (case hb => (repeat (first | with_reducible assumption | with_reducible exact Below.refl _ _ | with_reducible apply below_alloc | with_reducible apply pw_below_drewN | with_reducible apply below_drew1))); rintro e w5 ⟨rfl, hx⟩; have HX5 := Aside0.mk hx; have HOX5 := Aside0.mk (Kd.R_below HOX.out hx); clear r1 r2; have r1 := rb_cell HOX5.out K ikn; have r2 := rb_frozen HOX5.out K; clear hx))
  generalize hW : World.setCell _ _ _ = w6
  obtain ⟨X, hX⟩ : ∃ X, X = b.set K (((b[K]'ikn) + a4) % 256) := ⟨_, rfl⟩
  have HOX6 := Aside0.mk (show RB w2.heap.size w6 (.slice (some ⟨gx, 0, none⟩) b.length cx) X from by rw [← hW, hX]; exact rb_set HOX5.out K _)
  have HXY := Aside0.mk (show Bytes X from by rw [hX]; exact HYB.out.set _ (by omega) (by omega))
  have HXL := Aside0.mk (show X.length = b.length from by rw [hX, List.length_set])
  have HX6 := Aside0.mk (show Below w2.heap.size w2 w6 from by rw [← hW]; exact (below_step HX.out HX5.out).setCell (p := ⟨gx, K, none⟩) HGX.out _)
  clear hW hX r1 r2 ik CS HOX HX HX5 HOX5 HKN HGX
  replace HRB := Aside0.mk (HRB.out.below HX6.out)
  replace HR6 := Aside0.mk (HR6.out.below HX6.out)
  replace HB := Aside0.mk (below_step HB.out HX6.out)
  have HRX := Aside0.mk (rw_of HOX6.out)
  clear HX6 HOX6
  have hw1 : Go.IntKind.i64.wrap ((b.length : Int) + 1) = (b.length : Int) + 1 := wrap_i64w _ (by omega) (by have := HLB.out.2; omega)
  obtain ⟨J, hj⟩ := Int.eq_ofNat_of_zero_le (show 0 ≤ a5 % ((b.length : Int) + 1) from Int.emod_nonneg _ (by omega))
  have HJ := Aside0.mk (show J ≤ b.length from by have h_ := Int.emod_lt_of_pos a5 (show (0 : Int) < (b.length : Int) + 1 by omega); omega)
  have CS := Aside0.mk (withn_at w6 a5 (n := (b.length : Int) + 1) (by omega) (by have := HLB.out.2; omega) hj)
  clear hj
  go_upto_region 9 with (first | (go_at_call 22; (with_reducible refine (CS.out _ ?hb).mono ?_); (case hb => (repeat (first | with_reducible assumption | with_reducible exact Below.refl _ _ | with_reducible apply below_alloc | with_reducible apply pw_below_drewN | with_reducible apply below_drew1))); rintro e w7 ⟨rfl, hx⟩; have HX7 := Aside0.mk hx; clear hx))
  clear hw1 CS
  replace HRB := Aside0.mk (HRB.out.below HX7.out)
  replace HR6 := Aside0.mk (HR6.out.below HX7.out)
  replace HRX := Aside0.mk (HRX.out.below HX7.out)
  replace HB := Aside0.mk (below_step HB.out HX7.out)
  clear HX7
  obtain ⟨hcut, hCj⟩ := cut_to (A := Ab) (c := cb) (n := b.length) (l := b) J (jz := (J : Int)) rfl HJ.out rfl HRB.out.le
  have HRJ := Aside0.mk (show Rw w7 Ab cb (b.take J) from ⟨by have h_ := hCj w7 HRB.out.rd; rw [show (b.take J).length = J from by rw [List.length_take]; exact Nat.min_eq_left HJ.out]; exact h_, by have := HRB.out.le; rw [List.length_take]; omega⟩)
  clear hCj
  obtain ⟨L8, h8⟩ : ∃ L, b ++ l6 = L := ⟨_, rfl⟩
  have H8 := Aside0.mk h8
  obtain ⟨L14, h14⟩ : ∃ L, X ++ [0] = L := ⟨_, rfl⟩
  have H14 := Aside0.mk h14
  clear h8 h14
  have HQc := Aside0.mk (below_drew1 (Below.refl w7.heap.size w7))
  refine start_ (n := 17) (S := fun w' => True) (ds := []) #[false, false, false, false, false, false, false, false, false, false, false, false, false, false, false, false, false] (by kernel_rfl) rfl rfl trivial (fun hHeld => ?_)
  refine pure_ (i := 0) (N := some 60) (v := ?_) (a' := ?_) #[true, false, false, false, false, false, false, false, false, false, false, false, false, false, false, false, false] rfl rfl (by kernel_rfl) (fun _ _ _ h => h) (Or.inl ⟨by rfl, ?_⟩) ?_ ?_
  rotate_left
  · intro w'
    go_simp
    with_reducible rfl
  rotate_left
  · simp only [Act.put, List.setIfInBounds_toArray, List.set_cons_zero, List.set_cons_succ, i64_w, i32_w]
    rfl
  refine pure_ (i := 1) (N := some 61) (v := ?_) (a' := ?_) #[true, true, false, false, false, false, false, false, false, false, false, false, false, false, false, false, false] rfl rfl (by kernel_rfl) (fun _ _ _ h => h) (Or.inl ⟨by rfl, ?_⟩) ?_ ?_
  rotate_left
  · intro w'
    go_simp
    with_reducible rfl
  rotate_left
  · simp only [Act.put, List.setIfInBounds_toArray, List.set_cons_zero, List.set_cons_succ, i64_w, i32_w]
    rfl
  refine pure_ (i := 2) (N := some 62) (v := ?_) (a' := ?_) #[true, true, true, false, false, false, false, false, false, false, false, false, false, false, false, false, false] rfl rfl (by kernel_rfl) (fun _ _ _ h => h) (Or.inl ⟨by rfl, ?_⟩) ?_ ?_
  rotate_left
  · intro w'
    go_simp
    with_reducible rfl
  rotate_left
  · simp only [Act.put, List.setIfInBounds_toArray, List.set_cons_zero, List.set_cons_succ, i64_w, i32_w]
    rfl
  refine pure_ (i := 3) (N := some 63) (v := ?_) (a' := ?_) #[true, true, true, true, false, false, false, false, false, false, false, false, false, false, false, false, false] rfl rfl (by kernel_rfl) (fun _ _ _ h => h) (Or.inl ⟨by rfl, ?_⟩) ?_ ?_
  rotate_left
  · intro w'
    go_simp
    with_reducible rfl
  rotate_left
  · simp only [Act.put, List.setIfInBounds_toArray, List.set_cons_zero, List.set_cons_succ, i64_w, i32_w]
    rfl
  refine pure_ (i := 5) (N := some 65) (v := ?_) (a' := ?_) #[true, true, true, true, false, true, false, false, false, false, false, false, false, false, false, false, false] rfl rfl (by kernel_rfl) (fun _ _ _ h => h) (Or.inl ⟨by rfl, ?_⟩) ?_ ?_
  rotate_left
  · intro w'
    go_simp
    with_reducible rfl
  rotate_left
  · simp only [Act.put, List.setIfInBounds_toArray, List.set_cons_zero, List.set_cons_succ, i64_w, i32_w]
    rfl
  refine pure_ (i := 7) (N := some 67) (v := ?_) (a' := ?_) #[true, true, true, true, false, true, false, true, false, false, false, false, false, false, false, false, false] rfl rfl (by kernel_rfl) (fun _ _ _ h => h) (Or.inl ⟨by rfl, ?_⟩) ?_ ?_
  rotate_left
  · intro w'
    go_simp
    with_reducible rfl
  rotate_left
  · simp only [Act.put, List.setIfInBounds_toArray, List.set_cons_zero, List.set_cons_succ, i64_w, i32_w]
    rfl
  refine pure_ (i := 9) (N := some 69) (v := ?_) (a' := ?_) #[true, true, true, true, false, true, false, true, false, true, false, false, false, false, false, false, false] rfl rfl (by kernel_rfl) (fun _ _ _ h => h) (Or.inl ⟨by rfl, ?_⟩) ?_ ?_
  rotate_left
  · intro w'
    go_simp
    with_reducible rfl
  rotate_left
  · simp only [Act.put, List.setIfInBounds_toArray, List.set_cons_zero, List.set_cons_succ, i64_w, i32_w]
    rfl
  refine pure_ (i := 11) (N := some 71) (v := ?_) (a' := ?_) #[true, true, true, true, false, true, false, true, false, true, false, true, false, false, false, false, false] rfl rfl (by kernel_rfl) (fun _ _ _ h => h) (Or.inl ⟨by rfl, ?_⟩) ?_ ?_
  rotate_left
  · intro w'
    go_simp
    with_reducible rfl
  rotate_left
  · simp only [Act.put, List.setIfInBounds_toArray, List.set_cons_zero, List.set_cons_succ, i64_w, i32_w]
    rfl
  refine join_ (σ := Value × Option Addr × Nat × Option Addr × Nat × Value × Option Addr × Nat × Option Addr × Nat) 3 #[true, true, true, true, true, true, true, true, true, true, true, true, true, true, false, false, false] (fun s => [(64, s.1), (66, .slice s.2.1 b.length s.2.2.1), (68, .slice s.2.2.2.1 L8.length s.2.2.2.2.1), (70, s.2.2.2.2.2.1), (72, .slice s.2.2.2.2.2.2.1 X.length s.2.2.2.2.2.2.2.1), (73, .slice s.2.2.2.2.2.2.2.2.1 1 s.2.2.2.2.2.2.2.2.2)]) (fun s w' => Below w7.heap.size w7 w' ∧ RB w7.heap.size w' (Value.slice s.2.2.2.1 L8.length s.2.2.2.2.1) L8 ∧ RB w7.heap.size w' (Value.slice s.2.2.2.2.2.2.1 X.length s.2.2.2.2.2.2.2.1) X ∧ RB w7.heap.size w' (Value.slice s.2.2.2.2.2.2.2.2.1 1 s.2.2.2.2.2.2.2.2.2) [0] ∧ (Value.slice s.2.2.2.1 L8.length s.2.2.2.2.1).ownBlock ≠ (Value.slice s.2.2.2.2.2.2.1 X.length s.2.2.2.2.2.2.2.1).ownBlock ∧ (Value.slice s.2.2.2.1 L8.length s.2.2.2.2.1).ownBlock ≠ (Value.slice s.2.2.2.2.2.2.2.2.1 1 s.2.2.2.2.2.2.2.2.2).ownBlock ∧ (Value.slice s.2.2.2.2.2.2.1 X.length s.2.2.2.2.2.2.2.1).ownBlock ≠ (Value.slice s.2.2.2.2.2.2.2.2.1 1 s.2.2.2.2.2.2.2.2.2).ownBlock) ?_ ?_
  rotate_left
  · intro hJ4_6_8_10_12_13
    refine join_ (σ := Value × Option Addr × Nat × Option Addr × Nat × Value × Option Addr × Nat) 4 #[true, true, true, true, true, true, true, true, true, true, true, true, true, false, false, false, false] (fun s => [(64, s.1), (66, .slice s.2.1 b.length s.2.2.1), (68, .slice s.2.2.2.1 L8.length s.2.2.2.2.1), (70, s.2.2.2.2.2.1), (72, .slice s.2.2.2.2.2.2.1 X.length s.2.2.2.2.2.2.2)]) (fun s w' => Below w7.heap.size w7 w' ∧ RB w7.heap.size w' (Value.slice s.2.2.2.1 L8.length s.2.2.2.2.1) L8 ∧ RB w7.heap.size w' (Value.slice s.2.2.2.2.2.2.1 X.length s.2.2.2.2.2.2.2) X ∧ (Value.slice s.2.2.2.1 L8.length s.2.2.2.2.1).ownBlock ≠ (Value.slice s.2.2.2.2.2.2.1 X.length s.2.2.2.2.2.2.2).ownBlock) ?_ ?_
    rotate_left
    · intro hJ4_6_8_10_12
      refine join_ (σ := Value × Option Addr × Nat × Option Addr × Nat × Value × Option Addr × Nat) 4 #[true, true, true, true, true, true, true, true, true, true, true, true, false, true, false, false, false] (fun s => [(64, s.1), (66, .slice s.2.1 b.length s.2.2.1), (68, .slice s.2.2.2.1 L8.length s.2.2.2.2.1), (70, s.2.2.2.2.2.1), (73, .slice s.2.2.2.2.2.2.1 1 s.2.2.2.2.2.2.2)]) (fun s w' => Below w7.heap.size w7 w' ∧ RB w7.heap.size w' (Value.slice s.2.2.2.1 L8.length s.2.2.2.2.1) L8 ∧ RB w7.heap.size w' (s.2.2.2.2.2.1 : Value) [] ∧ RB w7.heap.size w' (Value.slice s.2.2.2.2.2.2.1 1 s.2.2.2.2.2.2.2) [0] ∧ (Value.slice s.2.2.2.1 L8.length s.2.2.2.2.1).ownBlock ≠ (s.2.2.2.2.2.1 : Value).ownBlock ∧ (Value.slice s.2.2.2.1 L8.length s.2.2.2.2.1).ownBlock ≠ (Value.slice s.2.2.2.2.2.2.1 1 s.2.2.2.2.2.2.2).ownBlock ∧ (s.2.2.2.2.2.1 : Value).ownBlock ≠ (Value.slice s.2.2.2.2.2.2.1 1 s.2.2.2.2.2.2.2).ownBlock) ?_ ?_
      rotate_left
      · intro hJ4_6_8_10_13
        refine join_ (σ := Value × Option Addr × Nat × Option Addr × Nat × Value) 5 #[true, true, true, true, true, true, true, true, true, true, true, true, false, false, false, false, false] (fun s => [(64, s.1), (66, .slice s.2.1 b.length s.2.2.1), (68, .slice s.2.2.2.1 L8.length s.2.2.2.2.1), (70, s.2.2.2.2.2)]) (fun s w' => Below w7.heap.size w7 w' ∧ RB w7.heap.size w' (Value.slice s.2.2.2.1 L8.length s.2.2.2.2.1) L8 ∧ RB w7.heap.size w' (s.2.2.2.2.2 : Value) [] ∧ (Value.slice s.2.2.2.1 L8.length s.2.2.2.2.1).ownBlock ≠ (s.2.2.2.2.2 : Value).ownBlock) ?_ ?_
        rotate_left
        · intro hJ4_6_8_10
          refine join_ (σ := Value × Option Addr × Nat × Option Addr × Nat × Option Addr × Nat) 5 #[true, true, true, true, true, true, true, true, true, true, false, true, false, true, false, false, false] (fun s => [(64, s.1), (66, .slice s.2.1 b.length s.2.2.1), (68, .slice s.2.2.2.1 L8.length s.2.2.2.2.1), (73, .slice s.2.2.2.2.2.1 1 s.2.2.2.2.2.2)]) (fun s w' => Below w7.heap.size w7 w' ∧ RB w7.heap.size w' (Value.slice s.2.2.2.1 L8.length s.2.2.2.2.1) L8 ∧ RB w7.heap.size w' (Value.slice s.2.2.2.2.2.1 1 s.2.2.2.2.2.2) [0] ∧ (Value.slice s.2.2.2.1 L8.length s.2.2.2.2.1).ownBlock ≠ (Value.slice s.2.2.2.2.2.1 1 s.2.2.2.2.2.2).ownBlock) ?_ ?_
          rotate_left
          · intro hJ4_6_8_13
            refine join_ (σ := Value × Option Addr × Nat × Value × Option Addr × Nat) 5 #[true, true, true, true, true, true, true, true, false, true, true, true, false, true, false, false, false] (fun s => [(64, s.1), (66, .slice s.2.1 b.length s.2.2.1), (70, s.2.2.2.1), (73, .slice s.2.2.2.2.1 1 s.2.2.2.2.2)]) (fun s w' => Below w7.heap.size w7 w' ∧ RB w7.heap.size w' (Value.slice s.2.1 b.length s.2.2.1) b ∧ RB w7.heap.size w' (s.2.2.2.1 : Value) [] ∧ RB w7.heap.size w' (Value.slice s.2.2.2.2.1 1 s.2.2.2.2.2) [0] ∧ (Value.slice s.2.1 b.length s.2.2.1).ownBlock ≠ (s.2.2.2.1 : Value).ownBlock ∧ (Value.slice s.2.1 b.length s.2.2.1).ownBlock ≠ (Value.slice s.2.2.2.2.1 1 s.2.2.2.2.2).ownBlock ∧ (s.2.2.2.1 : Value).ownBlock ≠ (Value.slice s.2.2.2.2.1 1 s.2.2.2.2.2).ownBlock) ?_ ?_
            rotate_left
            · intro hJ4_6_10_13
              refine join_ (σ := Value × Option Addr × Nat × Option Addr × Nat) 6 #[true, true, true, true, true, true, true, true, true, true, false, true, false, false, false, false, false] (fun s => [(64, s.1), (66, .slice s.2.1 b.length s.2.2.1), (68, .slice s.2.2.2.1 L8.length s.2.2.2.2)]) (fun s w' => Below w7.heap.size w7 w' ∧ RB w7.heap.size w' (Value.slice s.2.2.2.1 L8.length s.2.2.2.2) L8) ?_ ?_
              rotate_left
              · intro hJ4_6_8
                refine join_ (σ := Value × Option Addr × Nat × Value) 6 #[true, true, true, true, true, true, true, true, false, true, true, true, false, false, false, false, false] (fun s => [(64, s.1), (66, .slice s.2.1 b.length s.2.2.1), (70, s.2.2.2)]) (fun s w' => Below w7.heap.size w7 w' ∧ RB w7.heap.size w' (Value.slice s.2.1 b.length s.2.2.1) b ∧ RB w7.heap.size w' (s.2.2.2 : Value) [] ∧ (Value.slice s.2.1 b.length s.2.2.1).ownBlock ≠ (s.2.2.2 : Value).ownBlock) ?_ ?_
                rotate_left
                · intro hJ4_6_10
                  refine join_ (σ := Value × Option Addr × Nat × Option Addr × Nat) 6 #[true, true, true, true, true, true, true, true, false, true, false, true, false, true, false, false, false] (fun s => [(64, s.1), (66, .slice s.2.1 b.length s.2.2.1), (73, .slice s.2.2.2.1 1 s.2.2.2.2)]) (fun s w' => Below w7.heap.size w7 w' ∧ RB w7.heap.size w' (Value.slice s.2.1 b.length s.2.2.1) b ∧ RB w7.heap.size w' (Value.slice s.2.2.2.1 1 s.2.2.2.2) [0] ∧ (Value.slice s.2.1 b.length s.2.2.1).ownBlock ≠ (Value.slice s.2.2.2.1 1 s.2.2.2.2).ownBlock) ?_ ?_
                  rotate_left
                  · intro hJ4_6_13
                    refine join_ (σ := Value × Value × Option Addr × Nat) 6 #[true, true, true, true, true, true, false, true, false, true, true, true, false, true, false, false, false] (fun s => [(64, s.1), (70, s.2.1), (73, .slice s.2.2.1 1 s.2.2.2)]) (fun s w' => Below w7.heap.size w7 w' ∧ RB w7.heap.size w' (s.1 : Value) [] ∧ RB w7.heap.size w' (s.2.1 : Value) [] ∧ RB w7.heap.size w' (Value.slice s.2.2.1 1 s.2.2.2) [0] ∧ (s.1 : Value).ownBlock ≠ (s.2.1 : Value).ownBlock ∧ (s.1 : Value).ownBlock ≠ (Value.slice s.2.2.1 1 s.2.2.2).ownBlock ∧ (s.2.1 : Value).ownBlock ≠ (Value.slice s.2.2.1 1 s.2.2.2).ownBlock) ?_ ?_
                    rotate_left
                    · intro hJ4_10_13
                      refine join_ (σ := Value × Option Addr × Nat) 7 #[true, true, true, true, true, true, true, true, false, true, false, true, false, false, false, false, false] (fun s => [(64, s.1), (66, .slice s.2.1 b.length s.2.2)]) (fun s w' => Below w7.heap.size w7 w' ∧ RB w7.heap.size w' (Value.slice s.2.1 b.length s.2.2) b) ?_ ?_
                      rotate_left
                      · intro hJ4_6
                        refine join_ (σ := Value × Value) 7 #[true, true, true, true, true, true, false, true, false, true, true, true, false, false, false, false, false] (fun s => [(64, s.1), (70, s.2)]) (fun s w' => Below w7.heap.size w7 w' ∧ RB w7.heap.size w' (s.1 : Value) [] ∧ RB w7.heap.size w' (s.2 : Value) [] ∧ (s.1 : Value).ownBlock ≠ (s.2 : Value).ownBlock) ?_ ?_
                        rotate_left
                        · intro hJ4_10
                          refine join_ (σ := Value × Option Addr × Nat) 7 #[true, true, true, true, true, true, false, true, false, true, false, true, false, true, false, false, false] (fun s => [(64, s.1), (73, .slice s.2.1 1 s.2.2)]) (fun s w' => Below w7.heap.size w7 w' ∧ RB w7.heap.size w' (s.1 : Value) [] ∧ RB w7.heap.size w' (Value.slice s.2.1 1 s.2.2) [0] ∧ (s.1 : Value).ownBlock ≠ (Value.slice s.2.1 1 s.2.2).ownBlock) ?_ ?_
                          rotate_left
                          · intro hJ4_13
                            refine join_ (σ := Value × Option Addr × Nat) 7 #[true, true, true, true, false, true, false, true, false, true, true, true, false, true, false, false, false] (fun s => [(70, s.1), (73, .slice s.2.1 1 s.2.2)]) (fun s w' => Below w7.heap.size w7 w' ∧ RB w7.heap.size w' (s.1 : Value) [] ∧ RB w7.heap.size w' (Value.slice s.2.1 1 s.2.2) [0] ∧ (s.1 : Value).ownBlock ≠ (Value.slice s.2.1 1 s.2.2).ownBlock) ?_ ?_
                            rotate_left
                            · intro hJ10_13
                              refine join_ (σ := Value) 8 #[true, true, true, true, true, true, false, true, false, true, false, true, false, false, false, false, false] (fun s => [(64, s)]) (fun s w' => Below w7.heap.size w7 w' ∧ RB w7.heap.size w' (s : Value) []) ?_ ?_
                              rotate_left
                              · intro hJ4
                                refine join_ (σ := Value) 8 #[true, true, true, true, false, true, false, true, false, true, true, true, false, false, false, false, false] (fun s => [(70, s)]) (fun s w' => Below w7.heap.size w7 w' ∧ RB w7.heap.size w' (s : Value) []) ?_ ?_
                                rotate_left
                                · intro hJ10
                                  refine join_ (σ := Option Addr × Nat) 8 #[true, true, true, true, false, true, false, true, false, true, false, true, false, true, false, false, false] (fun s => [(73, .slice s.1 1 s.2)]) (fun s w' => Below w7.heap.size w7 w' ∧ RB w7.heap.size w' (Value.slice s.1 1 s.2) [0]) ?_ ?_
                                  rotate_left
                                  · intro hJ13
                                    refine three_ (i := 4) (j := 10) (k := 13) (Ni := some 64) (Nj := some 70) (Nk := some 73) #[true, true, true, true, true, true, false, true, false, true, false, true, false, false, false, false, false] #[true, true, true, true, false, true, false, true, false, true, true, true, false, false, false, false, false] #[true, true, true, true, false, true, false, true, false, true, false, true, false, true, false, false, false] rfl rfl rfl rfl rfl rfl (by kernel_rfl) (by decide) (by decide) (by decide) (fun K hK => ?_) (fun K hK => ?_) (fun K hK => ?_)
                                    · skip
                                      refine Kd.R_lit_step (Kd.int .u8) (w0 := w7) w7.heap.size 5 ?hg (N := 64) ?hd (xs := ([] : List Int)) (inner := []) (ok := fun _ => True) (okp := fun _ => True) ?hr ?hp (fun _ hk => hk) trivial HQc.out HQc.out.size (by simp) ?_; (case hd => rfl); (case hg => rfl); (case hr => first | (go_simp; done) | (go_simp; rfl)); (case hp => exact (Reps.none _ _))
                                      intro v4 w5 ho hb hg hat
                                      clear HQc
                                      have HQc := Aside0.mk hb
                                      have R1 := Aside0.mk ho
                                      clear ho hb hg hat
                                      refine hK.out _ _ trivial (fun hHeld => ?_)
                                      clear hK K
                                      refine norm_ (a' := ?_) ?_ ?_
                                      rotate_left
                                      · show Act.put _ (some 64) _ = _
                                        simp only [Act.put, List.setIfInBounds_toArray, List.set_cons_zero, List.set_cons_succ, i64_w, i32_w]
                                        rfl
                                      exact norm_ (by first | (simp only [putAll, Act.put, List.setIfInBounds_toArray, List.set_cons_zero, List.set_cons_succ]; done) | (simp only [putAll, Act.put, List.setIfInBounds_toArray, List.set_cons_zero, List.set_cons_succ]; rfl)) (hJ4 (v4) _ ⟨HQc.out, R1.out⟩)
                                    · skip
                                      refine Kd.R_lit_step (Kd.int .u8) (w0 := w7) w7.heap.size 5 ?hg (N := 70) ?hd (xs := ([] : List Int)) (inner := []) (ok := fun _ => True) (okp := fun _ => True) ?hr ?hp (fun _ hk => hk) trivial HQc.out HQc.out.size (by simp) ?_; (case hd => rfl); (case hg => rfl); (case hr => first | (go_simp; done) | (go_simp; rfl)); (case hp => exact (Reps.none _ _))
                                      intro v10 w5 ho hb hg hat
                                      clear HQc
                                      have HQc := Aside0.mk hb
                                      have R2 := Aside0.mk ho
                                      clear ho hb hg hat
                                      refine hK.out _ _ trivial (fun hHeld => ?_)
                                      clear hK K
                                      refine norm_ (a' := ?_) ?_ ?_
                                      rotate_left
                                      · show Act.put _ (some 70) _ = _
                                        simp only [Act.put, List.setIfInBounds_toArray, List.set_cons_zero, List.set_cons_succ, i64_w, i32_w]
                                        rfl
                                      exact norm_ (by first | (simp only [putAll, Act.put, List.setIfInBounds_toArray, List.set_cons_zero, List.set_cons_succ]; done) | (simp only [putAll, Act.put, List.setIfInBounds_toArray, List.set_cons_zero, List.set_cons_succ]; rfl)) (hJ10 (v10) _ ⟨HQc.out, R2.out⟩)
                                    · skip
                                      refine Kd.R_lit_step (Kd.int .u8) (w0 := w7) w7.heap.size 5 ?hg (N := 73) ?hd (xs := ([0] : List Int)) (inner := [.int .u8 0]) (ok := fun _ => True) (okp := fun _ => True) ?hr ?hp (fun _ hk => hk) trivial HQc.out HQc.out.size (by simp) ?_; (case hd => rfl); (case hg => rfl); (case hr => first | (go_simp; done) | (go_simp; rfl)); (case hp => exact (Reps.one (show Kd.M (Kd.int .u8) _ _ _ 0 [.int .u8 0] from rfl) (Reps.none _ _)))
                                      intro v13 w5 ho hb hg hat
                                      clear HQc
                                      have HQc := Aside0.mk hb
                                      obtain ⟨A13, c13, e13⟩ : ∃ (A : Option Addr) (c : Nat), v13 = .slice A 1 c := Kd.R_slice ho
                                      subst e13
                                      have R3 := Aside0.mk ho
                                      clear ho hb hg hat
                                      refine hK.out _ _ trivial (fun hHeld => ?_)
                                      clear hK K
                                      refine norm_ (a' := ?_) ?_ ?_
                                      rotate_left
                                      · show Act.put _ (some 73) _ = _
                                        simp only [Act.put, List.setIfInBounds_toArray, List.set_cons_zero, List.set_cons_succ, i64_w, i32_w]
                                        rfl
                                      exact norm_ (by first | (simp only [putAll, Act.put, List.setIfInBounds_toArray, List.set_cons_zero, List.set_cons_succ]; done) | (simp only [putAll, Act.put, List.setIfInBounds_toArray, List.set_cons_zero, List.set_cons_succ]; rfl)) (hJ13 (A13, c13) _ ⟨HQc.out, R3.out⟩)
                                  · skip
                                    rintro ⟨A13, c13⟩ w8 ⟨xHQc, xR3⟩
                                    clear HQc
                                    have HQc := Aside0.mk xHQc
                                    have R3 := Aside0.mk xR3
                                    clear xHQc xR3
                                    dsimp only at HQc R3
                                    have hHeld : True := trivial
                                    refine norm_ (a' := ?_) ?_ ?_
                                    rotate_left
                                    · simp only [putAll, Act.put, List.setIfInBounds_toArray, List.set_cons_zero, List.set_cons_succ]
                                      rfl
                                    refine two_ (i := 4) (j := 10) (Ni := some 64) (Nj := some 70) #[true, true, true, true, true, true, false, true, false, true, false, true, false, true, false, false, false] #[true, true, true, true, false, true, false, true, false, true, true, true, false, true, false, false, false] rfl rfl rfl rfl (by kernel_rfl) (by decide) (by decide) (fun K hK => ?_) (fun K hK => ?_)
                                    · skip
                                      refine Kd.R_lit_step (Kd.int .u8) (w0 := w7) w7.heap.size 5 ?hg (N := 64) ?hd (xs := ([] : List Int)) (inner := []) (ok := fun _ => True) (okp := fun _ => True) ?hr ?hp (fun _ hk => hk) trivial HQc.out HQc.out.size (by simp) ?_; (case hd => rfl); (case hg => rfl); (case hr => first | (go_simp; done) | (go_simp; rfl)); (case hp => exact (Reps.none _ _))
                                      intro v4 w5 ho hb hg hat
                                      clear HQc
                                      have HQc := Aside0.mk hb
                                      have S13 := Aside0.mk (ne_of_hat (Kd.R_lt R3.out) hat).symm
                                      have n1_ := Aside0.mk (Kd.R_below R3.out (below_of_none hg))
                                      clear R3
                                      have R3 := n1_
                                      clear n1_
                                      have R1 := Aside0.mk ho
                                      clear ho hb hg hat
                                      refine hK.out _ _ trivial (fun hHeld => ?_)
                                      clear hK K
                                      refine norm_ (a' := ?_) ?_ ?_
                                      rotate_left
                                      · show Act.put _ (some 64) _ = _
                                        simp only [Act.put, List.setIfInBounds_toArray, List.set_cons_zero, List.set_cons_succ, i64_w, i32_w]
                                        rfl
                                      exact norm_ (by first | (simp only [putAll, Act.put, List.setIfInBounds_toArray, List.set_cons_zero, List.set_cons_succ]; done) | (simp only [putAll, Act.put, List.setIfInBounds_toArray, List.set_cons_zero, List.set_cons_succ]; rfl)) (hJ4_13 (v4, A13, c13) _ ⟨HQc.out, R1.out, R3.out, S13.out⟩)
                                    · skip
                                      refine Kd.R_lit_step (Kd.int .u8) (w0 := w7) w7.heap.size 5 ?hg (N := 70) ?hd (xs := ([] : List Int)) (inner := []) (ok := fun _ => True) (okp := fun _ => True) ?hr ?hp (fun _ hk => hk) trivial HQc.out HQc.out.size (by simp) ?_; (case hd => rfl); (case hg => rfl); (case hr => first | (go_simp; done) | (go_simp; rfl)); (case hp => exact (Reps.none _ _))
                                      intro v10 w5 ho hb hg hat
                                      clear HQc
                                      have HQc := Aside0.mk hb
                                      have S23 := Aside0.mk (ne_of_hat (Kd.R_lt R3.out) hat).symm
                                      have n1_ := Aside0.mk (Kd.R_below R3.out (below_of_none hg))
                                      clear R3
                                      have R3 := n1_
                                      clear n1_
                                      have R2 := Aside0.mk ho
                                      clear ho hb hg hat
                                      refine hK.out _ _ trivial (fun hHeld => ?_)
                                      clear hK K
                                      refine norm_ (a' := ?_) ?_ ?_
                                      rotate_left
                                      · show Act.put _ (some 70) _ = _
                                        simp only [Act.put, List.setIfInBounds_toArray, List.set_cons_zero, List.set_cons_succ, i64_w, i32_w]
                                        rfl
                                      exact norm_ (by first | (simp only [putAll, Act.put, List.setIfInBounds_toArray, List.set_cons_zero, List.set_cons_succ]; done) | (simp only [putAll, Act.put, List.setIfInBounds_toArray, List.set_cons_zero, List.set_cons_succ]; rfl)) (hJ10_13 (v10, A13, c13) _ ⟨HQc.out, R2.out, R3.out, S23.out⟩)
                                · skip
                                  rintro v10 w8 ⟨xHQc, xR2⟩
                                  clear HQc
                                  have HQc := Aside0.mk xHQc
                                  have R2 := Aside0.mk xR2
                                  clear xHQc xR2
                                  have hHeld : True := trivial
                                  refine norm_ (a' := ?_) ?_ ?_
                                  rotate_left
                                  · simp only [putAll, Act.put, List.setIfInBounds_toArray, List.set_cons_zero, List.set_cons_succ]
                                    rfl
                                  refine two_ (i := 4) (j := 13) (Ni := some 64) (Nj := some 73) #[true, true, true, true, true, true, false, true, false, true, true, true, false, false, false, false, false] #[true, true, true, true, false, true, false, true, false, true, true, true, false, true, false, false, false] rfl rfl rfl rfl (by kernel_rfl) (by decide) (by decide) (fun K hK => ?_) (fun K hK => ?_)
                                  · skip
                                    refine Kd.R_lit_step (Kd.int .u8) (w0 := w7) w7.heap.size 5 ?hg (N := 64) ?hd (xs := ([] : List Int)) (inner := []) (ok := fun _ => True) (okp := fun _ => True) ?hr ?hp (fun _ hk => hk) trivial HQc.out HQc.out.size (by simp) ?_; (case hd => rfl); (case hg => rfl); (case hr => first | (go_simp; done) | (go_simp; rfl)); (case hp => exact (Reps.none _ _))
                                    intro v4 w5 ho hb hg hat
                                    clear HQc
                                    have HQc := Aside0.mk hb
                                    have S12 := Aside0.mk (ne_of_hat (Kd.R_lt R2.out) hat).symm
                                    have n1_ := Aside0.mk (Kd.R_below R2.out (below_of_none hg))
                                    clear R2
                                    have R2 := n1_
                                    clear n1_
                                    have R1 := Aside0.mk ho
                                    clear ho hb hg hat
                                    refine hK.out _ _ trivial (fun hHeld => ?_)
                                    clear hK K
                                    refine norm_ (a' := ?_) ?_ ?_
                                    rotate_left
                                    · show Act.put _ (some 64) _ = _
                                      simp only [Act.put, List.setIfInBounds_toArray, List.set_cons_zero, List.set_cons_succ, i64_w, i32_w]
                                      rfl
                                    exact norm_ (by first | (simp only [putAll, Act.put, List.setIfInBounds_toArray, List.set_cons_zero, List.set_cons_succ]; done) | (simp only [putAll, Act.put, List.setIfInBounds_toArray, List.set_cons_zero, List.set_cons_succ]; rfl)) (hJ4_10 (v4, v10) _ ⟨HQc.out, R1.out, R2.out, S12.out⟩)
                                  · skip
                                    refine Kd.R_lit_step (Kd.int .u8) (w0 := w7) w7.heap.size 5 ?hg (N := 73) ?hd (xs := ([0] : List Int)) (inner := [.int .u8 0]) (ok := fun _ => True) (okp := fun _ => True) ?hr ?hp (fun _ hk => hk) trivial HQc.out HQc.out.size (by simp) ?_; (case hd => rfl); (case hg => rfl); (case hr => first | (go_simp; done) | (go_simp; rfl)); (case hp => exact (Reps.one (show Kd.M (Kd.int .u8) _ _ _ 0 [.int .u8 0] from rfl) (Reps.none _ _)))
                                    intro v13 w5 ho hb hg hat
                                    clear HQc
                                    have HQc := Aside0.mk hb
                                    have S23 := Aside0.mk (ne_of_hat (Kd.R_lt R2.out) hat)
                                    have n1_ := Aside0.mk (Kd.R_below R2.out (below_of_none hg))
                                    clear R2
                                    have R2 := n1_
                                    clear n1_
                                    obtain ⟨A13, c13, e13⟩ : ∃ (A : Option Addr) (c : Nat), v13 = .slice A 1 c := Kd.R_slice ho
                                    subst e13
                                    have R3 := Aside0.mk ho
                                    clear ho hb hg hat
                                    refine hK.out _ _ trivial (fun hHeld => ?_)
                                    clear hK K
                                    refine norm_ (a' := ?_) ?_ ?_
                                    rotate_left
                                    · show Act.put _ (some 73) _ = _
                                      simp only [Act.put, List.setIfInBounds_toArray, List.set_cons_zero, List.set_cons_succ, i64_w, i32_w]
                                      rfl
                                    exact norm_ (by first | (simp only [putAll, Act.put, List.setIfInBounds_toArray, List.set_cons_zero, List.set_cons_succ]; done) | (simp only [putAll, Act.put, List.setIfInBounds_toArray, List.set_cons_zero, List.set_cons_succ]; rfl)) (hJ10_13 (v10, A13, c13) _ ⟨HQc.out, R2.out, R3.out, S23.out⟩)
                              · skip
                                rintro v4 w8 ⟨xHQc, xR1⟩
                                clear HQc
                                have HQc := Aside0.mk xHQc
                                have R1 := Aside0.mk xR1
                                clear xHQc xR1
                                have hHeld : True := trivial
                                refine norm_ (a' := ?_) ?_ ?_
                                rotate_left
                                · simp only [putAll, Act.put, List.setIfInBounds_toArray, List.set_cons_zero, List.set_cons_succ]
                                  rfl
                                refine three_ (i := 6) (j := 10) (k := 13) (Ni := some 66) (Nj := some 70) (Nk := some 73) #[true, true, true, true, true, true, true, true, false, true, false, true, false, false, false, false, false] #[true, true, true, true, true, true, false, true, false, true, true, true, false, false, false, false, false] #[true, true, true, true, true, true, false, true, false, true, false, true, false, true, false, false, false] rfl rfl rfl rfl rfl rfl (by kernel_rfl) (by decide) (by decide) (by decide) (fun K hK => ?_) (fun K hK => ?_) (fun K hK => ?_)
                                · skip
                                  refine Kd.R_append_rows_step (Kd.int .u8) (w0 := w7) w7.heap.size (by rfl) (.tmp 64) (.tmp 65) 23 5 (.int .u8 0) 1 rfl Try.underlying23 info5 rfl (by decide) (by omega) v4 [] b Ab b.length cb (fun _ => True) (fun _ => False) rfl rfl R1.out (HRB.out.below HQc.out).rd (fun _ _ h => h) (fun _ h => h.elim) (fun _ _ => trivial) HQc.out HQc.out.size (by have := HLB.out; simp only [List.length_nil]; omega) ?_
                                  intro u6 w6 ho hb hg hat
                                  rw [List.nil_append] at ho
                                  obtain ⟨A6, c6, ev⟩ : ∃ (A : Option Addr) (c : Nat), u6 = .slice A b.length c := Kd.R_slice ho
                                  subst ev
                                  clear HQc
                                  have HQc := Aside0.mk hb
                                  clear R1
                                  have R1 := Aside0.mk ho
                                  clear ho hb hg hat
                                  refine hK.out _ _ trivial (fun hHeld => ?_)
                                  clear hK K
                                  refine norm_ (a' := ?_) ?_ ?_
                                  rotate_left
                                  · show Act.put _ (some 66) _ = _
                                    simp only [Act.put, List.setIfInBounds_toArray, List.set_cons_zero, List.set_cons_succ, i64_w, i32_w]
                                    rfl
                                  exact norm_ (by first | (simp only [putAll, Act.put, List.setIfInBounds_toArray, List.set_cons_zero, List.set_cons_succ]; done) | (simp only [putAll, Act.put, List.setIfInBounds_toArray, List.set_cons_zero, List.set_cons_succ]; rfl)) (hJ4_6 (v4, A6, c6) _ ⟨HQc.out, R1.out⟩)
                                · skip
                                  refine Kd.R_lit_step (Kd.int .u8) (w0 := w7) w7.heap.size 5 ?hg (N := 70) ?hd (xs := ([] : List Int)) (inner := []) (ok := fun _ => True) (okp := fun _ => True) ?hr ?hp (fun _ hk => hk) trivial HQc.out HQc.out.size (by simp) ?_; (case hd => rfl); (case hg => rfl); (case hr => first | (go_simp; done) | (go_simp; rfl)); (case hp => exact (Reps.none _ _))
                                  intro v10 w5 ho hb hg hat
                                  clear HQc
                                  have HQc := Aside0.mk hb
                                  have S12 := Aside0.mk (ne_of_hat (Kd.R_lt R1.out) hat)
                                  have n1_ := Aside0.mk (Kd.R_below R1.out (below_of_none hg))
                                  clear R1
                                  have R1 := n1_
                                  clear n1_
                                  have R2 := Aside0.mk ho
                                  clear ho hb hg hat
                                  refine hK.out _ _ trivial (fun hHeld => ?_)
                                  clear hK K
                                  refine norm_ (a' := ?_) ?_ ?_
                                  rotate_left
                                  · show Act.put _ (some 70) _ = _
                                    simp only [Act.put, List.setIfInBounds_toArray, List.set_cons_zero, List.set_cons_succ, i64_w, i32_w]
                                    rfl
                                  exact norm_ (by first | (simp only [putAll, Act.put, List.setIfInBounds_toArray, List.set_cons_zero, List.set_cons_succ]; done) | (simp only [putAll, Act.put, List.setIfInBounds_toArray, List.set_cons_zero, List.set_cons_succ]; rfl)) (hJ4_10 (v4, v10) _ ⟨HQc.out, R1.out, R2.out, S12.out⟩)
                                · skip
                                  refine Kd.R_lit_step (Kd.int .u8) (w0 := w7) w7.heap.size 5 ?hg (N := 73) ?hd (xs := ([0] : List Int)) (inner := [.int .u8 0]) (ok := fun _ => True) (okp := fun _ => True) ?hr ?hp (fun _ hk => hk) trivial HQc.out HQc.out.size (by simp) ?_; (case hd => rfl); (case hg => rfl); (case hr => first | (go_simp; done) | (go_simp; rfl)); (case hp => exact (Reps.one (show Kd.M (Kd.int .u8) _ _ _ 0 [.int .u8 0] from rfl) (Reps.none _ _)))
                                  intro v13 w5 ho hb hg hat
                                  clear HQc
                                  have HQc := Aside0.mk hb
                                  have S13 := Aside0.mk (ne_of_hat (Kd.R_lt R1.out) hat)
                                  have n1_ := Aside0.mk (Kd.R_below R1.out (below_of_none hg))
                                  clear R1
                                  have R1 := n1_
                                  clear n1_
                                  obtain ⟨A13, c13, e13⟩ : ∃ (A : Option Addr) (c : Nat), v13 = .slice A 1 c := Kd.R_slice ho
                                  subst e13
                                  have R3 := Aside0.mk ho
                                  clear ho hb hg hat
                                  refine hK.out _ _ trivial (fun hHeld => ?_)
                                  clear hK K
                                  refine norm_ (a' := ?_) ?_ ?_
                                  rotate_left
                                  · show Act.put _ (some 73) _ = _
                                    simp only [Act.put, List.setIfInBounds_toArray, List.set_cons_zero, List.set_cons_succ, i64_w, i32_w]
                                    rfl
                                  exact norm_ (by first | (simp only [putAll, Act.put, List.setIfInBounds_toArray, List.set_cons_zero, List.set_cons_succ]; done) | (simp only [putAll, Act.put, List.setIfInBounds_toArray, List.set_cons_zero, List.set_cons_succ]; rfl)) (hJ4_13 (v4, A13, c13) _ ⟨HQc.out, R1.out, R3.out, S13.out⟩)
                            · skip
                              rintro ⟨v10, A13, c13⟩ w8 ⟨xHQc, xR2, xR3, xS23⟩
                              clear HQc
                              have HQc := Aside0.mk xHQc
                              have R2 := Aside0.mk xR2
                              have R3 := Aside0.mk xR3
                              have S23 := Aside0.mk xS23
                              clear xHQc xR2 xR3 xS23
                              dsimp only at HQc R2 R3 S23
                              have hHeld : True := trivial
                              refine norm_ (a' := ?_) ?_ ?_
                              rotate_left
                              · simp only [putAll, Act.put, List.setIfInBounds_toArray, List.set_cons_zero, List.set_cons_succ]
                                rfl
                              refine one_ (i := 4) (N := some 64) #[true, true, true, true, true, true, false, true, false, true, true, true, false, true, false, false, false] rfl rfl (by kernel_rfl) (by decide) (fun K hK => ?_)
                              refine Kd.R_lit_step (Kd.int .u8) (w0 := w7) w7.heap.size 5 ?hg (N := 64) ?hd (xs := ([] : List Int)) (inner := []) (ok := fun _ => True) (okp := fun _ => True) ?hr ?hp (fun _ hk => hk) trivial HQc.out HQc.out.size (by simp) ?_; (case hd => rfl); (case hg => rfl); (case hr => first | (go_simp; done) | (go_simp; rfl)); (case hp => exact (Reps.none _ _))
                              intro v4 w5 ho hb hg hat
                              clear HQc
                              have HQc := Aside0.mk hb
                              have S12 := Aside0.mk (ne_of_hat (Kd.R_lt R2.out) hat).symm
                              have S13 := Aside0.mk (ne_of_hat (Kd.R_lt R3.out) hat).symm
                              have n1_ := Aside0.mk (Kd.R_below R2.out (below_of_none hg))
                              clear R2
                              have R2 := n1_
                              clear n1_
                              have n1_ := Aside0.mk (Kd.R_below R3.out (below_of_none hg))
                              clear R3
                              have R3 := n1_
                              clear n1_
                              have R1 := Aside0.mk ho
                              clear ho hb hg hat
                              refine hK.out _ _ trivial (fun hHeld => ?_)
                              clear hK K
                              refine norm_ (a' := ?_) ?_ ?_
                              rotate_left
                              · show Act.put _ (some 64) _ = _
                                simp only [Act.put, List.setIfInBounds_toArray, List.set_cons_zero, List.set_cons_succ, i64_w, i32_w]
                                rfl
                              exact norm_ (by first | (simp only [putAll, Act.put, List.setIfInBounds_toArray, List.set_cons_zero, List.set_cons_succ]; done) | (simp only [putAll, Act.put, List.setIfInBounds_toArray, List.set_cons_zero, List.set_cons_succ]; rfl)) (hJ4_10_13 (v4, v10, A13, c13) _ ⟨HQc.out, R1.out, R2.out, R3.out, S12.out, S13.out, S23.out⟩)
                          · skip
                            rintro ⟨v4, A13, c13⟩ w8 ⟨xHQc, xR1, xR3, xS13⟩
                            clear HQc
                            have HQc := Aside0.mk xHQc
                            have R1 := Aside0.mk xR1
                            have R3 := Aside0.mk xR3
                            have S13 := Aside0.mk xS13
                            clear xHQc xR1 xR3 xS13
                            dsimp only at HQc R1 R3 S13
                            have hHeld : True := trivial
                            refine norm_ (a' := ?_) ?_ ?_
                            rotate_left
                            · simp only [putAll, Act.put, List.setIfInBounds_toArray, List.set_cons_zero, List.set_cons_succ]
                              rfl
                            refine two_ (i := 6) (j := 10) (Ni := some 66) (Nj := some 70) #[true, true, true, true, true, true, true, true, false, true, false, true, false, true, false, false, false] #[true, true, true, true, true, true, false, true, false, true, true, true, false, true, false, false, false] rfl rfl rfl rfl (by kernel_rfl) (by decide) (by decide) (fun K hK => ?_) (fun K hK => ?_)
                            · skip
                              refine Kd.R_append_rows_step (Kd.int .u8) (w0 := w7) w7.heap.size (by rfl) (.tmp 64) (.tmp 65) 23 5 (.int .u8 0) 1 rfl Try.underlying23 info5 rfl (by decide) (by omega) v4 [] b Ab b.length cb (fun _ => True) (fun _ => False) rfl rfl R1.out (HRB.out.below HQc.out).rd (fun _ _ h => h) (fun _ h => h.elim) (fun _ _ => trivial) HQc.out HQc.out.size (by have := HLB.out; simp only [List.length_nil]; omega) ?_
                              intro u6 w6 ho hb hg hat
                              rw [List.nil_append] at ho
                              obtain ⟨A6, c6, ev⟩ : ∃ (A : Option Addr) (c : Nat), u6 = .slice A b.length c := Kd.R_slice ho
                              subst ev
                              clear HQc
                              have HQc := Aside0.mk hb
                              have n2_ := Aside0.mk (ne_of_app (Kd.R_lt R3.out) S13.out hat)
                              have n1_ := Aside0.mk (Kd.R_grown1 R3.out rfl hg S13.out)
                              clear R3
                              have R3 := n1_
                              clear n1_
                              clear S13
                              have S13 := n2_
                              clear n2_
                              clear R1
                              have R1 := Aside0.mk ho
                              clear ho hb hg hat
                              refine hK.out _ _ trivial (fun hHeld => ?_)
                              clear hK K
                              refine norm_ (a' := ?_) ?_ ?_
                              rotate_left
                              · show Act.put _ (some 66) _ = _
                                simp only [Act.put, List.setIfInBounds_toArray, List.set_cons_zero, List.set_cons_succ, i64_w, i32_w]
                                rfl
                              exact norm_ (by first | (simp only [putAll, Act.put, List.setIfInBounds_toArray, List.set_cons_zero, List.set_cons_succ]; done) | (simp only [putAll, Act.put, List.setIfInBounds_toArray, List.set_cons_zero, List.set_cons_succ]; rfl)) (hJ4_6_13 (v4, A6, c6, A13, c13) _ ⟨HQc.out, R1.out, R3.out, S13.out⟩)
                            · skip
                              refine Kd.R_lit_step (Kd.int .u8) (w0 := w7) w7.heap.size 5 ?hg (N := 70) ?hd (xs := ([] : List Int)) (inner := []) (ok := fun _ => True) (okp := fun _ => True) ?hr ?hp (fun _ hk => hk) trivial HQc.out HQc.out.size (by simp) ?_; (case hd => rfl); (case hg => rfl); (case hr => first | (go_simp; done) | (go_simp; rfl)); (case hp => exact (Reps.none _ _))
                              intro v10 w5 ho hb hg hat
                              clear HQc
                              have HQc := Aside0.mk hb
                              have S12 := Aside0.mk (ne_of_hat (Kd.R_lt R1.out) hat)
                              have S23 := Aside0.mk (ne_of_hat (Kd.R_lt R3.out) hat).symm
                              have n1_ := Aside0.mk (Kd.R_below R1.out (below_of_none hg))
                              clear R1
                              have R1 := n1_
                              clear n1_
                              have n1_ := Aside0.mk (Kd.R_below R3.out (below_of_none hg))
                              clear R3
                              have R3 := n1_
                              clear n1_
                              have R2 := Aside0.mk ho
                              clear ho hb hg hat
                              refine hK.out _ _ trivial (fun hHeld => ?_)
                              clear hK K
                              refine norm_ (a' := ?_) ?_ ?_
                              rotate_left
                              · show Act.put _ (some 70) _ = _
                                simp only [Act.put, List.setIfInBounds_toArray, List.set_cons_zero, List.set_cons_succ, i64_w, i32_w]
                                rfl
                              exact norm_ (by first | (simp only [putAll, Act.put, List.setIfInBounds_toArray, List.set_cons_zero, List.set_cons_succ]; done) | (simp only [putAll, Act.put, List.setIfInBounds_toArray, List.set_cons_zero, List.set_cons_succ]; rfl)) (hJ4_10_13 (v4, v10, A13, c13) _ ⟨HQc.out, R1.out, R2.out, R3.out, S12.out, S13.out, S23.out⟩)
                        · skip
                          rintro ⟨v4, v10⟩ w8 ⟨xHQc, xR1, xR2, xS12⟩
                          clear HQc
                          have HQc := Aside0.mk xHQc
                          have R1 := Aside0.mk xR1
                          have R2 := Aside0.mk xR2
                          have S12 := Aside0.mk xS12
                          clear xHQc xR1 xR2 xS12
                          dsimp only at HQc R1 R2 S12
                          have hHeld : True := trivial
                          refine norm_ (a' := ?_) ?_ ?_
                          rotate_left
                          · simp only [putAll, Act.put, List.setIfInBounds_toArray, List.set_cons_zero, List.set_cons_succ]
                            rfl
                          refine two_ (i := 6) (j := 13) (Ni := some 66) (Nj := some 73) #[true, true, true, true, true, true, true, true, false, true, true, true, false, false, false, false, false] #[true, true, true, true, true, true, false, true, false, true, true, true, false, true, false, false, false] rfl rfl rfl rfl (by kernel_rfl) (by decide) (by decide) (fun K hK => ?_) (fun K hK => ?_)
                          · skip
                            refine Kd.R_append_rows_step (Kd.int .u8) (w0 := w7) w7.heap.size (by rfl) (.tmp 64) (.tmp 65) 23 5 (.int .u8 0) 1 rfl Try.underlying23 info5 rfl (by decide) (by omega) v4 [] b Ab b.length cb (fun _ => True) (fun _ => False) rfl rfl R1.out (HRB.out.below HQc.out).rd (fun _ _ h => h) (fun _ h => h.elim) (fun _ _ => trivial) HQc.out HQc.out.size (by have := HLB.out; simp only [List.length_nil]; omega) ?_
                            intro u6 w6 ho hb hg hat
                            rw [List.nil_append] at ho
                            obtain ⟨A6, c6, ev⟩ : ∃ (A : Option Addr) (c : Nat), u6 = .slice A b.length c := Kd.R_slice ho
                            subst ev
                            clear HQc
                            have HQc := Aside0.mk hb
                            have n2_ := Aside0.mk (ne_of_app (Kd.R_lt R2.out) S12.out hat)
                            have n1_ := Aside0.mk (Kd.R_grown1 R2.out rfl hg S12.out)
                            clear R2
                            have R2 := n1_
                            clear n1_
                            clear S12
                            have S12 := n2_
                            clear n2_
                            clear R1
                            have R1 := Aside0.mk ho
                            clear ho hb hg hat
                            refine hK.out _ _ trivial (fun hHeld => ?_)
                            clear hK K
                            refine norm_ (a' := ?_) ?_ ?_
                            rotate_left
                            · show Act.put _ (some 66) _ = _
                              simp only [Act.put, List.setIfInBounds_toArray, List.set_cons_zero, List.set_cons_succ, i64_w, i32_w]
                              rfl
                            exact norm_ (by first | (simp only [putAll, Act.put, List.setIfInBounds_toArray, List.set_cons_zero, List.set_cons_succ]; done) | (simp only [putAll, Act.put, List.setIfInBounds_toArray, List.set_cons_zero, List.set_cons_succ]; rfl)) (hJ4_6_10 (v4, A6, c6, v10) _ ⟨HQc.out, R1.out, R2.out, S12.out⟩)
                          · skip
                            refine Kd.R_lit_step (Kd.int .u8) (w0 := w7) w7.heap.size 5 ?hg (N := 73) ?hd (xs := ([0] : List Int)) (inner := [.int .u8 0]) (ok := fun _ => True) (okp := fun _ => True) ?hr ?hp (fun _ hk => hk) trivial HQc.out HQc.out.size (by simp) ?_; (case hd => rfl); (case hg => rfl); (case hr => first | (go_simp; done) | (go_simp; rfl)); (case hp => exact (Reps.one (show Kd.M (Kd.int .u8) _ _ _ 0 [.int .u8 0] from rfl) (Reps.none _ _)))
                            intro v13 w5 ho hb hg hat
                            clear HQc
                            have HQc := Aside0.mk hb
                            have S13 := Aside0.mk (ne_of_hat (Kd.R_lt R1.out) hat)
                            have S23 := Aside0.mk (ne_of_hat (Kd.R_lt R2.out) hat)
                            have n1_ := Aside0.mk (Kd.R_below R1.out (below_of_none hg))
                            clear R1
                            have R1 := n1_
                            clear n1_
                            have n1_ := Aside0.mk (Kd.R_below R2.out (below_of_none hg))
                            clear R2
                            have R2 := n1_
                            clear n1_
                            obtain ⟨A13, c13, e13⟩ : ∃ (A : Option Addr) (c : Nat), v13 = .slice A 1 c := Kd.R_slice ho
                            subst e13
                            have R3 := Aside0.mk ho
                            clear ho hb hg hat
                            refine hK.out _ _ trivial (fun hHeld => ?_)
                            clear hK K
                            refine norm_ (a' := ?_) ?_ ?_
                            rotate_left
                            · show Act.put _ (some 73) _ = _
                              simp only [Act.put, List.setIfInBounds_toArray, List.set_cons_zero, List.set_cons_succ, i64_w, i32_w]
                              rfl
                            exact norm_ (by first | (simp only [putAll, Act.put, List.setIfInBounds_toArray, List.set_cons_zero, List.set_cons_succ]; done) | (simp only [putAll, Act.put, List.setIfInBounds_toArray, List.set_cons_zero, List.set_cons_succ]; rfl)) (hJ4_10_13 (v4, v10, A13, c13) _ ⟨HQc.out, R1.out, R2.out, R3.out, S12.out, S13.out, S23.out⟩)
                      · skip
                        rintro ⟨v4, A6, c6⟩ w8 ⟨xHQc, xR1⟩
                        clear HQc
                        have HQc := Aside0.mk xHQc
                        have R1 := Aside0.mk xR1
                        clear xHQc xR1
                        dsimp only at HQc R1
                        have hHeld : True := trivial
                        refine norm_ (a' := ?_) ?_ ?_
                        rotate_left
                        · simp only [putAll, Act.put, List.setIfInBounds_toArray, List.set_cons_zero, List.set_cons_succ]
                          rfl
                        refine three_ (i := 8) (j := 10) (k := 13) (Ni := some 68) (Nj := some 70) (Nk := some 73) #[true, true, true, true, true, true, true, true, true, true, false, true, false, false, false, false, false] #[true, true, true, true, true, true, true, true, false, true, true, true, false, false, false, false, false] #[true, true, true, true, true, true, true, true, false, true, false, true, false, true, false, false, false] rfl rfl rfl rfl rfl rfl (by kernel_rfl) (by decide) (by decide) (by decide) (fun K hK => ?_) (fun K hK => ?_) (fun K hK => ?_)
                        · skip
                          refine Kd.R_append_rows_step (Kd.int .u8) (w0 := w7) w7.heap.size (by rfl) (.tmp 66) (.tmp 67) 23 5 (.int .u8 0) 1 rfl Try.underlying23 info5 rfl (by decide) (by omega) (.slice A6 b.length c6) b l6 a6 l6.length cap6 (fun _ => True) (fun _ => False) rfl rfl R1.out (HR6.out.below HQc.out).rd (fun _ _ h => h) (fun _ h => h.elim) (fun _ _ => trivial) HQc.out HQc.out.size (by have := HLB.out; have := HL6.out; omega) ?_
                          intro u8 w6 ho hb hg hat
                          rw [H8.out] at ho
                          obtain ⟨A8, c8, ev⟩ : ∃ (A : Option Addr) (c : Nat), u8 = .slice A L8.length c := Kd.R_slice ho
                          subst ev
                          clear HQc
                          have HQc := Aside0.mk hb
                          clear R1
                          have R1 := Aside0.mk ho
                          clear ho hb hg hat
                          refine hK.out _ _ trivial (fun hHeld => ?_)
                          clear hK K
                          refine norm_ (a' := ?_) ?_ ?_
                          rotate_left
                          · show Act.put _ (some 68) _ = _
                            simp only [Act.put, List.setIfInBounds_toArray, List.set_cons_zero, List.set_cons_succ, i64_w, i32_w]
                            rfl
                          exact norm_ (by first | (simp only [putAll, Act.put, List.setIfInBounds_toArray, List.set_cons_zero, List.set_cons_succ]; done) | (simp only [putAll, Act.put, List.setIfInBounds_toArray, List.set_cons_zero, List.set_cons_succ]; rfl)) (hJ4_6_8 (v4, A6, c6, A8, c8) _ ⟨HQc.out, R1.out⟩)
                        · skip
                          refine Kd.R_lit_step (Kd.int .u8) (w0 := w7) w7.heap.size 5 ?hg (N := 70) ?hd (xs := ([] : List Int)) (inner := []) (ok := fun _ => True) (okp := fun _ => True) ?hr ?hp (fun _ hk => hk) trivial HQc.out HQc.out.size (by simp) ?_; (case hd => rfl); (case hg => rfl); (case hr => first | (go_simp; done) | (go_simp; rfl)); (case hp => exact (Reps.none _ _))
                          intro v10 w5 ho hb hg hat
                          clear HQc
                          have HQc := Aside0.mk hb
                          have S12 := Aside0.mk (ne_of_hat (Kd.R_lt R1.out) hat)
                          have n1_ := Aside0.mk (Kd.R_below R1.out (below_of_none hg))
                          clear R1
                          have R1 := n1_
                          clear n1_
                          have R2 := Aside0.mk ho
                          clear ho hb hg hat
                          refine hK.out _ _ trivial (fun hHeld => ?_)
                          clear hK K
                          refine norm_ (a' := ?_) ?_ ?_
                          rotate_left
                          · show Act.put _ (some 70) _ = _
                            simp only [Act.put, List.setIfInBounds_toArray, List.set_cons_zero, List.set_cons_succ, i64_w, i32_w]
                            rfl
                          exact norm_ (by first | (simp only [putAll, Act.put, List.setIfInBounds_toArray, List.set_cons_zero, List.set_cons_succ]; done) | (simp only [putAll, Act.put, List.setIfInBounds_toArray, List.set_cons_zero, List.set_cons_succ]; rfl)) (hJ4_6_10 (v4, A6, c6, v10) _ ⟨HQc.out, R1.out, R2.out, S12.out⟩)
                        · skip
                          refine Kd.R_lit_step (Kd.int .u8) (w0 := w7) w7.heap.size 5 ?hg (N := 73) ?hd (xs := ([0] : List Int)) (inner := [.int .u8 0]) (ok := fun _ => True) (okp := fun _ => True) ?hr ?hp (fun _ hk => hk) trivial HQc.out HQc.out.size (by simp) ?_; (case hd => rfl); (case hg => rfl); (case hr => first | (go_simp; done) | (go_simp; rfl)); (case hp => exact (Reps.one (show Kd.M (Kd.int .u8) _ _ _ 0 [.int .u8 0] from rfl) (Reps.none _ _)))
                          intro v13 w5 ho hb hg hat
                          clear HQc
                          have HQc := Aside0.mk hb
                          have S13 := Aside0.mk (ne_of_hat (Kd.R_lt R1.out) hat)
                          have n1_ := Aside0.mk (Kd.R_below R1.out (below_of_none hg))
                          clear R1
                          have R1 := n1_
                          clear n1_
                          obtain ⟨A13, c13, e13⟩ : ∃ (A : Option Addr) (c : Nat), v13 = .slice A 1 c := Kd.R_slice ho
                          subst e13
                          have R3 := Aside0.mk ho
                          clear ho hb hg hat
                          refine hK.out _ _ trivial (fun hHeld => ?_)
                          clear hK K
                          refine norm_ (a' := ?_) ?_ ?_
                          rotate_left
                          · show Act.put _ (some 73) _ = _
                            simp only [Act.put, List.setIfInBounds_toArray, List.set_cons_zero, List.set_cons_succ, i64_w, i32_w]
                            rfl
                          exact norm_ (by first | (simp only [putAll, Act.put, List.setIfInBounds_toArray, List.set_cons_zero, List.set_cons_succ]; done) | (simp only [putAll, Act.put, List.setIfInBounds_toArray, List.set_cons_zero, List.set_cons_succ]; rfl)) (hJ4_6_13 (v4, A6, c6, A13, c13) _ ⟨HQc.out, R1.out, R3.out, S13.out⟩)
                    · skip
                      rintro ⟨v4, v10, A13, c13⟩ w8 ⟨xHQc, xR1, xR2, xR3, xS12, xS13, xS23⟩
                      clear HQc
                      have HQc := Aside0.mk xHQc
                      have R1 := Aside0.mk xR1
                      have R2 := Aside0.mk xR2
                      have R3 := Aside0.mk xR3
                      have S12 := Aside0.mk xS12
                      have S13 := Aside0.mk xS13
                      have S23 := Aside0.mk xS23
                      clear xHQc xR1 xR2 xR3 xS12 xS13 xS23
                      dsimp only at HQc R1 R2 R3 S12 S13 S23
                      have hHeld : True := trivial
                      refine norm_ (a' := ?_) ?_ ?_
                      rotate_left
                      · simp only [putAll, Act.put, List.setIfInBounds_toArray, List.set_cons_zero, List.set_cons_succ]
                        rfl
                      refine one_ (i := 6) (N := some 66) #[true, true, true, true, true, true, true, true, false, true, true, true, false, true, false, false, false] rfl rfl (by kernel_rfl) (by decide) (fun K hK => ?_)
                      refine Kd.R_append_rows_step (Kd.int .u8) (w0 := w7) w7.heap.size (by rfl) (.tmp 64) (.tmp 65) 23 5 (.int .u8 0) 1 rfl Try.underlying23 info5 rfl (by decide) (by omega) v4 [] b Ab b.length cb (fun _ => True) (fun _ => False) rfl rfl R1.out (HRB.out.below HQc.out).rd (fun _ _ h => h) (fun _ h => h.elim) (fun _ _ => trivial) HQc.out HQc.out.size (by have := HLB.out; simp only [List.length_nil]; omega) ?_
                      intro u6 w6 ho hb hg hat
                      rw [List.nil_append] at ho
                      obtain ⟨A6, c6, ev⟩ : ∃ (A : Option Addr) (c : Nat), u6 = .slice A b.length c := Kd.R_slice ho
                      subst ev
                      clear HQc
                      have HQc := Aside0.mk hb
                      have n2_ := Aside0.mk (ne_of_app (Kd.R_lt R2.out) S12.out hat)
                      have n1_ := Aside0.mk (Kd.R_grown1 R2.out rfl hg S12.out)
                      clear R2
                      have R2 := n1_
                      clear n1_
                      clear S12
                      have S12 := n2_
                      clear n2_
                      have n2_ := Aside0.mk (ne_of_app (Kd.R_lt R3.out) S13.out hat)
                      have n1_ := Aside0.mk (Kd.R_grown1 R3.out rfl hg S13.out)
                      clear R3
                      have R3 := n1_
                      clear n1_
                      clear S13
                      have S13 := n2_
                      clear n2_
                      clear R1
                      have R1 := Aside0.mk ho
                      clear ho hb hg hat
                      refine hK.out _ _ trivial (fun hHeld => ?_)
                      clear hK K
                      refine norm_ (a' := ?_) ?_ ?_
                      rotate_left
                      · show Act.put _ (some 66) _ = _
                        simp only [Act.put, List.setIfInBounds_toArray, List.set_cons_zero, List.set_cons_succ, i64_w, i32_w]
                        rfl
                      exact norm_ (by first | (simp only [putAll, Act.put, List.setIfInBounds_toArray, List.set_cons_zero, List.set_cons_succ]; done) | (simp only [putAll, Act.put, List.setIfInBounds_toArray, List.set_cons_zero, List.set_cons_succ]; rfl)) (hJ4_6_10_13 (v4, A6, c6, v10, A13, c13) _ ⟨HQc.out, R1.out, R2.out, R3.out, S12.out, S13.out, S23.out⟩)
                  · skip
                    rintro ⟨v4, A6, c6, A13, c13⟩ w8 ⟨xHQc, xR1, xR3, xS13⟩
                    clear HQc
                    have HQc := Aside0.mk xHQc
                    have R1 := Aside0.mk xR1
                    have R3 := Aside0.mk xR3
                    have S13 := Aside0.mk xS13
                    clear xHQc xR1 xR3 xS13
                    dsimp only at HQc R1 R3 S13
                    have hHeld : True := trivial
                    refine norm_ (a' := ?_) ?_ ?_
                    rotate_left
                    · simp only [putAll, Act.put, List.setIfInBounds_toArray, List.set_cons_zero, List.set_cons_succ]
                      rfl
                    refine two_ (i := 8) (j := 10) (Ni := some 68) (Nj := some 70) #[true, true, true, true, true, true, true, true, true, true, false, true, false, true, false, false, false] #[true, true, true, true, true, true, true, true, false, true, true, true, false, true, false, false, false] rfl rfl rfl rfl (by kernel_rfl) (by decide) (by decide) (fun K hK => ?_) (fun K hK => ?_)
                    · skip
                      refine Kd.R_append_rows_step (Kd.int .u8) (w0 := w7) w7.heap.size (by rfl) (.tmp 66) (.tmp 67) 23 5 (.int .u8 0) 1 rfl Try.underlying23 info5 rfl (by decide) (by omega) (.slice A6 b.length c6) b l6 a6 l6.length cap6 (fun _ => True) (fun _ => False) rfl rfl R1.out (HR6.out.below HQc.out).rd (fun _ _ h => h) (fun _ h => h.elim) (fun _ _ => trivial) HQc.out HQc.out.size (by have := HLB.out; have := HL6.out; omega) ?_
                      intro u8 w6 ho hb hg hat
                      rw [H8.out] at ho
                      obtain ⟨A8, c8, ev⟩ : ∃ (A : Option Addr) (c : Nat), u8 = .slice A L8.length c := Kd.R_slice ho
                      subst ev
                      clear HQc
                      have HQc := Aside0.mk hb
                      have n2_ := Aside0.mk (ne_of_app (Kd.R_lt R3.out) S13.out hat)
                      have n1_ := Aside0.mk (Kd.R_grown1 R3.out rfl hg S13.out)
                      clear R3
                      have R3 := n1_
                      clear n1_
                      clear S13
                      have S13 := n2_
                      clear n2_
                      clear R1
                      have R1 := Aside0.mk ho
                      clear ho hb hg hat
                      refine hK.out _ _ trivial (fun hHeld => ?_)
                      clear hK K
                      refine norm_ (a' := ?_) ?_ ?_
                      rotate_left
                      · show Act.put _ (some 68) _ = _
                        simp only [Act.put, List.setIfInBounds_toArray, List.set_cons_zero, List.set_cons_succ, i64_w, i32_w]
                        rfl
                      exact norm_ (by first | (simp only [putAll, Act.put, List.setIfInBounds_toArray, List.set_cons_zero, List.set_cons_succ]; done) | (simp only [putAll, Act.put, List.setIfInBounds_toArray, List.set_cons_zero, List.set_cons_succ]; rfl)) (hJ4_6_8_13 (v4, A6, c6, A8, c8, A13, c13) _ ⟨HQc.out, R1.out, R3.out, S13.out⟩)
                    · skip
                      refine Kd.R_lit_step (Kd.int .u8) (w0 := w7) w7.heap.size 5 ?hg (N := 70) ?hd (xs := ([] : List Int)) (inner := []) (ok := fun _ => True) (okp := fun _ => True) ?hr ?hp (fun _ hk => hk) trivial HQc.out HQc.out.size (by simp) ?_; (case hd => rfl); (case hg => rfl); (case hr => first | (go_simp; done) | (go_simp; rfl)); (case hp => exact (Reps.none _ _))
                      intro v10 w5 ho hb hg hat
                      clear HQc
                      have HQc := Aside0.mk hb
                      have S12 := Aside0.mk (ne_of_hat (Kd.R_lt R1.out) hat)
                      have S23 := Aside0.mk (ne_of_hat (Kd.R_lt R3.out) hat).symm
                      have n1_ := Aside0.mk (Kd.R_below R1.out (below_of_none hg))
                      clear R1
                      have R1 := n1_
                      clear n1_
                      have n1_ := Aside0.mk (Kd.R_below R3.out (below_of_none hg))
                      clear R3
                      have R3 := n1_
                      clear n1_
                      have R2 := Aside0.mk ho
                      clear ho hb hg hat
                      refine hK.out _ _ trivial (fun hHeld => ?_)
                      clear hK K
                      refine norm_ (a' := ?_) ?_ ?_
                      rotate_left
                      · show Act.put _ (some 70) _ = _
                        simp only [Act.put, List.setIfInBounds_toArray, List.set_cons_zero, List.set_cons_succ, i64_w, i32_w]
                        rfl
                      exact norm_ (by first | (simp only [putAll, Act.put, List.setIfInBounds_toArray, List.set_cons_zero, List.set_cons_succ]; done) | (simp only [putAll, Act.put, List.setIfInBounds_toArray, List.set_cons_zero, List.set_cons_succ]; rfl)) (hJ4_6_10_13 (v4, A6, c6, v10, A13, c13) _ ⟨HQc.out, R1.out, R2.out, R3.out, S12.out, S13.out, S23.out⟩)
                · skip
                  rintro ⟨v4, A6, c6, v10⟩ w8 ⟨xHQc, xR1, xR2, xS12⟩
                  clear HQc
                  have HQc := Aside0.mk xHQc
                  have R1 := Aside0.mk xR1
                  have R2 := Aside0.mk xR2
                  have S12 := Aside0.mk xS12
                  clear xHQc xR1 xR2 xS12
                  dsimp only at HQc R1 R2 S12
                  have hHeld : True := trivial
                  refine norm_ (a' := ?_) ?_ ?_
                  rotate_left
                  · simp only [putAll, Act.put, List.setIfInBounds_toArray, List.set_cons_zero, List.set_cons_succ]
                    rfl
                  refine two_ (i := 8) (j := 13) (Ni := some 68) (Nj := some 73) #[true, true, true, true, true, true, true, true, true, true, true, true, false, false, false, false, false] #[true, true, true, true, true, true, true, true, false, true, true, true, false, true, false, false, false] rfl rfl rfl rfl (by kernel_rfl) (by decide) (by decide) (fun K hK => ?_) (fun K hK => ?_)
                  · skip
                    refine Kd.R_append_rows_step (Kd.int .u8) (w0 := w7) w7.heap.size (by rfl) (.tmp 66) (.tmp 67) 23 5 (.int .u8 0) 1 rfl Try.underlying23 info5 rfl (by decide) (by omega) (.slice A6 b.length c6) b l6 a6 l6.length cap6 (fun _ => True) (fun _ => False) rfl rfl R1.out (HR6.out.below HQc.out).rd (fun _ _ h => h) (fun _ h => h.elim) (fun _ _ => trivial) HQc.out HQc.out.size (by have := HLB.out; have := HL6.out; omega) ?_
                    intro u8 w6 ho hb hg hat
                    rw [H8.out] at ho
                    obtain ⟨A8, c8, ev⟩ : ∃ (A : Option Addr) (c : Nat), u8 = .slice A L8.length c := Kd.R_slice ho
                    subst ev
                    clear HQc
                    have HQc := Aside0.mk hb
                    have n2_ := Aside0.mk (ne_of_app (Kd.R_lt R2.out) S12.out hat)
                    have n1_ := Aside0.mk (Kd.R_grown1 R2.out rfl hg S12.out)
                    clear R2
                    have R2 := n1_
                    clear n1_
                    clear S12
                    have S12 := n2_
                    clear n2_
                    clear R1
                    have R1 := Aside0.mk ho
                    clear ho hb hg hat
                    refine hK.out _ _ trivial (fun hHeld => ?_)
                    clear hK K
                    refine norm_ (a' := ?_) ?_ ?_
                    rotate_left
                    · show Act.put _ (some 68) _ = _
                      simp only [Act.put, List.setIfInBounds_toArray, List.set_cons_zero, List.set_cons_succ, i64_w, i32_w]
                      rfl
                    exact norm_ (by first | (simp only [putAll, Act.put, List.setIfInBounds_toArray, List.set_cons_zero, List.set_cons_succ]; done) | (simp only [putAll, Act.put, List.setIfInBounds_toArray, List.set_cons_zero, List.set_cons_succ]; rfl)) (hJ4_6_8_10 (v4, A6, c6, A8, c8, v10) _ ⟨HQc.out, R1.out, R2.out, S12.out⟩)
                  · skip
                    refine Kd.R_lit_step (Kd.int .u8) (w0 := w7) w7.heap.size 5 ?hg (N := 73) ?hd (xs := ([0] : List Int)) (inner := [.int .u8 0]) (ok := fun _ => True) (okp := fun _ => True) ?hr ?hp (fun _ hk => hk) trivial HQc.out HQc.out.size (by simp) ?_; (case hd => rfl); (case hg => rfl); (case hr => first | (go_simp; done) | (go_simp; rfl)); (case hp => exact (Reps.one (show Kd.M (Kd.int .u8) _ _ _ 0 [.int .u8 0] from rfl) (Reps.none _ _)))
                    intro v13 w5 ho hb hg hat
                    clear HQc
                    have HQc := Aside0.mk hb
                    have S13 := Aside0.mk (ne_of_hat (Kd.R_lt R1.out) hat)
                    have S23 := Aside0.mk (ne_of_hat (Kd.R_lt R2.out) hat)
                    have n1_ := Aside0.mk (Kd.R_below R1.out (below_of_none hg))
                    clear R1
                    have R1 := n1_
                    clear n1_
                    have n1_ := Aside0.mk (Kd.R_below R2.out (below_of_none hg))
                    clear R2
                    have R2 := n1_
                    clear n1_
                    obtain ⟨A13, c13, e13⟩ : ∃ (A : Option Addr) (c : Nat), v13 = .slice A 1 c := Kd.R_slice ho
                    subst e13
                    have R3 := Aside0.mk ho
                    clear ho hb hg hat
                    refine hK.out _ _ trivial (fun hHeld => ?_)
                    clear hK K
                    refine norm_ (a' := ?_) ?_ ?_
                    rotate_left
                    · show Act.put _ (some 73) _ = _
                      simp only [Act.put, List.setIfInBounds_toArray, List.set_cons_zero, List.set_cons_succ, i64_w, i32_w]
                      rfl
                    exact norm_ (by first | (simp only [putAll, Act.put, List.setIfInBounds_toArray, List.set_cons_zero, List.set_cons_succ]; done) | (simp only [putAll, Act.put, List.setIfInBounds_toArray, List.set_cons_zero, List.set_cons_succ]; rfl)) (hJ4_6_10_13 (v4, A6, c6, v10, A13, c13) _ ⟨HQc.out, R1.out, R2.out, R3.out, S12.out, S13.out, S23.out⟩)
              · skip
                rintro ⟨v4, A6, c6, A8, c8⟩ w8 ⟨xHQc, xR1⟩
                clear HQc
                have HQc := Aside0.mk xHQc
                have R1 := Aside0.mk xR1
                clear xHQc xR1
                dsimp only at HQc R1
                have hHeld : True := trivial
                refine norm_ (a' := ?_) ?_ ?_
                rotate_left
                · simp only [putAll, Act.put, List.setIfInBounds_toArray, List.set_cons_zero, List.set_cons_succ]
                  rfl
                refine two_ (i := 10) (j := 13) (Ni := some 70) (Nj := some 73) #[true, true, true, true, true, true, true, true, true, true, true, true, false, false, false, false, false] #[true, true, true, true, true, true, true, true, true, true, false, true, false, true, false, false, false] rfl rfl rfl rfl (by kernel_rfl) (by decide) (by decide) (fun K hK => ?_) (fun K hK => ?_)
                · skip
                  refine Kd.R_lit_step (Kd.int .u8) (w0 := w7) w7.heap.size 5 ?hg (N := 70) ?hd (xs := ([] : List Int)) (inner := []) (ok := fun _ => True) (okp := fun _ => True) ?hr ?hp (fun _ hk => hk) trivial HQc.out HQc.out.size (by simp) ?_; (case hd => rfl); (case hg => rfl); (case hr => first | (go_simp; done) | (go_simp; rfl)); (case hp => exact (Reps.none _ _))
                  intro v10 w5 ho hb hg hat
                  clear HQc
                  have HQc := Aside0.mk hb
                  have S12 := Aside0.mk (ne_of_hat (Kd.R_lt R1.out) hat)
                  have n1_ := Aside0.mk (Kd.R_below R1.out (below_of_none hg))
                  clear R1
                  have R1 := n1_
                  clear n1_
                  have R2 := Aside0.mk ho
                  clear ho hb hg hat
                  refine hK.out _ _ trivial (fun hHeld => ?_)
                  clear hK K
                  refine norm_ (a' := ?_) ?_ ?_
                  rotate_left
                  · show Act.put _ (some 70) _ = _
                    simp only [Act.put, List.setIfInBounds_toArray, List.set_cons_zero, List.set_cons_succ, i64_w, i32_w]
                    rfl
                  exact norm_ (by first | (simp only [putAll, Act.put, List.setIfInBounds_toArray, List.set_cons_zero, List.set_cons_succ]; done) | (simp only [putAll, Act.put, List.setIfInBounds_toArray, List.set_cons_zero, List.set_cons_succ]; rfl)) (hJ4_6_8_10 (v4, A6, c6, A8, c8, v10) _ ⟨HQc.out, R1.out, R2.out, S12.out⟩)
                · skip
                  refine Kd.R_lit_step (Kd.int .u8) (w0 := w7) w7.heap.size 5 ?hg (N := 73) ?hd (xs := ([0] : List Int)) (inner := [.int .u8 0]) (ok := fun _ => True) (okp := fun _ => True) ?hr ?hp (fun _ hk => hk) trivial HQc.out HQc.out.size (by simp) ?_; (case hd => rfl); (case hg => rfl); (case hr => first | (go_simp; done) | (go_simp; rfl)); (case hp => exact (Reps.one (show Kd.M (Kd.int .u8) _ _ _ 0 [.int .u8 0] from rfl) (Reps.none _ _)))
                  intro v13 w5 ho hb hg hat
                  clear HQc
                  have HQc := Aside0.mk hb
                  have S13 := Aside0.mk (ne_of_hat (Kd.R_lt R1.out) hat)
                  have n1_ := Aside0.mk (Kd.R_below R1.out (below_of_none hg))
                  clear R1
                  have R1 := n1_
                  clear n1_
                  obtain ⟨A13, c13, e13⟩ : ∃ (A : Option Addr) (c : Nat), v13 = .slice A 1 c := Kd.R_slice ho
                  subst e13
                  have R3 := Aside0.mk ho
                  clear ho hb hg hat
                  refine hK.out _ _ trivial (fun hHeld => ?_)
                  clear hK K
                  refine norm_ (a' := ?_) ?_ ?_
                  rotate_left
                  · show Act.put _ (some 73) _ = _
                    simp only [Act.put, List.setIfInBounds_toArray, List.set_cons_zero, List.set_cons_succ, i64_w, i32_w]
                    rfl
                  exact norm_ (by first | (simp only [putAll, Act.put, List.setIfInBounds_toArray, List.set_cons_zero, List.set_cons_succ]; done) | (simp only [putAll, Act.put, List.setIfInBounds_toArray, List.set_cons_zero, List.set_cons_succ]; rfl)) (hJ4_6_8_13 (v4, A6, c6, A8, c8, A13, c13) _ ⟨HQc.out, R1.out, R3.out, S13.out⟩)
            · skip
              rintro ⟨v4, A6, c6, v10, A13, c13⟩ w8 ⟨xHQc, xR1, xR2, xR3, xS12, xS13, xS23⟩
              clear HQc
              have HQc := Aside0.mk xHQc
              have R1 := Aside0.mk xR1
              have R2 := Aside0.mk xR2
              have R3 := Aside0.mk xR3
              have S12 := Aside0.mk xS12
              have S13 := Aside0.mk xS13
              have S23 := Aside0.mk xS23
              clear xHQc xR1 xR2 xR3 xS12 xS13 xS23
              dsimp only at HQc R1 R2 R3 S12 S13 S23
              have hHeld : True := trivial
              refine norm_ (a' := ?_) ?_ ?_
              rotate_left
              · simp only [putAll, Act.put, List.setIfInBounds_toArray, List.set_cons_zero, List.set_cons_succ]
                rfl
              refine one_ (i := 8) (N := some 68) #[true, true, true, true, true, true, true, true, true, true, true, true, false, true, false, false, false] rfl rfl (by kernel_rfl) (by decide) (fun K hK => ?_)
              refine Kd.R_append_rows_step (Kd.int .u8) (w0 := w7) w7.heap.size (by rfl) (.tmp 66) (.tmp 67) 23 5 (.int .u8 0) 1 rfl Try.underlying23 info5 rfl (by decide) (by omega) (.slice A6 b.length c6) b l6 a6 l6.length cap6 (fun _ => True) (fun _ => False) rfl rfl R1.out (HR6.out.below HQc.out).rd (fun _ _ h => h) (fun _ h => h.elim) (fun _ _ => trivial) HQc.out HQc.out.size (by have := HLB.out; have := HL6.out; omega) ?_
              intro u8 w6 ho hb hg hat
              rw [H8.out] at ho
              obtain ⟨A8, c8, ev⟩ : ∃ (A : Option Addr) (c : Nat), u8 = .slice A L8.length c := Kd.R_slice ho
              subst ev
              clear HQc
              have HQc := Aside0.mk hb
              have n2_ := Aside0.mk (ne_of_app (Kd.R_lt R2.out) S12.out hat)
              have n1_ := Aside0.mk (Kd.R_grown1 R2.out rfl hg S12.out)
              clear R2
              have R2 := n1_
              clear n1_
              clear S12
              have S12 := n2_
              clear n2_
              have n2_ := Aside0.mk (ne_of_app (Kd.R_lt R3.out) S13.out hat)
              have n1_ := Aside0.mk (Kd.R_grown1 R3.out rfl hg S13.out)
              clear R3
              have R3 := n1_
              clear n1_
              clear S13
              have S13 := n2_
              clear n2_
              clear R1
              have R1 := Aside0.mk ho
              clear ho hb hg hat
              refine hK.out _ _ trivial (fun hHeld => ?_)
              clear hK K
              refine norm_ (a' := ?_) ?_ ?_
              rotate_left
              · show Act.put _ (some 68) _ = _
                simp only [Act.put, List.setIfInBounds_toArray, List.set_cons_zero, List.set_cons_succ, i64_w, i32_w]
                rfl
              exact norm_ (by first | (simp only [putAll, Act.put, List.setIfInBounds_toArray, List.set_cons_zero, List.set_cons_succ]; done) | (simp only [putAll, Act.put, List.setIfInBounds_toArray, List.set_cons_zero, List.set_cons_succ]; rfl)) (hJ4_6_8_10_13 (v4, A6, c6, A8, c8, v10, A13, c13) _ ⟨HQc.out, R1.out, R2.out, R3.out, S12.out, S13.out, S23.out⟩)
          · skip
            rintro ⟨v4, A6, c6, A8, c8, A13, c13⟩ w8 ⟨xHQc, xR1, xR3, xS13⟩
            clear HQc
            have HQc := Aside0.mk xHQc
            have R1 := Aside0.mk xR1
            have R3 := Aside0.mk xR3
            have S13 := Aside0.mk xS13
            clear xHQc xR1 xR3 xS13
            dsimp only at HQc R1 R3 S13
            have hHeld : True := trivial
            refine norm_ (a' := ?_) ?_ ?_
            rotate_left
            · simp only [putAll, Act.put, List.setIfInBounds_toArray, List.set_cons_zero, List.set_cons_succ]
              rfl
            refine one_ (i := 10) (N := some 70) #[true, true, true, true, true, true, true, true, true, true, true, true, false, true, false, false, false] rfl rfl (by kernel_rfl) (by decide) (fun K hK => ?_)
            refine Kd.R_lit_step (Kd.int .u8) (w0 := w7) w7.heap.size 5 ?hg (N := 70) ?hd (xs := ([] : List Int)) (inner := []) (ok := fun _ => True) (okp := fun _ => True) ?hr ?hp (fun _ hk => hk) trivial HQc.out HQc.out.size (by simp) ?_; (case hd => rfl); (case hg => rfl); (case hr => first | (go_simp; done) | (go_simp; rfl)); (case hp => exact (Reps.none _ _))
            intro v10 w5 ho hb hg hat
            clear HQc
            have HQc := Aside0.mk hb
            have S12 := Aside0.mk (ne_of_hat (Kd.R_lt R1.out) hat)
            have S23 := Aside0.mk (ne_of_hat (Kd.R_lt R3.out) hat).symm
            have n1_ := Aside0.mk (Kd.R_below R1.out (below_of_none hg))
            clear R1
            have R1 := n1_
            clear n1_
            have n1_ := Aside0.mk (Kd.R_below R3.out (below_of_none hg))
            clear R3
            have R3 := n1_
            clear n1_
            have R2 := Aside0.mk ho
            clear ho hb hg hat
            refine hK.out _ _ trivial (fun hHeld => ?_)
            clear hK K
            refine norm_ (a' := ?_) ?_ ?_
            rotate_left
            · show Act.put _ (some 70) _ = _
              simp only [Act.put, List.setIfInBounds_toArray, List.set_cons_zero, List.set_cons_succ, i64_w, i32_w]
              rfl
            exact norm_ (by first | (simp only [putAll, Act.put, List.setIfInBounds_toArray, List.set_cons_zero, List.set_cons_succ]; done) | (simp only [putAll, Act.put, List.setIfInBounds_toArray, List.set_cons_zero, List.set_cons_succ]; rfl)) (hJ4_6_8_10_13 (v4, A6, c6, A8, c8, v10, A13, c13) _ ⟨HQc.out, R1.out, R2.out, R3.out, S12.out, S13.out, S23.out⟩)
        · skip
          rintro ⟨v4, A6, c6, A8, c8, v10⟩ w8 ⟨xHQc, xR1, xR2, xS12⟩
          clear HQc
          have HQc := Aside0.mk xHQc
          have R1 := Aside0.mk xR1
          have R2 := Aside0.mk xR2
          have S12 := Aside0.mk xS12
          clear xHQc xR1 xR2 xS12
          dsimp only at HQc R1 R2 S12
          have hHeld : True := trivial
          refine norm_ (a' := ?_) ?_ ?_
          rotate_left
          · simp only [putAll, Act.put, List.setIfInBounds_toArray, List.set_cons_zero, List.set_cons_succ]
            rfl
          refine two_ (i := 12) (j := 13) (Ni := some 72) (Nj := some 73) #[true, true, true, true, true, true, true, true, true, true, true, true, true, false, false, false, false] #[true, true, true, true, true, true, true, true, true, true, true, true, false, true, false, false, false] rfl rfl rfl rfl (by kernel_rfl) (by decide) (by decide) (fun K hK => ?_) (fun K hK => ?_)
          · skip
            refine Kd.R_append_rows_step (Kd.int .u8) (w0 := w7) w7.heap.size (by rfl) (.tmp 70) (.tmp 71) 23 5 (.int .u8 0) 1 rfl Try.underlying23 info5 rfl (by decide) (by omega) v10 [] X (some ⟨gx, 0, none⟩) b.length cx (fun _ => True) (fun _ => False) rfl rfl R2.out (by have h_ := (HRX.out.below HQc.out).rd; rw [HXL.out] at h_; exact h_) (fun _ _ h => h) (fun _ h => h.elim) (fun _ _ => trivial) HQc.out HQc.out.size (by have := HLB.out; simp only [List.length_nil]; omega) ?_
            intro u12 w6 ho hb hg hat
            rw [List.nil_append] at ho
            obtain ⟨A12, c12, ev⟩ : ∃ (A : Option Addr) (c : Nat), u12 = .slice A X.length c := Kd.R_slice ho
            subst ev
            clear HQc
            have HQc := Aside0.mk hb
            have n2_ := Aside0.mk ((ne_of_app (Kd.R_lt R1.out) S12.out.symm hat).symm)
            have n1_ := Aside0.mk (Kd.R_grown1 R1.out rfl hg S12.out.symm)
            clear R1
            have R1 := n1_
            clear n1_
            clear S12
            have S12 := n2_
            clear n2_
            clear R2
            have R2 := Aside0.mk ho
            clear ho hb hg hat
            refine hK.out _ _ trivial (fun hHeld => ?_)
            clear hK K
            refine norm_ (a' := ?_) ?_ ?_
            rotate_left
            · show Act.put _ (some 72) _ = _
              simp only [Act.put, List.setIfInBounds_toArray, List.set_cons_zero, List.set_cons_succ, i64_w, i32_w]
              rfl
            exact norm_ (by first | (simp only [putAll, Act.put, List.setIfInBounds_toArray, List.set_cons_zero, List.set_cons_succ]; done) | (simp only [putAll, Act.put, List.setIfInBounds_toArray, List.set_cons_zero, List.set_cons_succ]; rfl)) (hJ4_6_8_10_12 (v4, A6, c6, A8, c8, v10, A12, c12) _ ⟨HQc.out, R1.out, R2.out, S12.out⟩)
          · skip
            refine Kd.R_lit_step (Kd.int .u8) (w0 := w7) w7.heap.size 5 ?hg (N := 73) ?hd (xs := ([0] : List Int)) (inner := [.int .u8 0]) (ok := fun _ => True) (okp := fun _ => True) ?hr ?hp (fun _ hk => hk) trivial HQc.out HQc.out.size (by simp) ?_; (case hd => rfl); (case hg => rfl); (case hr => first | (go_simp; done) | (go_simp; rfl)); (case hp => exact (Reps.one (show Kd.M (Kd.int .u8) _ _ _ 0 [.int .u8 0] from rfl) (Reps.none _ _)))
            intro v13 w5 ho hb hg hat
            clear HQc
            have HQc := Aside0.mk hb
            have S13 := Aside0.mk (ne_of_hat (Kd.R_lt R1.out) hat)
            have S23 := Aside0.mk (ne_of_hat (Kd.R_lt R2.out) hat)
            have n1_ := Aside0.mk (Kd.R_below R1.out (below_of_none hg))
            clear R1
            have R1 := n1_
            clear n1_
            have n1_ := Aside0.mk (Kd.R_below R2.out (below_of_none hg))
            clear R2
            have R2 := n1_
            clear n1_
            obtain ⟨A13, c13, e13⟩ : ∃ (A : Option Addr) (c : Nat), v13 = .slice A 1 c := Kd.R_slice ho
            subst e13
            have R3 := Aside0.mk ho
            clear ho hb hg hat
            refine hK.out _ _ trivial (fun hHeld => ?_)
            clear hK K
            refine norm_ (a' := ?_) ?_ ?_
            rotate_left
            · show Act.put _ (some 73) _ = _
              simp only [Act.put, List.setIfInBounds_toArray, List.set_cons_zero, List.set_cons_succ, i64_w, i32_w]
              rfl
            exact norm_ (by first | (simp only [putAll, Act.put, List.setIfInBounds_toArray, List.set_cons_zero, List.set_cons_succ]; done) | (simp only [putAll, Act.put, List.setIfInBounds_toArray, List.set_cons_zero, List.set_cons_succ]; rfl)) (hJ4_6_8_10_13 (v4, A6, c6, A8, c8, v10, A13, c13) _ ⟨HQc.out, R1.out, R2.out, R3.out, S12.out, S13.out, S23.out⟩)
      · skip
        rintro ⟨v4, A6, c6, A8, c8, v10, A13, c13⟩ w8 ⟨xHQc, xR1, xR2, xR3, xS12, xS13, xS23⟩
        clear HQc
        have HQc := Aside0.mk xHQc
        have R1 := Aside0.mk xR1
        have R2 := Aside0.mk xR2
        have R3 := Aside0.mk xR3
        have S12 := Aside0.mk xS12
        have S13 := Aside0.mk xS13
        have S23 := Aside0.mk xS23
        clear xHQc xR1 xR2 xR3 xS12 xS13 xS23
        dsimp only at HQc R1 R2 R3 S12 S13 S23
        have hHeld : True := trivial
        refine norm_ (a' := ?_) ?_ ?_
        rotate_left
        · simp only [putAll, Act.put, List.setIfInBounds_toArray, List.set_cons_zero, List.set_cons_succ]
          rfl
        refine one_ (i := 12) (N := some 72) #[true, true, true, true, true, true, true, true, true, true, true, true, true, true, false, false, false] rfl rfl (by kernel_rfl) (by decide) (fun K hK => ?_)
        refine Kd.R_append_rows_step (Kd.int .u8) (w0 := w7) w7.heap.size (by rfl) (.tmp 70) (.tmp 71) 23 5 (.int .u8 0) 1 rfl Try.underlying23 info5 rfl (by decide) (by omega) v10 [] X (some ⟨gx, 0, none⟩) b.length cx (fun _ => True) (fun _ => False) rfl rfl R2.out (by have h_ := (HRX.out.below HQc.out).rd; rw [HXL.out] at h_; exact h_) (fun _ _ h => h) (fun _ h => h.elim) (fun _ _ => trivial) HQc.out HQc.out.size (by have := HLB.out; simp only [List.length_nil]; omega) ?_
        intro u12 w6 ho hb hg hat
        rw [List.nil_append] at ho
        obtain ⟨A12, c12, ev⟩ : ∃ (A : Option Addr) (c : Nat), u12 = .slice A X.length c := Kd.R_slice ho
        subst ev
        clear HQc
        have HQc := Aside0.mk hb
        have n2_ := Aside0.mk ((ne_of_app (Kd.R_lt R1.out) S12.out.symm hat).symm)
        have n1_ := Aside0.mk (Kd.R_grown1 R1.out rfl hg S12.out.symm)
        clear R1
        have R1 := n1_
        clear n1_
        clear S12
        have S12 := n2_
        clear n2_
        have n2_ := Aside0.mk (ne_of_app (Kd.R_lt R3.out) S23.out hat)
        have n1_ := Aside0.mk (Kd.R_grown1 R3.out rfl hg S23.out)
        clear R3
        have R3 := n1_
        clear n1_
        clear S23
        have S23 := n2_
        clear n2_
        clear R2
        have R2 := Aside0.mk ho
        clear ho hb hg hat
        refine hK.out _ _ trivial (fun hHeld => ?_)
        clear hK K
        refine norm_ (a' := ?_) ?_ ?_
        rotate_left
        · show Act.put _ (some 72) _ = _
          simp only [Act.put, List.setIfInBounds_toArray, List.set_cons_zero, List.set_cons_succ, i64_w, i32_w]
          rfl
        exact norm_ (by first | (simp only [putAll, Act.put, List.setIfInBounds_toArray, List.set_cons_zero, List.set_cons_succ]; done) | (simp only [putAll, Act.put, List.setIfInBounds_toArray, List.set_cons_zero, List.set_cons_succ]; rfl)) (hJ4_6_8_10_12_13 (v4, A6, c6, A8, c8, v10, A12, c12, A13, c13) _ ⟨HQc.out, R1.out, R2.out, R3.out, S12.out, S13.out, S23.out⟩)
    · skip
      rintro ⟨v4, A6, c6, A8, c8, v10, A12, c12⟩ w8 ⟨xHQc, xR1, xR2, xS12⟩
      clear HQc
      have HQc := Aside0.mk xHQc
      have R1 := Aside0.mk xR1
      have R2 := Aside0.mk xR2
      have S12 := Aside0.mk xS12
      clear xHQc xR1 xR2 xS12
      dsimp only at HQc R1 R2 S12
      have hHeld : True := trivial
      refine norm_ (a' := ?_) ?_ ?_
      rotate_left
      · simp only [putAll, Act.put, List.setIfInBounds_toArray, List.set_cons_zero, List.set_cons_succ]
        rfl
      refine one_ (i := 13) (N := some 73) #[true, true, true, true, true, true, true, true, true, true, true, true, true, true, false, false, false] rfl rfl (by kernel_rfl) (by decide) (fun K hK => ?_)
      refine Kd.R_lit_step (Kd.int .u8) (w0 := w7) w7.heap.size 5 ?hg (N := 73) ?hd (xs := ([0] : List Int)) (inner := [.int .u8 0]) (ok := fun _ => True) (okp := fun _ => True) ?hr ?hp (fun _ hk => hk) trivial HQc.out HQc.out.size (by simp) ?_; (case hd => rfl); (case hg => rfl); (case hr => first | (go_simp; done) | (go_simp; rfl)); (case hp => exact (Reps.one (show Kd.M (Kd.int .u8) _ _ _ 0 [.int .u8 0] from rfl) (Reps.none _ _)))
      intro v13 w5 ho hb hg hat
      clear HQc
      have HQc := Aside0.mk hb
      have S13 := Aside0.mk (ne_of_hat (Kd.R_lt R1.out) hat)
      have S23 := Aside0.mk (ne_of_hat (Kd.R_lt R2.out) hat)
      have n1_ := Aside0.mk (Kd.R_below R1.out (below_of_none hg))
      clear R1
      have R1 := n1_
      clear n1_
      have n1_ := Aside0.mk (Kd.R_below R2.out (below_of_none hg))
      clear R2
      have R2 := n1_
      clear n1_
      obtain ⟨A13, c13, e13⟩ : ∃ (A : Option Addr) (c : Nat), v13 = .slice A 1 c := Kd.R_slice ho
      subst e13
      have R3 := Aside0.mk ho
      clear ho hb hg hat
      refine hK.out _ _ trivial (fun hHeld => ?_)
      clear hK K
      refine norm_ (a' := ?_) ?_ ?_
      rotate_left
      · show Act.put _ (some 73) _ = _
        simp only [Act.put, List.setIfInBounds_toArray, List.set_cons_zero, List.set_cons_succ, i64_w, i32_w]
        rfl
      exact norm_ (by first | (simp only [putAll, Act.put, List.setIfInBounds_toArray, List.set_cons_zero, List.set_cons_succ]; done) | (simp only [putAll, Act.put, List.setIfInBounds_toArray, List.set_cons_zero, List.set_cons_succ]; rfl)) (hJ4_6_8_10_12_13 (v4, A6, c6, A8, c8, v10, A12, c12, A13, c13) _ ⟨HQc.out, R1.out, R2.out, R3.out, S12.out, S13.out, S23.out⟩)
  rintro ⟨v4, A6, c6, A8, c8, v10, A12, c12, A13, c13⟩ w8 ⟨xHQc, xR1, xR2, xR3, xS12, xS13, xS23⟩
  clear HQc
  have HQc := Aside0.mk xHQc
  have R1 := Aside0.mk xR1
  have R2 := Aside0.mk xR2
  have R3 := Aside0.mk xR3
  have S12 := Aside0.mk xS12
  have S13 := Aside0.mk xS13
  have S23 := Aside0.mk xS23
  clear xHQc xR1 xR2 xR3 xS12 xS13 xS23
  dsimp only at HQc R1 R2 R3 S12 S13 S23
  have hHeld : True := trivial
  refine norm_ (a' := ?_) ?_ ?_
  rotate_left
  · simp only [putAll, Act.put, List.setIfInBounds_toArray, List.set_cons_zero, List.set_cons_succ]
    rfl
  refine one_ (i := 14) (N := some 74) #[true, true, true, true, true, true, true, true, true, true, true, true, true, true, true, false, false] rfl rfl (by kernel_rfl) (by decide) (fun K hK => ?_)
  refine Kd.R_append_rows_step (Kd.int .u8) (w0 := w7) w7.heap.size (by rfl) (.tmp 72) (.tmp 73) 23 5 (.int .u8 0) 1 rfl Try.underlying23 info5 rfl (by decide) (by omega) (.slice A12 X.length c12) X [0] A13 1 c13 (fun _ => True) (fun _ => False) rfl rfl R2.out (Kd.R_reads' R3.out).2.2 (fun _ _ h => h) (fun _ h => h.elim) (fun _ _ => trivial) HQc.out HQc.out.size (by have := HLB.out; have := HXL.out; omega) ?_
  intro u14 w6 ho hb hg hat
  rw [H14.out] at ho
  obtain ⟨A14, c14, ev⟩ : ∃ (A : Option Addr) (c : Nat), u14 = .slice A L14.length c := Kd.R_slice ho
  subst ev
  clear HQc
  have HQc := Aside0.mk hb
  have n2_ := Aside0.mk ((ne_of_app (Kd.R_lt R1.out) S12.out.symm hat).symm)
  have n1_ := Aside0.mk (Kd.R_grown1 R1.out rfl hg S12.out.symm)
  clear R1
  have R1 := n1_
  clear n1_
  clear S12
  have S12 := n2_
  clear n2_
  have n2_ := Aside0.mk (ne_of_app (Kd.R_lt R3.out) S23.out hat)
  have n1_ := Aside0.mk (Kd.R_grown1 R3.out rfl hg S23.out)
  clear R3
  have R3 := n1_
  clear n1_
  clear S23
  have S23 := n2_
  clear n2_
  clear R2
  have R2 := Aside0.mk ho
  clear ho hb hg hat
  refine hK.out _ _ trivial (fun hHeld => ?_)
  clear hK K
  refine norm_ (a' := ?_) ?_ ?_
  rotate_left
  · show Act.put _ (some 74) _ = _
    simp only [Act.put, List.setIfInBounds_toArray, List.set_cons_zero, List.set_cons_succ, i64_w, i32_w]
    rfl
  refine one_ (i := 15) (N := some 75) #[true, true, true, true, true, true, true, true, true, true, true, true, true, true, true, true, false] rfl rfl (by kernel_rfl) (by decide) (fun K hK => ?_)
  refine value_ (w1 := ?_) (v := ?_) (by rfl) rfl ?_ ?_
  rotate_left 2
  · go_simp
    constructor
    · rfl
    · rfl
  refine hK.out _ _ trivial (fun hHeld => ?_)
  clear hK K
  refine norm_ (a' := ?_) ?_ ?_
  rotate_left
  · show Act.put _ (some 75) _ = _
    simp only [Act.put, List.setIfInBounds_toArray, List.set_cons_zero, List.set_cons_succ, i64_w, i32_w]
    rfl
  refine pure_ (i := 16) (N := some 21) (v := ?_) (a' := ?_) #[true, true, true, true, true, true, true, true, true, true, true, true, true, true, true, true, true] rfl rfl (by kernel_rfl) (fun _ _ _ h => h) (Or.inl ⟨by rfl, ?_⟩) ?_ ?_
  rotate_left
  · intro w'
    go_simp
    with_reducible rfl
  rotate_left
  · simp only [Act.put, List.setIfInBounds_toArray, List.set_cons_zero, List.set_cons_succ, i64_w, i32_w]
    rfl
  refine done_ (by kernel_rfl) ?_
  have hba := below_alloc HQc.out (.cells #[.slice (some ⟨gx, 0, none⟩) b.length cx, .slice Ab J cb, .slice A8 L8.length c8, .slice a6 l6.length cap6, .slice A14 L14.length c14] 23)
  have HZL := Aside0.mk (new_blk w6 (.cells #[.slice (some ⟨gx, 0, none⟩) b.length cx, .slice Ab J cb, .slice A8 L8.length c8, .slice a6 l6.length cap6, .slice A14 L14.length c14] 23))
  replace HRX := Aside0.mk (HRX.out.below hba)
  replace HRJ := Aside0.mk (HRJ.out.below hba)
  replace HR6 := Aside0.mk (HR6.out.below hba)
  have HR8 := Aside0.mk (rw_of (Kd.R_alloc R1.out (.cells #[.slice (some ⟨gx, 0, none⟩) b.length cx, .slice Ab J cb, .slice A8 L8.length c8, .slice a6 l6.length cap6, .slice A14 L14.length c14] 23)))
  have HR14 := Aside0.mk (rw_of (Kd.R_alloc R2.out (.cells #[.slice (some ⟨gx, 0, none⟩) b.length cx, .slice Ab J cb, .slice A8 L8.length c8, .slice a6 l6.length cap6, .slice A14 L14.length c14] 23)))
  replace HB := Aside0.mk (below_step HB.out hba)
  obtain ⟨gl, hgl⟩ : ∃ g, w6.heap.size = g := ⟨_, rfl⟩
  rw [hgl] at HZL
  generalize w6.alloc (.cells #[.slice (some ⟨gx, 0, none⟩) b.length cx, .slice Ab J cb, .slice A8 L8.length c8, .slice a6 l6.length cap6, .slice A14 L14.length c14] 23) = w9 at hba HZL HRX HRJ HR6 HR8 HR14 HB ⊢
  rw [hgl]
  clear hgl hba hHeld HQc R1 R2 R3 S12 S23 hcut
  have HL8 := Aside0.mk (show L8.length ≤ 2000 ∧ Bytes L8 from by
    rw [← H8.out, List.length_append]
    exact ⟨by have := HLB.out.2; have := HL6.out; omega, HYB.out.app HY6.out⟩)
  have HL14 := Aside0.mk (show L14.length ≤ 2000 ∧ Bytes L14 from by
    rw [← H14.out, List.length_append]
    exact ⟨by have := HLB.out.2; have := HXL.out; simp only [List.length_cons, List.length_nil]; omega, HXY.out.app (one_byte (by omega) (by omega))⟩)
  go_wp2
  go_loopg [22] 5 (fun kq v22 w' => ∃ k : Nat, v22 = .int .i64 (k : Int) ∧ Aside (k + kq = 5) ∧ Below w9.heap.size w9 w')
  case atStart =>
    exact ⟨0, rfl, (by show _ = _; rfl), Below.refl _ _⟩
  case round =>
    obtain ⟨k, rfl, hk, hbw⟩ := hrel
    have HK := Aside0.mk hk.out
    have HBW := Aside0.mk hbw
    clear hk hbw
    by_cases hlt : k < 5
    · have e1 : decide ((k : Int) < 5) = true := decide_eq_true (by omega)
      have i1 : (k : Int) < 5 := by omega
      have i2 : k < 5 := hlt
      have HGK := Aside0.mk (show 0 < gk from by have := HK.out; omega)
      have hnw : Go.IntKind.i64.wrap ((k : Int) + 1) = (k : Int) + 1 := wrap_i64w _ (by omega) (by omega)
      obtain ⟨A, c, n, l, hcl, hnl, hrw, hll⟩ : ∃ (A : Option Addr) (c n : Nat) (l : List Int), wr.cell? ⟨gl, k, none⟩ = some (.slice A n c) ∧ l.length = n ∧ Rw wr A c l ∧ (l.length ≤ 2000 ∧ Bytes l) := by
        have hz := (HBW.out.block _ (WB.blk_lt HZL.out)).trans HZL.out
        have hk5 : k = 0 ∨ k = 1 ∨ k = 2 ∨ k = 3 ∨ k = 4 := by omega
        have hl := HLB.out.2
        rcases hk5 with rfl | rfl | rfl | rfl | rfl
        · exact ⟨some ⟨gx, 0, none⟩, cx, b.length, X, by simp [World.cell?, hz], HXL.out, HRX.out.below HBW.out, by have := HXL.out; omega, HXY.out⟩
        · exact ⟨Ab, cb, J, b.take J, by simp [World.cell?, hz], by rw [List.length_take]; exact Nat.min_eq_left HJ.out, HRJ.out.below HBW.out, by rw [List.length_take]; omega, HYB.out.take J⟩
        · exact ⟨A8, c8, L8.length, L8, by simp [World.cell?, hz], rfl, HR8.out.below HBW.out, HL8.out⟩
        · exact ⟨a6, cap6, l6.length, l6, by simp [World.cell?, hz], rfl, HR6.out.below HBW.out, by have := HL6.out; omega, HY6.out⟩
        · exact ⟨A14, c14, L14.length, L14, by simp [World.cell?, hz], rfl, HR14.out.below HBW.out, HL14.out⟩
      have HCL := Aside0.mk hcl
      have HNL := Aside0.mk hnl
      have HRW := Aside0.mk hrw
      have HLL := Aside0.mk hll
      replace HB := Aside0.mk (below_step HB.out HBW.out)
      clear hcl hnl hrw hll hlt
      have hcl := HCL.out
      go_upto_region 14 with (first | ((with_reducible refine gate_dst (N := 82) rfl ?_); refine Kd.R_lit (Kd.int .u8) (w0 := wr) wr.heap.size 5 ?hg (N := 82) ?hd (xs := ([] : List Int)) (inner := []) (ok := fun _ => True) (okp := fun _ => True) ?hr ?hp (fun _ hk => hk) trivial (Below.refl _ _) (Nat.le_refl _) (by simp) ?_; (case hd => rfl); (case hg => rfl); (case hr => first | (go_simp; done) | (go_simp; rfl)); (case hp => exact (Reps.none _ _)); intro v3 w3 ho hb hg hat; have HO3 := Aside0.mk ho; have HB3 := Aside0.mk hb; clear hcl; have hcl := pw_cell_below hb HCL.out; clear ho hb hg hat) | ((with_reducible refine gate_builtin (b := .append) (xs := #[.tmp 82, .tmp 86]) rfl ?_); at_builtin; refine Kd.R_append_rows (Kd.int .u8) (w0 := wr) wr.heap.size rfl (.tmp 82) (.tmp 86) 23 5 (.int .u8 0) 1 rfl Try.underlying23 info5 rfl (by decide) (by omega) v3 [] l A n c (fun _ => True) (fun _ => False) rfl rfl HO3.out (by rw [← HNL.out]; exact (HRW.out.below HB3.out).rd) (fun _ _ h => h) (fun _ h => h.elim) (fun _ _ => trivial) HB3.out HB3.out.size (by have := HLL.out.1; have := HNL.out; simp only [List.length_nil]; omega) ?_; intro v4 w4 ho hb hg hat; rw [List.nil_append] at ho; have HX := Aside0.mk hb; obtain ⟨Ar, cr, ev⟩ := Kd.R_slice ho; subst ev; have HOR := Aside0.mk ho; clear ho hb hg hat))
      clear hcl HO3 HB3
      go_cut [93] (fun s93 wx => ∃ hd : Bool, s93 = .bool hd ∧ Aside (hd = true → 16 ≤ l.length) ∧ Aside (wx = w4))
      case first =>
        cases a7 with
        | false =>
          go_wp2
          go_meet
          exact ⟨false, rfl, (by intro h; cases h), (by show _ = _; rfl)⟩
        | true =>
          by_cases h16 : 16 ≤ l.length
          · have e2 : decide (16 ≤ (l.length : Int)) = true := decide_eq_true (by omega)
            have e3 : decide (16 ≤ l.length) = true := decide_eq_true h16
            have H16 := Aside0.mk h16
            clear h16
            go_wp2
            go_meet
            exact ⟨true, rfl, (by exact fun _ => H16.out), (by show _ = _; rfl)⟩
          · have e2 : decide (16 ≤ (l.length : Int)) = false := decide_eq_false (by omega)
            have e3 : decide (16 ≤ l.length) = false := decide_eq_false h16
            clear h16
            go_wp2
            go_meet
            exact ⟨false, rfl, (by intro h; cases h), (by show _ = _; rfl)⟩
      case rest =>
      obtain ⟨sp, rfl, hsp, hw⟩ := hcut
      have HSP := Aside0.mk hsp.out
      have hw_ := hw.out
      clear hsp hw
      subst hw_
      go_upto_if 93 with fail
      go_cut [] (fun wx => ∃ d : List Int, Aside (d.length = l.length) ∧ Aside (Bytes d) ∧ Aside (Rw wx Ar cr d) ∧ Aside (Below wr.heap.size wr wx))
      case first =>
        cases sp with
        | false =>
          go_wp2
          go_meet
          exact ⟨l, (by show _ = _; rfl), HLL.out.2, rw_of HOR.out, HX.out⟩
        | true =>
          have H16 := Aside0.mk (HSP.out rfl)
          have h16 := H16.out
          have h2000 := HLL.out.1
          obtain ⟨gr, cr2, ev, hgr⟩ := rb_form HOR.out (by omega)
          injection ev with ev1 ev2 ev3
          subst ev1 ev3
          have HGR := Aside0.mk hgr
          clear hgr ev2
          have i14 : (14 : Int) < (l.length : Int) := by omega
          have i15 : (15 : Int) < (l.length : Int) := by omega
          have i2_ : (2 : Int) < (l.length : Int) := by omega
          have i3_ : (3 : Int) < (l.length : Int) := by omega
          have n14 : 14 < l.length := by omega
          have n15 : 15 < l.length := by omega
          have n2_ : 2 < l.length := by omega
          have n3_ : 3 < l.length := by omega
          have p2 := rb_cell HOR.out 2 (by have := H16.out; omega)
          have q2 := rb_frozen HOR.out 2
          have p3 := rb_cell HOR.out 3 (by have := H16.out; omega)
          have q3 := rb_frozen HOR.out 3
          go_upto_region 16 with fail
          generalize hW : World.setCell _ _ _ = w5
          obtain ⟨d5, hd⟩ : ∃ d, d = (l.set 2 ((l.length : Int) / 256)).set 3 ((l.length : Int) % 256) := ⟨_, rfl⟩
          have HRd5 := Aside0.mk (show RB wr.heap.size w5 (.slice (some ⟨gr, 0, none⟩) l.length cr) d5 from by rw [← hW, hd]; exact rb_set (rb_set HOR.out 2 _) 3 _)
          have HLd5 := Aside0.mk (show d5.length = l.length from by rw [hd, List.length_set, List.length_set])
          have HYd5 := Aside0.mk (show Bytes d5 from by rw [hd]; exact (HLL.out.2.set _ (by omega) (by omega)).set _ (by omega) (by omega))
          have HXd5 := Aside0.mk (show Below wr.heap.size wr w5 from by rw [← hW]; exact (HX.out.setCell (p := ⟨gr, 2, none⟩) HGR.out _).setCell (p := ⟨gr, 3, none⟩) HGR.out _)
          clear hW hd
          clear p2 q2 p3 q3
          have p14 := rb_cell HRd5.out 14 (by have := H16.out; omega)
          have q14 := rb_frozen HRd5.out 14
          have p15 := rb_cell HRd5.out 15 (by have := H16.out; omega)
          have q15 := rb_frozen HRd5.out 15
          go_upto_region 17 with fail
          generalize hW : World.setCell _ _ _ = w6_
          obtain ⟨d6, hd⟩ : ∃ d, d = (d5.set 14 0).set 15 0 := ⟨_, rfl⟩
          have HRd6 := Aside0.mk (show RB wr.heap.size w6_ (.slice (some ⟨gr, 0, none⟩) l.length cr) d6 from by rw [← hW, hd]; exact rb_set (rb_set HRd5.out 14 _) 15 _)
          have HLd6 := Aside0.mk (show d6.length = l.length from by rw [hd, List.length_set, List.length_set]; exact HLd5.out)
          have HYd6 := Aside0.mk (show Bytes d6 from by rw [hd]; exact (HYd5.out.set _ (by omega) (by omega)).set _ (by omega) (by omega))
          have HXd6 := Aside0.mk (show Below wr.heap.size wr w6_ from by rw [← hW]; exact (HXd5.out.setCell (p := ⟨gr, 14, none⟩) HGR.out _).setCell (p := ⟨gr, 15, none⟩) HGR.out _)
          clear hW hd
          clear p14 q14 p15 q15
          have HRW6 := Aside0.mk (rw_of HRd6.out)
          have hd6 := HLd6.out
          obtain ⟨hcut16, hC16⟩ := cut_to (A := some ⟨gr, 0, none⟩) (c := cr) (n := l.length) (l := d6) 16 (jz := 16) rfl (by omega) hd6 (by have := HRW6.out.le; omega)
          have CR := Aside0.mk (fun W (h : Below w6_.heap.size w6_ W) => (rof_calls (c := cr) (n := 16) (hC16 W (by have := (HRW6.out.below h).rd; rw [HLd6.out] at this; exact this)) (by rw [List.length_take, HLd6.out]; have := H16.out; omega) (by have := HRW6.out.le; have := H16.out; have := HLd6.out; omega) (HYd6.out.take 16) (by rw [List.length_take]; omega)).mono (fun e w' (hh : e = .returned (.int .i64 (65535 - fold (pairs (d6.take 16)))) ∧ Drawn0 W w') => (by obtain ⟨rfl, ⟨⟨nd2, rfl⟩⟩⟩ := hh; exact ⟨rfl, bd h nd2⟩ : e = .returned (.int .i64 (65535 - fold (pairs (d6.take 16)))) ∧ Below w6_.heap.size w6_ w')))
          clear hC16
          obtain ⟨S, hS⟩ : ∃ S, 65535 - fold (pairs (d6.take 16)) = S := ⟨_, rfl⟩
          have hs0 : 0 ≤ S := by rw [← hS]; have := (fold_bounds (n := pairs (d6.take 16))).2; omega
          have hs1 : S ≤ 65535 := by rw [← hS]; have := (fold_bounds (n := pairs (d6.take 16))).1; omega
          rw [hS] at CR
          clear hS
          go_upto_region 18 with (first | (go_at_call 23; (with_reducible refine (CR.out _ ?hb).mono ?_); (case hb => (repeat (first | with_reducible assumption | with_reducible exact Below.refl _ _ | with_reducible apply below_alloc | with_reducible apply pw_below_drewN | with_reducible apply below_drew1))); rintro e w7_ ⟨rfl, hx7⟩; have HX7 := Aside0.mk (below_step HXd6.out hx7); have HR7 := Aside0.mk (Kd.R_below HRd6.out hx7); clear hx7))
          clear hcut16 CR
          have p14 := rb_cell HR7.out 14 (by have := H16.out; omega)
          have q14 := rb_frozen HR7.out 14
          have p15 := rb_cell HR7.out 15 (by have := H16.out; omega)
          have q15 := rb_frozen HR7.out 15
          go_wp2
          go_meet
          refine ⟨(d6.set 14 (S / 256)).set 15 (S % 256), ?_, ?_, rw_of (rb_set (rb_set HR7.out 14 _) 15 _), (by exact (HX7.out.setCell (p := ⟨gr, 14, none⟩) HGR.out _).setCell (p := ⟨gr, 15, none⟩) HGR.out _)⟩
          · show _ = _
            rw [List.length_set, List.length_set]; exact HLd6.out
          · show Bytes _
            exact (HYd6.out.set _ (by omega) (by omega)).set _ (by omega) (by omega)
      case rest =>
      obtain ⟨d, hdl, hdb, hrw, hbw⟩ := hcut
      have HDN := Aside0.mk (show d.length = l.length from hdl.out)
      have HDY := Aside0.mk (show Bytes d from hdb.out)
      have HRD := Aside0.mk (show Rw wc Ar cr d from hrw.out)
      have HD10 := Aside0.mk (show d.length ≤ 10000 from by have := HLL.out.1; rw [HDN.out]; omega)
      replace HB := Aside0.mk (below_step HB.out hbw.out)
      replace HBW := Aside0.mk (below_step HBW.out hbw.out)
      clear hdl hdb hrw hbw HX HOR HRW HCL HLL HSP e1
      obtain ⟨⟨q, x⟩, n1⟩ : ∃ r, parseL d = r := ⟨_, rfl⟩
      obtain ⟨wb, n2⟩ : ∃ r, wholeL d = r := ⟨_, rfl⟩
      have N1 := Aside0.mk n1
      have N2 := Aside0.mk n2
      clear n1 n2
      have C61 := Aside0.mk (parse_at (W0 := wc) HRD.out HDN.out HD10.out HDY.out N1.out)
      go_upto_region 20 with (first | (go_at_call 19; (with_reducible refine (C61.out _ ?hb).mono ?_); (case hb => (repeat (first | with_reducible assumption | with_reducible exact Below.refl _ _ | with_reducible apply below_alloc | with_reducible apply pw_below_drewN | with_reducible apply below_drew1))); rintro e w_62 ⟨A3, c3, A4, c4, rfl, h1, h2, h3, hb⟩; have hb2 := below_alloc hb (.cells #[.int .i64 q.kind, .int .i64 q.life, .int .i64 q.piece, .int .i64 q.frm, .int .i64 q.dst, .int .i64 q.fp, .int .i64 q.tp, .int .i64 q.flags, .int .i64 q.label, .bool q.bare, .int .i64 q.code, .slice A3 q.opts.length c3, .slice A4 q.data.length c4] 26); have hz := new_blk w_62 (.cells #[.int .i64 q.kind, .int .i64 q.life, .int .i64 q.piece, .int .i64 q.frm, .int .i64 q.dst, .int .i64 q.fp, .int .i64 q.tp, .int .i64 q.flags, .int .i64 q.label, .bool q.bare, .int .i64 q.code, .slice A3 q.opts.length c3, .slice A4 q.data.length c4] 26); have HX1 := Aside0.mk hb2; have HZ3 := Aside0.mk hz; have HO3 := Aside0.mk (rw_of (Kd.R_alloc h1 (.cells #[.int .i64 q.kind, .int .i64 q.life, .int .i64 q.piece, .int .i64 q.frm, .int .i64 q.dst, .int .i64 q.fp, .int .i64 q.tp, .int .i64 q.flags, .int .i64 q.label, .bool q.bare, .int .i64 q.code, .slice A3 q.opts.length c3, .slice A4 q.data.length c4] 26))); have HD3 := Aside0.mk (rw_of (Kd.R_alloc h2 (.cells #[.int .i64 q.kind, .int .i64 q.life, .int .i64 q.piece, .int .i64 q.frm, .int .i64 q.dst, .int .i64 q.fp, .int .i64 q.tp, .int .i64 q.flags, .int .i64 q.label, .bool q.bare, .int .i64 q.code, .slice A3 q.opts.length c3, .slice A4 q.data.length c4] 26))); clear h1 h2 h3 hb hb2 hz))
      change Code.wp _ _ _ _ (w_62.alloc (.cells #[.int .i64 q.kind, .int .i64 q.life, .int .i64 q.piece, .int .i64 q.frm, .int .i64 q.dst, .int .i64 q.fp, .int .i64 q.tp, .int .i64 q.flags, .int .i64 q.label, .bool q.bare, .int .i64 q.code, .slice A3 q.opts.length c3, .slice A4 q.data.length c4] 26))
      generalize w_62.alloc (.cells #[.int .i64 q.kind, .int .i64 q.life, .int .i64 q.piece, .int .i64 q.frm, .int .i64 q.dst, .int .i64 q.fp, .int .i64 q.tp, .int .i64 q.flags, .int .i64 q.label, .bool q.bare, .int .i64 q.code, .slice A3 q.opts.length c3, .slice A4 q.data.length c4] 26) = w_63 at HX1 HZ3 HO3 HD3 ⊢
      replace HRD := Aside0.mk (HRD.out.below HX1.out)
      replace HB := Aside0.mk (below_step HB.out HX1.out)
      replace HBW := Aside0.mk (below_step HBW.out HX1.out)
      clear HX1 C61
      have C64 := Aside0.mk (rparse_at (W0 := w_63) HRD.out HDN.out HD10.out HDY.out N1.out)
      go_upto_region 21 with (first | (go_at_call 24; (with_reducible refine (C64.out _ ?hb).mono ?_); (case hb => (repeat (first | with_reducible assumption | with_reducible exact Below.refl _ _ | with_reducible apply below_alloc | with_reducible apply pw_below_drewN | with_reducible apply below_drew1))); rintro e w_65 ⟨A5, c5, A6, c6, rfl, h1, h2, h3, hb⟩; have hb2 := below_alloc hb (.cells #[.int .i64 q.kind, .int .i64 q.life, .int .i64 q.piece, .int .i64 q.frm, .int .i64 q.dst, .int .i64 q.fp, .int .i64 q.tp, .int .i64 q.flags, .int .i64 q.label, .bool q.bare, .int .i64 q.code, .slice A5 q.opts.length c5, .slice A6 q.data.length c6] 26); have hz := new_blk w_65 (.cells #[.int .i64 q.kind, .int .i64 q.life, .int .i64 q.piece, .int .i64 q.frm, .int .i64 q.dst, .int .i64 q.fp, .int .i64 q.tp, .int .i64 q.flags, .int .i64 q.label, .bool q.bare, .int .i64 q.code, .slice A5 q.opts.length c5, .slice A6 q.data.length c6] 26); have HX1 := Aside0.mk hb2; have HZ5 := Aside0.mk hz; have HO5 := Aside0.mk (rw_of (Kd.R_alloc h1 (.cells #[.int .i64 q.kind, .int .i64 q.life, .int .i64 q.piece, .int .i64 q.frm, .int .i64 q.dst, .int .i64 q.fp, .int .i64 q.tp, .int .i64 q.flags, .int .i64 q.label, .bool q.bare, .int .i64 q.code, .slice A5 q.opts.length c5, .slice A6 q.data.length c6] 26))); have HD5 := Aside0.mk (rw_of (Kd.R_alloc h2 (.cells #[.int .i64 q.kind, .int .i64 q.life, .int .i64 q.piece, .int .i64 q.frm, .int .i64 q.dst, .int .i64 q.fp, .int .i64 q.tp, .int .i64 q.flags, .int .i64 q.label, .bool q.bare, .int .i64 q.code, .slice A5 q.opts.length c5, .slice A6 q.data.length c6] 26))); clear h1 h2 h3 hb hb2 hz))
      change Code.wp _ _ _ _ (w_65.alloc (.cells #[.int .i64 q.kind, .int .i64 q.life, .int .i64 q.piece, .int .i64 q.frm, .int .i64 q.dst, .int .i64 q.fp, .int .i64 q.tp, .int .i64 q.flags, .int .i64 q.label, .bool q.bare, .int .i64 q.code, .slice A5 q.opts.length c5, .slice A6 q.data.length c6] 26))
      generalize w_65.alloc (.cells #[.int .i64 q.kind, .int .i64 q.life, .int .i64 q.piece, .int .i64 q.frm, .int .i64 q.dst, .int .i64 q.fp, .int .i64 q.tp, .int .i64 q.flags, .int .i64 q.label, .bool q.bare, .int .i64 q.code, .slice A5 q.opts.length c5, .slice A6 q.data.length c6] 26) = w_66 at HX1 HZ5 HO5 HD5 ⊢
      replace HRD := Aside0.mk (HRD.out.below HX1.out)
      replace HO3 := Aside0.mk (HO3.out.below HX1.out)
      replace HD3 := Aside0.mk (HD3.out.below HX1.out)
      replace HZ3 := Aside0.mk ((HX1.out.block _ (WB.blk_lt HZ3.out)).trans HZ3.out)
      replace HB := Aside0.mk (below_step HB.out HX1.out)
      replace HBW := Aside0.mk (below_step HBW.out HX1.out)
      clear HX1 C64
      obtain ⟨k0, k1, k2, k3, k4, k5, k6, k7, k8, k9, k10, k11, k12⟩ := WB.c13 HZ3.out
      obtain ⟨m0, m1, m2, m3, m4, m5, m6, m7, m8, m9, m10, m11, m12⟩ := WB.c13 HZ5.out
      have C4 := Aside0.mk (same_at (W0 := w_66) HO3.out HD3.out HO5.out HD5.out)
      have C5 := Aside0.mk (whole_at (W0 := w_66) HRD.out HDN.out HD10.out HDY.out N2.out)
      have C6 := Aside0.mk (rwhole_at (W0 := w_66) HRD.out HDN.out HD10.out HDY.out N2.out)
      go_wp2_with (first | (go_at_call 20; (with_reducible refine (C4.out _ ?hb).mono ?_); (case hb => (repeat (first | with_reducible assumption | with_reducible exact Below.refl _ _ | with_reducible apply below_alloc | with_reducible apply pw_below_drewN | with_reducible apply below_drew1))); rintro e x1 ⟨rfl, hx1⟩) | (go_at_call 21; (with_reducible refine (C5.out _ ?hb).mono ?_); (case hb => (repeat (first | with_reducible assumption | with_reducible exact Below.refl _ _ | with_reducible apply below_alloc | with_reducible apply pw_below_drewN | with_reducible apply below_drew1))); rintro e x2 ⟨rfl, hx2⟩) | (go_at_call 25; (with_reducible refine (C6.out _ ?hb).mono ?_); (case hb => (repeat (first | with_reducible assumption | with_reducible exact Below.refl _ _ | with_reducible apply below_alloc | with_reducible apply pw_below_drewN | with_reducible apply below_drew1))); rintro e x3 ⟨rfl, hx3⟩))
      go_roundg (gk - 1)
      case measure => have := HGK.out; omega
      case rel => exact ⟨k + 1, (by first | rfl | go_num), (by show _ = _; have := HK.out; have := HGK.out; omega), below_step HBW.out (by repeat (first | with_reducible assumption | with_reducible exact Below.refl _ _ | with_reducible apply below_alloc | with_reducible apply pw_below_drewN | with_reducible apply below_drew1))⟩
    · have e1 : decide ((k : Int) < 5) = false := decide_eq_false (by omega)
      clear hlt
      go_wp2
      go_ret
      exact ⟨by simp, below_step HB.out HBW.out⟩
end Go.Proofs.Ytbjhmifhmojaoaa.PL
