/- Lemmas and contracts that the row YtbjhmifhmojaoaaLawWireHeads goes by (part 9; joined by pack.py out of this session's texts, and of words that the kit's print lays). -/
import Derived.Test.YtbjhmifhmojaoaaKHeads8
namespace Go.Proofs.Ytbjhmifhmojaoaa.PL
set_option linter.unusedVariables false
set_option linter.unusedSimpArgs false
open Go.RowKit Go.Proofs.Ytbjhmifhmojaoaa.Hp Go.Proofs.Ytbjhmifhmojaoaa.SB Go.Proofs.YtbjhmifhmojaoaaW.PrintWords Go.Proofs.YtbjhmifhmojaoaaW.PrintLast Go.Proofs.YtbjhmifhmojaoaaW.PrintMore Go.Proofs.Ytbjhmifhmojaoaa.WB
theorem whole_right {l : List Int} (h : wholeL l = true) : (fold (pairs (l.take 16)) == 65535) = true := by
  unfold wholeL at h
  simp only [Bool.and_eq_true, beq_iff_eq] at h
  exact beq_iff_eq.mpr (ok_of h.1).sum
set_option maxHeartbeats 4000000 in
set_option maxRecDepth 100000 in
theorem WireHeads_walk (a0 : Int) (a1 : Option Addr) (len1 cap1 : Nat) (z1 : List Int) (a2 : Option Addr) (len2 cap2 : Nat) (z2 : List Int) (a3 : Int) (a4 : Int) (a5 : Int) (w : World) (w0 : (Lit.int .i64 a0).wf = true) (w1 : (a1 = none ∧ len1 = 0 ∧ cap1 = 0 ∧ z1 = []) ∨ ∃ x, a1 = some x ∧ len1 ≤ cap1 ∧ cap1 ≤ maxLen ∧ z1.length = cap1 ∧ (∀ j, j < z1.length → w.cell? (x.add j) = some (.int .i64 (z1.getD j 0))) ∧ ∀ n ∈ z1, (Lit.int .i64 n).wf = true) (y1 : len1 * 8 ≤ 140737488351232) (w2 : (a2 = none ∧ len2 = 0 ∧ cap2 = 0 ∧ z2 = []) ∨ ∃ x, a2 = some x ∧ len2 ≤ cap2 ∧ cap2 ≤ maxLen ∧ z2.length = cap2 ∧ (∀ j, j < z2.length → w.cell? (x.add j) = some (.int .u8 (z2.getD j 0))) ∧ ∀ n ∈ z2, (Lit.int .u8 n).wf = true) (y2 : len2 * 1 ≤ 140737488351232) (w3 : (Lit.int .i64 a3).wf = true) (w4 : (Lit.int .u8 a4).wf = true) (w5 : (Lit.int .i64 a5).wf = true) :
    Calls Try.prog 13 #[.int .i64 a0, .slice a1 len1 cap1, .slice a2 len2 cap2, .int .i64 a3, .int .u8 a4, .int .i64 a5] w fun e w' => e = .returned (.bool true) ∧ Below w.heap.size w w' := by
  have HA0 := Aside0.mk w0
  clear w0
  obtain ⟨ns1, rfl, hr1, hm1, hw1, hc1⟩ := ReadsInt.ofRowC w1
  have HN1 := Aside0.mk (And.intro (show Kd.C (Kd.int .i64) w a1 ns1.length ns1 from Kd.C_of_reads (d := (0 : Int)) (h1 := fun _ => rfl) hr1) hc1)
  have HW1 := Aside0.mk hw1
  have HS1 := Aside0.mk y1
  clear hr1 hm1 hw1 hc1 w1 y1
  obtain ⟨l2, rfl, hr2, hm2, hw2, hc2⟩ := ReadsInt.ofRowC w2
  have HR2 := Aside0.mk (⟨Kd.C_of_reads (d := (0 : Int)) (h1 := fun _ => rfl) hr2, hc2⟩ : Rw w a2 cap2 l2)
  have HY2 := Aside0.mk (bytes_of_wf hw2)
  have HS2 := Aside0.mk y2
  clear hr2 hm2 hw2 hc2 w2 y2
  have HA3 := Aside0.mk w3
  clear w3
  have HA4 := Aside0.mk w4
  clear w4
  have HA5 := Aside0.mk w5
  clear w5
  obtain ⟨p, hp⟩ : ∃ p, makeP a0 ns1 l2 = p := ⟨_, rfl⟩
  have HMK := Aside0.mk (show MkOk p ∧ p.kind = 1 + a0 % 3 from by rw [← hp]; exact makeP_ok a0 HY2.out)
  have HMP := Aside0.mk hp
  have KN := Aside0.mk (known_calls w)
  clear hp
  obtain ⟨b, hbb⟩ : ∃ b, buildL p = b := ⟨_, rfl⟩
  obtain ⟨ob, pb, wb, lb, yb⟩ := parse_build HMK.out.1.e HMK.out.1.c
  rw [hbb] at ob pb wb lb yb
  have HBB := Aside0.mk hbb
  have HPB := Aside0.mk (show parseL b = (p, 0) from by rw [ob.parse, pb])
  have HWB := Aside0.mk wb
  have HOK := Aside0.mk ob
  have HLB := Aside0.mk (show 24 ≤ b.length ∧ b.length ≤ 264 from ⟨ob.h24, by rw [lb]; exact nL_le HMK.out.1⟩)
  have HYB := Aside0.mk yb
  clear hbb ob pb wb lb yb
  go_enter Try.func13, Try.ntmps13
  go_upto_region 3 with (first | (go_at_call 15; (with_reducible refine KN.out.mono ?_); rintro e w0 ⟨rfl, hb0⟩; have HB0 := Aside0.mk hb0; clear hb0))
  have CM := Aside0.mk (make_at (W0 := w0) a0 (Kd.C_below HN1.out.1 HB0.out) rfl HN1.out.2 (by have := HS1.out; omega) (HR2.out.below HB0.out) rfl (by have := HS2.out; omega) HY2.out HMP.out)
  go_upto_region 4 with (first | (go_at_call 16; (with_reducible refine (CM.out _ ?hb).mono ?_); (case hb => (repeat (first | with_reducible assumption | with_reducible exact Below.refl _ _ | with_reducible apply below_alloc | with_reducible apply pw_below_drewN | with_reducible apply below_drew1))); rintro e w1 ⟨A1, c1, A2, c2, rfl, h1, h2, h3, hb1⟩; have HB1 := Aside0.mk (below_step HB0.out hb1); have HO := Aside0.mk (rw_of h1); have HD := Aside0.mk (rw_of h2); have CB := Aside0.mk (rbuild_at (W0 := w1) HO.out HD.out rfl rfl HMK.out.1.e HMK.out.1.c (by have := HMK.out.1.o; omega) (by have := HMK.out.1.d; omega) HBB.out); clear h1 h2 h3 hb1) | (go_at_call 18; (with_reducible refine (CB.out _ ?hb).mono ?_); (case hb => (repeat (first | with_reducible assumption | with_reducible exact Below.refl _ _ | with_reducible apply below_alloc | with_reducible apply pw_below_drewN | with_reducible apply below_drew1))); rintro e w2 ⟨Ab, cb, rfl, hr, hb⟩; have HB := Aside0.mk (below_step HB1.out hb); have HOB := Aside0.mk (Kd.R_lower hr HB1.out.size); have HRB := Aside0.mk (rw_of hr); clear hr hb))
  have hwf4 := HA4.out
  simp only [Lit.wf, Bool.and_eq_true, decide_eq_true_eq] at hwf4
  have HV := Aside0.mk (show 0 ≤ a4 ∧ a4 ≤ 255 from hwf4)
  clear hwf4
  obtain ⟨gb, cb2, ev, hgb⟩ := rb_form HOB.out (by have := HLB.out.1; omega)
  injection ev with ev1 ev2 ev3
  subst ev1 ev3
  have HGB := Aside0.mk hgb
  clear hgb ev2
  obtain ⟨K, hk⟩ := Int.eq_ofNat_of_zero_le (show 0 ≤ a3 % 16 by omega)
  have HK16 := Aside0.mk (show K < 16 by omega)
  have CS := Aside0.mk (withn_at w2 a3 (n := 16) (by omega) (by omega) hk)
  have ik : (K : Int) < (b.length : Int) := by have := HLB.out.1; omega
  have ikn : K < b.length := by have := HLB.out.1; omega
  have r1 := rb_cell HOB.out K ikn
  have r2 := rb_frozen HOB.out K
  clear hk
  go_upto_region 5 with (first | (go_at_call 22; (with_reducible refine (CS.out _ ?hb).mono ?_); (case hb => (repeat (first | with_reducible assumption | with_reducible exact Below.refl _ _ | with_reducible apply below_alloc | with_reducible apply pw_below_drewN | with_reducible apply below_drew1))); rintro e w3 ⟨rfl, hx⟩; have HB3 := Aside0.mk (below_step HB.out hx); have HOB3 := Aside0.mk (Kd.R_below HOB.out hx); clear r1 r2; have r1 := rb_cell HOB3.out K ikn; have r2 := rb_frozen HOB3.out K; clear hx))
  generalize hW : World.setCell _ _ _ = w4
  obtain ⟨bb, hbb⟩ : ∃ l, l = b.set K a4 := ⟨_, rfl⟩
  have HOB4 := Aside0.mk (show RB w.heap.size w4 (.slice (some ⟨gb, 0, none⟩) b.length cb) bb from by rw [← hW, hbb]; exact rb_set HOB3.out K a4)
  have HBY := Aside0.mk (show Bytes bb from by rw [hbb]; exact HYB.out.set _ HV.out.1 HV.out.2)
  have HBL0 := Aside0.mk (show bb.length = b.length from by rw [hbb, List.length_set])
  replace HB := Aside0.mk (show Below w.heap.size w w4 from by rw [← hW]; exact HB3.out.setCell (p := ⟨gb, K, none⟩) HGB.out _)
  replace HRB := Aside0.mk (rw_of HOB4.out)
  clear hW hbb r1 r2 HB3 HOB3 HOB4 HOB CS ik ikn
  obtain ⟨K2, hk⟩ := Int.eq_ofNat_of_zero_le (show 0 ≤ a5 % 40 by omega)
  have HK2 := Aside0.mk hk
  clear hk
  have C1 := Aside0.mk (withn_at w4 a5 (n := 40) (by omega) (by omega) HK2.out)
  go_upto_region 6 with (first | (go_at_call 22; (with_reducible refine (C1.out _ ?hb).mono ?_); (case hb => (repeat (first | with_reducible assumption | with_reducible exact Below.refl _ _ | with_reducible apply below_alloc | with_reducible apply pw_below_drewN | with_reducible apply below_drew1))); rintro e w_2 ⟨rfl, hxw_2⟩))
  replace HRB := Aside0.mk (HRB.out.below hxw_2)
  replace HB := Aside0.mk (below_step HB.out hxw_2)
  clear hxw_2 C1
  obtain ⟨M, hM⟩ : ∃ M, min K2 b.length = M := ⟨_, rfl⟩
  have hmn : (if (b.length : Int) < (K2 : Int) then (b.length : Int) else (K2 : Int)) = (M : Int) := by split <;> omega
  have hmn2 : (if b.length < K2 then (b.length : Int) else (K2 : Int)) = (M : Int) := by split <;> omega
  have HMB := Aside0.mk (show M ≤ b.length from by omega)
  have HBL1 := HBL0
  obtain ⟨hcutm, hCm⟩ := cut_to (A := some ⟨gb, 0, none⟩) (c := cb) (n := b.length) (l := bb) M (jz := (M : Int)) rfl HMB.out HBL1.out (by have := HRB.out.le; rw [HBL1.out] at this; exact this)
  have HRM := Aside0.mk (show Rw w_2 (some ⟨gb, 0, none⟩) cb (bb.take M) from ⟨by have h_ := hCm w_2 (by have := HRB.out.rd; rw [HBL1.out] at this; exact this); rw [show (bb.take M).length = M from by rw [List.length_take, HBL1.out]; exact Nat.min_eq_left HMB.out]; exact h_, by have := HRB.out.le; rw [List.length_take]; omega⟩)
  clear hM hCm
  go_upto_region 7 with fail
  change Code.wp _ _ _ _ (w_2.alloc (.cells #[.slice (some ⟨gb, 0, none⟩) b.length cb, .slice (some ⟨gb, 0, none⟩) M cb] 23))
  have hba := below_alloc (Below.refl w_2.heap.size w_2) (.cells #[.slice (some ⟨gb, 0, none⟩) b.length cb, .slice (some ⟨gb, 0, none⟩) M cb] 23)
  have HZL := Aside0.mk (new_blk w_2 (.cells #[.slice (some ⟨gb, 0, none⟩) b.length cb, .slice (some ⟨gb, 0, none⟩) M cb] 23))
  replace HRB := Aside0.mk (HRB.out.below hba)
  replace HRM := Aside0.mk (HRM.out.below hba)
  replace HB := Aside0.mk (below_step HB.out hba)
  obtain ⟨gl, hgl⟩ : ∃ g, w_2.heap.size = g := ⟨_, rfl⟩
  rw [hgl] at HZL
  generalize w_2.alloc (.cells #[.slice (some ⟨gb, 0, none⟩) b.length cb, .slice (some ⟨gb, 0, none⟩) M cb] 23) = w5 at hba HZL HRB HRM HB ⊢
  clear hba hmn hmn2 hcutm
  rw [hgl]
  clear hgl
  go_wp2
  go_loopg [17] 2 (fun kq v17 w' => ∃ k : Nat, v17 = .int .i64 (k : Int) ∧ Aside (k + kq = 2) ∧ Aside (w'.heap[gl]? = some (.cells #[.slice (some ⟨gb, 0, none⟩) b.length cb, .slice (some ⟨gb, 0, none⟩) M cb] 23 (0, 0))) ∧ Aside (Rw w' (some ⟨gb, 0, none⟩) cb bb) ∧ Aside (Rw w' (some ⟨gb, 0, none⟩) cb (bb.take M)) ∧ Below w.heap.size w w')
  case atStart =>
    exact ⟨0, rfl, (by show _ = _; omega), HZL.out, HRB.out, HRM.out, HB.out⟩
  case round =>
    obtain ⟨k, rfl, hk, hz, hr1, hr2, hbw⟩ := hrel
    have HK := Aside0.mk hk.out
    replace HZL := Aside0.mk hz.out
    replace HRB := Aside0.mk hr1.out
    replace HRM := Aside0.mk hr2.out
    replace HB := Aside0.mk hbw
    clear hk hz hr1 hr2 hbw
    by_cases hlt : k < 2
    · have e1 : decide ((k : Int) < 2) = true := decide_eq_true (by omega)
      have i1 : (k : Int) < 2 := by omega
      have i2 : k < 2 := hlt
      have HGK := Aside0.mk (show 0 < gk from by have := HK.out; omega)
      obtain ⟨n, l, hcl, hnl, hrw, hll⟩ : ∃ (n : Nat) (l : List Int), wr.cell? ⟨gl, k, none⟩ = some (.slice (some ⟨gb, 0, none⟩) n cb) ∧ l.length = n ∧ Rw wr (some ⟨gb, 0, none⟩) cb l ∧ (l.length ≤ 10000 ∧ Bytes l) := by
        have hk2 : k = 0 ∨ k = 1 := by omega
        have hl := HBL0.out
        have hl2 := HLB.out.2
        rcases hk2 with rfl | rfl
        · exact ⟨b.length, bb, by simp [World.cell?, HZL.out], hl, HRB.out, by omega, HBY.out⟩
        · exact ⟨M, bb.take M, by simp [World.cell?, HZL.out], by rw [List.length_take, hl]; exact Nat.min_eq_left HMB.out, HRM.out, by rw [List.length_take]; omega, HBY.out.take M⟩
      have HCL := Aside0.mk hcl
      have HNL := Aside0.mk hnl
      have HRW := Aside0.mk hrw
      have HLL := Aside0.mk hll
      obtain ⟨⟨q, x⟩, n1⟩ : ∃ r, parseL l = r := ⟨_, rfl⟩
      have N1 := Aside0.mk n1
      clear hcl hrw hll hlt n1 hnl
      have hcl := HCL.out
      have C31 := Aside0.mk (parse_at (W0 := wr) HRW.out HNL.out HLL.out.1 HLL.out.2 N1.out)
      go_upto_region 11 with (first | (go_at_call 19; (with_reducible refine (C31.out _ ?hb).mono ?_); (case hb => (repeat (first | with_reducible assumption | with_reducible exact Below.refl _ _ | with_reducible apply below_alloc | with_reducible apply pw_below_drewN | with_reducible apply below_drew1))); rintro e w_32 ⟨A3, c3, A4, c4, rfl, h1, h2, h3, hb⟩; have hb2 := below_alloc hb (.cells #[.int .i64 q.kind, .int .i64 q.life, .int .i64 q.piece, .int .i64 q.frm, .int .i64 q.dst, .int .i64 q.fp, .int .i64 q.tp, .int .i64 q.flags, .int .i64 q.label, .bool q.bare, .int .i64 q.code, .slice A3 q.opts.length c3, .slice A4 q.data.length c4] 26); have hz := new_blk w_32 (.cells #[.int .i64 q.kind, .int .i64 q.life, .int .i64 q.piece, .int .i64 q.frm, .int .i64 q.dst, .int .i64 q.fp, .int .i64 q.tp, .int .i64 q.flags, .int .i64 q.label, .bool q.bare, .int .i64 q.code, .slice A3 q.opts.length c3, .slice A4 q.data.length c4] 26); have HX1 := Aside0.mk hb2; have HZ3 := Aside0.mk hz; have HO3 := Aside0.mk (rw_of (Kd.R_alloc h1 (.cells #[.int .i64 q.kind, .int .i64 q.life, .int .i64 q.piece, .int .i64 q.frm, .int .i64 q.dst, .int .i64 q.fp, .int .i64 q.tp, .int .i64 q.flags, .int .i64 q.label, .bool q.bare, .int .i64 q.code, .slice A3 q.opts.length c3, .slice A4 q.data.length c4] 26))); have HD3 := Aside0.mk (rw_of (Kd.R_alloc h2 (.cells #[.int .i64 q.kind, .int .i64 q.life, .int .i64 q.piece, .int .i64 q.frm, .int .i64 q.dst, .int .i64 q.fp, .int .i64 q.tp, .int .i64 q.flags, .int .i64 q.label, .bool q.bare, .int .i64 q.code, .slice A3 q.opts.length c3, .slice A4 q.data.length c4] 26))); clear h1 h2 h3 hb hb2 hz))
      change Code.wp _ _ _ _ (w_32.alloc (.cells #[.int .i64 q.kind, .int .i64 q.life, .int .i64 q.piece, .int .i64 q.frm, .int .i64 q.dst, .int .i64 q.fp, .int .i64 q.tp, .int .i64 q.flags, .int .i64 q.label, .bool q.bare, .int .i64 q.code, .slice A3 q.opts.length c3, .slice A4 q.data.length c4] 26))
      generalize w_32.alloc (.cells #[.int .i64 q.kind, .int .i64 q.life, .int .i64 q.piece, .int .i64 q.frm, .int .i64 q.dst, .int .i64 q.fp, .int .i64 q.tp, .int .i64 q.flags, .int .i64 q.label, .bool q.bare, .int .i64 q.code, .slice A3 q.opts.length c3, .slice A4 q.data.length c4] 26) = w_33 at HX1 HZ3 HO3 HD3 ⊢
      replace HRB := Aside0.mk (HRB.out.below HX1.out)
      replace HRM := Aside0.mk (HRM.out.below HX1.out)
      replace HRW := Aside0.mk (HRW.out.below HX1.out)
      replace HZL := Aside0.mk ((HX1.out.block _ (WB.blk_lt HZL.out)).trans HZL.out)
      replace HCL := Aside0.mk (pw_cell_below HX1.out HCL.out)
      replace HB := Aside0.mk (below_step HB.out HX1.out)
      clear HX1 C31
      clear hcl
      have hcl := HCL.out
      have C34 := Aside0.mk (rparse_at (W0 := w_33) HRW.out HNL.out HLL.out.1 HLL.out.2 N1.out)
      go_upto_region 12 with (first | (go_at_call 24; (with_reducible refine (C34.out _ ?hb).mono ?_); (case hb => (repeat (first | with_reducible assumption | with_reducible exact Below.refl _ _ | with_reducible apply below_alloc | with_reducible apply pw_below_drewN | with_reducible apply below_drew1))); rintro e w_35 ⟨A5, c5, A6, c6, rfl, h1, h2, h3, hb⟩; have hb2 := below_alloc hb (.cells #[.int .i64 q.kind, .int .i64 q.life, .int .i64 q.piece, .int .i64 q.frm, .int .i64 q.dst, .int .i64 q.fp, .int .i64 q.tp, .int .i64 q.flags, .int .i64 q.label, .bool q.bare, .int .i64 q.code, .slice A5 q.opts.length c5, .slice A6 q.data.length c6] 26); have hz := new_blk w_35 (.cells #[.int .i64 q.kind, .int .i64 q.life, .int .i64 q.piece, .int .i64 q.frm, .int .i64 q.dst, .int .i64 q.fp, .int .i64 q.tp, .int .i64 q.flags, .int .i64 q.label, .bool q.bare, .int .i64 q.code, .slice A5 q.opts.length c5, .slice A6 q.data.length c6] 26); have HX1 := Aside0.mk hb2; have HZ5 := Aside0.mk hz; have HO5 := Aside0.mk (rw_of (Kd.R_alloc h1 (.cells #[.int .i64 q.kind, .int .i64 q.life, .int .i64 q.piece, .int .i64 q.frm, .int .i64 q.dst, .int .i64 q.fp, .int .i64 q.tp, .int .i64 q.flags, .int .i64 q.label, .bool q.bare, .int .i64 q.code, .slice A5 q.opts.length c5, .slice A6 q.data.length c6] 26))); have HD5 := Aside0.mk (rw_of (Kd.R_alloc h2 (.cells #[.int .i64 q.kind, .int .i64 q.life, .int .i64 q.piece, .int .i64 q.frm, .int .i64 q.dst, .int .i64 q.fp, .int .i64 q.tp, .int .i64 q.flags, .int .i64 q.label, .bool q.bare, .int .i64 q.code, .slice A5 q.opts.length c5, .slice A6 q.data.length c6] 26))); clear h1 h2 h3 hb hb2 hz))
      change Code.wp _ _ _ _ (w_35.alloc (.cells #[.int .i64 q.kind, .int .i64 q.life, .int .i64 q.piece, .int .i64 q.frm, .int .i64 q.dst, .int .i64 q.fp, .int .i64 q.tp, .int .i64 q.flags, .int .i64 q.label, .bool q.bare, .int .i64 q.code, .slice A5 q.opts.length c5, .slice A6 q.data.length c6] 26))
      generalize w_35.alloc (.cells #[.int .i64 q.kind, .int .i64 q.life, .int .i64 q.piece, .int .i64 q.frm, .int .i64 q.dst, .int .i64 q.fp, .int .i64 q.tp, .int .i64 q.flags, .int .i64 q.label, .bool q.bare, .int .i64 q.code, .slice A5 q.opts.length c5, .slice A6 q.data.length c6] 26) = w_36 at HX1 HZ5 HO5 HD5 ⊢
      replace HRB := Aside0.mk (HRB.out.below HX1.out)
      replace HRM := Aside0.mk (HRM.out.below HX1.out)
      replace HRW := Aside0.mk (HRW.out.below HX1.out)
      replace HO3 := Aside0.mk (HO3.out.below HX1.out)
      replace HD3 := Aside0.mk (HD3.out.below HX1.out)
      replace HZL := Aside0.mk ((HX1.out.block _ (WB.blk_lt HZL.out)).trans HZL.out)
      replace HZ3 := Aside0.mk ((HX1.out.block _ (WB.blk_lt HZ3.out)).trans HZ3.out)
      replace HCL := Aside0.mk (pw_cell_below HX1.out HCL.out)
      replace HB := Aside0.mk (below_step HB.out HX1.out)
      clear HX1 C34
      clear hcl
      go_wp2
      go_roundg (gk - 1)
      case measure => have := HGK.out; omega
      case rel => exact ⟨k + 1, (by first | rfl | go_num), (by show _ = _; have := HK.out; have := HGK.out; omega), HZL.out, HRB.out, HRM.out, HB.out⟩
    · have e1 : decide ((k : Int) < 2) = false := decide_eq_false (by omega)
      clear hlt
      have HBL2 := HBL0
      obtain ⟨wb, hwb⟩ : ∃ x, wholeL bb = x := ⟨_, rfl⟩
      have HWBB := Aside0.mk hwb
      have CW := Aside0.mk (whole_at (W0 := wr) (n := b.length) HRB.out HBL2.out (by have := HLB.out.2; have := HBL2.out; omega) HBY.out hwb)
      clear hwb
      cases wb with
      | false =>
        go_wp2_with (first | (go_at_call 21; (with_reducible refine (CW.out _ ?hb).mono ?_); (case hb => (repeat (first | with_reducible assumption | with_reducible exact Below.refl _ _ | with_reducible apply below_alloc | with_reducible apply pw_below_drewN | with_reducible apply below_drew1))); rintro e w7 ⟨rfl, hx7⟩))
        go_ret
        exact ⟨by simp, below_step HB.out hx7⟩
      | true =>
        obtain ⟨hcut16, hC16⟩ := cut_to (A := some ⟨gb, 0, none⟩) (c := cb) (n := b.length) (l := bb) 16 (jz := 16) rfl (by have := HLB.out.1; omega) HBL2.out (by have := HRB.out.le; rw [HBL2.out] at this; exact this)
        have CR := Aside0.mk (fun W (h : Below wr.heap.size wr W) => (rright_calls (c := cb) (n := 16) (hC16 W (by have := (HRB.out.below h).rd; rw [HBL2.out] at this; exact this)) (by rw [List.length_take, HBL2.out]; have := HLB.out.1; omega) (by have := HRB.out.le; have := HLB.out.1; have := HBL2.out; omega) (HBY.out.take 16) (by rw [List.length_take]; omega)).mono (fun e w' (hh : e = .returned (.bool (fold (pairs (bb.take 16)) == 65535)) ∧ Drawn0 W w') => (by obtain ⟨rfl, ⟨⟨nd2, rfl⟩⟩⟩ := hh; exact ⟨by rw [whole_right HWBB.out], bd h nd2⟩ : e = .returned (.bool true) ∧ Below wr.heap.size wr w')))
        clear hC16
        go_wp2_with (first | (go_at_call 21; (with_reducible refine (CW.out _ ?hb).mono ?_); (case hb => (repeat (first | with_reducible assumption | with_reducible exact Below.refl _ _ | with_reducible apply below_alloc | with_reducible apply pw_below_drewN | with_reducible apply below_drew1))); rintro e w7 ⟨rfl, hx7⟩) | (go_at_call 33; (with_reducible refine (CR.out _ ?hb).mono ?_); (case hb => (repeat (first | with_reducible assumption | with_reducible exact Below.refl _ _ | with_reducible apply below_alloc | with_reducible apply pw_below_drewN | with_reducible apply below_drew1))); rintro e w8 ⟨rfl, hx8⟩))
        go_ret
        exact ⟨by simp, below_step HB.out hx8⟩
end Go.Proofs.Ytbjhmifhmojaoaa.PL
