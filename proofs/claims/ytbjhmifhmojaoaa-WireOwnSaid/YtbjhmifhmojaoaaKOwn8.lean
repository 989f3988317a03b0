/- Lemmas and contracts that the row YtbjhmifhmojaoaaLawWireOwn goes by (part 8; joined by pack.py out of this session's texts, and of words that the kit's print lays). -/
import Derived.Test.YtbjhmifhmojaoaaKOwn7
namespace Go.Proofs.Ytbjhmifhmojaoaa.PL
set_option linter.unusedVariables false
set_option linter.unusedSimpArgs false
open Go.RowKit Go.Proofs.Ytbjhmifhmojaoaa.Hp Go.Proofs.Ytbjhmifhmojaoaa.SB Go.Proofs.YtbjhmifhmojaoaaW.PrintWords Go.Proofs.YtbjhmifhmojaoaaW.PrintLast Go.Proofs.YtbjhmifhmojaoaaW.PrintMore Go.Proofs.Ytbjhmifhmojaoaa.WB
theorem bodyT_len (bare : Bool) (was L : List Int) (a n : Nat) : (bodyT bare was L a n).length = L.length := by
  unfold bodyT; split
  · rfl
  · exact turnL_len ..
theorem ageR_len (l : List Int) : (ageR l).1.length ≤ l.length := by
  unfold ageR
  split
  · exact Nat.zero_le _
  · split
    · exact Nat.zero_le _
    · show (ageL _ l).length ≤ _
      unfold ageL; rw [doneL_len, turnL_len, List.length_set]; exact Nat.le_refl _
theorem natR_len (l : List Int) (s : Bool) (a b : Int) : (natR l s a b).1.length ≤ l.length := by
  unfold natR
  split
  · exact Nat.zero_le _
  · split
    · exact Nat.zero_le _
    · split
      · exact Nat.zero_le _
      · show (natL _ l _ _ _ _).length ≤ _
        unfold natL; rw [doneL_len, bodyT_len, bodyT_len, turnL_len, putL_len, putL_len]; exact Nat.le_refl _
theorem writeR_len (l : List Int) (i m v : Int) : (writeR l i m v).1.length ≤ l.length := by
  unfold writeR
  split
  · exact Nat.zero_le _
  · split
    · show (writeL _ l _ _ _).length ≤ _
      unfold writeL; rw [doneL_len, bodyT_len, putL_len]; exact Nat.le_refl _
    · exact Nat.zero_le _
theorem own_slice {g n c : Nat} : (Value.slice (some ⟨g, 0, none⟩) n c).ownBlock = some g := rfl

set_option maxHeartbeats 4000000 in
set_option maxRecDepth 100000 in
theorem WireOwn_walk (a0 : Int) (a1 : Option Addr) (len1 cap1 : Nat) (z1 : List Int) (a2 : Option Addr) (len2 cap2 : Nat) (z2 : List Int) (w : World) (w0 : (Lit.int .i64 a0).wf = true) (w1 : (a1 = none ∧ len1 = 0 ∧ cap1 = 0 ∧ z1 = []) ∨ ∃ x, a1 = some x ∧ len1 ≤ cap1 ∧ cap1 ≤ maxLen ∧ z1.length = cap1 ∧ (∀ j, j < z1.length → w.cell? (x.add j) = some (.int .i64 (z1.getD j 0))) ∧ ∀ n ∈ z1, (Lit.int .i64 n).wf = true) (y1 : len1 * 8 ≤ 140737488351232) (w2 : (a2 = none ∧ len2 = 0 ∧ cap2 = 0 ∧ z2 = []) ∨ ∃ x, a2 = some x ∧ len2 ≤ cap2 ∧ cap2 ≤ maxLen ∧ z2.length = cap2 ∧ (∀ j, j < z2.length → w.cell? (x.add j) = some (.int .u8 (z2.getD j 0))) ∧ ∀ n ∈ z2, (Lit.int .u8 n).wf = true) (y2 : len2 * 1 ≤ 140737488351232) :
    Calls Try.prog 14 #[.int .i64 a0, .slice a1 len1 cap1, .slice a2 len2 cap2] w fun e w' => e = .returned (.bool true) ∧ Below w.heap.size w w' := by
  have HA0 := Aside0.mk w0
  clear w0
  obtain ⟨ns1, rfl, hr1, hm1, hw1, hc1⟩ := ReadsInt.ofRowC w1
  have HN1 := Aside0.mk (And.intro (show Kd.C (Kd.int .i64) w a1 ns1.length ns1 from Kd.C_of_reads (d := (0 : Int)) (h1 := fun _ => rfl) hr1) hc1)
  have HW1 := Aside0.mk hw1
  have HS1 := Aside0.mk y1
  clear hr1 hm1 hw1 hc1 w1 y1
  obtain ⟨l2, rfl, hr2, hm2, hw2, hc2⟩ := ReadsInt.ofRowC w2
  have HR2 := Aside0.mk (⟨Kd.C_of_reads (d := (0 : Int)) (h1 := fun _ => rfl) hr2, hc2⟩ : Rw w a2 cap2 l2)
  have HY2 := Aside0.mk (bytes_of_wf hw2)
  have HS2 := Aside0.mk y2
  clear hr2 hm2 hw2 hc2 w2 y2
  obtain ⟨p, hp⟩ : ∃ p, makeP a0 ns1 l2 = p := ⟨_, rfl⟩
  have HMK := Aside0.mk (show MkOk p ∧ p.kind = 1 + a0 % 3 from by rw [← hp]; exact makeP_ok a0 HY2.out)
  have HMP := Aside0.mk hp
  have KN := Aside0.mk (known_calls w)
  clear hp
  obtain ⟨b, hbb⟩ : ∃ b, buildL p = b := ⟨_, rfl⟩
  obtain ⟨ob, pb, wb, lb, yb⟩ := parse_build HMK.out.1.e HMK.out.1.c
  rw [hbb] at ob pb wb lb yb
  have HBB := Aside0.mk hbb
  have HPB := Aside0.mk (show parseL b = (p, 0) from by rw [ob.parse, pb])
  have HWB := Aside0.mk wb
  have HOK := Aside0.mk ob
  have HLB := Aside0.mk (show 24 ≤ b.length ∧ b.length ≤ 264 from ⟨ob.h24, by rw [lb]; exact nL_le HMK.out.1⟩)
  have HYB := Aside0.mk yb
  clear hbb ob pb wb lb yb
  go_enter Try.func14, Try.ntmps14
  go_upto_region 3 with (first | (go_at_call 15; (with_reducible refine KN.out.mono ?_); rintro e w0 ⟨rfl, hb0⟩; have HB0 := Aside0.mk hb0; clear hb0))
  have CM := Aside0.mk (make_at (W0 := w0) a0 (Kd.C_below HN1.out.1 HB0.out) rfl HN1.out.2 (by have := HS1.out; omega) (HR2.out.below HB0.out) rfl (by have := HS2.out; omega) HY2.out HMP.out)
  go_upto_region 4 with (first | (go_at_call 16; (with_reducible refine (CM.out _ ?hb).mono ?_); (case hb => (repeat (first | with_reducible assumption | with_reducible exact Below.refl _ _ | with_reducible apply below_alloc | with_reducible apply pw_below_drewN | with_reducible apply below_drew1))); rintro e w1 ⟨A1, c1, B1, d1, rfl, h1, h2, h3, hb1⟩; have HB1 := Aside0.mk hb1; have HO1 := Aside0.mk h1; have HD1 := Aside0.mk h2; have CM2 := Aside0.mk (make_at (W0 := w1) a0 (Kd.C_below HN1.out.1 (below_step HB0.out hb1)) rfl HN1.out.2 (by have := HS1.out; omega) ((HR2.out.below HB0.out).below hb1) rfl (by have := HS2.out; omega) HY2.out HMP.out); clear CM h1 h2 h3 hb1) | (go_at_call 16; (with_reducible refine (CM2.out _ ?hb).mono ?_); (case hb => (repeat (first | with_reducible assumption | with_reducible exact Below.refl _ _ | with_reducible apply below_alloc | with_reducible apply pw_below_drewN | with_reducible apply below_drew1))); rintro e w2 ⟨A2, c2, B2, d2, rfl, h1, h2, h3, hb2⟩; have hx1 := below_alloc (Below.refl w2.heap.size w2) (.cells #[.int .i64 p.kind, .int .i64 p.life, .int .i64 p.piece, .int .i64 p.frm, .int .i64 p.dst, .int .i64 p.fp, .int .i64 p.tp, .int .i64 p.flags, .int .i64 p.label, .bool p.bare, .int .i64 p.code, .slice A1 p.opts.length c1, .slice B1 p.data.length d1] 26); have hx2 := below_alloc hx1 (.cells #[.int .i64 p.kind, .int .i64 p.life, .int .i64 p.piece, .int .i64 p.frm, .int .i64 p.dst, .int .i64 p.fp, .int .i64 p.tp, .int .i64 p.flags, .int .i64 p.label, .bool p.bare, .int .i64 p.code, .slice A2 p.opts.length c2, .slice B2 p.data.length d2] 26); have HX := Aside0.mk (below_step hb2 hx2); have HO2 := Aside0.mk (Kd.R_alloc (Kd.R_alloc h1 (.cells #[.int .i64 p.kind, .int .i64 p.life, .int .i64 p.piece, .int .i64 p.frm, .int .i64 p.dst, .int .i64 p.fp, .int .i64 p.tp, .int .i64 p.flags, .int .i64 p.label, .bool p.bare, .int .i64 p.code, .slice A1 p.opts.length c1, .slice B1 p.data.length d1] 26)) (.cells #[.int .i64 p.kind, .int .i64 p.life, .int .i64 p.piece, .int .i64 p.frm, .int .i64 p.dst, .int .i64 p.fp, .int .i64 p.tp, .int .i64 p.flags, .int .i64 p.label, .bool p.bare, .int .i64 p.code, .slice A2 p.opts.length c2, .slice B2 p.data.length d2] 26)); have HD2 := Aside0.mk (Kd.R_alloc (Kd.R_alloc h2 (.cells #[.int .i64 p.kind, .int .i64 p.life, .int .i64 p.piece, .int .i64 p.frm, .int .i64 p.dst, .int .i64 p.fp, .int .i64 p.tp, .int .i64 p.flags, .int .i64 p.label, .bool p.bare, .int .i64 p.code, .slice A1 p.opts.length c1, .slice B1 p.data.length d1] 26)) (.cells #[.int .i64 p.kind, .int .i64 p.life, .int .i64 p.piece, .int .i64 p.frm, .int .i64 p.dst, .int .i64 p.fp, .int .i64 p.tp, .int .i64 p.flags, .int .i64 p.label, .bool p.bare, .int .i64 p.code, .slice A2 p.opts.length c2, .slice B2 p.data.length d2] 26)); have HZ1 := Aside0.mk (((below_alloc (Below.refl _ (w2.alloc (.cells #[.int .i64 p.kind, .int .i64 p.life, .int .i64 p.piece, .int .i64 p.frm, .int .i64 p.dst, .int .i64 p.fp, .int .i64 p.tp, .int .i64 p.flags, .int .i64 p.label, .bool p.bare, .int .i64 p.code, .slice A1 p.opts.length c1, .slice B1 p.data.length d1] 26))) (.cells #[.int .i64 p.kind, .int .i64 p.life, .int .i64 p.piece, .int .i64 p.frm, .int .i64 p.dst, .int .i64 p.fp, .int .i64 p.tp, .int .i64 p.flags, .int .i64 p.label, .bool p.bare, .int .i64 p.code, .slice A2 p.opts.length c2, .slice B2 p.data.length d2] 26)).block _ (WB.blk_lt (new_blk w2 (.cells #[.int .i64 p.kind, .int .i64 p.life, .int .i64 p.piece, .int .i64 p.frm, .int .i64 p.dst, .int .i64 p.fp, .int .i64 p.tp, .int .i64 p.flags, .int .i64 p.label, .bool p.bare, .int .i64 p.code, .slice A1 p.opts.length c1, .slice B1 p.data.length d1] 26)))).trans (new_blk w2 (.cells #[.int .i64 p.kind, .int .i64 p.life, .int .i64 p.piece, .int .i64 p.frm, .int .i64 p.dst, .int .i64 p.fp, .int .i64 p.tp, .int .i64 p.flags, .int .i64 p.label, .bool p.bare, .int .i64 p.code, .slice A1 p.opts.length c1, .slice B1 p.data.length d1] 26))); have HZ2 := Aside0.mk (new_blk (w2.alloc (.cells #[.int .i64 p.kind, .int .i64 p.life, .int .i64 p.piece, .int .i64 p.frm, .int .i64 p.dst, .int .i64 p.fp, .int .i64 p.tp, .int .i64 p.flags, .int .i64 p.label, .bool p.bare, .int .i64 p.code, .slice A1 p.opts.length c1, .slice B1 p.data.length d1] 26)) (.cells #[.int .i64 p.kind, .int .i64 p.life, .int .i64 p.piece, .int .i64 p.frm, .int .i64 p.dst, .int .i64 p.fp, .int .i64 p.tp, .int .i64 p.flags, .int .i64 p.label, .bool p.bare, .int .i64 p.code, .slice A2 p.opts.length c2, .slice B2 p.data.length d2] 26)); clear CM2 h1 h2 h3 hb2 hx1 hx2))
  change Code.wp _ _ _ _ ((w2.alloc (.cells #[.int .i64 p.kind, .int .i64 p.life, .int .i64 p.piece, .int .i64 p.frm, .int .i64 p.dst, .int .i64 p.fp, .int .i64 p.tp, .int .i64 p.flags, .int .i64 p.label, .bool p.bare, .int .i64 p.code, .slice A1 p.opts.length c1, .slice B1 p.data.length d1] 26)).alloc (.cells #[.int .i64 p.kind, .int .i64 p.life, .int .i64 p.piece, .int .i64 p.frm, .int .i64 p.dst, .int .i64 p.fp, .int .i64 p.tp, .int .i64 p.flags, .int .i64 p.label, .bool p.bare, .int .i64 p.code, .slice A2 p.opts.length c2, .slice B2 p.data.length d2] 26))
  replace HZ2 := Aside0.mk (show ((w2.alloc (.cells #[.int .i64 p.kind, .int .i64 p.life, .int .i64 p.piece, .int .i64 p.frm, .int .i64 p.dst, .int .i64 p.fp, .int .i64 p.tp, .int .i64 p.flags, .int .i64 p.label, .bool p.bare, .int .i64 p.code, .slice A1 p.opts.length c1, .slice B1 p.data.length d1] 26)).alloc (.cells #[.int .i64 p.kind, .int .i64 p.life, .int .i64 p.piece, .int .i64 p.frm, .int .i64 p.dst, .int .i64 p.fp, .int .i64 p.tp, .int .i64 p.flags, .int .i64 p.label, .bool p.bare, .int .i64 p.code, .slice A2 p.opts.length c2, .slice B2 p.data.length d2] 26)).heap[w2.heap.size + 1]? = some (.cells #[.int .i64 p.kind, .int .i64 p.life, .int .i64 p.piece, .int .i64 p.frm, .int .i64 p.dst, .int .i64 p.fp, .int .i64 p.tp, .int .i64 p.flags, .int .i64 p.label, .bool p.bare, .int .i64 p.code, .slice A2 p.opts.length c2, .slice B2 p.data.length d2] 26) from by have h_ := HZ2.out; rw [show (w2.alloc (.cells #[.int .i64 p.kind, .int .i64 p.life, .int .i64 p.piece, .int .i64 p.frm, .int .i64 p.dst, .int .i64 p.fp, .int .i64 p.tp, .int .i64 p.flags, .int .i64 p.label, .bool p.bare, .int .i64 p.code, .slice A1 p.opts.length c1, .slice B1 p.data.length d1] 26)).heap.size = w2.heap.size + 1 from Array.size_push _] at h_; exact h_)
  generalize (w2.alloc (.cells #[.int .i64 p.kind, .int .i64 p.life, .int .i64 p.piece, .int .i64 p.frm, .int .i64 p.dst, .int .i64 p.fp, .int .i64 p.tp, .int .i64 p.flags, .int .i64 p.label, .bool p.bare, .int .i64 p.code, .slice A1 p.opts.length c1, .slice B1 p.data.length d1] 26)).alloc (.cells #[.int .i64 p.kind, .int .i64 p.life, .int .i64 p.piece, .int .i64 p.frm, .int .i64 p.dst, .int .i64 p.fp, .int .i64 p.tp, .int .i64 p.flags, .int .i64 p.label, .bool p.bare, .int .i64 p.code, .slice A2 p.opts.length c2, .slice B2 p.data.length d2] 26) = wa at HX HO2 HD2 HZ1 HZ2 ⊢
  have HB := Aside0.mk (below_step (below_step HB0.out HB1.out) HX.out)
  have HO := Aside0.mk (rw_of (Kd.R_below HO1.out HX.out))
  have HD := Aside0.mk (rw_of (Kd.R_below HD1.out HX.out))
  replace HO2 := Aside0.mk (rw_of HO2.out)
  replace HD2 := Aside0.mk (rw_of HD2.out)
  obtain ⟨g1, hg1⟩ : ∃ g, w2.heap.size = g := ⟨_, rfl⟩
  rw [hg1] at HZ1 HZ2
  rw [hg1]
  clear hg1 HB0 HB1 HX HO1 HD1
  obtain ⟨k0, k1, k2, k3, k4, k5, k6, k7, k8, k9, k10, k11, k12⟩ := c13 HZ1.out
  have C1 := Aside0.mk (build_at (W0 := wa) HO.out HD.out rfl rfl HMK.out.1.e HMK.out.1.c (by have := HMK.out.1.o; omega) (by have := HMK.out.1.d; omega) HBB.out)
  go_upto_region 5 with (first | (go_at_call 17; (with_reducible refine (C1.out _ ?hb).mono ?_); (case hb => (repeat (first | with_reducible assumption | with_reducible exact Below.refl _ _ | with_reducible apply below_alloc | with_reducible apply pw_below_drewN | with_reducible apply below_drew1))); rintro e w_2 ⟨Ab, cb, rfl, hr, hb⟩; replace HO := Aside0.mk (HO.out.below hb); replace HD := Aside0.mk (HD.out.below hb); replace HO2 := Aside0.mk (HO2.out.below hb); replace HD2 := Aside0.mk (HD2.out.below hb); replace HZ1 := Aside0.mk ((hb.block _ (WB.blk_lt HZ1.out)).trans HZ1.out); replace HZ2 := Aside0.mk ((hb.block _ (WB.blk_lt HZ2.out)).trans HZ2.out); replace HB := Aside0.mk (below_step HB.out hb); have HRB := Aside0.mk (rw_of hr); clear hr hb))
  clear C1
  clear k0 k1 k2 k3 k4 k5 k6 k7 k8 k9 k10 k11 k12
  have hcv1 := Kd.C_string (P := Try.prog) (A := Ab) (c := cb) Try.underlying23 Try.underlying5 Try.underlying9 HRB.out.rd
  go_upto_region 6 with fail
  clear hcv1
  have CQ := Aside0.mk (parse_at (W0 := w_2) HRB.out rfl (by have := HLB.out.2; omega) HYB.out HPB.out)
  go_upto_region 7 with (first | (go_at_call 19; (with_reducible refine (CQ.out _ ?hb).mono ?_); (case hb => (repeat (first | with_reducible assumption | with_reducible exact Below.refl _ _ | with_reducible apply below_alloc | with_reducible apply pw_below_drewN | with_reducible apply below_drew1))); rintro e wq ⟨A3, c3, A4, c4, rfl, h1, h2, h3, hb⟩; have HX3 := Aside0.mk (below_alloc hb (.cells #[.int .i64 p.kind, .int .i64 p.life, .int .i64 p.piece, .int .i64 p.frm, .int .i64 p.dst, .int .i64 p.fp, .int .i64 p.tp, .int .i64 p.flags, .int .i64 p.label, .bool p.bare, .int .i64 p.code, .slice A3 p.opts.length c3, .slice A4 p.data.length c4] 26)); have HZ3 := Aside0.mk (new_blk wq (.cells #[.int .i64 p.kind, .int .i64 p.life, .int .i64 p.piece, .int .i64 p.frm, .int .i64 p.dst, .int .i64 p.fp, .int .i64 p.tp, .int .i64 p.flags, .int .i64 p.label, .bool p.bare, .int .i64 p.code, .slice A3 p.opts.length c3, .slice A4 p.data.length c4] 26)); have HO3 := Aside0.mk (Kd.R_alloc h1 (.cells #[.int .i64 p.kind, .int .i64 p.life, .int .i64 p.piece, .int .i64 p.frm, .int .i64 p.dst, .int .i64 p.fp, .int .i64 p.tp, .int .i64 p.flags, .int .i64 p.label, .bool p.bare, .int .i64 p.code, .slice A3 p.opts.length c3, .slice A4 p.data.length c4] 26)); have HD3 := Aside0.mk (Kd.R_alloc h2 (.cells #[.int .i64 p.kind, .int .i64 p.life, .int .i64 p.piece, .int .i64 p.frm, .int .i64 p.dst, .int .i64 p.fp, .int .i64 p.tp, .int .i64 p.flags, .int .i64 p.label, .bool p.bare, .int .i64 p.code, .slice A3 p.opts.length c3, .slice A4 p.data.length c4] 26)); have HSP := Aside0.mk h3; have HN1 := Aside0.mk (fun e => Nat.lt_irrefl _ (Kd.R_lt h1 wq.heap.size e)); have HN2 := Aside0.mk (fun e => Nat.lt_irrefl _ (Kd.R_lt h2 wq.heap.size e)); clear h1 h2 h3 hb))
  change Code.wp _ _ _ _ (wq.alloc (.cells #[.int .i64 p.kind, .int .i64 p.life, .int .i64 p.piece, .int .i64 p.frm, .int .i64 p.dst, .int .i64 p.fp, .int .i64 p.tp, .int .i64 p.flags, .int .i64 p.label, .bool p.bare, .int .i64 p.code, .slice A3 p.opts.length c3, .slice A4 p.data.length c4] 26))
  obtain ⟨g3, hg3⟩ : ∃ g, wq.heap.size = g := ⟨_, rfl⟩
  rw [hg3] at HZ3 HN1 HN2
  generalize wq.alloc (.cells #[.int .i64 p.kind, .int .i64 p.life, .int .i64 p.piece, .int .i64 p.frm, .int .i64 p.dst, .int .i64 p.fp, .int .i64 p.tp, .int .i64 p.flags, .int .i64 p.label, .bool p.bare, .int .i64 p.code, .slice A3 p.opts.length c3, .slice A4 p.data.length c4] 26) = wb at HX3 HZ3 HO3 HD3 ⊢
  rw [hg3]
  clear hg3 CQ
  have HL4 := Aside0.mk (show p.data.length ≤ 200 from HMK.out.1.d)
  have HL3 := Aside0.mk (show p.opts.length ≤ 40 from HMK.out.1.o)
  go_wp2
  go_loopg [14] p.data.length (fun kq v14 w' => ∃ (k : Nat) (l : List Int), v14 = .int .i64 (k : Int) ∧ Aside (k + kq = p.data.length) ∧ Aside (l.length = p.data.length) ∧ Aside (w'.heap[g3]? = some (.cells #[.int .i64 p.kind, .int .i64 p.life, .int .i64 p.piece, .int .i64 p.frm, .int .i64 p.dst, .int .i64 p.fp, .int .i64 p.tp, .int .i64 p.flags, .int .i64 p.label, .bool p.bare, .int .i64 p.code, .slice A3 p.opts.length c3, .slice A4 p.data.length c4] 26 (0, 0))) ∧ RB w_2.heap.size w' (.slice A4 p.data.length c4) l ∧ Below w_2.heap.size w_2 w' ∧ RB w_2.heap.size w' (.slice A3 p.opts.length c3) p.opts)
  case atStart =>
    exact ⟨0, p.data, rfl, (by show _ = _; omega), (by show _ = _; rfl), HZ3.out, HD3.out, HX3.out, HO3.out⟩
  case round =>
    obtain ⟨k, l, rfl, hk, hl, hz, hr, hbw, ho⟩ := hrel
    have HK := Aside0.mk hk.out
    have HLL := Aside0.mk hl.out
    replace HZ3 := Aside0.mk hz.out
    replace HD3 := Aside0.mk hr
    replace HX3 := Aside0.mk hbw
    replace HO3 := Aside0.mk ho
    clear hk hl hz hr hbw ho
    obtain ⟨k0, k1, k2, k3, k4, k5, k6, k7, k8, k9, k10, k11, k12⟩ := c13 HZ3.out
    by_cases hlt : k < p.data.length
    · have e1 : decide ((k : Int) < (p.data.length : Int)) = true := decide_eq_true (by omega)
      have e2 : decide (k < p.data.length) = true := decide_eq_true (by omega)
      have i1 : (k : Int) < (p.data.length : Int) := by omega
      have HGK := Aside0.mk (show 0 < gk from by have := HK.out; omega)
      have hnw : Go.IntKind.i64.wrap ((k : Int) + 1) = (k : Int) + 1 := wrap_i64w _ (by omega) (by have := HL4.out; omega)
      obtain ⟨gb, cb2, ev, hgb⟩ := rb_form HD3.out (by have := HLL.out; omega)
      injection ev with ev1 ev2 ev3
      subst ev1 ev3
      have HGB := Aside0.mk hgb
      have HGN := Aside0.mk (show gb ≠ g3 from fun e => HN2.out (by rw [own_slice, e]))
      have r1 := rb_cell HD3.out k hlt
      have r2 := rb_frozen HD3.out k
      clear hgb ev2
      go_upto_region 9 with fail
      generalize hW : World.setCell _ _ _ = w4
      have hb4 : Below w_2.heap.size w_2 w4 := by rw [← hW]; exact HX3.out.setCell (p := ⟨gb, k, none⟩) HGB.out _
      have hz4 : w4.heap[g3]? = some (.cells #[.int .i64 p.kind, .int .i64 p.life, .int .i64 p.piece, .int .i64 p.frm, .int .i64 p.dst, .int .i64 p.fp, .int .i64 p.tp, .int .i64 p.flags, .int .i64 p.label, .bool p.bare, .int .i64 p.code, .slice A3 p.opts.length c3, .slice (some ⟨gb, 0, none⟩) p.data.length c4] 26 (0, 0)) := by rw [← hW, Below.heap_setCell _ _ _ _ (fun e => HGN.out e.symm)]; exact HZ3.out
      have hr4 : ∃ l2 : List Int, l2.length = p.data.length ∧ RB w_2.heap.size w4 (.slice (some ⟨gb, 0, none⟩) p.data.length c4) l2 := ⟨l.set k (((l[k]?.getD 0) + 1) % 256), by rw [List.length_set]; exact HLL.out, by rw [← hW]; exact rb_set HD3.out k _⟩
      obtain ⟨l2, hl2, hr5⟩ := hr4
      have HB4 := Aside0.mk hb4
      have HZ4 := Aside0.mk hz4
      have HR4 := Aside0.mk hr5
      have HL4' := Aside0.mk hl2
      have HO4 := Aside0.mk (show RB w_2.heap.size w4 (.slice A3 p.opts.length c3) p.opts from by rw [← hW]; exact RB_far HO3.out (fun e => HSP.out gb e own_slice) k)
      clear r1 r2 hW hb4 hz4 hr5 hl2
      clear k0 k1 k2 k3 k4 k5 k6 k7 k8 k9 k10 k11 k12
      go_wp2
      go_roundg (gk - 1)
      case measure => have := HGK.out; omega
      case rel => exact ⟨k + 1, l2, (by first | rfl | go_num), (by show _ = _; have := HK.out; have := HGK.out; omega), HL4'.out, HZ4.out, HR4.out, HB4.out, HO4.out⟩
    · have e1 : decide ((k : Int) < (p.data.length : Int)) = false := decide_eq_false (by omega)
      have e2 : decide (k < p.data.length) = false := decide_eq_false (by omega)
      clear hlt
      go_upto_region 11 with fail
      clear k0 k1 k2 k3 k4 k5 k6 k7 k8 k9 k10 k11 k12 e1 e2 HK HLL
      go_wp2
      go_loopg [15] p.opts.length (fun kq v15 w' => ∃ (k : Nat) (l : List Int), v15 = .int .i64 (k : Int) ∧ Aside (k + kq = p.opts.length) ∧ Aside (l.length = p.opts.length) ∧ Aside (w'.heap[g3]? = some (.cells #[.int .i64 p.kind, .int .i64 p.life, .int .i64 p.piece, .int .i64 p.frm, .int .i64 p.dst, .int .i64 p.fp, .int .i64 p.tp, .int .i64 p.flags, .int .i64 p.label, .bool p.bare, .int .i64 p.code, .slice A3 p.opts.length c3, .slice A4 p.data.length c4] 26 (0, 0))) ∧ RB w_2.heap.size w' (.slice A3 p.opts.length c3) l ∧ Below w_2.heap.size w_2 w')
      case atStart =>
        exact ⟨0, p.opts, rfl, (by show _ = _; omega), (by show _ = _; rfl), HZ3.out, HO3.out, HX3.out⟩
      case round =>
        obtain ⟨k, l, rfl, hk, hl, hz, hr, hbw⟩ := hrel
        have HK := Aside0.mk hk.out
        have HLL := Aside0.mk hl.out
        replace HZ3 := Aside0.mk hz.out
        replace HO3 := Aside0.mk hr
        replace HX3 := Aside0.mk hbw

        clear hk hl hz hr hbw
        obtain ⟨k0, k1, k2, k3, k4, k5, k6, k7, k8, k9, k10, k11, k12⟩ := c13 HZ3.out
        by_cases hlt : k < p.opts.length
        · have e1 : decide ((k : Int) < (p.opts.length : Int)) = true := decide_eq_true (by omega)
          have e2 : decide (k < p.opts.length) = true := decide_eq_true (by omega)
          have i1 : (k : Int) < (p.opts.length : Int) := by omega
          have HGK := Aside0.mk (show 0 < gk from by have := HK.out; omega)
          have hnw : Go.IntKind.i64.wrap ((k : Int) + 1) = (k : Int) + 1 := wrap_i64w _ (by omega) (by have := HL3.out; omega)
          obtain ⟨gb, cb2, ev, hgb⟩ := rb_form HO3.out (by have := HLL.out; omega)
          injection ev with ev1 ev2 ev3
          subst ev1 ev3
          have HGB := Aside0.mk hgb
          have HGN := Aside0.mk (show gb ≠ g3 from fun e => HN1.out (by rw [own_slice, e]))
          have r1 := rb_cell HO3.out k hlt
          have r2 := rb_frozen HO3.out k
          clear hgb ev2
          go_upto_region 13 with fail
          generalize hW : World.setCell _ _ _ = w4
          have hb4 : Below w_2.heap.size w_2 w4 := by rw [← hW]; exact HX3.out.setCell (p := ⟨gb, k, none⟩) HGB.out _
          have hz4 : w4.heap[g3]? = some (.cells #[.int .i64 p.kind, .int .i64 p.life, .int .i64 p.piece, .int .i64 p.frm, .int .i64 p.dst, .int .i64 p.fp, .int .i64 p.tp, .int .i64 p.flags, .int .i64 p.label, .bool p.bare, .int .i64 p.code, .slice (some ⟨gb, 0, none⟩) p.opts.length c3, .slice A4 p.data.length c4] 26 (0, 0)) := by rw [← hW, Below.heap_setCell _ _ _ _ (fun e => HGN.out e.symm)]; exact HZ3.out
          have hr4 : ∃ l2 : List Int, l2.length = p.opts.length ∧ RB w_2.heap.size w4 (.slice (some ⟨gb, 0, none⟩) p.opts.length c3) l2 := ⟨l.set k (((l[k]?.getD 0) + 1) % 256), by rw [List.length_set]; exact HLL.out, by rw [← hW]; exact rb_set HO3.out k _⟩
          obtain ⟨l2, hl2, hr5⟩ := hr4
          have HB4 := Aside0.mk hb4
          have HZ4 := Aside0.mk hz4
          have HR4 := Aside0.mk hr5
          have HL4' := Aside0.mk hl2

          clear r1 r2 hW hb4 hz4 hr5 hl2
          clear k0 k1 k2 k3 k4 k5 k6 k7 k8 k9 k10 k11 k12
          go_wp2
          go_roundg (gk - 1)
          case measure => have := HGK.out; omega
          case rel => exact ⟨k + 1, l2, (by first | rfl | go_num), (by show _ = _; have := HK.out; have := HGK.out; omega), HL4'.out, HZ4.out, HR4.out, HB4.out⟩
        · have e1 : decide ((k : Int) < (p.opts.length : Int)) = false := decide_eq_false (by omega)
          have e2 : decide (k < p.opts.length) = false := decide_eq_false (by omega)
          clear hlt
          go_upto_region 15 with fail
          clear k0 k1 k2 k3 k4 k5 k6 k7 k8 k9 k10 k11 k12 e1 e2 HK HLL
          replace HO := Aside0.mk (HO.out.below HX3.out)
          replace HD := Aside0.mk (HD.out.below HX3.out)
          replace HO2 := Aside0.mk (HO2.out.below HX3.out)
          replace HD2 := Aside0.mk (HD2.out.below HX3.out)
          replace HRB := Aside0.mk (HRB.out.below HX3.out)
          replace HZ1 := Aside0.mk ((HX3.out.block _ (WB.blk_lt HZ1.out)).trans HZ1.out)
          replace HZ2 := Aside0.mk ((HX3.out.block _ (WB.blk_lt HZ2.out)).trans HZ2.out)
          replace HB := Aside0.mk (below_step HB.out HX3.out)
          clear HX3 HO3 HZ3 HN1 HN2 HSP
          rename World => wr3
          have HL10 := Aside0.mk (show b.length ≤ 10000 from by have := HLB.out.2; omega)
          obtain ⟨⟨y5, z5⟩, hy⟩ : ∃ r, ageR b = r := ⟨_, rfl⟩
          have HL5 := Aside0.mk (show y5.length ≤ 264 from by have h_ := ageR_len b; rw [hy] at h_; exact Nat.le_trans h_ HLB.out.2)
          have HYY := Aside0.mk hy
          clear hy
          have CC := Aside0.mk (age_at (W0 := wr3) HRB.out rfl HL10.out HYB.out HYY.out)
          go_upto_region 16 with (first | (go_at_call 30; (with_reducible refine (CC.out _ ?hb).mono ?_); (case hb => (repeat (first | with_reducible assumption | with_reducible exact Below.refl _ _ | with_reducible apply below_alloc | with_reducible apply pw_below_drewN | with_reducible apply below_drew1))); rintro e wx5 ⟨A5, c5, rfl, hr, hb⟩; have HR5 := Aside0.mk hr; have HX5 := Aside0.mk hb; clear hr hb))
          clear CC HYY
          go_wp2
          go_loopg [18] y5.length (fun kq v18 w' => ∃ (k : Nat) (l : List Int), v18 = .int .i64 (k : Int) ∧ Aside (k + kq = y5.length) ∧ Aside (l.length = y5.length) ∧ RB wr3.heap.size w' (.slice A5 y5.length c5) l ∧ Below wr3.heap.size wr3 w')
          case atStart =>
            exact ⟨0, y5, rfl, (by show _ = _; omega), (by show _ = _; rfl), HR5.out, HX5.out⟩
          case round =>
            obtain ⟨k, l, rfl, hk, hl, hr, hbw⟩ := hrel
            have HK := Aside0.mk hk.out
            have HLL := Aside0.mk hl.out
            replace HR5 := Aside0.mk hr
            replace HX5 := Aside0.mk hbw
            clear hk hl hr hbw
            by_cases hlt : k < y5.length
            · have e1 : decide ((k : Int) < (y5.length : Int)) = true := decide_eq_true (by omega)
              have e2 : decide (k < y5.length) = true := decide_eq_true (by omega)
              have i1 : (k : Int) < (y5.length : Int) := by omega
              have HGK := Aside0.mk (show 0 < gk from by have := HK.out; omega)
              have hnw : Go.IntKind.i64.wrap ((k : Int) + 1) = (k : Int) + 1 := wrap_i64w _ (by omega) (by have := HL5.out; omega)
              obtain ⟨gb, cb2, ev, hgb⟩ := rb_form HR5.out (by have := HLL.out; omega)
              injection ev with ev1 ev2 ev3
              subst ev1 ev3
              have HGB := Aside0.mk hgb
              have r1 := rb_cell HR5.out k hlt
              have r2 := rb_frozen HR5.out k
              clear hgb ev2
              go_upto_region 18 with fail
              generalize hW : World.setCell _ _ _ = w4
              have hb4 : Below wr3.heap.size wr3 w4 := by rw [← hW]; exact HX5.out.setCell (p := ⟨gb, k, none⟩) HGB.out _
              have hr4 : ∃ l2 : List Int, l2.length = y5.length ∧ RB wr3.heap.size w4 (.slice (some ⟨gb, 0, none⟩) y5.length c5) l2 := ⟨l.set k (((l[k]?.getD 0) + 1) % 256), by rw [List.length_set]; exact HLL.out, by rw [← hW]; exact rb_set HR5.out k _⟩
              obtain ⟨l2, hl2, hr5⟩ := hr4
              have HB4 := Aside0.mk hb4
              have HR4 := Aside0.mk hr5
              have HL4 := Aside0.mk hl2
              clear r1 r2 hW hb4 hr5 hl2
              go_wp2
              go_roundg (gk - 1)
              case measure => have := HGK.out; omega
              case rel => exact ⟨k + 1, l2, (by first | rfl | go_num), (by show _ = _; have := HK.out; have := HGK.out; omega), HL4.out, HR4.out, HB4.out⟩
            · have e1 : decide ((k : Int) < (y5.length : Int)) = false := decide_eq_false (by omega)
              have e2 : decide (k < y5.length) = false := decide_eq_false (by omega)
              clear hlt
              replace HO := Aside0.mk (HO.out.below HX5.out)
              replace HD := Aside0.mk (HD.out.below HX5.out)
              replace HO2 := Aside0.mk (HO2.out.below HX5.out)
              replace HD2 := Aside0.mk (HD2.out.below HX5.out)
              replace HRB := Aside0.mk (HRB.out.below HX5.out)
              replace HZ1 := Aside0.mk ((HX5.out.block _ (WB.blk_lt HZ1.out)).trans HZ1.out)
              replace HZ2 := Aside0.mk ((HX5.out.block _ (WB.blk_lt HZ2.out)).trans HZ2.out)
              replace HB := Aside0.mk (below_step HB.out HX5.out)
              clear HX5 HR5 HK HLL
              rename World => wr5
              obtain ⟨⟨y6, z6⟩, hy⟩ : ∃ r, natR b true 1 2 = r := ⟨_, rfl⟩
              have HL6 := Aside0.mk (show y6.length ≤ 264 from by have h_ := natR_len b true 1 2; rw [hy] at h_; exact Nat.le_trans h_ HLB.out.2)
              have HYY := Aside0.mk hy
              clear hy
              have CC := Aside0.mk (nat_at (W0 := wr5) HRB.out rfl HL10.out HYB.out true 1 2 HYY.out)
              go_upto_region 21 with (first | (go_at_call 28; (with_reducible refine (CC.out _ ?hb).mono ?_); (case hb => (repeat (first | with_reducible assumption | with_reducible exact Below.refl _ _ | with_reducible apply below_alloc | with_reducible apply pw_below_drewN | with_reducible apply below_drew1))); rintro e wx6 ⟨A6, c6, rfl, hr, hb⟩; have HR6 := Aside0.mk hr; have HX6 := Aside0.mk hb; clear hr hb))
              clear CC HYY
              go_wp2
              go_loopg [21] y6.length (fun kq v21 w' => ∃ (k : Nat) (l : List Int), v21 = .int .i64 (k : Int) ∧ Aside (k + kq = y6.length) ∧ Aside (l.length = y6.length) ∧ RB wr5.heap.size w' (.slice A6 y6.length c6) l ∧ Below wr5.heap.size wr5 w')
              case atStart =>
                exact ⟨0, y6, rfl, (by show _ = _; omega), (by show _ = _; rfl), HR6.out, HX6.out⟩
              case round =>
                obtain ⟨k, l, rfl, hk, hl, hr, hbw⟩ := hrel
                have HK := Aside0.mk hk.out
                have HLL := Aside0.mk hl.out
                replace HR6 := Aside0.mk hr
                replace HX6 := Aside0.mk hbw
                clear hk hl hr hbw
                by_cases hlt : k < y6.length
                · have e1 : decide ((k : Int) < (y6.length : Int)) = true := decide_eq_true (by omega)
                  have e2 : decide (k < y6.length) = true := decide_eq_true (by omega)
                  have i1 : (k : Int) < (y6.length : Int) := by omega
                  have HGK := Aside0.mk (show 0 < gk from by have := HK.out; omega)
                  have hnw : Go.IntKind.i64.wrap ((k : Int) + 1) = (k : Int) + 1 := wrap_i64w _ (by omega) (by have := HL6.out; omega)
                  obtain ⟨gb, cb2, ev, hgb⟩ := rb_form HR6.out (by have := HLL.out; omega)
                  injection ev with ev1 ev2 ev3
                  subst ev1 ev3
                  have HGB := Aside0.mk hgb
                  have r1 := rb_cell HR6.out k hlt
                  have r2 := rb_frozen HR6.out k
                  clear hgb ev2
                  go_upto_region 23 with fail
                  generalize hW : World.setCell _ _ _ = w4
                  have hb4 : Below wr5.heap.size wr5 w4 := by rw [← hW]; exact HX6.out.setCell (p := ⟨gb, k, none⟩) HGB.out _
                  have hr4 : ∃ l2 : List Int, l2.length = y6.length ∧ RB wr5.heap.size w4 (.slice (some ⟨gb, 0, none⟩) y6.length c6) l2 := ⟨l.set k (((l[k]?.getD 0) + 1) % 256), by rw [List.length_set]; exact HLL.out, by rw [← hW]; exact rb_set HR6.out k _⟩
                  obtain ⟨l2, hl2, hr5⟩ := hr4
                  have HB4 := Aside0.mk hb4
                  have HR4 := Aside0.mk hr5
                  have HL4 := Aside0.mk hl2
                  clear r1 r2 hW hb4 hr5 hl2
                  go_wp2
                  go_roundg (gk - 1)
                  case measure => have := HGK.out; omega
                  case rel => exact ⟨k + 1, l2, (by first | rfl | go_num), (by show _ = _; have := HK.out; have := HGK.out; omega), HL4.out, HR4.out, HB4.out⟩
                · have e1 : decide ((k : Int) < (y6.length : Int)) = false := decide_eq_false (by omega)
                  have e2 : decide (k < y6.length) = false := decide_eq_false (by omega)
                  clear hlt
                  replace HO := Aside0.mk (HO.out.below HX6.out)
                  replace HD := Aside0.mk (HD.out.below HX6.out)
                  replace HO2 := Aside0.mk (HO2.out.below HX6.out)
                  replace HD2 := Aside0.mk (HD2.out.below HX6.out)
                  replace HRB := Aside0.mk (HRB.out.below HX6.out)
                  replace HZ1 := Aside0.mk ((HX6.out.block _ (WB.blk_lt HZ1.out)).trans HZ1.out)
                  replace HZ2 := Aside0.mk ((HX6.out.block _ (WB.blk_lt HZ2.out)).trans HZ2.out)
                  replace HB := Aside0.mk (below_step HB.out HX6.out)
                  clear HX6 HR6 HK HLL
                  rename World => wr6
                  obtain ⟨⟨y7, z7⟩, hy⟩ : ∃ r, writeR b 24 1 7 = r := ⟨_, rfl⟩
                  have HL7 := Aside0.mk (show y7.length ≤ 264 from by have h_ := writeR_len b 24 1 7; rw [hy] at h_; exact Nat.le_trans h_ HLB.out.2)
                  have HYY := Aside0.mk hy
                  clear hy
                  have CC := Aside0.mk (write_at (W0 := wr6) HRB.out rfl HL10.out HYB.out 24 1 7 HYY.out)
                  go_upto_region 26 with (first | (go_at_call 26; (with_reducible refine (CC.out _ ?hb).mono ?_); (case hb => (repeat (first | with_reducible assumption | with_reducible exact Below.refl _ _ | with_reducible apply below_alloc | with_reducible apply pw_below_drewN | with_reducible apply below_drew1))); rintro e wx7 ⟨A7, c7, rfl, hr, hb⟩; have HR7 := Aside0.mk hr; have HX7 := Aside0.mk hb; clear hr hb))
                  clear CC HYY
                  go_wp2
                  go_loopg [24] y7.length (fun kq v24 w' => ∃ (k : Nat) (l : List Int), v24 = .int .i64 (k : Int) ∧ Aside (k + kq = y7.length) ∧ Aside (l.length = y7.length) ∧ RB wr6.heap.size w' (.slice A7 y7.length c7) l ∧ Below wr6.heap.size wr6 w')
                  case atStart =>
                    exact ⟨0, y7, rfl, (by show _ = _; omega), (by show _ = _; rfl), HR7.out, HX7.out⟩
                  case round =>
                    obtain ⟨k, l, rfl, hk, hl, hr, hbw⟩ := hrel
                    have HK := Aside0.mk hk.out
                    have HLL := Aside0.mk hl.out
                    replace HR7 := Aside0.mk hr
                    replace HX7 := Aside0.mk hbw
                    clear hk hl hr hbw
                    by_cases hlt : k < y7.length
                    · have e1 : decide ((k : Int) < (y7.length : Int)) = true := decide_eq_true (by omega)
                      have e2 : decide (k < y7.length) = true := decide_eq_true (by omega)
                      have i1 : (k : Int) < (y7.length : Int) := by omega
                      have HGK := Aside0.mk (show 0 < gk from by have := HK.out; omega)
                      have hnw : Go.IntKind.i64.wrap ((k : Int) + 1) = (k : Int) + 1 := wrap_i64w _ (by omega) (by have := HL7.out; omega)
                      obtain ⟨gb, cb2, ev, hgb⟩ := rb_form HR7.out (by have := HLL.out; omega)
                      injection ev with ev1 ev2 ev3
                      subst ev1 ev3
                      have HGB := Aside0.mk hgb
                      have r1 := rb_cell HR7.out k hlt
                      have r2 := rb_frozen HR7.out k
                      clear hgb ev2
                      go_upto_region 28 with fail
                      generalize hW : World.setCell _ _ _ = w4
                      have hb4 : Below wr6.heap.size wr6 w4 := by rw [← hW]; exact HX7.out.setCell (p := ⟨gb, k, none⟩) HGB.out _
                      have hr4 : ∃ l2 : List Int, l2.length = y7.length ∧ RB wr6.heap.size w4 (.slice (some ⟨gb, 0, none⟩) y7.length c7) l2 := ⟨l.set k (((l[k]?.getD 0) + 1) % 256), by rw [List.length_set]; exact HLL.out, by rw [← hW]; exact rb_set HR7.out k _⟩
                      obtain ⟨l2, hl2, hr5⟩ := hr4
                      have HB4 := Aside0.mk hb4
                      have HR4 := Aside0.mk hr5
                      have HL4 := Aside0.mk hl2
                      clear r1 r2 hW hb4 hr5 hl2
                      go_wp2
                      go_roundg (gk - 1)
                      case measure => have := HGK.out; omega
                      case rel => exact ⟨k + 1, l2, (by first | rfl | go_num), (by show _ = _; have := HK.out; have := HGK.out; omega), HL4.out, HR4.out, HB4.out⟩
                    · have e1 : decide ((k : Int) < (y7.length : Int)) = false := decide_eq_false (by omega)
                      have e2 : decide (k < y7.length) = false := decide_eq_false (by omega)
                      clear hlt
                      replace HO := Aside0.mk (HO.out.below HX7.out)
                      replace HD := Aside0.mk (HD.out.below HX7.out)
                      replace HO2 := Aside0.mk (HO2.out.below HX7.out)
                      replace HD2 := Aside0.mk (HD2.out.below HX7.out)
                      replace HRB := Aside0.mk (HRB.out.below HX7.out)
                      replace HZ1 := Aside0.mk ((HX7.out.block _ (WB.blk_lt HZ1.out)).trans HZ1.out)
                      replace HZ2 := Aside0.mk ((HX7.out.block _ (WB.blk_lt HZ2.out)).trans HZ2.out)
                      replace HB := Aside0.mk (below_step HB.out HX7.out)
                      clear HX7 HR7 HK HLL
                      rename World => wr7
                      have C51 := Aside0.mk (parse_at (W0 := wr7) HRB.out rfl HL10.out HYB.out HPB.out)
                      go_upto_region 31 with (first | (go_at_call 19; (with_reducible refine (C51.out _ ?hb).mono ?_); (case hb => (repeat (first | with_reducible assumption | with_reducible exact Below.refl _ _ | with_reducible apply below_alloc | with_reducible apply pw_below_drewN | with_reducible apply below_drew1))); rintro e w_52 ⟨A8, c8, A9, c9, rfl, h1, h2, h3, hb⟩; have hb2 := below_alloc hb (.cells #[.int .i64 p.kind, .int .i64 p.life, .int .i64 p.piece, .int .i64 p.frm, .int .i64 p.dst, .int .i64 p.fp, .int .i64 p.tp, .int .i64 p.flags, .int .i64 p.label, .bool p.bare, .int .i64 p.code, .slice A8 p.opts.length c8, .slice A9 p.data.length c9] 26); have hz := new_blk w_52 (.cells #[.int .i64 p.kind, .int .i64 p.life, .int .i64 p.piece, .int .i64 p.frm, .int .i64 p.dst, .int .i64 p.fp, .int .i64 p.tp, .int .i64 p.flags, .int .i64 p.label, .bool p.bare, .int .i64 p.code, .slice A8 p.opts.length c8, .slice A9 p.data.length c9] 26); have HX1 := Aside0.mk hb2; have HZ8 := Aside0.mk hz; have HO8 := Aside0.mk (rw_of (Kd.R_alloc h1 (.cells #[.int .i64 p.kind, .int .i64 p.life, .int .i64 p.piece, .int .i64 p.frm, .int .i64 p.dst, .int .i64 p.fp, .int .i64 p.tp, .int .i64 p.flags, .int .i64 p.label, .bool p.bare, .int .i64 p.code, .slice A8 p.opts.length c8, .slice A9 p.data.length c9] 26))); have HD8 := Aside0.mk (rw_of (Kd.R_alloc h2 (.cells #[.int .i64 p.kind, .int .i64 p.life, .int .i64 p.piece, .int .i64 p.frm, .int .i64 p.dst, .int .i64 p.fp, .int .i64 p.tp, .int .i64 p.flags, .int .i64 p.label, .bool p.bare, .int .i64 p.code, .slice A8 p.opts.length c8, .slice A9 p.data.length c9] 26))); clear h1 h2 h3 hb hb2 hz))
                      change Code.wp _ _ _ _ (w_52.alloc (.cells #[.int .i64 p.kind, .int .i64 p.life, .int .i64 p.piece, .int .i64 p.frm, .int .i64 p.dst, .int .i64 p.fp, .int .i64 p.tp, .int .i64 p.flags, .int .i64 p.label, .bool p.bare, .int .i64 p.code, .slice A8 p.opts.length c8, .slice A9 p.data.length c9] 26))
                      generalize w_52.alloc (.cells #[.int .i64 p.kind, .int .i64 p.life, .int .i64 p.piece, .int .i64 p.frm, .int .i64 p.dst, .int .i64 p.fp, .int .i64 p.tp, .int .i64 p.flags, .int .i64 p.label, .bool p.bare, .int .i64 p.code, .slice A8 p.opts.length c8, .slice A9 p.data.length c9] 26) = w_53 at HX1 HZ8 HO8 HD8 ⊢
                      replace HO := Aside0.mk (HO.out.below HX1.out)
                      replace HD := Aside0.mk (HD.out.below HX1.out)
                      replace HO2 := Aside0.mk (HO2.out.below HX1.out)
                      replace HD2 := Aside0.mk (HD2.out.below HX1.out)
                      replace HRB := Aside0.mk (HRB.out.below HX1.out)
                      replace HZ1 := Aside0.mk ((HX1.out.block _ (WB.blk_lt HZ1.out)).trans HZ1.out)
                      replace HZ2 := Aside0.mk ((HX1.out.block _ (WB.blk_lt HZ2.out)).trans HZ2.out)
                      replace HB := Aside0.mk (below_step HB.out HX1.out)
                      clear HX1 C51
                      obtain ⟨k0, k1, k2, k3, k4, k5, k6, k7, k8, k9, k10, k11, k12⟩ := c13 HZ1.out
                      obtain ⟨m0, m1, m2, m3, m4, m5, m6, m7, m8, m9, m10, m11, m12⟩ := c13 HZ2.out
                      obtain ⟨q0, q1, q2, q3, q4, q5, q6, q7, q8, q9, q10, q11, q12⟩ := c13 HZ8.out
                      have C4 := Aside0.mk (same_at (W0 := w_53) HO.out HD.out HO2.out HD2.out)
                      have C5 := Aside0.mk (same_at (W0 := w_53) HO8.out HD8.out HO2.out HD2.out)
                      have hcv2 := Kd.C_string (P := Try.prog) (A := Ab) (c := cb) Try.underlying23 Try.underlying5 Try.underlying9 HRB.out.rd
                      go_wp2_with (first | (go_at_call 20; (with_reducible refine (C4.out _ ?hb).mono ?_); (case hb => (repeat (first | with_reducible assumption | with_reducible exact Below.refl _ _ | with_reducible apply below_alloc | with_reducible apply pw_below_drewN | with_reducible apply below_drew1))); rintro e x1 ⟨rfl, hx1⟩; have hcv3 := Kd.C_string (P := Try.prog) (A := Ab) (c := cb) Try.underlying23 Try.underlying5 Try.underlying9 (HRB.out.below hx1).rd; obtain ⟨n0, n1, n2, n3, n4, n5, n6, n7, n8, n9, n10, n11, n12⟩ := c13 ((hx1.block _ (WB.blk_lt HZ8.out)).trans HZ8.out); obtain ⟨r0, r1, r2, r3, r4, r5, r6, r7, r8, r9, r10, r11, r12⟩ := c13 ((hx1.block _ (WB.blk_lt HZ2.out)).trans HZ2.out)) | (go_at_call 20; (with_reducible refine (C5.out _ ?hb).mono ?_); (case hb => (repeat (first | with_reducible assumption | with_reducible exact Below.refl _ _ | with_reducible apply below_alloc | with_reducible apply pw_below_drewN | with_reducible apply below_drew1))); rintro e x2 ⟨rfl, hx2⟩))
                      go_ret
                      exact ⟨by simp, below_step HB.out (by repeat (first | with_reducible assumption | with_reducible exact Below.refl _ _ | with_reducible apply below_alloc | with_reducible apply pw_below_drewN | with_reducible apply below_drew1))⟩
end Go.Proofs.Ytbjhmifhmojaoaa.PL
