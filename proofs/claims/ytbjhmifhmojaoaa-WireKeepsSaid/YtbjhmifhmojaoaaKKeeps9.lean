/- Lemmas and contracts that the row YtbjhmifhmojaoaaLawWireKeeps goes by (part 9; joined by pack.py out of this session's texts, and of words that the kit's print lays). -/
import Derived.Test.YtbjhmifhmojaoaaKKeeps8
namespace Go.Proofs.Ytbjhmifhmojaoaa.WB
set_option linter.unusedVariables false
set_option linter.unusedSimpArgs false
open Go.RowKit Go.Proofs.Ytbjhmifhmojaoaa.Hp Go.Proofs.Ytbjhmifhmojaoaa.SB Go.Proofs.YtbjhmifhmojaoaaW.PrintWords Go.Proofs.YtbjhmifhmojaoaaW.PrintLast Go.Proofs.YtbjhmifhmojaoaaW.PrintMore

/-- Taken apart; bare or not, of a kind, whole or not, so long. -/
structure KeepAt (b : List Int) (bare : Bool) (kind : Int) (wb : Bool) (len : Nat) : Prop where
  o : Ok b
  y : Bytes b
  bb : bareB b = bare
  k : b.getD 0 0 = kind
  w : wholeL b = wb
  l : b.length = len
/-- An answer: what is kept, or an error. -/
def KeepR (r : List Int × Int) (bare : Bool) (kind : Int) (wb : Bool) (len : Nat) : Prop := (r.2 = 0 ∧ KeepAt r.1 bare kind wb len) ∨ r.2 ≠ 0
theorem keep_age {b : List Int} {bare : Bool} {kind : Int} {wb : Bool} {len : Nat} (h : KeepAt b bare kind wb len) : KeepR (ageR b) bare kind wb len := by
  obtain ⟨o, y, bb, k, w, l⟩ := h
  by_cases h2 : 2 ≤ b.getD 1 0
  · obtain ⟨a1, a2, a3, a4, a5, a6⟩ := age_facts y o h2
    refine Or.inl ?_
    rw [ageR_ok o h2]
    refine ⟨rfl, a3, a2, ?_, by rw [a4 0 (by omega) (by omega) (by omega), k], by rw [a6, w], by rw [a1, l]⟩
    rw [bareB_congr (a4 0 (by omega) (by omega) (by omega)) (by unfold pr; rw [a4 22 (by omega) (by omega) (by omega), a4 (22 + 1) (by omega) (by omega) (by omega)]), bb]
  · refine Or.inr ?_
    rw [ageR_low o (by omega)]
    decide
theorem keep_nat {b : List Int} {bare : Bool} {kind : Int} {wb : Bool} {len : Nat} (h : KeepAt b bare kind wb len) (src : Bool) {addr port : Int} (a0 : 0 ≤ addr) (a1 : addr < 4294967296) (p0 : 0 ≤ port) (p1 : port < 65536) : KeepR (natR b src addr port) bare kind wb len := by
  obtain ⟨o, y, bb, k, w, l⟩ := h
  by_cases h3 : b.getD 0 0 = 3
  · refine Or.inr ?_
    rw [natR_fault o h3]
    decide
  · refine Or.inl ?_
    rw [natR_ok o h3 src a0 (by omega) p0 (by omega)]
    cases src with
    | true =>
      obtain ⟨x1, x2, x3, x4, x5, x6, x7, x8⟩ := nat_facts y o h3 (a := 4) (p := 16) (by omega) a0 (show addr ≤ 4294967295 by omega) p0 (show port ≤ 65535 by omega)
      exact ⟨rfl, x3, x2, x7.trans bb, (x4 0 (by omega) (by omega) (by omega) (by omega)).trans k, x8.trans w, x1.trans l⟩
    | false =>
      obtain ⟨x1, x2, x3, x4, x5, x6, x7, x8⟩ := nat_facts y o h3 (a := 8) (p := 18) (by omega) a0 (show addr ≤ 4294967295 by omega) p0 (show port ≤ 65535 by omega)
      exact ⟨rfl, x3, x2, x7.trans bb, (x4 0 (by omega) (by omega) (by omega) (by omega)).trans k, x8.trans w, x1.trans l⟩
theorem keep_write {b : List Int} {bare : Bool} {kind : Int} {wb : Bool} {len : Nat} (h : KeepAt b bare kind wb len) {Q : Nat} {m x : Int} (hm : m = 1 ∨ m = 2 ∨ m = 4) (x0 : 0 ≤ x) (x1 : x < 256) : KeepR (writeR b (24 + (Q : Int)) m x) bare kind wb len := by
  obtain ⟨o, y, bb, k, w, l⟩ := h
  have pl := placeL_le b
  have hp : x < 256 ^ m.toNat := by
    rcases hm with rfl | rfl | rfl
    · have : (256 : Int) ^ Int.toNat 1 = 256 := (by decide); omega
    · have : (256 : Int) ^ Int.toNat 2 = 65536 := (by decide); omega
    · have : (256 : Int) ^ Int.toNat 4 = 4294967296 := (by decide); omega
  by_cases hl : 24 + (Q : Int) + m ≤ (b.length : Int)
  · have e : (24 + (Q : Int)).toNat = 24 + Q := by omega
    have wr := writeR_ok o (i := 24 + (Q : Int)) (m := m) (v := x) ⟨hm, x0, hp, by omega, by omega, Or.inr (by omega)⟩
    rw [e] at wr
    obtain ⟨f1, f2, f3, f4, f5, f6⟩ := write_facts y o (j := 24 + Q) (n := m.toNat) (v := x) (by omega) (by omega) (by omega) (by omega) x0 hp
    obtain ⟨g1, g2⟩ := write_keep y o (j := 24 + Q) (n := m.toNat) (v := x) (by omega) (by omega) (by omega) (by omega) x0 hp
    refine Or.inl ?_
    rw [wr]
    exact ⟨rfl, g1, f2, f5.trans bb, (f3 0 (by omega) (Or.inl (by unfold placeL; split <;> omega))).trans k, g2.trans w, f1.trans l⟩
  · refine Or.inr ?_
    rw [writeR_no o (fun w => by have := w.2.2.2.2.1; omega)]
    decide
theorem keep_spoil {b : List Int} (o : Ok b) (y : Bytes b) (h : 24 < b.length) {x : Int} (x0 : 0 ≤ x) (x1 : x ≤ 255) : ∃ wb, KeepAt (b.set (b.length - 1) x) (bareB b) (b.getD 0 0) wb b.length := by
  have f : ∀ j, j < 24 → (b.set (b.length - 1) x).getD j 0 = b.getD j 0 := fun j hj => getD_set_ne (by omega)
  have hl : (b.set (b.length - 1) x).length = b.length := List.length_set
  refine ⟨_, ⟨o.congr hl ?_ (fun j hj => f j (by omega)) (fun _ => f 17 (by omega)) (fun _ => f 20 (by omega)) (fun _ => f 21 (by omega)), y.set _ x0 x1, bareB_congr (f 0 (by omega)) (by unfold pr; rw [f 22 (by omega), f (22 + 1) (by omega)]), f 0 (by omega), rfl, hl⟩⟩
  rw [take16_congr hl (fun j hj => f j (by omega))]
  exact o.sum
theorem keep_end {b : List Int} {bare : Bool} {kind : Int} {wb : Bool} {len : Nat} (h : KeepAt b bare kind wb len) : ∃ q : Pk, parseL b = (q, 0) ∧ q.bare = bare ∧ q.kind = kind := ⟨pkL b, h.o.parse, by rw [bare_of h.o, h.bb], by rw [pk_kind h.o, h.k]⟩
theorem pick124t {t : Nat} (ht : t < 3) : (([1, 2, 4] : List Int).getD t 0 = 1 ∨ ([1, 2, 4] : List Int).getD t 0 = 2 ∨ ([1, 2, 4] : List Int).getD t 0 = 4) := by
  match t, ht with
  | 0, _ => exact Or.inl rfl
  | 1, _ => exact Or.inr (Or.inl rfl)
  | 2, _ => exact Or.inr (Or.inr rfl)
end Go.Proofs.Ytbjhmifhmojaoaa.WB

namespace Go.Proofs.Ytbjhmifhmojaoaa.PL
set_option linter.unusedVariables false
set_option linter.unusedSimpArgs false
open Go.RowKit Go.Proofs.Ytbjhmifhmojaoaa.Hp Go.Proofs.Ytbjhmifhmojaoaa.SB Go.Proofs.YtbjhmifhmojaoaaW.PrintWords Go.Proofs.YtbjhmifhmojaoaaW.PrintLast Go.Proofs.YtbjhmifhmojaoaaW.PrintMore Go.Proofs.Ytbjhmifhmojaoaa.WB

set_option maxHeartbeats 8000000 in
set_option maxRecDepth 100000 in
theorem WireKeeps_walk (a0 : Int) (a1 : Option Addr) (len1 cap1 : Nat) (z1 : List Int) (a2 : Option Addr) (len2 cap2 : Nat) (z2 : List Int) (a3 : Bool) (a4 : Option Addr) (len4 cap4 : Nat) (z4 : List Int) (a5 : Option Addr) (len5 cap5 : Nat) (z5 : List Int) (w : World) (w0 : (Lit.int .i64 a0).wf = true) (w1 : (a1 = none ∧ len1 = 0 ∧ cap1 = 0 ∧ z1 = []) ∨ ∃ x, a1 = some x ∧ len1 ≤ cap1 ∧ cap1 ≤ maxLen ∧ z1.length = cap1 ∧ (∀ j, j < z1.length → w.cell? (x.add j) = some (.int .i64 (z1.getD j 0))) ∧ ∀ n ∈ z1, (Lit.int .i64 n).wf = true) (y1 : len1 * 8 ≤ 140737488351232) (w2 : (a2 = none ∧ len2 = 0 ∧ cap2 = 0 ∧ z2 = []) ∨ ∃ x, a2 = some x ∧ len2 ≤ cap2 ∧ cap2 ≤ maxLen ∧ z2.length = cap2 ∧ (∀ j, j < z2.length → w.cell? (x.add j) = some (.int .u8 (z2.getD j 0))) ∧ ∀ n ∈ z2, (Lit.int .u8 n).wf = true) (y2 : len2 * 1 ≤ 140737488351232) (w4 : (a4 = none ∧ len4 = 0 ∧ cap4 = 0 ∧ z4 = []) ∨ ∃ x, a4 = some x ∧ len4 ≤ cap4 ∧ cap4 ≤ maxLen ∧ z4.length = cap4 ∧ (∀ j, j < z4.length → w.cell? (x.add j) = some (.int .i64 (z4.getD j 0))) ∧ ∀ n ∈ z4, (Lit.int .i64 n).wf = true) (y4 : len4 * 8 ≤ 140737488351232) (w5 : (a5 = none ∧ len5 = 0 ∧ cap5 = 0 ∧ z5 = []) ∨ ∃ x, a5 = some x ∧ len5 ≤ cap5 ∧ cap5 ≤ maxLen ∧ z5.length = cap5 ∧ (∀ j, j < z5.length → w.cell? (x.add j) = some (.int .i64 (z5.getD j 0))) ∧ ∀ n ∈ z5, (Lit.int .i64 n).wf = true) (y5 : len5 * 8 ≤ 140737488351232) :
    Calls Try.prog 8 #[.int .i64 a0, .slice a1 len1 cap1, .slice a2 len2 cap2, .bool a3, .slice a4 len4 cap4, .slice a5 len5 cap5] w fun e w' => e = .returned (.bool true) ∧ Below w.heap.size w w' := by
  have HA0 := Aside0.mk w0
  clear w0
  obtain ⟨ns1, rfl, hr1, hm1, hw1, hc1⟩ := ReadsInt.ofRowC w1
  have HN1 := Aside0.mk (And.intro (show Kd.C (Kd.int .i64) w a1 ns1.length ns1 from Kd.C_of_reads (d := (0 : Int)) (h1 := fun _ => rfl) hr1) hc1)
  have HW1 := Aside0.mk hw1
  have HS1 := Aside0.mk y1
  clear hr1 hm1 hw1 hc1 w1 y1
  obtain ⟨l2, rfl, hr2, hm2, hw2, hc2⟩ := ReadsInt.ofRowC w2
  have HR2 := Aside0.mk (⟨Kd.C_of_reads (d := (0 : Int)) (h1 := fun _ => rfl) hr2, hc2⟩ : Rw w a2 cap2 l2)
  have HY2 := Aside0.mk (bytes_of_wf hw2)
  have HS2 := Aside0.mk y2
  clear hr2 hm2 hw2 hc2 w2 y2
  obtain ⟨ns4, rfl, hr4, hm4, hw4, hc4⟩ := ReadsInt.ofRowC w4
  have HN4 := Aside0.mk (And.intro (show Kd.C (Kd.int .i64) w a4 ns4.length ns4 from Kd.C_of_reads (d := (0 : Int)) (h1 := fun _ => rfl) hr4) hc4)
  have HW4 := Aside0.mk hw4
  have HS4 := Aside0.mk y4
  clear hr4 hm4 hw4 hc4 w4 y4
  obtain ⟨ns5, rfl, hr5, hm5, hw5, hc5⟩ := ReadsInt.ofRowC w5
  have HN5 := Aside0.mk (And.intro (show Kd.C (Kd.int .i64) w a5 ns5.length ns5 from Kd.C_of_reads (d := (0 : Int)) (h1 := fun _ => rfl) hr5) hc5)
  have HW5 := Aside0.mk hw5
  have HS5 := Aside0.mk y5
  clear hr5 hm5 hw5 hc5 w5 y5
  obtain ⟨p, hp⟩ : ∃ p, makeP a0 ns1 l2 = p := ⟨_, rfl⟩
  have HMK := Aside0.mk (show MkOk p ∧ p.kind = 1 + a0 % 3 from by rw [← hp]; exact makeP_ok a0 HY2.out)
  have HMP := Aside0.mk hp
  have KN := Aside0.mk (known_calls w)
  clear hp
  go_enter Try.func8, Try.ntmps8
  go_upto_region 3 with (first | (go_at_call 15; (with_reducible refine KN.out.mono ?_); rintro e w0 ⟨rfl, hb0⟩; have HB0 := Aside0.mk hb0; clear hb0))
  have CM := Aside0.mk (make_at (W0 := w0) a0 (Kd.C_below HN1.out.1 HB0.out) rfl HN1.out.2 (by have := HS1.out; omega) (HR2.out.below HB0.out) rfl (by have := HS2.out; omega) HY2.out HMP.out)
  go_upto_region 4 with (first | (go_at_call 16; (with_reducible refine (CM.out _ ?hb).mono ?_); (case hb => (repeat (first | with_reducible assumption | with_reducible exact Below.refl _ _ | with_reducible apply below_alloc | with_reducible apply pw_below_drewN | with_reducible apply below_drew1))); rintro e w1 ⟨A1, c1, A2, c2, rfl, h1, h2, h3, hb1⟩; have HB01 := Aside0.mk hb1; have HB1 := Aside0.mk (below_step HB0.out hb1); have HO1 := Aside0.mk h1; have HD1 := Aside0.mk h2; have HSEP := Aside0.mk h3; clear h1 h2 h3 hb1))
  change Code.wp _ _ _ _ (w1.alloc (.cells #[.int .i64 p.kind, .int .i64 p.life, .int .i64 p.piece, .int .i64 p.frm, .int .i64 p.dst, .int .i64 p.fp, .int .i64 p.tp, .int .i64 p.flags, .int .i64 p.label, .bool p.bare, .int .i64 p.code, .slice A1 p.opts.length c1, .slice A2 p.data.length c2] 26))
  have hba := below_alloc (Below.refl w1.heap.size w1) (.cells #[.int .i64 p.kind, .int .i64 p.life, .int .i64 p.piece, .int .i64 p.frm, .int .i64 p.dst, .int .i64 p.fp, .int .i64 p.tp, .int .i64 p.flags, .int .i64 p.label, .bool p.bare, .int .i64 p.code, .slice A1 p.opts.length c1, .slice A2 p.data.length c2] 26)
  have HZ := Aside0.mk (new_blk w1 (.cells #[.int .i64 p.kind, .int .i64 p.life, .int .i64 p.piece, .int .i64 p.frm, .int .i64 p.dst, .int .i64 p.fp, .int .i64 p.tp, .int .i64 p.flags, .int .i64 p.label, .bool p.bare, .int .i64 p.code, .slice A1 p.opts.length c1, .slice A2 p.data.length c2] 26))
  have HB := Aside0.mk (below_step HB1.out hba)
  have HB00 := Aside0.mk (below_alloc HB01.out (.cells #[.int .i64 p.kind, .int .i64 p.life, .int .i64 p.piece, .int .i64 p.frm, .int .i64 p.dst, .int .i64 p.fp, .int .i64 p.tp, .int .i64 p.flags, .int .i64 p.label, .bool p.bare, .int .i64 p.code, .slice A1 p.opts.length c1, .slice A2 p.data.length c2] 26))
  have HG0 := Aside0.mk (show w0.heap.size ≤ w1.heap.size from HB01.out.size)
  have HOW := Aside0.mk (Kd.R_alloc HO1.out (.cells #[.int .i64 p.kind, .int .i64 p.life, .int .i64 p.piece, .int .i64 p.frm, .int .i64 p.dst, .int .i64 p.fp, .int .i64 p.tp, .int .i64 p.flags, .int .i64 p.label, .bool p.bare, .int .i64 p.code, .slice A1 p.opts.length c1, .slice A2 p.data.length c2] 26))
  have HDW := Aside0.mk (Kd.R_alloc HD1.out (.cells #[.int .i64 p.kind, .int .i64 p.life, .int .i64 p.piece, .int .i64 p.frm, .int .i64 p.dst, .int .i64 p.fp, .int .i64 p.tp, .int .i64 p.flags, .int .i64 p.label, .bool p.bare, .int .i64 p.code, .slice A1 p.opts.length c1, .slice A2 p.data.length c2] 26))
  generalize w1.alloc (.cells #[.int .i64 p.kind, .int .i64 p.life, .int .i64 p.piece, .int .i64 p.frm, .int .i64 p.dst, .int .i64 p.fp, .int .i64 p.tp, .int .i64 p.flags, .int .i64 p.label, .bool p.bare, .int .i64 p.code, .slice A1 p.opts.length c1, .slice A2 p.data.length c2] 26) = w2 at hba HZ HB HB00 HOW HDW ⊢
  have HO := Aside0.mk (rw_of HOW.out)
  have HD := Aside0.mk (rw_of HDW.out)
  have HNO := Aside0.mk (fun e => Nat.lt_irrefl _ (Kd.R_lt HO1.out w1.heap.size e))
  have HND := Aside0.mk (fun e => Nat.lt_irrefl _ (Kd.R_lt HD1.out w1.heap.size e))
  have HGW := Aside0.mk (show w.heap.size ≤ w1.heap.size from HB1.out.size)
  clear hba HO1 HD1 HB1
  obtain ⟨b, hbb⟩ : ∃ b, buildL p = b := ⟨_, rfl⟩
  obtain ⟨ob, pb, wb, lb, yb⟩ := parse_build HMK.out.1.e HMK.out.1.c
  rw [hbb] at ob pb wb lb yb
  have HBB := Aside0.mk hbb
  have HPB := Aside0.mk (show parseL b = (p, 0) from by rw [ob.parse, pb])
  have HWB := Aside0.mk wb
  have HOK := Aside0.mk ob
  have HLB := Aside0.mk (show 24 ≤ b.length ∧ b.length ≤ 264 from ⟨ob.h24, by rw [lb]; exact nL_le HMK.out.1⟩)
  have HYB := Aside0.mk yb
  clear hbb ob pb wb lb yb
  have HLT := Aside0.mk (show w1.heap.size < w2.heap.size from WB.blk_lt HZ.out)
  obtain ⟨k0, k1, k2, k3, k4, k5, k6, k7, k8, k9, k10, k11, k12⟩ := c13 HZ.out
  have C1 := Aside0.mk (rbuild_at (W0 := w2) HO.out HD.out rfl rfl HMK.out.1.e HMK.out.1.c (by have := HMK.out.1.o; omega) (by have := HMK.out.1.d; omega) HBB.out)
  go_upto_region 5 with (first | (go_at_call 18; (with_reducible refine (C1.out _ ?hb).mono ?_); (case hb => (repeat (first | with_reducible assumption | with_reducible exact Below.refl _ _ | with_reducible apply below_alloc | with_reducible apply pw_below_drewN | with_reducible apply below_drew1))); rintro e w_2 ⟨Ab, cb, rfl, hr, hb⟩; replace HO := Aside0.mk (HO.out.below hb); replace HD := Aside0.mk (HD.out.below hb); replace HZ := Aside0.mk ((hb.block _ (WB.blk_lt HZ.out)).trans HZ.out); replace HB := Aside0.mk (below_step HB.out hb); have HRB := Aside0.mk (rw_of hr); have HOB := Aside0.mk hr; clear hr hb))
  clear C1

  obtain ⟨gb, cb2, ev, hgb⟩ := rb_form HOB.out (by have := HLB.out.1; omega)
  injection ev with ev1 ev2 ev3
  subst ev1 ev3
  have HGB := Aside0.mk (show w.heap.size ≤ gb from Nat.le_trans (Nat.le_trans HGW.out (Nat.le_of_lt HLT.out)) hgb)
  have HGN := Aside0.mk (show gb ≠ w1.heap.size from fun e => by have := HLT.out; omega)
  clear hgb ev2
  have HK0 := Aside0.mk (show KeepAt b p.bare p.kind true b.length from ⟨HOK.out, HYB.out, by rw [← bare_of HOK.out]; have := HPB.out; rw [HOK.out.parse] at this; rw [(Prod.mk.inj this).1], (kind0 HPB.out).symm, HWB.out, rfl⟩)
  go_cut [48] (fun s48 wx => ∃ sp : Bool, s48 = .bool sp ∧ Aside (sp = true → 24 < b.length ∧ p.bare = false) ∧ Aside (wx = w_2))
  case first =>
    obtain ⟨k0, k1, k2, k3, k4, k5, k6, k7, k8, k9, k10, k11, k12⟩ := c13 HZ.out
    cases a3 with
    | false =>
      go_wp2
      go_meet
      exact ⟨false, rfl, (by intro h; cases h), (by show _ = _; rfl)⟩
    | true =>
      by_cases h24 : 24 < b.length
      · have e1 : decide (24 < (b.length : Int)) = true := decide_eq_true (by omega)
        have e1n : decide (24 < b.length) = true := decide_eq_true h24
        have H24 := Aside0.mk h24
        obtain ⟨pb, hpb⟩ : ∃ x, p.bare = x := ⟨_, rfl⟩
        have HPB0 := Aside0.mk hpb
        cases pb with
        | true =>
          clear h24
          go_wp2
          go_meet
          exact ⟨false, rfl, (by intro h; cases h), (by show _ = _; rfl)⟩
        | false =>
          clear h24
          go_wp2
          go_meet
          exact ⟨true, rfl, (by exact fun _ => ⟨H24.out, HPB0.out⟩), (by show _ = _; rfl)⟩
      · have e1 : decide (24 < (b.length : Int)) = false := decide_eq_false (by omega)
        have e1n : decide (24 < b.length) = false := decide_eq_false h24
        clear h24
        go_wp2
        go_meet
        exact ⟨false, rfl, (by intro h; cases h), (by show _ = _; rfl)⟩
  case rest =>
  obtain ⟨sp, rfl, hsp, hw⟩ := hcut
  have HSP := Aside0.mk hsp.out
  have hw_ := hw.out
  clear hsp hw
  subst hw_
  go_upto_if 48 with fail
  go_cut [] (fun wx => ∃ (d : List Int) (wb : Bool), Aside (KeepAt d p.bare p.kind wb b.length) ∧ Aside (Rw wx (some ⟨gb, 0, none⟩) cb d) ∧ Aside (wx.heap[w1.heap.size]? = some (.cells #[.int .i64 p.kind, .int .i64 p.life, .int .i64 p.piece, .int .i64 p.frm, .int .i64 p.dst, .int .i64 p.fp, .int .i64 p.tp, .int .i64 p.flags, .int .i64 p.label, .bool p.bare, .int .i64 p.code, .slice A1 p.opts.length c1, .slice A2 p.data.length c2] 26 (0, 0))) ∧ Aside (Below w.heap.size w wx))
  case first =>
    cases sp with
    | false =>
      go_wp2
      go_meet
      exact ⟨b, true, HK0.out, HRB.out, HZ.out, HB.out⟩
    | true =>
      have H24 := Aside0.mk (HSP.out rfl).1
      have hj : (b.length : Int) - 1 = ((b.length - 1 : Nat) : Int) := by have := H24.out; omega
      have hjn : b.length - 1 < b.length := by have := H24.out; omega
      have hji : ((b.length - 1 : Nat) : Int) < (b.length : Int) := by have := H24.out; omega
      have hl264 : (b.length : Int) ≤ 264 := by have := HLB.out.2; omega
      have hl24 : 24 ≤ (b.length : Int) := by have := H24.out; omega
      have r1 := rb_cell HOB.out (b.length - 1) hjn
      have r2 := rb_frozen HOB.out (b.length - 1)
      obtain ⟨x, hx⟩ : ∃ x, b.getD (b.length - 1) 0 = x := ⟨_, rfl⟩
      rw [hx] at r1
      clear hx
      go_wp2
      go_meet
      obtain ⟨wb, hkk⟩ := keep_spoil HOK.out HYB.out H24.out (x := (x + 1) % 256) (by omega) (by omega)
      have hrs := rb_set HOB.out (b.length - 1) ((x + 1) % 256)
      refine ⟨_, wb, ?_, rw_of hrs, ?_, (by exact HB.out.setCell (p := ⟨gb, b.length - 1, none⟩) HGB.out _)⟩
      · show KeepAt _ p.bare p.kind wb b.length
        rw [← HK0.out.bb, ← HK0.out.k]; exact hkk
      · show _ = _
        rw [Below.heap_setCell _ _ _ _ (fun e => HGN.out e.symm)]; exact HZ.out
  case rest =>
  obtain ⟨d, wb, hka, hrb, hz, hbw⟩ := hcut
  have HKA := Aside0.mk hka.out
  replace HRB := Aside0.mk hrb.out
  replace HZ := Aside0.mk hz.out
  replace HB := Aside0.mk hbw.out
  have HDL := Aside0.mk (show d.length = b.length from hka.out.l)
  have HD10 := Aside0.mk (show d.length ≤ 10000 from by have := hka.out.l; have := HLB.out.2; omega)
  have HN4c := HN4
  clear hka hrb hz hbw HOB HO HD HK0
  have CW := Aside0.mk (whole_at (W0 := wc) (n := b.length) HRB.out HDL.out HD10.out HKA.out.y HKA.out.w)
  go_upto_region 8 with (first | (go_at_call 21; (with_reducible refine (CW.out _ ?hb).mono ?_); (case hb => (repeat (first | with_reducible assumption | with_reducible exact Below.refl _ _ | with_reducible apply below_alloc | with_reducible apply pw_below_drewN | with_reducible apply below_drew1))); rintro e w20 ⟨rfl, hx20⟩))
  replace HRB := Aside0.mk (HRB.out.below hx20)
  replace HZ := Aside0.mk ((hx20.block _ (WB.blk_lt HZ.out)).trans HZ.out)
  replace HB := Aside0.mk (below_step HB.out hx20)
  clear CW hx20
  go_wp2
  go_loopg [17, 18] 8 (fun kq v17 v18 w' => ∃ (i : Nat) (d : List Int) (A : Option Addr) (c : Nat), v18 = .int .i64 (i : Int) ∧ v17 = .slice A b.length c ∧ Aside (i + kq = 8) ∧ Aside (KeepAt d p.bare p.kind wb b.length) ∧ Aside (Rw w' A c d) ∧ Aside (w'.heap[w1.heap.size]? = some (.cells #[.int .i64 p.kind, .int .i64 p.life, .int .i64 p.piece, .int .i64 p.frm, .int .i64 p.dst, .int .i64 p.fp, .int .i64 p.tp, .int .i64 p.flags, .int .i64 p.label, .bool p.bare, .int .i64 p.code, .slice A1 p.opts.length c1, .slice A2 p.data.length c2] 26 (0, 0))) ∧ Below w.heap.size w w')
  case atStart =>
    exact ⟨0, d, _, cb, rfl, rfl, (by show _ = _; rfl), HKA.out, HRB.out, HZ.out, HB.out⟩
  case round =>
    clear HKA HRB HZ HB HDL HD10
    obtain ⟨i, d, Ad, cd, rfl, rfl, hk, hka, hrw, hz, hbw⟩ := hrel
    have HK := Aside0.mk hk.out
    have HKA := Aside0.mk hka.out
    have HRB := Aside0.mk hrw.out
    have HZ := Aside0.mk hz.out
    have HB := Aside0.mk hbw
    have HDL := Aside0.mk (show d.length = b.length from hka.out.l)
    have HD10 := Aside0.mk (show d.length ≤ 10000 from by have := hka.out.l; have := HLB.out.2; omega)
    clear hk hka hrw hz hbw
    have hbl : (b.length : Int) ≤ 264 := by have := HLB.out.2; omega
    have hbl2 : 24 ≤ (b.length : Int) := by have := HLB.out.1; omega
    by_cases c1 : i < ns4.length ∧ i < ns5.length ∧ i < 8
    · skip
      obtain ⟨c1, c2_, c3_⟩ := c1
      have e1 : decide (i < ns4.length) = true := decide_eq_true c1
      have e1i : decide ((i : Int) < (ns4.length : Int)) = true := decide_eq_true (by omega)
      have e2 : decide (i < ns5.length) = true := decide_eq_true c2_
      have e2i : decide ((i : Int) < (ns5.length : Int)) = true := decide_eq_true (by omega)
      have e3 : decide ((i : Int) < 8) = true := decide_eq_true (by omega)
      have i1 : (i : Int) < (ns4.length : Int) := by omega
      have i2 : (i : Int) < (ns5.length : Int) := by omega
      have i8 : (i : Int) < 8 := by omega
      have HGK := Aside0.mk (show 0 < gk from by have := HK.out; omega)
      obtain ⟨ad, ead, hx⟩ := Kd.at_int (Kd.C_below HN4.out.1 HB.out) (i : Int) (by omega) (by omega)
      obtain ⟨av, eav, hxv⟩ := Kd.at_int (Kd.C_below HN5.out.1 HB.out) (i : Int) (by omega) (by omega)
      rw [rd_nat, Int.toNat_natCast] at hx hxv
      obtain ⟨z, hz⟩ : ∃ z, ns4.getD i 0 = z := ⟨_, rfl⟩
      rw [hz] at hx
      obtain ⟨v, hv⟩ : ∃ z, ns5.getD i 0 = z := ⟨_, rfl⟩
      rw [hv] at hxv
      clear hz hv c1 c2_ c3_
      subst ead eav
      have HXV := Aside0.mk hxv
      clear hxv
      obtain ⟨K, hK⟩ := Int.eq_ofNat_of_zero_le (show 0 ≤ z % 1073741824 by omega)
      have HKB := Aside0.mk (show K < 1073741824 by omega)
      have HKK := Aside0.mk hK
      clear hK
      have CA := Aside0.mk (withn_at wr z (n := 1073741824) (by omega) (by omega) HKK.out)
      go_upto_block 2 with (first | (go_at_call 22; (with_reducible refine (CA.out _ ?hb).mono ?_); (case hb => (repeat (first | with_reducible assumption | with_reducible exact Below.refl _ _ | with_reducible apply below_alloc | with_reducible apply pw_below_drewN | with_reducible apply below_drew1))); rintro e w30 ⟨rfl, hx30⟩))
      replace HRB := Aside0.mk (HRB.out.below hx30)
      replace HZ := Aside0.mk ((hx30.block _ (WB.blk_lt HZ.out)).trans HZ.out)
      replace HXV := Aside0.mk (pw_cell_below hx30 HXV.out)
      replace HB := Aside0.mk (below_step HB.out hx30)
      clear CA hx30 hx
      have hkb : (K : Int) < 1073741824 := by have := HKB.out; omega
      go_cut [20, 21, 82] (fun s20 s21 s82 wx => ∃ (y : List Int) (x : Int) (A : Option Addr) (c : Nat), s20 = .slice A y.length c ∧ s21 = .int .i64 x ∧ Aside (KeepR (y, x) p.bare p.kind wb b.length) ∧ Aside (Rw wx A c y) ∧ Aside (Rw wx Ad cd d) ∧ Aside (wx.heap[w1.heap.size]? = some (.cells #[.int .i64 p.kind, .int .i64 p.life, .int .i64 p.piece, .int .i64 p.frm, .int .i64 p.dst, .int .i64 p.fp, .int .i64 p.tp, .int .i64 p.flags, .int .i64 p.label, .bool p.bare, .int .i64 p.code, .slice A1 p.opts.length c1, .slice A2 p.data.length c2] 26 (0, 0))) ∧ Aside (Below w.heap.size w wx))
      case first =>
        obtain ⟨t, ht⟩ : ∃ t, K % 4 = t := ⟨_, rfl⟩
        have ht4 : t = 0 ∨ t = 1 ∨ t = 2 ∨ t = 3 := by omega
        have htz : (K : Int) % 4 = (t : Int) := by omega
        clear ht
        have hk4 := ht4
        rcases hk4 with rfl | rfl | ht23
        · clear ht4
          obtain ⟨⟨y, x⟩, hr⟩ : ∃ r, ageR d = r := ⟨_, rfl⟩
          have HKR := Aside0.mk (show KeepR (y, x) p.bare p.kind wb b.length from by rw [← hr]; exact keep_age HKA.out)
          have CN := Aside0.mk (age_at (W0 := w30) (n := b.length) HRB.out HDL.out HD10.out HKA.out.y hr)
          clear hr
          go_wp2_with (first | (go_at_call 30; (with_reducible refine (CN.out _ ?hb).mono ?_); (case hb => (repeat (first | with_reducible assumption | with_reducible exact Below.refl _ _ | with_reducible apply below_alloc | with_reducible apply pw_below_drewN | with_reducible apply below_drew1))); rintro e w31 ⟨A3, c3, rfl, hr, hb⟩; replace HRB := Aside0.mk (HRB.out.below hb); replace HZ := Aside0.mk ((hb.block _ (WB.blk_lt HZ.out)).trans HZ.out); replace HXV := Aside0.mk (pw_cell_below hb HXV.out); replace HB := Aside0.mk (below_step HB.out hb); have R1 := Aside0.mk (rw_of hr); clear hr hb))
          go_meet
          exact ⟨y, x, A3, c3, rfl, rfl, HKR.out, R1.out, HRB.out, HZ.out, HB.out⟩
        · clear ht4
          obtain ⟨X, hX⟩ : ∃ X, v % 4294967296 = X := ⟨_, rfl⟩
          obtain ⟨Y, hY⟩ : ∃ Y, (wrap64 (v.tdiv 3)) % 65536 = Y := ⟨_, rfl⟩
          obtain ⟨src, hsrc⟩ : ∃ x : Bool, ((K : Int) / 4 % 2 == 0) = x := ⟨_, rfl⟩
          have HXB := Aside0.mk (show 0 ≤ X ∧ X < 4294967296 ∧ 0 ≤ Y ∧ Y < 65536 by omega)
          obtain ⟨⟨y, x⟩, hr⟩ : ∃ r, natR d src X Y = r := ⟨_, rfl⟩
          have HKR := Aside0.mk (show KeepR (y, x) p.bare p.kind wb b.length from by rw [← hr]; exact keep_nat HKA.out src HXB.out.1 HXB.out.2.1 HXB.out.2.2.1 HXB.out.2.2.2)
          have CA := Aside0.mk (withn_at w30 v (n := 4294967296) (by omega) (by omega) hX)
          have CB := Aside0.mk (withn_at w30 (wrap64 (v.tdiv 3)) (n := 65536) (by omega) (by omega) hY)
          have CN := Aside0.mk (nat_at (W0 := w30) (n := b.length) HRB.out HDL.out HD10.out HKA.out.y src X Y hr)
          clear hr hX hY
          go_upto_region 21 with fail
          have hd1 : (K : Int).tdiv 4 = (K : Int) / 4 := Int.tdiv_eq_ediv_of_nonneg (by omega)
          have hd0 : Go.IntKind.i64.wrap ((K : Int) / 4) = (K : Int) / 4 := wrap_i64w _ (by omega) (by omega)
          have hd2 : ((K : Int) / 4).tmod 2 = (K : Int) / 4 % 2 := Int.tmod_eq_emod_of_nonneg (by omega)
          refine start_ (n := 22) (S := fun w' => w'.cell? (av.add i) = some (.int .i64 v)) (ds := []) #[false, false, false, false, false, false, false, false, false, false, false, false, false, false, false, false, false, false, false, false, false, false] (by kernel_rfl) rfl rfl ((pw_cell_below (Below.refl w30.heap.size w30).drew HXV.out)) (fun hHeld => ?_)
          refine pure_ (i := 0) (N := some 117) (v := ?_) (a' := ?_) #[true, false, false, false, false, false, false, false, false, false, false, false, false, false, false, false, false, false, false, false, false, false] rfl rfl (by kernel_rfl) (fun _ _ _ h => h) (Or.inl ⟨by rfl, ?_⟩) ?_ ?_
          rotate_left
          · intro w'
            go_simp
            with_reducible rfl
          rotate_left
          · simp only [Act.put, List.setIfInBounds_toArray, List.set_cons_zero, List.set_cons_succ, i64_w, i32_w]
            rfl
          refine pure_ (i := 1) (N := some 118) (v := ?_) (a' := ?_) #[true, true, false, false, false, false, false, false, false, false, false, false, false, false, false, false, false, false, false, false, false, false] rfl rfl (by kernel_rfl) (fun _ _ _ h => h) (Or.inl ⟨by rfl, ?_⟩) ?_ ?_
          rotate_left
          · intro w'
            go_simp
            with_reducible rfl
          rotate_left
          · simp only [Act.put, List.setIfInBounds_toArray, List.set_cons_zero, List.set_cons_succ, i64_w, i32_w]
            rfl
          refine pure_ (i := 2) (N := some 119) (v := ?_) (a' := ?_) #[true, true, true, false, false, false, false, false, false, false, false, false, false, false, false, false, false, false, false, false, false, false] rfl rfl (by kernel_rfl) (fun _ _ _ h => h) (Or.inl ⟨by rfl, ?_⟩) ?_ ?_
          rotate_left
          · intro w'
            go_simp
            with_reducible rfl
          rotate_left
          · simp only [Act.put, List.setIfInBounds_toArray, List.set_cons_zero, List.set_cons_succ, i64_w, i32_w]
            rfl
          refine pure_ (i := 3) (N := some 120) (v := ?_) (a' := ?_) #[true, true, true, true, false, false, false, false, false, false, false, false, false, false, false, false, false, false, false, false, false, false] rfl rfl (by kernel_rfl) (fun _ _ _ h => h) (Or.inl ⟨by rfl, ?_⟩) ?_ ?_
          rotate_left
          · intro w'
            go_simp
            with_reducible rfl
          rotate_left
          · simp only [Act.put, List.setIfInBounds_toArray, List.set_cons_zero, List.set_cons_succ, i64_w, i32_w]
            rfl
          refine pure_ (i := 4) (N := some 121) (v := ?_) (a' := ?_) #[true, true, true, true, true, false, false, false, false, false, false, false, false, false, false, false, false, false, false, false, false, false] rfl rfl (by kernel_rfl) (fun _ _ _ h => h) (Or.inl ⟨by rfl, ?_⟩) ?_ ?_
          rotate_left
          · intro w'
            go_simp
            with_reducible rfl
          rotate_left
          · simp only [Act.put, List.setIfInBounds_toArray, List.set_cons_zero, List.set_cons_succ, i64_w, i32_w]
            rfl
          refine pure_ (i := 5) (N := some 122) (v := ?_) (a' := ?_) #[true, true, true, true, true, true, false, false, false, false, false, false, false, false, false, false, false, false, false, false, false, false] rfl rfl (by kernel_rfl) (fun _ _ _ h => h) (Or.inl ⟨by rfl, ?_⟩) ?_ ?_
          rotate_left
          · intro w'
            go_simp
            with_reducible rfl
          rotate_left
          · simp only [Act.put, List.setIfInBounds_toArray, List.set_cons_zero, List.set_cons_succ, i64_w, i32_w]
            rfl
          refine pure_ (i := 6) (N := some 123) (v := ?_) (a' := ?_) #[true, true, true, true, true, true, true, false, false, false, false, false, false, false, false, false, false, false, false, false, false, false] rfl rfl (by kernel_rfl) (fun _ _ _ h => h) (Or.inl ⟨by rfl, ?_⟩) ?_ ?_
          rotate_left
          · intro w'
            go_simp
            with_reducible rfl
          rotate_left
          · simp only [Act.put, List.setIfInBounds_toArray, List.set_cons_zero, List.set_cons_succ, i64_w, i32_w]
            rfl
          refine pure_ (i := 7) (N := some 124) (v := ?_) (a' := ?_) #[true, true, true, true, true, true, true, true, false, false, false, false, false, false, false, false, false, false, false, false, false, false] rfl rfl (by kernel_rfl) (fun _ _ _ h => h) (Or.inl ⟨by rfl, ?_⟩) ?_ ?_
          rotate_left
          · intro w'
            go_simp
            with_reducible rfl
          rotate_left
          · simp only [Act.put, List.setIfInBounds_toArray, List.set_cons_zero, List.set_cons_succ, i64_w, i32_w]
            rfl
          refine pure_ (i := 10) (N := some 127) (v := ?_) (a' := ?_) #[true, true, true, true, true, true, true, true, false, false, true, false, false, false, false, false, false, false, false, false, false, false] rfl rfl (by kernel_rfl) (fun _ _ _ h => h) (Or.inl ⟨by rfl, ?_⟩) ?_ ?_
          rotate_left
          · intro w'
            go_simp
            with_reducible rfl
          rotate_left
          · simp only [Act.put, List.setIfInBounds_toArray, List.set_cons_zero, List.set_cons_succ, i64_w, i32_w]
            rfl
          refine pure_ (i := 11) (N := some 128) (v := ?_) (a' := ?_) #[true, true, true, true, true, true, true, true, false, false, true, true, false, false, false, false, false, false, false, false, false, false] rfl rfl (by kernel_rfl) (fun _ _ _ h => h) (Or.inl ⟨by rfl, ?_⟩) ?_ ?_
          rotate_left
          · intro w'
            go_simp
            with_reducible rfl
          rotate_left
          · simp only [Act.put, List.setIfInBounds_toArray, List.set_cons_zero, List.set_cons_succ, i64_w, i32_w]
            rfl
          refine pure_ (i := 12) (N := some 129) (v := ?_) (a' := ?_) #[true, true, true, true, true, true, true, true, false, false, true, true, true, false, false, false, false, false, false, false, false, false] rfl rfl (by kernel_rfl) (fun _ _ _ h => h) (Or.inl ⟨by rfl, ?_⟩) ?_ ?_
          rotate_left
          · intro w'
            go_simp
            with_reducible rfl
          rotate_left
          · simp only [Act.put, List.setIfInBounds_toArray, List.set_cons_zero, List.set_cons_succ, i64_w, i32_w]
            rfl
          refine take_ (i := 8) (N := some 125) (v := ?_) (a' := ?_) #[true, true, true, true, true, true, true, true, true, false, true, true, true, false, false, false, false, false, false, false, false, false] rfl rfl (by kernel_rfl) (fun _ _ _ h => h) (Or.inl ⟨by rfl, ?_⟩) hHeld ?_ ?_
          rotate_left
          · intro w' s0
            go_simp
            with_reducible rfl
          rotate_left
          · simp only [Act.put, List.setIfInBounds_toArray, List.set_cons_zero, List.set_cons_succ, i64_w, i32_w]
            rfl
          refine take_ (i := 13) (N := some 130) (v := ?_) (a' := ?_) #[true, true, true, true, true, true, true, true, true, false, true, true, true, true, false, false, false, false, false, false, false, false] rfl rfl (by kernel_rfl) (fun _ _ _ h => h) (Or.inl ⟨by rfl, ?_⟩) hHeld ?_ ?_
          rotate_left
          · intro w' s0
            go_simp
            with_reducible rfl
          rotate_left
          · simp only [Act.put, List.setIfInBounds_toArray, List.set_cons_zero, List.set_cons_succ, i64_w, i32_w]
            rfl
          refine pure_ (i := 14) (N := some 131) (v := ?_) (a' := ?_) #[true, true, true, true, true, true, true, true, true, false, true, true, true, true, true, false, false, false, false, false, false, false] rfl rfl (by kernel_rfl) (fun _ _ _ h => h) (Or.inl ⟨by rfl, ?_⟩) ?_ ?_
          rotate_left
          · intro w'
            go_simp
            with_reducible rfl
          rotate_left
          · simp only [Act.put, List.setIfInBounds_toArray, List.set_cons_zero, List.set_cons_succ, i64_w, i32_w]
            rfl
          refine one_ (i := 9) (N := some 126) #[true, true, true, true, true, true, true, true, true, true, true, true, true, true, true, false, false, false, false, false, false, false] rfl rfl (by kernel_rfl) (by decide) (fun K hK => ?_)
          refine goes_ Try.func22 (by kernel_rfl) rfl #[.int .i64 v, .int .i64 4294967296] (by rfl) rfl rfl (by simp only [List.map_toArray, List.map_cons, List.map_nil]; rfl) ?_
          with_reducible refine (CA.out _ (by repeat (first | with_reducible assumption | with_reducible exact Below.refl _ _ | with_reducible apply below_alloc | with_reducible apply pw_below_drewN | with_reducible apply below_drew1))).mono ?_
          rintro e x1 ⟨rfl, hx1⟩
          refine ⟨_, rfl, ?_⟩
          refine hK.out _ _ ((pw_cell_below hx1 HXV.out)) (fun hHeld => ?_)
          clear hK K
          refine norm_ (a' := ?_) ?_ ?_
          rotate_left
          · show Act.put _ (some 126) _ = _
            simp only [Act.put, List.setIfInBounds_toArray, List.set_cons_zero, List.set_cons_succ, i64_w, i32_w]
            rfl
          refine one_ (i := 15) (N := some 132) #[true, true, true, true, true, true, true, true, true, true, true, true, true, true, true, true, false, false, false, false, false, false] rfl rfl (by kernel_rfl) (by decide) (fun K hK => ?_)
          refine goes_ Try.func22 (by kernel_rfl) rfl #[.int .i64 (wrap64 (v.tdiv 3)), .int .i64 65536] (by rfl) rfl rfl (by simp only [List.map_toArray, List.map_cons, List.map_nil]; rfl) ?_
          with_reducible refine (CB.out _ (by repeat (first | with_reducible assumption | with_reducible exact Below.refl _ _ | with_reducible apply below_alloc | with_reducible apply pw_below_drewN | with_reducible apply below_drew1))).mono ?_
          rintro e x2 ⟨rfl, hx2⟩
          refine ⟨_, rfl, ?_⟩
          refine hK.out _ _ ((pw_cell_below hx2 HXV.out)) (fun hHeld => ?_)
          clear hK K
          refine norm_ (a' := ?_) ?_ ?_
          rotate_left
          · show Act.put _ (some 132) _ = _
            simp only [Act.put, List.setIfInBounds_toArray, List.set_cons_zero, List.set_cons_succ, i64_w, i32_w]
            rfl
          refine one_ (i := 16) (N := some 133) #[true, true, true, true, true, true, true, true, true, true, true, true, true, true, true, true, true, false, false, false, false, false] rfl rfl (by kernel_rfl) (by decide) (fun K hK => ?_)
          refine goes_ Try.func28 (by kernel_rfl) rfl #[.slice Ad b.length cd, .bool src, .int .i64 X, .int .i64 Y] (by rfl) rfl rfl (by simp only [List.map_toArray, List.map_cons, List.map_nil]; rfl) ?_
          with_reducible refine (CN.out _ (by repeat (first | with_reducible assumption | with_reducible exact Below.refl _ _ | with_reducible apply below_alloc | with_reducible apply pw_below_drewN | with_reducible apply below_drew1))).mono ?_
          rintro e w7 ⟨A3, c3, rfl, hr, hb⟩
          refine ⟨_, rfl, ?_⟩
          refine hK.out _ _ ((pw_cell_below hb HXV.out)) (fun hHeld => ?_)
          clear hK K
          refine norm_ (a' := ?_) ?_ ?_
          rotate_left
          · show Act.put _ (some 133) _ = _
            simp only [Act.put, List.setIfInBounds_toArray, List.set_cons_zero, List.set_cons_succ, i64_w, i32_w]
            rfl
          refine pure_ (i := 17) (N := some 116) (v := ?_) (a' := ?_) #[true, true, true, true, true, true, true, true, true, true, true, true, true, true, true, true, true, true, false, false, false, false] rfl rfl (by kernel_rfl) (fun _ _ _ h => h) (Or.inl ⟨by rfl, ?_⟩) ?_ ?_
          rotate_left
          · intro w'
            go_simp
            with_reducible rfl
          rotate_left
          · simp only [Act.put, List.setIfInBounds_toArray, List.set_cons_zero, List.set_cons_succ, i64_w, i32_w]
            rfl
          refine pure_ (i := 18) (N := some 134) (v := ?_) (a' := ?_) #[true, true, true, true, true, true, true, true, true, true, true, true, true, true, true, true, true, true, true, false, false, false] rfl rfl (by kernel_rfl) (fun _ _ _ h => h) (Or.inl ⟨by rfl, ?_⟩) ?_ ?_
          rotate_left
          · intro w'
            go_simp
            with_reducible rfl
          rotate_left
          · simp only [Act.put, List.setIfInBounds_toArray, List.set_cons_zero, List.set_cons_succ, i64_w, i32_w]
            rfl
          refine pure_ (i := 19) (N := some 135) (v := ?_) (a' := ?_) #[true, true, true, true, true, true, true, true, true, true, true, true, true, true, true, true, true, true, true, true, false, false] rfl rfl (by kernel_rfl) (fun _ _ _ h => h) (Or.inl ⟨by rfl, ?_⟩) ?_ ?_
          rotate_left
          · intro w'
            go_simp
            with_reducible rfl
          rotate_left
          · simp only [Act.put, List.setIfInBounds_toArray, List.set_cons_zero, List.set_cons_succ, i64_w, i32_w]
            rfl
          refine pure_ (i := 20) (N := some 20) (v := ?_) (a' := ?_) #[true, true, true, true, true, true, true, true, true, true, true, true, true, true, true, true, true, true, true, true, true, false] rfl rfl (by kernel_rfl) (fun _ _ _ h => h) (Or.inl ⟨by rfl, ?_⟩) ?_ ?_
          rotate_left
          · intro w'
            go_simp
            with_reducible rfl
          rotate_left
          · simp only [Act.put, List.setIfInBounds_toArray, List.set_cons_zero, List.set_cons_succ, i64_w, i32_w]
            rfl
          refine pure_ (i := 21) (N := some 21) (v := ?_) (a' := ?_) #[true, true, true, true, true, true, true, true, true, true, true, true, true, true, true, true, true, true, true, true, true, true] rfl rfl (by kernel_rfl) (fun _ _ _ h => h) (Or.inl ⟨by rfl, ?_⟩) ?_ ?_
          rotate_left
          · intro w'
            go_simp
            with_reducible rfl
          rotate_left
          · simp only [Act.put, List.setIfInBounds_toArray, List.set_cons_zero, List.set_cons_succ, i64_w, i32_w]
            rfl
          refine done_ (by kernel_rfl) ?_
          have R1 := Aside0.mk (rw_of hr)
          replace HRB := Aside0.mk (HRB.out.below hb)
          replace HZ := Aside0.mk ((hb.block _ (WB.blk_lt HZ.out)).trans HZ.out)
          replace HB := Aside0.mk (below_step HB.out hb)
          clear hr hb hx1 hx2 hHeld CA CB CN hd1 hd2 hd0
          go_wp2
          go_meet
          exact ⟨y, x, A3, c3, rfl, rfl, HKR.out, R1.out, HRB.out, HZ.out, HB.out⟩
        · have k0 : ((t : Int) == 0) = false := beq_eq_false_iff_ne.mpr (by omega)
          have k1 : ((t : Int) == 1) = false := beq_eq_false_iff_ne.mpr (by omega)
          have k0n : (t == 0) = false := beq_eq_false_iff_ne.mpr (by omega)
          have k1n : (t == 1) = false := beq_eq_false_iff_ne.mpr (by omega)
          clear ht4 ht23
          obtain ⟨j, hj⟩ : ∃ j, K / 4 % 3 = j := ⟨_, rfl⟩
          have hjz : (K : Int) / 4 % 3 = (j : Int) := by omega
          have HJ3 := Aside0.mk (show j < 3 by omega)
          have j3 : (j : Int) < 3 := by omega
          have j3n : j < 3 := by omega
          obtain ⟨m, hm⟩ : ∃ x, ([1, 2, 4] : List Int).getD j 0 = x := ⟨_, rfl⟩
          have HM := Aside0.mk hm
          have HM3 := Aside0.mk (show m = 1 ∨ m = 2 ∨ m = 4 from by rw [← hm]; exact pick124t j3n)
          clear hm hj
          obtain ⟨Q, hQ⟩ := Int.eq_ofNat_of_zero_le (Int.emod_nonneg ((K : Int) / 12) (show (b.length : Int) - 20 ≠ 0 by omega))
          have HQ1 := Aside0.mk (show (Q : Int) < (b.length : Int) - 20 from by rw [← hQ]; exact Int.emod_lt_of_pos _ (by omega))
          obtain ⟨X, hX⟩ : ∃ X, v % 256 = X := ⟨_, rfl⟩
          have HXB := Aside0.mk (show 0 ≤ X ∧ X < 256 by omega)
          obtain ⟨⟨y, x⟩, hr⟩ : ∃ r, writeR d (24 + (Q : Int)) m X = r := ⟨_, rfl⟩
          have HKR := Aside0.mk (show KeepR (y, x) p.bare p.kind wb b.length from by rw [← hr]; exact keep_write HKA.out HM3.out HXB.out.1 HXB.out.2)
          have HRR := Aside0.mk hr
          have HXX := Aside0.mk hX
          have HQQ := Aside0.mk hQ
          clear hr hX hQ
          go_upto_region 17 with (first | ((with_reducible refine gate_dst (N := 83) rfl ?_); refine Kd.R_lit (Kd.int .i64) (w0 := w30) w30.heap.size 3 ?hg (N := 83) ?hd (xs := ([1, 2, 4] : List Int)) (inner := [.int .i64 1, .int .i64 2, .int .i64 4]) (ok := fun _ => True) (okp := fun _ => True) ?hr ?hp (fun _ hk => hk) trivial (Below.refl _ _) (Nat.le_refl _) (by simp) ?_; (case hd => rfl); (case hg => rfl); (case hr => first | (go_simp; done) | (go_simp; rfl)); (case hp => exact (Reps.one (show Kd.M (Kd.int .i64) _ _ _ 1 [.int .i64 1] from rfl) (Reps.one (show Kd.M (Kd.int .i64) _ _ _ 2 [.int .i64 2] from rfl) (Reps.one (show Kd.M (Kd.int .i64) _ _ _ 4 [.int .i64 4] from rfl) (Reps.none _ _))))); intro vl wl ho hb hg hat; obtain ⟨Al, cl, el⟩ := Kd.R_slice ho; subst el; have HLI := Kd.R_reads' ho; obtain ⟨al_, eal, hcl⟩ := Kd.at_int HLI.2.2 (j : Int) (by omega) (by show (j : Int) < _; simp; omega); rw [rd_nat, HM.out, Int.toNat_natCast] at hcl; subst eal; replace HRB := Aside0.mk (HRB.out.below hb); replace HZ := Aside0.mk ((hb.block _ (WB.blk_lt HZ.out)).trans HZ.out); replace HXV := Aside0.mk (pw_cell_below hb HXV.out); replace HB := Aside0.mk (below_step HB.out hb); clear ho hb hg hat))
          clear hcl
          have CB := Aside0.mk (withn_at wl v (n := 256) (by omega) (by omega) HXX.out)
          have CN := Aside0.mk (write_at (W0 := wl) (n := b.length) HRB.out HDL.out HD10.out HKA.out.y (24 + (Q : Int)) m X HRR.out)
          have hq300 : (Q : Int) ≤ 300 := by have := HQ1.out; omega
          have hw1 : Go.IntKind.i64.wrap ((b.length : Int) - 20) = (b.length : Int) - 20 := wrap_i64w _ (by omega) (by omega)
          have hd1 : (K : Int).tdiv 12 = (K : Int) / 12 := Int.tdiv_eq_ediv_of_nonneg (by omega)
          have hd2 : ((K : Int) / 12).tmod ((b.length : Int) - 20) = (Q : Int) := (Int.tmod_eq_emod_of_nonneg (by omega)).trans HQQ.out
          have hd3 : ((b.length : Int) - 20 = 0) = False := eq_false (by omega)
          have hd0 : Go.IntKind.i64.wrap ((K : Int) / 12) = (K : Int) / 12 := wrap_i64w _ (by omega) (by omega)
          have hw2 : Go.IntKind.i64.wrap (24 + (Q : Int)) = 24 + (Q : Int) := wrap_i64w _ (by omega) (by omega)
          refine start_ (n := 20) (S := fun w' => w'.cell? (av.add i) = some (.int .i64 v)) (ds := []) #[false, false, false, false, false, false, false, false, false, false, false, false, false, false, false, false, false, false, false, false] (by kernel_rfl) rfl rfl ((pw_cell_below (Below.refl wl.heap.size wl).drew HXV.out)) (fun hHeld => ?_)
          refine pure_ (i := 0) (N := some 90) (v := ?_) (a' := ?_) #[true, false, false, false, false, false, false, false, false, false, false, false, false, false, false, false, false, false, false, false] rfl rfl (by kernel_rfl) (fun _ _ _ h => h) (Or.inl ⟨by rfl, ?_⟩) ?_ ?_
          rotate_left
          · intro w'
            go_simp
            with_reducible rfl
          rotate_left
          · simp only [Act.put, List.setIfInBounds_toArray, List.set_cons_zero, List.set_cons_succ, i64_w, i32_w]
            rfl
          refine pure_ (i := 1) (N := some 91) (v := ?_) (a' := ?_) #[true, true, false, false, false, false, false, false, false, false, false, false, false, false, false, false, false, false, false, false] rfl rfl (by kernel_rfl) (fun _ _ _ h => h) (Or.inl ⟨by rfl, ?_⟩) ?_ ?_
          rotate_left
          · intro w'
            go_simp
            with_reducible rfl
          rotate_left
          · simp only [Act.put, List.setIfInBounds_toArray, List.set_cons_zero, List.set_cons_succ, i64_w, i32_w]
            rfl
          refine pure_ (i := 2) (N := some 92) (v := ?_) (a' := ?_) #[true, true, true, false, false, false, false, false, false, false, false, false, false, false, false, false, false, false, false, false] rfl rfl (by kernel_rfl) (fun _ _ _ h => h) (Or.inl ⟨by rfl, ?_⟩) ?_ ?_
          rotate_left
          · intro w'
            go_simp
            with_reducible rfl
          rotate_left
          · simp only [Act.put, List.setIfInBounds_toArray, List.set_cons_zero, List.set_cons_succ, i64_w, i32_w]
            rfl
          refine pure_ (i := 3) (N := some 93) (v := ?_) (a' := ?_) #[true, true, true, true, false, false, false, false, false, false, false, false, false, false, false, false, false, false, false, false] rfl rfl (by kernel_rfl) (fun _ _ _ h => h) (Or.inl ⟨by rfl, ?_⟩) ?_ ?_
          rotate_left
          · intro w'
            go_simp
            with_reducible rfl
          rotate_left
          · simp only [Act.put, List.setIfInBounds_toArray, List.set_cons_zero, List.set_cons_succ, i64_w, i32_w]
            rfl
          refine pure_ (i := 4) (N := some 94) (v := ?_) (a' := ?_) #[true, true, true, true, true, false, false, false, false, false, false, false, false, false, false, false, false, false, false, false] rfl rfl (by kernel_rfl) (fun _ _ _ h => h) (Or.inl ⟨by rfl, ?_⟩) ?_ ?_
          rotate_left
          · intro w'
            go_simp
            with_reducible rfl
          rotate_left
          · simp only [Act.put, List.setIfInBounds_toArray, List.set_cons_zero, List.set_cons_succ, i64_w, i32_w]
            rfl
          refine pure_ (i := 5) (N := some 95) (v := ?_) (a' := ?_) #[true, true, true, true, true, true, false, false, false, false, false, false, false, false, false, false, false, false, false, false] rfl rfl (by kernel_rfl) (fun _ _ _ h => h) (Or.inl ⟨by rfl, ?_⟩) ?_ ?_
          rotate_left
          · intro w'
            go_simp
            with_reducible rfl
          rotate_left
          · simp only [Act.put, List.setIfInBounds_toArray, List.set_cons_zero, List.set_cons_succ, i64_w, i32_w]
            rfl
          refine pure_ (i := 6) (N := some 96) (v := ?_) (a' := ?_) #[true, true, true, true, true, true, true, false, false, false, false, false, false, false, false, false, false, false, false, false] rfl rfl (by kernel_rfl) (fun _ _ _ h => h) (Or.inl ⟨by rfl, ?_⟩) ?_ ?_
          rotate_left
          · intro w'
            go_simp
            with_reducible rfl
          rotate_left
          · simp only [Act.put, List.setIfInBounds_toArray, List.set_cons_zero, List.set_cons_succ, i64_w, i32_w]
            rfl
          refine pure_ (i := 7) (N := some 97) (v := ?_) (a' := ?_) #[true, true, true, true, true, true, true, true, false, false, false, false, false, false, false, false, false, false, false, false] rfl rfl (by kernel_rfl) (fun _ _ _ h => h) (Or.inl ⟨by rfl, ?_⟩) ?_ ?_
          rotate_left
          · intro w'
            go_simp
            with_reducible rfl
          rotate_left
          · simp only [Act.put, List.setIfInBounds_toArray, List.set_cons_zero, List.set_cons_succ, i64_w, i32_w]
            rfl
          refine pure_ (i := 8) (N := some 98) (v := ?_) (a' := ?_) #[true, true, true, true, true, true, true, true, true, false, false, false, false, false, false, false, false, false, false, false] rfl rfl (by kernel_rfl) (fun _ _ _ h => h) (Or.inl ⟨by rfl, ?_⟩) ?_ ?_
          rotate_left
          · intro w'
            go_simp
            with_reducible rfl
          rotate_left
          · simp only [Act.put, List.setIfInBounds_toArray, List.set_cons_zero, List.set_cons_succ, i64_w, i32_w]
            rfl
          refine pure_ (i := 9) (N := some 99) (v := ?_) (a' := ?_) #[true, true, true, true, true, true, true, true, true, true, false, false, false, false, false, false, false, false, false, false] rfl rfl (by kernel_rfl) (fun _ _ _ h => h) (Or.inl ⟨by rfl, ?_⟩) ?_ ?_
          rotate_left
          · intro w'
            go_simp
            with_reducible rfl
          rotate_left
          · simp only [Act.put, List.setIfInBounds_toArray, List.set_cons_zero, List.set_cons_succ, i64_w, i32_w]
            rfl
          refine pure_ (i := 10) (N := some 100) (v := ?_) (a' := ?_) #[true, true, true, true, true, true, true, true, true, true, true, false, false, false, false, false, false, false, false, false] rfl rfl (by kernel_rfl) (fun _ _ _ h => h) (Or.inl ⟨by rfl, ?_⟩) ?_ ?_
          rotate_left
          · intro w'
            go_simp
            with_reducible rfl
          rotate_left
          · simp only [Act.put, List.setIfInBounds_toArray, List.set_cons_zero, List.set_cons_succ, i64_w, i32_w]
            rfl
          refine pure_ (i := 11) (N := some 101) (v := ?_) (a' := ?_) #[true, true, true, true, true, true, true, true, true, true, true, true, false, false, false, false, false, false, false, false] rfl rfl (by kernel_rfl) (fun _ _ _ h => h) (Or.inl ⟨by rfl, ?_⟩) ?_ ?_
          rotate_left
          · intro w'
            go_simp
            with_reducible rfl
          rotate_left
          · simp only [Act.put, List.setIfInBounds_toArray, List.set_cons_zero, List.set_cons_succ, i64_w, i32_w]
            rfl
          refine take_ (i := 12) (N := some 102) (v := ?_) (a' := ?_) #[true, true, true, true, true, true, true, true, true, true, true, true, true, false, false, false, false, false, false, false] rfl rfl (by kernel_rfl) (fun _ _ _ h => h) (Or.inl ⟨by rfl, ?_⟩) hHeld ?_ ?_
          rotate_left
          · intro w' s0
            go_simp
            with_reducible rfl
          rotate_left
          · simp only [Act.put, List.setIfInBounds_toArray, List.set_cons_zero, List.set_cons_succ, i64_w, i32_w]
            rfl
          refine one_ (i := 13) (N := some 103) #[true, true, true, true, true, true, true, true, true, true, true, true, true, true, false, false, false, false, false, false] rfl rfl (by kernel_rfl) (by decide) (fun K hK => ?_)
          refine goes_ Try.func22 (by kernel_rfl) rfl #[.int .i64 v, .int .i64 256] (by rfl) rfl rfl (by simp only [List.map_toArray, List.map_cons, List.map_nil]; rfl) ?_
          with_reducible refine (CB.out _ (by repeat (first | with_reducible assumption | with_reducible exact Below.refl _ _ | with_reducible apply below_alloc | with_reducible apply pw_below_drewN | with_reducible apply below_drew1))).mono ?_
          rintro e x2 ⟨rfl, hx2⟩
          refine ⟨_, rfl, ?_⟩
          refine hK.out _ _ ((pw_cell_below hx2 HXV.out)) (fun hHeld => ?_)
          clear hK K
          refine norm_ (a' := ?_) ?_ ?_
          rotate_left
          · show Act.put _ (some 103) _ = _
            simp only [Act.put, List.setIfInBounds_toArray, List.set_cons_zero, List.set_cons_succ, i64_w, i32_w]
            rfl
          refine one_ (i := 14) (N := some 104) #[true, true, true, true, true, true, true, true, true, true, true, true, true, true, true, false, false, false, false, false] rfl rfl (by kernel_rfl) (by decide) (fun K hK => ?_)
          refine goes_ Try.func26 (by kernel_rfl) rfl #[.slice Ad b.length cd, .int .i64 (24 + (Q : Int)), .int .i64 m, .int .i64 X] (by rfl) rfl rfl (by simp only [List.map_toArray, List.map_cons, List.map_nil]; rfl) ?_
          with_reducible refine (CN.out _ (by repeat (first | with_reducible assumption | with_reducible exact Below.refl _ _ | with_reducible apply below_alloc | with_reducible apply pw_below_drewN | with_reducible apply below_drew1))).mono ?_
          rintro e w7 ⟨A3, c3, rfl, hr, hb⟩
          refine ⟨_, rfl, ?_⟩
          refine hK.out _ _ ((pw_cell_below hb HXV.out)) (fun hHeld => ?_)
          clear hK K
          refine norm_ (a' := ?_) ?_ ?_
          rotate_left
          · show Act.put _ (some 104) _ = _
            simp only [Act.put, List.setIfInBounds_toArray, List.set_cons_zero, List.set_cons_succ, i64_w, i32_w]
            rfl
          refine pure_ (i := 15) (N := some 89) (v := ?_) (a' := ?_) #[true, true, true, true, true, true, true, true, true, true, true, true, true, true, true, true, false, false, false, false] rfl rfl (by kernel_rfl) (fun _ _ _ h => h) (Or.inl ⟨by rfl, ?_⟩) ?_ ?_
          rotate_left
          · intro w'
            go_simp
            with_reducible rfl
          rotate_left
          · simp only [Act.put, List.setIfInBounds_toArray, List.set_cons_zero, List.set_cons_succ, i64_w, i32_w]
            rfl
          refine pure_ (i := 16) (N := some 105) (v := ?_) (a' := ?_) #[true, true, true, true, true, true, true, true, true, true, true, true, true, true, true, true, true, false, false, false] rfl rfl (by kernel_rfl) (fun _ _ _ h => h) (Or.inl ⟨by rfl, ?_⟩) ?_ ?_
          rotate_left
          · intro w'
            go_simp
            with_reducible rfl
          rotate_left
          · simp only [Act.put, List.setIfInBounds_toArray, List.set_cons_zero, List.set_cons_succ, i64_w, i32_w]
            rfl
          refine pure_ (i := 17) (N := some 106) (v := ?_) (a' := ?_) #[true, true, true, true, true, true, true, true, true, true, true, true, true, true, true, true, true, true, false, false] rfl rfl (by kernel_rfl) (fun _ _ _ h => h) (Or.inl ⟨by rfl, ?_⟩) ?_ ?_
          rotate_left
          · intro w'
            go_simp
            with_reducible rfl
          rotate_left
          · simp only [Act.put, List.setIfInBounds_toArray, List.set_cons_zero, List.set_cons_succ, i64_w, i32_w]
            rfl
          refine pure_ (i := 18) (N := some 20) (v := ?_) (a' := ?_) #[true, true, true, true, true, true, true, true, true, true, true, true, true, true, true, true, true, true, true, false] rfl rfl (by kernel_rfl) (fun _ _ _ h => h) (Or.inl ⟨by rfl, ?_⟩) ?_ ?_
          rotate_left
          · intro w'
            go_simp
            with_reducible rfl
          rotate_left
          · simp only [Act.put, List.setIfInBounds_toArray, List.set_cons_zero, List.set_cons_succ, i64_w, i32_w]
            rfl
          refine pure_ (i := 19) (N := some 21) (v := ?_) (a' := ?_) #[true, true, true, true, true, true, true, true, true, true, true, true, true, true, true, true, true, true, true, true] rfl rfl (by kernel_rfl) (fun _ _ _ h => h) (Or.inl ⟨by rfl, ?_⟩) ?_ ?_
          rotate_left
          · intro w'
            go_simp
            with_reducible rfl
          rotate_left
          · simp only [Act.put, List.setIfInBounds_toArray, List.set_cons_zero, List.set_cons_succ, i64_w, i32_w]
            rfl
          refine done_ (by kernel_rfl) ?_
          have R1 := Aside0.mk (rw_of hr)
          replace HRB := Aside0.mk (HRB.out.below hb)
          replace HZ := Aside0.mk ((hb.block _ (WB.blk_lt HZ.out)).trans HZ.out)
          replace HB := Aside0.mk (below_step HB.out hb)
          clear hr hb hx2 hHeld CB CN hw1 hd1 hd2 hd3 hd0 hw2
          go_wp2
          go_meet
          exact ⟨y, x, A3, c3, rfl, rfl, HKR.out, R1.out, HRB.out, HZ.out, HB.out⟩
      case rest =>
      clear HXV HRB HZ HB
      obtain ⟨y, x, A3, c3, rfl, rfl, hkr, hr1, hrb, hz, hbw⟩ := hcut
      have HKR := Aside0.mk hkr.out
      have R1 := Aside0.mk hr1.out
      have HRB := Aside0.mk hrb.out
      have HZ := Aside0.mk hz.out
      have HB := Aside0.mk hbw.out
      clear hkr hr1 hrb hz hbw
      by_cases hx0 : x = 0
      · have q0 : (x == 0) = true := beq_iff_eq.mpr hx0
        have q0n : (x != 0) = false := by rw [bne, q0]; rfl
        have HKY := Aside0.mk (show KeepAt y p.bare p.kind wb b.length from by rcases HKR.out with h | h; exact h.2; exact absurd hx0 h)
        have HYL := Aside0.mk (show y.length = b.length from HKY.out.l)
        have g1 : ((y.length : Int) == (b.length : Int)) = true := beq_iff_eq.mpr (by rw [HYL.out])
        have g2 : ((y.length : Int) != (b.length : Int)) = false := by rw [bne, g1]; rfl
        clear hx0
        have C61 := Aside0.mk (rparse_at (W0 := wc) R1.out rfl (by have := HYL.out; have := HLB.out.2; omega) HKY.out.y (p := pkL y) (x := 0) HKY.out.o.parse)
        go_upto_region 26 with (first | (go_at_call 24; (with_reducible refine (C61.out _ ?hb).mono ?_); (case hb => (repeat (first | with_reducible assumption | with_reducible exact Below.refl _ _ | with_reducible apply below_alloc | with_reducible apply pw_below_drewN | with_reducible apply below_drew1))); rintro e w_62 ⟨A5, c5, A6, c6, rfl, h1, h2, h3, hb⟩; have hb2 := below_alloc hb (.cells #[.int .i64 (pkL y).kind, .int .i64 (pkL y).life, .int .i64 (pkL y).piece, .int .i64 (pkL y).frm, .int .i64 (pkL y).dst, .int .i64 (pkL y).fp, .int .i64 (pkL y).tp, .int .i64 (pkL y).flags, .int .i64 (pkL y).label, .bool (pkL y).bare, .int .i64 (pkL y).code, .slice A5 (pkL y).opts.length c5, .slice A6 (pkL y).data.length c6] 26); have hz := new_blk w_62 (.cells #[.int .i64 (pkL y).kind, .int .i64 (pkL y).life, .int .i64 (pkL y).piece, .int .i64 (pkL y).frm, .int .i64 (pkL y).dst, .int .i64 (pkL y).fp, .int .i64 (pkL y).tp, .int .i64 (pkL y).flags, .int .i64 (pkL y).label, .bool (pkL y).bare, .int .i64 (pkL y).code, .slice A5 (pkL y).opts.length c5, .slice A6 (pkL y).data.length c6] 26); have HX1 := Aside0.mk hb2; have HZ5 := Aside0.mk hz; have HO5 := Aside0.mk (rw_of (Kd.R_alloc h1 (.cells #[.int .i64 (pkL y).kind, .int .i64 (pkL y).life, .int .i64 (pkL y).piece, .int .i64 (pkL y).frm, .int .i64 (pkL y).dst, .int .i64 (pkL y).fp, .int .i64 (pkL y).tp, .int .i64 (pkL y).flags, .int .i64 (pkL y).label, .bool (pkL y).bare, .int .i64 (pkL y).code, .slice A5 (pkL y).opts.length c5, .slice A6 (pkL y).data.length c6] 26))); have HD5 := Aside0.mk (rw_of (Kd.R_alloc h2 (.cells #[.int .i64 (pkL y).kind, .int .i64 (pkL y).life, .int .i64 (pkL y).piece, .int .i64 (pkL y).frm, .int .i64 (pkL y).dst, .int .i64 (pkL y).fp, .int .i64 (pkL y).tp, .int .i64 (pkL y).flags, .int .i64 (pkL y).label, .bool (pkL y).bare, .int .i64 (pkL y).code, .slice A5 (pkL y).opts.length c5, .slice A6 (pkL y).data.length c6] 26))); clear h1 h2 h3 hb hb2 hz))
        change Code.wp _ _ _ _ (w_62.alloc (.cells #[.int .i64 (pkL y).kind, .int .i64 (pkL y).life, .int .i64 (pkL y).piece, .int .i64 (pkL y).frm, .int .i64 (pkL y).dst, .int .i64 (pkL y).fp, .int .i64 (pkL y).tp, .int .i64 (pkL y).flags, .int .i64 (pkL y).label, .bool (pkL y).bare, .int .i64 (pkL y).code, .slice A5 (pkL y).opts.length c5, .slice A6 (pkL y).data.length c6] 26))
        generalize w_62.alloc (.cells #[.int .i64 (pkL y).kind, .int .i64 (pkL y).life, .int .i64 (pkL y).piece, .int .i64 (pkL y).frm, .int .i64 (pkL y).dst, .int .i64 (pkL y).fp, .int .i64 (pkL y).tp, .int .i64 (pkL y).flags, .int .i64 (pkL y).label, .bool (pkL y).bare, .int .i64 (pkL y).code, .slice A5 (pkL y).opts.length c5, .slice A6 (pkL y).data.length c6] 26) = w_63 at HX1 HZ5 HO5 HD5 ⊢
        replace R1 := Aside0.mk (R1.out.below HX1.out)
        replace HZ := Aside0.mk ((HX1.out.block _ (WB.blk_lt HZ.out)).trans HZ.out)
        replace HB := Aside0.mk (below_step HB.out HX1.out)
        clear HX1 C61
        go_wp2
        go_roundg (gk - 1)
        case measure => have := HGK.out; omega
        case rel => exact ⟨i + 1, y, A3, c3, (by first | rfl | go_num), (by first | rfl | rw [HYL.out]), (by show _ = _; have := HK.out; have := HGK.out; omega), HKY.out, R1.out, HZ.out, HB.out⟩
      · have q0 : (x == 0) = false := beq_eq_false_iff_ne.mpr hx0
        have q0n : (x != 0) = true := bne_iff_ne.mpr hx0
        clear hx0
        go_wp2
        go_roundg (gk - 1)
        case measure => have := HGK.out; omega
        case rel => exact ⟨i + 1, d, Ad, cd, (by first | rfl | go_num), rfl, (by show _ = _; have := HK.out; have := HGK.out; omega), HKA.out, HRB.out, HZ.out, HB.out⟩
    · skip
      by_cases c2_ : i < ns4.length
      · have e1 : decide (i < ns4.length) = true := decide_eq_true c2_
        have e1i : decide ((i : Int) < (ns4.length : Int)) = true := decide_eq_true (by omega)
        by_cases c3_ : i < ns5.length
        · have e2 : decide (i < ns5.length) = true := decide_eq_true c3_
          have e2i : decide ((i : Int) < (ns5.length : Int)) = true := decide_eq_true (by omega)
          have e3 : decide ((i : Int) < 8) = false := decide_eq_false (by omega)
          clear c1 c2_ c3_
          obtain ⟨q, hq1, hq2, hq3⟩ := keep_end HKA.out
          have HQ := Aside0.mk hq1
          have HQ2 := Aside0.mk hq2
          have HQ3 := Aside0.mk hq3
          clear hq1 hq2 hq3
          have C81 := Aside0.mk (parse_at (W0 := wr) (n := b.length) HRB.out HDL.out HD10.out HKA.out.y HQ.out)
          go_upto_region 30 with (first | (go_at_call 19; (with_reducible refine (C81.out _ ?hb).mono ?_); (case hb => (repeat (first | with_reducible assumption | with_reducible exact Below.refl _ _ | with_reducible apply below_alloc | with_reducible apply pw_below_drewN | with_reducible apply below_drew1))); rintro e w_82 ⟨A5, c5, A6, c6, rfl, h1, h2, h3, hb⟩; have hb2 := below_alloc hb (.cells #[.int .i64 q.kind, .int .i64 q.life, .int .i64 q.piece, .int .i64 q.frm, .int .i64 q.dst, .int .i64 q.fp, .int .i64 q.tp, .int .i64 q.flags, .int .i64 q.label, .bool q.bare, .int .i64 q.code, .slice A5 q.opts.length c5, .slice A6 q.data.length c6] 26); have hz := new_blk w_82 (.cells #[.int .i64 q.kind, .int .i64 q.life, .int .i64 q.piece, .int .i64 q.frm, .int .i64 q.dst, .int .i64 q.fp, .int .i64 q.tp, .int .i64 q.flags, .int .i64 q.label, .bool q.bare, .int .i64 q.code, .slice A5 q.opts.length c5, .slice A6 q.data.length c6] 26); have HX1 := Aside0.mk hb2; have HZ5 := Aside0.mk hz; have HO5 := Aside0.mk (rw_of (Kd.R_alloc h1 (.cells #[.int .i64 q.kind, .int .i64 q.life, .int .i64 q.piece, .int .i64 q.frm, .int .i64 q.dst, .int .i64 q.fp, .int .i64 q.tp, .int .i64 q.flags, .int .i64 q.label, .bool q.bare, .int .i64 q.code, .slice A5 q.opts.length c5, .slice A6 q.data.length c6] 26))); have HD5 := Aside0.mk (rw_of (Kd.R_alloc h2 (.cells #[.int .i64 q.kind, .int .i64 q.life, .int .i64 q.piece, .int .i64 q.frm, .int .i64 q.dst, .int .i64 q.fp, .int .i64 q.tp, .int .i64 q.flags, .int .i64 q.label, .bool q.bare, .int .i64 q.code, .slice A5 q.opts.length c5, .slice A6 q.data.length c6] 26))); clear h1 h2 h3 hb hb2 hz))
          change Code.wp _ _ _ _ (w_82.alloc (.cells #[.int .i64 q.kind, .int .i64 q.life, .int .i64 q.piece, .int .i64 q.frm, .int .i64 q.dst, .int .i64 q.fp, .int .i64 q.tp, .int .i64 q.flags, .int .i64 q.label, .bool q.bare, .int .i64 q.code, .slice A5 q.opts.length c5, .slice A6 q.data.length c6] 26))
          generalize w_82.alloc (.cells #[.int .i64 q.kind, .int .i64 q.life, .int .i64 q.piece, .int .i64 q.frm, .int .i64 q.dst, .int .i64 q.fp, .int .i64 q.tp, .int .i64 q.flags, .int .i64 q.label, .bool q.bare, .int .i64 q.code, .slice A5 q.opts.length c5, .slice A6 q.data.length c6] 26) = w_83 at HX1 HZ5 HO5 HD5 ⊢
          replace HRB := Aside0.mk (HRB.out.below HX1.out)
          replace HZ := Aside0.mk ((HX1.out.block _ (WB.blk_lt HZ.out)).trans HZ.out)
          replace HB := Aside0.mk (below_step HB.out HX1.out)
          clear HX1 C81
          obtain ⟨k0, k1, k2, k3, k4, k5, k6, k7, k8, k9, k10, k11, k12⟩ := c13 HZ.out
          obtain ⟨q0, q1, q2, q3, q4, q5, q6, q7, q8, q9, q10, q11, q12⟩ := c13 HZ5.out
          rw [HQ2.out] at q9
          rw [HQ3.out] at q0
          have CW := Aside0.mk (whole_at (W0 := w_83) (n := b.length) HRB.out HDL.out HD10.out HKA.out.y HKA.out.w)
          go_wp2_with (first | (go_at_call 21; (with_reducible refine (CW.out _ ?hb).mono ?_); (case hb => (repeat (first | with_reducible assumption | with_reducible exact Below.refl _ _ | with_reducible apply below_alloc | with_reducible apply pw_below_drewN | with_reducible apply below_drew1))); rintro e w99 ⟨rfl, hx99⟩; have HB99 := Aside0.mk (below_step HB.out hx99); have hza := (hx99.block _ (WB.blk_lt HZ.out)).trans HZ.out; have hzb := (hx99.block _ (WB.blk_lt HZ5.out)).trans HZ5.out; clear k0 k1 k2 k3 k4 k5 k6 k7 k8 k9 k10 k11 k12 q0 q1 q2 q3 q4 q5 q6 q7 q8 q9 q10 q11 q12; obtain ⟨k0, k1, k2, k3, k4, k5, k6, k7, k8, k9, k10, k11, k12⟩ := c13 hza; obtain ⟨q0, q1, q2, q3, q4, q5, q6, q7, q8, q9, q10, q11, q12⟩ := c13 hzb; rw [HQ2.out] at q9; rw [HQ3.out] at q0; clear hza hzb hx99))
          go_ret
          exact ⟨by simp, HB99.out⟩
        · have e2 : decide (i < ns5.length) = false := decide_eq_false c3_
          have e2i : decide ((i : Int) < (ns5.length : Int)) = false := decide_eq_false (by omega)
          clear c1 c2_ c3_
          obtain ⟨q, hq1, hq2, hq3⟩ := keep_end HKA.out
          have HQ := Aside0.mk hq1
          have HQ2 := Aside0.mk hq2
          have HQ3 := Aside0.mk hq3
          clear hq1 hq2 hq3
          have C81 := Aside0.mk (parse_at (W0 := wr) (n := b.length) HRB.out HDL.out HD10.out HKA.out.y HQ.out)
          go_upto_region 30 with (first | (go_at_call 19; (with_reducible refine (C81.out _ ?hb).mono ?_); (case hb => (repeat (first | with_reducible assumption | with_reducible exact Below.refl _ _ | with_reducible apply below_alloc | with_reducible apply pw_below_drewN | with_reducible apply below_drew1))); rintro e w_82 ⟨A5, c5, A6, c6, rfl, h1, h2, h3, hb⟩; have hb2 := below_alloc hb (.cells #[.int .i64 q.kind, .int .i64 q.life, .int .i64 q.piece, .int .i64 q.frm, .int .i64 q.dst, .int .i64 q.fp, .int .i64 q.tp, .int .i64 q.flags, .int .i64 q.label, .bool q.bare, .int .i64 q.code, .slice A5 q.opts.length c5, .slice A6 q.data.length c6] 26); have hz := new_blk w_82 (.cells #[.int .i64 q.kind, .int .i64 q.life, .int .i64 q.piece, .int .i64 q.frm, .int .i64 q.dst, .int .i64 q.fp, .int .i64 q.tp, .int .i64 q.flags, .int .i64 q.label, .bool q.bare, .int .i64 q.code, .slice A5 q.opts.length c5, .slice A6 q.data.length c6] 26); have HX1 := Aside0.mk hb2; have HZ5 := Aside0.mk hz; have HO5 := Aside0.mk (rw_of (Kd.R_alloc h1 (.cells #[.int .i64 q.kind, .int .i64 q.life, .int .i64 q.piece, .int .i64 q.frm, .int .i64 q.dst, .int .i64 q.fp, .int .i64 q.tp, .int .i64 q.flags, .int .i64 q.label, .bool q.bare, .int .i64 q.code, .slice A5 q.opts.length c5, .slice A6 q.data.length c6] 26))); have HD5 := Aside0.mk (rw_of (Kd.R_alloc h2 (.cells #[.int .i64 q.kind, .int .i64 q.life, .int .i64 q.piece, .int .i64 q.frm, .int .i64 q.dst, .int .i64 q.fp, .int .i64 q.tp, .int .i64 q.flags, .int .i64 q.label, .bool q.bare, .int .i64 q.code, .slice A5 q.opts.length c5, .slice A6 q.data.length c6] 26))); clear h1 h2 h3 hb hb2 hz))
          change Code.wp _ _ _ _ (w_82.alloc (.cells #[.int .i64 q.kind, .int .i64 q.life, .int .i64 q.piece, .int .i64 q.frm, .int .i64 q.dst, .int .i64 q.fp, .int .i64 q.tp, .int .i64 q.flags, .int .i64 q.label, .bool q.bare, .int .i64 q.code, .slice A5 q.opts.length c5, .slice A6 q.data.length c6] 26))
          generalize w_82.alloc (.cells #[.int .i64 q.kind, .int .i64 q.life, .int .i64 q.piece, .int .i64 q.frm, .int .i64 q.dst, .int .i64 q.fp, .int .i64 q.tp, .int .i64 q.flags, .int .i64 q.label, .bool q.bare, .int .i64 q.code, .slice A5 q.opts.length c5, .slice A6 q.data.length c6] 26) = w_83 at HX1 HZ5 HO5 HD5 ⊢
          replace HRB := Aside0.mk (HRB.out.below HX1.out)
          replace HZ := Aside0.mk ((HX1.out.block _ (WB.blk_lt HZ.out)).trans HZ.out)
          replace HB := Aside0.mk (below_step HB.out HX1.out)
          clear HX1 C81
          obtain ⟨k0, k1, k2, k3, k4, k5, k6, k7, k8, k9, k10, k11, k12⟩ := c13 HZ.out
          obtain ⟨q0, q1, q2, q3, q4, q5, q6, q7, q8, q9, q10, q11, q12⟩ := c13 HZ5.out
          rw [HQ2.out] at q9
          rw [HQ3.out] at q0
          have CW := Aside0.mk (whole_at (W0 := w_83) (n := b.length) HRB.out HDL.out HD10.out HKA.out.y HKA.out.w)
          go_wp2_with (first | (go_at_call 21; (with_reducible refine (CW.out _ ?hb).mono ?_); (case hb => (repeat (first | with_reducible assumption | with_reducible exact Below.refl _ _ | with_reducible apply below_alloc | with_reducible apply pw_below_drewN | with_reducible apply below_drew1))); rintro e w99 ⟨rfl, hx99⟩; have HB99 := Aside0.mk (below_step HB.out hx99); have hza := (hx99.block _ (WB.blk_lt HZ.out)).trans HZ.out; have hzb := (hx99.block _ (WB.blk_lt HZ5.out)).trans HZ5.out; clear k0 k1 k2 k3 k4 k5 k6 k7 k8 k9 k10 k11 k12 q0 q1 q2 q3 q4 q5 q6 q7 q8 q9 q10 q11 q12; obtain ⟨k0, k1, k2, k3, k4, k5, k6, k7, k8, k9, k10, k11, k12⟩ := c13 hza; obtain ⟨q0, q1, q2, q3, q4, q5, q6, q7, q8, q9, q10, q11, q12⟩ := c13 hzb; rw [HQ2.out] at q9; rw [HQ3.out] at q0; clear hza hzb hx99))
          go_ret
          exact ⟨by simp, HB99.out⟩
      · have e1 : decide (i < ns4.length) = false := decide_eq_false c2_
        have e1i : decide ((i : Int) < (ns4.length : Int)) = false := decide_eq_false (by omega)
        clear c1 c2_
        obtain ⟨q, hq1, hq2, hq3⟩ := keep_end HKA.out
        have HQ := Aside0.mk hq1
        have HQ2 := Aside0.mk hq2
        have HQ3 := Aside0.mk hq3
        clear hq1 hq2 hq3
        have C81 := Aside0.mk (parse_at (W0 := wr) (n := b.length) HRB.out HDL.out HD10.out HKA.out.y HQ.out)
        go_upto_region 30 with (first | (go_at_call 19; (with_reducible refine (C81.out _ ?hb).mono ?_); (case hb => (repeat (first | with_reducible assumption | with_reducible exact Below.refl _ _ | with_reducible apply below_alloc | with_reducible apply pw_below_drewN | with_reducible apply below_drew1))); rintro e w_82 ⟨A5, c5, A6, c6, rfl, h1, h2, h3, hb⟩; have hb2 := below_alloc hb (.cells #[.int .i64 q.kind, .int .i64 q.life, .int .i64 q.piece, .int .i64 q.frm, .int .i64 q.dst, .int .i64 q.fp, .int .i64 q.tp, .int .i64 q.flags, .int .i64 q.label, .bool q.bare, .int .i64 q.code, .slice A5 q.opts.length c5, .slice A6 q.data.length c6] 26); have hz := new_blk w_82 (.cells #[.int .i64 q.kind, .int .i64 q.life, .int .i64 q.piece, .int .i64 q.frm, .int .i64 q.dst, .int .i64 q.fp, .int .i64 q.tp, .int .i64 q.flags, .int .i64 q.label, .bool q.bare, .int .i64 q.code, .slice A5 q.opts.length c5, .slice A6 q.data.length c6] 26); have HX1 := Aside0.mk hb2; have HZ5 := Aside0.mk hz; have HO5 := Aside0.mk (rw_of (Kd.R_alloc h1 (.cells #[.int .i64 q.kind, .int .i64 q.life, .int .i64 q.piece, .int .i64 q.frm, .int .i64 q.dst, .int .i64 q.fp, .int .i64 q.tp, .int .i64 q.flags, .int .i64 q.label, .bool q.bare, .int .i64 q.code, .slice A5 q.opts.length c5, .slice A6 q.data.length c6] 26))); have HD5 := Aside0.mk (rw_of (Kd.R_alloc h2 (.cells #[.int .i64 q.kind, .int .i64 q.life, .int .i64 q.piece, .int .i64 q.frm, .int .i64 q.dst, .int .i64 q.fp, .int .i64 q.tp, .int .i64 q.flags, .int .i64 q.label, .bool q.bare, .int .i64 q.code, .slice A5 q.opts.length c5, .slice A6 q.data.length c6] 26))); clear h1 h2 h3 hb hb2 hz))
        change Code.wp _ _ _ _ (w_82.alloc (.cells #[.int .i64 q.kind, .int .i64 q.life, .int .i64 q.piece, .int .i64 q.frm, .int .i64 q.dst, .int .i64 q.fp, .int .i64 q.tp, .int .i64 q.flags, .int .i64 q.label, .bool q.bare, .int .i64 q.code, .slice A5 q.opts.length c5, .slice A6 q.data.length c6] 26))
        generalize w_82.alloc (.cells #[.int .i64 q.kind, .int .i64 q.life, .int .i64 q.piece, .int .i64 q.frm, .int .i64 q.dst, .int .i64 q.fp, .int .i64 q.tp, .int .i64 q.flags, .int .i64 q.label, .bool q.bare, .int .i64 q.code, .slice A5 q.opts.length c5, .slice A6 q.data.length c6] 26) = w_83 at HX1 HZ5 HO5 HD5 ⊢
        replace HRB := Aside0.mk (HRB.out.below HX1.out)
        replace HZ := Aside0.mk ((HX1.out.block _ (WB.blk_lt HZ.out)).trans HZ.out)
        replace HB := Aside0.mk (below_step HB.out HX1.out)
        clear HX1 C81
        obtain ⟨k0, k1, k2, k3, k4, k5, k6, k7, k8, k9, k10, k11, k12⟩ := c13 HZ.out
        obtain ⟨q0, q1, q2, q3, q4, q5, q6, q7, q8, q9, q10, q11, q12⟩ := c13 HZ5.out
        rw [HQ2.out] at q9
        rw [HQ3.out] at q0
        have CW := Aside0.mk (whole_at (W0 := w_83) (n := b.length) HRB.out HDL.out HD10.out HKA.out.y HKA.out.w)
        go_wp2_with (first | (go_at_call 21; (with_reducible refine (CW.out _ ?hb).mono ?_); (case hb => (repeat (first | with_reducible assumption | with_reducible exact Below.refl _ _ | with_reducible apply below_alloc | with_reducible apply pw_below_drewN | with_reducible apply below_drew1))); rintro e w99 ⟨rfl, hx99⟩; have HB99 := Aside0.mk (below_step HB.out hx99); have hza := (hx99.block _ (WB.blk_lt HZ.out)).trans HZ.out; have hzb := (hx99.block _ (WB.blk_lt HZ5.out)).trans HZ5.out; clear k0 k1 k2 k3 k4 k5 k6 k7 k8 k9 k10 k11 k12 q0 q1 q2 q3 q4 q5 q6 q7 q8 q9 q10 q11 q12; obtain ⟨k0, k1, k2, k3, k4, k5, k6, k7, k8, k9, k10, k11, k12⟩ := c13 hza; obtain ⟨q0, q1, q2, q3, q4, q5, q6, q7, q8, q9, q10, q11, q12⟩ := c13 hzb; rw [HQ2.out] at q9; rw [HQ3.out] at q0; clear hza hzb hx99))
        go_ret
        exact ⟨by simp, HB99.out⟩
end Go.Proofs.Ytbjhmifhmojaoaa.PL
