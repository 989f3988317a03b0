/- Lemmas and contracts that the row YtgkmbefamcnifaaLawTopChain goes by (part 11; joined by pack.py out of this session's texts, and of words that the kit's print lays). -/
import Derived.Test.YtgkmbefamcnifaaKC10
import Derived.Lib.QuoteBits
set_option maxRecDepth 100000
set_option maxHeartbeats 8000000
namespace Go.Proofs.Ytgkmbefamcnifaa.WB
set_option linter.unusedVariables false
set_option linter.unusedSimpArgs false
open Go.RowKit Go.Proofs.Ytgkmbefamcnifaa.Hp Go.Proofs.Ytgkmbefamcnifaa.SB Go.Proofs.YtgkmbefamcnifaaW.PrintWords Go.Proofs.YtgkmbefamcnifaaW.PrintLast Go.Proofs.YtgkmbefamcnifaaW.PrintMore
/-- What Write lays. -/
def writeL (bare : Bool) (l : List Int) (i m : Nat) (v : Int) : List Int := doneL bare (bodyT bare l (putL l i m v) i m)
theorem write_err {A : Option Addr} {c : Nat} {l : List Int} {w : World} (hr : Kd.C (Kd.int .u8) w A l.length l) (hc : l.length ≤ c) (hl : l.length ≤ 10000) (hb : Bytes l) {p0 p1 p2 p3 p4 p5 p6 p7 p8 : Int} {p9 : Bool} {p10 : Int} {p11 p12 : List Int} (i m v : Int) {x : Int} (hp : parseL l = (⟨p0, p1, p2, p3, p4, p5, p6, p7, p8, p9, p10, p11, p12⟩, x)) (hx : x ≠ 0) :
    Calls Try.prog 83 #[.slice A l.length c, .int .i64 i, .int .i64 m, .int .i64 v] w (Told w [] x) := by
  have q0 : (x == 0) = false := beq_eq_false_iff_ne.mpr hx
  have q0n : (x != 0) = true := bne_iff_ne.mpr hx
  have G := am_ (begin_err hr hc (by omega) hb hp hx)
  clear hx
  clear hr hc hl hb hp
  go_enter Try.func83, Try.ntmps83
  go_wp2_with (first | (go_at_call 78; (with_reducible refine G.out.mono ?_); rintro e w1 ⟨⟨A1, c1, A2, c2, rfl⟩, hb1⟩; have HB1 := am_ hb1; clear hb1))
  go_ret2
  exact told_nil (HB1.out.alloc HB1.out.size _)
theorem write_n {A : Option Addr} {c : Nat} {l : List Int} {w : World} (hr : Kd.C (Kd.int .u8) w A l.length l) (hc : l.length ≤ c) (hl : l.length ≤ 10000) (hb : Bytes l) {p0 p1 p2 p3 p4 p5 p6 p7 p8 : Int} {p9 : Bool} {p10 : Int} {p11 p12 : List Int} (i m v : Int) (hp : parseL l = (⟨p0, p1, p2, p3, p4, p5, p6, p7, p8, p9, p10, p11, p12⟩, 0)) (h : ¬ (m = 1 ∨ m = 2 ∨ m = 4)) :
    Calls Try.prog 83 #[.slice A l.length c, .int .i64 i, .int .i64 m, .int .i64 v] w (Told w [] 14) := by
  have G := am_ (begin_ok hr hc (by omega) hb hp)
  have m1 : (m == 1) = false := beq_eq_false_iff_ne.mpr (by omega)
  have n1 : (m != 1) = true := bne_iff_ne.mpr (by omega)
  have m2 : (m == 2) = false := beq_eq_false_iff_ne.mpr (by omega)
  have n2 : (m != 2) = true := bne_iff_ne.mpr (by omega)
  have m4 : (m == 4) = false := beq_eq_false_iff_ne.mpr (by omega)
  have n4 : (m != 4) = true := bne_iff_ne.mpr (by omega)
  clear h
  clear hr hc hl hb hp
  go_enter Try.func83, Try.ntmps83
  go_wp2_with (first | (go_at_call 78; (with_reducible refine G.out.mono ?_); rintro e w1 ⟨t, g, cc, A1, c1, A2, c2, rfl, ht⟩; have HT := am_ ht; clear ht))
  go_ret2
  exact told_nil (HT.out.below.alloc HT.out.below.size _)
theorem write_v0_1 {A : Option Addr} {c : Nat} {l : List Int} {w : World} (hr : Kd.C (Kd.int .u8) w A l.length l) (hc : l.length ≤ c) (hl : l.length ≤ 10000) (hb : Bytes l) {p0 p1 p2 p3 p4 p5 p6 p7 p8 : Int} {p9 : Bool} {p10 : Int} {p11 p12 : List Int} (i v : Int) (hp : parseL l = (⟨p0, p1, p2, p3, p4, p5, p6, p7, p8, p9, p10, p11, p12⟩, 0)) (h : v < 0) :
    Calls Try.prog 83 #[.slice A l.length c, .int .i64 i, .int .i64 1, .int .i64 v] w (Told w [] 14) := by
  have G := am_ (begin_ok hr hc (by omega) hb hp)
  have d0 : decide (v < 0) = true := decide_eq_true h
  clear h
  clear hr hc hl hb hp
  go_enter Try.func83, Try.ntmps83
  go_wp2_with (first | (go_at_call 78; (with_reducible refine G.out.mono ?_); rintro e w1 ⟨t, g, cc, A1, c1, A2, c2, rfl, ht⟩; have HT := am_ ht; clear ht))
  go_ret2
  exact told_nil (HT.out.below.alloc HT.out.below.size _)
theorem write_v1_1 {A : Option Addr} {c : Nat} {l : List Int} {w : World} (hr : Kd.C (Kd.int .u8) w A l.length l) (hc : l.length ≤ c) (hl : l.length ≤ 10000) (hb : Bytes l) {p0 p1 p2 p3 p4 p5 p6 p7 p8 : Int} {p9 : Bool} {p10 : Int} {p11 p12 : List Int} (i v : Int) (hp : parseL l = (⟨p0, p1, p2, p3, p4, p5, p6, p7, p8, p9, p10, p11, p12⟩, 0)) (h : 256 ≤ v) :
    Calls Try.prog 83 #[.slice A l.length c, .int .i64 i, .int .i64 1, .int .i64 v] w (Told w [] 14) := by
  have G := am_ (begin_ok hr hc (by omega) hb hp)
  have d0 : decide (v < 0) = false := decide_eq_false (by omega)
  have v0 : 0 ≤ v := by omega
  have d1 : (v / 256 == 0) = false := beq_eq_false_iff_ne.mpr (by omega)
  have d1n : (v / 256 != 0) = true := bne_iff_ne.mpr (by omega)
  clear h
  clear hr hc hl hb hp
  go_enter Try.func83, Try.ntmps83
  go_wp2_with (first | (go_at_call 78; (with_reducible refine G.out.mono ?_); rintro e w1 ⟨t, g, cc, A1, c1, A2, c2, rfl, ht⟩; have HT := am_ ht; clear ht))
  go_ret2
  exact told_nil (HT.out.below.alloc HT.out.below.size _)
theorem write_a0_1 {A : Option Addr} {c : Nat} {l : List Int} {w : World} (hr : Kd.C (Kd.int .u8) w A l.length l) (hc : l.length ≤ c) (hl : l.length ≤ 10000) (hb : Bytes l) {p0 p1 p2 p3 p4 p5 p6 p7 p8 : Int} {p9 : Bool} {p10 : Int} {p11 p12 : List Int} (i v : Int) (hp : parseL l = (⟨p0, p1, p2, p3, p4, p5, p6, p7, p8, p9, p10, p11, p12⟩, 0)) (hv0 : 0 ≤ v) (hv1 : v < 256) (h : i < 16) :
    Calls Try.prog 83 #[.slice A l.length c, .int .i64 i, .int .i64 1, .int .i64 v] w (Told w [] 14) := by
  have G := am_ (begin_ok hr hc (by omega) hb hp)
  have d0 : decide (v < 0) = false := decide_eq_false (by omega)
  have v0 : 0 ≤ v := by omega
  have d1 : (v / 256 == 0) = true := beq_iff_eq.mpr (by omega)
  have d1n : (v / 256 != 0) = false := by rw [bne, d1]; rfl
  have d2 : decide (i < 16) = true := decide_eq_true h
  clear h hv0 hv1
  clear hr hc hl hb hp
  go_enter Try.func83, Try.ntmps83
  go_wp2_with (first | (go_at_call 78; (with_reducible refine G.out.mono ?_); rintro e w1 ⟨t, g, cc, A1, c1, A2, c2, rfl, ht⟩; have HT := am_ ht; clear ht))
  go_ret2
  exact told_nil (HT.out.below.alloc HT.out.below.size _)
theorem write_a1_1 {A : Option Addr} {c : Nat} {l : List Int} {w : World} (hr : Kd.C (Kd.int .u8) w A l.length l) (hc : l.length ≤ c) (hl : l.length ≤ 10000) (hb : Bytes l) {p0 p1 p2 p3 p4 p5 p6 p7 p8 : Int} {p9 : Bool} {p10 : Int} {p11 p12 : List Int} (i v : Int) (hp : parseL l = (⟨p0, p1, p2, p3, p4, p5, p6, p7, p8, p9, p10, p11, p12⟩, 0)) (hv0 : 0 ≤ v) (hv1 : v < 256) (hi : 16 ≤ i) (h : (l.length : Int) - 1 < i) :
    Calls Try.prog 83 #[.slice A l.length c, .int .i64 i, .int .i64 1, .int .i64 v] w (Told w [] 14) := by
  have G := am_ (begin_ok hr hc (by omega) hb hp)
  have d0 : decide (v < 0) = false := decide_eq_false (by omega)
  have v0 : 0 ≤ v := by omega
  have d1 : (v / 256 == 0) = true := beq_iff_eq.mpr (by omega)
  have d1n : (v / 256 != 0) = false := by rw [bne, d1]; rfl
  have hli : (l.length : Int) ≤ 10000 := by omega
  have hlj : 24 ≤ (l.length : Int) := by have := (head0 (parse0 hp)).1; omega
  have d2 : decide (i < 16) = false := decide_eq_false (by omega)
  have i0 : 16 ≤ i := by omega
  have d3 : decide ((l.length : Int) - 1 < i) = true := decide_eq_true h
  clear h hv0 hv1 hi
  clear hr hc hl hb hp
  go_enter Try.func83, Try.ntmps83
  go_wp2_with (first | (go_at_call 78; (with_reducible refine G.out.mono ?_); rintro e w1 ⟨t, g, cc, A1, c1, A2, c2, rfl, ht⟩; have HT := am_ ht; clear ht))
  go_ret2
  exact told_nil (HT.out.below.alloc HT.out.below.size _)
theorem write_s_1 {A : Option Addr} {c : Nat} {l : List Int} {w : World} (hr : Kd.C (Kd.int .u8) w A l.length l) (hc : l.length ≤ c) (hl : l.length ≤ 10000) (hb : Bytes l) {p0 p1 p2 p3 p4 p5 p6 p7 p8 : Int} {p9 : Bool} {p10 : Int} {p11 p12 : List Int} (i v : Int) (hp : parseL l = (⟨p0, p1, p2, p3, p4, p5, p6, p7, p8, p9, p10, p11, p12⟩, 0)) (hv0 : 0 ≤ v) (hv1 : v < 256) (hi : 16 ≤ i) (hi1 : i + 1 ≤ (l.length : Int)) {s : Nat} (hs : s = if p0 = 3 then 18 else 22) (h : i < s + 2) (h' : s < i + 1) :
    Calls Try.prog 83 #[.slice A l.length c, .int .i64 i, .int .i64 1, .int .i64 v] w (Told w [] 14) := by
  have G := am_ (begin_ok hr hc (by omega) hb hp)
  have d0 : decide (v < 0) = false := decide_eq_false (by omega)
  have v0 : 0 ≤ v := by omega
  have d1 : (v / 256 == 0) = true := beq_iff_eq.mpr (by omega)
  have d1n : (v / 256 != 0) = false := by rw [bne, d1]; rfl
  have hli : (l.length : Int) ≤ 10000 := by omega
  have hlj : 24 ≤ (l.length : Int) := by have := (head0 (parse0 hp)).1; omega
  have d2 : decide (i < 16) = false := decide_eq_false (by omega)
  have i0 : 16 ≤ i := by omega
  have d3 : decide ((l.length : Int) - 1 < i) = false := decide_eq_false (by omega)
  have i1 : i ≤ 10000 := by omega
  have G39 := am_ (fun W => wire_sumPlace.calls p0 (s : Int) W (by unfold wire_sumPlace.f; rw [hs]; split <;> rfl))
  have d4 : decide (i < (s : Int) + 2) = true := decide_eq_true h
  have d5 : decide ((s : Int) < i + 1) = true := decide_eq_true h'
  have s22 : (s : Int) ≤ 22 := by rw [hs]; split <;> decide
  clear h h' hv0 hv1 hi hi1 hs
  clear hr hc hl hb hp
  go_enter Try.func83, Try.ntmps83
  go_wp2_with (first | (go_at_call 78; (with_reducible refine G.out.mono ?_); rintro e w1 ⟨t, g, cc, A1, c1, A2, c2, rfl, ht⟩; have HT := am_ ht; clear ht) | (go_at_call 37; (with_reducible refine (G39.out _).mono ?_); rintro e w2 ⟨rfl, ⟨⟨nd, rfl⟩⟩⟩))
  go_ret2
  exact told_nil (bd (HT.out.below.alloc HT.out.below.size _) _)
theorem write_ok0_1 {A : Option Addr} {c : Nat} {l : List Int} {w : World} (hr : Kd.C (Kd.int .u8) w A l.length l) (hc : l.length ≤ c) (hl : l.length ≤ 10000) (hb : Bytes l) {p0 p1 p2 p3 p4 p5 p6 p7 p8 : Int} {p9 : Bool} {p10 : Int} {p11 p12 : List Int} (i v : Int) (j : Nat) (hp : parseL l = (⟨p0, p1, p2, p3, p4, p5, p6, p7, p8, p9, p10, p11, p12⟩, 0)) (hj : i = j) (hv0 : 0 ≤ v) (hv1 : v < 256) (hi : 16 ≤ i) (hi1 : i + 1 ≤ (l.length : Int)) {s : Nat} (hs : s = if p0 = 3 then 18 else 22) (h : i < s + 2) (h' : i + 1 ≤ s) :
    Calls Try.prog 83 #[.slice A l.length c, .int .i64 i, .int .i64 1, .int .i64 v] w (Told w (writeL p9 l j 1 v) 0) := by
  have G := am_ (begin_ok hr hc (by omega) hb hp)
  have H24 := am_ (show 24 ≤ l.length from (head0 (parse0 hp)).1)
  have HY := am_ hb
  have HL := am_ hl
  have HJ := am_ hj
  have HJ1 := am_ (show j + 1 ≤ l.length by omega)
  have HAND := am_ (show Go.bits .andNot .i64 i 1 = ((j / 2 * 2 : Nat) : Int) from by rw [hj]; exact Go.Lib.andNot_one j (by omega))
  have d0 : decide (v < 0) = false := decide_eq_false (by omega)
  have v0 : 0 ≤ v := by omega
  have d1 : (v / 256 == 0) = true := beq_iff_eq.mpr (by omega)
  have d1n : (v / 256 != 0) = false := by rw [bne, d1]; rfl
  have hli : (l.length : Int) ≤ 10000 := by omega
  have hlj : 24 ≤ (l.length : Int) := by have := (head0 (parse0 hp)).1; omega
  have d2 : decide (i < 16) = false := decide_eq_false (by omega)
  have i0 : 16 ≤ i := by omega
  have d3 : decide ((l.length : Int) - 1 < i) = false := decide_eq_false (by omega)
  have i1 : i ≤ 10000 := by omega
  have G39 := am_ (fun W => wire_sumPlace.calls p0 (s : Int) W (by unfold wire_sumPlace.f; rw [hs]; split <;> rfl))
  have d4 : decide (i < (s : Int) + 2) = true := decide_eq_true h
  have d5 : decide ((s : Int) < i + 1) = false := decide_eq_false (by omega)
  have s22 : (s : Int) ≤ 22 := by rw [hs]; split <;> decide
  clear h h' hv0 hv1 hi hi1 hs hr hc hl hb hp hj
  go_enter Try.func83, Try.ntmps83
  go_upto_region 9 with (first | (go_at_call 78; (with_reducible refine G.out.mono ?_); rintro e w1 ⟨t, g, cc, A1, c1, A2, c2, rfl, ht⟩; have HT := am_ ht; clear ht) | (go_at_call 37; (with_reducible refine (G39.out _).mono ?_); rintro e w2 ⟨rfl, ⟨⟨nd, rfl⟩⟩⟩))
  generalize hW : World.drewN _ _ = w4
  have HT4 : Aside0 (Tur w w4 t g A c cc l l p9) := am_ (by rw [← hW]; exact (HT.out.alloc _).drewN _)
  clear hW HT
  obtain ⟨T0, T1, T2⟩ := c3 HT4.out.blk
  have P1 := am_ (tput_calls HT4.out HL.out j 1 v (iz := i) (mz := 1) HJ.out rfl (by omega) HJ1.out)
  have B6 := am_ (putL_bytes j 1 v HY.out)
  go_upto_region 10 with (first | (go_at_call 35; (with_reducible refine P1.out.mono ?_); rintro e w5 ⟨rfl, ht⟩; have HT5 := am_ ht; clear ht T0 T1 T2))
  have P5 := am_ (tbody_calls HT5.out HY.out B6.out HL.out j 1 (az := i) (nz := 1) HJ.out rfl (Nat.le_trans (Nat.add_le_add_right (placeL_le _) 2) H24.out) HJ1.out HAND.out)
  have B9 := am_ (bodyT_bytes (b := p9) (was := l) B6.out j 1)
  go_wp2_with (first
    | (go_at_call 104; (with_reducible refine P5.out.mono ?_); rintro e w9 ⟨rfl, ht⟩; have G51 := am_ (tdone_calls ht B9.out HL.out H24.out); clear ht)
    | (go_at_call 80; (with_reducible refine G51.out.mono ?_); rintro e w10 ⟨v, rfl, hr, hb⟩; have HRX := am_ hr; have HBX := am_ hb; clear hr hb))
  go_ret2
  exact ⟨v, rfl, HRX.out, HBX.out⟩
theorem write_ok1_1 {A : Option Addr} {c : Nat} {l : List Int} {w : World} (hr : Kd.C (Kd.int .u8) w A l.length l) (hc : l.length ≤ c) (hl : l.length ≤ 10000) (hb : Bytes l) {p0 p1 p2 p3 p4 p5 p6 p7 p8 : Int} {p9 : Bool} {p10 : Int} {p11 p12 : List Int} (i v : Int) (j : Nat) (hp : parseL l = (⟨p0, p1, p2, p3, p4, p5, p6, p7, p8, p9, p10, p11, p12⟩, 0)) (hj : i = j) (hv0 : 0 ≤ v) (hv1 : v < 256) (hi : 16 ≤ i) (hi1 : i + 1 ≤ (l.length : Int)) {s : Nat} (hs : s = if p0 = 3 then 18 else 22) (h : (s : Int) + 2 ≤ i) :
    Calls Try.prog 83 #[.slice A l.length c, .int .i64 i, .int .i64 1, .int .i64 v] w (Told w (writeL p9 l j 1 v) 0) := by
  have G := am_ (begin_ok hr hc (by omega) hb hp)
  have H24 := am_ (show 24 ≤ l.length from (head0 (parse0 hp)).1)
  have HY := am_ hb
  have HL := am_ hl
  have HJ := am_ hj
  have HJ1 := am_ (show j + 1 ≤ l.length by omega)
  have HAND := am_ (show Go.bits .andNot .i64 i 1 = ((j / 2 * 2 : Nat) : Int) from by rw [hj]; exact Go.Lib.andNot_one j (by omega))
  have d0 : decide (v < 0) = false := decide_eq_false (by omega)
  have v0 : 0 ≤ v := by omega
  have d1 : (v / 256 == 0) = true := beq_iff_eq.mpr (by omega)
  have d1n : (v / 256 != 0) = false := by rw [bne, d1]; rfl
  have hli : (l.length : Int) ≤ 10000 := by omega
  have hlj : 24 ≤ (l.length : Int) := by have := (head0 (parse0 hp)).1; omega
  have d2 : decide (i < 16) = false := decide_eq_false (by omega)
  have i0 : 16 ≤ i := by omega
  have d3 : decide ((l.length : Int) - 1 < i) = false := decide_eq_false (by omega)
  have i1 : i ≤ 10000 := by omega
  have G39 := am_ (fun W => wire_sumPlace.calls p0 (s : Int) W (by unfold wire_sumPlace.f; rw [hs]; split <;> rfl))
  have d4 : decide (i < (s : Int) + 2) = false := decide_eq_false (by omega)
  have s22 : (s : Int) ≤ 22 := by rw [hs]; split <;> decide
  clear h hv0 hv1 hi hi1 hs hr hc hl hb hp hj
  go_enter Try.func83, Try.ntmps83
  go_upto_region 9 with (first | (go_at_call 78; (with_reducible refine G.out.mono ?_); rintro e w1 ⟨t, g, cc, A1, c1, A2, c2, rfl, ht⟩; have HT := am_ ht; clear ht) | (go_at_call 37; (with_reducible refine (G39.out _).mono ?_); rintro e w2 ⟨rfl, ⟨⟨nd, rfl⟩⟩⟩))
  generalize hW : World.drewN _ _ = w4
  have HT4 : Aside0 (Tur w w4 t g A c cc l l p9) := am_ (by rw [← hW]; exact (HT.out.alloc _).drewN _)
  clear hW HT
  obtain ⟨T0, T1, T2⟩ := c3 HT4.out.blk
  have P1 := am_ (tput_calls HT4.out HL.out j 1 v (iz := i) (mz := 1) HJ.out rfl (by omega) HJ1.out)
  have B6 := am_ (putL_bytes j 1 v HY.out)
  go_upto_region 10 with (first | (go_at_call 35; (with_reducible refine P1.out.mono ?_); rintro e w5 ⟨rfl, ht⟩; have HT5 := am_ ht; clear ht T0 T1 T2))
  have P5 := am_ (tbody_calls HT5.out HY.out B6.out HL.out j 1 (az := i) (nz := 1) HJ.out rfl (Nat.le_trans (Nat.add_le_add_right (placeL_le _) 2) H24.out) HJ1.out HAND.out)
  have B9 := am_ (bodyT_bytes (b := p9) (was := l) B6.out j 1)
  go_wp2_with (first
    | (go_at_call 104; (with_reducible refine P5.out.mono ?_); rintro e w9 ⟨rfl, ht⟩; have G51 := am_ (tdone_calls ht B9.out HL.out H24.out); clear ht)
    | (go_at_call 80; (with_reducible refine G51.out.mono ?_); rintro e w10 ⟨v, rfl, hr, hb⟩; have HRX := am_ hr; have HBX := am_ hb; clear hr hb))
  go_ret2
  exact ⟨v, rfl, HRX.out, HBX.out⟩
theorem write_v0_2 {A : Option Addr} {c : Nat} {l : List Int} {w : World} (hr : Kd.C (Kd.int .u8) w A l.length l) (hc : l.length ≤ c) (hl : l.length ≤ 10000) (hb : Bytes l) {p0 p1 p2 p3 p4 p5 p6 p7 p8 : Int} {p9 : Bool} {p10 : Int} {p11 p12 : List Int} (i v : Int) (hp : parseL l = (⟨p0, p1, p2, p3, p4, p5, p6, p7, p8, p9, p10, p11, p12⟩, 0)) (h : v < 0) :
    Calls Try.prog 83 #[.slice A l.length c, .int .i64 i, .int .i64 2, .int .i64 v] w (Told w [] 14) := by
  have G := am_ (begin_ok hr hc (by omega) hb hp)
  have d0 : decide (v < 0) = true := decide_eq_true h
  clear h
  clear hr hc hl hb hp
  go_enter Try.func83, Try.ntmps83
  go_wp2_with (first | (go_at_call 78; (with_reducible refine G.out.mono ?_); rintro e w1 ⟨t, g, cc, A1, c1, A2, c2, rfl, ht⟩; have HT := am_ ht; clear ht))
  go_ret2
  exact told_nil (HT.out.below.alloc HT.out.below.size _)
theorem write_v1_2 {A : Option Addr} {c : Nat} {l : List Int} {w : World} (hr : Kd.C (Kd.int .u8) w A l.length l) (hc : l.length ≤ c) (hl : l.length ≤ 10000) (hb : Bytes l) {p0 p1 p2 p3 p4 p5 p6 p7 p8 : Int} {p9 : Bool} {p10 : Int} {p11 p12 : List Int} (i v : Int) (hp : parseL l = (⟨p0, p1, p2, p3, p4, p5, p6, p7, p8, p9, p10, p11, p12⟩, 0)) (h : 65536 ≤ v) :
    Calls Try.prog 83 #[.slice A l.length c, .int .i64 i, .int .i64 2, .int .i64 v] w (Told w [] 14) := by
  have G := am_ (begin_ok hr hc (by omega) hb hp)
  have d0 : decide (v < 0) = false := decide_eq_false (by omega)
  have v0 : 0 ≤ v := by omega
  have d1 : (v / 65536 == 0) = false := beq_eq_false_iff_ne.mpr (by omega)
  have d1n : (v / 65536 != 0) = true := bne_iff_ne.mpr (by omega)
  clear h
  clear hr hc hl hb hp
  go_enter Try.func83, Try.ntmps83
  go_wp2_with (first | (go_at_call 78; (with_reducible refine G.out.mono ?_); rintro e w1 ⟨t, g, cc, A1, c1, A2, c2, rfl, ht⟩; have HT := am_ ht; clear ht))
  go_ret2
  exact told_nil (HT.out.below.alloc HT.out.below.size _)
theorem write_a0_2 {A : Option Addr} {c : Nat} {l : List Int} {w : World} (hr : Kd.C (Kd.int .u8) w A l.length l) (hc : l.length ≤ c) (hl : l.length ≤ 10000) (hb : Bytes l) {p0 p1 p2 p3 p4 p5 p6 p7 p8 : Int} {p9 : Bool} {p10 : Int} {p11 p12 : List Int} (i v : Int) (hp : parseL l = (⟨p0, p1, p2, p3, p4, p5, p6, p7, p8, p9, p10, p11, p12⟩, 0)) (hv0 : 0 ≤ v) (hv1 : v < 65536) (h : i < 16) :
    Calls Try.prog 83 #[.slice A l.length c, .int .i64 i, .int .i64 2, .int .i64 v] w (Told w [] 14) := by
  have G := am_ (begin_ok hr hc (by omega) hb hp)
  have d0 : decide (v < 0) = false := decide_eq_false (by omega)
  have v0 : 0 ≤ v := by omega
  have d1 : (v / 65536 == 0) = true := beq_iff_eq.mpr (by omega)
  have d1n : (v / 65536 != 0) = false := by rw [bne, d1]; rfl
  have d2 : decide (i < 16) = true := decide_eq_true h
  clear h hv0 hv1
  clear hr hc hl hb hp
  go_enter Try.func83, Try.ntmps83
  go_wp2_with (first | (go_at_call 78; (with_reducible refine G.out.mono ?_); rintro e w1 ⟨t, g, cc, A1, c1, A2, c2, rfl, ht⟩; have HT := am_ ht; clear ht))
  go_ret2
  exact told_nil (HT.out.below.alloc HT.out.below.size _)
theorem write_a1_2 {A : Option Addr} {c : Nat} {l : List Int} {w : World} (hr : Kd.C (Kd.int .u8) w A l.length l) (hc : l.length ≤ c) (hl : l.length ≤ 10000) (hb : Bytes l) {p0 p1 p2 p3 p4 p5 p6 p7 p8 : Int} {p9 : Bool} {p10 : Int} {p11 p12 : List Int} (i v : Int) (hp : parseL l = (⟨p0, p1, p2, p3, p4, p5, p6, p7, p8, p9, p10, p11, p12⟩, 0)) (hv0 : 0 ≤ v) (hv1 : v < 65536) (hi : 16 ≤ i) (h : (l.length : Int) - 2 < i) :
    Calls Try.prog 83 #[.slice A l.length c, .int .i64 i, .int .i64 2, .int .i64 v] w (Told w [] 14) := by
  have G := am_ (begin_ok hr hc (by omega) hb hp)
  have d0 : decide (v < 0) = false := decide_eq_false (by omega)
  have v0 : 0 ≤ v := by omega
  have d1 : (v / 65536 == 0) = true := beq_iff_eq.mpr (by omega)
  have d1n : (v / 65536 != 0) = false := by rw [bne, d1]; rfl
  have hli : (l.length : Int) ≤ 10000 := by omega
  have hlj : 24 ≤ (l.length : Int) := by have := (head0 (parse0 hp)).1; omega
  have d2 : decide (i < 16) = false := decide_eq_false (by omega)
  have i0 : 16 ≤ i := by omega
  have d3 : decide ((l.length : Int) - 2 < i) = true := decide_eq_true h
  clear h hv0 hv1 hi
  clear hr hc hl hb hp
  go_enter Try.func83, Try.ntmps83
  go_wp2_with (first | (go_at_call 78; (with_reducible refine G.out.mono ?_); rintro e w1 ⟨t, g, cc, A1, c1, A2, c2, rfl, ht⟩; have HT := am_ ht; clear ht))
  go_ret2
  exact told_nil (HT.out.below.alloc HT.out.below.size _)
theorem write_s_2 {A : Option Addr} {c : Nat} {l : List Int} {w : World} (hr : Kd.C (Kd.int .u8) w A l.length l) (hc : l.length ≤ c) (hl : l.length ≤ 10000) (hb : Bytes l) {p0 p1 p2 p3 p4 p5 p6 p7 p8 : Int} {p9 : Bool} {p10 : Int} {p11 p12 : List Int} (i v : Int) (hp : parseL l = (⟨p0, p1, p2, p3, p4, p5, p6, p7, p8, p9, p10, p11, p12⟩, 0)) (hv0 : 0 ≤ v) (hv1 : v < 65536) (hi : 16 ≤ i) (hi1 : i + 2 ≤ (l.length : Int)) {s : Nat} (hs : s = if p0 = 3 then 18 else 22) (h : i < s + 2) (h' : s < i + 2) :
    Calls Try.prog 83 #[.slice A l.length c, .int .i64 i, .int .i64 2, .int .i64 v] w (Told w [] 14) := by
  have G := am_ (begin_ok hr hc (by omega) hb hp)
  have d0 : decide (v < 0) = false := decide_eq_false (by omega)
  have v0 : 0 ≤ v := by omega
  have d1 : (v / 65536 == 0) = true := beq_iff_eq.mpr (by omega)
  have d1n : (v / 65536 != 0) = false := by rw [bne, d1]; rfl
  have hli : (l.length : Int) ≤ 10000 := by omega
  have hlj : 24 ≤ (l.length : Int) := by have := (head0 (parse0 hp)).1; omega
  have d2 : decide (i < 16) = false := decide_eq_false (by omega)
  have i0 : 16 ≤ i := by omega
  have d3 : decide ((l.length : Int) - 2 < i) = false := decide_eq_false (by omega)
  have i1 : i ≤ 10000 := by omega
  have G39 := am_ (fun W => wire_sumPlace.calls p0 (s : Int) W (by unfold wire_sumPlace.f; rw [hs]; split <;> rfl))
  have d4 : decide (i < (s : Int) + 2) = true := decide_eq_true h
  have d5 : decide ((s : Int) < i + 2) = true := decide_eq_true h'
  have s22 : (s : Int) ≤ 22 := by rw [hs]; split <;> decide
  clear h h' hv0 hv1 hi hi1 hs
  clear hr hc hl hb hp
  go_enter Try.func83, Try.ntmps83
  go_wp2_with (first | (go_at_call 78; (with_reducible refine G.out.mono ?_); rintro e w1 ⟨t, g, cc, A1, c1, A2, c2, rfl, ht⟩; have HT := am_ ht; clear ht) | (go_at_call 37; (with_reducible refine (G39.out _).mono ?_); rintro e w2 ⟨rfl, ⟨⟨nd, rfl⟩⟩⟩))
  go_ret2
  exact told_nil (bd (HT.out.below.alloc HT.out.below.size _) _)
theorem write_ok0_2 {A : Option Addr} {c : Nat} {l : List Int} {w : World} (hr : Kd.C (Kd.int .u8) w A l.length l) (hc : l.length ≤ c) (hl : l.length ≤ 10000) (hb : Bytes l) {p0 p1 p2 p3 p4 p5 p6 p7 p8 : Int} {p9 : Bool} {p10 : Int} {p11 p12 : List Int} (i v : Int) (j : Nat) (hp : parseL l = (⟨p0, p1, p2, p3, p4, p5, p6, p7, p8, p9, p10, p11, p12⟩, 0)) (hj : i = j) (hv0 : 0 ≤ v) (hv1 : v < 65536) (hi : 16 ≤ i) (hi1 : i + 2 ≤ (l.length : Int)) {s : Nat} (hs : s = if p0 = 3 then 18 else 22) (h : i < s + 2) (h' : i + 2 ≤ s) :
    Calls Try.prog 83 #[.slice A l.length c, .int .i64 i, .int .i64 2, .int .i64 v] w (Told w (writeL p9 l j 2 v) 0) := by
  have G := am_ (begin_ok hr hc (by omega) hb hp)
  have H24 := am_ (show 24 ≤ l.length from (head0 (parse0 hp)).1)
  have HY := am_ hb
  have HL := am_ hl
  have HJ := am_ hj
  have HJ1 := am_ (show j + 2 ≤ l.length by omega)
  have HAND := am_ (show Go.bits .andNot .i64 i 1 = ((j / 2 * 2 : Nat) : Int) from by rw [hj]; exact Go.Lib.andNot_one j (by omega))
  have d0 : decide (v < 0) = false := decide_eq_false (by omega)
  have v0 : 0 ≤ v := by omega
  have d1 : (v / 65536 == 0) = true := beq_iff_eq.mpr (by omega)
  have d1n : (v / 65536 != 0) = false := by rw [bne, d1]; rfl
  have hli : (l.length : Int) ≤ 10000 := by omega
  have hlj : 24 ≤ (l.length : Int) := by have := (head0 (parse0 hp)).1; omega
  have d2 : decide (i < 16) = false := decide_eq_false (by omega)
  have i0 : 16 ≤ i := by omega
  have d3 : decide ((l.length : Int) - 2 < i) = false := decide_eq_false (by omega)
  have i1 : i ≤ 10000 := by omega
  have G39 := am_ (fun W => wire_sumPlace.calls p0 (s : Int) W (by unfold wire_sumPlace.f; rw [hs]; split <;> rfl))
  have d4 : decide (i < (s : Int) + 2) = true := decide_eq_true h
  have d5 : decide ((s : Int) < i + 2) = false := decide_eq_false (by omega)
  have s22 : (s : Int) ≤ 22 := by rw [hs]; split <;> decide
  clear h h' hv0 hv1 hi hi1 hs hr hc hl hb hp hj
  go_enter Try.func83, Try.ntmps83
  go_upto_region 9 with (first | (go_at_call 78; (with_reducible refine G.out.mono ?_); rintro e w1 ⟨t, g, cc, A1, c1, A2, c2, rfl, ht⟩; have HT := am_ ht; clear ht) | (go_at_call 37; (with_reducible refine (G39.out _).mono ?_); rintro e w2 ⟨rfl, ⟨⟨nd, rfl⟩⟩⟩))
  generalize hW : World.drewN _ _ = w4
  have HT4 : Aside0 (Tur w w4 t g A c cc l l p9) := am_ (by rw [← hW]; exact (HT.out.alloc _).drewN _)
  clear hW HT
  obtain ⟨T0, T1, T2⟩ := c3 HT4.out.blk
  have P1 := am_ (tput_calls HT4.out HL.out j 2 v (iz := i) (mz := 2) HJ.out rfl (by omega) HJ1.out)
  have B6 := am_ (putL_bytes j 2 v HY.out)
  go_upto_region 10 with (first | (go_at_call 35; (with_reducible refine P1.out.mono ?_); rintro e w5 ⟨rfl, ht⟩; have HT5 := am_ ht; clear ht T0 T1 T2))
  have P5 := am_ (tbody_calls HT5.out HY.out B6.out HL.out j 2 (az := i) (nz := 2) HJ.out rfl (Nat.le_trans (Nat.add_le_add_right (placeL_le _) 2) H24.out) HJ1.out HAND.out)
  have B9 := am_ (bodyT_bytes (b := p9) (was := l) B6.out j 2)
  go_wp2_with (first
    | (go_at_call 104; (with_reducible refine P5.out.mono ?_); rintro e w9 ⟨rfl, ht⟩; have G51 := am_ (tdone_calls ht B9.out HL.out H24.out); clear ht)
    | (go_at_call 80; (with_reducible refine G51.out.mono ?_); rintro e w10 ⟨v, rfl, hr, hb⟩; have HRX := am_ hr; have HBX := am_ hb; clear hr hb))
  go_ret2
  exact ⟨v, rfl, HRX.out, HBX.out⟩
theorem write_ok1_2 {A : Option Addr} {c : Nat} {l : List Int} {w : World} (hr : Kd.C (Kd.int .u8) w A l.length l) (hc : l.length ≤ c) (hl : l.length ≤ 10000) (hb : Bytes l) {p0 p1 p2 p3 p4 p5 p6 p7 p8 : Int} {p9 : Bool} {p10 : Int} {p11 p12 : List Int} (i v : Int) (j : Nat) (hp : parseL l = (⟨p0, p1, p2, p3, p4, p5, p6, p7, p8, p9, p10, p11, p12⟩, 0)) (hj : i = j) (hv0 : 0 ≤ v) (hv1 : v < 65536) (hi : 16 ≤ i) (hi1 : i + 2 ≤ (l.length : Int)) {s : Nat} (hs : s = if p0 = 3 then 18 else 22) (h : (s : Int) + 2 ≤ i) :
    Calls Try.prog 83 #[.slice A l.length c, .int .i64 i, .int .i64 2, .int .i64 v] w (Told w (writeL p9 l j 2 v) 0) := by
  have G := am_ (begin_ok hr hc (by omega) hb hp)
  have H24 := am_ (show 24 ≤ l.length from (head0 (parse0 hp)).1)
  have HY := am_ hb
  have HL := am_ hl
  have HJ := am_ hj
  have HJ1 := am_ (show j + 2 ≤ l.length by omega)
  have HAND := am_ (show Go.bits .andNot .i64 i 1 = ((j / 2 * 2 : Nat) : Int) from by rw [hj]; exact Go.Lib.andNot_one j (by omega))
  have d0 : decide (v < 0) = false := decide_eq_false (by omega)
  have v0 : 0 ≤ v := by omega
  have d1 : (v / 65536 == 0) = true := beq_iff_eq.mpr (by omega)
  have d1n : (v / 65536 != 0) = false := by rw [bne, d1]; rfl
  have hli : (l.length : Int) ≤ 10000 := by omega
  have hlj : 24 ≤ (l.length : Int) := by have := (head0 (parse0 hp)).1; omega
  have d2 : decide (i < 16) = false := decide_eq_false (by omega)
  have i0 : 16 ≤ i := by omega
  have d3 : decide ((l.length : Int) - 2 < i) = false := decide_eq_false (by omega)
  have i1 : i ≤ 10000 := by omega
  have G39 := am_ (fun W => wire_sumPlace.calls p0 (s : Int) W (by unfold wire_sumPlace.f; rw [hs]; split <;> rfl))
  have d4 : decide (i < (s : Int) + 2) = false := decide_eq_false (by omega)
  have s22 : (s : Int) ≤ 22 := by rw [hs]; split <;> decide
  clear h hv0 hv1 hi hi1 hs hr hc hl hb hp hj
  go_enter Try.func83, Try.ntmps83
  go_upto_region 9 with (first | (go_at_call 78; (with_reducible refine G.out.mono ?_); rintro e w1 ⟨t, g, cc, A1, c1, A2, c2, rfl, ht⟩; have HT := am_ ht; clear ht) | (go_at_call 37; (with_reducible refine (G39.out _).mono ?_); rintro e w2 ⟨rfl, ⟨⟨nd, rfl⟩⟩⟩))
  generalize hW : World.drewN _ _ = w4
  have HT4 : Aside0 (Tur w w4 t g A c cc l l p9) := am_ (by rw [← hW]; exact (HT.out.alloc _).drewN _)
  clear hW HT
  obtain ⟨T0, T1, T2⟩ := c3 HT4.out.blk
  have P1 := am_ (tput_calls HT4.out HL.out j 2 v (iz := i) (mz := 2) HJ.out rfl (by omega) HJ1.out)
  have B6 := am_ (putL_bytes j 2 v HY.out)
  go_upto_region 10 with (first | (go_at_call 35; (with_reducible refine P1.out.mono ?_); rintro e w5 ⟨rfl, ht⟩; have HT5 := am_ ht; clear ht T0 T1 T2))
  have P5 := am_ (tbody_calls HT5.out HY.out B6.out HL.out j 2 (az := i) (nz := 2) HJ.out rfl (Nat.le_trans (Nat.add_le_add_right (placeL_le _) 2) H24.out) HJ1.out HAND.out)
  have B9 := am_ (bodyT_bytes (b := p9) (was := l) B6.out j 2)
  go_wp2_with (first
    | (go_at_call 104; (with_reducible refine P5.out.mono ?_); rintro e w9 ⟨rfl, ht⟩; have G51 := am_ (tdone_calls ht B9.out HL.out H24.out); clear ht)
    | (go_at_call 80; (with_reducible refine G51.out.mono ?_); rintro e w10 ⟨v, rfl, hr, hb⟩; have HRX := am_ hr; have HBX := am_ hb; clear hr hb))
  go_ret2
  exact ⟨v, rfl, HRX.out, HBX.out⟩
theorem write_v0_4 {A : Option Addr} {c : Nat} {l : List Int} {w : World} (hr : Kd.C (Kd.int .u8) w A l.length l) (hc : l.length ≤ c) (hl : l.length ≤ 10000) (hb : Bytes l) {p0 p1 p2 p3 p4 p5 p6 p7 p8 : Int} {p9 : Bool} {p10 : Int} {p11 p12 : List Int} (i v : Int) (hp : parseL l = (⟨p0, p1, p2, p3, p4, p5, p6, p7, p8, p9, p10, p11, p12⟩, 0)) (h : v < 0) :
    Calls Try.prog 83 #[.slice A l.length c, .int .i64 i, .int .i64 4, .int .i64 v] w (Told w [] 14) := by
  have G := am_ (begin_ok hr hc (by omega) hb hp)
  have d0 : decide (v < 0) = true := decide_eq_true h
  clear h
  clear hr hc hl hb hp
  go_enter Try.func83, Try.ntmps83
  go_wp2_with (first | (go_at_call 78; (with_reducible refine G.out.mono ?_); rintro e w1 ⟨t, g, cc, A1, c1, A2, c2, rfl, ht⟩; have HT := am_ ht; clear ht))
  go_ret2
  exact told_nil (HT.out.below.alloc HT.out.below.size _)
theorem write_v1_4 {A : Option Addr} {c : Nat} {l : List Int} {w : World} (hr : Kd.C (Kd.int .u8) w A l.length l) (hc : l.length ≤ c) (hl : l.length ≤ 10000) (hb : Bytes l) {p0 p1 p2 p3 p4 p5 p6 p7 p8 : Int} {p9 : Bool} {p10 : Int} {p11 p12 : List Int} (i v : Int) (hp : parseL l = (⟨p0, p1, p2, p3, p4, p5, p6, p7, p8, p9, p10, p11, p12⟩, 0)) (h : 4294967296 ≤ v) :
    Calls Try.prog 83 #[.slice A l.length c, .int .i64 i, .int .i64 4, .int .i64 v] w (Told w [] 14) := by
  have G := am_ (begin_ok hr hc (by omega) hb hp)
  have d0 : decide (v < 0) = false := decide_eq_false (by omega)
  have v0 : 0 ≤ v := by omega
  have d1 : (v / 4294967296 == 0) = false := beq_eq_false_iff_ne.mpr (by omega)
  have d1n : (v / 4294967296 != 0) = true := bne_iff_ne.mpr (by omega)
  clear h
  clear hr hc hl hb hp
  go_enter Try.func83, Try.ntmps83
  go_wp2_with (first | (go_at_call 78; (with_reducible refine G.out.mono ?_); rintro e w1 ⟨t, g, cc, A1, c1, A2, c2, rfl, ht⟩; have HT := am_ ht; clear ht))
  go_ret2
  exact told_nil (HT.out.below.alloc HT.out.below.size _)
theorem write_a0_4 {A : Option Addr} {c : Nat} {l : List Int} {w : World} (hr : Kd.C (Kd.int .u8) w A l.length l) (hc : l.length ≤ c) (hl : l.length ≤ 10000) (hb : Bytes l) {p0 p1 p2 p3 p4 p5 p6 p7 p8 : Int} {p9 : Bool} {p10 : Int} {p11 p12 : List Int} (i v : Int) (hp : parseL l = (⟨p0, p1, p2, p3, p4, p5, p6, p7, p8, p9, p10, p11, p12⟩, 0)) (hv0 : 0 ≤ v) (hv1 : v < 4294967296) (h : i < 16) :
    Calls Try.prog 83 #[.slice A l.length c, .int .i64 i, .int .i64 4, .int .i64 v] w (Told w [] 14) := by
  have G := am_ (begin_ok hr hc (by omega) hb hp)
  have d0 : decide (v < 0) = false := decide_eq_false (by omega)
  have v0 : 0 ≤ v := by omega
  have d1 : (v / 4294967296 == 0) = true := beq_iff_eq.mpr (by omega)
  have d1n : (v / 4294967296 != 0) = false := by rw [bne, d1]; rfl
  have d2 : decide (i < 16) = true := decide_eq_true h
  clear h hv0 hv1
  clear hr hc hl hb hp
  go_enter Try.func83, Try.ntmps83
  go_wp2_with (first | (go_at_call 78; (with_reducible refine G.out.mono ?_); rintro e w1 ⟨t, g, cc, A1, c1, A2, c2, rfl, ht⟩; have HT := am_ ht; clear ht))
  go_ret2
  exact told_nil (HT.out.below.alloc HT.out.below.size _)
theorem write_a1_4 {A : Option Addr} {c : Nat} {l : List Int} {w : World} (hr : Kd.C (Kd.int .u8) w A l.length l) (hc : l.length ≤ c) (hl : l.length ≤ 10000) (hb : Bytes l) {p0 p1 p2 p3 p4 p5 p6 p7 p8 : Int} {p9 : Bool} {p10 : Int} {p11 p12 : List Int} (i v : Int) (hp : parseL l = (⟨p0, p1, p2, p3, p4, p5, p6, p7, p8, p9, p10, p11, p12⟩, 0)) (hv0 : 0 ≤ v) (hv1 : v < 4294967296) (hi : 16 ≤ i) (h : (l.length : Int) - 4 < i) :
    Calls Try.prog 83 #[.slice A l.length c, .int .i64 i, .int .i64 4, .int .i64 v] w (Told w [] 14) := by
  have G := am_ (begin_ok hr hc (by omega) hb hp)
  have d0 : decide (v < 0) = false := decide_eq_false (by omega)
  have v0 : 0 ≤ v := by omega
  have d1 : (v / 4294967296 == 0) = true := beq_iff_eq.mpr (by omega)
  have d1n : (v / 4294967296 != 0) = false := by rw [bne, d1]; rfl
  have hli : (l.length : Int) ≤ 10000 := by omega
  have hlj : 24 ≤ (l.length : Int) := by have := (head0 (parse0 hp)).1; omega
  have d2 : decide (i < 16) = false := decide_eq_false (by omega)
  have i0 : 16 ≤ i := by omega
  have d3 : decide ((l.length : Int) - 4 < i) = true := decide_eq_true h
  clear h hv0 hv1 hi
  clear hr hc hl hb hp
  go_enter Try.func83, Try.ntmps83
  go_wp2_with (first | (go_at_call 78; (with_reducible refine G.out.mono ?_); rintro e w1 ⟨t, g, cc, A1, c1, A2, c2, rfl, ht⟩; have HT := am_ ht; clear ht))
  go_ret2
  exact told_nil (HT.out.below.alloc HT.out.below.size _)
theorem write_s_4 {A : Option Addr} {c : Nat} {l : List Int} {w : World} (hr : Kd.C (Kd.int .u8) w A l.length l) (hc : l.length ≤ c) (hl : l.length ≤ 10000) (hb : Bytes l) {p0 p1 p2 p3 p4 p5 p6 p7 p8 : Int} {p9 : Bool} {p10 : Int} {p11 p12 : List Int} (i v : Int) (hp : parseL l = (⟨p0, p1, p2, p3, p4, p5, p6, p7, p8, p9, p10, p11, p12⟩, 0)) (hv0 : 0 ≤ v) (hv1 : v < 4294967296) (hi : 16 ≤ i) (hi1 : i + 4 ≤ (l.length : Int)) {s : Nat} (hs : s = if p0 = 3 then 18 else 22) (h : i < s + 2) (h' : s < i + 4) :
    Calls Try.prog 83 #[.slice A l.length c, .int .i64 i, .int .i64 4, .int .i64 v] w (Told w [] 14) := by
  have G := am_ (begin_ok hr hc (by omega) hb hp)
  have d0 : decide (v < 0) = false := decide_eq_false (by omega)
  have v0 : 0 ≤ v := by omega
  have d1 : (v / 4294967296 == 0) = true := beq_iff_eq.mpr (by omega)
  have d1n : (v / 4294967296 != 0) = false := by rw [bne, d1]; rfl
  have hli : (l.length : Int) ≤ 10000 := by omega
  have hlj : 24 ≤ (l.length : Int) := by have := (head0 (parse0 hp)).1; omega
  have d2 : decide (i < 16) = false := decide_eq_false (by omega)
  have i0 : 16 ≤ i := by omega
  have d3 : decide ((l.length : Int) - 4 < i) = false := decide_eq_false (by omega)
  have i1 : i ≤ 10000 := by omega
  have G39 := am_ (fun W => wire_sumPlace.calls p0 (s : Int) W (by unfold wire_sumPlace.f; rw [hs]; split <;> rfl))
  have d4 : decide (i < (s : Int) + 2) = true := decide_eq_true h
  have d5 : decide ((s : Int) < i + 4) = true := decide_eq_true h'
  have s22 : (s : Int) ≤ 22 := by rw [hs]; split <;> decide
  clear h h' hv0 hv1 hi hi1 hs
  clear hr hc hl hb hp
  go_enter Try.func83, Try.ntmps83
  go_wp2_with (first | (go_at_call 78; (with_reducible refine G.out.mono ?_); rintro e w1 ⟨t, g, cc, A1, c1, A2, c2, rfl, ht⟩; have HT := am_ ht; clear ht) | (go_at_call 37; (with_reducible refine (G39.out _).mono ?_); rintro e w2 ⟨rfl, ⟨⟨nd, rfl⟩⟩⟩))
  go_ret2
  exact told_nil (bd (HT.out.below.alloc HT.out.below.size _) _)
theorem write_ok0_4 {A : Option Addr} {c : Nat} {l : List Int} {w : World} (hr : Kd.C (Kd.int .u8) w A l.length l) (hc : l.length ≤ c) (hl : l.length ≤ 10000) (hb : Bytes l) {p0 p1 p2 p3 p4 p5 p6 p7 p8 : Int} {p9 : Bool} {p10 : Int} {p11 p12 : List Int} (i v : Int) (j : Nat) (hp : parseL l = (⟨p0, p1, p2, p3, p4, p5, p6, p7, p8, p9, p10, p11, p12⟩, 0)) (hj : i = j) (hv0 : 0 ≤ v) (hv1 : v < 4294967296) (hi : 16 ≤ i) (hi1 : i + 4 ≤ (l.length : Int)) {s : Nat} (hs : s = if p0 = 3 then 18 else 22) (h : i < s + 2) (h' : i + 4 ≤ s) :
    Calls Try.prog 83 #[.slice A l.length c, .int .i64 i, .int .i64 4, .int .i64 v] w (Told w (writeL p9 l j 4 v) 0) := by
  have G := am_ (begin_ok hr hc (by omega) hb hp)
  have H24 := am_ (show 24 ≤ l.length from (head0 (parse0 hp)).1)
  have HY := am_ hb
  have HL := am_ hl
  have HJ := am_ hj
  have HJ1 := am_ (show j + 4 ≤ l.length by omega)
  have HAND := am_ (show Go.bits .andNot .i64 i 1 = ((j / 2 * 2 : Nat) : Int) from by rw [hj]; exact Go.Lib.andNot_one j (by omega))
  have d0 : decide (v < 0) = false := decide_eq_false (by omega)
  have v0 : 0 ≤ v := by omega
  have d1 : (v / 4294967296 == 0) = true := beq_iff_eq.mpr (by omega)
  have d1n : (v / 4294967296 != 0) = false := by rw [bne, d1]; rfl
  have hli : (l.length : Int) ≤ 10000 := by omega
  have hlj : 24 ≤ (l.length : Int) := by have := (head0 (parse0 hp)).1; omega
  have d2 : decide (i < 16) = false := decide_eq_false (by omega)
  have i0 : 16 ≤ i := by omega
  have d3 : decide ((l.length : Int) - 4 < i) = false := decide_eq_false (by omega)
  have i1 : i ≤ 10000 := by omega
  have G39 := am_ (fun W => wire_sumPlace.calls p0 (s : Int) W (by unfold wire_sumPlace.f; rw [hs]; split <;> rfl))
  have d4 : decide (i < (s : Int) + 2) = true := decide_eq_true h
  have d5 : decide ((s : Int) < i + 4) = false := decide_eq_false (by omega)
  have s22 : (s : Int) ≤ 22 := by rw [hs]; split <;> decide
  clear h h' hv0 hv1 hi hi1 hs hr hc hl hb hp hj
  go_enter Try.func83, Try.ntmps83
  go_upto_region 9 with (first | (go_at_call 78; (with_reducible refine G.out.mono ?_); rintro e w1 ⟨t, g, cc, A1, c1, A2, c2, rfl, ht⟩; have HT := am_ ht; clear ht) | (go_at_call 37; (with_reducible refine (G39.out _).mono ?_); rintro e w2 ⟨rfl, ⟨⟨nd, rfl⟩⟩⟩))
  generalize hW : World.drewN _ _ = w4
  have HT4 : Aside0 (Tur w w4 t g A c cc l l p9) := am_ (by rw [← hW]; exact (HT.out.alloc _).drewN _)
  clear hW HT
  obtain ⟨T0, T1, T2⟩ := c3 HT4.out.blk
  have P1 := am_ (tput_calls HT4.out HL.out j 4 v (iz := i) (mz := 4) HJ.out rfl (by omega) HJ1.out)
  have B6 := am_ (putL_bytes j 4 v HY.out)
  go_upto_region 10 with (first | (go_at_call 35; (with_reducible refine P1.out.mono ?_); rintro e w5 ⟨rfl, ht⟩; have HT5 := am_ ht; clear ht T0 T1 T2))
  have P5 := am_ (tbody_calls HT5.out HY.out B6.out HL.out j 4 (az := i) (nz := 4) HJ.out rfl (Nat.le_trans (Nat.add_le_add_right (placeL_le _) 2) H24.out) HJ1.out HAND.out)
  have B9 := am_ (bodyT_bytes (b := p9) (was := l) B6.out j 4)
  go_wp2_with (first
    | (go_at_call 104; (with_reducible refine P5.out.mono ?_); rintro e w9 ⟨rfl, ht⟩; have G51 := am_ (tdone_calls ht B9.out HL.out H24.out); clear ht)
    | (go_at_call 80; (with_reducible refine G51.out.mono ?_); rintro e w10 ⟨v, rfl, hr, hb⟩; have HRX := am_ hr; have HBX := am_ hb; clear hr hb))
  go_ret2
  exact ⟨v, rfl, HRX.out, HBX.out⟩
theorem write_ok1_4 {A : Option Addr} {c : Nat} {l : List Int} {w : World} (hr : Kd.C (Kd.int .u8) w A l.length l) (hc : l.length ≤ c) (hl : l.length ≤ 10000) (hb : Bytes l) {p0 p1 p2 p3 p4 p5 p6 p7 p8 : Int} {p9 : Bool} {p10 : Int} {p11 p12 : List Int} (i v : Int) (j : Nat) (hp : parseL l = (⟨p0, p1, p2, p3, p4, p5, p6, p7, p8, p9, p10, p11, p12⟩, 0)) (hj : i = j) (hv0 : 0 ≤ v) (hv1 : v < 4294967296) (hi : 16 ≤ i) (hi1 : i + 4 ≤ (l.length : Int)) {s : Nat} (hs : s = if p0 = 3 then 18 else 22) (h : (s : Int) + 2 ≤ i) :
    Calls Try.prog 83 #[.slice A l.length c, .int .i64 i, .int .i64 4, .int .i64 v] w (Told w (writeL p9 l j 4 v) 0) := by
  have G := am_ (begin_ok hr hc (by omega) hb hp)
  have H24 := am_ (show 24 ≤ l.length from (head0 (parse0 hp)).1)
  have HY := am_ hb
  have HL := am_ hl
  have HJ := am_ hj
  have HJ1 := am_ (show j + 4 ≤ l.length by omega)
  have HAND := am_ (show Go.bits .andNot .i64 i 1 = ((j / 2 * 2 : Nat) : Int) from by rw [hj]; exact Go.Lib.andNot_one j (by omega))
  have d0 : decide (v < 0) = false := decide_eq_false (by omega)
  have v0 : 0 ≤ v := by omega
  have d1 : (v / 4294967296 == 0) = true := beq_iff_eq.mpr (by omega)
  have d1n : (v / 4294967296 != 0) = false := by rw [bne, d1]; rfl
  have hli : (l.length : Int) ≤ 10000 := by omega
  have hlj : 24 ≤ (l.length : Int) := by have := (head0 (parse0 hp)).1; omega
  have d2 : decide (i < 16) = false := decide_eq_false (by omega)
  have i0 : 16 ≤ i := by omega
  have d3 : decide ((l.length : Int) - 4 < i) = false := decide_eq_false (by omega)
  have i1 : i ≤ 10000 := by omega
  have G39 := am_ (fun W => wire_sumPlace.calls p0 (s : Int) W (by unfold wire_sumPlace.f; rw [hs]; split <;> rfl))
  have d4 : decide (i < (s : Int) + 2) = false := decide_eq_false (by omega)
  have s22 : (s : Int) ≤ 22 := by rw [hs]; split <;> decide
  clear h hv0 hv1 hi hi1 hs hr hc hl hb hp hj
  go_enter Try.func83, Try.ntmps83
  go_upto_region 9 with (first | (go_at_call 78; (with_reducible refine G.out.mono ?_); rintro e w1 ⟨t, g, cc, A1, c1, A2, c2, rfl, ht⟩; have HT := am_ ht; clear ht) | (go_at_call 37; (with_reducible refine (G39.out _).mono ?_); rintro e w2 ⟨rfl, ⟨⟨nd, rfl⟩⟩⟩))
  generalize hW : World.drewN _ _ = w4
  have HT4 : Aside0 (Tur w w4 t g A c cc l l p9) := am_ (by rw [← hW]; exact (HT.out.alloc _).drewN _)
  clear hW HT
  obtain ⟨T0, T1, T2⟩ := c3 HT4.out.blk
  have P1 := am_ (tput_calls HT4.out HL.out j 4 v (iz := i) (mz := 4) HJ.out rfl (by omega) HJ1.out)
  have B6 := am_ (putL_bytes j 4 v HY.out)
  go_upto_region 10 with (first | (go_at_call 35; (with_reducible refine P1.out.mono ?_); rintro e w5 ⟨rfl, ht⟩; have HT5 := am_ ht; clear ht T0 T1 T2))
  have P5 := am_ (tbody_calls HT5.out HY.out B6.out HL.out j 4 (az := i) (nz := 4) HJ.out rfl (Nat.le_trans (Nat.add_le_add_right (placeL_le _) 2) H24.out) HJ1.out HAND.out)
  have B9 := am_ (bodyT_bytes (b := p9) (was := l) B6.out j 4)
  go_wp2_with (first
    | (go_at_call 104; (with_reducible refine P5.out.mono ?_); rintro e w9 ⟨rfl, ht⟩; have G51 := am_ (tdone_calls ht B9.out HL.out H24.out); clear ht)
    | (go_at_call 80; (with_reducible refine G51.out.mono ?_); rintro e w10 ⟨v, rfl, hr, hb⟩; have HRX := am_ hr; have HBX := am_ hb; clear hr hb))
  go_ret2
  exact ⟨v, rfl, HRX.out, HBX.out⟩
/-- The number of two bytes. -/
def pr (l : List Int) (i : Nat) : Int := l.getD i 0 * 256 + l.getD (i + 1) 0
theorem getD_out {l : List Int} {i : Nat} (h : l.length ≤ i) : l.getD i 0 = 0 := by
  rw [List.getD_eq_getElem?_getD, List.getElem?_eq_none h]; rfl
theorem num2_pr (l : List Int) (i : Nat) : numL l i 2 = pr l i := by
  simp only [numL, pr, Nat.add_zero]; omega
theorem pairL_pr (l : List Int) (i : Nat) : pairL l i = pr l i := by
  unfold pairL
  split
  · rename_i h; unfold pr; rw [getD_out (show l.length ≤ i + 1 by omega)]; omega
  · exact num2_pr l i
theorem pr_b {l : List Int} (hb : Bytes l) (i : Nat) : 0 ≤ pr l i ∧ pr l i ≤ 65535 := by
  have h1 := getD_byte hb i
  have h2 := getD_byte hb (i + 1)
  unfold pr; omega
theorem pairs_drop (l : List Int) (i : Nat) : pairs (l.drop i) = pr l i + pairs (l.drop (i + 2)) := by
  unfold pr
  by_cases h1 : i + 1 < l.length
  · rw [drop2 h1]; simp only [pairs]
  · by_cases h2 : i + 1 = l.length
    · rw [drop1 h2, List.drop_eq_nil_of_le (show l.length ≤ i + 2 by omega), getD_out (show l.length ≤ i + 1 by omega)]; simp only [pairs]; omega
    · rw [List.drop_eq_nil_of_le (show l.length ≤ i by omega), List.drop_eq_nil_of_le (show l.length ≤ i + 2 by omega), getD_out (show l.length ≤ i by omega), getD_out (show l.length ≤ i + 1 by omega)]; simp only [pairs]; omega
/-- The sum of so many pairs from a place on. -/
def psum (l : List Int) : Nat → Nat → Int
  | _, 0 => 0
  | i, k + 1 => pr l i + psum l (i + 2) k
theorem pairs_psum (l : List Int) : ∀ (k i : Nat), pairs (l.drop i) = psum l i k + pairs (l.drop (i + 2 * k))
  | 0, i => by simp [psum]
  | k + 1, i => by
    rw [pairs_drop, pairs_psum l k (i + 2), psum, show i + 2 + 2 * k = i + 2 * (k + 1) by omega]; omega
theorem psum_add (l : List Int) : ∀ (k i m : Nat), psum l i (k + m) = psum l i k + psum l (i + 2 * k) m
  | 0, i, m => by simp [psum]
  | k + 1, i, m => by
    rw [show k + 1 + m = (k + m) + 1 by omega, psum, psum, psum_add l k (i + 2) m, show i + 2 + 2 * k = i + 2 * (k + 1) by omega]; omega
theorem psum_congr {l m : List Int} : ∀ (k i : Nat), (∀ j, i ≤ j → j < i + 2 * k → l.getD j 0 = m.getD j 0) → psum l i k = psum m i k
  | 0, i, _ => rfl
  | k + 1, i, h => by
    rw [psum, psum, psum_congr k (i + 2) (fun j h1 h2 => h j (by omega) (by omega))]
    unfold pr
    rw [h i (by omega) (by omega), h (i + 1) (by omega) (by omega)]
theorem psum_b {l : List Int} (hb : Bytes l) : ∀ (k i : Nat), 0 ≤ psum l i k ∧ psum l i k ≤ 65535 * k
  | 0, _ => by simp [psum]
  | k + 1, i => by
    have := psum_b hb k (i + 2)
    have := pr_b hb i
    rw [psum]; omega
theorem getD_take {l : List Int} {n i : Nat} (h : i < n) : (l.take n).getD i 0 = l.getD i 0 := by
  rw [List.getD_eq_getElem?_getD, List.getD_eq_getElem?_getD, List.getElem?_take, if_pos h]
theorem getD_drop (l : List Int) (n i : Nat) : (l.drop n).getD i 0 = l.getD (n + i) 0 := by
  rw [List.getD_eq_getElem?_getD, List.getD_eq_getElem?_getD, List.getElem?_drop]
theorem pairs_take (l : List Int) (k : Nat) (h : 2 * k ≤ l.length) : pairs (l.take (2 * k)) = psum l 0 k := by
  have e := pairs_psum (l.take (2 * k)) k 0
  rw [List.drop_zero, List.drop_eq_nil_of_le (show (l.take (2 * k)).length ≤ 0 + 2 * k by rw [List.length_take]; omega)] at e
  rw [e, psum_congr k 0 (m := l) (fun j _ h2 => getD_take (by omega))]; simp [pairs]
theorem ext_getD {l m : List Int} (h : l.length = m.length) (hh : ∀ j, j < l.length → l.getD j 0 = m.getD j 0) : l = m := by
  refine List.ext_getElem h fun j h1 h2 => ?_
  have := hh j h1
  rw [List.getD_eq_getElem?_getD, List.getD_eq_getElem?_getD, List.getElem?_eq_getElem h1, List.getElem?_eq_getElem h2] at this
  exact this
theorem drop_congr {l m : List Int} {n : Nat} (h : l.length = m.length) (hh : ∀ j, n ≤ j → l.getD j 0 = m.getD j 0) : l.drop n = m.drop n := by
  refine ext_getD (by simp [h]) fun j _ => ?_
  rw [getD_drop, getD_drop]; exact hh _ (by omega)
theorem take_congr {l m : List Int} {n : Nat} (h : l.length = m.length) (hh : ∀ j, j < n → l.getD j 0 = m.getD j 0) : l.take n = m.take n := by
  refine ext_getD (by simp [h]) fun j hj => ?_
  rw [List.length_take] at hj
  rw [getD_take (by omega), getD_take (by omega)]; exact hh _ (by omega)
theorem getD_set_ne {l : List Int} {i j : Nat} {x : Int} (h : i ≠ j) : (l.set i x).getD j 0 = l.getD j 0 := by
  rw [List.getD_eq_getElem?_getD, List.getD_eq_getElem?_getD, List.getElem?_set_ne h]
theorem getD_set_eq {l : List Int} {i : Nat} {x : Int} (h : i < l.length) : (l.set i x).getD i 0 = x := by
  rw [List.getD_eq_getElem?_getD, List.getElem?_set_self h]; rfl
theorem putL_far (i : Nat) : ∀ (n : Nat) (l : List Int) (v : Int) (j : Nat), (j < i ∨ i + n ≤ j) → (putL l i n v).getD j 0 = l.getD j 0
  | 0, _, _, _, _ => rfl
  | n + 1, l, v, j, h => by
    rw [putL, putL_far i n _ _ j (by omega), getD_set_ne (by omega)]
theorem numL_congr {l m : List Int} (i : Nat) : ∀ (n : Nat), (∀ j, i ≤ j → j < i + n → l.getD j 0 = m.getD j 0) → numL l i n = numL m i n
  | 0, _ => rfl
  | n + 1, h => by
    rw [numL, numL, numL_congr i n (fun j h1 h2 => h j h1 (by omega)), h (i + n) (by omega) (by omega)]
theorem numL_putL_far {l : List Int} (i n : Nat) (v : Int) (j m : Nat) (h : j + m ≤ i ∨ i + n ≤ j) : numL (putL l i n v) j m = numL l j m :=
  numL_congr j m fun k h1 h2 => putL_far i n l v k (by omega)
theorem numL_putL (i : Nat) : ∀ (n : Nat) (l : List Int) (v : Int), i + n ≤ l.length → 0 ≤ v → v < 256 ^ n → numL (putL l i n v) i n = v
  | 0, _, v, _, h0, h1 => by simp only [numL]; simp at h1; omega
  | n + 1, l, v, h, h0, h1 => by
    rw [putL, numL, numL_putL i n _ _ (by rw [List.length_set]; omega) (by omega) (by rw [Int.pow_succ] at h1; omega), putL_far i n _ _ (i + n) (by omega), getD_set_eq (by omega)]
    omega
theorem pr_putL {l : List Int} {i : Nat} {v : Int} (h : i + 2 ≤ l.length) (h0 : 0 ≤ v) (h1 : v ≤ 65535) : pr (putL l i 2 v) i = v := by
  rw [← num2_pr]; exact numL_putL i 2 l v h h0 (by have : (256 : Int) ^ 2 = 65536 := (by decide); omega)
theorem turnS_mod {was L : List Int} (h1 : Bytes was) (h2 : Bytes L) : ∀ (k i : Nat) (s : Int), 0 ≤ s → s ≤ 65535 → (turnS was L k i s - (s + psum was i k - psum L i k)) % 65535 = 0
  | 0, _, s, _, _ => by simp [turnS, psum]
  | k + 1, i, s, a, b => by
    have p1 := pr_b h1 i
    have p2 := pr_b h2 i
    have t := turn_bounds a b p1.1 p1.2 p2.1 p2.2
    have r := turnS_mod h1 h2 k (i + 2) _ t.1 t.2
    rw [turnS, pairL_pr, pairL_pr, psum, psum]
    have m : (turn s (pr was i) (pr L i) - (s + pr was i - pr L i)) % 65535 = 0 := by
      unfold turn plus; repeat' split
      all_goals omega
    omega
/-- What the pairs come to, without the middle ones. -/
theorem pairs_turn {was L : List Int} (hl : L.length = was.length) (o i k : Nat) (ho : o ≤ i) (he : (i - o) % 2 = 0) (hs : ∀ j, o ≤ j → (j < i ∨ i + 2 * k ≤ j) → L.getD j 0 = was.getD j 0) :
    pairs (L.drop o) = pairs (was.drop o) + (psum L i k - psum was i k) := by
  have ei : o + 2 * ((i - o) / 2) = i := by omega
  rw [pairs_psum L ((i - o) / 2) o, pairs_psum was ((i - o) / 2) o, ei, pairs_psum L k i, pairs_psum was k i]
  rw [psum_congr (l := L) (m := was) ((i - o) / 2) o (fun j h1 h2 => hs j h1 (by omega)), drop_congr (l := L) (m := was) hl (n := i + 2 * k) (fun j h1 => hs j (by omega) (by omega))]
  omega
/-- Bytes that Parse takes apart. -/
structure Ok (l : List Int) : Prop where
  h24 : 24 ≤ l.length
  le : l.length ≤ 1500
  num : numL l 2 2 = (l.length : Int)
  z13 : l.getD 13 0 = 0
  sum : fold (pairs (l.take 16)) = 65535
  k1 : 1 ≤ l.getD 0 0
  k3 : l.getD 0 0 ≤ 3
  f44 : l.getD 0 0 = 3 → 44 ≤ l.length
  f17 : l.getD 0 0 = 3 → l.getD 17 0 = 0
  s20 : l.getD 0 0 = 1 → l.getD 20 0 ≤ 15
  s21 : l.getD 0 0 = 1 → l.getD 21 0 ≤ 40
  rest : l.getD 0 0 = 1 → restS l ≤ l.length
/-- The packet that they are. -/
def pkL (l : List Int) : Pk :=
  if l.getD 0 0 = 3 then ⟨3, l.getD 1 0, l.getD 12 0, numL l 4 4, numL l 8 4, 0, 0, 0, 0, false, l.getD 16 0, [], l.drop 20⟩
  else if l.getD 0 0 = 2 then ⟨2, l.getD 1 0, l.getD 12 0, numL l 4 4, numL l 8 4, numL l 16 2, numL l 18 2, 0, numL l 20 2, numL l 22 2 == 0, 0, [], l.drop 24⟩
  else ⟨1, l.getD 1 0, l.getD 12 0, numL l 4 4, numL l 8 4, numL l 16 2, numL l 18 2, l.getD 20 0, 0, false, 0, (l.take (restS l)).drop 24, l.drop (restS l)⟩
theorem Ok.head {l : List Int} (h : Ok l) : headE l = 0 := by
  have := h.h24
  unfold headE
  rw [if_neg (by omega), if_neg (show ¬ ¬ _ from fun x => x ⟨h.k1, h.k3⟩), if_neg (show ¬ ¬ _ from fun x => x ⟨h.num, h.le, h.z13⟩), if_neg (show ¬ ¬ _ from fun x => x h.sum), if_neg ?_]
  rintro (x | ⟨x, y⟩)
  · omega
  · have := h.f44 x; omega
theorem Ok.parse {l : List Int} (h : Ok l) : parseL l = (pkL l, 0) := by
  unfold parseL pkL
  rw [if_neg (show ¬ headE l ≠ 0 from fun x => x h.head)]
  by_cases h3 : l.getD 0 0 = 3
  · rw [if_pos h3, if_neg (show ¬ l.getD 17 0 ≠ 0 from fun x => x (h.f17 h3)), if_pos h3]
  · rw [if_neg h3, if_neg h3]
    by_cases h2 : l.getD 0 0 = 2
    · rw [if_pos h2, if_pos h2]
    · have a := h.k1
      have b := h.k3
      have h1 : l.getD 0 0 = 1 := by omega
      have c1 := h.s20 h1
      have c2 := h.s21 h1
      have c3 := h.rest h1
      rw [if_neg h2, if_neg h2, if_neg (by omega)]
theorem ok_of {l : List Int} (h : (parseL l).2 = 0) : Ok l := by
  have he : headE l = 0 := by
    by_cases he : headE l = 0
    · exact he
    · unfold parseL at h; rw [if_pos he] at h; exact absurd h he
  obtain ⟨h24, hle, hn, h13, hs, hk⟩ := head0 he
  unfold parseL at h
  rw [if_neg (show ¬ headE l ≠ 0 from fun x => x he)] at h
  refine ⟨h24, hle, hn, h13, hs, by omega, by omega, by omega, ?_, ?_, ?_, ?_⟩
  · intro h3
    rw [if_pos h3] at h
    by_cases z : l.getD 17 0 = 0
    · exact z
    · rw [if_pos z] at h; cases h
  all_goals
    intro h1
    rw [if_neg (by omega), if_neg (by omega)] at h
    by_cases z : l.getD 20 0 > 15 ∨ l.getD 21 0 > 40 ∨ restS l > l.length
    · rw [if_pos z] at h; cases h
    · omega
theorem parse_ok_iff {l : List Int} {p : Pk} : parseL l = (p, 0) ↔ Ok l ∧ p = pkL l := by
  constructor
  · intro h
    have o := ok_of (l := l) (by rw [h])
    refine ⟨o, ?_⟩
    rw [o.parse] at h
    exact (Prod.mk.inj h).1.symm
  · rintro ⟨o, rfl⟩; exact o.parse
/-- What a body's sum adds up. -/
theorem pairs_summed {l : List Int} (h : 16 ≤ l.length) (h' : l.length ≤ 65000) : pairs (summedL l) = (if l.getD 0 0 = 3 then 0 else psum l 4 4) + l.getD 0 0 + ((l.length : Int) - 16) + pairs (l.drop 16) := by
  have e : pairs ((l.take 12).drop 4) = psum l 4 4 := by
    rw [pairs_psum _ 4 4, List.drop_eq_nil_of_le (show (l.take 12).length ≤ 4 + 2 * 4 by rw [List.length_take]; omega), psum_congr 4 4 (m := l) (fun j _ h2 => getD_take (by omega))]
    simp [pairs]
  have lt : ((l.take 12).drop 4).length = 8 := by rw [List.length_drop, List.length_take]; omega
  unfold summedL
  split
  · rw [pairs_app _ _ (by simp), List.nil_append]; simp only [pairs]; omega
  · rw [pairs_app _ _ (by simp only [List.length_append, lt, List.length_cons, List.length_nil]), pairs_app _ _ (by rw [lt]), e]; simp only [pairs]; omega
theorem fold_right {n : Int} (hn : 0 < n) : fold n = 65535 ↔ n % 65535 = 0 := by unfold fold; split <;> omega
theorem summed_pos {l : List Int} (hb : Bytes l) (h : 16 ≤ l.length) (h' : l.length ≤ 65000) (hk : 1 ≤ l.getD 0 0) : 0 < pairs (summedL l) := by
  rw [pairs_summed h h']
  have a := (psum_b hb 4 4).1
  have b := pairs_nonneg (hb.drop 16)
  split <;> omega
/-- Is a body's sum right? -/
theorem whole_iff {l : List Int} (hb : Bytes l) (o : Ok l) : wholeL l = ((pkL l).bare || pairs (summedL l) % 65535 == 0) := by
  have := o.h24
  have := o.le
  unfold wholeL
  rw [o.parse]
  have : (fold (pairs (summedL l)) == 65535) = (pairs (summedL l) % 65535 == 0) := by
    rw [Bool.eq_iff_iff, beq_iff_eq, beq_iff_eq]
    exact fold_right (summed_pos hb (by omega) (by omega) o.k1)
  rw [this]; rfl
/-- A body's sum laid anew. -/
theorem summed_put {l : List Int} {s : Nat} {v : Int} (h : s + 2 ≤ l.length) (h' : l.length ≤ 65000) (hs : s = 18 ∨ s = 22) (h0 : 0 ≤ v) (h1 : v ≤ 65535) : pairs (summedL (putL l s 2 v)) = pairs (summedL l) - pr l s + v := by
  have hl := putL_len s 2 l v
  rw [pairs_summed (l := putL l s 2 v) (by omega) (by omega), pairs_summed (l := l) (by omega) (by omega), hl, putL_far s 2 l v 0 (by omega),
    psum_congr (l := putL l s 2 v) (m := l) 4 4 (fun j a b => putL_far s 2 l v j (by omega)),
    pairs_turn (L := putL l s 2 v) (was := l) hl 16 s 1 (by omega) (by omega) (fun j a b => putL_far s 2 l v j (by omega))]
  simp only [psum, pr_putL h h0 h1]
  omega
/-- The sum of a head. -/
theorem head_put {l : List Int} {v : Int} (h : 16 ≤ l.length) (h0 : 0 ≤ v) (h1 : v ≤ 65535) : pairs ((putL l 14 2 v).take 16) = pairs (l.take 16) - pr l 14 + v := by
  rw [show 16 = 2 * 8 from rfl, pairs_take _ 8 (by rw [putL_len]; omega), pairs_take l 8 (by omega), show (8 : Nat) = 7 + 1 from rfl, psum_add, psum_add,
    psum_congr (l := putL l 14 2 v) (m := l) 7 0 (fun j a b => putL_far 14 2 l v j (by omega))]
  have e0 : psum (putL l 14 2 v) (0 + 2 * 7) 1 = v := by
    show pr (putL l 14 2 v) 14 + 0 = v
    rw [pr_putL (show 14 + 2 ≤ l.length by omega) h0 h1]; omega
  have e1 : psum l (0 + 2 * 7) 1 = pr l 14 := by
    show pr l 14 + 0 = _
    omega
  rw [e0, e1]
  omega
theorem head_pos {l : List Int} (hb : Bytes l) (h : 16 ≤ l.length) (hk : 1 ≤ l.getD 0 0) : 0 < pairs (l.take 16) := by
  rw [show 16 = 2 * 8 from rfl, pairs_take _ 8 (by omega), show (8 : Nat) = 7 + 1 from rfl, psum]
  have a : 0 ≤ psum l (0 + 2) 7 := (psum_b hb 7 2).1
  have b : 0 ≤ l.getD (0 + 1) 0 := (getD_byte hb 1).1
  unfold pr; omega
theorem fold_mod {n : Int} (h : 0 < n) : (n + (65535 - fold n)) % 65535 = 0 := by unfold fold; split <;> omega
def ageL (bare : Bool) (l : List Int) : List Int := doneL bare (turnL l (l.set 1 ((l.getD 1 0 - 1) % 256)) 14 0 2)
/-- What Age answers. -/
def ageR (l : List Int) : List Int × Int :=
  if (parseL l).2 ≠ 0 then ([], (parseL l).2) else if (parseL l).1.life < 2 then ([], 7) else (ageL (parseL l).1.bare l, 0)
/-- What Nat answers. -/
def natR (l : List Int) (src : Bool) (addr port : Int) : List Int × Int :=
  if (parseL l).2 ≠ 0 then ([], (parseL l).2) else if (parseL l).1.kind = 3 then ([], 2) else if rgB addr 4294967295 = false ∨ rgB port 65535 = false then ([], 14)
  else (natL (parseL l).1.bare l (if src then 4 else 8) (if src then 16 else 18) addr port, 0)
/-- May so many bytes be laid there? -/
def wrOK (l : List Int) (i m v : Int) : Prop :=
  (m = 1 ∨ m = 2 ∨ m = 4) ∧ 0 ≤ v ∧ v < 256 ^ m.toNat ∧ 16 ≤ i ∧ i + m ≤ l.length ∧ (i + m ≤ placeL l ∨ (placeL l : Int) + 2 ≤ i)
instance (l : List Int) (i m v : Int) : Decidable (wrOK l i m v) := by unfold wrOK; infer_instance
/-- What Write answers. -/
def writeR (l : List Int) (i m v : Int) : List Int × Int :=
  if (parseL l).2 ≠ 0 then ([], (parseL l).2) else if wrOK l i m v then (writeL (parseL l).1.bare l i.toNat m.toNat v, 0) else ([], 14)
theorem age_calls {A : Option Addr} {c n : Nat} {l : List Int} {w : World} (hr : Kd.C (Kd.int .u8) w A n l) (hn : l.length = n) (hc : n ≤ c) (hl : l.length ≤ 10000) (hb : Bytes l) :
    Calls Try.prog 42 #[.slice A n c] w (Told w (ageR l).1 (ageR l).2) := by
  subst hn
  obtain ⟨⟨p0, p1, p2, p3, p4, p5, p6, p7, p8, p9, p10, p11, p12⟩, x, hp⟩ : ∃ p x, parseL l = (p, x) := ⟨_, _, rfl⟩
  unfold ageR ageL
  rw [hp]
  by_cases hx : x = 0
  · subst hx
    have h := age_ok hr hc hl hb hp
    dsimp only
    by_cases h2 : p1 < 2
    · rw [if_pos h2, if_pos h2] at h; rw [if_neg (by simp), if_pos h2]; exact h
    · rw [if_neg h2, if_neg h2] at h; rw [if_neg (by simp), if_neg h2]; exact h
  · dsimp only
    rw [if_pos hx]
    exact age_err hr hc hl hb hp hx
theorem nat_calls {A : Option Addr} {c n : Nat} {l : List Int} {w : World} (hr : Kd.C (Kd.int .u8) w A n l) (hn : l.length = n) (hc : n ≤ c) (hl : l.length ≤ 10000) (hb : Bytes l) (src : Bool) (addr port : Int) :
    Calls Try.prog 87 #[.slice A n c, .bool src, .int .i64 addr, .int .i64 port] w (Told w (natR l src addr port).1 (natR l src addr port).2) := by
  subst hn
  obtain ⟨⟨p0, p1, p2, p3, p4, p5, p6, p7, p8, p9, p10, p11, p12⟩, x, hp⟩ : ∃ p x, parseL l = (p, x) := ⟨_, _, rfl⟩
  unfold natR
  rw [hp]
  by_cases hx : x = 0
  · subst hx
    dsimp only
    rw [if_neg (by simp)]
    by_cases h3 : p0 = 3
    · rw [if_pos h3]; exact nat_fault hr hc hl hb src addr port hp h3
    · rw [if_neg h3]
      by_cases ha : rgB addr 4294967295 = false
      · rw [if_pos (Or.inl ha)]; exact nat_range1 hr hc hl hb src addr port hp h3 ha
      · have ha' : rgB addr 4294967295 = true := by simpa using ha
        by_cases hq : rgB port 65535 = false
        · rw [if_pos (Or.inr hq)]; exact nat_range2 hr hc hl hb src addr port hp h3 ha' hq
        · have hq' : rgB port 65535 = true := by simpa using hq
          rw [if_neg (by simp [ha', hq'])]
          cases src with
          | true => exact nat_ok_true hr hc hl hb addr port hp h3 ha' hq'
          | false => exact nat_ok_false hr hc hl hb addr port hp h3 ha' hq'
  · dsimp only
    rw [if_pos hx]
    exact nat_err hr hc hl hb src addr port hp hx
theorem kind0 {l : List Int} {p : Pk} (h : parseL l = (p, 0)) : p.kind = l.getD 0 0 := by
  obtain ⟨o, rfl⟩ := parse_ok_iff.1 h
  have a := o.k1
  have b := o.k3
  unfold pkL
  by_cases h3 : l.getD 0 0 = 3
  · rw [if_pos h3, h3]
  · rw [if_neg h3]
    by_cases h2 : l.getD 0 0 = 2
    · rw [if_pos h2, h2]
    · rw [if_neg h2]; show (1 : Int) = _; omega
theorem write_calls {A : Option Addr} {c n : Nat} {l : List Int} {w : World} (hr : Kd.C (Kd.int .u8) w A n l) (hn : l.length = n) (hc : n ≤ c) (hl : l.length ≤ 10000) (hb : Bytes l) (i m v : Int) :
    Calls Try.prog 83 #[.slice A n c, .int .i64 i, .int .i64 m, .int .i64 v] w (Told w (writeR l i m v).1 (writeR l i m v).2) := by
  subst hn
  obtain ⟨⟨p0, p1, p2, p3, p4, p5, p6, p7, p8, p9, p10, p11, p12⟩, x, hp⟩ : ∃ p x, parseL l = (p, x) := ⟨_, _, rfl⟩
  unfold writeR
  rw [hp]
  by_cases hx : x = 0
  · subst hx
    dsimp only
    have hs : placeL l = if p0 = 3 then 18 else 22 := by unfold placeL; rw [← kind0 hp]
    rw [if_neg (by simp)]
    by_cases hm : m = 1 ∨ m = 2 ∨ m = 4
    · have e1 : (256 : Int) ^ Int.toNat 1 = 256 := by decide
      have e2 : (256 : Int) ^ Int.toNat 2 = 65536 := by decide
      have e4 : (256 : Int) ^ Int.toNat 4 = 4294967296 := by decide
      by_cases h0 : v < 0
      · rw [if_neg (by unfold wrOK; omega)]
        rcases hm with rfl | rfl | rfl
        · exact write_v0_1 hr hc hl hb i v hp h0
        · exact write_v0_2 hr hc hl hb i v hp h0
        · exact write_v0_4 hr hc hl hb i v hp h0
      by_cases h1 : v < 256 ^ m.toNat
      · by_cases h2 : i < 16
        · rw [if_neg (by unfold wrOK; omega)]
          rcases hm with rfl | rfl | rfl
          · exact write_a0_1 hr hc hl hb i v hp (by omega) (by omega) h2
          · exact write_a0_2 hr hc hl hb i v hp (by omega) (by omega) h2
          · exact write_a0_4 hr hc hl hb i v hp (by omega) (by omega) h2
        by_cases h3 : i + m ≤ l.length
        · obtain ⟨j, rfl⟩ := Int.eq_ofNat_of_zero_le (show 0 ≤ i by omega)
          by_cases h4 : (j : Int) + m ≤ placeL l ∨ (placeL l : Int) + 2 ≤ j
          · rw [if_pos ⟨hm, by omega, h1, by omega, h3, h4⟩]
            rcases h4 with h4 | h4
            · rcases hm with rfl | rfl | rfl
              · exact write_ok0_1 hr hc hl hb j v j hp rfl (by omega) (by omega) (by omega) h3 hs (by omega) h4
              · exact write_ok0_2 hr hc hl hb j v j hp rfl (by omega) (by omega) (by omega) h3 hs (by omega) h4
              · exact write_ok0_4 hr hc hl hb j v j hp rfl (by omega) (by omega) (by omega) h3 hs (by omega) h4
            · rcases hm with rfl | rfl | rfl
              · exact write_ok1_1 hr hc hl hb j v j hp rfl (by omega) (by omega) (by omega) h3 hs h4
              · exact write_ok1_2 hr hc hl hb j v j hp rfl (by omega) (by omega) (by omega) h3 hs h4
              · exact write_ok1_4 hr hc hl hb j v j hp rfl (by omega) (by omega) (by omega) h3 hs h4
          · rw [if_neg (fun h => h4 h.2.2.2.2.2)]
            rcases hm with rfl | rfl | rfl
            · exact write_s_1 hr hc hl hb j v hp (by omega) (by omega) (by omega) h3 hs (by omega) (by omega)
            · exact write_s_2 hr hc hl hb j v hp (by omega) (by omega) (by omega) h3 hs (by omega) (by omega)
            · exact write_s_4 hr hc hl hb j v hp (by omega) (by omega) (by omega) h3 hs (by omega) (by omega)
        · rw [if_neg (fun h => h3 h.2.2.2.2.1)]
          rcases hm with rfl | rfl | rfl
          · exact write_a1_1 hr hc hl hb i v hp (by omega) (by omega) (by omega) (by omega)
          · exact write_a1_2 hr hc hl hb i v hp (by omega) (by omega) (by omega) (by omega)
          · exact write_a1_4 hr hc hl hb i v hp (by omega) (by omega) (by omega) (by omega)
      · rw [if_neg (fun h => h1 h.2.2.1)]
        rcases hm with rfl | rfl | rfl
        · exact write_v1_1 hr hc hl hb i v hp (by omega)
        · exact write_v1_2 hr hc hl hb i v hp (by omega)
        · exact write_v1_4 hr hc hl hb i v hp (by omega)
    · rw [if_neg (fun h => hm h.1)]
      exact write_n hr hc hl hb i m v hp hm
  · dsimp only
    rw [if_pos hx]
    exact write_err hr hc hl hb i m v hp hx
/-- Is it a gram without a sum? -/
def bareB (l : List Int) : Bool := l.getD 0 0 == 2 && pr l 22 == 0
theorem doneL_len (b : Bool) (l : List Int) : (doneL b l).length = l.length := by
  unfold doneL; split
  · exact putL_len ..
  · rfl
theorem doneL_bytes {b : Bool} {l : List Int} (h : Bytes l) : Bytes (doneL b l) := by
  unfold doneL; split
  · exact putL_bytes _ _ _ h
  · exact h
theorem putL_putL (i : Nat) : ∀ (n : Nat) (l : List Int) (u v : Int), putL (putL l i n u) i n v = putL l i n v
  | 0, _, _, _ => rfl
  | n + 1, l, u, v => by
    show putL ((putL (l.set (i + n) (u % 256)) i n (u / 256)).set (i + n) (v % 256)) i n (v / 256) = putL (l.set (i + n) (v % 256)) i n (v / 256)
    rw [← putL_set i (i + n) (v % 256) n _ _ (by omega), putL_putL i n, List.set_set]
theorem pr_far {l : List Int} {i n j : Nat} {v : Int} (h : j + 2 ≤ i ∨ i + n ≤ j) : pr (putL l i n v) j = pr l j := by
  unfold pr
  rw [putL_far i n l v j (by omega), putL_far i n l v (j + 1) (by omega)]
theorem bare_of {l : List Int} (o : Ok l) : (pkL l).bare = bareB l := by
  have a := o.k1
  have b := o.k3
  unfold pkL bareB
  by_cases h3 : l.getD 0 0 = 3
  · rw [if_pos h3, h3]; rfl
  · rw [if_neg h3]
    by_cases h2 : l.getD 0 0 = 2
    · rw [if_pos h2, h2, ← num2_pr]; simp
    · rw [if_neg h2, beq_eq_false_iff_ne.mpr h2]; rfl
theorem done_id {l L : List Int} {b : Bool} (h : bareB l = b) (h0 : L.getD 0 0 = l.getD 0 0) (h1 : pr L 22 = pr l 22) : doneL b L = L := by
  unfold doneL
  rw [if_neg]
  rintro ⟨a, rfl, c⟩
  unfold bareB at h
  rw [num2_pr, h1] at c
  rw [h0] at a
  rw [a, c] at h
  cases h
theorem age_eq {l : List Int} (h : 24 ≤ l.length) : ageL (bareB l) l = putL (l.set 1 ((l.getD 1 0 - 1) % 256)) 14 2 (turn (pr l 14) (pr l 0) (pr (l.set 1 ((l.getD 1 0 - 1) % 256)) 0)) := by
  unfold ageL
  obtain ⟨L, hL⟩ : ∃ L, L = l.set 1 ((l.getD 1 0 - 1) % 256) := ⟨_, rfl⟩
  have f : ∀ j, 1 < j → L.getD j 0 = l.getD j 0 := fun j hj => by rw [hL, getD_set_ne (by omega)]
  have f0 : L.getD 0 0 = l.getD 0 0 := by rw [hL, getD_set_ne (by omega)]
  rw [← hL]
  have e : turnL l L 14 0 2 = putL L 14 2 (turn (pr l 14) (pr l 0) (pr L 0)) := by
    unfold turnL
    rw [show pairsN 0 2 = 1 from rfl, show 0 / 2 * 2 = 0 from rfl, num2_pr, turnS, turnS, pairL_pr, pairL_pr, show pr L 14 = pr l 14 from by unfold pr; rw [f 14 (by omega), f (14 + 1) (by omega)]]
  rw [e, done_id rfl (by rw [putL_far _ _ _ _ _ (by omega), f0]) (by rw [pr_far (by omega)]; unfold pr; rw [f 22 (by omega), f (22 + 1) (by omega)])]
theorem within_calls (a : Int) {n : Int} (h0 : 0 < n) (h1 : n ≤ 4611686018427387904) (w : World) :
    Calls Try.prog 32 #[.int .i64 a, .int .i64 n] w fun e w' => e = .returned (.int .i64 (a % n)) ∧ Drawn0 w w' := roundhouselaw3_within.calls a n _ w (within_f h0 h1)
/-- Block g holds just these numbers. -/
def Arr (w : World) (g : Nat) (L : List Int) : Prop := w.heap[g]? = some (.cells (L.map (Value.int .i64)).toArray 83 (0, 0))
theorem arr_cell {w : World} {g : Nat} {L : List Int} (h : Arr w g L) (i : Nat) (hi : i < L.length) : w.cell? ⟨g, i, none⟩ = some (.int .i64 (L.getD i 0)) := by
  unfold Arr at h
  simp [World.cell?, h, hi]
theorem arr_frozen {w : World} {g : Nat} {L : List Int} (h : Arr w g L) (i : Nat) : w.frozen? ⟨g, i, none⟩ = false := by
  unfold Arr at h
  simp [World.frozen?, h]
theorem arr_set {w : World} {g : Nat} {L : List Int} (h : Arr w g L) (i : Nat) (x : Int) : Arr (w.setCell ⟨g, i, none⟩ (.int .i64 x)) g (L.set i x) := by
  have := set_blk h i (.int .i64 x)
  unfold Arr
  rw [this]
  simp [List.map_set]
theorem arr_below {w w' : World} {b g : Nat} {L : List Int} (h : Arr w g L) (hb : Below b w w') (hg : g < b) : Arr w' g L := (hb.block g hg).trans h
/-- The numbers that Make takes, k of them laid. -/
def arrL (ns : List Int) (k : Nat) : List Int := (ns.take k).map (· % 1099511627776) ++ List.replicate (8 - k) 0
theorem arrL_len {ns : List Int} {k : Nat} (h : k ≤ 8) (h' : k ≤ ns.length) : (arrL ns k).length = 8 := by
  unfold arrL
  simp only [List.length_append, List.length_map, List.length_take, List.length_replicate]; omega
theorem arrL_set {ns : List Int} {k : Nat} (h : k < 8) (h' : k < ns.length) : (arrL ns k).set k (ns.getD k 0 % 1099511627776) = arrL ns (k + 1) := by
  unfold arrL
  have e : ((ns.take k).map (· % 1099511627776)).length = k := by simp only [List.length_map, List.length_take]; omega
  rw [List.set_append_right _ _ (by omega), e, Nat.sub_self, show 8 - k = (8 - (k + 1)) + 1 by omega, List.replicate_succ, List.set_cons_zero, List.take_succ_eq_append_getElem h', List.map_append, List.append_assoc]
  congr 1
  simp [List.getD_eq_getElem?_getD, h']
theorem arrL_b {ns : List Int} {k i : Nat} : 0 ≤ (arrL ns k).getD i 0 ∧ (arrL ns k).getD i 0 < 1099511627776 := by
  have h : ∀ x ∈ arrL ns k, 0 ≤ x ∧ x < 1099511627776 := by
    intro x hx
    unfold arrL at hx
    rcases List.mem_append.1 hx with h | h
    · obtain ⟨y, _, rfl⟩ := List.mem_map.1 h
      omega
    · have := List.eq_of_mem_replicate h; omega
  rw [List.getD_eq_getElem?_getD]
  by_cases hi : i < (arrL ns k).length
  · rw [List.getElem?_eq_getElem hi]; exact h _ (List.getElem_mem hi)
  · rw [List.getElem?_eq_none (by omega)]; simp
/-- The i-th of the numbers that Make takes. -/
def nthL (ns : List Int) (i : Nat) : Int := (arrL ns (min 8 ns.length)).getD i 0
/-- A packet's cells. -/
def pkC (p : Pk) (vo vd : Value) : Array Value := #[.int .i64 p.kind, .int .i64 p.life, .int .i64 p.piece, .int .i64 p.frm, .int .i64 p.dst, .int .i64 p.fp, .int .i64 p.tp, .int .i64 p.flags, .int .i64 p.label, .bool p.bare, .int .i64 p.code, vo, vd]
/-- One byte out of a number. -/
def shB (x : Int) (j : Nat) : Int := x / 2 ^ j % 256
/-- Data that is filled up. -/
def fillL (x : Int) : Nat → List Int → List Int
  | 0, d => d
  | k + 1, d => fillL x k (d ++ [shB x (d.length % 8)])
/-- Options out of a number. -/
def optsL (x : Int) : Nat → List Int
  | 0 => []
  | k + 1 => optsL x k ++ [shB x (k % 24)]
def lifeQ (n0 : Int) : Int := if n0 % 7 = 0 then n0 / 7 % 3 else 2 + n0 % 254
def pieceQ (n0 : Int) : Int := if n0 % 11 = 0 then n0 / 11 % 256 else 0
def makeQ (q n0 n1 n2 n3 n4 n5 n6 n7 : Int) (m : Nat) (l : List Int) : Pk :=
  if q = 2 then ⟨3, lifeQ n0, pieceQ n0, n1 % 4294967296, n2 % 4294967296, 0, 0, 0, 0, false, n3 % 256, [], fillL n4 (24 - m) (l.take m)⟩
  else if q = 1 then ⟨2, lifeQ n0, pieceQ n0, n1 % 4294967296, n2 % 4294967296, n3 % 65536, n4 % 65536, 0, n5 % 65536, n6 % 4 == 0, 0, [], l.take m⟩
  else ⟨1, lifeQ n0, pieceQ n0, n1 % 4294967296, n2 % 4294967296, n3 % 65536, n4 % 65536, n5 % 16, 0, false, 0, optsL n7 (n6 % 41).toNat, l.take m⟩
/-- The packet that Make makes. -/
def makeP (kind : Int) (ns l : List Int) : Pk := makeQ (kind % 3) (nthL ns 0) (nthL ns 1) (nthL ns 2) (nthL ns 3) (nthL ns 4) (nthL ns 5) (nthL ns 6) (nthL ns 7) (min l.length 200) l
/-- What Make has in memory: its result's block (empty yet), its numbers, its packet in block g. -/
structure MkSt (w0 w : World) (g : Nat) (N : List Int) (p : Pk) (vo vd : Value) : Prop where
  below : Below w0.heap.size w0 w
  zero : w.heap[w0.heap.size]? = some (.cells zero13 39 (0, 0))
  arr : Arr w (w0.heap.size + 1) N
  blk : w.heap[g]? = some (.cells (pkC p vo vd) 39 (0, 0))
  hg : w0.heap.size + 2 ≤ g
  ro : RB (w0.heap.size + 2) w vo p.opts
  rd : RB (w0.heap.size + 2) w vd p.data
  no : vo.ownBlock ≠ some g
  nd : vd.ownBlock ≠ some g
  ne : ∀ k, vo.ownBlock = some k → vd.ownBlock ≠ some k
variable {w0 w w1 : World} {g : Nat} {N : List Int} {p : Pk} {vo vd : Value}
theorem MkSt.drewN (h : MkSt w0 w g N p vo vd) (n : Nat) : MkSt w0 (w.drewN n) g N p vo vd :=
  ⟨bd h.below n, h.zero, h.arr, h.blk, h.hg, Kd.R_drewN h.ro n, Kd.R_drewN h.rd n, h.no, h.nd, h.ne⟩
theorem MkSt.drew (h : MkSt w0 w g N p vo vd) : MkSt w0 w.drew g N p vo vd :=
  ⟨below_drew1 h.below, h.zero, h.arr, h.blk, h.hg, Kd.R_drew h.ro, Kd.R_drew h.rd, h.no, h.nd, h.ne⟩
theorem MkSt.quiet (h : MkSt w0 w g N p vo vd) (hg : w.grownBy w1 none) : MkSt w0 w1 g N p vo vd := by
  have hb := below_of_none hg
  exact ⟨h.below.trans (hb.mono h.below.size), (hb.block _ (blk_lt h.zero)).trans h.zero, (hb.block _ (blk_lt h.arr)).trans h.arr, (hb.block _ (blk_lt h.blk)).trans h.blk, h.hg, Kd.R_below h.ro hb, Kd.R_below h.rd hb, h.no, h.nd, h.ne⟩
theorem RB_far {b : Nat} {l : List Int} {v u : Value} (h : RB b w v l) (hn : v.ownBlock ≠ some g) (i : Nat) : RB b (w.setCell ⟨g, i, none⟩ u) v l :=
  Kd.R_mono (Kd.R_far (Kd.R_tight rfl h) (p := ⟨g, i, none⟩) (fun k hk hkg => hn (by rw [← hk, hkg])) u) (fun _ _ => trivial)
/-- One field laid. -/
theorem MkSt.fld {p' : Pk} (h : MkSt w0 w g N p vo vd) (i : Nat) (v : Value) (e : (pkC p vo vd).setIfInBounds i v = pkC p' vo vd) (eo : p'.opts = p.opts) (ed : p'.data = p.data) : MkSt w0 (w.setCell ⟨g, i, none⟩ v) g N p' vo vd := by
  have hh := h.hg
  have f : ∀ k, k ≠ g → (w.setCell ⟨g, i, none⟩ v).heap[k]? = w.heap[k]? := fun k hk => Below.heap_setCell w ⟨g, i, none⟩ v k hk
  refine ⟨h.below.setCell (p := ⟨g, i, none⟩) (by show w0.heap.size ≤ g; omega) _, (f _ (by omega)).trans h.zero, (f _ (by omega)).trans h.arr, ?_, h.hg, by rw [eo]; exact RB_far h.ro h.no i, by rw [ed]; exact RB_far h.rd h.nd i, h.no, h.nd, h.ne⟩
  rw [set_blk h.blk, e]
/-- Data, or options, that have grown, laid. -/
theorem MkSt.data {v : Value} {l : List Int} (h : MkSt w0 w g N p vo vd) (hg : w.grownBy w1 vd.ownBlock) (hr : RB (w0.heap.size + 2) w1 v l) (hb : Below w0.heap.size w0 w1) (ha : v.ownBlock = vd.ownBlock ∨ ∃ b, v.ownBlock = some b ∧ w.heap.size ≤ b) :
    MkSt w0 (w1.setCell ⟨g, 12, none⟩ v) g N { p with data := l } vo v := by
  have hh := h.hg
  have f : ∀ k, k ≠ g → (w1.setCell ⟨g, 12, none⟩ v).heap[k]? = w1.heap[k]? := fun k hk => Below.heap_setCell w1 ⟨g, 12, none⟩ v k hk
  have b2 := Kd.R_base h.rd
  have lz := blk_lt h.zero
  have la := blk_lt h.arr
  have lg := blk_lt h.blk
  have e1 : some w0.heap.size ≠ vd.ownBlock := fun e => by have := b2 _ e.symm; omega
  have e2 : some (w0.heap.size + 1) ≠ vd.ownBlock := fun e => by have := b2 _ e.symm; omega
  have hv : v.ownBlock ≠ some g := by
    rcases ha with e | ⟨b, e, hb⟩
    · rw [e]; exact h.nd
    · rw [e]; intro x; injection x with x; omega
  have nn : ∀ k, vo.ownBlock = some k → v.ownBlock ≠ some k := by
    intro k hk
    rcases ha with e | ⟨b, e, hb⟩
    · rw [e]; exact h.ne k hk
    · rw [e]; intro x; injection x with x; have := Kd.R_lt h.ro k hk; omega
  have ro1 : RB (w0.heap.size + 2) w1 vo p.opts := Kd.R_mono (Kd.R_grown (Kd.R_tight rfl h.ro) hg (fun k hk => by rw [hk]; exact fun e => h.ne k hk.symm (by rw [← e, hk]))) (fun _ _ => trivial)
  refine ⟨hb.setCell (p := ⟨g, 12, none⟩) (by show w0.heap.size ≤ g; omega) _, (f _ (by omega)).trans ((hg.block _ lz e1).trans h.zero), (f _ (by omega)).trans ((hg.block _ la e2).trans h.arr), ?_, h.hg, RB_far ro1 h.no 12, RB_far hr hv 12, h.no, hv, nn⟩
  rw [set_blk ((hg.block _ lg (fun e => h.nd e.symm)).trans h.blk)]
  rfl
theorem MkSt.opts {v : Value} {l : List Int} (h : MkSt w0 w g N p vo vd) (hg : w.grownBy w1 vo.ownBlock) (hr : RB (w0.heap.size + 2) w1 v l) (hb : Below w0.heap.size w0 w1) (ha : v.ownBlock = vo.ownBlock ∨ ∃ b, v.ownBlock = some b ∧ w.heap.size ≤ b) :
    MkSt w0 (w1.setCell ⟨g, 11, none⟩ v) g N { p with opts := l } v vd := by
  have hh := h.hg
  have f : ∀ k, k ≠ g → (w1.setCell ⟨g, 11, none⟩ v).heap[k]? = w1.heap[k]? := fun k hk => Below.heap_setCell w1 ⟨g, 11, none⟩ v k hk
  have b2 := Kd.R_base h.ro
  have lz := blk_lt h.zero
  have la := blk_lt h.arr
  have lg := blk_lt h.blk
  have e1 : some w0.heap.size ≠ vo.ownBlock := fun e => by have := b2 _ e.symm; omega
  have e2 : some (w0.heap.size + 1) ≠ vo.ownBlock := fun e => by have := b2 _ e.symm; omega
  have hv : v.ownBlock ≠ some g := by
    rcases ha with e | ⟨b, e, hb⟩
    · rw [e]; exact h.no
    · rw [e]; intro x; injection x with x; omega
  have nn : ∀ k, v.ownBlock = some k → vd.ownBlock ≠ some k := by
    intro k hk hd
    rcases ha with e | ⟨b, e, hb⟩
    · rw [e] at hk; exact h.ne k hk hd
    · rw [e] at hk; injection hk with x; have := Kd.R_lt h.rd k hd; omega
  have rd1 : RB (w0.heap.size + 2) w1 vd p.data := Kd.R_mono (Kd.R_grown (Kd.R_tight rfl h.rd) hg (fun k hk => by rw [hk]; exact fun e => h.ne k (by rw [← e, hk]) hk.symm)) (fun _ _ => trivial)
  refine ⟨hb.setCell (p := ⟨g, 11, none⟩) (by show w0.heap.size ≤ g; omega) _, (f _ (by omega)).trans ((hg.block _ lz e1).trans h.zero), (f _ (by omega)).trans ((hg.block _ la e2).trans h.arr), ?_, h.hg, RB_far hr hv 11, RB_far rd1 h.nd 11, hv, h.nd, nn⟩
  rw [set_blk ((hg.block _ lg (fun e => h.no e.symm)).trans h.blk)]
  rfl
/-- The packet laid at first. -/
theorem MkSt.first {wc : World} {pz : Pk} {A : Option Addr} {m c : Nat} (hB0 : Below w0.heap.size w0 wc) (hz : wc.heap[w0.heap.size]? = some (.cells zero13 39 (0, 0))) (ha : Arr wc (w0.heap.size + 1) N) (hq : Below (w0.heap.size + 2) wc w) (hg : w0.heap.size + 2 ≤ g)
    (hb : w.heap[g]? = some (.cells zero13 39 (0, 0))) (hr : RB (w0.heap.size + 2) w (.slice A m c) pz.data) (hn : (Value.slice A m c).ownBlock ≠ some g) (ho : pz.opts = []) {v0 v1 v2 v3 v4 v5 v6 v7 v8 v9 v10 : Value}
    (e : pkC pz (.slice none 0 0) (.slice A m c) = #[v0, v1, v2, v3, v4, v5, v6, v7, v8, v9, v10, .slice none 0 0, .slice A m c]) : MkSt w0 (lay13 w g v0 v1 v2 v3 v4 v5 v6 v7 v8 v9 v10 (.slice none 0 0) (.slice A m c)) g N pz (.slice none 0 0) (.slice A m c) := by
  have f : ∀ k, k ≠ g → (lay13 w g v0 v1 v2 v3 v4 v5 v6 v7 v8 v9 v10 (.slice none 0 0) (.slice A m c)).heap[k]? = w.heap[k]? := fun k hk => lay13_far hk ..
  have b1 : Below w0.heap.size w0 w := hB0.trans (hq.mono (by omega))
  refine ⟨lay13_below b1 (by omega) .., (f _ (by omega)).trans ((hq.block _ (by omega)).trans hz), (f _ (by omega)).trans ((hq.block _ (by omega)).trans ha), ?_, hg, by rw [ho]; exact Kd.R_nil _ _ _ _ _, ?_, by simp [Value.ownBlock], hn, by intro k hk; simp [Value.ownBlock] at hk⟩
  · rw [lay13_blk hb rfl, ← e]
  · unfold lay13
    exact RB_far (RB_far (RB_far (RB_far (RB_far (RB_far (RB_far (RB_far (RB_far (RB_far (RB_far (RB_far (RB_far hr hn 0) hn 1) hn 2) hn 3) hn 4) hn 5) hn 6) hn 7) hn 8) hn 9) hn 10) hn 11) hn 12
theorem a8 {w : World} {g : Nat} {n0 n1 n2 n3 n4 n5 n6 n7 : Int} (h : Arr w g [n0, n1, n2, n3, n4, n5, n6, n7]) :
    w.cell? ⟨g, 0, none⟩ = some (.int .i64 n0) ∧ w.cell? ⟨g, 1, none⟩ = some (.int .i64 n1) ∧ w.cell? ⟨g, 2, none⟩ = some (.int .i64 n2) ∧ w.cell? ⟨g, 3, none⟩ = some (.int .i64 n3) ∧ w.cell? ⟨g, 4, none⟩ = some (.int .i64 n4) ∧ w.cell? ⟨g, 5, none⟩ = some (.int .i64 n5) ∧ w.cell? ⟨g, 6, none⟩ = some (.int .i64 n6) ∧ w.cell? ⟨g, 7, none⟩ = some (.int .i64 n7) :=
  ⟨arr_cell h 0 (by simp), arr_cell h 1 (by simp), arr_cell h 2 (by simp), arr_cell h 3 (by simp), arr_cell h 4 (by simp), arr_cell h 5 (by simp), arr_cell h 6 (by simp), arr_cell h 7 (by simp)⟩
theorem eight : ∀ {L : List Int}, L.length = 8 → ∃ n0 n1 n2 n3 n4 n5 n6 n7, L = [n0, n1, n2, n3, n4, n5, n6, n7]
  | [a, b, c, d, e, f, g, h], _ => ⟨a, b, c, d, e, f, g, h, rfl⟩
theorem ne_new {v : Option Nat} {g n : Nat} (hat : ∃ b, v = some b ∧ n ≤ b) (h : g < n) : v ≠ some g := by
  rintro rfl
  obtain ⟨b, e, hb⟩ := hat
  injection e with e
  omega
theorem ne_app {u v : Option Nat} {g n : Nat} (hne : v ≠ some g) (hat : u = v ∨ ∃ b, u = some b ∧ n ≤ b) (h : g < n) : u ≠ some g := by
  rcases hat with rfl | hat
  · exact hne
  · exact ne_new hat h
theorem results_c {fn : Func} {p : Tmp} {ty : TypeId} (h : fn.results = #[.cell p ty]) (tmps : Array Value) (P : Program) (w : World) :
    (results fn tmps).run P w = ((asAddr (tmps.getD p undef)).run P w).andThen fun a w₁ => (loadVar ty a).run P w₁ := by
  simp only [results, h]
  simp [Sem.run_bind, Result.andThen]
/-- What stands behind Make's call. -/
def Made (w : World) (p : Pk) (e : Ending) (w' : World) : Prop :=
  ∃ vo vd : Value, e = .returned (pkV p vo vd) ∧ RB w.heap.size w' vo p.opts ∧ RB w.heap.size w' vd p.data ∧ (∀ k, vo.ownBlock = some k → vd.ownBlock ≠ some k) ∧ Below w.heap.size w w'
theorem made_of {W : World} (h : MkSt w0 w g N p vo vd) (hg : g ≠ w0.heap.size) {v0 v1 v2 v3 v4 v5 v6 v7 v8 v9 v10 : Value} (e : pkV p vo vd = .agg #[v0, v1, v2, v3, v4, v5, v6, v7, v8, v9, v10, vo, vd]) (hW : W = lay13 w w0.heap.size v0 v1 v2 v3 v4 v5 v6 v7 v8 v9 v10 vo vd) :
    Made w0 p (.returned (.agg #[v0, v1, v2, v3, v4, v5, v6, v7, v8, v9, v10, vo, vd])) W := by
  subst hW
  have b1 := Kd.R_base h.ro
  have b2 := Kd.R_base h.rd
  refine ⟨vo, vd, by rw [e], RB_move h.ro (by omega) (fun k hk _ => lay13_far (by omega) ..), RB_move h.rd (by omega) (fun k hk _ => lay13_far (by omega) ..), h.ne, lay13_below h.below (Nat.le_refl _) ..⟩
theorem make_all {A B : Option Addr} {c d : Nat} {ns l : List Int} {w : World} {kind q : Int} (hk : kind % 3 = q) (hq : q = 0 ∨ q = 1 ∨ q = 2) (hn : Kd.C (Kd.int .i64) w A ns.length ns) (hnc : ns.length ≤ c) (hnl : ns.length ≤ 140737488351232) (hr : Kd.C (Kd.int .u8) w B l.length l) (hc : l.length ≤ d) (hl : l.length ≤ 140737488351232) (hb : Bytes l) :
    Calls Try.prog 10 #[.int .i64 kind, .slice A ns.length c, .slice B l.length d] w (Made w (makeP kind ns l)) := by
  have HQ3 := am_ hq
  have hq0 : 0 ≤ q := by omega
  have hq2 : q ≤ 2 := by omega
  clear hq
  have HN := am_ hn
  have HNC := am_ hnc
  have HNL := am_ hnl
  have HR := am_ hr
  have HC := am_ hc
  have HL := am_ hl
  have HY := am_ hb
  obtain ⟨m, hm⟩ : ∃ m, min l.length 200 = m := ⟨_, rfl⟩
  have HM0 := am_ hm
  have HML := am_ (show m ≤ l.length from by omega)
  have hmn : (if (200 : Int) < (l.length : Int) then (200 : Int) else (l.length : Int)) = (m : Int) := by split <;> omega
  have hmn2 : min (l.length : Int) 200 = (m : Int) := by omega
  obtain ⟨hcutm, hCm⟩ := cut_to (A := B) (c := d) (l := l) m (jz := (m : Int)) rfl HML.out rfl HC.out
  have HCt := am_ (fun W (h : Below w.heap.size w W) => hCm W (Kd.C_below HR.out h))
  have G3 := am_ (fun W => (by have := within_calls kind (n := 3) (by omega) (by omega) W; rw [hk] at this; exact this : Calls Try.prog 32 #[.int .i64 kind, .int .i64 3] W fun e w' => e = .returned (.int .i64 q) ∧ Drawn0 W w'))
  clear hn hnc hnl hr hc hl hb hm hCm
  have HKIND := am_ hk
  clear hk
  go_enter Try.func10, Try.ntmps10
  go_upto_region 2 with fail
  have n1 := new_blk w (.cells zero13 39)
  have n2 := new_blk (w.alloc (.cells zero13 39)) (.cells #[.int .i64 0, .int .i64 0, .int .i64 0, .int .i64 0, .int .i64 0, .int .i64 0, .int .i64 0, .int .i64 0] 83)
  have hsz : (w.alloc (.cells zero13 39)).heap.size = w.heap.size + 1 := by simp
  have n3 := (Below.heap_alloc (w.alloc (.cells zero13 39)) (.cells #[.int .i64 0, .int .i64 0, .int .i64 0, .int .i64 0, .int .i64 0, .int .i64 0, .int .i64 0, .int .i64 0] 83) w.heap.size (by rw [hsz]; omega)).trans n1
  rw [hsz] at n2
  have HB0 := am_ (((Below.refl w.heap.size w).alloc (Nat.le_refl _) (.cells zero13 39)).alloc (by simp) (.cells #[.int .i64 0, .int .i64 0, .int .i64 0, .int .i64 0, .int .i64 0, .int .i64 0, .int .i64 0, .int .i64 0] 83))
  change Code.wp _ _ _ _ ((w.alloc (.cells zero13 39)).alloc (.cells #[.int .i64 0, .int .i64 0, .int .i64 0, .int .i64 0, .int .i64 0, .int .i64 0, .int .i64 0, .int .i64 0] 83))
  generalize (w.alloc (.cells zero13 39)).alloc (.cells #[.int .i64 0, .int .i64 0, .int .i64 0, .int .i64 0, .int .i64 0, .int .i64 0, .int .i64 0, .int .i64 0] 83) = w0 at n2 n3 HB0 ⊢
  have HG6 := am_ n3
  have HG7 : Aside0 (Arr w0 (w.heap.size + 1) (arrL ns 0)) := am_ n2
  clear n1 n2 n3 hsz
  go_upto_block 0 with fail
  go_cut [] (fun wx => Aside (Arr wx (w.heap.size + 1) (arrL ns (min 8 ns.length))) ∧ Aside (wx.heap[w.heap.size]? = some (.cells zero13 39 (0, 0))) ∧ Aside (Below w.heap.size w wx))
  case first =>
    go_wp2
    go_loopg [8] (min 8 ns.length) (fun kq v8 w' => ∃ k : Nat, v8 = .int .i64 (k : Int) ∧ Aside (k + kq = min 8 ns.length) ∧ Arr w' (w.heap.size + 1) (arrL ns k) ∧ Aside (w'.heap[w.heap.size]? = some (.cells zero13 39 (0, 0))) ∧ Below w.heap.size w w')
    case atStart =>
      exact ⟨0, rfl, (by show _ = _; omega), HG7.out, HG6.out, HB0.out⟩
    case round =>
      obtain ⟨k, rfl, hk, ha, h6, hb⟩ := hrel
      have HK := am_ hk.out
      have HA := am_ ha
      have H6 := am_ h6.out
      have HB := am_ hb
      clear hk ha h6 hb HG6 HG7 HB0
      by_cases hlt : k < min 8 ns.length
      · have hk8 : (k : Int) < 8 := by omega
        have hkn : k < ns.length := by omega
        have d1 : decide ((k : Int) < 8) = true := decide_eq_true hk8
        have d2 : decide (k < ns.length) = true := decide_eq_true hkn
        have d3 : decide ((k : Int) < (ns.length : Int)) = true := decide_eq_true (by omega)
        have HLT := am_ hlt
        obtain ⟨ad, ead, hx⟩ := Kd.at_int (HN.out) (k : Int) (by omega) (by omega)
        rw [rd_nat, Int.toNat_natCast] at hx
        subst ead
        have hx2 := (HB.out.cell (World.block_lt_of_cell? w _ hx)).trans hx
        obtain ⟨x, hxx⟩ : ∃ x, ns.getD k 0 = x := ⟨_, rfl⟩
        rw [hxx] at hx2
        have HXX := am_ hxx
        have s1 := arr_frozen HA.out k
        have s2 := arr_cell HA.out k (by rw [arrL_len (by omega) (by omega)]; omega)
        have i2 : k < 8 := by omega
        clear hlt hx hxx
        have G22 := am_ (fun W => within_calls x (n := 1099511627776) (by omega) (by omega) W)
        have HGK := am_ (show 0 < gk from by have := HK.out; have := HLT.out; omega)
        go_wp2_with (first | (go_at_call 32; (with_reducible refine (G22.out _).mono ?_); rintro e w3 ⟨rfl, ⟨⟨nq, rfl⟩⟩⟩))
        go_roundg (gk - 1)
        case measure => have := HGK.out; omega
        case rel => exact ⟨k + 1, (by first | rfl | go_num), (by show _ = _; have := HGK.out; have := HK.out; omega), (by rw [← arrL_set (by omega) hkn, HXX.out]; exact arr_set (w := _) (by exact HA.out) k _), (by show _ = _; rw [Below.heap_setCell _ _ _ _ (by show w.heap.size ≠ w.heap.size + 1; omega)]; exact H6.out), (bd HB.out _).setCell (p := ⟨w.heap.size + 1, k, none⟩) (by show w.heap.size ≤ w.heap.size + 1; omega) _⟩
      · have HKK := am_ (show k = min 8 ns.length by have := HK.out; omega)
        by_cases h8 : k < 8
        · have d1 : decide ((k : Int) < 8) = true := decide_eq_true (by omega)
          have d2 : decide (k < ns.length) = false := decide_eq_false (by have := HKK.out; omega)
          have d3 : decide ((k : Int) < (ns.length : Int)) = false := decide_eq_false (by have := HKK.out; omega)
          clear hlt h8
          go_wp2_with fail
          go_meet
          exact ⟨(by rw [← HKK.out]; exact HA.out), H6.out, HB.out⟩
        · have d1 : decide ((k : Int) < 8) = false := decide_eq_false (by omega)
          clear hlt h8
          go_wp2_with fail
          go_meet
          exact ⟨(by rw [← HKK.out]; exact HA.out), H6.out, HB.out⟩
  case rest =>
    obtain ⟨ha, hz, hb⟩ := hcut
    obtain ⟨n0, n1, n2, n3, n4, n5, n6, n7, hN⟩ := eight (arrL_len (ns := ns) (k := min 8 ns.length) (by omega) (by omega))
    have bnd := fun i => arrL_b (ns := ns) (k := min 8 ns.length) (i := i)
    rw [hN] at bnd
    have HN8 := am_ hN
    have HA := am_ (show Arr wc (w.heap.size + 1) [n0, n1, n2, n3, n4, n5, n6, n7] from by rw [← hN]; exact ha.out)
    have HZ := am_ hz.out
    have HB := am_ hb.out
    have b0 : 0 ≤ n0 ∧ n0 < 1099511627776 := bnd 0
    have b1 : 0 ≤ n1 ∧ n1 < 1099511627776 := bnd 1
    have b2 : 0 ≤ n2 ∧ n2 < 1099511627776 := bnd 2
    have b3 : 0 ≤ n3 ∧ n3 < 1099511627776 := bnd 3
    have b4 : 0 ≤ n4 ∧ n4 < 1099511627776 := bnd 4
    have b5 : 0 ≤ n5 ∧ n5 < 1099511627776 := bnd 5
    have b6 : 0 ≤ n6 ∧ n6 < 1099511627776 := bnd 6
    have b7 : 0 ≤ n7 ∧ n7 < 1099511627776 := bnd 7
    clear hN ha hz hb bnd HG6 HG7 HB0
    have HSZ2 := am_ (show w.heap.size + 2 ≤ wc.heap.size from blk_lt HA.out)
    have HCA := am_ (fun W (h : Below (w.heap.size + 2) wc W) => a8 (arr_below HA.out h (by omega)))
    have HBQ := am_ (fun W (h : Below (w.heap.size + 2) wc W) => (HB.out.trans (h.mono (by omega)) : Below w.heap.size w W))
    go_upto_region 6 with fail
    have hm0 : n0.tmod 254 = n0 % 254 := Int.tmod_eq_emod_of_nonneg b0.1
    have hm1 : n1.tmod 4294967296 = n1 % 4294967296 := Int.tmod_eq_emod_of_nonneg b1.1
    have hm2 : n2.tmod 4294967296 = n2 % 4294967296 := Int.tmod_eq_emod_of_nonneg b2.1
    have hm3 : Go.IntKind.i64.wrap (2 + n0 % 254) = 2 + n0 % 254 := wrap_i64w _ (by omega) (by omega)
    have hm4 : Go.IntKind.i64.wrap (1 + q) = (1 + q) := wrap_i64w _ (by omega) (by omega)
    have HQc := am_ ((Below.refl (w.heap.size + 2) wc).drew)
    refine start_ (n := 23) (S := fun w' => w'.cell? ⟨w.heap.size + 1, 0, none⟩ = some (.int .i64 n0) ∧ w'.cell? ⟨w.heap.size + 1, 1, none⟩ = some (.int .i64 n1) ∧ w'.cell? ⟨w.heap.size + 1, 2, none⟩ = some (.int .i64 n2)) (ds := [22]) #[fF,fF,fF,fF,fF,fF,fF,fF,fF,fF,fF,fF,fF,fF,fF,fF,fF,fF,fF,fF,fF,fF,fF] (by kernel_rfl) rfl rfl ⟨(HCA.out _ HQc.out).1, (HCA.out _ HQc.out).2.1, (HCA.out _ HQc.out).2.2.1⟩ (fun hHeld => ?_)
    refine p_ 0 29 ?_
    refine p_ 3 32 ?_
    refine p_ 7 36 ?_
    refine p_ 10 39 ?_
    refine p_ 14 43 ?_
    refine p_ 15 44 ?_
    refine p_ 16 45 ?_
    refine pure_ (i := 17) (N := some 46) (v := ?_) (a' := ?_) #[tT,fF,fF,tT,fF,fF,fF,tT,fF,fF,tT,fF,fF,fF,tT,tT,tT,tT,fF,fF,fF,fF,fF] rfl rfl (by kernel_rfl) (fun _ _ _ h => h) (Or.inl ⟨by rfl, ?_⟩) ?_ ?_
    rotate_left; · intro w'; go_simp; with_reducible rfl
    rotate_left; · simp only [Act.put, q_a, q_0, q_s, i64_w, i32_w]; rfl
    refine p_ 18 47 ?_
    refine t_ 4 33 hHeld ?_
    refine p_ 5 34 ?_
    refine p_ 6 35 ?_
    refine t_ 8 37 hHeld ?_
    refine p_ 9 38 ?_
    refine t_ 11 40 hHeld ?_
    refine p_ 12 41 ?_
    refine join_ (σ := Nat × Value × Option Addr × Nat) 1 #[tT,tT,tT,tT,tT,tT,tT,tT,tT,tT,tT,tT,tT,tT,tT,tT,tT,tT,tT,tT,tT,tT,fF] (fun s => [(30, .int .i64 q), (31, .int .i64 (1 + q)), (42, s.2.1), (48, .slice s.2.2.1 m s.2.2.2), (49, .agg #[.int .i64 (1 + q), .int .i64 (2 + n0 % 254), .int .i64 0, .int .i64 (n1 % 4294967296), .int .i64 (n2 % 4294967296), .int .i64 0, .int .i64 0, .int .i64 0, .int .i64 0, .bool false, .int .i64 0, .slice none 0 0, .slice s.2.2.1 m s.2.2.2]), (9, .pointer (some ⟨s.1, 0, none⟩))]) (fun s w' => Below (w.heap.size + 2) wc w' ∧ RB (w.heap.size + 2) w' (Value.slice s.2.2.1 m s.2.2.2) (l.take m) ∧ w'.heap[s.1]? = some (.cells zero13 39 (0, 0)) ∧ w.heap.size + 2 ≤ s.1 ∧ (Value.slice s.2.2.1 m s.2.2.2).ownBlock ≠ some s.1) ?_ ?_
    rotate_left
    · intro hJ1_13_19_21
      refine join_ (σ := Value × Option Addr × Nat) 2 #[tT,tT,tT,tT,tT,tT,tT,tT,tT,tT,tT,tT,tT,tT,tT,tT,tT,tT,tT,tT,tT,fF,fF] (fun s => [(30, .int .i64 q), (31, .int .i64 (1 + q)), (42, s.1), (48, .slice s.2.1 m s.2.2), (49, .agg #[.int .i64 (1 + q), .int .i64 (2 + n0 % 254), .int .i64 0, .int .i64 (n1 % 4294967296), .int .i64 (n2 % 4294967296), .int .i64 0, .int .i64 0, .int .i64 0, .int .i64 0, .bool false, .int .i64 0, .slice none 0 0, .slice s.2.1 m s.2.2])]) (fun s w' => Below (w.heap.size + 2) wc w' ∧ RB (w.heap.size + 2) w' (Value.slice s.2.1 m s.2.2) (l.take m)) ?_ ?_
      rotate_left
      · intro hJ1_13_19
        refine join_ (σ := Nat × Value) 3 #[tT,tT,tT,tT,tT,tT,tT,tT,tT,tT,tT,tT,tT,tT,tT,tT,tT,tT,tT,fF,fF,tT,fF] (fun s => [(30, .int .i64 q), (31, .int .i64 (1 + q)), (42, s.2), (9, .pointer (some ⟨s.1, 0, none⟩))]) (fun s w' => Below (w.heap.size + 2) wc w' ∧ RB (w.heap.size + 2) w' (s.2 : Value) [] ∧ w'.heap[s.1]? = some (.cells zero13 39 (0, 0)) ∧ w.heap.size + 2 ≤ s.1 ∧ (s.2 : Value).ownBlock ≠ some s.1) ?_ ?_
        rotate_left
        · intro hJ1_13_21
          refine join_ (σ := Value) 4 #[tT,tT,tT,tT,tT,tT,tT,tT,tT,tT,tT,tT,tT,tT,tT,tT,tT,tT,tT,fF,fF,fF,fF] (fun s => [(30, .int .i64 q), (31, .int .i64 (1 + q)), (42, s)]) (fun s w' => Below (w.heap.size + 2) wc w' ∧ RB (w.heap.size + 2) w' (s : Value) []) ?_ ?_
          rotate_left
          · intro hJ1_13
            refine join_ (σ := Nat) 4 #[tT,tT,tT,tT,tT,tT,tT,tT,tT,tT,tT,tT,tT,fF,tT,tT,tT,tT,tT,fF,fF,tT,fF] (fun s => [(30, .int .i64 q), (31, .int .i64 (1 + q)), (9, .pointer (some ⟨s, 0, none⟩))]) (fun s w' => Below (w.heap.size + 2) wc w' ∧ w'.heap[s]? = some (.cells zero13 39 (0, 0)) ∧ w.heap.size + 2 ≤ s) ?_ ?_
            rotate_left
            · intro hJ1_21
              refine join_ (σ := Nat × Value) 5 #[tT,fF,fF,tT,tT,tT,tT,tT,tT,tT,tT,tT,tT,tT,tT,tT,tT,tT,tT,fF,fF,tT,fF] (fun s => [(42, s.2), (9, .pointer (some ⟨s.1, 0, none⟩))]) (fun s w' => Below (w.heap.size + 2) wc w' ∧ RB (w.heap.size + 2) w' (s.2 : Value) [] ∧ w'.heap[s.1]? = some (.cells zero13 39 (0, 0)) ∧ w.heap.size + 2 ≤ s.1 ∧ (s.2 : Value).ownBlock ≠ some s.1) ?_ ?_
              rotate_left
              · intro hJ13_21
                refine join_ (σ := Unit) 5 #[tT,tT,tT,tT,tT,tT,tT,tT,tT,tT,tT,tT,tT,fF,tT,tT,tT,tT,tT,fF,fF,fF,fF] (fun s => [(30, .int .i64 q), (31, .int .i64 (1 + q))]) (fun s w' => Below (w.heap.size + 2) wc w') ?_ ?_
                rotate_left
                · intro hJ1
                  refine join_ (σ := Value) 6 #[tT,fF,fF,tT,tT,tT,tT,tT,tT,tT,tT,tT,tT,tT,tT,tT,tT,tT,tT,fF,fF,fF,fF] (fun s => [(42, s)]) (fun s w' => Below (w.heap.size + 2) wc w' ∧ RB (w.heap.size + 2) w' (s : Value) []) ?_ ?_
                  rotate_left
                  · intro hJ13
                    refine join_ (σ := Nat) 6 #[tT,fF,fF,tT,tT,tT,tT,tT,tT,tT,tT,tT,tT,fF,tT,tT,tT,tT,tT,fF,fF,tT,fF] (fun s => [(9, .pointer (some ⟨s, 0, none⟩))]) (fun s w' => Below (w.heap.size + 2) wc w' ∧ w'.heap[s]? = some (.cells zero13 39 (0, 0)) ∧ w.heap.size + 2 ≤ s) ?_ ?_
                    rotate_left
                    · intro hJ21
                      refine three_ (i := 1) (j := 13) (k := 21) (Ni := some 30) (Nj := some 42) (Nk := some 9) #[tT,tT,fF,tT,tT,tT,tT,tT,tT,tT,tT,tT,tT,fF,tT,tT,tT,tT,tT,fF,fF,fF,fF] #[tT,fF,fF,tT,tT,tT,tT,tT,tT,tT,tT,tT,tT,tT,tT,tT,tT,tT,tT,fF,fF,fF,fF] #[tT,fF,fF,tT,tT,tT,tT,tT,tT,tT,tT,tT,tT,fF,tT,tT,tT,tT,tT,fF,fF,tT,fF] rfl rfl rfl rfl rfl rfl (by kernel_rfl) (by decide) (by decide) (by decide) (fun K hK => ?_) (fun K hK => ?_) (fun K hK => ?_)
                      · skip
                        refine g_ Try.func32 #[.int .i64 kind, .int .i64 3] ?_
                        with_reducible refine (G3.out _).mono ?_
                        rintro e w3 ⟨rfl, ⟨⟨nq, rfl⟩⟩⟩
                        refine ⟨_, rfl, ?_⟩
                        have n1_ := am_ (bd HQc.out nq)
                        clear HQc
                        have HQc := n1_
                        clear n1_
                        refine hK.out _ _ ⟨(HCA.out _ HQc.out).1, (HCA.out _ HQc.out).2.1, (HCA.out _ HQc.out).2.2.1⟩ (fun hHeld => ?_)
                        clear hK K
                        refine n_ 30 ?_
                        refine p_ 2 31 ?_
                        exact norm_ (by first | (simp only [putAll, Act.put, q_a, q_0, q_s]; done) | (simp only [putAll, Act.put, q_a, q_0, q_s]; rfl)) (hJ1 () _ HQc.out)
                      · skip
                        refine Kd.R_lit_step (Kd.int .u8) (w0 := wc) (w.heap.size + 2) 5 ?hg (N := 42) ?hd (xs := ([] : List Int)) (inner := []) (ok := fun _ => True) (okp := fun _ => True) ?hr ?hp (fun _ hk => hk) trivial HQc.out (Nat.le_trans HSZ2.out HQc.out.size) (by simp) ?_; (case hd => rfl); (case hg => rfl); (case hr => first | (go_simp; done) | (go_simp; rfl)); (case hp => exact (Reps.none _ _))
                        intro v w5 ho hb hg hat
                        clear HQc
                        have HQc := am_ hb
                        have HO := am_ ho
                        clear ho hb hg hat
                        refine hK.out _ _ ⟨(HCA.out _ HQc.out).1, (HCA.out _ HQc.out).2.1, (HCA.out _ HQc.out).2.2.1⟩ (fun hHeld => ?_)
                        clear hK K
                        refine n_ 42 ?_
                        exact norm_ (by first | (simp only [putAll, Act.put, q_a, q_0, q_s]; done) | (simp only [putAll, Act.put, q_a, q_0, q_s]; rfl)) (hJ13 (v) _ ⟨HQc.out, HO.out⟩)
                      · skip
                        refine value_ (w1 := ?_) (v := ?_) (by rfl) rfl ?_ ?_
                        rotate_left 2
                        · go_simp
                          constructor
                          · rfl
                          · rfl
                        have HGB := am_ (new_blk wc.drew (.cells zero13 39))
                        have HBG := am_ (Nat.le_trans HSZ2.out HQc.out.size)
                        have n1_ := am_ (HQc.out.alloc HBG.out (.cells zero13 39))
                        clear HQc
                        have HQc := n1_
                        clear n1_
                        refine hK.out _ _ ⟨(HCA.out _ HQc.out).1, (HCA.out _ HQc.out).2.1, (HCA.out _ HQc.out).2.2.1⟩ (fun hHeld => ?_)
                        clear hK K
                        refine n_ 9 ?_
                        exact norm_ (by first | (simp only [putAll, Act.put, q_a, q_0, q_s]; done) | (simp only [putAll, Act.put, q_a, q_0, q_s]; rfl)) (hJ21 (wc.drew.heap.size) _ ⟨HQc.out, HGB.out, HBG.out⟩)
                    · skip
                      rintro g w4 ⟨xHQc, xHGB, xHBG⟩
                      clear HQc
                      have HQc := am_ xHQc
                      have HGB := am_ xHGB
                      have HBG := am_ xHBG
                      clear xHQc xHGB xHBG
                      have hHeld : w4.cell? ⟨w.heap.size + 1, 0, none⟩ = some (.int .i64 n0) ∧ w4.cell? ⟨w.heap.size + 1, 1, none⟩ = some (.int .i64 n1) ∧ w4.cell? ⟨w.heap.size + 1, 2, none⟩ = some (.int .i64 n2) := ⟨(HCA.out _ HQc.out).1, (HCA.out _ HQc.out).2.1, (HCA.out _ HQc.out).2.2.1⟩
                      refine norm_ (a' := ?_) ?_ ?_
                      rotate_left; · simp only [putAll, Act.put, q_a, q_0, q_s]; rfl
                      refine two_ (i := 1) (j := 13) (Ni := some 30) (Nj := some 42) #[tT,tT,fF,tT,tT,tT,tT,tT,tT,tT,tT,tT,tT,fF,tT,tT,tT,tT,tT,fF,fF,tT,fF] #[tT,fF,fF,tT,tT,tT,tT,tT,tT,tT,tT,tT,tT,tT,tT,tT,tT,tT,tT,fF,fF,tT,fF] rfl rfl rfl rfl (by kernel_rfl) (by decide) (by decide) (fun K hK => ?_) (fun K hK => ?_)
                      · skip
                        refine g_ Try.func32 #[.int .i64 kind, .int .i64 3] ?_
                        with_reducible refine (G3.out _).mono ?_
                        rintro e w3 ⟨rfl, ⟨⟨nq, rfl⟩⟩⟩
                        refine ⟨_, rfl, ?_⟩
                        have n1_ := am_ (bd HQc.out nq)
                        clear HQc
                        have HQc := n1_
                        clear n1_
                        refine hK.out _ _ ⟨(HCA.out _ HQc.out).1, (HCA.out _ HQc.out).2.1, (HCA.out _ HQc.out).2.2.1⟩ (fun hHeld => ?_)
                        clear hK K
                        refine n_ 30 ?_
                        refine p_ 2 31 ?_
                        exact norm_ (by first | (simp only [putAll, Act.put, q_a, q_0, q_s]; done) | (simp only [putAll, Act.put, q_a, q_0, q_s]; rfl)) (hJ1_21 (g) _ ⟨HQc.out, HGB.out, HBG.out⟩)
                      · skip
                        refine Kd.R_lit_step (Kd.int .u8) (w0 := wc) (w.heap.size + 2) 5 ?hg (N := 42) ?hd (xs := ([] : List Int)) (inner := []) (ok := fun _ => True) (okp := fun _ => True) ?hr ?hp (fun _ hk => hk) trivial HQc.out (Nat.le_trans HSZ2.out HQc.out.size) (by simp) ?_; (case hd => rfl); (case hg => rfl); (case hr => first | (go_simp; done) | (go_simp; rfl)); (case hp => exact (Reps.none _ _))
                        intro v w5 ho hb hg hat
                        clear HQc
                        have HQc := am_ hb
                        have HO := am_ ho
                        have HNE := am_ (ne_new hat (blk_lt HGB.out))
                        have n1_ := am_ (((below_of_none hg).block g (blk_lt HGB.out)).trans HGB.out)
                        clear HGB
                        have HGB := n1_
                        clear n1_
                        clear ho hb hg hat
                        refine hK.out _ _ ⟨(HCA.out _ HQc.out).1, (HCA.out _ HQc.out).2.1, (HCA.out _ HQc.out).2.2.1⟩ (fun hHeld => ?_)
                        clear hK K
                        refine n_ 42 ?_
                        exact norm_ (by first | (simp only [putAll, Act.put, q_a, q_0, q_s]; done) | (simp only [putAll, Act.put, q_a, q_0, q_s]; rfl)) (hJ13_21 (g, v) _ ⟨HQc.out, HO.out, HGB.out, HBG.out, HNE.out⟩)
                  · skip
                    rintro v w4 ⟨xHQc, xHO⟩
                    clear HQc
                    have HQc := am_ xHQc
                    have HO := am_ xHO
                    clear xHQc xHO
                    have hHeld : w4.cell? ⟨w.heap.size + 1, 0, none⟩ = some (.int .i64 n0) ∧ w4.cell? ⟨w.heap.size + 1, 1, none⟩ = some (.int .i64 n1) ∧ w4.cell? ⟨w.heap.size + 1, 2, none⟩ = some (.int .i64 n2) := ⟨(HCA.out _ HQc.out).1, (HCA.out _ HQc.out).2.1, (HCA.out _ HQc.out).2.2.1⟩
                    refine norm_ (a' := ?_) ?_ ?_
                    rotate_left; · simp only [putAll, Act.put, q_a, q_0, q_s]; rfl
                    refine two_ (i := 1) (j := 21) (Ni := some 30) (Nj := some 9) #[tT,tT,fF,tT,tT,tT,tT,tT,tT,tT,tT,tT,tT,tT,tT,tT,tT,tT,tT,fF,fF,fF,fF] #[tT,fF,fF,tT,tT,tT,tT,tT,tT,tT,tT,tT,tT,tT,tT,tT,tT,tT,tT,fF,fF,tT,fF] rfl rfl rfl rfl (by kernel_rfl) (by decide) (by decide) (fun K hK => ?_) (fun K hK => ?_)
                    · skip
                      refine g_ Try.func32 #[.int .i64 kind, .int .i64 3] ?_
                      with_reducible refine (G3.out _).mono ?_
                      rintro e w3 ⟨rfl, ⟨⟨nq, rfl⟩⟩⟩
                      refine ⟨_, rfl, ?_⟩
                      have n1_ := am_ (bd HQc.out nq)
                      clear HQc
                      have HQc := n1_
                      clear n1_
                      have n1_ := am_ (Kd.R_drewN HO.out nq)
                      clear HO
                      have HO := n1_
                      clear n1_
                      refine hK.out _ _ ⟨(HCA.out _ HQc.out).1, (HCA.out _ HQc.out).2.1, (HCA.out _ HQc.out).2.2.1⟩ (fun hHeld => ?_)
                      clear hK K
                      refine n_ 30 ?_
                      refine p_ 2 31 ?_
                      exact norm_ (by first | (simp only [putAll, Act.put, q_a, q_0, q_s]; done) | (simp only [putAll, Act.put, q_a, q_0, q_s]; rfl)) (hJ1_13 (v) _ ⟨HQc.out, HO.out⟩)
                    · skip
                      refine value_ (w1 := ?_) (v := ?_) (by rfl) rfl ?_ ?_
                      rotate_left 2
                      · go_simp
                        constructor
                        · rfl
                        · rfl
                      have HGB := am_ (new_blk w4 (.cells zero13 39))
                      have HBG := am_ (Nat.le_trans HSZ2.out HQc.out.size)
                      have HNE := am_ (fun e => Nat.lt_irrefl _ (Kd.R_lt HO.out w4.heap.size e))
                      have n1_ := am_ (Kd.R_alloc HO.out (.cells zero13 39))
                      clear HO
                      have HO := n1_
                      clear n1_
                      have n1_ := am_ (HQc.out.alloc HBG.out (.cells zero13 39))
                      clear HQc
                      have HQc := n1_
                      clear n1_
                      refine hK.out _ _ ⟨(HCA.out _ HQc.out).1, (HCA.out _ HQc.out).2.1, (HCA.out _ HQc.out).2.2.1⟩ (fun hHeld => ?_)
                      clear hK K
                      refine n_ 9 ?_
                      exact norm_ (by first | (simp only [putAll, Act.put, q_a, q_0, q_s]; done) | (simp only [putAll, Act.put, q_a, q_0, q_s]; rfl)) (hJ13_21 (w4.heap.size, v) _ ⟨HQc.out, HO.out, HGB.out, HBG.out, HNE.out⟩)
                · skip
                  rintro _ w4 xHQc
                  clear HQc
                  have HQc := am_ xHQc
                  clear xHQc
                  have hHeld : w4.cell? ⟨w.heap.size + 1, 0, none⟩ = some (.int .i64 n0) ∧ w4.cell? ⟨w.heap.size + 1, 1, none⟩ = some (.int .i64 n1) ∧ w4.cell? ⟨w.heap.size + 1, 2, none⟩ = some (.int .i64 n2) := ⟨(HCA.out _ HQc.out).1, (HCA.out _ HQc.out).2.1, (HCA.out _ HQc.out).2.2.1⟩
                  refine norm_ (a' := ?_) ?_ ?_
                  rotate_left; · simp only [putAll, Act.put, q_a, q_0, q_s]; rfl
                  refine two_ (i := 13) (j := 21) (Ni := some 42) (Nj := some 9) #[tT,tT,tT,tT,tT,tT,tT,tT,tT,tT,tT,tT,tT,tT,tT,tT,tT,tT,tT,fF,fF,fF,fF] #[tT,tT,tT,tT,tT,tT,tT,tT,tT,tT,tT,tT,tT,fF,tT,tT,tT,tT,tT,fF,fF,tT,fF] rfl rfl rfl rfl (by kernel_rfl) (by decide) (by decide) (fun K hK => ?_) (fun K hK => ?_)
                  · skip
                    refine Kd.R_lit_step (Kd.int .u8) (w0 := wc) (w.heap.size + 2) 5 ?hg (N := 42) ?hd (xs := ([] : List Int)) (inner := []) (ok := fun _ => True) (okp := fun _ => True) ?hr ?hp (fun _ hk => hk) trivial HQc.out (Nat.le_trans HSZ2.out HQc.out.size) (by simp) ?_; (case hd => rfl); (case hg => rfl); (case hr => first | (go_simp; done) | (go_simp; rfl)); (case hp => exact (Reps.none _ _))
                    intro v w5 ho hb hg hat
                    clear HQc
                    have HQc := am_ hb
                    have HO := am_ ho
                    clear ho hb hg hat
                    refine hK.out _ _ ⟨(HCA.out _ HQc.out).1, (HCA.out _ HQc.out).2.1, (HCA.out _ HQc.out).2.2.1⟩ (fun hHeld => ?_)
                    clear hK K
                    refine n_ 42 ?_
                    exact norm_ (by first | (simp only [putAll, Act.put, q_a, q_0, q_s]; done) | (simp only [putAll, Act.put, q_a, q_0, q_s]; rfl)) (hJ1_13 (v) _ ⟨HQc.out, HO.out⟩)
                  · skip
                    refine value_ (w1 := ?_) (v := ?_) (by rfl) rfl ?_ ?_
                    rotate_left 2
                    · go_simp
                      constructor
                      · rfl
                      · rfl
                    have HGB := am_ (new_blk w4 (.cells zero13 39))
                    have HBG := am_ (Nat.le_trans HSZ2.out HQc.out.size)
                    have n1_ := am_ (HQc.out.alloc HBG.out (.cells zero13 39))
                    clear HQc
                    have HQc := n1_
                    clear n1_
                    refine hK.out _ _ ⟨(HCA.out _ HQc.out).1, (HCA.out _ HQc.out).2.1, (HCA.out _ HQc.out).2.2.1⟩ (fun hHeld => ?_)
                    clear hK K
                    refine n_ 9 ?_
                    exact norm_ (by first | (simp only [putAll, Act.put, q_a, q_0, q_s]; done) | (simp only [putAll, Act.put, q_a, q_0, q_s]; rfl)) (hJ1_21 (w4.heap.size) _ ⟨HQc.out, HGB.out, HBG.out⟩)
              · skip
                rintro ⟨g, v⟩ w4 ⟨xHQc, xHO, xHGB, xHBG, xHNE⟩
                clear HQc
                have HQc := am_ xHQc
                have HO := am_ xHO
                have HGB := am_ xHGB
                have HBG := am_ xHBG
                have HNE := am_ xHNE
                clear xHQc xHO xHGB xHBG xHNE
                dsimp only at HQc HO HGB HBG HNE
                have hHeld : w4.cell? ⟨w.heap.size + 1, 0, none⟩ = some (.int .i64 n0) ∧ w4.cell? ⟨w.heap.size + 1, 1, none⟩ = some (.int .i64 n1) ∧ w4.cell? ⟨w.heap.size + 1, 2, none⟩ = some (.int .i64 n2) := ⟨(HCA.out _ HQc.out).1, (HCA.out _ HQc.out).2.1, (HCA.out _ HQc.out).2.2.1⟩
                refine norm_ (a' := ?_) ?_ ?_
                rotate_left; · simp only [putAll, Act.put, q_a, q_0, q_s]; rfl
                refine o_ 1 (some 30) (fun K hK => ?_)
                refine g_ Try.func32 #[.int .i64 kind, .int .i64 3] ?_
                with_reducible refine (G3.out _).mono ?_
                rintro e w3 ⟨rfl, ⟨⟨nq, rfl⟩⟩⟩
                refine ⟨_, rfl, ?_⟩
                have n1_ := am_ (bd HQc.out nq)
                clear HQc
                have HQc := n1_
                clear n1_
                have n1_ := am_ (Kd.R_drewN HO.out nq)
                clear HO
                have HO := n1_
                clear n1_
                refine hK.out _ _ ⟨(HCA.out _ HQc.out).1, (HCA.out _ HQc.out).2.1, (HCA.out _ HQc.out).2.2.1⟩ (fun hHeld => ?_)
                clear hK K
                refine n_ 30 ?_
                refine p_ 2 31 ?_
                exact norm_ (by first | (simp only [putAll, Act.put, q_a, q_0, q_s]; done) | (simp only [putAll, Act.put, q_a, q_0, q_s]; rfl)) (hJ1_13_21 (g, v) _ ⟨HQc.out, HO.out, HGB.out, HBG.out, HNE.out⟩)
            · skip
              rintro g w4 ⟨xHQc, xHGB, xHBG⟩
              clear HQc
              have HQc := am_ xHQc
              have HGB := am_ xHGB
              have HBG := am_ xHBG
              clear xHQc xHGB xHBG
              have hHeld : w4.cell? ⟨w.heap.size + 1, 0, none⟩ = some (.int .i64 n0) ∧ w4.cell? ⟨w.heap.size + 1, 1, none⟩ = some (.int .i64 n1) ∧ w4.cell? ⟨w.heap.size + 1, 2, none⟩ = some (.int .i64 n2) := ⟨(HCA.out _ HQc.out).1, (HCA.out _ HQc.out).2.1, (HCA.out _ HQc.out).2.2.1⟩
              refine norm_ (a' := ?_) ?_ ?_
              rotate_left; · simp only [putAll, Act.put, q_a, q_0, q_s]; rfl
              refine o_ 13 (some 42) (fun K hK => ?_)
              refine Kd.R_lit_step (Kd.int .u8) (w0 := wc) (w.heap.size + 2) 5 ?hg (N := 42) ?hd (xs := ([] : List Int)) (inner := []) (ok := fun _ => True) (okp := fun _ => True) ?hr ?hp (fun _ hk => hk) trivial HQc.out (Nat.le_trans HSZ2.out HQc.out.size) (by simp) ?_; (case hd => rfl); (case hg => rfl); (case hr => first | (go_simp; done) | (go_simp; rfl)); (case hp => exact (Reps.none _ _))
              intro v w5 ho hb hg hat
              clear HQc
              have HQc := am_ hb
              have HO := am_ ho
              have HNE := am_ (ne_new hat (blk_lt HGB.out))
              have n1_ := am_ (((below_of_none hg).block g (blk_lt HGB.out)).trans HGB.out)
              clear HGB
              have HGB := n1_
              clear n1_
              clear ho hb hg hat
              refine hK.out _ _ ⟨(HCA.out _ HQc.out).1, (HCA.out _ HQc.out).2.1, (HCA.out _ HQc.out).2.2.1⟩ (fun hHeld => ?_)
              clear hK K
              refine n_ 42 ?_
              exact norm_ (by first | (simp only [putAll, Act.put, q_a, q_0, q_s]; done) | (simp only [putAll, Act.put, q_a, q_0, q_s]; rfl)) (hJ1_13_21 (g, v) _ ⟨HQc.out, HO.out, HGB.out, HBG.out, HNE.out⟩)
          · skip
            rintro v w4 ⟨xHQc, xHO⟩
            clear HQc
            have HQc := am_ xHQc
            have HO := am_ xHO
            clear xHQc xHO
            have hHeld : w4.cell? ⟨w.heap.size + 1, 0, none⟩ = some (.int .i64 n0) ∧ w4.cell? ⟨w.heap.size + 1, 1, none⟩ = some (.int .i64 n1) ∧ w4.cell? ⟨w.heap.size + 1, 2, none⟩ = some (.int .i64 n2) := ⟨(HCA.out _ HQc.out).1, (HCA.out _ HQc.out).2.1, (HCA.out _ HQc.out).2.2.1⟩
            refine norm_ (a' := ?_) ?_ ?_
            rotate_left; · simp only [putAll, Act.put, q_a, q_0, q_s]; rfl
            refine two_ (i := 19) (j := 21) (Ni := some 48) (Nj := some 9) #[tT,tT,tT,tT,tT,tT,tT,tT,tT,tT,tT,tT,tT,tT,tT,tT,tT,tT,tT,tT,fF,fF,fF] #[tT,tT,tT,tT,tT,tT,tT,tT,tT,tT,tT,tT,tT,tT,tT,tT,tT,tT,tT,fF,fF,tT,fF] rfl rfl rfl rfl (by kernel_rfl) (by decide) (by decide) (fun K hK => ?_) (fun K hK => ?_)
            · skip
              refine Kd.R_append_rows_step (Kd.int .u8) (w0 := wc) (w.heap.size + 2) (by rfl) (.tmp 42) (.tmp 47) 23 5 (.int .u8 0) 1 rfl Try.underlying23 info5 rfl (by decide) (by omega) v [] (l.take m) B m d (fun _ => True) (fun _ => False) rfl rfl HO.out (HCt.out _ (HBQ.out _ HQc.out)) (fun _ _ h => h) (fun _ h => h.elim) (fun _ _ => trivial) HQc.out (Nat.le_trans HSZ2.out HQc.out.size) (by have := HML.out; have := HL.out; simp only [List.length_nil]; omega) ?_
              intro v2 w6 ho hb hg hat
              rw [List.nil_append] at ho
              obtain ⟨A3, c3, ev⟩ := Kd.R_slice ho
              rw [show (l.take m).length = m from by rw [List.length_take]; exact Nat.min_eq_left HML.out] at ev
              subst ev
              clear HQc HO
              have HQc := am_ hb
              have HO := am_ ho
              clear ho hb hg hat
              refine hK.out _ _ ⟨(HCA.out _ HQc.out).1, (HCA.out _ HQc.out).2.1, (HCA.out _ HQc.out).2.2.1⟩ (fun hHeld => ?_)
              clear hK K
              refine n_ 48 ?_
              refine p_ 20 49 ?_
              exact norm_ (by first | (simp only [putAll, Act.put, q_a, q_0, q_s]; done) | (simp only [putAll, Act.put, q_a, q_0, q_s]; rfl)) (hJ1_13_19 (v, A3, c3) _ ⟨HQc.out, HO.out⟩)
            · skip
              refine value_ (w1 := ?_) (v := ?_) (by rfl) rfl ?_ ?_
              rotate_left 2
              · go_simp
                constructor
                · rfl
                · rfl
              have HGB := am_ (new_blk w4 (.cells zero13 39))
              have HBG := am_ (Nat.le_trans HSZ2.out HQc.out.size)
              have HNE := am_ (fun e => Nat.lt_irrefl _ (Kd.R_lt HO.out w4.heap.size e))
              have n1_ := am_ (Kd.R_alloc HO.out (.cells zero13 39))
              clear HO
              have HO := n1_
              clear n1_
              have n1_ := am_ (HQc.out.alloc HBG.out (.cells zero13 39))
              clear HQc
              have HQc := n1_
              clear n1_
              refine hK.out _ _ ⟨(HCA.out _ HQc.out).1, (HCA.out _ HQc.out).2.1, (HCA.out _ HQc.out).2.2.1⟩ (fun hHeld => ?_)
              clear hK K
              refine n_ 9 ?_
              exact norm_ (by first | (simp only [putAll, Act.put, q_a, q_0, q_s]; done) | (simp only [putAll, Act.put, q_a, q_0, q_s]; rfl)) (hJ1_13_21 (w4.heap.size, v) _ ⟨HQc.out, HO.out, HGB.out, HBG.out, HNE.out⟩)
        · skip
          rintro ⟨g, v⟩ w4 ⟨xHQc, xHO, xHGB, xHBG, xHNE⟩
          clear HQc
          have HQc := am_ xHQc
          have HO := am_ xHO
          have HGB := am_ xHGB
          have HBG := am_ xHBG
          have HNE := am_ xHNE
          clear xHQc xHO xHGB xHBG xHNE
          dsimp only at HQc HO HGB HBG HNE
          have hHeld : w4.cell? ⟨w.heap.size + 1, 0, none⟩ = some (.int .i64 n0) ∧ w4.cell? ⟨w.heap.size + 1, 1, none⟩ = some (.int .i64 n1) ∧ w4.cell? ⟨w.heap.size + 1, 2, none⟩ = some (.int .i64 n2) := ⟨(HCA.out _ HQc.out).1, (HCA.out _ HQc.out).2.1, (HCA.out _ HQc.out).2.2.1⟩
          refine norm_ (a' := ?_) ?_ ?_
          rotate_left; · simp only [putAll, Act.put, q_a, q_0, q_s]; rfl
          refine o_ 19 (some 48) (fun K hK => ?_)
          refine Kd.R_append_rows_step (Kd.int .u8) (w0 := wc) (w.heap.size + 2) (by rfl) (.tmp 42) (.tmp 47) 23 5 (.int .u8 0) 1 rfl Try.underlying23 info5 rfl (by decide) (by omega) v [] (l.take m) B m d (fun _ => True) (fun _ => False) rfl rfl HO.out (HCt.out _ (HBQ.out _ HQc.out)) (fun _ _ h => h) (fun _ h => h.elim) (fun _ _ => trivial) HQc.out (Nat.le_trans HSZ2.out HQc.out.size) (by have := HML.out; have := HL.out; simp only [List.length_nil]; omega) ?_
          intro v2 w6 ho hb hg hat
          rw [List.nil_append] at ho
          obtain ⟨A3, c3, ev⟩ := Kd.R_slice ho
          rw [show (l.take m).length = m from by rw [List.length_take]; exact Nat.min_eq_left HML.out] at ev
          subst ev
          clear HQc HO
          have HQc := am_ hb
          have HO := am_ ho
          have n2_ := am_ (ne_app HNE.out hat (blk_lt HGB.out))
          have n1_ := am_ ((hg.block g (blk_lt HGB.out) (fun e => HNE.out e.symm)).trans HGB.out)
          clear HGB
          have HGB := n1_
          clear n1_
          clear HNE
          have HNE := n2_
          clear n2_
          clear ho hb hg hat
          refine hK.out _ _ ⟨(HCA.out _ HQc.out).1, (HCA.out _ HQc.out).2.1, (HCA.out _ HQc.out).2.2.1⟩ (fun hHeld => ?_)
          clear hK K
          refine n_ 48 ?_
          refine p_ 20 49 ?_
          exact norm_ (by first | (simp only [putAll, Act.put, q_a, q_0, q_s]; done) | (simp only [putAll, Act.put, q_a, q_0, q_s]; rfl)) (hJ1_13_19_21 (g, v, A3, c3) _ ⟨HQc.out, HO.out, HGB.out, HBG.out, HNE.out⟩)
      · skip
        rintro ⟨v, A3, c3⟩ w4 ⟨xHQc, xHO⟩
        clear HQc
        have HQc := am_ xHQc
        have HO := am_ xHO
        clear xHQc xHO
        dsimp only at HQc HO
        have hHeld : w4.cell? ⟨w.heap.size + 1, 0, none⟩ = some (.int .i64 n0) ∧ w4.cell? ⟨w.heap.size + 1, 1, none⟩ = some (.int .i64 n1) ∧ w4.cell? ⟨w.heap.size + 1, 2, none⟩ = some (.int .i64 n2) := ⟨(HCA.out _ HQc.out).1, (HCA.out _ HQc.out).2.1, (HCA.out _ HQc.out).2.2.1⟩
        refine norm_ (a' := ?_) ?_ ?_
        rotate_left; · simp only [putAll, Act.put, q_a, q_0, q_s]; rfl
        refine o_ 21 (some 9) (fun K hK => ?_)
        refine value_ (w1 := ?_) (v := ?_) (by rfl) rfl ?_ ?_
        rotate_left 2
        · go_simp
          constructor
          · rfl
          · rfl
        have HGB := am_ (new_blk w4 (.cells zero13 39))
        have HBG := am_ (Nat.le_trans HSZ2.out HQc.out.size)
        have HNE := am_ (fun e => Nat.lt_irrefl _ (Kd.R_lt HO.out w4.heap.size e))
        have n1_ := am_ (Kd.R_alloc HO.out (.cells zero13 39))
        clear HO
        have HO := n1_
        clear n1_
        have n1_ := am_ (HQc.out.alloc HBG.out (.cells zero13 39))
        clear HQc
        have HQc := n1_
        clear n1_
        refine hK.out _ _ ⟨(HCA.out _ HQc.out).1, (HCA.out _ HQc.out).2.1, (HCA.out _ HQc.out).2.2.1⟩ (fun hHeld => ?_)
        clear hK K
        refine n_ 9 ?_
        exact norm_ (by first | (simp only [putAll, Act.put, q_a, q_0, q_s]; done) | (simp only [putAll, Act.put, q_a, q_0, q_s]; rfl)) (hJ1_13_19_21 (w4.heap.size, v, A3, c3) _ ⟨HQc.out, HO.out, HGB.out, HBG.out, HNE.out⟩)
    rintro ⟨g, v, A3, c3⟩ w4 ⟨xHQc, xHO, xHGB, xHBG, xHNE⟩
    clear HQc
    have HQc := am_ xHQc
    have HO := am_ xHO
    have HGB := am_ xHGB
    have HBG := am_ xHBG
    have HNE := am_ xHNE
    clear xHQc xHO xHGB xHBG xHNE
    dsimp only at HQc HO HGB HBG HNE
    have hHeld : w4.cell? ⟨w.heap.size + 1, 0, none⟩ = some (.int .i64 n0) ∧ w4.cell? ⟨w.heap.size + 1, 1, none⟩ = some (.int .i64 n1) ∧ w4.cell? ⟨w.heap.size + 1, 2, none⟩ = some (.int .i64 n2) := ⟨(HCA.out _ HQc.out).1, (HCA.out _ HQc.out).2.1, (HCA.out _ HQc.out).2.2.1⟩
    refine norm_ (a' := ?_) ?_ ?_
    rotate_left; · simp only [putAll, Act.put, q_a, q_0, q_s]; rfl
    refine l_ 22 none (fun K hK => ?_)
    obtain ⟨k0, k1, k2, k3, k4, k5, k6, k7, k8, k9, k10, k11, k12⟩ := c13 HGB.out
    obtain ⟨u0_, u1_, u2_, u3_, u4_, u5_, u6_, u7_, u8_, u9_, u10_, u11_, u12_⟩ := f13 HGB.out
    refine s_ ?_
    refine hK.out _ _ ?_
    clear hK K
    refine done_ (by kernel_rfl) ?_
    have HMS := am_ (MkSt.first (w0 := w) (wc := wc) (N := [n0, n1, n2, n3, n4, n5, n6, n7]) (pz := ⟨(1 + q), (2 + n0 % 254), 0, (n1 % 4294967296), (n2 % 4294967296), 0, 0, 0, 0, false, 0, [], (l.take m)⟩) HB.out HZ.out HA.out HQc.out HBG.out HGB.out HO.out HNE.out rfl rfl)
    generalize hW : World.setCell _ _ _ = w5
    have HM : Aside0 (MkSt w w5 g [n0, n1, n2, n3, n4, n5, n6, n7] ⟨(1 + q), (2 + n0 % 254), 0, (n1 % 4294967296), (n2 % 4294967296), 0, 0, 0, 0, false, 0, [], (l.take m)⟩ (.slice none 0 0) (.slice A3 m c3)) := am_ (by rw [← hW]; exact HMS.out)
    clear hW HMS k0 k1 k2 k3 k4 k5 k6 k7 k8 k9 k10 k11 k12 u0_ u1_ u2_ u3_ u4_ u5_ u6_ u7_ u8_ u9_ u10_ u11_ u12_ hHeld hm0 hm1 hm2 hm3 hm4 HQc HO HGB HBG HNE hcutm hmn
    obtain ⟨a0_, a1_, a2_, a3_, a4_, a5_, a6_, a7_⟩ := a8 HM.out.arr
    obtain ⟨k0, k1, k2, k3, k4, k5, k6, k7, k8, k9, k10, k11, k12⟩ := c13 HM.out.blk
    obtain ⟨u0_, u1_, u2_, u3_, u4_, u5_, u6_, u7_, u8_, u9_, u10_, u11_, u12_⟩ := f13 HM.out.blk
    go_upto_if 53 with fail
    go_cut [] (fun wx => ∃ lf : Int, Aside (lf = lifeQ n0) ∧ Aside (MkSt w wx g [n0, n1, n2, n3, n4, n5, n6, n7] ⟨(1 + q), lf, 0, (n1 % 4294967296), (n2 % 4294967296), 0, 0, 0, 0, false, 0, [], (l.take m)⟩ (.slice none 0 0) (.slice A3 m c3)))
    case first =>
      by_cases h7 : n0 % 7 = 0
      · have q7 : (n0 % 7 == 0) = true := beq_iff_eq.mpr h7
        have H7 := am_ h7
        clear h7
        go_wp2
        go_meet
        exact ⟨n0 / 7 % 3, (by show _ = _; unfold lifeQ; rw [if_pos H7.out]), HM.out.fld 1 _ rfl rfl rfl⟩
      · have q7 : (n0 % 7 == 0) = false := beq_eq_false_iff_ne.mpr h7
        have H7 := am_ h7
        clear h7
        go_wp2
        go_meet
        exact ⟨2 + n0 % 254, (by show _ = _; unfold lifeQ; rw [if_neg H7.out]), HM.out⟩
    case rest =>
    obtain ⟨lf, hlf, hm5⟩ := hcut
    have HLF := am_ hlf.out
    have HM2 := am_ hm5.out
    clear hlf hm5 HM
    clear a0_ a1_ a2_ a3_ a4_ a5_ a6_ a7_ k0 k1 k2 k3 k4 k5 k6 k7 k8 k9 k10 k11 k12 u0_ u1_ u2_ u3_ u4_ u5_ u6_ u7_ u8_ u9_ u10_ u11_ u12_
    obtain ⟨a0_, a1_, a2_, a3_, a4_, a5_, a6_, a7_⟩ := a8 HM2.out.arr
    obtain ⟨k0, k1, k2, k3, k4, k5, k6, k7, k8, k9, k10, k11, k12⟩ := c13 HM2.out.blk
    obtain ⟨u0_, u1_, u2_, u3_, u4_, u5_, u6_, u7_, u8_, u9_, u10_, u11_, u12_⟩ := f13 HM2.out.blk
    go_upto_if 62 with fail
    go_cut [] (fun wx => ∃ pc : Int, Aside (pc = pieceQ n0) ∧ Aside (MkSt w wx g [n0, n1, n2, n3, n4, n5, n6, n7] ⟨(1 + q), lf, pc, (n1 % 4294967296), (n2 % 4294967296), 0, 0, 0, 0, false, 0, [], (l.take m)⟩ (.slice none 0 0) (.slice A3 m c3)))
    case first =>
      by_cases h11 : n0 % 11 = 0
      · have q7 : (n0 % 11 == 0) = true := beq_iff_eq.mpr h11
        have H7 := am_ h11
        clear h11
        go_wp2
        go_meet
        exact ⟨n0 / 11 % 256, (by show _ = _; unfold pieceQ; rw [if_pos H7.out]), HM2.out.fld 2 _ rfl rfl rfl⟩
      · have q7 : (n0 % 11 == 0) = false := beq_eq_false_iff_ne.mpr h11
        have H7 := am_ h11
        clear h11
        go_wp2
        go_meet
        exact ⟨0, (by show _ = _; unfold pieceQ; rw [if_neg H7.out]), HM2.out⟩
    case rest =>
    obtain ⟨pc, hpc, hm5⟩ := hcut
    have HPC := am_ hpc.out
    have HM3 := am_ hm5.out
    clear hpc hm5 HM2
    clear a0_ a1_ a2_ a3_ a4_ a5_ a6_ a7_ k0 k1 k2 k3 k4 k5 k6 k7 k8 k9 k10 k11 k12 u0_ u1_ u2_ u3_ u4_ u5_ u6_ u7_ u8_ u9_ u10_ u11_ u12_
    obtain ⟨a0_, a1_, a2_, a3_, a4_, a5_, a6_, a7_⟩ := a8 HM3.out.arr
    obtain ⟨k0, k1, k2, k3, k4, k5, k6, k7, k8, k9, k10, k11, k12⟩ := c13 HM3.out.blk
    obtain ⟨u0_, u1_, u2_, u3_, u4_, u5_, u6_, u7_, u8_, u9_, u10_, u11_, u12_⟩ := f13 HM3.out.blk
    go_upto_block 2 with fail
    go_cut [69] (fun s69 wx => ∃ (vo vd : Value), Aside (MkSt w wx g [n0, n1, n2, n3, n4, n5, n6, n7] (makeP kind ns l) vo vd))
    case first =>
      clear hq0 hq2
      rcases HQ3.out with rfl | rfl | rfl
      · skip
        have HMQ := am_ (show makeP kind ns l = ⟨1, lf, pc, (n1 % 4294967296), (n2 % 4294967296), (n3 % 65536), (n4 % 65536), (n5 % 16), 0, false, 0, (optsL n7 (n6 % 41).toNat), (l.take m)⟩ from by
          unfold makeP nthL
          rw [HN8.out, HKIND.out, HM0.out, HLF.out, HPC.out]
          rfl)
        have HM3 := am_ (show MkSt w _ g [n0, n1, n2, n3, n4, n5, n6, n7] ⟨1, lf, pc, (n1 % 4294967296), (n2 % 4294967296), 0, 0, 0, 0, false, 0, [], (l.take m)⟩ (.slice none 0 0) (.slice A3 m c3) from HM3.out)
        clear a0_ a1_ a2_ a3_ a4_ a5_ a6_ a7_ k0 k1 k2 k3 k4 k5 k6 k7 k8 k9 k10 k11 k12 u0_ u1_ u2_ u3_ u4_ u5_ u6_ u7_ u8_ u9_ u10_ u11_ u12_
        obtain ⟨a0_, a1_, a2_, a3_, a4_, a5_, a6_, a7_⟩ := a8 HM3.out.arr
        obtain ⟨k0, k1, k2, k3, k4, k5, k6, k7, k8, k9, k10, k11, k12⟩ := c13 HM3.out.blk
        obtain ⟨u0_, u1_, u2_, u3_, u4_, u5_, u6_, u7_, u8_, u9_, u10_, u11_, u12_⟩ := f13 HM3.out.blk
        go_upto_region 12 with fail
        have hm3 : n3.tmod 65536 = n3 % 65536 := Int.tmod_eq_emod_of_nonneg b3.1
        have hm4 : n4.tmod 65536 = n4 % 65536 := Int.tmod_eq_emod_of_nonneg b4.1
        have hm5 : n5.tmod 16 = n5 % 16 := Int.tmod_eq_emod_of_nonneg b5.1
        refine start_ (n := 15) (S := fun w' => w'.cell? ⟨w.heap.size + 1, 3, none⟩ = some (.int .i64 n3) ∧ w'.cell? ⟨w.heap.size + 1, 4, none⟩ = some (.int .i64 n4) ∧ w'.cell? ⟨w.heap.size + 1, 5, none⟩ = some (.int .i64 n5)) (ds := []) #[fF,fF,fF,fF,fF,fF,fF,fF,fF,fF,fF,fF,fF,fF,fF] (by kernel_rfl) rfl rfl ⟨a3_, a4_, a5_⟩ (fun hHeld => ?_)
        refine p_ 0 70 ?_
        refine p_ 3 73 ?_
        refine p_ 6 76 ?_
        refine t_ 1 71 hHeld ?_
        refine p_ 2 72 ?_
        refine p_ 9 79 ?_
        refine t_ 4 74 hHeld ?_
        refine p_ 5 75 ?_
        refine t_ 7 77 hHeld ?_
        refine p_ 8 78 ?_
        refine o_ 10 none (fun K hK => ?_)
        refine s_ ?_
        refine hK.out _ _ ⟨(a8 (HM3.out.drew.fld (p' := ⟨1, lf, pc, (n1 % 4294967296), (n2 % 4294967296), (n3 % 65536), 0, 0, 0, false, 0, [], (l.take m)⟩) 5 _ rfl rfl rfl).arr).2.2.2.1, (a8 (HM3.out.drew.fld (p' := ⟨1, lf, pc, (n1 % 4294967296), (n2 % 4294967296), (n3 % 65536), 0, 0, 0, false, 0, [], (l.take m)⟩) 5 _ rfl rfl rfl).arr).2.2.2.2.1, (a8 (HM3.out.drew.fld (p' := ⟨1, lf, pc, (n1 % 4294967296), (n2 % 4294967296), (n3 % 65536), 0, 0, 0, false, 0, [], (l.take m)⟩) 5 _ rfl rfl rfl).arr).2.2.2.2.2.1⟩ (fun hHeld => ?_)
        clear hK K
        refine p_ 11 80 ?_
        refine o_ 12 none (fun K hK => ?_)
        refine s_ ?_
        refine hK.out _ _ ⟨(a8 ((HM3.out.drew.fld (p' := ⟨1, lf, pc, (n1 % 4294967296), (n2 % 4294967296), (n3 % 65536), 0, 0, 0, false, 0, [], (l.take m)⟩) 5 _ rfl rfl rfl).fld (p' := ⟨1, lf, pc, (n1 % 4294967296), (n2 % 4294967296), (n3 % 65536), (n4 % 65536), 0, 0, false, 0, [], (l.take m)⟩) 6 _ rfl rfl rfl).arr).2.2.2.1, (a8 ((HM3.out.drew.fld (p' := ⟨1, lf, pc, (n1 % 4294967296), (n2 % 4294967296), (n3 % 65536), 0, 0, 0, false, 0, [], (l.take m)⟩) 5 _ rfl rfl rfl).fld (p' := ⟨1, lf, pc, (n1 % 4294967296), (n2 % 4294967296), (n3 % 65536), (n4 % 65536), 0, 0, false, 0, [], (l.take m)⟩) 6 _ rfl rfl rfl).arr).2.2.2.2.1, (a8 ((HM3.out.drew.fld (p' := ⟨1, lf, pc, (n1 % 4294967296), (n2 % 4294967296), (n3 % 65536), 0, 0, 0, false, 0, [], (l.take m)⟩) 5 _ rfl rfl rfl).fld (p' := ⟨1, lf, pc, (n1 % 4294967296), (n2 % 4294967296), (n3 % 65536), (n4 % 65536), 0, 0, false, 0, [], (l.take m)⟩) 6 _ rfl rfl rfl).arr).2.2.2.2.2.1⟩ (fun hHeld => ?_)
        clear hK K
        refine p_ 13 81 ?_
        refine o_ 14 none (fun K hK => ?_)
        refine s_ ?_
        refine hK.out _ _ ⟨(a8 (((HM3.out.drew.fld (p' := ⟨1, lf, pc, (n1 % 4294967296), (n2 % 4294967296), (n3 % 65536), 0, 0, 0, false, 0, [], (l.take m)⟩) 5 _ rfl rfl rfl).fld (p' := ⟨1, lf, pc, (n1 % 4294967296), (n2 % 4294967296), (n3 % 65536), (n4 % 65536), 0, 0, false, 0, [], (l.take m)⟩) 6 _ rfl rfl rfl).fld (p' := ⟨1, lf, pc, (n1 % 4294967296), (n2 % 4294967296), (n3 % 65536), (n4 % 65536), (n5 % 16), 0, false, 0, [], (l.take m)⟩) 7 _ rfl rfl rfl).arr).2.2.2.1, (a8 (((HM3.out.drew.fld (p' := ⟨1, lf, pc, (n1 % 4294967296), (n2 % 4294967296), (n3 % 65536), 0, 0, 0, false, 0, [], (l.take m)⟩) 5 _ rfl rfl rfl).fld (p' := ⟨1, lf, pc, (n1 % 4294967296), (n2 % 4294967296), (n3 % 65536), (n4 % 65536), 0, 0, false, 0, [], (l.take m)⟩) 6 _ rfl rfl rfl).fld (p' := ⟨1, lf, pc, (n1 % 4294967296), (n2 % 4294967296), (n3 % 65536), (n4 % 65536), (n5 % 16), 0, false, 0, [], (l.take m)⟩) 7 _ rfl rfl rfl).arr).2.2.2.2.1, (a8 (((HM3.out.drew.fld (p' := ⟨1, lf, pc, (n1 % 4294967296), (n2 % 4294967296), (n3 % 65536), 0, 0, 0, false, 0, [], (l.take m)⟩) 5 _ rfl rfl rfl).fld (p' := ⟨1, lf, pc, (n1 % 4294967296), (n2 % 4294967296), (n3 % 65536), (n4 % 65536), 0, 0, false, 0, [], (l.take m)⟩) 6 _ rfl rfl rfl).fld (p' := ⟨1, lf, pc, (n1 % 4294967296), (n2 % 4294967296), (n3 % 65536), (n4 % 65536), (n5 % 16), 0, false, 0, [], (l.take m)⟩) 7 _ rfl rfl rfl).arr).2.2.2.2.2.1⟩ (fun hHeld => ?_)
        clear hK K
        refine done_ (by kernel_rfl) ?_
        generalize hW : World.setCell _ _ _ = w7
        have HM5 : Aside0 (MkSt w w7 g [n0, n1, n2, n3, n4, n5, n6, n7] ⟨1, lf, pc, (n1 % 4294967296), (n2 % 4294967296), (n3 % 65536), (n4 % 65536), (n5 % 16), 0, false, 0, [], (l.take m)⟩ (.slice none 0 0) (.slice A3 m c3)) := am_ (by rw [← hW]; exact (((HM3.out.fld (p' := ⟨1, lf, pc, (n1 % 4294967296), (n2 % 4294967296), (n3 % 65536), 0, 0, 0, false, 0, [], (l.take m)⟩) 5 _ rfl rfl rfl).fld (p' := ⟨1, lf, pc, (n1 % 4294967296), (n2 % 4294967296), (n3 % 65536), (n4 % 65536), 0, 0, false, 0, [], (l.take m)⟩) 6 _ rfl rfl rfl).fld (p' := ⟨1, lf, pc, (n1 % 4294967296), (n2 % 4294967296), (n3 % 65536), (n4 % 65536), (n5 % 16), 0, false, 0, [], (l.take m)⟩) 7 _ rfl rfl rfl))
        clear hW
        generalize hW : World.drew w7 = w8
        have HM4 : Aside0 (MkSt w w8 g [n0, n1, n2, n3, n4, n5, n6, n7] ⟨1, lf, pc, (n1 % 4294967296), (n2 % 4294967296), (n3 % 65536), (n4 % 65536), (n5 % 16), 0, false, 0, [], (l.take m)⟩ (.slice none 0 0) (.slice A3 m c3)) := am_ (by rw [← hW]; exact HM5.out.drew)
        clear hW HM5 hHeld hm3 hm4 hm5 a0_ a1_ a2_ a3_ a4_ a5_ a6_ a7_ k0 k1 k2 k3 k4 k5 k6 k7 k8 k9 k10 k11 k12 u0_ u1_ u2_ u3_ u4_ u5_ u6_ u7_ u8_ u9_ u10_ u11_ u12_
        obtain ⟨K, hK⟩ := Int.eq_ofNat_of_zero_le (show 0 ≤ n6 % 41 by omega)
        have HK40 := am_ (show K ≤ 40 by omega)
        have HKK := am_ (show (n6 % 41).toNat = K by omega)
        obtain ⟨a0_, a1_, a2_, a3_, a4_, a5_, a6_, a7_⟩ := a8 HM4.out.arr
        obtain ⟨k0, k1, k2, k3, k4, k5, k6, k7, k8, k9, k10, k11, k12⟩ := c13 HM4.out.blk
        obtain ⟨u0_, u1_, u2_, u3_, u4_, u5_, u6_, u7_, u8_, u9_, u10_, u11_, u12_⟩ := f13 HM4.out.blk
        go_wp2
        clear hK
        go_loopg [11] K (fun kq v11 w' => ∃ (i : Nat) (ot : List Int) (A4 : Option Addr) (c4 : Nat), v11 = .int .i64 (i : Int) ∧ Aside (i + kq = K) ∧ Aside (ot = optsL n7 i) ∧ Aside (ot.length = i) ∧ MkSt w w' g [n0, n1, n2, n3, n4, n5, n6, n7] ⟨1, lf, pc, (n1 % 4294967296), (n2 % 4294967296), (n3 % 65536), (n4 % 65536), (n5 % 16), 0, false, 0, ot, (l.take m)⟩ (.slice A4 ot.length c4) (.slice A3 m c3))
        case atStart =>
          exact ⟨0, [], none, 0, rfl, (by show _ = _; omega), (by show _ = _; rfl), (by show _ = _; rfl), HM4.out⟩
        case round =>
          obtain ⟨i, ot, A4, c4, rfl, hk, hr, h2, hm⟩ := hrel
          have HI := am_ hk.out
          have HOT := am_ hr.out
          have H2 := am_ h2.out
          have HMa := am_ hm
          clear hk hr h2 hm HM4 a0_ a1_ a2_ a3_ a4_ a5_ a6_ a7_ k0 k1 k2 k3 k4 k5 k6 k7 k8 k9 k10 k11 k12 u0_ u1_ u2_ u3_ u4_ u5_ u6_ u7_ u8_ u9_ u10_ u11_ u12_
          obtain ⟨a0_, a1_, a2_, a3_, a4_, a5_, a6_, a7_⟩ := a8 HMa.out.arr
          obtain ⟨k0, k1, k2, k3, k4, k5, k6, k7, k8, k9, k10, k11, k12⟩ := c13 HMa.out.blk
          obtain ⟨u0_, u1_, u2_, u3_, u4_, u5_, u6_, u7_, u8_, u9_, u10_, u11_, u12_⟩ := f13 HMa.out.blk
          by_cases hlt : i < K
          · have hdl : decide ((i : Int) < (K : Int)) = true := decide_eq_true (by omega)
            have hdn : decide (i < K) = true := decide_eq_true hlt
            have HGK := am_ (show 0 < gk from by have := HI.out; omega)
            have hi40 : (i : Int) ≤ 40 := by have := HK40.out; omega
            have HI40 := am_ hi40
            clear hlt
            go_wp2_with (first | ((with_reducible refine gate_dst (N := 99) rfl ?_); refine Kd.R_lit (Kd.int .u8) (w0 := wr) (w.heap.size + 2) 5 ?hg (N := 99) ?hd (xs := ([n7 / 2 ^ (i % 24) % 256] : List Int)) (inner := [.int .u8 (n7 / 2 ^ (i % 24) % 256)]) (ok := fun _ => True) (okp := fun _ => True) ?hr ?hp (fun _ hk => hk) trivial (Below.refl _ _) (blk_lt HMa.out.arr) (by simp) ?_; (case hd => rfl); (case hg => rfl); (case hr => first | (go_simp; done) | (go_simp; rfl)); (case hp => exact (Reps.one (show Kd.M (Kd.int .u8) _ _ _ (n7 / 2 ^ (i % 24) % 256) [.int .u8 (n7 / 2 ^ (i % 24) % 256)] from rfl) (Reps.none _ _))); intro v3 w3 ho hb hg hat; have HMb := am_ (HMa.out.quiet hg); have HLI := am_ ho; have HB3 := am_ hb; obtain ⟨Al, cl, el⟩ := Kd.R_slice HLI.out; subst el; have HLC := am_ (Kd.R_reads' HLI.out); clear ho hb hg hat) | ((with_reducible refine gate_builtin (b := .append) (xs := #[.tmp 91, .tmp 99]) rfl ?_); at_builtin; refine Kd.R_append_rows (Kd.int .u8) (w0 := wr) (w.heap.size + 2) rfl (.tmp 91) (.tmp 99) 23 5 (.int .u8 0) 1 rfl Try.underlying23 info5 rfl (by decide) (by omega) (.slice A4 ot.length c4) ot [n7 / 2 ^ (i % 24) % 256] Al 1 cl (fun _ => True) (fun _ => False) rfl rfl HMb.out.ro HLC.out.2.2 (fun _ _ h => h) (fun _ h => h.elim) (fun _ _ => trivial) HB3.out (Nat.le_trans (blk_lt HMa.out.arr) HB3.out.size) (by have := H2.out; have := HI40.out; omega) ?_; intro v4 w4 ho hb hg hat; have hz_ := (hg.block g (blk_lt HMb.out.blk) (fun e => HMb.out.no e.symm)).trans HMb.out.blk; clear a0_ a1_ a2_ a3_ a4_ a5_ a6_ a7_ k0 k1 k2 k3 k4 k5 k6 k7 k8 k9 k10 k11 k12 u0_ u1_ u2_ u3_ u4_ u5_ u6_ u7_ u8_ u9_ u10_ u11_ u12_; obtain ⟨k0, k1, k2, k3, k4, k5, k6, k7, k8, k9, k10, k11, k12⟩ := c13 hz_; obtain ⟨u0_, u1_, u2_, u3_, u4_, u5_, u6_, u7_, u8_, u9_, u10_, u11_, u12_⟩ := f13 hz_; have HMc := am_ (HMb.out.opts hg ho (HMa.out.below.trans (hb.mono (by omega))) hat); obtain ⟨A5, c5, e5⟩ := Kd.R_slice ho; subst e5; clear hz_ ho hb hg hat))
            have HLN := am_ (show (ot ++ [n7 / 2 ^ (i % 24) % 256]).length = i + 1 from by simp [H2.out])
            have HLM := am_ (show (ot ++ [n7 / 2 ^ (i % 24) % 256]).length = ot.length + 1 from by simp)
            go_roundg (gk - 1)
            case measure => have := HGK.out; omega
            case rel => exact ⟨i + 1, _, A5, c5, (by first | rfl | go_num), (by show _ = _; have := HI.out; have := HGK.out; omega), (by show _ = _; rw [HOT.out]; rfl), HLN.out, (by first | exact HMc.out | (have h_ := HMc.out; simp only [HLM.out] at h_ ⊢; exact h_))⟩
          · have hdl : decide ((i : Int) < (K : Int)) = false := decide_eq_false (by omega)
            have hdn : decide (i < K) = false := decide_eq_false hlt
            have HLR : Aside0 (ot = optsL n7 (n6 % 41).toNat) := am_ (by rw [HOT.out, HKK.out, show i = K by have := HI.out; omega])
            clear hlt
            go_wp2_with fail
            go_meet
            exact ⟨_, _, (by rw [HMQ.out, ← HLR.out]; exact HMa.out)⟩
      · skip
        have HMQ := am_ (show makeP kind ns l = ⟨2, lf, pc, (n1 % 4294967296), (n2 % 4294967296), (n3 % 65536), (n4 % 65536), 0, (n5 % 65536), (n6 % 4 == 0), 0, [], (l.take m)⟩ from by
          unfold makeP nthL
          rw [HN8.out, HKIND.out, HM0.out, HLF.out, HPC.out]
          rfl)
        have HM3 := am_ (show MkSt w _ g [n0, n1, n2, n3, n4, n5, n6, n7] ⟨2, lf, pc, (n1 % 4294967296), (n2 % 4294967296), 0, 0, 0, 0, false, 0, [], (l.take m)⟩ (.slice none 0 0) (.slice A3 m c3) from HM3.out)
        clear a0_ a1_ a2_ a3_ a4_ a5_ a6_ a7_ k0 k1 k2 k3 k4 k5 k6 k7 k8 k9 k10 k11 k12 u0_ u1_ u2_ u3_ u4_ u5_ u6_ u7_ u8_ u9_ u10_ u11_ u12_
        obtain ⟨a0_, a1_, a2_, a3_, a4_, a5_, a6_, a7_⟩ := a8 HM3.out.arr
        obtain ⟨k0, k1, k2, k3, k4, k5, k6, k7, k8, k9, k10, k11, k12⟩ := c13 HM3.out.blk
        obtain ⟨u0_, u1_, u2_, u3_, u4_, u5_, u6_, u7_, u8_, u9_, u10_, u11_, u12_⟩ := f13 HM3.out.blk
        go_upto_region 23 with fail
        have hm3 : n3.tmod 65536 = n3 % 65536 := Int.tmod_eq_emod_of_nonneg b3.1
        have hm4 : n4.tmod 65536 = n4 % 65536 := Int.tmod_eq_emod_of_nonneg b4.1
        have hm5 : n5.tmod 65536 = n5 % 65536 := Int.tmod_eq_emod_of_nonneg b5.1
        have hm6 : n6.tmod 4 = n6 % 4 := Int.tmod_eq_emod_of_nonneg b6.1
        refine start_ (n := 21) (S := fun w' => w'.cell? ⟨w.heap.size + 1, 3, none⟩ = some (.int .i64 n3) ∧ w'.cell? ⟨w.heap.size + 1, 4, none⟩ = some (.int .i64 n4) ∧ w'.cell? ⟨w.heap.size + 1, 5, none⟩ = some (.int .i64 n5) ∧ w'.cell? ⟨w.heap.size + 1, 6, none⟩ = some (.int .i64 n6)) (ds := []) #[fF,fF,fF,fF,fF,fF,fF,fF,fF,fF,fF,fF,fF,fF,fF,fF,fF,fF,fF,fF,fF] (by kernel_rfl) rfl rfl ⟨a3_, a4_, a5_, a6_⟩ (fun hHeld => ?_)
        refine p_ 0 128 ?_
        refine p_ 3 131 ?_
        refine p_ 6 134 ?_
        refine p_ 9 137 ?_
        refine t_ 1 129 hHeld ?_
        refine p_ 2 130 ?_
        refine p_ 13 141 ?_
        refine t_ 4 132 hHeld ?_
        refine p_ 5 133 ?_
        refine t_ 7 135 hHeld ?_
        refine p_ 8 136 ?_
        refine t_ 10 138 hHeld ?_
        refine p_ 11 139 ?_
        refine p_ 12 140 ?_
        refine o_ 14 none (fun K hK => ?_)
        refine s_ ?_
        refine hK.out _ _ ⟨(a8 (HM3.out.drew.fld (p' := ⟨2, lf, pc, (n1 % 4294967296), (n2 % 4294967296), (n3 % 65536), 0, 0, 0, false, 0, [], (l.take m)⟩) 5 _ rfl rfl rfl).arr).2.2.2.1, (a8 (HM3.out.drew.fld (p' := ⟨2, lf, pc, (n1 % 4294967296), (n2 % 4294967296), (n3 % 65536), 0, 0, 0, false, 0, [], (l.take m)⟩) 5 _ rfl rfl rfl).arr).2.2.2.2.1, (a8 (HM3.out.drew.fld (p' := ⟨2, lf, pc, (n1 % 4294967296), (n2 % 4294967296), (n3 % 65536), 0, 0, 0, false, 0, [], (l.take m)⟩) 5 _ rfl rfl rfl).arr).2.2.2.2.2.1, (a8 (HM3.out.drew.fld (p' := ⟨2, lf, pc, (n1 % 4294967296), (n2 % 4294967296), (n3 % 65536), 0, 0, 0, false, 0, [], (l.take m)⟩) 5 _ rfl rfl rfl).arr).2.2.2.2.2.2.1⟩ (fun hHeld => ?_)
        clear hK K
        refine p_ 15 142 ?_
        refine o_ 16 none (fun K hK => ?_)
        refine s_ ?_
        refine hK.out _ _ ⟨(a8 ((HM3.out.drew.fld (p' := ⟨2, lf, pc, (n1 % 4294967296), (n2 % 4294967296), (n3 % 65536), 0, 0, 0, false, 0, [], (l.take m)⟩) 5 _ rfl rfl rfl).fld (p' := ⟨2, lf, pc, (n1 % 4294967296), (n2 % 4294967296), (n3 % 65536), (n4 % 65536), 0, 0, false, 0, [], (l.take m)⟩) 6 _ rfl rfl rfl).arr).2.2.2.1, (a8 ((HM3.out.drew.fld (p' := ⟨2, lf, pc, (n1 % 4294967296), (n2 % 4294967296), (n3 % 65536), 0, 0, 0, false, 0, [], (l.take m)⟩) 5 _ rfl rfl rfl).fld (p' := ⟨2, lf, pc, (n1 % 4294967296), (n2 % 4294967296), (n3 % 65536), (n4 % 65536), 0, 0, false, 0, [], (l.take m)⟩) 6 _ rfl rfl rfl).arr).2.2.2.2.1, (a8 ((HM3.out.drew.fld (p' := ⟨2, lf, pc, (n1 % 4294967296), (n2 % 4294967296), (n3 % 65536), 0, 0, 0, false, 0, [], (l.take m)⟩) 5 _ rfl rfl rfl).fld (p' := ⟨2, lf, pc, (n1 % 4294967296), (n2 % 4294967296), (n3 % 65536), (n4 % 65536), 0, 0, false, 0, [], (l.take m)⟩) 6 _ rfl rfl rfl).arr).2.2.2.2.2.1, (a8 ((HM3.out.drew.fld (p' := ⟨2, lf, pc, (n1 % 4294967296), (n2 % 4294967296), (n3 % 65536), 0, 0, 0, false, 0, [], (l.take m)⟩) 5 _ rfl rfl rfl).fld (p' := ⟨2, lf, pc, (n1 % 4294967296), (n2 % 4294967296), (n3 % 65536), (n4 % 65536), 0, 0, false, 0, [], (l.take m)⟩) 6 _ rfl rfl rfl).arr).2.2.2.2.2.2.1⟩ (fun hHeld => ?_)
        clear hK K
        refine p_ 17 143 ?_
        refine o_ 18 none (fun K hK => ?_)
        refine s_ ?_
        refine hK.out _ _ ⟨(a8 (((HM3.out.drew.fld (p' := ⟨2, lf, pc, (n1 % 4294967296), (n2 % 4294967296), (n3 % 65536), 0, 0, 0, false, 0, [], (l.take m)⟩) 5 _ rfl rfl rfl).fld (p' := ⟨2, lf, pc, (n1 % 4294967296), (n2 % 4294967296), (n3 % 65536), (n4 % 65536), 0, 0, false, 0, [], (l.take m)⟩) 6 _ rfl rfl rfl).fld (p' := ⟨2, lf, pc, (n1 % 4294967296), (n2 % 4294967296), (n3 % 65536), (n4 % 65536), 0, (n5 % 65536), false, 0, [], (l.take m)⟩) 8 _ rfl rfl rfl).arr).2.2.2.1, (a8 (((HM3.out.drew.fld (p' := ⟨2, lf, pc, (n1 % 4294967296), (n2 % 4294967296), (n3 % 65536), 0, 0, 0, false, 0, [], (l.take m)⟩) 5 _ rfl rfl rfl).fld (p' := ⟨2, lf, pc, (n1 % 4294967296), (n2 % 4294967296), (n3 % 65536), (n4 % 65536), 0, 0, false, 0, [], (l.take m)⟩) 6 _ rfl rfl rfl).fld (p' := ⟨2, lf, pc, (n1 % 4294967296), (n2 % 4294967296), (n3 % 65536), (n4 % 65536), 0, (n5 % 65536), false, 0, [], (l.take m)⟩) 8 _ rfl rfl rfl).arr).2.2.2.2.1, (a8 (((HM3.out.drew.fld (p' := ⟨2, lf, pc, (n1 % 4294967296), (n2 % 4294967296), (n3 % 65536), 0, 0, 0, false, 0, [], (l.take m)⟩) 5 _ rfl rfl rfl).fld (p' := ⟨2, lf, pc, (n1 % 4294967296), (n2 % 4294967296), (n3 % 65536), (n4 % 65536), 0, 0, false, 0, [], (l.take m)⟩) 6 _ rfl rfl rfl).fld (p' := ⟨2, lf, pc, (n1 % 4294967296), (n2 % 4294967296), (n3 % 65536), (n4 % 65536), 0, (n5 % 65536), false, 0, [], (l.take m)⟩) 8 _ rfl rfl rfl).arr).2.2.2.2.2.1, (a8 (((HM3.out.drew.fld (p' := ⟨2, lf, pc, (n1 % 4294967296), (n2 % 4294967296), (n3 % 65536), 0, 0, 0, false, 0, [], (l.take m)⟩) 5 _ rfl rfl rfl).fld (p' := ⟨2, lf, pc, (n1 % 4294967296), (n2 % 4294967296), (n3 % 65536), (n4 % 65536), 0, 0, false, 0, [], (l.take m)⟩) 6 _ rfl rfl rfl).fld (p' := ⟨2, lf, pc, (n1 % 4294967296), (n2 % 4294967296), (n3 % 65536), (n4 % 65536), 0, (n5 % 65536), false, 0, [], (l.take m)⟩) 8 _ rfl rfl rfl).arr).2.2.2.2.2.2.1⟩ (fun hHeld => ?_)
        clear hK K
        refine p_ 19 144 ?_
        refine o_ 20 none (fun K hK => ?_)
        refine s_ ?_
        refine hK.out _ _ ⟨(a8 ((((HM3.out.drew.fld (p' := ⟨2, lf, pc, (n1 % 4294967296), (n2 % 4294967296), (n3 % 65536), 0, 0, 0, false, 0, [], (l.take m)⟩) 5 _ rfl rfl rfl).fld (p' := ⟨2, lf, pc, (n1 % 4294967296), (n2 % 4294967296), (n3 % 65536), (n4 % 65536), 0, 0, false, 0, [], (l.take m)⟩) 6 _ rfl rfl rfl).fld (p' := ⟨2, lf, pc, (n1 % 4294967296), (n2 % 4294967296), (n3 % 65536), (n4 % 65536), 0, (n5 % 65536), false, 0, [], (l.take m)⟩) 8 _ rfl rfl rfl).fld (p' := ⟨2, lf, pc, (n1 % 4294967296), (n2 % 4294967296), (n3 % 65536), (n4 % 65536), 0, (n5 % 65536), (n6 % 4 == 0), 0, [], (l.take m)⟩) 9 _ rfl rfl rfl).arr).2.2.2.1, (a8 ((((HM3.out.drew.fld (p' := ⟨2, lf, pc, (n1 % 4294967296), (n2 % 4294967296), (n3 % 65536), 0, 0, 0, false, 0, [], (l.take m)⟩) 5 _ rfl rfl rfl).fld (p' := ⟨2, lf, pc, (n1 % 4294967296), (n2 % 4294967296), (n3 % 65536), (n4 % 65536), 0, 0, false, 0, [], (l.take m)⟩) 6 _ rfl rfl rfl).fld (p' := ⟨2, lf, pc, (n1 % 4294967296), (n2 % 4294967296), (n3 % 65536), (n4 % 65536), 0, (n5 % 65536), false, 0, [], (l.take m)⟩) 8 _ rfl rfl rfl).fld (p' := ⟨2, lf, pc, (n1 % 4294967296), (n2 % 4294967296), (n3 % 65536), (n4 % 65536), 0, (n5 % 65536), (n6 % 4 == 0), 0, [], (l.take m)⟩) 9 _ rfl rfl rfl).arr).2.2.2.2.1, (a8 ((((HM3.out.drew.fld (p' := ⟨2, lf, pc, (n1 % 4294967296), (n2 % 4294967296), (n3 % 65536), 0, 0, 0, false, 0, [], (l.take m)⟩) 5 _ rfl rfl rfl).fld (p' := ⟨2, lf, pc, (n1 % 4294967296), (n2 % 4294967296), (n3 % 65536), (n4 % 65536), 0, 0, false, 0, [], (l.take m)⟩) 6 _ rfl rfl rfl).fld (p' := ⟨2, lf, pc, (n1 % 4294967296), (n2 % 4294967296), (n3 % 65536), (n4 % 65536), 0, (n5 % 65536), false, 0, [], (l.take m)⟩) 8 _ rfl rfl rfl).fld (p' := ⟨2, lf, pc, (n1 % 4294967296), (n2 % 4294967296), (n3 % 65536), (n4 % 65536), 0, (n5 % 65536), (n6 % 4 == 0), 0, [], (l.take m)⟩) 9 _ rfl rfl rfl).arr).2.2.2.2.2.1, (a8 ((((HM3.out.drew.fld (p' := ⟨2, lf, pc, (n1 % 4294967296), (n2 % 4294967296), (n3 % 65536), 0, 0, 0, false, 0, [], (l.take m)⟩) 5 _ rfl rfl rfl).fld (p' := ⟨2, lf, pc, (n1 % 4294967296), (n2 % 4294967296), (n3 % 65536), (n4 % 65536), 0, 0, false, 0, [], (l.take m)⟩) 6 _ rfl rfl rfl).fld (p' := ⟨2, lf, pc, (n1 % 4294967296), (n2 % 4294967296), (n3 % 65536), (n4 % 65536), 0, (n5 % 65536), false, 0, [], (l.take m)⟩) 8 _ rfl rfl rfl).fld (p' := ⟨2, lf, pc, (n1 % 4294967296), (n2 % 4294967296), (n3 % 65536), (n4 % 65536), 0, (n5 % 65536), (n6 % 4 == 0), 0, [], (l.take m)⟩) 9 _ rfl rfl rfl).arr).2.2.2.2.2.2.1⟩ (fun hHeld => ?_)
        clear hK K
        refine done_ (by kernel_rfl) ?_
        generalize hW : World.setCell _ _ _ = w7
        have HM5 : Aside0 (MkSt w w7 g [n0, n1, n2, n3, n4, n5, n6, n7] ⟨2, lf, pc, (n1 % 4294967296), (n2 % 4294967296), (n3 % 65536), (n4 % 65536), 0, (n5 % 65536), (n6 % 4 == 0), 0, [], (l.take m)⟩ (.slice none 0 0) (.slice A3 m c3)) := am_ (by rw [← hW]; exact ((((HM3.out.fld (p' := ⟨2, lf, pc, (n1 % 4294967296), (n2 % 4294967296), (n3 % 65536), 0, 0, 0, false, 0, [], (l.take m)⟩) 5 _ rfl rfl rfl).fld (p' := ⟨2, lf, pc, (n1 % 4294967296), (n2 % 4294967296), (n3 % 65536), (n4 % 65536), 0, 0, false, 0, [], (l.take m)⟩) 6 _ rfl rfl rfl).fld (p' := ⟨2, lf, pc, (n1 % 4294967296), (n2 % 4294967296), (n3 % 65536), (n4 % 65536), 0, (n5 % 65536), false, 0, [], (l.take m)⟩) 8 _ rfl rfl rfl).fld (p' := ⟨2, lf, pc, (n1 % 4294967296), (n2 % 4294967296), (n3 % 65536), (n4 % 65536), 0, (n5 % 65536), (n6 % 4 == 0), 0, [], (l.take m)⟩) 9 _ rfl rfl rfl))
        clear hW
        generalize hW : World.drew w7 = w8
        have HM4 : Aside0 (MkSt w w8 g [n0, n1, n2, n3, n4, n5, n6, n7] ⟨2, lf, pc, (n1 % 4294967296), (n2 % 4294967296), (n3 % 65536), (n4 % 65536), 0, (n5 % 65536), (n6 % 4 == 0), 0, [], (l.take m)⟩ (.slice none 0 0) (.slice A3 m c3)) := am_ (by rw [← hW]; exact HM5.out.drew)
        clear hW HM5 hHeld hm3 hm4 hm5 hm6 a0_ a1_ a2_ a3_ a4_ a5_ a6_ a7_ k0 k1 k2 k3 k4 k5 k6 k7 k8 k9 k10 k11 k12 u0_ u1_ u2_ u3_ u4_ u5_ u6_ u7_ u8_ u9_ u10_ u11_ u12_
        go_wp2
        go_meet
        exact ⟨_, _, (by rw [HMQ.out]; exact HM4.out)⟩
      · skip
        have HMQ := am_ (show makeP kind ns l = ⟨3, lf, pc, (n1 % 4294967296), (n2 % 4294967296), 0, 0, 0, 0, false, (n3 % 256), [], (fillL n4 (24 - m) (l.take m))⟩ from by
          unfold makeP nthL
          rw [HN8.out, HKIND.out, HM0.out, HLF.out, HPC.out]
          rfl)
        have HM3 := am_ (show MkSt w _ g [n0, n1, n2, n3, n4, n5, n6, n7] ⟨3, lf, pc, (n1 % 4294967296), (n2 % 4294967296), 0, 0, 0, 0, false, 0, [], (l.take m)⟩ (.slice none 0 0) (.slice A3 m c3) from HM3.out)
        clear a0_ a1_ a2_ a3_ a4_ a5_ a6_ a7_ k0 k1 k2 k3 k4 k5 k6 k7 k8 k9 k10 k11 k12 u0_ u1_ u2_ u3_ u4_ u5_ u6_ u7_ u8_ u9_ u10_ u11_ u12_
        obtain ⟨a0_, a1_, a2_, a3_, a4_, a5_, a6_, a7_⟩ := a8 HM3.out.arr
        obtain ⟨k0, k1, k2, k3, k4, k5, k6, k7, k8, k9, k10, k11, k12⟩ := c13 HM3.out.blk
        obtain ⟨u0_, u1_, u2_, u3_, u4_, u5_, u6_, u7_, u8_, u9_, u10_, u11_, u12_⟩ := f13 HM3.out.blk
        go_upto_block 5 with fail
        generalize hW : World.setCell _ _ _ = w7
        have HM4 : Aside0 (MkSt w w7 g [n0, n1, n2, n3, n4, n5, n6, n7] ⟨3, lf, pc, (n1 % 4294967296), (n2 % 4294967296), 0, 0, 0, 0, false, (n3 % 256), [], (l.take m)⟩ (.slice none 0 0) (.slice A3 m c3)) := am_ (by rw [← hW]; exact HM3.out.fld 10 _ rfl rfl rfl)
        clear hW
        clear a0_ a1_ a2_ a3_ a4_ a5_ a6_ a7_ k0 k1 k2 k3 k4 k5 k6 k7 k8 k9 k10 k11 k12 u0_ u1_ u2_ u3_ u4_ u5_ u6_ u7_ u8_ u9_ u10_ u11_ u12_
        obtain ⟨R, hR⟩ : ∃ R, fillL n4 (24 - m) (l.take m) = R := ⟨_, rfl⟩
        have HR0 := am_ hR
        clear hR
        go_wp2
        go_loopg [] (24 - m) (fun kq w' => ∃ (dt : List Int) (A4 : Option Addr) (c4 : Nat), Aside (kq = 24 - dt.length) ∧ Aside (fillL n4 kq dt = R) ∧ Aside (dt.length ≤ 200) ∧ MkSt w w' g [n0, n1, n2, n3, n4, n5, n6, n7] ⟨3, lf, pc, (n1 % 4294967296), (n2 % 4294967296), 0, 0, 0, 0, false, (n3 % 256), [], dt⟩ (.slice none 0 0) (.slice A4 dt.length c4))
        case atStart =>
          have hlen : (l.take m).length = m := by rw [List.length_take]; exact Nat.min_eq_left HML.out
          exact ⟨l.take m, A3, c3, (by show _ = _; rw [hlen]), HR0.out, (by show _ ≤ _; rw [hlen]; have := HM0.out; omega), (by rw [hlen]; exact HM4.out)⟩
        case round =>
          obtain ⟨dt, A4, c4, hk, hr, h2, hm⟩ := hrel
          have HK := am_ hk.out
          have HRR := am_ hr.out
          have H2 := am_ h2.out
          have HMa := am_ hm
          clear hk hr h2 hm HM4
          obtain ⟨a0_, a1_, a2_, a3_, a4_, a5_, a6_, a7_⟩ := a8 HMa.out.arr
          obtain ⟨k0, k1, k2, k3, k4, k5, k6, k7, k8, k9, k10, k11, k12⟩ := c13 HMa.out.blk
          obtain ⟨u0_, u1_, u2_, u3_, u4_, u5_, u6_, u7_, u8_, u9_, u10_, u11_, u12_⟩ := f13 HMa.out.blk
          by_cases hlt : dt.length < 24
          · have hdl : decide ((dt.length : Int) < 24) = true := decide_eq_true (by omega)
            have hdn : decide (dt.length < 24) = true := decide_eq_true (by omega)
            have HGK := am_ (show 0 < gk from by have := HK.out; omega)
            clear hlt
            go_wp2_with (first | ((with_reducible refine gate_dst (N := 123) rfl ?_); refine Kd.R_lit (Kd.int .u8) (w0 := wr) (w.heap.size + 2) 5 ?hg (N := 123) ?hd (xs := ([n4 / 2 ^ (dt.length % 8) % 256] : List Int)) (inner := [.int .u8 (n4 / 2 ^ (dt.length % 8) % 256)]) (ok := fun _ => True) (okp := fun _ => True) ?hr ?hp (fun _ hk => hk) trivial (Below.refl _ _) (blk_lt HMa.out.arr) (by simp) ?_; (case hd => rfl); (case hg => rfl); (case hr => first | (go_simp; done) | (go_simp; rfl)); (case hp => exact (Reps.one (show Kd.M (Kd.int .u8) _ _ _ (n4 / 2 ^ (dt.length % 8) % 256) [.int .u8 (n4 / 2 ^ (dt.length % 8) % 256)] from rfl) (Reps.none _ _))); intro v3 w3 ho hb hg hat; have HMb := am_ (HMa.out.quiet hg); have HLI := am_ ho; have HB3 := am_ hb; obtain ⟨Al, cl, el⟩ := Kd.R_slice HLI.out; subst el; have HLC := am_ (Kd.R_reads' HLI.out); clear ho hb hg hat) | ((with_reducible refine gate_builtin (b := .append) (xs := #[.tmp 113, .tmp 123]) rfl ?_); at_builtin; refine Kd.R_append_rows (Kd.int .u8) (w0 := wr) (w.heap.size + 2) rfl (.tmp 113) (.tmp 123) 23 5 (.int .u8 0) 1 rfl Try.underlying23 info5 rfl (by decide) (by omega) (.slice A4 dt.length c4) dt [n4 / 2 ^ (dt.length % 8) % 256] Al 1 cl (fun _ => True) (fun _ => False) rfl rfl HMb.out.rd HLC.out.2.2 (fun _ _ h => h) (fun _ h => h.elim) (fun _ _ => trivial) HB3.out (Nat.le_trans (blk_lt HMa.out.arr) HB3.out.size) (by have := H2.out; omega) ?_; intro v4 w4 ho hb hg hat; have hz_ := (hg.block g (blk_lt HMb.out.blk) (fun e => HMb.out.nd e.symm)).trans HMb.out.blk; clear a0_ a1_ a2_ a3_ a4_ a5_ a6_ a7_ k0 k1 k2 k3 k4 k5 k6 k7 k8 k9 k10 k11 k12 u0_ u1_ u2_ u3_ u4_ u5_ u6_ u7_ u8_ u9_ u10_ u11_ u12_; obtain ⟨k0, k1, k2, k3, k4, k5, k6, k7, k8, k9, k10, k11, k12⟩ := c13 hz_; obtain ⟨u0_, u1_, u2_, u3_, u4_, u5_, u6_, u7_, u8_, u9_, u10_, u11_, u12_⟩ := f13 hz_; have HMc := am_ (HMb.out.data hg ho (HMa.out.below.trans (hb.mono (by omega))) hat); obtain ⟨A5, c5, e5⟩ := Kd.R_slice ho; subst e5; clear hz_ ho hb hg hat))
            have HRN := am_ (show fillL n4 (gk - 1) (dt ++ [n4 / 2 ^ (dt.length % 8) % 256]) = R from by
              have h1 := HRR.out
              obtain ⟨q, hq⟩ : ∃ q, gk = q + 1 := ⟨gk - 1, by have := HGK.out; omega⟩
              rw [hq] at h1 ⊢
              exact h1)
            have HLN := am_ (show (dt ++ [n4 / 2 ^ (dt.length % 8) % 256]).length = dt.length + 1 from by simp)
            go_roundg (gk - 1)
            case measure => have := HGK.out; omega
            case rel => exact ⟨_, A5, c5, (by show _ = _; have := HK.out; rw [HLN.out]; omega), HRN.out, (by show _ ≤ _; rw [HLN.out]; have := HK.out; have := HGK.out; omega), (by first | exact HMc.out | (have h_ := HMc.out; simp only [HLN.out] at h_ ⊢; exact h_))⟩
          · have hdl : decide ((dt.length : Int) < 24) = false := decide_eq_false (by omega)
            have hdn : decide (dt.length < 24) = false := decide_eq_false (by omega)
            have HLR : Aside0 (dt = R) := am_ (by have h1 := HRR.out; rw [HK.out, show 24 - dt.length = 0 by omega] at h1; exact h1)
            clear hlt
            go_wp2_with fail
            go_meet
            exact ⟨_, _, (by rw [HMQ.out, HR0.out, ← HLR.out]; exact HMa.out)⟩
    case rest =>
    obtain ⟨vo, vd, hm9⟩ := hcut
    obtain ⟨MQ, hMQ⟩ : ∃ P, makeP kind ns l = P := ⟨_, rfl⟩
    rw [hMQ] at hm9
    have HMQ := am_ hMQ
    clear hMQ
    obtain ⟨Ao, co, eo⟩ := Kd.R_slice hm9.out.ro
    subst eo
    obtain ⟨Ad, cd, ed⟩ := Kd.R_slice hm9.out.rd
    subst ed
    have HM4 := am_ hm9.out
    clear hm9 HM3
    clear a0_ a1_ a2_ a3_ a4_ a5_ a6_ a7_ k0 k1 k2 k3 k4 k5 k6 k7 k8 k9 k10 k11 k12 u0_ u1_ u2_ u3_ u4_ u5_ u6_ u7_ u8_ u9_ u10_ u11_ u12_
    obtain ⟨k0, k1, k2, k3, k4, k5, k6, k7, k8, k9, k10, k11, k12⟩ := c13 HM4.out.blk
    obtain ⟨r0_, r1_, r2_, r3_, r4_, r5_, r6_, r7_, r8_, r9_, r10_, r11_, r12_⟩ := c13 HM4.out.zero
    obtain ⟨z0_, z1_, z2_, z3_, z4_, z5_, z6_, z7_, z8_, z9_, z10_, z11_, z12_⟩ := f13 HM4.out.zero
    go_wp2
    (try simp only [Exit.inBlock, Exit.then])
    have HMP2 := am_ (fun e w' (h : Made w MQ e w') => (by rw [HMQ.out]; exact h : Made w (makeP kind ns l) e w'))
    refine bodyPost_ret (v := pkV MQ (.slice Ao MQ.opts.length co) (.slice Ad MQ.data.length cd)) ?_ rfl (HMP2.out _ _ (made_of HM4.out (by have := HM4.out.hg; omega) rfl rfl))
    · rw [results_c rfl]
      go_simp
      rfl
theorem make_calls {A B : Option Addr} {c d n m : Nat} {ns l : List Int} {w : World} (kind : Int) (hn : Kd.C (Kd.int .i64) w A n ns) (hnn : ns.length = n) (hnc : n ≤ c) (hnl : n ≤ 140737488351232) (hr : Kd.C (Kd.int .u8) w B m l) (hm : l.length = m) (hc : m ≤ d) (hl : m ≤ 140737488351232) (hb : Bytes l) :
    Calls Try.prog 10 #[.int .i64 kind, .slice A n c, .slice B m d] w (Made w (makeP kind ns l)) := by
  subst hnn hm
  have h3 : kind % 3 = 0 ∨ kind % 3 = 1 ∨ kind % 3 = 2 := by omega
  exact make_all rfl h3 hn hnc hnl hr hc hl hb
theorem shB_b (x : Int) (j : Nat) : 0 ≤ shB x j ∧ shB x j ≤ 255 := by unfold shB; omega
theorem one_byte {x : Int} (h0 : 0 ≤ x) (h1 : x ≤ 255) : Bytes [x] := by intro y hy; simp at hy; omega
theorem fillL_len (x : Int) : ∀ (k : Nat) (d : List Int), (fillL x k d).length = d.length + k
  | 0, _ => rfl
  | k + 1, d => by rw [fillL, fillL_len x k]; simp; omega
theorem fillL_bytes (x : Int) : ∀ (k : Nat) {d : List Int}, Bytes d → Bytes (fillL x k d)
  | 0, _, h => h
  | k + 1, d, h => fillL_bytes x k (h.app (one_byte (shB_b ..).1 (shB_b ..).2))
theorem optsL_len (x : Int) : ∀ (k : Nat), (optsL x k).length = k
  | 0 => rfl
  | k + 1 => by rw [optsL]; simp [optsL_len x k]
theorem optsL_bytes (x : Int) : ∀ (k : Nat), Bytes (optsL x k)
  | 0 => bytes_nil
  | k + 1 => (optsL_bytes x k).app (one_byte (shB_b ..).1 (shB_b ..).2)
/-- A packet that is laid as it is read. -/
structure Canon (p : Pk) : Prop where
  bo : Bytes p.opts
  bd : Bytes p.data
  s : p.kind = 1 → p.label = 0 ∧ p.bare = false ∧ p.code = 0
  g : p.kind = 2 → p.flags = 0 ∧ p.code = 0 ∧ p.opts = []
  f : p.kind = 3 → p.fp = 0 ∧ p.tp = 0 ∧ p.flags = 0 ∧ p.label = 0 ∧ p.bare = false ∧ p.opts = []
theorem lifeQ_b {n : Int} (h : 0 ≤ n) : 0 ≤ lifeQ n ∧ lifeQ n ≤ 255 := by unfold lifeQ; split <;> omega
theorem pieceQ_b {n : Int} (h : 0 ≤ n) : 0 ≤ pieceQ n ∧ pieceQ n ≤ 255 := by unfold pieceQ; split <;> omega
theorem rgB_true {n m : Int} (h0 : 0 ≤ n) (h1 : n ≤ m) : rgB n m = true := by unfold rgB; rw [decide_eq_true h0, decide_eq_true h1]; rfl
/-- What Make makes may be. -/
structure MkOk (p : Pk) : Prop where
  e : buildE p = 0
  c : Canon p
  o : p.opts.length ≤ 40
  d : p.data.length ≤ 200
theorem makeP_ok (kind : Int) {ns l : List Int} (hb : Bytes l) : MkOk (makeP kind ns l) ∧ (makeP kind ns l).kind = 1 + kind % 3 := by
  have bn := fun i => arrL_b (ns := ns) (k := min 8 ns.length) (i := i)
  have nb : ∀ i, 0 ≤ nthL ns i ∧ nthL ns i < 1099511627776 := bn
  unfold makeP
  have hq : kind % 3 = 0 ∨ kind % 3 = 1 ∨ kind % 3 = 2 := by omega
  obtain ⟨m, hm⟩ : ∃ m, min l.length 200 = m := ⟨_, rfl⟩
  have lt : (l.take m).length = m := by rw [List.length_take]; omega
  have e0 := nb 0
  have e1 := nb 1
  have e2 := nb 2
  have e3 := nb 3
  have e4 := nb 4
  have e5 := nb 5
  have e6 := nb 6
  rw [hm]
  generalize nthL ns 0 = n0 at e0 ⊢
  generalize nthL ns 1 = n1 at e1 ⊢
  generalize nthL ns 2 = n2 at e2 ⊢
  generalize nthL ns 3 = n3 at e3 ⊢
  generalize nthL ns 4 = n4 at e4 ⊢
  generalize nthL ns 5 = n5 at e5 ⊢
  generalize nthL ns 6 = n6 at e6 ⊢
  generalize nthL ns 7 = n7
  have lb := lifeQ_b e0.1
  have pb := pieceQ_b e0.1
  have b1 : rgB (lifeQ n0) 255 = true := rgB_true lb.1 lb.2
  have b2 : rgB (pieceQ n0) 255 = true := rgB_true pb.1 pb.2
  have b3 : rgB (n1 % 4294967296) 4294967295 = true := rgB_true (by omega) (by omega)
  have b4 : rgB (n2 % 4294967296) 4294967295 = true := rgB_true (by omega) (by omega)
  have b5 : rgB (n3 % 65536) 65535 = true := rgB_true (by omega) (by omega)
  have b6 : rgB (n4 % 65536) 65535 = true := rgB_true (by omega) (by omega)
  have b7 : rgB (n5 % 65536) 65535 = true := rgB_true (by omega) (by omega)
  have b8 : rgB (n5 % 16) 15 = true := rgB_true (by omega) (by omega)
  have b9 : rgB (n3 % 256) 255 = true := rgB_true (by omega) (by omega)
  have hbt := hb.take m
  rcases hq with h | h | h
  · rw [h]
    have e : makeQ 0 n0 n1 n2 n3 n4 n5 n6 n7 m l = ⟨1, lifeQ n0, pieceQ n0, n1 % 4294967296, n2 % 4294967296, n3 % 65536, n4 % 65536, n5 % 16, 0, false, 0, optsL n7 (n6 % 41).toNat, l.take m⟩ := rfl
    rw [e]
    have hol := optsL_len n7 (n6 % 41).toNat
    refine ⟨⟨?_, ⟨optsL_bytes _ _, hbt, fun _ => ⟨rfl, rfl, rfl⟩, (fun h => by cases h), (fun h => by cases h)⟩, by dsimp only; omega, by dsimp only; omega⟩, rfl⟩
    unfold buildE okR nL
    dsimp only
    rw [b1, b2, b3, b4, b5, b6, b8, if_neg (by decide), if_neg (by simp), if_neg (by omega), if_neg]
    rw [if_pos rfl]; omega
  · rw [h]
    have e : makeQ 1 n0 n1 n2 n3 n4 n5 n6 n7 m l = ⟨2, lifeQ n0, pieceQ n0, n1 % 4294967296, n2 % 4294967296, n3 % 65536, n4 % 65536, 0, n5 % 65536, n6 % 4 == 0, 0, [], l.take m⟩ := rfl
    rw [e]
    refine ⟨⟨?_, ⟨bytes_nil, hbt, (fun h => by cases h), fun _ => ⟨rfl, rfl, rfl⟩, (fun h => by cases h)⟩, by simp, by dsimp only; omega⟩, rfl⟩
    unfold buildE okR nL
    dsimp only
    rw [b1, b2, b3, b4, b5, b6, b7, if_neg (by decide), if_neg (by simp), if_neg (by simp), if_neg]
    rw [if_neg (by decide), if_neg (by decide)]; omega
  · rw [h]
    have e : makeQ 2 n0 n1 n2 n3 n4 n5 n6 n7 m l = ⟨3, lifeQ n0, pieceQ n0, n1 % 4294967296, n2 % 4294967296, 0, 0, 0, 0, false, n3 % 256, [], fillL n4 (24 - m) (l.take m)⟩ := rfl
    rw [e]
    have hfl := fillL_len n4 (24 - m) (l.take m)
    refine ⟨⟨?_, ⟨bytes_nil, fillL_bytes _ _ hbt, (fun h => by cases h), (fun h => by cases h), fun _ => ⟨rfl, rfl, rfl, rfl, rfl, rfl⟩⟩, by simp, by dsimp only; omega⟩, rfl⟩
    unfold buildE okR nL
    dsimp only
    rw [b1, b2, b3, b4, b9, if_neg (by decide), if_neg (by simp), if_neg (by simp), if_neg]
    rw [if_neg (by decide), if_pos rfl]; omega
/-- Make's packet, in slices. -/
def MadeS (w : World) (p : Pk) (e : Ending) (w' : World) : Prop :=
  ∃ (A1 : Option Addr) (c1 : Nat) (A2 : Option Addr) (c2 : Nat), e = .returned (pkV p (.slice A1 p.opts.length c1) (.slice A2 p.data.length c2)) ∧ RB w.heap.size w' (.slice A1 p.opts.length c1) p.opts ∧ RB w.heap.size w' (.slice A2 p.data.length c2) p.data ∧
    (∀ k, (Value.slice A1 p.opts.length c1).ownBlock = some k → (Value.slice A2 p.data.length c2).ownBlock ≠ some k) ∧ Below w.heap.size w w'
theorem made_s {w w' : World} {p : Pk} {e : Ending} (h : Made w p e w') : MadeS w p e w' := by
  obtain ⟨vo, vd, he, h1, h2, h3, h4⟩ := h
  obtain ⟨A1, c1, rfl⟩ := Kd.R_slice h1
  obtain ⟨A2, c2, rfl⟩ := Kd.R_slice h2
  exact ⟨A1, c1, A2, c2, he, h1, h2, h3, h4⟩
theorem getD_app_l {a b : List Int} {i : Nat} (h : i < a.length) : (a ++ b).getD i 0 = a.getD i 0 := by
  rw [List.getD_eq_getElem?_getD, List.getD_eq_getElem?_getD, List.getElem?_append_left h]
theorem getD_app_r {a b : List Int} {i : Nat} (h : a.length ≤ i) : (a ++ b).getD i 0 = b.getD (i - a.length) 0 := by
  rw [List.getD_eq_getElem?_getD, List.getD_eq_getElem?_getD, List.getElem?_append_right h]
/-- What a head says. -/
structure HeadOf (l : List Int) (n : Nat) (kind life piece frm dst : Int) : Prop where
  k : l.getD 0 0 = kind
  l1 : l.getD 1 0 = life
  pc : l.getD 12 0 = piece
  z : l.getD 13 0 = 0
  n : numL l 2 2 = (n : Int)
  f : numL l 4 4 = frm
  d : numL l 8 4 = dst
  s : fold (pairs (l.take 16)) = 65535
theorem h4R_of {n : Nat} {kind life piece frm dst : Int} (hn : n ≤ 1500) (k0 : 1 ≤ kind) (k1 : kind ≤ 3) (l0 : 0 ≤ life) (l1 : life ≤ 255) (p0 : 0 ≤ piece) (p1 : piece ≤ 255) (f0 : 0 ≤ frm) (f1 : frm ≤ 4294967295) (d0 : 0 ≤ dst) (d1 : dst ≤ 4294967295) :
    HeadOf (h4R n kind life piece frm dst) n kind life piece frm dst ∧ Bytes (h4R n kind life piece frm dst) := by
  obtain ⟨Z, hZ⟩ : ∃ Z, Z = (((List.replicate 16 (0 : Int)).set 0 (kind % 256)).set 1 (life % 256)).set 12 (piece % 256) := ⟨_, rfl⟩
  have zl : Z.length = 16 := by rw [hZ]; simp
  have zb : Bytes Z := by
    rw [hZ]
    refine Bytes.set (Bytes.set (Bytes.set ?_ _ (by omega) (by omega)) _ (by omega) (by omega)) _ (by omega) (by omega)
    intro x hx; have := List.eq_of_mem_replicate hx; omega
  have z0 : Z.getD 0 0 = kind := by rw [hZ, getD_set_ne (by omega), getD_set_ne (by omega), getD_set_eq (by simp)]; omega
  have z1 : Z.getD 1 0 = life := by rw [hZ, getD_set_ne (by omega), getD_set_eq (by simp)]; omega
  have z12 : Z.getD 12 0 = piece := by rw [hZ, getD_set_eq (by simp)]; omega
  have z13 : Z.getD 13 0 = 0 := by rw [hZ, getD_set_ne (by omega), getD_set_ne (by omega), getD_set_ne (by omega)]; rfl
  have z14 : pr Z 14 = 0 := by
    unfold pr
    rw [hZ, getD_set_ne (by omega), getD_set_ne (by omega), getD_set_ne (by omega), getD_set_ne (by omega), getD_set_ne (by omega), getD_set_ne (by omega)]; rfl
  obtain ⟨H, hH⟩ : ∃ H, H = putL (putL (putL Z 2 2 (n : Int)) 4 4 frm) 8 4 dst := ⟨_, rfl⟩
  have e3 : h3R n kind life piece frm dst = H := by rw [hH, hZ]; rfl
  have hl : H.length = 16 := by rw [← e3]; exact h3R_len ..
  have hb : Bytes H := by rw [hH]; exact putL_bytes _ _ _ (putL_bytes _ _ _ (putL_bytes _ _ _ zb))
  obtain ⟨v, hv⟩ : ∃ v, v = 65535 - fold (pairs H) := ⟨_, rfl⟩
  have fb := @fold_bounds (pairs H)
  have e4 : h4R n kind life piece frm dst = putL H 14 2 v := by unfold h4R; rw [e3, hv]
  have far : ∀ j, j < 14 → (putL H 14 2 v).getD j 0 = H.getD j 0 := fun j hj => putL_far _ _ _ _ _ (by omega)
  have farH : ∀ j, (j < 2 ∨ 12 ≤ j) → H.getD j 0 = Z.getD j 0 := fun j hj => by
    rw [hH, putL_far _ _ _ _ _ (by omega), putL_far _ _ _ _ _ (by omega), putL_far _ _ _ _ _ (by omega)]
  have i2 : (256 : Int) ^ 2 = 65536 := by decide
  have i4 : (256 : Int) ^ 4 = 4294967296 := by decide
  have h16 : H.take 16 = H := List.take_of_length_le (by omega)
  rw [e4]
  refine ⟨⟨by rw [far 0 (by omega), farH 0 (by omega), z0], by rw [far 1 (by omega), farH 1 (by omega), z1], by rw [far 12 (by omega), farH 12 (by omega), z12], by rw [far 13 (by omega), farH 13 (by omega), z13], ?_, ?_, ?_, ?_⟩, putL_bytes _ _ _ hb⟩
  · rw [numL_putL_far _ _ _ _ _ (by omega), hH, numL_putL_far _ _ _ _ _ (by omega), numL_putL_far _ _ _ _ _ (by omega), numL_putL _ _ _ _ (by omega) (by omega) (by omega)]
  · rw [numL_putL_far _ _ _ _ _ (by omega), hH, numL_putL_far _ _ _ _ _ (by omega), numL_putL _ _ _ _ (by rw [putL_len]; omega) (by omega) (by omega)]
  · rw [numL_putL_far _ _ _ _ _ (by omega), hH, numL_putL _ _ _ _ (by rw [putL_len, putL_len]; omega) (by omega) (by omega)]
  · have hp := head_pos hb (by omega) (by rw [farH 0 (by omega), z0]; exact k0)
    have m := fold_mod hp
    rw [h16] at hp m
    have e14 : pr H 14 = 0 := by unfold pr; rw [farH 14 (by omega), farH (14 + 1) (by omega)]; exact z14
    rw [head_put (by omega) (by omega) (by omega), h16, e14, hv, fold_right (by omega)]
    omega
theorem HeadOf.congr {l m : List Int} {n : Nat} {kind life piece frm dst : Int} (h : HeadOf l n kind life piece frm dst) (hl : 16 ≤ l.length) (hm : 16 ≤ m.length) (hh : ∀ j, j < 16 → m.getD j 0 = l.getD j 0) : HeadOf m n kind life piece frm dst := by
  have e : m.take 16 = l.take 16 := by
    refine ext_getD (by simp; omega) fun j hj => ?_
    rw [List.length_take] at hj
    rw [getD_take (by omega), getD_take (by omega)]; exact hh _ (by omega)
  exact ⟨by rw [hh 0 (by omega), h.k], by rw [hh 1 (by omega), h.l1], by rw [hh 12 (by omega), h.pc], by rw [hh 13 (by omega), h.z], by rw [numL_congr 2 2 (fun j _ _ => hh j (by omega)), h.n], by rw [numL_congr 4 4 (fun j _ _ => hh j (by omega)), h.f], by rw [numL_congr 8 4 (fun j _ _ => hh j (by omega)), h.d], by rw [e, h.s]⟩
theorem sumL_b {k : Int} {b : Bool} {l : List Int} : 0 ≤ sumL k b l ∧ sumL k b l ≤ 65535 := by
  have := @fold_bounds (pairs (summedL l))
  unfold sumL; repeat' split
  all_goals omega
theorem sumL_mod {k : Int} {b : Bool} {l : List Int} (hp : 0 < pairs (summedL l)) (h : ¬ (k = 2 ∧ b = true)) : (pairs (summedL l) + sumL k b l) % 65535 = 0 := by
  have m := fold_mod hp
  unfold sumL
  rw [if_neg h]
  split <;> omega
theorem sumL_zero {b : Bool} {l : List Int} : sumL 2 b l = 0 ↔ b = true := by
  unfold sumL
  cases b with
  | true => simp
  | false =>
    rw [if_neg (by simp)]
    constructor
    · intro h
      by_cases h0 : 65535 - fold (pairs (summedL l)) = 0
      · rw [if_pos ⟨rfl, h0⟩] at h; cases h
      · rw [if_neg (fun x => h0 x.2)] at h; exact absurd h h0
    · intro h; cases h
theorem rgB_of {n m : Int} (h : rgB n m = true) : 0 ≤ n ∧ n ≤ m := by
  unfold rgB at h
  simpa using h
/-- What may be built. -/
theorem built_of {p : Pk} (h : buildE p = 0) : (1 ≤ p.kind ∧ p.kind ≤ 3) ∧ (0 ≤ p.life ∧ p.life ≤ 255) ∧ (0 ≤ p.piece ∧ p.piece ≤ 255) ∧ (0 ≤ p.frm ∧ p.frm ≤ 4294967295) ∧ (0 ≤ p.dst ∧ p.dst ≤ 4294967295) ∧ nL p ≤ 1500 ∧
    (p.kind = 3 → (0 ≤ p.code ∧ p.code ≤ 255) ∧ 24 ≤ p.data.length) ∧ (p.kind ≠ 3 → (0 ≤ p.fp ∧ p.fp ≤ 65535) ∧ (0 ≤ p.tp ∧ p.tp ≤ 65535)) ∧ (p.kind = 2 → 0 ≤ p.label ∧ p.label ≤ 65535) ∧ (p.kind = 1 → (0 ≤ p.flags ∧ p.flags ≤ 15) ∧ p.opts.length ≤ 40) := by
  unfold buildE at h
  by_cases hk : 1 ≤ p.kind ∧ p.kind ≤ 3
  · rw [if_neg (fun x => x hk)] at h
    by_cases ho : okR p = false
    · rw [if_pos ho] at h; cases h
    · rw [if_neg ho] at h
      have ho' : okR p = true := by simpa using ho
      by_cases h5 : p.kind = 1 ∧ 40 < p.opts.length
      · rw [if_pos h5] at h; cases h
      · rw [if_neg h5] at h
        by_cases h6 : (p.kind = 3 ∧ p.data.length < 24) ∨ 1500 < nL p
        · rw [if_pos h6] at h; cases h
        · unfold okR at ho'
          simp only [Bool.and_eq_true] at ho'
          obtain ⟨⟨⟨⟨a, b⟩, c⟩, d⟩, e⟩ := ho'
          refine ⟨hk, rgB_of a, rgB_of b, rgB_of c, rgB_of d, by omega, ?_, ?_, ?_, ?_⟩
          · intro h3
            rw [if_pos h3] at e
            exact ⟨rgB_of e, by omega⟩
          · intro h3
            rw [if_neg h3] at e
            simp only [Bool.and_eq_true] at e
            exact ⟨rgB_of e.1.1, rgB_of e.1.2⟩
          · intro h2
            rw [if_neg (by omega), if_pos h2] at e
            simp only [Bool.and_eq_true] at e
            exact rgB_of e.2
          · intro h1
            rw [if_neg (by omega), if_neg (by omega)] at e
            simp only [Bool.and_eq_true] at e
            exact ⟨rgB_of e.2, by omega⟩
  · rw [if_pos hk] at h; cases h
theorem ok_head {l : List Int} {n : Nat} {kind life piece frm dst : Int} (h : HeadOf l n kind life piece frm dst) (hl : l.length = n) (h24 : 24 ≤ n) (hn : n ≤ 1500) (k0 : 1 ≤ kind) (k1 : kind ≤ 3) (f44 : kind = 3 → 44 ≤ n) (f17 : kind = 3 → l.getD 17 0 = 0) (s20 : kind = 1 → l.getD 20 0 ≤ 15) (s21 : kind = 1 → l.getD 21 0 ≤ 40) (rest : kind = 1 → restS l ≤ n) : Ok l := by
  have e := h.k
  exact ⟨by omega, by omega, by rw [h.n, hl], h.z, h.s, by omega, by omega, fun x => by have := f44 (by omega); omega, fun x => f17 (by omega), fun x => s20 (by omega), fun x => s21 (by omega), fun x => by rw [hl]; exact rest (by omega)⟩
theorem zeros_bytes (n : Nat) : Bytes (List.replicate n 0) := by intro x hx; have := List.eq_of_mem_replicate hx; omega
/-- Built, taken apart, whole. -/
theorem parse_build {p : Pk} (hE : buildE p = 0) (hc : Canon p) : Ok (buildL p) ∧ pkL (buildL p) = p ∧ wholeL (buildL p) = true ∧ (buildL p).length = nL p ∧ Bytes (buildL p) := by
  obtain ⟨p0, p1, p2, p3, p4, p5, p6, p7, p8, p9, p10, p11, p12⟩ := p
  obtain ⟨⟨k0, k1⟩, ⟨l0, l1⟩, ⟨q0, q1⟩, ⟨f0, f1⟩, ⟨d0, d1⟩, hn, c3, cp, c2, c1⟩ := built_of hE
  rw [← rbuildL_eq ⟨k0, k1⟩]
  obtain ⟨bo, bd, cs, cg, cf⟩ := hc
  dsimp only at *
  unfold rbuildL rbodyL
  dsimp only
  obtain ⟨n, hnn⟩ : ∃ n, nL ⟨p0, p1, p2, p3, p4, p5, p6, p7, p8, p9, p10, p11, p12⟩ = n := ⟨_, rfl⟩
  rw [hnn] at hn ⊢
  obtain ⟨hh, hhb⟩ := h4R_of (n := n) hn k0 k1 l0 l1 q0 q1 f0 f1 d0 d1
  have hhl := h4R_len n p0 p1 p2 p3 p4
  generalize h4R n p0 p1 p2 p3 p4 = H at hh hhb hhl ⊢
  have hk : p0 = 3 ∨ p0 = 2 ∨ p0 = 1 := by omega
  have i2 : (256 : Int) ^ 2 = 65536 := by decide
  rcases hk with rfl | rfl | rfl
  · -- a fault
    have hn2 : n = 20 + p12.length := by rw [← hnn]; rfl
    obtain ⟨⟨c30, c31⟩, d24⟩ := c3 rfl
    obtain ⟨rfl, rfl, rfl, rfl, rfl, rfl⟩ := cf rfl
    rw [if_pos rfl, if_pos rfl]
    obtain ⟨X, hX⟩ : ∃ X, X = H ++ [p10 % 256, 0, 0, 0] := ⟨_, rfl⟩
    have xl : X.length = 20 := by rw [hX, List.length_append, hhl]; rfl
    have xb : Bytes X := hX ▸ hhb.app (by intro x hx; simp at hx; omega)
    have xH : ∀ j, j < 16 → X.getD j 0 = H.getD j 0 := fun j hj => by rw [hX, getD_app_l (by omega)]
    have x16 : X.getD 16 0 = p10 := by rw [hX, getD_app_r (by omega), hhl]; show p10 % 256 = _; omega
    have x17 : X.getD 17 0 = 0 := by rw [hX, getD_app_r (by omega), hhl]; rfl
    have x18 : pr X 18 = 0 := by unfold pr; rw [hX, getD_app_r (by omega), getD_app_r (by omega), hhl]; rfl
    rw [← hX]
    obtain ⟨v, hv⟩ : ∃ v, v = sumL 3 false (X ++ p12) := ⟨_, rfl⟩
    have vb : 0 ≤ v ∧ v ≤ 65535 := by rw [hv]; exact sumL_b
    rw [← hv, putL_app _ _ _ _ _ (by omega)]
    obtain ⟨b, hb⟩ : ∃ b, b = putL X 18 2 v ++ p12 := ⟨_, rfl⟩
    have hb2 : b = putL (X ++ p12) 18 2 v := by rw [hb, putL_app _ _ _ _ _ (by omega)]
    have bl : b.length = n := by rw [hb, List.length_append, putL_len]; omega
    have yl : (putL X 18 2 v).length = 20 := by rw [putL_len, xl]
    have bb : Bytes b := hb ▸ (putL_bytes _ _ _ xb).app bd
    have g : ∀ j, j < 18 → b.getD j 0 = X.getD j 0 := fun j hj => by rw [hb, getD_app_l (by omega), putL_far _ _ _ _ _ (by omega)]
    have hd := hh.congr (m := b) (by omega) (by omega) (fun j hj => by rw [g j (by omega), xH j hj])
    have o : Ok b := ok_head hd bl (by omega) hn (by omega) (by omega) (fun _ => by omega) (fun _ => by rw [g 17 (by omega), x17]) (fun h => by cases h) (fun h => by cases h) (fun h => by cases h)
    have dd : b.drop 20 = p12 := by rw [hb]; exact List.drop_left' yl
    rw [← hb]
    have pk : pkL b = ⟨3, p1, p2, p3, p4, 0, 0, 0, 0, false, p10, [], p12⟩ := by
      unfold pkL
      rw [if_pos hd.k, hd.l1, hd.pc, hd.f, hd.d, g 16 (by omega), x16, dd]
    refine ⟨o, pk, ?_, bl, bb⟩
    rw [whole_iff bb o, pk]
    show (pairs (summedL b) % 65535 == 0) = true
    have P := summed_pos (l := X ++ p12) (xb.app bd) (by rw [List.length_append]; omega) (by rw [List.length_append]; omega) (by rw [getD_app_l (by omega), xH 0 (by omega), hh.k]; omega)
    have sm := sumL_mod (k := 3) (b := false) P (by simp)
    have pz : pr (X ++ p12) 18 = 0 := by unfold pr; rw [getD_app_l (by omega), getD_app_l (by omega)]; exact x18
    rw [← hv] at sm
    rw [hb2, summed_put (by rw [List.length_append]; omega) (by rw [List.length_append]; omega) (Or.inl rfl) vb.1 vb.2, pz, beq_iff_eq]
    omega
  · -- a gram
    have hn2 : n = 24 + p12.length := by rw [← hnn]; rfl
    obtain ⟨⟨fp0, fp1⟩, tp0, tp1⟩ := cp (by decide)
    obtain ⟨lb0, lb1⟩ := c2 rfl
    obtain ⟨rfl, rfl, rfl⟩ := cg rfl
    rw [if_neg (by decide), if_pos rfl, if_neg (by decide)]
    obtain ⟨Z, hZ⟩ : ∃ Z, Z = H ++ List.replicate 8 (0 : Int) := ⟨_, rfl⟩
    have zl : Z.length = 24 := by rw [hZ, List.length_append, hhl]; rfl
    have zb : Bytes Z := hZ ▸ hhb.app (zeros_bytes 8)
    have zH : ∀ j, j < 16 → Z.getD j 0 = H.getD j 0 := fun j hj => by rw [hZ, getD_app_l (by omega)]
    have z22 : pr Z 22 = 0 := by unfold pr; rw [hZ, getD_app_r (by omega), getD_app_r (by omega), hhl]; rfl
    rw [← hZ]
    obtain ⟨X, hX⟩ : ∃ X, X = putL (putL (putL Z 20 2 p8) 16 2 p5) 18 2 p6 := ⟨_, rfl⟩
    have xl : X.length = 24 := by rw [hX, putL_len, putL_len, putL_len, zl]
    have xb : Bytes X := hX ▸ putL_bytes _ _ _ (putL_bytes _ _ _ (putL_bytes _ _ _ zb))
    have xH : ∀ j, j < 16 → X.getD j 0 = H.getD j 0 := fun j hj => by rw [hX, putL_far _ _ _ _ _ (by omega), putL_far _ _ _ _ _ (by omega), putL_far _ _ _ _ _ (by omega), zH j hj]
    have x16 : numL X 16 2 = p5 := by rw [hX, numL_putL_far _ _ _ _ _ (by omega), numL_putL _ _ _ _ (by rw [putL_len]; omega) (by omega) (by omega)]
    have x18 : numL X 18 2 = p6 := by rw [hX, numL_putL _ _ _ _ (by rw [putL_len, putL_len]; omega) (by omega) (by omega)]
    have x20 : numL X 20 2 = p8 := by rw [hX, numL_putL_far _ _ _ _ _ (by omega), numL_putL_far _ _ _ _ _ (by omega), numL_putL _ _ _ _ (by omega) (by omega) (by omega)]
    have x22 : pr X 22 = 0 := by rw [hX, pr_far (by omega), pr_far (by omega), pr_far (by omega), z22]
    rw [← hX]
    obtain ⟨v, hv⟩ : ∃ v, v = sumL 2 p9 (X ++ p12) := ⟨_, rfl⟩
    have vb : 0 ≤ v ∧ v ≤ 65535 := by rw [hv]; exact sumL_b
    rw [← hv, putL_app _ _ _ _ _ (by omega)]
    obtain ⟨b, hb⟩ : ∃ b, b = putL X 22 2 v ++ p12 := ⟨_, rfl⟩
    have hb2 : b = putL (X ++ p12) 22 2 v := by rw [hb, putL_app _ _ _ _ _ (by omega)]
    have yl : (putL X 22 2 v).length = 24 := by rw [putL_len, xl]
    have bl : b.length = n := by rw [hb, List.length_append, yl]; omega
    have bb : Bytes b := hb ▸ (putL_bytes _ _ _ xb).app bd
    have g : ∀ j, j < 22 → b.getD j 0 = X.getD j 0 := fun j hj => by rw [hb, getD_app_l (by omega), putL_far _ _ _ _ _ (by omega)]
    have gn : ∀ i m, i + m ≤ 22 → numL b i m = numL X i m := fun i m h => numL_congr i m (fun j _ _ => g j (by omega))
    have hd := hh.congr (m := b) (by omega) (by omega) (fun j hj => by rw [g j (by omega), xH j hj])
    have o : Ok b := ok_head hd bl (by omega) hn (by omega) (by omega) (fun h => by cases h) (fun h => by cases h) (fun h => by cases h) (fun h => by cases h) (fun h => by cases h)
    have dd : b.drop 24 = p12 := by rw [hb]; exact List.drop_left' yl
    have n22 : numL b 22 2 = v := by rw [hb2, numL_putL _ _ _ _ (by rw [List.length_append]; omega) (by omega) (by omega)]
    have ebare : (numL b 22 2 == 0) = p9 := by
      rw [n22, hv]
      have := @sumL_zero p9 (X ++ p12)
      cases p9 with
      | true => exact beq_iff_eq.mpr (this.2 rfl)
      | false => exact beq_eq_false_iff_ne.mpr (fun h => by have := this.1 h; cases this)
    rw [← hb]
    have pk : pkL b = ⟨2, p1, p2, p3, p4, p5, p6, 0, p8, p9, 0, [], p12⟩ := by
      unfold pkL
      rw [if_neg (by rw [hd.k]; decide), if_pos hd.k, hd.l1, hd.pc, hd.f, hd.d, gn 16 2 (by omega), gn 18 2 (by omega), gn 20 2 (by omega), x16, x18, x20, ebare, dd]
    refine ⟨o, pk, ?_, bl, bb⟩
    rw [whole_iff bb o, pk]
    show (p9 || (pairs (summedL b) % 65535 == 0)) = true
    cases p9 with
    | true => rfl
    | false =>
      have P := summed_pos (l := X ++ p12) (xb.app bd) (by rw [List.length_append]; omega) (by rw [List.length_append]; omega) (by rw [getD_app_l (by omega), xH 0 (by omega), hh.k]; omega)
      have sm := sumL_mod (k := 2) (b := false) P (by simp)
      have pz : pr (X ++ p12) 22 = 0 := by unfold pr; rw [getD_app_l (by omega), getD_app_l (by omega)]; exact x22
      rw [← hv] at sm
      rw [Bool.false_or, hb2, summed_put (by rw [List.length_append]; omega) (by rw [List.length_append]; omega) (Or.inr rfl) vb.1 vb.2, pz, beq_iff_eq]
      omega
  · -- a stream
    have hn2 : n = 24 + p12.length + p11.length := by rw [← hnn]; rfl
    obtain ⟨⟨fp0, fp1⟩, tp0, tp1⟩ := cp (by decide)
    obtain ⟨⟨fl0, fl1⟩, ol⟩ := c1 rfl
    obtain ⟨rfl, rfl, rfl⟩ := cs rfl
    rw [if_neg (by decide), if_neg (by decide), if_neg (by decide)]
    obtain ⟨Z, hZ⟩ : ∃ Z, Z = H ++ List.replicate 8 (0 : Int) := ⟨_, rfl⟩
    have zl : Z.length = 24 := by rw [hZ, List.length_append, hhl]; rfl
    have zb : Bytes Z := hZ ▸ hhb.app (zeros_bytes 8)
    have zH : ∀ j, j < 16 → Z.getD j 0 = H.getD j 0 := fun j hj => by rw [hZ, getD_app_l (by omega)]
    have z22 : pr Z 22 = 0 := by unfold pr; rw [hZ, getD_app_r (by omega), getD_app_r (by omega), hhl]; rfl
    rw [← hZ]
    obtain ⟨X, hX⟩ : ∃ X, X = putL (putL ((Z.set 20 (p7 % 256)).set 21 ((p11.length : Int) % 256)) 16 2 p5) 18 2 p6 := ⟨_, rfl⟩
    have eX : putL (putL (((Z ++ p11).set 20 (p7 % 256)).set 21 ((p11.length : Int) % 256)) 16 2 p5) 18 2 p6 = X ++ p11 := by
      rw [hX, List.set_append_left _ _ (by omega), List.set_append_left _ _ (by rw [List.length_set]; omega), putL_app _ _ _ _ _ (by rw [List.length_set, List.length_set]; omega), putL_app _ _ _ _ _ (by rw [putL_len, List.length_set, List.length_set]; omega)]
    rw [eX]
    have xl : X.length = 24 := by rw [hX, putL_len, putL_len, List.length_set, List.length_set, zl]
    have xb : Bytes X := hX ▸ putL_bytes _ _ _ (putL_bytes _ _ _ ((zb.set _ (by omega) (by omega)).set _ (by omega) (by omega)))
    have xH : ∀ j, j < 16 → X.getD j 0 = H.getD j 0 := fun j hj => by rw [hX, putL_far _ _ _ _ _ (by omega), putL_far _ _ _ _ _ (by omega), getD_set_ne (by omega), getD_set_ne (by omega), zH j hj]
    have x16 : numL X 16 2 = p5 := by rw [hX, numL_putL_far _ _ _ _ _ (by omega), numL_putL _ _ _ _ (by rw [List.length_set, List.length_set]; omega) (by omega) (by omega)]
    have x18 : numL X 18 2 = p6 := by rw [hX, numL_putL _ _ _ _ (by rw [putL_len, List.length_set, List.length_set]; omega) (by omega) (by omega)]
    have x20 : X.getD 20 0 = p7 := by rw [hX, putL_far _ _ _ _ _ (by omega), putL_far _ _ _ _ _ (by omega), getD_set_ne (by omega), getD_set_eq (by omega)]; omega
    have x21 : X.getD 21 0 = (p11.length : Int) := by rw [hX, putL_far _ _ _ _ _ (by omega), putL_far _ _ _ _ _ (by omega), getD_set_eq (by rw [List.length_set]; omega)]; omega
    have x22 : pr X 22 = 0 := by
      rw [hX, pr_far (by omega), pr_far (by omega)]
      unfold pr
      rw [getD_set_ne (by omega), getD_set_ne (by omega), getD_set_ne (by omega), getD_set_ne (by omega)]
      exact z22
    obtain ⟨v, hv⟩ : ∃ v, v = sumL 1 false (X ++ p11 ++ p12) := ⟨_, rfl⟩
    have vb : 0 ≤ v ∧ v ≤ 65535 := by rw [hv]; exact sumL_b
    rw [← hv, List.append_assoc, putL_app _ _ _ _ _ (by omega)]
    rw [List.append_assoc] at hv
    obtain ⟨b, hb⟩ : ∃ b, b = putL X 22 2 v ++ (p11 ++ p12) := ⟨_, rfl⟩
    have hb2 : b = putL (X ++ (p11 ++ p12)) 22 2 v := by rw [hb, putL_app _ _ _ _ _ (by omega)]
    have yl : (putL X 22 2 v).length = 24 := by rw [putL_len, xl]
    have bl : b.length = n := by rw [hb, List.length_append, List.length_append, yl]; omega
    have bb : Bytes b := hb ▸ (putL_bytes _ _ _ xb).app (bo.app bd)
    have g : ∀ j, j < 22 → b.getD j 0 = X.getD j 0 := fun j hj => by rw [hb, getD_app_l (by omega), putL_far _ _ _ _ _ (by omega)]
    have gn : ∀ i m, i + m ≤ 22 → numL b i m = numL X i m := fun i m h => numL_congr i m (fun j _ _ => g j (by omega))
    have hd := hh.congr (m := b) (by omega) (by omega) (fun j hj => by rw [g j (by omega), xH j hj])
    have er : restS b = 24 + p11.length := by unfold restS; rw [g 21 (by omega), x21]; omega
    have o : Ok b := ok_head hd bl (by omega) hn (by omega) (by omega) (fun h => by cases h) (fun h => by cases h) (fun _ => by rw [g 20 (by omega), x20]; exact fl1) (fun _ => by rw [g 21 (by omega), x21]; omega) (fun _ => by rw [er]; omega)
    have dd : b.drop (restS b) = p12 := by
      rw [er, hb, ← List.append_assoc]
      exact List.drop_left' (by rw [List.length_append, yl])
    have dt : (b.take (restS b)).drop 24 = p11 := by
      rw [er, hb, ← List.append_assoc, List.take_left' (by rw [List.length_append, yl])]
      exact List.drop_left' yl
    rw [← hb]
    have pk : pkL b = ⟨1, p1, p2, p3, p4, p5, p6, p7, 0, false, 0, p11, p12⟩ := by
      unfold pkL
      rw [if_neg (by rw [hd.k]; decide), if_neg (by rw [hd.k]; decide), hd.l1, hd.pc, hd.f, hd.d, gn 16 2 (by omega), gn 18 2 (by omega), x16, x18, g 20 (by omega), x20, dd, dt]
    refine ⟨o, pk, ?_, bl, bb⟩
    rw [whole_iff bb o, pk]
    show (pairs (summedL b) % 65535 == 0) = true
    have P := summed_pos (l := X ++ (p11 ++ p12)) (xb.app (bo.app bd)) (by rw [List.length_append]; omega) (by rw [List.length_append, List.length_append]; omega) (by rw [getD_app_l (by omega), xH 0 (by omega), hh.k]; omega)
    have sm := sumL_mod (k := 1) (b := false) P (by simp)
    have pz : pr (X ++ (p11 ++ p12)) 22 = 0 := by unfold pr; rw [getD_app_l (by omega), getD_app_l (by omega)]; exact x22
    rw [← hv] at sm
    rw [hb2, summed_put (by rw [List.length_append]; omega) (by rw [List.length_append, List.length_append]; omega) (Or.inr rfl) vb.1 vb.2, pz, beq_iff_eq]
    omega
theorem summed_congr {l m : List Int} (hl : m.length = l.length) (hh : ∀ j, (j = 0 ∨ (4 ≤ j ∧ j < 12) ∨ 16 ≤ j) → m.getD j 0 = l.getD j 0) : summedL m = summedL l := by
  unfold summedL
  have e : (m.take 12).drop 4 = (l.take 12).drop 4 := by
    refine ext_getD (by simp [hl]) fun j hj => ?_
    simp only [List.length_drop, List.length_take] at hj
    rw [getD_drop, getD_drop, getD_take (by omega), getD_take (by omega)]; exact hh _ (by omega)
  rw [hh 0 (by omega), hl, e, drop_congr hl (fun j hj => hh j (by omega))]
/-- The same head, another sum over other bytes: it is right still. -/
theorem head_turn {was L : List Int} (hw : Bytes was) (hL : Bytes L) (hl : L.length = was.length) (h16 : 16 ≤ was.length) (hs : fold (pairs (was.take 16)) = 65535) (k0 : 1 ≤ was.getD 0 0) (k1 : L.getD 0 0 = was.getD 0 0) (i k : Nat) (hi : i % 2 = 0) (hk : i + 2 * k ≤ 14)
    (hh : ∀ j, j < 16 → (j < i ∨ i + 2 * k ≤ j) → L.getD j 0 = was.getD j 0) : fold (pairs ((putL L 14 2 (turnS was L k i (pr was 14))).take 16)) = 65535 := by
  have p1 := pr_b hw 14
  have tb := turnS_b hw hL k i (pr was 14) p1.1 p1.2
  have tm := turnS_mod hw hL k i (pr was 14) p1.1 p1.2
  have e14 : pr L 14 = pr was 14 := by unfold pr; rw [hh 14 (by omega) (by omega), hh (14 + 1) (by omega) (by omega)]
  have hp := head_pos (l := putL L 14 2 (turnS was L k i (pr was 14))) (putL_bytes _ _ _ hL) (by rw [putL_len]; omega) (by rw [putL_far _ _ _ _ _ (by omega)]; omega)
  have hp0 := head_pos hw h16 k0
  rw [fold_right hp0] at hs
  rw [fold_right hp]
  rw [head_put (by omega) tb.1 tb.2, e14]
  have E : ∀ (l : List Int), 16 ≤ l.length → pairs (l.take 16) = psum l 0 (i / 2) + (psum l i k + psum l (i + 2 * k) (8 - i / 2 - k)) := by
    intro l h
    rw [show 16 = 2 * 8 from rfl, pairs_take _ 8 (by omega), show 8 = i / 2 + (k + (8 - i / 2 - k)) by omega, psum_add, psum_add, show 0 + 2 * (i / 2) = i by omega]
    congr 3; congr 1; omega
  rw [E L (by omega)]
  rw [E was h16] at hs
  rw [psum_congr (l := L) (m := was) (i / 2) 0 (fun j _ h => hh j (by omega) (by omega)), psum_congr (l := L) (m := was) (8 - i / 2 - k) (i + 2 * k) (fun j h1 h2 => hh j (by omega) (by omega))]
  omega
theorem bareB_congr {l m : List Int} (h0 : m.getD 0 0 = l.getD 0 0) (h : pr m 22 = pr l 22) : bareB m = bareB l := by unfold bareB; rw [h0, h]
/-- What done does to a gram's sum. -/
theorem done_facts {L : List Int} {b : Bool} (hb : Bytes L) (h24 : 24 ≤ L.length) (hl : L.length ≤ 65000) (hbb : b = true → L.getD 0 0 = 2 ∧ pr L 22 = 0) :
    (∀ j, (j < 22 ∨ 24 ≤ j) → (doneL b L).getD j 0 = L.getD j 0) ∧ pairs (summedL (doneL b L)) % 65535 = pairs (summedL L) % 65535 ∧ bareB (doneL b L) = b ∧ (L.getD 0 0 ≠ 2 → doneL b L = L) := by
  unfold doneL
  rw [num2_pr]
  by_cases h : L.getD 0 0 = 2 ∧ b = false ∧ pr L 22 = 0
  · rw [if_pos h]
    obtain ⟨h2, rfl, h0⟩ := h
    refine ⟨fun j hj => putL_far _ _ _ _ _ (by omega), ?_, ?_, fun x => absurd h2 x⟩
    · rw [summed_put (by omega) hl (Or.inr rfl) (by omega) (by omega), h0]; omega
    · unfold bareB
      rw [pr_putL (by omega) (by omega) (by omega)]; simp
  · rw [if_neg h]
    refine ⟨fun _ _ => rfl, rfl, ?_, fun _ => rfl⟩
    unfold bareB
    cases b with
    | true => obtain ⟨a, c⟩ := hbb rfl; rw [a, c]; rfl
    | false =>
      by_cases h2 : L.getD 0 0 = 2
      · rw [beq_iff_eq.mpr h2, beq_eq_false_iff_ne.mpr (fun x => h ⟨h2, rfl, x⟩)]; rfl
      · rw [beq_eq_false_iff_ne.mpr h2]; rfl
theorem bareB_true {l : List Int} (h : bareB l = true) : l.getD 0 0 = 2 ∧ pr l 22 = 0 := by
  unfold bareB at h
  simpa using h
/-- What Write keeps. -/
theorem write_facts {l : List Int} (hb : Bytes l) (o : Ok l) {j n : Nat} {v : Int} (hn : 0 < n) (h16 : 16 ≤ j) (hl : j + n ≤ l.length) (hs : j + n ≤ placeL l ∨ placeL l + 2 ≤ j) (v0 : 0 ≤ v) (v1 : v < 256 ^ n) :
    (writeL (bareB l) l j n v).length = l.length ∧ Bytes (writeL (bareB l) l j n v) ∧ (∀ i, (i < j ∨ j + n ≤ i) → (i < placeL l ∨ placeL l + 2 ≤ i) → (writeL (bareB l) l j n v).getD i 0 = l.getD i 0) ∧ numL (writeL (bareB l) l j n v) j n = v ∧
      bareB (writeL (bareB l) l j n v) = bareB l ∧ (bareB l = false → pairs (summedL (writeL (bareB l) l j n v)) % 65535 = pairs (summedL l) % 65535) := by
  obtain ⟨X, hX⟩ : ∃ X, X = putL l j n v := ⟨_, rfl⟩
  have h24 := o.h24
  have hle := o.le
  have xb : Bytes X := hX ▸ putL_bytes _ _ _ hb
  have xl : X.length = l.length := by rw [hX, putL_len]
  have xf : ∀ i, (i < j ∨ j + n ≤ i) → X.getD i 0 = l.getD i 0 := fun i hi => by rw [hX, putL_far _ _ _ _ _ (by omega)]
  have xn : numL X j n = v := by rw [hX, numL_putL _ _ _ _ hl v0 v1]
  have sle := placeL_le l
  have sX : placeL X = placeL l := by unfold placeL; rw [xf 0 (by omega)]
  have sv : placeL l = 18 ∨ placeL l = 22 := by unfold placeL; split <;> simp
  have xs : pr X (placeL l) = pr l (placeL l) := by unfold pr; rw [xf _ (by omega), xf _ (by omega)]
  unfold writeL
  rw [← hX]
  cases hbb : bareB l with
  | true =>
    obtain ⟨k2, z2⟩ := bareB_true hbb
    have s22 : placeL l = 22 := by unfold placeL; rw [k2]; rfl
    have e : doneL true (bodyT true l X j n) = X := by unfold bodyT doneL; rw [if_pos rfl, if_neg (by simp)]
    rw [e]
    exact ⟨xl, xb, fun i h _ => xf i h, xn, by rw [bareB_congr (xf 0 (by omega)) (by rw [← s22]; exact xs), hbb], fun h => by cases h⟩
  | false =>
    obtain ⟨t, ht⟩ : ∃ t, t = turnS l X (pairsN j n) (j / 2 * 2) (pr l (placeL l)) := ⟨_, rfl⟩
    have p1 := pr_b hb (placeL l)
    have tb : 0 ≤ t ∧ t ≤ 65535 := by rw [ht]; exact turnS_b hb xb _ _ _ p1.1 p1.2
    have tm := turnS_mod hb xb (pairsN j n) (j / 2 * 2) _ p1.1 p1.2
    rw [← ht] at tm
    have e : bodyT false l X j n = putL X (placeL l) 2 t := by
      unfold bodyT turnL
      rw [if_neg (by simp), sX, num2_pr, xs, ht]
    rw [e]
    obtain ⟨Y, hY⟩ : ∃ Y, Y = putL X (placeL l) 2 t := ⟨_, rfl⟩
    rw [← hY]
    have yb : Bytes Y := hY ▸ putL_bytes _ _ _ xb
    have yl : Y.length = l.length := by rw [hY, putL_len, xl]
    have yf : ∀ i, (i < placeL l ∨ placeL l + 2 ≤ i) → Y.getD i 0 = X.getD i 0 := fun i hi => by rw [hY, putL_far _ _ _ _ _ (by omega)]
    have y0 : Y.getD 0 0 = l.getD 0 0 := by rw [yf 0 (by omega), xf 0 (by omega)]
    have ey : pairs (summedL Y) % 65535 = pairs (summedL l) % 65535 := by
      rw [hY, summed_put (by omega) (by omega) sv tb.1 tb.2, xs, pairs_summed (l := X) (by omega) (by omega), pairs_summed (l := l) (by omega) (by omega), xl, xf 0 (by omega), psum_congr (l := X) (m := l) 4 4 (fun i _ h => xf i (by omega)),
        pairs_turn (L := X) (was := l) xl 16 (j / 2 * 2) (pairsN j n) (by omega) (by omega) (fun i _ h => xf i (by unfold pairsN at h; omega))]
      split <;> omega
    obtain ⟨d1, d2, d3, d4⟩ := done_facts (b := false) yb (by omega) (by omega) (by intro h; cases h)
    have k22 : l.getD 0 0 = 2 → placeL l = 22 := fun h => by unfold placeL; rw [h]; rfl
    have df : ∀ i, (i < placeL l ∨ placeL l + 2 ≤ i) → (doneL false Y).getD i 0 = Y.getD i 0 := by
      intro i hi
      by_cases h2 : Y.getD 0 0 = 2
      · have := k22 (by omega)
        exact d1 i (by omega)
      · rw [d4 h2]
    refine ⟨by rw [doneL_len, yl], doneL_bytes yb, fun i h1 h2 => by rw [df i h2, yf i h2, xf i h1], ?_, d3, fun _ => by rw [d2, ey]⟩
    rw [numL_congr (m := X) j n (fun i h1 h2 => by rw [df i (by omega), yf i (by omega)]), xn]
/-- Bytes that are taken apart as before. -/
theorem Ok.congr {l m : List Int} (o : Ok l) (hl : m.length = l.length) (hs : fold (pairs (m.take 16)) = 65535) (hh : ∀ j, (j = 0 ∨ j = 2 ∨ j = 3 ∨ j = 13) → m.getD j 0 = l.getD j 0) (h17 : l.getD 0 0 = 3 → m.getD 17 0 = l.getD 17 0) (h20 : l.getD 0 0 = 1 → m.getD 20 0 = l.getD 20 0) (h21 : l.getD 0 0 = 1 → m.getD 21 0 = l.getD 21 0) : Ok m := by
  have e0 := hh 0 (by omega)
  refine ⟨by rw [hl]; exact o.h24, by rw [hl]; exact o.le, by rw [hl, numL_congr (m := l) 2 2 (fun j a b => hh j (by omega))]; exact o.num, by rw [hh 13 (by omega)]; exact o.z13, hs, by rw [e0]; exact o.k1, by rw [e0]; exact o.k3, fun h => by rw [hl]; exact o.f44 (by omega), ?_, ?_, ?_, ?_⟩
  · intro h; rw [h17 (by omega)]; exact o.f17 (by omega)
  · intro h; rw [h20 (by omega)]; exact o.s20 (by omega)
  · intro h; rw [h21 (by omega)]; exact o.s21 (by omega)
  · intro h
    have := o.rest (by omega)
    unfold restS at this ⊢
    rw [h21 (by omega), hl]; exact this
theorem take16_congr {l m : List Int} (hl : m.length = l.length) (hh : ∀ j, j < 16 → m.getD j 0 = l.getD j 0) : m.take 16 = l.take 16 := take_congr hl hh
/-- Write behind the head's and the body's fixed places: taken apart still, whole or not as before. -/
theorem write_keep {l : List Int} (hb : Bytes l) (o : Ok l) {j n : Nat} {v : Int} (hn : 0 < n) (h24 : 24 ≤ j ∨ (16 ≤ j ∧ l.getD 0 0 = 2)) (hl : j + n ≤ l.length) (hs : j + n ≤ placeL l ∨ placeL l + 2 ≤ j) (v0 : 0 ≤ v) (v1 : v < 256 ^ n) :
    Ok (writeL (bareB l) l j n v) ∧ wholeL (writeL (bareB l) l j n v) = wholeL l := by
  obtain ⟨f1, f2, f3, f4, f5, f6⟩ := write_facts hb o hn (by omega) hl hs v0 v1
  have sle := placeL_le l
  have s18 : 18 ≤ placeL l := by unfold placeL; split <;> omega
  have s22 : l.getD 0 0 ≠ 3 → placeL l = 22 := fun h => by unfold placeL; rw [if_neg h]
  have t16 := take16_congr f1 (fun i hi => f3 i (by omega) (by omega))
  have o2 : Ok (writeL (bareB l) l j n v) := o.congr f1 (by rw [t16]; exact o.sum) (fun i hi => f3 i (by omega) (by omega)) (fun h => f3 17 (by omega) (by omega)) (fun h => f3 20 (by omega) (by have := s22 (by omega); omega)) (fun h => f3 21 (by omega) (by have := s22 (by omega); omega))
  refine ⟨o2, ?_⟩
  rw [whole_iff f2 o2, whole_iff hb o, bare_of o2, bare_of o, f5]
  cases hbb : bareB l with
  | true => rfl
  | false => rw [hbb] at f6; rw [f6 rfl]
/-- What Age keeps. -/
theorem age_facts {l : List Int} (hb : Bytes l) (o : Ok l) (h2 : 2 ≤ l.getD 1 0) :
    (ageL (bareB l) l).length = l.length ∧ Bytes (ageL (bareB l) l) ∧ Ok (ageL (bareB l) l) ∧ (∀ i, i ≠ 1 → i ≠ 14 → i ≠ 15 → (ageL (bareB l) l).getD i 0 = l.getD i 0) ∧ (ageL (bareB l) l).getD 1 0 = l.getD 1 0 - 1 ∧ wholeL (ageL (bareB l) l) = wholeL l := by
  have h24 := o.h24
  have b1 := getD_byte hb 1
  rw [age_eq h24]
  obtain ⟨L, hL⟩ : ∃ L, L = l.set 1 ((l.getD 1 0 - 1) % 256) := ⟨_, rfl⟩
  have Lb : Bytes L := hL ▸ hb.set _ (by omega) (by omega)
  have Ll : L.length = l.length := by rw [hL, List.length_set]
  have Lf : ∀ i, i ≠ 1 → L.getD i 0 = l.getD i 0 := fun i hi => by rw [hL, getD_set_ne (by omega)]
  have L1 : L.getD 1 0 = l.getD 1 0 - 1 := by rw [hL, getD_set_eq (by omega)]; omega
  rw [← hL]
  have et : turn (pr l 14) (pr l 0) (pr L 0) = turnS l L 1 0 (pr l 14) := by rw [turnS, turnS, pairL_pr, pairL_pr]
  obtain ⟨Y, hY⟩ : ∃ Y, Y = putL L 14 2 (turn (pr l 14) (pr l 0) (pr L 0)) := ⟨_, rfl⟩
  have Yl : Y.length = l.length := by rw [hY, putL_len, Ll]
  have Yb : Bytes Y := hY ▸ putL_bytes _ _ _ Lb
  have Yf : ∀ i, i ≠ 1 → i ≠ 14 → i ≠ 15 → Y.getD i 0 = l.getD i 0 := fun i h1 h2 h3 => by rw [hY, putL_far _ _ _ _ _ (by omega), Lf i h1]
  have hs : fold (pairs (Y.take 16)) = 65535 := by
    rw [hY, et]
    exact head_turn hb Lb Ll (by omega) o.sum o.k1 (Lf 0 (by omega)) 0 1 rfl (by omega) (fun j _ h => Lf j (by omega))
  have Yo : Ok Y := o.congr Yl hs (fun j hj => Yf j (by omega) (by omega) (by omega)) (fun _ => Yf 17 (by omega) (by omega) (by omega)) (fun _ => Yf 20 (by omega) (by omega) (by omega)) (fun _ => Yf 21 (by omega) (by omega) (by omega))
  rw [← hY]
  refine ⟨Yl, Yb, Yo, Yf, by rw [hY, putL_far _ _ _ _ _ (by omega), L1], ?_⟩
  rw [whole_iff Yb Yo, whole_iff hb o, bare_of Yo, bare_of o, summed_congr Yl (fun j hj => Yf j (by omega) (by omega) (by omega)), bareB_congr (Yf 0 (by omega) (by omega) (by omega)) (by unfold pr; rw [Yf 22 (by omega) (by omega) (by omega), Yf (22 + 1) (by omega) (by omega) (by omega)])]
/-- What Nat keeps. -/
theorem nat_facts {l : List Int} (hb : Bytes l) (o : Ok l) (h3 : l.getD 0 0 ≠ 3) {a p : Nat} (hap : (a = 4 ∧ p = 16) ∨ (a = 8 ∧ p = 18)) {addr port : Int} (a0 : 0 ≤ addr) (a1 : addr ≤ 4294967295) (p0 : 0 ≤ port) (p1 : port ≤ 65535) :
    (natL (bareB l) l a p addr port).length = l.length ∧ Bytes (natL (bareB l) l a p addr port) ∧ Ok (natL (bareB l) l a p addr port) ∧ (∀ i, (i < a ∨ a + 4 ≤ i) → (i < p ∨ p + 2 ≤ i) → (i < 14 ∨ 16 ≤ i) → (i < 22 ∨ 24 ≤ i) → (natL (bareB l) l a p addr port).getD i 0 = l.getD i 0) ∧
      numL (natL (bareB l) l a p addr port) a 4 = addr ∧ numL (natL (bareB l) l a p addr port) p 2 = port ∧ bareB (natL (bareB l) l a p addr port) = bareB l ∧ wholeL (natL (bareB l) l a p addr port) = wholeL l := by
  have h24 := o.h24
  have hle := o.le
  have i2 : (256 : Int) ^ 2 = 65536 := by decide
  have i4 : (256 : Int) ^ 4 = 4294967296 := by decide
  obtain ⟨X, hX⟩ : ∃ X, X = putL (putL l a 4 addr) p 2 port := ⟨_, rfl⟩
  have xb : Bytes X := hX ▸ putL_bytes _ _ _ (putL_bytes _ _ _ hb)
  have xl : X.length = l.length := by rw [hX, putL_len, putL_len]
  have xf : ∀ i, (i < a ∨ a + 4 ≤ i) → (i < p ∨ p + 2 ≤ i) → X.getD i 0 = l.getD i 0 := fun i h1 h2 => by rw [hX, putL_far _ _ _ _ _ (by omega), putL_far _ _ _ _ _ (by omega)]
  have xa : numL X a 4 = addr := by rw [hX, numL_putL_far _ _ _ _ _ (by omega), numL_putL _ _ _ _ (by omega) a0 (by omega)]
  have xp : numL X p 2 = port := by rw [hX, numL_putL _ _ _ _ (by rw [putL_len]; omega) p0 (by omega)]
  have x14 : pr X 14 = pr l 14 := by unfold pr; rw [xf 14 (by omega) (by omega), xf (14 + 1) (by omega) (by omega)]
  have x22 : pr X 22 = pr l 22 := by unfold pr; rw [xf 22 (by omega) (by omega), xf (22 + 1) (by omega) (by omega)]
  have x0 := xf 0 (by omega) (by omega)
  have q14 := pr_b hb 14
  have q22 := pr_b hb 22
  obtain ⟨u, hu⟩ : ∃ u, u = turnS l X 2 a (pr l 14) := ⟨_, rfl⟩
  have ub : 0 ≤ u ∧ u ≤ 65535 := by rw [hu]; exact turnS_b hb xb _ _ _ q14.1 q14.2
  obtain ⟨Y, hY⟩ : ∃ Y, Y = putL X 14 2 u := ⟨_, rfl⟩
  have eY : turnL l X 14 a 4 = Y := by
    unfold turnL
    rw [show pairsN a 4 = 2 from by unfold pairsN; omega, show a / 2 * 2 = a by omega, num2_pr, x14, hY, hu]
  have yb : Bytes Y := hY ▸ putL_bytes _ _ _ xb
  have yl : Y.length = l.length := by rw [hY, putL_len, xl]
  have yf : ∀ i, (i < 14 ∨ 16 ≤ i) → Y.getD i 0 = X.getD i 0 := fun i h => by rw [hY, putL_far _ _ _ _ _ (by omega)]
  have y0 : Y.getD 0 0 = l.getD 0 0 := by rw [yf 0 (by omega), x0]
  have y22 : pr Y 22 = pr l 22 := by rw [hY, pr_far (by omega), x22]
  have hs : fold (pairs (Y.take 16)) = 65535 := by
    rw [hY, hu]
    exact head_turn hb xb xl (by omega) o.sum o.k1 x0 a 2 (by omega) (by omega) (fun j h1 h2 => xf j (by omega) (by omega))
  -- whatever lies at 22 and 23
  have fin : ∀ y : List Int, y.length = l.length → Bytes y → (∀ i, (i < 22 ∨ 24 ≤ i) → y.getD i 0 = Y.getD i 0) → bareB y = bareB l → (bareB l = false → pairs (summedL y) % 65535 = pairs (summedL l) % 65535) →
      y.length = l.length ∧ Bytes y ∧ Ok y ∧ (∀ i, (i < a ∨ a + 4 ≤ i) → (i < p ∨ p + 2 ≤ i) → (i < 14 ∨ 16 ≤ i) → (i < 22 ∨ 24 ≤ i) → y.getD i 0 = l.getD i 0) ∧ numL y a 4 = addr ∧ numL y p 2 = port ∧ bareB y = bareB l ∧ wholeL y = wholeL l := by
    intro y hl hby hf hbare hsum
    have ff : ∀ i, (i < a ∨ a + 4 ≤ i) → (i < p ∨ p + 2 ≤ i) → (i < 14 ∨ 16 ≤ i) → (i < 22 ∨ 24 ≤ i) → y.getD i 0 = l.getD i 0 := fun i h1 h2 h3 h4 => by rw [hf i h4, yf i h3, xf i h1 h2]
    have t16 : y.take 16 = Y.take 16 := take_congr (by omega) (fun j hj => hf j (by omega))
    have oy : Ok y := o.congr hl (by rw [t16]; exact hs) (fun j hj => ff j (by omega) (by omega) (by omega) (by omega)) (fun h => absurd h h3) (fun _ => ff 20 (by omega) (by omega) (by omega) (by omega)) (fun _ => ff 21 (by omega) (by omega) (by omega) (by omega))
    refine ⟨hl, hby, oy, ff, ?_, ?_, hbare, ?_⟩
    · rw [numL_congr (m := X) a 4 (fun j h1 h2 => by rw [hf j (by omega), yf j (by omega)]), xa]
    · rw [numL_congr (m := X) p 2 (fun j h1 h2 => by rw [hf j (by omega), yf j (by omega)]), xp]
    · rw [whole_iff hby oy, whole_iff hb o, bare_of oy, bare_of o, hbare]
      cases hbb : bareB l with
      | true => rfl
      | false => rw [hsum hbb]
  unfold natL
  rw [← hX, eY]
  cases hbb : bareB l with
  | true =>
    have e : doneL true (bodyT true l (bodyT true l Y a 4) p 2) = Y := by
      unfold bodyT; rw [if_pos rfl, if_pos rfl]; unfold doneL; rw [if_neg (by simp)]
    rw [e, ← hbb]
    exact fin Y yl yb (fun _ _ => rfl) (bareB_congr y0 y22) (fun h => by rw [hbb] at h; cases h)
  | false =>
    have sY : placeL Y = 22 := by unfold placeL; rw [y0, if_neg h3]
    obtain ⟨t2, ht2⟩ : ∃ t, t = turnS l Y 2 a (pr l 22) := ⟨_, rfl⟩
    have b2 : 0 ≤ t2 ∧ t2 ≤ 65535 := by rw [ht2]; exact turnS_b hb yb _ _ _ q22.1 q22.2
    have m2 := turnS_mod hb yb 2 a _ q22.1 q22.2
    rw [← ht2] at m2
    obtain ⟨Z, hZ⟩ : ∃ Z, Z = putL Y 22 2 t2 := ⟨_, rfl⟩
    have zb : Bytes Z := hZ ▸ putL_bytes _ _ _ yb
    have zl : Z.length = l.length := by rw [hZ, putL_len, yl]
    have e1 : bodyT false l Y a 4 = Z := by
      unfold bodyT turnL
      rw [if_neg (by simp), sY, show pairsN a 4 = 2 from by unfold pairsN; omega, show a / 2 * 2 = a by omega, num2_pr, y22, hZ, ht2]
    have z0 : Z.getD 0 0 = l.getD 0 0 := by rw [hZ, putL_far _ _ _ _ _ (by omega), y0]
    have sZ : placeL Z = 22 := by unfold placeL; rw [z0, if_neg h3]
    have z22 : pr Z 22 = t2 := by rw [hZ, pr_putL (by omega) b2.1 b2.2]
    obtain ⟨t3, ht3⟩ : ∃ t, t = turnS l Z 1 p t2 := ⟨_, rfl⟩
    have b3 : 0 ≤ t3 ∧ t3 ≤ 65535 := by rw [ht3]; exact turnS_b hb zb _ _ _ b2.1 b2.2
    have m3 := turnS_mod hb zb 1 p _ b2.1 b2.2
    rw [← ht3] at m3
    obtain ⟨W, hW⟩ : ∃ W, W = putL Y 22 2 t3 := ⟨_, rfl⟩
    have e2 : bodyT false l Z p 2 = W := by
      unfold bodyT turnL
      rw [if_neg (by simp), sZ, show pairsN p 2 = 1 from by unfold pairsN; omega, show p / 2 * 2 = p by omega, num2_pr, z22, ← ht3, hZ, putL_putL, hW]
    rw [e1, e2]
    have wb : Bytes W := hW ▸ putL_bytes _ _ _ yb
    have wl : W.length = l.length := by rw [hW, putL_len, yl]
    have wf : ∀ i, (i < 22 ∨ 24 ≤ i) → W.getD i 0 = Y.getD i 0 := fun i h => by rw [hW, putL_far _ _ _ _ _ (by omega)]
    have w0 : W.getD 0 0 = l.getD 0 0 := by rw [wf 0 (by omega), y0]
    have pz : psum Z p 1 = psum X p 1 := by rw [hZ, hY]; exact psum_congr 1 p (fun j h1 h2 => by rw [putL_far _ _ _ _ _ (by omega), putL_far _ _ _ _ _ (by omega)])
    have py : psum Y a 2 = psum X a 2 := by rw [hY]; exact psum_congr 2 a (fun j h1 h2 => by rw [putL_far _ _ _ _ _ (by omega)])
    have ew : pairs (summedL W) % 65535 = pairs (summedL l) % 65535 := by
      have eYX : summedL Y = summedL X := summed_congr (by omega) (fun j hj => yf j (by omega))
      rw [hW, summed_put (by omega) (by omega) (Or.inr rfl) b3.1 b3.2, y22, eYX, pairs_summed (l := X) (by omega) (by omega), pairs_summed (l := l) (by omega) (by omega), xl, x0, if_neg h3, if_neg h3,
        pairs_turn (L := X) (was := l) xl 16 p 1 (by omega) (by omega) (fun i h1 h => xf i (by omega) (by omega))]
      have e4 : psum X 4 4 - psum l 4 4 = psum X a 2 - psum l a 2 := by
        have eX : psum X 4 4 = psum X 4 2 + psum X 8 2 := psum_add X 2 4 2
        have el : psum l 4 4 = psum l 4 2 + psum l 8 2 := psum_add l 2 4 2
        rcases hap with ⟨rfl, rfl⟩ | ⟨rfl, rfl⟩
        · have := psum_congr (l := X) (m := l) 2 8 (fun j h1 h2 => xf j (by omega) (by omega)); omega
        · have := psum_congr (l := X) (m := l) 2 4 (fun j h1 h2 => xf j (by omega) (by omega)); omega
      omega
    obtain ⟨d1, d2, d3, d4⟩ := done_facts (b := false) wb (by omega) (by omega) (by intro h; cases h)
    rw [← hbb]
    rw [← hbb] at d1 d2 d3
    exact fin _ (by rw [doneL_len, wl]) (doneL_bytes wb) (fun i h => by rw [d1 i h, wf i h]) d3 (fun _ => by rw [d2, ew])
/-- Bytes that may be read. -/
structure Rw (w : World) (A : Option Addr) (c : Nat) (l : List Int) : Prop where
  rd : Kd.C (Kd.int .u8) w A l.length l
  le : l.length ≤ c
theorem Rw.below {w w' : World} {A : Option Addr} {c : Nat} {l : List Int} (h : Rw w A c l) (hb : Below w.heap.size w w') : Rw w' A c l := ⟨Kd.C_below h.rd hb, h.le⟩
theorem rw_of {b : Nat} {w : World} {A : Option Addr} {c n : Nat} {l : List Int} (h : RB b w (.slice A n c) l) : Rw w A c l := by
  have e := Kd.R_reads' h
  exact ⟨by have := e.2.2; exact this, by have := e.2.1; rw [e.1] at this; exact this⟩
theorem told_at {W0 W w' : World} {y : List Int} {x : Int} {e : Ending} (h : Below W0.heap.size W0 W) (ht : Told W y x e w') : ∃ (A : Option Addr) (c : Nat), e = .returned (.tuple #[.slice A y.length c, .int .i64 x]) ∧ RB W0.heap.size w' (.slice A y.length c) y ∧ Below W0.heap.size W0 w' := by
  obtain ⟨v, rfl, hr, hb⟩ := ht
  obtain ⟨A, c, rfl⟩ := Kd.R_slice hr
  exact ⟨A, c, rfl, Kd.R_lower hr h.size, below_step h hb⟩
theorem age_at {W0 : World} {A0 : Option Addr} {c0 n : Nat} {l : List Int} (h0 : Rw W0 A0 c0 l) (hn : l.length = n) (hl : l.length ≤ 10000) (hb : Bytes l) {y : List Int} {x : Int} (hr : ageR l = (y, x)) : ∀ W, Below W0.heap.size W0 W →
    Calls Try.prog 42 #[.slice A0 n c0] W fun e w' => ∃ (A : Option Addr) (c : Nat), e = .returned (.tuple #[.slice A y.length c, .int .i64 x]) ∧ RB W0.heap.size w' (.slice A y.length c) y ∧ Below W0.heap.size W0 w' := by
  subst hn
  intro W h
  have := age_calls (h0.below h).rd rfl h0.le hl hb
  rw [hr] at this
  exact this.mono fun e w' ht => told_at h ht
theorem nat_at {W0 : World} {A0 : Option Addr} {c0 n : Nat} {l : List Int} (h0 : Rw W0 A0 c0 l) (hn : l.length = n) (hl : l.length ≤ 10000) (hb : Bytes l) (src : Bool) (addr port : Int) {y : List Int} {x : Int} (hr : natR l src addr port = (y, x)) : ∀ W, Below W0.heap.size W0 W →
    Calls Try.prog 87 #[.slice A0 n c0, .bool src, .int .i64 addr, .int .i64 port] W fun e w' => ∃ (A : Option Addr) (c : Nat), e = .returned (.tuple #[.slice A y.length c, .int .i64 x]) ∧ RB W0.heap.size w' (.slice A y.length c) y ∧ Below W0.heap.size W0 w' := by
  subst hn
  intro W h
  have := nat_calls (h0.below h).rd rfl h0.le hl hb src addr port
  rw [hr] at this
  exact this.mono fun e w' ht => told_at h ht
theorem write_at {W0 : World} {A0 : Option Addr} {c0 n : Nat} {l : List Int} (h0 : Rw W0 A0 c0 l) (hn : l.length = n) (hl : l.length ≤ 10000) (hb : Bytes l) (i m v : Int) {y : List Int} {x : Int} (hr : writeR l i m v = (y, x)) : ∀ W, Below W0.heap.size W0 W →
    Calls Try.prog 83 #[.slice A0 n c0, .int .i64 i, .int .i64 m, .int .i64 v] W fun e w' => ∃ (A : Option Addr) (c : Nat), e = .returned (.tuple #[.slice A y.length c, .int .i64 x]) ∧ RB W0.heap.size w' (.slice A y.length c) y ∧ Below W0.heap.size W0 w' := by
  subst hn
  intro W h
  have := write_calls (h0.below h).rd rfl h0.le hl hb i m v
  rw [hr] at this
  exact this.mono fun e w' ht => told_at h ht
theorem parse_at {W0 : World} {A0 : Option Addr} {c0 n : Nat} {l : List Int} (h0 : Rw W0 A0 c0 l) (hn : l.length = n) (hl : l.length ≤ 10000) (hb : Bytes l) {p : Pk} {x : Int} (hr : parseL l = (p, x)) : ∀ W, Below W0.heap.size W0 W →
    Calls Try.prog 15 #[.slice A0 n c0] W fun e w' => ∃ (A1 : Option Addr) (c1 : Nat) (A2 : Option Addr) (c2 : Nat), e = .returned (.tuple #[.agg #[.int .i64 p.kind, .int .i64 p.life, .int .i64 p.piece, .int .i64 p.frm, .int .i64 p.dst, .int .i64 p.fp, .int .i64 p.tp, .int .i64 p.flags, .int .i64 p.label, .bool p.bare, .int .i64 p.code, .slice A1 p.opts.length c1, .slice A2 p.data.length c2], .int .i64 x]) ∧ RB W0.heap.size w' (.slice A1 p.opts.length c1) p.opts ∧ RB W0.heap.size w' (.slice A2 p.data.length c2) p.data ∧ (∀ k, (Value.slice A1 p.opts.length c1).ownBlock = some k → (Value.slice A2 p.data.length c2).ownBlock ≠ some k) ∧ Below W0.heap.size W0 w' := by
  subst hn
  intro W h
  refine (parse_calls (h0.below h).rd rfl h0.le (by omega) hb).mono ?_
  rintro e w' ⟨v1, v2, he, h1, h2, h3, h4⟩
  rw [hr] at he h1 h2
  obtain ⟨A1, c1, rfl⟩ := Kd.R_slice h1
  obtain ⟨A2, c2, rfl⟩ := Kd.R_slice h2
  exact ⟨A1, c1, A2, c2, he, Kd.R_lower h1 h.size, Kd.R_lower h2 h.size, h3, below_step h h4⟩
theorem whole_at {W0 : World} {A0 : Option Addr} {c0 n : Nat} {l : List Int} (h0 : Rw W0 A0 c0 l) (hn : l.length = n) (hl : l.length ≤ 10000) (hb : Bytes l) {b : Bool} (hr : wholeL l = b) : ∀ W, Below W0.heap.size W0 W →
    Calls Try.prog 16 #[.slice A0 n c0] W fun e w' => e = .returned (.bool b) ∧ Below W0.heap.size W0 w' := by
  subst hn hr
  intro W h
  refine (whole_calls (h0.below h).rd rfl h0.le (by omega) hb).mono ?_
  rintro e w' ⟨rfl, h1⟩
  exact ⟨rfl, below_step h h1⟩
theorem build_at {W0 : World} {p : Pk} {A1 A2 : Option Addr} {c1 c2 n1 n2 : Nat} (h1 : Rw W0 A1 c1 p.opts) (h2 : Rw W0 A2 c2 p.data) (hn1 : p.opts.length = n1) (hn2 : p.data.length = n2) (he : buildE p = 0) (hkk : p.kind = 1 ∨ p.kind = 2) (hc : Canon p) (hl1 : p.opts.length ≤ 100000) (hl2 : p.data.length ≤ 100000) {y : List Int} (hy : buildL p = y) : ∀ W, Below W0.heap.size W0 W →
    Calls Try.prog 11 #[.agg #[.int .i64 p.kind, .int .i64 p.life, .int .i64 p.piece, .int .i64 p.frm, .int .i64 p.dst, .int .i64 p.fp, .int .i64 p.tp, .int .i64 p.flags, .int .i64 p.label, .bool p.bare, .int .i64 p.code, .slice A1 n1 c1, .slice A2 n2 c2]] W fun e w' => ∃ (A : Option Addr) (c : Nat), e = .returned (.tuple #[.slice A y.length c, .int .i64 0]) ∧ RB W0.heap.size w' (.slice A y.length c) y ∧ Below W0.heap.size W0 w' := by
  subst hn1 hn2
  intro W h
  refine (build_calls (p := p) (h1.below h).rd h1.le (h2.below h).rd h2.le hc.bo hc.bd he hkk).mono ?_
  rintro e w' ⟨v, rfl, hr, hb⟩
  rw [he, hy] at hr
  rw [he]
  exact told_at h ⟨v, rfl, hr, hb⟩
theorem make_at {W0 : World} {A0 B0 : Option Addr} {c0 d0 n m : Nat} {ns l : List Int} (kind : Int) (hn : Kd.C (Kd.int .i64) W0 A0 n ns) (hnn : ns.length = n) (hnc : n ≤ c0) (hnl : n ≤ 140737488351232) (h0 : Rw W0 B0 d0 l) (hm : l.length = m) (hl : m ≤ 140737488351232) (hb : Bytes l) {p : Pk} (hp : makeP kind ns l = p) : ∀ W, Below W0.heap.size W0 W →
    Calls Try.prog 10 #[.int .i64 kind, .slice A0 n c0, .slice B0 m d0] W fun e w' => ∃ (A1 : Option Addr) (c1 : Nat) (A2 : Option Addr) (c2 : Nat), e = .returned (.agg #[.int .i64 p.kind, .int .i64 p.life, .int .i64 p.piece, .int .i64 p.frm, .int .i64 p.dst, .int .i64 p.fp, .int .i64 p.tp, .int .i64 p.flags, .int .i64 p.label, .bool p.bare, .int .i64 p.code, .slice A1 p.opts.length c1, .slice A2 p.data.length c2]) ∧ RB W0.heap.size w' (.slice A1 p.opts.length c1) p.opts ∧ RB W0.heap.size w' (.slice A2 p.data.length c2) p.data ∧ (∀ k, (Value.slice A1 p.opts.length c1).ownBlock = some k → (Value.slice A2 p.data.length c2).ownBlock ≠ some k) ∧ Below W0.heap.size W0 w' := by
  subst hp
  intro W h
  refine (make_calls kind (Kd.C_below hn h) hnn hnc hnl (by subst hm; exact (h0.below h).rd) hm (by have := h0.le; omega) hl hb).mono ?_
  intro e w' hm
  obtain ⟨A1, c1, A2, c2, rfl, h1, h2, h3, h4⟩ := made_s hm
  exact ⟨A1, c1, A2, c2, rfl, Kd.R_lower h1 h.size, Kd.R_lower h2 h.size, h3, below_step h h4⟩
theorem pk_life (l : List Int) : (pkL l).life = l.getD 1 0 := by
  unfold pkL; repeat' split
  all_goals rfl
theorem pk_kind {l : List Int} (o : Ok l) : (pkL l).kind = l.getD 0 0 := kind0 o.parse
theorem ageR_ok {l : List Int} (o : Ok l) (h : 2 ≤ l.getD 1 0) : ageR l = (ageL (bareB l) l, 0) := by
  unfold ageR
  rw [o.parse]
  dsimp only
  rw [if_neg (by simp), if_neg (by rw [pk_life]; omega), bare_of o]
theorem natR_ok {l : List Int} (o : Ok l) (h3 : l.getD 0 0 ≠ 3) (src : Bool) {addr port : Int} (a0 : 0 ≤ addr) (a1 : addr ≤ 4294967295) (p0 : 0 ≤ port) (p1 : port ≤ 65535) :
    natR l src addr port = (natL (bareB l) l (if src then 4 else 8) (if src then 16 else 18) addr port, 0) := by
  unfold natR
  rw [o.parse]
  dsimp only
  rw [if_neg (by simp), if_neg (by rw [pk_kind o]; exact h3), if_neg (by rw [rgB_true a0 a1, rgB_true p0 p1]; simp), bare_of o]
theorem writeR_ok {l : List Int} (o : Ok l) {i m v : Int} (h : wrOK l i m v) : writeR l i m v = (writeL (bareB l) l i.toNat m.toNat v, 0) := by
  unfold writeR
  rw [o.parse]
  dsimp only
  rw [if_neg (by simp), if_pos h, bare_of o]
theorem writeR_no {l : List Int} (o : Ok l) {i m v : Int} (h : ¬ wrOK l i m v) : writeR l i m v = ([], 14) := by
  unfold writeR
  rw [o.parse]
  dsimp only
  rw [if_neg (by simp), if_neg h]
/-- Bytes with other numbers in their head and in their ports are the packet with these numbers. -/
theorem pkL_congr {l m : List Int} (ol : Ok l) (hl : m.length = l.length) (h3 : l.getD 0 0 ≠ 3) (h0 : m.getD 0 0 = l.getD 0 0) {frm dst fp tp : Int} (h1 : m.getD 1 0 = l.getD 1 0) (h12 : m.getD 12 0 = l.getD 12 0) (hf : numL m 4 4 = frm) (hd : numL m 8 4 = dst) (hfp : numL m 16 2 = fp) (htp : numL m 18 2 = tp) (h20 : m.getD 20 0 = l.getD 20 0) (h21 : m.getD 21 0 = l.getD 21 0)
    (hb : bareB m = bareB l) (hr : ∀ j, 24 ≤ j → m.getD j 0 = l.getD j 0) : pkL m = { pkL l with frm := frm, dst := dst, fp := fp, tp := tp } := by
  have er : restS m = restS l := by unfold restS; rw [h21]
  have n20 : numL m 20 2 = numL l 20 2 := by
    rw [num2_pr, num2_pr]
    unfold pr
    rw [h20, show 20 + 1 = 21 from rfl, h21]
  unfold pkL
  rw [h0, if_neg h3, if_neg h3]
  by_cases h2 : l.getD 0 0 = 2
  · rw [if_pos h2, if_pos h2]
    have e22 : (numL m 22 2 == 0) = (numL l 22 2 == 0) := by
      unfold bareB at hb
      rw [h0, h2] at hb
      rw [num2_pr, num2_pr]
      simpa using hb
    rw [h1, h12, hf, hd, hfp, htp, n20, e22, drop_congr hl (fun j hj => hr j hj)]
  · rw [if_neg h2, if_neg h2]
    have h24 : 24 ≤ restS l := by unfold restS; omega
    have ht : (m.take (restS l)).drop 24 = (l.take (restS l)).drop 24 := by
      refine ext_getD (by simp [hl]) fun j hj => ?_
      simp only [List.length_drop, List.length_take] at hj
      rw [getD_drop, getD_drop, getD_take (by omega), getD_take (by omega)]; exact hr _ (by omega)
    rw [h1, h12, hf, hd, hfp, htp, h20, er, ht, drop_congr hl (fun j hj => hr j (by omega))]
theorem nat_pk {l : List Int} (hb : Bytes l) (o : Ok l) (h3 : l.getD 0 0 ≠ 3) {addr port : Int} (a0 : 0 ≤ addr) (a1 : addr ≤ 4294967295) (p0 : 0 ≤ port) (p1 : port ≤ 65535) :
    pkL (natL (bareB l) l 4 16 addr port) = { pkL l with frm := addr, fp := port } ∧ pkL (natL (bareB l) l 8 18 addr port) = { pkL l with dst := addr, tp := port } := by
  have hfr : (pkL l).frm = numL l 4 4 := by unfold pkL; repeat' split
                                            all_goals rfl
  have hds : (pkL l).dst = numL l 8 4 := by unfold pkL; repeat' split
                                            all_goals rfl
  have hfp : (pkL l).fp = numL l 16 2 := by unfold pkL; rw [if_neg h3]; split <;> rfl
  have htp : (pkL l).tp = numL l 18 2 := by unfold pkL; rw [if_neg h3]; split <;> rfl
  constructor
  · obtain ⟨f1, f2, f3, f4, f5, f6, f7, f8⟩ := nat_facts hb o h3 (a := 4) (p := 16) (by omega) a0 a1 p0 p1
    rw [pkL_congr o f1 h3 (f4 0 (by omega) (by omega) (by omega) (by omega)) (f4 1 (by omega) (by omega) (by omega) (by omega)) (f4 12 (by omega) (by omega) (by omega) (by omega)) f5 (numL_congr (m := l) 8 4 (fun j _ _ => f4 j (by omega) (by omega) (by omega) (by omega))) f6 (numL_congr (m := l) 18 2 (fun j _ _ => f4 j (by omega) (by omega) (by omega) (by omega))) (f4 20 (by omega) (by omega) (by omega) (by omega)) (f4 21 (by omega) (by omega) (by omega) (by omega)) f7 (fun j _ => f4 j (by omega) (by omega) (by omega) (by omega)), ← hds, ← htp]
  · obtain ⟨f1, f2, f3, f4, f5, f6, f7, f8⟩ := nat_facts hb o h3 (a := 8) (p := 18) (by omega) a0 a1 p0 p1
    rw [pkL_congr o f1 h3 (f4 0 (by omega) (by omega) (by omega) (by omega)) (f4 1 (by omega) (by omega) (by omega) (by omega)) (f4 12 (by omega) (by omega) (by omega) (by omega)) (numL_congr (m := l) 4 4 (fun j _ _ => f4 j (by omega) (by omega) (by omega) (by omega))) f5 (numL_congr (m := l) 16 2 (fun j _ _ => f4 j (by omega) (by omega) (by omega) (by omega))) f6 (f4 20 (by omega) (by omega) (by omega) (by omega)) (f4 21 (by omega) (by omega) (by omega) (by omega)) f7 (fun j _ => f4 j (by omega) (by omega) (by omega) (by omega)), ← hfr, ← hfp]
/-- A place changed, and changed back. -/
theorem places {p : Pk} {b : List Int} (hE : buildE p = 0) (hc : Canon p) (hb : buildL p = b) (h3 : p.kind ≠ 3) (src : Bool) {addr port : Int} (a0 : 0 ≤ addr) (a1 : addr ≤ 4294967295) (p0 : 0 ≤ port) (p1 : port ≤ 65535) :
    ∃ c d : List Int, natR b src addr port = (c, 0) ∧ (c.length ≤ 10000 ∧ Bytes c) ∧ parseL c = (if src then { p with frm := addr, fp := port } else { p with dst := addr, tp := port }, 0) ∧ wholeL c = true ∧
      natR c src (if src then p.frm else p.dst) (if src then p.fp else p.tp) = (d, 0) ∧ (d.length ≤ 10000 ∧ Bytes d) ∧ parseL d = (p, 0) ∧ wholeL d = true := by
  obtain ⟨o, hp, hw, hl, hy⟩ := parse_build hE hc
  rw [hb] at o hp hw hl hy
  have k0 : b.getD 0 0 ≠ 3 := by rw [← pk_kind o, hp]; exact h3
  obtain ⟨⟨q0, q1⟩, _, _, ⟨f0, f1⟩, ⟨d0, d1⟩, _, _, cp, _⟩ := built_of hE
  obtain ⟨⟨fp0, fp1⟩, tp0, tp1⟩ := cp h3
  have hle := o.le
  cases src with
  | true =>
    obtain ⟨x1, x2, x3, x4, x5, x6, x7, x8⟩ := nat_facts hy o k0 (a := 4) (p := 16) (by omega) a0 a1 p0 p1
    have y := (nat_pk hy o k0 a0 a1 p0 p1).1
    obtain ⟨c, hcc⟩ : ∃ c, c = natL (bareB b) b 4 16 addr port := ⟨_, rfl⟩
    rw [← hcc] at x1 x2 x3 x4 x7 x8 y
    have k0' : c.getD 0 0 ≠ 3 := by rw [x4 0 (by omega) (by omega) (by omega) (by omega)]; exact k0
    obtain ⟨z1, z2, z3, _, _, _, _, z8⟩ := nat_facts x2 x3 k0' (a := 4) (p := 16) (by omega) f0 f1 fp0 fp1
    have zp := (nat_pk x2 x3 k0' f0 f1 fp0 fp1).1
    refine ⟨c, natL (bareB c) c 4 16 p.frm p.fp, by rw [natR_ok o k0 true a0 a1 p0 p1, hcc]; rfl, ⟨by omega, x2⟩, by rw [x3.parse, y, hp]; rfl, by rw [x8, hw], natR_ok x3 k0' true f0 f1 fp0 fp1, ⟨by omega, z2⟩, ?_, by rw [z8, x8, hw]⟩
    rw [z3.parse, zp, y, hp]
  | false =>
    obtain ⟨x1, x2, x3, x4, x5, x6, x7, x8⟩ := nat_facts hy o k0 (a := 8) (p := 18) (by omega) a0 a1 p0 p1
    have y := (nat_pk hy o k0 a0 a1 p0 p1).2
    obtain ⟨c, hcc⟩ : ∃ c, c = natL (bareB b) b 8 18 addr port := ⟨_, rfl⟩
    rw [← hcc] at x1 x2 x3 x4 x7 x8 y
    have k0' : c.getD 0 0 ≠ 3 := by rw [x4 0 (by omega) (by omega) (by omega) (by omega)]; exact k0
    obtain ⟨z1, z2, z3, _, _, _, _, z8⟩ := nat_facts x2 x3 k0' (a := 8) (p := 18) (by omega) d0 d1 tp0 tp1
    have zp := (nat_pk x2 x3 k0' d0 d1 tp0 tp1).2
    refine ⟨c, natL (bareB c) c 8 18 p.dst p.tp, by rw [natR_ok o k0 false a0 a1 p0 p1, hcc]; rfl, ⟨by omega, x2⟩, by rw [x3.parse, y, hp]; rfl, by rw [x8, hw], natR_ok x3 k0' false d0 d1 tp0 tp1, ⟨by omega, z2⟩, ?_, by rw [z8, x8, hw]⟩
    rw [z3.parse, zp, y, hp]
end Go.Proofs.Ytgkmbefamcnifaa.WB
namespace Go.Proofs.Ytgkmbefamcnifaa.TB
set_option linter.unusedVariables false
set_option linter.unusedSimpArgs false
open Go.RowKit Go.Proofs.Ytgkmbefamcnifaa.Hp Go.Proofs.Ytgkmbefamcnifaa.SB Go.Proofs.Ytgkmbefamcnifaa.WB Go.Proofs.YtgkmbefamcnifaaW.PrintWords Go.Proofs.YtgkmbefamcnifaaW.PrintLast Go.Proofs.YtgkmbefamcnifaaW.PrintMore
/-- What then does. -/
def thenL (b : List Int) (r : List Int × Int) : List Int := if r.2 = 0 then r.1 else b
theorem thenL_ok (b y : List Int) : thenL b (y, 0) = y := if_pos rfl
theorem thenL_no (b y : List Int) {e : Int} (h : e ≠ 0) : thenL b (y, e) = b := if_neg h
/-- The bytes are whole, of such a packet (but for what is behind the head). -/
structure Kp (b : List Int) (p : Pk) (len : Nat) : Prop where
  o : Ok b
  y : Bytes b
  bb : bareB b = p.bare
  k : b.getD 0 0 = p.kind
  w : wholeL b = true
  l : b.length = len
  life : b.getD 1 0 = p.life
  piece : b.getD 12 0 = p.piece
  frm : numL b 4 4 = p.frm
  dst : numL b 8 4 = p.dst
  fp : numL b 16 2 = p.fp
  tp : numL b 18 2 = p.tp
theorem pkL_n3 {l : List Int} (o : Ok l) (h : l.getD 0 0 ≠ 3) : (pkL l).life = l.getD 1 0 ∧ (pkL l).piece = l.getD 12 0 ∧ (pkL l).frm = numL l 4 4 ∧ (pkL l).dst = numL l 8 4 ∧ (pkL l).fp = numL l 16 2 ∧ (pkL l).tp = numL l 18 2 := by
  unfold pkL
  rw [if_neg h]
  split <;> exact ⟨rfl, rfl, rfl, rfl, rfl, rfl⟩
theorem Kp.pk {b : List Int} {p : Pk} {len : Nat} (h : Kp b p len) (h3 : p.kind ≠ 3) : parseL b = (pkL b, 0) ∧ (pkL b).kind = p.kind ∧ (pkL b).life = p.life ∧ (pkL b).piece = p.piece ∧ (pkL b).frm = p.frm ∧ (pkL b).dst = p.dst ∧ (pkL b).fp = p.fp ∧ (pkL b).tp = p.tp := by
  obtain ⟨a1, a2, a3, a4, a5, a6⟩ := pkL_n3 h.o (by rw [h.k]; exact h3)
  exact ⟨h.o.parse, by rw [pk_kind h.o, h.k], a1.trans h.life, a2.trans h.piece, a3.trans h.frm, a4.trans h.dst, a5.trans h.fp, a6.trans h.tp⟩
theorem kp_build {p : Pk} (hE : buildE p = 0) (hc : Canon p) (h3 : p.kind ≠ 3) : Kp (buildL p) p (nL p) := by
  obtain ⟨o, e, w, l, y⟩ := parse_build hE hc
  have hk : (buildL p).getD 0 0 = p.kind := by rw [← pk_kind o, e]
  obtain ⟨a1, a2, a3, a4, a5, a6⟩ := pkL_n3 o (by rw [hk]; exact h3)
  rw [e] at a1 a2 a3 a4 a5 a6
  exact ⟨o, y, by rw [← bare_of o, e], hk, w, l, a1.symm, a2.symm, a3.symm, a4.symm, a5.symm, a6.symm⟩
theorem kp_age {b : List Int} {p : Pk} {len : Nat} (h : Kp b p len) (h2 : 2 ≤ p.life) : Kp (thenL b (ageR b)) { p with life := p.life - 1 } len := by
  obtain ⟨a1, a2, a3, a4, a5, a6⟩ := age_facts h.y h.o (by rw [h.life]; exact h2)
  rw [ageR_ok h.o (by rw [h.life]; exact h2), thenL_ok]
  have f : ∀ i, i ≠ 1 → i ≠ 14 → i ≠ 15 → (ageL (bareB b) b).getD i 0 = b.getD i 0 := a4
  exact ⟨a3, a2, by rw [bareB_congr (f 0 (by omega) (by omega) (by omega)) (by unfold pr; rw [f 22 (by omega) (by omega) (by omega), f (22 + 1) (by omega) (by omega) (by omega)]), h.bb], (f 0 (by omega) (by omega) (by omega)).trans h.k, a6.trans h.w, a1.trans h.l,
    by rw [a5, h.life], (f 12 (by omega) (by omega) (by omega)).trans h.piece,
    (numL_congr 4 4 (fun j _ _ => f j (by omega) (by omega) (by omega))).trans h.frm, (numL_congr 8 4 (fun j _ _ => f j (by omega) (by omega) (by omega))).trans h.dst,
    (numL_congr 16 2 (fun j _ _ => f j (by omega) (by omega) (by omega))).trans h.fp, (numL_congr 18 2 (fun j _ _ => f j (by omega) (by omega) (by omega))).trans h.tp⟩
theorem kp_src {b : List Int} {p : Pk} {len : Nat} (h : Kp b p len) (h3 : p.kind ≠ 3) {addr port : Int} (a0 : 0 ≤ addr) (a1 : addr ≤ 4294967295) (p0 : 0 ≤ port) (p1 : port ≤ 65535) : Kp (thenL b (natR b true addr port)) { p with frm := addr, fp := port } len := by
  have k3 : b.getD 0 0 ≠ 3 := by rw [h.k]; exact h3
  obtain ⟨x1, x2, x3, x4, x5, x6, x7, x8⟩ := nat_facts h.y h.o k3 (a := 4) (p := 16) (by omega) a0 a1 p0 p1
  rw [natR_ok h.o k3 true a0 a1 p0 p1, thenL_ok]
  exact ⟨x3, x2, x7.trans h.bb, (x4 0 (by omega) (by omega) (by omega) (by omega)).trans h.k, x8.trans h.w, x1.trans h.l, (x4 1 (by omega) (by omega) (by omega) (by omega)).trans h.life, (x4 12 (by omega) (by omega) (by omega) (by omega)).trans h.piece,
    x5, (numL_congr 8 4 (fun j _ _ => x4 j (by omega) (by omega) (by omega) (by omega))).trans h.dst, x6, (numL_congr 18 2 (fun j _ _ => x4 j (by omega) (by omega) (by omega) (by omega))).trans h.tp⟩
theorem kp_dst {b : List Int} {p : Pk} {len : Nat} (h : Kp b p len) (h3 : p.kind ≠ 3) {addr port : Int} (a0 : 0 ≤ addr) (a1 : addr ≤ 4294967295) (p0 : 0 ≤ port) (p1 : port ≤ 65535) : Kp (thenL b (natR b false addr port)) { p with dst := addr, tp := port } len := by
  have k3 : b.getD 0 0 ≠ 3 := by rw [h.k]; exact h3
  obtain ⟨x1, x2, x3, x4, x5, x6, x7, x8⟩ := nat_facts h.y h.o k3 (a := 8) (p := 18) (by omega) a0 a1 p0 p1
  rw [natR_ok h.o k3 false a0 a1 p0 p1, thenL_ok]
  exact ⟨x3, x2, x7.trans h.bb, (x4 0 (by omega) (by omega) (by omega) (by omega)).trans h.k, x8.trans h.w, x1.trans h.l, (x4 1 (by omega) (by omega) (by omega) (by omega)).trans h.life, (x4 12 (by omega) (by omega) (by omega) (by omega)).trans h.piece,
    (numL_congr 4 4 (fun j _ _ => x4 j (by omega) (by omega) (by omega) (by omega))).trans h.frm, x5, (numL_congr 16 2 (fun j _ _ => x4 j (by omega) (by omega) (by omega) (by omega))).trans h.fp, x6⟩
theorem kp_write {b : List Int} {p : Pk} {len : Nat} (h : Kp b p len) (h3 : p.kind ≠ 3) {i m x : Int} (hi : 24 ≤ i ∨ (i = 20 ∧ p.kind = 2)) : Kp (thenL b (writeR b i m x)) p len := by
  by_cases hw : wrOK b i m x
  · rw [writeR_ok h.o hw, thenL_ok]
    have k3 : b.getD 0 0 ≠ 3 := by rw [h.k]; exact h3
    have pl : placeL b = 22 := by unfold placeL; rw [if_neg k3]
    obtain ⟨hm, v0, v1, i16, il, ip⟩ := hw
    obtain ⟨j, rfl⟩ := Int.eq_ofNat_of_zero_le (show 0 ≤ i by omega)
    obtain ⟨n, rfl⟩ := Int.eq_ofNat_of_zero_le (show 0 ≤ m by omega)
    rw [Int.toNat_natCast] at v1 ⊢
    rw [Int.toNat_natCast]
    obtain ⟨f1, f2, f3, f4, f5, f6⟩ := write_facts h.y h.o (j := j) (n := n) (v := x) (by omega) (by omega) (by omega) (by omega) v0 v1
    obtain ⟨g1, g2⟩ := write_keep h.y h.o (j := j) (n := n) (v := x) (by omega) (by rcases hi with h | ⟨h, hk⟩; exact Or.inl (by omega); exact Or.inr ⟨by omega, by rw [‹Kp b p len›.k, hk]⟩) (by omega) (by omega) v0 v1
    have f : ∀ t, t < 20 → (writeL (bareB b) b j n x).getD t 0 = b.getD t 0 := fun t ht => f3 t (Or.inl (by omega)) (Or.inl (by omega))
    exact ⟨g1, f2, f5.trans h.bb, (f 0 (by omega)).trans h.k, g2.trans h.w, f1.trans h.l, (f 1 (by omega)).trans h.life, (f 12 (by omega)).trans h.piece,
      (numL_congr 4 4 (fun t _ _ => f t (by omega))).trans h.frm, (numL_congr 8 4 (fun t _ _ => f t (by omega))).trans h.dst, (numL_congr 16 2 (fun t _ _ => f t (by omega))).trans h.fp, (numL_congr 18 2 (fun t _ _ => f t (by omega))).trans h.tp⟩
  · rw [writeR_no h.o hw, thenL_no _ _ (by decide)]
    exact h
/-- A packet that was taken apart may be built, wherever it is from. -/
theorem pk_again {l : List Int} (o : Ok l) (y : Bytes l) (h3 : l.getD 0 0 ≠ 3) {frm dst fp tp : Int} (a0 : 0 ≤ frm ∧ frm ≤ 4294967295) (a1 : 0 ≤ dst ∧ dst ≤ 4294967295) (a2 : 0 ≤ fp ∧ fp ≤ 65535) (a3 : 0 ≤ tp ∧ tp ≤ 65535) :
    buildE { pkL l with frm := frm, dst := dst, fp := fp, tp := tp } = 0 ∧ Canon { pkL l with frm := frm, dst := dst, fp := fp, tp := tp } ∧ nL { pkL l with frm := frm, dst := dst, fp := fp, tp := tp } = l.length := by
  have b1 := getD_byte y 1
  have b12 := getD_byte y 12
  have b20 := getD_byte y 20
  have b21 := getD_byte y 21
  have h24 := o.h24
  have hle := o.le
  have hk1 := o.k1
  have hk3 := o.k3
  have p20 := pr_b y 20
  rw [← num2_pr] at p20
  by_cases h2 : l.getD 0 0 = 2
  · have e : pkL l = ⟨2, l.getD 1 0, l.getD 12 0, numL l 4 4, numL l 8 4, numL l 16 2, numL l 18 2, 0, numL l 20 2, numL l 22 2 == 0, 0, [], l.drop 24⟩ := by unfold pkL; rw [if_neg h3, if_pos h2]
    rw [e]
    have hn : nL (⟨2, l.getD 1 0, l.getD 12 0, frm, dst, fp, tp, 0, numL l 20 2, numL l 22 2 == 0, 0, [], l.drop 24⟩ : Pk) = l.length := by
      simp [nL]; omega
    refine ⟨?_, ⟨fun x hx => (by cases hx), fun x hx => y x (List.mem_of_mem_drop hx), fun h => (by simp at h), fun _ => ⟨rfl, rfl, rfl⟩, fun h => (by simp at h)⟩, hn⟩
    unfold buildE
    rw [hn, if_neg (by simp), if_neg ?_, if_neg (by simp), if_neg (by simp; omega)]
    unfold okR
    simp only [rgB_true b1.1 b1.2, rgB_true b12.1 b12.2, rgB_true a0.1 a0.2, rgB_true a1.1 a1.2, rgB_true a2.1 a2.2, rgB_true a3.1 a3.2, rgB_true p20.1 p20.2]
    simp
  · have h1 : l.getD 0 0 = 1 := by omega
    have c1 := o.s20 h1
    have c2 := o.s21 h1
    have c3 := o.rest h1
    have e : pkL l = ⟨1, l.getD 1 0, l.getD 12 0, numL l 4 4, numL l 8 4, numL l 16 2, numL l 18 2, l.getD 20 0, 0, false, 0, (l.take (restS l)).drop 24, l.drop (restS l)⟩ := by unfold pkL; rw [if_neg h3, if_neg h2]
    rw [e]
    have r24 : 24 ≤ restS l := by unfold restS; omega
    have r64 : restS l ≤ 64 := by unfold restS; omega
    have ho : ((l.take (restS l)).drop 24).length = restS l - 24 := by rw [List.length_drop, List.length_take]; omega
    have hd : (l.drop (restS l)).length = l.length - restS l := List.length_drop
    have hn : nL (⟨1, l.getD 1 0, l.getD 12 0, frm, dst, fp, tp, l.getD 20 0, 0, false, 0, (l.take (restS l)).drop 24, l.drop (restS l)⟩ : Pk) = l.length := by
      simp only [nL, ho, hd]
      simp
      omega
    refine ⟨?_, ⟨fun x hx => y x (List.mem_of_mem_take (List.mem_of_mem_drop hx)), fun x hx => y x (List.mem_of_mem_drop hx), fun _ => ⟨rfl, rfl, rfl⟩, fun h => (by simp at h), fun h => (by simp at h)⟩, hn⟩
    unfold buildE
    rw [hn, if_neg (by simp), if_neg ?_, if_neg (by simp only [ho]; omega), if_neg (by simp; omega)]
    unfold okR
    simp only [rgB_true b1.1 b1.2, rgB_true b12.1 b12.2, rgB_true a0.1 a0.2, rgB_true a1.1 a1.2, rgB_true a2.1 a2.2, rgB_true a3.1 a3.2, rgB_true b20.1 c1]
    simp
theorem op_at {w : World} {A : Option Addr} {n : Nat} {L : List Op3} (h : kdOp.C w A n L) {i : Nat} {e : Op3} (he : L[i]? = some e) : ∃ ad, A = some ad ∧ ∀ j v, e.cs[j]? = some v → w.cell? ((ad.add (i * 3)).add j) = some v := by
  have hi : i < L.length := (List.getElem?_eq_some_iff.1 he).1
  obtain ⟨ad, hA, hc⟩ := h.2.2 (by have := h.1; omega)
  obtain ⟨c, _, hR, hcell⟩ := hc i e he
  have hR' : c = e.cs := hR
  subst hR'
  exact ⟨ad, hA, fun j v hv => by rw [ad_add]; exact hcell j v hv⟩
theorem op_load {ops : Array Oper} {rest : List Oper} {o : Oper} {a : Act} {Q : Exit → Act → World → Prop} {W : World} {x : Operand} {e : Op3} {ad : Addr} (hgd : o.guard = none) (ho : o.op = .load 114 x) (hx : a.eval x = .pointer (some ad)) (hc : ∀ j v, e.cs[j]? = some v → W.cell? (ad.add j) = some v)
    (h : wpList Try.prog ops Q rest (a.put o.dst (.agg #[.int .i64 e.k, .int .i64 e.a, .int .i64 e.n])) W) : wpList Try.prog ops Q (o :: rest) a W := by
  refine Kd.event_run hgd (w1 := W) (v := .agg e.cs.toArray) ?_ h
  have hl : (loadCells ad 3).run Try.prog W = .ok e.cs.toArray W := run_loadCells_list (P := Try.prog) W ad e.cs hc
  obtain ⟨i0, hi, hz⟩ := Option.map_eq_some_iff.1 info114
  simp only [Prod.mk.injEq] at hz
  have hagg : (isAgg 114).run Try.prog W = .ok true W := by
    unfold isAgg
    rw [Sem.run_bind, run_underlying Try.underlying114 W]
    rfl
  unfold execOp
  simp only [ho, hx, Instr.loadAt, Instr.sureAddr, Sem.run_bind, Sem.run_pure, Result.andThen_ok]
  simp [loadVar, Sem.run_bind, hagg, sizeOf, typeInfo, hi, hz.2.1, hl]
theorem info114s : (Try.prog.info? 114).map (·.size) = some 3 := by kernel_rfl
theorem onum_calls {A : Option Addr} {c n : Nat} {l : List Int} {r : Int} {w : World} (hr : Kd.C (Kd.int .u8) w A n l) (hn : l.length = n) (hc : n ≤ c) (h : opts_number.f l = some r) : Calls Try.prog 55 #[.slice A n c] w fun e w' => e = .returned (.int .u32 r) ∧ Below w.heap.size w w' := by
  subst hn
  refine (opts_number.calls A c l r w hr hc h).mono ?_
  rintro e w' ⟨rfl, ⟨⟨nd, rfl⟩⟩⟩
  exact ⟨rfl, bd (Below.refl _ w) nd⟩
theorem walkL_len : ∀ (f : Nat) (l : List Int) (i : Nat) (L : List Op3), walkL f l i = some L → i ≤ l.length → L.length + i ≤ l.length
  | 0, l, i, L, h, hi => by
    rw [walkL] at h
    cases h
    simpa using hi
  | f + 1, l, i, L, h, hi => by
    rw [walkL] at h
    split at h
    · cases h
      simpa using hi
    · rename_i h0
      split at h
      · split at h
        · cases h
        · split at h
          · cases h
          · split at h
            · cases h
            · rename_i h1 h2 h3 h4
              obtain ⟨L', hL, rfl⟩ := Option.map_eq_some_iff.1 h
              have := walkL_len f l _ L' hL (by omega)
              rw [List.length_cons]
              omega
      · split at h
        · cases h
          rw [List.length_singleton]
          omega
        · obtain ⟨L', hL, rfl⟩ := Option.map_eq_some_iff.1 h
          have := walkL_len f l _ L' hL (by omega)
          rw [List.length_cons]
          omega
theorem isop_calls (x : Op3) (w : World) : Calls Try.prog 54 #[.agg #[.int .i64 x.k, .int .i64 x.a, .int .i64 x.n]] w fun e w' => e = .returned (.bool (opIs x)) ∧ Below w.heap.size w w' := by
  obtain ⟨k, a, n⟩ := x
  obtain ⟨g, hg⟩ : ∃ n, w.heap.size = n := ⟨_, rfl⟩
  have hu114 := Try.underlying114
  go_enter Try.func54, Try.ntmps54
  go_upto_region 1 with fail
  refine wp_w (fun W => W.heap[g]? = some (.cells #[.int .i64 k, .int .i64 a, .int .i64 n] 114 (0, 0)) ∧ Below w.heap.size w W) ?_ ?_
  · exact ⟨by rw [← hg]; exact new_blk w _, below_alloc (Below.refl _ w) _⟩
  intro w1 h1
  have HB1 := am_ h1.2
  obtain ⟨t0, t1, t2⟩ := c3 h1.1
  clear h1
  by_cases hk : k = 8
  · have hd : (k == 8) = true := beq_iff_eq.mpr hk
    by_cases hn : n = 10
    · have hd2 : (n == 10) = true := beq_iff_eq.mpr hn
      have HR := am_ (show opIs ⟨k, a, n⟩ = true by unfold opIs; rw [hd, hd2]; rfl)
      clear hk hn
      go_wp2
      go_ret
      exact ⟨by rw [HR.out]; first | rfl | (rw [hd2]; rfl) | simp_all, HB1.out⟩
    · have hd2 : (n == 10) = false := beq_eq_false_iff_ne.mpr hn
      have HR := am_ (show opIs ⟨k, a, n⟩ = false by unfold opIs; rw [hd, hd2]; rfl)
      clear hk hn
      go_wp2
      go_ret
      exact ⟨by rw [HR.out]; first | rfl | (rw [hd2]; rfl) | simp_all, HB1.out⟩
  · have hd : (k == 8) = false := beq_eq_false_iff_ne.mpr hk
    have HR := am_ (show opIs ⟨k, a, n⟩ = false by unfold opIs; rw [hd]; rfl)
    clear hk
    go_wp2
    go_ret
    exact ⟨by rw [HR.out]; first | rfl | simp_all, HB1.out⟩
theorem index_calls {A : Option Addr} {n c : Nat} {L : List Op3} {w : World} (hr : kdOp.C w A n L) (hn : L.length = n) (hc : n ≤ c) (hs : n ≤ 1000) :
    Calls Try.prog 94 #[.slice A n c, .func (.func 54) #[] #[]] w fun e w' => e = .returned (.int .i64 (opIdx L L.length 0)) ∧ Below w.heap.size w w' := by
  subst hn
  obtain ⟨R, hR⟩ : ∃ R, opIdx L L.length 0 = R := ⟨_, rfl⟩
  rw [hR]
  have HR := am_ hr
  have HRR := am_ hR
  have HS := am_ hs
  have hu114 := Try.underlying114
  have hu110 := Try.underlying110
  clear hr hc hs hR
  go_enter Try.func94, Try.ntmps94
  go_wp2
  go_loopg [8] L.length (fun kq v8 w' => ∃ (i : Nat), v8 = .int .i64 (i : Int) ∧ Aside (kq + i = L.length) ∧ Aside0 (opIdx L kq i = R) ∧ Aside0 (Below w.heap.size w w'))
  case atStart => exact ⟨0, rfl, (by show _ = _; omega), HRR, am_ (Below.refl _ w)⟩
  case round =>
    obtain ⟨i, rfl, hk, HA, HB⟩ := hrel
    have HKQ := am_ hk.out
    clear hk
    rename World => wr1
    by_cases hlt : i < L.length
    · have hd : decide (i < L.length) = true := decide_eq_true hlt
      have hi0 : (0 : Int) ≤ (i : Int) := by omega
      have hi1 : (i : Int) < (L.length : Int) := by omega
      have HLI := am_ hlt
      have HGK := am_ (show 0 < gk from by have := HKQ.out; omega)
      obtain ⟨e, he⟩ : ∃ e, L[i]? = some e := ⟨_, List.getElem?_eq_getElem hlt⟩
      have hge : L.getD i Op3.z = e := by rw [List.getD_eq_getElem?_getD, he]; rfl
      obtain ⟨ad, ead, hcell⟩ := op_at (Kd.C_below HR.out HB.out) he
      subst ead
      have HCELL := am_ hcell
      have HN := am_ (show (if opIs e = true then (i : Int) else opIdx L (gk - 1) (i + 1)) = R from by
        have h1 := HA.out
        obtain ⟨m, hm⟩ : ∃ m, gk = m + 1 := ⟨gk - 1, by have := HGK.out; omega⟩
        rw [hm] at h1 ⊢
        rw [opIdx, hge] at h1
        exact h1)
      clear hlt hcell he hge
      cases hop : opIs e with
      | true =>
        have HOP := am_ hop
        have HIS := am_ (fun W => hop ▸ isop_calls e W)
        clear hop
        go_wp2_with (first
          | ((with_reducible refine gate_dst (N := 15) rfl ?_); (refine op_load (e := e) rfl rfl rfl HCELL.out ?_))
          | (go_at_call 54; (with_reducible refine (HIS.out _).mono ?_); rintro e1 x1 ⟨rfl, hx⟩; have HX1 := am_ hx; clear hx))
        go_ret
        have h2 := HN.out
        rw [HOP.out, if_pos rfl] at h2
        exact ⟨by rw [← h2]; rfl, below_step HB.out HX1.out⟩
      | false =>
        have HOP := am_ hop
        have HIS := am_ (fun W => hop ▸ isop_calls e W)
        clear hop
        go_wp2_with (first
          | ((with_reducible refine gate_dst (N := 15) rfl ?_); (refine op_load (e := e) rfl rfl rfl HCELL.out ?_))
          | (go_at_call 54; (with_reducible refine (HIS.out _).mono ?_); rintro e1 x1 ⟨rfl, hx⟩; have HX1 := am_ hx; clear hx))
        go_roundg (gk - 1)
        case measure => have := HGK.out; omega
        case rel => exact ⟨i + 1, (by have := HLI.out; have := HS.out; show Value.int _ _ = Value.int _ _; first | rfl | (rw [wid (by omega) (by omega)]; rfl)), (by show _ = _; have := HKQ.out; have := HGK.out; omega), am_ (by have h2 := HN.out; rw [HOP.out, if_neg (by simp)] at h2; exact h2), am_ (below_step HB.out HX1.out)⟩
    · have hd : decide (i < L.length) = false := decide_eq_false hlt
      have HE := am_ (show (-1 : Int) = R from by
        have h1 := HA.out
        rw [show gk = 0 from by have := HKQ.out; omega] at h1
        exact h1)
      clear hlt
      go_wp2
      go_ret
      exact ⟨by rw [← HE.out]; rfl, HB.out⟩
theorem ofind_calls {A : Option Addr} {n c : Nat} {L : List Op3} {w : World} (hr : kdOp.C w A n L) (hn : L.length = n) (hc : n ≤ c) (hs : n ≤ 1000) {i : Int} (hi : opIdx L L.length 0 = i) {x : Op3} (hx : (if i < 0 then Op3.z else L.getD i.toNat Op3.z) = x) :
    Calls Try.prog 53 #[.slice A n c, .func (.func 54) #[] #[]] w fun e w' => e = .returned (.tuple #[.agg #[.int .i64 x.k, .int .i64 x.a, .int .i64 x.n], .bool (decide (0 ≤ i))]) ∧ Below w.heap.size w w' := by
  subst hn
  have HR := am_ hr
  have HIX := am_ (fun W (hW : Below w.heap.size w W) => hi ▸ index_calls (w := W) (Kd.C_below hr hW) rfl hc hs)
  have hok := opIdx_ok L L.length 0 (by omega)
  rw [hi] at hok
  obtain ⟨g, hg⟩ : ∃ n, w.heap.size = n := ⟨_, rfl⟩
  have hu114 := Try.underlying114
  have hu110 := Try.underlying110
  clear hr hc hs hi
  go_enter Try.func53, Try.ntmps53
  go_upto_region 1 with fail
  refine wp_w (fun W => W.heap[g]? = some (.cells #[.int .i64 0, .int .i64 0, .int .i64 0] 114 (0, 0)) ∧ Below w.heap.size w W) ?_ ?_
  · exact ⟨by rw [← hg]; exact new_blk w _, below_alloc (Below.refl _ w) _⟩
  intro w1 h1
  have HZ1 := am_ h1.1
  have HB1 := am_ h1.2
  clear h1
  go_upto_region 2 with (first
    | (go_at_call 94; (with_reducible refine (HIX.out _ HB1.out).mono ?_); rintro e1 x1 ⟨rfl, hx1⟩; have HX1 := am_ hx1; clear hx1))
  refine wp_w (fun W => W.heap[g]? = some (.cells #[.int .i64 0, .int .i64 0, .int .i64 0] 114 (0, 0)) ∧ Below w.heap.size w W) ?_ ?_
  · exact ⟨bk_ HZ1.out HX1.out, below_step HB1.out HX1.out⟩
  intro w2 h2
  have HZ2 := am_ h2.1
  have HB2 := am_ h2.2
  obtain ⟨t0, t1, t2⟩ := c3 h2.1
  have u0 := fr_ h2.1 0
  have u1 := fr_ h2.1 1
  have u2 := fr_ h2.1 2
  clear h2
  rcases hok with rfl | ⟨j, rfl, hj, hs⟩
  · rw [if_pos (by decide)] at hx
    subst hx
    have hle : w.heap.size ≤ g := by omega
    have HLE := am_ hle
    clear hle
    obtain ⟨g7, hg7⟩ : ∃ n, w2.heap.size = n := ⟨_, rfl⟩
    go_upto_region 5 with fail
    refine wp_w (fun W => W.heap[g]? = some (.cells #[.int .i64 0, .int .i64 0, .int .i64 0] 114 (0, 0)) ∧ W.heap[g7]? = some (.cells #[.int .i64 0, .int .i64 0, .int .i64 0] 114 (0, 0)) ∧ Below w.heap.size w W) ?_ ?_
    · have hb := below_alloc (Below.refl w2.heap.size w2) (.cells #[.int .i64 0, .int .i64 0, .int .i64 0] 114)
      exact ⟨bk_ HZ2.out hb, by rw [← hg7]; exact new_blk w2 _, below_step HB2.out hb⟩
    intro w3 h3
    have HZ3 := am_ h3.1
    have HB3 := am_ h3.2.2
    obtain ⟨t0, t1, t2⟩ := c3 h3.1
    have u0 := fr_ h3.1 0
    have u1 := fr_ h3.1 1
    have u2 := fr_ h3.1 2
    obtain ⟨s0, s1, s2⟩ := c3 h3.2.1
    clear h3
    go_wp2
    have hc : Chg g w3 (((w3.setCell ⟨g, 0, none⟩ (.int .i64 0)).setCell ⟨g, 1, none⟩ (.int .i64 0)).setCell ⟨g, 2, none⟩ (.int .i64 0)) := (((Chg.refl g w3).set _ _).set _ _).set _ _
    exact bodyPost_ret (results_ct_row rfl _ _ g 114 #[.int .i64 0, .int .i64 0, .int .i64 0] (0, 0) _ rfl (heap_setCell_same _ g 2 _ 114 (.int .i64 0) (heap_setCell_same _ g 1 _ 114 (.int .i64 0) (heap_setCell_same _ g 0 _ 114 (.int .i64 0) HZ3.out))) Try.underlying114 rfl info114s) rfl ⟨rfl, Chg.step HB3.out hc HLE.out⟩
  · rw [if_neg (by omega), Int.toNat_natCast] at hx
    have hge : L[j]? = some x := by rw [← hx, List.getD_eq_getElem?_getD, List.getElem?_eq_getElem hj]; rfl
    obtain ⟨ad, ead, hcell⟩ := op_at (Kd.C_below HR.out HB2.out) hge
    subst ead
    have HCELL := am_ hcell
    have hi0 : (0 : Int) ≤ (j : Int) := by omega
    have hi1 : (j : Int) < (L.length : Int) := by omega
    have hd : decide ((0 : Int) ≤ (j : Int)) = true := decide_eq_true hi0
    have hle : w.heap.size ≤ g := by omega
    have HLE := am_ hle
    clear hle hcell hge hx hs
    go_wp2_with (first
      | ((with_reducible refine gate_dst (N := 16) rfl ?_); (refine op_load (e := x) rfl rfl rfl HCELL.out ?_)))
    have hc : Chg g w2 (((w2.setCell ⟨g, 0, none⟩ (.int .i64 x.k)).setCell ⟨g, 1, none⟩ (.int .i64 x.a)).setCell ⟨g, 2, none⟩ (.int .i64 x.n)) := (((Chg.refl g w2).set _ _).set _ _).set _ _
    exact bodyPost_ret (results_ct_row rfl _ _ g 114 #[.int .i64 x.k, .int .i64 x.a, .int .i64 x.n] (0, 0) _ rfl (heap_setCell_same _ g 2 _ 114 (.int .i64 x.n) (heap_setCell_same _ g 1 _ 114 (.int .i64 x.a) (heap_setCell_same _ g 0 _ 114 (.int .i64 x.k) HZ2.out))) Try.underlying114 rfl info114s) rfl ⟨by rw [hd]; rfl, Chg.step HB2.out hc HLE.out⟩
theorem stamp_calls {A : Option Addr} {c n : Nat} {l : List Int} {w : World} (hr : Kd.C (Kd.int .u8) w A n l) (hn : l.length = n) (hc : n ≤ c) (hl : l.length ≤ 1000) (hb : Bytes l) :
    Calls Try.prog 18 #[.slice A n c] w fun e w' => e = .returned (.tuple #[.int .i64 (stampL l).1, .int .u32 (stampL l).2.1, .int .u32 (stampL l).2.2.1, .bool (stampL l).2.2.2]) ∧ Below w.heap.size w w' := by
  subst hn
  have HWK := am_ (walk_calls hr rfl hc hl hb)
  have HRD := am_ (fun W (hW : Below w.heap.size w W) => Kd.C_below hr hW)
  have HC := am_ hc
  have HLL := am_ hl
  have hu114 := Try.underlying114
  clear hr hc hl hb
  cases hwk : walkL (l.length + 1) l 0 with
  | none =>
    have HS := am_ (show stampL l = (0, 0, 0, false) by unfold stampL; rw [hwk])
    rw [hwk] at HWK
    clear hwk
    go_enter Try.func18, Try.ntmps18
    go_wp2_with (first
      | (go_at_call 52; ((with_reducible refine HWK.out.mono ?_); rintro e1 x1 ⟨rfl, hx⟩; have HX1 := am_ hx; clear hx)))
    refine bodyPost_ret (results_list (rs := [.tmp 2, .tmp 3, .tmp 4, .tmp 5]) rfl (by simp) (.tmp (.tmp (.tmp (.tmp .nil))))) rfl ?_
    exact ⟨by rw [HS.out]; rfl, HX1.out⟩
  | some L =>
    have HLN := am_ (show L.length ≤ 1000 by have := walkL_len _ _ _ _ hwk (Nat.zero_le _); have := HLL.out; omega)
    rcases opIdx_ok L L.length 0 (by omega) with hi | ⟨j, hi, hj, hs⟩
    · have HS := am_ (show stampL l = (0, 0, 0, false) by unfold stampL; rw [hwk]; simp only; rw [hi, if_pos (by omega)])
      have HI := am_ hi
      rw [hwk] at HWK
      clear hwk hi
      obtain ⟨g, hg⟩ : ∃ n, n = 0 := ⟨0, rfl⟩
      go_enter Try.func18, Try.ntmps18
      go_wp2_with (first
        | (go_at_call 52; ((with_reducible refine HWK.out.mono ?_); rintro e1 x1 ⟨A9, rfl, hC9, hx⟩; have HX1 := am_ hx; have HF := am_ (ofind_calls (w := x1) hC9 rfl (Nat.le_refl _) HLN.out HI.out rfl); clear hx hC9))
        | (go_at_call 53; ((with_reducible refine HF.out.mono ?_); rintro e2 x2 ⟨rfl, hx⟩; have HX2 := am_ (below_step HX1.out hx); clear hx)))
      refine bodyPost_ret (results_list (rs := [.tmp 2, .tmp 3, .tmp 4, .tmp 5]) rfl (by simp) (.tmp (.tmp (.tmp (.tmp .nil))))) rfl ?_
      exact ⟨by rw [HS.out]; rfl, below_alloc HX2.out _⟩
    · obtain ⟨a0, ha0, hal⟩ := stamp_at hwk hj hs
      have HS := am_ (show stampL l = (((a0 + 2 : Nat) : Int), numV l (a0 + 2), numV l (a0 + 2 + 4), true) by unfold stampL; rw [hwk]; simp only; rw [hi, if_neg (by omega), Int.toNat_natCast, ha0]; rfl)
      obtain ⟨a, ha⟩ : ∃ z, a0 + 2 = z := ⟨_, rfl⟩
      rw [ha] at HS
      have hal8 : a + 8 ≤ l.length := by omega
      obtain ⟨xo, hxo⟩ : ∃ z, L.getD j Op3.z = z := ⟨_, rfl⟩
      rw [hxo] at ha0
      have hxa : wrap64 (xo.a + 2) = (a : Int) := by rw [ha0, wid (by omega) (by have := HLL.out; omega)]; omega
      have hxa4 : wrap64 ((a : Int) + 4) = (a : Int) + 4 := wid (by omega) (by have := HLL.out; omega)
      have HI := am_ hi
      have HJ := am_ (show (if (j : Int) < 0 then Op3.z else L.getD (j : Int).toNat Op3.z) = xo by rw [if_neg (by omega), Int.toNat_natCast, hxo])
      have hd0 : decide ((0 : Int) ≤ (j : Int)) = true := decide_eq_true (by omega)
      obtain ⟨A1, hcut1, hC1, hc1⟩ := cut_from (A := A) (c := c) (l := l) a (l.length - a) (iz := (a : Int)) rfl rfl (by omega) rfl HC.out
      obtain ⟨A2, hcut2, hC2, hc2⟩ := cut_from (A := A) (c := c) (l := l) (a + 4) (l.length - (a + 4)) (iz := (a : Int) + 4) (by omega) rfl (by omega) rfl HC.out
      have HN1 := am_ (fun W (hW : Below w.heap.size w W) => onum_calls (w := W) (hC1 W (HRD.out W hW)) (by rw [List.length_drop]) hc1 (numV_some (by omega)))
      have HN2 := am_ (fun W (hW : Below w.heap.size w W) => onum_calls (w := W) (hC2 W (HRD.out W hW)) (by rw [List.length_drop]) hc2 (numV_some (by omega)))
      rw [hwk] at HWK
      clear hwk hi hj hs ha0 hal ha hal8 hxo hC1 hC2 hc1 hc2
      go_enter Try.func18, Try.ntmps18
      go_upto_region 8 with (first
        | (go_at_call 52; ((with_reducible refine HWK.out.mono ?_); rintro e1 x1 ⟨A9, rfl, hC9, hx⟩; have HX1 := am_ hx; have HF := am_ (ofind_calls (w := x1) hC9 rfl (Nat.le_refl _) HLN.out HI.out HJ.out); clear hx hC9))
        | (go_at_call 53; ((with_reducible refine HF.out.mono ?_); rintro e2 x2 ⟨rfl, hx⟩; have HX2 := am_ (below_step HX1.out hx); clear hx)))
      refine wp_w (fun W => Below w.heap.size w W) ?_ ?_
      · exact below_alloc HX2.out _
      intro w5 h5
      have HQc := am_ h5.drew
      clear h5
      refine start_ (n := 14) (S := fun w' => True) (ds := []) #[fF,fF,fF,fF,fF,fF,fF,fF,fF,fF,fF,fF,fF,fF] (by kernel_rfl) rfl rfl (trivial) (fun hHeld => ?_)
      refine p_ 0 26 ?_
      refine p_ 1 27 ?_
      refine p_ 2 28 ?_
      refine p_ 3 29 ?_
      refine p_ 5 31 ?_
      refine p_ 6 32 ?_
      refine p_ 7 33 ?_
      refine p_ 8 34 ?_
      refine o_ 4 (some 30) (fun K hK => ?_)
      refine g_ Try.func55 #[.slice A1 (l.length - a) (c - a)] ?_
      with_reducible refine (HN1.out _ HQc.out).mono ?_
      rintro e1 w31 ⟨rfl, hx⟩
      refine ⟨_, rfl, ?_⟩
      replace HQc := am_ (below_step HQc.out hx)
      clear hx
      refine hK.out _ _ (trivial) (fun hHeld => ?_)
      clear hK K
      refine n_ 30 ?_
      refine o_ 9 (some 35) (fun K hK => ?_)
      refine g_ Try.func55 #[.slice A2 (l.length - (a + 4)) (c - (a + 4))] ?_
      with_reducible refine (HN2.out _ HQc.out).mono ?_
      rintro e2 w32 ⟨rfl, hx⟩
      refine ⟨_, rfl, ?_⟩
      replace HQc := am_ (below_step HQc.out hx)
      clear hx
      refine hK.out _ _ (trivial) (fun hHeld => ?_)
      clear hK K
      refine n_ 35 ?_
      refine p_ 10 2 ?_
      refine p_ 11 3 ?_
      refine p_ 12 4 ?_
      refine p_ 13 5 ?_
      refine done_ (by kernel_rfl) ?_
      go_wp2
      refine bodyPost_ret (results_list (rs := [.tmp 2, .tmp 3, .tmp 4, .tmp 5]) rfl (by simp) (.tmp (.tmp (.tmp (.tmp .nil))))) rfl ?_
      exact ⟨by rw [HS.out]; rfl, HQc.out⟩
theorem then_calls {a0 a1 a2 a3 a4 a5 a6 a7 a8 a9 a10 a11 a12 a13 a14 : Value} {k : Nat} (A : Option Addr) (n c : Nat) (e : Int) {w : World} (hk : w.heap[k]? = some (.cells #[a0, a1, a2, a3, a4, a5, a6, a7, a8, a9, a10, a11, a12, a13, a14] 101 (0, 0))) :
    Calls Try.prog 41 #[.pointer (some ⟨k, 0, none⟩), .slice A n c, .int .i64 e] w fun e' w' => e' = .returned (.tuple #[]) ∧ w'.heap[k]? = some (.cells #[a0, a1, a2, a3, a4, a5, a6, a7, a8, a9, a10, a11, a12, a13, if e = 0 then .slice A n c else a14] 101 (0, 0)) ∧ Chg k w w' := by
  have HK := am_ hk
  obtain ⟨k0, k1, k2, k3, k4, k5, k6, k7, k8, k9, k10, k11, k12, k13, k14⟩ := c15 hk
  have u14 := fr_ hk 14
  clear hk
  by_cases he : e = 0
  · have hb : (e == 0) = true := beq_iff_eq.mpr he
    rw [if_pos he]
    clear he
    go_enter Try.func41, Try.ntmps41
    go_wp2
    go_end0
    exact ⟨rfl, heap_setCell_same w k 14 _ 101 _ HK.out, (Chg.refl k w).set _ _⟩
  · have hb : (e == 0) = false := beq_eq_false_iff_ne.mpr he
    rw [if_neg he]
    clear he
    go_enter Try.func41, Try.ntmps41
    go_wp2
    go_end0
    exact ⟨rfl, HK.out, Chg.refl k w⟩
end Go.Proofs.Ytgkmbefamcnifaa.TB
