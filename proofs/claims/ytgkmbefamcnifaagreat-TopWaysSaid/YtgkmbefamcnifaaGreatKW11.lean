/- Lemmas and contracts that the row YtgkmbefamcnifaaGreatLawTopWays goes by (part 11; joined by pack.py out of this session's texts, and of words that the kit's print lays). -/
import Derived.Test.YtgkmbefamcnifaaGreatKW10
import Derived.Lib.QuoteBits
set_option maxRecDepth 100000
set_option maxHeartbeats 8000000
namespace Go.Proofs.YtgkmbefamcnifaaGreat.WB
set_option linter.unusedVariables false
set_option linter.unusedSimpArgs false
open Go.RowKit Go.Proofs.YtgkmbefamcnifaaGreat.Hp Go.Proofs.YtgkmbefamcnifaaGreat.SB Go.Proofs.YtgkmbefamcnifaaGreatW.PrintWords Go.Proofs.YtgkmbefamcnifaaGreatW.PrintLast Go.Proofs.YtgkmbefamcnifaaGreatW.PrintMore
/-- What Write lays. -/
def writeL (bare : Bool) (l : List Int) (i m : Nat) (v : Int) : List Int := doneL bare (bodyT bare l (putL l i m v) i m)
theorem write_err {A : Option Addr} {c : Nat} {l : List Int} {w : World} (hr : Kd.C (Kd.int .u8) w A l.length l) (hc : l.length ≤ c) (hl : l.length ≤ 10000) (hb : Bytes l) {p0 p1 p2 p3 p4 p5 p6 p7 p8 : Int} {p9 : Bool} {p10 : Int} {p11 p12 : List Int} (i m v : Int) {x : Int} (hp : parseL l = (⟨p0, p1, p2, p3, p4, p5, p6, p7, p8, p9, p10, p11, p12⟩, x)) (hx : x ≠ 0) :
    Calls Tryz.prog 81 #[.slice A l.length c, .int .i64 i, .int .i64 m, .int .i64 v] w (Told w [] x) := by
  have q0 : (x == 0) = false := beq_eq_false_iff_ne.mpr hx
  have q0n : (x != 0) = true := bne_iff_ne.mpr hx
  have G := am_ (begin_err hr hc (by omega) hb hp hx)
  clear hx
  clear hr hc hl hb hp
  go_enter Tryz.func81, Tryz.ntmps81
  go_wp2_with (first | (go_at_call 76; (with_reducible refine G.out.mono ?_); rintro e w1 ⟨⟨A1, c1, A2, c2, rfl⟩, hb1⟩; have HB1 := am_ hb1; clear hb1))
  go_ret2
  exact told_nil (HB1.out.alloc HB1.out.size _)
theorem write_n {A : Option Addr} {c : Nat} {l : List Int} {w : World} (hr : Kd.C (Kd.int .u8) w A l.length l) (hc : l.length ≤ c) (hl : l.length ≤ 10000) (hb : Bytes l) {p0 p1 p2 p3 p4 p5 p6 p7 p8 : Int} {p9 : Bool} {p10 : Int} {p11 p12 : List Int} (i m v : Int) (hp : parseL l = (⟨p0, p1, p2, p3, p4, p5, p6, p7, p8, p9, p10, p11, p12⟩, 0)) (h : ¬ (m = 1 ∨ m = 2 ∨ m = 4)) :
    Calls Tryz.prog 81 #[.slice A l.length c, .int .i64 i, .int .i64 m, .int .i64 v] w (Told w [] 14) := by
  have G := am_ (begin_ok hr hc (by omega) hb hp)
  have m1 : (m == 1) = false := beq_eq_false_iff_ne.mpr (by omega)
  have n1 : (m != 1) = true := bne_iff_ne.mpr (by omega)
  have m2 : (m == 2) = false := beq_eq_false_iff_ne.mpr (by omega)
  have n2 : (m != 2) = true := bne_iff_ne.mpr (by omega)
  have m4 : (m == 4) = false := beq_eq_false_iff_ne.mpr (by omega)
  have n4 : (m != 4) = true := bne_iff_ne.mpr (by omega)
  clear h
  clear hr hc hl hb hp
  go_enter Tryz.func81, Tryz.ntmps81
  go_wp2_with (first | (go_at_call 76; (with_reducible refine G.out.mono ?_); rintro e w1 ⟨t, g, cc, A1, c1, A2, c2, rfl, ht⟩; have HT := am_ ht; clear ht))
  go_ret2
  exact told_nil (HT.out.below.alloc HT.out.below.size _)
theorem write_v0_1 {A : Option Addr} {c : Nat} {l : List Int} {w : World} (hr : Kd.C (Kd.int .u8) w A l.length l) (hc : l.length ≤ c) (hl : l.length ≤ 10000) (hb : Bytes l) {p0 p1 p2 p3 p4 p5 p6 p7 p8 : Int} {p9 : Bool} {p10 : Int} {p11 p12 : List Int} (i v : Int) (hp : parseL l = (⟨p0, p1, p2, p3, p4, p5, p6, p7, p8, p9, p10, p11, p12⟩, 0)) (h : v < 0) :
    Calls Tryz.prog 81 #[.slice A l.length c, .int .i64 i, .int .i64 1, .int .i64 v] w (Told w [] 14) := by
  have G := am_ (begin_ok hr hc (by omega) hb hp)
  have d0 : decide (v < 0) = true := decide_eq_true h
  clear h
  clear hr hc hl hb hp
  go_enter Tryz.func81, Tryz.ntmps81
  go_wp2_with (first | (go_at_call 76; (with_reducible refine G.out.mono ?_); rintro e w1 ⟨t, g, cc, A1, c1, A2, c2, rfl, ht⟩; have HT := am_ ht; clear ht))
  go_ret2
  exact told_nil (HT.out.below.alloc HT.out.below.size _)
theorem write_v1_1 {A : Option Addr} {c : Nat} {l : List Int} {w : World} (hr : Kd.C (Kd.int .u8) w A l.length l) (hc : l.length ≤ c) (hl : l.length ≤ 10000) (hb : Bytes l) {p0 p1 p2 p3 p4 p5 p6 p7 p8 : Int} {p9 : Bool} {p10 : Int} {p11 p12 : List Int} (i v : Int) (hp : parseL l = (⟨p0, p1, p2, p3, p4, p5, p6, p7, p8, p9, p10, p11, p12⟩, 0)) (h : 256 ≤ v) :
    Calls Tryz.prog 81 #[.slice A l.length c, .int .i64 i, .int .i64 1, .int .i64 v] w (Told w [] 14) := by
  have G := am_ (begin_ok hr hc (by omega) hb hp)
  have d0 : decide (v < 0) = false := decide_eq_false (by omega)
  have v0 : 0 ≤ v := by omega
  have d1 : (v / 256 == 0) = false := beq_eq_false_iff_ne.mpr (by omega)
  have d1n : (v / 256 != 0) = true := bne_iff_ne.mpr (by omega)
  clear h
  clear hr hc hl hb hp
  go_enter Tryz.func81, Tryz.ntmps81
  go_wp2_with (first | (go_at_call 76; (with_reducible refine G.out.mono ?_); rintro e w1 ⟨t, g, cc, A1, c1, A2, c2, rfl, ht⟩; have HT := am_ ht; clear ht))
  go_ret2
  exact told_nil (HT.out.below.alloc HT.out.below.size _)
theorem write_a0_1 {A : Option Addr} {c : Nat} {l : List Int} {w : World} (hr : Kd.C (Kd.int .u8) w A l.length l) (hc : l.length ≤ c) (hl : l.length ≤ 10000) (hb : Bytes l) {p0 p1 p2 p3 p4 p5 p6 p7 p8 : Int} {p9 : Bool} {p10 : Int} {p11 p12 : List Int} (i v : Int) (hp : parseL l = (⟨p0, p1, p2, p3, p4, p5, p6, p7, p8, p9, p10, p11, p12⟩, 0)) (hv0 : 0 ≤ v) (hv1 : v < 256) (h : i < 16) :
    Calls Tryz.prog 81 #[.slice A l.length c, .int .i64 i, .int .i64 1, .int .i64 v] w (Told w [] 14) := by
  have G := am_ (begin_ok hr hc (by omega) hb hp)
  have d0 : decide (v < 0) = false := decide_eq_false (by omega)
  have v0 : 0 ≤ v := by omega
  have d1 : (v / 256 == 0) = true := beq_iff_eq.mpr (by omega)
  have d1n : (v / 256 != 0) = false := by rw [bne, d1]; rfl
  have d2 : decide (i < 16) = true := decide_eq_true h
  clear h hv0 hv1
  clear hr hc hl hb hp
  go_enter Tryz.func81, Tryz.ntmps81
  go_wp2_with (first | (go_at_call 76; (with_reducible refine G.out.mono ?_); rintro e w1 ⟨t, g, cc, A1, c1, A2, c2, rfl, ht⟩; have HT := am_ ht; clear ht))
  go_ret2
  exact told_nil (HT.out.below.alloc HT.out.below.size _)
theorem write_a1_1 {A : Option Addr} {c : Nat} {l : List Int} {w : World} (hr : Kd.C (Kd.int .u8) w A l.length l) (hc : l.length ≤ c) (hl : l.length ≤ 10000) (hb : Bytes l) {p0 p1 p2 p3 p4 p5 p6 p7 p8 : Int} {p9 : Bool} {p10 : Int} {p11 p12 : List Int} (i v : Int) (hp : parseL l = (⟨p0, p1, p2, p3, p4, p5, p6, p7, p8, p9, p10, p11, p12⟩, 0)) (hv0 : 0 ≤ v) (hv1 : v < 256) (hi : 16 ≤ i) (h : (l.length : Int) - 1 < i) :
    Calls Tryz.prog 81 #[.slice A l.length c, .int .i64 i, .int .i64 1, .int .i64 v] w (Told w [] 14) := by
  have G := am_ (begin_ok hr hc (by omega) hb hp)
  have d0 : decide (v < 0) = false := decide_eq_false (by omega)
  have v0 : 0 ≤ v := by omega
  have d1 : (v / 256 == 0) = true := beq_iff_eq.mpr (by omega)
  have d1n : (v / 256 != 0) = false := by rw [bne, d1]; rfl
  have hli : (l.length : Int) ≤ 10000 := by omega
  have hlj : 24 ≤ (l.length : Int) := by have := (head0 (parse0 hp)).1; omega
  have d2 : decide (i < 16) = false := decide_eq_false (by omega)
  have i0 : 16 ≤ i := by omega
  have d3 : decide ((l.length : Int) - 1 < i) = true := decide_eq_true h
  clear h hv0 hv1 hi
  clear hr hc hl hb hp
  go_enter Tryz.func81, Tryz.ntmps81
  go_wp2_with (first | (go_at_call 76; (with_reducible refine G.out.mono ?_); rintro e w1 ⟨t, g, cc, A1, c1, A2, c2, rfl, ht⟩; have HT := am_ ht; clear ht))
  go_ret2
  exact told_nil (HT.out.below.alloc HT.out.below.size _)
theorem write_s_1 {A : Option Addr} {c : Nat} {l : List Int} {w : World} (hr : Kd.C (Kd.int .u8) w A l.length l) (hc : l.length ≤ c) (hl : l.length ≤ 10000) (hb : Bytes l) {p0 p1 p2 p3 p4 p5 p6 p7 p8 : Int} {p9 : Bool} {p10 : Int} {p11 p12 : List Int} (i v : Int) (hp : parseL l = (⟨p0, p1, p2, p3, p4, p5, p6, p7, p8, p9, p10, p11, p12⟩, 0)) (hv0 : 0 ≤ v) (hv1 : v < 256) (hi : 16 ≤ i) (hi1 : i + 1 ≤ (l.length : Int)) {s : Nat} (hs : s = if p0 = 3 then 18 else 22) (h : i < s + 2) (h' : s < i + 1) :
    Calls Tryz.prog 81 #[.slice A l.length c, .int .i64 i, .int .i64 1, .int .i64 v] w (Told w [] 14) := by
  have G := am_ (begin_ok hr hc (by omega) hb hp)
  have d0 : decide (v < 0) = false := decide_eq_false (by omega)
  have v0 : 0 ≤ v := by omega
  have d1 : (v / 256 == 0) = true := beq_iff_eq.mpr (by omega)
  have d1n : (v / 256 != 0) = false := by rw [bne, d1]; rfl
  have hli : (l.length : Int) ≤ 10000 := by omega
  have hlj : 24 ≤ (l.length : Int) := by have := (head0 (parse0 hp)).1; omega
  have d2 : decide (i < 16) = false := decide_eq_false (by omega)
  have i0 : 16 ≤ i := by omega
  have d3 : decide ((l.length : Int) - 1 < i) = false := decide_eq_false (by omega)
  have i1 : i ≤ 10000 := by omega
  have G39 := am_ (fun W => wire_sumPlace.calls p0 (s : Int) W (by unfold wire_sumPlace.f; rw [hs]; split <;> rfl))
  have d4 : decide (i < (s : Int) + 2) = true := decide_eq_true h
  have d5 : decide ((s : Int) < i + 1) = true := decide_eq_true h'
  have s22 : (s : Int) ≤ 22 := by rw [hs]; split <;> decide
  clear h h' hv0 hv1 hi hi1 hs
  clear hr hc hl hb hp
  go_enter Tryz.func81, Tryz.ntmps81
  go_wp2_with (first | (go_at_call 76; (with_reducible refine G.out.mono ?_); rintro e w1 ⟨t, g, cc, A1, c1, A2, c2, rfl, ht⟩; have HT := am_ ht; clear ht) | (go_at_call 34; (with_reducible refine (G39.out _).mono ?_); rintro e w2 ⟨rfl, ⟨⟨nd, rfl⟩⟩⟩))
  go_ret2
  exact told_nil (bd (HT.out.below.alloc HT.out.below.size _) _)
theorem write_ok0_1 {A : Option Addr} {c : Nat} {l : List Int} {w : World} (hr : Kd.C (Kd.int .u8) w A l.length l) (hc : l.length ≤ c) (hl : l.length ≤ 10000) (hb : Bytes l) {p0 p1 p2 p3 p4 p5 p6 p7 p8 : Int} {p9 : Bool} {p10 : Int} {p11 p12 : List Int} (i v : Int) (j : Nat) (hp : parseL l = (⟨p0, p1, p2, p3, p4, p5, p6, p7, p8, p9, p10, p11, p12⟩, 0)) (hj : i = j) (hv0 : 0 ≤ v) (hv1 : v < 256) (hi : 16 ≤ i) (hi1 : i + 1 ≤ (l.length : Int)) {s : Nat} (hs : s = if p0 = 3 then 18 else 22) (h : i < s + 2) (h' : i + 1 ≤ s) :
    Calls Tryz.prog 81 #[.slice A l.length c, .int .i64 i, .int .i64 1, .int .i64 v] w (Told w (writeL p9 l j 1 v) 0) := by
  have G := am_ (begin_ok hr hc (by omega) hb hp)
  have H24 := am_ (show 24 ≤ l.length from (head0 (parse0 hp)).1)
  have HY := am_ hb
  have HL := am_ hl
  have HJ := am_ hj
  have HJ1 := am_ (show j + 1 ≤ l.length by omega)
  have HAND := am_ (show Go.bits .andNot .i64 i 1 = ((j / 2 * 2 : Nat) : Int) from by rw [hj]; exact Go.Lib.andNot_one j (by omega))
  have d0 : decide (v < 0) = false := decide_eq_false (by omega)
  have v0 : 0 ≤ v := by omega
  have d1 : (v / 256 == 0) = true := beq_iff_eq.mpr (by omega)
  have d1n : (v / 256 != 0) = false := by rw [bne, d1]; rfl
  have hli : (l.length : Int) ≤ 10000 := by omega
  have hlj : 24 ≤ (l.length : Int) := by have := (head0 (parse0 hp)).1; omega
  have d2 : decide (i < 16) = false := decide_eq_false (by omega)
  have i0 : 16 ≤ i := by omega
  have d3 : decide ((l.length : Int) - 1 < i) = false := decide_eq_false (by omega)
  have i1 : i ≤ 10000 := by omega
  have G39 := am_ (fun W => wire_sumPlace.calls p0 (s : Int) W (by unfold wire_sumPlace.f; rw [hs]; split <;> rfl))
  have d4 : decide (i < (s : Int) + 2) = true := decide_eq_true h
  have d5 : decide ((s : Int) < i + 1) = false := decide_eq_false (by omega)
  have s22 : (s : Int) ≤ 22 := by rw [hs]; split <;> decide
  clear h h' hv0 hv1 hi hi1 hs hr hc hl hb hp hj
  go_enter Tryz.func81, Tryz.ntmps81
  go_upto_region 9 with (first | (go_at_call 76; (with_reducible refine G.out.mono ?_); rintro e w1 ⟨t, g, cc, A1, c1, A2, c2, rfl, ht⟩; have HT := am_ ht; clear ht) | (go_at_call 34; (with_reducible refine (G39.out _).mono ?_); rintro e w2 ⟨rfl, ⟨⟨nd, rfl⟩⟩⟩))
  generalize hW : World.drewN _ _ = w4
  have HT4 : Aside0 (Tur w w4 t g A c cc l l p9) := am_ (by rw [← hW]; exact (HT.out.alloc _).drewN _)
  clear hW HT
  obtain ⟨T0, T1, T2⟩ := c3 HT4.out.blk
  have P1 := am_ (tput_calls HT4.out HL.out j 1 v (iz := i) (mz := 1) HJ.out rfl (by omega) HJ1.out)
  have B6 := am_ (putL_bytes j 1 v HY.out)
  go_upto_region 10 with (first | (go_at_call 32; (with_reducible refine P1.out.mono ?_); rintro e w5 ⟨rfl, ht⟩; have HT5 := am_ ht; clear ht T0 T1 T2))
  have P5 := am_ (tbody_calls HT5.out HY.out B6.out HL.out j 1 (az := i) (nz := 1) HJ.out rfl (Nat.le_trans (Nat.add_le_add_right (placeL_le _) 2) H24.out) HJ1.out HAND.out)
  have B9 := am_ (bodyT_bytes (b := p9) (was := l) B6.out j 1)
  go_wp2_with (first
    | (go_at_call 102; (with_reducible refine P5.out.mono ?_); rintro e w9 ⟨rfl, ht⟩; have G51 := am_ (tdone_calls ht B9.out HL.out H24.out); clear ht)
    | (go_at_call 78; (with_reducible refine G51.out.mono ?_); rintro e w10 ⟨v, rfl, hr, hb⟩; have HRX := am_ hr; have HBX := am_ hb; clear hr hb))
  go_ret2
  exact ⟨v, rfl, HRX.out, HBX.out⟩
theorem write_ok1_1 {A : Option Addr} {c : Nat} {l : List Int} {w : World} (hr : Kd.C (Kd.int .u8) w A l.length l) (hc : l.length ≤ c) (hl : l.length ≤ 10000) (hb : Bytes l) {p0 p1 p2 p3 p4 p5 p6 p7 p8 : Int} {p9 : Bool} {p10 : Int} {p11 p12 : List Int} (i v : Int) (j : Nat) (hp : parseL l = (⟨p0, p1, p2, p3, p4, p5, p6, p7, p8, p9, p10, p11, p12⟩, 0)) (hj : i = j) (hv0 : 0 ≤ v) (hv1 : v < 256) (hi : 16 ≤ i) (hi1 : i + 1 ≤ (l.length : Int)) {s : Nat} (hs : s = if p0 = 3 then 18 else 22) (h : (s : Int) + 2 ≤ i) :
    Calls Tryz.prog 81 #[.slice A l.length c, .int .i64 i, .int .i64 1, .int .i64 v] w (Told w (writeL p9 l j 1 v) 0) := by
  have G := am_ (begin_ok hr hc (by omega) hb hp)
  have H24 := am_ (show 24 ≤ l.length from (head0 (parse0 hp)).1)
  have HY := am_ hb
  have HL := am_ hl
  have HJ := am_ hj
  have HJ1 := am_ (show j + 1 ≤ l.length by omega)
  have HAND := am_ (show Go.bits .andNot .i64 i 1 = ((j / 2 * 2 : Nat) : Int) from by rw [hj]; exact Go.Lib.andNot_one j (by omega))
  have d0 : decide (v < 0) = false := decide_eq_false (by omega)
  have v0 : 0 ≤ v := by omega
  have d1 : (v / 256 == 0) = true := beq_iff_eq.mpr (by omega)
  have d1n : (v / 256 != 0) = false := by rw [bne, d1]; rfl
  have hli : (l.length : Int) ≤ 10000 := by omega
  have hlj : 24 ≤ (l.length : Int) := by have := (head0 (parse0 hp)).1; omega
  have d2 : decide (i < 16) = false := decide_eq_false (by omega)
  have i0 : 16 ≤ i := by omega
  have d3 : decide ((l.length : Int) - 1 < i) = false := decide_eq_false (by omega)
  have i1 : i ≤ 10000 := by omega
  have G39 := am_ (fun W => wire_sumPlace.calls p0 (s : Int) W (by unfold wire_sumPlace.f; rw [hs]; split <;> rfl))
  have d4 : decide (i < (s : Int) + 2) = false := decide_eq_false (by omega)
  have s22 : (s : Int) ≤ 22 := by rw [hs]; split <;> decide
  clear h hv0 hv1 hi hi1 hs hr hc hl hb hp hj
  go_enter Tryz.func81, Tryz.ntmps81
  go_upto_region 9 with (first | (go_at_call 76; (with_reducible refine G.out.mono ?_); rintro e w1 ⟨t, g, cc, A1, c1, A2, c2, rfl, ht⟩; have HT := am_ ht; clear ht) | (go_at_call 34; (with_reducible refine (G39.out _).mono ?_); rintro e w2 ⟨rfl, ⟨⟨nd, rfl⟩⟩⟩))
  generalize hW : World.drewN _ _ = w4
  have HT4 : Aside0 (Tur w w4 t g A c cc l l p9) := am_ (by rw [← hW]; exact (HT.out.alloc _).drewN _)
  clear hW HT
  obtain ⟨T0, T1, T2⟩ := c3 HT4.out.blk
  have P1 := am_ (tput_calls HT4.out HL.out j 1 v (iz := i) (mz := 1) HJ.out rfl (by omega) HJ1.out)
  have B6 := am_ (putL_bytes j 1 v HY.out)
  go_upto_region 10 with (first | (go_at_call 32; (with_reducible refine P1.out.mono ?_); rintro e w5 ⟨rfl, ht⟩; have HT5 := am_ ht; clear ht T0 T1 T2))
  have P5 := am_ (tbody_calls HT5.out HY.out B6.out HL.out j 1 (az := i) (nz := 1) HJ.out rfl (Nat.le_trans (Nat.add_le_add_right (placeL_le _) 2) H24.out) HJ1.out HAND.out)
  have B9 := am_ (bodyT_bytes (b := p9) (was := l) B6.out j 1)
  go_wp2_with (first
    | (go_at_call 102; (with_reducible refine P5.out.mono ?_); rintro e w9 ⟨rfl, ht⟩; have G51 := am_ (tdone_calls ht B9.out HL.out H24.out); clear ht)
    | (go_at_call 78; (with_reducible refine G51.out.mono ?_); rintro e w10 ⟨v, rfl, hr, hb⟩; have HRX := am_ hr; have HBX := am_ hb; clear hr hb))
  go_ret2
  exact ⟨v, rfl, HRX.out, HBX.out⟩
theorem write_v0_2 {A : Option Addr} {c : Nat} {l : List Int} {w : World} (hr : Kd.C (Kd.int .u8) w A l.length l) (hc : l.length ≤ c) (hl : l.length ≤ 10000) (hb : Bytes l) {p0 p1 p2 p3 p4 p5 p6 p7 p8 : Int} {p9 : Bool} {p10 : Int} {p11 p12 : List Int} (i v : Int) (hp : parseL l = (⟨p0, p1, p2, p3, p4, p5, p6, p7, p8, p9, p10, p11, p12⟩, 0)) (h : v < 0) :
    Calls Tryz.prog 81 #[.slice A l.length c, .int .i64 i, .int .i64 2, .int .i64 v] w (Told w [] 14) := by
  have G := am_ (begin_ok hr hc (by omega) hb hp)
  have d0 : decide (v < 0) = true := decide_eq_true h
  clear h
  clear hr hc hl hb hp
  go_enter Tryz.func81, Tryz.ntmps81
  go_wp2_with (first | (go_at_call 76; (with_reducible refine G.out.mono ?_); rintro e w1 ⟨t, g, cc, A1, c1, A2, c2, rfl, ht⟩; have HT := am_ ht; clear ht))
  go_ret2
  exact told_nil (HT.out.below.alloc HT.out.below.size _)
theorem write_v1_2 {A : Option Addr} {c : Nat} {l : List Int} {w : World} (hr : Kd.C (Kd.int .u8) w A l.length l) (hc : l.length ≤ c) (hl : l.length ≤ 10000) (hb : Bytes l) {p0 p1 p2 p3 p4 p5 p6 p7 p8 : Int} {p9 : Bool} {p10 : Int} {p11 p12 : List Int} (i v : Int) (hp : parseL l = (⟨p0, p1, p2, p3, p4, p5, p6, p7, p8, p9, p10, p11, p12⟩, 0)) (h : 65536 ≤ v) :
    Calls Tryz.prog 81 #[.slice A l.length c, .int .i64 i, .int .i64 2, .int .i64 v] w (Told w [] 14) := by
  have G := am_ (begin_ok hr hc (by omega) hb hp)
  have d0 : decide (v < 0) = false := decide_eq_false (by omega)
  have v0 : 0 ≤ v := by omega
  have d1 : (v / 65536 == 0) = false := beq_eq_false_iff_ne.mpr (by omega)
  have d1n : (v / 65536 != 0) = true := bne_iff_ne.mpr (by omega)
  clear h
  clear hr hc hl hb hp
  go_enter Tryz.func81, Tryz.ntmps81
  go_wp2_with (first | (go_at_call 76; (with_reducible refine G.out.mono ?_); rintro e w1 ⟨t, g, cc, A1, c1, A2, c2, rfl, ht⟩; have HT := am_ ht; clear ht))
  go_ret2
  exact told_nil (HT.out.below.alloc HT.out.below.size _)
theorem write_a0_2 {A : Option Addr} {c : Nat} {l : List Int} {w : World} (hr : Kd.C (Kd.int .u8) w A l.length l) (hc : l.length ≤ c) (hl : l.length ≤ 10000) (hb : Bytes l) {p0 p1 p2 p3 p4 p5 p6 p7 p8 : Int} {p9 : Bool} {p10 : Int} {p11 p12 : List Int} (i v : Int) (hp : parseL l = (⟨p0, p1, p2, p3, p4, p5, p6, p7, p8, p9, p10, p11, p12⟩, 0)) (hv0 : 0 ≤ v) (hv1 : v < 65536) (h : i < 16) :
    Calls Tryz.prog 81 #[.slice A l.length c, .int .i64 i, .int .i64 2, .int .i64 v] w (Told w [] 14) := by
  have G := am_ (begin_ok hr hc (by omega) hb hp)
  have d0 : decide (v < 0) = false := decide_eq_false (by omega)
  have v0 : 0 ≤ v := by omega
  have d1 : (v / 65536 == 0) = true := beq_iff_eq.mpr (by omega)
  have d1n : (v / 65536 != 0) = false := by rw [bne, d1]; rfl
  have d2 : decide (i < 16) = true := decide_eq_true h
  clear h hv0 hv1
  clear hr hc hl hb hp
  go_enter Tryz.func81, Tryz.ntmps81
  go_wp2_with (first | (go_at_call 76; (with_reducible refine G.out.mono ?_); rintro e w1 ⟨t, g, cc, A1, c1, A2, c2, rfl, ht⟩; have HT := am_ ht; clear ht))
  go_ret2
  exact told_nil (HT.out.below.alloc HT.out.below.size _)
theorem write_a1_2 {A : Option Addr} {c : Nat} {l : List Int} {w : World} (hr : Kd.C (Kd.int .u8) w A l.length l) (hc : l.length ≤ c) (hl : l.length ≤ 10000) (hb : Bytes l) {p0 p1 p2 p3 p4 p5 p6 p7 p8 : Int} {p9 : Bool} {p10 : Int} {p11 p12 : List Int} (i v : Int) (hp : parseL l = (⟨p0, p1, p2, p3, p4, p5, p6, p7, p8, p9, p10, p11, p12⟩, 0)) (hv0 : 0 ≤ v) (hv1 : v < 65536) (hi : 16 ≤ i) (h : (l.length : Int) - 2 < i) :
    Calls Tryz.prog 81 #[.slice A l.length c, .int .i64 i, .int .i64 2, .int .i64 v] w (Told w [] 14) := by
  have G := am_ (begin_ok hr hc (by omega) hb hp)
  have d0 : decide (v < 0) = false := decide_eq_false (by omega)
  have v0 : 0 ≤ v := by omega
  have d1 : (v / 65536 == 0) = true := beq_iff_eq.mpr (by omega)
  have d1n : (v / 65536 != 0) = false := by rw [bne, d1]; rfl
  have hli : (l.length : Int) ≤ 10000 := by omega
  have hlj : 24 ≤ (l.length : Int) := by have := (head0 (parse0 hp)).1; omega
  have d2 : decide (i < 16) = false := decide_eq_false (by omega)
  have i0 : 16 ≤ i := by omega
  have d3 : decide ((l.length : Int) - 2 < i) = true := decide_eq_true h
  clear h hv0 hv1 hi
  clear hr hc hl hb hp
  go_enter Tryz.func81, Tryz.ntmps81
  go_wp2_with (first | (go_at_call 76; (with_reducible refine G.out.mono ?_); rintro e w1 ⟨t, g, cc, A1, c1, A2, c2, rfl, ht⟩; have HT := am_ ht; clear ht))
  go_ret2
  exact told_nil (HT.out.below.alloc HT.out.below.size _)
theorem write_s_2 {A : Option Addr} {c : Nat} {l : List Int} {w : World} (hr : Kd.C (Kd.int .u8) w A l.length l) (hc : l.length ≤ c) (hl : l.length ≤ 10000) (hb : Bytes l) {p0 p1 p2 p3 p4 p5 p6 p7 p8 : Int} {p9 : Bool} {p10 : Int} {p11 p12 : List Int} (i v : Int) (hp : parseL l = (⟨p0, p1, p2, p3, p4, p5, p6, p7, p8, p9, p10, p11, p12⟩, 0)) (hv0 : 0 ≤ v) (hv1 : v < 65536) (hi : 16 ≤ i) (hi1 : i + 2 ≤ (l.length : Int)) {s : Nat} (hs : s = if p0 = 3 then 18 else 22) (h : i < s + 2) (h' : s < i + 2) :
    Calls Tryz.prog 81 #[.slice A l.length c, .int .i64 i, .int .i64 2, .int .i64 v] w (Told w [] 14) := by
  have G := am_ (begin_ok hr hc (by omega) hb hp)
  have d0 : decide (v < 0) = false := decide_eq_false (by omega)
  have v0 : 0 ≤ v := by omega
  have d1 : (v / 65536 == 0) = true := beq_iff_eq.mpr (by omega)
  have d1n : (v / 65536 != 0) = false := by rw [bne, d1]; rfl
  have hli : (l.length : Int) ≤ 10000 := by omega
  have hlj : 24 ≤ (l.length : Int) := by have := (head0 (parse0 hp)).1; omega
  have d2 : decide (i < 16) = false := decide_eq_false (by omega)
  have i0 : 16 ≤ i := by omega
  have d3 : decide ((l.length : Int) - 2 < i) = false := decide_eq_false (by omega)
  have i1 : i ≤ 10000 := by omega
  have G39 := am_ (fun W => wire_sumPlace.calls p0 (s : Int) W (by unfold wire_sumPlace.f; rw [hs]; split <;> rfl))
  have d4 : decide (i < (s : Int) + 2) = true := decide_eq_true h
  have d5 : decide ((s : Int) < i + 2) = true := decide_eq_true h'
  have s22 : (s : Int) ≤ 22 := by rw [hs]; split <;> decide
  clear h h' hv0 hv1 hi hi1 hs
  clear hr hc hl hb hp
  go_enter Tryz.func81, Tryz.ntmps81
  go_wp2_with (first | (go_at_call 76; (with_reducible refine G.out.mono ?_); rintro e w1 ⟨t, g, cc, A1, c1, A2, c2, rfl, ht⟩; have HT := am_ ht; clear ht) | (go_at_call 34; (with_reducible refine (G39.out _).mono ?_); rintro e w2 ⟨rfl, ⟨⟨nd, rfl⟩⟩⟩))
  go_ret2
  exact told_nil (bd (HT.out.below.alloc HT.out.below.size _) _)
theorem write_ok0_2 {A : Option Addr} {c : Nat} {l : List Int} {w : World} (hr : Kd.C (Kd.int .u8) w A l.length l) (hc : l.length ≤ c) (hl : l.length ≤ 10000) (hb : Bytes l) {p0 p1 p2 p3 p4 p5 p6 p7 p8 : Int} {p9 : Bool} {p10 : Int} {p11 p12 : List Int} (i v : Int) (j : Nat) (hp : parseL l = (⟨p0, p1, p2, p3, p4, p5, p6, p7, p8, p9, p10, p11, p12⟩, 0)) (hj : i = j) (hv0 : 0 ≤ v) (hv1 : v < 65536) (hi : 16 ≤ i) (hi1 : i + 2 ≤ (l.length : Int)) {s : Nat} (hs : s = if p0 = 3 then 18 else 22) (h : i < s + 2) (h' : i + 2 ≤ s) :
    Calls Tryz.prog 81 #[.slice A l.length c, .int .i64 i, .int .i64 2, .int .i64 v] w (Told w (writeL p9 l j 2 v) 0) := by
  have G := am_ (begin_ok hr hc (by omega) hb hp)
  have H24 := am_ (show 24 ≤ l.length from (head0 (parse0 hp)).1)
  have HY := am_ hb
  have HL := am_ hl
  have HJ := am_ hj
  have HJ1 := am_ (show j + 2 ≤ l.length by omega)
  have HAND := am_ (show Go.bits .andNot .i64 i 1 = ((j / 2 * 2 : Nat) : Int) from by rw [hj]; exact Go.Lib.andNot_one j (by omega))
  have d0 : decide (v < 0) = false := decide_eq_false (by omega)
  have v0 : 0 ≤ v := by omega
  have d1 : (v / 65536 == 0) = true := beq_iff_eq.mpr (by omega)
  have d1n : (v / 65536 != 0) = false := by rw [bne, d1]; rfl
  have hli : (l.length : Int) ≤ 10000 := by omega
  have hlj : 24 ≤ (l.length : Int) := by have := (head0 (parse0 hp)).1; omega
  have d2 : decide (i < 16) = false := decide_eq_false (by omega)
  have i0 : 16 ≤ i := by omega
  have d3 : decide ((l.length : Int) - 2 < i) = false := decide_eq_false (by omega)
  have i1 : i ≤ 10000 := by omega
  have G39 := am_ (fun W => wire_sumPlace.calls p0 (s : Int) W (by unfold wire_sumPlace.f; rw [hs]; split <;> rfl))
  have d4 : decide (i < (s : Int) + 2) = true := decide_eq_true h
  have d5 : decide ((s : Int) < i + 2) = false := decide_eq_false (by omega)
  have s22 : (s : Int) ≤ 22 := by rw [hs]; split <;> decide
  clear h h' hv0 hv1 hi hi1 hs hr hc hl hb hp hj
  go_enter Tryz.func81, Tryz.ntmps81
  go_upto_region 9 with (first | (go_at_call 76; (with_reducible refine G.out.mono ?_); rintro e w1 ⟨t, g, cc, A1, c1, A2, c2, rfl, ht⟩; have HT := am_ ht; clear ht) | (go_at_call 34; (with_reducible refine (G39.out _).mono ?_); rintro e w2 ⟨rfl, ⟨⟨nd, rfl⟩⟩⟩))
  generalize hW : World.drewN _ _ = w4
  have HT4 : Aside0 (Tur w w4 t g A c cc l l p9) := am_ (by rw [← hW]; exact (HT.out.alloc _).drewN _)
  clear hW HT
  obtain ⟨T0, T1, T2⟩ := c3 HT4.out.blk
  have P1 := am_ (tput_calls HT4.out HL.out j 2 v (iz := i) (mz := 2) HJ.out rfl (by omega) HJ1.out)
  have B6 := am_ (putL_bytes j 2 v HY.out)
  go_upto_region 10 with (first | (go_at_call 32; (with_reducible refine P1.out.mono ?_); rintro e w5 ⟨rfl, ht⟩; have HT5 := am_ ht; clear ht T0 T1 T2))
  have P5 := am_ (tbody_calls HT5.out HY.out B6.out HL.out j 2 (az := i) (nz := 2) HJ.out rfl (Nat.le_trans (Nat.add_le_add_right (placeL_le _) 2) H24.out) HJ1.out HAND.out)
  have B9 := am_ (bodyT_bytes (b := p9) (was := l) B6.out j 2)
  go_wp2_with (first
    | (go_at_call 102; (with_reducible refine P5.out.mono ?_); rintro e w9 ⟨rfl, ht⟩; have G51 := am_ (tdone_calls ht B9.out HL.out H24.out); clear ht)
    | (go_at_call 78; (with_reducible refine G51.out.mono ?_); rintro e w10 ⟨v, rfl, hr, hb⟩; have HRX := am_ hr; have HBX := am_ hb; clear hr hb))
  go_ret2
  exact ⟨v, rfl, HRX.out, HBX.out⟩
theorem write_ok1_2 {A : Option Addr} {c : Nat} {l : List Int} {w : World} (hr : Kd.C (Kd.int .u8) w A l.length l) (hc : l.length ≤ c) (hl : l.length ≤ 10000) (hb : Bytes l) {p0 p1 p2 p3 p4 p5 p6 p7 p8 : Int} {p9 : Bool} {p10 : Int} {p11 p12 : List Int} (i v : Int) (j : Nat) (hp : parseL l = (⟨p0, p1, p2, p3, p4, p5, p6, p7, p8, p9, p10, p11, p12⟩, 0)) (hj : i = j) (hv0 : 0 ≤ v) (hv1 : v < 65536) (hi : 16 ≤ i) (hi1 : i + 2 ≤ (l.length : Int)) {s : Nat} (hs : s = if p0 = 3 then 18 else 22) (h : (s : Int) + 2 ≤ i) :
    Calls Tryz.prog 81 #[.slice A l.length c, .int .i64 i, .int .i64 2, .int .i64 v] w (Told w (writeL p9 l j 2 v) 0) := by
  have G := am_ (begin_ok hr hc (by omega) hb hp)
  have H24 := am_ (show 24 ≤ l.length from (head0 (parse0 hp)).1)
  have HY := am_ hb
  have HL := am_ hl
  have HJ := am_ hj
  have HJ1 := am_ (show j + 2 ≤ l.length by omega)
  have HAND := am_ (show Go.bits .andNot .i64 i 1 = ((j / 2 * 2 : Nat) : Int) from by rw [hj]; exact Go.Lib.andNot_one j (by omega))
  have d0 : decide (v < 0) = false := decide_eq_false (by omega)
  have v0 : 0 ≤ v := by omega
  have d1 : (v / 65536 == 0) = true := beq_iff_eq.mpr (by omega)
  have d1n : (v / 65536 != 0) = false := by rw [bne, d1]; rfl
  have hli : (l.length : Int) ≤ 10000 := by omega
  have hlj : 24 ≤ (l.length : Int) := by have := (head0 (parse0 hp)).1; omega
  have d2 : decide (i < 16) = false := decide_eq_false (by omega)
  have i0 : 16 ≤ i := by omega
  have d3 : decide ((l.length : Int) - 2 < i) = false := decide_eq_false (by omega)
  have i1 : i ≤ 10000 := by omega
  have G39 := am_ (fun W => wire_sumPlace.calls p0 (s : Int) W (by unfold wire_sumPlace.f; rw [hs]; split <;> rfl))
  have d4 : decide (i < (s : Int) + 2) = false := decide_eq_false (by omega)
  have s22 : (s : Int) ≤ 22 := by rw [hs]; split <;> decide
  clear h hv0 hv1 hi hi1 hs hr hc hl hb hp hj
  go_enter Tryz.func81, Tryz.ntmps81
  go_upto_region 9 with (first | (go_at_call 76; (with_reducible refine G.out.mono ?_); rintro e w1 ⟨t, g, cc, A1, c1, A2, c2, rfl, ht⟩; have HT := am_ ht; clear ht) | (go_at_call 34; (with_reducible refine (G39.out _).mono ?_); rintro e w2 ⟨rfl, ⟨⟨nd, rfl⟩⟩⟩))
  generalize hW : World.drewN _ _ = w4
  have HT4 : Aside0 (Tur w w4 t g A c cc l l p9) := am_ (by rw [← hW]; exact (HT.out.alloc _).drewN _)
  clear hW HT
  obtain ⟨T0, T1, T2⟩ := c3 HT4.out.blk
  have P1 := am_ (tput_calls HT4.out HL.out j 2 v (iz := i) (mz := 2) HJ.out rfl (by omega) HJ1.out)
  have B6 := am_ (putL_bytes j 2 v HY.out)
  go_upto_region 10 with (first | (go_at_call 32; (with_reducible refine P1.out.mono ?_); rintro e w5 ⟨rfl, ht⟩; have HT5 := am_ ht; clear ht T0 T1 T2))
  have P5 := am_ (tbody_calls HT5.out HY.out B6.out HL.out j 2 (az := i) (nz := 2) HJ.out rfl (Nat.le_trans (Nat.add_le_add_right (placeL_le _) 2) H24.out) HJ1.out HAND.out)
  have B9 := am_ (bodyT_bytes (b := p9) (was := l) B6.out j 2)
  go_wp2_with (first
    | (go_at_call 102; (with_reducible refine P5.out.mono ?_); rintro e w9 ⟨rfl, ht⟩; have G51 := am_ (tdone_calls ht B9.out HL.out H24.out); clear ht)
    | (go_at_call 78; (with_reducible refine G51.out.mono ?_); rintro e w10 ⟨v, rfl, hr, hb⟩; have HRX := am_ hr; have HBX := am_ hb; clear hr hb))
  go_ret2
  exact ⟨v, rfl, HRX.out, HBX.out⟩
theorem write_v0_4 {A : Option Addr} {c : Nat} {l : List Int} {w : World} (hr : Kd.C (Kd.int .u8) w A l.length l) (hc : l.length ≤ c) (hl : l.length ≤ 10000) (hb : Bytes l) {p0 p1 p2 p3 p4 p5 p6 p7 p8 : Int} {p9 : Bool} {p10 : Int} {p11 p12 : List Int} (i v : Int) (hp : parseL l = (⟨p0, p1, p2, p3, p4, p5, p6, p7, p8, p9, p10, p11, p12⟩, 0)) (h : v < 0) :
    Calls Tryz.prog 81 #[.slice A l.length c, .int .i64 i, .int .i64 4, .int .i64 v] w (Told w [] 14) := by
  have G := am_ (begin_ok hr hc (by omega) hb hp)
  have d0 : decide (v < 0) = true := decide_eq_true h
  clear h
  clear hr hc hl hb hp
  go_enter Tryz.func81, Tryz.ntmps81
  go_wp2_with (first | (go_at_call 76; (with_reducible refine G.out.mono ?_); rintro e w1 ⟨t, g, cc, A1, c1, A2, c2, rfl, ht⟩; have HT := am_ ht; clear ht))
  go_ret2
  exact told_nil (HT.out.below.alloc HT.out.below.size _)
theorem write_v1_4 {A : Option Addr} {c : Nat} {l : List Int} {w : World} (hr : Kd.C (Kd.int .u8) w A l.length l) (hc : l.length ≤ c) (hl : l.length ≤ 10000) (hb : Bytes l) {p0 p1 p2 p3 p4 p5 p6 p7 p8 : Int} {p9 : Bool} {p10 : Int} {p11 p12 : List Int} (i v : Int) (hp : parseL l = (⟨p0, p1, p2, p3, p4, p5, p6, p7, p8, p9, p10, p11, p12⟩, 0)) (h : 4294967296 ≤ v) :
    Calls Tryz.prog 81 #[.slice A l.length c, .int .i64 i, .int .i64 4, .int .i64 v] w (Told w [] 14) := by
  have G := am_ (begin_ok hr hc (by omega) hb hp)
  have d0 : decide (v < 0) = false := decide_eq_false (by omega)
  have v0 : 0 ≤ v := by omega
  have d1 : (v / 4294967296 == 0) = false := beq_eq_false_iff_ne.mpr (by omega)
  have d1n : (v / 4294967296 != 0) = true := bne_iff_ne.mpr (by omega)
  clear h
  clear hr hc hl hb hp
  go_enter Tryz.func81, Tryz.ntmps81
  go_wp2_with (first | (go_at_call 76; (with_reducible refine G.out.mono ?_); rintro e w1 ⟨t, g, cc, A1, c1, A2, c2, rfl, ht⟩; have HT := am_ ht; clear ht))
  go_ret2
  exact told_nil (HT.out.below.alloc HT.out.below.size _)
theorem write_a0_4 {A : Option Addr} {c : Nat} {l : List Int} {w : World} (hr : Kd.C (Kd.int .u8) w A l.length l) (hc : l.length ≤ c) (hl : l.length ≤ 10000) (hb : Bytes l) {p0 p1 p2 p3 p4 p5 p6 p7 p8 : Int} {p9 : Bool} {p10 : Int} {p11 p12 : List Int} (i v : Int) (hp : parseL l = (⟨p0, p1, p2, p3, p4, p5, p6, p7, p8, p9, p10, p11, p12⟩, 0)) (hv0 : 0 ≤ v) (hv1 : v < 4294967296) (h : i < 16) :
    Calls Tryz.prog 81 #[.slice A l.length c, .int .i64 i, .int .i64 4, .int .i64 v] w (Told w [] 14) := by
  have G := am_ (begin_ok hr hc (by omega) hb hp)
  have d0 : decide (v < 0) = false := decide_eq_false (by omega)
  have v0 : 0 ≤ v := by omega
  have d1 : (v / 4294967296 == 0) = true := beq_iff_eq.mpr (by omega)
  have d1n : (v / 4294967296 != 0) = false := by rw [bne, d1]; rfl
  have d2 : decide (i < 16) = true := decide_eq_true h
  clear h hv0 hv1
  clear hr hc hl hb hp
  go_enter Tryz.func81, Tryz.ntmps81
  go_wp2_with (first | (go_at_call 76; (with_reducible refine G.out.mono ?_); rintro e w1 ⟨t, g, cc, A1, c1, A2, c2, rfl, ht⟩; have HT := am_ ht; clear ht))
  go_ret2
  exact told_nil (HT.out.below.alloc HT.out.below.size _)
theorem write_a1_4 {A : Option Addr} {c : Nat} {l : List Int} {w : World} (hr : Kd.C (Kd.int .u8) w A l.length l) (hc : l.length ≤ c) (hl : l.length ≤ 10000) (hb : Bytes l) {p0 p1 p2 p3 p4 p5 p6 p7 p8 : Int} {p9 : Bool} {p10 : Int} {p11 p12 : List Int} (i v : Int) (hp : parseL l = (⟨p0, p1, p2, p3, p4, p5, p6, p7, p8, p9, p10, p11, p12⟩, 0)) (hv0 : 0 ≤ v) (hv1 : v < 4294967296) (hi : 16 ≤ i) (h : (l.length : Int) - 4 < i) :
    Calls Tryz.prog 81 #[.slice A l.length c, .int .i64 i, .int .i64 4, .int .i64 v] w (Told w [] 14) := by
  have G := am_ (begin_ok hr hc (by omega) hb hp)
  have d0 : decide (v < 0) = false := decide_eq_false (by omega)
  have v0 : 0 ≤ v := by omega
  have d1 : (v / 4294967296 == 0) = true := beq_iff_eq.mpr (by omega)
  have d1n : (v / 4294967296 != 0) = false := by rw [bne, d1]; rfl
  have hli : (l.length : Int) ≤ 10000 := by omega
  have hlj : 24 ≤ (l.length : Int) := by have := (head0 (parse0 hp)).1; omega
  have d2 : decide (i < 16) = false := decide_eq_false (by omega)
  have i0 : 16 ≤ i := by omega
  have d3 : decide ((l.length : Int) - 4 < i) = true := decide_eq_true h
  clear h hv0 hv1 hi
  clear hr hc hl hb hp
  go_enter Tryz.func81, Tryz.ntmps81
  go_wp2_with (first | (go_at_call 76; (with_reducible refine G.out.mono ?_); rintro e w1 ⟨t, g, cc, A1, c1, A2, c2, rfl, ht⟩; have HT := am_ ht; clear ht))
  go_ret2
  exact told_nil (HT.out.below.alloc HT.out.below.size _)
theorem write_s_4 {A : Option Addr} {c : Nat} {l : List Int} {w : World} (hr : Kd.C (Kd.int .u8) w A l.length l) (hc : l.length ≤ c) (hl : l.length ≤ 10000) (hb : Bytes l) {p0 p1 p2 p3 p4 p5 p6 p7 p8 : Int} {p9 : Bool} {p10 : Int} {p11 p12 : List Int} (i v : Int) (hp : parseL l = (⟨p0, p1, p2, p3, p4, p5, p6, p7, p8, p9, p10, p11, p12⟩, 0)) (hv0 : 0 ≤ v) (hv1 : v < 4294967296) (hi : 16 ≤ i) (hi1 : i + 4 ≤ (l.length : Int)) {s : Nat} (hs : s = if p0 = 3 then 18 else 22) (h : i < s + 2) (h' : s < i + 4) :
    Calls Tryz.prog 81 #[.slice A l.length c, .int .i64 i, .int .i64 4, .int .i64 v] w (Told w [] 14) := by
  have G := am_ (begin_ok hr hc (by omega) hb hp)
  have d0 : decide (v < 0) = false := decide_eq_false (by omega)
  have v0 : 0 ≤ v := by omega
  have d1 : (v / 4294967296 == 0) = true := beq_iff_eq.mpr (by omega)
  have d1n : (v / 4294967296 != 0) = false := by rw [bne, d1]; rfl
  have hli : (l.length : Int) ≤ 10000 := by omega
  have hlj : 24 ≤ (l.length : Int) := by have := (head0 (parse0 hp)).1; omega
  have d2 : decide (i < 16) = false := decide_eq_false (by omega)
  have i0 : 16 ≤ i := by omega
  have d3 : decide ((l.length : Int) - 4 < i) = false := decide_eq_false (by omega)
  have i1 : i ≤ 10000 := by omega
  have G39 := am_ (fun W => wire_sumPlace.calls p0 (s : Int) W (by unfold wire_sumPlace.f; rw [hs]; split <;> rfl))
  have d4 : decide (i < (s : Int) + 2) = true := decide_eq_true h
  have d5 : decide ((s : Int) < i + 4) = true := decide_eq_true h'
  have s22 : (s : Int) ≤ 22 := by rw [hs]; split <;> decide
  clear h h' hv0 hv1 hi hi1 hs
  clear hr hc hl hb hp
  go_enter Tryz.func81, Tryz.ntmps81
  go_wp2_with (first | (go_at_call 76; (with_reducible refine G.out.mono ?_); rintro e w1 ⟨t, g, cc, A1, c1, A2, c2, rfl, ht⟩; have HT := am_ ht; clear ht) | (go_at_call 34; (with_reducible refine (G39.out _).mono ?_); rintro e w2 ⟨rfl, ⟨⟨nd, rfl⟩⟩⟩))
  go_ret2
  exact told_nil (bd (HT.out.below.alloc HT.out.below.size _) _)
theorem write_ok0_4 {A : Option Addr} {c : Nat} {l : List Int} {w : World} (hr : Kd.C (Kd.int .u8) w A l.length l) (hc : l.length ≤ c) (hl : l.length ≤ 10000) (hb : Bytes l) {p0 p1 p2 p3 p4 p5 p6 p7 p8 : Int} {p9 : Bool} {p10 : Int} {p11 p12 : List Int} (i v : Int) (j : Nat) (hp : parseL l = (⟨p0, p1, p2, p3, p4, p5, p6, p7, p8, p9, p10, p11, p12⟩, 0)) (hj : i = j) (hv0 : 0 ≤ v) (hv1 : v < 4294967296) (hi : 16 ≤ i) (hi1 : i + 4 ≤ (l.length : Int)) {s : Nat} (hs : s = if p0 = 3 then 18 else 22) (h : i < s + 2) (h' : i + 4 ≤ s) :
    Calls Tryz.prog 81 #[.slice A l.length c, .int .i64 i, .int .i64 4, .int .i64 v] w (Told w (writeL p9 l j 4 v) 0) := by
  have G := am_ (begin_ok hr hc (by omega) hb hp)
  have H24 := am_ (show 24 ≤ l.length from (head0 (parse0 hp)).1)
  have HY := am_ hb
  have HL := am_ hl
  have HJ := am_ hj
  have HJ1 := am_ (show j + 4 ≤ l.length by omega)
  have HAND := am_ (show Go.bits .andNot .i64 i 1 = ((j / 2 * 2 : Nat) : Int) from by rw [hj]; exact Go.Lib.andNot_one j (by omega))
  have d0 : decide (v < 0) = false := decide_eq_false (by omega)
  have v0 : 0 ≤ v := by omega
  have d1 : (v / 4294967296 == 0) = true := beq_iff_eq.mpr (by omega)
  have d1n : (v / 4294967296 != 0) = false := by rw [bne, d1]; rfl
  have hli : (l.length : Int) ≤ 10000 := by omega
  have hlj : 24 ≤ (l.length : Int) := by have := (head0 (parse0 hp)).1; omega
  have d2 : decide (i < 16) = false := decide_eq_false (by omega)
  have i0 : 16 ≤ i := by omega
  have d3 : decide ((l.length : Int) - 4 < i) = false := decide_eq_false (by omega)
  have i1 : i ≤ 10000 := by omega
  have G39 := am_ (fun W => wire_sumPlace.calls p0 (s : Int) W (by unfold wire_sumPlace.f; rw [hs]; split <;> rfl))
  have d4 : decide (i < (s : Int) + 2) = true := decide_eq_true h
  have d5 : decide ((s : Int) < i + 4) = false := decide_eq_false (by omega)
  have s22 : (s : Int) ≤ 22 := by rw [hs]; split <;> decide
  clear h h' hv0 hv1 hi hi1 hs hr hc hl hb hp hj
  go_enter Tryz.func81, Tryz.ntmps81
  go_upto_region 9 with (first | (go_at_call 76; (with_reducible refine G.out.mono ?_); rintro e w1 ⟨t, g, cc, A1, c1, A2, c2, rfl, ht⟩; have HT := am_ ht; clear ht) | (go_at_call 34; (with_reducible refine (G39.out _).mono ?_); rintro e w2 ⟨rfl, ⟨⟨nd, rfl⟩⟩⟩))
  generalize hW : World.drewN _ _ = w4
  have HT4 : Aside0 (Tur w w4 t g A c cc l l p9) := am_ (by rw [← hW]; exact (HT.out.alloc _).drewN _)
  clear hW HT
  obtain ⟨T0, T1, T2⟩ := c3 HT4.out.blk
  have P1 := am_ (tput_calls HT4.out HL.out j 4 v (iz := i) (mz := 4) HJ.out rfl (by omega) HJ1.out)
  have B6 := am_ (putL_bytes j 4 v HY.out)
  go_upto_region 10 with (first | (go_at_call 32; (with_reducible refine P1.out.mono ?_); rintro e w5 ⟨rfl, ht⟩; have HT5 := am_ ht; clear ht T0 T1 T2))
  have P5 := am_ (tbody_calls HT5.out HY.out B6.out HL.out j 4 (az := i) (nz := 4) HJ.out rfl (Nat.le_trans (Nat.add_le_add_right (placeL_le _) 2) H24.out) HJ1.out HAND.out)
  have B9 := am_ (bodyT_bytes (b := p9) (was := l) B6.out j 4)
  go_wp2_with (first
    | (go_at_call 102; (with_reducible refine P5.out.mono ?_); rintro e w9 ⟨rfl, ht⟩; have G51 := am_ (tdone_calls ht B9.out HL.out H24.out); clear ht)
    | (go_at_call 78; (with_reducible refine G51.out.mono ?_); rintro e w10 ⟨v, rfl, hr, hb⟩; have HRX := am_ hr; have HBX := am_ hb; clear hr hb))
  go_ret2
  exact ⟨v, rfl, HRX.out, HBX.out⟩
theorem write_ok1_4 {A : Option Addr} {c : Nat} {l : List Int} {w : World} (hr : Kd.C (Kd.int .u8) w A l.length l) (hc : l.length ≤ c) (hl : l.length ≤ 10000) (hb : Bytes l) {p0 p1 p2 p3 p4 p5 p6 p7 p8 : Int} {p9 : Bool} {p10 : Int} {p11 p12 : List Int} (i v : Int) (j : Nat) (hp : parseL l = (⟨p0, p1, p2, p3, p4, p5, p6, p7, p8, p9, p10, p11, p12⟩, 0)) (hj : i = j) (hv0 : 0 ≤ v) (hv1 : v < 4294967296) (hi : 16 ≤ i) (hi1 : i + 4 ≤ (l.length : Int)) {s : Nat} (hs : s = if p0 = 3 then 18 else 22) (h : (s : Int) + 2 ≤ i) :
    Calls Tryz.prog 81 #[.slice A l.length c, .int .i64 i, .int .i64 4, .int .i64 v] w (Told w (writeL p9 l j 4 v) 0) := by
  have G := am_ (begin_ok hr hc (by omega) hb hp)
  have H24 := am_ (show 24 ≤ l.length from (head0 (parse0 hp)).1)
  have HY := am_ hb
  have HL := am_ hl
  have HJ := am_ hj
  have HJ1 := am_ (show j + 4 ≤ l.length by omega)
  have HAND := am_ (show Go.bits .andNot .i64 i 1 = ((j / 2 * 2 : Nat) : Int) from by rw [hj]; exact Go.Lib.andNot_one j (by omega))
  have d0 : decide (v < 0) = false := decide_eq_false (by omega)
  have v0 : 0 ≤ v := by omega
  have d1 : (v / 4294967296 == 0) = true := beq_iff_eq.mpr (by omega)
  have d1n : (v / 4294967296 != 0) = false := by rw [bne, d1]; rfl
  have hli : (l.length : Int) ≤ 10000 := by omega
  have hlj : 24 ≤ (l.length : Int) := by have := (head0 (parse0 hp)).1; omega
  have d2 : decide (i < 16) = false := decide_eq_false (by omega)
  have i0 : 16 ≤ i := by omega
  have d3 : decide ((l.length : Int) - 4 < i) = false := decide_eq_false (by omega)
  have i1 : i ≤ 10000 := by omega
  have G39 := am_ (fun W => wire_sumPlace.calls p0 (s : Int) W (by unfold wire_sumPlace.f; rw [hs]; split <;> rfl))
  have d4 : decide (i < (s : Int) + 2) = false := decide_eq_false (by omega)
  have s22 : (s : Int) ≤ 22 := by rw [hs]; split <;> decide
  clear h hv0 hv1 hi hi1 hs hr hc hl hb hp hj
  go_enter Tryz.func81, Tryz.ntmps81
  go_upto_region 9 with (first | (go_at_call 76; (with_reducible refine G.out.mono ?_); rintro e w1 ⟨t, g, cc, A1, c1, A2, c2, rfl, ht⟩; have HT := am_ ht; clear ht) | (go_at_call 34; (with_reducible refine (G39.out _).mono ?_); rintro e w2 ⟨rfl, ⟨⟨nd, rfl⟩⟩⟩))
  generalize hW : World.drewN _ _ = w4
  have HT4 : Aside0 (Tur w w4 t g A c cc l l p9) := am_ (by rw [← hW]; exact (HT.out.alloc _).drewN _)
  clear hW HT
  obtain ⟨T0, T1, T2⟩ := c3 HT4.out.blk
  have P1 := am_ (tput_calls HT4.out HL.out j 4 v (iz := i) (mz := 4) HJ.out rfl (by omega) HJ1.out)
  have B6 := am_ (putL_bytes j 4 v HY.out)
  go_upto_region 10 with (first | (go_at_call 32; (with_reducible refine P1.out.mono ?_); rintro e w5 ⟨rfl, ht⟩; have HT5 := am_ ht; clear ht T0 T1 T2))
  have P5 := am_ (tbody_calls HT5.out HY.out B6.out HL.out j 4 (az := i) (nz := 4) HJ.out rfl (Nat.le_trans (Nat.add_le_add_right (placeL_le _) 2) H24.out) HJ1.out HAND.out)
  have B9 := am_ (bodyT_bytes (b := p9) (was := l) B6.out j 4)
  go_wp2_with (first
    | (go_at_call 102; (with_reducible refine P5.out.mono ?_); rintro e w9 ⟨rfl, ht⟩; have G51 := am_ (tdone_calls ht B9.out HL.out H24.out); clear ht)
    | (go_at_call 78; (with_reducible refine G51.out.mono ?_); rintro e w10 ⟨v, rfl, hr, hb⟩; have HRX := am_ hr; have HBX := am_ hb; clear hr hb))
  go_ret2
  exact ⟨v, rfl, HRX.out, HBX.out⟩
/-- The number of two bytes. -/
def pr (l : List Int) (i : Nat) : Int := l.getD i 0 * 256 + l.getD (i + 1) 0
theorem getD_out {l : List Int} {i : Nat} (h : l.length ≤ i) : l.getD i 0 = 0 := by
  rw [List.getD_eq_getElem?_getD, List.getElem?_eq_none h]; rfl
theorem num2_pr (l : List Int) (i : Nat) : numL l i 2 = pr l i := by
  simp only [numL, pr, Nat.add_zero]; omega
theorem pairL_pr (l : List Int) (i : Nat) : pairL l i = pr l i := by
  unfold pairL
  split
  · rename_i h; unfold pr; rw [getD_out (show l.length ≤ i + 1 by omega)]; omega
  · exact num2_pr l i
theorem pr_b {l : List Int} (hb : Bytes l) (i : Nat) : 0 ≤ pr l i ∧ pr l i ≤ 65535 := by
  have h1 := getD_byte hb i
  have h2 := getD_byte hb (i + 1)
  unfold pr; omega
theorem pairs_drop (l : List Int) (i : Nat) : pairs (l.drop i) = pr l i + pairs (l.drop (i + 2)) := by
  unfold pr
  by_cases h1 : i + 1 < l.length
  · rw [drop2 h1]; simp only [pairs]
  · by_cases h2 : i + 1 = l.length
    · rw [drop1 h2, List.drop_eq_nil_of_le (show l.length ≤ i + 2 by omega), getD_out (show l.length ≤ i + 1 by omega)]; simp only [pairs]; omega
    · rw [List.drop_eq_nil_of_le (show l.length ≤ i by omega), List.drop_eq_nil_of_le (show l.length ≤ i + 2 by omega), getD_out (show l.length ≤ i by omega), getD_out (show l.length ≤ i + 1 by omega)]; simp only [pairs]; omega
/-- The sum of so many pairs from a place on. -/
def psum (l : List Int) : Nat → Nat → Int
  | _, 0 => 0
  | i, k + 1 => pr l i + psum l (i + 2) k
theorem pairs_psum (l : List Int) : ∀ (k i : Nat), pairs (l.drop i) = psum l i k + pairs (l.drop (i + 2 * k))
  | 0, i => by simp [psum]
  | k + 1, i => by
    rw [pairs_drop, pairs_psum l k (i + 2), psum, show i + 2 + 2 * k = i + 2 * (k + 1) by omega]; omega
theorem psum_add (l : List Int) : ∀ (k i m : Nat), psum l i (k + m) = psum l i k + psum l (i + 2 * k) m
  | 0, i, m => by simp [psum]
  | k + 1, i, m => by
    rw [show k + 1 + m = (k + m) + 1 by omega, psum, psum, psum_add l k (i + 2) m, show i + 2 + 2 * k = i + 2 * (k + 1) by omega]; omega
theorem psum_congr {l m : List Int} : ∀ (k i : Nat), (∀ j, i ≤ j → j < i + 2 * k → l.getD j 0 = m.getD j 0) → psum l i k = psum m i k
  | 0, i, _ => rfl
  | k + 1, i, h => by
    rw [psum, psum, psum_congr k (i + 2) (fun j h1 h2 => h j (by omega) (by omega))]
    unfold pr
    rw [h i (by omega) (by omega), h (i + 1) (by omega) (by omega)]
theorem psum_b {l : List Int} (hb : Bytes l) : ∀ (k i : Nat), 0 ≤ psum l i k ∧ psum l i k ≤ 65535 * k
  | 0, _ => by simp [psum]
  | k + 1, i => by
    have := psum_b hb k (i + 2)
    have := pr_b hb i
    rw [psum]; omega
theorem getD_take {l : List Int} {n i : Nat} (h : i < n) : (l.take n).getD i 0 = l.getD i 0 := by
  rw [List.getD_eq_getElem?_getD, List.getD_eq_getElem?_getD, List.getElem?_take, if_pos h]
theorem getD_drop (l : List Int) (n i : Nat) : (l.drop n).getD i 0 = l.getD (n + i) 0 := by
  rw [List.getD_eq_getElem?_getD, List.getD_eq_getElem?_getD, List.getElem?_drop]
theorem pairs_take (l : List Int) (k : Nat) (h : 2 * k ≤ l.length) : pairs (l.take (2 * k)) = psum l 0 k := by
  have e := pairs_psum (l.take (2 * k)) k 0
  rw [List.drop_zero, List.drop_eq_nil_of_le (show (l.take (2 * k)).length ≤ 0 + 2 * k by rw [List.length_take]; omega)] at e
  rw [e, psum_congr k 0 (m := l) (fun j _ h2 => getD_take (by omega))]; simp [pairs]
theorem ext_getD {l m : List Int} (h : l.length = m.length) (hh : ∀ j, j < l.length → l.getD j 0 = m.getD j 0) : l = m := by
  refine List.ext_getElem h fun j h1 h2 => ?_
  have := hh j h1
  rw [List.getD_eq_getElem?_getD, List.getD_eq_getElem?_getD, List.getElem?_eq_getElem h1, List.getElem?_eq_getElem h2] at this
  exact this
theorem drop_congr {l m : List Int} {n : Nat} (h : l.length = m.length) (hh : ∀ j, n ≤ j → l.getD j 0 = m.getD j 0) : l.drop n = m.drop n := by
  refine ext_getD (by simp [h]) fun j _ => ?_
  rw [getD_drop, getD_drop]; exact hh _ (by omega)
theorem take_congr {l m : List Int} {n : Nat} (h : l.length = m.length) (hh : ∀ j, j < n → l.getD j 0 = m.getD j 0) : l.take n = m.take n := by
  refine ext_getD (by simp [h]) fun j hj => ?_
  rw [List.length_take] at hj
  rw [getD_take (by omega), getD_take (by omega)]; exact hh _ (by omega)
theorem getD_set_ne {l : List Int} {i j : Nat} {x : Int} (h : i ≠ j) : (l.set i x).getD j 0 = l.getD j 0 := by
  rw [List.getD_eq_getElem?_getD, List.getD_eq_getElem?_getD, List.getElem?_set_ne h]
theorem getD_set_eq {l : List Int} {i : Nat} {x : Int} (h : i < l.length) : (l.set i x).getD i 0 = x := by
  rw [List.getD_eq_getElem?_getD, List.getElem?_set_self h]; rfl
theorem putL_far (i : Nat) : ∀ (n : Nat) (l : List Int) (v : Int) (j : Nat), (j < i ∨ i + n ≤ j) → (putL l i n v).getD j 0 = l.getD j 0
  | 0, _, _, _, _ => rfl
  | n + 1, l, v, j, h => by
    rw [putL, putL_far i n _ _ j (by omega), getD_set_ne (by omega)]
theorem numL_congr {l m : List Int} (i : Nat) : ∀ (n : Nat), (∀ j, i ≤ j → j < i + n → l.getD j 0 = m.getD j 0) → numL l i n = numL m i n
  | 0, _ => rfl
  | n + 1, h => by
    rw [numL, numL, numL_congr i n (fun j h1 h2 => h j h1 (by omega)), h (i + n) (by omega) (by omega)]
theorem numL_putL_far {l : List Int} (i n : Nat) (v : Int) (j m : Nat) (h : j + m ≤ i ∨ i + n ≤ j) : numL (putL l i n v) j m = numL l j m :=
  numL_congr j m fun k h1 h2 => putL_far i n l v k (by omega)
theorem numL_putL (i : Nat) : ∀ (n : Nat) (l : List Int) (v : Int), i + n ≤ l.length → 0 ≤ v → v < 256 ^ n → numL (putL l i n v) i n = v
  | 0, _, v, _, h0, h1 => by simp only [numL]; simp at h1; omega
  | n + 1, l, v, h, h0, h1 => by
    rw [putL, numL, numL_putL i n _ _ (by rw [List.length_set]; omega) (by omega) (by rw [Int.pow_succ] at h1; omega), putL_far i n _ _ (i + n) (by omega), getD_set_eq (by omega)]
    omega
theorem pr_putL {l : List Int} {i : Nat} {v : Int} (h : i + 2 ≤ l.length) (h0 : 0 ≤ v) (h1 : v ≤ 65535) : pr (putL l i 2 v) i = v := by
  rw [← num2_pr]; exact numL_putL i 2 l v h h0 (by have : (256 : Int) ^ 2 = 65536 := (by decide); omega)
theorem turnS_mod {was L : List Int} (h1 : Bytes was) (h2 : Bytes L) : ∀ (k i : Nat) (s : Int), 0 ≤ s → s ≤ 65535 → (turnS was L k i s - (s + psum was i k - psum L i k)) % 65535 = 0
  | 0, _, s, _, _ => by simp [turnS, psum]
  | k + 1, i, s, a, b => by
    have p1 := pr_b h1 i
    have p2 := pr_b h2 i
    have t := turn_bounds a b p1.1 p1.2 p2.1 p2.2
    have r := turnS_mod h1 h2 k (i + 2) _ t.1 t.2
    rw [turnS, pairL_pr, pairL_pr, psum, psum]
    have m : (turn s (pr was i) (pr L i) - (s + pr was i - pr L i)) % 65535 = 0 := by
      unfold turn plus; repeat' split
      all_goals omega
    omega
/-- What the pairs come to, without the middle ones. -/
theorem pairs_turn {was L : List Int} (hl : L.length = was.length) (o i k : Nat) (ho : o ≤ i) (he : (i - o) % 2 = 0) (hs : ∀ j, o ≤ j → (j < i ∨ i + 2 * k ≤ j) → L.getD j 0 = was.getD j 0) :
    pairs (L.drop o) = pairs (was.drop o) + (psum L i k - psum was i k) := by
  have ei : o + 2 * ((i - o) / 2) = i := by omega
  rw [pairs_psum L ((i - o) / 2) o, pairs_psum was ((i - o) / 2) o, ei, pairs_psum L k i, pairs_psum was k i]
  rw [psum_congr (l := L) (m := was) ((i - o) / 2) o (fun j h1 h2 => hs j h1 (by omega)), drop_congr (l := L) (m := was) hl (n := i + 2 * k) (fun j h1 => hs j (by omega) (by omega))]
  omega
/-- Bytes that Parse takes apart. -/
structure Ok (l : List Int) : Prop where
  h24 : 24 ≤ l.length
  le : l.length ≤ 1500
  num : numL l 2 2 = (l.length : Int)
  z13 : l.getD 13 0 = 0
  sum : fold (pairs (l.take 16)) = 65535
  k1 : 1 ≤ l.getD 0 0
  k3 : l.getD 0 0 ≤ 3
  f44 : l.getD 0 0 = 3 → 44 ≤ l.length
  f17 : l.getD 0 0 = 3 → l.getD 17 0 = 0
  s20 : l.getD 0 0 = 1 → l.getD 20 0 ≤ 15
  s21 : l.getD 0 0 = 1 → l.getD 21 0 ≤ 40
  rest : l.getD 0 0 = 1 → restS l ≤ l.length
/-- The packet that they are. -/
def pkL (l : List Int) : Pk :=
  if l.getD 0 0 = 3 then ⟨3, l.getD 1 0, l.getD 12 0, numL l 4 4, numL l 8 4, 0, 0, 0, 0, false, l.getD 16 0, [], l.drop 20⟩
  else if l.getD 0 0 = 2 then ⟨2, l.getD 1 0, l.getD 12 0, numL l 4 4, numL l 8 4, numL l 16 2, numL l 18 2, 0, numL l 20 2, numL l 22 2 == 0, 0, [], l.drop 24⟩
  else ⟨1, l.getD 1 0, l.getD 12 0, numL l 4 4, numL l 8 4, numL l 16 2, numL l 18 2, l.getD 20 0, 0, false, 0, (l.take (restS l)).drop 24, l.drop (restS l)⟩
theorem Ok.head {l : List Int} (h : Ok l) : headE l = 0 := by
  have := h.h24
  unfold headE
  rw [if_neg (by omega), if_neg (show ¬ ¬ _ from fun x => x ⟨h.k1, h.k3⟩), if_neg (show ¬ ¬ _ from fun x => x ⟨h.num, h.le, h.z13⟩), if_neg (show ¬ ¬ _ from fun x => x h.sum), if_neg ?_]
  rintro (x | ⟨x, y⟩)
  · omega
  · have := h.f44 x; omega
theorem Ok.parse {l : List Int} (h : Ok l) : parseL l = (pkL l, 0) := by
  unfold parseL pkL
  rw [if_neg (show ¬ headE l ≠ 0 from fun x => x h.head)]
  by_cases h3 : l.getD 0 0 = 3
  · rw [if_pos h3, if_neg (show ¬ l.getD 17 0 ≠ 0 from fun x => x (h.f17 h3)), if_pos h3]
  · rw [if_neg h3, if_neg h3]
    by_cases h2 : l.getD 0 0 = 2
    · rw [if_pos h2, if_pos h2]
    · have a := h.k1
      have b := h.k3
      have h1 : l.getD 0 0 = 1 := by omega
      have c1 := h.s20 h1
      have c2 := h.s21 h1
      have c3 := h.rest h1
      rw [if_neg h2, if_neg h2, if_neg (by omega)]
theorem ok_of {l : List Int} (h : (parseL l).2 = 0) : Ok l := by
  have he : headE l = 0 := by
    by_cases he : headE l = 0
    · exact he
    · unfold parseL at h; rw [if_pos he] at h; exact absurd h he
  obtain ⟨h24, hle, hn, h13, hs, hk⟩ := head0 he
  unfold parseL at h
  rw [if_neg (show ¬ headE l ≠ 0 from fun x => x he)] at h
  refine ⟨h24, hle, hn, h13, hs, by omega, by omega, by omega, ?_, ?_, ?_, ?_⟩
  · intro h3
    rw [if_pos h3] at h
    by_cases z : l.getD 17 0 = 0
    · exact z
    · rw [if_pos z] at h; cases h
  all_goals
    intro h1
    rw [if_neg (by omega), if_neg (by omega)] at h
    by_cases z : l.getD 20 0 > 15 ∨ l.getD 21 0 > 40 ∨ restS l > l.length
    · rw [if_pos z] at h; cases h
    · omega
theorem parse_ok_iff {l : List Int} {p : Pk} : parseL l = (p, 0) ↔ Ok l ∧ p = pkL l := by
  constructor
  · intro h
    have o := ok_of (l := l) (by rw [h])
    refine ⟨o, ?_⟩
    rw [o.parse] at h
    exact (Prod.mk.inj h).1.symm
  · rintro ⟨o, rfl⟩; exact o.parse
/-- What a body's sum adds up. -/
theorem pairs_summed {l : List Int} (h : 16 ≤ l.length) (h' : l.length ≤ 65000) : pairs (summedL l) = (if l.getD 0 0 = 3 then 0 else psum l 4 4) + l.getD 0 0 + ((l.length : Int) - 16) + pairs (l.drop 16) := by
  have e : pairs ((l.take 12).drop 4) = psum l 4 4 := by
    rw [pairs_psum _ 4 4, List.drop_eq_nil_of_le (show (l.take 12).length ≤ 4 + 2 * 4 by rw [List.length_take]; omega), psum_congr 4 4 (m := l) (fun j _ h2 => getD_take (by omega))]
    simp [pairs]
  have lt : ((l.take 12).drop 4).length = 8 := by rw [List.length_drop, List.length_take]; omega
  unfold summedL
  split
  · rw [pairs_app _ _ (by simp), List.nil_append]; simp only [pairs]; omega
  · rw [pairs_app _ _ (by simp only [List.length_append, lt, List.length_cons, List.length_nil]), pairs_app _ _ (by rw [lt]), e]; simp only [pairs]; omega
theorem fold_right {n : Int} (hn : 0 < n) : fold n = 65535 ↔ n % 65535 = 0 := by unfold fold; split <;> omega
theorem summed_pos {l : List Int} (hb : Bytes l) (h : 16 ≤ l.length) (h' : l.length ≤ 65000) (hk : 1 ≤ l.getD 0 0) : 0 < pairs (summedL l) := by
  rw [pairs_summed h h']
  have a := (psum_b hb 4 4).1
  have b := pairs_nonneg (hb.drop 16)
  split <;> omega
/-- Is a body's sum right? -/
theorem whole_iff {l : List Int} (hb : Bytes l) (o : Ok l) : wholeL l = ((pkL l).bare || pairs (summedL l) % 65535 == 0) := by
  have := o.h24
  have := o.le
  unfold wholeL
  rw [o.parse]
  have : (fold (pairs (summedL l)) == 65535) = (pairs (summedL l) % 65535 == 0) := by
    rw [Bool.eq_iff_iff, beq_iff_eq, beq_iff_eq]
    exact fold_right (summed_pos hb (by omega) (by omega) o.k1)
  rw [this]; rfl
/-- A body's sum laid anew. -/
theorem summed_put {l : List Int} {s : Nat} {v : Int} (h : s + 2 ≤ l.length) (h' : l.length ≤ 65000) (hs : s = 18 ∨ s = 22) (h0 : 0 ≤ v) (h1 : v ≤ 65535) : pairs (summedL (putL l s 2 v)) = pairs (summedL l) - pr l s + v := by
  have hl := putL_len s 2 l v
  rw [pairs_summed (l := putL l s 2 v) (by omega) (by omega), pairs_summed (l := l) (by omega) (by omega), hl, putL_far s 2 l v 0 (by omega),
    psum_congr (l := putL l s 2 v) (m := l) 4 4 (fun j a b => putL_far s 2 l v j (by omega)),
    pairs_turn (L := putL l s 2 v) (was := l) hl 16 s 1 (by omega) (by omega) (fun j a b => putL_far s 2 l v j (by omega))]
  simp only [psum, pr_putL h h0 h1]
  omega
/-- The sum of a head. -/
theorem head_put {l : List Int} {v : Int} (h : 16 ≤ l.length) (h0 : 0 ≤ v) (h1 : v ≤ 65535) : pairs ((putL l 14 2 v).take 16) = pairs (l.take 16) - pr l 14 + v := by
  rw [show 16 = 2 * 8 from rfl, pairs_take _ 8 (by rw [putL_len]; omega), pairs_take l 8 (by omega), show (8 : Nat) = 7 + 1 from rfl, psum_add, psum_add,
    psum_congr (l := putL l 14 2 v) (m := l) 7 0 (fun j a b => putL_far 14 2 l v j (by omega))]
  have e0 : psum (putL l 14 2 v) (0 + 2 * 7) 1 = v := by
    show pr (putL l 14 2 v) 14 + 0 = v
    rw [pr_putL (show 14 + 2 ≤ l.length by omega) h0 h1]; omega
  have e1 : psum l (0 + 2 * 7) 1 = pr l 14 := by
    show pr l 14 + 0 = _
    omega
  rw [e0, e1]
  omega
theorem head_pos {l : List Int} (hb : Bytes l) (h : 16 ≤ l.length) (hk : 1 ≤ l.getD 0 0) : 0 < pairs (l.take 16) := by
  rw [show 16 = 2 * 8 from rfl, pairs_take _ 8 (by omega), show (8 : Nat) = 7 + 1 from rfl, psum]
  have a : 0 ≤ psum l (0 + 2) 7 := (psum_b hb 7 2).1
  have b : 0 ≤ l.getD (0 + 1) 0 := (getD_byte hb 1).1
  unfold pr; omega
theorem fold_mod {n : Int} (h : 0 < n) : (n + (65535 - fold n)) % 65535 = 0 := by unfold fold; split <;> omega
def ageL (bare : Bool) (l : List Int) : List Int := doneL bare (turnL l (l.set 1 ((l.getD 1 0 - 1) % 256)) 14 0 2)
/-- What Age answers. -/
def ageR (l : List Int) : List Int × Int :=
  if (parseL l).2 ≠ 0 then ([], (parseL l).2) else if (parseL l).1.life < 2 then ([], 7) else (ageL (parseL l).1.bare l, 0)
/-- What Nat answers. -/
def natR (l : List Int) (src : Bool) (addr port : Int) : List Int × Int :=
  if (parseL l).2 ≠ 0 then ([], (parseL l).2) else if (parseL l).1.kind = 3 then ([], 2) else if rgB addr 4294967295 = false ∨ rgB port 65535 = false then ([], 14)
  else (natL (parseL l).1.bare l (if src then 4 else 8) (if src then 16 else 18) addr port, 0)
/-- May so many bytes be laid there? -/
def wrOK (l : List Int) (i m v : Int) : Prop :=
  (m = 1 ∨ m = 2 ∨ m = 4) ∧ 0 ≤ v ∧ v < 256 ^ m.toNat ∧ 16 ≤ i ∧ i + m ≤ l.length ∧ (i + m ≤ placeL l ∨ (placeL l : Int) + 2 ≤ i)
instance (l : List Int) (i m v : Int) : Decidable (wrOK l i m v) := by unfold wrOK; infer_instance
/-- What Write answers. -/
def writeR (l : List Int) (i m v : Int) : List Int × Int :=
  if (parseL l).2 ≠ 0 then ([], (parseL l).2) else if wrOK l i m v then (writeL (parseL l).1.bare l i.toNat m.toNat v, 0) else ([], 14)
theorem age_calls {A : Option Addr} {c n : Nat} {l : List Int} {w : World} (hr : Kd.C (Kd.int .u8) w A n l) (hn : l.length = n) (hc : n ≤ c) (hl : l.length ≤ 10000) (hb : Bytes l) :
    Calls Tryz.prog 40 #[.slice A n c] w (Told w (ageR l).1 (ageR l).2) := by
  subst hn
  obtain ⟨⟨p0, p1, p2, p3, p4, p5, p6, p7, p8, p9, p10, p11, p12⟩, x, hp⟩ : ∃ p x, parseL l = (p, x) := ⟨_, _, rfl⟩
  unfold ageR ageL
  rw [hp]
  by_cases hx : x = 0
  · subst hx
    have h := age_ok hr hc hl hb hp
    dsimp only
    by_cases h2 : p1 < 2
    · rw [if_pos h2, if_pos h2] at h; rw [if_neg (by simp), if_pos h2]; exact h
    · rw [if_neg h2, if_neg h2] at h; rw [if_neg (by simp), if_neg h2]; exact h
  · dsimp only
    rw [if_pos hx]
    exact age_err hr hc hl hb hp hx
theorem nat_calls {A : Option Addr} {c n : Nat} {l : List Int} {w : World} (hr : Kd.C (Kd.int .u8) w A n l) (hn : l.length = n) (hc : n ≤ c) (hl : l.length ≤ 10000) (hb : Bytes l) (src : Bool) (addr port : Int) :
    Calls Tryz.prog 84 #[.slice A n c, .bool src, .int .i64 addr, .int .i64 port] w (Told w (natR l src addr port).1 (natR l src addr port).2) := by
  subst hn
  obtain ⟨⟨p0, p1, p2, p3, p4, p5, p6, p7, p8, p9, p10, p11, p12⟩, x, hp⟩ : ∃ p x, parseL l = (p, x) := ⟨_, _, rfl⟩
  unfold natR
  rw [hp]
  by_cases hx : x = 0
  · subst hx
    dsimp only
    rw [if_neg (by simp)]
    by_cases h3 : p0 = 3
    · rw [if_pos h3]; exact nat_fault hr hc hl hb src addr port hp h3
    · rw [if_neg h3]
      by_cases ha : rgB addr 4294967295 = false
      · rw [if_pos (Or.inl ha)]; exact nat_range1 hr hc hl hb src addr port hp h3 ha
      · have ha' : rgB addr 4294967295 = true := by simpa using ha
        by_cases hq : rgB port 65535 = false
        · rw [if_pos (Or.inr hq)]; exact nat_range2 hr hc hl hb src addr port hp h3 ha' hq
        · have hq' : rgB port 65535 = true := by simpa using hq
          rw [if_neg (by simp [ha', hq'])]
          cases src with
          | true => exact nat_ok_true hr hc hl hb addr port hp h3 ha' hq'
          | false => exact nat_ok_false hr hc hl hb addr port hp h3 ha' hq'
  · dsimp only
    rw [if_pos hx]
    exact nat_err hr hc hl hb src addr port hp hx
theorem kind0 {l : List Int} {p : Pk} (h : parseL l = (p, 0)) : p.kind = l.getD 0 0 := by
  obtain ⟨o, rfl⟩ := parse_ok_iff.1 h
  have a := o.k1
  have b := o.k3
  unfold pkL
  by_cases h3 : l.getD 0 0 = 3
  · rw [if_pos h3, h3]
  · rw [if_neg h3]
    by_cases h2 : l.getD 0 0 = 2
    · rw [if_pos h2, h2]
    · rw [if_neg h2]; show (1 : Int) = _; omega
theorem write_calls {A : Option Addr} {c n : Nat} {l : List Int} {w : World} (hr : Kd.C (Kd.int .u8) w A n l) (hn : l.length = n) (hc : n ≤ c) (hl : l.length ≤ 10000) (hb : Bytes l) (i m v : Int) :
    Calls Tryz.prog 81 #[.slice A n c, .int .i64 i, .int .i64 m, .int .i64 v] w (Told w (writeR l i m v).1 (writeR l i m v).2) := by
  subst hn
  obtain ⟨⟨p0, p1, p2, p3, p4, p5, p6, p7, p8, p9, p10, p11, p12⟩, x, hp⟩ : ∃ p x, parseL l = (p, x) := ⟨_, _, rfl⟩
  unfold writeR
  rw [hp]
  by_cases hx : x = 0
  · subst hx
    dsimp only
    have hs : placeL l = if p0 = 3 then 18 else 22 := by unfold placeL; rw [← kind0 hp]
    rw [if_neg (by simp)]
    by_cases hm : m = 1 ∨ m = 2 ∨ m = 4
    · have e1 : (256 : Int) ^ Int.toNat 1 = 256 := by decide
      have e2 : (256 : Int) ^ Int.toNat 2 = 65536 := by decide
      have e4 : (256 : Int) ^ Int.toNat 4 = 4294967296 := by decide
      by_cases h0 : v < 0
      · rw [if_neg (by unfold wrOK; omega)]
        rcases hm with rfl | rfl | rfl
        · exact write_v0_1 hr hc hl hb i v hp h0
        · exact write_v0_2 hr hc hl hb i v hp h0
        · exact write_v0_4 hr hc hl hb i v hp h0
      by_cases h1 : v < 256 ^ m.toNat
      · by_cases h2 : i < 16
        · rw [if_neg (by unfold wrOK; omega)]
          rcases hm with rfl | rfl | rfl
          · exact write_a0_1 hr hc hl hb i v hp (by omega) (by omega) h2
          · exact write_a0_2 hr hc hl hb i v hp (by omega) (by omega) h2
          · exact write_a0_4 hr hc hl hb i v hp (by omega) (by omega) h2
        by_cases h3 : i + m ≤ l.length
        · obtain ⟨j, rfl⟩ := Int.eq_ofNat_of_zero_le (show 0 ≤ i by omega)
          by_cases h4 : (j : Int) + m ≤ placeL l ∨ (placeL l : Int) + 2 ≤ j
          · rw [if_pos ⟨hm, by omega, h1, by omega, h3, h4⟩]
            rcases h4 with h4 | h4
            · rcases hm with rfl | rfl | rfl
              · exact write_ok0_1 hr hc hl hb j v j hp rfl (by omega) (by omega) (by omega) h3 hs (by omega) h4
              · exact write_ok0_2 hr hc hl hb j v j hp rfl (by omega) (by omega) (by omega) h3 hs (by omega) h4
              · exact write_ok0_4 hr hc hl hb j v j hp rfl (by omega) (by omega) (by omega) h3 hs (by omega) h4
            · rcases hm with rfl | rfl | rfl
              · exact write_ok1_1 hr hc hl hb j v j hp rfl (by omega) (by omega) (by omega) h3 hs h4
              · exact write_ok1_2 hr hc hl hb j v j hp rfl (by omega) (by omega) (by omega) h3 hs h4
              · exact write_ok1_4 hr hc hl hb j v j hp rfl (by omega) (by omega) (by omega) h3 hs h4
          · rw [if_neg (fun h => h4 h.2.2.2.2.2)]
            rcases hm with rfl | rfl | rfl
            · exact write_s_1 hr hc hl hb j v hp (by omega) (by omega) (by omega) h3 hs (by omega) (by omega)
            · exact write_s_2 hr hc hl hb j v hp (by omega) (by omega) (by omega) h3 hs (by omega) (by omega)
            · exact write_s_4 hr hc hl hb j v hp (by omega) (by omega) (by omega) h3 hs (by omega) (by omega)
        · rw [if_neg (fun h => h3 h.2.2.2.2.1)]
          rcases hm with rfl | rfl | rfl
          · exact write_a1_1 hr hc hl hb i v hp (by omega) (by omega) (by omega) (by omega)
          · exact write_a1_2 hr hc hl hb i v hp (by omega) (by omega) (by omega) (by omega)
          · exact write_a1_4 hr hc hl hb i v hp (by omega) (by omega) (by omega) (by omega)
      · rw [if_neg (fun h => h1 h.2.2.1)]
        rcases hm with rfl | rfl | rfl
        · exact write_v1_1 hr hc hl hb i v hp (by omega)
        · exact write_v1_2 hr hc hl hb i v hp (by omega)
        · exact write_v1_4 hr hc hl hb i v hp (by omega)
    · rw [if_neg (fun h => hm h.1)]
      exact write_n hr hc hl hb i m v hp hm
  · dsimp only
    rw [if_pos hx]
    exact write_err hr hc hl hb i m v hp hx
/-- Is it a gram without a sum? -/
def bareB (l : List Int) : Bool := l.getD 0 0 == 2 && pr l 22 == 0
theorem doneL_len (b : Bool) (l : List Int) : (doneL b l).length = l.length := by
  unfold doneL; split
  · exact putL_len ..
  · rfl
theorem doneL_bytes {b : Bool} {l : List Int} (h : Bytes l) : Bytes (doneL b l) := by
  unfold doneL; split
  · exact putL_bytes _ _ _ h
  · exact h
theorem putL_putL (i : Nat) : ∀ (n : Nat) (l : List Int) (u v : Int), putL (putL l i n u) i n v = putL l i n v
  | 0, _, _, _ => rfl
  | n + 1, l, u, v => by
    show putL ((putL (l.set (i + n) (u % 256)) i n (u / 256)).set (i + n) (v % 256)) i n (v / 256) = putL (l.set (i + n) (v % 256)) i n (v / 256)
    rw [← putL_set i (i + n) (v % 256) n _ _ (by omega), putL_putL i n, List.set_set]
theorem pr_far {l : List Int} {i n j : Nat} {v : Int} (h : j + 2 ≤ i ∨ i + n ≤ j) : pr (putL l i n v) j = pr l j := by
  unfold pr
  rw [putL_far i n l v j (by omega), putL_far i n l v (j + 1) (by omega)]
theorem bare_of {l : List Int} (o : Ok l) : (pkL l).bare = bareB l := by
  have a := o.k1
  have b := o.k3
  unfold pkL bareB
  by_cases h3 : l.getD 0 0 = 3
  · rw [if_pos h3, h3]; rfl
  · rw [if_neg h3]
    by_cases h2 : l.getD 0 0 = 2
    · rw [if_pos h2, h2, ← num2_pr]; simp
    · rw [if_neg h2, beq_eq_false_iff_ne.mpr h2]; rfl
theorem done_id {l L : List Int} {b : Bool} (h : bareB l = b) (h0 : L.getD 0 0 = l.getD 0 0) (h1 : pr L 22 = pr l 22) : doneL b L = L := by
  unfold doneL
  rw [if_neg]
  rintro ⟨a, rfl, c⟩
  unfold bareB at h
  rw [num2_pr, h1] at c
  rw [h0] at a
  rw [a, c] at h
  cases h
theorem age_eq {l : List Int} (h : 24 ≤ l.length) : ageL (bareB l) l = putL (l.set 1 ((l.getD 1 0 - 1) % 256)) 14 2 (turn (pr l 14) (pr l 0) (pr (l.set 1 ((l.getD 1 0 - 1) % 256)) 0)) := by
  unfold ageL
  obtain ⟨L, hL⟩ : ∃ L, L = l.set 1 ((l.getD 1 0 - 1) % 256) := ⟨_, rfl⟩
  have f : ∀ j, 1 < j → L.getD j 0 = l.getD j 0 := fun j hj => by rw [hL, getD_set_ne (by omega)]
  have f0 : L.getD 0 0 = l.getD 0 0 := by rw [hL, getD_set_ne (by omega)]
  rw [← hL]
  have e : turnL l L 14 0 2 = putL L 14 2 (turn (pr l 14) (pr l 0) (pr L 0)) := by
    unfold turnL
    rw [show pairsN 0 2 = 1 from rfl, show 0 / 2 * 2 = 0 from rfl, num2_pr, turnS, turnS, pairL_pr, pairL_pr, show pr L 14 = pr l 14 from by unfold pr; rw [f 14 (by omega), f (14 + 1) (by omega)]]
  rw [e, done_id rfl (by rw [putL_far _ _ _ _ _ (by omega), f0]) (by rw [pr_far (by omega)]; unfold pr; rw [f 22 (by omega), f (22 + 1) (by omega)])]
variable {w0 w w1 : World} {g : Nat} {N : List Int} {p : Pk} {vo vd : Value}
theorem eight : ∀ {L : List Int}, L.length = 8 → ∃ n0 n1 n2 n3 n4 n5 n6 n7, L = [n0, n1, n2, n3, n4, n5, n6, n7]
  | [a, b, c, d, e, f, g, h], _ => ⟨a, b, c, d, e, f, g, h, rfl⟩
/-- A packet that is laid as it is read. -/
structure Canon (p : Pk) : Prop where
  bo : Bytes p.opts
  bd : Bytes p.data
  s : p.kind = 1 → p.label = 0 ∧ p.bare = false ∧ p.code = 0
  g : p.kind = 2 → p.flags = 0 ∧ p.code = 0 ∧ p.opts = []
  f : p.kind = 3 → p.fp = 0 ∧ p.tp = 0 ∧ p.flags = 0 ∧ p.label = 0 ∧ p.bare = false ∧ p.opts = []
theorem rgB_true {n m : Int} (h0 : 0 ≤ n) (h1 : n ≤ m) : rgB n m = true := by unfold rgB; rw [decide_eq_true h0, decide_eq_true h1]; rfl
theorem getD_app_l {a b : List Int} {i : Nat} (h : i < a.length) : (a ++ b).getD i 0 = a.getD i 0 := by
  rw [List.getD_eq_getElem?_getD, List.getD_eq_getElem?_getD, List.getElem?_append_left h]
theorem getD_app_r {a b : List Int} {i : Nat} (h : a.length ≤ i) : (a ++ b).getD i 0 = b.getD (i - a.length) 0 := by
  rw [List.getD_eq_getElem?_getD, List.getD_eq_getElem?_getD, List.getElem?_append_right h]
/-- What a head says. -/
structure HeadOf (l : List Int) (n : Nat) (kind life piece frm dst : Int) : Prop where
  k : l.getD 0 0 = kind
  l1 : l.getD 1 0 = life
  pc : l.getD 12 0 = piece
  z : l.getD 13 0 = 0
  n : numL l 2 2 = (n : Int)
  f : numL l 4 4 = frm
  d : numL l 8 4 = dst
  s : fold (pairs (l.take 16)) = 65535
theorem h4R_of {n : Nat} {kind life piece frm dst : Int} (hn : n ≤ 1500) (k0 : 1 ≤ kind) (k1 : kind ≤ 3) (l0 : 0 ≤ life) (l1 : life ≤ 255) (p0 : 0 ≤ piece) (p1 : piece ≤ 255) (f0 : 0 ≤ frm) (f1 : frm ≤ 4294967295) (d0 : 0 ≤ dst) (d1 : dst ≤ 4294967295) :
    HeadOf (h4R n kind life piece frm dst) n kind life piece frm dst ∧ Bytes (h4R n kind life piece frm dst) := by
  obtain ⟨Z, hZ⟩ : ∃ Z, Z = (((List.replicate 16 (0 : Int)).set 0 (kind % 256)).set 1 (life % 256)).set 12 (piece % 256) := ⟨_, rfl⟩
  have zl : Z.length = 16 := by rw [hZ]; simp
  have zb : Bytes Z := by
    rw [hZ]
    refine Bytes.set (Bytes.set (Bytes.set ?_ _ (by omega) (by omega)) _ (by omega) (by omega)) _ (by omega) (by omega)
    intro x hx; have := List.eq_of_mem_replicate hx; omega
  have z0 : Z.getD 0 0 = kind := by rw [hZ, getD_set_ne (by omega), getD_set_ne (by omega), getD_set_eq (by simp)]; omega
  have z1 : Z.getD 1 0 = life := by rw [hZ, getD_set_ne (by omega), getD_set_eq (by simp)]; omega
  have z12 : Z.getD 12 0 = piece := by rw [hZ, getD_set_eq (by simp)]; omega
  have z13 : Z.getD 13 0 = 0 := by rw [hZ, getD_set_ne (by omega), getD_set_ne (by omega), getD_set_ne (by omega)]; rfl
  have z14 : pr Z 14 = 0 := by
    unfold pr
    rw [hZ, getD_set_ne (by omega), getD_set_ne (by omega), getD_set_ne (by omega), getD_set_ne (by omega), getD_set_ne (by omega), getD_set_ne (by omega)]; rfl
  obtain ⟨H, hH⟩ : ∃ H, H = putL (putL (putL Z 2 2 (n : Int)) 4 4 frm) 8 4 dst := ⟨_, rfl⟩
  have e3 : h3R n kind life piece frm dst = H := by rw [hH, hZ]; rfl
  have hl : H.length = 16 := by rw [← e3]; exact h3R_len ..
  have hb : Bytes H := by rw [hH]; exact putL_bytes _ _ _ (putL_bytes _ _ _ (putL_bytes _ _ _ zb))
  obtain ⟨v, hv⟩ : ∃ v, v = 65535 - fold (pairs H) := ⟨_, rfl⟩
  have fb := @fold_bounds (pairs H)
  have e4 : h4R n kind life piece frm dst = putL H 14 2 v := by unfold h4R; rw [e3, hv]
  have far : ∀ j, j < 14 → (putL H 14 2 v).getD j 0 = H.getD j 0 := fun j hj => putL_far _ _ _ _ _ (by omega)
  have farH : ∀ j, (j < 2 ∨ 12 ≤ j) → H.getD j 0 = Z.getD j 0 := fun j hj => by
    rw [hH, putL_far _ _ _ _ _ (by omega), putL_far _ _ _ _ _ (by omega), putL_far _ _ _ _ _ (by omega)]
  have i2 : (256 : Int) ^ 2 = 65536 := by decide
  have i4 : (256 : Int) ^ 4 = 4294967296 := by decide
  have h16 : H.take 16 = H := List.take_of_length_le (by omega)
  rw [e4]
  refine ⟨⟨by rw [far 0 (by omega), farH 0 (by omega), z0], by rw [far 1 (by omega), farH 1 (by omega), z1], by rw [far 12 (by omega), farH 12 (by omega), z12], by rw [far 13 (by omega), farH 13 (by omega), z13], ?_, ?_, ?_, ?_⟩, putL_bytes _ _ _ hb⟩
  · rw [numL_putL_far _ _ _ _ _ (by omega), hH, numL_putL_far _ _ _ _ _ (by omega), numL_putL_far _ _ _ _ _ (by omega), numL_putL _ _ _ _ (by omega) (by omega) (by omega)]
  · rw [numL_putL_far _ _ _ _ _ (by omega), hH, numL_putL_far _ _ _ _ _ (by omega), numL_putL _ _ _ _ (by rw [putL_len]; omega) (by omega) (by omega)]
  · rw [numL_putL_far _ _ _ _ _ (by omega), hH, numL_putL _ _ _ _ (by rw [putL_len, putL_len]; omega) (by omega) (by omega)]
  · have hp := head_pos hb (by omega) (by rw [farH 0 (by omega), z0]; exact k0)
    have m := fold_mod hp
    rw [h16] at hp m
    have e14 : pr H 14 = 0 := by unfold pr; rw [farH 14 (by omega), farH (14 + 1) (by omega)]; exact z14
    rw [head_put (by omega) (by omega) (by omega), h16, e14, hv, fold_right (by omega)]
    omega
theorem HeadOf.congr {l m : List Int} {n : Nat} {kind life piece frm dst : Int} (h : HeadOf l n kind life piece frm dst) (hl : 16 ≤ l.length) (hm : 16 ≤ m.length) (hh : ∀ j, j < 16 → m.getD j 0 = l.getD j 0) : HeadOf m n kind life piece frm dst := by
  have e : m.take 16 = l.take 16 := by
    refine ext_getD (by simp; omega) fun j hj => ?_
    rw [List.length_take] at hj
    rw [getD_take (by omega), getD_take (by omega)]; exact hh _ (by omega)
  exact ⟨by rw [hh 0 (by omega), h.k], by rw [hh 1 (by omega), h.l1], by rw [hh 12 (by omega), h.pc], by rw [hh 13 (by omega), h.z], by rw [numL_congr 2 2 (fun j _ _ => hh j (by omega)), h.n], by rw [numL_congr 4 4 (fun j _ _ => hh j (by omega)), h.f], by rw [numL_congr 8 4 (fun j _ _ => hh j (by omega)), h.d], by rw [e, h.s]⟩
theorem sumL_b {k : Int} {b : Bool} {l : List Int} : 0 ≤ sumL k b l ∧ sumL k b l ≤ 65535 := by
  have := @fold_bounds (pairs (summedL l))
  unfold sumL; repeat' split
  all_goals omega
theorem sumL_mod {k : Int} {b : Bool} {l : List Int} (hp : 0 < pairs (summedL l)) (h : ¬ (k = 2 ∧ b = true)) : (pairs (summedL l) + sumL k b l) % 65535 = 0 := by
  have m := fold_mod hp
  unfold sumL
  rw [if_neg h]
  split <;> omega
theorem sumL_zero {b : Bool} {l : List Int} : sumL 2 b l = 0 ↔ b = true := by
  unfold sumL
  cases b with
  | true => simp
  | false =>
    rw [if_neg (by simp)]
    constructor
    · intro h
      by_cases h0 : 65535 - fold (pairs (summedL l)) = 0
      · rw [if_pos ⟨rfl, h0⟩] at h; cases h
      · rw [if_neg (fun x => h0 x.2)] at h; exact absurd h h0
    · intro h; cases h
theorem rgB_of {n m : Int} (h : rgB n m = true) : 0 ≤ n ∧ n ≤ m := by
  unfold rgB at h
  simpa using h
/-- What may be built. -/
theorem built_of {p : Pk} (h : buildE p = 0) : (1 ≤ p.kind ∧ p.kind ≤ 3) ∧ (0 ≤ p.life ∧ p.life ≤ 255) ∧ (0 ≤ p.piece ∧ p.piece ≤ 255) ∧ (0 ≤ p.frm ∧ p.frm ≤ 4294967295) ∧ (0 ≤ p.dst ∧ p.dst ≤ 4294967295) ∧ nL p ≤ 1500 ∧
    (p.kind = 3 → (0 ≤ p.code ∧ p.code ≤ 255) ∧ 24 ≤ p.data.length) ∧ (p.kind ≠ 3 → (0 ≤ p.fp ∧ p.fp ≤ 65535) ∧ (0 ≤ p.tp ∧ p.tp ≤ 65535)) ∧ (p.kind = 2 → 0 ≤ p.label ∧ p.label ≤ 65535) ∧ (p.kind = 1 → (0 ≤ p.flags ∧ p.flags ≤ 15) ∧ p.opts.length ≤ 40) := by
  unfold buildE at h
  by_cases hk : 1 ≤ p.kind ∧ p.kind ≤ 3
  · rw [if_neg (fun x => x hk)] at h
    by_cases ho : okR p = false
    · rw [if_pos ho] at h; cases h
    · rw [if_neg ho] at h
      have ho' : okR p = true := by simpa using ho
      by_cases h5 : p.kind = 1 ∧ 40 < p.opts.length
      · rw [if_pos h5] at h; cases h
      · rw [if_neg h5] at h
        by_cases h6 : (p.kind = 3 ∧ p.data.length < 24) ∨ 1500 < nL p
        · rw [if_pos h6] at h; cases h
        · unfold okR at ho'
          simp only [Bool.and_eq_true] at ho'
          obtain ⟨⟨⟨⟨a, b⟩, c⟩, d⟩, e⟩ := ho'
          refine ⟨hk, rgB_of a, rgB_of b, rgB_of c, rgB_of d, by omega, ?_, ?_, ?_, ?_⟩
          · intro h3
            rw [if_pos h3] at e
            exact ⟨rgB_of e, by omega⟩
          · intro h3
            rw [if_neg h3] at e
            simp only [Bool.and_eq_true] at e
            exact ⟨rgB_of e.1.1, rgB_of e.1.2⟩
          · intro h2
            rw [if_neg (by omega), if_pos h2] at e
            simp only [Bool.and_eq_true] at e
            exact rgB_of e.2
          · intro h1
            rw [if_neg (by omega), if_neg (by omega)] at e
            simp only [Bool.and_eq_true] at e
            exact ⟨rgB_of e.2, by omega⟩
  · rw [if_pos hk] at h; cases h
theorem ok_head {l : List Int} {n : Nat} {kind life piece frm dst : Int} (h : HeadOf l n kind life piece frm dst) (hl : l.length = n) (h24 : 24 ≤ n) (hn : n ≤ 1500) (k0 : 1 ≤ kind) (k1 : kind ≤ 3) (f44 : kind = 3 → 44 ≤ n) (f17 : kind = 3 → l.getD 17 0 = 0) (s20 : kind = 1 → l.getD 20 0 ≤ 15) (s21 : kind = 1 → l.getD 21 0 ≤ 40) (rest : kind = 1 → restS l ≤ n) : Ok l := by
  have e := h.k
  exact ⟨by omega, by omega, by rw [h.n, hl], h.z, h.s, by omega, by omega, fun x => by have := f44 (by omega); omega, fun x => f17 (by omega), fun x => s20 (by omega), fun x => s21 (by omega), fun x => by rw [hl]; exact rest (by omega)⟩
theorem zeros_bytes (n : Nat) : Bytes (List.replicate n 0) := by intro x hx; have := List.eq_of_mem_replicate hx; omega
/-- Built, taken apart, whole. -/
theorem parse_build {p : Pk} (hE : buildE p = 0) (hc : Canon p) : Ok (buildL p) ∧ pkL (buildL p) = p ∧ wholeL (buildL p) = true ∧ (buildL p).length = nL p ∧ Bytes (buildL p) := by
  obtain ⟨p0, p1, p2, p3, p4, p5, p6, p7, p8, p9, p10, p11, p12⟩ := p
  obtain ⟨⟨k0, k1⟩, ⟨l0, l1⟩, ⟨q0, q1⟩, ⟨f0, f1⟩, ⟨d0, d1⟩, hn, c3, cp, c2, c1⟩ := built_of hE
  rw [← rbuildL_eq ⟨k0, k1⟩]
  obtain ⟨bo, bd, cs, cg, cf⟩ := hc
  dsimp only at *
  unfold rbuildL rbodyL
  dsimp only
  obtain ⟨n, hnn⟩ : ∃ n, nL ⟨p0, p1, p2, p3, p4, p5, p6, p7, p8, p9, p10, p11, p12⟩ = n := ⟨_, rfl⟩
  rw [hnn] at hn ⊢
  obtain ⟨hh, hhb⟩ := h4R_of (n := n) hn k0 k1 l0 l1 q0 q1 f0 f1 d0 d1
  have hhl := h4R_len n p0 p1 p2 p3 p4
  generalize h4R n p0 p1 p2 p3 p4 = H at hh hhb hhl ⊢
  have hk : p0 = 3 ∨ p0 = 2 ∨ p0 = 1 := by omega
  have i2 : (256 : Int) ^ 2 = 65536 := by decide
  rcases hk with rfl | rfl | rfl
  · -- a fault
    have hn2 : n = 20 + p12.length := by rw [← hnn]; rfl
    obtain ⟨⟨c30, c31⟩, d24⟩ := c3 rfl
    obtain ⟨rfl, rfl, rfl, rfl, rfl, rfl⟩ := cf rfl
    rw [if_pos rfl, if_pos rfl]
    obtain ⟨X, hX⟩ : ∃ X, X = H ++ [p10 % 256, 0, 0, 0] := ⟨_, rfl⟩
    have xl : X.length = 20 := by rw [hX, List.length_append, hhl]; rfl
    have xb : Bytes X := hX ▸ hhb.app (by intro x hx; simp at hx; omega)
    have xH : ∀ j, j < 16 → X.getD j 0 = H.getD j 0 := fun j hj => by rw [hX, getD_app_l (by omega)]
    have x16 : X.getD 16 0 = p10 := by rw [hX, getD_app_r (by omega), hhl]; show p10 % 256 = _; omega
    have x17 : X.getD 17 0 = 0 := by rw [hX, getD_app_r (by omega), hhl]; rfl
    have x18 : pr X 18 = 0 := by unfold pr; rw [hX, getD_app_r (by omega), getD_app_r (by omega), hhl]; rfl
    rw [← hX]
    obtain ⟨v, hv⟩ : ∃ v, v = sumL 3 false (X ++ p12) := ⟨_, rfl⟩
    have vb : 0 ≤ v ∧ v ≤ 65535 := by rw [hv]; exact sumL_b
    rw [← hv, putL_app _ _ _ _ _ (by omega)]
    obtain ⟨b, hb⟩ : ∃ b, b = putL X 18 2 v ++ p12 := ⟨_, rfl⟩
    have hb2 : b = putL (X ++ p12) 18 2 v := by rw [hb, putL_app _ _ _ _ _ (by omega)]
    have bl : b.length = n := by rw [hb, List.length_append, putL_len]; omega
    have yl : (putL X 18 2 v).length = 20 := by rw [putL_len, xl]
    have bb : Bytes b := hb ▸ (putL_bytes _ _ _ xb).app bd
    have g : ∀ j, j < 18 → b.getD j 0 = X.getD j 0 := fun j hj => by rw [hb, getD_app_l (by omega), putL_far _ _ _ _ _ (by omega)]
    have hd := hh.congr (m := b) (by omega) (by omega) (fun j hj => by rw [g j (by omega), xH j hj])
    have o : Ok b := ok_head hd bl (by omega) hn (by omega) (by omega) (fun _ => by omega) (fun _ => by rw [g 17 (by omega), x17]) (fun h => by cases h) (fun h => by cases h) (fun h => by cases h)
    have dd : b.drop 20 = p12 := by rw [hb]; exact List.drop_left' yl
    rw [← hb]
    have pk : pkL b = ⟨3, p1, p2, p3, p4, 0, 0, 0, 0, false, p10, [], p12⟩ := by
      unfold pkL
      rw [if_pos hd.k, hd.l1, hd.pc, hd.f, hd.d, g 16 (by omega), x16, dd]
    refine ⟨o, pk, ?_, bl, bb⟩
    rw [whole_iff bb o, pk]
    show (pairs (summedL b) % 65535 == 0) = true
    have P := summed_pos (l := X ++ p12) (xb.app bd) (by rw [List.length_append]; omega) (by rw [List.length_append]; omega) (by rw [getD_app_l (by omega), xH 0 (by omega), hh.k]; omega)
    have sm := sumL_mod (k := 3) (b := false) P (by simp)
    have pz : pr (X ++ p12) 18 = 0 := by unfold pr; rw [getD_app_l (by omega), getD_app_l (by omega)]; exact x18
    rw [← hv] at sm
    rw [hb2, summed_put (by rw [List.length_append]; omega) (by rw [List.length_append]; omega) (Or.inl rfl) vb.1 vb.2, pz, beq_iff_eq]
    omega
  · -- a gram
    have hn2 : n = 24 + p12.length := by rw [← hnn]; rfl
    obtain ⟨⟨fp0, fp1⟩, tp0, tp1⟩ := cp (by decide)
    obtain ⟨lb0, lb1⟩ := c2 rfl
    obtain ⟨rfl, rfl, rfl⟩ := cg rfl
    rw [if_neg (by decide), if_pos rfl, if_neg (by decide)]
    obtain ⟨Z, hZ⟩ : ∃ Z, Z = H ++ List.replicate 8 (0 : Int) := ⟨_, rfl⟩
    have zl : Z.length = 24 := by rw [hZ, List.length_append, hhl]; rfl
    have zb : Bytes Z := hZ ▸ hhb.app (zeros_bytes 8)
    have zH : ∀ j, j < 16 → Z.getD j 0 = H.getD j 0 := fun j hj => by rw [hZ, getD_app_l (by omega)]
    have z22 : pr Z 22 = 0 := by unfold pr; rw [hZ, getD_app_r (by omega), getD_app_r (by omega), hhl]; rfl
    rw [← hZ]
    obtain ⟨X, hX⟩ : ∃ X, X = putL (putL (putL Z 20 2 p8) 16 2 p5) 18 2 p6 := ⟨_, rfl⟩
    have xl : X.length = 24 := by rw [hX, putL_len, putL_len, putL_len, zl]
    have xb : Bytes X := hX ▸ putL_bytes _ _ _ (putL_bytes _ _ _ (putL_bytes _ _ _ zb))
    have xH : ∀ j, j < 16 → X.getD j 0 = H.getD j 0 := fun j hj => by rw [hX, putL_far _ _ _ _ _ (by omega), putL_far _ _ _ _ _ (by omega), putL_far _ _ _ _ _ (by omega), zH j hj]
    have x16 : numL X 16 2 = p5 := by rw [hX, numL_putL_far _ _ _ _ _ (by omega), numL_putL _ _ _ _ (by rw [putL_len]; omega) (by omega) (by omega)]
    have x18 : numL X 18 2 = p6 := by rw [hX, numL_putL _ _ _ _ (by rw [putL_len, putL_len]; omega) (by omega) (by omega)]
    have x20 : numL X 20 2 = p8 := by rw [hX, numL_putL_far _ _ _ _ _ (by omega), numL_putL_far _ _ _ _ _ (by omega), numL_putL _ _ _ _ (by omega) (by omega) (by omega)]
    have x22 : pr X 22 = 0 := by rw [hX, pr_far (by omega), pr_far (by omega), pr_far (by omega), z22]
    rw [← hX]
    obtain ⟨v, hv⟩ : ∃ v, v = sumL 2 p9 (X ++ p12) := ⟨_, rfl⟩
    have vb : 0 ≤ v ∧ v ≤ 65535 := by rw [hv]; exact sumL_b
    rw [← hv, putL_app _ _ _ _ _ (by omega)]
    obtain ⟨b, hb⟩ : ∃ b, b = putL X 22 2 v ++ p12 := ⟨_, rfl⟩
    have hb2 : b = putL (X ++ p12) 22 2 v := by rw [hb, putL_app _ _ _ _ _ (by omega)]
    have yl : (putL X 22 2 v).length = 24 := by rw [putL_len, xl]
    have bl : b.length = n := by rw [hb, List.length_append, yl]; omega
    have bb : Bytes b := hb ▸ (putL_bytes _ _ _ xb).app bd
    have g : ∀ j, j < 22 → b.getD j 0 = X.getD j 0 := fun j hj => by rw [hb, getD_app_l (by omega), putL_far _ _ _ _ _ (by omega)]
    have gn : ∀ i m, i + m ≤ 22 → numL b i m = numL X i m := fun i m h => numL_congr i m (fun j _ _ => g j (by omega))
    have hd := hh.congr (m := b) (by omega) (by omega) (fun j hj => by rw [g j (by omega), xH j hj])
    have o : Ok b := ok_head hd bl (by omega) hn (by omega) (by omega) (fun h => by cases h) (fun h => by cases h) (fun h => by cases h) (fun h => by cases h) (fun h => by cases h)
    have dd : b.drop 24 = p12 := by rw [hb]; exact List.drop_left' yl
    have n22 : numL b 22 2 = v := by rw [hb2, numL_putL _ _ _ _ (by rw [List.length_append]; omega) (by omega) (by omega)]
    have ebare : (numL b 22 2 == 0) = p9 := by
      rw [n22, hv]
      have := @sumL_zero p9 (X ++ p12)
      cases p9 with
      | true => exact beq_iff_eq.mpr (this.2 rfl)
      | false => exact beq_eq_false_iff_ne.mpr (fun h => by have := this.1 h; cases this)
    rw [← hb]
    have pk : pkL b = ⟨2, p1, p2, p3, p4, p5, p6, 0, p8, p9, 0, [], p12⟩ := by
      unfold pkL
      rw [if_neg (by rw [hd.k]; decide), if_pos hd.k, hd.l1, hd.pc, hd.f, hd.d, gn 16 2 (by omega), gn 18 2 (by omega), gn 20 2 (by omega), x16, x18, x20, ebare, dd]
    refine ⟨o, pk, ?_, bl, bb⟩
    rw [whole_iff bb o, pk]
    show (p9 || (pairs (summedL b) % 65535 == 0)) = true
    cases p9 with
    | true => rfl
    | false =>
      have P := summed_pos (l := X ++ p12) (xb.app bd) (by rw [List.length_append]; omega) (by rw [List.length_append]; omega) (by rw [getD_app_l (by omega), xH 0 (by omega), hh.k]; omega)
      have sm := sumL_mod (k := 2) (b := false) P (by simp)
      have pz : pr (X ++ p12) 22 = 0 := by unfold pr; rw [getD_app_l (by omega), getD_app_l (by omega)]; exact x22
      rw [← hv] at sm
      rw [Bool.false_or, hb2, summed_put (by rw [List.length_append]; omega) (by rw [List.length_append]; omega) (Or.inr rfl) vb.1 vb.2, pz, beq_iff_eq]
      omega
  · -- a stream
    have hn2 : n = 24 + p12.length + p11.length := by rw [← hnn]; rfl
    obtain ⟨⟨fp0, fp1⟩, tp0, tp1⟩ := cp (by decide)
    obtain ⟨⟨fl0, fl1⟩, ol⟩ := c1 rfl
    obtain ⟨rfl, rfl, rfl⟩ := cs rfl
    rw [if_neg (by decide), if_neg (by decide), if_neg (by decide)]
    obtain ⟨Z, hZ⟩ : ∃ Z, Z = H ++ List.replicate 8 (0 : Int) := ⟨_, rfl⟩
    have zl : Z.length = 24 := by rw [hZ, List.length_append, hhl]; rfl
    have zb : Bytes Z := hZ ▸ hhb.app (zeros_bytes 8)
    have zH : ∀ j, j < 16 → Z.getD j 0 = H.getD j 0 := fun j hj => by rw [hZ, getD_app_l (by omega)]
    have z22 : pr Z 22 = 0 := by unfold pr; rw [hZ, getD_app_r (by omega), getD_app_r (by omega), hhl]; rfl
    rw [← hZ]
    obtain ⟨X, hX⟩ : ∃ X, X = putL (putL ((Z.set 20 (p7 % 256)).set 21 ((p11.length : Int) % 256)) 16 2 p5) 18 2 p6 := ⟨_, rfl⟩
    have eX : putL (putL (((Z ++ p11).set 20 (p7 % 256)).set 21 ((p11.length : Int) % 256)) 16 2 p5) 18 2 p6 = X ++ p11 := by
      rw [hX, List.set_append_left _ _ (by omega), List.set_append_left _ _ (by rw [List.length_set]; omega), putL_app _ _ _ _ _ (by rw [List.length_set, List.length_set]; omega), putL_app _ _ _ _ _ (by rw [putL_len, List.length_set, List.length_set]; omega)]
    rw [eX]
    have xl : X.length = 24 := by rw [hX, putL_len, putL_len, List.length_set, List.length_set, zl]
    have xb : Bytes X := hX ▸ putL_bytes _ _ _ (putL_bytes _ _ _ ((zb.set _ (by omega) (by omega)).set _ (by omega) (by omega)))
    have xH : ∀ j, j < 16 → X.getD j 0 = H.getD j 0 := fun j hj => by rw [hX, putL_far _ _ _ _ _ (by omega), putL_far _ _ _ _ _ (by omega), getD_set_ne (by omega), getD_set_ne (by omega), zH j hj]
    have x16 : numL X 16 2 = p5 := by rw [hX, numL_putL_far _ _ _ _ _ (by omega), numL_putL _ _ _ _ (by rw [List.length_set, List.length_set]; omega) (by omega) (by omega)]
    have x18 : numL X 18 2 = p6 := by rw [hX, numL_putL _ _ _ _ (by rw [putL_len, List.length_set, List.length_set]; omega) (by omega) (by omega)]
    have x20 : X.getD 20 0 = p7 := by rw [hX, putL_far _ _ _ _ _ (by omega), putL_far _ _ _ _ _ (by omega), getD_set_ne (by omega), getD_set_eq (by omega)]; omega
    have x21 : X.getD 21 0 = (p11.length : Int) := by rw [hX, putL_far _ _ _ _ _ (by omega), putL_far _ _ _ _ _ (by omega), getD_set_eq (by rw [List.length_set]; omega)]; omega
    have x22 : pr X 22 = 0 := by
      rw [hX, pr_far (by omega), pr_far (by omega)]
      unfold pr
      rw [getD_set_ne (by omega), getD_set_ne (by omega), getD_set_ne (by omega), getD_set_ne (by omega)]
      exact z22
    obtain ⟨v, hv⟩ : ∃ v, v = sumL 1 false (X ++ p11 ++ p12) := ⟨_, rfl⟩
    have vb : 0 ≤ v ∧ v ≤ 65535 := by rw [hv]; exact sumL_b
    rw [← hv, List.append_assoc, putL_app _ _ _ _ _ (by omega)]
    rw [List.append_assoc] at hv
    obtain ⟨b, hb⟩ : ∃ b, b = putL X 22 2 v ++ (p11 ++ p12) := ⟨_, rfl⟩
    have hb2 : b = putL (X ++ (p11 ++ p12)) 22 2 v := by rw [hb, putL_app _ _ _ _ _ (by omega)]
    have yl : (putL X 22 2 v).length = 24 := by rw [putL_len, xl]
    have bl : b.length = n := by rw [hb, List.length_append, List.length_append, yl]; omega
    have bb : Bytes b := hb ▸ (putL_bytes _ _ _ xb).app (bo.app bd)
    have g : ∀ j, j < 22 → b.getD j 0 = X.getD j 0 := fun j hj => by rw [hb, getD_app_l (by omega), putL_far _ _ _ _ _ (by omega)]
    have gn : ∀ i m, i + m ≤ 22 → numL b i m = numL X i m := fun i m h => numL_congr i m (fun j _ _ => g j (by omega))
    have hd := hh.congr (m := b) (by omega) (by omega) (fun j hj => by rw [g j (by omega), xH j hj])
    have er : restS b = 24 + p11.length := by unfold restS; rw [g 21 (by omega), x21]; omega
    have o : Ok b := ok_head hd bl (by omega) hn (by omega) (by omega) (fun h => by cases h) (fun h => by cases h) (fun _ => by rw [g 20 (by omega), x20]; exact fl1) (fun _ => by rw [g 21 (by omega), x21]; omega) (fun _ => by rw [er]; omega)
    have dd : b.drop (restS b) = p12 := by
      rw [er, hb, ← List.append_assoc]
      exact List.drop_left' (by rw [List.length_append, yl])
    have dt : (b.take (restS b)).drop 24 = p11 := by
      rw [er, hb, ← List.append_assoc, List.take_left' (by rw [List.length_append, yl])]
      exact List.drop_left' yl
    rw [← hb]
    have pk : pkL b = ⟨1, p1, p2, p3, p4, p5, p6, p7, 0, false, 0, p11, p12⟩ := by
      unfold pkL
      rw [if_neg (by rw [hd.k]; decide), if_neg (by rw [hd.k]; decide), hd.l1, hd.pc, hd.f, hd.d, gn 16 2 (by omega), gn 18 2 (by omega), x16, x18, g 20 (by omega), x20, dd, dt]
    refine ⟨o, pk, ?_, bl, bb⟩
    rw [whole_iff bb o, pk]
    show (pairs (summedL b) % 65535 == 0) = true
    have P := summed_pos (l := X ++ (p11 ++ p12)) (xb.app (bo.app bd)) (by rw [List.length_append]; omega) (by rw [List.length_append, List.length_append]; omega) (by rw [getD_app_l (by omega), xH 0 (by omega), hh.k]; omega)
    have sm := sumL_mod (k := 1) (b := false) P (by simp)
    have pz : pr (X ++ (p11 ++ p12)) 22 = 0 := by unfold pr; rw [getD_app_l (by omega), getD_app_l (by omega)]; exact x22
    rw [← hv] at sm
    rw [hb2, summed_put (by rw [List.length_append]; omega) (by rw [List.length_append, List.length_append]; omega) (Or.inr rfl) vb.1 vb.2, pz, beq_iff_eq]
    omega
theorem summed_congr {l m : List Int} (hl : m.length = l.length) (hh : ∀ j, (j = 0 ∨ (4 ≤ j ∧ j < 12) ∨ 16 ≤ j) → m.getD j 0 = l.getD j 0) : summedL m = summedL l := by
  unfold summedL
  have e : (m.take 12).drop 4 = (l.take 12).drop 4 := by
    refine ext_getD (by simp [hl]) fun j hj => ?_
    simp only [List.length_drop, List.length_take] at hj
    rw [getD_drop, getD_drop, getD_take (by omega), getD_take (by omega)]; exact hh _ (by omega)
  rw [hh 0 (by omega), hl, e, drop_congr hl (fun j hj => hh j (by omega))]
/-- The same head, another sum over other bytes: it is right still. -/
theorem head_turn {was L : List Int} (hw : Bytes was) (hL : Bytes L) (hl : L.length = was.length) (h16 : 16 ≤ was.length) (hs : fold (pairs (was.take 16)) = 65535) (k0 : 1 ≤ was.getD 0 0) (k1 : L.getD 0 0 = was.getD 0 0) (i k : Nat) (hi : i % 2 = 0) (hk : i + 2 * k ≤ 14)
    (hh : ∀ j, j < 16 → (j < i ∨ i + 2 * k ≤ j) → L.getD j 0 = was.getD j 0) : fold (pairs ((putL L 14 2 (turnS was L k i (pr was 14))).take 16)) = 65535 := by
  have p1 := pr_b hw 14
  have tb := turnS_b hw hL k i (pr was 14) p1.1 p1.2
  have tm := turnS_mod hw hL k i (pr was 14) p1.1 p1.2
  have e14 : pr L 14 = pr was 14 := by unfold pr; rw [hh 14 (by omega) (by omega), hh (14 + 1) (by omega) (by omega)]
  have hp := head_pos (l := putL L 14 2 (turnS was L k i (pr was 14))) (putL_bytes _ _ _ hL) (by rw [putL_len]; omega) (by rw [putL_far _ _ _ _ _ (by omega)]; omega)
  have hp0 := head_pos hw h16 k0
  rw [fold_right hp0] at hs
  rw [fold_right hp]
  rw [head_put (by omega) tb.1 tb.2, e14]
  have E : ∀ (l : List Int), 16 ≤ l.length → pairs (l.take 16) = psum l 0 (i / 2) + (psum l i k + psum l (i + 2 * k) (8 - i / 2 - k)) := by
    intro l h
    rw [show 16 = 2 * 8 from rfl, pairs_take _ 8 (by omega), show 8 = i / 2 + (k + (8 - i / 2 - k)) by omega, psum_add, psum_add, show 0 + 2 * (i / 2) = i by omega]
    congr 3; congr 1; omega
  rw [E L (by omega)]
  rw [E was h16] at hs
  rw [psum_congr (l := L) (m := was) (i / 2) 0 (fun j _ h => hh j (by omega) (by omega)), psum_congr (l := L) (m := was) (8 - i / 2 - k) (i + 2 * k) (fun j h1 h2 => hh j (by omega) (by omega))]
  omega
theorem bareB_congr {l m : List Int} (h0 : m.getD 0 0 = l.getD 0 0) (h : pr m 22 = pr l 22) : bareB m = bareB l := by unfold bareB; rw [h0, h]
/-- What done does to a gram's sum. -/
theorem done_facts {L : List Int} {b : Bool} (hb : Bytes L) (h24 : 24 ≤ L.length) (hl : L.length ≤ 65000) (hbb : b = true → L.getD 0 0 = 2 ∧ pr L 22 = 0) :
    (∀ j, (j < 22 ∨ 24 ≤ j) → (doneL b L).getD j 0 = L.getD j 0) ∧ pairs (summedL (doneL b L)) % 65535 = pairs (summedL L) % 65535 ∧ bareB (doneL b L) = b ∧ (L.getD 0 0 ≠ 2 → doneL b L = L) := by
  unfold doneL
  rw [num2_pr]
  by_cases h : L.getD 0 0 = 2 ∧ b = false ∧ pr L 22 = 0
  · rw [if_pos h]
    obtain ⟨h2, rfl, h0⟩ := h
    refine ⟨fun j hj => putL_far _ _ _ _ _ (by omega), ?_, ?_, fun x => absurd h2 x⟩
    · rw [summed_put (by omega) hl (Or.inr rfl) (by omega) (by omega), h0]; omega
    · unfold bareB
      rw [pr_putL (by omega) (by omega) (by omega)]; simp
  · rw [if_neg h]
    refine ⟨fun _ _ => rfl, rfl, ?_, fun _ => rfl⟩
    unfold bareB
    cases b with
    | true => obtain ⟨a, c⟩ := hbb rfl; rw [a, c]; rfl
    | false =>
      by_cases h2 : L.getD 0 0 = 2
      · rw [beq_iff_eq.mpr h2, beq_eq_false_iff_ne.mpr (fun x => h ⟨h2, rfl, x⟩)]; rfl
      · rw [beq_eq_false_iff_ne.mpr h2]; rfl
/-- Bytes that are taken apart as before. -/
theorem Ok.congr {l m : List Int} (o : Ok l) (hl : m.length = l.length) (hs : fold (pairs (m.take 16)) = 65535) (hh : ∀ j, (j = 0 ∨ j = 2 ∨ j = 3 ∨ j = 13) → m.getD j 0 = l.getD j 0) (h17 : l.getD 0 0 = 3 → m.getD 17 0 = l.getD 17 0) (h20 : l.getD 0 0 = 1 → m.getD 20 0 = l.getD 20 0) (h21 : l.getD 0 0 = 1 → m.getD 21 0 = l.getD 21 0) : Ok m := by
  have e0 := hh 0 (by omega)
  refine ⟨by rw [hl]; exact o.h24, by rw [hl]; exact o.le, by rw [hl, numL_congr (m := l) 2 2 (fun j a b => hh j (by omega))]; exact o.num, by rw [hh 13 (by omega)]; exact o.z13, hs, by rw [e0]; exact o.k1, by rw [e0]; exact o.k3, fun h => by rw [hl]; exact o.f44 (by omega), ?_, ?_, ?_, ?_⟩
  · intro h; rw [h17 (by omega)]; exact o.f17 (by omega)
  · intro h; rw [h20 (by omega)]; exact o.s20 (by omega)
  · intro h; rw [h21 (by omega)]; exact o.s21 (by omega)
  · intro h
    have := o.rest (by omega)
    unfold restS at this ⊢
    rw [h21 (by omega), hl]; exact this
/-- What Age keeps. -/
theorem age_facts {l : List Int} (hb : Bytes l) (o : Ok l) (h2 : 2 ≤ l.getD 1 0) :
    (ageL (bareB l) l).length = l.length ∧ Bytes (ageL (bareB l) l) ∧ Ok (ageL (bareB l) l) ∧ (∀ i, i ≠ 1 → i ≠ 14 → i ≠ 15 → (ageL (bareB l) l).getD i 0 = l.getD i 0) ∧ (ageL (bareB l) l).getD 1 0 = l.getD 1 0 - 1 ∧ wholeL (ageL (bareB l) l) = wholeL l := by
  have h24 := o.h24
  have b1 := getD_byte hb 1
  rw [age_eq h24]
  obtain ⟨L, hL⟩ : ∃ L, L = l.set 1 ((l.getD 1 0 - 1) % 256) := ⟨_, rfl⟩
  have Lb : Bytes L := hL ▸ hb.set _ (by omega) (by omega)
  have Ll : L.length = l.length := by rw [hL, List.length_set]
  have Lf : ∀ i, i ≠ 1 → L.getD i 0 = l.getD i 0 := fun i hi => by rw [hL, getD_set_ne (by omega)]
  have L1 : L.getD 1 0 = l.getD 1 0 - 1 := by rw [hL, getD_set_eq (by omega)]; omega
  rw [← hL]
  have et : turn (pr l 14) (pr l 0) (pr L 0) = turnS l L 1 0 (pr l 14) := by rw [turnS, turnS, pairL_pr, pairL_pr]
  obtain ⟨Y, hY⟩ : ∃ Y, Y = putL L 14 2 (turn (pr l 14) (pr l 0) (pr L 0)) := ⟨_, rfl⟩
  have Yl : Y.length = l.length := by rw [hY, putL_len, Ll]
  have Yb : Bytes Y := hY ▸ putL_bytes _ _ _ Lb
  have Yf : ∀ i, i ≠ 1 → i ≠ 14 → i ≠ 15 → Y.getD i 0 = l.getD i 0 := fun i h1 h2 h3 => by rw [hY, putL_far _ _ _ _ _ (by omega), Lf i h1]
  have hs : fold (pairs (Y.take 16)) = 65535 := by
    rw [hY, et]
    exact head_turn hb Lb Ll (by omega) o.sum o.k1 (Lf 0 (by omega)) 0 1 rfl (by omega) (fun j _ h => Lf j (by omega))
  have Yo : Ok Y := o.congr Yl hs (fun j hj => Yf j (by omega) (by omega) (by omega)) (fun _ => Yf 17 (by omega) (by omega) (by omega)) (fun _ => Yf 20 (by omega) (by omega) (by omega)) (fun _ => Yf 21 (by omega) (by omega) (by omega))
  rw [← hY]
  refine ⟨Yl, Yb, Yo, Yf, by rw [hY, putL_far _ _ _ _ _ (by omega), L1], ?_⟩
  rw [whole_iff Yb Yo, whole_iff hb o, bare_of Yo, bare_of o, summed_congr Yl (fun j hj => Yf j (by omega) (by omega) (by omega)), bareB_congr (Yf 0 (by omega) (by omega) (by omega)) (by unfold pr; rw [Yf 22 (by omega) (by omega) (by omega), Yf (22 + 1) (by omega) (by omega) (by omega)])]
/-- What Nat keeps. -/
theorem nat_facts {l : List Int} (hb : Bytes l) (o : Ok l) (h3 : l.getD 0 0 ≠ 3) {a p : Nat} (hap : (a = 4 ∧ p = 16) ∨ (a = 8 ∧ p = 18)) {addr port : Int} (a0 : 0 ≤ addr) (a1 : addr ≤ 4294967295) (p0 : 0 ≤ port) (p1 : port ≤ 65535) :
    (natL (bareB l) l a p addr port).length = l.length ∧ Bytes (natL (bareB l) l a p addr port) ∧ Ok (natL (bareB l) l a p addr port) ∧ (∀ i, (i < a ∨ a + 4 ≤ i) → (i < p ∨ p + 2 ≤ i) → (i < 14 ∨ 16 ≤ i) → (i < 22 ∨ 24 ≤ i) → (natL (bareB l) l a p addr port).getD i 0 = l.getD i 0) ∧
      numL (natL (bareB l) l a p addr port) a 4 = addr ∧ numL (natL (bareB l) l a p addr port) p 2 = port ∧ bareB (natL (bareB l) l a p addr port) = bareB l ∧ wholeL (natL (bareB l) l a p addr port) = wholeL l := by
  have h24 := o.h24
  have hle := o.le
  have i2 : (256 : Int) ^ 2 = 65536 := by decide
  have i4 : (256 : Int) ^ 4 = 4294967296 := by decide
  obtain ⟨X, hX⟩ : ∃ X, X = putL (putL l a 4 addr) p 2 port := ⟨_, rfl⟩
  have xb : Bytes X := hX ▸ putL_bytes _ _ _ (putL_bytes _ _ _ hb)
  have xl : X.length = l.length := by rw [hX, putL_len, putL_len]
  have xf : ∀ i, (i < a ∨ a + 4 ≤ i) → (i < p ∨ p + 2 ≤ i) → X.getD i 0 = l.getD i 0 := fun i h1 h2 => by rw [hX, putL_far _ _ _ _ _ (by omega), putL_far _ _ _ _ _ (by omega)]
  have xa : numL X a 4 = addr := by rw [hX, numL_putL_far _ _ _ _ _ (by omega), numL_putL _ _ _ _ (by omega) a0 (by omega)]
  have xp : numL X p 2 = port := by rw [hX, numL_putL _ _ _ _ (by rw [putL_len]; omega) p0 (by omega)]
  have x14 : pr X 14 = pr l 14 := by unfold pr; rw [xf 14 (by omega) (by omega), xf (14 + 1) (by omega) (by omega)]
  have x22 : pr X 22 = pr l 22 := by unfold pr; rw [xf 22 (by omega) (by omega), xf (22 + 1) (by omega) (by omega)]
  have x0 := xf 0 (by omega) (by omega)
  have q14 := pr_b hb 14
  have q22 := pr_b hb 22
  obtain ⟨u, hu⟩ : ∃ u, u = turnS l X 2 a (pr l 14) := ⟨_, rfl⟩
  have ub : 0 ≤ u ∧ u ≤ 65535 := by rw [hu]; exact turnS_b hb xb _ _ _ q14.1 q14.2
  obtain ⟨Y, hY⟩ : ∃ Y, Y = putL X 14 2 u := ⟨_, rfl⟩
  have eY : turnL l X 14 a 4 = Y := by
    unfold turnL
    rw [show pairsN a 4 = 2 from by unfold pairsN; omega, show a / 2 * 2 = a by omega, num2_pr, x14, hY, hu]
  have yb : Bytes Y := hY ▸ putL_bytes _ _ _ xb
  have yl : Y.length = l.length := by rw [hY, putL_len, xl]
  have yf : ∀ i, (i < 14 ∨ 16 ≤ i) → Y.getD i 0 = X.getD i 0 := fun i h => by rw [hY, putL_far _ _ _ _ _ (by omega)]
  have y0 : Y.getD 0 0 = l.getD 0 0 := by rw [yf 0 (by omega), x0]
  have y22 : pr Y 22 = pr l 22 := by rw [hY, pr_far (by omega), x22]
  have hs : fold (pairs (Y.take 16)) = 65535 := by
    rw [hY, hu]
    exact head_turn hb xb xl (by omega) o.sum o.k1 x0 a 2 (by omega) (by omega) (fun j h1 h2 => xf j (by omega) (by omega))
  -- whatever lies at 22 and 23
  have fin : ∀ y : List Int, y.length = l.length → Bytes y → (∀ i, (i < 22 ∨ 24 ≤ i) → y.getD i 0 = Y.getD i 0) → bareB y = bareB l → (bareB l = false → pairs (summedL y) % 65535 = pairs (summedL l) % 65535) →
      y.length = l.length ∧ Bytes y ∧ Ok y ∧ (∀ i, (i < a ∨ a + 4 ≤ i) → (i < p ∨ p + 2 ≤ i) → (i < 14 ∨ 16 ≤ i) → (i < 22 ∨ 24 ≤ i) → y.getD i 0 = l.getD i 0) ∧ numL y a 4 = addr ∧ numL y p 2 = port ∧ bareB y = bareB l ∧ wholeL y = wholeL l := by
    intro y hl hby hf hbare hsum
    have ff : ∀ i, (i < a ∨ a + 4 ≤ i) → (i < p ∨ p + 2 ≤ i) → (i < 14 ∨ 16 ≤ i) → (i < 22 ∨ 24 ≤ i) → y.getD i 0 = l.getD i 0 := fun i h1 h2 h3 h4 => by rw [hf i h4, yf i h3, xf i h1 h2]
    have t16 : y.take 16 = Y.take 16 := take_congr (by omega) (fun j hj => hf j (by omega))
    have oy : Ok y := o.congr hl (by rw [t16]; exact hs) (fun j hj => ff j (by omega) (by omega) (by omega) (by omega)) (fun h => absurd h h3) (fun _ => ff 20 (by omega) (by omega) (by omega) (by omega)) (fun _ => ff 21 (by omega) (by omega) (by omega) (by omega))
    refine ⟨hl, hby, oy, ff, ?_, ?_, hbare, ?_⟩
    · rw [numL_congr (m := X) a 4 (fun j h1 h2 => by rw [hf j (by omega), yf j (by omega)]), xa]
    · rw [numL_congr (m := X) p 2 (fun j h1 h2 => by rw [hf j (by omega), yf j (by omega)]), xp]
    · rw [whole_iff hby oy, whole_iff hb o, bare_of oy, bare_of o, hbare]
      cases hbb : bareB l with
      | true => rfl
      | false => rw [hsum hbb]
  unfold natL
  rw [← hX, eY]
  cases hbb : bareB l with
  | true =>
    have e : doneL true (bodyT true l (bodyT true l Y a 4) p 2) = Y := by
      unfold bodyT; rw [if_pos rfl, if_pos rfl]; unfold doneL; rw [if_neg (by simp)]
    rw [e, ← hbb]
    exact fin Y yl yb (fun _ _ => rfl) (bareB_congr y0 y22) (fun h => by rw [hbb] at h; cases h)
  | false =>
    have sY : placeL Y = 22 := by unfold placeL; rw [y0, if_neg h3]
    obtain ⟨t2, ht2⟩ : ∃ t, t = turnS l Y 2 a (pr l 22) := ⟨_, rfl⟩
    have b2 : 0 ≤ t2 ∧ t2 ≤ 65535 := by rw [ht2]; exact turnS_b hb yb _ _ _ q22.1 q22.2
    have m2 := turnS_mod hb yb 2 a _ q22.1 q22.2
    rw [← ht2] at m2
    obtain ⟨Z, hZ⟩ : ∃ Z, Z = putL Y 22 2 t2 := ⟨_, rfl⟩
    have zb : Bytes Z := hZ ▸ putL_bytes _ _ _ yb
    have zl : Z.length = l.length := by rw [hZ, putL_len, yl]
    have e1 : bodyT false l Y a 4 = Z := by
      unfold bodyT turnL
      rw [if_neg (by simp), sY, show pairsN a 4 = 2 from by unfold pairsN; omega, show a / 2 * 2 = a by omega, num2_pr, y22, hZ, ht2]
    have z0 : Z.getD 0 0 = l.getD 0 0 := by rw [hZ, putL_far _ _ _ _ _ (by omega), y0]
    have sZ : placeL Z = 22 := by unfold placeL; rw [z0, if_neg h3]
    have z22 : pr Z 22 = t2 := by rw [hZ, pr_putL (by omega) b2.1 b2.2]
    obtain ⟨t3, ht3⟩ : ∃ t, t = turnS l Z 1 p t2 := ⟨_, rfl⟩
    have b3 : 0 ≤ t3 ∧ t3 ≤ 65535 := by rw [ht3]; exact turnS_b hb zb _ _ _ b2.1 b2.2
    have m3 := turnS_mod hb zb 1 p _ b2.1 b2.2
    rw [← ht3] at m3
    obtain ⟨W, hW⟩ : ∃ W, W = putL Y 22 2 t3 := ⟨_, rfl⟩
    have e2 : bodyT false l Z p 2 = W := by
      unfold bodyT turnL
      rw [if_neg (by simp), sZ, show pairsN p 2 = 1 from by unfold pairsN; omega, show p / 2 * 2 = p by omega, num2_pr, z22, ← ht3, hZ, putL_putL, hW]
    rw [e1, e2]
    have wb : Bytes W := hW ▸ putL_bytes _ _ _ yb
    have wl : W.length = l.length := by rw [hW, putL_len, yl]
    have wf : ∀ i, (i < 22 ∨ 24 ≤ i) → W.getD i 0 = Y.getD i 0 := fun i h => by rw [hW, putL_far _ _ _ _ _ (by omega)]
    have w0 : W.getD 0 0 = l.getD 0 0 := by rw [wf 0 (by omega), y0]
    have pz : psum Z p 1 = psum X p 1 := by rw [hZ, hY]; exact psum_congr 1 p (fun j h1 h2 => by rw [putL_far _ _ _ _ _ (by omega), putL_far _ _ _ _ _ (by omega)])
    have py : psum Y a 2 = psum X a 2 := by rw [hY]; exact psum_congr 2 a (fun j h1 h2 => by rw [putL_far _ _ _ _ _ (by omega)])
    have ew : pairs (summedL W) % 65535 = pairs (summedL l) % 65535 := by
      have eYX : summedL Y = summedL X := summed_congr (by omega) (fun j hj => yf j (by omega))
      rw [hW, summed_put (by omega) (by omega) (Or.inr rfl) b3.1 b3.2, y22, eYX, pairs_summed (l := X) (by omega) (by omega), pairs_summed (l := l) (by omega) (by omega), xl, x0, if_neg h3, if_neg h3,
        pairs_turn (L := X) (was := l) xl 16 p 1 (by omega) (by omega) (fun i h1 h => xf i (by omega) (by omega))]
      have e4 : psum X 4 4 - psum l 4 4 = psum X a 2 - psum l a 2 := by
        have eX : psum X 4 4 = psum X 4 2 + psum X 8 2 := psum_add X 2 4 2
        have el : psum l 4 4 = psum l 4 2 + psum l 8 2 := psum_add l 2 4 2
        rcases hap with ⟨rfl, rfl⟩ | ⟨rfl, rfl⟩
        · have := psum_congr (l := X) (m := l) 2 8 (fun j h1 h2 => xf j (by omega) (by omega)); omega
        · have := psum_congr (l := X) (m := l) 2 4 (fun j h1 h2 => xf j (by omega) (by omega)); omega
      omega
    obtain ⟨d1, d2, d3, d4⟩ := done_facts (b := false) wb (by omega) (by omega) (by intro h; cases h)
    rw [← hbb]
    rw [← hbb] at d1 d2 d3
    exact fin _ (by rw [doneL_len, wl]) (doneL_bytes wb) (fun i h => by rw [d1 i h, wf i h]) d3 (fun _ => by rw [d2, ew])
/-- Bytes that may be read. -/
structure Rw (w : World) (A : Option Addr) (c : Nat) (l : List Int) : Prop where
  rd : Kd.C (Kd.int .u8) w A l.length l
  le : l.length ≤ c
theorem Rw.below {w w' : World} {A : Option Addr} {c : Nat} {l : List Int} (h : Rw w A c l) (hb : Below w.heap.size w w') : Rw w' A c l := ⟨Kd.C_below h.rd hb, h.le⟩
theorem rw_of {b : Nat} {w : World} {A : Option Addr} {c n : Nat} {l : List Int} (h : RB b w (.slice A n c) l) : Rw w A c l := by
  have e := Kd.R_reads' h
  exact ⟨by have := e.2.2; exact this, by have := e.2.1; rw [e.1] at this; exact this⟩
theorem told_at {W0 W w' : World} {y : List Int} {x : Int} {e : Ending} (h : Below W0.heap.size W0 W) (ht : Told W y x e w') : ∃ (A : Option Addr) (c : Nat), e = .returned (.tuple #[.slice A y.length c, .int .i64 x]) ∧ RB W0.heap.size w' (.slice A y.length c) y ∧ Below W0.heap.size W0 w' := by
  obtain ⟨v, rfl, hr, hb⟩ := ht
  obtain ⟨A, c, rfl⟩ := Kd.R_slice hr
  exact ⟨A, c, rfl, Kd.R_lower hr h.size, below_step h hb⟩
theorem age_at {W0 : World} {A0 : Option Addr} {c0 n : Nat} {l : List Int} (h0 : Rw W0 A0 c0 l) (hn : l.length = n) (hl : l.length ≤ 10000) (hb : Bytes l) {y : List Int} {x : Int} (hr : ageR l = (y, x)) : ∀ W, Below W0.heap.size W0 W →
    Calls Tryz.prog 40 #[.slice A0 n c0] W fun e w' => ∃ (A : Option Addr) (c : Nat), e = .returned (.tuple #[.slice A y.length c, .int .i64 x]) ∧ RB W0.heap.size w' (.slice A y.length c) y ∧ Below W0.heap.size W0 w' := by
  subst hn
  intro W h
  have := age_calls (h0.below h).rd rfl h0.le hl hb
  rw [hr] at this
  exact this.mono fun e w' ht => told_at h ht
theorem nat_at {W0 : World} {A0 : Option Addr} {c0 n : Nat} {l : List Int} (h0 : Rw W0 A0 c0 l) (hn : l.length = n) (hl : l.length ≤ 10000) (hb : Bytes l) (src : Bool) (addr port : Int) {y : List Int} {x : Int} (hr : natR l src addr port = (y, x)) : ∀ W, Below W0.heap.size W0 W →
    Calls Tryz.prog 84 #[.slice A0 n c0, .bool src, .int .i64 addr, .int .i64 port] W fun e w' => ∃ (A : Option Addr) (c : Nat), e = .returned (.tuple #[.slice A y.length c, .int .i64 x]) ∧ RB W0.heap.size w' (.slice A y.length c) y ∧ Below W0.heap.size W0 w' := by
  subst hn
  intro W h
  have := nat_calls (h0.below h).rd rfl h0.le hl hb src addr port
  rw [hr] at this
  exact this.mono fun e w' ht => told_at h ht
theorem write_at {W0 : World} {A0 : Option Addr} {c0 n : Nat} {l : List Int} (h0 : Rw W0 A0 c0 l) (hn : l.length = n) (hl : l.length ≤ 10000) (hb : Bytes l) (i m v : Int) {y : List Int} {x : Int} (hr : writeR l i m v = (y, x)) : ∀ W, Below W0.heap.size W0 W →
    Calls Tryz.prog 81 #[.slice A0 n c0, .int .i64 i, .int .i64 m, .int .i64 v] W fun e w' => ∃ (A : Option Addr) (c : Nat), e = .returned (.tuple #[.slice A y.length c, .int .i64 x]) ∧ RB W0.heap.size w' (.slice A y.length c) y ∧ Below W0.heap.size W0 w' := by
  subst hn
  intro W h
  have := write_calls (h0.below h).rd rfl h0.le hl hb i m v
  rw [hr] at this
  exact this.mono fun e w' ht => told_at h ht
theorem parse_at {W0 : World} {A0 : Option Addr} {c0 n : Nat} {l : List Int} (h0 : Rw W0 A0 c0 l) (hn : l.length = n) (hl : l.length ≤ 10000) (hb : Bytes l) {p : Pk} {x : Int} (hr : parseL l = (p, x)) : ∀ W, Below W0.heap.size W0 W →
    Calls Tryz.prog 38 #[.slice A0 n c0] W fun e w' => ∃ (A1 : Option Addr) (c1 : Nat) (A2 : Option Addr) (c2 : Nat), e = .returned (.tuple #[.agg #[.int .i64 p.kind, .int .i64 p.life, .int .i64 p.piece, .int .i64 p.frm, .int .i64 p.dst, .int .i64 p.fp, .int .i64 p.tp, .int .i64 p.flags, .int .i64 p.label, .bool p.bare, .int .i64 p.code, .slice A1 p.opts.length c1, .slice A2 p.data.length c2], .int .i64 x]) ∧ RB W0.heap.size w' (.slice A1 p.opts.length c1) p.opts ∧ RB W0.heap.size w' (.slice A2 p.data.length c2) p.data ∧ (∀ k, (Value.slice A1 p.opts.length c1).ownBlock = some k → (Value.slice A2 p.data.length c2).ownBlock ≠ some k) ∧ Below W0.heap.size W0 w' := by
  subst hn
  intro W h
  refine (parse_calls (h0.below h).rd rfl h0.le (by omega) hb).mono ?_
  rintro e w' ⟨v1, v2, he, h1, h2, h3, h4⟩
  rw [hr] at he h1 h2
  obtain ⟨A1, c1, rfl⟩ := Kd.R_slice h1
  obtain ⟨A2, c2, rfl⟩ := Kd.R_slice h2
  exact ⟨A1, c1, A2, c2, he, Kd.R_lower h1 h.size, Kd.R_lower h2 h.size, h3, below_step h h4⟩
theorem build_at {W0 : World} {p : Pk} {A1 A2 : Option Addr} {c1 c2 n1 n2 : Nat} (h1 : Rw W0 A1 c1 p.opts) (h2 : Rw W0 A2 c2 p.data) (hn1 : p.opts.length = n1) (hn2 : p.data.length = n2) (he : buildE p = 0) (hkk : p.kind = 1 ∨ p.kind = 2) (hc : Canon p) (hl1 : p.opts.length ≤ 100000) (hl2 : p.data.length ≤ 100000) {y : List Int} (hy : buildL p = y) : ∀ W, Below W0.heap.size W0 W →
    Calls Tryz.prog 7 #[.agg #[.int .i64 p.kind, .int .i64 p.life, .int .i64 p.piece, .int .i64 p.frm, .int .i64 p.dst, .int .i64 p.fp, .int .i64 p.tp, .int .i64 p.flags, .int .i64 p.label, .bool p.bare, .int .i64 p.code, .slice A1 n1 c1, .slice A2 n2 c2]] W fun e w' => ∃ (A : Option Addr) (c : Nat), e = .returned (.tuple #[.slice A y.length c, .int .i64 0]) ∧ RB W0.heap.size w' (.slice A y.length c) y ∧ Below W0.heap.size W0 w' := by
  subst hn1 hn2
  intro W h
  refine (build_calls (p := p) (h1.below h).rd h1.le (h2.below h).rd h2.le hc.bo hc.bd he hkk).mono ?_
  rintro e w' ⟨v, rfl, hr, hb⟩
  rw [he, hy] at hr
  rw [he]
  exact told_at h ⟨v, rfl, hr, hb⟩
theorem pk_life (l : List Int) : (pkL l).life = l.getD 1 0 := by
  unfold pkL; repeat' split
  all_goals rfl
theorem pk_kind {l : List Int} (o : Ok l) : (pkL l).kind = l.getD 0 0 := kind0 o.parse
theorem ageR_ok {l : List Int} (o : Ok l) (h : 2 ≤ l.getD 1 0) : ageR l = (ageL (bareB l) l, 0) := by
  unfold ageR
  rw [o.parse]
  dsimp only
  rw [if_neg (by simp), if_neg (by rw [pk_life]; omega), bare_of o]
theorem natR_ok {l : List Int} (o : Ok l) (h3 : l.getD 0 0 ≠ 3) (src : Bool) {addr port : Int} (a0 : 0 ≤ addr) (a1 : addr ≤ 4294967295) (p0 : 0 ≤ port) (p1 : port ≤ 65535) :
    natR l src addr port = (natL (bareB l) l (if src then 4 else 8) (if src then 16 else 18) addr port, 0) := by
  unfold natR
  rw [o.parse]
  dsimp only
  rw [if_neg (by simp), if_neg (by rw [pk_kind o]; exact h3), if_neg (by rw [rgB_true a0 a1, rgB_true p0 p1]; simp), bare_of o]
/-- Bytes with other numbers in their head and in their ports are the packet with these numbers. -/
theorem pkL_congr {l m : List Int} (ol : Ok l) (hl : m.length = l.length) (h3 : l.getD 0 0 ≠ 3) (h0 : m.getD 0 0 = l.getD 0 0) {frm dst fp tp : Int} (h1 : m.getD 1 0 = l.getD 1 0) (h12 : m.getD 12 0 = l.getD 12 0) (hf : numL m 4 4 = frm) (hd : numL m 8 4 = dst) (hfp : numL m 16 2 = fp) (htp : numL m 18 2 = tp) (h20 : m.getD 20 0 = l.getD 20 0) (h21 : m.getD 21 0 = l.getD 21 0)
    (hb : bareB m = bareB l) (hr : ∀ j, 24 ≤ j → m.getD j 0 = l.getD j 0) : pkL m = { pkL l with frm := frm, dst := dst, fp := fp, tp := tp } := by
  have er : restS m = restS l := by unfold restS; rw [h21]
  have n20 : numL m 20 2 = numL l 20 2 := by
    rw [num2_pr, num2_pr]
    unfold pr
    rw [h20, show 20 + 1 = 21 from rfl, h21]
  unfold pkL
  rw [h0, if_neg h3, if_neg h3]
  by_cases h2 : l.getD 0 0 = 2
  · rw [if_pos h2, if_pos h2]
    have e22 : (numL m 22 2 == 0) = (numL l 22 2 == 0) := by
      unfold bareB at hb
      rw [h0, h2] at hb
      rw [num2_pr, num2_pr]
      simpa using hb
    rw [h1, h12, hf, hd, hfp, htp, n20, e22, drop_congr hl (fun j hj => hr j hj)]
  · rw [if_neg h2, if_neg h2]
    have h24 : 24 ≤ restS l := by unfold restS; omega
    have ht : (m.take (restS l)).drop 24 = (l.take (restS l)).drop 24 := by
      refine ext_getD (by simp [hl]) fun j hj => ?_
      simp only [List.length_drop, List.length_take] at hj
      rw [getD_drop, getD_drop, getD_take (by omega), getD_take (by omega)]; exact hr _ (by omega)
    rw [h1, h12, hf, hd, hfp, htp, h20, er, ht, drop_congr hl (fun j hj => hr j (by omega))]
theorem nat_pk {l : List Int} (hb : Bytes l) (o : Ok l) (h3 : l.getD 0 0 ≠ 3) {addr port : Int} (a0 : 0 ≤ addr) (a1 : addr ≤ 4294967295) (p0 : 0 ≤ port) (p1 : port ≤ 65535) :
    pkL (natL (bareB l) l 4 16 addr port) = { pkL l with frm := addr, fp := port } ∧ pkL (natL (bareB l) l 8 18 addr port) = { pkL l with dst := addr, tp := port } := by
  have hfr : (pkL l).frm = numL l 4 4 := by unfold pkL; repeat' split
                                            all_goals rfl
  have hds : (pkL l).dst = numL l 8 4 := by unfold pkL; repeat' split
                                            all_goals rfl
  have hfp : (pkL l).fp = numL l 16 2 := by unfold pkL; rw [if_neg h3]; split <;> rfl
  have htp : (pkL l).tp = numL l 18 2 := by unfold pkL; rw [if_neg h3]; split <;> rfl
  constructor
  · obtain ⟨f1, f2, f3, f4, f5, f6, f7, f8⟩ := nat_facts hb o h3 (a := 4) (p := 16) (by omega) a0 a1 p0 p1
    rw [pkL_congr o f1 h3 (f4 0 (by omega) (by omega) (by omega) (by omega)) (f4 1 (by omega) (by omega) (by omega) (by omega)) (f4 12 (by omega) (by omega) (by omega) (by omega)) f5 (numL_congr (m := l) 8 4 (fun j _ _ => f4 j (by omega) (by omega) (by omega) (by omega))) f6 (numL_congr (m := l) 18 2 (fun j _ _ => f4 j (by omega) (by omega) (by omega) (by omega))) (f4 20 (by omega) (by omega) (by omega) (by omega)) (f4 21 (by omega) (by omega) (by omega) (by omega)) f7 (fun j _ => f4 j (by omega) (by omega) (by omega) (by omega)), ← hds, ← htp]
  · obtain ⟨f1, f2, f3, f4, f5, f6, f7, f8⟩ := nat_facts hb o h3 (a := 8) (p := 18) (by omega) a0 a1 p0 p1
    rw [pkL_congr o f1 h3 (f4 0 (by omega) (by omega) (by omega) (by omega)) (f4 1 (by omega) (by omega) (by omega) (by omega)) (f4 12 (by omega) (by omega) (by omega) (by omega)) (numL_congr (m := l) 4 4 (fun j _ _ => f4 j (by omega) (by omega) (by omega) (by omega))) f5 (numL_congr (m := l) 16 2 (fun j _ _ => f4 j (by omega) (by omega) (by omega) (by omega))) f6 (f4 20 (by omega) (by omega) (by omega) (by omega)) (f4 21 (by omega) (by omega) (by omega) (by omega)) f7 (fun j _ => f4 j (by omega) (by omega) (by omega) (by omega)), ← hfr, ← hfp]
/-- A place changed, and changed back. -/
theorem places {p : Pk} {b : List Int} (hE : buildE p = 0) (hc : Canon p) (hb : buildL p = b) (h3 : p.kind ≠ 3) (src : Bool) {addr port : Int} (a0 : 0 ≤ addr) (a1 : addr ≤ 4294967295) (p0 : 0 ≤ port) (p1 : port ≤ 65535) :
    ∃ c d : List Int, natR b src addr port = (c, 0) ∧ (c.length ≤ 10000 ∧ Bytes c) ∧ parseL c = (if src then { p with frm := addr, fp := port } else { p with dst := addr, tp := port }, 0) ∧ wholeL c = true ∧
      natR c src (if src then p.frm else p.dst) (if src then p.fp else p.tp) = (d, 0) ∧ (d.length ≤ 10000 ∧ Bytes d) ∧ parseL d = (p, 0) ∧ wholeL d = true := by
  obtain ⟨o, hp, hw, hl, hy⟩ := parse_build hE hc
  rw [hb] at o hp hw hl hy
  have k0 : b.getD 0 0 ≠ 3 := by rw [← pk_kind o, hp]; exact h3
  obtain ⟨⟨q0, q1⟩, _, _, ⟨f0, f1⟩, ⟨d0, d1⟩, _, _, cp, _⟩ := built_of hE
  obtain ⟨⟨fp0, fp1⟩, tp0, tp1⟩ := cp h3
  have hle := o.le
  cases src with
  | true =>
    obtain ⟨x1, x2, x3, x4, x5, x6, x7, x8⟩ := nat_facts hy o k0 (a := 4) (p := 16) (by omega) a0 a1 p0 p1
    have y := (nat_pk hy o k0 a0 a1 p0 p1).1
    obtain ⟨c, hcc⟩ : ∃ c, c = natL (bareB b) b 4 16 addr port := ⟨_, rfl⟩
    rw [← hcc] at x1 x2 x3 x4 x7 x8 y
    have k0' : c.getD 0 0 ≠ 3 := by rw [x4 0 (by omega) (by omega) (by omega) (by omega)]; exact k0
    obtain ⟨z1, z2, z3, _, _, _, _, z8⟩ := nat_facts x2 x3 k0' (a := 4) (p := 16) (by omega) f0 f1 fp0 fp1
    have zp := (nat_pk x2 x3 k0' f0 f1 fp0 fp1).1
    refine ⟨c, natL (bareB c) c 4 16 p.frm p.fp, by rw [natR_ok o k0 true a0 a1 p0 p1, hcc]; rfl, ⟨by omega, x2⟩, by rw [x3.parse, y, hp]; rfl, by rw [x8, hw], natR_ok x3 k0' true f0 f1 fp0 fp1, ⟨by omega, z2⟩, ?_, by rw [z8, x8, hw]⟩
    rw [z3.parse, zp, y, hp]
  | false =>
    obtain ⟨x1, x2, x3, x4, x5, x6, x7, x8⟩ := nat_facts hy o k0 (a := 8) (p := 18) (by omega) a0 a1 p0 p1
    have y := (nat_pk hy o k0 a0 a1 p0 p1).2
    obtain ⟨c, hcc⟩ : ∃ c, c = natL (bareB b) b 8 18 addr port := ⟨_, rfl⟩
    rw [← hcc] at x1 x2 x3 x4 x7 x8 y
    have k0' : c.getD 0 0 ≠ 3 := by rw [x4 0 (by omega) (by omega) (by omega) (by omega)]; exact k0
    obtain ⟨z1, z2, z3, _, _, _, _, z8⟩ := nat_facts x2 x3 k0' (a := 8) (p := 18) (by omega) d0 d1 tp0 tp1
    have zp := (nat_pk x2 x3 k0' d0 d1 tp0 tp1).2
    refine ⟨c, natL (bareB c) c 8 18 p.dst p.tp, by rw [natR_ok o k0 false a0 a1 p0 p1, hcc]; rfl, ⟨by omega, x2⟩, by rw [x3.parse, y, hp]; rfl, by rw [x8, hw], natR_ok x3 k0' false d0 d1 tp0 tp1, ⟨by omega, z2⟩, ?_, by rw [z8, x8, hw]⟩
    rw [z3.parse, zp, y, hp]
end Go.Proofs.YtgkmbefamcnifaaGreat.WB
namespace Go.Proofs.YtgkmbefamcnifaaGreat.TB
set_option linter.unusedVariables false
set_option linter.unusedSimpArgs false
open Go.RowKit Go.Proofs.YtgkmbefamcnifaaGreat.Hp Go.Proofs.YtgkmbefamcnifaaGreat.SB Go.Proofs.YtgkmbefamcnifaaGreat.WB Go.Proofs.YtgkmbefamcnifaaGreatW.PrintWords Go.Proofs.YtgkmbefamcnifaaGreatW.PrintLast Go.Proofs.YtgkmbefamcnifaaGreatW.PrintMore
/-- What then does. -/
def thenL (b : List Int) (r : List Int × Int) : List Int := if r.2 = 0 then r.1 else b
theorem thenL_ok (b y : List Int) : thenL b (y, 0) = y := if_pos rfl
theorem thenL_no (b y : List Int) {e : Int} (h : e ≠ 0) : thenL b (y, e) = b := if_neg h
/-- The bytes are whole, of such a packet (but for what is behind the head). -/
structure Kp (b : List Int) (p : Pk) (len : Nat) : Prop where
  o : Ok b
  y : Bytes b
  bb : bareB b = p.bare
  k : b.getD 0 0 = p.kind
  w : wholeL b = true
  l : b.length = len
  life : b.getD 1 0 = p.life
  piece : b.getD 12 0 = p.piece
  frm : numL b 4 4 = p.frm
  dst : numL b 8 4 = p.dst
  fp : numL b 16 2 = p.fp
  tp : numL b 18 2 = p.tp
theorem pkL_n3 {l : List Int} (o : Ok l) (h : l.getD 0 0 ≠ 3) : (pkL l).life = l.getD 1 0 ∧ (pkL l).piece = l.getD 12 0 ∧ (pkL l).frm = numL l 4 4 ∧ (pkL l).dst = numL l 8 4 ∧ (pkL l).fp = numL l 16 2 ∧ (pkL l).tp = numL l 18 2 := by
  unfold pkL
  rw [if_neg h]
  split <;> exact ⟨rfl, rfl, rfl, rfl, rfl, rfl⟩
theorem Kp.pk {b : List Int} {p : Pk} {len : Nat} (h : Kp b p len) (h3 : p.kind ≠ 3) : parseL b = (pkL b, 0) ∧ (pkL b).kind = p.kind ∧ (pkL b).life = p.life ∧ (pkL b).piece = p.piece ∧ (pkL b).frm = p.frm ∧ (pkL b).dst = p.dst ∧ (pkL b).fp = p.fp ∧ (pkL b).tp = p.tp := by
  obtain ⟨a1, a2, a3, a4, a5, a6⟩ := pkL_n3 h.o (by rw [h.k]; exact h3)
  exact ⟨h.o.parse, by rw [pk_kind h.o, h.k], a1.trans h.life, a2.trans h.piece, a3.trans h.frm, a4.trans h.dst, a5.trans h.fp, a6.trans h.tp⟩
theorem kp_build {p : Pk} (hE : buildE p = 0) (hc : Canon p) (h3 : p.kind ≠ 3) : Kp (buildL p) p (nL p) := by
  obtain ⟨o, e, w, l, y⟩ := parse_build hE hc
  have hk : (buildL p).getD 0 0 = p.kind := by rw [← pk_kind o, e]
  obtain ⟨a1, a2, a3, a4, a5, a6⟩ := pkL_n3 o (by rw [hk]; exact h3)
  rw [e] at a1 a2 a3 a4 a5 a6
  exact ⟨o, y, by rw [← bare_of o, e], hk, w, l, a1.symm, a2.symm, a3.symm, a4.symm, a5.symm, a6.symm⟩
theorem kp_age {b : List Int} {p : Pk} {len : Nat} (h : Kp b p len) (h2 : 2 ≤ p.life) : Kp (thenL b (ageR b)) { p with life := p.life - 1 } len := by
  obtain ⟨a1, a2, a3, a4, a5, a6⟩ := age_facts h.y h.o (by rw [h.life]; exact h2)
  rw [ageR_ok h.o (by rw [h.life]; exact h2), thenL_ok]
  have f : ∀ i, i ≠ 1 → i ≠ 14 → i ≠ 15 → (ageL (bareB b) b).getD i 0 = b.getD i 0 := a4
  exact ⟨a3, a2, by rw [bareB_congr (f 0 (by omega) (by omega) (by omega)) (by unfold pr; rw [f 22 (by omega) (by omega) (by omega), f (22 + 1) (by omega) (by omega) (by omega)]), h.bb], (f 0 (by omega) (by omega) (by omega)).trans h.k, a6.trans h.w, a1.trans h.l,
    by rw [a5, h.life], (f 12 (by omega) (by omega) (by omega)).trans h.piece,
    (numL_congr 4 4 (fun j _ _ => f j (by omega) (by omega) (by omega))).trans h.frm, (numL_congr 8 4 (fun j _ _ => f j (by omega) (by omega) (by omega))).trans h.dst,
    (numL_congr 16 2 (fun j _ _ => f j (by omega) (by omega) (by omega))).trans h.fp, (numL_congr 18 2 (fun j _ _ => f j (by omega) (by omega) (by omega))).trans h.tp⟩
theorem kp_dst {b : List Int} {p : Pk} {len : Nat} (h : Kp b p len) (h3 : p.kind ≠ 3) {addr port : Int} (a0 : 0 ≤ addr) (a1 : addr ≤ 4294967295) (p0 : 0 ≤ port) (p1 : port ≤ 65535) : Kp (thenL b (natR b false addr port)) { p with dst := addr, tp := port } len := by
  have k3 : b.getD 0 0 ≠ 3 := by rw [h.k]; exact h3
  obtain ⟨x1, x2, x3, x4, x5, x6, x7, x8⟩ := nat_facts h.y h.o k3 (a := 8) (p := 18) (by omega) a0 a1 p0 p1
  rw [natR_ok h.o k3 false a0 a1 p0 p1, thenL_ok]
  exact ⟨x3, x2, x7.trans h.bb, (x4 0 (by omega) (by omega) (by omega) (by omega)).trans h.k, x8.trans h.w, x1.trans h.l, (x4 1 (by omega) (by omega) (by omega) (by omega)).trans h.life, (x4 12 (by omega) (by omega) (by omega) (by omega)).trans h.piece,
    (numL_congr 4 4 (fun j _ _ => x4 j (by omega) (by omega) (by omega) (by omega))).trans h.frm, x5, (numL_congr 16 2 (fun j _ _ => x4 j (by omega) (by omega) (by omega) (by omega))).trans h.fp, x6⟩
theorem op_at {w : World} {A : Option Addr} {n : Nat} {L : List Op3} (h : kdOp.C w A n L) {i : Nat} {e : Op3} (he : L[i]? = some e) : ∃ ad, A = some ad ∧ ∀ j v, e.cs[j]? = some v → w.cell? ((ad.add (i * 3)).add j) = some v := by
  have hi : i < L.length := (List.getElem?_eq_some_iff.1 he).1
  obtain ⟨ad, hA, hc⟩ := h.2.2 (by have := h.1; omega)
  obtain ⟨c, _, hR, hcell⟩ := hc i e he
  have hR' : c = e.cs := hR
  subst hR'
  exact ⟨ad, hA, fun j v hv => by rw [ad_add]; exact hcell j v hv⟩
theorem op_load {ops : Array Oper} {rest : List Oper} {o : Oper} {a : Act} {Q : Exit → Act → World → Prop} {W : World} {x : Operand} {e : Op3} {ad : Addr} (hgd : o.guard = none) (ho : o.op = .load 106 x) (hx : a.eval x = .pointer (some ad)) (hc : ∀ j v, e.cs[j]? = some v → W.cell? (ad.add j) = some v)
    (h : wpList Tryz.prog ops Q rest (a.put o.dst (.agg #[.int .i64 e.k, .int .i64 e.a, .int .i64 e.n])) W) : wpList Tryz.prog ops Q (o :: rest) a W := by
  refine Kd.event_run hgd (w1 := W) (v := .agg e.cs.toArray) ?_ h
  have hl : (loadCells ad 3).run Tryz.prog W = .ok e.cs.toArray W := run_loadCells_list (P := Tryz.prog) W ad e.cs hc
  obtain ⟨i0, hi, hz⟩ := Option.map_eq_some_iff.1 info114
  simp only [Prod.mk.injEq] at hz
  have hagg : (isAgg 106).run Tryz.prog W = .ok true W := by
    unfold isAgg
    rw [Sem.run_bind, run_underlying Tryz.underlying106 W]
    rfl
  unfold execOp
  simp only [ho, hx, Instr.loadAt, Instr.sureAddr, Sem.run_bind, Sem.run_pure, Result.andThen_ok]
  simp [loadVar, Sem.run_bind, hagg, sizeOf, typeInfo, hi, hz.2.1, hl]
theorem info114s : (Tryz.prog.info? 106).map (·.size) = some 3 := by kernel_rfl
theorem onum_calls {A : Option Addr} {c n : Nat} {l : List Int} {r : Int} {w : World} (hr : Kd.C (Kd.int .u8) w A n l) (hn : l.length = n) (hc : n ≤ c) (h : opts_number.f l = some r) : Calls Tryz.prog 48 #[.slice A n c] w fun e w' => e = .returned (.int .u32 r) ∧ Below w.heap.size w w' := by
  subst hn
  refine (opts_number.calls A c l r w hr hc h).mono ?_
  rintro e w' ⟨rfl, ⟨⟨nd, rfl⟩⟩⟩
  exact ⟨rfl, bd (Below.refl _ w) nd⟩
theorem walkL_len : ∀ (f : Nat) (l : List Int) (i : Nat) (L : List Op3), walkL f l i = some L → i ≤ l.length → L.length + i ≤ l.length
  | 0, l, i, L, h, hi => by
    rw [walkL] at h
    cases h
    simpa using hi
  | f + 1, l, i, L, h, hi => by
    rw [walkL] at h
    split at h
    · cases h
      simpa using hi
    · rename_i h0
      split at h
      · split at h
        · cases h
        · split at h
          · cases h
          · split at h
            · cases h
            · rename_i h1 h2 h3 h4
              obtain ⟨L', hL, rfl⟩ := Option.map_eq_some_iff.1 h
              have := walkL_len f l _ L' hL (by omega)
              rw [List.length_cons]
              omega
      · split at h
        · cases h
          rw [List.length_singleton]
          omega
        · obtain ⟨L', hL, rfl⟩ := Option.map_eq_some_iff.1 h
          have := walkL_len f l _ L' hL (by omega)
          rw [List.length_cons]
          omega
theorem isop_calls (x : Op3) (w : World) : Calls Tryz.prog 47 #[.agg #[.int .i64 x.k, .int .i64 x.a, .int .i64 x.n]] w fun e w' => e = .returned (.bool (opIs x)) ∧ Below w.heap.size w w' := by
  obtain ⟨k, a, n⟩ := x
  obtain ⟨g, hg⟩ : ∃ n, w.heap.size = n := ⟨_, rfl⟩
  have hu114 := Tryz.underlying106
  go_enter Tryz.func47, Tryz.ntmps47
  go_upto_region 1 with fail
  refine wp_w (fun W => W.heap[g]? = some (.cells #[.int .i64 k, .int .i64 a, .int .i64 n] 106 (0, 0)) ∧ Below w.heap.size w W) ?_ ?_
  · exact ⟨by rw [← hg]; exact new_blk w _, below_alloc (Below.refl _ w) _⟩
  intro w1 h1
  have HB1 := am_ h1.2
  obtain ⟨t0, t1, t2⟩ := c3 h1.1
  clear h1
  by_cases hk : k = 8
  · have hd : (k == 8) = true := beq_iff_eq.mpr hk
    by_cases hn : n = 10
    · have hd2 : (n == 10) = true := beq_iff_eq.mpr hn
      have HR := am_ (show opIs ⟨k, a, n⟩ = true by unfold opIs; rw [hd, hd2]; rfl)
      clear hk hn
      go_wp2
      go_ret
      exact ⟨by rw [HR.out]; first | rfl | (rw [hd2]; rfl) | simp_all, HB1.out⟩
    · have hd2 : (n == 10) = false := beq_eq_false_iff_ne.mpr hn
      have HR := am_ (show opIs ⟨k, a, n⟩ = false by unfold opIs; rw [hd, hd2]; rfl)
      clear hk hn
      go_wp2
      go_ret
      exact ⟨by rw [HR.out]; first | rfl | (rw [hd2]; rfl) | simp_all, HB1.out⟩
  · have hd : (k == 8) = false := beq_eq_false_iff_ne.mpr hk
    have HR := am_ (show opIs ⟨k, a, n⟩ = false by unfold opIs; rw [hd]; rfl)
    clear hk
    go_wp2
    go_ret
    exact ⟨by rw [HR.out]; first | rfl | simp_all, HB1.out⟩
theorem index_calls {A : Option Addr} {n c : Nat} {L : List Op3} {w : World} (hr : kdOp.C w A n L) (hn : L.length = n) (hc : n ≤ c) (hs : n ≤ 1000) :
    Calls Tryz.prog 91 #[.slice A n c, .func (.func 47) #[] #[]] w fun e w' => e = .returned (.int .i64 (opIdx L L.length 0)) ∧ Below w.heap.size w w' := by
  subst hn
  obtain ⟨R, hR⟩ : ∃ R, opIdx L L.length 0 = R := ⟨_, rfl⟩
  rw [hR]
  have HR := am_ hr
  have HRR := am_ hR
  have HS := am_ hs
  have hu114 := Tryz.underlying106
  have hu110 := Tryz.underlying102
  clear hr hc hs hR
  go_enter Tryz.func91, Tryz.ntmps91
  go_wp2
  go_loopg [8] L.length (fun kq v8 w' => ∃ (i : Nat), v8 = .int .i64 (i : Int) ∧ Aside (kq + i = L.length) ∧ Aside0 (opIdx L kq i = R) ∧ Aside0 (Below w.heap.size w w'))
  case atStart => exact ⟨0, rfl, (by show _ = _; omega), HRR, am_ (Below.refl _ w)⟩
  case round =>
    obtain ⟨i, rfl, hk, HA, HB⟩ := hrel
    have HKQ := am_ hk.out
    clear hk
    rename World => wr1
    by_cases hlt : i < L.length
    · have hd : decide (i < L.length) = true := decide_eq_true hlt
      have hi0 : (0 : Int) ≤ (i : Int) := by omega
      have hi1 : (i : Int) < (L.length : Int) := by omega
      have HLI := am_ hlt
      have HGK := am_ (show 0 < gk from by have := HKQ.out; omega)
      obtain ⟨e, he⟩ : ∃ e, L[i]? = some e := ⟨_, List.getElem?_eq_getElem hlt⟩
      have hge : L.getD i Op3.z = e := by rw [List.getD_eq_getElem?_getD, he]; rfl
      obtain ⟨ad, ead, hcell⟩ := op_at (Kd.C_below HR.out HB.out) he
      subst ead
      have HCELL := am_ hcell
      have HN := am_ (show (if opIs e = true then (i : Int) else opIdx L (gk - 1) (i + 1)) = R from by
        have h1 := HA.out
        obtain ⟨m, hm⟩ : ∃ m, gk = m + 1 := ⟨gk - 1, by have := HGK.out; omega⟩
        rw [hm] at h1 ⊢
        rw [opIdx, hge] at h1
        exact h1)
      clear hlt hcell he hge
      cases hop : opIs e with
      | true =>
        have HOP := am_ hop
        have HIS := am_ (fun W => hop ▸ isop_calls e W)
        clear hop
        go_wp2_with (first
          | ((with_reducible refine gate_dst (N := 15) rfl ?_); (refine op_load (e := e) rfl rfl rfl HCELL.out ?_))
          | (go_at_call 47; (with_reducible refine (HIS.out _).mono ?_); rintro e1 x1 ⟨rfl, hx⟩; have HX1 := am_ hx; clear hx))
        go_ret
        have h2 := HN.out
        rw [HOP.out, if_pos rfl] at h2
        exact ⟨by rw [← h2]; rfl, below_step HB.out HX1.out⟩
      | false =>
        have HOP := am_ hop
        have HIS := am_ (fun W => hop ▸ isop_calls e W)
        clear hop
        go_wp2_with (first
          | ((with_reducible refine gate_dst (N := 15) rfl ?_); (refine op_load (e := e) rfl rfl rfl HCELL.out ?_))
          | (go_at_call 47; (with_reducible refine (HIS.out _).mono ?_); rintro e1 x1 ⟨rfl, hx⟩; have HX1 := am_ hx; clear hx))
        go_roundg (gk - 1)
        case measure => have := HGK.out; omega
        case rel => exact ⟨i + 1, (by have := HLI.out; have := HS.out; show Value.int _ _ = Value.int _ _; first | rfl | (rw [wid (by omega) (by omega)]; rfl)), (by show _ = _; have := HKQ.out; have := HGK.out; omega), am_ (by have h2 := HN.out; rw [HOP.out, if_neg (by simp)] at h2; exact h2), am_ (below_step HB.out HX1.out)⟩
    · have hd : decide (i < L.length) = false := decide_eq_false hlt
      have HE := am_ (show (-1 : Int) = R from by
        have h1 := HA.out
        rw [show gk = 0 from by have := HKQ.out; omega] at h1
        exact h1)
      clear hlt
      go_wp2
      go_ret
      exact ⟨by rw [← HE.out]; rfl, HB.out⟩
theorem ofind_calls {A : Option Addr} {n c : Nat} {L : List Op3} {w : World} (hr : kdOp.C w A n L) (hn : L.length = n) (hc : n ≤ c) (hs : n ≤ 1000) {i : Int} (hi : opIdx L L.length 0 = i) {x : Op3} (hx : (if i < 0 then Op3.z else L.getD i.toNat Op3.z) = x) :
    Calls Tryz.prog 46 #[.slice A n c, .func (.func 47) #[] #[]] w fun e w' => e = .returned (.tuple #[.agg #[.int .i64 x.k, .int .i64 x.a, .int .i64 x.n], .bool (decide (0 ≤ i))]) ∧ Below w.heap.size w w' := by
  subst hn
  have HR := am_ hr
  have HIX := am_ (fun W (hW : Below w.heap.size w W) => hi ▸ index_calls (w := W) (Kd.C_below hr hW) rfl hc hs)
  have hok := opIdx_ok L L.length 0 (by omega)
  rw [hi] at hok
  obtain ⟨g, hg⟩ : ∃ n, w.heap.size = n := ⟨_, rfl⟩
  have hu114 := Tryz.underlying106
  have hu110 := Tryz.underlying102
  clear hr hc hs hi
  go_enter Tryz.func46, Tryz.ntmps46
  go_upto_region 1 with fail
  refine wp_w (fun W => W.heap[g]? = some (.cells #[.int .i64 0, .int .i64 0, .int .i64 0] 106 (0, 0)) ∧ Below w.heap.size w W) ?_ ?_
  · exact ⟨by rw [← hg]; exact new_blk w _, below_alloc (Below.refl _ w) _⟩
  intro w1 h1
  have HZ1 := am_ h1.1
  have HB1 := am_ h1.2
  clear h1
  go_upto_region 2 with (first
    | (go_at_call 91; (with_reducible refine (HIX.out _ HB1.out).mono ?_); rintro e1 x1 ⟨rfl, hx1⟩; have HX1 := am_ hx1; clear hx1))
  refine wp_w (fun W => W.heap[g]? = some (.cells #[.int .i64 0, .int .i64 0, .int .i64 0] 106 (0, 0)) ∧ Below w.heap.size w W) ?_ ?_
  · exact ⟨bk_ HZ1.out HX1.out, below_step HB1.out HX1.out⟩
  intro w2 h2
  have HZ2 := am_ h2.1
  have HB2 := am_ h2.2
  obtain ⟨t0, t1, t2⟩ := c3 h2.1
  have u0 := fr_ h2.1 0
  have u1 := fr_ h2.1 1
  have u2 := fr_ h2.1 2
  clear h2
  rcases hok with rfl | ⟨j, rfl, hj, hs⟩
  · rw [if_pos (by decide)] at hx
    subst hx
    have hle : w.heap.size ≤ g := by omega
    have HLE := am_ hle
    clear hle
    obtain ⟨g7, hg7⟩ : ∃ n, w2.heap.size = n := ⟨_, rfl⟩
    go_upto_region 5 with fail
    refine wp_w (fun W => W.heap[g]? = some (.cells #[.int .i64 0, .int .i64 0, .int .i64 0] 106 (0, 0)) ∧ W.heap[g7]? = some (.cells #[.int .i64 0, .int .i64 0, .int .i64 0] 106 (0, 0)) ∧ Below w.heap.size w W) ?_ ?_
    · have hb := below_alloc (Below.refl w2.heap.size w2) (.cells #[.int .i64 0, .int .i64 0, .int .i64 0] 106)
      exact ⟨bk_ HZ2.out hb, by rw [← hg7]; exact new_blk w2 _, below_step HB2.out hb⟩
    intro w3 h3
    have HZ3 := am_ h3.1
    have HB3 := am_ h3.2.2
    obtain ⟨t0, t1, t2⟩ := c3 h3.1
    have u0 := fr_ h3.1 0
    have u1 := fr_ h3.1 1
    have u2 := fr_ h3.1 2
    obtain ⟨s0, s1, s2⟩ := c3 h3.2.1
    clear h3
    go_wp2
    have hc : Chg g w3 (((w3.setCell ⟨g, 0, none⟩ (.int .i64 0)).setCell ⟨g, 1, none⟩ (.int .i64 0)).setCell ⟨g, 2, none⟩ (.int .i64 0)) := (((Chg.refl g w3).set _ _).set _ _).set _ _
    exact bodyPost_ret (results_ct_row rfl _ _ g 106 #[.int .i64 0, .int .i64 0, .int .i64 0] (0, 0) _ rfl (heap_setCell_same _ g 2 _ 106 (.int .i64 0) (heap_setCell_same _ g 1 _ 106 (.int .i64 0) (heap_setCell_same _ g 0 _ 106 (.int .i64 0) HZ3.out))) Tryz.underlying106 rfl info114s) rfl ⟨rfl, Chg.step HB3.out hc HLE.out⟩
  · rw [if_neg (by omega), Int.toNat_natCast] at hx
    have hge : L[j]? = some x := by rw [← hx, List.getD_eq_getElem?_getD, List.getElem?_eq_getElem hj]; rfl
    obtain ⟨ad, ead, hcell⟩ := op_at (Kd.C_below HR.out HB2.out) hge
    subst ead
    have HCELL := am_ hcell
    have hi0 : (0 : Int) ≤ (j : Int) := by omega
    have hi1 : (j : Int) < (L.length : Int) := by omega
    have hd : decide ((0 : Int) ≤ (j : Int)) = true := decide_eq_true hi0
    have hle : w.heap.size ≤ g := by omega
    have HLE := am_ hle
    clear hle hcell hge hx hs
    go_wp2_with (first
      | ((with_reducible refine gate_dst (N := 16) rfl ?_); (refine op_load (e := x) rfl rfl rfl HCELL.out ?_)))
    have hc : Chg g w2 (((w2.setCell ⟨g, 0, none⟩ (.int .i64 x.k)).setCell ⟨g, 1, none⟩ (.int .i64 x.a)).setCell ⟨g, 2, none⟩ (.int .i64 x.n)) := (((Chg.refl g w2).set _ _).set _ _).set _ _
    exact bodyPost_ret (results_ct_row rfl _ _ g 106 #[.int .i64 x.k, .int .i64 x.a, .int .i64 x.n] (0, 0) _ rfl (heap_setCell_same _ g 2 _ 106 (.int .i64 x.n) (heap_setCell_same _ g 1 _ 106 (.int .i64 x.a) (heap_setCell_same _ g 0 _ 106 (.int .i64 x.k) HZ2.out))) Tryz.underlying106 rfl info114s) rfl ⟨by rw [hd]; rfl, Chg.step HB2.out hc HLE.out⟩
theorem stamp_calls {A : Option Addr} {c n : Nat} {l : List Int} {w : World} (hr : Kd.C (Kd.int .u8) w A n l) (hn : l.length = n) (hc : n ≤ c) (hl : l.length ≤ 1000) (hb : Bytes l) :
    Calls Tryz.prog 11 #[.slice A n c] w fun e w' => e = .returned (.tuple #[.int .i64 (stampL l).1, .int .u32 (stampL l).2.1, .int .u32 (stampL l).2.2.1, .bool (stampL l).2.2.2]) ∧ Below w.heap.size w w' := by
  subst hn
  have HWK := am_ (walk_calls hr rfl hc hl hb)
  have HRD := am_ (fun W (hW : Below w.heap.size w W) => Kd.C_below hr hW)
  have HC := am_ hc
  have HLL := am_ hl
  have hu114 := Tryz.underlying106
  clear hr hc hl hb
  cases hwk : walkL (l.length + 1) l 0 with
  | none =>
    have HS := am_ (show stampL l = (0, 0, 0, false) by unfold stampL; rw [hwk])
    rw [hwk] at HWK
    clear hwk
    go_enter Tryz.func11, Tryz.ntmps11
    go_wp2_with (first
      | (go_at_call 45; ((with_reducible refine HWK.out.mono ?_); rintro e1 x1 ⟨rfl, hx⟩; have HX1 := am_ hx; clear hx)))
    refine bodyPost_ret (results_list (rs := [.tmp 2, .tmp 3, .tmp 4, .tmp 5]) rfl (by simp) (.tmp (.tmp (.tmp (.tmp .nil))))) rfl ?_
    exact ⟨by rw [HS.out]; rfl, HX1.out⟩
  | some L =>
    have HLN := am_ (show L.length ≤ 1000 by have := walkL_len _ _ _ _ hwk (Nat.zero_le _); have := HLL.out; omega)
    rcases opIdx_ok L L.length 0 (by omega) with hi | ⟨j, hi, hj, hs⟩
    · have HS := am_ (show stampL l = (0, 0, 0, false) by unfold stampL; rw [hwk]; simp only; rw [hi, if_pos (by omega)])
      have HI := am_ hi
      rw [hwk] at HWK
      clear hwk hi
      obtain ⟨g, hg⟩ : ∃ n, n = 0 := ⟨0, rfl⟩
      go_enter Tryz.func11, Tryz.ntmps11
      go_wp2_with (first
        | (go_at_call 45; ((with_reducible refine HWK.out.mono ?_); rintro e1 x1 ⟨A9, rfl, hC9, hx⟩; have HX1 := am_ hx; have HF := am_ (ofind_calls (w := x1) hC9 rfl (Nat.le_refl _) HLN.out HI.out rfl); clear hx hC9))
        | (go_at_call 46; ((with_reducible refine HF.out.mono ?_); rintro e2 x2 ⟨rfl, hx⟩; have HX2 := am_ (below_step HX1.out hx); clear hx)))
      refine bodyPost_ret (results_list (rs := [.tmp 2, .tmp 3, .tmp 4, .tmp 5]) rfl (by simp) (.tmp (.tmp (.tmp (.tmp .nil))))) rfl ?_
      exact ⟨by rw [HS.out]; rfl, below_alloc HX2.out _⟩
    · obtain ⟨a0, ha0, hal⟩ := stamp_at hwk hj hs
      have HS := am_ (show stampL l = (((a0 + 2 : Nat) : Int), numV l (a0 + 2), numV l (a0 + 2 + 4), true) by unfold stampL; rw [hwk]; simp only; rw [hi, if_neg (by omega), Int.toNat_natCast, ha0]; rfl)
      obtain ⟨a, ha⟩ : ∃ z, a0 + 2 = z := ⟨_, rfl⟩
      rw [ha] at HS
      have hal8 : a + 8 ≤ l.length := by omega
      obtain ⟨xo, hxo⟩ : ∃ z, L.getD j Op3.z = z := ⟨_, rfl⟩
      rw [hxo] at ha0
      have hxa : wrap64 (xo.a + 2) = (a : Int) := by rw [ha0, wid (by omega) (by have := HLL.out; omega)]; omega
      have hxa4 : wrap64 ((a : Int) + 4) = (a : Int) + 4 := wid (by omega) (by have := HLL.out; omega)
      have HI := am_ hi
      have HJ := am_ (show (if (j : Int) < 0 then Op3.z else L.getD (j : Int).toNat Op3.z) = xo by rw [if_neg (by omega), Int.toNat_natCast, hxo])
      have hd0 : decide ((0 : Int) ≤ (j : Int)) = true := decide_eq_true (by omega)
      obtain ⟨A1, hcut1, hC1, hc1⟩ := cut_from (A := A) (c := c) (l := l) a (l.length - a) (iz := (a : Int)) rfl rfl (by omega) rfl HC.out
      obtain ⟨A2, hcut2, hC2, hc2⟩ := cut_from (A := A) (c := c) (l := l) (a + 4) (l.length - (a + 4)) (iz := (a : Int) + 4) (by omega) rfl (by omega) rfl HC.out
      have HN1 := am_ (fun W (hW : Below w.heap.size w W) => onum_calls (w := W) (hC1 W (HRD.out W hW)) (by rw [List.length_drop]) hc1 (numV_some (by omega)))
      have HN2 := am_ (fun W (hW : Below w.heap.size w W) => onum_calls (w := W) (hC2 W (HRD.out W hW)) (by rw [List.length_drop]) hc2 (numV_some (by omega)))
      rw [hwk] at HWK
      clear hwk hi hj hs ha0 hal ha hal8 hxo hC1 hC2 hc1 hc2
      go_enter Tryz.func11, Tryz.ntmps11
      go_upto_region 8 with (first
        | (go_at_call 45; ((with_reducible refine HWK.out.mono ?_); rintro e1 x1 ⟨A9, rfl, hC9, hx⟩; have HX1 := am_ hx; have HF := am_ (ofind_calls (w := x1) hC9 rfl (Nat.le_refl _) HLN.out HI.out HJ.out); clear hx hC9))
        | (go_at_call 46; ((with_reducible refine HF.out.mono ?_); rintro e2 x2 ⟨rfl, hx⟩; have HX2 := am_ (below_step HX1.out hx); clear hx)))
      refine wp_w (fun W => Below w.heap.size w W) ?_ ?_
      · exact below_alloc HX2.out _
      intro w5 h5
      have HQc := am_ h5.drew
      clear h5
      refine start_ (n := 14) (S := fun w' => True) (ds := []) #[fF,fF,fF,fF,fF,fF,fF,fF,fF,fF,fF,fF,fF,fF] (by kernel_rfl) rfl rfl (trivial) (fun hHeld => ?_)
      refine p_ 0 26 ?_
      refine p_ 1 27 ?_
      refine p_ 2 28 ?_
      refine p_ 3 29 ?_
      refine p_ 5 31 ?_
      refine p_ 6 32 ?_
      refine p_ 7 33 ?_
      refine p_ 8 34 ?_
      refine o_ 4 (some 30) (fun K hK => ?_)
      refine g_ Tryz.func48 #[.slice A1 (l.length - a) (c - a)] ?_
      with_reducible refine (HN1.out _ HQc.out).mono ?_
      rintro e1 w31 ⟨rfl, hx⟩
      refine ⟨_, rfl, ?_⟩
      replace HQc := am_ (below_step HQc.out hx)
      clear hx
      refine hK.out _ _ (trivial) (fun hHeld => ?_)
      clear hK K
      refine n_ 30 ?_
      refine o_ 9 (some 35) (fun K hK => ?_)
      refine g_ Tryz.func48 #[.slice A2 (l.length - (a + 4)) (c - (a + 4))] ?_
      with_reducible refine (HN2.out _ HQc.out).mono ?_
      rintro e2 w32 ⟨rfl, hx⟩
      refine ⟨_, rfl, ?_⟩
      replace HQc := am_ (below_step HQc.out hx)
      clear hx
      refine hK.out _ _ (trivial) (fun hHeld => ?_)
      clear hK K
      refine n_ 35 ?_
      refine p_ 10 2 ?_
      refine p_ 11 3 ?_
      refine p_ 12 4 ?_
      refine p_ 13 5 ?_
      refine done_ (by kernel_rfl) ?_
      go_wp2
      refine bodyPost_ret (results_list (rs := [.tmp 2, .tmp 3, .tmp 4, .tmp 5]) rfl (by simp) (.tmp (.tmp (.tmp (.tmp .nil))))) rfl ?_
      exact ⟨by rw [HS.out]; rfl, HQc.out⟩
theorem then_calls {a0 a1 a2 a3 a4 a5 a6 a7 a8 a9 a10 a11 a12 a13 a14 : Value} {k : Nat} (A : Option Addr) (n c : Nat) (e : Int) {w : World} (hk : w.heap[k]? = some (.cells #[a0, a1, a2, a3, a4, a5, a6, a7, a8, a9, a10, a11, a12, a13, a14] 96 (0, 0))) :
    Calls Tryz.prog 39 #[.pointer (some ⟨k, 0, none⟩), .slice A n c, .int .i64 e] w fun e' w' => e' = .returned (.tuple #[]) ∧ w'.heap[k]? = some (.cells #[a0, a1, a2, a3, a4, a5, a6, a7, a8, a9, a10, a11, a12, a13, if e = 0 then .slice A n c else a14] 96 (0, 0)) ∧ Chg k w w' := by
  have HK := am_ hk
  obtain ⟨k0, k1, k2, k3, k4, k5, k6, k7, k8, k9, k10, k11, k12, k13, k14⟩ := c15 hk
  have u14 := fr_ hk 14
  clear hk
  by_cases he : e = 0
  · have hb : (e == 0) = true := beq_iff_eq.mpr he
    rw [if_pos he]
    clear he
    go_enter Tryz.func39, Tryz.ntmps39
    go_wp2
    go_end0
    exact ⟨rfl, heap_setCell_same w k 14 _ 96 _ HK.out, (Chg.refl k w).set _ _⟩
  · have hb : (e == 0) = false := beq_eq_false_iff_ne.mpr he
    rw [if_neg he]
    clear he
    go_enter Tryz.func39, Tryz.ntmps39
    go_wp2
    go_end0
    exact ⟨rfl, HK.out, Chg.refl k w⟩
/-- All but the blocks k and b is as it was; new blocks may be there. -/
structure Frm (k b : Nat) (w w' : World) : Prop where
  os : w'.os = w.os
  tape : w'.tape = w.tape
  output : w'.output = w.output
  size : w.heap.size ≤ w'.heap.size
  block : ∀ j, j < w.heap.size → j ≠ k → j ≠ b → w'.heap[j]? = w.heap[j]?
theorem Frm.refl (k b : Nat) (w : World) : Frm k b w w := ⟨rfl, rfl, rfl, Nat.le_refl _, fun _ _ _ _ => rfl⟩
theorem Frm.trans {k b : Nat} {w w1 w2 : World} (h : Frm k b w w1) (g : Frm k b w1 w2) : Frm k b w w2 :=
  ⟨g.os.trans h.os, g.tape.trans h.tape, g.output.trans h.output, Nat.le_trans h.size g.size, fun j hj h1 h2 => (g.block j (Nat.lt_of_lt_of_le hj h.size) h1 h2).trans (h.block j hj h1 h2)⟩
theorem Frm.of_below {k b : Nat} {w w' : World} (h : Below w.heap.size w w') : Frm k b w w' := ⟨h.os, h.tape, h.output, h.size, fun j hj _ _ => h.block j hj⟩
theorem Frm.of_k {k b : Nat} {w w' : World} (h : Chg k w w') : Frm k b w w' := ⟨h.os, h.tape, h.output, Nat.le_of_eq h.size.symm, fun j _ h1 _ => h.block j h1⟩
theorem Frm.of_b {k b : Nat} {w w' : World} (h : Chg b w w') : Frm k b w w' := ⟨h.os, h.tape, h.output, Nat.le_of_eq h.size.symm, fun j _ _ h2 => h.block j h2⟩
theorem Frm.blk {k b j : Nat} {w w' : World} {o : Obj} (h : Frm k b w w') (hj : w.heap[j]? = some o) (h1 : j ≠ k) (h2 : j ≠ b) : w'.heap[j]? = some o := (h.block j (blk_lt hj) h1 h2).trans hj
/-- A row of bytes that is neither k nor b. -/
def OwnF (k b : Nat) (w : World) (v : Value) (l : List Int) : Prop := Kd.R (Kd.int .u8) 5 w 0 (fun j => j ≠ k ∧ j ≠ b) v l
theorem OwnF.frm {k b : Nat} {w w' : World} {v : Value} {l : List Int} (h : OwnF k b w v l) (f : Frm k b w w') : OwnF k b w' v l := Kd.R_step h fun j hj hl => f.block j hl hj.1 hj.2
theorem OwnF.of {k b B : Nat} {w : World} {v : Value} {l : List Int} (h : RB B w v l) (hk : k < B) (hb : b < B) : OwnF k b w v l :=
  Kd.R_lower (Kd.R_mono (Kd.R_bound h) (fun j hj => ⟨by have := hj.2.1; omega, by have := hj.2.1; omega⟩)) (Nat.zero_le _)
theorem OwnF.of2 {k b B : Nat} {w : World} {v : Value} {l : List Int} (h : RB B w v l) (hk : w.heap.size ≤ k) (hb : b < B) : OwnF k b w v l :=
  Kd.R_lower (Kd.R_mono (Kd.R_bound h) (fun j hj => ⟨by have := hj.2.2.1; omega, by have := hj.2.1; omega⟩)) (Nat.zero_le _)
theorem OwnF.rw {k b : Nat} {w : World} {A : Option Addr} {c n : Nat} {l : List Int} (h : OwnF k b w (.slice A n c) l) : Rw w A c l := rw_of (Kd.R_mono h fun _ _ => trivial)
def pkA (p : Pk) (A1 : Option Addr) (c1 : Nat) (A2 : Option Addr) (c2 b : Nat) (v : Value) : Array Value :=
  #[.int .i64 p.kind, .int .i64 p.life, .int .i64 p.piece, .int .i64 p.frm, .int .i64 p.dst, .int .i64 p.fp, .int .i64 p.tp, .int .i64 p.flags, .int .i64 p.label, .bool p.bare, .int .i64 p.code, .slice A1 p.opts.length c1, .slice A2 p.data.length c2, .pointer (some ⟨b, 0, none⟩), v]
/-- A packet at k on its way through the plane at b, the pool's copy at gh, the answer's place at g. -/
structure OutS (w W : World) (k b g gh : Nat) (p : Pk) (A1 : Option Addr) (c1 : Nat) (A2 : Option Addr) (c2 : Nat) (x : Po) (nl : List (Int × Bool)) (wv v : Value) (l : List Int) : Prop where
  hk : W.heap[k]? = some (.cells (pkA p A1 c1 A2 c2 b v) 96 (0, 0))
  hp : PlaneAt W b x true (nearV nl) wv
  hg : W.heap[g]? = some (.cells #[.int .i64 0, .int .i64 0, .bool false, .slice none 0 0] 46 (0, 0))
  hh : PoolAt W gh x
  ro : OwnF k b W (.slice A1 p.opts.length c1) p.opts
  rl : OwnF k b W v l
  fr : Frm k b w W
  ne : k ≠ b ∧ k < w.heap.size ∧ b < w.heap.size ∧ w.heap.size ≤ g ∧ g < gh
section
variable {w W W' : World} {k b g gh : Nat} {p : Pk} {A1 : Option Addr} {c1 : Nat} {A2 : Option Addr} {c2 : Nat} {x : Po} {nl : List (Int × Bool)} {wv v : Value} {l : List Int}
theorem OutS.ltk (h : OutS w W k b g gh p A1 c1 A2 c2 x nl wv v l) : k < W.heap.size := blk_lt h.hk
theorem OutS.ltb (h : OutS w W k b g gh p A1 c1 A2 c2 x nl wv v l) : b < W.heap.size := blk_lt h.hp.2.2
theorem OutS.below (h : OutS w W k b g gh p A1 c1 A2 c2 x nl wv v l) (hb : Below W.heap.size W W') : OutS w W' k b g gh p A1 c1 A2 c2 x nl wv v l :=
  ⟨bk_ h.hk hb, h.hp.below hb, bk_ h.hg hb, h.hh.below hb, h.ro.frm (Frm.of_below hb), h.rl.frm (Frm.of_below hb), h.fr.trans (Frm.of_below hb), h.ne⟩
theorem OutS.then_ (h : OutS w W k b g gh p A1 c1 A2 c2 x nl wv v l) {Ay : Option Addr} {cy : Nat} {y : List Int} {e : Int} (hy : OwnF k b W (.slice Ay y.length cy) y) {c : Array Value} (hk : W'.heap[k]? = some (.cells c 96 (0, 0))) (hcc : c = pkA p A1 c1 A2 c2 b (if e = 0 then .slice Ay y.length cy else v)) (hc : Chg k W W') :
    ∃ v', OutS w W' k b g gh p A1 c1 A2 c2 x nl wv v' (thenL l (y, e)) := by
  subst hcc
  have hne := h.ne
  have hp : PlaneAt W' b x true (nearV nl) wv := ⟨h.hp.1, h.hp.2.1, (hc.block _ (by omega)).trans h.hp.2.2⟩
  have hg := (hc.block g (by omega)).trans h.hg
  have hh : PoolAt W' gh x := h.hh.chg hc (by omega)
  by_cases he : e = 0
  · subst he
    rw [if_pos rfl] at hk
    exact ⟨_, hk, hp, hg, hh, h.ro.frm (Frm.of_k hc), by rw [thenL_ok]; exact hy.frm (Frm.of_k hc), h.fr.trans (Frm.of_k hc), h.ne⟩
  · rw [if_neg he] at hk
    exact ⟨_, hk, hp, hg, hh, h.ro.frm (Frm.of_k hc), by rw [thenL_no _ _ he]; exact h.rl.frm (Frm.of_k hc), h.fr.trans (Frm.of_k hc), h.ne⟩
theorem OutS.near (h : OutS w W k b g gh p A1 c1 A2 c2 x nl wv v l) {nl' : List (Int × Bool)} (hp : PlaneAt W' b x true (nearV nl') wv) (hc : Chg b W W') : OutS w W' k b g gh p A1 c1 A2 c2 x nl' wv v l := by
  have hne := h.ne
  exact ⟨(hc.block k (by omega)).trans h.hk, hp, (hc.block g (by omega)).trans h.hg, h.hh.chg hc (by omega), h.ro.frm (Frm.of_b hc), h.rl.frm (Frm.of_b hc), h.fr.trans (Frm.of_b hc), h.ne⟩
theorem OwnF.setg {cs : Array Value} {g : Nat} (h : OwnF k b w v l) (hg : w.heap[g]? = some (.cells cs 46 (0, 0))) (j : Nat) (u : Value) : OwnF k b (w.setCell ⟨g, j, none⟩ u) v l :=
  Kd.R_set h hg (fun q hq => by simp [Kd.int, Kd.scalar] at hq; omega) j u
theorem OutS.fin {A : Option Addr} {c : Nat} (h : OutS w W k b g gh p A1 c1 A2 c2 x nl wv (.slice A l.length c) l) (v0 v1 v2 v3 : Value) :
    ((((W.setCell ⟨g, 0, none⟩ v0).setCell ⟨g, 1, none⟩ v1).setCell ⟨g, 2, none⟩ v2).setCell ⟨g, 3, none⟩ v3).heap[g]? = some (.cells #[v0, v1, v2, v3] 46 (0, 0)) ∧
      OwnF k b ((((W.setCell ⟨g, 0, none⟩ v0).setCell ⟨g, 1, none⟩ v1).setCell ⟨g, 2, none⟩ v2).setCell ⟨g, 3, none⟩ v3) (.slice A l.length c) l ∧ PlaneAt ((((W.setCell ⟨g, 0, none⟩ v0).setCell ⟨g, 1, none⟩ v1).setCell ⟨g, 2, none⟩ v2).setCell ⟨g, 3, none⟩ v3) b x true (nearV nl) wv ∧
      Frm k b w ((((W.setCell ⟨g, 0, none⟩ v0).setCell ⟨g, 1, none⟩ v1).setCell ⟨g, 2, none⟩ v2).setCell ⟨g, 3, none⟩ v3) := by
  have e0 := heap_setCell_same W g 0 _ 46 v0 h.hg
  have e1 := heap_setCell_same _ g 1 _ 46 v1 e0
  have e2 := heap_setCell_same _ g 2 _ 46 v2 e1
  have e3 := heap_setCell_same _ g 3 _ 46 v3 e2
  have hc : Chg g W ((((W.setCell ⟨g, 0, none⟩ v0).setCell ⟨g, 1, none⟩ v1).setCell ⟨g, 2, none⟩ v2).setCell ⟨g, 3, none⟩ v3) := ((((Chg.refl g W).set _ _).set _ _).set _ _).set _ _
  have hne := h.ne
  refine ⟨e3, (((h.rl.setg h.hg 0 v0).setg e0 1 v1).setg e1 2 v2).setg e2 3 v3, ⟨h.hp.1, h.hp.2.1, (hc.block b (by omega)).trans h.hp.2.2⟩, ⟨hc.os.trans h.fr.os, hc.tape.trans h.fr.tape, hc.output.trans h.fr.output, ?_, fun j hj h1 h2 => (hc.block j (by omega)).trans (h.fr.block j hj h1 h2)⟩⟩
  rw [hc.size]
  exact h.fr.size
theorem OutS.slice (h : OutS w W k b g gh p A1 c1 A2 c2 x nl wv v l) : ∃ A c, v = .slice A l.length c := Kd.R_slice h.rl
end
def putC (val c : Int) : Int := (cookie_Put.f val c).getD 0
theorem put_calls (val c : Int) (w : World) : Calls Tryz.prog 88 #[.int .u32 val, .int .i64 c] w fun e w' => e = .returned (.int .u32 (putC val c)) ∧ Below w.heap.size w w' := by
  refine (cookie_Put.calls val c (putC val c) w rfl).mono ?_
  rintro e w' ⟨rfl, ⟨⟨nd, rfl⟩⟩⟩
  exact ⟨rfl, bd (Below.refl _ w) nd⟩
def getC (v : Int) : Int := wrap64 (Go.bits .and .u32 v 1048575)
theorem get_calls (v : Int) (w : World) : Calls Tryz.prog 12 #[.int .u32 v] w fun e w' => e = .returned (.tuple #[.int .i64 (wrap64 (v / 1048576)), .int .i64 (getC v)]) ∧ Below w.heap.size w w' := by
  refine (cookie_Get.calls v _ _ w rfl).mono ?_
  rintro e w' ⟨rfl, ⟨⟨nd, rfl⟩⟩⟩
  exact ⟨rfl, bd (Below.refl _ w) nd⟩
theorem rd_calls (x : Po) (p : Pk) (f : Fl) (c : Int) {R : Int × Bool} (h : readC ⟨x.ep, x.k0, x.k1, x.k2⟩ p.kind f c = R) (W : World) :
    Calls Tryz.prog 13 #[.agg #[.int .i64 x.ep, .int .u64 x.k0.a, .int .u64 x.k0.b, .int .u64 x.k1.a, .int .u64 x.k1.b, .int .u64 x.k2.a, .int .u64 x.k2.b], .int .i64 p.kind, .agg #[.int .i64 f.ad, .int .i64 f.po, .int .i64 f.tad, .int .i64 f.tpo], .int .i64 c] W fun e w' => e = .returned (.tuple #[.int .i64 R.1, .bool R.2]) ∧ Below W.heap.size W w' := by
  subst h
  exact cread_calls ⟨x.ep, x.k0, x.k1, x.k2⟩ p.kind f c W
def carriedC (x : Po) (p : Pk) (f : Fl) : Int × Bool :=
  if p.kind = 2 then (if p.label = 0 then (0, false) else readC ⟨x.ep, x.k0, x.k1, x.k2⟩ p.kind f p.label)
  else if (stampL p.opts).2.2.2 = true ∧ p.flags ≠ 1 then readC ⟨x.ep, x.k0, x.k1, x.k2⟩ p.kind f (getC (stampL p.opts).2.2.1) else (0, false)
theorem carried_calls {p : Pk} {A1 A2 : Option Addr} {c1 c2 k b : Nat} {x : Po} {near : List Value} {wv v : Value} (f : Fl) {w : World} (hk : w.heap[k]? = some (.cells (pkA p A1 c1 A2 c2 b v) 96 (0, 0))) (hP : PlaneAt w b x true near wv)
    (ho : Rw w A1 c1 p.opts) (hoy : Bytes p.opts) (hol : p.opts.length ≤ 1000) :
    Calls Tryz.prog 83 #[.pointer (some ⟨k, 0, none⟩), .agg #[.int .i64 f.ad, .int .i64 f.po, .int .i64 f.tad, .int .i64 f.tpo]] w fun e w' => e = .returned (.tuple #[.int .i64 (carriedC x p f).1, .bool (carriedC x p f).2]) ∧ Below w.heap.size w w' := by
  obtain ⟨R, hR⟩ : ∃ r, carriedC x p f = r := ⟨_, rfl⟩
  rw [hR]
  have HRR := am_ hR
  have HK := am_ hk
  have HP := am_ hP
  have HRO := am_ ho
  have HOY := am_ hoy
  have HOL := am_ hol
  clear hk hP ho hoy hol hR
  obtain ⟨g, HG⟩ : ∃ g, w.heap.size = g := ⟨_, rfl⟩
  go_enter Tryz.func83, Tryz.ntmps83
  go_upto_region 1 with fail
  refine wp_w (fun W => W.heap[g]? = some (.cells #[.int .i64 f.ad, .int .i64 f.po, .int .i64 f.tad, .int .i64 f.tpo] 56 (0, 0)) ∧ Below w.heap.size w W) ?_ ?_
  · exact ⟨by rw [← HG]; exact new_blk w _, below_alloc (Below.refl _ w) _⟩
  intro w1 h1
  have HF1 := am_ h1.1
  have HB1 := am_ h1.2
  have HK1 := am_ (bk_ HK.out h1.2)
  obtain ⟨k0, k1, k2, k3, k4, k5, k6, k7, k8, k9, k10, k11, k12, k13, k14⟩ := c15 HK1.out
  obtain ⟨r0, r1, r2, r3, r4, r5, r6⟩ := (HP.out.below h1.2).ring
  clear h1
  obtain ⟨gr, hgr⟩ : ∃ n, w1.heap.size = n := ⟨_, rfl⟩
  go_upto_region 2 with fail
  refine wp_w (fun W => W.heap[gr]? = some (.cells #[.int .i64 x.ep, .int .u64 x.k0.a, .int .u64 x.k0.b, .int .u64 x.k1.a, .int .u64 x.k1.b, .int .u64 x.k2.a, .int .u64 x.k2.b] 31 (0, 0)) ∧ Below w1.heap.size w1 W) ?_ ?_
  · exact ⟨by rw [← hgr]; exact new_blk w1 _, below_alloc (Below.refl _ w1) _⟩
  intro w2 h2
  have HGR := am_ h2.1
  have HF2 := am_ (bk_ HF1.out h2.2)
  have HK2 := am_ (bk_ HK1.out h2.2)
  have HB2 := am_ (below_step HB1.out h2.2)
  clear h2 hgr HG k0 k1 k2 k3 k4 k5 k6 k7 k8 k9 k10 k11 k12 k13 k14 r0 r1 r2 r3 r4 r5 r6
  obtain ⟨k0, k1, k2, k3, k4, k5, k6, k7, k8, k9, k10, k11, k12, k13, k14⟩ := c15 HK2.out
  by_cases hkd : p.kind = 2
  · have hd : (p.kind == 2) = true := beq_iff_eq.mpr hkd
    by_cases hlb : p.label = 0
    · have hd2 : (p.label == 0) = true := beq_iff_eq.mpr hlb
      have HE := am_ (show (0, false) = R by rw [← HRR.out]; unfold carriedC; rw [if_pos hkd, if_pos hlb])
      clear hkd hlb
      go_wp2
      go_ret2
      exact ⟨by rw [← HE.out]; rfl, HB2.out⟩
    · have hd2 : (p.label == 0) = false := beq_eq_false_iff_ne.mpr hlb
      have HE := am_ (show readC ⟨x.ep, x.k0, x.k1, x.k2⟩ p.kind f p.label = R by rw [← HRR.out]; unfold carriedC; rw [if_pos hkd, if_neg hlb])
      have HRD := am_ (fun W => rd_calls x p f p.label HE.out W)
      have HCK := am_ (fun W (hW : Below w2.heap.size w2 W) => show W.cell? ⟨gr, 0, none⟩ = some (.int .i64 x.ep) ∧ W.cell? ⟨gr, 1, none⟩ = some (.int .u64 x.k0.a) ∧ W.cell? ⟨gr, 2, none⟩ = some (.int .u64 x.k0.b) ∧ W.cell? ⟨gr, 3, none⟩ = some (.int .u64 x.k1.a) ∧ W.cell? ⟨gr, 4, none⟩ = some (.int .u64 x.k1.b) ∧ W.cell? ⟨gr, 5, none⟩ = some (.int .u64 x.k2.a) ∧ W.cell? ⟨gr, 6, none⟩ = some (.int .u64 x.k2.b) ∧ W.cell? ⟨g, 0, none⟩ = some (.int .i64 f.ad) ∧ W.cell? ⟨g, 1, none⟩ = some (.int .i64 f.po) ∧ W.cell? ⟨g, 2, none⟩ = some (.int .i64 f.tad) ∧ W.cell? ⟨g, 3, none⟩ = some (.int .i64 f.tpo) ∧ W.cell? ⟨k, 0, none⟩ = some (.int .i64 p.kind) ∧ W.cell? ⟨k, 8, none⟩ = some (.int .i64 p.label) from by
        obtain ⟨a0, a1, a2, a3, a4, a5, a6, a7, a8, _⟩ := c15 (bk_ HK2.out hW)
        obtain ⟨q0, q1, q2, q3, q4, q5, q6⟩ := c7 (bk_ HGR.out hW)
        obtain ⟨e0, e1, e2, e3⟩ := c4 (bk_ HF2.out hW)
        exact ⟨q0, q1, q2, q3, q4, q5, q6, e0, e1, e2, e3, a0, a8⟩)
      clear hkd hlb
      go_upto_region 5 with fail
      clear k0 k1 k2 k3 k4 k5 k6 k7 k8 k9 k10 k11 k12 k13 k14
      have HQc := am_ (Below.refl w2.heap.size w2).drew
      refine start_ (n := 17) (S := fun w' => w'.cell? ⟨gr, 0, none⟩ = some (.int .i64 x.ep) ∧ w'.cell? ⟨gr, 1, none⟩ = some (.int .u64 x.k0.a) ∧ w'.cell? ⟨gr, 2, none⟩ = some (.int .u64 x.k0.b) ∧ w'.cell? ⟨gr, 3, none⟩ = some (.int .u64 x.k1.a) ∧ w'.cell? ⟨gr, 4, none⟩ = some (.int .u64 x.k1.b) ∧ w'.cell? ⟨gr, 5, none⟩ = some (.int .u64 x.k2.a) ∧ w'.cell? ⟨gr, 6, none⟩ = some (.int .u64 x.k2.b) ∧ w'.cell? ⟨g, 0, none⟩ = some (.int .i64 f.ad) ∧ w'.cell? ⟨g, 1, none⟩ = some (.int .i64 f.po) ∧ w'.cell? ⟨g, 2, none⟩ = some (.int .i64 f.tad) ∧ w'.cell? ⟨g, 3, none⟩ = some (.int .i64 f.tpo) ∧ w'.cell? ⟨k, 0, none⟩ = some (.int .i64 p.kind) ∧ w'.cell? ⟨k, 8, none⟩ = some (.int .i64 p.label)) (ds := []) #[fF,fF,fF,fF,fF,fF,fF,fF,fF,fF,fF,fF,fF,fF,fF,fF,fF] (by kernel_rfl) rfl rfl ⟨(HCK.out _ HQc.out).1, (HCK.out _ HQc.out).2.1, (HCK.out _ HQc.out).2.2.1, (HCK.out _ HQc.out).2.2.2.1, (HCK.out _ HQc.out).2.2.2.2.1, (HCK.out _ HQc.out).2.2.2.2.2.1, (HCK.out _ HQc.out).2.2.2.2.2.2.1, (HCK.out _ HQc.out).2.2.2.2.2.2.2.1, (HCK.out _ HQc.out).2.2.2.2.2.2.2.2.1, (HCK.out _ HQc.out).2.2.2.2.2.2.2.2.2.1, (HCK.out _ HQc.out).2.2.2.2.2.2.2.2.2.2.1, (HCK.out _ HQc.out).2.2.2.2.2.2.2.2.2.2.2.1, (HCK.out _ HQc.out).2.2.2.2.2.2.2.2.2.2.2.2⟩ (fun hHeld => ?_)
      refine p_ 1 35 ?_
      refine p_ 2 36 ?_
      refine p_ 3 37 ?_
      refine p_ 4 38 ?_
      refine p_ 7 41 ?_
      refine p_ 8 42 ?_
      refine p_ 9 43 ?_
      refine p_ 10 44 ?_
      refine t_ 0 34 hHeld ?_
      refine t_ 5 39 hHeld ?_
      refine t_ 6 40 hHeld ?_
      refine t_ 11 45 hHeld ?_
      refine o_ 12 (some 46) (fun K hK => ?_)
      refine g_ Tryz.func13 #[.agg #[.int .i64 x.ep, .int .u64 x.k0.a, .int .u64 x.k0.b, .int .u64 x.k1.a, .int .u64 x.k1.b, .int .u64 x.k2.a, .int .u64 x.k2.b], .int .i64 p.kind, .agg #[.int .i64 f.ad, .int .i64 f.po, .int .i64 f.tad, .int .i64 f.tpo], .int .i64 p.label] ?_
      with_reducible refine (HRD.out _).mono ?_
      rintro e1 w31 ⟨rfl, hx⟩
      refine ⟨_, rfl, ?_⟩
      replace HQc := am_ (below_step HQc.out hx)
      clear hx
      refine hK.out _ _ ⟨(HCK.out _ HQc.out).1, (HCK.out _ HQc.out).2.1, (HCK.out _ HQc.out).2.2.1, (HCK.out _ HQc.out).2.2.2.1, (HCK.out _ HQc.out).2.2.2.2.1, (HCK.out _ HQc.out).2.2.2.2.2.1, (HCK.out _ HQc.out).2.2.2.2.2.2.1, (HCK.out _ HQc.out).2.2.2.2.2.2.2.1, (HCK.out _ HQc.out).2.2.2.2.2.2.2.2.1, (HCK.out _ HQc.out).2.2.2.2.2.2.2.2.2.1, (HCK.out _ HQc.out).2.2.2.2.2.2.2.2.2.2.1, (HCK.out _ HQc.out).2.2.2.2.2.2.2.2.2.2.2.1, (HCK.out _ HQc.out).2.2.2.2.2.2.2.2.2.2.2.2⟩ (fun hHeld => ?_)
      clear hK K
      refine n_ 46 ?_
      refine p_ 13 47 ?_
      refine p_ 14 48 ?_
      refine p_ 15 4 ?_
      refine p_ 16 5 ?_
      refine done_ (by kernel_rfl) ?_
      go_wp2
      go_ret2
      exact ⟨rfl, below_step HB2.out HQc.out⟩
  · have hd : (p.kind == 2) = false := beq_eq_false_iff_ne.mpr hkd
    obtain ⟨⟨at_, val, ech, is⟩, hst⟩ : ∃ z, stampL p.opts = z := ⟨_, rfl⟩
    have HSC := am_ (fun W (hW : Below w2.heap.size w2 W) => stamp_calls (w := W) (HRO.out.below (below_step HB2.out hW)).rd rfl HRO.out.le HOL.out HOY.out)
    rw [hst] at HSC
    cases is with
    | false =>
      have HE := am_ (show (0, false) = R by rw [← HRR.out]; unfold carriedC; rw [if_neg hkd, hst, if_neg (fun h => by cases h.1)])
      clear hkd hst
      go_wp2_with (first
        | (go_at_call 11; ((with_reducible refine (HSC.out _ ?hb).mono ?_); (case hb => (repeat (first | with_reducible exact Below.refl _ _ | with_reducible apply below_alloc | with_reducible apply pw_below_drewN | with_reducible apply below_drew1 | exact bd (Below.refl _ _) _ | exact (Below.refl _ _).drew))); rintro e2 x2 ⟨rfl, hx⟩; have HXY := am_ hx; clear hx)))
      go_ret2
      exact ⟨by rw [← HE.out]; rfl, below_step HB2.out HXY.out⟩
    | true =>
      by_cases hfl : p.flags = 1
      · have hd2 : (p.flags == 1) = true := beq_iff_eq.mpr hfl
        have HE := am_ (show (0, false) = R by rw [← HRR.out]; unfold carriedC; rw [if_neg hkd, hst, if_neg (fun h => h.2 hfl)])
        clear hkd hst hfl
        go_wp2_with (first
          | (go_at_call 11; ((with_reducible refine (HSC.out _ ?hb).mono ?_); (case hb => (repeat (first | with_reducible exact Below.refl _ _ | with_reducible apply below_alloc | with_reducible apply pw_below_drewN | with_reducible apply below_drew1 | exact bd (Below.refl _ _) _ | exact (Below.refl _ _).drew))); rintro e2 x2 ⟨rfl, hx⟩; have HXY := am_ hx; obtain ⟨k0, k1, k2, k3, k4, k5, k6, k7, k8, k9, k10, k11, k12, k13, k14⟩ := c15 (bk_ HK2.out hx); clear hx)))
        go_ret2
        exact ⟨by rw [← HE.out]; rfl, below_step HB2.out HXY.out⟩
      · have hd2 : (p.flags == 1) = false := beq_eq_false_iff_ne.mpr hfl
        have HE := am_ (show readC ⟨x.ep, x.k0, x.k1, x.k2⟩ p.kind f (getC ech) = R by rw [← HRR.out]; unfold carriedC; rw [if_neg hkd, hst, if_pos ⟨rfl, hfl⟩])
        have HGT := am_ (fun W => get_calls ech W)
        obtain ⟨cq, hcq⟩ : ∃ z, getC ech = z := ⟨_, rfl⟩
        rw [hcq] at HE HGT
        have HRD := am_ (fun W => rd_calls x p f cq HE.out W)
        clear hkd hst hfl hcq
        go_upto_region 10 with (first
          | (go_at_call 11; ((with_reducible refine (HSC.out _ ?hb).mono ?_); (case hb => (repeat (first | with_reducible exact Below.refl _ _ | with_reducible apply below_alloc | with_reducible apply pw_below_drewN | with_reducible apply below_drew1 | exact bd (Below.refl _ _) _ | exact (Below.refl _ _).drew))); rintro e2 x2 ⟨rfl, hx⟩; have HXY := am_ hx; obtain ⟨k0, k1, k2, k3, k4, k5, k6, k7, k8, k9, k10, k11, k12, k13, k14⟩ := c15 (bk_ HK2.out hx); clear hx))
          | (go_at_call 12; ((with_reducible refine (HGT.out _).mono ?_); rintro e3 x3 ⟨rfl, hx⟩; have HXZ := am_ (below_step HXY.out hx); clear hx)))
        refine wp_w (fun W => Below w2.heap.size w2 W) ?_ ?_
        · exact HXZ.out
        intro w5 h5
        have HCK := am_ (fun W (hW : Below w5.heap.size w5 W) => show W.cell? ⟨gr, 0, none⟩ = some (.int .i64 x.ep) ∧ W.cell? ⟨gr, 1, none⟩ = some (.int .u64 x.k0.a) ∧ W.cell? ⟨gr, 2, none⟩ = some (.int .u64 x.k0.b) ∧ W.cell? ⟨gr, 3, none⟩ = some (.int .u64 x.k1.a) ∧ W.cell? ⟨gr, 4, none⟩ = some (.int .u64 x.k1.b) ∧ W.cell? ⟨gr, 5, none⟩ = some (.int .u64 x.k2.a) ∧ W.cell? ⟨gr, 6, none⟩ = some (.int .u64 x.k2.b) ∧ W.cell? ⟨g, 0, none⟩ = some (.int .i64 f.ad) ∧ W.cell? ⟨g, 1, none⟩ = some (.int .i64 f.po) ∧ W.cell? ⟨g, 2, none⟩ = some (.int .i64 f.tad) ∧ W.cell? ⟨g, 3, none⟩ = some (.int .i64 f.tpo) ∧ W.cell? ⟨k, 0, none⟩ = some (.int .i64 p.kind) from by
          have hW2 := below_step h5 hW
          obtain ⟨a0, a1, a2, a3, a4, a5, a6, a7, a8, _⟩ := c15 (bk_ HK2.out hW2)
          obtain ⟨q0, q1, q2, q3, q4, q5, q6⟩ := c7 (bk_ HGR.out hW2)
          obtain ⟨e0, e1, e2, e3⟩ := c4 (bk_ HF2.out hW2)
          exact ⟨q0, q1, q2, q3, q4, q5, q6, e0, e1, e2, e3, a0⟩)
        have HB5 := am_ (below_step HB2.out h5)
        clear h5 k0 k1 k2 k3 k4 k5 k6 k7 k8 k9 k10 k11 k12 k13 k14
        have HQc := am_ (Below.refl w5.heap.size w5).drew
        refine start_ (n := 13) (S := fun w' => w'.cell? ⟨gr, 0, none⟩ = some (.int .i64 x.ep) ∧ w'.cell? ⟨gr, 1, none⟩ = some (.int .u64 x.k0.a) ∧ w'.cell? ⟨gr, 2, none⟩ = some (.int .u64 x.k0.b) ∧ w'.cell? ⟨gr, 3, none⟩ = some (.int .u64 x.k1.a) ∧ w'.cell? ⟨gr, 4, none⟩ = some (.int .u64 x.k1.b) ∧ w'.cell? ⟨gr, 5, none⟩ = some (.int .u64 x.k2.a) ∧ w'.cell? ⟨gr, 6, none⟩ = some (.int .u64 x.k2.b) ∧ w'.cell? ⟨g, 0, none⟩ = some (.int .i64 f.ad) ∧ w'.cell? ⟨g, 1, none⟩ = some (.int .i64 f.po) ∧ w'.cell? ⟨g, 2, none⟩ = some (.int .i64 f.tad) ∧ w'.cell? ⟨g, 3, none⟩ = some (.int .i64 f.tpo) ∧ w'.cell? ⟨k, 0, none⟩ = some (.int .i64 p.kind)) (ds := []) #[fF,fF,fF,fF,fF,fF,fF,fF,fF,fF,fF,fF,fF] (by kernel_rfl) rfl rfl ⟨(HCK.out _ HQc.out).1, (HCK.out _ HQc.out).2.1, (HCK.out _ HQc.out).2.2.1, (HCK.out _ HQc.out).2.2.2.1, (HCK.out _ HQc.out).2.2.2.2.1, (HCK.out _ HQc.out).2.2.2.2.2.1, (HCK.out _ HQc.out).2.2.2.2.2.2.1, (HCK.out _ HQc.out).2.2.2.2.2.2.2.1, (HCK.out _ HQc.out).2.2.2.2.2.2.2.2.1, (HCK.out _ HQc.out).2.2.2.2.2.2.2.2.2.1, (HCK.out _ HQc.out).2.2.2.2.2.2.2.2.2.2.1, (HCK.out _ HQc.out).2.2.2.2.2.2.2.2.2.2.2⟩ (fun hHeld => ?_)
        refine p_ 1 76 ?_
        refine p_ 2 77 ?_
        refine p_ 3 78 ?_
        refine p_ 4 79 ?_
        refine p_ 7 82 ?_
        refine t_ 0 75 hHeld ?_
        refine t_ 5 80 hHeld ?_
        refine t_ 6 81 hHeld ?_
        refine o_ 8 (some 83) (fun K hK => ?_)
        refine g_ Tryz.func13 #[.agg #[.int .i64 x.ep, .int .u64 x.k0.a, .int .u64 x.k0.b, .int .u64 x.k1.a, .int .u64 x.k1.b, .int .u64 x.k2.a, .int .u64 x.k2.b], .int .i64 p.kind, .agg #[.int .i64 f.ad, .int .i64 f.po, .int .i64 f.tad, .int .i64 f.tpo], .int .i64 cq] ?_
        with_reducible refine (HRD.out _).mono ?_
        rintro e1 w31 ⟨rfl, hx⟩
        refine ⟨_, rfl, ?_⟩
        replace HQc := am_ (below_step HQc.out hx)
        clear hx
        refine hK.out _ _ ⟨(HCK.out _ HQc.out).1, (HCK.out _ HQc.out).2.1, (HCK.out _ HQc.out).2.2.1, (HCK.out _ HQc.out).2.2.2.1, (HCK.out _ HQc.out).2.2.2.2.1, (HCK.out _ HQc.out).2.2.2.2.2.1, (HCK.out _ HQc.out).2.2.2.2.2.2.1, (HCK.out _ HQc.out).2.2.2.2.2.2.2.1, (HCK.out _ HQc.out).2.2.2.2.2.2.2.2.1, (HCK.out _ HQc.out).2.2.2.2.2.2.2.2.2.1, (HCK.out _ HQc.out).2.2.2.2.2.2.2.2.2.2.1, (HCK.out _ HQc.out).2.2.2.2.2.2.2.2.2.2.2⟩ (fun hHeld => ?_)
        clear hK K
        refine n_ 83 ?_
        refine p_ 9 84 ?_
        refine p_ 10 85 ?_
        refine p_ 11 4 ?_
        refine p_ 12 5 ?_
        refine done_ (by kernel_rfl) ?_
        go_wp2
        go_ret2
        exact ⟨rfl, below_step HB5.out HQc.out⟩
theorem may3 (st a b c d x y z : Int) : pool_may.f 6 st a b c d [x, y, z] = some (decide (st = x ∨ st = y ∨ st = z)) := by
  have w1 : wrap64 (0 + 1) = 1 := wid (by decide) (by decide)
  have w2 : wrap64 (1 + 1) = 2 := wid (by decide) (by decide)
  have w3 : wrap64 (2 + 1) = 3 := wid (by decide) (by decide)
  have r0 : rd [x, y, z] 0 = x := rfl
  have r1 : rd [x, y, z] 1 = y := rfl
  have r2 : rd [x, y, z] 2 = z := rfl
  simp only [pool_may.f, pool_may.l0, w1, w2, w3, r0, r1, r2]
  by_cases h : st = x <;> by_cases h2 : st = y <;> by_cases h3 : st = z <;> simp [h, h2, h3]
def takesB (st : Int) : Bool := decide (st = 1 ∨ st = 2 ∨ st = 3)
theorem takes_calls (st a b c d : Int) (w : World) : Calls Tryz.prog 15 #[.agg #[.int .i64 st, .int .i64 a, .int .i64 b, .int .i64 c, .int .i64 d]] w fun e w' => e = .returned (.bool (takesB st)) ∧ Below w.heap.size w w' :=
  pool_Takes.calls 6 st a b c d (takesB st) w (by
    show (pool_may.f 6 st a b c d [1, 2, 3]).bind _ = _
    rw [may3]
    rfl)
def backC (e near : Int) : Int := (cookie_Back.f e near).getD 0
theorem back_some (e near : Int) : cookie_Back.f e near = some (backC e near) ∧ 0 ≤ backC e near ∧ backC e near ≤ 4294967295 := by
  unfold backC cookie_Back.f cookie_Get.f opts_Far.f
  simp only [Option.bind_some]
  split
  · refine ⟨rfl, ?_, ?_⟩ <;> simp only [Option.getD_some] <;> omega
  · split
    · refine ⟨rfl, ?_, ?_⟩ <;> simp only [Option.getD_some] <;> omega
    · refine ⟨rfl, ?_, ?_⟩ <;> simp only [Option.getD_some] <;> omega
theorem back_calls (e near : Int) (w : World) : Calls Tryz.prog 86 #[.int .u32 e, .int .u32 near] w fun e' w' => e' = .returned (.int .u32 (backC e near)) ∧ Below w.heap.size w w' := by
  refine (cookie_Back.calls e near _ w (back_some e near).1).mono ?_
  rintro e' w' ⟨rfl, ⟨⟨nd, rfl⟩⟩⟩
  exact ⟨rfl, bd (Below.refl _ w) nd⟩
theorem carried_b (x : Po) (p : Pk) (f : Fl) : 0 ≤ (carriedC x p f).1 ∧ (carriedC x p f).1 ≤ 63 := by
  unfold carriedC
  split
  · split
    · simp
    · exact readC_b _ _ _ _
  · split
    · exact readC_b _ _ _ _
    · simp
/-- The slot that a packet goes in to (none: below 0), and if its cookie says so. -/
def inS (x : Po) (p : Pk) : Int × Bool :=
  let c := carriedC x p ⟨p.frm, p.fp, x.ad, x.po⟩
  if (c.2 && takesB (x.s c.1.toNat).st) = true then (c.1, true) else (rd (wheelL x) (spunL 127 [3, p.frm, p.fp, x.ad, x.po]), false)
def in1 (x : Po) (l : List Int) (s : Nat) : List Int := thenL l (natR l false (x.s s).ad (x.s s).po)
/-- The bytes that go in to a slot. -/
def inL (x : Po) (p : Pk) (nl : List (Int × Bool)) (l : List Int) (s : Nat) : List Int :=
  if (stampL p.opts).2.2.2 = true ∧ (stampL p.opts).2.2.1 ≠ 0 then
    thenL (in1 x l s) (writeR (in1 x l s) (24 + (stampL p.opts).1 + 4) 4 (if (nl.getD s (0, false)).2 = true then backC (stampL p.opts).2.2.1 (nl.getD s (0, false)).1 else 0))
  else in1 x l s
theorem wheel_b {p : Po} (f : Fl) : -1 ≤ rd (wheelL p) (spunL 127 [3, f.ad, f.po, f.tad, f.tpo]) ∧ rd (wheelL p) (spunL 127 [3, f.ad, f.po, f.tad, f.tpo]) < 64 := by
  have h := spun_b 127 [3, f.ad, f.po, f.tad, f.tpo] (by decide) (by decide)
  obtain ⟨i, hi⟩ := Int.eq_ofNat_of_zero_le h.1
  rw [hi, rd_nat]
  unfold wheelL
  split
  · rw [List.getD_eq_getElem?_getD, List.getElem?_replicate, if_pos (by omega)]
    simp
  · rename_i hn
    have hr := run_ok (wksL_ok p 64 0 (by omega)) hn 127 (by omega)
    have hi2 : i < (runW (wksL p 64 0) 127).1.length := by rw [hr.len]; omega
    rw [List.getD_eq_getElem?_getD, List.getElem?_eq_getElem hi2]
    exact hr.val _ (List.getElem_mem hi2)
theorem in_calls {p : Pk} {A1 A2 : Option Addr} {c1 c2 k b : Nat} {x : Po} {nl : List (Int × Bool)} {Aw : Option Addr} {cw : Nat} {Ab : Option Addr} {cb : Nat} {l : List Int} {w : World}
    (hk : w.heap[k]? = some (.cells (pkA p A1 c1 A2 c2 b (.slice Ab l.length cb)) 96 (0, 0))) (hP : PlaneAt w b x true (nearV nl) (.slice Aw 127 cw)) (hne : k ≠ b) (hw : Kd.C (Kd.int .i64) w Aw 127 (wheelL x)) (hcw : 127 ≤ cw)
    (ho : OwnF k b w (.slice A1 p.opts.length c1) p.opts) (hr : OwnF k b w (.slice Ab l.length cb) l) (hly : Bytes l) (hll : l.length ≤ 10000) (hoy : Bytes p.opts) (hol : p.opts.length ≤ 1000)
    (hkd : p.kind = 1 ∨ (p.kind = 2 ∧ p.opts = [])) (h1 : ∀ s : Nat, s < 64 → Bytes (in1 x l s) ∧ (in1 x l s).length ≤ 10000) {R : Int × Bool} (hR : inS x p = R) :
    Calls Tryz.prog 42 #[.pointer (some ⟨k, 0, none⟩)] w fun e w' => (R.1 < 0 ∧ e = .returned (.agg #[.int .i64 9, .int .i64 (-1), .bool false, .slice none 0 0]) ∧ Frm k b w w') ∨
      ∃ A c, e = .returned (.agg #[.int .i64 0, .int .i64 R.1, .bool R.2, .slice A (inL x p nl l R.1.toNat).length c]) ∧ OwnF k b w' (.slice A (inL x p nl l R.1.toNat).length c) (inL x p nl l R.1.toNat) ∧ PlaneAt w' b x true (nearV nl) (.slice Aw 127 cw) ∧ Frm k b w w' ∧ 0 ≤ R.1 := by
  have HKD := am_ hkd
  have HH1 := am_ h1
  have HWH := am_ (fun W (hW : Below w.heap.size w W) => Kd.C_below hw hW)
  have HCW := am_ hcw
  have HNT0 := am_ (fun (W0 : World) (h0 : Rw W0 Ab cb l) (sa sp : Int) (y : List Int) (xe : Int) (hy : natR l false sa sp = (y, xe)) => nat_at h0 rfl hll hly false sa sp hy)
  have HOY := am_ hoy
  have HOL := am_ hol
  have HL := am_ hP.2.1
  have HIN := am_ (fun (W : World) (g gh : Nat) (hb : Below w.heap.size w W) (hg : W.heap[g]? = some (.cells #[.int .i64 0, .int .i64 0, .bool false, .slice none 0 0] 46 (0, 0))) (hh : PoolAt W gh x) (hle : w.heap.size ≤ g) (hlt : g < gh) =>
    (⟨bk_ hk hb, hP.below hb, hg, hh, ho.frm (Frm.of_below hb), hr.frm (Frm.of_below hb), Frm.of_below hb, hne, blk_lt hk, blk_lt hP.2.2, hle, hlt⟩ : OutS w W k b g gh p A1 c1 A2 c2 x nl (.slice Aw 127 cw) (.slice Ab l.length cb) l))
  have HK := am_ hk
  have HP := am_ hP
  obtain ⟨⟨s0, is0⟩, hcar⟩ : ∃ z, carriedC x p ⟨p.frm, p.fp, x.ad, x.po⟩ = z := ⟨_, rfl⟩
  have hcb := carried_b x p ⟨p.frm, p.fp, x.ad, x.po⟩
  rw [hcar] at hcb
  obtain ⟨i0, rfl⟩ := Int.eq_ofNat_of_zero_le hcb.1
  have HI0 := am_ (show i0 < 64 by have := hcb.2; simp only at this; omega)
  obtain ⟨⟨st, ta, tp, tw, tq⟩, hss⟩ : ∃ z, x.s i0 = z := ⟨_, rfl⟩
  have HSS := am_ hss
  obtain ⟨is1, hi1⟩ : ∃ z, (is0 && takesB st) = z := ⟨_, rfl⟩
  have HI1 := am_ hi1
  obtain ⟨sv, hsv⟩ : ∃ z, rd (wheelL x) (spunL 127 [3, p.frm, p.fp, x.ad, x.po]) = z := ⟨_, rfl⟩
  have HSV := am_ hsv
  have HSB := am_ (show -1 ≤ sv ∧ sv < 64 by rw [← hsv]; exact wheel_b (p := x) ⟨p.frm, p.fp, x.ad, x.po⟩)
  have HRR := am_ (show R = (if is1 = true then (i0 : Int) else sv, is1) by
    rw [← hR]
    unfold inS
    rw [hcar]
    simp only [Int.toNat_natCast, hss, hi1, hsv]
    cases is1 <;> rfl)
  have HTK := am_ (fun W => takes_calls st ta tp tw tq W)
  clear hk hP hne hw hcw ho hr hly hll hoy hol hkd h1 hR hcb hss hi1 hsv
  obtain ⟨g, HG⟩ : ∃ g, w.heap.size = g := ⟨_, rfl⟩
  have HGE := am_ (Nat.le_of_eq HG)
  have HCAR := am_ hcar
  clear hcar
  go_enter Tryz.func42, Tryz.ntmps42
  go_upto_region 1 with fail
  refine wp_w (fun W => W.heap[g]? = some (.cells #[.int .i64 0, .int .i64 0, .bool false, .slice none 0 0] 46 (0, 0)) ∧ Below w.heap.size w W) ?_ ?_
  · exact ⟨(box_at w HG _).1, (box_at w HG _).2.1⟩
  intro w1 h1
  have HR1 := am_ h1.1
  have HB1 := am_ h1.2
  have HP1 := am_ (HP.out.below h1.2)
  obtain ⟨k0, k1, k2, k3, k4, k5, k6, k7, k8, k9, k10, k11, k12, k13, k14⟩ := c15 (bk_ HK.out h1.2)
  clear h1 HG
  go_upto_region 2 with (first
    | ((with_reducible refine gate_dst (N := 22) rfl ?_); (refine plane_load rfl rfl rfl HP1.out ?_))
    | ((with_reducible refine gate_dst (N := 3) rfl ?_); refine pool_alloc rfl rfl ?_; intro gh hg3 w3 hp3 hb3 hs3; have HP3 := am_ hp3; have HB3 := am_ hb3; have HG3 := am_ hg3; clear hp3 hb3 hs3 hg3)
    | ((with_reducible refine gate_store (t := 33) (p := 3) rfl ?_); refine pool_store (q := x) rfl rfl rfl rfl rfl HP3.out Po.z_len HL.out ?_; intro w4 hp4 hc4; have HP4 := am_ hp4; have HC4 := am_ hc4; clear hp4 hc4))
  refine wp_w (fun W => OutS w W k b g gh p A1 c1 A2 c2 x nl (.slice Aw 127 cw) (.slice Ab l.length cb) l ∧ Below w.heap.size w W) ?_ ?_
  · have hb := Chg.step HB3.out HC4.out (Nat.le_of_eq HG3.out)
    exact ⟨HIN.out _ g gh (below_step HB1.out hb) (bk_ HR1.out hb) HP4.out HGE.out (by rw [← HG3.out]; exact blk_lt HR1.out), below_step HB1.out hb⟩
  intro w2 h2
  have HS := am_ h2.1
  have HBX2 := am_ h2.2
  obtain ⟨k0, k1, k2, k3, k4, k5, k6, k7, k8, k9, k10, k11, k12, k13, k14⟩ := c15 HS.out.hk
  obtain ⟨h0, h1, h2⟩ := HS.out.hh.head
  have hk0 := HS.out.ltk
  have hg0 := blk_lt HS.out.hh
  obtain ⟨g4, hg4⟩ : ∃ n, w2.heap.size = n := ⟨_, rfl⟩
  have hg4d : w2.drew.heap.size = g4 := hg4
  go_upto_region 2 with fail
  refine start_ (n := 17) (S := fun w' => w'.cell? ⟨k, 3, none⟩ = some (.int .i64 p.frm) ∧ w'.cell? ⟨k, 5, none⟩ = some (.int .i64 p.fp) ∧ w'.cell? ⟨gh, 1, none⟩ = some (.int .i64 x.ad) ∧ w'.cell? ⟨gh, 2, none⟩ = some (.int .i64 x.po)) (ds := [16]) #[fF,fF,fF,fF,fF,fF,fF,fF,fF,fF,fF,fF,fF,fF,fF,fF,fF] (by kernel_rfl) rfl rfl ⟨k3, k5, h1, h2⟩ (fun hHeld => ?_)
  refine p_ 0 23 ?_
  refine p_ 1 24 ?_
  refine p_ 2 25 ?_
  refine p_ 3 26 ?_
  refine p_ 5 28 ?_
  refine p_ 6 29 ?_
  refine p_ 7 30 ?_
  refine p_ 8 31 ?_
  refine p_ 10 33 ?_
  refine p_ 12 35 ?_
  refine t_ 4 27 hHeld ?_
  refine t_ 9 32 hHeld ?_
  refine t_ 11 34 hHeld ?_
  refine t_ 13 36 hHeld ?_
  refine p_ 14 37 ?_
  refine o_ 15 (some 4) (fun K hK => ?_)
  refine value_ (w1 := ?_) (v := ?_) (by rfl) rfl ?_ ?_
  rotate_left 2
  · go_simp
    constructor
    · rfl
    · rfl
  refine hK.out _ _ ⟨((World.cell?_alloc_lt w2 _ _ hk0).trans k3), ((World.cell?_alloc_lt w2 _ _ hk0).trans k5), ((World.cell?_alloc_lt w2 _ _ hg0).trans h1), ((World.cell?_alloc_lt w2 _ _ hg0).trans h2)⟩ (fun hHeld => ?_)
  clear hK K
  refine n_ 4 ?_
  refine l_ 16 none (fun K hK => ?_)
  refine s_ ?_
  refine hK.out _ _ ?_
  clear hK K
  refine done_ (by kernel_rfl) ?_
  go_upto_region 3 with fail
  refine wp_w (fun W => W.heap[g4]? = some (.cells #[.int .i64 p.frm, .int .i64 p.fp, .int .i64 x.ad, .int .i64 x.po] 56 (0, 0)) ∧ Below w2.heap.size w2 W) ?_ ?_
  · first
      | exact ⟨by rw [← hg4]; exact new_blk w2 _, below_alloc (Below.refl _ w2) _⟩
      | exact ⟨by rw [← hg4]; exact new_blk w2.drew _, below_alloc (Below.refl _ w2).drew _⟩
  intro w3 h3
  have HF3 := am_ h3.1
  replace HS := am_ (HS.out.below h3.2)
  have HBX3 := am_ (below_step HBX2.out h3.2)
  obtain ⟨j0, j1, j2, j3⟩ := c4 h3.1
  have HCA := am_ (fun W (hW : Below w3.heap.size w3 W) => show Calls Tryz.prog 83 #[.pointer (some ⟨k, 0, none⟩), .agg #[.int .i64 p.frm, .int .i64 p.fp, .int .i64 x.ad, .int .i64 x.po]] W fun e w' => e = .returned (.tuple #[.int .i64 (i0 : Int), .bool is0]) ∧ Below W.heap.size W w' from by
    have h := carried_calls ⟨p.frm, p.fp, x.ad, x.po⟩ (HS.out.below hW).hk (HS.out.below hW).hp (HS.out.below hW).ro.rw HOY.out HOL.out
    rw [HCAR.out] at h
    exact h)
  clear h3 hg4 hg4d hk0 hg0 h0 h1 h2 k0 k1 k2 k3 k4 k5 k6 k7 k8 k9 k10 k11 k12 k13 k14 HP3 HB3 HG3 HP4 HC4 HR1 HB1 HP1 HIN HK HP
  go_upto_region 4 with (first | (go_at_call 83; ((with_reducible refine (HCA.out _ ?hb).mono ?_); (case hb => (repeat (first | with_reducible exact Below.refl _ _ | with_reducible apply below_alloc | with_reducible apply pw_below_drewN | with_reducible apply below_drew1 | exact bd (Below.refl _ _) _ | exact (Below.refl _ _).drew))); rintro e1 x1 ⟨rfl, hx⟩; have HX1 := am_ hx; clear hx)))
  refine wp_w (fun W => W.heap[g4]? = some (.cells #[.int .i64 p.frm, .int .i64 p.fp, .int .i64 x.ad, .int .i64 x.po] 56 (0, 0)) ∧ OutS w W k b g gh p A1 c1 A2 c2 x nl (.slice Aw 127 cw) (.slice Ab l.length cb) l ∧ Below w.heap.size w W) ?_ ?_
  · exact ⟨bk_ HF3.out HX1.out, HS.out.below HX1.out, below_step HBX3.out HX1.out⟩
  intro w4 h4
  have HF4 := am_ h4.1
  replace HS := am_ h4.2.1
  have HBX4 := am_ h4.2.2
  obtain ⟨d0, d1, d2, d3, d4⟩ := HS.out.hh.slot HL.out HI0.out
  rw [HSS.out] at d0 d1 d2 d3 d4
  have hi0 : (0 : Int) ≤ (i0 : Int) := by omega
  have hi1 : (i0 : Int) < 64 := by have := HI0.out; omega
  clear h4 HX1 HCA j0 j1 j2 j3 HF3 HBX3 HBX2
  go_cut [6] (fun s6 wx => s6 = .bool is1 ∧ Aside (Below w4.heap.size w4 wx))
  case first =>
    cases is0 with
    | false =>
      obtain rfl : false = is1 := HI1.out
      go_wp2
      go_meet
      exact ⟨rfl, (by exact Below.refl _ _)⟩
    | true =>
      obtain rfl : takesB st = is1 := HI1.out
      go_wp2_with (first | (go_at_call 15; ((with_reducible refine (HTK.out _).mono ?_); rintro e2 x2 ⟨rfl, hx⟩; have HX2 := am_ hx; clear hx)))
      go_meet
      exact ⟨rfl, (by exact HX2.out)⟩
  case rest =>
  obtain ⟨rfl, hw4⟩ := hcut
  rename World => w5
  have HF5 := am_ (bk_ HF4.out hw4.out)
  replace HS := am_ (HS.out.below hw4.out)
  have HBX5 := am_ (below_step HBX4.out hw4.out)
  clear hw4 d0 d1 d2 d3 d4 hi0 hi1 HF4 HBX4
  go_upto_if 53 with fail
  go_cut [5] (fun s5 wx => s5 = .int .i64 (if is1 = true then (i0 : Int) else sv) ∧ Aside (Below w5.heap.size w5 wx))
  case first =>
    cases is1 with
    | true =>
      go_wp2
      go_meet
      exact ⟨rfl, (by exact Below.refl _ _)⟩
    | false =>
      have HPK := am_ (fun W (hW : Below w5.heap.size w5 W) => show Calls Tryz.prog 80 #[.slice Aw 127 cw, .agg #[.int .i64 p.frm, .int .i64 p.fp, .int .i64 x.ad, .int .i64 x.po]] W fun e w' => e = .returned (.int .i64 sv) ∧ Below W.heap.size W w' from by
        have h := pick_calls ⟨p.frm, p.fp, x.ad, x.po⟩ (w := W) (HWH.out W (below_step HBX5.out hW)) (HWH.out W (below_step HBX5.out hW)).1 HCW.out rfl
        simp only at h
        rw [HSV.out] at h
        exact h)
      have HCK := am_ (fun W (hW : Below w5.heap.size w5 W) => show W.cell? ⟨k, 13, none⟩ = some (.pointer (some ⟨b, 0, none⟩)) ∧ W.cell? ⟨b, 459, none⟩ = some (.slice Aw 127 cw) ∧ W.cell? ⟨g4, 0, none⟩ = some (.int .i64 p.frm) ∧ W.cell? ⟨g4, 1, none⟩ = some (.int .i64 p.fp) ∧ W.cell? ⟨g4, 2, none⟩ = some (.int .i64 x.ad) ∧ W.cell? ⟨g4, 3, none⟩ = some (.int .i64 x.po) from by
        have hs := HS.out.below hW
        obtain ⟨_, _, _, _, _, _, _, _, _, _, _, _, _, a13, _⟩ := c15 hs.hk
        obtain ⟨e0, e1, e2, e3⟩ := c4 (bk_ HF5.out hW)
        exact ⟨a13, hs.hp.c_w, e0, e1, e2, e3⟩)
      have HQc := am_ (Below.refl w5.heap.size w5).drew
      go_upto_region 6 with fail
      refine start_ (n := 10) (S := fun w' => w'.cell? ⟨k, 13, none⟩ = some (.pointer (some ⟨b, 0, none⟩)) ∧ w'.cell? ⟨b, 459, none⟩ = some (.slice Aw 127 cw) ∧ w'.cell? ⟨g4, 0, none⟩ = some (.int .i64 p.frm) ∧ w'.cell? ⟨g4, 1, none⟩ = some (.int .i64 p.fp) ∧ w'.cell? ⟨g4, 2, none⟩ = some (.int .i64 x.ad) ∧ w'.cell? ⟨g4, 3, none⟩ = some (.int .i64 x.po)) (ds := []) #[fF,fF,fF,fF,fF,fF,fF,fF,fF,fF] (by kernel_rfl) rfl rfl ⟨(HCK.out _ HQc.out).1, (HCK.out _ HQc.out).2.1, (HCK.out _ HQc.out).2.2.1, (HCK.out _ HQc.out).2.2.2.1, (HCK.out _ HQc.out).2.2.2.2.1, (HCK.out _ HQc.out).2.2.2.2.2⟩ (fun hHeld => ?_)
      refine p_ 0 54 ?_
      refine p_ 1 55 ?_
      refine p_ 2 56 ?_
      refine t_ 3 57 hHeld ?_
      refine p_ 4 58 ?_
      refine p_ 5 59 ?_
      refine t_ 6 60 hHeld ?_
      refine t_ 7 61 hHeld ?_
      refine o_ 8 (some 62) (fun K hK => ?_)
      refine g_ Tryz.func80 #[.slice Aw 127 cw, .agg #[.int .i64 p.frm, .int .i64 p.fp, .int .i64 x.ad, .int .i64 x.po]] ?_
      with_reducible refine (HPK.out _ HQc.out).mono ?_
      rintro e2 w31 ⟨rfl, hx⟩
      refine ⟨_, rfl, ?_⟩
      replace HQc := am_ (below_step HQc.out hx)
      clear hx
      refine hK.out _ _ ⟨(HCK.out _ HQc.out).1, (HCK.out _ HQc.out).2.1, (HCK.out _ HQc.out).2.2.1, (HCK.out _ HQc.out).2.2.2.1, (HCK.out _ HQc.out).2.2.2.2.1, (HCK.out _ HQc.out).2.2.2.2.2⟩ (fun hHeld => ?_)
      clear hK K
      refine n_ 62 ?_
      refine p_ 9 5 ?_
      refine done_ (by kernel_rfl) ?_
      go_wp2
      go_meet
      exact ⟨rfl, (by exact HQc.out)⟩
  case rest =>
  obtain ⟨rfl, hw5⟩ := hcut
  rename World => w6
  replace HS := am_ (HS.out.below hw5.out)
  obtain ⟨sl, hsl⟩ : ∃ z, (if is1 = true then (i0 : Int) else sv) = z := ⟨_, rfl⟩
  have HRS := am_ (show R = (sl, is1) by rw [HRR.out, hsl])
  have HSL := am_ (show -1 ≤ sl ∧ sl < 64 by
    rw [← hsl]
    have h1 := HSB.out
    have h2 := HI0.out
    cases is1
    · exact h1
    · exact ⟨by show -1 ≤ (i0 : Int); omega, by show (i0 : Int) < 64; omega⟩)
  rw [hsl]
  clear hw5 hsl HF5 HBX5 HTK HRR HCAR HSB HSV HI1 HI0 HSS
  by_cases hneg : sl < 0
  · have hd : decide (sl < 0) = true := decide_eq_true hneg
    have HDR := am_ (fun W => drop_calls 9 W)
    have HNG := am_ hneg
    clear hneg
    go_wp2_with (first
      | (go_at_call 37; ((with_reducible refine (HDR.out _).mono ?_); rintro e3 x3 ⟨rfl, hx⟩; have HS8 := am_ (HS.out.below hx); obtain ⟨t0, t1, t2, t3⟩ := c4 HS8.out.hg; have u0 := fr_ HS8.out.hg 0; have u1 := fr_ HS8.out.hg 1; have u2 := fr_ HS8.out.hg 2; have u3 := fr_ HS8.out.hg 3; clear hx)))
    obtain ⟨f1, f2, f3, f4⟩ := HS8.out.fin (.int .i64 9) (.int .i64 (-1)) (.bool false) (.slice none 0 0)
    exact bodyPost_ret (results_cell_row rfl _ _ g 46 #[.int .i64 9, .int .i64 (-1), .bool false, .slice none 0 0] (0, 0) _ rfl f1 Tryz.underlying46 rfl info48) rfl (Or.inl ⟨by rw [HRS.out]; exact HNG.out, rfl, f4⟩)
  · have hd : decide (sl < 0) = false := decide_eq_false hneg
    obtain ⟨s, rfl⟩ := Int.eq_ofNat_of_zero_le (show 0 ≤ sl by omega)
    have HS64 := am_ (show s < 64 by have := HSL.out; omega)
    have hi0 : (0 : Int) ≤ (s : Int) := by omega
    have hi1 : (s : Int) < 64 := by have := HS64.out; omega
    obtain rfl : R = ((s : Int), is1) := HRS.out
    obtain ⟨⟨sst, sa, sp, sw, sq⟩, hss⟩ : ∃ z, x.s s = z := ⟨_, rfl⟩
    obtain ⟨⟨y, xe⟩, hy⟩ : ∃ r, natR l false sa sp = r := ⟨_, rfl⟩
    have HY1 := am_ (show in1 x l s = thenL l (y, xe) by unfold in1; rw [hss, hy])
    have H1S := am_ (HH1.out s HS64.out)
    obtain ⟨L1, hL1⟩ : ∃ z, in1 x l s = z := ⟨_, rfl⟩
    have HL1 := am_ hL1
    rw [hL1] at HY1 H1S
    obtain ⟨d0, d1, d2, d3, d4⟩ := HS.out.hh.slot HL.out HS64.out
    rw [hss] at d0 d1 d2 d3 d4
    have HNT1 := am_ (fun (W0 : World) (h0 : Rw W0 Ab cb l) => HNT0.out W0 h0 sa sp y xe hy)
    clear hneg hss hy hL1 HSL HRS HH1 HNT0
    obtain ⟨gs, hgs⟩ : ∃ n, w6.heap.size = n := ⟨_, rfl⟩
    go_upto_region 10 with fail
    refine wp_w (fun W => W.heap[gs]? = some (.cells #[.int .i64 sst, .int .i64 sa, .int .i64 sp, .int .i64 sw, .int .i64 sq] 25 (0, 0)) ∧ Below w6.heap.size w6 W) ?_ ?_
    · exact ⟨by rw [← hgs]; exact new_blk w6 _, below_alloc (Below.refl _ w6) _⟩
    intro w7 h7
    replace HS := am_ (HS.out.below h7.2)
    have HNT := am_ (HNT1.out w7 HS.out.rl.rw)
    have HCK := am_ (fun W (hW : Below w7.heap.size w7 W) => show W.cell? ⟨k, 14, none⟩ = some (.slice Ab l.length cb) ∧ W.cell? ⟨gs, 1, none⟩ = some (.int .i64 sa) ∧ W.cell? ⟨gs, 2, none⟩ = some (.int .i64 sp) from by
      obtain ⟨_, _, _, _, _, _, _, _, _, _, _, _, _, _, a14⟩ := c15 (HS.out.below hW).hk
      obtain ⟨_, e1, e2, _⟩ := c5 (bk_ h7.1 hW)
      exact ⟨a14, e1, e2⟩)
    have HQc := am_ (Below.refl w7.heap.size w7).drew
    clear h7 hgs d0 d1 d2 d3 d4 hi0 hi1
    refine start_ (n := 13) (S := fun w' => w'.cell? ⟨k, 14, none⟩ = some (.slice Ab l.length cb) ∧ w'.cell? ⟨gs, 1, none⟩ = some (.int .i64 sa) ∧ w'.cell? ⟨gs, 2, none⟩ = some (.int .i64 sp)) (ds := [12]) #[fF,fF,fF,fF,fF,fF,fF,fF,fF,fF,fF,fF,fF] (by kernel_rfl) rfl rfl ⟨(HCK.out _ HQc.out).1, (HCK.out _ HQc.out).2.1, (HCK.out _ HQc.out).2.2⟩ (fun hHeld => ?_)
    refine p_ 0 70 ?_
    refine p_ 1 71 ?_
    refine p_ 2 72 ?_
    refine p_ 3 73 ?_
    refine p_ 5 75 ?_
    refine p_ 7 77 ?_
    refine t_ 4 74 hHeld ?_
    refine t_ 6 76 hHeld ?_
    refine t_ 8 78 hHeld ?_
    refine o_ 9 (some 79) (fun K hK => ?_)
    refine g_ Tryz.func84 #[.slice Ab l.length cb, .bool false, .int .i64 sa, .int .i64 sp] ?_
    with_reducible refine (HNT.out _ HQc.out).mono ?_
    rintro e1 w31 ⟨Ay, cy, rfl, hry, hx⟩
    refine ⟨_, rfl, ?_⟩
    replace HQc := am_ hx
    have HRY := am_ (OwnF.of hry HS.out.ltk HS.out.ltb)
    have HTH := am_ (then_calls Ay y.length cy xe (HS.out.below hx).hk)
    clear hry hx
    refine hK.out _ _ ⟨(HCK.out _ HQc.out).1, (HCK.out _ HQc.out).2.1, (HCK.out _ HQc.out).2.2⟩ (fun hHeld => ?_)
    clear hK K
    refine n_ 79 ?_
    refine p_ 10 80 ?_
    refine p_ 11 81 ?_
    refine l_ 12 (some 82) (fun K hK => ?_)
    refine g_ Tryz.func39 #[.pointer (some ⟨k, 0, none⟩), .slice Ay y.length cy, .int .i64 xe] ?_
    with_reducible refine (HTH.out).mono ?_
    rintro e2 w32 ⟨rfl, hkk, hch⟩
    refine ⟨_, rfl, ?_⟩
    have HKK := am_ hkk
    have HCC := am_ hch
    clear hkk hch
    refine hK.out _ _ ?_
    clear hK K
    refine n_ 82 ?_
    refine done_ (by kernel_rfl) ?_
    go_upto_region 11 with fail
    refine wp_w (fun W => ∃ v, OutS w W k b g gh p A1 c1 A2 c2 x nl (.slice Aw 127 cw) v L1) ?_ ?_
    · obtain ⟨v', h⟩ := (HS.out.below HQc.out).then_ HRY.out HKK.out rfl HCC.out
      rw [← HY1.out] at h
      exact ⟨v', h⟩
    intro w8 h8
    obtain ⟨v8, h8⟩ := h8
    obtain ⟨Ab8, cb8, rfl⟩ := h8.slice
    replace HS := am_ h8
    have HSC := am_ (fun W (hW : Below w8.heap.size w8 W) => stamp_calls (w := W) (h8.ro.rw.below hW).rd rfl h8.ro.rw.le HOL.out HOY.out)
    obtain ⟨k0, k1, k2, k3, k4, k5, k6, k7, k8, k9, k10, k11, k12, k13, k14⟩ := c15 h8.hk
    clear h8 hHeld HKK HCC HRY HTH HNT HNT1 HY1 HCK HQc
    rcases stampL_ok p.opts with hst | ⟨at_, hat1, hat2, hst⟩
    · have HO := am_ (show inL x p nl l s = L1 by unfold inL; rw [hst, if_neg (fun h => by cases h.1), HL1.out])
      rw [hst] at HSC
      clear hst
      go_upto_region 18 with (first
        | (go_at_call 11; ((with_reducible refine (HSC.out _ ?hb).mono ?_); (case hb => (repeat (first | with_reducible exact Below.refl _ _ | with_reducible apply below_alloc | with_reducible apply pw_below_drewN | with_reducible apply below_drew1 | exact bd (Below.refl _ _) _ | exact (Below.refl _ _).drew))); rintro e2 x2 ⟨rfl, hx⟩; have HXY := am_ hx; clear hx)))
      refine wp_w (fun W => ∃ v, OutS w W k b g gh p A1 c1 A2 c2 x nl (.slice Aw 127 cw) v (inL x p nl l s)) ?_ ?_
      · rw [HO.out]
        exact ⟨_, HS.out.below HXY.out⟩
      clear k0 k1 k2 k3 k4 k5 k6 k7 k8 k9 k10 k11 k12 k13 k14 HXY HSC HO
      intro wz hz
      obtain ⟨vz, hz⟩ := hz
      obtain ⟨Az, cz, rfl⟩ := hz.slice
      obtain ⟨k0, k1, k2, k3, k4, k5, k6, k7, k8, k9, k10, k11, k12, k13, k14⟩ := c15 hz.hk
      obtain ⟨t0, t1, t2, t3⟩ := c4 hz.hg
      have u0 := fr_ hz.hg 0
      have u1 := fr_ hz.hg 1
      have u2 := fr_ hz.hg 2
      have u3 := fr_ hz.hg 3
      have HSZ := am_ hz
      clear hz
      go_wp2
      obtain ⟨f1, f2, f3, f4⟩ := HSZ.out.fin (.int .i64 0) (.int .i64 (s : Int)) (.bool is1) (.slice Az (inL x p nl l s).length cz)
      exact bodyPost_ret (results_cell_row rfl _ _ g 46 #[.int .i64 0, .int .i64 (s : Int), .bool is1, .slice Az (inL x p nl l s).length cz] (0, 0) _ rfl f1 Tryz.underlying46 rfl info48) rfl (Or.inr (by first | exact ⟨Az, cz, rfl, f2, f3, f4⟩ | exact ⟨Az, cz, rfl, f2, f3, f4, Int.natCast_nonneg _⟩))
    · obtain ⟨val, hval⟩ : ∃ z, numV p.opts at_ = z := ⟨_, rfl⟩
      obtain ⟨ech, hech⟩ : ∃ z, numV p.opts (at_ + 4) = z := ⟨_, rfl⟩
      rw [hval, hech] at hst
      rw [hst] at HSC
      have hk1 : p.kind = 1 := by
        rcases HKD.out with h | ⟨_, h⟩
        · exact h
        · rw [h] at hat1
          simp at hat1
      have hkd : (p.kind == 1) = true := beq_iff_eq.mpr hk1
      by_cases he0 : ech = 0
      · have hde : (ech != 0) = false := by rw [he0]; rfl
        have HO := am_ (show inL x p nl l s = L1 by unfold inL; rw [hst, if_neg (fun h => h.2 he0), HL1.out])
        clear hst hval hech hk1 he0
        go_upto_region 18 with (first
          | (go_at_call 11; ((with_reducible refine (HSC.out _ ?hb).mono ?_); (case hb => (repeat (first | with_reducible exact Below.refl _ _ | with_reducible apply below_alloc | with_reducible apply pw_below_drewN | with_reducible apply below_drew1 | exact bd (Below.refl _ _) _ | exact (Below.refl _ _).drew))); rintro e2 x2 ⟨rfl, hx⟩; have HXY := am_ hx; obtain ⟨k0, k1, k2, k3, k4, k5, k6, k7, k8, k9, k10, k11, k12, k13, k14⟩ := c15 (HS.out.below hx).hk; clear hx)))
        refine wp_w (fun W => ∃ v, OutS w W k b g gh p A1 c1 A2 c2 x nl (.slice Aw 127 cw) v (inL x p nl l s)) ?_ ?_
        · rw [HO.out]
          exact ⟨_, HS.out.below HXY.out⟩
        clear k0 k1 k2 k3 k4 k5 k6 k7 k8 k9 k10 k11 k12 k13 k14 HXY HSC HO
        intro wz hz
        obtain ⟨vz, hz⟩ := hz
        obtain ⟨Az, cz, rfl⟩ := hz.slice
        obtain ⟨k0, k1, k2, k3, k4, k5, k6, k7, k8, k9, k10, k11, k12, k13, k14⟩ := c15 hz.hk
        obtain ⟨t0, t1, t2, t3⟩ := c4 hz.hg
        have u0 := fr_ hz.hg 0
        have u1 := fr_ hz.hg 1
        have u2 := fr_ hz.hg 2
        have u3 := fr_ hz.hg 3
        have HSZ := am_ hz
        clear hz
        go_wp2
        obtain ⟨f1, f2, f3, f4⟩ := HSZ.out.fin (.int .i64 0) (.int .i64 (s : Int)) (.bool is1) (.slice Az (inL x p nl l s).length cz)
        exact bodyPost_ret (results_cell_row rfl _ _ g 46 #[.int .i64 0, .int .i64 (s : Int), .bool is1, .slice Az (inL x p nl l s).length cz] (0, 0) _ rfl f1 Tryz.underlying46 rfl info48) rfl (Or.inr (by first | exact ⟨Az, cz, rfl, f2, f3, f4⟩ | exact ⟨Az, cz, rfl, f2, f3, f4, Int.natCast_nonneg _⟩))
      · have hde : (ech != 0) = true := by simpa using he0
        obtain ⟨⟨nv, nb⟩, hn⟩ : ∃ z, nl.getD s (0, false) = z := ⟨_, rfl⟩
        obtain ⟨bk, hbk⟩ : ∃ z, (if nb = true then backC ech nv else 0) = z := ⟨_, rfl⟩
        have HBK := am_ hbk
        obtain ⟨⟨y, xe⟩, hy2⟩ : ∃ r, writeR L1 (24 + (at_ : Int) + 4) 4 bk = r := ⟨_, rfl⟩
        have HO := am_ (show inL x p nl l s = thenL L1 (y, xe) by unfold inL; rw [hst, if_pos ⟨rfl, he0⟩, HL1.out, hn]; simp only; rw [hbk, hy2])
        have HNR := am_ (fun W (hW : Below w8.heap.size w8 W) => show Calls Tryz.prog 85 #[.pointer (some ⟨b, 0, none⟩), .int .i64 (s : Int)] W fun e w' => e = .returned (.tuple #[.int .u32 nv, .bool nb]) ∧ Below W.heap.size W w' from by
          have h := near_calls (HS.out.below hW).hp HS64.out
          rw [hn] at h
          exact h)
        have HBC := am_ (fun W => back_calls ech nv W)
        have HBB := am_ (back_some ech nv).2
        have hw24 : wrap64 (24 + (at_ : Int)) = 24 + (at_ : Int) := wid (by omega) (by have := HOL.out; omega)
        have hw28 : wrap64 (24 + (at_ : Int) + 4) = 24 + (at_ : Int) + 4 := wid (by omega) (by have := HOL.out; omega)
        have HW24 := am_ hw24
        have HW28 := am_ hw28
        have HYY := am_ hy2
        clear hst hval hech hk1 he0 hn hbk hy2 hw24 hw28
        go_upto_if 116 with (first
          | (go_at_call 11; ((with_reducible refine (HSC.out _ ?hb).mono ?_); (case hb => (repeat (first | with_reducible exact Below.refl _ _ | with_reducible apply below_alloc | with_reducible apply pw_below_drewN | with_reducible apply below_drew1 | exact bd (Below.refl _ _) _ | exact (Below.refl _ _).drew))); rintro e2 x2 ⟨rfl, hx⟩; have HXY := am_ hx; obtain ⟨k0, k1, k2, k3, k4, k5, k6, k7, k8, k9, k10, k11, k12, k13, k14⟩ := c15 (HS.out.below hx).hk; clear hx))
          | (go_at_call 85; ((with_reducible refine (HNR.out _ ?hb).mono ?_); (case hb => first | exact HXY.out | exact HXY.out.drew | exact bd HXY.out _ | (repeat (first | with_reducible exact Below.refl _ _ | with_reducible apply below_alloc | with_reducible apply pw_below_drewN | with_reducible apply below_drew1 | exact bd (Below.refl _ _) _ | exact (Below.refl _ _).drew))); rintro e3 x3 ⟨rfl, hx⟩; have HXZ := am_ (below_step HXY.out hx); clear hx)))
        refine wp_w (fun W => Below w8.heap.size w8 W) ?_ ?_
        · exact HXZ.out
        intro w9 h9
        replace HS := am_ (HS.out.below h9)
        clear h9 HXY HXZ HNR HSC k0 k1 k2 k3 k4 k5 k6 k7 k8 k9 k10 k11 k12 k13 k14
        go_cut [12] (fun s12 wx => s12 = .int .i64 bk ∧ Aside (Below w9.heap.size w9 wx))
        case first =>
          cases nb with
          | true =>
            obtain rfl : backC ech nv = bk := HBK.out
            have hwb : wrap64 (backC ech nv) = backC ech nv := wid (by have := HBB.out.1; omega) (by have := HBB.out.2; omega)
            go_wp2_with (first | (go_at_call 86; ((with_reducible refine (HBC.out _).mono ?_); rintro e2 x2 ⟨rfl, hx⟩; have HX2 := am_ hx; clear hx)))
            go_meet
            exact ⟨by first | rfl | (rw [hwb]), (by exact HX2.out)⟩
          | false =>
            obtain rfl : 0 = bk := HBK.out
            go_wp2
            go_meet
            exact ⟨rfl, (by exact Below.refl _ _)⟩
        case rest =>
        obtain ⟨rfl, hw9⟩ := hcut
        rename World => w10
        replace HS := am_ (HS.out.below hw9.out)
        have HWR := am_ (write_at (W0 := w10) HS.out.rl.rw rfl H1S.out.2 H1S.out.1 (24 + (at_ : Int) + 4) 4 bk HYY.out)
        obtain ⟨k0, k1, k2, k3, k4, k5, k6, k7, k8, k9, k10, k11, k12, k13, k14⟩ := c15 HS.out.hk
        have hw24 := HW24.out
        have hw28 := HW28.out
        clear hw9 HBC HBB HBK HYY
        go_upto_region 18 with (first
          | (go_at_call 81; ((with_reducible refine (HWR.out _ ?hb).mono ?_); (case hb => (repeat (first | with_reducible exact Below.refl _ _ | with_reducible apply below_alloc | with_reducible apply pw_below_drewN | with_reducible apply below_drew1 | exact bd (Below.refl _ _) _ | exact (Below.refl _ _).drew))); rintro e2 x2 ⟨Ay, cy, rfl, hry, hx⟩; have HXY := am_ hx; have HRY := am_ (OwnF.of hry HS.out.ltk HS.out.ltb); have HTH := am_ (then_calls Ay y.length cy xe (HS.out.below hx).hk); clear hry hx))
          | (go_at_call 39; ((with_reducible refine HTH.out.mono ?_); rintro e3 x3 ⟨rfl, hk, hch⟩; have HKK := am_ hk; have HCC := am_ hch; clear hk hch)))
        refine wp_w (fun W => ∃ v, OutS w W k b g gh p A1 c1 A2 c2 x nl (.slice Aw 127 cw) v (inL x p nl l s)) ?_ ?_
        · rw [HO.out]
          exact (HS.out.below HXY.out).then_ HRY.out HKK.out rfl HCC.out
        clear k0 k1 k2 k3 k4 k5 k6 k7 k8 k9 k10 k11 k12 k13 k14 HKK HCC HRY HTH HXY HWR HO hw24 hw28
        intro wz hz
        obtain ⟨vz, hz⟩ := hz
        obtain ⟨Az, cz, rfl⟩ := hz.slice
        obtain ⟨k0, k1, k2, k3, k4, k5, k6, k7, k8, k9, k10, k11, k12, k13, k14⟩ := c15 hz.hk
        obtain ⟨t0, t1, t2, t3⟩ := c4 hz.hg
        have u0 := fr_ hz.hg 0
        have u1 := fr_ hz.hg 1
        have u2 := fr_ hz.hg 2
        have u3 := fr_ hz.hg 3
        have HSZ := am_ hz
        clear hz
        go_wp2
        obtain ⟨f1, f2, f3, f4⟩ := HSZ.out.fin (.int .i64 0) (.int .i64 (s : Int)) (.bool is1) (.slice Az (inL x p nl l s).length cz)
        exact bodyPost_ret (results_cell_row rfl _ _ g 46 #[.int .i64 0, .int .i64 (s : Int), .bool is1, .slice Az (inL x p nl l s).length cz] (0, 0) _ rfl f1 Tryz.underlying46 rfl info48) rfl (Or.inr (by first | exact ⟨Az, cz, rfl, f2, f3, f4⟩ | exact ⟨Az, cz, rfl, f2, f3, f4, Int.natCast_nonneg _⟩))
/-- What Take asks of the bytes that it gets: they are p's, to be aged to y. -/
structure TakeOk (w : World) (Ab : Option Addr) (cb : Nat) (l : List Int) (p : Pk) (y : List Int) : Prop where
  rw : Rw w Ab cb l
  ll : l.length ≤ 10000
  ly : Bytes l
  pr : parseL l = (p, 0)
  pc : p.piece = 0
  lf : 2 ≤ p.life
  k3 : p.kind ≠ 3
  ag : ageR l = (y, 0)
  yy : Bytes y
  yl : y.length ≤ 10000
  oy : Bytes p.opts
  ol : p.opts.length ≤ 1000
theorem take_fin {k b g : Nat} {w W : World} {A : Option Addr} {c : Nat} {l : List Int} {x : Po} {near : List Value} {wv : Value} (ho : OwnF k b W (.slice A l.length c) l) (hg : W.heap[g]? = some (.cells #[.int .i64 0, .int .i64 0, .bool false, .slice none 0 0] 46 (0, 0))) (hp : PlaneAt W b x true near wv) (hgb : g ≠ b) (hf : Grw b w W) (hle : w.heap.size ≤ g) (v0 v1 v2 v3 : Value) :
    ((((W.setCell ⟨g, 0, none⟩ v0).setCell ⟨g, 1, none⟩ v1).setCell ⟨g, 2, none⟩ v2).setCell ⟨g, 3, none⟩ v3).heap[g]? = some (.cells #[v0, v1, v2, v3] 46 (0, 0)) ∧
      Rw ((((W.setCell ⟨g, 0, none⟩ v0).setCell ⟨g, 1, none⟩ v1).setCell ⟨g, 2, none⟩ v2).setCell ⟨g, 3, none⟩ v3) A c l ∧ PlaneAt ((((W.setCell ⟨g, 0, none⟩ v0).setCell ⟨g, 1, none⟩ v1).setCell ⟨g, 2, none⟩ v2).setCell ⟨g, 3, none⟩ v3) b x true near wv ∧
      Grw b w ((((W.setCell ⟨g, 0, none⟩ v0).setCell ⟨g, 1, none⟩ v1).setCell ⟨g, 2, none⟩ v2).setCell ⟨g, 3, none⟩ v3) := by
  have e0 := heap_setCell_same W g 0 _ 46 v0 hg
  have e1 := heap_setCell_same _ g 1 _ 46 v1 e0
  have e2 := heap_setCell_same _ g 2 _ 46 v2 e1
  have e3 := heap_setCell_same _ g 3 _ 46 v3 e2
  have hc : Chg g W ((((W.setCell ⟨g, 0, none⟩ v0).setCell ⟨g, 1, none⟩ v1).setCell ⟨g, 2, none⟩ v2).setCell ⟨g, 3, none⟩ v3) := ((((Chg.refl g W).set _ _).set _ _).set _ _).set _ _
  refine ⟨e3, OwnF.rw ((((ho.setg hg 0 v0).setg e0 1 v1).setg e1 2 v2).setg e2 3 v3), ⟨hp.1, hp.2.1, (hc.block b (Ne.symm hgb)).trans hp.2.2⟩, ⟨hc.os.trans hf.os, hc.tape.trans hf.tape, hc.output.trans hf.output, ?_, fun j hj h2 => (hc.block j (by omega)).trans (hf.block j hj h2)⟩⟩
  rw [hc.size]
  exact hf.size
theorem take_fin0 {b g : Nat} {w W : World} (hgb : g ≠ b) (hf : Grw b w W) (hle : w.heap.size ≤ g) (v0 v1 v2 v3 : Value) :
    Grw b w ((((W.setCell ⟨g, 0, none⟩ v0).setCell ⟨g, 1, none⟩ v1).setCell ⟨g, 2, none⟩ v2).setCell ⟨g, 3, none⟩ v3) := by
  have hc : Chg g W ((((W.setCell ⟨g, 0, none⟩ v0).setCell ⟨g, 1, none⟩ v1).setCell ⟨g, 2, none⟩ v2).setCell ⟨g, 3, none⟩ v3) := ((((Chg.refl g W).set _ _).set _ _).set _ _).set _ _
  refine ⟨hc.os.trans hf.os, hc.tape.trans hf.tape, hc.output.trans hf.output, ?_, fun j hj h2 => (hc.block j (by omega)).trans (hf.block j hj h2)⟩
  rw [hc.size]
  exact hf.size
theorem grw_frm {k b : Nat} {w W W' : World} (h : Below w.heap.size w W) (hk : w.heap.size ≤ k) (f : Frm k b W W') : Grw b w W' :=
  ⟨f.os.trans h.os, f.tape.trans h.tape, f.output.trans h.output, Nat.le_trans h.size f.size, fun j hj h2 => (f.block j (Nat.lt_of_lt_of_le hj h.size) (by omega) h2).trans (h.block j hj)⟩
theorem take_in_cases {k b g : Nat} {w w' : World} {e : Ending} {R : Int × Bool} {L : List Int} {x : Po} {near : List Value} {wv : Value} {ob : Obj}
    (h : (R.1 < 0 ∧ e = .returned (.agg #[.int .i64 9, .int .i64 (-1), .bool false, .slice none 0 0]) ∧ Frm k b w w') ∨ ∃ A c, e = .returned (.agg #[.int .i64 0, .int .i64 R.1, .bool R.2, .slice A L.length c]) ∧ OwnF k b w' (.slice A L.length c) L ∧ PlaneAt w' b x true near wv ∧ Frm k b w w' ∧ 0 ≤ R.1)
    (hg : w.heap[g]? = some ob) (h1 : g ≠ k) (h2 : g ≠ b) :
    ∃ (d s : Int) (ck : Bool) (A : Option Addr) (n c : Nat), e = .returned (.agg #[.int .i64 d, .int .i64 s, .bool ck, .slice A n c]) ∧ w'.heap[g]? = some ob ∧ ((R.1 < 0 ∧ d = 9 ∧ s = -1 ∧ ck = false ∧ A = none ∧ n = 0 ∧ c = 0 ∧ Frm k b w w') ∨
      (d = 0 ∧ s = R.1 ∧ ck = R.2 ∧ n = L.length ∧ OwnF k b w' (.slice A L.length c) L ∧ PlaneAt w' b x true near wv ∧ Frm k b w w' ∧ 0 ≤ R.1)) := by
  rcases h with ⟨h0, rfl, hf⟩ | ⟨A, c, rfl, ho, hp, hf, h0⟩
  · exact ⟨9, -1, false, none, 0, 0, rfl, hf.blk hg h1 h2, Or.inl ⟨h0, rfl, rfl, rfl, rfl, rfl, rfl, hf⟩⟩
  · exact ⟨0, R.1, R.2, A, L.length, c, rfl, hf.blk hg h1 h2, Or.inr ⟨rfl, rfl, rfl, rfl, ho, hp, hf, h0⟩⟩
theorem take_in {b : Nat} {x : Po} {nl : List (Int × Bool)} {Aw : Option Addr} {cw : Nat} {w : World} (hP : PlaneAt w b x true (nearV nl) (.slice Aw 127 cw)) {Ab : Option Addr} {cb : Nat} {l y : List Int} {p : Pk} (hT : TakeOk w Ab cb l p y)
    (hdst : p.dst = x.ad) (htp : p.tp = x.po) (hw : Kd.C (Kd.int .i64) w Aw 127 (wheelL x)) (hcw : 127 ≤ cw) (hkd : p.kind = 1 ∨ (p.kind = 2 ∧ p.opts = [])) (h1 : ∀ s : Nat, s < 64 → Bytes (in1 x y s) ∧ (in1 x y s).length ≤ 10000) {R : Int × Bool} (hR : inS x p = R) :
    Calls Tryz.prog 10 #[.pointer (some ⟨b, 0, none⟩), .slice Ab l.length cb] w fun e w' => (R.1 < 0 ∧ e = .returned (.agg #[.int .i64 9, .int .i64 (-1), .bool false, .slice none 0 0]) ∧ Grw b w w') ∨
      ∃ A c, e = .returned (.agg #[.int .i64 0, .int .i64 R.1, .bool R.2, .slice A (inL x p nl y R.1.toNat).length c]) ∧ Rw w' A c (inL x p nl y R.1.toNat) ∧ PlaneAt w' b x true (nearV nl) (.slice Aw 127 cw) ∧ Grw b w w' ∧ 0 ≤ R.1 := by
  have hda : (p.dst == x.ad) = true := beq_iff_eq.mpr hdst
  have hdb : (p.tp == x.po) = true := beq_iff_eq.mpr htp
  have HWH := am_ hw
  have HCW := am_ hcw
  have HKD := am_ hkd
  have HH1 := am_ h1
  have HRR := am_ hR
  clear hdst htp hw hcw hkd h1 hR
  have HP := am_ hP
  have HT := am_ hT
  have HPA0 := am_ (fun W (hW : Below w.heap.size w W) => parse_at (W0 := W) (hT.rw.below hW) rfl hT.ll hT.ly hT.pr)
  have HAG0 := am_ (fun W (hW : Below w.heap.size w W) => age_at (W0 := W) (hT.rw.below hW) rfl hT.ll hT.ly hT.ag)
  have hd : decide (p.life < 2) = false := decide_eq_false (by have := hT.lf; omega)
  have hdp : (p.piece != 0) = false := by rw [hT.pc]; rfl
  have hdk : (p.kind == 3) = false := beq_eq_false_iff_ne.mpr hT.k3
  have HBL := am_ (blk_lt hP.2.2)
  clear hP hT
  obtain ⟨g, HG⟩ : ∃ g, w.heap.size = g := ⟨_, rfl⟩
  have HLE := am_ (show w.heap.size ≤ g by omega)
  go_enter Tryz.func10, Tryz.ntmps10
  go_upto_region 1 with fail
  refine wp_w (fun W => W.heap[g]? = some (.cells #[.int .i64 0, .int .i64 0, .bool false, .slice none 0 0] 46 (0, 0)) ∧ Below w.heap.size w W) ?_ ?_
  · exact ⟨(box_at w HG _).1, (box_at w HG _).2.1⟩
  intro w1 h1
  have HR1 := am_ h1.1
  have HB1 := am_ h1.2
  have b330 := (HP.out.below h1.2).c_is
  have HPA := am_ (HPA0.out w1 h1.2)
  clear h1 HG
  go_upto_region 4 with (first
    | (go_at_call 38; ((with_reducible refine (HPA.out _ ?hb).mono ?_); (case hb => first | exact Below.refl _ _ | exact bd (Below.refl _ _) _ | exact (Below.refl _ _).drew); rintro e1 x1 ⟨A1, c1, A2, c2, rfl, ho1, ho2, hsep, hx⟩; have HX1 := am_ hx; have HO1 := am_ ho1; obtain ⟨g5, hg5⟩ : ∃ n, x1.heap.size = n := ⟨_, rfl⟩; clear ho1 ho2 hsep hx)))
  refine wp_w (fun W => W.heap[g5]? = some (.cells #[.int .i64 p.kind, .int .i64 p.life, .int .i64 p.piece, .int .i64 p.frm, .int .i64 p.dst, .int .i64 p.fp, .int .i64 p.tp, .int .i64 p.flags, .int .i64 p.label, .bool p.bare, .int .i64 p.code, .slice A1 p.opts.length c1, .slice A2 p.data.length c2] 37 (0, 0)) ∧ Below x1.heap.size x1 W) ?_ ?_
  · exact ⟨by rw [← hg5]; exact new_blk x1 _, below_alloc (Below.refl _ x1) _⟩
  intro w2 h2
  have HK2 := am_ h2.1
  have HY2 := am_ h2.2
  have HX2 := am_ (below_step HX1.out h2.2)
  have HL5 := am_ (show w1.heap.size ≤ g5 from by rw [← hg5]; exact HX1.out.size)
  have HG5 := am_ (show x1.heap.size ≤ g5 from Nat.le_of_eq hg5)
  obtain ⟨k0, k1, k2, k3, k4, k5, k6, k7, k8, k9, k10, k11, k12⟩ := c13 h2.1
  clear h2 b330 hg5
  obtain ⟨g6, hg6⟩ : ∃ n, w2.heap.size = n := ⟨_, rfl⟩
  go_upto_region 11 with fail
  refine wp_w (fun W => W.heap[g6]? = some (.cells (pkA p A1 c1 A2 c2 b (.slice Ab l.length cb)) 96 (0, 0)) ∧ Below w2.heap.size w2 W) ?_ ?_
  · exact ⟨by rw [← hg6]; exact new_blk w2 _, below_alloc (Below.refl _ w2) _⟩
  intro w3 h3
  have HK3 := am_ h3.1
  have HX3 := am_ h3.2
  have HL6 := am_ (show g5 < g6 from by rw [← hg6]; exact blk_lt HK2.out)
  clear h3 hg6 k0 k1 k2 k3 k4 k5 k6 k7 k8 k9 k10 k11 k12 hd hdp
  have HB3 := am_ (below_step (below_step HB1.out HX2.out) HX3.out)
  have HAG := am_ (HAG0.out w3 HB3.out)
  have HBW := am_ (show b < w3.heap.size from Nat.lt_of_lt_of_le HBL.out HB3.out.size)
  have HKW := am_ (show g6 < w3.heap.size from blk_lt HK3.out)
  go_upto_region 12 with (first
    | (go_at_call 40; ((with_reducible refine (HAG.out _ (Below.refl _ _)).mono ?_); rintro e2 x2 ⟨Ay, cy, rfl, hry, hx⟩; have HXY := am_ hx; have HRY := am_ (OwnF.of hry HKW.out HBW.out); clear hry hx; have HKY := am_ (bk_ HK3.out HXY.out); have HTH := am_ (then_calls Ay y.length cy 0 HKY.out)))
    | (go_at_call 39; ((with_reducible refine HTH.out.mono ?_); rintro e3 x3 ⟨rfl, hk, hch⟩; have HK4 := am_ hk; have HC4 := am_ hch; clear hk hch)))
  refine wp_w (fun W => W.heap[g6]? = some (.cells (pkA p A1 c1 A2 c2 b (.slice Ay y.length cy)) 96 (0, 0)) ∧ W.heap[g5]? = some (.cells #[.int .i64 p.kind, .int .i64 p.life, .int .i64 p.piece, .int .i64 p.frm, .int .i64 p.dst, .int .i64 p.fp, .int .i64 p.tp, .int .i64 p.flags, .int .i64 p.label, .bool p.bare, .int .i64 p.code, .slice A1 p.opts.length c1, .slice A2 p.data.length c2] 37 (0, 0)) ∧ PlaneAt W b x true (nearV nl) (.slice Aw 127 cw) ∧ W.heap[g]? = some (.cells #[.int .i64 0, .int .i64 0, .bool false, .slice none 0 0] 46 (0, 0)) ∧ OwnF g6 b W (.slice A1 p.opts.length c1) p.opts ∧ OwnF g6 b W (.slice Ay y.length cy) y ∧ Below w.heap.size w W) ?_ ?_
  · have l5 := HL6.out
    have l6 := HL5.out
    have lg := blk_lt HR1.out
    have lb := blk_lt HP.out.2.2
    have lw := HB1.out.size
    have ho : OwnF g6 b x1 (.slice A1 p.opts.length c1) p.opts := OwnF.of2 HO1.out (by have := HG5.out; omega) (by omega)
    refine ⟨HK4.out, (HC4.out.block _ (by omega)).trans (bk_ (bk_ HK2.out HX3.out) HXY.out), ?_, (HC4.out.block _ (by omega)).trans (bk_ (bk_ (bk_ HR1.out HX2.out) HX3.out) HXY.out), (((ho.frm (Frm.of_below HY2.out)).frm (Frm.of_below HX3.out)).frm (Frm.of_below HXY.out)).frm (Frm.of_k HC4.out), HRY.out.frm (Frm.of_k HC4.out), Chg.step (below_step HB3.out HXY.out) HC4.out (by omega)⟩
    have hp := HP.out.below (below_step HB3.out HXY.out)
    exact ⟨hp.1, hp.2.1, (HC4.out.block _ (by omega)).trans hp.2.2⟩
  intro w5 h5
  have HK5 := am_ h5.1
  have HF5 := am_ h5.2.1
  have HP5 := am_ h5.2.2.1
  have HR5 := am_ h5.2.2.2.1
  have HO5 := am_ h5.2.2.2.2.1
  have HY5 := am_ h5.2.2.2.2.2.1
  have HB5 := am_ h5.2.2.2.2.2.2
  have HN6 := am_ (show g6 ≠ b ∧ g ≠ b ∧ g ≠ g6 ∧ w.heap.size ≤ g6 from by
    have l5 := HL6.out
    have l6 := HL5.out
    have lg := blk_lt HR1.out
    have lb := HBL.out
    have lw := HB1.out.size
    have le := HLE.out
    omega)
  obtain ⟨k0, k1, k2, k3, k4, k5, k6, k7, k8, k9, k10, k11, k12⟩ := c13 h5.2.1
  obtain ⟨b1, b2⟩ := HP5.out.c_ad
  clear h5 HK4 HC4 HXY HKY HTH HAG HPA HPA0 HAG0 HRY HO1 HK2 HK3 HY2 HX1 HX2 HX3 HL5 HL6 HG5 HKW HBW HR1 HB1 HB3
  go_upto_region 16 with fail
  refine start_ (n := 20) (S := fun w' => w'.cell? ⟨g5, 4, none⟩ = some (.int .i64 p.dst) ∧ w'.cell? ⟨g5, 6, none⟩ = some (.int .i64 p.tp) ∧ w'.cell? ⟨b, 1, none⟩ = some (.int .i64 x.ad) ∧ w'.cell? ⟨b, 2, none⟩ = some (.int .i64 x.po)) (ds := []) #[fF,fF,fF,fF,fF,fF,fF,fF,fF,fF,fF,fF,fF,fF,fF,fF,fF,fF,fF,fF] (by kernel_rfl) rfl rfl ⟨k4, k6, b1, b2⟩ (fun hHeld => ?_)
  refine p_ 0 63 ?_
  refine p_ 2 65 ?_
  refine p_ 3 66 ?_
  refine p_ 4 67 ?_
  refine p_ 5 68 ?_
  refine p_ 6 69 ?_
  refine t_ 1 64 hHeld ?_
  refine t_ 7 70 hHeld ?_
  refine p_ 8 71 ?_
  refine p_ 9 72 ?_
  refine p_ 10 73 ?_
  refine p_ 12 75 ?_
  refine p_ 13 76 ?_
  refine p_ 14 77 ?_
  refine p_ 15 78 ?_
  refine p_ 16 79 ?_
  refine t_ 11 74 hHeld ?_
  refine t_ 17 80 hHeld ?_
  refine p_ 18 81 ?_
  refine p_ 19 82 ?_
  refine done_ (by kernel_rfl) ?_
  go_upto_region 17 with fail
  refine wp_w (fun W => Below w5.heap.size w5 W) ?_ ?_
  · first
      | exact Below.refl _ _
      | exact (Below.refl _ _).drew
      | exact bd (Below.refl _ _) _
  intro w7 h7
  have HIC := am_ (in_calls (bk_ HK5.out h7) (HP5.out.below h7) HN6.out.1 (Kd.C_below HWH.out (below_step HB5.out h7)) HCW.out (HO5.out.frm (Frm.of_below h7)) (HY5.out.frm (Frm.of_below h7)) HT.out.yy HT.out.yl HT.out.oy HT.out.ol HKD.out HH1.out HRR.out)
  have HR7 := am_ (bk_ HR5.out h7)
  have HB7 := am_ (below_step HB5.out h7)
  clear h7 k0 k1 k2 k3 k4 k5 k6 k7 k8 k9 k10 k11 k12 b1 b2
  go_wp2_with (first
    | (go_at_call 42; ((with_reducible refine HIC.out.mono ?_); rintro e4 x4 hin; have HINN := am_ (take_in_cases hin HR7.out HN6.out.2.2.1 HN6.out.2.1); clear hin; obtain ⟨d_, s_, ck_, A, n_, c, rfl, hR8, hv⟩ := HINN.out; have HV := am_ hv; have HR8 := am_ hR8; obtain ⟨t0, t1, t2, t3⟩ := c4 HR8.out; have u0 := fr_ HR8.out 0; have u1 := fr_ HR8.out 1; have u2 := fr_ HR8.out 2; have u3 := fr_ HR8.out 3; clear hR8 hv)))
  rcases HV.out with ⟨hneg, rfl, rfl, rfl, rfl, rfl, rfl, hfr⟩ | ⟨rfl, rfl, rfl, rfl, hro, hpo, hfr, hr0⟩
  · refine bodyPost_ret (results_cell_row rfl _ _ g 46 #[.int .i64 9, .int .i64 (-1), .bool false, .slice none 0 0] (0, 0) _ rfl (heap_setCell_same _ g 3 _ 46 _ (heap_setCell_same _ g 2 _ 46 _ (heap_setCell_same _ g 1 _ 46 _ (heap_setCell_same _ g 0 _ 46 _ HR8.out)))) Tryz.underlying46 rfl info48) rfl ?_
    exact Or.inl ⟨hneg, rfl, take_fin0 HN6.out.2.1 (grw_frm HB7.out HN6.out.2.2.2 hfr) HLE.out _ _ _ _⟩
  · obtain ⟨f1, f2, f3, f4⟩ := take_fin hro HR8.out hpo HN6.out.2.1 (grw_frm HB7.out HN6.out.2.2.2 hfr) HLE.out (.int .i64 0) (.int .i64 R.1) (.bool R.2) (.slice A (inL x p nl y R.1.toNat).length c)
    refine bodyPost_ret (results_cell_row rfl _ _ g 46 #[.int .i64 0, .int .i64 R.1, .bool R.2, .slice A (inL x p nl y R.1.toNat).length c] (0, 0) _ rfl f1 Tryz.underlying46 rfl info48) rfl ?_
    exact Or.inr ⟨A, c, rfl, f2, f3, f4, hr0⟩
theorem Kp.same {b : List Int} {p q : Pk} {len : Nat} (h : Kp b p len) (e : q = p) : Kp b q len := e ▸ h
theorem kp_in1 {x : Po} {m : Nat} (hI : Inv x m) {b : List Int} {p : Pk} {len : Nat} (h : Kp b p len) (h3 : p.kind ≠ 3) {s : Nat} (hs : s < 64) : Kp (in1 x b s) { p with dst := (x.s s).ad, tp := (x.s s).po } len := by
  have hp := hI.pl s hs
  unfold in1
  exact kp_dst h h3 hp.1 hp.2.1 hp.2.2.1 hp.2.2.2
/-- What may be built, and taken apart again, and is not a fault. -/
structure Pok (p : Pk) : Prop where
  e : buildE p = 0
  c : Canon p
  k3 : p.kind ≠ 3
  k : p.kind = 1 ∨ p.kind = 2
  ol : p.opts.length ≤ 40
  dl : p.data.length ≤ 1500
/-- The bytes that are built of it. -/
theorem pok_build {p : Pk} (h : Pok p) : Kp (buildL p) p (nL p) ∧ parseL (buildL p) = (p, 0) ∧ nL p ≤ 1500 := by
  obtain ⟨o, e, w, l, y⟩ := parse_build h.e h.c
  refine ⟨kp_build h.e h.c h.k3, by rw [o.parse, e], ?_⟩
  obtain ⟨_, _, _, _, _, hn, _⟩ := built_of h.e
  exact hn
theorem age_of {b : List Int} {p : Pk} {len : Nat} (h : Kp b p len) (h2 : 2 ≤ p.life) : ageR b = (thenL b (ageR b), 0) := by
  rw [ageR_ok h.o (by rw [h.life]; exact h2), thenL_ok]
theorem take_ok {w : World} {A : Option Addr} {c : Nat} {p : Pk} (h : Pok p) (hp : p.piece = 0) (hl : p.life = 9 ∨ p.life = 8) (hr : Rw w A c (buildL p)) : TakeOk w A c (buildL p) p (thenL (buildL p) (ageR (buildL p))) := by
  obtain ⟨hk, hpr, hn⟩ := pok_build h
  have ha := kp_age hk (by omega)
  exact ⟨hr, by rw [hk.l]; omega, hk.y, hpr, hp, by omega, h.k3, age_of hk (by omega), ha.y, by rw [ha.l]; omega, h.c.bo, by have := h.ol; omega⟩
theorem in1_ok {x : Po} {m : Nat} (hI : Inv x m) {p : Pk} (h : Pok p) (hl : 2 ≤ p.life) : ∀ s : Nat, s < 64 → Bytes (in1 x (thenL (buildL p) (ageR (buildL p))) s) ∧ (in1 x (thenL (buildL p) (ageR (buildL p))) s).length ≤ 10000 := by
  intro s hs
  obtain ⟨hk, hpr, hn⟩ := pok_build h
  have hi := kp_in1 hI (kp_age hk (by omega)) h.k3 hs
  exact ⟨hi.y, by rw [hi.l]; omega⟩
theorem pok_in {p : Pk} (h : Pok p) : p.kind = 1 ∨ (p.kind = 2 ∧ p.opts = []) := by
  rcases h.k with k | k
  · exact Or.inl k
  · exact Or.inr ⟨k, (h.c.g k).2.2⟩
def pk13 (p : Pk) (A1 : Option Addr) (c1 : Nat) (A2 : Option Addr) (c2 : Nat) : Array Value :=
  #[.int .i64 p.kind, .int .i64 p.life, .int .i64 p.piece, .int .i64 p.frm, .int .i64 p.dst, .int .i64 p.fp, .int .i64 p.tp, .int .i64 p.flags, .int .i64 p.label, .bool p.bare, .int .i64 p.code, .slice A1 p.opts.length c1, .slice A2 p.data.length c2]
theorem Frm.of_grw1 {k b : Nat} {w w' : World} (h : Grw k w w') : Frm k b w w' := ⟨h.os, h.tape, h.output, h.size, fun j hj h1 _ => h.block j hj h1⟩
theorem Frm.of_grw2 {k b : Nat} {w w' : World} (h : Grw b w w') : Frm k b w w' := ⟨h.os, h.tape, h.output, h.size, fun j hj _ h2 => h.block j hj h2⟩
theorem PlaneAt.frm {k b g : Nat} {w w' : World} {p : Po} {is : Bool} {near : List Value} {wv : Value} (h : PlaneAt w g p is near wv) (f : Grw k w w') (hne : g ≠ k) : PlaneAt w' g p is near wv :=
  ⟨h.1, h.2.1, (f.block g (blk_lt h.2.2) hne).trans h.2.2⟩
theorem PoolAt.frm {k b g : Nat} {w w' : World} {p : Po} (h : PoolAt w g p) (f : Grw k w w') (hne : g ≠ k) : PoolAt w' g p := (f.block g (blk_lt h) hne).trans h
theorem pnew_at {w : World} {g : Nat} (h : w.heap.size = g) : Calls Tryz.prog 8 #[] w fun e w' => e = .returned (.pointer (some ⟨g, 0, none⟩)) ∧ PlaneAt w' g Po.z false nearZ (.slice none 0 0) ∧ Below w.heap.size w w' := by
  subst h
  exact pnew_calls w
def pk0 : Pk := ⟨2, 9, 0, 1, 10, 0, 80, 0, 0, false, 0, [], []⟩
theorem pk0_e : buildE pk0 = 0 := by decide +kernel
theorem by_nil : Bytes [] := by intro n h; cases h
theorem pk0_c : Canon pk0 := ⟨by_nil, by_nil, by decide, by decide, by decide⟩
theorem rw_nil (w : World) : Rw w none 0 [] := ⟨⟨rfl, by decide, fun h => absurd h (by decide)⟩, by decide⟩
theorem c_nil (w : World) : Kd.C (Kd.int .i64) w none 0 [] := ⟨rfl, by decide, fun h => absurd h (by decide)⟩
theorem pk0_ok : Pok pk0 := ⟨pk0_e, pk0_c, by decide, Or.inr rfl, by decide, by decide⟩
theorem wks_none {p : Po} (h : ∀ i, i < 64 → (p.s i).st ≠ 2) : ∀ k i, i + k ≤ 64 → wksL p k i = []
  | 0, _, _ => rfl
  | k + 1, i, hi => by
    rw [wksL, if_neg (h i (by omega))]
    exact wks_none h k (i + 1) (by omega)
theorem inS_none {p : Po} (h : ∀ i, i < 64 → (p.s i).st ≠ 2) : inS p pk0 = (-1, false) := by
  have hb := spun_b 127 [3, 1, 0, p.ad, p.po] (by decide) (by decide)
  obtain ⟨i, hi⟩ := Int.eq_ofNat_of_zero_le hb.1
  have hw : wheelL p = List.replicate 127 (-1) := by unfold wheelL; rw [if_pos (wks_none h 64 0 (by omega))]
  have hr : rd (wheelL p) (spunL 127 [3, 1, 0, p.ad, p.po]) = -1 := by
    rw [hi, rd_nat, hw, List.getD_eq_getElem?_getD, List.getElem?_replicate, if_pos (by omega)]; rfl
  show (if (false && takesB (p.s 0).st) = true then ((0 : Int), true) else (rd (wheelL p) (spunL 127 [3, 1, 0, p.ad, p.po]), false)) = _
  rw [hr]
  rfl
theorem known_calls (w : World) : Calls Tryz.prog 4 #[] w fun e w' => e = .returned (.bool true) ∧ Below w.heap.size w w' := by
  obtain ⟨l, hl⟩ : ∃ l, buildL pk0 = l := ⟨_, rfl⟩
  obtain ⟨ob, pb, wb, lb, yb⟩ := parse_build pk0_e pk0_c
  rw [hl] at ob pb wb lb yb
  have HPB := am_ (show parseL l = (pk0, 0) from by rw [ob.parse, pb])
  have HLB := am_ (show l.length ≤ 10000 by rw [lb]; decide +kernel)
  have HYB := am_ yb
  have HLL := am_ hl
  have HN := am_ (fun W => new_calls 10 80 (by decide) (by decide) (by decide) (by decide) ⟨1, 0⟩ ⟨2, 0⟩ W)
  obtain ⟨x, hx⟩ : ∃ x, Po.new 10 80 ⟨1, 0⟩ ⟨2, 0⟩ = x := ⟨_, rfl⟩
  have HXL := am_ (show x.sl.length = 64 from by rw [← hx]; exact Po.new_len _ _ _ _)
  have HNA := am_ (show ∀ i, i < 64 → (x.s i).st ≠ 2 from by intro i _; rw [← hx, Po.new_s]; decide)
  have HIV := am_ (show Inv x 0 from by rw [← hx]; exact inv_new _ _)
  have HAD := am_ (show x.ad = 10 ∧ x.po = 80 from by rw [← hx]; exact ⟨rfl, rfl⟩)
  rw [hx] at HN
  obtain ⟨r, hr⟩ : ∃ r, ofL ⟨0, 0⟩ [] = r := ⟨_, rfl⟩
  have HW := am_ (fun W => show Calls Tryz.prog 20 #[.agg #[.int .u64 0, .int .u64 0], .slice none 0 0] W fun e w' => e = .returned (.int .u64 r) ∧ Below W.heap.size W w' from hr ▸ words_calls ⟨0, 0⟩ (w := W) (l := []) (c_nil W) rfl (by decide) (by decide))
  have HO := am_ (fun W => show Calls Tryz.prog 21 #[.agg #[.int .u64 0, .int .u64 0], .slice none 0 0] W fun e w' => e = .returned (.int .u64 r) ∧ Below W.heap.size W w' from hr ▸ of_calls ⟨0, 0⟩ (w := W) (l := []) (rw_nil W).rd rfl (by decide) (by decide))
  have HSM := am_ (fun W => show Calls Tryz.prog 19 #[.slice none 0 0] W fun e w' => e = .returned (.int .i64 65535) ∧ Drawn0 W w' from WB.of_calls (w := W) (l := []) (rw_nil W).rd rfl (by decide) by_nil (by decide))
  clear hl ob pb wb lb yb hx hr
  go_enter Tryz.func4, Tryz.ntmps4
  go_upto_region 2 with (first
    | (go_at_call 18; ((with_reducible refine (HN.out _).mono ?_); rintro e1 x1 ⟨rfl, hx1⟩; have HX1 := am_ hx1; clear hx1))
    | ((with_reducible refine gate_dst (N := 1) rfl ?_); refine pool_alloc rfl rfl ?_; intro g1 hg1 w1 hp1 hb1 hs1; have HP1 := am_ hp1; have HB1 := am_ hb1; have HG1 := am_ hg1; clear hp1 hb1 hs1 hg1)
    | ((with_reducible refine gate_store (t := 33) (p := 1) rfl ?_); refine pool_store (q := x) rfl rfl rfl rfl rfl HP1.out Po.z_len HXL.out ?_; intro w2 hp2 hc2; have HP2 := am_ hp2; have HC2 := am_ hc2; clear hp2 hc2))
  refine wp_w (fun W => PoolAt W g1 x ∧ Below w.heap.size w W) ?_ ?_
  · exact ⟨HP2.out, Chg.step (below_step HX1.out HB1.out) HC2.out (by have := HG1.out; have := HX1.out.size; omega)⟩
  intro w3 h3
  have HP3 := am_ h3.1
  have HB3 := am_ h3.2
  have HPN := am_ (pnew_calls w3)
  clear h3
  obtain ⟨b, hb⟩ : ∃ n, w3.heap.size = n := ⟨_, rfl⟩
  have HNE := am_ (show g1 ≠ b from by have := blk_lt HP3.out; omega)
  have HBL := am_ (show w.heap.size ≤ b from by have := HB3.out.size; omega)
  rw [hb] at HPN
  go_upto_region 5 with (first
    | (go_at_call 8; ((with_reducible refine HPN.out.mono ?_); rintro e2 x2 ⟨rfl, hp, hx2⟩; have HPL := am_ hp; have HX2 := am_ (show Below w3.heap.size w3 x2 from by rw [hb]; exact hx2); clear hp hx2)))
  refine wp_w (fun W => PlaneAt W b Po.z false nearZ (.slice none 0 0) ∧ PoolAt W g1 x ∧ Below w.heap.size w W) ?_ ?_
  · exact ⟨HPL.out, HP3.out.below HX2.out, below_step HB3.out HX2.out⟩
  intro w4 h4
  have HP4 := am_ h4.2.1
  have HB4 := am_ h4.2.2
  have HLD := am_ (load_calls h4.1 HXL.out)
  clear h4 hb
  go_upto_region 6 with (first
    | ((with_reducible refine gate_dst (N := 21) rfl ?_); refine pool_load rfl rfl rfl HP4.out HXL.out ?_)
    | (go_at_call 9; ((with_reducible refine HLD.out.mono ?_); rintro e3 x3 ⟨rfl, Aw, cw, hpl, hwr, hgr⟩; have HPL3 := am_ hpl; have HWR := am_ (Kd.R_reads' hwr); have HB5 := am_ (hgr.below HB4.out HB4.out.size HBL.out); clear hpl hwr hgr)))
  refine wp_w (fun W => PlaneAt W b x true nearZ (.slice Aw 127 cw) ∧ Kd.C (Kd.int .i64) W Aw 127 (wheelL x) ∧ Below w.heap.size w W) ?_ ?_
  · exact ⟨HPL3.out, by have h := HWR.out; have h2 := h.2.2; rw [← h.1] at h2; exact h2, HB5.out⟩
  intro w5 h5
  have HPL5 := am_ h5.1
  have HW5 := am_ h5.2.1
  have HB6 := am_ h5.2.2
  have HCW := am_ (show 127 ≤ cw from HWR.out.2.1)
  have HBU := am_ (show ∀ W, Below w5.heap.size w5 W → Calls Tryz.prog 7 #[.agg #[.int .i64 2, .int .i64 9, .int .i64 0, .int .i64 1, .int .i64 10, .int .i64 0, .int .i64 80, .int .i64 0, .int .i64 0, .bool false, .int .i64 0, .slice none 0 0, .slice none 0 0]] W fun e w' => ∃ (A : Option Addr) (c : Nat), e = .returned (.tuple #[.slice A l.length c, .int .i64 0]) ∧ RB w5.heap.size w' (.slice A l.length c) l ∧ Below w5.heap.size w5 w' from build_at (W0 := w5) (p := pk0) (rw_nil w5) (rw_nil w5) rfl rfl pk0_e (Or.inr rfl) pk0_c (by decide) (by decide) HLL.out)
  clear h5
  go_upto_region 7 with (first
    | (go_at_call 7; ((with_reducible refine (HBU.out _ (Below.refl _ _)).mono ?_); rintro e4 x4 ⟨Ab, cb, rfl, hrb, hx4⟩; have HRB := am_ (rw_of hrb); have HX4 := am_ hx4; clear hrb hx4)))
  have HTK := am_ (show Calls Tryz.prog 10 #[.pointer (some ⟨b, 0, none⟩), .slice Ab l.length cb] x4 fun e w' => e = .returned (.agg #[.int .i64 9, .int .i64 (-1), .bool false, .slice none 0 0]) ∧ Below w.heap.size w w' from by
    have hT := take_ok pk0_ok rfl (Or.inl rfl) (w := x4) (A := Ab) (c := cb) (by rw [HLL.out]; exact HRB.out)
    have h1 := in1_ok HIV.out pk0_ok (by decide)
    rw [HLL.out] at hT h1
    have hp := HPL5.out.below HX4.out
    rw [nearZ_eq] at hp
    refine (take_in hp hT (show (10 : Int) = x.ad by rw [HAD.out.1]) (show (80 : Int) = x.po by rw [HAD.out.2]) (Kd.C_below HW5.out HX4.out) HCW.out (Or.inr ⟨rfl, rfl⟩) h1 (inS_none HNA.out)).mono ?_
    rintro e w' (⟨_, he, hg⟩ | ⟨A, c, he, _, _, _, h0⟩)
    · exact ⟨he, hg.below (below_step HB6.out HX4.out) (below_step HB6.out HX4.out).size HBL.out⟩
    · exact absurd h0 (by decide))
  obtain ⟨g6, hg6⟩ : ∃ n, x4.heap.size = n := ⟨_, rfl⟩
  go_upto_region 8 with (first
    | (go_at_call 10; ((with_reducible refine HTK.out.mono ?_); rintro e5 x5 ⟨rfl, hx5⟩; have HX5 := am_ hx5; obtain ⟨g7, hg7⟩ : ∃ n, x5.heap.size = n := ⟨_, rfl⟩; clear hx5)))
  refine wp_w (fun W => W.heap[g7]? = some (.cells #[.int .i64 9, .int .i64 (-1), .bool false, .slice none 0 0] 46 (0, 0)) ∧ Below w.heap.size w W) ?_ ?_
  · exact ⟨by rw [← hg7]; exact new_blk x5 _, below_alloc HX5.out _⟩
  intro w7 h7
  have HB7 := am_ h7.2
  obtain ⟨t0, t1, t2, t3⟩ := c4 h7.1
  clear h7 hg6 hg7
  go_wp2_with (first
    | (go_at_call 19; ((with_reducible refine (HSM.out _).mono ?_); rintro e6 x6 ⟨rfl, ⟨⟨nq, rfl⟩⟩⟩))
    | (go_at_call 20; ((with_reducible refine (HW.out _).mono ?_); rintro e7 x7 ⟨rfl, hx⟩; have HX7 := am_ (below_step (bd HB7.out _) hx); clear hx))
    | (go_at_call 21; ((with_reducible refine (HO.out _).mono ?_); rintro e8 x8 ⟨rfl, hx⟩; have HX8 := am_ (below_step HX7.out hx); clear hx)))
  go_ret
  exact ⟨by simp, HX8.out⟩
theorem ofNat64 {a : Nat} (h : a < 65536) : (BitVec.ofInt 64 (a : Int)).toNat = a := by
  rw [BitVec.ofInt_natCast, BitVec.toNat_ofNat]; exact Nat.mod_eq_of_lt (by omega)
theorem or16 {x y : Int} (hx : 0 ≤ x ∧ x ≤ 65535) (hy : 0 ≤ y ∧ y ≤ 65535) : 0 ≤ Go.bits .or .i64 x y ∧ Go.bits .or .i64 x y ≤ 65535 := by
  obtain ⟨a, rfl⟩ := Int.eq_ofNat_of_zero_le hx.1
  obtain ⟨b, rfl⟩ := Int.eq_ofNat_of_zero_le hy.1
  show 0 ≤ IntKind.i64.wrap ((BitVec.ofInt 64 (a : Int) ||| BitVec.ofInt 64 (b : Int)).toNat : Int) ∧ IntKind.i64.wrap ((BitVec.ofInt 64 (a : Int) ||| BitVec.ofInt 64 (b : Int)).toNat : Int) ≤ 65535
  have h : a ||| b < 2 ^ 16 := Nat.or_lt_two_pow (by omega) (by omega)
  rw [BitVec.toNat_or, ofNat64 (by omega), ofNat64 (by omega), IntKind.wrap_i64]
  omega
theorem xor16 {x y : Int} (hx : 0 ≤ x ∧ x ≤ 65535) (hy : 0 ≤ y ∧ y ≤ 65535) : 0 ≤ Go.bits .xor .i64 x y ∧ Go.bits .xor .i64 x y ≤ 65535 := by
  obtain ⟨a, rfl⟩ := Int.eq_ofNat_of_zero_le hx.1
  obtain ⟨b, rfl⟩ := Int.eq_ofNat_of_zero_le hy.1
  show 0 ≤ IntKind.i64.wrap ((BitVec.ofInt 64 (a : Int) ^^^ BitVec.ofInt 64 (b : Int)).toNat : Int) ∧ IntKind.i64.wrap ((BitVec.ofInt 64 (a : Int) ^^^ BitVec.ofInt 64 (b : Int)).toNat : Int) ≤ 65535
  have h : a ^^^ b < 2 ^ 16 := Nat.xor_lt_two_pow (by omega) (by omega)
  rw [BitVec.toNat_xor, ofNat64 (by omega), ofNat64 (by omega), IntKind.wrap_i64]
  omega
theorem and255_u (x : Int) : 0 ≤ Go.bits .and .u64 x 255 ∧ Go.bits .and .u64 x 255 ≤ 255 := by
  show 0 ≤ IntKind.u64.wrap ((BitVec.ofInt 64 x &&& BitVec.ofInt 64 255).toNat : Int) ∧ IntKind.u64.wrap ((BitVec.ofInt 64 x &&& BitVec.ofInt 64 255).toNat : Int) ≤ 255
  have h : (BitVec.ofInt 64 x &&& BitVec.ofInt 64 255).toNat ≤ 255 := by
    rw [BitVec.toNat_and]
    exact Nat.le_trans Nat.and_le_right (by decide)
  rw [IntKind.wrap_u64]
  omega
theorem rword_calls (ka kb kind f0 f1 f2 f3 a b : Int) (w : World) :
    Calls Tryz.prog 99 #[.agg #[.int .u64 ka, .int .u64 kb], .int .i64 kind, .agg #[.int .i64 f0, .int .i64 f1, .int .i64 f2, .int .i64 f3], .int .i64 a, .int .i64 b] w fun e w' => ∃ v, e = .returned (.int .u64 v) ∧ Below w.heap.size w w' := by
  obtain ⟨g, HG⟩ : ∃ g, w.heap.size = g := ⟨_, rfl⟩
  go_enter Tryz.func99, Tryz.ntmps99
  go_upto_region 1 with fail
  refine wp_w (fun W => W.heap[g]? = some (.cells #[.int .u64 ka, .int .u64 kb] 29 (0, 0)) ∧ W.heap[g + 1]? = some (.cells #[.int .i64 f0, .int .i64 f1, .int .i64 f2, .int .i64 f3] 56 (0, 0)) ∧ Below w.heap.size w W) ?_ ?_
  · exact ⟨(two_boxes w HG _ _).1, (two_boxes w HG _ _).2.1, (two_boxes w HG _ _).2.2.1⟩
  intro w1 h1
  obtain ⟨k0, k1⟩ := c2 h1.1
  obtain ⟨j0, j1, j2, j3⟩ := c4 h1.2.1
  have HB1 := am_ h1.2.2
  clear h1
  go_wp2_with (first
    | ((with_reducible refine gate_dst (N := 23) rfl ?_); refine Kd.R_lit (Kd.int .i64) (w0 := w1) w1.heap.size 3 ?hg (N := 23) ?hd (xs := ([kind, f0, f1, f2, f3, a, b] : List Int)) (inner := [.int .i64 kind, .int .i64 f0, .int .i64 f1, .int .i64 f2, .int .i64 f3, .int .i64 a, .int .i64 b]) (ok := fun _ => True) (okp := fun _ => True) ?hr ?hp (fun _ hk => hk) trivial (Below.refl _ _) (Nat.le_refl _) (by simp) ?_; (case hd => rfl); (case hg => rfl); (case hr => first | (go_simp; done) | (go_simp; rfl)); (case hp => exact (Reps.one (show Kd.M (Kd.int .i64) _ _ _ kind [.int .i64 kind] from rfl) (Reps.one (show Kd.M (Kd.int .i64) _ _ _ f0 [.int .i64 f0] from rfl) (Reps.one (show Kd.M (Kd.int .i64) _ _ _ f1 [.int .i64 f1] from rfl) (Reps.one (show Kd.M (Kd.int .i64) _ _ _ f2 [.int .i64 f2] from rfl) (Reps.one (show Kd.M (Kd.int .i64) _ _ _ f3 [.int .i64 f3] from rfl) (Reps.one (show Kd.M (Kd.int .i64) _ _ _ a [.int .i64 a] from rfl) (Reps.one (show Kd.M (Kd.int .i64) _ _ _ b [.int .i64 b] from rfl) (Reps.none _ _))))))))); intro vl wl ho hb hg hat; obtain ⟨Al, cl, el⟩ := Kd.R_slice ho; subst el; have HLI := am_ (Kd.R_reads' ho); have HBL := am_ hb; clear ho hb hg hat)
    | (go_at_call 54; (with_reducible refine (rwords_calls ⟨ka, kb⟩ (n := 7) (l := [kind, f0, f1, f2, f3, a, b]) HLI.out.2.2 rfl HLI.out.2.1 (by simp)).mono ?_); rintro e x1 ⟨rfl, hx⟩; have HX := am_ (below_step (below_step HB1.out HBL.out) hx); clear hx))
  go_ret
  exact ⟨_, rfl, HX.out⟩
/-- A cookie of a gram has 16 bits. -/
def CkB (kind v : Int) : Prop := kind = 2 → 0 ≤ v ∧ v ≤ 65535
theorem ck_b {s e u v : Int} (hs : 0 ≤ s ∧ s ≤ 63) (he : 0 ≤ e ∧ e ≤ 3) : 0 ≤ Go.bits .or .i64 (Go.bits .or .i64 (e * 16384) (wrap64 (Go.bits .xor .i64 s (wrap64 (Go.bits .and .u64 u 63)) * 256))) (wrap64 (Go.bits .and .u64 v 255)) ∧ Go.bits .or .i64 (Go.bits .or .i64 (e * 16384) (wrap64 (Go.bits .xor .i64 s (wrap64 (Go.bits .and .u64 u 63)) * 256))) (wrap64 (Go.bits .and .u64 v 255)) ≤ 65535 := by
  have h1 := and63_u u
  have h2 := and255_u v
  rw [wid (n := Go.bits .and .u64 u 63) (by omega) (by omega), wid (n := Go.bits .and .u64 v 255) (by omega) (by omega)]
  have h3 := xor63 hs h1
  rw [wid (n := Go.bits .xor .i64 s (Go.bits .and .u64 u 63) * 256) (by omega) (by omega)]
  exact or16 (or16 (by omega) (by omega)) (by omega)
theorem rcook_1 (ka kb f0 f1 f2 f3 s ep : Int) (hs : 0 ≤ s ∧ s ≤ 63) (he : 0 ≤ ep ∧ ep ≤ 3) (w : World) :
    Calls Tryz.prog 68 #[.agg #[.int .u64 ka, .int .u64 kb], .int .i64 1, .agg #[.int .i64 f0, .int .i64 f1, .int .i64 f2, .int .i64 f3], .int .i64 s, .int .i64 ep] w fun e w' => ∃ v, e = .returned (.int .i64 v) ∧ CkB 1 v ∧ Below w.heap.size w w' := by
  have HS := am_ hs
  have HE := am_ he
  have HWD := am_ (fun a b W => rword_calls ka kb 1 f0 f1 f2 f3 a b W)
  have HBT := am_ (fun W => roundhouseref5_bits.calls 1 12 W rfl)
  obtain ⟨g, HG⟩ : ∃ g, w.heap.size = g := ⟨_, rfl⟩
  go_enter Tryz.func68, Tryz.ntmps68
  go_upto_region 1 with fail
  refine wp_w (fun W => W.heap[g]? = some (.cells #[.int .u64 ka, .int .u64 kb] 29 (0, 0)) ∧ W.heap[g + 1]? = some (.cells #[.int .i64 f0, .int .i64 f1, .int .i64 f2, .int .i64 f3] 56 (0, 0)) ∧ Below w.heap.size w W) ?_ ?_
  · exact ⟨(two_boxes w HG _ _).1, (two_boxes w HG _ _).2.1, (two_boxes w HG _ _).2.2.1⟩
  intro w1 h1
  have HK1 := am_ h1
  clear h1
  go_upto_region 2 with (first
    | (go_at_call 98; (with_reducible refine (HBT.out _).mono ?_); rintro e x1 ⟨rfl, ⟨⟨nd, rfl⟩⟩⟩; have HK2 := am_ (show ((w1.drewN nd).heap[g]? = some (.cells #[.int .u64 ka, .int .u64 kb] 29 (0, 0)) ∧ (w1.drewN nd).heap[g + 1]? = some (.cells #[.int .i64 f0, .int .i64 f1, .int .i64 f2, .int .i64 f3] 56 (0, 0)) ∧ Below w.heap.size w (w1.drewN nd)) from ⟨HK1.out.1, HK1.out.2.1, bd HK1.out.2.2 nd⟩)))
  refine wp_w (fun W => W.heap[g]? = some (.cells #[.int .u64 ka, .int .u64 kb] 29 (0, 0)) ∧ W.heap[g + 1]? = some (.cells #[.int .i64 f0, .int .i64 f1, .int .i64 f2, .int .i64 f3] 56 (0, 0)) ∧ Below w.heap.size w W) ?_ ?_
  · exact HK2.out
  intro w2 h2
  obtain ⟨k0, k1⟩ := c2 h2.1
  obtain ⟨j0, j1, j2, j3⟩ := c4 h2.2.1
  have HK3 := am_ h2
  clear h2 HK2 HK1
  go_upto_region 3 with (first
    | (go_at_call 99; ((with_reducible refine (HWD.out _ _ _).mono ?_); rintro e x2 ⟨v1, rfl, hx⟩; have HX2 := am_ hx; clear hx)))
  refine wp_w (fun W => W.heap[g]? = some (.cells #[.int .u64 ka, .int .u64 kb] 29 (0, 0)) ∧ W.heap[g + 1]? = some (.cells #[.int .i64 f0, .int .i64 f1, .int .i64 f2, .int .i64 f3] 56 (0, 0)) ∧ Below w.heap.size w W) ?_ ?_
  · exact ⟨bk_ HK3.out.1 HX2.out, bk_ HK3.out.2.1 HX2.out, below_step HK3.out.2.2 HX2.out⟩
  intro w3 h3
  clear k0 k1 j0 j1 j2 j3 HX2 HK3
  obtain ⟨k0, k1⟩ := c2 h3.1
  obtain ⟨j0, j1, j2, j3⟩ := c4 h3.2.1
  have HK4 := am_ h3
  clear h3
  go_wp2_with (first
    | (go_at_call 99; ((with_reducible refine (HWD.out _ _ _).mono ?_); rintro e x3 ⟨v2, rfl, hx⟩; have HX3 := am_ (below_step HK4.out.2.2 hx); clear hx)))
  go_ret
  exact ⟨_, rfl, (by intro h; cases h), HX3.out⟩
theorem rcook_2 (ka kb f0 f1 f2 f3 s ep : Int) (hs : 0 ≤ s ∧ s ≤ 63) (he : 0 ≤ ep ∧ ep ≤ 3) (w : World) :
    Calls Tryz.prog 68 #[.agg #[.int .u64 ka, .int .u64 kb], .int .i64 2, .agg #[.int .i64 f0, .int .i64 f1, .int .i64 f2, .int .i64 f3], .int .i64 s, .int .i64 ep] w fun e w' => ∃ v, e = .returned (.int .i64 v) ∧ CkB 2 v ∧ Below w.heap.size w w' := by
  have HS := am_ hs
  have HE := am_ he
  have HWD := am_ (fun a b W => rword_calls ka kb 2 f0 f1 f2 f3 a b W)
  have HBT := am_ (fun W => roundhouseref5_bits.calls 2 8 W rfl)
  obtain ⟨g, HG⟩ : ∃ g, w.heap.size = g := ⟨_, rfl⟩
  go_enter Tryz.func68, Tryz.ntmps68
  go_upto_region 1 with fail
  refine wp_w (fun W => W.heap[g]? = some (.cells #[.int .u64 ka, .int .u64 kb] 29 (0, 0)) ∧ W.heap[g + 1]? = some (.cells #[.int .i64 f0, .int .i64 f1, .int .i64 f2, .int .i64 f3] 56 (0, 0)) ∧ Below w.heap.size w W) ?_ ?_
  · exact ⟨(two_boxes w HG _ _).1, (two_boxes w HG _ _).2.1, (two_boxes w HG _ _).2.2.1⟩
  intro w1 h1
  have HK1 := am_ h1
  clear h1
  go_upto_region 2 with (first
    | (go_at_call 98; (with_reducible refine (HBT.out _).mono ?_); rintro e x1 ⟨rfl, ⟨⟨nd, rfl⟩⟩⟩; have HK2 := am_ (show ((w1.drewN nd).heap[g]? = some (.cells #[.int .u64 ka, .int .u64 kb] 29 (0, 0)) ∧ (w1.drewN nd).heap[g + 1]? = some (.cells #[.int .i64 f0, .int .i64 f1, .int .i64 f2, .int .i64 f3] 56 (0, 0)) ∧ Below w.heap.size w (w1.drewN nd)) from ⟨HK1.out.1, HK1.out.2.1, bd HK1.out.2.2 nd⟩)))
  refine wp_w (fun W => W.heap[g]? = some (.cells #[.int .u64 ka, .int .u64 kb] 29 (0, 0)) ∧ W.heap[g + 1]? = some (.cells #[.int .i64 f0, .int .i64 f1, .int .i64 f2, .int .i64 f3] 56 (0, 0)) ∧ Below w.heap.size w W) ?_ ?_
  · exact HK2.out
  intro w2 h2
  obtain ⟨k0, k1⟩ := c2 h2.1
  obtain ⟨j0, j1, j2, j3⟩ := c4 h2.2.1
  have HK3 := am_ h2
  clear h2 HK2 HK1
  go_upto_region 3 with (first
    | (go_at_call 99; ((with_reducible refine (HWD.out _ _ _).mono ?_); rintro e x2 ⟨v1, rfl, hx⟩; have HX2 := am_ hx; clear hx)))
  refine wp_w (fun W => W.heap[g]? = some (.cells #[.int .u64 ka, .int .u64 kb] 29 (0, 0)) ∧ W.heap[g + 1]? = some (.cells #[.int .i64 f0, .int .i64 f1, .int .i64 f2, .int .i64 f3] 56 (0, 0)) ∧ Below w.heap.size w W) ?_ ?_
  · exact ⟨bk_ HK3.out.1 HX2.out, bk_ HK3.out.2.1 HX2.out, below_step HK3.out.2.2 HX2.out⟩
  intro w3 h3
  clear k0 k1 j0 j1 j2 j3 HX2 HK3
  obtain ⟨k0, k1⟩ := c2 h3.1
  obtain ⟨j0, j1, j2, j3⟩ := c4 h3.2.1
  have HK4 := am_ h3
  clear h3
  go_wp2_with (first
    | (go_at_call 99; ((with_reducible refine (HWD.out _ _ _).mono ?_); rintro e x3 ⟨v2, rfl, hx⟩; have HX3 := am_ (below_step HK4.out.2.2 hx); clear hx)))
  go_ret
  exact ⟨_, rfl, (by intro _; exact ck_b HS.out HE.out), HX3.out⟩
theorem and3_i (x : Int) : 0 ≤ Go.bits .and .i64 x 3 ∧ Go.bits .and .i64 x 3 ≤ 3 := by
  show 0 ≤ IntKind.i64.wrap ((BitVec.ofInt 64 x &&& BitVec.ofInt 64 3).toNat : Int) ∧ IntKind.i64.wrap ((BitVec.ofInt 64 x &&& BitVec.ofInt 64 3).toNat : Int) ≤ 3
  have h : (BitVec.ofInt 64 x &&& BitVec.ofInt 64 3).toNat ≤ 3 := by
    rw [BitVec.toNat_and]
    exact Nat.le_trans Nat.and_le_right (by decide)
  rw [IntKind.wrap_i64]
  omega
theorem rcook_calls (ka kb f0 f1 f2 f3 s ep kind : Int) (hk : kind = 1 ∨ kind = 2) (hs : 0 ≤ s ∧ s ≤ 63) (he : 0 ≤ ep ∧ ep ≤ 3) (w : World) :
    Calls Tryz.prog 68 #[.agg #[.int .u64 ka, .int .u64 kb], .int .i64 kind, .agg #[.int .i64 f0, .int .i64 f1, .int .i64 f2, .int .i64 f3], .int .i64 s, .int .i64 ep] w fun e w' => ∃ v, e = .returned (.int .i64 v) ∧ CkB kind v ∧ Below w.heap.size w w' := by
  rcases hk with rfl | rfl
  · exact rcook_1 ka kb f0 f1 f2 f3 s ep hs he w
  · exact rcook_2 ka kb f0 f1 f2 f3 s ep hs he w
theorem rcmake_calls (ep k0 k1 k2 k3 k4 k5 kind f0 f1 f2 f3 s : Int) (hk : kind = 1 ∨ kind = 2) (hs : 0 ≤ s ∧ s ≤ 63) (w : World) :
    Calls Tryz.prog 27 #[.agg #[.int .i64 ep, .int .u64 k0, .int .u64 k1, .int .u64 k2, .int .u64 k3, .int .u64 k4, .int .u64 k5], .int .i64 kind, .agg #[.int .i64 f0, .int .i64 f1, .int .i64 f2, .int .i64 f3], .int .i64 s] w fun e w' => ∃ v, e = .returned (.int .i64 v) ∧ CkB kind v ∧ Below w.heap.size w w' := by
  have HFR := am_ (fun W => roundhouseref5_four.calls ep _ W rfl)
  have HCK := am_ (fun W => rcook_calls k2 k3 f0 f1 f2 f3 s (Go.bits .and .i64 ep 3) kind hk hs (and3_i ep) W)
  clear hk hs
  obtain ⟨g, HG⟩ : ∃ g, w.heap.size = g := ⟨_, rfl⟩
  go_enter Tryz.func27, Tryz.ntmps27
  go_upto_region 1 with fail
  refine wp_w (fun W => W.heap[g]? = some (.cells #[.int .i64 ep, .int .u64 k0, .int .u64 k1, .int .u64 k2, .int .u64 k3, .int .u64 k4, .int .u64 k5] 31 (0, 0)) ∧ W.heap[g + 1]? = some (.cells #[.int .i64 f0, .int .i64 f1, .int .i64 f2, .int .i64 f3] 56 (0, 0)) ∧ Below w.heap.size w W) ?_ ?_
  · exact ⟨(two_boxes w HG _ _).1, (two_boxes w HG _ _).2.1, (two_boxes w HG _ _).2.2.1⟩
  intro w1 h1
  have HB1 := am_ h1.2.2
  have i0 := cell_of_row w1 g 0 _ _ _ h1.1
  have i3 := cell_of_row w1 g 3 _ _ _ h1.1
  have i4 := cell_of_row w1 g 4 _ _ _ h1.1
  obtain ⟨j0, j1, j2, j3⟩ := c4 h1.2.1
  clear h1
  refine start_ (n := 10) (S := fun w' => w'.cell? ⟨g, 0, none⟩ = some (.int .i64 ep) ∧ w'.cell? ⟨g, 3, none⟩ = some (.int .u64 k2) ∧ w'.cell? ⟨g, 4, none⟩ = some (.int .u64 k3) ∧ w'.cell? ⟨g + 1, 0, none⟩ = some (.int .i64 f0) ∧ w'.cell? ⟨g + 1, 1, none⟩ = some (.int .i64 f1) ∧ w'.cell? ⟨g + 1, 2, none⟩ = some (.int .i64 f2) ∧ w'.cell? ⟨g + 1, 3, none⟩ = some (.int .i64 f3)) (ds := [8]) #[fF,fF,fF,fF,fF,fF,fF,fF,fF,fF] (by kernel_rfl) rfl rfl ⟨i0, i3, i4, j0, j1, j2, j3⟩ (fun hHeld => ?_)
  refine p_ 0 9 ?_
  refine p_ 2 11 ?_
  refine p_ 4 13 ?_
  refine p_ 5 14 ?_
  refine t_ 1 10 hHeld ?_
  refine t_ 3 12 hHeld ?_
  refine t_ 6 15 hHeld ?_
  refine o_ 7 (some 16) (fun K hK => ?_)
  refine g_ Tryz.func69 #[.int .i64 ep] ?_
  with_reducible refine (HFR.out _).mono ?_
  rintro e w3 ⟨rfl, ⟨⟨nq, rfl⟩⟩⟩
  refine ⟨_, rfl, ?_⟩
  refine hK.out _ _ ⟨i0, i3, i4, j0, j1, j2, j3⟩ (fun hHeld => ?_)
  clear hK K
  refine n_ 16 ?_
  refine l_ 8 (some 17) (fun K hK => ?_)
  refine g_ Tryz.func68 #[.agg #[.int .u64 k2, .int .u64 k3], .int .i64 kind, .agg #[.int .i64 f0, .int .i64 f1, .int .i64 f2, .int .i64 f3], .int .i64 s, .int .i64 (Go.bits .and .i64 ep 3)] ?_
  with_reducible refine (HCK.out _).mono ?_
  rintro e w4 ⟨v, rfl, hv, hx⟩
  refine ⟨_, rfl, ?_⟩
  have HV := am_ hv
  have HX := am_ (below_step (bd HB1.out.drew _) hx)
  clear hv hx
  refine hK.out _ _ ?_
  clear hK K
  refine n_ 17 ?_
  refine p_ 9 8 ?_
  refine done_ (by kernel_rfl) ?_
  go_wp2
  go_ret
  exact ⟨_, rfl, HV.out, HX.out⟩
end Go.Proofs.YtgkmbefamcnifaaGreat.TB
