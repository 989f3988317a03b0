/- Lemmas and contracts that the row YtbjhmifhmojaoaaLawWireNats goes by (part 8; joined by pack.py out of this session's texts, and of words that the kit's print lays). -/
import Derived.Test.YtbjhmifhmojaoaaKNats7
import Derived.Lib.QuoteBits
namespace Go.Proofs.Ytbjhmifhmojaoaa.WB
set_option linter.unusedVariables false
set_option linter.unusedSimpArgs false
open Go.RowKit Go.Proofs.Ytbjhmifhmojaoaa.Hp Go.Proofs.Ytbjhmifhmojaoaa.SB Go.Proofs.YtbjhmifhmojaoaaW.PrintWords Go.Proofs.YtbjhmifhmojaoaaW.PrintLast Go.Proofs.YtbjhmifhmojaoaaW.PrintMore

/-- What Write lays. -/
def writeL (bare : Bool) (l : List Int) (i m : Nat) (v : Int) : List Int := doneL bare (bodyT bare l (putL l i m v) i m)
set_option maxHeartbeats 1000000 in
set_option maxRecDepth 100000 in
theorem write_err {A : Option Addr} {c : Nat} {l : List Int} {w : World} (hr : Kd.C (Kd.int .u8) w A l.length l) (hc : l.length ≤ c) (hl : l.length ≤ 10000) (hb : Bytes l) {p0 p1 p2 p3 p4 p5 p6 p7 p8 : Int} {p9 : Bool} {p10 : Int} {p11 p12 : List Int} (i m v : Int) {x : Int} (hp : parseL l = (⟨p0, p1, p2, p3, p4, p5, p6, p7, p8, p9, p10, p11, p12⟩, x)) (hx : x ≠ 0) :
    Calls Try.prog 26 #[.slice A l.length c, .int .i64 i, .int .i64 m, .int .i64 v] w (Told w [] x) := by
  have q0 : (x == 0) = false := beq_eq_false_iff_ne.mpr hx
  have q0n : (x != 0) = true := bne_iff_ne.mpr hx
  have G := Aside0.mk (begin_err hr hc (by omega) hb hp hx)
  clear hx
  clear hr hc hl hb hp
  go_enter Try.func26, Try.ntmps26
  go_wp2_with (first | (go_at_call 49; (with_reducible refine G.out.mono ?_); rintro e w1 ⟨⟨A1, c1, A2, c2, rfl⟩, hb1⟩; have HB1 := Aside0.mk hb1; clear hb1))
  go_ret2
  exact told_nil (HB1.out.alloc HB1.out.size _)
set_option maxHeartbeats 1000000 in
set_option maxRecDepth 100000 in
theorem write_n {A : Option Addr} {c : Nat} {l : List Int} {w : World} (hr : Kd.C (Kd.int .u8) w A l.length l) (hc : l.length ≤ c) (hl : l.length ≤ 10000) (hb : Bytes l) {p0 p1 p2 p3 p4 p5 p6 p7 p8 : Int} {p9 : Bool} {p10 : Int} {p11 p12 : List Int} (i m v : Int) (hp : parseL l = (⟨p0, p1, p2, p3, p4, p5, p6, p7, p8, p9, p10, p11, p12⟩, 0)) (h : ¬ (m = 1 ∨ m = 2 ∨ m = 4)) :
    Calls Try.prog 26 #[.slice A l.length c, .int .i64 i, .int .i64 m, .int .i64 v] w (Told w [] 14) := by
  have G := Aside0.mk (begin_ok hr hc (by omega) hb hp)
  have m1 : (m == 1) = false := beq_eq_false_iff_ne.mpr (by omega)
  have n1 : (m != 1) = true := bne_iff_ne.mpr (by omega)
  have m2 : (m == 2) = false := beq_eq_false_iff_ne.mpr (by omega)
  have n2 : (m != 2) = true := bne_iff_ne.mpr (by omega)
  have m4 : (m == 4) = false := beq_eq_false_iff_ne.mpr (by omega)
  have n4 : (m != 4) = true := bne_iff_ne.mpr (by omega)
  clear h
  clear hr hc hl hb hp
  go_enter Try.func26, Try.ntmps26
  go_wp2_with (first | (go_at_call 49; (with_reducible refine G.out.mono ?_); rintro e w1 ⟨t, g, cc, A1, c1, A2, c2, rfl, ht⟩; have HT := Aside0.mk ht; clear ht))
  go_ret2
  exact told_nil (HT.out.below.alloc HT.out.below.size _)
set_option maxHeartbeats 1000000 in
set_option maxRecDepth 100000 in
theorem write_v0_1 {A : Option Addr} {c : Nat} {l : List Int} {w : World} (hr : Kd.C (Kd.int .u8) w A l.length l) (hc : l.length ≤ c) (hl : l.length ≤ 10000) (hb : Bytes l) {p0 p1 p2 p3 p4 p5 p6 p7 p8 : Int} {p9 : Bool} {p10 : Int} {p11 p12 : List Int} (i v : Int) (hp : parseL l = (⟨p0, p1, p2, p3, p4, p5, p6, p7, p8, p9, p10, p11, p12⟩, 0)) (h : v < 0) :
    Calls Try.prog 26 #[.slice A l.length c, .int .i64 i, .int .i64 1, .int .i64 v] w (Told w [] 14) := by
  have G := Aside0.mk (begin_ok hr hc (by omega) hb hp)
  have d0 : decide (v < 0) = true := decide_eq_true h
  clear h
  clear hr hc hl hb hp
  go_enter Try.func26, Try.ntmps26
  go_wp2_with (first | (go_at_call 49; (with_reducible refine G.out.mono ?_); rintro e w1 ⟨t, g, cc, A1, c1, A2, c2, rfl, ht⟩; have HT := Aside0.mk ht; clear ht))
  go_ret2
  exact told_nil (HT.out.below.alloc HT.out.below.size _)
set_option maxHeartbeats 1000000 in
set_option maxRecDepth 100000 in
theorem write_v1_1 {A : Option Addr} {c : Nat} {l : List Int} {w : World} (hr : Kd.C (Kd.int .u8) w A l.length l) (hc : l.length ≤ c) (hl : l.length ≤ 10000) (hb : Bytes l) {p0 p1 p2 p3 p4 p5 p6 p7 p8 : Int} {p9 : Bool} {p10 : Int} {p11 p12 : List Int} (i v : Int) (hp : parseL l = (⟨p0, p1, p2, p3, p4, p5, p6, p7, p8, p9, p10, p11, p12⟩, 0)) (h : 256 ≤ v) :
    Calls Try.prog 26 #[.slice A l.length c, .int .i64 i, .int .i64 1, .int .i64 v] w (Told w [] 14) := by
  have G := Aside0.mk (begin_ok hr hc (by omega) hb hp)
  have d0 : decide (v < 0) = false := decide_eq_false (by omega)
  have v0 : 0 ≤ v := by omega
  have d1 : (v / 256 == 0) = false := beq_eq_false_iff_ne.mpr (by omega)
  have d1n : (v / 256 != 0) = true := bne_iff_ne.mpr (by omega)
  clear h
  clear hr hc hl hb hp
  go_enter Try.func26, Try.ntmps26
  go_wp2_with (first | (go_at_call 49; (with_reducible refine G.out.mono ?_); rintro e w1 ⟨t, g, cc, A1, c1, A2, c2, rfl, ht⟩; have HT := Aside0.mk ht; clear ht))
  go_ret2
  exact told_nil (HT.out.below.alloc HT.out.below.size _)
set_option maxHeartbeats 1000000 in
set_option maxRecDepth 100000 in
theorem write_a0_1 {A : Option Addr} {c : Nat} {l : List Int} {w : World} (hr : Kd.C (Kd.int .u8) w A l.length l) (hc : l.length ≤ c) (hl : l.length ≤ 10000) (hb : Bytes l) {p0 p1 p2 p3 p4 p5 p6 p7 p8 : Int} {p9 : Bool} {p10 : Int} {p11 p12 : List Int} (i v : Int) (hp : parseL l = (⟨p0, p1, p2, p3, p4, p5, p6, p7, p8, p9, p10, p11, p12⟩, 0)) (hv0 : 0 ≤ v) (hv1 : v < 256) (h : i < 16) :
    Calls Try.prog 26 #[.slice A l.length c, .int .i64 i, .int .i64 1, .int .i64 v] w (Told w [] 14) := by
  have G := Aside0.mk (begin_ok hr hc (by omega) hb hp)
  have d0 : decide (v < 0) = false := decide_eq_false (by omega)
  have v0 : 0 ≤ v := by omega
  have d1 : (v / 256 == 0) = true := beq_iff_eq.mpr (by omega)
  have d1n : (v / 256 != 0) = false := by rw [bne, d1]; rfl
  have d2 : decide (i < 16) = true := decide_eq_true h
  clear h hv0 hv1
  clear hr hc hl hb hp
  go_enter Try.func26, Try.ntmps26
  go_wp2_with (first | (go_at_call 49; (with_reducible refine G.out.mono ?_); rintro e w1 ⟨t, g, cc, A1, c1, A2, c2, rfl, ht⟩; have HT := Aside0.mk ht; clear ht))
  go_ret2
  exact told_nil (HT.out.below.alloc HT.out.below.size _)
set_option maxHeartbeats 1000000 in
set_option maxRecDepth 100000 in
theorem write_a1_1 {A : Option Addr} {c : Nat} {l : List Int} {w : World} (hr : Kd.C (Kd.int .u8) w A l.length l) (hc : l.length ≤ c) (hl : l.length ≤ 10000) (hb : Bytes l) {p0 p1 p2 p3 p4 p5 p6 p7 p8 : Int} {p9 : Bool} {p10 : Int} {p11 p12 : List Int} (i v : Int) (hp : parseL l = (⟨p0, p1, p2, p3, p4, p5, p6, p7, p8, p9, p10, p11, p12⟩, 0)) (hv0 : 0 ≤ v) (hv1 : v < 256) (hi : 16 ≤ i) (h : (l.length : Int) - 1 < i) :
    Calls Try.prog 26 #[.slice A l.length c, .int .i64 i, .int .i64 1, .int .i64 v] w (Told w [] 14) := by
  have G := Aside0.mk (begin_ok hr hc (by omega) hb hp)
  have d0 : decide (v < 0) = false := decide_eq_false (by omega)
  have v0 : 0 ≤ v := by omega
  have d1 : (v / 256 == 0) = true := beq_iff_eq.mpr (by omega)
  have d1n : (v / 256 != 0) = false := by rw [bne, d1]; rfl
  have hli : (l.length : Int) ≤ 10000 := by omega
  have hlj : 24 ≤ (l.length : Int) := by have := (head0 (parse0 hp)).1; omega
  have d2 : decide (i < 16) = false := decide_eq_false (by omega)
  have i0 : 16 ≤ i := by omega
  have d3 : decide ((l.length : Int) - 1 < i) = true := decide_eq_true h
  clear h hv0 hv1 hi
  clear hr hc hl hb hp
  go_enter Try.func26, Try.ntmps26
  go_wp2_with (first | (go_at_call 49; (with_reducible refine G.out.mono ?_); rintro e w1 ⟨t, g, cc, A1, c1, A2, c2, rfl, ht⟩; have HT := Aside0.mk ht; clear ht))
  go_ret2
  exact told_nil (HT.out.below.alloc HT.out.below.size _)
set_option maxHeartbeats 1000000 in
set_option maxRecDepth 100000 in
theorem write_s_1 {A : Option Addr} {c : Nat} {l : List Int} {w : World} (hr : Kd.C (Kd.int .u8) w A l.length l) (hc : l.length ≤ c) (hl : l.length ≤ 10000) (hb : Bytes l) {p0 p1 p2 p3 p4 p5 p6 p7 p8 : Int} {p9 : Bool} {p10 : Int} {p11 p12 : List Int} (i v : Int) (hp : parseL l = (⟨p0, p1, p2, p3, p4, p5, p6, p7, p8, p9, p10, p11, p12⟩, 0)) (hv0 : 0 ≤ v) (hv1 : v < 256) (hi : 16 ≤ i) (hi1 : i + 1 ≤ (l.length : Int)) {s : Nat} (hs : s = if p0 = 3 then 18 else 22) (h : i < s + 2) (h' : s < i + 1) :
    Calls Try.prog 26 #[.slice A l.length c, .int .i64 i, .int .i64 1, .int .i64 v] w (Told w [] 14) := by
  have G := Aside0.mk (begin_ok hr hc (by omega) hb hp)
  have d0 : decide (v < 0) = false := decide_eq_false (by omega)
  have v0 : 0 ≤ v := by omega
  have d1 : (v / 256 == 0) = true := beq_iff_eq.mpr (by omega)
  have d1n : (v / 256 != 0) = false := by rw [bne, d1]; rfl
  have hli : (l.length : Int) ≤ 10000 := by omega
  have hlj : 24 ≤ (l.length : Int) := by have := (head0 (parse0 hp)).1; omega
  have d2 : decide (i < 16) = false := decide_eq_false (by omega)
  have i0 : 16 ≤ i := by omega
  have d3 : decide ((l.length : Int) - 1 < i) = false := decide_eq_false (by omega)
  have i1 : i ≤ 10000 := by omega
  have G39 := Aside0.mk (fun W => wire_sumPlace.calls p0 (s : Int) W (by unfold wire_sumPlace.f; rw [hs]; split <;> rfl))
  have d4 : decide (i < (s : Int) + 2) = true := decide_eq_true h
  have d5 : decide ((s : Int) < i + 1) = true := decide_eq_true h'
  have s22 : (s : Int) ≤ 22 := by rw [hs]; split <;> decide
  clear h h' hv0 hv1 hi hi1 hs
  clear hr hc hl hb hp
  go_enter Try.func26, Try.ntmps26
  go_wp2_with (first | (go_at_call 49; (with_reducible refine G.out.mono ?_); rintro e w1 ⟨t, g, cc, A1, c1, A2, c2, rfl, ht⟩; have HT := Aside0.mk ht; clear ht) | (go_at_call 39; (with_reducible refine (G39.out _).mono ?_); rintro e w2 ⟨rfl, ⟨⟨nd, rfl⟩⟩⟩))
  go_ret2
  exact told_nil (bd (HT.out.below.alloc HT.out.below.size _) _)
set_option maxHeartbeats 1000000 in
set_option maxRecDepth 100000 in
theorem write_ok0_1 {A : Option Addr} {c : Nat} {l : List Int} {w : World} (hr : Kd.C (Kd.int .u8) w A l.length l) (hc : l.length ≤ c) (hl : l.length ≤ 10000) (hb : Bytes l) {p0 p1 p2 p3 p4 p5 p6 p7 p8 : Int} {p9 : Bool} {p10 : Int} {p11 p12 : List Int} (i v : Int) (j : Nat) (hp : parseL l = (⟨p0, p1, p2, p3, p4, p5, p6, p7, p8, p9, p10, p11, p12⟩, 0)) (hj : i = j) (hv0 : 0 ≤ v) (hv1 : v < 256) (hi : 16 ≤ i) (hi1 : i + 1 ≤ (l.length : Int)) {s : Nat} (hs : s = if p0 = 3 then 18 else 22) (h : i < s + 2) (h' : i + 1 ≤ s) :
    Calls Try.prog 26 #[.slice A l.length c, .int .i64 i, .int .i64 1, .int .i64 v] w (Told w (writeL p9 l j 1 v) 0) := by
  have G := Aside0.mk (begin_ok hr hc (by omega) hb hp)
  have H24 := Aside0.mk (show 24 ≤ l.length from (head0 (parse0 hp)).1)
  have HY := Aside0.mk hb
  have HL := Aside0.mk hl
  have HJ := Aside0.mk hj
  have HJ1 := Aside0.mk (show j + 1 ≤ l.length by omega)
  have HAND := Aside0.mk (show Go.bits .andNot .i64 i 1 = ((j / 2 * 2 : Nat) : Int) from by rw [hj]; exact Go.Lib.andNot_one j (by omega))
  have d0 : decide (v < 0) = false := decide_eq_false (by omega)
  have v0 : 0 ≤ v := by omega
  have d1 : (v / 256 == 0) = true := beq_iff_eq.mpr (by omega)
  have d1n : (v / 256 != 0) = false := by rw [bne, d1]; rfl
  have hli : (l.length : Int) ≤ 10000 := by omega
  have hlj : 24 ≤ (l.length : Int) := by have := (head0 (parse0 hp)).1; omega
  have d2 : decide (i < 16) = false := decide_eq_false (by omega)
  have i0 : 16 ≤ i := by omega
  have d3 : decide ((l.length : Int) - 1 < i) = false := decide_eq_false (by omega)
  have i1 : i ≤ 10000 := by omega
  have G39 := Aside0.mk (fun W => wire_sumPlace.calls p0 (s : Int) W (by unfold wire_sumPlace.f; rw [hs]; split <;> rfl))
  have d4 : decide (i < (s : Int) + 2) = true := decide_eq_true h
  have d5 : decide ((s : Int) < i + 1) = false := decide_eq_false (by omega)
  have s22 : (s : Int) ≤ 22 := by rw [hs]; split <;> decide
  clear h h' hv0 hv1 hi hi1 hs hr hc hl hb hp hj
  go_enter Try.func26, Try.ntmps26
  go_upto_region 9 with (first | (go_at_call 49; (with_reducible refine G.out.mono ?_); rintro e w1 ⟨t, g, cc, A1, c1, A2, c2, rfl, ht⟩; have HT := Aside0.mk ht; clear ht) | (go_at_call 39; (with_reducible refine (G39.out _).mono ?_); rintro e w2 ⟨rfl, ⟨⟨nd, rfl⟩⟩⟩))
  generalize hW : World.drewN _ _ = w4
  have HT4 : Aside0 (Tur w w4 t g A c cc l l p9) := Aside0.mk (by rw [← hW]; exact (HT.out.alloc _).drewN _)
  clear hW HT
  obtain ⟨T0, T1, T2⟩ := c3 HT4.out.blk
  have P1 := Aside0.mk (tput_calls HT4.out HL.out j 1 v (iz := i) (mz := 1) HJ.out rfl (by omega) HJ1.out)
  have B6 := Aside0.mk (putL_bytes j 1 v HY.out)
  go_upto_region 10 with (first | (go_at_call 36; (with_reducible refine P1.out.mono ?_); rintro e w5 ⟨rfl, ht⟩; have HT5 := Aside0.mk ht; clear ht T0 T1 T2))
  have P5 := Aside0.mk (tbody_calls HT5.out HY.out B6.out HL.out j 1 (az := i) (nz := 1) HJ.out rfl (Nat.le_trans (Nat.add_le_add_right (placeL_le _) 2) H24.out) HJ1.out HAND.out)
  have B9 := Aside0.mk (bodyT_bytes (b := p9) (was := l) B6.out j 1)
  go_wp2_with (first
    | (go_at_call 50; (with_reducible refine P5.out.mono ?_); rintro e w9 ⟨rfl, ht⟩; have G51 := Aside0.mk (tdone_calls ht B9.out HL.out H24.out); clear ht)
    | (go_at_call 51; (with_reducible refine G51.out.mono ?_); rintro e w10 ⟨v, rfl, hr, hb⟩; have HRX := Aside0.mk hr; have HBX := Aside0.mk hb; clear hr hb))
  go_ret2
  exact ⟨v, rfl, HRX.out, HBX.out⟩
set_option maxHeartbeats 1000000 in
set_option maxRecDepth 100000 in
theorem write_ok1_1 {A : Option Addr} {c : Nat} {l : List Int} {w : World} (hr : Kd.C (Kd.int .u8) w A l.length l) (hc : l.length ≤ c) (hl : l.length ≤ 10000) (hb : Bytes l) {p0 p1 p2 p3 p4 p5 p6 p7 p8 : Int} {p9 : Bool} {p10 : Int} {p11 p12 : List Int} (i v : Int) (j : Nat) (hp : parseL l = (⟨p0, p1, p2, p3, p4, p5, p6, p7, p8, p9, p10, p11, p12⟩, 0)) (hj : i = j) (hv0 : 0 ≤ v) (hv1 : v < 256) (hi : 16 ≤ i) (hi1 : i + 1 ≤ (l.length : Int)) {s : Nat} (hs : s = if p0 = 3 then 18 else 22) (h : (s : Int) + 2 ≤ i) :
    Calls Try.prog 26 #[.slice A l.length c, .int .i64 i, .int .i64 1, .int .i64 v] w (Told w (writeL p9 l j 1 v) 0) := by
  have G := Aside0.mk (begin_ok hr hc (by omega) hb hp)
  have H24 := Aside0.mk (show 24 ≤ l.length from (head0 (parse0 hp)).1)
  have HY := Aside0.mk hb
  have HL := Aside0.mk hl
  have HJ := Aside0.mk hj
  have HJ1 := Aside0.mk (show j + 1 ≤ l.length by omega)
  have HAND := Aside0.mk (show Go.bits .andNot .i64 i 1 = ((j / 2 * 2 : Nat) : Int) from by rw [hj]; exact Go.Lib.andNot_one j (by omega))
  have d0 : decide (v < 0) = false := decide_eq_false (by omega)
  have v0 : 0 ≤ v := by omega
  have d1 : (v / 256 == 0) = true := beq_iff_eq.mpr (by omega)
  have d1n : (v / 256 != 0) = false := by rw [bne, d1]; rfl
  have hli : (l.length : Int) ≤ 10000 := by omega
  have hlj : 24 ≤ (l.length : Int) := by have := (head0 (parse0 hp)).1; omega
  have d2 : decide (i < 16) = false := decide_eq_false (by omega)
  have i0 : 16 ≤ i := by omega
  have d3 : decide ((l.length : Int) - 1 < i) = false := decide_eq_false (by omega)
  have i1 : i ≤ 10000 := by omega
  have G39 := Aside0.mk (fun W => wire_sumPlace.calls p0 (s : Int) W (by unfold wire_sumPlace.f; rw [hs]; split <;> rfl))
  have d4 : decide (i < (s : Int) + 2) = false := decide_eq_false (by omega)
  have s22 : (s : Int) ≤ 22 := by rw [hs]; split <;> decide
  clear h hv0 hv1 hi hi1 hs hr hc hl hb hp hj
  go_enter Try.func26, Try.ntmps26
  go_upto_region 9 with (first | (go_at_call 49; (with_reducible refine G.out.mono ?_); rintro e w1 ⟨t, g, cc, A1, c1, A2, c2, rfl, ht⟩; have HT := Aside0.mk ht; clear ht) | (go_at_call 39; (with_reducible refine (G39.out _).mono ?_); rintro e w2 ⟨rfl, ⟨⟨nd, rfl⟩⟩⟩))
  generalize hW : World.drewN _ _ = w4
  have HT4 : Aside0 (Tur w w4 t g A c cc l l p9) := Aside0.mk (by rw [← hW]; exact (HT.out.alloc _).drewN _)
  clear hW HT
  obtain ⟨T0, T1, T2⟩ := c3 HT4.out.blk
  have P1 := Aside0.mk (tput_calls HT4.out HL.out j 1 v (iz := i) (mz := 1) HJ.out rfl (by omega) HJ1.out)
  have B6 := Aside0.mk (putL_bytes j 1 v HY.out)
  go_upto_region 10 with (first | (go_at_call 36; (with_reducible refine P1.out.mono ?_); rintro e w5 ⟨rfl, ht⟩; have HT5 := Aside0.mk ht; clear ht T0 T1 T2))
  have P5 := Aside0.mk (tbody_calls HT5.out HY.out B6.out HL.out j 1 (az := i) (nz := 1) HJ.out rfl (Nat.le_trans (Nat.add_le_add_right (placeL_le _) 2) H24.out) HJ1.out HAND.out)
  have B9 := Aside0.mk (bodyT_bytes (b := p9) (was := l) B6.out j 1)
  go_wp2_with (first
    | (go_at_call 50; (with_reducible refine P5.out.mono ?_); rintro e w9 ⟨rfl, ht⟩; have G51 := Aside0.mk (tdone_calls ht B9.out HL.out H24.out); clear ht)
    | (go_at_call 51; (with_reducible refine G51.out.mono ?_); rintro e w10 ⟨v, rfl, hr, hb⟩; have HRX := Aside0.mk hr; have HBX := Aside0.mk hb; clear hr hb))
  go_ret2
  exact ⟨v, rfl, HRX.out, HBX.out⟩
set_option maxHeartbeats 1000000 in
set_option maxRecDepth 100000 in
theorem write_v0_2 {A : Option Addr} {c : Nat} {l : List Int} {w : World} (hr : Kd.C (Kd.int .u8) w A l.length l) (hc : l.length ≤ c) (hl : l.length ≤ 10000) (hb : Bytes l) {p0 p1 p2 p3 p4 p5 p6 p7 p8 : Int} {p9 : Bool} {p10 : Int} {p11 p12 : List Int} (i v : Int) (hp : parseL l = (⟨p0, p1, p2, p3, p4, p5, p6, p7, p8, p9, p10, p11, p12⟩, 0)) (h : v < 0) :
    Calls Try.prog 26 #[.slice A l.length c, .int .i64 i, .int .i64 2, .int .i64 v] w (Told w [] 14) := by
  have G := Aside0.mk (begin_ok hr hc (by omega) hb hp)
  have d0 : decide (v < 0) = true := decide_eq_true h
  clear h
  clear hr hc hl hb hp
  go_enter Try.func26, Try.ntmps26
  go_wp2_with (first | (go_at_call 49; (with_reducible refine G.out.mono ?_); rintro e w1 ⟨t, g, cc, A1, c1, A2, c2, rfl, ht⟩; have HT := Aside0.mk ht; clear ht))
  go_ret2
  exact told_nil (HT.out.below.alloc HT.out.below.size _)
set_option maxHeartbeats 1000000 in
set_option maxRecDepth 100000 in
theorem write_v1_2 {A : Option Addr} {c : Nat} {l : List Int} {w : World} (hr : Kd.C (Kd.int .u8) w A l.length l) (hc : l.length ≤ c) (hl : l.length ≤ 10000) (hb : Bytes l) {p0 p1 p2 p3 p4 p5 p6 p7 p8 : Int} {p9 : Bool} {p10 : Int} {p11 p12 : List Int} (i v : Int) (hp : parseL l = (⟨p0, p1, p2, p3, p4, p5, p6, p7, p8, p9, p10, p11, p12⟩, 0)) (h : 65536 ≤ v) :
    Calls Try.prog 26 #[.slice A l.length c, .int .i64 i, .int .i64 2, .int .i64 v] w (Told w [] 14) := by
  have G := Aside0.mk (begin_ok hr hc (by omega) hb hp)
  have d0 : decide (v < 0) = false := decide_eq_false (by omega)
  have v0 : 0 ≤ v := by omega
  have d1 : (v / 65536 == 0) = false := beq_eq_false_iff_ne.mpr (by omega)
  have d1n : (v / 65536 != 0) = true := bne_iff_ne.mpr (by omega)
  clear h
  clear hr hc hl hb hp
  go_enter Try.func26, Try.ntmps26
  go_wp2_with (first | (go_at_call 49; (with_reducible refine G.out.mono ?_); rintro e w1 ⟨t, g, cc, A1, c1, A2, c2, rfl, ht⟩; have HT := Aside0.mk ht; clear ht))
  go_ret2
  exact told_nil (HT.out.below.alloc HT.out.below.size _)
set_option maxHeartbeats 1000000 in
set_option maxRecDepth 100000 in
theorem write_a0_2 {A : Option Addr} {c : Nat} {l : List Int} {w : World} (hr : Kd.C (Kd.int .u8) w A l.length l) (hc : l.length ≤ c) (hl : l.length ≤ 10000) (hb : Bytes l) {p0 p1 p2 p3 p4 p5 p6 p7 p8 : Int} {p9 : Bool} {p10 : Int} {p11 p12 : List Int} (i v : Int) (hp : parseL l = (⟨p0, p1, p2, p3, p4, p5, p6, p7, p8, p9, p10, p11, p12⟩, 0)) (hv0 : 0 ≤ v) (hv1 : v < 65536) (h : i < 16) :
    Calls Try.prog 26 #[.slice A l.length c, .int .i64 i, .int .i64 2, .int .i64 v] w (Told w [] 14) := by
  have G := Aside0.mk (begin_ok hr hc (by omega) hb hp)
  have d0 : decide (v < 0) = false := decide_eq_false (by omega)
  have v0 : 0 ≤ v := by omega
  have d1 : (v / 65536 == 0) = true := beq_iff_eq.mpr (by omega)
  have d1n : (v / 65536 != 0) = false := by rw [bne, d1]; rfl
  have d2 : decide (i < 16) = true := decide_eq_true h
  clear h hv0 hv1
  clear hr hc hl hb hp
  go_enter Try.func26, Try.ntmps26
  go_wp2_with (first | (go_at_call 49; (with_reducible refine G.out.mono ?_); rintro e w1 ⟨t, g, cc, A1, c1, A2, c2, rfl, ht⟩; have HT := Aside0.mk ht; clear ht))
  go_ret2
  exact told_nil (HT.out.below.alloc HT.out.below.size _)
set_option maxHeartbeats 1000000 in
set_option maxRecDepth 100000 in
theorem write_a1_2 {A : Option Addr} {c : Nat} {l : List Int} {w : World} (hr : Kd.C (Kd.int .u8) w A l.length l) (hc : l.length ≤ c) (hl : l.length ≤ 10000) (hb : Bytes l) {p0 p1 p2 p3 p4 p5 p6 p7 p8 : Int} {p9 : Bool} {p10 : Int} {p11 p12 : List Int} (i v : Int) (hp : parseL l = (⟨p0, p1, p2, p3, p4, p5, p6, p7, p8, p9, p10, p11, p12⟩, 0)) (hv0 : 0 ≤ v) (hv1 : v < 65536) (hi : 16 ≤ i) (h : (l.length : Int) - 2 < i) :
    Calls Try.prog 26 #[.slice A l.length c, .int .i64 i, .int .i64 2, .int .i64 v] w (Told w [] 14) := by
  have G := Aside0.mk (begin_ok hr hc (by omega) hb hp)
  have d0 : decide (v < 0) = false := decide_eq_false (by omega)
  have v0 : 0 ≤ v := by omega
  have d1 : (v / 65536 == 0) = true := beq_iff_eq.mpr (by omega)
  have d1n : (v / 65536 != 0) = false := by rw [bne, d1]; rfl
  have hli : (l.length : Int) ≤ 10000 := by omega
  have hlj : 24 ≤ (l.length : Int) := by have := (head0 (parse0 hp)).1; omega
  have d2 : decide (i < 16) = false := decide_eq_false (by omega)
  have i0 : 16 ≤ i := by omega
  have d3 : decide ((l.length : Int) - 2 < i) = true := decide_eq_true h
  clear h hv0 hv1 hi
  clear hr hc hl hb hp
  go_enter Try.func26, Try.ntmps26
  go_wp2_with (first | (go_at_call 49; (with_reducible refine G.out.mono ?_); rintro e w1 ⟨t, g, cc, A1, c1, A2, c2, rfl, ht⟩; have HT := Aside0.mk ht; clear ht))
  go_ret2
  exact told_nil (HT.out.below.alloc HT.out.below.size _)
set_option maxHeartbeats 1000000 in
set_option maxRecDepth 100000 in
theorem write_s_2 {A : Option Addr} {c : Nat} {l : List Int} {w : World} (hr : Kd.C (Kd.int .u8) w A l.length l) (hc : l.length ≤ c) (hl : l.length ≤ 10000) (hb : Bytes l) {p0 p1 p2 p3 p4 p5 p6 p7 p8 : Int} {p9 : Bool} {p10 : Int} {p11 p12 : List Int} (i v : Int) (hp : parseL l = (⟨p0, p1, p2, p3, p4, p5, p6, p7, p8, p9, p10, p11, p12⟩, 0)) (hv0 : 0 ≤ v) (hv1 : v < 65536) (hi : 16 ≤ i) (hi1 : i + 2 ≤ (l.length : Int)) {s : Nat} (hs : s = if p0 = 3 then 18 else 22) (h : i < s + 2) (h' : s < i + 2) :
    Calls Try.prog 26 #[.slice A l.length c, .int .i64 i, .int .i64 2, .int .i64 v] w (Told w [] 14) := by
  have G := Aside0.mk (begin_ok hr hc (by omega) hb hp)
  have d0 : decide (v < 0) = false := decide_eq_false (by omega)
  have v0 : 0 ≤ v := by omega
  have d1 : (v / 65536 == 0) = true := beq_iff_eq.mpr (by omega)
  have d1n : (v / 65536 != 0) = false := by rw [bne, d1]; rfl
  have hli : (l.length : Int) ≤ 10000 := by omega
  have hlj : 24 ≤ (l.length : Int) := by have := (head0 (parse0 hp)).1; omega
  have d2 : decide (i < 16) = false := decide_eq_false (by omega)
  have i0 : 16 ≤ i := by omega
  have d3 : decide ((l.length : Int) - 2 < i) = false := decide_eq_false (by omega)
  have i1 : i ≤ 10000 := by omega
  have G39 := Aside0.mk (fun W => wire_sumPlace.calls p0 (s : Int) W (by unfold wire_sumPlace.f; rw [hs]; split <;> rfl))
  have d4 : decide (i < (s : Int) + 2) = true := decide_eq_true h
  have d5 : decide ((s : Int) < i + 2) = true := decide_eq_true h'
  have s22 : (s : Int) ≤ 22 := by rw [hs]; split <;> decide
  clear h h' hv0 hv1 hi hi1 hs
  clear hr hc hl hb hp
  go_enter Try.func26, Try.ntmps26
  go_wp2_with (first | (go_at_call 49; (with_reducible refine G.out.mono ?_); rintro e w1 ⟨t, g, cc, A1, c1, A2, c2, rfl, ht⟩; have HT := Aside0.mk ht; clear ht) | (go_at_call 39; (with_reducible refine (G39.out _).mono ?_); rintro e w2 ⟨rfl, ⟨⟨nd, rfl⟩⟩⟩))
  go_ret2
  exact told_nil (bd (HT.out.below.alloc HT.out.below.size _) _)
set_option maxHeartbeats 1000000 in
set_option maxRecDepth 100000 in
theorem write_ok0_2 {A : Option Addr} {c : Nat} {l : List Int} {w : World} (hr : Kd.C (Kd.int .u8) w A l.length l) (hc : l.length ≤ c) (hl : l.length ≤ 10000) (hb : Bytes l) {p0 p1 p2 p3 p4 p5 p6 p7 p8 : Int} {p9 : Bool} {p10 : Int} {p11 p12 : List Int} (i v : Int) (j : Nat) (hp : parseL l = (⟨p0, p1, p2, p3, p4, p5, p6, p7, p8, p9, p10, p11, p12⟩, 0)) (hj : i = j) (hv0 : 0 ≤ v) (hv1 : v < 65536) (hi : 16 ≤ i) (hi1 : i + 2 ≤ (l.length : Int)) {s : Nat} (hs : s = if p0 = 3 then 18 else 22) (h : i < s + 2) (h' : i + 2 ≤ s) :
    Calls Try.prog 26 #[.slice A l.length c, .int .i64 i, .int .i64 2, .int .i64 v] w (Told w (writeL p9 l j 2 v) 0) := by
  have G := Aside0.mk (begin_ok hr hc (by omega) hb hp)
  have H24 := Aside0.mk (show 24 ≤ l.length from (head0 (parse0 hp)).1)
  have HY := Aside0.mk hb
  have HL := Aside0.mk hl
  have HJ := Aside0.mk hj
  have HJ1 := Aside0.mk (show j + 2 ≤ l.length by omega)
  have HAND := Aside0.mk (show Go.bits .andNot .i64 i 1 = ((j / 2 * 2 : Nat) : Int) from by rw [hj]; exact Go.Lib.andNot_one j (by omega))
  have d0 : decide (v < 0) = false := decide_eq_false (by omega)
  have v0 : 0 ≤ v := by omega
  have d1 : (v / 65536 == 0) = true := beq_iff_eq.mpr (by omega)
  have d1n : (v / 65536 != 0) = false := by rw [bne, d1]; rfl
  have hli : (l.length : Int) ≤ 10000 := by omega
  have hlj : 24 ≤ (l.length : Int) := by have := (head0 (parse0 hp)).1; omega
  have d2 : decide (i < 16) = false := decide_eq_false (by omega)
  have i0 : 16 ≤ i := by omega
  have d3 : decide ((l.length : Int) - 2 < i) = false := decide_eq_false (by omega)
  have i1 : i ≤ 10000 := by omega
  have G39 := Aside0.mk (fun W => wire_sumPlace.calls p0 (s : Int) W (by unfold wire_sumPlace.f; rw [hs]; split <;> rfl))
  have d4 : decide (i < (s : Int) + 2) = true := decide_eq_true h
  have d5 : decide ((s : Int) < i + 2) = false := decide_eq_false (by omega)
  have s22 : (s : Int) ≤ 22 := by rw [hs]; split <;> decide
  clear h h' hv0 hv1 hi hi1 hs hr hc hl hb hp hj
  go_enter Try.func26, Try.ntmps26
  go_upto_region 9 with (first | (go_at_call 49; (with_reducible refine G.out.mono ?_); rintro e w1 ⟨t, g, cc, A1, c1, A2, c2, rfl, ht⟩; have HT := Aside0.mk ht; clear ht) | (go_at_call 39; (with_reducible refine (G39.out _).mono ?_); rintro e w2 ⟨rfl, ⟨⟨nd, rfl⟩⟩⟩))
  generalize hW : World.drewN _ _ = w4
  have HT4 : Aside0 (Tur w w4 t g A c cc l l p9) := Aside0.mk (by rw [← hW]; exact (HT.out.alloc _).drewN _)
  clear hW HT
  obtain ⟨T0, T1, T2⟩ := c3 HT4.out.blk
  have P1 := Aside0.mk (tput_calls HT4.out HL.out j 2 v (iz := i) (mz := 2) HJ.out rfl (by omega) HJ1.out)
  have B6 := Aside0.mk (putL_bytes j 2 v HY.out)
  go_upto_region 10 with (first | (go_at_call 36; (with_reducible refine P1.out.mono ?_); rintro e w5 ⟨rfl, ht⟩; have HT5 := Aside0.mk ht; clear ht T0 T1 T2))
  have P5 := Aside0.mk (tbody_calls HT5.out HY.out B6.out HL.out j 2 (az := i) (nz := 2) HJ.out rfl (Nat.le_trans (Nat.add_le_add_right (placeL_le _) 2) H24.out) HJ1.out HAND.out)
  have B9 := Aside0.mk (bodyT_bytes (b := p9) (was := l) B6.out j 2)
  go_wp2_with (first
    | (go_at_call 50; (with_reducible refine P5.out.mono ?_); rintro e w9 ⟨rfl, ht⟩; have G51 := Aside0.mk (tdone_calls ht B9.out HL.out H24.out); clear ht)
    | (go_at_call 51; (with_reducible refine G51.out.mono ?_); rintro e w10 ⟨v, rfl, hr, hb⟩; have HRX := Aside0.mk hr; have HBX := Aside0.mk hb; clear hr hb))
  go_ret2
  exact ⟨v, rfl, HRX.out, HBX.out⟩
set_option maxHeartbeats 1000000 in
set_option maxRecDepth 100000 in
theorem write_ok1_2 {A : Option Addr} {c : Nat} {l : List Int} {w : World} (hr : Kd.C (Kd.int .u8) w A l.length l) (hc : l.length ≤ c) (hl : l.length ≤ 10000) (hb : Bytes l) {p0 p1 p2 p3 p4 p5 p6 p7 p8 : Int} {p9 : Bool} {p10 : Int} {p11 p12 : List Int} (i v : Int) (j : Nat) (hp : parseL l = (⟨p0, p1, p2, p3, p4, p5, p6, p7, p8, p9, p10, p11, p12⟩, 0)) (hj : i = j) (hv0 : 0 ≤ v) (hv1 : v < 65536) (hi : 16 ≤ i) (hi1 : i + 2 ≤ (l.length : Int)) {s : Nat} (hs : s = if p0 = 3 then 18 else 22) (h : (s : Int) + 2 ≤ i) :
    Calls Try.prog 26 #[.slice A l.length c, .int .i64 i, .int .i64 2, .int .i64 v] w (Told w (writeL p9 l j 2 v) 0) := by
  have G := Aside0.mk (begin_ok hr hc (by omega) hb hp)
  have H24 := Aside0.mk (show 24 ≤ l.length from (head0 (parse0 hp)).1)
  have HY := Aside0.mk hb
  have HL := Aside0.mk hl
  have HJ := Aside0.mk hj
  have HJ1 := Aside0.mk (show j + 2 ≤ l.length by omega)
  have HAND := Aside0.mk (show Go.bits .andNot .i64 i 1 = ((j / 2 * 2 : Nat) : Int) from by rw [hj]; exact Go.Lib.andNot_one j (by omega))
  have d0 : decide (v < 0) = false := decide_eq_false (by omega)
  have v0 : 0 ≤ v := by omega
  have d1 : (v / 65536 == 0) = true := beq_iff_eq.mpr (by omega)
  have d1n : (v / 65536 != 0) = false := by rw [bne, d1]; rfl
  have hli : (l.length : Int) ≤ 10000 := by omega
  have hlj : 24 ≤ (l.length : Int) := by have := (head0 (parse0 hp)).1; omega
  have d2 : decide (i < 16) = false := decide_eq_false (by omega)
  have i0 : 16 ≤ i := by omega
  have d3 : decide ((l.length : Int) - 2 < i) = false := decide_eq_false (by omega)
  have i1 : i ≤ 10000 := by omega
  have G39 := Aside0.mk (fun W => wire_sumPlace.calls p0 (s : Int) W (by unfold wire_sumPlace.f; rw [hs]; split <;> rfl))
  have d4 : decide (i < (s : Int) + 2) = false := decide_eq_false (by omega)
  have s22 : (s : Int) ≤ 22 := by rw [hs]; split <;> decide
  clear h hv0 hv1 hi hi1 hs hr hc hl hb hp hj
  go_enter Try.func26, Try.ntmps26
  go_upto_region 9 with (first | (go_at_call 49; (with_reducible refine G.out.mono ?_); rintro e w1 ⟨t, g, cc, A1, c1, A2, c2, rfl, ht⟩; have HT := Aside0.mk ht; clear ht) | (go_at_call 39; (with_reducible refine (G39.out _).mono ?_); rintro e w2 ⟨rfl, ⟨⟨nd, rfl⟩⟩⟩))
  generalize hW : World.drewN _ _ = w4
  have HT4 : Aside0 (Tur w w4 t g A c cc l l p9) := Aside0.mk (by rw [← hW]; exact (HT.out.alloc _).drewN _)
  clear hW HT
  obtain ⟨T0, T1, T2⟩ := c3 HT4.out.blk
  have P1 := Aside0.mk (tput_calls HT4.out HL.out j 2 v (iz := i) (mz := 2) HJ.out rfl (by omega) HJ1.out)
  have B6 := Aside0.mk (putL_bytes j 2 v HY.out)
  go_upto_region 10 with (first | (go_at_call 36; (with_reducible refine P1.out.mono ?_); rintro e w5 ⟨rfl, ht⟩; have HT5 := Aside0.mk ht; clear ht T0 T1 T2))
  have P5 := Aside0.mk (tbody_calls HT5.out HY.out B6.out HL.out j 2 (az := i) (nz := 2) HJ.out rfl (Nat.le_trans (Nat.add_le_add_right (placeL_le _) 2) H24.out) HJ1.out HAND.out)
  have B9 := Aside0.mk (bodyT_bytes (b := p9) (was := l) B6.out j 2)
  go_wp2_with (first
    | (go_at_call 50; (with_reducible refine P5.out.mono ?_); rintro e w9 ⟨rfl, ht⟩; have G51 := Aside0.mk (tdone_calls ht B9.out HL.out H24.out); clear ht)
    | (go_at_call 51; (with_reducible refine G51.out.mono ?_); rintro e w10 ⟨v, rfl, hr, hb⟩; have HRX := Aside0.mk hr; have HBX := Aside0.mk hb; clear hr hb))
  go_ret2
  exact ⟨v, rfl, HRX.out, HBX.out⟩
set_option maxHeartbeats 1000000 in
set_option maxRecDepth 100000 in
theorem write_v0_4 {A : Option Addr} {c : Nat} {l : List Int} {w : World} (hr : Kd.C (Kd.int .u8) w A l.length l) (hc : l.length ≤ c) (hl : l.length ≤ 10000) (hb : Bytes l) {p0 p1 p2 p3 p4 p5 p6 p7 p8 : Int} {p9 : Bool} {p10 : Int} {p11 p12 : List Int} (i v : Int) (hp : parseL l = (⟨p0, p1, p2, p3, p4, p5, p6, p7, p8, p9, p10, p11, p12⟩, 0)) (h : v < 0) :
    Calls Try.prog 26 #[.slice A l.length c, .int .i64 i, .int .i64 4, .int .i64 v] w (Told w [] 14) := by
  have G := Aside0.mk (begin_ok hr hc (by omega) hb hp)
  have d0 : decide (v < 0) = true := decide_eq_true h
  clear h
  clear hr hc hl hb hp
  go_enter Try.func26, Try.ntmps26
  go_wp2_with (first | (go_at_call 49; (with_reducible refine G.out.mono ?_); rintro e w1 ⟨t, g, cc, A1, c1, A2, c2, rfl, ht⟩; have HT := Aside0.mk ht; clear ht))
  go_ret2
  exact told_nil (HT.out.below.alloc HT.out.below.size _)
set_option maxHeartbeats 1000000 in
set_option maxRecDepth 100000 in
theorem write_v1_4 {A : Option Addr} {c : Nat} {l : List Int} {w : World} (hr : Kd.C (Kd.int .u8) w A l.length l) (hc : l.length ≤ c) (hl : l.length ≤ 10000) (hb : Bytes l) {p0 p1 p2 p3 p4 p5 p6 p7 p8 : Int} {p9 : Bool} {p10 : Int} {p11 p12 : List Int} (i v : Int) (hp : parseL l = (⟨p0, p1, p2, p3, p4, p5, p6, p7, p8, p9, p10, p11, p12⟩, 0)) (h : 4294967296 ≤ v) :
    Calls Try.prog 26 #[.slice A l.length c, .int .i64 i, .int .i64 4, .int .i64 v] w (Told w [] 14) := by
  have G := Aside0.mk (begin_ok hr hc (by omega) hb hp)
  have d0 : decide (v < 0) = false := decide_eq_false (by omega)
  have v0 : 0 ≤ v := by omega
  have d1 : (v / 4294967296 == 0) = false := beq_eq_false_iff_ne.mpr (by omega)
  have d1n : (v / 4294967296 != 0) = true := bne_iff_ne.mpr (by omega)
  clear h
  clear hr hc hl hb hp
  go_enter Try.func26, Try.ntmps26
  go_wp2_with (first | (go_at_call 49; (with_reducible refine G.out.mono ?_); rintro e w1 ⟨t, g, cc, A1, c1, A2, c2, rfl, ht⟩; have HT := Aside0.mk ht; clear ht))
  go_ret2
  exact told_nil (HT.out.below.alloc HT.out.below.size _)
set_option maxHeartbeats 1000000 in
set_option maxRecDepth 100000 in
theorem write_a0_4 {A : Option Addr} {c : Nat} {l : List Int} {w : World} (hr : Kd.C (Kd.int .u8) w A l.length l) (hc : l.length ≤ c) (hl : l.length ≤ 10000) (hb : Bytes l) {p0 p1 p2 p3 p4 p5 p6 p7 p8 : Int} {p9 : Bool} {p10 : Int} {p11 p12 : List Int} (i v : Int) (hp : parseL l = (⟨p0, p1, p2, p3, p4, p5, p6, p7, p8, p9, p10, p11, p12⟩, 0)) (hv0 : 0 ≤ v) (hv1 : v < 4294967296) (h : i < 16) :
    Calls Try.prog 26 #[.slice A l.length c, .int .i64 i, .int .i64 4, .int .i64 v] w (Told w [] 14) := by
  have G := Aside0.mk (begin_ok hr hc (by omega) hb hp)
  have d0 : decide (v < 0) = false := decide_eq_false (by omega)
  have v0 : 0 ≤ v := by omega
  have d1 : (v / 4294967296 == 0) = true := beq_iff_eq.mpr (by omega)
  have d1n : (v / 4294967296 != 0) = false := by rw [bne, d1]; rfl
  have d2 : decide (i < 16) = true := decide_eq_true h
  clear h hv0 hv1
  clear hr hc hl hb hp
  go_enter Try.func26, Try.ntmps26
  go_wp2_with (first | (go_at_call 49; (with_reducible refine G.out.mono ?_); rintro e w1 ⟨t, g, cc, A1, c1, A2, c2, rfl, ht⟩; have HT := Aside0.mk ht; clear ht))
  go_ret2
  exact told_nil (HT.out.below.alloc HT.out.below.size _)
set_option maxHeartbeats 1000000 in
set_option maxRecDepth 100000 in
theorem write_a1_4 {A : Option Addr} {c : Nat} {l : List Int} {w : World} (hr : Kd.C (Kd.int .u8) w A l.length l) (hc : l.length ≤ c) (hl : l.length ≤ 10000) (hb : Bytes l) {p0 p1 p2 p3 p4 p5 p6 p7 p8 : Int} {p9 : Bool} {p10 : Int} {p11 p12 : List Int} (i v : Int) (hp : parseL l = (⟨p0, p1, p2, p3, p4, p5, p6, p7, p8, p9, p10, p11, p12⟩, 0)) (hv0 : 0 ≤ v) (hv1 : v < 4294967296) (hi : 16 ≤ i) (h : (l.length : Int) - 4 < i) :
    Calls Try.prog 26 #[.slice A l.length c, .int .i64 i, .int .i64 4, .int .i64 v] w (Told w [] 14) := by
  have G := Aside0.mk (begin_ok hr hc (by omega) hb hp)
  have d0 : decide (v < 0) = false := decide_eq_false (by omega)
  have v0 : 0 ≤ v := by omega
  have d1 : (v / 4294967296 == 0) = true := beq_iff_eq.mpr (by omega)
  have d1n : (v / 4294967296 != 0) = false := by rw [bne, d1]; rfl
  have hli : (l.length : Int) ≤ 10000 := by omega
  have hlj : 24 ≤ (l.length : Int) := by have := (head0 (parse0 hp)).1; omega
  have d2 : decide (i < 16) = false := decide_eq_false (by omega)
  have i0 : 16 ≤ i := by omega
  have d3 : decide ((l.length : Int) - 4 < i) = true := decide_eq_true h
  clear h hv0 hv1 hi
  clear hr hc hl hb hp
  go_enter Try.func26, Try.ntmps26
  go_wp2_with (first | (go_at_call 49; (with_reducible refine G.out.mono ?_); rintro e w1 ⟨t, g, cc, A1, c1, A2, c2, rfl, ht⟩; have HT := Aside0.mk ht; clear ht))
  go_ret2
  exact told_nil (HT.out.below.alloc HT.out.below.size _)
set_option maxHeartbeats 1000000 in
set_option maxRecDepth 100000 in
theorem write_s_4 {A : Option Addr} {c : Nat} {l : List Int} {w : World} (hr : Kd.C (Kd.int .u8) w A l.length l) (hc : l.length ≤ c) (hl : l.length ≤ 10000) (hb : Bytes l) {p0 p1 p2 p3 p4 p5 p6 p7 p8 : Int} {p9 : Bool} {p10 : Int} {p11 p12 : List Int} (i v : Int) (hp : parseL l = (⟨p0, p1, p2, p3, p4, p5, p6, p7, p8, p9, p10, p11, p12⟩, 0)) (hv0 : 0 ≤ v) (hv1 : v < 4294967296) (hi : 16 ≤ i) (hi1 : i + 4 ≤ (l.length : Int)) {s : Nat} (hs : s = if p0 = 3 then 18 else 22) (h : i < s + 2) (h' : s < i + 4) :
    Calls Try.prog 26 #[.slice A l.length c, .int .i64 i, .int .i64 4, .int .i64 v] w (Told w [] 14) := by
  have G := Aside0.mk (begin_ok hr hc (by omega) hb hp)
  have d0 : decide (v < 0) = false := decide_eq_false (by omega)
  have v0 : 0 ≤ v := by omega
  have d1 : (v / 4294967296 == 0) = true := beq_iff_eq.mpr (by omega)
  have d1n : (v / 4294967296 != 0) = false := by rw [bne, d1]; rfl
  have hli : (l.length : Int) ≤ 10000 := by omega
  have hlj : 24 ≤ (l.length : Int) := by have := (head0 (parse0 hp)).1; omega
  have d2 : decide (i < 16) = false := decide_eq_false (by omega)
  have i0 : 16 ≤ i := by omega
  have d3 : decide ((l.length : Int) - 4 < i) = false := decide_eq_false (by omega)
  have i1 : i ≤ 10000 := by omega
  have G39 := Aside0.mk (fun W => wire_sumPlace.calls p0 (s : Int) W (by unfold wire_sumPlace.f; rw [hs]; split <;> rfl))
  have d4 : decide (i < (s : Int) + 2) = true := decide_eq_true h
  have d5 : decide ((s : Int) < i + 4) = true := decide_eq_true h'
  have s22 : (s : Int) ≤ 22 := by rw [hs]; split <;> decide
  clear h h' hv0 hv1 hi hi1 hs
  clear hr hc hl hb hp
  go_enter Try.func26, Try.ntmps26
  go_wp2_with (first | (go_at_call 49; (with_reducible refine G.out.mono ?_); rintro e w1 ⟨t, g, cc, A1, c1, A2, c2, rfl, ht⟩; have HT := Aside0.mk ht; clear ht) | (go_at_call 39; (with_reducible refine (G39.out _).mono ?_); rintro e w2 ⟨rfl, ⟨⟨nd, rfl⟩⟩⟩))
  go_ret2
  exact told_nil (bd (HT.out.below.alloc HT.out.below.size _) _)
set_option maxHeartbeats 1000000 in
set_option maxRecDepth 100000 in
theorem write_ok0_4 {A : Option Addr} {c : Nat} {l : List Int} {w : World} (hr : Kd.C (Kd.int .u8) w A l.length l) (hc : l.length ≤ c) (hl : l.length ≤ 10000) (hb : Bytes l) {p0 p1 p2 p3 p4 p5 p6 p7 p8 : Int} {p9 : Bool} {p10 : Int} {p11 p12 : List Int} (i v : Int) (j : Nat) (hp : parseL l = (⟨p0, p1, p2, p3, p4, p5, p6, p7, p8, p9, p10, p11, p12⟩, 0)) (hj : i = j) (hv0 : 0 ≤ v) (hv1 : v < 4294967296) (hi : 16 ≤ i) (hi1 : i + 4 ≤ (l.length : Int)) {s : Nat} (hs : s = if p0 = 3 then 18 else 22) (h : i < s + 2) (h' : i + 4 ≤ s) :
    Calls Try.prog 26 #[.slice A l.length c, .int .i64 i, .int .i64 4, .int .i64 v] w (Told w (writeL p9 l j 4 v) 0) := by
  have G := Aside0.mk (begin_ok hr hc (by omega) hb hp)
  have H24 := Aside0.mk (show 24 ≤ l.length from (head0 (parse0 hp)).1)
  have HY := Aside0.mk hb
  have HL := Aside0.mk hl
  have HJ := Aside0.mk hj
  have HJ1 := Aside0.mk (show j + 4 ≤ l.length by omega)
  have HAND := Aside0.mk (show Go.bits .andNot .i64 i 1 = ((j / 2 * 2 : Nat) : Int) from by rw [hj]; exact Go.Lib.andNot_one j (by omega))
  have d0 : decide (v < 0) = false := decide_eq_false (by omega)
  have v0 : 0 ≤ v := by omega
  have d1 : (v / 4294967296 == 0) = true := beq_iff_eq.mpr (by omega)
  have d1n : (v / 4294967296 != 0) = false := by rw [bne, d1]; rfl
  have hli : (l.length : Int) ≤ 10000 := by omega
  have hlj : 24 ≤ (l.length : Int) := by have := (head0 (parse0 hp)).1; omega
  have d2 : decide (i < 16) = false := decide_eq_false (by omega)
  have i0 : 16 ≤ i := by omega
  have d3 : decide ((l.length : Int) - 4 < i) = false := decide_eq_false (by omega)
  have i1 : i ≤ 10000 := by omega
  have G39 := Aside0.mk (fun W => wire_sumPlace.calls p0 (s : Int) W (by unfold wire_sumPlace.f; rw [hs]; split <;> rfl))
  have d4 : decide (i < (s : Int) + 2) = true := decide_eq_true h
  have d5 : decide ((s : Int) < i + 4) = false := decide_eq_false (by omega)
  have s22 : (s : Int) ≤ 22 := by rw [hs]; split <;> decide
  clear h h' hv0 hv1 hi hi1 hs hr hc hl hb hp hj
  go_enter Try.func26, Try.ntmps26
  go_upto_region 9 with (first | (go_at_call 49; (with_reducible refine G.out.mono ?_); rintro e w1 ⟨t, g, cc, A1, c1, A2, c2, rfl, ht⟩; have HT := Aside0.mk ht; clear ht) | (go_at_call 39; (with_reducible refine (G39.out _).mono ?_); rintro e w2 ⟨rfl, ⟨⟨nd, rfl⟩⟩⟩))
  generalize hW : World.drewN _ _ = w4
  have HT4 : Aside0 (Tur w w4 t g A c cc l l p9) := Aside0.mk (by rw [← hW]; exact (HT.out.alloc _).drewN _)
  clear hW HT
  obtain ⟨T0, T1, T2⟩ := c3 HT4.out.blk
  have P1 := Aside0.mk (tput_calls HT4.out HL.out j 4 v (iz := i) (mz := 4) HJ.out rfl (by omega) HJ1.out)
  have B6 := Aside0.mk (putL_bytes j 4 v HY.out)
  go_upto_region 10 with (first | (go_at_call 36; (with_reducible refine P1.out.mono ?_); rintro e w5 ⟨rfl, ht⟩; have HT5 := Aside0.mk ht; clear ht T0 T1 T2))
  have P5 := Aside0.mk (tbody_calls HT5.out HY.out B6.out HL.out j 4 (az := i) (nz := 4) HJ.out rfl (Nat.le_trans (Nat.add_le_add_right (placeL_le _) 2) H24.out) HJ1.out HAND.out)
  have B9 := Aside0.mk (bodyT_bytes (b := p9) (was := l) B6.out j 4)
  go_wp2_with (first
    | (go_at_call 50; (with_reducible refine P5.out.mono ?_); rintro e w9 ⟨rfl, ht⟩; have G51 := Aside0.mk (tdone_calls ht B9.out HL.out H24.out); clear ht)
    | (go_at_call 51; (with_reducible refine G51.out.mono ?_); rintro e w10 ⟨v, rfl, hr, hb⟩; have HRX := Aside0.mk hr; have HBX := Aside0.mk hb; clear hr hb))
  go_ret2
  exact ⟨v, rfl, HRX.out, HBX.out⟩
set_option maxHeartbeats 1000000 in
set_option maxRecDepth 100000 in
theorem write_ok1_4 {A : Option Addr} {c : Nat} {l : List Int} {w : World} (hr : Kd.C (Kd.int .u8) w A l.length l) (hc : l.length ≤ c) (hl : l.length ≤ 10000) (hb : Bytes l) {p0 p1 p2 p3 p4 p5 p6 p7 p8 : Int} {p9 : Bool} {p10 : Int} {p11 p12 : List Int} (i v : Int) (j : Nat) (hp : parseL l = (⟨p0, p1, p2, p3, p4, p5, p6, p7, p8, p9, p10, p11, p12⟩, 0)) (hj : i = j) (hv0 : 0 ≤ v) (hv1 : v < 4294967296) (hi : 16 ≤ i) (hi1 : i + 4 ≤ (l.length : Int)) {s : Nat} (hs : s = if p0 = 3 then 18 else 22) (h : (s : Int) + 2 ≤ i) :
    Calls Try.prog 26 #[.slice A l.length c, .int .i64 i, .int .i64 4, .int .i64 v] w (Told w (writeL p9 l j 4 v) 0) := by
  have G := Aside0.mk (begin_ok hr hc (by omega) hb hp)
  have H24 := Aside0.mk (show 24 ≤ l.length from (head0 (parse0 hp)).1)
  have HY := Aside0.mk hb
  have HL := Aside0.mk hl
  have HJ := Aside0.mk hj
  have HJ1 := Aside0.mk (show j + 4 ≤ l.length by omega)
  have HAND := Aside0.mk (show Go.bits .andNot .i64 i 1 = ((j / 2 * 2 : Nat) : Int) from by rw [hj]; exact Go.Lib.andNot_one j (by omega))
  have d0 : decide (v < 0) = false := decide_eq_false (by omega)
  have v0 : 0 ≤ v := by omega
  have d1 : (v / 4294967296 == 0) = true := beq_iff_eq.mpr (by omega)
  have d1n : (v / 4294967296 != 0) = false := by rw [bne, d1]; rfl
  have hli : (l.length : Int) ≤ 10000 := by omega
  have hlj : 24 ≤ (l.length : Int) := by have := (head0 (parse0 hp)).1; omega
  have d2 : decide (i < 16) = false := decide_eq_false (by omega)
  have i0 : 16 ≤ i := by omega
  have d3 : decide ((l.length : Int) - 4 < i) = false := decide_eq_false (by omega)
  have i1 : i ≤ 10000 := by omega
  have G39 := Aside0.mk (fun W => wire_sumPlace.calls p0 (s : Int) W (by unfold wire_sumPlace.f; rw [hs]; split <;> rfl))
  have d4 : decide (i < (s : Int) + 2) = false := decide_eq_false (by omega)
  have s22 : (s : Int) ≤ 22 := by rw [hs]; split <;> decide
  clear h hv0 hv1 hi hi1 hs hr hc hl hb hp hj
  go_enter Try.func26, Try.ntmps26
  go_upto_region 9 with (first | (go_at_call 49; (with_reducible refine G.out.mono ?_); rintro e w1 ⟨t, g, cc, A1, c1, A2, c2, rfl, ht⟩; have HT := Aside0.mk ht; clear ht) | (go_at_call 39; (with_reducible refine (G39.out _).mono ?_); rintro e w2 ⟨rfl, ⟨⟨nd, rfl⟩⟩⟩))
  generalize hW : World.drewN _ _ = w4
  have HT4 : Aside0 (Tur w w4 t g A c cc l l p9) := Aside0.mk (by rw [← hW]; exact (HT.out.alloc _).drewN _)
  clear hW HT
  obtain ⟨T0, T1, T2⟩ := c3 HT4.out.blk
  have P1 := Aside0.mk (tput_calls HT4.out HL.out j 4 v (iz := i) (mz := 4) HJ.out rfl (by omega) HJ1.out)
  have B6 := Aside0.mk (putL_bytes j 4 v HY.out)
  go_upto_region 10 with (first | (go_at_call 36; (with_reducible refine P1.out.mono ?_); rintro e w5 ⟨rfl, ht⟩; have HT5 := Aside0.mk ht; clear ht T0 T1 T2))
  have P5 := Aside0.mk (tbody_calls HT5.out HY.out B6.out HL.out j 4 (az := i) (nz := 4) HJ.out rfl (Nat.le_trans (Nat.add_le_add_right (placeL_le _) 2) H24.out) HJ1.out HAND.out)
  have B9 := Aside0.mk (bodyT_bytes (b := p9) (was := l) B6.out j 4)
  go_wp2_with (first
    | (go_at_call 50; (with_reducible refine P5.out.mono ?_); rintro e w9 ⟨rfl, ht⟩; have G51 := Aside0.mk (tdone_calls ht B9.out HL.out H24.out); clear ht)
    | (go_at_call 51; (with_reducible refine G51.out.mono ?_); rintro e w10 ⟨v, rfl, hr, hb⟩; have HRX := Aside0.mk hr; have HBX := Aside0.mk hb; clear hr hb))
  go_ret2
  exact ⟨v, rfl, HRX.out, HBX.out⟩
end Go.Proofs.Ytbjhmifhmojaoaa.WB

namespace Go.Proofs.Ytbjhmifhmojaoaa.WB
set_option linter.unusedVariables false
set_option linter.unusedSimpArgs false
open Go.RowKit Go.Proofs.Ytbjhmifhmojaoaa.Hp Go.Proofs.Ytbjhmifhmojaoaa.SB Go.Proofs.YtbjhmifhmojaoaaW.PrintWords Go.Proofs.YtbjhmifhmojaoaaW.PrintLast Go.Proofs.YtbjhmifhmojaoaaW.PrintMore

/-- The number of two bytes. -/
def pr (l : List Int) (i : Nat) : Int := l.getD i 0 * 256 + l.getD (i + 1) 0
theorem getD_out {l : List Int} {i : Nat} (h : l.length ≤ i) : l.getD i 0 = 0 := by
  rw [List.getD_eq_getElem?_getD, List.getElem?_eq_none h]; rfl
theorem num2_pr (l : List Int) (i : Nat) : numL l i 2 = pr l i := by
  simp only [numL, pr, Nat.add_zero]; omega
theorem pairL_pr (l : List Int) (i : Nat) : pairL l i = pr l i := by
  unfold pairL
  split
  · rename_i h; unfold pr; rw [getD_out (show l.length ≤ i + 1 by omega)]; omega
  · exact num2_pr l i
theorem pr_b {l : List Int} (hb : Bytes l) (i : Nat) : 0 ≤ pr l i ∧ pr l i ≤ 65535 := by
  have h1 := getD_byte hb i
  have h2 := getD_byte hb (i + 1)
  unfold pr; omega
theorem pairs_drop (l : List Int) (i : Nat) : pairs (l.drop i) = pr l i + pairs (l.drop (i + 2)) := by
  unfold pr
  by_cases h1 : i + 1 < l.length
  · rw [drop2 h1]; simp only [pairs]
  · by_cases h2 : i + 1 = l.length
    · rw [drop1 h2, List.drop_eq_nil_of_le (show l.length ≤ i + 2 by omega), getD_out (show l.length ≤ i + 1 by omega)]; simp only [pairs]; omega
    · rw [List.drop_eq_nil_of_le (show l.length ≤ i by omega), List.drop_eq_nil_of_le (show l.length ≤ i + 2 by omega), getD_out (show l.length ≤ i by omega), getD_out (show l.length ≤ i + 1 by omega)]; simp only [pairs]; omega
/-- The sum of so many pairs from a place on. -/
def psum (l : List Int) : Nat → Nat → Int
  | _, 0 => 0
  | i, k + 1 => pr l i + psum l (i + 2) k
theorem pairs_psum (l : List Int) : ∀ (k i : Nat), pairs (l.drop i) = psum l i k + pairs (l.drop (i + 2 * k))
  | 0, i => by simp [psum]
  | k + 1, i => by
    rw [pairs_drop, pairs_psum l k (i + 2), psum, show i + 2 + 2 * k = i + 2 * (k + 1) by omega]; omega
theorem psum_add (l : List Int) : ∀ (k i m : Nat), psum l i (k + m) = psum l i k + psum l (i + 2 * k) m
  | 0, i, m => by simp [psum]
  | k + 1, i, m => by
    rw [show k + 1 + m = (k + m) + 1 by omega, psum, psum, psum_add l k (i + 2) m, show i + 2 + 2 * k = i + 2 * (k + 1) by omega]; omega
theorem psum_congr {l m : List Int} : ∀ (k i : Nat), (∀ j, i ≤ j → j < i + 2 * k → l.getD j 0 = m.getD j 0) → psum l i k = psum m i k
  | 0, i, _ => rfl
  | k + 1, i, h => by
    rw [psum, psum, psum_congr k (i + 2) (fun j h1 h2 => h j (by omega) (by omega))]
    unfold pr
    rw [h i (by omega) (by omega), h (i + 1) (by omega) (by omega)]
theorem psum_b {l : List Int} (hb : Bytes l) : ∀ (k i : Nat), 0 ≤ psum l i k ∧ psum l i k ≤ 65535 * k
  | 0, _ => by simp [psum]
  | k + 1, i => by
    have := psum_b hb k (i + 2)
    have := pr_b hb i
    rw [psum]; omega
theorem getD_take {l : List Int} {n i : Nat} (h : i < n) : (l.take n).getD i 0 = l.getD i 0 := by
  rw [List.getD_eq_getElem?_getD, List.getD_eq_getElem?_getD, List.getElem?_take, if_pos h]
theorem getD_drop (l : List Int) (n i : Nat) : (l.drop n).getD i 0 = l.getD (n + i) 0 := by
  rw [List.getD_eq_getElem?_getD, List.getD_eq_getElem?_getD, List.getElem?_drop]
theorem pairs_take (l : List Int) (k : Nat) (h : 2 * k ≤ l.length) : pairs (l.take (2 * k)) = psum l 0 k := by
  have e := pairs_psum (l.take (2 * k)) k 0
  rw [List.drop_zero, List.drop_eq_nil_of_le (show (l.take (2 * k)).length ≤ 0 + 2 * k by rw [List.length_take]; omega)] at e
  rw [e, psum_congr k 0 (m := l) (fun j _ h2 => getD_take (by omega))]; simp [pairs]
theorem ext_getD {l m : List Int} (h : l.length = m.length) (hh : ∀ j, j < l.length → l.getD j 0 = m.getD j 0) : l = m := by
  refine List.ext_getElem h fun j h1 h2 => ?_
  have := hh j h1
  rw [List.getD_eq_getElem?_getD, List.getD_eq_getElem?_getD, List.getElem?_eq_getElem h1, List.getElem?_eq_getElem h2] at this
  exact this
theorem drop_congr {l m : List Int} {n : Nat} (h : l.length = m.length) (hh : ∀ j, n ≤ j → l.getD j 0 = m.getD j 0) : l.drop n = m.drop n := by
  refine ext_getD (by simp [h]) fun j _ => ?_
  rw [getD_drop, getD_drop]; exact hh _ (by omega)
theorem take_congr {l m : List Int} {n : Nat} (h : l.length = m.length) (hh : ∀ j, j < n → l.getD j 0 = m.getD j 0) : l.take n = m.take n := by
  refine ext_getD (by simp [h]) fun j hj => ?_
  rw [List.length_take] at hj
  rw [getD_take (by omega), getD_take (by omega)]; exact hh _ (by omega)
theorem getD_set_ne {l : List Int} {i j : Nat} {x : Int} (h : i ≠ j) : (l.set i x).getD j 0 = l.getD j 0 := by
  rw [List.getD_eq_getElem?_getD, List.getD_eq_getElem?_getD, List.getElem?_set_ne h]
theorem getD_set_eq {l : List Int} {i : Nat} {x : Int} (h : i < l.length) : (l.set i x).getD i 0 = x := by
  rw [List.getD_eq_getElem?_getD, List.getElem?_set_self h]; rfl
theorem putL_far (i : Nat) : ∀ (n : Nat) (l : List Int) (v : Int) (j : Nat), (j < i ∨ i + n ≤ j) → (putL l i n v).getD j 0 = l.getD j 0
  | 0, _, _, _, _ => rfl
  | n + 1, l, v, j, h => by
    rw [putL, putL_far i n _ _ j (by omega), getD_set_ne (by omega)]
theorem numL_congr {l m : List Int} (i : Nat) : ∀ (n : Nat), (∀ j, i ≤ j → j < i + n → l.getD j 0 = m.getD j 0) → numL l i n = numL m i n
  | 0, _ => rfl
  | n + 1, h => by
    rw [numL, numL, numL_congr i n (fun j h1 h2 => h j h1 (by omega)), h (i + n) (by omega) (by omega)]
theorem numL_putL_far {l : List Int} (i n : Nat) (v : Int) (j m : Nat) (h : j + m ≤ i ∨ i + n ≤ j) : numL (putL l i n v) j m = numL l j m :=
  numL_congr j m fun k h1 h2 => putL_far i n l v k (by omega)
theorem numL_putL (i : Nat) : ∀ (n : Nat) (l : List Int) (v : Int), i + n ≤ l.length → 0 ≤ v → v < 256 ^ n → numL (putL l i n v) i n = v
  | 0, _, v, _, h0, h1 => by simp only [numL]; simp at h1; omega
  | n + 1, l, v, h, h0, h1 => by
    rw [putL, numL, numL_putL i n _ _ (by rw [List.length_set]; omega) (by omega) (by rw [Int.pow_succ] at h1; omega), putL_far i n _ _ (i + n) (by omega), getD_set_eq (by omega)]
    omega
theorem pr_putL {l : List Int} {i : Nat} {v : Int} (h : i + 2 ≤ l.length) (h0 : 0 ≤ v) (h1 : v ≤ 65535) : pr (putL l i 2 v) i = v := by
  rw [← num2_pr]; exact numL_putL i 2 l v h h0 (by have : (256 : Int) ^ 2 = 65536 := (by decide); omega)
theorem turnS_mod {was L : List Int} (h1 : Bytes was) (h2 : Bytes L) : ∀ (k i : Nat) (s : Int), 0 ≤ s → s ≤ 65535 → (turnS was L k i s - (s + psum was i k - psum L i k)) % 65535 = 0
  | 0, _, s, _, _ => by simp [turnS, psum]
  | k + 1, i, s, a, b => by
    have p1 := pr_b h1 i
    have p2 := pr_b h2 i
    have t := turn_bounds a b p1.1 p1.2 p2.1 p2.2
    have r := turnS_mod h1 h2 k (i + 2) _ t.1 t.2
    rw [turnS, pairL_pr, pairL_pr, psum, psum]
    have m : (turn s (pr was i) (pr L i) - (s + pr was i - pr L i)) % 65535 = 0 := by
      unfold turn plus; repeat' split
      all_goals omega
    omega
/-- What the pairs come to, without the middle ones. -/
theorem pairs_turn {was L : List Int} (hl : L.length = was.length) (o i k : Nat) (ho : o ≤ i) (he : (i - o) % 2 = 0) (hs : ∀ j, o ≤ j → (j < i ∨ i + 2 * k ≤ j) → L.getD j 0 = was.getD j 0) :
    pairs (L.drop o) = pairs (was.drop o) + (psum L i k - psum was i k) := by
  have ei : o + 2 * ((i - o) / 2) = i := by omega
  rw [pairs_psum L ((i - o) / 2) o, pairs_psum was ((i - o) / 2) o, ei, pairs_psum L k i, pairs_psum was k i]
  rw [psum_congr (l := L) (m := was) ((i - o) / 2) o (fun j h1 h2 => hs j h1 (by omega)), drop_congr (l := L) (m := was) hl (n := i + 2 * k) (fun j h1 => hs j (by omega) (by omega))]
  omega
end Go.Proofs.Ytbjhmifhmojaoaa.WB

namespace Go.Proofs.Ytbjhmifhmojaoaa.WB
set_option linter.unusedVariables false
set_option linter.unusedSimpArgs false
open Go.RowKit Go.Proofs.Ytbjhmifhmojaoaa.Hp Go.Proofs.Ytbjhmifhmojaoaa.SB Go.Proofs.YtbjhmifhmojaoaaW.PrintWords Go.Proofs.YtbjhmifhmojaoaaW.PrintLast Go.Proofs.YtbjhmifhmojaoaaW.PrintMore

/-- Bytes that Parse takes apart. -/
structure Ok (l : List Int) : Prop where
  h24 : 24 ≤ l.length
  le : l.length ≤ 1500
  num : numL l 2 2 = (l.length : Int)
  z13 : l.getD 13 0 = 0
  sum : fold (pairs (l.take 16)) = 65535
  k1 : 1 ≤ l.getD 0 0
  k3 : l.getD 0 0 ≤ 3
  f44 : l.getD 0 0 = 3 → 44 ≤ l.length
  f17 : l.getD 0 0 = 3 → l.getD 17 0 = 0
  s20 : l.getD 0 0 = 1 → l.getD 20 0 ≤ 15
  s21 : l.getD 0 0 = 1 → l.getD 21 0 ≤ 40
  rest : l.getD 0 0 = 1 → restS l ≤ l.length
/-- The packet that they are. -/
def pkL (l : List Int) : Pk :=
  if l.getD 0 0 = 3 then ⟨3, l.getD 1 0, l.getD 12 0, numL l 4 4, numL l 8 4, 0, 0, 0, 0, false, l.getD 16 0, [], l.drop 20⟩
  else if l.getD 0 0 = 2 then ⟨2, l.getD 1 0, l.getD 12 0, numL l 4 4, numL l 8 4, numL l 16 2, numL l 18 2, 0, numL l 20 2, numL l 22 2 == 0, 0, [], l.drop 24⟩
  else ⟨1, l.getD 1 0, l.getD 12 0, numL l 4 4, numL l 8 4, numL l 16 2, numL l 18 2, l.getD 20 0, 0, false, 0, (l.take (restS l)).drop 24, l.drop (restS l)⟩
theorem Ok.head {l : List Int} (h : Ok l) : headE l = 0 := by
  have := h.h24
  unfold headE
  rw [if_neg (by omega), if_neg (show ¬ ¬ _ from fun x => x ⟨h.k1, h.k3⟩), if_neg (show ¬ ¬ _ from fun x => x ⟨h.num, h.le, h.z13⟩), if_neg (show ¬ ¬ _ from fun x => x h.sum), if_neg ?_]
  rintro (x | ⟨x, y⟩)
  · omega
  · have := h.f44 x; omega
theorem Ok.parse {l : List Int} (h : Ok l) : parseL l = (pkL l, 0) := by
  unfold parseL pkL
  rw [if_neg (show ¬ headE l ≠ 0 from fun x => x h.head)]
  by_cases h3 : l.getD 0 0 = 3
  · rw [if_pos h3, if_neg (show ¬ l.getD 17 0 ≠ 0 from fun x => x (h.f17 h3)), if_pos h3]
  · rw [if_neg h3, if_neg h3]
    by_cases h2 : l.getD 0 0 = 2
    · rw [if_pos h2, if_pos h2]
    · have a := h.k1
      have b := h.k3
      have h1 : l.getD 0 0 = 1 := by omega
      have c1 := h.s20 h1
      have c2 := h.s21 h1
      have c3 := h.rest h1
      rw [if_neg h2, if_neg h2, if_neg (by omega)]
theorem ok_of {l : List Int} (h : (parseL l).2 = 0) : Ok l := by
  have he : headE l = 0 := by
    by_cases he : headE l = 0
    · exact he
    · unfold parseL at h; rw [if_pos he] at h; exact absurd h he
  obtain ⟨h24, hle, hn, h13, hs, hk⟩ := head0 he
  unfold parseL at h
  rw [if_neg (show ¬ headE l ≠ 0 from fun x => x he)] at h
  refine ⟨h24, hle, hn, h13, hs, by omega, by omega, by omega, ?_, ?_, ?_, ?_⟩
  · intro h3
    rw [if_pos h3] at h
    by_cases z : l.getD 17 0 = 0
    · exact z
    · rw [if_pos z] at h; cases h
  all_goals
    intro h1
    rw [if_neg (by omega), if_neg (by omega)] at h
    by_cases z : l.getD 20 0 > 15 ∨ l.getD 21 0 > 40 ∨ restS l > l.length
    · rw [if_pos z] at h; cases h
    · omega
theorem parse_ok_iff {l : List Int} {p : Pk} : parseL l = (p, 0) ↔ Ok l ∧ p = pkL l := by
  constructor
  · intro h
    have o := ok_of (l := l) (by rw [h])
    refine ⟨o, ?_⟩
    rw [o.parse] at h
    exact (Prod.mk.inj h).1.symm
  · rintro ⟨o, rfl⟩; exact o.parse
/-- What a body's sum adds up. -/
theorem pairs_summed {l : List Int} (h : 16 ≤ l.length) (h' : l.length ≤ 65000) : pairs (summedL l) = (if l.getD 0 0 = 3 then 0 else psum l 4 4) + l.getD 0 0 + ((l.length : Int) - 16) + pairs (l.drop 16) := by
  have e : pairs ((l.take 12).drop 4) = psum l 4 4 := by
    rw [pairs_psum _ 4 4, List.drop_eq_nil_of_le (show (l.take 12).length ≤ 4 + 2 * 4 by rw [List.length_take]; omega), psum_congr 4 4 (m := l) (fun j _ h2 => getD_take (by omega))]
    simp [pairs]
  have lt : ((l.take 12).drop 4).length = 8 := by rw [List.length_drop, List.length_take]; omega
  unfold summedL
  split
  · rw [pairs_app _ _ (by simp), List.nil_append]; simp only [pairs]; omega
  · rw [pairs_app _ _ (by simp only [List.length_append, lt, List.length_cons, List.length_nil]), pairs_app _ _ (by rw [lt]), e]; simp only [pairs]; omega
theorem fold_right {n : Int} (hn : 0 < n) : fold n = 65535 ↔ n % 65535 = 0 := by unfold fold; split <;> omega
theorem summed_pos {l : List Int} (hb : Bytes l) (h : 16 ≤ l.length) (h' : l.length ≤ 65000) (hk : 1 ≤ l.getD 0 0) : 0 < pairs (summedL l) := by
  rw [pairs_summed h h']
  have a := (psum_b hb 4 4).1
  have b := pairs_nonneg (hb.drop 16)
  split <;> omega
/-- Is a body's sum right? -/
theorem whole_iff {l : List Int} (hb : Bytes l) (o : Ok l) : wholeL l = ((pkL l).bare || pairs (summedL l) % 65535 == 0) := by
  have := o.h24
  have := o.le
  unfold wholeL
  rw [o.parse]
  have : (fold (pairs (summedL l)) == 65535) = (pairs (summedL l) % 65535 == 0) := by
    rw [Bool.eq_iff_iff, beq_iff_eq, beq_iff_eq]
    exact fold_right (summed_pos hb (by omega) (by omega) o.k1)
  rw [this]; rfl
/-- A body's sum laid anew. -/
theorem summed_put {l : List Int} {s : Nat} {v : Int} (h : s + 2 ≤ l.length) (h' : l.length ≤ 65000) (hs : s = 18 ∨ s = 22) (h0 : 0 ≤ v) (h1 : v ≤ 65535) : pairs (summedL (putL l s 2 v)) = pairs (summedL l) - pr l s + v := by
  have hl := putL_len s 2 l v
  rw [pairs_summed (l := putL l s 2 v) (by omega) (by omega), pairs_summed (l := l) (by omega) (by omega), hl, putL_far s 2 l v 0 (by omega),
    psum_congr (l := putL l s 2 v) (m := l) 4 4 (fun j a b => putL_far s 2 l v j (by omega)),
    pairs_turn (L := putL l s 2 v) (was := l) hl 16 s 1 (by omega) (by omega) (fun j a b => putL_far s 2 l v j (by omega))]
  simp only [psum, pr_putL h h0 h1]
  omega
/-- The sum of a head. -/
theorem head_put {l : List Int} {v : Int} (h : 16 ≤ l.length) (h0 : 0 ≤ v) (h1 : v ≤ 65535) : pairs ((putL l 14 2 v).take 16) = pairs (l.take 16) - pr l 14 + v := by
  rw [show 16 = 2 * 8 from rfl, pairs_take _ 8 (by rw [putL_len]; omega), pairs_take l 8 (by omega), show (8 : Nat) = 7 + 1 from rfl, psum_add, psum_add,
    psum_congr (l := putL l 14 2 v) (m := l) 7 0 (fun j a b => putL_far 14 2 l v j (by omega))]
  have e0 : psum (putL l 14 2 v) (0 + 2 * 7) 1 = v := by
    show pr (putL l 14 2 v) 14 + 0 = v
    rw [pr_putL (show 14 + 2 ≤ l.length by omega) h0 h1]; omega
  have e1 : psum l (0 + 2 * 7) 1 = pr l 14 := by
    show pr l 14 + 0 = _
    omega
  rw [e0, e1]
  omega
theorem head_pos {l : List Int} (hb : Bytes l) (h : 16 ≤ l.length) (hk : 1 ≤ l.getD 0 0) : 0 < pairs (l.take 16) := by
  rw [show 16 = 2 * 8 from rfl, pairs_take _ 8 (by omega), show (8 : Nat) = 7 + 1 from rfl, psum]
  have a : 0 ≤ psum l (0 + 2) 7 := (psum_b hb 7 2).1
  have b : 0 ≤ l.getD (0 + 1) 0 := (getD_byte hb 1).1
  unfold pr; omega
theorem fold_mod {n : Int} (h : 0 < n) : (n + (65535 - fold n)) % 65535 = 0 := by unfold fold; split <;> omega
end Go.Proofs.Ytbjhmifhmojaoaa.WB

namespace Go.Proofs.Ytbjhmifhmojaoaa.WB
set_option linter.unusedVariables false
set_option linter.unusedSimpArgs false
open Go.RowKit Go.Proofs.Ytbjhmifhmojaoaa.Hp Go.Proofs.Ytbjhmifhmojaoaa.SB Go.Proofs.YtbjhmifhmojaoaaW.PrintWords Go.Proofs.YtbjhmifhmojaoaaW.PrintLast Go.Proofs.YtbjhmifhmojaoaaW.PrintMore

def ageL (bare : Bool) (l : List Int) : List Int := doneL bare (turnL l (l.set 1 ((l.getD 1 0 - 1) % 256)) 14 0 2)
/-- What Age answers. -/
def ageR (l : List Int) : List Int × Int :=
  if (parseL l).2 ≠ 0 then ([], (parseL l).2) else if (parseL l).1.life < 2 then ([], 7) else (ageL (parseL l).1.bare l, 0)
/-- What Nat answers. -/
def natR (l : List Int) (src : Bool) (addr port : Int) : List Int × Int :=
  if (parseL l).2 ≠ 0 then ([], (parseL l).2) else if (parseL l).1.kind = 3 then ([], 2) else if rgB addr 4294967295 = false ∨ rgB port 65535 = false then ([], 14)
  else (natL (parseL l).1.bare l (if src then 4 else 8) (if src then 16 else 18) addr port, 0)
/-- May so many bytes be laid there? -/
def wrOK (l : List Int) (i m v : Int) : Prop :=
  (m = 1 ∨ m = 2 ∨ m = 4) ∧ 0 ≤ v ∧ v < 256 ^ m.toNat ∧ 16 ≤ i ∧ i + m ≤ l.length ∧ (i + m ≤ placeL l ∨ (placeL l : Int) + 2 ≤ i)
instance (l : List Int) (i m v : Int) : Decidable (wrOK l i m v) := by unfold wrOK; infer_instance
/-- What Write answers. -/
def writeR (l : List Int) (i m v : Int) : List Int × Int :=
  if (parseL l).2 ≠ 0 then ([], (parseL l).2) else if wrOK l i m v then (writeL (parseL l).1.bare l i.toNat m.toNat v, 0) else ([], 14)
theorem age_calls {A : Option Addr} {c n : Nat} {l : List Int} {w : World} (hr : Kd.C (Kd.int .u8) w A n l) (hn : l.length = n) (hc : n ≤ c) (hl : l.length ≤ 10000) (hb : Bytes l) :
    Calls Try.prog 30 #[.slice A n c] w (Told w (ageR l).1 (ageR l).2) := by
  subst hn
  obtain ⟨⟨p0, p1, p2, p3, p4, p5, p6, p7, p8, p9, p10, p11, p12⟩, x, hp⟩ : ∃ p x, parseL l = (p, x) := ⟨_, _, rfl⟩
  unfold ageR ageL
  rw [hp]
  by_cases hx : x = 0
  · subst hx
    have h := age_ok hr hc hl hb hp
    dsimp only
    by_cases h2 : p1 < 2
    · rw [if_pos h2, if_pos h2] at h; rw [if_neg (by simp), if_pos h2]; exact h
    · rw [if_neg h2, if_neg h2] at h; rw [if_neg (by simp), if_neg h2]; exact h
  · dsimp only
    rw [if_pos hx]
    exact age_err hr hc hl hb hp hx
theorem nat_calls {A : Option Addr} {c n : Nat} {l : List Int} {w : World} (hr : Kd.C (Kd.int .u8) w A n l) (hn : l.length = n) (hc : n ≤ c) (hl : l.length ≤ 10000) (hb : Bytes l) (src : Bool) (addr port : Int) :
    Calls Try.prog 28 #[.slice A n c, .bool src, .int .i64 addr, .int .i64 port] w (Told w (natR l src addr port).1 (natR l src addr port).2) := by
  subst hn
  obtain ⟨⟨p0, p1, p2, p3, p4, p5, p6, p7, p8, p9, p10, p11, p12⟩, x, hp⟩ : ∃ p x, parseL l = (p, x) := ⟨_, _, rfl⟩
  unfold natR
  rw [hp]
  by_cases hx : x = 0
  · subst hx
    dsimp only
    rw [if_neg (by simp)]
    by_cases h3 : p0 = 3
    · rw [if_pos h3]; exact nat_fault hr hc hl hb src addr port hp h3
    · rw [if_neg h3]
      by_cases ha : rgB addr 4294967295 = false
      · rw [if_pos (Or.inl ha)]; exact nat_range1 hr hc hl hb src addr port hp h3 ha
      · have ha' : rgB addr 4294967295 = true := by simpa using ha
        by_cases hq : rgB port 65535 = false
        · rw [if_pos (Or.inr hq)]; exact nat_range2 hr hc hl hb src addr port hp h3 ha' hq
        · have hq' : rgB port 65535 = true := by simpa using hq
          rw [if_neg (by simp [ha', hq'])]
          cases src with
          | true => exact nat_ok_true hr hc hl hb addr port hp h3 ha' hq'
          | false => exact nat_ok_false hr hc hl hb addr port hp h3 ha' hq'
  · dsimp only
    rw [if_pos hx]
    exact nat_err hr hc hl hb src addr port hp hx
theorem kind0 {l : List Int} {p : Pk} (h : parseL l = (p, 0)) : p.kind = l.getD 0 0 := by
  obtain ⟨o, rfl⟩ := parse_ok_iff.1 h
  have a := o.k1
  have b := o.k3
  unfold pkL
  by_cases h3 : l.getD 0 0 = 3
  · rw [if_pos h3, h3]
  · rw [if_neg h3]
    by_cases h2 : l.getD 0 0 = 2
    · rw [if_pos h2, h2]
    · rw [if_neg h2]; show (1 : Int) = _; omega
theorem write_calls {A : Option Addr} {c n : Nat} {l : List Int} {w : World} (hr : Kd.C (Kd.int .u8) w A n l) (hn : l.length = n) (hc : n ≤ c) (hl : l.length ≤ 10000) (hb : Bytes l) (i m v : Int) :
    Calls Try.prog 26 #[.slice A n c, .int .i64 i, .int .i64 m, .int .i64 v] w (Told w (writeR l i m v).1 (writeR l i m v).2) := by
  subst hn
  obtain ⟨⟨p0, p1, p2, p3, p4, p5, p6, p7, p8, p9, p10, p11, p12⟩, x, hp⟩ : ∃ p x, parseL l = (p, x) := ⟨_, _, rfl⟩
  unfold writeR
  rw [hp]
  by_cases hx : x = 0
  · subst hx
    dsimp only
    have hs : placeL l = if p0 = 3 then 18 else 22 := by unfold placeL; rw [← kind0 hp]
    rw [if_neg (by simp)]
    by_cases hm : m = 1 ∨ m = 2 ∨ m = 4
    · have e1 : (256 : Int) ^ Int.toNat 1 = 256 := by decide
      have e2 : (256 : Int) ^ Int.toNat 2 = 65536 := by decide
      have e4 : (256 : Int) ^ Int.toNat 4 = 4294967296 := by decide
      by_cases h0 : v < 0
      · rw [if_neg (by unfold wrOK; omega)]
        rcases hm with rfl | rfl | rfl
        · exact write_v0_1 hr hc hl hb i v hp h0
        · exact write_v0_2 hr hc hl hb i v hp h0
        · exact write_v0_4 hr hc hl hb i v hp h0
      by_cases h1 : v < 256 ^ m.toNat
      · by_cases h2 : i < 16
        · rw [if_neg (by unfold wrOK; omega)]
          rcases hm with rfl | rfl | rfl
          · exact write_a0_1 hr hc hl hb i v hp (by omega) (by omega) h2
          · exact write_a0_2 hr hc hl hb i v hp (by omega) (by omega) h2
          · exact write_a0_4 hr hc hl hb i v hp (by omega) (by omega) h2
        by_cases h3 : i + m ≤ l.length
        · obtain ⟨j, rfl⟩ := Int.eq_ofNat_of_zero_le (show 0 ≤ i by omega)
          by_cases h4 : (j : Int) + m ≤ placeL l ∨ (placeL l : Int) + 2 ≤ j
          · rw [if_pos ⟨hm, by omega, h1, by omega, h3, h4⟩]
            rcases h4 with h4 | h4
            · rcases hm with rfl | rfl | rfl
              · exact write_ok0_1 hr hc hl hb j v j hp rfl (by omega) (by omega) (by omega) h3 hs (by omega) h4
              · exact write_ok0_2 hr hc hl hb j v j hp rfl (by omega) (by omega) (by omega) h3 hs (by omega) h4
              · exact write_ok0_4 hr hc hl hb j v j hp rfl (by omega) (by omega) (by omega) h3 hs (by omega) h4
            · rcases hm with rfl | rfl | rfl
              · exact write_ok1_1 hr hc hl hb j v j hp rfl (by omega) (by omega) (by omega) h3 hs h4
              · exact write_ok1_2 hr hc hl hb j v j hp rfl (by omega) (by omega) (by omega) h3 hs h4
              · exact write_ok1_4 hr hc hl hb j v j hp rfl (by omega) (by omega) (by omega) h3 hs h4
          · rw [if_neg (fun h => h4 h.2.2.2.2.2)]
            rcases hm with rfl | rfl | rfl
            · exact write_s_1 hr hc hl hb j v hp (by omega) (by omega) (by omega) h3 hs (by omega) (by omega)
            · exact write_s_2 hr hc hl hb j v hp (by omega) (by omega) (by omega) h3 hs (by omega) (by omega)
            · exact write_s_4 hr hc hl hb j v hp (by omega) (by omega) (by omega) h3 hs (by omega) (by omega)
        · rw [if_neg (fun h => h3 h.2.2.2.2.1)]
          rcases hm with rfl | rfl | rfl
          · exact write_a1_1 hr hc hl hb i v hp (by omega) (by omega) (by omega) (by omega)
          · exact write_a1_2 hr hc hl hb i v hp (by omega) (by omega) (by omega) (by omega)
          · exact write_a1_4 hr hc hl hb i v hp (by omega) (by omega) (by omega) (by omega)
      · rw [if_neg (fun h => h1 h.2.2.1)]
        rcases hm with rfl | rfl | rfl
        · exact write_v1_1 hr hc hl hb i v hp (by omega)
        · exact write_v1_2 hr hc hl hb i v hp (by omega)
        · exact write_v1_4 hr hc hl hb i v hp (by omega)
    · rw [if_neg (fun h => hm h.1)]
      exact write_n hr hc hl hb i m v hp hm
  · dsimp only
    rw [if_pos hx]
    exact write_err hr hc hl hb i m v hp hx
end Go.Proofs.Ytbjhmifhmojaoaa.WB

namespace Go.Proofs.Ytbjhmifhmojaoaa.WB
set_option linter.unusedVariables false
set_option linter.unusedSimpArgs false
open Go.RowKit Go.Proofs.Ytbjhmifhmojaoaa.Hp Go.Proofs.Ytbjhmifhmojaoaa.SB Go.Proofs.YtbjhmifhmojaoaaW.PrintWords Go.Proofs.YtbjhmifhmojaoaaW.PrintLast Go.Proofs.YtbjhmifhmojaoaaW.PrintMore

/-- A row g of one's own, as long as what was. -/
structure Cop (w0 w : World) (g : Nat) (A : Option Addr) (c cc : Nat) (was L : List Int) : Prop where
  row : RB w0.heap.size w (.slice (some ⟨g, 0, none⟩) was.length cc) L
  rd : Kd.C (Kd.int .u8) w0 A was.length was
  le : was.length ≤ c
  len : L.length = was.length
  hg : w0.heap.size ≤ g
  below : Below w0.heap.size w0 w
theorem Cop.drewN {w0 w : World} {g : Nat} {A : Option Addr} {c cc : Nat} {was L : List Int} (h : Cop w0 w g A c cc was L) (n : Nat) : Cop w0 (w.drewN n) g A c cc was L :=
  ⟨Kd.R_drewN h.row n, h.rd, h.le, h.len, h.hg, bd h.below n⟩
theorem Cop.set {w0 w : World} {g : Nat} {A : Option Addr} {c cc : Nat} {was L : List Int} (h : Cop w0 w g A c cc was L) (i : Nat) (x : Int) : Cop w0 (w.setCell ⟨g, i, none⟩ (.int .u8 x)) g A c cc was (L.set i x) :=
  ⟨rb_set h.row i x, h.rd, h.le, by rw [List.length_set]; exact h.len, h.hg, h.below.setCell (p := ⟨g, i, none⟩) h.hg _⟩
theorem Cop.read {w0 w : World} {g : Nat} {A : Option Addr} {c cc : Nat} {was L : List Int} (h : Cop w0 w g A c cc was L) : Kd.C (Kd.int .u8) w (some ⟨g, 0, none⟩) was.length L ∧ was.length ≤ cc := by
  have e := Kd.R_reads' h.row
  exact ⟨by have := e.2.2; rw [← e.1] at this; exact this, e.2.1⟩
theorem Cop.put {w0 w : World} {g : Nat} {A : Option Addr} {c cc : Nat} {was L : List Int} (h : Cop w0 w g A c cc was L) (hl : was.length ≤ 10000) (i m : Nat) (x : Int) {iz mz : Int} (h1 : iz = i) (h2 : mz = m) (hm : m ≤ 4) (hi : i + m ≤ was.length) :
    Calls Try.prog 41 #[.slice (some ⟨g, 0, none⟩) was.length cc, .int .i64 iz, .int .i64 mz, .int .i64 x] w fun e w' => e = .returned (.tuple #[]) ∧ Cop w0 w' g A c cc was (putL L i m x) := by
  refine (rput_calls i m x h.below h.row (by rw [h.len]; omega) h1 h2 hm (by rw [h.len]; exact hi)).mono ?_
  rintro e w' ⟨rfl, hr, hb, hg⟩
  exact ⟨rfl, hr, h.rd, h.le, by rw [putL_len]; exact h.len, h.hg, hb⟩
theorem Cop.of {w0 w : World} {v : Value} {A : Option Addr} {c : Nat} {was : List Int} (hr : Kd.C (Kd.int .u8) w0 A was.length was) (hc : was.length ≤ c) (h : RB w0.heap.size w v was) (hb : Below w0.heap.size w0 w) (h0 : 0 < was.length) :
    ∃ g cc, v = .slice (some ⟨g, 0, none⟩) was.length cc ∧ Cop w0 w g A c cc was was := by
  obtain ⟨g, cc, rfl, hg⟩ := rb_form h h0
  exact ⟨g, cc, rfl, h, hr, hc, rfl, hg, hb⟩
/-- A sum at a place, turned by one pair. -/
def stepL (was L : List Int) (s i : Nat) : List Int := putL L s 2 (turn (pr L s) (pr was i) (pr L i))
theorem stepL_bytes {was L : List Int} (h : Bytes L) (s i : Nat) : Bytes (stepL was L s i) := putL_bytes _ _ _ h
theorem nump_calls {A : Option Addr} {c n : Nat} {l : List Int} {w : World} (i : Nat) {iz mz : Int} (hr : Kd.C (Kd.int .u8) w A n l) (hn : l.length = n) (hc : n ≤ c) (hb : Bytes l) (hl : l.length ≤ 10000) (h1 : iz = i) (h2 : mz = 2) (hi : i + 2 ≤ l.length) :
    Calls Try.prog 32 #[.slice A n c, .int .i64 iz, .int .i64 mz] w fun e w' => e = .returned (.int .i64 (pr l i)) ∧ Drawn0 w w' := by
  have := num_calls i 2 hr hn hc hb (by omega) h1 h2 (by omega) hi
  rw [num2_pr] at this
  exact this
/-- Is it a gram without a sum? -/
def bareB (l : List Int) : Bool := l.getD 0 0 == 2 && pr l 22 == 0
theorem bare_f {l : List Int} {k : Nat} (hb : Bytes l) (h24 : 24 ≤ l.length) (hl : l.length ≤ 10000) (hk : 5 ≤ k) : roundhouseref3_bare.f k l = some (bareB l) := by
  unfold roundhouseref3_bare.f bareB
  have e : rd l 0 = l.getD 0 0 := rd_nat l 0
  have g : roundhouseref3_Num.f k l 22 2 = some (numL l 22 2) := num_f hb 22 2 (by omega) (by omega) (by omega) hk
  rw [if_pos (by omega), e, g, Option.bind_some, num2_pr]
  by_cases h : l.getD 0 0 = 2
  · rw [if_pos h, beq_iff_eq.mpr h]; simp
  · rw [if_neg h, beq_eq_false_iff_ne.mpr h]; simp
theorem bare_calls {A : Option Addr} {c n : Nat} {l : List Int} {w : World} (hr : Kd.C (Kd.int .u8) w A n l) (hn : l.length = n) (hc : n ≤ c) (hb : Bytes l) (h24 : 24 ≤ l.length) (hl : l.length ≤ 10000) :
    Calls Try.prog 52 #[.slice A n c] w fun e w' => e = .returned (.bool (bareB l)) ∧ Drawn0 w w' := by
  subst hn
  exact roundhouseref3_bare.calls 5 A c l _ w hr hc (bare_f hb h24 hl (Nat.le_refl _))
theorem rturn_calls {s a b : Int} (hs : 0 ≤ s ∧ s ≤ 65535) (ha : 0 ≤ a ∧ a ≤ 65535) (hb : 0 ≤ b ∧ b ≤ 65535) (w : World) :
    Calls Try.prog 53 #[.int .i64 s, .int .i64 a, .int .i64 b] w fun e w' => e = .returned (.int .i64 (turn s a b)) ∧ Drawn0 w w' := by
  refine roundhouseref1_Turn.calls s a b _ w ?_
  unfold roundhouseref1_Turn.f
  have h1 := plus_bounds (a := 65535 - s) (b := 65535 - a) (by omega) (by omega) (by omega) (by omega)
  have h2 := plus_bounds (a := plus (65535 - s) (65535 - a)) (b := b) h1.1 h1.2 hb.1 hb.2
  rw [wid (n := 65535 - s) (by omega) (by omega), wid (n := 65535 - a) (by omega) (by omega), rplus_f (by omega) (by omega) (by omega) (by omega), Option.bind_some, rplus_f h1.1 h1.2 hb.1 hb.2, Option.bind_some, wid (by omega) (by omega)]
  congr 1
  unfold turn plus
  repeat' split
  all_goals omega
theorem rout_calls (n m : Int) (w : World) : Calls Try.prog 40 #[.int .i64 n, .int .i64 m] w fun e w' => e = .returned (.bool (!rgB n m)) ∧ Drawn0 w w' := by
  refine roundhouseref3_out.calls n m _ w ?_
  unfold roundhouseref3_out.f rgB
  by_cases h : n < 0
  · rw [if_pos h, decide_eq_false (show ¬ 0 ≤ n by omega)]; rfl
  · rw [if_neg h, decide_eq_true (show 0 ≤ n by omega)]
    congr 1
    rw [Bool.true_and, ← decide_not]
    exact decide_eq_decide.2 (by omega)
/-- What end lays. -/
theorem end_f {l : List Int} {k : Nat} (was : Bool) (hb : Bytes l) (h24 : 24 ≤ l.length) (hl : l.length ≤ 10000) (hk : 5 ≤ k) : roundhouseref3_end.f k l was = some (doneL was l) := by
  unfold roundhouseref3_end.f doneL
  have e : rd l 0 = l.getD 0 0 := rd_nat l 0
  have g : roundhouseref3_Num.f k l 22 2 = some (numL l 22 2) := num_f hb 22 2 (by omega) (by omega) (by omega) hk
  have g2 : roundhouseref3_put.f k l 22 2 65535 = some (putL l 22 2 65535) := rput_f 22 2 65535 (by omega) (by omega) (by omega) hk
  rw [if_pos (by omega), e, g, g2, Option.bind_some, Option.bind_some]
  by_cases h : l.getD 0 0 = 2
  · rw [if_pos h]
    cases was with
    | true => rw [if_pos rfl, if_neg (by simp)]
    | false =>
      rw [if_neg (by simp)]
      by_cases hz : numL l 22 2 = 0
      · rw [if_pos hz, if_pos ⟨h, rfl, hz⟩]
      · rw [if_neg hz, if_neg (fun x => hz x.2.2)]
  · rw [if_neg h, if_neg (fun x => h x.1)]
theorem doneL_len (b : Bool) (l : List Int) : (doneL b l).length = l.length := by
  unfold doneL; split
  · exact putL_len ..
  · rfl
theorem doneL_bytes {b : Bool} {l : List Int} (h : Bytes l) : Bytes (doneL b l) := by
  unfold doneL; split
  · exact putL_bytes _ _ _ h
  · exact h
theorem end_calls {w0 w : World} {g : Nat} {A : Option Addr} {c cc : Nat} {was L : List Int} (h : Cop w0 w g A c cc was L) (bare : Bool) (hb : Bytes L) (h24 : 24 ≤ was.length) (hl : was.length ≤ 10000) :
    Calls Try.prog 55 #[.slice (some ⟨g, 0, none⟩) was.length cc, .bool bare] w fun e w' => e = .returned (.tuple #[]) ∧ Cop w0 w' g A c cc was (doneL bare L) := by
  refine (roundhouseref3_end.calls 5 (fun k => some k = (Value.slice (some ⟨g, 0, none⟩) was.length cc).ownBlock) _ L bare _ w0 w h.below (Kd.R_tight rfl h.row) (end_f bare hb (by rw [h.len]; exact h24) (by rw [h.len]; exact hl) (Nat.le_refl _))).mono ?_
  rintro e w' ⟨rfl, hr, hb, hk⟩
  exact ⟨rfl, Kd.R_mono hr (fun _ _ => trivial), h.rd, h.le, by rw [doneL_len]; exact h.len, h.hg, hb⟩
end Go.Proofs.Ytbjhmifhmojaoaa.WB

namespace Go.Proofs.Ytbjhmifhmojaoaa.WB
set_option linter.unusedVariables false
set_option linter.unusedSimpArgs false
open Go.RowKit Go.Proofs.Ytbjhmifhmojaoaa.Hp Go.Proofs.Ytbjhmifhmojaoaa.SB Go.Proofs.YtbjhmifhmojaoaaW.PrintWords Go.Proofs.YtbjhmifhmojaoaaW.PrintLast Go.Proofs.YtbjhmifhmojaoaaW.PrintMore

set_option maxHeartbeats 1000000 in
set_option maxRecDepth 100000 in
theorem rage_err {A : Option Addr} {c : Nat} {l : List Int} {w : World} (hr : Kd.C (Kd.int .u8) w A l.length l) (hc : l.length ≤ c) (hl : l.length ≤ 10000) (hb : Bytes l) {p0 p1 p2 p3 p4 p5 p6 p7 p8 : Int} {p9 : Bool} {p10 : Int} {p11 p12 : List Int} {x : Int} (hp : parseL l = (⟨p0, p1, p2, p3, p4, p5, p6, p7, p8, p9, p10, p11, p12⟩, x)) (hx : x ≠ 0) :
    Calls Try.prog 31 #[.slice A l.length c] w (Told w [] x) := by
  have q0 : (x == 0) = false := beq_eq_false_iff_ne.mpr hx
  have q0n : (x != 0) = true := bne_iff_ne.mpr hx
  have HR := Aside0.mk hr
  have HC := Aside0.mk hc
  have HL := Aside0.mk hl
  have HY := Aside0.mk hb
  have HP := Aside0.mk hp
  have G := Aside0.mk (rparse_calls hr rfl hc (by omega) hb)
  clear hx
  clear hr hc hl hb hp
  go_enter Try.func31, Try.ntmps31
  go_wp2_with (first | (go_at_call 24; (with_reducible refine G.out.mono ?_); intro e w1 hq; obtain ⟨A1, c1, A2, c2, rfl, h1, h2, h3, hb1⟩ := got_of HP.out hq; have HB1 := Aside0.mk hb1; clear hq h1 h2 h3 hb1))
  go_ret2
  exact told_nil (HB1.out.alloc HB1.out.size _)
set_option maxHeartbeats 1000000 in
set_option maxRecDepth 100000 in
theorem rage_ok {A : Option Addr} {c : Nat} {l : List Int} {w : World} (hr : Kd.C (Kd.int .u8) w A l.length l) (hc : l.length ≤ c) (hl : l.length ≤ 10000) (hb : Bytes l) {p0 p1 p2 p3 p4 p5 p6 p7 p8 : Int} {p9 : Bool} {p10 : Int} {p11 p12 : List Int} (hp : parseL l = (⟨p0, p1, p2, p3, p4, p5, p6, p7, p8, p9, p10, p11, p12⟩, 0)) :
    Calls Try.prog 31 #[.slice A l.length c] w (Told w (if p1 < 2 then [] else putL (l.set 1 ((l.getD 1 0 - 1) % 256)) 14 2 (turn (pr l 14) (pr l 0) (pr (l.set 1 ((l.getD 1 0 - 1) % 256)) 0))) (if p1 < 2 then 7 else 0)) := by
  have H24 := Aside0.mk (show 24 ≤ l.length from (head0 (parse0 hp)).1)
  have HR := Aside0.mk hr
  have HC := Aside0.mk hc
  have HL := Aside0.mk hl
  have HY := Aside0.mk hb
  have HP := Aside0.mk hp
  have G := Aside0.mk (rparse_calls hr rfl hc (by omega) hb)
  by_cases h2 : p1 < 2
  · rw [if_pos h2, if_pos h2]
    have d2 : decide (p1 < 2) = true := decide_eq_true h2
    clear hr hc hl hb hp h2
    go_enter Try.func31, Try.ntmps31
    go_wp2_with (first | (go_at_call 24; (with_reducible refine G.out.mono ?_); intro e w1 hq; obtain ⟨A1, c1, A2, c2, rfl, h1, h2, h3, hb1⟩ := got_of HP.out hq; have HB1 := Aside0.mk hb1; clear hq h1 h2 h3 hb1))
    go_ret2
    exact told_nil (HB1.out.alloc HB1.out.size _)
  · rw [if_neg h2, if_neg h2]
    have d2 : decide (p1 < 2) = false := decide_eq_false h2
    clear hr hc hl hb hp h2
    go_enter Try.func31, Try.ntmps31
    go_upto_region 6 with (first | (go_at_call 24; (with_reducible refine G.out.mono ?_); intro e w1 hq; obtain ⟨A1, c1, A2, c2, rfl, h1, h2, h3, hb1⟩ := got_of HP.out hq; have HB1 := Aside0.mk hb1; clear hq h1 h2 h3 hb1))
    change Code.wp _ _ _ _ (w1.alloc (.cells #[.int .i64 p0, .int .i64 p1, .int .i64 p2, .int .i64 p3, .int .i64 p4, .int .i64 p5, .int .i64 p6, .int .i64 p7, .int .i64 p8, .bool p9, .int .i64 p10, .slice A1 p11.length c1, .slice A2 p12.length c2] 26))
    have HB2 := Aside0.mk (HB1.out.alloc HB1.out.size (.cells #[.int .i64 p0, .int .i64 p1, .int .i64 p2, .int .i64 p3, .int .i64 p4, .int .i64 p5, .int .i64 p6, .int .i64 p7, .int .i64 p8, .bool p9, .int .i64 p10, .slice A1 p11.length c1, .slice A2 p12.length c2] 26))
    generalize w1.alloc (.cells #[.int .i64 p0, .int .i64 p1, .int .i64 p2, .int .i64 p3, .int .i64 p4, .int .i64 p5, .int .i64 p6, .int .i64 p7, .int .i64 p8, .bool p9, .int .i64 p10, .slice A1 p11.length c1, .slice A2 p12.length c2] 26) = w2 at HB2 ⊢
    go_upto_region 7 with (first | ((with_reducible refine gate_dst (N := 18) rfl ?_); refine Kd.R_lit (Kd.int .u8) (w0 := w) w.heap.size 5 ?hg (N := 18) ?hd (xs := ([] : List Int)) (inner := []) (ok := fun _ => True) (okp := fun _ => True) ?hr ?hp (fun _ hk => hk) trivial HB2.out HB2.out.size (by simp) ?_; (case hd => rfl); (case hg => rfl); (case hr => first | (go_simp; done) | (go_simp; rfl)); (case hp => exact (Reps.none _ _)); intro v3 w3 ho hb hg hat; have HO3 := Aside0.mk ho; have HB3 := Aside0.mk hb; clear ho hb hg hat) | ((with_reducible refine gate_builtin (b := .append) (xs := #[.tmp 18, .tmp 19]) rfl ?_); at_builtin; refine Kd.R_append_rows (Kd.int .u8) (w0 := w) w.heap.size rfl (.tmp 18) (.tmp 19) 23 5 (.int .u8 0) 1 rfl Try.underlying23 info5 rfl (by decide) (by omega) v3 [] l A l.length c (fun _ => True) (fun _ => False) rfl rfl HO3.out (Kd.C_below HR.out HB3.out) (fun _ _ h => h) (fun _ h => h.elim) (fun _ _ => trivial) HB3.out HB3.out.size (by have := HL.out; simp only [List.length_nil]; omega) ?_; intro v4 w4 ho hb hg hat; obtain ⟨g, cc, ev, HCP⟩ := Cop.of HR.out HC.out ho hb (by have := H24.out; omega); subst ev; have HCP := Aside0.mk HCP; clear ho hb hg hat))
    have r1 := rb_cell HCP.out.row 1 (by have := H24.out; omega)
    have s1 := rb_frozen HCP.out.row 1
    have i1 : (1 : Int) < (l.length : Int) := by have := H24.out; omega
    have i1n : 1 < l.length := by have := H24.out; omega
    obtain ⟨x, hx⟩ : ∃ x, l.getD 1 0 = x := ⟨_, rfl⟩
    rw [hx] at r1
    have HX := Aside0.mk hx
    clear hx
    go_upto_region 8 with fail
    generalize hW : World.setCell _ _ _ = w5
    obtain ⟨L, hL⟩ : ∃ L, L = l.set 1 ((x - 1) % 256) := ⟨_, rfl⟩
    have HT := Aside0.mk (show Cop w w5 g A c cc l L from by rw [← hW, hL]; exact HCP.out.set 1 ((x - 1) % 256))
    have HBL := Aside0.mk (show Bytes L from by rw [hL]; exact HY.out.set _ (by omega) (by omega))
    have HLL := Aside0.mk hL
    clear hW hL r1 s1 HCP
    have RL := Aside0.mk (Kd.C_below HR.out HT.out.below)
    have N1 := Aside0.mk (fun W (h : Kd.C (Kd.int .u8) W A l.length l) => nump_calls (iz := 14) (mz := 2) 14 h rfl HC.out HY.out HL.out rfl rfl (by have := H24.out; omega))
    have N2 := Aside0.mk (fun W (h : Kd.C (Kd.int .u8) W A l.length l) => nump_calls (iz := 0) (mz := 2) 0 h rfl HC.out HY.out HL.out rfl rfl (by have := H24.out; omega))
    have RX := Aside0.mk HT.out.read.1
    have N3 := Aside0.mk (fun W (h : Kd.C (Kd.int .u8) W (some ⟨g, 0, none⟩) l.length L) => nump_calls (iz := 0) (mz := 2) 0 h HT.out.len HT.out.read.2 HBL.out (by rw [HT.out.len]; exact HL.out) rfl rfl (by have := H24.out; rw [HT.out.len]; omega))
    have T := Aside0.mk (fun W => rturn_calls (pr_b HY.out 14) (pr_b HY.out 0) (pr_b HBL.out 0) W)
    have PT := Aside0.mk (fun W (h : Cop w W g A c cc l L) => h.put HL.out 14 2 (turn (pr l 14) (pr l 0) (pr L 0)) (iz := 14) (mz := 2) rfl rfl (by omega) (by have := H24.out; omega))
    go_wp2_with (first
      | (go_at_call 32; (with_reducible refine (N1.out _ ?hb).mono ?_); (case hb => (repeat (first | with_reducible exact RL.out | (with_reducible refine Kd.C_drewN ?_ _) | (with_reducible refine Kd.C_drew ?_)))); rintro e w6 ⟨rfl, ⟨⟨nq, rfl⟩⟩⟩)
      | (go_at_call 32; (with_reducible refine (N2.out _ ?hb).mono ?_); (case hb => (repeat (first | with_reducible exact RL.out | (with_reducible refine Kd.C_drewN ?_ _) | (with_reducible refine Kd.C_drew ?_)))); rintro e w6 ⟨rfl, ⟨⟨nq, rfl⟩⟩⟩)
      | (go_at_call 32; (with_reducible refine (N3.out _ ?hb).mono ?_); (case hb => (repeat (first | with_reducible exact RX.out | (with_reducible refine Kd.C_drewN ?_ _) | (with_reducible refine Kd.C_drew ?_)))); rintro e w6 ⟨rfl, ⟨⟨nq, rfl⟩⟩⟩)
      | (go_at_call 53; (with_reducible refine (T.out _).mono ?_); rintro e w6 ⟨rfl, ⟨⟨nq, rfl⟩⟩⟩)
      | (go_at_call 41; (with_reducible refine (PT.out _ ?hb).mono ?_); (case hb => (repeat (first | with_reducible exact HT.out | with_reducible apply Cop.drewN))); rintro e w6 ⟨rfl, ht⟩; have HT6 := Aside0.mk ht; clear ht))
    go_ret2
    rw [HX.out, ← HLL.out]
    exact ⟨_, rfl, HT6.out.row, HT6.out.below⟩
end Go.Proofs.Ytbjhmifhmojaoaa.WB

namespace Go.Proofs.Ytbjhmifhmojaoaa.WB
set_option linter.unusedVariables false
set_option linter.unusedSimpArgs false
open Go.RowKit Go.Proofs.Ytbjhmifhmojaoaa.Hp Go.Proofs.Ytbjhmifhmojaoaa.SB Go.Proofs.YtbjhmifhmojaoaaW.PrintWords Go.Proofs.YtbjhmifhmojaoaaW.PrintLast Go.Proofs.YtbjhmifhmojaoaaW.PrintMore

theorem rout_calls' {n m : Int} {b : Bool} (h : rgB n m = !b) (W : World) : Calls Try.prog 40 #[.int .i64 n, .int .i64 m] W fun e w' => e = .returned (.bool b) ∧ Drawn0 W w' := by
  have := rout_calls n m W
  rw [h, Bool.not_not] at this
  exact this
theorem bare_calls' {A : Option Addr} {c n : Nat} {l : List Int} {w : World} {b : Bool} (h : bareB l = b) (hr : Kd.C (Kd.int .u8) w A n l) (hn : l.length = n) (hc : n ≤ c) (hb : Bytes l) (h24 : 24 ≤ l.length) (hl : l.length ≤ 10000) :
    Calls Try.prog 52 #[.slice A n c] w fun e w' => e = .returned (.bool b) ∧ Drawn0 w w' := by
  have := bare_calls hr hn hc hb h24 hl
  rw [h] at this
  exact this
/-- The rounds of Nat's loop. -/
def natIter (was : List Int) (bare : Bool) : Nat → Nat → List Int → List Int
  | 0, _, L => L
  | k + 1, i, L => natIter was bare k (i + 2) (if bare = true then stepL was L 14 i else stepL was (stepL was L 14 i) 22 i)
/-- What the reference's Nat lays. -/
def rnatL (l : List Int) (bare : Bool) (a p : Nat) (addr port : Int) : List Int :=
  doneL bare (if bare = true then natIter l bare 2 a (putL (putL l a 4 addr) p 2 port) else stepL l (natIter l bare 2 a (putL (putL l a 4 addr) p 2 port)) 22 p)
set_option maxHeartbeats 1000000 in
set_option maxRecDepth 100000 in
theorem rnat_err {A : Option Addr} {c : Nat} {l : List Int} {w : World} (hr : Kd.C (Kd.int .u8) w A l.length l) (hc : l.length ≤ c) (hl : l.length ≤ 10000) (hb : Bytes l) {p0 p1 p2 p3 p4 p5 p6 p7 p8 : Int} {p9 : Bool} {p10 : Int} {p11 p12 : List Int} (source : Bool) (addr port : Int) {x : Int} (hp : parseL l = (⟨p0, p1, p2, p3, p4, p5, p6, p7, p8, p9, p10, p11, p12⟩, x)) (hx : x ≠ 0) :
    Calls Try.prog 29 #[.slice A l.length c, .bool source, .int .i64 addr, .int .i64 port] w (Told w [] x) := by
  have q0 : (x == 0) = false := beq_eq_false_iff_ne.mpr hx
  have q0n : (x != 0) = true := bne_iff_ne.mpr hx
  have HR := Aside0.mk hr
  have HC := Aside0.mk hc
  have HL := Aside0.mk hl
  have HY := Aside0.mk hb
  have HP := Aside0.mk hp
  have G := Aside0.mk (rparse_calls hr rfl hc (by omega) hb)
  clear hx
  clear hr hc hl hb hp
  go_enter Try.func29, Try.ntmps29
  go_wp2_with (first | (go_at_call 24; (with_reducible refine G.out.mono ?_); intro e w1 hq; obtain ⟨A1, c1, A2, c2, rfl, h1, h2, h3, hb1⟩ := got_of HP.out hq; have HB1 := Aside0.mk hb1; clear hq h1 h2 h3 hb1))
  go_ret2
  exact told_nil (HB1.out.alloc HB1.out.size _)
set_option maxHeartbeats 1000000 in
set_option maxRecDepth 100000 in
theorem rnat_fault {A : Option Addr} {c : Nat} {l : List Int} {w : World} (hr : Kd.C (Kd.int .u8) w A l.length l) (hc : l.length ≤ c) (hl : l.length ≤ 10000) (hb : Bytes l) {p0 p1 p2 p3 p4 p5 p6 p7 p8 : Int} {p9 : Bool} {p10 : Int} {p11 p12 : List Int} (source : Bool) (addr port : Int) (hp : parseL l = (⟨p0, p1, p2, p3, p4, p5, p6, p7, p8, p9, p10, p11, p12⟩, 0)) (hk : p0 = 3) :
    Calls Try.prog 29 #[.slice A l.length c, .bool source, .int .i64 addr, .int .i64 port] w (Told w [] 2) := by
  have HR := Aside0.mk hr
  have HC := Aside0.mk hc
  have HL := Aside0.mk hl
  have HY := Aside0.mk hb
  have HP := Aside0.mk hp
  have G := Aside0.mk (rparse_calls hr rfl hc (by omega) hb)
  have q3 : (p0 == 3) = true := beq_iff_eq.mpr hk
  clear hk
  clear hr hc hl hb hp
  go_enter Try.func29, Try.ntmps29
  go_wp2_with (first | (go_at_call 24; (with_reducible refine G.out.mono ?_); intro e w1 hq; obtain ⟨A1, c1, A2, c2, rfl, h1, h2, h3, hb1⟩ := got_of HP.out hq; have HB1 := Aside0.mk hb1; clear hq h1 h2 h3 hb1))
  go_ret2
  exact told_nil (HB1.out.alloc HB1.out.size _)
set_option maxHeartbeats 1000000 in
set_option maxRecDepth 100000 in
theorem rnat_range1 {A : Option Addr} {c : Nat} {l : List Int} {w : World} (hr : Kd.C (Kd.int .u8) w A l.length l) (hc : l.length ≤ c) (hl : l.length ≤ 10000) (hb : Bytes l) {p0 p1 p2 p3 p4 p5 p6 p7 p8 : Int} {p9 : Bool} {p10 : Int} {p11 p12 : List Int} (source : Bool) (addr port : Int) (hp : parseL l = (⟨p0, p1, p2, p3, p4, p5, p6, p7, p8, p9, p10, p11, p12⟩, 0)) (hk : ¬ p0 = 3) (h : rgB addr 4294967295 = false) :
    Calls Try.prog 29 #[.slice A l.length c, .bool source, .int .i64 addr, .int .i64 port] w (Told w [] 14) := by
  have HR := Aside0.mk hr
  have HC := Aside0.mk hc
  have HL := Aside0.mk hl
  have HY := Aside0.mk hb
  have HP := Aside0.mk hp
  have G := Aside0.mk (rparse_calls hr rfl hc (by omega) hb)
  have q3 : (p0 == 3) = false := beq_eq_false_iff_ne.mpr hk
  have W1 := Aside0.mk (fun W => rout_calls' (b := true) (n := addr) (m := 4294967295) h W)
  clear hk h
  clear hr hc hl hb hp
  go_enter Try.func29, Try.ntmps29
  go_wp2_with (first | (go_at_call 24; (with_reducible refine G.out.mono ?_); intro e w1 hq; obtain ⟨A1, c1, A2, c2, rfl, h1, h2, h3, hb1⟩ := got_of HP.out hq; have HB1 := Aside0.mk hb1; clear hq h1 h2 h3 hb1) | (go_at_call 40; (with_reducible refine (W1.out _).mono ?_); rintro e w2 ⟨rfl, ⟨⟨nd, rfl⟩⟩⟩))
  go_ret2
  exact told_nil (bd (HB1.out.alloc HB1.out.size _) _)
set_option maxHeartbeats 1000000 in
set_option maxRecDepth 100000 in
theorem rnat_range2 {A : Option Addr} {c : Nat} {l : List Int} {w : World} (hr : Kd.C (Kd.int .u8) w A l.length l) (hc : l.length ≤ c) (hl : l.length ≤ 10000) (hb : Bytes l) {p0 p1 p2 p3 p4 p5 p6 p7 p8 : Int} {p9 : Bool} {p10 : Int} {p11 p12 : List Int} (source : Bool) (addr port : Int) (hp : parseL l = (⟨p0, p1, p2, p3, p4, p5, p6, p7, p8, p9, p10, p11, p12⟩, 0)) (hk : ¬ p0 = 3) (h : rgB addr 4294967295 = true) (h' : rgB port 65535 = false) :
    Calls Try.prog 29 #[.slice A l.length c, .bool source, .int .i64 addr, .int .i64 port] w (Told w [] 14) := by
  have HR := Aside0.mk hr
  have HC := Aside0.mk hc
  have HL := Aside0.mk hl
  have HY := Aside0.mk hb
  have HP := Aside0.mk hp
  have G := Aside0.mk (rparse_calls hr rfl hc (by omega) hb)
  have q3 : (p0 == 3) = false := beq_eq_false_iff_ne.mpr hk
  have W1 := Aside0.mk (fun W => rout_calls' (b := false) (n := addr) (m := 4294967295) h W)
  have W2 := Aside0.mk (fun W => rout_calls' (b := true) (n := port) (m := 65535) h' W)
  clear hk h h'
  clear hr hc hl hb hp
  go_enter Try.func29, Try.ntmps29
  go_wp2_with (first | (go_at_call 24; (with_reducible refine G.out.mono ?_); intro e w1 hq; obtain ⟨A1, c1, A2, c2, rfl, h1, h2, h3, hb1⟩ := got_of HP.out hq; have HB1 := Aside0.mk hb1; clear hq h1 h2 h3 hb1) | (go_at_call 40; (with_reducible refine (W1.out _).mono ?_); rintro e w2 ⟨rfl, ⟨⟨nd, rfl⟩⟩⟩) | (go_at_call 40; (with_reducible refine (W2.out _).mono ?_); rintro e w2 ⟨rfl, ⟨⟨nd, rfl⟩⟩⟩))
  go_ret2
  exact told_nil (bd (HB1.out.alloc HB1.out.size _) _)
set_option maxHeartbeats 1000000 in
set_option maxRecDepth 100000 in
theorem rnat_ok_true_true {A : Option Addr} {c : Nat} {l : List Int} {w : World} (hr : Kd.C (Kd.int .u8) w A l.length l) (hc : l.length ≤ c) (hl : l.length ≤ 10000) (hb : Bytes l) {p0 p1 p2 p3 p4 p5 p6 p7 p8 : Int} {p9 : Bool} {p10 : Int} {p11 p12 : List Int} (addr port : Int) (hp : parseL l = (⟨p0, p1, p2, p3, p4, p5, p6, p7, p8, p9, p10, p11, p12⟩, 0)) (hk : ¬ p0 = 3) (h : rgB addr 4294967295 = true) (h' : rgB port 65535 = true) (hbare : bareB l = true) :
    Calls Try.prog 29 #[.slice A l.length c, .bool true, .int .i64 addr, .int .i64 port] w (Told w (rnatL l true 4 16 addr port) 0) := by
  have H24 := Aside0.mk (show 24 ≤ l.length from (head0 (parse0 hp)).1)
  have HR := Aside0.mk hr
  have HC := Aside0.mk hc
  have HL := Aside0.mk hl
  have HY := Aside0.mk hb
  have HP := Aside0.mk hp
  have G := Aside0.mk (rparse_calls hr rfl hc (by omega) hb)
  have q3 : (p0 == 3) = false := beq_eq_false_iff_ne.mpr hk
  have W1 := Aside0.mk (fun W => rout_calls' (b := false) (n := addr) (m := 4294967295) h W)
  have W2 := Aside0.mk (fun W => rout_calls' (b := false) (n := port) (m := 65535) h' W)
  have GB := Aside0.mk (fun W (hrw : Kd.C (Kd.int .u8) W A l.length l) => bare_calls' hbare hrw rfl HC.out HY.out H24.out HL.out)
  obtain ⟨R, hR⟩ : ∃ R, natIter l true 2 4 (putL (putL l 4 4 addr) 16 2 port) = R := ⟨_, rfl⟩
  have HR0 := Aside0.mk hR
  have HFIN := Aside0.mk (show rnatL l true 4 16 addr port = doneL true R from by unfold rnatL; rw [hR]; rfl)
  clear hr hc hl hb hp hk h h' hbare hR
  go_enter Try.func29, Try.ntmps29
  go_upto_region 8 with (first | (go_at_call 24; (with_reducible refine G.out.mono ?_); intro e w1 hq; obtain ⟨A1, c1, A2, c2, rfl, h1, h2, h3, hb1⟩ := got_of HP.out hq; have HB1 := Aside0.mk hb1; clear hq h1 h2 h3 hb1) | (go_at_call 40; (with_reducible refine (W1.out _).mono ?_); rintro e w2 ⟨rfl, ⟨⟨nd, rfl⟩⟩⟩) | (go_at_call 40; (with_reducible refine (W2.out _).mono ?_); rintro e w2 ⟨rfl, ⟨⟨nd, rfl⟩⟩⟩))
  generalize hW : World.drewN _ _ = w4
  have HB2 : Aside0 (Below w.heap.size w w4) := Aside0.mk (by rw [← hW]; exact bd (HB1.out.alloc HB1.out.size _) _)
  clear hW HB1
  go_upto_region 12 with (first | ((with_reducible refine gate_dst (N := 37) rfl ?_); refine Kd.R_lit (Kd.int .u8) (w0 := w) w.heap.size 5 ?hg (N := 37) ?hd (xs := ([] : List Int)) (inner := []) (ok := fun _ => True) (okp := fun _ => True) ?hr ?hp (fun _ hk => hk) trivial HB2.out HB2.out.size (by simp) ?_; (case hd => rfl); (case hg => rfl); (case hr => first | (go_simp; done) | (go_simp; rfl)); (case hp => exact (Reps.none _ _)); intro v3 w3 ho hb hg hat; have HO3 := Aside0.mk ho; have HB3 := Aside0.mk hb; clear ho hb hg hat) | ((with_reducible refine gate_builtin (b := .append) (xs := #[.tmp 37, .tmp 38]) rfl ?_); at_builtin; refine Kd.R_append_rows (Kd.int .u8) (w0 := w) w.heap.size rfl (.tmp 37) (.tmp 38) 23 5 (.int .u8 0) 1 rfl Try.underlying23 info5 rfl (by decide) (by omega) v3 [] l A l.length c (fun _ => True) (fun _ => False) rfl rfl HO3.out (Kd.C_below HR.out HB3.out) (fun _ _ h => h) (fun _ h => h.elim) (fun _ _ => trivial) HB3.out HB3.out.size (by have := HL.out; simp only [List.length_nil]; omega) ?_; intro v4 w4 ho hb hg hat; obtain ⟨g, cc, ev, HCP⟩ := Cop.of HR.out HC.out ho hb (by have := H24.out; omega); subst ev; have HCP := Aside0.mk HCP; clear ho hb hg hat))
  have P1 := Aside0.mk (HCP.out.put HL.out 4 4 addr (iz := 4) (mz := 4) rfl rfl (by omega) (by have := H24.out; omega))
  go_upto_region 13 with (first | (go_at_call 41; (with_reducible refine P1.out.mono ?_); rintro e w5 ⟨rfl, ht⟩; have HT5 := Aside0.mk ht; clear ht))
  have P2 := Aside0.mk (HT5.out.put HL.out 16 2 port (iz := 16) (mz := 2) rfl rfl (by omega) (by have := H24.out; omega))
  go_upto_region 14 with (first | (go_at_call 41; (with_reducible refine P2.out.mono ?_); rintro e w6 ⟨rfl, ht⟩; have HT6 := Aside0.mk ht; clear ht))
  have B6 := Aside0.mk (putL_bytes 16 2 port (putL_bytes 4 4 addr HY.out))
  have RL6 := Aside0.mk (Kd.C_below HR.out HT6.out.below)
  go_wp2_with (first | (go_at_call 52; (with_reducible refine (GB.out _ RL6.out).mono ?_); rintro e w7 ⟨rfl, ⟨⟨nd7, rfl⟩⟩⟩))
  go_loopg [16] 2 (fun kq v16 w' => ∃ (i : Nat) (L : List Int), v16 = .int .i64 (i : Int) ∧ Aside (i + 2 * kq = 8 ∧ 4 ≤ i) ∧ Aside (natIter l true kq i L = R) ∧ Aside (Bytes L) ∧ Cop w w' g A c cc l L)
  case atStart =>
    exact ⟨4, _, rfl, ⟨by omega, by omega⟩, HR0.out, B6.out, by first | exact HT6.out | exact HT6.out.drewN _⟩
  case round =>
    obtain ⟨i, L, rfl, hi, hr, hb, hc⟩ := hrel
    have HI := Aside0.mk hi.out
    have HRR := Aside0.mk hr.out
    have HBLa := Aside0.mk hb.out
    have HTa := Aside0.mk hc
    clear hi hr hb hc
    by_cases hlt : (i : Int) < 8
    · have hd : decide ((i : Int) < 8) = true := decide_eq_true hlt
      have HGK := Aside0.mk (show 0 < gk from by have := HI.out; omega)
      have hi0 : (i : Int) ≤ 8 + 4 := by omega
      clear hlt
      have RLa := Aside0.mk (Kd.C_below HR.out HTa.out.below)
      have RXa := Aside0.mk HTa.out.read.1
      have N1a := Aside0.mk (fun W (h : Kd.C (Kd.int .u8) W (some ⟨g, 0, none⟩) l.length L) => nump_calls (iz := 14) (mz := 2) 14 h HTa.out.len HTa.out.read.2 HBLa.out (by rw [HTa.out.len]; exact HL.out) rfl rfl (by have := H24.out; rw [HTa.out.len]; omega))
      have N2a := Aside0.mk (fun W (h : Kd.C (Kd.int .u8) W A l.length l) => nump_calls (iz := (i : Int)) (mz := 2) i h rfl HC.out HY.out HL.out rfl rfl (by have := HI.out; have := H24.out; omega))
      have N3a := Aside0.mk (fun W (h : Kd.C (Kd.int .u8) W (some ⟨g, 0, none⟩) l.length L) => nump_calls (iz := (i : Int)) (mz := 2) i h HTa.out.len HTa.out.read.2 HBLa.out (by rw [HTa.out.len]; exact HL.out) rfl rfl (by rw [HTa.out.len]; exact (by have := HI.out; have := H24.out; omega)))
      have TTa := Aside0.mk (fun W => rturn_calls (pr_b HBLa.out 14) (pr_b HY.out i) (pr_b HBLa.out i) W)
      have PTa := Aside0.mk (fun W (h : Cop w W g A c cc l L) => h.put HL.out 14 2 (turn (pr L 14) (pr l i) (pr L i)) (iz := 14) (mz := 2) rfl rfl (by omega) (by have := H24.out; omega))
      go_wp2_with (first
        | (go_at_call 32; (with_reducible refine (N1a.out _ ?hb).mono ?_); (case hb => (repeat (first | with_reducible exact RXa.out | (with_reducible refine Kd.C_drewN ?_ _) | (with_reducible refine Kd.C_drew ?_)))); rintro e w6 ⟨rfl, ⟨⟨nq, rfl⟩⟩⟩)
        | (go_at_call 32; (with_reducible refine (N2a.out _ ?hb).mono ?_); (case hb => (repeat (first | with_reducible exact RLa.out | (with_reducible refine Kd.C_drewN ?_ _) | (with_reducible refine Kd.C_drew ?_)))); rintro e w6 ⟨rfl, ⟨⟨nq, rfl⟩⟩⟩)
        | (go_at_call 32; (with_reducible refine (N3a.out _ ?hb).mono ?_); (case hb => (repeat (first | with_reducible exact RXa.out | (with_reducible refine Kd.C_drewN ?_ _) | (with_reducible refine Kd.C_drew ?_)))); rintro e w6 ⟨rfl, ⟨⟨nq, rfl⟩⟩⟩)
        | (go_at_call 53; (with_reducible refine (TTa.out _).mono ?_); rintro e w6 ⟨rfl, ⟨⟨nq, rfl⟩⟩⟩)
        | (go_at_call 41; (with_reducible refine (PTa.out _ ?hb).mono ?_); (case hb => (repeat (first | with_reducible exact HTa.out | with_reducible apply Cop.drewN))); rintro e w9 ⟨rfl, ht⟩; have HTw9 := Aside0.mk (show Cop w w9 g A c cc l (stepL l L 14 i) from ht); clear ht))
      have HRN := Aside0.mk (show natIter l true (gk - 1) (i + 2) (stepL l L 14 i) = R from by
        have h1 := HRR.out
        obtain ⟨m, hm⟩ : ∃ m, gk = m + 1 := ⟨gk - 1, by have := HGK.out; omega⟩
        rw [hm] at h1 ⊢
        exact h1)
      go_roundg (gk - 1)
      case measure => have := HGK.out; omega
      case rel => exact ⟨i + 2, _, (by first | rfl | go_num), (by show _ ∧ _; have := HI.out; have := HGK.out; omega), HRN.out, stepL_bytes HBLa.out 14 i, HTw9.out⟩
    · have hd : decide ((i : Int) < 8) = false := decide_eq_false hlt
      have hk0 : gk = 0 := by have := HI.out; omega
      have HLR : Aside0 (L = R) := Aside0.mk (by have h1 := HRR.out; rw [hk0] at h1; exact h1)
      clear hlt hk0
      have HTc := HTa
      have HBLc := HBLa
      have HE := Aside0.mk (end_calls HTc.out true HBLc.out H24.out HL.out)
      go_wp2_with (first | (go_at_call 55; (with_reducible refine HE.out.mono ?_); rintro e w11 ⟨rfl, ht⟩; have HF := Aside0.mk ht; clear ht))
      go_ret2
      rw [HFIN.out, ← HLR.out]
      exact ⟨_, rfl, HF.out.row, HF.out.below⟩
set_option maxHeartbeats 1000000 in
set_option maxRecDepth 100000 in
theorem rnat_ok_true_false {A : Option Addr} {c : Nat} {l : List Int} {w : World} (hr : Kd.C (Kd.int .u8) w A l.length l) (hc : l.length ≤ c) (hl : l.length ≤ 10000) (hb : Bytes l) {p0 p1 p2 p3 p4 p5 p6 p7 p8 : Int} {p9 : Bool} {p10 : Int} {p11 p12 : List Int} (addr port : Int) (hp : parseL l = (⟨p0, p1, p2, p3, p4, p5, p6, p7, p8, p9, p10, p11, p12⟩, 0)) (hk : ¬ p0 = 3) (h : rgB addr 4294967295 = true) (h' : rgB port 65535 = true) (hbare : bareB l = false) :
    Calls Try.prog 29 #[.slice A l.length c, .bool true, .int .i64 addr, .int .i64 port] w (Told w (rnatL l false 4 16 addr port) 0) := by
  have H24 := Aside0.mk (show 24 ≤ l.length from (head0 (parse0 hp)).1)
  have HR := Aside0.mk hr
  have HC := Aside0.mk hc
  have HL := Aside0.mk hl
  have HY := Aside0.mk hb
  have HP := Aside0.mk hp
  have G := Aside0.mk (rparse_calls hr rfl hc (by omega) hb)
  have q3 : (p0 == 3) = false := beq_eq_false_iff_ne.mpr hk
  have W1 := Aside0.mk (fun W => rout_calls' (b := false) (n := addr) (m := 4294967295) h W)
  have W2 := Aside0.mk (fun W => rout_calls' (b := false) (n := port) (m := 65535) h' W)
  have GB := Aside0.mk (fun W (hrw : Kd.C (Kd.int .u8) W A l.length l) => bare_calls' hbare hrw rfl HC.out HY.out H24.out HL.out)
  obtain ⟨R, hR⟩ : ∃ R, natIter l false 2 4 (putL (putL l 4 4 addr) 16 2 port) = R := ⟨_, rfl⟩
  have HR0 := Aside0.mk hR
  have HFIN := Aside0.mk (show rnatL l false 4 16 addr port = doneL false (stepL l R 22 16) from by unfold rnatL; rw [hR]; rfl)
  clear hr hc hl hb hp hk h h' hbare hR
  go_enter Try.func29, Try.ntmps29
  go_upto_region 8 with (first | (go_at_call 24; (with_reducible refine G.out.mono ?_); intro e w1 hq; obtain ⟨A1, c1, A2, c2, rfl, h1, h2, h3, hb1⟩ := got_of HP.out hq; have HB1 := Aside0.mk hb1; clear hq h1 h2 h3 hb1) | (go_at_call 40; (with_reducible refine (W1.out _).mono ?_); rintro e w2 ⟨rfl, ⟨⟨nd, rfl⟩⟩⟩) | (go_at_call 40; (with_reducible refine (W2.out _).mono ?_); rintro e w2 ⟨rfl, ⟨⟨nd, rfl⟩⟩⟩))
  generalize hW : World.drewN _ _ = w4
  have HB2 : Aside0 (Below w.heap.size w w4) := Aside0.mk (by rw [← hW]; exact bd (HB1.out.alloc HB1.out.size _) _)
  clear hW HB1
  go_upto_region 12 with (first | ((with_reducible refine gate_dst (N := 37) rfl ?_); refine Kd.R_lit (Kd.int .u8) (w0 := w) w.heap.size 5 ?hg (N := 37) ?hd (xs := ([] : List Int)) (inner := []) (ok := fun _ => True) (okp := fun _ => True) ?hr ?hp (fun _ hk => hk) trivial HB2.out HB2.out.size (by simp) ?_; (case hd => rfl); (case hg => rfl); (case hr => first | (go_simp; done) | (go_simp; rfl)); (case hp => exact (Reps.none _ _)); intro v3 w3 ho hb hg hat; have HO3 := Aside0.mk ho; have HB3 := Aside0.mk hb; clear ho hb hg hat) | ((with_reducible refine gate_builtin (b := .append) (xs := #[.tmp 37, .tmp 38]) rfl ?_); at_builtin; refine Kd.R_append_rows (Kd.int .u8) (w0 := w) w.heap.size rfl (.tmp 37) (.tmp 38) 23 5 (.int .u8 0) 1 rfl Try.underlying23 info5 rfl (by decide) (by omega) v3 [] l A l.length c (fun _ => True) (fun _ => False) rfl rfl HO3.out (Kd.C_below HR.out HB3.out) (fun _ _ h => h) (fun _ h => h.elim) (fun _ _ => trivial) HB3.out HB3.out.size (by have := HL.out; simp only [List.length_nil]; omega) ?_; intro v4 w4 ho hb hg hat; obtain ⟨g, cc, ev, HCP⟩ := Cop.of HR.out HC.out ho hb (by have := H24.out; omega); subst ev; have HCP := Aside0.mk HCP; clear ho hb hg hat))
  have P1 := Aside0.mk (HCP.out.put HL.out 4 4 addr (iz := 4) (mz := 4) rfl rfl (by omega) (by have := H24.out; omega))
  go_upto_region 13 with (first | (go_at_call 41; (with_reducible refine P1.out.mono ?_); rintro e w5 ⟨rfl, ht⟩; have HT5 := Aside0.mk ht; clear ht))
  have P2 := Aside0.mk (HT5.out.put HL.out 16 2 port (iz := 16) (mz := 2) rfl rfl (by omega) (by have := H24.out; omega))
  go_upto_region 14 with (first | (go_at_call 41; (with_reducible refine P2.out.mono ?_); rintro e w6 ⟨rfl, ht⟩; have HT6 := Aside0.mk ht; clear ht))
  have B6 := Aside0.mk (putL_bytes 16 2 port (putL_bytes 4 4 addr HY.out))
  have RL6 := Aside0.mk (Kd.C_below HR.out HT6.out.below)
  go_wp2_with (first | (go_at_call 52; (with_reducible refine (GB.out _ RL6.out).mono ?_); rintro e w7 ⟨rfl, ⟨⟨nd7, rfl⟩⟩⟩))
  go_loopg [16] 2 (fun kq v16 w' => ∃ (i : Nat) (L : List Int), v16 = .int .i64 (i : Int) ∧ Aside (i + 2 * kq = 8 ∧ 4 ≤ i) ∧ Aside (natIter l false kq i L = R) ∧ Aside (Bytes L) ∧ Cop w w' g A c cc l L)
  case atStart =>
    exact ⟨4, _, rfl, ⟨by omega, by omega⟩, HR0.out, B6.out, by first | exact HT6.out | exact HT6.out.drewN _⟩
  case round =>
    obtain ⟨i, L, rfl, hi, hr, hb, hc⟩ := hrel
    have HI := Aside0.mk hi.out
    have HRR := Aside0.mk hr.out
    have HBLa := Aside0.mk hb.out
    have HTa := Aside0.mk hc
    clear hi hr hb hc
    by_cases hlt : (i : Int) < 8
    · have hd : decide ((i : Int) < 8) = true := decide_eq_true hlt
      have HGK := Aside0.mk (show 0 < gk from by have := HI.out; omega)
      have hi0 : (i : Int) ≤ 8 + 4 := by omega
      clear hlt
      have RLa := Aside0.mk (Kd.C_below HR.out HTa.out.below)
      have RXa := Aside0.mk HTa.out.read.1
      have N1a := Aside0.mk (fun W (h : Kd.C (Kd.int .u8) W (some ⟨g, 0, none⟩) l.length L) => nump_calls (iz := 14) (mz := 2) 14 h HTa.out.len HTa.out.read.2 HBLa.out (by rw [HTa.out.len]; exact HL.out) rfl rfl (by have := H24.out; rw [HTa.out.len]; omega))
      have N2a := Aside0.mk (fun W (h : Kd.C (Kd.int .u8) W A l.length l) => nump_calls (iz := (i : Int)) (mz := 2) i h rfl HC.out HY.out HL.out rfl rfl (by have := HI.out; have := H24.out; omega))
      have N3a := Aside0.mk (fun W (h : Kd.C (Kd.int .u8) W (some ⟨g, 0, none⟩) l.length L) => nump_calls (iz := (i : Int)) (mz := 2) i h HTa.out.len HTa.out.read.2 HBLa.out (by rw [HTa.out.len]; exact HL.out) rfl rfl (by rw [HTa.out.len]; exact (by have := HI.out; have := H24.out; omega)))
      have TTa := Aside0.mk (fun W => rturn_calls (pr_b HBLa.out 14) (pr_b HY.out i) (pr_b HBLa.out i) W)
      have PTa := Aside0.mk (fun W (h : Cop w W g A c cc l L) => h.put HL.out 14 2 (turn (pr L 14) (pr l i) (pr L i)) (iz := 14) (mz := 2) rfl rfl (by omega) (by have := H24.out; omega))
      go_upto_region 20 with (first
        | (go_at_call 32; (with_reducible refine (N1a.out _ ?hb).mono ?_); (case hb => (repeat (first | with_reducible exact RXa.out | (with_reducible refine Kd.C_drewN ?_ _) | (with_reducible refine Kd.C_drew ?_)))); rintro e w6 ⟨rfl, ⟨⟨nq, rfl⟩⟩⟩)
        | (go_at_call 32; (with_reducible refine (N2a.out _ ?hb).mono ?_); (case hb => (repeat (first | with_reducible exact RLa.out | (with_reducible refine Kd.C_drewN ?_ _) | (with_reducible refine Kd.C_drew ?_)))); rintro e w6 ⟨rfl, ⟨⟨nq, rfl⟩⟩⟩)
        | (go_at_call 32; (with_reducible refine (N3a.out _ ?hb).mono ?_); (case hb => (repeat (first | with_reducible exact RXa.out | (with_reducible refine Kd.C_drewN ?_ _) | (with_reducible refine Kd.C_drew ?_)))); rintro e w6 ⟨rfl, ⟨⟨nq, rfl⟩⟩⟩)
        | (go_at_call 53; (with_reducible refine (TTa.out _).mono ?_); rintro e w6 ⟨rfl, ⟨⟨nq, rfl⟩⟩⟩)
        | (go_at_call 41; (with_reducible refine (PTa.out _ ?hb).mono ?_); (case hb => (repeat (first | with_reducible exact HTa.out | with_reducible apply Cop.drewN))); rintro e w9 ⟨rfl, ht⟩; have HTw9 := Aside0.mk (show Cop w w9 g A c cc l (stepL l L 14 i) from ht); clear ht))
      have HTb := HTw9
      have HBLb := Aside0.mk (stepL_bytes (was := l) HBLa.out 14 i)
      have RLb := Aside0.mk (Kd.C_below HR.out HTb.out.below)
      have RXb := Aside0.mk HTb.out.read.1
      have N1b := Aside0.mk (fun W (h : Kd.C (Kd.int .u8) W (some ⟨g, 0, none⟩) l.length (stepL l L 14 i)) => nump_calls (iz := 22) (mz := 2) 22 h HTb.out.len HTb.out.read.2 HBLb.out (by rw [HTb.out.len]; exact HL.out) rfl rfl (by have := H24.out; rw [HTb.out.len]; omega))
      have N2b := Aside0.mk (fun W (h : Kd.C (Kd.int .u8) W A l.length l) => nump_calls (iz := (i : Int)) (mz := 2) i h rfl HC.out HY.out HL.out rfl rfl (by have := HI.out; have := H24.out; omega))
      have N3b := Aside0.mk (fun W (h : Kd.C (Kd.int .u8) W (some ⟨g, 0, none⟩) l.length (stepL l L 14 i)) => nump_calls (iz := (i : Int)) (mz := 2) i h HTb.out.len HTb.out.read.2 HBLb.out (by rw [HTb.out.len]; exact HL.out) rfl rfl (by rw [HTb.out.len]; exact (by have := HI.out; have := H24.out; omega)))
      have TTb := Aside0.mk (fun W => rturn_calls (pr_b HBLb.out 22) (pr_b HY.out i) (pr_b HBLb.out i) W)
      have PTb := Aside0.mk (fun W (h : Cop w W g A c cc l (stepL l L 14 i)) => h.put HL.out 22 2 (turn (pr (stepL l L 14 i) 22) (pr l i) (pr (stepL l L 14 i) i)) (iz := 22) (mz := 2) rfl rfl (by omega) (by have := H24.out; omega))
      go_wp2_with (first
        | (go_at_call 32; (with_reducible refine (N1b.out _ ?hb).mono ?_); (case hb => (repeat (first | with_reducible exact RXb.out | (with_reducible refine Kd.C_drewN ?_ _) | (with_reducible refine Kd.C_drew ?_)))); rintro e w6 ⟨rfl, ⟨⟨nq, rfl⟩⟩⟩)
        | (go_at_call 32; (with_reducible refine (N2b.out _ ?hb).mono ?_); (case hb => (repeat (first | with_reducible exact RLb.out | (with_reducible refine Kd.C_drewN ?_ _) | (with_reducible refine Kd.C_drew ?_)))); rintro e w6 ⟨rfl, ⟨⟨nq, rfl⟩⟩⟩)
        | (go_at_call 32; (with_reducible refine (N3b.out _ ?hb).mono ?_); (case hb => (repeat (first | with_reducible exact RXb.out | (with_reducible refine Kd.C_drewN ?_ _) | (with_reducible refine Kd.C_drew ?_)))); rintro e w6 ⟨rfl, ⟨⟨nq, rfl⟩⟩⟩)
        | (go_at_call 53; (with_reducible refine (TTb.out _).mono ?_); rintro e w6 ⟨rfl, ⟨⟨nq, rfl⟩⟩⟩)
        | (go_at_call 41; (with_reducible refine (PTb.out _ ?hb).mono ?_); (case hb => (repeat (first | with_reducible exact HTb.out | with_reducible apply Cop.drewN))); rintro e w10 ⟨rfl, ht⟩; have HTw10 := Aside0.mk (show Cop w w10 g A c cc l (stepL l (stepL l L 14 i) 22 i) from ht); clear ht))
      have HRN := Aside0.mk (show natIter l false (gk - 1) (i + 2) (stepL l (stepL l L 14 i) 22 i) = R from by
        have h1 := HRR.out
        obtain ⟨m, hm⟩ : ∃ m, gk = m + 1 := ⟨gk - 1, by have := HGK.out; omega⟩
        rw [hm] at h1 ⊢
        exact h1)
      go_roundg (gk - 1)
      case measure => have := HGK.out; omega
      case rel => exact ⟨i + 2, _, (by first | rfl | go_num), (by show _ ∧ _; have := HI.out; have := HGK.out; omega), HRN.out, stepL_bytes HBLb.out 22 i, HTw10.out⟩
    · have hd : decide ((i : Int) < 8) = false := decide_eq_false hlt
      have hk0 : gk = 0 := by have := HI.out; omega
      have HLR : Aside0 (L = R) := Aside0.mk (by have h1 := HRR.out; rw [hk0] at h1; exact h1)
      clear hlt hk0
      have HTc := HTa
      have HBLc := HBLa
      have RLc := Aside0.mk (Kd.C_below HR.out HTc.out.below)
      have RXc := Aside0.mk HTc.out.read.1
      have N1c := Aside0.mk (fun W (h : Kd.C (Kd.int .u8) W (some ⟨g, 0, none⟩) l.length L) => nump_calls (iz := 22) (mz := 2) 22 h HTc.out.len HTc.out.read.2 HBLc.out (by rw [HTc.out.len]; exact HL.out) rfl rfl (by have := H24.out; rw [HTc.out.len]; omega))
      have N2c := Aside0.mk (fun W (h : Kd.C (Kd.int .u8) W A l.length l) => nump_calls (iz := 16) (mz := 2) 16 h rfl HC.out HY.out HL.out rfl rfl (by have := H24.out; omega))
      have N3c := Aside0.mk (fun W (h : Kd.C (Kd.int .u8) W (some ⟨g, 0, none⟩) l.length L) => nump_calls (iz := 16) (mz := 2) 16 h HTc.out.len HTc.out.read.2 HBLc.out (by rw [HTc.out.len]; exact HL.out) rfl rfl (by rw [HTc.out.len]; exact (by have := H24.out; omega)))
      have TTc := Aside0.mk (fun W => rturn_calls (pr_b HBLc.out 22) (pr_b HY.out 16) (pr_b HBLc.out 16) W)
      have PTc := Aside0.mk (fun W (h : Cop w W g A c cc l L) => h.put HL.out 22 2 (turn (pr L 22) (pr l 16) (pr L 16)) (iz := 22) (mz := 2) rfl rfl (by omega) (by have := H24.out; omega))
      go_upto_region 23 with (first
        | (go_at_call 32; (with_reducible refine (N1c.out _ ?hb).mono ?_); (case hb => (repeat (first | with_reducible exact RXc.out | (with_reducible refine Kd.C_drewN ?_ _) | (with_reducible refine Kd.C_drew ?_)))); rintro e w6 ⟨rfl, ⟨⟨nq, rfl⟩⟩⟩)
        | (go_at_call 32; (with_reducible refine (N2c.out _ ?hb).mono ?_); (case hb => (repeat (first | with_reducible exact RLc.out | (with_reducible refine Kd.C_drewN ?_ _) | (with_reducible refine Kd.C_drew ?_)))); rintro e w6 ⟨rfl, ⟨⟨nq, rfl⟩⟩⟩)
        | (go_at_call 32; (with_reducible refine (N3c.out _ ?hb).mono ?_); (case hb => (repeat (first | with_reducible exact RXc.out | (with_reducible refine Kd.C_drewN ?_ _) | (with_reducible refine Kd.C_drew ?_)))); rintro e w6 ⟨rfl, ⟨⟨nq, rfl⟩⟩⟩)
        | (go_at_call 53; (with_reducible refine (TTc.out _).mono ?_); rintro e w6 ⟨rfl, ⟨⟨nq, rfl⟩⟩⟩)
        | (go_at_call 41; (with_reducible refine (PTc.out _ ?hb).mono ?_); (case hb => (repeat (first | with_reducible exact HTc.out | with_reducible apply Cop.drewN))); rintro e w9 ⟨rfl, ht⟩; have HTw9 := Aside0.mk (show Cop w w9 g A c cc l (stepL l L 22 16) from ht); clear ht))
      have HE := Aside0.mk (end_calls HTw9.out false (stepL_bytes HBLc.out 22 16) H24.out HL.out)
      go_wp2_with (first | (go_at_call 55; (with_reducible refine HE.out.mono ?_); rintro e w11 ⟨rfl, ht⟩; have HF := Aside0.mk ht; clear ht))
      go_ret2
      rw [HFIN.out, ← HLR.out]
      exact ⟨_, rfl, HF.out.row, HF.out.below⟩
set_option maxHeartbeats 1000000 in
set_option maxRecDepth 100000 in
theorem rnat_ok_false_true {A : Option Addr} {c : Nat} {l : List Int} {w : World} (hr : Kd.C (Kd.int .u8) w A l.length l) (hc : l.length ≤ c) (hl : l.length ≤ 10000) (hb : Bytes l) {p0 p1 p2 p3 p4 p5 p6 p7 p8 : Int} {p9 : Bool} {p10 : Int} {p11 p12 : List Int} (addr port : Int) (hp : parseL l = (⟨p0, p1, p2, p3, p4, p5, p6, p7, p8, p9, p10, p11, p12⟩, 0)) (hk : ¬ p0 = 3) (h : rgB addr 4294967295 = true) (h' : rgB port 65535 = true) (hbare : bareB l = true) :
    Calls Try.prog 29 #[.slice A l.length c, .bool false, .int .i64 addr, .int .i64 port] w (Told w (rnatL l true 8 18 addr port) 0) := by
  have H24 := Aside0.mk (show 24 ≤ l.length from (head0 (parse0 hp)).1)
  have HR := Aside0.mk hr
  have HC := Aside0.mk hc
  have HL := Aside0.mk hl
  have HY := Aside0.mk hb
  have HP := Aside0.mk hp
  have G := Aside0.mk (rparse_calls hr rfl hc (by omega) hb)
  have q3 : (p0 == 3) = false := beq_eq_false_iff_ne.mpr hk
  have W1 := Aside0.mk (fun W => rout_calls' (b := false) (n := addr) (m := 4294967295) h W)
  have W2 := Aside0.mk (fun W => rout_calls' (b := false) (n := port) (m := 65535) h' W)
  have GB := Aside0.mk (fun W (hrw : Kd.C (Kd.int .u8) W A l.length l) => bare_calls' hbare hrw rfl HC.out HY.out H24.out HL.out)
  obtain ⟨R, hR⟩ : ∃ R, natIter l true 2 8 (putL (putL l 8 4 addr) 18 2 port) = R := ⟨_, rfl⟩
  have HR0 := Aside0.mk hR
  have HFIN := Aside0.mk (show rnatL l true 8 18 addr port = doneL true R from by unfold rnatL; rw [hR]; rfl)
  clear hr hc hl hb hp hk h h' hbare hR
  go_enter Try.func29, Try.ntmps29
  go_upto_region 8 with (first | (go_at_call 24; (with_reducible refine G.out.mono ?_); intro e w1 hq; obtain ⟨A1, c1, A2, c2, rfl, h1, h2, h3, hb1⟩ := got_of HP.out hq; have HB1 := Aside0.mk hb1; clear hq h1 h2 h3 hb1) | (go_at_call 40; (with_reducible refine (W1.out _).mono ?_); rintro e w2 ⟨rfl, ⟨⟨nd, rfl⟩⟩⟩) | (go_at_call 40; (with_reducible refine (W2.out _).mono ?_); rintro e w2 ⟨rfl, ⟨⟨nd, rfl⟩⟩⟩))
  generalize hW : World.drewN _ _ = w4
  have HB2 : Aside0 (Below w.heap.size w w4) := Aside0.mk (by rw [← hW]; exact bd (HB1.out.alloc HB1.out.size _) _)
  clear hW HB1
  go_upto_region 12 with (first | ((with_reducible refine gate_dst (N := 37) rfl ?_); refine Kd.R_lit (Kd.int .u8) (w0 := w) w.heap.size 5 ?hg (N := 37) ?hd (xs := ([] : List Int)) (inner := []) (ok := fun _ => True) (okp := fun _ => True) ?hr ?hp (fun _ hk => hk) trivial HB2.out HB2.out.size (by simp) ?_; (case hd => rfl); (case hg => rfl); (case hr => first | (go_simp; done) | (go_simp; rfl)); (case hp => exact (Reps.none _ _)); intro v3 w3 ho hb hg hat; have HO3 := Aside0.mk ho; have HB3 := Aside0.mk hb; clear ho hb hg hat) | ((with_reducible refine gate_builtin (b := .append) (xs := #[.tmp 37, .tmp 38]) rfl ?_); at_builtin; refine Kd.R_append_rows (Kd.int .u8) (w0 := w) w.heap.size rfl (.tmp 37) (.tmp 38) 23 5 (.int .u8 0) 1 rfl Try.underlying23 info5 rfl (by decide) (by omega) v3 [] l A l.length c (fun _ => True) (fun _ => False) rfl rfl HO3.out (Kd.C_below HR.out HB3.out) (fun _ _ h => h) (fun _ h => h.elim) (fun _ _ => trivial) HB3.out HB3.out.size (by have := HL.out; simp only [List.length_nil]; omega) ?_; intro v4 w4 ho hb hg hat; obtain ⟨g, cc, ev, HCP⟩ := Cop.of HR.out HC.out ho hb (by have := H24.out; omega); subst ev; have HCP := Aside0.mk HCP; clear ho hb hg hat))
  have P1 := Aside0.mk (HCP.out.put HL.out 8 4 addr (iz := 8) (mz := 4) rfl rfl (by omega) (by have := H24.out; omega))
  go_upto_region 13 with (first | (go_at_call 41; (with_reducible refine P1.out.mono ?_); rintro e w5 ⟨rfl, ht⟩; have HT5 := Aside0.mk ht; clear ht))
  have P2 := Aside0.mk (HT5.out.put HL.out 18 2 port (iz := 18) (mz := 2) rfl rfl (by omega) (by have := H24.out; omega))
  go_upto_region 14 with (first | (go_at_call 41; (with_reducible refine P2.out.mono ?_); rintro e w6 ⟨rfl, ht⟩; have HT6 := Aside0.mk ht; clear ht))
  have B6 := Aside0.mk (putL_bytes 18 2 port (putL_bytes 8 4 addr HY.out))
  have RL6 := Aside0.mk (Kd.C_below HR.out HT6.out.below)
  go_wp2_with (first | (go_at_call 52; (with_reducible refine (GB.out _ RL6.out).mono ?_); rintro e w7 ⟨rfl, ⟨⟨nd7, rfl⟩⟩⟩))
  go_loopg [16] 2 (fun kq v16 w' => ∃ (i : Nat) (L : List Int), v16 = .int .i64 (i : Int) ∧ Aside (i + 2 * kq = 12 ∧ 8 ≤ i) ∧ Aside (natIter l true kq i L = R) ∧ Aside (Bytes L) ∧ Cop w w' g A c cc l L)
  case atStart =>
    exact ⟨8, _, rfl, ⟨by omega, by omega⟩, HR0.out, B6.out, by first | exact HT6.out | exact HT6.out.drewN _⟩
  case round =>
    obtain ⟨i, L, rfl, hi, hr, hb, hc⟩ := hrel
    have HI := Aside0.mk hi.out
    have HRR := Aside0.mk hr.out
    have HBLa := Aside0.mk hb.out
    have HTa := Aside0.mk hc
    clear hi hr hb hc
    by_cases hlt : (i : Int) < 12
    · have hd : decide ((i : Int) < 12) = true := decide_eq_true hlt
      have HGK := Aside0.mk (show 0 < gk from by have := HI.out; omega)
      have hi0 : (i : Int) ≤ 8 + 4 := by omega
      clear hlt
      have RLa := Aside0.mk (Kd.C_below HR.out HTa.out.below)
      have RXa := Aside0.mk HTa.out.read.1
      have N1a := Aside0.mk (fun W (h : Kd.C (Kd.int .u8) W (some ⟨g, 0, none⟩) l.length L) => nump_calls (iz := 14) (mz := 2) 14 h HTa.out.len HTa.out.read.2 HBLa.out (by rw [HTa.out.len]; exact HL.out) rfl rfl (by have := H24.out; rw [HTa.out.len]; omega))
      have N2a := Aside0.mk (fun W (h : Kd.C (Kd.int .u8) W A l.length l) => nump_calls (iz := (i : Int)) (mz := 2) i h rfl HC.out HY.out HL.out rfl rfl (by have := HI.out; have := H24.out; omega))
      have N3a := Aside0.mk (fun W (h : Kd.C (Kd.int .u8) W (some ⟨g, 0, none⟩) l.length L) => nump_calls (iz := (i : Int)) (mz := 2) i h HTa.out.len HTa.out.read.2 HBLa.out (by rw [HTa.out.len]; exact HL.out) rfl rfl (by rw [HTa.out.len]; exact (by have := HI.out; have := H24.out; omega)))
      have TTa := Aside0.mk (fun W => rturn_calls (pr_b HBLa.out 14) (pr_b HY.out i) (pr_b HBLa.out i) W)
      have PTa := Aside0.mk (fun W (h : Cop w W g A c cc l L) => h.put HL.out 14 2 (turn (pr L 14) (pr l i) (pr L i)) (iz := 14) (mz := 2) rfl rfl (by omega) (by have := H24.out; omega))
      go_wp2_with (first
        | (go_at_call 32; (with_reducible refine (N1a.out _ ?hb).mono ?_); (case hb => (repeat (first | with_reducible exact RXa.out | (with_reducible refine Kd.C_drewN ?_ _) | (with_reducible refine Kd.C_drew ?_)))); rintro e w6 ⟨rfl, ⟨⟨nq, rfl⟩⟩⟩)
        | (go_at_call 32; (with_reducible refine (N2a.out _ ?hb).mono ?_); (case hb => (repeat (first | with_reducible exact RLa.out | (with_reducible refine Kd.C_drewN ?_ _) | (with_reducible refine Kd.C_drew ?_)))); rintro e w6 ⟨rfl, ⟨⟨nq, rfl⟩⟩⟩)
        | (go_at_call 32; (with_reducible refine (N3a.out _ ?hb).mono ?_); (case hb => (repeat (first | with_reducible exact RXa.out | (with_reducible refine Kd.C_drewN ?_ _) | (with_reducible refine Kd.C_drew ?_)))); rintro e w6 ⟨rfl, ⟨⟨nq, rfl⟩⟩⟩)
        | (go_at_call 53; (with_reducible refine (TTa.out _).mono ?_); rintro e w6 ⟨rfl, ⟨⟨nq, rfl⟩⟩⟩)
        | (go_at_call 41; (with_reducible refine (PTa.out _ ?hb).mono ?_); (case hb => (repeat (first | with_reducible exact HTa.out | with_reducible apply Cop.drewN))); rintro e w9 ⟨rfl, ht⟩; have HTw9 := Aside0.mk (show Cop w w9 g A c cc l (stepL l L 14 i) from ht); clear ht))
      have HRN := Aside0.mk (show natIter l true (gk - 1) (i + 2) (stepL l L 14 i) = R from by
        have h1 := HRR.out
        obtain ⟨m, hm⟩ : ∃ m, gk = m + 1 := ⟨gk - 1, by have := HGK.out; omega⟩
        rw [hm] at h1 ⊢
        exact h1)
      go_roundg (gk - 1)
      case measure => have := HGK.out; omega
      case rel => exact ⟨i + 2, _, (by first | rfl | go_num), (by show _ ∧ _; have := HI.out; have := HGK.out; omega), HRN.out, stepL_bytes HBLa.out 14 i, HTw9.out⟩
    · have hd : decide ((i : Int) < 12) = false := decide_eq_false hlt
      have hk0 : gk = 0 := by have := HI.out; omega
      have HLR : Aside0 (L = R) := Aside0.mk (by have h1 := HRR.out; rw [hk0] at h1; exact h1)
      clear hlt hk0
      have HTc := HTa
      have HBLc := HBLa
      have HE := Aside0.mk (end_calls HTc.out true HBLc.out H24.out HL.out)
      go_wp2_with (first | (go_at_call 55; (with_reducible refine HE.out.mono ?_); rintro e w11 ⟨rfl, ht⟩; have HF := Aside0.mk ht; clear ht))
      go_ret2
      rw [HFIN.out, ← HLR.out]
      exact ⟨_, rfl, HF.out.row, HF.out.below⟩
set_option maxHeartbeats 1000000 in
set_option maxRecDepth 100000 in
theorem rnat_ok_false_false {A : Option Addr} {c : Nat} {l : List Int} {w : World} (hr : Kd.C (Kd.int .u8) w A l.length l) (hc : l.length ≤ c) (hl : l.length ≤ 10000) (hb : Bytes l) {p0 p1 p2 p3 p4 p5 p6 p7 p8 : Int} {p9 : Bool} {p10 : Int} {p11 p12 : List Int} (addr port : Int) (hp : parseL l = (⟨p0, p1, p2, p3, p4, p5, p6, p7, p8, p9, p10, p11, p12⟩, 0)) (hk : ¬ p0 = 3) (h : rgB addr 4294967295 = true) (h' : rgB port 65535 = true) (hbare : bareB l = false) :
    Calls Try.prog 29 #[.slice A l.length c, .bool false, .int .i64 addr, .int .i64 port] w (Told w (rnatL l false 8 18 addr port) 0) := by
  have H24 := Aside0.mk (show 24 ≤ l.length from (head0 (parse0 hp)).1)
  have HR := Aside0.mk hr
  have HC := Aside0.mk hc
  have HL := Aside0.mk hl
  have HY := Aside0.mk hb
  have HP := Aside0.mk hp
  have G := Aside0.mk (rparse_calls hr rfl hc (by omega) hb)
  have q3 : (p0 == 3) = false := beq_eq_false_iff_ne.mpr hk
  have W1 := Aside0.mk (fun W => rout_calls' (b := false) (n := addr) (m := 4294967295) h W)
  have W2 := Aside0.mk (fun W => rout_calls' (b := false) (n := port) (m := 65535) h' W)
  have GB := Aside0.mk (fun W (hrw : Kd.C (Kd.int .u8) W A l.length l) => bare_calls' hbare hrw rfl HC.out HY.out H24.out HL.out)
  obtain ⟨R, hR⟩ : ∃ R, natIter l false 2 8 (putL (putL l 8 4 addr) 18 2 port) = R := ⟨_, rfl⟩
  have HR0 := Aside0.mk hR
  have HFIN := Aside0.mk (show rnatL l false 8 18 addr port = doneL false (stepL l R 22 18) from by unfold rnatL; rw [hR]; rfl)
  clear hr hc hl hb hp hk h h' hbare hR
  go_enter Try.func29, Try.ntmps29
  go_upto_region 8 with (first | (go_at_call 24; (with_reducible refine G.out.mono ?_); intro e w1 hq; obtain ⟨A1, c1, A2, c2, rfl, h1, h2, h3, hb1⟩ := got_of HP.out hq; have HB1 := Aside0.mk hb1; clear hq h1 h2 h3 hb1) | (go_at_call 40; (with_reducible refine (W1.out _).mono ?_); rintro e w2 ⟨rfl, ⟨⟨nd, rfl⟩⟩⟩) | (go_at_call 40; (with_reducible refine (W2.out _).mono ?_); rintro e w2 ⟨rfl, ⟨⟨nd, rfl⟩⟩⟩))
  generalize hW : World.drewN _ _ = w4
  have HB2 : Aside0 (Below w.heap.size w w4) := Aside0.mk (by rw [← hW]; exact bd (HB1.out.alloc HB1.out.size _) _)
  clear hW HB1
  go_upto_region 12 with (first | ((with_reducible refine gate_dst (N := 37) rfl ?_); refine Kd.R_lit (Kd.int .u8) (w0 := w) w.heap.size 5 ?hg (N := 37) ?hd (xs := ([] : List Int)) (inner := []) (ok := fun _ => True) (okp := fun _ => True) ?hr ?hp (fun _ hk => hk) trivial HB2.out HB2.out.size (by simp) ?_; (case hd => rfl); (case hg => rfl); (case hr => first | (go_simp; done) | (go_simp; rfl)); (case hp => exact (Reps.none _ _)); intro v3 w3 ho hb hg hat; have HO3 := Aside0.mk ho; have HB3 := Aside0.mk hb; clear ho hb hg hat) | ((with_reducible refine gate_builtin (b := .append) (xs := #[.tmp 37, .tmp 38]) rfl ?_); at_builtin; refine Kd.R_append_rows (Kd.int .u8) (w0 := w) w.heap.size rfl (.tmp 37) (.tmp 38) 23 5 (.int .u8 0) 1 rfl Try.underlying23 info5 rfl (by decide) (by omega) v3 [] l A l.length c (fun _ => True) (fun _ => False) rfl rfl HO3.out (Kd.C_below HR.out HB3.out) (fun _ _ h => h) (fun _ h => h.elim) (fun _ _ => trivial) HB3.out HB3.out.size (by have := HL.out; simp only [List.length_nil]; omega) ?_; intro v4 w4 ho hb hg hat; obtain ⟨g, cc, ev, HCP⟩ := Cop.of HR.out HC.out ho hb (by have := H24.out; omega); subst ev; have HCP := Aside0.mk HCP; clear ho hb hg hat))
  have P1 := Aside0.mk (HCP.out.put HL.out 8 4 addr (iz := 8) (mz := 4) rfl rfl (by omega) (by have := H24.out; omega))
  go_upto_region 13 with (first | (go_at_call 41; (with_reducible refine P1.out.mono ?_); rintro e w5 ⟨rfl, ht⟩; have HT5 := Aside0.mk ht; clear ht))
  have P2 := Aside0.mk (HT5.out.put HL.out 18 2 port (iz := 18) (mz := 2) rfl rfl (by omega) (by have := H24.out; omega))
  go_upto_region 14 with (first | (go_at_call 41; (with_reducible refine P2.out.mono ?_); rintro e w6 ⟨rfl, ht⟩; have HT6 := Aside0.mk ht; clear ht))
  have B6 := Aside0.mk (putL_bytes 18 2 port (putL_bytes 8 4 addr HY.out))
  have RL6 := Aside0.mk (Kd.C_below HR.out HT6.out.below)
  go_wp2_with (first | (go_at_call 52; (with_reducible refine (GB.out _ RL6.out).mono ?_); rintro e w7 ⟨rfl, ⟨⟨nd7, rfl⟩⟩⟩))
  go_loopg [16] 2 (fun kq v16 w' => ∃ (i : Nat) (L : List Int), v16 = .int .i64 (i : Int) ∧ Aside (i + 2 * kq = 12 ∧ 8 ≤ i) ∧ Aside (natIter l false kq i L = R) ∧ Aside (Bytes L) ∧ Cop w w' g A c cc l L)
  case atStart =>
    exact ⟨8, _, rfl, ⟨by omega, by omega⟩, HR0.out, B6.out, by first | exact HT6.out | exact HT6.out.drewN _⟩
  case round =>
    obtain ⟨i, L, rfl, hi, hr, hb, hc⟩ := hrel
    have HI := Aside0.mk hi.out
    have HRR := Aside0.mk hr.out
    have HBLa := Aside0.mk hb.out
    have HTa := Aside0.mk hc
    clear hi hr hb hc
    by_cases hlt : (i : Int) < 12
    · have hd : decide ((i : Int) < 12) = true := decide_eq_true hlt
      have HGK := Aside0.mk (show 0 < gk from by have := HI.out; omega)
      have hi0 : (i : Int) ≤ 8 + 4 := by omega
      clear hlt
      have RLa := Aside0.mk (Kd.C_below HR.out HTa.out.below)
      have RXa := Aside0.mk HTa.out.read.1
      have N1a := Aside0.mk (fun W (h : Kd.C (Kd.int .u8) W (some ⟨g, 0, none⟩) l.length L) => nump_calls (iz := 14) (mz := 2) 14 h HTa.out.len HTa.out.read.2 HBLa.out (by rw [HTa.out.len]; exact HL.out) rfl rfl (by have := H24.out; rw [HTa.out.len]; omega))
      have N2a := Aside0.mk (fun W (h : Kd.C (Kd.int .u8) W A l.length l) => nump_calls (iz := (i : Int)) (mz := 2) i h rfl HC.out HY.out HL.out rfl rfl (by have := HI.out; have := H24.out; omega))
      have N3a := Aside0.mk (fun W (h : Kd.C (Kd.int .u8) W (some ⟨g, 0, none⟩) l.length L) => nump_calls (iz := (i : Int)) (mz := 2) i h HTa.out.len HTa.out.read.2 HBLa.out (by rw [HTa.out.len]; exact HL.out) rfl rfl (by rw [HTa.out.len]; exact (by have := HI.out; have := H24.out; omega)))
      have TTa := Aside0.mk (fun W => rturn_calls (pr_b HBLa.out 14) (pr_b HY.out i) (pr_b HBLa.out i) W)
      have PTa := Aside0.mk (fun W (h : Cop w W g A c cc l L) => h.put HL.out 14 2 (turn (pr L 14) (pr l i) (pr L i)) (iz := 14) (mz := 2) rfl rfl (by omega) (by have := H24.out; omega))
      go_upto_region 20 with (first
        | (go_at_call 32; (with_reducible refine (N1a.out _ ?hb).mono ?_); (case hb => (repeat (first | with_reducible exact RXa.out | (with_reducible refine Kd.C_drewN ?_ _) | (with_reducible refine Kd.C_drew ?_)))); rintro e w6 ⟨rfl, ⟨⟨nq, rfl⟩⟩⟩)
        | (go_at_call 32; (with_reducible refine (N2a.out _ ?hb).mono ?_); (case hb => (repeat (first | with_reducible exact RLa.out | (with_reducible refine Kd.C_drewN ?_ _) | (with_reducible refine Kd.C_drew ?_)))); rintro e w6 ⟨rfl, ⟨⟨nq, rfl⟩⟩⟩)
        | (go_at_call 32; (with_reducible refine (N3a.out _ ?hb).mono ?_); (case hb => (repeat (first | with_reducible exact RXa.out | (with_reducible refine Kd.C_drewN ?_ _) | (with_reducible refine Kd.C_drew ?_)))); rintro e w6 ⟨rfl, ⟨⟨nq, rfl⟩⟩⟩)
        | (go_at_call 53; (with_reducible refine (TTa.out _).mono ?_); rintro e w6 ⟨rfl, ⟨⟨nq, rfl⟩⟩⟩)
        | (go_at_call 41; (with_reducible refine (PTa.out _ ?hb).mono ?_); (case hb => (repeat (first | with_reducible exact HTa.out | with_reducible apply Cop.drewN))); rintro e w9 ⟨rfl, ht⟩; have HTw9 := Aside0.mk (show Cop w w9 g A c cc l (stepL l L 14 i) from ht); clear ht))
      have HTb := HTw9
      have HBLb := Aside0.mk (stepL_bytes (was := l) HBLa.out 14 i)
      have RLb := Aside0.mk (Kd.C_below HR.out HTb.out.below)
      have RXb := Aside0.mk HTb.out.read.1
      have N1b := Aside0.mk (fun W (h : Kd.C (Kd.int .u8) W (some ⟨g, 0, none⟩) l.length (stepL l L 14 i)) => nump_calls (iz := 22) (mz := 2) 22 h HTb.out.len HTb.out.read.2 HBLb.out (by rw [HTb.out.len]; exact HL.out) rfl rfl (by have := H24.out; rw [HTb.out.len]; omega))
      have N2b := Aside0.mk (fun W (h : Kd.C (Kd.int .u8) W A l.length l) => nump_calls (iz := (i : Int)) (mz := 2) i h rfl HC.out HY.out HL.out rfl rfl (by have := HI.out; have := H24.out; omega))
      have N3b := Aside0.mk (fun W (h : Kd.C (Kd.int .u8) W (some ⟨g, 0, none⟩) l.length (stepL l L 14 i)) => nump_calls (iz := (i : Int)) (mz := 2) i h HTb.out.len HTb.out.read.2 HBLb.out (by rw [HTb.out.len]; exact HL.out) rfl rfl (by rw [HTb.out.len]; exact (by have := HI.out; have := H24.out; omega)))
      have TTb := Aside0.mk (fun W => rturn_calls (pr_b HBLb.out 22) (pr_b HY.out i) (pr_b HBLb.out i) W)
      have PTb := Aside0.mk (fun W (h : Cop w W g A c cc l (stepL l L 14 i)) => h.put HL.out 22 2 (turn (pr (stepL l L 14 i) 22) (pr l i) (pr (stepL l L 14 i) i)) (iz := 22) (mz := 2) rfl rfl (by omega) (by have := H24.out; omega))
      go_wp2_with (first
        | (go_at_call 32; (with_reducible refine (N1b.out _ ?hb).mono ?_); (case hb => (repeat (first | with_reducible exact RXb.out | (with_reducible refine Kd.C_drewN ?_ _) | (with_reducible refine Kd.C_drew ?_)))); rintro e w6 ⟨rfl, ⟨⟨nq, rfl⟩⟩⟩)
        | (go_at_call 32; (with_reducible refine (N2b.out _ ?hb).mono ?_); (case hb => (repeat (first | with_reducible exact RLb.out | (with_reducible refine Kd.C_drewN ?_ _) | (with_reducible refine Kd.C_drew ?_)))); rintro e w6 ⟨rfl, ⟨⟨nq, rfl⟩⟩⟩)
        | (go_at_call 32; (with_reducible refine (N3b.out _ ?hb).mono ?_); (case hb => (repeat (first | with_reducible exact RXb.out | (with_reducible refine Kd.C_drewN ?_ _) | (with_reducible refine Kd.C_drew ?_)))); rintro e w6 ⟨rfl, ⟨⟨nq, rfl⟩⟩⟩)
        | (go_at_call 53; (with_reducible refine (TTb.out _).mono ?_); rintro e w6 ⟨rfl, ⟨⟨nq, rfl⟩⟩⟩)
        | (go_at_call 41; (with_reducible refine (PTb.out _ ?hb).mono ?_); (case hb => (repeat (first | with_reducible exact HTb.out | with_reducible apply Cop.drewN))); rintro e w10 ⟨rfl, ht⟩; have HTw10 := Aside0.mk (show Cop w w10 g A c cc l (stepL l (stepL l L 14 i) 22 i) from ht); clear ht))
      have HRN := Aside0.mk (show natIter l false (gk - 1) (i + 2) (stepL l (stepL l L 14 i) 22 i) = R from by
        have h1 := HRR.out
        obtain ⟨m, hm⟩ : ∃ m, gk = m + 1 := ⟨gk - 1, by have := HGK.out; omega⟩
        rw [hm] at h1 ⊢
        exact h1)
      go_roundg (gk - 1)
      case measure => have := HGK.out; omega
      case rel => exact ⟨i + 2, _, (by first | rfl | go_num), (by show _ ∧ _; have := HI.out; have := HGK.out; omega), HRN.out, stepL_bytes HBLb.out 22 i, HTw10.out⟩
    · have hd : decide ((i : Int) < 12) = false := decide_eq_false hlt
      have hk0 : gk = 0 := by have := HI.out; omega
      have HLR : Aside0 (L = R) := Aside0.mk (by have h1 := HRR.out; rw [hk0] at h1; exact h1)
      clear hlt hk0
      have HTc := HTa
      have HBLc := HBLa
      have RLc := Aside0.mk (Kd.C_below HR.out HTc.out.below)
      have RXc := Aside0.mk HTc.out.read.1
      have N1c := Aside0.mk (fun W (h : Kd.C (Kd.int .u8) W (some ⟨g, 0, none⟩) l.length L) => nump_calls (iz := 22) (mz := 2) 22 h HTc.out.len HTc.out.read.2 HBLc.out (by rw [HTc.out.len]; exact HL.out) rfl rfl (by have := H24.out; rw [HTc.out.len]; omega))
      have N2c := Aside0.mk (fun W (h : Kd.C (Kd.int .u8) W A l.length l) => nump_calls (iz := 18) (mz := 2) 18 h rfl HC.out HY.out HL.out rfl rfl (by have := H24.out; omega))
      have N3c := Aside0.mk (fun W (h : Kd.C (Kd.int .u8) W (some ⟨g, 0, none⟩) l.length L) => nump_calls (iz := 18) (mz := 2) 18 h HTc.out.len HTc.out.read.2 HBLc.out (by rw [HTc.out.len]; exact HL.out) rfl rfl (by rw [HTc.out.len]; exact (by have := H24.out; omega)))
      have TTc := Aside0.mk (fun W => rturn_calls (pr_b HBLc.out 22) (pr_b HY.out 18) (pr_b HBLc.out 18) W)
      have PTc := Aside0.mk (fun W (h : Cop w W g A c cc l L) => h.put HL.out 22 2 (turn (pr L 22) (pr l 18) (pr L 18)) (iz := 22) (mz := 2) rfl rfl (by omega) (by have := H24.out; omega))
      go_upto_region 23 with (first
        | (go_at_call 32; (with_reducible refine (N1c.out _ ?hb).mono ?_); (case hb => (repeat (first | with_reducible exact RXc.out | (with_reducible refine Kd.C_drewN ?_ _) | (with_reducible refine Kd.C_drew ?_)))); rintro e w6 ⟨rfl, ⟨⟨nq, rfl⟩⟩⟩)
        | (go_at_call 32; (with_reducible refine (N2c.out _ ?hb).mono ?_); (case hb => (repeat (first | with_reducible exact RLc.out | (with_reducible refine Kd.C_drewN ?_ _) | (with_reducible refine Kd.C_drew ?_)))); rintro e w6 ⟨rfl, ⟨⟨nq, rfl⟩⟩⟩)
        | (go_at_call 32; (with_reducible refine (N3c.out _ ?hb).mono ?_); (case hb => (repeat (first | with_reducible exact RXc.out | (with_reducible refine Kd.C_drewN ?_ _) | (with_reducible refine Kd.C_drew ?_)))); rintro e w6 ⟨rfl, ⟨⟨nq, rfl⟩⟩⟩)
        | (go_at_call 53; (with_reducible refine (TTc.out _).mono ?_); rintro e w6 ⟨rfl, ⟨⟨nq, rfl⟩⟩⟩)
        | (go_at_call 41; (with_reducible refine (PTc.out _ ?hb).mono ?_); (case hb => (repeat (first | with_reducible exact HTc.out | with_reducible apply Cop.drewN))); rintro e w9 ⟨rfl, ht⟩; have HTw9 := Aside0.mk (show Cop w w9 g A c cc l (stepL l L 22 18) from ht); clear ht))
      have HE := Aside0.mk (end_calls HTw9.out false (stepL_bytes HBLc.out 22 18) H24.out HL.out)
      go_wp2_with (first | (go_at_call 55; (with_reducible refine HE.out.mono ?_); rintro e w11 ⟨rfl, ht⟩; have HF := Aside0.mk ht; clear ht))
      go_ret2
      rw [HFIN.out, ← HLR.out]
      exact ⟨_, rfl, HF.out.row, HF.out.below⟩
end Go.Proofs.Ytbjhmifhmojaoaa.WB

namespace Go.Proofs.Ytbjhmifhmojaoaa.WB
set_option linter.unusedVariables false
set_option linter.unusedSimpArgs false
open Go.RowKit Go.Proofs.Ytbjhmifhmojaoaa.Hp Go.Proofs.Ytbjhmifhmojaoaa.SB Go.Proofs.YtbjhmifhmojaoaaW.PrintWords Go.Proofs.YtbjhmifhmojaoaaW.PrintLast Go.Proofs.YtbjhmifhmojaoaaW.PrintMore

theorem putL_putL (i : Nat) : ∀ (n : Nat) (l : List Int) (u v : Int), putL (putL l i n u) i n v = putL l i n v
  | 0, _, _, _ => rfl
  | n + 1, l, u, v => by
    show putL ((putL (l.set (i + n) (u % 256)) i n (u / 256)).set (i + n) (v % 256)) i n (v / 256) = putL (l.set (i + n) (v % 256)) i n (v / 256)
    rw [← putL_set i (i + n) (v % 256) n _ _ (by omega), putL_putL i n, List.set_set]
theorem pr_far {l : List Int} {i n j : Nat} {v : Int} (h : j + 2 ≤ i ∨ i + n ≤ j) : pr (putL l i n v) j = pr l j := by
  unfold pr
  rw [putL_far i n l v j (by omega), putL_far i n l v (j + 1) (by omega)]
theorem bare_of {l : List Int} (o : Ok l) : (pkL l).bare = bareB l := by
  have a := o.k1
  have b := o.k3
  unfold pkL bareB
  by_cases h3 : l.getD 0 0 = 3
  · rw [if_pos h3, h3]; rfl
  · rw [if_neg h3]
    by_cases h2 : l.getD 0 0 = 2
    · rw [if_pos h2, h2, ← num2_pr]; simp
    · rw [if_neg h2, beq_eq_false_iff_ne.mpr h2]; rfl
theorem done_id {l L : List Int} {b : Bool} (h : bareB l = b) (h0 : L.getD 0 0 = l.getD 0 0) (h1 : pr L 22 = pr l 22) : doneL b L = L := by
  unfold doneL
  rw [if_neg]
  rintro ⟨a, rfl, c⟩
  unfold bareB at h
  rw [num2_pr, h1] at c
  rw [h0] at a
  rw [a, c] at h
  cases h
theorem age_eq {l : List Int} (h : 24 ≤ l.length) : ageL (bareB l) l = putL (l.set 1 ((l.getD 1 0 - 1) % 256)) 14 2 (turn (pr l 14) (pr l 0) (pr (l.set 1 ((l.getD 1 0 - 1) % 256)) 0)) := by
  unfold ageL
  obtain ⟨L, hL⟩ : ∃ L, L = l.set 1 ((l.getD 1 0 - 1) % 256) := ⟨_, rfl⟩
  have f : ∀ j, 1 < j → L.getD j 0 = l.getD j 0 := fun j hj => by rw [hL, getD_set_ne (by omega)]
  have f0 : L.getD 0 0 = l.getD 0 0 := by rw [hL, getD_set_ne (by omega)]
  rw [← hL]
  have e : turnL l L 14 0 2 = putL L 14 2 (turn (pr l 14) (pr l 0) (pr L 0)) := by
    unfold turnL
    rw [show pairsN 0 2 = 1 from rfl, show 0 / 2 * 2 = 0 from rfl, num2_pr, turnS, turnS, pairL_pr, pairL_pr, show pr L 14 = pr l 14 from by unfold pr; rw [f 14 (by omega), f (14 + 1) (by omega)]]
  rw [e, done_id rfl (by rw [putL_far _ _ _ _ _ (by omega), f0]) (by rw [pr_far (by omega)]; unfold pr; rw [f 22 (by omega), f (22 + 1) (by omega)])]
theorem nat_eq {l : List Int} (hb : Bytes l) (h : 24 ≤ l.length) (h3 : ¬ l.getD 0 0 = 3) (b : Bool) (a p : Nat) (hap : (a = 4 ∧ p = 16) ∨ (a = 8 ∧ p = 18)) (addr port : Int) : rnatL l b a p addr port = natL b l a p addr port := by
  unfold rnatL natL
  obtain ⟨X, hX⟩ : ∃ X, X = putL (putL l a 4 addr) p 2 port := ⟨_, rfl⟩
  rw [← hX]
  have bX : Bytes X := hX ▸ putL_bytes _ _ _ (putL_bytes _ _ _ hb)
  have lX : X.length = l.length := by rw [hX, putL_len, putL_len]
  have x0 : X.getD 0 0 = l.getD 0 0 := by rw [hX, putL_far _ _ _ _ _ (by omega), putL_far _ _ _ _ _ (by omega)]
  have p1 := pr_b bX 14
  have p2 := pr_b hb a
  have p3 := pr_b bX a
  have p4 := pr_b bX 22
  have t1 := turn_bounds p1.1 p1.2 p2.1 p2.2 p3.1 p3.2
  have t2 := turn_bounds p4.1 p4.2 p2.1 p2.2 p3.1 p3.2
  have eY : turnL l X 14 a 4 = putL X 14 2 (turn (turn (pr X 14) (pr l a) (pr X a)) (pr l (a + 2)) (pr X (a + 2))) := by
    unfold turnL
    rw [show pairsN a 4 = 2 from by unfold pairsN; omega, show a / 2 * 2 = a by omega, num2_pr, turnS, turnS, turnS, pairL_pr, pairL_pr, pairL_pr, pairL_pr]
  cases b with
  | true =>
    rw [if_pos rfl]
    unfold bodyT
    rw [if_pos rfl, if_pos rfl, eY]
    simp only [natIter, if_true]
    unfold stepL
    rw [pr_putL (by omega) t1.1 t1.2, pr_far (by omega), putL_putL]
  | false =>
    rw [if_neg (by simp)]
    unfold bodyT
    rw [if_neg (by simp), if_neg (by simp)]
    obtain ⟨Y, hY⟩ : ∃ Y, Y = turnL l X 14 a 4 := ⟨_, rfl⟩
    have y0 : Y.getD 0 0 = l.getD 0 0 := by rw [hY, eY, putL_far _ _ _ _ _ (by omega), x0]
    have sY : placeL Y = 22 := by unfold placeL; rw [y0, if_neg h3]
    rw [← hY, sY]
    obtain ⟨Z, hZ⟩ : ∃ Z, Z = turnL l Y 22 a 4 := ⟨_, rfl⟩
    have sZ : placeL Z = 22 := by
      unfold placeL
      rw [hZ]
      unfold turnL
      rw [putL_far _ _ _ _ _ (by omega), y0, if_neg h3]
    have eZ : Z = putL Y 22 2 (turn (turn (pr X 22) (pr l a) (pr X a)) (pr l (a + 2)) (pr X (a + 2))) := by
      rw [hZ]
      unfold turnL
      rw [show pairsN a 4 = 2 from by unfold pairsN; omega, show a / 2 * 2 = a by omega, num2_pr, turnS, turnS, turnS, pairL_pr, pairL_pr, pairL_pr, pairL_pr, hY, eY, pr_far (by omega), pr_far (by omega), pr_far (by omega)]
    rw [← hZ, sZ]
    have eW : turnL l Z 22 p 2 = stepL l Z 22 p := by
      unfold turnL stepL
      rw [show pairsN p 2 = 1 from by unfold pairsN; omega, show p / 2 * 2 = p by omega, num2_pr, turnS, turnS, pairL_pr, pairL_pr]
    have eN : natIter l false 2 a X = Z := by
      simp only [natIter]
      rw [if_neg (by simp), if_neg (by simp)]
      obtain ⟨u1, hu1⟩ : ∃ u, u = turn (pr X 14) (pr l a) (pr X a) := ⟨_, rfl⟩
      obtain ⟨v1, hv1⟩ : ∃ u, u = turn (pr X 22) (pr l a) (pr X a) := ⟨_, rfl⟩
      have e1 : stepL l X 14 a = putL X 14 2 u1 := by unfold stepL; rw [hu1]
      have e2 : stepL l (putL X 14 2 u1) 22 a = putL (putL X 14 2 u1) 22 2 v1 := by unfold stepL; rw [pr_far (by omega), pr_far (by omega), hv1]
      have b1 : 0 ≤ u1 ∧ u1 ≤ 65535 := by rw [hu1]; exact t1
      have b2 : 0 ≤ v1 ∧ v1 ≤ 65535 := by rw [hv1]; exact t2
      rw [e1, e2]
      have e3 : stepL l (putL (putL X 14 2 u1) 22 2 v1) 14 (a + 2) = putL (putL X 14 2 (turn u1 (pr l (a + 2)) (pr X (a + 2)))) 22 2 v1 := by
        unfold stepL
        rw [pr_far (by omega), pr_putL (by omega) b1.1 b1.2, pr_far (by omega), pr_far (by omega), putL_comm 22 14 2 _ 2 _ _ (by omega), putL_putL]
      rw [e3, eZ, hY, eY, ← hu1, ← hv1]
      unfold stepL
      rw [pr_putL (by rw [putL_len]; omega) b2.1 b2.2, pr_far (by omega), pr_far (by omega), putL_putL]
    rw [eN, eW]
theorem rage_calls {A : Option Addr} {c n : Nat} {l : List Int} {w : World} (hr : Kd.C (Kd.int .u8) w A n l) (hn : l.length = n) (hc : n ≤ c) (hl : l.length ≤ 10000) (hb : Bytes l) :
    Calls Try.prog 31 #[.slice A n c] w (Told w (ageR l).1 (ageR l).2) := by
  subst hn
  obtain ⟨⟨p0, p1, p2, p3, p4, p5, p6, p7, p8, p9, p10, p11, p12⟩, x, hp⟩ : ∃ p x, parseL l = (p, x) := ⟨_, _, rfl⟩
  unfold ageR
  rw [hp]
  by_cases hx : x = 0
  · subst hx
    have h := rage_ok hr hc hl hb hp
    obtain ⟨o, hpk⟩ := parse_ok_iff.1 hp
    have e9 : p9 = bareB l := by rw [← bare_of o, ← hpk]
    rw [← age_eq o.h24, ← e9] at h
    dsimp only
    by_cases h2 : p1 < 2
    · rw [if_pos h2, if_pos h2] at h; rw [if_neg (by simp), if_pos h2]; exact h
    · rw [if_neg h2, if_neg h2] at h; rw [if_neg (by simp), if_neg h2]; exact h
  · dsimp only
    rw [if_pos hx]
    exact rage_err hr hc hl hb hp hx
theorem rnat_calls {A : Option Addr} {c n : Nat} {l : List Int} {w : World} (hr : Kd.C (Kd.int .u8) w A n l) (hn : l.length = n) (hc : n ≤ c) (hl : l.length ≤ 10000) (hb : Bytes l) (src : Bool) (addr port : Int) :
    Calls Try.prog 29 #[.slice A n c, .bool src, .int .i64 addr, .int .i64 port] w (Told w (natR l src addr port).1 (natR l src addr port).2) := by
  subst hn
  obtain ⟨⟨p0, p1, p2, p3, p4, p5, p6, p7, p8, p9, p10, p11, p12⟩, x, hp⟩ : ∃ p x, parseL l = (p, x) := ⟨_, _, rfl⟩
  unfold natR
  rw [hp]
  by_cases hx : x = 0
  · subst hx
    obtain ⟨o, hpk⟩ := parse_ok_iff.1 hp
    have e9 : bareB l = p9 := by rw [← bare_of o, ← hpk]
    have e0 := kind0 hp
    dsimp only at e0
    dsimp only
    rw [if_neg (by simp)]
    by_cases h3 : p0 = 3
    · rw [if_pos h3]; exact rnat_fault hr hc hl hb src addr port hp h3
    · rw [if_neg h3]
      by_cases ha : rgB addr 4294967295 = false
      · rw [if_pos (Or.inl ha)]; exact rnat_range1 hr hc hl hb src addr port hp h3 ha
      · have ha' : rgB addr 4294967295 = true := by simpa using ha
        by_cases hq : rgB port 65535 = false
        · rw [if_pos (Or.inr hq)]; exact rnat_range2 hr hc hl hb src addr port hp h3 ha' hq
        · have hq' : rgB port 65535 = true := by simpa using hq
          rw [if_neg (by simp [ha', hq'])]
          have ne := fun a p hap => nat_eq hb o.h24 (by rw [← e0]; exact h3) p9 a p hap addr port
          cases src with
          | true =>
            have e := ne 4 16 (by omega)
            show Calls Try.prog 29 _ w (Told w (natL p9 l 4 16 addr port) 0)
            rw [← e]
            cases p9 with
            | true => exact rnat_ok_true_true hr hc hl hb addr port hp h3 ha' hq' e9
            | false => exact rnat_ok_true_false hr hc hl hb addr port hp h3 ha' hq' e9
          | false =>
            have e := ne 8 18 (by omega)
            show Calls Try.prog 29 _ w (Told w (natL p9 l 8 18 addr port) 0)
            rw [← e]
            cases p9 with
            | true => exact rnat_ok_false_true hr hc hl hb addr port hp h3 ha' hq' e9
            | false => exact rnat_ok_false_false hr hc hl hb addr port hp h3 ha' hq' e9
  · dsimp only
    rw [if_pos hx]
    exact rnat_err hr hc hl hb src addr port hp hx
end Go.Proofs.Ytbjhmifhmojaoaa.WB

namespace Go.Proofs.Ytbjhmifhmojaoaa.WB
set_option linter.unusedVariables false
set_option linter.unusedSimpArgs false
open Go.RowKit Go.Proofs.Ytbjhmifhmojaoaa.Hp Go.Proofs.Ytbjhmifhmojaoaa.SB Go.Proofs.YtbjhmifhmojaoaaW.PrintWords Go.Proofs.YtbjhmifhmojaoaaW.PrintLast Go.Proofs.YtbjhmifhmojaoaaW.PrintMore

theorem within_calls (a : Int) {n : Int} (h0 : 0 < n) (h1 : n ≤ 4611686018427387904) (w : World) :
    Calls Try.prog 22 #[.int .i64 a, .int .i64 n] w fun e w' => e = .returned (.int .i64 (a % n)) ∧ Drawn0 w w' := roundhouselaw3_within.calls a n _ w (within_f h0 h1)
/-- Block g holds just these numbers. -/
def Arr (w : World) (g : Nat) (L : List Int) : Prop := w.heap[g]? = some (.cells (L.map (Value.int .i64)).toArray 60 (0, 0))
theorem arr_cell {w : World} {g : Nat} {L : List Int} (h : Arr w g L) (i : Nat) (hi : i < L.length) : w.cell? ⟨g, i, none⟩ = some (.int .i64 (L.getD i 0)) := by
  unfold Arr at h
  simp [World.cell?, h, hi]
theorem arr_frozen {w : World} {g : Nat} {L : List Int} (h : Arr w g L) (i : Nat) : w.frozen? ⟨g, i, none⟩ = false := by
  unfold Arr at h
  simp [World.frozen?, h]
theorem arr_set {w : World} {g : Nat} {L : List Int} (h : Arr w g L) (i : Nat) (x : Int) : Arr (w.setCell ⟨g, i, none⟩ (.int .i64 x)) g (L.set i x) := by
  have := set_blk h i (.int .i64 x)
  unfold Arr
  rw [this]
  simp [List.map_set]
theorem arr_below {w w' : World} {b g : Nat} {L : List Int} (h : Arr w g L) (hb : Below b w w') (hg : g < b) : Arr w' g L := (hb.block g hg).trans h
/-- The numbers that Make takes, k of them laid. -/
def arrL (ns : List Int) (k : Nat) : List Int := (ns.take k).map (· % 1099511627776) ++ List.replicate (8 - k) 0
theorem arrL_len {ns : List Int} {k : Nat} (h : k ≤ 8) (h' : k ≤ ns.length) : (arrL ns k).length = 8 := by
  unfold arrL
  simp only [List.length_append, List.length_map, List.length_take, List.length_replicate]; omega
theorem arrL_set {ns : List Int} {k : Nat} (h : k < 8) (h' : k < ns.length) : (arrL ns k).set k (ns.getD k 0 % 1099511627776) = arrL ns (k + 1) := by
  unfold arrL
  have e : ((ns.take k).map (· % 1099511627776)).length = k := by simp only [List.length_map, List.length_take]; omega
  rw [List.set_append_right _ _ (by omega), e, Nat.sub_self, show 8 - k = (8 - (k + 1)) + 1 by omega, List.replicate_succ, List.set_cons_zero, List.take_succ_eq_append_getElem h', List.map_append, List.append_assoc]
  congr 1
  simp [List.getD_eq_getElem?_getD, h']
theorem arrL_b {ns : List Int} {k i : Nat} : 0 ≤ (arrL ns k).getD i 0 ∧ (arrL ns k).getD i 0 < 1099511627776 := by
  have h : ∀ x ∈ arrL ns k, 0 ≤ x ∧ x < 1099511627776 := by
    intro x hx
    unfold arrL at hx
    rcases List.mem_append.1 hx with h | h
    · obtain ⟨y, _, rfl⟩ := List.mem_map.1 h
      omega
    · have := List.eq_of_mem_replicate h; omega
  rw [List.getD_eq_getElem?_getD]
  by_cases hi : i < (arrL ns k).length
  · rw [List.getElem?_eq_getElem hi]; exact h _ (List.getElem_mem hi)
  · rw [List.getElem?_eq_none (by omega)]; simp
/-- The i-th of the numbers that Make takes. -/
def nthL (ns : List Int) (i : Nat) : Int := (arrL ns (min 8 ns.length)).getD i 0
/-- A packet's cells. -/
def pkC (p : Pk) (vo vd : Value) : Array Value := #[.int .i64 p.kind, .int .i64 p.life, .int .i64 p.piece, .int .i64 p.frm, .int .i64 p.dst, .int .i64 p.fp, .int .i64 p.tp, .int .i64 p.flags, .int .i64 p.label, .bool p.bare, .int .i64 p.code, vo, vd]
/-- One byte out of a number. -/
def shB (x : Int) (j : Nat) : Int := x / 2 ^ j % 256
/-- Data that is filled up. -/
def fillL (x : Int) : Nat → List Int → List Int
  | 0, d => d
  | k + 1, d => fillL x k (d ++ [shB x (d.length % 8)])
/-- Options out of a number. -/
def optsL (x : Int) : Nat → List Int
  | 0 => []
  | k + 1 => optsL x k ++ [shB x (k % 24)]
def lifeQ (n0 : Int) : Int := if n0 % 7 = 0 then n0 / 7 % 3 else 2 + n0 % 254
def pieceQ (n0 : Int) : Int := if n0 % 11 = 0 then n0 / 11 % 256 else 0
def makeQ (q n0 n1 n2 n3 n4 n5 n6 n7 : Int) (m : Nat) (l : List Int) : Pk :=
  if q = 2 then ⟨3, lifeQ n0, pieceQ n0, n1 % 4294967296, n2 % 4294967296, 0, 0, 0, 0, false, n3 % 256, [], fillL n4 (24 - m) (l.take m)⟩
  else if q = 1 then ⟨2, lifeQ n0, pieceQ n0, n1 % 4294967296, n2 % 4294967296, n3 % 65536, n4 % 65536, 0, n5 % 65536, n6 % 4 == 0, 0, [], l.take m⟩
  else ⟨1, lifeQ n0, pieceQ n0, n1 % 4294967296, n2 % 4294967296, n3 % 65536, n4 % 65536, n5 % 16, 0, false, 0, optsL n7 (n6 % 41).toNat, l.take m⟩
/-- The packet that Make makes. -/
def makeP (kind : Int) (ns l : List Int) : Pk := makeQ (kind % 3) (nthL ns 0) (nthL ns 1) (nthL ns 2) (nthL ns 3) (nthL ns 4) (nthL ns 5) (nthL ns 6) (nthL ns 7) (min l.length 200) l
/-- What Make has in memory: its result's block (empty yet), its numbers, its packet in block g. -/
structure MkSt (w0 w : World) (g : Nat) (N : List Int) (p : Pk) (vo vd : Value) : Prop where
  below : Below w0.heap.size w0 w
  zero : w.heap[w0.heap.size]? = some (.cells zero13 26 (0, 0))
  arr : Arr w (w0.heap.size + 1) N
  blk : w.heap[g]? = some (.cells (pkC p vo vd) 26 (0, 0))
  hg : w0.heap.size + 2 ≤ g
  ro : RB (w0.heap.size + 2) w vo p.opts
  rd : RB (w0.heap.size + 2) w vd p.data
  no : vo.ownBlock ≠ some g
  nd : vd.ownBlock ≠ some g
  ne : ∀ k, vo.ownBlock = some k → vd.ownBlock ≠ some k
variable {w0 w w1 : World} {g : Nat} {N : List Int} {p : Pk} {vo vd : Value}
theorem MkSt.drewN (h : MkSt w0 w g N p vo vd) (n : Nat) : MkSt w0 (w.drewN n) g N p vo vd :=
  ⟨bd h.below n, h.zero, h.arr, h.blk, h.hg, Kd.R_drewN h.ro n, Kd.R_drewN h.rd n, h.no, h.nd, h.ne⟩
theorem MkSt.drew (h : MkSt w0 w g N p vo vd) : MkSt w0 w.drew g N p vo vd :=
  ⟨below_drew1 h.below, h.zero, h.arr, h.blk, h.hg, Kd.R_drew h.ro, Kd.R_drew h.rd, h.no, h.nd, h.ne⟩
theorem MkSt.quiet (h : MkSt w0 w g N p vo vd) (hg : w.grownBy w1 none) : MkSt w0 w1 g N p vo vd := by
  have hb := below_of_none hg
  exact ⟨h.below.trans (hb.mono h.below.size), (hb.block _ (blk_lt h.zero)).trans h.zero, (hb.block _ (blk_lt h.arr)).trans h.arr, (hb.block _ (blk_lt h.blk)).trans h.blk, h.hg, Kd.R_below h.ro hb, Kd.R_below h.rd hb, h.no, h.nd, h.ne⟩
theorem RB_far {b : Nat} {l : List Int} {v u : Value} (h : RB b w v l) (hn : v.ownBlock ≠ some g) (i : Nat) : RB b (w.setCell ⟨g, i, none⟩ u) v l :=
  Kd.R_mono (Kd.R_far (Kd.R_tight rfl h) (p := ⟨g, i, none⟩) (fun k hk hkg => hn (by rw [← hk, hkg])) u) (fun _ _ => trivial)
/-- One field laid. -/
theorem MkSt.fld {p' : Pk} (h : MkSt w0 w g N p vo vd) (i : Nat) (v : Value) (e : (pkC p vo vd).setIfInBounds i v = pkC p' vo vd) (eo : p'.opts = p.opts) (ed : p'.data = p.data) : MkSt w0 (w.setCell ⟨g, i, none⟩ v) g N p' vo vd := by
  have hh := h.hg
  have f : ∀ k, k ≠ g → (w.setCell ⟨g, i, none⟩ v).heap[k]? = w.heap[k]? := fun k hk => Below.heap_setCell w ⟨g, i, none⟩ v k hk
  refine ⟨h.below.setCell (p := ⟨g, i, none⟩) (by show w0.heap.size ≤ g; omega) _, (f _ (by omega)).trans h.zero, (f _ (by omega)).trans h.arr, ?_, h.hg, by rw [eo]; exact RB_far h.ro h.no i, by rw [ed]; exact RB_far h.rd h.nd i, h.no, h.nd, h.ne⟩
  rw [set_blk h.blk, e]
/-- Data, or options, that have grown, laid. -/
theorem MkSt.data {v : Value} {l : List Int} (h : MkSt w0 w g N p vo vd) (hg : w.grownBy w1 vd.ownBlock) (hr : RB (w0.heap.size + 2) w1 v l) (hb : Below w0.heap.size w0 w1) (ha : v.ownBlock = vd.ownBlock ∨ ∃ b, v.ownBlock = some b ∧ w.heap.size ≤ b) :
    MkSt w0 (w1.setCell ⟨g, 12, none⟩ v) g N { p with data := l } vo v := by
  have hh := h.hg
  have f : ∀ k, k ≠ g → (w1.setCell ⟨g, 12, none⟩ v).heap[k]? = w1.heap[k]? := fun k hk => Below.heap_setCell w1 ⟨g, 12, none⟩ v k hk
  have b2 := Kd.R_base h.rd
  have lz := blk_lt h.zero
  have la := blk_lt h.arr
  have lg := blk_lt h.blk
  have e1 : some w0.heap.size ≠ vd.ownBlock := fun e => by have := b2 _ e.symm; omega
  have e2 : some (w0.heap.size + 1) ≠ vd.ownBlock := fun e => by have := b2 _ e.symm; omega
  have hv : v.ownBlock ≠ some g := by
    rcases ha with e | ⟨b, e, hb⟩
    · rw [e]; exact h.nd
    · rw [e]; intro x; injection x with x; omega
  have nn : ∀ k, vo.ownBlock = some k → v.ownBlock ≠ some k := by
    intro k hk
    rcases ha with e | ⟨b, e, hb⟩
    · rw [e]; exact h.ne k hk
    · rw [e]; intro x; injection x with x; have := Kd.R_lt h.ro k hk; omega
  have ro1 : RB (w0.heap.size + 2) w1 vo p.opts := Kd.R_mono (Kd.R_grown (Kd.R_tight rfl h.ro) hg (fun k hk => by rw [hk]; exact fun e => h.ne k hk.symm (by rw [← e, hk]))) (fun _ _ => trivial)
  refine ⟨hb.setCell (p := ⟨g, 12, none⟩) (by show w0.heap.size ≤ g; omega) _, (f _ (by omega)).trans ((hg.block _ lz e1).trans h.zero), (f _ (by omega)).trans ((hg.block _ la e2).trans h.arr), ?_, h.hg, RB_far ro1 h.no 12, RB_far hr hv 12, h.no, hv, nn⟩
  rw [set_blk ((hg.block _ lg (fun e => h.nd e.symm)).trans h.blk)]
  rfl
theorem MkSt.opts {v : Value} {l : List Int} (h : MkSt w0 w g N p vo vd) (hg : w.grownBy w1 vo.ownBlock) (hr : RB (w0.heap.size + 2) w1 v l) (hb : Below w0.heap.size w0 w1) (ha : v.ownBlock = vo.ownBlock ∨ ∃ b, v.ownBlock = some b ∧ w.heap.size ≤ b) :
    MkSt w0 (w1.setCell ⟨g, 11, none⟩ v) g N { p with opts := l } v vd := by
  have hh := h.hg
  have f : ∀ k, k ≠ g → (w1.setCell ⟨g, 11, none⟩ v).heap[k]? = w1.heap[k]? := fun k hk => Below.heap_setCell w1 ⟨g, 11, none⟩ v k hk
  have b2 := Kd.R_base h.ro
  have lz := blk_lt h.zero
  have la := blk_lt h.arr
  have lg := blk_lt h.blk
  have e1 : some w0.heap.size ≠ vo.ownBlock := fun e => by have := b2 _ e.symm; omega
  have e2 : some (w0.heap.size + 1) ≠ vo.ownBlock := fun e => by have := b2 _ e.symm; omega
  have hv : v.ownBlock ≠ some g := by
    rcases ha with e | ⟨b, e, hb⟩
    · rw [e]; exact h.no
    · rw [e]; intro x; injection x with x; omega
  have nn : ∀ k, v.ownBlock = some k → vd.ownBlock ≠ some k := by
    intro k hk hd
    rcases ha with e | ⟨b, e, hb⟩
    · rw [e] at hk; exact h.ne k hk hd
    · rw [e] at hk; injection hk with x; have := Kd.R_lt h.rd k hd; omega
  have rd1 : RB (w0.heap.size + 2) w1 vd p.data := Kd.R_mono (Kd.R_grown (Kd.R_tight rfl h.rd) hg (fun k hk => by rw [hk]; exact fun e => h.ne k (by rw [← e, hk]) hk.symm)) (fun _ _ => trivial)
  refine ⟨hb.setCell (p := ⟨g, 11, none⟩) (by show w0.heap.size ≤ g; omega) _, (f _ (by omega)).trans ((hg.block _ lz e1).trans h.zero), (f _ (by omega)).trans ((hg.block _ la e2).trans h.arr), ?_, h.hg, RB_far hr hv 11, RB_far rd1 h.nd 11, hv, h.nd, nn⟩
  rw [set_blk ((hg.block _ lg (fun e => h.no e.symm)).trans h.blk)]
  rfl
/-- The packet laid at first. -/
theorem MkSt.first {wc : World} {pz : Pk} {A : Option Addr} {m c : Nat} (hB0 : Below w0.heap.size w0 wc) (hz : wc.heap[w0.heap.size]? = some (.cells zero13 26 (0, 0))) (ha : Arr wc (w0.heap.size + 1) N) (hq : Below (w0.heap.size + 2) wc w) (hg : w0.heap.size + 2 ≤ g)
    (hb : w.heap[g]? = some (.cells zero13 26 (0, 0))) (hr : RB (w0.heap.size + 2) w (.slice A m c) pz.data) (hn : (Value.slice A m c).ownBlock ≠ some g) (ho : pz.opts = []) {v0 v1 v2 v3 v4 v5 v6 v7 v8 v9 v10 : Value}
    (e : pkC pz (.slice none 0 0) (.slice A m c) = #[v0, v1, v2, v3, v4, v5, v6, v7, v8, v9, v10, .slice none 0 0, .slice A m c]) : MkSt w0 (lay13 w g v0 v1 v2 v3 v4 v5 v6 v7 v8 v9 v10 (.slice none 0 0) (.slice A m c)) g N pz (.slice none 0 0) (.slice A m c) := by
  have f : ∀ k, k ≠ g → (lay13 w g v0 v1 v2 v3 v4 v5 v6 v7 v8 v9 v10 (.slice none 0 0) (.slice A m c)).heap[k]? = w.heap[k]? := fun k hk => lay13_far hk ..
  have b1 : Below w0.heap.size w0 w := hB0.trans (hq.mono (by omega))
  refine ⟨lay13_below b1 (by omega) .., (f _ (by omega)).trans ((hq.block _ (by omega)).trans hz), (f _ (by omega)).trans ((hq.block _ (by omega)).trans ha), ?_, hg, by rw [ho]; exact Kd.R_nil _ _ _ _ _, ?_, by simp [Value.ownBlock], hn, by intro k hk; simp [Value.ownBlock] at hk⟩
  · rw [lay13_blk hb rfl, ← e]
  · unfold lay13
    exact RB_far (RB_far (RB_far (RB_far (RB_far (RB_far (RB_far (RB_far (RB_far (RB_far (RB_far (RB_far (RB_far hr hn 0) hn 1) hn 2) hn 3) hn 4) hn 5) hn 6) hn 7) hn 8) hn 9) hn 10) hn 11) hn 12
theorem a8 {w : World} {g : Nat} {n0 n1 n2 n3 n4 n5 n6 n7 : Int} (h : Arr w g [n0, n1, n2, n3, n4, n5, n6, n7]) :
    w.cell? ⟨g, 0, none⟩ = some (.int .i64 n0) ∧ w.cell? ⟨g, 1, none⟩ = some (.int .i64 n1) ∧ w.cell? ⟨g, 2, none⟩ = some (.int .i64 n2) ∧ w.cell? ⟨g, 3, none⟩ = some (.int .i64 n3) ∧ w.cell? ⟨g, 4, none⟩ = some (.int .i64 n4) ∧ w.cell? ⟨g, 5, none⟩ = some (.int .i64 n5) ∧ w.cell? ⟨g, 6, none⟩ = some (.int .i64 n6) ∧ w.cell? ⟨g, 7, none⟩ = some (.int .i64 n7) :=
  ⟨arr_cell h 0 (by simp), arr_cell h 1 (by simp), arr_cell h 2 (by simp), arr_cell h 3 (by simp), arr_cell h 4 (by simp), arr_cell h 5 (by simp), arr_cell h 6 (by simp), arr_cell h 7 (by simp)⟩
theorem eight : ∀ {L : List Int}, L.length = 8 → ∃ n0 n1 n2 n3 n4 n5 n6 n7, L = [n0, n1, n2, n3, n4, n5, n6, n7]
  | [a, b, c, d, e, f, g, h], _ => ⟨a, b, c, d, e, f, g, h, rfl⟩
theorem ne_new {v : Option Nat} {g n : Nat} (hat : ∃ b, v = some b ∧ n ≤ b) (h : g < n) : v ≠ some g := by
  rintro rfl
  obtain ⟨b, e, hb⟩ := hat
  injection e with e
  omega
theorem ne_app {u v : Option Nat} {g n : Nat} (hne : v ≠ some g) (hat : u = v ∨ ∃ b, u = some b ∧ n ≤ b) (h : g < n) : u ≠ some g := by
  rcases hat with rfl | hat
  · exact hne
  · exact ne_new hat h
theorem results_c {fn : Func} {p : Tmp} {ty : TypeId} (h : fn.results = #[.cell p ty]) (tmps : Array Value) (P : Program) (w : World) :
    (results fn tmps).run P w = ((asAddr (tmps.getD p undef)).run P w).andThen fun a w₁ => (loadVar ty a).run P w₁ := by
  simp only [results, h]
  simp [Sem.run_bind, Result.andThen]
/-- What stands behind Make's call. -/
def Made (w : World) (p : Pk) (e : Ending) (w' : World) : Prop :=
  ∃ vo vd : Value, e = .returned (pkV p vo vd) ∧ RB w.heap.size w' vo p.opts ∧ RB w.heap.size w' vd p.data ∧ (∀ k, vo.ownBlock = some k → vd.ownBlock ≠ some k) ∧ Below w.heap.size w w'
theorem made_of {W : World} (h : MkSt w0 w g N p vo vd) (hg : g ≠ w0.heap.size) {v0 v1 v2 v3 v4 v5 v6 v7 v8 v9 v10 : Value} (e : pkV p vo vd = .agg #[v0, v1, v2, v3, v4, v5, v6, v7, v8, v9, v10, vo, vd]) (hW : W = lay13 w w0.heap.size v0 v1 v2 v3 v4 v5 v6 v7 v8 v9 v10 vo vd) :
    Made w0 p (.returned (.agg #[v0, v1, v2, v3, v4, v5, v6, v7, v8, v9, v10, vo, vd])) W := by
  subst hW
  have b1 := Kd.R_base h.ro
  have b2 := Kd.R_base h.rd
  refine ⟨vo, vd, by rw [e], RB_move h.ro (by omega) (fun k hk _ => lay13_far (by omega) ..), RB_move h.rd (by omega) (fun k hk _ => lay13_far (by omega) ..), h.ne, lay13_below h.below (Nat.le_refl _) ..⟩
end Go.Proofs.Ytbjhmifhmojaoaa.WB

namespace Go.Proofs.Ytbjhmifhmojaoaa.WB
set_option linter.unusedVariables false
set_option linter.unusedSimpArgs false
open Go.RowKit Go.Proofs.Ytbjhmifhmojaoaa.Hp Go.Proofs.Ytbjhmifhmojaoaa.SB Go.Proofs.YtbjhmifhmojaoaaW.PrintWords Go.Proofs.YtbjhmifhmojaoaaW.PrintLast Go.Proofs.YtbjhmifhmojaoaaW.PrintMore
set_option maxHeartbeats 8000000 in
set_option maxRecDepth 100000 in
theorem make_all {A B : Option Addr} {c d : Nat} {ns l : List Int} {w : World} {kind q : Int} (hk : kind % 3 = q) (hq : q = 0 ∨ q = 1 ∨ q = 2) (hn : Kd.C (Kd.int .i64) w A ns.length ns) (hnc : ns.length ≤ c) (hnl : ns.length ≤ 140737488351232) (hr : Kd.C (Kd.int .u8) w B l.length l) (hc : l.length ≤ d) (hl : l.length ≤ 140737488351232) (hb : Bytes l) :
    Calls Try.prog 16 #[.int .i64 kind, .slice A ns.length c, .slice B l.length d] w (Made w (makeP kind ns l)) := by
  have HQ3 := Aside0.mk hq
  have hq0 : 0 ≤ q := by omega
  have hq2 : q ≤ 2 := by omega
  clear hq
  have HN := Aside0.mk hn
  have HNC := Aside0.mk hnc
  have HNL := Aside0.mk hnl
  have HR := Aside0.mk hr
  have HC := Aside0.mk hc
  have HL := Aside0.mk hl
  have HY := Aside0.mk hb
  obtain ⟨m, hm⟩ : ∃ m, min l.length 200 = m := ⟨_, rfl⟩
  have HM0 := Aside0.mk hm
  have HML := Aside0.mk (show m ≤ l.length from by omega)
  have hmn : (if (200 : Int) < (l.length : Int) then (200 : Int) else (l.length : Int)) = (m : Int) := by split <;> omega
  obtain ⟨hcutm, hCm⟩ := cut_to (A := B) (c := d) (l := l) m (jz := (m : Int)) rfl HML.out rfl HC.out
  have HCt := Aside0.mk (fun W (h : Below w.heap.size w W) => hCm W (Kd.C_below HR.out h))
  have G3 := Aside0.mk (fun W => (by have := within_calls kind (n := 3) (by omega) (by omega) W; rw [hk] at this; exact this : Calls Try.prog 22 #[.int .i64 kind, .int .i64 3] W fun e w' => e = .returned (.int .i64 q) ∧ Drawn0 W w'))
  clear hn hnc hnl hr hc hl hb hm hCm
  have HKIND := Aside0.mk hk
  clear hk
  go_enter Try.func16, Try.ntmps16
  go_upto_region 2 with fail
  have n1 := new_blk w (.cells zero13 26)
  have n2 := new_blk (w.alloc (.cells zero13 26)) (.cells #[.int .i64 0, .int .i64 0, .int .i64 0, .int .i64 0, .int .i64 0, .int .i64 0, .int .i64 0, .int .i64 0] 60)
  have hsz : (w.alloc (.cells zero13 26)).heap.size = w.heap.size + 1 := by simp
  have n3 := (Below.heap_alloc (w.alloc (.cells zero13 26)) (.cells #[.int .i64 0, .int .i64 0, .int .i64 0, .int .i64 0, .int .i64 0, .int .i64 0, .int .i64 0, .int .i64 0] 60) w.heap.size (by rw [hsz]; omega)).trans n1
  rw [hsz] at n2
  have HB0 := Aside0.mk (((Below.refl w.heap.size w).alloc (Nat.le_refl _) (.cells zero13 26)).alloc (by simp) (.cells #[.int .i64 0, .int .i64 0, .int .i64 0, .int .i64 0, .int .i64 0, .int .i64 0, .int .i64 0, .int .i64 0] 60))
  change Code.wp _ _ _ _ ((w.alloc (.cells zero13 26)).alloc (.cells #[.int .i64 0, .int .i64 0, .int .i64 0, .int .i64 0, .int .i64 0, .int .i64 0, .int .i64 0, .int .i64 0] 60))
  generalize (w.alloc (.cells zero13 26)).alloc (.cells #[.int .i64 0, .int .i64 0, .int .i64 0, .int .i64 0, .int .i64 0, .int .i64 0, .int .i64 0, .int .i64 0] 60) = w0 at n2 n3 HB0 ⊢
  have HG6 := Aside0.mk n3
  have HG7 : Aside0 (Arr w0 (w.heap.size + 1) (arrL ns 0)) := Aside0.mk n2
  clear n1 n2 n3 hsz
  go_upto_block 0 with fail
  go_cut [] (fun wx => Aside (Arr wx (w.heap.size + 1) (arrL ns (min 8 ns.length))) ∧ Aside (wx.heap[w.heap.size]? = some (.cells zero13 26 (0, 0))) ∧ Aside (Below w.heap.size w wx))
  case first =>
    go_wp2
    go_loopg [8] (min 8 ns.length) (fun kq v8 w' => ∃ k : Nat, v8 = .int .i64 (k : Int) ∧ Aside (k + kq = min 8 ns.length) ∧ Arr w' (w.heap.size + 1) (arrL ns k) ∧ Aside (w'.heap[w.heap.size]? = some (.cells zero13 26 (0, 0))) ∧ Below w.heap.size w w')
    case atStart =>
      exact ⟨0, rfl, (by show _ = _; omega), HG7.out, HG6.out, HB0.out⟩
    case round =>
      obtain ⟨k, rfl, hk, ha, h6, hb⟩ := hrel
      have HK := Aside0.mk hk.out
      have HA := Aside0.mk ha
      have H6 := Aside0.mk h6.out
      have HB := Aside0.mk hb
      clear hk ha h6 hb HG6 HG7 HB0
      by_cases hlt : k < min 8 ns.length
      · have hk8 : (k : Int) < 8 := by omega
        have hkn : k < ns.length := by omega
        have d1 : decide ((k : Int) < 8) = true := decide_eq_true hk8
        have d2 : decide (k < ns.length) = true := decide_eq_true hkn
        have d3 : decide ((k : Int) < (ns.length : Int)) = true := decide_eq_true (by omega)
        have HLT := Aside0.mk hlt
        obtain ⟨ad, ead, hx⟩ := Kd.at_int (HN.out) (k : Int) (by omega) (by omega)
        rw [rd_nat, Int.toNat_natCast] at hx
        subst ead
        have hx2 := (HB.out.cell (World.block_lt_of_cell? w _ hx)).trans hx
        obtain ⟨x, hxx⟩ : ∃ x, ns.getD k 0 = x := ⟨_, rfl⟩
        rw [hxx] at hx2
        have HXX := Aside0.mk hxx
        have s1 := arr_frozen HA.out k
        have s2 := arr_cell HA.out k (by rw [arrL_len (by omega) (by omega)]; omega)
        have i2 : k < 8 := by omega
        clear hlt hx hxx
        have G22 := Aside0.mk (fun W => within_calls x (n := 1099511627776) (by omega) (by omega) W)
        have HGK := Aside0.mk (show 0 < gk from by have := HK.out; have := HLT.out; omega)
        go_wp2_with (first | (go_at_call 22; (with_reducible refine (G22.out _).mono ?_); rintro e w3 ⟨rfl, ⟨⟨nq, rfl⟩⟩⟩))
        go_roundg (gk - 1)
        case measure => have := HGK.out; omega
        case rel => exact ⟨k + 1, (by first | rfl | go_num), (by show _ = _; have := HGK.out; have := HK.out; omega), (by rw [← arrL_set (by omega) hkn, HXX.out]; exact arr_set (w := _) (by exact HA.out) k _), (by show _ = _; rw [Below.heap_setCell _ _ _ _ (by show w.heap.size ≠ w.heap.size + 1; omega)]; exact H6.out), (bd HB.out _).setCell (p := ⟨w.heap.size + 1, k, none⟩) (by show w.heap.size ≤ w.heap.size + 1; omega) _⟩
      · have HKK := Aside0.mk (show k = min 8 ns.length by have := HK.out; omega)
        by_cases h8 : k < 8
        · have d1 : decide ((k : Int) < 8) = true := decide_eq_true (by omega)
          have d2 : decide (k < ns.length) = false := decide_eq_false (by have := HKK.out; omega)
          have d3 : decide ((k : Int) < (ns.length : Int)) = false := decide_eq_false (by have := HKK.out; omega)
          clear hlt h8
          go_wp2_with fail
          go_meet
          exact ⟨(by rw [← HKK.out]; exact HA.out), H6.out, HB.out⟩
        · have d1 : decide ((k : Int) < 8) = false := decide_eq_false (by omega)
          clear hlt h8
          go_wp2_with fail
          go_meet
          exact ⟨(by rw [← HKK.out]; exact HA.out), H6.out, HB.out⟩
  case rest =>
    obtain ⟨ha, hz, hb⟩ := hcut
    obtain ⟨n0, n1, n2, n3, n4, n5, n6, n7, hN⟩ := eight (arrL_len (ns := ns) (k := min 8 ns.length) (by omega) (by omega))
    have bnd := fun i => arrL_b (ns := ns) (k := min 8 ns.length) (i := i)
    rw [hN] at bnd
    have HN8 := Aside0.mk hN
    have HA := Aside0.mk (show Arr wc (w.heap.size + 1) [n0, n1, n2, n3, n4, n5, n6, n7] from by rw [← hN]; exact ha.out)
    have HZ := Aside0.mk hz.out
    have HB := Aside0.mk hb.out
    have b0 : 0 ≤ n0 ∧ n0 < 1099511627776 := bnd 0
    have b1 : 0 ≤ n1 ∧ n1 < 1099511627776 := bnd 1
    have b2 : 0 ≤ n2 ∧ n2 < 1099511627776 := bnd 2
    have b3 : 0 ≤ n3 ∧ n3 < 1099511627776 := bnd 3
    have b4 : 0 ≤ n4 ∧ n4 < 1099511627776 := bnd 4
    have b5 : 0 ≤ n5 ∧ n5 < 1099511627776 := bnd 5
    have b6 : 0 ≤ n6 ∧ n6 < 1099511627776 := bnd 6
    have b7 : 0 ≤ n7 ∧ n7 < 1099511627776 := bnd 7
    clear hN ha hz hb bnd HG6 HG7 HB0
    have HSZ2 := Aside0.mk (show w.heap.size + 2 ≤ wc.heap.size from blk_lt HA.out)
    have HCA := Aside0.mk (fun W (h : Below (w.heap.size + 2) wc W) => a8 (arr_below HA.out h (by omega)))
    have HBQ := Aside0.mk (fun W (h : Below (w.heap.size + 2) wc W) => (HB.out.trans (h.mono (by omega)) : Below w.heap.size w W))
    go_upto_region 6 with fail
    have hm0 : n0.tmod 254 = n0 % 254 := Int.tmod_eq_emod_of_nonneg b0.1
    have hm1 : n1.tmod 4294967296 = n1 % 4294967296 := Int.tmod_eq_emod_of_nonneg b1.1
    have hm2 : n2.tmod 4294967296 = n2 % 4294967296 := Int.tmod_eq_emod_of_nonneg b2.1
    have hm3 : Go.IntKind.i64.wrap (2 + n0 % 254) = 2 + n0 % 254 := wrap_i64w _ (by omega) (by omega)
    have hm4 : Go.IntKind.i64.wrap (1 + q) = (1 + q) := wrap_i64w _ (by omega) (by omega)
    have HQc := Aside0.mk ((Below.refl (w.heap.size + 2) wc).drew)
    refine start_ (n := 23) (S := fun w' => w'.cell? ⟨w.heap.size + 1, 0, none⟩ = some (.int .i64 n0) ∧ w'.cell? ⟨w.heap.size + 1, 1, none⟩ = some (.int .i64 n1) ∧ w'.cell? ⟨w.heap.size + 1, 2, none⟩ = some (.int .i64 n2)) (ds := [22]) #[false, false, false, false, false, false, false, false, false, false, false, false, false, false, false, false, false, false, false, false, false, false, false] (by kernel_rfl) rfl rfl ⟨(HCA.out _ HQc.out).1, (HCA.out _ HQc.out).2.1, (HCA.out _ HQc.out).2.2.1⟩ (fun hHeld => ?_)
    refine pure_ (i := 0) (N := some 29) (v := ?_) (a' := ?_) #[true, false, false, false, false, false, false, false, false, false, false, false, false, false, false, false, false, false, false, false, false, false, false] rfl rfl (by kernel_rfl) (fun _ _ _ h => h) (Or.inl ⟨by rfl, ?_⟩) ?_ ?_
    rotate_left
    · intro w'
      go_simp
      with_reducible rfl
    rotate_left
    · simp only [Act.put, List.setIfInBounds_toArray, List.set_cons_zero, List.set_cons_succ, i64_w, i32_w]
      rfl
    refine pure_ (i := 3) (N := some 32) (v := ?_) (a' := ?_) #[true, false, false, true, false, false, false, false, false, false, false, false, false, false, false, false, false, false, false, false, false, false, false] rfl rfl (by kernel_rfl) (fun _ _ _ h => h) (Or.inl ⟨by rfl, ?_⟩) ?_ ?_
    rotate_left
    · intro w'
      go_simp
      with_reducible rfl
    rotate_left
    · simp only [Act.put, List.setIfInBounds_toArray, List.set_cons_zero, List.set_cons_succ, i64_w, i32_w]
      rfl
    refine pure_ (i := 7) (N := some 36) (v := ?_) (a' := ?_) #[true, false, false, true, false, false, false, true, false, false, false, false, false, false, false, false, false, false, false, false, false, false, false] rfl rfl (by kernel_rfl) (fun _ _ _ h => h) (Or.inl ⟨by rfl, ?_⟩) ?_ ?_
    rotate_left
    · intro w'
      go_simp
      with_reducible rfl
    rotate_left
    · simp only [Act.put, List.setIfInBounds_toArray, List.set_cons_zero, List.set_cons_succ, i64_w, i32_w]
      rfl
    refine pure_ (i := 10) (N := some 39) (v := ?_) (a' := ?_) #[true, false, false, true, false, false, false, true, false, false, true, false, false, false, false, false, false, false, false, false, false, false, false] rfl rfl (by kernel_rfl) (fun _ _ _ h => h) (Or.inl ⟨by rfl, ?_⟩) ?_ ?_
    rotate_left
    · intro w'
      go_simp
      with_reducible rfl
    rotate_left
    · simp only [Act.put, List.setIfInBounds_toArray, List.set_cons_zero, List.set_cons_succ, i64_w, i32_w]
      rfl
    refine pure_ (i := 14) (N := some 43) (v := ?_) (a' := ?_) #[true, false, false, true, false, false, false, true, false, false, true, false, false, false, true, false, false, false, false, false, false, false, false] rfl rfl (by kernel_rfl) (fun _ _ _ h => h) (Or.inl ⟨by rfl, ?_⟩) ?_ ?_
    rotate_left
    · intro w'
      go_simp
      with_reducible rfl
    rotate_left
    · simp only [Act.put, List.setIfInBounds_toArray, List.set_cons_zero, List.set_cons_succ, i64_w, i32_w]
      rfl
    refine pure_ (i := 15) (N := some 44) (v := ?_) (a' := ?_) #[true, false, false, true, false, false, false, true, false, false, true, false, false, false, true, true, false, false, false, false, false, false, false] rfl rfl (by kernel_rfl) (fun _ _ _ h => h) (Or.inl ⟨by rfl, ?_⟩) ?_ ?_
    rotate_left
    · intro w'
      go_simp
      with_reducible rfl
    rotate_left
    · simp only [Act.put, List.setIfInBounds_toArray, List.set_cons_zero, List.set_cons_succ, i64_w, i32_w]
      rfl
    refine pure_ (i := 16) (N := some 45) (v := ?_) (a' := ?_) #[true, false, false, true, false, false, false, true, false, false, true, false, false, false, true, true, true, false, false, false, false, false, false] rfl rfl (by kernel_rfl) (fun _ _ _ h => h) (Or.inl ⟨by rfl, ?_⟩) ?_ ?_
    rotate_left
    · intro w'
      go_simp
      with_reducible rfl
    rotate_left
    · simp only [Act.put, List.setIfInBounds_toArray, List.set_cons_zero, List.set_cons_succ, i64_w, i32_w]
      rfl
    refine pure_ (i := 17) (N := some 46) (v := ?_) (a' := ?_) #[true, false, false, true, false, false, false, true, false, false, true, false, false, false, true, true, true, true, false, false, false, false, false] rfl rfl (by kernel_rfl) (fun _ _ _ h => h) (Or.inl ⟨by rfl, ?_⟩) ?_ ?_
    rotate_left
    · intro w'
      go_simp
      with_reducible rfl
    rotate_left
    · simp only [Act.put, List.setIfInBounds_toArray, List.set_cons_zero, List.set_cons_succ, i64_w, i32_w]
      rfl
    refine pure_ (i := 18) (N := some 47) (v := ?_) (a' := ?_) #[true, false, false, true, false, false, false, true, false, false, true, false, false, false, true, true, true, true, true, false, false, false, false] rfl rfl (by kernel_rfl) (fun _ _ _ h => h) (Or.inl ⟨by rfl, ?_⟩) ?_ ?_
    rotate_left
    · intro w'
      go_simp
      with_reducible rfl
    rotate_left
    · simp only [Act.put, List.setIfInBounds_toArray, List.set_cons_zero, List.set_cons_succ, i64_w, i32_w]
      rfl
    refine take_ (i := 4) (N := some 33) (v := ?_) (a' := ?_) #[true, false, false, true, true, false, false, true, false, false, true, false, false, false, true, true, true, true, true, false, false, false, false] rfl rfl (by kernel_rfl) (fun _ _ _ h => h) (Or.inl ⟨by rfl, ?_⟩) hHeld ?_ ?_
    rotate_left
    · rintro w' ⟨s0, s1, s2⟩
      go_simp
      with_reducible rfl
    rotate_left
    · simp only [Act.put, List.setIfInBounds_toArray, List.set_cons_zero, List.set_cons_succ, i64_w, i32_w]
      rfl
    refine pure_ (i := 5) (N := some 34) (v := ?_) (a' := ?_) #[true, false, false, true, true, true, false, true, false, false, true, false, false, false, true, true, true, true, true, false, false, false, false] rfl rfl (by kernel_rfl) (fun _ _ _ h => h) (Or.inl ⟨by rfl, ?_⟩) ?_ ?_
    rotate_left
    · intro w'
      go_simp
      with_reducible rfl
    rotate_left
    · simp only [Act.put, List.setIfInBounds_toArray, List.set_cons_zero, List.set_cons_succ, i64_w, i32_w]
      rfl
    refine pure_ (i := 6) (N := some 35) (v := ?_) (a' := ?_) #[true, false, false, true, true, true, true, true, false, false, true, false, false, false, true, true, true, true, true, false, false, false, false] rfl rfl (by kernel_rfl) (fun _ _ _ h => h) (Or.inl ⟨by rfl, ?_⟩) ?_ ?_
    rotate_left
    · intro w'
      go_simp
      with_reducible rfl
    rotate_left
    · simp only [Act.put, List.setIfInBounds_toArray, List.set_cons_zero, List.set_cons_succ, i64_w, i32_w]
      rfl
    refine take_ (i := 8) (N := some 37) (v := ?_) (a' := ?_) #[true, false, false, true, true, true, true, true, true, false, true, false, false, false, true, true, true, true, true, false, false, false, false] rfl rfl (by kernel_rfl) (fun _ _ _ h => h) (Or.inl ⟨by rfl, ?_⟩) hHeld ?_ ?_
    rotate_left
    · rintro w' ⟨s0, s1, s2⟩
      go_simp
      with_reducible rfl
    rotate_left
    · simp only [Act.put, List.setIfInBounds_toArray, List.set_cons_zero, List.set_cons_succ, i64_w, i32_w]
      rfl
    refine pure_ (i := 9) (N := some 38) (v := ?_) (a' := ?_) #[true, false, false, true, true, true, true, true, true, true, true, false, false, false, true, true, true, true, true, false, false, false, false] rfl rfl (by kernel_rfl) (fun _ _ _ h => h) (Or.inl ⟨by rfl, ?_⟩) ?_ ?_
    rotate_left
    · intro w'
      go_simp
      with_reducible rfl
    rotate_left
    · simp only [Act.put, List.setIfInBounds_toArray, List.set_cons_zero, List.set_cons_succ, i64_w, i32_w]
      rfl
    refine take_ (i := 11) (N := some 40) (v := ?_) (a' := ?_) #[true, false, false, true, true, true, true, true, true, true, true, true, false, false, true, true, true, true, true, false, false, false, false] rfl rfl (by kernel_rfl) (fun _ _ _ h => h) (Or.inl ⟨by rfl, ?_⟩) hHeld ?_ ?_
    rotate_left
    · rintro w' ⟨s0, s1, s2⟩
      go_simp
      with_reducible rfl
    rotate_left
    · simp only [Act.put, List.setIfInBounds_toArray, List.set_cons_zero, List.set_cons_succ, i64_w, i32_w]
      rfl
    refine pure_ (i := 12) (N := some 41) (v := ?_) (a' := ?_) #[true, false, false, true, true, true, true, true, true, true, true, true, true, false, true, true, true, true, true, false, false, false, false] rfl rfl (by kernel_rfl) (fun _ _ _ h => h) (Or.inl ⟨by rfl, ?_⟩) ?_ ?_
    rotate_left
    · intro w'
      go_simp
      with_reducible rfl
    rotate_left
    · simp only [Act.put, List.setIfInBounds_toArray, List.set_cons_zero, List.set_cons_succ, i64_w, i32_w]
      rfl
    refine join_ (σ := Nat × Value × Option Addr × Nat) 1 #[true, true, true, true, true, true, true, true, true, true, true, true, true, true, true, true, true, true, true, true, true, true, false] (fun s => [(30, .int .i64 q), (31, .int .i64 (1 + q)), (42, s.2.1), (48, .slice s.2.2.1 m s.2.2.2), (49, .agg #[.int .i64 (1 + q), .int .i64 (2 + n0 % 254), .int .i64 0, .int .i64 (n1 % 4294967296), .int .i64 (n2 % 4294967296), .int .i64 0, .int .i64 0, .int .i64 0, .int .i64 0, .bool false, .int .i64 0, .slice none 0 0, .slice s.2.2.1 m s.2.2.2]), (9, .pointer (some ⟨s.1, 0, none⟩))]) (fun s w' => Below (w.heap.size + 2) wc w' ∧ RB (w.heap.size + 2) w' (Value.slice s.2.2.1 m s.2.2.2) (l.take m) ∧ w'.heap[s.1]? = some (.cells zero13 26 (0, 0)) ∧ w.heap.size + 2 ≤ s.1 ∧ (Value.slice s.2.2.1 m s.2.2.2).ownBlock ≠ some s.1) ?_ ?_
    rotate_left
    · intro hJ1_13_19_21
      refine join_ (σ := Value × Option Addr × Nat) 2 #[true, true, true, true, true, true, true, true, true, true, true, true, true, true, true, true, true, true, true, true, true, false, false] (fun s => [(30, .int .i64 q), (31, .int .i64 (1 + q)), (42, s.1), (48, .slice s.2.1 m s.2.2), (49, .agg #[.int .i64 (1 + q), .int .i64 (2 + n0 % 254), .int .i64 0, .int .i64 (n1 % 4294967296), .int .i64 (n2 % 4294967296), .int .i64 0, .int .i64 0, .int .i64 0, .int .i64 0, .bool false, .int .i64 0, .slice none 0 0, .slice s.2.1 m s.2.2])]) (fun s w' => Below (w.heap.size + 2) wc w' ∧ RB (w.heap.size + 2) w' (Value.slice s.2.1 m s.2.2) (l.take m)) ?_ ?_
      rotate_left
      · intro hJ1_13_19
        refine join_ (σ := Nat × Value) 3 #[true, true, true, true, true, true, true, true, true, true, true, true, true, true, true, true, true, true, true, false, false, true, false] (fun s => [(30, .int .i64 q), (31, .int .i64 (1 + q)), (42, s.2), (9, .pointer (some ⟨s.1, 0, none⟩))]) (fun s w' => Below (w.heap.size + 2) wc w' ∧ RB (w.heap.size + 2) w' (s.2 : Value) [] ∧ w'.heap[s.1]? = some (.cells zero13 26 (0, 0)) ∧ w.heap.size + 2 ≤ s.1 ∧ (s.2 : Value).ownBlock ≠ some s.1) ?_ ?_
        rotate_left
        · intro hJ1_13_21
          refine join_ (σ := Value) 4 #[true, true, true, true, true, true, true, true, true, true, true, true, true, true, true, true, true, true, true, false, false, false, false] (fun s => [(30, .int .i64 q), (31, .int .i64 (1 + q)), (42, s)]) (fun s w' => Below (w.heap.size + 2) wc w' ∧ RB (w.heap.size + 2) w' (s : Value) []) ?_ ?_
          rotate_left
          · intro hJ1_13
            refine join_ (σ := Nat) 4 #[true, true, true, true, true, true, true, true, true, true, true, true, true, false, true, true, true, true, true, false, false, true, false] (fun s => [(30, .int .i64 q), (31, .int .i64 (1 + q)), (9, .pointer (some ⟨s, 0, none⟩))]) (fun s w' => Below (w.heap.size + 2) wc w' ∧ w'.heap[s]? = some (.cells zero13 26 (0, 0)) ∧ w.heap.size + 2 ≤ s) ?_ ?_
            rotate_left
            · intro hJ1_21
              refine join_ (σ := Nat × Value) 5 #[true, false, false, true, true, true, true, true, true, true, true, true, true, true, true, true, true, true, true, false, false, true, false] (fun s => [(42, s.2), (9, .pointer (some ⟨s.1, 0, none⟩))]) (fun s w' => Below (w.heap.size + 2) wc w' ∧ RB (w.heap.size + 2) w' (s.2 : Value) [] ∧ w'.heap[s.1]? = some (.cells zero13 26 (0, 0)) ∧ w.heap.size + 2 ≤ s.1 ∧ (s.2 : Value).ownBlock ≠ some s.1) ?_ ?_
              rotate_left
              · intro hJ13_21
                refine join_ (σ := Unit) 5 #[true, true, true, true, true, true, true, true, true, true, true, true, true, false, true, true, true, true, true, false, false, false, false] (fun s => [(30, .int .i64 q), (31, .int .i64 (1 + q))]) (fun s w' => Below (w.heap.size + 2) wc w') ?_ ?_
                rotate_left
                · intro hJ1
                  refine join_ (σ := Value) 6 #[true, false, false, true, true, true, true, true, true, true, true, true, true, true, true, true, true, true, true, false, false, false, false] (fun s => [(42, s)]) (fun s w' => Below (w.heap.size + 2) wc w' ∧ RB (w.heap.size + 2) w' (s : Value) []) ?_ ?_
                  rotate_left
                  · intro hJ13
                    refine join_ (σ := Nat) 6 #[true, false, false, true, true, true, true, true, true, true, true, true, true, false, true, true, true, true, true, false, false, true, false] (fun s => [(9, .pointer (some ⟨s, 0, none⟩))]) (fun s w' => Below (w.heap.size + 2) wc w' ∧ w'.heap[s]? = some (.cells zero13 26 (0, 0)) ∧ w.heap.size + 2 ≤ s) ?_ ?_
                    rotate_left
                    · intro hJ21
                      refine three_ (i := 1) (j := 13) (k := 21) (Ni := some 30) (Nj := some 42) (Nk := some 9) #[true, true, false, true, true, true, true, true, true, true, true, true, true, false, true, true, true, true, true, false, false, false, false] #[true, false, false, true, true, true, true, true, true, true, true, true, true, true, true, true, true, true, true, false, false, false, false] #[true, false, false, true, true, true, true, true, true, true, true, true, true, false, true, true, true, true, true, false, false, true, false] rfl rfl rfl rfl rfl rfl (by kernel_rfl) (by decide) (by decide) (by decide) (fun K hK => ?_) (fun K hK => ?_) (fun K hK => ?_)
                      · skip
                        refine goes_ Try.func22 (by kernel_rfl) rfl #[.int .i64 kind, .int .i64 3] (by rfl) rfl rfl (by simp only [List.map_toArray, List.map_cons, List.map_nil]; rfl) ?_
                        with_reducible refine (G3.out _).mono ?_
                        rintro e w3 ⟨rfl, ⟨⟨nq, rfl⟩⟩⟩
                        refine ⟨_, rfl, ?_⟩
                        have n1_ := Aside0.mk (bd HQc.out nq)
                        clear HQc
                        have HQc := n1_
                        clear n1_
                        refine hK.out _ _ ⟨(HCA.out _ HQc.out).1, (HCA.out _ HQc.out).2.1, (HCA.out _ HQc.out).2.2.1⟩ (fun hHeld => ?_)
                        clear hK K
                        refine norm_ (a' := ?_) ?_ ?_
                        rotate_left
                        · show Act.put _ (some 30) _ = _
                          simp only [Act.put, List.setIfInBounds_toArray, List.set_cons_zero, List.set_cons_succ, i64_w, i32_w]
                          rfl
                        refine pure_ (i := 2) (N := some 31) (v := ?_) (a' := ?_) #[true, true, true, true, true, true, true, true, true, true, true, true, true, false, true, true, true, true, true, false, false, false, false] rfl rfl (by kernel_rfl) (fun _ _ _ h => h) (Or.inl ⟨by rfl, ?_⟩) ?_ ?_
                        rotate_left
                        · intro w'
                          go_simp
                          with_reducible rfl
                        rotate_left
                        · simp only [Act.put, List.setIfInBounds_toArray, List.set_cons_zero, List.set_cons_succ, i64_w, i32_w]
                          rfl
                        exact norm_ (by first | (simp only [putAll, Act.put, List.setIfInBounds_toArray, List.set_cons_zero, List.set_cons_succ]; done) | (simp only [putAll, Act.put, List.setIfInBounds_toArray, List.set_cons_zero, List.set_cons_succ]; rfl)) (hJ1 () _ HQc.out)
                      · skip
                        refine Kd.R_lit_step (Kd.int .u8) (w0 := wc) (w.heap.size + 2) 5 ?hg (N := 42) ?hd (xs := ([] : List Int)) (inner := []) (ok := fun _ => True) (okp := fun _ => True) ?hr ?hp (fun _ hk => hk) trivial HQc.out (Nat.le_trans HSZ2.out HQc.out.size) (by simp) ?_; (case hd => rfl); (case hg => rfl); (case hr => first | (go_simp; done) | (go_simp; rfl)); (case hp => exact (Reps.none _ _))
                        intro v w5 ho hb hg hat
                        clear HQc
                        have HQc := Aside0.mk hb
                        have HO := Aside0.mk ho
                        clear ho hb hg hat
                        refine hK.out _ _ ⟨(HCA.out _ HQc.out).1, (HCA.out _ HQc.out).2.1, (HCA.out _ HQc.out).2.2.1⟩ (fun hHeld => ?_)
                        clear hK K
                        refine norm_ (a' := ?_) ?_ ?_
                        rotate_left
                        · show Act.put _ (some 42) _ = _
                          simp only [Act.put, List.setIfInBounds_toArray, List.set_cons_zero, List.set_cons_succ, i64_w, i32_w]
                          rfl
                        exact norm_ (by first | (simp only [putAll, Act.put, List.setIfInBounds_toArray, List.set_cons_zero, List.set_cons_succ]; done) | (simp only [putAll, Act.put, List.setIfInBounds_toArray, List.set_cons_zero, List.set_cons_succ]; rfl)) (hJ13 (v) _ ⟨HQc.out, HO.out⟩)
                      · skip
                        refine value_ (w1 := ?_) (v := ?_) (by rfl) rfl ?_ ?_
                        rotate_left 2
                        · go_simp
                          constructor
                          · rfl
                          · rfl
                        have HGB := Aside0.mk (new_blk wc.drew (.cells zero13 26))
                        have HBG := Aside0.mk (Nat.le_trans HSZ2.out HQc.out.size)
                        have n1_ := Aside0.mk (HQc.out.alloc HBG.out (.cells zero13 26))
                        clear HQc
                        have HQc := n1_
                        clear n1_
                        refine hK.out _ _ ⟨(HCA.out _ HQc.out).1, (HCA.out _ HQc.out).2.1, (HCA.out _ HQc.out).2.2.1⟩ (fun hHeld => ?_)
                        clear hK K
                        refine norm_ (a' := ?_) ?_ ?_
                        rotate_left
                        · show Act.put _ (some 9) _ = _
                          simp only [Act.put, List.setIfInBounds_toArray, List.set_cons_zero, List.set_cons_succ, i64_w, i32_w]
                          rfl
                        exact norm_ (by first | (simp only [putAll, Act.put, List.setIfInBounds_toArray, List.set_cons_zero, List.set_cons_succ]; done) | (simp only [putAll, Act.put, List.setIfInBounds_toArray, List.set_cons_zero, List.set_cons_succ]; rfl)) (hJ21 (wc.drew.heap.size) _ ⟨HQc.out, HGB.out, HBG.out⟩)
                    · skip
                      rintro g w4 ⟨xHQc, xHGB, xHBG⟩
                      clear HQc
                      have HQc := Aside0.mk xHQc
                      have HGB := Aside0.mk xHGB
                      have HBG := Aside0.mk xHBG
                      clear xHQc xHGB xHBG
                      have hHeld : w4.cell? ⟨w.heap.size + 1, 0, none⟩ = some (.int .i64 n0) ∧ w4.cell? ⟨w.heap.size + 1, 1, none⟩ = some (.int .i64 n1) ∧ w4.cell? ⟨w.heap.size + 1, 2, none⟩ = some (.int .i64 n2) := ⟨(HCA.out _ HQc.out).1, (HCA.out _ HQc.out).2.1, (HCA.out _ HQc.out).2.2.1⟩
                      refine norm_ (a' := ?_) ?_ ?_
                      rotate_left
                      · simp only [putAll, Act.put, List.setIfInBounds_toArray, List.set_cons_zero, List.set_cons_succ]
                        rfl
                      refine two_ (i := 1) (j := 13) (Ni := some 30) (Nj := some 42) #[true, true, false, true, true, true, true, true, true, true, true, true, true, false, true, true, true, true, true, false, false, true, false] #[true, false, false, true, true, true, true, true, true, true, true, true, true, true, true, true, true, true, true, false, false, true, false] rfl rfl rfl rfl (by kernel_rfl) (by decide) (by decide) (fun K hK => ?_) (fun K hK => ?_)
                      · skip
                        refine goes_ Try.func22 (by kernel_rfl) rfl #[.int .i64 kind, .int .i64 3] (by rfl) rfl rfl (by simp only [List.map_toArray, List.map_cons, List.map_nil]; rfl) ?_
                        with_reducible refine (G3.out _).mono ?_
                        rintro e w3 ⟨rfl, ⟨⟨nq, rfl⟩⟩⟩
                        refine ⟨_, rfl, ?_⟩
                        have n1_ := Aside0.mk (bd HQc.out nq)
                        clear HQc
                        have HQc := n1_
                        clear n1_
                        refine hK.out _ _ ⟨(HCA.out _ HQc.out).1, (HCA.out _ HQc.out).2.1, (HCA.out _ HQc.out).2.2.1⟩ (fun hHeld => ?_)
                        clear hK K
                        refine norm_ (a' := ?_) ?_ ?_
                        rotate_left
                        · show Act.put _ (some 30) _ = _
                          simp only [Act.put, List.setIfInBounds_toArray, List.set_cons_zero, List.set_cons_succ, i64_w, i32_w]
                          rfl
                        refine pure_ (i := 2) (N := some 31) (v := ?_) (a' := ?_) #[true, true, true, true, true, true, true, true, true, true, true, true, true, false, true, true, true, true, true, false, false, true, false] rfl rfl (by kernel_rfl) (fun _ _ _ h => h) (Or.inl ⟨by rfl, ?_⟩) ?_ ?_
                        rotate_left
                        · intro w'
                          go_simp
                          with_reducible rfl
                        rotate_left
                        · simp only [Act.put, List.setIfInBounds_toArray, List.set_cons_zero, List.set_cons_succ, i64_w, i32_w]
                          rfl
                        exact norm_ (by first | (simp only [putAll, Act.put, List.setIfInBounds_toArray, List.set_cons_zero, List.set_cons_succ]; done) | (simp only [putAll, Act.put, List.setIfInBounds_toArray, List.set_cons_zero, List.set_cons_succ]; rfl)) (hJ1_21 (g) _ ⟨HQc.out, HGB.out, HBG.out⟩)
                      · skip
                        refine Kd.R_lit_step (Kd.int .u8) (w0 := wc) (w.heap.size + 2) 5 ?hg (N := 42) ?hd (xs := ([] : List Int)) (inner := []) (ok := fun _ => True) (okp := fun _ => True) ?hr ?hp (fun _ hk => hk) trivial HQc.out (Nat.le_trans HSZ2.out HQc.out.size) (by simp) ?_; (case hd => rfl); (case hg => rfl); (case hr => first | (go_simp; done) | (go_simp; rfl)); (case hp => exact (Reps.none _ _))
                        intro v w5 ho hb hg hat
                        clear HQc
                        have HQc := Aside0.mk hb
                        have HO := Aside0.mk ho
                        have HNE := Aside0.mk (ne_new hat (blk_lt HGB.out))
                        have n1_ := Aside0.mk (((below_of_none hg).block g (blk_lt HGB.out)).trans HGB.out)
                        clear HGB
                        have HGB := n1_
                        clear n1_
                        clear ho hb hg hat
                        refine hK.out _ _ ⟨(HCA.out _ HQc.out).1, (HCA.out _ HQc.out).2.1, (HCA.out _ HQc.out).2.2.1⟩ (fun hHeld => ?_)
                        clear hK K
                        refine norm_ (a' := ?_) ?_ ?_
                        rotate_left
                        · show Act.put _ (some 42) _ = _
                          simp only [Act.put, List.setIfInBounds_toArray, List.set_cons_zero, List.set_cons_succ, i64_w, i32_w]
                          rfl
                        exact norm_ (by first | (simp only [putAll, Act.put, List.setIfInBounds_toArray, List.set_cons_zero, List.set_cons_succ]; done) | (simp only [putAll, Act.put, List.setIfInBounds_toArray, List.set_cons_zero, List.set_cons_succ]; rfl)) (hJ13_21 (g, v) _ ⟨HQc.out, HO.out, HGB.out, HBG.out, HNE.out⟩)
                  · skip
                    rintro v w4 ⟨xHQc, xHO⟩
                    clear HQc
                    have HQc := Aside0.mk xHQc
                    have HO := Aside0.mk xHO
                    clear xHQc xHO
                    have hHeld : w4.cell? ⟨w.heap.size + 1, 0, none⟩ = some (.int .i64 n0) ∧ w4.cell? ⟨w.heap.size + 1, 1, none⟩ = some (.int .i64 n1) ∧ w4.cell? ⟨w.heap.size + 1, 2, none⟩ = some (.int .i64 n2) := ⟨(HCA.out _ HQc.out).1, (HCA.out _ HQc.out).2.1, (HCA.out _ HQc.out).2.2.1⟩
                    refine norm_ (a' := ?_) ?_ ?_
                    rotate_left
                    · simp only [putAll, Act.put, List.setIfInBounds_toArray, List.set_cons_zero, List.set_cons_succ]
                      rfl
                    refine two_ (i := 1) (j := 21) (Ni := some 30) (Nj := some 9) #[true, true, false, true, true, true, true, true, true, true, true, true, true, true, true, true, true, true, true, false, false, false, false] #[true, false, false, true, true, true, true, true, true, true, true, true, true, true, true, true, true, true, true, false, false, true, false] rfl rfl rfl rfl (by kernel_rfl) (by decide) (by decide) (fun K hK => ?_) (fun K hK => ?_)
                    · skip
                      refine goes_ Try.func22 (by kernel_rfl) rfl #[.int .i64 kind, .int .i64 3] (by rfl) rfl rfl (by simp only [List.map_toArray, List.map_cons, List.map_nil]; rfl) ?_
                      with_reducible refine (G3.out _).mono ?_
                      rintro e w3 ⟨rfl, ⟨⟨nq, rfl⟩⟩⟩
                      refine ⟨_, rfl, ?_⟩
                      have n1_ := Aside0.mk (bd HQc.out nq)
                      clear HQc
                      have HQc := n1_
                      clear n1_
                      have n1_ := Aside0.mk (Kd.R_drewN HO.out nq)
                      clear HO
                      have HO := n1_
                      clear n1_
                      refine hK.out _ _ ⟨(HCA.out _ HQc.out).1, (HCA.out _ HQc.out).2.1, (HCA.out _ HQc.out).2.2.1⟩ (fun hHeld => ?_)
                      clear hK K
                      refine norm_ (a' := ?_) ?_ ?_
                      rotate_left
                      · show Act.put _ (some 30) _ = _
                        simp only [Act.put, List.setIfInBounds_toArray, List.set_cons_zero, List.set_cons_succ, i64_w, i32_w]
                        rfl
                      refine pure_ (i := 2) (N := some 31) (v := ?_) (a' := ?_) #[true, true, true, true, true, true, true, true, true, true, true, true, true, true, true, true, true, true, true, false, false, false, false] rfl rfl (by kernel_rfl) (fun _ _ _ h => h) (Or.inl ⟨by rfl, ?_⟩) ?_ ?_
                      rotate_left
                      · intro w'
                        go_simp
                        with_reducible rfl
                      rotate_left
                      · simp only [Act.put, List.setIfInBounds_toArray, List.set_cons_zero, List.set_cons_succ, i64_w, i32_w]
                        rfl
                      exact norm_ (by first | (simp only [putAll, Act.put, List.setIfInBounds_toArray, List.set_cons_zero, List.set_cons_succ]; done) | (simp only [putAll, Act.put, List.setIfInBounds_toArray, List.set_cons_zero, List.set_cons_succ]; rfl)) (hJ1_13 (v) _ ⟨HQc.out, HO.out⟩)
                    · skip
                      refine value_ (w1 := ?_) (v := ?_) (by rfl) rfl ?_ ?_
                      rotate_left 2
                      · go_simp
                        constructor
                        · rfl
                        · rfl
                      have HGB := Aside0.mk (new_blk w4 (.cells zero13 26))
                      have HBG := Aside0.mk (Nat.le_trans HSZ2.out HQc.out.size)
                      have HNE := Aside0.mk (fun e => Nat.lt_irrefl _ (Kd.R_lt HO.out w4.heap.size e))
                      have n1_ := Aside0.mk (Kd.R_alloc HO.out (.cells zero13 26))
                      clear HO
                      have HO := n1_
                      clear n1_
                      have n1_ := Aside0.mk (HQc.out.alloc HBG.out (.cells zero13 26))
                      clear HQc
                      have HQc := n1_
                      clear n1_
                      refine hK.out _ _ ⟨(HCA.out _ HQc.out).1, (HCA.out _ HQc.out).2.1, (HCA.out _ HQc.out).2.2.1⟩ (fun hHeld => ?_)
                      clear hK K
                      refine norm_ (a' := ?_) ?_ ?_
                      rotate_left
                      · show Act.put _ (some 9) _ = _
                        simp only [Act.put, List.setIfInBounds_toArray, List.set_cons_zero, List.set_cons_succ, i64_w, i32_w]
                        rfl
                      exact norm_ (by first | (simp only [putAll, Act.put, List.setIfInBounds_toArray, List.set_cons_zero, List.set_cons_succ]; done) | (simp only [putAll, Act.put, List.setIfInBounds_toArray, List.set_cons_zero, List.set_cons_succ]; rfl)) (hJ13_21 (w4.heap.size, v) _ ⟨HQc.out, HO.out, HGB.out, HBG.out, HNE.out⟩)
                · skip
                  rintro _ w4 xHQc
                  clear HQc
                  have HQc := Aside0.mk xHQc
                  clear xHQc
                  have hHeld : w4.cell? ⟨w.heap.size + 1, 0, none⟩ = some (.int .i64 n0) ∧ w4.cell? ⟨w.heap.size + 1, 1, none⟩ = some (.int .i64 n1) ∧ w4.cell? ⟨w.heap.size + 1, 2, none⟩ = some (.int .i64 n2) := ⟨(HCA.out _ HQc.out).1, (HCA.out _ HQc.out).2.1, (HCA.out _ HQc.out).2.2.1⟩
                  refine norm_ (a' := ?_) ?_ ?_
                  rotate_left
                  · simp only [putAll, Act.put, List.setIfInBounds_toArray, List.set_cons_zero, List.set_cons_succ]
                    rfl
                  refine two_ (i := 13) (j := 21) (Ni := some 42) (Nj := some 9) #[true, true, true, true, true, true, true, true, true, true, true, true, true, true, true, true, true, true, true, false, false, false, false] #[true, true, true, true, true, true, true, true, true, true, true, true, true, false, true, true, true, true, true, false, false, true, false] rfl rfl rfl rfl (by kernel_rfl) (by decide) (by decide) (fun K hK => ?_) (fun K hK => ?_)
                  · skip
                    refine Kd.R_lit_step (Kd.int .u8) (w0 := wc) (w.heap.size + 2) 5 ?hg (N := 42) ?hd (xs := ([] : List Int)) (inner := []) (ok := fun _ => True) (okp := fun _ => True) ?hr ?hp (fun _ hk => hk) trivial HQc.out (Nat.le_trans HSZ2.out HQc.out.size) (by simp) ?_; (case hd => rfl); (case hg => rfl); (case hr => first | (go_simp; done) | (go_simp; rfl)); (case hp => exact (Reps.none _ _))
                    intro v w5 ho hb hg hat
                    clear HQc
                    have HQc := Aside0.mk hb
                    have HO := Aside0.mk ho
                    clear ho hb hg hat
                    refine hK.out _ _ ⟨(HCA.out _ HQc.out).1, (HCA.out _ HQc.out).2.1, (HCA.out _ HQc.out).2.2.1⟩ (fun hHeld => ?_)
                    clear hK K
                    refine norm_ (a' := ?_) ?_ ?_
                    rotate_left
                    · show Act.put _ (some 42) _ = _
                      simp only [Act.put, List.setIfInBounds_toArray, List.set_cons_zero, List.set_cons_succ, i64_w, i32_w]
                      rfl
                    exact norm_ (by first | (simp only [putAll, Act.put, List.setIfInBounds_toArray, List.set_cons_zero, List.set_cons_succ]; done) | (simp only [putAll, Act.put, List.setIfInBounds_toArray, List.set_cons_zero, List.set_cons_succ]; rfl)) (hJ1_13 (v) _ ⟨HQc.out, HO.out⟩)
                  · skip
                    refine value_ (w1 := ?_) (v := ?_) (by rfl) rfl ?_ ?_
                    rotate_left 2
                    · go_simp
                      constructor
                      · rfl
                      · rfl
                    have HGB := Aside0.mk (new_blk w4 (.cells zero13 26))
                    have HBG := Aside0.mk (Nat.le_trans HSZ2.out HQc.out.size)
                    have n1_ := Aside0.mk (HQc.out.alloc HBG.out (.cells zero13 26))
                    clear HQc
                    have HQc := n1_
                    clear n1_
                    refine hK.out _ _ ⟨(HCA.out _ HQc.out).1, (HCA.out _ HQc.out).2.1, (HCA.out _ HQc.out).2.2.1⟩ (fun hHeld => ?_)
                    clear hK K
                    refine norm_ (a' := ?_) ?_ ?_
                    rotate_left
                    · show Act.put _ (some 9) _ = _
                      simp only [Act.put, List.setIfInBounds_toArray, List.set_cons_zero, List.set_cons_succ, i64_w, i32_w]
                      rfl
                    exact norm_ (by first | (simp only [putAll, Act.put, List.setIfInBounds_toArray, List.set_cons_zero, List.set_cons_succ]; done) | (simp only [putAll, Act.put, List.setIfInBounds_toArray, List.set_cons_zero, List.set_cons_succ]; rfl)) (hJ1_21 (w4.heap.size) _ ⟨HQc.out, HGB.out, HBG.out⟩)
              · skip
                rintro ⟨g, v⟩ w4 ⟨xHQc, xHO, xHGB, xHBG, xHNE⟩
                clear HQc
                have HQc := Aside0.mk xHQc
                have HO := Aside0.mk xHO
                have HGB := Aside0.mk xHGB
                have HBG := Aside0.mk xHBG
                have HNE := Aside0.mk xHNE
                clear xHQc xHO xHGB xHBG xHNE
                dsimp only at HQc HO HGB HBG HNE
                have hHeld : w4.cell? ⟨w.heap.size + 1, 0, none⟩ = some (.int .i64 n0) ∧ w4.cell? ⟨w.heap.size + 1, 1, none⟩ = some (.int .i64 n1) ∧ w4.cell? ⟨w.heap.size + 1, 2, none⟩ = some (.int .i64 n2) := ⟨(HCA.out _ HQc.out).1, (HCA.out _ HQc.out).2.1, (HCA.out _ HQc.out).2.2.1⟩
                refine norm_ (a' := ?_) ?_ ?_
                rotate_left
                · simp only [putAll, Act.put, List.setIfInBounds_toArray, List.set_cons_zero, List.set_cons_succ]
                  rfl
                refine one_ (i := 1) (N := some 30) #[true, true, false, true, true, true, true, true, true, true, true, true, true, true, true, true, true, true, true, false, false, true, false] rfl rfl (by kernel_rfl) (by decide) (fun K hK => ?_)
                refine goes_ Try.func22 (by kernel_rfl) rfl #[.int .i64 kind, .int .i64 3] (by rfl) rfl rfl (by simp only [List.map_toArray, List.map_cons, List.map_nil]; rfl) ?_
                with_reducible refine (G3.out _).mono ?_
                rintro e w3 ⟨rfl, ⟨⟨nq, rfl⟩⟩⟩
                refine ⟨_, rfl, ?_⟩
                have n1_ := Aside0.mk (bd HQc.out nq)
                clear HQc
                have HQc := n1_
                clear n1_
                have n1_ := Aside0.mk (Kd.R_drewN HO.out nq)
                clear HO
                have HO := n1_
                clear n1_
                refine hK.out _ _ ⟨(HCA.out _ HQc.out).1, (HCA.out _ HQc.out).2.1, (HCA.out _ HQc.out).2.2.1⟩ (fun hHeld => ?_)
                clear hK K
                refine norm_ (a' := ?_) ?_ ?_
                rotate_left
                · show Act.put _ (some 30) _ = _
                  simp only [Act.put, List.setIfInBounds_toArray, List.set_cons_zero, List.set_cons_succ, i64_w, i32_w]
                  rfl
                refine pure_ (i := 2) (N := some 31) (v := ?_) (a' := ?_) #[true, true, true, true, true, true, true, true, true, true, true, true, true, true, true, true, true, true, true, false, false, true, false] rfl rfl (by kernel_rfl) (fun _ _ _ h => h) (Or.inl ⟨by rfl, ?_⟩) ?_ ?_
                rotate_left
                · intro w'
                  go_simp
                  with_reducible rfl
                rotate_left
                · simp only [Act.put, List.setIfInBounds_toArray, List.set_cons_zero, List.set_cons_succ, i64_w, i32_w]
                  rfl
                exact norm_ (by first | (simp only [putAll, Act.put, List.setIfInBounds_toArray, List.set_cons_zero, List.set_cons_succ]; done) | (simp only [putAll, Act.put, List.setIfInBounds_toArray, List.set_cons_zero, List.set_cons_succ]; rfl)) (hJ1_13_21 (g, v) _ ⟨HQc.out, HO.out, HGB.out, HBG.out, HNE.out⟩)
            · skip
              rintro g w4 ⟨xHQc, xHGB, xHBG⟩
              clear HQc
              have HQc := Aside0.mk xHQc
              have HGB := Aside0.mk xHGB
              have HBG := Aside0.mk xHBG
              clear xHQc xHGB xHBG
              have hHeld : w4.cell? ⟨w.heap.size + 1, 0, none⟩ = some (.int .i64 n0) ∧ w4.cell? ⟨w.heap.size + 1, 1, none⟩ = some (.int .i64 n1) ∧ w4.cell? ⟨w.heap.size + 1, 2, none⟩ = some (.int .i64 n2) := ⟨(HCA.out _ HQc.out).1, (HCA.out _ HQc.out).2.1, (HCA.out _ HQc.out).2.2.1⟩
              refine norm_ (a' := ?_) ?_ ?_
              rotate_left
              · simp only [putAll, Act.put, List.setIfInBounds_toArray, List.set_cons_zero, List.set_cons_succ]
                rfl
              refine one_ (i := 13) (N := some 42) #[true, true, true, true, true, true, true, true, true, true, true, true, true, true, true, true, true, true, true, false, false, true, false] rfl rfl (by kernel_rfl) (by decide) (fun K hK => ?_)
              refine Kd.R_lit_step (Kd.int .u8) (w0 := wc) (w.heap.size + 2) 5 ?hg (N := 42) ?hd (xs := ([] : List Int)) (inner := []) (ok := fun _ => True) (okp := fun _ => True) ?hr ?hp (fun _ hk => hk) trivial HQc.out (Nat.le_trans HSZ2.out HQc.out.size) (by simp) ?_; (case hd => rfl); (case hg => rfl); (case hr => first | (go_simp; done) | (go_simp; rfl)); (case hp => exact (Reps.none _ _))
              intro v w5 ho hb hg hat
              clear HQc
              have HQc := Aside0.mk hb
              have HO := Aside0.mk ho
              have HNE := Aside0.mk (ne_new hat (blk_lt HGB.out))
              have n1_ := Aside0.mk (((below_of_none hg).block g (blk_lt HGB.out)).trans HGB.out)
              clear HGB
              have HGB := n1_
              clear n1_
              clear ho hb hg hat
              refine hK.out _ _ ⟨(HCA.out _ HQc.out).1, (HCA.out _ HQc.out).2.1, (HCA.out _ HQc.out).2.2.1⟩ (fun hHeld => ?_)
              clear hK K
              refine norm_ (a' := ?_) ?_ ?_
              rotate_left
              · show Act.put _ (some 42) _ = _
                simp only [Act.put, List.setIfInBounds_toArray, List.set_cons_zero, List.set_cons_succ, i64_w, i32_w]
                rfl
              exact norm_ (by first | (simp only [putAll, Act.put, List.setIfInBounds_toArray, List.set_cons_zero, List.set_cons_succ]; done) | (simp only [putAll, Act.put, List.setIfInBounds_toArray, List.set_cons_zero, List.set_cons_succ]; rfl)) (hJ1_13_21 (g, v) _ ⟨HQc.out, HO.out, HGB.out, HBG.out, HNE.out⟩)
          · skip
            rintro v w4 ⟨xHQc, xHO⟩
            clear HQc
            have HQc := Aside0.mk xHQc
            have HO := Aside0.mk xHO
            clear xHQc xHO
            have hHeld : w4.cell? ⟨w.heap.size + 1, 0, none⟩ = some (.int .i64 n0) ∧ w4.cell? ⟨w.heap.size + 1, 1, none⟩ = some (.int .i64 n1) ∧ w4.cell? ⟨w.heap.size + 1, 2, none⟩ = some (.int .i64 n2) := ⟨(HCA.out _ HQc.out).1, (HCA.out _ HQc.out).2.1, (HCA.out _ HQc.out).2.2.1⟩
            refine norm_ (a' := ?_) ?_ ?_
            rotate_left
            · simp only [putAll, Act.put, List.setIfInBounds_toArray, List.set_cons_zero, List.set_cons_succ]
              rfl
            refine two_ (i := 19) (j := 21) (Ni := some 48) (Nj := some 9) #[true, true, true, true, true, true, true, true, true, true, true, true, true, true, true, true, true, true, true, true, false, false, false] #[true, true, true, true, true, true, true, true, true, true, true, true, true, true, true, true, true, true, true, false, false, true, false] rfl rfl rfl rfl (by kernel_rfl) (by decide) (by decide) (fun K hK => ?_) (fun K hK => ?_)
            · skip
              refine Kd.R_append_rows_step (Kd.int .u8) (w0 := wc) (w.heap.size + 2) (by rfl) (.tmp 42) (.tmp 47) 23 5 (.int .u8 0) 1 rfl Try.underlying23 info5 rfl (by decide) (by omega) v [] (l.take m) B m d (fun _ => True) (fun _ => False) rfl rfl HO.out (HCt.out _ (HBQ.out _ HQc.out)) (fun _ _ h => h) (fun _ h => h.elim) (fun _ _ => trivial) HQc.out (Nat.le_trans HSZ2.out HQc.out.size) (by have := HML.out; have := HL.out; simp only [List.length_nil]; omega) ?_
              intro v2 w6 ho hb hg hat
              rw [List.nil_append] at ho
              obtain ⟨A3, c3, ev⟩ := Kd.R_slice ho
              rw [show (l.take m).length = m from by rw [List.length_take]; exact Nat.min_eq_left HML.out] at ev
              subst ev
              clear HQc HO
              have HQc := Aside0.mk hb
              have HO := Aside0.mk ho
              clear ho hb hg hat
              refine hK.out _ _ ⟨(HCA.out _ HQc.out).1, (HCA.out _ HQc.out).2.1, (HCA.out _ HQc.out).2.2.1⟩ (fun hHeld => ?_)
              clear hK K
              refine norm_ (a' := ?_) ?_ ?_
              rotate_left
              · show Act.put _ (some 48) _ = _
                simp only [Act.put, List.setIfInBounds_toArray, List.set_cons_zero, List.set_cons_succ, i64_w, i32_w]
                rfl
              refine pure_ (i := 20) (N := some 49) (v := ?_) (a' := ?_) #[true, true, true, true, true, true, true, true, true, true, true, true, true, true, true, true, true, true, true, true, true, false, false] rfl rfl (by kernel_rfl) (fun _ _ _ h => h) (Or.inl ⟨by rfl, ?_⟩) ?_ ?_
              rotate_left
              · intro w'
                go_simp
                with_reducible rfl
              rotate_left
              · simp only [Act.put, List.setIfInBounds_toArray, List.set_cons_zero, List.set_cons_succ, i64_w, i32_w]
                rfl
              exact norm_ (by first | (simp only [putAll, Act.put, List.setIfInBounds_toArray, List.set_cons_zero, List.set_cons_succ]; done) | (simp only [putAll, Act.put, List.setIfInBounds_toArray, List.set_cons_zero, List.set_cons_succ]; rfl)) (hJ1_13_19 (v, A3, c3) _ ⟨HQc.out, HO.out⟩)
            · skip
              refine value_ (w1 := ?_) (v := ?_) (by rfl) rfl ?_ ?_
              rotate_left 2
              · go_simp
                constructor
                · rfl
                · rfl
              have HGB := Aside0.mk (new_blk w4 (.cells zero13 26))
              have HBG := Aside0.mk (Nat.le_trans HSZ2.out HQc.out.size)
              have HNE := Aside0.mk (fun e => Nat.lt_irrefl _ (Kd.R_lt HO.out w4.heap.size e))
              have n1_ := Aside0.mk (Kd.R_alloc HO.out (.cells zero13 26))
              clear HO
              have HO := n1_
              clear n1_
              have n1_ := Aside0.mk (HQc.out.alloc HBG.out (.cells zero13 26))
              clear HQc
              have HQc := n1_
              clear n1_
              refine hK.out _ _ ⟨(HCA.out _ HQc.out).1, (HCA.out _ HQc.out).2.1, (HCA.out _ HQc.out).2.2.1⟩ (fun hHeld => ?_)
              clear hK K
              refine norm_ (a' := ?_) ?_ ?_
              rotate_left
              · show Act.put _ (some 9) _ = _
                simp only [Act.put, List.setIfInBounds_toArray, List.set_cons_zero, List.set_cons_succ, i64_w, i32_w]
                rfl
              exact norm_ (by first | (simp only [putAll, Act.put, List.setIfInBounds_toArray, List.set_cons_zero, List.set_cons_succ]; done) | (simp only [putAll, Act.put, List.setIfInBounds_toArray, List.set_cons_zero, List.set_cons_succ]; rfl)) (hJ1_13_21 (w4.heap.size, v) _ ⟨HQc.out, HO.out, HGB.out, HBG.out, HNE.out⟩)
        · skip
          rintro ⟨g, v⟩ w4 ⟨xHQc, xHO, xHGB, xHBG, xHNE⟩
          clear HQc
          have HQc := Aside0.mk xHQc
          have HO := Aside0.mk xHO
          have HGB := Aside0.mk xHGB
          have HBG := Aside0.mk xHBG
          have HNE := Aside0.mk xHNE
          clear xHQc xHO xHGB xHBG xHNE
          dsimp only at HQc HO HGB HBG HNE
          have hHeld : w4.cell? ⟨w.heap.size + 1, 0, none⟩ = some (.int .i64 n0) ∧ w4.cell? ⟨w.heap.size + 1, 1, none⟩ = some (.int .i64 n1) ∧ w4.cell? ⟨w.heap.size + 1, 2, none⟩ = some (.int .i64 n2) := ⟨(HCA.out _ HQc.out).1, (HCA.out _ HQc.out).2.1, (HCA.out _ HQc.out).2.2.1⟩
          refine norm_ (a' := ?_) ?_ ?_
          rotate_left
          · simp only [putAll, Act.put, List.setIfInBounds_toArray, List.set_cons_zero, List.set_cons_succ]
            rfl
          refine one_ (i := 19) (N := some 48) #[true, true, true, true, true, true, true, true, true, true, true, true, true, true, true, true, true, true, true, true, false, true, false] rfl rfl (by kernel_rfl) (by decide) (fun K hK => ?_)
          refine Kd.R_append_rows_step (Kd.int .u8) (w0 := wc) (w.heap.size + 2) (by rfl) (.tmp 42) (.tmp 47) 23 5 (.int .u8 0) 1 rfl Try.underlying23 info5 rfl (by decide) (by omega) v [] (l.take m) B m d (fun _ => True) (fun _ => False) rfl rfl HO.out (HCt.out _ (HBQ.out _ HQc.out)) (fun _ _ h => h) (fun _ h => h.elim) (fun _ _ => trivial) HQc.out (Nat.le_trans HSZ2.out HQc.out.size) (by have := HML.out; have := HL.out; simp only [List.length_nil]; omega) ?_
          intro v2 w6 ho hb hg hat
          rw [List.nil_append] at ho
          obtain ⟨A3, c3, ev⟩ := Kd.R_slice ho
          rw [show (l.take m).length = m from by rw [List.length_take]; exact Nat.min_eq_left HML.out] at ev
          subst ev
          clear HQc HO
          have HQc := Aside0.mk hb
          have HO := Aside0.mk ho
          have n2_ := Aside0.mk (ne_app HNE.out hat (blk_lt HGB.out))
          have n1_ := Aside0.mk ((hg.block g (blk_lt HGB.out) (fun e => HNE.out e.symm)).trans HGB.out)
          clear HGB
          have HGB := n1_
          clear n1_
          clear HNE
          have HNE := n2_
          clear n2_
          clear ho hb hg hat
          refine hK.out _ _ ⟨(HCA.out _ HQc.out).1, (HCA.out _ HQc.out).2.1, (HCA.out _ HQc.out).2.2.1⟩ (fun hHeld => ?_)
          clear hK K
          refine norm_ (a' := ?_) ?_ ?_
          rotate_left
          · show Act.put _ (some 48) _ = _
            simp only [Act.put, List.setIfInBounds_toArray, List.set_cons_zero, List.set_cons_succ, i64_w, i32_w]
            rfl
          refine pure_ (i := 20) (N := some 49) (v := ?_) (a' := ?_) #[true, true, true, true, true, true, true, true, true, true, true, true, true, true, true, true, true, true, true, true, true, true, false] rfl rfl (by kernel_rfl) (fun _ _ _ h => h) (Or.inl ⟨by rfl, ?_⟩) ?_ ?_
          rotate_left
          · intro w'
            go_simp
            with_reducible rfl
          rotate_left
          · simp only [Act.put, List.setIfInBounds_toArray, List.set_cons_zero, List.set_cons_succ, i64_w, i32_w]
            rfl
          exact norm_ (by first | (simp only [putAll, Act.put, List.setIfInBounds_toArray, List.set_cons_zero, List.set_cons_succ]; done) | (simp only [putAll, Act.put, List.setIfInBounds_toArray, List.set_cons_zero, List.set_cons_succ]; rfl)) (hJ1_13_19_21 (g, v, A3, c3) _ ⟨HQc.out, HO.out, HGB.out, HBG.out, HNE.out⟩)
      · skip
        rintro ⟨v, A3, c3⟩ w4 ⟨xHQc, xHO⟩
        clear HQc
        have HQc := Aside0.mk xHQc
        have HO := Aside0.mk xHO
        clear xHQc xHO
        dsimp only at HQc HO
        have hHeld : w4.cell? ⟨w.heap.size + 1, 0, none⟩ = some (.int .i64 n0) ∧ w4.cell? ⟨w.heap.size + 1, 1, none⟩ = some (.int .i64 n1) ∧ w4.cell? ⟨w.heap.size + 1, 2, none⟩ = some (.int .i64 n2) := ⟨(HCA.out _ HQc.out).1, (HCA.out _ HQc.out).2.1, (HCA.out _ HQc.out).2.2.1⟩
        refine norm_ (a' := ?_) ?_ ?_
        rotate_left
        · simp only [putAll, Act.put, List.setIfInBounds_toArray, List.set_cons_zero, List.set_cons_succ]
          rfl
        refine one_ (i := 21) (N := some 9) #[true, true, true, true, true, true, true, true, true, true, true, true, true, true, true, true, true, true, true, true, true, true, false] rfl rfl (by kernel_rfl) (by decide) (fun K hK => ?_)
        refine value_ (w1 := ?_) (v := ?_) (by rfl) rfl ?_ ?_
        rotate_left 2
        · go_simp
          constructor
          · rfl
          · rfl
        have HGB := Aside0.mk (new_blk w4 (.cells zero13 26))
        have HBG := Aside0.mk (Nat.le_trans HSZ2.out HQc.out.size)
        have HNE := Aside0.mk (fun e => Nat.lt_irrefl _ (Kd.R_lt HO.out w4.heap.size e))
        have n1_ := Aside0.mk (Kd.R_alloc HO.out (.cells zero13 26))
        clear HO
        have HO := n1_
        clear n1_
        have n1_ := Aside0.mk (HQc.out.alloc HBG.out (.cells zero13 26))
        clear HQc
        have HQc := n1_
        clear n1_
        refine hK.out _ _ ⟨(HCA.out _ HQc.out).1, (HCA.out _ HQc.out).2.1, (HCA.out _ HQc.out).2.2.1⟩ (fun hHeld => ?_)
        clear hK K
        refine norm_ (a' := ?_) ?_ ?_
        rotate_left
        · show Act.put _ (some 9) _ = _
          simp only [Act.put, List.setIfInBounds_toArray, List.set_cons_zero, List.set_cons_succ, i64_w, i32_w]
          rfl
        exact norm_ (by first | (simp only [putAll, Act.put, List.setIfInBounds_toArray, List.set_cons_zero, List.set_cons_succ]; done) | (simp only [putAll, Act.put, List.setIfInBounds_toArray, List.set_cons_zero, List.set_cons_succ]; rfl)) (hJ1_13_19_21 (w4.heap.size, v, A3, c3) _ ⟨HQc.out, HO.out, HGB.out, HBG.out, HNE.out⟩)
    rintro ⟨g, v, A3, c3⟩ w4 ⟨xHQc, xHO, xHGB, xHBG, xHNE⟩
    clear HQc
    have HQc := Aside0.mk xHQc
    have HO := Aside0.mk xHO
    have HGB := Aside0.mk xHGB
    have HBG := Aside0.mk xHBG
    have HNE := Aside0.mk xHNE
    clear xHQc xHO xHGB xHBG xHNE
    dsimp only at HQc HO HGB HBG HNE
    have hHeld : w4.cell? ⟨w.heap.size + 1, 0, none⟩ = some (.int .i64 n0) ∧ w4.cell? ⟨w.heap.size + 1, 1, none⟩ = some (.int .i64 n1) ∧ w4.cell? ⟨w.heap.size + 1, 2, none⟩ = some (.int .i64 n2) := ⟨(HCA.out _ HQc.out).1, (HCA.out _ HQc.out).2.1, (HCA.out _ HQc.out).2.2.1⟩
    refine norm_ (a' := ?_) ?_ ?_
    rotate_left
    · simp only [putAll, Act.put, List.setIfInBounds_toArray, List.set_cons_zero, List.set_cons_succ]
      rfl
    refine last_ (i := 22) (N := none) #[true, true, true, true, true, true, true, true, true, true, true, true, true, true, true, true, true, true, true, true, true, true, true] rfl rfl (by kernel_rfl) (by decide) (fun K hK => ?_)
    obtain ⟨k0, k1, k2, k3, k4, k5, k6, k7, k8, k9, k10, k11, k12⟩ := c13 HGB.out
    obtain ⟨u0_, u1_, u2_, u3_, u4_, u5_, u6_, u7_, u8_, u9_, u10_, u11_, u12_⟩ := f13 HGB.out
    refine skip_ (w1 := ?_) (by rfl) rfl ?_ ?_
    rotate_left
    · go_simp
      rfl
    refine hK.out _ _ ?_
    clear hK K
    refine done_ (by kernel_rfl) ?_
    have HMS := Aside0.mk (MkSt.first (w0 := w) (wc := wc) (N := [n0, n1, n2, n3, n4, n5, n6, n7]) (pz := ⟨(1 + q), (2 + n0 % 254), 0, (n1 % 4294967296), (n2 % 4294967296), 0, 0, 0, 0, false, 0, [], (l.take m)⟩) HB.out HZ.out HA.out HQc.out HBG.out HGB.out HO.out HNE.out rfl rfl)
    generalize hW : World.setCell _ _ _ = w5
    have HM : Aside0 (MkSt w w5 g [n0, n1, n2, n3, n4, n5, n6, n7] ⟨(1 + q), (2 + n0 % 254), 0, (n1 % 4294967296), (n2 % 4294967296), 0, 0, 0, 0, false, 0, [], (l.take m)⟩ (.slice none 0 0) (.slice A3 m c3)) := Aside0.mk (by rw [← hW]; exact HMS.out)
    clear hW HMS k0 k1 k2 k3 k4 k5 k6 k7 k8 k9 k10 k11 k12 u0_ u1_ u2_ u3_ u4_ u5_ u6_ u7_ u8_ u9_ u10_ u11_ u12_ hHeld hm0 hm1 hm2 hm3 hm4 HQc HO HGB HBG HNE hcutm hmn
    obtain ⟨a0_, a1_, a2_, a3_, a4_, a5_, a6_, a7_⟩ := a8 HM.out.arr
    obtain ⟨k0, k1, k2, k3, k4, k5, k6, k7, k8, k9, k10, k11, k12⟩ := c13 HM.out.blk
    obtain ⟨u0_, u1_, u2_, u3_, u4_, u5_, u6_, u7_, u8_, u9_, u10_, u11_, u12_⟩ := f13 HM.out.blk
    go_upto_if 53 with fail
    go_cut [] (fun wx => ∃ lf : Int, Aside (lf = lifeQ n0) ∧ Aside (MkSt w wx g [n0, n1, n2, n3, n4, n5, n6, n7] ⟨(1 + q), lf, 0, (n1 % 4294967296), (n2 % 4294967296), 0, 0, 0, 0, false, 0, [], (l.take m)⟩ (.slice none 0 0) (.slice A3 m c3)))
    case first =>
      by_cases h7 : n0 % 7 = 0
      · have q7 : (n0 % 7 == 0) = true := beq_iff_eq.mpr h7
        have H7 := Aside0.mk h7
        clear h7
        go_wp2
        go_meet
        exact ⟨n0 / 7 % 3, (by show _ = _; unfold lifeQ; rw [if_pos H7.out]), HM.out.fld 1 _ rfl rfl rfl⟩
      · have q7 : (n0 % 7 == 0) = false := beq_eq_false_iff_ne.mpr h7
        have H7 := Aside0.mk h7
        clear h7
        go_wp2
        go_meet
        exact ⟨2 + n0 % 254, (by show _ = _; unfold lifeQ; rw [if_neg H7.out]), HM.out⟩
    case rest =>
    obtain ⟨lf, hlf, hm5⟩ := hcut
    have HLF := Aside0.mk hlf.out
    have HM2 := Aside0.mk hm5.out
    clear hlf hm5 HM
    clear a0_ a1_ a2_ a3_ a4_ a5_ a6_ a7_ k0 k1 k2 k3 k4 k5 k6 k7 k8 k9 k10 k11 k12 u0_ u1_ u2_ u3_ u4_ u5_ u6_ u7_ u8_ u9_ u10_ u11_ u12_
    obtain ⟨a0_, a1_, a2_, a3_, a4_, a5_, a6_, a7_⟩ := a8 HM2.out.arr
    obtain ⟨k0, k1, k2, k3, k4, k5, k6, k7, k8, k9, k10, k11, k12⟩ := c13 HM2.out.blk
    obtain ⟨u0_, u1_, u2_, u3_, u4_, u5_, u6_, u7_, u8_, u9_, u10_, u11_, u12_⟩ := f13 HM2.out.blk
    go_upto_if 62 with fail
    go_cut [] (fun wx => ∃ pc : Int, Aside (pc = pieceQ n0) ∧ Aside (MkSt w wx g [n0, n1, n2, n3, n4, n5, n6, n7] ⟨(1 + q), lf, pc, (n1 % 4294967296), (n2 % 4294967296), 0, 0, 0, 0, false, 0, [], (l.take m)⟩ (.slice none 0 0) (.slice A3 m c3)))
    case first =>
      by_cases h11 : n0 % 11 = 0
      · have q7 : (n0 % 11 == 0) = true := beq_iff_eq.mpr h11
        have H7 := Aside0.mk h11
        clear h11
        go_wp2
        go_meet
        exact ⟨n0 / 11 % 256, (by show _ = _; unfold pieceQ; rw [if_pos H7.out]), HM2.out.fld 2 _ rfl rfl rfl⟩
      · have q7 : (n0 % 11 == 0) = false := beq_eq_false_iff_ne.mpr h11
        have H7 := Aside0.mk h11
        clear h11
        go_wp2
        go_meet
        exact ⟨0, (by show _ = _; unfold pieceQ; rw [if_neg H7.out]), HM2.out⟩
    case rest =>
    obtain ⟨pc, hpc, hm5⟩ := hcut
    have HPC := Aside0.mk hpc.out
    have HM3 := Aside0.mk hm5.out
    clear hpc hm5 HM2
    clear a0_ a1_ a2_ a3_ a4_ a5_ a6_ a7_ k0 k1 k2 k3 k4 k5 k6 k7 k8 k9 k10 k11 k12 u0_ u1_ u2_ u3_ u4_ u5_ u6_ u7_ u8_ u9_ u10_ u11_ u12_
    obtain ⟨a0_, a1_, a2_, a3_, a4_, a5_, a6_, a7_⟩ := a8 HM3.out.arr
    obtain ⟨k0, k1, k2, k3, k4, k5, k6, k7, k8, k9, k10, k11, k12⟩ := c13 HM3.out.blk
    obtain ⟨u0_, u1_, u2_, u3_, u4_, u5_, u6_, u7_, u8_, u9_, u10_, u11_, u12_⟩ := f13 HM3.out.blk
    go_upto_block 2 with fail
    go_cut [69] (fun s69 wx => ∃ (vo vd : Value), Aside (MkSt w wx g [n0, n1, n2, n3, n4, n5, n6, n7] (makeP kind ns l) vo vd))
    case first =>
      clear hq0 hq2
      rcases HQ3.out with rfl | rfl | rfl
      · skip
        have HMQ := Aside0.mk (show makeP kind ns l = ⟨1, lf, pc, (n1 % 4294967296), (n2 % 4294967296), (n3 % 65536), (n4 % 65536), (n5 % 16), 0, false, 0, (optsL n7 (n6 % 41).toNat), (l.take m)⟩ from by
          unfold makeP nthL
          rw [HN8.out, HKIND.out, HM0.out, HLF.out, HPC.out]
          rfl)
        have HM3 := Aside0.mk (show MkSt w _ g [n0, n1, n2, n3, n4, n5, n6, n7] ⟨1, lf, pc, (n1 % 4294967296), (n2 % 4294967296), 0, 0, 0, 0, false, 0, [], (l.take m)⟩ (.slice none 0 0) (.slice A3 m c3) from HM3.out)
        clear a0_ a1_ a2_ a3_ a4_ a5_ a6_ a7_ k0 k1 k2 k3 k4 k5 k6 k7 k8 k9 k10 k11 k12 u0_ u1_ u2_ u3_ u4_ u5_ u6_ u7_ u8_ u9_ u10_ u11_ u12_
        obtain ⟨a0_, a1_, a2_, a3_, a4_, a5_, a6_, a7_⟩ := a8 HM3.out.arr
        obtain ⟨k0, k1, k2, k3, k4, k5, k6, k7, k8, k9, k10, k11, k12⟩ := c13 HM3.out.blk
        obtain ⟨u0_, u1_, u2_, u3_, u4_, u5_, u6_, u7_, u8_, u9_, u10_, u11_, u12_⟩ := f13 HM3.out.blk
        go_upto_region 12 with fail
        have hm3 : n3.tmod 65536 = n3 % 65536 := Int.tmod_eq_emod_of_nonneg b3.1
        have hm4 : n4.tmod 65536 = n4 % 65536 := Int.tmod_eq_emod_of_nonneg b4.1
        have hm5 : n5.tmod 16 = n5 % 16 := Int.tmod_eq_emod_of_nonneg b5.1
        refine start_ (n := 15) (S := fun w' => w'.cell? ⟨w.heap.size + 1, 3, none⟩ = some (.int .i64 n3) ∧ w'.cell? ⟨w.heap.size + 1, 4, none⟩ = some (.int .i64 n4) ∧ w'.cell? ⟨w.heap.size + 1, 5, none⟩ = some (.int .i64 n5)) (ds := []) #[false, false, false, false, false, false, false, false, false, false, false, false, false, false, false] (by kernel_rfl) rfl rfl ⟨a3_, a4_, a5_⟩ (fun hHeld => ?_)
        refine pure_ (i := 0) (N := some 70) (v := ?_) (a' := ?_) #[true, false, false, false, false, false, false, false, false, false, false, false, false, false, false] rfl rfl (by kernel_rfl) (fun _ _ _ h => h) (Or.inl ⟨by rfl, ?_⟩) ?_ ?_
        rotate_left
        · intro w'
          go_simp
          with_reducible rfl
        rotate_left
        · simp only [Act.put, List.setIfInBounds_toArray, List.set_cons_zero, List.set_cons_succ, i64_w, i32_w]
          rfl
        refine pure_ (i := 3) (N := some 73) (v := ?_) (a' := ?_) #[true, false, false, true, false, false, false, false, false, false, false, false, false, false, false] rfl rfl (by kernel_rfl) (fun _ _ _ h => h) (Or.inl ⟨by rfl, ?_⟩) ?_ ?_
        rotate_left
        · intro w'
          go_simp
          with_reducible rfl
        rotate_left
        · simp only [Act.put, List.setIfInBounds_toArray, List.set_cons_zero, List.set_cons_succ, i64_w, i32_w]
          rfl
        refine pure_ (i := 6) (N := some 76) (v := ?_) (a' := ?_) #[true, false, false, true, false, false, true, false, false, false, false, false, false, false, false] rfl rfl (by kernel_rfl) (fun _ _ _ h => h) (Or.inl ⟨by rfl, ?_⟩) ?_ ?_
        rotate_left
        · intro w'
          go_simp
          with_reducible rfl
        rotate_left
        · simp only [Act.put, List.setIfInBounds_toArray, List.set_cons_zero, List.set_cons_succ, i64_w, i32_w]
          rfl
        refine take_ (i := 1) (N := some 71) (v := ?_) (a' := ?_) #[true, true, false, true, false, false, true, false, false, false, false, false, false, false, false] rfl rfl (by kernel_rfl) (fun _ _ _ h => h) (Or.inl ⟨by rfl, ?_⟩) hHeld ?_ ?_
        rotate_left
        · rintro w' ⟨s0, s1, s2⟩
          go_simp
          with_reducible rfl
        rotate_left
        · simp only [Act.put, List.setIfInBounds_toArray, List.set_cons_zero, List.set_cons_succ, i64_w, i32_w]
          rfl
        refine pure_ (i := 2) (N := some 72) (v := ?_) (a' := ?_) #[true, true, true, true, false, false, true, false, false, false, false, false, false, false, false] rfl rfl (by kernel_rfl) (fun _ _ _ h => h) (Or.inl ⟨by rfl, ?_⟩) ?_ ?_
        rotate_left
        · intro w'
          go_simp
          with_reducible rfl
        rotate_left
        · simp only [Act.put, List.setIfInBounds_toArray, List.set_cons_zero, List.set_cons_succ, i64_w, i32_w]
          rfl
        refine pure_ (i := 9) (N := some 79) (v := ?_) (a' := ?_) #[true, true, true, true, false, false, true, false, false, true, false, false, false, false, false] rfl rfl (by kernel_rfl) (fun _ _ _ h => h) (Or.inl ⟨by rfl, ?_⟩) ?_ ?_
        rotate_left
        · intro w'
          go_simp
          with_reducible rfl
        rotate_left
        · simp only [Act.put, List.setIfInBounds_toArray, List.set_cons_zero, List.set_cons_succ, i64_w, i32_w]
          rfl
        refine take_ (i := 4) (N := some 74) (v := ?_) (a' := ?_) #[true, true, true, true, true, false, true, false, false, true, false, false, false, false, false] rfl rfl (by kernel_rfl) (fun _ _ _ h => h) (Or.inl ⟨by rfl, ?_⟩) hHeld ?_ ?_
        rotate_left
        · rintro w' ⟨s0, s1, s2⟩
          go_simp
          with_reducible rfl
        rotate_left
        · simp only [Act.put, List.setIfInBounds_toArray, List.set_cons_zero, List.set_cons_succ, i64_w, i32_w]
          rfl
        refine pure_ (i := 5) (N := some 75) (v := ?_) (a' := ?_) #[true, true, true, true, true, true, true, false, false, true, false, false, false, false, false] rfl rfl (by kernel_rfl) (fun _ _ _ h => h) (Or.inl ⟨by rfl, ?_⟩) ?_ ?_
        rotate_left
        · intro w'
          go_simp
          with_reducible rfl
        rotate_left
        · simp only [Act.put, List.setIfInBounds_toArray, List.set_cons_zero, List.set_cons_succ, i64_w, i32_w]
          rfl
        refine take_ (i := 7) (N := some 77) (v := ?_) (a' := ?_) #[true, true, true, true, true, true, true, true, false, true, false, false, false, false, false] rfl rfl (by kernel_rfl) (fun _ _ _ h => h) (Or.inl ⟨by rfl, ?_⟩) hHeld ?_ ?_
        rotate_left
        · rintro w' ⟨s0, s1, s2⟩
          go_simp
          with_reducible rfl
        rotate_left
        · simp only [Act.put, List.setIfInBounds_toArray, List.set_cons_zero, List.set_cons_succ, i64_w, i32_w]
          rfl
        refine pure_ (i := 8) (N := some 78) (v := ?_) (a' := ?_) #[true, true, true, true, true, true, true, true, true, true, false, false, false, false, false] rfl rfl (by kernel_rfl) (fun _ _ _ h => h) (Or.inl ⟨by rfl, ?_⟩) ?_ ?_
        rotate_left
        · intro w'
          go_simp
          with_reducible rfl
        rotate_left
        · simp only [Act.put, List.setIfInBounds_toArray, List.set_cons_zero, List.set_cons_succ, i64_w, i32_w]
          rfl
        refine one_ (i := 10) (N := none) #[true, true, true, true, true, true, true, true, true, true, true, false, false, false, false] rfl rfl (by kernel_rfl) (by decide) (fun K hK => ?_)
        refine skip_ (w1 := ?_) (by rfl) rfl ?_ ?_
        rotate_left
        · go_simp
          rfl
        refine hK.out _ _ ⟨(a8 (HM3.out.drew.fld (p' := ⟨1, lf, pc, (n1 % 4294967296), (n2 % 4294967296), (n3 % 65536), 0, 0, 0, false, 0, [], (l.take m)⟩) 5 _ rfl rfl rfl).arr).2.2.2.1, (a8 (HM3.out.drew.fld (p' := ⟨1, lf, pc, (n1 % 4294967296), (n2 % 4294967296), (n3 % 65536), 0, 0, 0, false, 0, [], (l.take m)⟩) 5 _ rfl rfl rfl).arr).2.2.2.2.1, (a8 (HM3.out.drew.fld (p' := ⟨1, lf, pc, (n1 % 4294967296), (n2 % 4294967296), (n3 % 65536), 0, 0, 0, false, 0, [], (l.take m)⟩) 5 _ rfl rfl rfl).arr).2.2.2.2.2.1⟩ (fun hHeld => ?_)
        clear hK K
        refine pure_ (i := 11) (N := some 80) (v := ?_) (a' := ?_) #[true, true, true, true, true, true, true, true, true, true, true, true, false, false, false] rfl rfl (by kernel_rfl) (fun _ _ _ h => h) (Or.inl ⟨by rfl, ?_⟩) ?_ ?_
        rotate_left
        · intro w'
          go_simp
          with_reducible rfl
        rotate_left
        · simp only [Act.put, List.setIfInBounds_toArray, List.set_cons_zero, List.set_cons_succ, i64_w, i32_w]
          rfl
        refine one_ (i := 12) (N := none) #[true, true, true, true, true, true, true, true, true, true, true, true, true, false, false] rfl rfl (by kernel_rfl) (by decide) (fun K hK => ?_)
        refine skip_ (w1 := ?_) (by rfl) rfl ?_ ?_
        rotate_left
        · go_simp
          rfl
        refine hK.out _ _ ⟨(a8 ((HM3.out.drew.fld (p' := ⟨1, lf, pc, (n1 % 4294967296), (n2 % 4294967296), (n3 % 65536), 0, 0, 0, false, 0, [], (l.take m)⟩) 5 _ rfl rfl rfl).fld (p' := ⟨1, lf, pc, (n1 % 4294967296), (n2 % 4294967296), (n3 % 65536), (n4 % 65536), 0, 0, false, 0, [], (l.take m)⟩) 6 _ rfl rfl rfl).arr).2.2.2.1, (a8 ((HM3.out.drew.fld (p' := ⟨1, lf, pc, (n1 % 4294967296), (n2 % 4294967296), (n3 % 65536), 0, 0, 0, false, 0, [], (l.take m)⟩) 5 _ rfl rfl rfl).fld (p' := ⟨1, lf, pc, (n1 % 4294967296), (n2 % 4294967296), (n3 % 65536), (n4 % 65536), 0, 0, false, 0, [], (l.take m)⟩) 6 _ rfl rfl rfl).arr).2.2.2.2.1, (a8 ((HM3.out.drew.fld (p' := ⟨1, lf, pc, (n1 % 4294967296), (n2 % 4294967296), (n3 % 65536), 0, 0, 0, false, 0, [], (l.take m)⟩) 5 _ rfl rfl rfl).fld (p' := ⟨1, lf, pc, (n1 % 4294967296), (n2 % 4294967296), (n3 % 65536), (n4 % 65536), 0, 0, false, 0, [], (l.take m)⟩) 6 _ rfl rfl rfl).arr).2.2.2.2.2.1⟩ (fun hHeld => ?_)
        clear hK K
        refine pure_ (i := 13) (N := some 81) (v := ?_) (a' := ?_) #[true, true, true, true, true, true, true, true, true, true, true, true, true, true, false] rfl rfl (by kernel_rfl) (fun _ _ _ h => h) (Or.inl ⟨by rfl, ?_⟩) ?_ ?_
        rotate_left
        · intro w'
          go_simp
          with_reducible rfl
        rotate_left
        · simp only [Act.put, List.setIfInBounds_toArray, List.set_cons_zero, List.set_cons_succ, i64_w, i32_w]
          rfl
        refine one_ (i := 14) (N := none) #[true, true, true, true, true, true, true, true, true, true, true, true, true, true, true] rfl rfl (by kernel_rfl) (by decide) (fun K hK => ?_)
        refine skip_ (w1 := ?_) (by rfl) rfl ?_ ?_
        rotate_left
        · go_simp
          rfl
        refine hK.out _ _ ⟨(a8 (((HM3.out.drew.fld (p' := ⟨1, lf, pc, (n1 % 4294967296), (n2 % 4294967296), (n3 % 65536), 0, 0, 0, false, 0, [], (l.take m)⟩) 5 _ rfl rfl rfl).fld (p' := ⟨1, lf, pc, (n1 % 4294967296), (n2 % 4294967296), (n3 % 65536), (n4 % 65536), 0, 0, false, 0, [], (l.take m)⟩) 6 _ rfl rfl rfl).fld (p' := ⟨1, lf, pc, (n1 % 4294967296), (n2 % 4294967296), (n3 % 65536), (n4 % 65536), (n5 % 16), 0, false, 0, [], (l.take m)⟩) 7 _ rfl rfl rfl).arr).2.2.2.1, (a8 (((HM3.out.drew.fld (p' := ⟨1, lf, pc, (n1 % 4294967296), (n2 % 4294967296), (n3 % 65536), 0, 0, 0, false, 0, [], (l.take m)⟩) 5 _ rfl rfl rfl).fld (p' := ⟨1, lf, pc, (n1 % 4294967296), (n2 % 4294967296), (n3 % 65536), (n4 % 65536), 0, 0, false, 0, [], (l.take m)⟩) 6 _ rfl rfl rfl).fld (p' := ⟨1, lf, pc, (n1 % 4294967296), (n2 % 4294967296), (n3 % 65536), (n4 % 65536), (n5 % 16), 0, false, 0, [], (l.take m)⟩) 7 _ rfl rfl rfl).arr).2.2.2.2.1, (a8 (((HM3.out.drew.fld (p' := ⟨1, lf, pc, (n1 % 4294967296), (n2 % 4294967296), (n3 % 65536), 0, 0, 0, false, 0, [], (l.take m)⟩) 5 _ rfl rfl rfl).fld (p' := ⟨1, lf, pc, (n1 % 4294967296), (n2 % 4294967296), (n3 % 65536), (n4 % 65536), 0, 0, false, 0, [], (l.take m)⟩) 6 _ rfl rfl rfl).fld (p' := ⟨1, lf, pc, (n1 % 4294967296), (n2 % 4294967296), (n3 % 65536), (n4 % 65536), (n5 % 16), 0, false, 0, [], (l.take m)⟩) 7 _ rfl rfl rfl).arr).2.2.2.2.2.1⟩ (fun hHeld => ?_)
        clear hK K
        refine done_ (by kernel_rfl) ?_
        generalize hW : World.setCell _ _ _ = w7
        have HM5 : Aside0 (MkSt w w7 g [n0, n1, n2, n3, n4, n5, n6, n7] ⟨1, lf, pc, (n1 % 4294967296), (n2 % 4294967296), (n3 % 65536), (n4 % 65536), (n5 % 16), 0, false, 0, [], (l.take m)⟩ (.slice none 0 0) (.slice A3 m c3)) := Aside0.mk (by rw [← hW]; exact (((HM3.out.fld (p' := ⟨1, lf, pc, (n1 % 4294967296), (n2 % 4294967296), (n3 % 65536), 0, 0, 0, false, 0, [], (l.take m)⟩) 5 _ rfl rfl rfl).fld (p' := ⟨1, lf, pc, (n1 % 4294967296), (n2 % 4294967296), (n3 % 65536), (n4 % 65536), 0, 0, false, 0, [], (l.take m)⟩) 6 _ rfl rfl rfl).fld (p' := ⟨1, lf, pc, (n1 % 4294967296), (n2 % 4294967296), (n3 % 65536), (n4 % 65536), (n5 % 16), 0, false, 0, [], (l.take m)⟩) 7 _ rfl rfl rfl))
        clear hW
        generalize hW : World.drew w7 = w8
        have HM4 : Aside0 (MkSt w w8 g [n0, n1, n2, n3, n4, n5, n6, n7] ⟨1, lf, pc, (n1 % 4294967296), (n2 % 4294967296), (n3 % 65536), (n4 % 65536), (n5 % 16), 0, false, 0, [], (l.take m)⟩ (.slice none 0 0) (.slice A3 m c3)) := Aside0.mk (by rw [← hW]; exact HM5.out.drew)
        clear hW HM5 hHeld hm3 hm4 hm5 a0_ a1_ a2_ a3_ a4_ a5_ a6_ a7_ k0 k1 k2 k3 k4 k5 k6 k7 k8 k9 k10 k11 k12 u0_ u1_ u2_ u3_ u4_ u5_ u6_ u7_ u8_ u9_ u10_ u11_ u12_
        obtain ⟨K, hK⟩ := Int.eq_ofNat_of_zero_le (show 0 ≤ n6 % 41 by omega)
        have HK40 := Aside0.mk (show K ≤ 40 by omega)
        have HKK := Aside0.mk (show (n6 % 41).toNat = K by omega)
        obtain ⟨a0_, a1_, a2_, a3_, a4_, a5_, a6_, a7_⟩ := a8 HM4.out.arr
        obtain ⟨k0, k1, k2, k3, k4, k5, k6, k7, k8, k9, k10, k11, k12⟩ := c13 HM4.out.blk
        obtain ⟨u0_, u1_, u2_, u3_, u4_, u5_, u6_, u7_, u8_, u9_, u10_, u11_, u12_⟩ := f13 HM4.out.blk
        go_wp2
        clear hK
        go_loopg [11] K (fun kq v11 w' => ∃ (i : Nat) (ot : List Int) (A4 : Option Addr) (c4 : Nat), v11 = .int .i64 (i : Int) ∧ Aside (i + kq = K) ∧ Aside (ot = optsL n7 i) ∧ Aside (ot.length = i) ∧ MkSt w w' g [n0, n1, n2, n3, n4, n5, n6, n7] ⟨1, lf, pc, (n1 % 4294967296), (n2 % 4294967296), (n3 % 65536), (n4 % 65536), (n5 % 16), 0, false, 0, ot, (l.take m)⟩ (.slice A4 ot.length c4) (.slice A3 m c3))
        case atStart =>
          exact ⟨0, [], none, 0, rfl, (by show _ = _; omega), (by show _ = _; rfl), (by show _ = _; rfl), HM4.out⟩
        case round =>
          obtain ⟨i, ot, A4, c4, rfl, hk, hr, h2, hm⟩ := hrel
          have HI := Aside0.mk hk.out
          have HOT := Aside0.mk hr.out
          have H2 := Aside0.mk h2.out
          have HMa := Aside0.mk hm
          clear hk hr h2 hm HM4 a0_ a1_ a2_ a3_ a4_ a5_ a6_ a7_ k0 k1 k2 k3 k4 k5 k6 k7 k8 k9 k10 k11 k12 u0_ u1_ u2_ u3_ u4_ u5_ u6_ u7_ u8_ u9_ u10_ u11_ u12_
          obtain ⟨a0_, a1_, a2_, a3_, a4_, a5_, a6_, a7_⟩ := a8 HMa.out.arr
          obtain ⟨k0, k1, k2, k3, k4, k5, k6, k7, k8, k9, k10, k11, k12⟩ := c13 HMa.out.blk
          obtain ⟨u0_, u1_, u2_, u3_, u4_, u5_, u6_, u7_, u8_, u9_, u10_, u11_, u12_⟩ := f13 HMa.out.blk
          by_cases hlt : i < K
          · have hdl : decide ((i : Int) < (K : Int)) = true := decide_eq_true (by omega)
            have hdn : decide (i < K) = true := decide_eq_true hlt
            have HGK := Aside0.mk (show 0 < gk from by have := HI.out; omega)
            have hi40 : (i : Int) ≤ 40 := by have := HK40.out; omega
            have HI40 := Aside0.mk hi40
            clear hlt
            go_wp2_with (first | ((with_reducible refine gate_dst (N := 99) rfl ?_); refine Kd.R_lit (Kd.int .u8) (w0 := wr) (w.heap.size + 2) 5 ?hg (N := 99) ?hd (xs := ([n7 / 2 ^ (i % 24) % 256] : List Int)) (inner := [.int .u8 (n7 / 2 ^ (i % 24) % 256)]) (ok := fun _ => True) (okp := fun _ => True) ?hr ?hp (fun _ hk => hk) trivial (Below.refl _ _) (blk_lt HMa.out.arr) (by simp) ?_; (case hd => rfl); (case hg => rfl); (case hr => first | (go_simp; done) | (go_simp; rfl)); (case hp => exact (Reps.one (show Kd.M (Kd.int .u8) _ _ _ (n7 / 2 ^ (i % 24) % 256) [.int .u8 (n7 / 2 ^ (i % 24) % 256)] from rfl) (Reps.none _ _))); intro v3 w3 ho hb hg hat; have HMb := Aside0.mk (HMa.out.quiet hg); have HLI := Aside0.mk ho; have HB3 := Aside0.mk hb; obtain ⟨Al, cl, el⟩ := Kd.R_slice HLI.out; subst el; have HLC := Aside0.mk (Kd.R_reads' HLI.out); clear ho hb hg hat) | ((with_reducible refine gate_builtin (b := .append) (xs := #[.tmp 91, .tmp 99]) rfl ?_); at_builtin; refine Kd.R_append_rows (Kd.int .u8) (w0 := wr) (w.heap.size + 2) rfl (.tmp 91) (.tmp 99) 23 5 (.int .u8 0) 1 rfl Try.underlying23 info5 rfl (by decide) (by omega) (.slice A4 ot.length c4) ot [n7 / 2 ^ (i % 24) % 256] Al 1 cl (fun _ => True) (fun _ => False) rfl rfl HMb.out.ro HLC.out.2.2 (fun _ _ h => h) (fun _ h => h.elim) (fun _ _ => trivial) HB3.out (Nat.le_trans (blk_lt HMa.out.arr) HB3.out.size) (by have := H2.out; have := HI40.out; omega) ?_; intro v4 w4 ho hb hg hat; have hz_ := (hg.block g (blk_lt HMb.out.blk) (fun e => HMb.out.no e.symm)).trans HMb.out.blk; clear a0_ a1_ a2_ a3_ a4_ a5_ a6_ a7_ k0 k1 k2 k3 k4 k5 k6 k7 k8 k9 k10 k11 k12 u0_ u1_ u2_ u3_ u4_ u5_ u6_ u7_ u8_ u9_ u10_ u11_ u12_; obtain ⟨k0, k1, k2, k3, k4, k5, k6, k7, k8, k9, k10, k11, k12⟩ := c13 hz_; obtain ⟨u0_, u1_, u2_, u3_, u4_, u5_, u6_, u7_, u8_, u9_, u10_, u11_, u12_⟩ := f13 hz_; have HMc := Aside0.mk (HMb.out.opts hg ho (HMa.out.below.trans (hb.mono (by omega))) hat); obtain ⟨A5, c5, e5⟩ := Kd.R_slice ho; subst e5; clear hz_ ho hb hg hat))
            have HLN := Aside0.mk (show (ot ++ [n7 / 2 ^ (i % 24) % 256]).length = i + 1 from by simp [H2.out])
            have HLM := Aside0.mk (show (ot ++ [n7 / 2 ^ (i % 24) % 256]).length = ot.length + 1 from by simp)
            go_roundg (gk - 1)
            case measure => have := HGK.out; omega
            case rel => exact ⟨i + 1, _, A5, c5, (by first | rfl | go_num), (by show _ = _; have := HI.out; have := HGK.out; omega), (by show _ = _; rw [HOT.out]; rfl), HLN.out, (by first | exact HMc.out | (have h_ := HMc.out; simp only [HLM.out] at h_ ⊢; exact h_))⟩
          · have hdl : decide ((i : Int) < (K : Int)) = false := decide_eq_false (by omega)
            have hdn : decide (i < K) = false := decide_eq_false hlt
            have HLR : Aside0 (ot = optsL n7 (n6 % 41).toNat) := Aside0.mk (by rw [HOT.out, HKK.out, show i = K by have := HI.out; omega])
            clear hlt
            go_wp2_with fail
            go_meet
            exact ⟨_, _, (by rw [HMQ.out, ← HLR.out]; exact HMa.out)⟩
      · skip
        have HMQ := Aside0.mk (show makeP kind ns l = ⟨2, lf, pc, (n1 % 4294967296), (n2 % 4294967296), (n3 % 65536), (n4 % 65536), 0, (n5 % 65536), (n6 % 4 == 0), 0, [], (l.take m)⟩ from by
          unfold makeP nthL
          rw [HN8.out, HKIND.out, HM0.out, HLF.out, HPC.out]
          rfl)
        have HM3 := Aside0.mk (show MkSt w _ g [n0, n1, n2, n3, n4, n5, n6, n7] ⟨2, lf, pc, (n1 % 4294967296), (n2 % 4294967296), 0, 0, 0, 0, false, 0, [], (l.take m)⟩ (.slice none 0 0) (.slice A3 m c3) from HM3.out)
        clear a0_ a1_ a2_ a3_ a4_ a5_ a6_ a7_ k0 k1 k2 k3 k4 k5 k6 k7 k8 k9 k10 k11 k12 u0_ u1_ u2_ u3_ u4_ u5_ u6_ u7_ u8_ u9_ u10_ u11_ u12_
        obtain ⟨a0_, a1_, a2_, a3_, a4_, a5_, a6_, a7_⟩ := a8 HM3.out.arr
        obtain ⟨k0, k1, k2, k3, k4, k5, k6, k7, k8, k9, k10, k11, k12⟩ := c13 HM3.out.blk
        obtain ⟨u0_, u1_, u2_, u3_, u4_, u5_, u6_, u7_, u8_, u9_, u10_, u11_, u12_⟩ := f13 HM3.out.blk
        go_upto_region 23 with fail
        have hm3 : n3.tmod 65536 = n3 % 65536 := Int.tmod_eq_emod_of_nonneg b3.1
        have hm4 : n4.tmod 65536 = n4 % 65536 := Int.tmod_eq_emod_of_nonneg b4.1
        have hm5 : n5.tmod 65536 = n5 % 65536 := Int.tmod_eq_emod_of_nonneg b5.1
        have hm6 : n6.tmod 4 = n6 % 4 := Int.tmod_eq_emod_of_nonneg b6.1
        refine start_ (n := 21) (S := fun w' => w'.cell? ⟨w.heap.size + 1, 3, none⟩ = some (.int .i64 n3) ∧ w'.cell? ⟨w.heap.size + 1, 4, none⟩ = some (.int .i64 n4) ∧ w'.cell? ⟨w.heap.size + 1, 5, none⟩ = some (.int .i64 n5) ∧ w'.cell? ⟨w.heap.size + 1, 6, none⟩ = some (.int .i64 n6)) (ds := []) #[false, false, false, false, false, false, false, false, false, false, false, false, false, false, false, false, false, false, false, false, false] (by kernel_rfl) rfl rfl ⟨a3_, a4_, a5_, a6_⟩ (fun hHeld => ?_)
        refine pure_ (i := 0) (N := some 128) (v := ?_) (a' := ?_) #[true, false, false, false, false, false, false, false, false, false, false, false, false, false, false, false, false, false, false, false, false] rfl rfl (by kernel_rfl) (fun _ _ _ h => h) (Or.inl ⟨by rfl, ?_⟩) ?_ ?_
        rotate_left
        · intro w'
          go_simp
          with_reducible rfl
        rotate_left
        · simp only [Act.put, List.setIfInBounds_toArray, List.set_cons_zero, List.set_cons_succ, i64_w, i32_w]
          rfl
        refine pure_ (i := 3) (N := some 131) (v := ?_) (a' := ?_) #[true, false, false, true, false, false, false, false, false, false, false, false, false, false, false, false, false, false, false, false, false] rfl rfl (by kernel_rfl) (fun _ _ _ h => h) (Or.inl ⟨by rfl, ?_⟩) ?_ ?_
        rotate_left
        · intro w'
          go_simp
          with_reducible rfl
        rotate_left
        · simp only [Act.put, List.setIfInBounds_toArray, List.set_cons_zero, List.set_cons_succ, i64_w, i32_w]
          rfl
        refine pure_ (i := 6) (N := some 134) (v := ?_) (a' := ?_) #[true, false, false, true, false, false, true, false, false, false, false, false, false, false, false, false, false, false, false, false, false] rfl rfl (by kernel_rfl) (fun _ _ _ h => h) (Or.inl ⟨by rfl, ?_⟩) ?_ ?_
        rotate_left
        · intro w'
          go_simp
          with_reducible rfl
        rotate_left
        · simp only [Act.put, List.setIfInBounds_toArray, List.set_cons_zero, List.set_cons_succ, i64_w, i32_w]
          rfl
        refine pure_ (i := 9) (N := some 137) (v := ?_) (a' := ?_) #[true, false, false, true, false, false, true, false, false, true, false, false, false, false, false, false, false, false, false, false, false] rfl rfl (by kernel_rfl) (fun _ _ _ h => h) (Or.inl ⟨by rfl, ?_⟩) ?_ ?_
        rotate_left
        · intro w'
          go_simp
          with_reducible rfl
        rotate_left
        · simp only [Act.put, List.setIfInBounds_toArray, List.set_cons_zero, List.set_cons_succ, i64_w, i32_w]
          rfl
        refine take_ (i := 1) (N := some 129) (v := ?_) (a' := ?_) #[true, true, false, true, false, false, true, false, false, true, false, false, false, false, false, false, false, false, false, false, false] rfl rfl (by kernel_rfl) (fun _ _ _ h => h) (Or.inl ⟨by rfl, ?_⟩) hHeld ?_ ?_
        rotate_left
        · rintro w' ⟨s0, s1, s2, s3⟩
          go_simp
          with_reducible rfl
        rotate_left
        · simp only [Act.put, List.setIfInBounds_toArray, List.set_cons_zero, List.set_cons_succ, i64_w, i32_w]
          rfl
        refine pure_ (i := 2) (N := some 130) (v := ?_) (a' := ?_) #[true, true, true, true, false, false, true, false, false, true, false, false, false, false, false, false, false, false, false, false, false] rfl rfl (by kernel_rfl) (fun _ _ _ h => h) (Or.inl ⟨by rfl, ?_⟩) ?_ ?_
        rotate_left
        · intro w'
          go_simp
          with_reducible rfl
        rotate_left
        · simp only [Act.put, List.setIfInBounds_toArray, List.set_cons_zero, List.set_cons_succ, i64_w, i32_w]
          rfl
        refine pure_ (i := 13) (N := some 141) (v := ?_) (a' := ?_) #[true, true, true, true, false, false, true, false, false, true, false, false, false, true, false, false, false, false, false, false, false] rfl rfl (by kernel_rfl) (fun _ _ _ h => h) (Or.inl ⟨by rfl, ?_⟩) ?_ ?_
        rotate_left
        · intro w'
          go_simp
          with_reducible rfl
        rotate_left
        · simp only [Act.put, List.setIfInBounds_toArray, List.set_cons_zero, List.set_cons_succ, i64_w, i32_w]
          rfl
        refine take_ (i := 4) (N := some 132) (v := ?_) (a' := ?_) #[true, true, true, true, true, false, true, false, false, true, false, false, false, true, false, false, false, false, false, false, false] rfl rfl (by kernel_rfl) (fun _ _ _ h => h) (Or.inl ⟨by rfl, ?_⟩) hHeld ?_ ?_
        rotate_left
        · rintro w' ⟨s0, s1, s2, s3⟩
          go_simp
          with_reducible rfl
        rotate_left
        · simp only [Act.put, List.setIfInBounds_toArray, List.set_cons_zero, List.set_cons_succ, i64_w, i32_w]
          rfl
        refine pure_ (i := 5) (N := some 133) (v := ?_) (a' := ?_) #[true, true, true, true, true, true, true, false, false, true, false, false, false, true, false, false, false, false, false, false, false] rfl rfl (by kernel_rfl) (fun _ _ _ h => h) (Or.inl ⟨by rfl, ?_⟩) ?_ ?_
        rotate_left
        · intro w'
          go_simp
          with_reducible rfl
        rotate_left
        · simp only [Act.put, List.setIfInBounds_toArray, List.set_cons_zero, List.set_cons_succ, i64_w, i32_w]
          rfl
        refine take_ (i := 7) (N := some 135) (v := ?_) (a' := ?_) #[true, true, true, true, true, true, true, true, false, true, false, false, false, true, false, false, false, false, false, false, false] rfl rfl (by kernel_rfl) (fun _ _ _ h => h) (Or.inl ⟨by rfl, ?_⟩) hHeld ?_ ?_
        rotate_left
        · rintro w' ⟨s0, s1, s2, s3⟩
          go_simp
          with_reducible rfl
        rotate_left
        · simp only [Act.put, List.setIfInBounds_toArray, List.set_cons_zero, List.set_cons_succ, i64_w, i32_w]
          rfl
        refine pure_ (i := 8) (N := some 136) (v := ?_) (a' := ?_) #[true, true, true, true, true, true, true, true, true, true, false, false, false, true, false, false, false, false, false, false, false] rfl rfl (by kernel_rfl) (fun _ _ _ h => h) (Or.inl ⟨by rfl, ?_⟩) ?_ ?_
        rotate_left
        · intro w'
          go_simp
          with_reducible rfl
        rotate_left
        · simp only [Act.put, List.setIfInBounds_toArray, List.set_cons_zero, List.set_cons_succ, i64_w, i32_w]
          rfl
        refine take_ (i := 10) (N := some 138) (v := ?_) (a' := ?_) #[true, true, true, true, true, true, true, true, true, true, true, false, false, true, false, false, false, false, false, false, false] rfl rfl (by kernel_rfl) (fun _ _ _ h => h) (Or.inl ⟨by rfl, ?_⟩) hHeld ?_ ?_
        rotate_left
        · rintro w' ⟨s0, s1, s2, s3⟩
          go_simp
          with_reducible rfl
        rotate_left
        · simp only [Act.put, List.setIfInBounds_toArray, List.set_cons_zero, List.set_cons_succ, i64_w, i32_w]
          rfl
        refine pure_ (i := 11) (N := some 139) (v := ?_) (a' := ?_) #[true, true, true, true, true, true, true, true, true, true, true, true, false, true, false, false, false, false, false, false, false] rfl rfl (by kernel_rfl) (fun _ _ _ h => h) (Or.inl ⟨by rfl, ?_⟩) ?_ ?_
        rotate_left
        · intro w'
          go_simp
          with_reducible rfl
        rotate_left
        · simp only [Act.put, List.setIfInBounds_toArray, List.set_cons_zero, List.set_cons_succ, i64_w, i32_w]
          rfl
        refine pure_ (i := 12) (N := some 140) (v := ?_) (a' := ?_) #[true, true, true, true, true, true, true, true, true, true, true, true, true, true, false, false, false, false, false, false, false] rfl rfl (by kernel_rfl) (fun _ _ _ h => h) (Or.inl ⟨by rfl, ?_⟩) ?_ ?_
        rotate_left
        · intro w'
          go_simp
          with_reducible rfl
        rotate_left
        · simp only [Act.put, List.setIfInBounds_toArray, List.set_cons_zero, List.set_cons_succ, i64_w, i32_w]
          rfl
        refine one_ (i := 14) (N := none) #[true, true, true, true, true, true, true, true, true, true, true, true, true, true, true, false, false, false, false, false, false] rfl rfl (by kernel_rfl) (by decide) (fun K hK => ?_)
        refine skip_ (w1 := ?_) (by rfl) rfl ?_ ?_
        rotate_left
        · go_simp
          rfl
        refine hK.out _ _ ⟨(a8 (HM3.out.drew.fld (p' := ⟨2, lf, pc, (n1 % 4294967296), (n2 % 4294967296), (n3 % 65536), 0, 0, 0, false, 0, [], (l.take m)⟩) 5 _ rfl rfl rfl).arr).2.2.2.1, (a8 (HM3.out.drew.fld (p' := ⟨2, lf, pc, (n1 % 4294967296), (n2 % 4294967296), (n3 % 65536), 0, 0, 0, false, 0, [], (l.take m)⟩) 5 _ rfl rfl rfl).arr).2.2.2.2.1, (a8 (HM3.out.drew.fld (p' := ⟨2, lf, pc, (n1 % 4294967296), (n2 % 4294967296), (n3 % 65536), 0, 0, 0, false, 0, [], (l.take m)⟩) 5 _ rfl rfl rfl).arr).2.2.2.2.2.1, (a8 (HM3.out.drew.fld (p' := ⟨2, lf, pc, (n1 % 4294967296), (n2 % 4294967296), (n3 % 65536), 0, 0, 0, false, 0, [], (l.take m)⟩) 5 _ rfl rfl rfl).arr).2.2.2.2.2.2.1⟩ (fun hHeld => ?_)
        clear hK K
        refine pure_ (i := 15) (N := some 142) (v := ?_) (a' := ?_) #[true, true, true, true, true, true, true, true, true, true, true, true, true, true, true, true, false, false, false, false, false] rfl rfl (by kernel_rfl) (fun _ _ _ h => h) (Or.inl ⟨by rfl, ?_⟩) ?_ ?_
        rotate_left
        · intro w'
          go_simp
          with_reducible rfl
        rotate_left
        · simp only [Act.put, List.setIfInBounds_toArray, List.set_cons_zero, List.set_cons_succ, i64_w, i32_w]
          rfl
        refine one_ (i := 16) (N := none) #[true, true, true, true, true, true, true, true, true, true, true, true, true, true, true, true, true, false, false, false, false] rfl rfl (by kernel_rfl) (by decide) (fun K hK => ?_)
        refine skip_ (w1 := ?_) (by rfl) rfl ?_ ?_
        rotate_left
        · go_simp
          rfl
        refine hK.out _ _ ⟨(a8 ((HM3.out.drew.fld (p' := ⟨2, lf, pc, (n1 % 4294967296), (n2 % 4294967296), (n3 % 65536), 0, 0, 0, false, 0, [], (l.take m)⟩) 5 _ rfl rfl rfl).fld (p' := ⟨2, lf, pc, (n1 % 4294967296), (n2 % 4294967296), (n3 % 65536), (n4 % 65536), 0, 0, false, 0, [], (l.take m)⟩) 6 _ rfl rfl rfl).arr).2.2.2.1, (a8 ((HM3.out.drew.fld (p' := ⟨2, lf, pc, (n1 % 4294967296), (n2 % 4294967296), (n3 % 65536), 0, 0, 0, false, 0, [], (l.take m)⟩) 5 _ rfl rfl rfl).fld (p' := ⟨2, lf, pc, (n1 % 4294967296), (n2 % 4294967296), (n3 % 65536), (n4 % 65536), 0, 0, false, 0, [], (l.take m)⟩) 6 _ rfl rfl rfl).arr).2.2.2.2.1, (a8 ((HM3.out.drew.fld (p' := ⟨2, lf, pc, (n1 % 4294967296), (n2 % 4294967296), (n3 % 65536), 0, 0, 0, false, 0, [], (l.take m)⟩) 5 _ rfl rfl rfl).fld (p' := ⟨2, lf, pc, (n1 % 4294967296), (n2 % 4294967296), (n3 % 65536), (n4 % 65536), 0, 0, false, 0, [], (l.take m)⟩) 6 _ rfl rfl rfl).arr).2.2.2.2.2.1, (a8 ((HM3.out.drew.fld (p' := ⟨2, lf, pc, (n1 % 4294967296), (n2 % 4294967296), (n3 % 65536), 0, 0, 0, false, 0, [], (l.take m)⟩) 5 _ rfl rfl rfl).fld (p' := ⟨2, lf, pc, (n1 % 4294967296), (n2 % 4294967296), (n3 % 65536), (n4 % 65536), 0, 0, false, 0, [], (l.take m)⟩) 6 _ rfl rfl rfl).arr).2.2.2.2.2.2.1⟩ (fun hHeld => ?_)
        clear hK K
        refine pure_ (i := 17) (N := some 143) (v := ?_) (a' := ?_) #[true, true, true, true, true, true, true, true, true, true, true, true, true, true, true, true, true, true, false, false, false] rfl rfl (by kernel_rfl) (fun _ _ _ h => h) (Or.inl ⟨by rfl, ?_⟩) ?_ ?_
        rotate_left
        · intro w'
          go_simp
          with_reducible rfl
        rotate_left
        · simp only [Act.put, List.setIfInBounds_toArray, List.set_cons_zero, List.set_cons_succ, i64_w, i32_w]
          rfl
        refine one_ (i := 18) (N := none) #[true, true, true, true, true, true, true, true, true, true, true, true, true, true, true, true, true, true, true, false, false] rfl rfl (by kernel_rfl) (by decide) (fun K hK => ?_)
        refine skip_ (w1 := ?_) (by rfl) rfl ?_ ?_
        rotate_left
        · go_simp
          rfl
        refine hK.out _ _ ⟨(a8 (((HM3.out.drew.fld (p' := ⟨2, lf, pc, (n1 % 4294967296), (n2 % 4294967296), (n3 % 65536), 0, 0, 0, false, 0, [], (l.take m)⟩) 5 _ rfl rfl rfl).fld (p' := ⟨2, lf, pc, (n1 % 4294967296), (n2 % 4294967296), (n3 % 65536), (n4 % 65536), 0, 0, false, 0, [], (l.take m)⟩) 6 _ rfl rfl rfl).fld (p' := ⟨2, lf, pc, (n1 % 4294967296), (n2 % 4294967296), (n3 % 65536), (n4 % 65536), 0, (n5 % 65536), false, 0, [], (l.take m)⟩) 8 _ rfl rfl rfl).arr).2.2.2.1, (a8 (((HM3.out.drew.fld (p' := ⟨2, lf, pc, (n1 % 4294967296), (n2 % 4294967296), (n3 % 65536), 0, 0, 0, false, 0, [], (l.take m)⟩) 5 _ rfl rfl rfl).fld (p' := ⟨2, lf, pc, (n1 % 4294967296), (n2 % 4294967296), (n3 % 65536), (n4 % 65536), 0, 0, false, 0, [], (l.take m)⟩) 6 _ rfl rfl rfl).fld (p' := ⟨2, lf, pc, (n1 % 4294967296), (n2 % 4294967296), (n3 % 65536), (n4 % 65536), 0, (n5 % 65536), false, 0, [], (l.take m)⟩) 8 _ rfl rfl rfl).arr).2.2.2.2.1, (a8 (((HM3.out.drew.fld (p' := ⟨2, lf, pc, (n1 % 4294967296), (n2 % 4294967296), (n3 % 65536), 0, 0, 0, false, 0, [], (l.take m)⟩) 5 _ rfl rfl rfl).fld (p' := ⟨2, lf, pc, (n1 % 4294967296), (n2 % 4294967296), (n3 % 65536), (n4 % 65536), 0, 0, false, 0, [], (l.take m)⟩) 6 _ rfl rfl rfl).fld (p' := ⟨2, lf, pc, (n1 % 4294967296), (n2 % 4294967296), (n3 % 65536), (n4 % 65536), 0, (n5 % 65536), false, 0, [], (l.take m)⟩) 8 _ rfl rfl rfl).arr).2.2.2.2.2.1, (a8 (((HM3.out.drew.fld (p' := ⟨2, lf, pc, (n1 % 4294967296), (n2 % 4294967296), (n3 % 65536), 0, 0, 0, false, 0, [], (l.take m)⟩) 5 _ rfl rfl rfl).fld (p' := ⟨2, lf, pc, (n1 % 4294967296), (n2 % 4294967296), (n3 % 65536), (n4 % 65536), 0, 0, false, 0, [], (l.take m)⟩) 6 _ rfl rfl rfl).fld (p' := ⟨2, lf, pc, (n1 % 4294967296), (n2 % 4294967296), (n3 % 65536), (n4 % 65536), 0, (n5 % 65536), false, 0, [], (l.take m)⟩) 8 _ rfl rfl rfl).arr).2.2.2.2.2.2.1⟩ (fun hHeld => ?_)
        clear hK K
        refine pure_ (i := 19) (N := some 144) (v := ?_) (a' := ?_) #[true, true, true, true, true, true, true, true, true, true, true, true, true, true, true, true, true, true, true, true, false] rfl rfl (by kernel_rfl) (fun _ _ _ h => h) (Or.inl ⟨by rfl, ?_⟩) ?_ ?_
        rotate_left
        · intro w'
          go_simp
          with_reducible rfl
        rotate_left
        · simp only [Act.put, List.setIfInBounds_toArray, List.set_cons_zero, List.set_cons_succ, i64_w, i32_w]
          rfl
        refine one_ (i := 20) (N := none) #[true, true, true, true, true, true, true, true, true, true, true, true, true, true, true, true, true, true, true, true, true] rfl rfl (by kernel_rfl) (by decide) (fun K hK => ?_)
        refine skip_ (w1 := ?_) (by rfl) rfl ?_ ?_
        rotate_left
        · go_simp
          rfl
        refine hK.out _ _ ⟨(a8 ((((HM3.out.drew.fld (p' := ⟨2, lf, pc, (n1 % 4294967296), (n2 % 4294967296), (n3 % 65536), 0, 0, 0, false, 0, [], (l.take m)⟩) 5 _ rfl rfl rfl).fld (p' := ⟨2, lf, pc, (n1 % 4294967296), (n2 % 4294967296), (n3 % 65536), (n4 % 65536), 0, 0, false, 0, [], (l.take m)⟩) 6 _ rfl rfl rfl).fld (p' := ⟨2, lf, pc, (n1 % 4294967296), (n2 % 4294967296), (n3 % 65536), (n4 % 65536), 0, (n5 % 65536), false, 0, [], (l.take m)⟩) 8 _ rfl rfl rfl).fld (p' := ⟨2, lf, pc, (n1 % 4294967296), (n2 % 4294967296), (n3 % 65536), (n4 % 65536), 0, (n5 % 65536), (n6 % 4 == 0), 0, [], (l.take m)⟩) 9 _ rfl rfl rfl).arr).2.2.2.1, (a8 ((((HM3.out.drew.fld (p' := ⟨2, lf, pc, (n1 % 4294967296), (n2 % 4294967296), (n3 % 65536), 0, 0, 0, false, 0, [], (l.take m)⟩) 5 _ rfl rfl rfl).fld (p' := ⟨2, lf, pc, (n1 % 4294967296), (n2 % 4294967296), (n3 % 65536), (n4 % 65536), 0, 0, false, 0, [], (l.take m)⟩) 6 _ rfl rfl rfl).fld (p' := ⟨2, lf, pc, (n1 % 4294967296), (n2 % 4294967296), (n3 % 65536), (n4 % 65536), 0, (n5 % 65536), false, 0, [], (l.take m)⟩) 8 _ rfl rfl rfl).fld (p' := ⟨2, lf, pc, (n1 % 4294967296), (n2 % 4294967296), (n3 % 65536), (n4 % 65536), 0, (n5 % 65536), (n6 % 4 == 0), 0, [], (l.take m)⟩) 9 _ rfl rfl rfl).arr).2.2.2.2.1, (a8 ((((HM3.out.drew.fld (p' := ⟨2, lf, pc, (n1 % 4294967296), (n2 % 4294967296), (n3 % 65536), 0, 0, 0, false, 0, [], (l.take m)⟩) 5 _ rfl rfl rfl).fld (p' := ⟨2, lf, pc, (n1 % 4294967296), (n2 % 4294967296), (n3 % 65536), (n4 % 65536), 0, 0, false, 0, [], (l.take m)⟩) 6 _ rfl rfl rfl).fld (p' := ⟨2, lf, pc, (n1 % 4294967296), (n2 % 4294967296), (n3 % 65536), (n4 % 65536), 0, (n5 % 65536), false, 0, [], (l.take m)⟩) 8 _ rfl rfl rfl).fld (p' := ⟨2, lf, pc, (n1 % 4294967296), (n2 % 4294967296), (n3 % 65536), (n4 % 65536), 0, (n5 % 65536), (n6 % 4 == 0), 0, [], (l.take m)⟩) 9 _ rfl rfl rfl).arr).2.2.2.2.2.1, (a8 ((((HM3.out.drew.fld (p' := ⟨2, lf, pc, (n1 % 4294967296), (n2 % 4294967296), (n3 % 65536), 0, 0, 0, false, 0, [], (l.take m)⟩) 5 _ rfl rfl rfl).fld (p' := ⟨2, lf, pc, (n1 % 4294967296), (n2 % 4294967296), (n3 % 65536), (n4 % 65536), 0, 0, false, 0, [], (l.take m)⟩) 6 _ rfl rfl rfl).fld (p' := ⟨2, lf, pc, (n1 % 4294967296), (n2 % 4294967296), (n3 % 65536), (n4 % 65536), 0, (n5 % 65536), false, 0, [], (l.take m)⟩) 8 _ rfl rfl rfl).fld (p' := ⟨2, lf, pc, (n1 % 4294967296), (n2 % 4294967296), (n3 % 65536), (n4 % 65536), 0, (n5 % 65536), (n6 % 4 == 0), 0, [], (l.take m)⟩) 9 _ rfl rfl rfl).arr).2.2.2.2.2.2.1⟩ (fun hHeld => ?_)
        clear hK K
        refine done_ (by kernel_rfl) ?_
        generalize hW : World.setCell _ _ _ = w7
        have HM5 : Aside0 (MkSt w w7 g [n0, n1, n2, n3, n4, n5, n6, n7] ⟨2, lf, pc, (n1 % 4294967296), (n2 % 4294967296), (n3 % 65536), (n4 % 65536), 0, (n5 % 65536), (n6 % 4 == 0), 0, [], (l.take m)⟩ (.slice none 0 0) (.slice A3 m c3)) := Aside0.mk (by rw [← hW]; exact ((((HM3.out.fld (p' := ⟨2, lf, pc, (n1 % 4294967296), (n2 % 4294967296), (n3 % 65536), 0, 0, 0, false, 0, [], (l.take m)⟩) 5 _ rfl rfl rfl).fld (p' := ⟨2, lf, pc, (n1 % 4294967296), (n2 % 4294967296), (n3 % 65536), (n4 % 65536), 0, 0, false, 0, [], (l.take m)⟩) 6 _ rfl rfl rfl).fld (p' := ⟨2, lf, pc, (n1 % 4294967296), (n2 % 4294967296), (n3 % 65536), (n4 % 65536), 0, (n5 % 65536), false, 0, [], (l.take m)⟩) 8 _ rfl rfl rfl).fld (p' := ⟨2, lf, pc, (n1 % 4294967296), (n2 % 4294967296), (n3 % 65536), (n4 % 65536), 0, (n5 % 65536), (n6 % 4 == 0), 0, [], (l.take m)⟩) 9 _ rfl rfl rfl))
        clear hW
        generalize hW : World.drew w7 = w8
        have HM4 : Aside0 (MkSt w w8 g [n0, n1, n2, n3, n4, n5, n6, n7] ⟨2, lf, pc, (n1 % 4294967296), (n2 % 4294967296), (n3 % 65536), (n4 % 65536), 0, (n5 % 65536), (n6 % 4 == 0), 0, [], (l.take m)⟩ (.slice none 0 0) (.slice A3 m c3)) := Aside0.mk (by rw [← hW]; exact HM5.out.drew)
        clear hW HM5 hHeld hm3 hm4 hm5 hm6 a0_ a1_ a2_ a3_ a4_ a5_ a6_ a7_ k0 k1 k2 k3 k4 k5 k6 k7 k8 k9 k10 k11 k12 u0_ u1_ u2_ u3_ u4_ u5_ u6_ u7_ u8_ u9_ u10_ u11_ u12_
        go_wp2
        go_meet
        exact ⟨_, _, (by rw [HMQ.out]; exact HM4.out)⟩
      · skip
        have HMQ := Aside0.mk (show makeP kind ns l = ⟨3, lf, pc, (n1 % 4294967296), (n2 % 4294967296), 0, 0, 0, 0, false, (n3 % 256), [], (fillL n4 (24 - m) (l.take m))⟩ from by
          unfold makeP nthL
          rw [HN8.out, HKIND.out, HM0.out, HLF.out, HPC.out]
          rfl)
        have HM3 := Aside0.mk (show MkSt w _ g [n0, n1, n2, n3, n4, n5, n6, n7] ⟨3, lf, pc, (n1 % 4294967296), (n2 % 4294967296), 0, 0, 0, 0, false, 0, [], (l.take m)⟩ (.slice none 0 0) (.slice A3 m c3) from HM3.out)
        clear a0_ a1_ a2_ a3_ a4_ a5_ a6_ a7_ k0 k1 k2 k3 k4 k5 k6 k7 k8 k9 k10 k11 k12 u0_ u1_ u2_ u3_ u4_ u5_ u6_ u7_ u8_ u9_ u10_ u11_ u12_
        obtain ⟨a0_, a1_, a2_, a3_, a4_, a5_, a6_, a7_⟩ := a8 HM3.out.arr
        obtain ⟨k0, k1, k2, k3, k4, k5, k6, k7, k8, k9, k10, k11, k12⟩ := c13 HM3.out.blk
        obtain ⟨u0_, u1_, u2_, u3_, u4_, u5_, u6_, u7_, u8_, u9_, u10_, u11_, u12_⟩ := f13 HM3.out.blk
        go_upto_block 5 with fail
        generalize hW : World.setCell _ _ _ = w7
        have HM4 : Aside0 (MkSt w w7 g [n0, n1, n2, n3, n4, n5, n6, n7] ⟨3, lf, pc, (n1 % 4294967296), (n2 % 4294967296), 0, 0, 0, 0, false, (n3 % 256), [], (l.take m)⟩ (.slice none 0 0) (.slice A3 m c3)) := Aside0.mk (by rw [← hW]; exact HM3.out.fld 10 _ rfl rfl rfl)
        clear hW
        clear a0_ a1_ a2_ a3_ a4_ a5_ a6_ a7_ k0 k1 k2 k3 k4 k5 k6 k7 k8 k9 k10 k11 k12 u0_ u1_ u2_ u3_ u4_ u5_ u6_ u7_ u8_ u9_ u10_ u11_ u12_
        obtain ⟨R, hR⟩ : ∃ R, fillL n4 (24 - m) (l.take m) = R := ⟨_, rfl⟩
        have HR0 := Aside0.mk hR
        clear hR
        go_wp2
        go_loopg [] (24 - m) (fun kq w' => ∃ (dt : List Int) (A4 : Option Addr) (c4 : Nat), Aside (kq = 24 - dt.length) ∧ Aside (fillL n4 kq dt = R) ∧ Aside (dt.length ≤ 200) ∧ MkSt w w' g [n0, n1, n2, n3, n4, n5, n6, n7] ⟨3, lf, pc, (n1 % 4294967296), (n2 % 4294967296), 0, 0, 0, 0, false, (n3 % 256), [], dt⟩ (.slice none 0 0) (.slice A4 dt.length c4))
        case atStart =>
          have hlen : (l.take m).length = m := by rw [List.length_take]; exact Nat.min_eq_left HML.out
          exact ⟨l.take m, A3, c3, (by show _ = _; rw [hlen]), HR0.out, (by show _ ≤ _; rw [hlen]; have := HM0.out; omega), (by rw [hlen]; exact HM4.out)⟩
        case round =>
          obtain ⟨dt, A4, c4, hk, hr, h2, hm⟩ := hrel
          have HK := Aside0.mk hk.out
          have HRR := Aside0.mk hr.out
          have H2 := Aside0.mk h2.out
          have HMa := Aside0.mk hm
          clear hk hr h2 hm HM4
          obtain ⟨a0_, a1_, a2_, a3_, a4_, a5_, a6_, a7_⟩ := a8 HMa.out.arr
          obtain ⟨k0, k1, k2, k3, k4, k5, k6, k7, k8, k9, k10, k11, k12⟩ := c13 HMa.out.blk
          obtain ⟨u0_, u1_, u2_, u3_, u4_, u5_, u6_, u7_, u8_, u9_, u10_, u11_, u12_⟩ := f13 HMa.out.blk
          by_cases hlt : dt.length < 24
          · have hdl : decide ((dt.length : Int) < 24) = true := decide_eq_true (by omega)
            have hdn : decide (dt.length < 24) = true := decide_eq_true (by omega)
            have HGK := Aside0.mk (show 0 < gk from by have := HK.out; omega)
            clear hlt
            go_wp2_with (first | ((with_reducible refine gate_dst (N := 123) rfl ?_); refine Kd.R_lit (Kd.int .u8) (w0 := wr) (w.heap.size + 2) 5 ?hg (N := 123) ?hd (xs := ([n4 / 2 ^ (dt.length % 8) % 256] : List Int)) (inner := [.int .u8 (n4 / 2 ^ (dt.length % 8) % 256)]) (ok := fun _ => True) (okp := fun _ => True) ?hr ?hp (fun _ hk => hk) trivial (Below.refl _ _) (blk_lt HMa.out.arr) (by simp) ?_; (case hd => rfl); (case hg => rfl); (case hr => first | (go_simp; done) | (go_simp; rfl)); (case hp => exact (Reps.one (show Kd.M (Kd.int .u8) _ _ _ (n4 / 2 ^ (dt.length % 8) % 256) [.int .u8 (n4 / 2 ^ (dt.length % 8) % 256)] from rfl) (Reps.none _ _))); intro v3 w3 ho hb hg hat; have HMb := Aside0.mk (HMa.out.quiet hg); have HLI := Aside0.mk ho; have HB3 := Aside0.mk hb; obtain ⟨Al, cl, el⟩ := Kd.R_slice HLI.out; subst el; have HLC := Aside0.mk (Kd.R_reads' HLI.out); clear ho hb hg hat) | ((with_reducible refine gate_builtin (b := .append) (xs := #[.tmp 113, .tmp 123]) rfl ?_); at_builtin; refine Kd.R_append_rows (Kd.int .u8) (w0 := wr) (w.heap.size + 2) rfl (.tmp 113) (.tmp 123) 23 5 (.int .u8 0) 1 rfl Try.underlying23 info5 rfl (by decide) (by omega) (.slice A4 dt.length c4) dt [n4 / 2 ^ (dt.length % 8) % 256] Al 1 cl (fun _ => True) (fun _ => False) rfl rfl HMb.out.rd HLC.out.2.2 (fun _ _ h => h) (fun _ h => h.elim) (fun _ _ => trivial) HB3.out (Nat.le_trans (blk_lt HMa.out.arr) HB3.out.size) (by have := H2.out; omega) ?_; intro v4 w4 ho hb hg hat; have hz_ := (hg.block g (blk_lt HMb.out.blk) (fun e => HMb.out.nd e.symm)).trans HMb.out.blk; clear a0_ a1_ a2_ a3_ a4_ a5_ a6_ a7_ k0 k1 k2 k3 k4 k5 k6 k7 k8 k9 k10 k11 k12 u0_ u1_ u2_ u3_ u4_ u5_ u6_ u7_ u8_ u9_ u10_ u11_ u12_; obtain ⟨k0, k1, k2, k3, k4, k5, k6, k7, k8, k9, k10, k11, k12⟩ := c13 hz_; obtain ⟨u0_, u1_, u2_, u3_, u4_, u5_, u6_, u7_, u8_, u9_, u10_, u11_, u12_⟩ := f13 hz_; have HMc := Aside0.mk (HMb.out.data hg ho (HMa.out.below.trans (hb.mono (by omega))) hat); obtain ⟨A5, c5, e5⟩ := Kd.R_slice ho; subst e5; clear hz_ ho hb hg hat))
            have HRN := Aside0.mk (show fillL n4 (gk - 1) (dt ++ [n4 / 2 ^ (dt.length % 8) % 256]) = R from by
              have h1 := HRR.out
              obtain ⟨q, hq⟩ : ∃ q, gk = q + 1 := ⟨gk - 1, by have := HGK.out; omega⟩
              rw [hq] at h1 ⊢
              exact h1)
            have HLN := Aside0.mk (show (dt ++ [n4 / 2 ^ (dt.length % 8) % 256]).length = dt.length + 1 from by simp)
            go_roundg (gk - 1)
            case measure => have := HGK.out; omega
            case rel => exact ⟨_, A5, c5, (by show _ = _; have := HK.out; rw [HLN.out]; omega), HRN.out, (by show _ ≤ _; rw [HLN.out]; have := HK.out; have := HGK.out; omega), (by first | exact HMc.out | (have h_ := HMc.out; simp only [HLN.out] at h_ ⊢; exact h_))⟩
          · have hdl : decide ((dt.length : Int) < 24) = false := decide_eq_false (by omega)
            have hdn : decide (dt.length < 24) = false := decide_eq_false (by omega)
            have HLR : Aside0 (dt = R) := Aside0.mk (by have h1 := HRR.out; rw [HK.out, show 24 - dt.length = 0 by omega] at h1; exact h1)
            clear hlt
            go_wp2_with fail
            go_meet
            exact ⟨_, _, (by rw [HMQ.out, HR0.out, ← HLR.out]; exact HMa.out)⟩
    case rest =>
    obtain ⟨vo, vd, hm9⟩ := hcut
    obtain ⟨MQ, hMQ⟩ : ∃ P, makeP kind ns l = P := ⟨_, rfl⟩
    rw [hMQ] at hm9
    have HMQ := Aside0.mk hMQ
    clear hMQ
    obtain ⟨Ao, co, eo⟩ := Kd.R_slice hm9.out.ro
    subst eo
    obtain ⟨Ad, cd, ed⟩ := Kd.R_slice hm9.out.rd
    subst ed
    have HM4 := Aside0.mk hm9.out
    clear hm9 HM3
    clear a0_ a1_ a2_ a3_ a4_ a5_ a6_ a7_ k0 k1 k2 k3 k4 k5 k6 k7 k8 k9 k10 k11 k12 u0_ u1_ u2_ u3_ u4_ u5_ u6_ u7_ u8_ u9_ u10_ u11_ u12_
    obtain ⟨k0, k1, k2, k3, k4, k5, k6, k7, k8, k9, k10, k11, k12⟩ := c13 HM4.out.blk
    obtain ⟨r0_, r1_, r2_, r3_, r4_, r5_, r6_, r7_, r8_, r9_, r10_, r11_, r12_⟩ := c13 HM4.out.zero
    obtain ⟨z0_, z1_, z2_, z3_, z4_, z5_, z6_, z7_, z8_, z9_, z10_, z11_, z12_⟩ := f13 HM4.out.zero
    go_wp2
    (try simp only [Exit.inBlock, Exit.then])
    have HMP2 := Aside0.mk (fun e w' (h : Made w MQ e w') => (by rw [HMQ.out]; exact h : Made w (makeP kind ns l) e w'))
    refine bodyPost_ret (v := pkV MQ (.slice Ao MQ.opts.length co) (.slice Ad MQ.data.length cd)) ?_ rfl (HMP2.out _ _ (made_of HM4.out (by have := HM4.out.hg; omega) rfl rfl))
    · rw [results_c rfl]
      go_simp
      rfl
end Go.Proofs.Ytbjhmifhmojaoaa.WB

namespace Go.Proofs.Ytbjhmifhmojaoaa.WB
set_option linter.unusedVariables false
set_option linter.unusedSimpArgs false
open Go.RowKit Go.Proofs.Ytbjhmifhmojaoaa.Hp Go.Proofs.Ytbjhmifhmojaoaa.SB Go.Proofs.YtbjhmifhmojaoaaW.PrintWords Go.Proofs.YtbjhmifhmojaoaaW.PrintLast Go.Proofs.YtbjhmifhmojaoaaW.PrintMore

theorem make_calls {A B : Option Addr} {c d n m : Nat} {ns l : List Int} {w : World} (kind : Int) (hn : Kd.C (Kd.int .i64) w A n ns) (hnn : ns.length = n) (hnc : n ≤ c) (hnl : n ≤ 140737488351232) (hr : Kd.C (Kd.int .u8) w B m l) (hm : l.length = m) (hc : m ≤ d) (hl : m ≤ 140737488351232) (hb : Bytes l) :
    Calls Try.prog 16 #[.int .i64 kind, .slice A n c, .slice B m d] w (Made w (makeP kind ns l)) := by
  subst hnn hm
  have h3 : kind % 3 = 0 ∨ kind % 3 = 1 ∨ kind % 3 = 2 := by omega
  exact make_all rfl h3 hn hnc hnl hr hc hl hb
theorem shB_b (x : Int) (j : Nat) : 0 ≤ shB x j ∧ shB x j ≤ 255 := by unfold shB; omega
theorem one_byte {x : Int} (h0 : 0 ≤ x) (h1 : x ≤ 255) : Bytes [x] := by intro y hy; simp at hy; omega
theorem fillL_len (x : Int) : ∀ (k : Nat) (d : List Int), (fillL x k d).length = d.length + k
  | 0, _ => rfl
  | k + 1, d => by rw [fillL, fillL_len x k]; simp; omega
theorem fillL_bytes (x : Int) : ∀ (k : Nat) {d : List Int}, Bytes d → Bytes (fillL x k d)
  | 0, _, h => h
  | k + 1, d, h => fillL_bytes x k (h.app (one_byte (shB_b ..).1 (shB_b ..).2))
theorem optsL_len (x : Int) : ∀ (k : Nat), (optsL x k).length = k
  | 0 => rfl
  | k + 1 => by rw [optsL]; simp [optsL_len x k]
theorem optsL_bytes (x : Int) : ∀ (k : Nat), Bytes (optsL x k)
  | 0 => bytes_nil
  | k + 1 => (optsL_bytes x k).app (one_byte (shB_b ..).1 (shB_b ..).2)
/-- A packet that is laid as it is read. -/
structure Canon (p : Pk) : Prop where
  bo : Bytes p.opts
  bd : Bytes p.data
  s : p.kind = 1 → p.label = 0 ∧ p.bare = false ∧ p.code = 0
  g : p.kind = 2 → p.flags = 0 ∧ p.code = 0 ∧ p.opts = []
  f : p.kind = 3 → p.fp = 0 ∧ p.tp = 0 ∧ p.flags = 0 ∧ p.label = 0 ∧ p.bare = false ∧ p.opts = []
theorem lifeQ_b {n : Int} (h : 0 ≤ n) : 0 ≤ lifeQ n ∧ lifeQ n ≤ 255 := by unfold lifeQ; split <;> omega
theorem pieceQ_b {n : Int} (h : 0 ≤ n) : 0 ≤ pieceQ n ∧ pieceQ n ≤ 255 := by unfold pieceQ; split <;> omega
theorem rgB_true {n m : Int} (h0 : 0 ≤ n) (h1 : n ≤ m) : rgB n m = true := by unfold rgB; rw [decide_eq_true h0, decide_eq_true h1]; rfl
/-- What Make makes may be. -/
structure MkOk (p : Pk) : Prop where
  e : buildE p = 0
  c : Canon p
  o : p.opts.length ≤ 40
  d : p.data.length ≤ 200
theorem makeP_ok (kind : Int) {ns l : List Int} (hb : Bytes l) : MkOk (makeP kind ns l) ∧ (makeP kind ns l).kind = 1 + kind % 3 := by
  have bn := fun i => arrL_b (ns := ns) (k := min 8 ns.length) (i := i)
  have nb : ∀ i, 0 ≤ nthL ns i ∧ nthL ns i < 1099511627776 := bn
  unfold makeP
  have hq : kind % 3 = 0 ∨ kind % 3 = 1 ∨ kind % 3 = 2 := by omega
  obtain ⟨m, hm⟩ : ∃ m, min l.length 200 = m := ⟨_, rfl⟩
  have lt : (l.take m).length = m := by rw [List.length_take]; omega
  have e0 := nb 0
  have e1 := nb 1
  have e2 := nb 2
  have e3 := nb 3
  have e4 := nb 4
  have e5 := nb 5
  have e6 := nb 6
  rw [hm]
  generalize nthL ns 0 = n0 at e0 ⊢
  generalize nthL ns 1 = n1 at e1 ⊢
  generalize nthL ns 2 = n2 at e2 ⊢
  generalize nthL ns 3 = n3 at e3 ⊢
  generalize nthL ns 4 = n4 at e4 ⊢
  generalize nthL ns 5 = n5 at e5 ⊢
  generalize nthL ns 6 = n6 at e6 ⊢
  generalize nthL ns 7 = n7
  have lb := lifeQ_b e0.1
  have pb := pieceQ_b e0.1
  have b1 : rgB (lifeQ n0) 255 = true := rgB_true lb.1 lb.2
  have b2 : rgB (pieceQ n0) 255 = true := rgB_true pb.1 pb.2
  have b3 : rgB (n1 % 4294967296) 4294967295 = true := rgB_true (by omega) (by omega)
  have b4 : rgB (n2 % 4294967296) 4294967295 = true := rgB_true (by omega) (by omega)
  have b5 : rgB (n3 % 65536) 65535 = true := rgB_true (by omega) (by omega)
  have b6 : rgB (n4 % 65536) 65535 = true := rgB_true (by omega) (by omega)
  have b7 : rgB (n5 % 65536) 65535 = true := rgB_true (by omega) (by omega)
  have b8 : rgB (n5 % 16) 15 = true := rgB_true (by omega) (by omega)
  have b9 : rgB (n3 % 256) 255 = true := rgB_true (by omega) (by omega)
  have hbt := hb.take m
  rcases hq with h | h | h
  · rw [h]
    have e : makeQ 0 n0 n1 n2 n3 n4 n5 n6 n7 m l = ⟨1, lifeQ n0, pieceQ n0, n1 % 4294967296, n2 % 4294967296, n3 % 65536, n4 % 65536, n5 % 16, 0, false, 0, optsL n7 (n6 % 41).toNat, l.take m⟩ := rfl
    rw [e]
    have hol := optsL_len n7 (n6 % 41).toNat
    refine ⟨⟨?_, ⟨optsL_bytes _ _, hbt, fun _ => ⟨rfl, rfl, rfl⟩, (fun h => by cases h), (fun h => by cases h)⟩, by dsimp only; omega, by dsimp only; omega⟩, rfl⟩
    unfold buildE okR nL
    dsimp only
    rw [b1, b2, b3, b4, b5, b6, b8, if_neg (by decide), if_neg (by simp), if_neg (by omega), if_neg]
    rw [if_pos rfl]; omega
  · rw [h]
    have e : makeQ 1 n0 n1 n2 n3 n4 n5 n6 n7 m l = ⟨2, lifeQ n0, pieceQ n0, n1 % 4294967296, n2 % 4294967296, n3 % 65536, n4 % 65536, 0, n5 % 65536, n6 % 4 == 0, 0, [], l.take m⟩ := rfl
    rw [e]
    refine ⟨⟨?_, ⟨bytes_nil, hbt, (fun h => by cases h), fun _ => ⟨rfl, rfl, rfl⟩, (fun h => by cases h)⟩, by simp, by dsimp only; omega⟩, rfl⟩
    unfold buildE okR nL
    dsimp only
    rw [b1, b2, b3, b4, b5, b6, b7, if_neg (by decide), if_neg (by simp), if_neg (by simp), if_neg]
    rw [if_neg (by decide), if_neg (by decide)]; omega
  · rw [h]
    have e : makeQ 2 n0 n1 n2 n3 n4 n5 n6 n7 m l = ⟨3, lifeQ n0, pieceQ n0, n1 % 4294967296, n2 % 4294967296, 0, 0, 0, 0, false, n3 % 256, [], fillL n4 (24 - m) (l.take m)⟩ := rfl
    rw [e]
    have hfl := fillL_len n4 (24 - m) (l.take m)
    refine ⟨⟨?_, ⟨bytes_nil, fillL_bytes _ _ hbt, (fun h => by cases h), (fun h => by cases h), fun _ => ⟨rfl, rfl, rfl, rfl, rfl, rfl⟩⟩, by simp, by dsimp only; omega⟩, rfl⟩
    unfold buildE okR nL
    dsimp only
    rw [b1, b2, b3, b4, b9, if_neg (by decide), if_neg (by simp), if_neg (by simp), if_neg]
    rw [if_neg (by decide), if_pos rfl]; omega
theorem nL_le {p : Pk} (h : MkOk p) : nL p ≤ 264 := by
  have := h.o
  have := h.d
  unfold nL; repeat' split
  all_goals omega
/-- Make's packet, in slices. -/
def MadeS (w : World) (p : Pk) (e : Ending) (w' : World) : Prop :=
  ∃ (A1 : Option Addr) (c1 : Nat) (A2 : Option Addr) (c2 : Nat), e = .returned (pkV p (.slice A1 p.opts.length c1) (.slice A2 p.data.length c2)) ∧ RB w.heap.size w' (.slice A1 p.opts.length c1) p.opts ∧ RB w.heap.size w' (.slice A2 p.data.length c2) p.data ∧
    (∀ k, (Value.slice A1 p.opts.length c1).ownBlock = some k → (Value.slice A2 p.data.length c2).ownBlock ≠ some k) ∧ Below w.heap.size w w'
theorem made_s {w w' : World} {p : Pk} {e : Ending} (h : Made w p e w') : MadeS w p e w' := by
  obtain ⟨vo, vd, he, h1, h2, h3, h4⟩ := h
  obtain ⟨A1, c1, rfl⟩ := Kd.R_slice h1
  obtain ⟨A2, c2, rfl⟩ := Kd.R_slice h2
  exact ⟨A1, c1, A2, c2, he, h1, h2, h3, h4⟩
end Go.Proofs.Ytbjhmifhmojaoaa.WB
