/- Lemmas and contracts that the row YtbjhmifhmojaoaaLawWireReads goes by (part 7; joined by pack.py out of this session's texts, and of words that the kit's print lays). -/
import Derived.Test.YtbjhmifhmojaoaaKReads6
namespace Go.Proofs.Ytbjhmifhmojaoaa.WB
set_option linter.unusedVariables false
set_option linter.unusedSimpArgs false
open Go.RowKit Go.Proofs.Ytbjhmifhmojaoaa.Hp Go.Proofs.Ytbjhmifhmojaoaa.SB Go.Proofs.YtbjhmifhmojaoaaW.PrintWords Go.Proofs.YtbjhmifhmojaoaaW.PrintLast Go.Proofs.YtbjhmifhmojaoaaW.PrintMore

theorem results_tct {fn : Func} {q p u : Tmp} {ty : TypeId} (h : fn.results = #[.tmp q, .cell p ty, .tmp u]) (tmps : Array Value) (P : Program) (w : World) :
    (results fn tmps).run P w =
      ((asAddr (tmps.getD p undef)).run P w).andThen fun a w₁ => ((loadVar ty a).run P w₁).andThen fun v w₂ => .ok (.tuple #[tmps.getD q undef, v, tmps.getD u undef]) w₂ := by
  simp only [results, h]
  simp [Sem.run_bind, Result.andThen]
/-- A turner in block t: what was, what is (row g), bare or not. -/
structure Tur (w0 w : World) (t g : Nat) (A : Option Addr) (c cc : Nat) (was L : List Int) (bare : Bool) : Prop where
  blk : w.heap[t]? = some (.cells #[.slice A was.length c, .slice (some ⟨g, 0, none⟩) was.length cc, .bool bare] 72 (0, 0))
  row : RB w0.heap.size w (.slice (some ⟨g, 0, none⟩) was.length cc) L
  rd : Kd.C (Kd.int .u8) w0 A was.length was
  le : was.length ≤ c
  len : L.length = was.length
  ne : t ≠ g
  ht : w0.heap.size ≤ t
  hg : w0.heap.size ≤ g
  below : Below w0.heap.size w0 w
set_option maxHeartbeats 2000000 in
set_option maxRecDepth 100000 in
theorem begin_err {A : Option Addr} {c : Nat} {l : List Int} {w : World} (hr : Kd.C (Kd.int .u8) w A l.length l) (hc : l.length ≤ c) (hl : l.length ≤ 100000) (hb : Bytes l) {p0 p1 p2 p3 p4 p5 p6 p7 p8 : Int} {p9 : Bool} {p10 : Int} {p11 p12 : List Int} {x : Int} (hp : parseL l = (⟨p0, p1, p2, p3, p4, p5, p6, p7, p8, p9, p10, p11, p12⟩, x)) (hx : x ≠ 0) :
    Calls Try.prog 49 #[.slice A l.length c] w fun e w' => (∃ (A1 : Option Addr) (c1 : Nat) (A2 : Option Addr) (c2 : Nat), e = .returned (.tuple #[.pointer none, .agg #[.int .i64 p0, .int .i64 p1, .int .i64 p2, .int .i64 p3, .int .i64 p4, .int .i64 p5, .int .i64 p6, .int .i64 p7, .int .i64 p8, .bool p9, .int .i64 p10, .slice A1 p11.length c1, .slice A2 p12.length c2], .int .i64 x])) ∧ Below w.heap.size w w' := by
  have q0 : (x == 0) = false := beq_eq_false_iff_ne.mpr hx
  have q0n : (x != 0) = true := bne_iff_ne.mpr hx
  have HR := Aside0.mk hr
  have HC := Aside0.mk hc
  have HL := Aside0.mk hl
  have HY := Aside0.mk hb
  have HP := Aside0.mk hp
  have HG := Aside0.mk (fun o => parse_calls (Kd.C_alloc hr o) rfl hc hl hb)
  have HBA := Aside0.mk ((Below.refl w.heap.size w).alloc (Nat.le_refl _) (.cells zero13 26))
  have HNB := Aside0.mk (new_blk w (.cells zero13 26))
  clear hr hc hl hb hp
  go_enter Try.func49, Try.ntmps49
  go_upto_region 3 with (first
    | (go_at_call 19; (with_reducible refine (HG.out _).mono ?_); intro e w1 hq; obtain ⟨A1, c1, A2, c2, rfl, h1, h2, h3, hb1⟩ := got_of HP.out hq; have HB1 := Aside0.mk (below_step HBA.out hb1); have HYB := Aside0.mk ((hb1.block w.heap.size (blk_lt HNB.out)).trans HNB.out); clear hq h1 h2 h3 hb1))
  change Code.wp _ _ _ _ (w1.alloc (.cells #[.int .i64 p0, .int .i64 p1, .int .i64 p2, .int .i64 p3, .int .i64 p4, .int .i64 p5, .int .i64 p6, .int .i64 p7, .int .i64 p8, .bool p9, .int .i64 p10, .slice A1 p11.length c1, .slice A2 p12.length c2] 26))
  obtain ⟨g5, HG5⟩ : ∃ g, w1.heap.size = g := ⟨_, rfl⟩
  have HLT := Aside0.mk (show w.heap.size < g5 from by rw [← HG5]; exact blk_lt HYB.out)
  have HZ5 : Aside0 ((w1.alloc (.cells #[.int .i64 p0, .int .i64 p1, .int .i64 p2, .int .i64 p3, .int .i64 p4, .int .i64 p5, .int .i64 p6, .int .i64 p7, .int .i64 p8, .bool p9, .int .i64 p10, .slice A1 p11.length c1, .slice A2 p12.length c2] 26)).heap[g5]? = some (.cells #[.int .i64 p0, .int .i64 p1, .int .i64 p2, .int .i64 p3, .int .i64 p4, .int .i64 p5, .int .i64 p6, .int .i64 p7, .int .i64 p8, .bool p9, .int .i64 p10, .slice A1 p11.length c1, .slice A2 p12.length c2] 26 (0, 0))) := Aside0.mk (by rw [← HG5]; exact new_blk w1 _)
  have HY5 := Aside0.mk ((Below.heap_alloc w1 (.cells #[.int .i64 p0, .int .i64 p1, .int .i64 p2, .int .i64 p3, .int .i64 p4, .int .i64 p5, .int .i64 p6, .int .i64 p7, .int .i64 p8, .bool p9, .int .i64 p10, .slice A1 p11.length c1, .slice A2 p12.length c2] 26) w.heap.size (blk_lt HYB.out)).trans HYB.out)
  have HB5 := Aside0.mk (HB1.out.alloc HB1.out.size (.cells #[.int .i64 p0, .int .i64 p1, .int .i64 p2, .int .i64 p3, .int .i64 p4, .int .i64 p5, .int .i64 p6, .int .i64 p7, .int .i64 p8, .bool p9, .int .i64 p10, .slice A1 p11.length c1, .slice A2 p12.length c2] 26))
  generalize w1.alloc (.cells #[.int .i64 p0, .int .i64 p1, .int .i64 p2, .int .i64 p3, .int .i64 p4, .int .i64 p5, .int .i64 p6, .int .i64 p7, .int .i64 p8, .bool p9, .int .i64 p10, .slice A1 p11.length c1, .slice A2 p12.length c2] 26) = w5 at HZ5 HY5 HB5 ⊢
  clear HB1 HYB HBA HNB HG
  have HCZ := Aside0.mk (fun W (h : Below (g5 + 1) w5 W) => c13 ((h.block g5 (Nat.lt_succ_self _)).trans HZ5.out))
  refine start_ (n := 5) (S := fun w' => w'.cell? ⟨g5, 0, none⟩ = some (.int .i64 p0) ∧ w'.cell? ⟨g5, 1, none⟩ = some (.int .i64 p1) ∧ w'.cell? ⟨g5, 2, none⟩ = some (.int .i64 p2) ∧ w'.cell? ⟨g5, 3, none⟩ = some (.int .i64 p3) ∧ w'.cell? ⟨g5, 4, none⟩ = some (.int .i64 p4) ∧ w'.cell? ⟨g5, 5, none⟩ = some (.int .i64 p5) ∧ w'.cell? ⟨g5, 6, none⟩ = some (.int .i64 p6) ∧ w'.cell? ⟨g5, 7, none⟩ = some (.int .i64 p7) ∧ w'.cell? ⟨g5, 8, none⟩ = some (.int .i64 p8) ∧ w'.cell? ⟨g5, 9, none⟩ = some (.bool p9) ∧ w'.cell? ⟨g5, 10, none⟩ = some (.int .i64 p10) ∧ w'.cell? ⟨g5, 11, none⟩ = some (.slice A1 p11.length c1) ∧ w'.cell? ⟨g5, 12, none⟩ = some (.slice A2 p12.length c2)) (ds := [3]) #[false, false, false, false, false] (by kernel_rfl) rfl rfl ⟨(HCZ.out _ (Below.refl (g5 + 1) w5).drew).1, (HCZ.out _ (Below.refl (g5 + 1) w5).drew).2.1, (HCZ.out _ (Below.refl (g5 + 1) w5).drew).2.2.1, (HCZ.out _ (Below.refl (g5 + 1) w5).drew).2.2.2.1, (HCZ.out _ (Below.refl (g5 + 1) w5).drew).2.2.2.2.1, (HCZ.out _ (Below.refl (g5 + 1) w5).drew).2.2.2.2.2.1, (HCZ.out _ (Below.refl (g5 + 1) w5).drew).2.2.2.2.2.2.1, (HCZ.out _ (Below.refl (g5 + 1) w5).drew).2.2.2.2.2.2.2.1, (HCZ.out _ (Below.refl (g5 + 1) w5).drew).2.2.2.2.2.2.2.2.1, (HCZ.out _ (Below.refl (g5 + 1) w5).drew).2.2.2.2.2.2.2.2.2.1, (HCZ.out _ (Below.refl (g5 + 1) w5).drew).2.2.2.2.2.2.2.2.2.2.1, (HCZ.out _ (Below.refl (g5 + 1) w5).drew).2.2.2.2.2.2.2.2.2.2.2.1, (HCZ.out _ (Below.refl (g5 + 1) w5).drew).2.2.2.2.2.2.2.2.2.2.2.2⟩ (fun hHeld => ?_)
  refine pure_ (i := 1) (N := some 15) (v := ?_) (a' := ?_) #[false, true, false, false, false] rfl rfl (by kernel_rfl) (fun _ _ _ h => h) (Or.inl ⟨by rfl, ?_⟩) ?_ ?_
  rotate_left
  · intro w'
    go_simp
    with_reducible rfl
  rotate_left
  · simp only [Act.put, List.setIfInBounds_toArray, List.set_cons_zero, List.set_cons_succ, i64_w, i32_w]
    rfl
  refine pure_ (i := 2) (N := some 2) (v := ?_) (a' := ?_) #[false, true, true, false, false] rfl rfl (by kernel_rfl) (fun _ _ _ h => h) (Or.inl ⟨by rfl, ?_⟩) ?_ ?_
  rotate_left
  · intro w'
    go_simp
    with_reducible rfl
  rotate_left
  · simp only [Act.put, List.setIfInBounds_toArray, List.set_cons_zero, List.set_cons_succ, i64_w, i32_w]
    rfl
  refine take_ (i := 0) (N := some 14) (v := ?_) (a' := ?_) #[true, true, true, false, false] rfl rfl (by kernel_rfl) (fun _ _ _ h => h) (Or.inl ⟨by rfl, ?_⟩) hHeld ?_ ?_
  rotate_left
  · rintro w' ⟨s0, s1, s2, s3, s4, s5, s6, s7, s8, s9, s10, s11, s12⟩
    go_simp
    with_reducible rfl
  rotate_left
  · simp only [Act.put, List.setIfInBounds_toArray, List.set_cons_zero, List.set_cons_succ, i64_w, i32_w]
    rfl
  refine last_ (i := 3) (N := none) #[true, true, true, true, false] rfl rfl (by kernel_rfl) (by decide) (fun K hK => ?_)
  obtain ⟨y0, y1, y2, y3, y4, y5, y6, y7, y8, y9, y10, y11, y12⟩ := c13 HY5.out
  obtain ⟨u0, u1, u2, u3, u4, u5, u6, u7, u8, u9, u10, u11, u12⟩ := f13 HY5.out
  refine skip_ (w1 := ?_) (by rfl) rfl ?_ ?_
  rotate_left
  · go_simp
    rfl
  refine hK.out _ _ ?_
  clear hK K
  refine pure_ (i := 4) (N := some 4) (v := ?_) (a' := ?_) #[true, true, true, true, true] rfl rfl (by kernel_rfl) (fun _ _ _ h => h) (Or.inl ⟨by rfl, ?_⟩) ?_ ?_
  rotate_left
  · intro w'
    go_simp
    with_reducible rfl
  rotate_left
  · simp only [Act.put, List.setIfInBounds_toArray, List.set_cons_zero, List.set_cons_succ, i64_w, i32_w]
    rfl
  refine done_ (by kernel_rfl) ?_
  go_wp2
  (try simp only [Exit.inBlock, Exit.then])
  refine bodyPost_ret (v := .tuple #[.pointer none, .agg #[.int .i64 p0, .int .i64 p1, .int .i64 p2, .int .i64 p3, .int .i64 p4, .int .i64 p5, .int .i64 p6, .int .i64 p7, .int .i64 p8, .bool p9, .int .i64 p10, .slice A1 p11.length c1, .slice A2 p12.length c2], .int .i64 x]) ?_ rfl ⟨⟨A1, c1, A2, c2, rfl⟩, ?_⟩
  · rw [results_tct rfl]
    go_simp
  · exact (lay13_below HB5.out (Nat.le_refl _) _ _ _ _ _ _ _ _ _ _ _ _ _).drew
set_option maxHeartbeats 2000000 in
set_option maxRecDepth 100000 in
theorem begin_ok {A : Option Addr} {c : Nat} {l : List Int} {w : World} (hr : Kd.C (Kd.int .u8) w A l.length l) (hc : l.length ≤ c) (hl : l.length ≤ 100000) (hb : Bytes l) {p0 p1 p2 p3 p4 p5 p6 p7 p8 : Int} {p9 : Bool} {p10 : Int} {p11 p12 : List Int} (hp : parseL l = (⟨p0, p1, p2, p3, p4, p5, p6, p7, p8, p9, p10, p11, p12⟩, 0)) :
    Calls Try.prog 49 #[.slice A l.length c] w fun e w' => ∃ (t g cc : Nat) (A1 : Option Addr) (c1 : Nat) (A2 : Option Addr) (c2 : Nat), e = .returned (.tuple #[.pointer (some ⟨t, 0, none⟩), .agg #[.int .i64 p0, .int .i64 p1, .int .i64 p2, .int .i64 p3, .int .i64 p4, .int .i64 p5, .int .i64 p6, .int .i64 p7, .int .i64 p8, .bool p9, .int .i64 p10, .slice A1 p11.length c1, .slice A2 p12.length c2], .int .i64 0]) ∧ Tur w w' t g A c cc l l p9 := by
  have H0 := Aside0.mk (show 0 < l.length from by have := (head0 (parse0 hp)).1; omega)
  have HR := Aside0.mk hr
  have HC := Aside0.mk hc
  have HL := Aside0.mk hl
  have HY := Aside0.mk hb
  have HP := Aside0.mk hp
  have HG := Aside0.mk (fun o => parse_calls (Kd.C_alloc hr o) rfl hc hl hb)
  have HBA := Aside0.mk ((Below.refl w.heap.size w).alloc (Nat.le_refl _) (.cells zero13 26))
  have HNB := Aside0.mk (new_blk w (.cells zero13 26))
  clear hr hc hl hb hp
  go_enter Try.func49, Try.ntmps49
  go_upto_region 4 with (first
    | (go_at_call 19; (with_reducible refine (HG.out _).mono ?_); intro e w1 hq; obtain ⟨A1, c1, A2, c2, rfl, h1, h2, h3, hb1⟩ := got_of HP.out hq; have HB1 := Aside0.mk (below_step HBA.out hb1); have HYB := Aside0.mk ((hb1.block w.heap.size (blk_lt HNB.out)).trans HNB.out); clear hq h1 h2 h3 hb1))
  change Code.wp _ _ _ _ (w1.alloc (.cells #[.int .i64 p0, .int .i64 p1, .int .i64 p2, .int .i64 p3, .int .i64 p4, .int .i64 p5, .int .i64 p6, .int .i64 p7, .int .i64 p8, .bool p9, .int .i64 p10, .slice A1 p11.length c1, .slice A2 p12.length c2] 26))
  obtain ⟨g5, HG5⟩ : ∃ g, w1.heap.size = g := ⟨_, rfl⟩
  have HLT := Aside0.mk (show w.heap.size < g5 from by rw [← HG5]; exact blk_lt HYB.out)
  have HZ5 : Aside0 ((w1.alloc (.cells #[.int .i64 p0, .int .i64 p1, .int .i64 p2, .int .i64 p3, .int .i64 p4, .int .i64 p5, .int .i64 p6, .int .i64 p7, .int .i64 p8, .bool p9, .int .i64 p10, .slice A1 p11.length c1, .slice A2 p12.length c2] 26)).heap[g5]? = some (.cells #[.int .i64 p0, .int .i64 p1, .int .i64 p2, .int .i64 p3, .int .i64 p4, .int .i64 p5, .int .i64 p6, .int .i64 p7, .int .i64 p8, .bool p9, .int .i64 p10, .slice A1 p11.length c1, .slice A2 p12.length c2] 26 (0, 0))) := Aside0.mk (by rw [← HG5]; exact new_blk w1 _)
  have HY5 := Aside0.mk ((Below.heap_alloc w1 (.cells #[.int .i64 p0, .int .i64 p1, .int .i64 p2, .int .i64 p3, .int .i64 p4, .int .i64 p5, .int .i64 p6, .int .i64 p7, .int .i64 p8, .bool p9, .int .i64 p10, .slice A1 p11.length c1, .slice A2 p12.length c2] 26) w.heap.size (blk_lt HYB.out)).trans HYB.out)
  have HB5 := Aside0.mk (HB1.out.alloc HB1.out.size (.cells #[.int .i64 p0, .int .i64 p1, .int .i64 p2, .int .i64 p3, .int .i64 p4, .int .i64 p5, .int .i64 p6, .int .i64 p7, .int .i64 p8, .bool p9, .int .i64 p10, .slice A1 p11.length c1, .slice A2 p12.length c2] 26))
  generalize w1.alloc (.cells #[.int .i64 p0, .int .i64 p1, .int .i64 p2, .int .i64 p3, .int .i64 p4, .int .i64 p5, .int .i64 p6, .int .i64 p7, .int .i64 p8, .bool p9, .int .i64 p10, .slice A1 p11.length c1, .slice A2 p12.length c2] 26) = w5 at HZ5 HY5 HB5 ⊢
  clear HB1 HYB HBA HNB HG
  have HCZ := Aside0.mk (fun W (h : Below (g5 + 1) w5 W) => c13 ((h.block g5 (Nat.lt_succ_self _)).trans HZ5.out))
  refine start_ (n := 11) (S := fun w' => w'.cell? ⟨g5, 0, none⟩ = some (.int .i64 p0) ∧ w'.cell? ⟨g5, 1, none⟩ = some (.int .i64 p1) ∧ w'.cell? ⟨g5, 2, none⟩ = some (.int .i64 p2) ∧ w'.cell? ⟨g5, 3, none⟩ = some (.int .i64 p3) ∧ w'.cell? ⟨g5, 4, none⟩ = some (.int .i64 p4) ∧ w'.cell? ⟨g5, 5, none⟩ = some (.int .i64 p5) ∧ w'.cell? ⟨g5, 6, none⟩ = some (.int .i64 p6) ∧ w'.cell? ⟨g5, 7, none⟩ = some (.int .i64 p7) ∧ w'.cell? ⟨g5, 8, none⟩ = some (.int .i64 p8) ∧ w'.cell? ⟨g5, 9, none⟩ = some (.bool p9) ∧ w'.cell? ⟨g5, 10, none⟩ = some (.int .i64 p10) ∧ w'.cell? ⟨g5, 11, none⟩ = some (.slice A1 p11.length c1) ∧ w'.cell? ⟨g5, 12, none⟩ = some (.slice A2 p12.length c2)) (ds := [9]) #[false, false, false, false, false, false, false, false, false, false, false] (by kernel_rfl) rfl rfl ⟨(HCZ.out _ (Below.refl (g5 + 1) w5).drew).1, (HCZ.out _ (Below.refl (g5 + 1) w5).drew).2.1, (HCZ.out _ (Below.refl (g5 + 1) w5).drew).2.2.1, (HCZ.out _ (Below.refl (g5 + 1) w5).drew).2.2.2.1, (HCZ.out _ (Below.refl (g5 + 1) w5).drew).2.2.2.2.1, (HCZ.out _ (Below.refl (g5 + 1) w5).drew).2.2.2.2.2.1, (HCZ.out _ (Below.refl (g5 + 1) w5).drew).2.2.2.2.2.2.1, (HCZ.out _ (Below.refl (g5 + 1) w5).drew).2.2.2.2.2.2.2.1, (HCZ.out _ (Below.refl (g5 + 1) w5).drew).2.2.2.2.2.2.2.2.1, (HCZ.out _ (Below.refl (g5 + 1) w5).drew).2.2.2.2.2.2.2.2.2.1, (HCZ.out _ (Below.refl (g5 + 1) w5).drew).2.2.2.2.2.2.2.2.2.2.1, (HCZ.out _ (Below.refl (g5 + 1) w5).drew).2.2.2.2.2.2.2.2.2.2.2.1, (HCZ.out _ (Below.refl (g5 + 1) w5).drew).2.2.2.2.2.2.2.2.2.2.2.2⟩ (fun hHeld => ?_)
  refine pure_ (i := 0) (N := some 16) (v := ?_) (a' := ?_) #[true, false, false, false, false, false, false, false, false, false, false] rfl rfl (by kernel_rfl) (fun _ _ _ h => h) (Or.inl ⟨by rfl, ?_⟩) ?_ ?_
  rotate_left
  · intro w'
    go_simp
    with_reducible rfl
  rotate_left
  · simp only [Act.put, List.setIfInBounds_toArray, List.set_cons_zero, List.set_cons_succ, i64_w, i32_w]
    rfl
  refine pure_ (i := 1) (N := some 17) (v := ?_) (a' := ?_) #[true, true, false, false, false, false, false, false, false, false, false] rfl rfl (by kernel_rfl) (fun _ _ _ h => h) (Or.inl ⟨by rfl, ?_⟩) ?_ ?_
  rotate_left
  · intro w'
    go_simp
    with_reducible rfl
  rotate_left
  · simp only [Act.put, List.setIfInBounds_toArray, List.set_cons_zero, List.set_cons_succ, i64_w, i32_w]
    rfl
  refine pure_ (i := 3) (N := some 19) (v := ?_) (a' := ?_) #[true, true, false, true, false, false, false, false, false, false, false] rfl rfl (by kernel_rfl) (fun _ _ _ h => h) (Or.inl ⟨by rfl, ?_⟩) ?_ ?_
  rotate_left
  · intro w'
    go_simp
    with_reducible rfl
  rotate_left
  · simp only [Act.put, List.setIfInBounds_toArray, List.set_cons_zero, List.set_cons_succ, i64_w, i32_w]
    rfl
  refine take_ (i := 4) (N := some 20) (v := ?_) (a' := ?_) #[true, true, false, true, true, false, false, false, false, false, false] rfl rfl (by kernel_rfl) (fun _ _ _ h => h) (Or.inl ⟨by rfl, ?_⟩) hHeld ?_ ?_
  rotate_left
  · rintro w' ⟨s0, s1, s2, s3, s4, s5, s6, s7, s8, s9, s10, s11, s12⟩
    go_simp
    with_reducible rfl
  rotate_left
  · simp only [Act.put, List.setIfInBounds_toArray, List.set_cons_zero, List.set_cons_succ, i64_w, i32_w]
    rfl
  refine take_ (i := 7) (N := some 23) (v := ?_) (a' := ?_) #[true, true, false, true, true, false, false, true, false, false, false] rfl rfl (by kernel_rfl) (fun _ _ _ h => h) (Or.inl ⟨by rfl, ?_⟩) hHeld ?_ ?_
  rotate_left
  · rintro w' ⟨s0, s1, s2, s3, s4, s5, s6, s7, s8, s9, s10, s11, s12⟩
    go_simp
    with_reducible rfl
  rotate_left
  · simp only [Act.put, List.setIfInBounds_toArray, List.set_cons_zero, List.set_cons_succ, i64_w, i32_w]
    rfl
  refine one_ (i := 2) (N := some 18) #[true, true, true, true, true, false, false, true, false, false, false] rfl rfl (by kernel_rfl) (by decide) (fun K hK => ?_)
  refine goes_ Try.func46 (by kernel_rfl) rfl #[.slice A l.length c] (by rfl) rfl rfl (by simp only [List.map_toArray, List.map_cons, List.map_nil]; rfl) ?_
  with_reducible refine (clone_calls (Kd.C_drew (Kd.C_below HR.out HB5.out)) rfl HC.out HL.out).mono ?_
  rintro e w6 ⟨v, rfl, ho, hb6⟩
  obtain ⟨g, cc, ev, hgb⟩ := rb_form ho H0.out
  subst ev
  refine ⟨_, rfl, ?_⟩
  have HX := Aside0.mk (((Below.refl (g5 + 1) w5).drew).trans (hb6.mono (blk_lt HZ5.out)))
  have HRW := Aside0.mk ho
  have HGB := Aside0.mk hgb
  clear ho hb6 hgb
  refine hK.out _ _ ⟨(HCZ.out _ HX.out).1, (HCZ.out _ HX.out).2.1, (HCZ.out _ HX.out).2.2.1, (HCZ.out _ HX.out).2.2.2.1, (HCZ.out _ HX.out).2.2.2.2.1, (HCZ.out _ HX.out).2.2.2.2.2.1, (HCZ.out _ HX.out).2.2.2.2.2.2.1, (HCZ.out _ HX.out).2.2.2.2.2.2.2.1, (HCZ.out _ HX.out).2.2.2.2.2.2.2.2.1, (HCZ.out _ HX.out).2.2.2.2.2.2.2.2.2.1, (HCZ.out _ HX.out).2.2.2.2.2.2.2.2.2.2.1, (HCZ.out _ HX.out).2.2.2.2.2.2.2.2.2.2.2.1, (HCZ.out _ HX.out).2.2.2.2.2.2.2.2.2.2.2.2⟩ (fun hHeld => ?_)
  clear hK K
  refine norm_ (a' := ?_) ?_ ?_
  rotate_left
  · show Act.put _ (some 18) _ = _
    simp only [Act.put, List.setIfInBounds_toArray, List.set_cons_zero, List.set_cons_succ, i64_w, i32_w]
    rfl
  refine pure_ (i := 5) (N := some 21) (v := ?_) (a' := ?_) #[true, true, true, true, true, true, false, true, false, false, false] rfl rfl (by kernel_rfl) (fun _ _ _ h => h) (Or.inl ⟨by rfl, ?_⟩) ?_ ?_
  rotate_left
  · intro w'
    go_simp
    with_reducible rfl
  rotate_left
  · simp only [Act.put, List.setIfInBounds_toArray, List.set_cons_zero, List.set_cons_succ, i64_w, i32_w]
    rfl
  refine one_ (i := 6) (N := some 22) #[true, true, true, true, true, true, true, true, false, false, false] rfl rfl (by kernel_rfl) (by decide) (fun K hK => ?_)
  refine value_ (w1 := ?_) (v := ?_) (by rfl) rfl ?_ ?_
  rotate_left 2
  · go_simp
    constructor
    · rfl
    · rfl
  refine hK.out _ _ ⟨(HCZ.out _ (HX.out.alloc (Nat.le_trans (blk_lt HZ5.out) HX.out.size) _)).1, (HCZ.out _ (HX.out.alloc (Nat.le_trans (blk_lt HZ5.out) HX.out.size) _)).2.1, (HCZ.out _ (HX.out.alloc (Nat.le_trans (blk_lt HZ5.out) HX.out.size) _)).2.2.1, (HCZ.out _ (HX.out.alloc (Nat.le_trans (blk_lt HZ5.out) HX.out.size) _)).2.2.2.1, (HCZ.out _ (HX.out.alloc (Nat.le_trans (blk_lt HZ5.out) HX.out.size) _)).2.2.2.2.1, (HCZ.out _ (HX.out.alloc (Nat.le_trans (blk_lt HZ5.out) HX.out.size) _)).2.2.2.2.2.1, (HCZ.out _ (HX.out.alloc (Nat.le_trans (blk_lt HZ5.out) HX.out.size) _)).2.2.2.2.2.2.1, (HCZ.out _ (HX.out.alloc (Nat.le_trans (blk_lt HZ5.out) HX.out.size) _)).2.2.2.2.2.2.2.1, (HCZ.out _ (HX.out.alloc (Nat.le_trans (blk_lt HZ5.out) HX.out.size) _)).2.2.2.2.2.2.2.2.1, (HCZ.out _ (HX.out.alloc (Nat.le_trans (blk_lt HZ5.out) HX.out.size) _)).2.2.2.2.2.2.2.2.2.1, (HCZ.out _ (HX.out.alloc (Nat.le_trans (blk_lt HZ5.out) HX.out.size) _)).2.2.2.2.2.2.2.2.2.2.1, (HCZ.out _ (HX.out.alloc (Nat.le_trans (blk_lt HZ5.out) HX.out.size) _)).2.2.2.2.2.2.2.2.2.2.2.1, (HCZ.out _ (HX.out.alloc (Nat.le_trans (blk_lt HZ5.out) HX.out.size) _)).2.2.2.2.2.2.2.2.2.2.2.2⟩ (fun hHeld => ?_)
  clear hK K
  refine norm_ (a' := ?_) ?_ ?_
  rotate_left
  · show Act.put _ (some 22) _ = _
    simp only [Act.put, List.setIfInBounds_toArray, List.set_cons_zero, List.set_cons_succ, i64_w, i32_w]
    rfl
  refine pure_ (i := 8) (N := some 2) (v := ?_) (a' := ?_) #[true, true, true, true, true, true, true, true, true, false, false] rfl rfl (by kernel_rfl) (fun _ _ _ h => h) (Or.inl ⟨by rfl, ?_⟩) ?_ ?_
  rotate_left
  · intro w'
    go_simp
    with_reducible rfl
  rotate_left
  · simp only [Act.put, List.setIfInBounds_toArray, List.set_cons_zero, List.set_cons_succ, i64_w, i32_w]
    rfl
  refine last_ (i := 9) (N := none) #[true, true, true, true, true, true, true, true, true, true, false] rfl rfl (by kernel_rfl) (by decide) (fun K hK => ?_)
  have hy_ := ((HX.out.alloc (Nat.le_trans (blk_lt HZ5.out) HX.out.size) (.cells #[.slice A l.length c, .slice (some ⟨g, 0, none⟩) l.length cc, .bool p9] 72)).block w.heap.size (Nat.lt_succ_of_lt HLT.out)).trans HY5.out
  obtain ⟨y0, y1, y2, y3, y4, y5, y6, y7, y8, y9, y10, y11, y12⟩ := c13 hy_
  obtain ⟨u0, u1, u2, u3, u4, u5, u6, u7, u8, u9, u10, u11, u12⟩ := f13 hy_
  clear hy_
  refine skip_ (w1 := ?_) (by rfl) rfl ?_ ?_
  rotate_left
  · go_simp
    rfl
  refine hK.out _ _ ?_
  clear hK K
  refine pure_ (i := 10) (N := some 4) (v := ?_) (a' := ?_) #[true, true, true, true, true, true, true, true, true, true, true] rfl rfl (by kernel_rfl) (fun _ _ _ h => h) (Or.inl ⟨by rfl, ?_⟩) ?_ ?_
  rotate_left
  · intro w'
    go_simp
    with_reducible rfl
  rotate_left
  · simp only [Act.put, List.setIfInBounds_toArray, List.set_cons_zero, List.set_cons_succ, i64_w, i32_w]
    rfl
  refine done_ (by kernel_rfl) ?_
  go_wp2
  (try simp only [Exit.inBlock, Exit.then])
  have hlt6 := Kd.R_lt HRW.out g (by simp [Value.ownBlock])
  have hgb := HGB.out
  have hs5 : w5.drew.heap.size = w5.heap.size := rfl
  have h1 := HLT.out
  have h2 := blk_lt HZ5.out
  have h3 := HX.out.size
  have HB6 := HB5.out.trans (HX.out.mono (show w.heap.size ≤ g5 + 1 by omega))
  have HB7 := HB6.alloc (by omega) (.cells #[.slice A l.length c, .slice (some ⟨g, 0, none⟩) l.length cc, .bool p9] 72)
  refine bodyPost_ret (v := .tuple #[.pointer (some ⟨w6.heap.size, 0, none⟩), .agg #[.int .i64 p0, .int .i64 p1, .int .i64 p2, .int .i64 p3, .int .i64 p4, .int .i64 p5, .int .i64 p6, .int .i64 p7, .int .i64 p8, .bool p9, .int .i64 p10, .slice A1 p11.length c1, .slice A2 p12.length c2], .int .i64 0]) ?_ rfl ⟨w6.heap.size, g, cc, A1, c1, A2, c2, rfl, ?_⟩
  · rw [results_tct rfl]
    go_simp
  · refine ⟨(lay13_far (by omega) _ _ _ _ _ _ _ _ _ _ _ _ _).trans (new_blk w6 _), RB_move HRW.out (by omega) (fun k hk hlt => (lay13_far (by omega) _ _ _ _ _ _ _ _ _ _ _ _ _).trans (Below.heap_alloc w6 _ k hlt)), HR.out, HC.out, rfl, by omega, by omega, by omega, lay13_below HB7 (Nat.le_refl _) _ _ _ _ _ _ _ _ _ _ _ _ _⟩
end Go.Proofs.Ytbjhmifhmojaoaa.WB

namespace Go.Proofs.Ytbjhmifhmojaoaa.WB
set_option linter.unusedVariables false
set_option linter.unusedSimpArgs false
open Go.RowKit Go.Proofs.Ytbjhmifhmojaoaa.Hp Go.Proofs.Ytbjhmifhmojaoaa.SB Go.Proofs.YtbjhmifhmojaoaaW.PrintWords Go.Proofs.YtbjhmifhmojaoaaW.PrintLast Go.Proofs.YtbjhmifhmojaoaaW.PrintMore

/-- A pair of bytes, a 0 behind an odd one at the end. -/
def pairL (l : List Int) (i : Nat) : Int := if i + 1 = l.length then l.getD i 0 * 256 else numL l i 2
theorem num2_b {l : List Int} (hb : Bytes l) (i : Nat) : 0 ≤ numL l i 2 ∧ numL l i 2 ≤ 65535 := by
  have := numL_b hb i 2
  omega
theorem pairL_b {l : List Int} (hb : Bytes l) (i : Nat) : 0 ≤ pairL l i ∧ pairL l i ≤ 65535 := by
  unfold pairL
  split
  · have := getD_byte hb i; omega
  · exact num2_b hb i
theorem pair_f {l : List Int} {k : Nat} (hb : Bytes l) (i : Nat) (hi : i < l.length) (hl : l.length ≤ 100000) (hk : 5 ≤ k) : wire_pair.f k l i = some (pairL l i) := by
  unfold wire_pair.f pairL
  have b := getD_byte hb i
  rw [wid (n := (i : Int) + 1) (by omega) (by omega)]
  by_cases h : i + 1 = l.length
  · rw [if_pos (by omega), if_pos (by omega), if_pos (by omega), if_pos h, rd_nat, wid (n := l.getD i 0) (by omega) (by omega), wid (by omega) (by omega)]
  · rw [if_neg (by omega), if_neg h, show (2 : Int) = ((2 : Nat) : Int) from rfl, get_f hb i 2 (by omega) (by omega) hl hk, Option.bind_some]
theorem pair_calls {A : Option Addr} {c n : Nat} {l : List Int} {w : World} (i : Nat) {iz : Int} (hr : Kd.C (Kd.int .u8) w A n l) (hn : l.length = n) (hc : n ≤ c) (hb : Bytes l) (hl : l.length ≤ 100000) (h1 : iz = i) (hi : i < l.length) :
    Calls Try.prog 61 #[.slice A n c, .int .i64 iz] w fun e w' => e = .returned (.int .i64 (pairL l i)) ∧ Drawn0 w w' := by
  subst hn h1
  exact wire_pair.calls 5 A c l i _ w hr hc (pair_f hb i hi hl (Nat.le_refl _))
theorem turn_calls {s a b : Int} (hs : 0 ≤ s) (hs' : s ≤ 65535) (ha : 0 ≤ a) (ha' : a ≤ 65535) (hb : 0 ≤ b) (hb' : b ≤ 65535) (w : World) :
    Calls Try.prog 60 #[.int .i64 s, .int .i64 a, .int .i64 b] w fun e w' => e = .returned (.int .i64 (turn s a b)) ∧ Drawn0 w w' :=
  sum_Turn.calls s a b _ w (turn_f hs hs' ha ha' hb hb')
/-- A sum turned by the pairs from i on, k of them. -/
def turnS (was L : List Int) : Nat → Nat → Int → Int
  | 0, _, s => s
  | k + 1, i, s => turnS was L k (i + 2) (turn s (pairL was i) (pairL L i))
theorem turnS_b {was L : List Int} (h1 : Bytes was) (h2 : Bytes L) : ∀ (k i : Nat) (s : Int), 0 ≤ s → s ≤ 65535 → 0 ≤ turnS was L k i s ∧ turnS was L k i s ≤ 65535
  | 0, _, _, a, b => ⟨a, b⟩
  | k + 1, i, s, a, b => by
    have p1 := pairL_b h1 i
    have p2 := pairL_b h2 i
    have t := turn_bounds a b p1.1 p1.2 p2.1 p2.2
    exact turnS_b h1 h2 k (i + 2) _ t.1 t.2
/-- (i + n) / 2 - i / 2 pairs, rounded up: how many an even walk from i (rounded down) below i + n takes. -/
def pairsN (i n : Nat) : Nat := (i + n + 1) / 2 - i / 2
end Go.Proofs.Ytbjhmifhmojaoaa.WB

namespace Go.Proofs.Ytbjhmifhmojaoaa.WB
set_option linter.unusedVariables false
set_option linter.unusedSimpArgs false
open Go.RowKit Go.Proofs.Ytbjhmifhmojaoaa.Hp Go.Proofs.Ytbjhmifhmojaoaa.SB Go.Proofs.YtbjhmifhmojaoaaW.PrintWords Go.Proofs.YtbjhmifhmojaoaaW.PrintLast Go.Proofs.YtbjhmifhmojaoaaW.PrintMore

theorem c3 {w : World} {g t : Nat} {a0 a1 a2 : Value} (h : w.heap[g]? = some (.cells #[a0, a1, a2] t (0, 0))) : w.cell? ⟨g, 0, none⟩ = some a0 ∧ w.cell? ⟨g, 1, none⟩ = some a1 ∧ w.cell? ⟨g, 2, none⟩ = some a2 := by
  simp [World.cell?, h]
set_option maxHeartbeats 2000000 in
set_option maxRecDepth 100000 in
theorem tturn_calls {w0 w : World} {t g : Nat} {A : Option Addr} {c cc : Nat} {was L : List Int} {bare : Bool} (h : Tur w0 w t g A c cc was L bare) (hbw : Bytes was) (hbl : Bytes L) (hl : was.length ≤ 10000) (place at_ n : Nat) {pz az nz : Int} (e1 : pz = place) (e2 : az = at_) (e3 : nz = n)
    (hp : place + 2 ≤ was.length) (ha : at_ + n ≤ was.length) (hand : Go.bits .andNot .i64 az 1 = ((at_ / 2 * 2 : Nat) : Int)) :
    Calls Try.prog 57 #[.pointer (some ⟨t, 0, none⟩), .int .i64 pz, .int .i64 az, .int .i64 nz] w fun e w' => e = .returned (.tuple #[]) ∧ Tur w0 w' t g A c cc was (putL L place 2 (turnS was L (pairsN at_ n) (at_ / 2 * 2) (numL L place 2))) bare := by
  have HT := Aside0.mk h
  obtain ⟨T0, T1, T2⟩ := c3 h.blk
  have HBW := Aside0.mk hbw
  have HBL := Aside0.mk hbl
  have HL := Aside0.mk (show was.length ≤ 100000 by omega)
  have HLL := Aside0.mk (show L.length ≤ 100000 by rw [h.len]; omega)
  have HRR := Aside0.mk (Kd.R_reads' h.row)
  have HRD := Aside0.mk (Kd.C_below h.rd h.below)
  have HRL : Aside0 (Kd.C (Kd.int .u8) w (some ⟨g, 0, none⟩) was.length L) := Aside0.mk (by have := HRR.out.2.2; rw [← HRR.out.1] at this; exact this)
  have HCC := Aside0.mk HRR.out.2.1
  have G0 := Aside0.mk (get_calls (l := L) (w := w) place 2 (iz := pz) (mz := 2) HRL.out h.len HCC.out hbl HLL.out e1 rfl (by omega) (by rw [h.len]; omega))
  have E1 := Aside0.mk e1
  have E2 := Aside0.mk e2
  have E3 := Aside0.mk e3
  have HPA := Aside0.mk (And.intro hp ha)
  have HL4 := Aside0.mk hl
  have hwe : wrap64 (az + nz) = az + nz := wid (by omega) (by omega)
  clear e1 e2 e3 hp ha hbw hbl hl h
  obtain ⟨R, hR⟩ : ∃ R, turnS was L (pairsN at_ n) (at_ / 2 * 2) (numL L place 2) = R := ⟨_, rfl⟩
  rw [hR]
  have HRE := Aside0.mk hR
  clear hR
  go_enter Try.func57, Try.ntmps57
  go_wp2_with (first | (go_at_call 45; (with_reducible refine G0.out.mono ?_); rintro e w1 ⟨rfl, ⟨⟨nd, rfl⟩⟩⟩))
  clear hand
  have HNB := Aside0.mk (num2_b HBL.out place)
  go_loopg [8, 9] (pairsN at_ n) (fun kq v8 v9 w' => ∃ (i : Nat) (s : Int), v8 = .int .i64 s ∧ v9 = .int .i64 (i : Int) ∧ Aside (kq = (at_ + n + 1) / 2 - i / 2) ∧ Aside (i % 2 = 0) ∧ Aside (0 ≤ s ∧ s ≤ 65535) ∧ Aside (turnS was L kq i s = R) ∧ Drawn0 w w')
  case atStart =>
    exact ⟨at_ / 2 * 2, _, rfl, by simp, (by show _ = _; unfold pairsN; omega), (by show _ = _; omega), HNB.out, HRE.out, ⟨⟨nd, rfl⟩⟩⟩
  case round =>
    obtain ⟨i, s, rfl, rfl, hk, hev, hsb, hr, ⟨⟨nd', rfl⟩⟩⟩ := hrel
    have HKQ := Aside0.mk hk.out
    have HEV := Aside0.mk hev.out
    have HSB := Aside0.mk hsb.out
    have HRR2 := Aside0.mk hr.out
    clear hk hev hsb hr
    by_cases hlt : (i : Int) < az + nz
    · have hd : decide ((i : Int) < az + nz) = true := decide_eq_true hlt
      have HI := Aside0.mk (show i < was.length from by have := HPA.out; have := E2.out; have := E3.out; omega)
      have HLT2 := Aside0.mk hlt
      clear hlt
      go_upto_region 4 with fail
      refine start_ (n := 15) (S := fun w' => w'.cell? ⟨t, 0, none⟩ = some (.slice A was.length c) ∧ w'.cell? ⟨t, 1, none⟩ = some (.slice (some ⟨g, 0, none⟩) was.length cc) ∧ w'.cell? ⟨t, 2, none⟩ = some (.bool bare)) (ds := []) #[false, false, false, false, false, false, false, false, false, false, false, false, false, false, false] (by kernel_rfl) rfl rfl ⟨T0, T1, T2⟩ (fun hHeld => ?_)
      refine pure_ (i := 0) (N := some 25) (v := ?_) (a' := ?_) #[true, false, false, false, false, false, false, false, false, false, false, false, false, false, false] rfl rfl (by kernel_rfl) (fun _ _ _ h => h) (Or.inl ⟨by rfl, ?_⟩) ?_ ?_
      rotate_left
      · intro w'
        go_simp
        with_reducible rfl
      rotate_left
      · simp only [Act.put, List.setIfInBounds_toArray, List.set_cons_zero, List.set_cons_succ, i64_w, i32_w]
        rfl
      refine pure_ (i := 1) (N := some 26) (v := ?_) (a' := ?_) #[true, true, false, false, false, false, false, false, false, false, false, false, false, false, false] rfl rfl (by kernel_rfl) (fun _ _ _ h => h) (Or.inl ⟨by rfl, ?_⟩) ?_ ?_
      rotate_left
      · intro w'
        go_simp
        with_reducible rfl
      rotate_left
      · simp only [Act.put, List.setIfInBounds_toArray, List.set_cons_zero, List.set_cons_succ, i64_w, i32_w]
        rfl
      refine pure_ (i := 2) (N := some 27) (v := ?_) (a' := ?_) #[true, true, true, false, false, false, false, false, false, false, false, false, false, false, false] rfl rfl (by kernel_rfl) (fun _ _ _ h => h) (Or.inl ⟨by rfl, ?_⟩) ?_ ?_
      rotate_left
      · intro w'
        go_simp
        with_reducible rfl
      rotate_left
      · simp only [Act.put, List.setIfInBounds_toArray, List.set_cons_zero, List.set_cons_succ, i64_w, i32_w]
        rfl
      refine pure_ (i := 3) (N := some 28) (v := ?_) (a' := ?_) #[true, true, true, true, false, false, false, false, false, false, false, false, false, false, false] rfl rfl (by kernel_rfl) (fun _ _ _ h => h) (Or.inl ⟨by rfl, ?_⟩) ?_ ?_
      rotate_left
      · intro w'
        go_simp
        with_reducible rfl
      rotate_left
      · simp only [Act.put, List.setIfInBounds_toArray, List.set_cons_zero, List.set_cons_succ, i64_w, i32_w]
        rfl
      refine pure_ (i := 5) (N := some 30) (v := ?_) (a' := ?_) #[true, true, true, true, false, true, false, false, false, false, false, false, false, false, false] rfl rfl (by kernel_rfl) (fun _ _ _ h => h) (Or.inl ⟨by rfl, ?_⟩) ?_ ?_
      rotate_left
      · intro w'
        go_simp
        with_reducible rfl
      rotate_left
      · simp only [Act.put, List.setIfInBounds_toArray, List.set_cons_zero, List.set_cons_succ, i64_w, i32_w]
        rfl
      refine pure_ (i := 7) (N := some 32) (v := ?_) (a' := ?_) #[true, true, true, true, false, true, false, true, false, false, false, false, false, false, false] rfl rfl (by kernel_rfl) (fun _ _ _ h => h) (Or.inl ⟨by rfl, ?_⟩) ?_ ?_
      rotate_left
      · intro w'
        go_simp
        with_reducible rfl
      rotate_left
      · simp only [Act.put, List.setIfInBounds_toArray, List.set_cons_zero, List.set_cons_succ, i64_w, i32_w]
        rfl
      refine pure_ (i := 8) (N := some 33) (v := ?_) (a' := ?_) #[true, true, true, true, false, true, false, true, true, false, false, false, false, false, false] rfl rfl (by kernel_rfl) (fun _ _ _ h => h) (Or.inl ⟨by rfl, ?_⟩) ?_ ?_
      rotate_left
      · intro w'
        go_simp
        with_reducible rfl
      rotate_left
      · simp only [Act.put, List.setIfInBounds_toArray, List.set_cons_zero, List.set_cons_succ, i64_w, i32_w]
        rfl
      refine pure_ (i := 9) (N := some 34) (v := ?_) (a' := ?_) #[true, true, true, true, false, true, false, true, true, true, false, false, false, false, false] rfl rfl (by kernel_rfl) (fun _ _ _ h => h) (Or.inl ⟨by rfl, ?_⟩) ?_ ?_
      rotate_left
      · intro w'
        go_simp
        with_reducible rfl
      rotate_left
      · simp only [Act.put, List.setIfInBounds_toArray, List.set_cons_zero, List.set_cons_succ, i64_w, i32_w]
        rfl
      refine pure_ (i := 11) (N := some 36) (v := ?_) (a' := ?_) #[true, true, true, true, false, true, false, true, true, true, false, true, false, false, false] rfl rfl (by kernel_rfl) (fun _ _ _ h => h) (Or.inl ⟨by rfl, ?_⟩) ?_ ?_
      rotate_left
      · intro w'
        go_simp
        with_reducible rfl
      rotate_left
      · simp only [Act.put, List.setIfInBounds_toArray, List.set_cons_zero, List.set_cons_succ, i64_w, i32_w]
        rfl
      refine take_ (i := 4) (N := some 29) (v := ?_) (a' := ?_) #[true, true, true, true, true, true, false, true, true, true, false, true, false, false, false] rfl rfl (by kernel_rfl) (fun _ _ _ h => h) (Or.inl ⟨by rfl, ?_⟩) hHeld ?_ ?_
      rotate_left
      · rintro w' ⟨s0, s1, s2⟩
        go_simp
        with_reducible rfl
      rotate_left
      · simp only [Act.put, List.setIfInBounds_toArray, List.set_cons_zero, List.set_cons_succ, i64_w, i32_w]
        rfl
      refine take_ (i := 10) (N := some 35) (v := ?_) (a' := ?_) #[true, true, true, true, true, true, false, true, true, true, true, true, false, false, false] rfl rfl (by kernel_rfl) (fun _ _ _ h => h) (Or.inl ⟨by rfl, ?_⟩) hHeld ?_ ?_
      rotate_left
      · rintro w' ⟨s0, s1, s2⟩
        go_simp
        with_reducible rfl
      rotate_left
      · simp only [Act.put, List.setIfInBounds_toArray, List.set_cons_zero, List.set_cons_succ, i64_w, i32_w]
        rfl
      refine one_ (i := 6) (N := some 31) #[true, true, true, true, true, true, true, true, true, true, true, true, false, false, false] rfl rfl (by kernel_rfl) (by decide) (fun K hK => ?_)
      refine goes_ Try.func61 (by kernel_rfl) rfl #[.slice A was.length c, .int .i64 (i : Int)] (by rfl) rfl rfl (by simp only [List.map_toArray, List.map_cons, List.map_nil]; rfl) ?_
      with_reducible refine (pair_calls (l := was) i (by repeat (first | with_reducible exact HRD.out | (with_reducible refine Kd.C_drewN ?_ _) | (with_reducible refine Kd.C_drew ?_))) rfl HT.out.le HBW.out HL.out rfl HI.out).mono ?_
      rintro e w3 ⟨rfl, ⟨⟨nq, rfl⟩⟩⟩
      refine ⟨_, rfl, ?_⟩
      refine hK.out _ _ ⟨T0, T1, T2⟩ (fun hHeld => ?_)
      clear hK K
      refine norm_ (a' := ?_) ?_ ?_
      rotate_left
      · show Act.put _ (some 31) _ = _
        simp only [Act.put, List.setIfInBounds_toArray, List.set_cons_zero, List.set_cons_succ, i64_w, i32_w]
        rfl
      refine one_ (i := 12) (N := some 37) #[true, true, true, true, true, true, true, true, true, true, true, true, true, false, false] rfl rfl (by kernel_rfl) (by decide) (fun K hK => ?_)
      refine goes_ Try.func61 (by kernel_rfl) rfl #[.slice (some ⟨g, 0, none⟩) was.length cc, .int .i64 (i : Int)] (by rfl) rfl rfl (by simp only [List.map_toArray, List.map_cons, List.map_nil]; rfl) ?_
      with_reducible refine (pair_calls (l := L) i (by repeat (first | with_reducible exact HRL.out | (with_reducible refine Kd.C_drewN ?_ _) | (with_reducible refine Kd.C_drew ?_))) HT.out.len HCC.out HBL.out HLL.out rfl (by rw [HT.out.len]; exact HI.out)).mono ?_
      rintro e w3 ⟨rfl, ⟨⟨nq, rfl⟩⟩⟩
      refine ⟨_, rfl, ?_⟩
      refine hK.out _ _ ⟨T0, T1, T2⟩ (fun hHeld => ?_)
      clear hK K
      refine norm_ (a' := ?_) ?_ ?_
      rotate_left
      · show Act.put _ (some 37) _ = _
        simp only [Act.put, List.setIfInBounds_toArray, List.set_cons_zero, List.set_cons_succ, i64_w, i32_w]
        rfl
      refine one_ (i := 13) (N := some 38) #[true, true, true, true, true, true, true, true, true, true, true, true, true, true, false] rfl rfl (by kernel_rfl) (by decide) (fun K hK => ?_)
      refine goes_ Try.func60 (by kernel_rfl) rfl #[.int .i64 s, .int .i64 (pairL was i), .int .i64 (pairL L i)] (by rfl) rfl rfl (by simp only [List.map_toArray, List.map_cons, List.map_nil]; rfl) ?_
      with_reducible refine (turn_calls HSB.out.1 HSB.out.2 (pairL_b HBW.out i).1 (pairL_b HBW.out i).2 (pairL_b HBL.out i).1 (pairL_b HBL.out i).2 _).mono ?_
      rintro e w3 ⟨rfl, ⟨⟨nq, rfl⟩⟩⟩
      refine ⟨_, rfl, ?_⟩
      refine hK.out _ _ ⟨T0, T1, T2⟩ (fun hHeld => ?_)
      clear hK K
      refine norm_ (a' := ?_) ?_ ?_
      rotate_left
      · show Act.put _ (some 38) _ = _
        simp only [Act.put, List.setIfInBounds_toArray, List.set_cons_zero, List.set_cons_succ, i64_w, i32_w]
        rfl
      refine pure_ (i := 14) (N := some 8) (v := ?_) (a' := ?_) #[true, true, true, true, true, true, true, true, true, true, true, true, true, true, true] rfl rfl (by kernel_rfl) (fun _ _ _ h => h) (Or.inl ⟨by rfl, ?_⟩) ?_ ?_
      rotate_left
      · intro w'
        go_simp
        with_reducible rfl
      rotate_left
      · simp only [Act.put, List.setIfInBounds_toArray, List.set_cons_zero, List.set_cons_succ, i64_w, i32_w]
        rfl
      refine done_ (by kernel_rfl) ?_
      have HT2 := Aside0.mk (turn_bounds HSB.out.1 HSB.out.2 (pairL_b HBW.out i).1 (pairL_b HBW.out i).2 (pairL_b HBL.out i).1 (pairL_b HBL.out i).2)
      have hi2 : wrap64 ((i : Int) + 2) = ((i + 2 : Nat) : Int) := by have := HI.out; have := HL.out; rw [wid (by omega) (by omega)]; omega
      have HGK := Aside0.mk (show 0 < gk from by have := HKQ.out; have := HEV.out; have := HLT2.out; have := E2.out; have := E3.out; omega)
      have HRN := Aside0.mk (show turnS was L (gk - 1) (i + 2) (turn s (pairL was i) (pairL L i)) = R from by
        have h1 := HRR2.out
        obtain ⟨m, hm⟩ : ∃ m, gk = m + 1 := ⟨gk - 1, by have := HGK.out; omega⟩
        rw [hm] at h1 ⊢
        exact h1)
      clear hHeld
      go_wp2
      go_roundg (gk - 1)
      case measure => have := HGK.out; omega
      case rel => exact ⟨i + 2, _, rfl, (by first | rfl | (show Value.int _ _ = Value.int _ _; rw [hi2])), (by show _ = _; have := HKQ.out; have := HEV.out; omega), (by show _ = _; have := HEV.out; omega), HT2.out, HRN.out, by repeat (first | exact Drawn0.refl _ | apply Drawn0.step)⟩
    · have hd : decide ((i : Int) < az + nz) = false := decide_eq_false hlt
      have hk0 : gk = 0 := by have := HKQ.out; have := HEV.out; have := E2.out; have := E3.out; omega
      have HS := Aside0.mk (show s = R from by have h1 := HRR2.out; rw [hk0] at h1; exact h1)
      clear hlt
      have PR := Aside0.mk (fun nd_ => put_calls (w0 := w0) (w := (w.drewN nd').drewN nd_) (v := .slice (some ⟨g, 0, none⟩) was.length cc) place 2 s (iz := pz) (mz := 2) (bd (bd HT.out.below nd') nd_) (Kd.R_drewN (Kd.R_drewN HT.out.row nd') nd_) HLL.out E1.out rfl (by omega) (by rw [HT.out.len]; exact HPA.out.1))
      have PR0 := Aside0.mk (put_calls (w0 := w0) (w := w.drewN nd') (v := .slice (some ⟨g, 0, none⟩) was.length cc) place 2 s (iz := pz) (mz := 2) (bd HT.out.below nd') (Kd.R_drewN HT.out.row nd') HLL.out E1.out rfl (by omega) (by rw [HT.out.len]; exact HPA.out.1))
      go_wp2_with (first | (go_at_call 36; (with_reducible refine PR0.out.mono ?_); rintro e w9 ⟨rfl, hr9, hb9, hg9⟩))
      have hfin : Tur w0 w9 t g A c cc was (putL L place 2 R) bare := by
        have hb := HT.out.blk
        have hl0 : t < w.heap.size := blk_lt hb
        have hg' : ∀ k, k < w.heap.size → k ≠ g → w9.heap[k]? = w.heap[k]? := fun k hk hne => hg9.block k hk (by simp [Value.ownBlock]; exact hne)
        refine ⟨(hg' t hl0 HT.out.ne).trans hb, by rw [← HS.out]; exact hr9, HT.out.rd, HT.out.le, by rw [putL_len]; exact HT.out.len, HT.out.ne, HT.out.ht, HT.out.hg, hb9⟩
      go_end0
      exact ⟨rfl, hfin⟩
end Go.Proofs.Ytbjhmifhmojaoaa.WB

namespace Go.Proofs.Ytbjhmifhmojaoaa.WB
set_option linter.unusedVariables false
set_option linter.unusedSimpArgs false
open Go.RowKit Go.Proofs.Ytbjhmifhmojaoaa.Hp Go.Proofs.Ytbjhmifhmojaoaa.SB Go.Proofs.YtbjhmifhmojaoaaW.PrintWords Go.Proofs.YtbjhmifhmojaoaaW.PrintLast Go.Proofs.YtbjhmifhmojaoaaW.PrintMore

theorem Tur.drewN {w0 w : World} {t g : Nat} {A : Option Addr} {c cc : Nat} {was L : List Int} {bare : Bool} (h : Tur w0 w t g A c cc was L bare) (n : Nat) : Tur w0 (w.drewN n) t g A c cc was L bare :=
  ⟨h.blk, Kd.R_drewN h.row n, h.rd, h.le, h.len, h.ne, h.ht, h.hg, bd h.below n⟩
/-- Where a body's sum is. -/
def placeL (l : List Int) : Nat := if l.getD 0 0 = 3 then 18 else 22
/-- A sum at a place, turned by the pairs that some bytes touch. -/
def turnL (was L : List Int) (place at_ n : Nat) : List Int := putL L place 2 (turnS was L (pairsN at_ n) (at_ / 2 * 2) (numL L place 2))
theorem turnL_bytes {was L : List Int} (h : Bytes L) (p a n : Nat) : Bytes (turnL was L p a n) := putL_bytes _ _ _ h
/-- What body lays. -/
def bodyT (bare : Bool) (was L : List Int) (at_ n : Nat) : List Int := if bare = true then L else turnL was L (placeL L) at_ n
set_option maxHeartbeats 1000000 in
set_option maxRecDepth 100000 in
theorem tbody_calls {w0 w : World} {t g : Nat} {A : Option Addr} {c cc : Nat} {was L : List Int} {bare : Bool} (h : Tur w0 w t g A c cc was L bare) (hbw : Bytes was) (hbl : Bytes L) (hl : was.length ≤ 10000) (at_ n : Nat) {az nz : Int} (e2 : az = at_) (e3 : nz = n)
    (hp : placeL L + 2 ≤ was.length) (ha : at_ + n ≤ was.length) (hand : Go.bits .andNot .i64 az 1 = ((at_ / 2 * 2 : Nat) : Int)) :
    Calls Try.prog 50 #[.pointer (some ⟨t, 0, none⟩), .int .i64 az, .int .i64 nz] w fun e w' => e = .returned (.tuple #[]) ∧ Tur w0 w' t g A c cc was (bodyT bare was L at_ n) bare := by
  obtain ⟨T0, T1, T2⟩ := c3 h.blk
  have HT := Aside0.mk h
  have b0 := getD_byte hbl 0
  have r0 := rb_cell h.row 0 (by omega)
  obtain ⟨x, hx⟩ : ∃ x, L.getD 0 0 = x := ⟨_, rfl⟩
  rw [hx] at b0 r0
  have wx : wrap64 x = x := wid (by omega) (by omega)
  have i0 : (0 : Int) < (was.length : Int) := by omega
  have i0n : 0 < was.length := by omega
  have G39 := Aside0.mk (fun W => wire_sumPlace.calls x (placeL L) W (by unfold wire_sumPlace.f placeL; rw [hx]; split <;> rfl))
  have G57 := Aside0.mk (fun (nd : Nat) => tturn_calls (h.drewN nd) hbw hbl hl (placeL L) at_ n (pz := (placeL L : Int)) rfl e2 e3 hp ha hand)
  clear h hbw hbl hl e2 e3 hp ha hand hx
  cases bare with
  | true =>
    go_enter Try.func50, Try.ntmps50
    go_wp2
    go_end0
    exact ⟨rfl, HT.out⟩
  | false =>
    go_enter Try.func50, Try.ntmps50
    go_wp2_with (first
      | (go_at_call 39; (with_reducible refine (G39.out _).mono ?_); rintro e w1 ⟨rfl, ⟨⟨nd, rfl⟩⟩⟩)
      | (go_at_call 57; (with_reducible refine (G57.out _).mono ?_); rintro e w2 ⟨rfl, ht⟩; have HX := Aside0.mk ht; clear ht))
    go_end0
    exact ⟨rfl, HX.out⟩
/-- A gram's sum is no nought. -/
def doneL (bare : Bool) (L : List Int) : List Int := if L.getD 0 0 = 2 ∧ bare = false ∧ numL L 22 2 = 0 then putL L 22 2 65535 else L
set_option maxHeartbeats 1000000 in
set_option maxRecDepth 100000 in
theorem tdone_calls {w0 w : World} {t g : Nat} {A : Option Addr} {c cc : Nat} {was L : List Int} {bare : Bool} (h : Tur w0 w t g A c cc was L bare) (hbl : Bytes L) (hl : was.length ≤ 10000) (h24 : 24 ≤ was.length) :
    Calls Try.prog 51 #[.pointer (some ⟨t, 0, none⟩)] w fun e w' => ∃ v, e = .returned v ∧ RB w0.heap.size w' v (doneL bare L) ∧ Below w0.heap.size w0 w' := by
  obtain ⟨T0, T1, T2⟩ := c3 h.blk
  have HT := Aside0.mk h
  have b0 := getD_byte hbl 0
  have r0 := rb_cell h.row 0 (by omega)
  obtain ⟨x, hx⟩ : ∃ x, L.getD 0 0 = x := ⟨_, rfl⟩
  rw [hx] at b0 r0
  have wx : wrap64 x = x := wid (by omega) (by omega)
  have i0 : (0 : Int) < (was.length : Int) := by omega
  have i0n : 0 < was.length := by omega
  have HRR := Aside0.mk (Kd.R_reads' h.row)
  have HRL : Aside0 (Kd.C (Kd.int .u8) w (some ⟨g, 0, none⟩) was.length L) := Aside0.mk (by have := HRR.out.2.2; rw [← HRR.out.1] at this; exact this)
  have G45 := Aside0.mk (get_calls (l := L) (w := w) 22 2 (iz := 22) (mz := 2) HRL.out h.len HRR.out.2.1 hbl (by rw [h.len]; omega) rfl rfl (by omega) (by rw [h.len]; omega))
  have P36 := Aside0.mk (fun nd => put_calls (w0 := w0) (w := w.drewN nd) (v := .slice (some ⟨g, 0, none⟩) was.length cc) 22 2 65535 (iz := 22) (mz := 2) (bd h.below nd) (Kd.R_drewN h.row nd) (by rw [h.len]; omega) rfl rfl (by omega) (by rw [h.len]; omega))
  have HX := Aside0.mk hx
  have HN0 := Aside0.mk h.ne
  have HLT := Aside0.mk (blk_lt h.blk)
  have HBK := Aside0.mk h.blk
  have HDD := Aside0.mk (show doneL bare L = (if x = 2 ∧ bare = false ∧ numL L 22 2 = 0 then putL L 22 2 65535 else L)  from by unfold doneL; rw [hx])
  clear h hbl hl h24 hx
  by_cases h2 : x = 2
  · have q2 : (x == 2) = true := beq_iff_eq.mpr h2
    cases bare with
    | true =>
      go_enter Try.func51, Try.ntmps51
      go_wp2
      go_ret
      exact ⟨_, rfl, by rw [HDD.out, if_neg (by simp)]; exact HT.out.row, HT.out.below⟩
    | false =>
      by_cases hz : numL L 22 2 = 0
      · have qz : (numL L 22 2 == 0) = true := beq_iff_eq.mpr hz
        go_enter Try.func51, Try.ntmps51
        go_wp2_with (first
          | (go_at_call 45; (with_reducible refine G45.out.mono ?_); rintro e w1 ⟨rfl, ⟨⟨nd, rfl⟩⟩⟩)
          | (go_at_call 36; (with_reducible refine (P36.out _).mono ?_); rintro e w2 ⟨rfl, hr, hb, hg⟩; have HRX := Aside0.mk hr; have HBX := Aside0.mk hb; have hz2 := (hg.block t HLT.out (by simp [Value.ownBlock]; exact HN0.out)).trans HBK.out; clear hr hb hg T0 T1 T2; obtain ⟨T0, T1, T2⟩ := c3 hz2; clear hz2))
        go_ret
        exact ⟨_, rfl, by rw [HDD.out, if_pos (by simp [h2, hz])]; exact HRX.out, HBX.out⟩
      · have qz : (numL L 22 2 == 0) = false := beq_eq_false_iff_ne.mpr hz
        go_enter Try.func51, Try.ntmps51
        go_wp2_with (first
          | (go_at_call 45; (with_reducible refine G45.out.mono ?_); rintro e w1 ⟨rfl, ⟨⟨nd, rfl⟩⟩⟩))
        go_ret
        exact ⟨_, rfl, by rw [HDD.out, if_neg (fun h => hz h.2.2)]; exact Kd.R_drewN HT.out.row _, bd HT.out.below _⟩
  · have q2 : (x == 2) = false := beq_eq_false_iff_ne.mpr h2
    go_enter Try.func51, Try.ntmps51
    go_wp2
    go_ret
    exact ⟨_, rfl, by rw [HDD.out, if_neg (fun h => h2 h.1)]; exact HT.out.row, HT.out.below⟩
end Go.Proofs.Ytbjhmifhmojaoaa.WB

namespace Go.Proofs.Ytbjhmifhmojaoaa.WB
set_option linter.unusedVariables false
set_option linter.unusedSimpArgs false
open Go.RowKit Go.Proofs.Ytbjhmifhmojaoaa.Hp Go.Proofs.Ytbjhmifhmojaoaa.SB Go.Proofs.YtbjhmifhmojaoaaW.PrintWords Go.Proofs.YtbjhmifhmojaoaaW.PrintLast Go.Proofs.YtbjhmifhmojaoaaW.PrintMore

theorem Tur.alloc {w0 w : World} {t g : Nat} {A : Option Addr} {c cc : Nat} {was L : List Int} {bare : Bool} (h : Tur w0 w t g A c cc was L bare) (o : Obj) : Tur w0 (w.alloc o) t g A c cc was L bare :=
  ⟨(Below.heap_alloc w o t (blk_lt h.blk)).trans h.blk, Kd.R_alloc h.row o, h.rd, h.le, h.len, h.ne, h.ht, h.hg, h.below.alloc h.below.size o⟩
theorem Tur.set {w0 w : World} {t g : Nat} {A : Option Addr} {c cc : Nat} {was L : List Int} {bare : Bool} (h : Tur w0 w t g A c cc was L bare) (i : Nat) (x : Int) : Tur w0 (w.setCell ⟨g, i, none⟩ (.int .u8 x)) t g A c cc was (L.set i x) bare :=
  ⟨(Below.heap_setCell w ⟨g, i, none⟩ _ t h.ne).trans h.blk, rb_set h.row i x, h.rd, h.le, by rw [List.length_set]; exact h.len, h.ne, h.ht, h.hg, h.below.setCell (p := ⟨g, i, none⟩) h.hg _⟩
/-- What stands behind a call that answers bytes, or an error. -/
def Told (w : World) (r : List Int) (x : Int) (e : Ending) (w' : World) : Prop := ∃ v, e = .returned (.tuple #[v, .int .i64 x]) ∧ RB w.heap.size w' v r ∧ Below w.heap.size w w'
theorem told_nil {w w' : World} {x : Int} (hb : Below w.heap.size w w') : Told w [] x (.returned (.tuple #[.slice none 0 0, .int .i64 x])) w' := ⟨_, rfl, Kd.R_nil _ _ _ _ _, hb⟩
set_option maxHeartbeats 1000000 in
set_option maxRecDepth 100000 in
theorem age_err {A : Option Addr} {c : Nat} {l : List Int} {w : World} (hr : Kd.C (Kd.int .u8) w A l.length l) (hc : l.length ≤ c) (hl : l.length ≤ 10000) (hb : Bytes l) {p0 p1 p2 p3 p4 p5 p6 p7 p8 : Int} {p9 : Bool} {p10 : Int} {p11 p12 : List Int} {x : Int} (hp : parseL l = (⟨p0, p1, p2, p3, p4, p5, p6, p7, p8, p9, p10, p11, p12⟩, x)) (hx : x ≠ 0) :
    Calls Try.prog 30 #[.slice A l.length c] w (Told w [] x) := by
  have q0 : (x == 0) = false := beq_eq_false_iff_ne.mpr hx
  have q0n : (x != 0) = true := bne_iff_ne.mpr hx
  have G := Aside0.mk (begin_err hr hc (by omega) hb hp hx)
  clear hr hc hl hb hp hx
  go_enter Try.func30, Try.ntmps30
  go_wp2_with (first | (go_at_call 49; (with_reducible refine G.out.mono ?_); rintro e w1 ⟨⟨A1, c1, A2, c2, rfl⟩, hb1⟩; have HB1 := Aside0.mk hb1; clear hb1))
  go_ret2
  exact told_nil (HB1.out.alloc HB1.out.size _)
set_option maxHeartbeats 1000000 in
set_option maxRecDepth 100000 in
theorem age_ok {A : Option Addr} {c : Nat} {l : List Int} {w : World} (hr : Kd.C (Kd.int .u8) w A l.length l) (hc : l.length ≤ c) (hl : l.length ≤ 10000) (hb : Bytes l) {p0 p1 p2 p3 p4 p5 p6 p7 p8 : Int} {p9 : Bool} {p10 : Int} {p11 p12 : List Int} (hp : parseL l = (⟨p0, p1, p2, p3, p4, p5, p6, p7, p8, p9, p10, p11, p12⟩, 0)) :
    Calls Try.prog 30 #[.slice A l.length c] w (Told w (if p1 < 2 then [] else doneL p9 (turnL l (l.set 1 ((l.getD 1 0 - 1) % 256)) 14 0 2)) (if p1 < 2 then 7 else 0)) := by
  have G := Aside0.mk (begin_ok hr hc (by omega) hb hp)
  have H24 := Aside0.mk (show 24 ≤ l.length from (head0 (parse0 hp)).1)
  have HY := Aside0.mk hb
  have HL := Aside0.mk hl
  by_cases h2 : p1 < 2
  · rw [if_pos h2, if_pos h2]
    have d2 : decide (p1 < 2) = true := decide_eq_true h2
    clear hr hc hl hb hp h2
    go_enter Try.func30, Try.ntmps30
    go_wp2_with (first | (go_at_call 49; (with_reducible refine G.out.mono ?_); rintro e w1 ⟨t, g, cc, A1, c1, A2, c2, rfl, ht⟩; have HT := Aside0.mk ht; clear ht))
    go_ret2
    exact told_nil (HT.out.below.alloc HT.out.below.size _)
  · rw [if_neg h2, if_neg h2]
    have d2 : decide (p1 < 2) = false := decide_eq_false h2
    clear hr hc hl hb hp h2
    go_enter Try.func30, Try.ntmps30
    go_upto_region 6 with (first | (go_at_call 49; (with_reducible refine G.out.mono ?_); rintro e w1 ⟨t, g, cc, A1, c1, A2, c2, rfl, ht⟩; have HT := Aside0.mk ht; clear ht))
    change Code.wp _ _ _ _ (w1.alloc (.cells #[.int .i64 p0, .int .i64 p1, .int .i64 p2, .int .i64 p3, .int .i64 p4, .int .i64 p5, .int .i64 p6, .int .i64 p7, .int .i64 p8, .bool p9, .int .i64 p10, .slice A1 p11.length c1, .slice A2 p12.length c2] 26))
    have HT1 := Aside0.mk (HT.out.alloc (.cells #[.int .i64 p0, .int .i64 p1, .int .i64 p2, .int .i64 p3, .int .i64 p4, .int .i64 p5, .int .i64 p6, .int .i64 p7, .int .i64 p8, .bool p9, .int .i64 p10, .slice A1 p11.length c1, .slice A2 p12.length c2] 26))
    generalize w1.alloc (.cells #[.int .i64 p0, .int .i64 p1, .int .i64 p2, .int .i64 p3, .int .i64 p4, .int .i64 p5, .int .i64 p6, .int .i64 p7, .int .i64 p8, .bool p9, .int .i64 p10, .slice A1 p11.length c1, .slice A2 p12.length c2] 26) = w2 at HT1 ⊢
    obtain ⟨T0, T1, T2⟩ := c3 HT1.out.blk
    have r1 := rb_cell HT1.out.row 1 (by have := H24.out; omega)
    have s1 := rb_frozen HT1.out.row 1
    have i1 : (1 : Int) < (l.length : Int) := by have := H24.out; omega
    have i1n : 1 < l.length := by have := H24.out; omega
    obtain ⟨x, hx⟩ : ∃ x, l.getD 1 0 = x := ⟨_, rfl⟩
    rw [hx] at r1
    have HX := Aside0.mk hx
    clear hx
    go_upto_region 7 with fail
    generalize hW : World.setCell _ _ _ = w3
    have HT3 : Tur w w3 t g A c cc l (l.set 1 ((x - 1) % 256)) p9 := by rw [← hW]; exact HT1.out.set 1 ((x - 1) % 256)
    have hbs : Bytes (l.set 1 ((x - 1) % 256)) := HY.out.set _ (by omega) (by omega)
    have G57 := Aside0.mk (tturn_calls HT3 HY.out hbs HL.out 14 0 2 (pz := 14) (az := 0) (nz := 2) rfl rfl rfl (by have := H24.out; omega) (by have := H24.out; omega) (by decide))
    have HBT := Aside0.mk (turnL_bytes (was := l) hbs 14 0 2)
    clear hW hbs r1 s1 T0 T1 T2 HT3 HT1 HT
    go_wp2_with (first
      | (go_at_call 57; (with_reducible refine G57.out.mono ?_); rintro e w4 ⟨rfl, ht⟩; have G51 := Aside0.mk (tdone_calls ht HBT.out HL.out H24.out); clear ht)
      | (go_at_call 51; (with_reducible refine G51.out.mono ?_); rintro e w5 ⟨v, rfl, hr, hb⟩; have HRX := Aside0.mk hr; have HBX := Aside0.mk hb; clear hr hb))
    go_ret2
    exact ⟨v, rfl, by rw [HX.out]; exact HRX.out, HBX.out⟩
end Go.Proofs.Ytbjhmifhmojaoaa.WB

namespace Go.Proofs.Ytbjhmifhmojaoaa.WB
set_option linter.unusedVariables false
set_option linter.unusedSimpArgs false
open Go.RowKit Go.Proofs.Ytbjhmifhmojaoaa.Hp Go.Proofs.Ytbjhmifhmojaoaa.SB Go.Proofs.YtbjhmifhmojaoaaW.PrintWords Go.Proofs.YtbjhmifhmojaoaaW.PrintLast Go.Proofs.YtbjhmifhmojaoaaW.PrintMore

theorem tput_calls {w0 w : World} {t g : Nat} {A : Option Addr} {c cc : Nat} {was L : List Int} {bare : Bool} (h : Tur w0 w t g A c cc was L bare) (hl : was.length ≤ 10000) (i m : Nat) (x : Int) {iz mz : Int} (h1 : iz = i) (h2 : mz = m) (hm : m ≤ 4) (hi : i + m ≤ was.length) :
    Calls Try.prog 36 #[.slice (some ⟨g, 0, none⟩) was.length cc, .int .i64 iz, .int .i64 mz, .int .i64 x] w fun e w' => e = .returned (.tuple #[]) ∧ Tur w0 w' t g A c cc was (putL L i m x) bare := by
  refine (put_calls i m x h.below h.row (by rw [h.len]; omega) h1 h2 hm (by rw [h.len]; exact hi)).mono ?_
  rintro e w' ⟨rfl, hr, hb, hg⟩
  exact ⟨rfl, (hg.block t (blk_lt h.blk) (by simp [Value.ownBlock]; exact h.ne)).trans h.blk, hr, h.rd, h.le, by rw [putL_len]; exact h.len, h.ne, h.ht, h.hg, hb⟩
theorem placeL_le (l : List Int) : placeL l ≤ 22 := by unfold placeL; split <;> omega
theorem bodyT_bytes {b : Bool} {was L : List Int} (h : Bytes L) (a n : Nat) : Bytes (bodyT b was L a n) := by
  unfold bodyT
  split
  · exact h
  · exact turnL_bytes h _ _ _
/-- What Nat lays. -/
def natL (bare : Bool) (l : List Int) (a p : Nat) (addr port : Int) : List Int :=
  doneL bare (bodyT bare l (bodyT bare l (turnL l (putL (putL l a 4 addr) p 2 port) 14 a 4) a 4) p 2)
set_option maxHeartbeats 1000000 in
set_option maxRecDepth 100000 in
theorem nat_err {A : Option Addr} {c : Nat} {l : List Int} {w : World} (hr : Kd.C (Kd.int .u8) w A l.length l) (hc : l.length ≤ c) (hl : l.length ≤ 10000) (hb : Bytes l) {p0 p1 p2 p3 p4 p5 p6 p7 p8 : Int} {p9 : Bool} {p10 : Int} {p11 p12 : List Int} (source : Bool) (addr port : Int) {x : Int} (hp : parseL l = (⟨p0, p1, p2, p3, p4, p5, p6, p7, p8, p9, p10, p11, p12⟩, x)) (hx : x ≠ 0) :
    Calls Try.prog 28 #[.slice A l.length c, .bool source, .int .i64 addr, .int .i64 port] w (Told w [] (x)) := by
  have q0 : (x == 0) = false := beq_eq_false_iff_ne.mpr hx
  have q0n : (x != 0) = true := bne_iff_ne.mpr hx
  have G := Aside0.mk (begin_err hr hc (by omega) hb hp hx)
  clear hx
  clear hr hc hl hb hp
  go_enter Try.func28, Try.ntmps28
  go_wp2_with (first | (go_at_call 49; (with_reducible refine G.out.mono ?_); rintro e w1 ⟨⟨A1, c1, A2, c2, rfl⟩, hb1⟩; have HB1 := Aside0.mk hb1; clear hb1))
  go_ret2
  exact told_nil (HB1.out.alloc HB1.out.size _)
set_option maxHeartbeats 1000000 in
set_option maxRecDepth 100000 in
theorem nat_fault {A : Option Addr} {c : Nat} {l : List Int} {w : World} (hr : Kd.C (Kd.int .u8) w A l.length l) (hc : l.length ≤ c) (hl : l.length ≤ 10000) (hb : Bytes l) {p0 p1 p2 p3 p4 p5 p6 p7 p8 : Int} {p9 : Bool} {p10 : Int} {p11 p12 : List Int} (source : Bool) (addr port : Int) (hp : parseL l = (⟨p0, p1, p2, p3, p4, p5, p6, p7, p8, p9, p10, p11, p12⟩, 0)) (hk : p0 = 3) :
    Calls Try.prog 28 #[.slice A l.length c, .bool source, .int .i64 addr, .int .i64 port] w (Told w [] (2)) := by
  have q3 : (p0 == 3) = true := beq_iff_eq.mpr hk
  have G := Aside0.mk (begin_ok hr hc (by omega) hb hp)
  clear hk
  clear hr hc hl hb hp
  go_enter Try.func28, Try.ntmps28
  go_wp2_with (first | (go_at_call 49; (with_reducible refine G.out.mono ?_); rintro e w1 ⟨t, g, cc, A1, c1, A2, c2, rfl, ht⟩; have HT := Aside0.mk ht; clear ht))
  go_ret2
  exact told_nil (HT.out.below.alloc HT.out.below.size _)
set_option maxHeartbeats 1000000 in
set_option maxRecDepth 100000 in
theorem nat_range1 {A : Option Addr} {c : Nat} {l : List Int} {w : World} (hr : Kd.C (Kd.int .u8) w A l.length l) (hc : l.length ≤ c) (hl : l.length ≤ 10000) (hb : Bytes l) {p0 p1 p2 p3 p4 p5 p6 p7 p8 : Int} {p9 : Bool} {p10 : Int} {p11 p12 : List Int} (source : Bool) (addr port : Int) (hp : parseL l = (⟨p0, p1, p2, p3, p4, p5, p6, p7, p8, p9, p10, p11, p12⟩, 0)) (hk : ¬ p0 = 3) (h : rgB addr 4294967295 = false) :
    Calls Try.prog 28 #[.slice A l.length c, .bool source, .int .i64 addr, .int .i64 port] w (Told w [] (14)) := by
  have q3 : (p0 == 3) = false := beq_eq_false_iff_ne.mpr hk
  have G := Aside0.mk (begin_ok hr hc (by omega) hb hp)
  have W1 := Aside0.mk (fun W => wire_within.calls addr 4294967295 false W (by rw [within_ff, h]))
  clear hk h
  clear hr hc hl hb hp
  go_enter Try.func28, Try.ntmps28
  go_wp2_with (first | (go_at_call 49; (with_reducible refine G.out.mono ?_); rintro e w1 ⟨t, g, cc, A1, c1, A2, c2, rfl, ht⟩; have HT := Aside0.mk ht; clear ht) | (go_at_call 56; (with_reducible refine (W1.out _).mono ?_); rintro e w2 ⟨rfl, ⟨⟨nd, rfl⟩⟩⟩))
  go_ret2
  exact told_nil (bd (HT.out.below.alloc HT.out.below.size _) _)
set_option maxHeartbeats 1000000 in
set_option maxRecDepth 100000 in
theorem nat_range2 {A : Option Addr} {c : Nat} {l : List Int} {w : World} (hr : Kd.C (Kd.int .u8) w A l.length l) (hc : l.length ≤ c) (hl : l.length ≤ 10000) (hb : Bytes l) {p0 p1 p2 p3 p4 p5 p6 p7 p8 : Int} {p9 : Bool} {p10 : Int} {p11 p12 : List Int} (source : Bool) (addr port : Int) (hp : parseL l = (⟨p0, p1, p2, p3, p4, p5, p6, p7, p8, p9, p10, p11, p12⟩, 0)) (hk : ¬ p0 = 3) (h : rgB addr 4294967295 = true) (h' : rgB port 65535 = false) :
    Calls Try.prog 28 #[.slice A l.length c, .bool source, .int .i64 addr, .int .i64 port] w (Told w [] (14)) := by
  have q3 : (p0 == 3) = false := beq_eq_false_iff_ne.mpr hk
  have G := Aside0.mk (begin_ok hr hc (by omega) hb hp)
  have W1 := Aside0.mk (fun W => wire_within.calls addr 4294967295 true W (by rw [within_ff, h]))
  have W2 := Aside0.mk (fun W => wire_within.calls port 65535 false W (by rw [within_ff, h']))
  clear hk h h'
  clear hr hc hl hb hp
  go_enter Try.func28, Try.ntmps28
  go_wp2_with (first | (go_at_call 49; (with_reducible refine G.out.mono ?_); rintro e w1 ⟨t, g, cc, A1, c1, A2, c2, rfl, ht⟩; have HT := Aside0.mk ht; clear ht) | (go_at_call 56; (with_reducible refine (W1.out _).mono ?_); rintro e w2 ⟨rfl, ⟨⟨nd, rfl⟩⟩⟩) | (go_at_call 56; (with_reducible refine (W2.out _).mono ?_); rintro e w2 ⟨rfl, ⟨⟨nd, rfl⟩⟩⟩))
  go_ret2
  exact told_nil (bd (HT.out.below.alloc HT.out.below.size _) _)
set_option maxHeartbeats 1000000 in
set_option maxRecDepth 100000 in
theorem nat_ok_true {A : Option Addr} {c : Nat} {l : List Int} {w : World} (hr : Kd.C (Kd.int .u8) w A l.length l) (hc : l.length ≤ c) (hl : l.length ≤ 10000) (hb : Bytes l) {p0 p1 p2 p3 p4 p5 p6 p7 p8 : Int} {p9 : Bool} {p10 : Int} {p11 p12 : List Int} (addr port : Int) (hp : parseL l = (⟨p0, p1, p2, p3, p4, p5, p6, p7, p8, p9, p10, p11, p12⟩, 0)) (hk : ¬ p0 = 3) (h : rgB addr 4294967295 = true) (h' : rgB port 65535 = true) :
    Calls Try.prog 28 #[.slice A l.length c, .bool true, .int .i64 addr, .int .i64 port] w (Told w (natL p9 l 4 16 addr port) 0) := by
  have q3 : (p0 == 3) = false := beq_eq_false_iff_ne.mpr hk
  have G := Aside0.mk (begin_ok hr hc (by omega) hb hp)
  have W1 := Aside0.mk (fun W => wire_within.calls addr 4294967295 true W (by rw [within_ff, h]))
  have W2 := Aside0.mk (fun W => wire_within.calls port 65535 true W (by rw [within_ff, h']))
  have H24 := Aside0.mk (show 24 ≤ l.length from (head0 (parse0 hp)).1)
  have HY := Aside0.mk hb
  have HL := Aside0.mk hl
  clear hr hc hl hb hp hk h h'
  go_enter Try.func28, Try.ntmps28
  go_upto_region 11 with (first | (go_at_call 49; (with_reducible refine G.out.mono ?_); rintro e w1 ⟨t, g, cc, A1, c1, A2, c2, rfl, ht⟩; have HT := Aside0.mk ht; clear ht) | (go_at_call 56; (with_reducible refine (W1.out _).mono ?_); rintro e w2 ⟨rfl, ⟨⟨nd, rfl⟩⟩⟩) | (go_at_call 56; (with_reducible refine (W2.out _).mono ?_); rintro e w2 ⟨rfl, ⟨⟨nd, rfl⟩⟩⟩))
  generalize hW : World.drewN _ _ = w4
  have HT4 : Aside0 (Tur w w4 t g A c cc l l p9) := Aside0.mk (by rw [← hW]; exact (HT.out.alloc _).drewN _)
  clear hW HT
  obtain ⟨T0, T1, T2⟩ := c3 HT4.out.blk
  have P1 := Aside0.mk (tput_calls HT4.out HL.out 4 4 addr (iz := 4) (mz := 4) rfl rfl (by omega) (by have := H24.out; omega))
  go_upto_region 12 with (first | (go_at_call 36; (with_reducible refine P1.out.mono ?_); rintro e w5 ⟨rfl, ht⟩; have HT5 := Aside0.mk ht; clear ht T0 T1 T2; obtain ⟨T0, T1, T2⟩ := c3 HT5.out.blk))
  have P2 := Aside0.mk (tput_calls HT5.out HL.out 16 2 port (iz := 16) (mz := 2) rfl rfl (by omega) (by have := H24.out; omega))
  go_upto_region 13 with (first | (go_at_call 36; (with_reducible refine P2.out.mono ?_); rintro e w6 ⟨rfl, ht⟩; have HT6 := Aside0.mk ht; clear ht T0 T1 T2))
  have B6 := Aside0.mk (putL_bytes 16 2 port (putL_bytes 4 4 addr HY.out))
  have P3 := Aside0.mk (tturn_calls HT6.out HY.out B6.out HL.out 14 4 4 (pz := 14) (az := 4) (nz := 4) rfl rfl rfl (by have := H24.out; omega) (by have := H24.out; omega) (by decide))
  have B7 := Aside0.mk (turnL_bytes (was := l) B6.out 14 4 4)
  go_upto_region 14 with (first | (go_at_call 57; (with_reducible refine P3.out.mono ?_); rintro e w7 ⟨rfl, ht⟩; have HT7 := Aside0.mk ht; clear ht))
  have P4 := Aside0.mk (tbody_calls HT7.out HY.out B7.out HL.out 4 4 (az := 4) (nz := 4) rfl rfl (by have := H24.out; have := placeL_le (turnL l (putL (putL l 4 4 addr) 16 2 port) 14 4 4); exact Nat.le_trans (Nat.add_le_add_right this 2) H24.out) (by have := H24.out; omega) (by decide))
  have B8 := Aside0.mk (bodyT_bytes (b := p9) (was := l) B7.out 4 4)
  go_upto_region 15 with (first | (go_at_call 50; (with_reducible refine P4.out.mono ?_); rintro e w8 ⟨rfl, ht⟩; have HT8 := Aside0.mk ht; clear ht))
  have P5 := Aside0.mk (tbody_calls HT8.out HY.out B8.out HL.out 16 2 (az := 16) (nz := 2) rfl rfl (Nat.le_trans (Nat.add_le_add_right (placeL_le _) 2) H24.out) (by have := H24.out; omega) (by decide))
  have B9 := Aside0.mk (bodyT_bytes (b := p9) (was := l) B8.out 16 2)
  go_wp2_with (first
    | (go_at_call 50; (with_reducible refine P5.out.mono ?_); rintro e w9 ⟨rfl, ht⟩; have G51 := Aside0.mk (tdone_calls ht B9.out HL.out H24.out); clear ht)
    | (go_at_call 51; (with_reducible refine G51.out.mono ?_); rintro e w10 ⟨v, rfl, hr, hb⟩; have HRX := Aside0.mk hr; have HBX := Aside0.mk hb; clear hr hb))
  go_ret2
  exact ⟨v, rfl, HRX.out, HBX.out⟩
set_option maxHeartbeats 1000000 in
set_option maxRecDepth 100000 in
theorem nat_ok_false {A : Option Addr} {c : Nat} {l : List Int} {w : World} (hr : Kd.C (Kd.int .u8) w A l.length l) (hc : l.length ≤ c) (hl : l.length ≤ 10000) (hb : Bytes l) {p0 p1 p2 p3 p4 p5 p6 p7 p8 : Int} {p9 : Bool} {p10 : Int} {p11 p12 : List Int} (addr port : Int) (hp : parseL l = (⟨p0, p1, p2, p3, p4, p5, p6, p7, p8, p9, p10, p11, p12⟩, 0)) (hk : ¬ p0 = 3) (h : rgB addr 4294967295 = true) (h' : rgB port 65535 = true) :
    Calls Try.prog 28 #[.slice A l.length c, .bool false, .int .i64 addr, .int .i64 port] w (Told w (natL p9 l 8 18 addr port) 0) := by
  have q3 : (p0 == 3) = false := beq_eq_false_iff_ne.mpr hk
  have G := Aside0.mk (begin_ok hr hc (by omega) hb hp)
  have W1 := Aside0.mk (fun W => wire_within.calls addr 4294967295 true W (by rw [within_ff, h]))
  have W2 := Aside0.mk (fun W => wire_within.calls port 65535 true W (by rw [within_ff, h']))
  have H24 := Aside0.mk (show 24 ≤ l.length from (head0 (parse0 hp)).1)
  have HY := Aside0.mk hb
  have HL := Aside0.mk hl
  clear hr hc hl hb hp hk h h'
  go_enter Try.func28, Try.ntmps28
  go_upto_region 11 with (first | (go_at_call 49; (with_reducible refine G.out.mono ?_); rintro e w1 ⟨t, g, cc, A1, c1, A2, c2, rfl, ht⟩; have HT := Aside0.mk ht; clear ht) | (go_at_call 56; (with_reducible refine (W1.out _).mono ?_); rintro e w2 ⟨rfl, ⟨⟨nd, rfl⟩⟩⟩) | (go_at_call 56; (with_reducible refine (W2.out _).mono ?_); rintro e w2 ⟨rfl, ⟨⟨nd, rfl⟩⟩⟩))
  generalize hW : World.drewN _ _ = w4
  have HT4 : Aside0 (Tur w w4 t g A c cc l l p9) := Aside0.mk (by rw [← hW]; exact (HT.out.alloc _).drewN _)
  clear hW HT
  obtain ⟨T0, T1, T2⟩ := c3 HT4.out.blk
  have P1 := Aside0.mk (tput_calls HT4.out HL.out 8 4 addr (iz := 8) (mz := 4) rfl rfl (by omega) (by have := H24.out; omega))
  go_upto_region 12 with (first | (go_at_call 36; (with_reducible refine P1.out.mono ?_); rintro e w5 ⟨rfl, ht⟩; have HT5 := Aside0.mk ht; clear ht T0 T1 T2; obtain ⟨T0, T1, T2⟩ := c3 HT5.out.blk))
  have P2 := Aside0.mk (tput_calls HT5.out HL.out 18 2 port (iz := 18) (mz := 2) rfl rfl (by omega) (by have := H24.out; omega))
  go_upto_region 13 with (first | (go_at_call 36; (with_reducible refine P2.out.mono ?_); rintro e w6 ⟨rfl, ht⟩; have HT6 := Aside0.mk ht; clear ht T0 T1 T2))
  have B6 := Aside0.mk (putL_bytes 18 2 port (putL_bytes 8 4 addr HY.out))
  have P3 := Aside0.mk (tturn_calls HT6.out HY.out B6.out HL.out 14 8 4 (pz := 14) (az := 8) (nz := 4) rfl rfl rfl (by have := H24.out; omega) (by have := H24.out; omega) (by decide))
  have B7 := Aside0.mk (turnL_bytes (was := l) B6.out 14 8 4)
  go_upto_region 14 with (first | (go_at_call 57; (with_reducible refine P3.out.mono ?_); rintro e w7 ⟨rfl, ht⟩; have HT7 := Aside0.mk ht; clear ht))
  have P4 := Aside0.mk (tbody_calls HT7.out HY.out B7.out HL.out 8 4 (az := 8) (nz := 4) rfl rfl (by have := H24.out; have := placeL_le (turnL l (putL (putL l 8 4 addr) 18 2 port) 14 8 4); exact Nat.le_trans (Nat.add_le_add_right this 2) H24.out) (by have := H24.out; omega) (by decide))
  have B8 := Aside0.mk (bodyT_bytes (b := p9) (was := l) B7.out 8 4)
  go_upto_region 15 with (first | (go_at_call 50; (with_reducible refine P4.out.mono ?_); rintro e w8 ⟨rfl, ht⟩; have HT8 := Aside0.mk ht; clear ht))
  have P5 := Aside0.mk (tbody_calls HT8.out HY.out B8.out HL.out 18 2 (az := 18) (nz := 2) rfl rfl (Nat.le_trans (Nat.add_le_add_right (placeL_le _) 2) H24.out) (by have := H24.out; omega) (by decide))
  have B9 := Aside0.mk (bodyT_bytes (b := p9) (was := l) B8.out 18 2)
  go_wp2_with (first
    | (go_at_call 50; (with_reducible refine P5.out.mono ?_); rintro e w9 ⟨rfl, ht⟩; have G51 := Aside0.mk (tdone_calls ht B9.out HL.out H24.out); clear ht)
    | (go_at_call 51; (with_reducible refine G51.out.mono ?_); rintro e w10 ⟨v, rfl, hr, hb⟩; have HRX := Aside0.mk hr; have HBX := Aside0.mk hb; clear hr hb))
  go_ret2
  exact ⟨v, rfl, HRX.out, HBX.out⟩
end Go.Proofs.Ytbjhmifhmojaoaa.WB
