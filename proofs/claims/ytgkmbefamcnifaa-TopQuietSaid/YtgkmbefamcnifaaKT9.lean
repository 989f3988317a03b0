/- Lemmas and contracts that the row YtgkmbefamcnifaaLawTopQuiet goes by (part 9; joined by pack.py out of this session's texts, and of words that the kit's print lays). -/
import Derived.Test.YtgkmbefamcnifaaKT8
namespace Go.Proofs.Ytgkmbefamcnifaa.WB
set_option linter.unusedVariables false
set_option linter.unusedSimpArgs false
open Go.RowKit Go.Proofs.Ytgkmbefamcnifaa.Hp Go.Proofs.Ytgkmbefamcnifaa.SB Go.Proofs.YtgkmbefamcnifaaW.PrintWords Go.Proofs.YtgkmbefamcnifaaW.PrintLast Go.Proofs.YtgkmbefamcnifaaW.PrintMore
theorem results_tct {fn : Func} {q p u : Tmp} {ty : TypeId} (h : fn.results = #[.tmp q, .cell p ty, .tmp u]) (tmps : Array Value) (P : Program) (w : World) :
    (results fn tmps).run P w =
      ((asAddr (tmps.getD p undef)).run P w).andThen fun a w₁ => ((loadVar ty a).run P w₁).andThen fun v w₂ => .ok (.tuple #[tmps.getD q undef, v, tmps.getD u undef]) w₂ := by
  simp only [results, h]
  simp [Sem.run_bind, Result.andThen]
/-- A turner in block t: what was, what is (row g), bare or not. -/
structure Tur (w0 w : World) (t g : Nat) (A : Option Addr) (c cc : Nat) (was L : List Int) (bare : Bool) : Prop where
  blk : w.heap[t]? = some (.cells #[.slice A was.length c, .slice (some ⟨g, 0, none⟩) was.length cc, .bool bare] 151 (0, 0))
  row : RB w0.heap.size w (.slice (some ⟨g, 0, none⟩) was.length cc) L
  rd : Kd.C (Kd.int .u8) w0 A was.length was
  le : was.length ≤ c
  len : L.length = was.length
  ne : t ≠ g
  ht : w0.heap.size ≤ t
  hg : w0.heap.size ≤ g
  below : Below w0.heap.size w0 w
set_option maxHeartbeats 2000000 in
set_option maxRecDepth 100000 in
theorem begin_err {A : Option Addr} {c : Nat} {l : List Int} {w : World} (hr : Kd.C (Kd.int .u8) w A l.length l) (hc : l.length ≤ c) (hl : l.length ≤ 100000) (hb : Bytes l) {p0 p1 p2 p3 p4 p5 p6 p7 p8 : Int} {p9 : Bool} {p10 : Int} {p11 p12 : List Int} {x : Int} (hp : parseL l = (⟨p0, p1, p2, p3, p4, p5, p6, p7, p8, p9, p10, p11, p12⟩, x)) (hx : x ≠ 0) :
    Calls Try.prog 78 #[.slice A l.length c] w fun e w' => (∃ (A1 : Option Addr) (c1 : Nat) (A2 : Option Addr) (c2 : Nat), e = .returned (.tuple #[.pointer none, .agg #[.int .i64 p0, .int .i64 p1, .int .i64 p2, .int .i64 p3, .int .i64 p4, .int .i64 p5, .int .i64 p6, .int .i64 p7, .int .i64 p8, .bool p9, .int .i64 p10, .slice A1 p11.length c1, .slice A2 p12.length c2], .int .i64 x])) ∧ Below w.heap.size w w' := by
  have q0 : (x == 0) = false := beq_eq_false_iff_ne.mpr hx
  have q0n : (x != 0) = true := bne_iff_ne.mpr hx
  have HR := Aside0.mk hr
  have HC := Aside0.mk hc
  have HL := Aside0.mk hl
  have HY := Aside0.mk hb
  have HP := Aside0.mk hp
  have HG := Aside0.mk (fun o => parse_calls (Kd.C_alloc hr o) rfl hc hl hb)
  have HBA := Aside0.mk ((Below.refl w.heap.size w).alloc (Nat.le_refl _) (.cells zero13 39))
  have HNB := Aside0.mk (new_blk w (.cells zero13 39))
  clear hr hc hl hb hp
  go_enter Try.func78, Try.ntmps78
  go_upto_region 3 with (first
    | (go_at_call 15; (with_reducible refine (HG.out _).mono ?_); intro e w1 hq; obtain ⟨A1, c1, A2, c2, rfl, h1, h2, h3, hb1⟩ := got_of HP.out hq; have HB1 := Aside0.mk (below_step HBA.out hb1); have HYB := Aside0.mk ((hb1.block w.heap.size (blk_lt HNB.out)).trans HNB.out); clear hq h1 h2 h3 hb1))
  change Code.wp _ _ _ _ (w1.alloc (.cells #[.int .i64 p0, .int .i64 p1, .int .i64 p2, .int .i64 p3, .int .i64 p4, .int .i64 p5, .int .i64 p6, .int .i64 p7, .int .i64 p8, .bool p9, .int .i64 p10, .slice A1 p11.length c1, .slice A2 p12.length c2] 39))
  obtain ⟨g5, HG5⟩ : ∃ g, w1.heap.size = g := ⟨_, rfl⟩
  have HLT := Aside0.mk (show w.heap.size < g5 from by rw [← HG5]; exact blk_lt HYB.out)
  have HZ5 : Aside0 ((w1.alloc (.cells #[.int .i64 p0, .int .i64 p1, .int .i64 p2, .int .i64 p3, .int .i64 p4, .int .i64 p5, .int .i64 p6, .int .i64 p7, .int .i64 p8, .bool p9, .int .i64 p10, .slice A1 p11.length c1, .slice A2 p12.length c2] 39)).heap[g5]? = some (.cells #[.int .i64 p0, .int .i64 p1, .int .i64 p2, .int .i64 p3, .int .i64 p4, .int .i64 p5, .int .i64 p6, .int .i64 p7, .int .i64 p8, .bool p9, .int .i64 p10, .slice A1 p11.length c1, .slice A2 p12.length c2] 39 (0, 0))) := Aside0.mk (by rw [← HG5]; exact new_blk w1 _)
  have HY5 := Aside0.mk ((Below.heap_alloc w1 (.cells #[.int .i64 p0, .int .i64 p1, .int .i64 p2, .int .i64 p3, .int .i64 p4, .int .i64 p5, .int .i64 p6, .int .i64 p7, .int .i64 p8, .bool p9, .int .i64 p10, .slice A1 p11.length c1, .slice A2 p12.length c2] 39) w.heap.size (blk_lt HYB.out)).trans HYB.out)
  have HB5 := Aside0.mk (HB1.out.alloc HB1.out.size (.cells #[.int .i64 p0, .int .i64 p1, .int .i64 p2, .int .i64 p3, .int .i64 p4, .int .i64 p5, .int .i64 p6, .int .i64 p7, .int .i64 p8, .bool p9, .int .i64 p10, .slice A1 p11.length c1, .slice A2 p12.length c2] 39))
  generalize w1.alloc (.cells #[.int .i64 p0, .int .i64 p1, .int .i64 p2, .int .i64 p3, .int .i64 p4, .int .i64 p5, .int .i64 p6, .int .i64 p7, .int .i64 p8, .bool p9, .int .i64 p10, .slice A1 p11.length c1, .slice A2 p12.length c2] 39) = w5 at HZ5 HY5 HB5 ⊢
  clear HB1 HYB HBA HNB HG
  have HCZ := Aside0.mk (fun W (h : Below (g5 + 1) w5 W) => c13 ((h.block g5 (Nat.lt_succ_self _)).trans HZ5.out))
  refine start_ (n := 5) (S := fun w' => w'.cell? ⟨g5, 0, none⟩ = some (.int .i64 p0) ∧ w'.cell? ⟨g5, 1, none⟩ = some (.int .i64 p1) ∧ w'.cell? ⟨g5, 2, none⟩ = some (.int .i64 p2) ∧ w'.cell? ⟨g5, 3, none⟩ = some (.int .i64 p3) ∧ w'.cell? ⟨g5, 4, none⟩ = some (.int .i64 p4) ∧ w'.cell? ⟨g5, 5, none⟩ = some (.int .i64 p5) ∧ w'.cell? ⟨g5, 6, none⟩ = some (.int .i64 p6) ∧ w'.cell? ⟨g5, 7, none⟩ = some (.int .i64 p7) ∧ w'.cell? ⟨g5, 8, none⟩ = some (.int .i64 p8) ∧ w'.cell? ⟨g5, 9, none⟩ = some (.bool p9) ∧ w'.cell? ⟨g5, 10, none⟩ = some (.int .i64 p10) ∧ w'.cell? ⟨g5, 11, none⟩ = some (.slice A1 p11.length c1) ∧ w'.cell? ⟨g5, 12, none⟩ = some (.slice A2 p12.length c2)) (ds := [3]) #[fF,fF,fF,fF,fF] (by kernel_rfl) rfl rfl ⟨(HCZ.out _ (Below.refl (g5 + 1) w5).drew).1, (HCZ.out _ (Below.refl (g5 + 1) w5).drew).2.1, (HCZ.out _ (Below.refl (g5 + 1) w5).drew).2.2.1, (HCZ.out _ (Below.refl (g5 + 1) w5).drew).2.2.2.1, (HCZ.out _ (Below.refl (g5 + 1) w5).drew).2.2.2.2.1, (HCZ.out _ (Below.refl (g5 + 1) w5).drew).2.2.2.2.2.1, (HCZ.out _ (Below.refl (g5 + 1) w5).drew).2.2.2.2.2.2.1, (HCZ.out _ (Below.refl (g5 + 1) w5).drew).2.2.2.2.2.2.2.1, (HCZ.out _ (Below.refl (g5 + 1) w5).drew).2.2.2.2.2.2.2.2.1, (HCZ.out _ (Below.refl (g5 + 1) w5).drew).2.2.2.2.2.2.2.2.2.1, (HCZ.out _ (Below.refl (g5 + 1) w5).drew).2.2.2.2.2.2.2.2.2.2.1, (HCZ.out _ (Below.refl (g5 + 1) w5).drew).2.2.2.2.2.2.2.2.2.2.2.1, (HCZ.out _ (Below.refl (g5 + 1) w5).drew).2.2.2.2.2.2.2.2.2.2.2.2⟩ (fun hHeld => ?_)
  refine pure_ (i := 1) (N := some 15) (v := ?_) (a' := ?_) #[fF,tT,fF,fF,fF] rfl rfl (by kernel_rfl) (fun _ _ _ h => h) (Or.inl ⟨by rfl, ?_⟩) ?_ ?_
  rotate_left; · intro w'; go_simp; with_reducible rfl
  rotate_left; · simp only [Act.put, q_a, q_0, q_s, i64_w, i32_w]; rfl
  refine pure_ (i := 2) (N := some 2) (v := ?_) (a' := ?_) #[fF,tT,tT,fF,fF] rfl rfl (by kernel_rfl) (fun _ _ _ h => h) (Or.inl ⟨by rfl, ?_⟩) ?_ ?_
  rotate_left; · intro w'; go_simp; with_reducible rfl
  rotate_left; · simp only [Act.put, q_a, q_0, q_s, i64_w, i32_w]; rfl
  refine take_ (i := 0) (N := some 14) (v := ?_) (a' := ?_) #[tT,tT,tT,fF,fF] rfl rfl (by kernel_rfl) (fun _ _ _ h => h) (Or.inl ⟨by rfl, ?_⟩) hHeld ?_ ?_
  rotate_left
  · rintro w' ⟨s0, s1, s2, s3, s4, s5, s6, s7, s8, s9, s10, s11, s12⟩
    go_simp
    with_reducible rfl
  rotate_left; · simp only [Act.put, q_a, q_0, q_s, i64_w, i32_w]; rfl
  refine last_ (i := 3) (N := none) #[tT,tT,tT,tT,fF] rfl rfl (by kernel_rfl) (by decide) (fun K hK => ?_)
  obtain ⟨y0, y1, y2, y3, y4, y5, y6, y7, y8, y9, y10, y11, y12⟩ := c13 HY5.out
  obtain ⟨u0, u1, u2, u3, u4, u5, u6, u7, u8, u9, u10, u11, u12⟩ := f13 HY5.out
  refine skip_ (w1 := ?_) (by rfl) rfl ?_ ?_
  rotate_left
  · go_simp
    rfl
  refine hK.out _ _ ?_
  clear hK K
  refine pure_ (i := 4) (N := some 4) (v := ?_) (a' := ?_) #[tT,tT,tT,tT,tT] rfl rfl (by kernel_rfl) (fun _ _ _ h => h) (Or.inl ⟨by rfl, ?_⟩) ?_ ?_
  rotate_left; · intro w'; go_simp; with_reducible rfl
  rotate_left; · simp only [Act.put, q_a, q_0, q_s, i64_w, i32_w]; rfl
  refine done_ (by kernel_rfl) ?_
  go_wp2
  (try simp only [Exit.inBlock, Exit.then])
  refine bodyPost_ret (v := .tuple #[.pointer none, .agg #[.int .i64 p0, .int .i64 p1, .int .i64 p2, .int .i64 p3, .int .i64 p4, .int .i64 p5, .int .i64 p6, .int .i64 p7, .int .i64 p8, .bool p9, .int .i64 p10, .slice A1 p11.length c1, .slice A2 p12.length c2], .int .i64 x]) ?_ rfl ⟨⟨A1, c1, A2, c2, rfl⟩, ?_⟩
  · rw [results_tct rfl]
    go_simp
  · exact (lay13_below HB5.out (Nat.le_refl _) _ _ _ _ _ _ _ _ _ _ _ _ _).drew
set_option maxHeartbeats 2000000 in
set_option maxRecDepth 100000 in
theorem begin_ok {A : Option Addr} {c : Nat} {l : List Int} {w : World} (hr : Kd.C (Kd.int .u8) w A l.length l) (hc : l.length ≤ c) (hl : l.length ≤ 100000) (hb : Bytes l) {p0 p1 p2 p3 p4 p5 p6 p7 p8 : Int} {p9 : Bool} {p10 : Int} {p11 p12 : List Int} (hp : parseL l = (⟨p0, p1, p2, p3, p4, p5, p6, p7, p8, p9, p10, p11, p12⟩, 0)) :
    Calls Try.prog 78 #[.slice A l.length c] w fun e w' => ∃ (t g cc : Nat) (A1 : Option Addr) (c1 : Nat) (A2 : Option Addr) (c2 : Nat), e = .returned (.tuple #[.pointer (some ⟨t, 0, none⟩), .agg #[.int .i64 p0, .int .i64 p1, .int .i64 p2, .int .i64 p3, .int .i64 p4, .int .i64 p5, .int .i64 p6, .int .i64 p7, .int .i64 p8, .bool p9, .int .i64 p10, .slice A1 p11.length c1, .slice A2 p12.length c2], .int .i64 0]) ∧ Tur w w' t g A c cc l l p9 := by
  have H0 := Aside0.mk (show 0 < l.length from by have := (head0 (parse0 hp)).1; omega)
  have HR := Aside0.mk hr
  have HC := Aside0.mk hc
  have HL := Aside0.mk hl
  have HY := Aside0.mk hb
  have HP := Aside0.mk hp
  have HG := Aside0.mk (fun o => parse_calls (Kd.C_alloc hr o) rfl hc hl hb)
  have HBA := Aside0.mk ((Below.refl w.heap.size w).alloc (Nat.le_refl _) (.cells zero13 39))
  have HNB := Aside0.mk (new_blk w (.cells zero13 39))
  clear hr hc hl hb hp
  go_enter Try.func78, Try.ntmps78
  go_upto_region 4 with (first
    | (go_at_call 15; (with_reducible refine (HG.out _).mono ?_); intro e w1 hq; obtain ⟨A1, c1, A2, c2, rfl, h1, h2, h3, hb1⟩ := got_of HP.out hq; have HB1 := Aside0.mk (below_step HBA.out hb1); have HYB := Aside0.mk ((hb1.block w.heap.size (blk_lt HNB.out)).trans HNB.out); clear hq h1 h2 h3 hb1))
  change Code.wp _ _ _ _ (w1.alloc (.cells #[.int .i64 p0, .int .i64 p1, .int .i64 p2, .int .i64 p3, .int .i64 p4, .int .i64 p5, .int .i64 p6, .int .i64 p7, .int .i64 p8, .bool p9, .int .i64 p10, .slice A1 p11.length c1, .slice A2 p12.length c2] 39))
  obtain ⟨g5, HG5⟩ : ∃ g, w1.heap.size = g := ⟨_, rfl⟩
  have HLT := Aside0.mk (show w.heap.size < g5 from by rw [← HG5]; exact blk_lt HYB.out)
  have HZ5 : Aside0 ((w1.alloc (.cells #[.int .i64 p0, .int .i64 p1, .int .i64 p2, .int .i64 p3, .int .i64 p4, .int .i64 p5, .int .i64 p6, .int .i64 p7, .int .i64 p8, .bool p9, .int .i64 p10, .slice A1 p11.length c1, .slice A2 p12.length c2] 39)).heap[g5]? = some (.cells #[.int .i64 p0, .int .i64 p1, .int .i64 p2, .int .i64 p3, .int .i64 p4, .int .i64 p5, .int .i64 p6, .int .i64 p7, .int .i64 p8, .bool p9, .int .i64 p10, .slice A1 p11.length c1, .slice A2 p12.length c2] 39 (0, 0))) := Aside0.mk (by rw [← HG5]; exact new_blk w1 _)
  have HY5 := Aside0.mk ((Below.heap_alloc w1 (.cells #[.int .i64 p0, .int .i64 p1, .int .i64 p2, .int .i64 p3, .int .i64 p4, .int .i64 p5, .int .i64 p6, .int .i64 p7, .int .i64 p8, .bool p9, .int .i64 p10, .slice A1 p11.length c1, .slice A2 p12.length c2] 39) w.heap.size (blk_lt HYB.out)).trans HYB.out)
  have HB5 := Aside0.mk (HB1.out.alloc HB1.out.size (.cells #[.int .i64 p0, .int .i64 p1, .int .i64 p2, .int .i64 p3, .int .i64 p4, .int .i64 p5, .int .i64 p6, .int .i64 p7, .int .i64 p8, .bool p9, .int .i64 p10, .slice A1 p11.length c1, .slice A2 p12.length c2] 39))
  generalize w1.alloc (.cells #[.int .i64 p0, .int .i64 p1, .int .i64 p2, .int .i64 p3, .int .i64 p4, .int .i64 p5, .int .i64 p6, .int .i64 p7, .int .i64 p8, .bool p9, .int .i64 p10, .slice A1 p11.length c1, .slice A2 p12.length c2] 39) = w5 at HZ5 HY5 HB5 ⊢
  clear HB1 HYB HBA HNB HG
  have HCZ := Aside0.mk (fun W (h : Below (g5 + 1) w5 W) => c13 ((h.block g5 (Nat.lt_succ_self _)).trans HZ5.out))
  refine start_ (n := 11) (S := fun w' => w'.cell? ⟨g5, 0, none⟩ = some (.int .i64 p0) ∧ w'.cell? ⟨g5, 1, none⟩ = some (.int .i64 p1) ∧ w'.cell? ⟨g5, 2, none⟩ = some (.int .i64 p2) ∧ w'.cell? ⟨g5, 3, none⟩ = some (.int .i64 p3) ∧ w'.cell? ⟨g5, 4, none⟩ = some (.int .i64 p4) ∧ w'.cell? ⟨g5, 5, none⟩ = some (.int .i64 p5) ∧ w'.cell? ⟨g5, 6, none⟩ = some (.int .i64 p6) ∧ w'.cell? ⟨g5, 7, none⟩ = some (.int .i64 p7) ∧ w'.cell? ⟨g5, 8, none⟩ = some (.int .i64 p8) ∧ w'.cell? ⟨g5, 9, none⟩ = some (.bool p9) ∧ w'.cell? ⟨g5, 10, none⟩ = some (.int .i64 p10) ∧ w'.cell? ⟨g5, 11, none⟩ = some (.slice A1 p11.length c1) ∧ w'.cell? ⟨g5, 12, none⟩ = some (.slice A2 p12.length c2)) (ds := [9]) #[fF,fF,fF,fF,fF,fF,fF,fF,fF,fF,fF] (by kernel_rfl) rfl rfl ⟨(HCZ.out _ (Below.refl (g5 + 1) w5).drew).1, (HCZ.out _ (Below.refl (g5 + 1) w5).drew).2.1, (HCZ.out _ (Below.refl (g5 + 1) w5).drew).2.2.1, (HCZ.out _ (Below.refl (g5 + 1) w5).drew).2.2.2.1, (HCZ.out _ (Below.refl (g5 + 1) w5).drew).2.2.2.2.1, (HCZ.out _ (Below.refl (g5 + 1) w5).drew).2.2.2.2.2.1, (HCZ.out _ (Below.refl (g5 + 1) w5).drew).2.2.2.2.2.2.1, (HCZ.out _ (Below.refl (g5 + 1) w5).drew).2.2.2.2.2.2.2.1, (HCZ.out _ (Below.refl (g5 + 1) w5).drew).2.2.2.2.2.2.2.2.1, (HCZ.out _ (Below.refl (g5 + 1) w5).drew).2.2.2.2.2.2.2.2.2.1, (HCZ.out _ (Below.refl (g5 + 1) w5).drew).2.2.2.2.2.2.2.2.2.2.1, (HCZ.out _ (Below.refl (g5 + 1) w5).drew).2.2.2.2.2.2.2.2.2.2.2.1, (HCZ.out _ (Below.refl (g5 + 1) w5).drew).2.2.2.2.2.2.2.2.2.2.2.2⟩ (fun hHeld => ?_)
  refine pure_ (i := 0) (N := some 16) (v := ?_) (a' := ?_) #[tT,fF,fF,fF,fF,fF,fF,fF,fF,fF,fF] rfl rfl (by kernel_rfl) (fun _ _ _ h => h) (Or.inl ⟨by rfl, ?_⟩) ?_ ?_
  rotate_left; · intro w'; go_simp; with_reducible rfl
  rotate_left; · simp only [Act.put, q_a, q_0, q_s, i64_w, i32_w]; rfl
  refine pure_ (i := 1) (N := some 17) (v := ?_) (a' := ?_) #[tT,tT,fF,fF,fF,fF,fF,fF,fF,fF,fF] rfl rfl (by kernel_rfl) (fun _ _ _ h => h) (Or.inl ⟨by rfl, ?_⟩) ?_ ?_
  rotate_left; · intro w'; go_simp; with_reducible rfl
  rotate_left; · simp only [Act.put, q_a, q_0, q_s, i64_w, i32_w]; rfl
  refine pure_ (i := 3) (N := some 19) (v := ?_) (a' := ?_) #[tT,tT,fF,tT,fF,fF,fF,fF,fF,fF,fF] rfl rfl (by kernel_rfl) (fun _ _ _ h => h) (Or.inl ⟨by rfl, ?_⟩) ?_ ?_
  rotate_left; · intro w'; go_simp; with_reducible rfl
  rotate_left; · simp only [Act.put, q_a, q_0, q_s, i64_w, i32_w]; rfl
  refine take_ (i := 4) (N := some 20) (v := ?_) (a' := ?_) #[tT,tT,fF,tT,tT,fF,fF,fF,fF,fF,fF] rfl rfl (by kernel_rfl) (fun _ _ _ h => h) (Or.inl ⟨by rfl, ?_⟩) hHeld ?_ ?_
  rotate_left
  · rintro w' ⟨s0, s1, s2, s3, s4, s5, s6, s7, s8, s9, s10, s11, s12⟩
    go_simp
    with_reducible rfl
  rotate_left; · simp only [Act.put, q_a, q_0, q_s, i64_w, i32_w]; rfl
  refine take_ (i := 7) (N := some 23) (v := ?_) (a' := ?_) #[tT,tT,fF,tT,tT,fF,fF,tT,fF,fF,fF] rfl rfl (by kernel_rfl) (fun _ _ _ h => h) (Or.inl ⟨by rfl, ?_⟩) hHeld ?_ ?_
  rotate_left
  · rintro w' ⟨s0, s1, s2, s3, s4, s5, s6, s7, s8, s9, s10, s11, s12⟩
    go_simp
    with_reducible rfl
  rotate_left; · simp only [Act.put, q_a, q_0, q_s, i64_w, i32_w]; rfl
  refine one_ (i := 2) (N := some 18) #[tT,tT,tT,tT,tT,fF,fF,tT,fF,fF,fF] rfl rfl (by kernel_rfl) (by decide) (fun K hK => ?_)
  refine goes_ Try.func49 (by kernel_rfl) rfl #[.slice A l.length c] (by rfl) rfl rfl (by simp only [List.map_toArray, List.map_cons, List.map_nil]; rfl) ?_
  with_reducible refine (clone_calls (Kd.C_drew (Kd.C_below HR.out HB5.out)) rfl HC.out HL.out).mono ?_
  rintro e w6 ⟨v, rfl, ho, hb6⟩
  obtain ⟨g, cc, ev, hgb⟩ := rb_form ho H0.out
  subst ev
  refine ⟨_, rfl, ?_⟩
  have HX := Aside0.mk (((Below.refl (g5 + 1) w5).drew).trans (hb6.mono (blk_lt HZ5.out)))
  have HRW := Aside0.mk ho
  have HGB := Aside0.mk hgb
  clear ho hb6 hgb
  refine hK.out _ _ ⟨(HCZ.out _ HX.out).1, (HCZ.out _ HX.out).2.1, (HCZ.out _ HX.out).2.2.1, (HCZ.out _ HX.out).2.2.2.1, (HCZ.out _ HX.out).2.2.2.2.1, (HCZ.out _ HX.out).2.2.2.2.2.1, (HCZ.out _ HX.out).2.2.2.2.2.2.1, (HCZ.out _ HX.out).2.2.2.2.2.2.2.1, (HCZ.out _ HX.out).2.2.2.2.2.2.2.2.1, (HCZ.out _ HX.out).2.2.2.2.2.2.2.2.2.1, (HCZ.out _ HX.out).2.2.2.2.2.2.2.2.2.2.1, (HCZ.out _ HX.out).2.2.2.2.2.2.2.2.2.2.2.1, (HCZ.out _ HX.out).2.2.2.2.2.2.2.2.2.2.2.2⟩ (fun hHeld => ?_)
  clear hK K
  refine norm_ (a' := ?_) ?_ ?_
  rotate_left
  · show Act.put _ (some 18) _ = _
    simp only [Act.put, q_a, q_0, q_s, i64_w, i32_w]
    rfl
  refine pure_ (i := 5) (N := some 21) (v := ?_) (a' := ?_) #[tT,tT,tT,tT,tT,tT,fF,tT,fF,fF,fF] rfl rfl (by kernel_rfl) (fun _ _ _ h => h) (Or.inl ⟨by rfl, ?_⟩) ?_ ?_
  rotate_left; · intro w'; go_simp; with_reducible rfl
  rotate_left; · simp only [Act.put, q_a, q_0, q_s, i64_w, i32_w]; rfl
  refine one_ (i := 6) (N := some 22) #[tT,tT,tT,tT,tT,tT,tT,tT,fF,fF,fF] rfl rfl (by kernel_rfl) (by decide) (fun K hK => ?_)
  refine value_ (w1 := ?_) (v := ?_) (by rfl) rfl ?_ ?_
  rotate_left 2
  · go_simp
    constructor
    · rfl
    · rfl
  refine hK.out _ _ ⟨(HCZ.out _ (HX.out.alloc (Nat.le_trans (blk_lt HZ5.out) HX.out.size) _)).1, (HCZ.out _ (HX.out.alloc (Nat.le_trans (blk_lt HZ5.out) HX.out.size) _)).2.1, (HCZ.out _ (HX.out.alloc (Nat.le_trans (blk_lt HZ5.out) HX.out.size) _)).2.2.1, (HCZ.out _ (HX.out.alloc (Nat.le_trans (blk_lt HZ5.out) HX.out.size) _)).2.2.2.1, (HCZ.out _ (HX.out.alloc (Nat.le_trans (blk_lt HZ5.out) HX.out.size) _)).2.2.2.2.1, (HCZ.out _ (HX.out.alloc (Nat.le_trans (blk_lt HZ5.out) HX.out.size) _)).2.2.2.2.2.1, (HCZ.out _ (HX.out.alloc (Nat.le_trans (blk_lt HZ5.out) HX.out.size) _)).2.2.2.2.2.2.1, (HCZ.out _ (HX.out.alloc (Nat.le_trans (blk_lt HZ5.out) HX.out.size) _)).2.2.2.2.2.2.2.1, (HCZ.out _ (HX.out.alloc (Nat.le_trans (blk_lt HZ5.out) HX.out.size) _)).2.2.2.2.2.2.2.2.1, (HCZ.out _ (HX.out.alloc (Nat.le_trans (blk_lt HZ5.out) HX.out.size) _)).2.2.2.2.2.2.2.2.2.1, (HCZ.out _ (HX.out.alloc (Nat.le_trans (blk_lt HZ5.out) HX.out.size) _)).2.2.2.2.2.2.2.2.2.2.1, (HCZ.out _ (HX.out.alloc (Nat.le_trans (blk_lt HZ5.out) HX.out.size) _)).2.2.2.2.2.2.2.2.2.2.2.1, (HCZ.out _ (HX.out.alloc (Nat.le_trans (blk_lt HZ5.out) HX.out.size) _)).2.2.2.2.2.2.2.2.2.2.2.2⟩ (fun hHeld => ?_)
  clear hK K
  refine norm_ (a' := ?_) ?_ ?_
  rotate_left
  · show Act.put _ (some 22) _ = _
    simp only [Act.put, q_a, q_0, q_s, i64_w, i32_w]
    rfl
  refine pure_ (i := 8) (N := some 2) (v := ?_) (a' := ?_) #[tT,tT,tT,tT,tT,tT,tT,tT,tT,fF,fF] rfl rfl (by kernel_rfl) (fun _ _ _ h => h) (Or.inl ⟨by rfl, ?_⟩) ?_ ?_
  rotate_left; · intro w'; go_simp; with_reducible rfl
  rotate_left; · simp only [Act.put, q_a, q_0, q_s, i64_w, i32_w]; rfl
  refine last_ (i := 9) (N := none) #[tT,tT,tT,tT,tT,tT,tT,tT,tT,tT,fF] rfl rfl (by kernel_rfl) (by decide) (fun K hK => ?_)
  have hy_ := ((HX.out.alloc (Nat.le_trans (blk_lt HZ5.out) HX.out.size) (.cells #[.slice A l.length c, .slice (some ⟨g, 0, none⟩) l.length cc, .bool p9] 151)).block w.heap.size (Nat.lt_succ_of_lt HLT.out)).trans HY5.out
  obtain ⟨y0, y1, y2, y3, y4, y5, y6, y7, y8, y9, y10, y11, y12⟩ := c13 hy_
  obtain ⟨u0, u1, u2, u3, u4, u5, u6, u7, u8, u9, u10, u11, u12⟩ := f13 hy_
  clear hy_
  refine skip_ (w1 := ?_) (by rfl) rfl ?_ ?_
  rotate_left
  · go_simp
    rfl
  refine hK.out _ _ ?_
  clear hK K
  refine pure_ (i := 10) (N := some 4) (v := ?_) (a' := ?_) #[tT,tT,tT,tT,tT,tT,tT,tT,tT,tT,tT] rfl rfl (by kernel_rfl) (fun _ _ _ h => h) (Or.inl ⟨by rfl, ?_⟩) ?_ ?_
  rotate_left; · intro w'; go_simp; with_reducible rfl
  rotate_left; · simp only [Act.put, q_a, q_0, q_s, i64_w, i32_w]; rfl
  refine done_ (by kernel_rfl) ?_
  go_wp2
  (try simp only [Exit.inBlock, Exit.then])
  have hlt6 := Kd.R_lt HRW.out g (by simp [Value.ownBlock])
  have hgb := HGB.out
  have hs5 : w5.drew.heap.size = w5.heap.size := rfl
  have h1 := HLT.out
  have h2 := blk_lt HZ5.out
  have h3 := HX.out.size
  have HB6 := HB5.out.trans (HX.out.mono (show w.heap.size ≤ g5 + 1 by omega))
  have HB7 := HB6.alloc (by omega) (.cells #[.slice A l.length c, .slice (some ⟨g, 0, none⟩) l.length cc, .bool p9] 151)
  refine bodyPost_ret (v := .tuple #[.pointer (some ⟨w6.heap.size, 0, none⟩), .agg #[.int .i64 p0, .int .i64 p1, .int .i64 p2, .int .i64 p3, .int .i64 p4, .int .i64 p5, .int .i64 p6, .int .i64 p7, .int .i64 p8, .bool p9, .int .i64 p10, .slice A1 p11.length c1, .slice A2 p12.length c2], .int .i64 0]) ?_ rfl ⟨w6.heap.size, g, cc, A1, c1, A2, c2, rfl, ?_⟩
  · rw [results_tct rfl]
    go_simp
  · refine ⟨(lay13_far (by omega) _ _ _ _ _ _ _ _ _ _ _ _ _).trans (new_blk w6 _), RB_move HRW.out (by omega) (fun k hk hlt => (lay13_far (by omega) _ _ _ _ _ _ _ _ _ _ _ _ _).trans (Below.heap_alloc w6 _ k hlt)), HR.out, HC.out, rfl, by omega, by omega, by omega, lay13_below HB7 (Nat.le_refl _) _ _ _ _ _ _ _ _ _ _ _ _ _⟩
/-- A pair of bytes, a 0 behind an odd one at the end. -/
def pairL (l : List Int) (i : Nat) : Int := if i + 1 = l.length then l.getD i 0 * 256 else numL l i 2
theorem num2_b {l : List Int} (hb : Bytes l) (i : Nat) : 0 ≤ numL l i 2 ∧ numL l i 2 ≤ 65535 := by
  have := numL_b hb i 2
  omega
theorem pairL_b {l : List Int} (hb : Bytes l) (i : Nat) : 0 ≤ pairL l i ∧ pairL l i ≤ 65535 := by
  unfold pairL
  split
  · have := getD_byte hb i; omega
  · exact num2_b hb i
theorem pair_f {l : List Int} {k : Nat} (hb : Bytes l) (i : Nat) (hi : i < l.length) (hl : l.length ≤ 100000) (hk : 5 ≤ k) : wire_pair.f k l i = some (pairL l i) := by
  unfold wire_pair.f pairL
  have b := getD_byte hb i
  rw [wid (n := (i : Int) + 1) (by omega) (by omega)]
  by_cases h : i + 1 = l.length
  · rw [if_pos (by omega), if_pos (by omega), if_pos (by omega), if_pos h, rd_nat, wid (n := l.getD i 0) (by omega) (by omega), wid (by omega) (by omega)]
  · rw [if_neg (by omega), if_neg h, show (2 : Int) = ((2 : Nat) : Int) from rfl, get_f hb i 2 (by omega) (by omega) hl hk, Option.bind_some]
theorem pair_calls {A : Option Addr} {c n : Nat} {l : List Int} {w : World} (i : Nat) {iz : Int} (hr : Kd.C (Kd.int .u8) w A n l) (hn : l.length = n) (hc : n ≤ c) (hb : Bytes l) (hl : l.length ≤ 100000) (h1 : iz = i) (hi : i < l.length) :
    Calls Try.prog 103 #[.slice A n c, .int .i64 iz] w fun e w' => e = .returned (.int .i64 (pairL l i)) ∧ Drawn0 w w' := by
  subst hn h1
  exact wire_pair.calls 5 A c l i _ w hr hc (pair_f hb i hi hl (Nat.le_refl _))
theorem turn_calls {s a b : Int} (hs : 0 ≤ s) (hs' : s ≤ 65535) (ha : 0 ≤ a) (ha' : a ≤ 65535) (hb : 0 ≤ b) (hb' : b ≤ 65535) (w : World) :
    Calls Try.prog 84 #[.int .i64 s, .int .i64 a, .int .i64 b] w fun e w' => e = .returned (.int .i64 (turn s a b)) ∧ Drawn0 w w' :=
  sum_Turn.calls s a b _ w (turn_f hs hs' ha ha' hb hb')
/-- A sum turned by the pairs from i on, k of them. -/
def turnS (was L : List Int) : Nat → Nat → Int → Int
  | 0, _, s => s
  | k + 1, i, s => turnS was L k (i + 2) (turn s (pairL was i) (pairL L i))
/-- (i + n) / 2 - i / 2 pairs, rounded up: how many an even walk from i (rounded down) below i + n takes. -/
def pairsN (i n : Nat) : Nat := (i + n + 1) / 2 - i / 2
theorem c3 {w : World} {g t : Nat} {a0 a1 a2 : Value} (h : w.heap[g]? = some (.cells #[a0, a1, a2] t (0, 0))) : w.cell? ⟨g, 0, none⟩ = some a0 ∧ w.cell? ⟨g, 1, none⟩ = some a1 ∧ w.cell? ⟨g, 2, none⟩ = some a2 := by
  simp [World.cell?, h]
set_option maxHeartbeats 2000000 in
set_option maxRecDepth 100000 in
theorem tturn_calls {w0 w : World} {t g : Nat} {A : Option Addr} {c cc : Nat} {was L : List Int} {bare : Bool} (h : Tur w0 w t g A c cc was L bare) (hbw : Bytes was) (hbl : Bytes L) (hl : was.length ≤ 10000) (place at_ n : Nat) {pz az nz : Int} (e1 : pz = place) (e2 : az = at_) (e3 : nz = n)
    (hp : place + 2 ≤ was.length) (ha : at_ + n ≤ was.length) (hand : Go.bits .andNot .i64 az 1 = ((at_ / 2 * 2 : Nat) : Int)) :
    Calls Try.prog 79 #[.pointer (some ⟨t, 0, none⟩), .int .i64 pz, .int .i64 az, .int .i64 nz] w fun e w' => e = .returned (.tuple #[]) ∧ Tur w0 w' t g A c cc was (putL L place 2 (turnS was L (pairsN at_ n) (at_ / 2 * 2) (numL L place 2))) bare := by
  have HT := Aside0.mk h
  obtain ⟨T0, T1, T2⟩ := c3 h.blk
  have HBW := Aside0.mk hbw
  have HBL := Aside0.mk hbl
  have HL := Aside0.mk (show was.length ≤ 100000 by omega)
  have HLL := Aside0.mk (show L.length ≤ 100000 by rw [h.len]; omega)
  have HRR := Aside0.mk (Kd.R_reads' h.row)
  have HRD := Aside0.mk (Kd.C_below h.rd h.below)
  have HRL : Aside0 (Kd.C (Kd.int .u8) w (some ⟨g, 0, none⟩) was.length L) := Aside0.mk (by have := HRR.out.2.2; rw [← HRR.out.1] at this; exact this)
  have HCC := Aside0.mk HRR.out.2.1
  have G0 := Aside0.mk (get_calls (l := L) (w := w) place 2 (iz := pz) (mz := 2) HRL.out h.len HCC.out hbl HLL.out e1 rfl (by omega) (by rw [h.len]; omega))
  have E1 := Aside0.mk e1
  have E2 := Aside0.mk e2
  have E3 := Aside0.mk e3
  have HPA := Aside0.mk (And.intro hp ha)
  have HL4 := Aside0.mk hl
  have hwe : wrap64 (az + nz) = az + nz := wid (by omega) (by omega)
  clear e1 e2 e3 hp ha hbw hbl hl h
  obtain ⟨R, hR⟩ : ∃ R, turnS was L (pairsN at_ n) (at_ / 2 * 2) (numL L place 2) = R := ⟨_, rfl⟩
  rw [hR]
  have HRE := Aside0.mk hR
  clear hR
  go_enter Try.func79, Try.ntmps79
  go_wp2_with (first | (go_at_call 48; (with_reducible refine G0.out.mono ?_); rintro e w1 ⟨rfl, ⟨⟨nd, rfl⟩⟩⟩))
  clear hand
  have HNB := Aside0.mk (num2_b HBL.out place)
  go_loopg [8, 9] (pairsN at_ n) (fun kq v8 v9 w' => ∃ (i : Nat) (s : Int), v8 = .int .i64 s ∧ v9 = .int .i64 (i : Int) ∧ Aside (kq = (at_ + n + 1) / 2 - i / 2) ∧ Aside (i % 2 = 0) ∧ Aside (0 ≤ s ∧ s ≤ 65535) ∧ Aside (turnS was L kq i s = R) ∧ Drawn0 w w')
  case atStart =>
    exact ⟨at_ / 2 * 2, _, rfl, by simp, (by show _ = _; unfold pairsN; omega), (by show _ = _; omega), HNB.out, HRE.out, ⟨⟨nd, rfl⟩⟩⟩
  case round =>
    obtain ⟨i, s, rfl, rfl, hk, hev, hsb, hr, ⟨⟨nd', rfl⟩⟩⟩ := hrel
    have HKQ := Aside0.mk hk.out
    have HEV := Aside0.mk hev.out
    have HSB := Aside0.mk hsb.out
    have HRR2 := Aside0.mk hr.out
    clear hk hev hsb hr
    by_cases hlt : (i : Int) < az + nz
    · have hd : decide ((i : Int) < az + nz) = true := decide_eq_true hlt
      have HI := Aside0.mk (show i < was.length from by have := HPA.out; have := E2.out; have := E3.out; omega)
      have HLT2 := Aside0.mk hlt
      clear hlt
      go_upto_region 4 with fail
      refine start_ (n := 15) (S := fun w' => w'.cell? ⟨t, 0, none⟩ = some (.slice A was.length c) ∧ w'.cell? ⟨t, 1, none⟩ = some (.slice (some ⟨g, 0, none⟩) was.length cc) ∧ w'.cell? ⟨t, 2, none⟩ = some (.bool bare)) (ds := []) #[fF,fF,fF,fF,fF,fF,fF,fF,fF,fF,fF,fF,fF,fF,fF] (by kernel_rfl) rfl rfl ⟨T0, T1, T2⟩ (fun hHeld => ?_)
      refine pure_ (i := 0) (N := some 25) (v := ?_) (a' := ?_) #[tT,fF,fF,fF,fF,fF,fF,fF,fF,fF,fF,fF,fF,fF,fF] rfl rfl (by kernel_rfl) (fun _ _ _ h => h) (Or.inl ⟨by rfl, ?_⟩) ?_ ?_
      rotate_left; · intro w'; go_simp; with_reducible rfl
      rotate_left; · simp only [Act.put, q_a, q_0, q_s, i64_w, i32_w]; rfl
      refine pure_ (i := 1) (N := some 26) (v := ?_) (a' := ?_) #[tT,tT,fF,fF,fF,fF,fF,fF,fF,fF,fF,fF,fF,fF,fF] rfl rfl (by kernel_rfl) (fun _ _ _ h => h) (Or.inl ⟨by rfl, ?_⟩) ?_ ?_
      rotate_left; · intro w'; go_simp; with_reducible rfl
      rotate_left; · simp only [Act.put, q_a, q_0, q_s, i64_w, i32_w]; rfl
      refine pure_ (i := 2) (N := some 27) (v := ?_) (a' := ?_) #[tT,tT,tT,fF,fF,fF,fF,fF,fF,fF,fF,fF,fF,fF,fF] rfl rfl (by kernel_rfl) (fun _ _ _ h => h) (Or.inl ⟨by rfl, ?_⟩) ?_ ?_
      rotate_left; · intro w'; go_simp; with_reducible rfl
      rotate_left; · simp only [Act.put, q_a, q_0, q_s, i64_w, i32_w]; rfl
      refine pure_ (i := 3) (N := some 28) (v := ?_) (a' := ?_) #[tT,tT,tT,tT,fF,fF,fF,fF,fF,fF,fF,fF,fF,fF,fF] rfl rfl (by kernel_rfl) (fun _ _ _ h => h) (Or.inl ⟨by rfl, ?_⟩) ?_ ?_
      rotate_left; · intro w'; go_simp; with_reducible rfl
      rotate_left; · simp only [Act.put, q_a, q_0, q_s, i64_w, i32_w]; rfl
      refine pure_ (i := 5) (N := some 30) (v := ?_) (a' := ?_) #[tT,tT,tT,tT,fF,tT,fF,fF,fF,fF,fF,fF,fF,fF,fF] rfl rfl (by kernel_rfl) (fun _ _ _ h => h) (Or.inl ⟨by rfl, ?_⟩) ?_ ?_
      rotate_left; · intro w'; go_simp; with_reducible rfl
      rotate_left; · simp only [Act.put, q_a, q_0, q_s, i64_w, i32_w]; rfl
      refine pure_ (i := 7) (N := some 32) (v := ?_) (a' := ?_) #[tT,tT,tT,tT,fF,tT,fF,tT,fF,fF,fF,fF,fF,fF,fF] rfl rfl (by kernel_rfl) (fun _ _ _ h => h) (Or.inl ⟨by rfl, ?_⟩) ?_ ?_
      rotate_left; · intro w'; go_simp; with_reducible rfl
      rotate_left; · simp only [Act.put, q_a, q_0, q_s, i64_w, i32_w]; rfl
      refine pure_ (i := 8) (N := some 33) (v := ?_) (a' := ?_) #[tT,tT,tT,tT,fF,tT,fF,tT,tT,fF,fF,fF,fF,fF,fF] rfl rfl (by kernel_rfl) (fun _ _ _ h => h) (Or.inl ⟨by rfl, ?_⟩) ?_ ?_
      rotate_left; · intro w'; go_simp; with_reducible rfl
      rotate_left; · simp only [Act.put, q_a, q_0, q_s, i64_w, i32_w]; rfl
      refine pure_ (i := 9) (N := some 34) (v := ?_) (a' := ?_) #[tT,tT,tT,tT,fF,tT,fF,tT,tT,tT,fF,fF,fF,fF,fF] rfl rfl (by kernel_rfl) (fun _ _ _ h => h) (Or.inl ⟨by rfl, ?_⟩) ?_ ?_
      rotate_left; · intro w'; go_simp; with_reducible rfl
      rotate_left; · simp only [Act.put, q_a, q_0, q_s, i64_w, i32_w]; rfl
      refine pure_ (i := 11) (N := some 36) (v := ?_) (a' := ?_) #[tT,tT,tT,tT,fF,tT,fF,tT,tT,tT,fF,tT,fF,fF,fF] rfl rfl (by kernel_rfl) (fun _ _ _ h => h) (Or.inl ⟨by rfl, ?_⟩) ?_ ?_
      rotate_left; · intro w'; go_simp; with_reducible rfl
      rotate_left; · simp only [Act.put, q_a, q_0, q_s, i64_w, i32_w]; rfl
      refine take_ (i := 4) (N := some 29) (v := ?_) (a' := ?_) #[tT,tT,tT,tT,tT,tT,fF,tT,tT,tT,fF,tT,fF,fF,fF] rfl rfl (by kernel_rfl) (fun _ _ _ h => h) (Or.inl ⟨by rfl, ?_⟩) hHeld ?_ ?_
      rotate_left
      · rintro w' ⟨s0, s1, s2⟩
        go_simp
        with_reducible rfl
      rotate_left; · simp only [Act.put, q_a, q_0, q_s, i64_w, i32_w]; rfl
      refine take_ (i := 10) (N := some 35) (v := ?_) (a' := ?_) #[tT,tT,tT,tT,tT,tT,fF,tT,tT,tT,tT,tT,fF,fF,fF] rfl rfl (by kernel_rfl) (fun _ _ _ h => h) (Or.inl ⟨by rfl, ?_⟩) hHeld ?_ ?_
      rotate_left
      · rintro w' ⟨s0, s1, s2⟩
        go_simp
        with_reducible rfl
      rotate_left; · simp only [Act.put, q_a, q_0, q_s, i64_w, i32_w]; rfl
      refine one_ (i := 6) (N := some 31) #[tT,tT,tT,tT,tT,tT,tT,tT,tT,tT,tT,tT,fF,fF,fF] rfl rfl (by kernel_rfl) (by decide) (fun K hK => ?_)
      refine goes_ Try.func103 (by kernel_rfl) rfl #[.slice A was.length c, .int .i64 (i : Int)] (by rfl) rfl rfl (by simp only [List.map_toArray, List.map_cons, List.map_nil]; rfl) ?_
      with_reducible refine (pair_calls (l := was) i (by repeat (first | with_reducible exact HRD.out | (with_reducible refine Kd.C_drewN ?_ _) | (with_reducible refine Kd.C_drew ?_))) rfl HT.out.le HBW.out HL.out rfl HI.out).mono ?_
      rintro e w3 ⟨rfl, ⟨⟨nq, rfl⟩⟩⟩
      refine ⟨_, rfl, ?_⟩
      refine hK.out _ _ ⟨T0, T1, T2⟩ (fun hHeld => ?_)
      clear hK K
      refine norm_ (a' := ?_) ?_ ?_
      rotate_left
      · show Act.put _ (some 31) _ = _
        simp only [Act.put, q_a, q_0, q_s, i64_w, i32_w]
        rfl
      refine one_ (i := 12) (N := some 37) #[tT,tT,tT,tT,tT,tT,tT,tT,tT,tT,tT,tT,tT,fF,fF] rfl rfl (by kernel_rfl) (by decide) (fun K hK => ?_)
      refine goes_ Try.func103 (by kernel_rfl) rfl #[.slice (some ⟨g, 0, none⟩) was.length cc, .int .i64 (i : Int)] (by rfl) rfl rfl (by simp only [List.map_toArray, List.map_cons, List.map_nil]; rfl) ?_
      with_reducible refine (pair_calls (l := L) i (by repeat (first | with_reducible exact HRL.out | (with_reducible refine Kd.C_drewN ?_ _) | (with_reducible refine Kd.C_drew ?_))) HT.out.len HCC.out HBL.out HLL.out rfl (by rw [HT.out.len]; exact HI.out)).mono ?_
      rintro e w3 ⟨rfl, ⟨⟨nq, rfl⟩⟩⟩
      refine ⟨_, rfl, ?_⟩
      refine hK.out _ _ ⟨T0, T1, T2⟩ (fun hHeld => ?_)
      clear hK K
      refine norm_ (a' := ?_) ?_ ?_
      rotate_left
      · show Act.put _ (some 37) _ = _
        simp only [Act.put, q_a, q_0, q_s, i64_w, i32_w]
        rfl
      refine one_ (i := 13) (N := some 38) #[tT,tT,tT,tT,tT,tT,tT,tT,tT,tT,tT,tT,tT,tT,fF] rfl rfl (by kernel_rfl) (by decide) (fun K hK => ?_)
      refine goes_ Try.func84 (by kernel_rfl) rfl #[.int .i64 s, .int .i64 (pairL was i), .int .i64 (pairL L i)] (by rfl) rfl rfl (by simp only [List.map_toArray, List.map_cons, List.map_nil]; rfl) ?_
      with_reducible refine (turn_calls HSB.out.1 HSB.out.2 (pairL_b HBW.out i).1 (pairL_b HBW.out i).2 (pairL_b HBL.out i).1 (pairL_b HBL.out i).2 _).mono ?_
      rintro e w3 ⟨rfl, ⟨⟨nq, rfl⟩⟩⟩
      refine ⟨_, rfl, ?_⟩
      refine hK.out _ _ ⟨T0, T1, T2⟩ (fun hHeld => ?_)
      clear hK K
      refine norm_ (a' := ?_) ?_ ?_
      rotate_left
      · show Act.put _ (some 38) _ = _
        simp only [Act.put, q_a, q_0, q_s, i64_w, i32_w]
        rfl
      refine pure_ (i := 14) (N := some 8) (v := ?_) (a' := ?_) #[tT,tT,tT,tT,tT,tT,tT,tT,tT,tT,tT,tT,tT,tT,tT] rfl rfl (by kernel_rfl) (fun _ _ _ h => h) (Or.inl ⟨by rfl, ?_⟩) ?_ ?_
      rotate_left; · intro w'; go_simp; with_reducible rfl
      rotate_left; · simp only [Act.put, q_a, q_0, q_s, i64_w, i32_w]; rfl
      refine done_ (by kernel_rfl) ?_
      have HT2 := Aside0.mk (turn_bounds HSB.out.1 HSB.out.2 (pairL_b HBW.out i).1 (pairL_b HBW.out i).2 (pairL_b HBL.out i).1 (pairL_b HBL.out i).2)
      have hi2 : wrap64 ((i : Int) + 2) = ((i + 2 : Nat) : Int) := by have := HI.out; have := HL.out; rw [wid (by omega) (by omega)]; omega
      have HGK := Aside0.mk (show 0 < gk from by have := HKQ.out; have := HEV.out; have := HLT2.out; have := E2.out; have := E3.out; omega)
      have HRN := Aside0.mk (show turnS was L (gk - 1) (i + 2) (turn s (pairL was i) (pairL L i)) = R from by
        have h1 := HRR2.out
        obtain ⟨m, hm⟩ : ∃ m, gk = m + 1 := ⟨gk - 1, by have := HGK.out; omega⟩
        rw [hm] at h1 ⊢
        exact h1)
      clear hHeld
      go_wp2
      go_roundg (gk - 1)
      case measure => have := HGK.out; omega
      case rel => exact ⟨i + 2, _, rfl, (by first | rfl | (show Value.int _ _ = Value.int _ _; rw [hi2])), (by show _ = _; have := HKQ.out; have := HEV.out; omega), (by show _ = _; have := HEV.out; omega), HT2.out, HRN.out, by repeat (first | exact Drawn0.refl _ | apply Drawn0.step)⟩
    · have hd : decide ((i : Int) < az + nz) = false := decide_eq_false hlt
      have hk0 : gk = 0 := by have := HKQ.out; have := HEV.out; have := E2.out; have := E3.out; omega
      have HS := Aside0.mk (show s = R from by have h1 := HRR2.out; rw [hk0] at h1; exact h1)
      clear hlt
      have PR := Aside0.mk (fun nd_ => put_calls (w0 := w0) (w := (w.drewN nd').drewN nd_) (v := .slice (some ⟨g, 0, none⟩) was.length cc) place 2 s (iz := pz) (mz := 2) (bd (bd HT.out.below nd') nd_) (Kd.R_drewN (Kd.R_drewN HT.out.row nd') nd_) HLL.out E1.out rfl (by omega) (by rw [HT.out.len]; exact HPA.out.1))
      have PR0 := Aside0.mk (put_calls (w0 := w0) (w := w.drewN nd') (v := .slice (some ⟨g, 0, none⟩) was.length cc) place 2 s (iz := pz) (mz := 2) (bd HT.out.below nd') (Kd.R_drewN HT.out.row nd') HLL.out E1.out rfl (by omega) (by rw [HT.out.len]; exact HPA.out.1))
      go_wp2_with (first | (go_at_call 35; (with_reducible refine PR0.out.mono ?_); rintro e w9 ⟨rfl, hr9, hb9, hg9⟩))
      have hfin : Tur w0 w9 t g A c cc was (putL L place 2 R) bare := by
        have hb := HT.out.blk
        have hl0 : t < w.heap.size := blk_lt hb
        have hg' : ∀ k, k < w.heap.size → k ≠ g → w9.heap[k]? = w.heap[k]? := fun k hk hne => hg9.block k hk (by simp [Value.ownBlock]; exact hne)
        refine ⟨(hg' t hl0 HT.out.ne).trans hb, by rw [← HS.out]; exact hr9, HT.out.rd, HT.out.le, by rw [putL_len]; exact HT.out.len, HT.out.ne, HT.out.ht, HT.out.hg, hb9⟩
      go_end0
      exact ⟨rfl, hfin⟩
theorem Tur.drewN {w0 w : World} {t g : Nat} {A : Option Addr} {c cc : Nat} {was L : List Int} {bare : Bool} (h : Tur w0 w t g A c cc was L bare) (n : Nat) : Tur w0 (w.drewN n) t g A c cc was L bare :=
  ⟨h.blk, Kd.R_drewN h.row n, h.rd, h.le, h.len, h.ne, h.ht, h.hg, bd h.below n⟩
/-- Where a body's sum is. -/
def placeL (l : List Int) : Nat := if l.getD 0 0 = 3 then 18 else 22
/-- A sum at a place, turned by the pairs that some bytes touch. -/
def turnL (was L : List Int) (place at_ n : Nat) : List Int := putL L place 2 (turnS was L (pairsN at_ n) (at_ / 2 * 2) (numL L place 2))
theorem turnL_bytes {was L : List Int} (h : Bytes L) (p a n : Nat) : Bytes (turnL was L p a n) := putL_bytes _ _ _ h
/-- A gram's sum is no nought. -/
def doneL (bare : Bool) (L : List Int) : List Int := if L.getD 0 0 = 2 ∧ bare = false ∧ numL L 22 2 = 0 then putL L 22 2 65535 else L
set_option maxHeartbeats 1000000 in
set_option maxRecDepth 100000 in
theorem tdone_calls {w0 w : World} {t g : Nat} {A : Option Addr} {c cc : Nat} {was L : List Int} {bare : Bool} (h : Tur w0 w t g A c cc was L bare) (hbl : Bytes L) (hl : was.length ≤ 10000) (h24 : 24 ≤ was.length) :
    Calls Try.prog 80 #[.pointer (some ⟨t, 0, none⟩)] w fun e w' => ∃ v, e = .returned v ∧ RB w0.heap.size w' v (doneL bare L) ∧ Below w0.heap.size w0 w' := by
  obtain ⟨T0, T1, T2⟩ := c3 h.blk
  have HT := Aside0.mk h
  have b0 := getD_byte hbl 0
  have r0 := rb_cell h.row 0 (by omega)
  obtain ⟨x, hx⟩ : ∃ x, L.getD 0 0 = x := ⟨_, rfl⟩
  rw [hx] at b0 r0
  have wx : wrap64 x = x := wid (by omega) (by omega)
  have i0 : (0 : Int) < (was.length : Int) := by omega
  have i0n : 0 < was.length := by omega
  have HRR := Aside0.mk (Kd.R_reads' h.row)
  have HRL : Aside0 (Kd.C (Kd.int .u8) w (some ⟨g, 0, none⟩) was.length L) := Aside0.mk (by have := HRR.out.2.2; rw [← HRR.out.1] at this; exact this)
  have G45 := Aside0.mk (get_calls (l := L) (w := w) 22 2 (iz := 22) (mz := 2) HRL.out h.len HRR.out.2.1 hbl (by rw [h.len]; omega) rfl rfl (by omega) (by rw [h.len]; omega))
  have P36 := Aside0.mk (fun nd => put_calls (w0 := w0) (w := w.drewN nd) (v := .slice (some ⟨g, 0, none⟩) was.length cc) 22 2 65535 (iz := 22) (mz := 2) (bd h.below nd) (Kd.R_drewN h.row nd) (by rw [h.len]; omega) rfl rfl (by omega) (by rw [h.len]; omega))
  have HX := Aside0.mk hx
  have HN0 := Aside0.mk h.ne
  have HLT := Aside0.mk (blk_lt h.blk)
  have HBK := Aside0.mk h.blk
  have HDD := Aside0.mk (show doneL bare L = (if x = 2 ∧ bare = false ∧ numL L 22 2 = 0 then putL L 22 2 65535 else L)  from by unfold doneL; rw [hx])
  clear h hbl hl h24 hx
  by_cases h2 : x = 2
  · have q2 : (x == 2) = true := beq_iff_eq.mpr h2
    cases bare with
    | true =>
      go_enter Try.func80, Try.ntmps80
      go_wp2
      go_ret
      exact ⟨_, rfl, by rw [HDD.out, if_neg (by simp)]; exact HT.out.row, HT.out.below⟩
    | false =>
      by_cases hz : numL L 22 2 = 0
      · have qz : (numL L 22 2 == 0) = true := beq_iff_eq.mpr hz
        go_enter Try.func80, Try.ntmps80
        go_wp2_with (first
          | (go_at_call 48; (with_reducible refine G45.out.mono ?_); rintro e w1 ⟨rfl, ⟨⟨nd, rfl⟩⟩⟩)
          | (go_at_call 35; (with_reducible refine (P36.out _).mono ?_); rintro e w2 ⟨rfl, hr, hb, hg⟩; have HRX := Aside0.mk hr; have HBX := Aside0.mk hb; have hz2 := (hg.block t HLT.out (by simp [Value.ownBlock]; exact HN0.out)).trans HBK.out; clear hr hb hg T0 T1 T2; obtain ⟨T0, T1, T2⟩ := c3 hz2; clear hz2))
        go_ret
        exact ⟨_, rfl, by rw [HDD.out, if_pos (by simp [h2, hz])]; exact HRX.out, HBX.out⟩
      · have qz : (numL L 22 2 == 0) = false := beq_eq_false_iff_ne.mpr hz
        go_enter Try.func80, Try.ntmps80
        go_wp2_with (first
          | (go_at_call 48; (with_reducible refine G45.out.mono ?_); rintro e w1 ⟨rfl, ⟨⟨nd, rfl⟩⟩⟩))
        go_ret
        exact ⟨_, rfl, by rw [HDD.out, if_neg (fun h => hz h.2.2)]; exact Kd.R_drewN HT.out.row _, bd HT.out.below _⟩
  · have q2 : (x == 2) = false := beq_eq_false_iff_ne.mpr h2
    go_enter Try.func80, Try.ntmps80
    go_wp2
    go_ret
    exact ⟨_, rfl, by rw [HDD.out, if_neg (fun h => h2 h.1)]; exact HT.out.row, HT.out.below⟩
theorem Tur.alloc {w0 w : World} {t g : Nat} {A : Option Addr} {c cc : Nat} {was L : List Int} {bare : Bool} (h : Tur w0 w t g A c cc was L bare) (o : Obj) : Tur w0 (w.alloc o) t g A c cc was L bare :=
  ⟨(Below.heap_alloc w o t (blk_lt h.blk)).trans h.blk, Kd.R_alloc h.row o, h.rd, h.le, h.len, h.ne, h.ht, h.hg, h.below.alloc h.below.size o⟩
theorem Tur.set {w0 w : World} {t g : Nat} {A : Option Addr} {c cc : Nat} {was L : List Int} {bare : Bool} (h : Tur w0 w t g A c cc was L bare) (i : Nat) (x : Int) : Tur w0 (w.setCell ⟨g, i, none⟩ (.int .u8 x)) t g A c cc was (L.set i x) bare :=
  ⟨(Below.heap_setCell w ⟨g, i, none⟩ _ t h.ne).trans h.blk, rb_set h.row i x, h.rd, h.le, by rw [List.length_set]; exact h.len, h.ne, h.ht, h.hg, h.below.setCell (p := ⟨g, i, none⟩) h.hg _⟩
/-- What stands behind a call that answers bytes, or an error. -/
def Told (w : World) (r : List Int) (x : Int) (e : Ending) (w' : World) : Prop := ∃ v, e = .returned (.tuple #[v, .int .i64 x]) ∧ RB w.heap.size w' v r ∧ Below w.heap.size w w'
theorem told_nil {w w' : World} {x : Int} (hb : Below w.heap.size w w') : Told w [] x (.returned (.tuple #[.slice none 0 0, .int .i64 x])) w' := ⟨_, rfl, Kd.R_nil _ _ _ _ _, hb⟩
set_option maxHeartbeats 1000000 in
set_option maxRecDepth 100000 in
theorem age_err {A : Option Addr} {c : Nat} {l : List Int} {w : World} (hr : Kd.C (Kd.int .u8) w A l.length l) (hc : l.length ≤ c) (hl : l.length ≤ 10000) (hb : Bytes l) {p0 p1 p2 p3 p4 p5 p6 p7 p8 : Int} {p9 : Bool} {p10 : Int} {p11 p12 : List Int} {x : Int} (hp : parseL l = (⟨p0, p1, p2, p3, p4, p5, p6, p7, p8, p9, p10, p11, p12⟩, x)) (hx : x ≠ 0) :
    Calls Try.prog 42 #[.slice A l.length c] w (Told w [] x) := by
  have q0 : (x == 0) = false := beq_eq_false_iff_ne.mpr hx
  have q0n : (x != 0) = true := bne_iff_ne.mpr hx
  have G := Aside0.mk (begin_err hr hc (by omega) hb hp hx)
  clear hr hc hl hb hp hx
  go_enter Try.func42, Try.ntmps42
  go_wp2_with (first | (go_at_call 78; (with_reducible refine G.out.mono ?_); rintro e w1 ⟨⟨A1, c1, A2, c2, rfl⟩, hb1⟩; have HB1 := Aside0.mk hb1; clear hb1))
  go_ret2
  exact told_nil (HB1.out.alloc HB1.out.size _)
set_option maxHeartbeats 1000000 in
set_option maxRecDepth 100000 in
theorem age_ok {A : Option Addr} {c : Nat} {l : List Int} {w : World} (hr : Kd.C (Kd.int .u8) w A l.length l) (hc : l.length ≤ c) (hl : l.length ≤ 10000) (hb : Bytes l) {p0 p1 p2 p3 p4 p5 p6 p7 p8 : Int} {p9 : Bool} {p10 : Int} {p11 p12 : List Int} (hp : parseL l = (⟨p0, p1, p2, p3, p4, p5, p6, p7, p8, p9, p10, p11, p12⟩, 0)) :
    Calls Try.prog 42 #[.slice A l.length c] w (Told w (if p1 < 2 then [] else doneL p9 (turnL l (l.set 1 ((l.getD 1 0 - 1) % 256)) 14 0 2)) (if p1 < 2 then 7 else 0)) := by
  have G := Aside0.mk (begin_ok hr hc (by omega) hb hp)
  have H24 := Aside0.mk (show 24 ≤ l.length from (head0 (parse0 hp)).1)
  have HY := Aside0.mk hb
  have HL := Aside0.mk hl
  by_cases h2 : p1 < 2
  · rw [if_pos h2, if_pos h2]
    have d2 : decide (p1 < 2) = true := decide_eq_true h2
    clear hr hc hl hb hp h2
    go_enter Try.func42, Try.ntmps42
    go_wp2_with (first | (go_at_call 78; (with_reducible refine G.out.mono ?_); rintro e w1 ⟨t, g, cc, A1, c1, A2, c2, rfl, ht⟩; have HT := Aside0.mk ht; clear ht))
    go_ret2
    exact told_nil (HT.out.below.alloc HT.out.below.size _)
  · rw [if_neg h2, if_neg h2]
    have d2 : decide (p1 < 2) = false := decide_eq_false h2
    clear hr hc hl hb hp h2
    go_enter Try.func42, Try.ntmps42
    go_upto_region 6 with (first | (go_at_call 78; (with_reducible refine G.out.mono ?_); rintro e w1 ⟨t, g, cc, A1, c1, A2, c2, rfl, ht⟩; have HT := Aside0.mk ht; clear ht))
    change Code.wp _ _ _ _ (w1.alloc (.cells #[.int .i64 p0, .int .i64 p1, .int .i64 p2, .int .i64 p3, .int .i64 p4, .int .i64 p5, .int .i64 p6, .int .i64 p7, .int .i64 p8, .bool p9, .int .i64 p10, .slice A1 p11.length c1, .slice A2 p12.length c2] 39))
    have HT1 := Aside0.mk (HT.out.alloc (.cells #[.int .i64 p0, .int .i64 p1, .int .i64 p2, .int .i64 p3, .int .i64 p4, .int .i64 p5, .int .i64 p6, .int .i64 p7, .int .i64 p8, .bool p9, .int .i64 p10, .slice A1 p11.length c1, .slice A2 p12.length c2] 39))
    generalize w1.alloc (.cells #[.int .i64 p0, .int .i64 p1, .int .i64 p2, .int .i64 p3, .int .i64 p4, .int .i64 p5, .int .i64 p6, .int .i64 p7, .int .i64 p8, .bool p9, .int .i64 p10, .slice A1 p11.length c1, .slice A2 p12.length c2] 39) = w2 at HT1 ⊢
    obtain ⟨T0, T1, T2⟩ := c3 HT1.out.blk
    have r1 := rb_cell HT1.out.row 1 (by have := H24.out; omega)
    have s1 := rb_frozen HT1.out.row 1
    have i1 : (1 : Int) < (l.length : Int) := by have := H24.out; omega
    have i1n : 1 < l.length := by have := H24.out; omega
    obtain ⟨x, hx⟩ : ∃ x, l.getD 1 0 = x := ⟨_, rfl⟩
    rw [hx] at r1
    have HX := Aside0.mk hx
    clear hx
    go_upto_region 7 with fail
    generalize hW : World.setCell _ _ _ = w3
    have HT3 : Tur w w3 t g A c cc l (l.set 1 ((x - 1) % 256)) p9 := by rw [← hW]; exact HT1.out.set 1 ((x - 1) % 256)
    have hbs : Bytes (l.set 1 ((x - 1) % 256)) := HY.out.set _ (by omega) (by omega)
    have G57 := Aside0.mk (tturn_calls HT3 HY.out hbs HL.out 14 0 2 (pz := 14) (az := 0) (nz := 2) rfl rfl rfl (by have := H24.out; omega) (by have := H24.out; omega) (by decide))
    have HBT := Aside0.mk (turnL_bytes (was := l) hbs 14 0 2)
    clear hW hbs r1 s1 T0 T1 T2 HT3 HT1 HT
    go_wp2_with (first
      | (go_at_call 79; (with_reducible refine G57.out.mono ?_); rintro e w4 ⟨rfl, ht⟩; have G51 := Aside0.mk (tdone_calls ht HBT.out HL.out H24.out); clear ht)
      | (go_at_call 80; (with_reducible refine G51.out.mono ?_); rintro e w5 ⟨v, rfl, hr, hb⟩; have HRX := Aside0.mk hr; have HBX := Aside0.mk hb; clear hr hb))
    go_ret2
    exact ⟨v, rfl, by rw [HX.out]; exact HRX.out, HBX.out⟩
end Go.Proofs.Ytgkmbefamcnifaa.WB
namespace Go.Proofs.Ytgkmbefamcnifaa.TB
set_option linter.unusedVariables false
set_option linter.unusedSimpArgs false
open Go.RowKit Go.Proofs.Ytgkmbefamcnifaa.Hp Go.Proofs.Ytgkmbefamcnifaa.SB Go.Proofs.Ytgkmbefamcnifaa.WB Go.Proofs.YtgkmbefamcnifaaW.PrintWords Go.Proofs.YtgkmbefamcnifaaW.PrintLast Go.Proofs.YtgkmbefamcnifaaW.PrintMore
def roundsS : Nat → S4 → S4
  | 0, s => s
  | n + 1, s => roundsS n (roundS s)
def SipS (w0 w : World) (b : Nat) (s : S4) : Prop := SipAt w0 w b s.a s.b s.c s.d
theorem round_at {w0 w : World} {b : Nat} {s : S4} (h : SipS w0 w b s) : Calls Try.prog 101 #[.pointer (some ⟨b, 0, none⟩)] w fun e w' => e = .returned (.tuple #[]) ∧ SipS w0 w' b (roundS s) := round_calls h
set_option maxHeartbeats 2000000 in
set_option maxRecDepth 100000 in
theorem rounds_calls {w0 w : World} {b : Nat} {s : S4} (n : Nat) (hn : n ≤ 100) {nz : Int} (e1 : nz = n) (h : SipS w0 w b s) :
    Calls Try.prog 69 #[.pointer (some ⟨b, 0, none⟩), .int .i64 nz] w fun e w' => e = .returned (.tuple #[]) ∧ SipS w0 w' b (roundsS n s) := by
  subst e1
  have H0 := Aside0.mk h
  have HN := Aside0.mk hn
  clear h hn
  obtain ⟨R, hR⟩ : ∃ R, roundsS n s = R := ⟨_, rfl⟩
  rw [hR]
  have HRR := Aside0.mk hR
  clear hR
  go_enter Try.func69, Try.ntmps69
  go_wp2
  go_loopg [5] n (fun kq v5 w' => ∃ (i : Nat) (t : S4), v5 = .int .i64 (i : Int) ∧ Aside (kq + i = n) ∧ Aside (roundsS kq t = R) ∧ Aside0 (SipS w0 w' b t))
  case atStart => exact ⟨0, s, rfl, (by show _ = _; omega), HRR.out, H0⟩
  case round =>
    obtain ⟨i, t, rfl, hk, hr, hs⟩ := hrel
    have HKQ := Aside0.mk hk.out
    have HR2 := Aside0.mk hr.out
    clear hk hr
    by_cases hlt : (i : Int) < (n : Int)
    · have hd : decide ((i : Int) < (n : Int)) = true := decide_eq_true hlt
      have hdn : decide (i < n) = true := decide_eq_true (by omega)
      have HLT := Aside0.mk hlt
      clear hlt
      have hi2 : wrap64 ((i : Int) + 1) = ((i + 1 : Nat) : Int) := by have := HN.out; have := HKQ.out; rw [wid (by omega) (by omega)]; omega
      have HGK := Aside0.mk (show 0 < gk from by have := HKQ.out; have := HLT.out; omega)
      go_wp2_with (first | (go_at_call 101; (with_reducible refine (round_at hs.out).mono ?_); rintro e w2 ⟨rfl, hs2⟩; have HS2 := Aside0.mk hs2; clear hs2))
      go_roundg (gk - 1)
      case measure => have := HGK.out; omega
      case rel => exact ⟨i + 1, _, (by first | rfl | (show Value.int _ _ = Value.int _ _; rw [hi2])), (by show _ = _; have := HKQ.out; have := HGK.out; omega), (by
        obtain ⟨m, hm⟩ : ∃ m, gk = m + 1 := ⟨gk - 1, by have := HGK.out; omega⟩
        have h1 := HR2.out
        rw [hm] at h1
        show roundsS (gk - 1) _ = R
        rw [hm]; exact h1), HS2⟩
    · have hd : decide ((i : Int) < (n : Int)) = false := decide_eq_false hlt
      have hdn : decide (i < n) = false := decide_eq_false (by omega)
      have hk0 : gk = 0 := by have := HKQ.out; omega
      have HS := Aside0.mk (show t = R from by have h1 := HR2.out; rw [hk0] at h1; exact h1)
      clear hlt
      go_wp2
      go_end0
      exact ⟨rfl, by rw [← HS.out]; exact hs.out⟩
def takeS (n : Int) (s : S4) : S4 :=
  let t := roundsS 2 ⟨s.a, s.b, s.c, Go.bits .xor .u64 s.d n⟩
  ⟨Go.bits .xor .u64 t.a n, t.b, t.c, t.d⟩
set_option maxHeartbeats 2000000 in
set_option maxRecDepth 100000 in
theorem take_calls {w0 w : World} {b : Nat} {s : S4} (n : Int) (h : SipS w0 w b s) :
    Calls Try.prog 67 #[.pointer (some ⟨b, 0, none⟩), .int .u64 n] w fun e w' => e = .returned (.tuple #[]) ∧ SipS w0 w' b (takeS n s) := by
  obtain ⟨x0, x1, x2, x3⟩ := s
  change SipAt w0 w b x0 x1 x2 x3 at h
  have H0 := Aside0.mk h
  obtain ⟨T0, T1, T2, T3⟩ := h.cells
  obtain ⟨U0, U1, U2, U3⟩ := h.free
  clear h
  obtain ⟨t, ht⟩ : ∃ t, roundsS 2 ⟨x0, x1, x2, Go.bits .xor .u64 x3 n⟩ = t := ⟨_, rfl⟩
  have HRT := Aside0.mk (fun W (hW : SipS w0 W b ⟨x0, x1, x2, Go.bits .xor .u64 x3 n⟩) => ht ▸ rounds_calls (nz := 2) 2 (by omega) rfl hW)
  have hg : takeS n ⟨x0, x1, x2, x3⟩ = ⟨Go.bits .xor .u64 t.a n, t.b, t.c, t.d⟩ := by rw [← ht]; rfl
  rw [hg]
  clear hg ht
  go_enter Try.func67, Try.ntmps67
  go_upto_region 1 with fail
  refine wp_w (fun W => SipS w0 W b ⟨x0, x1, x2, Go.bits .xor .u64 x3 n⟩) ?_ ?_
  · exact H0.out.set3 _
  intro w1 h1
  have H1 := Aside0.mk h1
  clear h1 T0 T1 T2 T3 U0 U1 U2 U3
  go_wp2_with (first | (go_at_call 69; (with_reducible refine (HRT.out _ H1.out).mono ?_); rintro e w2 ⟨rfl, h2⟩; have H2 := Aside0.mk h2; obtain ⟨T0, T1, T2, T3⟩ := SipAt.cells h2; obtain ⟨U0, U1, U2, U3⟩ := SipAt.free h2; clear h2))
  go_end0
  exact ⟨rfl, SipAt.set0 H2.out _⟩
/-- A row's number of up to eight bytes. -/
def numS (l : List Int) : Int := (sip_number_byte.f 9 l).getD 0
theorem num_l0 (l : List Int) : ∀ (k j : Nat) (x : Int), (j : Int) ≤ mn (l.length : Int) 8 → mn (l.length : Int) 8 < j + k → ∃ y, sip_number_byte.l0 k l x (mn (l.length : Int) 8) j = some y
  | 0, j, x, h1, h2 => by omega
  | k + 1, j, x, h1, h2 => by
    have hm : mn (l.length : Int) 8 ≤ 8 ∧ mn (l.length : Int) 8 ≤ l.length := by unfold mn; split <;> omega
    simp only [sip_number_byte.l0]
    by_cases h : (j : Int) < mn (l.length : Int) 8
    · rw [if_pos h, if_pos (by omega), if_pos (by omega), if_pos (by rw [wid (by omega) (by omega)]; omega), show wrap64 ((j : Int) + 1) = ((j + 1 : Nat) : Int) by rw [wid (by omega) (by omega)]; omega]
      exact num_l0 l k (j + 1) _ (by omega) (by omega)
    · rw [if_neg h]; exact ⟨_, rfl⟩
theorem num_some (l : List Int) : sip_number_byte.f 9 l = some (numS l) := by
  obtain ⟨y, hy⟩ := num_l0 l 9 0 0 (by unfold mn; split <;> omega) (by unfold mn; split <;> omega)
  have : sip_number_byte.f 9 l = some y := hy
  rw [numS, this]; rfl
theorem num8_calls {A : Option Addr} {c : Nat} {l : List Int} {n : Nat} {w : World} (hr : Kd.C (Kd.int .u8) w A n l) (hn : l.length = n) (hc : n ≤ c) :
    Calls Try.prog 68 #[.slice A n c] w fun e w' => e = .returned (.int .u64 (numS l)) ∧ Below w.heap.size w w' := by
  subst hn
  exact sip_number_byte.calls 9 A c l _ w hr hc (num_some l)
def eatS : Nat → List Int → S4 → List Int × S4
  | 0, l, s => (l, s)
  | n + 1, l, s => eatS n (l.drop 8) (takeS (numS (l.take 8)) s)
def startS (k : Ky) : S4 := ⟨Go.bits .xor .u64 k.a 8317987319222330741, Go.bits .xor .u64 k.b 7237128888997146477, Go.bits .xor .u64 k.a 7816392313619706465, Go.bits .xor .u64 k.b 8387220255154660723⟩
def lastS (n : Int) (r : List Int × S4) : S4 := takeS (Go.bits .or .u64 (numS r.1) (IntKind.u64.wrap (IntKind.u64.wrap n * 72057594037927936))) r.2
def outS (u : S4) : Int := Go.bits .xor .u64 (Go.bits .xor .u64 (Go.bits .xor .u64 u.a u.b) u.c) u.d
def ofL (k : Ky) (l : List Int) : Int :=
  let t := lastS (l.length : Int) (eatS (l.length / 8) l (startS k))
  outS (roundsS 4 ⟨t.a, t.b, Go.bits .xor .u64 t.c 255, t.d⟩)
theorem sip_here {w : World} {b : Nat} {s : S4} (h : w.heap[b]? = some (.cells #[.int .u64 s.a, .int .u64 s.b, .int .u64 s.c, .int .u64 s.d] 131 (0, 0))) : SipS w w b s := ⟨h, Chg.refl _ _⟩
set_option maxHeartbeats 4000000 in
set_option maxRecDepth 100000 in
theorem of_calls {w : World} (k : Ky) {A : Option Addr} {c n : Nat} {l : List Int} (hr : Kd.C (Kd.int .u8) w A n l) (hn : l.length = n) (hc : n ≤ c) (hl : l.length ≤ 100000) :
    Calls Try.prog 28 #[.agg #[.int .u64 k.a, .int .u64 k.b], .slice A n c] w fun e w' => e = .returned (.int .u64 (ofL k l)) ∧ Below w.heap.size w w' := by
  subst hn
  obtain ⟨s, hs⟩ : ∃ s, startS k = s := ⟨_, rfl⟩
  obtain ⟨R, hR⟩ : ∃ R, eatS (l.length / 8) l s = R := ⟨_, rfl⟩
  obtain ⟨t, ht⟩ : ∃ t, lastS (l.length : Int) R = t := ⟨_, rfl⟩
  obtain ⟨u, hu⟩ : ∃ u, roundsS 4 ⟨t.a, t.b, Go.bits .xor .u64 t.c 255, t.d⟩ = u := ⟨_, rfl⟩
  obtain ⟨r, hrr⟩ : ∃ r, outS u = r := ⟨_, rfl⟩
  have hg : ofL k l = r := by rw [ofL, hs, hR, ht]; show outS (roundsS 4 _) = r; rw [hu, hrr]
  rw [hg]
  have HS := Aside0.mk hs
  have HRE := Aside0.mk hR
  have HT := Aside0.mk ht
  have HU := Aside0.mk hu
  have HO := Aside0.mk hrr
  have HR := Aside0.mk hr
  have HC := Aside0.mk hc
  have HL := Aside0.mk hl
  have HLT := Aside0.mk (fun W (b : Nat) (h : SipS W W b ⟨t.a, t.b, Go.bits .xor .u64 t.c 255, t.d⟩) => hu ▸ rounds_calls (nz := 4) 4 (by omega) rfl h)
  clear hs hR ht hu hrr hg hr hc hl
  obtain ⟨ka, kb⟩ := k
  obtain ⟨g, HG⟩ : ∃ g, w.heap.size = g := ⟨_, rfl⟩
  go_enter Try.func28, Try.ntmps28
  go_upto_region 1 with fail
  refine wp_w (fun W => W.heap[g]? = some (.cells #[.int .u64 ka, .int .u64 kb] 30 (0, 0)) ∧ W.heap.size = g + 1 ∧ Below w.heap.size w W) ?_ ?_
  · exact ⟨by rw [← HG]; exact new_blk w _, by rw [← HG]; exact Array.size_push _, below_alloc (Below.refl w.heap.size w) _⟩
  intro w1 h1
  have HB1 := Aside0.mk h1.2.2
  have hgs := h1.2.1
  have k0 : w1.cell? ⟨g, 0, none⟩ = some (.int .u64 ka) := cell_of_row w1 g 0 _ _ _ h1.1
  have k1 : w1.cell? ⟨g, 1, none⟩ = some (.int .u64 kb) := cell_of_row w1 g 1 _ _ _ h1.1
  clear h1
  go_upto_region 2 with fail
  refine wp_w (fun W => W.heap[g + 1]? = some (.cells #[.int .u64 s.a, .int .u64 s.b, .int .u64 s.c, .int .u64 s.d] 131 (0, 0)) ∧ Below w.heap.size w W) ?_ ?_
  · refine ⟨?_, below_alloc HB1.out _⟩
    rw [← hgs, ← HS.out]; exact new_blk w1 _
  intro w2 h2
  have HK2 := Aside0.mk h2.1
  have HB2 := Aside0.mk h2.2
  clear h2 k0 k1
  go_wp2
  go_loopg [6] (l.length / 8) (fun kq v6 w' => ∃ (A' : Option Addr) (c' : Nat) (r' : List Int) (t' : S4), v6 = .slice A' r'.length c' ∧ Aside (kq = r'.length / 8) ∧ Aside0 (Kd.C (Kd.int .u8) w A' r'.length r' ∧ r'.length ≤ c' ∧ r'.length ≤ 100000) ∧ Aside0 (eatS kq r' t' = R) ∧ Aside0 (w'.heap[g + 1]? = some (.cells #[.int .u64 t'.a, .int .u64 t'.b, .int .u64 t'.c, .int .u64 t'.d] 131 (0, 0))) ∧ Aside0 (Below w.heap.size w w'))
  case atStart => exact ⟨A, c, l, s, rfl, (by show _ = _; rfl), Aside0.mk ⟨HR.out, HC.out, HL.out⟩, Aside0.mk HRE.out, HK2, HB2⟩
  case round =>
    obtain ⟨A', c', r', t', rfl, hk, HC', HE', HK', HB'⟩ := hrel
    have HKQ := Aside0.mk hk.out
    clear hk
    have HGE := Aside0.mk (show w.heap.size ≤ g + 1 by omega)
    by_cases h8 : 8 ≤ r'.length
    · have hd : decide (8 ≤ r'.length) = true := decide_eq_true h8
      have hd2 : decide ((8 : Int) ≤ (r'.length : Int)) = true := decide_eq_true (by omega)
      have H8 := Aside0.mk h8
      clear h8
      obtain ⟨hc1, hc2⟩ := cut_to (A := A') (c := c') (n := r'.length) (l := r') 8 (jz := 8) rfl H8.out rfl HC'.out.2.1
      obtain ⟨A2, hf1, hf2, hf3⟩ := cut_from (A := A') (c := c') (n := r'.length) (l := r') 8 (r'.length - 8) (iz := 8) rfl rfl H8.out rfl HC'.out.2.1
      have HC2 := Aside0.mk hc2
      have HF2 := Aside0.mk hf2
      have HF3 := Aside0.mk hf3
      clear hc2 hf2 hf3
      have HL8 := Aside0.mk (show (r'.take 8).length = 8 by rw [List.length_take]; have := H8.out; omega)
      have HN8 := Aside0.mk (fun W (hW : Below w.heap.size w W) => num8_calls (c := c') (HC2.out W (Kd.C_below HC'.out.1 hW)) HL8.out (by have := H8.out; have := HC'.out.2.1; omega))
      have HGK := Aside0.mk (show 0 < gk from by have := HKQ.out; have := H8.out; omega)
      go_wp2_with (first
        | (go_at_call 68; (with_reducible refine (HN8.out _ ?hb).mono ?_); (case hb => (repeat (first | with_reducible exact HB'.out | with_reducible apply pw_below_drewN | with_reducible apply below_drew1))); rintro e x1 ⟨rfl, hb1⟩; have HB1 := Aside0.mk (below_step HB'.out hb1); have HX1 := Aside0.mk ((hb1.block (g + 1) (blk_lt HK'.out)).trans HK'.out); clear hb1)
        | (go_at_call 67; (with_reducible refine (take_calls (w0 := _) (s := t') _ (sip_here (s := t') HX1.out)).mono ?_); rintro e x2 ⟨rfl, hs2⟩; have HK2' := Aside0.mk hs2.blk; have HB2' := Aside0.mk (Chg.step HB1.out hs2.chg HGE.out); clear hs2))
      go_roundg (gk - 1)
      case measure => have := HGK.out; omega
      case rel =>
        exact ⟨A2, c' - 8, r'.drop 8, _, (by rw [List.length_drop]), (by show _ = _; rw [List.length_drop]; have := HKQ.out; have := H8.out; omega), Aside0.mk ⟨(by rw [List.length_drop]; exact HF2.out _ HC'.out.1), (by rw [List.length_drop]; exact HF3.out), (by rw [List.length_drop]; have := HC'.out.2.2; omega)⟩, Aside0.mk (by
          obtain ⟨m, hm⟩ : ∃ m, gk = m + 1 := ⟨gk - 1, by have := HGK.out; omega⟩
          have h1 := HE'.out
          rw [hm] at h1 ⊢
          exact h1), HK2', HB2'⟩
    · have hd : decide (8 ≤ r'.length) = false := decide_eq_false h8
      have hd2 : decide ((8 : Int) ≤ (r'.length : Int)) = false := decide_eq_false (by omega)
      have hk0 : gk = 0 := by have := HKQ.out; omega
      have HR' := Aside0.mk (show (r', t') = R from by have h1 := HE'.out; rw [hk0] at h1; exact h1)
      clear h8
      have HN8 := Aside0.mk (fun W (hW : Below w.heap.size w W) => num8_calls (c := c') (Kd.C_below HC'.out.1 hW) rfl HC'.out.2.1)
      have HTT := Aside0.mk (show takeS (Go.bits .or .u64 (numS r') (IntKind.u64.wrap (IntKind.u64.wrap (l.length : Int) * 72057594037927936))) t' = t from by have h1 := HT.out; rw [← HR'.out] at h1; exact h1)
      go_upto_region 7 with (first
        | (go_at_call 68; (with_reducible refine (HN8.out _ ?hb).mono ?_); (case hb => (repeat (first | with_reducible exact HB'.out | with_reducible apply pw_below_drewN | with_reducible apply below_drew1))); rintro e x1 ⟨rfl, hb1⟩; have HB1 := Aside0.mk (below_step HB'.out hb1); have HX1 := Aside0.mk ((hb1.block (g + 1) (blk_lt HK'.out)).trans HK'.out); clear hb1)
        | (go_at_call 67; (with_reducible refine (take_calls (w0 := _) (s := t') _ (sip_here (s := t') HX1.out)).mono ?_); rintro e x2 ⟨rfl, hs2⟩; have HK2' := Aside0.mk hs2.blk; have HB2' := Aside0.mk (Chg.step HB1.out hs2.chg HGE.out); clear hs2))
      refine wp_w (fun W => W.heap[g + 1]? = some (.cells #[.int .u64 t.a, .int .u64 t.b, .int .u64 t.c, .int .u64 t.d] 131 (0, 0)) ∧ Below w.heap.size w W) ?_ ?_
      · have e := HK2'.out
        rw [show takeS _ t' = t from HTT.out] at e
        exact ⟨e, HB2'.out⟩
      intro w3 h3
      have HK3 := Aside0.mk h3.1
      have HB3 := Aside0.mk h3.2
      clear h3
      obtain ⟨T0, T1, T2, T3⟩ := SipAt.cells (sip_here (s := t) HK3.out)
      obtain ⟨U0, U1, U2, U3⟩ := SipAt.free (sip_here (s := t) HK3.out)
      go_upto_region 8 with fail
      refine wp_w (fun W => SipS W W (g + 1) ⟨t.a, t.b, Go.bits .xor .u64 t.c 255, t.d⟩ ∧ Below w.heap.size w W) ?_ ?_
      · exact ⟨sip_here (SipAt.set2 (sip_here (s := t) HK3.out) _).blk, below_set HB3.out HGE.out⟩
      intro w4 h4
      have HK4 := Aside0.mk h4.1
      have HB4 := Aside0.mk h4.2
      clear h4 T0 T1 T2 T3 U0 U1 U2 U3
      go_upto_region 9 with (first
        | (go_at_call 69; (with_reducible refine (HLT.out _ _ HK4.out).mono ?_); rintro e w5 ⟨rfl, h5⟩; have HK5 := Aside0.mk h5; clear h5))
      obtain ⟨T0, T1, T2, T3⟩ := SipAt.cells HK5.out
      refine start_ (n := 20) (S := fun w' => w'.cell? ⟨g + 1, 0, none⟩ = some (.int .u64 u.a) ∧ w'.cell? ⟨g + 1, 1, none⟩ = some (.int .u64 u.b) ∧ w'.cell? ⟨g + 1, 2, none⟩ = some (.int .u64 u.c) ∧ w'.cell? ⟨g + 1, 3, none⟩ = some (.int .u64 u.d)) (ds := []) #[fF,fF,fF,fF,fF,fF,fF,fF,fF,fF,fF,fF,fF,fF,fF,fF,fF,fF,fF,fF] (by kernel_rfl) rfl rfl ⟨T0, T1, T2, T3⟩ (fun hHeld => ?_)
      refine pure_ (i := 0) (N := some 50) (v := ?_) (a' := ?_) #[tT,fF,fF,fF,fF,fF,fF,fF,fF,fF,fF,fF,fF,fF,fF,fF,fF,fF,fF,fF] rfl rfl (by kernel_rfl) (fun _ _ _ h => h) (Or.inl ⟨by rfl, ?_⟩) ?_ ?_
      rotate_left; · intro w'; go_simp; with_reducible rfl
      rotate_left; · simp only [Act.put, q_a, q_0, q_s, i64_w, i32_w]; rfl
      refine pure_ (i := 1) (N := some 51) (v := ?_) (a' := ?_) #[tT,tT,fF,fF,fF,fF,fF,fF,fF,fF,fF,fF,fF,fF,fF,fF,fF,fF,fF,fF] rfl rfl (by kernel_rfl) (fun _ _ _ h => h) (Or.inl ⟨by rfl, ?_⟩) ?_ ?_
      rotate_left; · intro w'; go_simp; with_reducible rfl
      rotate_left; · simp only [Act.put, q_a, q_0, q_s, i64_w, i32_w]; rfl
      refine pure_ (i := 2) (N := some 52) (v := ?_) (a' := ?_) #[tT,tT,tT,fF,fF,fF,fF,fF,fF,fF,fF,fF,fF,fF,fF,fF,fF,fF,fF,fF] rfl rfl (by kernel_rfl) (fun _ _ _ h => h) (Or.inl ⟨by rfl, ?_⟩) ?_ ?_
      rotate_left; · intro w'; go_simp; with_reducible rfl
      rotate_left; · simp only [Act.put, q_a, q_0, q_s, i64_w, i32_w]; rfl
      refine pure_ (i := 4) (N := some 54) (v := ?_) (a' := ?_) #[tT,tT,tT,fF,tT,fF,fF,fF,fF,fF,fF,fF,fF,fF,fF,fF,fF,fF,fF,fF] rfl rfl (by kernel_rfl) (fun _ _ _ h => h) (Or.inl ⟨by rfl, ?_⟩) ?_ ?_
      rotate_left; · intro w'; go_simp; with_reducible rfl
      rotate_left; · simp only [Act.put, q_a, q_0, q_s, i64_w, i32_w]; rfl
      refine pure_ (i := 5) (N := some 55) (v := ?_) (a' := ?_) #[tT,tT,tT,fF,tT,tT,fF,fF,fF,fF,fF,fF,fF,fF,fF,fF,fF,fF,fF,fF] rfl rfl (by kernel_rfl) (fun _ _ _ h => h) (Or.inl ⟨by rfl, ?_⟩) ?_ ?_
      rotate_left; · intro w'; go_simp; with_reducible rfl
      rotate_left; · simp only [Act.put, q_a, q_0, q_s, i64_w, i32_w]; rfl
      refine pure_ (i := 6) (N := some 56) (v := ?_) (a' := ?_) #[tT,tT,tT,fF,tT,tT,tT,fF,fF,fF,fF,fF,fF,fF,fF,fF,fF,fF,fF,fF] rfl rfl (by kernel_rfl) (fun _ _ _ h => h) (Or.inl ⟨by rfl, ?_⟩) ?_ ?_
      rotate_left; · intro w'; go_simp; with_reducible rfl
      rotate_left; · simp only [Act.put, q_a, q_0, q_s, i64_w, i32_w]; rfl
      refine pure_ (i := 9) (N := some 59) (v := ?_) (a' := ?_) #[tT,tT,tT,fF,tT,tT,tT,fF,fF,tT,fF,fF,fF,fF,fF,fF,fF,fF,fF,fF] rfl rfl (by kernel_rfl) (fun _ _ _ h => h) (Or.inl ⟨by rfl, ?_⟩) ?_ ?_
      rotate_left; · intro w'; go_simp; with_reducible rfl
      rotate_left; · simp only [Act.put, q_a, q_0, q_s, i64_w, i32_w]; rfl
      refine pure_ (i := 10) (N := some 60) (v := ?_) (a' := ?_) #[tT,tT,tT,fF,tT,tT,tT,fF,fF,tT,tT,fF,fF,fF,fF,fF,fF,fF,fF,fF] rfl rfl (by kernel_rfl) (fun _ _ _ h => h) (Or.inl ⟨by rfl, ?_⟩) ?_ ?_
      rotate_left; · intro w'; go_simp; with_reducible rfl
      rotate_left; · simp only [Act.put, q_a, q_0, q_s, i64_w, i32_w]; rfl
      refine pure_ (i := 11) (N := some 61) (v := ?_) (a' := ?_) #[tT,tT,tT,fF,tT,tT,tT,fF,fF,tT,tT,tT,fF,fF,fF,fF,fF,fF,fF,fF] rfl rfl (by kernel_rfl) (fun _ _ _ h => h) (Or.inl ⟨by rfl, ?_⟩) ?_ ?_
      rotate_left; · intro w'; go_simp; with_reducible rfl
      rotate_left; · simp only [Act.put, q_a, q_0, q_s, i64_w, i32_w]; rfl
      refine pure_ (i := 14) (N := some 64) (v := ?_) (a' := ?_) #[tT,tT,tT,fF,tT,tT,tT,fF,fF,tT,tT,tT,fF,fF,tT,fF,fF,fF,fF,fF] rfl rfl (by kernel_rfl) (fun _ _ _ h => h) (Or.inl ⟨by rfl, ?_⟩) ?_ ?_
      rotate_left; · intro w'; go_simp; with_reducible rfl
      rotate_left; · simp only [Act.put, q_a, q_0, q_s, i64_w, i32_w]; rfl
      refine pure_ (i := 15) (N := some 65) (v := ?_) (a' := ?_) #[tT,tT,tT,fF,tT,tT,tT,fF,fF,tT,tT,tT,fF,fF,tT,tT,fF,fF,fF,fF] rfl rfl (by kernel_rfl) (fun _ _ _ h => h) (Or.inl ⟨by rfl, ?_⟩) ?_ ?_
      rotate_left; · intro w'; go_simp; with_reducible rfl
      rotate_left; · simp only [Act.put, q_a, q_0, q_s, i64_w, i32_w]; rfl
      refine pure_ (i := 16) (N := some 66) (v := ?_) (a' := ?_) #[tT,tT,tT,fF,tT,tT,tT,fF,fF,tT,tT,tT,fF,fF,tT,tT,tT,fF,fF,fF] rfl rfl (by kernel_rfl) (fun _ _ _ h => h) (Or.inl ⟨by rfl, ?_⟩) ?_ ?_
      rotate_left; · intro w'; go_simp; with_reducible rfl
      rotate_left; · simp only [Act.put, q_a, q_0, q_s, i64_w, i32_w]; rfl
      refine take_ (i := 3) (N := some 53) (v := ?_) (a' := ?_) #[tT,tT,tT,tT,tT,tT,tT,fF,fF,tT,tT,tT,fF,fF,tT,tT,tT,fF,fF,fF] rfl rfl (by kernel_rfl) (fun _ _ _ h => h) (Or.inl ⟨by rfl, ?_⟩) hHeld ?_ ?_
      rotate_left
      · rintro w' ⟨s0, s1, s2, s3⟩
        go_simp
        with_reducible rfl
      rotate_left; · simp only [Act.put, q_a, q_0, q_s, i64_w, i32_w]; rfl
      refine take_ (i := 7) (N := some 57) (v := ?_) (a' := ?_) #[tT,tT,tT,tT,tT,tT,tT,tT,fF,tT,tT,tT,fF,fF,tT,tT,tT,fF,fF,fF] rfl rfl (by kernel_rfl) (fun _ _ _ h => h) (Or.inl ⟨by rfl, ?_⟩) hHeld ?_ ?_
      rotate_left
      · rintro w' ⟨s0, s1, s2, s3⟩
        go_simp
        with_reducible rfl
      rotate_left; · simp only [Act.put, q_a, q_0, q_s, i64_w, i32_w]; rfl
      refine pure_ (i := 8) (N := some 58) (v := ?_) (a' := ?_) #[tT,tT,tT,tT,tT,tT,tT,tT,tT,tT,tT,tT,fF,fF,tT,tT,tT,fF,fF,fF] rfl rfl (by kernel_rfl) (fun _ _ _ h => h) (Or.inl ⟨by rfl, ?_⟩) ?_ ?_
      rotate_left; · intro w'; go_simp; with_reducible rfl
      rotate_left; · simp only [Act.put, q_a, q_0, q_s, i64_w, i32_w]; rfl
      refine take_ (i := 12) (N := some 62) (v := ?_) (a' := ?_) #[tT,tT,tT,tT,tT,tT,tT,tT,tT,tT,tT,tT,tT,fF,tT,tT,tT,fF,fF,fF] rfl rfl (by kernel_rfl) (fun _ _ _ h => h) (Or.inl ⟨by rfl, ?_⟩) hHeld ?_ ?_
      rotate_left
      · rintro w' ⟨s0, s1, s2, s3⟩
        go_simp
        with_reducible rfl
      rotate_left; · simp only [Act.put, q_a, q_0, q_s, i64_w, i32_w]; rfl
      refine pure_ (i := 13) (N := some 63) (v := ?_) (a' := ?_) #[tT,tT,tT,tT,tT,tT,tT,tT,tT,tT,tT,tT,tT,tT,tT,tT,tT,fF,fF,fF] rfl rfl (by kernel_rfl) (fun _ _ _ h => h) (Or.inl ⟨by rfl, ?_⟩) ?_ ?_
      rotate_left; · intro w'; go_simp; with_reducible rfl
      rotate_left; · simp only [Act.put, q_a, q_0, q_s, i64_w, i32_w]; rfl
      refine take_ (i := 17) (N := some 67) (v := ?_) (a' := ?_) #[tT,tT,tT,tT,tT,tT,tT,tT,tT,tT,tT,tT,tT,tT,tT,tT,tT,tT,fF,fF] rfl rfl (by kernel_rfl) (fun _ _ _ h => h) (Or.inl ⟨by rfl, ?_⟩) hHeld ?_ ?_
      rotate_left
      · rintro w' ⟨s0, s1, s2, s3⟩
        go_simp
        with_reducible rfl
      rotate_left; · simp only [Act.put, q_a, q_0, q_s, i64_w, i32_w]; rfl
      refine pure_ (i := 18) (N := some 68) (v := ?_) (a' := ?_) #[tT,tT,tT,tT,tT,tT,tT,tT,tT,tT,tT,tT,tT,tT,tT,tT,tT,tT,tT,fF] rfl rfl (by kernel_rfl) (fun _ _ _ h => h) (Or.inl ⟨by rfl, ?_⟩) ?_ ?_
      rotate_left; · intro w'; go_simp; with_reducible rfl
      rotate_left; · simp only [Act.put, q_a, q_0, q_s, i64_w, i32_w]; rfl
      refine pure_ (i := 19) (N := some 4) (v := ?_) (a' := ?_) #[tT,tT,tT,tT,tT,tT,tT,tT,tT,tT,tT,tT,tT,tT,tT,tT,tT,tT,tT,tT] rfl rfl (by kernel_rfl) (fun _ _ _ h => h) (Or.inl ⟨by rfl, ?_⟩) ?_ ?_
      rotate_left; · intro w'; go_simp; with_reducible rfl
      rotate_left; · simp only [Act.put, q_a, q_0, q_s, i64_w, i32_w]; rfl
      refine done_ (by kernel_rfl) ?_
      go_wp2
      go_ret
      exact ⟨by rw [← HO.out]; rfl, (Chg.step HB4.out HK5.out.chg HGE.out).drew⟩
end Go.Proofs.Ytgkmbefamcnifaa.TB
namespace Go.Proofs.Ytgkmbefamcnifaa.WB
set_option linter.unusedVariables false
set_option linter.unusedSimpArgs false
open Go.RowKit Go.Proofs.Ytgkmbefamcnifaa.Hp Go.Proofs.Ytgkmbefamcnifaa.SB Go.Proofs.YtgkmbefamcnifaaW.PrintWords Go.Proofs.YtgkmbefamcnifaaW.PrintLast Go.Proofs.YtgkmbefamcnifaaW.PrintMore
/-- The number of two bytes. -/
def pr (l : List Int) (i : Nat) : Int := l.getD i 0 * 256 + l.getD (i + 1) 0
theorem getD_out {l : List Int} {i : Nat} (h : l.length ≤ i) : l.getD i 0 = 0 := by
  rw [List.getD_eq_getElem?_getD, List.getElem?_eq_none h]; rfl
theorem num2_pr (l : List Int) (i : Nat) : numL l i 2 = pr l i := by
  simp only [numL, pr, Nat.add_zero]; omega
theorem pr_b {l : List Int} (hb : Bytes l) (i : Nat) : 0 ≤ pr l i ∧ pr l i ≤ 65535 := by
  have h1 := getD_byte hb i
  have h2 := getD_byte hb (i + 1)
  unfold pr; omega
theorem pairs_drop (l : List Int) (i : Nat) : pairs (l.drop i) = pr l i + pairs (l.drop (i + 2)) := by
  unfold pr
  by_cases h1 : i + 1 < l.length
  · rw [drop2 h1]; simp only [pairs]
  · by_cases h2 : i + 1 = l.length
    · rw [drop1 h2, List.drop_eq_nil_of_le (show l.length ≤ i + 2 by omega), getD_out (show l.length ≤ i + 1 by omega)]; simp only [pairs]; omega
    · rw [List.drop_eq_nil_of_le (show l.length ≤ i by omega), List.drop_eq_nil_of_le (show l.length ≤ i + 2 by omega), getD_out (show l.length ≤ i by omega), getD_out (show l.length ≤ i + 1 by omega)]; simp only [pairs]; omega
/-- The sum of so many pairs from a place on. -/
def psum (l : List Int) : Nat → Nat → Int
  | _, 0 => 0
  | i, k + 1 => pr l i + psum l (i + 2) k
theorem pairs_psum (l : List Int) : ∀ (k i : Nat), pairs (l.drop i) = psum l i k + pairs (l.drop (i + 2 * k))
  | 0, i => by simp [psum]
  | k + 1, i => by
    rw [pairs_drop, pairs_psum l k (i + 2), psum, show i + 2 + 2 * k = i + 2 * (k + 1) by omega]; omega
theorem psum_add (l : List Int) : ∀ (k i m : Nat), psum l i (k + m) = psum l i k + psum l (i + 2 * k) m
  | 0, i, m => by simp [psum]
  | k + 1, i, m => by
    rw [show k + 1 + m = (k + m) + 1 by omega, psum, psum, psum_add l k (i + 2) m, show i + 2 + 2 * k = i + 2 * (k + 1) by omega]; omega
theorem psum_congr {l m : List Int} : ∀ (k i : Nat), (∀ j, i ≤ j → j < i + 2 * k → l.getD j 0 = m.getD j 0) → psum l i k = psum m i k
  | 0, i, _ => rfl
  | k + 1, i, h => by
    rw [psum, psum, psum_congr k (i + 2) (fun j h1 h2 => h j (by omega) (by omega))]
    unfold pr
    rw [h i (by omega) (by omega), h (i + 1) (by omega) (by omega)]
theorem psum_b {l : List Int} (hb : Bytes l) : ∀ (k i : Nat), 0 ≤ psum l i k ∧ psum l i k ≤ 65535 * k
  | 0, _ => by simp [psum]
  | k + 1, i => by
    have := psum_b hb k (i + 2)
    have := pr_b hb i
    rw [psum]; omega
theorem getD_take {l : List Int} {n i : Nat} (h : i < n) : (l.take n).getD i 0 = l.getD i 0 := by
  rw [List.getD_eq_getElem?_getD, List.getD_eq_getElem?_getD, List.getElem?_take, if_pos h]
theorem getD_drop (l : List Int) (n i : Nat) : (l.drop n).getD i 0 = l.getD (n + i) 0 := by
  rw [List.getD_eq_getElem?_getD, List.getD_eq_getElem?_getD, List.getElem?_drop]
theorem pairs_take (l : List Int) (k : Nat) (h : 2 * k ≤ l.length) : pairs (l.take (2 * k)) = psum l 0 k := by
  have e := pairs_psum (l.take (2 * k)) k 0
  rw [List.drop_zero, List.drop_eq_nil_of_le (show (l.take (2 * k)).length ≤ 0 + 2 * k by rw [List.length_take]; omega)] at e
  rw [e, psum_congr k 0 (m := l) (fun j _ h2 => getD_take (by omega))]; simp [pairs]
theorem ext_getD {l m : List Int} (h : l.length = m.length) (hh : ∀ j, j < l.length → l.getD j 0 = m.getD j 0) : l = m := by
  refine List.ext_getElem h fun j h1 h2 => ?_
  have := hh j h1
  rw [List.getD_eq_getElem?_getD, List.getD_eq_getElem?_getD, List.getElem?_eq_getElem h1, List.getElem?_eq_getElem h2] at this
  exact this
theorem drop_congr {l m : List Int} {n : Nat} (h : l.length = m.length) (hh : ∀ j, n ≤ j → l.getD j 0 = m.getD j 0) : l.drop n = m.drop n := by
  refine ext_getD (by simp [h]) fun j _ => ?_
  rw [getD_drop, getD_drop]; exact hh _ (by omega)
theorem getD_set_ne {l : List Int} {i j : Nat} {x : Int} (h : i ≠ j) : (l.set i x).getD j 0 = l.getD j 0 := by
  rw [List.getD_eq_getElem?_getD, List.getD_eq_getElem?_getD, List.getElem?_set_ne h]
theorem getD_set_eq {l : List Int} {i : Nat} {x : Int} (h : i < l.length) : (l.set i x).getD i 0 = x := by
  rw [List.getD_eq_getElem?_getD, List.getElem?_set_self h]; rfl
theorem putL_far (i : Nat) : ∀ (n : Nat) (l : List Int) (v : Int) (j : Nat), (j < i ∨ i + n ≤ j) → (putL l i n v).getD j 0 = l.getD j 0
  | 0, _, _, _, _ => rfl
  | n + 1, l, v, j, h => by
    rw [putL, putL_far i n _ _ j (by omega), getD_set_ne (by omega)]
theorem numL_congr {l m : List Int} (i : Nat) : ∀ (n : Nat), (∀ j, i ≤ j → j < i + n → l.getD j 0 = m.getD j 0) → numL l i n = numL m i n
  | 0, _ => rfl
  | n + 1, h => by
    rw [numL, numL, numL_congr i n (fun j h1 h2 => h j h1 (by omega)), h (i + n) (by omega) (by omega)]
theorem numL_putL_far {l : List Int} (i n : Nat) (v : Int) (j m : Nat) (h : j + m ≤ i ∨ i + n ≤ j) : numL (putL l i n v) j m = numL l j m :=
  numL_congr j m fun k h1 h2 => putL_far i n l v k (by omega)
theorem numL_putL (i : Nat) : ∀ (n : Nat) (l : List Int) (v : Int), i + n ≤ l.length → 0 ≤ v → v < 256 ^ n → numL (putL l i n v) i n = v
  | 0, _, v, _, h0, h1 => by simp only [numL]; simp at h1; omega
  | n + 1, l, v, h, h0, h1 => by
    rw [putL, numL, numL_putL i n _ _ (by rw [List.length_set]; omega) (by omega) (by rw [Int.pow_succ] at h1; omega), putL_far i n _ _ (i + n) (by omega), getD_set_eq (by omega)]
    omega
theorem pr_putL {l : List Int} {i : Nat} {v : Int} (h : i + 2 ≤ l.length) (h0 : 0 ≤ v) (h1 : v ≤ 65535) : pr (putL l i 2 v) i = v := by
  rw [← num2_pr]; exact numL_putL i 2 l v h h0 (by have : (256 : Int) ^ 2 = 65536 := (by decide); omega)
/-- What the pairs come to, without the middle ones. -/
theorem pairs_turn {was L : List Int} (hl : L.length = was.length) (o i k : Nat) (ho : o ≤ i) (he : (i - o) % 2 = 0) (hs : ∀ j, o ≤ j → (j < i ∨ i + 2 * k ≤ j) → L.getD j 0 = was.getD j 0) :
    pairs (L.drop o) = pairs (was.drop o) + (psum L i k - psum was i k) := by
  have ei : o + 2 * ((i - o) / 2) = i := by omega
  rw [pairs_psum L ((i - o) / 2) o, pairs_psum was ((i - o) / 2) o, ei, pairs_psum L k i, pairs_psum was k i]
  rw [psum_congr (l := L) (m := was) ((i - o) / 2) o (fun j h1 h2 => hs j h1 (by omega)), drop_congr (l := L) (m := was) hl (n := i + 2 * k) (fun j h1 => hs j (by omega) (by omega))]
  omega
/-- Bytes that Parse takes apart. -/
structure Ok (l : List Int) : Prop where
  h24 : 24 ≤ l.length
  le : l.length ≤ 1500
  num : numL l 2 2 = (l.length : Int)
  z13 : l.getD 13 0 = 0
  sum : fold (pairs (l.take 16)) = 65535
  k1 : 1 ≤ l.getD 0 0
  k3 : l.getD 0 0 ≤ 3
  f44 : l.getD 0 0 = 3 → 44 ≤ l.length
  f17 : l.getD 0 0 = 3 → l.getD 17 0 = 0
  s20 : l.getD 0 0 = 1 → l.getD 20 0 ≤ 15
  s21 : l.getD 0 0 = 1 → l.getD 21 0 ≤ 40
  rest : l.getD 0 0 = 1 → restS l ≤ l.length
/-- The packet that they are. -/
def pkL (l : List Int) : Pk :=
  if l.getD 0 0 = 3 then ⟨3, l.getD 1 0, l.getD 12 0, numL l 4 4, numL l 8 4, 0, 0, 0, 0, false, l.getD 16 0, [], l.drop 20⟩
  else if l.getD 0 0 = 2 then ⟨2, l.getD 1 0, l.getD 12 0, numL l 4 4, numL l 8 4, numL l 16 2, numL l 18 2, 0, numL l 20 2, numL l 22 2 == 0, 0, [], l.drop 24⟩
  else ⟨1, l.getD 1 0, l.getD 12 0, numL l 4 4, numL l 8 4, numL l 16 2, numL l 18 2, l.getD 20 0, 0, false, 0, (l.take (restS l)).drop 24, l.drop (restS l)⟩
theorem Ok.head {l : List Int} (h : Ok l) : headE l = 0 := by
  have := h.h24
  unfold headE
  rw [if_neg (by omega), if_neg (show ¬ ¬ _ from fun x => x ⟨h.k1, h.k3⟩), if_neg (show ¬ ¬ _ from fun x => x ⟨h.num, h.le, h.z13⟩), if_neg (show ¬ ¬ _ from fun x => x h.sum), if_neg ?_]
  rintro (x | ⟨x, y⟩)
  · omega
  · have := h.f44 x; omega
theorem Ok.parse {l : List Int} (h : Ok l) : parseL l = (pkL l, 0) := by
  unfold parseL pkL
  rw [if_neg (show ¬ headE l ≠ 0 from fun x => x h.head)]
  by_cases h3 : l.getD 0 0 = 3
  · rw [if_pos h3, if_neg (show ¬ l.getD 17 0 ≠ 0 from fun x => x (h.f17 h3)), if_pos h3]
  · rw [if_neg h3, if_neg h3]
    by_cases h2 : l.getD 0 0 = 2
    · rw [if_pos h2, if_pos h2]
    · have a := h.k1
      have b := h.k3
      have h1 : l.getD 0 0 = 1 := by omega
      have c1 := h.s20 h1
      have c2 := h.s21 h1
      have c3 := h.rest h1
      rw [if_neg h2, if_neg h2, if_neg (by omega)]
/-- What a body's sum adds up. -/
theorem pairs_summed {l : List Int} (h : 16 ≤ l.length) (h' : l.length ≤ 65000) : pairs (summedL l) = (if l.getD 0 0 = 3 then 0 else psum l 4 4) + l.getD 0 0 + ((l.length : Int) - 16) + pairs (l.drop 16) := by
  have e : pairs ((l.take 12).drop 4) = psum l 4 4 := by
    rw [pairs_psum _ 4 4, List.drop_eq_nil_of_le (show (l.take 12).length ≤ 4 + 2 * 4 by rw [List.length_take]; omega), psum_congr 4 4 (m := l) (fun j _ h2 => getD_take (by omega))]
    simp [pairs]
  have lt : ((l.take 12).drop 4).length = 8 := by rw [List.length_drop, List.length_take]; omega
  unfold summedL
  split
  · rw [pairs_app _ _ (by simp), List.nil_append]; simp only [pairs]; omega
  · rw [pairs_app _ _ (by simp only [List.length_append, lt, List.length_cons, List.length_nil]), pairs_app _ _ (by rw [lt]), e]; simp only [pairs]; omega
theorem fold_right {n : Int} (hn : 0 < n) : fold n = 65535 ↔ n % 65535 = 0 := by unfold fold; split <;> omega
theorem summed_pos {l : List Int} (hb : Bytes l) (h : 16 ≤ l.length) (h' : l.length ≤ 65000) (hk : 1 ≤ l.getD 0 0) : 0 < pairs (summedL l) := by
  rw [pairs_summed h h']
  have a := (psum_b hb 4 4).1
  have b := pairs_nonneg (hb.drop 16)
  split <;> omega
/-- Is a body's sum right? -/
theorem whole_iff {l : List Int} (hb : Bytes l) (o : Ok l) : wholeL l = ((pkL l).bare || pairs (summedL l) % 65535 == 0) := by
  have := o.h24
  have := o.le
  unfold wholeL
  rw [o.parse]
  have : (fold (pairs (summedL l)) == 65535) = (pairs (summedL l) % 65535 == 0) := by
    rw [Bool.eq_iff_iff, beq_iff_eq, beq_iff_eq]
    exact fold_right (summed_pos hb (by omega) (by omega) o.k1)
  rw [this]; rfl
/-- A body's sum laid anew. -/
theorem summed_put {l : List Int} {s : Nat} {v : Int} (h : s + 2 ≤ l.length) (h' : l.length ≤ 65000) (hs : s = 18 ∨ s = 22) (h0 : 0 ≤ v) (h1 : v ≤ 65535) : pairs (summedL (putL l s 2 v)) = pairs (summedL l) - pr l s + v := by
  have hl := putL_len s 2 l v
  rw [pairs_summed (l := putL l s 2 v) (by omega) (by omega), pairs_summed (l := l) (by omega) (by omega), hl, putL_far s 2 l v 0 (by omega),
    psum_congr (l := putL l s 2 v) (m := l) 4 4 (fun j a b => putL_far s 2 l v j (by omega)),
    pairs_turn (L := putL l s 2 v) (was := l) hl 16 s 1 (by omega) (by omega) (fun j a b => putL_far s 2 l v j (by omega))]
  simp only [psum, pr_putL h h0 h1]
  omega
/-- The sum of a head. -/
theorem head_put {l : List Int} {v : Int} (h : 16 ≤ l.length) (h0 : 0 ≤ v) (h1 : v ≤ 65535) : pairs ((putL l 14 2 v).take 16) = pairs (l.take 16) - pr l 14 + v := by
  rw [show 16 = 2 * 8 from rfl, pairs_take _ 8 (by rw [putL_len]; omega), pairs_take l 8 (by omega), show (8 : Nat) = 7 + 1 from rfl, psum_add, psum_add,
    psum_congr (l := putL l 14 2 v) (m := l) 7 0 (fun j a b => putL_far 14 2 l v j (by omega))]
  have e0 : psum (putL l 14 2 v) (0 + 2 * 7) 1 = v := by
    show pr (putL l 14 2 v) 14 + 0 = v
    rw [pr_putL (show 14 + 2 ≤ l.length by omega) h0 h1]; omega
  have e1 : psum l (0 + 2 * 7) 1 = pr l 14 := by
    show pr l 14 + 0 = _
    omega
  rw [e0, e1]
  omega
theorem head_pos {l : List Int} (hb : Bytes l) (h : 16 ≤ l.length) (hk : 1 ≤ l.getD 0 0) : 0 < pairs (l.take 16) := by
  rw [show 16 = 2 * 8 from rfl, pairs_take _ 8 (by omega), show (8 : Nat) = 7 + 1 from rfl, psum]
  have a : 0 ≤ psum l (0 + 2) 7 := (psum_b hb 7 2).1
  have b : 0 ≤ l.getD (0 + 1) 0 := (getD_byte hb 1).1
  unfold pr; omega
theorem fold_mod {n : Int} (h : 0 < n) : (n + (65535 - fold n)) % 65535 = 0 := by unfold fold; split <;> omega
def ageL (bare : Bool) (l : List Int) : List Int := doneL bare (turnL l (l.set 1 ((l.getD 1 0 - 1) % 256)) 14 0 2)
/-- What Age answers. -/
def ageR (l : List Int) : List Int × Int :=
  if (parseL l).2 ≠ 0 then ([], (parseL l).2) else if (parseL l).1.life < 2 then ([], 7) else (ageL (parseL l).1.bare l, 0)
/-- May so many bytes be laid there? -/
def wrOK (l : List Int) (i m v : Int) : Prop :=
  (m = 1 ∨ m = 2 ∨ m = 4) ∧ 0 ≤ v ∧ v < 256 ^ m.toNat ∧ 16 ≤ i ∧ i + m ≤ l.length ∧ (i + m ≤ placeL l ∨ (placeL l : Int) + 2 ≤ i)
instance (l : List Int) (i m v : Int) : Decidable (wrOK l i m v) := by unfold wrOK; infer_instance
theorem age_calls {A : Option Addr} {c n : Nat} {l : List Int} {w : World} (hr : Kd.C (Kd.int .u8) w A n l) (hn : l.length = n) (hc : n ≤ c) (hl : l.length ≤ 10000) (hb : Bytes l) :
    Calls Try.prog 42 #[.slice A n c] w (Told w (ageR l).1 (ageR l).2) := by
  subst hn
  obtain ⟨⟨p0, p1, p2, p3, p4, p5, p6, p7, p8, p9, p10, p11, p12⟩, x, hp⟩ : ∃ p x, parseL l = (p, x) := ⟨_, _, rfl⟩
  unfold ageR ageL
  rw [hp]
  by_cases hx : x = 0
  · subst hx
    have h := age_ok hr hc hl hb hp
    dsimp only
    by_cases h2 : p1 < 2
    · rw [if_pos h2, if_pos h2] at h; rw [if_neg (by simp), if_pos h2]; exact h
    · rw [if_neg h2, if_neg h2] at h; rw [if_neg (by simp), if_neg h2]; exact h
  · dsimp only
    rw [if_pos hx]
    exact age_err hr hc hl hb hp hx
theorem pr_far {l : List Int} {i n j : Nat} {v : Int} (h : j + 2 ≤ i ∨ i + n ≤ j) : pr (putL l i n v) j = pr l j := by
  unfold pr
  rw [putL_far i n l v j (by omega), putL_far i n l v (j + 1) (by omega)]
/-- Block g holds just these numbers. -/
def Arr (w : World) (g : Nat) (L : List Int) : Prop := w.heap[g]? = some (.cells (L.map (Value.int .i64)).toArray 83 (0, 0))
theorem arr_cell {w : World} {g : Nat} {L : List Int} (h : Arr w g L) (i : Nat) (hi : i < L.length) : w.cell? ⟨g, i, none⟩ = some (.int .i64 (L.getD i 0)) := by
  unfold Arr at h
  simp [World.cell?, h, hi]
variable {w0 w w1 : World} {g : Nat} {N : List Int} {p : Pk} {vo vd : Value}
theorem a8 {w : World} {g : Nat} {n0 n1 n2 n3 n4 n5 n6 n7 : Int} (h : Arr w g [n0, n1, n2, n3, n4, n5, n6, n7]) :
    w.cell? ⟨g, 0, none⟩ = some (.int .i64 n0) ∧ w.cell? ⟨g, 1, none⟩ = some (.int .i64 n1) ∧ w.cell? ⟨g, 2, none⟩ = some (.int .i64 n2) ∧ w.cell? ⟨g, 3, none⟩ = some (.int .i64 n3) ∧ w.cell? ⟨g, 4, none⟩ = some (.int .i64 n4) ∧ w.cell? ⟨g, 5, none⟩ = some (.int .i64 n5) ∧ w.cell? ⟨g, 6, none⟩ = some (.int .i64 n6) ∧ w.cell? ⟨g, 7, none⟩ = some (.int .i64 n7) :=
  ⟨arr_cell h 0 (by simp), arr_cell h 1 (by simp), arr_cell h 2 (by simp), arr_cell h 3 (by simp), arr_cell h 4 (by simp), arr_cell h 5 (by simp), arr_cell h 6 (by simp), arr_cell h 7 (by simp)⟩
theorem eight : ∀ {L : List Int}, L.length = 8 → ∃ n0 n1 n2 n3 n4 n5 n6 n7, L = [n0, n1, n2, n3, n4, n5, n6, n7]
  | [a, b, c, d, e, f, g, h], _ => ⟨a, b, c, d, e, f, g, h, rfl⟩
/-- A packet that is laid as it is read. -/
structure Canon (p : Pk) : Prop where
  bo : Bytes p.opts
  bd : Bytes p.data
  s : p.kind = 1 → p.label = 0 ∧ p.bare = false ∧ p.code = 0
  g : p.kind = 2 → p.flags = 0 ∧ p.code = 0 ∧ p.opts = []
  f : p.kind = 3 → p.fp = 0 ∧ p.tp = 0 ∧ p.flags = 0 ∧ p.label = 0 ∧ p.bare = false ∧ p.opts = []
theorem getD_app_l {a b : List Int} {i : Nat} (h : i < a.length) : (a ++ b).getD i 0 = a.getD i 0 := by
  rw [List.getD_eq_getElem?_getD, List.getD_eq_getElem?_getD, List.getElem?_append_left h]
theorem getD_app_r {a b : List Int} {i : Nat} (h : a.length ≤ i) : (a ++ b).getD i 0 = b.getD (i - a.length) 0 := by
  rw [List.getD_eq_getElem?_getD, List.getD_eq_getElem?_getD, List.getElem?_append_right h]
/-- What a head says. -/
structure HeadOf (l : List Int) (n : Nat) (kind life piece frm dst : Int) : Prop where
  k : l.getD 0 0 = kind
  l1 : l.getD 1 0 = life
  pc : l.getD 12 0 = piece
  z : l.getD 13 0 = 0
  n : numL l 2 2 = (n : Int)
  f : numL l 4 4 = frm
  d : numL l 8 4 = dst
  s : fold (pairs (l.take 16)) = 65535
theorem h4R_of {n : Nat} {kind life piece frm dst : Int} (hn : n ≤ 1500) (k0 : 1 ≤ kind) (k1 : kind ≤ 3) (l0 : 0 ≤ life) (l1 : life ≤ 255) (p0 : 0 ≤ piece) (p1 : piece ≤ 255) (f0 : 0 ≤ frm) (f1 : frm ≤ 4294967295) (d0 : 0 ≤ dst) (d1 : dst ≤ 4294967295) :
    HeadOf (h4R n kind life piece frm dst) n kind life piece frm dst ∧ Bytes (h4R n kind life piece frm dst) := by
  obtain ⟨Z, hZ⟩ : ∃ Z, Z = (((List.replicate 16 (0 : Int)).set 0 (kind % 256)).set 1 (life % 256)).set 12 (piece % 256) := ⟨_, rfl⟩
  have zl : Z.length = 16 := by rw [hZ]; simp
  have zb : Bytes Z := by
    rw [hZ]
    refine Bytes.set (Bytes.set (Bytes.set ?_ _ (by omega) (by omega)) _ (by omega) (by omega)) _ (by omega) (by omega)
    intro x hx; have := List.eq_of_mem_replicate hx; omega
  have z0 : Z.getD 0 0 = kind := by rw [hZ, getD_set_ne (by omega), getD_set_ne (by omega), getD_set_eq (by simp)]; omega
  have z1 : Z.getD 1 0 = life := by rw [hZ, getD_set_ne (by omega), getD_set_eq (by simp)]; omega
  have z12 : Z.getD 12 0 = piece := by rw [hZ, getD_set_eq (by simp)]; omega
  have z13 : Z.getD 13 0 = 0 := by rw [hZ, getD_set_ne (by omega), getD_set_ne (by omega), getD_set_ne (by omega)]; rfl
  have z14 : pr Z 14 = 0 := by
    unfold pr
    rw [hZ, getD_set_ne (by omega), getD_set_ne (by omega), getD_set_ne (by omega), getD_set_ne (by omega), getD_set_ne (by omega), getD_set_ne (by omega)]; rfl
  obtain ⟨H, hH⟩ : ∃ H, H = putL (putL (putL Z 2 2 (n : Int)) 4 4 frm) 8 4 dst := ⟨_, rfl⟩
  have e3 : h3R n kind life piece frm dst = H := by rw [hH, hZ]; rfl
  have hl : H.length = 16 := by rw [← e3]; exact h3R_len ..
  have hb : Bytes H := by rw [hH]; exact putL_bytes _ _ _ (putL_bytes _ _ _ (putL_bytes _ _ _ zb))
  obtain ⟨v, hv⟩ : ∃ v, v = 65535 - fold (pairs H) := ⟨_, rfl⟩
  have fb := @fold_bounds (pairs H)
  have e4 : h4R n kind life piece frm dst = putL H 14 2 v := by unfold h4R; rw [e3, hv]
  have far : ∀ j, j < 14 → (putL H 14 2 v).getD j 0 = H.getD j 0 := fun j hj => putL_far _ _ _ _ _ (by omega)
  have farH : ∀ j, (j < 2 ∨ 12 ≤ j) → H.getD j 0 = Z.getD j 0 := fun j hj => by
    rw [hH, putL_far _ _ _ _ _ (by omega), putL_far _ _ _ _ _ (by omega), putL_far _ _ _ _ _ (by omega)]
  have i2 : (256 : Int) ^ 2 = 65536 := by decide
  have i4 : (256 : Int) ^ 4 = 4294967296 := by decide
  have h16 : H.take 16 = H := List.take_of_length_le (by omega)
  rw [e4]
  refine ⟨⟨by rw [far 0 (by omega), farH 0 (by omega), z0], by rw [far 1 (by omega), farH 1 (by omega), z1], by rw [far 12 (by omega), farH 12 (by omega), z12], by rw [far 13 (by omega), farH 13 (by omega), z13], ?_, ?_, ?_, ?_⟩, putL_bytes _ _ _ hb⟩
  · rw [numL_putL_far _ _ _ _ _ (by omega), hH, numL_putL_far _ _ _ _ _ (by omega), numL_putL_far _ _ _ _ _ (by omega), numL_putL _ _ _ _ (by omega) (by omega) (by omega)]
  · rw [numL_putL_far _ _ _ _ _ (by omega), hH, numL_putL_far _ _ _ _ _ (by omega), numL_putL _ _ _ _ (by rw [putL_len]; omega) (by omega) (by omega)]
  · rw [numL_putL_far _ _ _ _ _ (by omega), hH, numL_putL _ _ _ _ (by rw [putL_len, putL_len]; omega) (by omega) (by omega)]
  · have hp := head_pos hb (by omega) (by rw [farH 0 (by omega), z0]; exact k0)
    have m := fold_mod hp
    rw [h16] at hp m
    have e14 : pr H 14 = 0 := by unfold pr; rw [farH 14 (by omega), farH (14 + 1) (by omega)]; exact z14
    rw [head_put (by omega) (by omega) (by omega), h16, e14, hv, fold_right (by omega)]
    omega
theorem HeadOf.congr {l m : List Int} {n : Nat} {kind life piece frm dst : Int} (h : HeadOf l n kind life piece frm dst) (hl : 16 ≤ l.length) (hm : 16 ≤ m.length) (hh : ∀ j, j < 16 → m.getD j 0 = l.getD j 0) : HeadOf m n kind life piece frm dst := by
  have e : m.take 16 = l.take 16 := by
    refine ext_getD (by simp; omega) fun j hj => ?_
    rw [List.length_take] at hj
    rw [getD_take (by omega), getD_take (by omega)]; exact hh _ (by omega)
  exact ⟨by rw [hh 0 (by omega), h.k], by rw [hh 1 (by omega), h.l1], by rw [hh 12 (by omega), h.pc], by rw [hh 13 (by omega), h.z], by rw [numL_congr 2 2 (fun j _ _ => hh j (by omega)), h.n], by rw [numL_congr 4 4 (fun j _ _ => hh j (by omega)), h.f], by rw [numL_congr 8 4 (fun j _ _ => hh j (by omega)), h.d], by rw [e, h.s]⟩
theorem sumL_b {k : Int} {b : Bool} {l : List Int} : 0 ≤ sumL k b l ∧ sumL k b l ≤ 65535 := by
  have := @fold_bounds (pairs (summedL l))
  unfold sumL; repeat' split
  all_goals omega
theorem sumL_mod {k : Int} {b : Bool} {l : List Int} (hp : 0 < pairs (summedL l)) (h : ¬ (k = 2 ∧ b = true)) : (pairs (summedL l) + sumL k b l) % 65535 = 0 := by
  have m := fold_mod hp
  unfold sumL
  rw [if_neg h]
  split <;> omega
theorem sumL_zero {b : Bool} {l : List Int} : sumL 2 b l = 0 ↔ b = true := by
  unfold sumL
  cases b with
  | true => simp
  | false =>
    rw [if_neg (by simp)]
    constructor
    · intro h
      by_cases h0 : 65535 - fold (pairs (summedL l)) = 0
      · rw [if_pos ⟨rfl, h0⟩] at h; cases h
      · rw [if_neg (fun x => h0 x.2)] at h; exact absurd h h0
    · intro h; cases h
theorem rgB_of {n m : Int} (h : rgB n m = true) : 0 ≤ n ∧ n ≤ m := by
  unfold rgB at h
  simpa using h
/-- What may be built. -/
theorem built_of {p : Pk} (h : buildE p = 0) : (1 ≤ p.kind ∧ p.kind ≤ 3) ∧ (0 ≤ p.life ∧ p.life ≤ 255) ∧ (0 ≤ p.piece ∧ p.piece ≤ 255) ∧ (0 ≤ p.frm ∧ p.frm ≤ 4294967295) ∧ (0 ≤ p.dst ∧ p.dst ≤ 4294967295) ∧ nL p ≤ 1500 ∧
    (p.kind = 3 → (0 ≤ p.code ∧ p.code ≤ 255) ∧ 24 ≤ p.data.length) ∧ (p.kind ≠ 3 → (0 ≤ p.fp ∧ p.fp ≤ 65535) ∧ (0 ≤ p.tp ∧ p.tp ≤ 65535)) ∧ (p.kind = 2 → 0 ≤ p.label ∧ p.label ≤ 65535) ∧ (p.kind = 1 → (0 ≤ p.flags ∧ p.flags ≤ 15) ∧ p.opts.length ≤ 40) := by
  unfold buildE at h
  by_cases hk : 1 ≤ p.kind ∧ p.kind ≤ 3
  · rw [if_neg (fun x => x hk)] at h
    by_cases ho : okR p = false
    · rw [if_pos ho] at h; cases h
    · rw [if_neg ho] at h
      have ho' : okR p = true := by simpa using ho
      by_cases h5 : p.kind = 1 ∧ 40 < p.opts.length
      · rw [if_pos h5] at h; cases h
      · rw [if_neg h5] at h
        by_cases h6 : (p.kind = 3 ∧ p.data.length < 24) ∨ 1500 < nL p
        · rw [if_pos h6] at h; cases h
        · unfold okR at ho'
          simp only [Bool.and_eq_true] at ho'
          obtain ⟨⟨⟨⟨a, b⟩, c⟩, d⟩, e⟩ := ho'
          refine ⟨hk, rgB_of a, rgB_of b, rgB_of c, rgB_of d, by omega, ?_, ?_, ?_, ?_⟩
          · intro h3
            rw [if_pos h3] at e
            exact ⟨rgB_of e, by omega⟩
          · intro h3
            rw [if_neg h3] at e
            simp only [Bool.and_eq_true] at e
            exact ⟨rgB_of e.1.1, rgB_of e.1.2⟩
          · intro h2
            rw [if_neg (by omega), if_pos h2] at e
            simp only [Bool.and_eq_true] at e
            exact rgB_of e.2
          · intro h1
            rw [if_neg (by omega), if_neg (by omega)] at e
            simp only [Bool.and_eq_true] at e
            exact ⟨rgB_of e.2, by omega⟩
  · rw [if_pos hk] at h; cases h
theorem ok_head {l : List Int} {n : Nat} {kind life piece frm dst : Int} (h : HeadOf l n kind life piece frm dst) (hl : l.length = n) (h24 : 24 ≤ n) (hn : n ≤ 1500) (k0 : 1 ≤ kind) (k1 : kind ≤ 3) (f44 : kind = 3 → 44 ≤ n) (f17 : kind = 3 → l.getD 17 0 = 0) (s20 : kind = 1 → l.getD 20 0 ≤ 15) (s21 : kind = 1 → l.getD 21 0 ≤ 40) (rest : kind = 1 → restS l ≤ n) : Ok l := by
  have e := h.k
  exact ⟨by omega, by omega, by rw [h.n, hl], h.z, h.s, by omega, by omega, fun x => by have := f44 (by omega); omega, fun x => f17 (by omega), fun x => s20 (by omega), fun x => s21 (by omega), fun x => by rw [hl]; exact rest (by omega)⟩
theorem zeros_bytes (n : Nat) : Bytes (List.replicate n 0) := by intro x hx; have := List.eq_of_mem_replicate hx; omega
/-- Built, taken apart, whole. -/
theorem parse_build {p : Pk} (hE : buildE p = 0) (hc : Canon p) : Ok (buildL p) ∧ pkL (buildL p) = p ∧ wholeL (buildL p) = true ∧ (buildL p).length = nL p ∧ Bytes (buildL p) := by
  obtain ⟨p0, p1, p2, p3, p4, p5, p6, p7, p8, p9, p10, p11, p12⟩ := p
  obtain ⟨⟨k0, k1⟩, ⟨l0, l1⟩, ⟨q0, q1⟩, ⟨f0, f1⟩, ⟨d0, d1⟩, hn, c3, cp, c2, c1⟩ := built_of hE
  rw [← rbuildL_eq ⟨k0, k1⟩]
  obtain ⟨bo, bd, cs, cg, cf⟩ := hc
  dsimp only at *
  unfold rbuildL rbodyL
  dsimp only
  obtain ⟨n, hnn⟩ : ∃ n, nL ⟨p0, p1, p2, p3, p4, p5, p6, p7, p8, p9, p10, p11, p12⟩ = n := ⟨_, rfl⟩
  rw [hnn] at hn ⊢
  obtain ⟨hh, hhb⟩ := h4R_of (n := n) hn k0 k1 l0 l1 q0 q1 f0 f1 d0 d1
  have hhl := h4R_len n p0 p1 p2 p3 p4
  generalize h4R n p0 p1 p2 p3 p4 = H at hh hhb hhl ⊢
  have hk : p0 = 3 ∨ p0 = 2 ∨ p0 = 1 := by omega
  have i2 : (256 : Int) ^ 2 = 65536 := by decide
  rcases hk with rfl | rfl | rfl
  · -- a fault
    have hn2 : n = 20 + p12.length := by rw [← hnn]; rfl
    obtain ⟨⟨c30, c31⟩, d24⟩ := c3 rfl
    obtain ⟨rfl, rfl, rfl, rfl, rfl, rfl⟩ := cf rfl
    rw [if_pos rfl, if_pos rfl]
    obtain ⟨X, hX⟩ : ∃ X, X = H ++ [p10 % 256, 0, 0, 0] := ⟨_, rfl⟩
    have xl : X.length = 20 := by rw [hX, List.length_append, hhl]; rfl
    have xb : Bytes X := hX ▸ hhb.app (by intro x hx; simp at hx; omega)
    have xH : ∀ j, j < 16 → X.getD j 0 = H.getD j 0 := fun j hj => by rw [hX, getD_app_l (by omega)]
    have x16 : X.getD 16 0 = p10 := by rw [hX, getD_app_r (by omega), hhl]; show p10 % 256 = _; omega
    have x17 : X.getD 17 0 = 0 := by rw [hX, getD_app_r (by omega), hhl]; rfl
    have x18 : pr X 18 = 0 := by unfold pr; rw [hX, getD_app_r (by omega), getD_app_r (by omega), hhl]; rfl
    rw [← hX]
    obtain ⟨v, hv⟩ : ∃ v, v = sumL 3 false (X ++ p12) := ⟨_, rfl⟩
    have vb : 0 ≤ v ∧ v ≤ 65535 := by rw [hv]; exact sumL_b
    rw [← hv, putL_app _ _ _ _ _ (by omega)]
    obtain ⟨b, hb⟩ : ∃ b, b = putL X 18 2 v ++ p12 := ⟨_, rfl⟩
    have hb2 : b = putL (X ++ p12) 18 2 v := by rw [hb, putL_app _ _ _ _ _ (by omega)]
    have bl : b.length = n := by rw [hb, List.length_append, putL_len]; omega
    have yl : (putL X 18 2 v).length = 20 := by rw [putL_len, xl]
    have bb : Bytes b := hb ▸ (putL_bytes _ _ _ xb).app bd
    have g : ∀ j, j < 18 → b.getD j 0 = X.getD j 0 := fun j hj => by rw [hb, getD_app_l (by omega), putL_far _ _ _ _ _ (by omega)]
    have hd := hh.congr (m := b) (by omega) (by omega) (fun j hj => by rw [g j (by omega), xH j hj])
    have o : Ok b := ok_head hd bl (by omega) hn (by omega) (by omega) (fun _ => by omega) (fun _ => by rw [g 17 (by omega), x17]) (fun h => by cases h) (fun h => by cases h) (fun h => by cases h)
    have dd : b.drop 20 = p12 := by rw [hb]; exact List.drop_left' yl
    rw [← hb]
    have pk : pkL b = ⟨3, p1, p2, p3, p4, 0, 0, 0, 0, false, p10, [], p12⟩ := by
      unfold pkL
      rw [if_pos hd.k, hd.l1, hd.pc, hd.f, hd.d, g 16 (by omega), x16, dd]
    refine ⟨o, pk, ?_, bl, bb⟩
    rw [whole_iff bb o, pk]
    show (pairs (summedL b) % 65535 == 0) = true
    have P := summed_pos (l := X ++ p12) (xb.app bd) (by rw [List.length_append]; omega) (by rw [List.length_append]; omega) (by rw [getD_app_l (by omega), xH 0 (by omega), hh.k]; omega)
    have sm := sumL_mod (k := 3) (b := false) P (by simp)
    have pz : pr (X ++ p12) 18 = 0 := by unfold pr; rw [getD_app_l (by omega), getD_app_l (by omega)]; exact x18
    rw [← hv] at sm
    rw [hb2, summed_put (by rw [List.length_append]; omega) (by rw [List.length_append]; omega) (Or.inl rfl) vb.1 vb.2, pz, beq_iff_eq]
    omega
  · -- a gram
    have hn2 : n = 24 + p12.length := by rw [← hnn]; rfl
    obtain ⟨⟨fp0, fp1⟩, tp0, tp1⟩ := cp (by decide)
    obtain ⟨lb0, lb1⟩ := c2 rfl
    obtain ⟨rfl, rfl, rfl⟩ := cg rfl
    rw [if_neg (by decide), if_pos rfl, if_neg (by decide)]
    obtain ⟨Z, hZ⟩ : ∃ Z, Z = H ++ List.replicate 8 (0 : Int) := ⟨_, rfl⟩
    have zl : Z.length = 24 := by rw [hZ, List.length_append, hhl]; rfl
    have zb : Bytes Z := hZ ▸ hhb.app (zeros_bytes 8)
    have zH : ∀ j, j < 16 → Z.getD j 0 = H.getD j 0 := fun j hj => by rw [hZ, getD_app_l (by omega)]
    have z22 : pr Z 22 = 0 := by unfold pr; rw [hZ, getD_app_r (by omega), getD_app_r (by omega), hhl]; rfl
    rw [← hZ]
    obtain ⟨X, hX⟩ : ∃ X, X = putL (putL (putL Z 20 2 p8) 16 2 p5) 18 2 p6 := ⟨_, rfl⟩
    have xl : X.length = 24 := by rw [hX, putL_len, putL_len, putL_len, zl]
    have xb : Bytes X := hX ▸ putL_bytes _ _ _ (putL_bytes _ _ _ (putL_bytes _ _ _ zb))
    have xH : ∀ j, j < 16 → X.getD j 0 = H.getD j 0 := fun j hj => by rw [hX, putL_far _ _ _ _ _ (by omega), putL_far _ _ _ _ _ (by omega), putL_far _ _ _ _ _ (by omega), zH j hj]
    have x16 : numL X 16 2 = p5 := by rw [hX, numL_putL_far _ _ _ _ _ (by omega), numL_putL _ _ _ _ (by rw [putL_len]; omega) (by omega) (by omega)]
    have x18 : numL X 18 2 = p6 := by rw [hX, numL_putL _ _ _ _ (by rw [putL_len, putL_len]; omega) (by omega) (by omega)]
    have x20 : numL X 20 2 = p8 := by rw [hX, numL_putL_far _ _ _ _ _ (by omega), numL_putL_far _ _ _ _ _ (by omega), numL_putL _ _ _ _ (by omega) (by omega) (by omega)]
    have x22 : pr X 22 = 0 := by rw [hX, pr_far (by omega), pr_far (by omega), pr_far (by omega), z22]
    rw [← hX]
    obtain ⟨v, hv⟩ : ∃ v, v = sumL 2 p9 (X ++ p12) := ⟨_, rfl⟩
    have vb : 0 ≤ v ∧ v ≤ 65535 := by rw [hv]; exact sumL_b
    rw [← hv, putL_app _ _ _ _ _ (by omega)]
    obtain ⟨b, hb⟩ : ∃ b, b = putL X 22 2 v ++ p12 := ⟨_, rfl⟩
    have hb2 : b = putL (X ++ p12) 22 2 v := by rw [hb, putL_app _ _ _ _ _ (by omega)]
    have yl : (putL X 22 2 v).length = 24 := by rw [putL_len, xl]
    have bl : b.length = n := by rw [hb, List.length_append, yl]; omega
    have bb : Bytes b := hb ▸ (putL_bytes _ _ _ xb).app bd
    have g : ∀ j, j < 22 → b.getD j 0 = X.getD j 0 := fun j hj => by rw [hb, getD_app_l (by omega), putL_far _ _ _ _ _ (by omega)]
    have gn : ∀ i m, i + m ≤ 22 → numL b i m = numL X i m := fun i m h => numL_congr i m (fun j _ _ => g j (by omega))
    have hd := hh.congr (m := b) (by omega) (by omega) (fun j hj => by rw [g j (by omega), xH j hj])
    have o : Ok b := ok_head hd bl (by omega) hn (by omega) (by omega) (fun h => by cases h) (fun h => by cases h) (fun h => by cases h) (fun h => by cases h) (fun h => by cases h)
    have dd : b.drop 24 = p12 := by rw [hb]; exact List.drop_left' yl
    have n22 : numL b 22 2 = v := by rw [hb2, numL_putL _ _ _ _ (by rw [List.length_append]; omega) (by omega) (by omega)]
    have ebare : (numL b 22 2 == 0) = p9 := by
      rw [n22, hv]
      have := @sumL_zero p9 (X ++ p12)
      cases p9 with
      | true => exact beq_iff_eq.mpr (this.2 rfl)
      | false => exact beq_eq_false_iff_ne.mpr (fun h => by have := this.1 h; cases this)
    rw [← hb]
    have pk : pkL b = ⟨2, p1, p2, p3, p4, p5, p6, 0, p8, p9, 0, [], p12⟩ := by
      unfold pkL
      rw [if_neg (by rw [hd.k]; decide), if_pos hd.k, hd.l1, hd.pc, hd.f, hd.d, gn 16 2 (by omega), gn 18 2 (by omega), gn 20 2 (by omega), x16, x18, x20, ebare, dd]
    refine ⟨o, pk, ?_, bl, bb⟩
    rw [whole_iff bb o, pk]
    show (p9 || (pairs (summedL b) % 65535 == 0)) = true
    cases p9 with
    | true => rfl
    | false =>
      have P := summed_pos (l := X ++ p12) (xb.app bd) (by rw [List.length_append]; omega) (by rw [List.length_append]; omega) (by rw [getD_app_l (by omega), xH 0 (by omega), hh.k]; omega)
      have sm := sumL_mod (k := 2) (b := false) P (by simp)
      have pz : pr (X ++ p12) 22 = 0 := by unfold pr; rw [getD_app_l (by omega), getD_app_l (by omega)]; exact x22
      rw [← hv] at sm
      rw [Bool.false_or, hb2, summed_put (by rw [List.length_append]; omega) (by rw [List.length_append]; omega) (Or.inr rfl) vb.1 vb.2, pz, beq_iff_eq]
      omega
  · -- a stream
    have hn2 : n = 24 + p12.length + p11.length := by rw [← hnn]; rfl
    obtain ⟨⟨fp0, fp1⟩, tp0, tp1⟩ := cp (by decide)
    obtain ⟨⟨fl0, fl1⟩, ol⟩ := c1 rfl
    obtain ⟨rfl, rfl, rfl⟩ := cs rfl
    rw [if_neg (by decide), if_neg (by decide), if_neg (by decide)]
    obtain ⟨Z, hZ⟩ : ∃ Z, Z = H ++ List.replicate 8 (0 : Int) := ⟨_, rfl⟩
    have zl : Z.length = 24 := by rw [hZ, List.length_append, hhl]; rfl
    have zb : Bytes Z := hZ ▸ hhb.app (zeros_bytes 8)
    have zH : ∀ j, j < 16 → Z.getD j 0 = H.getD j 0 := fun j hj => by rw [hZ, getD_app_l (by omega)]
    have z22 : pr Z 22 = 0 := by unfold pr; rw [hZ, getD_app_r (by omega), getD_app_r (by omega), hhl]; rfl
    rw [← hZ]
    obtain ⟨X, hX⟩ : ∃ X, X = putL (putL ((Z.set 20 (p7 % 256)).set 21 ((p11.length : Int) % 256)) 16 2 p5) 18 2 p6 := ⟨_, rfl⟩
    have eX : putL (putL (((Z ++ p11).set 20 (p7 % 256)).set 21 ((p11.length : Int) % 256)) 16 2 p5) 18 2 p6 = X ++ p11 := by
      rw [hX, List.set_append_left _ _ (by omega), List.set_append_left _ _ (by rw [List.length_set]; omega), putL_app _ _ _ _ _ (by rw [List.length_set, List.length_set]; omega), putL_app _ _ _ _ _ (by rw [putL_len, List.length_set, List.length_set]; omega)]
    rw [eX]
    have xl : X.length = 24 := by rw [hX, putL_len, putL_len, List.length_set, List.length_set, zl]
    have xb : Bytes X := hX ▸ putL_bytes _ _ _ (putL_bytes _ _ _ ((zb.set _ (by omega) (by omega)).set _ (by omega) (by omega)))
    have xH : ∀ j, j < 16 → X.getD j 0 = H.getD j 0 := fun j hj => by rw [hX, putL_far _ _ _ _ _ (by omega), putL_far _ _ _ _ _ (by omega), getD_set_ne (by omega), getD_set_ne (by omega), zH j hj]
    have x16 : numL X 16 2 = p5 := by rw [hX, numL_putL_far _ _ _ _ _ (by omega), numL_putL _ _ _ _ (by rw [List.length_set, List.length_set]; omega) (by omega) (by omega)]
    have x18 : numL X 18 2 = p6 := by rw [hX, numL_putL _ _ _ _ (by rw [putL_len, List.length_set, List.length_set]; omega) (by omega) (by omega)]
    have x20 : X.getD 20 0 = p7 := by rw [hX, putL_far _ _ _ _ _ (by omega), putL_far _ _ _ _ _ (by omega), getD_set_ne (by omega), getD_set_eq (by omega)]; omega
    have x21 : X.getD 21 0 = (p11.length : Int) := by rw [hX, putL_far _ _ _ _ _ (by omega), putL_far _ _ _ _ _ (by omega), getD_set_eq (by rw [List.length_set]; omega)]; omega
    have x22 : pr X 22 = 0 := by
      rw [hX, pr_far (by omega), pr_far (by omega)]
      unfold pr
      rw [getD_set_ne (by omega), getD_set_ne (by omega), getD_set_ne (by omega), getD_set_ne (by omega)]
      exact z22
    obtain ⟨v, hv⟩ : ∃ v, v = sumL 1 false (X ++ p11 ++ p12) := ⟨_, rfl⟩
    have vb : 0 ≤ v ∧ v ≤ 65535 := by rw [hv]; exact sumL_b
    rw [← hv, List.append_assoc, putL_app _ _ _ _ _ (by omega)]
    rw [List.append_assoc] at hv
    obtain ⟨b, hb⟩ : ∃ b, b = putL X 22 2 v ++ (p11 ++ p12) := ⟨_, rfl⟩
    have hb2 : b = putL (X ++ (p11 ++ p12)) 22 2 v := by rw [hb, putL_app _ _ _ _ _ (by omega)]
    have yl : (putL X 22 2 v).length = 24 := by rw [putL_len, xl]
    have bl : b.length = n := by rw [hb, List.length_append, List.length_append, yl]; omega
    have bb : Bytes b := hb ▸ (putL_bytes _ _ _ xb).app (bo.app bd)
    have g : ∀ j, j < 22 → b.getD j 0 = X.getD j 0 := fun j hj => by rw [hb, getD_app_l (by omega), putL_far _ _ _ _ _ (by omega)]
    have gn : ∀ i m, i + m ≤ 22 → numL b i m = numL X i m := fun i m h => numL_congr i m (fun j _ _ => g j (by omega))
    have hd := hh.congr (m := b) (by omega) (by omega) (fun j hj => by rw [g j (by omega), xH j hj])
    have er : restS b = 24 + p11.length := by unfold restS; rw [g 21 (by omega), x21]; omega
    have o : Ok b := ok_head hd bl (by omega) hn (by omega) (by omega) (fun h => by cases h) (fun h => by cases h) (fun _ => by rw [g 20 (by omega), x20]; exact fl1) (fun _ => by rw [g 21 (by omega), x21]; omega) (fun _ => by rw [er]; omega)
    have dd : b.drop (restS b) = p12 := by
      rw [er, hb, ← List.append_assoc]
      exact List.drop_left' (by rw [List.length_append, yl])
    have dt : (b.take (restS b)).drop 24 = p11 := by
      rw [er, hb, ← List.append_assoc, List.take_left' (by rw [List.length_append, yl])]
      exact List.drop_left' yl
    rw [← hb]
    have pk : pkL b = ⟨1, p1, p2, p3, p4, p5, p6, p7, 0, false, 0, p11, p12⟩ := by
      unfold pkL
      rw [if_neg (by rw [hd.k]; decide), if_neg (by rw [hd.k]; decide), hd.l1, hd.pc, hd.f, hd.d, gn 16 2 (by omega), gn 18 2 (by omega), x16, x18, g 20 (by omega), x20, dd, dt]
    refine ⟨o, pk, ?_, bl, bb⟩
    rw [whole_iff bb o, pk]
    show (pairs (summedL b) % 65535 == 0) = true
    have P := summed_pos (l := X ++ (p11 ++ p12)) (xb.app (bo.app bd)) (by rw [List.length_append]; omega) (by rw [List.length_append, List.length_append]; omega) (by rw [getD_app_l (by omega), xH 0 (by omega), hh.k]; omega)
    have sm := sumL_mod (k := 1) (b := false) P (by simp)
    have pz : pr (X ++ (p11 ++ p12)) 22 = 0 := by unfold pr; rw [getD_app_l (by omega), getD_app_l (by omega)]; exact x22
    rw [← hv] at sm
    rw [hb2, summed_put (by rw [List.length_append]; omega) (by rw [List.length_append, List.length_append]; omega) (Or.inr rfl) vb.1 vb.2, pz, beq_iff_eq]
    omega
/-- Bytes that are taken apart as before. -/
theorem Ok.congr {l m : List Int} (o : Ok l) (hl : m.length = l.length) (hs : fold (pairs (m.take 16)) = 65535) (hh : ∀ j, (j = 0 ∨ j = 2 ∨ j = 3 ∨ j = 13) → m.getD j 0 = l.getD j 0) (h17 : l.getD 0 0 = 3 → m.getD 17 0 = l.getD 17 0) (h20 : l.getD 0 0 = 1 → m.getD 20 0 = l.getD 20 0) (h21 : l.getD 0 0 = 1 → m.getD 21 0 = l.getD 21 0) : Ok m := by
  have e0 := hh 0 (by omega)
  refine ⟨by rw [hl]; exact o.h24, by rw [hl]; exact o.le, by rw [hl, numL_congr (m := l) 2 2 (fun j a b => hh j (by omega))]; exact o.num, by rw [hh 13 (by omega)]; exact o.z13, hs, by rw [e0]; exact o.k1, by rw [e0]; exact o.k3, fun h => by rw [hl]; exact o.f44 (by omega), ?_, ?_, ?_, ?_⟩
  · intro h; rw [h17 (by omega)]; exact o.f17 (by omega)
  · intro h; rw [h20 (by omega)]; exact o.s20 (by omega)
  · intro h; rw [h21 (by omega)]; exact o.s21 (by omega)
  · intro h
    have := o.rest (by omega)
    unfold restS at this ⊢
    rw [h21 (by omega), hl]; exact this
/-- Bytes that may be read. -/
structure Rw (w : World) (A : Option Addr) (c : Nat) (l : List Int) : Prop where
  rd : Kd.C (Kd.int .u8) w A l.length l
  le : l.length ≤ c
theorem Rw.below {w w' : World} {A : Option Addr} {c : Nat} {l : List Int} (h : Rw w A c l) (hb : Below w.heap.size w w') : Rw w' A c l := ⟨Kd.C_below h.rd hb, h.le⟩
theorem rw_of {b : Nat} {w : World} {A : Option Addr} {c n : Nat} {l : List Int} (h : RB b w (.slice A n c) l) : Rw w A c l := by
  have e := Kd.R_reads' h
  exact ⟨by have := e.2.2; exact this, by have := e.2.1; rw [e.1] at this; exact this⟩
theorem told_at {W0 W w' : World} {y : List Int} {x : Int} {e : Ending} (h : Below W0.heap.size W0 W) (ht : Told W y x e w') : ∃ (A : Option Addr) (c : Nat), e = .returned (.tuple #[.slice A y.length c, .int .i64 x]) ∧ RB W0.heap.size w' (.slice A y.length c) y ∧ Below W0.heap.size W0 w' := by
  obtain ⟨v, rfl, hr, hb⟩ := ht
  obtain ⟨A, c, rfl⟩ := Kd.R_slice hr
  exact ⟨A, c, rfl, Kd.R_lower hr h.size, below_step h hb⟩
theorem age_at {W0 : World} {A0 : Option Addr} {c0 n : Nat} {l : List Int} (h0 : Rw W0 A0 c0 l) (hn : l.length = n) (hl : l.length ≤ 10000) (hb : Bytes l) {y : List Int} {x : Int} (hr : ageR l = (y, x)) : ∀ W, Below W0.heap.size W0 W →
    Calls Try.prog 42 #[.slice A0 n c0] W fun e w' => ∃ (A : Option Addr) (c : Nat), e = .returned (.tuple #[.slice A y.length c, .int .i64 x]) ∧ RB W0.heap.size w' (.slice A y.length c) y ∧ Below W0.heap.size W0 w' := by
  subst hn
  intro W h
  have := age_calls (h0.below h).rd rfl h0.le hl hb
  rw [hr] at this
  exact this.mono fun e w' ht => told_at h ht
theorem parse_at {W0 : World} {A0 : Option Addr} {c0 n : Nat} {l : List Int} (h0 : Rw W0 A0 c0 l) (hn : l.length = n) (hl : l.length ≤ 10000) (hb : Bytes l) {p : Pk} {x : Int} (hr : parseL l = (p, x)) : ∀ W, Below W0.heap.size W0 W →
    Calls Try.prog 15 #[.slice A0 n c0] W fun e w' => ∃ (A1 : Option Addr) (c1 : Nat) (A2 : Option Addr) (c2 : Nat), e = .returned (.tuple #[.agg #[.int .i64 p.kind, .int .i64 p.life, .int .i64 p.piece, .int .i64 p.frm, .int .i64 p.dst, .int .i64 p.fp, .int .i64 p.tp, .int .i64 p.flags, .int .i64 p.label, .bool p.bare, .int .i64 p.code, .slice A1 p.opts.length c1, .slice A2 p.data.length c2], .int .i64 x]) ∧ RB W0.heap.size w' (.slice A1 p.opts.length c1) p.opts ∧ RB W0.heap.size w' (.slice A2 p.data.length c2) p.data ∧ (∀ k, (Value.slice A1 p.opts.length c1).ownBlock = some k → (Value.slice A2 p.data.length c2).ownBlock ≠ some k) ∧ Below W0.heap.size W0 w' := by
  subst hn
  intro W h
  refine (parse_calls (h0.below h).rd rfl h0.le (by omega) hb).mono ?_
  rintro e w' ⟨v1, v2, he, h1, h2, h3, h4⟩
  rw [hr] at he h1 h2
  obtain ⟨A1, c1, rfl⟩ := Kd.R_slice h1
  obtain ⟨A2, c2, rfl⟩ := Kd.R_slice h2
  exact ⟨A1, c1, A2, c2, he, Kd.R_lower h1 h.size, Kd.R_lower h2 h.size, h3, below_step h h4⟩
theorem build_at {W0 : World} {p : Pk} {A1 A2 : Option Addr} {c1 c2 n1 n2 : Nat} (h1 : Rw W0 A1 c1 p.opts) (h2 : Rw W0 A2 c2 p.data) (hn1 : p.opts.length = n1) (hn2 : p.data.length = n2) (he : buildE p = 0) (hc : Canon p) (hl1 : p.opts.length ≤ 100000) (hl2 : p.data.length ≤ 100000) {y : List Int} (hy : buildL p = y) : ∀ W, Below W0.heap.size W0 W →
    Calls Try.prog 11 #[.agg #[.int .i64 p.kind, .int .i64 p.life, .int .i64 p.piece, .int .i64 p.frm, .int .i64 p.dst, .int .i64 p.fp, .int .i64 p.tp, .int .i64 p.flags, .int .i64 p.label, .bool p.bare, .int .i64 p.code, .slice A1 n1 c1, .slice A2 n2 c2]] W fun e w' => ∃ (A : Option Addr) (c : Nat), e = .returned (.tuple #[.slice A y.length c, .int .i64 0]) ∧ RB W0.heap.size w' (.slice A y.length c) y ∧ Below W0.heap.size W0 w' := by
  subst hn1 hn2
  intro W h
  refine (build_calls (p := p) (h1.below h).rd h1.le (h2.below h).rd h2.le hc.bo hc.bd (by omega) (by omega)).mono ?_
  rintro e w' ⟨v, rfl, hr, hb⟩
  rw [he, hy] at hr
  rw [he]
  exact told_at h ⟨v, rfl, hr, hb⟩
end Go.Proofs.Ytgkmbefamcnifaa.WB
namespace Go.Proofs.Ytgkmbefamcnifaa.TB
set_option linter.unusedVariables false
set_option linter.unusedSimpArgs false
open Go.RowKit Go.Proofs.Ytgkmbefamcnifaa.Hp Go.Proofs.Ytgkmbefamcnifaa.SB Go.Proofs.Ytgkmbefamcnifaa.WB Go.Proofs.YtgkmbefamcnifaaW.PrintWords Go.Proofs.YtgkmbefamcnifaaW.PrintLast Go.Proofs.YtgkmbefamcnifaaW.PrintMore
/-- A number's eight bytes. -/
def byteAt (n : Int) (i : Nat) : Int := IntKind.u64.wrap n / 2 ^ (8 * i) % 256
def bytes8 (n : Int) (i : Nat) : List Int := (List.range i).map (byteAt n)
theorem bytes8_succ (n : Int) (i : Nat) : bytes8 n (i + 1) = bytes8 n i ++ [byteAt n i] := by simp [bytes8, List.range_succ]
theorem bytes8_len (n : Int) (i : Nat) : (bytes8 n i).length = i := by simp [bytes8]
def wordsB : List Int → List Int
  | [] => []
  | n :: l => bytes8 n 8 ++ wordsB l
theorem wordsB_len : ∀ l, (wordsB l).length = l.length * 8
  | [] => rfl
  | n :: l => by simp only [wordsB, List.length_append, bytes8_len, wordsB_len l, List.length_cons]; omega
theorem wordsB_snoc : ∀ (l : List Int) (n : Int), wordsB (l ++ [n]) = wordsB l ++ bytes8 n 8
  | [], n => by simp [wordsB]
  | m :: l, n => by simp [wordsB, wordsB_snoc l n]
def wordsL (k : Ky) (l : List Int) : Int := ofL k (wordsB l)
theorem c2 {w : World} {g t : Nat} {a0 a1 : Value} (h : w.heap[g]? = some (.cells #[a0, a1] t (0, 0))) : w.cell? ⟨g, 0, none⟩ = some a0 ∧ w.cell? ⟨g, 1, none⟩ = some a1 := by
  simp [World.cell?, h]
theorem take_snoc {l : List Int} {j : Nat} (h : j < l.length) : l.take (j + 1) = l.take j ++ [l.getD j 0] := by
  rw [List.take_add_one, List.getElem?_eq_getElem h]; simp [h]
set_option maxHeartbeats 4000000 in
set_option maxRecDepth 100000 in
theorem words_calls {w : World} (k : Ky) {A : Option Addr} {c n : Nat} {l : List Int} (hr : Kd.C (Kd.int .i64) w A n l) (hn : l.length = n) (hc : n ≤ c) (hl : l.length ≤ 1000) :
    Calls Try.prog 27 #[.agg #[.int .u64 k.a, .int .u64 k.b], .slice A n c] w fun e w' => e = .returned (.int .u64 (wordsL k l)) ∧ Below w.heap.size w w' := by
  subst hn
  have HR := Aside0.mk hr
  have HC := Aside0.mk hc
  have HL := Aside0.mk hl
  obtain ⟨r, hrr⟩ : ∃ r, wordsL k l = r := ⟨_, rfl⟩
  rw [hrr]
  have HRR := Aside0.mk hrr
  obtain ⟨ka, kb⟩ := k
  clear hr hc hl hrr
  obtain ⟨g, HG⟩ : ∃ g, w.heap.size = g := ⟨_, rfl⟩
  have HW8 := Aside0.mk (show wrap64 (8 * (l.length : Int)) = ((8 * l.length : Nat) : Int) by have := HL.out; rw [wid (by omega) (by omega)]; omega)
  go_enter Try.func27, Try.ntmps27
  go_upto_region 1 with fail
  refine wp_w (fun W => W.heap[g]? = some (.cells #[.int .u64 ka, .int .u64 kb] 30 (0, 0)) ∧ Below w.heap.size w W) ?_ ?_
  · exact ⟨by rw [← HG]; exact new_blk w _, below_alloc (Below.refl w.heap.size w) _⟩
  intro w1 h1
  have HK1 := Aside0.mk h1.1
  have HB1 := Aside0.mk h1.2
  clear h1
  go_wp2_with (first
    | ((with_reducible refine gate_dst (N := 12) rfl ?_); go_loud (refine R_make_cap (w0 := w1) w1.heap.size rfl rfl (.const (.int .i64 0)) (.tmp 11) rfl 0 (8 * l.length) 0 _ rfl HW8.out rfl rfl (by omega) (by have := HL.out; omega) (Below.refl _ w1) (Nat.le_refl _) ?_; intro v2 w2 ho hb1 hg hat; have HO2 := Aside0.mk ho; have HB2 := Aside0.mk hb1; clear ho hb1 hg hat)))
  go_loopg [15, 5] l.length (fun kq v15 v5 w' => ∃ (j : Nat) (A' : Option Addr) (c' : Nat) (xs : List Int), v15 = .int .i64 (j : Int) ∧ v5 = .slice A' xs.length c' ∧ Aside (kq + j = l.length) ∧ Aside0 (xs = wordsB (l.take j)) ∧ Aside0 (RB w1.heap.size w' (.slice A' xs.length c') xs) ∧ Aside0 (Below w1.heap.size w1 w'))
  case atStart =>
    obtain ⟨A2, c2, rfl⟩ := Kd.R_slice HO2.out
    exact ⟨0, A2, c2, [], rfl, rfl, (by show _ = _; omega), Aside0.mk rfl, HO2, HB2⟩
  case round =>
    obtain ⟨j, A', c', xs, rfl, rfl, hk, HX, HO, HB⟩ := hrel
    have HKQ := Aside0.mk hk.out
    clear hk
    rename World => wr1
    obtain ⟨gko, HGKO⟩ : ∃ n, gk = n := ⟨_, rfl⟩
    by_cases hlt : j < l.length
    · have hd : decide (j < l.length) = true := decide_eq_true hlt
      have HLT := Aside0.mk hlt
      have HGK := Aside0.mk (show 0 < gk from by have := HKQ.out; omega)
      obtain ⟨ad, ead, hcell⟩ := Kd.at_int (Kd.C_below HR.out (below_step HB1.out HB.out)) (j : Int) (by omega) (by omega)
      rw [Int.toNat_natCast] at hcell
      subst ead
      obtain ⟨x, hx⟩ : ∃ x, rd l (j : Int) = x := ⟨_, rfl⟩
      rw [hx] at hcell
      have HXX := Aside0.mk hx
      clear hx
      have hj0 : (0 : Int) ≤ (j : Int) := by omega
      go_wp2
      go_loopg [19, 5] 8 (fun kq v19 v5 w' => ∃ (i : Nat) (A2 : Option Addr) (c2 : Nat) (ys : List Int), v19 = .int .i64 (i : Int) ∧ v5 = .slice A2 ys.length c2 ∧ Aside (kq + i = 8) ∧ Aside0 (ys = xs ++ bytes8 x i) ∧ Aside0 (RB w1.heap.size w' (.slice A2 ys.length c2) ys) ∧ Aside0 (Below w1.heap.size w1 w'))
      case atStart => exact ⟨0, A', c', xs, rfl, rfl, (by show _ = _; omega), Aside0.mk (by simp [bytes8]), HO, HB⟩
      case round =>
        obtain ⟨i, A2, c2, ys, rfl, rfl, hk, HX2, HO2, HB2⟩ := hrel
        rename World => wr2
        have HKQ2 := Aside0.mk hk.out
        clear hk
        by_cases hli : i < 8
        · have hdi : decide (i < 8) = true := decide_eq_true hli
          have HLI := Aside0.mk hli
          have HGK2 := Aside0.mk (show 0 < gk from by have := HKQ2.out; omega)
          have hw8 : wrap64 (8 * (i : Int)) = ((8 * i : Nat) : Int) := by rw [wid (by omega) (by omega)]; omega
          have hmin : min (8 * i) 64 = 8 * i := by omega
          have hdi2 : decide ((i : Int) < 8) = true := decide_eq_true (by omega)
          have HYL := Aside0.mk (show (ys.length + 1) * 1 ≤ 140737488355328 by rw [HX2.out, List.length_append, bytes8_len, HX.out, wordsB_len, List.length_take]; have := HL.out; omega)
          go_wp2_with (first
            | ((with_reducible refine gate_dst (N := 29) rfl ?_); go_loud (refine Kd.R_lit (Kd.int .u8) (w0 := w1) w1.heap.size 5 ?hg (N := 29) ?hd (xs := ([(IntKind.u64.wrap x / 2 ^ (8 * i) % 256)] : List Int)) (inner := [.int .u8 (IntKind.u64.wrap x / 2 ^ (8 * i) % 256)]) (ok := fun _ => True) (okp := fun _ => True) ?hr ?hp (fun _ hk => hk) trivial HB2.out HB2.out.size (by simp) ?_; (case hd => rfl); (case hg => rfl); (case hr => first | (go_simp; done) | (go_simp; rfl)); (case hp => exact (Reps.one (show Kd.M (Kd.int .u8) _ _ _ (IntKind.u64.wrap x / 2 ^ (8 * i) % 256) [.int .u8 (IntKind.u64.wrap x / 2 ^ (8 * i) % 256)] from rfl) (Reps.none _ _))); intro v29 w3 ho hb hg hat; have HO3 := Aside0.mk (Kd.R_grown HO2.out hg (fun _ _ => by simp)); have HB3 := Aside0.mk hb; obtain ⟨Al, cl, el⟩ := Kd.R_slice ho; subst el; have HLC := Aside0.mk (Kd.R_reads' ho); clear ho hb hg hat))
            | ((with_reducible refine gate_builtin (b := .append) (xs := #[.tmp 22, .tmp 29]) rfl ?_); at_builtin; go_loud (refine Kd.R_append_rows (Kd.int .u8) (w0 := w1) w1.heap.size rfl (.tmp 22) (.tmp 29) 23 5 (.int .u8 0) 1 rfl Try.underlying23 info5 rfl (by decide) (by omega) (.slice A2 ys.length c2) ys [(IntKind.u64.wrap x / 2 ^ (8 * i) % 256)] Al 1 cl (fun _ => True) (fun _ => False) rfl rfl HO3.out HLC.out.2.2 (fun _ _ h => h) (fun _ h => h.elim) (fun _ _ => trivial) HB3.out HB3.out.size HYL.out ?_; intro v4 w4 ho hb hg hat; have HO4 := Aside0.mk ho; have HB4 := Aside0.mk hb; clear hb ho hg hat)))
          obtain ⟨A4, c4, rfl⟩ := Kd.R_slice HO4.out
          have HE4 := Aside0.mk (show (ys ++ [IntKind.u64.wrap x / 2 ^ (8 * i) % 256]) = xs ++ bytes8 x (i + 1) by rw [HX2.out, bytes8_succ, List.append_assoc]; rfl)
          go_roundg (gk - 1)
          case measure => have := HGK2.out; omega
          case rel => exact ⟨i + 1, A4, c4, _, rfl, rfl, (by show _ = _; have := HKQ2.out; have := HGK2.out; omega), HE4, HO4, HB4⟩
        · have hdi : decide (i < 8) = false := decide_eq_false hli
          have hdi2 : decide ((i : Int) < 8) = false := decide_eq_false (by omega)
          have HI8 := Aside0.mk (show i = 8 by have := HKQ2.out; omega)
          clear hli
          go_wp2
          go_roundg (gko - 1)
          case measure => have := HGK.out; omega
          case rel =>
            have hb1 := HLT.out
            have hb2 := HL.out
            have hys : ys = wordsB (l.take (j + 1)) := by
              rw [HX2.out, HI8.out, HX.out, take_snoc HLT.out, wordsB_snoc]
              congr 2
              rw [← HXX.out, rd_nat]
            exact ⟨j + 1, A2, c2, ys, (by show Value.int _ _ = Value.int _ _; rw [wid (by omega) (by omega)]; rfl), rfl, (by show _ = _; have := HKQ.out; have := HGK.out; omega), Aside0.mk hys, HO2, HB2⟩
    · have hd : decide (j < l.length) = false := decide_eq_false hlt
      have HJ := Aside0.mk (show xs = wordsB l by rw [HX.out, List.take_of_length_le (by omega)])
      clear hlt
      obtain ⟨k0, k1⟩ := c2 ((HB.out.block g (blk_lt HK1.out)).trans HK1.out)
      have HOF := Aside0.mk (fun W (hW : Below wr1.heap.size wr1 W) => of_calls ⟨ka, kb⟩ (w := W) (A := A') (c := c') (l := xs) (Kd.C_below (by have e := Kd.R_reads' HO.out; have := e.2.2; exact this) hW) rfl (by have e := Kd.R_reads' HO.out; have := e.2.1; rw [e.1] at this; exact this) (by rw [HJ.out, wordsB_len]; have := HL.out; omega))
      go_wp2_with (first | (go_at_call 28; go_loud ((with_reducible refine (HOF.out _ ?hb).mono ?_); (case hb => (repeat (first | with_reducible exact Below.refl _ _ | with_reducible apply pw_below_drewN | with_reducible apply below_drew1))); rintro e x1 ⟨rfl, hb1⟩; have HBF := Aside0.mk (below_step (below_step HB1.out HB.out) hb1))))
      go_ret
      have hrw : ofL ⟨ka, kb⟩ xs = r := by rw [HJ.out]; exact HRR.out
      exact ⟨by rw [← hrw]; rfl, HBF.out⟩
theorem c4 {w : World} {g t : Nat} {a0 a1 a2 a3 : Value} (h : w.heap[g]? = some (.cells #[a0, a1, a2, a3] t (0, 0))) : w.cell? ⟨g, 0, none⟩ = some a0 ∧ w.cell? ⟨g, 1, none⟩ = some a1 ∧ w.cell? ⟨g, 2, none⟩ = some a2 ∧ w.cell? ⟨g, 3, none⟩ = some a3 := by
  simp [World.cell?, h]
theorem two_boxes (w : World) {g : Nat} (hg : w.heap.size = g) (A B : Obj) : ((w.alloc A).alloc B).heap[g]? = some A ∧ ((w.alloc A).alloc B).heap[g + 1]? = some B ∧ Below w.heap.size w ((w.alloc A).alloc B) ∧ ((w.alloc A).alloc B).heap.size = g + 2 := by
  subst hg
  exact ⟨heap_alloc2_old w A B, heap_alloc2_new w A B, below_alloc (below_alloc (Below.refl _ w) _) _, (Array.size_push _).trans (congrArg (· + 1) (Array.size_push _))⟩
structure Fl where
  ad : Int
  po : Int
  tad : Int
  tpo : Int
def sumC (k : Ky) (kind : Int) (f : Fl) (a b : Int) : Int := wordsL k [kind, f.ad, f.po, f.tad, f.tpo, a, b]
set_option maxHeartbeats 4000000 in
set_option maxRecDepth 100000 in
theorem sum_calls (k : Ky) (kind : Int) (f : Fl) (a b : Int) (w : World) :
    Calls Try.prog 95 #[.agg #[.int .u64 k.a, .int .u64 k.b], .int .i64 kind, .agg #[.int .i64 f.ad, .int .i64 f.po, .int .i64 f.tad, .int .i64 f.tpo], .int .i64 a, .int .i64 b] w fun e w' => e = .returned (.int .u64 (sumC k kind f a b)) ∧ Below w.heap.size w w' := by
  obtain ⟨r, hr⟩ : ∃ r, sumC k kind f a b = r := ⟨_, rfl⟩
  rw [hr]
  have HR := Aside0.mk hr
  clear hr
  obtain ⟨ka, kb⟩ := k
  obtain ⟨f0, f1, f2, f3⟩ := f
  obtain ⟨g, HG⟩ : ∃ g, w.heap.size = g := ⟨_, rfl⟩
  go_enter Try.func95, Try.ntmps95
  go_upto_region 1 with fail
  refine wp_w (fun W => W.heap[g]? = some (.cells #[.int .u64 ka, .int .u64 kb] 30 (0, 0)) ∧ W.heap[g + 1]? = some (.cells #[.int .i64 f0, .int .i64 f1, .int .i64 f2, .int .i64 f3] 60 (0, 0)) ∧ Below w.heap.size w W) ?_ ?_
  · exact ⟨(two_boxes w HG _ _).1, (two_boxes w HG _ _).2.1, (two_boxes w HG _ _).2.2.1⟩
  intro w1 h1
  obtain ⟨k0, k1⟩ := c2 h1.1
  obtain ⟨j0, j1, j2, j3⟩ := c4 h1.2.1
  have HB1 := Aside0.mk h1.2.2
  clear h1
  go_wp2_with (first
    | ((with_reducible refine gate_dst (N := 23) rfl ?_); refine Kd.R_lit (Kd.int .i64) (w0 := w1) w1.heap.size 3 ?hg (N := 23) ?hd (xs := ([kind, f0, f1, f2, f3, a, b] : List Int)) (inner := [.int .i64 kind, .int .i64 f0, .int .i64 f1, .int .i64 f2, .int .i64 f3, .int .i64 a, .int .i64 b]) (ok := fun _ => True) (okp := fun _ => True) ?hr ?hp (fun _ hk => hk) trivial (Below.refl _ _) (Nat.le_refl _) (by simp) ?_; (case hd => rfl); (case hg => rfl); (case hr => first | (go_simp; done) | (go_simp; rfl)); (case hp => exact (Reps.one (show Kd.M (Kd.int .i64) _ _ _ kind [.int .i64 kind] from rfl) (Reps.one (show Kd.M (Kd.int .i64) _ _ _ f0 [.int .i64 f0] from rfl) (Reps.one (show Kd.M (Kd.int .i64) _ _ _ f1 [.int .i64 f1] from rfl) (Reps.one (show Kd.M (Kd.int .i64) _ _ _ f2 [.int .i64 f2] from rfl) (Reps.one (show Kd.M (Kd.int .i64) _ _ _ f3 [.int .i64 f3] from rfl) (Reps.one (show Kd.M (Kd.int .i64) _ _ _ a [.int .i64 a] from rfl) (Reps.one (show Kd.M (Kd.int .i64) _ _ _ b [.int .i64 b] from rfl) (Reps.none _ _))))))))); intro vl wl ho hb hg hat; obtain ⟨Al, cl, el⟩ := Kd.R_slice ho; subst el; have HLI := Aside0.mk (Kd.R_reads' ho); have HBL := Aside0.mk hb; clear ho hb hg hat)
    | (go_at_call 27; (with_reducible refine (words_calls ⟨ka, kb⟩ (n := 7) (l := [kind, f0, f1, f2, f3, a, b]) HLI.out.2.2 rfl HLI.out.2.1 (by simp)).mono ?_); rintro e x1 ⟨rfl, hx⟩; have HX := Aside0.mk (below_step (below_step HB1.out HBL.out) hx); clear hx))
  go_ret
  exact ⟨by rw [← HR.out]; rfl, HX.out⟩
def veilC (k : Ky) (kind : Int) (f : Fl) (e : Int) : Int := wrap64 (Go.bits .and .u64 (sumC k kind f 64 e) 63)
set_option maxHeartbeats 4000000 in
set_option maxRecDepth 100000 in
theorem veil_calls (k : Ky) (kind : Int) (f : Fl) (e : Int) (w : World) :
    Calls Try.prog 57 #[.agg #[.int .u64 k.a, .int .u64 k.b], .int .i64 kind, .agg #[.int .i64 f.ad, .int .i64 f.po, .int .i64 f.tad, .int .i64 f.tpo], .int .i64 e] w fun e' w' => e' = .returned (.int .i64 (veilC k kind f e)) ∧ Below w.heap.size w w' := by
  obtain ⟨s, hs⟩ : ∃ s, sumC k kind f 64 e = s := ⟨_, rfl⟩
  have HS := Aside0.mk (fun W => hs ▸ sum_calls k kind f 64 e W)
  rw [veilC, hs]
  clear hs
  obtain ⟨ka, kb⟩ := k
  obtain ⟨f0, f1, f2, f3⟩ := f
  obtain ⟨g, HG⟩ : ∃ g, w.heap.size = g := ⟨_, rfl⟩
  go_enter Try.func57, Try.ntmps57
  go_upto_region 1 with fail
  refine wp_w (fun W => W.heap[g]? = some (.cells #[.int .u64 ka, .int .u64 kb] 30 (0, 0)) ∧ W.heap[g + 1]? = some (.cells #[.int .i64 f0, .int .i64 f1, .int .i64 f2, .int .i64 f3] 60 (0, 0)) ∧ Below w.heap.size w W) ?_ ?_
  · exact ⟨(two_boxes w HG _ _).1, (two_boxes w HG _ _).2.1, (two_boxes w HG _ _).2.2.1⟩
  intro w1 h1
  obtain ⟨k0, k1⟩ := c2 h1.1
  obtain ⟨j0, j1, j2, j3⟩ := c4 h1.2.1
  have HB1 := Aside0.mk h1.2.2
  clear h1
  go_wp2_with (first
    | (go_at_call 95; (with_reducible refine (HS.out _).mono ?_); rintro e x1 ⟨rfl, hx⟩; have HX := Aside0.mk (below_step HB1.out hx); clear hx))
  go_ret
  exact ⟨rfl, HX.out⟩
def tagB (kind : Int) : Int := if kind = 2 then 8 else 12
theorem tagB_calls (kind : Int) (w : World) : Calls Try.prog 62 #[.int .i64 kind] w fun e w' => e = .returned (.int .i64 (tagB kind)) ∧ Drawn0 w w' :=
  cookie_tagBits.calls kind _ w (by unfold cookie_tagBits.f tagB; split <;> rfl)
def tagC (k : Ky) (kind : Int) (f : Fl) (slot e : Int) : Int := wrap64 (Go.bits .and .u64 (sumC k kind f slot e) (if kind = 2 then 255 else 4095))
set_option maxHeartbeats 4000000 in
set_option maxRecDepth 100000 in
theorem tag_calls (k : Ky) (kind : Int) (f : Fl) (slot e : Int) (w : World) :
    Calls Try.prog 58 #[.agg #[.int .u64 k.a, .int .u64 k.b], .int .i64 kind, .agg #[.int .i64 f.ad, .int .i64 f.po, .int .i64 f.tad, .int .i64 f.tpo], .int .i64 slot, .int .i64 e] w fun e' w' => e' = .returned (.int .i64 (tagC k kind f slot e)) ∧ Below w.heap.size w w' := by
  obtain ⟨s, hs⟩ : ∃ s, sumC k kind f slot e = s := ⟨_, rfl⟩
  have HS := Aside0.mk (fun W => hs ▸ sum_calls k kind f slot e W)
  rw [tagC, hs]
  clear hs
  obtain ⟨ka, kb⟩ := k
  obtain ⟨f0, f1, f2, f3⟩ := f
  obtain ⟨g, HG⟩ : ∃ g, w.heap.size = g := ⟨_, rfl⟩
  by_cases h2 : kind = 2
  · subst h2
    have HT := Aside0.mk (fun W => (show tagB 2 = 8 from rfl) ▸ tagB_calls 2 W)
    rw [if_pos rfl]
    go_enter Try.func58, Try.ntmps58
    go_upto_region 1 with fail
    refine wp_w (fun W => W.heap[g]? = some (.cells #[.int .u64 ka, .int .u64 kb] 30 (0, 0)) ∧ W.heap[g + 1]? = some (.cells #[.int .i64 f0, .int .i64 f1, .int .i64 f2, .int .i64 f3] 60 (0, 0)) ∧ Below w.heap.size w W) ?_ ?_
    · exact ⟨(two_boxes w HG _ _).1, (two_boxes w HG _ _).2.1, (two_boxes w HG _ _).2.2.1⟩
    intro w1 h1
    obtain ⟨k0, k1⟩ := c2 h1.1
    obtain ⟨j0, j1, j2, j3⟩ := c4 h1.2.1
    have HB1 := Aside0.mk h1.2.2
    clear h1
    go_wp2_with (first
      | (go_at_call 95; (with_reducible refine (HS.out _).mono ?_); rintro e x1 ⟨rfl, hx⟩; have HX := Aside0.mk (below_step HB1.out hx); clear hx)
      | (go_at_call 62; (with_reducible refine (HT.out _).mono ?_); rintro e x2 ⟨rfl, ⟨⟨nq, rfl⟩⟩⟩))
    go_ret
    exact ⟨rfl, bd HX.out _⟩
  · have HT := Aside0.mk (fun W => (show tagB kind = 12 from if_neg h2) ▸ tagB_calls kind W)
    rw [if_neg h2]
    clear h2
    go_enter Try.func58, Try.ntmps58
    go_upto_region 1 with fail
    refine wp_w (fun W => W.heap[g]? = some (.cells #[.int .u64 ka, .int .u64 kb] 30 (0, 0)) ∧ W.heap[g + 1]? = some (.cells #[.int .i64 f0, .int .i64 f1, .int .i64 f2, .int .i64 f3] 60 (0, 0)) ∧ Below w.heap.size w W) ?_ ?_
    · exact ⟨(two_boxes w HG _ _).1, (two_boxes w HG _ _).2.1, (two_boxes w HG _ _).2.2.1⟩
    intro w1 h1
    obtain ⟨k0, k1⟩ := c2 h1.1
    obtain ⟨j0, j1, j2, j3⟩ := c4 h1.2.1
    have HB1 := Aside0.mk h1.2.2
    clear h1
    go_wp2_with (first
      | (go_at_call 95; (with_reducible refine (HS.out _).mono ?_); rintro e x1 ⟨rfl, hx⟩; have HX := Aside0.mk (below_step HB1.out hx); clear hx)
      | (go_at_call 62; (with_reducible refine (HT.out _).mono ?_); rintro e x2 ⟨rfl, ⟨⟨nq, rfl⟩⟩⟩))
    go_ret
    exact ⟨rfl, bd HX.out _⟩
structure Rg where
  ep : Int
  k0 : Ky
  k1 : Ky
  k2 : Ky
def turnC (e : Int) : Int := Go.bits .and .i64 e 3
theorem turnC_calls (e : Int) (w : World) : Calls Try.prog 56 #[.int .i64 e] w fun e' w' => e' = .returned (.int .i64 (turnC e)) ∧ Drawn0 w w' := cookie_turn.calls e _ w rfl
def numberC (e s t kind : Int) : Int := (cookie_parts_number.f e s t kind).getD 0
theorem number_calls (e s t kind : Int) (w : World) : Calls Try.prog 59 #[.agg #[.int .i64 e, .int .i64 s, .int .i64 t], .int .i64 kind] w fun e' w' => e' = .returned (.int .i64 (numberC e s t kind)) ∧ Below w.heap.size w w' :=
  cookie_parts_number.calls e s t kind _ w (by unfold numberC cookie_parts_number.f cookie_tagBits.f; by_cases h : kind = 2 <;> simp [h])
theorem c7 {w : World} {g t : Nat} {a0 a1 a2 a3 a4 a5 a6 : Value} (h : w.heap[g]? = some (.cells #[a0, a1, a2, a3, a4, a5, a6] t (0, 0))) : w.cell? ⟨g, 0, none⟩ = some a0 ∧ w.cell? ⟨g, 1, none⟩ = some a1 ∧ w.cell? ⟨g, 2, none⟩ = some a2 ∧ w.cell? ⟨g, 3, none⟩ = some a3 ∧ w.cell? ⟨g, 4, none⟩ = some a4 ∧ w.cell? ⟨g, 5, none⟩ = some a5 ∧ w.cell? ⟨g, 6, none⟩ = some a6 := by
  simp [World.cell?, h]
def makeC (r : Rg) (kind : Int) (f : Fl) (slot : Int) : Int :=
  numberC (turnC r.ep) (Go.bits .xor .i64 slot (veilC r.k1 kind f (turnC r.ep))) (tagC r.k1 kind f slot (turnC r.ep)) kind
set_option maxHeartbeats 4000000 in
set_option maxRecDepth 100000 in
theorem cmake_calls (r : Rg) (kind : Int) (f : Fl) (slot : Int) (w : World) :
    Calls Try.prog 19 #[.agg #[.int .i64 r.ep, .int .u64 r.k0.a, .int .u64 r.k0.b, .int .u64 r.k1.a, .int .u64 r.k1.b, .int .u64 r.k2.a, .int .u64 r.k2.b], .int .i64 kind, .agg #[.int .i64 f.ad, .int .i64 f.po, .int .i64 f.tad, .int .i64 f.tpo], .int .i64 slot] w fun e' w' => e' = .returned (.int .i64 (makeC r kind f slot)) ∧ Below w.heap.size w w' := by
  obtain ⟨ep, ⟨a0, b0⟩, ⟨a1, b1⟩, ⟨a2, b2⟩⟩ := r
  obtain ⟨e, he⟩ : ∃ e, turnC ep = e := ⟨_, rfl⟩
  obtain ⟨v, hv⟩ : ∃ v, veilC ⟨a1, b1⟩ kind f e = v := ⟨_, rfl⟩
  obtain ⟨t, ht⟩ : ∃ t, tagC ⟨a1, b1⟩ kind f slot e = t := ⟨_, rfl⟩
  have HE := Aside0.mk (fun W => he ▸ turnC_calls ep W)
  have HV := Aside0.mk (fun W => hv ▸ veil_calls ⟨a1, b1⟩ kind f e W)
  have HT := Aside0.mk (fun W => ht ▸ tag_calls ⟨a1, b1⟩ kind f slot e W)
  have hg : makeC ⟨ep, ⟨a0, b0⟩, ⟨a1, b1⟩, ⟨a2, b2⟩⟩ kind f slot = numberC e (Go.bits .xor .i64 slot v) t kind := by rw [makeC]; show numberC (turnC ep) _ _ _ = _; rw [he, hv, ht]
  rw [hg]
  clear hg he hv ht
  obtain ⟨f0, f1, f2, f3⟩ := f
  obtain ⟨g, HG⟩ : ∃ g, w.heap.size = g := ⟨_, rfl⟩
  go_enter Try.func19, Try.ntmps19
  go_upto_region 1 with fail
  refine wp_w (fun W => W.heap[g]? = some (.cells #[.int .i64 ep, .int .u64 a0, .int .u64 b0, .int .u64 a1, .int .u64 b1, .int .u64 a2, .int .u64 b2] 32 (0, 0)) ∧ W.heap[g + 1]? = some (.cells #[.int .i64 f0, .int .i64 f1, .int .i64 f2, .int .i64 f3] 60 (0, 0)) ∧ Below w.heap.size w W) ?_ ?_
  · exact ⟨(two_boxes w HG _ _).1, (two_boxes w HG _ _).2.1, (two_boxes w HG _ _).2.2.1⟩
  intro w1 h1
  have HK1 := Aside0.mk h1.1
  have HF1 := Aside0.mk h1.2.1
  have HB1 := Aside0.mk h1.2.2
  obtain ⟨k0, k1, k2, k3, k4, k5, k6⟩ := c7 h1.1
  clear h1
  go_upto_region 2 with (first | (go_at_call 56; (with_reducible refine (HE.out _).mono ?_); rintro e1 x1 ⟨rfl, ⟨⟨nq, rfl⟩⟩⟩))
  clear k0 k1 k2 k3 k4 k5 k6
  have HCK := Aside0.mk (fun W (h : Below w1.heap.size w1 W) => show W.cell? ⟨g, 3, none⟩ = some (.int .u64 a1) ∧ W.cell? ⟨g, 4, none⟩ = some (.int .u64 b1) ∧ W.cell? ⟨g + 1, 0, none⟩ = some (.int .i64 f0) ∧ W.cell? ⟨g + 1, 1, none⟩ = some (.int .i64 f1) ∧ W.cell? ⟨g + 1, 2, none⟩ = some (.int .i64 f2) ∧ W.cell? ⟨g + 1, 3, none⟩ = some (.int .i64 f3) from
    ⟨(c7 ((h.block g (blk_lt HK1.out)).trans HK1.out)).2.2.2.1, (c7 ((h.block g (blk_lt HK1.out)).trans HK1.out)).2.2.2.2.1, c4 ((h.block (g + 1) (blk_lt HF1.out)).trans HF1.out)⟩)
  have HQc := Aside0.mk (bd (Below.refl w1.heap.size w1) nq).drew
  refine start_ (n := 20) (S := fun w' => w'.cell? ⟨g, 3, none⟩ = some (.int .u64 a1) ∧ w'.cell? ⟨g, 4, none⟩ = some (.int .u64 b1) ∧ w'.cell? ⟨g + 1, 0, none⟩ = some (.int .i64 f0) ∧ w'.cell? ⟨g + 1, 1, none⟩ = some (.int .i64 f1) ∧ w'.cell? ⟨g + 1, 2, none⟩ = some (.int .i64 f2) ∧ w'.cell? ⟨g + 1, 3, none⟩ = some (.int .i64 f3)) (ds := []) #[fF,fF,fF,fF,fF,fF,fF,fF,fF,fF,fF,fF,fF,fF,fF,fF,fF,fF,fF,fF] (by kernel_rfl) rfl rfl ⟨(HCK.out _ HQc.out).1, (HCK.out _ HQc.out).2.1, (HCK.out _ HQc.out).2.2.1, (HCK.out _ HQc.out).2.2.2.1, (HCK.out _ HQc.out).2.2.2.2.1, (HCK.out _ HQc.out).2.2.2.2.2⟩ (fun hHeld => ?_)
  refine pure_ (i := 0) (N := some 13) (v := ?_) (a' := ?_) #[tT,fF,fF,fF,fF,fF,fF,fF,fF,fF,fF,fF,fF,fF,fF,fF,fF,fF,fF,fF] rfl rfl (by kernel_rfl) (fun _ _ _ h => h) (Or.inl ⟨by rfl, ?_⟩) ?_ ?_
  rotate_left; · intro w'; go_simp; with_reducible rfl
  rotate_left; · simp only [Act.put, q_a, q_0, q_s, i64_w, i32_w]; rfl
  refine pure_ (i := 1) (N := some 14) (v := ?_) (a' := ?_) #[tT,tT,fF,fF,fF,fF,fF,fF,fF,fF,fF,fF,fF,fF,fF,fF,fF,fF,fF,fF] rfl rfl (by kernel_rfl) (fun _ _ _ h => h) (Or.inl ⟨by rfl, ?_⟩) ?_ ?_
  rotate_left; · intro w'; go_simp; with_reducible rfl
  rotate_left; · simp only [Act.put, q_a, q_0, q_s, i64_w, i32_w]; rfl
  refine pure_ (i := 2) (N := some 15) (v := ?_) (a' := ?_) #[tT,tT,tT,fF,fF,fF,fF,fF,fF,fF,fF,fF,fF,fF,fF,fF,fF,fF,fF,fF] rfl rfl (by kernel_rfl) (fun _ _ _ h => h) (Or.inl ⟨by rfl, ?_⟩) ?_ ?_
  rotate_left; · intro w'; go_simp; with_reducible rfl
  rotate_left; · simp only [Act.put, q_a, q_0, q_s, i64_w, i32_w]; rfl
  refine pure_ (i := 4) (N := some 17) (v := ?_) (a' := ?_) #[tT,tT,tT,fF,tT,fF,fF,fF,fF,fF,fF,fF,fF,fF,fF,fF,fF,fF,fF,fF] rfl rfl (by kernel_rfl) (fun _ _ _ h => h) (Or.inl ⟨by rfl, ?_⟩) ?_ ?_
  rotate_left; · intro w'; go_simp; with_reducible rfl
  rotate_left; · simp only [Act.put, q_a, q_0, q_s, i64_w, i32_w]; rfl
  refine pure_ (i := 6) (N := some 19) (v := ?_) (a' := ?_) #[tT,tT,tT,fF,tT,fF,tT,fF,fF,fF,fF,fF,fF,fF,fF,fF,fF,fF,fF,fF] rfl rfl (by kernel_rfl) (fun _ _ _ h => h) (Or.inl ⟨by rfl, ?_⟩) ?_ ?_
  rotate_left; · intro w'; go_simp; with_reducible rfl
  rotate_left; · simp only [Act.put, q_a, q_0, q_s, i64_w, i32_w]; rfl
  refine pure_ (i := 9) (N := some 22) (v := ?_) (a' := ?_) #[tT,tT,tT,fF,tT,fF,tT,fF,fF,tT,fF,fF,fF,fF,fF,fF,fF,fF,fF,fF] rfl rfl (by kernel_rfl) (fun _ _ _ h => h) (Or.inl ⟨by rfl, ?_⟩) ?_ ?_
  rotate_left; · intro w'; go_simp; with_reducible rfl
  rotate_left; · simp only [Act.put, q_a, q_0, q_s, i64_w, i32_w]; rfl
  refine pure_ (i := 11) (N := some 24) (v := ?_) (a' := ?_) #[tT,tT,tT,fF,tT,fF,tT,fF,fF,tT,fF,tT,fF,fF,fF,fF,fF,fF,fF,fF] rfl rfl (by kernel_rfl) (fun _ _ _ h => h) (Or.inl ⟨by rfl, ?_⟩) ?_ ?_
  rotate_left; · intro w'; go_simp; with_reducible rfl
  rotate_left; · simp only [Act.put, q_a, q_0, q_s, i64_w, i32_w]; rfl
  refine pure_ (i := 13) (N := some 26) (v := ?_) (a' := ?_) #[tT,tT,tT,fF,tT,fF,tT,fF,fF,tT,fF,tT,fF,tT,fF,fF,fF,fF,fF,fF] rfl rfl (by kernel_rfl) (fun _ _ _ h => h) (Or.inl ⟨by rfl, ?_⟩) ?_ ?_
  rotate_left; · intro w'; go_simp; with_reducible rfl
  rotate_left; · simp only [Act.put, q_a, q_0, q_s, i64_w, i32_w]; rfl
  refine pure_ (i := 14) (N := some 27) (v := ?_) (a' := ?_) #[tT,tT,tT,fF,tT,fF,tT,fF,fF,tT,fF,tT,fF,tT,tT,fF,fF,fF,fF,fF] rfl rfl (by kernel_rfl) (fun _ _ _ h => h) (Or.inl ⟨by rfl, ?_⟩) ?_ ?_
  rotate_left; · intro w'; go_simp; with_reducible rfl
  rotate_left; · simp only [Act.put, q_a, q_0, q_s, i64_w, i32_w]; rfl
  refine pure_ (i := 17) (N := some 30) (v := ?_) (a' := ?_) #[tT,tT,tT,fF,tT,fF,tT,fF,fF,tT,fF,tT,fF,tT,tT,fF,fF,tT,fF,fF] rfl rfl (by kernel_rfl) (fun _ _ _ h => h) (Or.inl ⟨by rfl, ?_⟩) ?_ ?_
  rotate_left; · intro w'; go_simp; with_reducible rfl
  rotate_left; · simp only [Act.put, q_a, q_0, q_s, i64_w, i32_w]; rfl
  refine take_ (i := 3) (N := some 16) (v := ?_) (a' := ?_) #[tT,tT,tT,tT,tT,fF,tT,fF,fF,tT,fF,tT,fF,tT,tT,fF,fF,tT,fF,fF] rfl rfl (by kernel_rfl) (fun _ _ _ h => h) (Or.inl ⟨by rfl, ?_⟩) hHeld ?_ ?_
  rotate_left
  · rintro w' ⟨s0, s1, s2, s3, s4, s5⟩
    go_simp
    with_reducible rfl
  rotate_left; · simp only [Act.put, q_a, q_0, q_s, i64_w, i32_w]; rfl
  refine take_ (i := 5) (N := some 18) (v := ?_) (a' := ?_) #[tT,tT,tT,tT,tT,tT,tT,fF,fF,tT,fF,tT,fF,tT,tT,fF,fF,tT,fF,fF] rfl rfl (by kernel_rfl) (fun _ _ _ h => h) (Or.inl ⟨by rfl, ?_⟩) hHeld ?_ ?_
  rotate_left
  · rintro w' ⟨s0, s1, s2, s3, s4, s5⟩
    go_simp
    with_reducible rfl
  rotate_left; · simp only [Act.put, q_a, q_0, q_s, i64_w, i32_w]; rfl
  refine take_ (i := 10) (N := some 23) (v := ?_) (a' := ?_) #[tT,tT,tT,tT,tT,tT,tT,fF,fF,tT,tT,tT,fF,tT,tT,fF,fF,tT,fF,fF] rfl rfl (by kernel_rfl) (fun _ _ _ h => h) (Or.inl ⟨by rfl, ?_⟩) hHeld ?_ ?_
  rotate_left
  · rintro w' ⟨s0, s1, s2, s3, s4, s5⟩
    go_simp
    with_reducible rfl
  rotate_left; · simp only [Act.put, q_a, q_0, q_s, i64_w, i32_w]; rfl
  refine take_ (i := 12) (N := some 25) (v := ?_) (a' := ?_) #[tT,tT,tT,tT,tT,tT,tT,fF,fF,tT,tT,tT,tT,tT,tT,fF,fF,tT,fF,fF] rfl rfl (by kernel_rfl) (fun _ _ _ h => h) (Or.inl ⟨by rfl, ?_⟩) hHeld ?_ ?_
  rotate_left
  · rintro w' ⟨s0, s1, s2, s3, s4, s5⟩
    go_simp
    with_reducible rfl
  rotate_left; · simp only [Act.put, q_a, q_0, q_s, i64_w, i32_w]; rfl
  refine one_ (i := 7) (N := some 20) #[tT,tT,tT,tT,tT,tT,tT,tT,fF,tT,tT,tT,tT,tT,tT,fF,fF,tT,fF,fF] rfl rfl (by kernel_rfl) (by decide) (fun K hK => ?_)
  refine goes_ Try.func57 (by kernel_rfl) rfl #[.agg #[.int .u64 a1, .int .u64 b1], .int .i64 kind, .agg #[.int .i64 f0, .int .i64 f1, .int .i64 f2, .int .i64 f3], .int .i64 e] (by rfl) rfl rfl (by simp only [List.map_toArray, List.map_cons, List.map_nil]; rfl) ?_
  with_reducible refine (HV.out _).mono ?_
  rintro e w3 ⟨rfl, hx⟩
  refine ⟨_, rfl, ?_⟩
  replace HQc := Aside0.mk (below_step HQc.out hx)
  refine hK.out _ _ ⟨(HCK.out _ HQc.out).1, (HCK.out _ HQc.out).2.1, (HCK.out _ HQc.out).2.2.1, (HCK.out _ HQc.out).2.2.2.1, (HCK.out _ HQc.out).2.2.2.2.1, (HCK.out _ HQc.out).2.2.2.2.2⟩ (fun hHeld => ?_)
  clear hK K
  refine norm_ (a' := ?_) ?_ ?_
  rotate_left
  · show Act.put _ (some 20) _ = _
    simp only [Act.put, q_a, q_0, q_s, i64_w, i32_w]
    rfl
  refine pure_ (i := 8) (N := some 21) (v := ?_) (a' := ?_) #[tT,tT,tT,tT,tT,tT,tT,tT,tT,tT,tT,tT,tT,tT,tT,fF,fF,tT,fF,fF] rfl rfl (by kernel_rfl) (fun _ _ _ h => h) (Or.inl ⟨by rfl, ?_⟩) ?_ ?_
  rotate_left; · intro w'; go_simp; with_reducible rfl
  rotate_left; · simp only [Act.put, q_a, q_0, q_s, i64_w, i32_w]; rfl
  refine one_ (i := 15) (N := some 28) #[tT,tT,tT,tT,tT,tT,tT,tT,tT,tT,tT,tT,tT,tT,tT,tT,fF,tT,fF,fF] rfl rfl (by kernel_rfl) (by decide) (fun K hK => ?_)
  refine goes_ Try.func58 (by kernel_rfl) rfl #[.agg #[.int .u64 a1, .int .u64 b1], .int .i64 kind, .agg #[.int .i64 f0, .int .i64 f1, .int .i64 f2, .int .i64 f3], .int .i64 slot, .int .i64 e] (by rfl) rfl rfl (by simp only [List.map_toArray, List.map_cons, List.map_nil]; rfl) ?_
  with_reducible refine (HT.out _).mono ?_
  rintro e w3 ⟨rfl, hx⟩
  refine ⟨_, rfl, ?_⟩
  replace HQc := Aside0.mk (below_step HQc.out hx)
  refine hK.out _ _ ⟨(HCK.out _ HQc.out).1, (HCK.out _ HQc.out).2.1, (HCK.out _ HQc.out).2.2.1, (HCK.out _ HQc.out).2.2.2.1, (HCK.out _ HQc.out).2.2.2.2.1, (HCK.out _ HQc.out).2.2.2.2.2⟩ (fun hHeld => ?_)
  clear hK K
  refine norm_ (a' := ?_) ?_ ?_
  rotate_left
  · show Act.put _ (some 28) _ = _
    simp only [Act.put, q_a, q_0, q_s, i64_w, i32_w]
    rfl
  refine pure_ (i := 16) (N := some 29) (v := ?_) (a' := ?_) #[tT,tT,tT,tT,tT,tT,tT,tT,tT,tT,tT,tT,tT,tT,tT,tT,tT,tT,fF,fF] rfl rfl (by kernel_rfl) (fun _ _ _ h => h) (Or.inl ⟨by rfl, ?_⟩) ?_ ?_
  rotate_left; · intro w'; go_simp; with_reducible rfl
  rotate_left; · simp only [Act.put, q_a, q_0, q_s, i64_w, i32_w]; rfl
  refine one_ (i := 18) (N := some 31) #[tT,tT,tT,tT,tT,tT,tT,tT,tT,tT,tT,tT,tT,tT,tT,tT,tT,tT,tT,fF] rfl rfl (by kernel_rfl) (by decide) (fun K hK => ?_)
  refine goes_ Try.func59 (by kernel_rfl) rfl #[.agg #[.int .i64 e, .int .i64 (Go.bits .xor .i64 slot v), .int .i64 t], .int .i64 kind] (by rfl) rfl rfl (by simp only [List.map_toArray, List.map_cons, List.map_nil]; rfl) ?_
  with_reducible refine (number_calls _ _ _ _ _).mono ?_
  rintro e w3 ⟨rfl, hx⟩
  refine ⟨_, rfl, ?_⟩
  replace HQc := Aside0.mk (below_step HQc.out hx)
  refine hK.out _ _ ⟨(HCK.out _ HQc.out).1, (HCK.out _ HQc.out).2.1, (HCK.out _ HQc.out).2.2.1, (HCK.out _ HQc.out).2.2.2.1, (HCK.out _ HQc.out).2.2.2.2.1, (HCK.out _ HQc.out).2.2.2.2.2⟩ (fun hHeld => ?_)
  clear hK K
  refine norm_ (a' := ?_) ?_ ?_
  rotate_left
  · show Act.put _ (some 31) _ = _
    simp only [Act.put, q_a, q_0, q_s, i64_w, i32_w]
    rfl
  refine pure_ (i := 19) (N := some 8) (v := ?_) (a' := ?_) #[tT,tT,tT,tT,tT,tT,tT,tT,tT,tT,tT,tT,tT,tT,tT,tT,tT,tT,tT,tT] rfl rfl (by kernel_rfl) (fun _ _ _ h => h) (Or.inl ⟨by rfl, ?_⟩) ?_ ?_
  rotate_left; · intro w'; go_simp; with_reducible rfl
  rotate_left; · simp only [Act.put, q_a, q_0, q_s, i64_w, i32_w]; rfl
  refine done_ (by kernel_rfl) ?_
  go_wp2
  go_ret
  exact ⟨rfl, below_step HB1.out HQc.out⟩
theorem results_ct_row {P : Program} {fn : Func} {p q : Tmp} {ty : TypeId} (h : fn.results = #[.cell p ty, .tmp q]) (tmps : Array Value) (w : World) (g : Nat) (t : TypeId) (cs : Array Value) (fr : Nat × Nat) (d : TypeDesc)
    (hp : tmps.getD p undef = .pointer (some ⟨g, 0, none⟩)) (hg : w.heap[g]? = some (.cells cs t fr))
    (hu : P.underlying ty = some d) (hd : (match d with | .struct _ | .array _ _ => true | _ => false) = true) (hi : (P.info? ty).map (·.size) = some cs.size) :
    (results fn tmps).run P w = .ok (.tuple #[.agg cs, tmps.getD q undef]) w := by
  have hp' : tmps[p]?.getD undef = .pointer (some ⟨g, 0, none⟩) := by simpa using hp
  simp [results, h, hp', asAddr, run_loadVar_row w g t ty cs fr d hg hu hd hi, Sem.run_bind, Result.andThen]
theorem results_ctt_row {P : Program} {fn : Func} {p q r : Tmp} {ty : TypeId} (h : fn.results = #[.cell p ty, .tmp q, .tmp r]) (tmps : Array Value) (w : World) (g : Nat) (t : TypeId) (cs : Array Value) (fr : Nat × Nat) (d : TypeDesc)
    (hp : tmps.getD p undef = .pointer (some ⟨g, 0, none⟩)) (hg : w.heap[g]? = some (.cells cs t fr))
    (hu : P.underlying ty = some d) (hd : (match d with | .struct _ | .array _ _ => true | _ => false) = true) (hi : (P.info? ty).map (·.size) = some cs.size) :
    (results fn tmps).run P w = .ok (.tuple #[.agg cs, tmps.getD q undef, tmps.getD r undef]) w := by
  have hp' : tmps[p]?.getD undef = .pointer (some ⟨g, 0, none⟩) := by simpa using hp
  simp [results, h, hp', asAddr, run_loadVar_row w g t ty cs fr d hg hu hd hi, Sem.run_bind, Result.andThen]
theorem info30 : (Try.prog.info? 30).map (·.size) = some 2 := by kernel_rfl
theorem info32 : (Try.prog.info? 32).map (·.size) = some 7 := by kernel_rfl
/-- An element of an array by value. -/
theorem run_index_agg {P : Program} (w : World) (t e : TypeId) (n : Nat) (cs : Array Value) (i sz : Nat) (d : TypeDesc) (ht : P.underlying t = some (.array n e)) (hu : P.underlying e = some d)
    (hd : (match d with | .struct _ | .array _ _ => true | _ => false) = true) (hi : (P.info? e).map (·.size) = some sz) (h : i < n) (iz : Int) (hz : iz = i) :
    (Instr.index t (.agg cs) (.int .i64 iz)).run P w = .ok (.agg (cs.extract (i * sz) (i * sz + sz))) w := by
  subst hz
  have hn : (0 : Int) ≤ (i : Int) ∧ (i : Int) < (n : Int) := by omega
  cases hq : P.info? e with
  | none => simp [hq] at hi
  | some i0 =>
    have hs : i0.size = sz := by simpa [hq] using hi
    have hagg : (isAgg e).run P w = .ok true w := by
      unfold isAgg
      rw [Sem.run_bind, run_underlying hu w]
      cases d <;> simp_all
    simp [Instr.index, run_underlying ht, asIntOf, h, go_sem, part, Sem.run_bind, hagg, sizeOf, typeInfo, hq, hs, Result.andThen]
theorem ix174 (a0 a1 a2 a3 a4 a5 : Value) (W : World) : (Instr.index 174 (.agg #[a0, a1, a2, a3, a4, a5]) (.int .i64 0)).run Try.prog W = .ok (.agg #[a0, a1]) W ∧ (Instr.index 174 (.agg #[a0, a1, a2, a3, a4, a5]) (.int .i64 1)).run Try.prog W = .ok (.agg #[a2, a3]) W ∧ (Instr.index 174 (.agg #[a0, a1, a2, a3, a4, a5]) (.int .i64 2)).run Try.prog W = .ok (.agg #[a4, a5]) W :=
  ⟨run_index_agg W 174 30 3 _ 0 2 _ Try.underlying174 Try.underlying30 rfl info30 (by omega) 0 rfl, run_index_agg W 174 30 3 _ 1 2 _ Try.underlying174 Try.underlying30 rfl info30 (by omega) 1 rfl, run_index_agg W 174 30 3 _ 2 2 _ Try.underlying174 Try.underlying30 rfl info30 (by omega) 2 rfl⟩
theorem res2 {w : World} {g : Nat} {t : TypeId} {x y : Value} (h : w.heap[g]? = some (.cells #[x, y] t (0, 0))) (a b : Value) : ((w.setCell ⟨g, 0, none⟩ a).setCell ⟨g, 1, none⟩ b).heap[g]? = some (.cells #[a, b] t (0, 0)) :=
  heap_setCell_same _ g 1 _ t b (heap_setCell_same _ g 0 _ t a h)
theorem blk_al {w : World} {g : Nat} {o : Obj} (h : w.heap[g]? = some o) (o' : Obj) : (w.alloc o').heap[g]? = some o := (Go.heap_alloc_old w o' (blk_lt h)).trans h
def atR : List Ky → Nat → Int → Int → Ky × Bool
  | [], _, _, _ => (⟨0, 0⟩, false)
  | k :: l, i, first, epoch => if turnC (wrap64 (first + i)) = turnC epoch then (k, true) else atR l (i + 1) first epoch
set_option maxHeartbeats 4000000 in
set_option maxRecDepth 100000 in
theorem at_calls (k0 k1 k2 : Ky) (first epoch : Int) (w : World) :
    Calls Try.prog 99 #[.agg #[.int .u64 k0.a, .int .u64 k0.b, .int .u64 k1.a, .int .u64 k1.b, .int .u64 k2.a, .int .u64 k2.b], .int .i64 first, .int .i64 epoch] w fun e w' => e = .returned (.tuple #[.agg #[.int .u64 (atR [k0, k1, k2] 0 first epoch).1.a, .int .u64 (atR [k0, k1, k2] 0 first epoch).1.b], .bool (atR [k0, k1, k2] 0 first epoch).2]) ∧ Below w.heap.size w w' := by
  obtain ⟨R, hR⟩ : ∃ R, atR [k0, k1, k2] 0 first epoch = R := ⟨_, rfl⟩
  rw [hR]
  have HR := Aside0.mk hR
  clear hR
  obtain ⟨g, HG⟩ : ∃ g, w.heap.size = g := ⟨_, rfl⟩
  have hu30 := Try.underlying30
  have hix0 := fun W => (ix174 (.int .u64 k0.a) (.int .u64 k0.b) (.int .u64 k1.a) (.int .u64 k1.b) (.int .u64 k2.a) (.int .u64 k2.b) W).1
  have hix1 := fun W => (ix174 (.int .u64 k0.a) (.int .u64 k0.b) (.int .u64 k1.a) (.int .u64 k1.b) (.int .u64 k2.a) (.int .u64 k2.b) W).2.1
  have hix2 := fun W => (ix174 (.int .u64 k0.a) (.int .u64 k0.b) (.int .u64 k1.a) (.int .u64 k1.b) (.int .u64 k2.a) (.int .u64 k2.b) W).2.2
  go_enter Try.func99, Try.ntmps99
  go_upto_region 1 with fail
  refine wp_w (fun W => W.heap[g]? = some (.cells #[.int .u64 k0.a, .int .u64 k0.b, .int .u64 k1.a, .int .u64 k1.b, .int .u64 k2.a, .int .u64 k2.b] 174 (0, 0)) ∧ W.heap[g + 1]? = some (.cells #[.int .u64 0, .int .u64 0] 30 (0, 0)) ∧ Below w.heap.size w W) ?_ ?_
  · exact ⟨(two_boxes w HG _ _).1, (two_boxes w HG _ _).2.1, (two_boxes w HG _ _).2.2.1⟩
  intro w1 h1
  have HK1 := Aside0.mk h1.2.1
  have HB1 := Aside0.mk h1.2.2
  have q6 : w1.cell? ⟨g, 0, none⟩ = some (.int .u64 k0.a) ∧ w1.cell? ⟨g, 1, none⟩ = some (.int .u64 k0.b) ∧ w1.cell? ⟨g, 2, none⟩ = some (.int .u64 k1.a) ∧ w1.cell? ⟨g, 3, none⟩ = some (.int .u64 k1.b) ∧ w1.cell? ⟨g, 4, none⟩ = some (.int .u64 k2.a) ∧ w1.cell? ⟨g, 5, none⟩ = some (.int .u64 k2.b) := by simp [World.cell?, h1.1]
  obtain ⟨q0, q1, q2, q3, q4, q5⟩ := q6
  clear h1
  go_wp2
  go_loopg [12] 3 (fun kq v12 w' => ∃ (i : Nat), v12 = .int .i64 (i : Int) ∧ Aside (kq + i = 3) ∧ Aside0 (atR ([k0, k1, k2].drop i) i first epoch = R) ∧ Aside0 (Below w1.heap.size w1 w'))
  case atStart => exact ⟨0, rfl, (by show _ = _; omega), HR, Aside0.mk (Below.refl _ w1)⟩
  case round =>
    obtain ⟨i, rfl, hk, HRI, HB⟩ := hrel
    have HKQ := Aside0.mk hk.out
    clear hk
    rename World => wr1
    have HRES := Aside0.mk ((HB.out.block (g + 1) (blk_lt HK1.out)).trans HK1.out)
    have y0 := cell_of_row wr1 (g + 1) 0 _ _ _ HRES.out
    have y1 := cell_of_row wr1 (g + 1) 1 _ _ _ HRES.out
    have z0 := frozen_of_row wr1 (g + 1) 0 _ _ HRES.out
    have z1 := frozen_of_row wr1 (g + 1) 1 _ _ HRES.out
    have hlt1 := blk_lt HRES.out
    match i, HRI, HKQ with
    | 0, HRI, HKQ =>
      have HGK := Aside0.mk (show 0 < gk from by have := HKQ.out; omega)
      have HRJ : Aside0 ((if turnC (wrap64 first) = turnC epoch then (k0, true) else atR ([k0, k1, k2].drop 1) 1 first epoch) = R) := Aside0.mk (by have h1 := HRI.out; simpa [atR] using h1)
      by_cases he : turnC (wrap64 first) = turnC epoch
      · have hb : (turnC (wrap64 first) == turnC epoch) = true := beq_iff_eq.mpr he
        have HE := Aside0.mk (show (k0, true) = R from by have h1 := HRJ.out; rw [if_pos he] at h1; exact h1)
        clear he
        go_wp2_with (first | (go_at_call 56; (with_reducible refine (turnC_calls _ _).mono ?_); rintro e1 x1 ⟨rfl, ⟨⟨nq, rfl⟩⟩⟩))
        refine bodyPost_ret (results_ct_row rfl _ _ (g + 1) 30 #[.int .u64 k0.a, .int .u64 k0.b] (0, 0) _ rfl (res2 (blk_al HRES.out _) _ _) Try.underlying30 rfl info30) rfl ⟨by rw [← HE.out]; rfl, ?_⟩
        exact below_set (below_set (bd (below_alloc (below_step HB1.out HB.out) _) _) (by omega)) (by omega)
      · have hb : (turnC (wrap64 first) == turnC epoch) = false := beq_eq_false_iff_ne.mpr he
        have HE := Aside0.mk (show atR ([k0, k1, k2].drop 1) 1 first epoch = R from by have h1 := HRJ.out; rw [if_neg he] at h1; exact h1)
        clear he
        go_wp2_with (first | (go_at_call 56; (with_reducible refine (turnC_calls _ _).mono ?_); rintro e1 x1 ⟨rfl, ⟨⟨nq, rfl⟩⟩⟩))
        go_roundg (gk - 1)
        case measure => have := HGK.out; omega
        case rel => exact ⟨1, rfl, (by show _ = _; have := HKQ.out; have := HGK.out; omega), HE, Aside0.mk (bd (below_alloc HB.out _) _)⟩
    | 1, HRI, HKQ =>
      have HGK := Aside0.mk (show 0 < gk from by have := HKQ.out; omega)
      have HRJ : Aside0 ((if turnC (wrap64 (first + 1)) = turnC epoch then (k1, true) else atR ([k0, k1, k2].drop 2) 2 first epoch) = R) := Aside0.mk (by have h1 := HRI.out; simpa [atR] using h1)
      by_cases he : turnC (wrap64 (first + 1)) = turnC epoch
      · have hb : (turnC (wrap64 (first + 1)) == turnC epoch) = true := beq_iff_eq.mpr he
        have HE := Aside0.mk (show (k1, true) = R from by have h1 := HRJ.out; rw [if_pos he] at h1; exact h1)
        clear he
        go_wp2_with (first | (go_at_call 56; (with_reducible refine (turnC_calls _ _).mono ?_); rintro e1 x1 ⟨rfl, ⟨⟨nq, rfl⟩⟩⟩))
        refine bodyPost_ret (results_ct_row rfl _ _ (g + 1) 30 #[.int .u64 k1.a, .int .u64 k1.b] (0, 0) _ rfl (res2 (blk_al HRES.out _) _ _) Try.underlying30 rfl info30) rfl ⟨by rw [← HE.out]; rfl, ?_⟩
        exact below_set (below_set (bd (below_alloc (below_step HB1.out HB.out) _) _) (by omega)) (by omega)
      · have hb : (turnC (wrap64 (first + 1)) == turnC epoch) = false := beq_eq_false_iff_ne.mpr he
        have HE := Aside0.mk (show atR ([k0, k1, k2].drop 2) 2 first epoch = R from by have h1 := HRJ.out; rw [if_neg he] at h1; exact h1)
        clear he
        go_wp2_with (first | (go_at_call 56; (with_reducible refine (turnC_calls _ _).mono ?_); rintro e1 x1 ⟨rfl, ⟨⟨nq, rfl⟩⟩⟩))
        go_roundg (gk - 1)
        case measure => have := HGK.out; omega
        case rel => exact ⟨2, rfl, (by show _ = _; have := HKQ.out; have := HGK.out; omega), HE, Aside0.mk (bd (below_alloc HB.out _) _)⟩
    | 2, HRI, HKQ =>
      have HGK := Aside0.mk (show 0 < gk from by have := HKQ.out; omega)
      have HRJ : Aside0 ((if turnC (wrap64 (first + 2)) = turnC epoch then (k2, true) else atR ([k0, k1, k2].drop 3) 3 first epoch) = R) := Aside0.mk (by have h1 := HRI.out; simpa [atR] using h1)
      by_cases he : turnC (wrap64 (first + 2)) = turnC epoch
      · have hb : (turnC (wrap64 (first + 2)) == turnC epoch) = true := beq_iff_eq.mpr he
        have HE := Aside0.mk (show (k2, true) = R from by have h1 := HRJ.out; rw [if_pos he] at h1; exact h1)
        clear he
        go_wp2_with (first | (go_at_call 56; (with_reducible refine (turnC_calls _ _).mono ?_); rintro e1 x1 ⟨rfl, ⟨⟨nq, rfl⟩⟩⟩))
        refine bodyPost_ret (results_ct_row rfl _ _ (g + 1) 30 #[.int .u64 k2.a, .int .u64 k2.b] (0, 0) _ rfl (res2 (blk_al HRES.out _) _ _) Try.underlying30 rfl info30) rfl ⟨by rw [← HE.out]; rfl, ?_⟩
        exact below_set (below_set (bd (below_alloc (below_step HB1.out HB.out) _) _) (by omega)) (by omega)
      · have hb : (turnC (wrap64 (first + 2)) == turnC epoch) = false := beq_eq_false_iff_ne.mpr he
        have HE := Aside0.mk (show atR ([k0, k1, k2].drop 3) 3 first epoch = R from by have h1 := HRJ.out; rw [if_neg he] at h1; exact h1)
        clear he
        go_wp2_with (first | (go_at_call 56; (with_reducible refine (turnC_calls _ _).mono ?_); rintro e1 x1 ⟨rfl, ⟨⟨nq, rfl⟩⟩⟩))
        go_roundg (gk - 1)
        case measure => have := HGK.out; omega
        case rel => exact ⟨3, rfl, (by show _ = _; have := HKQ.out; have := HGK.out; omega), HE, Aside0.mk (bd (below_alloc HB.out _) _)⟩
    | 3, HRI, HKQ =>
      have HE := Aside0.mk (show ((⟨0, 0⟩ : Ky), false) = R from HRI.out)
      go_wp2
      refine bodyPost_ret (results_ct_row rfl _ _ (g + 1) 30 #[.int .u64 0, .int .u64 0] (0, 0) _ rfl (blk_al (res2 HRES.out _ _) _) Try.underlying30 rfl info30) rfl ⟨by rw [← HE.out]; rfl, ?_⟩
      exact below_alloc (below_set (below_set (below_step HB1.out HB.out) (by omega)) (by omega)) _
    | i + 4, HRI, HKQ => exact absurd HKQ.out (by omega)
def keyC (r : Rg) (e : Int) : Ky × Bool := atR [r.k0, r.k1, r.k2] 0 (wrap64 (r.ep - 1)) e
set_option maxHeartbeats 4000000 in
set_option maxRecDepth 100000 in
theorem key_calls (r : Rg) (e : Int) (w : World) :
    Calls Try.prog 63 #[.agg #[.int .i64 r.ep, .int .u64 r.k0.a, .int .u64 r.k0.b, .int .u64 r.k1.a, .int .u64 r.k1.b, .int .u64 r.k2.a, .int .u64 r.k2.b], .int .i64 e] w fun e' w' => e' = .returned (.tuple #[.agg #[.int .u64 (keyC r e).1.a, .int .u64 (keyC r e).1.b], .bool (keyC r e).2]) ∧ Below w.heap.size w w' := by
  obtain ⟨ep, k0, k1, k2⟩ := r
  obtain ⟨R, hR⟩ : ∃ R, atR [k0, k1, k2] 0 (wrap64 (ep - 1)) e = R := ⟨_, rfl⟩
  have hg : keyC ⟨ep, k0, k1, k2⟩ e = R := hR
  rw [hg]
  have HA := Aside0.mk (fun W => hR ▸ at_calls k0 k1 k2 (wrap64 (ep - 1)) e W)
  clear hR hg
  obtain ⟨⟨ka, kb⟩, is⟩ := R
  obtain ⟨g, HG⟩ : ∃ g, w.heap.size = g := ⟨_, rfl⟩
  go_enter Try.func63, Try.ntmps63
  go_upto_region 1 with fail
  refine wp_w (fun W => W.heap[g]? = some (.cells #[.int .i64 ep, .int .u64 k0.a, .int .u64 k0.b, .int .u64 k1.a, .int .u64 k1.b, .int .u64 k2.a, .int .u64 k2.b] 32 (0, 0)) ∧ W.heap[g + 1]? = some (.cells #[.int .u64 0, .int .u64 0] 30 (0, 0)) ∧ Below w.heap.size w W) ?_ ?_
  · exact ⟨(two_boxes w HG _ _).1, (two_boxes w HG _ _).2.1, (two_boxes w HG _ _).2.2.1⟩
  intro w1 h1
  have HK1 := Aside0.mk h1.2.1
  have HB1 := Aside0.mk h1.2.2
  obtain ⟨q0, q1, q2, q3, q4, q5, q6⟩ := c7 h1.1
  clear h1
  go_wp2_with (first | (go_at_call 99; (with_reducible refine (HA.out _).mono ?_); rintro e1 x1 ⟨rfl, hx⟩; have HX := Aside0.mk hx; have HRES := Aside0.mk ((hx.block (g + 1) (blk_lt HK1.out)).trans HK1.out); have y0 := cell_of_row x1 (g + 1) 0 _ _ _ HRES.out; have y1 := cell_of_row x1 (g + 1) 1 _ _ _ HRES.out; have z0 := frozen_of_row x1 (g + 1) 0 _ _ HRES.out; have z1 := frozen_of_row x1 (g + 1) 1 _ _ HRES.out; clear hx))
  refine bodyPost_ret (results_ct_row rfl _ _ (g + 1) 30 #[.int .u64 ka, .int .u64 kb] (0, 0) _ rfl (res2 HRES.out _ _) Try.underlying30 rfl info30) rfl ⟨rfl, ?_⟩
  exact below_set (below_set (below_step HB1.out HX.out) (by omega)) (by omega)
theorem c3 {w : World} {g t : Nat} {a0 a1 a2 : Value} (h : w.heap[g]? = some (.cells #[a0, a1, a2] t (0, 0))) : w.cell? ⟨g, 0, none⟩ = some a0 ∧ w.cell? ⟨g, 1, none⟩ = some a1 ∧ w.cell? ⟨g, 2, none⟩ = some a2 := by
  simp [World.cell?, h]
theorem fr_ {w : World} {g t : Nat} {cs : Array Value} (h : w.heap[g]? = some (.cells cs t (0, 0))) (i : Nat) : w.frozen? ⟨g, i, none⟩ = false := frozen_of_row w g i _ _ h
theorem bk_ {b : Nat} {w0 w : World} {o : Obj} (h : w0.heap[b]? = some o) (hb : Below w0.heap.size w0 w) : w.heap[b]? = some o := (hb.block b (blk_lt h)).trans h
theorem set3_other (w : World) (g k : Nat) (h : k ≠ g) (a b c : Value) : (((w.setCell ⟨g, 0, none⟩ a).setCell ⟨g, 1, none⟩ b).setCell ⟨g, 2, none⟩ c).heap[k]? = w.heap[k]? :=
  (heap_setCell_other _ _ k _ h).trans ((heap_setCell_other _ _ k _ h).trans (heap_setCell_other _ _ k _ h))
def readD (r : Rg) (kind : Int) (f : Fl) (e s t : Int) : Int × Bool :=
  if (keyC r e).2 = false then (0, false)
  else if tagC (keyC r e).1 kind f (Go.bits .xor .i64 s (veilC (keyC r e).1 kind f e)) e = t then (Go.bits .xor .i64 s (veilC (keyC r e).1 kind f e), true) else (0, false)
def readC (r : Rg) (kind : Int) (f : Fl) (c : Int) : Int × Bool :=
  if kind = 2 then (if c < 0 ∨ 65536 ≤ c then (0, false) else readD r kind f (c / 16384) (Go.bits .and .i64 (c / 256) 63) (Go.bits .and .i64 c 255))
  else (if c < 0 ∨ 1048576 ≤ c then (0, false) else readD r kind f (c / 262144) (Go.bits .and .i64 (c / 4096) 63) (Go.bits .and .i64 c 4095))
set_option maxHeartbeats 4000000 in
set_option maxRecDepth 100000 in
theorem read_2 (r : Rg) (kind : Int) (hk : kind = 2) (f : Fl) (c : Int) (h0 : 0 ≤ c) (h1 : c < 65536) (w : World) :
    Calls Try.prog 24 #[.agg #[.int .i64 r.ep, .int .u64 r.k0.a, .int .u64 r.k0.b, .int .u64 r.k1.a, .int .u64 r.k1.b, .int .u64 r.k2.a, .int .u64 r.k2.b], .int .i64 kind, .agg #[.int .i64 f.ad, .int .i64 f.po, .int .i64 f.tad, .int .i64 f.tpo], .int .i64 c] w fun e' w' => e' = .returned (.tuple #[.int .i64 (readD r kind f (c / 16384) (Go.bits .and .i64 (c / 256) 63) (Go.bits .and .i64 c 255)).1, .bool (readD r kind f (c / 16384) (Go.bits .and .i64 (c / 256) 63) (Go.bits .and .i64 c 255)).2]) ∧ Below w.heap.size w w' := by
  have hT := (show tagB kind = 8 from by unfold tagB; rw [if_pos hk])
  have HT := Aside0.mk (fun W => hT ▸ tagB_calls kind W)
  clear hT hk
  have hw1 : wrap64 14 = 14 := wid (by decide) (by decide)
  have hw2 : wrap64 256 = 256 := wid (by decide) (by decide)
  have hw3 : wrap64 255 = 255 := wid (by decide) (by decide)
  have hd0 : decide (c < 0) = false := decide_eq_false (by omega)
  have hd1 : decide (65536 ≤ c) = false := decide_eq_false (by omega)
  obtain ⟨R, hR⟩ : ∃ R, readD r kind f (c / 16384) (Go.bits .and .i64 (c / 256) 63) (Go.bits .and .i64 c 255) = R := ⟨_, rfl⟩
  rw [hR]
  have HRD := Aside0.mk hR
  clear hR
  obtain ⟨ep, ⟨a0, b0⟩, ⟨a1, b1⟩, ⟨a2, b2⟩⟩ := r
  obtain ⟨f0, f1, f2, f3⟩ := f
  obtain ⟨g, HG⟩ : ∃ g, w.heap.size = g := ⟨_, rfl⟩
  go_enter Try.func24, Try.ntmps24
  go_upto_region 1 with fail
  refine wp_w (fun W => W.heap[g]? = some (.cells #[.int .i64 ep, .int .u64 a0, .int .u64 b0, .int .u64 a1, .int .u64 b1, .int .u64 a2, .int .u64 b2] 32 (0, 0)) ∧ W.heap[g + 1]? = some (.cells #[.int .i64 f0, .int .i64 f1, .int .i64 f2, .int .i64 f3] 60 (0, 0)) ∧ Below w.heap.size w W ∧ W.heap.size = g + 2) ?_ ?_
  · exact two_boxes w HG _ _
  intro w1 h1
  have HK1 := Aside0.mk h1.1
  have HF1 := Aside0.mk h1.2.1
  have HB1 := Aside0.mk h1.2.2.1
  have hs1 := h1.2.2.2
  clear h1
  go_upto_region 4 with (first | (go_at_call 62; (with_reducible refine (HT.out _).mono ?_); rintro e1 x1 ⟨rfl, ⟨⟨nq, rfl⟩⟩⟩))
  have hsx : (w1.drewN nq).heap.size = g + 2 := hs1
  refine start_ (n := 16) (S := fun w' => True) (ds := []) #[fF,fF,fF,fF,fF,fF,fF,fF,fF,fF,fF,fF,fF,fF,fF,fF] (by kernel_rfl) rfl rfl trivial (fun hHeld => ?_)
  refine pure_ (i := 0) (N := some 27) (v := ?_) (a' := ?_) #[tT,fF,fF,fF,fF,fF,fF,fF,fF,fF,fF,fF,fF,fF,fF,fF] rfl rfl (by kernel_rfl) (fun _ _ _ h => h) (Or.inl ⟨by rfl, ?_⟩) ?_ ?_
  rotate_left; · intro w'; go_simp; with_reducible rfl
  rotate_left; · simp only [Act.put, q_a, q_0, q_s, i64_w, i32_w]; rfl
  refine pure_ (i := 1) (N := some 28) (v := ?_) (a' := ?_) #[tT,tT,fF,fF,fF,fF,fF,fF,fF,fF,fF,fF,fF,fF,fF,fF] rfl rfl (by kernel_rfl) (fun _ _ _ h => h) (Or.inl ⟨by rfl, ?_⟩) ?_ ?_
  rotate_left; · intro w'; go_simp; with_reducible rfl
  rotate_left; · simp only [Act.put, q_a, q_0, q_s, i64_w, i32_w]; rfl
  refine pure_ (i := 2) (N := some 29) (v := ?_) (a' := ?_) #[tT,tT,tT,fF,fF,fF,fF,fF,fF,fF,fF,fF,fF,fF,fF,fF] rfl rfl (by kernel_rfl) (fun _ _ _ h => h) (Or.inl ⟨by rfl, ?_⟩) ?_ ?_
  rotate_left; · intro w'; go_simp; with_reducible rfl
  rotate_left; · simp only [Act.put, q_a, q_0, q_s, i64_w, i32_w]; rfl
  refine pure_ (i := 3) (N := some 30) (v := ?_) (a' := ?_) #[tT,tT,tT,tT,fF,fF,fF,fF,fF,fF,fF,fF,fF,fF,fF,fF] rfl rfl (by kernel_rfl) (fun _ _ _ h => h) (Or.inl ⟨by rfl, ?_⟩) ?_ ?_
  rotate_left; · intro w'; go_simp; with_reducible rfl
  rotate_left; · simp only [Act.put, q_a, q_0, q_s, i64_w, i32_w]; rfl
  refine pure_ (i := 4) (N := some 31) (v := ?_) (a' := ?_) #[tT,tT,tT,tT,tT,fF,fF,fF,fF,fF,fF,fF,fF,fF,fF,fF] rfl rfl (by kernel_rfl) (fun _ _ _ h => h) (Or.inl ⟨by rfl, ?_⟩) ?_ ?_
  rotate_left; · intro w'; go_simp; with_reducible rfl
  rotate_left; · simp only [Act.put, q_a, q_0, q_s, i64_w, i32_w]; rfl
  refine pure_ (i := 5) (N := some 32) (v := ?_) (a' := ?_) #[tT,tT,tT,tT,tT,tT,fF,fF,fF,fF,fF,fF,fF,fF,fF,fF] rfl rfl (by kernel_rfl) (fun _ _ _ h => h) (Or.inl ⟨by rfl, ?_⟩) ?_ ?_
  rotate_left; · intro w'; go_simp; with_reducible rfl
  rotate_left; · simp only [Act.put, q_a, q_0, q_s, i64_w, i32_w]; rfl
  refine pure_ (i := 6) (N := some 33) (v := ?_) (a' := ?_) #[tT,tT,tT,tT,tT,tT,tT,fF,fF,fF,fF,fF,fF,fF,fF,fF] rfl rfl (by kernel_rfl) (fun _ _ _ h => h) (Or.inl ⟨by rfl, ?_⟩) ?_ ?_
  rotate_left; · intro w'; go_simp; with_reducible rfl
  rotate_left; · simp only [Act.put, q_a, q_0, q_s, i64_w, i32_w]; rfl
  refine pure_ (i := 7) (N := some 34) (v := ?_) (a' := ?_) #[tT,tT,tT,tT,tT,tT,tT,tT,fF,fF,fF,fF,fF,fF,fF,fF] rfl rfl (by kernel_rfl) (fun _ _ _ h => h) (Or.inl ⟨by rfl, ?_⟩) ?_ ?_
  rotate_left; · intro w'; go_simp; with_reducible rfl
  rotate_left; · simp only [Act.put, q_a, q_0, q_s, i64_w, i32_w]; rfl
  refine pure_ (i := 8) (N := some 35) (v := ?_) (a' := ?_) #[tT,tT,tT,tT,tT,tT,tT,tT,tT,fF,fF,fF,fF,fF,fF,fF] rfl rfl (by kernel_rfl) (fun _ _ _ h => h) (Or.inl ⟨by rfl, ?_⟩) ?_ ?_
  rotate_left; · intro w'; go_simp; with_reducible rfl
  rotate_left; · simp only [Act.put, q_a, q_0, q_s, i64_w, i32_w]; rfl
  refine pure_ (i := 9) (N := some 36) (v := ?_) (a' := ?_) #[tT,tT,tT,tT,tT,tT,tT,tT,tT,tT,fF,fF,fF,fF,fF,fF] rfl rfl (by kernel_rfl) (fun _ _ _ h => h) (Or.inl ⟨by rfl, ?_⟩) ?_ ?_
  rotate_left; · intro w'; go_simp; with_reducible rfl
  rotate_left; · simp only [Act.put, q_a, q_0, q_s, i64_w, i32_w]; rfl
  refine pure_ (i := 10) (N := some 37) (v := ?_) (a' := ?_) #[tT,tT,tT,tT,tT,tT,tT,tT,tT,tT,tT,fF,fF,fF,fF,fF] rfl rfl (by kernel_rfl) (fun _ _ _ h => h) (Or.inl ⟨by rfl, ?_⟩) ?_ ?_
  rotate_left; · intro w'; go_simp; with_reducible rfl
  rotate_left; · simp only [Act.put, q_a, q_0, q_s, i64_w, i32_w]; rfl
  refine pure_ (i := 11) (N := some 38) (v := ?_) (a' := ?_) #[tT,tT,tT,tT,tT,tT,tT,tT,tT,tT,tT,tT,fF,fF,fF,fF] rfl rfl (by kernel_rfl) (fun _ _ _ h => h) (Or.inl ⟨by rfl, ?_⟩) ?_ ?_
  rotate_left; · intro w'; go_simp; with_reducible rfl
  rotate_left; · simp only [Act.put, q_a, q_0, q_s, i64_w, i32_w]; rfl
  refine pure_ (i := 12) (N := some 39) (v := ?_) (a' := ?_) #[tT,tT,tT,tT,tT,tT,tT,tT,tT,tT,tT,tT,tT,fF,fF,fF] rfl rfl (by kernel_rfl) (fun _ _ _ h => h) (Or.inl ⟨by rfl, ?_⟩) ?_ ?_
  rotate_left; · intro w'; go_simp; with_reducible rfl
  rotate_left; · simp only [Act.put, q_a, q_0, q_s, i64_w, i32_w]; rfl
  refine pure_ (i := 13) (N := some 40) (v := ?_) (a' := ?_) #[tT,tT,tT,tT,tT,tT,tT,tT,tT,tT,tT,tT,tT,tT,fF,fF] rfl rfl (by kernel_rfl) (fun _ _ _ h => h) (Or.inl ⟨by rfl, ?_⟩) ?_ ?_
  rotate_left; · intro w'; go_simp; with_reducible rfl
  rotate_left; · simp only [Act.put, q_a, q_0, q_s, i64_w, i32_w]; rfl
  refine one_ (i := 14) (N := some 11) #[tT,tT,tT,tT,tT,tT,tT,tT,tT,tT,tT,tT,tT,tT,tT,fF] rfl rfl (by kernel_rfl) (by decide) (fun K hK => ?_)
  refine value_ (w1 := ?_) (v := ?_) (by rfl) rfl ?_ ?_
  rotate_left 2
  · go_simp
    constructor
    · rfl
    · rfl
  refine hK.out _ _ trivial (fun hHeld => ?_)
  clear hK K
  refine norm_ (a' := ?_) ?_ ?_
  rotate_left
  · show Act.put _ (some 11) _ = _
    simp only [Act.put, q_a, q_0, q_s, i64_w, i32_w]
    rfl
  refine one_ (i := 15) (N := none) #[tT,tT,tT,tT,tT,tT,tT,tT,tT,tT,tT,tT,tT,tT,tT,tT] rfl rfl (by kernel_rfl) (by decide) (fun K hK => ?_)
  refine skip_ (w1 := ?_) (by rfl) rfl ?_ ?_
  rotate_left
  · go_simp
    rfl
  refine hK.out _ _ trivial (fun hHeld => ?_)
  clear hK K
  refine done_ (by kernel_rfl) ?_
  go_upto_region 5 with fail
  generalize hee : c / 16384 = e at HRD ⊢
  generalize hss : Go.bits .and .i64 (c / 256) 63 = s at HRD ⊢
  generalize htt : Go.bits .and .i64 c 255 = t at HRD ⊢
  refine wp_w (fun W => W.heap[g]? = some (.cells #[.int .i64 ep, .int .u64 a0, .int .u64 b0, .int .u64 a1, .int .u64 b1, .int .u64 a2, .int .u64 b2] 32 (0, 0)) ∧ W.heap[g + 1]? = some (.cells #[.int .i64 f0, .int .i64 f1, .int .i64 f2, .int .i64 f3] 60 (0, 0)) ∧ W.heap[g + 2]? = some (.cells #[.int .i64 e, .int .i64 s, .int .i64 t] 122 (0, 0)) ∧ Below w.heap.size w W) ?_ ?_
  · exact ⟨blk_al HK1.out _, blk_al HF1.out _, by rw [← hsx]; exact new_blk (w1.drewN nq) _, below_alloc (bd HB1.out _) _⟩
  intro w2 h2
  have HF2 := Aside0.mk h2.2.1
  have HS2 := Aside0.mk h2.2.2.1
  have HB2 := Aside0.mk h2.2.2.2
  obtain ⟨q0, q1, q2, q3, q4, q5, q6⟩ := c7 h2.1
  obtain ⟨p0, p1, p2⟩ := c3 h2.2.2.1
  clear h2 hs1 hsx hd0 hd1 hw1 hw2 hw3 hee hss htt
  obtain ⟨⟨⟨ka, kb⟩, is⟩, hkk⟩ : ∃ k, keyC ⟨ep, ⟨a0, b0⟩, ⟨a1, b1⟩, ⟨a2, b2⟩⟩ e = k := ⟨_, rfl⟩
  have HKC := Aside0.mk (fun W => hkk ▸ key_calls ⟨ep, ⟨a0, b0⟩, ⟨a1, b1⟩, ⟨a2, b2⟩⟩ e W)
  have HKK := Aside0.mk hkk
  clear hkk
  go_upto_region 6 with (first | (go_at_call 63; (with_reducible refine (HKC.out _).mono ?_); rintro e1 x1 ⟨rfl, hx⟩; have HX1 := Aside0.mk hx; clear hx; obtain ⟨gq, hgq⟩ : ∃ n, x1.heap.size = n := ⟨_, rfl⟩))
  refine wp_w (fun W => W.heap[gq]? = some (.cells #[.int .u64 ka, .int .u64 kb] 30 (0, 0)) ∧ W.heap[g + 1]? = some (.cells #[.int .i64 f0, .int .i64 f1, .int .i64 f2, .int .i64 f3] 60 (0, 0)) ∧ W.heap[g + 2]? = some (.cells #[.int .i64 e, .int .i64 s, .int .i64 t] 122 (0, 0)) ∧ Below w.heap.size w W) ?_ ?_
  · exact ⟨by rw [← hgq]; exact new_blk x1 _, blk_al (bk_ HF2.out HX1.out) _, blk_al (bk_ HS2.out HX1.out) _, below_alloc (below_step HB2.out HX1.out) _⟩
  intro w5 h5
  have HG5 := Aside0.mk h5.1
  have HF5 := Aside0.mk h5.2.1
  have HS5 := Aside0.mk h5.2.2.1
  have HB5 := Aside0.mk h5.2.2.2
  clear h5 q0 q1 q2 q3 q4 q5 q6 p0 p1 p2 hgq
  cases is with
  | false =>
    have HE := Aside0.mk (show ((0 : Int), false) = R from by have h1 := HRD.out; rw [readD, if_pos (by rw [HKK.out])] at h1; exact h1)
    go_wp2
    go_ret2
    exact ⟨by rw [← HE.out]; rfl, by first | exact HB5.out | (rw [← HG]; exact HB5.out)⟩
  | true =>
    obtain ⟨v, hv⟩ : ∃ v, veilC ⟨ka, kb⟩ kind ⟨f0, f1, f2, f3⟩ e = v := ⟨_, rfl⟩
    obtain ⟨tg, htg⟩ : ∃ tg, tagC ⟨ka, kb⟩ kind ⟨f0, f1, f2, f3⟩ (Go.bits .xor .i64 s v) e = tg := ⟨_, rfl⟩
    have HV := Aside0.mk (fun W => hv ▸ veil_calls ⟨ka, kb⟩ kind ⟨f0, f1, f2, f3⟩ e W)
    have HTG := Aside0.mk (fun W => htg ▸ tag_calls ⟨ka, kb⟩ kind ⟨f0, f1, f2, f3⟩ (Go.bits .xor .i64 s v) e W)
    have HE := Aside0.mk (show (if tg = t then (Go.bits .xor .i64 s v, true) else (0, false)) = R from by have h1 := HRD.out; rw [readD, if_neg (by rw [HKK.out]; simp), HKK.out] at h1; simp only [hv, htg] at h1; exact h1)
    clear hv htg
    have HCK := Aside0.mk (fun W (h : Below w5.heap.size w5 W) => show W.cell? ⟨g + 2, 0, none⟩ = some (.int .i64 e) ∧ W.cell? ⟨g + 2, 1, none⟩ = some (.int .i64 s) ∧ W.cell? ⟨gq, 0, none⟩ = some (.int .u64 ka) ∧ W.cell? ⟨gq, 1, none⟩ = some (.int .u64 kb) ∧ W.cell? ⟨g + 1, 0, none⟩ = some (.int .i64 f0) ∧ W.cell? ⟨g + 1, 1, none⟩ = some (.int .i64 f1) ∧ W.cell? ⟨g + 1, 2, none⟩ = some (.int .i64 f2) ∧ W.cell? ⟨g + 1, 3, none⟩ = some (.int .i64 f3) from
      ⟨(c3 (bk_ HS5.out h)).1, (c3 (bk_ HS5.out h)).2.1, (c2 (bk_ HG5.out h)).1, (c2 (bk_ HG5.out h)).2, c4 (bk_ HF5.out h)⟩)
    have HQc := Aside0.mk (Below.refl w5.heap.size w5).drew
    go_upto_region 8 with fail
    refine start_ (n := 10) (S := fun w' => w'.cell? ⟨g + 2, 0, none⟩ = some (.int .i64 e) ∧ w'.cell? ⟨g + 2, 1, none⟩ = some (.int .i64 s) ∧ w'.cell? ⟨gq, 0, none⟩ = some (.int .u64 ka) ∧ w'.cell? ⟨gq, 1, none⟩ = some (.int .u64 kb) ∧ w'.cell? ⟨g + 1, 0, none⟩ = some (.int .i64 f0) ∧ w'.cell? ⟨g + 1, 1, none⟩ = some (.int .i64 f1) ∧ w'.cell? ⟨g + 1, 2, none⟩ = some (.int .i64 f2) ∧ w'.cell? ⟨g + 1, 3, none⟩ = some (.int .i64 f3)) (ds := []) #[fF,fF,fF,fF,fF,fF,fF,fF,fF,fF] (by kernel_rfl) rfl rfl ⟨(HCK.out _ HQc.out).1, (HCK.out _ HQc.out).2.1, (HCK.out _ HQc.out).2.2.1, (HCK.out _ HQc.out).2.2.2.1, (HCK.out _ HQc.out).2.2.2.2.1, (HCK.out _ HQc.out).2.2.2.2.2.1, (HCK.out _ HQc.out).2.2.2.2.2.2.1, (HCK.out _ HQc.out).2.2.2.2.2.2.2⟩ (fun hHeld => ?_)
    refine pure_ (i := 0) (N := some 50) (v := ?_) (a' := ?_) #[tT,fF,fF,fF,fF,fF,fF,fF,fF,fF] rfl rfl (by kernel_rfl) (fun _ _ _ h => h) (Or.inl ⟨by rfl, ?_⟩) ?_ ?_
    rotate_left; · intro w'; go_simp; with_reducible rfl
    rotate_left; · simp only [Act.put, q_a, q_0, q_s, i64_w, i32_w]; rfl
    refine pure_ (i := 3) (N := some 53) (v := ?_) (a' := ?_) #[tT,fF,fF,tT,fF,fF,fF,fF,fF,fF] rfl rfl (by kernel_rfl) (fun _ _ _ h => h) (Or.inl ⟨by rfl, ?_⟩) ?_ ?_
    rotate_left; · intro w'; go_simp; with_reducible rfl
    rotate_left; · simp only [Act.put, q_a, q_0, q_s, i64_w, i32_w]; rfl
    refine pure_ (i := 5) (N := some 55) (v := ?_) (a' := ?_) #[tT,fF,fF,tT,fF,tT,fF,fF,fF,fF] rfl rfl (by kernel_rfl) (fun _ _ _ h => h) (Or.inl ⟨by rfl, ?_⟩) ?_ ?_
    rotate_left; · intro w'; go_simp; with_reducible rfl
    rotate_left; · simp only [Act.put, q_a, q_0, q_s, i64_w, i32_w]; rfl
    refine take_ (i := 1) (N := some 51) (v := ?_) (a' := ?_) #[tT,tT,fF,tT,fF,tT,fF,fF,fF,fF] rfl rfl (by kernel_rfl) (fun _ _ _ h => h) (Or.inl ⟨by rfl, ?_⟩) hHeld ?_ ?_
    rotate_left
    · rintro w' ⟨s0, s1, s2, s3, s4, s5, s6, s7⟩
      go_simp
      with_reducible rfl
    rotate_left; · simp only [Act.put, q_a, q_0, q_s, i64_w, i32_w]; rfl
    refine take_ (i := 2) (N := some 52) (v := ?_) (a' := ?_) #[tT,tT,tT,tT,fF,tT,fF,fF,fF,fF] rfl rfl (by kernel_rfl) (fun _ _ _ h => h) (Or.inl ⟨by rfl, ?_⟩) hHeld ?_ ?_
    rotate_left
    · rintro w' ⟨s0, s1, s2, s3, s4, s5, s6, s7⟩
      go_simp
      with_reducible rfl
    rotate_left; · simp only [Act.put, q_a, q_0, q_s, i64_w, i32_w]; rfl
    refine take_ (i := 4) (N := some 54) (v := ?_) (a' := ?_) #[tT,tT,tT,tT,tT,tT,fF,fF,fF,fF] rfl rfl (by kernel_rfl) (fun _ _ _ h => h) (Or.inl ⟨by rfl, ?_⟩) hHeld ?_ ?_
    rotate_left
    · rintro w' ⟨s0, s1, s2, s3, s4, s5, s6, s7⟩
      go_simp
      with_reducible rfl
    rotate_left; · simp only [Act.put, q_a, q_0, q_s, i64_w, i32_w]; rfl
    refine take_ (i := 6) (N := some 56) (v := ?_) (a' := ?_) #[tT,tT,tT,tT,tT,tT,tT,fF,fF,fF] rfl rfl (by kernel_rfl) (fun _ _ _ h => h) (Or.inl ⟨by rfl, ?_⟩) hHeld ?_ ?_
    rotate_left
    · rintro w' ⟨s0, s1, s2, s3, s4, s5, s6, s7⟩
      go_simp
      with_reducible rfl
    rotate_left; · simp only [Act.put, q_a, q_0, q_s, i64_w, i32_w]; rfl
    refine one_ (i := 7) (N := some 57) #[tT,tT,tT,tT,tT,tT,tT,tT,fF,fF] rfl rfl (by kernel_rfl) (by decide) (fun K hK => ?_)
    refine goes_ Try.func57 (by kernel_rfl) rfl #[.agg #[.int .u64 ka, .int .u64 kb], .int .i64 kind, .agg #[.int .i64 f0, .int .i64 f1, .int .i64 f2, .int .i64 f3], .int .i64 e] (by rfl) rfl rfl (by simp only [List.map_toArray, List.map_cons, List.map_nil]; rfl) ?_
    with_reducible refine (HV.out _).mono ?_
    rintro e w3 ⟨rfl, hx⟩
    refine ⟨_, rfl, ?_⟩
    replace HQc := Aside0.mk (below_step HQc.out hx)
    refine hK.out _ _ ⟨(HCK.out _ HQc.out).1, (HCK.out _ HQc.out).2.1, (HCK.out _ HQc.out).2.2.1, (HCK.out _ HQc.out).2.2.2.1, (HCK.out _ HQc.out).2.2.2.2.1, (HCK.out _ HQc.out).2.2.2.2.2.1, (HCK.out _ HQc.out).2.2.2.2.2.2.1, (HCK.out _ HQc.out).2.2.2.2.2.2.2⟩ (fun hHeld => ?_)
    clear hK K
    refine norm_ (a' := ?_) ?_ ?_
    rotate_left
    · show Act.put _ (some 57) _ = _
      simp only [Act.put, q_a, q_0, q_s, i64_w, i32_w]
      rfl
    refine pure_ (i := 8) (N := some 58) (v := ?_) (a' := ?_) #[tT,tT,tT,tT,tT,tT,tT,tT,tT,fF] rfl rfl (by kernel_rfl) (fun _ _ _ h => h) (Or.inl ⟨by rfl, ?_⟩) ?_ ?_
    rotate_left; · intro w'; go_simp; with_reducible rfl
    rotate_left; · simp only [Act.put, q_a, q_0, q_s, i64_w, i32_w]; rfl
    refine pure_ (i := 9) (N := some 14) (v := ?_) (a' := ?_) #[tT,tT,tT,tT,tT,tT,tT,tT,tT,tT] rfl rfl (by kernel_rfl) (fun _ _ _ h => h) (Or.inl ⟨by rfl, ?_⟩) ?_ ?_
    rotate_left; · intro w'; go_simp; with_reducible rfl
    rotate_left; · simp only [Act.put, q_a, q_0, q_s, i64_w, i32_w]; rfl
    refine done_ (by kernel_rfl) ?_
    go_upto_region 9 with fail
    refine wp_w (fun W => Below w5.heap.size w5 W) ?_ ?_
    · exact HQc.out
    intro w6 h6
    clear HQc
    have HB6 := Aside0.mk (below_step HB5.out h6)
    replace HG5 := Aside0.mk (bk_ HG5.out h6)
    replace HF5 := Aside0.mk (bk_ HF5.out h6)
    replace HS5 := Aside0.mk (bk_ HS5.out h6)
    clear h6 HB5 HCK
    have HCK := Aside0.mk (fun W (h : Below w6.heap.size w6 W) => show W.cell? ⟨g + 2, 0, none⟩ = some (.int .i64 e) ∧ W.cell? ⟨g + 2, 1, none⟩ = some (.int .i64 s) ∧ W.cell? ⟨gq, 0, none⟩ = some (.int .u64 ka) ∧ W.cell? ⟨gq, 1, none⟩ = some (.int .u64 kb) ∧ W.cell? ⟨g + 1, 0, none⟩ = some (.int .i64 f0) ∧ W.cell? ⟨g + 1, 1, none⟩ = some (.int .i64 f1) ∧ W.cell? ⟨g + 1, 2, none⟩ = some (.int .i64 f2) ∧ W.cell? ⟨g + 1, 3, none⟩ = some (.int .i64 f3) from
      ⟨(c3 (bk_ HS5.out h)).1, (c3 (bk_ HS5.out h)).2.1, (c2 (bk_ HG5.out h)).1, (c2 (bk_ HG5.out h)).2, c4 (bk_ HF5.out h)⟩)
    have HQc := Aside0.mk (Below.refl w6.heap.size w6).drew
    refine start_ (n := 14) (S := fun w' => w'.cell? ⟨g + 2, 0, none⟩ = some (.int .i64 e) ∧ w'.cell? ⟨g + 2, 1, none⟩ = some (.int .i64 s) ∧ w'.cell? ⟨gq, 0, none⟩ = some (.int .u64 ka) ∧ w'.cell? ⟨gq, 1, none⟩ = some (.int .u64 kb) ∧ w'.cell? ⟨g + 1, 0, none⟩ = some (.int .i64 f0) ∧ w'.cell? ⟨g + 1, 1, none⟩ = some (.int .i64 f1) ∧ w'.cell? ⟨g + 1, 2, none⟩ = some (.int .i64 f2) ∧ w'.cell? ⟨g + 1, 3, none⟩ = some (.int .i64 f3)) (ds := [13]) #[fF,fF,fF,fF,fF,fF,fF,fF,fF,fF,fF,fF,fF,fF] (by kernel_rfl) rfl rfl ⟨(HCK.out _ HQc.out).1, (HCK.out _ HQc.out).2.1, (HCK.out _ HQc.out).2.2.1, (HCK.out _ HQc.out).2.2.2.1, (HCK.out _ HQc.out).2.2.2.2.1, (HCK.out _ HQc.out).2.2.2.2.2.1, (HCK.out _ HQc.out).2.2.2.2.2.2.1, (HCK.out _ HQc.out).2.2.2.2.2.2.2⟩ (fun hHeld => ?_)
    refine pure_ (i := 0) (N := some 59) (v := ?_) (a' := ?_) #[tT,fF,fF,fF,fF,fF,fF,fF,fF,fF,fF,fF,fF,fF] rfl rfl (by kernel_rfl) (fun _ _ _ h => h) (Or.inl ⟨by rfl, ?_⟩) ?_ ?_
    rotate_left; · intro w'; go_simp; with_reducible rfl
    rotate_left; · simp only [Act.put, q_a, q_0, q_s, i64_w, i32_w]; rfl
    refine pure_ (i := 2) (N := some 61) (v := ?_) (a' := ?_) #[tT,fF,tT,fF,fF,fF,fF,fF,fF,fF,fF,fF,fF,fF] rfl rfl (by kernel_rfl) (fun _ _ _ h => h) (Or.inl ⟨by rfl, ?_⟩) ?_ ?_
    rotate_left; · intro w'; go_simp; with_reducible rfl
    rotate_left; · simp only [Act.put, q_a, q_0, q_s, i64_w, i32_w]; rfl
    refine pure_ (i := 5) (N := some 64) (v := ?_) (a' := ?_) #[tT,fF,tT,fF,fF,tT,fF,fF,fF,fF,fF,fF,fF,fF] rfl rfl (by kernel_rfl) (fun _ _ _ h => h) (Or.inl ⟨by rfl, ?_⟩) ?_ ?_
    rotate_left; · intro w'; go_simp; with_reducible rfl
    rotate_left; · simp only [Act.put, q_a, q_0, q_s, i64_w, i32_w]; rfl
    refine pure_ (i := 7) (N := some 66) (v := ?_) (a' := ?_) #[tT,fF,tT,fF,fF,tT,fF,tT,fF,fF,fF,fF,fF,fF] rfl rfl (by kernel_rfl) (fun _ _ _ h => h) (Or.inl ⟨by rfl, ?_⟩) ?_ ?_
    rotate_left; · intro w'; go_simp; with_reducible rfl
    rotate_left; · simp only [Act.put, q_a, q_0, q_s, i64_w, i32_w]; rfl
    refine pure_ (i := 8) (N := some 67) (v := ?_) (a' := ?_) #[tT,fF,tT,fF,fF,tT,fF,tT,tT,fF,fF,fF,fF,fF] rfl rfl (by kernel_rfl) (fun _ _ _ h => h) (Or.inl ⟨by rfl, ?_⟩) ?_ ?_
    rotate_left; · intro w'; go_simp; with_reducible rfl
    rotate_left; · simp only [Act.put, q_a, q_0, q_s, i64_w, i32_w]; rfl
    refine take_ (i := 1) (N := some 60) (v := ?_) (a' := ?_) #[tT,tT,tT,fF,fF,tT,fF,tT,tT,fF,fF,fF,fF,fF] rfl rfl (by kernel_rfl) (fun _ _ _ h => h) (Or.inl ⟨by rfl, ?_⟩) hHeld ?_ ?_
    rotate_left
    · rintro w' ⟨s0, s1, s2, s3, s4, s5, s6, s7⟩
      go_simp
      with_reducible rfl
    rotate_left; · simp only [Act.put, q_a, q_0, q_s, i64_w, i32_w]; rfl
    refine take_ (i := 3) (N := some 62) (v := ?_) (a' := ?_) #[tT,tT,tT,tT,fF,tT,fF,tT,tT,fF,fF,fF,fF,fF] rfl rfl (by kernel_rfl) (fun _ _ _ h => h) (Or.inl ⟨by rfl, ?_⟩) hHeld ?_ ?_
    rotate_left
    · rintro w' ⟨s0, s1, s2, s3, s4, s5, s6, s7⟩
      go_simp
      with_reducible rfl
    rotate_left; · simp only [Act.put, q_a, q_0, q_s, i64_w, i32_w]; rfl
    refine take_ (i := 4) (N := some 63) (v := ?_) (a' := ?_) #[tT,tT,tT,tT,tT,tT,fF,tT,tT,fF,fF,fF,fF,fF] rfl rfl (by kernel_rfl) (fun _ _ _ h => h) (Or.inl ⟨by rfl, ?_⟩) hHeld ?_ ?_
    rotate_left
    · rintro w' ⟨s0, s1, s2, s3, s4, s5, s6, s7⟩
      go_simp
      with_reducible rfl
    rotate_left; · simp only [Act.put, q_a, q_0, q_s, i64_w, i32_w]; rfl
    refine take_ (i := 6) (N := some 65) (v := ?_) (a' := ?_) #[tT,tT,tT,tT,tT,tT,tT,tT,tT,fF,fF,fF,fF,fF] rfl rfl (by kernel_rfl) (fun _ _ _ h => h) (Or.inl ⟨by rfl, ?_⟩) hHeld ?_ ?_
    rotate_left
    · rintro w' ⟨s0, s1, s2, s3, s4, s5, s6, s7⟩
      go_simp
      with_reducible rfl
    rotate_left; · simp only [Act.put, q_a, q_0, q_s, i64_w, i32_w]; rfl
    refine take_ (i := 9) (N := some 68) (v := ?_) (a' := ?_) #[tT,tT,tT,tT,tT,tT,tT,tT,tT,tT,fF,fF,fF,fF] rfl rfl (by kernel_rfl) (fun _ _ _ h => h) (Or.inl ⟨by rfl, ?_⟩) hHeld ?_ ?_
    rotate_left
    · rintro w' ⟨s0, s1, s2, s3, s4, s5, s6, s7⟩
      go_simp
      with_reducible rfl
    rotate_left; · simp only [Act.put, q_a, q_0, q_s, i64_w, i32_w]; rfl
    refine join_ (σ := Nat) 1 #[tT,tT,tT,tT,tT,tT,tT,tT,tT,tT,tT,tT,tT,fF] (fun b => [(69, .int .i64 tg), (70, .agg #[.int .i64 e, .int .i64 s, .int .i64 tg]), (15, .pointer (some ⟨b, 0, none⟩))]) (fun b w' => w'.heap[b]? = some (.cells #[.int .i64 0, .int .i64 0, .int .i64 0] 122 (0, 0)) ∧ w6.heap.size ≤ b ∧ Below w6.heap.size w6 w') ?_ ?_
    rotate_left
    · intro hCont
      refine two_ (i := 10) (j := 12) (Ni := some 69) (Nj := some 15) #[tT,tT,tT,tT,tT,tT,tT,tT,tT,tT,tT,fF,fF,fF] #[tT,tT,tT,tT,tT,tT,tT,tT,tT,tT,fF,fF,tT,fF] rfl rfl rfl rfl (by kernel_rfl) (by decide) (by decide) (fun K hK => ?_) (fun K hK => ?_)
      · skip
        refine goes_ Try.func58 (by kernel_rfl) rfl #[.agg #[.int .u64 ka, .int .u64 kb], .int .i64 kind, .agg #[.int .i64 f0, .int .i64 f1, .int .i64 f2, .int .i64 f3], .int .i64 (Go.bits .xor .i64 s v), .int .i64 e] (by rfl) rfl rfl (by simp only [List.map_toArray, List.map_cons, List.map_nil]; rfl) ?_
        with_reducible refine (HTG.out _).mono ?_
        rintro e w3 ⟨rfl, hx⟩
        refine ⟨_, rfl, ?_⟩
        replace HQc := Aside0.mk (below_step HQc.out hx)
        refine hK.out _ _ ⟨(HCK.out _ HQc.out).1, (HCK.out _ HQc.out).2.1, (HCK.out _ HQc.out).2.2.1, (HCK.out _ HQc.out).2.2.2.1, (HCK.out _ HQc.out).2.2.2.2.1, (HCK.out _ HQc.out).2.2.2.2.2.1, (HCK.out _ HQc.out).2.2.2.2.2.2.1, (HCK.out _ HQc.out).2.2.2.2.2.2.2⟩ (fun hHeld => ?_)
        clear hK K
        refine norm_ (a' := ?_) ?_ ?_
        rotate_left
        · show Act.put _ (some 69) _ = _
          simp only [Act.put, q_a, q_0, q_s, i64_w, i32_w]
          rfl
        refine pure_ (i := 11) (N := some 70) (v := ?_) (a' := ?_) #[tT,tT,tT,tT,tT,tT,tT,tT,tT,tT,tT,tT,fF,fF] rfl rfl (by kernel_rfl) (fun _ _ _ h => h) (Or.inl ⟨by rfl, ?_⟩) ?_ ?_
        rotate_left; · intro w'; go_simp; with_reducible rfl
        rotate_left; · simp only [Act.put, q_a, q_0, q_s, i64_w, i32_w]; rfl
        refine one_ (i := 12) (N := some 15) #[tT,tT,tT,tT,tT,tT,tT,tT,tT,tT,tT,tT,tT,fF] rfl rfl (by kernel_rfl) (by decide) (fun K hK => ?_)
        refine value_ (w1 := ?_) (v := ?_) (by rfl) rfl ?_ ?_
        rotate_left 2
        · go_simp
          constructor
          · rfl
          · rfl
        have HAL := Aside0.mk (new_blk w3 (.cells #[.int .i64 0, .int .i64 0, .int .i64 0] 122))
        have HLE := Aside0.mk (HQc.out.size)
        replace HQc := Aside0.mk (below_alloc HQc.out (.cells #[.int .i64 0, .int .i64 0, .int .i64 0] 122))
        refine hK.out _ _ ⟨(HCK.out _ HQc.out).1, (HCK.out _ HQc.out).2.1, (HCK.out _ HQc.out).2.2.1, (HCK.out _ HQc.out).2.2.2.1, (HCK.out _ HQc.out).2.2.2.2.1, (HCK.out _ HQc.out).2.2.2.2.2.1, (HCK.out _ HQc.out).2.2.2.2.2.2.1, (HCK.out _ HQc.out).2.2.2.2.2.2.2⟩ (fun hHeld => ?_)
        clear hK K
        refine norm_ (a' := ?_) ?_ ?_
        rotate_left
        · show Act.put _ (some 15) _ = _
          simp only [Act.put, q_a, q_0, q_s, i64_w, i32_w]
          rfl
        exact norm_ (by simp only [putAll, Act.put, q_a, q_0, q_s]) (hCont w3.heap.size _ ⟨HAL.out, HLE.out, HQc.out⟩)
      · skip
        refine value_ (w1 := ?_) (v := ?_) (by rfl) rfl ?_ ?_
        rotate_left 2
        · go_simp
          constructor
          · rfl
          · rfl
        have HAL := Aside0.mk (new_blk w6.drew (.cells #[.int .i64 0, .int .i64 0, .int .i64 0] 122))
        have HLE := Aside0.mk (HQc.out.size)
        replace HQc := Aside0.mk (below_alloc HQc.out (.cells #[.int .i64 0, .int .i64 0, .int .i64 0] 122))
        refine hK.out _ _ ⟨(HCK.out _ HQc.out).1, (HCK.out _ HQc.out).2.1, (HCK.out _ HQc.out).2.2.1, (HCK.out _ HQc.out).2.2.2.1, (HCK.out _ HQc.out).2.2.2.2.1, (HCK.out _ HQc.out).2.2.2.2.2.1, (HCK.out _ HQc.out).2.2.2.2.2.2.1, (HCK.out _ HQc.out).2.2.2.2.2.2.2⟩ (fun hHeld => ?_)
        clear hK K
        refine norm_ (a' := ?_) ?_ ?_
        rotate_left
        · show Act.put _ (some 15) _ = _
          simp only [Act.put, q_a, q_0, q_s, i64_w, i32_w]
          rfl
        refine one_ (i := 10) (N := some 69) #[tT,tT,tT,tT,tT,tT,tT,tT,tT,tT,tT,fF,tT,fF] rfl rfl (by kernel_rfl) (by decide) (fun K hK => ?_)
        refine goes_ Try.func58 (by kernel_rfl) rfl #[.agg #[.int .u64 ka, .int .u64 kb], .int .i64 kind, .agg #[.int .i64 f0, .int .i64 f1, .int .i64 f2, .int .i64 f3], .int .i64 (Go.bits .xor .i64 s v), .int .i64 e] (by rfl) rfl rfl (by simp only [List.map_toArray, List.map_cons, List.map_nil]; rfl) ?_
        with_reducible refine (HTG.out _).mono ?_
        rintro e w3 ⟨rfl, hx⟩
        refine ⟨_, rfl, ?_⟩
        replace HAL := Aside0.mk (bk_ HAL.out hx)
        replace HQc := Aside0.mk (below_step HQc.out hx)
        refine hK.out _ _ ⟨(HCK.out _ HQc.out).1, (HCK.out _ HQc.out).2.1, (HCK.out _ HQc.out).2.2.1, (HCK.out _ HQc.out).2.2.2.1, (HCK.out _ HQc.out).2.2.2.2.1, (HCK.out _ HQc.out).2.2.2.2.2.1, (HCK.out _ HQc.out).2.2.2.2.2.2.1, (HCK.out _ HQc.out).2.2.2.2.2.2.2⟩ (fun hHeld => ?_)
        clear hK K
        refine norm_ (a' := ?_) ?_ ?_
        rotate_left
        · show Act.put _ (some 69) _ = _
          simp only [Act.put, q_a, q_0, q_s, i64_w, i32_w]
          rfl
        refine pure_ (i := 11) (N := some 70) (v := ?_) (a' := ?_) #[tT,tT,tT,tT,tT,tT,tT,tT,tT,tT,tT,tT,tT,fF] rfl rfl (by kernel_rfl) (fun _ _ _ h => h) (Or.inl ⟨by rfl, ?_⟩) ?_ ?_
        rotate_left; · intro w'; go_simp; with_reducible rfl
        rotate_left; · simp only [Act.put, q_a, q_0, q_s, i64_w, i32_w]; rfl
        exact norm_ (by simp only [putAll, Act.put, q_a, q_0, q_s]) (hCont w6.heap.size _ ⟨HAL.out, HLE.out, HQc.out⟩)
    rintro gb w4 ⟨hal, hle, hq⟩
    clear HQc
    have HQc := Aside0.mk hq
    have HAL := Aside0.mk hal
    have HLE := Aside0.mk hle
    obtain ⟨T0, T1, T2⟩ := c3 hal
    have U0 := fr_ hal 0
    have U1 := fr_ hal 1
    have U2 := fr_ hal 2
    clear hq hal hle
    have hHeld := HCK.out _ HQc.out
    refine norm_ (a' := ?_) ?_ ?_
    rotate_left; · simp only [putAll, Act.put, q_a, q_0, q_s]; rfl
    refine last_ (i := 13) (N := none) #[tT,tT,tT,tT,tT,tT,tT,tT,tT,tT,tT,tT,tT,tT] rfl rfl (by kernel_rfl) (by decide) (fun K hK => ?_)
    refine skip_ (w1 := ?_) (by rfl) rfl ?_ ?_
    rotate_left
    · go_simp
      rfl
    refine hK.out _ _ ?_
    clear hK K
    refine done_ (by kernel_rfl) ?_
    refine ex_w (fun W => W.heap[gb]? = some (.cells #[.int .i64 e, .int .i64 s, .int .i64 tg] 122 (0, 0)) ∧ W.heap[g + 2]? = some (.cells #[.int .i64 e, .int .i64 s, .int .i64 t] 122 (0, 0)) ∧ Below w.heap.size w W) ?_ ?_
    · have n0 : g + 2 ≠ gb := by have := blk_lt HS5.out; have := HLE.out; omega
      refine ⟨blk_drew (heap_setCell_same _ gb 2 _ 122 _ (heap_setCell_same _ gb 1 _ 122 _ (heap_setCell_same _ gb 0 _ 122 _ HAL.out))), ?_, ?_⟩
      · exact (set3_other w4 gb (g + 2) n0 _ _ _).trans (bk_ HS5.out HQc.out)
      · first | exact (below_set (below_set (below_set (below_step HB6.out HQc.out) (by have := HLE.out; have := HB6.out.size; omega)) (by have := HLE.out; have := HB6.out.size; omega)) (by have := HLE.out; have := HB6.out.size; omega)) | exact (below_set (below_set (below_set (below_step HB6.out HQc.out) (by have := HLE.out; have := HB6.out.size; omega)) (by have := HLE.out; have := HB6.out.size; omega)) (by have := HLE.out; have := HB6.out.size; omega)).drew
    intro w7 h7
    have HB7 := Aside0.mk h7.2.2
    obtain ⟨k0, k1, k2⟩ := c3 h7.1
    obtain ⟨j0, j1, j2⟩ := c3 h7.2.1
    clear h7
    by_cases he : tg = t
    · have hb : (tg == t) = true := beq_iff_eq.mpr he
      have HE2 := Aside0.mk (show (Go.bits .xor .i64 s v, true) = R from by have h1 := HE.out; rw [if_pos he] at h1; exact h1)
      clear he
      go_wp2
      go_ret2
      exact ⟨by rw [← HE2.out]; rfl, by first | exact HB7.out | (rw [← HG]; exact HB7.out)⟩
    · have hb : (tg == t) = false := beq_eq_false_iff_ne.mpr he
      have HE2 := Aside0.mk (show ((0 : Int), false) = R from by have h1 := HE.out; rw [if_neg he] at h1; exact h1)
      clear he
      go_wp2
      go_ret2
      exact ⟨by rw [← HE2.out]; rfl, by first | exact HB7.out | (rw [← HG]; exact HB7.out)⟩
set_option maxHeartbeats 4000000 in
set_option maxRecDepth 100000 in
theorem read_n2 (r : Rg) (kind : Int) (hk : kind ≠ 2) (f : Fl) (c : Int) (h0 : 0 ≤ c) (h1 : c < 1048576) (w : World) :
    Calls Try.prog 24 #[.agg #[.int .i64 r.ep, .int .u64 r.k0.a, .int .u64 r.k0.b, .int .u64 r.k1.a, .int .u64 r.k1.b, .int .u64 r.k2.a, .int .u64 r.k2.b], .int .i64 kind, .agg #[.int .i64 f.ad, .int .i64 f.po, .int .i64 f.tad, .int .i64 f.tpo], .int .i64 c] w fun e' w' => e' = .returned (.tuple #[.int .i64 (readD r kind f (c / 262144) (Go.bits .and .i64 (c / 4096) 63) (Go.bits .and .i64 c 4095)).1, .bool (readD r kind f (c / 262144) (Go.bits .and .i64 (c / 4096) 63) (Go.bits .and .i64 c 4095)).2]) ∧ Below w.heap.size w w' := by
  have hT := (show tagB kind = 12 from by unfold tagB; rw [if_neg hk])
  have HT := Aside0.mk (fun W => hT ▸ tagB_calls kind W)
  clear hT hk
  have hw1 : wrap64 18 = 18 := wid (by decide) (by decide)
  have hw2 : wrap64 4096 = 4096 := wid (by decide) (by decide)
  have hw3 : wrap64 4095 = 4095 := wid (by decide) (by decide)
  have hd0 : decide (c < 0) = false := decide_eq_false (by omega)
  have hd1 : decide (1048576 ≤ c) = false := decide_eq_false (by omega)
  obtain ⟨R, hR⟩ : ∃ R, readD r kind f (c / 262144) (Go.bits .and .i64 (c / 4096) 63) (Go.bits .and .i64 c 4095) = R := ⟨_, rfl⟩
  rw [hR]
  have HRD := Aside0.mk hR
  clear hR
  obtain ⟨ep, ⟨a0, b0⟩, ⟨a1, b1⟩, ⟨a2, b2⟩⟩ := r
  obtain ⟨f0, f1, f2, f3⟩ := f
  obtain ⟨g, HG⟩ : ∃ g, w.heap.size = g := ⟨_, rfl⟩
  go_enter Try.func24, Try.ntmps24
  go_upto_region 1 with fail
  refine wp_w (fun W => W.heap[g]? = some (.cells #[.int .i64 ep, .int .u64 a0, .int .u64 b0, .int .u64 a1, .int .u64 b1, .int .u64 a2, .int .u64 b2] 32 (0, 0)) ∧ W.heap[g + 1]? = some (.cells #[.int .i64 f0, .int .i64 f1, .int .i64 f2, .int .i64 f3] 60 (0, 0)) ∧ Below w.heap.size w W ∧ W.heap.size = g + 2) ?_ ?_
  · exact two_boxes w HG _ _
  intro w1 h1
  have HK1 := Aside0.mk h1.1
  have HF1 := Aside0.mk h1.2.1
  have HB1 := Aside0.mk h1.2.2.1
  have hs1 := h1.2.2.2
  clear h1
  go_upto_region 4 with (first | (go_at_call 62; (with_reducible refine (HT.out _).mono ?_); rintro e1 x1 ⟨rfl, ⟨⟨nq, rfl⟩⟩⟩))
  have hsx : (w1.drewN nq).heap.size = g + 2 := hs1
  refine start_ (n := 16) (S := fun w' => True) (ds := []) #[fF,fF,fF,fF,fF,fF,fF,fF,fF,fF,fF,fF,fF,fF,fF,fF] (by kernel_rfl) rfl rfl trivial (fun hHeld => ?_)
  refine pure_ (i := 0) (N := some 27) (v := ?_) (a' := ?_) #[tT,fF,fF,fF,fF,fF,fF,fF,fF,fF,fF,fF,fF,fF,fF,fF] rfl rfl (by kernel_rfl) (fun _ _ _ h => h) (Or.inl ⟨by rfl, ?_⟩) ?_ ?_
  rotate_left; · intro w'; go_simp; with_reducible rfl
  rotate_left; · simp only [Act.put, q_a, q_0, q_s, i64_w, i32_w]; rfl
  refine pure_ (i := 1) (N := some 28) (v := ?_) (a' := ?_) #[tT,tT,fF,fF,fF,fF,fF,fF,fF,fF,fF,fF,fF,fF,fF,fF] rfl rfl (by kernel_rfl) (fun _ _ _ h => h) (Or.inl ⟨by rfl, ?_⟩) ?_ ?_
  rotate_left; · intro w'; go_simp; with_reducible rfl
  rotate_left; · simp only [Act.put, q_a, q_0, q_s, i64_w, i32_w]; rfl
  refine pure_ (i := 2) (N := some 29) (v := ?_) (a' := ?_) #[tT,tT,tT,fF,fF,fF,fF,fF,fF,fF,fF,fF,fF,fF,fF,fF] rfl rfl (by kernel_rfl) (fun _ _ _ h => h) (Or.inl ⟨by rfl, ?_⟩) ?_ ?_
  rotate_left; · intro w'; go_simp; with_reducible rfl
  rotate_left; · simp only [Act.put, q_a, q_0, q_s, i64_w, i32_w]; rfl
  refine pure_ (i := 3) (N := some 30) (v := ?_) (a' := ?_) #[tT,tT,tT,tT,fF,fF,fF,fF,fF,fF,fF,fF,fF,fF,fF,fF] rfl rfl (by kernel_rfl) (fun _ _ _ h => h) (Or.inl ⟨by rfl, ?_⟩) ?_ ?_
  rotate_left; · intro w'; go_simp; with_reducible rfl
  rotate_left; · simp only [Act.put, q_a, q_0, q_s, i64_w, i32_w]; rfl
  refine pure_ (i := 4) (N := some 31) (v := ?_) (a' := ?_) #[tT,tT,tT,tT,tT,fF,fF,fF,fF,fF,fF,fF,fF,fF,fF,fF] rfl rfl (by kernel_rfl) (fun _ _ _ h => h) (Or.inl ⟨by rfl, ?_⟩) ?_ ?_
  rotate_left; · intro w'; go_simp; with_reducible rfl
  rotate_left; · simp only [Act.put, q_a, q_0, q_s, i64_w, i32_w]; rfl
  refine pure_ (i := 5) (N := some 32) (v := ?_) (a' := ?_) #[tT,tT,tT,tT,tT,tT,fF,fF,fF,fF,fF,fF,fF,fF,fF,fF] rfl rfl (by kernel_rfl) (fun _ _ _ h => h) (Or.inl ⟨by rfl, ?_⟩) ?_ ?_
  rotate_left; · intro w'; go_simp; with_reducible rfl
  rotate_left; · simp only [Act.put, q_a, q_0, q_s, i64_w, i32_w]; rfl
  refine pure_ (i := 6) (N := some 33) (v := ?_) (a' := ?_) #[tT,tT,tT,tT,tT,tT,tT,fF,fF,fF,fF,fF,fF,fF,fF,fF] rfl rfl (by kernel_rfl) (fun _ _ _ h => h) (Or.inl ⟨by rfl, ?_⟩) ?_ ?_
  rotate_left; · intro w'; go_simp; with_reducible rfl
  rotate_left; · simp only [Act.put, q_a, q_0, q_s, i64_w, i32_w]; rfl
  refine pure_ (i := 7) (N := some 34) (v := ?_) (a' := ?_) #[tT,tT,tT,tT,tT,tT,tT,tT,fF,fF,fF,fF,fF,fF,fF,fF] rfl rfl (by kernel_rfl) (fun _ _ _ h => h) (Or.inl ⟨by rfl, ?_⟩) ?_ ?_
  rotate_left; · intro w'; go_simp; with_reducible rfl
  rotate_left; · simp only [Act.put, q_a, q_0, q_s, i64_w, i32_w]; rfl
  refine pure_ (i := 8) (N := some 35) (v := ?_) (a' := ?_) #[tT,tT,tT,tT,tT,tT,tT,tT,tT,fF,fF,fF,fF,fF,fF,fF] rfl rfl (by kernel_rfl) (fun _ _ _ h => h) (Or.inl ⟨by rfl, ?_⟩) ?_ ?_
  rotate_left; · intro w'; go_simp; with_reducible rfl
  rotate_left; · simp only [Act.put, q_a, q_0, q_s, i64_w, i32_w]; rfl
  refine pure_ (i := 9) (N := some 36) (v := ?_) (a' := ?_) #[tT,tT,tT,tT,tT,tT,tT,tT,tT,tT,fF,fF,fF,fF,fF,fF] rfl rfl (by kernel_rfl) (fun _ _ _ h => h) (Or.inl ⟨by rfl, ?_⟩) ?_ ?_
  rotate_left; · intro w'; go_simp; with_reducible rfl
  rotate_left; · simp only [Act.put, q_a, q_0, q_s, i64_w, i32_w]; rfl
  refine pure_ (i := 10) (N := some 37) (v := ?_) (a' := ?_) #[tT,tT,tT,tT,tT,tT,tT,tT,tT,tT,tT,fF,fF,fF,fF,fF] rfl rfl (by kernel_rfl) (fun _ _ _ h => h) (Or.inl ⟨by rfl, ?_⟩) ?_ ?_
  rotate_left; · intro w'; go_simp; with_reducible rfl
  rotate_left; · simp only [Act.put, q_a, q_0, q_s, i64_w, i32_w]; rfl
  refine pure_ (i := 11) (N := some 38) (v := ?_) (a' := ?_) #[tT,tT,tT,tT,tT,tT,tT,tT,tT,tT,tT,tT,fF,fF,fF,fF] rfl rfl (by kernel_rfl) (fun _ _ _ h => h) (Or.inl ⟨by rfl, ?_⟩) ?_ ?_
  rotate_left; · intro w'; go_simp; with_reducible rfl
  rotate_left; · simp only [Act.put, q_a, q_0, q_s, i64_w, i32_w]; rfl
  refine pure_ (i := 12) (N := some 39) (v := ?_) (a' := ?_) #[tT,tT,tT,tT,tT,tT,tT,tT,tT,tT,tT,tT,tT,fF,fF,fF] rfl rfl (by kernel_rfl) (fun _ _ _ h => h) (Or.inl ⟨by rfl, ?_⟩) ?_ ?_
  rotate_left; · intro w'; go_simp; with_reducible rfl
  rotate_left; · simp only [Act.put, q_a, q_0, q_s, i64_w, i32_w]; rfl
  refine pure_ (i := 13) (N := some 40) (v := ?_) (a' := ?_) #[tT,tT,tT,tT,tT,tT,tT,tT,tT,tT,tT,tT,tT,tT,fF,fF] rfl rfl (by kernel_rfl) (fun _ _ _ h => h) (Or.inl ⟨by rfl, ?_⟩) ?_ ?_
  rotate_left; · intro w'; go_simp; with_reducible rfl
  rotate_left; · simp only [Act.put, q_a, q_0, q_s, i64_w, i32_w]; rfl
  refine one_ (i := 14) (N := some 11) #[tT,tT,tT,tT,tT,tT,tT,tT,tT,tT,tT,tT,tT,tT,tT,fF] rfl rfl (by kernel_rfl) (by decide) (fun K hK => ?_)
  refine value_ (w1 := ?_) (v := ?_) (by rfl) rfl ?_ ?_
  rotate_left 2
  · go_simp
    constructor
    · rfl
    · rfl
  refine hK.out _ _ trivial (fun hHeld => ?_)
  clear hK K
  refine norm_ (a' := ?_) ?_ ?_
  rotate_left
  · show Act.put _ (some 11) _ = _
    simp only [Act.put, q_a, q_0, q_s, i64_w, i32_w]
    rfl
  refine one_ (i := 15) (N := none) #[tT,tT,tT,tT,tT,tT,tT,tT,tT,tT,tT,tT,tT,tT,tT,tT] rfl rfl (by kernel_rfl) (by decide) (fun K hK => ?_)
  refine skip_ (w1 := ?_) (by rfl) rfl ?_ ?_
  rotate_left
  · go_simp
    rfl
  refine hK.out _ _ trivial (fun hHeld => ?_)
  clear hK K
  refine done_ (by kernel_rfl) ?_
  go_upto_region 5 with fail
  generalize hee : c / 262144 = e at HRD ⊢
  generalize hss : Go.bits .and .i64 (c / 4096) 63 = s at HRD ⊢
  generalize htt : Go.bits .and .i64 c 4095 = t at HRD ⊢
  refine wp_w (fun W => W.heap[g]? = some (.cells #[.int .i64 ep, .int .u64 a0, .int .u64 b0, .int .u64 a1, .int .u64 b1, .int .u64 a2, .int .u64 b2] 32 (0, 0)) ∧ W.heap[g + 1]? = some (.cells #[.int .i64 f0, .int .i64 f1, .int .i64 f2, .int .i64 f3] 60 (0, 0)) ∧ W.heap[g + 2]? = some (.cells #[.int .i64 e, .int .i64 s, .int .i64 t] 122 (0, 0)) ∧ Below w.heap.size w W) ?_ ?_
  · exact ⟨blk_al HK1.out _, blk_al HF1.out _, by rw [← hsx]; exact new_blk (w1.drewN nq) _, below_alloc (bd HB1.out _) _⟩
  intro w2 h2
  have HF2 := Aside0.mk h2.2.1
  have HS2 := Aside0.mk h2.2.2.1
  have HB2 := Aside0.mk h2.2.2.2
  obtain ⟨q0, q1, q2, q3, q4, q5, q6⟩ := c7 h2.1
  obtain ⟨p0, p1, p2⟩ := c3 h2.2.2.1
  clear h2 hs1 hsx hd0 hd1 hw1 hw2 hw3 hee hss htt
  obtain ⟨⟨⟨ka, kb⟩, is⟩, hkk⟩ : ∃ k, keyC ⟨ep, ⟨a0, b0⟩, ⟨a1, b1⟩, ⟨a2, b2⟩⟩ e = k := ⟨_, rfl⟩
  have HKC := Aside0.mk (fun W => hkk ▸ key_calls ⟨ep, ⟨a0, b0⟩, ⟨a1, b1⟩, ⟨a2, b2⟩⟩ e W)
  have HKK := Aside0.mk hkk
  clear hkk
  go_upto_region 6 with (first | (go_at_call 63; (with_reducible refine (HKC.out _).mono ?_); rintro e1 x1 ⟨rfl, hx⟩; have HX1 := Aside0.mk hx; clear hx; obtain ⟨gq, hgq⟩ : ∃ n, x1.heap.size = n := ⟨_, rfl⟩))
  refine wp_w (fun W => W.heap[gq]? = some (.cells #[.int .u64 ka, .int .u64 kb] 30 (0, 0)) ∧ W.heap[g + 1]? = some (.cells #[.int .i64 f0, .int .i64 f1, .int .i64 f2, .int .i64 f3] 60 (0, 0)) ∧ W.heap[g + 2]? = some (.cells #[.int .i64 e, .int .i64 s, .int .i64 t] 122 (0, 0)) ∧ Below w.heap.size w W) ?_ ?_
  · exact ⟨by rw [← hgq]; exact new_blk x1 _, blk_al (bk_ HF2.out HX1.out) _, blk_al (bk_ HS2.out HX1.out) _, below_alloc (below_step HB2.out HX1.out) _⟩
  intro w5 h5
  have HG5 := Aside0.mk h5.1
  have HF5 := Aside0.mk h5.2.1
  have HS5 := Aside0.mk h5.2.2.1
  have HB5 := Aside0.mk h5.2.2.2
  clear h5 q0 q1 q2 q3 q4 q5 q6 p0 p1 p2 hgq
  cases is with
  | false =>
    have HE := Aside0.mk (show ((0 : Int), false) = R from by have h1 := HRD.out; rw [readD, if_pos (by rw [HKK.out])] at h1; exact h1)
    go_wp2
    go_ret2
    exact ⟨by rw [← HE.out]; rfl, by first | exact HB5.out | (rw [← HG]; exact HB5.out)⟩
  | true =>
    obtain ⟨v, hv⟩ : ∃ v, veilC ⟨ka, kb⟩ kind ⟨f0, f1, f2, f3⟩ e = v := ⟨_, rfl⟩
    obtain ⟨tg, htg⟩ : ∃ tg, tagC ⟨ka, kb⟩ kind ⟨f0, f1, f2, f3⟩ (Go.bits .xor .i64 s v) e = tg := ⟨_, rfl⟩
    have HV := Aside0.mk (fun W => hv ▸ veil_calls ⟨ka, kb⟩ kind ⟨f0, f1, f2, f3⟩ e W)
    have HTG := Aside0.mk (fun W => htg ▸ tag_calls ⟨ka, kb⟩ kind ⟨f0, f1, f2, f3⟩ (Go.bits .xor .i64 s v) e W)
    have HE := Aside0.mk (show (if tg = t then (Go.bits .xor .i64 s v, true) else (0, false)) = R from by have h1 := HRD.out; rw [readD, if_neg (by rw [HKK.out]; simp), HKK.out] at h1; simp only [hv, htg] at h1; exact h1)
    clear hv htg
    have HCK := Aside0.mk (fun W (h : Below w5.heap.size w5 W) => show W.cell? ⟨g + 2, 0, none⟩ = some (.int .i64 e) ∧ W.cell? ⟨g + 2, 1, none⟩ = some (.int .i64 s) ∧ W.cell? ⟨gq, 0, none⟩ = some (.int .u64 ka) ∧ W.cell? ⟨gq, 1, none⟩ = some (.int .u64 kb) ∧ W.cell? ⟨g + 1, 0, none⟩ = some (.int .i64 f0) ∧ W.cell? ⟨g + 1, 1, none⟩ = some (.int .i64 f1) ∧ W.cell? ⟨g + 1, 2, none⟩ = some (.int .i64 f2) ∧ W.cell? ⟨g + 1, 3, none⟩ = some (.int .i64 f3) from
      ⟨(c3 (bk_ HS5.out h)).1, (c3 (bk_ HS5.out h)).2.1, (c2 (bk_ HG5.out h)).1, (c2 (bk_ HG5.out h)).2, c4 (bk_ HF5.out h)⟩)
    have HQc := Aside0.mk (Below.refl w5.heap.size w5).drew
    go_upto_region 8 with fail
    refine start_ (n := 10) (S := fun w' => w'.cell? ⟨g + 2, 0, none⟩ = some (.int .i64 e) ∧ w'.cell? ⟨g + 2, 1, none⟩ = some (.int .i64 s) ∧ w'.cell? ⟨gq, 0, none⟩ = some (.int .u64 ka) ∧ w'.cell? ⟨gq, 1, none⟩ = some (.int .u64 kb) ∧ w'.cell? ⟨g + 1, 0, none⟩ = some (.int .i64 f0) ∧ w'.cell? ⟨g + 1, 1, none⟩ = some (.int .i64 f1) ∧ w'.cell? ⟨g + 1, 2, none⟩ = some (.int .i64 f2) ∧ w'.cell? ⟨g + 1, 3, none⟩ = some (.int .i64 f3)) (ds := []) #[fF,fF,fF,fF,fF,fF,fF,fF,fF,fF] (by kernel_rfl) rfl rfl ⟨(HCK.out _ HQc.out).1, (HCK.out _ HQc.out).2.1, (HCK.out _ HQc.out).2.2.1, (HCK.out _ HQc.out).2.2.2.1, (HCK.out _ HQc.out).2.2.2.2.1, (HCK.out _ HQc.out).2.2.2.2.2.1, (HCK.out _ HQc.out).2.2.2.2.2.2.1, (HCK.out _ HQc.out).2.2.2.2.2.2.2⟩ (fun hHeld => ?_)
    refine pure_ (i := 0) (N := some 50) (v := ?_) (a' := ?_) #[tT,fF,fF,fF,fF,fF,fF,fF,fF,fF] rfl rfl (by kernel_rfl) (fun _ _ _ h => h) (Or.inl ⟨by rfl, ?_⟩) ?_ ?_
    rotate_left; · intro w'; go_simp; with_reducible rfl
    rotate_left; · simp only [Act.put, q_a, q_0, q_s, i64_w, i32_w]; rfl
    refine pure_ (i := 3) (N := some 53) (v := ?_) (a' := ?_) #[tT,fF,fF,tT,fF,fF,fF,fF,fF,fF] rfl rfl (by kernel_rfl) (fun _ _ _ h => h) (Or.inl ⟨by rfl, ?_⟩) ?_ ?_
    rotate_left; · intro w'; go_simp; with_reducible rfl
    rotate_left; · simp only [Act.put, q_a, q_0, q_s, i64_w, i32_w]; rfl
    refine pure_ (i := 5) (N := some 55) (v := ?_) (a' := ?_) #[tT,fF,fF,tT,fF,tT,fF,fF,fF,fF] rfl rfl (by kernel_rfl) (fun _ _ _ h => h) (Or.inl ⟨by rfl, ?_⟩) ?_ ?_
    rotate_left; · intro w'; go_simp; with_reducible rfl
    rotate_left; · simp only [Act.put, q_a, q_0, q_s, i64_w, i32_w]; rfl
    refine take_ (i := 1) (N := some 51) (v := ?_) (a' := ?_) #[tT,tT,fF,tT,fF,tT,fF,fF,fF,fF] rfl rfl (by kernel_rfl) (fun _ _ _ h => h) (Or.inl ⟨by rfl, ?_⟩) hHeld ?_ ?_
    rotate_left
    · rintro w' ⟨s0, s1, s2, s3, s4, s5, s6, s7⟩
      go_simp
      with_reducible rfl
    rotate_left; · simp only [Act.put, q_a, q_0, q_s, i64_w, i32_w]; rfl
    refine take_ (i := 2) (N := some 52) (v := ?_) (a' := ?_) #[tT,tT,tT,tT,fF,tT,fF,fF,fF,fF] rfl rfl (by kernel_rfl) (fun _ _ _ h => h) (Or.inl ⟨by rfl, ?_⟩) hHeld ?_ ?_
    rotate_left
    · rintro w' ⟨s0, s1, s2, s3, s4, s5, s6, s7⟩
      go_simp
      with_reducible rfl
    rotate_left; · simp only [Act.put, q_a, q_0, q_s, i64_w, i32_w]; rfl
    refine take_ (i := 4) (N := some 54) (v := ?_) (a' := ?_) #[tT,tT,tT,tT,tT,tT,fF,fF,fF,fF] rfl rfl (by kernel_rfl) (fun _ _ _ h => h) (Or.inl ⟨by rfl, ?_⟩) hHeld ?_ ?_
    rotate_left
    · rintro w' ⟨s0, s1, s2, s3, s4, s5, s6, s7⟩
      go_simp
      with_reducible rfl
    rotate_left; · simp only [Act.put, q_a, q_0, q_s, i64_w, i32_w]; rfl
    refine take_ (i := 6) (N := some 56) (v := ?_) (a' := ?_) #[tT,tT,tT,tT,tT,tT,tT,fF,fF,fF] rfl rfl (by kernel_rfl) (fun _ _ _ h => h) (Or.inl ⟨by rfl, ?_⟩) hHeld ?_ ?_
    rotate_left
    · rintro w' ⟨s0, s1, s2, s3, s4, s5, s6, s7⟩
      go_simp
      with_reducible rfl
    rotate_left; · simp only [Act.put, q_a, q_0, q_s, i64_w, i32_w]; rfl
    refine one_ (i := 7) (N := some 57) #[tT,tT,tT,tT,tT,tT,tT,tT,fF,fF] rfl rfl (by kernel_rfl) (by decide) (fun K hK => ?_)
    refine goes_ Try.func57 (by kernel_rfl) rfl #[.agg #[.int .u64 ka, .int .u64 kb], .int .i64 kind, .agg #[.int .i64 f0, .int .i64 f1, .int .i64 f2, .int .i64 f3], .int .i64 e] (by rfl) rfl rfl (by simp only [List.map_toArray, List.map_cons, List.map_nil]; rfl) ?_
    with_reducible refine (HV.out _).mono ?_
    rintro e w3 ⟨rfl, hx⟩
    refine ⟨_, rfl, ?_⟩
    replace HQc := Aside0.mk (below_step HQc.out hx)
    refine hK.out _ _ ⟨(HCK.out _ HQc.out).1, (HCK.out _ HQc.out).2.1, (HCK.out _ HQc.out).2.2.1, (HCK.out _ HQc.out).2.2.2.1, (HCK.out _ HQc.out).2.2.2.2.1, (HCK.out _ HQc.out).2.2.2.2.2.1, (HCK.out _ HQc.out).2.2.2.2.2.2.1, (HCK.out _ HQc.out).2.2.2.2.2.2.2⟩ (fun hHeld => ?_)
    clear hK K
    refine norm_ (a' := ?_) ?_ ?_
    rotate_left
    · show Act.put _ (some 57) _ = _
      simp only [Act.put, q_a, q_0, q_s, i64_w, i32_w]
      rfl
    refine pure_ (i := 8) (N := some 58) (v := ?_) (a' := ?_) #[tT,tT,tT,tT,tT,tT,tT,tT,tT,fF] rfl rfl (by kernel_rfl) (fun _ _ _ h => h) (Or.inl ⟨by rfl, ?_⟩) ?_ ?_
    rotate_left; · intro w'; go_simp; with_reducible rfl
    rotate_left; · simp only [Act.put, q_a, q_0, q_s, i64_w, i32_w]; rfl
    refine pure_ (i := 9) (N := some 14) (v := ?_) (a' := ?_) #[tT,tT,tT,tT,tT,tT,tT,tT,tT,tT] rfl rfl (by kernel_rfl) (fun _ _ _ h => h) (Or.inl ⟨by rfl, ?_⟩) ?_ ?_
    rotate_left; · intro w'; go_simp; with_reducible rfl
    rotate_left; · simp only [Act.put, q_a, q_0, q_s, i64_w, i32_w]; rfl
    refine done_ (by kernel_rfl) ?_
    go_upto_region 9 with fail
    refine wp_w (fun W => Below w5.heap.size w5 W) ?_ ?_
    · exact HQc.out
    intro w6 h6
    clear HQc
    have HB6 := Aside0.mk (below_step HB5.out h6)
    replace HG5 := Aside0.mk (bk_ HG5.out h6)
    replace HF5 := Aside0.mk (bk_ HF5.out h6)
    replace HS5 := Aside0.mk (bk_ HS5.out h6)
    clear h6 HB5 HCK
    have HCK := Aside0.mk (fun W (h : Below w6.heap.size w6 W) => show W.cell? ⟨g + 2, 0, none⟩ = some (.int .i64 e) ∧ W.cell? ⟨g + 2, 1, none⟩ = some (.int .i64 s) ∧ W.cell? ⟨gq, 0, none⟩ = some (.int .u64 ka) ∧ W.cell? ⟨gq, 1, none⟩ = some (.int .u64 kb) ∧ W.cell? ⟨g + 1, 0, none⟩ = some (.int .i64 f0) ∧ W.cell? ⟨g + 1, 1, none⟩ = some (.int .i64 f1) ∧ W.cell? ⟨g + 1, 2, none⟩ = some (.int .i64 f2) ∧ W.cell? ⟨g + 1, 3, none⟩ = some (.int .i64 f3) from
      ⟨(c3 (bk_ HS5.out h)).1, (c3 (bk_ HS5.out h)).2.1, (c2 (bk_ HG5.out h)).1, (c2 (bk_ HG5.out h)).2, c4 (bk_ HF5.out h)⟩)
    have HQc := Aside0.mk (Below.refl w6.heap.size w6).drew
    refine start_ (n := 14) (S := fun w' => w'.cell? ⟨g + 2, 0, none⟩ = some (.int .i64 e) ∧ w'.cell? ⟨g + 2, 1, none⟩ = some (.int .i64 s) ∧ w'.cell? ⟨gq, 0, none⟩ = some (.int .u64 ka) ∧ w'.cell? ⟨gq, 1, none⟩ = some (.int .u64 kb) ∧ w'.cell? ⟨g + 1, 0, none⟩ = some (.int .i64 f0) ∧ w'.cell? ⟨g + 1, 1, none⟩ = some (.int .i64 f1) ∧ w'.cell? ⟨g + 1, 2, none⟩ = some (.int .i64 f2) ∧ w'.cell? ⟨g + 1, 3, none⟩ = some (.int .i64 f3)) (ds := [13]) #[fF,fF,fF,fF,fF,fF,fF,fF,fF,fF,fF,fF,fF,fF] (by kernel_rfl) rfl rfl ⟨(HCK.out _ HQc.out).1, (HCK.out _ HQc.out).2.1, (HCK.out _ HQc.out).2.2.1, (HCK.out _ HQc.out).2.2.2.1, (HCK.out _ HQc.out).2.2.2.2.1, (HCK.out _ HQc.out).2.2.2.2.2.1, (HCK.out _ HQc.out).2.2.2.2.2.2.1, (HCK.out _ HQc.out).2.2.2.2.2.2.2⟩ (fun hHeld => ?_)
    refine pure_ (i := 0) (N := some 59) (v := ?_) (a' := ?_) #[tT,fF,fF,fF,fF,fF,fF,fF,fF,fF,fF,fF,fF,fF] rfl rfl (by kernel_rfl) (fun _ _ _ h => h) (Or.inl ⟨by rfl, ?_⟩) ?_ ?_
    rotate_left; · intro w'; go_simp; with_reducible rfl
    rotate_left; · simp only [Act.put, q_a, q_0, q_s, i64_w, i32_w]; rfl
    refine pure_ (i := 2) (N := some 61) (v := ?_) (a' := ?_) #[tT,fF,tT,fF,fF,fF,fF,fF,fF,fF,fF,fF,fF,fF] rfl rfl (by kernel_rfl) (fun _ _ _ h => h) (Or.inl ⟨by rfl, ?_⟩) ?_ ?_
    rotate_left; · intro w'; go_simp; with_reducible rfl
    rotate_left; · simp only [Act.put, q_a, q_0, q_s, i64_w, i32_w]; rfl
    refine pure_ (i := 5) (N := some 64) (v := ?_) (a' := ?_) #[tT,fF,tT,fF,fF,tT,fF,fF,fF,fF,fF,fF,fF,fF] rfl rfl (by kernel_rfl) (fun _ _ _ h => h) (Or.inl ⟨by rfl, ?_⟩) ?_ ?_
    rotate_left; · intro w'; go_simp; with_reducible rfl
    rotate_left; · simp only [Act.put, q_a, q_0, q_s, i64_w, i32_w]; rfl
    refine pure_ (i := 7) (N := some 66) (v := ?_) (a' := ?_) #[tT,fF,tT,fF,fF,tT,fF,tT,fF,fF,fF,fF,fF,fF] rfl rfl (by kernel_rfl) (fun _ _ _ h => h) (Or.inl ⟨by rfl, ?_⟩) ?_ ?_
    rotate_left; · intro w'; go_simp; with_reducible rfl
    rotate_left; · simp only [Act.put, q_a, q_0, q_s, i64_w, i32_w]; rfl
    refine pure_ (i := 8) (N := some 67) (v := ?_) (a' := ?_) #[tT,fF,tT,fF,fF,tT,fF,tT,tT,fF,fF,fF,fF,fF] rfl rfl (by kernel_rfl) (fun _ _ _ h => h) (Or.inl ⟨by rfl, ?_⟩) ?_ ?_
    rotate_left; · intro w'; go_simp; with_reducible rfl
    rotate_left; · simp only [Act.put, q_a, q_0, q_s, i64_w, i32_w]; rfl
    refine take_ (i := 1) (N := some 60) (v := ?_) (a' := ?_) #[tT,tT,tT,fF,fF,tT,fF,tT,tT,fF,fF,fF,fF,fF] rfl rfl (by kernel_rfl) (fun _ _ _ h => h) (Or.inl ⟨by rfl, ?_⟩) hHeld ?_ ?_
    rotate_left
    · rintro w' ⟨s0, s1, s2, s3, s4, s5, s6, s7⟩
      go_simp
      with_reducible rfl
    rotate_left; · simp only [Act.put, q_a, q_0, q_s, i64_w, i32_w]; rfl
    refine take_ (i := 3) (N := some 62) (v := ?_) (a' := ?_) #[tT,tT,tT,tT,fF,tT,fF,tT,tT,fF,fF,fF,fF,fF] rfl rfl (by kernel_rfl) (fun _ _ _ h => h) (Or.inl ⟨by rfl, ?_⟩) hHeld ?_ ?_
    rotate_left
    · rintro w' ⟨s0, s1, s2, s3, s4, s5, s6, s7⟩
      go_simp
      with_reducible rfl
    rotate_left; · simp only [Act.put, q_a, q_0, q_s, i64_w, i32_w]; rfl
    refine take_ (i := 4) (N := some 63) (v := ?_) (a' := ?_) #[tT,tT,tT,tT,tT,tT,fF,tT,tT,fF,fF,fF,fF,fF] rfl rfl (by kernel_rfl) (fun _ _ _ h => h) (Or.inl ⟨by rfl, ?_⟩) hHeld ?_ ?_
    rotate_left
    · rintro w' ⟨s0, s1, s2, s3, s4, s5, s6, s7⟩
      go_simp
      with_reducible rfl
    rotate_left; · simp only [Act.put, q_a, q_0, q_s, i64_w, i32_w]; rfl
    refine take_ (i := 6) (N := some 65) (v := ?_) (a' := ?_) #[tT,tT,tT,tT,tT,tT,tT,tT,tT,fF,fF,fF,fF,fF] rfl rfl (by kernel_rfl) (fun _ _ _ h => h) (Or.inl ⟨by rfl, ?_⟩) hHeld ?_ ?_
    rotate_left
    · rintro w' ⟨s0, s1, s2, s3, s4, s5, s6, s7⟩
      go_simp
      with_reducible rfl
    rotate_left; · simp only [Act.put, q_a, q_0, q_s, i64_w, i32_w]; rfl
    refine take_ (i := 9) (N := some 68) (v := ?_) (a' := ?_) #[tT,tT,tT,tT,tT,tT,tT,tT,tT,tT,fF,fF,fF,fF] rfl rfl (by kernel_rfl) (fun _ _ _ h => h) (Or.inl ⟨by rfl, ?_⟩) hHeld ?_ ?_
    rotate_left
    · rintro w' ⟨s0, s1, s2, s3, s4, s5, s6, s7⟩
      go_simp
      with_reducible rfl
    rotate_left; · simp only [Act.put, q_a, q_0, q_s, i64_w, i32_w]; rfl
    refine join_ (σ := Nat) 1 #[tT,tT,tT,tT,tT,tT,tT,tT,tT,tT,tT,tT,tT,fF] (fun b => [(69, .int .i64 tg), (70, .agg #[.int .i64 e, .int .i64 s, .int .i64 tg]), (15, .pointer (some ⟨b, 0, none⟩))]) (fun b w' => w'.heap[b]? = some (.cells #[.int .i64 0, .int .i64 0, .int .i64 0] 122 (0, 0)) ∧ w6.heap.size ≤ b ∧ Below w6.heap.size w6 w') ?_ ?_
    rotate_left
    · intro hCont
      refine two_ (i := 10) (j := 12) (Ni := some 69) (Nj := some 15) #[tT,tT,tT,tT,tT,tT,tT,tT,tT,tT,tT,fF,fF,fF] #[tT,tT,tT,tT,tT,tT,tT,tT,tT,tT,fF,fF,tT,fF] rfl rfl rfl rfl (by kernel_rfl) (by decide) (by decide) (fun K hK => ?_) (fun K hK => ?_)
      · skip
        refine goes_ Try.func58 (by kernel_rfl) rfl #[.agg #[.int .u64 ka, .int .u64 kb], .int .i64 kind, .agg #[.int .i64 f0, .int .i64 f1, .int .i64 f2, .int .i64 f3], .int .i64 (Go.bits .xor .i64 s v), .int .i64 e] (by rfl) rfl rfl (by simp only [List.map_toArray, List.map_cons, List.map_nil]; rfl) ?_
        with_reducible refine (HTG.out _).mono ?_
        rintro e w3 ⟨rfl, hx⟩
        refine ⟨_, rfl, ?_⟩
        replace HQc := Aside0.mk (below_step HQc.out hx)
        refine hK.out _ _ ⟨(HCK.out _ HQc.out).1, (HCK.out _ HQc.out).2.1, (HCK.out _ HQc.out).2.2.1, (HCK.out _ HQc.out).2.2.2.1, (HCK.out _ HQc.out).2.2.2.2.1, (HCK.out _ HQc.out).2.2.2.2.2.1, (HCK.out _ HQc.out).2.2.2.2.2.2.1, (HCK.out _ HQc.out).2.2.2.2.2.2.2⟩ (fun hHeld => ?_)
        clear hK K
        refine norm_ (a' := ?_) ?_ ?_
        rotate_left
        · show Act.put _ (some 69) _ = _
          simp only [Act.put, q_a, q_0, q_s, i64_w, i32_w]
          rfl
        refine pure_ (i := 11) (N := some 70) (v := ?_) (a' := ?_) #[tT,tT,tT,tT,tT,tT,tT,tT,tT,tT,tT,tT,fF,fF] rfl rfl (by kernel_rfl) (fun _ _ _ h => h) (Or.inl ⟨by rfl, ?_⟩) ?_ ?_
        rotate_left; · intro w'; go_simp; with_reducible rfl
        rotate_left; · simp only [Act.put, q_a, q_0, q_s, i64_w, i32_w]; rfl
        refine one_ (i := 12) (N := some 15) #[tT,tT,tT,tT,tT,tT,tT,tT,tT,tT,tT,tT,tT,fF] rfl rfl (by kernel_rfl) (by decide) (fun K hK => ?_)
        refine value_ (w1 := ?_) (v := ?_) (by rfl) rfl ?_ ?_
        rotate_left 2
        · go_simp
          constructor
          · rfl
          · rfl
        have HAL := Aside0.mk (new_blk w3 (.cells #[.int .i64 0, .int .i64 0, .int .i64 0] 122))
        have HLE := Aside0.mk (HQc.out.size)
        replace HQc := Aside0.mk (below_alloc HQc.out (.cells #[.int .i64 0, .int .i64 0, .int .i64 0] 122))
        refine hK.out _ _ ⟨(HCK.out _ HQc.out).1, (HCK.out _ HQc.out).2.1, (HCK.out _ HQc.out).2.2.1, (HCK.out _ HQc.out).2.2.2.1, (HCK.out _ HQc.out).2.2.2.2.1, (HCK.out _ HQc.out).2.2.2.2.2.1, (HCK.out _ HQc.out).2.2.2.2.2.2.1, (HCK.out _ HQc.out).2.2.2.2.2.2.2⟩ (fun hHeld => ?_)
        clear hK K
        refine norm_ (a' := ?_) ?_ ?_
        rotate_left
        · show Act.put _ (some 15) _ = _
          simp only [Act.put, q_a, q_0, q_s, i64_w, i32_w]
          rfl
        exact norm_ (by simp only [putAll, Act.put, q_a, q_0, q_s]) (hCont w3.heap.size _ ⟨HAL.out, HLE.out, HQc.out⟩)
      · skip
        refine value_ (w1 := ?_) (v := ?_) (by rfl) rfl ?_ ?_
        rotate_left 2
        · go_simp
          constructor
          · rfl
          · rfl
        have HAL := Aside0.mk (new_blk w6.drew (.cells #[.int .i64 0, .int .i64 0, .int .i64 0] 122))
        have HLE := Aside0.mk (HQc.out.size)
        replace HQc := Aside0.mk (below_alloc HQc.out (.cells #[.int .i64 0, .int .i64 0, .int .i64 0] 122))
        refine hK.out _ _ ⟨(HCK.out _ HQc.out).1, (HCK.out _ HQc.out).2.1, (HCK.out _ HQc.out).2.2.1, (HCK.out _ HQc.out).2.2.2.1, (HCK.out _ HQc.out).2.2.2.2.1, (HCK.out _ HQc.out).2.2.2.2.2.1, (HCK.out _ HQc.out).2.2.2.2.2.2.1, (HCK.out _ HQc.out).2.2.2.2.2.2.2⟩ (fun hHeld => ?_)
        clear hK K
        refine norm_ (a' := ?_) ?_ ?_
        rotate_left
        · show Act.put _ (some 15) _ = _
          simp only [Act.put, q_a, q_0, q_s, i64_w, i32_w]
          rfl
        refine one_ (i := 10) (N := some 69) #[tT,tT,tT,tT,tT,tT,tT,tT,tT,tT,tT,fF,tT,fF] rfl rfl (by kernel_rfl) (by decide) (fun K hK => ?_)
        refine goes_ Try.func58 (by kernel_rfl) rfl #[.agg #[.int .u64 ka, .int .u64 kb], .int .i64 kind, .agg #[.int .i64 f0, .int .i64 f1, .int .i64 f2, .int .i64 f3], .int .i64 (Go.bits .xor .i64 s v), .int .i64 e] (by rfl) rfl rfl (by simp only [List.map_toArray, List.map_cons, List.map_nil]; rfl) ?_
        with_reducible refine (HTG.out _).mono ?_
        rintro e w3 ⟨rfl, hx⟩
        refine ⟨_, rfl, ?_⟩
        replace HAL := Aside0.mk (bk_ HAL.out hx)
        replace HQc := Aside0.mk (below_step HQc.out hx)
        refine hK.out _ _ ⟨(HCK.out _ HQc.out).1, (HCK.out _ HQc.out).2.1, (HCK.out _ HQc.out).2.2.1, (HCK.out _ HQc.out).2.2.2.1, (HCK.out _ HQc.out).2.2.2.2.1, (HCK.out _ HQc.out).2.2.2.2.2.1, (HCK.out _ HQc.out).2.2.2.2.2.2.1, (HCK.out _ HQc.out).2.2.2.2.2.2.2⟩ (fun hHeld => ?_)
        clear hK K
        refine norm_ (a' := ?_) ?_ ?_
        rotate_left
        · show Act.put _ (some 69) _ = _
          simp only [Act.put, q_a, q_0, q_s, i64_w, i32_w]
          rfl
        refine pure_ (i := 11) (N := some 70) (v := ?_) (a' := ?_) #[tT,tT,tT,tT,tT,tT,tT,tT,tT,tT,tT,tT,tT,fF] rfl rfl (by kernel_rfl) (fun _ _ _ h => h) (Or.inl ⟨by rfl, ?_⟩) ?_ ?_
        rotate_left; · intro w'; go_simp; with_reducible rfl
        rotate_left; · simp only [Act.put, q_a, q_0, q_s, i64_w, i32_w]; rfl
        exact norm_ (by simp only [putAll, Act.put, q_a, q_0, q_s]) (hCont w6.heap.size _ ⟨HAL.out, HLE.out, HQc.out⟩)
    rintro gb w4 ⟨hal, hle, hq⟩
    clear HQc
    have HQc := Aside0.mk hq
    have HAL := Aside0.mk hal
    have HLE := Aside0.mk hle
    obtain ⟨T0, T1, T2⟩ := c3 hal
    have U0 := fr_ hal 0
    have U1 := fr_ hal 1
    have U2 := fr_ hal 2
    clear hq hal hle
    have hHeld := HCK.out _ HQc.out
    refine norm_ (a' := ?_) ?_ ?_
    rotate_left; · simp only [putAll, Act.put, q_a, q_0, q_s]; rfl
    refine last_ (i := 13) (N := none) #[tT,tT,tT,tT,tT,tT,tT,tT,tT,tT,tT,tT,tT,tT] rfl rfl (by kernel_rfl) (by decide) (fun K hK => ?_)
    refine skip_ (w1 := ?_) (by rfl) rfl ?_ ?_
    rotate_left
    · go_simp
      rfl
    refine hK.out _ _ ?_
    clear hK K
    refine done_ (by kernel_rfl) ?_
    refine ex_w (fun W => W.heap[gb]? = some (.cells #[.int .i64 e, .int .i64 s, .int .i64 tg] 122 (0, 0)) ∧ W.heap[g + 2]? = some (.cells #[.int .i64 e, .int .i64 s, .int .i64 t] 122 (0, 0)) ∧ Below w.heap.size w W) ?_ ?_
    · have n0 : g + 2 ≠ gb := by have := blk_lt HS5.out; have := HLE.out; omega
      refine ⟨blk_drew (heap_setCell_same _ gb 2 _ 122 _ (heap_setCell_same _ gb 1 _ 122 _ (heap_setCell_same _ gb 0 _ 122 _ HAL.out))), ?_, ?_⟩
      · exact (set3_other w4 gb (g + 2) n0 _ _ _).trans (bk_ HS5.out HQc.out)
      · first | exact (below_set (below_set (below_set (below_step HB6.out HQc.out) (by have := HLE.out; have := HB6.out.size; omega)) (by have := HLE.out; have := HB6.out.size; omega)) (by have := HLE.out; have := HB6.out.size; omega)) | exact (below_set (below_set (below_set (below_step HB6.out HQc.out) (by have := HLE.out; have := HB6.out.size; omega)) (by have := HLE.out; have := HB6.out.size; omega)) (by have := HLE.out; have := HB6.out.size; omega)).drew
    intro w7 h7
    have HB7 := Aside0.mk h7.2.2
    obtain ⟨k0, k1, k2⟩ := c3 h7.1
    obtain ⟨j0, j1, j2⟩ := c3 h7.2.1
    clear h7
    by_cases he : tg = t
    · have hb : (tg == t) = true := beq_iff_eq.mpr he
      have HE2 := Aside0.mk (show (Go.bits .xor .i64 s v, true) = R from by have h1 := HE.out; rw [if_pos he] at h1; exact h1)
      clear he
      go_wp2
      go_ret2
      exact ⟨by rw [← HE2.out]; rfl, by first | exact HB7.out | (rw [← HG]; exact HB7.out)⟩
    · have hb : (tg == t) = false := beq_eq_false_iff_ne.mpr he
      have HE2 := Aside0.mk (show ((0 : Int), false) = R from by have h1 := HE.out; rw [if_neg he] at h1; exact h1)
      clear he
      go_wp2
      go_ret2
      exact ⟨by rw [← HE2.out]; rfl, by first | exact HB7.out | (rw [← HG]; exact HB7.out)⟩
set_option maxHeartbeats 4000000 in
set_option maxRecDepth 100000 in
theorem read_2n (r : Rg) (kind : Int) (hk : kind = 2) (f : Fl) (c : Int) (h0 : c < 0) (w : World) :
    Calls Try.prog 24 #[.agg #[.int .i64 r.ep, .int .u64 r.k0.a, .int .u64 r.k0.b, .int .u64 r.k1.a, .int .u64 r.k1.b, .int .u64 r.k2.a, .int .u64 r.k2.b], .int .i64 kind, .agg #[.int .i64 f.ad, .int .i64 f.po, .int .i64 f.tad, .int .i64 f.tpo], .int .i64 c] w fun e' w' => e' = .returned (.tuple #[.int .i64 0, .bool false]) ∧ Below w.heap.size w w' := by
  have hT := (show tagB kind = 8 from by unfold tagB; rw [if_pos hk])
  have HT := Aside0.mk (fun W => hT ▸ tagB_calls kind W)
  clear hT hk
  have hd0 : decide (c < 0) = true := decide_eq_true h0
  clear h0
  obtain ⟨ep, ⟨a0, b0⟩, ⟨a1, b1⟩, ⟨a2, b2⟩⟩ := r
  obtain ⟨f0, f1, f2, f3⟩ := f
  obtain ⟨g, HG⟩ : ∃ g, w.heap.size = g := ⟨_, rfl⟩
  go_enter Try.func24, Try.ntmps24
  go_upto_region 1 with fail
  refine wp_w (fun W => Below w.heap.size w W) ?_ ?_
  · exact (two_boxes w HG _ _).2.2.1
  intro w1 h1
  have HB1 := Aside0.mk h1
  clear h1
  go_wp2_with (first | (go_at_call 62; (with_reducible refine (HT.out _).mono ?_); rintro e1 x1 ⟨rfl, ⟨⟨nq, rfl⟩⟩⟩))
  go_ret2
  exact ⟨rfl, by first | exact bd HB1.out _ | (rw [← HG]; exact bd HB1.out _)⟩
set_option maxHeartbeats 4000000 in
set_option maxRecDepth 100000 in
theorem read_2b (r : Rg) (kind : Int) (hk : kind = 2) (f : Fl) (c : Int) (h0 : 65536 ≤ c) (w : World) :
    Calls Try.prog 24 #[.agg #[.int .i64 r.ep, .int .u64 r.k0.a, .int .u64 r.k0.b, .int .u64 r.k1.a, .int .u64 r.k1.b, .int .u64 r.k2.a, .int .u64 r.k2.b], .int .i64 kind, .agg #[.int .i64 f.ad, .int .i64 f.po, .int .i64 f.tad, .int .i64 f.tpo], .int .i64 c] w fun e' w' => e' = .returned (.tuple #[.int .i64 0, .bool false]) ∧ Below w.heap.size w w' := by
  have hT := (show tagB kind = 8 from by unfold tagB; rw [if_pos hk])
  have HT := Aside0.mk (fun W => hT ▸ tagB_calls kind W)
  clear hT hk
  have hd0 : decide (c < 0) = false := decide_eq_false (by omega)
  have hd1 : decide (65536 ≤ c) = true := decide_eq_true h0
  clear h0
  obtain ⟨ep, ⟨a0, b0⟩, ⟨a1, b1⟩, ⟨a2, b2⟩⟩ := r
  obtain ⟨f0, f1, f2, f3⟩ := f
  obtain ⟨g, HG⟩ : ∃ g, w.heap.size = g := ⟨_, rfl⟩
  go_enter Try.func24, Try.ntmps24
  go_upto_region 1 with fail
  refine wp_w (fun W => Below w.heap.size w W) ?_ ?_
  · exact (two_boxes w HG _ _).2.2.1
  intro w1 h1
  have HB1 := Aside0.mk h1
  clear h1
  go_wp2_with (first | (go_at_call 62; (with_reducible refine (HT.out _).mono ?_); rintro e1 x1 ⟨rfl, ⟨⟨nq, rfl⟩⟩⟩))
  go_ret2
  exact ⟨rfl, by first | exact bd HB1.out _ | (rw [← HG]; exact bd HB1.out _)⟩
set_option maxHeartbeats 4000000 in
set_option maxRecDepth 100000 in
theorem read_n2n (r : Rg) (kind : Int) (hk : kind ≠ 2) (f : Fl) (c : Int) (h0 : c < 0) (w : World) :
    Calls Try.prog 24 #[.agg #[.int .i64 r.ep, .int .u64 r.k0.a, .int .u64 r.k0.b, .int .u64 r.k1.a, .int .u64 r.k1.b, .int .u64 r.k2.a, .int .u64 r.k2.b], .int .i64 kind, .agg #[.int .i64 f.ad, .int .i64 f.po, .int .i64 f.tad, .int .i64 f.tpo], .int .i64 c] w fun e' w' => e' = .returned (.tuple #[.int .i64 0, .bool false]) ∧ Below w.heap.size w w' := by
  have hT := (show tagB kind = 12 from by unfold tagB; rw [if_neg hk])
  have HT := Aside0.mk (fun W => hT ▸ tagB_calls kind W)
  clear hT hk
  have hd0 : decide (c < 0) = true := decide_eq_true h0
  clear h0
  obtain ⟨ep, ⟨a0, b0⟩, ⟨a1, b1⟩, ⟨a2, b2⟩⟩ := r
  obtain ⟨f0, f1, f2, f3⟩ := f
  obtain ⟨g, HG⟩ : ∃ g, w.heap.size = g := ⟨_, rfl⟩
  go_enter Try.func24, Try.ntmps24
  go_upto_region 1 with fail
  refine wp_w (fun W => Below w.heap.size w W) ?_ ?_
  · exact (two_boxes w HG _ _).2.2.1
  intro w1 h1
  have HB1 := Aside0.mk h1
  clear h1
  go_wp2_with (first | (go_at_call 62; (with_reducible refine (HT.out _).mono ?_); rintro e1 x1 ⟨rfl, ⟨⟨nq, rfl⟩⟩⟩))
  go_ret2
  exact ⟨rfl, by first | exact bd HB1.out _ | (rw [← HG]; exact bd HB1.out _)⟩
set_option maxHeartbeats 4000000 in
set_option maxRecDepth 100000 in
theorem read_n2b (r : Rg) (kind : Int) (hk : kind ≠ 2) (f : Fl) (c : Int) (h0 : 1048576 ≤ c) (w : World) :
    Calls Try.prog 24 #[.agg #[.int .i64 r.ep, .int .u64 r.k0.a, .int .u64 r.k0.b, .int .u64 r.k1.a, .int .u64 r.k1.b, .int .u64 r.k2.a, .int .u64 r.k2.b], .int .i64 kind, .agg #[.int .i64 f.ad, .int .i64 f.po, .int .i64 f.tad, .int .i64 f.tpo], .int .i64 c] w fun e' w' => e' = .returned (.tuple #[.int .i64 0, .bool false]) ∧ Below w.heap.size w w' := by
  have hT := (show tagB kind = 12 from by unfold tagB; rw [if_neg hk])
  have HT := Aside0.mk (fun W => hT ▸ tagB_calls kind W)
  clear hT hk
  have hd0 : decide (c < 0) = false := decide_eq_false (by omega)
  have hd1 : decide (1048576 ≤ c) = true := decide_eq_true h0
  clear h0
  obtain ⟨ep, ⟨a0, b0⟩, ⟨a1, b1⟩, ⟨a2, b2⟩⟩ := r
  obtain ⟨f0, f1, f2, f3⟩ := f
  obtain ⟨g, HG⟩ : ∃ g, w.heap.size = g := ⟨_, rfl⟩
  go_enter Try.func24, Try.ntmps24
  go_upto_region 1 with fail
  refine wp_w (fun W => Below w.heap.size w W) ?_ ?_
  · exact (two_boxes w HG _ _).2.2.1
  intro w1 h1
  have HB1 := Aside0.mk h1
  clear h1
  go_wp2_with (first | (go_at_call 62; (with_reducible refine (HT.out _).mono ?_); rintro e1 x1 ⟨rfl, ⟨⟨nq, rfl⟩⟩⟩))
  go_ret2
  exact ⟨rfl, by first | exact bd HB1.out _ | (rw [← HG]; exact bd HB1.out _)⟩
theorem cread_calls (r : Rg) (kind : Int) (f : Fl) (c : Int) (w : World) :
    Calls Try.prog 24 #[.agg #[.int .i64 r.ep, .int .u64 r.k0.a, .int .u64 r.k0.b, .int .u64 r.k1.a, .int .u64 r.k1.b, .int .u64 r.k2.a, .int .u64 r.k2.b], .int .i64 kind, .agg #[.int .i64 f.ad, .int .i64 f.po, .int .i64 f.tad, .int .i64 f.tpo], .int .i64 c] w fun e' w' => e' = .returned (.tuple #[.int .i64 (readC r kind f c).1, .bool (readC r kind f c).2]) ∧ Below w.heap.size w w' := by
  unfold readC
  by_cases hk : kind = 2
  · rw [if_pos hk]
    by_cases hc : c < 0 ∨ 65536 ≤ c
    · rw [if_pos hc]
      rcases hc with hc | hc
      · exact read_2n r kind hk f c hc w
      · exact read_2b r kind hk f c hc w
    · rw [if_neg hc]
      exact read_2 r kind hk f c (by omega) (by omega) w
  · rw [if_neg hk]
    by_cases hc : c < 0 ∨ 1048576 ≤ c
    · rw [if_pos hc]
      rcases hc with hc | hc
      · exact read_n2n r kind hk f c hc w
      · exact read_n2b r kind hk f c hc w
    · rw [if_neg hc]
      exact read_n2 r kind hk f c (by omega) (by omega) w
end Go.Proofs.Ytgkmbefamcnifaa.TB
