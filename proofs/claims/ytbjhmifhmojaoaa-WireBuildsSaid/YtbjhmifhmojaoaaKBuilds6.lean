/- Lemmas and contracts that the row YtbjhmifhmojaoaaLawWireBuilds goes by (part 6; joined by pack.py out of this session's texts, and of words that the kit's print lays). -/
import Derived.Test.YtbjhmifhmojaoaaKBuilds5
namespace Go.Proofs.Ytbjhmifhmojaoaa.WB
set_option linter.unusedVariables false
set_option linter.unusedSimpArgs false
open Go.RowKit Go.Proofs.Ytbjhmifhmojaoaa.Hp Go.Proofs.Ytbjhmifhmojaoaa.SB Go.Proofs.YtbjhmifhmojaoaaW.PrintWords Go.Proofs.YtbjhmifhmojaoaaW.PrintLast Go.Proofs.YtbjhmifhmojaoaaW.PrintMore
set_option maxHeartbeats 8000000 in
set_option maxRecDepth 100000 in
theorem build_stream {A1 A2 : Option Addr} {c1 c2 : Nat} {p0 p1 p2 p3 p4 p5 p6 p7 p8 : Int} {p9 : Bool} {p10 : Int} {p11 p12 : List Int} {w : World} (ha : Kd.C (Kd.int .u8) w A1 p11.length p11) (hca : p11.length ≤ c1) (hd : Kd.C (Kd.int .u8) w A2 p12.length p12) (hcd : p12.length ≤ c2) (hba : Bytes p11) (hbd : Bytes p12) (hk : p0 = 1) (he : buildE ⟨p0, p1, p2, p3, p4, p5, p6, p7, p8, p9, p10, p11, p12⟩ = 0) :
    Calls Try.prog 17 #[.agg #[.int .i64 p0, .int .i64 p1, .int .i64 p2, .int .i64 p3, .int .i64 p4, .int .i64 p5, .int .i64 p6, .int .i64 p7, .int .i64 p8, .bool p9, .int .i64 p10, .slice A1 p11.length c1, .slice A2 p12.length c2]] w fun e w' => ∃ v, e = .returned (.tuple #[v, .int .i64 0]) ∧ RB w.heap.size w' v (buildL ⟨p0, p1, p2, p3, p4, p5, p6, p7, p8, p9, p10, p11, p12⟩) ∧ Below w.heap.size w w' := by
  have hn : nL ⟨p0, p1, p2, p3, p4, p5, p6, p7, p8, p9, p10, p11, p12⟩ = 24 + p12.length + p11.length := by unfold nL; simp [hk]
  have hok : okR ⟨p0, p1, p2, p3, p4, p5, p6, p7, p8, p9, p10, p11, p12⟩ = true := by
    unfold buildE at he
    split at he
    · cases he
    split at he
    · cases he
    rename_i h; simpa using h
  have hlim : nL ⟨p0, p1, p2, p3, p4, p5, p6, p7, p8, p9, p10, p11, p12⟩ ≤ 1500 ∧ (p0 = 1 → p11.length ≤ 40) ∧ (p0 = 3 → 24 ≤ p12.length) := by
    unfold buildE at he
    split at he
    · cases he
    split at he
    · cases he
    split at he
    · cases he
    split at he
    · cases he
    rename_i h1 h2 h3 h4
    refine ⟨by omega, fun h => ?_, fun h => ?_⟩
    · have : ¬ 40 < p11.length := fun h5 => h3 ⟨h, h5⟩
      omega
    · have : ¬ p12.length < 24 := fun h5 => h4 (Or.inl ⟨h, h5⟩)
      omega
  obtain ⟨n, hne⟩ : ∃ n, 24 + p12.length + p11.length = n := ⟨_, rfl⟩
  rw [hn, hne] at hlim
  have HN := Aside0.mk (show 20 ≤ n ∧ n ≤ 1500 ∧ 24 + p12.length + p11.length = n from ⟨by omega, hlim.1, hne⟩)
  have HNL := Aside0.mk (hn.trans hne)
  have HLIM := Aside0.mk hlim
  have HNN := Aside0.mk (show wrap64 (wrap64 (24 + (p12.length : Int)) + (p11.length : Int)) = (n : Int) from by rw [wid (n := 24 + (p12.length : Int)) (by omega) (by omega), wid (by omega) (by omega)]; omega)
  have dlim : decide (1500 < wrap64 (wrap64 (24 + (p12.length : Int)) + (p11.length : Int))) = false := decide_eq_false (by rw [HNN.out]; omega)
  have HA := Aside0.mk ha
  have HD := Aside0.mk hd
  have HYA := Aside0.mk hba
  have HYD := Aside0.mk hbd
  have HK := Aside0.mk hk
  have q1 : (p0 == 1) = true := by rw [hk]; rfl
  have q1n : (p0 != 1) = false := by rw [hk]; rfl
  have q2 : (p0 == 2) = false := by rw [hk]; rfl
  have q2n : (p0 != 2) = true := by rw [hk]; rfl
  have q3 : (p0 == 3) = false := by rw [hk]; rfl
  have q3n : (p0 != 3) = true := by rw [hk]; rfl
  have dopt : decide (40 < (p11.length : Int)) = false := decide_eq_false (by have := hlim.2.1 hk; omega)
  have doptn : decide (40 < p11.length) = false := decide_eq_false (by have := hlim.2.1 hk; omega)
  have G34 := Aside0.mk (fun W => wire_known.calls p0 true W (by unfold wire_known.f; rw [if_pos (by omega)]; simp [hk]))
  have G35 := Aside0.mk (fun W (h : Below w.heap.size w W) => (show Calls Try.prog 35 #[.agg #[.int .i64 p0, .int .i64 p1, .int .i64 p2, .int .i64 p3, .int .i64 p4, .int .i64 p5, .int .i64 p6, .int .i64 p7, .int .i64 p8, .bool p9, .int .i64 p10, .slice A1 p11.length c1, .slice A2 p12.length c2]] W fun e w' => e = .returned (.bool true) ∧ Below W.heap.size W w' from by
    have := ranges_calls (p := ⟨p0, p1, p2, p3, p4, p5, p6, p7, p8, p9, p10, p11, p12⟩) (A1 := A1) (A2 := A2) (c1 := c1) (c2 := c2) (w := W) (Kd.C_below ha h) hca (Kd.C_below hd h) hcd
    rw [hok] at this
    exact this))
  have HBA := Aside0.mk (fun o => (Below.refl w.heap.size w).alloc (Nat.le_refl _) o)
  clear ha hd hba hbd hk he hn hok hlim hne hca hcd
  go_enter Try.func17, Try.ntmps17
  go_upto_region 14 with (first
    | (go_at_call 34; (with_reducible refine (G34.out _).mono ?_); rintro e w1 ⟨rfl, ⟨⟨nd, rfl⟩⟩⟩)
    | (go_at_call 35; (with_reducible refine (G35.out _ ?hb).mono ?_); (case hb => repeat (first | with_reducible exact HBA.out _ | with_reducible apply pw_below_drewN)); rintro e w2 ⟨rfl, hb2⟩; have HZ2 := Aside0.mk ((hb2.block w.heap.size (blk_lt (new_blk w (.cells #[.int .i64 p0, .int .i64 p1, .int .i64 p2, .int .i64 p3, .int .i64 p4, .int .i64 p5, .int .i64 p6, .int .i64 p7, .int .i64 p8, .bool p9, .int .i64 p10, .slice A1 p11.length c1, .slice A2 p12.length c2] 26)))).trans (new_blk w (.cells #[.int .i64 p0, .int .i64 p1, .int .i64 p2, .int .i64 p3, .int .i64 p4, .int .i64 p5, .int .i64 p6, .int .i64 p7, .int .i64 p8, .bool p9, .int .i64 p10, .slice A1 p11.length c1, .slice A2 p12.length c2] 26))); have HB2 := Aside0.mk (below_step (bd (HBA.out (.cells #[.int .i64 p0, .int .i64 p1, .int .i64 p2, .int .i64 p3, .int .i64 p4, .int .i64 p5, .int .i64 p6, .int .i64 p7, .int .i64 p8, .bool p9, .int .i64 p10, .slice A1 p11.length c1, .slice A2 p12.length c2] 26)) _) hb2); clear hb2; obtain ⟨k0, k1, k2, k3, k4, k5, k6, k7, k8, k9, k10, k11, k12⟩ := c13 HZ2.out))
  clear G34 G35 HBA dlim dopt doptn
  obtain ⟨g, HGE⟩ : ∃ g, w2.heap.size = g := ⟨_, rfl⟩
  have HGL := Aside0.mk (show w.heap.size < g from by rw [← HGE]; exact blk_lt HZ2.out)
  have HGG := Aside0.mk (Nat.le_of_lt HGL.out)
  go_upto_region 15 with (first
    | ((with_reducible refine gate_dst (N := 61) rfl ?_); refine make_row g HGE rfl (.tmp 60) (.tmp 60) rfl n (wrap64 (wrap64 (24 + (p12.length : Int)) + (p11.length : Int))) HNN.out rfl rfl (by have := HN.out; omega) ?_; intro w3 hr hb3; have HR3 := Aside0.mk hr; have HZ3 := Aside0.mk ((hb3.block w.heap.size HGL.out).trans HZ2.out); have HB3 := Aside0.mk (HB2.out.trans (hb3.mono HGG.out)); have HS3 := Aside0.mk (show g < w3.heap.size from blk_lt hr); clear hr hb3; clear k0 k1 k2 k3 k4 k5 k6 k7 k8 k9 k10 k11 k12; obtain ⟨k0, k1, k2, k3, k4, k5, k6, k7, k8, k9, k10, k11, k12⟩ := c13 HZ3.out))
  have HCZ := Aside0.mk (fun W (h : Below g w3 W) => c13 ((h.block w.heap.size HGL.out).trans HZ3.out))
  have r0 := row_cells HR3.out 0 (by have := HN.out; simp; omega)
  have r1 := row_cells HR3.out 1 (by have := HN.out; simp; omega)
  have r12 := row_cells HR3.out 12 (by have := HN.out; simp; omega)
  have s0 := row_frozen HR3.out 0
  have s1 := row_frozen HR3.out 1
  have s12 := row_frozen HR3.out 12
  have hn0 : (0 : Int) < (n : Int) := by have := HN.out; omega
  have hn0n : 0 < n := by have := HN.out; omega
  have hn1 : (1 : Int) < (n : Int) := by have := HN.out; omega
  have hn12 : (12 : Int) < (n : Int) := by have := HN.out; omega
  clear k0 k1 k2 k3 k4 k5 k6 k7 k8 k9 k10 k11 k12
  refine start_ (n := 18) (S := fun w' => w'.cell? ⟨w.heap.size, 0, none⟩ = some (.int .i64 p0) ∧ w'.cell? ⟨w.heap.size, 1, none⟩ = some (.int .i64 p1) ∧ w'.cell? ⟨w.heap.size, 2, none⟩ = some (.int .i64 p2)) (ds := []) #[false, false, false, false, false, false, false, false, false, false, false, false, false, false, false, false, false, false] (by kernel_rfl) rfl rfl ⟨(HCZ.out _ (Below.refl g w3).drew).1, (HCZ.out _ (Below.refl g w3).drew).2.1, (HCZ.out _ (Below.refl g w3).drew).2.2.1⟩ (fun hHeld => ?_)
  refine pure_ (i := 0) (N := some 62) (v := ?_) (a' := ?_) #[true, false, false, false, false, false, false, false, false, false, false, false, false, false, false, false, false, false] rfl rfl (by kernel_rfl) (fun _ _ _ h => h) (Or.inl ⟨by rfl, ?_⟩) ?_ ?_
  rotate_left
  · intro w'
    go_simp
    with_reducible rfl
  rotate_left
  · simp only [Act.put, List.setIfInBounds_toArray, List.set_cons_zero, List.set_cons_succ, i64_w, i32_w]
    rfl
  refine pure_ (i := 1) (N := some 63) (v := ?_) (a' := ?_) #[true, true, false, false, false, false, false, false, false, false, false, false, false, false, false, false, false, false] rfl rfl (by kernel_rfl) (fun _ _ _ h => h) (Or.inl ⟨by rfl, ?_⟩) ?_ ?_
  rotate_left
  · intro w'
    go_simp
    with_reducible rfl
  rotate_left
  · simp only [Act.put, List.setIfInBounds_toArray, List.set_cons_zero, List.set_cons_succ, i64_w, i32_w]
    rfl
  refine pure_ (i := 2) (N := some 64) (v := ?_) (a' := ?_) #[true, true, true, false, false, false, false, false, false, false, false, false, false, false, false, false, false, false] rfl rfl (by kernel_rfl) (fun _ _ _ h => h) (Or.inl ⟨by rfl, ?_⟩) ?_ ?_
  rotate_left
  · intro w'
    go_simp
    with_reducible rfl
  rotate_left
  · simp only [Act.put, List.setIfInBounds_toArray, List.set_cons_zero, List.set_cons_succ, i64_w, i32_w]
    rfl
  refine pure_ (i := 3) (N := some 65) (v := ?_) (a' := ?_) #[true, true, true, true, false, false, false, false, false, false, false, false, false, false, false, false, false, false] rfl rfl (by kernel_rfl) (fun _ _ _ h => h) (Or.inl ⟨by rfl, ?_⟩) ?_ ?_
  rotate_left
  · intro w'
    go_simp
    with_reducible rfl
  rotate_left
  · simp only [Act.put, List.setIfInBounds_toArray, List.set_cons_zero, List.set_cons_succ, i64_w, i32_w]
    rfl
  refine pure_ (i := 6) (N := some 68) (v := ?_) (a' := ?_) #[true, true, true, true, false, false, true, false, false, false, false, false, false, false, false, false, false, false] rfl rfl (by kernel_rfl) (fun _ _ _ h => h) (Or.inl ⟨by rfl, ?_⟩) ?_ ?_
  rotate_left
  · intro w'
    go_simp
    with_reducible rfl
  rotate_left
  · simp only [Act.put, List.setIfInBounds_toArray, List.set_cons_zero, List.set_cons_succ, i64_w, i32_w]
    rfl
  refine pure_ (i := 9) (N := some 71) (v := ?_) (a' := ?_) #[true, true, true, true, false, false, true, false, false, true, false, false, false, false, false, false, false, false] rfl rfl (by kernel_rfl) (fun _ _ _ h => h) (Or.inl ⟨by rfl, ?_⟩) ?_ ?_
  rotate_left
  · intro w'
    go_simp
    with_reducible rfl
  rotate_left
  · simp only [Act.put, List.setIfInBounds_toArray, List.set_cons_zero, List.set_cons_succ, i64_w, i32_w]
    rfl
  refine take_ (i := 4) (N := some 66) (v := ?_) (a' := ?_) #[true, true, true, true, true, false, true, false, false, true, false, false, false, false, false, false, false, false] rfl rfl (by kernel_rfl) (fun _ _ _ h => h) (Or.inl ⟨by rfl, ?_⟩) hHeld ?_ ?_
  rotate_left
  · rintro w' ⟨s0, s1, s2⟩
    go_simp
    with_reducible rfl
  rotate_left
  · simp only [Act.put, List.setIfInBounds_toArray, List.set_cons_zero, List.set_cons_succ, i64_w, i32_w]
    rfl
  refine pure_ (i := 5) (N := some 67) (v := ?_) (a' := ?_) #[true, true, true, true, true, true, true, false, false, true, false, false, false, false, false, false, false, false] rfl rfl (by kernel_rfl) (fun _ _ _ h => h) (Or.inl ⟨by rfl, ?_⟩) ?_ ?_
  rotate_left
  · intro w'
    go_simp
    with_reducible rfl
  rotate_left
  · simp only [Act.put, List.setIfInBounds_toArray, List.set_cons_zero, List.set_cons_succ, i64_w, i32_w]
    rfl
  refine pure_ (i := 12) (N := some 74) (v := ?_) (a' := ?_) #[true, true, true, true, true, true, true, false, false, true, false, false, true, false, false, false, false, false] rfl rfl (by kernel_rfl) (fun _ _ _ h => h) (Or.inl ⟨by rfl, ?_⟩) ?_ ?_
  rotate_left
  · intro w'
    go_simp
    with_reducible rfl
  rotate_left
  · simp only [Act.put, List.setIfInBounds_toArray, List.set_cons_zero, List.set_cons_succ, i64_w, i32_w]
    rfl
  refine take_ (i := 7) (N := some 69) (v := ?_) (a' := ?_) #[true, true, true, true, true, true, true, true, false, true, false, false, true, false, false, false, false, false] rfl rfl (by kernel_rfl) (fun _ _ _ h => h) (Or.inl ⟨by rfl, ?_⟩) hHeld ?_ ?_
  rotate_left
  · rintro w' ⟨s0, s1, s2⟩
    go_simp
    with_reducible rfl
  rotate_left
  · simp only [Act.put, List.setIfInBounds_toArray, List.set_cons_zero, List.set_cons_succ, i64_w, i32_w]
    rfl
  refine pure_ (i := 8) (N := some 70) (v := ?_) (a' := ?_) #[true, true, true, true, true, true, true, true, true, true, false, false, true, false, false, false, false, false] rfl rfl (by kernel_rfl) (fun _ _ _ h => h) (Or.inl ⟨by rfl, ?_⟩) ?_ ?_
  rotate_left
  · intro w'
    go_simp
    with_reducible rfl
  rotate_left
  · simp only [Act.put, List.setIfInBounds_toArray, List.set_cons_zero, List.set_cons_succ, i64_w, i32_w]
    rfl
  refine take_ (i := 10) (N := some 72) (v := ?_) (a' := ?_) #[true, true, true, true, true, true, true, true, true, true, true, false, true, false, false, false, false, false] rfl rfl (by kernel_rfl) (fun _ _ _ h => h) (Or.inl ⟨by rfl, ?_⟩) hHeld ?_ ?_
  rotate_left
  · rintro w' ⟨s0, s1, s2⟩
    go_simp
    with_reducible rfl
  rotate_left
  · simp only [Act.put, List.setIfInBounds_toArray, List.set_cons_zero, List.set_cons_succ, i64_w, i32_w]
    rfl
  refine pure_ (i := 11) (N := some 73) (v := ?_) (a' := ?_) #[true, true, true, true, true, true, true, true, true, true, true, true, true, false, false, false, false, false] rfl rfl (by kernel_rfl) (fun _ _ _ h => h) (Or.inl ⟨by rfl, ?_⟩) ?_ ?_
  rotate_left
  · intro w'
    go_simp
    with_reducible rfl
  rotate_left
  · simp only [Act.put, List.setIfInBounds_toArray, List.set_cons_zero, List.set_cons_succ, i64_w, i32_w]
    rfl
  refine one_ (i := 13) (N := none) #[true, true, true, true, true, true, true, true, true, true, true, true, true, true, false, false, false, false] rfl rfl (by kernel_rfl) (by decide) (fun K hK => ?_)
  refine skip_ (w1 := ?_) (by rfl) rfl ?_ ?_
  rotate_left
  · go_simp
    rfl
  refine hK.out _ _ ⟨(HCZ.out _ ((Below.refl g w3).drew.setCell (p := ⟨g, 0, none⟩) (Nat.le_refl _) _)).1, (HCZ.out _ ((Below.refl g w3).drew.setCell (p := ⟨g, 0, none⟩) (Nat.le_refl _) _)).2.1, (HCZ.out _ ((Below.refl g w3).drew.setCell (p := ⟨g, 0, none⟩) (Nat.le_refl _) _)).2.2.1⟩ (fun hHeld => ?_)
  clear hK K
  refine pure_ (i := 14) (N := some 75) (v := ?_) (a' := ?_) #[true, true, true, true, true, true, true, true, true, true, true, true, true, true, true, false, false, false] rfl rfl (by kernel_rfl) (fun _ _ _ h => h) (Or.inl ⟨by rfl, ?_⟩) ?_ ?_
  rotate_left
  · intro w'
    go_simp
    with_reducible rfl
  rotate_left
  · simp only [Act.put, List.setIfInBounds_toArray, List.set_cons_zero, List.set_cons_succ, i64_w, i32_w]
    rfl
  refine one_ (i := 15) (N := none) #[true, true, true, true, true, true, true, true, true, true, true, true, true, true, true, true, false, false] rfl rfl (by kernel_rfl) (by decide) (fun K hK => ?_)
  refine skip_ (w1 := ?_) (by rfl) rfl ?_ ?_
  rotate_left
  · go_simp
    rfl
  refine hK.out _ _ ⟨(HCZ.out _ (((Below.refl g w3).drew.setCell (p := ⟨g, 0, none⟩) (Nat.le_refl _) _).setCell (p := ⟨g, 1, none⟩) (Nat.le_refl _) _)).1, (HCZ.out _ (((Below.refl g w3).drew.setCell (p := ⟨g, 0, none⟩) (Nat.le_refl _) _).setCell (p := ⟨g, 1, none⟩) (Nat.le_refl _) _)).2.1, (HCZ.out _ (((Below.refl g w3).drew.setCell (p := ⟨g, 0, none⟩) (Nat.le_refl _) _).setCell (p := ⟨g, 1, none⟩) (Nat.le_refl _) _)).2.2.1⟩ (fun hHeld => ?_)
  clear hK K
  refine pure_ (i := 16) (N := some 76) (v := ?_) (a' := ?_) #[true, true, true, true, true, true, true, true, true, true, true, true, true, true, true, true, true, false] rfl rfl (by kernel_rfl) (fun _ _ _ h => h) (Or.inl ⟨by rfl, ?_⟩) ?_ ?_
  rotate_left
  · intro w'
    go_simp
    with_reducible rfl
  rotate_left
  · simp only [Act.put, List.setIfInBounds_toArray, List.set_cons_zero, List.set_cons_succ, i64_w, i32_w]
    rfl
  refine one_ (i := 17) (N := none) #[true, true, true, true, true, true, true, true, true, true, true, true, true, true, true, true, true, true] rfl rfl (by kernel_rfl) (by decide) (fun K hK => ?_)
  refine skip_ (w1 := ?_) (by rfl) rfl ?_ ?_
  rotate_left
  · go_simp
    rfl
  refine hK.out _ _ ⟨(HCZ.out _ ((((Below.refl g w3).drew.setCell (p := ⟨g, 0, none⟩) (Nat.le_refl _) _).setCell (p := ⟨g, 1, none⟩) (Nat.le_refl _) _).setCell (p := ⟨g, 12, none⟩) (Nat.le_refl _) _)).1, (HCZ.out _ ((((Below.refl g w3).drew.setCell (p := ⟨g, 0, none⟩) (Nat.le_refl _) _).setCell (p := ⟨g, 1, none⟩) (Nat.le_refl _) _).setCell (p := ⟨g, 12, none⟩) (Nat.le_refl _) _)).2.1, (HCZ.out _ ((((Below.refl g w3).drew.setCell (p := ⟨g, 0, none⟩) (Nat.le_refl _) _).setCell (p := ⟨g, 1, none⟩) (Nat.le_refl _) _).setCell (p := ⟨g, 12, none⟩) (Nat.le_refl _) _)).2.2.1⟩ (fun hHeld => ?_)
  clear hK K
  refine done_ (by kernel_rfl) ?_
  clear r0 r1 r12 s0 s1 s12 hHeld
  generalize hW : World.drew _ = w4
  have hr : Row w4 g ((((List.replicate n 0).set 0 (IntKind.u8.wrap p0)).set 1 (IntKind.u8.wrap p1)).set 12 (IntKind.u8.wrap p2)) := by
    rw [← hW]
    exact row_set (row_set (row_set HR3.out 0 (IntKind.u8.wrap p0)) 1 (IntKind.u8.wrap p1)) 12 (IntKind.u8.wrap p2)
  simp only [IntKind.wrap_u8] at hr
  obtain ⟨L4, el⟩ : ∃ L, (((List.replicate n 0).set 0 (p0 % 256)).set 1 (p1 % 256)).set 12 (p2 % 256) = L := ⟨_, rfl⟩
  rw [el] at hr
  have EL4 := Aside0.mk el
  clear el
  have HR4 := Aside0.mk hr
  have HX4 := Aside0.mk (show Below g w3 w4 from by
    rw [← hW]
    exact (((((Below.refl g w3).setCell (p := ⟨g, 0, none⟩) (Nat.le_refl _) _).setCell (p := ⟨g, 1, none⟩) (Nat.le_refl _) _).setCell (p := ⟨g, 12, none⟩) (Nat.le_refl _) _)).drew)
  have HZ4 := Aside0.mk ((HX4.out.block w.heap.size HGL.out).trans HZ3.out)
  have HB4 := Aside0.mk (HB3.out.trans (HX4.out.mono HGG.out))
  have HS4 := Aside0.mk (show g ≤ w4.heap.size from Nat.le_of_lt (blk_lt hr))
  have HL4 := Aside0.mk (show L4.length = n from by rw [← EL4.out]; simp)
  have HQ4 := Aside0.mk (show Bytes L4 from by
    rw [← EL4.out]
    refine Bytes.set (Bytes.set (Bytes.set ?_ _ (by omega) (by omega)) _ (by omega) (by omega)) _ (by omega) (by omega)
    intro x hx
    have := List.eq_of_mem_replicate hx
    omega)
  clear hW hr HX4 HCZ HR3 HZ3 HZ2 HB2
  obtain ⟨k0, k1, k2, k3, k4, k5, k6, k7, k8, k9, k10, k11, k12⟩ := c13 HZ4.out
  have PR := Aside0.mk (put_row (w0 := w) (w := w4) 2 2 (wrap64 (wrap64 (24 + (p12.length : Int)) + (p11.length : Int))) (iz := 2) (mz := 2) (HB4.out) HGG.out HR4.out HL4.out (by have := HL4.out; have := HN.out; omega) rfl rfl (by omega) (by have := HL4.out; have := HN.out; omega))
  go_upto_region 17 with (first | (go_at_call 36; (with_reducible refine PR.out.mono ?_); rintro e w5 ⟨rfl, hr, hc⟩; obtain ⟨L5, el⟩ : ∃ L, putL L4 2 2 (wrap64 (wrap64 (24 + (p12.length : Int)) + (p11.length : Int))) = L := ⟨_, rfl⟩; rw [el] at hr; have EL5 := Aside0.mk el; clear el; have HR5 := Aside0.mk hr; have HB5 := Aside0.mk (hc.below HB4.out HGG.out); have HZ5 := Aside0.mk ((hc.block w.heap.size (Nat.lt_of_lt_of_le HGL.out HS4.out) (Nat.ne_of_lt HGL.out)).trans HZ4.out); have HS5 := Aside0.mk (Nat.le_trans HS4.out hc.size); have HL5 := Aside0.mk (show L5.length = n from by rw [← EL5.out, putL_len]; exact HL4.out); have HQ5 := Aside0.mk (show Bytes L5 from by rw [← EL5.out]; exact putL_bytes _ _ _ HQ4.out); clear hr hc; clear k0 k1 k2 k3 k4 k5 k6 k7 k8 k9 k10 k11 k12; obtain ⟨k0, k1, k2, k3, k4, k5, k6, k7, k8, k9, k10, k11, k12⟩ := c13 HZ5.out))
  clear PR
  have PR := Aside0.mk (put_row (w0 := w) (w := w5) 4 4 (p3) (iz := 4) (mz := 4) (HB5.out) HGG.out HR5.out HL5.out (by have := HL5.out; have := HN.out; omega) rfl rfl (by omega) (by have := HL5.out; have := HN.out; omega))
  go_upto_region 18 with (first | (go_at_call 36; (with_reducible refine PR.out.mono ?_); rintro e w6 ⟨rfl, hr, hc⟩; obtain ⟨L6, el⟩ : ∃ L, putL L5 4 4 (p3) = L := ⟨_, rfl⟩; rw [el] at hr; have EL6 := Aside0.mk el; clear el; have HR6 := Aside0.mk hr; have HB6 := Aside0.mk (hc.below HB5.out HGG.out); have HZ6 := Aside0.mk ((hc.block w.heap.size (Nat.lt_of_lt_of_le HGL.out HS5.out) (Nat.ne_of_lt HGL.out)).trans HZ5.out); have HS6 := Aside0.mk (Nat.le_trans HS5.out hc.size); have HL6 := Aside0.mk (show L6.length = n from by rw [← EL6.out, putL_len]; exact HL5.out); have HQ6 := Aside0.mk (show Bytes L6 from by rw [← EL6.out]; exact putL_bytes _ _ _ HQ5.out); clear hr hc; clear k0 k1 k2 k3 k4 k5 k6 k7 k8 k9 k10 k11 k12; obtain ⟨k0, k1, k2, k3, k4, k5, k6, k7, k8, k9, k10, k11, k12⟩ := c13 HZ6.out))
  clear PR
  have PR := Aside0.mk (put_row (w0 := w) (w := w6) 8 4 (p4) (iz := 8) (mz := 4) (HB6.out) HGG.out HR6.out HL6.out (by have := HL6.out; have := HN.out; omega) rfl rfl (by omega) (by have := HL6.out; have := HN.out; omega))
  go_upto_region 19 with (first | (go_at_call 36; (with_reducible refine PR.out.mono ?_); rintro e w7 ⟨rfl, hr, hc⟩; obtain ⟨L7, el⟩ : ∃ L, putL L6 8 4 (p4) = L := ⟨_, rfl⟩; rw [el] at hr; have EL7 := Aside0.mk el; clear el; have HR7 := Aside0.mk hr; have HB7 := Aside0.mk (hc.below HB6.out HGG.out); have HZ7 := Aside0.mk ((hc.block w.heap.size (Nat.lt_of_lt_of_le HGL.out HS6.out) (Nat.ne_of_lt HGL.out)).trans HZ6.out); have HS7 := Aside0.mk (Nat.le_trans HS6.out hc.size); have HL7 := Aside0.mk (show L7.length = n from by rw [← EL7.out, putL_len]; exact HL6.out); have HQ7 := Aside0.mk (show Bytes L7 from by rw [← EL7.out]; exact putL_bytes _ _ _ HQ6.out); clear hr hc; clear k0 k1 k2 k3 k4 k5 k6 k7 k8 k9 k10 k11 k12; obtain ⟨k0, k1, k2, k3, k4, k5, k6, k7, k8, k9, k10, k11, k12⟩ := c13 HZ7.out))
  clear PR
  obtain ⟨hcut16, hC16⟩ := cut_to (A := some ⟨g, 0, none⟩) (c := n) (l := L7) 16 (jz := 16) rfl (by have := HN.out; omega) HL7.out (Nat.le_refl _)
  have OF := Aside0.mk (of_calls (c := n) (hC16 w7 (by have h := row_C HR7.out (by have := HL7.out; have := HN.out; omega); rw [HL7.out] at h; exact h)) (by rw [List.length_take, HL7.out]; have := HN.out; omega) (by have := HN.out; omega) (HQ7.out.take 16) (by rw [List.length_take]; omega))
  clear hC16
  have PR := Aside0.mk (fun nd_ => put_row (w0 := w) (w := (w7.drewN nd_)) 14 2 (65535 - fold (pairs (L7.take 16))) (iz := 14) (mz := 2) (bd HB7.out nd_) HGG.out HR7.out HL7.out (by have := HL7.out; have := HN.out; omega) rfl rfl (by omega) (by have := HL7.out; have := HN.out; omega))
  go_upto_region 20 with (first | (go_at_call 36; (with_reducible refine (PR.out _).mono ?_); rintro e w8 ⟨rfl, hr, hc⟩; obtain ⟨L8, el⟩ : ∃ L, putL L7 14 2 (65535 - fold (pairs (L7.take 16))) = L := ⟨_, rfl⟩; rw [el] at hr; have EL8 := Aside0.mk el; clear el; have HR8 := Aside0.mk hr; have HB8 := Aside0.mk (hc.below (bd HB7.out _) HGG.out); have HZ8 := Aside0.mk ((hc.block w.heap.size (Nat.lt_of_lt_of_le HGL.out HS7.out) (Nat.ne_of_lt HGL.out)).trans HZ7.out); have HS8 := Aside0.mk (Nat.le_trans HS7.out hc.size); have HL8 := Aside0.mk (show L8.length = n from by rw [← EL8.out, putL_len]; exact HL7.out); have HQ8 := Aside0.mk (show Bytes L8 from by rw [← EL8.out]; exact putL_bytes _ _ _ HQ7.out); clear hr hc; clear k0 k1 k2 k3 k4 k5 k6 k7 k8 k9 k10 k11 k12; obtain ⟨k0, k1, k2, k3, k4, k5, k6, k7, k8, k9, k10, k11, k12⟩ := c13 HZ8.out) | (go_at_call 37; (with_reducible refine OF.out.mono ?_); rintro e w20 ⟨rfl, ⟨⟨nd, rfl⟩⟩⟩))
  clear PR
  clear OF hcut16
  have PR := Aside0.mk (put_row (w0 := w) (w := w8) 16 2 (p5) (iz := 16) (mz := 2) (HB8.out) HGG.out HR8.out HL8.out (by have := HL8.out; have := HN.out; omega) rfl rfl (by omega) (by have := HL8.out; have := HN.out; omega))
  go_upto_region 22 with (first | (go_at_call 36; (with_reducible refine PR.out.mono ?_); rintro e w9 ⟨rfl, hr, hc⟩; obtain ⟨L9, el⟩ : ∃ L, putL L8 16 2 (p5) = L := ⟨_, rfl⟩; rw [el] at hr; have EL9 := Aside0.mk el; clear el; have HR9 := Aside0.mk hr; have HB9 := Aside0.mk (hc.below HB8.out HGG.out); have HZ9 := Aside0.mk ((hc.block w.heap.size (Nat.lt_of_lt_of_le HGL.out HS8.out) (Nat.ne_of_lt HGL.out)).trans HZ8.out); have HS9 := Aside0.mk (Nat.le_trans HS8.out hc.size); have HL9 := Aside0.mk (show L9.length = n from by rw [← EL9.out, putL_len]; exact HL8.out); have HQ9 := Aside0.mk (show Bytes L9 from by rw [← EL9.out]; exact putL_bytes _ _ _ HQ8.out); clear hr hc; clear k0 k1 k2 k3 k4 k5 k6 k7 k8 k9 k10 k11 k12; obtain ⟨k0, k1, k2, k3, k4, k5, k6, k7, k8, k9, k10, k11, k12⟩ := c13 HZ9.out))
  clear PR
  have PR := Aside0.mk (put_row (w0 := w) (w := w9) 18 2 (p6) (iz := 18) (mz := 2) (HB9.out) HGG.out HR9.out HL9.out (by have := HL9.out; have := HN.out; omega) rfl rfl (by omega) (by have := HL9.out; have := HN.out; omega))
  go_upto_region 23 with (first | (go_at_call 36; (with_reducible refine PR.out.mono ?_); rintro e w10 ⟨rfl, hr, hc⟩; obtain ⟨L10, el⟩ : ∃ L, putL L9 18 2 (p6) = L := ⟨_, rfl⟩; rw [el] at hr; have EL10 := Aside0.mk el; clear el; have HR10 := Aside0.mk hr; have HB10 := Aside0.mk (hc.below HB9.out HGG.out); have HZ10 := Aside0.mk ((hc.block w.heap.size (Nat.lt_of_lt_of_le HGL.out HS9.out) (Nat.ne_of_lt HGL.out)).trans HZ9.out); have HS10 := Aside0.mk (Nat.le_trans HS9.out hc.size); have HL10 := Aside0.mk (show L10.length = n from by rw [← EL10.out, putL_len]; exact HL9.out); have HQ10 := Aside0.mk (show Bytes L10 from by rw [← EL10.out]; exact putL_bytes _ _ _ HQ9.out); clear hr hc; clear k0 k1 k2 k3 k4 k5 k6 k7 k8 k9 k10 k11 k12; obtain ⟨k0, k1, k2, k3, k4, k5, k6, k7, k8, k9, k10, k11, k12⟩ := c13 HZ10.out))
  clear PR
  go_upto_region 24 with fail
  have HCZ := Aside0.mk (fun W (h : Below g w10 W) => c13 ((h.block w.heap.size HGL.out).trans HZ10.out))
  have r20 := row_cells HR10.out 20 (by have := HN.out; rw [HL10.out]; omega)
  have r21 := row_cells HR10.out 21 (by have := HN.out; rw [HL10.out]; omega)
  have s20 := row_frozen HR10.out 20
  have s21 := row_frozen HR10.out 21
  have hn20 : (20 : Int) < (n : Int) := by have := HN.out; omega
  have hn21 : (21 : Int) < (n : Int) := by have := HN.out; omega
  clear k0 k1 k2 k3 k4 k5 k6 k7 k8 k9 k10 k11 k12
  refine start_ (n := 13) (S := fun w' => w'.cell? ⟨w.heap.size, 7, none⟩ = some (.int .i64 p7) ∧ w'.cell? ⟨w.heap.size, 11, none⟩ = some (.slice A1 p11.length c1)) (ds := []) #[false, false, false, false, false, false, false, false, false, false, false, false, false] (by kernel_rfl) rfl rfl ⟨(HCZ.out _ (Below.refl g w10).drew).2.2.2.2.2.2.2.1, (HCZ.out _ (Below.refl g w10).drew).2.2.2.2.2.2.2.2.2.2.2.1⟩ (fun hHeld => ?_)
  refine pure_ (i := 0) (N := some 106) (v := ?_) (a' := ?_) #[true, false, false, false, false, false, false, false, false, false, false, false, false] rfl rfl (by kernel_rfl) (fun _ _ _ h => h) (Or.inl ⟨by rfl, ?_⟩) ?_ ?_
  rotate_left
  · intro w'
    go_simp
    with_reducible rfl
  rotate_left
  · simp only [Act.put, List.setIfInBounds_toArray, List.set_cons_zero, List.set_cons_succ, i64_w, i32_w]
    rfl
  refine pure_ (i := 1) (N := some 107) (v := ?_) (a' := ?_) #[true, true, false, false, false, false, false, false, false, false, false, false, false] rfl rfl (by kernel_rfl) (fun _ _ _ h => h) (Or.inl ⟨by rfl, ?_⟩) ?_ ?_
  rotate_left
  · intro w'
    go_simp
    with_reducible rfl
  rotate_left
  · simp only [Act.put, List.setIfInBounds_toArray, List.set_cons_zero, List.set_cons_succ, i64_w, i32_w]
    rfl
  refine pure_ (i := 2) (N := some 108) (v := ?_) (a' := ?_) #[true, true, true, false, false, false, false, false, false, false, false, false, false] rfl rfl (by kernel_rfl) (fun _ _ _ h => h) (Or.inl ⟨by rfl, ?_⟩) ?_ ?_
  rotate_left
  · intro w'
    go_simp
    with_reducible rfl
  rotate_left
  · simp only [Act.put, List.setIfInBounds_toArray, List.set_cons_zero, List.set_cons_succ, i64_w, i32_w]
    rfl
  refine pure_ (i := 5) (N := some 111) (v := ?_) (a' := ?_) #[true, true, true, false, false, true, false, false, false, false, false, false, false] rfl rfl (by kernel_rfl) (fun _ _ _ h => h) (Or.inl ⟨by rfl, ?_⟩) ?_ ?_
  rotate_left
  · intro w'
    go_simp
    with_reducible rfl
  rotate_left
  · simp only [Act.put, List.setIfInBounds_toArray, List.set_cons_zero, List.set_cons_succ, i64_w, i32_w]
    rfl
  refine take_ (i := 3) (N := some 109) (v := ?_) (a' := ?_) #[true, true, true, true, false, true, false, false, false, false, false, false, false] rfl rfl (by kernel_rfl) (fun _ _ _ h => h) (Or.inl ⟨by rfl, ?_⟩) hHeld ?_ ?_
  rotate_left
  · rintro w' ⟨s0, s1⟩
    go_simp
    with_reducible rfl
  rotate_left
  · simp only [Act.put, List.setIfInBounds_toArray, List.set_cons_zero, List.set_cons_succ, i64_w, i32_w]
    rfl
  refine pure_ (i := 4) (N := some 110) (v := ?_) (a' := ?_) #[true, true, true, true, true, true, false, false, false, false, false, false, false] rfl rfl (by kernel_rfl) (fun _ _ _ h => h) (Or.inl ⟨by rfl, ?_⟩) ?_ ?_
  rotate_left
  · intro w'
    go_simp
    with_reducible rfl
  rotate_left
  · simp only [Act.put, List.setIfInBounds_toArray, List.set_cons_zero, List.set_cons_succ, i64_w, i32_w]
    rfl
  refine pure_ (i := 9) (N := some 115) (v := ?_) (a' := ?_) #[true, true, true, true, true, true, false, false, false, true, false, false, false] rfl rfl (by kernel_rfl) (fun _ _ _ h => h) (Or.inl ⟨by rfl, ?_⟩) ?_ ?_
  rotate_left
  · intro w'
    go_simp
    with_reducible rfl
  rotate_left
  · simp only [Act.put, List.setIfInBounds_toArray, List.set_cons_zero, List.set_cons_succ, i64_w, i32_w]
    rfl
  refine take_ (i := 6) (N := some 112) (v := ?_) (a' := ?_) #[true, true, true, true, true, true, true, false, false, true, false, false, false] rfl rfl (by kernel_rfl) (fun _ _ _ h => h) (Or.inl ⟨by rfl, ?_⟩) hHeld ?_ ?_
  rotate_left
  · rintro w' ⟨s0, s1⟩
    go_simp
    with_reducible rfl
  rotate_left
  · simp only [Act.put, List.setIfInBounds_toArray, List.set_cons_zero, List.set_cons_succ, i64_w, i32_w]
    rfl
  refine pure_ (i := 7) (N := some 113) (v := ?_) (a' := ?_) #[true, true, true, true, true, true, true, true, false, true, false, false, false] rfl rfl (by kernel_rfl) (fun _ _ _ h => h) (Or.inl ⟨by rfl, ?_⟩) ?_ ?_
  rotate_left
  · intro w'
    go_simp
    with_reducible rfl
  rotate_left
  · simp only [Act.put, List.setIfInBounds_toArray, List.set_cons_zero, List.set_cons_succ, i64_w, i32_w]
    rfl
  refine pure_ (i := 8) (N := some 114) (v := ?_) (a' := ?_) #[true, true, true, true, true, true, true, true, true, true, false, false, false] rfl rfl (by kernel_rfl) (fun _ _ _ h => h) (Or.inl ⟨by rfl, ?_⟩) ?_ ?_
  rotate_left
  · intro w'
    go_simp
    with_reducible rfl
  rotate_left
  · simp only [Act.put, List.setIfInBounds_toArray, List.set_cons_zero, List.set_cons_succ, i64_w, i32_w]
    rfl
  refine one_ (i := 10) (N := none) #[true, true, true, true, true, true, true, true, true, true, true, false, false] rfl rfl (by kernel_rfl) (by decide) (fun K hK => ?_)
  refine skip_ (w1 := ?_) (by rfl) rfl ?_ ?_
  rotate_left
  · go_simp
    rfl
  refine hK.out _ _ ⟨(HCZ.out _ ((Below.refl g w10).drew.setCell (p := ⟨g, 20, none⟩) (Nat.le_refl _) _)).2.2.2.2.2.2.2.1, (HCZ.out _ ((Below.refl g w10).drew.setCell (p := ⟨g, 20, none⟩) (Nat.le_refl _) _)).2.2.2.2.2.2.2.2.2.2.2.1⟩ (fun hHeld => ?_)
  clear hK K
  refine pure_ (i := 11) (N := some 116) (v := ?_) (a' := ?_) #[true, true, true, true, true, true, true, true, true, true, true, true, false] rfl rfl (by kernel_rfl) (fun _ _ _ h => h) (Or.inl ⟨by rfl, ?_⟩) ?_ ?_
  rotate_left
  · intro w'
    go_simp
    with_reducible rfl
  rotate_left
  · simp only [Act.put, List.setIfInBounds_toArray, List.set_cons_zero, List.set_cons_succ, i64_w, i32_w]
    rfl
  refine one_ (i := 12) (N := none) #[true, true, true, true, true, true, true, true, true, true, true, true, true] rfl rfl (by kernel_rfl) (by decide) (fun K hK => ?_)
  refine skip_ (w1 := ?_) (by rfl) rfl ?_ ?_
  rotate_left
  · go_simp
    rfl
  refine hK.out _ _ ⟨(HCZ.out _ (((Below.refl g w10).drew.setCell (p := ⟨g, 20, none⟩) (Nat.le_refl _) _).setCell (p := ⟨g, 21, none⟩) (Nat.le_refl _) _)).2.2.2.2.2.2.2.1, (HCZ.out _ (((Below.refl g w10).drew.setCell (p := ⟨g, 20, none⟩) (Nat.le_refl _) _).setCell (p := ⟨g, 21, none⟩) (Nat.le_refl _) _)).2.2.2.2.2.2.2.2.2.2.2.1⟩ (fun hHeld => ?_)
  clear hK K
  refine done_ (by kernel_rfl) ?_
  clear r20 r21 s20 s21 hHeld HCZ
  generalize hW : World.drew _ = w11
  have hr : Row w11 g ((L10.set 20 (IntKind.u8.wrap p7)).set 21 (IntKind.u8.wrap (p11.length : Int))) := by
    rw [← hW]
    exact row_set (row_set HR10.out 20 (IntKind.u8.wrap p7)) 21 (IntKind.u8.wrap (p11.length : Int))
  try simp only [IntKind.wrap_u8] at hr
  obtain ⟨L11, el⟩ : ∃ L, (L10.set 20 (p7 % 256)).set 21 ((p11.length : Int) % 256) = L := ⟨_, rfl⟩
  rw [el] at hr
  have EL11 := Aside0.mk el
  clear el
  have HR11 := Aside0.mk hr
  have HX := Aside0.mk (show Below g w10 w11 from by
    rw [← hW]
    exact ((((Below.refl g w10).setCell (p := ⟨g, 20, none⟩) (Nat.le_refl _) _).setCell (p := ⟨g, 21, none⟩) (Nat.le_refl _) _)).drew)
  have HZ11 := Aside0.mk ((HX.out.block w.heap.size HGL.out).trans HZ10.out)
  have HB11 := Aside0.mk (HB10.out.trans (HX.out.mono HGG.out))
  have HS11 := Aside0.mk (Nat.le_trans HS10.out HX.out.size)
  have HL11 := Aside0.mk (show L11.length = n from by rw [← EL11.out]; simp only [List.length_set]; exact HL10.out)
  have HQ11 := Aside0.mk (show Bytes L11 from by
    rw [← EL11.out]
    exact Bytes.set (Bytes.set HQ10.out _ (by omega) (by omega)) _ (by omega) (by omega))
  clear hW hr HX
  obtain ⟨k0, k1, k2, k3, k4, k5, k6, k7, k8, k9, k10, k11, k12⟩ := c13 HZ11.out
  go_upto_region 25 with fail
  obtain ⟨A3, hA3, hcut3⟩ := cut_row g n (24) (iz := 24) (rfl) (by have := HN.out; omega)
  have HA3 := Aside0.mk hA3
  clear hA3
  have HCZ := Aside0.mk (fun W (h : Below g w11 W) => c13 ((h.block w.heap.size HGL.out).trans HZ11.out))
  clear k0 k1 k2 k3 k4 k5 k6 k7 k8 k9 k10 k11 k12
  refine start_ (n := 5) (S := fun w' => w'.cell? ⟨w.heap.size, 11, none⟩ = some (.slice A1 p11.length c1)) (ds := []) #[false, false, false, false, false] (by kernel_rfl) rfl rfl ((HCZ.out _ (Below.refl g w11).drew).2.2.2.2.2.2.2.2.2.2.2.1) (fun hHeld => ?_)
  refine pure_ (i := 0) (N := some 117) (v := ?_) (a' := ?_) #[true, false, false, false, false] rfl rfl (by kernel_rfl) (fun _ _ _ h => h) (Or.inl ⟨by rfl, ?_⟩) ?_ ?_
  rotate_left
  · intro w'
    go_simp
    with_reducible rfl
  rotate_left
  · simp only [Act.put, List.setIfInBounds_toArray, List.set_cons_zero, List.set_cons_succ, i64_w, i32_w]
    rfl
  refine pure_ (i := 1) (N := some 118) (v := ?_) (a' := ?_) #[true, true, false, false, false] rfl rfl (by kernel_rfl) (fun _ _ _ h => h) (Or.inl ⟨by rfl, ?_⟩) ?_ ?_
  rotate_left
  · intro w'
    go_simp
    with_reducible rfl
  rotate_left
  · simp only [Act.put, List.setIfInBounds_toArray, List.set_cons_zero, List.set_cons_succ, i64_w, i32_w]
    rfl
  refine pure_ (i := 2) (N := some 119) (v := ?_) (a' := ?_) #[true, true, true, false, false] rfl rfl (by kernel_rfl) (fun _ _ _ h => h) (Or.inl ⟨by rfl, ?_⟩) ?_ ?_
  rotate_left
  · intro w'
    go_simp
    with_reducible rfl
  rotate_left
  · simp only [Act.put, List.setIfInBounds_toArray, List.set_cons_zero, List.set_cons_succ, i64_w, i32_w]
    rfl
  refine take_ (i := 3) (N := some 120) (v := ?_) (a' := ?_) #[true, true, true, true, false] rfl rfl (by kernel_rfl) (fun _ _ _ h => h) (Or.inl ⟨by rfl, ?_⟩) hHeld ?_ ?_
  rotate_left
  · intro w' s0
    go_simp
    with_reducible rfl
  rotate_left
  · simp only [Act.put, List.setIfInBounds_toArray, List.set_cons_zero, List.set_cons_succ, i64_w, i32_w]
    rfl
  refine one_ (i := 4) (N := some 121) #[true, true, true, true, true] rfl rfl (by kernel_rfl) (by decide) (fun K hK => ?_)
  refine copy_row rfl (.tmp 118) (.tmp 120) rfl (g := g) (i := 24) (n := n) (m := n - (24)) (c := c1) (A' := A3) (A := A1) (L := L11) (cs := p11) rfl rfl HA3.out rfl HR11.out HL11.out (Kd.C_drew (Kd.C_below HA.out HB11.out)) (by have := HN.out; have := HLIM.out; omega) ?_
  intro w12 hr hb
  refine hK.out _ _ ((HCZ.out _ ((Below.refl g w11).drew.trans hb)).2.2.2.2.2.2.2.2.2.2.2.1) (fun hHeld => ?_)
  clear hK K
  refine norm_ (a' := ?_) ?_ ?_
  rotate_left
  · show Act.put _ (some 121) _ = _
    simp only [Act.put, List.setIfInBounds_toArray, List.set_cons_zero, List.set_cons_succ, i64_w, i32_w]
    rfl
  refine done_ (by kernel_rfl) ?_
  obtain ⟨L12, el⟩ : ∃ L, splice L11 (24) p11 = L := ⟨_, rfl⟩
  rw [el] at hr
  have EL12 := Aside0.mk el
  have HR12 := Aside0.mk hr
  have HX := Aside0.mk ((Below.refl g w11).drew.trans hb)
  have HZ12 := Aside0.mk ((HX.out.block w.heap.size HGL.out).trans HZ11.out)
  have HB12 := Aside0.mk (HB11.out.trans (HX.out.mono HGG.out))
  have HS12 := Aside0.mk (Nat.le_trans HS11.out HX.out.size)
  have HL12 := Aside0.mk (show L12.length = n from by rw [← el, splice_len (by rw [HL11.out]; have := HN.out; have := HLIM.out; omega)]; exact HL11.out)
  have HQ12 := Aside0.mk (show Bytes L12 from by rw [← el]; exact splice_bytes HQ11.out HYA.out)
  clear hHeld hr hb el HX HCZ HA3 hcut3
  obtain ⟨k0, k1, k2, k3, k4, k5, k6, k7, k8, k9, k10, k11, k12⟩ := c13 HZ12.out
  go_upto_region 30 with fail
  obtain ⟨A3, hA3, hcut3⟩ := cut_row g n (24 + p11.length) (iz := wrap64 (wrap64 (wrap64 (24 + (p12.length : Int)) + (p11.length : Int)) - (p12.length : Int))) (by rw [HNN.out, wid (by have := HN.out; omega) (by have := HN.out; omega)]; have := HN.out; omega) (by have := HN.out; omega)
  have HA3 := Aside0.mk hA3
  clear hA3
  have HCZ := Aside0.mk (fun W (h : Below g w12 W) => c13 ((h.block w.heap.size HGL.out).trans HZ12.out))
  clear k0 k1 k2 k3 k4 k5 k6 k7 k8 k9 k10 k11 k12
  refine start_ (n := 10) (S := fun w' => w'.cell? ⟨w.heap.size, 12, none⟩ = some (.slice A2 p12.length c2)) (ds := []) #[false, false, false, false, false, false, false, false, false, false] (by kernel_rfl) rfl rfl ((HCZ.out _ (Below.refl g w12).drew).2.2.2.2.2.2.2.2.2.2.2.2) (fun hHeld => ?_)
  refine pure_ (i := 0) (N := some 135) (v := ?_) (a' := ?_) #[true, false, false, false, false, false, false, false, false, false] rfl rfl (by kernel_rfl) (fun _ _ _ h => h) (Or.inl ⟨by rfl, ?_⟩) ?_ ?_
  rotate_left
  · intro w'
    go_simp
    with_reducible rfl
  rotate_left
  · simp only [Act.put, List.setIfInBounds_toArray, List.set_cons_zero, List.set_cons_succ, i64_w, i32_w]
    rfl
  refine pure_ (i := 1) (N := some 136) (v := ?_) (a' := ?_) #[true, true, false, false, false, false, false, false, false, false] rfl rfl (by kernel_rfl) (fun _ _ _ h => h) (Or.inl ⟨by rfl, ?_⟩) ?_ ?_
  rotate_left
  · intro w'
    go_simp
    with_reducible rfl
  rotate_left
  · simp only [Act.put, List.setIfInBounds_toArray, List.set_cons_zero, List.set_cons_succ, i64_w, i32_w]
    rfl
  refine pure_ (i := 2) (N := some 137) (v := ?_) (a' := ?_) #[true, true, true, false, false, false, false, false, false, false] rfl rfl (by kernel_rfl) (fun _ _ _ h => h) (Or.inl ⟨by rfl, ?_⟩) ?_ ?_
  rotate_left
  · intro w'
    go_simp
    with_reducible rfl
  rotate_left
  · simp only [Act.put, List.setIfInBounds_toArray, List.set_cons_zero, List.set_cons_succ, i64_w, i32_w]
    rfl
  refine pure_ (i := 7) (N := some 142) (v := ?_) (a' := ?_) #[true, true, true, false, false, false, false, true, false, false] rfl rfl (by kernel_rfl) (fun _ _ _ h => h) (Or.inl ⟨by rfl, ?_⟩) ?_ ?_
  rotate_left
  · intro w'
    go_simp
    with_reducible rfl
  rotate_left
  · simp only [Act.put, List.setIfInBounds_toArray, List.set_cons_zero, List.set_cons_succ, i64_w, i32_w]
    rfl
  refine take_ (i := 3) (N := some 138) (v := ?_) (a' := ?_) #[true, true, true, true, false, false, false, true, false, false] rfl rfl (by kernel_rfl) (fun _ _ _ h => h) (Or.inl ⟨by rfl, ?_⟩) hHeld ?_ ?_
  rotate_left
  · intro w' s0
    go_simp
    with_reducible rfl
  rotate_left
  · simp only [Act.put, List.setIfInBounds_toArray, List.set_cons_zero, List.set_cons_succ, i64_w, i32_w]
    rfl
  refine pure_ (i := 4) (N := some 139) (v := ?_) (a' := ?_) #[true, true, true, true, true, false, false, true, false, false] rfl rfl (by kernel_rfl) (fun _ _ _ h => h) (Or.inl ⟨by rfl, ?_⟩) ?_ ?_
  rotate_left
  · intro w'
    go_simp
    with_reducible rfl
  rotate_left
  · simp only [Act.put, List.setIfInBounds_toArray, List.set_cons_zero, List.set_cons_succ, i64_w, i32_w]
    rfl
  refine pure_ (i := 5) (N := some 140) (v := ?_) (a' := ?_) #[true, true, true, true, true, true, false, true, false, false] rfl rfl (by kernel_rfl) (fun _ _ _ h => h) (Or.inl ⟨by rfl, ?_⟩) ?_ ?_
  rotate_left
  · intro w'
    go_simp
    with_reducible rfl
  rotate_left
  · simp only [Act.put, List.setIfInBounds_toArray, List.set_cons_zero, List.set_cons_succ, i64_w, i32_w]
    rfl
  refine pure_ (i := 6) (N := some 141) (v := ?_) (a' := ?_) #[true, true, true, true, true, true, true, true, false, false] rfl rfl (by kernel_rfl) (fun _ _ _ h => h) (Or.inl ⟨by rfl, ?_⟩) ?_ ?_
  rotate_left
  · intro w'
    go_simp
    with_reducible rfl
  rotate_left
  · simp only [Act.put, List.setIfInBounds_toArray, List.set_cons_zero, List.set_cons_succ, i64_w, i32_w]
    rfl
  refine take_ (i := 8) (N := some 143) (v := ?_) (a' := ?_) #[true, true, true, true, true, true, true, true, true, false] rfl rfl (by kernel_rfl) (fun _ _ _ h => h) (Or.inl ⟨by rfl, ?_⟩) hHeld ?_ ?_
  rotate_left
  · intro w' s0
    go_simp
    with_reducible rfl
  rotate_left
  · simp only [Act.put, List.setIfInBounds_toArray, List.set_cons_zero, List.set_cons_succ, i64_w, i32_w]
    rfl
  refine one_ (i := 9) (N := some 144) #[true, true, true, true, true, true, true, true, true, true] rfl rfl (by kernel_rfl) (by decide) (fun K hK => ?_)
  refine copy_row rfl (.tmp 141) (.tmp 143) rfl (g := g) (i := 24 + p11.length) (n := n) (m := n - (24 + p11.length)) (c := c2) (A' := A3) (A := A2) (L := L12) (cs := p12) rfl rfl HA3.out rfl HR12.out HL12.out (Kd.C_drew (Kd.C_below HD.out HB12.out)) (by have := HN.out; have := HLIM.out; omega) ?_
  intro w13 hr hb
  refine hK.out _ _ ((HCZ.out _ ((Below.refl g w12).drew.trans hb)).2.2.2.2.2.2.2.2.2.2.2.2) (fun hHeld => ?_)
  clear hK K
  refine norm_ (a' := ?_) ?_ ?_
  rotate_left
  · show Act.put _ (some 144) _ = _
    simp only [Act.put, List.setIfInBounds_toArray, List.set_cons_zero, List.set_cons_succ, i64_w, i32_w]
    rfl
  refine done_ (by kernel_rfl) ?_
  obtain ⟨L13, el⟩ : ∃ L, splice L12 (24 + p11.length) p12 = L := ⟨_, rfl⟩
  rw [el] at hr
  have EL13 := Aside0.mk el
  have HR13 := Aside0.mk hr
  have HX := Aside0.mk ((Below.refl g w12).drew.trans hb)
  have HZ13 := Aside0.mk ((HX.out.block w.heap.size HGL.out).trans HZ12.out)
  have HB13 := Aside0.mk (HB12.out.trans (HX.out.mono HGG.out))
  have HS13 := Aside0.mk (Nat.le_trans HS12.out HX.out.size)
  have HL13 := Aside0.mk (show L13.length = n from by rw [← el, splice_len (by rw [HL12.out]; have := HN.out; have := HLIM.out; omega)]; exact HL12.out)
  have HQ13 := Aside0.mk (show Bytes L13 from by rw [← el]; exact splice_bytes HQ12.out HYD.out)
  clear hHeld hr hb el HX HCZ HA3 hcut3
  obtain ⟨k0, k1, k2, k3, k4, k5, k6, k7, k8, k9, k10, k11, k12⟩ := c13 HZ13.out
  have SF := Aside0.mk (summed_calls (c := n) (by have h := row_C HR13.out (by have := HL13.out; have := HN.out; omega); rw [HL13.out] at h; exact h) HL13.out (Nat.le_refl _) (by have := HL13.out; have := HN.out; omega) (by have := HL13.out; have := HN.out; omega) HQ13.out)
  have HSO := Aside0.mk (summed_ok HQ13.out (by have := HL13.out; have := HN.out; omega) (by have := HL13.out; have := HN.out; omega))
  go_upto_region 32 with (first
    | (go_at_call 38; (with_reducible refine SF.out.mono ?_); rintro e w14 ⟨v, rfl, ho, hb⟩; obtain ⟨Av, cv, ev⟩ := Kd.R_slice ho; subst ev; have HR14 := Aside0.mk (show Row w14 g L13 from (hb.block g (blk_lt HR13.out)).trans HR13.out); have HZ14 := Aside0.mk ((hb.block w.heap.size (blk_lt HZ13.out)).trans HZ13.out); have HB14 := Aside0.mk (below_step HB13.out hb); have HS14 := Aside0.mk (Nat.le_trans HS13.out hb.size); have HRD := Aside0.mk (Kd.R_reads' ho); have OF := Aside0.mk (of_calls HRD.out.2.2 rfl HRD.out.2.1 HSO.out.2 (by have := HSO.out.1; omega)); clear ho hb; clear k0 k1 k2 k3 k4 k5 k6 k7 k8 k9 k10 k11 k12; obtain ⟨k0, k1, k2, k3, k4, k5, k6, k7, k8, k9, k10, k11, k12⟩ := c13 HZ14.out)
    | (go_at_call 37; (with_reducible refine OF.out.mono ?_); rintro e w30 ⟨rfl, ⟨⟨nd2, rfl⟩⟩⟩))
  have HR14' := Aside0.mk (show Row (w14.drewN nd2) g L13 from HR14.out)
  have HZ14' := Aside0.mk (show (w14.drewN nd2).heap[w.heap.size]? = _ from HZ14.out)
  have HB14' := Aside0.mk (bd HB14.out nd2)
  have HS14' := Aside0.mk (show g ≤ (w14.drewN nd2).heap.size from HS14.out)
  generalize w14.drewN nd2 = w40 at HR14' HZ14' HB14' HS14' ⊢
  clear SF OF HRD HR14 HZ14 HB14 HS14 k0 k1 k2 k3 k4 k5 k6 k7 k8 k9 k10 k11 k12
  obtain ⟨k0, k1, k2, k3, k4, k5, k6, k7, k8, k9, k10, k11, k12⟩ := c13 HZ14'.out
  have G39 := Aside0.mk (fun W => wire_sumPlace.calls p0 22 W (by unfold wire_sumPlace.f; have := HK.out; rw [if_neg (by omega)]))
  have PR := Aside0.mk (fun nd_ => put_row (w0 := w) (w := w40.drewN nd_) 22 2 (65535 - fold (pairs (summedL L13))) (iz := 22) (mz := 2) (bd HB14'.out nd_) HGG.out HR14'.out HL13.out (by have := HL13.out; have := HN.out; omega) rfl rfl (by omega) (by have := HL13.out; have := HN.out; have := HLIM.out; have := HK.out; omega))
  go_wp2_with (first
    | (go_at_call 39; (with_reducible refine (G39.out _).mono ?_); rintro e w41 ⟨rfl, ⟨⟨nd3, rfl⟩⟩⟩)
    | (go_at_call 36; (with_reducible refine (PR.out _).mono ?_); rintro e w42 ⟨rfl, hr, hc⟩; have HRX := Aside0.mk hr; have HBX := Aside0.mk (hc.below (bd HB14'.out _) HGG.out); clear hr hc))
  go_ret2
  refine ⟨_, rfl, ?_, HBX.out⟩
  have hl := RB_of_row HRX.out HGG.out (by rw [putL_len, HL13.out]; have := HN.out; omega)
  rw [putL_len, HL13.out] at hl
  have e : putL L13 22 2 (65535 - fold (pairs (summedL L13))) = buildL ⟨p0, p1, p2, p3, p4, p5, p6, p7, p8, p9, p10, p11, p12⟩ := by
    rw [show (65535 - fold (pairs (summedL L13)) : Int) = sumL p0 p9 L13 from by unfold sumL; rw [if_neg (fun h => by have := HK.out; omega), if_neg (fun h => by have := HK.out; omega)]]
    have hb : L13 = bodyL ⟨p0, p1, p2, p3, p4, p5, p6, p7, p8, p9, p10, p11, p12⟩ := by
      rw [← EL13.out, ← EL12.out, ← EL11.out, ← EL10.out, ← EL9.out, ← EL8.out, ← EL7.out, ← EL6.out, ← EL5.out, ← EL4.out]
      unfold bodyL h4L h3L
      simp only [HNL.out, HNN.out]
      rw [if_neg (show ¬ p0 = 3 by have := HK.out; omega), if_neg (show ¬ p0 = 2 by have := HK.out; omega)]
      rw [show n - p12.length = 24 + p11.length from by have := HN.out; omega]
    rw [hb]
    unfold buildL
    simp only []
    rw [if_neg (show ¬ p0 = 3 by have := HK.out; omega)]
  rw [← e]
  exact hl
end Go.Proofs.Ytbjhmifhmojaoaa.WB

namespace Go.Proofs.Ytbjhmifhmojaoaa.WB
set_option linter.unusedVariables false
set_option linter.unusedSimpArgs false
open Go.RowKit Go.Proofs.Ytbjhmifhmojaoaa.Hp Go.Proofs.Ytbjhmifhmojaoaa.SB Go.Proofs.YtbjhmifhmojaoaaW.PrintWords Go.Proofs.YtbjhmifhmojaoaaW.PrintLast Go.Proofs.YtbjhmifhmojaoaaW.PrintMore

/-- What stands behind Build's call. -/
def Built (w : World) (p : Pk) (e : Ending) (w' : World) : Prop :=
  ∃ v, e = .returned (.tuple #[v, .int .i64 (buildE p)]) ∧ RB w.heap.size w' v (if buildE p = 0 then buildL p else []) ∧ Below w.heap.size w w'
theorem built_err {w w' : World} {p : Pk} {e : Ending} {x : Int} (hx : buildE p = x) (h0 : x ≠ 0) (h : e = .returned (.tuple #[.slice none 0 0, .int .i64 x]) ∧ Below w.heap.size w w') : Built w p e w' :=
  ⟨.slice none 0 0, by rw [hx]; exact h.1, by rw [if_neg (by omega)]; exact Kd.R_nil _ _ _ _ _, h.2⟩
theorem built_ok {w w' : World} {p : Pk} {e : Ending} (hx : buildE p = 0) (h : ∃ v, e = .returned (.tuple #[v, .int .i64 0]) ∧ RB w.heap.size w' v (buildL p) ∧ Below w.heap.size w w') : Built w p e w' := by
  obtain ⟨v, h1, h2, h3⟩ := h
  exact ⟨v, by rw [hx]; exact h1, by rw [if_pos hx]; exact h2, h3⟩
theorem build_calls {p : Pk} {A1 A2 : Option Addr} {c1 c2 : Nat} {w : World} (ha : Kd.C (Kd.int .u8) w A1 p.opts.length p.opts) (hca : p.opts.length ≤ c1) (hd : Kd.C (Kd.int .u8) w A2 p.data.length p.data) (hcd : p.data.length ≤ c2) (hba : Bytes p.opts) (hbd : Bytes p.data)
    (hla : p.opts.length ≤ 100000) (hld : p.data.length ≤ 100000) : Calls Try.prog 17 #[pkV p (.slice A1 p.opts.length c1) (.slice A2 p.data.length c2)] w (Built w p) := by
  obtain ⟨p0, p1, p2, p3, p4, p5, p6, p7, p8, p9, p10, p11, p12⟩ := p
  dsimp only at ha hca hd hcd hba hbd hla hld
  have hE : buildE ⟨p0, p1, p2, p3, p4, p5, p6, p7, p8, p9, p10, p11, p12⟩ = (if ¬ (1 ≤ p0 ∧ p0 ≤ 3) then 2 else if okR ⟨p0, p1, p2, p3, p4, p5, p6, p7, p8, p9, p10, p11, p12⟩ = false then 14 else if p0 = 1 ∧ 40 < p11.length then 5
    else if (p0 = 3 ∧ p12.length < 24) ∨ 1500 < (if p0 = 1 then 24 + p12.length + p11.length else if p0 = 3 then 20 + p12.length else 24 + p12.length) then 3 else 0) := rfl
  by_cases hk : 1 ≤ p0 ∧ p0 ≤ 3
  · rw [if_neg (fun h => h hk)] at hE
    by_cases hok : okR ⟨p0, p1, p2, p3, p4, p5, p6, p7, p8, p9, p10, p11, p12⟩ = false
    · rw [if_pos hok] at hE
      exact (build_erange ha hca hd hcd hba hbd hla hld hk hok).mono fun _ _ h => built_err hE (by decide) h
    · rw [if_neg hok] at hE
      have hok' : okR ⟨p0, p1, p2, p3, p4, p5, p6, p7, p8, p9, p10, p11, p12⟩ = true := by simpa using hok
      have hkk : p0 = 1 ∨ p0 = 2 ∨ p0 = 3 := by omega
      rcases hkk with h | h | h
      · by_cases h5 : 40 < p11.length
        · rw [if_pos ⟨h, h5⟩] at hE
          exact (build_eopt ha hca hd hcd hba hbd hla hld h hok' h5).mono fun _ _ h => built_err hE (by decide) h
        · rw [if_neg (fun x => h5 x.2), if_pos h] at hE
          by_cases hl : 1500 < 24 + p12.length + p11.length
          · rw [if_pos (Or.inr hl)] at hE
            exact (build_elens ha hca hd hcd hba hbd hla hld h hok' hl (by omega)).mono fun _ _ h => built_err hE (by decide) h
          · rw [if_neg (by omega)] at hE
            exact (build_stream ha hca hd hcd hba hbd h hE).mono fun _ _ h => built_ok hE h
      · rw [if_neg (by omega), if_neg (show ¬ p0 = 1 by omega), if_neg (show ¬ p0 = 3 by omega)] at hE
        by_cases hl : 1500 < 24 + p12.length
        · rw [if_pos (Or.inr hl)] at hE
          exact (build_eleng ha hca hd hcd hba hbd hla hld h hok' hl).mono fun _ _ h => built_err hE (by decide) h
        · rw [if_neg (by omega)] at hE
          exact (build_gram ha hca hd hcd hba hbd h hE).mono fun _ _ h => built_ok hE h
      · rw [if_neg (by omega), if_neg (show ¬ p0 = 1 by omega), if_pos h] at hE
        by_cases h24 : p12.length < 24
        · rw [if_pos (Or.inl ⟨h, h24⟩)] at hE
          exact (build_elen3 ha hca hd hcd hba hbd hla hld h hok' h24).mono fun _ _ h => built_err hE (by decide) h
        · by_cases hl : 1500 < 20 + p12.length
          · rw [if_pos (Or.inr hl)] at hE
            exact (build_elenf ha hca hd hcd hba hbd hla hld h hok' hl (by omega)).mono fun _ _ h => built_err hE (by decide) h
          · rw [if_neg (by omega)] at hE
            exact (build_fault ha hca hd hcd hba hbd h hE).mono fun _ _ h => built_ok hE h
  · rw [if_pos hk] at hE
    exact (build_ekind ha hca hd hcd hba hbd hla hld hk).mono fun _ _ h => built_err hE (by decide) h
end Go.Proofs.Ytbjhmifhmojaoaa.WB

namespace Go.Proofs.Ytbjhmifhmojaoaa.WB
set_option linter.unusedVariables false
set_option linter.unusedSimpArgs false
open Go.RowKit Go.Proofs.Ytbjhmifhmojaoaa.Hp Go.Proofs.Ytbjhmifhmojaoaa.SB Go.Proofs.YtbjhmifhmojaoaaW.PrintWords Go.Proofs.YtbjhmifhmojaoaaW.PrintLast Go.Proofs.YtbjhmifhmojaoaaW.PrintMore

theorem rb_form {b : Nat} {w : World} {v : Value} {l : List Int} (h : RB b w v l) (h0 : 0 < l.length) : ∃ g c, v = .slice (some ⟨g, 0, none⟩) l.length c ∧ b ≤ g := by
  obtain ⟨g, c, e, hb, _⟩ := Kd.R_form h h0
  exact ⟨g, c, e, hb⟩
theorem rb_cell {b g n c : Nat} {w : World} {l : List Int} (h : RB b w (.slice (some ⟨g, 0, none⟩) n c) l) (i : Nat) (hi : i < n) : w.cell? ⟨g, i, none⟩ = some (.int .u8 (l.getD i 0)) := by
  obtain ⟨ad, e, hc⟩ := cells_of (w := w) (A := some ⟨g, 0, none⟩) (n := n) (l := l) (by have := (Kd.R_reads' h); rw [this.1]; exact this.2.2) (by omega)
  injection e with e
  subst e
  have := hc i hi
  rw [Addr.add_mid] at this
  simpa using this
theorem rb_frozen {b g n c : Nat} {w : World} {l : List Int} (h : RB b w (.slice (some ⟨g, 0, none⟩) n c) l) (i : Nat) : w.frozen? ⟨g, i, none⟩ = false := by
  have ho := Kd.own_of_R (enc := Value.int .u8) (h1 := fun _ => rfl) h
  rcases ho.2 with ⟨hv, _⟩ | ⟨g', cap, cur, hv, _, hh, _⟩
  · cases hv
  · injection hv with ha _ _
    injection ha with ha
    injection ha with ha
    subst ha
    simp [World.frozen?, hh]
theorem rb_set {b g n c : Nat} {w : World} {l : List Int} (h : RB b w (.slice (some ⟨g, 0, none⟩) n c) l) (i : Nat) (x : Int) : RB b (w.setCell ⟨g, i, none⟩ (.int .u8 x)) (.slice (some ⟨g, 0, none⟩) n c) (l.set i x) := by
  have := Kd.R_putn h (i : Int) x
  simp only [Int.toNat_natCast] at this
  exact this
def h3R (n : Nat) (kind life piece frm dst : Int) : List Int :=
  putL (putL (putL ((((List.replicate 16 0).set 0 (kind % 256)).set 1 (life % 256)).set 12 (piece % 256)) 2 2 n) 4 4 frm) 8 4 dst
def h4R (n : Nat) (kind life piece frm dst : Int) : List Int := putL (h3R n kind life piece frm dst) 14 2 (65535 - fold (pairs (h3R n kind life piece frm dst)))
def rbodyL (p : Pk) : List Int :=
  let h4 := h4R (nL p) p.kind p.life p.piece p.frm p.dst
  (if p.kind = 3 then h4 ++ [p.code % 256, 0, 0, 0]
    else putL (putL (if p.kind = 2 then putL (h4 ++ List.replicate 8 0) 20 2 p.label else ((h4 ++ List.replicate 8 0 ++ p.opts).set 20 (p.flags % 256)).set 21 ((p.opts.length : Int) % 256)) 16 2 p.fp) 18 2 p.tp) ++ p.data
def rbuildL (p : Pk) : List Int := putL (rbodyL p) (if p.kind = 3 then 18 else 22) 2 (sumL p.kind p.bare (rbodyL p))
theorem putL_app (i : Nat) : ∀ (m : Nat) (A B : List Int) (v : Int), i + m ≤ A.length → putL (A ++ B) i m v = putL A i m v ++ B
  | 0, _, _, _, _ => rfl
  | m + 1, A, B, v, h => by
    rw [putL, putL, List.set_append_left _ _ (by omega)]
    exact putL_app i m _ _ _ (by rw [List.length_set]; omega)
theorem h3L_app (n : Nat) (h : 16 ≤ n) (a b c d e : Int) : h3L n a b c d e = h3R n a b c d e ++ List.replicate (n - 16) 0 := by
  unfold h3L h3R
  have e0 : List.replicate n (0 : Int) = List.replicate 16 0 ++ List.replicate (n - 16) 0 := by rw [List.replicate_append_replicate]; congr 1; omega
  rw [e0, List.set_append_left _ _ (by simp), List.set_append_left _ _ (by simp), List.set_append_left _ _ (by simp), putL_app _ _ _ _ _ (by simp), putL_app _ _ _ _ _ (by rw [putL_len]; simp), putL_app _ _ _ _ _ (by rw [putL_len, putL_len]; simp)]
theorem h3R_len (n : Nat) (a b c d e : Int) : (h3R n a b c d e).length = 16 := by unfold h3R; rw [putL_len, putL_len, putL_len]; simp
theorem h4R_len (n : Nat) (a b c d e : Int) : (h4R n a b c d e).length = 16 := by unfold h4R; rw [putL_len, h3R_len]
theorem h4L_app (n : Nat) (h : 16 ≤ n) (a b c d e : Int) : h4L n a b c d e = h4R n a b c d e ++ List.replicate (n - 16) 0 := by
  unfold h4L h4R
  rw [h3L_app n h, List.take_left' (h3R_len ..), putL_app _ _ _ _ _ (by rw [h3R_len]; decide)]
theorem splice_end {A Z : List Int} {cs : List Int} {o : Nat} (ho : A.length = o) (hz : Z.length = cs.length) : splice (A ++ Z) o cs = A ++ cs := by
  unfold splice
  rw [List.take_left' ho, List.drop_of_length_le (by rw [List.length_append]; omega), List.append_nil]
end Go.Proofs.Ytbjhmifhmojaoaa.WB

namespace Go.Proofs.Ytbjhmifhmojaoaa.WB
set_option linter.unusedVariables false
set_option linter.unusedSimpArgs false
open Go.RowKit Go.Proofs.Ytbjhmifhmojaoaa.Hp Go.Proofs.Ytbjhmifhmojaoaa.SB Go.Proofs.YtbjhmifhmojaoaaW.PrintWords Go.Proofs.YtbjhmifhmojaoaaW.PrintLast Go.Proofs.YtbjhmifhmojaoaaW.PrintMore
set_option maxHeartbeats 8000000 in
set_option maxRecDepth 100000 in
theorem rbuild_gram {A1 A2 : Option Addr} {c1 c2 : Nat} {p0 p1 p2 p3 p4 p5 p6 p7 p8 : Int} {p9 : Bool} {p10 : Int} {p11 p12 : List Int} {w : World} (ha : Kd.C (Kd.int .u8) w A1 p11.length p11) (hca : p11.length ≤ c1) (hd : Kd.C (Kd.int .u8) w A2 p12.length p12) (hcd : p12.length ≤ c2) (hba : Bytes p11) (hbd : Bytes p12) (hk : p0 = 2) (he : buildE ⟨p0, p1, p2, p3, p4, p5, p6, p7, p8, p9, p10, p11, p12⟩ = 0) :
    Calls Try.prog 18 #[.agg #[.int .i64 p0, .int .i64 p1, .int .i64 p2, .int .i64 p3, .int .i64 p4, .int .i64 p5, .int .i64 p6, .int .i64 p7, .int .i64 p8, .bool p9, .int .i64 p10, .slice A1 p11.length c1, .slice A2 p12.length c2]] w fun e w' => ∃ v, e = .returned (.tuple #[v, .int .i64 0]) ∧ RB w.heap.size w' v (rbuildL ⟨p0, p1, p2, p3, p4, p5, p6, p7, p8, p9, p10, p11, p12⟩) ∧ Below w.heap.size w w' := by
  have hn : nL ⟨p0, p1, p2, p3, p4, p5, p6, p7, p8, p9, p10, p11, p12⟩ = 24 + p12.length := by unfold nL; simp [hk]
  have hok : okR ⟨p0, p1, p2, p3, p4, p5, p6, p7, p8, p9, p10, p11, p12⟩ = true := by
    unfold buildE at he
    split at he
    · cases he
    split at he
    · cases he
    rename_i h; simpa using h
  have hlim : nL ⟨p0, p1, p2, p3, p4, p5, p6, p7, p8, p9, p10, p11, p12⟩ ≤ 1500 ∧ (p0 = 1 → p11.length ≤ 40) ∧ (p0 = 3 → 24 ≤ p12.length) := by
    unfold buildE at he
    split at he
    · cases he
    split at he
    · cases he
    split at he
    · cases he
    split at he
    · cases he
    rename_i h1 h2 h3 h4
    refine ⟨by omega, fun h => ?_, fun h => ?_⟩
    · have : ¬ 40 < p11.length := fun h5 => h3 ⟨h, h5⟩
      omega
    · have : ¬ p12.length < 24 := fun h5 => h4 (Or.inl ⟨h, h5⟩)
      omega
  obtain ⟨n, hne⟩ : ∃ n, 24 + p12.length = n := ⟨_, rfl⟩
  rw [hn, hne] at hlim
  have HN := Aside0.mk (show 20 ≤ n ∧ n ≤ 1500 ∧ 24 + p12.length = n from ⟨by omega, hlim.1, hne⟩)
  have HNL := Aside0.mk (hn.trans hne)
  have HLIM := Aside0.mk hlim
  have HNN := Aside0.mk (show wrap64 (24 + (p12.length : Int)) = (n : Int) from by rw [wid (by omega) (by omega)]; omega)
  have dlim : decide (1500 < wrap64 (24 + (p12.length : Int))) = false := decide_eq_false (by rw [HNN.out]; omega)
  have HA := Aside0.mk ha
  have HD := Aside0.mk hd
  have HCA := Aside0.mk hca
  have HCD := Aside0.mk hcd
  have HYA := Aside0.mk hba
  have HYD := Aside0.mk hbd
  have HK := Aside0.mk hk
  simp [okR, rgB, hk] at hok
  have dk1 : decide (p0 < 1) = false := decide_eq_false (by omega)
  have dk3 : decide (3 < p0) = false := decide_eq_false (by omega)
  have of : ∀ (a m : Int), 0 ≤ a → a ≤ m → roundhouseref3_out.f a m = some false := fun a m h0 h1 => by unfold roundhouseref3_out.f; rw [if_neg (by omega)]; simp; omega
  have O1 := Aside0.mk (fun W => roundhouseref3_out.calls p1 255 false W (of _ _ (by omega) (by omega)))
  have O2 := Aside0.mk (fun W => roundhouseref3_out.calls p2 255 false W (of _ _ (by omega) (by omega)))
  have O3 := Aside0.mk (fun W => roundhouseref3_out.calls p3 4294967295 false W (of _ _ (by omega) (by omega)))
  have O4 := Aside0.mk (fun W => roundhouseref3_out.calls p4 4294967295 false W (of _ _ (by omega) (by omega)))
  have O5 := Aside0.mk (fun W => roundhouseref3_out.calls p5 65535 false W (of _ _ (by omega) (by omega)))
  have O6 := Aside0.mk (fun W => roundhouseref3_out.calls p6 65535 false W (of _ _ (by omega) (by omega)))
  have O8 := Aside0.mk (fun W => roundhouseref3_out.calls p8 65535 false W (of _ _ (by omega) (by omega)))
  have q1 : (p0 == 1) = false := by rw [hk]; rfl
  have q1n : (p0 != 1) = true := by rw [hk]; rfl
  have q2 : (p0 == 2) = true := by rw [hk]; rfl
  have q2n : (p0 != 2) = false := by rw [hk]; rfl
  have q3 : (p0 == 3) = false := by rw [hk]; rfl
  have q3n : (p0 != 3) = true := by rw [hk]; rfl
  clear ha hd hba hbd hk he hn hok hlim hne hca hcd of
  go_enter Try.func18, Try.ntmps18
  go_upto_region 3 with fail
  have hz1 := new_blk w (.cells #[.int .i64 p0, .int .i64 p1, .int .i64 p2, .int .i64 p3, .int .i64 p4, .int .i64 p5, .int .i64 p6, .int .i64 p7, .int .i64 p8, .bool p9, .int .i64 p10, .slice A1 p11.length c1, .slice A2 p12.length c2] 26)
  have HB1 := Aside0.mk ((Below.refl w.heap.size w).alloc (Nat.le_refl _) (.cells #[.int .i64 p0, .int .i64 p1, .int .i64 p2, .int .i64 p3, .int .i64 p4, .int .i64 p5, .int .i64 p6, .int .i64 p7, .int .i64 p8, .bool p9, .int .i64 p10, .slice A1 p11.length c1, .slice A2 p12.length c2] 26))
  generalize (w.alloc (.cells #[.int .i64 p0, .int .i64 p1, .int .i64 p2, .int .i64 p3, .int .i64 p4, .int .i64 p5, .int .i64 p6, .int .i64 p7, .int .i64 p8, .bool p9, .int .i64 p10, .slice A1 p11.length c1, .slice A2 p12.length c2] 26)) = w1 at hz1 HB1 ⊢
  have HZ1 := Aside0.mk hz1
  have k0 := (c13 hz1).1
  clear hz1
  refine start_ (n := 12) (S := fun w' => w'.cell? ⟨w.heap.size, 0, none⟩ = some (.int .i64 p0)) (ds := []) #[false, false, false, false, false, false, false, false, false, false, false, false] (by kernel_rfl) rfl rfl (k0) (fun hHeld => ?_)
  refine pure_ (i := 0) (N := some 18) (v := ?_) (a' := ?_) #[true, false, false, false, false, false, false, false, false, false, false, false] rfl rfl (by kernel_rfl) (fun _ _ _ h => h) (Or.inl ⟨by rfl, ?_⟩) ?_ ?_
  rotate_left
  · intro w'
    go_simp
    with_reducible rfl
  rotate_left
  · simp only [Act.put, List.setIfInBounds_toArray, List.set_cons_zero, List.set_cons_succ, i64_w, i32_w]
    rfl
  refine pure_ (i := 3) (N := some 21) (v := ?_) (a' := ?_) #[true, false, false, true, false, false, false, false, false, false, false, false] rfl rfl (by kernel_rfl) (fun _ _ _ h => h) (Or.inl ⟨by rfl, ?_⟩) ?_ ?_
  rotate_left
  · intro w'
    go_simp
    with_reducible rfl
  rotate_left
  · simp only [Act.put, List.setIfInBounds_toArray, List.set_cons_zero, List.set_cons_succ, i64_w, i32_w]
    rfl
  refine pure_ (i := 6) (N := some 24) (v := ?_) (a' := ?_) #[true, false, false, true, false, false, true, false, false, false, false, false] rfl rfl (by kernel_rfl) (fun _ _ _ h => h) (Or.inl ⟨by rfl, ?_⟩) ?_ ?_
  rotate_left
  · intro w'
    go_simp
    with_reducible rfl
  rotate_left
  · simp only [Act.put, List.setIfInBounds_toArray, List.set_cons_zero, List.set_cons_succ, i64_w, i32_w]
    rfl
  refine take_ (i := 1) (N := some 19) (v := ?_) (a' := ?_) #[true, true, false, true, false, false, true, false, false, false, false, false] rfl rfl (by kernel_rfl) (fun _ _ _ h => h) (Or.inl ⟨by rfl, ?_⟩) hHeld ?_ ?_
  rotate_left
  · intro w' s0
    go_simp
    with_reducible rfl
  rotate_left
  · simp only [Act.put, List.setIfInBounds_toArray, List.set_cons_zero, List.set_cons_succ, i64_w, i32_w]
    rfl
  refine pure_ (i := 2) (N := some 20) (v := ?_) (a' := ?_) #[true, true, true, true, false, false, true, false, false, false, false, false] rfl rfl (by kernel_rfl) (fun _ _ _ h => h) (Or.inl ⟨by rfl, ?_⟩) ?_ ?_
  rotate_left
  · intro w'
    go_simp
    with_reducible rfl
  rotate_left
  · simp only [Act.put, List.setIfInBounds_toArray, List.set_cons_zero, List.set_cons_succ, i64_w, i32_w]
    rfl
  refine pure_ (i := 9) (N := some 4) (v := ?_) (a' := ?_) #[true, true, true, true, false, false, true, false, false, true, false, false] rfl rfl (by kernel_rfl) (fun _ _ _ h => h) (Or.inl ⟨by rfl, ?_⟩) ?_ ?_
  rotate_left
  · intro w'
    go_simp
    with_reducible rfl
  rotate_left
  · simp only [Act.put, List.setIfInBounds_toArray, List.set_cons_zero, List.set_cons_succ, i64_w, i32_w]
    rfl
  refine take_ (i := 4) (N := some 22) (v := ?_) (a' := ?_) #[true, true, true, true, true, false, true, false, false, true, false, false] rfl rfl (by kernel_rfl) (fun _ _ _ h => h) (Or.inl ⟨by rfl, ?_⟩) hHeld ?_ ?_
  rotate_left
  · intro w' s0
    go_simp
    with_reducible rfl
  rotate_left
  · simp only [Act.put, List.setIfInBounds_toArray, List.set_cons_zero, List.set_cons_succ, i64_w, i32_w]
    rfl
  refine pure_ (i := 5) (N := some 23) (v := ?_) (a' := ?_) #[true, true, true, true, true, true, true, false, false, true, false, false] rfl rfl (by kernel_rfl) (fun _ _ _ h => h) (Or.inl ⟨by rfl, ?_⟩) ?_ ?_
  rotate_left
  · intro w'
    go_simp
    with_reducible rfl
  rotate_left
  · simp only [Act.put, List.setIfInBounds_toArray, List.set_cons_zero, List.set_cons_succ, i64_w, i32_w]
    rfl
  refine pure_ (i := 10) (N := some 5) (v := ?_) (a' := ?_) #[true, true, true, true, true, true, true, false, false, true, true, false] rfl rfl (by kernel_rfl) (fun _ _ _ h => h) (Or.inl ⟨by rfl, ?_⟩) ?_ ?_
  rotate_left
  · intro w'
    go_simp
    with_reducible rfl
  rotate_left
  · simp only [Act.put, List.setIfInBounds_toArray, List.set_cons_zero, List.set_cons_succ, i64_w, i32_w]
    rfl
  refine take_ (i := 7) (N := some 25) (v := ?_) (a' := ?_) #[true, true, true, true, true, true, true, true, false, true, true, false] rfl rfl (by kernel_rfl) (fun _ _ _ h => h) (Or.inl ⟨by rfl, ?_⟩) hHeld ?_ ?_
  rotate_left
  · intro w' s0
    go_simp
    with_reducible rfl
  rotate_left
  · simp only [Act.put, List.setIfInBounds_toArray, List.set_cons_zero, List.set_cons_succ, i64_w, i32_w]
    rfl
  refine pure_ (i := 8) (N := some 26) (v := ?_) (a' := ?_) #[true, true, true, true, true, true, true, true, true, true, true, false] rfl rfl (by kernel_rfl) (fun _ _ _ h => h) (Or.inl ⟨by rfl, ?_⟩) ?_ ?_
  rotate_left
  · intro w'
    go_simp
    with_reducible rfl
  rotate_left
  · simp only [Act.put, List.setIfInBounds_toArray, List.set_cons_zero, List.set_cons_succ, i64_w, i32_w]
    rfl
  refine pure_ (i := 11) (N := some 6) (v := ?_) (a' := ?_) #[true, true, true, true, true, true, true, true, true, true, true, true] rfl rfl (by kernel_rfl) (fun _ _ _ h => h) (Or.inl ⟨by rfl, ?_⟩) ?_ ?_
  rotate_left
  · intro w'
    go_simp
    with_reducible rfl
  rotate_left
  · simp only [Act.put, List.setIfInBounds_toArray, List.set_cons_zero, List.set_cons_succ, i64_w, i32_w]
    rfl
  refine done_ (by kernel_rfl) ?_
  clear hHeld k0
  obtain ⟨k0, k1, k2, k3, k4, k5, k6, k7, k8, k9, k10, k11, k12⟩ := c13 HZ1.out
  go_upto_region 15 with (first | (go_at_call 40; (with_reducible refine (O1.out _).mono ?_); rintro e w5 ⟨rfl, ⟨⟨nd, rfl⟩⟩⟩) | (go_at_call 40; (with_reducible refine (O2.out _).mono ?_); rintro e w5 ⟨rfl, ⟨⟨nd, rfl⟩⟩⟩) | (go_at_call 40; (with_reducible refine (O3.out _).mono ?_); rintro e w5 ⟨rfl, ⟨⟨nd, rfl⟩⟩⟩) | (go_at_call 40; (with_reducible refine (O4.out _).mono ?_); rintro e w5 ⟨rfl, ⟨⟨nd, rfl⟩⟩⟩) | (go_at_call 40; (with_reducible refine (O5.out _).mono ?_); rintro e w5 ⟨rfl, ⟨⟨nd, rfl⟩⟩⟩) | (go_at_call 40; (with_reducible refine (O6.out _).mono ?_); rintro e w5 ⟨rfl, ⟨⟨nd, rfl⟩⟩⟩) | (go_at_call 40; (with_reducible refine (O8.out _).mono ?_); rintro e w5 ⟨rfl, ⟨⟨nd, rfl⟩⟩⟩))
  generalize hW : World.drewN _ _ = w2
  have HZ2 : Aside0 (w2.heap[w.heap.size]? = some (.cells #[.int .i64 p0, .int .i64 p1, .int .i64 p2, .int .i64 p3, .int .i64 p4, .int .i64 p5, .int .i64 p6, .int .i64 p7, .int .i64 p8, .bool p9, .int .i64 p10, .slice A1 p11.length c1, .slice A2 p12.length c2] 26 (0, 0))) := Aside0.mk (by rw [← hW]; exact HZ1.out)
  have HB2 : Aside0 (Below w.heap.size w w2) := Aside0.mk (by rw [← hW]; exact bd HB1.out _)
  clear hW k0 k1 k2 k3 k4 k5 k6 k7 k8 k9 k10 k11 k12 HZ1 HB1 dlim dk1 dk3 O1 O2 O3 O4 O5 O6 O8
  have HQ2 := Aside0.mk (Below.refl w2.heap.size w2)
  obtain ⟨k0, k1, k2, k3, k4, k5, k6, k7, k8, k9, k10, k11, k12⟩ := c13 HZ2.out
  go_upto_region 16 with (first
    | ((with_reducible refine gate_dst (N := 117) rfl ?_); refine R_make_cap (w0 := w2) w2.heap.size rfl rfl (.const (.int .i64 16)) (.tmp 116) rfl 16 n 16 (wrap64 (24 + (p12.length : Int))) rfl HNN.out rfl rfl (by have := HN.out; omega) (by have := HN.out; omega) HQ2.out (Nat.le_refl _) ?_; intro v3 w3 ho hb hg hat; obtain ⟨g3, cc3, ev, hgb⟩ := rb_form ho (by simp); simp only [List.length_replicate] at ev; subst ev; have HG3 := Aside0.mk hgb; have HR3 := Aside0.mk ho; have HQ3 := Aside0.mk hb; clear ho hb hg hat hgb; clear k0 k1 k2 k3 k4 k5 k6 k7 k8 k9 k10 k11 k12; have hz_ := (HQ3.out.block w.heap.size (blk_lt HZ2.out)).trans HZ2.out; obtain ⟨k0, k1, k2, k3, k4, k5, k6, k7, k8, k9, k10, k11, k12⟩ := c13 hz_; clear hz_))
  have HCZ := Aside0.mk (fun W (h : Below w2.heap.size w2 W) => c13 ((h.block w.heap.size (blk_lt HZ2.out)).trans HZ2.out))
  have r0 := rb_cell HR3.out 0 (by omega)
  have r1 := rb_cell HR3.out 1 (by omega)
  have r12 := rb_cell HR3.out 12 (by omega)
  have s0 := rb_frozen HR3.out 0
  have s1 := rb_frozen HR3.out 1
  have s12 := rb_frozen HR3.out 12
  clear k0 k1 k2 k3 k4 k5 k6 k7 k8 k9 k10 k11 k12
  refine start_ (n := 18) (S := fun w' => w'.cell? ⟨w.heap.size, 0, none⟩ = some (.int .i64 p0) ∧ w'.cell? ⟨w.heap.size, 1, none⟩ = some (.int .i64 p1) ∧ w'.cell? ⟨w.heap.size, 2, none⟩ = some (.int .i64 p2)) (ds := []) #[false, false, false, false, false, false, false, false, false, false, false, false, false, false, false, false, false, false] (by kernel_rfl) rfl rfl ⟨(HCZ.out _ HQ3.out.drew).1, (HCZ.out _ HQ3.out.drew).2.1, (HCZ.out _ HQ3.out.drew).2.2.1⟩ (fun hHeld => ?_)
  refine pure_ (i := 0) (N := some 118) (v := ?_) (a' := ?_) #[true, false, false, false, false, false, false, false, false, false, false, false, false, false, false, false, false, false] rfl rfl (by kernel_rfl) (fun _ _ _ h => h) (Or.inl ⟨by rfl, ?_⟩) ?_ ?_
  rotate_left
  · intro w'
    go_simp
    with_reducible rfl
  rotate_left
  · simp only [Act.put, List.setIfInBounds_toArray, List.set_cons_zero, List.set_cons_succ, i64_w, i32_w]
    rfl
  refine pure_ (i := 1) (N := some 119) (v := ?_) (a' := ?_) #[true, true, false, false, false, false, false, false, false, false, false, false, false, false, false, false, false, false] rfl rfl (by kernel_rfl) (fun _ _ _ h => h) (Or.inl ⟨by rfl, ?_⟩) ?_ ?_
  rotate_left
  · intro w'
    go_simp
    with_reducible rfl
  rotate_left
  · simp only [Act.put, List.setIfInBounds_toArray, List.set_cons_zero, List.set_cons_succ, i64_w, i32_w]
    rfl
  refine pure_ (i := 2) (N := some 120) (v := ?_) (a' := ?_) #[true, true, true, false, false, false, false, false, false, false, false, false, false, false, false, false, false, false] rfl rfl (by kernel_rfl) (fun _ _ _ h => h) (Or.inl ⟨by rfl, ?_⟩) ?_ ?_
  rotate_left
  · intro w'
    go_simp
    with_reducible rfl
  rotate_left
  · simp only [Act.put, List.setIfInBounds_toArray, List.set_cons_zero, List.set_cons_succ, i64_w, i32_w]
    rfl
  refine pure_ (i := 3) (N := some 121) (v := ?_) (a' := ?_) #[true, true, true, true, false, false, false, false, false, false, false, false, false, false, false, false, false, false] rfl rfl (by kernel_rfl) (fun _ _ _ h => h) (Or.inl ⟨by rfl, ?_⟩) ?_ ?_
  rotate_left
  · intro w'
    go_simp
    with_reducible rfl
  rotate_left
  · simp only [Act.put, List.setIfInBounds_toArray, List.set_cons_zero, List.set_cons_succ, i64_w, i32_w]
    rfl
  refine pure_ (i := 6) (N := some 124) (v := ?_) (a' := ?_) #[true, true, true, true, false, false, true, false, false, false, false, false, false, false, false, false, false, false] rfl rfl (by kernel_rfl) (fun _ _ _ h => h) (Or.inl ⟨by rfl, ?_⟩) ?_ ?_
  rotate_left
  · intro w'
    go_simp
    with_reducible rfl
  rotate_left
  · simp only [Act.put, List.setIfInBounds_toArray, List.set_cons_zero, List.set_cons_succ, i64_w, i32_w]
    rfl
  refine pure_ (i := 9) (N := some 127) (v := ?_) (a' := ?_) #[true, true, true, true, false, false, true, false, false, true, false, false, false, false, false, false, false, false] rfl rfl (by kernel_rfl) (fun _ _ _ h => h) (Or.inl ⟨by rfl, ?_⟩) ?_ ?_
  rotate_left
  · intro w'
    go_simp
    with_reducible rfl
  rotate_left
  · simp only [Act.put, List.setIfInBounds_toArray, List.set_cons_zero, List.set_cons_succ, i64_w, i32_w]
    rfl
  refine take_ (i := 4) (N := some 122) (v := ?_) (a' := ?_) #[true, true, true, true, true, false, true, false, false, true, false, false, false, false, false, false, false, false] rfl rfl (by kernel_rfl) (fun _ _ _ h => h) (Or.inl ⟨by rfl, ?_⟩) hHeld ?_ ?_
  rotate_left
  · rintro w' ⟨s0, s1, s2⟩
    go_simp
    with_reducible rfl
  rotate_left
  · simp only [Act.put, List.setIfInBounds_toArray, List.set_cons_zero, List.set_cons_succ, i64_w, i32_w]
    rfl
  refine pure_ (i := 5) (N := some 123) (v := ?_) (a' := ?_) #[true, true, true, true, true, true, true, false, false, true, false, false, false, false, false, false, false, false] rfl rfl (by kernel_rfl) (fun _ _ _ h => h) (Or.inl ⟨by rfl, ?_⟩) ?_ ?_
  rotate_left
  · intro w'
    go_simp
    with_reducible rfl
  rotate_left
  · simp only [Act.put, List.setIfInBounds_toArray, List.set_cons_zero, List.set_cons_succ, i64_w, i32_w]
    rfl
  refine pure_ (i := 12) (N := some 130) (v := ?_) (a' := ?_) #[true, true, true, true, true, true, true, false, false, true, false, false, true, false, false, false, false, false] rfl rfl (by kernel_rfl) (fun _ _ _ h => h) (Or.inl ⟨by rfl, ?_⟩) ?_ ?_
  rotate_left
  · intro w'
    go_simp
    with_reducible rfl
  rotate_left
  · simp only [Act.put, List.setIfInBounds_toArray, List.set_cons_zero, List.set_cons_succ, i64_w, i32_w]
    rfl
  refine take_ (i := 7) (N := some 125) (v := ?_) (a' := ?_) #[true, true, true, true, true, true, true, true, false, true, false, false, true, false, false, false, false, false] rfl rfl (by kernel_rfl) (fun _ _ _ h => h) (Or.inl ⟨by rfl, ?_⟩) hHeld ?_ ?_
  rotate_left
  · rintro w' ⟨s0, s1, s2⟩
    go_simp
    with_reducible rfl
  rotate_left
  · simp only [Act.put, List.setIfInBounds_toArray, List.set_cons_zero, List.set_cons_succ, i64_w, i32_w]
    rfl
  refine pure_ (i := 8) (N := some 126) (v := ?_) (a' := ?_) #[true, true, true, true, true, true, true, true, true, true, false, false, true, false, false, false, false, false] rfl rfl (by kernel_rfl) (fun _ _ _ h => h) (Or.inl ⟨by rfl, ?_⟩) ?_ ?_
  rotate_left
  · intro w'
    go_simp
    with_reducible rfl
  rotate_left
  · simp only [Act.put, List.setIfInBounds_toArray, List.set_cons_zero, List.set_cons_succ, i64_w, i32_w]
    rfl
  refine take_ (i := 10) (N := some 128) (v := ?_) (a' := ?_) #[true, true, true, true, true, true, true, true, true, true, true, false, true, false, false, false, false, false] rfl rfl (by kernel_rfl) (fun _ _ _ h => h) (Or.inl ⟨by rfl, ?_⟩) hHeld ?_ ?_
  rotate_left
  · rintro w' ⟨s0, s1, s2⟩
    go_simp
    with_reducible rfl
  rotate_left
  · simp only [Act.put, List.setIfInBounds_toArray, List.set_cons_zero, List.set_cons_succ, i64_w, i32_w]
    rfl
  refine pure_ (i := 11) (N := some 129) (v := ?_) (a' := ?_) #[true, true, true, true, true, true, true, true, true, true, true, true, true, false, false, false, false, false] rfl rfl (by kernel_rfl) (fun _ _ _ h => h) (Or.inl ⟨by rfl, ?_⟩) ?_ ?_
  rotate_left
  · intro w'
    go_simp
    with_reducible rfl
  rotate_left
  · simp only [Act.put, List.setIfInBounds_toArray, List.set_cons_zero, List.set_cons_succ, i64_w, i32_w]
    rfl
  refine one_ (i := 13) (N := none) #[true, true, true, true, true, true, true, true, true, true, true, true, true, true, false, false, false, false] rfl rfl (by kernel_rfl) (by decide) (fun K hK => ?_)
  refine skip_ (w1 := ?_) (by rfl) rfl ?_ ?_
  rotate_left
  · go_simp
    rfl
  refine hK.out _ _ ⟨(HCZ.out _ (HQ3.out.drew.setCell (p := ⟨g3, 0, none⟩) HG3.out _)).1, (HCZ.out _ (HQ3.out.drew.setCell (p := ⟨g3, 0, none⟩) HG3.out _)).2.1, (HCZ.out _ (HQ3.out.drew.setCell (p := ⟨g3, 0, none⟩) HG3.out _)).2.2.1⟩ (fun hHeld => ?_)
  clear hK K
  refine pure_ (i := 14) (N := some 131) (v := ?_) (a' := ?_) #[true, true, true, true, true, true, true, true, true, true, true, true, true, true, true, false, false, false] rfl rfl (by kernel_rfl) (fun _ _ _ h => h) (Or.inl ⟨by rfl, ?_⟩) ?_ ?_
  rotate_left
  · intro w'
    go_simp
    with_reducible rfl
  rotate_left
  · simp only [Act.put, List.setIfInBounds_toArray, List.set_cons_zero, List.set_cons_succ, i64_w, i32_w]
    rfl
  refine one_ (i := 15) (N := none) #[true, true, true, true, true, true, true, true, true, true, true, true, true, true, true, true, false, false] rfl rfl (by kernel_rfl) (by decide) (fun K hK => ?_)
  refine skip_ (w1 := ?_) (by rfl) rfl ?_ ?_
  rotate_left
  · go_simp
    rfl
  refine hK.out _ _ ⟨(HCZ.out _ ((HQ3.out.drew.setCell (p := ⟨g3, 0, none⟩) HG3.out _).setCell (p := ⟨g3, 1, none⟩) HG3.out _)).1, (HCZ.out _ ((HQ3.out.drew.setCell (p := ⟨g3, 0, none⟩) HG3.out _).setCell (p := ⟨g3, 1, none⟩) HG3.out _)).2.1, (HCZ.out _ ((HQ3.out.drew.setCell (p := ⟨g3, 0, none⟩) HG3.out _).setCell (p := ⟨g3, 1, none⟩) HG3.out _)).2.2.1⟩ (fun hHeld => ?_)
  clear hK K
  refine pure_ (i := 16) (N := some 132) (v := ?_) (a' := ?_) #[true, true, true, true, true, true, true, true, true, true, true, true, true, true, true, true, true, false] rfl rfl (by kernel_rfl) (fun _ _ _ h => h) (Or.inl ⟨by rfl, ?_⟩) ?_ ?_
  rotate_left
  · intro w'
    go_simp
    with_reducible rfl
  rotate_left
  · simp only [Act.put, List.setIfInBounds_toArray, List.set_cons_zero, List.set_cons_succ, i64_w, i32_w]
    rfl
  refine one_ (i := 17) (N := none) #[true, true, true, true, true, true, true, true, true, true, true, true, true, true, true, true, true, true] rfl rfl (by kernel_rfl) (by decide) (fun K hK => ?_)
  refine skip_ (w1 := ?_) (by rfl) rfl ?_ ?_
  rotate_left
  · go_simp
    rfl
  refine hK.out _ _ ⟨(HCZ.out _ (((HQ3.out.drew.setCell (p := ⟨g3, 0, none⟩) HG3.out _).setCell (p := ⟨g3, 1, none⟩) HG3.out _).setCell (p := ⟨g3, 12, none⟩) HG3.out _)).1, (HCZ.out _ (((HQ3.out.drew.setCell (p := ⟨g3, 0, none⟩) HG3.out _).setCell (p := ⟨g3, 1, none⟩) HG3.out _).setCell (p := ⟨g3, 12, none⟩) HG3.out _)).2.1, (HCZ.out _ (((HQ3.out.drew.setCell (p := ⟨g3, 0, none⟩) HG3.out _).setCell (p := ⟨g3, 1, none⟩) HG3.out _).setCell (p := ⟨g3, 12, none⟩) HG3.out _)).2.2.1⟩ (fun hHeld => ?_)
  clear hK K
  refine done_ (by kernel_rfl) ?_
  clear r0 r1 r12 s0 s1 s12 hHeld
  generalize hW : World.drew _ = w4
  have hr : RB w2.heap.size w4 (.slice (some ⟨g3, 0, none⟩) 16 cc3) ((((List.replicate 16 0).set 0 (IntKind.u8.wrap p0)).set 1 (IntKind.u8.wrap p1)).set 12 (IntKind.u8.wrap p2)) := by
    rw [← hW]
    exact Kd.R_drew (rb_set (rb_set (rb_set HR3.out 0 (IntKind.u8.wrap p0)) 1 (IntKind.u8.wrap p1)) 12 (IntKind.u8.wrap p2))
  simp only [IntKind.wrap_u8] at hr
  obtain ⟨L4, el⟩ : ∃ L, (((List.replicate 16 0).set 0 (p0 % 256)).set 1 (p1 % 256)).set 12 (p2 % 256) = L := ⟨_, rfl⟩
  rw [el] at hr
  have EL4 := Aside0.mk el
  clear el
  have HR4 := Aside0.mk hr
  have HQ4 := Aside0.mk (show Below w2.heap.size w2 w4 from by
    rw [← hW]
    exact (((HQ3.out.setCell (p := ⟨g3, 0, none⟩) HG3.out _).setCell (p := ⟨g3, 1, none⟩) HG3.out _).setCell (p := ⟨g3, 12, none⟩) HG3.out _).drew)
  have HL4 := Aside0.mk (show L4.length = 16 from by rw [← EL4.out]; simp)
  have HY4 := Aside0.mk (show Bytes L4 from by
    rw [← EL4.out]
    refine Bytes.set (Bytes.set (Bytes.set ?_ _ (by omega) (by omega)) _ (by omega) (by omega)) _ (by omega) (by omega)
    intro x hx
    have := List.eq_of_mem_replicate hx
    omega)
  clear hW hr HCZ HR3
  have hz_ := (HQ4.out.block w.heap.size (blk_lt HZ2.out)).trans HZ2.out; obtain ⟨k0, k1, k2, k3, k4, k5, k6, k7, k8, k9, k10, k11, k12⟩ := c13 hz_; clear hz_
  have PR := Aside0.mk (rput_calls (w0 := w2) (w := w4) 2 2 (wrap64 (24 + (p12.length : Int))) (iz := 2) (mz := 2) HQ4.out HR4.out (by have := HL4.out; have := HN.out; omega) rfl rfl (by omega) (by have := HL4.out; have := HN.out; omega))
  go_upto_region 18 with (first | (go_at_call 41; (with_reducible refine PR.out.mono ?_); rintro e w5 ⟨rfl, hr, hq, hg⟩; obtain ⟨L5, el⟩ : ∃ L, putL L4 2 2 (wrap64 (24 + (p12.length : Int))) = L := ⟨_, rfl⟩; rw [el] at hr; have EL5 := Aside0.mk el; clear el; have HR5 := Aside0.mk hr; have HQ5 := Aside0.mk hq; have HL5 := Aside0.mk (show L5.length = 16 from by rw [← EL5.out, putL_len]; exact HL4.out); have HY5 := Aside0.mk (show Bytes L5 from by rw [← EL5.out]; exact putL_bytes _ _ _ HY4.out); clear hr hq hg; clear k0 k1 k2 k3 k4 k5 k6 k7 k8 k9 k10 k11 k12; have hz_ := (HQ5.out.block w.heap.size (blk_lt HZ2.out)).trans HZ2.out; obtain ⟨k0, k1, k2, k3, k4, k5, k6, k7, k8, k9, k10, k11, k12⟩ := c13 hz_; clear hz_))
  clear PR
  have PR := Aside0.mk (rput_calls (w0 := w2) (w := w5) 4 4 (p3) (iz := 4) (mz := 4) HQ5.out HR5.out (by have := HL5.out; have := HN.out; omega) rfl rfl (by omega) (by have := HL5.out; have := HN.out; omega))
  go_upto_region 19 with (first | (go_at_call 41; (with_reducible refine PR.out.mono ?_); rintro e w6 ⟨rfl, hr, hq, hg⟩; obtain ⟨L6, el⟩ : ∃ L, putL L5 4 4 (p3) = L := ⟨_, rfl⟩; rw [el] at hr; have EL6 := Aside0.mk el; clear el; have HR6 := Aside0.mk hr; have HQ6 := Aside0.mk hq; have HL6 := Aside0.mk (show L6.length = 16 from by rw [← EL6.out, putL_len]; exact HL5.out); have HY6 := Aside0.mk (show Bytes L6 from by rw [← EL6.out]; exact putL_bytes _ _ _ HY5.out); clear hr hq hg; clear k0 k1 k2 k3 k4 k5 k6 k7 k8 k9 k10 k11 k12; have hz_ := (HQ6.out.block w.heap.size (blk_lt HZ2.out)).trans HZ2.out; obtain ⟨k0, k1, k2, k3, k4, k5, k6, k7, k8, k9, k10, k11, k12⟩ := c13 hz_; clear hz_))
  clear PR
  have PR := Aside0.mk (rput_calls (w0 := w2) (w := w6) 8 4 (p4) (iz := 8) (mz := 4) HQ6.out HR6.out (by have := HL6.out; have := HN.out; omega) rfl rfl (by omega) (by have := HL6.out; have := HN.out; omega))
  go_upto_region 20 with (first | (go_at_call 41; (with_reducible refine PR.out.mono ?_); rintro e w7 ⟨rfl, hr, hq, hg⟩; obtain ⟨L7, el⟩ : ∃ L, putL L6 8 4 (p4) = L := ⟨_, rfl⟩; rw [el] at hr; have EL7 := Aside0.mk el; clear el; have HR7 := Aside0.mk hr; have HQ7 := Aside0.mk hq; have HL7 := Aside0.mk (show L7.length = 16 from by rw [← EL7.out, putL_len]; exact HL6.out); have HY7 := Aside0.mk (show Bytes L7 from by rw [← EL7.out]; exact putL_bytes _ _ _ HY6.out); clear hr hq hg; clear k0 k1 k2 k3 k4 k5 k6 k7 k8 k9 k10 k11 k12; have hz_ := (HQ7.out.block w.heap.size (blk_lt HZ2.out)).trans HZ2.out; obtain ⟨k0, k1, k2, k3, k4, k5, k6, k7, k8, k9, k10, k11, k12⟩ := c13 hz_; clear hz_))
  clear PR
  have HC7 := Aside0.mk (Kd.R_reads' HR7.out)
  have OF := Aside0.mk (rof_calls (c := cc3) (n := 16) (l := L7) (w := w7) (by have h := HC7.out.2.2; rw [← HC7.out.1] at h; exact h) HL7.out HC7.out.2.1 HY7.out (by rw [HL7.out]; omega))
  have PR := Aside0.mk (fun nd_ => rput_calls (w0 := w2) (w := (w7.drewN nd_)) 14 2 (65535 - fold (pairs L7)) (iz := 14) (mz := 2) (bd HQ7.out nd_) (Kd.R_drewN HR7.out nd_) (by have := HL7.out; have := HN.out; omega) rfl rfl (by omega) (by have := HL7.out; have := HN.out; omega))
  go_upto_region 26 with (first | (go_at_call 41; (with_reducible refine (PR.out _).mono ?_); rintro e w8 ⟨rfl, hr, hq, hg⟩; obtain ⟨L8, el⟩ : ∃ L, putL L7 14 2 (65535 - fold (pairs L7)) = L := ⟨_, rfl⟩; rw [el] at hr; have EL8 := Aside0.mk el; clear el; have HR8 := Aside0.mk hr; have HQ8 := Aside0.mk hq; have HL8 := Aside0.mk (show L8.length = 16 from by rw [← EL8.out, putL_len]; exact HL7.out); have HY8 := Aside0.mk (show Bytes L8 from by rw [← EL8.out]; exact putL_bytes _ _ _ HY7.out); clear hr hq hg; clear k0 k1 k2 k3 k4 k5 k6 k7 k8 k9 k10 k11 k12; have hz_ := (HQ8.out.block w.heap.size (blk_lt HZ2.out)).trans HZ2.out; obtain ⟨k0, k1, k2, k3, k4, k5, k6, k7, k8, k9, k10, k11, k12⟩ := c13 hz_; clear hz_) | (go_at_call 23; (with_reducible refine OF.out.mono ?_); rintro e w20 ⟨rfl, ⟨⟨nd, rfl⟩⟩⟩))
  clear PR
  clear OF HC7
  go_upto_region 27 with (first | ((with_reducible refine gate_builtin (b := .append) (xs := #[.tmp 174, .const (.int .i64 8)]) rfl ?_); at_builtin; refine Kd.R_append_zeros (Kd.int .u8) (w0 := w2) w2.heap.size rfl (.tmp 174) (.const (.int .i64 8)) 23 3 5 (.int .u8 0) 1 rfl Try.underlying23 Try.underlying3 info5 rfl (by decide) (by decide) (.slice (some ⟨g3, 0, none⟩) (16) cc3) L8 (0 : Int) 8 (fun _ => True) rfl rfl rfl (fun _ _ => trivial) HR8.out (by decide) HQ8.out HQ8.out.size (by have := HL8.out; omega) ?_; intro v9 w9 ho hb hg hat; obtain ⟨L9, el⟩ : ∃ L, L8 ++ List.replicate (Int.toNat 8) 0 = L := ⟨_, rfl⟩; rw [el] at ho; have EL9 := Aside0.mk el; have HL9 := Aside0.mk (show L9.length = 24 from by rw [← el]; simp only [List.length_append, List.length_replicate, List.length_cons, List.length_nil]; have := HL8.out; have := HN.out; omega); have HY9 := Aside0.mk (show Bytes L9 from by rw [← el]; exact HY8.out.app (fun x hx => by have := List.eq_of_mem_replicate hx; omega)); clear el; obtain ⟨g9, cc9, ev, hgb⟩ := rb_form ho (by rw [HL9.out]; have := HN.out; omega); rw [HL9.out] at ev; subst ev; have HG9 := Aside0.mk hgb; have HR9 := Aside0.mk ho; have HQ9 := Aside0.mk hb; clear ho hb hg hat hgb; clear k0 k1 k2 k3 k4 k5 k6 k7 k8 k9 k10 k11 k12; have hz_ := (HQ9.out.block w.heap.size (blk_lt HZ2.out)).trans HZ2.out; obtain ⟨k0, k1, k2, k3, k4, k5, k6, k7, k8, k9, k10, k11, k12⟩ := c13 hz_; clear hz_))
  have PR := Aside0.mk (rput_calls (w0 := w2) (w := w9) 20 2 (p8) (iz := 20) (mz := 2) HQ9.out HR9.out (by have := HL9.out; have := HN.out; omega) rfl rfl (by omega) (by have := HL9.out; have := HN.out; omega))
  go_upto_region 28 with (first | (go_at_call 41; (with_reducible refine PR.out.mono ?_); rintro e w10 ⟨rfl, hr, hq, hg⟩; obtain ⟨L10, el⟩ : ∃ L, putL L9 20 2 (p8) = L := ⟨_, rfl⟩; rw [el] at hr; have EL10 := Aside0.mk el; clear el; have HR10 := Aside0.mk hr; have HQ10 := Aside0.mk hq; have HL10 := Aside0.mk (show L10.length = 24 from by rw [← EL10.out, putL_len]; exact HL9.out); have HY10 := Aside0.mk (show Bytes L10 from by rw [← EL10.out]; exact putL_bytes _ _ _ HY9.out); clear hr hq hg; clear k0 k1 k2 k3 k4 k5 k6 k7 k8 k9 k10 k11 k12; have hz_ := (HQ10.out.block w.heap.size (blk_lt HZ2.out)).trans HZ2.out; obtain ⟨k0, k1, k2, k3, k4, k5, k6, k7, k8, k9, k10, k11, k12⟩ := c13 hz_; clear hz_))
  clear PR
  go_upto_region 29 with fail
  have PR := Aside0.mk (rput_calls (w0 := w2) (w := w10) 16 2 (p5) (iz := 16) (mz := 2) HQ10.out HR10.out (by have := HL10.out; have := HN.out; omega) rfl rfl (by omega) (by have := HL10.out; have := HN.out; omega))
  go_upto_region 30 with (first | (go_at_call 41; (with_reducible refine PR.out.mono ?_); rintro e w11 ⟨rfl, hr, hq, hg⟩; obtain ⟨L11, el⟩ : ∃ L, putL L10 16 2 (p5) = L := ⟨_, rfl⟩; rw [el] at hr; have EL11 := Aside0.mk el; clear el; have HR11 := Aside0.mk hr; have HQ11 := Aside0.mk hq; have HL11 := Aside0.mk (show L11.length = 24 from by rw [← EL11.out, putL_len]; exact HL10.out); have HY11 := Aside0.mk (show Bytes L11 from by rw [← EL11.out]; exact putL_bytes _ _ _ HY10.out); clear hr hq hg; clear k0 k1 k2 k3 k4 k5 k6 k7 k8 k9 k10 k11 k12; have hz_ := (HQ11.out.block w.heap.size (blk_lt HZ2.out)).trans HZ2.out; obtain ⟨k0, k1, k2, k3, k4, k5, k6, k7, k8, k9, k10, k11, k12⟩ := c13 hz_; clear hz_))
  clear PR
  have PR := Aside0.mk (rput_calls (w0 := w2) (w := w11) 18 2 (p6) (iz := 18) (mz := 2) HQ11.out HR11.out (by have := HL11.out; have := HN.out; omega) rfl rfl (by omega) (by have := HL11.out; have := HN.out; omega))
  go_upto_region 31 with (first | (go_at_call 41; (with_reducible refine PR.out.mono ?_); rintro e w12 ⟨rfl, hr, hq, hg⟩; obtain ⟨L12, el⟩ : ∃ L, putL L11 18 2 (p6) = L := ⟨_, rfl⟩; rw [el] at hr; have EL12 := Aside0.mk el; clear el; have HR12 := Aside0.mk hr; have HQ12 := Aside0.mk hq; have HL12 := Aside0.mk (show L12.length = 24 from by rw [← EL12.out, putL_len]; exact HL11.out); have HY12 := Aside0.mk (show Bytes L12 from by rw [← EL12.out]; exact putL_bytes _ _ _ HY11.out); clear hr hq hg; clear k0 k1 k2 k3 k4 k5 k6 k7 k8 k9 k10 k11 k12; have hz_ := (HQ12.out.block w.heap.size (blk_lt HZ2.out)).trans HZ2.out; obtain ⟨k0, k1, k2, k3, k4, k5, k6, k7, k8, k9, k10, k11, k12⟩ := c13 hz_; clear hz_))
  clear PR
  go_upto_region 32 with (first | ((with_reducible refine gate_builtin (b := .append) (xs := #[.tmp 190, .tmp 192]) rfl ?_); at_builtin; refine Kd.R_append_rows (Kd.int .u8) (w0 := w2) w2.heap.size rfl (.tmp 190) (.tmp 192) 23 5 (.int .u8 0) 1 rfl Try.underlying23 info5 rfl (by decide) (by omega) (.slice (some ⟨g9, 0, none⟩) (24) cc9) L12 p12 A2 p12.length c2 (fun _ => True) (fun _ => False) rfl rfl HR12.out (Kd.C_below HD.out (below_step HB2.out HQ12.out)) (fun _ _ h => h) (fun _ h => h.elim) (fun _ _ => trivial) HQ12.out HQ12.out.size (by have := HL12.out; have := HN.out; have := HLIM.out; omega) ?_; intro v13 w13 ho hb hg hat; obtain ⟨L13, el⟩ : ∃ L, L12 ++ p12 = L := ⟨_, rfl⟩; rw [el] at ho; have EL13 := Aside0.mk el; have HL13 := Aside0.mk (show L13.length = n from by rw [← el]; simp only [List.length_append, List.length_replicate, List.length_cons, List.length_nil]; have := HL12.out; have := HN.out; omega); have HY13 := Aside0.mk (show Bytes L13 from by rw [← el]; exact HY12.out.app HYD.out); clear el; obtain ⟨g13, cc13, ev, hgb⟩ := rb_form ho (by rw [HL13.out]; have := HN.out; omega); rw [HL13.out] at ev; subst ev; have HG13 := Aside0.mk hgb; have HR13 := Aside0.mk ho; have HQ13 := Aside0.mk hb; clear ho hb hg hat hgb; clear k0 k1 k2 k3 k4 k5 k6 k7 k8 k9 k10 k11 k12; have hz_ := (HQ13.out.block w.heap.size (blk_lt HZ2.out)).trans HZ2.out; obtain ⟨k0, k1, k2, k3, k4, k5, k6, k7, k8, k9, k10, k11, k12⟩ := c13 hz_; clear hz_))
  have HC13 := Aside0.mk (Kd.R_reads' HR13.out)
  have SF := Aside0.mk (rsummed_calls (c := cc13) (n := n) (l := L13) (w := w13) (by have h := HC13.out.2.2; rw [← HC13.out.1] at h; exact h) HL13.out HC13.out.2.1 (by have := HL13.out; have := HN.out; omega) (by have := HL13.out; have := HN.out; omega))
  have HSO := Aside0.mk (summed_ok HY13.out (by have := HL13.out; have := HN.out; omega) (by have := HL13.out; have := HN.out; omega))
  go_upto_region 33 with (first
    | (go_at_call 42; (with_reducible refine SF.out.mono ?_); rintro e w14 ⟨v, rfl, ho, hb⟩; obtain ⟨Av, cv, ev⟩ := Kd.R_slice ho; subst ev; have HR14 := Aside0.mk (Kd.R_below HR13.out hb); have HQ14 := Aside0.mk (below_step HQ13.out hb); have HRD := Aside0.mk (Kd.R_reads' ho); have OF := Aside0.mk (rof_calls HRD.out.2.2 rfl HRD.out.2.1 HSO.out.2 (by have := HSO.out.1; omega)); clear ho hb; clear k0 k1 k2 k3 k4 k5 k6 k7 k8 k9 k10 k11 k12; have hz_ := (HQ14.out.block w.heap.size (blk_lt HZ2.out)).trans HZ2.out; obtain ⟨k0, k1, k2, k3, k4, k5, k6, k7, k8, k9, k10, k11, k12⟩ := c13 hz_; clear hz_)
    | (go_at_call 23; (with_reducible refine OF.out.mono ?_); rintro e w30 ⟨rfl, ⟨⟨nd2, rfl⟩⟩⟩))
  have HR14' := Aside0.mk (Kd.R_drewN HR14.out nd2)
  have HQ14' := Aside0.mk (bd HQ14.out nd2)
  generalize w14.drewN nd2 = w40 at HR14' HQ14' ⊢
  clear SF OF HRD HR14 HQ14 k0 k1 k2 k3 k4 k5 k6 k7 k8 k9 k10 k11 k12
  have hz_ := (HQ14'.out.block w.heap.size (blk_lt HZ2.out)).trans HZ2.out
  obtain ⟨k0, k1, k2, k3, k4, k5, k6, k7, k8, k9, k10, k11, k12⟩ := c13 hz_
  clear hz_
  have G43 := Aside0.mk (fun W => roundhouseref3_place.calls p0 22 W (by unfold roundhouseref3_place.f; have := HK.out; rw [if_neg (by omega)]))
  cases hp9 : p9
  · rw [hp9] at k9
    by_cases hs : 65535 - fold (pairs (summedL L13)) = 0
    · have d0 : (65535 - fold (pairs (summedL L13)) == 0) = true := beq_iff_eq.mpr hs
      have PR := Aside0.mk (fun nd_ => rput_calls (w0 := w2) (w := w40.drewN nd_) 22 2 (65535) (iz := 22) (mz := 2) (bd HQ14'.out nd_) (Kd.R_drewN HR14'.out nd_) (by have := HL13.out; have := HN.out; omega) rfl rfl (by omega) (by have := HL13.out; have := HN.out; have := HLIM.out; have := HK.out; omega))
      go_wp2_with (first
        | (go_at_call 43; (with_reducible refine (G43.out _).mono ?_); rintro e w41 ⟨rfl, ⟨⟨nd3, rfl⟩⟩⟩)
        | (go_at_call 41; (with_reducible refine (PR.out _).mono ?_); rintro e w42 ⟨rfl, hr, hq, hg⟩; have HRX := Aside0.mk hr; have HQX := Aside0.mk hq; clear hr hq hg))
      go_ret2
      refine ⟨_, rfl, ?_, below_step HB2.out HQX.out⟩
      have hb : L13 = rbodyL ⟨p0, p1, p2, p3, p4, p5, p6, p7, p8, p9, p10, p11, p12⟩ := by
        rw [← EL13.out, ← EL12.out, ← EL11.out, ← EL10.out, ← EL9.out, ← EL8.out, ← EL7.out, ← EL6.out, ← EL5.out, ← EL4.out]
        unfold rbodyL h4R h3R
        simp only [HNL.out, HNN.out, Int.reduceToNat]
        rw [if_neg (show ¬ p0 = 3 by have := HK.out; omega), if_pos HK.out]
      unfold rbuildL
      rw [← hb]
      simp only []
      rw [if_neg (show ¬ p0 = 3 by have := HK.out; omega)]
      rw [show sumL p0 p9 L13 = 65535 from by unfold sumL; rw [if_neg (by simp [hp9]), if_pos ⟨HK.out, hs⟩]]
      exact Kd.R_lower HRX.out HB2.out.size
    · have d0 : (65535 - fold (pairs (summedL L13)) == 0) = false := beq_eq_false_iff_ne.mpr hs
      have PR := Aside0.mk (fun nd_ => rput_calls (w0 := w2) (w := w40.drewN nd_) 22 2 (65535 - fold (pairs (summedL L13))) (iz := 22) (mz := 2) (bd HQ14'.out nd_) (Kd.R_drewN HR14'.out nd_) (by have := HL13.out; have := HN.out; omega) rfl rfl (by omega) (by have := HL13.out; have := HN.out; have := HLIM.out; have := HK.out; omega))
      go_wp2_with (first
        | (go_at_call 43; (with_reducible refine (G43.out _).mono ?_); rintro e w41 ⟨rfl, ⟨⟨nd3, rfl⟩⟩⟩)
        | (go_at_call 41; (with_reducible refine (PR.out _).mono ?_); rintro e w42 ⟨rfl, hr, hq, hg⟩; have HRX := Aside0.mk hr; have HQX := Aside0.mk hq; clear hr hq hg))
      go_ret2
      refine ⟨_, rfl, ?_, below_step HB2.out HQX.out⟩
      have hb : L13 = rbodyL ⟨p0, p1, p2, p3, p4, p5, p6, p7, p8, p9, p10, p11, p12⟩ := by
        rw [← EL13.out, ← EL12.out, ← EL11.out, ← EL10.out, ← EL9.out, ← EL8.out, ← EL7.out, ← EL6.out, ← EL5.out, ← EL4.out]
        unfold rbodyL h4R h3R
        simp only [HNL.out, HNN.out, Int.reduceToNat]
        rw [if_neg (show ¬ p0 = 3 by have := HK.out; omega), if_pos HK.out]
      unfold rbuildL
      rw [← hb]
      simp only []
      rw [if_neg (show ¬ p0 = 3 by have := HK.out; omega)]
      rw [show sumL p0 p9 L13 = 65535 - fold (pairs (summedL L13)) from by unfold sumL; rw [if_neg (by simp [hp9]), if_neg (fun h => hs h.2)]]
      exact Kd.R_lower HRX.out HB2.out.size
  · rw [hp9] at k9
    by_cases hs : 65535 - fold (pairs (summedL L13)) = 0
    · have d0 : (65535 - fold (pairs (summedL L13)) == 0) = true := beq_iff_eq.mpr hs
      have PR := Aside0.mk (fun nd_ => rput_calls (w0 := w2) (w := w40.drewN nd_) 22 2 (0) (iz := 22) (mz := 2) (bd HQ14'.out nd_) (Kd.R_drewN HR14'.out nd_) (by have := HL13.out; have := HN.out; omega) rfl rfl (by omega) (by have := HL13.out; have := HN.out; have := HLIM.out; have := HK.out; omega))
      go_wp2_with (first
        | (go_at_call 43; (with_reducible refine (G43.out _).mono ?_); rintro e w41 ⟨rfl, ⟨⟨nd3, rfl⟩⟩⟩)
        | (go_at_call 41; (with_reducible refine (PR.out _).mono ?_); rintro e w42 ⟨rfl, hr, hq, hg⟩; have HRX := Aside0.mk hr; have HQX := Aside0.mk hq; clear hr hq hg))
      go_ret2
      refine ⟨_, rfl, ?_, below_step HB2.out HQX.out⟩
      have hb : L13 = rbodyL ⟨p0, p1, p2, p3, p4, p5, p6, p7, p8, p9, p10, p11, p12⟩ := by
        rw [← EL13.out, ← EL12.out, ← EL11.out, ← EL10.out, ← EL9.out, ← EL8.out, ← EL7.out, ← EL6.out, ← EL5.out, ← EL4.out]
        unfold rbodyL h4R h3R
        simp only [HNL.out, HNN.out, Int.reduceToNat]
        rw [if_neg (show ¬ p0 = 3 by have := HK.out; omega), if_pos HK.out]
      unfold rbuildL
      rw [← hb]
      simp only []
      rw [if_neg (show ¬ p0 = 3 by have := HK.out; omega)]
      rw [show sumL p0 p9 L13 = 0 from by unfold sumL; rw [if_pos ⟨HK.out, hp9⟩]]
      exact Kd.R_lower HRX.out HB2.out.size
    · have d0 : (65535 - fold (pairs (summedL L13)) == 0) = false := beq_eq_false_iff_ne.mpr hs
      have PR := Aside0.mk (fun nd_ => rput_calls (w0 := w2) (w := w40.drewN nd_) 22 2 (0) (iz := 22) (mz := 2) (bd HQ14'.out nd_) (Kd.R_drewN HR14'.out nd_) (by have := HL13.out; have := HN.out; omega) rfl rfl (by omega) (by have := HL13.out; have := HN.out; have := HLIM.out; have := HK.out; omega))
      go_wp2_with (first
        | (go_at_call 43; (with_reducible refine (G43.out _).mono ?_); rintro e w41 ⟨rfl, ⟨⟨nd3, rfl⟩⟩⟩)
        | (go_at_call 41; (with_reducible refine (PR.out _).mono ?_); rintro e w42 ⟨rfl, hr, hq, hg⟩; have HRX := Aside0.mk hr; have HQX := Aside0.mk hq; clear hr hq hg))
      go_ret2
      refine ⟨_, rfl, ?_, below_step HB2.out HQX.out⟩
      have hb : L13 = rbodyL ⟨p0, p1, p2, p3, p4, p5, p6, p7, p8, p9, p10, p11, p12⟩ := by
        rw [← EL13.out, ← EL12.out, ← EL11.out, ← EL10.out, ← EL9.out, ← EL8.out, ← EL7.out, ← EL6.out, ← EL5.out, ← EL4.out]
        unfold rbodyL h4R h3R
        simp only [HNL.out, HNN.out, Int.reduceToNat]
        rw [if_neg (show ¬ p0 = 3 by have := HK.out; omega), if_pos HK.out]
      unfold rbuildL
      rw [← hb]
      simp only []
      rw [if_neg (show ¬ p0 = 3 by have := HK.out; omega)]
      rw [show sumL p0 p9 L13 = 0 from by unfold sumL; rw [if_pos ⟨HK.out, hp9⟩]]
      exact Kd.R_lower HRX.out HB2.out.size
end Go.Proofs.Ytbjhmifhmojaoaa.WB

namespace Go.Proofs.Ytbjhmifhmojaoaa.WB
set_option linter.unusedVariables false
set_option linter.unusedSimpArgs false
open Go.RowKit Go.Proofs.Ytbjhmifhmojaoaa.Hp Go.Proofs.Ytbjhmifhmojaoaa.SB Go.Proofs.YtbjhmifhmojaoaaW.PrintWords Go.Proofs.YtbjhmifhmojaoaaW.PrintLast Go.Proofs.YtbjhmifhmojaoaaW.PrintMore
set_option maxHeartbeats 8000000 in
set_option maxRecDepth 100000 in
theorem rbuild_fault {A1 A2 : Option Addr} {c1 c2 : Nat} {p0 p1 p2 p3 p4 p5 p6 p7 p8 : Int} {p9 : Bool} {p10 : Int} {p11 p12 : List Int} {w : World} (ha : Kd.C (Kd.int .u8) w A1 p11.length p11) (hca : p11.length ≤ c1) (hd : Kd.C (Kd.int .u8) w A2 p12.length p12) (hcd : p12.length ≤ c2) (hba : Bytes p11) (hbd : Bytes p12) (hk : p0 = 3) (he : buildE ⟨p0, p1, p2, p3, p4, p5, p6, p7, p8, p9, p10, p11, p12⟩ = 0) :
    Calls Try.prog 18 #[.agg #[.int .i64 p0, .int .i64 p1, .int .i64 p2, .int .i64 p3, .int .i64 p4, .int .i64 p5, .int .i64 p6, .int .i64 p7, .int .i64 p8, .bool p9, .int .i64 p10, .slice A1 p11.length c1, .slice A2 p12.length c2]] w fun e w' => ∃ v, e = .returned (.tuple #[v, .int .i64 0]) ∧ RB w.heap.size w' v (rbuildL ⟨p0, p1, p2, p3, p4, p5, p6, p7, p8, p9, p10, p11, p12⟩) ∧ Below w.heap.size w w' := by
  have hn : nL ⟨p0, p1, p2, p3, p4, p5, p6, p7, p8, p9, p10, p11, p12⟩ = 20 + p12.length := by unfold nL; simp [hk]
  have hok : okR ⟨p0, p1, p2, p3, p4, p5, p6, p7, p8, p9, p10, p11, p12⟩ = true := by
    unfold buildE at he
    split at he
    · cases he
    split at he
    · cases he
    rename_i h; simpa using h
  have hlim : nL ⟨p0, p1, p2, p3, p4, p5, p6, p7, p8, p9, p10, p11, p12⟩ ≤ 1500 ∧ (p0 = 1 → p11.length ≤ 40) ∧ (p0 = 3 → 24 ≤ p12.length) := by
    unfold buildE at he
    split at he
    · cases he
    split at he
    · cases he
    split at he
    · cases he
    split at he
    · cases he
    rename_i h1 h2 h3 h4
    refine ⟨by omega, fun h => ?_, fun h => ?_⟩
    · have : ¬ 40 < p11.length := fun h5 => h3 ⟨h, h5⟩
      omega
    · have : ¬ p12.length < 24 := fun h5 => h4 (Or.inl ⟨h, h5⟩)
      omega
  obtain ⟨n, hne⟩ : ∃ n, 20 + p12.length = n := ⟨_, rfl⟩
  rw [hn, hne] at hlim
  have HN := Aside0.mk (show 20 ≤ n ∧ n ≤ 1500 ∧ 20 + p12.length = n from ⟨by omega, hlim.1, hne⟩)
  have HNL := Aside0.mk (hn.trans hne)
  have HLIM := Aside0.mk hlim
  have HNN := Aside0.mk (show wrap64 (20 + (p12.length : Int)) = (n : Int) from by rw [wid (by omega) (by omega)]; omega)
  have dlim : decide (1500 < wrap64 (20 + (p12.length : Int))) = false := decide_eq_false (by rw [HNN.out]; omega)
  have HA := Aside0.mk ha
  have HD := Aside0.mk hd
  have HCA := Aside0.mk hca
  have HCD := Aside0.mk hcd
  have HYA := Aside0.mk hba
  have HYD := Aside0.mk hbd
  have HK := Aside0.mk hk
  simp [okR, rgB, hk] at hok
  have dk1 : decide (p0 < 1) = false := decide_eq_false (by omega)
  have dk3 : decide (3 < p0) = false := decide_eq_false (by omega)
  have of : ∀ (a m : Int), 0 ≤ a → a ≤ m → roundhouseref3_out.f a m = some false := fun a m h0 h1 => by unfold roundhouseref3_out.f; rw [if_neg (by omega)]; simp; omega
  have O1 := Aside0.mk (fun W => roundhouseref3_out.calls p1 255 false W (of _ _ (by omega) (by omega)))
  have O2 := Aside0.mk (fun W => roundhouseref3_out.calls p2 255 false W (of _ _ (by omega) (by omega)))
  have O3 := Aside0.mk (fun W => roundhouseref3_out.calls p3 4294967295 false W (of _ _ (by omega) (by omega)))
  have O4 := Aside0.mk (fun W => roundhouseref3_out.calls p4 4294967295 false W (of _ _ (by omega) (by omega)))
  have O10 := Aside0.mk (fun W => roundhouseref3_out.calls p10 255 false W (of _ _ (by omega) (by omega)))
  have q1 : (p0 == 1) = false := by rw [hk]; rfl
  have q1n : (p0 != 1) = true := by rw [hk]; rfl
  have q2 : (p0 == 2) = false := by rw [hk]; rfl
  have q2n : (p0 != 2) = true := by rw [hk]; rfl
  have q3 : (p0 == 3) = true := by rw [hk]; rfl
  have q3n : (p0 != 3) = false := by rw [hk]; rfl
  have ddat : decide ((p12.length : Int) < 24) = false := decide_eq_false (by have := hlim.2.2 hk; omega)
  have ddatn : decide (p12.length < 24) = false := decide_eq_false (by have := hlim.2.2 hk; omega)
  clear ha hd hba hbd hk he hn hok hlim hne hca hcd of
  go_enter Try.func18, Try.ntmps18
  go_upto_region 3 with fail
  have hz1 := new_blk w (.cells #[.int .i64 p0, .int .i64 p1, .int .i64 p2, .int .i64 p3, .int .i64 p4, .int .i64 p5, .int .i64 p6, .int .i64 p7, .int .i64 p8, .bool p9, .int .i64 p10, .slice A1 p11.length c1, .slice A2 p12.length c2] 26)
  have HB1 := Aside0.mk ((Below.refl w.heap.size w).alloc (Nat.le_refl _) (.cells #[.int .i64 p0, .int .i64 p1, .int .i64 p2, .int .i64 p3, .int .i64 p4, .int .i64 p5, .int .i64 p6, .int .i64 p7, .int .i64 p8, .bool p9, .int .i64 p10, .slice A1 p11.length c1, .slice A2 p12.length c2] 26))
  generalize (w.alloc (.cells #[.int .i64 p0, .int .i64 p1, .int .i64 p2, .int .i64 p3, .int .i64 p4, .int .i64 p5, .int .i64 p6, .int .i64 p7, .int .i64 p8, .bool p9, .int .i64 p10, .slice A1 p11.length c1, .slice A2 p12.length c2] 26)) = w1 at hz1 HB1 ⊢
  have HZ1 := Aside0.mk hz1
  have k0 := (c13 hz1).1
  clear hz1
  refine start_ (n := 12) (S := fun w' => w'.cell? ⟨w.heap.size, 0, none⟩ = some (.int .i64 p0)) (ds := []) #[false, false, false, false, false, false, false, false, false, false, false, false] (by kernel_rfl) rfl rfl (k0) (fun hHeld => ?_)
  refine pure_ (i := 0) (N := some 18) (v := ?_) (a' := ?_) #[true, false, false, false, false, false, false, false, false, false, false, false] rfl rfl (by kernel_rfl) (fun _ _ _ h => h) (Or.inl ⟨by rfl, ?_⟩) ?_ ?_
  rotate_left
  · intro w'
    go_simp
    with_reducible rfl
  rotate_left
  · simp only [Act.put, List.setIfInBounds_toArray, List.set_cons_zero, List.set_cons_succ, i64_w, i32_w]
    rfl
  refine pure_ (i := 3) (N := some 21) (v := ?_) (a' := ?_) #[true, false, false, true, false, false, false, false, false, false, false, false] rfl rfl (by kernel_rfl) (fun _ _ _ h => h) (Or.inl ⟨by rfl, ?_⟩) ?_ ?_
  rotate_left
  · intro w'
    go_simp
    with_reducible rfl
  rotate_left
  · simp only [Act.put, List.setIfInBounds_toArray, List.set_cons_zero, List.set_cons_succ, i64_w, i32_w]
    rfl
  refine pure_ (i := 6) (N := some 24) (v := ?_) (a' := ?_) #[true, false, false, true, false, false, true, false, false, false, false, false] rfl rfl (by kernel_rfl) (fun _ _ _ h => h) (Or.inl ⟨by rfl, ?_⟩) ?_ ?_
  rotate_left
  · intro w'
    go_simp
    with_reducible rfl
  rotate_left
  · simp only [Act.put, List.setIfInBounds_toArray, List.set_cons_zero, List.set_cons_succ, i64_w, i32_w]
    rfl
  refine take_ (i := 1) (N := some 19) (v := ?_) (a' := ?_) #[true, true, false, true, false, false, true, false, false, false, false, false] rfl rfl (by kernel_rfl) (fun _ _ _ h => h) (Or.inl ⟨by rfl, ?_⟩) hHeld ?_ ?_
  rotate_left
  · intro w' s0
    go_simp
    with_reducible rfl
  rotate_left
  · simp only [Act.put, List.setIfInBounds_toArray, List.set_cons_zero, List.set_cons_succ, i64_w, i32_w]
    rfl
  refine pure_ (i := 2) (N := some 20) (v := ?_) (a' := ?_) #[true, true, true, true, false, false, true, false, false, false, false, false] rfl rfl (by kernel_rfl) (fun _ _ _ h => h) (Or.inl ⟨by rfl, ?_⟩) ?_ ?_
  rotate_left
  · intro w'
    go_simp
    with_reducible rfl
  rotate_left
  · simp only [Act.put, List.setIfInBounds_toArray, List.set_cons_zero, List.set_cons_succ, i64_w, i32_w]
    rfl
  refine pure_ (i := 9) (N := some 4) (v := ?_) (a' := ?_) #[true, true, true, true, false, false, true, false, false, true, false, false] rfl rfl (by kernel_rfl) (fun _ _ _ h => h) (Or.inl ⟨by rfl, ?_⟩) ?_ ?_
  rotate_left
  · intro w'
    go_simp
    with_reducible rfl
  rotate_left
  · simp only [Act.put, List.setIfInBounds_toArray, List.set_cons_zero, List.set_cons_succ, i64_w, i32_w]
    rfl
  refine take_ (i := 4) (N := some 22) (v := ?_) (a' := ?_) #[true, true, true, true, true, false, true, false, false, true, false, false] rfl rfl (by kernel_rfl) (fun _ _ _ h => h) (Or.inl ⟨by rfl, ?_⟩) hHeld ?_ ?_
  rotate_left
  · intro w' s0
    go_simp
    with_reducible rfl
  rotate_left
  · simp only [Act.put, List.setIfInBounds_toArray, List.set_cons_zero, List.set_cons_succ, i64_w, i32_w]
    rfl
  refine pure_ (i := 5) (N := some 23) (v := ?_) (a' := ?_) #[true, true, true, true, true, true, true, false, false, true, false, false] rfl rfl (by kernel_rfl) (fun _ _ _ h => h) (Or.inl ⟨by rfl, ?_⟩) ?_ ?_
  rotate_left
  · intro w'
    go_simp
    with_reducible rfl
  rotate_left
  · simp only [Act.put, List.setIfInBounds_toArray, List.set_cons_zero, List.set_cons_succ, i64_w, i32_w]
    rfl
  refine pure_ (i := 10) (N := some 5) (v := ?_) (a' := ?_) #[true, true, true, true, true, true, true, false, false, true, true, false] rfl rfl (by kernel_rfl) (fun _ _ _ h => h) (Or.inl ⟨by rfl, ?_⟩) ?_ ?_
  rotate_left
  · intro w'
    go_simp
    with_reducible rfl
  rotate_left
  · simp only [Act.put, List.setIfInBounds_toArray, List.set_cons_zero, List.set_cons_succ, i64_w, i32_w]
    rfl
  refine take_ (i := 7) (N := some 25) (v := ?_) (a' := ?_) #[true, true, true, true, true, true, true, true, false, true, true, false] rfl rfl (by kernel_rfl) (fun _ _ _ h => h) (Or.inl ⟨by rfl, ?_⟩) hHeld ?_ ?_
  rotate_left
  · intro w' s0
    go_simp
    with_reducible rfl
  rotate_left
  · simp only [Act.put, List.setIfInBounds_toArray, List.set_cons_zero, List.set_cons_succ, i64_w, i32_w]
    rfl
  refine pure_ (i := 8) (N := some 26) (v := ?_) (a' := ?_) #[true, true, true, true, true, true, true, true, true, true, true, false] rfl rfl (by kernel_rfl) (fun _ _ _ h => h) (Or.inl ⟨by rfl, ?_⟩) ?_ ?_
  rotate_left
  · intro w'
    go_simp
    with_reducible rfl
  rotate_left
  · simp only [Act.put, List.setIfInBounds_toArray, List.set_cons_zero, List.set_cons_succ, i64_w, i32_w]
    rfl
  refine pure_ (i := 11) (N := some 6) (v := ?_) (a' := ?_) #[true, true, true, true, true, true, true, true, true, true, true, true] rfl rfl (by kernel_rfl) (fun _ _ _ h => h) (Or.inl ⟨by rfl, ?_⟩) ?_ ?_
  rotate_left
  · intro w'
    go_simp
    with_reducible rfl
  rotate_left
  · simp only [Act.put, List.setIfInBounds_toArray, List.set_cons_zero, List.set_cons_succ, i64_w, i32_w]
    rfl
  refine done_ (by kernel_rfl) ?_
  clear hHeld k0
  obtain ⟨k0, k1, k2, k3, k4, k5, k6, k7, k8, k9, k10, k11, k12⟩ := c13 HZ1.out
  go_upto_region 15 with (first | (go_at_call 40; (with_reducible refine (O1.out _).mono ?_); rintro e w5 ⟨rfl, ⟨⟨nd, rfl⟩⟩⟩) | (go_at_call 40; (with_reducible refine (O2.out _).mono ?_); rintro e w5 ⟨rfl, ⟨⟨nd, rfl⟩⟩⟩) | (go_at_call 40; (with_reducible refine (O3.out _).mono ?_); rintro e w5 ⟨rfl, ⟨⟨nd, rfl⟩⟩⟩) | (go_at_call 40; (with_reducible refine (O4.out _).mono ?_); rintro e w5 ⟨rfl, ⟨⟨nd, rfl⟩⟩⟩) | (go_at_call 40; (with_reducible refine (O10.out _).mono ?_); rintro e w5 ⟨rfl, ⟨⟨nd, rfl⟩⟩⟩))
  generalize hW : World.drewN _ _ = w2
  have HZ2 : Aside0 (w2.heap[w.heap.size]? = some (.cells #[.int .i64 p0, .int .i64 p1, .int .i64 p2, .int .i64 p3, .int .i64 p4, .int .i64 p5, .int .i64 p6, .int .i64 p7, .int .i64 p8, .bool p9, .int .i64 p10, .slice A1 p11.length c1, .slice A2 p12.length c2] 26 (0, 0))) := Aside0.mk (by rw [← hW]; exact HZ1.out)
  have HB2 : Aside0 (Below w.heap.size w w2) := Aside0.mk (by rw [← hW]; exact bd HB1.out _)
  clear hW k0 k1 k2 k3 k4 k5 k6 k7 k8 k9 k10 k11 k12 HZ1 HB1 dlim dk1 dk3 O1 O2 O3 O4 O10 ddat ddatn
  have HQ2 := Aside0.mk (Below.refl w2.heap.size w2)
  obtain ⟨k0, k1, k2, k3, k4, k5, k6, k7, k8, k9, k10, k11, k12⟩ := c13 HZ2.out
  go_upto_region 16 with (first
    | ((with_reducible refine gate_dst (N := 117) rfl ?_); refine R_make_cap (w0 := w2) w2.heap.size rfl rfl (.const (.int .i64 16)) (.tmp 116) rfl 16 n 16 (wrap64 (20 + (p12.length : Int))) rfl HNN.out rfl rfl (by have := HN.out; omega) (by have := HN.out; omega) HQ2.out (Nat.le_refl _) ?_; intro v3 w3 ho hb hg hat; obtain ⟨g3, cc3, ev, hgb⟩ := rb_form ho (by simp); simp only [List.length_replicate] at ev; subst ev; have HG3 := Aside0.mk hgb; have HR3 := Aside0.mk ho; have HQ3 := Aside0.mk hb; clear ho hb hg hat hgb; clear k0 k1 k2 k3 k4 k5 k6 k7 k8 k9 k10 k11 k12; have hz_ := (HQ3.out.block w.heap.size (blk_lt HZ2.out)).trans HZ2.out; obtain ⟨k0, k1, k2, k3, k4, k5, k6, k7, k8, k9, k10, k11, k12⟩ := c13 hz_; clear hz_))
  have HCZ := Aside0.mk (fun W (h : Below w2.heap.size w2 W) => c13 ((h.block w.heap.size (blk_lt HZ2.out)).trans HZ2.out))
  have r0 := rb_cell HR3.out 0 (by omega)
  have r1 := rb_cell HR3.out 1 (by omega)
  have r12 := rb_cell HR3.out 12 (by omega)
  have s0 := rb_frozen HR3.out 0
  have s1 := rb_frozen HR3.out 1
  have s12 := rb_frozen HR3.out 12
  clear k0 k1 k2 k3 k4 k5 k6 k7 k8 k9 k10 k11 k12
  refine start_ (n := 18) (S := fun w' => w'.cell? ⟨w.heap.size, 0, none⟩ = some (.int .i64 p0) ∧ w'.cell? ⟨w.heap.size, 1, none⟩ = some (.int .i64 p1) ∧ w'.cell? ⟨w.heap.size, 2, none⟩ = some (.int .i64 p2)) (ds := []) #[false, false, false, false, false, false, false, false, false, false, false, false, false, false, false, false, false, false] (by kernel_rfl) rfl rfl ⟨(HCZ.out _ HQ3.out.drew).1, (HCZ.out _ HQ3.out.drew).2.1, (HCZ.out _ HQ3.out.drew).2.2.1⟩ (fun hHeld => ?_)
  refine pure_ (i := 0) (N := some 118) (v := ?_) (a' := ?_) #[true, false, false, false, false, false, false, false, false, false, false, false, false, false, false, false, false, false] rfl rfl (by kernel_rfl) (fun _ _ _ h => h) (Or.inl ⟨by rfl, ?_⟩) ?_ ?_
  rotate_left
  · intro w'
    go_simp
    with_reducible rfl
  rotate_left
  · simp only [Act.put, List.setIfInBounds_toArray, List.set_cons_zero, List.set_cons_succ, i64_w, i32_w]
    rfl
  refine pure_ (i := 1) (N := some 119) (v := ?_) (a' := ?_) #[true, true, false, false, false, false, false, false, false, false, false, false, false, false, false, false, false, false] rfl rfl (by kernel_rfl) (fun _ _ _ h => h) (Or.inl ⟨by rfl, ?_⟩) ?_ ?_
  rotate_left
  · intro w'
    go_simp
    with_reducible rfl
  rotate_left
  · simp only [Act.put, List.setIfInBounds_toArray, List.set_cons_zero, List.set_cons_succ, i64_w, i32_w]
    rfl
  refine pure_ (i := 2) (N := some 120) (v := ?_) (a' := ?_) #[true, true, true, false, false, false, false, false, false, false, false, false, false, false, false, false, false, false] rfl rfl (by kernel_rfl) (fun _ _ _ h => h) (Or.inl ⟨by rfl, ?_⟩) ?_ ?_
  rotate_left
  · intro w'
    go_simp
    with_reducible rfl
  rotate_left
  · simp only [Act.put, List.setIfInBounds_toArray, List.set_cons_zero, List.set_cons_succ, i64_w, i32_w]
    rfl
  refine pure_ (i := 3) (N := some 121) (v := ?_) (a' := ?_) #[true, true, true, true, false, false, false, false, false, false, false, false, false, false, false, false, false, false] rfl rfl (by kernel_rfl) (fun _ _ _ h => h) (Or.inl ⟨by rfl, ?_⟩) ?_ ?_
  rotate_left
  · intro w'
    go_simp
    with_reducible rfl
  rotate_left
  · simp only [Act.put, List.setIfInBounds_toArray, List.set_cons_zero, List.set_cons_succ, i64_w, i32_w]
    rfl
  refine pure_ (i := 6) (N := some 124) (v := ?_) (a' := ?_) #[true, true, true, true, false, false, true, false, false, false, false, false, false, false, false, false, false, false] rfl rfl (by kernel_rfl) (fun _ _ _ h => h) (Or.inl ⟨by rfl, ?_⟩) ?_ ?_
  rotate_left
  · intro w'
    go_simp
    with_reducible rfl
  rotate_left
  · simp only [Act.put, List.setIfInBounds_toArray, List.set_cons_zero, List.set_cons_succ, i64_w, i32_w]
    rfl
  refine pure_ (i := 9) (N := some 127) (v := ?_) (a' := ?_) #[true, true, true, true, false, false, true, false, false, true, false, false, false, false, false, false, false, false] rfl rfl (by kernel_rfl) (fun _ _ _ h => h) (Or.inl ⟨by rfl, ?_⟩) ?_ ?_
  rotate_left
  · intro w'
    go_simp
    with_reducible rfl
  rotate_left
  · simp only [Act.put, List.setIfInBounds_toArray, List.set_cons_zero, List.set_cons_succ, i64_w, i32_w]
    rfl
  refine take_ (i := 4) (N := some 122) (v := ?_) (a' := ?_) #[true, true, true, true, true, false, true, false, false, true, false, false, false, false, false, false, false, false] rfl rfl (by kernel_rfl) (fun _ _ _ h => h) (Or.inl ⟨by rfl, ?_⟩) hHeld ?_ ?_
  rotate_left
  · rintro w' ⟨s0, s1, s2⟩
    go_simp
    with_reducible rfl
  rotate_left
  · simp only [Act.put, List.setIfInBounds_toArray, List.set_cons_zero, List.set_cons_succ, i64_w, i32_w]
    rfl
  refine pure_ (i := 5) (N := some 123) (v := ?_) (a' := ?_) #[true, true, true, true, true, true, true, false, false, true, false, false, false, false, false, false, false, false] rfl rfl (by kernel_rfl) (fun _ _ _ h => h) (Or.inl ⟨by rfl, ?_⟩) ?_ ?_
  rotate_left
  · intro w'
    go_simp
    with_reducible rfl
  rotate_left
  · simp only [Act.put, List.setIfInBounds_toArray, List.set_cons_zero, List.set_cons_succ, i64_w, i32_w]
    rfl
  refine pure_ (i := 12) (N := some 130) (v := ?_) (a' := ?_) #[true, true, true, true, true, true, true, false, false, true, false, false, true, false, false, false, false, false] rfl rfl (by kernel_rfl) (fun _ _ _ h => h) (Or.inl ⟨by rfl, ?_⟩) ?_ ?_
  rotate_left
  · intro w'
    go_simp
    with_reducible rfl
  rotate_left
  · simp only [Act.put, List.setIfInBounds_toArray, List.set_cons_zero, List.set_cons_succ, i64_w, i32_w]
    rfl
  refine take_ (i := 7) (N := some 125) (v := ?_) (a' := ?_) #[true, true, true, true, true, true, true, true, false, true, false, false, true, false, false, false, false, false] rfl rfl (by kernel_rfl) (fun _ _ _ h => h) (Or.inl ⟨by rfl, ?_⟩) hHeld ?_ ?_
  rotate_left
  · rintro w' ⟨s0, s1, s2⟩
    go_simp
    with_reducible rfl
  rotate_left
  · simp only [Act.put, List.setIfInBounds_toArray, List.set_cons_zero, List.set_cons_succ, i64_w, i32_w]
    rfl
  refine pure_ (i := 8) (N := some 126) (v := ?_) (a' := ?_) #[true, true, true, true, true, true, true, true, true, true, false, false, true, false, false, false, false, false] rfl rfl (by kernel_rfl) (fun _ _ _ h => h) (Or.inl ⟨by rfl, ?_⟩) ?_ ?_
  rotate_left
  · intro w'
    go_simp
    with_reducible rfl
  rotate_left
  · simp only [Act.put, List.setIfInBounds_toArray, List.set_cons_zero, List.set_cons_succ, i64_w, i32_w]
    rfl
  refine take_ (i := 10) (N := some 128) (v := ?_) (a' := ?_) #[true, true, true, true, true, true, true, true, true, true, true, false, true, false, false, false, false, false] rfl rfl (by kernel_rfl) (fun _ _ _ h => h) (Or.inl ⟨by rfl, ?_⟩) hHeld ?_ ?_
  rotate_left
  · rintro w' ⟨s0, s1, s2⟩
    go_simp
    with_reducible rfl
  rotate_left
  · simp only [Act.put, List.setIfInBounds_toArray, List.set_cons_zero, List.set_cons_succ, i64_w, i32_w]
    rfl
  refine pure_ (i := 11) (N := some 129) (v := ?_) (a' := ?_) #[true, true, true, true, true, true, true, true, true, true, true, true, true, false, false, false, false, false] rfl rfl (by kernel_rfl) (fun _ _ _ h => h) (Or.inl ⟨by rfl, ?_⟩) ?_ ?_
  rotate_left
  · intro w'
    go_simp
    with_reducible rfl
  rotate_left
  · simp only [Act.put, List.setIfInBounds_toArray, List.set_cons_zero, List.set_cons_succ, i64_w, i32_w]
    rfl
  refine one_ (i := 13) (N := none) #[true, true, true, true, true, true, true, true, true, true, true, true, true, true, false, false, false, false] rfl rfl (by kernel_rfl) (by decide) (fun K hK => ?_)
  refine skip_ (w1 := ?_) (by rfl) rfl ?_ ?_
  rotate_left
  · go_simp
    rfl
  refine hK.out _ _ ⟨(HCZ.out _ (HQ3.out.drew.setCell (p := ⟨g3, 0, none⟩) HG3.out _)).1, (HCZ.out _ (HQ3.out.drew.setCell (p := ⟨g3, 0, none⟩) HG3.out _)).2.1, (HCZ.out _ (HQ3.out.drew.setCell (p := ⟨g3, 0, none⟩) HG3.out _)).2.2.1⟩ (fun hHeld => ?_)
  clear hK K
  refine pure_ (i := 14) (N := some 131) (v := ?_) (a' := ?_) #[true, true, true, true, true, true, true, true, true, true, true, true, true, true, true, false, false, false] rfl rfl (by kernel_rfl) (fun _ _ _ h => h) (Or.inl ⟨by rfl, ?_⟩) ?_ ?_
  rotate_left
  · intro w'
    go_simp
    with_reducible rfl
  rotate_left
  · simp only [Act.put, List.setIfInBounds_toArray, List.set_cons_zero, List.set_cons_succ, i64_w, i32_w]
    rfl
  refine one_ (i := 15) (N := none) #[true, true, true, true, true, true, true, true, true, true, true, true, true, true, true, true, false, false] rfl rfl (by kernel_rfl) (by decide) (fun K hK => ?_)
  refine skip_ (w1 := ?_) (by rfl) rfl ?_ ?_
  rotate_left
  · go_simp
    rfl
  refine hK.out _ _ ⟨(HCZ.out _ ((HQ3.out.drew.setCell (p := ⟨g3, 0, none⟩) HG3.out _).setCell (p := ⟨g3, 1, none⟩) HG3.out _)).1, (HCZ.out _ ((HQ3.out.drew.setCell (p := ⟨g3, 0, none⟩) HG3.out _).setCell (p := ⟨g3, 1, none⟩) HG3.out _)).2.1, (HCZ.out _ ((HQ3.out.drew.setCell (p := ⟨g3, 0, none⟩) HG3.out _).setCell (p := ⟨g3, 1, none⟩) HG3.out _)).2.2.1⟩ (fun hHeld => ?_)
  clear hK K
  refine pure_ (i := 16) (N := some 132) (v := ?_) (a' := ?_) #[true, true, true, true, true, true, true, true, true, true, true, true, true, true, true, true, true, false] rfl rfl (by kernel_rfl) (fun _ _ _ h => h) (Or.inl ⟨by rfl, ?_⟩) ?_ ?_
  rotate_left
  · intro w'
    go_simp
    with_reducible rfl
  rotate_left
  · simp only [Act.put, List.setIfInBounds_toArray, List.set_cons_zero, List.set_cons_succ, i64_w, i32_w]
    rfl
  refine one_ (i := 17) (N := none) #[true, true, true, true, true, true, true, true, true, true, true, true, true, true, true, true, true, true] rfl rfl (by kernel_rfl) (by decide) (fun K hK => ?_)
  refine skip_ (w1 := ?_) (by rfl) rfl ?_ ?_
  rotate_left
  · go_simp
    rfl
  refine hK.out _ _ ⟨(HCZ.out _ (((HQ3.out.drew.setCell (p := ⟨g3, 0, none⟩) HG3.out _).setCell (p := ⟨g3, 1, none⟩) HG3.out _).setCell (p := ⟨g3, 12, none⟩) HG3.out _)).1, (HCZ.out _ (((HQ3.out.drew.setCell (p := ⟨g3, 0, none⟩) HG3.out _).setCell (p := ⟨g3, 1, none⟩) HG3.out _).setCell (p := ⟨g3, 12, none⟩) HG3.out _)).2.1, (HCZ.out _ (((HQ3.out.drew.setCell (p := ⟨g3, 0, none⟩) HG3.out _).setCell (p := ⟨g3, 1, none⟩) HG3.out _).setCell (p := ⟨g3, 12, none⟩) HG3.out _)).2.2.1⟩ (fun hHeld => ?_)
  clear hK K
  refine done_ (by kernel_rfl) ?_
  clear r0 r1 r12 s0 s1 s12 hHeld
  generalize hW : World.drew _ = w4
  have hr : RB w2.heap.size w4 (.slice (some ⟨g3, 0, none⟩) 16 cc3) ((((List.replicate 16 0).set 0 (IntKind.u8.wrap p0)).set 1 (IntKind.u8.wrap p1)).set 12 (IntKind.u8.wrap p2)) := by
    rw [← hW]
    exact Kd.R_drew (rb_set (rb_set (rb_set HR3.out 0 (IntKind.u8.wrap p0)) 1 (IntKind.u8.wrap p1)) 12 (IntKind.u8.wrap p2))
  simp only [IntKind.wrap_u8] at hr
  obtain ⟨L4, el⟩ : ∃ L, (((List.replicate 16 0).set 0 (p0 % 256)).set 1 (p1 % 256)).set 12 (p2 % 256) = L := ⟨_, rfl⟩
  rw [el] at hr
  have EL4 := Aside0.mk el
  clear el
  have HR4 := Aside0.mk hr
  have HQ4 := Aside0.mk (show Below w2.heap.size w2 w4 from by
    rw [← hW]
    exact (((HQ3.out.setCell (p := ⟨g3, 0, none⟩) HG3.out _).setCell (p := ⟨g3, 1, none⟩) HG3.out _).setCell (p := ⟨g3, 12, none⟩) HG3.out _).drew)
  have HL4 := Aside0.mk (show L4.length = 16 from by rw [← EL4.out]; simp)
  have HY4 := Aside0.mk (show Bytes L4 from by
    rw [← EL4.out]
    refine Bytes.set (Bytes.set (Bytes.set ?_ _ (by omega) (by omega)) _ (by omega) (by omega)) _ (by omega) (by omega)
    intro x hx
    have := List.eq_of_mem_replicate hx
    omega)
  clear hW hr HCZ HR3
  have hz_ := (HQ4.out.block w.heap.size (blk_lt HZ2.out)).trans HZ2.out; obtain ⟨k0, k1, k2, k3, k4, k5, k6, k7, k8, k9, k10, k11, k12⟩ := c13 hz_; clear hz_
  have PR := Aside0.mk (rput_calls (w0 := w2) (w := w4) 2 2 (wrap64 (20 + (p12.length : Int))) (iz := 2) (mz := 2) HQ4.out HR4.out (by have := HL4.out; have := HN.out; omega) rfl rfl (by omega) (by have := HL4.out; have := HN.out; omega))
  go_upto_region 18 with (first | (go_at_call 41; (with_reducible refine PR.out.mono ?_); rintro e w5 ⟨rfl, hr, hq, hg⟩; obtain ⟨L5, el⟩ : ∃ L, putL L4 2 2 (wrap64 (20 + (p12.length : Int))) = L := ⟨_, rfl⟩; rw [el] at hr; have EL5 := Aside0.mk el; clear el; have HR5 := Aside0.mk hr; have HQ5 := Aside0.mk hq; have HL5 := Aside0.mk (show L5.length = 16 from by rw [← EL5.out, putL_len]; exact HL4.out); have HY5 := Aside0.mk (show Bytes L5 from by rw [← EL5.out]; exact putL_bytes _ _ _ HY4.out); clear hr hq hg; clear k0 k1 k2 k3 k4 k5 k6 k7 k8 k9 k10 k11 k12; have hz_ := (HQ5.out.block w.heap.size (blk_lt HZ2.out)).trans HZ2.out; obtain ⟨k0, k1, k2, k3, k4, k5, k6, k7, k8, k9, k10, k11, k12⟩ := c13 hz_; clear hz_))
  clear PR
  have PR := Aside0.mk (rput_calls (w0 := w2) (w := w5) 4 4 (p3) (iz := 4) (mz := 4) HQ5.out HR5.out (by have := HL5.out; have := HN.out; omega) rfl rfl (by omega) (by have := HL5.out; have := HN.out; omega))
  go_upto_region 19 with (first | (go_at_call 41; (with_reducible refine PR.out.mono ?_); rintro e w6 ⟨rfl, hr, hq, hg⟩; obtain ⟨L6, el⟩ : ∃ L, putL L5 4 4 (p3) = L := ⟨_, rfl⟩; rw [el] at hr; have EL6 := Aside0.mk el; clear el; have HR6 := Aside0.mk hr; have HQ6 := Aside0.mk hq; have HL6 := Aside0.mk (show L6.length = 16 from by rw [← EL6.out, putL_len]; exact HL5.out); have HY6 := Aside0.mk (show Bytes L6 from by rw [← EL6.out]; exact putL_bytes _ _ _ HY5.out); clear hr hq hg; clear k0 k1 k2 k3 k4 k5 k6 k7 k8 k9 k10 k11 k12; have hz_ := (HQ6.out.block w.heap.size (blk_lt HZ2.out)).trans HZ2.out; obtain ⟨k0, k1, k2, k3, k4, k5, k6, k7, k8, k9, k10, k11, k12⟩ := c13 hz_; clear hz_))
  clear PR
  have PR := Aside0.mk (rput_calls (w0 := w2) (w := w6) 8 4 (p4) (iz := 8) (mz := 4) HQ6.out HR6.out (by have := HL6.out; have := HN.out; omega) rfl rfl (by omega) (by have := HL6.out; have := HN.out; omega))
  go_upto_region 20 with (first | (go_at_call 41; (with_reducible refine PR.out.mono ?_); rintro e w7 ⟨rfl, hr, hq, hg⟩; obtain ⟨L7, el⟩ : ∃ L, putL L6 8 4 (p4) = L := ⟨_, rfl⟩; rw [el] at hr; have EL7 := Aside0.mk el; clear el; have HR7 := Aside0.mk hr; have HQ7 := Aside0.mk hq; have HL7 := Aside0.mk (show L7.length = 16 from by rw [← EL7.out, putL_len]; exact HL6.out); have HY7 := Aside0.mk (show Bytes L7 from by rw [← EL7.out]; exact putL_bytes _ _ _ HY6.out); clear hr hq hg; clear k0 k1 k2 k3 k4 k5 k6 k7 k8 k9 k10 k11 k12; have hz_ := (HQ7.out.block w.heap.size (blk_lt HZ2.out)).trans HZ2.out; obtain ⟨k0, k1, k2, k3, k4, k5, k6, k7, k8, k9, k10, k11, k12⟩ := c13 hz_; clear hz_))
  clear PR
  have HC7 := Aside0.mk (Kd.R_reads' HR7.out)
  have OF := Aside0.mk (rof_calls (c := cc3) (n := 16) (l := L7) (w := w7) (by have h := HC7.out.2.2; rw [← HC7.out.1] at h; exact h) HL7.out HC7.out.2.1 HY7.out (by rw [HL7.out]; omega))
  have PR := Aside0.mk (fun nd_ => rput_calls (w0 := w2) (w := (w7.drewN nd_)) 14 2 (65535 - fold (pairs L7)) (iz := 14) (mz := 2) (bd HQ7.out nd_) (Kd.R_drewN HR7.out nd_) (by have := HL7.out; have := HN.out; omega) rfl rfl (by omega) (by have := HL7.out; have := HN.out; omega))
  go_upto_region 24 with (first | (go_at_call 41; (with_reducible refine (PR.out _).mono ?_); rintro e w8 ⟨rfl, hr, hq, hg⟩; obtain ⟨L8, el⟩ : ∃ L, putL L7 14 2 (65535 - fold (pairs L7)) = L := ⟨_, rfl⟩; rw [el] at hr; have EL8 := Aside0.mk el; clear el; have HR8 := Aside0.mk hr; have HQ8 := Aside0.mk hq; have HL8 := Aside0.mk (show L8.length = 16 from by rw [← EL8.out, putL_len]; exact HL7.out); have HY8 := Aside0.mk (show Bytes L8 from by rw [← EL8.out]; exact putL_bytes _ _ _ HY7.out); clear hr hq hg; clear k0 k1 k2 k3 k4 k5 k6 k7 k8 k9 k10 k11 k12; have hz_ := (HQ8.out.block w.heap.size (blk_lt HZ2.out)).trans HZ2.out; obtain ⟨k0, k1, k2, k3, k4, k5, k6, k7, k8, k9, k10, k11, k12⟩ := c13 hz_; clear hz_) | (go_at_call 23; (with_reducible refine OF.out.mono ?_); rintro e w20 ⟨rfl, ⟨⟨nd, rfl⟩⟩⟩))
  clear PR
  clear OF HC7
  go_upto_region 28 with (first | ((with_reducible refine gate_dst (N := 170) rfl ?_); refine Kd.R_lit (Kd.int .u8) (w0 := w2) w2.heap.size 5 ?hg (N := 170) ?hd (xs := ([p10 % 256, 0, 0, 0] : List Int)) (inner := [.int .u8 (p10 % 256), .int .u8 0, .int .u8 0, .int .u8 0]) (ok := fun _ => True) (okp := fun _ => True) ?hr ?hp (fun _ hk => hk) trivial HQ8.out HQ8.out.size (by simp) ?_; (case hd => rfl); (case hg => rfl); (case hr => first | (go_simp; done) | (go_simp; rfl)); (case hp => exact (Reps.one (show Kd.M (Kd.int .u8) _ _ _ (p10 % 256) [.int .u8 (p10 % 256)] from rfl) (Reps.one (show Kd.M (Kd.int .u8) _ _ _ 0 [.int .u8 0] from rfl) (Reps.one (show Kd.M (Kd.int .u8) _ _ _ 0 [.int .u8 0] from rfl) (Reps.one (show Kd.M (Kd.int .u8) _ _ _ 0 [.int .u8 0] from rfl) (Reps.none _ _)))))); intro v30 w21 ho hb hg hat; have n1_ := Aside0.mk (Kd.R_below HR8.out (below_of_none hg)); clear HR8; have HR8 := n1_; have n2_ := Aside0.mk hb; clear HQ8; have HQ8 := n2_; obtain ⟨Al, cl, el⟩ := Kd.R_slice ho; subst el; have HLC := Aside0.mk (Kd.R_reads' ho); clear ho hb hg hat n1_ n2_) | ((with_reducible refine gate_builtin (b := .append) (xs := #[.tmp 166, .tmp 170]) rfl ?_); at_builtin; refine Kd.R_append_rows (Kd.int .u8) (w0 := w2) w2.heap.size rfl (.tmp 166) (.tmp 170) 23 5 (.int .u8 0) 1 rfl Try.underlying23 info5 rfl (by decide) (by omega) (.slice (some ⟨g3, 0, none⟩) (16) cc3) L8 ([p10 % 256, 0, 0, 0] : List Int) Al 4 cl (fun _ => True) (fun _ => False) rfl rfl HR8.out (HLC.out.2.2) (fun _ _ h => h) (fun _ h => h.elim) (fun _ _ => trivial) HQ8.out HQ8.out.size (by have := HL8.out; have := HN.out; have := HLIM.out; omega) ?_; intro v9 w9 ho hb hg hat; obtain ⟨L9, el⟩ : ∃ L, L8 ++ ([p10 % 256, 0, 0, 0] : List Int) = L := ⟨_, rfl⟩; rw [el] at ho; have EL9 := Aside0.mk el; have HL9 := Aside0.mk (show L9.length = 20 from by rw [← el]; simp only [List.length_append, List.length_replicate, List.length_cons, List.length_nil]; have := HL8.out; have := HN.out; omega); have HY9 := Aside0.mk (show Bytes L9 from by rw [← el]; exact HY8.out.app (fun x hx => by simp only [List.mem_cons, List.not_mem_nil, or_false] at hx; omega)); clear el; obtain ⟨g9, cc9, ev, hgb⟩ := rb_form ho (by rw [HL9.out]; have := HN.out; omega); rw [HL9.out] at ev; subst ev; have HG9 := Aside0.mk hgb; have HR9 := Aside0.mk ho; have HQ9 := Aside0.mk hb; clear ho hb hg hat hgb; clear k0 k1 k2 k3 k4 k5 k6 k7 k8 k9 k10 k11 k12; have hz_ := (HQ9.out.block w.heap.size (blk_lt HZ2.out)).trans HZ2.out; obtain ⟨k0, k1, k2, k3, k4, k5, k6, k7, k8, k9, k10, k11, k12⟩ := c13 hz_; clear hz_))
  go_upto_region 31 with fail
  go_upto_region 32 with (first | ((with_reducible refine gate_builtin (b := .append) (xs := #[.tmp 190, .tmp 192]) rfl ?_); at_builtin; refine Kd.R_append_rows (Kd.int .u8) (w0 := w2) w2.heap.size rfl (.tmp 190) (.tmp 192) 23 5 (.int .u8 0) 1 rfl Try.underlying23 info5 rfl (by decide) (by omega) (.slice (some ⟨g9, 0, none⟩) (20) cc9) L9 p12 A2 p12.length c2 (fun _ => True) (fun _ => False) rfl rfl HR9.out (Kd.C_below HD.out (below_step HB2.out HQ9.out)) (fun _ _ h => h) (fun _ h => h.elim) (fun _ _ => trivial) HQ9.out HQ9.out.size (by have := HL9.out; have := HN.out; have := HLIM.out; omega) ?_; intro v10 w10 ho hb hg hat; obtain ⟨L10, el⟩ : ∃ L, L9 ++ p12 = L := ⟨_, rfl⟩; rw [el] at ho; have EL10 := Aside0.mk el; have HL10 := Aside0.mk (show L10.length = n from by rw [← el]; simp only [List.length_append, List.length_replicate, List.length_cons, List.length_nil]; have := HL9.out; have := HN.out; omega); have HY10 := Aside0.mk (show Bytes L10 from by rw [← el]; exact HY9.out.app HYD.out); clear el; obtain ⟨g10, cc10, ev, hgb⟩ := rb_form ho (by rw [HL10.out]; have := HN.out; omega); rw [HL10.out] at ev; subst ev; have HG10 := Aside0.mk hgb; have HR10 := Aside0.mk ho; have HQ10 := Aside0.mk hb; clear ho hb hg hat hgb; clear k0 k1 k2 k3 k4 k5 k6 k7 k8 k9 k10 k11 k12; have hz_ := (HQ10.out.block w.heap.size (blk_lt HZ2.out)).trans HZ2.out; obtain ⟨k0, k1, k2, k3, k4, k5, k6, k7, k8, k9, k10, k11, k12⟩ := c13 hz_; clear hz_))
  have HC10 := Aside0.mk (Kd.R_reads' HR10.out)
  have SF := Aside0.mk (rsummed_calls (c := cc10) (n := n) (l := L10) (w := w10) (by have h := HC10.out.2.2; rw [← HC10.out.1] at h; exact h) HL10.out HC10.out.2.1 (by have := HL10.out; have := HN.out; omega) (by have := HL10.out; have := HN.out; omega))
  have HSO := Aside0.mk (summed_ok HY10.out (by have := HL10.out; have := HN.out; omega) (by have := HL10.out; have := HN.out; omega))
  go_upto_region 33 with (first
    | (go_at_call 42; (with_reducible refine SF.out.mono ?_); rintro e w11 ⟨v, rfl, ho, hb⟩; obtain ⟨Av, cv, ev⟩ := Kd.R_slice ho; subst ev; have HR11 := Aside0.mk (Kd.R_below HR10.out hb); have HQ11 := Aside0.mk (below_step HQ10.out hb); have HRD := Aside0.mk (Kd.R_reads' ho); have OF := Aside0.mk (rof_calls HRD.out.2.2 rfl HRD.out.2.1 HSO.out.2 (by have := HSO.out.1; omega)); clear ho hb; clear k0 k1 k2 k3 k4 k5 k6 k7 k8 k9 k10 k11 k12; have hz_ := (HQ11.out.block w.heap.size (blk_lt HZ2.out)).trans HZ2.out; obtain ⟨k0, k1, k2, k3, k4, k5, k6, k7, k8, k9, k10, k11, k12⟩ := c13 hz_; clear hz_)
    | (go_at_call 23; (with_reducible refine OF.out.mono ?_); rintro e w30 ⟨rfl, ⟨⟨nd2, rfl⟩⟩⟩))
  have HR11' := Aside0.mk (Kd.R_drewN HR11.out nd2)
  have HQ11' := Aside0.mk (bd HQ11.out nd2)
  generalize w11.drewN nd2 = w40 at HR11' HQ11' ⊢
  clear SF OF HRD HR11 HQ11 k0 k1 k2 k3 k4 k5 k6 k7 k8 k9 k10 k11 k12
  have hz_ := (HQ11'.out.block w.heap.size (blk_lt HZ2.out)).trans HZ2.out
  obtain ⟨k0, k1, k2, k3, k4, k5, k6, k7, k8, k9, k10, k11, k12⟩ := c13 hz_
  clear hz_
  have G43 := Aside0.mk (fun W => roundhouseref3_place.calls p0 18 W (by unfold roundhouseref3_place.f; have := HK.out; rw [if_pos (by omega)]))
  have PR := Aside0.mk (fun nd_ => rput_calls (w0 := w2) (w := w40.drewN nd_) 18 2 (65535 - fold (pairs (summedL L10))) (iz := 18) (mz := 2) (bd HQ11'.out nd_) (Kd.R_drewN HR11'.out nd_) (by have := HL10.out; have := HN.out; omega) rfl rfl (by omega) (by have := HL10.out; have := HN.out; have := HLIM.out; have := HK.out; omega))
  go_wp2_with (first
    | (go_at_call 43; (with_reducible refine (G43.out _).mono ?_); rintro e w41 ⟨rfl, ⟨⟨nd3, rfl⟩⟩⟩)
    | (go_at_call 41; (with_reducible refine (PR.out _).mono ?_); rintro e w42 ⟨rfl, hr, hq, hg⟩; have HRX := Aside0.mk hr; have HQX := Aside0.mk hq; clear hr hq hg))
  go_ret2
  refine ⟨_, rfl, ?_, below_step HB2.out HQX.out⟩
  have hb : L10 = rbodyL ⟨p0, p1, p2, p3, p4, p5, p6, p7, p8, p9, p10, p11, p12⟩ := by
    rw [← EL10.out, ← EL9.out, ← EL8.out, ← EL7.out, ← EL6.out, ← EL5.out, ← EL4.out]
    unfold rbodyL h4R h3R
    simp only [HNL.out, HNN.out, Int.reduceToNat]
    rw [if_pos HK.out]
  unfold rbuildL
  rw [← hb]
  simp only []
  rw [if_pos HK.out]
  rw [show sumL p0 p9 L10 = 65535 - fold (pairs (summedL L10)) from by unfold sumL; rw [if_neg (fun h => by have := HK.out; omega), if_neg (fun h => by have := HK.out; omega)]]
  exact Kd.R_lower HRX.out HB2.out.size
end Go.Proofs.Ytbjhmifhmojaoaa.WB

namespace Go.Proofs.Ytbjhmifhmojaoaa.WB
set_option linter.unusedVariables false
set_option linter.unusedSimpArgs false
open Go.RowKit Go.Proofs.Ytbjhmifhmojaoaa.Hp Go.Proofs.Ytbjhmifhmojaoaa.SB Go.Proofs.YtbjhmifhmojaoaaW.PrintWords Go.Proofs.YtbjhmifhmojaoaaW.PrintLast Go.Proofs.YtbjhmifhmojaoaaW.PrintMore
set_option maxHeartbeats 8000000 in
set_option maxRecDepth 100000 in
theorem rbuild_stream {A1 A2 : Option Addr} {c1 c2 : Nat} {p0 p1 p2 p3 p4 p5 p6 p7 p8 : Int} {p9 : Bool} {p10 : Int} {p11 p12 : List Int} {w : World} (ha : Kd.C (Kd.int .u8) w A1 p11.length p11) (hca : p11.length ≤ c1) (hd : Kd.C (Kd.int .u8) w A2 p12.length p12) (hcd : p12.length ≤ c2) (hba : Bytes p11) (hbd : Bytes p12) (hk : p0 = 1) (he : buildE ⟨p0, p1, p2, p3, p4, p5, p6, p7, p8, p9, p10, p11, p12⟩ = 0) :
    Calls Try.prog 18 #[.agg #[.int .i64 p0, .int .i64 p1, .int .i64 p2, .int .i64 p3, .int .i64 p4, .int .i64 p5, .int .i64 p6, .int .i64 p7, .int .i64 p8, .bool p9, .int .i64 p10, .slice A1 p11.length c1, .slice A2 p12.length c2]] w fun e w' => ∃ v, e = .returned (.tuple #[v, .int .i64 0]) ∧ RB w.heap.size w' v (rbuildL ⟨p0, p1, p2, p3, p4, p5, p6, p7, p8, p9, p10, p11, p12⟩) ∧ Below w.heap.size w w' := by
  have hn : nL ⟨p0, p1, p2, p3, p4, p5, p6, p7, p8, p9, p10, p11, p12⟩ = 24 + p12.length + p11.length := by unfold nL; simp [hk]
  have hok : okR ⟨p0, p1, p2, p3, p4, p5, p6, p7, p8, p9, p10, p11, p12⟩ = true := by
    unfold buildE at he
    split at he
    · cases he
    split at he
    · cases he
    rename_i h; simpa using h
  have hlim : nL ⟨p0, p1, p2, p3, p4, p5, p6, p7, p8, p9, p10, p11, p12⟩ ≤ 1500 ∧ (p0 = 1 → p11.length ≤ 40) ∧ (p0 = 3 → 24 ≤ p12.length) := by
    unfold buildE at he
    split at he
    · cases he
    split at he
    · cases he
    split at he
    · cases he
    split at he
    · cases he
    rename_i h1 h2 h3 h4
    refine ⟨by omega, fun h => ?_, fun h => ?_⟩
    · have : ¬ 40 < p11.length := fun h5 => h3 ⟨h, h5⟩
      omega
    · have : ¬ p12.length < 24 := fun h5 => h4 (Or.inl ⟨h, h5⟩)
      omega
  obtain ⟨n, hne⟩ : ∃ n, 24 + p12.length + p11.length = n := ⟨_, rfl⟩
  rw [hn, hne] at hlim
  have HN := Aside0.mk (show 20 ≤ n ∧ n ≤ 1500 ∧ 24 + p12.length + p11.length = n from ⟨by omega, hlim.1, hne⟩)
  have HNL := Aside0.mk (hn.trans hne)
  have HLIM := Aside0.mk hlim
  have HNN := Aside0.mk (show wrap64 (wrap64 (24 + (p12.length : Int)) + (p11.length : Int)) = (n : Int) from by rw [wid (n := 24 + (p12.length : Int)) (by omega) (by omega), wid (by omega) (by omega)]; omega)
  have dlim : decide (1500 < wrap64 (wrap64 (24 + (p12.length : Int)) + (p11.length : Int))) = false := decide_eq_false (by rw [HNN.out]; omega)
  have HA := Aside0.mk ha
  have HD := Aside0.mk hd
  have HCA := Aside0.mk hca
  have HCD := Aside0.mk hcd
  have HYA := Aside0.mk hba
  have HYD := Aside0.mk hbd
  have HK := Aside0.mk hk
  simp [okR, rgB, hk] at hok
  have dk1 : decide (p0 < 1) = false := decide_eq_false (by omega)
  have dk3 : decide (3 < p0) = false := decide_eq_false (by omega)
  have of : ∀ (a m : Int), 0 ≤ a → a ≤ m → roundhouseref3_out.f a m = some false := fun a m h0 h1 => by unfold roundhouseref3_out.f; rw [if_neg (by omega)]; simp; omega
  have O1 := Aside0.mk (fun W => roundhouseref3_out.calls p1 255 false W (of _ _ (by omega) (by omega)))
  have O2 := Aside0.mk (fun W => roundhouseref3_out.calls p2 255 false W (of _ _ (by omega) (by omega)))
  have O3 := Aside0.mk (fun W => roundhouseref3_out.calls p3 4294967295 false W (of _ _ (by omega) (by omega)))
  have O4 := Aside0.mk (fun W => roundhouseref3_out.calls p4 4294967295 false W (of _ _ (by omega) (by omega)))
  have O5 := Aside0.mk (fun W => roundhouseref3_out.calls p5 65535 false W (of _ _ (by omega) (by omega)))
  have O6 := Aside0.mk (fun W => roundhouseref3_out.calls p6 65535 false W (of _ _ (by omega) (by omega)))
  have O7 := Aside0.mk (fun W => roundhouseref3_out.calls p7 15 false W (of _ _ (by omega) (by omega)))
  have q1 : (p0 == 1) = true := by rw [hk]; rfl
  have q1n : (p0 != 1) = false := by rw [hk]; rfl
  have q2 : (p0 == 2) = false := by rw [hk]; rfl
  have q2n : (p0 != 2) = true := by rw [hk]; rfl
  have q3 : (p0 == 3) = false := by rw [hk]; rfl
  have q3n : (p0 != 3) = true := by rw [hk]; rfl
  have dopt : decide (40 < (p11.length : Int)) = false := decide_eq_false (by have := hlim.2.1 hk; omega)
  have doptn : decide (40 < p11.length) = false := decide_eq_false (by have := hlim.2.1 hk; omega)
  clear ha hd hba hbd hk he hn hok hlim hne hca hcd of
  go_enter Try.func18, Try.ntmps18
  go_upto_region 3 with fail
  have hz1 := new_blk w (.cells #[.int .i64 p0, .int .i64 p1, .int .i64 p2, .int .i64 p3, .int .i64 p4, .int .i64 p5, .int .i64 p6, .int .i64 p7, .int .i64 p8, .bool p9, .int .i64 p10, .slice A1 p11.length c1, .slice A2 p12.length c2] 26)
  have HB1 := Aside0.mk ((Below.refl w.heap.size w).alloc (Nat.le_refl _) (.cells #[.int .i64 p0, .int .i64 p1, .int .i64 p2, .int .i64 p3, .int .i64 p4, .int .i64 p5, .int .i64 p6, .int .i64 p7, .int .i64 p8, .bool p9, .int .i64 p10, .slice A1 p11.length c1, .slice A2 p12.length c2] 26))
  generalize (w.alloc (.cells #[.int .i64 p0, .int .i64 p1, .int .i64 p2, .int .i64 p3, .int .i64 p4, .int .i64 p5, .int .i64 p6, .int .i64 p7, .int .i64 p8, .bool p9, .int .i64 p10, .slice A1 p11.length c1, .slice A2 p12.length c2] 26)) = w1 at hz1 HB1 ⊢
  have HZ1 := Aside0.mk hz1
  have k0 := (c13 hz1).1
  clear hz1
  refine start_ (n := 12) (S := fun w' => w'.cell? ⟨w.heap.size, 0, none⟩ = some (.int .i64 p0)) (ds := []) #[false, false, false, false, false, false, false, false, false, false, false, false] (by kernel_rfl) rfl rfl (k0) (fun hHeld => ?_)
  refine pure_ (i := 0) (N := some 18) (v := ?_) (a' := ?_) #[true, false, false, false, false, false, false, false, false, false, false, false] rfl rfl (by kernel_rfl) (fun _ _ _ h => h) (Or.inl ⟨by rfl, ?_⟩) ?_ ?_
  rotate_left
  · intro w'
    go_simp
    with_reducible rfl
  rotate_left
  · simp only [Act.put, List.setIfInBounds_toArray, List.set_cons_zero, List.set_cons_succ, i64_w, i32_w]
    rfl
  refine pure_ (i := 3) (N := some 21) (v := ?_) (a' := ?_) #[true, false, false, true, false, false, false, false, false, false, false, false] rfl rfl (by kernel_rfl) (fun _ _ _ h => h) (Or.inl ⟨by rfl, ?_⟩) ?_ ?_
  rotate_left
  · intro w'
    go_simp
    with_reducible rfl
  rotate_left
  · simp only [Act.put, List.setIfInBounds_toArray, List.set_cons_zero, List.set_cons_succ, i64_w, i32_w]
    rfl
  refine pure_ (i := 6) (N := some 24) (v := ?_) (a' := ?_) #[true, false, false, true, false, false, true, false, false, false, false, false] rfl rfl (by kernel_rfl) (fun _ _ _ h => h) (Or.inl ⟨by rfl, ?_⟩) ?_ ?_
  rotate_left
  · intro w'
    go_simp
    with_reducible rfl
  rotate_left
  · simp only [Act.put, List.setIfInBounds_toArray, List.set_cons_zero, List.set_cons_succ, i64_w, i32_w]
    rfl
  refine take_ (i := 1) (N := some 19) (v := ?_) (a' := ?_) #[true, true, false, true, false, false, true, false, false, false, false, false] rfl rfl (by kernel_rfl) (fun _ _ _ h => h) (Or.inl ⟨by rfl, ?_⟩) hHeld ?_ ?_
  rotate_left
  · intro w' s0
    go_simp
    with_reducible rfl
  rotate_left
  · simp only [Act.put, List.setIfInBounds_toArray, List.set_cons_zero, List.set_cons_succ, i64_w, i32_w]
    rfl
  refine pure_ (i := 2) (N := some 20) (v := ?_) (a' := ?_) #[true, true, true, true, false, false, true, false, false, false, false, false] rfl rfl (by kernel_rfl) (fun _ _ _ h => h) (Or.inl ⟨by rfl, ?_⟩) ?_ ?_
  rotate_left
  · intro w'
    go_simp
    with_reducible rfl
  rotate_left
  · simp only [Act.put, List.setIfInBounds_toArray, List.set_cons_zero, List.set_cons_succ, i64_w, i32_w]
    rfl
  refine pure_ (i := 9) (N := some 4) (v := ?_) (a' := ?_) #[true, true, true, true, false, false, true, false, false, true, false, false] rfl rfl (by kernel_rfl) (fun _ _ _ h => h) (Or.inl ⟨by rfl, ?_⟩) ?_ ?_
  rotate_left
  · intro w'
    go_simp
    with_reducible rfl
  rotate_left
  · simp only [Act.put, List.setIfInBounds_toArray, List.set_cons_zero, List.set_cons_succ, i64_w, i32_w]
    rfl
  refine take_ (i := 4) (N := some 22) (v := ?_) (a' := ?_) #[true, true, true, true, true, false, true, false, false, true, false, false] rfl rfl (by kernel_rfl) (fun _ _ _ h => h) (Or.inl ⟨by rfl, ?_⟩) hHeld ?_ ?_
  rotate_left
  · intro w' s0
    go_simp
    with_reducible rfl
  rotate_left
  · simp only [Act.put, List.setIfInBounds_toArray, List.set_cons_zero, List.set_cons_succ, i64_w, i32_w]
    rfl
  refine pure_ (i := 5) (N := some 23) (v := ?_) (a' := ?_) #[true, true, true, true, true, true, true, false, false, true, false, false] rfl rfl (by kernel_rfl) (fun _ _ _ h => h) (Or.inl ⟨by rfl, ?_⟩) ?_ ?_
  rotate_left
  · intro w'
    go_simp
    with_reducible rfl
  rotate_left
  · simp only [Act.put, List.setIfInBounds_toArray, List.set_cons_zero, List.set_cons_succ, i64_w, i32_w]
    rfl
  refine pure_ (i := 10) (N := some 5) (v := ?_) (a' := ?_) #[true, true, true, true, true, true, true, false, false, true, true, false] rfl rfl (by kernel_rfl) (fun _ _ _ h => h) (Or.inl ⟨by rfl, ?_⟩) ?_ ?_
  rotate_left
  · intro w'
    go_simp
    with_reducible rfl
  rotate_left
  · simp only [Act.put, List.setIfInBounds_toArray, List.set_cons_zero, List.set_cons_succ, i64_w, i32_w]
    rfl
  refine take_ (i := 7) (N := some 25) (v := ?_) (a' := ?_) #[true, true, true, true, true, true, true, true, false, true, true, false] rfl rfl (by kernel_rfl) (fun _ _ _ h => h) (Or.inl ⟨by rfl, ?_⟩) hHeld ?_ ?_
  rotate_left
  · intro w' s0
    go_simp
    with_reducible rfl
  rotate_left
  · simp only [Act.put, List.setIfInBounds_toArray, List.set_cons_zero, List.set_cons_succ, i64_w, i32_w]
    rfl
  refine pure_ (i := 8) (N := some 26) (v := ?_) (a' := ?_) #[true, true, true, true, true, true, true, true, true, true, true, false] rfl rfl (by kernel_rfl) (fun _ _ _ h => h) (Or.inl ⟨by rfl, ?_⟩) ?_ ?_
  rotate_left
  · intro w'
    go_simp
    with_reducible rfl
  rotate_left
  · simp only [Act.put, List.setIfInBounds_toArray, List.set_cons_zero, List.set_cons_succ, i64_w, i32_w]
    rfl
  refine pure_ (i := 11) (N := some 6) (v := ?_) (a' := ?_) #[true, true, true, true, true, true, true, true, true, true, true, true] rfl rfl (by kernel_rfl) (fun _ _ _ h => h) (Or.inl ⟨by rfl, ?_⟩) ?_ ?_
  rotate_left
  · intro w'
    go_simp
    with_reducible rfl
  rotate_left
  · simp only [Act.put, List.setIfInBounds_toArray, List.set_cons_zero, List.set_cons_succ, i64_w, i32_w]
    rfl
  refine done_ (by kernel_rfl) ?_
  clear hHeld k0
  obtain ⟨k0, k1, k2, k3, k4, k5, k6, k7, k8, k9, k10, k11, k12⟩ := c13 HZ1.out
  go_upto_region 15 with (first | (go_at_call 40; (with_reducible refine (O1.out _).mono ?_); rintro e w5 ⟨rfl, ⟨⟨nd, rfl⟩⟩⟩) | (go_at_call 40; (with_reducible refine (O2.out _).mono ?_); rintro e w5 ⟨rfl, ⟨⟨nd, rfl⟩⟩⟩) | (go_at_call 40; (with_reducible refine (O3.out _).mono ?_); rintro e w5 ⟨rfl, ⟨⟨nd, rfl⟩⟩⟩) | (go_at_call 40; (with_reducible refine (O4.out _).mono ?_); rintro e w5 ⟨rfl, ⟨⟨nd, rfl⟩⟩⟩) | (go_at_call 40; (with_reducible refine (O5.out _).mono ?_); rintro e w5 ⟨rfl, ⟨⟨nd, rfl⟩⟩⟩) | (go_at_call 40; (with_reducible refine (O6.out _).mono ?_); rintro e w5 ⟨rfl, ⟨⟨nd, rfl⟩⟩⟩) | (go_at_call 40; (with_reducible refine (O7.out _).mono ?_); rintro e w5 ⟨rfl, ⟨⟨nd, rfl⟩⟩⟩))
  generalize hW : World.drewN _ _ = w2
  have HZ2 : Aside0 (w2.heap[w.heap.size]? = some (.cells #[.int .i64 p0, .int .i64 p1, .int .i64 p2, .int .i64 p3, .int .i64 p4, .int .i64 p5, .int .i64 p6, .int .i64 p7, .int .i64 p8, .bool p9, .int .i64 p10, .slice A1 p11.length c1, .slice A2 p12.length c2] 26 (0, 0))) := Aside0.mk (by rw [← hW]; exact HZ1.out)
  have HB2 : Aside0 (Below w.heap.size w w2) := Aside0.mk (by rw [← hW]; exact bd HB1.out _)
  clear hW k0 k1 k2 k3 k4 k5 k6 k7 k8 k9 k10 k11 k12 HZ1 HB1 dlim dk1 dk3 O1 O2 O3 O4 O5 O6 O7 dopt doptn
  have HQ2 := Aside0.mk (Below.refl w2.heap.size w2)
  obtain ⟨k0, k1, k2, k3, k4, k5, k6, k7, k8, k9, k10, k11, k12⟩ := c13 HZ2.out
  go_upto_region 16 with (first
    | ((with_reducible refine gate_dst (N := 117) rfl ?_); refine R_make_cap (w0 := w2) w2.heap.size rfl rfl (.const (.int .i64 16)) (.tmp 116) rfl 16 n 16 (wrap64 (wrap64 (24 + (p12.length : Int)) + (p11.length : Int))) rfl HNN.out rfl rfl (by have := HN.out; omega) (by have := HN.out; omega) HQ2.out (Nat.le_refl _) ?_; intro v3 w3 ho hb hg hat; obtain ⟨g3, cc3, ev, hgb⟩ := rb_form ho (by simp); simp only [List.length_replicate] at ev; subst ev; have HG3 := Aside0.mk hgb; have HR3 := Aside0.mk ho; have HQ3 := Aside0.mk hb; clear ho hb hg hat hgb; clear k0 k1 k2 k3 k4 k5 k6 k7 k8 k9 k10 k11 k12; have hz_ := (HQ3.out.block w.heap.size (blk_lt HZ2.out)).trans HZ2.out; obtain ⟨k0, k1, k2, k3, k4, k5, k6, k7, k8, k9, k10, k11, k12⟩ := c13 hz_; clear hz_))
  have HCZ := Aside0.mk (fun W (h : Below w2.heap.size w2 W) => c13 ((h.block w.heap.size (blk_lt HZ2.out)).trans HZ2.out))
  have r0 := rb_cell HR3.out 0 (by omega)
  have r1 := rb_cell HR3.out 1 (by omega)
  have r12 := rb_cell HR3.out 12 (by omega)
  have s0 := rb_frozen HR3.out 0
  have s1 := rb_frozen HR3.out 1
  have s12 := rb_frozen HR3.out 12
  clear k0 k1 k2 k3 k4 k5 k6 k7 k8 k9 k10 k11 k12
  refine start_ (n := 18) (S := fun w' => w'.cell? ⟨w.heap.size, 0, none⟩ = some (.int .i64 p0) ∧ w'.cell? ⟨w.heap.size, 1, none⟩ = some (.int .i64 p1) ∧ w'.cell? ⟨w.heap.size, 2, none⟩ = some (.int .i64 p2)) (ds := []) #[false, false, false, false, false, false, false, false, false, false, false, false, false, false, false, false, false, false] (by kernel_rfl) rfl rfl ⟨(HCZ.out _ HQ3.out.drew).1, (HCZ.out _ HQ3.out.drew).2.1, (HCZ.out _ HQ3.out.drew).2.2.1⟩ (fun hHeld => ?_)
  refine pure_ (i := 0) (N := some 118) (v := ?_) (a' := ?_) #[true, false, false, false, false, false, false, false, false, false, false, false, false, false, false, false, false, false] rfl rfl (by kernel_rfl) (fun _ _ _ h => h) (Or.inl ⟨by rfl, ?_⟩) ?_ ?_
  rotate_left
  · intro w'
    go_simp
    with_reducible rfl
  rotate_left
  · simp only [Act.put, List.setIfInBounds_toArray, List.set_cons_zero, List.set_cons_succ, i64_w, i32_w]
    rfl
  refine pure_ (i := 1) (N := some 119) (v := ?_) (a' := ?_) #[true, true, false, false, false, false, false, false, false, false, false, false, false, false, false, false, false, false] rfl rfl (by kernel_rfl) (fun _ _ _ h => h) (Or.inl ⟨by rfl, ?_⟩) ?_ ?_
  rotate_left
  · intro w'
    go_simp
    with_reducible rfl
  rotate_left
  · simp only [Act.put, List.setIfInBounds_toArray, List.set_cons_zero, List.set_cons_succ, i64_w, i32_w]
    rfl
  refine pure_ (i := 2) (N := some 120) (v := ?_) (a' := ?_) #[true, true, true, false, false, false, false, false, false, false, false, false, false, false, false, false, false, false] rfl rfl (by kernel_rfl) (fun _ _ _ h => h) (Or.inl ⟨by rfl, ?_⟩) ?_ ?_
  rotate_left
  · intro w'
    go_simp
    with_reducible rfl
  rotate_left
  · simp only [Act.put, List.setIfInBounds_toArray, List.set_cons_zero, List.set_cons_succ, i64_w, i32_w]
    rfl
  refine pure_ (i := 3) (N := some 121) (v := ?_) (a' := ?_) #[true, true, true, true, false, false, false, false, false, false, false, false, false, false, false, false, false, false] rfl rfl (by kernel_rfl) (fun _ _ _ h => h) (Or.inl ⟨by rfl, ?_⟩) ?_ ?_
  rotate_left
  · intro w'
    go_simp
    with_reducible rfl
  rotate_left
  · simp only [Act.put, List.setIfInBounds_toArray, List.set_cons_zero, List.set_cons_succ, i64_w, i32_w]
    rfl
  refine pure_ (i := 6) (N := some 124) (v := ?_) (a' := ?_) #[true, true, true, true, false, false, true, false, false, false, false, false, false, false, false, false, false, false] rfl rfl (by kernel_rfl) (fun _ _ _ h => h) (Or.inl ⟨by rfl, ?_⟩) ?_ ?_
  rotate_left
  · intro w'
    go_simp
    with_reducible rfl
  rotate_left
  · simp only [Act.put, List.setIfInBounds_toArray, List.set_cons_zero, List.set_cons_succ, i64_w, i32_w]
    rfl
  refine pure_ (i := 9) (N := some 127) (v := ?_) (a' := ?_) #[true, true, true, true, false, false, true, false, false, true, false, false, false, false, false, false, false, false] rfl rfl (by kernel_rfl) (fun _ _ _ h => h) (Or.inl ⟨by rfl, ?_⟩) ?_ ?_
  rotate_left
  · intro w'
    go_simp
    with_reducible rfl
  rotate_left
  · simp only [Act.put, List.setIfInBounds_toArray, List.set_cons_zero, List.set_cons_succ, i64_w, i32_w]
    rfl
  refine take_ (i := 4) (N := some 122) (v := ?_) (a' := ?_) #[true, true, true, true, true, false, true, false, false, true, false, false, false, false, false, false, false, false] rfl rfl (by kernel_rfl) (fun _ _ _ h => h) (Or.inl ⟨by rfl, ?_⟩) hHeld ?_ ?_
  rotate_left
  · rintro w' ⟨s0, s1, s2⟩
    go_simp
    with_reducible rfl
  rotate_left
  · simp only [Act.put, List.setIfInBounds_toArray, List.set_cons_zero, List.set_cons_succ, i64_w, i32_w]
    rfl
  refine pure_ (i := 5) (N := some 123) (v := ?_) (a' := ?_) #[true, true, true, true, true, true, true, false, false, true, false, false, false, false, false, false, false, false] rfl rfl (by kernel_rfl) (fun _ _ _ h => h) (Or.inl ⟨by rfl, ?_⟩) ?_ ?_
  rotate_left
  · intro w'
    go_simp
    with_reducible rfl
  rotate_left
  · simp only [Act.put, List.setIfInBounds_toArray, List.set_cons_zero, List.set_cons_succ, i64_w, i32_w]
    rfl
  refine pure_ (i := 12) (N := some 130) (v := ?_) (a' := ?_) #[true, true, true, true, true, true, true, false, false, true, false, false, true, false, false, false, false, false] rfl rfl (by kernel_rfl) (fun _ _ _ h => h) (Or.inl ⟨by rfl, ?_⟩) ?_ ?_
  rotate_left
  · intro w'
    go_simp
    with_reducible rfl
  rotate_left
  · simp only [Act.put, List.setIfInBounds_toArray, List.set_cons_zero, List.set_cons_succ, i64_w, i32_w]
    rfl
  refine take_ (i := 7) (N := some 125) (v := ?_) (a' := ?_) #[true, true, true, true, true, true, true, true, false, true, false, false, true, false, false, false, false, false] rfl rfl (by kernel_rfl) (fun _ _ _ h => h) (Or.inl ⟨by rfl, ?_⟩) hHeld ?_ ?_
  rotate_left
  · rintro w' ⟨s0, s1, s2⟩
    go_simp
    with_reducible rfl
  rotate_left
  · simp only [Act.put, List.setIfInBounds_toArray, List.set_cons_zero, List.set_cons_succ, i64_w, i32_w]
    rfl
  refine pure_ (i := 8) (N := some 126) (v := ?_) (a' := ?_) #[true, true, true, true, true, true, true, true, true, true, false, false, true, false, false, false, false, false] rfl rfl (by kernel_rfl) (fun _ _ _ h => h) (Or.inl ⟨by rfl, ?_⟩) ?_ ?_
  rotate_left
  · intro w'
    go_simp
    with_reducible rfl
  rotate_left
  · simp only [Act.put, List.setIfInBounds_toArray, List.set_cons_zero, List.set_cons_succ, i64_w, i32_w]
    rfl
  refine take_ (i := 10) (N := some 128) (v := ?_) (a' := ?_) #[true, true, true, true, true, true, true, true, true, true, true, false, true, false, false, false, false, false] rfl rfl (by kernel_rfl) (fun _ _ _ h => h) (Or.inl ⟨by rfl, ?_⟩) hHeld ?_ ?_
  rotate_left
  · rintro w' ⟨s0, s1, s2⟩
    go_simp
    with_reducible rfl
  rotate_left
  · simp only [Act.put, List.setIfInBounds_toArray, List.set_cons_zero, List.set_cons_succ, i64_w, i32_w]
    rfl
  refine pure_ (i := 11) (N := some 129) (v := ?_) (a' := ?_) #[true, true, true, true, true, true, true, true, true, true, true, true, true, false, false, false, false, false] rfl rfl (by kernel_rfl) (fun _ _ _ h => h) (Or.inl ⟨by rfl, ?_⟩) ?_ ?_
  rotate_left
  · intro w'
    go_simp
    with_reducible rfl
  rotate_left
  · simp only [Act.put, List.setIfInBounds_toArray, List.set_cons_zero, List.set_cons_succ, i64_w, i32_w]
    rfl
  refine one_ (i := 13) (N := none) #[true, true, true, true, true, true, true, true, true, true, true, true, true, true, false, false, false, false] rfl rfl (by kernel_rfl) (by decide) (fun K hK => ?_)
  refine skip_ (w1 := ?_) (by rfl) rfl ?_ ?_
  rotate_left
  · go_simp
    rfl
  refine hK.out _ _ ⟨(HCZ.out _ (HQ3.out.drew.setCell (p := ⟨g3, 0, none⟩) HG3.out _)).1, (HCZ.out _ (HQ3.out.drew.setCell (p := ⟨g3, 0, none⟩) HG3.out _)).2.1, (HCZ.out _ (HQ3.out.drew.setCell (p := ⟨g3, 0, none⟩) HG3.out _)).2.2.1⟩ (fun hHeld => ?_)
  clear hK K
  refine pure_ (i := 14) (N := some 131) (v := ?_) (a' := ?_) #[true, true, true, true, true, true, true, true, true, true, true, true, true, true, true, false, false, false] rfl rfl (by kernel_rfl) (fun _ _ _ h => h) (Or.inl ⟨by rfl, ?_⟩) ?_ ?_
  rotate_left
  · intro w'
    go_simp
    with_reducible rfl
  rotate_left
  · simp only [Act.put, List.setIfInBounds_toArray, List.set_cons_zero, List.set_cons_succ, i64_w, i32_w]
    rfl
  refine one_ (i := 15) (N := none) #[true, true, true, true, true, true, true, true, true, true, true, true, true, true, true, true, false, false] rfl rfl (by kernel_rfl) (by decide) (fun K hK => ?_)
  refine skip_ (w1 := ?_) (by rfl) rfl ?_ ?_
  rotate_left
  · go_simp
    rfl
  refine hK.out _ _ ⟨(HCZ.out _ ((HQ3.out.drew.setCell (p := ⟨g3, 0, none⟩) HG3.out _).setCell (p := ⟨g3, 1, none⟩) HG3.out _)).1, (HCZ.out _ ((HQ3.out.drew.setCell (p := ⟨g3, 0, none⟩) HG3.out _).setCell (p := ⟨g3, 1, none⟩) HG3.out _)).2.1, (HCZ.out _ ((HQ3.out.drew.setCell (p := ⟨g3, 0, none⟩) HG3.out _).setCell (p := ⟨g3, 1, none⟩) HG3.out _)).2.2.1⟩ (fun hHeld => ?_)
  clear hK K
  refine pure_ (i := 16) (N := some 132) (v := ?_) (a' := ?_) #[true, true, true, true, true, true, true, true, true, true, true, true, true, true, true, true, true, false] rfl rfl (by kernel_rfl) (fun _ _ _ h => h) (Or.inl ⟨by rfl, ?_⟩) ?_ ?_
  rotate_left
  · intro w'
    go_simp
    with_reducible rfl
  rotate_left
  · simp only [Act.put, List.setIfInBounds_toArray, List.set_cons_zero, List.set_cons_succ, i64_w, i32_w]
    rfl
  refine one_ (i := 17) (N := none) #[true, true, true, true, true, true, true, true, true, true, true, true, true, true, true, true, true, true] rfl rfl (by kernel_rfl) (by decide) (fun K hK => ?_)
  refine skip_ (w1 := ?_) (by rfl) rfl ?_ ?_
  rotate_left
  · go_simp
    rfl
  refine hK.out _ _ ⟨(HCZ.out _ (((HQ3.out.drew.setCell (p := ⟨g3, 0, none⟩) HG3.out _).setCell (p := ⟨g3, 1, none⟩) HG3.out _).setCell (p := ⟨g3, 12, none⟩) HG3.out _)).1, (HCZ.out _ (((HQ3.out.drew.setCell (p := ⟨g3, 0, none⟩) HG3.out _).setCell (p := ⟨g3, 1, none⟩) HG3.out _).setCell (p := ⟨g3, 12, none⟩) HG3.out _)).2.1, (HCZ.out _ (((HQ3.out.drew.setCell (p := ⟨g3, 0, none⟩) HG3.out _).setCell (p := ⟨g3, 1, none⟩) HG3.out _).setCell (p := ⟨g3, 12, none⟩) HG3.out _)).2.2.1⟩ (fun hHeld => ?_)
  clear hK K
  refine done_ (by kernel_rfl) ?_
  clear r0 r1 r12 s0 s1 s12 hHeld
  generalize hW : World.drew _ = w4
  have hr : RB w2.heap.size w4 (.slice (some ⟨g3, 0, none⟩) 16 cc3) ((((List.replicate 16 0).set 0 (IntKind.u8.wrap p0)).set 1 (IntKind.u8.wrap p1)).set 12 (IntKind.u8.wrap p2)) := by
    rw [← hW]
    exact Kd.R_drew (rb_set (rb_set (rb_set HR3.out 0 (IntKind.u8.wrap p0)) 1 (IntKind.u8.wrap p1)) 12 (IntKind.u8.wrap p2))
  simp only [IntKind.wrap_u8] at hr
  obtain ⟨L4, el⟩ : ∃ L, (((List.replicate 16 0).set 0 (p0 % 256)).set 1 (p1 % 256)).set 12 (p2 % 256) = L := ⟨_, rfl⟩
  rw [el] at hr
  have EL4 := Aside0.mk el
  clear el
  have HR4 := Aside0.mk hr
  have HQ4 := Aside0.mk (show Below w2.heap.size w2 w4 from by
    rw [← hW]
    exact (((HQ3.out.setCell (p := ⟨g3, 0, none⟩) HG3.out _).setCell (p := ⟨g3, 1, none⟩) HG3.out _).setCell (p := ⟨g3, 12, none⟩) HG3.out _).drew)
  have HL4 := Aside0.mk (show L4.length = 16 from by rw [← EL4.out]; simp)
  have HY4 := Aside0.mk (show Bytes L4 from by
    rw [← EL4.out]
    refine Bytes.set (Bytes.set (Bytes.set ?_ _ (by omega) (by omega)) _ (by omega) (by omega)) _ (by omega) (by omega)
    intro x hx
    have := List.eq_of_mem_replicate hx
    omega)
  clear hW hr HCZ HR3
  have hz_ := (HQ4.out.block w.heap.size (blk_lt HZ2.out)).trans HZ2.out; obtain ⟨k0, k1, k2, k3, k4, k5, k6, k7, k8, k9, k10, k11, k12⟩ := c13 hz_; clear hz_
  have PR := Aside0.mk (rput_calls (w0 := w2) (w := w4) 2 2 (wrap64 (wrap64 (24 + (p12.length : Int)) + (p11.length : Int))) (iz := 2) (mz := 2) HQ4.out HR4.out (by have := HL4.out; have := HN.out; omega) rfl rfl (by omega) (by have := HL4.out; have := HN.out; omega))
  go_upto_region 18 with (first | (go_at_call 41; (with_reducible refine PR.out.mono ?_); rintro e w5 ⟨rfl, hr, hq, hg⟩; obtain ⟨L5, el⟩ : ∃ L, putL L4 2 2 (wrap64 (wrap64 (24 + (p12.length : Int)) + (p11.length : Int))) = L := ⟨_, rfl⟩; rw [el] at hr; have EL5 := Aside0.mk el; clear el; have HR5 := Aside0.mk hr; have HQ5 := Aside0.mk hq; have HL5 := Aside0.mk (show L5.length = 16 from by rw [← EL5.out, putL_len]; exact HL4.out); have HY5 := Aside0.mk (show Bytes L5 from by rw [← EL5.out]; exact putL_bytes _ _ _ HY4.out); clear hr hq hg; clear k0 k1 k2 k3 k4 k5 k6 k7 k8 k9 k10 k11 k12; have hz_ := (HQ5.out.block w.heap.size (blk_lt HZ2.out)).trans HZ2.out; obtain ⟨k0, k1, k2, k3, k4, k5, k6, k7, k8, k9, k10, k11, k12⟩ := c13 hz_; clear hz_))
  clear PR
  have PR := Aside0.mk (rput_calls (w0 := w2) (w := w5) 4 4 (p3) (iz := 4) (mz := 4) HQ5.out HR5.out (by have := HL5.out; have := HN.out; omega) rfl rfl (by omega) (by have := HL5.out; have := HN.out; omega))
  go_upto_region 19 with (first | (go_at_call 41; (with_reducible refine PR.out.mono ?_); rintro e w6 ⟨rfl, hr, hq, hg⟩; obtain ⟨L6, el⟩ : ∃ L, putL L5 4 4 (p3) = L := ⟨_, rfl⟩; rw [el] at hr; have EL6 := Aside0.mk el; clear el; have HR6 := Aside0.mk hr; have HQ6 := Aside0.mk hq; have HL6 := Aside0.mk (show L6.length = 16 from by rw [← EL6.out, putL_len]; exact HL5.out); have HY6 := Aside0.mk (show Bytes L6 from by rw [← EL6.out]; exact putL_bytes _ _ _ HY5.out); clear hr hq hg; clear k0 k1 k2 k3 k4 k5 k6 k7 k8 k9 k10 k11 k12; have hz_ := (HQ6.out.block w.heap.size (blk_lt HZ2.out)).trans HZ2.out; obtain ⟨k0, k1, k2, k3, k4, k5, k6, k7, k8, k9, k10, k11, k12⟩ := c13 hz_; clear hz_))
  clear PR
  have PR := Aside0.mk (rput_calls (w0 := w2) (w := w6) 8 4 (p4) (iz := 8) (mz := 4) HQ6.out HR6.out (by have := HL6.out; have := HN.out; omega) rfl rfl (by omega) (by have := HL6.out; have := HN.out; omega))
  go_upto_region 20 with (first | (go_at_call 41; (with_reducible refine PR.out.mono ?_); rintro e w7 ⟨rfl, hr, hq, hg⟩; obtain ⟨L7, el⟩ : ∃ L, putL L6 8 4 (p4) = L := ⟨_, rfl⟩; rw [el] at hr; have EL7 := Aside0.mk el; clear el; have HR7 := Aside0.mk hr; have HQ7 := Aside0.mk hq; have HL7 := Aside0.mk (show L7.length = 16 from by rw [← EL7.out, putL_len]; exact HL6.out); have HY7 := Aside0.mk (show Bytes L7 from by rw [← EL7.out]; exact putL_bytes _ _ _ HY6.out); clear hr hq hg; clear k0 k1 k2 k3 k4 k5 k6 k7 k8 k9 k10 k11 k12; have hz_ := (HQ7.out.block w.heap.size (blk_lt HZ2.out)).trans HZ2.out; obtain ⟨k0, k1, k2, k3, k4, k5, k6, k7, k8, k9, k10, k11, k12⟩ := c13 hz_; clear hz_))
  clear PR
  have HC7 := Aside0.mk (Kd.R_reads' HR7.out)
  have OF := Aside0.mk (rof_calls (c := cc3) (n := 16) (l := L7) (w := w7) (by have h := HC7.out.2.2; rw [← HC7.out.1] at h; exact h) HL7.out HC7.out.2.1 HY7.out (by rw [HL7.out]; omega))
  have PR := Aside0.mk (fun nd_ => rput_calls (w0 := w2) (w := (w7.drewN nd_)) 14 2 (65535 - fold (pairs L7)) (iz := 14) (mz := 2) (bd HQ7.out nd_) (Kd.R_drewN HR7.out nd_) (by have := HL7.out; have := HN.out; omega) rfl rfl (by omega) (by have := HL7.out; have := HN.out; omega))
  go_upto_region 21 with (first | (go_at_call 41; (with_reducible refine (PR.out _).mono ?_); rintro e w8 ⟨rfl, hr, hq, hg⟩; obtain ⟨L8, el⟩ : ∃ L, putL L7 14 2 (65535 - fold (pairs L7)) = L := ⟨_, rfl⟩; rw [el] at hr; have EL8 := Aside0.mk el; clear el; have HR8 := Aside0.mk hr; have HQ8 := Aside0.mk hq; have HL8 := Aside0.mk (show L8.length = 16 from by rw [← EL8.out, putL_len]; exact HL7.out); have HY8 := Aside0.mk (show Bytes L8 from by rw [← EL8.out]; exact putL_bytes _ _ _ HY7.out); clear hr hq hg; clear k0 k1 k2 k3 k4 k5 k6 k7 k8 k9 k10 k11 k12; have hz_ := (HQ8.out.block w.heap.size (blk_lt HZ2.out)).trans HZ2.out; obtain ⟨k0, k1, k2, k3, k4, k5, k6, k7, k8, k9, k10, k11, k12⟩ := c13 hz_; clear hz_) | (go_at_call 23; (with_reducible refine OF.out.mono ?_); rintro e w20 ⟨rfl, ⟨⟨nd, rfl⟩⟩⟩))
  clear PR
  clear OF HC7
  have HCZ := Aside0.mk (fun W (h : Below w2.heap.size w2 W) => c13 ((h.block w.heap.size (blk_lt HZ2.out)).trans HZ2.out))
  clear k0 k1 k2 k3 k4 k5 k6 k7 k8 k9 k10 k11 k12
  refine start_ (n := 6) (S := fun w' => w'.cell? ⟨w.heap.size, 11, none⟩ = some (.slice A1 p11.length c1)) (ds := []) #[false, false, false, false, false, false] (by kernel_rfl) rfl rfl ((HCZ.out _ HQ8.out.drew).2.2.2.2.2.2.2.2.2.2.2.1) (fun hHeld => ?_)
  refine pure_ (i := 0) (N := some 148) (v := ?_) (a' := ?_) #[true, false, false, false, false, false] rfl rfl (by kernel_rfl) (fun _ _ _ h => h) (Or.inl ⟨by rfl, ?_⟩) ?_ ?_
  rotate_left
  · intro w'
    go_simp
    with_reducible rfl
  rotate_left
  · simp only [Act.put, List.setIfInBounds_toArray, List.set_cons_zero, List.set_cons_succ, i64_w, i32_w]
    rfl
  refine pure_ (i := 2) (N := some 150) (v := ?_) (a' := ?_) #[true, false, true, false, false, false] rfl rfl (by kernel_rfl) (fun _ _ _ h => h) (Or.inl ⟨by rfl, ?_⟩) ?_ ?_
  rotate_left
  · intro w'
    go_simp
    with_reducible rfl
  rotate_left
  · simp only [Act.put, List.setIfInBounds_toArray, List.set_cons_zero, List.set_cons_succ, i64_w, i32_w]
    rfl
  refine take_ (i := 3) (N := some 151) (v := ?_) (a' := ?_) #[true, false, true, true, false, false] rfl rfl (by kernel_rfl) (fun _ _ _ h => h) (Or.inl ⟨by rfl, ?_⟩) hHeld ?_ ?_
  rotate_left
  · intro w' s0
    go_simp
    with_reducible rfl
  rotate_left
  · simp only [Act.put, List.setIfInBounds_toArray, List.set_cons_zero, List.set_cons_succ, i64_w, i32_w]
    rfl
  refine one_ (i := 1) (N := some 149) #[true, true, true, true, false, false] rfl rfl (by kernel_rfl) (by decide) (fun K hK => ?_)
  refine Kd.R_append_zeros_step (Kd.int .u8) (w0 := w2) w2.heap.size (by rfl) (.tmp 148) (.const (.int .i64 8)) 23 3 5 (.int .u8 0) 1 rfl Try.underlying23 Try.underlying3 info5 rfl (by decide) (by decide) (.slice (some ⟨g3, 0, none⟩) (16) cc3) L8 (0 : Int) 8 (fun _ => True) rfl rfl rfl (fun _ _ => trivial) (Kd.R_drew HR8.out) (by decide) HQ8.out.drew HQ8.out.drew.size (by have := HL8.out; omega) ?_
  intro v9 w9 ho hb hg hat
  obtain ⟨L9, el⟩ : ∃ L, L8 ++ List.replicate (Int.toNat 8) 0 = L := ⟨_, rfl⟩
  rw [el] at ho
  have EL9 := Aside0.mk el
  have HL9 := Aside0.mk (show L9.length = 24 from by rw [← el]; simp only [List.length_append, List.length_replicate, List.length_cons, List.length_nil]; have := HL8.out; have := HN.out; omega)
  have HY9 := Aside0.mk (show Bytes L9 from by rw [← el]; exact HY8.out.app (fun x hx => by have := List.eq_of_mem_replicate hx; omega))
  clear el
  obtain ⟨g9, cc9, ev, hgb⟩ := rb_form ho (by rw [HL9.out]; have := HN.out; omega)
  rw [HL9.out] at ev
  subst ev
  have HG9 := Aside0.mk hgb
  have HR9 := Aside0.mk ho
  have HQ9 := Aside0.mk hb
  clear ho hb hg hat hgb
  refine hK.out _ _ ((HCZ.out _ HQ9.out).2.2.2.2.2.2.2.2.2.2.2.1) (fun hHeld => ?_)
  clear hK K
  refine norm_ (a' := ?_) ?_ ?_
  rotate_left
  · show Act.put _ (some 149) _ = _
    simp only [Act.put, List.setIfInBounds_toArray, List.set_cons_zero, List.set_cons_succ, i64_w, i32_w]
    rfl
  refine one_ (i := 4) (N := some 152) #[true, true, true, true, true, false] rfl rfl (by kernel_rfl) (by decide) (fun K hK => ?_)
  refine Kd.R_append_rows_step (Kd.int .u8) (w0 := w2) w2.heap.size (by rfl) (.tmp 149) (.tmp 151) 23 5 (.int .u8 0) 1 rfl Try.underlying23 info5 rfl (by decide) (by omega) (.slice (some ⟨g9, 0, none⟩) (24) cc9) L9 p11 A1 p11.length c1 (fun _ => True) (fun _ => False) rfl rfl HR9.out (Kd.C_below HA.out (below_step HB2.out HQ9.out)) (fun _ _ h => h) (fun _ h => h.elim) (fun _ _ => trivial) HQ9.out HQ9.out.size (by have := HL9.out; have := HN.out; have := HLIM.out; omega) ?_
  intro v10 w10 ho hb hg hat
  obtain ⟨L10, el⟩ : ∃ L, L9 ++ p11 = L := ⟨_, rfl⟩
  rw [el] at ho
  have EL10 := Aside0.mk el
  have HL10 := Aside0.mk (show L10.length = 24 + p11.length from by rw [← el]; simp only [List.length_append, List.length_replicate, List.length_cons, List.length_nil]; have := HL9.out; have := HN.out; omega)
  have HY10 := Aside0.mk (show Bytes L10 from by rw [← el]; exact HY9.out.app HYA.out)
  clear el
  obtain ⟨g10, cc10, ev, hgb⟩ := rb_form ho (by rw [HL10.out]; have := HN.out; omega)
  rw [HL10.out] at ev
  subst ev
  have HG10 := Aside0.mk hgb
  have HR10 := Aside0.mk ho
  have HQ10 := Aside0.mk hb
  clear ho hb hg hat hgb
  refine hK.out _ _ ((HCZ.out _ HQ10.out).2.2.2.2.2.2.2.2.2.2.2.1) (fun hHeld => ?_)
  clear hK K
  refine norm_ (a' := ?_) ?_ ?_
  rotate_left
  · show Act.put _ (some 152) _ = _
    simp only [Act.put, List.setIfInBounds_toArray, List.set_cons_zero, List.set_cons_succ, i64_w, i32_w]
    rfl
  refine pure_ (i := 5) (N := some 8) (v := ?_) (a' := ?_) #[true, true, true, true, true, true] rfl rfl (by kernel_rfl) (fun _ _ _ h => h) (Or.inl ⟨by rfl, ?_⟩) ?_ ?_
  rotate_left
  · intro w'
    go_simp
    with_reducible rfl
  rotate_left
  · simp only [Act.put, List.setIfInBounds_toArray, List.set_cons_zero, List.set_cons_succ, i64_w, i32_w]
    rfl
  refine done_ (by kernel_rfl) ?_
  clear hHeld
  have hz_ := (HQ10.out.block w.heap.size (blk_lt HZ2.out)).trans HZ2.out; obtain ⟨k0, k1, k2, k3, k4, k5, k6, k7, k8, k9, k10, k11, k12⟩ := c13 hz_; clear hz_
  go_upto_region 22 with fail
  clear k0 k1 k2 k3 k4 k5 k6 k7 k8 k9 k10 k11 k12
  have r20 := rb_cell HR10.out 20 (by omega)
  have r21 := rb_cell HR10.out 21 (by omega)
  have s20 := rb_frozen HR10.out 20
  have s21 := rb_frozen HR10.out 21
  have hn20 : (20 : Int) < 24 + (p11.length : Int) := by omega
  have hn21 : (21 : Int) < 24 + (p11.length : Int) := by omega
  have hn20' : 20 < 24 + p11.length := by omega
  have hn21' : 21 < 24 + p11.length := by omega
  refine start_ (n := 13) (S := fun w' => w'.cell? ⟨w.heap.size, 7, none⟩ = some (.int .i64 p7) ∧ w'.cell? ⟨w.heap.size, 11, none⟩ = some (.slice A1 p11.length c1)) (ds := []) #[false, false, false, false, false, false, false, false, false, false, false, false, false] (by kernel_rfl) rfl rfl ⟨(HCZ.out _ HQ10.out.drew).2.2.2.2.2.2.2.1, (HCZ.out _ HQ10.out.drew).2.2.2.2.2.2.2.2.2.2.2.1⟩ (fun hHeld => ?_)
  refine pure_ (i := 0) (N := some 153) (v := ?_) (a' := ?_) #[true, false, false, false, false, false, false, false, false, false, false, false, false] rfl rfl (by kernel_rfl) (fun _ _ _ h => h) (Or.inl ⟨by rfl, ?_⟩) ?_ ?_
  rotate_left
  · intro w'
    go_simp
    with_reducible rfl
  rotate_left
  · simp only [Act.put, List.setIfInBounds_toArray, List.set_cons_zero, List.set_cons_succ, i64_w, i32_w]
    rfl
  refine pure_ (i := 1) (N := some 154) (v := ?_) (a' := ?_) #[true, true, false, false, false, false, false, false, false, false, false, false, false] rfl rfl (by kernel_rfl) (fun _ _ _ h => h) (Or.inl ⟨by rfl, ?_⟩) ?_ ?_
  rotate_left
  · intro w'
    go_simp
    with_reducible rfl
  rotate_left
  · simp only [Act.put, List.setIfInBounds_toArray, List.set_cons_zero, List.set_cons_succ, i64_w, i32_w]
    rfl
  refine pure_ (i := 2) (N := some 155) (v := ?_) (a' := ?_) #[true, true, true, false, false, false, false, false, false, false, false, false, false] rfl rfl (by kernel_rfl) (fun _ _ _ h => h) (Or.inl ⟨by rfl, ?_⟩) ?_ ?_
  rotate_left
  · intro w'
    go_simp
    with_reducible rfl
  rotate_left
  · simp only [Act.put, List.setIfInBounds_toArray, List.set_cons_zero, List.set_cons_succ, i64_w, i32_w]
    rfl
  refine pure_ (i := 5) (N := some 158) (v := ?_) (a' := ?_) #[true, true, true, false, false, true, false, false, false, false, false, false, false] rfl rfl (by kernel_rfl) (fun _ _ _ h => h) (Or.inl ⟨by rfl, ?_⟩) ?_ ?_
  rotate_left
  · intro w'
    go_simp
    with_reducible rfl
  rotate_left
  · simp only [Act.put, List.setIfInBounds_toArray, List.set_cons_zero, List.set_cons_succ, i64_w, i32_w]
    rfl
  refine take_ (i := 3) (N := some 156) (v := ?_) (a' := ?_) #[true, true, true, true, false, true, false, false, false, false, false, false, false] rfl rfl (by kernel_rfl) (fun _ _ _ h => h) (Or.inl ⟨by rfl, ?_⟩) hHeld ?_ ?_
  rotate_left
  · rintro w' ⟨s0, s1⟩
    go_simp
    with_reducible rfl
  rotate_left
  · simp only [Act.put, List.setIfInBounds_toArray, List.set_cons_zero, List.set_cons_succ, i64_w, i32_w]
    rfl
  refine pure_ (i := 4) (N := some 157) (v := ?_) (a' := ?_) #[true, true, true, true, true, true, false, false, false, false, false, false, false] rfl rfl (by kernel_rfl) (fun _ _ _ h => h) (Or.inl ⟨by rfl, ?_⟩) ?_ ?_
  rotate_left
  · intro w'
    go_simp
    with_reducible rfl
  rotate_left
  · simp only [Act.put, List.setIfInBounds_toArray, List.set_cons_zero, List.set_cons_succ, i64_w, i32_w]
    rfl
  refine pure_ (i := 9) (N := some 162) (v := ?_) (a' := ?_) #[true, true, true, true, true, true, false, false, false, true, false, false, false] rfl rfl (by kernel_rfl) (fun _ _ _ h => h) (Or.inl ⟨by rfl, ?_⟩) ?_ ?_
  rotate_left
  · intro w'
    go_simp
    with_reducible rfl
  rotate_left
  · simp only [Act.put, List.setIfInBounds_toArray, List.set_cons_zero, List.set_cons_succ, i64_w, i32_w]
    rfl
  refine take_ (i := 6) (N := some 159) (v := ?_) (a' := ?_) #[true, true, true, true, true, true, true, false, false, true, false, false, false] rfl rfl (by kernel_rfl) (fun _ _ _ h => h) (Or.inl ⟨by rfl, ?_⟩) hHeld ?_ ?_
  rotate_left
  · rintro w' ⟨s0, s1⟩
    go_simp
    with_reducible rfl
  rotate_left
  · simp only [Act.put, List.setIfInBounds_toArray, List.set_cons_zero, List.set_cons_succ, i64_w, i32_w]
    rfl
  refine pure_ (i := 7) (N := some 160) (v := ?_) (a' := ?_) #[true, true, true, true, true, true, true, true, false, true, false, false, false] rfl rfl (by kernel_rfl) (fun _ _ _ h => h) (Or.inl ⟨by rfl, ?_⟩) ?_ ?_
  rotate_left
  · intro w'
    go_simp
    with_reducible rfl
  rotate_left
  · simp only [Act.put, List.setIfInBounds_toArray, List.set_cons_zero, List.set_cons_succ, i64_w, i32_w]
    rfl
  refine pure_ (i := 8) (N := some 161) (v := ?_) (a' := ?_) #[true, true, true, true, true, true, true, true, true, true, false, false, false] rfl rfl (by kernel_rfl) (fun _ _ _ h => h) (Or.inl ⟨by rfl, ?_⟩) ?_ ?_
  rotate_left
  · intro w'
    go_simp
    with_reducible rfl
  rotate_left
  · simp only [Act.put, List.setIfInBounds_toArray, List.set_cons_zero, List.set_cons_succ, i64_w, i32_w]
    rfl
  refine one_ (i := 10) (N := none) #[true, true, true, true, true, true, true, true, true, true, true, false, false] rfl rfl (by kernel_rfl) (by decide) (fun K hK => ?_)
  refine skip_ (w1 := ?_) (by rfl) rfl ?_ ?_
  rotate_left
  · go_simp
    rfl
  refine hK.out _ _ ⟨(HCZ.out _ (HQ10.out.drew.setCell (p := ⟨g10, 20, none⟩) HG10.out _)).2.2.2.2.2.2.2.1, (HCZ.out _ (HQ10.out.drew.setCell (p := ⟨g10, 20, none⟩) HG10.out _)).2.2.2.2.2.2.2.2.2.2.2.1⟩ (fun hHeld => ?_)
  clear hK K
  refine pure_ (i := 11) (N := some 163) (v := ?_) (a' := ?_) #[true, true, true, true, true, true, true, true, true, true, true, true, false] rfl rfl (by kernel_rfl) (fun _ _ _ h => h) (Or.inl ⟨by rfl, ?_⟩) ?_ ?_
  rotate_left
  · intro w'
    go_simp
    with_reducible rfl
  rotate_left
  · simp only [Act.put, List.setIfInBounds_toArray, List.set_cons_zero, List.set_cons_succ, i64_w, i32_w]
    rfl
  refine one_ (i := 12) (N := none) #[true, true, true, true, true, true, true, true, true, true, true, true, true] rfl rfl (by kernel_rfl) (by decide) (fun K hK => ?_)
  refine skip_ (w1 := ?_) (by rfl) rfl ?_ ?_
  rotate_left
  · go_simp
    rfl
  refine hK.out _ _ ⟨(HCZ.out _ ((HQ10.out.drew.setCell (p := ⟨g10, 20, none⟩) HG10.out _).setCell (p := ⟨g10, 21, none⟩) HG10.out _)).2.2.2.2.2.2.2.1, (HCZ.out _ ((HQ10.out.drew.setCell (p := ⟨g10, 20, none⟩) HG10.out _).setCell (p := ⟨g10, 21, none⟩) HG10.out _)).2.2.2.2.2.2.2.2.2.2.2.1⟩ (fun hHeld => ?_)
  clear hK K
  refine done_ (by kernel_rfl) ?_
  clear r20 r21 s20 s21 hHeld HCZ
  generalize hW : World.drew _ = w11
  have hr : RB w2.heap.size w11 (.slice (some ⟨g10, 0, none⟩) (24 + p11.length) cc10) ((L10.set 20 (IntKind.u8.wrap p7)).set 21 (IntKind.u8.wrap (p11.length : Int))) := by
    rw [← hW]
    exact Kd.R_drew (rb_set (rb_set HR10.out 20 (IntKind.u8.wrap p7)) 21 (IntKind.u8.wrap (p11.length : Int)))
  simp only [IntKind.wrap_u8] at hr
  obtain ⟨L11, el⟩ : ∃ L, (L10.set 20 (p7 % 256)).set 21 ((p11.length : Int) % 256) = L := ⟨_, rfl⟩
  rw [el] at hr
  have EL11 := Aside0.mk el
  clear el
  have HR11 := Aside0.mk hr
  have HQ11 := Aside0.mk (show Below w2.heap.size w2 w11 from by
    rw [← hW]
    exact ((HQ10.out.setCell (p := ⟨g10, 20, none⟩) HG10.out _).setCell (p := ⟨g10, 21, none⟩) HG10.out _).drew)
  have HL11 := Aside0.mk (show L11.length = 24 + p11.length from by rw [← EL11.out]; simp only [List.length_set]; exact HL10.out)
  have HY11 := Aside0.mk (show Bytes L11 from by rw [← EL11.out]; exact Bytes.set (Bytes.set HY10.out _ (by omega) (by omega)) _ (by omega) (by omega))
  clear hW hr
  have hz_ := (HQ11.out.block w.heap.size (blk_lt HZ2.out)).trans HZ2.out; obtain ⟨k0, k1, k2, k3, k4, k5, k6, k7, k8, k9, k10, k11, k12⟩ := c13 hz_; clear hz_
  go_upto_region 29 with fail
  have PR := Aside0.mk (rput_calls (w0 := w2) (w := w11) 16 2 (p5) (iz := 16) (mz := 2) HQ11.out HR11.out (by have := HL11.out; have := HN.out; omega) rfl rfl (by omega) (by have := HL11.out; have := HN.out; omega))
  go_upto_region 30 with (first | (go_at_call 41; (with_reducible refine PR.out.mono ?_); rintro e w12 ⟨rfl, hr, hq, hg⟩; obtain ⟨L12, el⟩ : ∃ L, putL L11 16 2 (p5) = L := ⟨_, rfl⟩; rw [el] at hr; have EL12 := Aside0.mk el; clear el; have HR12 := Aside0.mk hr; have HQ12 := Aside0.mk hq; have HL12 := Aside0.mk (show L12.length = 24 + p11.length from by rw [← EL12.out, putL_len]; exact HL11.out); have HY12 := Aside0.mk (show Bytes L12 from by rw [← EL12.out]; exact putL_bytes _ _ _ HY11.out); clear hr hq hg; clear k0 k1 k2 k3 k4 k5 k6 k7 k8 k9 k10 k11 k12; have hz_ := (HQ12.out.block w.heap.size (blk_lt HZ2.out)).trans HZ2.out; obtain ⟨k0, k1, k2, k3, k4, k5, k6, k7, k8, k9, k10, k11, k12⟩ := c13 hz_; clear hz_))
  clear PR
  have PR := Aside0.mk (rput_calls (w0 := w2) (w := w12) 18 2 (p6) (iz := 18) (mz := 2) HQ12.out HR12.out (by have := HL12.out; have := HN.out; omega) rfl rfl (by omega) (by have := HL12.out; have := HN.out; omega))
  go_upto_region 31 with (first | (go_at_call 41; (with_reducible refine PR.out.mono ?_); rintro e w13 ⟨rfl, hr, hq, hg⟩; obtain ⟨L13, el⟩ : ∃ L, putL L12 18 2 (p6) = L := ⟨_, rfl⟩; rw [el] at hr; have EL13 := Aside0.mk el; clear el; have HR13 := Aside0.mk hr; have HQ13 := Aside0.mk hq; have HL13 := Aside0.mk (show L13.length = 24 + p11.length from by rw [← EL13.out, putL_len]; exact HL12.out); have HY13 := Aside0.mk (show Bytes L13 from by rw [← EL13.out]; exact putL_bytes _ _ _ HY12.out); clear hr hq hg; clear k0 k1 k2 k3 k4 k5 k6 k7 k8 k9 k10 k11 k12; have hz_ := (HQ13.out.block w.heap.size (blk_lt HZ2.out)).trans HZ2.out; obtain ⟨k0, k1, k2, k3, k4, k5, k6, k7, k8, k9, k10, k11, k12⟩ := c13 hz_; clear hz_))
  clear PR
  go_upto_region 32 with (first | ((with_reducible refine gate_builtin (b := .append) (xs := #[.tmp 190, .tmp 192]) rfl ?_); at_builtin; refine Kd.R_append_rows (Kd.int .u8) (w0 := w2) w2.heap.size rfl (.tmp 190) (.tmp 192) 23 5 (.int .u8 0) 1 rfl Try.underlying23 info5 rfl (by decide) (by omega) (.slice (some ⟨g10, 0, none⟩) (24 + p11.length) cc10) L13 p12 A2 p12.length c2 (fun _ => True) (fun _ => False) rfl rfl HR13.out (Kd.C_below HD.out (below_step HB2.out HQ13.out)) (fun _ _ h => h) (fun _ h => h.elim) (fun _ _ => trivial) HQ13.out HQ13.out.size (by have := HL13.out; have := HN.out; have := HLIM.out; omega) ?_; intro v14 w14 ho hb hg hat; obtain ⟨L14, el⟩ : ∃ L, L13 ++ p12 = L := ⟨_, rfl⟩; rw [el] at ho; have EL14 := Aside0.mk el; have HL14 := Aside0.mk (show L14.length = n from by rw [← el]; simp only [List.length_append, List.length_replicate, List.length_cons, List.length_nil]; have := HL13.out; have := HN.out; omega); have HY14 := Aside0.mk (show Bytes L14 from by rw [← el]; exact HY13.out.app HYD.out); clear el; obtain ⟨g14, cc14, ev, hgb⟩ := rb_form ho (by rw [HL14.out]; have := HN.out; omega); rw [HL14.out] at ev; subst ev; have HG14 := Aside0.mk hgb; have HR14 := Aside0.mk ho; have HQ14 := Aside0.mk hb; clear ho hb hg hat hgb; clear k0 k1 k2 k3 k4 k5 k6 k7 k8 k9 k10 k11 k12; have hz_ := (HQ14.out.block w.heap.size (blk_lt HZ2.out)).trans HZ2.out; obtain ⟨k0, k1, k2, k3, k4, k5, k6, k7, k8, k9, k10, k11, k12⟩ := c13 hz_; clear hz_))
  have HC14 := Aside0.mk (Kd.R_reads' HR14.out)
  have SF := Aside0.mk (rsummed_calls (c := cc14) (n := n) (l := L14) (w := w14) (by have h := HC14.out.2.2; rw [← HC14.out.1] at h; exact h) HL14.out HC14.out.2.1 (by have := HL14.out; have := HN.out; omega) (by have := HL14.out; have := HN.out; omega))
  have HSO := Aside0.mk (summed_ok HY14.out (by have := HL14.out; have := HN.out; omega) (by have := HL14.out; have := HN.out; omega))
  go_upto_region 33 with (first
    | (go_at_call 42; (with_reducible refine SF.out.mono ?_); rintro e w15 ⟨v, rfl, ho, hb⟩; obtain ⟨Av, cv, ev⟩ := Kd.R_slice ho; subst ev; have HR15 := Aside0.mk (Kd.R_below HR14.out hb); have HQ15 := Aside0.mk (below_step HQ14.out hb); have HRD := Aside0.mk (Kd.R_reads' ho); have OF := Aside0.mk (rof_calls HRD.out.2.2 rfl HRD.out.2.1 HSO.out.2 (by have := HSO.out.1; omega)); clear ho hb; clear k0 k1 k2 k3 k4 k5 k6 k7 k8 k9 k10 k11 k12; have hz_ := (HQ15.out.block w.heap.size (blk_lt HZ2.out)).trans HZ2.out; obtain ⟨k0, k1, k2, k3, k4, k5, k6, k7, k8, k9, k10, k11, k12⟩ := c13 hz_; clear hz_)
    | (go_at_call 23; (with_reducible refine OF.out.mono ?_); rintro e w30 ⟨rfl, ⟨⟨nd2, rfl⟩⟩⟩))
  have HR15' := Aside0.mk (Kd.R_drewN HR15.out nd2)
  have HQ15' := Aside0.mk (bd HQ15.out nd2)
  generalize w15.drewN nd2 = w40 at HR15' HQ15' ⊢
  clear SF OF HRD HR15 HQ15 k0 k1 k2 k3 k4 k5 k6 k7 k8 k9 k10 k11 k12
  have hz_ := (HQ15'.out.block w.heap.size (blk_lt HZ2.out)).trans HZ2.out
  obtain ⟨k0, k1, k2, k3, k4, k5, k6, k7, k8, k9, k10, k11, k12⟩ := c13 hz_
  clear hz_
  have G43 := Aside0.mk (fun W => roundhouseref3_place.calls p0 22 W (by unfold roundhouseref3_place.f; have := HK.out; rw [if_neg (by omega)]))
  have PR := Aside0.mk (fun nd_ => rput_calls (w0 := w2) (w := w40.drewN nd_) 22 2 (65535 - fold (pairs (summedL L14))) (iz := 22) (mz := 2) (bd HQ15'.out nd_) (Kd.R_drewN HR15'.out nd_) (by have := HL14.out; have := HN.out; omega) rfl rfl (by omega) (by have := HL14.out; have := HN.out; have := HLIM.out; have := HK.out; omega))
  go_wp2_with (first
    | (go_at_call 43; (with_reducible refine (G43.out _).mono ?_); rintro e w41 ⟨rfl, ⟨⟨nd3, rfl⟩⟩⟩)
    | (go_at_call 41; (with_reducible refine (PR.out _).mono ?_); rintro e w42 ⟨rfl, hr, hq, hg⟩; have HRX := Aside0.mk hr; have HQX := Aside0.mk hq; clear hr hq hg))
  go_ret2
  refine ⟨_, rfl, ?_, below_step HB2.out HQX.out⟩
  have hb : L14 = rbodyL ⟨p0, p1, p2, p3, p4, p5, p6, p7, p8, p9, p10, p11, p12⟩ := by
    rw [← EL14.out, ← EL13.out, ← EL12.out, ← EL11.out, ← EL10.out, ← EL9.out, ← EL8.out, ← EL7.out, ← EL6.out, ← EL5.out, ← EL4.out]
    unfold rbodyL h4R h3R
    simp only [HNL.out, HNN.out, Int.reduceToNat]
    rw [if_neg (show ¬ p0 = 3 by have := HK.out; omega), if_neg (show ¬ p0 = 2 by have := HK.out; omega)]
  unfold rbuildL
  rw [← hb]
  simp only []
  rw [if_neg (show ¬ p0 = 3 by have := HK.out; omega)]
  rw [show sumL p0 p9 L14 = 65535 - fold (pairs (summedL L14)) from by unfold sumL; rw [if_neg (fun h => by have := HK.out; omega), if_neg (fun h => by have := HK.out; omega)]]
  exact Kd.R_lower HRX.out HB2.out.size
end Go.Proofs.Ytbjhmifhmojaoaa.WB

namespace Go.Proofs.Ytbjhmifhmojaoaa.WB
set_option linter.unusedVariables false
set_option linter.unusedSimpArgs false
open Go.RowKit Go.Proofs.Ytbjhmifhmojaoaa.Hp Go.Proofs.Ytbjhmifhmojaoaa.SB Go.Proofs.YtbjhmifhmojaoaaW.PrintWords Go.Proofs.YtbjhmifhmojaoaaW.PrintLast Go.Proofs.YtbjhmifhmojaoaaW.PrintMore

theorem putL_set (i : Nat) (a : Nat) (x : Int) : ∀ (m : Nat) (l : List Int) (v : Int), (a < i ∨ i + m ≤ a) → putL (l.set a x) i m v = (putL l i m v).set a x
  | 0, _, _, _ => rfl
  | m + 1, l, v, h => by
    rw [putL, putL, List.set_comm _ _ (show a ≠ i + m by omega)]
    exact putL_set i a x m _ _ (by omega)
theorem putL_comm (i j k : Nat) (u : Int) : ∀ (m : Nat) (l : List Int) (v : Int), (i + m ≤ j ∨ j + k ≤ i) → putL (putL l i m v) j k u = putL (putL l j k u) i m v
  | 0, _, _, _ => rfl
  | m + 1, l, v, h => by
    rw [putL, putL, putL_comm i j k u m _ _ (by omega), putL_set j _ _ k _ _ (by omega)]
theorem body_eq {p : Pk} (hk : 1 ≤ p.kind ∧ p.kind ≤ 3) : rbodyL p = bodyL p := by
  obtain ⟨p0, p1, p2, p3, p4, p5, p6, p7, p8, p9, p10, p11, p12⟩ := p
  dsimp only at hk
  unfold rbodyL bodyL
  dsimp only
  have hkk : p0 = 1 ∨ p0 = 2 ∨ p0 = 3 := by omega
  rcases hkk with rfl | rfl | rfl
  · have hn : nL ⟨1, p1, p2, p3, p4, p5, p6, p7, p8, p9, p10, p11, p12⟩ = 24 + p12.length + p11.length := rfl
    rw [hn, h4L_app _ (by omega), if_neg (by decide), if_neg (by decide), if_neg (by decide), if_neg (by decide)]
    have hH := h4R_len (24 + p12.length + p11.length) 1 p1 p2 p3 p4
    generalize h4R (24 + p12.length + p11.length) 1 p1 p2 p3 p4 = H at hH ⊢
    obtain ⟨X, hX⟩ : ∃ X, H ++ List.replicate 8 (0 : Int) = X := ⟨_, rfl⟩
    have hXl : X.length = 24 := by rw [← hX]; simp [hH]
    have e1 : H ++ List.replicate (24 + p12.length + p11.length - 16) (0 : Int) = X ++ (List.replicate p11.length 0 ++ List.replicate p12.length 0) := by
      rw [← hX, List.append_assoc, List.replicate_append_replicate, List.replicate_append_replicate]; congr 2; omega
    rw [e1, hX, show 24 + p12.length + p11.length - p12.length = 24 + p11.length by omega]
    obtain ⟨Y, hY⟩ : ∃ Y, ((putL (putL X 16 2 p5) 18 2 p6).set 20 (p7 % 256)).set 21 ((p11.length : Int) % 256) = Y := ⟨_, rfl⟩
    have hYl : Y.length = 24 := by rw [← hY, List.length_set, List.length_set, putL_len, putL_len, hXl]
    have r : putL (putL (((X ++ p11).set 20 (p7 % 256)).set 21 ((p11.length : Int) % 256)) 16 2 p5) 18 2 p6 = Y ++ p11 := by
      rw [List.set_append_left _ _ (by omega), List.set_append_left _ _ (by rw [List.length_set]; omega), putL_app _ _ _ _ _ (by rw [List.length_set, List.length_set]; omega), putL_app _ _ _ _ _ (by rw [putL_len, List.length_set, List.length_set]; omega),
        putL_set _ _ _ _ _ _ (by omega), putL_set _ _ _ _ _ _ (by omega), putL_set _ _ _ _ _ _ (by omega), putL_set _ _ _ _ _ _ (by omega), hY]
    have q : ((putL (putL (X ++ (List.replicate p11.length 0 ++ List.replicate p12.length 0)) 16 2 p5) 18 2 p6).set 20 (p7 % 256)).set 21 ((p11.length : Int) % 256) = Y ++ (List.replicate p11.length 0 ++ List.replicate p12.length 0) := by
      rw [putL_app _ _ _ _ _ (by omega), putL_app _ _ _ _ _ (by rw [putL_len]; omega), List.set_append_left _ _ (by rw [putL_len, putL_len]; omega), List.set_append_left _ _ (by rw [List.length_set, putL_len, putL_len]; omega), hY]
    rw [r, q]
    have s1 : splice (Y ++ (List.replicate p11.length 0 ++ List.replicate p12.length 0)) 24 p11 = (Y ++ p11) ++ List.replicate p12.length 0 := by
      unfold splice
      rw [List.take_left' hYl, show 24 + p11.length = Y.length + p11.length by omega, ← List.drop_drop, List.drop_left, List.drop_left' (by simp), List.append_assoc]
    rw [s1, splice_end (by rw [List.length_append]; omega) (by simp)]
  · have hn : nL ⟨2, p1, p2, p3, p4, p5, p6, p7, p8, p9, p10, p11, p12⟩ = 24 + p12.length := rfl
    rw [hn, h4L_app _ (by omega), if_neg (by decide), if_pos rfl, if_neg (by decide), if_pos rfl]
    have hH := h4R_len (24 + p12.length) 2 p1 p2 p3 p4
    generalize h4R (24 + p12.length) 2 p1 p2 p3 p4 = H at hH ⊢
    obtain ⟨X, hX⟩ : ∃ X, H ++ List.replicate 8 (0 : Int) = X := ⟨_, rfl⟩
    have hXl : X.length = 24 := by rw [← hX]; simp [hH]
    have e1 : H ++ List.replicate (24 + p12.length - 16) (0 : Int) = X ++ List.replicate p12.length 0 := by
      rw [← hX, List.append_assoc, List.replicate_append_replicate]; congr 2; omega
    rw [e1, hX, show 24 + p12.length - p12.length = 24 by omega, putL_app _ _ _ _ _ (by omega), putL_app _ _ _ _ _ (by rw [putL_len]; omega), putL_app _ _ _ _ _ (by rw [putL_len, putL_len]; omega), splice_end (by rw [putL_len, putL_len, putL_len]; exact hXl) (by simp)]
    rw [putL_comm 20 16 2 _ _ _ _ (by omega), putL_comm 20 18 2 _ _ _ _ (by omega)]
  · have hn : nL ⟨3, p1, p2, p3, p4, p5, p6, p7, p8, p9, p10, p11, p12⟩ = 20 + p12.length := rfl
    rw [hn, h4L_app _ (by omega), if_pos rfl, if_pos rfl]
    have hH := h4R_len (20 + p12.length) 3 p1 p2 p3 p4
    generalize h4R (20 + p12.length) 3 p1 p2 p3 p4 = H at hH ⊢
    have e1 : (H ++ List.replicate (20 + p12.length - 16) (0 : Int)).set 16 (p10 % 256) = (H ++ [p10 % 256, 0, 0, 0]) ++ List.replicate p12.length 0 := by
      rw [List.set_append_right _ _ (by omega), hH, show 20 + p12.length - 16 = 4 + p12.length by omega, ← List.replicate_append_replicate]
      simp [List.replicate]
    rw [e1, show 20 + p12.length - p12.length = 20 by omega, splice_end (by simp [hH]) (by simp)]
theorem rbuildL_eq {p : Pk} (hk : 1 ≤ p.kind ∧ p.kind ≤ 3) : rbuildL p = buildL p := by
  unfold rbuildL buildL
  rw [body_eq hk]
theorem rbuild_calls {p : Pk} {A1 A2 : Option Addr} {c1 c2 : Nat} {w : World} (ha : Kd.C (Kd.int .u8) w A1 p.opts.length p.opts) (hca : p.opts.length ≤ c1) (hd : Kd.C (Kd.int .u8) w A2 p.data.length p.data) (hcd : p.data.length ≤ c2) (hba : Bytes p.opts) (hbd : Bytes p.data) (he : buildE p = 0) :
    Calls Try.prog 18 #[pkV p (.slice A1 p.opts.length c1) (.slice A2 p.data.length c2)] w (Built w p) := by
  have hk : 1 ≤ p.kind ∧ p.kind ≤ 3 := by
    by_cases hk : 1 ≤ p.kind ∧ p.kind ≤ 3
    · exact hk
    · unfold buildE at he; rw [if_pos hk] at he; cases he
  have heq := rbuildL_eq hk
  obtain ⟨p0, p1, p2, p3, p4, p5, p6, p7, p8, p9, p10, p11, p12⟩ := p
  dsimp only at ha hca hd hcd hba hbd hk
  have hkk : p0 = 1 ∨ p0 = 2 ∨ p0 = 3 := by omega
  rcases hkk with h | h | h
  · exact (rbuild_stream ha hca hd hcd hba hbd h he).mono fun _ _ h => built_ok he (by rw [heq] at h; exact h)
  · exact (rbuild_gram ha hca hd hcd hba hbd h he).mono fun _ _ h => built_ok he (by rw [heq] at h; exact h)
  · exact (rbuild_fault ha hca hd hcd hba hbd h he).mono fun _ _ h => built_ok he (by rw [heq] at h; exact h)
end Go.Proofs.Ytbjhmifhmojaoaa.WB

namespace Go.Proofs.Ytbjhmifhmojaoaa.WB
set_option linter.unusedVariables false
set_option linter.unusedSimpArgs false
open Go.RowKit Go.Proofs.Ytbjhmifhmojaoaa.Hp Go.Proofs.Ytbjhmifhmojaoaa.SB Go.Proofs.YtbjhmifhmojaoaaW.PrintWords Go.Proofs.YtbjhmifhmojaoaaW.PrintLast Go.Proofs.YtbjhmifhmojaoaaW.PrintMore

theorem results_tct {fn : Func} {q p u : Tmp} {ty : TypeId} (h : fn.results = #[.tmp q, .cell p ty, .tmp u]) (tmps : Array Value) (P : Program) (w : World) :
    (results fn tmps).run P w =
      ((asAddr (tmps.getD p undef)).run P w).andThen fun a w₁ => ((loadVar ty a).run P w₁).andThen fun v w₂ => .ok (.tuple #[tmps.getD q undef, v, tmps.getD u undef]) w₂ := by
  simp only [results, h]
  simp [Sem.run_bind, Result.andThen]
/-- A turner in block t: what was, what is (row g), bare or not. -/
structure Tur (w0 w : World) (t g : Nat) (A : Option Addr) (c cc : Nat) (was L : List Int) (bare : Bool) : Prop where
  blk : w.heap[t]? = some (.cells #[.slice A was.length c, .slice (some ⟨g, 0, none⟩) was.length cc, .bool bare] 72 (0, 0))
  row : RB w0.heap.size w (.slice (some ⟨g, 0, none⟩) was.length cc) L
  rd : Kd.C (Kd.int .u8) w0 A was.length was
  le : was.length ≤ c
  len : L.length = was.length
  ne : t ≠ g
  ht : w0.heap.size ≤ t
  hg : w0.heap.size ≤ g
  below : Below w0.heap.size w0 w
set_option maxHeartbeats 2000000 in
set_option maxRecDepth 100000 in
theorem begin_err {A : Option Addr} {c : Nat} {l : List Int} {w : World} (hr : Kd.C (Kd.int .u8) w A l.length l) (hc : l.length ≤ c) (hl : l.length ≤ 100000) (hb : Bytes l) {p0 p1 p2 p3 p4 p5 p6 p7 p8 : Int} {p9 : Bool} {p10 : Int} {p11 p12 : List Int} {x : Int} (hp : parseL l = (⟨p0, p1, p2, p3, p4, p5, p6, p7, p8, p9, p10, p11, p12⟩, x)) (hx : x ≠ 0) :
    Calls Try.prog 49 #[.slice A l.length c] w fun e w' => (∃ (A1 : Option Addr) (c1 : Nat) (A2 : Option Addr) (c2 : Nat), e = .returned (.tuple #[.pointer none, .agg #[.int .i64 p0, .int .i64 p1, .int .i64 p2, .int .i64 p3, .int .i64 p4, .int .i64 p5, .int .i64 p6, .int .i64 p7, .int .i64 p8, .bool p9, .int .i64 p10, .slice A1 p11.length c1, .slice A2 p12.length c2], .int .i64 x])) ∧ Below w.heap.size w w' := by
  have q0 : (x == 0) = false := beq_eq_false_iff_ne.mpr hx
  have q0n : (x != 0) = true := bne_iff_ne.mpr hx
  have HR := Aside0.mk hr
  have HC := Aside0.mk hc
  have HL := Aside0.mk hl
  have HY := Aside0.mk hb
  have HP := Aside0.mk hp
  have HG := Aside0.mk (fun o => parse_calls (Kd.C_alloc hr o) rfl hc hl hb)
  have HBA := Aside0.mk ((Below.refl w.heap.size w).alloc (Nat.le_refl _) (.cells zero13 26))
  have HNB := Aside0.mk (new_blk w (.cells zero13 26))
  clear hr hc hl hb hp
  go_enter Try.func49, Try.ntmps49
  go_upto_region 3 with (first
    | (go_at_call 19; (with_reducible refine (HG.out _).mono ?_); intro e w1 hq; obtain ⟨A1, c1, A2, c2, rfl, h1, h2, h3, hb1⟩ := got_of HP.out hq; have HB1 := Aside0.mk (below_step HBA.out hb1); have HYB := Aside0.mk ((hb1.block w.heap.size (blk_lt HNB.out)).trans HNB.out); clear hq h1 h2 h3 hb1))
  change Code.wp _ _ _ _ (w1.alloc (.cells #[.int .i64 p0, .int .i64 p1, .int .i64 p2, .int .i64 p3, .int .i64 p4, .int .i64 p5, .int .i64 p6, .int .i64 p7, .int .i64 p8, .bool p9, .int .i64 p10, .slice A1 p11.length c1, .slice A2 p12.length c2] 26))
  obtain ⟨g5, HG5⟩ : ∃ g, w1.heap.size = g := ⟨_, rfl⟩
  have HLT := Aside0.mk (show w.heap.size < g5 from by rw [← HG5]; exact blk_lt HYB.out)
  have HZ5 : Aside0 ((w1.alloc (.cells #[.int .i64 p0, .int .i64 p1, .int .i64 p2, .int .i64 p3, .int .i64 p4, .int .i64 p5, .int .i64 p6, .int .i64 p7, .int .i64 p8, .bool p9, .int .i64 p10, .slice A1 p11.length c1, .slice A2 p12.length c2] 26)).heap[g5]? = some (.cells #[.int .i64 p0, .int .i64 p1, .int .i64 p2, .int .i64 p3, .int .i64 p4, .int .i64 p5, .int .i64 p6, .int .i64 p7, .int .i64 p8, .bool p9, .int .i64 p10, .slice A1 p11.length c1, .slice A2 p12.length c2] 26 (0, 0))) := Aside0.mk (by rw [← HG5]; exact new_blk w1 _)
  have HY5 := Aside0.mk ((Below.heap_alloc w1 (.cells #[.int .i64 p0, .int .i64 p1, .int .i64 p2, .int .i64 p3, .int .i64 p4, .int .i64 p5, .int .i64 p6, .int .i64 p7, .int .i64 p8, .bool p9, .int .i64 p10, .slice A1 p11.length c1, .slice A2 p12.length c2] 26) w.heap.size (blk_lt HYB.out)).trans HYB.out)
  have HB5 := Aside0.mk (HB1.out.alloc HB1.out.size (.cells #[.int .i64 p0, .int .i64 p1, .int .i64 p2, .int .i64 p3, .int .i64 p4, .int .i64 p5, .int .i64 p6, .int .i64 p7, .int .i64 p8, .bool p9, .int .i64 p10, .slice A1 p11.length c1, .slice A2 p12.length c2] 26))
  generalize w1.alloc (.cells #[.int .i64 p0, .int .i64 p1, .int .i64 p2, .int .i64 p3, .int .i64 p4, .int .i64 p5, .int .i64 p6, .int .i64 p7, .int .i64 p8, .bool p9, .int .i64 p10, .slice A1 p11.length c1, .slice A2 p12.length c2] 26) = w5 at HZ5 HY5 HB5 ⊢
  clear HB1 HYB HBA HNB HG
  have HCZ := Aside0.mk (fun W (h : Below (g5 + 1) w5 W) => c13 ((h.block g5 (Nat.lt_succ_self _)).trans HZ5.out))
  refine start_ (n := 5) (S := fun w' => w'.cell? ⟨g5, 0, none⟩ = some (.int .i64 p0) ∧ w'.cell? ⟨g5, 1, none⟩ = some (.int .i64 p1) ∧ w'.cell? ⟨g5, 2, none⟩ = some (.int .i64 p2) ∧ w'.cell? ⟨g5, 3, none⟩ = some (.int .i64 p3) ∧ w'.cell? ⟨g5, 4, none⟩ = some (.int .i64 p4) ∧ w'.cell? ⟨g5, 5, none⟩ = some (.int .i64 p5) ∧ w'.cell? ⟨g5, 6, none⟩ = some (.int .i64 p6) ∧ w'.cell? ⟨g5, 7, none⟩ = some (.int .i64 p7) ∧ w'.cell? ⟨g5, 8, none⟩ = some (.int .i64 p8) ∧ w'.cell? ⟨g5, 9, none⟩ = some (.bool p9) ∧ w'.cell? ⟨g5, 10, none⟩ = some (.int .i64 p10) ∧ w'.cell? ⟨g5, 11, none⟩ = some (.slice A1 p11.length c1) ∧ w'.cell? ⟨g5, 12, none⟩ = some (.slice A2 p12.length c2)) (ds := [3]) #[false, false, false, false, false] (by kernel_rfl) rfl rfl ⟨(HCZ.out _ (Below.refl (g5 + 1) w5).drew).1, (HCZ.out _ (Below.refl (g5 + 1) w5).drew).2.1, (HCZ.out _ (Below.refl (g5 + 1) w5).drew).2.2.1, (HCZ.out _ (Below.refl (g5 + 1) w5).drew).2.2.2.1, (HCZ.out _ (Below.refl (g5 + 1) w5).drew).2.2.2.2.1, (HCZ.out _ (Below.refl (g5 + 1) w5).drew).2.2.2.2.2.1, (HCZ.out _ (Below.refl (g5 + 1) w5).drew).2.2.2.2.2.2.1, (HCZ.out _ (Below.refl (g5 + 1) w5).drew).2.2.2.2.2.2.2.1, (HCZ.out _ (Below.refl (g5 + 1) w5).drew).2.2.2.2.2.2.2.2.1, (HCZ.out _ (Below.refl (g5 + 1) w5).drew).2.2.2.2.2.2.2.2.2.1, (HCZ.out _ (Below.refl (g5 + 1) w5).drew).2.2.2.2.2.2.2.2.2.2.1, (HCZ.out _ (Below.refl (g5 + 1) w5).drew).2.2.2.2.2.2.2.2.2.2.2.1, (HCZ.out _ (Below.refl (g5 + 1) w5).drew).2.2.2.2.2.2.2.2.2.2.2.2⟩ (fun hHeld => ?_)
  refine pure_ (i := 1) (N := some 15) (v := ?_) (a' := ?_) #[false, true, false, false, false] rfl rfl (by kernel_rfl) (fun _ _ _ h => h) (Or.inl ⟨by rfl, ?_⟩) ?_ ?_
  rotate_left
  · intro w'
    go_simp
    with_reducible rfl
  rotate_left
  · simp only [Act.put, List.setIfInBounds_toArray, List.set_cons_zero, List.set_cons_succ, i64_w, i32_w]
    rfl
  refine pure_ (i := 2) (N := some 2) (v := ?_) (a' := ?_) #[false, true, true, false, false] rfl rfl (by kernel_rfl) (fun _ _ _ h => h) (Or.inl ⟨by rfl, ?_⟩) ?_ ?_
  rotate_left
  · intro w'
    go_simp
    with_reducible rfl
  rotate_left
  · simp only [Act.put, List.setIfInBounds_toArray, List.set_cons_zero, List.set_cons_succ, i64_w, i32_w]
    rfl
  refine take_ (i := 0) (N := some 14) (v := ?_) (a' := ?_) #[true, true, true, false, false] rfl rfl (by kernel_rfl) (fun _ _ _ h => h) (Or.inl ⟨by rfl, ?_⟩) hHeld ?_ ?_
  rotate_left
  · rintro w' ⟨s0, s1, s2, s3, s4, s5, s6, s7, s8, s9, s10, s11, s12⟩
    go_simp
    with_reducible rfl
  rotate_left
  · simp only [Act.put, List.setIfInBounds_toArray, List.set_cons_zero, List.set_cons_succ, i64_w, i32_w]
    rfl
  refine last_ (i := 3) (N := none) #[true, true, true, true, false] rfl rfl (by kernel_rfl) (by decide) (fun K hK => ?_)
  obtain ⟨y0, y1, y2, y3, y4, y5, y6, y7, y8, y9, y10, y11, y12⟩ := c13 HY5.out
  obtain ⟨u0, u1, u2, u3, u4, u5, u6, u7, u8, u9, u10, u11, u12⟩ := f13 HY5.out
  refine skip_ (w1 := ?_) (by rfl) rfl ?_ ?_
  rotate_left
  · go_simp
    rfl
  refine hK.out _ _ ?_
  clear hK K
  refine pure_ (i := 4) (N := some 4) (v := ?_) (a' := ?_) #[true, true, true, true, true] rfl rfl (by kernel_rfl) (fun _ _ _ h => h) (Or.inl ⟨by rfl, ?_⟩) ?_ ?_
  rotate_left
  · intro w'
    go_simp
    with_reducible rfl
  rotate_left
  · simp only [Act.put, List.setIfInBounds_toArray, List.set_cons_zero, List.set_cons_succ, i64_w, i32_w]
    rfl
  refine done_ (by kernel_rfl) ?_
  go_wp2
  (try simp only [Exit.inBlock, Exit.then])
  refine bodyPost_ret (v := .tuple #[.pointer none, .agg #[.int .i64 p0, .int .i64 p1, .int .i64 p2, .int .i64 p3, .int .i64 p4, .int .i64 p5, .int .i64 p6, .int .i64 p7, .int .i64 p8, .bool p9, .int .i64 p10, .slice A1 p11.length c1, .slice A2 p12.length c2], .int .i64 x]) ?_ rfl ⟨⟨A1, c1, A2, c2, rfl⟩, ?_⟩
  · rw [results_tct rfl]
    go_simp
  · exact (lay13_below HB5.out (Nat.le_refl _) _ _ _ _ _ _ _ _ _ _ _ _ _).drew
set_option maxHeartbeats 2000000 in
set_option maxRecDepth 100000 in
theorem begin_ok {A : Option Addr} {c : Nat} {l : List Int} {w : World} (hr : Kd.C (Kd.int .u8) w A l.length l) (hc : l.length ≤ c) (hl : l.length ≤ 100000) (hb : Bytes l) {p0 p1 p2 p3 p4 p5 p6 p7 p8 : Int} {p9 : Bool} {p10 : Int} {p11 p12 : List Int} (hp : parseL l = (⟨p0, p1, p2, p3, p4, p5, p6, p7, p8, p9, p10, p11, p12⟩, 0)) :
    Calls Try.prog 49 #[.slice A l.length c] w fun e w' => ∃ (t g cc : Nat) (A1 : Option Addr) (c1 : Nat) (A2 : Option Addr) (c2 : Nat), e = .returned (.tuple #[.pointer (some ⟨t, 0, none⟩), .agg #[.int .i64 p0, .int .i64 p1, .int .i64 p2, .int .i64 p3, .int .i64 p4, .int .i64 p5, .int .i64 p6, .int .i64 p7, .int .i64 p8, .bool p9, .int .i64 p10, .slice A1 p11.length c1, .slice A2 p12.length c2], .int .i64 0]) ∧ Tur w w' t g A c cc l l p9 := by
  have H0 := Aside0.mk (show 0 < l.length from by have := (head0 (parse0 hp)).1; omega)
  have HR := Aside0.mk hr
  have HC := Aside0.mk hc
  have HL := Aside0.mk hl
  have HY := Aside0.mk hb
  have HP := Aside0.mk hp
  have HG := Aside0.mk (fun o => parse_calls (Kd.C_alloc hr o) rfl hc hl hb)
  have HBA := Aside0.mk ((Below.refl w.heap.size w).alloc (Nat.le_refl _) (.cells zero13 26))
  have HNB := Aside0.mk (new_blk w (.cells zero13 26))
  clear hr hc hl hb hp
  go_enter Try.func49, Try.ntmps49
  go_upto_region 4 with (first
    | (go_at_call 19; (with_reducible refine (HG.out _).mono ?_); intro e w1 hq; obtain ⟨A1, c1, A2, c2, rfl, h1, h2, h3, hb1⟩ := got_of HP.out hq; have HB1 := Aside0.mk (below_step HBA.out hb1); have HYB := Aside0.mk ((hb1.block w.heap.size (blk_lt HNB.out)).trans HNB.out); clear hq h1 h2 h3 hb1))
  change Code.wp _ _ _ _ (w1.alloc (.cells #[.int .i64 p0, .int .i64 p1, .int .i64 p2, .int .i64 p3, .int .i64 p4, .int .i64 p5, .int .i64 p6, .int .i64 p7, .int .i64 p8, .bool p9, .int .i64 p10, .slice A1 p11.length c1, .slice A2 p12.length c2] 26))
  obtain ⟨g5, HG5⟩ : ∃ g, w1.heap.size = g := ⟨_, rfl⟩
  have HLT := Aside0.mk (show w.heap.size < g5 from by rw [← HG5]; exact blk_lt HYB.out)
  have HZ5 : Aside0 ((w1.alloc (.cells #[.int .i64 p0, .int .i64 p1, .int .i64 p2, .int .i64 p3, .int .i64 p4, .int .i64 p5, .int .i64 p6, .int .i64 p7, .int .i64 p8, .bool p9, .int .i64 p10, .slice A1 p11.length c1, .slice A2 p12.length c2] 26)).heap[g5]? = some (.cells #[.int .i64 p0, .int .i64 p1, .int .i64 p2, .int .i64 p3, .int .i64 p4, .int .i64 p5, .int .i64 p6, .int .i64 p7, .int .i64 p8, .bool p9, .int .i64 p10, .slice A1 p11.length c1, .slice A2 p12.length c2] 26 (0, 0))) := Aside0.mk (by rw [← HG5]; exact new_blk w1 _)
  have HY5 := Aside0.mk ((Below.heap_alloc w1 (.cells #[.int .i64 p0, .int .i64 p1, .int .i64 p2, .int .i64 p3, .int .i64 p4, .int .i64 p5, .int .i64 p6, .int .i64 p7, .int .i64 p8, .bool p9, .int .i64 p10, .slice A1 p11.length c1, .slice A2 p12.length c2] 26) w.heap.size (blk_lt HYB.out)).trans HYB.out)
  have HB5 := Aside0.mk (HB1.out.alloc HB1.out.size (.cells #[.int .i64 p0, .int .i64 p1, .int .i64 p2, .int .i64 p3, .int .i64 p4, .int .i64 p5, .int .i64 p6, .int .i64 p7, .int .i64 p8, .bool p9, .int .i64 p10, .slice A1 p11.length c1, .slice A2 p12.length c2] 26))
  generalize w1.alloc (.cells #[.int .i64 p0, .int .i64 p1, .int .i64 p2, .int .i64 p3, .int .i64 p4, .int .i64 p5, .int .i64 p6, .int .i64 p7, .int .i64 p8, .bool p9, .int .i64 p10, .slice A1 p11.length c1, .slice A2 p12.length c2] 26) = w5 at HZ5 HY5 HB5 ⊢
  clear HB1 HYB HBA HNB HG
  have HCZ := Aside0.mk (fun W (h : Below (g5 + 1) w5 W) => c13 ((h.block g5 (Nat.lt_succ_self _)).trans HZ5.out))
  refine start_ (n := 11) (S := fun w' => w'.cell? ⟨g5, 0, none⟩ = some (.int .i64 p0) ∧ w'.cell? ⟨g5, 1, none⟩ = some (.int .i64 p1) ∧ w'.cell? ⟨g5, 2, none⟩ = some (.int .i64 p2) ∧ w'.cell? ⟨g5, 3, none⟩ = some (.int .i64 p3) ∧ w'.cell? ⟨g5, 4, none⟩ = some (.int .i64 p4) ∧ w'.cell? ⟨g5, 5, none⟩ = some (.int .i64 p5) ∧ w'.cell? ⟨g5, 6, none⟩ = some (.int .i64 p6) ∧ w'.cell? ⟨g5, 7, none⟩ = some (.int .i64 p7) ∧ w'.cell? ⟨g5, 8, none⟩ = some (.int .i64 p8) ∧ w'.cell? ⟨g5, 9, none⟩ = some (.bool p9) ∧ w'.cell? ⟨g5, 10, none⟩ = some (.int .i64 p10) ∧ w'.cell? ⟨g5, 11, none⟩ = some (.slice A1 p11.length c1) ∧ w'.cell? ⟨g5, 12, none⟩ = some (.slice A2 p12.length c2)) (ds := [9]) #[false, false, false, false, false, false, false, false, false, false, false] (by kernel_rfl) rfl rfl ⟨(HCZ.out _ (Below.refl (g5 + 1) w5).drew).1, (HCZ.out _ (Below.refl (g5 + 1) w5).drew).2.1, (HCZ.out _ (Below.refl (g5 + 1) w5).drew).2.2.1, (HCZ.out _ (Below.refl (g5 + 1) w5).drew).2.2.2.1, (HCZ.out _ (Below.refl (g5 + 1) w5).drew).2.2.2.2.1, (HCZ.out _ (Below.refl (g5 + 1) w5).drew).2.2.2.2.2.1, (HCZ.out _ (Below.refl (g5 + 1) w5).drew).2.2.2.2.2.2.1, (HCZ.out _ (Below.refl (g5 + 1) w5).drew).2.2.2.2.2.2.2.1, (HCZ.out _ (Below.refl (g5 + 1) w5).drew).2.2.2.2.2.2.2.2.1, (HCZ.out _ (Below.refl (g5 + 1) w5).drew).2.2.2.2.2.2.2.2.2.1, (HCZ.out _ (Below.refl (g5 + 1) w5).drew).2.2.2.2.2.2.2.2.2.2.1, (HCZ.out _ (Below.refl (g5 + 1) w5).drew).2.2.2.2.2.2.2.2.2.2.2.1, (HCZ.out _ (Below.refl (g5 + 1) w5).drew).2.2.2.2.2.2.2.2.2.2.2.2⟩ (fun hHeld => ?_)
  refine pure_ (i := 0) (N := some 16) (v := ?_) (a' := ?_) #[true, false, false, false, false, false, false, false, false, false, false] rfl rfl (by kernel_rfl) (fun _ _ _ h => h) (Or.inl ⟨by rfl, ?_⟩) ?_ ?_
  rotate_left
  · intro w'
    go_simp
    with_reducible rfl
  rotate_left
  · simp only [Act.put, List.setIfInBounds_toArray, List.set_cons_zero, List.set_cons_succ, i64_w, i32_w]
    rfl
  refine pure_ (i := 1) (N := some 17) (v := ?_) (a' := ?_) #[true, true, false, false, false, false, false, false, false, false, false] rfl rfl (by kernel_rfl) (fun _ _ _ h => h) (Or.inl ⟨by rfl, ?_⟩) ?_ ?_
  rotate_left
  · intro w'
    go_simp
    with_reducible rfl
  rotate_left
  · simp only [Act.put, List.setIfInBounds_toArray, List.set_cons_zero, List.set_cons_succ, i64_w, i32_w]
    rfl
  refine pure_ (i := 3) (N := some 19) (v := ?_) (a' := ?_) #[true, true, false, true, false, false, false, false, false, false, false] rfl rfl (by kernel_rfl) (fun _ _ _ h => h) (Or.inl ⟨by rfl, ?_⟩) ?_ ?_
  rotate_left
  · intro w'
    go_simp
    with_reducible rfl
  rotate_left
  · simp only [Act.put, List.setIfInBounds_toArray, List.set_cons_zero, List.set_cons_succ, i64_w, i32_w]
    rfl
  refine take_ (i := 4) (N := some 20) (v := ?_) (a' := ?_) #[true, true, false, true, true, false, false, false, false, false, false] rfl rfl (by kernel_rfl) (fun _ _ _ h => h) (Or.inl ⟨by rfl, ?_⟩) hHeld ?_ ?_
  rotate_left
  · rintro w' ⟨s0, s1, s2, s3, s4, s5, s6, s7, s8, s9, s10, s11, s12⟩
    go_simp
    with_reducible rfl
  rotate_left
  · simp only [Act.put, List.setIfInBounds_toArray, List.set_cons_zero, List.set_cons_succ, i64_w, i32_w]
    rfl
  refine take_ (i := 7) (N := some 23) (v := ?_) (a' := ?_) #[true, true, false, true, true, false, false, true, false, false, false] rfl rfl (by kernel_rfl) (fun _ _ _ h => h) (Or.inl ⟨by rfl, ?_⟩) hHeld ?_ ?_
  rotate_left
  · rintro w' ⟨s0, s1, s2, s3, s4, s5, s6, s7, s8, s9, s10, s11, s12⟩
    go_simp
    with_reducible rfl
  rotate_left
  · simp only [Act.put, List.setIfInBounds_toArray, List.set_cons_zero, List.set_cons_succ, i64_w, i32_w]
    rfl
  refine one_ (i := 2) (N := some 18) #[true, true, true, true, true, false, false, true, false, false, false] rfl rfl (by kernel_rfl) (by decide) (fun K hK => ?_)
  refine goes_ Try.func46 (by kernel_rfl) rfl #[.slice A l.length c] (by rfl) rfl rfl (by simp only [List.map_toArray, List.map_cons, List.map_nil]; rfl) ?_
  with_reducible refine (clone_calls (Kd.C_drew (Kd.C_below HR.out HB5.out)) rfl HC.out HL.out).mono ?_
  rintro e w6 ⟨v, rfl, ho, hb6⟩
  obtain ⟨g, cc, ev, hgb⟩ := rb_form ho H0.out
  subst ev
  refine ⟨_, rfl, ?_⟩
  have HX := Aside0.mk (((Below.refl (g5 + 1) w5).drew).trans (hb6.mono (blk_lt HZ5.out)))
  have HRW := Aside0.mk ho
  have HGB := Aside0.mk hgb
  clear ho hb6 hgb
  refine hK.out _ _ ⟨(HCZ.out _ HX.out).1, (HCZ.out _ HX.out).2.1, (HCZ.out _ HX.out).2.2.1, (HCZ.out _ HX.out).2.2.2.1, (HCZ.out _ HX.out).2.2.2.2.1, (HCZ.out _ HX.out).2.2.2.2.2.1, (HCZ.out _ HX.out).2.2.2.2.2.2.1, (HCZ.out _ HX.out).2.2.2.2.2.2.2.1, (HCZ.out _ HX.out).2.2.2.2.2.2.2.2.1, (HCZ.out _ HX.out).2.2.2.2.2.2.2.2.2.1, (HCZ.out _ HX.out).2.2.2.2.2.2.2.2.2.2.1, (HCZ.out _ HX.out).2.2.2.2.2.2.2.2.2.2.2.1, (HCZ.out _ HX.out).2.2.2.2.2.2.2.2.2.2.2.2⟩ (fun hHeld => ?_)
  clear hK K
  refine norm_ (a' := ?_) ?_ ?_
  rotate_left
  · show Act.put _ (some 18) _ = _
    simp only [Act.put, List.setIfInBounds_toArray, List.set_cons_zero, List.set_cons_succ, i64_w, i32_w]
    rfl
  refine pure_ (i := 5) (N := some 21) (v := ?_) (a' := ?_) #[true, true, true, true, true, true, false, true, false, false, false] rfl rfl (by kernel_rfl) (fun _ _ _ h => h) (Or.inl ⟨by rfl, ?_⟩) ?_ ?_
  rotate_left
  · intro w'
    go_simp
    with_reducible rfl
  rotate_left
  · simp only [Act.put, List.setIfInBounds_toArray, List.set_cons_zero, List.set_cons_succ, i64_w, i32_w]
    rfl
  refine one_ (i := 6) (N := some 22) #[true, true, true, true, true, true, true, true, false, false, false] rfl rfl (by kernel_rfl) (by decide) (fun K hK => ?_)
  refine value_ (w1 := ?_) (v := ?_) (by rfl) rfl ?_ ?_
  rotate_left 2
  · go_simp
    constructor
    · rfl
    · rfl
  refine hK.out _ _ ⟨(HCZ.out _ (HX.out.alloc (Nat.le_trans (blk_lt HZ5.out) HX.out.size) _)).1, (HCZ.out _ (HX.out.alloc (Nat.le_trans (blk_lt HZ5.out) HX.out.size) _)).2.1, (HCZ.out _ (HX.out.alloc (Nat.le_trans (blk_lt HZ5.out) HX.out.size) _)).2.2.1, (HCZ.out _ (HX.out.alloc (Nat.le_trans (blk_lt HZ5.out) HX.out.size) _)).2.2.2.1, (HCZ.out _ (HX.out.alloc (Nat.le_trans (blk_lt HZ5.out) HX.out.size) _)).2.2.2.2.1, (HCZ.out _ (HX.out.alloc (Nat.le_trans (blk_lt HZ5.out) HX.out.size) _)).2.2.2.2.2.1, (HCZ.out _ (HX.out.alloc (Nat.le_trans (blk_lt HZ5.out) HX.out.size) _)).2.2.2.2.2.2.1, (HCZ.out _ (HX.out.alloc (Nat.le_trans (blk_lt HZ5.out) HX.out.size) _)).2.2.2.2.2.2.2.1, (HCZ.out _ (HX.out.alloc (Nat.le_trans (blk_lt HZ5.out) HX.out.size) _)).2.2.2.2.2.2.2.2.1, (HCZ.out _ (HX.out.alloc (Nat.le_trans (blk_lt HZ5.out) HX.out.size) _)).2.2.2.2.2.2.2.2.2.1, (HCZ.out _ (HX.out.alloc (Nat.le_trans (blk_lt HZ5.out) HX.out.size) _)).2.2.2.2.2.2.2.2.2.2.1, (HCZ.out _ (HX.out.alloc (Nat.le_trans (blk_lt HZ5.out) HX.out.size) _)).2.2.2.2.2.2.2.2.2.2.2.1, (HCZ.out _ (HX.out.alloc (Nat.le_trans (blk_lt HZ5.out) HX.out.size) _)).2.2.2.2.2.2.2.2.2.2.2.2⟩ (fun hHeld => ?_)
  clear hK K
  refine norm_ (a' := ?_) ?_ ?_
  rotate_left
  · show Act.put _ (some 22) _ = _
    simp only [Act.put, List.setIfInBounds_toArray, List.set_cons_zero, List.set_cons_succ, i64_w, i32_w]
    rfl
  refine pure_ (i := 8) (N := some 2) (v := ?_) (a' := ?_) #[true, true, true, true, true, true, true, true, true, false, false] rfl rfl (by kernel_rfl) (fun _ _ _ h => h) (Or.inl ⟨by rfl, ?_⟩) ?_ ?_
  rotate_left
  · intro w'
    go_simp
    with_reducible rfl
  rotate_left
  · simp only [Act.put, List.setIfInBounds_toArray, List.set_cons_zero, List.set_cons_succ, i64_w, i32_w]
    rfl
  refine last_ (i := 9) (N := none) #[true, true, true, true, true, true, true, true, true, true, false] rfl rfl (by kernel_rfl) (by decide) (fun K hK => ?_)
  have hy_ := ((HX.out.alloc (Nat.le_trans (blk_lt HZ5.out) HX.out.size) (.cells #[.slice A l.length c, .slice (some ⟨g, 0, none⟩) l.length cc, .bool p9] 72)).block w.heap.size (Nat.lt_succ_of_lt HLT.out)).trans HY5.out
  obtain ⟨y0, y1, y2, y3, y4, y5, y6, y7, y8, y9, y10, y11, y12⟩ := c13 hy_
  obtain ⟨u0, u1, u2, u3, u4, u5, u6, u7, u8, u9, u10, u11, u12⟩ := f13 hy_
  clear hy_
  refine skip_ (w1 := ?_) (by rfl) rfl ?_ ?_
  rotate_left
  · go_simp
    rfl
  refine hK.out _ _ ?_
  clear hK K
  refine pure_ (i := 10) (N := some 4) (v := ?_) (a' := ?_) #[true, true, true, true, true, true, true, true, true, true, true] rfl rfl (by kernel_rfl) (fun _ _ _ h => h) (Or.inl ⟨by rfl, ?_⟩) ?_ ?_
  rotate_left
  · intro w'
    go_simp
    with_reducible rfl
  rotate_left
  · simp only [Act.put, List.setIfInBounds_toArray, List.set_cons_zero, List.set_cons_succ, i64_w, i32_w]
    rfl
  refine done_ (by kernel_rfl) ?_
  go_wp2
  (try simp only [Exit.inBlock, Exit.then])
  have hlt6 := Kd.R_lt HRW.out g (by simp [Value.ownBlock])
  have hgb := HGB.out
  have hs5 : w5.drew.heap.size = w5.heap.size := rfl
  have h1 := HLT.out
  have h2 := blk_lt HZ5.out
  have h3 := HX.out.size
  have HB6 := HB5.out.trans (HX.out.mono (show w.heap.size ≤ g5 + 1 by omega))
  have HB7 := HB6.alloc (by omega) (.cells #[.slice A l.length c, .slice (some ⟨g, 0, none⟩) l.length cc, .bool p9] 72)
  refine bodyPost_ret (v := .tuple #[.pointer (some ⟨w6.heap.size, 0, none⟩), .agg #[.int .i64 p0, .int .i64 p1, .int .i64 p2, .int .i64 p3, .int .i64 p4, .int .i64 p5, .int .i64 p6, .int .i64 p7, .int .i64 p8, .bool p9, .int .i64 p10, .slice A1 p11.length c1, .slice A2 p12.length c2], .int .i64 0]) ?_ rfl ⟨w6.heap.size, g, cc, A1, c1, A2, c2, rfl, ?_⟩
  · rw [results_tct rfl]
    go_simp
  · refine ⟨(lay13_far (by omega) _ _ _ _ _ _ _ _ _ _ _ _ _).trans (new_blk w6 _), RB_move HRW.out (by omega) (fun k hk hlt => (lay13_far (by omega) _ _ _ _ _ _ _ _ _ _ _ _ _).trans (Below.heap_alloc w6 _ k hlt)), HR.out, HC.out, rfl, by omega, by omega, by omega, lay13_below HB7 (Nat.le_refl _) _ _ _ _ _ _ _ _ _ _ _ _ _⟩
end Go.Proofs.Ytbjhmifhmojaoaa.WB

namespace Go.Proofs.Ytbjhmifhmojaoaa.WB
set_option linter.unusedVariables false
set_option linter.unusedSimpArgs false
open Go.RowKit Go.Proofs.Ytbjhmifhmojaoaa.Hp Go.Proofs.Ytbjhmifhmojaoaa.SB Go.Proofs.YtbjhmifhmojaoaaW.PrintWords Go.Proofs.YtbjhmifhmojaoaaW.PrintLast Go.Proofs.YtbjhmifhmojaoaaW.PrintMore

/-- A pair of bytes, a 0 behind an odd one at the end. -/
def pairL (l : List Int) (i : Nat) : Int := if i + 1 = l.length then l.getD i 0 * 256 else numL l i 2
theorem num2_b {l : List Int} (hb : Bytes l) (i : Nat) : 0 ≤ numL l i 2 ∧ numL l i 2 ≤ 65535 := by
  have := numL_b hb i 2
  omega
theorem pairL_b {l : List Int} (hb : Bytes l) (i : Nat) : 0 ≤ pairL l i ∧ pairL l i ≤ 65535 := by
  unfold pairL
  split
  · have := getD_byte hb i; omega
  · exact num2_b hb i
theorem pair_f {l : List Int} {k : Nat} (hb : Bytes l) (i : Nat) (hi : i < l.length) (hl : l.length ≤ 100000) (hk : 5 ≤ k) : wire_pair.f k l i = some (pairL l i) := by
  unfold wire_pair.f pairL
  have b := getD_byte hb i
  rw [wid (n := (i : Int) + 1) (by omega) (by omega)]
  by_cases h : i + 1 = l.length
  · rw [if_pos (by omega), if_pos (by omega), if_pos (by omega), if_pos h, rd_nat, wid (n := l.getD i 0) (by omega) (by omega), wid (by omega) (by omega)]
  · rw [if_neg (by omega), if_neg h, show (2 : Int) = ((2 : Nat) : Int) from rfl, get_f hb i 2 (by omega) (by omega) hl hk, Option.bind_some]
theorem pair_calls {A : Option Addr} {c n : Nat} {l : List Int} {w : World} (i : Nat) {iz : Int} (hr : Kd.C (Kd.int .u8) w A n l) (hn : l.length = n) (hc : n ≤ c) (hb : Bytes l) (hl : l.length ≤ 100000) (h1 : iz = i) (hi : i < l.length) :
    Calls Try.prog 61 #[.slice A n c, .int .i64 iz] w fun e w' => e = .returned (.int .i64 (pairL l i)) ∧ Drawn0 w w' := by
  subst hn h1
  exact wire_pair.calls 5 A c l i _ w hr hc (pair_f hb i hi hl (Nat.le_refl _))
theorem turn_calls {s a b : Int} (hs : 0 ≤ s) (hs' : s ≤ 65535) (ha : 0 ≤ a) (ha' : a ≤ 65535) (hb : 0 ≤ b) (hb' : b ≤ 65535) (w : World) :
    Calls Try.prog 60 #[.int .i64 s, .int .i64 a, .int .i64 b] w fun e w' => e = .returned (.int .i64 (turn s a b)) ∧ Drawn0 w w' :=
  sum_Turn.calls s a b _ w (turn_f hs hs' ha ha' hb hb')
/-- A sum turned by the pairs from i on, k of them. -/
def turnS (was L : List Int) : Nat → Nat → Int → Int
  | 0, _, s => s
  | k + 1, i, s => turnS was L k (i + 2) (turn s (pairL was i) (pairL L i))
theorem turnS_b {was L : List Int} (h1 : Bytes was) (h2 : Bytes L) : ∀ (k i : Nat) (s : Int), 0 ≤ s → s ≤ 65535 → 0 ≤ turnS was L k i s ∧ turnS was L k i s ≤ 65535
  | 0, _, _, a, b => ⟨a, b⟩
  | k + 1, i, s, a, b => by
    have p1 := pairL_b h1 i
    have p2 := pairL_b h2 i
    have t := turn_bounds a b p1.1 p1.2 p2.1 p2.2
    exact turnS_b h1 h2 k (i + 2) _ t.1 t.2
/-- (i + n) / 2 - i / 2 pairs, rounded up: how many an even walk from i (rounded down) below i + n takes. -/
def pairsN (i n : Nat) : Nat := (i + n + 1) / 2 - i / 2
end Go.Proofs.Ytbjhmifhmojaoaa.WB

namespace Go.Proofs.Ytbjhmifhmojaoaa.WB
set_option linter.unusedVariables false
set_option linter.unusedSimpArgs false
open Go.RowKit Go.Proofs.Ytbjhmifhmojaoaa.Hp Go.Proofs.Ytbjhmifhmojaoaa.SB Go.Proofs.YtbjhmifhmojaoaaW.PrintWords Go.Proofs.YtbjhmifhmojaoaaW.PrintLast Go.Proofs.YtbjhmifhmojaoaaW.PrintMore

theorem c3 {w : World} {g t : Nat} {a0 a1 a2 : Value} (h : w.heap[g]? = some (.cells #[a0, a1, a2] t (0, 0))) : w.cell? ⟨g, 0, none⟩ = some a0 ∧ w.cell? ⟨g, 1, none⟩ = some a1 ∧ w.cell? ⟨g, 2, none⟩ = some a2 := by
  simp [World.cell?, h]
set_option maxHeartbeats 2000000 in
set_option maxRecDepth 100000 in
theorem tturn_calls {w0 w : World} {t g : Nat} {A : Option Addr} {c cc : Nat} {was L : List Int} {bare : Bool} (h : Tur w0 w t g A c cc was L bare) (hbw : Bytes was) (hbl : Bytes L) (hl : was.length ≤ 10000) (place at_ n : Nat) {pz az nz : Int} (e1 : pz = place) (e2 : az = at_) (e3 : nz = n)
    (hp : place + 2 ≤ was.length) (ha : at_ + n ≤ was.length) (hand : Go.bits .andNot .i64 az 1 = ((at_ / 2 * 2 : Nat) : Int)) :
    Calls Try.prog 57 #[.pointer (some ⟨t, 0, none⟩), .int .i64 pz, .int .i64 az, .int .i64 nz] w fun e w' => e = .returned (.tuple #[]) ∧ Tur w0 w' t g A c cc was (putL L place 2 (turnS was L (pairsN at_ n) (at_ / 2 * 2) (numL L place 2))) bare := by
  have HT := Aside0.mk h
  obtain ⟨T0, T1, T2⟩ := c3 h.blk
  have HBW := Aside0.mk hbw
  have HBL := Aside0.mk hbl
  have HL := Aside0.mk (show was.length ≤ 100000 by omega)
  have HLL := Aside0.mk (show L.length ≤ 100000 by rw [h.len]; omega)
  have HRR := Aside0.mk (Kd.R_reads' h.row)
  have HRD := Aside0.mk (Kd.C_below h.rd h.below)
  have HRL : Aside0 (Kd.C (Kd.int .u8) w (some ⟨g, 0, none⟩) was.length L) := Aside0.mk (by have := HRR.out.2.2; rw [← HRR.out.1] at this; exact this)
  have HCC := Aside0.mk HRR.out.2.1
  have G0 := Aside0.mk (get_calls (l := L) (w := w) place 2 (iz := pz) (mz := 2) HRL.out h.len HCC.out hbl HLL.out e1 rfl (by omega) (by rw [h.len]; omega))
  have E1 := Aside0.mk e1
  have E2 := Aside0.mk e2
  have E3 := Aside0.mk e3
  have HPA := Aside0.mk (And.intro hp ha)
  have HL4 := Aside0.mk hl
  have hwe : wrap64 (az + nz) = az + nz := wid (by omega) (by omega)
  clear e1 e2 e3 hp ha hbw hbl hl h
  obtain ⟨R, hR⟩ : ∃ R, turnS was L (pairsN at_ n) (at_ / 2 * 2) (numL L place 2) = R := ⟨_, rfl⟩
  rw [hR]
  have HRE := Aside0.mk hR
  clear hR
  go_enter Try.func57, Try.ntmps57
  go_wp2_with (first | (go_at_call 45; (with_reducible refine G0.out.mono ?_); rintro e w1 ⟨rfl, ⟨⟨nd, rfl⟩⟩⟩))
  clear hand
  have HNB := Aside0.mk (num2_b HBL.out place)
  go_loopg [8, 9] (pairsN at_ n) (fun kq v8 v9 w' => ∃ (i : Nat) (s : Int), v8 = .int .i64 s ∧ v9 = .int .i64 (i : Int) ∧ Aside (kq = (at_ + n + 1) / 2 - i / 2) ∧ Aside (i % 2 = 0) ∧ Aside (0 ≤ s ∧ s ≤ 65535) ∧ Aside (turnS was L kq i s = R) ∧ Drawn0 w w')
  case atStart =>
    exact ⟨at_ / 2 * 2, _, rfl, by simp, (by show _ = _; unfold pairsN; omega), (by show _ = _; omega), HNB.out, HRE.out, ⟨⟨nd, rfl⟩⟩⟩
  case round =>
    obtain ⟨i, s, rfl, rfl, hk, hev, hsb, hr, ⟨⟨nd', rfl⟩⟩⟩ := hrel
    have HKQ := Aside0.mk hk.out
    have HEV := Aside0.mk hev.out
    have HSB := Aside0.mk hsb.out
    have HRR2 := Aside0.mk hr.out
    clear hk hev hsb hr
    by_cases hlt : (i : Int) < az + nz
    · have hd : decide ((i : Int) < az + nz) = true := decide_eq_true hlt
      have HI := Aside0.mk (show i < was.length from by have := HPA.out; have := E2.out; have := E3.out; omega)
      have HLT2 := Aside0.mk hlt
      clear hlt
      go_upto_region 4 with fail
      refine start_ (n := 15) (S := fun w' => w'.cell? ⟨t, 0, none⟩ = some (.slice A was.length c) ∧ w'.cell? ⟨t, 1, none⟩ = some (.slice (some ⟨g, 0, none⟩) was.length cc) ∧ w'.cell? ⟨t, 2, none⟩ = some (.bool bare)) (ds := []) #[false, false, false, false, false, false, false, false, false, false, false, false, false, false, false] (by kernel_rfl) rfl rfl ⟨T0, T1, T2⟩ (fun hHeld => ?_)
      refine pure_ (i := 0) (N := some 25) (v := ?_) (a' := ?_) #[true, false, false, false, false, false, false, false, false, false, false, false, false, false, false] rfl rfl (by kernel_rfl) (fun _ _ _ h => h) (Or.inl ⟨by rfl, ?_⟩) ?_ ?_
      rotate_left
      · intro w'
        go_simp
        with_reducible rfl
      rotate_left
      · simp only [Act.put, List.setIfInBounds_toArray, List.set_cons_zero, List.set_cons_succ, i64_w, i32_w]
        rfl
      refine pure_ (i := 1) (N := some 26) (v := ?_) (a' := ?_) #[true, true, false, false, false, false, false, false, false, false, false, false, false, false, false] rfl rfl (by kernel_rfl) (fun _ _ _ h => h) (Or.inl ⟨by rfl, ?_⟩) ?_ ?_
      rotate_left
      · intro w'
        go_simp
        with_reducible rfl
      rotate_left
      · simp only [Act.put, List.setIfInBounds_toArray, List.set_cons_zero, List.set_cons_succ, i64_w, i32_w]
        rfl
      refine pure_ (i := 2) (N := some 27) (v := ?_) (a' := ?_) #[true, true, true, false, false, false, false, false, false, false, false, false, false, false, false] rfl rfl (by kernel_rfl) (fun _ _ _ h => h) (Or.inl ⟨by rfl, ?_⟩) ?_ ?_
      rotate_left
      · intro w'
        go_simp
        with_reducible rfl
      rotate_left
      · simp only [Act.put, List.setIfInBounds_toArray, List.set_cons_zero, List.set_cons_succ, i64_w, i32_w]
        rfl
      refine pure_ (i := 3) (N := some 28) (v := ?_) (a' := ?_) #[true, true, true, true, false, false, false, false, false, false, false, false, false, false, false] rfl rfl (by kernel_rfl) (fun _ _ _ h => h) (Or.inl ⟨by rfl, ?_⟩) ?_ ?_
      rotate_left
      · intro w'
        go_simp
        with_reducible rfl
      rotate_left
      · simp only [Act.put, List.setIfInBounds_toArray, List.set_cons_zero, List.set_cons_succ, i64_w, i32_w]
        rfl
      refine pure_ (i := 5) (N := some 30) (v := ?_) (a' := ?_) #[true, true, true, true, false, true, false, false, false, false, false, false, false, false, false] rfl rfl (by kernel_rfl) (fun _ _ _ h => h) (Or.inl ⟨by rfl, ?_⟩) ?_ ?_
      rotate_left
      · intro w'
        go_simp
        with_reducible rfl
      rotate_left
      · simp only [Act.put, List.setIfInBounds_toArray, List.set_cons_zero, List.set_cons_succ, i64_w, i32_w]
        rfl
      refine pure_ (i := 7) (N := some 32) (v := ?_) (a' := ?_) #[true, true, true, true, false, true, false, true, false, false, false, false, false, false, false] rfl rfl (by kernel_rfl) (fun _ _ _ h => h) (Or.inl ⟨by rfl, ?_⟩) ?_ ?_
      rotate_left
      · intro w'
        go_simp
        with_reducible rfl
      rotate_left
      · simp only [Act.put, List.setIfInBounds_toArray, List.set_cons_zero, List.set_cons_succ, i64_w, i32_w]
        rfl
      refine pure_ (i := 8) (N := some 33) (v := ?_) (a' := ?_) #[true, true, true, true, false, true, false, true, true, false, false, false, false, false, false] rfl rfl (by kernel_rfl) (fun _ _ _ h => h) (Or.inl ⟨by rfl, ?_⟩) ?_ ?_
      rotate_left
      · intro w'
        go_simp
        with_reducible rfl
      rotate_left
      · simp only [Act.put, List.setIfInBounds_toArray, List.set_cons_zero, List.set_cons_succ, i64_w, i32_w]
        rfl
      refine pure_ (i := 9) (N := some 34) (v := ?_) (a' := ?_) #[true, true, true, true, false, true, false, true, true, true, false, false, false, false, false] rfl rfl (by kernel_rfl) (fun _ _ _ h => h) (Or.inl ⟨by rfl, ?_⟩) ?_ ?_
      rotate_left
      · intro w'
        go_simp
        with_reducible rfl
      rotate_left
      · simp only [Act.put, List.setIfInBounds_toArray, List.set_cons_zero, List.set_cons_succ, i64_w, i32_w]
        rfl
      refine pure_ (i := 11) (N := some 36) (v := ?_) (a' := ?_) #[true, true, true, true, false, true, false, true, true, true, false, true, false, false, false] rfl rfl (by kernel_rfl) (fun _ _ _ h => h) (Or.inl ⟨by rfl, ?_⟩) ?_ ?_
      rotate_left
      · intro w'
        go_simp
        with_reducible rfl
      rotate_left
      · simp only [Act.put, List.setIfInBounds_toArray, List.set_cons_zero, List.set_cons_succ, i64_w, i32_w]
        rfl
      refine take_ (i := 4) (N := some 29) (v := ?_) (a' := ?_) #[true, true, true, true, true, true, false, true, true, true, false, true, false, false, false] rfl rfl (by kernel_rfl) (fun _ _ _ h => h) (Or.inl ⟨by rfl, ?_⟩) hHeld ?_ ?_
      rotate_left
      · rintro w' ⟨s0, s1, s2⟩
        go_simp
        with_reducible rfl
      rotate_left
      · simp only [Act.put, List.setIfInBounds_toArray, List.set_cons_zero, List.set_cons_succ, i64_w, i32_w]
        rfl
      refine take_ (i := 10) (N := some 35) (v := ?_) (a' := ?_) #[true, true, true, true, true, true, false, true, true, true, true, true, false, false, false] rfl rfl (by kernel_rfl) (fun _ _ _ h => h) (Or.inl ⟨by rfl, ?_⟩) hHeld ?_ ?_
      rotate_left
      · rintro w' ⟨s0, s1, s2⟩
        go_simp
        with_reducible rfl
      rotate_left
      · simp only [Act.put, List.setIfInBounds_toArray, List.set_cons_zero, List.set_cons_succ, i64_w, i32_w]
        rfl
      refine one_ (i := 6) (N := some 31) #[true, true, true, true, true, true, true, true, true, true, true, true, false, false, false] rfl rfl (by kernel_rfl) (by decide) (fun K hK => ?_)
      refine goes_ Try.func61 (by kernel_rfl) rfl #[.slice A was.length c, .int .i64 (i : Int)] (by rfl) rfl rfl (by simp only [List.map_toArray, List.map_cons, List.map_nil]; rfl) ?_
      with_reducible refine (pair_calls (l := was) i (by repeat (first | with_reducible exact HRD.out | (with_reducible refine Kd.C_drewN ?_ _) | (with_reducible refine Kd.C_drew ?_))) rfl HT.out.le HBW.out HL.out rfl HI.out).mono ?_
      rintro e w3 ⟨rfl, ⟨⟨nq, rfl⟩⟩⟩
      refine ⟨_, rfl, ?_⟩
      refine hK.out _ _ ⟨T0, T1, T2⟩ (fun hHeld => ?_)
      clear hK K
      refine norm_ (a' := ?_) ?_ ?_
      rotate_left
      · show Act.put _ (some 31) _ = _
        simp only [Act.put, List.setIfInBounds_toArray, List.set_cons_zero, List.set_cons_succ, i64_w, i32_w]
        rfl
      refine one_ (i := 12) (N := some 37) #[true, true, true, true, true, true, true, true, true, true, true, true, true, false, false] rfl rfl (by kernel_rfl) (by decide) (fun K hK => ?_)
      refine goes_ Try.func61 (by kernel_rfl) rfl #[.slice (some ⟨g, 0, none⟩) was.length cc, .int .i64 (i : Int)] (by rfl) rfl rfl (by simp only [List.map_toArray, List.map_cons, List.map_nil]; rfl) ?_
      with_reducible refine (pair_calls (l := L) i (by repeat (first | with_reducible exact HRL.out | (with_reducible refine Kd.C_drewN ?_ _) | (with_reducible refine Kd.C_drew ?_))) HT.out.len HCC.out HBL.out HLL.out rfl (by rw [HT.out.len]; exact HI.out)).mono ?_
      rintro e w3 ⟨rfl, ⟨⟨nq, rfl⟩⟩⟩
      refine ⟨_, rfl, ?_⟩
      refine hK.out _ _ ⟨T0, T1, T2⟩ (fun hHeld => ?_)
      clear hK K
      refine norm_ (a' := ?_) ?_ ?_
      rotate_left
      · show Act.put _ (some 37) _ = _
        simp only [Act.put, List.setIfInBounds_toArray, List.set_cons_zero, List.set_cons_succ, i64_w, i32_w]
        rfl
      refine one_ (i := 13) (N := some 38) #[true, true, true, true, true, true, true, true, true, true, true, true, true, true, false] rfl rfl (by kernel_rfl) (by decide) (fun K hK => ?_)
      refine goes_ Try.func60 (by kernel_rfl) rfl #[.int .i64 s, .int .i64 (pairL was i), .int .i64 (pairL L i)] (by rfl) rfl rfl (by simp only [List.map_toArray, List.map_cons, List.map_nil]; rfl) ?_
      with_reducible refine (turn_calls HSB.out.1 HSB.out.2 (pairL_b HBW.out i).1 (pairL_b HBW.out i).2 (pairL_b HBL.out i).1 (pairL_b HBL.out i).2 _).mono ?_
      rintro e w3 ⟨rfl, ⟨⟨nq, rfl⟩⟩⟩
      refine ⟨_, rfl, ?_⟩
      refine hK.out _ _ ⟨T0, T1, T2⟩ (fun hHeld => ?_)
      clear hK K
      refine norm_ (a' := ?_) ?_ ?_
      rotate_left
      · show Act.put _ (some 38) _ = _
        simp only [Act.put, List.setIfInBounds_toArray, List.set_cons_zero, List.set_cons_succ, i64_w, i32_w]
        rfl
      refine pure_ (i := 14) (N := some 8) (v := ?_) (a' := ?_) #[true, true, true, true, true, true, true, true, true, true, true, true, true, true, true] rfl rfl (by kernel_rfl) (fun _ _ _ h => h) (Or.inl ⟨by rfl, ?_⟩) ?_ ?_
      rotate_left
      · intro w'
        go_simp
        with_reducible rfl
      rotate_left
      · simp only [Act.put, List.setIfInBounds_toArray, List.set_cons_zero, List.set_cons_succ, i64_w, i32_w]
        rfl
      refine done_ (by kernel_rfl) ?_
      have HT2 := Aside0.mk (turn_bounds HSB.out.1 HSB.out.2 (pairL_b HBW.out i).1 (pairL_b HBW.out i).2 (pairL_b HBL.out i).1 (pairL_b HBL.out i).2)
      have hi2 : wrap64 ((i : Int) + 2) = ((i + 2 : Nat) : Int) := by have := HI.out; have := HL.out; rw [wid (by omega) (by omega)]; omega
      have HGK := Aside0.mk (show 0 < gk from by have := HKQ.out; have := HEV.out; have := HLT2.out; have := E2.out; have := E3.out; omega)
      have HRN := Aside0.mk (show turnS was L (gk - 1) (i + 2) (turn s (pairL was i) (pairL L i)) = R from by
        have h1 := HRR2.out
        obtain ⟨m, hm⟩ : ∃ m, gk = m + 1 := ⟨gk - 1, by have := HGK.out; omega⟩
        rw [hm] at h1 ⊢
        exact h1)
      clear hHeld
      go_wp2
      go_roundg (gk - 1)
      case measure => have := HGK.out; omega
      case rel => exact ⟨i + 2, _, rfl, (by first | rfl | (show Value.int _ _ = Value.int _ _; rw [hi2])), (by show _ = _; have := HKQ.out; have := HEV.out; omega), (by show _ = _; have := HEV.out; omega), HT2.out, HRN.out, by repeat (first | exact Drawn0.refl _ | apply Drawn0.step)⟩
    · have hd : decide ((i : Int) < az + nz) = false := decide_eq_false hlt
      have hk0 : gk = 0 := by have := HKQ.out; have := HEV.out; have := E2.out; have := E3.out; omega
      have HS := Aside0.mk (show s = R from by have h1 := HRR2.out; rw [hk0] at h1; exact h1)
      clear hlt
      have PR := Aside0.mk (fun nd_ => put_calls (w0 := w0) (w := (w.drewN nd').drewN nd_) (v := .slice (some ⟨g, 0, none⟩) was.length cc) place 2 s (iz := pz) (mz := 2) (bd (bd HT.out.below nd') nd_) (Kd.R_drewN (Kd.R_drewN HT.out.row nd') nd_) HLL.out E1.out rfl (by omega) (by rw [HT.out.len]; exact HPA.out.1))
      have PR0 := Aside0.mk (put_calls (w0 := w0) (w := w.drewN nd') (v := .slice (some ⟨g, 0, none⟩) was.length cc) place 2 s (iz := pz) (mz := 2) (bd HT.out.below nd') (Kd.R_drewN HT.out.row nd') HLL.out E1.out rfl (by omega) (by rw [HT.out.len]; exact HPA.out.1))
      go_wp2_with (first | (go_at_call 36; (with_reducible refine PR0.out.mono ?_); rintro e w9 ⟨rfl, hr9, hb9, hg9⟩))
      have hfin : Tur w0 w9 t g A c cc was (putL L place 2 R) bare := by
        have hb := HT.out.blk
        have hl0 : t < w.heap.size := blk_lt hb
        have hg' : ∀ k, k < w.heap.size → k ≠ g → w9.heap[k]? = w.heap[k]? := fun k hk hne => hg9.block k hk (by simp [Value.ownBlock]; exact hne)
        refine ⟨(hg' t hl0 HT.out.ne).trans hb, by rw [← HS.out]; exact hr9, HT.out.rd, HT.out.le, by rw [putL_len]; exact HT.out.len, HT.out.ne, HT.out.ht, HT.out.hg, hb9⟩
      go_end0
      exact ⟨rfl, hfin⟩
end Go.Proofs.Ytbjhmifhmojaoaa.WB

namespace Go.Proofs.Ytbjhmifhmojaoaa.WB
set_option linter.unusedVariables false
set_option linter.unusedSimpArgs false
open Go.RowKit Go.Proofs.Ytbjhmifhmojaoaa.Hp Go.Proofs.Ytbjhmifhmojaoaa.SB Go.Proofs.YtbjhmifhmojaoaaW.PrintWords Go.Proofs.YtbjhmifhmojaoaaW.PrintLast Go.Proofs.YtbjhmifhmojaoaaW.PrintMore

theorem Tur.drewN {w0 w : World} {t g : Nat} {A : Option Addr} {c cc : Nat} {was L : List Int} {bare : Bool} (h : Tur w0 w t g A c cc was L bare) (n : Nat) : Tur w0 (w.drewN n) t g A c cc was L bare :=
  ⟨h.blk, Kd.R_drewN h.row n, h.rd, h.le, h.len, h.ne, h.ht, h.hg, bd h.below n⟩
/-- Where a body's sum is. -/
def placeL (l : List Int) : Nat := if l.getD 0 0 = 3 then 18 else 22
/-- A sum at a place, turned by the pairs that some bytes touch. -/
def turnL (was L : List Int) (place at_ n : Nat) : List Int := putL L place 2 (turnS was L (pairsN at_ n) (at_ / 2 * 2) (numL L place 2))
theorem turnL_bytes {was L : List Int} (h : Bytes L) (p a n : Nat) : Bytes (turnL was L p a n) := putL_bytes _ _ _ h
/-- What body lays. -/
def bodyT (bare : Bool) (was L : List Int) (at_ n : Nat) : List Int := if bare = true then L else turnL was L (placeL L) at_ n
set_option maxHeartbeats 1000000 in
set_option maxRecDepth 100000 in
theorem tbody_calls {w0 w : World} {t g : Nat} {A : Option Addr} {c cc : Nat} {was L : List Int} {bare : Bool} (h : Tur w0 w t g A c cc was L bare) (hbw : Bytes was) (hbl : Bytes L) (hl : was.length ≤ 10000) (at_ n : Nat) {az nz : Int} (e2 : az = at_) (e3 : nz = n)
    (hp : placeL L + 2 ≤ was.length) (ha : at_ + n ≤ was.length) (hand : Go.bits .andNot .i64 az 1 = ((at_ / 2 * 2 : Nat) : Int)) :
    Calls Try.prog 50 #[.pointer (some ⟨t, 0, none⟩), .int .i64 az, .int .i64 nz] w fun e w' => e = .returned (.tuple #[]) ∧ Tur w0 w' t g A c cc was (bodyT bare was L at_ n) bare := by
  obtain ⟨T0, T1, T2⟩ := c3 h.blk
  have HT := Aside0.mk h
  have b0 := getD_byte hbl 0
  have r0 := rb_cell h.row 0 (by omega)
  obtain ⟨x, hx⟩ : ∃ x, L.getD 0 0 = x := ⟨_, rfl⟩
  rw [hx] at b0 r0
  have wx : wrap64 x = x := wid (by omega) (by omega)
  have i0 : (0 : Int) < (was.length : Int) := by omega
  have i0n : 0 < was.length := by omega
  have G39 := Aside0.mk (fun W => wire_sumPlace.calls x (placeL L) W (by unfold wire_sumPlace.f placeL; rw [hx]; split <;> rfl))
  have G57 := Aside0.mk (fun (nd : Nat) => tturn_calls (h.drewN nd) hbw hbl hl (placeL L) at_ n (pz := (placeL L : Int)) rfl e2 e3 hp ha hand)
  clear h hbw hbl hl e2 e3 hp ha hand hx
  cases bare with
  | true =>
    go_enter Try.func50, Try.ntmps50
    go_wp2
    go_end0
    exact ⟨rfl, HT.out⟩
  | false =>
    go_enter Try.func50, Try.ntmps50
    go_wp2_with (first
      | (go_at_call 39; (with_reducible refine (G39.out _).mono ?_); rintro e w1 ⟨rfl, ⟨⟨nd, rfl⟩⟩⟩)
      | (go_at_call 57; (with_reducible refine (G57.out _).mono ?_); rintro e w2 ⟨rfl, ht⟩; have HX := Aside0.mk ht; clear ht))
    go_end0
    exact ⟨rfl, HX.out⟩
/-- A gram's sum is no nought. -/
def doneL (bare : Bool) (L : List Int) : List Int := if L.getD 0 0 = 2 ∧ bare = false ∧ numL L 22 2 = 0 then putL L 22 2 65535 else L
set_option maxHeartbeats 1000000 in
set_option maxRecDepth 100000 in
theorem tdone_calls {w0 w : World} {t g : Nat} {A : Option Addr} {c cc : Nat} {was L : List Int} {bare : Bool} (h : Tur w0 w t g A c cc was L bare) (hbl : Bytes L) (hl : was.length ≤ 10000) (h24 : 24 ≤ was.length) :
    Calls Try.prog 51 #[.pointer (some ⟨t, 0, none⟩)] w fun e w' => ∃ v, e = .returned v ∧ RB w0.heap.size w' v (doneL bare L) ∧ Below w0.heap.size w0 w' := by
  obtain ⟨T0, T1, T2⟩ := c3 h.blk
  have HT := Aside0.mk h
  have b0 := getD_byte hbl 0
  have r0 := rb_cell h.row 0 (by omega)
  obtain ⟨x, hx⟩ : ∃ x, L.getD 0 0 = x := ⟨_, rfl⟩
  rw [hx] at b0 r0
  have wx : wrap64 x = x := wid (by omega) (by omega)
  have i0 : (0 : Int) < (was.length : Int) := by omega
  have i0n : 0 < was.length := by omega
  have HRR := Aside0.mk (Kd.R_reads' h.row)
  have HRL : Aside0 (Kd.C (Kd.int .u8) w (some ⟨g, 0, none⟩) was.length L) := Aside0.mk (by have := HRR.out.2.2; rw [← HRR.out.1] at this; exact this)
  have G45 := Aside0.mk (get_calls (l := L) (w := w) 22 2 (iz := 22) (mz := 2) HRL.out h.len HRR.out.2.1 hbl (by rw [h.len]; omega) rfl rfl (by omega) (by rw [h.len]; omega))
  have P36 := Aside0.mk (fun nd => put_calls (w0 := w0) (w := w.drewN nd) (v := .slice (some ⟨g, 0, none⟩) was.length cc) 22 2 65535 (iz := 22) (mz := 2) (bd h.below nd) (Kd.R_drewN h.row nd) (by rw [h.len]; omega) rfl rfl (by omega) (by rw [h.len]; omega))
  have HX := Aside0.mk hx
  have HN0 := Aside0.mk h.ne
  have HLT := Aside0.mk (blk_lt h.blk)
  have HBK := Aside0.mk h.blk
  have HDD := Aside0.mk (show doneL bare L = (if x = 2 ∧ bare = false ∧ numL L 22 2 = 0 then putL L 22 2 65535 else L)  from by unfold doneL; rw [hx])
  clear h hbl hl h24 hx
  by_cases h2 : x = 2
  · have q2 : (x == 2) = true := beq_iff_eq.mpr h2
    cases bare with
    | true =>
      go_enter Try.func51, Try.ntmps51
      go_wp2
      go_ret
      exact ⟨_, rfl, by rw [HDD.out, if_neg (by simp)]; exact HT.out.row, HT.out.below⟩
    | false =>
      by_cases hz : numL L 22 2 = 0
      · have qz : (numL L 22 2 == 0) = true := beq_iff_eq.mpr hz
        go_enter Try.func51, Try.ntmps51
        go_wp2_with (first
          | (go_at_call 45; (with_reducible refine G45.out.mono ?_); rintro e w1 ⟨rfl, ⟨⟨nd, rfl⟩⟩⟩)
          | (go_at_call 36; (with_reducible refine (P36.out _).mono ?_); rintro e w2 ⟨rfl, hr, hb, hg⟩; have HRX := Aside0.mk hr; have HBX := Aside0.mk hb; have hz2 := (hg.block t HLT.out (by simp [Value.ownBlock]; exact HN0.out)).trans HBK.out; clear hr hb hg T0 T1 T2; obtain ⟨T0, T1, T2⟩ := c3 hz2; clear hz2))
        go_ret
        exact ⟨_, rfl, by rw [HDD.out, if_pos (by simp [h2, hz])]; exact HRX.out, HBX.out⟩
      · have qz : (numL L 22 2 == 0) = false := beq_eq_false_iff_ne.mpr hz
        go_enter Try.func51, Try.ntmps51
        go_wp2_with (first
          | (go_at_call 45; (with_reducible refine G45.out.mono ?_); rintro e w1 ⟨rfl, ⟨⟨nd, rfl⟩⟩⟩))
        go_ret
        exact ⟨_, rfl, by rw [HDD.out, if_neg (fun h => hz h.2.2)]; exact Kd.R_drewN HT.out.row _, bd HT.out.below _⟩
  · have q2 : (x == 2) = false := beq_eq_false_iff_ne.mpr h2
    go_enter Try.func51, Try.ntmps51
    go_wp2
    go_ret
    exact ⟨_, rfl, by rw [HDD.out, if_neg (fun h => h2 h.1)]; exact HT.out.row, HT.out.below⟩
end Go.Proofs.Ytbjhmifhmojaoaa.WB

namespace Go.Proofs.Ytbjhmifhmojaoaa.WB
set_option linter.unusedVariables false
set_option linter.unusedSimpArgs false
open Go.RowKit Go.Proofs.Ytbjhmifhmojaoaa.Hp Go.Proofs.Ytbjhmifhmojaoaa.SB Go.Proofs.YtbjhmifhmojaoaaW.PrintWords Go.Proofs.YtbjhmifhmojaoaaW.PrintLast Go.Proofs.YtbjhmifhmojaoaaW.PrintMore

theorem Tur.alloc {w0 w : World} {t g : Nat} {A : Option Addr} {c cc : Nat} {was L : List Int} {bare : Bool} (h : Tur w0 w t g A c cc was L bare) (o : Obj) : Tur w0 (w.alloc o) t g A c cc was L bare :=
  ⟨(Below.heap_alloc w o t (blk_lt h.blk)).trans h.blk, Kd.R_alloc h.row o, h.rd, h.le, h.len, h.ne, h.ht, h.hg, h.below.alloc h.below.size o⟩
theorem Tur.set {w0 w : World} {t g : Nat} {A : Option Addr} {c cc : Nat} {was L : List Int} {bare : Bool} (h : Tur w0 w t g A c cc was L bare) (i : Nat) (x : Int) : Tur w0 (w.setCell ⟨g, i, none⟩ (.int .u8 x)) t g A c cc was (L.set i x) bare :=
  ⟨(Below.heap_setCell w ⟨g, i, none⟩ _ t h.ne).trans h.blk, rb_set h.row i x, h.rd, h.le, by rw [List.length_set]; exact h.len, h.ne, h.ht, h.hg, h.below.setCell (p := ⟨g, i, none⟩) h.hg _⟩
/-- What stands behind a call that answers bytes, or an error. -/
def Told (w : World) (r : List Int) (x : Int) (e : Ending) (w' : World) : Prop := ∃ v, e = .returned (.tuple #[v, .int .i64 x]) ∧ RB w.heap.size w' v r ∧ Below w.heap.size w w'
theorem told_nil {w w' : World} {x : Int} (hb : Below w.heap.size w w') : Told w [] x (.returned (.tuple #[.slice none 0 0, .int .i64 x])) w' := ⟨_, rfl, Kd.R_nil _ _ _ _ _, hb⟩
set_option maxHeartbeats 1000000 in
set_option maxRecDepth 100000 in
theorem age_err {A : Option Addr} {c : Nat} {l : List Int} {w : World} (hr : Kd.C (Kd.int .u8) w A l.length l) (hc : l.length ≤ c) (hl : l.length ≤ 10000) (hb : Bytes l) {p0 p1 p2 p3 p4 p5 p6 p7 p8 : Int} {p9 : Bool} {p10 : Int} {p11 p12 : List Int} {x : Int} (hp : parseL l = (⟨p0, p1, p2, p3, p4, p5, p6, p7, p8, p9, p10, p11, p12⟩, x)) (hx : x ≠ 0) :
    Calls Try.prog 30 #[.slice A l.length c] w (Told w [] x) := by
  have q0 : (x == 0) = false := beq_eq_false_iff_ne.mpr hx
  have q0n : (x != 0) = true := bne_iff_ne.mpr hx
  have G := Aside0.mk (begin_err hr hc (by omega) hb hp hx)
  clear hr hc hl hb hp hx
  go_enter Try.func30, Try.ntmps30
  go_wp2_with (first | (go_at_call 49; (with_reducible refine G.out.mono ?_); rintro e w1 ⟨⟨A1, c1, A2, c2, rfl⟩, hb1⟩; have HB1 := Aside0.mk hb1; clear hb1))
  go_ret2
  exact told_nil (HB1.out.alloc HB1.out.size _)
set_option maxHeartbeats 1000000 in
set_option maxRecDepth 100000 in
theorem age_ok {A : Option Addr} {c : Nat} {l : List Int} {w : World} (hr : Kd.C (Kd.int .u8) w A l.length l) (hc : l.length ≤ c) (hl : l.length ≤ 10000) (hb : Bytes l) {p0 p1 p2 p3 p4 p5 p6 p7 p8 : Int} {p9 : Bool} {p10 : Int} {p11 p12 : List Int} (hp : parseL l = (⟨p0, p1, p2, p3, p4, p5, p6, p7, p8, p9, p10, p11, p12⟩, 0)) :
    Calls Try.prog 30 #[.slice A l.length c] w (Told w (if p1 < 2 then [] else doneL p9 (turnL l (l.set 1 ((l.getD 1 0 - 1) % 256)) 14 0 2)) (if p1 < 2 then 7 else 0)) := by
  have G := Aside0.mk (begin_ok hr hc (by omega) hb hp)
  have H24 := Aside0.mk (show 24 ≤ l.length from (head0 (parse0 hp)).1)
  have HY := Aside0.mk hb
  have HL := Aside0.mk hl
  by_cases h2 : p1 < 2
  · rw [if_pos h2, if_pos h2]
    have d2 : decide (p1 < 2) = true := decide_eq_true h2
    clear hr hc hl hb hp h2
    go_enter Try.func30, Try.ntmps30
    go_wp2_with (first | (go_at_call 49; (with_reducible refine G.out.mono ?_); rintro e w1 ⟨t, g, cc, A1, c1, A2, c2, rfl, ht⟩; have HT := Aside0.mk ht; clear ht))
    go_ret2
    exact told_nil (HT.out.below.alloc HT.out.below.size _)
  · rw [if_neg h2, if_neg h2]
    have d2 : decide (p1 < 2) = false := decide_eq_false h2
    clear hr hc hl hb hp h2
    go_enter Try.func30, Try.ntmps30
    go_upto_region 6 with (first | (go_at_call 49; (with_reducible refine G.out.mono ?_); rintro e w1 ⟨t, g, cc, A1, c1, A2, c2, rfl, ht⟩; have HT := Aside0.mk ht; clear ht))
    change Code.wp _ _ _ _ (w1.alloc (.cells #[.int .i64 p0, .int .i64 p1, .int .i64 p2, .int .i64 p3, .int .i64 p4, .int .i64 p5, .int .i64 p6, .int .i64 p7, .int .i64 p8, .bool p9, .int .i64 p10, .slice A1 p11.length c1, .slice A2 p12.length c2] 26))
    have HT1 := Aside0.mk (HT.out.alloc (.cells #[.int .i64 p0, .int .i64 p1, .int .i64 p2, .int .i64 p3, .int .i64 p4, .int .i64 p5, .int .i64 p6, .int .i64 p7, .int .i64 p8, .bool p9, .int .i64 p10, .slice A1 p11.length c1, .slice A2 p12.length c2] 26))
    generalize w1.alloc (.cells #[.int .i64 p0, .int .i64 p1, .int .i64 p2, .int .i64 p3, .int .i64 p4, .int .i64 p5, .int .i64 p6, .int .i64 p7, .int .i64 p8, .bool p9, .int .i64 p10, .slice A1 p11.length c1, .slice A2 p12.length c2] 26) = w2 at HT1 ⊢
    obtain ⟨T0, T1, T2⟩ := c3 HT1.out.blk
    have r1 := rb_cell HT1.out.row 1 (by have := H24.out; omega)
    have s1 := rb_frozen HT1.out.row 1
    have i1 : (1 : Int) < (l.length : Int) := by have := H24.out; omega
    have i1n : 1 < l.length := by have := H24.out; omega
    obtain ⟨x, hx⟩ : ∃ x, l.getD 1 0 = x := ⟨_, rfl⟩
    rw [hx] at r1
    have HX := Aside0.mk hx
    clear hx
    go_upto_region 7 with fail
    generalize hW : World.setCell _ _ _ = w3
    have HT3 : Tur w w3 t g A c cc l (l.set 1 ((x - 1) % 256)) p9 := by rw [← hW]; exact HT1.out.set 1 ((x - 1) % 256)
    have hbs : Bytes (l.set 1 ((x - 1) % 256)) := HY.out.set _ (by omega) (by omega)
    have G57 := Aside0.mk (tturn_calls HT3 HY.out hbs HL.out 14 0 2 (pz := 14) (az := 0) (nz := 2) rfl rfl rfl (by have := H24.out; omega) (by have := H24.out; omega) (by decide))
    have HBT := Aside0.mk (turnL_bytes (was := l) hbs 14 0 2)
    clear hW hbs r1 s1 T0 T1 T2 HT3 HT1 HT
    go_wp2_with (first
      | (go_at_call 57; (with_reducible refine G57.out.mono ?_); rintro e w4 ⟨rfl, ht⟩; have G51 := Aside0.mk (tdone_calls ht HBT.out HL.out H24.out); clear ht)
      | (go_at_call 51; (with_reducible refine G51.out.mono ?_); rintro e w5 ⟨v, rfl, hr, hb⟩; have HRX := Aside0.mk hr; have HBX := Aside0.mk hb; clear hr hb))
    go_ret2
    exact ⟨v, rfl, by rw [HX.out]; exact HRX.out, HBX.out⟩
end Go.Proofs.Ytbjhmifhmojaoaa.WB

namespace Go.Proofs.Ytbjhmifhmojaoaa.WB
set_option linter.unusedVariables false
set_option linter.unusedSimpArgs false
open Go.RowKit Go.Proofs.Ytbjhmifhmojaoaa.Hp Go.Proofs.Ytbjhmifhmojaoaa.SB Go.Proofs.YtbjhmifhmojaoaaW.PrintWords Go.Proofs.YtbjhmifhmojaoaaW.PrintLast Go.Proofs.YtbjhmifhmojaoaaW.PrintMore

theorem tput_calls {w0 w : World} {t g : Nat} {A : Option Addr} {c cc : Nat} {was L : List Int} {bare : Bool} (h : Tur w0 w t g A c cc was L bare) (hl : was.length ≤ 10000) (i m : Nat) (x : Int) {iz mz : Int} (h1 : iz = i) (h2 : mz = m) (hm : m ≤ 4) (hi : i + m ≤ was.length) :
    Calls Try.prog 36 #[.slice (some ⟨g, 0, none⟩) was.length cc, .int .i64 iz, .int .i64 mz, .int .i64 x] w fun e w' => e = .returned (.tuple #[]) ∧ Tur w0 w' t g A c cc was (putL L i m x) bare := by
  refine (put_calls i m x h.below h.row (by rw [h.len]; omega) h1 h2 hm (by rw [h.len]; exact hi)).mono ?_
  rintro e w' ⟨rfl, hr, hb, hg⟩
  exact ⟨rfl, (hg.block t (blk_lt h.blk) (by simp [Value.ownBlock]; exact h.ne)).trans h.blk, hr, h.rd, h.le, by rw [putL_len]; exact h.len, h.ne, h.ht, h.hg, hb⟩
theorem placeL_le (l : List Int) : placeL l ≤ 22 := by unfold placeL; split <;> omega
theorem bodyT_bytes {b : Bool} {was L : List Int} (h : Bytes L) (a n : Nat) : Bytes (bodyT b was L a n) := by
  unfold bodyT
  split
  · exact h
  · exact turnL_bytes h _ _ _
/-- What Nat lays. -/
def natL (bare : Bool) (l : List Int) (a p : Nat) (addr port : Int) : List Int :=
  doneL bare (bodyT bare l (bodyT bare l (turnL l (putL (putL l a 4 addr) p 2 port) 14 a 4) a 4) p 2)
set_option maxHeartbeats 1000000 in
set_option maxRecDepth 100000 in
theorem nat_err {A : Option Addr} {c : Nat} {l : List Int} {w : World} (hr : Kd.C (Kd.int .u8) w A l.length l) (hc : l.length ≤ c) (hl : l.length ≤ 10000) (hb : Bytes l) {p0 p1 p2 p3 p4 p5 p6 p7 p8 : Int} {p9 : Bool} {p10 : Int} {p11 p12 : List Int} (source : Bool) (addr port : Int) {x : Int} (hp : parseL l = (⟨p0, p1, p2, p3, p4, p5, p6, p7, p8, p9, p10, p11, p12⟩, x)) (hx : x ≠ 0) :
    Calls Try.prog 28 #[.slice A l.length c, .bool source, .int .i64 addr, .int .i64 port] w (Told w [] (x)) := by
  have q0 : (x == 0) = false := beq_eq_false_iff_ne.mpr hx
  have q0n : (x != 0) = true := bne_iff_ne.mpr hx
  have G := Aside0.mk (begin_err hr hc (by omega) hb hp hx)
  clear hx
  clear hr hc hl hb hp
  go_enter Try.func28, Try.ntmps28
  go_wp2_with (first | (go_at_call 49; (with_reducible refine G.out.mono ?_); rintro e w1 ⟨⟨A1, c1, A2, c2, rfl⟩, hb1⟩; have HB1 := Aside0.mk hb1; clear hb1))
  go_ret2
  exact told_nil (HB1.out.alloc HB1.out.size _)
set_option maxHeartbeats 1000000 in
set_option maxRecDepth 100000 in
theorem nat_fault {A : Option Addr} {c : Nat} {l : List Int} {w : World} (hr : Kd.C (Kd.int .u8) w A l.length l) (hc : l.length ≤ c) (hl : l.length ≤ 10000) (hb : Bytes l) {p0 p1 p2 p3 p4 p5 p6 p7 p8 : Int} {p9 : Bool} {p10 : Int} {p11 p12 : List Int} (source : Bool) (addr port : Int) (hp : parseL l = (⟨p0, p1, p2, p3, p4, p5, p6, p7, p8, p9, p10, p11, p12⟩, 0)) (hk : p0 = 3) :
    Calls Try.prog 28 #[.slice A l.length c, .bool source, .int .i64 addr, .int .i64 port] w (Told w [] (2)) := by
  have q3 : (p0 == 3) = true := beq_iff_eq.mpr hk
  have G := Aside0.mk (begin_ok hr hc (by omega) hb hp)
  clear hk
  clear hr hc hl hb hp
  go_enter Try.func28, Try.ntmps28
  go_wp2_with (first | (go_at_call 49; (with_reducible refine G.out.mono ?_); rintro e w1 ⟨t, g, cc, A1, c1, A2, c2, rfl, ht⟩; have HT := Aside0.mk ht; clear ht))
  go_ret2
  exact told_nil (HT.out.below.alloc HT.out.below.size _)
set_option maxHeartbeats 1000000 in
set_option maxRecDepth 100000 in
theorem nat_range1 {A : Option Addr} {c : Nat} {l : List Int} {w : World} (hr : Kd.C (Kd.int .u8) w A l.length l) (hc : l.length ≤ c) (hl : l.length ≤ 10000) (hb : Bytes l) {p0 p1 p2 p3 p4 p5 p6 p7 p8 : Int} {p9 : Bool} {p10 : Int} {p11 p12 : List Int} (source : Bool) (addr port : Int) (hp : parseL l = (⟨p0, p1, p2, p3, p4, p5, p6, p7, p8, p9, p10, p11, p12⟩, 0)) (hk : ¬ p0 = 3) (h : rgB addr 4294967295 = false) :
    Calls Try.prog 28 #[.slice A l.length c, .bool source, .int .i64 addr, .int .i64 port] w (Told w [] (14)) := by
  have q3 : (p0 == 3) = false := beq_eq_false_iff_ne.mpr hk
  have G := Aside0.mk (begin_ok hr hc (by omega) hb hp)
  have W1 := Aside0.mk (fun W => wire_within.calls addr 4294967295 false W (by rw [within_ff, h]))
  clear hk h
  clear hr hc hl hb hp
  go_enter Try.func28, Try.ntmps28
  go_wp2_with (first | (go_at_call 49; (with_reducible refine G.out.mono ?_); rintro e w1 ⟨t, g, cc, A1, c1, A2, c2, rfl, ht⟩; have HT := Aside0.mk ht; clear ht) | (go_at_call 56; (with_reducible refine (W1.out _).mono ?_); rintro e w2 ⟨rfl, ⟨⟨nd, rfl⟩⟩⟩))
  go_ret2
  exact told_nil (bd (HT.out.below.alloc HT.out.below.size _) _)
set_option maxHeartbeats 1000000 in
set_option maxRecDepth 100000 in
theorem nat_range2 {A : Option Addr} {c : Nat} {l : List Int} {w : World} (hr : Kd.C (Kd.int .u8) w A l.length l) (hc : l.length ≤ c) (hl : l.length ≤ 10000) (hb : Bytes l) {p0 p1 p2 p3 p4 p5 p6 p7 p8 : Int} {p9 : Bool} {p10 : Int} {p11 p12 : List Int} (source : Bool) (addr port : Int) (hp : parseL l = (⟨p0, p1, p2, p3, p4, p5, p6, p7, p8, p9, p10, p11, p12⟩, 0)) (hk : ¬ p0 = 3) (h : rgB addr 4294967295 = true) (h' : rgB port 65535 = false) :
    Calls Try.prog 28 #[.slice A l.length c, .bool source, .int .i64 addr, .int .i64 port] w (Told w [] (14)) := by
  have q3 : (p0 == 3) = false := beq_eq_false_iff_ne.mpr hk
  have G := Aside0.mk (begin_ok hr hc (by omega) hb hp)
  have W1 := Aside0.mk (fun W => wire_within.calls addr 4294967295 true W (by rw [within_ff, h]))
  have W2 := Aside0.mk (fun W => wire_within.calls port 65535 false W (by rw [within_ff, h']))
  clear hk h h'
  clear hr hc hl hb hp
  go_enter Try.func28, Try.ntmps28
  go_wp2_with (first | (go_at_call 49; (with_reducible refine G.out.mono ?_); rintro e w1 ⟨t, g, cc, A1, c1, A2, c2, rfl, ht⟩; have HT := Aside0.mk ht; clear ht) | (go_at_call 56; (with_reducible refine (W1.out _).mono ?_); rintro e w2 ⟨rfl, ⟨⟨nd, rfl⟩⟩⟩) | (go_at_call 56; (with_reducible refine (W2.out _).mono ?_); rintro e w2 ⟨rfl, ⟨⟨nd, rfl⟩⟩⟩))
  go_ret2
  exact told_nil (bd (HT.out.below.alloc HT.out.below.size _) _)
set_option maxHeartbeats 1000000 in
set_option maxRecDepth 100000 in
theorem nat_ok_true {A : Option Addr} {c : Nat} {l : List Int} {w : World} (hr : Kd.C (Kd.int .u8) w A l.length l) (hc : l.length ≤ c) (hl : l.length ≤ 10000) (hb : Bytes l) {p0 p1 p2 p3 p4 p5 p6 p7 p8 : Int} {p9 : Bool} {p10 : Int} {p11 p12 : List Int} (addr port : Int) (hp : parseL l = (⟨p0, p1, p2, p3, p4, p5, p6, p7, p8, p9, p10, p11, p12⟩, 0)) (hk : ¬ p0 = 3) (h : rgB addr 4294967295 = true) (h' : rgB port 65535 = true) :
    Calls Try.prog 28 #[.slice A l.length c, .bool true, .int .i64 addr, .int .i64 port] w (Told w (natL p9 l 4 16 addr port) 0) := by
  have q3 : (p0 == 3) = false := beq_eq_false_iff_ne.mpr hk
  have G := Aside0.mk (begin_ok hr hc (by omega) hb hp)
  have W1 := Aside0.mk (fun W => wire_within.calls addr 4294967295 true W (by rw [within_ff, h]))
  have W2 := Aside0.mk (fun W => wire_within.calls port 65535 true W (by rw [within_ff, h']))
  have H24 := Aside0.mk (show 24 ≤ l.length from (head0 (parse0 hp)).1)
  have HY := Aside0.mk hb
  have HL := Aside0.mk hl
  clear hr hc hl hb hp hk h h'
  go_enter Try.func28, Try.ntmps28
  go_upto_region 11 with (first | (go_at_call 49; (with_reducible refine G.out.mono ?_); rintro e w1 ⟨t, g, cc, A1, c1, A2, c2, rfl, ht⟩; have HT := Aside0.mk ht; clear ht) | (go_at_call 56; (with_reducible refine (W1.out _).mono ?_); rintro e w2 ⟨rfl, ⟨⟨nd, rfl⟩⟩⟩) | (go_at_call 56; (with_reducible refine (W2.out _).mono ?_); rintro e w2 ⟨rfl, ⟨⟨nd, rfl⟩⟩⟩))
  generalize hW : World.drewN _ _ = w4
  have HT4 : Aside0 (Tur w w4 t g A c cc l l p9) := Aside0.mk (by rw [← hW]; exact (HT.out.alloc _).drewN _)
  clear hW HT
  obtain ⟨T0, T1, T2⟩ := c3 HT4.out.blk
  have P1 := Aside0.mk (tput_calls HT4.out HL.out 4 4 addr (iz := 4) (mz := 4) rfl rfl (by omega) (by have := H24.out; omega))
  go_upto_region 12 with (first | (go_at_call 36; (with_reducible refine P1.out.mono ?_); rintro e w5 ⟨rfl, ht⟩; have HT5 := Aside0.mk ht; clear ht T0 T1 T2; obtain ⟨T0, T1, T2⟩ := c3 HT5.out.blk))
  have P2 := Aside0.mk (tput_calls HT5.out HL.out 16 2 port (iz := 16) (mz := 2) rfl rfl (by omega) (by have := H24.out; omega))
  go_upto_region 13 with (first | (go_at_call 36; (with_reducible refine P2.out.mono ?_); rintro e w6 ⟨rfl, ht⟩; have HT6 := Aside0.mk ht; clear ht T0 T1 T2))
  have B6 := Aside0.mk (putL_bytes 16 2 port (putL_bytes 4 4 addr HY.out))
  have P3 := Aside0.mk (tturn_calls HT6.out HY.out B6.out HL.out 14 4 4 (pz := 14) (az := 4) (nz := 4) rfl rfl rfl (by have := H24.out; omega) (by have := H24.out; omega) (by decide))
  have B7 := Aside0.mk (turnL_bytes (was := l) B6.out 14 4 4)
  go_upto_region 14 with (first | (go_at_call 57; (with_reducible refine P3.out.mono ?_); rintro e w7 ⟨rfl, ht⟩; have HT7 := Aside0.mk ht; clear ht))
  have P4 := Aside0.mk (tbody_calls HT7.out HY.out B7.out HL.out 4 4 (az := 4) (nz := 4) rfl rfl (by have := H24.out; have := placeL_le (turnL l (putL (putL l 4 4 addr) 16 2 port) 14 4 4); exact Nat.le_trans (Nat.add_le_add_right this 2) H24.out) (by have := H24.out; omega) (by decide))
  have B8 := Aside0.mk (bodyT_bytes (b := p9) (was := l) B7.out 4 4)
  go_upto_region 15 with (first | (go_at_call 50; (with_reducible refine P4.out.mono ?_); rintro e w8 ⟨rfl, ht⟩; have HT8 := Aside0.mk ht; clear ht))
  have P5 := Aside0.mk (tbody_calls HT8.out HY.out B8.out HL.out 16 2 (az := 16) (nz := 2) rfl rfl (Nat.le_trans (Nat.add_le_add_right (placeL_le _) 2) H24.out) (by have := H24.out; omega) (by decide))
  have B9 := Aside0.mk (bodyT_bytes (b := p9) (was := l) B8.out 16 2)
  go_wp2_with (first
    | (go_at_call 50; (with_reducible refine P5.out.mono ?_); rintro e w9 ⟨rfl, ht⟩; have G51 := Aside0.mk (tdone_calls ht B9.out HL.out H24.out); clear ht)
    | (go_at_call 51; (with_reducible refine G51.out.mono ?_); rintro e w10 ⟨v, rfl, hr, hb⟩; have HRX := Aside0.mk hr; have HBX := Aside0.mk hb; clear hr hb))
  go_ret2
  exact ⟨v, rfl, HRX.out, HBX.out⟩
set_option maxHeartbeats 1000000 in
set_option maxRecDepth 100000 in
theorem nat_ok_false {A : Option Addr} {c : Nat} {l : List Int} {w : World} (hr : Kd.C (Kd.int .u8) w A l.length l) (hc : l.length ≤ c) (hl : l.length ≤ 10000) (hb : Bytes l) {p0 p1 p2 p3 p4 p5 p6 p7 p8 : Int} {p9 : Bool} {p10 : Int} {p11 p12 : List Int} (addr port : Int) (hp : parseL l = (⟨p0, p1, p2, p3, p4, p5, p6, p7, p8, p9, p10, p11, p12⟩, 0)) (hk : ¬ p0 = 3) (h : rgB addr 4294967295 = true) (h' : rgB port 65535 = true) :
    Calls Try.prog 28 #[.slice A l.length c, .bool false, .int .i64 addr, .int .i64 port] w (Told w (natL p9 l 8 18 addr port) 0) := by
  have q3 : (p0 == 3) = false := beq_eq_false_iff_ne.mpr hk
  have G := Aside0.mk (begin_ok hr hc (by omega) hb hp)
  have W1 := Aside0.mk (fun W => wire_within.calls addr 4294967295 true W (by rw [within_ff, h]))
  have W2 := Aside0.mk (fun W => wire_within.calls port 65535 true W (by rw [within_ff, h']))
  have H24 := Aside0.mk (show 24 ≤ l.length from (head0 (parse0 hp)).1)
  have HY := Aside0.mk hb
  have HL := Aside0.mk hl
  clear hr hc hl hb hp hk h h'
  go_enter Try.func28, Try.ntmps28
  go_upto_region 11 with (first | (go_at_call 49; (with_reducible refine G.out.mono ?_); rintro e w1 ⟨t, g, cc, A1, c1, A2, c2, rfl, ht⟩; have HT := Aside0.mk ht; clear ht) | (go_at_call 56; (with_reducible refine (W1.out _).mono ?_); rintro e w2 ⟨rfl, ⟨⟨nd, rfl⟩⟩⟩) | (go_at_call 56; (with_reducible refine (W2.out _).mono ?_); rintro e w2 ⟨rfl, ⟨⟨nd, rfl⟩⟩⟩))
  generalize hW : World.drewN _ _ = w4
  have HT4 : Aside0 (Tur w w4 t g A c cc l l p9) := Aside0.mk (by rw [← hW]; exact (HT.out.alloc _).drewN _)
  clear hW HT
  obtain ⟨T0, T1, T2⟩ := c3 HT4.out.blk
  have P1 := Aside0.mk (tput_calls HT4.out HL.out 8 4 addr (iz := 8) (mz := 4) rfl rfl (by omega) (by have := H24.out; omega))
  go_upto_region 12 with (first | (go_at_call 36; (with_reducible refine P1.out.mono ?_); rintro e w5 ⟨rfl, ht⟩; have HT5 := Aside0.mk ht; clear ht T0 T1 T2; obtain ⟨T0, T1, T2⟩ := c3 HT5.out.blk))
  have P2 := Aside0.mk (tput_calls HT5.out HL.out 18 2 port (iz := 18) (mz := 2) rfl rfl (by omega) (by have := H24.out; omega))
  go_upto_region 13 with (first | (go_at_call 36; (with_reducible refine P2.out.mono ?_); rintro e w6 ⟨rfl, ht⟩; have HT6 := Aside0.mk ht; clear ht T0 T1 T2))
  have B6 := Aside0.mk (putL_bytes 18 2 port (putL_bytes 8 4 addr HY.out))
  have P3 := Aside0.mk (tturn_calls HT6.out HY.out B6.out HL.out 14 8 4 (pz := 14) (az := 8) (nz := 4) rfl rfl rfl (by have := H24.out; omega) (by have := H24.out; omega) (by decide))
  have B7 := Aside0.mk (turnL_bytes (was := l) B6.out 14 8 4)
  go_upto_region 14 with (first | (go_at_call 57; (with_reducible refine P3.out.mono ?_); rintro e w7 ⟨rfl, ht⟩; have HT7 := Aside0.mk ht; clear ht))
  have P4 := Aside0.mk (tbody_calls HT7.out HY.out B7.out HL.out 8 4 (az := 8) (nz := 4) rfl rfl (by have := H24.out; have := placeL_le (turnL l (putL (putL l 8 4 addr) 18 2 port) 14 8 4); exact Nat.le_trans (Nat.add_le_add_right this 2) H24.out) (by have := H24.out; omega) (by decide))
  have B8 := Aside0.mk (bodyT_bytes (b := p9) (was := l) B7.out 8 4)
  go_upto_region 15 with (first | (go_at_call 50; (with_reducible refine P4.out.mono ?_); rintro e w8 ⟨rfl, ht⟩; have HT8 := Aside0.mk ht; clear ht))
  have P5 := Aside0.mk (tbody_calls HT8.out HY.out B8.out HL.out 18 2 (az := 18) (nz := 2) rfl rfl (Nat.le_trans (Nat.add_le_add_right (placeL_le _) 2) H24.out) (by have := H24.out; omega) (by decide))
  have B9 := Aside0.mk (bodyT_bytes (b := p9) (was := l) B8.out 18 2)
  go_wp2_with (first
    | (go_at_call 50; (with_reducible refine P5.out.mono ?_); rintro e w9 ⟨rfl, ht⟩; have G51 := Aside0.mk (tdone_calls ht B9.out HL.out H24.out); clear ht)
    | (go_at_call 51; (with_reducible refine G51.out.mono ?_); rintro e w10 ⟨v, rfl, hr, hb⟩; have HRX := Aside0.mk hr; have HBX := Aside0.mk hb; clear hr hb))
  go_ret2
  exact ⟨v, rfl, HRX.out, HBX.out⟩
end Go.Proofs.Ytbjhmifhmojaoaa.WB
