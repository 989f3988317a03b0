/- Lemmas and contracts that the row YtbjhmifhmojaoaaLawWireBuilds goes by (part 8; joined by pack.py out of this session's texts, and of words that the kit's print lays). -/
import Derived.Test.YtbjhmifhmojaoaaKBuilds7
namespace Go.Proofs.Ytbjhmifhmojaoaa.WB
set_option linter.unusedVariables false
set_option linter.unusedSimpArgs false
open Go.RowKit Go.Proofs.Ytbjhmifhmojaoaa.Hp Go.Proofs.Ytbjhmifhmojaoaa.SB Go.Proofs.YtbjhmifhmojaoaaW.PrintWords Go.Proofs.YtbjhmifhmojaoaaW.PrintLast Go.Proofs.YtbjhmifhmojaoaaW.PrintMore
theorem rout_b {n m : Int} {b : Bool} (h : rgB n m = !b) (W : World) : Calls Try.prog 40 #[.int .i64 n, .int .i64 m] W fun e w' => e = .returned (.bool b) ∧ Drawn0 W w' := by
  refine roundhouseref3_out.calls n m _ W ?_
  unfold roundhouseref3_out.f
  unfold rgB at h
  by_cases h0 : n < 0
  · rw [if_pos h0]; rw [decide_eq_false (show ¬ 0 ≤ n by omega)] at h; cases b <;> simp_all
  · rw [if_neg h0]
    rw [decide_eq_true (show 0 ≤ n by omega), Bool.true_and] at h
    cases b
    · have : n ≤ m := by simpa using h
      simp; omega
    · have : ¬ n ≤ m := by simpa using h
      simp; omega
set_option maxHeartbeats 8000000 in
set_option maxRecDepth 100000 in
theorem rbuild_ekind {A1 A2 : Option Addr} {c1 c2 : Nat} {p0 p1 p2 p3 p4 p5 p6 p7 p8 : Int} {p9 : Bool} {p10 : Int} {p11 p12 : List Int} {w : World} (ha : Kd.C (Kd.int .u8) w A1 p11.length p11) (hca : p11.length ≤ c1) (hd : Kd.C (Kd.int .u8) w A2 p12.length p12) (hcd : p12.length ≤ c2) (hba : Bytes p11) (hbd : Bytes p12) (h : ¬ (1 ≤ p0 ∧ p0 ≤ 3)) :
    Calls Try.prog 18 #[.agg #[.int .i64 p0, .int .i64 p1, .int .i64 p2, .int .i64 p3, .int .i64 p4, .int .i64 p5, .int .i64 p6, .int .i64 p7, .int .i64 p8, .bool p9, .int .i64 p10, .slice A1 p11.length c1, .slice A2 p12.length c2]] w fun e w' => e = .returned (.tuple #[.slice none 0 0, .int .i64 2]) ∧ Below w.heap.size w w' := by
  have HBA := Aside0.mk (fun o => (Below.refl w.heap.size w).alloc (Nat.le_refl _) o)
  clear ha hd hba hbd hca hcd
  by_cases h1 : p0 < 1
  · have d1 : decide (p0 < 1) = true := decide_eq_true h1
    clear h h1
    go_enter Try.func18, Try.ntmps18
    go_wp2
    go_ret2
    exact ⟨rfl, HBA.out _⟩
  · have d1 : decide (p0 < 1) = false := decide_eq_false h1
    have d3 : decide (3 < p0) = true := decide_eq_true (by omega)
    clear h h1
    go_enter Try.func18, Try.ntmps18
    go_wp2
    go_ret2
    exact ⟨rfl, HBA.out _⟩
set_option maxHeartbeats 8000000 in
set_option maxRecDepth 100000 in
theorem rbuild_err_stream {A1 A2 : Option Addr} {c1 c2 : Nat} {p0 p1 p2 p3 p4 p5 p6 p7 p8 : Int} {p9 : Bool} {p10 : Int} {p11 p12 : List Int} {w : World} (ha : Kd.C (Kd.int .u8) w A1 p11.length p11) (hca : p11.length ≤ c1) (hd : Kd.C (Kd.int .u8) w A2 p12.length p12) (hcd : p12.length ≤ c2) (hba : Bytes p11) (hbd : Bytes p12) (hla : p11.length ≤ 100000) (hld : p12.length ≤ 100000) (hk : p0 = 1) {x : Int} (he : buildE ⟨p0, p1, p2, p3, p4, p5, p6, p7, p8, p9, p10, p11, p12⟩ = x) (hx : x ≠ 0) :
    Calls Try.prog 18 #[.agg #[.int .i64 p0, .int .i64 p1, .int .i64 p2, .int .i64 p3, .int .i64 p4, .int .i64 p5, .int .i64 p6, .int .i64 p7, .int .i64 p8, .bool p9, .int .i64 p10, .slice A1 p11.length c1, .slice A2 p12.length c2]] w fun e w' => e = .returned (.tuple #[.slice none 0 0, .int .i64 x]) ∧ Below w.heap.size w w' := by
  have hE : buildE ⟨p0, p1, p2, p3, p4, p5, p6, p7, p8, p9, p10, p11, p12⟩ = (if ¬ (1 ≤ p0 ∧ p0 ≤ 3) then 2 else if okR ⟨p0, p1, p2, p3, p4, p5, p6, p7, p8, p9, p10, p11, p12⟩ = false then 14 else if p0 = 1 ∧ 40 < p11.length then 5 else if (p0 = 3 ∧ p12.length < 24) ∨ 1500 < (if p0 = 1 then 24 + p12.length + p11.length else if p0 = 3 then 20 + p12.length else 24 + p12.length) then 3 else 0) := rfl
  rw [he, if_neg (by omega)] at hE
  have hO : okR ⟨p0, p1, p2, p3, p4, p5, p6, p7, p8, p9, p10, p11, p12⟩ = (rgB p1 255 && rgB p2 255 && rgB p3 4294967295 && rgB p4 4294967295 && (if p0 = 3 then rgB p10 255 else rgB p5 65535 && rgB p6 65535 && (if p0 = 2 then rgB p8 65535 else rgB p7 15))) := rfl
  rw [if_neg (by omega), if_neg (by omega)] at hO
  have HE := Aside0.mk hE
  have HO := Aside0.mk hO
  have HK := Aside0.mk hk
  have HX := Aside0.mk hx
  have HLA := Aside0.mk hla
  have HLD := Aside0.mk hld
  have dk1 : decide (p0 < 1) = false := decide_eq_false (by omega)
  have dk3 : decide (3 < p0) = false := decide_eq_false (by omega)
  have q1 : (p0 == 1) = true := by rw [hk]; rfl
  have q1n : (p0 != 1) = false := by rw [hk]; rfl
  have q2 : (p0 == 2) = false := by rw [hk]; rfl
  have q2n : (p0 != 2) = true := by rw [hk]; rfl
  have q3 : (p0 == 3) = false := by rw [hk]; rfl
  have q3n : (p0 != 3) = true := by rw [hk]; rfl
  clear ha hd hba hbd hca hcd hE hO he hx hk hla hld
  go_enter Try.func18, Try.ntmps18
  go_upto_region 3 with fail
  have hz1 := new_blk w (.cells #[.int .i64 p0, .int .i64 p1, .int .i64 p2, .int .i64 p3, .int .i64 p4, .int .i64 p5, .int .i64 p6, .int .i64 p7, .int .i64 p8, .bool p9, .int .i64 p10, .slice A1 p11.length c1, .slice A2 p12.length c2] 26)
  have HB1 := Aside0.mk ((Below.refl w.heap.size w).alloc (Nat.le_refl _) (.cells #[.int .i64 p0, .int .i64 p1, .int .i64 p2, .int .i64 p3, .int .i64 p4, .int .i64 p5, .int .i64 p6, .int .i64 p7, .int .i64 p8, .bool p9, .int .i64 p10, .slice A1 p11.length c1, .slice A2 p12.length c2] 26))
  generalize (w.alloc (.cells #[.int .i64 p0, .int .i64 p1, .int .i64 p2, .int .i64 p3, .int .i64 p4, .int .i64 p5, .int .i64 p6, .int .i64 p7, .int .i64 p8, .bool p9, .int .i64 p10, .slice A1 p11.length c1, .slice A2 p12.length c2] 26)) = w1 at hz1 HB1 ⊢
  have HZ1 := Aside0.mk hz1
  have k0 := (c13 hz1).1
  clear hz1
  refine start_ (n := 12) (S := fun w' => w'.cell? ⟨w.heap.size, 0, none⟩ = some (.int .i64 p0)) (ds := []) #[false, false, false, false, false, false, false, false, false, false, false, false] (by kernel_rfl) rfl rfl (k0) (fun hHeld => ?_)
  refine pure_ (i := 0) (N := some 18) (v := ?_) (a' := ?_) #[true, false, false, false, false, false, false, false, false, false, false, false] rfl rfl (by kernel_rfl) (fun _ _ _ h => h) (Or.inl ⟨by rfl, ?_⟩) ?_ ?_
  rotate_left
  · intro w'
    go_simp
    with_reducible rfl
  rotate_left
  · simp only [Act.put, List.setIfInBounds_toArray, List.set_cons_zero, List.set_cons_succ, i64_w, i32_w]
    rfl
  refine pure_ (i := 3) (N := some 21) (v := ?_) (a' := ?_) #[true, false, false, true, false, false, false, false, false, false, false, false] rfl rfl (by kernel_rfl) (fun _ _ _ h => h) (Or.inl ⟨by rfl, ?_⟩) ?_ ?_
  rotate_left
  · intro w'
    go_simp
    with_reducible rfl
  rotate_left
  · simp only [Act.put, List.setIfInBounds_toArray, List.set_cons_zero, List.set_cons_succ, i64_w, i32_w]
    rfl
  refine pure_ (i := 6) (N := some 24) (v := ?_) (a' := ?_) #[true, false, false, true, false, false, true, false, false, false, false, false] rfl rfl (by kernel_rfl) (fun _ _ _ h => h) (Or.inl ⟨by rfl, ?_⟩) ?_ ?_
  rotate_left
  · intro w'
    go_simp
    with_reducible rfl
  rotate_left
  · simp only [Act.put, List.setIfInBounds_toArray, List.set_cons_zero, List.set_cons_succ, i64_w, i32_w]
    rfl
  refine take_ (i := 1) (N := some 19) (v := ?_) (a' := ?_) #[true, true, false, true, false, false, true, false, false, false, false, false] rfl rfl (by kernel_rfl) (fun _ _ _ h => h) (Or.inl ⟨by rfl, ?_⟩) hHeld ?_ ?_
  rotate_left
  · intro w' s0
    go_simp
    with_reducible rfl
  rotate_left
  · simp only [Act.put, List.setIfInBounds_toArray, List.set_cons_zero, List.set_cons_succ, i64_w, i32_w]
    rfl
  refine pure_ (i := 2) (N := some 20) (v := ?_) (a' := ?_) #[true, true, true, true, false, false, true, false, false, false, false, false] rfl rfl (by kernel_rfl) (fun _ _ _ h => h) (Or.inl ⟨by rfl, ?_⟩) ?_ ?_
  rotate_left
  · intro w'
    go_simp
    with_reducible rfl
  rotate_left
  · simp only [Act.put, List.setIfInBounds_toArray, List.set_cons_zero, List.set_cons_succ, i64_w, i32_w]
    rfl
  refine pure_ (i := 9) (N := some 4) (v := ?_) (a' := ?_) #[true, true, true, true, false, false, true, false, false, true, false, false] rfl rfl (by kernel_rfl) (fun _ _ _ h => h) (Or.inl ⟨by rfl, ?_⟩) ?_ ?_
  rotate_left
  · intro w'
    go_simp
    with_reducible rfl
  rotate_left
  · simp only [Act.put, List.setIfInBounds_toArray, List.set_cons_zero, List.set_cons_succ, i64_w, i32_w]
    rfl
  refine take_ (i := 4) (N := some 22) (v := ?_) (a' := ?_) #[true, true, true, true, true, false, true, false, false, true, false, false] rfl rfl (by kernel_rfl) (fun _ _ _ h => h) (Or.inl ⟨by rfl, ?_⟩) hHeld ?_ ?_
  rotate_left
  · intro w' s0
    go_simp
    with_reducible rfl
  rotate_left
  · simp only [Act.put, List.setIfInBounds_toArray, List.set_cons_zero, List.set_cons_succ, i64_w, i32_w]
    rfl
  refine pure_ (i := 5) (N := some 23) (v := ?_) (a' := ?_) #[true, true, true, true, true, true, true, false, false, true, false, false] rfl rfl (by kernel_rfl) (fun _ _ _ h => h) (Or.inl ⟨by rfl, ?_⟩) ?_ ?_
  rotate_left
  · intro w'
    go_simp
    with_reducible rfl
  rotate_left
  · simp only [Act.put, List.setIfInBounds_toArray, List.set_cons_zero, List.set_cons_succ, i64_w, i32_w]
    rfl
  refine pure_ (i := 10) (N := some 5) (v := ?_) (a' := ?_) #[true, true, true, true, true, true, true, false, false, true, true, false] rfl rfl (by kernel_rfl) (fun _ _ _ h => h) (Or.inl ⟨by rfl, ?_⟩) ?_ ?_
  rotate_left
  · intro w'
    go_simp
    with_reducible rfl
  rotate_left
  · simp only [Act.put, List.setIfInBounds_toArray, List.set_cons_zero, List.set_cons_succ, i64_w, i32_w]
    rfl
  refine take_ (i := 7) (N := some 25) (v := ?_) (a' := ?_) #[true, true, true, true, true, true, true, true, false, true, true, false] rfl rfl (by kernel_rfl) (fun _ _ _ h => h) (Or.inl ⟨by rfl, ?_⟩) hHeld ?_ ?_
  rotate_left
  · intro w' s0
    go_simp
    with_reducible rfl
  rotate_left
  · simp only [Act.put, List.setIfInBounds_toArray, List.set_cons_zero, List.set_cons_succ, i64_w, i32_w]
    rfl
  refine pure_ (i := 8) (N := some 26) (v := ?_) (a' := ?_) #[true, true, true, true, true, true, true, true, true, true, true, false] rfl rfl (by kernel_rfl) (fun _ _ _ h => h) (Or.inl ⟨by rfl, ?_⟩) ?_ ?_
  rotate_left
  · intro w'
    go_simp
    with_reducible rfl
  rotate_left
  · simp only [Act.put, List.setIfInBounds_toArray, List.set_cons_zero, List.set_cons_succ, i64_w, i32_w]
    rfl
  refine pure_ (i := 11) (N := some 6) (v := ?_) (a' := ?_) #[true, true, true, true, true, true, true, true, true, true, true, true] rfl rfl (by kernel_rfl) (fun _ _ _ h => h) (Or.inl ⟨by rfl, ?_⟩) ?_ ?_
  rotate_left
  · intro w'
    go_simp
    with_reducible rfl
  rotate_left
  · simp only [Act.put, List.setIfInBounds_toArray, List.set_cons_zero, List.set_cons_succ, i64_w, i32_w]
    rfl
  refine done_ (by kernel_rfl) ?_
  clear hHeld k0 dk1 dk3
  obtain ⟨k0, k1, k2, k3, k4, k5, k6, k7, k8, k9, k10, k11, k12⟩ := c13 HZ1.out
  by_cases t1 : rgB p1 255 = false
  · have O1 := Aside0.mk (fun W => rout_b (b := true) (by rw [t1]; rfl) W)
    have hx_ : x = 14 := by
      have h_ := HE.out
      rw [if_pos (by rw [HO.out, t1]; simp)] at h_; exact h_
    subst hx_
    clear HE HO HX
    go_wp2_with (first | (go_at_call 40; (with_reducible refine (O1.out _).mono ?_); rintro e w5 ⟨rfl, ⟨⟨nd, rfl⟩⟩⟩))
    go_ret2
    exact ⟨rfl, (by repeat (first | with_reducible exact HB1.out | with_reducible apply pw_below_drewN))⟩
  have t1n : rgB p1 255 = true := by simpa using t1
  have O1 := Aside0.mk (fun W => rout_b (b := false) (by rw [t1n]; rfl) W)
  clear t1
  by_cases t2 : rgB p2 255 = false
  · have O2 := Aside0.mk (fun W => rout_b (b := true) (by rw [t2]; rfl) W)
    have hx_ : x = 14 := by
      have h_ := HE.out
      rw [if_pos (by rw [HO.out, t2]; simp)] at h_; exact h_
    subst hx_
    clear HE HO HX
    go_wp2_with (first | (go_at_call 40; (with_reducible refine (O1.out _).mono ?_); rintro e w5 ⟨rfl, ⟨⟨nd, rfl⟩⟩⟩) | (go_at_call 40; (with_reducible refine (O2.out _).mono ?_); rintro e w5 ⟨rfl, ⟨⟨nd, rfl⟩⟩⟩))
    go_ret2
    exact ⟨rfl, (by repeat (first | with_reducible exact HB1.out | with_reducible apply pw_below_drewN))⟩
  have t2n : rgB p2 255 = true := by simpa using t2
  have O2 := Aside0.mk (fun W => rout_b (b := false) (by rw [t2n]; rfl) W)
  clear t2
  by_cases t3 : rgB p3 4294967295 = false
  · have O3 := Aside0.mk (fun W => rout_b (b := true) (by rw [t3]; rfl) W)
    have hx_ : x = 14 := by
      have h_ := HE.out
      rw [if_pos (by rw [HO.out, t3]; simp)] at h_; exact h_
    subst hx_
    clear HE HO HX
    go_wp2_with (first | (go_at_call 40; (with_reducible refine (O1.out _).mono ?_); rintro e w5 ⟨rfl, ⟨⟨nd, rfl⟩⟩⟩) | (go_at_call 40; (with_reducible refine (O2.out _).mono ?_); rintro e w5 ⟨rfl, ⟨⟨nd, rfl⟩⟩⟩) | (go_at_call 40; (with_reducible refine (O3.out _).mono ?_); rintro e w5 ⟨rfl, ⟨⟨nd, rfl⟩⟩⟩))
    go_ret2
    exact ⟨rfl, (by repeat (first | with_reducible exact HB1.out | with_reducible apply pw_below_drewN))⟩
  have t3n : rgB p3 4294967295 = true := by simpa using t3
  have O3 := Aside0.mk (fun W => rout_b (b := false) (by rw [t3n]; rfl) W)
  clear t3
  by_cases t4 : rgB p4 4294967295 = false
  · have O4 := Aside0.mk (fun W => rout_b (b := true) (by rw [t4]; rfl) W)
    have hx_ : x = 14 := by
      have h_ := HE.out
      rw [if_pos (by rw [HO.out, t4]; simp)] at h_; exact h_
    subst hx_
    clear HE HO HX
    go_wp2_with (first | (go_at_call 40; (with_reducible refine (O1.out _).mono ?_); rintro e w5 ⟨rfl, ⟨⟨nd, rfl⟩⟩⟩) | (go_at_call 40; (with_reducible refine (O2.out _).mono ?_); rintro e w5 ⟨rfl, ⟨⟨nd, rfl⟩⟩⟩) | (go_at_call 40; (with_reducible refine (O3.out _).mono ?_); rintro e w5 ⟨rfl, ⟨⟨nd, rfl⟩⟩⟩) | (go_at_call 40; (with_reducible refine (O4.out _).mono ?_); rintro e w5 ⟨rfl, ⟨⟨nd, rfl⟩⟩⟩))
    go_ret2
    exact ⟨rfl, (by repeat (first | with_reducible exact HB1.out | with_reducible apply pw_below_drewN))⟩
  have t4n : rgB p4 4294967295 = true := by simpa using t4
  have O4 := Aside0.mk (fun W => rout_b (b := false) (by rw [t4n]; rfl) W)
  clear t4
  by_cases t5 : rgB p5 65535 = false
  · have O5 := Aside0.mk (fun W => rout_b (b := true) (by rw [t5]; rfl) W)
    have hx_ : x = 14 := by
      have h_ := HE.out
      rw [if_pos (by rw [HO.out, t5]; simp)] at h_; exact h_
    subst hx_
    clear HE HO HX
    go_wp2_with (first | (go_at_call 40; (with_reducible refine (O1.out _).mono ?_); rintro e w5 ⟨rfl, ⟨⟨nd, rfl⟩⟩⟩) | (go_at_call 40; (with_reducible refine (O2.out _).mono ?_); rintro e w5 ⟨rfl, ⟨⟨nd, rfl⟩⟩⟩) | (go_at_call 40; (with_reducible refine (O3.out _).mono ?_); rintro e w5 ⟨rfl, ⟨⟨nd, rfl⟩⟩⟩) | (go_at_call 40; (with_reducible refine (O4.out _).mono ?_); rintro e w5 ⟨rfl, ⟨⟨nd, rfl⟩⟩⟩) | (go_at_call 40; (with_reducible refine (O5.out _).mono ?_); rintro e w5 ⟨rfl, ⟨⟨nd, rfl⟩⟩⟩))
    go_ret2
    exact ⟨rfl, (by repeat (first | with_reducible exact HB1.out | with_reducible apply pw_below_drewN))⟩
  have t5n : rgB p5 65535 = true := by simpa using t5
  have O5 := Aside0.mk (fun W => rout_b (b := false) (by rw [t5n]; rfl) W)
  clear t5
  by_cases t6 : rgB p6 65535 = false
  · have O6 := Aside0.mk (fun W => rout_b (b := true) (by rw [t6]; rfl) W)
    have hx_ : x = 14 := by
      have h_ := HE.out
      rw [if_pos (by rw [HO.out, t6]; simp)] at h_; exact h_
    subst hx_
    clear HE HO HX
    go_wp2_with (first | (go_at_call 40; (with_reducible refine (O1.out _).mono ?_); rintro e w5 ⟨rfl, ⟨⟨nd, rfl⟩⟩⟩) | (go_at_call 40; (with_reducible refine (O2.out _).mono ?_); rintro e w5 ⟨rfl, ⟨⟨nd, rfl⟩⟩⟩) | (go_at_call 40; (with_reducible refine (O3.out _).mono ?_); rintro e w5 ⟨rfl, ⟨⟨nd, rfl⟩⟩⟩) | (go_at_call 40; (with_reducible refine (O4.out _).mono ?_); rintro e w5 ⟨rfl, ⟨⟨nd, rfl⟩⟩⟩) | (go_at_call 40; (with_reducible refine (O5.out _).mono ?_); rintro e w5 ⟨rfl, ⟨⟨nd, rfl⟩⟩⟩) | (go_at_call 40; (with_reducible refine (O6.out _).mono ?_); rintro e w5 ⟨rfl, ⟨⟨nd, rfl⟩⟩⟩))
    go_ret2
    exact ⟨rfl, (by repeat (first | with_reducible exact HB1.out | with_reducible apply pw_below_drewN))⟩
  have t6n : rgB p6 65535 = true := by simpa using t6
  have O6 := Aside0.mk (fun W => rout_b (b := false) (by rw [t6n]; rfl) W)
  clear t6
  by_cases t7 : rgB p7 15 = false
  · have O7 := Aside0.mk (fun W => rout_b (b := true) (by rw [t7]; rfl) W)
    have hx_ : x = 14 := by
      have h_ := HE.out
      rw [if_pos (by rw [HO.out, t7]; simp)] at h_; exact h_
    subst hx_
    clear HE HO HX
    go_wp2_with (first | (go_at_call 40; (with_reducible refine (O1.out _).mono ?_); rintro e w5 ⟨rfl, ⟨⟨nd, rfl⟩⟩⟩) | (go_at_call 40; (with_reducible refine (O2.out _).mono ?_); rintro e w5 ⟨rfl, ⟨⟨nd, rfl⟩⟩⟩) | (go_at_call 40; (with_reducible refine (O3.out _).mono ?_); rintro e w5 ⟨rfl, ⟨⟨nd, rfl⟩⟩⟩) | (go_at_call 40; (with_reducible refine (O4.out _).mono ?_); rintro e w5 ⟨rfl, ⟨⟨nd, rfl⟩⟩⟩) | (go_at_call 40; (with_reducible refine (O5.out _).mono ?_); rintro e w5 ⟨rfl, ⟨⟨nd, rfl⟩⟩⟩) | (go_at_call 40; (with_reducible refine (O6.out _).mono ?_); rintro e w5 ⟨rfl, ⟨⟨nd, rfl⟩⟩⟩) | (go_at_call 40; (with_reducible refine (O7.out _).mono ?_); rintro e w5 ⟨rfl, ⟨⟨nd, rfl⟩⟩⟩))
    go_ret2
    exact ⟨rfl, (by repeat (first | with_reducible exact HB1.out | with_reducible apply pw_below_drewN))⟩
  have t7n : rgB p7 15 = true := by simpa using t7
  have O7 := Aside0.mk (fun W => rout_b (b := false) (by rw [t7n]; rfl) W)
  clear t7
  have hok : ¬ okR ⟨p0, p1, p2, p3, p4, p5, p6, p7, p8, p9, p10, p11, p12⟩ = false := by rw [HO.out]; simp [t1n, t2n, t3n, t4n, t5n, t6n, t7n]
  have HOK := Aside0.mk hok
  clear hok t1n t2n t3n t4n t5n t6n t7n
  by_cases t5 : 40 < p11.length
  · have dopt : decide (40 < (p11.length : Int)) = true := decide_eq_true (by omega)
    have doptn : decide (40 < p11.length) = true := decide_eq_true t5
    have hx_ : x = 5 := by
      have h_ := HE.out
      rw [if_neg HOK.out, if_pos ⟨HK.out, t5⟩] at h_; exact h_
    subst hx_
    clear t5 HE HO HX
    go_wp2_with (first | (go_at_call 40; (with_reducible refine (O1.out _).mono ?_); rintro e w5 ⟨rfl, ⟨⟨nd, rfl⟩⟩⟩) | (go_at_call 40; (with_reducible refine (O2.out _).mono ?_); rintro e w5 ⟨rfl, ⟨⟨nd, rfl⟩⟩⟩) | (go_at_call 40; (with_reducible refine (O3.out _).mono ?_); rintro e w5 ⟨rfl, ⟨⟨nd, rfl⟩⟩⟩) | (go_at_call 40; (with_reducible refine (O4.out _).mono ?_); rintro e w5 ⟨rfl, ⟨⟨nd, rfl⟩⟩⟩) | (go_at_call 40; (with_reducible refine (O5.out _).mono ?_); rintro e w5 ⟨rfl, ⟨⟨nd, rfl⟩⟩⟩) | (go_at_call 40; (with_reducible refine (O6.out _).mono ?_); rintro e w5 ⟨rfl, ⟨⟨nd, rfl⟩⟩⟩) | (go_at_call 40; (with_reducible refine (O7.out _).mono ?_); rintro e w5 ⟨rfl, ⟨⟨nd, rfl⟩⟩⟩))
    go_ret2
    exact ⟨rfl, (by repeat (first | with_reducible exact HB1.out | with_reducible apply pw_below_drewN))⟩
  have dopt : decide (40 < (p11.length : Int)) = false := decide_eq_false (by omega)
  have doptn : decide (40 < p11.length) = false := decide_eq_false t5
  by_cases tl : 1500 < 24 + p12.length + p11.length
  · skip
    have dlim : decide (1500 < wrap64 (wrap64 (24 + (p12.length : Int)) + (p11.length : Int))) = true := decide_eq_true (by have := HLA.out; have := HLD.out; rw [wid (n := 24 + (p12.length : Int)) (by omega) (by omega), wid (by omega) (by omega)]; omega)
    have hx_ : x = 3 := by
      have h_ := HE.out
      rw [if_neg HOK.out, if_neg (fun h => t5 h.2), if_pos (Or.inr (by rw [if_pos HK.out]; exact tl))] at h_; exact h_
    subst hx_
    clear t5 tl HE HO HX
    go_wp2_with (first | (go_at_call 40; (with_reducible refine (O1.out _).mono ?_); rintro e w5 ⟨rfl, ⟨⟨nd, rfl⟩⟩⟩) | (go_at_call 40; (with_reducible refine (O2.out _).mono ?_); rintro e w5 ⟨rfl, ⟨⟨nd, rfl⟩⟩⟩) | (go_at_call 40; (with_reducible refine (O3.out _).mono ?_); rintro e w5 ⟨rfl, ⟨⟨nd, rfl⟩⟩⟩) | (go_at_call 40; (with_reducible refine (O4.out _).mono ?_); rintro e w5 ⟨rfl, ⟨⟨nd, rfl⟩⟩⟩) | (go_at_call 40; (with_reducible refine (O5.out _).mono ?_); rintro e w5 ⟨rfl, ⟨⟨nd, rfl⟩⟩⟩) | (go_at_call 40; (with_reducible refine (O6.out _).mono ?_); rintro e w5 ⟨rfl, ⟨⟨nd, rfl⟩⟩⟩) | (go_at_call 40; (with_reducible refine (O7.out _).mono ?_); rintro e w5 ⟨rfl, ⟨⟨nd, rfl⟩⟩⟩))
    go_ret2
    exact ⟨rfl, (by repeat (first | with_reducible exact HB1.out | with_reducible apply pw_below_drewN))⟩
  · exact absurd (by have h_ := HE.out; rw [if_neg HOK.out, if_neg (fun h => t5 h.2), if_pos HK.out, if_neg (by have := HK.out; omega)] at h_; exact h_) HX.out
set_option maxHeartbeats 8000000 in
set_option maxRecDepth 100000 in
theorem rbuild_err_gram {A1 A2 : Option Addr} {c1 c2 : Nat} {p0 p1 p2 p3 p4 p5 p6 p7 p8 : Int} {p9 : Bool} {p10 : Int} {p11 p12 : List Int} {w : World} (ha : Kd.C (Kd.int .u8) w A1 p11.length p11) (hca : p11.length ≤ c1) (hd : Kd.C (Kd.int .u8) w A2 p12.length p12) (hcd : p12.length ≤ c2) (hba : Bytes p11) (hbd : Bytes p12) (hla : p11.length ≤ 100000) (hld : p12.length ≤ 100000) (hk : p0 = 2) {x : Int} (he : buildE ⟨p0, p1, p2, p3, p4, p5, p6, p7, p8, p9, p10, p11, p12⟩ = x) (hx : x ≠ 0) :
    Calls Try.prog 18 #[.agg #[.int .i64 p0, .int .i64 p1, .int .i64 p2, .int .i64 p3, .int .i64 p4, .int .i64 p5, .int .i64 p6, .int .i64 p7, .int .i64 p8, .bool p9, .int .i64 p10, .slice A1 p11.length c1, .slice A2 p12.length c2]] w fun e w' => e = .returned (.tuple #[.slice none 0 0, .int .i64 x]) ∧ Below w.heap.size w w' := by
  have hE : buildE ⟨p0, p1, p2, p3, p4, p5, p6, p7, p8, p9, p10, p11, p12⟩ = (if ¬ (1 ≤ p0 ∧ p0 ≤ 3) then 2 else if okR ⟨p0, p1, p2, p3, p4, p5, p6, p7, p8, p9, p10, p11, p12⟩ = false then 14 else if p0 = 1 ∧ 40 < p11.length then 5 else if (p0 = 3 ∧ p12.length < 24) ∨ 1500 < (if p0 = 1 then 24 + p12.length + p11.length else if p0 = 3 then 20 + p12.length else 24 + p12.length) then 3 else 0) := rfl
  rw [he, if_neg (by omega)] at hE
  have hO : okR ⟨p0, p1, p2, p3, p4, p5, p6, p7, p8, p9, p10, p11, p12⟩ = (rgB p1 255 && rgB p2 255 && rgB p3 4294967295 && rgB p4 4294967295 && (if p0 = 3 then rgB p10 255 else rgB p5 65535 && rgB p6 65535 && (if p0 = 2 then rgB p8 65535 else rgB p7 15))) := rfl
  rw [if_neg (by omega), if_pos (by omega)] at hO
  have HE := Aside0.mk hE
  have HO := Aside0.mk hO
  have HK := Aside0.mk hk
  have HX := Aside0.mk hx
  have HLA := Aside0.mk hla
  have HLD := Aside0.mk hld
  have dk1 : decide (p0 < 1) = false := decide_eq_false (by omega)
  have dk3 : decide (3 < p0) = false := decide_eq_false (by omega)
  have q1 : (p0 == 1) = false := by rw [hk]; rfl
  have q1n : (p0 != 1) = true := by rw [hk]; rfl
  have q2 : (p0 == 2) = true := by rw [hk]; rfl
  have q2n : (p0 != 2) = false := by rw [hk]; rfl
  have q3 : (p0 == 3) = false := by rw [hk]; rfl
  have q3n : (p0 != 3) = true := by rw [hk]; rfl
  clear ha hd hba hbd hca hcd hE hO he hx hk hla hld
  go_enter Try.func18, Try.ntmps18
  go_upto_region 3 with fail
  have hz1 := new_blk w (.cells #[.int .i64 p0, .int .i64 p1, .int .i64 p2, .int .i64 p3, .int .i64 p4, .int .i64 p5, .int .i64 p6, .int .i64 p7, .int .i64 p8, .bool p9, .int .i64 p10, .slice A1 p11.length c1, .slice A2 p12.length c2] 26)
  have HB1 := Aside0.mk ((Below.refl w.heap.size w).alloc (Nat.le_refl _) (.cells #[.int .i64 p0, .int .i64 p1, .int .i64 p2, .int .i64 p3, .int .i64 p4, .int .i64 p5, .int .i64 p6, .int .i64 p7, .int .i64 p8, .bool p9, .int .i64 p10, .slice A1 p11.length c1, .slice A2 p12.length c2] 26))
  generalize (w.alloc (.cells #[.int .i64 p0, .int .i64 p1, .int .i64 p2, .int .i64 p3, .int .i64 p4, .int .i64 p5, .int .i64 p6, .int .i64 p7, .int .i64 p8, .bool p9, .int .i64 p10, .slice A1 p11.length c1, .slice A2 p12.length c2] 26)) = w1 at hz1 HB1 ⊢
  have HZ1 := Aside0.mk hz1
  have k0 := (c13 hz1).1
  clear hz1
  refine start_ (n := 12) (S := fun w' => w'.cell? ⟨w.heap.size, 0, none⟩ = some (.int .i64 p0)) (ds := []) #[false, false, false, false, false, false, false, false, false, false, false, false] (by kernel_rfl) rfl rfl (k0) (fun hHeld => ?_)
  refine pure_ (i := 0) (N := some 18) (v := ?_) (a' := ?_) #[true, false, false, false, false, false, false, false, false, false, false, false] rfl rfl (by kernel_rfl) (fun _ _ _ h => h) (Or.inl ⟨by rfl, ?_⟩) ?_ ?_
  rotate_left
  · intro w'
    go_simp
    with_reducible rfl
  rotate_left
  · simp only [Act.put, List.setIfInBounds_toArray, List.set_cons_zero, List.set_cons_succ, i64_w, i32_w]
    rfl
  refine pure_ (i := 3) (N := some 21) (v := ?_) (a' := ?_) #[true, false, false, true, false, false, false, false, false, false, false, false] rfl rfl (by kernel_rfl) (fun _ _ _ h => h) (Or.inl ⟨by rfl, ?_⟩) ?_ ?_
  rotate_left
  · intro w'
    go_simp
    with_reducible rfl
  rotate_left
  · simp only [Act.put, List.setIfInBounds_toArray, List.set_cons_zero, List.set_cons_succ, i64_w, i32_w]
    rfl
  refine pure_ (i := 6) (N := some 24) (v := ?_) (a' := ?_) #[true, false, false, true, false, false, true, false, false, false, false, false] rfl rfl (by kernel_rfl) (fun _ _ _ h => h) (Or.inl ⟨by rfl, ?_⟩) ?_ ?_
  rotate_left
  · intro w'
    go_simp
    with_reducible rfl
  rotate_left
  · simp only [Act.put, List.setIfInBounds_toArray, List.set_cons_zero, List.set_cons_succ, i64_w, i32_w]
    rfl
  refine take_ (i := 1) (N := some 19) (v := ?_) (a' := ?_) #[true, true, false, true, false, false, true, false, false, false, false, false] rfl rfl (by kernel_rfl) (fun _ _ _ h => h) (Or.inl ⟨by rfl, ?_⟩) hHeld ?_ ?_
  rotate_left
  · intro w' s0
    go_simp
    with_reducible rfl
  rotate_left
  · simp only [Act.put, List.setIfInBounds_toArray, List.set_cons_zero, List.set_cons_succ, i64_w, i32_w]
    rfl
  refine pure_ (i := 2) (N := some 20) (v := ?_) (a' := ?_) #[true, true, true, true, false, false, true, false, false, false, false, false] rfl rfl (by kernel_rfl) (fun _ _ _ h => h) (Or.inl ⟨by rfl, ?_⟩) ?_ ?_
  rotate_left
  · intro w'
    go_simp
    with_reducible rfl
  rotate_left
  · simp only [Act.put, List.setIfInBounds_toArray, List.set_cons_zero, List.set_cons_succ, i64_w, i32_w]
    rfl
  refine pure_ (i := 9) (N := some 4) (v := ?_) (a' := ?_) #[true, true, true, true, false, false, true, false, false, true, false, false] rfl rfl (by kernel_rfl) (fun _ _ _ h => h) (Or.inl ⟨by rfl, ?_⟩) ?_ ?_
  rotate_left
  · intro w'
    go_simp
    with_reducible rfl
  rotate_left
  · simp only [Act.put, List.setIfInBounds_toArray, List.set_cons_zero, List.set_cons_succ, i64_w, i32_w]
    rfl
  refine take_ (i := 4) (N := some 22) (v := ?_) (a' := ?_) #[true, true, true, true, true, false, true, false, false, true, false, false] rfl rfl (by kernel_rfl) (fun _ _ _ h => h) (Or.inl ⟨by rfl, ?_⟩) hHeld ?_ ?_
  rotate_left
  · intro w' s0
    go_simp
    with_reducible rfl
  rotate_left
  · simp only [Act.put, List.setIfInBounds_toArray, List.set_cons_zero, List.set_cons_succ, i64_w, i32_w]
    rfl
  refine pure_ (i := 5) (N := some 23) (v := ?_) (a' := ?_) #[true, true, true, true, true, true, true, false, false, true, false, false] rfl rfl (by kernel_rfl) (fun _ _ _ h => h) (Or.inl ⟨by rfl, ?_⟩) ?_ ?_
  rotate_left
  · intro w'
    go_simp
    with_reducible rfl
  rotate_left
  · simp only [Act.put, List.setIfInBounds_toArray, List.set_cons_zero, List.set_cons_succ, i64_w, i32_w]
    rfl
  refine pure_ (i := 10) (N := some 5) (v := ?_) (a' := ?_) #[true, true, true, true, true, true, true, false, false, true, true, false] rfl rfl (by kernel_rfl) (fun _ _ _ h => h) (Or.inl ⟨by rfl, ?_⟩) ?_ ?_
  rotate_left
  · intro w'
    go_simp
    with_reducible rfl
  rotate_left
  · simp only [Act.put, List.setIfInBounds_toArray, List.set_cons_zero, List.set_cons_succ, i64_w, i32_w]
    rfl
  refine take_ (i := 7) (N := some 25) (v := ?_) (a' := ?_) #[true, true, true, true, true, true, true, true, false, true, true, false] rfl rfl (by kernel_rfl) (fun _ _ _ h => h) (Or.inl ⟨by rfl, ?_⟩) hHeld ?_ ?_
  rotate_left
  · intro w' s0
    go_simp
    with_reducible rfl
  rotate_left
  · simp only [Act.put, List.setIfInBounds_toArray, List.set_cons_zero, List.set_cons_succ, i64_w, i32_w]
    rfl
  refine pure_ (i := 8) (N := some 26) (v := ?_) (a' := ?_) #[true, true, true, true, true, true, true, true, true, true, true, false] rfl rfl (by kernel_rfl) (fun _ _ _ h => h) (Or.inl ⟨by rfl, ?_⟩) ?_ ?_
  rotate_left
  · intro w'
    go_simp
    with_reducible rfl
  rotate_left
  · simp only [Act.put, List.setIfInBounds_toArray, List.set_cons_zero, List.set_cons_succ, i64_w, i32_w]
    rfl
  refine pure_ (i := 11) (N := some 6) (v := ?_) (a' := ?_) #[true, true, true, true, true, true, true, true, true, true, true, true] rfl rfl (by kernel_rfl) (fun _ _ _ h => h) (Or.inl ⟨by rfl, ?_⟩) ?_ ?_
  rotate_left
  · intro w'
    go_simp
    with_reducible rfl
  rotate_left
  · simp only [Act.put, List.setIfInBounds_toArray, List.set_cons_zero, List.set_cons_succ, i64_w, i32_w]
    rfl
  refine done_ (by kernel_rfl) ?_
  clear hHeld k0 dk1 dk3
  obtain ⟨k0, k1, k2, k3, k4, k5, k6, k7, k8, k9, k10, k11, k12⟩ := c13 HZ1.out
  by_cases t1 : rgB p1 255 = false
  · have O1 := Aside0.mk (fun W => rout_b (b := true) (by rw [t1]; rfl) W)
    have hx_ : x = 14 := by
      have h_ := HE.out
      rw [if_pos (by rw [HO.out, t1]; simp)] at h_; exact h_
    subst hx_
    clear HE HO HX
    go_wp2_with (first | (go_at_call 40; (with_reducible refine (O1.out _).mono ?_); rintro e w5 ⟨rfl, ⟨⟨nd, rfl⟩⟩⟩))
    go_ret2
    exact ⟨rfl, (by repeat (first | with_reducible exact HB1.out | with_reducible apply pw_below_drewN))⟩
  have t1n : rgB p1 255 = true := by simpa using t1
  have O1 := Aside0.mk (fun W => rout_b (b := false) (by rw [t1n]; rfl) W)
  clear t1
  by_cases t2 : rgB p2 255 = false
  · have O2 := Aside0.mk (fun W => rout_b (b := true) (by rw [t2]; rfl) W)
    have hx_ : x = 14 := by
      have h_ := HE.out
      rw [if_pos (by rw [HO.out, t2]; simp)] at h_; exact h_
    subst hx_
    clear HE HO HX
    go_wp2_with (first | (go_at_call 40; (with_reducible refine (O1.out _).mono ?_); rintro e w5 ⟨rfl, ⟨⟨nd, rfl⟩⟩⟩) | (go_at_call 40; (with_reducible refine (O2.out _).mono ?_); rintro e w5 ⟨rfl, ⟨⟨nd, rfl⟩⟩⟩))
    go_ret2
    exact ⟨rfl, (by repeat (first | with_reducible exact HB1.out | with_reducible apply pw_below_drewN))⟩
  have t2n : rgB p2 255 = true := by simpa using t2
  have O2 := Aside0.mk (fun W => rout_b (b := false) (by rw [t2n]; rfl) W)
  clear t2
  by_cases t3 : rgB p3 4294967295 = false
  · have O3 := Aside0.mk (fun W => rout_b (b := true) (by rw [t3]; rfl) W)
    have hx_ : x = 14 := by
      have h_ := HE.out
      rw [if_pos (by rw [HO.out, t3]; simp)] at h_; exact h_
    subst hx_
    clear HE HO HX
    go_wp2_with (first | (go_at_call 40; (with_reducible refine (O1.out _).mono ?_); rintro e w5 ⟨rfl, ⟨⟨nd, rfl⟩⟩⟩) | (go_at_call 40; (with_reducible refine (O2.out _).mono ?_); rintro e w5 ⟨rfl, ⟨⟨nd, rfl⟩⟩⟩) | (go_at_call 40; (with_reducible refine (O3.out _).mono ?_); rintro e w5 ⟨rfl, ⟨⟨nd, rfl⟩⟩⟩))
    go_ret2
    exact ⟨rfl, (by repeat (first | with_reducible exact HB1.out | with_reducible apply pw_below_drewN))⟩
  have t3n : rgB p3 4294967295 = true := by simpa using t3
  have O3 := Aside0.mk (fun W => rout_b (b := false) (by rw [t3n]; rfl) W)
  clear t3
  by_cases t4 : rgB p4 4294967295 = false
  · have O4 := Aside0.mk (fun W => rout_b (b := true) (by rw [t4]; rfl) W)
    have hx_ : x = 14 := by
      have h_ := HE.out
      rw [if_pos (by rw [HO.out, t4]; simp)] at h_; exact h_
    subst hx_
    clear HE HO HX
    go_wp2_with (first | (go_at_call 40; (with_reducible refine (O1.out _).mono ?_); rintro e w5 ⟨rfl, ⟨⟨nd, rfl⟩⟩⟩) | (go_at_call 40; (with_reducible refine (O2.out _).mono ?_); rintro e w5 ⟨rfl, ⟨⟨nd, rfl⟩⟩⟩) | (go_at_call 40; (with_reducible refine (O3.out _).mono ?_); rintro e w5 ⟨rfl, ⟨⟨nd, rfl⟩⟩⟩) | (go_at_call 40; (with_reducible refine (O4.out _).mono ?_); rintro e w5 ⟨rfl, ⟨⟨nd, rfl⟩⟩⟩))
    go_ret2
    exact ⟨rfl, (by repeat (first | with_reducible exact HB1.out | with_reducible apply pw_below_drewN))⟩
  have t4n : rgB p4 4294967295 = true := by simpa using t4
  have O4 := Aside0.mk (fun W => rout_b (b := false) (by rw [t4n]; rfl) W)
  clear t4
  by_cases t5 : rgB p5 65535 = false
  · have O5 := Aside0.mk (fun W => rout_b (b := true) (by rw [t5]; rfl) W)
    have hx_ : x = 14 := by
      have h_ := HE.out
      rw [if_pos (by rw [HO.out, t5]; simp)] at h_; exact h_
    subst hx_
    clear HE HO HX
    go_wp2_with (first | (go_at_call 40; (with_reducible refine (O1.out _).mono ?_); rintro e w5 ⟨rfl, ⟨⟨nd, rfl⟩⟩⟩) | (go_at_call 40; (with_reducible refine (O2.out _).mono ?_); rintro e w5 ⟨rfl, ⟨⟨nd, rfl⟩⟩⟩) | (go_at_call 40; (with_reducible refine (O3.out _).mono ?_); rintro e w5 ⟨rfl, ⟨⟨nd, rfl⟩⟩⟩) | (go_at_call 40; (with_reducible refine (O4.out _).mono ?_); rintro e w5 ⟨rfl, ⟨⟨nd, rfl⟩⟩⟩) | (go_at_call 40; (with_reducible refine (O5.out _).mono ?_); rintro e w5 ⟨rfl, ⟨⟨nd, rfl⟩⟩⟩))
    go_ret2
    exact ⟨rfl, (by repeat (first | with_reducible exact HB1.out | with_reducible apply pw_below_drewN))⟩
  have t5n : rgB p5 65535 = true := by simpa using t5
  have O5 := Aside0.mk (fun W => rout_b (b := false) (by rw [t5n]; rfl) W)
  clear t5
  by_cases t6 : rgB p6 65535 = false
  · have O6 := Aside0.mk (fun W => rout_b (b := true) (by rw [t6]; rfl) W)
    have hx_ : x = 14 := by
      have h_ := HE.out
      rw [if_pos (by rw [HO.out, t6]; simp)] at h_; exact h_
    subst hx_
    clear HE HO HX
    go_wp2_with (first | (go_at_call 40; (with_reducible refine (O1.out _).mono ?_); rintro e w5 ⟨rfl, ⟨⟨nd, rfl⟩⟩⟩) | (go_at_call 40; (with_reducible refine (O2.out _).mono ?_); rintro e w5 ⟨rfl, ⟨⟨nd, rfl⟩⟩⟩) | (go_at_call 40; (with_reducible refine (O3.out _).mono ?_); rintro e w5 ⟨rfl, ⟨⟨nd, rfl⟩⟩⟩) | (go_at_call 40; (with_reducible refine (O4.out _).mono ?_); rintro e w5 ⟨rfl, ⟨⟨nd, rfl⟩⟩⟩) | (go_at_call 40; (with_reducible refine (O5.out _).mono ?_); rintro e w5 ⟨rfl, ⟨⟨nd, rfl⟩⟩⟩) | (go_at_call 40; (with_reducible refine (O6.out _).mono ?_); rintro e w5 ⟨rfl, ⟨⟨nd, rfl⟩⟩⟩))
    go_ret2
    exact ⟨rfl, (by repeat (first | with_reducible exact HB1.out | with_reducible apply pw_below_drewN))⟩
  have t6n : rgB p6 65535 = true := by simpa using t6
  have O6 := Aside0.mk (fun W => rout_b (b := false) (by rw [t6n]; rfl) W)
  clear t6
  by_cases t8 : rgB p8 65535 = false
  · have O8 := Aside0.mk (fun W => rout_b (b := true) (by rw [t8]; rfl) W)
    have hx_ : x = 14 := by
      have h_ := HE.out
      rw [if_pos (by rw [HO.out, t8]; simp)] at h_; exact h_
    subst hx_
    clear HE HO HX
    go_wp2_with (first | (go_at_call 40; (with_reducible refine (O1.out _).mono ?_); rintro e w5 ⟨rfl, ⟨⟨nd, rfl⟩⟩⟩) | (go_at_call 40; (with_reducible refine (O2.out _).mono ?_); rintro e w5 ⟨rfl, ⟨⟨nd, rfl⟩⟩⟩) | (go_at_call 40; (with_reducible refine (O3.out _).mono ?_); rintro e w5 ⟨rfl, ⟨⟨nd, rfl⟩⟩⟩) | (go_at_call 40; (with_reducible refine (O4.out _).mono ?_); rintro e w5 ⟨rfl, ⟨⟨nd, rfl⟩⟩⟩) | (go_at_call 40; (with_reducible refine (O5.out _).mono ?_); rintro e w5 ⟨rfl, ⟨⟨nd, rfl⟩⟩⟩) | (go_at_call 40; (with_reducible refine (O6.out _).mono ?_); rintro e w5 ⟨rfl, ⟨⟨nd, rfl⟩⟩⟩) | (go_at_call 40; (with_reducible refine (O8.out _).mono ?_); rintro e w5 ⟨rfl, ⟨⟨nd, rfl⟩⟩⟩))
    go_ret2
    exact ⟨rfl, (by repeat (first | with_reducible exact HB1.out | with_reducible apply pw_below_drewN))⟩
  have t8n : rgB p8 65535 = true := by simpa using t8
  have O8 := Aside0.mk (fun W => rout_b (b := false) (by rw [t8n]; rfl) W)
  clear t8
  have hok : ¬ okR ⟨p0, p1, p2, p3, p4, p5, p6, p7, p8, p9, p10, p11, p12⟩ = false := by rw [HO.out]; simp [t1n, t2n, t3n, t4n, t5n, t6n, t8n]
  have HOK := Aside0.mk hok
  clear hok t1n t2n t3n t4n t5n t6n t8n
  by_cases tl : 1500 < 24 + p12.length
  · skip
    have dlim : decide (1500 < wrap64 (24 + (p12.length : Int))) = true := decide_eq_true (by have := HLA.out; have := HLD.out; rw [wid (by omega) (by omega)]; omega)
    have hx_ : x = 3 := by
      have h_ := HE.out
      rw [if_neg HOK.out, if_neg (by have := HK.out; omega), if_pos (Or.inr (by rw [if_neg (by have := HK.out; omega), if_neg (by have := HK.out; omega)]; exact tl))] at h_; exact h_
    subst hx_
    clear tl HE HO HX
    go_wp2_with (first | (go_at_call 40; (with_reducible refine (O1.out _).mono ?_); rintro e w5 ⟨rfl, ⟨⟨nd, rfl⟩⟩⟩) | (go_at_call 40; (with_reducible refine (O2.out _).mono ?_); rintro e w5 ⟨rfl, ⟨⟨nd, rfl⟩⟩⟩) | (go_at_call 40; (with_reducible refine (O3.out _).mono ?_); rintro e w5 ⟨rfl, ⟨⟨nd, rfl⟩⟩⟩) | (go_at_call 40; (with_reducible refine (O4.out _).mono ?_); rintro e w5 ⟨rfl, ⟨⟨nd, rfl⟩⟩⟩) | (go_at_call 40; (with_reducible refine (O5.out _).mono ?_); rintro e w5 ⟨rfl, ⟨⟨nd, rfl⟩⟩⟩) | (go_at_call 40; (with_reducible refine (O6.out _).mono ?_); rintro e w5 ⟨rfl, ⟨⟨nd, rfl⟩⟩⟩) | (go_at_call 40; (with_reducible refine (O8.out _).mono ?_); rintro e w5 ⟨rfl, ⟨⟨nd, rfl⟩⟩⟩))
    go_ret2
    exact ⟨rfl, (by repeat (first | with_reducible exact HB1.out | with_reducible apply pw_below_drewN))⟩
  · exact absurd (by have h_ := HE.out; rw [if_neg HOK.out, if_neg (by have := HK.out; omega), if_neg (show ¬ p0 = 1 by have := HK.out; omega), if_neg (show ¬ p0 = 3 by have := HK.out; omega), if_neg (by have := HK.out; omega)] at h_; exact h_) HX.out
set_option maxHeartbeats 8000000 in
set_option maxRecDepth 100000 in
theorem rbuild_err_fault {A1 A2 : Option Addr} {c1 c2 : Nat} {p0 p1 p2 p3 p4 p5 p6 p7 p8 : Int} {p9 : Bool} {p10 : Int} {p11 p12 : List Int} {w : World} (ha : Kd.C (Kd.int .u8) w A1 p11.length p11) (hca : p11.length ≤ c1) (hd : Kd.C (Kd.int .u8) w A2 p12.length p12) (hcd : p12.length ≤ c2) (hba : Bytes p11) (hbd : Bytes p12) (hla : p11.length ≤ 100000) (hld : p12.length ≤ 100000) (hk : p0 = 3) {x : Int} (he : buildE ⟨p0, p1, p2, p3, p4, p5, p6, p7, p8, p9, p10, p11, p12⟩ = x) (hx : x ≠ 0) :
    Calls Try.prog 18 #[.agg #[.int .i64 p0, .int .i64 p1, .int .i64 p2, .int .i64 p3, .int .i64 p4, .int .i64 p5, .int .i64 p6, .int .i64 p7, .int .i64 p8, .bool p9, .int .i64 p10, .slice A1 p11.length c1, .slice A2 p12.length c2]] w fun e w' => e = .returned (.tuple #[.slice none 0 0, .int .i64 x]) ∧ Below w.heap.size w w' := by
  have hE : buildE ⟨p0, p1, p2, p3, p4, p5, p6, p7, p8, p9, p10, p11, p12⟩ = (if ¬ (1 ≤ p0 ∧ p0 ≤ 3) then 2 else if okR ⟨p0, p1, p2, p3, p4, p5, p6, p7, p8, p9, p10, p11, p12⟩ = false then 14 else if p0 = 1 ∧ 40 < p11.length then 5 else if (p0 = 3 ∧ p12.length < 24) ∨ 1500 < (if p0 = 1 then 24 + p12.length + p11.length else if p0 = 3 then 20 + p12.length else 24 + p12.length) then 3 else 0) := rfl
  rw [he, if_neg (by omega)] at hE
  have hO : okR ⟨p0, p1, p2, p3, p4, p5, p6, p7, p8, p9, p10, p11, p12⟩ = (rgB p1 255 && rgB p2 255 && rgB p3 4294967295 && rgB p4 4294967295 && (if p0 = 3 then rgB p10 255 else rgB p5 65535 && rgB p6 65535 && (if p0 = 2 then rgB p8 65535 else rgB p7 15))) := rfl
  rw [if_pos hk] at hO
  have HE := Aside0.mk hE
  have HO := Aside0.mk hO
  have HK := Aside0.mk hk
  have HX := Aside0.mk hx
  have HLA := Aside0.mk hla
  have HLD := Aside0.mk hld
  have dk1 : decide (p0 < 1) = false := decide_eq_false (by omega)
  have dk3 : decide (3 < p0) = false := decide_eq_false (by omega)
  have q1 : (p0 == 1) = false := by rw [hk]; rfl
  have q1n : (p0 != 1) = true := by rw [hk]; rfl
  have q2 : (p0 == 2) = false := by rw [hk]; rfl
  have q2n : (p0 != 2) = true := by rw [hk]; rfl
  have q3 : (p0 == 3) = true := by rw [hk]; rfl
  have q3n : (p0 != 3) = false := by rw [hk]; rfl
  clear ha hd hba hbd hca hcd hE hO he hx hk hla hld
  go_enter Try.func18, Try.ntmps18
  go_upto_region 3 with fail
  have hz1 := new_blk w (.cells #[.int .i64 p0, .int .i64 p1, .int .i64 p2, .int .i64 p3, .int .i64 p4, .int .i64 p5, .int .i64 p6, .int .i64 p7, .int .i64 p8, .bool p9, .int .i64 p10, .slice A1 p11.length c1, .slice A2 p12.length c2] 26)
  have HB1 := Aside0.mk ((Below.refl w.heap.size w).alloc (Nat.le_refl _) (.cells #[.int .i64 p0, .int .i64 p1, .int .i64 p2, .int .i64 p3, .int .i64 p4, .int .i64 p5, .int .i64 p6, .int .i64 p7, .int .i64 p8, .bool p9, .int .i64 p10, .slice A1 p11.length c1, .slice A2 p12.length c2] 26))
  generalize (w.alloc (.cells #[.int .i64 p0, .int .i64 p1, .int .i64 p2, .int .i64 p3, .int .i64 p4, .int .i64 p5, .int .i64 p6, .int .i64 p7, .int .i64 p8, .bool p9, .int .i64 p10, .slice A1 p11.length c1, .slice A2 p12.length c2] 26)) = w1 at hz1 HB1 ⊢
  have HZ1 := Aside0.mk hz1
  have k0 := (c13 hz1).1
  clear hz1
  refine start_ (n := 12) (S := fun w' => w'.cell? ⟨w.heap.size, 0, none⟩ = some (.int .i64 p0)) (ds := []) #[false, false, false, false, false, false, false, false, false, false, false, false] (by kernel_rfl) rfl rfl (k0) (fun hHeld => ?_)
  refine pure_ (i := 0) (N := some 18) (v := ?_) (a' := ?_) #[true, false, false, false, false, false, false, false, false, false, false, false] rfl rfl (by kernel_rfl) (fun _ _ _ h => h) (Or.inl ⟨by rfl, ?_⟩) ?_ ?_
  rotate_left
  · intro w'
    go_simp
    with_reducible rfl
  rotate_left
  · simp only [Act.put, List.setIfInBounds_toArray, List.set_cons_zero, List.set_cons_succ, i64_w, i32_w]
    rfl
  refine pure_ (i := 3) (N := some 21) (v := ?_) (a' := ?_) #[true, false, false, true, false, false, false, false, false, false, false, false] rfl rfl (by kernel_rfl) (fun _ _ _ h => h) (Or.inl ⟨by rfl, ?_⟩) ?_ ?_
  rotate_left
  · intro w'
    go_simp
    with_reducible rfl
  rotate_left
  · simp only [Act.put, List.setIfInBounds_toArray, List.set_cons_zero, List.set_cons_succ, i64_w, i32_w]
    rfl
  refine pure_ (i := 6) (N := some 24) (v := ?_) (a' := ?_) #[true, false, false, true, false, false, true, false, false, false, false, false] rfl rfl (by kernel_rfl) (fun _ _ _ h => h) (Or.inl ⟨by rfl, ?_⟩) ?_ ?_
  rotate_left
  · intro w'
    go_simp
    with_reducible rfl
  rotate_left
  · simp only [Act.put, List.setIfInBounds_toArray, List.set_cons_zero, List.set_cons_succ, i64_w, i32_w]
    rfl
  refine take_ (i := 1) (N := some 19) (v := ?_) (a' := ?_) #[true, true, false, true, false, false, true, false, false, false, false, false] rfl rfl (by kernel_rfl) (fun _ _ _ h => h) (Or.inl ⟨by rfl, ?_⟩) hHeld ?_ ?_
  rotate_left
  · intro w' s0
    go_simp
    with_reducible rfl
  rotate_left
  · simp only [Act.put, List.setIfInBounds_toArray, List.set_cons_zero, List.set_cons_succ, i64_w, i32_w]
    rfl
  refine pure_ (i := 2) (N := some 20) (v := ?_) (a' := ?_) #[true, true, true, true, false, false, true, false, false, false, false, false] rfl rfl (by kernel_rfl) (fun _ _ _ h => h) (Or.inl ⟨by rfl, ?_⟩) ?_ ?_
  rotate_left
  · intro w'
    go_simp
    with_reducible rfl
  rotate_left
  · simp only [Act.put, List.setIfInBounds_toArray, List.set_cons_zero, List.set_cons_succ, i64_w, i32_w]
    rfl
  refine pure_ (i := 9) (N := some 4) (v := ?_) (a' := ?_) #[true, true, true, true, false, false, true, false, false, true, false, false] rfl rfl (by kernel_rfl) (fun _ _ _ h => h) (Or.inl ⟨by rfl, ?_⟩) ?_ ?_
  rotate_left
  · intro w'
    go_simp
    with_reducible rfl
  rotate_left
  · simp only [Act.put, List.setIfInBounds_toArray, List.set_cons_zero, List.set_cons_succ, i64_w, i32_w]
    rfl
  refine take_ (i := 4) (N := some 22) (v := ?_) (a' := ?_) #[true, true, true, true, true, false, true, false, false, true, false, false] rfl rfl (by kernel_rfl) (fun _ _ _ h => h) (Or.inl ⟨by rfl, ?_⟩) hHeld ?_ ?_
  rotate_left
  · intro w' s0
    go_simp
    with_reducible rfl
  rotate_left
  · simp only [Act.put, List.setIfInBounds_toArray, List.set_cons_zero, List.set_cons_succ, i64_w, i32_w]
    rfl
  refine pure_ (i := 5) (N := some 23) (v := ?_) (a' := ?_) #[true, true, true, true, true, true, true, false, false, true, false, false] rfl rfl (by kernel_rfl) (fun _ _ _ h => h) (Or.inl ⟨by rfl, ?_⟩) ?_ ?_
  rotate_left
  · intro w'
    go_simp
    with_reducible rfl
  rotate_left
  · simp only [Act.put, List.setIfInBounds_toArray, List.set_cons_zero, List.set_cons_succ, i64_w, i32_w]
    rfl
  refine pure_ (i := 10) (N := some 5) (v := ?_) (a' := ?_) #[true, true, true, true, true, true, true, false, false, true, true, false] rfl rfl (by kernel_rfl) (fun _ _ _ h => h) (Or.inl ⟨by rfl, ?_⟩) ?_ ?_
  rotate_left
  · intro w'
    go_simp
    with_reducible rfl
  rotate_left
  · simp only [Act.put, List.setIfInBounds_toArray, List.set_cons_zero, List.set_cons_succ, i64_w, i32_w]
    rfl
  refine take_ (i := 7) (N := some 25) (v := ?_) (a' := ?_) #[true, true, true, true, true, true, true, true, false, true, true, false] rfl rfl (by kernel_rfl) (fun _ _ _ h => h) (Or.inl ⟨by rfl, ?_⟩) hHeld ?_ ?_
  rotate_left
  · intro w' s0
    go_simp
    with_reducible rfl
  rotate_left
  · simp only [Act.put, List.setIfInBounds_toArray, List.set_cons_zero, List.set_cons_succ, i64_w, i32_w]
    rfl
  refine pure_ (i := 8) (N := some 26) (v := ?_) (a' := ?_) #[true, true, true, true, true, true, true, true, true, true, true, false] rfl rfl (by kernel_rfl) (fun _ _ _ h => h) (Or.inl ⟨by rfl, ?_⟩) ?_ ?_
  rotate_left
  · intro w'
    go_simp
    with_reducible rfl
  rotate_left
  · simp only [Act.put, List.setIfInBounds_toArray, List.set_cons_zero, List.set_cons_succ, i64_w, i32_w]
    rfl
  refine pure_ (i := 11) (N := some 6) (v := ?_) (a' := ?_) #[true, true, true, true, true, true, true, true, true, true, true, true] rfl rfl (by kernel_rfl) (fun _ _ _ h => h) (Or.inl ⟨by rfl, ?_⟩) ?_ ?_
  rotate_left
  · intro w'
    go_simp
    with_reducible rfl
  rotate_left
  · simp only [Act.put, List.setIfInBounds_toArray, List.set_cons_zero, List.set_cons_succ, i64_w, i32_w]
    rfl
  refine done_ (by kernel_rfl) ?_
  clear hHeld k0 dk1 dk3
  obtain ⟨k0, k1, k2, k3, k4, k5, k6, k7, k8, k9, k10, k11, k12⟩ := c13 HZ1.out
  by_cases t1 : rgB p1 255 = false
  · have O1 := Aside0.mk (fun W => rout_b (b := true) (by rw [t1]; rfl) W)
    have hx_ : x = 14 := by
      have h_ := HE.out
      rw [if_pos (by rw [HO.out, t1]; simp)] at h_; exact h_
    subst hx_
    clear HE HO HX
    go_wp2_with (first | (go_at_call 40; (with_reducible refine (O1.out _).mono ?_); rintro e w5 ⟨rfl, ⟨⟨nd, rfl⟩⟩⟩))
    go_ret2
    exact ⟨rfl, (by repeat (first | with_reducible exact HB1.out | with_reducible apply pw_below_drewN))⟩
  have t1n : rgB p1 255 = true := by simpa using t1
  have O1 := Aside0.mk (fun W => rout_b (b := false) (by rw [t1n]; rfl) W)
  clear t1
  by_cases t2 : rgB p2 255 = false
  · have O2 := Aside0.mk (fun W => rout_b (b := true) (by rw [t2]; rfl) W)
    have hx_ : x = 14 := by
      have h_ := HE.out
      rw [if_pos (by rw [HO.out, t2]; simp)] at h_; exact h_
    subst hx_
    clear HE HO HX
    go_wp2_with (first | (go_at_call 40; (with_reducible refine (O1.out _).mono ?_); rintro e w5 ⟨rfl, ⟨⟨nd, rfl⟩⟩⟩) | (go_at_call 40; (with_reducible refine (O2.out _).mono ?_); rintro e w5 ⟨rfl, ⟨⟨nd, rfl⟩⟩⟩))
    go_ret2
    exact ⟨rfl, (by repeat (first | with_reducible exact HB1.out | with_reducible apply pw_below_drewN))⟩
  have t2n : rgB p2 255 = true := by simpa using t2
  have O2 := Aside0.mk (fun W => rout_b (b := false) (by rw [t2n]; rfl) W)
  clear t2
  by_cases t10 : rgB p10 255 = false
  · have O10 := Aside0.mk (fun W => rout_b (b := true) (by rw [t10]; rfl) W)
    have hx_ : x = 14 := by
      have h_ := HE.out
      rw [if_pos (by rw [HO.out, t10]; simp)] at h_; exact h_
    subst hx_
    clear HE HO HX
    go_wp2_with (first | (go_at_call 40; (with_reducible refine (O1.out _).mono ?_); rintro e w5 ⟨rfl, ⟨⟨nd, rfl⟩⟩⟩) | (go_at_call 40; (with_reducible refine (O2.out _).mono ?_); rintro e w5 ⟨rfl, ⟨⟨nd, rfl⟩⟩⟩) | (go_at_call 40; (with_reducible refine (O10.out _).mono ?_); rintro e w5 ⟨rfl, ⟨⟨nd, rfl⟩⟩⟩))
    go_ret2
    exact ⟨rfl, (by repeat (first | with_reducible exact HB1.out | with_reducible apply pw_below_drewN))⟩
  have t10n : rgB p10 255 = true := by simpa using t10
  have O10 := Aside0.mk (fun W => rout_b (b := false) (by rw [t10n]; rfl) W)
  clear t10
  by_cases t3 : rgB p3 4294967295 = false
  · have O3 := Aside0.mk (fun W => rout_b (b := true) (by rw [t3]; rfl) W)
    have hx_ : x = 14 := by
      have h_ := HE.out
      rw [if_pos (by rw [HO.out, t3]; simp)] at h_; exact h_
    subst hx_
    clear HE HO HX
    go_wp2_with (first | (go_at_call 40; (with_reducible refine (O1.out _).mono ?_); rintro e w5 ⟨rfl, ⟨⟨nd, rfl⟩⟩⟩) | (go_at_call 40; (with_reducible refine (O2.out _).mono ?_); rintro e w5 ⟨rfl, ⟨⟨nd, rfl⟩⟩⟩) | (go_at_call 40; (with_reducible refine (O10.out _).mono ?_); rintro e w5 ⟨rfl, ⟨⟨nd, rfl⟩⟩⟩) | (go_at_call 40; (with_reducible refine (O3.out _).mono ?_); rintro e w5 ⟨rfl, ⟨⟨nd, rfl⟩⟩⟩))
    go_ret2
    exact ⟨rfl, (by repeat (first | with_reducible exact HB1.out | with_reducible apply pw_below_drewN))⟩
  have t3n : rgB p3 4294967295 = true := by simpa using t3
  have O3 := Aside0.mk (fun W => rout_b (b := false) (by rw [t3n]; rfl) W)
  clear t3
  by_cases t4 : rgB p4 4294967295 = false
  · have O4 := Aside0.mk (fun W => rout_b (b := true) (by rw [t4]; rfl) W)
    have hx_ : x = 14 := by
      have h_ := HE.out
      rw [if_pos (by rw [HO.out, t4]; simp)] at h_; exact h_
    subst hx_
    clear HE HO HX
    go_wp2_with (first | (go_at_call 40; (with_reducible refine (O1.out _).mono ?_); rintro e w5 ⟨rfl, ⟨⟨nd, rfl⟩⟩⟩) | (go_at_call 40; (with_reducible refine (O2.out _).mono ?_); rintro e w5 ⟨rfl, ⟨⟨nd, rfl⟩⟩⟩) | (go_at_call 40; (with_reducible refine (O10.out _).mono ?_); rintro e w5 ⟨rfl, ⟨⟨nd, rfl⟩⟩⟩) | (go_at_call 40; (with_reducible refine (O3.out _).mono ?_); rintro e w5 ⟨rfl, ⟨⟨nd, rfl⟩⟩⟩) | (go_at_call 40; (with_reducible refine (O4.out _).mono ?_); rintro e w5 ⟨rfl, ⟨⟨nd, rfl⟩⟩⟩))
    go_ret2
    exact ⟨rfl, (by repeat (first | with_reducible exact HB1.out | with_reducible apply pw_below_drewN))⟩
  have t4n : rgB p4 4294967295 = true := by simpa using t4
  have O4 := Aside0.mk (fun W => rout_b (b := false) (by rw [t4n]; rfl) W)
  clear t4
  have hok : ¬ okR ⟨p0, p1, p2, p3, p4, p5, p6, p7, p8, p9, p10, p11, p12⟩ = false := by rw [HO.out]; simp [t1n, t2n, t10n, t3n, t4n]
  have HOK := Aside0.mk hok
  clear hok t1n t2n t10n t3n t4n
  by_cases t24 : p12.length < 24
  · have ddat : decide ((p12.length : Int) < 24) = true := decide_eq_true (by omega)
    have ddatn : decide (p12.length < 24) = true := decide_eq_true t24
    have hx_ : x = 3 := by
      have h_ := HE.out
      rw [if_neg HOK.out, if_neg (by have := HK.out; omega), if_pos (Or.inl ⟨HK.out, t24⟩)] at h_; exact h_
    subst hx_
    clear t24 HE HO HX
    go_wp2_with (first | (go_at_call 40; (with_reducible refine (O1.out _).mono ?_); rintro e w5 ⟨rfl, ⟨⟨nd, rfl⟩⟩⟩) | (go_at_call 40; (with_reducible refine (O2.out _).mono ?_); rintro e w5 ⟨rfl, ⟨⟨nd, rfl⟩⟩⟩) | (go_at_call 40; (with_reducible refine (O10.out _).mono ?_); rintro e w5 ⟨rfl, ⟨⟨nd, rfl⟩⟩⟩) | (go_at_call 40; (with_reducible refine (O3.out _).mono ?_); rintro e w5 ⟨rfl, ⟨⟨nd, rfl⟩⟩⟩) | (go_at_call 40; (with_reducible refine (O4.out _).mono ?_); rintro e w5 ⟨rfl, ⟨⟨nd, rfl⟩⟩⟩))
    go_ret2
    exact ⟨rfl, (by repeat (first | with_reducible exact HB1.out | with_reducible apply pw_below_drewN))⟩
  have ddat : decide ((p12.length : Int) < 24) = false := decide_eq_false (by omega)
  have ddatn : decide (p12.length < 24) = false := decide_eq_false t24
  by_cases tl : 1500 < 20 + p12.length
  · skip
    have dlim : decide (1500 < wrap64 (20 + (p12.length : Int))) = true := decide_eq_true (by have := HLA.out; have := HLD.out; rw [wid (by omega) (by omega)]; omega)
    have hx_ : x = 3 := by
      have h_ := HE.out
      rw [if_neg HOK.out, if_neg (by have := HK.out; omega), if_pos (Or.inr (by rw [if_neg (by have := HK.out; omega), if_pos HK.out]; exact tl))] at h_; exact h_
    subst hx_
    clear t24 tl HE HO HX
    go_wp2_with (first | (go_at_call 40; (with_reducible refine (O1.out _).mono ?_); rintro e w5 ⟨rfl, ⟨⟨nd, rfl⟩⟩⟩) | (go_at_call 40; (with_reducible refine (O2.out _).mono ?_); rintro e w5 ⟨rfl, ⟨⟨nd, rfl⟩⟩⟩) | (go_at_call 40; (with_reducible refine (O10.out _).mono ?_); rintro e w5 ⟨rfl, ⟨⟨nd, rfl⟩⟩⟩) | (go_at_call 40; (with_reducible refine (O3.out _).mono ?_); rintro e w5 ⟨rfl, ⟨⟨nd, rfl⟩⟩⟩) | (go_at_call 40; (with_reducible refine (O4.out _).mono ?_); rintro e w5 ⟨rfl, ⟨⟨nd, rfl⟩⟩⟩))
    go_ret2
    exact ⟨rfl, (by repeat (first | with_reducible exact HB1.out | with_reducible apply pw_below_drewN))⟩
  · exact absurd (by have h_ := HE.out; rw [if_neg HOK.out, if_neg (by have := HK.out; omega), if_neg (show ¬ p0 = 1 by have := HK.out; omega), if_pos HK.out, if_neg (by have := HK.out; omega)] at h_; exact h_) HX.out
theorem rbuild_all {p : Pk} {A1 A2 : Option Addr} {c1 c2 : Nat} {w : World} (ha : Kd.C (Kd.int .u8) w A1 p.opts.length p.opts) (hca : p.opts.length ≤ c1) (hd : Kd.C (Kd.int .u8) w A2 p.data.length p.data) (hcd : p.data.length ≤ c2) (hba : Bytes p.opts) (hbd : Bytes p.data) (hla : p.opts.length ≤ 100000) (hld : p.data.length ≤ 100000) :
    Calls Try.prog 18 #[pkV p (.slice A1 p.opts.length c1) (.slice A2 p.data.length c2)] w (Built w p) := by
  by_cases he : buildE p = 0
  · exact rbuild_calls ha hca hd hcd hba hbd he
  obtain ⟨x, hx⟩ : ∃ x, buildE p = x := ⟨_, rfl⟩
  rw [hx] at he
  obtain ⟨p0, p1, p2, p3, p4, p5, p6, p7, p8, p9, p10, p11, p12⟩ := p
  dsimp only at ha hca hd hcd hba hbd hla hld
  by_cases hk : 1 ≤ p0 ∧ p0 ≤ 3
  · have hkk : p0 = 1 ∨ p0 = 2 ∨ p0 = 3 := by omega
    rcases hkk with h | h | h
    · exact (rbuild_err_stream ha hca hd hcd hba hbd hla hld h hx he).mono fun _ _ h => built_err hx he h
    · exact (rbuild_err_gram ha hca hd hcd hba hbd hla hld h hx he).mono fun _ _ h => built_err hx he h
    · exact (rbuild_err_fault ha hca hd hcd hba hbd hla hld h hx he).mono fun _ _ h => built_err hx he h
  · have h2 : buildE ⟨p0, p1, p2, p3, p4, p5, p6, p7, p8, p9, p10, p11, p12⟩ = 2 := by unfold buildE; rw [if_pos hk]
    exact (rbuild_ekind ha hca hd hcd hba hbd hk).mono fun _ _ h => built_err h2 (by decide) h
end Go.Proofs.Ytbjhmifhmojaoaa.WB

namespace Go.Proofs.Ytbjhmifhmojaoaa.PL
set_option linter.unusedVariables false
set_option linter.unusedSimpArgs false
open Go.RowKit Go.Proofs.Ytbjhmifhmojaoaa.Hp Go.Proofs.Ytbjhmifhmojaoaa.SB Go.Proofs.YtbjhmifhmojaoaaW.PrintWords Go.Proofs.YtbjhmifhmojaoaaW.PrintLast Go.Proofs.YtbjhmifhmojaoaaW.PrintMore Go.Proofs.Ytbjhmifhmojaoaa.WB
theorem bytes_zeros (n : Nat) : Bytes (List.replicate n 0) := by intro x hx; have := List.eq_of_mem_replicate hx; omega
theorem built_at {W0 : World} {p : Pk} {A1 A2 : Option Addr} {c1 c2 : Nat} {f : Nat} (hc : ∀ W, Kd.C (Kd.int .u8) W A1 p.opts.length p.opts → Kd.C (Kd.int .u8) W A2 p.data.length p.data → Calls Try.prog f #[pkV p (.slice A1 p.opts.length c1) (.slice A2 p.data.length c2)] W (Built W p)) (h1 : Rw W0 A1 c1 p.opts) (h2 : Rw W0 A2 c2 p.data) {x : Int} {y : List Int} (hx : buildE p = x) (hy : (if buildE p = 0 then buildL p else []) = y) : ∀ W, Below W0.heap.size W0 W →
    Calls Try.prog f #[.agg #[.int .i64 p.kind, .int .i64 p.life, .int .i64 p.piece, .int .i64 p.frm, .int .i64 p.dst, .int .i64 p.fp, .int .i64 p.tp, .int .i64 p.flags, .int .i64 p.label, .bool p.bare, .int .i64 p.code, .slice A1 p.opts.length c1, .slice A2 p.data.length c2]] W fun e w' => ∃ (A : Option Addr) (c : Nat), e = .returned (.tuple #[.slice A y.length c, .int .i64 x]) ∧ RB W0.heap.size w' (.slice A y.length c) y ∧ Below W0.heap.size W0 w' := by
  intro W h
  refine (hc W (h1.below h).rd (h2.below h).rd).mono ?_
  rintro e w' ⟨v, rfl, hr, hb⟩
  rw [hy] at hr
  rw [hx]
  exact told_at h ⟨v, rfl, hr, hb⟩

set_option maxHeartbeats 8000000 in
set_option maxRecDepth 100000 in
theorem WireBuilds_walk (a0 : Int) (a1 : Option Addr) (len1 cap1 : Nat) (z1 : List Int) (a2 : Option Addr) (len2 cap2 : Nat) (z2 : List Int) (a3 : Int) (a4 : Int) (a5 : Int) (w : World) (w0 : (Lit.int .i64 a0).wf = true) (w1 : (a1 = none ∧ len1 = 0 ∧ cap1 = 0 ∧ z1 = []) ∨ ∃ x, a1 = some x ∧ len1 ≤ cap1 ∧ cap1 ≤ maxLen ∧ z1.length = cap1 ∧ (∀ j, j < z1.length → w.cell? (x.add j) = some (.int .i64 (z1.getD j 0))) ∧ ∀ n ∈ z1, (Lit.int .i64 n).wf = true) (y1 : len1 * 8 ≤ 140737488351232) (w2 : (a2 = none ∧ len2 = 0 ∧ cap2 = 0 ∧ z2 = []) ∨ ∃ x, a2 = some x ∧ len2 ≤ cap2 ∧ cap2 ≤ maxLen ∧ z2.length = cap2 ∧ (∀ j, j < z2.length → w.cell? (x.add j) = some (.int .u8 (z2.getD j 0))) ∧ ∀ n ∈ z2, (Lit.int .u8 n).wf = true) (y2 : len2 * 1 ≤ 140737488351232) (w3 : (Lit.int .i64 a3).wf = true) (w4 : (Lit.int .i64 a4).wf = true) (w5 : (Lit.int .i64 a5).wf = true) :
    Calls Try.prog 5 #[.int .i64 a0, .slice a1 len1 cap1, .slice a2 len2 cap2, .int .i64 a3, .int .i64 a4, .int .i64 a5] w fun e w' => e = .returned (.bool true) ∧ Below w.heap.size w w' := by
  have HA0 := Aside0.mk w0
  clear w0
  obtain ⟨ns1, rfl, hr1, hm1, hw1, hc1⟩ := ReadsInt.ofRowC w1
  have HN1 := Aside0.mk (And.intro (show Kd.C (Kd.int .i64) w a1 ns1.length ns1 from Kd.C_of_reads (d := (0 : Int)) (h1 := fun _ => rfl) hr1) hc1)
  have HW1 := Aside0.mk hw1
  have HS1 := Aside0.mk y1
  clear hr1 hm1 hw1 hc1 w1 y1
  obtain ⟨l2, rfl, hr2, hm2, hw2, hc2⟩ := ReadsInt.ofRowC w2
  have HR2 := Aside0.mk (⟨Kd.C_of_reads (d := (0 : Int)) (h1 := fun _ => rfl) hr2, hc2⟩ : Rw w a2 cap2 l2)
  have HY2 := Aside0.mk (bytes_of_wf hw2)
  have HS2 := Aside0.mk y2
  clear hr2 hm2 hw2 hc2 w2 y2
  have HA3 := Aside0.mk w3
  clear w3
  have HA4 := Aside0.mk w4
  clear w4
  have HA5 := Aside0.mk w5
  clear w5
  obtain ⟨p, hp⟩ : ∃ p, makeP a0 ns1 l2 = p := ⟨_, rfl⟩
  have HMK := Aside0.mk (show MkOk p ∧ p.kind = 1 + a0 % 3 from by rw [← hp]; exact makeP_ok a0 HY2.out)
  have HMP := Aside0.mk hp
  have KN := Aside0.mk (known_calls w)
  clear hp
  go_enter Try.func5, Try.ntmps5
  go_upto_region 3 with (first | (go_at_call 15; (with_reducible refine KN.out.mono ?_); rintro e w0 ⟨rfl, hb0⟩; have HB0 := Aside0.mk hb0; clear hb0))
  have CM := Aside0.mk (make_at (W0 := w0) a0 (Kd.C_below HN1.out.1 HB0.out) rfl HN1.out.2 (by have := HS1.out; omega) (HR2.out.below HB0.out) rfl (by have := HS2.out; omega) HY2.out HMP.out)
  go_upto_region 4 with (first | (go_at_call 16; (with_reducible refine (CM.out _ ?hb).mono ?_); (case hb => (repeat (first | with_reducible assumption | with_reducible exact Below.refl _ _ | with_reducible apply below_alloc | with_reducible apply pw_below_drewN | with_reducible apply below_drew1))); rintro e w1 ⟨A1, c1, A2, c2, rfl, h1, h2, h3, hb1⟩; have HB01 := Aside0.mk hb1; have HB1 := Aside0.mk (below_step HB0.out hb1); have HO1 := Aside0.mk h1; have HD1 := Aside0.mk h2; have HSEP := Aside0.mk h3; clear h1 h2 h3 hb1))
  change Code.wp _ _ _ _ (w1.alloc (.cells #[.int .i64 p.kind, .int .i64 p.life, .int .i64 p.piece, .int .i64 p.frm, .int .i64 p.dst, .int .i64 p.fp, .int .i64 p.tp, .int .i64 p.flags, .int .i64 p.label, .bool p.bare, .int .i64 p.code, .slice A1 p.opts.length c1, .slice A2 p.data.length c2] 26))
  have hba := below_alloc (Below.refl w1.heap.size w1) (.cells #[.int .i64 p.kind, .int .i64 p.life, .int .i64 p.piece, .int .i64 p.frm, .int .i64 p.dst, .int .i64 p.fp, .int .i64 p.tp, .int .i64 p.flags, .int .i64 p.label, .bool p.bare, .int .i64 p.code, .slice A1 p.opts.length c1, .slice A2 p.data.length c2] 26)
  have HZ := Aside0.mk (new_blk w1 (.cells #[.int .i64 p.kind, .int .i64 p.life, .int .i64 p.piece, .int .i64 p.frm, .int .i64 p.dst, .int .i64 p.fp, .int .i64 p.tp, .int .i64 p.flags, .int .i64 p.label, .bool p.bare, .int .i64 p.code, .slice A1 p.opts.length c1, .slice A2 p.data.length c2] 26))
  have HB := Aside0.mk (below_step HB1.out hba)
  have HB00 := Aside0.mk (below_alloc HB01.out (.cells #[.int .i64 p.kind, .int .i64 p.life, .int .i64 p.piece, .int .i64 p.frm, .int .i64 p.dst, .int .i64 p.fp, .int .i64 p.tp, .int .i64 p.flags, .int .i64 p.label, .bool p.bare, .int .i64 p.code, .slice A1 p.opts.length c1, .slice A2 p.data.length c2] 26))
  have HG0 := Aside0.mk (show w0.heap.size ≤ w1.heap.size from HB01.out.size)
  have HOW := Aside0.mk (Kd.R_alloc HO1.out (.cells #[.int .i64 p.kind, .int .i64 p.life, .int .i64 p.piece, .int .i64 p.frm, .int .i64 p.dst, .int .i64 p.fp, .int .i64 p.tp, .int .i64 p.flags, .int .i64 p.label, .bool p.bare, .int .i64 p.code, .slice A1 p.opts.length c1, .slice A2 p.data.length c2] 26))
  have HDW := Aside0.mk (Kd.R_alloc HD1.out (.cells #[.int .i64 p.kind, .int .i64 p.life, .int .i64 p.piece, .int .i64 p.frm, .int .i64 p.dst, .int .i64 p.fp, .int .i64 p.tp, .int .i64 p.flags, .int .i64 p.label, .bool p.bare, .int .i64 p.code, .slice A1 p.opts.length c1, .slice A2 p.data.length c2] 26))
  generalize w1.alloc (.cells #[.int .i64 p.kind, .int .i64 p.life, .int .i64 p.piece, .int .i64 p.frm, .int .i64 p.dst, .int .i64 p.fp, .int .i64 p.tp, .int .i64 p.flags, .int .i64 p.label, .bool p.bare, .int .i64 p.code, .slice A1 p.opts.length c1, .slice A2 p.data.length c2] 26) = w2 at hba HZ HB HB00 HOW HDW ⊢
  have HO := Aside0.mk (rw_of HOW.out)
  have HD := Aside0.mk (rw_of HDW.out)
  have HNO := Aside0.mk (fun e => Nat.lt_irrefl _ (Kd.R_lt HO1.out w1.heap.size e))
  have HND := Aside0.mk (fun e => Nat.lt_irrefl _ (Kd.R_lt HD1.out w1.heap.size e))
  have HGW := Aside0.mk (show w.heap.size ≤ w1.heap.size from HB1.out.size)
  clear hba HO1 HD1 HB1
  obtain ⟨k, hk_⟩ := Int.eq_ofNat_of_zero_le (show 0 ≤ a4 % 11 by omega)
  have Hk := Aside0.mk hk_
  have i1_ : (k : Int) < 11 := by omega
  have i2_ : k < 11 := by omega
  obtain ⟨m, hm_⟩ : ∃ x, rd ([(-1), 0, 15, 16, 255, 256, 65535, 65536, 4294967295, 4294967296, a4] : List Int) (k : Int) = x := ⟨_, rfl⟩
  have Hm := Aside0.mk hm_
  clear hk_ hm_
  go_upto_region 5 with (first | ((with_reducible refine gate_dst (N := 26) rfl ?_); refine Kd.R_lit (Kd.int .i64) (w0 := w2) w2.heap.size 3 ?hg (N := 26) ?hd (xs := ([(-1), 0, 15, 16, 255, 256, 65535, 65536, 4294967295, 4294967296, a4] : List Int)) (inner := [.int .i64 (-1), .int .i64 0, .int .i64 15, .int .i64 16, .int .i64 255, .int .i64 256, .int .i64 65535, .int .i64 65536, .int .i64 4294967295, .int .i64 4294967296, .int .i64 a4]) (ok := fun _ => True) (okp := fun _ => True) ?hr ?hp (fun _ hk => hk) trivial (Below.refl _ _) (Nat.le_refl _) (by simp) ?_; (case hd => rfl); (case hg => rfl); (case hr => first | (go_simp; done) | (go_simp; rfl)); (case hp => exact (Reps.one (show Kd.M (Kd.int .i64) _ _ _ (-1) [.int .i64 (-1)] from rfl) (Reps.one (show Kd.M (Kd.int .i64) _ _ _ 0 [.int .i64 0] from rfl) (Reps.one (show Kd.M (Kd.int .i64) _ _ _ 15 [.int .i64 15] from rfl) (Reps.one (show Kd.M (Kd.int .i64) _ _ _ 16 [.int .i64 16] from rfl) (Reps.one (show Kd.M (Kd.int .i64) _ _ _ 255 [.int .i64 255] from rfl) (Reps.one (show Kd.M (Kd.int .i64) _ _ _ 256 [.int .i64 256] from rfl) (Reps.one (show Kd.M (Kd.int .i64) _ _ _ 65535 [.int .i64 65535] from rfl) (Reps.one (show Kd.M (Kd.int .i64) _ _ _ 65536 [.int .i64 65536] from rfl) (Reps.one (show Kd.M (Kd.int .i64) _ _ _ 4294967295 [.int .i64 4294967295] from rfl) (Reps.one (show Kd.M (Kd.int .i64) _ _ _ 4294967296 [.int .i64 4294967296] from rfl) (Reps.one (show Kd.M (Kd.int .i64) _ _ _ a4 [.int .i64 a4] from rfl) (Reps.none _ _))))))))))))); intro vl wl ho hb hg hat; obtain ⟨Al, cl, el⟩ := Kd.R_slice ho; subst el; have HLI := Aside0.mk (Kd.R_reads' ho); have HBL := Aside0.mk hb; have CW := Aside0.mk (withn_at wl a4 (n := 11) (by omega) (by omega) Hk.out); clear ho hb hg hat) | (go_at_call 22; (with_reducible refine (CW.out _ ?hb).mono ?_); (case hb => (repeat (first | with_reducible assumption | with_reducible exact Below.refl _ _ | with_reducible apply below_alloc | with_reducible apply pw_below_drewN | with_reducible apply below_drew1))); rintro e wp ⟨rfl, hx⟩; have HBP := Aside0.mk (below_step HBL.out hx); obtain ⟨ad_, ead, hcell⟩ := Kd.at_int (Kd.C_below HLI.out.2.2 hx) (k : Int) (by omega) (by show (k : Int) < _; simp; omega); rw [Hm.out, Int.toNat_natCast] at hcell; subst ead; clear hx))
  have HOW3 := Aside0.mk (Kd.R_below HOW.out HBP.out)
  have HDW3 := Aside0.mk (Kd.R_below HDW.out HBP.out)
  replace HZ := Aside0.mk ((HBP.out.block _ (WB.blk_lt HZ.out)).trans HZ.out)
  replace HB := Aside0.mk (below_step HB.out HBP.out)
  replace HB00 := Aside0.mk (below_step HB00.out HBP.out)
  have HGZ := Aside0.mk (show w1.heap.size < wp.heap.size from WB.blk_lt HZ.out)
  obtain ⟨J, hj⟩ : ∃ J, a3 % 13 = J := ⟨_, rfl⟩
  have HJ := Aside0.mk (show 0 ≤ J ∧ J ≤ 12 by omega)
  have CS := Aside0.mk (withn_at wp a3 (n := 13) (by omega) (by omega) hj)
  clear hj HBP HOW HDW HO HD HLI HBL CW
  go_upto_block 0 with (first | (go_at_call 22; (with_reducible refine (CS.out _ ?hb).mono ?_); (case hb => (repeat (first | with_reducible assumption | with_reducible exact Below.refl _ _ | with_reducible apply below_alloc | with_reducible apply pw_below_drewN | with_reducible apply below_drew1))); rintro e wq ⟨rfl, hx⟩; have HX := Aside0.mk hx; clear hx))
  have HOW4 := Aside0.mk (Kd.R_below HOW3.out HX.out)
  have HDW4 := Aside0.mk (Kd.R_below HDW3.out HX.out)
  replace HZ := Aside0.mk ((HX.out.block _ (WB.blk_lt HZ.out)).trans HZ.out)
  replace HB := Aside0.mk (below_step HB.out HX.out)
  replace HB00 := Aside0.mk (below_step HB00.out (HX.out))
  clear HX HOW3 HDW3 HGZ CS
  go_cut [32] (fun s32 wx => ∃ (q : Pk) (A3 : Option Addr) (c3 : Nat) (A4 : Option Addr) (c4 : Nat), Aside (wx.heap[w1.heap.size]? = some (.cells #[.int .i64 q.kind, .int .i64 q.life, .int .i64 q.piece, .int .i64 q.frm, .int .i64 q.dst, .int .i64 q.fp, .int .i64 q.tp, .int .i64 q.flags, .int .i64 q.label, .bool q.bare, .int .i64 q.code, .slice A3 q.opts.length c3, .slice A4 q.data.length c4] 26 (0, 0))) ∧ Aside (Rw wx A3 c3 q.opts) ∧ Aside (Rw wx A4 c4 q.data) ∧ Aside ((Bytes q.opts ∧ Bytes q.data) ∧ q.opts.length ≤ 10000 ∧ q.data.length ≤ 10000) ∧ Aside (Below w.heap.size w wx))
  case first =>
    have hJ := HJ.out
    have HPO := Aside0.mk (show (Bytes p.opts ∧ Bytes p.data) ∧ p.opts.length ≤ 10000 ∧ p.data.length ≤ 10000 from ⟨⟨HMK.out.1.c.bo, HMK.out.1.c.bd⟩, Nat.le_trans HMK.out.1.o (by decide), Nat.le_trans HMK.out.1.d (by decide)⟩)
    have hj : J = 0 ∨ J = 1 ∨ J = 2 ∨ J = 3 ∨ J = 4 ∨ J = 5 ∨ J = 6 ∨ J = 7 ∨ J = 8 ∨ J = 9 ∨ J = 10 ∨ J = 11 ∨ J = 12 := by omega
    clear hJ HJ
    obtain ⟨k0, k1, k2, k3, k4, k5, k6, k7, k8, k9, k10, k11, k12⟩ := WB.c13 HZ.out
    obtain ⟨f0_, f1_, f2_, f3_, f4_, f5_, f6_, f7_, f8_, f9_, f10_, f11_, f12_⟩ := f13 HZ.out
    rcases hj with rfl | rfl | rfl | rfl | rfl | rfl | rfl | rfl | rfl | rfl | rfl | rfl | rfl
    · go_wp2
      go_meet
      exact ⟨(⟨m, p.life, p.piece, p.frm, p.dst, p.fp, p.tp, p.flags, p.label, p.bare, p.code, p.opts, p.data⟩ : Pk), A1, c1, A2, c2, (by show _ = _; rw [set_blk HZ.out]; rfl), rw_of (RB_far HOW4.out HNO.out 0), rw_of (RB_far HDW4.out HND.out 0), HPO.out, HB.out.setCell (p := ⟨w1.heap.size, 0, none⟩) HGW.out _⟩
    · go_wp2
      go_meet
      exact ⟨(⟨p.kind, m, p.piece, p.frm, p.dst, p.fp, p.tp, p.flags, p.label, p.bare, p.code, p.opts, p.data⟩ : Pk), A1, c1, A2, c2, (by show _ = _; rw [set_blk HZ.out]; rfl), rw_of (RB_far HOW4.out HNO.out 1), rw_of (RB_far HDW4.out HND.out 1), HPO.out, HB.out.setCell (p := ⟨w1.heap.size, 1, none⟩) HGW.out _⟩
    · go_wp2
      go_meet
      exact ⟨(⟨p.kind, p.life, m, p.frm, p.dst, p.fp, p.tp, p.flags, p.label, p.bare, p.code, p.opts, p.data⟩ : Pk), A1, c1, A2, c2, (by show _ = _; rw [set_blk HZ.out]; rfl), rw_of (RB_far HOW4.out HNO.out 2), rw_of (RB_far HDW4.out HND.out 2), HPO.out, HB.out.setCell (p := ⟨w1.heap.size, 2, none⟩) HGW.out _⟩
    · go_wp2
      go_meet
      exact ⟨(⟨p.kind, p.life, p.piece, m, p.dst, p.fp, p.tp, p.flags, p.label, p.bare, p.code, p.opts, p.data⟩ : Pk), A1, c1, A2, c2, (by show _ = _; rw [set_blk HZ.out]; rfl), rw_of (RB_far HOW4.out HNO.out 3), rw_of (RB_far HDW4.out HND.out 3), HPO.out, HB.out.setCell (p := ⟨w1.heap.size, 3, none⟩) HGW.out _⟩
    · go_wp2
      go_meet
      exact ⟨(⟨p.kind, p.life, p.piece, p.frm, m, p.fp, p.tp, p.flags, p.label, p.bare, p.code, p.opts, p.data⟩ : Pk), A1, c1, A2, c2, (by show _ = _; rw [set_blk HZ.out]; rfl), rw_of (RB_far HOW4.out HNO.out 4), rw_of (RB_far HDW4.out HND.out 4), HPO.out, HB.out.setCell (p := ⟨w1.heap.size, 4, none⟩) HGW.out _⟩
    · go_wp2
      go_meet
      exact ⟨(⟨p.kind, p.life, p.piece, p.frm, p.dst, m, p.tp, p.flags, p.label, p.bare, p.code, p.opts, p.data⟩ : Pk), A1, c1, A2, c2, (by show _ = _; rw [set_blk HZ.out]; rfl), rw_of (RB_far HOW4.out HNO.out 5), rw_of (RB_far HDW4.out HND.out 5), HPO.out, HB.out.setCell (p := ⟨w1.heap.size, 5, none⟩) HGW.out _⟩
    · go_wp2
      go_meet
      exact ⟨(⟨p.kind, p.life, p.piece, p.frm, p.dst, p.fp, m, p.flags, p.label, p.bare, p.code, p.opts, p.data⟩ : Pk), A1, c1, A2, c2, (by show _ = _; rw [set_blk HZ.out]; rfl), rw_of (RB_far HOW4.out HNO.out 6), rw_of (RB_far HDW4.out HND.out 6), HPO.out, HB.out.setCell (p := ⟨w1.heap.size, 6, none⟩) HGW.out _⟩
    · go_wp2
      go_meet
      exact ⟨(⟨p.kind, p.life, p.piece, p.frm, p.dst, p.fp, p.tp, m, p.label, p.bare, p.code, p.opts, p.data⟩ : Pk), A1, c1, A2, c2, (by show _ = _; rw [set_blk HZ.out]; rfl), rw_of (RB_far HOW4.out HNO.out 7), rw_of (RB_far HDW4.out HND.out 7), HPO.out, HB.out.setCell (p := ⟨w1.heap.size, 7, none⟩) HGW.out _⟩
    · go_wp2
      go_meet
      exact ⟨(⟨p.kind, p.life, p.piece, p.frm, p.dst, p.fp, p.tp, p.flags, m, p.bare, p.code, p.opts, p.data⟩ : Pk), A1, c1, A2, c2, (by show _ = _; rw [set_blk HZ.out]; rfl), rw_of (RB_far HOW4.out HNO.out 8), rw_of (RB_far HDW4.out HND.out 8), HPO.out, HB.out.setCell (p := ⟨w1.heap.size, 8, none⟩) HGW.out _⟩
    · go_wp2
      go_meet
      exact ⟨(⟨p.kind, p.life, p.piece, p.frm, p.dst, p.fp, p.tp, p.flags, p.label, p.bare, m, p.opts, p.data⟩ : Pk), A1, c1, A2, c2, (by show _ = _; rw [set_blk HZ.out]; rfl), rw_of (RB_far HOW4.out HNO.out 10), rw_of (RB_far HDW4.out HND.out 10), HPO.out, HB.out.setCell (p := ⟨w1.heap.size, 10, none⟩) HGW.out _⟩
    · obtain ⟨r, hr⟩ := Int.eq_ofNat_of_zero_le (show 0 ≤ a5 % 5 by omega)
      have hr2 : r < 5 := by omega
      have CK := Aside0.mk (withn_at wq a5 (n := 5) (by omega) (by omega) hr)
      have hw1 : Go.IntKind.i64.wrap (38 + (r : Int)) = 38 + (r : Int) := wrap_i64w _ (by omega) (by omega)
      have d_ : decide ((38 : Int) + (r : Int) < 0) = false := decide_eq_false (by omega)
      clear hr
      go_wp2_with (first | (go_at_call 22; (with_reducible refine (CK.out _ ?hb).mono ?_); (case hb => (repeat (first | with_reducible assumption | with_reducible exact Below.refl _ _ | with_reducible apply below_alloc | with_reducible apply pw_below_drewN | with_reducible apply below_drew1))); rintro e wz ⟨rfl, hx⟩; have HXZ := Aside0.mk hx; clear k0 k1 k2 k3 k4 k5 k6 k7 k8 k9 k10 k11 k12 f0_ f1_ f2_ f3_ f4_ f5_ f6_ f7_ f8_ f9_ f10_ f11_ f12_; obtain ⟨k0, k1, k2, k3, k4, k5, k6, k7, k8, k9, k10, k11, k12⟩ := WB.c13 ((hx.block _ (WB.blk_lt HZ.out)).trans HZ.out); obtain ⟨f0_, f1_, f2_, f3_, f4_, f5_, f6_, f7_, f8_, f9_, f10_, f11_, f12_⟩ := f13 ((hx.block _ (WB.blk_lt HZ.out)).trans HZ.out); clear hx) | ((with_reducible refine gate_dst (N := 78) rfl ?_); refine R_make_cap (w0 := wq) wq.heap.size rfl rfl (.tmp 77) (.tmp 77) rfl (38 + r) (38 + r) _ _ (by first | omega | (rw [wid (by omega) (by omega)]; omega)) (by first | omega | (rw [wid (by omega) (by omega)]; omega)) rfl rfl (Nat.le_refl _) (by omega) HXZ.out HXZ.out.size ?_; intro v5 w5 ho hb hg hat; obtain ⟨Z, hZ⟩ : ∃ Z, List.replicate (38 + r) (0 : Int) = Z := ⟨_, rfl⟩; rw [hZ] at ho; have HZN := Aside0.mk hZ; obtain ⟨Av, cv, ev⟩ := Kd.R_slice ho; subst ev; have HOV := Aside0.mk ho; have HXV := Aside0.mk hb; have HNV := Aside0.mk (ne_new hat (Nat.lt_of_lt_of_le (WB.blk_lt HZ.out) HXZ.out.size)); clear k0 k1 k2 k3 k4 k5 k6 k7 k8 k9 k10 k11 k12 f0_ f1_ f2_ f3_ f4_ f5_ f6_ f7_ f8_ f9_ f10_ f11_ f12_; obtain ⟨k0, k1, k2, k3, k4, k5, k6, k7, k8, k9, k10, k11, k12⟩ := WB.c13 ((hb.block _ (WB.blk_lt HZ.out)).trans HZ.out); obtain ⟨f0_, f1_, f2_, f3_, f4_, f5_, f6_, f7_, f8_, f9_, f10_, f11_, f12_⟩ := f13 ((hb.block _ (WB.blk_lt HZ.out)).trans HZ.out); clear hZ ho hb hg hat))
      go_meet
      have HZL := Aside0.mk (show Z.length = 38 + r from by rw [← HZN.out, List.length_replicate])
      have HZY := Aside0.mk (show Bytes Z from by rw [← HZN.out]; exact bytes_zeros _)
      have hz5 := (HXV.out.block _ (WB.blk_lt HZ.out)).trans HZ.out
      exact ⟨(⟨p.kind, p.life, p.piece, p.frm, p.dst, p.fp, p.tp, p.flags, p.label, p.bare, p.code, Z, p.data⟩ : Pk), Av, cv, A2, c2, (by show _ = _; rw [set_blk hz5]; rfl), rw_of (RB_far HOV.out HNV.out 11), rw_of (RB_far (Kd.R_below HDW4.out HXV.out) HND.out 11), ⟨⟨HZY.out, HPO.out.1.2⟩, by have := HZL.out; show Z.length ≤ _; omega, HPO.out.2.2⟩, (below_step HB.out HXV.out).setCell (p := ⟨w1.heap.size, 11, none⟩) HGW.out _⟩
    · obtain ⟨r, hr⟩ := Int.eq_ofNat_of_zero_le (show 0 ≤ a5 % 8 by omega)
      have hr2 : r < 8 := by omega
      have CK := Aside0.mk (withn_at wq a5 (n := 8) (by omega) (by omega) hr)
      have hw1 : Go.IntKind.i64.wrap (20 + (r : Int)) = 20 + (r : Int) := wrap_i64w _ (by omega) (by omega)
      have d_ : decide ((20 : Int) + (r : Int) < 0) = false := decide_eq_false (by omega)
      clear hr
      go_wp2_with (first | (go_at_call 22; (with_reducible refine (CK.out _ ?hb).mono ?_); (case hb => (repeat (first | with_reducible assumption | with_reducible exact Below.refl _ _ | with_reducible apply below_alloc | with_reducible apply pw_below_drewN | with_reducible apply below_drew1))); rintro e wz ⟨rfl, hx⟩; have HXZ := Aside0.mk hx; clear k0 k1 k2 k3 k4 k5 k6 k7 k8 k9 k10 k11 k12 f0_ f1_ f2_ f3_ f4_ f5_ f6_ f7_ f8_ f9_ f10_ f11_ f12_; obtain ⟨k0, k1, k2, k3, k4, k5, k6, k7, k8, k9, k10, k11, k12⟩ := WB.c13 ((hx.block _ (WB.blk_lt HZ.out)).trans HZ.out); obtain ⟨f0_, f1_, f2_, f3_, f4_, f5_, f6_, f7_, f8_, f9_, f10_, f11_, f12_⟩ := f13 ((hx.block _ (WB.blk_lt HZ.out)).trans HZ.out); clear hx) | ((with_reducible refine gate_dst (N := 85) rfl ?_); refine R_make_cap (w0 := wq) wq.heap.size rfl rfl (.tmp 84) (.tmp 84) rfl (20 + r) (20 + r) _ _ (by first | omega | (rw [wid (by omega) (by omega)]; omega)) (by first | omega | (rw [wid (by omega) (by omega)]; omega)) rfl rfl (Nat.le_refl _) (by omega) HXZ.out HXZ.out.size ?_; intro v5 w5 ho hb hg hat; obtain ⟨Z, hZ⟩ : ∃ Z, List.replicate (20 + r) (0 : Int) = Z := ⟨_, rfl⟩; rw [hZ] at ho; have HZN := Aside0.mk hZ; obtain ⟨Av, cv, ev⟩ := Kd.R_slice ho; subst ev; have HOV := Aside0.mk ho; have HXV := Aside0.mk hb; have HNV := Aside0.mk (ne_new hat (Nat.lt_of_lt_of_le (WB.blk_lt HZ.out) HXZ.out.size)); clear k0 k1 k2 k3 k4 k5 k6 k7 k8 k9 k10 k11 k12 f0_ f1_ f2_ f3_ f4_ f5_ f6_ f7_ f8_ f9_ f10_ f11_ f12_; obtain ⟨k0, k1, k2, k3, k4, k5, k6, k7, k8, k9, k10, k11, k12⟩ := WB.c13 ((hb.block _ (WB.blk_lt HZ.out)).trans HZ.out); obtain ⟨f0_, f1_, f2_, f3_, f4_, f5_, f6_, f7_, f8_, f9_, f10_, f11_, f12_⟩ := f13 ((hb.block _ (WB.blk_lt HZ.out)).trans HZ.out); clear hZ ho hb hg hat))
      go_meet
      have HZL := Aside0.mk (show Z.length = 20 + r from by rw [← HZN.out, List.length_replicate])
      have HZY := Aside0.mk (show Bytes Z from by rw [← HZN.out]; exact bytes_zeros _)
      have hz5 := (HXV.out.block _ (WB.blk_lt HZ.out)).trans HZ.out
      exact ⟨(⟨p.kind, p.life, p.piece, p.frm, p.dst, p.fp, p.tp, p.flags, p.label, p.bare, p.code, p.opts, Z⟩ : Pk), A1, c1, Av, cv, (by show _ = _; rw [set_blk hz5]; rfl), rw_of (RB_far (Kd.R_below HOW4.out HXV.out) HNO.out 12), rw_of (RB_far HOV.out HNV.out 12), ⟨⟨HPO.out.1.1, HZY.out⟩, HPO.out.2.1, by have := HZL.out; show Z.length ≤ _; omega⟩, (below_step HB.out HXV.out).setCell (p := ⟨w1.heap.size, 12, none⟩) HGW.out _⟩
    · obtain ⟨r, hr⟩ := Int.eq_ofNat_of_zero_le (show 0 ≤ a5 % 20 by omega)
      have hr2 : r < 20 := by omega
      have CK := Aside0.mk (withn_at wq a5 (n := 20) (by omega) (by omega) hr)
      have hw1 : Go.IntKind.i64.wrap (1470 + (r : Int)) = 1470 + (r : Int) := wrap_i64w _ (by omega) (by omega)
      have d_ : decide ((1470 : Int) + (r : Int) < 0) = false := decide_eq_false (by omega)
      clear hr
      go_wp2_with (first | (go_at_call 22; (with_reducible refine (CK.out _ ?hb).mono ?_); (case hb => (repeat (first | with_reducible assumption | with_reducible exact Below.refl _ _ | with_reducible apply below_alloc | with_reducible apply pw_below_drewN | with_reducible apply below_drew1))); rintro e wz ⟨rfl, hx⟩; have HXZ := Aside0.mk hx; clear k0 k1 k2 k3 k4 k5 k6 k7 k8 k9 k10 k11 k12 f0_ f1_ f2_ f3_ f4_ f5_ f6_ f7_ f8_ f9_ f10_ f11_ f12_; obtain ⟨k0, k1, k2, k3, k4, k5, k6, k7, k8, k9, k10, k11, k12⟩ := WB.c13 ((hx.block _ (WB.blk_lt HZ.out)).trans HZ.out); obtain ⟨f0_, f1_, f2_, f3_, f4_, f5_, f6_, f7_, f8_, f9_, f10_, f11_, f12_⟩ := f13 ((hx.block _ (WB.blk_lt HZ.out)).trans HZ.out); clear hx) | ((with_reducible refine gate_dst (N := 92) rfl ?_); refine R_make_cap (w0 := wq) wq.heap.size rfl rfl (.tmp 91) (.tmp 91) rfl (1470 + r) (1470 + r) _ _ (by first | omega | (rw [wid (by omega) (by omega)]; omega)) (by first | omega | (rw [wid (by omega) (by omega)]; omega)) rfl rfl (Nat.le_refl _) (by omega) HXZ.out HXZ.out.size ?_; intro v5 w5 ho hb hg hat; obtain ⟨Z, hZ⟩ : ∃ Z, List.replicate (1470 + r) (0 : Int) = Z := ⟨_, rfl⟩; rw [hZ] at ho; have HZN := Aside0.mk hZ; obtain ⟨Av, cv, ev⟩ := Kd.R_slice ho; subst ev; have HOV := Aside0.mk ho; have HXV := Aside0.mk hb; have HNV := Aside0.mk (ne_new hat (Nat.lt_of_lt_of_le (WB.blk_lt HZ.out) HXZ.out.size)); clear k0 k1 k2 k3 k4 k5 k6 k7 k8 k9 k10 k11 k12 f0_ f1_ f2_ f3_ f4_ f5_ f6_ f7_ f8_ f9_ f10_ f11_ f12_; obtain ⟨k0, k1, k2, k3, k4, k5, k6, k7, k8, k9, k10, k11, k12⟩ := WB.c13 ((hb.block _ (WB.blk_lt HZ.out)).trans HZ.out); obtain ⟨f0_, f1_, f2_, f3_, f4_, f5_, f6_, f7_, f8_, f9_, f10_, f11_, f12_⟩ := f13 ((hb.block _ (WB.blk_lt HZ.out)).trans HZ.out); clear hZ ho hb hg hat))
      go_meet
      have HZL := Aside0.mk (show Z.length = 1470 + r from by rw [← HZN.out, List.length_replicate])
      have HZY := Aside0.mk (show Bytes Z from by rw [← HZN.out]; exact bytes_zeros _)
      have hz5 := (HXV.out.block _ (WB.blk_lt HZ.out)).trans HZ.out
      exact ⟨(⟨p.kind, p.life, p.piece, p.frm, p.dst, p.fp, p.tp, p.flags, p.label, p.bare, p.code, p.opts, Z⟩ : Pk), A1, c1, Av, cv, (by show _ = _; rw [set_blk hz5]; rfl), rw_of (RB_far (Kd.R_below HOW4.out HXV.out) HNO.out 12), rw_of (RB_far HOV.out HNV.out 12), ⟨⟨HPO.out.1.1, HZY.out⟩, HPO.out.2.1, by have := HZL.out; show Z.length ≤ _; omega⟩, (below_step HB.out HXV.out).setCell (p := ⟨w1.heap.size, 12, none⟩) HGW.out _⟩
  case rest =>
  obtain ⟨q, A3, c3, A4, c4, hz, ho, hd, hl, hb⟩ := hcut
  clear HZ HB HB00 HOW4 HDW4 HJ HNO HND
  have HZ := Aside0.mk hz.out
  have HO := Aside0.mk (show Rw wc A3 c3 q.opts from ho.out)
  have HD := Aside0.mk (show Rw wc A4 c4 q.data from hd.out)
  have HL := Aside0.mk (show (Bytes q.opts ∧ Bytes q.data) ∧ q.opts.length ≤ 10000 ∧ q.data.length ≤ 10000 from hl.out)
  have HB := Aside0.mk (show Below w.heap.size w wc from hb.out)
  clear hz ho hd hl hb
  obtain ⟨x, hx⟩ : ∃ x, buildE q = x := ⟨_, rfl⟩
  obtain ⟨y, hy⟩ : ∃ y, (if buildE q = 0 then buildL q else []) = y := ⟨_, rfl⟩
  have HX := Aside0.mk hx
  have HY := Aside0.mk hy
  clear hx hy
  obtain ⟨k0, k1, k2, k3, k4, k5, k6, k7, k8, k9, k10, k11, k12⟩ := WB.c13 HZ.out
  have C41 := Aside0.mk (built_at (fun W h1 h2 => build_calls h1 HO.out.le h2 HD.out.le HL.out.1.1 HL.out.1.2 (Nat.le_trans HL.out.2.1 (by decide)) (Nat.le_trans HL.out.2.2 (by decide))) HO.out HD.out HX.out HY.out)
  go_upto_region 33 with (first | (go_at_call 17; (with_reducible refine (C41.out _ ?hb).mono ?_); (case hb => (repeat (first | with_reducible assumption | with_reducible exact Below.refl _ _ | with_reducible apply below_alloc | with_reducible apply pw_below_drewN | with_reducible apply below_drew1))); rintro e w_42 ⟨Ab, cb, rfl, hr, hb⟩; replace HO := Aside0.mk (HO.out.below hb); replace HD := Aside0.mk (HD.out.below hb); replace HZ := Aside0.mk ((hb.block _ (WB.blk_lt HZ.out)).trans HZ.out); replace HB := Aside0.mk (below_step HB.out hb); have HR1 := Aside0.mk (rw_of hr); clear hr hb))
  clear C41
  clear k0 k1 k2 k3 k4 k5 k6 k7 k8 k9 k10 k11 k12
  obtain ⟨k0, k1, k2, k3, k4, k5, k6, k7, k8, k9, k10, k11, k12⟩ := WB.c13 HZ.out
  have C43 := Aside0.mk (built_at (fun W h1 h2 => rbuild_all h1 HO.out.le h2 HD.out.le HL.out.1.1 HL.out.1.2 (Nat.le_trans HL.out.2.1 (by decide)) (Nat.le_trans HL.out.2.2 (by decide))) HO.out HD.out HX.out HY.out)
  go_upto_region 34 with (first | (go_at_call 18; (with_reducible refine (C43.out _ ?hb).mono ?_); (case hb => (repeat (first | with_reducible assumption | with_reducible exact Below.refl _ _ | with_reducible apply below_alloc | with_reducible apply pw_below_drewN | with_reducible apply below_drew1))); rintro e w_44 ⟨Ac, cc, rfl, hr, hb⟩; replace HO := Aside0.mk (HO.out.below hb); replace HD := Aside0.mk (HD.out.below hb); replace HR1 := Aside0.mk (HR1.out.below hb); replace HZ := Aside0.mk ((hb.block _ (WB.blk_lt HZ.out)).trans HZ.out); replace HB := Aside0.mk (below_step HB.out hb); have HR2 := Aside0.mk (rw_of hr); clear hr hb))
  clear C43
  clear k0 k1 k2 k3 k4 k5 k6 k7 k8 k9 k10 k11 k12
  have hcv1 := Kd.C_string (P := Try.prog) (A := Ab) (c := cb) Try.underlying23 Try.underlying5 Try.underlying9 HR1.out.rd
  have hcv2 := Kd.C_string (P := Try.prog) (A := Ac) (c := cc) Try.underlying23 Try.underlying5 Try.underlying9 HR2.out.rd
  go_wp2
  go_ret
  exact ⟨by simp, HB.out⟩
end Go.Proofs.Ytbjhmifhmojaoaa.PL
