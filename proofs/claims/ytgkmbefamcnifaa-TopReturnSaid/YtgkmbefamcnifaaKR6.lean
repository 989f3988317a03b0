/- Lemmas and contracts that the row YtgkmbefamcnifaaLawTopReturn goes by (part 6; joined by pack.py out of this session's texts, and of words that the kit's print lays). -/
import Derived.Test.YtgkmbefamcnifaaKR5
import Derived.Lib.Hide
set_option maxRecDepth 100000
set_option maxHeartbeats 8000000
namespace Go.Proofs.Ytgkmbefamcnifaa.TB
set_option linter.unusedVariables false
set_option linter.unusedSimpArgs false
open Go.RowKit Go.Proofs.Ytgkmbefamcnifaa.Hp Go.Proofs.YtgkmbefamcnifaaW.PrintWords Go.Proofs.YtgkmbefamcnifaaW.PrintLast Go.Proofs.YtgkmbefamcnifaaW.PrintMore
theorem bd {B : Nat} {a w : World} (h : Below B a w) (n : Nat) : Below B a (w.drewN n) := ⟨h.os, h.tape, h.output, h.size, h.block⟩
theorem blk_lt {w : World} {g : Nat} {o : Obj} (h : w.heap[g]? = some o) : g < w.heap.size := by
  rcases Nat.lt_or_ge g w.heap.size with h' | h'
  · exact h'
  · rw [Array.getElem?_eq_none h'] at h; cases h
theorem new_blk (w : World) (o : Obj) : (w.alloc o).heap[w.heap.size]? = some o := heap_alloc_new w o
/-- A known fact of the world, and nothing else of it. -/
theorem wp_at {R : World → Prop} {W : World} {G : World → Prop} (hw : R W) (h : ∀ W', R W' → G W') : G W := h W hw
/-- One block may be another one; all else stands. -/
structure Chg (b : Nat) (w w' : World) : Prop where
  os : w'.os = w.os
  tape : w'.tape = w.tape
  output : w'.output = w.output
  size : w'.heap.size = w.heap.size
  block : ∀ k, k ≠ b → w'.heap[k]? = w.heap[k]?
theorem Chg.refl (b : Nat) (w : World) : Chg b w w := ⟨rfl, rfl, rfl, rfl, fun _ _ => rfl⟩
theorem Chg.drewN {b : Nat} {w w' : World} (h : Chg b w w') (n : Nat) : Chg b w (w'.drewN n) := ⟨h.os, h.tape, h.output, h.size, h.block⟩
theorem Chg.drew {b : Nat} {w w' : World} (h : Chg b w w') : Chg b w w'.drew := ⟨h.os, h.tape, h.output, h.size, h.block⟩
theorem Chg.trans {b : Nat} {w w1 w2 : World} (h : Chg b w w1) (k : Chg b w1 w2) : Chg b w w2 := ⟨k.os.trans h.os, k.tape.trans h.tape, k.output.trans h.output, k.size.trans h.size, fun i hi => (k.block i hi).trans (h.block i hi)⟩
theorem Chg.set {b : Nat} {w w' : World} (h : Chg b w w') (i : Nat) (v : Value) : Chg b w (w'.setCell ⟨b, i, none⟩ v) :=
  ⟨h.os, h.tape, h.output, by rw [World.setCell, Array.size_modify]; exact h.size, fun k hk => (heap_setCell_other w' ⟨b, i, none⟩ k v hk).trans (h.block k hk)⟩
theorem Chg.below {b B : Nat} {w w' : World} (h : Chg b w w') (hb : B ≤ b) : Below B w w' := ⟨h.os, h.tape, h.output, by rw [h.size]; exact Nat.le_refl _, fun k hk => h.block k (by omega)⟩
theorem Chg.step {b B : Nat} {w0 w w' : World} (h0 : Below B w0 w) (h : Chg b w w') (hb : B ≤ b) : Below B w0 w' := h0.trans (h.below hb)
/-- Four numbers in a block of their own. -/
structure SipAt (w0 w : World) (b : Nat) (x0 x1 x2 x3 : Int) : Prop where
  blk : w.heap[b]? = some (.cells #[.int .u64 x0, .int .u64 x1, .int .u64 x2, .int .u64 x3] 131 (0, 0))
  chg : Chg b w0 w
theorem SipAt.drewN {w0 w : World} {b : Nat} {x0 x1 x2 x3 : Int} (h : SipAt w0 w b x0 x1 x2 x3) (n : Nat) : SipAt w0 (w.drewN n) b x0 x1 x2 x3 := ⟨h.blk, h.chg.drewN n⟩
theorem SipAt.drew {w0 w : World} {b : Nat} {x0 x1 x2 x3 : Int} (h : SipAt w0 w b x0 x1 x2 x3) : SipAt w0 w.drew b x0 x1 x2 x3 := ⟨h.blk, h.chg.drew⟩
theorem SipAt.set0 {w0 w : World} {b : Nat} {x0 x1 x2 x3 : Int} (h : SipAt w0 w b x0 x1 x2 x3) (v : Int) : SipAt w0 (w.setCell ⟨b, 0, none⟩ (.int .u64 v)) b v x1 x2 x3 := ⟨heap_setCell_same _ _ _ _ _ _ h.blk, h.chg.set _ _⟩
theorem SipAt.set1 {w0 w : World} {b : Nat} {x0 x1 x2 x3 : Int} (h : SipAt w0 w b x0 x1 x2 x3) (v : Int) : SipAt w0 (w.setCell ⟨b, 1, none⟩ (.int .u64 v)) b x0 v x2 x3 := ⟨heap_setCell_same _ _ _ _ _ _ h.blk, h.chg.set _ _⟩
theorem SipAt.set2 {w0 w : World} {b : Nat} {x0 x1 x2 x3 : Int} (h : SipAt w0 w b x0 x1 x2 x3) (v : Int) : SipAt w0 (w.setCell ⟨b, 2, none⟩ (.int .u64 v)) b x0 x1 v x3 := ⟨heap_setCell_same _ _ _ _ _ _ h.blk, h.chg.set _ _⟩
theorem SipAt.set3 {w0 w : World} {b : Nat} {x0 x1 x2 x3 : Int} (h : SipAt w0 w b x0 x1 x2 x3) (v : Int) : SipAt w0 (w.setCell ⟨b, 3, none⟩ (.int .u64 v)) b x0 x1 x2 v := ⟨heap_setCell_same _ _ _ _ _ _ h.blk, h.chg.set _ _⟩
theorem SipAt.cells {w0 w : World} {b : Nat} {x0 x1 x2 x3 : Int} (h : SipAt w0 w b x0 x1 x2 x3) : w.cell? ⟨b, 0, none⟩ = some (.int .u64 x0) ∧ w.cell? ⟨b, 1, none⟩ = some (.int .u64 x1) ∧ w.cell? ⟨b, 2, none⟩ = some (.int .u64 x2) ∧ w.cell? ⟨b, 3, none⟩ = some (.int .u64 x3) :=
  ⟨cell_of_row w b 0 _ _ _ h.blk, cell_of_row w b 1 _ _ _ h.blk, cell_of_row w b 2 _ _ _ h.blk, cell_of_row w b 3 _ _ _ h.blk⟩
theorem SipAt.free {w0 w : World} {b : Nat} {x0 x1 x2 x3 : Int} (h : SipAt w0 w b x0 x1 x2 x3) : w.frozen? ⟨b, 0, none⟩ = false ∧ w.frozen? ⟨b, 1, none⟩ = false ∧ w.frozen? ⟨b, 2, none⟩ = false ∧ w.frozen? ⟨b, 3, none⟩ = false :=
  ⟨frozen_of_row w b 0 _ _ h.blk, frozen_of_row w b 1 _ _ h.blk, frozen_of_row w b 2 _ _ h.blk, frozen_of_row w b 3 _ _ h.blk⟩
/-- A number's bits, turned round. -/
def rotl (x k : Int) : Int := (bits_RotateLeft64.f x k).getD 0
theorem rotl_some (x : Int) {k : Int} (hk : k = 13 ∨ k = 16 ∨ k = 17 ∨ k = 21 ∨ k = 32) : bits_RotateLeft64.f x k = some (rotl x k) := by
  rcases hk with rfl | rfl | rfl | rfl | rfl <;> · unfold rotl bits_RotateLeft64.f; rw [if_pos (by decide), if_pos (by decide)]; rfl
theorem rotl_calls (x : Int) {k : Int} (hk : k = 13 ∨ k = 16 ∨ k = 17 ∨ k = 21 ∨ k = 32) (w : World) : Calls Try.prog 108 #[.int .u64 x, .int .i64 k] w fun e w' => e = .returned (.int .u64 (rotl x k)) ∧ Drawn0 w w' :=
  bits_RotateLeft64.calls x k _ w (rotl_some x hk)
structure S4 where
  a : Int
  b : Int
  c : Int
  d : Int
def roundS (s : S4) : S4 :=
  let a1 := IntKind.u64.wrap (s.a + s.b)
  let b1 := Go.bits .xor .u64 (rotl s.b 13) a1
  let a2 := rotl a1 32
  let c1 := IntKind.u64.wrap (s.c + s.d)
  let d1 := Go.bits .xor .u64 (rotl s.d 16) c1
  let a3 := IntKind.u64.wrap (a2 + d1)
  let d2 := Go.bits .xor .u64 (rotl d1 21) a3
  let c2 := IntKind.u64.wrap (c1 + b1)
  let b2 := Go.bits .xor .u64 (rotl b1 17) c2
  ⟨a3, b2, rotl c2 32, d2⟩
theorem round_calls {w0 w : World} {b : Nat} {s : S4} (h : SipAt w0 w b s.a s.b s.c s.d) :
    Calls Try.prog 101 #[.pointer (some ⟨b, 0, none⟩)] w fun e w' => e = .returned (.tuple #[]) ∧ SipAt w0 w' b (roundS s).a (roundS s).b (roundS s).c (roundS s).d := by
  obtain ⟨x0, x1, x2, x3⟩ := s
  change SipAt w0 w b x0 x1 x2 x3 at h
  have H0 := am_ h
  obtain ⟨T0, T1, T2, T3⟩ := h.cells
  obtain ⟨U0, U1, U2, U3⟩ := h.free
  clear h
  go_enter Try.func101, Try.ntmps101
  go_upto_region 0 with fail
  refine start_ (n := 12) (S := fun w' => w'.cell? ⟨b, 0, none⟩ = some (.int .u64 x0) ∧ w'.cell? ⟨b, 1, none⟩ = some (.int .u64 x1)) (ds := [11]) #[fF,fF,fF,fF,fF,fF,fF,fF,fF,fF,fF,fF] (by kernel_rfl) rfl rfl ⟨T0, T1⟩ (fun hHeld => ?_)
  refine p_ 0 2 ?_
  refine p_ 1 3 ?_
  refine p_ 2 4 ?_
  refine p_ 4 6 ?_
  refine p_ 5 7 ?_
  refine p_ 6 8 ?_
  refine t_ 3 5 hHeld ?_
  refine t_ 7 9 hHeld ?_
  refine p_ 8 10 ?_
  refine p_ 9 11 ?_
  refine p_ 10 12 ?_
  refine l_ 11 none (fun K hK => ?_)
  refine s_ ?_
  refine hK.out _ _ ?_
  clear hK K
  refine done_ (by kernel_rfl) ?_
  have HE0 : Aside0 (∃ z, IntKind.u64.wrap (x0 + x1) = z) := am_ ⟨_, rfl⟩
  obtain ⟨z0, hz0⟩ := HE0.out
  clear HE0
  refine ex_w (fun W => SipAt w0 W b z0 x1 x2 x3) ?_ ?_
  · subst hz0; first | exact (H0.out.set0 _).drew | exact (H0.out.drewN _).set0 _ | exact ((H0.out.drewN _).set0 _).drew
  intro v0 hv
  have H1 := am_ hv
  have HZ0 := am_ hz0
  clear hz0 T0 T1 T2 T3 U0 U1 U2 U3 H0
  try clear hHeld
  obtain ⟨T0, T1, T2, T3⟩ := hv.cells
  obtain ⟨U0, U1, U2, U3⟩ := hv.free
  clear hv
  go_upto_region 1 with fail
  refine start_ (n := 14) (S := fun w' => w'.cell? ⟨b, 0, none⟩ = some (.int .u64 z0) ∧ w'.cell? ⟨b, 1, none⟩ = some (.int .u64 x1)) (ds := [13]) #[fF,fF,fF,fF,fF,fF,fF,fF,fF,fF,fF,fF,fF,fF] (by kernel_rfl) rfl rfl ⟨T0, T1⟩ (fun hHeld => ?_)
  refine p_ 0 13 ?_
  refine p_ 1 14 ?_
  refine p_ 2 15 ?_
  refine p_ 3 16 ?_
  refine p_ 6 19 ?_
  refine p_ 7 20 ?_
  refine p_ 8 21 ?_
  refine t_ 4 17 hHeld ?_
  refine t_ 9 22 hHeld ?_
  refine o_ 5 (some 18) (fun K hK => ?_)
  refine g_ Try.func108 #[.int .u64 x1, .int .i64 13] ?_
  with_reducible refine (rotl_calls _ (by decide) _).mono ?_
  rintro e w3 ⟨rfl, ⟨⟨nq, rfl⟩⟩⟩
  refine ⟨_, rfl, ?_⟩
  refine hK.out _ _ ⟨T0, T1⟩ (fun hHeld => ?_)
  clear hK K
  refine n_ 18 ?_
  refine p_ 10 23 ?_
  refine p_ 11 24 ?_
  refine p_ 12 25 ?_
  refine l_ 13 none (fun K hK => ?_)
  refine s_ ?_
  refine hK.out _ _ ?_
  clear hK K
  refine done_ (by kernel_rfl) ?_
  have HE1 : Aside0 (∃ z, Go.bits .xor .u64 (rotl x1 13) z0 = z) := am_ ⟨_, rfl⟩
  obtain ⟨z1, hz1⟩ := HE1.out
  clear HE1
  refine ex_w (fun W => SipAt w0 W b z0 z1 x2 x3) ?_ ?_
  · subst hz1; first | exact (H1.out.set1 _).drew | exact (H1.out.drewN _).set1 _ | exact ((H1.out.drewN _).set1 _).drew
  intro v1 hv
  have H2 := am_ hv
  have HZ1 := am_ hz1
  clear hz1 T0 T1 T2 T3 U0 U1 U2 U3 H1
  try clear hHeld
  obtain ⟨T0, T1, T2, T3⟩ := hv.cells
  obtain ⟨U0, U1, U2, U3⟩ := hv.free
  clear hv
  go_upto_region 3 with (first | (go_at_call 108; (with_reducible refine (rotl_calls _ (by decide) _).mono ?_); rintro e w3 ⟨rfl, ⟨⟨nq, rfl⟩⟩⟩))
  have HE2 : Aside0 (∃ z, rotl z0 32 = z) := am_ ⟨_, rfl⟩
  obtain ⟨z2, hz2⟩ := HE2.out
  clear HE2
  refine wp_w (fun W => SipAt w0 W b z2 z1 x2 x3) ?_ ?_
  · subst hz2; first | exact (H2.out.set0 _).drew | exact (H2.out.drewN _).set0 _ | exact ((H2.out.drewN _).set0 _).drew
  intro v2 hv
  have H3 := am_ hv
  have HZ2 := am_ hz2
  clear hz2 T0 T1 T2 T3 U0 U1 U2 U3 H2
  try clear hHeld
  obtain ⟨T0, T1, T2, T3⟩ := hv.cells
  obtain ⟨U0, U1, U2, U3⟩ := hv.free
  clear hv
  go_upto_region 3 with fail
  refine start_ (n := 12) (S := fun w' => w'.cell? ⟨b, 2, none⟩ = some (.int .u64 x2) ∧ w'.cell? ⟨b, 3, none⟩ = some (.int .u64 x3)) (ds := [11]) #[fF,fF,fF,fF,fF,fF,fF,fF,fF,fF,fF,fF] (by kernel_rfl) rfl rfl ⟨T2, T3⟩ (fun hHeld => ?_)
  refine p_ 0 34 ?_
  refine p_ 1 35 ?_
  refine p_ 2 36 ?_
  refine p_ 4 38 ?_
  refine p_ 5 39 ?_
  refine p_ 6 40 ?_
  refine t_ 3 37 hHeld ?_
  refine t_ 7 41 hHeld ?_
  refine p_ 8 42 ?_
  refine p_ 9 43 ?_
  refine p_ 10 44 ?_
  refine l_ 11 none (fun K hK => ?_)
  refine s_ ?_
  refine hK.out _ _ ?_
  clear hK K
  refine done_ (by kernel_rfl) ?_
  have HE3 : Aside0 (∃ z, IntKind.u64.wrap (x2 + x3) = z) := am_ ⟨_, rfl⟩
  obtain ⟨z3, hz3⟩ := HE3.out
  clear HE3
  refine ex_w (fun W => SipAt w0 W b z2 z1 z3 x3) ?_ ?_
  · subst hz3; first | exact (H3.out.set2 _).drew | exact (H3.out.drewN _).set2 _ | exact ((H3.out.drewN _).set2 _).drew
  intro v3 hv
  have H4 := am_ hv
  have HZ3 := am_ hz3
  clear hz3 T0 T1 T2 T3 U0 U1 U2 U3 H3
  try clear hHeld
  obtain ⟨T0, T1, T2, T3⟩ := hv.cells
  obtain ⟨U0, U1, U2, U3⟩ := hv.free
  clear hv
  go_upto_region 4 with fail
  refine start_ (n := 14) (S := fun w' => w'.cell? ⟨b, 2, none⟩ = some (.int .u64 z3) ∧ w'.cell? ⟨b, 3, none⟩ = some (.int .u64 x3)) (ds := [13]) #[fF,fF,fF,fF,fF,fF,fF,fF,fF,fF,fF,fF,fF,fF] (by kernel_rfl) rfl rfl ⟨T2, T3⟩ (fun hHeld => ?_)
  refine p_ 0 45 ?_
  refine p_ 1 46 ?_
  refine p_ 2 47 ?_
  refine p_ 3 48 ?_
  refine p_ 6 51 ?_
  refine p_ 7 52 ?_
  refine p_ 8 53 ?_
  refine t_ 4 49 hHeld ?_
  refine t_ 9 54 hHeld ?_
  refine o_ 5 (some 50) (fun K hK => ?_)
  refine g_ Try.func108 #[.int .u64 x3, .int .i64 16] ?_
  with_reducible refine (rotl_calls _ (by decide) _).mono ?_
  rintro e w3 ⟨rfl, ⟨⟨nq, rfl⟩⟩⟩
  refine ⟨_, rfl, ?_⟩
  refine hK.out _ _ ⟨T2, T3⟩ (fun hHeld => ?_)
  clear hK K
  refine n_ 50 ?_
  refine p_ 10 55 ?_
  refine p_ 11 56 ?_
  refine p_ 12 57 ?_
  refine l_ 13 none (fun K hK => ?_)
  refine s_ ?_
  refine hK.out _ _ ?_
  clear hK K
  refine done_ (by kernel_rfl) ?_
  have HE4 : Aside0 (∃ z, Go.bits .xor .u64 (rotl x3 16) z3 = z) := am_ ⟨_, rfl⟩
  obtain ⟨z4, hz4⟩ := HE4.out
  clear HE4
  refine ex_w (fun W => SipAt w0 W b z2 z1 z3 z4) ?_ ?_
  · subst hz4; first | exact (H4.out.set3 _).drew | exact (H4.out.drewN _).set3 _ | exact ((H4.out.drewN _).set3 _).drew
  intro v4 hv
  have H5 := am_ hv
  have HZ4 := am_ hz4
  clear hz4 T0 T1 T2 T3 U0 U1 U2 U3 H4
  try clear hHeld
  obtain ⟨T0, T1, T2, T3⟩ := hv.cells
  obtain ⟨U0, U1, U2, U3⟩ := hv.free
  clear hv
  go_upto_region 5 with fail
  refine start_ (n := 12) (S := fun w' => w'.cell? ⟨b, 0, none⟩ = some (.int .u64 z2) ∧ w'.cell? ⟨b, 3, none⟩ = some (.int .u64 z4)) (ds := [11]) #[fF,fF,fF,fF,fF,fF,fF,fF,fF,fF,fF,fF] (by kernel_rfl) rfl rfl ⟨T0, T3⟩ (fun hHeld => ?_)
  refine p_ 0 58 ?_
  refine p_ 1 59 ?_
  refine p_ 2 60 ?_
  refine p_ 4 62 ?_
  refine p_ 5 63 ?_
  refine p_ 6 64 ?_
  refine t_ 3 61 hHeld ?_
  refine t_ 7 65 hHeld ?_
  refine p_ 8 66 ?_
  refine p_ 9 67 ?_
  refine p_ 10 68 ?_
  refine l_ 11 none (fun K hK => ?_)
  refine s_ ?_
  refine hK.out _ _ ?_
  clear hK K
  refine done_ (by kernel_rfl) ?_
  have HE5 : Aside0 (∃ z, IntKind.u64.wrap (z2 + z4) = z) := am_ ⟨_, rfl⟩
  obtain ⟨z5, hz5⟩ := HE5.out
  clear HE5
  refine ex_w (fun W => SipAt w0 W b z5 z1 z3 z4) ?_ ?_
  · subst hz5; first | exact (H5.out.set0 _).drew | exact (H5.out.drewN _).set0 _ | exact ((H5.out.drewN _).set0 _).drew
  intro v5 hv
  have H6 := am_ hv
  have HZ5 := am_ hz5
  clear hz5 T0 T1 T2 T3 U0 U1 U2 U3 H5
  try clear hHeld
  obtain ⟨T0, T1, T2, T3⟩ := hv.cells
  obtain ⟨U0, U1, U2, U3⟩ := hv.free
  clear hv
  go_upto_region 6 with fail
  refine start_ (n := 14) (S := fun w' => w'.cell? ⟨b, 0, none⟩ = some (.int .u64 z5) ∧ w'.cell? ⟨b, 3, none⟩ = some (.int .u64 z4)) (ds := [13]) #[fF,fF,fF,fF,fF,fF,fF,fF,fF,fF,fF,fF,fF,fF] (by kernel_rfl) rfl rfl ⟨T0, T3⟩ (fun hHeld => ?_)
  refine p_ 0 69 ?_
  refine p_ 1 70 ?_
  refine p_ 2 71 ?_
  refine p_ 3 72 ?_
  refine p_ 6 75 ?_
  refine p_ 7 76 ?_
  refine p_ 8 77 ?_
  refine t_ 4 73 hHeld ?_
  refine t_ 9 78 hHeld ?_
  refine o_ 5 (some 74) (fun K hK => ?_)
  refine g_ Try.func108 #[.int .u64 z4, .int .i64 21] ?_
  with_reducible refine (rotl_calls _ (by decide) _).mono ?_
  rintro e w3 ⟨rfl, ⟨⟨nq, rfl⟩⟩⟩
  refine ⟨_, rfl, ?_⟩
  refine hK.out _ _ ⟨T0, T3⟩ (fun hHeld => ?_)
  clear hK K
  refine n_ 74 ?_
  refine p_ 10 79 ?_
  refine p_ 11 80 ?_
  refine p_ 12 81 ?_
  refine l_ 13 none (fun K hK => ?_)
  refine s_ ?_
  refine hK.out _ _ ?_
  clear hK K
  refine done_ (by kernel_rfl) ?_
  have HE6 : Aside0 (∃ z, Go.bits .xor .u64 (rotl z4 21) z5 = z) := am_ ⟨_, rfl⟩
  obtain ⟨z6, hz6⟩ := HE6.out
  clear HE6
  refine ex_w (fun W => SipAt w0 W b z5 z1 z3 z6) ?_ ?_
  · subst hz6; first | exact (H6.out.set3 _).drew | exact (H6.out.drewN _).set3 _ | exact ((H6.out.drewN _).set3 _).drew
  intro v6 hv
  have H7 := am_ hv
  have HZ6 := am_ hz6
  clear hz6 T0 T1 T2 T3 U0 U1 U2 U3 H6
  try clear hHeld
  obtain ⟨T0, T1, T2, T3⟩ := hv.cells
  obtain ⟨U0, U1, U2, U3⟩ := hv.free
  clear hv
  go_upto_region 7 with fail
  refine start_ (n := 12) (S := fun w' => w'.cell? ⟨b, 1, none⟩ = some (.int .u64 z1) ∧ w'.cell? ⟨b, 2, none⟩ = some (.int .u64 z3)) (ds := [11]) #[fF,fF,fF,fF,fF,fF,fF,fF,fF,fF,fF,fF] (by kernel_rfl) rfl rfl ⟨T1, T2⟩ (fun hHeld => ?_)
  refine p_ 0 82 ?_
  refine p_ 1 83 ?_
  refine p_ 2 84 ?_
  refine p_ 4 86 ?_
  refine p_ 5 87 ?_
  refine p_ 6 88 ?_
  refine t_ 3 85 hHeld ?_
  refine t_ 7 89 hHeld ?_
  refine p_ 8 90 ?_
  refine p_ 9 91 ?_
  refine p_ 10 92 ?_
  refine l_ 11 none (fun K hK => ?_)
  refine s_ ?_
  refine hK.out _ _ ?_
  clear hK K
  refine done_ (by kernel_rfl) ?_
  have HE7 : Aside0 (∃ z, IntKind.u64.wrap (z3 + z1) = z) := am_ ⟨_, rfl⟩
  obtain ⟨z7, hz7⟩ := HE7.out
  clear HE7
  refine ex_w (fun W => SipAt w0 W b z5 z1 z7 z6) ?_ ?_
  · subst hz7; first | exact (H7.out.set2 _).drew | exact (H7.out.drewN _).set2 _ | exact ((H7.out.drewN _).set2 _).drew
  intro v7 hv
  have H8 := am_ hv
  have HZ7 := am_ hz7
  clear hz7 T0 T1 T2 T3 U0 U1 U2 U3 H7
  try clear hHeld
  obtain ⟨T0, T1, T2, T3⟩ := hv.cells
  obtain ⟨U0, U1, U2, U3⟩ := hv.free
  clear hv
  go_upto_region 8 with fail
  refine start_ (n := 14) (S := fun w' => w'.cell? ⟨b, 1, none⟩ = some (.int .u64 z1) ∧ w'.cell? ⟨b, 2, none⟩ = some (.int .u64 z7)) (ds := [13]) #[fF,fF,fF,fF,fF,fF,fF,fF,fF,fF,fF,fF,fF,fF] (by kernel_rfl) rfl rfl ⟨T1, T2⟩ (fun hHeld => ?_)
  refine p_ 0 93 ?_
  refine p_ 1 94 ?_
  refine p_ 2 95 ?_
  refine p_ 3 96 ?_
  refine p_ 6 99 ?_
  refine p_ 7 100 ?_
  refine p_ 8 101 ?_
  refine t_ 4 97 hHeld ?_
  refine t_ 9 102 hHeld ?_
  refine o_ 5 (some 98) (fun K hK => ?_)
  refine g_ Try.func108 #[.int .u64 z1, .int .i64 17] ?_
  with_reducible refine (rotl_calls _ (by decide) _).mono ?_
  rintro e w3 ⟨rfl, ⟨⟨nq, rfl⟩⟩⟩
  refine ⟨_, rfl, ?_⟩
  refine hK.out _ _ ⟨T1, T2⟩ (fun hHeld => ?_)
  clear hK K
  refine n_ 98 ?_
  refine p_ 10 103 ?_
  refine p_ 11 104 ?_
  refine p_ 12 105 ?_
  refine l_ 13 none (fun K hK => ?_)
  refine s_ ?_
  refine hK.out _ _ ?_
  clear hK K
  refine done_ (by kernel_rfl) ?_
  have HE8 : Aside0 (∃ z, Go.bits .xor .u64 (rotl z1 17) z7 = z) := am_ ⟨_, rfl⟩
  obtain ⟨z8, hz8⟩ := HE8.out
  clear HE8
  refine ex_w (fun W => SipAt w0 W b z5 z8 z7 z6) ?_ ?_
  · subst hz8; first | exact (H8.out.set1 _).drew | exact (H8.out.drewN _).set1 _ | exact ((H8.out.drewN _).set1 _).drew
  intro v8 hv
  have H9 := am_ hv
  have HZ8 := am_ hz8
  clear hz8 T0 T1 T2 T3 U0 U1 U2 U3 H8
  try clear hHeld
  obtain ⟨T0, T1, T2, T3⟩ := hv.cells
  obtain ⟨U0, U1, U2, U3⟩ := hv.free
  clear hv
  go_wp2_with (first | (go_at_call 108; (with_reducible refine (rotl_calls _ (by decide) _).mono ?_); rintro e w3 ⟨rfl, ⟨⟨nq, rfl⟩⟩⟩))
  go_end0
  refine ⟨rfl, ?_⟩
  have hf : ∀ W, SipAt w0 W b z5 z8 (rotl z7 32) z6 → SipAt w0 W b (roundS ⟨x0, x1, x2, x3⟩).a (roundS ⟨x0, x1, x2, x3⟩).b (roundS ⟨x0, x1, x2, x3⟩).c (roundS ⟨x0, x1, x2, x3⟩).d := by
    intro W hW
    have q := hW
    rw [← HZ8.out, ← HZ7.out, ← HZ6.out, ← HZ5.out, ← HZ4.out, ← HZ3.out, ← HZ2.out, ← HZ1.out, ← HZ0.out] at q
    exact q
  refine hf _ ?_
  exact (H9.out.drewN _).set2 _
end Go.Proofs.Ytgkmbefamcnifaa.TB
namespace Go.Proofs.Ytgkmbefamcnifaa.Hp
open Go.RowKit Go.Proofs.YtgkmbefamcnifaaW.PrintWords Go.Proofs.YtgkmbefamcnifaaW.PrintLast Go.Proofs.YtgkmbefamcnifaaW.PrintMore
set_option linter.unusedVariables false
set_option linter.unusedSimpArgs false
def wire_head.j0 : Nat → List Int → Bool → Option (Int)
  | 0, _, _ => none
  | k + 1, x0, x14 => if x14 = true then (some 3) else (if 16 ≤ (x0.length : Int) then ((sum_Right.f k (x0.take 16)).bind fun t169 => (if t169 = true then (if (x0.length : Int) < 24 then (some 1) else (if 0 < (x0.length : Int) then (if (wrap64 (rd x0 0)) = 3 then (if (x0.length : Int) < 44 then (some 1) else (some 0)) else (some 0)) else (none))) else (some 4))) else (none))
def wire_head.f (k : Nat) (l0 : List Int) : Option (Int) := if (l0.length : Int) < 16 then (some 1) else (if 0 < (l0.length : Int) then ((wire_known.f (wrap64 (rd l0 0))).bind fun t165 => (if t165 = true then ((wire_get.f k l0 2 2).bind fun t166 => (if t166 = (l0.length : Int) then (if (l0.length : Int) > 1500 then (wire_head.j0 k l0 true) else (if 13 < (l0.length : Int) then (wire_head.j0 k l0 ((rd l0 13) != 0)) else (none))) else (wire_head.j0 k l0 true))) else (some 2))) else (none))
theorem wire_head.mono_l : ∀ k, (∀ y0 y1, LeO (wire_head.j0 k y0 y1) (wire_head.j0 (k + 1) y0 y1))
  | 0 => fun _ _ r h => by simp [wire_head.j0] at h
  | k + 1 => by
    have ih0 := wire_head.mono_l k
    · intro y0 y1
      unfold wire_head.j0
      repeat' first
      | (with_reducible exact ih0 _ _)
      | (with_reducible exact sum_Right.mono _ _)
      | (with_reducible exact wire_get.mono _ _ _ _)
      | (with_reducible exact LeO.refl _)
      | (with_reducible exact LeO.none _)
      | (with_reducible refine LeO.ite ?_ ?_)
      | (with_reducible refine LeO.bind ?_ (fun _ => ?_))
      | exact ih0 _ _
      | exact sum_Right.mono _ _
      | exact wire_get.mono _ _ _ _
      | exact LeO.none _
      | refine LeO.ite ?_ ?_
      | refine LeO.bind ?_ (fun _ => ?_)
theorem wire_head.mono : ∀ a0 k, LeO (wire_head.f k a0) (wire_head.f (k + 1) a0) := by
  intro a0 k
  have ih0 := wire_head.mono_l k
  unfold wire_head.f
  repeat' first
      | (with_reducible exact ih0 _ _)
      | (with_reducible exact sum_Right.mono _ _)
      | (with_reducible exact wire_get.mono _ _ _ _)
      | (with_reducible exact LeO.refl _)
      | (with_reducible exact LeO.none _)
      | (with_reducible refine LeO.ite ?_ ?_)
      | (with_reducible refine LeO.bind ?_ (fun _ => ?_))
      | exact ih0 _ _
      | exact sum_Right.mono _ _
      | exact wire_get.mono _ _ _ _
      | exact LeO.none _
      | refine LeO.ite ?_ ?_
      | refine LeO.bind ?_ (fun _ => ?_)
theorem wire_head.calls (k : Nat) (A0 : Option Addr) (c0 : Nat) (l0 : List Int) (r : Int) (w : World) (hr0 : Kd.C (Kd.int .u8) w A0 l0.length l0) (hc0 : l0.length ≤ c0) (h : wire_head.f k l0 = some r) :
    Calls Try.prog 47 #[.slice A0 l0.length c0] w fun e w' => e = .returned (.int .i64 r) ∧ Drawn0 w w' := by
  have HR0 := am_ hr0
  have HC0 := am_ hc0
  clear hr0 hc0
  have H : (if (l0.length : Int) < 16 then (some 1) else (if 0 < (l0.length : Int) then ((wire_known.f (wrap64 (rd l0 0))).bind fun t165 => (if t165 = true then ((wire_get.f k l0 2 2).bind fun t166 => (if t166 = (l0.length : Int) then (if (l0.length : Int) > 1500 then (wire_head.j0 k l0 true) else (if 13 < (l0.length : Int) then (wire_head.j0 k l0 ((rd l0 13) != 0)) else (none))) else (wire_head.j0 k l0 true))) else (some 2))) else (none))) = some r := h
  clear h
  by_cases c2 : (l0.length : Int) < 16
  · rw [if_pos c2] at H
    have c2b0 : decide ((l0.length : Int) < 16) = true := decide_eq_true c2
    have c2b1 : decide (l0.length < 16) = true := decide_eq_true (by omega)
    clear c2
    obtain rfl := Option.some.inj H
    go_enter Try.func47, Try.ntmps47
    go_wp2
    go_ret
    exact ⟨by first | rfl | (simp; done) | (simp [*]; done), by repeat (first | exact Drawn0.refl _ | apply Drawn0.step)⟩
  · rw [if_neg c2] at H
    have c2b0 : decide ((l0.length : Int) < 16) = false := decide_eq_false c2
    have c2b1 : decide (l0.length < 16) = false := decide_eq_false (by omega)
    clear c2
    by_cases c3 : 0 < (l0.length : Int)
    · rw [if_pos c3] at H
      have c3b0 : decide (0 < (l0.length : Int)) = true := decide_eq_true c3
      have c3b1 : decide (0 < l0.length) = true := decide_eq_true (by omega)
      clear c3
      replace H := Option.bind_eq_some_iff.mp H
      obtain ⟨t165, A40, H⟩ := H
      replace H : (if t165 = true then ((wire_get.f k l0 2 2).bind fun t166 => (if t166 = (l0.length : Int) then (if (l0.length : Int) > 1500 then (wire_head.j0 k l0 true) else (if 13 < (l0.length : Int) then (wire_head.j0 k l0 ((rd l0 13) != 0)) else (none))) else (wire_head.j0 k l0 true))) else (some 2)) = some r := H
      have A4 := am_ A40
      clear A40
      by_cases c5 : t165 = true
      · subst c5
        have H1 : ((wire_get.f k l0 2 2).bind fun t166 => (if t166 = (l0.length : Int) then (if (l0.length : Int) > 1500 then (wire_head.j0 k l0 true) else (if 13 < (l0.length : Int) then (wire_head.j0 k l0 ((rd l0 13) != 0)) else (none))) else (wire_head.j0 k l0 true))) = some r := by rw [if_pos rfl] at H; exact H
        clear H
        have H := H1
        clear H1
        have HC6 := am_ H
        clear H
        have p164 : 0 ≤ (0 : Int) := (by omega)
        have q164 : 0 < (l0.length : Int) := of_decide_eq_true (by first | (with_reducible assumption) | assumption)
        obtain ⟨ad164, e164, hx164_0⟩ := Kd.at_int HR0.out 0 p164 q164
        cases e164
        have qi164 : (0 < l0.length) = True := eq_true (by omega)
        (try rw [show ((0 : Int)).toNat = 0 from rfl] at hx164_0)
        (try rw [Addr.add_zero'] at hx164_0)
        replace p164 := eq_true p164
        replace q164 := eq_true q164
        go_enter Try.func47, Try.ntmps47
        go_upto_region 5 with (first | ((with_reducible refine gate_callee (f := 33) rfl ?_); refine goesL_ (some 12) rfl rfl Try.func33 (by kernel_rfl) rfl #[.int .i64 (wrap64 (rd l0 0))] rfl (by (try simp only [List.map_toArray, List.map_cons, List.map_nil]); first | done | rfl | (simp only [List.length_drop, List.length_take]; rfl)) ?_; (with_reducible refine (wire_known.calls (wrap64 (rd l0 0)) true _ A4.out).mono ?_); rintro e w' ⟨rfl, ⟨nd, rfl⟩⟩; refine ⟨_, rfl, ?_⟩))
        (try simp only [Act.put, List.setIfInBounds_toArray, List.set_cons_zero, List.set_cons_succ])
        go_cut [14] (fun v14 wc => ∃ (kq : Nat) (x14_5 : Bool), v14 = .bool x14_5 ∧ Aside0 (wire_head.j0 kq l0 x14_5 = some r) ∧ Aside0 (kq ≤ k) ∧ Drawn0 w wc)
        case first =>
          have H := HC6.out
          clear HC6
          replace H := Option.bind_eq_some_iff.mp H
          obtain ⟨t166, A70, H⟩ := H
          replace H : (if t166 = (l0.length : Int) then (if (l0.length : Int) > 1500 then (wire_head.j0 k l0 true) else (if 13 < (l0.length : Int) then (wire_head.j0 k l0 ((rd l0 13) != 0)) else (none))) else (wire_head.j0 k l0 true)) = some r := H
          have A7 := am_ A70
          clear A70
          by_cases c8 : t166 = (l0.length : Int)
          · rw [if_pos c8] at H
            have c8b0 : (t166 == (l0.length : Int)) = true := beq_iff_eq.mpr c8
            have c8b1 : (t166 != (l0.length : Int)) = false := bne_eq_false_iff_eq.mpr c8
            clear c8
            (first | rw [c8b0] | (simp only [i64_w, i32_w]; rw [c8b0]) | skip)
            by_cases c9 : (l0.length : Int) > 1500
            · rw [if_pos c9] at H
              have c9b0 : decide (1500 < (l0.length : Int)) = true := decide_eq_true c9
              have c9b1 : decide (1500 < l0.length) = true := decide_eq_true (by omega)
              clear c9
              have H' := am_ H
              clear H
              go_wp2_with (first | ((with_reducible refine gate_callee (f := 48) rfl ?_); refine goesL_ (some 16) rfl rfl Try.func48 (by kernel_rfl) rfl #[.slice (some ad164) l0.length c0, .int .i64 2, .int .i64 2] rfl (by (try simp only [List.map_toArray, List.map_cons, List.map_nil]); first | done | rfl | (simp only [List.length_drop, List.length_take]; rfl)) ?_; (with_reducible refine (wire_get.calls k _ _ l0 2 2 t166 _ ?side1 ?side2 A7.out).mono ?_); (case side1 => repeat (first | exact HR0.out | (with_reducible refine Kd.C_alloc ?_ _) | (with_reducible refine Kd.C_drewN ?_ _) | (with_reducible refine Kd.C_drew ?_))); (case side2 => exact HC0.out); rintro e w' ⟨rfl, ⟨nd, rfl⟩⟩; refine ⟨_, rfl, ?_⟩))
              go_meet
              case rel => exact ⟨_, (true), (by first | rfl | (simp; done) | (simp [*]; done)), H', ⟨by first | omega | exact Nat.le_refl _⟩, by repeat (first | exact Drawn0.refl _ | apply Drawn0.step)⟩
            · rw [if_neg c9] at H
              have c9b0 : decide (1500 < (l0.length : Int)) = false := decide_eq_false c9
              have c9b1 : decide (1500 < l0.length) = false := decide_eq_false (by omega)
              clear c9
              by_cases c10 : 13 < (l0.length : Int)
              · rw [if_pos c10] at H
                have c10b0 : decide (13 < (l0.length : Int)) = true := decide_eq_true c10
                have c10b1 : decide (13 < l0.length) = true := decide_eq_true (by omega)
                clear c10
                have H' := am_ H
                clear H
                go_wp2_with (first | ((with_reducible refine gate_callee (f := 48) rfl ?_); refine goesL_ (some 16) rfl rfl Try.func48 (by kernel_rfl) rfl #[.slice (some ad164) l0.length c0, .int .i64 2, .int .i64 2] rfl (by (try simp only [List.map_toArray, List.map_cons, List.map_nil]); first | done | rfl | (simp only [List.length_drop, List.length_take]; rfl)) ?_; (with_reducible refine (wire_get.calls k _ _ l0 2 2 t166 _ ?side1 ?side2 A7.out).mono ?_); (case side1 => repeat (first | exact HR0.out | (with_reducible refine Kd.C_alloc ?_ _) | (with_reducible refine Kd.C_drewN ?_ _) | (with_reducible refine Kd.C_drew ?_))); (case side2 => exact HC0.out); rintro e w' ⟨rfl, ⟨nd, rfl⟩⟩; refine ⟨_, rfl, ?_⟩; have p167 : 0 ≤ (13 : Int) := (by omega); have q167 : 13 < (l0.length : Int) := of_decide_eq_true (by first | (with_reducible assumption) | assumption); obtain ⟨ad167, e167, hx167_0⟩ := Kd.at_int HR0.out 13 p167 q167; obtain rfl : ad164 = ad167 := (by injection e167); (try simp only [show (13 : Int).toNat = 13 from rfl, Nat.reduceMul, Nat.reduceEqDiff, Go.Addr.add, ↓reduceIte] at hx167_0); have qi167 : (13 < l0.length) = True := eq_true (by omega); (try rw [show ((13 : Int)).toNat = 13 from rfl] at hx167_0); replace p167 := eq_true p167; replace q167 := eq_true q167))
                go_meet
                case rel => exact ⟨_, (((rd l0 13) != 0)), (by first | rfl | (simp; done) | (simp [*]; done)), H', ⟨by first | omega | exact Nat.le_refl _⟩, by repeat (first | exact Drawn0.refl _ | apply Drawn0.step)⟩
              · rw [if_neg c10] at H
                exact absurd H (by simp)
          · rw [if_neg c8] at H
            have c8b0 : (t166 == (l0.length : Int)) = false := beq_eq_false_iff_ne.mpr c8
            have c8b1 : (t166 != (l0.length : Int)) = true := bne_iff_ne.mpr c8
            (first | rw [c8b0] | (simp only [i64_w, i32_w]; rw [c8b0]) | skip)
            have H' := am_ H
            clear H
            go_wp2_with (first | ((with_reducible refine gate_callee (f := 48) rfl ?_); refine goesL_ (some 16) rfl rfl Try.func48 (by kernel_rfl) rfl #[.slice (some ad164) l0.length c0, .int .i64 2, .int .i64 2] rfl (by (try simp only [List.map_toArray, List.map_cons, List.map_nil]); first | done | rfl | (simp only [List.length_drop, List.length_take]; rfl)) ?_; (with_reducible refine (wire_get.calls k _ _ l0 2 2 t166 _ ?side1 ?side2 A7.out).mono ?_); (case side1 => repeat (first | exact HR0.out | (with_reducible refine Kd.C_alloc ?_ _) | (with_reducible refine Kd.C_drewN ?_ _) | (with_reducible refine Kd.C_drew ?_))); (case side2 => exact HC0.out); rintro e w' ⟨rfl, ⟨nd, rfl⟩⟩; refine ⟨_, rfl, ?_⟩))
            go_meet
            case rel => exact ⟨_, (true), (by first | rfl | (simp; done) | (simp [*]; done)), H', ⟨by first | omega | exact Nat.le_refl _⟩, by repeat (first | exact Drawn0.refl _ | apply Drawn0.step)⟩
        case rest =>
          clear HC6
          try clear c1
          try clear p1
          try clear q1
          try clear hx1
          try clear qi1
          try clear c2
          try clear c2b0
          try clear c2b1
          try clear p2
          try clear c3
          try clear c3b0
          try clear c3b1
          try clear c4
          try clear c5
          try clear p6
          try clear c8
          try clear c8b0
          try clear c8b1
          try clear c9
          try clear c9b0
          try clear c9b1
          try clear c10
          try clear c10b0
          try clear c10b1
          try clear hx164_0
          try clear hx167_0
          try clear p164
          try clear p167
          try clear q164
          try clear q167
          obtain ⟨kq, x14_5, rfl, HA, HJ5, ⟨mc5, rfl⟩⟩ := hcut
          cases kq with
          | zero => exact absurd HA.out (by simp [wire_head.j0])
          | succ kj5 =>
            have H := HA.out
            clear HA
            simp only [wire_head.j0] at H
            by_cases c11 : x14_5 = true
            · subst c11
              have H1 : (some 3) = some r := by rw [if_pos rfl] at H; exact H
              clear H
              have H := H1
              clear H1
              obtain rfl := Option.some.inj H
              go_wp2
              go_ret
              exact ⟨by first | rfl | (simp; done) | (simp [*]; done), by repeat (first | exact Drawn0.refl _ | apply Drawn0.step)⟩
            · replace c11 := Bool.eq_false_iff.mpr c11
              subst c11
              have H1 : (if 16 ≤ (l0.length : Int) then ((sum_Right.f kj5 (l0.take 16)).bind fun t169 => (if t169 = true then (if (l0.length : Int) < 24 then (some 1) else (if 0 < (l0.length : Int) then (if (wrap64 (rd l0 0)) = 3 then (if (l0.length : Int) < 44 then (some 1) else (some 0)) else (some 0)) else (none))) else (some 4))) else (none)) = some r := by rw [if_neg (show ¬ (false = true) by decide)] at H; exact H
              clear H
              have H := H1
              clear H1
              by_cases c12 : 16 ≤ (l0.length : Int)
              · rw [if_pos c12] at H
                have c12b0 := eq_true c12
                have c12b1 : decide (16 ≤ (l0.length : Int)) = true := decide_eq_true c12
                clear c12
                replace H := Option.bind_eq_some_iff.mp H
                obtain ⟨t169, A130, H⟩ := H
                replace H : (if t169 = true then (if (l0.length : Int) < 24 then (some 1) else (if 0 < (l0.length : Int) then (if (wrap64 (rd l0 0)) = 3 then (if (l0.length : Int) < 44 then (some 1) else (some 0)) else (some 0)) else (none))) else (some 4)) = some r := H
                have A13 := am_ A130
                clear A130
                by_cases c14 : t169 = true
                · subst c14
                  have H1 : (if (l0.length : Int) < 24 then (some 1) else (if 0 < (l0.length : Int) then (if (wrap64 (rd l0 0)) = 3 then (if (l0.length : Int) < 44 then (some 1) else (some 0)) else (some 0)) else (none))) = some r := by rw [if_pos rfl] at H; exact H
                  clear H
                  have H := H1
                  clear H1
                  by_cases c15 : (l0.length : Int) < 24
                  · rw [if_pos c15] at H
                    have c15b0 : decide ((l0.length : Int) < 24) = true := decide_eq_true c15
                    have c15b1 : decide (l0.length < 24) = true := decide_eq_true (by omega)
                    clear c15
                    obtain rfl := Option.some.inj H
                    obtain ⟨i016, hi016, _, hsz16, _⟩ := info_parts info5
                    obtain ⟨hcut16, hA16, hC16⟩ := print_take_of (P := Try.prog) (Value.int .u8) 0 23 5 .i64 Try.underlying23 hi016 hsz16 (some ad164) c0 l0 16 (by omega) (of_decide_eq_true (by first | (with_reducible assumption) | assumption)) HC0.out
                    have HR168 := am_ (Kd.C_of_reads (h1 := fun _ => rfl) (hA16 _ (Kd.reads_of_C HR0.out)))
                    have HC168 := am_ hC16
                    clear hA16 hC16 hi016 hsz16
                    go_wp2_with (first | ((with_reducible refine gate_callee (f := 50) rfl ?_); refine goesL_ (some 34) rfl rfl Try.func50 (by kernel_rfl) rfl #[.slice (some ad164) (l0.take 16).length c0] rfl (by (try simp only [List.map_toArray, List.map_cons, List.map_nil]); first | done | (rw [show (l0.take 16).length = 16 from (by rw [List.length_take]; have h_ : (16 : Int) ≤ (l0.length : Int) := of_decide_eq_true (by first | (with_reducible assumption) | assumption); omega)] <;> rfl) | rfl | (simp only [List.length_drop, List.length_take]; rfl)) ?_; (with_reducible refine (sum_Right.calls kj5 _ _ (l0.take 16) true _ ?side1 ?side2 A13.out).mono ?_); (case side1 => repeat (first | exact HR168.out | (with_reducible refine Kd.C_alloc ?_ _) | (with_reducible refine Kd.C_drewN ?_ _) | (with_reducible refine Kd.C_drew ?_))); (case side2 => exact HC168.out); rintro e w' ⟨rfl, ⟨nd, rfl⟩⟩; refine ⟨_, rfl, ?_⟩))
                    go_ret
                    exact ⟨by first | rfl | (simp; done) | (simp [*]; done), by repeat (first | exact Drawn0.refl _ | apply Drawn0.step)⟩
                  · rw [if_neg c15] at H
                    have c15b0 : decide ((l0.length : Int) < 24) = false := decide_eq_false c15
                    have c15b1 : decide (l0.length < 24) = false := decide_eq_false (by omega)
                    clear c15
                    by_cases c17 : 0 < (l0.length : Int)
                    · rw [if_pos c17] at H
                      have c17b0 : decide (0 < (l0.length : Int)) = true := decide_eq_true c17
                      have c17b1 : decide (0 < l0.length) = true := decide_eq_true (by omega)
                      clear c17
                      by_cases c18 : (wrap64 (rd l0 0)) = 3
                      · rw [if_pos c18] at H
                        have c18b0 : ((wrap64 (rd l0 0)) == 3) = true := beq_iff_eq.mpr c18
                        have c18b1 : ((wrap64 (rd l0 0)) != 3) = false := bne_eq_false_iff_eq.mpr c18
                        clear c18
                        by_cases c19 : (l0.length : Int) < 44
                        · rw [if_pos c19] at H
                          have c19b0 : decide ((l0.length : Int) < 44) = true := decide_eq_true c19
                          have c19b1 : decide (l0.length < 44) = true := decide_eq_true (by omega)
                          clear c19
                          obtain rfl := Option.some.inj H
                          obtain ⟨i020, hi020, _, hsz20, _⟩ := info_parts info5
                          obtain ⟨hcut20, hA20, hC20⟩ := print_take_of (P := Try.prog) (Value.int .u8) 0 23 5 .i64 Try.underlying23 hi020 hsz20 (some ad164) c0 l0 16 (by omega) (of_decide_eq_true (by first | (with_reducible assumption) | assumption)) HC0.out
                          have HR168 := am_ (Kd.C_of_reads (h1 := fun _ => rfl) (hA20 _ (Kd.reads_of_C HR0.out)))
                          have HC168 := am_ hC20
                          clear hA20 hC20 hi020 hsz20
                          go_wp2_with (first | ((with_reducible refine gate_callee (f := 50) rfl ?_); refine goesL_ (some 34) rfl rfl Try.func50 (by kernel_rfl) rfl #[.slice (some ad164) (l0.take 16).length c0] rfl (by (try simp only [List.map_toArray, List.map_cons, List.map_nil]); first | done | (rw [show (l0.take 16).length = 16 from (by rw [List.length_take]; have h_ : (16 : Int) ≤ (l0.length : Int) := of_decide_eq_true (by first | (with_reducible assumption) | assumption); omega)] <;> rfl) | rfl | (simp only [List.length_drop, List.length_take]; rfl)) ?_; (with_reducible refine (sum_Right.calls kj5 _ _ (l0.take 16) true _ ?side1 ?side2 A13.out).mono ?_); (case side1 => repeat (first | exact HR168.out | (with_reducible refine Kd.C_alloc ?_ _) | (with_reducible refine Kd.C_drewN ?_ _) | (with_reducible refine Kd.C_drew ?_))); (case side2 => exact HC168.out); rintro e w' ⟨rfl, ⟨nd, rfl⟩⟩; refine ⟨_, rfl, ?_⟩; have p170 : 0 ≤ (0 : Int) := (by omega); have q170 : 0 < (l0.length : Int) := of_decide_eq_true (by first | (with_reducible assumption) | assumption); obtain ⟨ad170, e170, hx170_0⟩ := Kd.at_int HR0.out 0 p170 q170; obtain rfl : ad164 = ad170 := (by injection e170); have qi170 : (0 < l0.length) = True := eq_true (by omega); (try rw [show ((0 : Int)).toNat = 0 from rfl] at hx170_0); (try rw [Addr.add_zero'] at hx170_0); replace p170 := eq_true p170; replace q170 := eq_true q170))
                          go_ret
                          exact ⟨by first | rfl | (simp; done) | (simp [*]; done), by repeat (first | exact Drawn0.refl _ | apply Drawn0.step)⟩
                        · rw [if_neg c19] at H
                          have c19b0 : decide ((l0.length : Int) < 44) = false := decide_eq_false c19
                          have c19b1 : decide (l0.length < 44) = false := decide_eq_false (by omega)
                          clear c19
                          obtain rfl := Option.some.inj H
                          obtain ⟨i021, hi021, _, hsz21, _⟩ := info_parts info5
                          obtain ⟨hcut21, hA21, hC21⟩ := print_take_of (P := Try.prog) (Value.int .u8) 0 23 5 .i64 Try.underlying23 hi021 hsz21 (some ad164) c0 l0 16 (by omega) (of_decide_eq_true (by first | (with_reducible assumption) | assumption)) HC0.out
                          have HR168 := am_ (Kd.C_of_reads (h1 := fun _ => rfl) (hA21 _ (Kd.reads_of_C HR0.out)))
                          have HC168 := am_ hC21
                          clear hA21 hC21 hi021 hsz21
                          go_wp2_with (first | ((with_reducible refine gate_callee (f := 50) rfl ?_); refine goesL_ (some 34) rfl rfl Try.func50 (by kernel_rfl) rfl #[.slice (some ad164) (l0.take 16).length c0] rfl (by (try simp only [List.map_toArray, List.map_cons, List.map_nil]); first | done | (rw [show (l0.take 16).length = 16 from (by rw [List.length_take]; have h_ : (16 : Int) ≤ (l0.length : Int) := of_decide_eq_true (by first | (with_reducible assumption) | assumption); omega)] <;> rfl) | rfl | (simp only [List.length_drop, List.length_take]; rfl)) ?_; (with_reducible refine (sum_Right.calls kj5 _ _ (l0.take 16) true _ ?side1 ?side2 A13.out).mono ?_); (case side1 => repeat (first | exact HR168.out | (with_reducible refine Kd.C_alloc ?_ _) | (with_reducible refine Kd.C_drewN ?_ _) | (with_reducible refine Kd.C_drew ?_))); (case side2 => exact HC168.out); rintro e w' ⟨rfl, ⟨nd, rfl⟩⟩; refine ⟨_, rfl, ?_⟩; have p170 : 0 ≤ (0 : Int) := (by omega); have q170 : 0 < (l0.length : Int) := of_decide_eq_true (by first | (with_reducible assumption) | assumption); obtain ⟨ad170, e170, hx170_0⟩ := Kd.at_int HR0.out 0 p170 q170; obtain rfl : ad164 = ad170 := (by injection e170); have qi170 : (0 < l0.length) = True := eq_true (by omega); (try rw [show ((0 : Int)).toNat = 0 from rfl] at hx170_0); (try rw [Addr.add_zero'] at hx170_0); replace p170 := eq_true p170; replace q170 := eq_true q170))
                          go_ret
                          exact ⟨by first | rfl | (simp; done) | (simp [*]; done), by repeat (first | exact Drawn0.refl _ | apply Drawn0.step)⟩
                      · rw [if_neg c18] at H
                        have c18b0 : ((wrap64 (rd l0 0)) == 3) = false := beq_eq_false_iff_ne.mpr c18
                        have c18b1 : ((wrap64 (rd l0 0)) != 3) = true := bne_iff_ne.mpr c18
                        obtain rfl := Option.some.inj H
                        obtain ⟨i022, hi022, _, hsz22, _⟩ := info_parts info5
                        obtain ⟨hcut22, hA22, hC22⟩ := print_take_of (P := Try.prog) (Value.int .u8) 0 23 5 .i64 Try.underlying23 hi022 hsz22 (some ad164) c0 l0 16 (by omega) (of_decide_eq_true (by first | (with_reducible assumption) | assumption)) HC0.out
                        have HR168 := am_ (Kd.C_of_reads (h1 := fun _ => rfl) (hA22 _ (Kd.reads_of_C HR0.out)))
                        have HC168 := am_ hC22
                        clear hA22 hC22 hi022 hsz22
                        go_wp2_with (first | ((with_reducible refine gate_callee (f := 50) rfl ?_); refine goesL_ (some 34) rfl rfl Try.func50 (by kernel_rfl) rfl #[.slice (some ad164) (l0.take 16).length c0] rfl (by (try simp only [List.map_toArray, List.map_cons, List.map_nil]); first | done | (rw [show (l0.take 16).length = 16 from (by rw [List.length_take]; have h_ : (16 : Int) ≤ (l0.length : Int) := of_decide_eq_true (by first | (with_reducible assumption) | assumption); omega)] <;> rfl) | rfl | (simp only [List.length_drop, List.length_take]; rfl)) ?_; (with_reducible refine (sum_Right.calls kj5 _ _ (l0.take 16) true _ ?side1 ?side2 A13.out).mono ?_); (case side1 => repeat (first | exact HR168.out | (with_reducible refine Kd.C_alloc ?_ _) | (with_reducible refine Kd.C_drewN ?_ _) | (with_reducible refine Kd.C_drew ?_))); (case side2 => exact HC168.out); rintro e w' ⟨rfl, ⟨nd, rfl⟩⟩; refine ⟨_, rfl, ?_⟩; have p170 : 0 ≤ (0 : Int) := (by omega); have q170 : 0 < (l0.length : Int) := of_decide_eq_true (by first | (with_reducible assumption) | assumption); obtain ⟨ad170, e170, hx170_0⟩ := Kd.at_int HR0.out 0 p170 q170; obtain rfl : ad164 = ad170 := (by injection e170); have qi170 : (0 < l0.length) = True := eq_true (by omega); (try rw [show ((0 : Int)).toNat = 0 from rfl] at hx170_0); (try rw [Addr.add_zero'] at hx170_0); replace p170 := eq_true p170; replace q170 := eq_true q170))
                        go_ret
                        exact ⟨by first | rfl | (simp; done) | (simp [*]; done), by repeat (first | exact Drawn0.refl _ | apply Drawn0.step)⟩
                    · rw [if_neg c17] at H
                      exact absurd H (by simp)
                · replace c14 := Bool.eq_false_iff.mpr c14
                  subst c14
                  have H1 : (some 4) = some r := by rw [if_neg (show ¬ (false = true) by decide)] at H; exact H
                  clear H
                  have H := H1
                  clear H1
                  obtain rfl := Option.some.inj H
                  obtain ⟨i023, hi023, _, hsz23, _⟩ := info_parts info5
                  obtain ⟨hcut23, hA23, hC23⟩ := print_take_of (P := Try.prog) (Value.int .u8) 0 23 5 .i64 Try.underlying23 hi023 hsz23 (some ad164) c0 l0 16 (by omega) (of_decide_eq_true (by first | (with_reducible assumption) | assumption)) HC0.out
                  have HR168 := am_ (Kd.C_of_reads (h1 := fun _ => rfl) (hA23 _ (Kd.reads_of_C HR0.out)))
                  have HC168 := am_ hC23
                  clear hA23 hC23 hi023 hsz23
                  go_wp2_with (first | ((with_reducible refine gate_callee (f := 50) rfl ?_); refine goesL_ (some 34) rfl rfl Try.func50 (by kernel_rfl) rfl #[.slice (some ad164) (l0.take 16).length c0] rfl (by (try simp only [List.map_toArray, List.map_cons, List.map_nil]); first | done | (rw [show (l0.take 16).length = 16 from (by rw [List.length_take]; have h_ : (16 : Int) ≤ (l0.length : Int) := of_decide_eq_true (by first | (with_reducible assumption) | assumption); omega)] <;> rfl) | rfl | (simp only [List.length_drop, List.length_take]; rfl)) ?_; (with_reducible refine (sum_Right.calls kj5 _ _ (l0.take 16) false _ ?side1 ?side2 A13.out).mono ?_); (case side1 => repeat (first | exact HR168.out | (with_reducible refine Kd.C_alloc ?_ _) | (with_reducible refine Kd.C_drewN ?_ _) | (with_reducible refine Kd.C_drew ?_))); (case side2 => exact HC168.out); rintro e w' ⟨rfl, ⟨nd, rfl⟩⟩; refine ⟨_, rfl, ?_⟩))
                  go_ret
                  exact ⟨by first | rfl | (simp; done) | (simp [*]; done), by repeat (first | exact Drawn0.refl _ | apply Drawn0.step)⟩
              · rw [if_neg c12] at H
                exact absurd H (by simp)
      · replace c5 := Bool.eq_false_iff.mpr c5
        subst c5
        have H1 : (some 2) = some r := by rw [if_neg (show ¬ (false = true) by decide)] at H; exact H
        clear H
        have H := H1
        clear H1
        obtain rfl := Option.some.inj H
        have p164 : 0 ≤ (0 : Int) := (by omega)
        have q164 : 0 < (l0.length : Int) := of_decide_eq_true (by first | (with_reducible assumption) | assumption)
        obtain ⟨ad164, e164, hx164_0⟩ := Kd.at_int HR0.out 0 p164 q164
        cases e164
        have qi164 : (0 < l0.length) = True := eq_true (by omega)
        (try rw [show ((0 : Int)).toNat = 0 from rfl] at hx164_0)
        (try rw [Addr.add_zero'] at hx164_0)
        replace p164 := eq_true p164
        replace q164 := eq_true q164
        go_enter Try.func47, Try.ntmps47
        go_wp2_with (first | ((with_reducible refine gate_callee (f := 33) rfl ?_); refine goesL_ (some 12) rfl rfl Try.func33 (by kernel_rfl) rfl #[.int .i64 (wrap64 (rd l0 0))] rfl (by (try simp only [List.map_toArray, List.map_cons, List.map_nil]); first | done | rfl | (simp only [List.length_drop, List.length_take]; rfl)) ?_; (with_reducible refine (wire_known.calls (wrap64 (rd l0 0)) false _ A4.out).mono ?_); rintro e w' ⟨rfl, ⟨nd, rfl⟩⟩; refine ⟨_, rfl, ?_⟩))
        go_ret
        exact ⟨by first | rfl | (simp; done) | (simp [*]; done), by repeat (first | exact Drawn0.refl _ | apply Drawn0.step)⟩
    · rw [if_neg c3] at H
      exact absurd H (by simp)
def sum_Turn.f (a0 : Int) (a1 : Int) (a2 : Int) : Option (Int) := (sum_Plus.f (wrap64 (65535 - a1)) a2).bind fun t185 => ((sum_Plus.f (wrap64 (65535 - a0)) t185).bind fun t186 => (some (wrap64 (65535 - t186))))
theorem sum_Turn.calls (a0 : Int) (a1 : Int) (a2 : Int) (r : Int) (w : World) (h : sum_Turn.f a0 a1 a2 = some r) :
    Calls Try.prog 84 #[.int .i64 a0, .int .i64 a1, .int .i64 a2] w fun e w' => e = .returned (.int .i64 r) ∧ Drawn0 w w' := by
  have H : ((sum_Plus.f (wrap64 (65535 - a1)) a2).bind fun t185 => ((sum_Plus.f (wrap64 (65535 - a0)) t185).bind fun t186 => (some (wrap64 (65535 - t186))))) = some r := h
  clear h
  replace H := Option.bind_eq_some_iff.mp H
  obtain ⟨t185, A40, H⟩ := H
  replace H : ((sum_Plus.f (wrap64 (65535 - a0)) t185).bind fun t186 => (some (wrap64 (65535 - t186)))) = some r := H
  have A4 := am_ A40
  clear A40
  replace H := Option.bind_eq_some_iff.mp H
  obtain ⟨t186, A50, H⟩ := H
  replace H : (some (wrap64 (65535 - t186))) = some r := H
  have A5 := am_ A50
  clear A50
  obtain rfl := Option.some.inj H
  go_enter Try.func84, Try.ntmps84
  go_wp2_with (first | ((with_reducible refine gate_callee (f := 100) rfl ?_); refine goesL_ (some 12) rfl rfl Try.func100 (by kernel_rfl) rfl #[.int .i64 (wrap64 (65535 - a1)), .int .i64 a2] rfl (by (try simp only [List.map_toArray, List.map_cons, List.map_nil]); first | done | rfl | (simp only [List.length_drop, List.length_take]; rfl)) ?_; (with_reducible refine (sum_Plus.calls (wrap64 (65535 - a1)) a2 t185 _ A4.out).mono ?_); rintro e w' ⟨rfl, ⟨nd, rfl⟩⟩; refine ⟨_, rfl, ?_⟩) | ((with_reducible refine gate_callee (f := 100) rfl ?_); refine goesL_ (some 13) rfl rfl Try.func100 (by kernel_rfl) rfl #[.int .i64 (wrap64 (65535 - a0)), .int .i64 t185] rfl (by (try simp only [List.map_toArray, List.map_cons, List.map_nil]); first | done | rfl | (simp only [List.length_drop, List.length_take]; rfl)) ?_; (with_reducible refine (sum_Plus.calls (wrap64 (65535 - a0)) t185 t186 _ A5.out).mono ?_); rintro e w' ⟨rfl, ⟨nd, rfl⟩⟩; refine ⟨_, rfl, ?_⟩))
  go_ret
  exact ⟨by first | rfl | (simp; done) | (simp [*]; done), by repeat (first | exact Drawn0.refl _ | apply Drawn0.step)⟩
def wire_pair.f (k : Nat) (l0 : List Int) (a1 : Int) : Option (Int) := if (wrap64 (a1 + 1)) = (l0.length : Int) then (if 0 ≤ a1 then (if a1 < (l0.length : Int) then (some (wrap64 ((wrap64 (rd l0 a1)) * 256))) else (none)) else (none)) else ((wire_get.f k l0 a1 2).bind fun t188 => (some t188))
theorem wire_pair.mono : ∀ a0 a1 k, LeO (wire_pair.f k a0 a1) (wire_pair.f (k + 1) a0 a1) := by
  intro a0 a1 k
  unfold wire_pair.f
  repeat' first
      | (with_reducible exact wire_get.mono _ _ _ _)
      | (with_reducible exact LeO.refl _)
      | (with_reducible exact LeO.none _)
      | (with_reducible refine LeO.ite ?_ ?_)
      | (with_reducible refine LeO.bind ?_ (fun _ => ?_))
      | exact wire_get.mono _ _ _ _
      | exact LeO.none _
      | refine LeO.ite ?_ ?_
      | refine LeO.bind ?_ (fun _ => ?_)
theorem wire_pair.calls (k : Nat) (A0 : Option Addr) (c0 : Nat) (l0 : List Int) (a1 : Int) (r : Int) (w : World) (hr0 : Kd.C (Kd.int .u8) w A0 l0.length l0) (hc0 : l0.length ≤ c0) (h : wire_pair.f k l0 a1 = some r) :
    Calls Try.prog 103 #[.slice A0 l0.length c0, .int .i64 a1] w fun e w' => e = .returned (.int .i64 r) ∧ Drawn0 w w' := by
  have HR0 := am_ hr0
  have HC0 := am_ hc0
  clear hr0 hc0
  have H : (if (wrap64 (a1 + 1)) = (l0.length : Int) then (if 0 ≤ a1 then (if a1 < (l0.length : Int) then (some (wrap64 ((wrap64 (rd l0 a1)) * 256))) else (none)) else (none)) else ((wire_get.f k l0 a1 2).bind fun t188 => (some t188))) = some r := h
  clear h
  by_cases c3 : (wrap64 (a1 + 1)) = (l0.length : Int)
  · rw [if_pos c3] at H
    have c3b0 : ((wrap64 (a1 + 1)) == (l0.length : Int)) = true := beq_iff_eq.mpr c3
    have c3b1 : ((wrap64 (a1 + 1)) != (l0.length : Int)) = false := bne_eq_false_iff_eq.mpr c3
    clear c3
    by_cases c4 : 0 ≤ a1
    · rw [if_pos c4] at H
      have c4b0 : decide (0 ≤ a1) = true := decide_eq_true c4
      clear c4
      by_cases c5 : a1 < (l0.length : Int)
      · rw [if_pos c5] at H
        have c5b0 : decide (a1 < (l0.length : Int)) = true := decide_eq_true c5
        clear c5
        obtain rfl := Option.some.inj H
        have p187 : 0 ≤ (a1 : Int) := of_decide_eq_true (by first | (with_reducible assumption) | assumption)
        have q187 : a1 < (l0.length : Int) := of_decide_eq_true (by first | (with_reducible assumption) | assumption)
        obtain ⟨ad187, e187, hx187_0⟩ := Kd.at_int HR0.out a1 p187 q187
        cases e187
        replace p187 := eq_true p187
        replace q187 := eq_true q187
        go_enter Try.func103, Try.ntmps103
        go_wp2
        go_ret
        exact ⟨by first | rfl | (simp; done) | (simp [*]; done), by repeat (first | exact Drawn0.refl _ | apply Drawn0.step)⟩
      · rw [if_neg c5] at H
        exact absurd H (by simp)
    · rw [if_neg c4] at H
      exact absurd H (by simp)
  · rw [if_neg c3] at H
    have c3b0 : ((wrap64 (a1 + 1)) == (l0.length : Int)) = false := beq_eq_false_iff_ne.mpr c3
    have c3b1 : ((wrap64 (a1 + 1)) != (l0.length : Int)) = true := bne_iff_ne.mpr c3
    replace H := Option.bind_eq_some_iff.mp H
    obtain ⟨t188, A60, H⟩ := H
    replace H : (some t188) = some r := H
    have A6 := am_ A60
    clear A60
    obtain rfl := Option.some.inj H
    go_enter Try.func103, Try.ntmps103
    go_wp2_with (first | ((with_reducible refine gate_callee (f := 48) rfl ?_); refine goesL_ (some 18) rfl rfl Try.func48 (by kernel_rfl) rfl #[.slice A0 l0.length c0, .int .i64 a1, .int .i64 2] rfl (by (try simp only [List.map_toArray, List.map_cons, List.map_nil]); first | done | rfl | (simp only [List.length_drop, List.length_take]; rfl)) ?_; (with_reducible refine (wire_get.calls k _ _ l0 a1 2 t188 _ ?side1 ?side2 A6.out).mono ?_); (case side1 => repeat (first | exact HR0.out | (with_reducible refine Kd.C_alloc ?_ _) | (with_reducible refine Kd.C_drewN ?_ _) | (with_reducible refine Kd.C_drew ?_))); (case side2 => exact HC0.out); rintro e w' ⟨rfl, ⟨nd, rfl⟩⟩; refine ⟨_, rfl, ?_⟩))
    go_ret
    exact ⟨by first | rfl | (simp; done) | (simp [*]; done), by repeat (first | exact Drawn0.refl _ | apply Drawn0.step)⟩
def opts_number.f (l0 : List Int) : Option (Int) := if 0 < (l0.length : Int) then (if 1 < (l0.length : Int) then (if 2 < (l0.length : Int) then (if 3 < (l0.length : Int) then (some (Go.bits .or .u32 (Go.bits .or .u32 (Go.bits .or .u32 ((((rd l0 0) % 4294967296) * 16777216) % 4294967296) ((((rd l0 1) % 4294967296) * 65536) % 4294967296)) ((((rd l0 2) % 4294967296) * 256) % 4294967296)) ((rd l0 3) % 4294967296))) else (none)) else (none)) else (none)) else (none)
theorem opts_number.calls (A0 : Option Addr) (c0 : Nat) (l0 : List Int) (r : Int) (w : World) (hr0 : Kd.C (Kd.int .u8) w A0 l0.length l0) (hc0 : l0.length ≤ c0) (h : opts_number.f l0 = some r) :
    Calls Try.prog 55 #[.slice A0 l0.length c0] w fun e w' => e = .returned (.int .u32 r) ∧ Drawn0 w w' := by
  have HR0 := am_ hr0
  have HC0 := am_ hc0
  clear hr0 hc0
  have H : (if 0 < (l0.length : Int) then (if 1 < (l0.length : Int) then (if 2 < (l0.length : Int) then (if 3 < (l0.length : Int) then (some (Go.bits .or .u32 (Go.bits .or .u32 (Go.bits .or .u32 ((((rd l0 0) % 4294967296) * 16777216) % 4294967296) ((((rd l0 1) % 4294967296) * 65536) % 4294967296)) ((((rd l0 2) % 4294967296) * 256) % 4294967296)) ((rd l0 3) % 4294967296))) else (none)) else (none)) else (none)) else (none)) = some r := h
  clear h
  by_cases c2 : 0 < (l0.length : Int)
  · rw [if_pos c2] at H
    have c2b0 : decide (0 < (l0.length : Int)) = true := decide_eq_true c2
    have c2b1 : decide (0 < l0.length) = true := decide_eq_true (by omega)
    clear c2
    by_cases c3 : 1 < (l0.length : Int)
    · rw [if_pos c3] at H
      have c3b0 : decide (1 < (l0.length : Int)) = true := decide_eq_true c3
      have c3b1 : decide (1 < l0.length) = true := decide_eq_true (by omega)
      clear c3
      by_cases c4 : 2 < (l0.length : Int)
      · rw [if_pos c4] at H
        have c4b0 : decide (2 < (l0.length : Int)) = true := decide_eq_true c4
        have c4b1 : decide (2 < l0.length) = true := decide_eq_true (by omega)
        clear c4
        by_cases c5 : 3 < (l0.length : Int)
        · rw [if_pos c5] at H
          have c5b0 : decide (3 < (l0.length : Int)) = true := decide_eq_true c5
          have c5b1 : decide (3 < l0.length) = true := decide_eq_true (by omega)
          clear c5
          obtain rfl := Option.some.inj H
          have p203 : 0 ≤ (0 : Int) := (by omega)
          have q203 : 0 < (l0.length : Int) := of_decide_eq_true (by first | (with_reducible assumption) | assumption)
          obtain ⟨ad203, e203, hx203_0⟩ := Kd.at_int HR0.out 0 p203 q203
          cases e203
          have qi203 : (0 < l0.length) = True := eq_true (by omega)
          (try rw [show ((0 : Int)).toNat = 0 from rfl] at hx203_0)
          (try rw [Addr.add_zero'] at hx203_0)
          replace p203 := eq_true p203
          replace q203 := eq_true q203
          have p204 : 0 ≤ (1 : Int) := (by omega)
          have q204 : 1 < (l0.length : Int) := of_decide_eq_true (by first | (with_reducible assumption) | assumption)
          obtain ⟨ad204, e204, hx204_0⟩ := Kd.at_int HR0.out 1 p204 q204
          obtain rfl : ad203 = ad204 := (by injection e204)
          (try simp only [show (1 : Int).toNat = 1 from rfl, Nat.reduceMul, Nat.reduceEqDiff, Go.Addr.add, ↓reduceIte] at hx204_0)
          have qi204 : (1 < l0.length) = True := eq_true (by omega)
          (try rw [show ((1 : Int)).toNat = 1 from rfl] at hx204_0)
          replace p204 := eq_true p204
          replace q204 := eq_true q204
          have p205 : 0 ≤ (2 : Int) := (by omega)
          have q205 : 2 < (l0.length : Int) := of_decide_eq_true (by first | (with_reducible assumption) | assumption)
          obtain ⟨ad205, e205, hx205_0⟩ := Kd.at_int HR0.out 2 p205 q205
          obtain rfl : ad203 = ad205 := (by injection e205)
          (try simp only [show (2 : Int).toNat = 2 from rfl, Nat.reduceMul, Nat.reduceEqDiff, Go.Addr.add, ↓reduceIte] at hx205_0)
          have qi205 : (2 < l0.length) = True := eq_true (by omega)
          (try rw [show ((2 : Int)).toNat = 2 from rfl] at hx205_0)
          replace p205 := eq_true p205
          replace q205 := eq_true q205
          have p206 : 0 ≤ (3 : Int) := (by omega)
          have q206 : 3 < (l0.length : Int) := of_decide_eq_true (by first | (with_reducible assumption) | assumption)
          obtain ⟨ad206, e206, hx206_0⟩ := Kd.at_int HR0.out 3 p206 q206
          obtain rfl : ad203 = ad206 := (by injection e206)
          (try simp only [show (3 : Int).toNat = 3 from rfl, Nat.reduceMul, Nat.reduceEqDiff, Go.Addr.add, ↓reduceIte] at hx206_0)
          have qi206 : (3 < l0.length) = True := eq_true (by omega)
          (try rw [show ((3 : Int)).toNat = 3 from rfl] at hx206_0)
          replace p206 := eq_true p206
          replace q206 := eq_true q206
          go_enter Try.func55, Try.ntmps55
          go_wp2
          repeat (go_quiet (fail); try go_wp2)
          go_ret
          exact ⟨by first | rfl | (simp; done) | (simp [*]; done), by repeat (first | exact Drawn0.refl _ | apply Drawn0.step)⟩
        · rw [if_neg c5] at H
          exact absurd H (by simp)
      · rw [if_neg c4] at H
        exact absurd H (by simp)
    · rw [if_neg c3] at H
      exact absurd H (by simp)
  · rw [if_neg c2] at H
    exact absurd H (by simp)
def cookie_tagBits.f (a0 : Int) : Option (Int) := if a0 = 2 then (some 8) else (some 12)
theorem cookie_tagBits.calls (a0 : Int) (r : Int) (w : World) (h : cookie_tagBits.f a0 = some r) :
    Calls Try.prog 62 #[.int .i64 a0] w fun e w' => e = .returned (.int .i64 r) ∧ Drawn0 w w' := by
  have H : (if a0 = 2 then (some 8) else (some 12)) = some r := h
  clear h
  by_cases c2 : a0 = 2
  · rw [if_pos c2] at H
    have c2b0 : (a0 == 2) = true := beq_iff_eq.mpr c2
    have c2b1 : (a0 != 2) = false := bne_eq_false_iff_eq.mpr c2
    clear c2
    obtain rfl := Option.some.inj H
    go_enter Try.func62, Try.ntmps62
    go_wp2
    go_ret
    exact ⟨by first | rfl | (simp; done) | (simp [*]; done), by repeat (first | exact Drawn0.refl _ | apply Drawn0.step)⟩
  · rw [if_neg c2] at H
    have c2b0 : (a0 == 2) = false := beq_eq_false_iff_ne.mpr c2
    have c2b1 : (a0 != 2) = true := bne_iff_ne.mpr c2
    obtain rfl := Option.some.inj H
    go_enter Try.func62, Try.ntmps62
    go_wp2
    go_ret
    exact ⟨by first | rfl | (simp; done) | (simp [*]; done), by repeat (first | exact Drawn0.refl _ | apply Drawn0.step)⟩
def cookie_turn.f (a0 : Int) : Option (Int) := some (Go.bits .and .i64 a0 3)
theorem cookie_turn.calls (a0 : Int) (r : Int) (w : World) (h : cookie_turn.f a0 = some r) :
    Calls Try.prog 56 #[.int .i64 a0] w fun e w' => e = .returned (.int .i64 r) ∧ Drawn0 w w' := by
  have H : (some (Go.bits .and .i64 a0 3)) = some r := h
  clear h
  obtain rfl := Option.some.inj H
  go_enter Try.func56, Try.ntmps56
  go_wp2
  go_ret
  exact ⟨by first | rfl | (simp; done) | (simp [*]; done), by repeat (first | exact Drawn0.refl _ | apply Drawn0.step)⟩
def cookie_Get.f (a0 : Int) : Option (Int × Int) := some (wrap64 (a0 / 1048576), wrap64 (Go.bits .and .u32 a0 1048575))
theorem cookie_Get.calls (a0 : Int) (r1 : Int) (r2 : Int) (w : World) (h : cookie_Get.f a0 = some (r1, r2)) :
    Calls Try.prog 105 #[.int .u32 a0] w fun e w' => e = .returned (.tuple #[.int .i64 r1, .int .i64 r2]) ∧ Drawn0 w w' := by
  have H : (some (wrap64 (a0 / 1048576), wrap64 (Go.bits .and .u32 a0 1048575))) = some (r1, r2) := h
  clear h
  simp only [Option.some.injEq, Prod.mk.injEq] at H
  obtain ⟨rfl, rfl⟩ := H
  go_enter Try.func105, Try.ntmps105
  go_wp2
  go_ret2
  exact ⟨by first | rfl | (simp; done) | (simp [*]; done), by repeat (first | exact Drawn0.refl _ | apply Drawn0.step)⟩
def pool_may.l0 : Nat → List Int → Int → Int → Int → Int → Int → Int → Int → Option (Bool)
  | 0, _, _, _, _, _, _, _, _ => none
  | k + 1, x7, x8, x9, x223000, x223001, x223002, x223003, x223004 => if x9 < x8 then (if 0 ≤ x9 then (if x9 < (x7.length : Int) then (if x223000 = (rd x7 x9) then (some true) else (pool_may.l0 k x7 x8 (wrap64 (x9 + 1)) x223000 x223001 x223002 x223003 x223004)) else (none)) else (none)) else (some false)
def pool_may.f (k : Nat) (a0_0 : Int) (a0_1 : Int) (a0_2 : Int) (a0_3 : Int) (a0_4 : Int) (l1 : List Int) : Option (Bool) := pool_may.l0 k l1 (l1.length : Int) 0 a0_0 a0_1 a0_2 a0_3 a0_4
theorem pool_may.mono_l : ∀ k, (∀ y0 y1 y2 y3 y4 y5 y6 y7, LeO (pool_may.l0 k y0 y1 y2 y3 y4 y5 y6 y7) (pool_may.l0 (k + 1) y0 y1 y2 y3 y4 y5 y6 y7))
  | 0 => fun _ _ _ _ _ _ _ _ r h => by simp [pool_may.l0] at h
  | k + 1 => by
    have ih0 := pool_may.mono_l k
    · intro y0 y1 y2 y3 y4 y5 y6 y7
      unfold pool_may.l0
      repeat' first
      | (with_reducible exact ih0 _ _ _ _ _ _ _ _)
      | (with_reducible exact LeO.refl _)
      | (with_reducible exact LeO.none _)
      | (with_reducible refine LeO.ite ?_ ?_)
      | (with_reducible refine LeO.bind ?_ (fun _ => ?_))
      | exact ih0 _ _ _ _ _ _ _ _
      | exact LeO.none _
      | refine LeO.ite ?_ ?_
      | refine LeO.bind ?_ (fun _ => ?_)
theorem pool_may.mono : ∀ a0 a1 a2 a3 a4 a5 k, LeO (pool_may.f k a0 a1 a2 a3 a4 a5) (pool_may.f (k + 1) a0 a1 a2 a3 a4 a5) := by
  intro a0 a1 a2 a3 a4 a5 k
  have ih0 := pool_may.mono_l k
  unfold pool_may.f
  repeat' first
      | (with_reducible exact ih0 _ _ _ _ _ _ _ _)
      | (with_reducible exact LeO.refl _)
      | (with_reducible exact LeO.none _)
      | (with_reducible refine LeO.ite ?_ ?_)
      | (with_reducible refine LeO.bind ?_ (fun _ => ?_))
      | exact ih0 _ _ _ _ _ _ _ _
      | exact LeO.none _
      | refine LeO.ite ?_ ?_
      | refine LeO.bind ?_ (fun _ => ?_)
theorem pool_may.calls (k : Nat) (a0_0 : Int) (a0_1 : Int) (a0_2 : Int) (a0_3 : Int) (a0_4 : Int) (A1 : Option Addr) (c1 : Nat) (l1 : List Int) (r : Bool) (w : World) (hr1 : Kd.C (Kd.int .i64) w A1 l1.length l1) (hc1 : l1.length ≤ c1) (h : pool_may.f k a0_0 a0_1 a0_2 a0_3 a0_4 l1 = some r) :
    Calls Try.prog 90 #[.agg #[.int .i64 a0_0, .int .i64 a0_1, .int .i64 a0_2, .int .i64 a0_3, .int .i64 a0_4], .slice A1 l1.length c1] w fun e w' => e = .returned (.bool r) ∧ Below w.heap.size w w' := by
  have hu26 := Try.underlying26
  have HR1 := am_ hr1
  have HC1 := am_ hc1
  clear hr1 hc1
  have HB := am_ (Below.refl w.heap.size w)
  have H : (pool_may.l0 k l1 (l1.length : Int) 0 a0_0 a0_1 a0_2 a0_3 a0_4) = some r := h
  clear h
  have H' := am_ H
  clear H
  go_enter Try.func90, Try.ntmps90
  go_wp2_with (first | ((with_reducible refine gate_dst (N := 2) rfl ?_); refine box_event ?hg (N := 2) ?hd (cs := #[.int .i64 a0_0, .int .i64 a0_1, .int .i64 a0_2, .int .i64 a0_3, .int .i64 a0_4]) (t := 26) ?hr ?_; (case hd => rfl); (case hg => rfl); (case hr => first | (go_simp; done) | (go_simp; rfl)); intro gb222 hg w3 hbox hb; have n0_ := am_ (below_step (by repeat (first | (with_reducible first | exact HB.out | apply below_alloc | apply pw_below_drewN | apply below_drew1) | exact HB.out)) hb); have n1_ := am_ (hbox); have n2_ := am_ ((by rw [hg]; exact (below_size (by repeat (first | (with_reducible first | exact HB.out | apply below_alloc | apply pw_below_drewN | apply below_drew1) | exact HB.out))) : w.heap.size ≤ gb222)); have n3_ := am_ ((by rw [hg]; exact (below_size (by repeat (first | (with_reducible first | exact HB.out | apply below_alloc | apply pw_below_drewN | apply below_drew1) | exact HB.out))) : w.heap.size ≤ gb222)); clear HB; have HB := n0_; have BK222 := n1_; have GW222 := n2_; have GE222 := n3_; clear n0_ n1_ n2_ n3_; clear hb hbox hg))
  go_loopg [9] k (fun kq v9 w' => ∃ (x9_1 : Int), v9 = .int .i64 x9_1 ∧ Aside0 (pool_may.l0 kq l1 (l1.length : Int) x9_1 a0_0 a0_1 a0_2 a0_3 a0_4 = some r) ∧ Aside0 (kq ≤ k) ∧ Aside0 (w'.heap[gb222]? = some (.cells #[.int .i64 a0_0, .int .i64 a0_1, .int .i64 a0_2, .int .i64 a0_3, .int .i64 a0_4] 26 (0, 0))) ∧ Aside0 (Below w.heap.size w w'))
  case atStart => exact ⟨(0), (by first | rfl | (simp; done) | (simp [*]; done)), H', ⟨Nat.le_refl _⟩, ⟨by (with_reducible repeat (first | refine blk_drewN ?_ _ | refine blk_drew ?_ | refine blk_alloc ?_ _)); exact BK222.out⟩, ⟨by repeat (first | (with_reducible first | exact HB.out | apply below_alloc | apply pw_below_drewN | apply below_drew1 | refine below_set ?_ GE222.out) | exact HB.out)⟩⟩
  case round =>
    clear H'
    try clear c1
    try clear p2
    obtain ⟨x9_1, rfl, HA, HK1, BK222, HB⟩ := hrel
    cases gk with
    | zero => exact absurd HA.out (by simp [pool_may.l0])
    | succ k1 =>
      have H := HA.out
      clear HA
      simp only [pool_may.l0] at H
      by_cases c4 : x9_1 < (l1.length : Int)
      · rw [if_pos c4] at H
        have c4b0 : decide (x9_1 < (l1.length : Int)) = true := decide_eq_true c4
        clear c4
        by_cases c5 : 0 ≤ x9_1
        · rw [if_pos c5] at H
          have c5b0 : decide (0 ≤ x9_1) = true := decide_eq_true c5
          clear c5
          by_cases c6 : x9_1 < (l1.length : Int)
          · rw [if_pos c6] at H
            have c6b0 : decide (x9_1 < (l1.length : Int)) = true := decide_eq_true c6
            clear c6
            by_cases c7 : a0_0 = (rd l1 x9_1)
            · rw [if_pos c7] at H
              have c7b0 : (a0_0 == (rd l1 x9_1)) = true := beq_iff_eq.mpr c7
              have c7b1 : (a0_0 != (rd l1 x9_1)) = false := bne_eq_false_iff_eq.mpr c7
              clear c7
              obtain rfl := Option.some.inj H
              have p223 : 0 ≤ (x9_1 : Int) := of_decide_eq_true (by first | (with_reducible assumption) | assumption)
              have q223 : x9_1 < (l1.length : Int) := of_decide_eq_true (by first | (with_reducible assumption) | assumption)
              obtain ⟨ad223, e223, hx223_0⟩ := Kd.at_int HR1.out x9_1 p223 q223
              cases e223
              replace hx223_0 := (HB.out.cell (World.block_lt_of_cell? w _ hx223_0)).trans hx223_0
              replace p223 := eq_true p223
              replace q223 := eq_true q223
              have hcz8_0 : wr.cell? ⟨gb222, 0, none⟩ = some (.int .i64 a0_0) := (blk_cell BK222.out 0).trans rfl
              have hcz8_1 : wr.cell? ⟨gb222, 1, none⟩ = some (.int .i64 a0_1) := (blk_cell BK222.out 1).trans rfl
              have hcz8_2 : wr.cell? ⟨gb222, 2, none⟩ = some (.int .i64 a0_2) := (blk_cell BK222.out 2).trans rfl
              have hcz8_3 : wr.cell? ⟨gb222, 3, none⟩ = some (.int .i64 a0_3) := (blk_cell BK222.out 3).trans rfl
              have hcz8_4 : wr.cell? ⟨gb222, 4, none⟩ = some (.int .i64 a0_4) := (blk_cell BK222.out 4).trans rfl
              have hfz8_0 := blk_frozen BK222.out 0
              have hfz8_1 := blk_frozen BK222.out 1
              have hfz8_2 := blk_frozen BK222.out 2
              have hfz8_3 := blk_frozen BK222.out 3
              have hfz8_4 := blk_frozen BK222.out 4
              go_wp2
              go_ret
              exact ⟨by first | rfl | (simp [errW_none, errW_some] <;> rfl) | (simp [*, errW_none, errW_some] <;> rfl), by repeat (first | (with_reducible first | exact HB.out | apply below_alloc | apply pw_below_drewN | apply below_drew1 | refine below_set ?_ GE222.out) | exact HB.out)⟩
            · rw [if_neg c7] at H
              have c7b0 : (a0_0 == (rd l1 x9_1)) = false := beq_eq_false_iff_ne.mpr c7
              have c7b1 : (a0_0 != (rd l1 x9_1)) = true := bne_iff_ne.mpr c7
              have H' := am_ H
              clear H
              have p223 : 0 ≤ (x9_1 : Int) := of_decide_eq_true (by first | (with_reducible assumption) | assumption)
              have q223 : x9_1 < (l1.length : Int) := of_decide_eq_true (by first | (with_reducible assumption) | assumption)
              obtain ⟨ad223, e223, hx223_0⟩ := Kd.at_int HR1.out x9_1 p223 q223
              cases e223
              replace hx223_0 := (HB.out.cell (World.block_lt_of_cell? w _ hx223_0)).trans hx223_0
              replace p223 := eq_true p223
              replace q223 := eq_true q223
              have hcz9_0 : wr.cell? ⟨gb222, 0, none⟩ = some (.int .i64 a0_0) := (blk_cell BK222.out 0).trans rfl
              have hcz9_1 : wr.cell? ⟨gb222, 1, none⟩ = some (.int .i64 a0_1) := (blk_cell BK222.out 1).trans rfl
              have hcz9_2 : wr.cell? ⟨gb222, 2, none⟩ = some (.int .i64 a0_2) := (blk_cell BK222.out 2).trans rfl
              have hcz9_3 : wr.cell? ⟨gb222, 3, none⟩ = some (.int .i64 a0_3) := (blk_cell BK222.out 3).trans rfl
              have hcz9_4 : wr.cell? ⟨gb222, 4, none⟩ = some (.int .i64 a0_4) := (blk_cell BK222.out 4).trans rfl
              have hfz9_0 := blk_frozen BK222.out 0
              have hfz9_1 := blk_frozen BK222.out 1
              have hfz9_2 := blk_frozen BK222.out 2
              have hfz9_3 := blk_frozen BK222.out 3
              have hfz9_4 := blk_frozen BK222.out 4
              go_wp2
              go_roundg k1
              case measure => have := HK1.out; omega
              case rel => exact ⟨(wrap64 (x9_1 + 1)), (by first | rfl | (simp; done) | (simp [*]; done)), H', ⟨by have := HK1.out; omega⟩, ⟨by (with_reducible repeat (first | refine blk_drewN ?_ _ | refine blk_drew ?_ | refine blk_alloc ?_ _)); exact BK222.out⟩, ⟨by repeat (first | (with_reducible first | exact HB.out | apply below_alloc | apply pw_below_drewN | apply below_drew1 | refine below_set ?_ GE222.out) | exact HB.out)⟩⟩
          · rw [if_neg c6] at H
            exact absurd H (by simp)
        · rw [if_neg c5] at H
          exact absurd H (by simp)
      · rw [if_neg c4] at H
        have c4b0 : decide (x9_1 < (l1.length : Int)) = false := decide_eq_false c4
        clear c4
        obtain rfl := Option.some.inj H
        go_wp2
        go_ret
        exact ⟨by first | rfl | (simp [errW_none, errW_some] <;> rfl) | (simp [*, errW_none, errW_some] <;> rfl), by repeat (first | (with_reducible first | exact HB.out | apply below_alloc | apply pw_below_drewN | apply below_drew1 | refine below_set ?_ GE222.out) | exact HB.out)⟩
def pool_Takes.f (k : Nat) (a0_0 : Int) (a0_1 : Int) (a0_2 : Int) (a0_3 : Int) (a0_4 : Int) : Option (Bool) := (pool_may.f k a0_0 a0_1 a0_2 a0_3 a0_4 (([1, 2, 3] : List Int))).bind fun t228 => (some t228)
theorem pool_Takes.mono : ∀ a0 a1 a2 a3 a4 k, LeO (pool_Takes.f k a0 a1 a2 a3 a4) (pool_Takes.f (k + 1) a0 a1 a2 a3 a4) := by
  intro a0 a1 a2 a3 a4 k
  unfold pool_Takes.f
  repeat' first
      | (with_reducible exact pool_may.mono _ _ _ _ _ _ _)
      | (with_reducible exact LeO.refl _)
      | (with_reducible exact LeO.none _)
      | (with_reducible refine LeO.ite ?_ ?_)
      | (with_reducible refine LeO.bind ?_ (fun _ => ?_))
      | exact pool_may.mono _ _ _ _ _ _ _
      | exact LeO.none _
      | refine LeO.ite ?_ ?_
      | refine LeO.bind ?_ (fun _ => ?_)
theorem pool_Takes.calls (k : Nat) (a0_0 : Int) (a0_1 : Int) (a0_2 : Int) (a0_3 : Int) (a0_4 : Int) (r : Bool) (w : World) (h : pool_Takes.f k a0_0 a0_1 a0_2 a0_3 a0_4 = some r) :
    Calls Try.prog 86 #[.agg #[.int .i64 a0_0, .int .i64 a0_1, .int .i64 a0_2, .int .i64 a0_3, .int .i64 a0_4]] w fun e w' => e = .returned (.bool r) ∧ Below w.heap.size w w' := by
  have hu26 := Try.underlying26
  have HB := am_ (Below.refl w.heap.size w)
  have H : ((pool_may.f k a0_0 a0_1 a0_2 a0_3 a0_4 (([1, 2, 3] : List Int))).bind fun t228 => (some t228)) = some r := h
  clear h
  obtain ⟨y225, hy225⟩ : ∃ y_ : List Int, y_ = (([1, 2, 3] : List Int)) := ⟨_, rfl⟩
  replace H : ((pool_may.f k a0_0 a0_1 a0_2 a0_3 a0_4 y225).bind fun t228 => (some t228)) = some r := by first | (rw [hy225]; with_reducible exact H) | (have H2_ := (Option.bind_some _ _).symm.trans H; rw [hy225]; with_reducible exact H2_) | (have H2_ := (Option.bind_some _ _).symm.trans H; with_reducible exact H2_) | with_reducible exact H | (rw [hy225]; exact H) | exact H
  have Ny225 := am_ hy225
  clear hy225
  replace H := Option.bind_eq_some_iff.mp H
  obtain ⟨t228, A20, H⟩ := H
  replace H : (some t228) = some r := H
  have A2 := am_ A20
  clear A20
  obtain rfl := Option.some.inj H
  go_enter Try.func86, Try.ntmps86
  go_wp2_with (first | ((with_reducible refine gate_dst (N := 1) rfl ?_); refine box_event ?hg (N := 1) ?hd (cs := #[.int .i64 a0_0, .int .i64 a0_1, .int .i64 a0_2, .int .i64 a0_3, .int .i64 a0_4]) (t := 26) ?hr ?_; (case hd => rfl); (case hg => rfl); (case hr => first | (go_simp; done) | (go_simp; rfl)); intro gb224 hg w3 hbox hb; have n0_ := am_ (below_step (by repeat (first | (with_reducible first | exact HB.out | apply below_alloc | apply pw_below_drewN | apply below_drew1) | exact HB.out)) hb); have n1_ := am_ (hbox); have n2_ := am_ ((by rw [hg]; exact (below_size (by repeat (first | (with_reducible first | exact HB.out | apply below_alloc | apply pw_below_drewN | apply below_drew1) | exact HB.out))) : w.heap.size ≤ gb224)); have n3_ := am_ ((by rw [hg]; exact (below_size (by repeat (first | (with_reducible first | exact HB.out | apply below_alloc | apply pw_below_drewN | apply below_drew1) | exact HB.out))) : w.heap.size ≤ gb224)); clear HB; have HB := n0_; have BK224 := n1_; have GW224 := n2_; have GE224 := n3_; clear n0_ n1_ n2_ n3_; clear hb hbox hg; have hcz4_0 : w3.cell? ⟨gb224, 0, none⟩ = some (.int .i64 a0_0) := (blk_cell BK224.out 0).trans rfl; have hcz4_1 : w3.cell? ⟨gb224, 1, none⟩ = some (.int .i64 a0_1) := (blk_cell BK224.out 1).trans rfl; have hcz4_2 : w3.cell? ⟨gb224, 2, none⟩ = some (.int .i64 a0_2) := (blk_cell BK224.out 2).trans rfl; have hcz4_3 : w3.cell? ⟨gb224, 3, none⟩ = some (.int .i64 a0_3) := (blk_cell BK224.out 3).trans rfl; have hcz4_4 : w3.cell? ⟨gb224, 4, none⟩ = some (.int .i64 a0_4) := (blk_cell BK224.out 4).trans rfl; have hfz4_0 := blk_frozen BK224.out 0; have hfz4_1 := blk_frozen BK224.out 1; have hfz4_2 := blk_frozen BK224.out 2; have hfz4_3 := blk_frozen BK224.out 3; have hfz4_4 := blk_frozen BK224.out 4) | ((with_reducible refine gate_dst (N := 4) rfl ?_); refine Kd.R_lit (Kd.int .i64) _ 3 ?hg (N := 4) ?hd (xs := ([1, 2, 3] : List Int)) (inner := [.int .i64 1, .int .i64 2, .int .i64 3]) (ok := fun _ => True) (okp := fun _ => True) ?hr ?hp (fun _ hk => hk) trivial (Below.refl _ _) (Nat.le_refl _) (by simp) ?_; (case hd => rfl); (case hg => rfl); (case hr => first | (go_simp; done) | (go_simp; rfl)); (case hp => exact (Reps.one (show Kd.M (Kd.int .i64) _ _ _ 1 [.int .i64 1] from rfl) (Reps.one (show Kd.M (Kd.int .i64) _ _ _ 2 [.int .i64 2] from rfl) (Reps.one (show Kd.M (Kd.int .i64) _ _ _ 3 [.int .i64 3] from rfl) (Reps.none _ _))))); intro v226 w5 ho6 hb hg_ hnew_; clear hg_ hnew_; (first | rw [← Ny225.out] at ho6 | (simp only [Int.reduceToNat] at ho6; rw [← Ny225.out] at ho6)); have n0_ := am_ (Kd.R_lower ho6 (below_size (by repeat (first | (with_reducible first | exact HB.out | apply below_alloc | apply pw_below_drewN | apply below_drew1 | refine below_set ?_ GE224.out) | exact HB.out)))); have n1_ := am_ (blk_below (g := gb224) (o := .cells #[.int .i64 a0_0, .int .i64 a0_1, .int .i64 a0_2, .int .i64 a0_3, .int .i64 a0_4] 26 (0, 0)) (by (with_reducible repeat (first | refine blk_drewN ?_ _ | refine blk_drew ?_ | refine blk_alloc ?_ _)); exact BK224.out) hb); have n2_ := am_ (below_step (by repeat (first | (with_reducible first | exact HB.out | apply below_alloc | apply pw_below_drewN | apply below_drew1 | refine below_set ?_ GE224.out) | exact HB.out)) hb); clear BK224; clear HB; have HO227 := n0_; have BK224 := n1_; have HB := n2_; clear n0_ n1_ n2_; clear hb ho6; obtain ⟨Ao7, co7, eo7⟩ := Kd.R_slice HO227.out; subst eo7) | ((with_reducible refine gate_callee (f := 90) rfl ?_); refine goesL_ (some 5) rfl rfl Try.func90 (by kernel_rfl) rfl #[.agg #[.int .i64 a0_0, .int .i64 a0_1, .int .i64 a0_2, .int .i64 a0_3, .int .i64 a0_4], .slice Ao7 y225.length co7] rfl (by (try simp only [List.map_toArray, List.map_cons, List.map_nil]); first | done | rfl | (simp only [List.length_drop, List.length_take]; rfl)) ?_; (with_reducible refine (pool_may.calls k a0_0 a0_1 a0_2 a0_3 a0_4 _ _ y225 t228 _ ?side1 ?side2 A2.out).mono ?_); (case side1 => repeat (first | exact (Kd.R_reads' HO227.out).2.2 | (with_reducible refine Kd.C_alloc ?_ _) | (with_reducible refine Kd.C_drewN ?_ _) | (with_reducible refine Kd.C_drew ?_))); (case side2 => exact (Kd.R_reads' HO227.out).2.1); rintro e w8 ⟨rfl, hb⟩; refine ⟨_, rfl, ?_⟩; have n0_ := am_ (Kd.R_below (by (with_reducible repeat (first | apply Kd.R_alloc | apply Kd.R_drewN | apply Kd.R_drew)); exact HO227.out) hb); have n1_ := am_ (blk_below (g := gb224) (o := .cells #[.int .i64 a0_0, .int .i64 a0_1, .int .i64 a0_2, .int .i64 a0_3, .int .i64 a0_4] 26 (0, 0)) (by (with_reducible repeat (first | refine blk_drewN ?_ _ | refine blk_drew ?_ | refine blk_alloc ?_ _)); exact BK224.out) hb); have n2_ := am_ (below_step (by repeat (first | (with_reducible first | exact HB.out | apply below_alloc | apply pw_below_drewN | apply below_drew1 | refine below_set ?_ GE224.out) | exact HB.out)) hb); clear HO227; clear BK224; clear HB; have HO227 := n0_; have BK224 := n1_; have HB := n2_; clear n0_ n1_ n2_; (try clear hb); (try clear hb2); (try clear hk); (try clear hi)))
  go_ret
  exact ⟨by first | rfl | (simp [errW_none, errW_some] <;> rfl) | (simp [*, errW_none, errW_some] <;> rfl), by repeat (first | (with_reducible first | exact HB.out | apply below_alloc | apply pw_below_drewN | apply below_drew1 | refine below_set ?_ GE224.out) | exact HB.out)⟩
def opts_Far.f (a0 : Int) (a1 : Int) : Option (Int) := some (wrap64 (wrap32 ((a1 - a0) % 4294967296)))
theorem opts_Far.calls (a0 : Int) (a1 : Int) (r : Int) (w : World) (h : opts_Far.f a0 a1 = some r) :
    Calls Try.prog 106 #[.int .u32 a0, .int .u32 a1] w fun e w' => e = .returned (.int .i64 r) ∧ Drawn0 w w' := by
  have H : (some (wrap64 (wrap32 ((a1 - a0) % 4294967296)))) = some r := h
  clear h
  obtain rfl := Option.some.inj H
  go_enter Try.func106, Try.ntmps106
  go_wp2
  go_ret
  exact ⟨by first | rfl | (simp; done) | (simp [*]; done), by repeat (first | exact Drawn0.refl _ | apply Drawn0.step)⟩
def cookie_Back.f (a0 : Int) (a1 : Int) : Option (Int) := (cookie_Get.f a0).bind fun bt229 => ((opts_Far.f (Go.bits .and .u32 (Go.bits .andNot .u32 a1 255) 1048575) ((((bt229.1) % 4294967296) * 256) % 4294967296)).bind fun t231 => (if t231 ≥ 524288 then (some (((Go.bits .andNot .u32 a1 255) + ((wrap64 (t231 - 1048576)) % 4294967296)) % 4294967296)) else (if t231 < (-524288) then (some (((Go.bits .andNot .u32 a1 255) + ((wrap64 (t231 + 1048576)) % 4294967296)) % 4294967296)) else (some (((Go.bits .andNot .u32 a1 255) + ((t231) % 4294967296)) % 4294967296)))))
theorem cookie_Back.calls (a0 : Int) (a1 : Int) (r : Int) (w : World) (h : cookie_Back.f a0 a1 = some r) :
    Calls Try.prog 89 #[.int .u32 a0, .int .u32 a1] w fun e w' => e = .returned (.int .u32 r) ∧ Drawn0 w w' := by
  have H : ((cookie_Get.f a0).bind fun bt229 => ((opts_Far.f (Go.bits .and .u32 (Go.bits .andNot .u32 a1 255) 1048575) ((((bt229.1) % 4294967296) * 256) % 4294967296)).bind fun t231 => (if t231 ≥ 524288 then (some (((Go.bits .andNot .u32 a1 255) + ((wrap64 (t231 - 1048576)) % 4294967296)) % 4294967296)) else (if t231 < (-524288) then (some (((Go.bits .andNot .u32 a1 255) + ((wrap64 (t231 + 1048576)) % 4294967296)) % 4294967296)) else (some (((Go.bits .andNot .u32 a1 255) + ((t231) % 4294967296)) % 4294967296)))))) = some r := h
  clear h
  replace H := Option.bind_eq_some_iff.mp H
  obtain ⟨⟨t229, t230⟩, A30, H⟩ := H
  replace H : ((opts_Far.f (Go.bits .and .u32 (Go.bits .andNot .u32 a1 255) 1048575) ((((t229) % 4294967296) * 256) % 4294967296)).bind fun t231 => (if t231 ≥ 524288 then (some (((Go.bits .andNot .u32 a1 255) + ((wrap64 (t231 - 1048576)) % 4294967296)) % 4294967296)) else (if t231 < (-524288) then (some (((Go.bits .andNot .u32 a1 255) + ((wrap64 (t231 + 1048576)) % 4294967296)) % 4294967296)) else (some (((Go.bits .andNot .u32 a1 255) + ((t231) % 4294967296)) % 4294967296))))) = some r := H
  have A3 := am_ A30
  clear A30
  replace H := Option.bind_eq_some_iff.mp H
  obtain ⟨t231, A40, H⟩ := H
  replace H : (if t231 ≥ 524288 then (some (((Go.bits .andNot .u32 a1 255) + ((wrap64 (t231 - 1048576)) % 4294967296)) % 4294967296)) else (if t231 < (-524288) then (some (((Go.bits .andNot .u32 a1 255) + ((wrap64 (t231 + 1048576)) % 4294967296)) % 4294967296)) else (some (((Go.bits .andNot .u32 a1 255) + ((t231) % 4294967296)) % 4294967296)))) = some r := H
  have A4 := am_ A40
  clear A40
  by_cases c5 : t231 ≥ 524288
  · rw [if_pos c5] at H
    have c5b0 : decide (524288 ≤ t231) = true := decide_eq_true c5
    clear c5
    obtain rfl := Option.some.inj H
    go_enter Try.func89, Try.ntmps89
    go_wp2_with (first | ((with_reducible refine gate_callee (f := 105) rfl ?_); refine goesL_ (some 11) rfl rfl Try.func105 (by kernel_rfl) rfl #[.int .u32 a0] rfl (by (try simp only [List.map_toArray, List.map_cons, List.map_nil]); first | done | rfl | (simp only [List.length_drop, List.length_take]; rfl)) ?_; (with_reducible refine (cookie_Get.calls a0 t229 t230 _ A3.out).mono ?_); rintro e w' ⟨rfl, ⟨nd, rfl⟩⟩; refine ⟨_, rfl, ?_⟩) | ((with_reducible refine gate_callee (f := 106) rfl ?_); refine goesL_ (some 22) rfl rfl Try.func106 (by kernel_rfl) rfl #[.int .u32 (Go.bits .and .u32 (Go.bits .andNot .u32 a1 255) 1048575), .int .u32 ((((t229) % 4294967296) * 256) % 4294967296)] rfl (by (try simp only [List.map_toArray, List.map_cons, List.map_nil]); first | done | rfl | (simp only [List.length_drop, List.length_take]; rfl)) ?_; (with_reducible refine (opts_Far.calls (Go.bits .and .u32 (Go.bits .andNot .u32 a1 255) 1048575) ((((t229) % 4294967296) * 256) % 4294967296) t231 _ A4.out).mono ?_); rintro e w' ⟨rfl, ⟨nd, rfl⟩⟩; refine ⟨_, rfl, ?_⟩))
    go_ret
    exact ⟨by first | rfl | (simp; done) | (simp [*]; done), by repeat (first | exact Drawn0.refl _ | apply Drawn0.step)⟩
  · rw [if_neg c5] at H
    have c5b0 : decide (524288 ≤ t231) = false := decide_eq_false c5
    clear c5
    by_cases c6 : t231 < (-524288)
    · rw [if_pos c6] at H
      have c6b0 : decide (t231 < (-524288)) = true := decide_eq_true c6
      clear c6
      obtain rfl := Option.some.inj H
      go_enter Try.func89, Try.ntmps89
      go_wp2_with (first | ((with_reducible refine gate_callee (f := 105) rfl ?_); refine goesL_ (some 11) rfl rfl Try.func105 (by kernel_rfl) rfl #[.int .u32 a0] rfl (by (try simp only [List.map_toArray, List.map_cons, List.map_nil]); first | done | rfl | (simp only [List.length_drop, List.length_take]; rfl)) ?_; (with_reducible refine (cookie_Get.calls a0 t229 t230 _ A3.out).mono ?_); rintro e w' ⟨rfl, ⟨nd, rfl⟩⟩; refine ⟨_, rfl, ?_⟩) | ((with_reducible refine gate_callee (f := 106) rfl ?_); refine goesL_ (some 22) rfl rfl Try.func106 (by kernel_rfl) rfl #[.int .u32 (Go.bits .and .u32 (Go.bits .andNot .u32 a1 255) 1048575), .int .u32 ((((t229) % 4294967296) * 256) % 4294967296)] rfl (by (try simp only [List.map_toArray, List.map_cons, List.map_nil]); first | done | rfl | (simp only [List.length_drop, List.length_take]; rfl)) ?_; (with_reducible refine (opts_Far.calls (Go.bits .and .u32 (Go.bits .andNot .u32 a1 255) 1048575) ((((t229) % 4294967296) * 256) % 4294967296) t231 _ A4.out).mono ?_); rintro e w' ⟨rfl, ⟨nd, rfl⟩⟩; refine ⟨_, rfl, ?_⟩))
      go_ret
      exact ⟨by first | rfl | (simp; done) | (simp [*]; done), by repeat (first | exact Drawn0.refl _ | apply Drawn0.step)⟩
    · rw [if_neg c6] at H
      have c6b0 : decide (t231 < (-524288)) = false := decide_eq_false c6
      clear c6
      obtain rfl := Option.some.inj H
      go_enter Try.func89, Try.ntmps89
      go_wp2_with (first | ((with_reducible refine gate_callee (f := 105) rfl ?_); refine goesL_ (some 11) rfl rfl Try.func105 (by kernel_rfl) rfl #[.int .u32 a0] rfl (by (try simp only [List.map_toArray, List.map_cons, List.map_nil]); first | done | rfl | (simp only [List.length_drop, List.length_take]; rfl)) ?_; (with_reducible refine (cookie_Get.calls a0 t229 t230 _ A3.out).mono ?_); rintro e w' ⟨rfl, ⟨nd, rfl⟩⟩; refine ⟨_, rfl, ?_⟩) | ((with_reducible refine gate_callee (f := 106) rfl ?_); refine goesL_ (some 22) rfl rfl Try.func106 (by kernel_rfl) rfl #[.int .u32 (Go.bits .and .u32 (Go.bits .andNot .u32 a1 255) 1048575), .int .u32 ((((t229) % 4294967296) * 256) % 4294967296)] rfl (by (try simp only [List.map_toArray, List.map_cons, List.map_nil]); first | done | rfl | (simp only [List.length_drop, List.length_take]; rfl)) ?_; (with_reducible refine (opts_Far.calls (Go.bits .and .u32 (Go.bits .andNot .u32 a1 255) 1048575) ((((t229) % 4294967296) * 256) % 4294967296) t231 _ A4.out).mono ?_); rintro e w' ⟨rfl, ⟨nd, rfl⟩⟩; refine ⟨_, rfl, ?_⟩))
      go_ret
      exact ⟨by first | rfl | (simp; done) | (simp [*]; done), by repeat (first | exact Drawn0.refl _ | apply Drawn0.step)⟩
def cookie_parts_number.f (a0_0 : Int) (a0_1 : Int) (a0_2 : Int) (a1 : Int) : Option (Int) := (cookie_tagBits.f a1).bind fun t233 => (if 0 ≤ t233 then (some (Go.bits .or .i64 (shl .i64 (Go.bits .or .i64 (wrap64 (a0_0 * 64)) a0_1) t233) a0_2)) else (none))
theorem cookie_parts_number.calls (a0_0 : Int) (a0_1 : Int) (a0_2 : Int) (a1 : Int) (r : Int) (w : World) (h : cookie_parts_number.f a0_0 a0_1 a0_2 a1 = some r) :
    Calls Try.prog 59 #[.agg #[.int .i64 a0_0, .int .i64 a0_1, .int .i64 a0_2], .int .i64 a1] w fun e w' => e = .returned (.int .i64 r) ∧ Below w.heap.size w w' := by
  have hu122 := Try.underlying122
  have HB := am_ (Below.refl w.heap.size w)
  have H : ((cookie_tagBits.f a1).bind fun t233 => (if 0 ≤ t233 then (some (Go.bits .or .i64 (shl .i64 (Go.bits .or .i64 (wrap64 (a0_0 * 64)) a0_1) t233) a0_2)) else (none))) = some r := h
  clear h
  replace H := Option.bind_eq_some_iff.mp H
  obtain ⟨t233, A30, H⟩ := H
  replace H : (if 0 ≤ t233 then (some (Go.bits .or .i64 (shl .i64 (Go.bits .or .i64 (wrap64 (a0_0 * 64)) a0_1) t233) a0_2)) else (none)) = some r := H
  have A3 := am_ A30
  clear A30
  by_cases c4 : 0 ≤ t233
  · rw [if_pos c4] at H
    have c4b0 := eq_true c4
    have c4b1 : decide (0 ≤ t233) = true := decide_eq_true c4
    clear c4
    obtain ⟨ji5, hji5⟩ : ∃ j_ : Int, (shl .i64 (Go.bits .or .i64 (wrap64 (a0_0 * 64)) a0_1) t233) = j_ := ⟨_, rfl⟩
    replace H : (some (Go.bits .or .i64 (ji5) a0_2)) = some r := by first | (rw [hji5] at H; exact H) | (simp only [hji5] at H ⊢; exact H)
    (try rw [hji5] at A3)
    have hji5_ : (IntKind.i64.wrap ((Go.bits .or .i64 (wrap64 (a0_0 * 64)) a0_1) * 2 ^ min t233.toNat 64)) = ji5 := hji5
    have hji5z : t233 ≤ 64 → (IntKind.i64.wrap ((Go.bits .or .i64 (wrap64 (a0_0 * 64)) a0_1) * 2 ^ t233.toNat)) = ji5 := shl_small hji5
    have hji5y : (wrap64 ((Go.bits .or .i64 (wrap64 (a0_0 * 64)) a0_1) * 2 ^ min t233.toNat 64)) = ji5 := (i64_w _).symm.trans hji5_
    have hji5x : t233 ≤ 64 → (wrap64 ((Go.bits .or .i64 (wrap64 (a0_0 * 64)) a0_1) * 2 ^ t233.toNat)) = ji5 := fun h_ => (i64_w _).symm.trans (hji5z h_)
    obtain rfl := Option.some.inj H
    go_enter Try.func59, Try.ntmps59
    go_wp2_with (first | ((with_reducible refine gate_dst (N := 2) rfl ?_); refine box_event ?hg (N := 2) ?hd (cs := #[.int .i64 a0_0, .int .i64 a0_1, .int .i64 a0_2]) (t := 122) ?hr ?_; (case hd => rfl); (case hg => rfl); (case hr => first | (go_simp; done) | (go_simp; rfl)); intro gb232 hg w6 hbox hb; have n0_ := am_ (below_step (by repeat (first | (with_reducible first | exact HB.out | apply below_alloc | apply pw_below_drewN | apply below_drew1) | exact HB.out)) hb); have n1_ := am_ (hbox); have n2_ := am_ ((by rw [hg]; exact (below_size (by repeat (first | (with_reducible first | exact HB.out | apply below_alloc | apply pw_below_drewN | apply below_drew1) | exact HB.out))) : w.heap.size ≤ gb232)); have n3_ := am_ ((by rw [hg]; exact (below_size (by repeat (first | (with_reducible first | exact HB.out | apply below_alloc | apply pw_below_drewN | apply below_drew1) | exact HB.out))) : w.heap.size ≤ gb232)); clear HB; have HB := n0_; have BK232 := n1_; have GW232 := n2_; have GE232 := n3_; clear n0_ n1_ n2_ n3_; clear hb hbox hg; have hcz7_0 : w6.cell? ⟨gb232, 0, none⟩ = some (.int .i64 a0_0) := (blk_cell BK232.out 0).trans rfl; have hcz7_1 : w6.cell? ⟨gb232, 1, none⟩ = some (.int .i64 a0_1) := (blk_cell BK232.out 1).trans rfl; have hcz7_2 : w6.cell? ⟨gb232, 2, none⟩ = some (.int .i64 a0_2) := (blk_cell BK232.out 2).trans rfl; have hfz7_0 := blk_frozen BK232.out 0; have hfz7_1 := blk_frozen BK232.out 1; have hfz7_2 := blk_frozen BK232.out 2) | (go_at_call 62; (with_reducible refine (cookie_tagBits.calls a1 t233 _ A3.out).mono ?_); rintro e w' ⟨rfl, ⟨nd, rfl⟩⟩; (try first | exact ⟨rfl, _, World.drewN_drewN _ _ _⟩ | exact ⟨rfl, _, Eq.trans (World.drewN_drewN _ _ _) (congrArg (World.drewN _) (Nat.add_assoc _ _ _))⟩)))
    repeat (go_quiet (first | ((with_reducible refine gate_dst (N := 2) rfl ?_); refine box_event ?hg (N := 2) ?hd (cs := #[.int .i64 a0_0, .int .i64 a0_1, .int .i64 a0_2]) (t := 122) ?hr ?_; (case hd => rfl); (case hg => rfl); (case hr => first | (go_simp; done) | (go_simp; rfl)); intro gb232 hg w6 hbox hb; have n0_ := am_ (below_step (by repeat (first | (with_reducible first | exact HB.out | apply below_alloc | apply pw_below_drewN | apply below_drew1) | exact HB.out)) hb); have n1_ := am_ (hbox); have n2_ := am_ ((by rw [hg]; exact (below_size (by repeat (first | (with_reducible first | exact HB.out | apply below_alloc | apply pw_below_drewN | apply below_drew1) | exact HB.out))) : w.heap.size ≤ gb232)); have n3_ := am_ ((by rw [hg]; exact (below_size (by repeat (first | (with_reducible first | exact HB.out | apply below_alloc | apply pw_below_drewN | apply below_drew1) | exact HB.out))) : w.heap.size ≤ gb232)); clear HB; have HB := n0_; have BK232 := n1_; have GW232 := n2_; have GE232 := n3_; clear n0_ n1_ n2_ n3_; clear hb hbox hg; have hcz7_0 : w6.cell? ⟨gb232, 0, none⟩ = some (.int .i64 a0_0) := (blk_cell BK232.out 0).trans rfl; have hcz7_1 : w6.cell? ⟨gb232, 1, none⟩ = some (.int .i64 a0_1) := (blk_cell BK232.out 1).trans rfl; have hcz7_2 : w6.cell? ⟨gb232, 2, none⟩ = some (.int .i64 a0_2) := (blk_cell BK232.out 2).trans rfl; have hfz7_0 := blk_frozen BK232.out 0; have hfz7_1 := blk_frozen BK232.out 1; have hfz7_2 := blk_frozen BK232.out 2) | (go_at_call 62; (with_reducible refine (cookie_tagBits.calls a1 t233 _ A3.out).mono ?_); rintro e w' ⟨rfl, ⟨nd, rfl⟩⟩; (try first | exact ⟨rfl, _, World.drewN_drewN _ _ _⟩ | exact ⟨rfl, _, Eq.trans (World.drewN_drewN _ _ _) (congrArg (World.drewN _) (Nat.add_assoc _ _ _))⟩))); try go_wp2_with (first | ((with_reducible refine gate_dst (N := 2) rfl ?_); refine box_event ?hg (N := 2) ?hd (cs := #[.int .i64 a0_0, .int .i64 a0_1, .int .i64 a0_2]) (t := 122) ?hr ?_; (case hd => rfl); (case hg => rfl); (case hr => first | (go_simp; done) | (go_simp; rfl)); intro gb232 hg w6 hbox hb; have n0_ := am_ (below_step (by repeat (first | (with_reducible first | exact HB.out | apply below_alloc | apply pw_below_drewN | apply below_drew1) | exact HB.out)) hb); have n1_ := am_ (hbox); have n2_ := am_ ((by rw [hg]; exact (below_size (by repeat (first | (with_reducible first | exact HB.out | apply below_alloc | apply pw_below_drewN | apply below_drew1) | exact HB.out))) : w.heap.size ≤ gb232)); have n3_ := am_ ((by rw [hg]; exact (below_size (by repeat (first | (with_reducible first | exact HB.out | apply below_alloc | apply pw_below_drewN | apply below_drew1) | exact HB.out))) : w.heap.size ≤ gb232)); clear HB; have HB := n0_; have BK232 := n1_; have GW232 := n2_; have GE232 := n3_; clear n0_ n1_ n2_ n3_; clear hb hbox hg; have hcz7_0 : w6.cell? ⟨gb232, 0, none⟩ = some (.int .i64 a0_0) := (blk_cell BK232.out 0).trans rfl; have hcz7_1 : w6.cell? ⟨gb232, 1, none⟩ = some (.int .i64 a0_1) := (blk_cell BK232.out 1).trans rfl; have hcz7_2 : w6.cell? ⟨gb232, 2, none⟩ = some (.int .i64 a0_2) := (blk_cell BK232.out 2).trans rfl; have hfz7_0 := blk_frozen BK232.out 0; have hfz7_1 := blk_frozen BK232.out 1; have hfz7_2 := blk_frozen BK232.out 2) | (go_at_call 62; (with_reducible refine (cookie_tagBits.calls a1 t233 _ A3.out).mono ?_); rintro e w' ⟨rfl, ⟨nd, rfl⟩⟩; (try first | exact ⟨rfl, _, World.drewN_drewN _ _ _⟩ | exact ⟨rfl, _, Eq.trans (World.drewN_drewN _ _ _) (congrArg (World.drewN _) (Nat.add_assoc _ _ _))⟩))))
    go_ret
    exact ⟨by first | rfl | (simp [errW_none, errW_some] <;> rfl) | (simp only [← hji5]; first | rfl | (simp [errW_none, errW_some] <;> rfl)) | (simp [*, errW_none, errW_some] <;> rfl), by repeat (first | (with_reducible first | exact HB.out | apply below_alloc | apply pw_below_drewN | apply below_drew1 | refine below_set ?_ GE232.out) | exact HB.out)⟩
  · rw [if_neg c4] at H
    exact absurd H (by simp)
def cookie_Put.f (a0 : Int) (a1 : Int) : Option (Int) := some (Go.bits .or .u32 (((a0 / 256) * 1048576) % 4294967296) (Go.bits .and .u32 ((a1) % 4294967296) 1048575))
theorem cookie_Put.calls (a0 : Int) (a1 : Int) (r : Int) (w : World) (h : cookie_Put.f a0 a1 = some r) :
    Calls Try.prog 91 #[.int .u32 a0, .int .i64 a1] w fun e w' => e = .returned (.int .u32 r) ∧ Drawn0 w w' := by
  have H : (some (Go.bits .or .u32 (((a0 / 256) * 1048576) % 4294967296) (Go.bits .and .u32 ((a1) % 4294967296) 1048575))) = some r := h
  clear h
  obtain rfl := Option.some.inj H
  go_enter Try.func91, Try.ntmps91
  go_wp2
  go_ret
  exact ⟨by first | rfl | (simp; done) | (simp [*]; done), by repeat (first | exact Drawn0.refl _ | apply Drawn0.step)⟩
def pool_placed.f (a0 : Int) (a1 : Int) : Option (Bool) := if a0 ≥ 0 then (if a0 ≤ 4294967295 then (if a1 ≥ 0 then (some (decide (a1 ≤ 65535))) else (some false)) else (some false)) else (some false)
theorem pool_placed.calls (a0 : Int) (a1 : Int) (r : Bool) (w : World) (h : pool_placed.f a0 a1 = some r) :
    Calls Try.prog 64 #[.int .i64 a0, .int .i64 a1] w fun e w' => e = .returned (.bool r) ∧ Drawn0 w w' := by
  have H : (if a0 ≥ 0 then (if a0 ≤ 4294967295 then (if a1 ≥ 0 then (some (decide (a1 ≤ 65535))) else (some false)) else (some false)) else (some false)) = some r := h
  clear h
  by_cases c3 : a0 ≥ 0
  · rw [if_pos c3] at H
    have c3b0 : decide (0 ≤ a0) = true := decide_eq_true c3
    clear c3
    by_cases c4 : a0 ≤ 4294967295
    · rw [if_pos c4] at H
      have c4b0 : decide (a0 ≤ 4294967295) = true := decide_eq_true c4
      clear c4
      by_cases c5 : a1 ≥ 0
      · rw [if_pos c5] at H
        have c5b0 : decide (0 ≤ a1) = true := decide_eq_true c5
        clear c5
        obtain rfl := Option.some.inj H
        go_enter Try.func64, Try.ntmps64
        go_wp2
        go_ret
        exact ⟨by first | rfl | (simp; done) | (simp [*]; done), by repeat (first | exact Drawn0.refl _ | apply Drawn0.step)⟩
      · rw [if_neg c5] at H
        have c5b0 : decide (0 ≤ a1) = false := decide_eq_false c5
        clear c5
        obtain rfl := Option.some.inj H
        go_enter Try.func64, Try.ntmps64
        go_wp2
        go_ret
        exact ⟨by first | rfl | (simp; done) | (simp [*]; done), by repeat (first | exact Drawn0.refl _ | apply Drawn0.step)⟩
    · rw [if_neg c4] at H
      have c4b0 : decide (a0 ≤ 4294967295) = false := decide_eq_false c4
      clear c4
      obtain rfl := Option.some.inj H
      go_enter Try.func64, Try.ntmps64
      go_wp2
      go_ret
      exact ⟨by first | rfl | (simp; done) | (simp [*]; done), by repeat (first | exact Drawn0.refl _ | apply Drawn0.step)⟩
  · rw [if_neg c3] at H
    have c3b0 : decide (0 ≤ a0) = false := decide_eq_false c3
    clear c3
    obtain rfl := Option.some.inj H
    go_enter Try.func64, Try.ntmps64
    go_wp2
    go_ret
    exact ⟨by first | rfl | (simp; done) | (simp [*]; done), by repeat (first | exact Drawn0.refl _ | apply Drawn0.step)⟩
def roundhouselaw5_Key.f (a0 : Int) : Option (Int × Int) := some (IntKind.u64.wrap ((IntKind.u64.wrap (a0)) * 11400714819323198485), Go.bits .xor .u64 (IntKind.u64.wrap (a0)) 19088743)
theorem roundhouselaw5_Key.calls (a0 : Int) (r1 : Int) (r2 : Int) (w : World) (h : roundhouselaw5_Key.f a0 = some (r1, r2)) :
    Calls Try.prog 23 #[.int .i64 a0] w fun e w' => e = .returned (.agg #[.int .u64 r1, .int .u64 r2]) ∧ Below w.heap.size w w' := by
  have hu30 := Try.underlying30
  have HB := am_ (Below.refl w.heap.size w)
  have H : (some (IntKind.u64.wrap ((IntKind.u64.wrap (a0)) * 11400714819323198485), Go.bits .xor .u64 (IntKind.u64.wrap (a0)) 19088743)) = some (r1, r2) := h
  clear h
  simp only [Option.some.injEq, Prod.mk.injEq] at H
  obtain ⟨rfl, rfl⟩ := H
  go_enter Try.func23, Try.ntmps23
  go_wp2_with (first | ((with_reducible refine gate_dst (N := 2) rfl ?_); refine box_event ?hg (N := 2) ?hd (cs := #[.int .u64 0, .int .u64 0]) (t := 30) ?hr ?_; (case hd => rfl); (case hg => rfl); (case hr => first | (go_simp; done) | (go_simp; rfl)); intro gb238 hg w2 hbox hb; have n0_ := am_ (below_step (by repeat (first | (with_reducible first | exact HB.out | apply below_alloc | apply pw_below_drewN | apply below_drew1) | exact HB.out)) hb); have n1_ := am_ (hbox); have n2_ := am_ ((by rw [hg]; exact (below_size (by repeat (first | (with_reducible first | exact HB.out | apply below_alloc | apply pw_below_drewN | apply below_drew1) | exact HB.out))) : w.heap.size ≤ gb238)); have n3_ := am_ ((by rw [hg]; exact (below_size (by repeat (first | (with_reducible first | exact HB.out | apply below_alloc | apply pw_below_drewN | apply below_drew1) | exact HB.out))) : w.heap.size ≤ gb238)); clear HB; have HB := n0_; have BK238 := n1_; have GW238 := n2_; have GE238 := n3_; clear n0_ n1_ n2_ n3_; clear hb hbox hg; have hcz3_0 : w2.cell? ⟨gb238, 0, none⟩ = some (.int .u64 0) := (blk_cell BK238.out 0).trans rfl; have hcz3_1 : w2.cell? ⟨gb238, 1, none⟩ = some (.int .u64 0) := (blk_cell BK238.out 1).trans rfl; have hfz3_0 := blk_frozen BK238.out 0; have hfz3_1 := blk_frozen BK238.out 1))
  refine bodyPost_ret (results_cell_row rfl _ _ gb238 30 #[.int .u64 (IntKind.u64.wrap ((IntKind.u64.wrap (a0)) * 11400714819323198485)), .int .u64 (Go.bits .xor .u64 (IntKind.u64.wrap (a0)) 19088743)] (0, 0) _ rfl (by (with_reducible repeat (first | refine blk_drewN ?_ _ | refine blk_drew ?_ | refine blk_alloc ?_ _)); refine blk_put (cs := #[.int .u64 (IntKind.u64.wrap ((IntKind.u64.wrap (a0)) * 11400714819323198485)), .int .u64 0]) ?_ 1 _ rfl; (with_reducible repeat (first | refine blk_drewN ?_ _ | refine blk_drew ?_ | refine blk_alloc ?_ _)); refine blk_put (cs := #[.int .u64 0, .int .u64 0]) ?_ 0 _ rfl; (with_reducible repeat (first | refine blk_drewN ?_ _ | refine blk_drew ?_ | refine blk_alloc ?_ _)); exact BK238.out) Try.underlying30 rfl (by kernel_rfl)) rfl ?_
  exact ⟨by first | rfl | (simp [errW_none, errW_some] <;> rfl) | (simp [*, errW_none, errW_some] <;> rfl), by repeat (first | (with_reducible first | exact HB.out | apply below_alloc | apply pw_below_drewN | apply below_drew1 | refine below_set ?_ GE238.out) | exact HB.out)⟩
def roundhouseref6_out.f (a0 : Int) (a1 : Int) (a2 : Int) : Option (Bool) := if a0 < a1 then (some true) else (some (decide (a0 > a2)))
theorem roundhouseref6_out.calls (a0 : Int) (a1 : Int) (a2 : Int) (r : Bool) (w : World) (h : roundhouseref6_out.f a0 a1 a2 = some r) :
    Calls Try.prog 70 #[.int .i64 a0, .int .i64 a1, .int .i64 a2] w fun e w' => e = .returned (.bool r) ∧ Drawn0 w w' := by
  have H : (if a0 < a1 then (some true) else (some (decide (a0 > a2)))) = some r := h
  clear h
  by_cases c4 : a0 < a1
  · rw [if_pos c4] at H
    have c4b0 : decide (a0 < a1) = true := decide_eq_true c4
    clear c4
    obtain rfl := Option.some.inj H
    go_enter Try.func70, Try.ntmps70
    go_wp2
    go_ret
    exact ⟨by first | rfl | (simp; done) | (simp [*]; done), by repeat (first | exact Drawn0.refl _ | apply Drawn0.step)⟩
  · rw [if_neg c4] at H
    have c4b0 : decide (a0 < a1) = false := decide_eq_false c4
    clear c4
    obtain rfl := Option.some.inj H
    go_enter Try.func70, Try.ntmps70
    go_wp2
    go_ret
    exact ⟨by first | rfl | (simp; done) | (simp [*]; done), by repeat (first | exact Drawn0.refl _ | apply Drawn0.step)⟩
def roundhouseref5_Next.f (a0_0 : Int) (a0_1 : Int) (a0_2 : Int) (a0_3 : Int) (a0_4 : Int) (a0_5 : Int) (a0_6 : Int) (a1_0 : Int) (a1_1 : Int) : Option (Int × Int × Int × Int × Int × Int × Int) := some (wrap64 (a0_0 + 1), a0_3, a0_4, a0_5, a0_6, a1_0, a1_1)
theorem roundhouseref5_Next.calls (a0_0 : Int) (a0_1 : Int) (a0_2 : Int) (a0_3 : Int) (a0_4 : Int) (a0_5 : Int) (a0_6 : Int) (a1_0 : Int) (a1_1 : Int) (r1 : Int) (r2 : Int) (r3 : Int) (r4 : Int) (r5 : Int) (r6 : Int) (r7 : Int) (w : World) (h : roundhouseref5_Next.f a0_0 a0_1 a0_2 a0_3 a0_4 a0_5 a0_6 a1_0 a1_1 = some (r1, r2, r3, r4, r5, r6, r7)) :
    Calls Try.prog 74 #[.agg #[.int .i64 a0_0, .int .u64 a0_1, .int .u64 a0_2, .int .u64 a0_3, .int .u64 a0_4, .int .u64 a0_5, .int .u64 a0_6], .agg #[.int .u64 a1_0, .int .u64 a1_1]] w fun e w' => e = .returned (.agg #[.int .i64 r1, .int .u64 r2, .int .u64 r3, .int .u64 r4, .int .u64 r5, .int .u64 r6, .int .u64 r7]) ∧ Below w.heap.size w w' := by
  have hu32 := Try.underlying32
  have hu30 := Try.underlying30
  have HB := am_ (Below.refl w.heap.size w)
  have H : (some (wrap64 (a0_0 + 1), a0_3, a0_4, a0_5, a0_6, a1_0, a1_1)) = some (r1, r2, r3, r4, r5, r6, r7) := h
  clear h
  simp only [Option.some.injEq, Prod.mk.injEq] at H
  obtain ⟨rfl, rfl, rfl, rfl, rfl, rfl, rfl⟩ := H
  go_enter Try.func74, Try.ntmps74
  go_wp2_with (first | ((with_reducible refine gate_dst (N := 2) rfl ?_); refine box_event ?hg (N := 2) ?hd (cs := #[.int .i64 a0_0, .int .u64 a0_1, .int .u64 a0_2, .int .u64 a0_3, .int .u64 a0_4, .int .u64 a0_5, .int .u64 a0_6]) (t := 32) ?hr ?_; (case hd => rfl); (case hg => rfl); (case hr => first | (go_simp; done) | (go_simp; rfl)); intro gb246 hg w3 hbox hb; have n0_ := am_ (below_step (by repeat (first | (with_reducible first | exact HB.out | apply below_alloc | apply pw_below_drewN | apply below_drew1) | exact HB.out)) hb); have n1_ := am_ (hbox); have n2_ := am_ ((by rw [hg]; exact (below_size (by repeat (first | (with_reducible first | exact HB.out | apply below_alloc | apply pw_below_drewN | apply below_drew1) | exact HB.out))) : w.heap.size ≤ gb246)); have n3_ := am_ ((by rw [hg]; exact (below_size (by repeat (first | (with_reducible first | exact HB.out | apply below_alloc | apply pw_below_drewN | apply below_drew1) | exact HB.out))) : w.heap.size ≤ gb246)); clear HB; have HB := n0_; have BK246 := n1_; have GW246 := n2_; have GE246 := n3_; clear n0_ n1_ n2_ n3_; clear hb hbox hg) | ((with_reducible refine gate_dst (N := 3) rfl ?_); refine box_event ?hg (N := 3) ?hd (cs := #[.int .u64 a1_0, .int .u64 a1_1]) (t := 30) ?hr ?_; (case hd => rfl); (case hg => rfl); (case hr => first | (go_simp; done) | (go_simp; rfl)); intro gb247 hg w4 hbox hb; have n0_ := am_ (blk_below (g := gb246) (o := .cells #[.int .i64 a0_0, .int .u64 a0_1, .int .u64 a0_2, .int .u64 a0_3, .int .u64 a0_4, .int .u64 a0_5, .int .u64 a0_6] 32 (0, 0)) (by (with_reducible repeat (first | refine blk_drewN ?_ _ | refine blk_drew ?_ | refine blk_alloc ?_ _)); exact BK246.out) hb); have n1_ := am_ (below_step (by repeat (first | (with_reducible first | exact HB.out | apply below_alloc | apply pw_below_drewN | apply below_drew1 | refine below_set ?_ GE246.out) | exact HB.out)) hb); have n2_ := am_ (hbox); have n3_ := am_ ((by rw [hg]; exact (below_size (by repeat (first | (with_reducible first | exact HB.out | apply below_alloc | apply pw_below_drewN | apply below_drew1 | refine below_set ?_ GE246.out) | exact HB.out))) : w.heap.size ≤ gb247)); have n4_ := am_ ((by rw [hg]; exact (below_size (by repeat (first | (with_reducible first | exact HB.out | apply below_alloc | apply pw_below_drewN | apply below_drew1 | refine below_set ?_ GE246.out) | exact HB.out))) : w.heap.size ≤ gb247)); have n5_ := am_ ((by rw [hg]; exact Nat.ne_of_lt (blk_lt (g := gb246) (o := .cells #[.int .i64 a0_0, .int .u64 a0_1, .int .u64 a0_2, .int .u64 a0_3, .int .u64 a0_4, .int .u64 a0_5, .int .u64 a0_6] 32 (0, 0)) (by (with_reducible repeat (first | refine blk_drewN ?_ _ | refine blk_drew ?_ | refine blk_alloc ?_ _)); exact BK246.out)) : gb246 ≠ gb247)); have n6_ := am_ ((by rw [hg]; exact Nat.ne_of_gt (blk_lt (g := gb246) (o := .cells #[.int .i64 a0_0, .int .u64 a0_1, .int .u64 a0_2, .int .u64 a0_3, .int .u64 a0_4, .int .u64 a0_5, .int .u64 a0_6] 32 (0, 0)) (by (with_reducible repeat (first | refine blk_drewN ?_ _ | refine blk_drew ?_ | refine blk_alloc ?_ _)); exact BK246.out)) : gb247 ≠ gb246)); clear BK246; clear HB; have BK246 := n0_; have HB := n1_; have BK247 := n2_; have GW247 := n3_; have GE247 := n4_; have NB246_247 := n5_; have NB247_246 := n6_; clear n0_ n1_ n2_ n3_ n4_ n5_ n6_; clear hb hbox hg) | ((with_reducible refine gate_dst (N := 4) rfl ?_); refine box_event ?hg (N := 4) ?hd (cs := #[.int .i64 0, .int .u64 0, .int .u64 0, .int .u64 0, .int .u64 0, .int .u64 0, .int .u64 0]) (t := 32) ?hr ?_; (case hd => rfl); (case hg => rfl); (case hr => first | (go_simp; done) | (go_simp; rfl)); intro gb248 hg w5 hbox hb; have n0_ := am_ (blk_below (g := gb246) (o := .cells #[.int .i64 a0_0, .int .u64 a0_1, .int .u64 a0_2, .int .u64 a0_3, .int .u64 a0_4, .int .u64 a0_5, .int .u64 a0_6] 32 (0, 0)) (by (with_reducible repeat (first | refine blk_drewN ?_ _ | refine blk_drew ?_ | refine blk_alloc ?_ _)); exact BK246.out) hb); have n1_ := am_ (blk_below (g := gb247) (o := .cells #[.int .u64 a1_0, .int .u64 a1_1] 30 (0, 0)) (by (with_reducible repeat (first | refine blk_drewN ?_ _ | refine blk_drew ?_ | refine blk_alloc ?_ _)); exact BK247.out) hb); have n2_ := am_ (below_step (by repeat (first | (with_reducible first | exact HB.out | apply below_alloc | apply pw_below_drewN | apply below_drew1 | refine below_set ?_ GE246.out | refine below_set ?_ GE247.out) | exact HB.out)) hb); have n3_ := am_ (hbox); have n4_ := am_ ((by rw [hg]; exact (below_size (by repeat (first | (with_reducible first | exact HB.out | apply below_alloc | apply pw_below_drewN | apply below_drew1 | refine below_set ?_ GE246.out | refine below_set ?_ GE247.out) | exact HB.out))) : w.heap.size ≤ gb248)); have n5_ := am_ ((by rw [hg]; exact (below_size (by repeat (first | (with_reducible first | exact HB.out | apply below_alloc | apply pw_below_drewN | apply below_drew1 | refine below_set ?_ GE246.out | refine below_set ?_ GE247.out) | exact HB.out))) : w.heap.size ≤ gb248)); have n6_ := am_ ((by rw [hg]; exact Nat.ne_of_lt (blk_lt (g := gb246) (o := .cells #[.int .i64 a0_0, .int .u64 a0_1, .int .u64 a0_2, .int .u64 a0_3, .int .u64 a0_4, .int .u64 a0_5, .int .u64 a0_6] 32 (0, 0)) (by (with_reducible repeat (first | refine blk_drewN ?_ _ | refine blk_drew ?_ | refine blk_alloc ?_ _)); exact BK246.out)) : gb246 ≠ gb248)); have n7_ := am_ ((by rw [hg]; exact Nat.ne_of_gt (blk_lt (g := gb246) (o := .cells #[.int .i64 a0_0, .int .u64 a0_1, .int .u64 a0_2, .int .u64 a0_3, .int .u64 a0_4, .int .u64 a0_5, .int .u64 a0_6] 32 (0, 0)) (by (with_reducible repeat (first | refine blk_drewN ?_ _ | refine blk_drew ?_ | refine blk_alloc ?_ _)); exact BK246.out)) : gb248 ≠ gb246)); have n8_ := am_ ((by rw [hg]; exact Nat.ne_of_lt (blk_lt (g := gb247) (o := .cells #[.int .u64 a1_0, .int .u64 a1_1] 30 (0, 0)) (by (with_reducible repeat (first | refine blk_drewN ?_ _ | refine blk_drew ?_ | refine blk_alloc ?_ _)); exact BK247.out)) : gb247 ≠ gb248)); have n9_ := am_ ((by rw [hg]; exact Nat.ne_of_gt (blk_lt (g := gb247) (o := .cells #[.int .u64 a1_0, .int .u64 a1_1] 30 (0, 0)) (by (with_reducible repeat (first | refine blk_drewN ?_ _ | refine blk_drew ?_ | refine blk_alloc ?_ _)); exact BK247.out)) : gb248 ≠ gb247)); clear BK246; clear BK247; clear HB; have BK246 := n0_; have BK247 := n1_; have HB := n2_; have BK248 := n3_; have GW248 := n4_; have GE248 := n5_; have NB246_248 := n6_; have NB248_246 := n7_; have NB247_248 := n8_; have NB248_247 := n9_; clear n0_ n1_ n2_ n3_ n4_ n5_ n6_ n7_ n8_ n9_; clear hb hbox hg; have hnb6 := NB246_247.out; have hnc6 := NB247_246.out; have hnb7 := NB246_248.out; have hnc7 := NB248_246.out; have hcz8_0 : w5.cell? ⟨gb246, 0, none⟩ = some (.int .i64 a0_0) := (blk_cell BK246.out 0).trans rfl; have hcz8_1 : w5.cell? ⟨gb246, 1, none⟩ = some (.int .u64 a0_1) := (blk_cell BK246.out 1).trans rfl; have hcz8_2 : w5.cell? ⟨gb246, 2, none⟩ = some (.int .u64 a0_2) := (blk_cell BK246.out 2).trans rfl; have hcz8_3 : w5.cell? ⟨gb246, 3, none⟩ = some (.int .u64 a0_3) := (blk_cell BK246.out 3).trans rfl; have hcz8_4 : w5.cell? ⟨gb246, 4, none⟩ = some (.int .u64 a0_4) := (blk_cell BK246.out 4).trans rfl; have hcz8_5 : w5.cell? ⟨gb246, 5, none⟩ = some (.int .u64 a0_5) := (blk_cell BK246.out 5).trans rfl; have hcz8_6 : w5.cell? ⟨gb246, 6, none⟩ = some (.int .u64 a0_6) := (blk_cell BK246.out 6).trans rfl; have hfz8_0 := blk_frozen BK246.out 0; have hfz8_1 := blk_frozen BK246.out 1; have hfz8_2 := blk_frozen BK246.out 2; have hfz8_3 := blk_frozen BK246.out 3; have hfz8_4 := blk_frozen BK246.out 4; have hfz8_5 := blk_frozen BK246.out 5; have hfz8_6 := blk_frozen BK246.out 6; have hnb9 := NB247_248.out; have hnc9 := NB248_247.out; have hcz10_0 : w5.cell? ⟨gb247, 0, none⟩ = some (.int .u64 a1_0) := (blk_cell BK247.out 0).trans rfl; have hcz10_1 : w5.cell? ⟨gb247, 1, none⟩ = some (.int .u64 a1_1) := (blk_cell BK247.out 1).trans rfl; have hfz10_0 := blk_frozen BK247.out 0; have hfz10_1 := blk_frozen BK247.out 1; have hcz11_0 : w5.cell? ⟨gb248, 0, none⟩ = some (.int .i64 0) := (blk_cell BK248.out 0).trans rfl; have hcz11_1 : w5.cell? ⟨gb248, 1, none⟩ = some (.int .u64 0) := (blk_cell BK248.out 1).trans rfl; have hcz11_2 : w5.cell? ⟨gb248, 2, none⟩ = some (.int .u64 0) := (blk_cell BK248.out 2).trans rfl; have hcz11_3 : w5.cell? ⟨gb248, 3, none⟩ = some (.int .u64 0) := (blk_cell BK248.out 3).trans rfl; have hcz11_4 : w5.cell? ⟨gb248, 4, none⟩ = some (.int .u64 0) := (blk_cell BK248.out 4).trans rfl; have hcz11_5 : w5.cell? ⟨gb248, 5, none⟩ = some (.int .u64 0) := (blk_cell BK248.out 5).trans rfl; have hcz11_6 : w5.cell? ⟨gb248, 6, none⟩ = some (.int .u64 0) := (blk_cell BK248.out 6).trans rfl; have hfz11_0 := blk_frozen BK248.out 0; have hfz11_1 := blk_frozen BK248.out 1; have hfz11_2 := blk_frozen BK248.out 2; have hfz11_3 := blk_frozen BK248.out 3; have hfz11_4 := blk_frozen BK248.out 4; have hfz11_5 := blk_frozen BK248.out 5; have hfz11_6 := blk_frozen BK248.out 6))
  refine bodyPost_ret (results_cell_row rfl _ _ gb248 32 #[.int .i64 (wrap64 (a0_0 + 1)), .int .u64 a0_3, .int .u64 a0_4, .int .u64 a0_5, .int .u64 a0_6, .int .u64 a1_0, .int .u64 a1_1] (0, 0) _ rfl (by (with_reducible repeat (first | refine blk_drewN ?_ _ | refine blk_drew ?_ | refine blk_alloc ?_ _)); refine blk_put (cs := #[.int .i64 (wrap64 (a0_0 + 1)), .int .u64 a0_3, .int .u64 a0_4, .int .u64 a0_5, .int .u64 a0_6, .int .u64 a1_0, .int .u64 0]) ?_ 6 _ rfl; (with_reducible repeat (first | refine blk_drewN ?_ _ | refine blk_drew ?_ | refine blk_alloc ?_ _)); refine blk_put (cs := #[.int .i64 (wrap64 (a0_0 + 1)), .int .u64 a0_3, .int .u64 a0_4, .int .u64 a0_5, .int .u64 a0_6, .int .u64 0, .int .u64 0]) ?_ 5 _ rfl; (with_reducible repeat (first | refine blk_drewN ?_ _ | refine blk_drew ?_ | refine blk_alloc ?_ _)); refine blk_put (cs := #[.int .i64 (wrap64 (a0_0 + 1)), .int .u64 a0_3, .int .u64 a0_4, .int .u64 a0_5, .int .u64 0, .int .u64 0, .int .u64 0]) ?_ 4 _ rfl; (with_reducible repeat (first | refine blk_drewN ?_ _ | refine blk_drew ?_ | refine blk_alloc ?_ _)); refine blk_put (cs := #[.int .i64 (wrap64 (a0_0 + 1)), .int .u64 a0_3, .int .u64 a0_4, .int .u64 0, .int .u64 0, .int .u64 0, .int .u64 0]) ?_ 3 _ rfl; (with_reducible repeat (first | refine blk_drewN ?_ _ | refine blk_drew ?_ | refine blk_alloc ?_ _)); refine blk_put (cs := #[.int .i64 (wrap64 (a0_0 + 1)), .int .u64 a0_3, .int .u64 0, .int .u64 0, .int .u64 0, .int .u64 0, .int .u64 0]) ?_ 2 _ rfl; (with_reducible repeat (first | refine blk_drewN ?_ _ | refine blk_drew ?_ | refine blk_alloc ?_ _)); refine blk_put (cs := #[.int .i64 (wrap64 (a0_0 + 1)), .int .u64 0, .int .u64 0, .int .u64 0, .int .u64 0, .int .u64 0, .int .u64 0]) ?_ 1 _ rfl; (with_reducible repeat (first | refine blk_drewN ?_ _ | refine blk_drew ?_ | refine blk_alloc ?_ _)); refine blk_put (cs := #[.int .i64 0, .int .u64 0, .int .u64 0, .int .u64 0, .int .u64 0, .int .u64 0, .int .u64 0]) ?_ 0 _ rfl; (with_reducible repeat (first | refine blk_drewN ?_ _ | refine blk_drew ?_ | refine blk_alloc ?_ _)); exact BK248.out) Try.underlying32 rfl (by kernel_rfl)) rfl ?_
  exact ⟨by first | rfl | (simp [errW_none, errW_some] <;> rfl) | (simp [*, errW_none, errW_some] <;> rfl), by repeat (first | (with_reducible first | exact HB.out | apply below_alloc | apply pw_below_drewN | apply below_drew1 | refine below_set ?_ GE246.out | refine below_set ?_ GE247.out | refine below_set ?_ GE248.out) | exact HB.out)⟩
def roundhouselaw6_within.f (a0 : Int) (a1 : Int) : Option (Int) := if a1 = 0 then (none) else (if (Int.tmod a0 a1) < 0 then (some (wrap64 ((Int.tmod a0 a1) + a1))) else (some (Int.tmod a0 a1)))
theorem roundhouselaw6_within.calls (a0 : Int) (a1 : Int) (r : Int) (w : World) (h : roundhouselaw6_within.f a0 a1 = some r) :
    Calls Try.prog 75 #[.int .i64 a0, .int .i64 a1] w fun e w' => e = .returned (.int .i64 r) ∧ Drawn0 w w' := by
  have H : (if a1 = 0 then (none) else (if (Int.tmod a0 a1) < 0 then (some (wrap64 ((Int.tmod a0 a1) + a1))) else (some (Int.tmod a0 a1)))) = some r := h
  clear h
  by_cases c3 : a1 = 0
  · rw [if_pos c3] at H
    exact absurd H (by simp)
  · rw [if_neg c3] at H
    have c3b0 : (a1 == 0) = false := beq_eq_false_iff_ne.mpr c3
    have c3b1 : (a1 != 0) = true := bne_iff_ne.mpr c3
    by_cases c4 : (Int.tmod a0 a1) < 0
    · rw [if_pos c4] at H
      have c4b0 : decide ((Int.tmod a0 a1) < 0) = true := decide_eq_true c4
      clear c4
      obtain rfl := Option.some.inj H
      go_enter Try.func75, Try.ntmps75
      go_wp2
      go_ret
      exact ⟨by first | rfl | (simp; done) | (simp [*]; done), by repeat (first | exact Drawn0.refl _ | apply Drawn0.step)⟩
    · rw [if_neg c4] at H
      have c4b0 : decide ((Int.tmod a0 a1) < 0) = false := decide_eq_false c4
      clear c4
      obtain rfl := Option.some.inj H
      go_enter Try.func75, Try.ntmps75
      go_wp2
      go_ret
      exact ⟨by first | rfl | (simp; done) | (simp [*]; done), by repeat (first | exact Drawn0.refl _ | apply Drawn0.step)⟩
mutual
def roundhouselaw6_Entry.j0 : Nat → Int → Int → Option (Int × Int × Int × Int × Int × Int × Int)
  | 0, _, _ => none
  | k + 1, x3, x4 => if (Int.tmod x3 8) = 0 then (roundhouselaw6_Entry.j1 k x3 x4 (Int.tmod x3 8) ((Int.tmod x3 8) == 0)) else (roundhouselaw6_Entry.j1 k x3 x4 (Int.tmod x3 8) ((Int.tmod x3 8) == 1))
def roundhouselaw6_Entry.j1 : Nat → Int → Int → Int → Bool → Option (Int × Int × Int × Int × Int × Int × Int)
  | 0, _, _, _, _ => none
  | k + 1, x3, x4, x18, x19 => if x19 = true then (some (1, x4, Int.tmod (wrap64 (Int.tdiv x3 400)) 5, Int.tmod (wrap64 (Int.tdiv x3 2000)) 3, wrap64 (1 + (Int.tmod (wrap64 (Int.tdiv x3 6000)) 8)), 0, 0)) else (if x18 = 2 then (some (2, x4, 0, 0, 0, 0, 0)) else (if x18 = 3 then (some (3, x4, 0, 0, 0, 0, 0)) else (if x18 = 4 then (some (4, x4, 0, 0, 0, 0, 0)) else (if x18 = 5 then (some (5, x4, 0, 0, 0, 0, 0)) else ((roundhouselaw5_Key.f x3).bind fun bt251 => (some (6, 0, 0, 0, 0, bt251.1, bt251.2)))))))
end
def roundhouselaw6_Entry.f (k : Nat) (a0 : Int) : Option (Int × Int × Int × Int × Int × Int × Int) := (roundhouselaw6_within.f a0 1125899906842624).bind fun t250 => (if (Int.tmod (wrap64 (Int.tdiv t250 48)) 29) = 0 then (roundhouselaw6_Entry.j0 k t250 (Int.tmod (wrap64 (Int.tdiv t250 48)) 66)) else (roundhouselaw6_Entry.j0 k t250 (Int.tmod (wrap64 (Int.tdiv t250 8)) 6)))
theorem roundhouselaw6_Entry.mono_l : ∀ k, (∀ y0 y1, LeO (roundhouselaw6_Entry.j0 k y0 y1) (roundhouselaw6_Entry.j0 (k + 1) y0 y1)) ∧ (∀ y0 y1 y2 y3, LeO (roundhouselaw6_Entry.j1 k y0 y1 y2 y3) (roundhouselaw6_Entry.j1 (k + 1) y0 y1 y2 y3))
  | 0 => ⟨fun _ _ r h => by simp [roundhouselaw6_Entry.j0] at h, fun _ _ _ _ r h => by simp [roundhouselaw6_Entry.j1] at h⟩
  | k + 1 => by
    obtain ⟨ih0, ih1⟩ := roundhouselaw6_Entry.mono_l k
    refine ⟨?_, ?_⟩
    · intro y0 y1
      unfold roundhouselaw6_Entry.j0
      repeat' first
      | (with_reducible exact ih0 _ _)
      | (with_reducible exact ih1 _ _ _ _)
      | (with_reducible exact LeO.refl _)
      | (with_reducible exact LeO.none _)
      | (with_reducible refine LeO.ite ?_ ?_)
      | (with_reducible refine LeO.bind ?_ (fun _ => ?_))
      | exact ih0 _ _
      | exact ih1 _ _ _ _
      | exact LeO.none _
      | refine LeO.ite ?_ ?_
      | refine LeO.bind ?_ (fun _ => ?_)
    · intro y0 y1 y2 y3
      unfold roundhouselaw6_Entry.j1
      repeat' first
      | (with_reducible exact ih0 _ _)
      | (with_reducible exact ih1 _ _ _ _)
      | (with_reducible exact LeO.refl _)
      | (with_reducible exact LeO.none _)
      | (with_reducible refine LeO.ite ?_ ?_)
      | (with_reducible refine LeO.bind ?_ (fun _ => ?_))
      | exact ih0 _ _
      | exact ih1 _ _ _ _
      | exact LeO.none _
      | refine LeO.ite ?_ ?_
      | refine LeO.bind ?_ (fun _ => ?_)
theorem roundhouselaw6_Entry.mono : ∀ a0 k, LeO (roundhouselaw6_Entry.f k a0) (roundhouselaw6_Entry.f (k + 1) a0) := by
  intro a0 k
  obtain ⟨ih0, ih1⟩ := roundhouselaw6_Entry.mono_l k
  unfold roundhouselaw6_Entry.f
  repeat' first
      | (with_reducible exact ih0 _ _)
      | (with_reducible exact ih1 _ _ _ _)
      | (with_reducible exact LeO.refl _)
      | (with_reducible exact LeO.none _)
      | (with_reducible refine LeO.ite ?_ ?_)
      | (with_reducible refine LeO.bind ?_ (fun _ => ?_))
      | exact ih0 _ _
      | exact ih1 _ _ _ _
      | exact LeO.none _
      | refine LeO.ite ?_ ?_
      | refine LeO.bind ?_ (fun _ => ?_)
theorem roundhouselaw6_Entry.calls (k : Nat) (a0 : Int) (r1 : Int) (r2 : Int) (r3 : Int) (r4 : Int) (r5 : Int) (r6 : Int) (r7 : Int) (w : World) (h : roundhouselaw6_Entry.f k a0 = some (r1, r2, r3, r4, r5, r6, r7)) :
    Calls Try.prog 31 #[.int .i64 a0] w fun e w' => e = .returned (.agg #[.int .i64 r1, .int .i64 r2, .int .i64 r3, .int .i64 r4, .int .i64 r5, .int .u64 r6, .int .u64 r7]) ∧ Below w.heap.size w w' := by
  have hu81 := Try.underlying81
  have HB := am_ (Below.refl w.heap.size w)
  have H : ((roundhouselaw6_within.f a0 1125899906842624).bind fun t250 => (if (Int.tmod (wrap64 (Int.tdiv t250 48)) 29) = 0 then (roundhouselaw6_Entry.j0 k t250 (Int.tmod (wrap64 (Int.tdiv t250 48)) 66)) else (roundhouselaw6_Entry.j0 k t250 (Int.tmod (wrap64 (Int.tdiv t250 8)) 6)))) = some (r1, r2, r3, r4, r5, r6, r7) := h
  clear h
  replace H := Option.bind_eq_some_iff.mp H
  obtain ⟨t250, A20, H⟩ := H
  replace H : (if (Int.tmod (wrap64 (Int.tdiv t250 48)) 29) = 0 then (roundhouselaw6_Entry.j0 k t250 (Int.tmod (wrap64 (Int.tdiv t250 48)) 66)) else (roundhouselaw6_Entry.j0 k t250 (Int.tmod (wrap64 (Int.tdiv t250 8)) 6))) = some (r1, r2, r3, r4, r5, r6, r7) := H
  have A2 := am_ A20
  clear A20
  have HC3 := am_ H
  clear H
  go_enter Try.func31, Try.ntmps31
  go_upto_if 13 with (first | ((with_reducible refine gate_dst (N := 2) rfl ?_); refine box_event ?hg (N := 2) ?hd (cs := #[.int .i64 0, .int .i64 0, .int .i64 0, .int .i64 0, .int .i64 0, .int .u64 0, .int .u64 0]) (t := 81) ?hr ?_; (case hd => rfl); (case hg => rfl); (case hr => first | (go_simp; done) | (go_simp; rfl)); intro gb249 hg w4 hbox hb; have n0_ := am_ (below_step (by repeat (first | (with_reducible first | exact HB.out | apply below_alloc | apply pw_below_drewN | apply below_drew1) | exact HB.out)) hb); have n1_ := am_ (hbox); have n2_ := am_ ((by rw [hg]; exact (below_size (by repeat (first | (with_reducible first | exact HB.out | apply below_alloc | apply pw_below_drewN | apply below_drew1) | exact HB.out))) : w.heap.size ≤ gb249)); have n3_ := am_ ((by rw [hg]; exact (below_size (by repeat (first | (with_reducible first | exact HB.out | apply below_alloc | apply pw_below_drewN | apply below_drew1) | exact HB.out))) : w.heap.size ≤ gb249)); clear HB; have HB := n0_; have BK249 := n1_; have GW249 := n2_; have GE249 := n3_; clear n0_ n1_ n2_ n3_; clear hb hbox hg) | ((with_reducible refine gate_callee (f := 75) rfl ?_); refine goesL_ (some 6) rfl rfl Try.func75 (by kernel_rfl) rfl #[.int .i64 a0, .int .i64 1125899906842624] rfl (by (try simp only [List.map_toArray, List.map_cons, List.map_nil]); first | done | rfl | (simp only [List.length_drop, List.length_take]; rfl)) ?_; (with_reducible refine (roundhouselaw6_within.calls a0 1125899906842624 t250 _ A2.out).mono ?_); rintro e w' ⟨rfl, ⟨nd, rfl⟩⟩; refine ⟨_, rfl, ?_⟩))
  (try simp only [Act.put, List.setIfInBounds_toArray, List.set_cons_zero, List.set_cons_succ])
  go_cut [4] (fun v4 wc => ∃ (kq : Nat) (x4_2 : Int), v4 = .int .i64 x4_2 ∧ Aside0 (roundhouselaw6_Entry.j0 kq t250 x4_2 = some (r1, r2, r3, r4, r5, r6, r7)) ∧ Aside0 (kq ≤ k) ∧ Aside0 (wc.heap[gb249]? = some (.cells #[.int .i64 0, .int .i64 0, .int .i64 0, .int .i64 0, .int .i64 0, .int .u64 0, .int .u64 0] 81 (0, 0))) ∧ Aside0 (Below w.heap.size w wc))
  case first =>
    have H := HC3.out
    clear HC3
    by_cases c5 : (Int.tmod (wrap64 (Int.tdiv t250 48)) 29) = 0
    · rw [if_pos c5] at H
      have c5b0 : ((Int.tmod (wrap64 (Int.tdiv t250 48)) 29) == 0) = true := beq_iff_eq.mpr c5
      have c5b1 : ((Int.tmod (wrap64 (Int.tdiv t250 48)) 29) != 0) = false := bne_eq_false_iff_eq.mpr c5
      clear c5
      (first | rw [c5b0] | (simp only [i64_w, i32_w]; rw [c5b0]) | skip)
      have H' := am_ H
      clear H
      go_wp2
      go_meet
      case rel => exact ⟨_, (Int.tmod (wrap64 (Int.tdiv t250 48)) 66), (by first | rfl | (simp; done) | (simp [*]; done)), H', ⟨by first | omega | exact Nat.le_refl _⟩, ⟨by (with_reducible repeat (first | refine blk_drewN ?_ _ | refine blk_drew ?_ | refine blk_alloc ?_ _)); exact BK249.out⟩, ⟨by repeat (first | (with_reducible first | exact HB.out | apply below_alloc | apply pw_below_drewN | apply below_drew1 | refine below_set ?_ GE249.out) | exact HB.out)⟩⟩
    · rw [if_neg c5] at H
      have c5b0 : ((Int.tmod (wrap64 (Int.tdiv t250 48)) 29) == 0) = false := beq_eq_false_iff_ne.mpr c5
      have c5b1 : ((Int.tmod (wrap64 (Int.tdiv t250 48)) 29) != 0) = true := bne_iff_ne.mpr c5
      (first | rw [c5b0] | (simp only [i64_w, i32_w]; rw [c5b0]) | skip)
      have H' := am_ H
      clear H
      go_wp2
      go_meet
      case rel => exact ⟨_, (Int.tmod (wrap64 (Int.tdiv t250 8)) 6), (by first | rfl | (simp; done) | (simp [*]; done)), H', ⟨by first | omega | exact Nat.le_refl _⟩, ⟨by (with_reducible repeat (first | refine blk_drewN ?_ _ | refine blk_drew ?_ | refine blk_alloc ?_ _)); exact BK249.out⟩, ⟨by repeat (first | (with_reducible first | exact HB.out | apply below_alloc | apply pw_below_drewN | apply below_drew1 | refine below_set ?_ GE249.out) | exact HB.out)⟩⟩
  case rest =>
    clear HC3
    try clear p2
    try clear c3
    try clear c5
    try clear c5b0
    try clear c5b1
    obtain ⟨kq, x4_2, rfl, HA, HJ2, BK249, HB⟩ := hcut
    cases kq with
    | zero => exact absurd HA.out (by simp [roundhouselaw6_Entry.j0])
    | succ kj2 =>
      have H := HA.out
      clear HA
      simp only [roundhouselaw6_Entry.j0] at H
      have HC6 := am_ H
      clear H
      go_upto_if 19 with (fail)
      go_cut [19] (fun v19 wc => ∃ (kq : Nat) (x19_5 : Bool), v19 = .bool x19_5 ∧ Aside0 (roundhouselaw6_Entry.j1 kq t250 x4_2 (Int.tmod t250 8) x19_5 = some (r1, r2, r3, r4, r5, r6, r7)) ∧ Aside0 (kq ≤ kj2) ∧ Aside0 (wc.heap[gb249]? = some (.cells #[.int .i64 0, .int .i64 0, .int .i64 0, .int .i64 0, .int .i64 0, .int .u64 0, .int .u64 0] 81 (0, 0))) ∧ Aside0 (Below w.heap.size w wc))
      case first =>
        have H := HC6.out
        clear HC6
        by_cases c7 : (Int.tmod t250 8) = 0
        · rw [if_pos c7] at H
          have c7b0 : ((Int.tmod t250 8) == 0) = true := beq_iff_eq.mpr c7
          have c7b1 : ((Int.tmod t250 8) != 0) = false := bne_eq_false_iff_eq.mpr c7
          clear c7
          (first | rw [c7b0] | (simp only [i64_w, i32_w]; rw [c7b0]) | skip)
          have H' := am_ H
          clear H
          go_wp2
          go_meet
          case rel => exact ⟨_, (((Int.tmod t250 8) == 0)), (by first | rfl | (simp; done) | (simp [*]; done)), H', ⟨by have := HJ2.out; first | omega | exact Nat.le_refl _⟩, ⟨by (with_reducible repeat (first | refine blk_drewN ?_ _ | refine blk_drew ?_ | refine blk_alloc ?_ _)); exact BK249.out⟩, ⟨by repeat (first | (with_reducible first | exact HB.out | apply below_alloc | apply pw_below_drewN | apply below_drew1 | refine below_set ?_ GE249.out) | exact HB.out)⟩⟩
        · rw [if_neg c7] at H
          have c7b0 : ((Int.tmod t250 8) == 0) = false := beq_eq_false_iff_ne.mpr c7
          have c7b1 : ((Int.tmod t250 8) != 0) = true := bne_iff_ne.mpr c7
          (first | rw [c7b0] | (simp only [i64_w, i32_w]; rw [c7b0]) | skip)
          have H' := am_ H
          clear H
          go_wp2
          go_meet
          case rel => exact ⟨_, (((Int.tmod t250 8) == 1)), (by first | rfl | (simp; done) | (simp [*]; done)), H', ⟨by have := HJ2.out; first | omega | exact Nat.le_refl _⟩, ⟨by (with_reducible repeat (first | refine blk_drewN ?_ _ | refine blk_drew ?_ | refine blk_alloc ?_ _)); exact BK249.out⟩, ⟨by repeat (first | (with_reducible first | exact HB.out | apply below_alloc | apply pw_below_drewN | apply below_drew1 | refine below_set ?_ GE249.out) | exact HB.out)⟩⟩
      case rest =>
        clear HC6
        try clear p2
        try clear c3
        try clear c5
        try clear c5b0
        try clear c5b1
        try clear p6
        try clear c7
        try clear c7b0
        try clear c7b1
        try clear p2
        obtain ⟨kq, x19_5, rfl, HA, HJ5, BK249, HB⟩ := hcut
        cases kq with
        | zero => exact absurd HA.out (by simp [roundhouselaw6_Entry.j1])
        | succ kj5 =>
          have H := HA.out
          clear HA
          simp only [roundhouselaw6_Entry.j1] at H
          by_cases c8 : x19_5 = true
          · subst c8
            have H1 : (some (1, x4_2, Int.tmod (wrap64 (Int.tdiv t250 400)) 5, Int.tmod (wrap64 (Int.tdiv t250 2000)) 3, wrap64 (1 + (Int.tmod (wrap64 (Int.tdiv t250 6000)) 8)), 0, 0)) = some (r1, r2, r3, r4, r5, r6, r7) := by rw [if_pos rfl] at H; exact H
            clear H
            have H := H1
            clear H1
            simp only [Option.some.injEq, Prod.mk.injEq] at H
            obtain ⟨rfl, rfl, rfl, rfl, rfl, rfl, rfl⟩ := H
            have hcz9_0 : wc.cell? ⟨gb249, 0, none⟩ = some (.int .i64 0) := (blk_cell BK249.out 0).trans rfl
            have hcz9_1 : wc.cell? ⟨gb249, 1, none⟩ = some (.int .i64 0) := (blk_cell BK249.out 1).trans rfl
            have hcz9_2 : wc.cell? ⟨gb249, 2, none⟩ = some (.int .i64 0) := (blk_cell BK249.out 2).trans rfl
            have hcz9_3 : wc.cell? ⟨gb249, 3, none⟩ = some (.int .i64 0) := (blk_cell BK249.out 3).trans rfl
            have hcz9_4 : wc.cell? ⟨gb249, 4, none⟩ = some (.int .i64 0) := (blk_cell BK249.out 4).trans rfl
            have hcz9_5 : wc.cell? ⟨gb249, 5, none⟩ = some (.int .u64 0) := (blk_cell BK249.out 5).trans rfl
            have hcz9_6 : wc.cell? ⟨gb249, 6, none⟩ = some (.int .u64 0) := (blk_cell BK249.out 6).trans rfl
            have hfz9_0 := blk_frozen BK249.out 0
            have hfz9_1 := blk_frozen BK249.out 1
            have hfz9_2 := blk_frozen BK249.out 2
            have hfz9_3 := blk_frozen BK249.out 3
            have hfz9_4 := blk_frozen BK249.out 4
            have hfz9_5 := blk_frozen BK249.out 5
            have hfz9_6 := blk_frozen BK249.out 6
            go_wp2
            refine bodyPost_ret (results_cell_row rfl _ _ gb249 81 #[.int .i64 1, .int .i64 x4_2, .int .i64 (Int.tmod (wrap64 (Int.tdiv t250 400)) 5), .int .i64 (Int.tmod (wrap64 (Int.tdiv t250 2000)) 3), .int .i64 (wrap64 (1 + (Int.tmod (wrap64 (Int.tdiv t250 6000)) 8))), .int .u64 0, .int .u64 0] (0, 0) _ rfl (by (with_reducible repeat (first | refine blk_drewN ?_ _ | refine blk_drew ?_ | refine blk_alloc ?_ _)); refine blk_put (cs := #[.int .i64 1, .int .i64 x4_2, .int .i64 (Int.tmod (wrap64 (Int.tdiv t250 400)) 5), .int .i64 (Int.tmod (wrap64 (Int.tdiv t250 2000)) 3), .int .i64 (wrap64 (1 + (Int.tmod (wrap64 (Int.tdiv t250 6000)) 8))), .int .u64 0, .int .u64 0]) ?_ 6 _ rfl; (with_reducible repeat (first | refine blk_drewN ?_ _ | refine blk_drew ?_ | refine blk_alloc ?_ _)); refine blk_put (cs := #[.int .i64 1, .int .i64 x4_2, .int .i64 (Int.tmod (wrap64 (Int.tdiv t250 400)) 5), .int .i64 (Int.tmod (wrap64 (Int.tdiv t250 2000)) 3), .int .i64 (wrap64 (1 + (Int.tmod (wrap64 (Int.tdiv t250 6000)) 8))), .int .u64 0, .int .u64 0]) ?_ 5 _ rfl; (with_reducible repeat (first | refine blk_drewN ?_ _ | refine blk_drew ?_ | refine blk_alloc ?_ _)); refine blk_put (cs := #[.int .i64 1, .int .i64 x4_2, .int .i64 (Int.tmod (wrap64 (Int.tdiv t250 400)) 5), .int .i64 (Int.tmod (wrap64 (Int.tdiv t250 2000)) 3), .int .i64 0, .int .u64 0, .int .u64 0]) ?_ 4 _ rfl; (with_reducible repeat (first | refine blk_drewN ?_ _ | refine blk_drew ?_ | refine blk_alloc ?_ _)); refine blk_put (cs := #[.int .i64 1, .int .i64 x4_2, .int .i64 (Int.tmod (wrap64 (Int.tdiv t250 400)) 5), .int .i64 0, .int .i64 0, .int .u64 0, .int .u64 0]) ?_ 3 _ rfl; (with_reducible repeat (first | refine blk_drewN ?_ _ | refine blk_drew ?_ | refine blk_alloc ?_ _)); refine blk_put (cs := #[.int .i64 1, .int .i64 x4_2, .int .i64 0, .int .i64 0, .int .i64 0, .int .u64 0, .int .u64 0]) ?_ 2 _ rfl; (with_reducible repeat (first | refine blk_drewN ?_ _ | refine blk_drew ?_ | refine blk_alloc ?_ _)); refine blk_put (cs := #[.int .i64 1, .int .i64 0, .int .i64 0, .int .i64 0, .int .i64 0, .int .u64 0, .int .u64 0]) ?_ 1 _ rfl; (with_reducible repeat (first | refine blk_drewN ?_ _ | refine blk_drew ?_ | refine blk_alloc ?_ _)); refine blk_put (cs := #[.int .i64 0, .int .i64 0, .int .i64 0, .int .i64 0, .int .i64 0, .int .u64 0, .int .u64 0]) ?_ 0 _ rfl; (with_reducible repeat (first | refine blk_drewN ?_ _ | refine blk_drew ?_ | refine blk_alloc ?_ _)); exact BK249.out) Try.underlying81 rfl (by kernel_rfl)) rfl ?_
            exact ⟨by first | rfl | (simp [errW_none, errW_some] <;> rfl) | (simp [*, errW_none, errW_some] <;> rfl), by repeat (first | (with_reducible first | exact HB.out | apply below_alloc | apply pw_below_drewN | apply below_drew1 | refine below_set ?_ GE249.out) | exact HB.out)⟩
          · replace c8 := Bool.eq_false_iff.mpr c8
            subst c8
            have H1 : (if (Int.tmod t250 8) = 2 then (some (2, x4_2, 0, 0, 0, 0, 0)) else (if (Int.tmod t250 8) = 3 then (some (3, x4_2, 0, 0, 0, 0, 0)) else (if (Int.tmod t250 8) = 4 then (some (4, x4_2, 0, 0, 0, 0, 0)) else (if (Int.tmod t250 8) = 5 then (some (5, x4_2, 0, 0, 0, 0, 0)) else ((roundhouselaw5_Key.f t250).bind fun bt251 => (some (6, 0, 0, 0, 0, bt251.1, bt251.2))))))) = some (r1, r2, r3, r4, r5, r6, r7) := by rw [if_neg (show ¬ (false = true) by decide)] at H; exact H
            clear H
            have H := H1
            clear H1
            by_cases c10 : (Int.tmod t250 8) = 2
            · rw [if_pos c10] at H
              have c10b0 : ((Int.tmod t250 8) == 2) = true := beq_iff_eq.mpr c10
              have c10b1 : ((Int.tmod t250 8) != 2) = false := bne_eq_false_iff_eq.mpr c10
              clear c10
              simp only [Option.some.injEq, Prod.mk.injEq] at H
              obtain ⟨rfl, rfl, rfl, rfl, rfl, rfl, rfl⟩ := H
              have hcz11_0 : wc.cell? ⟨gb249, 0, none⟩ = some (.int .i64 0) := (blk_cell BK249.out 0).trans rfl
              have hcz11_1 : wc.cell? ⟨gb249, 1, none⟩ = some (.int .i64 0) := (blk_cell BK249.out 1).trans rfl
              have hcz11_2 : wc.cell? ⟨gb249, 2, none⟩ = some (.int .i64 0) := (blk_cell BK249.out 2).trans rfl
              have hcz11_3 : wc.cell? ⟨gb249, 3, none⟩ = some (.int .i64 0) := (blk_cell BK249.out 3).trans rfl
              have hcz11_4 : wc.cell? ⟨gb249, 4, none⟩ = some (.int .i64 0) := (blk_cell BK249.out 4).trans rfl
              have hcz11_5 : wc.cell? ⟨gb249, 5, none⟩ = some (.int .u64 0) := (blk_cell BK249.out 5).trans rfl
              have hcz11_6 : wc.cell? ⟨gb249, 6, none⟩ = some (.int .u64 0) := (blk_cell BK249.out 6).trans rfl
              have hfz11_0 := blk_frozen BK249.out 0
              have hfz11_1 := blk_frozen BK249.out 1
              have hfz11_2 := blk_frozen BK249.out 2
              have hfz11_3 := blk_frozen BK249.out 3
              have hfz11_4 := blk_frozen BK249.out 4
              have hfz11_5 := blk_frozen BK249.out 5
              have hfz11_6 := blk_frozen BK249.out 6
              go_wp2
              refine bodyPost_ret (results_cell_row rfl _ _ gb249 81 #[.int .i64 2, .int .i64 x4_2, .int .i64 0, .int .i64 0, .int .i64 0, .int .u64 0, .int .u64 0] (0, 0) _ rfl (by (with_reducible repeat (first | refine blk_drewN ?_ _ | refine blk_drew ?_ | refine blk_alloc ?_ _)); refine blk_put (cs := #[.int .i64 2, .int .i64 x4_2, .int .i64 0, .int .i64 0, .int .i64 0, .int .u64 0, .int .u64 0]) ?_ 6 _ rfl; (with_reducible repeat (first | refine blk_drewN ?_ _ | refine blk_drew ?_ | refine blk_alloc ?_ _)); refine blk_put (cs := #[.int .i64 2, .int .i64 x4_2, .int .i64 0, .int .i64 0, .int .i64 0, .int .u64 0, .int .u64 0]) ?_ 5 _ rfl; (with_reducible repeat (first | refine blk_drewN ?_ _ | refine blk_drew ?_ | refine blk_alloc ?_ _)); refine blk_put (cs := #[.int .i64 2, .int .i64 x4_2, .int .i64 0, .int .i64 0, .int .i64 0, .int .u64 0, .int .u64 0]) ?_ 4 _ rfl; (with_reducible repeat (first | refine blk_drewN ?_ _ | refine blk_drew ?_ | refine blk_alloc ?_ _)); refine blk_put (cs := #[.int .i64 2, .int .i64 x4_2, .int .i64 0, .int .i64 0, .int .i64 0, .int .u64 0, .int .u64 0]) ?_ 3 _ rfl; (with_reducible repeat (first | refine blk_drewN ?_ _ | refine blk_drew ?_ | refine blk_alloc ?_ _)); refine blk_put (cs := #[.int .i64 2, .int .i64 x4_2, .int .i64 0, .int .i64 0, .int .i64 0, .int .u64 0, .int .u64 0]) ?_ 2 _ rfl; (with_reducible repeat (first | refine blk_drewN ?_ _ | refine blk_drew ?_ | refine blk_alloc ?_ _)); refine blk_put (cs := #[.int .i64 2, .int .i64 0, .int .i64 0, .int .i64 0, .int .i64 0, .int .u64 0, .int .u64 0]) ?_ 1 _ rfl; (with_reducible repeat (first | refine blk_drewN ?_ _ | refine blk_drew ?_ | refine blk_alloc ?_ _)); refine blk_put (cs := #[.int .i64 0, .int .i64 0, .int .i64 0, .int .i64 0, .int .i64 0, .int .u64 0, .int .u64 0]) ?_ 0 _ rfl; (with_reducible repeat (first | refine blk_drewN ?_ _ | refine blk_drew ?_ | refine blk_alloc ?_ _)); exact BK249.out) Try.underlying81 rfl (by kernel_rfl)) rfl ?_
              exact ⟨by first | rfl | (simp [errW_none, errW_some] <;> rfl) | (simp [*, errW_none, errW_some] <;> rfl), by repeat (first | (with_reducible first | exact HB.out | apply below_alloc | apply pw_below_drewN | apply below_drew1 | refine below_set ?_ GE249.out) | exact HB.out)⟩
            · rw [if_neg c10] at H
              have c10b0 : ((Int.tmod t250 8) == 2) = false := beq_eq_false_iff_ne.mpr c10
              have c10b1 : ((Int.tmod t250 8) != 2) = true := bne_iff_ne.mpr c10
              by_cases c12 : (Int.tmod t250 8) = 3
              · rw [if_pos c12] at H
                have c12b0 : ((Int.tmod t250 8) == 3) = true := beq_iff_eq.mpr c12
                have c12b1 : ((Int.tmod t250 8) != 3) = false := bne_eq_false_iff_eq.mpr c12
                clear c12
                simp only [Option.some.injEq, Prod.mk.injEq] at H
                obtain ⟨rfl, rfl, rfl, rfl, rfl, rfl, rfl⟩ := H
                have hcz13_0 : wc.cell? ⟨gb249, 0, none⟩ = some (.int .i64 0) := (blk_cell BK249.out 0).trans rfl
                have hcz13_1 : wc.cell? ⟨gb249, 1, none⟩ = some (.int .i64 0) := (blk_cell BK249.out 1).trans rfl
                have hcz13_2 : wc.cell? ⟨gb249, 2, none⟩ = some (.int .i64 0) := (blk_cell BK249.out 2).trans rfl
                have hcz13_3 : wc.cell? ⟨gb249, 3, none⟩ = some (.int .i64 0) := (blk_cell BK249.out 3).trans rfl
                have hcz13_4 : wc.cell? ⟨gb249, 4, none⟩ = some (.int .i64 0) := (blk_cell BK249.out 4).trans rfl
                have hcz13_5 : wc.cell? ⟨gb249, 5, none⟩ = some (.int .u64 0) := (blk_cell BK249.out 5).trans rfl
                have hcz13_6 : wc.cell? ⟨gb249, 6, none⟩ = some (.int .u64 0) := (blk_cell BK249.out 6).trans rfl
                have hfz13_0 := blk_frozen BK249.out 0
                have hfz13_1 := blk_frozen BK249.out 1
                have hfz13_2 := blk_frozen BK249.out 2
                have hfz13_3 := blk_frozen BK249.out 3
                have hfz13_4 := blk_frozen BK249.out 4
                have hfz13_5 := blk_frozen BK249.out 5
                have hfz13_6 := blk_frozen BK249.out 6
                go_wp2
                refine bodyPost_ret (results_cell_row rfl _ _ gb249 81 #[.int .i64 3, .int .i64 x4_2, .int .i64 0, .int .i64 0, .int .i64 0, .int .u64 0, .int .u64 0] (0, 0) _ rfl (by (with_reducible repeat (first | refine blk_drewN ?_ _ | refine blk_drew ?_ | refine blk_alloc ?_ _)); refine blk_put (cs := #[.int .i64 3, .int .i64 x4_2, .int .i64 0, .int .i64 0, .int .i64 0, .int .u64 0, .int .u64 0]) ?_ 6 _ rfl; (with_reducible repeat (first | refine blk_drewN ?_ _ | refine blk_drew ?_ | refine blk_alloc ?_ _)); refine blk_put (cs := #[.int .i64 3, .int .i64 x4_2, .int .i64 0, .int .i64 0, .int .i64 0, .int .u64 0, .int .u64 0]) ?_ 5 _ rfl; (with_reducible repeat (first | refine blk_drewN ?_ _ | refine blk_drew ?_ | refine blk_alloc ?_ _)); refine blk_put (cs := #[.int .i64 3, .int .i64 x4_2, .int .i64 0, .int .i64 0, .int .i64 0, .int .u64 0, .int .u64 0]) ?_ 4 _ rfl; (with_reducible repeat (first | refine blk_drewN ?_ _ | refine blk_drew ?_ | refine blk_alloc ?_ _)); refine blk_put (cs := #[.int .i64 3, .int .i64 x4_2, .int .i64 0, .int .i64 0, .int .i64 0, .int .u64 0, .int .u64 0]) ?_ 3 _ rfl; (with_reducible repeat (first | refine blk_drewN ?_ _ | refine blk_drew ?_ | refine blk_alloc ?_ _)); refine blk_put (cs := #[.int .i64 3, .int .i64 x4_2, .int .i64 0, .int .i64 0, .int .i64 0, .int .u64 0, .int .u64 0]) ?_ 2 _ rfl; (with_reducible repeat (first | refine blk_drewN ?_ _ | refine blk_drew ?_ | refine blk_alloc ?_ _)); refine blk_put (cs := #[.int .i64 3, .int .i64 0, .int .i64 0, .int .i64 0, .int .i64 0, .int .u64 0, .int .u64 0]) ?_ 1 _ rfl; (with_reducible repeat (first | refine blk_drewN ?_ _ | refine blk_drew ?_ | refine blk_alloc ?_ _)); refine blk_put (cs := #[.int .i64 0, .int .i64 0, .int .i64 0, .int .i64 0, .int .i64 0, .int .u64 0, .int .u64 0]) ?_ 0 _ rfl; (with_reducible repeat (first | refine blk_drewN ?_ _ | refine blk_drew ?_ | refine blk_alloc ?_ _)); exact BK249.out) Try.underlying81 rfl (by kernel_rfl)) rfl ?_
                exact ⟨by first | rfl | (simp [errW_none, errW_some] <;> rfl) | (simp [*, errW_none, errW_some] <;> rfl), by repeat (first | (with_reducible first | exact HB.out | apply below_alloc | apply pw_below_drewN | apply below_drew1 | refine below_set ?_ GE249.out) | exact HB.out)⟩
              · rw [if_neg c12] at H
                have c12b0 : ((Int.tmod t250 8) == 3) = false := beq_eq_false_iff_ne.mpr c12
                have c12b1 : ((Int.tmod t250 8) != 3) = true := bne_iff_ne.mpr c12
                by_cases c14 : (Int.tmod t250 8) = 4
                · rw [if_pos c14] at H
                  have c14b0 : ((Int.tmod t250 8) == 4) = true := beq_iff_eq.mpr c14
                  have c14b1 : ((Int.tmod t250 8) != 4) = false := bne_eq_false_iff_eq.mpr c14
                  clear c14
                  simp only [Option.some.injEq, Prod.mk.injEq] at H
                  obtain ⟨rfl, rfl, rfl, rfl, rfl, rfl, rfl⟩ := H
                  have hcz15_0 : wc.cell? ⟨gb249, 0, none⟩ = some (.int .i64 0) := (blk_cell BK249.out 0).trans rfl
                  have hcz15_1 : wc.cell? ⟨gb249, 1, none⟩ = some (.int .i64 0) := (blk_cell BK249.out 1).trans rfl
                  have hcz15_2 : wc.cell? ⟨gb249, 2, none⟩ = some (.int .i64 0) := (blk_cell BK249.out 2).trans rfl
                  have hcz15_3 : wc.cell? ⟨gb249, 3, none⟩ = some (.int .i64 0) := (blk_cell BK249.out 3).trans rfl
                  have hcz15_4 : wc.cell? ⟨gb249, 4, none⟩ = some (.int .i64 0) := (blk_cell BK249.out 4).trans rfl
                  have hcz15_5 : wc.cell? ⟨gb249, 5, none⟩ = some (.int .u64 0) := (blk_cell BK249.out 5).trans rfl
                  have hcz15_6 : wc.cell? ⟨gb249, 6, none⟩ = some (.int .u64 0) := (blk_cell BK249.out 6).trans rfl
                  have hfz15_0 := blk_frozen BK249.out 0
                  have hfz15_1 := blk_frozen BK249.out 1
                  have hfz15_2 := blk_frozen BK249.out 2
                  have hfz15_3 := blk_frozen BK249.out 3
                  have hfz15_4 := blk_frozen BK249.out 4
                  have hfz15_5 := blk_frozen BK249.out 5
                  have hfz15_6 := blk_frozen BK249.out 6
                  go_wp2
                  refine bodyPost_ret (results_cell_row rfl _ _ gb249 81 #[.int .i64 4, .int .i64 x4_2, .int .i64 0, .int .i64 0, .int .i64 0, .int .u64 0, .int .u64 0] (0, 0) _ rfl (by (with_reducible repeat (first | refine blk_drewN ?_ _ | refine blk_drew ?_ | refine blk_alloc ?_ _)); refine blk_put (cs := #[.int .i64 4, .int .i64 x4_2, .int .i64 0, .int .i64 0, .int .i64 0, .int .u64 0, .int .u64 0]) ?_ 6 _ rfl; (with_reducible repeat (first | refine blk_drewN ?_ _ | refine blk_drew ?_ | refine blk_alloc ?_ _)); refine blk_put (cs := #[.int .i64 4, .int .i64 x4_2, .int .i64 0, .int .i64 0, .int .i64 0, .int .u64 0, .int .u64 0]) ?_ 5 _ rfl; (with_reducible repeat (first | refine blk_drewN ?_ _ | refine blk_drew ?_ | refine blk_alloc ?_ _)); refine blk_put (cs := #[.int .i64 4, .int .i64 x4_2, .int .i64 0, .int .i64 0, .int .i64 0, .int .u64 0, .int .u64 0]) ?_ 4 _ rfl; (with_reducible repeat (first | refine blk_drewN ?_ _ | refine blk_drew ?_ | refine blk_alloc ?_ _)); refine blk_put (cs := #[.int .i64 4, .int .i64 x4_2, .int .i64 0, .int .i64 0, .int .i64 0, .int .u64 0, .int .u64 0]) ?_ 3 _ rfl; (with_reducible repeat (first | refine blk_drewN ?_ _ | refine blk_drew ?_ | refine blk_alloc ?_ _)); refine blk_put (cs := #[.int .i64 4, .int .i64 x4_2, .int .i64 0, .int .i64 0, .int .i64 0, .int .u64 0, .int .u64 0]) ?_ 2 _ rfl; (with_reducible repeat (first | refine blk_drewN ?_ _ | refine blk_drew ?_ | refine blk_alloc ?_ _)); refine blk_put (cs := #[.int .i64 4, .int .i64 0, .int .i64 0, .int .i64 0, .int .i64 0, .int .u64 0, .int .u64 0]) ?_ 1 _ rfl; (with_reducible repeat (first | refine blk_drewN ?_ _ | refine blk_drew ?_ | refine blk_alloc ?_ _)); refine blk_put (cs := #[.int .i64 0, .int .i64 0, .int .i64 0, .int .i64 0, .int .i64 0, .int .u64 0, .int .u64 0]) ?_ 0 _ rfl; (with_reducible repeat (first | refine blk_drewN ?_ _ | refine blk_drew ?_ | refine blk_alloc ?_ _)); exact BK249.out) Try.underlying81 rfl (by kernel_rfl)) rfl ?_
                  exact ⟨by first | rfl | (simp [errW_none, errW_some] <;> rfl) | (simp [*, errW_none, errW_some] <;> rfl), by repeat (first | (with_reducible first | exact HB.out | apply below_alloc | apply pw_below_drewN | apply below_drew1 | refine below_set ?_ GE249.out) | exact HB.out)⟩
                · rw [if_neg c14] at H
                  have c14b0 : ((Int.tmod t250 8) == 4) = false := beq_eq_false_iff_ne.mpr c14
                  have c14b1 : ((Int.tmod t250 8) != 4) = true := bne_iff_ne.mpr c14
                  by_cases c16 : (Int.tmod t250 8) = 5
                  · rw [if_pos c16] at H
                    have c16b0 : ((Int.tmod t250 8) == 5) = true := beq_iff_eq.mpr c16
                    have c16b1 : ((Int.tmod t250 8) != 5) = false := bne_eq_false_iff_eq.mpr c16
                    clear c16
                    simp only [Option.some.injEq, Prod.mk.injEq] at H
                    obtain ⟨rfl, rfl, rfl, rfl, rfl, rfl, rfl⟩ := H
                    have hcz17_0 : wc.cell? ⟨gb249, 0, none⟩ = some (.int .i64 0) := (blk_cell BK249.out 0).trans rfl
                    have hcz17_1 : wc.cell? ⟨gb249, 1, none⟩ = some (.int .i64 0) := (blk_cell BK249.out 1).trans rfl
                    have hcz17_2 : wc.cell? ⟨gb249, 2, none⟩ = some (.int .i64 0) := (blk_cell BK249.out 2).trans rfl
                    have hcz17_3 : wc.cell? ⟨gb249, 3, none⟩ = some (.int .i64 0) := (blk_cell BK249.out 3).trans rfl
                    have hcz17_4 : wc.cell? ⟨gb249, 4, none⟩ = some (.int .i64 0) := (blk_cell BK249.out 4).trans rfl
                    have hcz17_5 : wc.cell? ⟨gb249, 5, none⟩ = some (.int .u64 0) := (blk_cell BK249.out 5).trans rfl
                    have hcz17_6 : wc.cell? ⟨gb249, 6, none⟩ = some (.int .u64 0) := (blk_cell BK249.out 6).trans rfl
                    have hfz17_0 := blk_frozen BK249.out 0
                    have hfz17_1 := blk_frozen BK249.out 1
                    have hfz17_2 := blk_frozen BK249.out 2
                    have hfz17_3 := blk_frozen BK249.out 3
                    have hfz17_4 := blk_frozen BK249.out 4
                    have hfz17_5 := blk_frozen BK249.out 5
                    have hfz17_6 := blk_frozen BK249.out 6
                    go_wp2
                    refine bodyPost_ret (results_cell_row rfl _ _ gb249 81 #[.int .i64 5, .int .i64 x4_2, .int .i64 0, .int .i64 0, .int .i64 0, .int .u64 0, .int .u64 0] (0, 0) _ rfl (by (with_reducible repeat (first | refine blk_drewN ?_ _ | refine blk_drew ?_ | refine blk_alloc ?_ _)); refine blk_put (cs := #[.int .i64 5, .int .i64 x4_2, .int .i64 0, .int .i64 0, .int .i64 0, .int .u64 0, .int .u64 0]) ?_ 6 _ rfl; (with_reducible repeat (first | refine blk_drewN ?_ _ | refine blk_drew ?_ | refine blk_alloc ?_ _)); refine blk_put (cs := #[.int .i64 5, .int .i64 x4_2, .int .i64 0, .int .i64 0, .int .i64 0, .int .u64 0, .int .u64 0]) ?_ 5 _ rfl; (with_reducible repeat (first | refine blk_drewN ?_ _ | refine blk_drew ?_ | refine blk_alloc ?_ _)); refine blk_put (cs := #[.int .i64 5, .int .i64 x4_2, .int .i64 0, .int .i64 0, .int .i64 0, .int .u64 0, .int .u64 0]) ?_ 4 _ rfl; (with_reducible repeat (first | refine blk_drewN ?_ _ | refine blk_drew ?_ | refine blk_alloc ?_ _)); refine blk_put (cs := #[.int .i64 5, .int .i64 x4_2, .int .i64 0, .int .i64 0, .int .i64 0, .int .u64 0, .int .u64 0]) ?_ 3 _ rfl; (with_reducible repeat (first | refine blk_drewN ?_ _ | refine blk_drew ?_ | refine blk_alloc ?_ _)); refine blk_put (cs := #[.int .i64 5, .int .i64 x4_2, .int .i64 0, .int .i64 0, .int .i64 0, .int .u64 0, .int .u64 0]) ?_ 2 _ rfl; (with_reducible repeat (first | refine blk_drewN ?_ _ | refine blk_drew ?_ | refine blk_alloc ?_ _)); refine blk_put (cs := #[.int .i64 5, .int .i64 0, .int .i64 0, .int .i64 0, .int .i64 0, .int .u64 0, .int .u64 0]) ?_ 1 _ rfl; (with_reducible repeat (first | refine blk_drewN ?_ _ | refine blk_drew ?_ | refine blk_alloc ?_ _)); refine blk_put (cs := #[.int .i64 0, .int .i64 0, .int .i64 0, .int .i64 0, .int .i64 0, .int .u64 0, .int .u64 0]) ?_ 0 _ rfl; (with_reducible repeat (first | refine blk_drewN ?_ _ | refine blk_drew ?_ | refine blk_alloc ?_ _)); exact BK249.out) Try.underlying81 rfl (by kernel_rfl)) rfl ?_
                    exact ⟨by first | rfl | (simp [errW_none, errW_some] <;> rfl) | (simp [*, errW_none, errW_some] <;> rfl), by repeat (first | (with_reducible first | exact HB.out | apply below_alloc | apply pw_below_drewN | apply below_drew1 | refine below_set ?_ GE249.out) | exact HB.out)⟩
                  · rw [if_neg c16] at H
                    have c16b0 : ((Int.tmod t250 8) == 5) = false := beq_eq_false_iff_ne.mpr c16
                    have c16b1 : ((Int.tmod t250 8) != 5) = true := bne_iff_ne.mpr c16
                    replace H := Option.bind_eq_some_iff.mp H
                    obtain ⟨⟨t251, t252⟩, A180, H⟩ := H
                    replace H : (some (6, 0, 0, 0, 0, t251, t252)) = some (r1, r2, r3, r4, r5, r6, r7) := H
                    have A18 := am_ A180
                    clear A180
                    simp only [Option.some.injEq, Prod.mk.injEq] at H
                    obtain ⟨rfl, rfl, rfl, rfl, rfl, rfl, rfl⟩ := H
                    go_wp2_with (first | ((with_reducible refine gate_callee (f := 23) rfl ?_); refine goesL_ (some 51) rfl rfl Try.func23 (by kernel_rfl) rfl #[.int .i64 t250] rfl (by (try simp only [List.map_toArray, List.map_cons, List.map_nil]); first | done | rfl | (simp only [List.length_drop, List.length_take]; rfl)) ?_; (with_reducible refine (roundhouselaw5_Key.calls t250 t251 t252 _ A18.out).mono ?_); rintro e w19 ⟨rfl, hb⟩; refine ⟨_, rfl, ?_⟩; have n0_ := am_ (blk_below (g := gb249) (o := .cells #[.int .i64 0, .int .i64 0, .int .i64 0, .int .i64 0, .int .i64 0, .int .u64 0, .int .u64 0] 81 (0, 0)) (by (with_reducible repeat (first | refine blk_drewN ?_ _ | refine blk_drew ?_ | refine blk_alloc ?_ _)); exact BK249.out) hb); have n1_ := am_ (below_step (by repeat (first | (with_reducible first | exact HB.out | apply below_alloc | apply pw_below_drewN | apply below_drew1 | refine below_set ?_ GE249.out) | exact HB.out)) hb); clear BK249; clear HB; have BK249 := n0_; have HB := n1_; clear n0_ n1_; (try clear hb); (try clear hb2); (try clear hk); (try clear hi); have hcz20_0 : w19.cell? ⟨gb249, 0, none⟩ = some (.int .i64 0) := (blk_cell BK249.out 0).trans rfl; have hcz20_1 : w19.cell? ⟨gb249, 1, none⟩ = some (.int .i64 0) := (blk_cell BK249.out 1).trans rfl; have hcz20_2 : w19.cell? ⟨gb249, 2, none⟩ = some (.int .i64 0) := (blk_cell BK249.out 2).trans rfl; have hcz20_3 : w19.cell? ⟨gb249, 3, none⟩ = some (.int .i64 0) := (blk_cell BK249.out 3).trans rfl; have hcz20_4 : w19.cell? ⟨gb249, 4, none⟩ = some (.int .i64 0) := (blk_cell BK249.out 4).trans rfl; have hcz20_5 : w19.cell? ⟨gb249, 5, none⟩ = some (.int .u64 0) := (blk_cell BK249.out 5).trans rfl; have hcz20_6 : w19.cell? ⟨gb249, 6, none⟩ = some (.int .u64 0) := (blk_cell BK249.out 6).trans rfl; have hfz20_0 := blk_frozen BK249.out 0; have hfz20_1 := blk_frozen BK249.out 1; have hfz20_2 := blk_frozen BK249.out 2; have hfz20_3 := blk_frozen BK249.out 3; have hfz20_4 := blk_frozen BK249.out 4; have hfz20_5 := blk_frozen BK249.out 5; have hfz20_6 := blk_frozen BK249.out 6))
                    refine bodyPost_ret (results_cell_row rfl _ _ gb249 81 #[.int .i64 6, .int .i64 0, .int .i64 0, .int .i64 0, .int .i64 0, .int .u64 t251, .int .u64 t252] (0, 0) _ rfl (by (with_reducible repeat (first | refine blk_drewN ?_ _ | refine blk_drew ?_ | refine blk_alloc ?_ _)); refine blk_put (cs := #[.int .i64 6, .int .i64 0, .int .i64 0, .int .i64 0, .int .i64 0, .int .u64 t251, .int .u64 0]) ?_ 6 _ rfl; (with_reducible repeat (first | refine blk_drewN ?_ _ | refine blk_drew ?_ | refine blk_alloc ?_ _)); refine blk_put (cs := #[.int .i64 6, .int .i64 0, .int .i64 0, .int .i64 0, .int .i64 0, .int .u64 0, .int .u64 0]) ?_ 5 _ rfl; (with_reducible repeat (first | refine blk_drewN ?_ _ | refine blk_drew ?_ | refine blk_alloc ?_ _)); refine blk_put (cs := #[.int .i64 6, .int .i64 0, .int .i64 0, .int .i64 0, .int .i64 0, .int .u64 0, .int .u64 0]) ?_ 4 _ rfl; (with_reducible repeat (first | refine blk_drewN ?_ _ | refine blk_drew ?_ | refine blk_alloc ?_ _)); refine blk_put (cs := #[.int .i64 6, .int .i64 0, .int .i64 0, .int .i64 0, .int .i64 0, .int .u64 0, .int .u64 0]) ?_ 3 _ rfl; (with_reducible repeat (first | refine blk_drewN ?_ _ | refine blk_drew ?_ | refine blk_alloc ?_ _)); refine blk_put (cs := #[.int .i64 6, .int .i64 0, .int .i64 0, .int .i64 0, .int .i64 0, .int .u64 0, .int .u64 0]) ?_ 2 _ rfl; (with_reducible repeat (first | refine blk_drewN ?_ _ | refine blk_drew ?_ | refine blk_alloc ?_ _)); refine blk_put (cs := #[.int .i64 6, .int .i64 0, .int .i64 0, .int .i64 0, .int .i64 0, .int .u64 0, .int .u64 0]) ?_ 1 _ rfl; (with_reducible repeat (first | refine blk_drewN ?_ _ | refine blk_drew ?_ | refine blk_alloc ?_ _)); refine blk_put (cs := #[.int .i64 0, .int .i64 0, .int .i64 0, .int .i64 0, .int .i64 0, .int .u64 0, .int .u64 0]) ?_ 0 _ rfl; (with_reducible repeat (first | refine blk_drewN ?_ _ | refine blk_drew ?_ | refine blk_alloc ?_ _)); exact BK249.out) Try.underlying81 rfl (by kernel_rfl)) rfl ?_
                    exact ⟨by first | rfl | (simp [errW_none, errW_some] <;> rfl) | (simp [*, errW_none, errW_some] <;> rfl), by repeat (first | (with_reducible first | exact HB.out | apply below_alloc | apply pw_below_drewN | apply below_drew1 | refine below_set ?_ GE249.out) | exact HB.out)⟩
def roundhousetop_within.f (a0 : Int) (a1 : Int) : Option (Int) := if a1 = 0 then (none) else (if (Int.tmod a0 a1) < 0 then (some (wrap64 ((Int.tmod a0 a1) + a1))) else (some (Int.tmod a0 a1)))
theorem roundhousetop_within.calls (a0 : Int) (a1 : Int) (r : Int) (w : World) (h : roundhousetop_within.f a0 a1 = some r) :
    Calls Try.prog 8 #[.int .i64 a0, .int .i64 a1] w fun e w' => e = .returned (.int .i64 r) ∧ Drawn0 w w' := by
  have H : (if a1 = 0 then (none) else (if (Int.tmod a0 a1) < 0 then (some (wrap64 ((Int.tmod a0 a1) + a1))) else (some (Int.tmod a0 a1)))) = some r := h
  clear h
  by_cases c3 : a1 = 0
  · rw [if_pos c3] at H
    exact absurd H (by simp)
  · rw [if_neg c3] at H
    have c3b0 : (a1 == 0) = false := beq_eq_false_iff_ne.mpr c3
    have c3b1 : (a1 != 0) = true := bne_iff_ne.mpr c3
    by_cases c4 : (Int.tmod a0 a1) < 0
    · rw [if_pos c4] at H
      have c4b0 : decide ((Int.tmod a0 a1) < 0) = true := decide_eq_true c4
      clear c4
      obtain rfl := Option.some.inj H
      go_enter Try.func8, Try.ntmps8
      go_wp2
      go_ret
      exact ⟨by first | rfl | (simp; done) | (simp [*]; done), by repeat (first | exact Drawn0.refl _ | apply Drawn0.step)⟩
    · rw [if_neg c4] at H
      have c4b0 : decide ((Int.tmod a0 a1) < 0) = false := decide_eq_false c4
      clear c4
      obtain rfl := Option.some.inj H
      go_enter Try.func8, Try.ntmps8
      go_wp2
      go_ret
      exact ⟨by first | rfl | (simp; done) | (simp [*]; done), by repeat (first | exact Drawn0.refl _ | apply Drawn0.step)⟩
def roundhouseref6_Takes.f (a0_0 : Int) (a0_1 : Int) (a0_2 : Int) (a0_3 : Int) (a0_4 : Int) : Option (Bool) := if a0_0 = 1 then (some true) else (if a0_0 = 2 then (some true) else (some (a0_0 == 3)))
theorem roundhouseref6_Takes.calls (a0_0 : Int) (a0_1 : Int) (a0_2 : Int) (a0_3 : Int) (a0_4 : Int) (r : Bool) (w : World) (h : roundhouseref6_Takes.f a0_0 a0_1 a0_2 a0_3 a0_4 = some r) :
    Calls Try.prog 9 #[.agg #[.int .i64 a0_0, .int .i64 a0_1, .int .i64 a0_2, .int .i64 a0_3, .int .i64 a0_4]] w fun e w' => e = .returned (.bool r) ∧ Below w.heap.size w w' := by
  have hu26 := Try.underlying26
  have HB := am_ (Below.refl w.heap.size w)
  have H : (if a0_0 = 1 then (some true) else (if a0_0 = 2 then (some true) else (some (a0_0 == 3)))) = some r := h
  clear h
  by_cases c2 : a0_0 = 1
  · rw [if_pos c2] at H
    have c2b0 : (a0_0 == 1) = true := beq_iff_eq.mpr c2
    have c2b1 : (a0_0 != 1) = false := bne_eq_false_iff_eq.mpr c2
    clear c2
    obtain rfl := Option.some.inj H
    go_enter Try.func9, Try.ntmps9
    go_wp2_with (first | ((with_reducible refine gate_dst (N := 1) rfl ?_); refine box_event ?hg (N := 1) ?hd (cs := #[.int .i64 a0_0, .int .i64 a0_1, .int .i64 a0_2, .int .i64 a0_3, .int .i64 a0_4]) (t := 26) ?hr ?_; (case hd => rfl); (case hg => rfl); (case hr => first | (go_simp; done) | (go_simp; rfl)); intro gb253 hg w3 hbox hb; have n0_ := am_ (below_step (by repeat (first | (with_reducible first | exact HB.out | apply below_alloc | apply pw_below_drewN | apply below_drew1) | exact HB.out)) hb); have n1_ := am_ (hbox); have n2_ := am_ ((by rw [hg]; exact (below_size (by repeat (first | (with_reducible first | exact HB.out | apply below_alloc | apply pw_below_drewN | apply below_drew1) | exact HB.out))) : w.heap.size ≤ gb253)); have n3_ := am_ ((by rw [hg]; exact (below_size (by repeat (first | (with_reducible first | exact HB.out | apply below_alloc | apply pw_below_drewN | apply below_drew1) | exact HB.out))) : w.heap.size ≤ gb253)); clear HB; have HB := n0_; have BK253 := n1_; have GW253 := n2_; have GE253 := n3_; clear n0_ n1_ n2_ n3_; clear hb hbox hg; have hcz4_0 : w3.cell? ⟨gb253, 0, none⟩ = some (.int .i64 a0_0) := (blk_cell BK253.out 0).trans rfl; have hcz4_1 : w3.cell? ⟨gb253, 1, none⟩ = some (.int .i64 a0_1) := (blk_cell BK253.out 1).trans rfl; have hcz4_2 : w3.cell? ⟨gb253, 2, none⟩ = some (.int .i64 a0_2) := (blk_cell BK253.out 2).trans rfl; have hcz4_3 : w3.cell? ⟨gb253, 3, none⟩ = some (.int .i64 a0_3) := (blk_cell BK253.out 3).trans rfl; have hcz4_4 : w3.cell? ⟨gb253, 4, none⟩ = some (.int .i64 a0_4) := (blk_cell BK253.out 4).trans rfl; have hfz4_0 := blk_frozen BK253.out 0; have hfz4_1 := blk_frozen BK253.out 1; have hfz4_2 := blk_frozen BK253.out 2; have hfz4_3 := blk_frozen BK253.out 3; have hfz4_4 := blk_frozen BK253.out 4))
    go_ret
    exact ⟨by first | rfl | (simp [errW_none, errW_some] <;> rfl) | (simp [*, errW_none, errW_some] <;> rfl), by repeat (first | (with_reducible first | exact HB.out | apply below_alloc | apply pw_below_drewN | apply below_drew1 | refine below_set ?_ GE253.out) | exact HB.out)⟩
  · rw [if_neg c2] at H
    have c2b0 : (a0_0 == 1) = false := beq_eq_false_iff_ne.mpr c2
    have c2b1 : (a0_0 != 1) = true := bne_iff_ne.mpr c2
    by_cases c5 : a0_0 = 2
    · rw [if_pos c5] at H
      have c5b0 : (a0_0 == 2) = true := beq_iff_eq.mpr c5
      have c5b1 : (a0_0 != 2) = false := bne_eq_false_iff_eq.mpr c5
      clear c5
      obtain rfl := Option.some.inj H
      go_enter Try.func9, Try.ntmps9
      go_wp2_with (first | ((with_reducible refine gate_dst (N := 1) rfl ?_); refine box_event ?hg (N := 1) ?hd (cs := #[.int .i64 a0_0, .int .i64 a0_1, .int .i64 a0_2, .int .i64 a0_3, .int .i64 a0_4]) (t := 26) ?hr ?_; (case hd => rfl); (case hg => rfl); (case hr => first | (go_simp; done) | (go_simp; rfl)); intro gb253 hg w6 hbox hb; have n0_ := am_ (below_step (by repeat (first | (with_reducible first | exact HB.out | apply below_alloc | apply pw_below_drewN | apply below_drew1) | exact HB.out)) hb); have n1_ := am_ (hbox); have n2_ := am_ ((by rw [hg]; exact (below_size (by repeat (first | (with_reducible first | exact HB.out | apply below_alloc | apply pw_below_drewN | apply below_drew1) | exact HB.out))) : w.heap.size ≤ gb253)); have n3_ := am_ ((by rw [hg]; exact (below_size (by repeat (first | (with_reducible first | exact HB.out | apply below_alloc | apply pw_below_drewN | apply below_drew1) | exact HB.out))) : w.heap.size ≤ gb253)); clear HB; have HB := n0_; have BK253 := n1_; have GW253 := n2_; have GE253 := n3_; clear n0_ n1_ n2_ n3_; clear hb hbox hg; have hcz7_0 : w6.cell? ⟨gb253, 0, none⟩ = some (.int .i64 a0_0) := (blk_cell BK253.out 0).trans rfl; have hcz7_1 : w6.cell? ⟨gb253, 1, none⟩ = some (.int .i64 a0_1) := (blk_cell BK253.out 1).trans rfl; have hcz7_2 : w6.cell? ⟨gb253, 2, none⟩ = some (.int .i64 a0_2) := (blk_cell BK253.out 2).trans rfl; have hcz7_3 : w6.cell? ⟨gb253, 3, none⟩ = some (.int .i64 a0_3) := (blk_cell BK253.out 3).trans rfl; have hcz7_4 : w6.cell? ⟨gb253, 4, none⟩ = some (.int .i64 a0_4) := (blk_cell BK253.out 4).trans rfl; have hfz7_0 := blk_frozen BK253.out 0; have hfz7_1 := blk_frozen BK253.out 1; have hfz7_2 := blk_frozen BK253.out 2; have hfz7_3 := blk_frozen BK253.out 3; have hfz7_4 := blk_frozen BK253.out 4))
      go_ret
      exact ⟨by first | rfl | (simp [errW_none, errW_some] <;> rfl) | (simp [*, errW_none, errW_some] <;> rfl), by repeat (first | (with_reducible first | exact HB.out | apply below_alloc | apply pw_below_drewN | apply below_drew1 | refine below_set ?_ GE253.out) | exact HB.out)⟩
    · rw [if_neg c5] at H
      have c5b0 : (a0_0 == 2) = false := beq_eq_false_iff_ne.mpr c5
      have c5b1 : (a0_0 != 2) = true := bne_iff_ne.mpr c5
      obtain rfl := Option.some.inj H
      go_enter Try.func9, Try.ntmps9
      go_wp2_with (first | ((with_reducible refine gate_dst (N := 1) rfl ?_); refine box_event ?hg (N := 1) ?hd (cs := #[.int .i64 a0_0, .int .i64 a0_1, .int .i64 a0_2, .int .i64 a0_3, .int .i64 a0_4]) (t := 26) ?hr ?_; (case hd => rfl); (case hg => rfl); (case hr => first | (go_simp; done) | (go_simp; rfl)); intro gb253 hg w8 hbox hb; have n0_ := am_ (below_step (by repeat (first | (with_reducible first | exact HB.out | apply below_alloc | apply pw_below_drewN | apply below_drew1) | exact HB.out)) hb); have n1_ := am_ (hbox); have n2_ := am_ ((by rw [hg]; exact (below_size (by repeat (first | (with_reducible first | exact HB.out | apply below_alloc | apply pw_below_drewN | apply below_drew1) | exact HB.out))) : w.heap.size ≤ gb253)); have n3_ := am_ ((by rw [hg]; exact (below_size (by repeat (first | (with_reducible first | exact HB.out | apply below_alloc | apply pw_below_drewN | apply below_drew1) | exact HB.out))) : w.heap.size ≤ gb253)); clear HB; have HB := n0_; have BK253 := n1_; have GW253 := n2_; have GE253 := n3_; clear n0_ n1_ n2_ n3_; clear hb hbox hg; have hcz9_0 : w8.cell? ⟨gb253, 0, none⟩ = some (.int .i64 a0_0) := (blk_cell BK253.out 0).trans rfl; have hcz9_1 : w8.cell? ⟨gb253, 1, none⟩ = some (.int .i64 a0_1) := (blk_cell BK253.out 1).trans rfl; have hcz9_2 : w8.cell? ⟨gb253, 2, none⟩ = some (.int .i64 a0_2) := (blk_cell BK253.out 2).trans rfl; have hcz9_3 : w8.cell? ⟨gb253, 3, none⟩ = some (.int .i64 a0_3) := (blk_cell BK253.out 3).trans rfl; have hcz9_4 : w8.cell? ⟨gb253, 4, none⟩ = some (.int .i64 a0_4) := (blk_cell BK253.out 4).trans rfl; have hfz9_0 := blk_frozen BK253.out 0; have hfz9_1 := blk_frozen BK253.out 1; have hfz9_2 := blk_frozen BK253.out 2; have hfz9_3 := blk_frozen BK253.out 3; have hfz9_4 := blk_frozen BK253.out 4))
      go_ret
      exact ⟨by first | rfl | (simp [errW_none, errW_some] <;> rfl) | (simp [*, errW_none, errW_some] <;> rfl), by repeat (first | (with_reducible first | exact HB.out | apply below_alloc | apply pw_below_drewN | apply below_drew1 | refine below_set ?_ GE253.out) | exact HB.out)⟩
def roundhouselaw3_within.f (a0 : Int) (a1 : Int) : Option (Int) := if a1 = 0 then (none) else (if (Int.tmod a0 a1) < 0 then (some (wrap64 ((Int.tmod a0 a1) + a1))) else (some (Int.tmod a0 a1)))
theorem roundhouselaw3_within.calls (a0 : Int) (a1 : Int) (r : Int) (w : World) (h : roundhouselaw3_within.f a0 a1 = some r) :
    Calls Try.prog 32 #[.int .i64 a0, .int .i64 a1] w fun e w' => e = .returned (.int .i64 r) ∧ Drawn0 w w' := by
  have H : (if a1 = 0 then (none) else (if (Int.tmod a0 a1) < 0 then (some (wrap64 ((Int.tmod a0 a1) + a1))) else (some (Int.tmod a0 a1)))) = some r := h
  clear h
  by_cases c3 : a1 = 0
  · rw [if_pos c3] at H
    exact absurd H (by simp)
  · rw [if_neg c3] at H
    have c3b0 : (a1 == 0) = false := beq_eq_false_iff_ne.mpr c3
    have c3b1 : (a1 != 0) = true := bne_iff_ne.mpr c3
    by_cases c4 : (Int.tmod a0 a1) < 0
    · rw [if_pos c4] at H
      have c4b0 : decide ((Int.tmod a0 a1) < 0) = true := decide_eq_true c4
      clear c4
      obtain rfl := Option.some.inj H
      go_enter Try.func32, Try.ntmps32
      go_wp2
      go_ret
      exact ⟨by first | rfl | (simp; done) | (simp [*]; done), by repeat (first | exact Drawn0.refl _ | apply Drawn0.step)⟩
    · rw [if_neg c4] at H
      have c4b0 : decide ((Int.tmod a0 a1) < 0) = false := decide_eq_false c4
      clear c4
      obtain rfl := Option.some.inj H
      go_enter Try.func32, Try.ntmps32
      go_wp2
      go_ret
      exact ⟨by first | rfl | (simp; done) | (simp [*]; done), by repeat (first | exact Drawn0.refl _ | apply Drawn0.step)⟩
end Go.Proofs.Ytgkmbefamcnifaa.Hp
namespace Go.Proofs.Ytgkmbefamcnifaa.SB
set_option linter.unusedVariables false
set_option linter.unusedSimpArgs false
open Go.RowKit Go.Proofs.Ytgkmbefamcnifaa.Hp Go.Proofs.YtgkmbefamcnifaaW.PrintWords Go.Proofs.YtgkmbefamcnifaaW.PrintLast
def plus (a b : Int) : Int := if a + b > 65535 then a + b - 65535 else a + b
def fold (n : Int) : Int := if n = 0 then 0 else (n - 1) % 65535 + 1
def pairs : List Int → Int
  | [] => 0
  | [x] => x * 256
  | x :: y :: l => x * 256 + y + pairs l
def Bytes (l : List Int) : Prop := ∀ x ∈ l, 0 ≤ x ∧ x ≤ 255
def turn (s a b : Int) : Int := 65535 - plus (65535 - s) (plus (65535 - a) b)
theorem wid {n : Int} (h : -9223372036854775808 ≤ n) (h' : n ≤ 9223372036854775807) : wrap64 n = n := by unfold wrap64; omega
theorem wrap_i64w (n : Int) (h0 : 0 ≤ n) (h1 : n < 2 ^ 63) : Go.IntKind.i64.wrap n = n := by rw [Go.IntKind.wrap_i64]; omega
theorem and_full {n : Int} (h0 : 0 ≤ n) (h1 : n < 9223372036854775808) : Go.bits .and .i64 n 65535 = n % 65536 :=
  Go.bits_mask .i64 63 (by decide) wrap_i64w 16 (by decide) n h0 h1
theorem fold_bounds {n : Int} : 0 ≤ fold n ∧ fold n ≤ 65535 := by unfold fold; split <;> omega
theorem fold_plus {n x : Int} (hn : 0 ≤ n) (h0 : 0 ≤ x) (h1 : x ≤ 65535) : plus (fold n) x = fold (n + x) := by
  unfold plus fold; repeat' split
  all_goals omega
theorem fold_zero : fold 0 = 0 := rfl
theorem plus_bounds {a b : Int} (ha : 0 ≤ a) (ha' : a ≤ 65535) (hb : 0 ≤ b) (hb' : b ≤ 65535) : 0 ≤ plus a b ∧ plus a b ≤ 65535 := by
  unfold plus; split <;> omega
theorem turn_bounds {s a b : Int} (hs : 0 ≤ s) (hs' : s ≤ 65535) (ha : 0 ≤ a) (ha' : a ≤ 65535) (hb : 0 ≤ b) (hb' : b ≤ 65535) : 0 ≤ turn s a b ∧ turn s a b ≤ 65535 := by
  unfold turn plus; repeat' split
  all_goals omega
theorem plus_f {a b : Int} (ha : 0 ≤ a) (ha' : a ≤ 65535) (hb : 0 ≤ b) (hb' : b ≤ 65535) : sum_Plus.f a b = some (plus a b) := by
  unfold sum_Plus.f
  rw [wid (n := a + b) (by omega) (by omega), and_full (by omega) (by omega), and_full (by omega) (by omega), wid (by omega) (by omega)]
  unfold plus
  split <;> (congr 1; omega)
theorem drop2 {l : List Int} {i : Nat} (h : i + 1 < l.length) : l.drop i = l.getD i 0 :: l.getD (i + 1) 0 :: l.drop (i + 2) := by
  rw [List.drop_eq_getElem_cons (by omega), List.drop_eq_getElem_cons h]
  simp [List.getD_eq_getElem?_getD, h, show i < l.length by omega]
theorem drop1 {l : List Int} {i : Nat} (h : i + 1 = l.length) : l.drop i = [l.getD i 0] := by
  rw [List.drop_eq_getElem_cons (by omega)]
  simp [List.getD_eq_getElem?_getD, show i < l.length by omega, h]
theorem getD_byte {l : List Int} (hb : Bytes l) (i : Nat) : 0 ≤ l.getD i 0 ∧ l.getD i 0 ≤ 255 := by
  rw [List.getD_eq_getElem?_getD]
  by_cases h : i < l.length
  · rw [List.getElem?_eq_getElem h]; exact hb _ (List.getElem_mem h)
  · rw [List.getElem?_eq_none (by omega)]; simp
theorem rd_nat (l : List Int) (i : Nat) : rd l (i : Int) = l.getD i 0 := by unfold rd; rw [Int.toNat_natCast]
theorem rd_nat1 (l : List Int) (i : Nat) : rd l ((i : Int) + 1) = l.getD (i + 1) 0 := rd_nat l (i + 1)
theorem pairs_nonneg : ∀ {l : List Int}, Bytes l → 0 ≤ pairs l
  | [], _ => Int.le_refl _
  | [x], h => by have := h x (by simp); simp only [pairs]; omega
  | x :: y :: l, h => by
    have h1 := h x (by simp)
    have h2 := h y (by simp)
    have := pairs_nonneg (l := l) (fun z hz => h z (by simp [hz]))
    simp only [pairs]; omega
theorem add_l0 (l : List Int) (hl : l.length ≤ 140737488355328) (hb : Bytes l) : ∀ (k i : Nat) (S : Int), 0 ≤ S → i ≤ l.length + 1 → l.length + 2 ≤ i + k → sum_Add.l0 k l (fold S) i = some (fold (S + pairs (l.drop i))) := by
  intro k
  induction k with
  | zero => intro i S hS hi hk; omega
  | succ k ih =>
    intro i S hS hi hk
    have b1 := getD_byte hb i
    have b2 := getD_byte hb (i + 1)
    have bf := @fold_bounds S
    simp only [sum_Add.l0]
    rw [wid (n := (i : Int) + 1) (by omega) (by omega), wid (n := (i : Int) + 2) (by omega) (by omega), rd_nat, rd_nat1]
    by_cases h : i < l.length
    · rw [if_pos (by omega), if_pos (by omega)]
      by_cases h1 : i + 1 < l.length
      · rw [if_pos (by omega), if_pos (by omega), wid (n := l.getD i 0) (by omega) (by omega), wid (n := l.getD (i + 1) 0) (by omega) (by omega), wid (n := l.getD i 0 * 256) (by omega) (by omega), wid (by omega) (by omega),
          plus_f bf.1 bf.2 (by omega) (by omega), fold_plus hS (by omega) (by omega)]
        have := ih (i + 2) (S + (l.getD i 0 * 256 + l.getD (i + 1) 0)) (by omega) (by omega) (by omega)
        simp only [Option.bind_some]
        rw [show ((i : Int) + 2) = ((i + 2 : Nat) : Int) by omega, this, drop2 h1]
        simp only [pairs]
        congr 2; omega
      · rw [if_neg (by omega), wid (n := l.getD i 0) (by omega) (by omega), wid (n := l.getD i 0 * 256) (by omega) (by omega), plus_f bf.1 bf.2 (by omega) (by omega), fold_plus hS (by omega) (by omega)]
        have := ih (i + 2) (S + (l.getD i 0 * 256)) (by omega) (by omega) (by omega)
        simp only [Option.bind_some]
        rw [show ((i : Int) + 2) = ((i + 2 : Nat) : Int) by omega, this, drop1 (show i + 1 = l.length by omega), List.drop_eq_nil_of_le (by omega)]
        simp only [pairs]
        congr 2; omega
    · rw [if_neg (by omega), List.drop_eq_nil_of_le (by omega)]
      simp [pairs]
theorem add_f {l : List Int} {k : Nat} (hl : l.length ≤ 140737488355328) (hb : Bytes l) (hk : l.length + 2 ≤ k) : sum_Add.f k l = some (fold (pairs l)) := by
  unfold sum_Add.f
  have := add_l0 l hl hb k 0 0 (Int.le_refl _) (by omega) (by omega)
  rw [List.drop_zero, Int.zero_add, fold_zero] at this
  exact this
theorem of_f {l : List Int} {k : Nat} (hl : l.length ≤ 140737488355328) (hb : Bytes l) (hk : l.length + 2 ≤ k) : sum_Of.f k l = some (65535 - fold (pairs l)) := by
  unfold sum_Of.f
  have bf := @fold_bounds (pairs l)
  rw [add_f hl hb hk, Option.bind_some, wid (by omega) (by omega)]
theorem right_f {l : List Int} {k : Nat} (hl : l.length ≤ 140737488355328) (hb : Bytes l) (hk : l.length + 2 ≤ k) : sum_Right.f k l = some (fold (pairs l) == 65535) := by
  unfold sum_Right.f
  rw [add_f hl hb hk, Option.bind_some]
theorem turn_f {s a b : Int} (hs : 0 ≤ s) (hs' : s ≤ 65535) (ha : 0 ≤ a) (ha' : a ≤ 65535) (hb : 0 ≤ b) (hb' : b ≤ 65535) : sum_Turn.f s a b = some (turn s a b) := by
  unfold sum_Turn.f turn
  have h1 := plus_bounds (a := 65535 - a) (b := b) (by omega) (by omega) hb hb'
  have h2 := plus_bounds (a := 65535 - s) (b := plus (65535 - a) b) (by omega) (by omega) h1.1 h1.2
  rw [wid (n := 65535 - a) (by omega) (by omega), wid (n := 65535 - s) (by omega) (by omega), plus_f (by omega) (by omega) hb hb', Option.bind_some, plus_f (by omega) (by omega) h1.1 h1.2, Option.bind_some, wid (by omega) (by omega)]
theorem bytes_nil : Bytes [] := by intro x hx; simp at hx
theorem Bytes.app {a b : List Int} (ha : Bytes a) (hb : Bytes b) : Bytes (a ++ b) := by
  intro x hx; rcases List.mem_append.1 hx with h | h
  · exact ha x h
  · exact hb x h
theorem Bytes.take {a : List Int} (ha : Bytes a) (n : Nat) : Bytes (a.take n) := fun x hx => ha x (List.mem_of_mem_take hx)
theorem Bytes.drop {a : List Int} (ha : Bytes a) (n : Nat) : Bytes (a.drop n) := fun x hx => ha x (List.mem_of_mem_drop hx)
theorem Bytes.set {a : List Int} (ha : Bytes a) (n : Nat) {v : Int} (h0 : 0 ≤ v) (h1 : v ≤ 255) : Bytes (a.set n v) := by
  intro x hx
  rcases List.mem_or_eq_of_mem_set hx with h | h
  · exact ha x h
  · subst h; exact ⟨h0, h1⟩
theorem pairs_app : ∀ (a b : List Int), a.length % 2 = 0 → pairs (a ++ b) = pairs a + pairs b
  | [], b, _ => by simp [pairs]
  | [x], b, h => by simp at h
  | x :: y :: l, b, h => by
    have := pairs_app l b (by simp at h; omega)
    simp only [List.cons_append, pairs, this]; omega
theorem within_f {a n : Int} (h0 : 0 < n) (h1 : n ≤ 4611686018427387904) : roundhouselaw3_within.f a n = some (a % n) := by
  unfold roundhouselaw3_within.f
  rw [if_neg (by omega)]
  have e := Int.tmod_eq_emod (a := a) (b := n)
  have m0 := Int.emod_nonneg a (show n ≠ 0 by omega)
  have m1 := Int.emod_lt_of_pos a h0
  by_cases h : 0 ≤ a ∨ n ∣ a
  · rw [if_pos h] at e
    rw [if_neg (by omega)]
    congr 1; omega
  · rw [if_neg h] at e
    have hn : ((n.natAbs : Nat) : Int) = n := by omega
    rw [if_pos (by omega), wid (by omega) (by omega)]
    congr 1; omega
end Go.Proofs.Ytgkmbefamcnifaa.SB
