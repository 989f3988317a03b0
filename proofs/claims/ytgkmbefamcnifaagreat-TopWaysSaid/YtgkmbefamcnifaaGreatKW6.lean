/- Lemmas and contracts that the row YtgkmbefamcnifaaGreatLawTopWays goes by (part 6; joined by pack.py out of this session's texts, and of words that the kit's print lays). -/
import Derived.Test.YtgkmbefamcnifaaGreatKW5
import Derived.Lib.Hide
set_option maxRecDepth 100000
set_option maxHeartbeats 8000000
namespace Go.Proofs.YtgkmbefamcnifaaGreat.TB
set_option linter.unusedVariables false
set_option linter.unusedSimpArgs false
open Go.RowKit Go.Proofs.YtgkmbefamcnifaaGreat.Hp Go.Proofs.YtgkmbefamcnifaaGreatW.PrintWords Go.Proofs.YtgkmbefamcnifaaGreatW.PrintLast Go.Proofs.YtgkmbefamcnifaaGreatW.PrintMore
theorem bd {B : Nat} {a w : World} (h : Below B a w) (n : Nat) : Below B a (w.drewN n) := ⟨h.os, h.tape, h.output, h.size, h.block⟩
theorem blk_lt {w : World} {g : Nat} {o : Obj} (h : w.heap[g]? = some o) : g < w.heap.size := by
  rcases Nat.lt_or_ge g w.heap.size with h' | h'
  · exact h'
  · rw [Array.getElem?_eq_none h'] at h; cases h
theorem new_blk (w : World) (o : Obj) : (w.alloc o).heap[w.heap.size]? = some o := heap_alloc_new w o
/-- A known fact of the world, and nothing else of it. -/
theorem wp_at {R : World → Prop} {W : World} {G : World → Prop} (hw : R W) (h : ∀ W', R W' → G W') : G W := h W hw
/-- One block may be another one; all else stands. -/
structure Chg (b : Nat) (w w' : World) : Prop where
  os : w'.os = w.os
  tape : w'.tape = w.tape
  output : w'.output = w.output
  size : w'.heap.size = w.heap.size
  block : ∀ k, k ≠ b → w'.heap[k]? = w.heap[k]?
theorem Chg.refl (b : Nat) (w : World) : Chg b w w := ⟨rfl, rfl, rfl, rfl, fun _ _ => rfl⟩
theorem Chg.drewN {b : Nat} {w w' : World} (h : Chg b w w') (n : Nat) : Chg b w (w'.drewN n) := ⟨h.os, h.tape, h.output, h.size, h.block⟩
theorem Chg.drew {b : Nat} {w w' : World} (h : Chg b w w') : Chg b w w'.drew := ⟨h.os, h.tape, h.output, h.size, h.block⟩
theorem Chg.trans {b : Nat} {w w1 w2 : World} (h : Chg b w w1) (k : Chg b w1 w2) : Chg b w w2 := ⟨k.os.trans h.os, k.tape.trans h.tape, k.output.trans h.output, k.size.trans h.size, fun i hi => (k.block i hi).trans (h.block i hi)⟩
theorem Chg.set {b : Nat} {w w' : World} (h : Chg b w w') (i : Nat) (v : Value) : Chg b w (w'.setCell ⟨b, i, none⟩ v) :=
  ⟨h.os, h.tape, h.output, by rw [World.setCell, Array.size_modify]; exact h.size, fun k hk => (heap_setCell_other w' ⟨b, i, none⟩ k v hk).trans (h.block k hk)⟩
theorem Chg.below {b B : Nat} {w w' : World} (h : Chg b w w') (hb : B ≤ b) : Below B w w' := ⟨h.os, h.tape, h.output, by rw [h.size]; exact Nat.le_refl _, fun k hk => h.block k (by omega)⟩
theorem Chg.step {b B : Nat} {w0 w w' : World} (h0 : Below B w0 w) (h : Chg b w w') (hb : B ≤ b) : Below B w0 w' := h0.trans (h.below hb)
/-- Four numbers in a block of their own. -/
structure SipAt (w0 w : World) (b : Nat) (x0 x1 x2 x3 : Int) : Prop where
  blk : w.heap[b]? = some (.cells #[.int .u64 x0, .int .u64 x1, .int .u64 x2, .int .u64 x3] 125 (0, 0))
  chg : Chg b w0 w
theorem SipAt.drewN {w0 w : World} {b : Nat} {x0 x1 x2 x3 : Int} (h : SipAt w0 w b x0 x1 x2 x3) (n : Nat) : SipAt w0 (w.drewN n) b x0 x1 x2 x3 := ⟨h.blk, h.chg.drewN n⟩
theorem SipAt.drew {w0 w : World} {b : Nat} {x0 x1 x2 x3 : Int} (h : SipAt w0 w b x0 x1 x2 x3) : SipAt w0 w.drew b x0 x1 x2 x3 := ⟨h.blk, h.chg.drew⟩
theorem SipAt.set0 {w0 w : World} {b : Nat} {x0 x1 x2 x3 : Int} (h : SipAt w0 w b x0 x1 x2 x3) (v : Int) : SipAt w0 (w.setCell ⟨b, 0, none⟩ (.int .u64 v)) b v x1 x2 x3 := ⟨heap_setCell_same _ _ _ _ _ _ h.blk, h.chg.set _ _⟩
theorem SipAt.set1 {w0 w : World} {b : Nat} {x0 x1 x2 x3 : Int} (h : SipAt w0 w b x0 x1 x2 x3) (v : Int) : SipAt w0 (w.setCell ⟨b, 1, none⟩ (.int .u64 v)) b x0 v x2 x3 := ⟨heap_setCell_same _ _ _ _ _ _ h.blk, h.chg.set _ _⟩
theorem SipAt.set2 {w0 w : World} {b : Nat} {x0 x1 x2 x3 : Int} (h : SipAt w0 w b x0 x1 x2 x3) (v : Int) : SipAt w0 (w.setCell ⟨b, 2, none⟩ (.int .u64 v)) b x0 x1 v x3 := ⟨heap_setCell_same _ _ _ _ _ _ h.blk, h.chg.set _ _⟩
theorem SipAt.set3 {w0 w : World} {b : Nat} {x0 x1 x2 x3 : Int} (h : SipAt w0 w b x0 x1 x2 x3) (v : Int) : SipAt w0 (w.setCell ⟨b, 3, none⟩ (.int .u64 v)) b x0 x1 x2 v := ⟨heap_setCell_same _ _ _ _ _ _ h.blk, h.chg.set _ _⟩
theorem SipAt.cells {w0 w : World} {b : Nat} {x0 x1 x2 x3 : Int} (h : SipAt w0 w b x0 x1 x2 x3) : w.cell? ⟨b, 0, none⟩ = some (.int .u64 x0) ∧ w.cell? ⟨b, 1, none⟩ = some (.int .u64 x1) ∧ w.cell? ⟨b, 2, none⟩ = some (.int .u64 x2) ∧ w.cell? ⟨b, 3, none⟩ = some (.int .u64 x3) :=
  ⟨cell_of_row w b 0 _ _ _ h.blk, cell_of_row w b 1 _ _ _ h.blk, cell_of_row w b 2 _ _ _ h.blk, cell_of_row w b 3 _ _ _ h.blk⟩
theorem SipAt.free {w0 w : World} {b : Nat} {x0 x1 x2 x3 : Int} (h : SipAt w0 w b x0 x1 x2 x3) : w.frozen? ⟨b, 0, none⟩ = false ∧ w.frozen? ⟨b, 1, none⟩ = false ∧ w.frozen? ⟨b, 2, none⟩ = false ∧ w.frozen? ⟨b, 3, none⟩ = false :=
  ⟨frozen_of_row w b 0 _ _ h.blk, frozen_of_row w b 1 _ _ h.blk, frozen_of_row w b 2 _ _ h.blk, frozen_of_row w b 3 _ _ h.blk⟩
/-- A number's bits, turned round. -/
def rotl (x k : Int) : Int := (bits_RotateLeft64.f x k).getD 0
theorem rotl_some (x : Int) {k : Int} (hk : k = 13 ∨ k = 16 ∨ k = 17 ∨ k = 21 ∨ k = 32) : bits_RotateLeft64.f x k = some (rotl x k) := by
  rcases hk with rfl | rfl | rfl | rfl | rfl <;> · unfold rotl bits_RotateLeft64.f; rw [if_pos (by decide), if_pos (by decide)]; rfl
theorem rotl_calls (x : Int) {k : Int} (hk : k = 13 ∨ k = 16 ∨ k = 17 ∨ k = 21 ∨ k = 32) (w : World) : Calls Tryz.prog 109 #[.int .u64 x, .int .i64 k] w fun e w' => e = .returned (.int .u64 (rotl x k)) ∧ Drawn0 w w' :=
  bits_RotateLeft64.calls x k _ w (rotl_some x hk)
structure S4 where
  a : Int
  b : Int
  c : Int
  d : Int
def roundS (s : S4) : S4 :=
  let a1 := IntKind.u64.wrap (s.a + s.b)
  let b1 := Go.bits .xor .u64 (rotl s.b 13) a1
  let a2 := rotl a1 32
  let c1 := IntKind.u64.wrap (s.c + s.d)
  let d1 := Go.bits .xor .u64 (rotl s.d 16) c1
  let a3 := IntKind.u64.wrap (a2 + d1)
  let d2 := Go.bits .xor .u64 (rotl d1 21) a3
  let c2 := IntKind.u64.wrap (c1 + b1)
  let b2 := Go.bits .xor .u64 (rotl b1 17) c2
  ⟨a3, b2, rotl c2 32, d2⟩
theorem round_calls {w0 w : World} {b : Nat} {s : S4} (h : SipAt w0 w b s.a s.b s.c s.d) :
    Calls Tryz.prog 96 #[.pointer (some ⟨b, 0, none⟩)] w fun e w' => e = .returned (.tuple #[]) ∧ SipAt w0 w' b (roundS s).a (roundS s).b (roundS s).c (roundS s).d := by
  obtain ⟨x0, x1, x2, x3⟩ := s
  change SipAt w0 w b x0 x1 x2 x3 at h
  have H0 := am_ h
  obtain ⟨T0, T1, T2, T3⟩ := h.cells
  obtain ⟨U0, U1, U2, U3⟩ := h.free
  clear h
  go_enter Tryz.func96, Tryz.ntmps96
  go_upto_region 0 with fail
  refine start_ (n := 12) (S := fun w' => w'.cell? ⟨b, 0, none⟩ = some (.int .u64 x0) ∧ w'.cell? ⟨b, 1, none⟩ = some (.int .u64 x1)) (ds := [11]) #[fF,fF,fF,fF,fF,fF,fF,fF,fF,fF,fF,fF] (by kernel_rfl) rfl rfl ⟨T0, T1⟩ (fun hHeld => ?_)
  refine p_ 0 2 ?_
  refine p_ 1 3 ?_
  refine p_ 2 4 ?_
  refine p_ 4 6 ?_
  refine p_ 5 7 ?_
  refine p_ 6 8 ?_
  refine t_ 3 5 hHeld ?_
  refine t_ 7 9 hHeld ?_
  refine p_ 8 10 ?_
  refine p_ 9 11 ?_
  refine p_ 10 12 ?_
  refine l_ 11 none (fun K hK => ?_)
  refine s_ ?_
  refine hK.out _ _ ?_
  clear hK K
  refine done_ (by kernel_rfl) ?_
  have HE0 : Aside0 (∃ z, IntKind.u64.wrap (x0 + x1) = z) := am_ ⟨_, rfl⟩
  obtain ⟨z0, hz0⟩ := HE0.out
  clear HE0
  refine ex_w (fun W => SipAt w0 W b z0 x1 x2 x3) ?_ ?_
  · subst hz0; first | exact (H0.out.set0 _).drew | exact (H0.out.drewN _).set0 _ | exact ((H0.out.drewN _).set0 _).drew
  intro v0 hv
  have H1 := am_ hv
  have HZ0 := am_ hz0
  clear hz0 T0 T1 T2 T3 U0 U1 U2 U3 H0
  try clear hHeld
  obtain ⟨T0, T1, T2, T3⟩ := hv.cells
  obtain ⟨U0, U1, U2, U3⟩ := hv.free
  clear hv
  go_upto_region 1 with fail
  refine start_ (n := 14) (S := fun w' => w'.cell? ⟨b, 0, none⟩ = some (.int .u64 z0) ∧ w'.cell? ⟨b, 1, none⟩ = some (.int .u64 x1)) (ds := [13]) #[fF,fF,fF,fF,fF,fF,fF,fF,fF,fF,fF,fF,fF,fF] (by kernel_rfl) rfl rfl ⟨T0, T1⟩ (fun hHeld => ?_)
  refine p_ 0 13 ?_
  refine p_ 1 14 ?_
  refine p_ 2 15 ?_
  refine p_ 3 16 ?_
  refine p_ 6 19 ?_
  refine p_ 7 20 ?_
  refine p_ 8 21 ?_
  refine t_ 4 17 hHeld ?_
  refine t_ 9 22 hHeld ?_
  refine o_ 5 (some 18) (fun K hK => ?_)
  refine g_ Tryz.func109 #[.int .u64 x1, .int .i64 13] ?_
  with_reducible refine (rotl_calls _ (by decide) _).mono ?_
  rintro e w3 ⟨rfl, ⟨⟨nq, rfl⟩⟩⟩
  refine ⟨_, rfl, ?_⟩
  refine hK.out _ _ ⟨T0, T1⟩ (fun hHeld => ?_)
  clear hK K
  refine n_ 18 ?_
  refine p_ 10 23 ?_
  refine p_ 11 24 ?_
  refine p_ 12 25 ?_
  refine l_ 13 none (fun K hK => ?_)
  refine s_ ?_
  refine hK.out _ _ ?_
  clear hK K
  refine done_ (by kernel_rfl) ?_
  have HE1 : Aside0 (∃ z, Go.bits .xor .u64 (rotl x1 13) z0 = z) := am_ ⟨_, rfl⟩
  obtain ⟨z1, hz1⟩ := HE1.out
  clear HE1
  refine ex_w (fun W => SipAt w0 W b z0 z1 x2 x3) ?_ ?_
  · subst hz1; first | exact (H1.out.set1 _).drew | exact (H1.out.drewN _).set1 _ | exact ((H1.out.drewN _).set1 _).drew
  intro v1 hv
  have H2 := am_ hv
  have HZ1 := am_ hz1
  clear hz1 T0 T1 T2 T3 U0 U1 U2 U3 H1
  try clear hHeld
  obtain ⟨T0, T1, T2, T3⟩ := hv.cells
  obtain ⟨U0, U1, U2, U3⟩ := hv.free
  clear hv
  go_upto_region 3 with (first | (go_at_call 109; (with_reducible refine (rotl_calls _ (by decide) _).mono ?_); rintro e w3 ⟨rfl, ⟨⟨nq, rfl⟩⟩⟩))
  have HE2 : Aside0 (∃ z, rotl z0 32 = z) := am_ ⟨_, rfl⟩
  obtain ⟨z2, hz2⟩ := HE2.out
  clear HE2
  refine wp_w (fun W => SipAt w0 W b z2 z1 x2 x3) ?_ ?_
  · subst hz2; first | exact (H2.out.set0 _).drew | exact (H2.out.drewN _).set0 _ | exact ((H2.out.drewN _).set0 _).drew
  intro v2 hv
  have H3 := am_ hv
  have HZ2 := am_ hz2
  clear hz2 T0 T1 T2 T3 U0 U1 U2 U3 H2
  try clear hHeld
  obtain ⟨T0, T1, T2, T3⟩ := hv.cells
  obtain ⟨U0, U1, U2, U3⟩ := hv.free
  clear hv
  go_upto_region 3 with fail
  refine start_ (n := 12) (S := fun w' => w'.cell? ⟨b, 2, none⟩ = some (.int .u64 x2) ∧ w'.cell? ⟨b, 3, none⟩ = some (.int .u64 x3)) (ds := [11]) #[fF,fF,fF,fF,fF,fF,fF,fF,fF,fF,fF,fF] (by kernel_rfl) rfl rfl ⟨T2, T3⟩ (fun hHeld => ?_)
  refine p_ 0 34 ?_
  refine p_ 1 35 ?_
  refine p_ 2 36 ?_
  refine p_ 4 38 ?_
  refine p_ 5 39 ?_
  refine p_ 6 40 ?_
  refine t_ 3 37 hHeld ?_
  refine t_ 7 41 hHeld ?_
  refine p_ 8 42 ?_
  refine p_ 9 43 ?_
  refine p_ 10 44 ?_
  refine l_ 11 none (fun K hK => ?_)
  refine s_ ?_
  refine hK.out _ _ ?_
  clear hK K
  refine done_ (by kernel_rfl) ?_
  have HE3 : Aside0 (∃ z, IntKind.u64.wrap (x2 + x3) = z) := am_ ⟨_, rfl⟩
  obtain ⟨z3, hz3⟩ := HE3.out
  clear HE3
  refine ex_w (fun W => SipAt w0 W b z2 z1 z3 x3) ?_ ?_
  · subst hz3; first | exact (H3.out.set2 _).drew | exact (H3.out.drewN _).set2 _ | exact ((H3.out.drewN _).set2 _).drew
  intro v3 hv
  have H4 := am_ hv
  have HZ3 := am_ hz3
  clear hz3 T0 T1 T2 T3 U0 U1 U2 U3 H3
  try clear hHeld
  obtain ⟨T0, T1, T2, T3⟩ := hv.cells
  obtain ⟨U0, U1, U2, U3⟩ := hv.free
  clear hv
  go_upto_region 4 with fail
  refine start_ (n := 14) (S := fun w' => w'.cell? ⟨b, 2, none⟩ = some (.int .u64 z3) ∧ w'.cell? ⟨b, 3, none⟩ = some (.int .u64 x3)) (ds := [13]) #[fF,fF,fF,fF,fF,fF,fF,fF,fF,fF,fF,fF,fF,fF] (by kernel_rfl) rfl rfl ⟨T2, T3⟩ (fun hHeld => ?_)
  refine p_ 0 45 ?_
  refine p_ 1 46 ?_
  refine p_ 2 47 ?_
  refine p_ 3 48 ?_
  refine p_ 6 51 ?_
  refine p_ 7 52 ?_
  refine p_ 8 53 ?_
  refine t_ 4 49 hHeld ?_
  refine t_ 9 54 hHeld ?_
  refine o_ 5 (some 50) (fun K hK => ?_)
  refine g_ Tryz.func109 #[.int .u64 x3, .int .i64 16] ?_
  with_reducible refine (rotl_calls _ (by decide) _).mono ?_
  rintro e w3 ⟨rfl, ⟨⟨nq, rfl⟩⟩⟩
  refine ⟨_, rfl, ?_⟩
  refine hK.out _ _ ⟨T2, T3⟩ (fun hHeld => ?_)
  clear hK K
  refine n_ 50 ?_
  refine p_ 10 55 ?_
  refine p_ 11 56 ?_
  refine p_ 12 57 ?_
  refine l_ 13 none (fun K hK => ?_)
  refine s_ ?_
  refine hK.out _ _ ?_
  clear hK K
  refine done_ (by kernel_rfl) ?_
  have HE4 : Aside0 (∃ z, Go.bits .xor .u64 (rotl x3 16) z3 = z) := am_ ⟨_, rfl⟩
  obtain ⟨z4, hz4⟩ := HE4.out
  clear HE4
  refine ex_w (fun W => SipAt w0 W b z2 z1 z3 z4) ?_ ?_
  · subst hz4; first | exact (H4.out.set3 _).drew | exact (H4.out.drewN _).set3 _ | exact ((H4.out.drewN _).set3 _).drew
  intro v4 hv
  have H5 := am_ hv
  have HZ4 := am_ hz4
  clear hz4 T0 T1 T2 T3 U0 U1 U2 U3 H4
  try clear hHeld
  obtain ⟨T0, T1, T2, T3⟩ := hv.cells
  obtain ⟨U0, U1, U2, U3⟩ := hv.free
  clear hv
  go_upto_region 5 with fail
  refine start_ (n := 12) (S := fun w' => w'.cell? ⟨b, 0, none⟩ = some (.int .u64 z2) ∧ w'.cell? ⟨b, 3, none⟩ = some (.int .u64 z4)) (ds := [11]) #[fF,fF,fF,fF,fF,fF,fF,fF,fF,fF,fF,fF] (by kernel_rfl) rfl rfl ⟨T0, T3⟩ (fun hHeld => ?_)
  refine p_ 0 58 ?_
  refine p_ 1 59 ?_
  refine p_ 2 60 ?_
  refine p_ 4 62 ?_
  refine p_ 5 63 ?_
  refine p_ 6 64 ?_
  refine t_ 3 61 hHeld ?_
  refine t_ 7 65 hHeld ?_
  refine p_ 8 66 ?_
  refine p_ 9 67 ?_
  refine p_ 10 68 ?_
  refine l_ 11 none (fun K hK => ?_)
  refine s_ ?_
  refine hK.out _ _ ?_
  clear hK K
  refine done_ (by kernel_rfl) ?_
  have HE5 : Aside0 (∃ z, IntKind.u64.wrap (z2 + z4) = z) := am_ ⟨_, rfl⟩
  obtain ⟨z5, hz5⟩ := HE5.out
  clear HE5
  refine ex_w (fun W => SipAt w0 W b z5 z1 z3 z4) ?_ ?_
  · subst hz5; first | exact (H5.out.set0 _).drew | exact (H5.out.drewN _).set0 _ | exact ((H5.out.drewN _).set0 _).drew
  intro v5 hv
  have H6 := am_ hv
  have HZ5 := am_ hz5
  clear hz5 T0 T1 T2 T3 U0 U1 U2 U3 H5
  try clear hHeld
  obtain ⟨T0, T1, T2, T3⟩ := hv.cells
  obtain ⟨U0, U1, U2, U3⟩ := hv.free
  clear hv
  go_upto_region 6 with fail
  refine start_ (n := 14) (S := fun w' => w'.cell? ⟨b, 0, none⟩ = some (.int .u64 z5) ∧ w'.cell? ⟨b, 3, none⟩ = some (.int .u64 z4)) (ds := [13]) #[fF,fF,fF,fF,fF,fF,fF,fF,fF,fF,fF,fF,fF,fF] (by kernel_rfl) rfl rfl ⟨T0, T3⟩ (fun hHeld => ?_)
  refine p_ 0 69 ?_
  refine p_ 1 70 ?_
  refine p_ 2 71 ?_
  refine p_ 3 72 ?_
  refine p_ 6 75 ?_
  refine p_ 7 76 ?_
  refine p_ 8 77 ?_
  refine t_ 4 73 hHeld ?_
  refine t_ 9 78 hHeld ?_
  refine o_ 5 (some 74) (fun K hK => ?_)
  refine g_ Tryz.func109 #[.int .u64 z4, .int .i64 21] ?_
  with_reducible refine (rotl_calls _ (by decide) _).mono ?_
  rintro e w3 ⟨rfl, ⟨⟨nq, rfl⟩⟩⟩
  refine ⟨_, rfl, ?_⟩
  refine hK.out _ _ ⟨T0, T3⟩ (fun hHeld => ?_)
  clear hK K
  refine n_ 74 ?_
  refine p_ 10 79 ?_
  refine p_ 11 80 ?_
  refine p_ 12 81 ?_
  refine l_ 13 none (fun K hK => ?_)
  refine s_ ?_
  refine hK.out _ _ ?_
  clear hK K
  refine done_ (by kernel_rfl) ?_
  have HE6 : Aside0 (∃ z, Go.bits .xor .u64 (rotl z4 21) z5 = z) := am_ ⟨_, rfl⟩
  obtain ⟨z6, hz6⟩ := HE6.out
  clear HE6
  refine ex_w (fun W => SipAt w0 W b z5 z1 z3 z6) ?_ ?_
  · subst hz6; first | exact (H6.out.set3 _).drew | exact (H6.out.drewN _).set3 _ | exact ((H6.out.drewN _).set3 _).drew
  intro v6 hv
  have H7 := am_ hv
  have HZ6 := am_ hz6
  clear hz6 T0 T1 T2 T3 U0 U1 U2 U3 H6
  try clear hHeld
  obtain ⟨T0, T1, T2, T3⟩ := hv.cells
  obtain ⟨U0, U1, U2, U3⟩ := hv.free
  clear hv
  go_upto_region 7 with fail
  refine start_ (n := 12) (S := fun w' => w'.cell? ⟨b, 1, none⟩ = some (.int .u64 z1) ∧ w'.cell? ⟨b, 2, none⟩ = some (.int .u64 z3)) (ds := [11]) #[fF,fF,fF,fF,fF,fF,fF,fF,fF,fF,fF,fF] (by kernel_rfl) rfl rfl ⟨T1, T2⟩ (fun hHeld => ?_)
  refine p_ 0 82 ?_
  refine p_ 1 83 ?_
  refine p_ 2 84 ?_
  refine p_ 4 86 ?_
  refine p_ 5 87 ?_
  refine p_ 6 88 ?_
  refine t_ 3 85 hHeld ?_
  refine t_ 7 89 hHeld ?_
  refine p_ 8 90 ?_
  refine p_ 9 91 ?_
  refine p_ 10 92 ?_
  refine l_ 11 none (fun K hK => ?_)
  refine s_ ?_
  refine hK.out _ _ ?_
  clear hK K
  refine done_ (by kernel_rfl) ?_
  have HE7 : Aside0 (∃ z, IntKind.u64.wrap (z3 + z1) = z) := am_ ⟨_, rfl⟩
  obtain ⟨z7, hz7⟩ := HE7.out
  clear HE7
  refine ex_w (fun W => SipAt w0 W b z5 z1 z7 z6) ?_ ?_
  · subst hz7; first | exact (H7.out.set2 _).drew | exact (H7.out.drewN _).set2 _ | exact ((H7.out.drewN _).set2 _).drew
  intro v7 hv
  have H8 := am_ hv
  have HZ7 := am_ hz7
  clear hz7 T0 T1 T2 T3 U0 U1 U2 U3 H7
  try clear hHeld
  obtain ⟨T0, T1, T2, T3⟩ := hv.cells
  obtain ⟨U0, U1, U2, U3⟩ := hv.free
  clear hv
  go_upto_region 8 with fail
  refine start_ (n := 14) (S := fun w' => w'.cell? ⟨b, 1, none⟩ = some (.int .u64 z1) ∧ w'.cell? ⟨b, 2, none⟩ = some (.int .u64 z7)) (ds := [13]) #[fF,fF,fF,fF,fF,fF,fF,fF,fF,fF,fF,fF,fF,fF] (by kernel_rfl) rfl rfl ⟨T1, T2⟩ (fun hHeld => ?_)
  refine p_ 0 93 ?_
  refine p_ 1 94 ?_
  refine p_ 2 95 ?_
  refine p_ 3 96 ?_
  refine p_ 6 99 ?_
  refine p_ 7 100 ?_
  refine p_ 8 101 ?_
  refine t_ 4 97 hHeld ?_
  refine t_ 9 102 hHeld ?_
  refine o_ 5 (some 98) (fun K hK => ?_)
  refine g_ Tryz.func109 #[.int .u64 z1, .int .i64 17] ?_
  with_reducible refine (rotl_calls _ (by decide) _).mono ?_
  rintro e w3 ⟨rfl, ⟨⟨nq, rfl⟩⟩⟩
  refine ⟨_, rfl, ?_⟩
  refine hK.out _ _ ⟨T1, T2⟩ (fun hHeld => ?_)
  clear hK K
  refine n_ 98 ?_
  refine p_ 10 103 ?_
  refine p_ 11 104 ?_
  refine p_ 12 105 ?_
  refine l_ 13 none (fun K hK => ?_)
  refine s_ ?_
  refine hK.out _ _ ?_
  clear hK K
  refine done_ (by kernel_rfl) ?_
  have HE8 : Aside0 (∃ z, Go.bits .xor .u64 (rotl z1 17) z7 = z) := am_ ⟨_, rfl⟩
  obtain ⟨z8, hz8⟩ := HE8.out
  clear HE8
  refine ex_w (fun W => SipAt w0 W b z5 z8 z7 z6) ?_ ?_
  · subst hz8; first | exact (H8.out.set1 _).drew | exact (H8.out.drewN _).set1 _ | exact ((H8.out.drewN _).set1 _).drew
  intro v8 hv
  have H9 := am_ hv
  have HZ8 := am_ hz8
  clear hz8 T0 T1 T2 T3 U0 U1 U2 U3 H8
  try clear hHeld
  obtain ⟨T0, T1, T2, T3⟩ := hv.cells
  obtain ⟨U0, U1, U2, U3⟩ := hv.free
  clear hv
  go_wp2_with (first | (go_at_call 109; (with_reducible refine (rotl_calls _ (by decide) _).mono ?_); rintro e w3 ⟨rfl, ⟨⟨nq, rfl⟩⟩⟩))
  go_end0
  refine ⟨rfl, ?_⟩
  have hf : ∀ W, SipAt w0 W b z5 z8 (rotl z7 32) z6 → SipAt w0 W b (roundS ⟨x0, x1, x2, x3⟩).a (roundS ⟨x0, x1, x2, x3⟩).b (roundS ⟨x0, x1, x2, x3⟩).c (roundS ⟨x0, x1, x2, x3⟩).d := by
    intro W hW
    have q := hW
    rw [← HZ8.out, ← HZ7.out, ← HZ6.out, ← HZ5.out, ← HZ4.out, ← HZ3.out, ← HZ2.out, ← HZ1.out, ← HZ0.out] at q
    exact q
  refine hf _ ?_
  exact (H9.out.drewN _).set2 _
end Go.Proofs.YtgkmbefamcnifaaGreat.TB
namespace Go.Proofs.YtgkmbefamcnifaaGreat.SB
set_option linter.unusedVariables false
set_option linter.unusedSimpArgs false
open Go.RowKit Go.Proofs.YtgkmbefamcnifaaGreat.Hp Go.Proofs.YtgkmbefamcnifaaGreatW.PrintWords Go.Proofs.YtgkmbefamcnifaaGreatW.PrintLast
def plus (a b : Int) : Int := if a + b > 65535 then a + b - 65535 else a + b
def fold (n : Int) : Int := if n = 0 then 0 else (n - 1) % 65535 + 1
def pairs : List Int → Int
  | [] => 0
  | [x] => x * 256
  | x :: y :: l => x * 256 + y + pairs l
def Bytes (l : List Int) : Prop := ∀ x ∈ l, 0 ≤ x ∧ x ≤ 255
def turn (s a b : Int) : Int := 65535 - plus (65535 - s) (plus (65535 - a) b)
theorem wid {n : Int} (h : -9223372036854775808 ≤ n) (h' : n ≤ 9223372036854775807) : wrap64 n = n := by unfold wrap64; omega
theorem wrap_i64w (n : Int) (h0 : 0 ≤ n) (h1 : n < 2 ^ 63) : Go.IntKind.i64.wrap n = n := by rw [Go.IntKind.wrap_i64]; omega
theorem and_full {n : Int} (h0 : 0 ≤ n) (h1 : n < 9223372036854775808) : Go.bits .and .i64 n 65535 = n % 65536 :=
  Go.bits_mask .i64 63 (by decide) wrap_i64w 16 (by decide) n h0 h1
theorem fold_bounds {n : Int} : 0 ≤ fold n ∧ fold n ≤ 65535 := by unfold fold; split <;> omega
theorem fold_plus {n x : Int} (hn : 0 ≤ n) (h0 : 0 ≤ x) (h1 : x ≤ 65535) : plus (fold n) x = fold (n + x) := by
  unfold plus fold; repeat' split
  all_goals omega
theorem fold_zero : fold 0 = 0 := rfl
theorem plus_bounds {a b : Int} (ha : 0 ≤ a) (ha' : a ≤ 65535) (hb : 0 ≤ b) (hb' : b ≤ 65535) : 0 ≤ plus a b ∧ plus a b ≤ 65535 := by
  unfold plus; split <;> omega
theorem turn_bounds {s a b : Int} (hs : 0 ≤ s) (hs' : s ≤ 65535) (ha : 0 ≤ a) (ha' : a ≤ 65535) (hb : 0 ≤ b) (hb' : b ≤ 65535) : 0 ≤ turn s a b ∧ turn s a b ≤ 65535 := by
  unfold turn plus; repeat' split
  all_goals omega
theorem plus_f {a b : Int} (ha : 0 ≤ a) (ha' : a ≤ 65535) (hb : 0 ≤ b) (hb' : b ≤ 65535) : sum_Plus.f a b = some (plus a b) := by
  unfold sum_Plus.f
  rw [wid (n := a + b) (by omega) (by omega), and_full (by omega) (by omega), and_full (by omega) (by omega), wid (by omega) (by omega)]
  unfold plus
  split <;> (congr 1; omega)
theorem drop2 {l : List Int} {i : Nat} (h : i + 1 < l.length) : l.drop i = l.getD i 0 :: l.getD (i + 1) 0 :: l.drop (i + 2) := by
  rw [List.drop_eq_getElem_cons (by omega), List.drop_eq_getElem_cons h]
  simp [List.getD_eq_getElem?_getD, h, show i < l.length by omega]
theorem drop1 {l : List Int} {i : Nat} (h : i + 1 = l.length) : l.drop i = [l.getD i 0] := by
  rw [List.drop_eq_getElem_cons (by omega)]
  simp [List.getD_eq_getElem?_getD, show i < l.length by omega, h]
theorem getD_byte {l : List Int} (hb : Bytes l) (i : Nat) : 0 ≤ l.getD i 0 ∧ l.getD i 0 ≤ 255 := by
  rw [List.getD_eq_getElem?_getD]
  by_cases h : i < l.length
  · rw [List.getElem?_eq_getElem h]; exact hb _ (List.getElem_mem h)
  · rw [List.getElem?_eq_none (by omega)]; simp
theorem rd_nat (l : List Int) (i : Nat) : rd l (i : Int) = l.getD i 0 := by unfold rd; rw [Int.toNat_natCast]
theorem rd_nat1 (l : List Int) (i : Nat) : rd l ((i : Int) + 1) = l.getD (i + 1) 0 := rd_nat l (i + 1)
theorem pairs_nonneg : ∀ {l : List Int}, Bytes l → 0 ≤ pairs l
  | [], _ => Int.le_refl _
  | [x], h => by have := h x (by simp); simp only [pairs]; omega
  | x :: y :: l, h => by
    have h1 := h x (by simp)
    have h2 := h y (by simp)
    have := pairs_nonneg (l := l) (fun z hz => h z (by simp [hz]))
    simp only [pairs]; omega
theorem add_l0 (l : List Int) (hl : l.length ≤ 140737488355328) (hb : Bytes l) : ∀ (k i : Nat) (S : Int), 0 ≤ S → i ≤ l.length + 1 → l.length + 2 ≤ i + k → sum_Add.l0 k l (fold S) i = some (fold (S + pairs (l.drop i))) := by
  intro k
  induction k with
  | zero => intro i S hS hi hk; omega
  | succ k ih =>
    intro i S hS hi hk
    have b1 := getD_byte hb i
    have b2 := getD_byte hb (i + 1)
    have bf := @fold_bounds S
    simp only [sum_Add.l0]
    rw [wid (n := (i : Int) + 1) (by omega) (by omega), wid (n := (i : Int) + 2) (by omega) (by omega), rd_nat, rd_nat1]
    by_cases h : i < l.length
    · rw [if_pos (by omega), if_pos (by omega)]
      by_cases h1 : i + 1 < l.length
      · rw [if_pos (by omega), if_pos (by omega), wid (n := l.getD i 0) (by omega) (by omega), wid (n := l.getD (i + 1) 0) (by omega) (by omega), wid (n := l.getD i 0 * 256) (by omega) (by omega), wid (by omega) (by omega),
          plus_f bf.1 bf.2 (by omega) (by omega), fold_plus hS (by omega) (by omega)]
        have := ih (i + 2) (S + (l.getD i 0 * 256 + l.getD (i + 1) 0)) (by omega) (by omega) (by omega)
        simp only [Option.bind_some]
        rw [show ((i : Int) + 2) = ((i + 2 : Nat) : Int) by omega, this, drop2 h1]
        simp only [pairs]
        congr 2; omega
      · rw [if_neg (by omega), wid (n := l.getD i 0) (by omega) (by omega), wid (n := l.getD i 0 * 256) (by omega) (by omega), plus_f bf.1 bf.2 (by omega) (by omega), fold_plus hS (by omega) (by omega)]
        have := ih (i + 2) (S + (l.getD i 0 * 256)) (by omega) (by omega) (by omega)
        simp only [Option.bind_some]
        rw [show ((i : Int) + 2) = ((i + 2 : Nat) : Int) by omega, this, drop1 (show i + 1 = l.length by omega), List.drop_eq_nil_of_le (by omega)]
        simp only [pairs]
        congr 2; omega
    · rw [if_neg (by omega), List.drop_eq_nil_of_le (by omega)]
      simp [pairs]
theorem add_f {l : List Int} {k : Nat} (hl : l.length ≤ 140737488355328) (hb : Bytes l) (hk : l.length + 2 ≤ k) : sum_Add.f k l = some (fold (pairs l)) := by
  unfold sum_Add.f
  have := add_l0 l hl hb k 0 0 (Int.le_refl _) (by omega) (by omega)
  rw [List.drop_zero, Int.zero_add, fold_zero] at this
  exact this
theorem of_f {l : List Int} {k : Nat} (hl : l.length ≤ 140737488355328) (hb : Bytes l) (hk : l.length + 2 ≤ k) : sum_Of.f k l = some (65535 - fold (pairs l)) := by
  unfold sum_Of.f
  have bf := @fold_bounds (pairs l)
  rw [add_f hl hb hk, Option.bind_some, wid (by omega) (by omega)]
theorem right_f {l : List Int} {k : Nat} (hl : l.length ≤ 140737488355328) (hb : Bytes l) (hk : l.length + 2 ≤ k) : sum_Right.f k l = some (fold (pairs l) == 65535) := by
  unfold sum_Right.f
  rw [add_f hl hb hk, Option.bind_some]
theorem turn_f {s a b : Int} (hs : 0 ≤ s) (hs' : s ≤ 65535) (ha : 0 ≤ a) (ha' : a ≤ 65535) (hb : 0 ≤ b) (hb' : b ≤ 65535) : sum_Turn.f s a b = some (turn s a b) := by
  unfold sum_Turn.f turn
  have h1 := plus_bounds (a := 65535 - a) (b := b) (by omega) (by omega) hb hb'
  have h2 := plus_bounds (a := 65535 - s) (b := plus (65535 - a) b) (by omega) (by omega) h1.1 h1.2
  rw [wid (n := 65535 - a) (by omega) (by omega), wid (n := 65535 - s) (by omega) (by omega), plus_f (by omega) (by omega) hb hb', Option.bind_some, plus_f (by omega) (by omega) h1.1 h1.2, Option.bind_some, wid (by omega) (by omega)]
theorem bytes_nil : Bytes [] := by intro x hx; simp at hx
theorem Bytes.app {a b : List Int} (ha : Bytes a) (hb : Bytes b) : Bytes (a ++ b) := by
  intro x hx; rcases List.mem_append.1 hx with h | h
  · exact ha x h
  · exact hb x h
theorem Bytes.take {a : List Int} (ha : Bytes a) (n : Nat) : Bytes (a.take n) := fun x hx => ha x (List.mem_of_mem_take hx)
theorem Bytes.drop {a : List Int} (ha : Bytes a) (n : Nat) : Bytes (a.drop n) := fun x hx => ha x (List.mem_of_mem_drop hx)
theorem Bytes.set {a : List Int} (ha : Bytes a) (n : Nat) {v : Int} (h0 : 0 ≤ v) (h1 : v ≤ 255) : Bytes (a.set n v) := by
  intro x hx
  rcases List.mem_or_eq_of_mem_set hx with h | h
  · exact ha x h
  · subst h; exact ⟨h0, h1⟩
theorem pairs_app : ∀ (a b : List Int), a.length % 2 = 0 → pairs (a ++ b) = pairs a + pairs b
  | [], b, _ => by simp [pairs]
  | [x], b, h => by simp at h
  | x :: y :: l, b, h => by
    have := pairs_app l b (by simp at h; omega)
    simp only [List.cons_append, pairs, this]; omega
end Go.Proofs.YtgkmbefamcnifaaGreat.SB
