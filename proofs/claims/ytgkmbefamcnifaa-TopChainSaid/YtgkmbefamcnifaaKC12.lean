/- Lemmas and contracts that the row YtgkmbefamcnifaaLawTopChain goes by (part 12; joined by pack.py out of this session's texts, and of words that the kit's print lays). -/
import Derived.Test.YtgkmbefamcnifaaKC11
set_option maxRecDepth 100000
set_option maxHeartbeats 8000000
namespace Go.Proofs.Ytgkmbefamcnifaa.TB
set_option linter.unusedVariables false
set_option linter.unusedSimpArgs false
open Go.RowKit Go.Proofs.Ytgkmbefamcnifaa.Hp Go.Proofs.Ytgkmbefamcnifaa.SB Go.Proofs.Ytgkmbefamcnifaa.WB Go.Proofs.YtgkmbefamcnifaaW.PrintWords Go.Proofs.YtgkmbefamcnifaaW.PrintLast Go.Proofs.YtgkmbefamcnifaaW.PrintMore
/-- All but the blocks k and b is as it was; new blocks may be there. -/
structure Frm (k b : Nat) (w w' : World) : Prop where
  os : w'.os = w.os
  tape : w'.tape = w.tape
  output : w'.output = w.output
  size : w.heap.size ≤ w'.heap.size
  block : ∀ j, j < w.heap.size → j ≠ k → j ≠ b → w'.heap[j]? = w.heap[j]?
theorem Frm.refl (k b : Nat) (w : World) : Frm k b w w := ⟨rfl, rfl, rfl, Nat.le_refl _, fun _ _ _ _ => rfl⟩
theorem Frm.trans {k b : Nat} {w w1 w2 : World} (h : Frm k b w w1) (g : Frm k b w1 w2) : Frm k b w w2 :=
  ⟨g.os.trans h.os, g.tape.trans h.tape, g.output.trans h.output, Nat.le_trans h.size g.size, fun j hj h1 h2 => (g.block j (Nat.lt_of_lt_of_le hj h.size) h1 h2).trans (h.block j hj h1 h2)⟩
theorem Frm.of_below {k b : Nat} {w w' : World} (h : Below w.heap.size w w') : Frm k b w w' := ⟨h.os, h.tape, h.output, h.size, fun j hj _ _ => h.block j hj⟩
theorem Frm.of_k {k b : Nat} {w w' : World} (h : Chg k w w') : Frm k b w w' := ⟨h.os, h.tape, h.output, Nat.le_of_eq h.size.symm, fun j _ h1 _ => h.block j h1⟩
theorem Frm.of_b {k b : Nat} {w w' : World} (h : Chg b w w') : Frm k b w w' := ⟨h.os, h.tape, h.output, Nat.le_of_eq h.size.symm, fun j _ _ h2 => h.block j h2⟩
theorem Frm.blk {k b j : Nat} {w w' : World} {o : Obj} (h : Frm k b w w') (hj : w.heap[j]? = some o) (h1 : j ≠ k) (h2 : j ≠ b) : w'.heap[j]? = some o := (h.block j (blk_lt hj) h1 h2).trans hj
/-- A row of bytes that is neither k nor b. -/
def OwnF (k b : Nat) (w : World) (v : Value) (l : List Int) : Prop := Kd.R (Kd.int .u8) 5 w 0 (fun j => j ≠ k ∧ j ≠ b) v l
theorem OwnF.frm {k b : Nat} {w w' : World} {v : Value} {l : List Int} (h : OwnF k b w v l) (f : Frm k b w w') : OwnF k b w' v l := Kd.R_step h fun j hj hl => f.block j hl hj.1 hj.2
theorem OwnF.of {k b B : Nat} {w : World} {v : Value} {l : List Int} (h : RB B w v l) (hk : k < B) (hb : b < B) : OwnF k b w v l :=
  Kd.R_lower (Kd.R_mono (Kd.R_bound h) (fun j hj => ⟨by have := hj.2.1; omega, by have := hj.2.1; omega⟩)) (Nat.zero_le _)
theorem OwnF.of2 {k b B : Nat} {w : World} {v : Value} {l : List Int} (h : RB B w v l) (hk : w.heap.size ≤ k) (hb : b < B) : OwnF k b w v l :=
  Kd.R_lower (Kd.R_mono (Kd.R_bound h) (fun j hj => ⟨by have := hj.2.2.1; omega, by have := hj.2.1; omega⟩)) (Nat.zero_le _)
theorem OwnF.rw {k b : Nat} {w : World} {A : Option Addr} {c n : Nat} {l : List Int} (h : OwnF k b w (.slice A n c) l) : Rw w A c l := rw_of (Kd.R_mono h fun _ _ => trivial)
def pkA (p : Pk) (A1 : Option Addr) (c1 : Nat) (A2 : Option Addr) (c2 b : Nat) (v : Value) : Array Value :=
  #[.int .i64 p.kind, .int .i64 p.life, .int .i64 p.piece, .int .i64 p.frm, .int .i64 p.dst, .int .i64 p.fp, .int .i64 p.tp, .int .i64 p.flags, .int .i64 p.label, .bool p.bare, .int .i64 p.code, .slice A1 p.opts.length c1, .slice A2 p.data.length c2, .pointer (some ⟨b, 0, none⟩), v]
/-- A packet at k on its way through the plane at b, the pool's copy at gh, the answer's place at g. -/
structure OutS (w W : World) (k b g gh : Nat) (p : Pk) (A1 : Option Addr) (c1 : Nat) (A2 : Option Addr) (c2 : Nat) (x : Po) (nl : List (Int × Bool)) (wv v : Value) (l : List Int) : Prop where
  hk : W.heap[k]? = some (.cells (pkA p A1 c1 A2 c2 b v) 101 (0, 0))
  hp : PlaneAt W b x true (nearV nl) wv
  hg : W.heap[g]? = some (.cells #[.int .i64 0, .int .i64 0, .bool false, .slice none 0 0] 48 (0, 0))
  hh : PoolAt W gh x
  ro : OwnF k b W (.slice A1 p.opts.length c1) p.opts
  rl : OwnF k b W v l
  fr : Frm k b w W
  ne : k ≠ b ∧ k < w.heap.size ∧ b < w.heap.size ∧ w.heap.size ≤ g ∧ g < gh
section
variable {w W W' : World} {k b g gh : Nat} {p : Pk} {A1 : Option Addr} {c1 : Nat} {A2 : Option Addr} {c2 : Nat} {x : Po} {nl : List (Int × Bool)} {wv v : Value} {l : List Int}
theorem OutS.ltk (h : OutS w W k b g gh p A1 c1 A2 c2 x nl wv v l) : k < W.heap.size := blk_lt h.hk
theorem OutS.ltb (h : OutS w W k b g gh p A1 c1 A2 c2 x nl wv v l) : b < W.heap.size := blk_lt h.hp.2.2
theorem OutS.below (h : OutS w W k b g gh p A1 c1 A2 c2 x nl wv v l) (hb : Below W.heap.size W W') : OutS w W' k b g gh p A1 c1 A2 c2 x nl wv v l :=
  ⟨bk_ h.hk hb, h.hp.below hb, bk_ h.hg hb, h.hh.below hb, h.ro.frm (Frm.of_below hb), h.rl.frm (Frm.of_below hb), h.fr.trans (Frm.of_below hb), h.ne⟩
theorem OutS.then_ (h : OutS w W k b g gh p A1 c1 A2 c2 x nl wv v l) {Ay : Option Addr} {cy : Nat} {y : List Int} {e : Int} (hy : OwnF k b W (.slice Ay y.length cy) y) {c : Array Value} (hk : W'.heap[k]? = some (.cells c 101 (0, 0))) (hcc : c = pkA p A1 c1 A2 c2 b (if e = 0 then .slice Ay y.length cy else v)) (hc : Chg k W W') :
    ∃ v', OutS w W' k b g gh p A1 c1 A2 c2 x nl wv v' (thenL l (y, e)) := by
  subst hcc
  have hne := h.ne
  have hp : PlaneAt W' b x true (nearV nl) wv := ⟨h.hp.1, h.hp.2.1, (hc.block _ (by omega)).trans h.hp.2.2⟩
  have hg := (hc.block g (by omega)).trans h.hg
  have hh : PoolAt W' gh x := h.hh.chg hc (by omega)
  by_cases he : e = 0
  · subst he
    rw [if_pos rfl] at hk
    exact ⟨_, hk, hp, hg, hh, h.ro.frm (Frm.of_k hc), by rw [thenL_ok]; exact hy.frm (Frm.of_k hc), h.fr.trans (Frm.of_k hc), h.ne⟩
  · rw [if_neg he] at hk
    exact ⟨_, hk, hp, hg, hh, h.ro.frm (Frm.of_k hc), by rw [thenL_no _ _ he]; exact h.rl.frm (Frm.of_k hc), h.fr.trans (Frm.of_k hc), h.ne⟩
theorem OutS.near (h : OutS w W k b g gh p A1 c1 A2 c2 x nl wv v l) {nl' : List (Int × Bool)} (hp : PlaneAt W' b x true (nearV nl') wv) (hc : Chg b W W') : OutS w W' k b g gh p A1 c1 A2 c2 x nl' wv v l := by
  have hne := h.ne
  exact ⟨(hc.block k (by omega)).trans h.hk, hp, (hc.block g (by omega)).trans h.hg, h.hh.chg hc (by omega), h.ro.frm (Frm.of_b hc), h.rl.frm (Frm.of_b hc), h.fr.trans (Frm.of_b hc), h.ne⟩
theorem OwnF.setg {cs : Array Value} {g : Nat} (h : OwnF k b w v l) (hg : w.heap[g]? = some (.cells cs 48 (0, 0))) (j : Nat) (u : Value) : OwnF k b (w.setCell ⟨g, j, none⟩ u) v l :=
  Kd.R_set h hg (fun q hq => by simp [Kd.int, Kd.scalar] at hq; omega) j u
theorem OutS.fin {A : Option Addr} {c : Nat} (h : OutS w W k b g gh p A1 c1 A2 c2 x nl wv (.slice A l.length c) l) (v0 v1 v2 v3 : Value) :
    ((((W.setCell ⟨g, 0, none⟩ v0).setCell ⟨g, 1, none⟩ v1).setCell ⟨g, 2, none⟩ v2).setCell ⟨g, 3, none⟩ v3).heap[g]? = some (.cells #[v0, v1, v2, v3] 48 (0, 0)) ∧
      OwnF k b ((((W.setCell ⟨g, 0, none⟩ v0).setCell ⟨g, 1, none⟩ v1).setCell ⟨g, 2, none⟩ v2).setCell ⟨g, 3, none⟩ v3) (.slice A l.length c) l ∧ PlaneAt ((((W.setCell ⟨g, 0, none⟩ v0).setCell ⟨g, 1, none⟩ v1).setCell ⟨g, 2, none⟩ v2).setCell ⟨g, 3, none⟩ v3) b x true (nearV nl) wv ∧
      Frm k b w ((((W.setCell ⟨g, 0, none⟩ v0).setCell ⟨g, 1, none⟩ v1).setCell ⟨g, 2, none⟩ v2).setCell ⟨g, 3, none⟩ v3) := by
  have e0 := heap_setCell_same W g 0 _ 48 v0 h.hg
  have e1 := heap_setCell_same _ g 1 _ 48 v1 e0
  have e2 := heap_setCell_same _ g 2 _ 48 v2 e1
  have e3 := heap_setCell_same _ g 3 _ 48 v3 e2
  have hc : Chg g W ((((W.setCell ⟨g, 0, none⟩ v0).setCell ⟨g, 1, none⟩ v1).setCell ⟨g, 2, none⟩ v2).setCell ⟨g, 3, none⟩ v3) := ((((Chg.refl g W).set _ _).set _ _).set _ _).set _ _
  have hne := h.ne
  refine ⟨e3, (((h.rl.setg h.hg 0 v0).setg e0 1 v1).setg e1 2 v2).setg e2 3 v3, ⟨h.hp.1, h.hp.2.1, (hc.block b (by omega)).trans h.hp.2.2⟩, ⟨hc.os.trans h.fr.os, hc.tape.trans h.fr.tape, hc.output.trans h.fr.output, ?_, fun j hj h1 h2 => (hc.block j (by omega)).trans (h.fr.block j hj h1 h2)⟩⟩
  rw [hc.size]
  exact h.fr.size
theorem OutS.slice (h : OutS w W k b g gh p A1 c1 A2 c2 x nl wv v l) : ∃ A c, v = .slice A l.length c := Kd.R_slice h.rl
end
def putC (val c : Int) : Int := (cookie_Put.f val c).getD 0
theorem put_calls (val c : Int) (w : World) : Calls Try.prog 91 #[.int .u32 val, .int .i64 c] w fun e w' => e = .returned (.int .u32 (putC val c)) ∧ Below w.heap.size w w' := by
  refine (cookie_Put.calls val c (putC val c) w rfl).mono ?_
  rintro e w' ⟨rfl, ⟨⟨nd, rfl⟩⟩⟩
  exact ⟨rfl, bd (Below.refl _ w) nd⟩
theorem putC_b (val c : Int) : 0 ≤ putC val c ∧ putC val c ≤ 4294967295 := Go.bits_within .or .u32 _ _
def out1 (x : Po) (l : List Int) : List Int := thenL l (natR l true x.ad x.po)
def ckOf (x : Po) (p : Pk) (si : Nat) : Int := makeC ⟨x.ep, x.k0, x.k1, x.k2⟩ p.kind ⟨p.dst, p.tp, x.ad, x.po⟩ si
/-- The bytes that go out of a slot. -/
def outL (x : Po) (p : Pk) (l : List Int) (si : Nat) : List Int :=
  if p.kind = 2 then thenL (out1 x l) (writeR (out1 x l) 20 2 (ckOf x p si))
  else if (stampL p.opts).2.2.2 = true then thenL (out1 x l) (writeR (out1 x l) (24 + (stampL p.opts).1) 4 (putC (stampL p.opts).2.1 (ckOf x p si))) else out1 x l
/-- The stamps that are kept behind it. -/
def outN (p : Pk) (nl : List (Int × Bool)) (si : Nat) : List (Int × Bool) :=
  if p.kind ≠ 2 ∧ (stampL p.opts).2.2.2 = true then nl.set si ((stampL p.opts).2.1, true) else nl
theorem ck_calls (x : Po) (p : Pk) (si : Nat) {ck : Int} (h : ckOf x p si = ck) (W : World) :
    Calls Try.prog 19 #[.agg #[.int .i64 x.ep, .int .u64 x.k0.a, .int .u64 x.k0.b, .int .u64 x.k1.a, .int .u64 x.k1.b, .int .u64 x.k2.a, .int .u64 x.k2.b], .int .i64 p.kind, .agg #[.int .i64 p.dst, .int .i64 p.tp, .int .i64 x.ad, .int .i64 x.po], .int .i64 (si : Int)] W fun e w' => e = .returned (.int .i64 ck) ∧ Below W.heap.size W w' := by
  subst h
  exact cmake_calls ⟨x.ep, x.k0, x.k1, x.k2⟩ p.kind ⟨p.dst, p.tp, x.ad, x.po⟩ si W
theorem out_calls {p : Pk} {A1 A2 : Option Addr} {c1 c2 k b si : Nat} {x : Po} {nl : List (Int × Bool)} {wv : Value} {Ab : Option Addr} {cb : Nat} {l : List Int} {w : World}
    (hk : w.heap[k]? = some (.cells (pkA p A1 c1 A2 c2 b (.slice Ab l.length cb)) 101 (0, 0))) (hP : PlaneAt w b x true (nearV nl) wv) (hne : k ≠ b)
    (ho : OwnF k b w (.slice A1 p.opts.length c1) p.opts) (hr : OwnF k b w (.slice Ab l.length cb) l) (hly : Bytes l) (hll : l.length ≤ 10000) (hoy : Bytes p.opts) (hol : p.opts.length ≤ 1000)
    (h1y : Bytes (out1 x l)) (h1l : (out1 x l).length ≤ 10000) (hsi : si < 64) :
    Calls Try.prog 46 #[.pointer (some ⟨k, 0, none⟩), .int .i64 (si : Int)] w fun e w' => ∃ A c, e = .returned (.agg #[.int .i64 0, .int .i64 (-1), .bool false, .slice A (outL x p l si).length c]) ∧ OwnF k b w' (.slice A (outL x p l si).length c) (outL x p l si) ∧ PlaneAt w' b x true (nearV (outN p nl si)) wv ∧ Frm k b w w' := by
  obtain ⟨ck, hck⟩ : ∃ c, ckOf x p si = c := ⟨_, rfl⟩
  have HCKO := am_ hck
  have HMC := am_ (fun W => ck_calls x p si hck W)
  obtain ⟨⟨y, xe⟩, hy⟩ : ∃ r, natR l true x.ad x.po = r := ⟨_, rfl⟩
  have HY1 := am_ (show out1 x l = thenL l (y, xe) by unfold out1; rw [hy])
  have H1Y := am_ h1y
  have H1L := am_ h1l
  have HNT0 := am_ (fun (W0 : World) (h0 : Rw W0 Ab cb l) => nat_at h0 rfl hll hly true x.ad x.po hy)
  have HOY := am_ hoy
  have HOL := am_ hol
  have HSI := am_ hsi
  have HL := am_ hP.2.1
  have HIN := am_ (fun (W : World) (g gh : Nat) (hb : Below w.heap.size w W) (hg : W.heap[g]? = some (.cells #[.int .i64 0, .int .i64 0, .bool false, .slice none 0 0] 48 (0, 0))) (hh : PoolAt W gh x) (hle : w.heap.size ≤ g) (hlt : g < gh) =>
    (⟨bk_ hk hb, hP.below hb, hg, hh, ho.frm (Frm.of_below hb), hr.frm (Frm.of_below hb), Frm.of_below hb, hne, blk_lt hk, blk_lt hP.2.2, hle, hlt⟩ : OutS w W k b g gh p A1 c1 A2 c2 x nl wv (.slice Ab l.length cb) l))
  have HK := am_ hk
  have HP := am_ hP
  clear hk hP hne ho hr hly hll hoy hol h1y h1l hsi hck hy
  obtain ⟨g, HG⟩ : ∃ g, w.heap.size = g := ⟨_, rfl⟩
  have HGE := am_ (Nat.le_of_eq HG)
  go_enter Try.func46, Try.ntmps46
  go_upto_region 1 with fail
  refine wp_w (fun W => W.heap[g]? = some (.cells #[.int .i64 0, .int .i64 0, .bool false, .slice none 0 0] 48 (0, 0)) ∧ Below w.heap.size w W) ?_ ?_
  · exact ⟨(box_at w HG _).1, (box_at w HG _).2.1⟩
  intro w1 h1
  have HR1 := am_ h1.1
  have HB1 := am_ h1.2
  have HP1 := am_ (HP.out.below h1.2)
  obtain ⟨k0, k1, k2, k3, k4, k5, k6, k7, k8, k9, k10, k11, k12, k13, k14⟩ := c15 (bk_ HK.out h1.2)
  clear h1 HG
  go_upto_region 2 with (first
    | ((with_reducible refine gate_dst (N := 18) rfl ?_); (refine plane_load rfl rfl rfl HP1.out ?_))
    | ((with_reducible refine gate_dst (N := 5) rfl ?_); refine pool_alloc rfl rfl ?_; intro gh hg3 w3 hp3 hb3 hs3; have HP3 := am_ hp3; have HB3 := am_ hb3; have HG3 := am_ hg3; clear hp3 hb3 hs3 hg3)
    | ((with_reducible refine gate_store (t := 34) (p := 5) rfl ?_); refine pool_store (q := x) rfl rfl rfl rfl rfl HP3.out Po.z_len HL.out ?_; intro w4 hp4 hc4; have HP4 := am_ hp4; have HC4 := am_ hc4; clear hp4 hc4))
  refine wp_w (fun W => OutS w W k b g gh p A1 c1 A2 c2 x nl wv (.slice Ab l.length cb) l) ?_ ?_
  · have hb := Chg.step HB3.out HC4.out (Nat.le_of_eq HG3.out)
    exact HIN.out _ g gh (below_step HB1.out hb) (bk_ HR1.out hb) HP4.out HGE.out (by rw [← HG3.out]; exact blk_lt HR1.out)
  intro w2 h2
  have HS := am_ h2
  have HCK := am_ (fun W (h : Below w2.heap.size w2 W) => show W.cell? ⟨k, 0, none⟩ = some (.int .i64 p.kind) ∧ W.cell? ⟨k, 4, none⟩ = some (.int .i64 p.dst) ∧ W.cell? ⟨k, 6, none⟩ = some (.int .i64 p.tp) ∧ W.cell? ⟨gh, 1, none⟩ = some (.int .i64 x.ad) ∧ W.cell? ⟨gh, 2, none⟩ = some (.int .i64 x.po) ∧ W.cell? ⟨gh, 323, none⟩ = some (.int .i64 x.ep) ∧
      W.cell? ⟨gh, 324, none⟩ = some (.int .u64 x.k0.a) ∧ W.cell? ⟨gh, 325, none⟩ = some (.int .u64 x.k0.b) ∧ W.cell? ⟨gh, 326, none⟩ = some (.int .u64 x.k1.a) ∧ W.cell? ⟨gh, 327, none⟩ = some (.int .u64 x.k1.b) ∧ W.cell? ⟨gh, 328, none⟩ = some (.int .u64 x.k2.a) ∧ W.cell? ⟨gh, 329, none⟩ = some (.int .u64 x.k2.b) from by
    have hs := h2.below h
    obtain ⟨a0, a1, a2, a3, a4, a5, a6, _⟩ := c15 hs.hk
    obtain ⟨_, e1, e2⟩ := hs.hh.head
    exact ⟨a0, a4, a6, e1, e2, hs.hh.ring HL.out⟩)
  clear h2 k0 k1 k2 k3 k4 k5 k6 k7 k8 k9 k10 k11 k12 k13 k14
  have HQc := am_ (Below.refl w2.heap.size w2).drew
  refine start_ (n := 25) (S := fun w' => w'.cell? ⟨k, 0, none⟩ = some (.int .i64 p.kind) ∧ w'.cell? ⟨k, 4, none⟩ = some (.int .i64 p.dst) ∧ w'.cell? ⟨k, 6, none⟩ = some (.int .i64 p.tp) ∧ w'.cell? ⟨gh, 1, none⟩ = some (.int .i64 x.ad) ∧ w'.cell? ⟨gh, 2, none⟩ = some (.int .i64 x.po) ∧ w'.cell? ⟨gh, 323, none⟩ = some (.int .i64 x.ep) ∧ w'.cell? ⟨gh, 324, none⟩ = some (.int .u64 x.k0.a) ∧ w'.cell? ⟨gh, 325, none⟩ = some (.int .u64 x.k0.b) ∧ w'.cell? ⟨gh, 326, none⟩ = some (.int .u64 x.k1.a) ∧ w'.cell? ⟨gh, 327, none⟩ = some (.int .u64 x.k1.b) ∧ w'.cell? ⟨gh, 328, none⟩ = some (.int .u64 x.k2.a) ∧ w'.cell? ⟨gh, 329, none⟩ = some (.int .u64 x.k2.b)) (ds := [23]) #[fF,fF,fF,fF,fF,fF,fF,fF,fF,fF,fF,fF,fF,fF,fF,fF,fF,fF,fF,fF,fF,fF,fF,fF,fF] (by kernel_rfl) rfl rfl ⟨(HCK.out _ HQc.out).1, (HCK.out _ HQc.out).2.1, (HCK.out _ HQc.out).2.2.1, (HCK.out _ HQc.out).2.2.2.1, (HCK.out _ HQc.out).2.2.2.2.1, (HCK.out _ HQc.out).2.2.2.2.2.1, (HCK.out _ HQc.out).2.2.2.2.2.2.1, (HCK.out _ HQc.out).2.2.2.2.2.2.2.1, (HCK.out _ HQc.out).2.2.2.2.2.2.2.2.1, (HCK.out _ HQc.out).2.2.2.2.2.2.2.2.2.1, (HCK.out _ HQc.out).2.2.2.2.2.2.2.2.2.2.1, (HCK.out _ HQc.out).2.2.2.2.2.2.2.2.2.2.2⟩ (fun hHeld => ?_)
  refine p_ 0 19 ?_
  refine p_ 2 21 ?_
  refine p_ 3 22 ?_
  refine p_ 4 23 ?_
  refine p_ 5 24 ?_
  refine p_ 7 26 ?_
  refine p_ 8 27 ?_
  refine p_ 9 28 ?_
  refine p_ 10 29 ?_
  refine p_ 12 31 ?_
  refine p_ 13 32 ?_
  refine p_ 14 33 ?_
  refine p_ 15 34 ?_
  refine p_ 17 36 ?_
  refine p_ 19 38 ?_
  refine p_ 22 41 ?_
  refine t_ 1 20 hHeld ?_
  refine t_ 6 25 hHeld ?_
  refine t_ 11 30 hHeld ?_
  refine t_ 16 35 hHeld ?_
  refine t_ 18 37 hHeld ?_
  refine t_ 20 39 hHeld ?_
  refine p_ 21 40 ?_
  refine l_ 23 (some 42) (fun K hK => ?_)
  refine g_ Try.func19 #[.agg #[.int .i64 x.ep, .int .u64 x.k0.a, .int .u64 x.k0.b, .int .u64 x.k1.a, .int .u64 x.k1.b, .int .u64 x.k2.a, .int .u64 x.k2.b], .int .i64 p.kind, .agg #[.int .i64 p.dst, .int .i64 p.tp, .int .i64 x.ad, .int .i64 x.po], .int .i64 (si : Int)] ?_
  with_reducible refine (HMC.out _).mono ?_
  rintro e1 w31 ⟨rfl, hx⟩
  refine ⟨_, rfl, ?_⟩
  replace HQc := am_ (below_step HQc.out hx)
  clear hx
  refine hK.out _ _ ?_
  clear hK K
  refine n_ 42 ?_
  refine p_ 24 6 ?_
  refine done_ (by kernel_rfl) ?_
  go_upto_region 3 with fail
  refine wp_w (fun W => OutS w W k b g gh p A1 c1 A2 c2 x nl wv (.slice Ab l.length cb) l) ?_ ?_
  · exact HS.out.below HQc.out
  intro w3 h3
  replace HS := am_ h3
  have HNT := am_ (HNT0.out w3 h3.rl.rw)
  replace HCK := am_ (fun W (h : Below w3.heap.size w3 W) => show W.cell? ⟨k, 14, none⟩ = some (.slice Ab l.length cb) ∧ W.cell? ⟨gh, 1, none⟩ = some (.int .i64 x.ad) ∧ W.cell? ⟨gh, 2, none⟩ = some (.int .i64 x.po) from by
    have hs := h3.below h
    obtain ⟨_, _, _, _, _, _, _, _, _, _, _, _, _, _, a14⟩ := c15 hs.hk
    obtain ⟨_, e1, e2⟩ := hs.hh.head
    exact ⟨a14, e1, e2⟩)
  clear h3 hHeld
  replace HQc := am_ (Below.refl w3.heap.size w3).drew
  refine start_ (n := 13) (S := fun w' => w'.cell? ⟨k, 14, none⟩ = some (.slice Ab l.length cb) ∧ w'.cell? ⟨gh, 1, none⟩ = some (.int .i64 x.ad) ∧ w'.cell? ⟨gh, 2, none⟩ = some (.int .i64 x.po)) (ds := [12]) #[fF,fF,fF,fF,fF,fF,fF,fF,fF,fF,fF,fF,fF] (by kernel_rfl) rfl rfl ⟨(HCK.out _ HQc.out).1, (HCK.out _ HQc.out).2.1, (HCK.out _ HQc.out).2.2⟩ (fun hHeld => ?_)
  refine p_ 0 43 ?_
  refine p_ 1 44 ?_
  refine p_ 2 45 ?_
  refine p_ 3 46 ?_
  refine p_ 5 48 ?_
  refine p_ 7 50 ?_
  refine t_ 4 47 hHeld ?_
  refine t_ 6 49 hHeld ?_
  refine t_ 8 51 hHeld ?_
  refine o_ 9 (some 52) (fun K hK => ?_)
  refine g_ Try.func87 #[.slice Ab l.length cb, .bool true, .int .i64 x.ad, .int .i64 x.po] ?_
  with_reducible refine (HNT.out _ HQc.out).mono ?_
  rintro e1 w31 ⟨Ay, cy, rfl, hry, hx⟩
  refine ⟨_, rfl, ?_⟩
  replace HQc := am_ hx
  have HRY := am_ (OwnF.of hry HS.out.ltk HS.out.ltb)
  have HTH := am_ (then_calls Ay y.length cy xe (HS.out.below hx).hk)
  clear hry hx
  refine hK.out _ _ ⟨(HCK.out _ HQc.out).1, (HCK.out _ HQc.out).2.1, (HCK.out _ HQc.out).2.2⟩ (fun hHeld => ?_)
  clear hK K
  refine n_ 52 ?_
  refine p_ 10 53 ?_
  refine p_ 11 54 ?_
  refine l_ 12 (some 55) (fun K hK => ?_)
  refine g_ Try.func41 #[.pointer (some ⟨k, 0, none⟩), .slice Ay y.length cy, .int .i64 xe] ?_
  with_reducible refine (HTH.out).mono ?_
  rintro e2 w32 ⟨rfl, hkk, hch⟩
  refine ⟨_, rfl, ?_⟩
  have HKK := am_ hkk
  have HCC := am_ hch
  clear hkk hch
  refine hK.out _ _ ?_
  clear hK K
  refine n_ 55 ?_
  refine done_ (by kernel_rfl) ?_
  go_upto_region 4 with fail
  obtain ⟨L1, hL1⟩ : ∃ z, out1 x l = z := ⟨_, rfl⟩
  have HL1 := am_ hL1
  rw [hL1] at HY1 H1Y H1L
  refine wp_w (fun W => ∃ v, OutS w W k b g gh p A1 c1 A2 c2 x nl wv v L1) ?_ ?_
  · obtain ⟨v', h⟩ := (HS.out.below HQc.out).then_ HRY.out HKK.out rfl HCC.out
    rw [← HY1.out] at h
    exact ⟨v', h⟩
  intro w4 h4
  obtain ⟨v4, h4⟩ := h4
  obtain ⟨Ab4, cb4, rfl⟩ := h4.slice
  replace HS := am_ h4
  clear h4 hHeld HKK HCC HRY HTH HNT HNT0 HY1 hL1
  by_cases hkd : p.kind = 2
  · have hd : (p.kind == 2) = true := beq_iff_eq.mpr hkd
    obtain ⟨⟨y2, xe2⟩, hy2⟩ : ∃ r, writeR L1 20 2 ck = r := ⟨_, rfl⟩
    have HO := am_ (show outL x p l si = thenL L1 (y2, xe2) by unfold outL; rw [if_pos hkd, HL1.out, HCKO.out, hy2])
    have HON := am_ (show outN p nl si = nl by unfold outN; rw [if_neg (fun h => h.1 hkd)])
    have HWR := am_ (write_at (W0 := w4) HS.out.rl.rw rfl H1L.out H1Y.out 20 2 ck hy2)
    obtain ⟨k0, k1, k2, k3, k4, k5, k6, k7, k8, k9, k10, k11, k12, k13, k14⟩ := c15 HS.out.hk
    clear hkd hy2
    go_upto_region 10 with (first
      | (go_at_call 83; ((with_reducible refine (HWR.out _ ?hb).mono ?_); (case hb => (repeat (first | with_reducible exact Below.refl _ _ | with_reducible apply below_alloc | with_reducible apply pw_below_drewN | with_reducible apply below_drew1 | exact bd (Below.refl _ _) _ | exact (Below.refl _ _).drew))); rintro e2 x2 ⟨Ay, cy, rfl, hry, hx⟩; have HXY := am_ hx; have HRY := am_ (OwnF.of hry HS.out.ltk HS.out.ltb); have HTH := am_ (then_calls Ay y2.length cy xe2 (HS.out.below hx).hk); clear hry hx))
      | (go_at_call 41; ((with_reducible refine HTH.out.mono ?_); rintro e3 x3 ⟨rfl, hk, hch⟩; have HKK := am_ hk; have HCC := am_ hch; clear hk hch)))
    refine wp_w (fun W => ∃ v, OutS w W k b g gh p A1 c1 A2 c2 x (outN p nl si) wv v (outL x p l si)) ?_ ?_
    · rw [HO.out, HON.out]
      exact (HS.out.below HXY.out).then_ HRY.out HKK.out rfl HCC.out
    clear k0 k1 k2 k3 k4 k5 k6 k7 k8 k9 k10 k11 k12 k13 k14 HKK HCC HRY HTH HXY HWR HO HON
    intro wz hz
    obtain ⟨vz, hz⟩ := hz
    obtain ⟨Az, cz, rfl⟩ := hz.slice
    obtain ⟨k0, k1, k2, k3, k4, k5, k6, k7, k8, k9, k10, k11, k12, k13, k14⟩ := c15 hz.hk
    obtain ⟨t0, t1, t2, t3⟩ := c4 hz.hg
    have u0 := fr_ hz.hg 0
    have u1 := fr_ hz.hg 1
    have u2 := fr_ hz.hg 2
    have u3 := fr_ hz.hg 3
    have HSZ := am_ hz
    clear hz
    go_wp2
    obtain ⟨f1, f2, f3, f4⟩ := HSZ.out.fin (.int .i64 0) (.int .i64 (-1)) (.bool false) (.slice Az (outL x p l si).length cz)
    exact bodyPost_ret (results_cell_row rfl _ _ g 48 #[.int .i64 0, .int .i64 (-1), .bool false, .slice Az (outL x p l si).length cz] (0, 0) _ rfl f1 Try.underlying48 rfl info48) rfl ⟨Az, cz, rfl, f2, f3, f4⟩
  · have hd : (p.kind == 2) = false := beq_eq_false_iff_ne.mpr hkd
    have hst := stampL_ok p.opts
    have HSC := am_ (fun W (hW : Below w4.heap.size w4 W) => stamp_calls (w := W) (HS.out.ro.rw.below hW).rd rfl HS.out.ro.rw.le HOL.out HOY.out)
    obtain ⟨k0, k1, k2, k3, k4, k5, k6, k7, k8, k9, k10, k11, k12, k13, k14⟩ := c15 HS.out.hk
    rcases hst with hst | ⟨at_, hat1, hat2, hst⟩
    · have HO := am_ (show outL x p l si = L1 by unfold outL; rw [if_neg hkd, hst, if_neg (by simp), HL1.out])
      have HON := am_ (show outN p nl si = nl by unfold outN; rw [hst, if_neg (fun h => by cases h.2)])
      rw [hst] at HSC
      clear hkd hst
      go_upto_region 10 with (first
        | (go_at_call 18; ((with_reducible refine (HSC.out _ ?hb).mono ?_); (case hb => (repeat (first | with_reducible exact Below.refl _ _ | with_reducible apply below_alloc | with_reducible apply pw_below_drewN | with_reducible apply below_drew1 | exact bd (Below.refl _ _) _ | exact (Below.refl _ _).drew))); rintro e2 x2 ⟨rfl, hx⟩; have HXY := am_ hx; clear hx)))
      refine wp_w (fun W => ∃ v, OutS w W k b g gh p A1 c1 A2 c2 x (outN p nl si) wv v (outL x p l si)) ?_ ?_
      · rw [HO.out, HON.out]
        exact ⟨_, HS.out.below HXY.out⟩
      clear k0 k1 k2 k3 k4 k5 k6 k7 k8 k9 k10 k11 k12 k13 k14 HXY HSC HO HON
      intro wz hz
      obtain ⟨vz, hz⟩ := hz
      obtain ⟨Az, cz, rfl⟩ := hz.slice
      obtain ⟨k0, k1, k2, k3, k4, k5, k6, k7, k8, k9, k10, k11, k12, k13, k14⟩ := c15 hz.hk
      obtain ⟨t0, t1, t2, t3⟩ := c4 hz.hg
      have u0 := fr_ hz.hg 0
      have u1 := fr_ hz.hg 1
      have u2 := fr_ hz.hg 2
      have u3 := fr_ hz.hg 3
      have HSZ := am_ hz
      clear hz
      go_wp2
      obtain ⟨f1, f2, f3, f4⟩ := HSZ.out.fin (.int .i64 0) (.int .i64 (-1)) (.bool false) (.slice Az (outL x p l si).length cz)
      exact bodyPost_ret (results_cell_row rfl _ _ g 48 #[.int .i64 0, .int .i64 (-1), .bool false, .slice Az (outL x p l si).length cz] (0, 0) _ rfl f1 Try.underlying48 rfl info48) rfl ⟨Az, cz, rfl, f2, f3, f4⟩
    · obtain ⟨val, hval⟩ : ∃ z, numV p.opts at_ = z := ⟨_, rfl⟩
      obtain ⟨ech, hech⟩ : ∃ z, numV p.opts (at_ + 4) = z := ⟨_, rfl⟩
      rw [hval, hech] at hst
      have hw24 : wrap64 (24 + (at_ : Int)) = 24 + (at_ : Int) := wid (by omega) (by have := HOL.out; omega)
      obtain ⟨pv, hpv⟩ : ∃ z, putC val ck = z := ⟨_, rfl⟩
      have hwpv : wrap64 pv = pv := by have := putC_b val ck; rw [hpv] at this; exact wid (by omega) (by omega)
      have HPU := am_ (fun W => hpv ▸ put_calls val ck W)
      obtain ⟨⟨y, xe⟩, hy2⟩ : ∃ r, writeR L1 (24 + (at_ : Int)) 4 pv = r := ⟨_, rfl⟩
      have HO := am_ (show outL x p l si = thenL L1 (y, xe) by unfold outL; rw [if_neg hkd, hst, if_pos rfl, HL1.out, HCKO.out, hpv, hy2])
      have HON := am_ (show outN p nl si = nl.set si (val, true) by unfold outN; rw [hst, if_pos ⟨hkd, rfl⟩])
      rw [hst] at HSC
      clear hkd hst hval hech hpv
      go_upto_region 8 with (first
        | (go_at_call 18; ((with_reducible refine (HSC.out _ ?hb).mono ?_); (case hb => (repeat (first | with_reducible exact Below.refl _ _ | with_reducible apply below_alloc | with_reducible apply pw_below_drewN | with_reducible apply below_drew1 | exact bd (Below.refl _ _) _ | exact (Below.refl _ _).drew))); rintro e2 x2 ⟨rfl, hx⟩; have HXY := am_ hx; clear hx)))
      refine wp_w (fun W => OutS w W k b g gh p A1 c1 A2 c2 x nl wv (.slice Ab4 L1.length cb4) L1) ?_ ?_
      · exact HS.out.below HXY.out
      clear k0 k1 k2 k3 k4 k5 k6 k7 k8 k9 k10 k11 k12 k13 k14 HXY HSC
      intro w5 h5
      replace HS := am_ h5
      rw [← hw24, ← hwpv] at hy2
      have HWR := am_ (write_at (W0 := w5) h5.rl.rw rfl H1L.out H1Y.out (wrap64 (24 + (at_ : Int))) 4 (wrap64 pv) hy2)
      replace HCK := am_ (fun W (h : Below w5.heap.size w5 W) => show W.cell? ⟨k, 14, none⟩ = some (.slice Ab4 L1.length cb4) from by
        obtain ⟨_, _, _, _, _, _, _, _, _, _, _, _, _, _, a14⟩ := c15 (h5.below h).hk
        exact a14)
      clear h5 hy2 hw24 hwpv
      replace HQc := am_ (Below.refl w5.heap.size w5).drew
      refine start_ (n := 15) (S := fun w' => w'.cell? ⟨k, 14, none⟩ = some (.slice Ab4 L1.length cb4)) (ds := [14]) #[fF,fF,fF,fF,fF,fF,fF,fF,fF,fF,fF,fF,fF,fF,fF] (by kernel_rfl) rfl rfl ((HCK.out _ HQc.out)) (fun hHeld => ?_)
      refine p_ 0 84 ?_
      refine p_ 1 85 ?_
      refine p_ 2 86 ?_
      refine p_ 3 87 ?_
      refine p_ 5 89 ?_
      refine p_ 6 90 ?_
      refine p_ 7 91 ?_
      refine p_ 8 92 ?_
      refine t_ 4 88 hHeld ?_
      refine o_ 9 (some 93) (fun K hK => ?_)
      refine g_ Try.func91 #[.int .u32 val, .int .i64 ck] ?_
      with_reducible refine (HPU.out _).mono ?_
      rintro e0 w30 ⟨rfl, hx⟩
      refine ⟨_, rfl, ?_⟩
      replace HQc := am_ (below_step HQc.out hx)
      clear hx
      refine hK.out _ _ ((HCK.out _ HQc.out)) (fun hHeld => ?_)
      clear hK K
      refine n_ 93 ?_
      refine p_ 10 94 ?_
      refine o_ 11 (some 95) (fun K hK => ?_)
      refine g_ Try.func83 #[.slice Ab4 L1.length cb4, .int .i64 (wrap64 (24 + (at_ : Int))), .int .i64 4, .int .i64 (wrap64 pv)] ?_
      with_reducible refine (HWR.out _ HQc.out).mono ?_
      rintro e1 w31 ⟨Ay, cy, rfl, hry, hx⟩
      refine ⟨_, rfl, ?_⟩
      replace HQc := am_ hx
      have HRY := am_ (OwnF.of hry HS.out.ltk HS.out.ltb)
      have HTH := am_ (then_calls Ay y.length cy xe (HS.out.below hx).hk)
      clear hry hx
      refine hK.out _ _ ((HCK.out _ HQc.out)) (fun hHeld => ?_)
      clear hK K
      refine n_ 95 ?_
      refine p_ 12 96 ?_
      refine p_ 13 97 ?_
      refine l_ 14 (some 98) (fun K hK => ?_)
      refine g_ Try.func41 #[.pointer (some ⟨k, 0, none⟩), .slice Ay y.length cy, .int .i64 xe] ?_
      with_reducible refine (HTH.out).mono ?_
      rintro e2 w32 ⟨rfl, hkk, hch⟩
      refine ⟨_, rfl, ?_⟩
      have HKK := am_ hkk
      have HCC := am_ hch
      clear hkk hch
      refine hK.out _ _ ?_
      clear hK K
      refine n_ 98 ?_
      refine done_ (by kernel_rfl) ?_
      go_upto_region 9 with fail
      refine wp_w (fun W => ∃ v, OutS w W k b g gh p A1 c1 A2 c2 x nl wv v (thenL L1 (y, xe))) ?_ ?_
      · exact (HS.out.below HQc.out).then_ HRY.out HKK.out rfl HCC.out
      intro w6 h6
      obtain ⟨v6, h6⟩ := h6
      replace HS := am_ h6
      have HLY := am_ (laynear_calls h6.hp HSI.out val)
      obtain ⟨k0, k1, k2, k3, k4, k5, k6, k7, k8, k9, k10, k11, k12, k13, k14⟩ := c15 h6.hk
      have hi0 : (0 : Int) ≤ (si : Int) := by omega
      have hi1 : (si : Int) < 64 := by have := HSI.out; omega
      clear h6 hHeld HKK HCC HRY HTH HWR HQc HCK
      go_upto_region 10 with (first
        | (go_at_call 92; ((with_reducible refine HLY.out.mono ?_); rintro e4 x4 ⟨rfl, hp, hc⟩; have HPN := am_ hp; have HCN := am_ hc; clear hp hc)))
      refine wp_w (fun W => ∃ v, OutS w W k b g gh p A1 c1 A2 c2 x (outN p nl si) wv v (outL x p l si)) ?_ ?_
      · rw [HO.out, HON.out]
        exact ⟨_, HS.out.near HPN.out HCN.out⟩
      clear k0 k1 k2 k3 k4 k5 k6 k7 k8 k9 k10 k11 k12 k13 k14 HPN HCN HLY HO HON
      intro wz hz
      obtain ⟨vz, hz⟩ := hz
      obtain ⟨Az, cz, rfl⟩ := hz.slice
      obtain ⟨k0, k1, k2, k3, k4, k5, k6, k7, k8, k9, k10, k11, k12, k13, k14⟩ := c15 hz.hk
      obtain ⟨t0, t1, t2, t3⟩ := c4 hz.hg
      have u0 := fr_ hz.hg 0
      have u1 := fr_ hz.hg 1
      have u2 := fr_ hz.hg 2
      have u3 := fr_ hz.hg 3
      have HSZ := am_ hz
      clear hz
      go_wp2
      obtain ⟨f1, f2, f3, f4⟩ := HSZ.out.fin (.int .i64 0) (.int .i64 (-1)) (.bool false) (.slice Az (outL x p l si).length cz)
      exact bodyPost_ret (results_cell_row rfl _ _ g 48 #[.int .i64 0, .int .i64 (-1), .bool false, .slice Az (outL x p l si).length cz] (0, 0) _ rfl f1 Try.underlying48 rfl info48) rfl ⟨Az, cz, rfl, f2, f3, f4⟩
def getC (v : Int) : Int := wrap64 (Go.bits .and .u32 v 1048575)
theorem get_calls (v : Int) (w : World) : Calls Try.prog 105 #[.int .u32 v] w fun e w' => e = .returned (.tuple #[.int .i64 (wrap64 (v / 1048576)), .int .i64 (getC v)]) ∧ Below w.heap.size w w' := by
  refine (cookie_Get.calls v _ _ w rfl).mono ?_
  rintro e w' ⟨rfl, ⟨⟨nd, rfl⟩⟩⟩
  exact ⟨rfl, bd (Below.refl _ w) nd⟩
theorem rd_calls (x : Po) (p : Pk) (f : Fl) (c : Int) {R : Int × Bool} (h : readC ⟨x.ep, x.k0, x.k1, x.k2⟩ p.kind f c = R) (W : World) :
    Calls Try.prog 24 #[.agg #[.int .i64 x.ep, .int .u64 x.k0.a, .int .u64 x.k0.b, .int .u64 x.k1.a, .int .u64 x.k1.b, .int .u64 x.k2.a, .int .u64 x.k2.b], .int .i64 p.kind, .agg #[.int .i64 f.ad, .int .i64 f.po, .int .i64 f.tad, .int .i64 f.tpo], .int .i64 c] W fun e w' => e = .returned (.tuple #[.int .i64 R.1, .bool R.2]) ∧ Below W.heap.size W w' := by
  subst h
  exact cread_calls ⟨x.ep, x.k0, x.k1, x.k2⟩ p.kind f c W
def carriedC (x : Po) (p : Pk) (f : Fl) : Int × Bool :=
  if p.kind = 2 then (if p.label = 0 then (0, false) else readC ⟨x.ep, x.k0, x.k1, x.k2⟩ p.kind f p.label)
  else if (stampL p.opts).2.2.2 = true ∧ p.flags ≠ 1 then readC ⟨x.ep, x.k0, x.k1, x.k2⟩ p.kind f (getC (stampL p.opts).2.2.1) else (0, false)
theorem carried_calls {p : Pk} {A1 A2 : Option Addr} {c1 c2 k b : Nat} {x : Po} {near : List Value} {wv v : Value} (f : Fl) {w : World} (hk : w.heap[k]? = some (.cells (pkA p A1 c1 A2 c2 b v) 101 (0, 0))) (hP : PlaneAt w b x true near wv)
    (ho : Rw w A1 c1 p.opts) (hoy : Bytes p.opts) (hol : p.opts.length ≤ 1000) :
    Calls Try.prog 85 #[.pointer (some ⟨k, 0, none⟩), .agg #[.int .i64 f.ad, .int .i64 f.po, .int .i64 f.tad, .int .i64 f.tpo]] w fun e w' => e = .returned (.tuple #[.int .i64 (carriedC x p f).1, .bool (carriedC x p f).2]) ∧ Below w.heap.size w w' := by
  obtain ⟨R, hR⟩ : ∃ r, carriedC x p f = r := ⟨_, rfl⟩
  rw [hR]
  have HRR := am_ hR
  have HK := am_ hk
  have HP := am_ hP
  have HRO := am_ ho
  have HOY := am_ hoy
  have HOL := am_ hol
  clear hk hP ho hoy hol hR
  obtain ⟨g, HG⟩ : ∃ g, w.heap.size = g := ⟨_, rfl⟩
  go_enter Try.func85, Try.ntmps85
  go_upto_region 1 with fail
  refine wp_w (fun W => W.heap[g]? = some (.cells #[.int .i64 f.ad, .int .i64 f.po, .int .i64 f.tad, .int .i64 f.tpo] 60 (0, 0)) ∧ Below w.heap.size w W) ?_ ?_
  · exact ⟨by rw [← HG]; exact new_blk w _, below_alloc (Below.refl _ w) _⟩
  intro w1 h1
  have HF1 := am_ h1.1
  have HB1 := am_ h1.2
  have HK1 := am_ (bk_ HK.out h1.2)
  obtain ⟨k0, k1, k2, k3, k4, k5, k6, k7, k8, k9, k10, k11, k12, k13, k14⟩ := c15 HK1.out
  obtain ⟨r0, r1, r2, r3, r4, r5, r6⟩ := (HP.out.below h1.2).ring
  clear h1
  obtain ⟨gr, hgr⟩ : ∃ n, w1.heap.size = n := ⟨_, rfl⟩
  go_upto_region 2 with fail
  refine wp_w (fun W => W.heap[gr]? = some (.cells #[.int .i64 x.ep, .int .u64 x.k0.a, .int .u64 x.k0.b, .int .u64 x.k1.a, .int .u64 x.k1.b, .int .u64 x.k2.a, .int .u64 x.k2.b] 32 (0, 0)) ∧ Below w1.heap.size w1 W) ?_ ?_
  · exact ⟨by rw [← hgr]; exact new_blk w1 _, below_alloc (Below.refl _ w1) _⟩
  intro w2 h2
  have HGR := am_ h2.1
  have HF2 := am_ (bk_ HF1.out h2.2)
  have HK2 := am_ (bk_ HK1.out h2.2)
  have HB2 := am_ (below_step HB1.out h2.2)
  clear h2 hgr HG k0 k1 k2 k3 k4 k5 k6 k7 k8 k9 k10 k11 k12 k13 k14 r0 r1 r2 r3 r4 r5 r6
  obtain ⟨k0, k1, k2, k3, k4, k5, k6, k7, k8, k9, k10, k11, k12, k13, k14⟩ := c15 HK2.out
  by_cases hkd : p.kind = 2
  · have hd : (p.kind == 2) = true := beq_iff_eq.mpr hkd
    by_cases hlb : p.label = 0
    · have hd2 : (p.label == 0) = true := beq_iff_eq.mpr hlb
      have HE := am_ (show (0, false) = R by rw [← HRR.out]; unfold carriedC; rw [if_pos hkd, if_pos hlb])
      clear hkd hlb
      go_wp2
      go_ret2
      exact ⟨by rw [← HE.out]; rfl, HB2.out⟩
    · have hd2 : (p.label == 0) = false := beq_eq_false_iff_ne.mpr hlb
      have HE := am_ (show readC ⟨x.ep, x.k0, x.k1, x.k2⟩ p.kind f p.label = R by rw [← HRR.out]; unfold carriedC; rw [if_pos hkd, if_neg hlb])
      have HRD := am_ (fun W => rd_calls x p f p.label HE.out W)
      have HCK := am_ (fun W (hW : Below w2.heap.size w2 W) => show W.cell? ⟨gr, 0, none⟩ = some (.int .i64 x.ep) ∧ W.cell? ⟨gr, 1, none⟩ = some (.int .u64 x.k0.a) ∧ W.cell? ⟨gr, 2, none⟩ = some (.int .u64 x.k0.b) ∧ W.cell? ⟨gr, 3, none⟩ = some (.int .u64 x.k1.a) ∧ W.cell? ⟨gr, 4, none⟩ = some (.int .u64 x.k1.b) ∧ W.cell? ⟨gr, 5, none⟩ = some (.int .u64 x.k2.a) ∧ W.cell? ⟨gr, 6, none⟩ = some (.int .u64 x.k2.b) ∧ W.cell? ⟨g, 0, none⟩ = some (.int .i64 f.ad) ∧ W.cell? ⟨g, 1, none⟩ = some (.int .i64 f.po) ∧ W.cell? ⟨g, 2, none⟩ = some (.int .i64 f.tad) ∧ W.cell? ⟨g, 3, none⟩ = some (.int .i64 f.tpo) ∧ W.cell? ⟨k, 0, none⟩ = some (.int .i64 p.kind) ∧ W.cell? ⟨k, 8, none⟩ = some (.int .i64 p.label) from by
        obtain ⟨a0, a1, a2, a3, a4, a5, a6, a7, a8, _⟩ := c15 (bk_ HK2.out hW)
        obtain ⟨q0, q1, q2, q3, q4, q5, q6⟩ := c7 (bk_ HGR.out hW)
        obtain ⟨e0, e1, e2, e3⟩ := c4 (bk_ HF2.out hW)
        exact ⟨q0, q1, q2, q3, q4, q5, q6, e0, e1, e2, e3, a0, a8⟩)
      clear hkd hlb
      go_upto_region 5 with fail
      clear k0 k1 k2 k3 k4 k5 k6 k7 k8 k9 k10 k11 k12 k13 k14
      have HQc := am_ (Below.refl w2.heap.size w2).drew
      refine start_ (n := 17) (S := fun w' => w'.cell? ⟨gr, 0, none⟩ = some (.int .i64 x.ep) ∧ w'.cell? ⟨gr, 1, none⟩ = some (.int .u64 x.k0.a) ∧ w'.cell? ⟨gr, 2, none⟩ = some (.int .u64 x.k0.b) ∧ w'.cell? ⟨gr, 3, none⟩ = some (.int .u64 x.k1.a) ∧ w'.cell? ⟨gr, 4, none⟩ = some (.int .u64 x.k1.b) ∧ w'.cell? ⟨gr, 5, none⟩ = some (.int .u64 x.k2.a) ∧ w'.cell? ⟨gr, 6, none⟩ = some (.int .u64 x.k2.b) ∧ w'.cell? ⟨g, 0, none⟩ = some (.int .i64 f.ad) ∧ w'.cell? ⟨g, 1, none⟩ = some (.int .i64 f.po) ∧ w'.cell? ⟨g, 2, none⟩ = some (.int .i64 f.tad) ∧ w'.cell? ⟨g, 3, none⟩ = some (.int .i64 f.tpo) ∧ w'.cell? ⟨k, 0, none⟩ = some (.int .i64 p.kind) ∧ w'.cell? ⟨k, 8, none⟩ = some (.int .i64 p.label)) (ds := []) #[fF,fF,fF,fF,fF,fF,fF,fF,fF,fF,fF,fF,fF,fF,fF,fF,fF] (by kernel_rfl) rfl rfl ⟨(HCK.out _ HQc.out).1, (HCK.out _ HQc.out).2.1, (HCK.out _ HQc.out).2.2.1, (HCK.out _ HQc.out).2.2.2.1, (HCK.out _ HQc.out).2.2.2.2.1, (HCK.out _ HQc.out).2.2.2.2.2.1, (HCK.out _ HQc.out).2.2.2.2.2.2.1, (HCK.out _ HQc.out).2.2.2.2.2.2.2.1, (HCK.out _ HQc.out).2.2.2.2.2.2.2.2.1, (HCK.out _ HQc.out).2.2.2.2.2.2.2.2.2.1, (HCK.out _ HQc.out).2.2.2.2.2.2.2.2.2.2.1, (HCK.out _ HQc.out).2.2.2.2.2.2.2.2.2.2.2.1, (HCK.out _ HQc.out).2.2.2.2.2.2.2.2.2.2.2.2⟩ (fun hHeld => ?_)
      refine p_ 1 35 ?_
      refine p_ 2 36 ?_
      refine p_ 3 37 ?_
      refine p_ 4 38 ?_
      refine p_ 7 41 ?_
      refine p_ 8 42 ?_
      refine p_ 9 43 ?_
      refine p_ 10 44 ?_
      refine t_ 0 34 hHeld ?_
      refine t_ 5 39 hHeld ?_
      refine t_ 6 40 hHeld ?_
      refine t_ 11 45 hHeld ?_
      refine o_ 12 (some 46) (fun K hK => ?_)
      refine g_ Try.func24 #[.agg #[.int .i64 x.ep, .int .u64 x.k0.a, .int .u64 x.k0.b, .int .u64 x.k1.a, .int .u64 x.k1.b, .int .u64 x.k2.a, .int .u64 x.k2.b], .int .i64 p.kind, .agg #[.int .i64 f.ad, .int .i64 f.po, .int .i64 f.tad, .int .i64 f.tpo], .int .i64 p.label] ?_
      with_reducible refine (HRD.out _).mono ?_
      rintro e1 w31 ⟨rfl, hx⟩
      refine ⟨_, rfl, ?_⟩
      replace HQc := am_ (below_step HQc.out hx)
      clear hx
      refine hK.out _ _ ⟨(HCK.out _ HQc.out).1, (HCK.out _ HQc.out).2.1, (HCK.out _ HQc.out).2.2.1, (HCK.out _ HQc.out).2.2.2.1, (HCK.out _ HQc.out).2.2.2.2.1, (HCK.out _ HQc.out).2.2.2.2.2.1, (HCK.out _ HQc.out).2.2.2.2.2.2.1, (HCK.out _ HQc.out).2.2.2.2.2.2.2.1, (HCK.out _ HQc.out).2.2.2.2.2.2.2.2.1, (HCK.out _ HQc.out).2.2.2.2.2.2.2.2.2.1, (HCK.out _ HQc.out).2.2.2.2.2.2.2.2.2.2.1, (HCK.out _ HQc.out).2.2.2.2.2.2.2.2.2.2.2.1, (HCK.out _ HQc.out).2.2.2.2.2.2.2.2.2.2.2.2⟩ (fun hHeld => ?_)
      clear hK K
      refine n_ 46 ?_
      refine p_ 13 47 ?_
      refine p_ 14 48 ?_
      refine p_ 15 4 ?_
      refine p_ 16 5 ?_
      refine done_ (by kernel_rfl) ?_
      go_wp2
      go_ret2
      exact ⟨rfl, below_step HB2.out HQc.out⟩
  · have hd : (p.kind == 2) = false := beq_eq_false_iff_ne.mpr hkd
    obtain ⟨⟨at_, val, ech, is⟩, hst⟩ : ∃ z, stampL p.opts = z := ⟨_, rfl⟩
    have HSC := am_ (fun W (hW : Below w2.heap.size w2 W) => stamp_calls (w := W) (HRO.out.below (below_step HB2.out hW)).rd rfl HRO.out.le HOL.out HOY.out)
    rw [hst] at HSC
    cases is with
    | false =>
      have HE := am_ (show (0, false) = R by rw [← HRR.out]; unfold carriedC; rw [if_neg hkd, hst, if_neg (fun h => by cases h.1)])
      clear hkd hst
      go_wp2_with (first
        | (go_at_call 18; ((with_reducible refine (HSC.out _ ?hb).mono ?_); (case hb => (repeat (first | with_reducible exact Below.refl _ _ | with_reducible apply below_alloc | with_reducible apply pw_below_drewN | with_reducible apply below_drew1 | exact bd (Below.refl _ _) _ | exact (Below.refl _ _).drew))); rintro e2 x2 ⟨rfl, hx⟩; have HXY := am_ hx; clear hx)))
      go_ret2
      exact ⟨by rw [← HE.out]; rfl, below_step HB2.out HXY.out⟩
    | true =>
      by_cases hfl : p.flags = 1
      · have hd2 : (p.flags == 1) = true := beq_iff_eq.mpr hfl
        have HE := am_ (show (0, false) = R by rw [← HRR.out]; unfold carriedC; rw [if_neg hkd, hst, if_neg (fun h => h.2 hfl)])
        clear hkd hst hfl
        go_wp2_with (first
          | (go_at_call 18; ((with_reducible refine (HSC.out _ ?hb).mono ?_); (case hb => (repeat (first | with_reducible exact Below.refl _ _ | with_reducible apply below_alloc | with_reducible apply pw_below_drewN | with_reducible apply below_drew1 | exact bd (Below.refl _ _) _ | exact (Below.refl _ _).drew))); rintro e2 x2 ⟨rfl, hx⟩; have HXY := am_ hx; obtain ⟨k0, k1, k2, k3, k4, k5, k6, k7, k8, k9, k10, k11, k12, k13, k14⟩ := c15 (bk_ HK2.out hx); clear hx)))
        go_ret2
        exact ⟨by rw [← HE.out]; rfl, below_step HB2.out HXY.out⟩
      · have hd2 : (p.flags == 1) = false := beq_eq_false_iff_ne.mpr hfl
        have HE := am_ (show readC ⟨x.ep, x.k0, x.k1, x.k2⟩ p.kind f (getC ech) = R by rw [← HRR.out]; unfold carriedC; rw [if_neg hkd, hst, if_pos ⟨rfl, hfl⟩])
        have HGT := am_ (fun W => get_calls ech W)
        obtain ⟨cq, hcq⟩ : ∃ z, getC ech = z := ⟨_, rfl⟩
        rw [hcq] at HE HGT
        have HRD := am_ (fun W => rd_calls x p f cq HE.out W)
        clear hkd hst hfl hcq
        go_upto_region 10 with (first
          | (go_at_call 18; ((with_reducible refine (HSC.out _ ?hb).mono ?_); (case hb => (repeat (first | with_reducible exact Below.refl _ _ | with_reducible apply below_alloc | with_reducible apply pw_below_drewN | with_reducible apply below_drew1 | exact bd (Below.refl _ _) _ | exact (Below.refl _ _).drew))); rintro e2 x2 ⟨rfl, hx⟩; have HXY := am_ hx; obtain ⟨k0, k1, k2, k3, k4, k5, k6, k7, k8, k9, k10, k11, k12, k13, k14⟩ := c15 (bk_ HK2.out hx); clear hx))
          | (go_at_call 105; ((with_reducible refine (HGT.out _).mono ?_); rintro e3 x3 ⟨rfl, hx⟩; have HXZ := am_ (below_step HXY.out hx); clear hx)))
        refine wp_w (fun W => Below w2.heap.size w2 W) ?_ ?_
        · exact HXZ.out
        intro w5 h5
        have HCK := am_ (fun W (hW : Below w5.heap.size w5 W) => show W.cell? ⟨gr, 0, none⟩ = some (.int .i64 x.ep) ∧ W.cell? ⟨gr, 1, none⟩ = some (.int .u64 x.k0.a) ∧ W.cell? ⟨gr, 2, none⟩ = some (.int .u64 x.k0.b) ∧ W.cell? ⟨gr, 3, none⟩ = some (.int .u64 x.k1.a) ∧ W.cell? ⟨gr, 4, none⟩ = some (.int .u64 x.k1.b) ∧ W.cell? ⟨gr, 5, none⟩ = some (.int .u64 x.k2.a) ∧ W.cell? ⟨gr, 6, none⟩ = some (.int .u64 x.k2.b) ∧ W.cell? ⟨g, 0, none⟩ = some (.int .i64 f.ad) ∧ W.cell? ⟨g, 1, none⟩ = some (.int .i64 f.po) ∧ W.cell? ⟨g, 2, none⟩ = some (.int .i64 f.tad) ∧ W.cell? ⟨g, 3, none⟩ = some (.int .i64 f.tpo) ∧ W.cell? ⟨k, 0, none⟩ = some (.int .i64 p.kind) from by
          have hW2 := below_step h5 hW
          obtain ⟨a0, a1, a2, a3, a4, a5, a6, a7, a8, _⟩ := c15 (bk_ HK2.out hW2)
          obtain ⟨q0, q1, q2, q3, q4, q5, q6⟩ := c7 (bk_ HGR.out hW2)
          obtain ⟨e0, e1, e2, e3⟩ := c4 (bk_ HF2.out hW2)
          exact ⟨q0, q1, q2, q3, q4, q5, q6, e0, e1, e2, e3, a0⟩)
        have HB5 := am_ (below_step HB2.out h5)
        clear h5 k0 k1 k2 k3 k4 k5 k6 k7 k8 k9 k10 k11 k12 k13 k14
        have HQc := am_ (Below.refl w5.heap.size w5).drew
        refine start_ (n := 13) (S := fun w' => w'.cell? ⟨gr, 0, none⟩ = some (.int .i64 x.ep) ∧ w'.cell? ⟨gr, 1, none⟩ = some (.int .u64 x.k0.a) ∧ w'.cell? ⟨gr, 2, none⟩ = some (.int .u64 x.k0.b) ∧ w'.cell? ⟨gr, 3, none⟩ = some (.int .u64 x.k1.a) ∧ w'.cell? ⟨gr, 4, none⟩ = some (.int .u64 x.k1.b) ∧ w'.cell? ⟨gr, 5, none⟩ = some (.int .u64 x.k2.a) ∧ w'.cell? ⟨gr, 6, none⟩ = some (.int .u64 x.k2.b) ∧ w'.cell? ⟨g, 0, none⟩ = some (.int .i64 f.ad) ∧ w'.cell? ⟨g, 1, none⟩ = some (.int .i64 f.po) ∧ w'.cell? ⟨g, 2, none⟩ = some (.int .i64 f.tad) ∧ w'.cell? ⟨g, 3, none⟩ = some (.int .i64 f.tpo) ∧ w'.cell? ⟨k, 0, none⟩ = some (.int .i64 p.kind)) (ds := []) #[fF,fF,fF,fF,fF,fF,fF,fF,fF,fF,fF,fF,fF] (by kernel_rfl) rfl rfl ⟨(HCK.out _ HQc.out).1, (HCK.out _ HQc.out).2.1, (HCK.out _ HQc.out).2.2.1, (HCK.out _ HQc.out).2.2.2.1, (HCK.out _ HQc.out).2.2.2.2.1, (HCK.out _ HQc.out).2.2.2.2.2.1, (HCK.out _ HQc.out).2.2.2.2.2.2.1, (HCK.out _ HQc.out).2.2.2.2.2.2.2.1, (HCK.out _ HQc.out).2.2.2.2.2.2.2.2.1, (HCK.out _ HQc.out).2.2.2.2.2.2.2.2.2.1, (HCK.out _ HQc.out).2.2.2.2.2.2.2.2.2.2.1, (HCK.out _ HQc.out).2.2.2.2.2.2.2.2.2.2.2⟩ (fun hHeld => ?_)
        refine p_ 1 76 ?_
        refine p_ 2 77 ?_
        refine p_ 3 78 ?_
        refine p_ 4 79 ?_
        refine p_ 7 82 ?_
        refine t_ 0 75 hHeld ?_
        refine t_ 5 80 hHeld ?_
        refine t_ 6 81 hHeld ?_
        refine o_ 8 (some 83) (fun K hK => ?_)
        refine g_ Try.func24 #[.agg #[.int .i64 x.ep, .int .u64 x.k0.a, .int .u64 x.k0.b, .int .u64 x.k1.a, .int .u64 x.k1.b, .int .u64 x.k2.a, .int .u64 x.k2.b], .int .i64 p.kind, .agg #[.int .i64 f.ad, .int .i64 f.po, .int .i64 f.tad, .int .i64 f.tpo], .int .i64 cq] ?_
        with_reducible refine (HRD.out _).mono ?_
        rintro e1 w31 ⟨rfl, hx⟩
        refine ⟨_, rfl, ?_⟩
        replace HQc := am_ (below_step HQc.out hx)
        clear hx
        refine hK.out _ _ ⟨(HCK.out _ HQc.out).1, (HCK.out _ HQc.out).2.1, (HCK.out _ HQc.out).2.2.1, (HCK.out _ HQc.out).2.2.2.1, (HCK.out _ HQc.out).2.2.2.2.1, (HCK.out _ HQc.out).2.2.2.2.2.1, (HCK.out _ HQc.out).2.2.2.2.2.2.1, (HCK.out _ HQc.out).2.2.2.2.2.2.2.1, (HCK.out _ HQc.out).2.2.2.2.2.2.2.2.1, (HCK.out _ HQc.out).2.2.2.2.2.2.2.2.2.1, (HCK.out _ HQc.out).2.2.2.2.2.2.2.2.2.2.1, (HCK.out _ HQc.out).2.2.2.2.2.2.2.2.2.2.2⟩ (fun hHeld => ?_)
        clear hK K
        refine n_ 83 ?_
        refine p_ 9 84 ?_
        refine p_ 10 85 ?_
        refine p_ 11 4 ?_
        refine p_ 12 5 ?_
        refine done_ (by kernel_rfl) ?_
        go_wp2
        go_ret2
        exact ⟨rfl, below_step HB5.out HQc.out⟩
theorem may3 (st a b c d x y z : Int) : pool_may.f 6 st a b c d [x, y, z] = some (decide (st = x ∨ st = y ∨ st = z)) := by
  have w1 : wrap64 (0 + 1) = 1 := wid (by decide) (by decide)
  have w2 : wrap64 (1 + 1) = 2 := wid (by decide) (by decide)
  have w3 : wrap64 (2 + 1) = 3 := wid (by decide) (by decide)
  have r0 : rd [x, y, z] 0 = x := rfl
  have r1 : rd [x, y, z] 1 = y := rfl
  have r2 : rd [x, y, z] 2 = z := rfl
  simp only [pool_may.f, pool_may.l0, w1, w2, w3, r0, r1, r2]
  by_cases h : st = x <;> by_cases h2 : st = y <;> by_cases h3 : st = z <;> simp [h, h2, h3]
def takesB (st : Int) : Bool := decide (st = 1 ∨ st = 2 ∨ st = 3)
theorem takes_calls (st a b c d : Int) (w : World) : Calls Try.prog 86 #[.agg #[.int .i64 st, .int .i64 a, .int .i64 b, .int .i64 c, .int .i64 d]] w fun e w' => e = .returned (.bool (takesB st)) ∧ Below w.heap.size w w' :=
  pool_Takes.calls 6 st a b c d (takesB st) w (by
    show (pool_may.f 6 st a b c d [1, 2, 3]).bind _ = _
    rw [may3]
    rfl)
def backC (e near : Int) : Int := (cookie_Back.f e near).getD 0
theorem back_some (e near : Int) : cookie_Back.f e near = some (backC e near) ∧ 0 ≤ backC e near ∧ backC e near ≤ 4294967295 := by
  unfold backC cookie_Back.f cookie_Get.f opts_Far.f
  simp only [Option.bind_some]
  split
  · refine ⟨rfl, ?_, ?_⟩ <;> simp only [Option.getD_some] <;> omega
  · split
    · refine ⟨rfl, ?_, ?_⟩ <;> simp only [Option.getD_some] <;> omega
    · refine ⟨rfl, ?_, ?_⟩ <;> simp only [Option.getD_some] <;> omega
theorem back_calls (e near : Int) (w : World) : Calls Try.prog 89 #[.int .u32 e, .int .u32 near] w fun e' w' => e' = .returned (.int .u32 (backC e near)) ∧ Below w.heap.size w w' := by
  refine (cookie_Back.calls e near _ w (back_some e near).1).mono ?_
  rintro e' w' ⟨rfl, ⟨⟨nd, rfl⟩⟩⟩
  exact ⟨rfl, bd (Below.refl _ w) nd⟩
theorem carried_b (x : Po) (p : Pk) (f : Fl) : 0 ≤ (carriedC x p f).1 ∧ (carriedC x p f).1 ≤ 63 := by
  unfold carriedC
  split
  · split
    · simp
    · exact readC_b _ _ _ _
  · split
    · exact readC_b _ _ _ _
    · simp
/-- The slot that a packet goes in to (none: below 0), and if its cookie says so. -/
def inS (x : Po) (p : Pk) : Int × Bool :=
  let c := carriedC x p ⟨p.frm, p.fp, x.ad, x.po⟩
  if (c.2 && takesB (x.s c.1.toNat).st) = true then (c.1, true) else (rd (wheelL x) (spunL 127 [3, p.frm, p.fp, x.ad, x.po]), false)
def in1 (x : Po) (l : List Int) (s : Nat) : List Int := thenL l (natR l false (x.s s).ad (x.s s).po)
/-- The bytes that go in to a slot. -/
def inL (x : Po) (p : Pk) (nl : List (Int × Bool)) (l : List Int) (s : Nat) : List Int :=
  if (stampL p.opts).2.2.2 = true ∧ (stampL p.opts).2.2.1 ≠ 0 then
    thenL (in1 x l s) (writeR (in1 x l s) (24 + (stampL p.opts).1 + 4) 4 (if (nl.getD s (0, false)).2 = true then backC (stampL p.opts).2.2.1 (nl.getD s (0, false)).1 else 0))
  else in1 x l s
theorem wheel_b {p : Po} (f : Fl) : -1 ≤ rd (wheelL p) (spunL 127 [3, f.ad, f.po, f.tad, f.tpo]) ∧ rd (wheelL p) (spunL 127 [3, f.ad, f.po, f.tad, f.tpo]) < 64 := by
  have h := spun_b 127 [3, f.ad, f.po, f.tad, f.tpo] (by decide) (by decide)
  obtain ⟨i, hi⟩ := Int.eq_ofNat_of_zero_le h.1
  rw [hi, rd_nat]
  unfold wheelL
  split
  · rw [List.getD_eq_getElem?_getD, List.getElem?_replicate, if_pos (by omega)]
    simp
  · rename_i hn
    have hr := run_ok (wksL_ok p 64 0 (by omega)) hn 127 (by omega)
    have hi2 : i < (runW (wksL p 64 0) 127).1.length := by rw [hr.len]; omega
    rw [List.getD_eq_getElem?_getD, List.getElem?_eq_getElem hi2]
    exact hr.val _ (List.getElem_mem hi2)
theorem in_calls {p : Pk} {A1 A2 : Option Addr} {c1 c2 k b : Nat} {x : Po} {nl : List (Int × Bool)} {Aw : Option Addr} {cw : Nat} {Ab : Option Addr} {cb : Nat} {l : List Int} {w : World}
    (hk : w.heap[k]? = some (.cells (pkA p A1 c1 A2 c2 b (.slice Ab l.length cb)) 101 (0, 0))) (hP : PlaneAt w b x true (nearV nl) (.slice Aw 127 cw)) (hne : k ≠ b) (hw : Kd.C (Kd.int .i64) w Aw 127 (wheelL x)) (hcw : 127 ≤ cw)
    (ho : OwnF k b w (.slice A1 p.opts.length c1) p.opts) (hr : OwnF k b w (.slice Ab l.length cb) l) (hly : Bytes l) (hll : l.length ≤ 10000) (hoy : Bytes p.opts) (hol : p.opts.length ≤ 1000)
    (hkd : p.kind = 1 ∨ (p.kind = 2 ∧ p.opts = [])) (h1 : ∀ s : Nat, s < 64 → Bytes (in1 x l s) ∧ (in1 x l s).length ≤ 10000) {R : Int × Bool} (hR : inS x p = R) :
    Calls Try.prog 44 #[.pointer (some ⟨k, 0, none⟩)] w fun e w' => (R.1 < 0 ∧ e = .returned (.agg #[.int .i64 9, .int .i64 (-1), .bool false, .slice none 0 0]) ∧ Frm k b w w') ∨
      ∃ A c, e = .returned (.agg #[.int .i64 0, .int .i64 R.1, .bool R.2, .slice A (inL x p nl l R.1.toNat).length c]) ∧ OwnF k b w' (.slice A (inL x p nl l R.1.toNat).length c) (inL x p nl l R.1.toNat) ∧ PlaneAt w' b x true (nearV nl) (.slice Aw 127 cw) ∧ Frm k b w w' ∧ 0 ≤ R.1 := by
  have HKD := am_ hkd
  have HH1 := am_ h1
  have HWH := am_ (fun W (hW : Below w.heap.size w W) => Kd.C_below hw hW)
  have HCW := am_ hcw
  have HNT0 := am_ (fun (W0 : World) (h0 : Rw W0 Ab cb l) (sa sp : Int) (y : List Int) (xe : Int) (hy : natR l false sa sp = (y, xe)) => nat_at h0 rfl hll hly false sa sp hy)
  have HOY := am_ hoy
  have HOL := am_ hol
  have HL := am_ hP.2.1
  have HIN := am_ (fun (W : World) (g gh : Nat) (hb : Below w.heap.size w W) (hg : W.heap[g]? = some (.cells #[.int .i64 0, .int .i64 0, .bool false, .slice none 0 0] 48 (0, 0))) (hh : PoolAt W gh x) (hle : w.heap.size ≤ g) (hlt : g < gh) =>
    (⟨bk_ hk hb, hP.below hb, hg, hh, ho.frm (Frm.of_below hb), hr.frm (Frm.of_below hb), Frm.of_below hb, hne, blk_lt hk, blk_lt hP.2.2, hle, hlt⟩ : OutS w W k b g gh p A1 c1 A2 c2 x nl (.slice Aw 127 cw) (.slice Ab l.length cb) l))
  have HK := am_ hk
  have HP := am_ hP
  obtain ⟨⟨s0, is0⟩, hcar⟩ : ∃ z, carriedC x p ⟨p.frm, p.fp, x.ad, x.po⟩ = z := ⟨_, rfl⟩
  have hcb := carried_b x p ⟨p.frm, p.fp, x.ad, x.po⟩
  rw [hcar] at hcb
  obtain ⟨i0, rfl⟩ := Int.eq_ofNat_of_zero_le hcb.1
  have HI0 := am_ (show i0 < 64 by have := hcb.2; simp only at this; omega)
  obtain ⟨⟨st, ta, tp, tw, tq⟩, hss⟩ : ∃ z, x.s i0 = z := ⟨_, rfl⟩
  have HSS := am_ hss
  obtain ⟨is1, hi1⟩ : ∃ z, (is0 && takesB st) = z := ⟨_, rfl⟩
  have HI1 := am_ hi1
  obtain ⟨sv, hsv⟩ : ∃ z, rd (wheelL x) (spunL 127 [3, p.frm, p.fp, x.ad, x.po]) = z := ⟨_, rfl⟩
  have HSV := am_ hsv
  have HSB := am_ (show -1 ≤ sv ∧ sv < 64 by rw [← hsv]; exact wheel_b (p := x) ⟨p.frm, p.fp, x.ad, x.po⟩)
  have HRR := am_ (show R = (if is1 = true then (i0 : Int) else sv, is1) by
    rw [← hR]
    unfold inS
    rw [hcar]
    simp only [Int.toNat_natCast, hss, hi1, hsv]
    cases is1 <;> rfl)
  have HTK := am_ (fun W => takes_calls st ta tp tw tq W)
  clear hk hP hne hw hcw ho hr hly hll hoy hol hkd h1 hR hcb hss hi1 hsv
  obtain ⟨g, HG⟩ : ∃ g, w.heap.size = g := ⟨_, rfl⟩
  have HGE := am_ (Nat.le_of_eq HG)
  have HCAR := am_ hcar
  clear hcar
  go_enter Try.func44, Try.ntmps44
  go_upto_region 1 with fail
  refine wp_w (fun W => W.heap[g]? = some (.cells #[.int .i64 0, .int .i64 0, .bool false, .slice none 0 0] 48 (0, 0)) ∧ Below w.heap.size w W) ?_ ?_
  · exact ⟨(box_at w HG _).1, (box_at w HG _).2.1⟩
  intro w1 h1
  have HR1 := am_ h1.1
  have HB1 := am_ h1.2
  have HP1 := am_ (HP.out.below h1.2)
  obtain ⟨k0, k1, k2, k3, k4, k5, k6, k7, k8, k9, k10, k11, k12, k13, k14⟩ := c15 (bk_ HK.out h1.2)
  clear h1 HG
  go_upto_region 2 with (first
    | ((with_reducible refine gate_dst (N := 22) rfl ?_); (refine plane_load rfl rfl rfl HP1.out ?_))
    | ((with_reducible refine gate_dst (N := 3) rfl ?_); refine pool_alloc rfl rfl ?_; intro gh hg3 w3 hp3 hb3 hs3; have HP3 := am_ hp3; have HB3 := am_ hb3; have HG3 := am_ hg3; clear hp3 hb3 hs3 hg3)
    | ((with_reducible refine gate_store (t := 34) (p := 3) rfl ?_); refine pool_store (q := x) rfl rfl rfl rfl rfl HP3.out Po.z_len HL.out ?_; intro w4 hp4 hc4; have HP4 := am_ hp4; have HC4 := am_ hc4; clear hp4 hc4))
  refine wp_w (fun W => OutS w W k b g gh p A1 c1 A2 c2 x nl (.slice Aw 127 cw) (.slice Ab l.length cb) l ∧ Below w.heap.size w W) ?_ ?_
  · have hb := Chg.step HB3.out HC4.out (Nat.le_of_eq HG3.out)
    exact ⟨HIN.out _ g gh (below_step HB1.out hb) (bk_ HR1.out hb) HP4.out HGE.out (by rw [← HG3.out]; exact blk_lt HR1.out), below_step HB1.out hb⟩
  intro w2 h2
  have HS := am_ h2.1
  have HBX2 := am_ h2.2
  obtain ⟨k0, k1, k2, k3, k4, k5, k6, k7, k8, k9, k10, k11, k12, k13, k14⟩ := c15 HS.out.hk
  obtain ⟨h0, h1, h2⟩ := HS.out.hh.head
  have hk0 := HS.out.ltk
  have hg0 := blk_lt HS.out.hh
  obtain ⟨g4, hg4⟩ : ∃ n, w2.heap.size = n := ⟨_, rfl⟩
  have hg4d : w2.drew.heap.size = g4 := hg4
  go_upto_region 2 with fail
  refine start_ (n := 17) (S := fun w' => w'.cell? ⟨k, 3, none⟩ = some (.int .i64 p.frm) ∧ w'.cell? ⟨k, 5, none⟩ = some (.int .i64 p.fp) ∧ w'.cell? ⟨gh, 1, none⟩ = some (.int .i64 x.ad) ∧ w'.cell? ⟨gh, 2, none⟩ = some (.int .i64 x.po)) (ds := [16]) #[fF,fF,fF,fF,fF,fF,fF,fF,fF,fF,fF,fF,fF,fF,fF,fF,fF] (by kernel_rfl) rfl rfl ⟨k3, k5, h1, h2⟩ (fun hHeld => ?_)
  refine p_ 0 23 ?_
  refine p_ 1 24 ?_
  refine p_ 2 25 ?_
  refine p_ 3 26 ?_
  refine p_ 5 28 ?_
  refine p_ 6 29 ?_
  refine p_ 7 30 ?_
  refine p_ 8 31 ?_
  refine p_ 10 33 ?_
  refine p_ 12 35 ?_
  refine t_ 4 27 hHeld ?_
  refine t_ 9 32 hHeld ?_
  refine t_ 11 34 hHeld ?_
  refine t_ 13 36 hHeld ?_
  refine p_ 14 37 ?_
  refine o_ 15 (some 4) (fun K hK => ?_)
  refine value_ (w1 := ?_) (v := ?_) (by rfl) rfl ?_ ?_
  rotate_left 2
  · go_simp
    constructor
    · rfl
    · rfl
  refine hK.out _ _ ⟨((World.cell?_alloc_lt w2 _ _ hk0).trans k3), ((World.cell?_alloc_lt w2 _ _ hk0).trans k5), ((World.cell?_alloc_lt w2 _ _ hg0).trans h1), ((World.cell?_alloc_lt w2 _ _ hg0).trans h2)⟩ (fun hHeld => ?_)
  clear hK K
  refine n_ 4 ?_
  refine l_ 16 none (fun K hK => ?_)
  refine s_ ?_
  refine hK.out _ _ ?_
  clear hK K
  refine done_ (by kernel_rfl) ?_
  go_upto_region 3 with fail
  refine wp_w (fun W => W.heap[g4]? = some (.cells #[.int .i64 p.frm, .int .i64 p.fp, .int .i64 x.ad, .int .i64 x.po] 60 (0, 0)) ∧ Below w2.heap.size w2 W) ?_ ?_
  · first
      | exact ⟨by rw [← hg4]; exact new_blk w2 _, below_alloc (Below.refl _ w2) _⟩
      | exact ⟨by rw [← hg4]; exact new_blk w2.drew _, below_alloc (Below.refl _ w2).drew _⟩
  intro w3 h3
  have HF3 := am_ h3.1
  replace HS := am_ (HS.out.below h3.2)
  have HBX3 := am_ (below_step HBX2.out h3.2)
  obtain ⟨j0, j1, j2, j3⟩ := c4 h3.1
  have HCA := am_ (fun W (hW : Below w3.heap.size w3 W) => show Calls Try.prog 85 #[.pointer (some ⟨k, 0, none⟩), .agg #[.int .i64 p.frm, .int .i64 p.fp, .int .i64 x.ad, .int .i64 x.po]] W fun e w' => e = .returned (.tuple #[.int .i64 (i0 : Int), .bool is0]) ∧ Below W.heap.size W w' from by
    have h := carried_calls ⟨p.frm, p.fp, x.ad, x.po⟩ (HS.out.below hW).hk (HS.out.below hW).hp (HS.out.below hW).ro.rw HOY.out HOL.out
    rw [HCAR.out] at h
    exact h)
  clear h3 hg4 hg4d hk0 hg0 h0 h1 h2 k0 k1 k2 k3 k4 k5 k6 k7 k8 k9 k10 k11 k12 k13 k14 HP3 HB3 HG3 HP4 HC4 HR1 HB1 HP1 HIN HK HP
  go_upto_region 4 with (first | (go_at_call 85; ((with_reducible refine (HCA.out _ ?hb).mono ?_); (case hb => (repeat (first | with_reducible exact Below.refl _ _ | with_reducible apply below_alloc | with_reducible apply pw_below_drewN | with_reducible apply below_drew1 | exact bd (Below.refl _ _) _ | exact (Below.refl _ _).drew))); rintro e1 x1 ⟨rfl, hx⟩; have HX1 := am_ hx; clear hx)))
  refine wp_w (fun W => W.heap[g4]? = some (.cells #[.int .i64 p.frm, .int .i64 p.fp, .int .i64 x.ad, .int .i64 x.po] 60 (0, 0)) ∧ OutS w W k b g gh p A1 c1 A2 c2 x nl (.slice Aw 127 cw) (.slice Ab l.length cb) l ∧ Below w.heap.size w W) ?_ ?_
  · exact ⟨bk_ HF3.out HX1.out, HS.out.below HX1.out, below_step HBX3.out HX1.out⟩
  intro w4 h4
  have HF4 := am_ h4.1
  replace HS := am_ h4.2.1
  have HBX4 := am_ h4.2.2
  obtain ⟨d0, d1, d2, d3, d4⟩ := HS.out.hh.slot HL.out HI0.out
  rw [HSS.out] at d0 d1 d2 d3 d4
  have hi0 : (0 : Int) ≤ (i0 : Int) := by omega
  have hi1 : (i0 : Int) < 64 := by have := HI0.out; omega
  clear h4 HX1 HCA j0 j1 j2 j3 HF3 HBX3 HBX2
  go_cut [6] (fun s6 wx => s6 = .bool is1 ∧ Aside (Below w4.heap.size w4 wx))
  case first =>
    cases is0 with
    | false =>
      obtain rfl : false = is1 := HI1.out
      go_wp2
      go_meet
      exact ⟨rfl, (by exact Below.refl _ _)⟩
    | true =>
      obtain rfl : takesB st = is1 := HI1.out
      go_wp2_with (first | (go_at_call 86; ((with_reducible refine (HTK.out _).mono ?_); rintro e2 x2 ⟨rfl, hx⟩; have HX2 := am_ hx; clear hx)))
      go_meet
      exact ⟨rfl, (by exact HX2.out)⟩
  case rest =>
  obtain ⟨rfl, hw4⟩ := hcut
  rename World => w5
  have HF5 := am_ (bk_ HF4.out hw4.out)
  replace HS := am_ (HS.out.below hw4.out)
  have HBX5 := am_ (below_step HBX4.out hw4.out)
  clear hw4 d0 d1 d2 d3 d4 hi0 hi1 HF4 HBX4
  go_upto_if 53 with fail
  go_cut [5] (fun s5 wx => s5 = .int .i64 (if is1 = true then (i0 : Int) else sv) ∧ Aside (Below w5.heap.size w5 wx))
  case first =>
    cases is1 with
    | true =>
      go_wp2
      go_meet
      exact ⟨rfl, (by exact Below.refl _ _)⟩
    | false =>
      have HPK := am_ (fun W (hW : Below w5.heap.size w5 W) => show Calls Try.prog 82 #[.slice Aw 127 cw, .agg #[.int .i64 p.frm, .int .i64 p.fp, .int .i64 x.ad, .int .i64 x.po]] W fun e w' => e = .returned (.int .i64 sv) ∧ Below W.heap.size W w' from by
        have h := pick_calls ⟨p.frm, p.fp, x.ad, x.po⟩ (w := W) (HWH.out W (below_step HBX5.out hW)) (HWH.out W (below_step HBX5.out hW)).1 HCW.out rfl
        simp only at h
        rw [HSV.out] at h
        exact h)
      have HCK := am_ (fun W (hW : Below w5.heap.size w5 W) => show W.cell? ⟨k, 13, none⟩ = some (.pointer (some ⟨b, 0, none⟩)) ∧ W.cell? ⟨b, 459, none⟩ = some (.slice Aw 127 cw) ∧ W.cell? ⟨g4, 0, none⟩ = some (.int .i64 p.frm) ∧ W.cell? ⟨g4, 1, none⟩ = some (.int .i64 p.fp) ∧ W.cell? ⟨g4, 2, none⟩ = some (.int .i64 x.ad) ∧ W.cell? ⟨g4, 3, none⟩ = some (.int .i64 x.po) from by
        have hs := HS.out.below hW
        obtain ⟨_, _, _, _, _, _, _, _, _, _, _, _, _, a13, _⟩ := c15 hs.hk
        obtain ⟨e0, e1, e2, e3⟩ := c4 (bk_ HF5.out hW)
        exact ⟨a13, hs.hp.c_w, e0, e1, e2, e3⟩)
      have HQc := am_ (Below.refl w5.heap.size w5).drew
      go_upto_region 6 with fail
      refine start_ (n := 10) (S := fun w' => w'.cell? ⟨k, 13, none⟩ = some (.pointer (some ⟨b, 0, none⟩)) ∧ w'.cell? ⟨b, 459, none⟩ = some (.slice Aw 127 cw) ∧ w'.cell? ⟨g4, 0, none⟩ = some (.int .i64 p.frm) ∧ w'.cell? ⟨g4, 1, none⟩ = some (.int .i64 p.fp) ∧ w'.cell? ⟨g4, 2, none⟩ = some (.int .i64 x.ad) ∧ w'.cell? ⟨g4, 3, none⟩ = some (.int .i64 x.po)) (ds := []) #[fF,fF,fF,fF,fF,fF,fF,fF,fF,fF] (by kernel_rfl) rfl rfl ⟨(HCK.out _ HQc.out).1, (HCK.out _ HQc.out).2.1, (HCK.out _ HQc.out).2.2.1, (HCK.out _ HQc.out).2.2.2.1, (HCK.out _ HQc.out).2.2.2.2.1, (HCK.out _ HQc.out).2.2.2.2.2⟩ (fun hHeld => ?_)
      refine p_ 0 54 ?_
      refine p_ 1 55 ?_
      refine p_ 2 56 ?_
      refine t_ 3 57 hHeld ?_
      refine p_ 4 58 ?_
      refine p_ 5 59 ?_
      refine t_ 6 60 hHeld ?_
      refine t_ 7 61 hHeld ?_
      refine o_ 8 (some 62) (fun K hK => ?_)
      refine g_ Try.func82 #[.slice Aw 127 cw, .agg #[.int .i64 p.frm, .int .i64 p.fp, .int .i64 x.ad, .int .i64 x.po]] ?_
      with_reducible refine (HPK.out _ HQc.out).mono ?_
      rintro e2 w31 ⟨rfl, hx⟩
      refine ⟨_, rfl, ?_⟩
      replace HQc := am_ (below_step HQc.out hx)
      clear hx
      refine hK.out _ _ ⟨(HCK.out _ HQc.out).1, (HCK.out _ HQc.out).2.1, (HCK.out _ HQc.out).2.2.1, (HCK.out _ HQc.out).2.2.2.1, (HCK.out _ HQc.out).2.2.2.2.1, (HCK.out _ HQc.out).2.2.2.2.2⟩ (fun hHeld => ?_)
      clear hK K
      refine n_ 62 ?_
      refine p_ 9 5 ?_
      refine done_ (by kernel_rfl) ?_
      go_wp2
      go_meet
      exact ⟨rfl, (by exact HQc.out)⟩
  case rest =>
  obtain ⟨rfl, hw5⟩ := hcut
  rename World => w6
  replace HS := am_ (HS.out.below hw5.out)
  obtain ⟨sl, hsl⟩ : ∃ z, (if is1 = true then (i0 : Int) else sv) = z := ⟨_, rfl⟩
  have HRS := am_ (show R = (sl, is1) by rw [HRR.out, hsl])
  have HSL := am_ (show -1 ≤ sl ∧ sl < 64 by
    rw [← hsl]
    have h1 := HSB.out
    have h2 := HI0.out
    cases is1
    · exact h1
    · exact ⟨by show -1 ≤ (i0 : Int); omega, by show (i0 : Int) < 64; omega⟩)
  rw [hsl]
  clear hw5 hsl HF5 HBX5 HTK HRR HCAR HSB HSV HI1 HI0 HSS
  by_cases hneg : sl < 0
  · have hd : decide (sl < 0) = true := decide_eq_true hneg
    have HDR := am_ (fun W => drop_calls 9 W)
    have HNG := am_ hneg
    clear hneg
    go_wp2_with (first
      | (go_at_call 40; ((with_reducible refine (HDR.out _).mono ?_); rintro e3 x3 ⟨rfl, hx⟩; have HS8 := am_ (HS.out.below hx); obtain ⟨t0, t1, t2, t3⟩ := c4 HS8.out.hg; have u0 := fr_ HS8.out.hg 0; have u1 := fr_ HS8.out.hg 1; have u2 := fr_ HS8.out.hg 2; have u3 := fr_ HS8.out.hg 3; clear hx)))
    obtain ⟨f1, f2, f3, f4⟩ := HS8.out.fin (.int .i64 9) (.int .i64 (-1)) (.bool false) (.slice none 0 0)
    exact bodyPost_ret (results_cell_row rfl _ _ g 48 #[.int .i64 9, .int .i64 (-1), .bool false, .slice none 0 0] (0, 0) _ rfl f1 Try.underlying48 rfl info48) rfl (Or.inl ⟨by rw [HRS.out]; exact HNG.out, rfl, f4⟩)
  · have hd : decide (sl < 0) = false := decide_eq_false hneg
    obtain ⟨s, rfl⟩ := Int.eq_ofNat_of_zero_le (show 0 ≤ sl by omega)
    have HS64 := am_ (show s < 64 by have := HSL.out; omega)
    have hi0 : (0 : Int) ≤ (s : Int) := by omega
    have hi1 : (s : Int) < 64 := by have := HS64.out; omega
    obtain rfl : R = ((s : Int), is1) := HRS.out
    obtain ⟨⟨sst, sa, sp, sw, sq⟩, hss⟩ : ∃ z, x.s s = z := ⟨_, rfl⟩
    obtain ⟨⟨y, xe⟩, hy⟩ : ∃ r, natR l false sa sp = r := ⟨_, rfl⟩
    have HY1 := am_ (show in1 x l s = thenL l (y, xe) by unfold in1; rw [hss, hy])
    have H1S := am_ (HH1.out s HS64.out)
    obtain ⟨L1, hL1⟩ : ∃ z, in1 x l s = z := ⟨_, rfl⟩
    have HL1 := am_ hL1
    rw [hL1] at HY1 H1S
    obtain ⟨d0, d1, d2, d3, d4⟩ := HS.out.hh.slot HL.out HS64.out
    rw [hss] at d0 d1 d2 d3 d4
    have HNT1 := am_ (fun (W0 : World) (h0 : Rw W0 Ab cb l) => HNT0.out W0 h0 sa sp y xe hy)
    clear hneg hss hy hL1 HSL HRS HH1 HNT0
    obtain ⟨gs, hgs⟩ : ∃ n, w6.heap.size = n := ⟨_, rfl⟩
    go_upto_region 10 with fail
    refine wp_w (fun W => W.heap[gs]? = some (.cells #[.int .i64 sst, .int .i64 sa, .int .i64 sp, .int .i64 sw, .int .i64 sq] 26 (0, 0)) ∧ Below w6.heap.size w6 W) ?_ ?_
    · exact ⟨by rw [← hgs]; exact new_blk w6 _, below_alloc (Below.refl _ w6) _⟩
    intro w7 h7
    replace HS := am_ (HS.out.below h7.2)
    have HNT := am_ (HNT1.out w7 HS.out.rl.rw)
    have HCK := am_ (fun W (hW : Below w7.heap.size w7 W) => show W.cell? ⟨k, 14, none⟩ = some (.slice Ab l.length cb) ∧ W.cell? ⟨gs, 1, none⟩ = some (.int .i64 sa) ∧ W.cell? ⟨gs, 2, none⟩ = some (.int .i64 sp) from by
      obtain ⟨_, _, _, _, _, _, _, _, _, _, _, _, _, _, a14⟩ := c15 (HS.out.below hW).hk
      obtain ⟨_, e1, e2, _⟩ := c5 (bk_ h7.1 hW)
      exact ⟨a14, e1, e2⟩)
    have HQc := am_ (Below.refl w7.heap.size w7).drew
    clear h7 hgs d0 d1 d2 d3 d4 hi0 hi1
    refine start_ (n := 13) (S := fun w' => w'.cell? ⟨k, 14, none⟩ = some (.slice Ab l.length cb) ∧ w'.cell? ⟨gs, 1, none⟩ = some (.int .i64 sa) ∧ w'.cell? ⟨gs, 2, none⟩ = some (.int .i64 sp)) (ds := [12]) #[fF,fF,fF,fF,fF,fF,fF,fF,fF,fF,fF,fF,fF] (by kernel_rfl) rfl rfl ⟨(HCK.out _ HQc.out).1, (HCK.out _ HQc.out).2.1, (HCK.out _ HQc.out).2.2⟩ (fun hHeld => ?_)
    refine p_ 0 70 ?_
    refine p_ 1 71 ?_
    refine p_ 2 72 ?_
    refine p_ 3 73 ?_
    refine p_ 5 75 ?_
    refine p_ 7 77 ?_
    refine t_ 4 74 hHeld ?_
    refine t_ 6 76 hHeld ?_
    refine t_ 8 78 hHeld ?_
    refine o_ 9 (some 79) (fun K hK => ?_)
    refine g_ Try.func87 #[.slice Ab l.length cb, .bool false, .int .i64 sa, .int .i64 sp] ?_
    with_reducible refine (HNT.out _ HQc.out).mono ?_
    rintro e1 w31 ⟨Ay, cy, rfl, hry, hx⟩
    refine ⟨_, rfl, ?_⟩
    replace HQc := am_ hx
    have HRY := am_ (OwnF.of hry HS.out.ltk HS.out.ltb)
    have HTH := am_ (then_calls Ay y.length cy xe (HS.out.below hx).hk)
    clear hry hx
    refine hK.out _ _ ⟨(HCK.out _ HQc.out).1, (HCK.out _ HQc.out).2.1, (HCK.out _ HQc.out).2.2⟩ (fun hHeld => ?_)
    clear hK K
    refine n_ 79 ?_
    refine p_ 10 80 ?_
    refine p_ 11 81 ?_
    refine l_ 12 (some 82) (fun K hK => ?_)
    refine g_ Try.func41 #[.pointer (some ⟨k, 0, none⟩), .slice Ay y.length cy, .int .i64 xe] ?_
    with_reducible refine (HTH.out).mono ?_
    rintro e2 w32 ⟨rfl, hkk, hch⟩
    refine ⟨_, rfl, ?_⟩
    have HKK := am_ hkk
    have HCC := am_ hch
    clear hkk hch
    refine hK.out _ _ ?_
    clear hK K
    refine n_ 82 ?_
    refine done_ (by kernel_rfl) ?_
    go_upto_region 11 with fail
    refine wp_w (fun W => ∃ v, OutS w W k b g gh p A1 c1 A2 c2 x nl (.slice Aw 127 cw) v L1) ?_ ?_
    · obtain ⟨v', h⟩ := (HS.out.below HQc.out).then_ HRY.out HKK.out rfl HCC.out
      rw [← HY1.out] at h
      exact ⟨v', h⟩
    intro w8 h8
    obtain ⟨v8, h8⟩ := h8
    obtain ⟨Ab8, cb8, rfl⟩ := h8.slice
    replace HS := am_ h8
    have HSC := am_ (fun W (hW : Below w8.heap.size w8 W) => stamp_calls (w := W) (h8.ro.rw.below hW).rd rfl h8.ro.rw.le HOL.out HOY.out)
    obtain ⟨k0, k1, k2, k3, k4, k5, k6, k7, k8, k9, k10, k11, k12, k13, k14⟩ := c15 h8.hk
    clear h8 hHeld HKK HCC HRY HTH HNT HNT1 HY1 HCK HQc
    rcases stampL_ok p.opts with hst | ⟨at_, hat1, hat2, hst⟩
    · have HO := am_ (show inL x p nl l s = L1 by unfold inL; rw [hst, if_neg (fun h => by cases h.1), HL1.out])
      rw [hst] at HSC
      clear hst
      go_upto_region 18 with (first
        | (go_at_call 18; ((with_reducible refine (HSC.out _ ?hb).mono ?_); (case hb => (repeat (first | with_reducible exact Below.refl _ _ | with_reducible apply below_alloc | with_reducible apply pw_below_drewN | with_reducible apply below_drew1 | exact bd (Below.refl _ _) _ | exact (Below.refl _ _).drew))); rintro e2 x2 ⟨rfl, hx⟩; have HXY := am_ hx; clear hx)))
      refine wp_w (fun W => ∃ v, OutS w W k b g gh p A1 c1 A2 c2 x nl (.slice Aw 127 cw) v (inL x p nl l s)) ?_ ?_
      · rw [HO.out]
        exact ⟨_, HS.out.below HXY.out⟩
      clear k0 k1 k2 k3 k4 k5 k6 k7 k8 k9 k10 k11 k12 k13 k14 HXY HSC HO
      intro wz hz
      obtain ⟨vz, hz⟩ := hz
      obtain ⟨Az, cz, rfl⟩ := hz.slice
      obtain ⟨k0, k1, k2, k3, k4, k5, k6, k7, k8, k9, k10, k11, k12, k13, k14⟩ := c15 hz.hk
      obtain ⟨t0, t1, t2, t3⟩ := c4 hz.hg
      have u0 := fr_ hz.hg 0
      have u1 := fr_ hz.hg 1
      have u2 := fr_ hz.hg 2
      have u3 := fr_ hz.hg 3
      have HSZ := am_ hz
      clear hz
      go_wp2
      obtain ⟨f1, f2, f3, f4⟩ := HSZ.out.fin (.int .i64 0) (.int .i64 (s : Int)) (.bool is1) (.slice Az (inL x p nl l s).length cz)
      exact bodyPost_ret (results_cell_row rfl _ _ g 48 #[.int .i64 0, .int .i64 (s : Int), .bool is1, .slice Az (inL x p nl l s).length cz] (0, 0) _ rfl f1 Try.underlying48 rfl info48) rfl (Or.inr (by first | exact ⟨Az, cz, rfl, f2, f3, f4⟩ | exact ⟨Az, cz, rfl, f2, f3, f4, Int.natCast_nonneg _⟩))
    · obtain ⟨val, hval⟩ : ∃ z, numV p.opts at_ = z := ⟨_, rfl⟩
      obtain ⟨ech, hech⟩ : ∃ z, numV p.opts (at_ + 4) = z := ⟨_, rfl⟩
      rw [hval, hech] at hst
      rw [hst] at HSC
      have hk1 : p.kind = 1 := by
        rcases HKD.out with h | ⟨_, h⟩
        · exact h
        · rw [h] at hat1
          simp at hat1
      have hkd : (p.kind == 1) = true := beq_iff_eq.mpr hk1
      by_cases he0 : ech = 0
      · have hde : (ech != 0) = false := by rw [he0]; rfl
        have HO := am_ (show inL x p nl l s = L1 by unfold inL; rw [hst, if_neg (fun h => h.2 he0), HL1.out])
        clear hst hval hech hk1 he0
        go_upto_region 18 with (first
          | (go_at_call 18; ((with_reducible refine (HSC.out _ ?hb).mono ?_); (case hb => (repeat (first | with_reducible exact Below.refl _ _ | with_reducible apply below_alloc | with_reducible apply pw_below_drewN | with_reducible apply below_drew1 | exact bd (Below.refl _ _) _ | exact (Below.refl _ _).drew))); rintro e2 x2 ⟨rfl, hx⟩; have HXY := am_ hx; obtain ⟨k0, k1, k2, k3, k4, k5, k6, k7, k8, k9, k10, k11, k12, k13, k14⟩ := c15 (HS.out.below hx).hk; clear hx)))
        refine wp_w (fun W => ∃ v, OutS w W k b g gh p A1 c1 A2 c2 x nl (.slice Aw 127 cw) v (inL x p nl l s)) ?_ ?_
        · rw [HO.out]
          exact ⟨_, HS.out.below HXY.out⟩
        clear k0 k1 k2 k3 k4 k5 k6 k7 k8 k9 k10 k11 k12 k13 k14 HXY HSC HO
        intro wz hz
        obtain ⟨vz, hz⟩ := hz
        obtain ⟨Az, cz, rfl⟩ := hz.slice
        obtain ⟨k0, k1, k2, k3, k4, k5, k6, k7, k8, k9, k10, k11, k12, k13, k14⟩ := c15 hz.hk
        obtain ⟨t0, t1, t2, t3⟩ := c4 hz.hg
        have u0 := fr_ hz.hg 0
        have u1 := fr_ hz.hg 1
        have u2 := fr_ hz.hg 2
        have u3 := fr_ hz.hg 3
        have HSZ := am_ hz
        clear hz
        go_wp2
        obtain ⟨f1, f2, f3, f4⟩ := HSZ.out.fin (.int .i64 0) (.int .i64 (s : Int)) (.bool is1) (.slice Az (inL x p nl l s).length cz)
        exact bodyPost_ret (results_cell_row rfl _ _ g 48 #[.int .i64 0, .int .i64 (s : Int), .bool is1, .slice Az (inL x p nl l s).length cz] (0, 0) _ rfl f1 Try.underlying48 rfl info48) rfl (Or.inr (by first | exact ⟨Az, cz, rfl, f2, f3, f4⟩ | exact ⟨Az, cz, rfl, f2, f3, f4, Int.natCast_nonneg _⟩))
      · have hde : (ech != 0) = true := by simpa using he0
        obtain ⟨⟨nv, nb⟩, hn⟩ : ∃ z, nl.getD s (0, false) = z := ⟨_, rfl⟩
        obtain ⟨bk, hbk⟩ : ∃ z, (if nb = true then backC ech nv else 0) = z := ⟨_, rfl⟩
        have HBK := am_ hbk
        obtain ⟨⟨y, xe⟩, hy2⟩ : ∃ r, writeR L1 (24 + (at_ : Int) + 4) 4 bk = r := ⟨_, rfl⟩
        have HO := am_ (show inL x p nl l s = thenL L1 (y, xe) by unfold inL; rw [hst, if_pos ⟨rfl, he0⟩, HL1.out, hn]; simp only; rw [hbk, hy2])
        have HNR := am_ (fun W (hW : Below w8.heap.size w8 W) => show Calls Try.prog 88 #[.pointer (some ⟨b, 0, none⟩), .int .i64 (s : Int)] W fun e w' => e = .returned (.tuple #[.int .u32 nv, .bool nb]) ∧ Below W.heap.size W w' from by
          have h := near_calls (HS.out.below hW).hp HS64.out
          rw [hn] at h
          exact h)
        have HBC := am_ (fun W => back_calls ech nv W)
        have HBB := am_ (back_some ech nv).2
        have hw24 : wrap64 (24 + (at_ : Int)) = 24 + (at_ : Int) := wid (by omega) (by have := HOL.out; omega)
        have hw28 : wrap64 (24 + (at_ : Int) + 4) = 24 + (at_ : Int) + 4 := wid (by omega) (by have := HOL.out; omega)
        have HW24 := am_ hw24
        have HW28 := am_ hw28
        have HYY := am_ hy2
        clear hst hval hech hk1 he0 hn hbk hy2 hw24 hw28
        go_upto_if 116 with (first
          | (go_at_call 18; ((with_reducible refine (HSC.out _ ?hb).mono ?_); (case hb => (repeat (first | with_reducible exact Below.refl _ _ | with_reducible apply below_alloc | with_reducible apply pw_below_drewN | with_reducible apply below_drew1 | exact bd (Below.refl _ _) _ | exact (Below.refl _ _).drew))); rintro e2 x2 ⟨rfl, hx⟩; have HXY := am_ hx; obtain ⟨k0, k1, k2, k3, k4, k5, k6, k7, k8, k9, k10, k11, k12, k13, k14⟩ := c15 (HS.out.below hx).hk; clear hx))
          | (go_at_call 88; ((with_reducible refine (HNR.out _ ?hb).mono ?_); (case hb => first | exact HXY.out | exact HXY.out.drew | exact bd HXY.out _ | (repeat (first | with_reducible exact Below.refl _ _ | with_reducible apply below_alloc | with_reducible apply pw_below_drewN | with_reducible apply below_drew1 | exact bd (Below.refl _ _) _ | exact (Below.refl _ _).drew))); rintro e3 x3 ⟨rfl, hx⟩; have HXZ := am_ (below_step HXY.out hx); clear hx)))
        refine wp_w (fun W => Below w8.heap.size w8 W) ?_ ?_
        · exact HXZ.out
        intro w9 h9
        replace HS := am_ (HS.out.below h9)
        clear h9 HXY HXZ HNR HSC k0 k1 k2 k3 k4 k5 k6 k7 k8 k9 k10 k11 k12 k13 k14
        go_cut [12] (fun s12 wx => s12 = .int .i64 bk ∧ Aside (Below w9.heap.size w9 wx))
        case first =>
          cases nb with
          | true =>
            obtain rfl : backC ech nv = bk := HBK.out
            have hwb : wrap64 (backC ech nv) = backC ech nv := wid (by have := HBB.out.1; omega) (by have := HBB.out.2; omega)
            go_wp2_with (first | (go_at_call 89; ((with_reducible refine (HBC.out _).mono ?_); rintro e2 x2 ⟨rfl, hx⟩; have HX2 := am_ hx; clear hx)))
            go_meet
            exact ⟨by first | rfl | (rw [hwb]), (by exact HX2.out)⟩
          | false =>
            obtain rfl : 0 = bk := HBK.out
            go_wp2
            go_meet
            exact ⟨rfl, (by exact Below.refl _ _)⟩
        case rest =>
        obtain ⟨rfl, hw9⟩ := hcut
        rename World => w10
        replace HS := am_ (HS.out.below hw9.out)
        have HWR := am_ (write_at (W0 := w10) HS.out.rl.rw rfl H1S.out.2 H1S.out.1 (24 + (at_ : Int) + 4) 4 bk HYY.out)
        obtain ⟨k0, k1, k2, k3, k4, k5, k6, k7, k8, k9, k10, k11, k12, k13, k14⟩ := c15 HS.out.hk
        have hw24 := HW24.out
        have hw28 := HW28.out
        clear hw9 HBC HBB HBK HYY
        go_upto_region 18 with (first
          | (go_at_call 83; ((with_reducible refine (HWR.out _ ?hb).mono ?_); (case hb => (repeat (first | with_reducible exact Below.refl _ _ | with_reducible apply below_alloc | with_reducible apply pw_below_drewN | with_reducible apply below_drew1 | exact bd (Below.refl _ _) _ | exact (Below.refl _ _).drew))); rintro e2 x2 ⟨Ay, cy, rfl, hry, hx⟩; have HXY := am_ hx; have HRY := am_ (OwnF.of hry HS.out.ltk HS.out.ltb); have HTH := am_ (then_calls Ay y.length cy xe (HS.out.below hx).hk); clear hry hx))
          | (go_at_call 41; ((with_reducible refine HTH.out.mono ?_); rintro e3 x3 ⟨rfl, hk, hch⟩; have HKK := am_ hk; have HCC := am_ hch; clear hk hch)))
        refine wp_w (fun W => ∃ v, OutS w W k b g gh p A1 c1 A2 c2 x nl (.slice Aw 127 cw) v (inL x p nl l s)) ?_ ?_
        · rw [HO.out]
          exact (HS.out.below HXY.out).then_ HRY.out HKK.out rfl HCC.out
        clear k0 k1 k2 k3 k4 k5 k6 k7 k8 k9 k10 k11 k12 k13 k14 HKK HCC HRY HTH HXY HWR HO hw24 hw28
        intro wz hz
        obtain ⟨vz, hz⟩ := hz
        obtain ⟨Az, cz, rfl⟩ := hz.slice
        obtain ⟨k0, k1, k2, k3, k4, k5, k6, k7, k8, k9, k10, k11, k12, k13, k14⟩ := c15 hz.hk
        obtain ⟨t0, t1, t2, t3⟩ := c4 hz.hg
        have u0 := fr_ hz.hg 0
        have u1 := fr_ hz.hg 1
        have u2 := fr_ hz.hg 2
        have u3 := fr_ hz.hg 3
        have HSZ := am_ hz
        clear hz
        go_wp2
        obtain ⟨f1, f2, f3, f4⟩ := HSZ.out.fin (.int .i64 0) (.int .i64 (s : Int)) (.bool is1) (.slice Az (inL x p nl l s).length cz)
        exact bodyPost_ret (results_cell_row rfl _ _ g 48 #[.int .i64 0, .int .i64 (s : Int), .bool is1, .slice Az (inL x p nl l s).length cz] (0, 0) _ rfl f1 Try.underlying48 rfl info48) rfl (Or.inr (by first | exact ⟨Az, cz, rfl, f2, f3, f4⟩ | exact ⟨Az, cz, rfl, f2, f3, f4, Int.natCast_nonneg _⟩))
theorem load34p_run {o : Oper} {a : Act} {x : Operand} {p : Po} {b : Nat} {is : Bool} {near : List Value} {wv : Value} (W : World) (ho : o.op = .load 34 x) (hx : a.eval x = .pointer (some ⟨b, 0, none⟩)) (hP : PlaneAt W b p is near wv) : (execOp a.eval o).run Try.prog W = .ok (.value (.agg p.ag)) W := by
  unfold execOp
  simp only [ho, hx, Instr.loadAt, Instr.sureAddr, Sem.run_bind, Sem.run_pure, Result.andThen_ok, run_loadVar_mid W b 0 34 p.cs _ hP.range Try.underlying34 rfl (by rw [info34, Po.cs_len p hP.2.1])]
  rfl
/-- What Take asks of the bytes that it gets: they are p's, to be aged to y. -/
structure TakeOk (w : World) (Ab : Option Addr) (cb : Nat) (l : List Int) (p : Pk) (y : List Int) : Prop where
  rw : Rw w Ab cb l
  ll : l.length ≤ 10000
  ly : Bytes l
  pr : parseL l = (p, 0)
  pc : p.piece = 0
  lf : 2 ≤ p.life
  k3 : p.kind ≠ 3
  ag : ageR l = (y, 0)
  yy : Bytes y
  yl : y.length ≤ 10000
  oy : Bytes p.opts
  ol : p.opts.length ≤ 1000
theorem take_fin {k b g : Nat} {w W : World} {A : Option Addr} {c : Nat} {l : List Int} {x : Po} {near : List Value} {wv : Value} (ho : OwnF k b W (.slice A l.length c) l) (hg : W.heap[g]? = some (.cells #[.int .i64 0, .int .i64 0, .bool false, .slice none 0 0] 48 (0, 0))) (hp : PlaneAt W b x true near wv) (hgb : g ≠ b) (hf : Grw b w W) (hle : w.heap.size ≤ g) (v0 v1 v2 v3 : Value) :
    ((((W.setCell ⟨g, 0, none⟩ v0).setCell ⟨g, 1, none⟩ v1).setCell ⟨g, 2, none⟩ v2).setCell ⟨g, 3, none⟩ v3).heap[g]? = some (.cells #[v0, v1, v2, v3] 48 (0, 0)) ∧
      Rw ((((W.setCell ⟨g, 0, none⟩ v0).setCell ⟨g, 1, none⟩ v1).setCell ⟨g, 2, none⟩ v2).setCell ⟨g, 3, none⟩ v3) A c l ∧ PlaneAt ((((W.setCell ⟨g, 0, none⟩ v0).setCell ⟨g, 1, none⟩ v1).setCell ⟨g, 2, none⟩ v2).setCell ⟨g, 3, none⟩ v3) b x true near wv ∧
      Grw b w ((((W.setCell ⟨g, 0, none⟩ v0).setCell ⟨g, 1, none⟩ v1).setCell ⟨g, 2, none⟩ v2).setCell ⟨g, 3, none⟩ v3) := by
  have e0 := heap_setCell_same W g 0 _ 48 v0 hg
  have e1 := heap_setCell_same _ g 1 _ 48 v1 e0
  have e2 := heap_setCell_same _ g 2 _ 48 v2 e1
  have e3 := heap_setCell_same _ g 3 _ 48 v3 e2
  have hc : Chg g W ((((W.setCell ⟨g, 0, none⟩ v0).setCell ⟨g, 1, none⟩ v1).setCell ⟨g, 2, none⟩ v2).setCell ⟨g, 3, none⟩ v3) := ((((Chg.refl g W).set _ _).set _ _).set _ _).set _ _
  refine ⟨e3, OwnF.rw ((((ho.setg hg 0 v0).setg e0 1 v1).setg e1 2 v2).setg e2 3 v3), ⟨hp.1, hp.2.1, (hc.block b (Ne.symm hgb)).trans hp.2.2⟩, ⟨hc.os.trans hf.os, hc.tape.trans hf.tape, hc.output.trans hf.output, ?_, fun j hj h2 => (hc.block j (by omega)).trans (hf.block j hj h2)⟩⟩
  rw [hc.size]
  exact hf.size
theorem take_fin0 {b g : Nat} {w W : World} (hgb : g ≠ b) (hf : Grw b w W) (hle : w.heap.size ≤ g) (v0 v1 v2 v3 : Value) :
    Grw b w ((((W.setCell ⟨g, 0, none⟩ v0).setCell ⟨g, 1, none⟩ v1).setCell ⟨g, 2, none⟩ v2).setCell ⟨g, 3, none⟩ v3) := by
  have hc : Chg g W ((((W.setCell ⟨g, 0, none⟩ v0).setCell ⟨g, 1, none⟩ v1).setCell ⟨g, 2, none⟩ v2).setCell ⟨g, 3, none⟩ v3) := ((((Chg.refl g W).set _ _).set _ _).set _ _).set _ _
  refine ⟨hc.os.trans hf.os, hc.tape.trans hf.tape, hc.output.trans hf.output, ?_, fun j hj h2 => (hc.block j (by omega)).trans (hf.block j hj h2)⟩
  rw [hc.size]
  exact hf.size
theorem grw_frm {k b : Nat} {w W W' : World} (h : Below w.heap.size w W) (hk : w.heap.size ≤ k) (f : Frm k b W W') : Grw b w W' :=
  ⟨f.os.trans h.os, f.tape.trans h.tape, f.output.trans h.output, Nat.le_trans h.size f.size, fun j hj h2 => (f.block j (Nat.lt_of_lt_of_le hj h.size) (by omega) h2).trans (h.block j hj)⟩
theorem take_in_cases {k b g : Nat} {w w' : World} {e : Ending} {R : Int × Bool} {L : List Int} {x : Po} {near : List Value} {wv : Value} {ob : Obj}
    (h : (R.1 < 0 ∧ e = .returned (.agg #[.int .i64 9, .int .i64 (-1), .bool false, .slice none 0 0]) ∧ Frm k b w w') ∨ ∃ A c, e = .returned (.agg #[.int .i64 0, .int .i64 R.1, .bool R.2, .slice A L.length c]) ∧ OwnF k b w' (.slice A L.length c) L ∧ PlaneAt w' b x true near wv ∧ Frm k b w w' ∧ 0 ≤ R.1)
    (hg : w.heap[g]? = some ob) (h1 : g ≠ k) (h2 : g ≠ b) :
    ∃ (d s : Int) (ck : Bool) (A : Option Addr) (n c : Nat), e = .returned (.agg #[.int .i64 d, .int .i64 s, .bool ck, .slice A n c]) ∧ w'.heap[g]? = some ob ∧ ((R.1 < 0 ∧ d = 9 ∧ s = -1 ∧ ck = false ∧ A = none ∧ n = 0 ∧ c = 0 ∧ Frm k b w w') ∨
      (d = 0 ∧ s = R.1 ∧ ck = R.2 ∧ n = L.length ∧ OwnF k b w' (.slice A L.length c) L ∧ PlaneAt w' b x true near wv ∧ Frm k b w w' ∧ 0 ≤ R.1)) := by
  rcases h with ⟨h0, rfl, hf⟩ | ⟨A, c, rfl, ho, hp, hf, h0⟩
  · exact ⟨9, -1, false, none, 0, 0, rfl, hf.blk hg h1 h2, Or.inl ⟨h0, rfl, rfl, rfl, rfl, rfl, rfl, hf⟩⟩
  · exact ⟨0, R.1, R.2, A, L.length, c, rfl, hf.blk hg h1 h2, Or.inr ⟨rfl, rfl, rfl, rfl, ho, hp, hf, h0⟩⟩
theorem take_out {b : Nat} {x : Po} {nl : List (Int × Bool)} {Aw : Option Addr} {cw : Nat} {w : World} (hP : PlaneAt w b x true (nearV nl) (.slice Aw 127 cw)) {Ab : Option Addr} {cb : Nat} {l y : List Int} {p : Pk} (hT : TakeOk w Ab cb l p y)
    (hdst : p.dst ≠ x.ad) {si : Nat} (hf : findR x p.frm p.fp 64 0 = ((si : Int), true)) (hsi : si < 64) (h1y : Bytes (out1 x y)) (h1l : (out1 x y).length ≤ 10000) :
    Calls Try.prog 14 #[.pointer (some ⟨b, 0, none⟩), .slice Ab l.length cb] w fun e w' => ∃ A c, e = .returned (.agg #[.int .i64 0, .int .i64 (-1), .bool false, .slice A (outL x p y si).length c]) ∧ Rw w' A c (outL x p y si) ∧ PlaneAt w' b x true (nearV (outN p nl si)) (.slice Aw 127 cw) ∧ Grw b w w' := by
  have hda : (p.dst == x.ad) = false := beq_eq_false_iff_ne.mpr hdst
  have HFI := am_ (fun W => show Calls Try.prog 45 #[.agg x.ag, .int .i64 p.frm, .int .i64 p.fp] W fun e w' => e = .returned (.tuple #[.int .i64 (si : Int), .bool true]) ∧ Below W.heap.size W w' from by
    have h := find_calls x hP.2.1 p.frm p.fp W
    rw [hf] at h
    exact h)
  have HSI := am_ hsi
  have H1Y := am_ h1y
  have H1L := am_ h1l
  clear hdst hf hsi h1y h1l
  have HP := am_ hP
  have HT := am_ hT
  have HPA0 := am_ (fun W (hW : Below w.heap.size w W) => parse_at (W0 := W) (hT.rw.below hW) rfl hT.ll hT.ly hT.pr)
  have HAG0 := am_ (fun W (hW : Below w.heap.size w W) => age_at (W0 := W) (hT.rw.below hW) rfl hT.ll hT.ly hT.ag)
  have hd : decide (p.life < 2) = false := decide_eq_false (by have := hT.lf; omega)
  have hdp : (p.piece != 0) = false := by rw [hT.pc]; rfl
  have hdk : (p.kind == 3) = false := beq_eq_false_iff_ne.mpr hT.k3
  have HBL := am_ (blk_lt hP.2.2)
  clear hP hT
  obtain ⟨g, HG⟩ : ∃ g, w.heap.size = g := ⟨_, rfl⟩
  have HLE := am_ (show w.heap.size ≤ g by omega)
  go_enter Try.func14, Try.ntmps14
  go_upto_region 1 with fail
  refine wp_w (fun W => W.heap[g]? = some (.cells #[.int .i64 0, .int .i64 0, .bool false, .slice none 0 0] 48 (0, 0)) ∧ Below w.heap.size w W) ?_ ?_
  · exact ⟨(box_at w HG _).1, (box_at w HG _).2.1⟩
  intro w1 h1
  have HR1 := am_ h1.1
  have HB1 := am_ h1.2
  have b330 := (HP.out.below h1.2).c_is
  have HPA := am_ (HPA0.out w1 h1.2)
  clear h1 HG
  go_upto_region 4 with (first
    | (go_at_call 15; ((with_reducible refine (HPA.out _ ?hb).mono ?_); (case hb => first | exact Below.refl _ _ | exact bd (Below.refl _ _) _ | exact (Below.refl _ _).drew); rintro e1 x1 ⟨A1, c1, A2, c2, rfl, ho1, ho2, hsep, hx⟩; have HX1 := am_ hx; have HO1 := am_ ho1; obtain ⟨g5, hg5⟩ : ∃ n, x1.heap.size = n := ⟨_, rfl⟩; clear ho1 ho2 hsep hx)))
  refine wp_w (fun W => W.heap[g5]? = some (.cells #[.int .i64 p.kind, .int .i64 p.life, .int .i64 p.piece, .int .i64 p.frm, .int .i64 p.dst, .int .i64 p.fp, .int .i64 p.tp, .int .i64 p.flags, .int .i64 p.label, .bool p.bare, .int .i64 p.code, .slice A1 p.opts.length c1, .slice A2 p.data.length c2] 39 (0, 0)) ∧ Below x1.heap.size x1 W) ?_ ?_
  · exact ⟨by rw [← hg5]; exact new_blk x1 _, below_alloc (Below.refl _ x1) _⟩
  intro w2 h2
  have HK2 := am_ h2.1
  have HY2 := am_ h2.2
  have HX2 := am_ (below_step HX1.out h2.2)
  have HL5 := am_ (show w1.heap.size ≤ g5 from by rw [← hg5]; exact HX1.out.size)
  have HG5 := am_ (show x1.heap.size ≤ g5 from Nat.le_of_eq hg5)
  obtain ⟨k0, k1, k2, k3, k4, k5, k6, k7, k8, k9, k10, k11, k12⟩ := c13 h2.1
  clear h2 b330 hg5
  obtain ⟨g6, hg6⟩ : ∃ n, w2.heap.size = n := ⟨_, rfl⟩
  go_upto_region 11 with fail
  refine wp_w (fun W => W.heap[g6]? = some (.cells (pkA p A1 c1 A2 c2 b (.slice Ab l.length cb)) 101 (0, 0)) ∧ Below w2.heap.size w2 W) ?_ ?_
  · exact ⟨by rw [← hg6]; exact new_blk w2 _, below_alloc (Below.refl _ w2) _⟩
  intro w3 h3
  have HK3 := am_ h3.1
  have HX3 := am_ h3.2
  have HL6 := am_ (show g5 < g6 from by rw [← hg6]; exact blk_lt HK2.out)
  clear h3 hg6 k0 k1 k2 k3 k4 k5 k6 k7 k8 k9 k10 k11 k12 hd hdp
  have HB3 := am_ (below_step (below_step HB1.out HX2.out) HX3.out)
  have HAG := am_ (HAG0.out w3 HB3.out)
  have HBW := am_ (show b < w3.heap.size from Nat.lt_of_lt_of_le HBL.out HB3.out.size)
  have HKW := am_ (show g6 < w3.heap.size from blk_lt HK3.out)
  go_upto_region 12 with (first
    | (go_at_call 42; ((with_reducible refine (HAG.out _ (Below.refl _ _)).mono ?_); rintro e2 x2 ⟨Ay, cy, rfl, hry, hx⟩; have HXY := am_ hx; have HRY := am_ (OwnF.of hry HKW.out HBW.out); clear hry hx; have HKY := am_ (bk_ HK3.out HXY.out); have HTH := am_ (then_calls Ay y.length cy 0 HKY.out)))
    | (go_at_call 41; ((with_reducible refine HTH.out.mono ?_); rintro e3 x3 ⟨rfl, hk, hch⟩; have HK4 := am_ hk; have HC4 := am_ hch; clear hk hch)))
  refine wp_w (fun W => W.heap[g6]? = some (.cells (pkA p A1 c1 A2 c2 b (.slice Ay y.length cy)) 101 (0, 0)) ∧ W.heap[g5]? = some (.cells #[.int .i64 p.kind, .int .i64 p.life, .int .i64 p.piece, .int .i64 p.frm, .int .i64 p.dst, .int .i64 p.fp, .int .i64 p.tp, .int .i64 p.flags, .int .i64 p.label, .bool p.bare, .int .i64 p.code, .slice A1 p.opts.length c1, .slice A2 p.data.length c2] 39 (0, 0)) ∧ PlaneAt W b x true (nearV nl) (.slice Aw 127 cw) ∧ W.heap[g]? = some (.cells #[.int .i64 0, .int .i64 0, .bool false, .slice none 0 0] 48 (0, 0)) ∧ OwnF g6 b W (.slice A1 p.opts.length c1) p.opts ∧ OwnF g6 b W (.slice Ay y.length cy) y ∧ Below w.heap.size w W) ?_ ?_
  · have l5 := HL6.out
    have l6 := HL5.out
    have lg := blk_lt HR1.out
    have lb := blk_lt HP.out.2.2
    have lw := HB1.out.size
    have ho : OwnF g6 b x1 (.slice A1 p.opts.length c1) p.opts := OwnF.of2 HO1.out (by have := HG5.out; omega) (by omega)
    refine ⟨HK4.out, (HC4.out.block _ (by omega)).trans (bk_ (bk_ HK2.out HX3.out) HXY.out), ?_, (HC4.out.block _ (by omega)).trans (bk_ (bk_ (bk_ HR1.out HX2.out) HX3.out) HXY.out), (((ho.frm (Frm.of_below HY2.out)).frm (Frm.of_below HX3.out)).frm (Frm.of_below HXY.out)).frm (Frm.of_k HC4.out), HRY.out.frm (Frm.of_k HC4.out), Chg.step (below_step HB3.out HXY.out) HC4.out (by omega)⟩
    have hp := HP.out.below (below_step HB3.out HXY.out)
    exact ⟨hp.1, hp.2.1, (HC4.out.block _ (by omega)).trans hp.2.2⟩
  intro w5 h5
  have HK5 := am_ h5.1
  have HF5 := am_ h5.2.1
  have HP5 := am_ h5.2.2.1
  have HR5 := am_ h5.2.2.2.1
  have HO5 := am_ h5.2.2.2.2.1
  have HY5 := am_ h5.2.2.2.2.2.1
  have HB5 := am_ h5.2.2.2.2.2.2
  have HN6 := am_ (show g6 ≠ b ∧ g ≠ b ∧ g ≠ g6 ∧ w.heap.size ≤ g6 from by
    have l5 := HL6.out
    have l6 := HL5.out
    have lg := blk_lt HR1.out
    have lb := HBL.out
    have lw := HB1.out.size
    have le := HLE.out
    omega)
  obtain ⟨k0, k1, k2, k3, k4, k5, k6, k7, k8, k9, k10, k11, k12⟩ := c13 h5.2.1
  obtain ⟨b1, b2⟩ := HP5.out.c_ad
  clear h5 HK4 HC4 HXY HKY HTH HAG HPA HPA0 HAG0 HRY HO1 HK2 HK3 HY2 HX1 HX2 HX3 HL5 HL6 HG5 HKW HBW HR1 HB1 HB3
  go_upto_region 16 with fail
  refine start_ (n := 20) (S := fun w' => w'.cell? ⟨g5, 4, none⟩ = some (.int .i64 p.dst) ∧ w'.cell? ⟨g5, 6, none⟩ = some (.int .i64 p.tp) ∧ w'.cell? ⟨b, 1, none⟩ = some (.int .i64 x.ad) ∧ w'.cell? ⟨b, 2, none⟩ = some (.int .i64 x.po)) (ds := []) #[fF,fF,fF,fF,fF,fF,fF,fF,fF,fF,fF,fF,fF,fF,fF,fF,fF,fF,fF,fF] (by kernel_rfl) rfl rfl ⟨k4, k6, b1, b2⟩ (fun hHeld => ?_)
  refine p_ 0 63 ?_
  refine p_ 2 65 ?_
  refine p_ 3 66 ?_
  refine p_ 4 67 ?_
  refine p_ 5 68 ?_
  refine p_ 6 69 ?_
  refine t_ 1 64 hHeld ?_
  refine t_ 7 70 hHeld ?_
  refine p_ 8 71 ?_
  refine p_ 9 72 ?_
  refine u_ 10 73 ?_
  refine u_ 11 74 ?_
  refine u_ 12 75 ?_
  refine u_ 13 76 ?_
  refine u_ 14 77 ?_
  refine u_ 15 78 ?_
  refine u_ 16 79 ?_
  refine u_ 17 80 ?_
  refine u_ 18 81 ?_
  refine p_ 19 82 ?_
  refine done_ (by kernel_rfl) ?_
  go_upto_region 18 with fail
  refine wp_w (fun W => Below w5.heap.size w5 W) ?_ ?_
  · first
      | exact Below.refl _ _
      | exact (Below.refl _ _).drew
      | exact bd (Below.refl _ _) _
  intro w6 h6
  have HB6 := am_ h6
  have HCK := am_ (fun W (hW : Below w6.heap.size w6 W) => show PlaneAt W b x true (nearV nl) (.slice Aw 127 cw) ∧ W.cell? ⟨g5, 3, none⟩ = some (.int .i64 p.frm) ∧ W.cell? ⟨g5, 5, none⟩ = some (.int .i64 p.fp) from by
    have hW' := below_step h6 hW
    obtain ⟨_, _, _, a3, _, a5, _⟩ := c13 (bk_ HF5.out hW')
    exact ⟨HP5.out.below hW', a3, a5⟩)
  have HQc := am_ (Below.refl w6.heap.size w6).drew
  clear h6 k0 k1 k2 k3 k4 k5 k6 k7 k8 k9 k10 k11 k12 b1 b2
  refine start_ (n := 15) (S := fun w' => PlaneAt w' b x true (nearV nl) (.slice Aw 127 cw) ∧ w'.cell? ⟨g5, 3, none⟩ = some (.int .i64 p.frm) ∧ w'.cell? ⟨g5, 5, none⟩ = some (.int .i64 p.fp)) (ds := []) #[fF,fF,fF,fF,fF,fF,fF,fF,fF,fF,fF,fF,fF,fF,fF] (by kernel_rfl) rfl rfl ⟨(HCK.out _ HQc.out).1, (HCK.out _ HQc.out).2.1, (HCK.out _ HQc.out).2.2⟩ (fun hHeld => ?_)
  refine p_ 0 86 ?_
  refine p_ 1 87 ?_
  refine p_ 2 88 ?_
  refine p_ 3 89 ?_
  refine p_ 5 91 ?_
  refine p_ 7 93 ?_
  refine take_ (i := 4) (N := some 90) (v := ?_) (a' := ?_) #[tT,tT,tT,tT,tT,tT,fF,tT,fF,fF,fF,fF,fF,fF,fF] rfl rfl (by kernel_rfl) (fun _ _ _ h => h) (Or.inl ⟨by rfl, ?_⟩) hHeld ?_ ?_
  rotate_left
  · rintro w' ⟨s0, s1, s2⟩
    refine load34p_run (x := .tmp 89) _ ?_ ?_ s0 <;> rfl
  rotate_left; · simp only [Act.put, q_a, q_0, q_s, i64_w, i32_w]; rfl
  refine t_ 6 92 hHeld ?_
  refine t_ 8 94 hHeld ?_
  refine o_ 9 (some 95) (fun K hK => ?_)
  refine g_ Try.func45 #[.agg x.ag, .int .i64 p.frm, .int .i64 p.fp] ?_
  with_reducible refine (HFI.out _).mono ?_
  rintro e2 w32 ⟨rfl, hx⟩
  refine ⟨_, rfl, ?_⟩
  replace HQc := am_ (below_step HQc.out hx)
  clear hx
  refine hK.out _ _ ⟨(HCK.out _ HQc.out).1, (HCK.out _ HQc.out).2.1, (HCK.out _ HQc.out).2.2⟩ (fun hHeld => ?_)
  clear hK K
  refine n_ 95 ?_
  refine p_ 10 85 ?_
  refine p_ 11 96 ?_
  refine p_ 12 97 ?_
  refine p_ 13 8 ?_
  refine p_ 14 9 ?_
  refine done_ (by kernel_rfl) ?_
  go_upto_region 21 with fail
  refine wp_w (fun W => Below w5.heap.size w5 W) ?_ ?_
  · exact below_step HB6.out HQc.out
  intro w7 h7
  have HOC := am_ (out_calls (si := si) (bk_ HK5.out h7) (HP5.out.below h7) HN6.out.1 (HO5.out.frm (Frm.of_below h7)) (HY5.out.frm (Frm.of_below h7)) HT.out.yy HT.out.yl HT.out.oy HT.out.ol H1Y.out H1L.out HSI.out)
  have HR7 := am_ (bk_ HR5.out h7)
  have HB7 := am_ (below_step HB5.out h7)
  clear h7 HQc HCK hHeld
  go_wp2_with (first
    | (go_at_call 46; ((with_reducible refine HOC.out.mono ?_); rintro e4 x4 ⟨A, c, rfl, hro, hpo, hfr⟩; have HRO := am_ hro; have HPO := am_ hpo; have HFR := am_ hfr; have HR8 := am_ (hfr.blk HR7.out HN6.out.2.2.1 HN6.out.2.1); obtain ⟨t0, t1, t2, t3⟩ := c4 HR8.out; have u0 := fr_ HR8.out 0; have u1 := fr_ HR8.out 1; have u2 := fr_ HR8.out 2; have u3 := fr_ HR8.out 3; clear hro hpo hfr)))
  obtain ⟨f1, f2, f3, f4⟩ := take_fin HRO.out HR8.out HPO.out HN6.out.2.1 (grw_frm HB7.out HN6.out.2.2.2 HFR.out) HLE.out (.int .i64 0) (.int .i64 (-1)) (.bool false) (.slice A (outL x p y si).length c)
  exact bodyPost_ret (results_cell_row rfl _ _ g 48 #[.int .i64 0, .int .i64 (-1), .bool false, .slice A (outL x p y si).length c] (0, 0) _ rfl f1 Try.underlying48 rfl info48) rfl ⟨A, c, rfl, f2, f3, f4⟩
theorem take_in {b : Nat} {x : Po} {nl : List (Int × Bool)} {Aw : Option Addr} {cw : Nat} {w : World} (hP : PlaneAt w b x true (nearV nl) (.slice Aw 127 cw)) {Ab : Option Addr} {cb : Nat} {l y : List Int} {p : Pk} (hT : TakeOk w Ab cb l p y)
    (hdst : p.dst = x.ad) (htp : p.tp = x.po) (hw : Kd.C (Kd.int .i64) w Aw 127 (wheelL x)) (hcw : 127 ≤ cw) (hkd : p.kind = 1 ∨ (p.kind = 2 ∧ p.opts = [])) (h1 : ∀ s : Nat, s < 64 → Bytes (in1 x y s) ∧ (in1 x y s).length ≤ 10000) {R : Int × Bool} (hR : inS x p = R) :
    Calls Try.prog 14 #[.pointer (some ⟨b, 0, none⟩), .slice Ab l.length cb] w fun e w' => (R.1 < 0 ∧ e = .returned (.agg #[.int .i64 9, .int .i64 (-1), .bool false, .slice none 0 0]) ∧ Grw b w w') ∨
      ∃ A c, e = .returned (.agg #[.int .i64 0, .int .i64 R.1, .bool R.2, .slice A (inL x p nl y R.1.toNat).length c]) ∧ Rw w' A c (inL x p nl y R.1.toNat) ∧ PlaneAt w' b x true (nearV nl) (.slice Aw 127 cw) ∧ Grw b w w' ∧ 0 ≤ R.1 := by
  have hda : (p.dst == x.ad) = true := beq_iff_eq.mpr hdst
  have hdb : (p.tp == x.po) = true := beq_iff_eq.mpr htp
  have HWH := am_ hw
  have HCW := am_ hcw
  have HKD := am_ hkd
  have HH1 := am_ h1
  have HRR := am_ hR
  clear hdst htp hw hcw hkd h1 hR
  have HP := am_ hP
  have HT := am_ hT
  have HPA0 := am_ (fun W (hW : Below w.heap.size w W) => parse_at (W0 := W) (hT.rw.below hW) rfl hT.ll hT.ly hT.pr)
  have HAG0 := am_ (fun W (hW : Below w.heap.size w W) => age_at (W0 := W) (hT.rw.below hW) rfl hT.ll hT.ly hT.ag)
  have hd : decide (p.life < 2) = false := decide_eq_false (by have := hT.lf; omega)
  have hdp : (p.piece != 0) = false := by rw [hT.pc]; rfl
  have hdk : (p.kind == 3) = false := beq_eq_false_iff_ne.mpr hT.k3
  have HBL := am_ (blk_lt hP.2.2)
  clear hP hT
  obtain ⟨g, HG⟩ : ∃ g, w.heap.size = g := ⟨_, rfl⟩
  have HLE := am_ (show w.heap.size ≤ g by omega)
  go_enter Try.func14, Try.ntmps14
  go_upto_region 1 with fail
  refine wp_w (fun W => W.heap[g]? = some (.cells #[.int .i64 0, .int .i64 0, .bool false, .slice none 0 0] 48 (0, 0)) ∧ Below w.heap.size w W) ?_ ?_
  · exact ⟨(box_at w HG _).1, (box_at w HG _).2.1⟩
  intro w1 h1
  have HR1 := am_ h1.1
  have HB1 := am_ h1.2
  have b330 := (HP.out.below h1.2).c_is
  have HPA := am_ (HPA0.out w1 h1.2)
  clear h1 HG
  go_upto_region 4 with (first
    | (go_at_call 15; ((with_reducible refine (HPA.out _ ?hb).mono ?_); (case hb => first | exact Below.refl _ _ | exact bd (Below.refl _ _) _ | exact (Below.refl _ _).drew); rintro e1 x1 ⟨A1, c1, A2, c2, rfl, ho1, ho2, hsep, hx⟩; have HX1 := am_ hx; have HO1 := am_ ho1; obtain ⟨g5, hg5⟩ : ∃ n, x1.heap.size = n := ⟨_, rfl⟩; clear ho1 ho2 hsep hx)))
  refine wp_w (fun W => W.heap[g5]? = some (.cells #[.int .i64 p.kind, .int .i64 p.life, .int .i64 p.piece, .int .i64 p.frm, .int .i64 p.dst, .int .i64 p.fp, .int .i64 p.tp, .int .i64 p.flags, .int .i64 p.label, .bool p.bare, .int .i64 p.code, .slice A1 p.opts.length c1, .slice A2 p.data.length c2] 39 (0, 0)) ∧ Below x1.heap.size x1 W) ?_ ?_
  · exact ⟨by rw [← hg5]; exact new_blk x1 _, below_alloc (Below.refl _ x1) _⟩
  intro w2 h2
  have HK2 := am_ h2.1
  have HY2 := am_ h2.2
  have HX2 := am_ (below_step HX1.out h2.2)
  have HL5 := am_ (show w1.heap.size ≤ g5 from by rw [← hg5]; exact HX1.out.size)
  have HG5 := am_ (show x1.heap.size ≤ g5 from Nat.le_of_eq hg5)
  obtain ⟨k0, k1, k2, k3, k4, k5, k6, k7, k8, k9, k10, k11, k12⟩ := c13 h2.1
  clear h2 b330 hg5
  obtain ⟨g6, hg6⟩ : ∃ n, w2.heap.size = n := ⟨_, rfl⟩
  go_upto_region 11 with fail
  refine wp_w (fun W => W.heap[g6]? = some (.cells (pkA p A1 c1 A2 c2 b (.slice Ab l.length cb)) 101 (0, 0)) ∧ Below w2.heap.size w2 W) ?_ ?_
  · exact ⟨by rw [← hg6]; exact new_blk w2 _, below_alloc (Below.refl _ w2) _⟩
  intro w3 h3
  have HK3 := am_ h3.1
  have HX3 := am_ h3.2
  have HL6 := am_ (show g5 < g6 from by rw [← hg6]; exact blk_lt HK2.out)
  clear h3 hg6 k0 k1 k2 k3 k4 k5 k6 k7 k8 k9 k10 k11 k12 hd hdp
  have HB3 := am_ (below_step (below_step HB1.out HX2.out) HX3.out)
  have HAG := am_ (HAG0.out w3 HB3.out)
  have HBW := am_ (show b < w3.heap.size from Nat.lt_of_lt_of_le HBL.out HB3.out.size)
  have HKW := am_ (show g6 < w3.heap.size from blk_lt HK3.out)
  go_upto_region 12 with (first
    | (go_at_call 42; ((with_reducible refine (HAG.out _ (Below.refl _ _)).mono ?_); rintro e2 x2 ⟨Ay, cy, rfl, hry, hx⟩; have HXY := am_ hx; have HRY := am_ (OwnF.of hry HKW.out HBW.out); clear hry hx; have HKY := am_ (bk_ HK3.out HXY.out); have HTH := am_ (then_calls Ay y.length cy 0 HKY.out)))
    | (go_at_call 41; ((with_reducible refine HTH.out.mono ?_); rintro e3 x3 ⟨rfl, hk, hch⟩; have HK4 := am_ hk; have HC4 := am_ hch; clear hk hch)))
  refine wp_w (fun W => W.heap[g6]? = some (.cells (pkA p A1 c1 A2 c2 b (.slice Ay y.length cy)) 101 (0, 0)) ∧ W.heap[g5]? = some (.cells #[.int .i64 p.kind, .int .i64 p.life, .int .i64 p.piece, .int .i64 p.frm, .int .i64 p.dst, .int .i64 p.fp, .int .i64 p.tp, .int .i64 p.flags, .int .i64 p.label, .bool p.bare, .int .i64 p.code, .slice A1 p.opts.length c1, .slice A2 p.data.length c2] 39 (0, 0)) ∧ PlaneAt W b x true (nearV nl) (.slice Aw 127 cw) ∧ W.heap[g]? = some (.cells #[.int .i64 0, .int .i64 0, .bool false, .slice none 0 0] 48 (0, 0)) ∧ OwnF g6 b W (.slice A1 p.opts.length c1) p.opts ∧ OwnF g6 b W (.slice Ay y.length cy) y ∧ Below w.heap.size w W) ?_ ?_
  · have l5 := HL6.out
    have l6 := HL5.out
    have lg := blk_lt HR1.out
    have lb := blk_lt HP.out.2.2
    have lw := HB1.out.size
    have ho : OwnF g6 b x1 (.slice A1 p.opts.length c1) p.opts := OwnF.of2 HO1.out (by have := HG5.out; omega) (by omega)
    refine ⟨HK4.out, (HC4.out.block _ (by omega)).trans (bk_ (bk_ HK2.out HX3.out) HXY.out), ?_, (HC4.out.block _ (by omega)).trans (bk_ (bk_ (bk_ HR1.out HX2.out) HX3.out) HXY.out), (((ho.frm (Frm.of_below HY2.out)).frm (Frm.of_below HX3.out)).frm (Frm.of_below HXY.out)).frm (Frm.of_k HC4.out), HRY.out.frm (Frm.of_k HC4.out), Chg.step (below_step HB3.out HXY.out) HC4.out (by omega)⟩
    have hp := HP.out.below (below_step HB3.out HXY.out)
    exact ⟨hp.1, hp.2.1, (HC4.out.block _ (by omega)).trans hp.2.2⟩
  intro w5 h5
  have HK5 := am_ h5.1
  have HF5 := am_ h5.2.1
  have HP5 := am_ h5.2.2.1
  have HR5 := am_ h5.2.2.2.1
  have HO5 := am_ h5.2.2.2.2.1
  have HY5 := am_ h5.2.2.2.2.2.1
  have HB5 := am_ h5.2.2.2.2.2.2
  have HN6 := am_ (show g6 ≠ b ∧ g ≠ b ∧ g ≠ g6 ∧ w.heap.size ≤ g6 from by
    have l5 := HL6.out
    have l6 := HL5.out
    have lg := blk_lt HR1.out
    have lb := HBL.out
    have lw := HB1.out.size
    have le := HLE.out
    omega)
  obtain ⟨k0, k1, k2, k3, k4, k5, k6, k7, k8, k9, k10, k11, k12⟩ := c13 h5.2.1
  obtain ⟨b1, b2⟩ := HP5.out.c_ad
  clear h5 HK4 HC4 HXY HKY HTH HAG HPA HPA0 HAG0 HRY HO1 HK2 HK3 HY2 HX1 HX2 HX3 HL5 HL6 HG5 HKW HBW HR1 HB1 HB3
  go_upto_region 16 with fail
  refine start_ (n := 20) (S := fun w' => w'.cell? ⟨g5, 4, none⟩ = some (.int .i64 p.dst) ∧ w'.cell? ⟨g5, 6, none⟩ = some (.int .i64 p.tp) ∧ w'.cell? ⟨b, 1, none⟩ = some (.int .i64 x.ad) ∧ w'.cell? ⟨b, 2, none⟩ = some (.int .i64 x.po)) (ds := []) #[fF,fF,fF,fF,fF,fF,fF,fF,fF,fF,fF,fF,fF,fF,fF,fF,fF,fF,fF,fF] (by kernel_rfl) rfl rfl ⟨k4, k6, b1, b2⟩ (fun hHeld => ?_)
  refine p_ 0 63 ?_
  refine p_ 2 65 ?_
  refine p_ 3 66 ?_
  refine p_ 4 67 ?_
  refine p_ 5 68 ?_
  refine p_ 6 69 ?_
  refine t_ 1 64 hHeld ?_
  refine t_ 7 70 hHeld ?_
  refine p_ 8 71 ?_
  refine p_ 9 72 ?_
  refine p_ 10 73 ?_
  refine p_ 12 75 ?_
  refine p_ 13 76 ?_
  refine p_ 14 77 ?_
  refine p_ 15 78 ?_
  refine p_ 16 79 ?_
  refine t_ 11 74 hHeld ?_
  refine t_ 17 80 hHeld ?_
  refine p_ 18 81 ?_
  refine p_ 19 82 ?_
  refine done_ (by kernel_rfl) ?_
  go_upto_region 17 with fail
  refine wp_w (fun W => Below w5.heap.size w5 W) ?_ ?_
  · first
      | exact Below.refl _ _
      | exact (Below.refl _ _).drew
      | exact bd (Below.refl _ _) _
  intro w7 h7
  have HIC := am_ (in_calls (bk_ HK5.out h7) (HP5.out.below h7) HN6.out.1 (Kd.C_below HWH.out (below_step HB5.out h7)) HCW.out (HO5.out.frm (Frm.of_below h7)) (HY5.out.frm (Frm.of_below h7)) HT.out.yy HT.out.yl HT.out.oy HT.out.ol HKD.out HH1.out HRR.out)
  have HR7 := am_ (bk_ HR5.out h7)
  have HB7 := am_ (below_step HB5.out h7)
  clear h7 k0 k1 k2 k3 k4 k5 k6 k7 k8 k9 k10 k11 k12 b1 b2
  go_wp2_with (first
    | (go_at_call 44; ((with_reducible refine HIC.out.mono ?_); rintro e4 x4 hin; have HINN := am_ (take_in_cases hin HR7.out HN6.out.2.2.1 HN6.out.2.1); clear hin; obtain ⟨d_, s_, ck_, A, n_, c, rfl, hR8, hv⟩ := HINN.out; have HV := am_ hv; have HR8 := am_ hR8; obtain ⟨t0, t1, t2, t3⟩ := c4 HR8.out; have u0 := fr_ HR8.out 0; have u1 := fr_ HR8.out 1; have u2 := fr_ HR8.out 2; have u3 := fr_ HR8.out 3; clear hR8 hv)))
  rcases HV.out with ⟨hneg, rfl, rfl, rfl, rfl, rfl, rfl, hfr⟩ | ⟨rfl, rfl, rfl, rfl, hro, hpo, hfr, hr0⟩
  · refine bodyPost_ret (results_cell_row rfl _ _ g 48 #[.int .i64 9, .int .i64 (-1), .bool false, .slice none 0 0] (0, 0) _ rfl (heap_setCell_same _ g 3 _ 48 _ (heap_setCell_same _ g 2 _ 48 _ (heap_setCell_same _ g 1 _ 48 _ (heap_setCell_same _ g 0 _ 48 _ HR8.out)))) Try.underlying48 rfl info48) rfl ?_
    exact Or.inl ⟨hneg, rfl, take_fin0 HN6.out.2.1 (grw_frm HB7.out HN6.out.2.2.2 hfr) HLE.out _ _ _ _⟩
  · obtain ⟨f1, f2, f3, f4⟩ := take_fin hro HR8.out hpo HN6.out.2.1 (grw_frm HB7.out HN6.out.2.2.2 hfr) HLE.out (.int .i64 0) (.int .i64 R.1) (.bool R.2) (.slice A (inL x p nl y R.1.toNat).length c)
    refine bodyPost_ret (results_cell_row rfl _ _ g 48 #[.int .i64 0, .int .i64 R.1, .bool R.2, .slice A (inL x p nl y R.1.toNat).length c] (0, 0) _ rfl f1 Try.underlying48 rfl info48) rfl ?_
    exact Or.inr ⟨A, c, rfl, f2, f3, f4, hr0⟩
theorem Kp.same {b : List Int} {p q : Pk} {len : Nat} (h : Kp b p len) (e : q = p) : Kp b q len := e ▸ h
theorem kp_out1 {x : Po} (ha : x.ad = 10) (hp : x.po = 80) {b : List Int} {p : Pk} {len : Nat} (h : Kp b p len) (h3 : p.kind ≠ 3) : Kp (out1 x b) { p with frm := 10, fp := 80 } len := by
  unfold out1
  rw [ha, hp]
  exact kp_src h h3 (by omega) (by omega) (by omega) (by omega)
theorem kp_out {x : Po} (ha : x.ad = 10) (hp : x.po = 80) {b : List Int} {p q : Pk} {len : Nat} (h : Kp b p len) (h3 : p.kind ≠ 3) (hk : q.kind = p.kind) (s : Nat) : Kp (outL x q b s) { p with frm := 10, fp := 80 } len := by
  have h1 := kp_out1 ha hp h h3
  unfold outL
  by_cases h2 : q.kind = 2
  · rw [if_pos h2]
    exact kp_write h1 h3 (Or.inr ⟨rfl, by show p.kind = 2; rw [← hk, h2]⟩)
  · rw [if_neg h2]
    by_cases hs : (stampL q.opts).2.2.2 = true
    · rw [if_pos hs]
      refine kp_write h1 h3 (Or.inl ?_)
      rcases stampL_ok q.opts with e | ⟨a, _, _, e⟩
      · rw [e] at hs; cases hs
      · rw [e]; show (24 : Int) ≤ 24 + (a : Int); omega
    · rw [if_neg hs]
      exact h1
theorem kp_in1 {x : Po} {m : Nat} (hI : Inv x m) {b : List Int} {p : Pk} {len : Nat} (h : Kp b p len) (h3 : p.kind ≠ 3) {s : Nat} (hs : s < 64) : Kp (in1 x b s) { p with dst := (x.s s).ad, tp := (x.s s).po } len := by
  have hp := hI.pl s hs
  unfold in1
  exact kp_dst h h3 hp.1 hp.2.1 hp.2.2.1 hp.2.2.2
theorem kp_in {x : Po} {m : Nat} (hI : Inv x m) {b : List Int} {p : Pk} {len : Nat} (h : Kp b p len) (h3 : p.kind ≠ 3) {s : Nat} (hs : s < 64) (q : Pk) (nl : List (Int × Bool)) : Kp (inL x q nl b s) { p with dst := (x.s s).ad, tp := (x.s s).po } len := by
  have h1 := kp_in1 hI h h3 hs
  unfold inL
  by_cases hc : (stampL q.opts).2.2.2 = true ∧ (stampL q.opts).2.2.1 ≠ 0
  · rw [if_pos hc]
    refine kp_write h1 h3 (Or.inl ?_)
    rcases stampL_ok q.opts with e | ⟨a, _, _, e⟩
    · rw [e] at hc; exact absurd hc.1 (by simp)
    · rw [e]; show (24 : Int) ≤ 24 + (a : Int) + 4; omega
  · rw [if_neg hc]
    exact h1
def fixK (p : Pk) : Pk := if p.kind = 3 then { p with kind := 2, code := 0 } else p
def xC (p : Pk) (ad po : Int) : Pk := { fixK p with frm := ad, fp := po, dst := 7000, life := 9, piece := 0 }
/-- What may be built, and taken apart again, and is not a fault. -/
structure Pok (p : Pk) : Prop where
  e : buildE p = 0
  c : Canon p
  k3 : p.kind ≠ 3
  k : p.kind = 1 ∨ p.kind = 2
  ol : p.opts.length ≤ 40
  dl : p.data.length ≤ 1500
theorem xC_ok {p : Pk} (h : MkOk p) {ad po : Int} (h0 : 0 ≤ ad) (h1 : ad ≤ 4294967295) (h2 : 0 ≤ po) (h3 : po ≤ 65535) : Pok (xC p ad po) := by
  obtain ⟨⟨k1, k3⟩, _, _, _, _, hn, hf, hnf, hg, hs⟩ := built_of h.e
  have c := h.c
  have r9 : rgB 9 255 = true := rfl
  have r0 : rgB 0 255 = true := rfl
  have r7 : rgB 7000 4294967295 = true := rfl
  have ra := rgB_true h0 h1
  have rp := rgB_true h2 h3
  have hd := h.d
  have ho := h.o
  by_cases hk3 : p.kind = 3
  · obtain ⟨f1, f2, f3, f4, f5, f6⟩ := c.f hk3
    have e : xC p ad po = { p with kind := 2, code := 0, frm := ad, fp := po, dst := 7000, life := 9, piece := 0 } := by unfold xC fixK; rw [if_pos hk3]
    rw [e]
    have n : nL { p with kind := 2, code := 0, frm := ad, fp := po, dst := 7000, life := 9, piece := 0 } = 24 + p.data.length := by simp [nL]
    refine ⟨?_, ⟨c.bo, c.bd, fun h => (by simp at h), fun _ => ⟨f3, rfl, f6⟩, fun h => (by simp at h)⟩, by simp, Or.inr rfl, h.o, by show p.data.length ≤ 1500; omega⟩
    unfold buildE
    rw [n, if_neg (by simp), if_neg ?_, if_neg (by simp), if_neg (by simp; omega)]
    unfold okR
    simp only [r9, r0, r7, ra, rp, f2, f4]
    simp [rgB]
  · have e : xC p ad po = { p with frm := ad, fp := po, dst := 7000, life := 9, piece := 0 } := by unfold xC fixK; rw [if_neg hk3]
    rw [e]
    obtain ⟨p0, p1⟩ := hnf hk3
    have rt := rgB_true p1.1 p1.2
    have hk : p.kind = 1 ∨ p.kind = 2 := by omega
    have n : nL { p with frm := ad, fp := po, dst := 7000, life := 9, piece := 0 } = nL p := rfl
    refine ⟨?_, ⟨c.bo, c.bd, c.s, c.g, fun h => absurd h hk3⟩, hk3, hk, h.o, by show p.data.length ≤ 1500; omega⟩
    unfold buildE
    rw [n, if_neg (by simp; omega), if_neg ?_, if_neg (by simp; omega), if_neg (by simp; omega)]
    unfold okR
    rcases hk with hk | hk
    · obtain ⟨s1, s2⟩ := hs hk
      have rf := rgB_true s1.1 s1.2
      simp only [r9, r0, r7, ra, rp, rt, hk, rf]
      simp
    · have g1 := hg hk
      have rl := rgB_true g1.1 g1.2
      simp only [r9, r0, r7, ra, rp, rt, hk, rl]
      simp
/-- The bytes that are built of it. -/
theorem pok_build {p : Pk} (h : Pok p) : Kp (buildL p) p (nL p) ∧ parseL (buildL p) = (p, 0) ∧ nL p ≤ 1500 := by
  obtain ⟨o, e, w, l, y⟩ := parse_build h.e h.c
  refine ⟨kp_build h.e h.c h.k3, by rw [o.parse, e], ?_⟩
  obtain ⟨_, _, _, _, _, hn, _⟩ := built_of h.e
  exact hn
theorem age_of {b : List Int} {p : Pk} {len : Nat} (h : Kp b p len) (h2 : 2 ≤ p.life) : ageR b = (thenL b (ageR b), 0) := by
  rw [ageR_ok h.o (by rw [h.life]; exact h2), thenL_ok]
theorem take_ok {w : World} {A : Option Addr} {c : Nat} {p : Pk} (h : Pok p) (hp : p.piece = 0) (hl : p.life = 9 ∨ p.life = 8) (hr : Rw w A c (buildL p)) : TakeOk w A c (buildL p) p (thenL (buildL p) (ageR (buildL p))) := by
  obtain ⟨hk, hpr, hn⟩ := pok_build h
  have ha := kp_age hk (by omega)
  exact ⟨hr, by rw [hk.l]; omega, hk.y, hpr, hp, by omega, h.k3, age_of hk (by omega), ha.y, by rw [ha.l]; omega, h.c.bo, by have := h.ol; omega⟩
/-- The packet that is built anew, with its two ends changed about. -/
def swapP (z : Pk) : Pk := { z with frm := z.dst, fp := z.tp, dst := z.frm, tp := z.fp }
/-- What is so of the bytes that come out. -/
structure OutOk (x : Po) (p : Pk) (s : Nat) (L : List Int) (z : Pk) : Prop where
  kp : Kp L { p with life := 8, frm := 10, fp := 80 } (nL p)
  pr : parseL L = (z, 0)
  zl : z.life = 8
  zp : z.piece = 0
  zo : z.opts.length ≤ 40
  zd : z.data.length ≤ 1500
  zf : z.frm = 10 ∧ z.fp = 80
  sw : Pok (swapP z)
  yl : Bytes L
theorem out_ok' {x : Po} {m : Nat} (hI : Inv x m) {p : Pk} (h : Pok p) (hp : p.piece = 0) (hl : p.life = 9) (hd : 0 ≤ p.dst ∧ p.dst ≤ 4294967295) (s : Nat) : ∃ z, OutOk x p s (outL x p (thenL (buildL p) (ageR (buildL p))) s) z := by
  obtain ⟨hk, hpr, hn⟩ := pok_build h
  have ha := kp_age hk (by omega)
  have ho := kp_out hI.ad hI.po ha h.k3 (q := p) rfl s
  obtain ⟨L, hL⟩ : ∃ L, outL x p (thenL (buildL p) (ageR (buildL p))) s = L := ⟨_, rfl⟩
  rw [hL] at ho ⊢
  have ho : Kp L { p with life := 8, frm := 10, fp := 80 } (nL p) := ho.same (by rw [hl]; rfl)
  obtain ⟨q1, q2, q3, q4, q5, q6, q7, q8⟩ := ho.pk h.k3
  obtain ⟨_, _, _, _, _, _, _, hnf, _, _⟩ := built_of h.e
  have ht := (hnf h.k3).2
  have hk3 : L.getD 0 0 ≠ 3 := by rw [ho.k]; exact h.k3
  have hag := pk_again ho.o ho.y hk3 (frm := p.dst) (dst := 10) (fp := p.tp) (tp := 80) hd (by omega) ht (by omega)
  have hll := ho.l
  have hsw : swapP (pkL L) = { pkL L with frm := p.dst, dst := 10, fp := p.tp, tp := 80 } := by
    unfold swapP
    rw [q5, q6, q7, q8]
  have hkk : (pkL L).kind = 1 ∨ (pkL L).kind = 2 := by rw [q2]; exact h.k
  have hnl := hag.2.2
  have hb := built_of hag.1
  have hol : (pkL L).opts.length ≤ 40 := by
    rcases hkk with hk1 | hk2
    · exact (hb.2.2.2.2.2.2.2.2.2 hk1).2
    · have := (hag.2.1.g hk2).2.2
      have e : (pkL L).opts = [] := this
      rw [e]; simp
  have hdl : (pkL L).data.length ≤ 1500 := by
    have h1 : nL { pkL L with frm := p.dst, dst := 10, fp := p.tp, tp := 80 } ≤ 1500 := hb.2.2.2.2.2.1
    have h2 : (pkL L).data.length ≤ nL { pkL L with frm := p.dst, dst := 10, fp := p.tp, tp := 80 } := by
      unfold nL
      split
      · show (pkL L).data.length ≤ 24 + (pkL L).data.length + (pkL L).opts.length; omega
      · split
        · show (pkL L).data.length ≤ 20 + (pkL L).data.length; omega
        · show (pkL L).data.length ≤ 24 + (pkL L).data.length; omega
    omega
  refine ⟨pkL L, ho, q1, q3, q4.trans hp, hol, hdl, ⟨q5, q7⟩, ?_, ho.y⟩
  rw [hsw]
  exact ⟨hag.1, hag.2.1, by show (pkL L).kind ≠ 3; rw [q2]; exact h.k3, hkk, hol, hdl⟩
theorem out_ok {x : Po} {m : Nat} (hI : Inv x m) {p : Pk} (h : Pok p) (hp : p.piece = 0) (hl : p.life = 9) (hd : p.dst = 7000) (s : Nat) : ∃ z, OutOk x p s (outL x p (thenL (buildL p) (ageR (buildL p))) s) z :=
  out_ok' hI h hp hl (by rw [hd]; decide) s
/-- What is so of the bytes that go in. -/
theorem in_ok {x : Po} {m : Nat} (hI : Inv x m) {p : Pk} (h : Pok p) (hl : p.life = 8) {s : Nat} (hs : s < 64) (nl : List (Int × Bool)) :
    wholeL (inL x p nl (thenL (buildL p) (ageR (buildL p))) s) = true ∧ (inL x p nl (thenL (buildL p) (ageR (buildL p))) s).length = (buildL p).length ∧ Bytes (inL x p nl (thenL (buildL p) (ageR (buildL p))) s) ∧ (inL x p nl (thenL (buildL p) (ageR (buildL p))) s).length ≤ 10000 := by
  obtain ⟨hk, hpr, hn⟩ := pok_build h
  have ha := kp_age hk (by omega)
  have hi := kp_in hI ha h.k3 hs p nl
  exact ⟨hi.w, by rw [hi.l, hk.l], hi.y, by rw [hi.l]; omega⟩
theorem in1_ok {x : Po} {m : Nat} (hI : Inv x m) {p : Pk} (h : Pok p) (hl : 2 ≤ p.life) : ∀ s : Nat, s < 64 → Bytes (in1 x (thenL (buildL p) (ageR (buildL p))) s) ∧ (in1 x (thenL (buildL p) (ageR (buildL p))) s).length ≤ 10000 := by
  intro s hs
  obtain ⟨hk, hpr, hn⟩ := pok_build h
  have hi := kp_in1 hI (kp_age hk (by omega)) h.k3 hs
  exact ⟨hi.y, by rw [hi.l]; omega⟩
theorem out1_ok {x : Po} {m : Nat} (hI : Inv x m) {p : Pk} (h : Pok p) (hl : p.life = 9) : Bytes (out1 x (thenL (buildL p) (ageR (buildL p)))) ∧ (out1 x (thenL (buildL p) (ageR (buildL p)))).length ≤ 10000 := by
  obtain ⟨hk, hpr, hn⟩ := pok_build h
  have hi := kp_out1 hI.ad hI.po (kp_age hk (by omega)) h.k3
  exact ⟨hi.y, by rw [hi.l]; omega⟩
theorem pok_in {p : Pk} (h : Pok p) : p.kind = 1 ∨ (p.kind = 2 ∧ p.opts = []) := by
  rcases h.k with k | k
  · exact Or.inl k
  · exact Or.inr ⟨k, (h.c.g k).2.2⟩
theorem twithin_calls (a : Int) {n : Int} (h0 : 0 < n) (h1 : n ≤ 4611686018427387904) (w : World) : Calls Try.prog 8 #[.int .i64 a, .int .i64 n] w fun e w' => e = .returned (.int .i64 (a % n)) ∧ Below w.heap.size w w' := by
  refine (roundhousetop_within.calls a n (a % n) w (within_f h0 h1)).mono ?_
  rintro e w' ⟨rfl, ⟨⟨nd, rfl⟩⟩⟩
  exact ⟨rfl, bd (Below.refl _ w) nd⟩
theorem rtakes_calls (st a b c d : Int) (w : World) : Calls Try.prog 9 #[.agg #[.int .i64 st, .int .i64 a, .int .i64 b, .int .i64 c, .int .i64 d]] w fun e w' => e = .returned (.bool (decide (st = 1 ∨ st = 2 ∨ st = 3))) ∧ Below w.heap.size w w' :=
  roundhouseref6_Takes.calls st a b c d _ w (by
    unfold roundhouseref6_Takes.f
    by_cases h1 : st = 1
    · simp [h1]
    · by_cases h2 : st = 2
      · simp [h2]
      · by_cases h3 : st = 3 <;> simp [h1, h2, h3])
def pk13 (p : Pk) (A1 : Option Addr) (c1 : Nat) (A2 : Option Addr) (c2 : Nat) : Array Value :=
  #[.int .i64 p.kind, .int .i64 p.life, .int .i64 p.piece, .int .i64 p.frm, .int .i64 p.dst, .int .i64 p.fp, .int .i64 p.tp, .int .i64 p.flags, .int .i64 p.label, .bool p.bare, .int .i64 p.code, .slice A1 p.opts.length c1, .slice A2 p.data.length c2]
theorem xC_rows (q : Pk) (a b : Int) : (xC q a b).opts = q.opts ∧ (xC q a b).data = q.data := by
  unfold xC fixK
  split <;> exact ⟨rfl, rfl⟩
theorem Frm.of_grw1 {k b : Nat} {w w' : World} (h : Grw k w w') : Frm k b w w' := ⟨h.os, h.tape, h.output, h.size, fun j hj h1 _ => h.block j hj h1⟩
theorem Frm.of_grw2 {k b : Nat} {w w' : World} (h : Grw b w w') : Frm k b w w' := ⟨h.os, h.tape, h.output, h.size, fun j hj _ h2 => h.block j hj h2⟩
/-- A row of numbers that is neither k nor b. -/
def OwnI (k b : Nat) (w : World) (v : Value) (l : List Int) : Prop := Kd.R (Kd.int .i64) 3 w 0 (fun j => j ≠ k ∧ j ≠ b) v l
theorem OwnI.frm {k b : Nat} {w w' : World} {v : Value} {l : List Int} (h : OwnI k b w v l) (f : Frm k b w w') : OwnI k b w' v l := Kd.R_step h fun j hj hl => f.block j hl hj.1 hj.2
theorem OwnI.of {k b B : Nat} {w : World} {v : Value} {l : List Int} (h : Kd.R (Kd.int .i64) 3 w B (fun _ => True) v l) (hk : k < B) (hb : b < B) : OwnI k b w v l :=
  Kd.R_lower (Kd.R_mono (Kd.R_bound h) (fun j hj => ⟨by have := hj.2.1; omega, by have := hj.2.1; omega⟩)) (Nat.zero_le _)
theorem PlaneAt.frm {k b g : Nat} {w w' : World} {p : Po} {is : Bool} {near : List Value} {wv : Value} (h : PlaneAt w g p is near wv) (f : Grw k w w') (hne : g ≠ k) : PlaneAt w' g p is near wv :=
  ⟨h.1, h.2.1, (f.block g (blk_lt h.2.2) hne).trans h.2.2⟩
theorem PoolAt.frm {k b g : Nat} {w w' : World} {p : Po} (h : PoolAt w g p) (f : Grw k w w') (hne : g ≠ k) : PoolAt w' g p := (f.block g (blk_lt h) hne).trans h
theorem rw_chg {B g n c : Nat} {A : Option Addr} {l : List Int} {w0 w1 W : World} (h : RB B w0 (.slice A n c) l) (hg : w0.heap.size ≤ g) (hb : Below w0.heap.size w0 w1) (hc : Chg g w1 W) : Rw W A c l := by
  have h1 : Kd.R (Kd.int .u8) 5 w0 B (fun j => j < g) (.slice A n c) l := Kd.R_mono (Kd.R_bound h) (fun j hj => by have := hj.2.2.1; omega)
  have h2 := Kd.R_step (w1 := W) (Kd.R_below h1 hb) (fun j hj _ => hc.block j (by omega))
  exact rw_of (Kd.R_mono h2 fun _ _ => trivial)
theorem OwnF.of3 {k b B : Nat} {w : World} {v : Value} {l : List Int} (h : RB B w v l) (hk : w.heap.size ≤ k) (hb : w.heap.size ≤ b) : OwnF k b w v l :=
  Kd.R_lower (Kd.R_mono (Kd.R_bound h) (fun j hj => ⟨by have := hj.2.2.1; omega, by have := hj.2.2.1; omega⟩)) (Nat.zero_le _)
theorem pnew_at {w : World} {g : Nat} (h : w.heap.size = g) : Calls Try.prog 12 #[] w fun e w' => e = .returned (.pointer (some ⟨g, 0, none⟩)) ∧ PlaneAt w' g Po.z false nearZ (.slice none 0 0) ∧ Below w.heap.size w w' := by
  subst h
  exact pnew_calls w
theorem ownI_chg {k b g c n : Nat} {w0 w1 W : World} {A : Option Addr} {l : List Int} (h : OwnI k b w0 (.slice A n c) l) (hg : w0.heap.size ≤ g) (hb : Below w0.heap.size w0 w1) (hc : Chg g w1 W) (hl : l.length = n) : Kd.C (Kd.int .i64) W A n l := by
  subst hl
  have h1 : Kd.R (Kd.int .i64) 3 w0 0 (fun j => j < g) (.slice A l.length c) l := Kd.R_mono (Kd.R_bound h) (fun j hj => by have := hj.2.2.1; omega)
  have h2 := Kd.R_step (w1 := W) (Kd.R_below h1 hb) (fun j hj _ => hc.block j (by omega))
  exact (Kd.R_reads' h2).2.2
/-- What the second unit's Take leaves. -/
theorem take_in_last {b : Nat} {e : Ending} {w w' : World} {R : Int × Bool} {L : List Int} {Q : Prop}
    (h : (R.1 < 0 ∧ e = .returned (.agg #[.int .i64 9, .int .i64 (-1), .bool false, .slice none 0 0]) ∧ Grw b w w') ∨ ∃ A c, e = .returned (.agg #[.int .i64 0, .int .i64 R.1, .bool R.2, .slice A L.length c]) ∧ Rw w' A c L ∧ Q ∧ Grw b w w' ∧ 0 ≤ R.1) :
    ∃ (d s : Int) (ck : Bool) (A : Option Addr) (n c : Nat), e = .returned (.agg #[.int .i64 d, .int .i64 s, .bool ck, .slice A n c]) ∧ (d = 9 ∨ (d = 0 ∧ n = L.length ∧ Rw w' A c L)) ∧ Grw b w w' := by
  rcases h with ⟨h0, rfl, hg⟩ | ⟨A, c, rfl, hr, _, hg, _⟩
  · exact ⟨9, -1, false, none, 0, 0, rfl, Or.inl rfl, hg⟩
  · exact ⟨0, R.1, R.2, A, L.length, c, rfl, Or.inr ⟨rfl, rfl, hr⟩, hg⟩
theorem inS_lt (x : Po) (p : Pk) : (inS x p).1.toNat < 64 := by
  have h1 := carried_b x p ⟨p.frm, p.fp, x.ad, x.po⟩
  have h2 := wheel_b (p := x) ⟨p.frm, p.fp, x.ad, x.po⟩
  unfold inS
  simp only at h2 ⊢
  split
  · show (carriedC x p ⟨p.frm, p.fp, x.ad, x.po⟩).1.toNat < 64
    omega
  · show (rd (wheelL x) (spunL 127 [3, p.frm, p.fp, x.ad, x.po])).toNat < 64
    omega
def pk0 : Pk := ⟨2, 9, 0, 1, 10, 0, 80, 0, 0, false, 0, [], []⟩
theorem pk0_e : buildE pk0 = 0 := by decide +kernel
theorem by_nil : Bytes [] := by intro n h; cases h
theorem pk0_c : Canon pk0 := ⟨by_nil, by_nil, by decide, by decide, by decide⟩
theorem rw_nil (w : World) : Rw w none 0 [] := ⟨⟨rfl, by decide, fun h => absurd h (by decide)⟩, by decide⟩
theorem c_nil (w : World) : Kd.C (Kd.int .i64) w none 0 [] := ⟨rfl, by decide, fun h => absurd h (by decide)⟩
theorem pk0_ok : Pok pk0 := ⟨pk0_e, pk0_c, by decide, Or.inr rfl, by decide, by decide⟩
theorem wks_none {p : Po} (h : ∀ i, i < 64 → (p.s i).st ≠ 2) : ∀ k i, i + k ≤ 64 → wksL p k i = []
  | 0, _, _ => rfl
  | k + 1, i, hi => by
    rw [wksL, if_neg (h i (by omega))]
    exact wks_none h k (i + 1) (by omega)
theorem inS_none {p : Po} (h : ∀ i, i < 64 → (p.s i).st ≠ 2) : inS p pk0 = (-1, false) := by
  have hb := spun_b 127 [3, 1, 0, p.ad, p.po] (by decide) (by decide)
  obtain ⟨i, hi⟩ := Int.eq_ofNat_of_zero_le hb.1
  have hw : wheelL p = List.replicate 127 (-1) := by unfold wheelL; rw [if_pos (wks_none h 64 0 (by omega))]
  have hr : rd (wheelL p) (spunL 127 [3, 1, 0, p.ad, p.po]) = -1 := by
    rw [hi, rd_nat, hw, List.getD_eq_getElem?_getD, List.getElem?_replicate, if_pos (by omega)]; rfl
  show (if (false && takesB (p.s 0).st) = true then ((0 : Int), true) else (rd (wheelL p) (spunL 127 [3, 1, 0, p.ad, p.po]), false)) = _
  rw [hr]
  rfl
theorem known_calls (w : World) : Calls Try.prog 6 #[] w fun e w' => e = .returned (.bool true) ∧ Below w.heap.size w w' := by
  obtain ⟨l, hl⟩ : ∃ l, buildL pk0 = l := ⟨_, rfl⟩
  obtain ⟨ob, pb, wb, lb, yb⟩ := parse_build pk0_e pk0_c
  rw [hl] at ob pb wb lb yb
  have HPB := am_ (show parseL l = (pk0, 0) from by rw [ob.parse, pb])
  have HLB := am_ (show l.length ≤ 10000 by rw [lb]; decide +kernel)
  have HYB := am_ yb
  have HLL := am_ hl
  have HN := am_ (fun W => new_calls 10 80 (by decide) (by decide) (by decide) (by decide) ⟨1, 0⟩ ⟨2, 0⟩ W)
  obtain ⟨x, hx⟩ : ∃ x, Po.new 10 80 ⟨1, 0⟩ ⟨2, 0⟩ = x := ⟨_, rfl⟩
  have HXL := am_ (show x.sl.length = 64 from by rw [← hx]; exact Po.new_len _ _ _ _)
  have HNA := am_ (show ∀ i, i < 64 → (x.s i).st ≠ 2 from by intro i _; rw [← hx, Po.new_s]; decide)
  have HIV := am_ (show Inv x 0 from by rw [← hx]; exact inv_new _ _)
  have HAD := am_ (show x.ad = 10 ∧ x.po = 80 from by rw [← hx]; exact ⟨rfl, rfl⟩)
  rw [hx] at HN
  obtain ⟨r, hr⟩ : ∃ r, ofL ⟨0, 0⟩ [] = r := ⟨_, rfl⟩
  have HW := am_ (fun W => show Calls Try.prog 27 #[.agg #[.int .u64 0, .int .u64 0], .slice none 0 0] W fun e w' => e = .returned (.int .u64 r) ∧ Below W.heap.size W w' from hr ▸ words_calls ⟨0, 0⟩ (w := W) (l := []) (c_nil W) rfl (by decide) (by decide))
  have HO := am_ (fun W => show Calls Try.prog 28 #[.agg #[.int .u64 0, .int .u64 0], .slice none 0 0] W fun e w' => e = .returned (.int .u64 r) ∧ Below W.heap.size W w' from hr ▸ of_calls ⟨0, 0⟩ (w := W) (l := []) (rw_nil W).rd rfl (by decide) (by decide))
  have HSM := am_ (fun W => show Calls Try.prog 26 #[.slice none 0 0] W fun e w' => e = .returned (.int .i64 65535) ∧ Drawn0 W w' from WB.of_calls (w := W) (l := []) (rw_nil W).rd rfl (by decide) by_nil (by decide))
  clear hl ob pb wb lb yb hx hr
  go_enter Try.func6, Try.ntmps6
  go_upto_region 2 with (first
    | (go_at_call 25; ((with_reducible refine (HN.out _).mono ?_); rintro e1 x1 ⟨rfl, hx1⟩; have HX1 := am_ hx1; clear hx1))
    | ((with_reducible refine gate_dst (N := 1) rfl ?_); refine pool_alloc rfl rfl ?_; intro g1 hg1 w1 hp1 hb1 hs1; have HP1 := am_ hp1; have HB1 := am_ hb1; have HG1 := am_ hg1; clear hp1 hb1 hs1 hg1)
    | ((with_reducible refine gate_store (t := 34) (p := 1) rfl ?_); refine pool_store (q := x) rfl rfl rfl rfl rfl HP1.out Po.z_len HXL.out ?_; intro w2 hp2 hc2; have HP2 := am_ hp2; have HC2 := am_ hc2; clear hp2 hc2))
  refine wp_w (fun W => PoolAt W g1 x ∧ Below w.heap.size w W) ?_ ?_
  · exact ⟨HP2.out, Chg.step (below_step HX1.out HB1.out) HC2.out (by have := HG1.out; have := HX1.out.size; omega)⟩
  intro w3 h3
  have HP3 := am_ h3.1
  have HB3 := am_ h3.2
  have HPN := am_ (pnew_calls w3)
  clear h3
  obtain ⟨b, hb⟩ : ∃ n, w3.heap.size = n := ⟨_, rfl⟩
  have HNE := am_ (show g1 ≠ b from by have := blk_lt HP3.out; omega)
  have HBL := am_ (show w.heap.size ≤ b from by have := HB3.out.size; omega)
  rw [hb] at HPN
  go_upto_region 5 with (first
    | (go_at_call 12; ((with_reducible refine HPN.out.mono ?_); rintro e2 x2 ⟨rfl, hp, hx2⟩; have HPL := am_ hp; have HX2 := am_ (show Below w3.heap.size w3 x2 from by rw [hb]; exact hx2); clear hp hx2)))
  refine wp_w (fun W => PlaneAt W b Po.z false nearZ (.slice none 0 0) ∧ PoolAt W g1 x ∧ Below w.heap.size w W) ?_ ?_
  · exact ⟨HPL.out, HP3.out.below HX2.out, below_step HB3.out HX2.out⟩
  intro w4 h4
  have HP4 := am_ h4.2.1
  have HB4 := am_ h4.2.2
  have HLD := am_ (load_calls h4.1 HXL.out)
  clear h4 hb
  go_upto_region 6 with (first
    | ((with_reducible refine gate_dst (N := 21) rfl ?_); refine pool_load rfl rfl rfl HP4.out HXL.out ?_)
    | (go_at_call 13; ((with_reducible refine HLD.out.mono ?_); rintro e3 x3 ⟨rfl, Aw, cw, hpl, hwr, hgr⟩; have HPL3 := am_ hpl; have HWR := am_ (Kd.R_reads' hwr); have HB5 := am_ (hgr.below HB4.out HB4.out.size HBL.out); clear hpl hwr hgr)))
  refine wp_w (fun W => PlaneAt W b x true nearZ (.slice Aw 127 cw) ∧ Kd.C (Kd.int .i64) W Aw 127 (wheelL x) ∧ Below w.heap.size w W) ?_ ?_
  · exact ⟨HPL3.out, by have h := HWR.out; have h2 := h.2.2; rw [← h.1] at h2; exact h2, HB5.out⟩
  intro w5 h5
  have HPL5 := am_ h5.1
  have HW5 := am_ h5.2.1
  have HB6 := am_ h5.2.2
  have HCW := am_ (show 127 ≤ cw from HWR.out.2.1)
  have HBU := am_ (show ∀ W, Below w5.heap.size w5 W → Calls Try.prog 11 #[.agg #[.int .i64 2, .int .i64 9, .int .i64 0, .int .i64 1, .int .i64 10, .int .i64 0, .int .i64 80, .int .i64 0, .int .i64 0, .bool false, .int .i64 0, .slice none 0 0, .slice none 0 0]] W fun e w' => ∃ (A : Option Addr) (c : Nat), e = .returned (.tuple #[.slice A l.length c, .int .i64 0]) ∧ RB w5.heap.size w' (.slice A l.length c) l ∧ Below w5.heap.size w5 w' from build_at (W0 := w5) (p := pk0) (rw_nil w5) (rw_nil w5) rfl rfl pk0_e (Or.inr rfl) pk0_c (by decide) (by decide) HLL.out)
  clear h5
  go_upto_region 7 with (first
    | (go_at_call 11; ((with_reducible refine (HBU.out _ (Below.refl _ _)).mono ?_); rintro e4 x4 ⟨Ab, cb, rfl, hrb, hx4⟩; have HRB := am_ (rw_of hrb); have HX4 := am_ hx4; clear hrb hx4)))
  have HTK := am_ (show Calls Try.prog 14 #[.pointer (some ⟨b, 0, none⟩), .slice Ab l.length cb] x4 fun e w' => e = .returned (.agg #[.int .i64 9, .int .i64 (-1), .bool false, .slice none 0 0]) ∧ Below w.heap.size w w' from by
    have hT := take_ok pk0_ok rfl (Or.inl rfl) (w := x4) (A := Ab) (c := cb) (by rw [HLL.out]; exact HRB.out)
    have h1 := in1_ok HIV.out pk0_ok (by decide)
    rw [HLL.out] at hT h1
    have hp := HPL5.out.below HX4.out
    rw [nearZ_eq] at hp
    refine (take_in hp hT (show (10 : Int) = x.ad by rw [HAD.out.1]) (show (80 : Int) = x.po by rw [HAD.out.2]) (Kd.C_below HW5.out HX4.out) HCW.out (Or.inr ⟨rfl, rfl⟩) h1 (inS_none HNA.out)).mono ?_
    rintro e w' (⟨_, he, hg⟩ | ⟨A, c, he, _, _, _, h0⟩)
    · exact ⟨he, hg.below (below_step HB6.out HX4.out) (below_step HB6.out HX4.out).size HBL.out⟩
    · exact absurd h0 (by decide))
  obtain ⟨g6, hg6⟩ : ∃ n, x4.heap.size = n := ⟨_, rfl⟩
  go_upto_region 8 with (first
    | (go_at_call 14; ((with_reducible refine HTK.out.mono ?_); rintro e5 x5 ⟨rfl, hx5⟩; have HX5 := am_ hx5; obtain ⟨g7, hg7⟩ : ∃ n, x5.heap.size = n := ⟨_, rfl⟩; clear hx5)))
  refine wp_w (fun W => W.heap[g7]? = some (.cells #[.int .i64 9, .int .i64 (-1), .bool false, .slice none 0 0] 48 (0, 0)) ∧ Below w.heap.size w W) ?_ ?_
  · exact ⟨by rw [← hg7]; exact new_blk x5 _, below_alloc HX5.out _⟩
  intro w7 h7
  have HB7 := am_ h7.2
  obtain ⟨t0, t1, t2, t3⟩ := c4 h7.1
  clear h7 hg6 hg7
  go_wp2_with (first
    | (go_at_call 26; ((with_reducible refine (HSM.out _).mono ?_); rintro e6 x6 ⟨rfl, ⟨⟨nq, rfl⟩⟩⟩))
    | (go_at_call 27; ((with_reducible refine (HW.out _).mono ?_); rintro e7 x7 ⟨rfl, hx⟩; have HX7 := am_ (below_step (bd HB7.out _) hx); clear hx))
    | (go_at_call 28; ((with_reducible refine (HO.out _).mono ?_); rintro e8 x8 ⟨rfl, hx⟩; have HX8 := am_ (below_step HX7.out hx); clear hx)))
  go_ret
  exact ⟨by simp, HX8.out⟩
theorem TopChain_walk {A0 : Option Addr} {cap0 n0 : Nat} {ns : List Int} (a1 : Int) {A2 : Option Addr} {cap2 n2 : Nat} {ms : List Int} {A3 : Option Addr} {cap3 n3 : Nat} {dl : List Int} (a4 : Int) {w : World}
    (hr : Kd.C (Kd.int .i64) w A0 n0 ns) (hn : ns.length = n0) (hc : n0 ≤ cap0) (hr2 : Kd.C (Kd.int .i64) w A2 n2 ms) (hn2 : ms.length = n2) (hc2 : n2 ≤ cap2) (hs2 : n2 ≤ 140737488351232) (hr3 : Rw w A3 cap3 dl) (hn3 : dl.length = n3) (hs3 : n3 ≤ 140737488351232) (hy3 : Bytes dl) :
    Calls Try.prog 3 #[.slice A0 n0 cap0, .int .i64 a1, .slice A2 n2 cap2, .slice A3 n3 cap3, .int .i64 a4] w fun e w' => e = .returned (.bool true) ∧ Below w.heap.size w w' := by
  have HKN := am_ (known_calls w)
  have HMK := am_ (fun W (hW : Below w.heap.size w W) => lmake_calls (w := W) (Kd.C_below hr hW) hn hc)
  have HW1 := am_ (fun W => twithin_calls a4 (n := 6) (by decide) (by decide) W)
  have hs0 := Int.emod_nonneg a4 (show (6 : Int) ≠ 0 by decide)
  have hs1 := Int.emod_lt_of_pos a4 (show (0 : Int) < 6 by decide)
  obtain ⟨s, hs⟩ := Int.eq_ofNat_of_zero_le hs0
  have HSI := am_ (show s < 64 by omega)
  rw [hs] at HW1
  obtain ⟨q, hq⟩ : ∃ q, makeP a1 ms dl = q := ⟨_, rfl⟩
  have HQ := am_ (show MkOk q by rw [← hq]; exact (makeP_ok a1 hy3).1)
  have HMA := am_ (fun W (hW : Below w.heap.size w W) => make_at (W0 := W) a1 (Kd.C_below hr2 hW) hn2 hc2 hs2 (hr3.below hW) hn3 hs3 hy3 hq W (Below.refl _ _))
  have hi0 : (0 : Int) ≤ (s : Int) := by omega
  have hi1 : (s : Int) < 64 := by omega
  clear hr hn hc hs0 hs1 hs hr2 hn2 hc2 hs2 hr3 hn3 hs3 hy3 hq
  go_enter Try.func3, Try.ntmps3
  go_upto_region 4 with (first
    | (go_at_call 6; (with_reducible refine HKN.out.mono ?_); rintro e1 x1 ⟨rfl, hx⟩; have HX1 := am_ hx; clear hx)
    | (go_at_call 7; ((with_reducible refine (HMK.out _ HX1.out).mono ?_); rintro e2 x2 ⟨p, hinv, rfl, hx⟩; have HI := am_ hinv; have HX2 := am_ (below_step HX1.out hx); clear hinv hx))
    | ((with_reducible refine gate_dst (N := 11) rfl ?_); refine pool_alloc rfl rfl ?_; intro g11 hg11 w1 hp1 hb1 hs1; have HP1 := am_ hp1; have HB1 := am_ hb1; have HG11 := am_ hg11; clear hp1 hb1 hs1 hg11)
    | ((with_reducible refine gate_store (t := 34) (p := 11) rfl ?_); refine pool_store (q := p) rfl rfl rfl rfl rfl HP1.out Po.z_len HI.out.len ?_; intro w2 hp2 hc2; have HP2 := am_ hp2; have HC2 := am_ hc2; clear hp2 hc2))
  refine wp_w (fun W => PoolAt W g11 p ∧ Below w.heap.size w W) ?_ ?_
  · exact ⟨HP2.out, Chg.step (below_step HX2.out HB1.out) HC2.out (by have := HG11.out; have := HX2.out.size; omega)⟩
  intro w3 h3
  have HP3 := am_ h3.1
  have HB3 := am_ h3.2
  obtain ⟨⟨st, sa, sp, sw, sq⟩, hss⟩ : ∃ x, p.s s = x := ⟨_, rfl⟩
  have HSS := am_ hss
  obtain ⟨d0, d1, d2, d3, d4⟩ := HP3.out.slot HI.out.len HSI.out
  rw [hss] at d0 d1 d2 d3 d4
  clear hss h3 HX1 HX2 HP1 HB1 HP2 HC2 HG11 HKN HMK
  go_upto_region 5 with (first
    | (go_at_call 8; ((with_reducible refine (HW1.out _).mono ?_); rintro e3 x3 ⟨rfl, hx⟩; have HX3 := am_ hx; obtain ⟨d0, d1, d2, d3, d4⟩ := (HP3.out.below hx).slot HI.out.len HSI.out; rw [HSS.out] at d0 d1 d2 d3 d4; obtain ⟨g12, hg12⟩ : ∃ n, x3.heap.size = n := ⟨_, rfl⟩; clear hx)))
  refine wp_w (fun W => W.heap[g12]? = some (.cells #[.int .i64 st, .int .i64 sa, .int .i64 sp, .int .i64 sw, .int .i64 sq] 26 (0, 0)) ∧ PoolAt W g11 p ∧ Below w.heap.size w W) ?_ ?_
  · have hb := below_alloc (Below.refl x3.heap.size x3) (.cells #[.int .i64 st, .int .i64 sa, .int .i64 sp, .int .i64 sw, .int .i64 sq] 26)
    exact ⟨by rw [← hg12]; exact new_blk x3 _, (HP3.out.below HX3.out).below hb, below_step (below_step HB3.out HX3.out) hb⟩
  intro w4 h4
  have HS4 := am_ h4.1
  have HP4 := am_ h4.2.1
  have HB4 := am_ h4.2.2
  obtain ⟨d0, d1, d2, d3, d4⟩ := c5 h4.1
  have HTK := am_ (fun W => rtakes_calls st sa sp sw sq W)
  clear h4 hg12 HX3 HP3 HB3 HW1 hi0 hi1
  by_cases ht : st = 1 ∨ st = 2 ∨ st = 3
  · have HTT := am_ ht
    have HDT := am_ (decide_eq_true ht)
    rw [HDT.out] at HTK
    clear ht
    go_upto_region 7 with (first
      | (go_at_call 9; ((with_reducible refine (HTK.out _).mono ?_); rintro e4 x4 ⟨rfl, hx⟩; have HX4 := am_ hx; clear hx)))
    refine wp_w (fun W => W.heap[g12]? = some (.cells #[.int .i64 st, .int .i64 sa, .int .i64 sp, .int .i64 sw, .int .i64 sq] 26 (0, 0)) ∧ PoolAt W g11 p ∧ Below w.heap.size w W) ?_ ?_
    · exact ⟨bk_ HS4.out HX4.out, HP4.out.below HX4.out, below_step HB4.out HX4.out⟩
    intro w5 h5
    have HS5 := am_ h5.1
    have HP5 := am_ h5.2.1
    have HB5 := am_ h5.2.2
    have HM5 := am_ (HMA.out w5 h5.2.2)
    clear h5 HX4 HS4 HP4 HB4 HTK d0 d1 d2 d3 d4 HMA
    go_upto_region 8 with (first
      | (go_at_call 10; ((with_reducible refine HM5.out.mono ?_); rintro e5 x5 ⟨A1, ca1, A5, ca5, rfl, ho, hd, hsep, hx⟩; have HO5 := am_ ho; have HD5 := am_ hd; have HX5 := am_ hx; obtain ⟨g13, hg13⟩ : ∃ n, x5.heap.size = n := ⟨_, rfl⟩; clear ho hd hsep hx)))
    refine wp_w (fun W => W.heap[g13]? = some (.cells (pk13 q A1 ca1 A5 ca5) 39 (0, 0)) ∧ Below x5.heap.size x5 W) ?_ ?_
    · exact ⟨by rw [← hg13]; exact new_blk x5 _, below_alloc (Below.refl _ x5) _⟩
    intro w6 h6
    have HK6 := am_ h6.1
    have HS6 := am_ (bk_ (bk_ HS5.out HX5.out) h6.2)
    have HP6 := am_ ((HP5.out.below HX5.out).below h6.2)
    have HB6 := am_ (below_step (below_step HB5.out HX5.out) h6.2)
    have HO6 := am_ (Kd.R_below HO5.out h6.2)
    have HD6 := am_ (Kd.R_below HD5.out h6.2)
    have HNE := am_ (show g13 ≠ g12 from by have := blk_lt (bk_ HS5.out HX5.out); omega)
    have HN1 := am_ (show g13 ≠ g11 from by have := blk_lt (HP5.out.below HX5.out); omega)
    have HWG := am_ (show w.heap.size ≤ g13 from by have := HB5.out.size; have := HX5.out.size; omega)
    have HOX := am_ (fun W (hW : Chg g13 w6 W) => And.intro (rw_chg HO5.out (Nat.le_of_eq hg13) h6.2 hW) (rw_chg HD5.out (Nat.le_of_eq hg13) h6.2 hW))
    obtain ⟨k0, k1, k2, k3, k4, k5, k6, k7, k8, k9, k10, k11, k12⟩ := c13 h6.1
    have v0 := fr_ h6.1 0
    have v10 := fr_ h6.1 10
    clear h6 hg13 HX5 HS5 HP5 HB5 HM5 HO5 HD5 HO6 HD6
    go_upto_if 42 with fail
    go_cut [] (fun wx => Aside (wx.heap[g13]? = some (.cells (pk13 (fixK q) A1 ca1 A5 ca5) 39 (0, 0)) ∧ Chg g13 w6 wx))
    case first =>
      by_cases hk3 : q.kind = 3
      · have hd3 : (q.kind == 3) = true := beq_iff_eq.mpr hk3
        have HFX := am_ (show fixK q = { q with kind := 2, code := 0 } from if_pos hk3)
        clear hk3
        go_wp2
        go_meet
        rw [HFX.out]
        exact ⟨heap_setCell_same _ g13 10 _ 39 _ (heap_setCell_same _ g13 0 _ 39 _ HK6.out), ((Chg.refl g13 w6).set _ _).set _ _⟩
      · have hd3 : (q.kind == 3) = false := beq_eq_false_iff_ne.mpr hk3
        have HFX := am_ (show fixK q = q from if_neg hk3)
        clear hk3
        go_wp2
        go_meet
        rw [HFX.out]
        exact ⟨HK6.out, Chg.refl g13 w6⟩
    case rest =>
    rename World => w7
    have HK7 := am_ hcut.out.1
    have HC7 := am_ hcut.out.2
    have HS7 := am_ ((hcut.out.2.block g12 (Ne.symm HNE.out)).trans HS6.out)
    clear hcut k0 k1 k2 k3 k4 k5 k6 k7 k8 k9 k10 k11 k12 v0 v10 HK6
    obtain ⟨d0, d1, d2, d3, d4⟩ := c5 HS7.out
    obtain ⟨k0, k1, k2, k3, k4, k5, k6, k7, k8, k9, k10, k11, k12⟩ := c13 HK7.out
    have v1 := fr_ HK7.out 1
    have v2 := fr_ HK7.out 2
    have v3 := fr_ HK7.out 3
    have v4 := fr_ HK7.out 4
    have v5 := fr_ HK7.out 5
    go_upto_region 10 with fail
    refine start_ (n := 14) (S := fun w' => w'.cell? ⟨g12, 1, none⟩ = some (.int .i64 sa) ∧ w'.cell? ⟨g12, 2, none⟩ = some (.int .i64 sp)) (ds := [7, 9, 11, 13]) #[fF,fF,fF,fF,fF,fF,fF,fF,fF,fF,fF,fF,fF,fF] (by kernel_rfl) rfl rfl ⟨d1, d2⟩ (fun hHeld => ?_)
    refine p_ 0 45 ?_
    refine p_ 2 47 ?_
    refine t_ 1 46 hHeld ?_
    refine p_ 4 49 ?_
    refine t_ 3 48 hHeld ?_
    refine o_ 5 none (fun K hK => ?_)
    refine s_ ?_
    refine hK.out _ _ ⟨((World.cell?_setCell_far _ _ _ _ (show g13 ≠ g12 from HNE.out)).trans d1), ((World.cell?_setCell_far _ _ _ _ (show g13 ≠ g12 from HNE.out)).trans d2)⟩ (fun hHeld => ?_)
    clear hK K
    refine p_ 6 50 ?_
    refine l_ 7 none (fun K hK => ?_)
    refine s_ ?_
    refine hK.out _ _ ?_
    clear hK K
    refine p_ 8 51 ?_
    refine l_ 9 none (fun K hK => ?_)
    refine s_ ?_
    refine hK.out _ _ ?_
    clear hK K
    refine p_ 10 52 ?_
    refine l_ 11 none (fun K hK => ?_)
    refine s_ ?_
    refine hK.out _ _ ?_
    clear hK K
    refine p_ 12 53 ?_
    refine l_ 13 none (fun K hK => ?_)
    refine s_ ?_
    refine hK.out _ _ ?_
    clear hK K
    refine done_ (by kernel_rfl) ?_
    go_upto_region 11 with fail
    refine wp_w (fun W => W.heap[g13]? = some (.cells (pk13 (xC q sa sp) A1 ca1 A5 ca5) 39 (0, 0)) ∧ Chg g13 w6 W) ?_ ?_
    · exact ⟨heap_setCell_same _ g13 2 _ 39 _ (heap_setCell_same _ g13 1 _ 39 _ (heap_setCell_same _ g13 4 _ 39 _ (heap_setCell_same _ g13 5 _ 39 _ (heap_setCell_same _ g13 3 _ 39 _ HK7.out)))), (((((HC7.out.set _ _).set _ _).set _ _).set _ _).set _ _).drew⟩
    intro w8 h8
    obtain ⟨X, hX⟩ : ∃ z, xC q sa sp = z := ⟨_, rfl⟩
    have HPK := am_ (show Pok X by
      rw [← hX]
      have h := HI.out.pl s HSI.out
      rw [HSS.out] at h
      exact xC_ok HQ.out h.1 h.2.1 h.2.2.1 h.2.2.2)
    have HXF := am_ (show X.life = 9 ∧ X.piece = 0 ∧ X.dst = 7000 ∧ X.frm = sa ∧ X.fp = sp by rw [← hX]; exact ⟨rfl, rfl, rfl, rfl, rfl⟩)
    have hrw := HOX.out w8 h8.2
    rw [← (xC_rows q sa sp).1, ← (xC_rows q sa sp).2, hX] at hrw
    rw [hX] at h8
    have HP8 := am_ (HP6.out.chg h8.2 (Ne.symm HN1.out))
    have HB8 := am_ (Chg.step HB6.out h8.2 HWG.out)
    obtain ⟨bl, hbl⟩ : ∃ z, buildL X = z := ⟨_, rfl⟩
    have HBL := am_ hbl
    have HBU := am_ (build_at (W0 := w8) hrw.1 hrw.2 rfl rfl HPK.out.e HPK.out.k HPK.out.c (by have := HPK.out.ol; omega) (by have := HPK.out.dl; omega) hbl)
    clear k0 k1 k2 k3 k4 k5 k6 k7 k8 k9 k10 k11 k12 v1 v2 v3 v4 v5 d0 d1 d2 d3 d4
    obtain ⟨k0, k1, k2, k3, k4, k5, k6, k7, k8, k9, k10, k11, k12⟩ := c13 h8.1
    clear h8 hX hrw hbl hHeld HK7 HC7 HS7 HOX HP6 HB6 HNE HN1 HWG HS6
    go_upto_region 12 with (first
      | (go_at_call 11; ((with_reducible refine (HBU.out _ ?hb).mono ?_); (case hb => (repeat (first | with_reducible exact Below.refl _ _ | with_reducible apply below_alloc | with_reducible apply pw_below_drewN | with_reducible apply below_drew1 | exact bd (Below.refl _ _) _ | exact (Below.refl _ _).drew))); rintro e6 x6 ⟨Ab, cb, rfl, hrb, hx⟩; have HRB := am_ hrb; have HX6 := am_ hx; clear hrb hx)))
    refine wp_w (fun W => RB w8.heap.size W (.slice Ab bl.length cb) bl ∧ PoolAt W g11 p ∧ Below w.heap.size w W) ?_ ?_
    · exact ⟨HRB.out, HP8.out.below HX6.out, below_step HB8.out HX6.out⟩
    intro w9 h9
    have HR9 := am_ h9.1
    have HP9 := am_ h9.2.1
    have HB9 := am_ h9.2.2
    obtain ⟨gu, hgu⟩ : ∃ n, w9.heap.size = n := ⟨_, rfl⟩
    have HN91 := am_ (pnew_at hgu)
    have HGU := am_ hgu
    clear h9 hgu HRB HX6 HP8 HB8 HBU k0 k1 k2 k3 k4 k5 k6 k7 k8 k9 k10 k11 k12
    go_upto_region 13 with (first
      | (go_at_call 12; ((with_reducible refine HN92.out.mono ?_); rintro e8 x8 ⟨rfl, hp, hx⟩; have HV8 := am_ hp; have HX8 := am_ hx; clear hp hx))
      | (go_at_call 12; ((with_reducible refine HN91.out.mono ?_); rintro e7 x7 ⟨rfl, hp, hx⟩; have HU7 := am_ hp; have HX7 := am_ hx; obtain ⟨gv, hgv⟩ : ∃ n, x7.heap.size = n := ⟨_, rfl⟩; have HGV := am_ hgv; have HN92 := am_ (pnew_at hgv); clear hp hx hgv)))
    refine wp_w (fun W => PlaneAt W gu Po.z false nearZ (.slice none 0 0) ∧ PlaneAt W gv Po.z false nearZ (.slice none 0 0) ∧ OwnF gu gv W (.slice Ab bl.length cb) bl ∧ PoolAt W g11 p ∧ Below w.heap.size w W) ?_ ?_
    · have hl := HX7.out.size
      have h1 := HGU.out
      have h2 := HGV.out
      exact ⟨HU7.out.below HX8.out, HV8.out, ((OwnF.of3 HR9.out (by omega) (by omega)).frm (Frm.of_below HX7.out)).frm (Frm.of_below HX8.out), (HP9.out.below HX7.out).below HX8.out, below_step (below_step HB9.out HX7.out) HX8.out⟩
    intro w10 h10
    have HNB := am_ (show g11 < gu ∧ gu < gv ∧ w.heap.size ≤ gu from by
      have h1 := HGU.out
      have h2 := HGV.out
      have h3 := blk_lt HP9.out
      have h4 := blk_lt HU7.out.2.2
      have h5 := HB9.out.size
      omega)
    have HLU := am_ (load_calls h10.1 HI.out.len)
    have HV10 := am_ h10.2.1
    have HO10 := am_ h10.2.2.1
    have HP10 := am_ h10.2.2.2.1
    have HB10 := am_ h10.2.2.2.2
    clear h10 HR9 HP9 HB9 HGU HGV HN91 HN92 HU7 HX7 HV8 HX8
    go_upto_region 16 with (first
      | ((with_reducible refine gate_dst (N := 72) rfl ?_); refine pool_load rfl rfl rfl HP10.out HI.out.len ?_)
      | (go_at_call 13; ((with_reducible refine HLU.out.mono ?_); rintro e9 x9 ⟨rfl, Au, cu, hpu, hru, hgr⟩; have HPU := am_ hpu; have HGR := am_ hgr; clear hpu hru hgr)))
    refine wp_w (fun W => PlaneAt W gu p true nearZ (.slice Au 127 cu) ∧ PlaneAt W gv Po.z false nearZ (.slice none 0 0) ∧ OwnF gu gv W (.slice Ab bl.length cb) bl ∧ PoolAt W g11 p ∧ Below w.heap.size w W) ?_ ?_
    · have hn := HNB.out
      exact ⟨HPU.out, HV10.out.frm (b := 0) HGR.out (by omega), HO10.out.frm (Frm.of_grw1 HGR.out), HP10.out.frm (b := 0) HGR.out (by omega), HGR.out.below HB10.out HB10.out.size hn.2.2⟩
    intro w11 h11
    have HU11 := am_ h11.1
    have HLV := am_ (load_calls h11.2.1 HI.out.len)
    have HVL := am_ (blk_lt h11.2.1.2.2)
    have HO11 := am_ h11.2.2.1
    have HP11 := am_ h11.2.2.2.1
    have HB11 := am_ h11.2.2.2.2
    clear h11 HLU HV10 HO10 HP10 HB10 HPU HGR
    go_upto_region 17 with (first
      | ((with_reducible refine gate_dst (N := 75) rfl ?_); refine pool_load rfl rfl rfl HP11.out HI.out.len ?_)
      | (go_at_call 13; ((with_reducible refine HLV.out.mono ?_); rintro e10 x10 ⟨rfl, Av, cv, hpv, hrv, hgr⟩; have HPV := am_ hpv; have HRV := am_ hrv; have HGR := am_ hgr; clear hpv hrv hgr)))
    refine wp_w (fun W => PlaneAt W gu p true nearZ (.slice Au 127 cu) ∧ PlaneAt W gv p true nearZ (.slice Av 127 cv) ∧ OwnF gu gv W (.slice Ab bl.length cb) bl ∧ OwnI gu gv W (.slice Av 127 cv) (wheelL p) ∧ Below w.heap.size w W) ?_ ?_
    · have hn := HNB.out
      have hv := HVL.out
      exact ⟨HU11.out.frm (b := 0) HGR.out (by omega), HPV.out, HO11.out.frm (Frm.of_grw2 HGR.out), OwnI.of HRV.out (by omega) hv, HGR.out.below HB11.out HB11.out.size (by omega)⟩
    intro w12 h12
    have HCV := am_ (show 127 ≤ cv ∧ (wheelL p).length = 127 from by
      have h := Kd.R_reads' HRV.out
      exact ⟨h.2.1, h.1.symm⟩)
    rw [nearZ_eq] at h12
    obtain ⟨nz, hnz⟩ : ∃ z, List.replicate 64 ((0 : Int), false) = z := ⟨_, rfl⟩
    rw [hnz] at h12
    have HV12 := am_ h12.2.1
    have HI12 := am_ h12.2.2.2.1
    have HB12 := am_ h12.2.2.2.2
    obtain ⟨y1, hy1⟩ : ∃ z, thenL bl (ageR bl) = z := ⟨_, rfl⟩
    obtain ⟨L, hL⟩ : ∃ z, outL p X y1 s = z := ⟨_, rfl⟩
    obtain ⟨z, hz⟩ := out_ok HI.out HPK.out HXF.out.2.1 HXF.out.1 HXF.out.2.2.1 s
    rw [HBL.out, hy1, hL] at hz
    have HZ := am_ hz
    have HTO := am_ (show Calls Try.prog 14 #[.pointer (some ⟨gu, 0, none⟩), .slice Ab bl.length cb] w12 fun e w' => ∃ A c, e = .returned (.agg #[.int .i64 0, .int .i64 (-1), .bool false, .slice A L.length c]) ∧ Rw w' A c L ∧ Grw gu w12 w' from by
      have hT := take_ok HPK.out HXF.out.2.1 (Or.inl HXF.out.1) (w := w12) (A := Ab) (c := cb) (by rw [HBL.out]; exact h12.2.2.1.rw)
      have h1 := out1_ok HI.out HPK.out HXF.out.1
      rw [HBL.out, hy1] at hT h1
      have hf := find_self HI.out HSI.out (by rw [HSS.out]; have := HTT.out; show st ≠ 0 ∧ st ≠ 4; omega) 64 0 (Nat.zero_le _) (by have := HSI.out; omega) (by omega)
      rw [HSS.out] at hf
      have hf : findR p X.frm X.fp 64 0 = ((s : Int), true) := by rw [HXF.out.2.2.2.1, HXF.out.2.2.2.2]; exact hf
      have h := take_out h12.1 hT (by rw [HXF.out.2.2.1, HI.out.ad]; decide) hf HSI.out h1.1 h1.2
      rw [hL] at h
      refine h.mono ?_
      rintro e w' ⟨A, c, he, h1, h2, h3⟩
      exact ⟨A, c, he, h1, h3⟩)
    clear h12 hz hL hy1 hnz HLV HU11 HVL HO11 HP11 HB11 HPV HRV HGR
    go_upto_region 18 with (first
      | (go_at_call 14; ((with_reducible refine HTO.out.mono ?_); rintro e11 x11 ⟨Ao, co, rfl, hro, hgr⟩; have HRO := am_ hro; have HGR := am_ hgr; obtain ⟨g18, hg18⟩ : ∃ n, x11.heap.size = n := ⟨_, rfl⟩; clear hro hgr)))
    refine wp_w (fun W => W.heap[g18]? = some (.cells #[.int .i64 0, .int .i64 (-1), .bool false, .slice Ao L.length co] 48 (0, 0)) ∧ Rw W Ao co L ∧ PlaneAt W gv p true (nearV nz) (.slice Av 127 cv) ∧ OwnI gu gv W (.slice Av 127 cv) (wheelL p) ∧ Below w.heap.size w W) ?_ ?_
    · have hb := below_alloc (Below.refl x11.heap.size x11) (.cells #[.int .i64 0, .int .i64 (-1), .bool false, .slice Ao L.length co] 48)
      have hn := HNB.out
      exact ⟨by rw [← hg18]; exact new_blk x11 _, HRO.out.below hb, (HV12.out.frm (b := 0) HGR.out (by omega)).below hb, (HI12.out.frm (Frm.of_grw1 HGR.out)).frm (Frm.of_below hb), below_step (HGR.out.below HB12.out HB12.out.size hn.2.2) hb⟩
    intro w13 h13
    have HG13 := am_ h13.1
    have HR13 := am_ h13.2.1
    have HV13 := am_ h13.2.2.1
    have HI13 := am_ h13.2.2.2.1
    have HB13 := am_ h13.2.2.2.2
    have HLL := am_ (show L.length ≤ 10000 by rw [HZ.out.kp.l]; have := (pok_build HPK.out).2.2; omega)
    have HPS := am_ (parse_at (W0 := w13) h13.2.1 rfl HLL.out HZ.out.yl HZ.out.pr)
    obtain ⟨t0, t1, t2, t3⟩ := c4 h13.1
    clear h13 hg18 HTO HRO HGR HV12 HI12 HB12
    go_upto_region 19 with (first
      | (go_at_call 15; ((with_reducible refine (HPS.out _ ?hb).mono ?_); (case hb => (repeat (first | with_reducible exact Below.refl _ _ | with_reducible apply below_alloc | with_reducible apply pw_below_drewN | with_reducible apply below_drew1 | exact bd (Below.refl _ _) _ | exact (Below.refl _ _).drew))); rintro e12 x12 ⟨A6, ca6, A7, ca7, rfl, ho, hd, hsep, hx⟩; have HO12 := am_ ho; have HD12 := am_ hd; have HX12 := am_ hx; obtain ⟨g19, hg19⟩ : ∃ n, x12.heap.size = n := ⟨_, rfl⟩; clear ho hd hsep hx)))
    refine wp_w (fun W => W.heap[g19]? = some (.cells (pk13 z A6 ca6 A7 ca7) 39 (0, 0)) ∧ Below x12.heap.size x12 W) ?_ ?_
    · exact ⟨by rw [← hg19]; exact new_blk x12 _, below_alloc (Below.refl _ x12) _⟩
    intro w14 h14
    have HI13' := am_ HI13.out
    have HV13' := am_ (HV13.out.below HX12.out)
    have HB13' := am_ (below_step HB13.out HX12.out)
    have HK14 := am_ h14.1
    have HY14 := am_ h14.2
    have HG14 := am_ (bk_ (bk_ HG13.out HX12.out) h14.2)
    have HR14 := am_ ((HR13.out.below HX12.out).below h14.2)
    have HV14 := am_ ((HV13.out.below HX12.out).below h14.2)
    have HI14 := am_ ((HI13.out.frm (Frm.of_below HX12.out)).frm (Frm.of_below h14.2))
    have HB14 := am_ (below_step (below_step HB13.out HX12.out) h14.2)
    have HG19 := am_ hg19
    have HWH := am_ (whole_at (W0 := w14) HR14.out rfl HLL.out HZ.out.yl HZ.out.kp.w)
    have hdl : ((L.length : Int) != (bl.length : Int)) = false := by
      have h1 := HZ.out.kp.l
      have h2 := (pok_build HPK.out).1.l
      rw [HBL.out] at h2
      rw [h1, h2]
      simp
    clear t0 t1 t2 t3
    obtain ⟨t0, t1, t2, t3⟩ := c4 HG14.out
    clear h14 hg19 HPS HG13 HR13 HV13 HI13 HB13
    go_upto_region 21 with (first
      | (go_at_call 16; ((with_reducible refine (HWH.out _ ?hb).mono ?_); (case hb => (repeat (first | with_reducible exact Below.refl _ _ | with_reducible apply below_alloc | with_reducible apply pw_below_drewN | with_reducible apply below_drew1 | exact bd (Below.refl _ _) _ | exact (Below.refl _ _).drew))); rintro e13 x13 ⟨rfl, hx⟩; have HX13 := am_ hx; obtain ⟨t0, t1, t2, t3⟩ := c4 (bk_ HG14.out hx); clear hx)))
    refine wp_w (fun W => W.heap[g19]? = some (.cells (pk13 z A6 ca6 A7 ca7) 39 (0, 0)) ∧ Below w14.heap.size w14 W) ?_ ?_
    · exact ⟨bk_ HK14.out HX13.out, HX13.out⟩
    intro w15 h15
    have HK15 := am_ h15.1
    have HY15 := am_ (below_step HY14.out h15.2)
    have HV15 := am_ (HV14.out.below h15.2)
    have HI15 := am_ (HI14.out.frm (Frm.of_below h15.2))
    have HB15 := am_ (below_step HB14.out h15.2)
    have HNV := am_ (show g19 ≠ gv ∧ w.heap.size ≤ g19 from by
      have h1 := HG19.out
      have h2 := blk_lt HV13'.out.2.2
      have h3 := HB13'.out.size
      omega)
    have HXW := am_ (show Below w13.heap.size w13 w15 from below_step HX12.out HY15.out)
    have HGL := am_ (show w13.heap.size ≤ g19 from by have h1 := HG19.out; have h3 := HX12.out.size; omega)
    clear h15 t0 t1 t2 t3 hdl HV13' HB13' HWH HX13 HX12 HK14 HG14 HR14 HV14 HI14 HB14 HY14 HI15
    obtain ⟨k0, k1, k2, k3, k4, k5, k6, k7, k8, k9, k10, k11, k12⟩ := c13 HK15.out
    have v3 := fr_ HK15.out 3
    have v4 := fr_ HK15.out 4
    have v5 := fr_ HK15.out 5
    have v6 := fr_ HK15.out 6
    go_upto_region 22 with fail
    refine wp_w (fun W => W.heap[g19]? = some (.cells (pk13 (swapP z) A6 ca6 A7 ca7) 39 (0, 0)) ∧ Chg g19 w15 W) ?_ ?_
    · exact ⟨heap_setCell_same _ g19 6 _ 39 _ (heap_setCell_same _ g19 4 _ 39 _ (heap_setCell_same _ g19 5 _ 39 _ (heap_setCell_same _ g19 3 _ 39 _ HK15.out))), ((((Chg.refl g19 w15).set _ _).set _ _).set _ _).set _ _⟩
    intro w16 h16
    obtain ⟨cl, hcl⟩ : ∃ x, buildL (swapP z) = x := ⟨_, rfl⟩
    have HCL := am_ hcl
    have HBU := am_ (build_at (W0 := w16) (p := swapP z) (rw_chg HO12.out (Nat.le_of_eq HG19.out) HY15.out h16.2) (rw_chg HD12.out (Nat.le_of_eq HG19.out) HY15.out h16.2) rfl rfl HZ.out.sw.e HZ.out.sw.k HZ.out.sw.c (by have := HZ.out.sw.ol; omega) (by have := HZ.out.sw.dl; omega) hcl)
    have HW16 := am_ (ownI_chg HI13'.out HGL.out HXW.out h16.2 HCV.out.2)
    have HV16 := am_ (show PlaneAt w16 gv p true (nearV nz) (.slice Av 127 cv) from ⟨HV15.out.1, HV15.out.2.1, (h16.2.block gv (Ne.symm HNV.out.1)).trans HV15.out.2.2⟩)
    have HB16 := am_ (Chg.step HB15.out h16.2 HNV.out.2)
    clear k0 k1 k2 k3 k4 k5 k6 k7 k8 k9 k10 k11 k12 v3 v4 v5 v6
    obtain ⟨k0, k1, k2, k3, k4, k5, k6, k7, k8, k9, k10, k11, k12⟩ := c13 h16.1
    clear h16 hcl HO12 HD12 HG19 HY15 HGL HXW HI13' HNV HV15 HB15 HK15
    go_upto_region 23 with (first
      | (go_at_call 11; ((with_reducible refine (HBU.out _ ?hb).mono ?_); (case hb => (repeat (first | with_reducible exact Below.refl _ _ | with_reducible apply below_alloc | with_reducible apply pw_below_drewN | with_reducible apply below_drew1 | exact bd (Below.refl _ _) _ | exact (Below.refl _ _).drew))); rintro e14 x14 ⟨Ac, cc, rfl, hrb, hx⟩; have HRC := am_ (rw_of hrb); have HX14 := am_ hx; clear hrb hx)))
    refine wp_w (fun W => Rw W Ac cc cl ∧ Below w16.heap.size w16 W) ?_ ?_
    · exact ⟨HRC.out, HX14.out⟩
    intro w17 h17
    have HV17 := am_ (HV16.out.below h17.2)
    have HW17 := am_ (Kd.C_below HW16.out h17.2)
    have HB17 := am_ (below_step HB16.out h17.2)
    obtain ⟨y2, hy2⟩ : ∃ x, thenL cl (ageR cl) = x := ⟨_, rfl⟩
    obtain ⟨R, hR⟩ : ∃ x, inS p (swapP z) = x := ⟨_, rfl⟩
    obtain ⟨L3, hL3⟩ : ∃ x, inL p (swapP z) nz y2 R.1.toNat = x := ⟨_, rfl⟩
    have HL3 := am_ (show wholeL L3 = true ∧ L3.length = cl.length ∧ Bytes L3 ∧ L3.length ≤ 10000 from by
      have h := in_ok HI.out HZ.out.sw (show (swapP z).life = 8 from HZ.out.zl) (s := R.1.toNat) (by rw [← hR]; exact inS_lt _ _) nz
      rw [HCL.out, hy2, hL3] at h
      exact h)
    have HTI := am_ (show Calls Try.prog 14 #[.pointer (some ⟨gv, 0, none⟩), .slice Ac cl.length cc] w17 fun e w' => ∃ (d s : Int) (ck : Bool) (A : Option Addr) (n c : Nat), e = .returned (.agg #[.int .i64 d, .int .i64 s, .bool ck, .slice A n c]) ∧ (d = 9 ∨ (d = 0 ∧ n = L3.length ∧ Rw w' A c L3)) ∧ Grw gv w17 w' from by
      have hT := take_ok HZ.out.sw (show (swapP z).piece = 0 from HZ.out.zp) (Or.inr (show (swapP z).life = 8 from HZ.out.zl)) (w := w17) (A := Ac) (c := cc) (by rw [HCL.out]; exact h17.1)
      have h1 := in1_ok HI.out HZ.out.sw (show 2 ≤ (swapP z).life by rw [show (swapP z).life = 8 from HZ.out.zl]; decide)
      rw [HCL.out, hy2] at hT h1
      have h := take_in HV17.out hT (show z.frm = p.ad by rw [HZ.out.zf.1, HI.out.ad]) (show z.fp = p.po by rw [HZ.out.zf.2, HI.out.po]) HW17.out HCV.out.1 (pok_in HZ.out.sw) h1 hR
      rw [hL3] at h
      exact h.mono fun e w' h => take_in_last h)
    clear h17 hy2 hR hL3 HV16 HW16 HB16 HBU HRC HX14 HW17 k0 k1 k2 k3 k4 k5 k6 k7 k8 k9 k10 k11 k12
    go_upto_region 24 with (first
      | (go_at_call 14; ((with_reducible refine HTI.out.mono ?_); rintro e15 x15 ⟨d_, s_, ck_, A8, n8, ca8, rfl, hv, hgr⟩; have HVV := am_ hv; have HGR := am_ hgr; obtain ⟨g23, hg23⟩ : ∃ n, x15.heap.size = n := ⟨_, rfl⟩; clear hv hgr)))
    refine wp_w (fun W => W.heap[g23]? = some (.cells #[.int .i64 d_, .int .i64 s_, .bool ck_, .slice A8 n8 ca8] 48 (0, 0)) ∧ (d_ = 9 ∨ (d_ = 0 ∧ n8 = L3.length ∧ Rw W A8 ca8 L3)) ∧ Below w.heap.size w W) ?_ ?_
    · have hb := below_alloc (Below.refl x15.heap.size x15) (.cells #[.int .i64 d_, .int .i64 s_, .bool ck_, .slice A8 n8 ca8] 48)
      have hn := HNB.out
      refine ⟨by rw [← hg23]; exact new_blk x15 _, ?_, below_step (HGR.out.below HB17.out HB17.out.size (by omega)) hb⟩
      rcases HVV.out with h | ⟨h1, h2, h3⟩
      · exact Or.inl h
      · exact Or.inr ⟨h1, h2, h3.below hb⟩
    intro w18 h18
    have HB18 := am_ h18.2.2
    have HG18 := am_ h18.1
    have hv := h18.2.1
    obtain ⟨t0, t1, t2, t3⟩ := c4 h18.1
    clear h18 HVV HGR HTI HV17 HB17
    rcases hv with rfl | ⟨rfl, rfl, hrw⟩
    · go_wp2
      go_ret
      exact ⟨rfl, HB18.out⟩
    · have hdl : ((L3.length : Int) == (cl.length : Int)) = true := by rw [HL3.out.2.1]; simp
      have HWH := am_ (whole_at (W0 := w18) hrw rfl HL3.out.2.2.2 HL3.out.2.2.1 HL3.out.1)
      clear hrw
      go_wp2_with (first
        | (go_at_call 16; ((with_reducible refine (HWH.out _ ?hb).mono ?_); (case hb => (repeat (first | with_reducible exact Below.refl _ _ | with_reducible apply below_alloc | with_reducible apply pw_below_drewN | with_reducible apply below_drew1 | exact bd (Below.refl _ _) _ | exact (Below.refl _ _).drew))); rintro e16 x16 ⟨rfl, hx⟩; have HX16 := am_ hx; obtain ⟨t0, t1, t2, t3⟩ := c4 (bk_ HG18.out hx); clear hx)))
      go_ret
      exact ⟨by first | rfl | simp, below_step HB18.out HX16.out⟩
  · have HDT := am_ (decide_eq_false ht)
    rw [HDT.out] at HTK
    clear ht
    go_wp2_with (first
      | (go_at_call 9; ((with_reducible refine (HTK.out _).mono ?_); rintro e4 x4 ⟨rfl, hx⟩; have HX4 := am_ hx; clear hx)))
    go_ret
    exact ⟨rfl, below_step HB4.out HX4.out⟩
end Go.Proofs.Ytgkmbefamcnifaa.TB
namespace Go.Proofs.Ytgkmbefamcnifaa.PL
set_option linter.unusedVariables false
open Go.RowKit Go.Proofs.Ytgkmbefamcnifaa.Hp Go.Proofs.Ytgkmbefamcnifaa.SB Go.Proofs.YtgkmbefamcnifaaW.PrintWords Go.Proofs.YtgkmbefamcnifaaW.PrintLast Go.Proofs.YtgkmbefamcnifaaW.PrintMore Go.Proofs.Ytgkmbefamcnifaa.WB
theorem TopChain_walk (a0 : Option Addr) (len0 cap0 : Nat) (z0 : List Int) (a1 : Int) (a2 : Option Addr) (len2 cap2 : Nat) (z2 : List Int) (a3 : Option Addr) (len3 cap3 : Nat) (z3 : List Int) (a4 : Int) (w : World) (w0 : (a0 = none ∧ len0 = 0 ∧ cap0 = 0 ∧ z0 = []) ∨ ∃ x, a0 = some x ∧ len0 ≤ cap0 ∧ cap0 ≤ maxLen ∧ z0.length = cap0 ∧ (∀ j, j < z0.length → w.cell? (x.add j) = some (.int .i64 (z0.getD j 0))) ∧ ∀ n ∈ z0, (Lit.int .i64 n).wf = true) (y0 : len0 * 8 ≤ 140737488351232) (w1 : (Lit.int .i64 a1).wf = true) (w2 : (a2 = none ∧ len2 = 0 ∧ cap2 = 0 ∧ z2 = []) ∨ ∃ x, a2 = some x ∧ len2 ≤ cap2 ∧ cap2 ≤ maxLen ∧ z2.length = cap2 ∧ (∀ j, j < z2.length → w.cell? (x.add j) = some (.int .i64 (z2.getD j 0))) ∧ ∀ n ∈ z2, (Lit.int .i64 n).wf = true) (y2 : len2 * 8 ≤ 140737488351232) (w3 : (a3 = none ∧ len3 = 0 ∧ cap3 = 0 ∧ z3 = []) ∨ ∃ x, a3 = some x ∧ len3 ≤ cap3 ∧ cap3 ≤ maxLen ∧ z3.length = cap3 ∧ (∀ j, j < z3.length → w.cell? (x.add j) = some (.int .u8 (z3.getD j 0))) ∧ ∀ n ∈ z3, (Lit.int .u8 n).wf = true) (y3 : len3 * 1 ≤ 140737488351232) (w4 : (Lit.int .i64 a4).wf = true) :
    Calls Try.prog 3 #[.slice a0 len0 cap0, .int .i64 a1, .slice a2 len2 cap2, .slice a3 len3 cap3, .int .i64 a4] w fun e w' => e = .returned (.bool true) ∧ Below w.heap.size w w' := by
  obtain ⟨ns0, rfl, hr0, hm0, hw0, hc0⟩ := ReadsInt.ofRowC w0
  obtain ⟨ns2, rfl, hr2, hm2, hw2, hc2⟩ := ReadsInt.ofRowC w2
  obtain ⟨l3, rfl, hr3, hm3, hw3, hc3⟩ := ReadsInt.ofRowC w3
  exact Go.Proofs.Ytgkmbefamcnifaa.TB.TopChain_walk a1 a4 (show Kd.C (Kd.int .i64) w a0 ns0.length ns0 from Kd.C_of_reads (d := (0 : Int)) (h1 := fun _ => rfl) hr0) rfl hc0
    (show Kd.C (Kd.int .i64) w a2 ns2.length ns2 from Kd.C_of_reads (d := (0 : Int)) (h1 := fun _ => rfl) hr2) rfl hc2 (by omega)
    (⟨Kd.C_of_reads (d := (0 : Int)) (h1 := fun _ => rfl) hr3, hc3⟩ : Rw w a3 cap3 l3) rfl (by omega) (bytes_of_wf hw3)
end Go.Proofs.Ytgkmbefamcnifaa.PL
