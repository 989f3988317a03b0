/- Lemmas and contracts that the row YtgkmbefamcnifaaGreatLawTopWays goes by (part 12; joined by pack.py out of this session's texts, and of words that the kit's print lays). -/
import Derived.Test.YtgkmbefamcnifaaGreatKW11
set_option maxRecDepth 100000
set_option maxHeartbeats 8000000
namespace Go.Proofs.YtgkmbefamcnifaaGreat.TB
set_option linter.unusedVariables false
set_option linter.unusedSimpArgs false
open Go.RowKit Go.Proofs.YtgkmbefamcnifaaGreat.Hp Go.Proofs.YtgkmbefamcnifaaGreat.SB Go.Proofs.YtgkmbefamcnifaaGreat.WB Go.Proofs.YtgkmbefamcnifaaGreatW.PrintWords Go.Proofs.YtgkmbefamcnifaaGreatW.PrintLast Go.Proofs.YtgkmbefamcnifaaGreatW.PrintMore
/-- What is so of a packet that law9.In makes. -/
structure InP (p : Po) (X : Pk) : Prop where
  k : X.kind = 1 ∨ X.kind = 2
  lf : 0 ≤ X.life ∧ X.life ≤ 255
  pc : X.piece = 0
  fr : 0 ≤ X.frm ∧ X.frm ≤ 4294967295
  ds : X.dst = p.ad
  fp : 0 ≤ X.fp ∧ X.fp ≤ 65535
  tp : X.tp = p.po
  fl : 0 ≤ X.flags ∧ X.flags ≤ 15
  lb : 0 ≤ X.label ∧ X.label ≤ 65535
  ol : X.opts.length ≤ 40
  dl : X.data.length ≤ 2
  c : Canon X
theorem in_pok {p : Po} {m : Nat} (hI : Inv p m) {X : Pk} (h : InP p X) : Pok { X with life := 9 } := by
  have r9 : rgB 9 255 = true := rfl
  have r0 : rgB 0 255 = true := rfl
  have rf := rgB_true h.fr.1 h.fr.2
  have rd : rgB X.dst 4294967295 = true := by rw [h.ds, hI.ad]; rfl
  have rp := rgB_true h.fp.1 h.fp.2
  have rt : rgB X.tp 65535 = true := by rw [h.tp, hI.po]; rfl
  have rg := rgB_true h.fl.1 h.fl.2
  have rl := rgB_true h.lb.1 h.lb.2
  have hk := h.k
  have hol := h.ol
  have hdl := h.dl
  have n : nL { X with life := 9 } ≤ 1500 := by
    unfold nL
    split
    · show 24 + X.data.length + X.opts.length ≤ 1500; omega
    · split
      · show 20 + X.data.length ≤ 1500; omega
      · show 24 + X.data.length ≤ 1500; omega
  refine ⟨?_, ⟨h.c.bo, h.c.bd, h.c.s, h.c.g, h.c.f⟩, by show X.kind ≠ 3; omega, hk, h.ol, by show X.data.length ≤ 1500; omega⟩
  unfold buildE
  rw [if_neg (show ¬ ¬ (1 ≤ X.kind ∧ X.kind ≤ 3) by omega), if_neg ?_, if_neg (show ¬ (X.kind = 1 ∧ 40 < X.opts.length) by omega), if_neg (show ¬ ((X.kind = 3 ∧ X.data.length < 24) ∨ 1500 < nL { X with life := 9 }) by omega)]
  unfold okR
  rcases hk with hk | hk
  · simp only [r9, h.pc, r0, rf, rd, rp, rt, hk, rg]
    simp
  · simp only [r9, h.pc, r0, rf, rd, rp, rt, hk, rl]
    simp
theorem lwithin_f {a n : Int} (h0 : 0 < n) (h1 : n ≤ 4611686018427387904) : roundhouselaw9_within.f a n = some (a % n) := by
  unfold roundhouselaw9_within.f
  rw [if_neg (by omega)]
  have e := Int.tmod_eq_emod (a := a) (b := n)
  have m0 := Int.emod_nonneg a (show n ≠ 0 by omega)
  have m1 := Int.emod_lt_of_pos a h0
  by_cases h : 0 ≤ a ∨ n ∣ a
  · rw [if_pos h] at e
    rw [if_neg (by omega)]
    congr 1; omega
  · rw [if_neg h] at e
    have hn : ((n.natAbs : Nat) : Int) = n := by omega
    rw [if_pos (by omega), wid (by omega) (by omega)]
    congr 1; omega
theorem lwithin_calls (a : Int) {n : Int} (h0 : 0 < n) (h1 : n ≤ 4611686018427387904) (w : World) : Calls Tryz.prog 26 #[.int .i64 a, .int .i64 n] w fun e w' => e = .returned (.int .i64 (a % n)) ∧ Below w.heap.size w w' := by
  refine (roundhouselaw9_within.calls a n (a % n) w (lwithin_f h0 h1)).mono ?_
  rintro e w' ⟨rfl, ⟨⟨nd, rfl⟩⟩⟩
  exact ⟨rfl, bd (Below.refl _ w) nd⟩
/-- b[:j]. -/
theorem cut_h {A : Option Addr} {c : Nat} (j n : Nat) (hj : j ≤ c) : ∀ W : World, (Instr.slice 35 (.slice A n c) none (some (.int .i64 (j : Int))) none).run Tryz.prog W = .ok (.slice A j c) W := by
  have hel : Tryz.prog.elem 35 = 5 := by simp [Program.elem, Tryz.underlying35]
  intro W
  have hu : Tryz.prog.underlying 35 = some (.slice (Tryz.prog.elem 35)) := by rw [hel]; exact Tryz.underlying35
  rw [run_slice_h W 35 A n c hu .i64 (j : Int) (by omega) (by omega)]
  obtain ⟨i0, hi, hz⟩ := Option.map_eq_some_iff.1 info5
  have e : Option.map (fun x : Addr => x.add 0) A = A := by cases A <;> simp [ad_add0]
  simp [sliced, Result.andThen, hel, sizeOf, typeInfo, hi, e]
/-- A quotient, its rest. -/
theorem qr {k : Int} (h0 : 0 ≤ k) (h1 : k < 1125899906842624) (d e : Int) (hd : 0 < d) (he : 0 < e) : ∃ a b, wrap64 (Int.tdiv k d) = a ∧ Int.tmod a e = b ∧ 0 ≤ a ∧ 0 ≤ b ∧ b < e := by
  have h2 : Int.tdiv k d = k / d := Int.tdiv_eq_ediv_of_nonneg h0
  have h3 := Int.ediv_nonneg h0 (show 0 ≤ d by omega)
  have h4 := Int.ediv_le_self d h0
  have h5 : wrap64 (Int.tdiv k d) = k / d := by rw [h2]; exact wid (by omega) (by omega)
  refine ⟨k / d, (k / d) % e, h5, Int.tmod_eq_emod_of_nonneg h3, h3, Int.emod_nonneg _ (by omega), Int.emod_lt_of_pos _ he⟩
theorem addw {b : Int} (c : Int) {e : Int} (h0 : 0 ≤ b) (h1 : b < e) (hc : 0 ≤ c) (hs : c + e ≤ 1000000) : ∃ s, wrap64 (c + b) = s ∧ c ≤ s ∧ s < c + e :=
  ⟨c + b, wid (by omega) (by omega), by omega, by omega⟩
/-- What lies in memory while In makes its packet: the pool's copy at g3, the answer's place at g6, the packet at gx. -/
def InM (p : Po) (g3 g6 gx : Nat) (w W : World) (X : Pk) (A1 : Option Addr) (c1 : Nat) (A2 : Option Addr) (c2 : Nat) : Prop :=
  PoolAt W g3 p ∧ W.heap[g6]? = some (.cells zero13 37 (0, 0)) ∧ W.heap[gx]? = some (.cells (pk13 X A1 c1 A2 c2) 37 (0, 0)) ∧ OwnF gx g6 W (.slice A1 X.opts.length c1) X.opts ∧ OwnF gx g6 W (.slice A2 X.data.length c2) X.data ∧ Below w.heap.size w W ∧ (g3 < g6 ∧ g6 < gx ∧ w.heap.size ≤ g3)
theorem InM.below {p : Po} {g3 g6 gx : Nat} {w W W' : World} {X : Pk} {A1 : Option Addr} {c1 : Nat} {A2 : Option Addr} {c2 : Nat} (h : InM p g3 g6 gx w W X A1 c1 A2 c2) (hb : Below W.heap.size W W') : InM p g3 g6 gx w W' X A1 c1 A2 c2 :=
  ⟨h.1.below hb, bk_ h.2.1 hb, bk_ h.2.2.1 hb, h.2.2.2.1.frm (Frm.of_below hb), h.2.2.2.2.1.frm (Frm.of_below hb), below_step h.2.2.2.2.2.1 hb, h.2.2.2.2.2.2⟩
theorem InM.chg {p : Po} {g3 g6 gx : Nat} {w W W' : World} {X X' : Pk} {A1 : Option Addr} {c1 : Nat} {A2 : Option Addr} {c2 : Nat} {A1' : Option Addr} {c1' : Nat} (h : InM p g3 g6 gx w W X A1 c1 A2 c2) (hc : Chg gx W W') (hx : W'.heap[gx]? = some (.cells (pk13 X' A1' c1' A2 c2) 37 (0, 0)))
    (ho : OwnF gx g6 W' (.slice A1' X'.opts.length c1') X'.opts) (hd : X'.data = X.data) : InM p g3 g6 gx w W' X' A1' c1' A2 c2 := by
  obtain ⟨h1, h2, h3, h4, h5, h6, h7, h8, h9⟩ := h
  refine ⟨h1.chg hc (by omega), (hc.block g6 (by omega)).trans h2, hx, ho, ?_, Chg.step h6 hc (by omega), h7, h8, h9⟩
  rw [hd]
  exact h5.frm (Frm.of_grw1 (Grw.of_chg hc))
theorem lay13_chg (w : World) (g : Nat) (v0 v1 v2 v3 v4 v5 v6 v7 v8 v9 v10 v11 v12 : Value) : Chg g w (lay13 w g v0 v1 v2 v3 v4 v5 v6 v7 v8 v9 v10 v11 v12) := by
  unfold lay13
  exact ((((((((((((((Chg.refl g w).set _ _).set _ _).set _ _).set _ _).set _ _).set _ _).set _ _).set _ _).set _ _).set _ _).set _ _).set _ _).set _ _)
theorem InM.start {p : Po} {g3 g6 gx : Nat} {w W : World} {A : Option Addr} {c : Nat} {kd lf fm fp a b : Int} {l : List Int} {J : Nat} (hp : PoolAt W g3 p) (hr : W.heap[g6]? = some (.cells zero13 37 (0, 0))) (hz : W.heap[gx]? = some (.cells zero13 37 (0, 0))) (ho : OwnF gx g6 W (.slice A 2 c) l) (hl : l.length = 2) (hJ : J ≤ 2) (hb : Below w.heap.size w W) (h36 : g3 < g6 ∧ g6 < gx ∧ w.heap.size ≤ g3) :
    InM p g3 g6 gx w (lay13 W gx (.int .i64 kd) (.int .i64 lf) (.int .i64 0) (.int .i64 fm) (.int .i64 a) (.int .i64 fp) (.int .i64 b) (.int .i64 0) (.int .i64 0) (.bool false) (.int .i64 0) (.slice none 0 0) (.slice A J c)) ⟨kd, lf, 0, fm, a, fp, b, 0, 0, false, 0, [], l.take J⟩ none 0 A c := by
  have hc := lay13_chg W gx (.int .i64 kd) (.int .i64 lf) (.int .i64 0) (.int .i64 fm) (.int .i64 a) (.int .i64 fp) (.int .i64 b) (.int .i64 0) (.int .i64 0) (.bool false) (.int .i64 0) (.slice none 0 0) (.slice A J c)
  have hbk := lay13_blk hz rfl (.int .i64 kd) (.int .i64 lf) (.int .i64 0) (.int .i64 fm) (.int .i64 a) (.int .i64 fp) (.int .i64 b) (.int .i64 0) (.int .i64 0) (.bool false) (.int .i64 0) (.slice none 0 0) (.slice A J c)
  have hj : (l.take J).length = J := by rw [List.length_take]; omega
  refine ⟨hp.chg hc (by omega), (hc.block g6 (by omega)).trans hr, ?_, ?_, ?_, Chg.step hb hc (by omega), h36⟩
  · unfold pk13
    simp only [hj]
    exact hbk
  · exact Kd.R_nil _ _ _ _ _
  · have ht : OwnF gx g6 W (.slice A J c) (l.take J) := Kd.R_take (m := J) ho (by omega)
    simp only [hj]
    exact ht.frm (Frm.of_grw1 (Grw.of_chg hc))
theorem InM.fin {p : Po} {g3 g6 gx : Nat} {w W : World} {X : Pk} {A1 : Option Addr} {c1 : Nat} {A2 : Option Addr} {c2 : Nat} (h : InM p g3 g6 gx w W X A1 c1 A2 c2) :
    (lay13 W g6 (.int .i64 X.kind) (.int .i64 X.life) (.int .i64 X.piece) (.int .i64 X.frm) (.int .i64 X.dst) (.int .i64 X.fp) (.int .i64 X.tp) (.int .i64 X.flags) (.int .i64 X.label) (.bool X.bare) (.int .i64 X.code) (.slice A1 X.opts.length c1) (.slice A2 X.data.length c2)).heap[g6]? = some (.cells (pk13 X A1 c1 A2 c2) 37 (0, 0)) ∧
      Rw (lay13 W g6 (.int .i64 X.kind) (.int .i64 X.life) (.int .i64 X.piece) (.int .i64 X.frm) (.int .i64 X.dst) (.int .i64 X.fp) (.int .i64 X.tp) (.int .i64 X.flags) (.int .i64 X.label) (.bool X.bare) (.int .i64 X.code) (.slice A1 X.opts.length c1) (.slice A2 X.data.length c2)) A1 c1 X.opts ∧
      Rw (lay13 W g6 (.int .i64 X.kind) (.int .i64 X.life) (.int .i64 X.piece) (.int .i64 X.frm) (.int .i64 X.dst) (.int .i64 X.fp) (.int .i64 X.tp) (.int .i64 X.flags) (.int .i64 X.label) (.bool X.bare) (.int .i64 X.code) (.slice A1 X.opts.length c1) (.slice A2 X.data.length c2)) A2 c2 X.data ∧
      Below w.heap.size w (lay13 W g6 (.int .i64 X.kind) (.int .i64 X.life) (.int .i64 X.piece) (.int .i64 X.frm) (.int .i64 X.dst) (.int .i64 X.fp) (.int .i64 X.tp) (.int .i64 X.flags) (.int .i64 X.label) (.bool X.bare) (.int .i64 X.code) (.slice A1 X.opts.length c1) (.slice A2 X.data.length c2)) := by
  have hc := lay13_chg W g6 (.int .i64 X.kind) (.int .i64 X.life) (.int .i64 X.piece) (.int .i64 X.frm) (.int .i64 X.dst) (.int .i64 X.fp) (.int .i64 X.tp) (.int .i64 X.flags) (.int .i64 X.label) (.bool X.bare) (.int .i64 X.code) (.slice A1 X.opts.length c1) (.slice A2 X.data.length c2)
  obtain ⟨h1, h2, h3, h4, h5, h6, h7, h8, h9⟩ := h
  refine ⟨lay13_blk h2 rfl _ _ _ _ _ _ _ _ _ _ _ _ _, ?_, ?_, Chg.step h6 hc (by omega)⟩
  · exact (h4.frm (Frm.of_grw2 (Grw.of_chg hc))).rw
  · exact (h5.frm (Frm.of_grw2 (Grw.of_chg hc))).rw
/-- A stream's option, twelve bytes. -/
theorem omk_calls (v e : Int) (w : World) : Calls Tryz.prog 28 #[.int .u32 v, .int .u32 e] w fun en w' => ∃ A c l, en = .returned (.slice A 12 c) ∧ l.length = 12 ∧ Bytes l ∧ RB w.heap.size w' (.slice A 12 c) l ∧ Below w.heap.size w w' := by
  refine (roundhouseref4_Make.calls v e ([1, 1, 8, 10] ++ [(v / 16777216) % 256, (v / 65536) % 256, (v / 256) % 256, v % 256] ++ [(e / 16777216) % 256, (e / 65536) % 256, (e / 256) % 256, e % 256]) w (by simp [roundhouseref4_Make.f, roundhouseref4_bytes.f])).mono ?_
  rintro en w' ⟨v0, rfl, hr, hb⟩
  obtain ⟨A, c, el⟩ := Kd.R_slice hr
  replace el : v0 = .slice A 12 c := el
  subst el
  refine ⟨A, c, _, rfl, rfl, ?_, hr, hb⟩
  intro x hx
  simp only [List.cons_append, List.nil_append, List.mem_cons, List.not_mem_nil, or_false] at hx
  rcases hx with rfl | rfl | rfl | rfl | rfl | rfl | rfl | rfl | rfl | rfl | rfl | rfl <;> omega
theorem oput_calls (v e : Int) (w : World) : Calls Tryz.prog 29 #[.int .u32 v, .int .i64 e] w fun en w' => ∃ r, en = .returned (.int .u32 r) ∧ Below w.heap.size w w' := by
  refine (roundhouseref5_Put.calls v e _ w rfl).mono ?_
  rintro en w' ⟨rfl, ⟨⟨nd, rfl⟩⟩⟩
  exact ⟨_, rfl, bd (Below.refl _ w) nd⟩
theorem shl16 {s : Int} (h0 : 0 ≤ s) (h1 : s < 16) : 0 ≤ wrap64 (2 ^ s.toNat) ∧ wrap64 (2 ^ s.toNat) ≤ 65535 := by
  obtain ⟨a, rfl⟩ := Int.eq_ofNat_of_zero_le h0
  rw [Int.toNat_natCast]
  have h2 : (2 : Nat) ^ a ≤ 2 ^ 15 := Nat.pow_le_pow_right (by decide) (by omega)
  have h4 : (2 : Nat) ^ 15 = 32768 := by decide
  obtain ⟨z, hz⟩ : ∃ z, (2 : Nat) ^ a = z := ⟨_, rfl⟩
  have h3 : ((2 : Int) ^ a) = (z : Int) := by rw [← hz]; push_cast; rfl
  rw [hz, h4] at h2
  rw [h3, wid (by omega) (by omega)]
  omega
theorem info37 : (Tryz.prog.info? 37).map (·.size) = some 13 := by kernel_rfl
/-- What In makes: a gram, a stream. -/
theorem in_gram {p : Po} {X : Pk} {kd lf fm fp : Int} {dl : List Int} {b : Bool} {c : Int} (hX : (⟨kd, lf, 0, fm, p.ad, fp, p.po, 0, 0, false, 0, [], dl⟩ : Pk) = X) (h1 : 1 ≤ lf ∧ lf < 1 + 9) (h2 : 1000 ≤ fm ∧ fm < 1000 + 5) (h3 : 0 ≤ fp ∧ fp < 3) (hk : X.kind = 2) (hc : CkB X.kind c) (hd : Bytes dl) (hl : dl.length ≤ 2) : InP p { X with label := c, bare := b } := by
  have hc2 : 0 ≤ c ∧ c ≤ 65535 := hc hk
  clear hc
  subst hX
  have hk : kd = 2 := hk
  subst hk
  exact { k := Or.inr rfl, lf := ⟨by show 0 ≤ lf; omega, by show lf ≤ 255; omega⟩, pc := rfl, fr := ⟨by show 0 ≤ fm; omega, by show fm ≤ 4294967295; omega⟩, ds := rfl, fp := ⟨h3.1, by show fp ≤ 65535; omega⟩, tp := rfl,
          fl := ⟨Int.le_refl 0, by show (0 : Int) ≤ 15; decide⟩, lb := hc2, ol := Nat.zero_le 40, dl := hl, c := { bo := (fun x hx => by cases hx), bd := hd, s := fun h => absurd h (by show ¬ (2 : Int) = 1; decide), g := fun _ => ⟨rfl, rfl, rfl⟩, f := fun h => absurd h (by show ¬ (2 : Int) = 3; decide) } }
theorem in_stream {p : Po} {X : Pk} {kd lf fm fp : Int} {dl ol : List Int} {f : Int} (hX : (⟨kd, lf, 0, fm, p.ad, fp, p.po, 0, 0, false, 0, [], dl⟩ : Pk) = X) (h1 : 1 ≤ lf ∧ lf < 1 + 9) (h2 : 1000 ≤ fm ∧ fm < 1000 + 5) (h3 : 0 ≤ fp ∧ fp < 3) (hk : X.kind = 1) (hf : 0 ≤ f ∧ f < 16) (ho : Bytes ol) (hn : ol.length ≤ 12) (hd : Bytes dl) (hl : dl.length ≤ 2) : InP p { X with flags := f, opts := ol } := by
  subst hX
  have hk : kd = 1 := hk
  subst hk
  exact { k := Or.inl rfl, lf := ⟨by show 0 ≤ lf; omega, by show lf ≤ 255; omega⟩, pc := rfl, fr := ⟨by show 0 ≤ fm; omega, by show fm ≤ 4294967295; omega⟩, ds := rfl, fp := ⟨h3.1, by show fp ≤ 65535; omega⟩, tp := rfl,
          fl := ⟨hf.1, by show f ≤ 15; omega⟩, lb := ⟨Int.le_refl 0, by show (0 : Int) ≤ 65535; decide⟩, ol := (by show ol.length ≤ 40; omega), dl := hl, c := { bo := ho, bd := hd, s := fun _ => ⟨rfl, rfl, rfl⟩, g := fun h => absurd h (by show ¬ (1 : Int) = 2; decide), f := fun h => absurd h (by show ¬ (1 : Int) = 3; decide) } }
theorem take_bytes {a b : Int} (J : Nat) : Bytes (([a % 256, b % 256] : List Int).take J) := by
  intro x hx
  have hx := List.mem_of_mem_take hx
  simp only [List.mem_cons, List.not_mem_nil, or_false] at hx
  rcases hx with rfl | rfl <;> omega
/-- A row behind a store at gx. -/
theorem own_set {gx g6 : Nat} {W W' : World} {A : Option Addr} {c n B : Nat} {l : List Int} (h : RB B W (.slice A n c) l) (h1 : gx < B) (h2 : g6 < B) (hc : Chg gx W W') (hl : l.length = n) : OwnF gx g6 W' (.slice A l.length c) l := by
  rw [hl]
  exact (OwnF.of h h1 h2).frm (Frm.of_grw1 (Grw.of_chg hc))
theorem rin_calls {p : Po} {mm : Nat} (hI : Inv p mm) (n m : Int) (w : World) :
    Calls Tryz.prog 6 #[.agg p.ag, .int .i64 n, .int .i64 m] w fun e w' => ∃ (X : Pk) (A1 : Option Addr) (c1 : Nat) (A2 : Option Addr) (c2 : Nat), e = .returned (.agg (pk13 X A1 c1 A2 c2)) ∧ InP p X ∧ Rw w' A1 c1 X.opts ∧ Rw w' A2 c2 X.data ∧ Below w.heap.size w w' := by
  have HI := am_ hI
  have HLP := am_ hI.len
  have HWM := am_ (fun W => lwithin_calls m (n := 65536) (by decide) (by decide) W)
  have HWS := am_ (fun W => lwithin_calls m (n := 16) (by decide) (by decide) W)
  have HWN := am_ (fun W => lwithin_calls n (n := 1125899906842624) (by decide) (by decide) W)
  have hk0 : 0 ≤ n % 1125899906842624 := Int.emod_nonneg _ (by decide)
  have hk1 : n % 1125899906842624 < 1125899906842624 := Int.emod_lt_of_pos _ (by decide)
  obtain ⟨k, hk⟩ : ∃ k, n % 1125899906842624 = k := ⟨_, rfl⟩
  rw [hk] at hk0 hk1 HWN
  clear hk hI
  obtain ⟨r2, hr2, r20, r21⟩ : ∃ r, Int.tmod k 2 = r ∧ 0 ≤ r ∧ r < 2 := ⟨k % 2, Int.tmod_eq_emod_of_nonneg hk0, by omega, by omega⟩
  obtain ⟨kd, hkd, kd0, kd1⟩ := addw 1 (e := 2) r20 r21 (by decide) (by decide)
  obtain ⟨q2, s2, hq2, hs2, _, s20, s21⟩ := qr hk0 hk1 2 9 (by decide) (by decide)
  obtain ⟨lf, hlf, lf0, lf1⟩ := addw 1 s20 s21 (by decide) (by decide)
  obtain ⟨q18, s18, hq18, hs18, _, s180, s181⟩ := qr hk0 hk1 18 5 (by decide) (by decide)
  obtain ⟨fm, hfm, fm0, fm1⟩ := addw 1000 s180 s181 (by decide) (by decide)
  obtain ⟨q90, fp, hq90, hfp, _, fp0, fp1⟩ := qr hk0 hk1 90 3 (by decide) (by decide)
  obtain ⟨q7, _, hq7, _, _, _, _⟩ := qr hk0 hk1 7 3 (by decide) (by decide)
  obtain ⟨q270, j, hq270, hj, _, j0, j1⟩ := qr hk0 hk1 270 3 (by decide) (by decide)
  obtain ⟨J, rfl⟩ := Int.eq_ofNat_of_zero_le j0
  obtain ⟨q810, s810, hq810, hs810, _, s8100, s8101⟩ := qr hk0 hk1 810 7 (by decide) (by decide)
  obtain ⟨q5670, t6, hq5670, ht6, _, t60, t61⟩ := qr hk0 hk1 5670 6 (by decide) (by decide)
  obtain ⟨q34, t3, hq34, ht3, h340, _, _⟩ := qr hk0 hk1 34020 3 (by decide) (by decide)
  obtain ⟨t16, ht16, t160, t161⟩ : ∃ r, Int.tmod q34 16 = r ∧ 0 ≤ r ∧ r < 16 := ⟨q34 % 16, Int.tmod_eq_emod_of_nonneg h340, by omega, by omega⟩
  obtain ⟨t5, ht5⟩ : ∃ r, Int.tmod q34 5 = r := ⟨_, rfl⟩
  obtain ⟨t31, ht31⟩ : ∃ r, Int.tmod q34 31 = r := ⟨_, rfl⟩
  have HJ := am_ (show J ≤ 2 by omega)
  have HBD := am_ (And.intro (And.intro kd0 kd1) (And.intro (And.intro lf0 lf1) (And.intro (And.intro fm0 fm1) (And.intro (And.intro fp0 fp1) (And.intro t160 t161)))))
  have HS8 := am_ (show 0 ≤ s810 ∧ s810 ≤ 63 by omega)
  have HT6 := am_ (And.intro t60 t61)
  clear r20 r21 kd0 kd1 s20 s21 lf0 lf1 s180 s181 fm0 fm1 fp0 fp1 j0 j1 s8100 s8101 t60 t61 h340 t160 t161 hk0 hk1
  go_enter Tryz.func6, Tryz.ntmps6
  go_upto_region 1 with (first
    | ((with_reducible refine gate_dst (N := 3) rfl ?_); refine pool_box (p := p) rfl rfl rfl ?_; intro g3 hg3 w1 hp1 hb1 hs1; have HP1 := am_ hp1; have HB1 := am_ hb1; have HG3 := am_ hg3; obtain ⟨g6, hg6⟩ : ∃ x, w1.heap.size = x := ⟨_, rfl⟩; clear hp1 hb1 hs1 hg3))
  refine wp_w (fun W => PoolAt W g3 p ∧ W.heap[g6]? = some (.cells zero13 37 (0, 0)) ∧ Below w.heap.size w W) ?_ ?_
  · exact ⟨HP1.out.below (below_alloc (Below.refl _ _) _), by rw [← hg6]; exact new_blk w1 _, below_alloc HB1.out _⟩
  intro wa ha
  have HPa := am_ ha.1
  have HRa := am_ ha.2.1
  have HBa := am_ ha.2.2
  have HG36 := am_ (show g3 < g6 ∧ w.heap.size ≤ g3 from ⟨by rw [← hg6]; exact blk_lt HP1.out, Nat.le_of_eq HG3.out⟩)
  clear ha HP1 HB1 hg6
  go_upto_region 2 with (first
    | (go_at_call 26; ((with_reducible refine (HWN.out _).mono ?_); rintro e1 x1 ⟨rfl, hx⟩; have HX1 := am_ hx; clear hx)))
  refine wp_w (fun W => PoolAt W g3 p ∧ W.heap[g6]? = some (.cells zero13 37 (0, 0)) ∧ Below w.heap.size w W) ?_ ?_
  · exact ⟨HPa.out.below HX1.out, bk_ HRa.out HX1.out, below_step HBa.out HX1.out⟩
  intro w2 h2
  have HP2 := am_ h2.1
  have HR2 := am_ h2.2.1
  have HB2 := am_ h2.2.2
  have HG6 := am_ (blk_lt h2.2.1)
  have HCK := am_ (fun W (hW : Below w2.heap.size w2 W) => show W.cell? ⟨g3, 1, none⟩ = some (.int .i64 p.ad) ∧ W.cell? ⟨g3, 2, none⟩ = some (.int .i64 p.po) from ⟨(HP2.out.below hW).head.2.1, (HP2.out.below hW).head.2.2⟩)
  have HQc := am_ (Below.refl w2.heap.size w2).drew
  clear h2 HPa HRa HBa HX1
  refine start_ (n := 31) (S := fun w' => w'.cell? ⟨g3, 1, none⟩ = some (.int .i64 p.ad) ∧ w'.cell? ⟨g3, 2, none⟩ = some (.int .i64 p.po)) (ds := [30]) #[fF,fF,fF,fF,fF,fF,fF,fF,fF,fF,fF,fF,fF,fF,fF,fF,fF,fF,fF,fF,fF,fF,fF,fF,fF,fF,fF,fF,fF,fF,fF] (by kernel_rfl) rfl rfl ⟨(HCK.out _ HQc.out).1, (HCK.out _ HQc.out).2⟩ (fun hHeld => ?_)
  refine p_ 0 14 ?_
  refine p_ 1 15 ?_
  refine p_ 2 16 ?_
  refine p_ 3 17 ?_
  refine p_ 4 18 ?_
  refine p_ 5 19 ?_
  refine p_ 6 20 ?_
  refine p_ 7 21 ?_
  refine p_ 8 22 ?_
  refine p_ 9 23 ?_
  refine p_ 10 24 ?_
  refine p_ 11 25 ?_
  refine p_ 13 27 ?_
  refine p_ 14 28 ?_
  refine p_ 15 29 ?_
  refine p_ 16 30 ?_
  refine p_ 18 32 ?_
  refine p_ 19 33 ?_
  refine p_ 20 34 ?_
  refine p_ 21 35 ?_
  refine p_ 22 36 ?_
  refine p_ 24 38 ?_
  refine p_ 25 39 ?_
  refine p_ 26 40 ?_
  refine t_ 12 26 hHeld ?_
  refine t_ 17 31 hHeld ?_
  refine join_ (σ := (Option Addr × Nat) × Nat) 1 #[tT,tT,tT,tT,tT,tT,tT,tT,tT,tT,tT,tT,tT,tT,tT,tT,tT,tT,tT,tT,tT,tT,tT,tT,tT,tT,tT,tT,tT,tT,fF] (fun s => [(37, .slice s.1.1 2 s.1.2), (41, .slice s.1.1 J s.1.2), (42, .agg #[.int .i64 kd, .int .i64 lf, .int .i64 0, .int .i64 fm, .int .i64 p.ad, .int .i64 fp, .int .i64 p.po, .int .i64 0, .int .i64 0, .bool false, .int .i64 0, .slice none 0 0, .slice s.1.1 J s.1.2]), (8, .pointer (some ⟨s.2, 0, none⟩))]) (fun s w' => w'.heap[s.2]? = some (.cells zero13 37 (0, 0)) ∧ Below w2.heap.size w2 w' ∧ w2.heap.size ≤ s.2 ∧ OwnF s.2 g6 w' (.slice s.1.1 2 s.1.2) [k % 256, q7 % 256]) ?_ ?_
  rotate_left
  · intro hCont
    refine two_ (i := 23) (j := 29) (Ni := some 37) (Nj := some 8) #[tT,tT,tT,tT,tT,tT,tT,tT,tT,tT,tT,tT,tT,tT,tT,tT,tT,tT,tT,tT,tT,tT,tT,tT,tT,tT,tT,fF,fF,fF,fF] #[tT,tT,tT,tT,tT,tT,tT,tT,tT,tT,tT,tT,tT,tT,tT,tT,tT,tT,tT,tT,tT,tT,tT,fF,tT,tT,tT,fF,fF,tT,fF] rfl rfl rfl rfl (by kernel_rfl) (by decide) (by decide) (fun K hK => ?_) (fun K hK => ?_)
    · skip
      refine Kd.R_lit_step (Kd.int .u8) (w0 := w2.drew) w2.drew.heap.size 5 ?hg (N := 37) ?hd (xs := ([k % 256, q7 % 256] : List Int)) (inner := [.int .u8 (k % 256), .int .u8 (q7 % 256)]) (ok := fun _ => True) (okp := fun _ => True) ?hr ?hp (fun _ hk => hk) trivial (Below.refl _ _) (Nat.le_refl _) (by simp) ?_; (case hd => rfl); (case hg => rfl); (case hr => first | (go_simp; done) | (go_simp; rfl)); (case hp => exact (Reps.one (show Kd.M (Kd.int .u8) _ _ _ (k % 256) [.int .u8 (k % 256)] from rfl) (Reps.one (show Kd.M (Kd.int .u8) _ _ _ (q7 % 256) [.int .u8 (q7 % 256)] from rfl) (Reps.none _ _))))
      intro va w37 ho hx hg hat
      obtain ⟨Ala, cla, el⟩ := Kd.R_slice ho
      replace el : va = .slice Ala 2 cla := el
      subst el
      have HO37 := am_ ho
      have hcl : 2 ≤ cla := (Kd.R_reads' ho).2.1
      have hsl := cut_h (A := Ala) (c := cla) J 2 (by have := HJ.out; omega)
      have HX37 := am_ hx
      replace HQc := am_ (below_step HQc.out hx)
      clear ho hx hg hat
      refine hK.out _ _ ⟨(HCK.out _ HQc.out).1, (HCK.out _ HQc.out).2⟩ (fun hHeld => ?_)
      clear hK K
      refine n_ 37 ?_
      refine p_ 27 41 ?_
      refine p_ 28 42 ?_
      refine o_ 29 (some 8) (fun K hK => ?_)
      refine value_ (w1 := w37.alloc (.cells zero13 37)) (v := ?_) (by rfl) rfl ?_ ?_
      rotate_left 1
      · go_simp
        rfl
      replace HQc := am_ (below_alloc HQc.out (.cells zero13 37))
      refine hK.out _ _ ⟨(HCK.out _ HQc.out).1, (HCK.out _ HQc.out).2⟩ (fun hHeld => ?_)
      clear hK K
      refine n_ 8 ?_
      exact norm_ (by simp only [putAll, Act.put, q_a, q_0, q_s]) (hCont ((Ala, cla), w37.heap.size) _ ⟨new_blk w37 _, HQc.out, by have h1 := HX37.out.size; have h2 : w2.heap.size = w2.drew.heap.size := rfl; omega, (OwnF.of2 HO37.out (Nat.le_refl _) HG6.out).frm (Frm.of_below (below_alloc (Below.refl _ w37) _))⟩)
    · skip
      refine value_ (w1 := w2.drew.alloc (.cells zero13 37)) (v := ?_) (by rfl) rfl ?_ ?_
      rotate_left 1
      · go_simp
        rfl
      replace HQc := am_ (below_alloc HQc.out (.cells zero13 37))
      refine hK.out _ _ ⟨(HCK.out _ HQc.out).1, (HCK.out _ HQc.out).2⟩ (fun hHeld => ?_)
      clear hK K
      refine n_ 8 ?_
      refine o_ 23 (some 37) (fun K hK => ?_)
      refine Kd.R_lit_step (Kd.int .u8) (w0 := (w2.drew.alloc (.cells zero13 37))) (w2.drew.alloc (.cells zero13 37)).heap.size 5 ?hg (N := 37) ?hd (xs := ([k % 256, q7 % 256] : List Int)) (inner := [.int .u8 (k % 256), .int .u8 (q7 % 256)]) (ok := fun _ => True) (okp := fun _ => True) ?hr ?hp (fun _ hk => hk) trivial (Below.refl _ _) (Nat.le_refl _) (by simp) ?_; (case hd => rfl); (case hg => rfl); (case hr => first | (go_simp; done) | (go_simp; rfl)); (case hp => exact (Reps.one (show Kd.M (Kd.int .u8) _ _ _ (k % 256) [.int .u8 (k % 256)] from rfl) (Reps.one (show Kd.M (Kd.int .u8) _ _ _ (q7 % 256) [.int .u8 (q7 % 256)] from rfl) (Reps.none _ _))))
      intro va w37 ho hx hg hat
      obtain ⟨Ala, cla, el⟩ := Kd.R_slice ho
      replace el : va = .slice Ala 2 cla := el
      subst el
      have HO37 := am_ ho
      have hcl : 2 ≤ cla := (Kd.R_reads' ho).2.1
      have hsl := cut_h (A := Ala) (c := cla) J 2 (by have := HJ.out; omega)
      have HX37 := am_ hx
      replace HQc := am_ (below_step HQc.out hx)
      clear ho hx hg hat
      refine hK.out _ _ ⟨(HCK.out _ HQc.out).1, (HCK.out _ HQc.out).2⟩ (fun hHeld => ?_)
      clear hK K
      refine n_ 37 ?_
      refine p_ 27 41 ?_
      refine p_ 28 42 ?_
      exact norm_ (by simp only [putAll, Act.put, q_a, q_0, q_s]) (hCont ((Ala, cla), w2.heap.size) _ ⟨bk_ (new_blk w2.drew _) HX37.out, HQc.out, Nat.le_refl _, OwnF.of HO37.out (by have h := HG6.out; have h2 : w2.drew.heap.size = w2.heap.size := rfl; rw [World.size_alloc, h2]; omega) (by have h := HG6.out; have h2 : w2.drew.heap.size = w2.heap.size := rfl; rw [World.size_alloc, h2]; omega)⟩)
  rintro ⟨⟨Ala, cla⟩, gx⟩ w4 ⟨hz, hq, hge, hown⟩
  clear HQc
  have HQc := am_ hq
  have HZ4 := am_ hz
  have HGE := am_ hge
  have HO4 := am_ hown
  clear hq hz hge hown
  have hHeld := HCK.out _ HQc.out
  refine norm_ (a' := ?_) ?_ ?_
  rotate_left; · simp only [putAll, Act.put, q_a, q_0, q_s]; rfl
  refine l_ 30 none (fun K hK => ?_)
  obtain ⟨z0, z1, z2, z3, z4, z5, z6, z7, z8, z9, z10, z11, z12⟩ := c13 HZ4.out
  obtain ⟨u0, u1, u2, u3, u4, u5, u6, u7, u8, u9, u10, u11, u12⟩ := f13 HZ4.out
  refine s_ ?_
  refine hK.out _ _ ?_
  clear hK K
  refine done_ (by kernel_rfl) ?_
  go_upto_region 3 with fail
  have HMS := am_ (InM.start (kd := kd) (lf := lf) (fm := fm) (fp := fp) (a := p.ad) (b := p.po) (HP2.out.below HQc.out) (bk_ HR2.out HQc.out) HZ4.out HO4.out rfl HJ.out (below_step HB2.out HQc.out) ⟨HG36.out.1, by have h1 := HG6.out; have h2 := HGE.out; omega, HG36.out.2⟩)
  obtain ⟨X, hX⟩ : ∃ X : Pk, ⟨kd, lf, 0, fm, p.ad, fp, p.po, 0, 0, false, 0, [], ([k % 256, q7 % 256] : List Int).take J⟩ = X := ⟨_, rfl⟩
  have HX := am_ hX
  rw [hX] at HMS
  refine wp_w (fun W => InM p g3 g6 gx w W X none 0 Ala cla) ?_ ?_
  · exact HMS.out
  intro w5 h5
  have HM5 := am_ h5
  have hk12 : X.kind = 1 ∨ X.kind = 2 := by rw [← hX]; have := HBD.out.1; show kd = 1 ∨ kd = 2; omega
  have HCM := am_ (fun W => rcmake_calls p.ep p.k0.a p.k0.b p.k1.a p.k1.b p.k2.a p.k2.b X.kind X.frm X.fp p.ad p.po s810 hk12 HS8.out W)
  have HCQ := am_ (fun W => rcmake_calls (wrap64 (p.ep - 1)) p.k0.a p.k0.b p.k0.a p.k0.b p.k1.a p.k1.b X.kind X.frm X.fp p.ad p.po s810 hk12 HS8.out W)
  clear hHeld z0 z1 z2 z3 z4 z5 z6 z7 z8 z9 z10 z11 z12 u0 u1 u2 u3 u4 u5 u6 u7 u8 u9 u10 u11 u12 hX HMS HZ4 HO4 HQc HGE HCK HG6 HB2 HR2 HP2 h5
  clear hr2 hkd hq2 hs2 hlf hq18 hs18 hfm hq90 hfp hq270 hj hk12
  obtain ⟨k0, k1, k2, k3, k4, k5, k6, k7, k8, k9, k10, k11, k12⟩ := c13 HM5.out.2.2.1
  obtain ⟨e0, e1, e2⟩ := HM5.out.1.head
  obtain ⟨gf, hgf⟩ : ∃ x, w5.heap.size = x := ⟨_, rfl⟩
  go_upto_region 4 with fail
  refine wp_w (fun W => W.heap[gf]? = some (.cells #[.int .i64 X.frm, .int .i64 X.fp, .int .i64 p.ad, .int .i64 p.po] 56 (0, 0)) ∧ Below w5.heap.size w5 W) ?_ ?_
  · exact ⟨by rw [← hgf]; exact new_blk w5 _, below_alloc (Below.refl _ w5) _⟩
  intro w6 h6
  have HF6 := am_ h6.1
  have HM6 := am_ (HM5.out.below h6.2)
  clear h6 hgf HM5 k0 k1 k2 k3 k4 k5 k6 k7 k8 k9 k10 k11 k12 e0 e1 e2
  have k0 := (c13 HM6.out.2.2.1).1
  obtain ⟨f0, f1, f2, f3⟩ := c4 HF6.out
  obtain ⟨e0, e1, e2, e3, e4, e5, e6⟩ := HM6.out.1.ring HLP.out
  go_upto_region 5 with (first
    | (go_at_call 27; ((with_reducible refine (HCM.out _).mono ?_); rintro en2 x2 ⟨c, rfl, hc, hx⟩; have HC2 := am_ hc; have HX2 := am_ hx; clear hc hx)))
  refine wp_w (fun W => W.heap[gf]? = some (.cells #[.int .i64 X.frm, .int .i64 X.fp, .int .i64 p.ad, .int .i64 p.po] 56 (0, 0)) ∧ InM p g3 g6 gx w W X none 0 Ala cla) ?_ ?_
  · exact ⟨bk_ HF6.out HX2.out, HM6.out.below HX2.out⟩
  intro w7 h7
  have HF7 := am_ h7.1
  have HM7 := am_ h7.2
  clear h7 k0 f0 f1 f2 f3 e0 e1 e2 e3 e4 e5 e6 HF6 HM6 HX2
  have k0 := (c13 HM7.out.2.2.1).1
  obtain ⟨f0, f1, f2, f3⟩ := c4 HF7.out
  obtain ⟨e0, e1, e2, e3, e4, e5, e6⟩ := HM7.out.1.ring HLP.out
  go_upto_block 0 with fail
  go_cut [10] (fun s10 wx => ∃ c' : Int, s10 = .int .i64 c' ∧ Aside (CkB X.kind c') ∧ Aside (Below w7.heap.size w7 wx))
  case first =>
    by_cases h0 : t6 = 0
    · have d0 : (t6 == 0) = true := beq_iff_eq.mpr h0
      clear h0
      go_wp2_with (first | (go_at_call 26; ((with_reducible refine (HWM.out _).mono ?_); rintro en3 x3 ⟨rfl, hx⟩; have HX3 := am_ hx; clear hx)))
      go_meet
      exact ⟨_, rfl, (by intro _; have h1 := Int.emod_nonneg m (show (65536 : Int) ≠ 0 by decide); have h2 := Int.emod_lt_of_pos m (show (0 : Int) < 65536 by decide); omega), HX3.out⟩
    · have d0 : (t6 == 0) = false := beq_eq_false_iff_ne.mpr h0
      by_cases h1 : t6 = 1
      · have d1 : (t6 == 1) = true := beq_iff_eq.mpr h1
        clear h0 h1
        have hm0 := Int.emod_nonneg m (show (16 : Int) ≠ 0 by decide)
        have hm1 := Int.emod_lt_of_pos m (show (0 : Int) < 16 by decide)
        obtain ⟨sh, hsh⟩ : ∃ x, m % 16 = x := ⟨_, rfl⟩
        rw [hsh] at hm0 hm1 HWS
        clear hsh
        have HSH := am_ (shl16 hm0 hm1)
        go_wp2_with (first | (go_at_call 26; ((with_reducible refine (HWS.out _).mono ?_); rintro en3 x3 ⟨rfl, hx⟩; have HX3 := am_ hx; clear hx)))
        go_meet
        exact ⟨_, rfl, (by intro hk; exact xor16 (HC2.out hk) HSH.out), HX3.out⟩
      · have d1 : (t6 == 1) = false := beq_eq_false_iff_ne.mpr h1
        by_cases h2 : t6 = 2
        · have d2 : (t6 == 2) = true := beq_iff_eq.mpr h2
          clear h0 h1 h2
          obtain ⟨gq, hgq⟩ : ∃ x, w7.heap.size = x := ⟨_, rfl⟩
          go_upto_region 12 with fail
          refine wp_w (fun W => W.heap[gq]? = some (.cells #[.int .i64 (wrap64 (p.ep - 1)), .int .u64 p.k0.a, .int .u64 p.k0.b, .int .u64 p.k0.a, .int .u64 p.k0.b, .int .u64 p.k1.a, .int .u64 p.k1.b] 31 (0, 0)) ∧ Below w7.heap.size w7 W) ?_ ?_
          · exact ⟨by rw [← hgq]; exact new_blk w7 _, below_alloc (Below.refl _ w7) _⟩
          intro wq hq
          have HQ := am_ hq.1
          have HBQ := am_ hq.2
          clear hq hgq k0 f0 f1 f2 f3 e0 e1 e2 e3 e4 e5 e6
          have k0 := (c13 (bk_ HM7.out.2.2.1 HBQ.out)).1
          obtain ⟨f0, f1, f2, f3⟩ := c4 (bk_ HF7.out HBQ.out)
          obtain ⟨e0, e1, e2, e3, e4, e5, e6⟩ := c7 HQ.out
          go_wp2_with (first | (go_at_call 27; ((with_reducible refine (HCQ.out _).mono ?_); rintro en3 x3 ⟨c', rfl, hc, hx⟩; have HC3 := am_ hc; have HX3 := am_ hx; clear hc hx)))
          go_meet
          exact ⟨_, rfl, HC3.out, below_step HBQ.out HX3.out⟩
        · have d2 : (t6 == 2) = false := beq_eq_false_iff_ne.mpr h2
          clear h0 h1 h2
          go_wp2
          go_meet
          exact ⟨_, rfl, HC2.out, (by exact Below.refl _ _)⟩
  case rest =>
  obtain ⟨c', rfl, hc, hb⟩ := hcut
  rename World => w8
  have HC8 := am_ hc.out
  have HM8 := am_ (HM7.out.below hb.out)
  clear hc hb HC2 HCM HCQ HWM HWS k0 f0 f1 f2 f3 e0 e1 e2 e3 e4 e5 e6 HF7 HM7 ht6 HT6 hq5670 hq810 hs810 hq7 HS8
  obtain ⟨k0, k1, k2, k3, k4, k5, k6, k7, k8, k9, k10, k11, k12⟩ := c13 HM8.out.2.2.1
  obtain ⟨v0, v1, v2, v3, v4, v5, v6, v7, v8, v9, v10, v11, v12⟩ := f13 HM8.out.2.2.1
  by_cases hk2 : X.kind = 2
  · have d2 : (X.kind == 2) = true := beq_iff_eq.mpr hk2
    have HK2 := am_ hk2
    clear hk2
    obtain ⟨b3, hb3⟩ : ∃ b, (t3 == 0) = b := ⟨_, rfl⟩
    go_upto_region 15 with fail
    refine wp_w (fun W => InM p g3 g6 gx w W { X with label := c', bare := b3 } none 0 Ala cla) ?_ ?_
    · have hc : Chg gx w8 ((w8.setCell ⟨gx, 8, none⟩ (.int .i64 c')).setCell ⟨gx, 9, none⟩ (.bool b3)) := ((Chg.refl gx w8).set _ _).set _ _
      exact HM8.out.chg hc (heap_setCell_same _ gx 9 _ 37 _ (heap_setCell_same _ gx 8 _ 37 _ HM8.out.2.2.1)) (HM8.out.2.2.2.1.frm (Frm.of_grw1 (Grw.of_chg hc))) rfl
    intro w9 h9
    have HM9 := am_ h9
    clear h9 k0 k1 k2 k3 k4 k5 k6 k7 k8 k9 k10 k11 k12 v0 v1 v2 v3 v4 v5 v6 v7 v8 v9 v10 v11 v12 HM8
    obtain ⟨k0, k1, k2, k3, k4, k5, k6, k7, k8, k9, k10, k11, k12⟩ := c13 HM9.out.2.2.1
    obtain ⟨z0, z1, z2, z3, z4, z5, z6, z7, z8, z9, z10, z11, z12⟩ := c13 HM9.out.2.1
    obtain ⟨v0, v1, v2, v3, v4, v5, v6, v7, v8, v9, v10, v11, v12⟩ := f13 HM9.out.2.1
    go_wp2
    (try simp only [Exit.inBlock, Exit.then])
    have hfin := HM9.out.fin
    have hp : InP p { X with label := c', bare := b3 } := in_gram HX.out HBD.out.2.1 HBD.out.2.2.1 HBD.out.2.2.2.1 HK2.out HC8.out (take_bytes J) (by rw [List.length_take]; exact Nat.min_le_right _ _)
    exact bodyPost_ret (results_cell_row rfl _ _ g6 37 (pk13 { X with label := c', bare := b3 } none 0 Ala cla) (0, 0) _ rfl hfin.1 Tryz.underlying37 rfl info37) rfl ⟨_, _, _, _, _, rfl, hp, hfin.2.1, hfin.2.2.1, hfin.2.2.2⟩
  · have d2 : (X.kind == 2) = false := beq_eq_false_iff_ne.mpr hk2
    have HK1 := am_ (show X.kind = 1 by have h : kd < 3 ∧ 1 ≤ kd := ⟨HBD.out.1.2, HBD.out.1.1⟩; have h2 : X.kind = kd := (by rw [← HX.out]); omega)
    clear hk2
    go_upto_region 17 with fail
    refine wp_w (fun W => InM p g3 g6 gx w W { X with flags := t16 } none 0 Ala cla) ?_ ?_
    · have hc : Chg gx w8 (w8.setCell ⟨gx, 7, none⟩ (.int .i64 t16)) := (Chg.refl gx w8).set _ _
      exact HM8.out.chg hc (heap_setCell_same _ gx 7 _ 37 _ HM8.out.2.2.1) (HM8.out.2.2.2.1.frm (Frm.of_grw1 (Grw.of_chg hc))) rfl
    intro w9 h9
    have HM9 := am_ h9
    have HGB := am_ (show gx < w9.heap.size ∧ g6 < w9.heap.size from ⟨blk_lt h9.2.2.1, blk_lt h9.2.1⟩)
    clear h9 k0 k1 k2 k3 k4 k5 k6 k7 k8 k9 k10 k11 k12 v0 v1 v2 v3 v4 v5 v6 v7 v8 v9 v10 v11 v12 HM8 HC8 d2 ht16 ht3
    have k11 := (c13 HM9.out.2.2.1).2.2.2.2.2.2.2.2.2.2.2.1
    have v11 := fr_ HM9.out.2.2.1 11
    obtain ⟨b5, hb5⟩ : ∃ b, decide (0 < t5) = b := ⟨_, rfl⟩
    go_upto_if 118 with fail
    clear hb5 ht5
    go_cut [] (fun wx => ∃ (A1 : Option Addr) (c1 : Nat) (ol : List Int), Aside (InM p g3 g6 gx w wx { X with flags := t16, opts := ol } A1 c1 Ala cla) ∧ Aside (ol.length ≤ 12 ∧ Bytes ol))
    case first =>
      cases b5 with
      | true =>
        go_wp2_with (first
          | (go_at_call 29; ((with_reducible refine (oput_calls _ _ _).mono ?_); rintro en3 x3 ⟨r3, rfl, hx⟩; have HX3 := am_ hx; clear hx))
          | (go_at_call 28; ((with_reducible refine (omk_calls _ _ _).mono ?_); rintro en4 x4 ⟨A4, c4_, l4, rfl, hl4, hy4, hr4, hx⟩; have HL4 := am_ hl4; have HY4 := am_ hy4; have HR4 := am_ hr4; have HM4 := am_ ((HM9.out.below HX3.out).below hx); have k11 := (c13 HM4.out.2.2.1).2.2.2.2.2.2.2.2.2.2.2.1; have v11 := fr_ HM4.out.2.2.1 11; clear hx hl4 hy4 hr4)))
        go_meet
        have hc : Chg gx x4 (x4.setCell ⟨gx, 11, none⟩ (.slice A4 12 c4_)) := (Chg.refl gx x4).set _ _
        have hs3 := HX3.out.size
        have hs9 := HGB.out
        refine ⟨A4, c4_, l4, ?_, ⟨Nat.le_of_eq HL4.out, HY4.out⟩⟩
        refine HM4.out.chg hc ?_ (own_set HR4.out (by omega) (by omega) hc HL4.out) rfl
        have e : pk13 { X with flags := t16, opts := l4 } A4 c4_ Ala cla = #[.int .i64 X.kind, .int .i64 X.life, .int .i64 X.piece, .int .i64 X.frm, .int .i64 X.dst, .int .i64 X.fp, .int .i64 X.tp, .int .i64 t16, .int .i64 X.label, .bool X.bare, .int .i64 X.code, .slice A4 12 c4_, .slice Ala X.data.length cla] := by
          unfold pk13
          simp only [HL4.out]
        rw [e]
        exact heap_setCell_same _ gx 11 _ 37 _ HM4.out.2.2.1
      | false =>
        go_wp2
        go_meet
        refine ⟨none, 0, [], ?_, ⟨by decide, by intro x hx; cases hx⟩⟩
        have e : { X with flags := t16, opts := [] } = { X with flags := t16 } := by rw [← HX.out]
        rw [e]
        exact HM9.out
    case rest =>
    obtain ⟨A0, c0, ol0, hm, ho⟩ := hcut
    rename World => w10
    have HM10 := am_ hm.out
    have HO10 := am_ ho.out
    have HGB := am_ (show gx < w10.heap.size ∧ g6 < w10.heap.size from ⟨blk_lt hm.out.2.2.1, blk_lt hm.out.2.1⟩)
    clear hm ho k11 v11 HM9 HGB
    have HGB := am_ (show gx < w10.heap.size ∧ g6 < w10.heap.size from ⟨blk_lt HM10.out.2.2.1, blk_lt HM10.out.2.1⟩)
    have k11 := (c13 HM10.out.2.2.1).2.2.2.2.2.2.2.2.2.2.2.1
    have v11 := fr_ HM10.out.2.2.1 11
    obtain ⟨b31, hb31⟩ : ∃ b, (t31 == 1) = b := ⟨_, rfl⟩
    go_upto_if 131 with fail
    clear hb31 ht31
    go_cut [] (fun wx => ∃ (A1 : Option Addr) (c1 : Nat) (ol : List Int), Aside (InM p g3 g6 gx w wx { X with flags := t16, opts := ol } A1 c1 Ala cla) ∧ Aside (ol.length ≤ 12 ∧ Bytes ol))
    case first =>
      cases b31 with
      | true =>
        go_wp2_with (first
          | (go_at_call 28; ((with_reducible refine (omk_calls _ _ _).mono ?_); rintro en4 x4 ⟨A4, c4_, l4, rfl, hl4, hy4, hr4, hx⟩; have HL4 := am_ hl4; have HY4 := am_ hy4; have HR4 := am_ hr4; have HM4 := am_ (HM10.out.below hx); have k11 := (c13 HM4.out.2.2.1).2.2.2.2.2.2.2.2.2.2.2.1; have v11 := fr_ HM4.out.2.2.1 11; clear hx hl4 hy4 hr4)))
        go_meet
        have hc : Chg gx x4 (x4.setCell ⟨gx, 11, none⟩ (.slice A4 12 c4_)) := (Chg.refl gx x4).set _ _
        have hs9 := HGB.out
        refine ⟨A4, c4_, l4, ?_, ⟨Nat.le_of_eq HL4.out, HY4.out⟩⟩
        refine HM4.out.chg hc ?_ (own_set HR4.out (by omega) (by omega) hc HL4.out) rfl
        have e : pk13 { X with flags := t16, opts := l4 } A4 c4_ Ala cla = #[.int .i64 X.kind, .int .i64 X.life, .int .i64 X.piece, .int .i64 X.frm, .int .i64 X.dst, .int .i64 X.fp, .int .i64 X.tp, .int .i64 t16, .int .i64 X.label, .bool X.bare, .int .i64 X.code, .slice A4 12 c4_, .slice Ala X.data.length cla] := by
          unfold pk13
          simp only [HL4.out]
        rw [e]
        exact heap_setCell_same _ gx 11 _ 37 _ HM4.out.2.2.1
      | false =>
        go_wp2
        go_meet
        exact ⟨A0, c0, ol0, HM10.out, HO10.out⟩
    case rest =>
    obtain ⟨A1, c1, ol, hm, ho⟩ := hcut
    rename World => w11
    have HM11 := am_ hm.out
    have HO11 := am_ ho.out
    clear hm ho k11 v11 HM10
    obtain ⟨k0, k1, k2, k3, k4, k5, k6, k7, k8, k9, k10, k11, k12⟩ := c13 HM11.out.2.2.1
    obtain ⟨z0, z1, z2, z3, z4, z5, z6, z7, z8, z9, z10, z11, z12⟩ := c13 HM11.out.2.1
    obtain ⟨v0, v1, v2, v3, v4, v5, v6, v7, v8, v9, v10, v11, v12⟩ := f13 HM11.out.2.1
    go_wp2
    (try simp only [Exit.inBlock, Exit.then])
    have hfin := HM11.out.fin
    have hp : InP p { X with flags := t16, opts := ol } := in_stream HX.out HBD.out.2.1 HBD.out.2.2.1 HBD.out.2.2.2.1 HK1.out HBD.out.2.2.2.2 HO11.out.2 HO11.out.1 (take_bytes J) (by rw [List.length_take]; exact Nat.min_le_right _ _)
    exact bodyPost_ret (results_cell_row rfl _ _ g6 37 (pk13 { X with flags := t16, opts := ol } A1 c1 Ala cla) (0, 0) _ rfl hfin.1 Tryz.underlying37 rfl info37) rfl ⟨_, _, _, _, _, rfl, hp, hfin.2.1, hfin.2.2.1, hfin.2.2.2⟩
theorem loadrow_run {o : Oper} {a : Act} {x : Operand} {ty : TypeId} {ad : Addr} {cs : Array Value} (W : World) (ho : o.op = .load ty x) (hx : a.eval x = .pointer (some ad)) (hr : (Instr.loadAt ty (.pointer (some ad))).run Tryz.prog W = .ok (.agg cs) W) : (execOp a.eval o).run Tryz.prog W = .ok (.value (.agg cs)) W := by
  unfold execOp
  simp only [ho, hx, Sem.run_bind, hr, Result.andThen_ok]
  rfl
theorem PoolAt.loadR {w : World} {b : Nat} {p : Po} (h : PoolAt w b p) (hl : p.sl.length = 64) : (Instr.loadAt 31 (.pointer (some ⟨b, 323, none⟩))).run Tryz.prog w = .ok (.agg #[.int .i64 p.ep, .int .u64 p.k0.a, .int .u64 p.k0.b, .int .u64 p.k1.a, .int .u64 p.k1.b, .int .u64 p.k2.a, .int .u64 p.k2.b]) w := by
  have hr : w.rangeAt b 323 [.int .i64 p.ep, .int .u64 p.k0.a, .int .u64 p.k0.b, .int .u64 p.k1.a, .int .u64 p.k1.b, .int .u64 p.k2.a, .int .u64 p.k2.b] := by
    obtain ⟨e0, e1, e2, e3, e4, e5, e6⟩ := h.ring hl
    intro j v hv
    match j, hv with
    | 0, hv => obtain rfl := Option.some.inj hv; exact e0
    | 1, hv => obtain rfl := Option.some.inj hv; exact e1
    | 2, hv => obtain rfl := Option.some.inj hv; exact e2
    | 3, hv => obtain rfl := Option.some.inj hv; exact e3
    | 4, hv => obtain rfl := Option.some.inj hv; exact e4
    | 5, hv => obtain rfl := Option.some.inj hv; exact e5
    | 6, hv => obtain rfl := Option.some.inj hv; exact e6
    | j + 7, hv => exact absurd hv (by simp)
  simp only [Instr.loadAt, Instr.sureAddr, Sem.run_bind, Sem.run_pure, Result.andThen_ok, run_loadVar_mid w b 323 31 _ _ hr Tryz.underlying31 rfl (by rw [info32]; rfl)]
theorem pk_load {w : World} {g : Nat} {X : Pk} {A1 : Option Addr} {c1 : Nat} {A2 : Option Addr} {c2 : Nat} (h : w.heap[g]? = some (.cells (pk13 X A1 c1 A2 c2) 37 (0, 0))) : (Instr.loadAt 37 (.pointer (some ⟨g, 0, none⟩))).run Tryz.prog w = .ok (.agg (pk13 X A1 c1 A2 c2)) w := by
  simp only [Instr.loadAt, Instr.sureAddr, Sem.run_bind, Sem.run_pure, Result.andThen_ok, run_loadVar_row w g 37 37 (pk13 X A1 c1 A2 c2) (0, 0) _ h Tryz.underlying37 rfl (by rw [info37]; rfl)]
theorem flow_calls (p : Po) (X : Pk) (A1 : Option Addr) (c1 : Nat) (A2 : Option Addr) (c2 : Nat) (w : World) :
    Calls Tryz.prog 14 #[.agg p.ag, .agg (pk13 X A1 c1 A2 c2)] w fun e w' => e = .returned (.agg #[.int .i64 X.frm, .int .i64 X.fp, .int .i64 p.ad, .int .i64 p.po]) ∧ Below w.heap.size w w' := by
  go_enter Tryz.func14, Tryz.ntmps14
  go_upto_region 1 with (first
    | ((with_reducible refine gate_dst (N := 2) rfl ?_); refine pool_box (p := p) rfl rfl rfl ?_; intro g3 hg3 w1 hp1 hb1 hs1; have HP1 := am_ hp1; have HB1 := am_ hb1; obtain ⟨gx, hgx⟩ : ∃ x, w1.heap.size = x := ⟨_, rfl⟩; clear hp1 hb1 hs1 hg3))
  refine wp_w (fun W => PoolAt W g3 p ∧ W.heap[gx]? = some (.cells (pk13 X A1 c1 A2 c2) 37 (0, 0)) ∧ W.heap[gx + 1]? = some (.cells #[.int .i64 0, .int .i64 0, .int .i64 0, .int .i64 0] 56 (0, 0)) ∧ Below w.heap.size w W) ?_ ?_
  · have hb2 := below_alloc (Below.refl _ w1) (.cells (pk13 X A1 c1 A2 c2) 37)
    have hb3 := below_alloc (Below.refl _ (w1.alloc (.cells (pk13 X A1 c1 A2 c2) 37))) (.cells #[.int .i64 0, .int .i64 0, .int .i64 0, .int .i64 0] 56)
    have hn := new_blk (w1.alloc (.cells (pk13 X A1 c1 A2 c2) 37)) (.cells #[.int .i64 0, .int .i64 0, .int .i64 0, .int .i64 0] 56)
    rw [World.size_alloc] at hn
    exact ⟨(HP1.out.below hb2).below hb3, by rw [← hgx]; exact bk_ (new_blk w1 _) hb3, by rw [← hgx]; exact hn, below_step (below_step HB1.out hb2) hb3⟩
  intro w2 h2
  have HB2 := am_ h2.2.2.2
  have HR2 := am_ h2.2.2.1
  have HGX := am_ (show w.heap.size ≤ gx + 1 from by have := HB1.out.size; omega)
  obtain ⟨k0, k1, k2, k3, k4, k5, k6, k7, k8, k9, k10, k11, k12⟩ := c13 h2.2.1
  obtain ⟨e0, e1, e2⟩ := h2.1.head
  obtain ⟨z0, z1, z2, z3⟩ := c4 h2.2.2.1
  have v0 := fr_ h2.2.2.1 0
  have v1 := fr_ h2.2.2.1 1
  have v2 := fr_ h2.2.2.1 2
  have v3 := fr_ h2.2.2.1 3
  clear h2
  go_wp2
  (try simp only [Exit.inBlock, Exit.then])
  exact bodyPost_ret (results_cell_row rfl _ _ (gx + 1) 56 #[.int .i64 X.frm, .int .i64 X.fp, .int .i64 p.ad, .int .i64 p.po] (0, 0) _ rfl (heap_setCell_same _ (gx + 1) 3 _ 56 _ (heap_setCell_same _ (gx + 1) 2 _ 56 _ (heap_setCell_same _ (gx + 1) 1 _ 56 _ (heap_setCell_same _ (gx + 1) 0 _ 56 _ HR2.out)))) Tryz.underlying56 rfl (by kernel_rfl)) rfl ⟨rfl, Chg.step HB2.out ((((((Chg.refl (gx + 1) w2).set _ _).set _ _).set _ _).set _ _)) HGX.out⟩
/-- The cookie that a packet in carries, and if it is to be read. -/
def cmL (X : Pk) : Int × Bool := if X.kind = 2 then (X.label, X.label != 0) else (getC (stampL X.opts).2.2.1, (stampL X.opts).2.2.2 && (X.flags != 1))
theorem ways_pure (p : Po) (Y : Pk) {c s0 : Int} {may is0 : Bool} (hc : cmL Y = (c, may)) (hr : readC ⟨p.ep, p.k0, p.k1, p.k2⟩ Y.kind ⟨Y.frm, Y.fp, p.ad, p.po⟩ c = (s0, is0)) :
    inS p Y = if (may && is0 && takesB (p.s s0.toNat).st) = true then (s0, true) else (rd (wheelL p) (spunL 127 [3, Y.frm, Y.fp, p.ad, p.po]), false) := by
  unfold inS carriedC
  unfold cmL at hc
  by_cases hk : Y.kind = 2
  · rw [if_pos hk] at hc ⊢
    obtain ⟨rfl, rfl⟩ := Prod.mk.inj hc
    by_cases hl : Y.label = 0
    · have e : (Y.label != 0) = false := by rw [hl]; rfl
      rw [if_pos hl, e]
      simp
    · have e : (Y.label != 0) = true := bne_iff_ne.mpr hl
      rw [if_neg hl, e, hr]
      simp
  · rw [if_neg hk] at hc ⊢
    obtain ⟨rfl, rfl⟩ := Prod.mk.inj hc
    by_cases hs : (stampL Y.opts).2.2.2 = true ∧ Y.flags ≠ 1
    · have e : (Y.flags != 1) = true := bne_iff_ne.mpr hs.2
      rw [if_pos hs, hs.1, e, hr]
      simp
    · have e : ((stampL Y.opts).2.2.2 && (Y.flags != 1)) = false := by
        cases h : (stampL Y.opts).2.2.2 with
        | false => rfl
        | true =>
          have hf : Y.flags = 1 := by
            by_cases h1 : Y.flags = 1
            · exact h1
            · exact absurd ⟨h, h1⟩ hs
          rw [hf]; rfl
      rw [if_neg hs, e]
      simp
/-- What Take leaves of a packet in. -/
theorem take_in_ways {b : Nat} {e : Ending} {w w' : World} {R : Int × Bool} {L : List Int} {Q : Prop}
    (h : (R.1 < 0 ∧ e = .returned (.agg #[.int .i64 9, .int .i64 (-1), .bool false, .slice none 0 0]) ∧ Grw b w w') ∨ ∃ A c, e = .returned (.agg #[.int .i64 0, .int .i64 R.1, .bool R.2, .slice A L.length c]) ∧ Rw w' A c L ∧ Q ∧ Grw b w w' ∧ 0 ≤ R.1) :
    ∃ (d s : Int) (ck : Bool) (A : Option Addr) (n c : Nat), e = .returned (.agg #[.int .i64 d, .int .i64 s, .bool ck, .slice A n c]) ∧ ((R.1 < 0 ∧ d = 9 ∧ s = -1) ∨ (0 ≤ R.1 ∧ d = 0 ∧ s = R.1 ∧ ck = R.2)) ∧ Grw b w w' := by
  rcases h with ⟨h0, rfl, hg⟩ | ⟨A, c, rfl, hr, _, hg, h0⟩
  · exact ⟨9, -1, false, none, 0, 0, rfl, Or.inl ⟨h0, rfl, rfl⟩, hg⟩
  · exact ⟨0, R.1, R.2, A, L.length, c, rfl, Or.inr ⟨h0, rfl, rfl, rfl⟩, hg⟩
theorem TopWays_walk {A0 : Option Addr} {cap0 n0 : Nat} {ns : List Int} (a1 a2 : Int) {w : World} (hr : Kd.C (Kd.int .i64) w A0 n0 ns) (hn : ns.length = n0) (hc : n0 ≤ cap0) :
    Calls Tryz.prog 3 #[.slice A0 n0 cap0, .int .i64 a1, .int .i64 a2] w fun e w' => e = .returned (.bool true) ∧ Below w.heap.size w w' := by
  have HKN := am_ (known_calls w)
  have HMK := am_ (fun W (hW : Below w.heap.size w W) => lmake_calls (w := W) (Kd.C_below hr hW) hn hc)
  clear hr hn hc
  go_enter Tryz.func3, Tryz.ntmps3
  go_upto_region 4 with (first
    | (go_at_call 4; (with_reducible refine HKN.out.mono ?_); rintro e1 x1 ⟨rfl, hx⟩; have HX1 := am_ hx; clear hx)
    | (go_at_call 5; ((with_reducible refine (HMK.out _ HX1.out).mono ?_); rintro e2 x2 ⟨p, hinv, rfl, hx⟩; have HI := am_ hinv; have HX2 := am_ (below_step HX1.out hx); clear hinv hx))
    | ((with_reducible refine gate_dst (N := 7) rfl ?_); refine pool_alloc rfl rfl ?_; intro g7 hg7 w1 hp1 hb1 hs1; have HP1 := am_ hp1; have HB1 := am_ hb1; have HG7 := am_ hg7; clear hp1 hb1 hs1 hg7)
    | ((with_reducible refine gate_store (t := 33) (p := 7) rfl ?_); refine pool_store (q := p) rfl rfl rfl rfl rfl HP1.out Po.z_len HI.out.len ?_; intro w2 hp2 hc2; have HP2 := am_ hp2; have HC2 := am_ hc2; clear hp2 hc2))
  refine wp_w (fun W => PoolAt W g7 p ∧ Below w.heap.size w W) ?_ ?_
  · exact ⟨HP2.out, Chg.step (below_step HX2.out HB1.out) HC2.out (by have := HG7.out; have := HX2.out.size; omega)⟩
  intro w3 h3
  have HP3 := am_ h3.1
  have HB3 := am_ h3.2
  have HIN := am_ (fun W => show Calls Tryz.prog 6 #[.agg p.ag, .int .i64 a1, .int .i64 a2] W fun e w' => ∃ (X : Pk) (A1 : Option Addr) (c1 : Nat) (A2 : Option Addr) (c2 : Nat), e = .returned (.agg #[.int .i64 X.kind, .int .i64 X.life, .int .i64 X.piece, .int .i64 X.frm, .int .i64 X.dst, .int .i64 X.fp, .int .i64 X.tp, .int .i64 X.flags, .int .i64 X.label, .bool X.bare, .int .i64 X.code, .slice A1 X.opts.length c1, .slice A2 X.data.length c2]) ∧ InP p X ∧ Rw w' A1 c1 X.opts ∧ Rw w' A2 c2 X.data ∧ Below W.heap.size W w' from rin_calls HI.out a1 a2 W)
  clear h3 HX1 HX2 HP1 HB1 HP2 HC2 HG7 HKN HMK
  go_upto_region 5 with (first
    | ((with_reducible refine gate_dst (N := 26) rfl ?_); refine pool_load rfl rfl rfl HP3.out HI.out.len ?_)
    | (go_at_call 6; ((with_reducible refine (HIN.out _).mono ?_); rintro e3 x3 ⟨X, A1, c1, A2, c2, rfl, hin, ho, hd, hx⟩; have HNP := am_ hin; have HO3 := am_ ho; have HD3 := am_ hd; have HX3 := am_ hx; obtain ⟨g8, hg8⟩ : ∃ n, x3.heap.size = n := ⟨_, rfl⟩; clear hin ho hd hx)))
  refine wp_w (fun W => W.heap[g8]? = some (.cells (pk13 X A1 c1 A2 c2) 37 (0, 0)) ∧ Below x3.heap.size x3 W) ?_ ?_
  · exact ⟨by rw [← hg8]; exact new_blk x3 _, below_alloc (Below.refl _ x3) _⟩
  intro w4 h4
  have HK4 := am_ h4.1
  have HB4 := am_ h4.2
  have k1 := (c13 h4.1).2.1
  have v1 := fr_ h4.1 1
  clear h4 HIN
  obtain ⟨Y, hY⟩ : ∃ Y : Pk, { X with life := 9 } = Y := ⟨_, rfl⟩
  have HPK := am_ (show Pok Y by rw [← hY]; exact in_pok HI.out HNP.out)
  have HYF := am_ (show Y.life = 9 ∧ Y.piece = 0 ∧ Y.dst = p.ad ∧ Y.tp = p.po by rw [← hY]; exact ⟨rfl, HNP.out.pc, HNP.out.ds, HNP.out.tp⟩)
  have HYO := am_ (show Y.opts = X.opts ∧ Y.data = X.data by rw [← hY]; exact ⟨rfl, rfl⟩)
  go_upto_region 6 with fail
  refine wp_w (fun W => W.heap[g8]? = some (.cells (pk13 Y A1 c1 A2 c2) 37 (0, 0)) ∧ Below x3.heap.size x3 W) ?_ ?_
  · rw [← hY]
    exact ⟨heap_setCell_same _ g8 1 _ 37 _ HK4.out, Chg.step HB4.out ((Chg.refl g8 w4).set _ _) (Nat.le_of_eq hg8)⟩
  intro w5 h5
  have HK5 := am_ h5.1
  have HB5 := am_ (below_step (below_step HB3.out HX3.out) h5.2)
  have HP5 := am_ ((HP3.out.below HX3.out).below h5.2)
  have HO5 := am_ (show Rw w5 A1 c1 Y.opts by rw [HYO.out.1]; exact HO3.out.below h5.2)
  have HD5 := am_ (show Rw w5 A2 c2 Y.data by rw [HYO.out.2]; exact HD3.out.below h5.2)
  obtain ⟨bl, hbl⟩ : ∃ z, buildL Y = z := ⟨_, rfl⟩
  have HBL := am_ hbl
  have HBU := am_ (build_at (W0 := w5) HO5.out HD5.out rfl rfl HPK.out.e HPK.out.k HPK.out.c (by have := HPK.out.ol; omega) (by have := HPK.out.dl; omega) hbl)
  clear h5 hY hbl k1 v1 HK4 HB4 HB3 HX3 HP3 HO3 HD3 HD5 HNP HYO hg8
  obtain ⟨k0, k1, k2, k3, k4, k5, k6, k7, k8, k9, k10, k11, k12⟩ := c13 HK5.out
  go_upto_region 7 with (first
    | (go_at_call 7; ((with_reducible refine (HBU.out _ ?hb).mono ?_); (case hb => (repeat (first | with_reducible exact Below.refl _ _ | with_reducible apply below_alloc | with_reducible apply pw_below_drewN | with_reducible apply below_drew1 | exact bd (Below.refl _ _) _ | exact (Below.refl _ _).drew))); rintro e6 x6 ⟨Ab, cb, rfl, hrb, hx⟩; have HRB := am_ (rw_of hrb); have HX6 := am_ hx; clear hrb hx)))
  refine wp_w (fun W => Rw W Ab cb bl ∧ Below w5.heap.size w5 W) ?_ ?_
  · exact ⟨HRB.out, HX6.out⟩
  intro w6 h6
  have HR6 := am_ h6.1
  have HK6 := am_ (bk_ HK5.out h6.2)
  have HP6 := am_ (HP5.out.below h6.2)
  have HO6 := am_ (HO5.out.below h6.2)
  have HB6 := am_ (below_step HB5.out h6.2)
  clear h6 k0 k1 k2 k3 k4 k5 k6 k7 k8 k9 k10 k11 k12 HRB HX6 HBU HK5 HP5 HO5 HB5
  obtain ⟨gu, hgu⟩ : ∃ n, w6.heap.size = n := ⟨_, rfl⟩
  have HNU := am_ (pnew_at hgu)
  have HGU := am_ hgu
  clear hgu
  go_upto_region 10 with (first
    | (go_at_call 8; ((with_reducible refine HNU.out.mono ?_); rintro e7 x7 ⟨rfl, hp, hx⟩; have HU7 := am_ hp; have HX7 := am_ hx; clear hp hx)))
  refine wp_w (fun W => PlaneAt W gu Po.z false nearZ (.slice none 0 0) ∧ Below w6.heap.size w6 W) ?_ ?_
  · exact ⟨HU7.out, HX7.out⟩
  intro w7 h7
  have HB7 := am_ h7.2
  have HP7 := am_ (HP6.out.below h7.2)
  have HLU := am_ (load_calls h7.1 HI.out.len)
  clear h7 HU7 HX7 HNU
  go_upto_region 11 with (first
    | ((with_reducible refine gate_dst (N := 44) rfl ?_); refine pool_load rfl rfl rfl HP7.out HI.out.len ?_)
    | (go_at_call 9; ((with_reducible refine HLU.out.mono ?_); rintro e8 x8 ⟨rfl, Au, cu, hpu, hru, hgr⟩; have HPU := am_ hpu; have HRU := am_ (Kd.R_reads' hru); have HGR := am_ hgr; clear hpu hru hgr)))
  refine wp_w (fun W => PlaneAt W gu p true nearZ (.slice Au 127 cu) ∧ Kd.C (Kd.int .i64) W Au 127 (wheelL p) ∧ Below w6.heap.size w6 W) ?_ ?_
  · exact ⟨HPU.out, by have h := HRU.out; have h2 := h.2.2; rw [← h.1] at h2; exact h2, HGR.out.below HB7.out HB7.out.size (Nat.le_of_eq HGU.out)⟩
  intro w8 h8
  have HCV := am_ (show 127 ≤ cu ∧ (wheelL p).length = 127 from ⟨HRU.out.2.1, HRU.out.1.symm⟩)
  rw [nearZ_eq] at h8
  obtain ⟨nz, hnz⟩ : ∃ z, List.replicate 64 ((0 : Int), false) = z := ⟨_, rfl⟩
  rw [hnz] at h8
  have HB8 := am_ h8.2.2
  obtain ⟨R, hR⟩ : ∃ z, inS p Y = z := ⟨_, rfl⟩
  have HRR := am_ hR
  have HTI := am_ (show Calls Tryz.prog 10 #[.pointer (some ⟨gu, 0, none⟩), .slice Ab bl.length cb] w8 fun e w' => ∃ (d s : Int) (ck : Bool) (A : Option Addr) (n c : Nat), e = .returned (.agg #[.int .i64 d, .int .i64 s, .bool ck, .slice A n c]) ∧ ((R.1 < 0 ∧ d = 9 ∧ s = -1) ∨ (0 ≤ R.1 ∧ d = 0 ∧ s = R.1 ∧ ck = R.2)) ∧ Grw gu w8 w' from by
    have hT := take_ok HPK.out HYF.out.2.1 (Or.inl HYF.out.1) (w := w8) (A := Ab) (c := cb) (by rw [HBL.out]; exact HR6.out.below h8.2.2)
    have h1 := in1_ok HI.out HPK.out (show 2 ≤ Y.life by rw [HYF.out.1]; decide)
    rw [HBL.out] at hT h1
    have h := take_in h8.1 hT HYF.out.2.2.1 HYF.out.2.2.2 h8.2.1 HCV.out.1 (pok_in HPK.out) h1 hR
    exact h.mono fun e w' h => take_in_ways h)
  clear h8 hR hnz HPU HRU HGR HLU HP7 HB7
  go_upto_region 12 with (first
    | (go_at_call 10; ((with_reducible refine HTI.out.mono ?_); rintro e9 x9 ⟨d_, s_, ck_, A8, n8, c8, rfl, hv, hgr⟩; have HVV := am_ hv; have HGR := am_ hgr; obtain ⟨g12, hg12⟩ : ∃ n, x9.heap.size = n := ⟨_, rfl⟩; clear hv hgr)))
  refine wp_w (fun W => W.heap[g12]? = some (.cells #[.int .i64 d_, .int .i64 s_, .bool ck_, .slice A8 n8 c8] 46 (0, 0)) ∧ Below w6.heap.size w6 W) ?_ ?_
  · have hb := below_alloc (Below.refl x9.heap.size x9) (.cells #[.int .i64 d_, .int .i64 s_, .bool ck_, .slice A8 n8 c8] 46)
    exact ⟨by rw [← hg12]; exact new_blk x9 _, below_step (HGR.out.below HB8.out HB8.out.size (Nat.le_of_eq HGU.out)) hb⟩
  intro w9 h9
  have HO9 := am_ h9.1
  have HB9 := am_ h9.2
  clear h9 hg12 HGR HTI HB8 HGU HR6 HBL
  have k8 := (c13 (bk_ HK6.out HB9.out)).2.2.2.2.2.2.2.2.1
  obtain ⟨lb, hlb⟩ : ∃ b, (Y.label != 0) = b := ⟨_, rfl⟩
  obtain ⟨b1, hb1⟩ : ∃ b, (Y.kind == 1) = b := ⟨_, rfl⟩
  refine start_ (n := 7) (S := fun w' => w'.cell? ⟨g8, 8, none⟩ = some (.int .i64 Y.label)) (ds := []) #[fF,fF,fF,fF,fF,fF,fF] (by kernel_rfl) rfl rfl (k8) (fun hHeld => ?_)
  refine p_ 0 49 ?_
  refine p_ 2 51 ?_
  refine t_ 1 50 hHeld ?_
  refine p_ 5 13 ?_
  refine t_ 3 52 hHeld ?_
  refine p_ 4 53 ?_
  refine p_ 6 14 ?_
  refine done_ (by kernel_rfl) ?_
  go_upto_region 13 with fail
  refine wp_w (fun W => W.heap[g12]? = some (.cells #[.int .i64 d_, .int .i64 s_, .bool ck_, .slice A8 n8 c8] 46 (0, 0)) ∧ Below w6.heap.size w6 W) ?_ ?_
  · exact ⟨HO9.out, HB9.out.drew⟩
  intro wa ha
  have HOa := am_ ha.1
  have HBa := am_ ha.2
  clear ha hHeld k8 HO9 HB9
  have HKa := am_ (bk_ HK6.out HBa.out)
  obtain ⟨k0, k1, k2, k3, k4, k5, k6, k7, k8, k9, k10, k11, k12⟩ := c13 HKa.out
  obtain ⟨⟨c, may⟩, hcm⟩ : ∃ z, cmL Y = z := ⟨_, rfl⟩
  have HCM := am_ hcm
  clear hcm
  go_upto_if 56 with fail
  go_cut [13, 14] (fun s13 s14 wx => s13 = .int .i64 c ∧ s14 = .bool may ∧ Aside (Below wa.heap.size wa wx))
  case first =>
    cases b1 with
    | true =>
      have hk2 : ¬ Y.kind = 2 := by have h := beq_iff_eq.1 hb1; omega
      have HST := am_ (stamp_calls (HO6.out.below HBa.out).rd rfl (HO6.out.below HBa.out).le (by have := HPK.out.ol; omega) HPK.out.c.bo)
      have hcm := HCM.out
      rw [cmL, if_neg hk2] at hcm
      obtain ⟨⟨sa, sv, se, si⟩, hst⟩ : ∃ z, stampL Y.opts = z := ⟨_, rfl⟩
      rw [hst] at hcm HST
      obtain ⟨fb, hfb⟩ : ∃ b, (Y.flags != 1) = b := ⟨_, rfl⟩
      rw [hfb] at hcm
      have HC1 := am_ (Prod.mk.inj hcm)
      clear hcm hst hk2 hb1
      cases si with
      | true =>
        go_wp2_with (first
          | (go_at_call 11; ((with_reducible refine HST.out.mono ?_); rintro e1 x1 ⟨rfl, hx⟩; have HX1 := am_ hx; have k7 := (c13 (bk_ HKa.out hx)).2.2.2.2.2.2.2.1; clear hx))
          | (go_at_call 12; ((with_reducible refine (get_calls se _).mono ?_); rintro e2 x2 ⟨rfl, hx⟩; have HX2 := am_ (below_step HX1.out hx); have k7 := (c13 (bk_ HKa.out HX2.out)).2.2.2.2.2.2.2.1; clear hx)))
        go_meet
        exact ⟨by rw [← HC1.out.1], by rw [← HC1.out.2]; rfl, HX2.out⟩
      | false =>
        go_wp2_with (first
          | (go_at_call 11; ((with_reducible refine HST.out.mono ?_); rintro e1 x1 ⟨rfl, hx⟩; have HX1 := am_ hx; clear hx))
          | (go_at_call 12; ((with_reducible refine (get_calls se _).mono ?_); rintro e2 x2 ⟨rfl, hx⟩; have HX2 := am_ (below_step HX1.out hx); clear hx)))
        go_meet
        exact ⟨by rw [← HC1.out.1], by rw [← HC1.out.2]; rfl, HX2.out⟩
    | false =>
      have hk2 : Y.kind = 2 := by
        have h : ¬ Y.kind = 1 := beq_eq_false_iff_ne.1 hb1
        rcases HPK.out.k with h1 | h1
        · exact absurd h1 h
        · exact h1
      have hcm := HCM.out
      rw [cmL, if_pos hk2, hlb] at hcm
      have HC1 := am_ (Prod.mk.inj hcm)
      clear hcm hk2 hb1
      go_wp2
      go_meet
      exact ⟨by rw [← HC1.out.1], by rw [← HC1.out.2], (by exact Below.refl _ _)⟩
  case rest =>
  obtain ⟨rfl, rfl, hbr⟩ := hcut
  rename World => wb
  have HOb := am_ (bk_ HOa.out hbr.out)
  have HBb := am_ (below_step HBa.out hbr.out)
  clear hbr hb1 hlb k0 k1 k2 k3 k4 k5 k6 k7 k8 k9 k10 k11 k12 HKa HBa HOa
  obtain ⟨⟨s0, is0⟩, hrd⟩ : ∃ z, readC ⟨p.ep, p.k0, p.k1, p.k2⟩ Y.kind ⟨Y.frm, Y.fp, p.ad, p.po⟩ c = z := ⟨_, rfl⟩
  have hrb := readC_b ⟨p.ep, p.k0, p.k1, p.k2⟩ Y.kind ⟨Y.frm, Y.fp, p.ad, p.po⟩ c
  rw [hrd] at hrb
  have HWP := am_ (ways_pure p Y HCM.out hrd)
  have HRD := am_ (fun W => rd_calls p Y ⟨Y.frm, Y.fp, p.ad, p.po⟩ c hrd W)
  have HFL := am_ (fun W => flow_calls p Y A1 c1 A2 c2 W)
  obtain ⟨i0, rfl⟩ := Int.eq_ofNat_of_zero_le hrb.1
  have HI0 := am_ (show i0 < 64 by have h := hrb.2; simp only at h; omega)
  have HCK := am_ (fun W (hW : Below wb.heap.size wb W) => show (Instr.loadAt 33 (.pointer (some ⟨g7, 0, none⟩))).run Tryz.prog W = .ok (.agg p.ag) W ∧ (Instr.loadAt 37 (.pointer (some ⟨g8, 0, none⟩))).run Tryz.prog W = .ok (.agg (pk13 Y A1 c1 A2 c2)) W ∧ (Instr.loadAt 31 (.pointer (some ⟨g7, 323, none⟩))).run Tryz.prog W = .ok (.agg #[.int .i64 p.ep, .int .u64 p.k0.a, .int .u64 p.k0.b, .int .u64 p.k1.a, .int .u64 p.k1.b, .int .u64 p.k2.a, .int .u64 p.k2.b]) W ∧ W.cell? ⟨g8, 0, none⟩ = some (.int .i64 Y.kind) from by
    have h6 := below_step HBb.out hW
    have hp := HP6.out.below h6
    have hk := bk_ HK6.out h6
    exact ⟨hp.load HI.out.len, pk_load hk, hp.loadR HI.out.len, (c13 hk).1⟩)
  have HQc := am_ (Below.refl wb.heap.size wb).drew
  clear hrd hrb HCM
  go_upto_region 17 with fail
  refine start_ (n := 14) (S := fun w' => (Instr.loadAt 33 (.pointer (some ⟨g7, 0, none⟩))).run Tryz.prog w' = .ok (.agg p.ag) w' ∧ (Instr.loadAt 37 (.pointer (some ⟨g8, 0, none⟩))).run Tryz.prog w' = .ok (.agg (pk13 Y A1 c1 A2 c2)) w' ∧ (Instr.loadAt 31 (.pointer (some ⟨g7, 323, none⟩))).run Tryz.prog w' = .ok (.agg #[.int .i64 p.ep, .int .u64 p.k0.a, .int .u64 p.k0.b, .int .u64 p.k1.a, .int .u64 p.k1.b, .int .u64 p.k2.a, .int .u64 p.k2.b]) w' ∧ w'.cell? ⟨g8, 0, none⟩ = some (.int .i64 Y.kind)) (ds := []) #[fF,fF,fF,fF,fF,fF,fF,fF,fF,fF,fF,fF,fF,fF] (by kernel_rfl) rfl rfl ⟨(HCK.out _ HQc.out).1, (HCK.out _ HQc.out).2.1, (HCK.out _ HQc.out).2.2.1, (HCK.out _ HQc.out).2.2.2⟩ (fun hHeld => ?_)
  refine p_ 0 77 ?_
  refine p_ 2 79 ?_
  refine p_ 7 84 ?_
  refine take_ (i := 1) (N := some 78) (v := ?_) (a' := ?_) #[tT,tT,tT,fF,fF,fF,fF,tT,fF,fF,fF,fF,fF,fF] rfl rfl (by kernel_rfl) (fun _ _ _ h => h) (Or.inl ⟨by rfl, ?_⟩) hHeld ?_ ?_
  rotate_left
  · rintro w' ⟨s0, s1, s2, s3⟩
    refine loadrow_run (x := .tmp 77) _ ?_ ?_ s2 <;> rfl
  rotate_left; · simp only [Act.put, q_a, q_0, q_s, i64_w, i32_w]; rfl
  refine t_ 3 80 hHeld ?_
  refine take_ (i := 4) (N := some 81) (v := ?_) (a' := ?_) #[tT,tT,tT,tT,tT,fF,fF,tT,fF,fF,fF,fF,fF,fF] rfl rfl (by kernel_rfl) (fun _ _ _ h => h) (Or.inl ⟨by rfl, ?_⟩) hHeld ?_ ?_
  rotate_left
  · rintro w' ⟨s0, s1, s2, s3⟩
    refine loadrow_run (x := .tmp 7) _ ?_ ?_ s0 <;> rfl
  rotate_left; · simp only [Act.put, q_a, q_0, q_s, i64_w, i32_w]; rfl
  refine take_ (i := 5) (N := some 82) (v := ?_) (a' := ?_) #[tT,tT,tT,tT,tT,tT,fF,tT,fF,fF,fF,fF,fF,fF] rfl rfl (by kernel_rfl) (fun _ _ _ h => h) (Or.inl ⟨by rfl, ?_⟩) hHeld ?_ ?_
  rotate_left
  · rintro w' ⟨s0, s1, s2, s3⟩
    refine loadrow_run (x := .tmp 8) _ ?_ ?_ s1 <;> rfl
  rotate_left; · simp only [Act.put, q_a, q_0, q_s, i64_w, i32_w]; rfl
  refine o_ 6 (some 83) (fun K hK => ?_)
  refine g_ Tryz.func14 #[.agg p.ag, .agg (pk13 Y A1 c1 A2 c2)] ?_
  with_reducible refine (HFL.out _).mono ?_
  rintro e12 w12 ⟨rfl, hx⟩
  refine ⟨_, rfl, ?_⟩
  replace HQc := am_ (below_step HQc.out hx)
  clear hx
  refine hK.out _ _ ⟨(HCK.out _ HQc.out).1, (HCK.out _ HQc.out).2.1, (HCK.out _ HQc.out).2.2.1, (HCK.out _ HQc.out).2.2.2⟩ (fun hHeld => ?_)
  clear hK K
  refine n_ 83 ?_
  refine o_ 8 (some 85) (fun K hK => ?_)
  refine g_ Tryz.func13 #[.agg #[.int .i64 p.ep, .int .u64 p.k0.a, .int .u64 p.k0.b, .int .u64 p.k1.a, .int .u64 p.k1.b, .int .u64 p.k2.a, .int .u64 p.k2.b], .int .i64 Y.kind, .agg #[.int .i64 Y.frm, .int .i64 Y.fp, .int .i64 p.ad, .int .i64 p.po], .int .i64 c] ?_
  with_reducible refine (HRD.out _).mono ?_
  rintro e13 w13 ⟨rfl, hx⟩
  refine ⟨_, rfl, ?_⟩
  replace HQc := am_ (below_step HQc.out hx)
  clear hx
  refine hK.out _ _ ⟨(HCK.out _ HQc.out).1, (HCK.out _ HQc.out).2.1, (HCK.out _ HQc.out).2.2.1, (HCK.out _ HQc.out).2.2.2⟩ (fun hHeld => ?_)
  clear hK K
  refine n_ 85 ?_
  refine p_ 9 76 ?_
  refine p_ 10 86 ?_
  refine p_ 11 87 ?_
  refine p_ 12 19 ?_
  refine p_ 13 20 ?_
  refine done_ (by kernel_rfl) ?_
  go_upto_region 18 with fail
  refine wp_w (fun W => Below wb.heap.size wb W) ?_ ?_
  · exact HQc.out
  intro wc hcx
  have HBc := am_ (below_step HBb.out hcx)
  have HOc := am_ (bk_ HOb.out hcx)
  clear hcx hHeld HQc HCK HOb HBb HRD
  obtain ⟨d0, d1, d2, d3, d4⟩ := (HP6.out.below HBc.out).slot HI.out.len HI0.out
  obtain ⟨⟨st, ta, tp, tw, tq⟩, hss⟩ : ∃ z, p.s i0 = z := ⟨_, rfl⟩
  have HSS := am_ hss
  rw [hss] at d0 d1 d2 d3 d4
  have hi0 : (0 : Int) ≤ (i0 : Int) := by omega
  have hi1 : (i0 : Int) < 64 := by have := HI0.out; omega
  have HTK := am_ (fun W => takes_calls st ta tp tw tq W)
  obtain ⟨tk, htk⟩ : ∃ z, takesB st = z := ⟨_, rfl⟩
  rw [htk] at HTK
  obtain ⟨B, hB⟩ : ∃ z, (may && is0 && tk) = z := ⟨_, rfl⟩
  have HBB := am_ hB
  have HRV := am_ (show R = if B = true then ((i0 : Int), true) else (rd (wheelL p) (spunL 127 [3, Y.frm, Y.fp, p.ad, p.po]), false) from by
    have h := HWP.out
    rw [Int.toNat_natCast, HSS.out] at h
    simp only [htk, hB] at h
    rw [← HRR.out]
    exact h)
  clear hB hss htk
  go_cut [106] (fun s106 wx => s106 = .bool B ∧ Aside (Below wc.heap.size wc wx))
  case first =>
    cases may with
    | false =>
      go_wp2
      go_meet
      exact ⟨by rw [← HBB.out]; rfl, (by exact Below.refl _ _)⟩
    | true =>
      cases is0 with
      | false =>
        go_wp2
        go_meet
        exact ⟨by rw [← HBB.out]; rfl, (by exact Below.refl _ _)⟩
      | true =>
        go_wp2_with (first | (go_at_call 15; ((with_reducible refine (HTK.out _).mono ?_); rintro e2 x2 ⟨rfl, hx⟩; have HX2 := am_ hx; clear hx)))
        go_meet
        exact ⟨by rw [← HBB.out]; rfl, HX2.out⟩
  case rest =>
  obtain ⟨rfl, hbr⟩ := hcut
  rename World => wd
  have HOd := am_ (bk_ HOc.out hbr.out)
  have HBd := am_ (below_step HBc.out hbr.out)
  clear hbr HOc HBc d0 d1 d2 d3 d4 hi0 hi1 HTK HBB HSS HWP HRR
  cases B with
  | true =>
    obtain rfl : R = ((i0 : Int), true) := HRV.out
    rcases HVV.out with ⟨h0, _, _⟩ | ⟨h0, rfl, rfl, rfl⟩
    · exact absurd h0 (by show ¬ (i0 : Int) < 0; omega)
    clear h0
    obtain ⟨t0, t1, t2, t3⟩ := c4 HOd.out
    go_wp2
    go_ret
    exact ⟨by first | rfl | simp, below_step HB6.out HBd.out⟩
  | false =>
  obtain ⟨wv, hwv⟩ : ∃ z, rd (wheelL p) (spunL 127 [3, Y.frm, Y.fp, p.ad, p.po]) = z := ⟨_, rfl⟩
  have hrv := HRV.out
  rw [hwv] at hrv
  obtain rfl : R = (wv, false) := hrv
  have HWB := am_ (show -1 ≤ wv from by rw [← hwv]; exact (wheel_b (p := p) ⟨Y.frm, Y.fp, p.ad, p.po⟩).1)
  have HRM := am_ (fun W => rmake_calls p HI.out.len (fun i hi hs => HI.out.we i hi (by omega)) W)
  have HPK2 := am_ (fun W (g : Nat) (h : Kd.C (Kd.int .i64) W (some ⟨g, 0, none⟩) 127 (wheelL p)) => show Calls Tryz.prog 16 #[.slice (some ⟨g, 0, none⟩) 127 127, .agg #[.int .i64 Y.frm, .int .i64 Y.fp, .int .i64 p.ad, .int .i64 p.po]] W fun e w' => e = .returned (.int .i64 wv) ∧ Below W.heap.size W w' from by
    have h2 := rpick_calls ⟨Y.frm, Y.fp, p.ad, p.po⟩ (w := W) h HCV.out.2 (Nat.le_refl 127) rfl
    simp only at h2
    rw [hwv] at h2
    exact h2)
  have HCK := am_ (fun W (hW : Below wd.heap.size wd W) => show (Instr.loadAt 33 (.pointer (some ⟨g7, 0, none⟩))).run Tryz.prog W = .ok (.agg p.ag) W ∧ (Instr.loadAt 37 (.pointer (some ⟨g8, 0, none⟩))).run Tryz.prog W = .ok (.agg (pk13 Y A1 c1 A2 c2)) W from by
    have h6 := below_step HBd.out hW
    exact ⟨(HP6.out.below h6).load HI.out.len, pk_load (bk_ HK6.out h6)⟩)
  have HQc := am_ (Below.refl wd.heap.size wd).drew
  clear hwv HRV
  go_upto_region 20 with fail
  refine start_ (n := 7) (S := fun w' => (Instr.loadAt 33 (.pointer (some ⟨g7, 0, none⟩))).run Tryz.prog w' = .ok (.agg p.ag) w' ∧ (Instr.loadAt 37 (.pointer (some ⟨g8, 0, none⟩))).run Tryz.prog w' = .ok (.agg (pk13 Y A1 c1 A2 c2)) w') (ds := []) #[fF,fF,fF,fF,fF,fF,fF] (by kernel_rfl) rfl rfl ⟨(HCK.out _ HQc.out).1, (HCK.out _ HQc.out).2⟩ (fun hHeld => ?_)
  refine take_ (i := 0) (N := some 120) (v := ?_) (a' := ?_) #[tT,fF,fF,fF,fF,fF,fF] rfl rfl (by kernel_rfl) (fun _ _ _ h => h) (Or.inl ⟨by rfl, ?_⟩) hHeld ?_ ?_
  rotate_left
  · rintro w' ⟨s0, s1⟩
    refine loadrow_run (x := .tmp 7) _ ?_ ?_ s0 <;> rfl
  rotate_left; · simp only [Act.put, q_a, q_0, q_s, i64_w, i32_w]; rfl
  refine take_ (i := 2) (N := some 122) (v := ?_) (a' := ?_) #[tT,fF,tT,fF,fF,fF,fF] rfl rfl (by kernel_rfl) (fun _ _ _ h => h) (Or.inl ⟨by rfl, ?_⟩) hHeld ?_ ?_
  rotate_left
  · rintro w' ⟨s0, s1⟩
    refine loadrow_run (x := .tmp 7) _ ?_ ?_ s0 <;> rfl
  rotate_left; · simp only [Act.put, q_a, q_0, q_s, i64_w, i32_w]; rfl
  refine take_ (i := 3) (N := some 123) (v := ?_) (a' := ?_) #[tT,fF,tT,tT,fF,fF,fF] rfl rfl (by kernel_rfl) (fun _ _ _ h => h) (Or.inl ⟨by rfl, ?_⟩) hHeld ?_ ?_
  rotate_left
  · rintro w' ⟨s0, s1⟩
    refine loadrow_run (x := .tmp 8) _ ?_ ?_ s1 <;> rfl
  rotate_left; · simp only [Act.put, q_a, q_0, q_s, i64_w, i32_w]; rfl
  refine o_ 1 (some 121) (fun K hK => ?_)
  refine g_ Tryz.func17 #[.agg p.ag] ?_
  with_reducible refine (HRM.out _).mono ?_
  rintro e20 w20 ⟨gw, rfl, hcr, hx⟩
  refine ⟨_, rfl, ?_⟩
  have HCR := am_ hcr
  replace HQc := am_ (below_step HQc.out hx)
  clear hcr hx
  refine hK.out _ _ ⟨(HCK.out _ HQc.out).1, (HCK.out _ HQc.out).2⟩ (fun hHeld => ?_)
  clear hK K
  refine n_ 121 ?_
  refine o_ 4 (some 124) (fun K hK => ?_)
  refine g_ Tryz.func14 #[.agg p.ag, .agg (pk13 Y A1 c1 A2 c2)] ?_
  with_reducible refine (HFL.out _).mono ?_
  rintro e21 w21 ⟨rfl, hx⟩
  refine ⟨_, rfl, ?_⟩
  replace HQc := am_ (below_step HQc.out hx)
  have HCR2 := am_ (Kd.C_below HCR.out hx)
  clear hx
  refine hK.out _ _ ⟨(HCK.out _ HQc.out).1, (HCK.out _ HQc.out).2⟩ (fun hHeld => ?_)
  clear hK K
  refine n_ 124 ?_
  refine o_ 5 (some 125) (fun K hK => ?_)
  refine g_ Tryz.func16 #[.slice (some ⟨gw, 0, none⟩) 127 127, .agg #[.int .i64 Y.frm, .int .i64 Y.fp, .int .i64 p.ad, .int .i64 p.po]] ?_
  with_reducible refine (HPK2.out _ _ HCR2.out).mono ?_
  rintro e22 w22 ⟨rfl, hx⟩
  refine ⟨_, rfl, ?_⟩
  replace HQc := am_ (below_step HQc.out hx)
  clear hx
  refine hK.out _ _ ⟨(HCK.out _ HQc.out).1, (HCK.out _ HQc.out).2⟩ (fun hHeld => ?_)
  clear hK K
  refine n_ 125 ?_
  refine p_ 6 21 ?_
  refine done_ (by kernel_rfl) ?_
  go_upto_region 21 with fail
  refine wp_w (fun W => Below wd.heap.size wd W) ?_ ?_
  · exact HQc.out
  intro we hcx
  have HBe := am_ (below_step HB6.out (below_step HBd.out hcx))
  have HOe := am_ (bk_ HOd.out hcx)
  obtain ⟨t0, t1, t2, t3⟩ := c4 HOe.out
  clear hcx hHeld HQc HCK HCR HCR2 HRM HPK2 HFL
  rcases HVV.out with ⟨h0, rfl, rfl⟩ | ⟨h0, rfl, rfl, rfl⟩
  · have h0 : wv < 0 := h0
    have hd : decide (wv < 0) = true := decide_eq_true h0
    go_wp2
    go_ret
    exact ⟨by first | rfl | simp, HBe.out⟩
  · have h0 : 0 ≤ s_ := h0
    have hd : decide (s_ < 0) = false := decide_eq_false (by omega)
    go_wp2
    go_ret
    exact ⟨by first | rfl | simp, HBe.out⟩
end Go.Proofs.YtgkmbefamcnifaaGreat.TB
namespace Go.Proofs.YtgkmbefamcnifaaGreat.PL
set_option linter.unusedVariables false
open Go.RowKit Go.Proofs.YtgkmbefamcnifaaGreat.Hp Go.Proofs.YtgkmbefamcnifaaGreat.SB Go.Proofs.YtgkmbefamcnifaaGreatW.PrintWords Go.Proofs.YtgkmbefamcnifaaGreatW.PrintLast Go.Proofs.YtgkmbefamcnifaaGreatW.PrintMore Go.Proofs.YtgkmbefamcnifaaGreat.WB
theorem TopWays_walk (a0 : Option Addr) (len0 cap0 : Nat) (z0 : List Int) (a1 : Int) (a2 : Int) (w : World) (w0 : (a0 = none ∧ len0 = 0 ∧ cap0 = 0 ∧ z0 = []) ∨ ∃ x, a0 = some x ∧ len0 ≤ cap0 ∧ cap0 ≤ maxLen ∧ z0.length = cap0 ∧ (∀ j, j < z0.length → w.cell? (x.add j) = some (.int .i64 (z0.getD j 0))) ∧ ∀ n ∈ z0, (Lit.int .i64 n).wf = true) (y0 : len0 * 8 ≤ 140737488351232) (w1 : (Lit.int .i64 a1).wf = true) (w2 : (Lit.int .i64 a2).wf = true) :
    Calls Tryz.prog 3 #[.slice a0 len0 cap0, .int .i64 a1, .int .i64 a2] w fun e w' => e = .returned (.bool true) ∧ Below w.heap.size w w' := by
  obtain ⟨ns0, rfl, hr0, hm0, hw0, hc0⟩ := ReadsInt.ofRowC w0
  exact Go.Proofs.YtgkmbefamcnifaaGreat.TB.TopWays_walk a1 a2 (show Kd.C (Kd.int .i64) w a0 ns0.length ns0 from Kd.C_of_reads (d := (0 : Int)) (h1 := fun _ => rfl) hr0) rfl hc0
end Go.Proofs.YtgkmbefamcnifaaGreat.PL
