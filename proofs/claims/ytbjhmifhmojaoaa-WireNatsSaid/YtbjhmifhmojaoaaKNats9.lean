/- Lemmas and contracts that the row YtbjhmifhmojaoaaLawWireNats goes by (part 9; joined by pack.py out of this session's texts, and of words that the kit's print lays). -/
import Derived.Test.YtbjhmifhmojaoaaKNats8
namespace Go.Proofs.Ytbjhmifhmojaoaa.WB
set_option linter.unusedVariables false
set_option linter.unusedSimpArgs false
open Go.RowKit Go.Proofs.Ytbjhmifhmojaoaa.Hp Go.Proofs.Ytbjhmifhmojaoaa.SB Go.Proofs.YtbjhmifhmojaoaaW.PrintWords Go.Proofs.YtbjhmifhmojaoaaW.PrintLast Go.Proofs.YtbjhmifhmojaoaaW.PrintMore

theorem getD_app_l {a b : List Int} {i : Nat} (h : i < a.length) : (a ++ b).getD i 0 = a.getD i 0 := by
  rw [List.getD_eq_getElem?_getD, List.getD_eq_getElem?_getD, List.getElem?_append_left h]
theorem getD_app_r {a b : List Int} {i : Nat} (h : a.length ≤ i) : (a ++ b).getD i 0 = b.getD (i - a.length) 0 := by
  rw [List.getD_eq_getElem?_getD, List.getD_eq_getElem?_getD, List.getElem?_append_right h]
/-- What a head says. -/
structure HeadOf (l : List Int) (n : Nat) (kind life piece frm dst : Int) : Prop where
  k : l.getD 0 0 = kind
  l1 : l.getD 1 0 = life
  pc : l.getD 12 0 = piece
  z : l.getD 13 0 = 0
  n : numL l 2 2 = (n : Int)
  f : numL l 4 4 = frm
  d : numL l 8 4 = dst
  s : fold (pairs (l.take 16)) = 65535
theorem h4R_of {n : Nat} {kind life piece frm dst : Int} (hn : n ≤ 1500) (k0 : 1 ≤ kind) (k1 : kind ≤ 3) (l0 : 0 ≤ life) (l1 : life ≤ 255) (p0 : 0 ≤ piece) (p1 : piece ≤ 255) (f0 : 0 ≤ frm) (f1 : frm ≤ 4294967295) (d0 : 0 ≤ dst) (d1 : dst ≤ 4294967295) :
    HeadOf (h4R n kind life piece frm dst) n kind life piece frm dst ∧ Bytes (h4R n kind life piece frm dst) := by
  obtain ⟨Z, hZ⟩ : ∃ Z, Z = (((List.replicate 16 (0 : Int)).set 0 (kind % 256)).set 1 (life % 256)).set 12 (piece % 256) := ⟨_, rfl⟩
  have zl : Z.length = 16 := by rw [hZ]; simp
  have zb : Bytes Z := by
    rw [hZ]
    refine Bytes.set (Bytes.set (Bytes.set ?_ _ (by omega) (by omega)) _ (by omega) (by omega)) _ (by omega) (by omega)
    intro x hx; have := List.eq_of_mem_replicate hx; omega
  have z0 : Z.getD 0 0 = kind := by rw [hZ, getD_set_ne (by omega), getD_set_ne (by omega), getD_set_eq (by simp)]; omega
  have z1 : Z.getD 1 0 = life := by rw [hZ, getD_set_ne (by omega), getD_set_eq (by simp)]; omega
  have z12 : Z.getD 12 0 = piece := by rw [hZ, getD_set_eq (by simp)]; omega
  have z13 : Z.getD 13 0 = 0 := by rw [hZ, getD_set_ne (by omega), getD_set_ne (by omega), getD_set_ne (by omega)]; rfl
  have z14 : pr Z 14 = 0 := by
    unfold pr
    rw [hZ, getD_set_ne (by omega), getD_set_ne (by omega), getD_set_ne (by omega), getD_set_ne (by omega), getD_set_ne (by omega), getD_set_ne (by omega)]; rfl
  obtain ⟨H, hH⟩ : ∃ H, H = putL (putL (putL Z 2 2 (n : Int)) 4 4 frm) 8 4 dst := ⟨_, rfl⟩
  have e3 : h3R n kind life piece frm dst = H := by rw [hH, hZ]; rfl
  have hl : H.length = 16 := by rw [← e3]; exact h3R_len ..
  have hb : Bytes H := by rw [hH]; exact putL_bytes _ _ _ (putL_bytes _ _ _ (putL_bytes _ _ _ zb))
  obtain ⟨v, hv⟩ : ∃ v, v = 65535 - fold (pairs H) := ⟨_, rfl⟩
  have fb := @fold_bounds (pairs H)
  have e4 : h4R n kind life piece frm dst = putL H 14 2 v := by unfold h4R; rw [e3, hv]
  have far : ∀ j, j < 14 → (putL H 14 2 v).getD j 0 = H.getD j 0 := fun j hj => putL_far _ _ _ _ _ (by omega)
  have farH : ∀ j, (j < 2 ∨ 12 ≤ j) → H.getD j 0 = Z.getD j 0 := fun j hj => by
    rw [hH, putL_far _ _ _ _ _ (by omega), putL_far _ _ _ _ _ (by omega), putL_far _ _ _ _ _ (by omega)]
  have i2 : (256 : Int) ^ 2 = 65536 := by decide
  have i4 : (256 : Int) ^ 4 = 4294967296 := by decide
  have h16 : H.take 16 = H := List.take_of_length_le (by omega)
  rw [e4]
  refine ⟨⟨by rw [far 0 (by omega), farH 0 (by omega), z0], by rw [far 1 (by omega), farH 1 (by omega), z1], by rw [far 12 (by omega), farH 12 (by omega), z12], by rw [far 13 (by omega), farH 13 (by omega), z13], ?_, ?_, ?_, ?_⟩, putL_bytes _ _ _ hb⟩
  · rw [numL_putL_far _ _ _ _ _ (by omega), hH, numL_putL_far _ _ _ _ _ (by omega), numL_putL_far _ _ _ _ _ (by omega), numL_putL _ _ _ _ (by omega) (by omega) (by omega)]
  · rw [numL_putL_far _ _ _ _ _ (by omega), hH, numL_putL_far _ _ _ _ _ (by omega), numL_putL _ _ _ _ (by rw [putL_len]; omega) (by omega) (by omega)]
  · rw [numL_putL_far _ _ _ _ _ (by omega), hH, numL_putL _ _ _ _ (by rw [putL_len, putL_len]; omega) (by omega) (by omega)]
  · have hp := head_pos hb (by omega) (by rw [farH 0 (by omega), z0]; exact k0)
    have m := fold_mod hp
    rw [h16] at hp m
    have e14 : pr H 14 = 0 := by unfold pr; rw [farH 14 (by omega), farH (14 + 1) (by omega)]; exact z14
    rw [head_put (by omega) (by omega) (by omega), h16, e14, hv, fold_right (by omega)]
    omega
theorem HeadOf.congr {l m : List Int} {n : Nat} {kind life piece frm dst : Int} (h : HeadOf l n kind life piece frm dst) (hl : 16 ≤ l.length) (hm : 16 ≤ m.length) (hh : ∀ j, j < 16 → m.getD j 0 = l.getD j 0) : HeadOf m n kind life piece frm dst := by
  have e : m.take 16 = l.take 16 := by
    refine ext_getD (by simp; omega) fun j hj => ?_
    rw [List.length_take] at hj
    rw [getD_take (by omega), getD_take (by omega)]; exact hh _ (by omega)
  exact ⟨by rw [hh 0 (by omega), h.k], by rw [hh 1 (by omega), h.l1], by rw [hh 12 (by omega), h.pc], by rw [hh 13 (by omega), h.z], by rw [numL_congr 2 2 (fun j _ _ => hh j (by omega)), h.n], by rw [numL_congr 4 4 (fun j _ _ => hh j (by omega)), h.f], by rw [numL_congr 8 4 (fun j _ _ => hh j (by omega)), h.d], by rw [e, h.s]⟩
theorem sumL_b {k : Int} {b : Bool} {l : List Int} : 0 ≤ sumL k b l ∧ sumL k b l ≤ 65535 := by
  have := @fold_bounds (pairs (summedL l))
  unfold sumL; repeat' split
  all_goals omega
theorem sumL_mod {k : Int} {b : Bool} {l : List Int} (hp : 0 < pairs (summedL l)) (h : ¬ (k = 2 ∧ b = true)) : (pairs (summedL l) + sumL k b l) % 65535 = 0 := by
  have m := fold_mod hp
  unfold sumL
  rw [if_neg h]
  split <;> omega
theorem sumL_zero {b : Bool} {l : List Int} : sumL 2 b l = 0 ↔ b = true := by
  unfold sumL
  cases b with
  | true => simp
  | false =>
    rw [if_neg (by simp)]
    constructor
    · intro h
      by_cases h0 : 65535 - fold (pairs (summedL l)) = 0
      · rw [if_pos ⟨rfl, h0⟩] at h; cases h
      · rw [if_neg (fun x => h0 x.2)] at h; exact absurd h h0
    · intro h; cases h
theorem rgB_of {n m : Int} (h : rgB n m = true) : 0 ≤ n ∧ n ≤ m := by
  unfold rgB at h
  simpa using h
/-- What may be built. -/
theorem built_of {p : Pk} (h : buildE p = 0) : (1 ≤ p.kind ∧ p.kind ≤ 3) ∧ (0 ≤ p.life ∧ p.life ≤ 255) ∧ (0 ≤ p.piece ∧ p.piece ≤ 255) ∧ (0 ≤ p.frm ∧ p.frm ≤ 4294967295) ∧ (0 ≤ p.dst ∧ p.dst ≤ 4294967295) ∧ nL p ≤ 1500 ∧
    (p.kind = 3 → (0 ≤ p.code ∧ p.code ≤ 255) ∧ 24 ≤ p.data.length) ∧ (p.kind ≠ 3 → (0 ≤ p.fp ∧ p.fp ≤ 65535) ∧ (0 ≤ p.tp ∧ p.tp ≤ 65535)) ∧ (p.kind = 2 → 0 ≤ p.label ∧ p.label ≤ 65535) ∧ (p.kind = 1 → (0 ≤ p.flags ∧ p.flags ≤ 15) ∧ p.opts.length ≤ 40) := by
  unfold buildE at h
  by_cases hk : 1 ≤ p.kind ∧ p.kind ≤ 3
  · rw [if_neg (fun x => x hk)] at h
    by_cases ho : okR p = false
    · rw [if_pos ho] at h; cases h
    · rw [if_neg ho] at h
      have ho' : okR p = true := by simpa using ho
      by_cases h5 : p.kind = 1 ∧ 40 < p.opts.length
      · rw [if_pos h5] at h; cases h
      · rw [if_neg h5] at h
        by_cases h6 : (p.kind = 3 ∧ p.data.length < 24) ∨ 1500 < nL p
        · rw [if_pos h6] at h; cases h
        · unfold okR at ho'
          simp only [Bool.and_eq_true] at ho'
          obtain ⟨⟨⟨⟨a, b⟩, c⟩, d⟩, e⟩ := ho'
          refine ⟨hk, rgB_of a, rgB_of b, rgB_of c, rgB_of d, by omega, ?_, ?_, ?_, ?_⟩
          · intro h3
            rw [if_pos h3] at e
            exact ⟨rgB_of e, by omega⟩
          · intro h3
            rw [if_neg h3] at e
            simp only [Bool.and_eq_true] at e
            exact ⟨rgB_of e.1.1, rgB_of e.1.2⟩
          · intro h2
            rw [if_neg (by omega), if_pos h2] at e
            simp only [Bool.and_eq_true] at e
            exact rgB_of e.2
          · intro h1
            rw [if_neg (by omega), if_neg (by omega)] at e
            simp only [Bool.and_eq_true] at e
            exact ⟨rgB_of e.2, by omega⟩
  · rw [if_pos hk] at h; cases h
theorem ok_head {l : List Int} {n : Nat} {kind life piece frm dst : Int} (h : HeadOf l n kind life piece frm dst) (hl : l.length = n) (h24 : 24 ≤ n) (hn : n ≤ 1500) (k0 : 1 ≤ kind) (k1 : kind ≤ 3) (f44 : kind = 3 → 44 ≤ n) (f17 : kind = 3 → l.getD 17 0 = 0) (s20 : kind = 1 → l.getD 20 0 ≤ 15) (s21 : kind = 1 → l.getD 21 0 ≤ 40) (rest : kind = 1 → restS l ≤ n) : Ok l := by
  have e := h.k
  exact ⟨by omega, by omega, by rw [h.n, hl], h.z, h.s, by omega, by omega, fun x => by have := f44 (by omega); omega, fun x => f17 (by omega), fun x => s20 (by omega), fun x => s21 (by omega), fun x => by rw [hl]; exact rest (by omega)⟩
theorem zeros_bytes (n : Nat) : Bytes (List.replicate n 0) := by intro x hx; have := List.eq_of_mem_replicate hx; omega
/-- Built, taken apart, whole. -/
theorem parse_build {p : Pk} (hE : buildE p = 0) (hc : Canon p) : Ok (buildL p) ∧ pkL (buildL p) = p ∧ wholeL (buildL p) = true ∧ (buildL p).length = nL p ∧ Bytes (buildL p) := by
  obtain ⟨p0, p1, p2, p3, p4, p5, p6, p7, p8, p9, p10, p11, p12⟩ := p
  obtain ⟨⟨k0, k1⟩, ⟨l0, l1⟩, ⟨q0, q1⟩, ⟨f0, f1⟩, ⟨d0, d1⟩, hn, c3, cp, c2, c1⟩ := built_of hE
  rw [← rbuildL_eq ⟨k0, k1⟩]
  obtain ⟨bo, bd, cs, cg, cf⟩ := hc
  dsimp only at *
  unfold rbuildL rbodyL
  dsimp only
  obtain ⟨n, hnn⟩ : ∃ n, nL ⟨p0, p1, p2, p3, p4, p5, p6, p7, p8, p9, p10, p11, p12⟩ = n := ⟨_, rfl⟩
  rw [hnn] at hn ⊢
  obtain ⟨hh, hhb⟩ := h4R_of (n := n) hn k0 k1 l0 l1 q0 q1 f0 f1 d0 d1
  have hhl := h4R_len n p0 p1 p2 p3 p4
  generalize h4R n p0 p1 p2 p3 p4 = H at hh hhb hhl ⊢
  have hk : p0 = 3 ∨ p0 = 2 ∨ p0 = 1 := by omega
  have i2 : (256 : Int) ^ 2 = 65536 := by decide
  rcases hk with rfl | rfl | rfl
  · -- a fault
    have hn2 : n = 20 + p12.length := by rw [← hnn]; rfl
    obtain ⟨⟨c30, c31⟩, d24⟩ := c3 rfl
    obtain ⟨rfl, rfl, rfl, rfl, rfl, rfl⟩ := cf rfl
    rw [if_pos rfl, if_pos rfl]
    obtain ⟨X, hX⟩ : ∃ X, X = H ++ [p10 % 256, 0, 0, 0] := ⟨_, rfl⟩
    have xl : X.length = 20 := by rw [hX, List.length_append, hhl]; rfl
    have xb : Bytes X := hX ▸ hhb.app (by intro x hx; simp at hx; omega)
    have xH : ∀ j, j < 16 → X.getD j 0 = H.getD j 0 := fun j hj => by rw [hX, getD_app_l (by omega)]
    have x16 : X.getD 16 0 = p10 := by rw [hX, getD_app_r (by omega), hhl]; show p10 % 256 = _; omega
    have x17 : X.getD 17 0 = 0 := by rw [hX, getD_app_r (by omega), hhl]; rfl
    have x18 : pr X 18 = 0 := by unfold pr; rw [hX, getD_app_r (by omega), getD_app_r (by omega), hhl]; rfl
    rw [← hX]
    obtain ⟨v, hv⟩ : ∃ v, v = sumL 3 false (X ++ p12) := ⟨_, rfl⟩
    have vb : 0 ≤ v ∧ v ≤ 65535 := by rw [hv]; exact sumL_b
    rw [← hv, putL_app _ _ _ _ _ (by omega)]
    obtain ⟨b, hb⟩ : ∃ b, b = putL X 18 2 v ++ p12 := ⟨_, rfl⟩
    have hb2 : b = putL (X ++ p12) 18 2 v := by rw [hb, putL_app _ _ _ _ _ (by omega)]
    have bl : b.length = n := by rw [hb, List.length_append, putL_len]; omega
    have yl : (putL X 18 2 v).length = 20 := by rw [putL_len, xl]
    have bb : Bytes b := hb ▸ (putL_bytes _ _ _ xb).app bd
    have g : ∀ j, j < 18 → b.getD j 0 = X.getD j 0 := fun j hj => by rw [hb, getD_app_l (by omega), putL_far _ _ _ _ _ (by omega)]
    have hd := hh.congr (m := b) (by omega) (by omega) (fun j hj => by rw [g j (by omega), xH j hj])
    have o : Ok b := ok_head hd bl (by omega) hn (by omega) (by omega) (fun _ => by omega) (fun _ => by rw [g 17 (by omega), x17]) (fun h => by cases h) (fun h => by cases h) (fun h => by cases h)
    have dd : b.drop 20 = p12 := by rw [hb]; exact List.drop_left' yl
    rw [← hb]
    have pk : pkL b = ⟨3, p1, p2, p3, p4, 0, 0, 0, 0, false, p10, [], p12⟩ := by
      unfold pkL
      rw [if_pos hd.k, hd.l1, hd.pc, hd.f, hd.d, g 16 (by omega), x16, dd]
    refine ⟨o, pk, ?_, bl, bb⟩
    rw [whole_iff bb o, pk]
    show (pairs (summedL b) % 65535 == 0) = true
    have P := summed_pos (l := X ++ p12) (xb.app bd) (by rw [List.length_append]; omega) (by rw [List.length_append]; omega) (by rw [getD_app_l (by omega), xH 0 (by omega), hh.k]; omega)
    have sm := sumL_mod (k := 3) (b := false) P (by simp)
    have pz : pr (X ++ p12) 18 = 0 := by unfold pr; rw [getD_app_l (by omega), getD_app_l (by omega)]; exact x18
    rw [← hv] at sm
    rw [hb2, summed_put (by rw [List.length_append]; omega) (by rw [List.length_append]; omega) (Or.inl rfl) vb.1 vb.2, pz, beq_iff_eq]
    omega
  · -- a gram
    have hn2 : n = 24 + p12.length := by rw [← hnn]; rfl
    obtain ⟨⟨fp0, fp1⟩, tp0, tp1⟩ := cp (by decide)
    obtain ⟨lb0, lb1⟩ := c2 rfl
    obtain ⟨rfl, rfl, rfl⟩ := cg rfl
    rw [if_neg (by decide), if_pos rfl, if_neg (by decide)]
    obtain ⟨Z, hZ⟩ : ∃ Z, Z = H ++ List.replicate 8 (0 : Int) := ⟨_, rfl⟩
    have zl : Z.length = 24 := by rw [hZ, List.length_append, hhl]; rfl
    have zb : Bytes Z := hZ ▸ hhb.app (zeros_bytes 8)
    have zH : ∀ j, j < 16 → Z.getD j 0 = H.getD j 0 := fun j hj => by rw [hZ, getD_app_l (by omega)]
    have z22 : pr Z 22 = 0 := by unfold pr; rw [hZ, getD_app_r (by omega), getD_app_r (by omega), hhl]; rfl
    rw [← hZ]
    obtain ⟨X, hX⟩ : ∃ X, X = putL (putL (putL Z 20 2 p8) 16 2 p5) 18 2 p6 := ⟨_, rfl⟩
    have xl : X.length = 24 := by rw [hX, putL_len, putL_len, putL_len, zl]
    have xb : Bytes X := hX ▸ putL_bytes _ _ _ (putL_bytes _ _ _ (putL_bytes _ _ _ zb))
    have xH : ∀ j, j < 16 → X.getD j 0 = H.getD j 0 := fun j hj => by rw [hX, putL_far _ _ _ _ _ (by omega), putL_far _ _ _ _ _ (by omega), putL_far _ _ _ _ _ (by omega), zH j hj]
    have x16 : numL X 16 2 = p5 := by rw [hX, numL_putL_far _ _ _ _ _ (by omega), numL_putL _ _ _ _ (by rw [putL_len]; omega) (by omega) (by omega)]
    have x18 : numL X 18 2 = p6 := by rw [hX, numL_putL _ _ _ _ (by rw [putL_len, putL_len]; omega) (by omega) (by omega)]
    have x20 : numL X 20 2 = p8 := by rw [hX, numL_putL_far _ _ _ _ _ (by omega), numL_putL_far _ _ _ _ _ (by omega), numL_putL _ _ _ _ (by omega) (by omega) (by omega)]
    have x22 : pr X 22 = 0 := by rw [hX, pr_far (by omega), pr_far (by omega), pr_far (by omega), z22]
    rw [← hX]
    obtain ⟨v, hv⟩ : ∃ v, v = sumL 2 p9 (X ++ p12) := ⟨_, rfl⟩
    have vb : 0 ≤ v ∧ v ≤ 65535 := by rw [hv]; exact sumL_b
    rw [← hv, putL_app _ _ _ _ _ (by omega)]
    obtain ⟨b, hb⟩ : ∃ b, b = putL X 22 2 v ++ p12 := ⟨_, rfl⟩
    have hb2 : b = putL (X ++ p12) 22 2 v := by rw [hb, putL_app _ _ _ _ _ (by omega)]
    have yl : (putL X 22 2 v).length = 24 := by rw [putL_len, xl]
    have bl : b.length = n := by rw [hb, List.length_append, yl]; omega
    have bb : Bytes b := hb ▸ (putL_bytes _ _ _ xb).app bd
    have g : ∀ j, j < 22 → b.getD j 0 = X.getD j 0 := fun j hj => by rw [hb, getD_app_l (by omega), putL_far _ _ _ _ _ (by omega)]
    have gn : ∀ i m, i + m ≤ 22 → numL b i m = numL X i m := fun i m h => numL_congr i m (fun j _ _ => g j (by omega))
    have hd := hh.congr (m := b) (by omega) (by omega) (fun j hj => by rw [g j (by omega), xH j hj])
    have o : Ok b := ok_head hd bl (by omega) hn (by omega) (by omega) (fun h => by cases h) (fun h => by cases h) (fun h => by cases h) (fun h => by cases h) (fun h => by cases h)
    have dd : b.drop 24 = p12 := by rw [hb]; exact List.drop_left' yl
    have n22 : numL b 22 2 = v := by rw [hb2, numL_putL _ _ _ _ (by rw [List.length_append]; omega) (by omega) (by omega)]
    have ebare : (numL b 22 2 == 0) = p9 := by
      rw [n22, hv]
      have := @sumL_zero p9 (X ++ p12)
      cases p9 with
      | true => exact beq_iff_eq.mpr (this.2 rfl)
      | false => exact beq_eq_false_iff_ne.mpr (fun h => by have := this.1 h; cases this)
    rw [← hb]
    have pk : pkL b = ⟨2, p1, p2, p3, p4, p5, p6, 0, p8, p9, 0, [], p12⟩ := by
      unfold pkL
      rw [if_neg (by rw [hd.k]; decide), if_pos hd.k, hd.l1, hd.pc, hd.f, hd.d, gn 16 2 (by omega), gn 18 2 (by omega), gn 20 2 (by omega), x16, x18, x20, ebare, dd]
    refine ⟨o, pk, ?_, bl, bb⟩
    rw [whole_iff bb o, pk]
    show (p9 || (pairs (summedL b) % 65535 == 0)) = true
    cases p9 with
    | true => rfl
    | false =>
      have P := summed_pos (l := X ++ p12) (xb.app bd) (by rw [List.length_append]; omega) (by rw [List.length_append]; omega) (by rw [getD_app_l (by omega), xH 0 (by omega), hh.k]; omega)
      have sm := sumL_mod (k := 2) (b := false) P (by simp)
      have pz : pr (X ++ p12) 22 = 0 := by unfold pr; rw [getD_app_l (by omega), getD_app_l (by omega)]; exact x22
      rw [← hv] at sm
      rw [Bool.false_or, hb2, summed_put (by rw [List.length_append]; omega) (by rw [List.length_append]; omega) (Or.inr rfl) vb.1 vb.2, pz, beq_iff_eq]
      omega
  · -- a stream
    have hn2 : n = 24 + p12.length + p11.length := by rw [← hnn]; rfl
    obtain ⟨⟨fp0, fp1⟩, tp0, tp1⟩ := cp (by decide)
    obtain ⟨⟨fl0, fl1⟩, ol⟩ := c1 rfl
    obtain ⟨rfl, rfl, rfl⟩ := cs rfl
    rw [if_neg (by decide), if_neg (by decide), if_neg (by decide)]
    obtain ⟨Z, hZ⟩ : ∃ Z, Z = H ++ List.replicate 8 (0 : Int) := ⟨_, rfl⟩
    have zl : Z.length = 24 := by rw [hZ, List.length_append, hhl]; rfl
    have zb : Bytes Z := hZ ▸ hhb.app (zeros_bytes 8)
    have zH : ∀ j, j < 16 → Z.getD j 0 = H.getD j 0 := fun j hj => by rw [hZ, getD_app_l (by omega)]
    have z22 : pr Z 22 = 0 := by unfold pr; rw [hZ, getD_app_r (by omega), getD_app_r (by omega), hhl]; rfl
    rw [← hZ]
    obtain ⟨X, hX⟩ : ∃ X, X = putL (putL ((Z.set 20 (p7 % 256)).set 21 ((p11.length : Int) % 256)) 16 2 p5) 18 2 p6 := ⟨_, rfl⟩
    have eX : putL (putL (((Z ++ p11).set 20 (p7 % 256)).set 21 ((p11.length : Int) % 256)) 16 2 p5) 18 2 p6 = X ++ p11 := by
      rw [hX, List.set_append_left _ _ (by omega), List.set_append_left _ _ (by rw [List.length_set]; omega), putL_app _ _ _ _ _ (by rw [List.length_set, List.length_set]; omega), putL_app _ _ _ _ _ (by rw [putL_len, List.length_set, List.length_set]; omega)]
    rw [eX]
    have xl : X.length = 24 := by rw [hX, putL_len, putL_len, List.length_set, List.length_set, zl]
    have xb : Bytes X := hX ▸ putL_bytes _ _ _ (putL_bytes _ _ _ ((zb.set _ (by omega) (by omega)).set _ (by omega) (by omega)))
    have xH : ∀ j, j < 16 → X.getD j 0 = H.getD j 0 := fun j hj => by rw [hX, putL_far _ _ _ _ _ (by omega), putL_far _ _ _ _ _ (by omega), getD_set_ne (by omega), getD_set_ne (by omega), zH j hj]
    have x16 : numL X 16 2 = p5 := by rw [hX, numL_putL_far _ _ _ _ _ (by omega), numL_putL _ _ _ _ (by rw [List.length_set, List.length_set]; omega) (by omega) (by omega)]
    have x18 : numL X 18 2 = p6 := by rw [hX, numL_putL _ _ _ _ (by rw [putL_len, List.length_set, List.length_set]; omega) (by omega) (by omega)]
    have x20 : X.getD 20 0 = p7 := by rw [hX, putL_far _ _ _ _ _ (by omega), putL_far _ _ _ _ _ (by omega), getD_set_ne (by omega), getD_set_eq (by omega)]; omega
    have x21 : X.getD 21 0 = (p11.length : Int) := by rw [hX, putL_far _ _ _ _ _ (by omega), putL_far _ _ _ _ _ (by omega), getD_set_eq (by rw [List.length_set]; omega)]; omega
    have x22 : pr X 22 = 0 := by
      rw [hX, pr_far (by omega), pr_far (by omega)]
      unfold pr
      rw [getD_set_ne (by omega), getD_set_ne (by omega), getD_set_ne (by omega), getD_set_ne (by omega)]
      exact z22
    obtain ⟨v, hv⟩ : ∃ v, v = sumL 1 false (X ++ p11 ++ p12) := ⟨_, rfl⟩
    have vb : 0 ≤ v ∧ v ≤ 65535 := by rw [hv]; exact sumL_b
    rw [← hv, List.append_assoc, putL_app _ _ _ _ _ (by omega)]
    rw [List.append_assoc] at hv
    obtain ⟨b, hb⟩ : ∃ b, b = putL X 22 2 v ++ (p11 ++ p12) := ⟨_, rfl⟩
    have hb2 : b = putL (X ++ (p11 ++ p12)) 22 2 v := by rw [hb, putL_app _ _ _ _ _ (by omega)]
    have yl : (putL X 22 2 v).length = 24 := by rw [putL_len, xl]
    have bl : b.length = n := by rw [hb, List.length_append, List.length_append, yl]; omega
    have bb : Bytes b := hb ▸ (putL_bytes _ _ _ xb).app (bo.app bd)
    have g : ∀ j, j < 22 → b.getD j 0 = X.getD j 0 := fun j hj => by rw [hb, getD_app_l (by omega), putL_far _ _ _ _ _ (by omega)]
    have gn : ∀ i m, i + m ≤ 22 → numL b i m = numL X i m := fun i m h => numL_congr i m (fun j _ _ => g j (by omega))
    have hd := hh.congr (m := b) (by omega) (by omega) (fun j hj => by rw [g j (by omega), xH j hj])
    have er : restS b = 24 + p11.length := by unfold restS; rw [g 21 (by omega), x21]; omega
    have o : Ok b := ok_head hd bl (by omega) hn (by omega) (by omega) (fun h => by cases h) (fun h => by cases h) (fun _ => by rw [g 20 (by omega), x20]; exact fl1) (fun _ => by rw [g 21 (by omega), x21]; omega) (fun _ => by rw [er]; omega)
    have dd : b.drop (restS b) = p12 := by
      rw [er, hb, ← List.append_assoc]
      exact List.drop_left' (by rw [List.length_append, yl])
    have dt : (b.take (restS b)).drop 24 = p11 := by
      rw [er, hb, ← List.append_assoc, List.take_left' (by rw [List.length_append, yl])]
      exact List.drop_left' yl
    rw [← hb]
    have pk : pkL b = ⟨1, p1, p2, p3, p4, p5, p6, p7, 0, false, 0, p11, p12⟩ := by
      unfold pkL
      rw [if_neg (by rw [hd.k]; decide), if_neg (by rw [hd.k]; decide), hd.l1, hd.pc, hd.f, hd.d, gn 16 2 (by omega), gn 18 2 (by omega), x16, x18, g 20 (by omega), x20, dd, dt]
    refine ⟨o, pk, ?_, bl, bb⟩
    rw [whole_iff bb o, pk]
    show (pairs (summedL b) % 65535 == 0) = true
    have P := summed_pos (l := X ++ (p11 ++ p12)) (xb.app (bo.app bd)) (by rw [List.length_append]; omega) (by rw [List.length_append, List.length_append]; omega) (by rw [getD_app_l (by omega), xH 0 (by omega), hh.k]; omega)
    have sm := sumL_mod (k := 1) (b := false) P (by simp)
    have pz : pr (X ++ (p11 ++ p12)) 22 = 0 := by unfold pr; rw [getD_app_l (by omega), getD_app_l (by omega)]; exact x22
    rw [← hv] at sm
    rw [hb2, summed_put (by rw [List.length_append]; omega) (by rw [List.length_append, List.length_append]; omega) (Or.inr rfl) vb.1 vb.2, pz, beq_iff_eq]
    omega
end Go.Proofs.Ytbjhmifhmojaoaa.WB

namespace Go.Proofs.Ytbjhmifhmojaoaa.WB
set_option linter.unusedVariables false
set_option linter.unusedSimpArgs false
open Go.RowKit Go.Proofs.Ytbjhmifhmojaoaa.Hp Go.Proofs.Ytbjhmifhmojaoaa.SB Go.Proofs.YtbjhmifhmojaoaaW.PrintWords Go.Proofs.YtbjhmifhmojaoaaW.PrintLast Go.Proofs.YtbjhmifhmojaoaaW.PrintMore

theorem summed_congr {l m : List Int} (hl : m.length = l.length) (hh : ∀ j, (j = 0 ∨ (4 ≤ j ∧ j < 12) ∨ 16 ≤ j) → m.getD j 0 = l.getD j 0) : summedL m = summedL l := by
  unfold summedL
  have e : (m.take 12).drop 4 = (l.take 12).drop 4 := by
    refine ext_getD (by simp [hl]) fun j hj => ?_
    simp only [List.length_drop, List.length_take] at hj
    rw [getD_drop, getD_drop, getD_take (by omega), getD_take (by omega)]; exact hh _ (by omega)
  rw [hh 0 (by omega), hl, e, drop_congr hl (fun j hj => hh j (by omega))]
/-- The same head, another sum over other bytes: it is right still. -/
theorem head_turn {was L : List Int} (hw : Bytes was) (hL : Bytes L) (hl : L.length = was.length) (h16 : 16 ≤ was.length) (hs : fold (pairs (was.take 16)) = 65535) (k0 : 1 ≤ was.getD 0 0) (k1 : L.getD 0 0 = was.getD 0 0) (i k : Nat) (hi : i % 2 = 0) (hk : i + 2 * k ≤ 14)
    (hh : ∀ j, j < 16 → (j < i ∨ i + 2 * k ≤ j) → L.getD j 0 = was.getD j 0) : fold (pairs ((putL L 14 2 (turnS was L k i (pr was 14))).take 16)) = 65535 := by
  have p1 := pr_b hw 14
  have tb := turnS_b hw hL k i (pr was 14) p1.1 p1.2
  have tm := turnS_mod hw hL k i (pr was 14) p1.1 p1.2
  have e14 : pr L 14 = pr was 14 := by unfold pr; rw [hh 14 (by omega) (by omega), hh (14 + 1) (by omega) (by omega)]
  have hp := head_pos (l := putL L 14 2 (turnS was L k i (pr was 14))) (putL_bytes _ _ _ hL) (by rw [putL_len]; omega) (by rw [putL_far _ _ _ _ _ (by omega)]; omega)
  have hp0 := head_pos hw h16 k0
  rw [fold_right hp0] at hs
  rw [fold_right hp]
  rw [head_put (by omega) tb.1 tb.2, e14]
  have E : ∀ (l : List Int), 16 ≤ l.length → pairs (l.take 16) = psum l 0 (i / 2) + (psum l i k + psum l (i + 2 * k) (8 - i / 2 - k)) := by
    intro l h
    rw [show 16 = 2 * 8 from rfl, pairs_take _ 8 (by omega), show 8 = i / 2 + (k + (8 - i / 2 - k)) by omega, psum_add, psum_add, show 0 + 2 * (i / 2) = i by omega]
    congr 3; congr 1; omega
  rw [E L (by omega)]
  rw [E was h16] at hs
  rw [psum_congr (l := L) (m := was) (i / 2) 0 (fun j _ h => hh j (by omega) (by omega)), psum_congr (l := L) (m := was) (8 - i / 2 - k) (i + 2 * k) (fun j h1 h2 => hh j (by omega) (by omega))]
  omega
theorem bareB_congr {l m : List Int} (h0 : m.getD 0 0 = l.getD 0 0) (h : pr m 22 = pr l 22) : bareB m = bareB l := by unfold bareB; rw [h0, h]
/-- What done does to a gram's sum. -/
theorem done_facts {L : List Int} {b : Bool} (hb : Bytes L) (h24 : 24 ≤ L.length) (hl : L.length ≤ 65000) (hbb : b = true → L.getD 0 0 = 2 ∧ pr L 22 = 0) :
    (∀ j, (j < 22 ∨ 24 ≤ j) → (doneL b L).getD j 0 = L.getD j 0) ∧ pairs (summedL (doneL b L)) % 65535 = pairs (summedL L) % 65535 ∧ bareB (doneL b L) = b ∧ (L.getD 0 0 ≠ 2 → doneL b L = L) := by
  unfold doneL
  rw [num2_pr]
  by_cases h : L.getD 0 0 = 2 ∧ b = false ∧ pr L 22 = 0
  · rw [if_pos h]
    obtain ⟨h2, rfl, h0⟩ := h
    refine ⟨fun j hj => putL_far _ _ _ _ _ (by omega), ?_, ?_, fun x => absurd h2 x⟩
    · rw [summed_put (by omega) hl (Or.inr rfl) (by omega) (by omega), h0]; omega
    · unfold bareB
      rw [pr_putL (by omega) (by omega) (by omega)]; simp
  · rw [if_neg h]
    refine ⟨fun _ _ => rfl, rfl, ?_, fun _ => rfl⟩
    unfold bareB
    cases b with
    | true => obtain ⟨a, c⟩ := hbb rfl; rw [a, c]; rfl
    | false =>
      by_cases h2 : L.getD 0 0 = 2
      · rw [beq_iff_eq.mpr h2, beq_eq_false_iff_ne.mpr (fun x => h ⟨h2, rfl, x⟩)]; rfl
      · rw [beq_eq_false_iff_ne.mpr h2]; rfl
theorem bareB_true {l : List Int} (h : bareB l = true) : l.getD 0 0 = 2 ∧ pr l 22 = 0 := by
  unfold bareB at h
  simpa using h
/-- What Write keeps. -/
theorem write_facts {l : List Int} (hb : Bytes l) (o : Ok l) {j n : Nat} {v : Int} (hn : 0 < n) (h16 : 16 ≤ j) (hl : j + n ≤ l.length) (hs : j + n ≤ placeL l ∨ placeL l + 2 ≤ j) (v0 : 0 ≤ v) (v1 : v < 256 ^ n) :
    (writeL (bareB l) l j n v).length = l.length ∧ Bytes (writeL (bareB l) l j n v) ∧ (∀ i, (i < j ∨ j + n ≤ i) → (i < placeL l ∨ placeL l + 2 ≤ i) → (writeL (bareB l) l j n v).getD i 0 = l.getD i 0) ∧ numL (writeL (bareB l) l j n v) j n = v ∧
      bareB (writeL (bareB l) l j n v) = bareB l ∧ (bareB l = false → pairs (summedL (writeL (bareB l) l j n v)) % 65535 = pairs (summedL l) % 65535) := by
  obtain ⟨X, hX⟩ : ∃ X, X = putL l j n v := ⟨_, rfl⟩
  have h24 := o.h24
  have hle := o.le
  have xb : Bytes X := hX ▸ putL_bytes _ _ _ hb
  have xl : X.length = l.length := by rw [hX, putL_len]
  have xf : ∀ i, (i < j ∨ j + n ≤ i) → X.getD i 0 = l.getD i 0 := fun i hi => by rw [hX, putL_far _ _ _ _ _ (by omega)]
  have xn : numL X j n = v := by rw [hX, numL_putL _ _ _ _ hl v0 v1]
  have sle := placeL_le l
  have sX : placeL X = placeL l := by unfold placeL; rw [xf 0 (by omega)]
  have sv : placeL l = 18 ∨ placeL l = 22 := by unfold placeL; split <;> simp
  have xs : pr X (placeL l) = pr l (placeL l) := by unfold pr; rw [xf _ (by omega), xf _ (by omega)]
  unfold writeL
  rw [← hX]
  cases hbb : bareB l with
  | true =>
    obtain ⟨k2, z2⟩ := bareB_true hbb
    have s22 : placeL l = 22 := by unfold placeL; rw [k2]; rfl
    have e : doneL true (bodyT true l X j n) = X := by unfold bodyT doneL; rw [if_pos rfl, if_neg (by simp)]
    rw [e]
    exact ⟨xl, xb, fun i h _ => xf i h, xn, by rw [bareB_congr (xf 0 (by omega)) (by rw [← s22]; exact xs), hbb], fun h => by cases h⟩
  | false =>
    obtain ⟨t, ht⟩ : ∃ t, t = turnS l X (pairsN j n) (j / 2 * 2) (pr l (placeL l)) := ⟨_, rfl⟩
    have p1 := pr_b hb (placeL l)
    have tb : 0 ≤ t ∧ t ≤ 65535 := by rw [ht]; exact turnS_b hb xb _ _ _ p1.1 p1.2
    have tm := turnS_mod hb xb (pairsN j n) (j / 2 * 2) _ p1.1 p1.2
    rw [← ht] at tm
    have e : bodyT false l X j n = putL X (placeL l) 2 t := by
      unfold bodyT turnL
      rw [if_neg (by simp), sX, num2_pr, xs, ht]
    rw [e]
    obtain ⟨Y, hY⟩ : ∃ Y, Y = putL X (placeL l) 2 t := ⟨_, rfl⟩
    rw [← hY]
    have yb : Bytes Y := hY ▸ putL_bytes _ _ _ xb
    have yl : Y.length = l.length := by rw [hY, putL_len, xl]
    have yf : ∀ i, (i < placeL l ∨ placeL l + 2 ≤ i) → Y.getD i 0 = X.getD i 0 := fun i hi => by rw [hY, putL_far _ _ _ _ _ (by omega)]
    have y0 : Y.getD 0 0 = l.getD 0 0 := by rw [yf 0 (by omega), xf 0 (by omega)]
    have ey : pairs (summedL Y) % 65535 = pairs (summedL l) % 65535 := by
      rw [hY, summed_put (by omega) (by omega) sv tb.1 tb.2, xs, pairs_summed (l := X) (by omega) (by omega), pairs_summed (l := l) (by omega) (by omega), xl, xf 0 (by omega), psum_congr (l := X) (m := l) 4 4 (fun i _ h => xf i (by omega)),
        pairs_turn (L := X) (was := l) xl 16 (j / 2 * 2) (pairsN j n) (by omega) (by omega) (fun i _ h => xf i (by unfold pairsN at h; omega))]
      split <;> omega
    obtain ⟨d1, d2, d3, d4⟩ := done_facts (b := false) yb (by omega) (by omega) (by intro h; cases h)
    have k22 : l.getD 0 0 = 2 → placeL l = 22 := fun h => by unfold placeL; rw [h]; rfl
    have df : ∀ i, (i < placeL l ∨ placeL l + 2 ≤ i) → (doneL false Y).getD i 0 = Y.getD i 0 := by
      intro i hi
      by_cases h2 : Y.getD 0 0 = 2
      · have := k22 (by omega)
        exact d1 i (by omega)
      · rw [d4 h2]
    refine ⟨by rw [doneL_len, yl], doneL_bytes yb, fun i h1 h2 => by rw [df i h2, yf i h2, xf i h1], ?_, d3, fun _ => by rw [d2, ey]⟩
    rw [numL_congr (m := X) j n (fun i h1 h2 => by rw [df i (by omega), yf i (by omega)]), xn]
/-- Bytes that are taken apart as before. -/
theorem Ok.congr {l m : List Int} (o : Ok l) (hl : m.length = l.length) (hs : fold (pairs (m.take 16)) = 65535) (hh : ∀ j, (j = 0 ∨ j = 2 ∨ j = 3 ∨ j = 13) → m.getD j 0 = l.getD j 0) (h17 : l.getD 0 0 = 3 → m.getD 17 0 = l.getD 17 0) (h20 : l.getD 0 0 = 1 → m.getD 20 0 = l.getD 20 0) (h21 : l.getD 0 0 = 1 → m.getD 21 0 = l.getD 21 0) : Ok m := by
  have e0 := hh 0 (by omega)
  refine ⟨by rw [hl]; exact o.h24, by rw [hl]; exact o.le, by rw [hl, numL_congr (m := l) 2 2 (fun j a b => hh j (by omega))]; exact o.num, by rw [hh 13 (by omega)]; exact o.z13, hs, by rw [e0]; exact o.k1, by rw [e0]; exact o.k3, fun h => by rw [hl]; exact o.f44 (by omega), ?_, ?_, ?_, ?_⟩
  · intro h; rw [h17 (by omega)]; exact o.f17 (by omega)
  · intro h; rw [h20 (by omega)]; exact o.s20 (by omega)
  · intro h; rw [h21 (by omega)]; exact o.s21 (by omega)
  · intro h
    have := o.rest (by omega)
    unfold restS at this ⊢
    rw [h21 (by omega), hl]; exact this
theorem take16_congr {l m : List Int} (hl : m.length = l.length) (hh : ∀ j, j < 16 → m.getD j 0 = l.getD j 0) : m.take 16 = l.take 16 := take_congr hl hh
/-- Write behind the head's and the body's fixed places: taken apart still, whole or not as before. -/
theorem write_keep {l : List Int} (hb : Bytes l) (o : Ok l) {j n : Nat} {v : Int} (hn : 0 < n) (h24 : 24 ≤ j ∨ (16 ≤ j ∧ l.getD 0 0 = 2)) (hl : j + n ≤ l.length) (hs : j + n ≤ placeL l ∨ placeL l + 2 ≤ j) (v0 : 0 ≤ v) (v1 : v < 256 ^ n) :
    Ok (writeL (bareB l) l j n v) ∧ wholeL (writeL (bareB l) l j n v) = wholeL l := by
  obtain ⟨f1, f2, f3, f4, f5, f6⟩ := write_facts hb o hn (by omega) hl hs v0 v1
  have sle := placeL_le l
  have s18 : 18 ≤ placeL l := by unfold placeL; split <;> omega
  have s22 : l.getD 0 0 ≠ 3 → placeL l = 22 := fun h => by unfold placeL; rw [if_neg h]
  have t16 := take16_congr f1 (fun i hi => f3 i (by omega) (by omega))
  have o2 : Ok (writeL (bareB l) l j n v) := o.congr f1 (by rw [t16]; exact o.sum) (fun i hi => f3 i (by omega) (by omega)) (fun h => f3 17 (by omega) (by omega)) (fun h => f3 20 (by omega) (by have := s22 (by omega); omega)) (fun h => f3 21 (by omega) (by have := s22 (by omega); omega))
  refine ⟨o2, ?_⟩
  rw [whole_iff f2 o2, whole_iff hb o, bare_of o2, bare_of o, f5]
  cases hbb : bareB l with
  | true => rfl
  | false => rw [hbb] at f6; rw [f6 rfl]
/-- What Age keeps. -/
theorem age_facts {l : List Int} (hb : Bytes l) (o : Ok l) (h2 : 2 ≤ l.getD 1 0) :
    (ageL (bareB l) l).length = l.length ∧ Bytes (ageL (bareB l) l) ∧ Ok (ageL (bareB l) l) ∧ (∀ i, i ≠ 1 → i ≠ 14 → i ≠ 15 → (ageL (bareB l) l).getD i 0 = l.getD i 0) ∧ (ageL (bareB l) l).getD 1 0 = l.getD 1 0 - 1 ∧ wholeL (ageL (bareB l) l) = wholeL l := by
  have h24 := o.h24
  have b1 := getD_byte hb 1
  rw [age_eq h24]
  obtain ⟨L, hL⟩ : ∃ L, L = l.set 1 ((l.getD 1 0 - 1) % 256) := ⟨_, rfl⟩
  have Lb : Bytes L := hL ▸ hb.set _ (by omega) (by omega)
  have Ll : L.length = l.length := by rw [hL, List.length_set]
  have Lf : ∀ i, i ≠ 1 → L.getD i 0 = l.getD i 0 := fun i hi => by rw [hL, getD_set_ne (by omega)]
  have L1 : L.getD 1 0 = l.getD 1 0 - 1 := by rw [hL, getD_set_eq (by omega)]; omega
  rw [← hL]
  have et : turn (pr l 14) (pr l 0) (pr L 0) = turnS l L 1 0 (pr l 14) := by rw [turnS, turnS, pairL_pr, pairL_pr]
  obtain ⟨Y, hY⟩ : ∃ Y, Y = putL L 14 2 (turn (pr l 14) (pr l 0) (pr L 0)) := ⟨_, rfl⟩
  have Yl : Y.length = l.length := by rw [hY, putL_len, Ll]
  have Yb : Bytes Y := hY ▸ putL_bytes _ _ _ Lb
  have Yf : ∀ i, i ≠ 1 → i ≠ 14 → i ≠ 15 → Y.getD i 0 = l.getD i 0 := fun i h1 h2 h3 => by rw [hY, putL_far _ _ _ _ _ (by omega), Lf i h1]
  have hs : fold (pairs (Y.take 16)) = 65535 := by
    rw [hY, et]
    exact head_turn hb Lb Ll (by omega) o.sum o.k1 (Lf 0 (by omega)) 0 1 rfl (by omega) (fun j _ h => Lf j (by omega))
  have Yo : Ok Y := o.congr Yl hs (fun j hj => Yf j (by omega) (by omega) (by omega)) (fun _ => Yf 17 (by omega) (by omega) (by omega)) (fun _ => Yf 20 (by omega) (by omega) (by omega)) (fun _ => Yf 21 (by omega) (by omega) (by omega))
  rw [← hY]
  refine ⟨Yl, Yb, Yo, Yf, by rw [hY, putL_far _ _ _ _ _ (by omega), L1], ?_⟩
  rw [whole_iff Yb Yo, whole_iff hb o, bare_of Yo, bare_of o, summed_congr Yl (fun j hj => Yf j (by omega) (by omega) (by omega)), bareB_congr (Yf 0 (by omega) (by omega) (by omega)) (by unfold pr; rw [Yf 22 (by omega) (by omega) (by omega), Yf (22 + 1) (by omega) (by omega) (by omega)])]
/-- What Nat keeps. -/
theorem nat_facts {l : List Int} (hb : Bytes l) (o : Ok l) (h3 : l.getD 0 0 ≠ 3) {a p : Nat} (hap : (a = 4 ∧ p = 16) ∨ (a = 8 ∧ p = 18)) {addr port : Int} (a0 : 0 ≤ addr) (a1 : addr ≤ 4294967295) (p0 : 0 ≤ port) (p1 : port ≤ 65535) :
    (natL (bareB l) l a p addr port).length = l.length ∧ Bytes (natL (bareB l) l a p addr port) ∧ Ok (natL (bareB l) l a p addr port) ∧ (∀ i, (i < a ∨ a + 4 ≤ i) → (i < p ∨ p + 2 ≤ i) → (i < 14 ∨ 16 ≤ i) → (i < 22 ∨ 24 ≤ i) → (natL (bareB l) l a p addr port).getD i 0 = l.getD i 0) ∧
      numL (natL (bareB l) l a p addr port) a 4 = addr ∧ numL (natL (bareB l) l a p addr port) p 2 = port ∧ bareB (natL (bareB l) l a p addr port) = bareB l ∧ wholeL (natL (bareB l) l a p addr port) = wholeL l := by
  have h24 := o.h24
  have hle := o.le
  have i2 : (256 : Int) ^ 2 = 65536 := by decide
  have i4 : (256 : Int) ^ 4 = 4294967296 := by decide
  obtain ⟨X, hX⟩ : ∃ X, X = putL (putL l a 4 addr) p 2 port := ⟨_, rfl⟩
  have xb : Bytes X := hX ▸ putL_bytes _ _ _ (putL_bytes _ _ _ hb)
  have xl : X.length = l.length := by rw [hX, putL_len, putL_len]
  have xf : ∀ i, (i < a ∨ a + 4 ≤ i) → (i < p ∨ p + 2 ≤ i) → X.getD i 0 = l.getD i 0 := fun i h1 h2 => by rw [hX, putL_far _ _ _ _ _ (by omega), putL_far _ _ _ _ _ (by omega)]
  have xa : numL X a 4 = addr := by rw [hX, numL_putL_far _ _ _ _ _ (by omega), numL_putL _ _ _ _ (by omega) a0 (by omega)]
  have xp : numL X p 2 = port := by rw [hX, numL_putL _ _ _ _ (by rw [putL_len]; omega) p0 (by omega)]
  have x14 : pr X 14 = pr l 14 := by unfold pr; rw [xf 14 (by omega) (by omega), xf (14 + 1) (by omega) (by omega)]
  have x22 : pr X 22 = pr l 22 := by unfold pr; rw [xf 22 (by omega) (by omega), xf (22 + 1) (by omega) (by omega)]
  have x0 := xf 0 (by omega) (by omega)
  have q14 := pr_b hb 14
  have q22 := pr_b hb 22
  obtain ⟨u, hu⟩ : ∃ u, u = turnS l X 2 a (pr l 14) := ⟨_, rfl⟩
  have ub : 0 ≤ u ∧ u ≤ 65535 := by rw [hu]; exact turnS_b hb xb _ _ _ q14.1 q14.2
  obtain ⟨Y, hY⟩ : ∃ Y, Y = putL X 14 2 u := ⟨_, rfl⟩
  have eY : turnL l X 14 a 4 = Y := by
    unfold turnL
    rw [show pairsN a 4 = 2 from by unfold pairsN; omega, show a / 2 * 2 = a by omega, num2_pr, x14, hY, hu]
  have yb : Bytes Y := hY ▸ putL_bytes _ _ _ xb
  have yl : Y.length = l.length := by rw [hY, putL_len, xl]
  have yf : ∀ i, (i < 14 ∨ 16 ≤ i) → Y.getD i 0 = X.getD i 0 := fun i h => by rw [hY, putL_far _ _ _ _ _ (by omega)]
  have y0 : Y.getD 0 0 = l.getD 0 0 := by rw [yf 0 (by omega), x0]
  have y22 : pr Y 22 = pr l 22 := by rw [hY, pr_far (by omega), x22]
  have hs : fold (pairs (Y.take 16)) = 65535 := by
    rw [hY, hu]
    exact head_turn hb xb xl (by omega) o.sum o.k1 x0 a 2 (by omega) (by omega) (fun j h1 h2 => xf j (by omega) (by omega))
  -- whatever lies at 22 and 23
  have fin : ∀ y : List Int, y.length = l.length → Bytes y → (∀ i, (i < 22 ∨ 24 ≤ i) → y.getD i 0 = Y.getD i 0) → bareB y = bareB l → (bareB l = false → pairs (summedL y) % 65535 = pairs (summedL l) % 65535) →
      y.length = l.length ∧ Bytes y ∧ Ok y ∧ (∀ i, (i < a ∨ a + 4 ≤ i) → (i < p ∨ p + 2 ≤ i) → (i < 14 ∨ 16 ≤ i) → (i < 22 ∨ 24 ≤ i) → y.getD i 0 = l.getD i 0) ∧ numL y a 4 = addr ∧ numL y p 2 = port ∧ bareB y = bareB l ∧ wholeL y = wholeL l := by
    intro y hl hby hf hbare hsum
    have ff : ∀ i, (i < a ∨ a + 4 ≤ i) → (i < p ∨ p + 2 ≤ i) → (i < 14 ∨ 16 ≤ i) → (i < 22 ∨ 24 ≤ i) → y.getD i 0 = l.getD i 0 := fun i h1 h2 h3 h4 => by rw [hf i h4, yf i h3, xf i h1 h2]
    have t16 : y.take 16 = Y.take 16 := take_congr (by omega) (fun j hj => hf j (by omega))
    have oy : Ok y := o.congr hl (by rw [t16]; exact hs) (fun j hj => ff j (by omega) (by omega) (by omega) (by omega)) (fun h => absurd h h3) (fun _ => ff 20 (by omega) (by omega) (by omega) (by omega)) (fun _ => ff 21 (by omega) (by omega) (by omega) (by omega))
    refine ⟨hl, hby, oy, ff, ?_, ?_, hbare, ?_⟩
    · rw [numL_congr (m := X) a 4 (fun j h1 h2 => by rw [hf j (by omega), yf j (by omega)]), xa]
    · rw [numL_congr (m := X) p 2 (fun j h1 h2 => by rw [hf j (by omega), yf j (by omega)]), xp]
    · rw [whole_iff hby oy, whole_iff hb o, bare_of oy, bare_of o, hbare]
      cases hbb : bareB l with
      | true => rfl
      | false => rw [hsum hbb]
  unfold natL
  rw [← hX, eY]
  cases hbb : bareB l with
  | true =>
    have e : doneL true (bodyT true l (bodyT true l Y a 4) p 2) = Y := by
      unfold bodyT; rw [if_pos rfl, if_pos rfl]; unfold doneL; rw [if_neg (by simp)]
    rw [e, ← hbb]
    exact fin Y yl yb (fun _ _ => rfl) (bareB_congr y0 y22) (fun h => by rw [hbb] at h; cases h)
  | false =>
    have sY : placeL Y = 22 := by unfold placeL; rw [y0, if_neg h3]
    obtain ⟨t2, ht2⟩ : ∃ t, t = turnS l Y 2 a (pr l 22) := ⟨_, rfl⟩
    have b2 : 0 ≤ t2 ∧ t2 ≤ 65535 := by rw [ht2]; exact turnS_b hb yb _ _ _ q22.1 q22.2
    have m2 := turnS_mod hb yb 2 a _ q22.1 q22.2
    rw [← ht2] at m2
    obtain ⟨Z, hZ⟩ : ∃ Z, Z = putL Y 22 2 t2 := ⟨_, rfl⟩
    have zb : Bytes Z := hZ ▸ putL_bytes _ _ _ yb
    have zl : Z.length = l.length := by rw [hZ, putL_len, yl]
    have e1 : bodyT false l Y a 4 = Z := by
      unfold bodyT turnL
      rw [if_neg (by simp), sY, show pairsN a 4 = 2 from by unfold pairsN; omega, show a / 2 * 2 = a by omega, num2_pr, y22, hZ, ht2]
    have z0 : Z.getD 0 0 = l.getD 0 0 := by rw [hZ, putL_far _ _ _ _ _ (by omega), y0]
    have sZ : placeL Z = 22 := by unfold placeL; rw [z0, if_neg h3]
    have z22 : pr Z 22 = t2 := by rw [hZ, pr_putL (by omega) b2.1 b2.2]
    obtain ⟨t3, ht3⟩ : ∃ t, t = turnS l Z 1 p t2 := ⟨_, rfl⟩
    have b3 : 0 ≤ t3 ∧ t3 ≤ 65535 := by rw [ht3]; exact turnS_b hb zb _ _ _ b2.1 b2.2
    have m3 := turnS_mod hb zb 1 p _ b2.1 b2.2
    rw [← ht3] at m3
    obtain ⟨W, hW⟩ : ∃ W, W = putL Y 22 2 t3 := ⟨_, rfl⟩
    have e2 : bodyT false l Z p 2 = W := by
      unfold bodyT turnL
      rw [if_neg (by simp), sZ, show pairsN p 2 = 1 from by unfold pairsN; omega, show p / 2 * 2 = p by omega, num2_pr, z22, ← ht3, hZ, putL_putL, hW]
    rw [e1, e2]
    have wb : Bytes W := hW ▸ putL_bytes _ _ _ yb
    have wl : W.length = l.length := by rw [hW, putL_len, yl]
    have wf : ∀ i, (i < 22 ∨ 24 ≤ i) → W.getD i 0 = Y.getD i 0 := fun i h => by rw [hW, putL_far _ _ _ _ _ (by omega)]
    have w0 : W.getD 0 0 = l.getD 0 0 := by rw [wf 0 (by omega), y0]
    have pz : psum Z p 1 = psum X p 1 := by rw [hZ, hY]; exact psum_congr 1 p (fun j h1 h2 => by rw [putL_far _ _ _ _ _ (by omega), putL_far _ _ _ _ _ (by omega)])
    have py : psum Y a 2 = psum X a 2 := by rw [hY]; exact psum_congr 2 a (fun j h1 h2 => by rw [putL_far _ _ _ _ _ (by omega)])
    have ew : pairs (summedL W) % 65535 = pairs (summedL l) % 65535 := by
      have eYX : summedL Y = summedL X := summed_congr (by omega) (fun j hj => yf j (by omega))
      rw [hW, summed_put (by omega) (by omega) (Or.inr rfl) b3.1 b3.2, y22, eYX, pairs_summed (l := X) (by omega) (by omega), pairs_summed (l := l) (by omega) (by omega), xl, x0, if_neg h3, if_neg h3,
        pairs_turn (L := X) (was := l) xl 16 p 1 (by omega) (by omega) (fun i h1 h => xf i (by omega) (by omega))]
      have e4 : psum X 4 4 - psum l 4 4 = psum X a 2 - psum l a 2 := by
        have eX : psum X 4 4 = psum X 4 2 + psum X 8 2 := psum_add X 2 4 2
        have el : psum l 4 4 = psum l 4 2 + psum l 8 2 := psum_add l 2 4 2
        rcases hap with ⟨rfl, rfl⟩ | ⟨rfl, rfl⟩
        · have := psum_congr (l := X) (m := l) 2 8 (fun j h1 h2 => xf j (by omega) (by omega)); omega
        · have := psum_congr (l := X) (m := l) 2 4 (fun j h1 h2 => xf j (by omega) (by omega)); omega
      omega
    obtain ⟨d1, d2, d3, d4⟩ := done_facts (b := false) wb (by omega) (by omega) (by intro h; cases h)
    rw [← hbb]
    rw [← hbb] at d1 d2 d3
    exact fin _ (by rw [doneL_len, wl]) (doneL_bytes wb) (fun i h => by rw [d1 i h, wf i h]) d3 (fun _ => by rw [d2, ew])
end Go.Proofs.Ytbjhmifhmojaoaa.WB

namespace Go.Proofs.Ytbjhmifhmojaoaa.WB
set_option linter.unusedVariables false
set_option linter.unusedSimpArgs false
open Go.RowKit Go.Proofs.Ytbjhmifhmojaoaa.Hp Go.Proofs.Ytbjhmifhmojaoaa.SB Go.Proofs.YtbjhmifhmojaoaaW.PrintWords Go.Proofs.YtbjhmifhmojaoaaW.PrintLast Go.Proofs.YtbjhmifhmojaoaaW.PrintMore

/-- Bytes that may be read. -/
structure Rw (w : World) (A : Option Addr) (c : Nat) (l : List Int) : Prop where
  rd : Kd.C (Kd.int .u8) w A l.length l
  le : l.length ≤ c
theorem Rw.below {w w' : World} {A : Option Addr} {c : Nat} {l : List Int} (h : Rw w A c l) (hb : Below w.heap.size w w') : Rw w' A c l := ⟨Kd.C_below h.rd hb, h.le⟩
theorem rw_of {b : Nat} {w : World} {A : Option Addr} {c n : Nat} {l : List Int} (h : RB b w (.slice A n c) l) : Rw w A c l := by
  have e := Kd.R_reads' h
  exact ⟨by have := e.2.2; exact this, by have := e.2.1; rw [e.1] at this; exact this⟩
theorem told_at {W0 W w' : World} {y : List Int} {x : Int} {e : Ending} (h : Below W0.heap.size W0 W) (ht : Told W y x e w') : ∃ (A : Option Addr) (c : Nat), e = .returned (.tuple #[.slice A y.length c, .int .i64 x]) ∧ RB W0.heap.size w' (.slice A y.length c) y ∧ Below W0.heap.size W0 w' := by
  obtain ⟨v, rfl, hr, hb⟩ := ht
  obtain ⟨A, c, rfl⟩ := Kd.R_slice hr
  exact ⟨A, c, rfl, Kd.R_lower hr h.size, below_step h hb⟩
theorem age_at {W0 : World} {A0 : Option Addr} {c0 n : Nat} {l : List Int} (h0 : Rw W0 A0 c0 l) (hn : l.length = n) (hl : l.length ≤ 10000) (hb : Bytes l) {y : List Int} {x : Int} (hr : ageR l = (y, x)) : ∀ W, Below W0.heap.size W0 W →
    Calls Try.prog 30 #[.slice A0 n c0] W fun e w' => ∃ (A : Option Addr) (c : Nat), e = .returned (.tuple #[.slice A y.length c, .int .i64 x]) ∧ RB W0.heap.size w' (.slice A y.length c) y ∧ Below W0.heap.size W0 w' := by
  subst hn
  intro W h
  have := age_calls (h0.below h).rd rfl h0.le hl hb
  rw [hr] at this
  exact this.mono fun e w' ht => told_at h ht
theorem rage_at {W0 : World} {A0 : Option Addr} {c0 n : Nat} {l : List Int} (h0 : Rw W0 A0 c0 l) (hn : l.length = n) (hl : l.length ≤ 10000) (hb : Bytes l) {y : List Int} {x : Int} (hr : ageR l = (y, x)) : ∀ W, Below W0.heap.size W0 W →
    Calls Try.prog 31 #[.slice A0 n c0] W fun e w' => ∃ (A : Option Addr) (c : Nat), e = .returned (.tuple #[.slice A y.length c, .int .i64 x]) ∧ RB W0.heap.size w' (.slice A y.length c) y ∧ Below W0.heap.size W0 w' := by
  subst hn
  intro W h
  have := rage_calls (h0.below h).rd rfl h0.le hl hb
  rw [hr] at this
  exact this.mono fun e w' ht => told_at h ht
theorem nat_at {W0 : World} {A0 : Option Addr} {c0 n : Nat} {l : List Int} (h0 : Rw W0 A0 c0 l) (hn : l.length = n) (hl : l.length ≤ 10000) (hb : Bytes l) (src : Bool) (addr port : Int) {y : List Int} {x : Int} (hr : natR l src addr port = (y, x)) : ∀ W, Below W0.heap.size W0 W →
    Calls Try.prog 28 #[.slice A0 n c0, .bool src, .int .i64 addr, .int .i64 port] W fun e w' => ∃ (A : Option Addr) (c : Nat), e = .returned (.tuple #[.slice A y.length c, .int .i64 x]) ∧ RB W0.heap.size w' (.slice A y.length c) y ∧ Below W0.heap.size W0 w' := by
  subst hn
  intro W h
  have := nat_calls (h0.below h).rd rfl h0.le hl hb src addr port
  rw [hr] at this
  exact this.mono fun e w' ht => told_at h ht
theorem rnat_at {W0 : World} {A0 : Option Addr} {c0 n : Nat} {l : List Int} (h0 : Rw W0 A0 c0 l) (hn : l.length = n) (hl : l.length ≤ 10000) (hb : Bytes l) (src : Bool) (addr port : Int) {y : List Int} {x : Int} (hr : natR l src addr port = (y, x)) : ∀ W, Below W0.heap.size W0 W →
    Calls Try.prog 29 #[.slice A0 n c0, .bool src, .int .i64 addr, .int .i64 port] W fun e w' => ∃ (A : Option Addr) (c : Nat), e = .returned (.tuple #[.slice A y.length c, .int .i64 x]) ∧ RB W0.heap.size w' (.slice A y.length c) y ∧ Below W0.heap.size W0 w' := by
  subst hn
  intro W h
  have := rnat_calls (h0.below h).rd rfl h0.le hl hb src addr port
  rw [hr] at this
  exact this.mono fun e w' ht => told_at h ht
theorem write_at {W0 : World} {A0 : Option Addr} {c0 n : Nat} {l : List Int} (h0 : Rw W0 A0 c0 l) (hn : l.length = n) (hl : l.length ≤ 10000) (hb : Bytes l) (i m v : Int) {y : List Int} {x : Int} (hr : writeR l i m v = (y, x)) : ∀ W, Below W0.heap.size W0 W →
    Calls Try.prog 26 #[.slice A0 n c0, .int .i64 i, .int .i64 m, .int .i64 v] W fun e w' => ∃ (A : Option Addr) (c : Nat), e = .returned (.tuple #[.slice A y.length c, .int .i64 x]) ∧ RB W0.heap.size w' (.slice A y.length c) y ∧ Below W0.heap.size W0 w' := by
  subst hn
  intro W h
  have := write_calls (h0.below h).rd rfl h0.le hl hb i m v
  rw [hr] at this
  exact this.mono fun e w' ht => told_at h ht
theorem parse_at {W0 : World} {A0 : Option Addr} {c0 n : Nat} {l : List Int} (h0 : Rw W0 A0 c0 l) (hn : l.length = n) (hl : l.length ≤ 10000) (hb : Bytes l) {p : Pk} {x : Int} (hr : parseL l = (p, x)) : ∀ W, Below W0.heap.size W0 W →
    Calls Try.prog 19 #[.slice A0 n c0] W fun e w' => ∃ (A1 : Option Addr) (c1 : Nat) (A2 : Option Addr) (c2 : Nat), e = .returned (.tuple #[.agg #[.int .i64 p.kind, .int .i64 p.life, .int .i64 p.piece, .int .i64 p.frm, .int .i64 p.dst, .int .i64 p.fp, .int .i64 p.tp, .int .i64 p.flags, .int .i64 p.label, .bool p.bare, .int .i64 p.code, .slice A1 p.opts.length c1, .slice A2 p.data.length c2], .int .i64 x]) ∧ RB W0.heap.size w' (.slice A1 p.opts.length c1) p.opts ∧ RB W0.heap.size w' (.slice A2 p.data.length c2) p.data ∧ (∀ k, (Value.slice A1 p.opts.length c1).ownBlock = some k → (Value.slice A2 p.data.length c2).ownBlock ≠ some k) ∧ Below W0.heap.size W0 w' := by
  subst hn
  intro W h
  refine (parse_calls (h0.below h).rd rfl h0.le (by omega) hb).mono ?_
  rintro e w' ⟨v1, v2, he, h1, h2, h3, h4⟩
  rw [hr] at he h1 h2
  obtain ⟨A1, c1, rfl⟩ := Kd.R_slice h1
  obtain ⟨A2, c2, rfl⟩ := Kd.R_slice h2
  exact ⟨A1, c1, A2, c2, he, Kd.R_lower h1 h.size, Kd.R_lower h2 h.size, h3, below_step h h4⟩
theorem whole_at {W0 : World} {A0 : Option Addr} {c0 n : Nat} {l : List Int} (h0 : Rw W0 A0 c0 l) (hn : l.length = n) (hl : l.length ≤ 10000) (hb : Bytes l) {b : Bool} (hr : wholeL l = b) : ∀ W, Below W0.heap.size W0 W →
    Calls Try.prog 21 #[.slice A0 n c0] W fun e w' => e = .returned (.bool b) ∧ Below W0.heap.size W0 w' := by
  subst hn hr
  intro W h
  refine (whole_calls (h0.below h).rd rfl h0.le (by omega) hb).mono ?_
  rintro e w' ⟨rfl, h1⟩
  exact ⟨rfl, below_step h h1⟩
theorem rbuild_at {W0 : World} {p : Pk} {A1 A2 : Option Addr} {c1 c2 n1 n2 : Nat} (h1 : Rw W0 A1 c1 p.opts) (h2 : Rw W0 A2 c2 p.data) (hn1 : p.opts.length = n1) (hn2 : p.data.length = n2) (he : buildE p = 0) (hc : Canon p) (hl1 : p.opts.length ≤ 100000) (hl2 : p.data.length ≤ 100000) {y : List Int} (hy : buildL p = y) : ∀ W, Below W0.heap.size W0 W →
    Calls Try.prog 18 #[.agg #[.int .i64 p.kind, .int .i64 p.life, .int .i64 p.piece, .int .i64 p.frm, .int .i64 p.dst, .int .i64 p.fp, .int .i64 p.tp, .int .i64 p.flags, .int .i64 p.label, .bool p.bare, .int .i64 p.code, .slice A1 n1 c1, .slice A2 n2 c2]] W fun e w' => ∃ (A : Option Addr) (c : Nat), e = .returned (.tuple #[.slice A y.length c, .int .i64 0]) ∧ RB W0.heap.size w' (.slice A y.length c) y ∧ Below W0.heap.size W0 w' := by
  subst hn1 hn2
  intro W h
  refine (rbuild_calls (p := p) (h1.below h).rd h1.le (h2.below h).rd h2.le hc.bo hc.bd he).mono ?_
  rintro e w' ⟨v, rfl, hr, hb⟩
  rw [he, hy] at hr
  rw [he]
  exact told_at h ⟨v, rfl, hr, hb⟩
theorem make_at {W0 : World} {A0 B0 : Option Addr} {c0 d0 n m : Nat} {ns l : List Int} (kind : Int) (hn : Kd.C (Kd.int .i64) W0 A0 n ns) (hnn : ns.length = n) (hnc : n ≤ c0) (hnl : n ≤ 140737488351232) (h0 : Rw W0 B0 d0 l) (hm : l.length = m) (hl : m ≤ 140737488351232) (hb : Bytes l) {p : Pk} (hp : makeP kind ns l = p) : ∀ W, Below W0.heap.size W0 W →
    Calls Try.prog 16 #[.int .i64 kind, .slice A0 n c0, .slice B0 m d0] W fun e w' => ∃ (A1 : Option Addr) (c1 : Nat) (A2 : Option Addr) (c2 : Nat), e = .returned (.agg #[.int .i64 p.kind, .int .i64 p.life, .int .i64 p.piece, .int .i64 p.frm, .int .i64 p.dst, .int .i64 p.fp, .int .i64 p.tp, .int .i64 p.flags, .int .i64 p.label, .bool p.bare, .int .i64 p.code, .slice A1 p.opts.length c1, .slice A2 p.data.length c2]) ∧ RB W0.heap.size w' (.slice A1 p.opts.length c1) p.opts ∧ RB W0.heap.size w' (.slice A2 p.data.length c2) p.data ∧ (∀ k, (Value.slice A1 p.opts.length c1).ownBlock = some k → (Value.slice A2 p.data.length c2).ownBlock ≠ some k) ∧ Below W0.heap.size W0 w' := by
  subst hp
  intro W h
  refine (make_calls kind (Kd.C_below hn h) hnn hnc hnl (by subst hm; exact (h0.below h).rd) hm (by have := h0.le; omega) hl hb).mono ?_
  intro e w' hm
  obtain ⟨A1, c1, A2, c2, rfl, h1, h2, h3, h4⟩ := made_s hm
  exact ⟨A1, c1, A2, c2, rfl, Kd.R_lower h1 h.size, Kd.R_lower h2 h.size, h3, below_step h h4⟩
theorem withn_at (W0 : World) (a : Int) {n : Int} (h0 : 0 < n) (h1 : n ≤ 4611686018427387904) {x : Int} (hx : a % n = x) : ∀ W, Below W0.heap.size W0 W →
    Calls Try.prog 22 #[.int .i64 a, .int .i64 n] W fun e w' => e = .returned (.int .i64 x) ∧ Below W0.heap.size W0 w' := by
  intro W h
  refine (within_calls a h0 h1 W).mono ?_
  rintro e w' ⟨rfl, ⟨⟨nd, rfl⟩⟩⟩
  exact ⟨by rw [hx], bd h nd⟩
end Go.Proofs.Ytbjhmifhmojaoaa.WB

namespace Go.Proofs.Ytbjhmifhmojaoaa.WB
set_option linter.unusedVariables false
set_option linter.unusedSimpArgs false
open Go.RowKit Go.Proofs.Ytbjhmifhmojaoaa.Hp Go.Proofs.Ytbjhmifhmojaoaa.SB Go.Proofs.YtbjhmifhmojaoaaW.PrintWords Go.Proofs.YtbjhmifhmojaoaaW.PrintLast Go.Proofs.YtbjhmifhmojaoaaW.PrintMore

theorem pk_life (l : List Int) : (pkL l).life = l.getD 1 0 := by
  unfold pkL; repeat' split
  all_goals rfl
theorem pk_kind {l : List Int} (o : Ok l) : (pkL l).kind = l.getD 0 0 := kind0 o.parse
theorem ageR_ok {l : List Int} (o : Ok l) (h : 2 ≤ l.getD 1 0) : ageR l = (ageL (bareB l) l, 0) := by
  unfold ageR
  rw [o.parse]
  dsimp only
  rw [if_neg (by simp), if_neg (by rw [pk_life]; omega), bare_of o]
theorem natR_ok {l : List Int} (o : Ok l) (h3 : l.getD 0 0 ≠ 3) (src : Bool) {addr port : Int} (a0 : 0 ≤ addr) (a1 : addr ≤ 4294967295) (p0 : 0 ≤ port) (p1 : port ≤ 65535) :
    natR l src addr port = (natL (bareB l) l (if src then 4 else 8) (if src then 16 else 18) addr port, 0) := by
  unfold natR
  rw [o.parse]
  dsimp only
  rw [if_neg (by simp), if_neg (by rw [pk_kind o]; exact h3), if_neg (by rw [rgB_true a0 a1, rgB_true p0 p1]; simp), bare_of o]
theorem writeR_ok {l : List Int} (o : Ok l) {i m v : Int} (h : wrOK l i m v) : writeR l i m v = (writeL (bareB l) l i.toNat m.toNat v, 0) := by
  unfold writeR
  rw [o.parse]
  dsimp only
  rw [if_neg (by simp), if_pos h, bare_of o]
/-- The example. -/
theorem known_facts : ∃ b c d x : List Int, buildL ⟨2, 9, 0, 1, 2, 3, 4, 0, 5, false, 0, [], [6]⟩ = b ∧ parseL b = (⟨2, 9, 0, 1, 2, 3, 4, 0, 5, false, 0, [], [6]⟩, 0) ∧ wholeL b = true ∧ (b.length ≤ 10000 ∧ Bytes b) ∧
    (ageR b = (c, 0) ∧ wholeL c = true ∧ c.length ≤ 10000 ∧ Bytes c) ∧ (natR b false 7 8 = (d, 0) ∧ wholeL d = true ∧ d.length ≤ 10000 ∧ Bytes d) ∧ (writeR b 20 2 77 = (x, 0) ∧ wholeL x = true ∧ x.length ≤ 10000 ∧ Bytes x) := by
  have hE : buildE ⟨2, 9, 0, 1, 2, 3, 4, 0, 5, false, 0, [], [6]⟩ = 0 := by decide
  obtain ⟨o, hp, hw, hl, hb⟩ := parse_build hE ⟨bytes_nil, one_byte (by omega) (by omega), (fun h => by cases h), (fun _ => ⟨rfl, rfl, rfl⟩), (fun h => by cases h)⟩
  obtain ⟨b, hbb⟩ : ∃ b, buildL ⟨2, 9, 0, 1, 2, 3, 4, 0, 5, false, 0, [], [6]⟩ = b := ⟨_, rfl⟩
  rw [hbb] at o hp hw hl hb
  have hl2 : b.length = 25 := hl
  have k0 : b.getD 0 0 = 2 := by rw [← pk_kind o, hp]
  have k1 : b.getD 1 0 = 9 := by rw [← pk_life, hp]
  have s22 : placeL b = 22 := by unfold placeL; rw [k0]; rfl
  obtain ⟨a1, a2, a3, _, _, a4⟩ := age_facts hb o (by omega)
  obtain ⟨n1, n2, n3, _, _, _, _, n4⟩ := nat_facts hb o (by omega) (a := 8) (p := 18) (addr := 7) (port := 8) (by omega) (by omega) (by omega) (by omega) (by omega)
  have hv : (77 : Int) < 256 ^ 2 := by decide
  obtain ⟨w1, w2, _⟩ := write_facts hb o (j := 20) (n := 2) (v := 77) (by omega) (by omega) (by omega) (by omega) (by omega) hv
  obtain ⟨w3, w4⟩ := write_keep hb o (j := 20) (n := 2) (v := 77) (by omega) (by omega) (by omega) (by omega) (by omega) hv
  refine ⟨b, _, _, _, hbb, by rw [o.parse, hp], hw, ⟨by omega, hb⟩, ⟨ageR_ok o (by omega), a4.trans hw, by omega, a2⟩, ⟨natR_ok o (by omega) false (by omega) (by omega) (by omega) (by omega), ?_⟩, ⟨writeR_ok o ⟨by omega, by omega, hv, by omega, by rw [hl2]; decide, by rw [s22]; decide⟩, ?_⟩⟩
  · exact ⟨n4.trans hw, by show (natL (bareB b) b 8 18 7 8).length ≤ _; omega, n2⟩
  · exact ⟨w4.trans hw, by show (writeL (bareB b) b 20 2 77).length ≤ _; omega, w2⟩
end Go.Proofs.Ytbjhmifhmojaoaa.WB

namespace Go.Proofs.Ytbjhmifhmojaoaa.WB
set_option linter.unusedVariables false
set_option linter.unusedSimpArgs false
open Go.RowKit Go.Proofs.Ytbjhmifhmojaoaa.Hp Go.Proofs.Ytbjhmifhmojaoaa.SB Go.Proofs.YtbjhmifhmojaoaaW.PrintWords Go.Proofs.YtbjhmifhmojaoaaW.PrintLast Go.Proofs.YtbjhmifhmojaoaaW.PrintMore

theorem buildg_at {W0 : World} {p : Pk} {A1 A2 : Option Addr} {c1 c2 n1 n2 : Nat} (h1 : Rw W0 A1 c1 p.opts) (h2 : Rw W0 A2 c2 p.data) (hn1 : p.opts.length = n1) (hn2 : p.data.length = n2) (hk : p.kind = 2) (he : buildE p = 0) (b1 : Bytes p.opts) (b2 : Bytes p.data) {y : List Int} (hy : buildL p = y) : ∀ W, Below W0.heap.size W0 W →
    Calls Try.prog 17 #[.agg #[.int .i64 p.kind, .int .i64 p.life, .int .i64 p.piece, .int .i64 p.frm, .int .i64 p.dst, .int .i64 p.fp, .int .i64 p.tp, .int .i64 p.flags, .int .i64 p.label, .bool p.bare, .int .i64 p.code, .slice A1 n1 c1, .slice A2 n2 c2]] W fun e w' => ∃ (A : Option Addr) (c : Nat), e = .returned (.tuple #[.slice A y.length c, .int .i64 0]) ∧ RB W0.heap.size w' (.slice A y.length c) y ∧ Below W0.heap.size W0 w' := by
  subst hn1 hn2 hy
  intro W h
  obtain ⟨p0, p1, p2, p3, p4, p5, p6, p7, p8, p9, p10, p11, p12⟩ := p
  refine (build_gram (h1.below h).rd h1.le (h2.below h).rd h2.le b1 b2 hk he).mono ?_
  rintro e w' ⟨v, rfl, hr, hb⟩
  exact told_at h ⟨v, rfl, hr, hb⟩

set_option maxHeartbeats 2000000 in
set_option maxRecDepth 100000 in
theorem known_calls (w : World) : Calls Try.prog 15 #[] w fun e w' => e = .returned (.bool true) ∧ Below w.heap.size w w' := by
  obtain ⟨b, c, d, x, hkb, hpb, hwb, ⟨lb, bb⟩, ⟨hac, hwc, lc, bc⟩, ⟨hnd, hwd, ld, bd_⟩, hwx, hww, lx, bx⟩ := known_facts
  have HKB := Aside0.mk hkb
  have HPB := Aside0.mk hpb
  have HWB := Aside0.mk hwb
  have HAC := Aside0.mk hac
  have HWC := Aside0.mk hwc
  have HND := Aside0.mk hnd
  have HWD := Aside0.mk hwd
  have HWX := Aside0.mk hwx
  have HWW := Aside0.mk hww
  have LB := Aside0.mk (And.intro lb bb)
  have LC := Aside0.mk (And.intro lc bc)
  have LD := Aside0.mk (And.intro ld bd_)
  have LX := Aside0.mk (And.intro lx bx)
  have C0 := Aside0.mk (parse_at (W0 := w) (A0 := none) (c0 := 0) (n := 0) (l := []) ⟨Kd.C_nil _ _, Nat.le_refl _⟩ rfl (by decide) bytes_nil (p := zeroP) (x := 1) rfl)
  clear hkb hpb hwb lb bb hac hwc lc bc hnd hwd ld bd_ hwx hww lx bx
  go_enter Try.func15, Try.ntmps15
  go_upto_region 2 with (first | (go_at_call 19; (with_reducible refine (C0.out _ ?hb).mono ?_); (case hb => (repeat (first | with_reducible assumption | with_reducible exact Below.refl _ _ | with_reducible apply below_alloc | with_reducible apply pw_below_drewN | with_reducible apply below_drew1))); rintro e w1 ⟨A1, c1, A2, c2, rfl, h1, h2, h3, hb1⟩; have HB1 := Aside0.mk hb1; clear h1 h2 h3 hb1))
  generalize hW : World.alloc _ _ = w2
  have HB2 : Aside0 (Below w.heap.size w w2) := Aside0.mk (by rw [← hW]; exact below_alloc HB1.out _)
  clear hW HB1
  go_upto_region 3 with (first | ((with_reducible refine gate_dst (N := 18) rfl ?_); refine Kd.R_lit (Kd.int .u8) (w0 := w) w.heap.size 5 ?hg (N := 18) ?hd (xs := ([6] : List Int)) (inner := [.int .u8 6]) (ok := fun _ => True) (okp := fun _ => True) ?hr ?hp (fun _ hk => hk) trivial HB2.out HB2.out.size (by simp) ?_; (case hd => rfl); (case hg => rfl); (case hr => first | (go_simp; done) | (go_simp; rfl)); (case hp => exact (Reps.one (show Kd.M (Kd.int .u8) _ _ _ 6 [.int .u8 6] from rfl) (Reps.none _ _))); intro v3 w3 ho hb hg hat; have HB3 := Aside0.mk hb; obtain ⟨Al, cl, el⟩ := Kd.R_slice ho; subst el; have HL3 := Aside0.mk (rw_of (l := [6]) ho); have CB := Aside0.mk (buildg_at (W0 := w3) (p := (⟨2, 9, 0, 1, 2, 3, 4, 0, 5, false, 0, [], [6]⟩ : Pk)) (A1 := none) (c1 := 0) (n1 := 0) (n2 := 1) ⟨Kd.C_nil _ _, Nat.le_refl _⟩ HL3.out rfl rfl rfl (by decide) bytes_nil (one_byte (by omega) (by omega)) HKB.out); clear ho hb hg hat) | (go_at_call 17; (with_reducible refine (CB.out _ ?hb).mono ?_); (case hb => (repeat (first | with_reducible assumption | with_reducible exact Below.refl _ _ | with_reducible apply below_alloc | with_reducible apply pw_below_drewN | with_reducible apply below_drew1))); rintro e w4 ⟨Ab, cb, rfl, hr, hb4⟩; have HB4 := Aside0.mk (below_step HB3.out hb4); have RB4 := Aside0.mk (rw_of hr); clear hr hb4))
  have C1 := Aside0.mk (parse_at (W0 := w4) RB4.out rfl LB.out.1 LB.out.2 HPB.out)
  go_upto_region 4 with (first | (go_at_call 19; (with_reducible refine (C1.out _ ?hb).mono ?_); (case hb => (repeat (first | with_reducible assumption | with_reducible exact Below.refl _ _ | with_reducible apply below_alloc | with_reducible apply pw_below_drewN | with_reducible apply below_drew1))); rintro e w5 ⟨A3, c3, A4, c4, rfl, h1, h2, h3, hb5⟩; have hb6 := below_alloc hb5 (.cells #[.int .i64 2, .int .i64 9, .int .i64 0, .int .i64 1, .int .i64 2, .int .i64 3, .int .i64 4, .int .i64 0, .int .i64 5, .bool false, .int .i64 0, .slice A3 0 c3, .slice A4 1 c4] 26); have hz6 := new_blk w5 (.cells #[.int .i64 2, .int .i64 9, .int .i64 0, .int .i64 1, .int .i64 2, .int .i64 3, .int .i64 4, .int .i64 0, .int .i64 5, .bool false, .int .i64 0, .slice A3 0 c3, .slice A4 1 c4] 26); have HB5 := Aside0.mk hb6; have HZ5 := Aside0.mk hz6; clear h1 h2 h3 hb5 hb6 hz6))
  change Code.wp _ _ _ _ (w5.alloc (.cells #[.int .i64 2, .int .i64 9, .int .i64 0, .int .i64 1, .int .i64 2, .int .i64 3, .int .i64 4, .int .i64 0, .int .i64 5, .bool false, .int .i64 0, .slice A3 0 c3, .slice A4 1 c4] 26))
  generalize w5.alloc (.cells #[.int .i64 2, .int .i64 9, .int .i64 0, .int .i64 1, .int .i64 2, .int .i64 3, .int .i64 4, .int .i64 0, .int .i64 5, .bool false, .int .i64 0, .slice A3 0 c3, .slice A4 1 c4] 26) = w6 at HB5 HZ5 ⊢
  have RB6 := Aside0.mk (RB4.out.below HB5.out)
  have HB6 := Aside0.mk (below_step HB4.out HB5.out)
  clear RB4 HB4 HB5
  have C2 := Aside0.mk (age_at (W0 := w6) RB6.out rfl LB.out.1 LB.out.2 HAC.out)
  go_upto_region 5 with (first | (go_at_call 30; (with_reducible refine (C2.out _ ?hb).mono ?_); (case hb => (repeat (first | with_reducible assumption | with_reducible exact Below.refl _ _ | with_reducible apply below_alloc | with_reducible apply pw_below_drewN | with_reducible apply below_drew1))); rintro e w7 ⟨Ac, cc, rfl, hr, hb7⟩; have HB7 := Aside0.mk (below_step HB6.out hb7); have RC7 := Aside0.mk (rw_of hr); have RB7 := Aside0.mk (RB6.out.below hb7); have HZ7 := Aside0.mk ((hb7.block _ (blk_lt HZ5.out)).trans HZ5.out); clear hr hb7))
  have C3 := Aside0.mk (nat_at (W0 := w7) RB7.out rfl LB.out.1 LB.out.2 false 7 8 HND.out)
  go_upto_region 6 with (first | (go_at_call 28; (with_reducible refine (C3.out _ ?hb).mono ?_); (case hb => (repeat (first | with_reducible assumption | with_reducible exact Below.refl _ _ | with_reducible apply below_alloc | with_reducible apply pw_below_drewN | with_reducible apply below_drew1))); rintro e w8 ⟨Ad, cd, rfl, hr, hb8⟩; have HB8 := Aside0.mk (below_step HB7.out hb8); have RD8 := Aside0.mk (rw_of hr); have RB8 := Aside0.mk (RB7.out.below hb8); have RC8 := Aside0.mk (RC7.out.below hb8); have HZ8 := Aside0.mk ((hb8.block _ (blk_lt HZ7.out)).trans HZ7.out); clear hr hb8))
  have C4 := Aside0.mk (write_at (W0 := w8) RB8.out rfl LB.out.1 LB.out.2 20 2 77 HWX.out)
  go_upto_region 7 with (first | (go_at_call 26; (with_reducible refine (C4.out _ ?hb).mono ?_); (case hb => (repeat (first | with_reducible assumption | with_reducible exact Below.refl _ _ | with_reducible apply below_alloc | with_reducible apply pw_below_drewN | with_reducible apply below_drew1))); rintro e w9 ⟨Ax, cx, rfl, hr, hb9⟩; have HB9 := Aside0.mk (below_step HB8.out hb9); have RX9 := Aside0.mk (rw_of hr); have RB9 := Aside0.mk (RB8.out.below hb9); have RC9 := Aside0.mk (RC8.out.below hb9); have RD9 := Aside0.mk (RD8.out.below hb9); have HZ9 := Aside0.mk ((hb9.block _ (blk_lt HZ8.out)).trans HZ8.out); clear hr hb9))
  have k8 := (c13 HZ9.out).2.2.2.2.2.2.2.2.1
  have W1 := Aside0.mk (whole_at (W0 := w9) RB9.out rfl LB.out.1 LB.out.2 HWB.out)
  have W2 := Aside0.mk (whole_at (W0 := w9) RC9.out rfl LC.out.1 LC.out.2 HWC.out)
  have W3 := Aside0.mk (whole_at (W0 := w9) RD9.out rfl LD.out.1 LD.out.2 HWD.out)
  have W4 := Aside0.mk (whole_at (W0 := w9) RX9.out rfl LX.out.1 LX.out.2 HWW.out)
  go_wp2_with (first | (go_at_call 21; (with_reducible refine (W1.out _ ?hb).mono ?_); (case hb => (repeat (first | with_reducible assumption | with_reducible exact Below.refl _ _ | with_reducible apply below_alloc | with_reducible apply pw_below_drewN | with_reducible apply below_drew1))); rintro e x1 ⟨rfl, hx1⟩) | (go_at_call 21; (with_reducible refine (W2.out _ ?hb).mono ?_); (case hb => (repeat (first | with_reducible assumption | with_reducible exact Below.refl _ _ | with_reducible apply below_alloc | with_reducible apply pw_below_drewN | with_reducible apply below_drew1))); rintro e x2 ⟨rfl, hx2⟩) | (go_at_call 21; (with_reducible refine (W3.out _ ?hb).mono ?_); (case hb => (repeat (first | with_reducible assumption | with_reducible exact Below.refl _ _ | with_reducible apply below_alloc | with_reducible apply pw_below_drewN | with_reducible apply below_drew1))); rintro e x3 ⟨rfl, hx3⟩) | (go_at_call 21; (with_reducible refine (W4.out _ ?hb).mono ?_); (case hb => (repeat (first | with_reducible assumption | with_reducible exact Below.refl _ _ | with_reducible apply below_alloc | with_reducible apply pw_below_drewN | with_reducible apply below_drew1))); rintro e x4 ⟨rfl, hx4⟩))
  go_ret
  exact ⟨by simp, below_step HB9.out (by repeat (first | with_reducible assumption | with_reducible exact Below.refl _ _ | with_reducible apply below_alloc | with_reducible apply pw_below_drewN | with_reducible apply below_drew1))⟩
end Go.Proofs.Ytbjhmifhmojaoaa.WB

namespace Go.Proofs.Ytbjhmifhmojaoaa.WB
set_option linter.unusedVariables false
set_option linter.unusedSimpArgs false
open Go.RowKit Go.Proofs.Ytbjhmifhmojaoaa.Hp Go.Proofs.Ytbjhmifhmojaoaa.SB Go.Proofs.YtbjhmifhmojaoaaW.PrintWords Go.Proofs.YtbjhmifhmojaoaaW.PrintLast Go.Proofs.YtbjhmifhmojaoaaW.PrintMore

/-- Bytes with other numbers in their head and in their ports are the packet with these numbers. -/
theorem pkL_congr {l m : List Int} (ol : Ok l) (hl : m.length = l.length) (h3 : l.getD 0 0 ≠ 3) (h0 : m.getD 0 0 = l.getD 0 0) {frm dst fp tp : Int} (h1 : m.getD 1 0 = l.getD 1 0) (h12 : m.getD 12 0 = l.getD 12 0) (hf : numL m 4 4 = frm) (hd : numL m 8 4 = dst) (hfp : numL m 16 2 = fp) (htp : numL m 18 2 = tp) (h20 : m.getD 20 0 = l.getD 20 0) (h21 : m.getD 21 0 = l.getD 21 0)
    (hb : bareB m = bareB l) (hr : ∀ j, 24 ≤ j → m.getD j 0 = l.getD j 0) : pkL m = { pkL l with frm := frm, dst := dst, fp := fp, tp := tp } := by
  have er : restS m = restS l := by unfold restS; rw [h21]
  have n20 : numL m 20 2 = numL l 20 2 := by
    rw [num2_pr, num2_pr]
    unfold pr
    rw [h20, show 20 + 1 = 21 from rfl, h21]
  unfold pkL
  rw [h0, if_neg h3, if_neg h3]
  by_cases h2 : l.getD 0 0 = 2
  · rw [if_pos h2, if_pos h2]
    have e22 : (numL m 22 2 == 0) = (numL l 22 2 == 0) := by
      unfold bareB at hb
      rw [h0, h2] at hb
      rw [num2_pr, num2_pr]
      simpa using hb
    rw [h1, h12, hf, hd, hfp, htp, n20, e22, drop_congr hl (fun j hj => hr j hj)]
  · rw [if_neg h2, if_neg h2]
    have h24 : 24 ≤ restS l := by unfold restS; omega
    have ht : (m.take (restS l)).drop 24 = (l.take (restS l)).drop 24 := by
      refine ext_getD (by simp [hl]) fun j hj => ?_
      simp only [List.length_drop, List.length_take] at hj
      rw [getD_drop, getD_drop, getD_take (by omega), getD_take (by omega)]; exact hr _ (by omega)
    rw [h1, h12, hf, hd, hfp, htp, h20, er, ht, drop_congr hl (fun j hj => hr j (by omega))]
theorem nat_pk {l : List Int} (hb : Bytes l) (o : Ok l) (h3 : l.getD 0 0 ≠ 3) {addr port : Int} (a0 : 0 ≤ addr) (a1 : addr ≤ 4294967295) (p0 : 0 ≤ port) (p1 : port ≤ 65535) :
    pkL (natL (bareB l) l 4 16 addr port) = { pkL l with frm := addr, fp := port } ∧ pkL (natL (bareB l) l 8 18 addr port) = { pkL l with dst := addr, tp := port } := by
  have hfr : (pkL l).frm = numL l 4 4 := by unfold pkL; repeat' split
                                            all_goals rfl
  have hds : (pkL l).dst = numL l 8 4 := by unfold pkL; repeat' split
                                            all_goals rfl
  have hfp : (pkL l).fp = numL l 16 2 := by unfold pkL; rw [if_neg h3]; split <;> rfl
  have htp : (pkL l).tp = numL l 18 2 := by unfold pkL; rw [if_neg h3]; split <;> rfl
  constructor
  · obtain ⟨f1, f2, f3, f4, f5, f6, f7, f8⟩ := nat_facts hb o h3 (a := 4) (p := 16) (by omega) a0 a1 p0 p1
    rw [pkL_congr o f1 h3 (f4 0 (by omega) (by omega) (by omega) (by omega)) (f4 1 (by omega) (by omega) (by omega) (by omega)) (f4 12 (by omega) (by omega) (by omega) (by omega)) f5 (numL_congr (m := l) 8 4 (fun j _ _ => f4 j (by omega) (by omega) (by omega) (by omega))) f6 (numL_congr (m := l) 18 2 (fun j _ _ => f4 j (by omega) (by omega) (by omega) (by omega))) (f4 20 (by omega) (by omega) (by omega) (by omega)) (f4 21 (by omega) (by omega) (by omega) (by omega)) f7 (fun j _ => f4 j (by omega) (by omega) (by omega) (by omega)), ← hds, ← htp]
  · obtain ⟨f1, f2, f3, f4, f5, f6, f7, f8⟩ := nat_facts hb o h3 (a := 8) (p := 18) (by omega) a0 a1 p0 p1
    rw [pkL_congr o f1 h3 (f4 0 (by omega) (by omega) (by omega) (by omega)) (f4 1 (by omega) (by omega) (by omega) (by omega)) (f4 12 (by omega) (by omega) (by omega) (by omega)) (numL_congr (m := l) 4 4 (fun j _ _ => f4 j (by omega) (by omega) (by omega) (by omega))) f5 (numL_congr (m := l) 16 2 (fun j _ _ => f4 j (by omega) (by omega) (by omega) (by omega))) f6 (f4 20 (by omega) (by omega) (by omega) (by omega)) (f4 21 (by omega) (by omega) (by omega) (by omega)) f7 (fun j _ => f4 j (by omega) (by omega) (by omega) (by omega)), ← hfr, ← hfp]
/-- A place changed, and changed back. -/
theorem places {p : Pk} {b : List Int} (hE : buildE p = 0) (hc : Canon p) (hb : buildL p = b) (h3 : p.kind ≠ 3) (src : Bool) {addr port : Int} (a0 : 0 ≤ addr) (a1 : addr ≤ 4294967295) (p0 : 0 ≤ port) (p1 : port ≤ 65535) :
    ∃ c d : List Int, natR b src addr port = (c, 0) ∧ (c.length ≤ 10000 ∧ Bytes c) ∧ parseL c = (if src then { p with frm := addr, fp := port } else { p with dst := addr, tp := port }, 0) ∧ wholeL c = true ∧
      natR c src (if src then p.frm else p.dst) (if src then p.fp else p.tp) = (d, 0) ∧ (d.length ≤ 10000 ∧ Bytes d) ∧ parseL d = (p, 0) ∧ wholeL d = true := by
  obtain ⟨o, hp, hw, hl, hy⟩ := parse_build hE hc
  rw [hb] at o hp hw hl hy
  have k0 : b.getD 0 0 ≠ 3 := by rw [← pk_kind o, hp]; exact h3
  obtain ⟨⟨q0, q1⟩, _, _, ⟨f0, f1⟩, ⟨d0, d1⟩, _, _, cp, _⟩ := built_of hE
  obtain ⟨⟨fp0, fp1⟩, tp0, tp1⟩ := cp h3
  have hle := o.le
  cases src with
  | true =>
    obtain ⟨x1, x2, x3, x4, x5, x6, x7, x8⟩ := nat_facts hy o k0 (a := 4) (p := 16) (by omega) a0 a1 p0 p1
    have y := (nat_pk hy o k0 a0 a1 p0 p1).1
    obtain ⟨c, hcc⟩ : ∃ c, c = natL (bareB b) b 4 16 addr port := ⟨_, rfl⟩
    rw [← hcc] at x1 x2 x3 x4 x7 x8 y
    have k0' : c.getD 0 0 ≠ 3 := by rw [x4 0 (by omega) (by omega) (by omega) (by omega)]; exact k0
    obtain ⟨z1, z2, z3, _, _, _, _, z8⟩ := nat_facts x2 x3 k0' (a := 4) (p := 16) (by omega) f0 f1 fp0 fp1
    have zp := (nat_pk x2 x3 k0' f0 f1 fp0 fp1).1
    refine ⟨c, natL (bareB c) c 4 16 p.frm p.fp, by rw [natR_ok o k0 true a0 a1 p0 p1, hcc]; rfl, ⟨by omega, x2⟩, by rw [x3.parse, y, hp]; rfl, by rw [x8, hw], natR_ok x3 k0' true f0 f1 fp0 fp1, ⟨by omega, z2⟩, ?_, by rw [z8, x8, hw]⟩
    rw [z3.parse, zp, y, hp]
  | false =>
    obtain ⟨x1, x2, x3, x4, x5, x6, x7, x8⟩ := nat_facts hy o k0 (a := 8) (p := 18) (by omega) a0 a1 p0 p1
    have y := (nat_pk hy o k0 a0 a1 p0 p1).2
    obtain ⟨c, hcc⟩ : ∃ c, c = natL (bareB b) b 8 18 addr port := ⟨_, rfl⟩
    rw [← hcc] at x1 x2 x3 x4 x7 x8 y
    have k0' : c.getD 0 0 ≠ 3 := by rw [x4 0 (by omega) (by omega) (by omega) (by omega)]; exact k0
    obtain ⟨z1, z2, z3, _, _, _, _, z8⟩ := nat_facts x2 x3 k0' (a := 8) (p := 18) (by omega) d0 d1 tp0 tp1
    have zp := (nat_pk x2 x3 k0' d0 d1 tp0 tp1).2
    refine ⟨c, natL (bareB c) c 8 18 p.dst p.tp, by rw [natR_ok o k0 false a0 a1 p0 p1, hcc]; rfl, ⟨by omega, x2⟩, by rw [x3.parse, y, hp]; rfl, by rw [x8, hw], natR_ok x3 k0' false d0 d1 tp0 tp1, ⟨by omega, z2⟩, ?_, by rw [z8, x8, hw]⟩
    rw [z3.parse, zp, y, hp]
end Go.Proofs.Ytbjhmifhmojaoaa.WB

namespace Go.Proofs.Ytbjhmifhmojaoaa.PL
set_option linter.unusedVariables false
set_option linter.unusedSimpArgs false
open Go.RowKit Go.Proofs.Ytbjhmifhmojaoaa.Hp Go.Proofs.Ytbjhmifhmojaoaa.SB Go.Proofs.YtbjhmifhmojaoaaW.PrintWords Go.Proofs.YtbjhmifhmojaoaaW.PrintLast Go.Proofs.YtbjhmifhmojaoaaW.PrintMore Go.Proofs.Ytbjhmifhmojaoaa.WB

set_option maxHeartbeats 4000000 in
set_option maxRecDepth 100000 in
theorem WireNats_walk (a0 : Int) (a1 : Option Addr) (len1 cap1 : Nat) (z1 : List Int) (a2 : Option Addr) (len2 cap2 : Nat) (z2 : List Int) (a3 : Bool) (a4 : Int) (a5 : Int) (a6 : Option Addr) (len6 cap6 : Nat) (z6 : List Int) (a7 : Int) (a8 : Int) (w : World) (w0 : (Lit.int .i64 a0).wf = true) (w1 : (a1 = none ∧ len1 = 0 ∧ cap1 = 0 ∧ z1 = []) ∨ ∃ x, a1 = some x ∧ len1 ≤ cap1 ∧ cap1 ≤ maxLen ∧ z1.length = cap1 ∧ (∀ j, j < z1.length → w.cell? (x.add j) = some (.int .i64 (z1.getD j 0))) ∧ ∀ n ∈ z1, (Lit.int .i64 n).wf = true) (y1 : len1 * 8 ≤ 140737488351232) (w2 : (a2 = none ∧ len2 = 0 ∧ cap2 = 0 ∧ z2 = []) ∨ ∃ x, a2 = some x ∧ len2 ≤ cap2 ∧ cap2 ≤ maxLen ∧ z2.length = cap2 ∧ (∀ j, j < z2.length → w.cell? (x.add j) = some (.int .u8 (z2.getD j 0))) ∧ ∀ n ∈ z2, (Lit.int .u8 n).wf = true) (y2 : len2 * 1 ≤ 140737488351232) (w4 : (Lit.int .i64 a4).wf = true) (w5 : (Lit.int .i64 a5).wf = true) (w6 : (a6 = none ∧ len6 = 0 ∧ cap6 = 0 ∧ z6 = []) ∨ ∃ x, a6 = some x ∧ len6 ≤ cap6 ∧ cap6 ≤ maxLen ∧ z6.length = cap6 ∧ (∀ j, j < z6.length → w.cell? (x.add j) = some (.int .u8 (z6.getD j 0))) ∧ ∀ n ∈ z6, (Lit.int .u8 n).wf = true) (y6 : len6 * 1 ≤ 140737488351232) (w7 : (Lit.int .i64 a7).wf = true) (w8 : (Lit.int .i64 a8).wf = true) :
    Calls Try.prog 7 #[.int .i64 a0, .slice a1 len1 cap1, .slice a2 len2 cap2, .bool a3, .int .i64 a4, .int .i64 a5, .slice a6 len6 cap6, .int .i64 a7, .int .i64 a8] w fun e w' => e = .returned (.bool true) ∧ Below w.heap.size w w' := by
  have HA0 := Aside0.mk w0
  clear w0
  obtain ⟨ns1, rfl, hr1, hm1, hw1, hc1⟩ := ReadsInt.ofRowC w1
  have HN1 := Aside0.mk (And.intro (show Kd.C (Kd.int .i64) w a1 ns1.length ns1 from Kd.C_of_reads (d := (0 : Int)) (h1 := fun _ => rfl) hr1) hc1)
  have HW1 := Aside0.mk hw1
  have HS1 := Aside0.mk y1
  clear hr1 hm1 hw1 hc1 w1 y1
  obtain ⟨l2, rfl, hr2, hm2, hw2, hc2⟩ := ReadsInt.ofRowC w2
  have HR2 := Aside0.mk (⟨Kd.C_of_reads (d := (0 : Int)) (h1 := fun _ => rfl) hr2, hc2⟩ : Rw w a2 cap2 l2)
  have HY2 := Aside0.mk (bytes_of_wf hw2)
  have HS2 := Aside0.mk y2
  clear hr2 hm2 hw2 hc2 w2 y2
  have HA4 := Aside0.mk w4
  clear w4
  have HA5 := Aside0.mk w5
  clear w5
  obtain ⟨l6, rfl, hr6, hm6, hw6, hc6⟩ := ReadsInt.ofRowC w6
  have HR6 := Aside0.mk (⟨Kd.C_of_reads (d := (0 : Int)) (h1 := fun _ => rfl) hr6, hc6⟩ : Rw w a6 cap6 l6)
  have HY6 := Aside0.mk (bytes_of_wf hw6)
  have HS6 := Aside0.mk y6
  clear hr6 hm6 hw6 hc6 w6 y6
  have HA7 := Aside0.mk w7
  clear w7
  have HA8 := Aside0.mk w8
  clear w8
  by_cases hraw : 200 < l6.length
  · have d0 : decide (200 < (l6.length : Int)) = true := decide_eq_true (by omega)
    have d1 : decide (200 < l6.length) = true := decide_eq_true hraw
    have KN := Aside0.mk (known_calls w)
    clear hraw
    go_enter Try.func7, Try.ntmps7
    go_wp2_with (first | (go_at_call 15; (with_reducible refine KN.out.mono ?_); rintro e w0 ⟨rfl, hb0⟩; have HB0 := Aside0.mk hb0; clear hb0))
    go_ret
    exact ⟨by simp, HB0.out⟩
  have d0 : decide (200 < (l6.length : Int)) = false := decide_eq_false (by omega)
  have d1 : decide (200 < l6.length) = false := decide_eq_false hraw
  have HL6 := Aside0.mk (show l6.length ≤ 200 from by omega)
  clear hraw
  obtain ⟨X, hx⟩ : ∃ X, a4 % 4294967296 = X := ⟨_, rfl⟩
  obtain ⟨Y, hy⟩ : ∃ Y, a5 % 65536 = Y := ⟨_, rfl⟩
  have HX := Aside0.mk hx
  have HYQ := Aside0.mk hy
  clear hx hy
  obtain ⟨p, hp⟩ : ∃ p, makeP a0 ns1 l2 = p := ⟨_, rfl⟩
  have HMK := Aside0.mk (show MkOk p ∧ p.kind = 1 + a0 % 3 from by rw [← hp]; exact makeP_ok a0 HY2.out)
  have HMP := Aside0.mk hp
  have KN := Aside0.mk (known_calls w)
  clear hp
  obtain ⟨b, hbb⟩ : ∃ b, buildL p = b := ⟨_, rfl⟩
  obtain ⟨ob, pb, wb, lb, yb⟩ := parse_build HMK.out.1.e HMK.out.1.c
  rw [hbb] at ob pb wb lb yb
  have HBB := Aside0.mk hbb
  have HPB := Aside0.mk (show parseL b = (p, 0) from by rw [ob.parse, pb])
  have HWB := Aside0.mk wb
  have HOK := Aside0.mk ob
  have HLB := Aside0.mk (show 24 ≤ b.length ∧ b.length ≤ 264 from ⟨ob.h24, by rw [lb]; exact nL_le HMK.out.1⟩)
  have HYB := Aside0.mk yb
  clear hbb ob pb wb lb yb
  go_enter Try.func7, Try.ntmps7
  go_upto_region 5 with (first | (go_at_call 15; (with_reducible refine KN.out.mono ?_); rintro e w0 ⟨rfl, hb0⟩; have HB0 := Aside0.mk hb0; clear hb0))
  have CM := Aside0.mk (make_at (W0 := w0) a0 (Kd.C_below HN1.out.1 HB0.out) rfl HN1.out.2 (by have := HS1.out; omega) (HR2.out.below HB0.out) rfl (by have := HS2.out; omega) HY2.out HMP.out)
  go_upto_region 6 with (first | (go_at_call 16; (with_reducible refine (CM.out _ ?hb).mono ?_); (case hb => (repeat (first | with_reducible assumption | with_reducible exact Below.refl _ _ | with_reducible apply below_alloc | with_reducible apply pw_below_drewN | with_reducible apply below_drew1))); rintro e w1 ⟨A1, c1, A2, c2, rfl, h1, h2, h3, hb1⟩; have HB1 := Aside0.mk (below_step HB0.out hb1); have HO := Aside0.mk (rw_of h1); have HD := Aside0.mk (rw_of h2); have CB := Aside0.mk (rbuild_at (W0 := w1) HO.out HD.out rfl rfl HMK.out.1.e HMK.out.1.c (by have := HMK.out.1.o; omega) (by have := HMK.out.1.d; omega) HBB.out); clear h1 h2 h3 hb1) | (go_at_call 18; (with_reducible refine (CB.out _ ?hb).mono ?_); (case hb => (repeat (first | with_reducible assumption | with_reducible exact Below.refl _ _ | with_reducible apply below_alloc | with_reducible apply pw_below_drewN | with_reducible apply below_drew1))); rintro e w2 ⟨Ab, cb, rfl, hr, hb⟩; have HB := Aside0.mk (below_step HB1.out hb); have HOB := Aside0.mk (Kd.R_lower hr HB1.out.size); have HRB := Aside0.mk (rw_of hr); clear hr hb))
  have HR6 := Aside0.mk (HR6.out.below HB.out)
  clear HOB d0 d1
  go_upto_region 7 with fail
  change Code.wp _ _ _ _ (w2.alloc (.cells #[.slice Ab b.length cb, .slice a6 l6.length cap6] 23))
  have hba := below_alloc (Below.refl w2.heap.size w2) (.cells #[.slice Ab b.length cb, .slice a6 l6.length cap6] 23)
  have HZL := Aside0.mk (new_blk w2 (.cells #[.slice Ab b.length cb, .slice a6 l6.length cap6] 23))
  replace HRB := Aside0.mk (HRB.out.below hba)
  have HRX := Aside0.mk (HR6.out.below hba)
  replace HB := Aside0.mk (below_step HB.out hba)
  obtain ⟨gl, hgl⟩ : ∃ g, w2.heap.size = g := ⟨_, rfl⟩
  rw [hgl] at HZL
  generalize w2.alloc (.cells #[.slice Ab b.length cb, .slice a6 l6.length cap6] 23) = w3 at hba HZL HRB HRX HB ⊢
  clear hba HR6
  rw [hgl]
  clear hgl
  go_wp2
  go_loopg [22] 2 (fun kq v22 w' => ∃ k : Nat, v22 = .int .i64 (k : Int) ∧ Aside (k + kq = 2) ∧ Aside (w'.heap[gl]? = some (.cells #[.slice Ab b.length cb, .slice a6 l6.length cap6] 23 (0, 0))) ∧ Aside (Rw w' Ab cb b) ∧ Aside (Rw w' a6 cap6 l6) ∧ Below w.heap.size w w')
  case atStart =>
    exact ⟨0, rfl, (by show _ = _; omega), HZL.out, HRB.out, HRX.out, HB.out⟩
  case round =>
    obtain ⟨k, rfl, hk, hz, hr1, hr2, hbw⟩ := hrel
    have HK := Aside0.mk hk.out
    replace HZL := Aside0.mk hz.out
    replace HRB := Aside0.mk hr1.out
    replace HRX := Aside0.mk hr2.out
    replace HB := Aside0.mk hbw
    clear hk hz hr1 hr2 hbw
    by_cases hlt : k < 2
    · have e1 : decide ((k : Int) < 2) = true := decide_eq_true (by omega)
      have i1 : (k : Int) < 2 := by omega
      have i2 : k < 2 := hlt
      have HGK := Aside0.mk (show 0 < gk from by have := HK.out; omega)
      obtain ⟨A, c, l, hcl, hrw, hll⟩ : ∃ (A : Option Addr) (c : Nat) (l : List Int), wr.cell? ⟨gl, k, none⟩ = some (.slice A l.length c) ∧ Rw wr A c l ∧ (l.length ≤ 10000 ∧ Bytes l) := by
        have hk2 : k = 0 ∨ k = 1 := by omega
        rcases hk2 with rfl | rfl
        · exact ⟨Ab, cb, b, by simp [World.cell?, HZL.out], HRB.out, by have := HLB.out.2; omega, HYB.out⟩
        · exact ⟨a6, cap6, l6, by simp [World.cell?, HZL.out], HRX.out, by have := HL6.out; omega, HY6.out⟩
      have HCL := Aside0.mk hcl
      have HRW := Aside0.mk hrw
      have HLL := Aside0.mk hll
      obtain ⟨⟨y1, x1⟩, n1⟩ : ∃ r, natR l a3 X Y = r := ⟨_, rfl⟩
      obtain ⟨⟨y2, x2⟩, n2⟩ : ∃ r, natR l a3 a7 a8 = r := ⟨_, rfl⟩
      obtain ⟨⟨y3, x3⟩, n3⟩ : ∃ r, ageR l = r := ⟨_, rfl⟩
      have N1 := Aside0.mk n1
      have N2 := Aside0.mk n2
      have N3 := Aside0.mk n3
      clear hcl hrw hll hlt n1 n2 n3
      have CA := Aside0.mk (withn_at wr a4 (n := 4294967296) (by omega) (by omega) HX.out)
      have CB := Aside0.mk (withn_at wr a5 (n := 65536) (by omega) (by omega) HYQ.out)
      have CN := Aside0.mk (nat_at (W0 := wr) HRW.out rfl HLL.out.1 HLL.out.2 a3 X Y N1.out)
      go_upto_region 10 with fail
      refine start_ (n := 15) (S := fun w' => w'.cell? ⟨gl, k, none⟩ = some (.slice A l.length c)) (ds := []) #[false, false, false, false, false, false, false, false, false, false, false, false, false, false, false] (by kernel_rfl) rfl rfl ((pw_cell_below (Below.refl wr.heap.size wr).drew HCL.out)) (fun hHeld => ?_)
      refine pure_ (i := 0) (N := some 56) (v := ?_) (a' := ?_) #[true, false, false, false, false, false, false, false, false, false, false, false, false, false, false] rfl rfl (by kernel_rfl) (fun _ _ _ h => h) (Or.inl ⟨by rfl, ?_⟩) ?_ ?_
      rotate_left
      · intro w'
        go_simp
        with_reducible rfl
      rotate_left
      · simp only [Act.put, List.setIfInBounds_toArray, List.set_cons_zero, List.set_cons_succ, i64_w, i32_w]
        rfl
      refine pure_ (i := 1) (N := some 57) (v := ?_) (a' := ?_) #[true, true, false, false, false, false, false, false, false, false, false, false, false, false, false] rfl rfl (by kernel_rfl) (fun _ _ _ h => h) (Or.inl ⟨by rfl, ?_⟩) ?_ ?_
      rotate_left
      · intro w'
        go_simp
        with_reducible rfl
      rotate_left
      · simp only [Act.put, List.setIfInBounds_toArray, List.set_cons_zero, List.set_cons_succ, i64_w, i32_w]
        rfl
      refine pure_ (i := 2) (N := some 58) (v := ?_) (a' := ?_) #[true, true, true, false, false, false, false, false, false, false, false, false, false, false, false] rfl rfl (by kernel_rfl) (fun _ _ _ h => h) (Or.inl ⟨by rfl, ?_⟩) ?_ ?_
      rotate_left
      · intro w'
        go_simp
        with_reducible rfl
      rotate_left
      · simp only [Act.put, List.setIfInBounds_toArray, List.set_cons_zero, List.set_cons_succ, i64_w, i32_w]
        rfl
      refine pure_ (i := 4) (N := some 60) (v := ?_) (a' := ?_) #[true, true, true, false, true, false, false, false, false, false, false, false, false, false, false] rfl rfl (by kernel_rfl) (fun _ _ _ h => h) (Or.inl ⟨by rfl, ?_⟩) ?_ ?_
      rotate_left
      · intro w'
        go_simp
        with_reducible rfl
      rotate_left
      · simp only [Act.put, List.setIfInBounds_toArray, List.set_cons_zero, List.set_cons_succ, i64_w, i32_w]
        rfl
      refine pure_ (i := 5) (N := some 61) (v := ?_) (a' := ?_) #[true, true, true, false, true, true, false, false, false, false, false, false, false, false, false] rfl rfl (by kernel_rfl) (fun _ _ _ h => h) (Or.inl ⟨by rfl, ?_⟩) ?_ ?_
      rotate_left
      · intro w'
        go_simp
        with_reducible rfl
      rotate_left
      · simp only [Act.put, List.setIfInBounds_toArray, List.set_cons_zero, List.set_cons_succ, i64_w, i32_w]
        rfl
      refine pure_ (i := 7) (N := some 63) (v := ?_) (a' := ?_) #[true, true, true, false, true, true, false, true, false, false, false, false, false, false, false] rfl rfl (by kernel_rfl) (fun _ _ _ h => h) (Or.inl ⟨by rfl, ?_⟩) ?_ ?_
      rotate_left
      · intro w'
        go_simp
        with_reducible rfl
      rotate_left
      · simp only [Act.put, List.setIfInBounds_toArray, List.set_cons_zero, List.set_cons_succ, i64_w, i32_w]
        rfl
      refine take_ (i := 3) (N := some 59) (v := ?_) (a' := ?_) #[true, true, true, true, true, true, false, true, false, false, false, false, false, false, false] rfl rfl (by kernel_rfl) (fun _ _ _ h => h) (Or.inl ⟨by rfl, ?_⟩) hHeld ?_ ?_
      rotate_left
      · intro w' s0
        go_simp
        with_reducible rfl
      rotate_left
      · simp only [Act.put, List.setIfInBounds_toArray, List.set_cons_zero, List.set_cons_succ, i64_w, i32_w]
        rfl
      refine one_ (i := 6) (N := some 62) #[true, true, true, true, true, true, true, true, false, false, false, false, false, false, false] rfl rfl (by kernel_rfl) (by decide) (fun K hK => ?_)
      refine goes_ Try.func22 (by kernel_rfl) rfl #[.int .i64 a4, .int .i64 4294967296] (by rfl) rfl rfl (by simp only [List.map_toArray, List.map_cons, List.map_nil]; rfl) ?_
      with_reducible refine (CA.out _ (by repeat (first | with_reducible assumption | with_reducible exact Below.refl _ _ | with_reducible apply below_alloc | with_reducible apply pw_below_drewN | with_reducible apply below_drew1))).mono ?_
      rintro e x1 ⟨rfl, hx1⟩
      refine ⟨_, rfl, ?_⟩
      refine hK.out _ _ ((pw_cell_below hx1 HCL.out)) (fun hHeld => ?_)
      clear hK K
      refine norm_ (a' := ?_) ?_ ?_
      rotate_left
      · show Act.put _ (some 62) _ = _
        simp only [Act.put, List.setIfInBounds_toArray, List.set_cons_zero, List.set_cons_succ, i64_w, i32_w]
        rfl
      refine one_ (i := 8) (N := some 64) #[true, true, true, true, true, true, true, true, true, false, false, false, false, false, false] rfl rfl (by kernel_rfl) (by decide) (fun K hK => ?_)
      refine goes_ Try.func22 (by kernel_rfl) rfl #[.int .i64 a5, .int .i64 65536] (by rfl) rfl rfl (by simp only [List.map_toArray, List.map_cons, List.map_nil]; rfl) ?_
      with_reducible refine (CB.out _ (by repeat (first | with_reducible assumption | with_reducible exact Below.refl _ _ | with_reducible apply below_alloc | with_reducible apply pw_below_drewN | with_reducible apply below_drew1))).mono ?_
      rintro e x2 ⟨rfl, hx2⟩
      refine ⟨_, rfl, ?_⟩
      refine hK.out _ _ ((pw_cell_below hx2 HCL.out)) (fun hHeld => ?_)
      clear hK K
      refine norm_ (a' := ?_) ?_ ?_
      rotate_left
      · show Act.put _ (some 64) _ = _
        simp only [Act.put, List.setIfInBounds_toArray, List.set_cons_zero, List.set_cons_succ, i64_w, i32_w]
        rfl
      refine one_ (i := 9) (N := some 65) #[true, true, true, true, true, true, true, true, true, true, false, false, false, false, false] rfl rfl (by kernel_rfl) (by decide) (fun K hK => ?_)
      refine goes_ Try.func28 (by kernel_rfl) rfl #[.slice A l.length c, .bool a3, .int .i64 X, .int .i64 Y] (by rfl) rfl rfl (by simp only [List.map_toArray, List.map_cons, List.map_nil]; rfl) ?_
      with_reducible refine (CN.out _ (by repeat (first | with_reducible assumption | with_reducible exact Below.refl _ _ | with_reducible apply below_alloc | with_reducible apply pw_below_drewN | with_reducible apply below_drew1))).mono ?_
      rintro e w710 ⟨B1, d1, rfl, hr, hb⟩
      refine ⟨_, rfl, ?_⟩
      refine hK.out _ _ ((pw_cell_below hb HCL.out)) (fun hHeld => ?_)
      clear hK K
      refine norm_ (a' := ?_) ?_ ?_
      rotate_left
      · show Act.put _ (some 65) _ = _
        simp only [Act.put, List.setIfInBounds_toArray, List.set_cons_zero, List.set_cons_succ, i64_w, i32_w]
        rfl
      refine pure_ (i := 10) (N := some 55) (v := ?_) (a' := ?_) #[true, true, true, true, true, true, true, true, true, true, true, false, false, false, false] rfl rfl (by kernel_rfl) (fun _ _ _ h => h) (Or.inl ⟨by rfl, ?_⟩) ?_ ?_
      rotate_left
      · intro w'
        go_simp
        with_reducible rfl
      rotate_left
      · simp only [Act.put, List.setIfInBounds_toArray, List.set_cons_zero, List.set_cons_succ, i64_w, i32_w]
        rfl
      refine pure_ (i := 11) (N := some 66) (v := ?_) (a' := ?_) #[true, true, true, true, true, true, true, true, true, true, true, true, false, false, false] rfl rfl (by kernel_rfl) (fun _ _ _ h => h) (Or.inl ⟨by rfl, ?_⟩) ?_ ?_
      rotate_left
      · intro w'
        go_simp
        with_reducible rfl
      rotate_left
      · simp only [Act.put, List.setIfInBounds_toArray, List.set_cons_zero, List.set_cons_succ, i64_w, i32_w]
        rfl
      refine pure_ (i := 12) (N := some 67) (v := ?_) (a' := ?_) #[true, true, true, true, true, true, true, true, true, true, true, true, true, false, false] rfl rfl (by kernel_rfl) (fun _ _ _ h => h) (Or.inl ⟨by rfl, ?_⟩) ?_ ?_
      rotate_left
      · intro w'
        go_simp
        with_reducible rfl
      rotate_left
      · simp only [Act.put, List.setIfInBounds_toArray, List.set_cons_zero, List.set_cons_succ, i64_w, i32_w]
        rfl
      refine pure_ (i := 13) (N := some 23) (v := ?_) (a' := ?_) #[true, true, true, true, true, true, true, true, true, true, true, true, true, true, false] rfl rfl (by kernel_rfl) (fun _ _ _ h => h) (Or.inl ⟨by rfl, ?_⟩) ?_ ?_
      rotate_left
      · intro w'
        go_simp
        with_reducible rfl
      rotate_left
      · simp only [Act.put, List.setIfInBounds_toArray, List.set_cons_zero, List.set_cons_succ, i64_w, i32_w]
        rfl
      refine pure_ (i := 14) (N := some 24) (v := ?_) (a' := ?_) #[true, true, true, true, true, true, true, true, true, true, true, true, true, true, true] rfl rfl (by kernel_rfl) (fun _ _ _ h => h) (Or.inl ⟨by rfl, ?_⟩) ?_ ?_
      rotate_left
      · intro w'
        go_simp
        with_reducible rfl
      rotate_left
      · simp only [Act.put, List.setIfInBounds_toArray, List.set_cons_zero, List.set_cons_succ, i64_w, i32_w]
        rfl
      refine done_ (by kernel_rfl) ?_
      have R1 := Aside0.mk (rw_of hr)
      replace HRB := Aside0.mk (HRB.out.below hb)
      replace HRX := Aside0.mk (HRX.out.below hb)
      replace HRW := Aside0.mk (HRW.out.below hb)
      replace HZL := Aside0.mk ((hb.block _ (WB.blk_lt HZL.out)).trans HZL.out)
      replace HCL := Aside0.mk (pw_cell_below hb HCL.out)
      replace HB := Aside0.mk (below_step HB.out hb)
      clear hr hb hx1 hx2 hHeld CA CB CN
      have CA := Aside0.mk (withn_at w710 a4 (n := 4294967296) (by omega) (by omega) HX.out)
      have CB := Aside0.mk (withn_at w710 a5 (n := 65536) (by omega) (by omega) HYQ.out)
      have CN := Aside0.mk (rnat_at (W0 := w710) HRW.out rfl HLL.out.1 HLL.out.2 a3 X Y N1.out)
      go_upto_region 11 with fail
      refine start_ (n := 15) (S := fun w' => w'.cell? ⟨gl, k, none⟩ = some (.slice A l.length c)) (ds := []) #[false, false, false, false, false, false, false, false, false, false, false, false, false, false, false] (by kernel_rfl) rfl rfl ((pw_cell_below (Below.refl w710.heap.size w710).drew HCL.out)) (fun hHeld => ?_)
      refine pure_ (i := 0) (N := some 69) (v := ?_) (a' := ?_) #[true, false, false, false, false, false, false, false, false, false, false, false, false, false, false] rfl rfl (by kernel_rfl) (fun _ _ _ h => h) (Or.inl ⟨by rfl, ?_⟩) ?_ ?_
      rotate_left
      · intro w'
        go_simp
        with_reducible rfl
      rotate_left
      · simp only [Act.put, List.setIfInBounds_toArray, List.set_cons_zero, List.set_cons_succ, i64_w, i32_w]
        rfl
      refine pure_ (i := 1) (N := some 70) (v := ?_) (a' := ?_) #[true, true, false, false, false, false, false, false, false, false, false, false, false, false, false] rfl rfl (by kernel_rfl) (fun _ _ _ h => h) (Or.inl ⟨by rfl, ?_⟩) ?_ ?_
      rotate_left
      · intro w'
        go_simp
        with_reducible rfl
      rotate_left
      · simp only [Act.put, List.setIfInBounds_toArray, List.set_cons_zero, List.set_cons_succ, i64_w, i32_w]
        rfl
      refine pure_ (i := 2) (N := some 71) (v := ?_) (a' := ?_) #[true, true, true, false, false, false, false, false, false, false, false, false, false, false, false] rfl rfl (by kernel_rfl) (fun _ _ _ h => h) (Or.inl ⟨by rfl, ?_⟩) ?_ ?_
      rotate_left
      · intro w'
        go_simp
        with_reducible rfl
      rotate_left
      · simp only [Act.put, List.setIfInBounds_toArray, List.set_cons_zero, List.set_cons_succ, i64_w, i32_w]
        rfl
      refine pure_ (i := 4) (N := some 73) (v := ?_) (a' := ?_) #[true, true, true, false, true, false, false, false, false, false, false, false, false, false, false] rfl rfl (by kernel_rfl) (fun _ _ _ h => h) (Or.inl ⟨by rfl, ?_⟩) ?_ ?_
      rotate_left
      · intro w'
        go_simp
        with_reducible rfl
      rotate_left
      · simp only [Act.put, List.setIfInBounds_toArray, List.set_cons_zero, List.set_cons_succ, i64_w, i32_w]
        rfl
      refine pure_ (i := 5) (N := some 74) (v := ?_) (a' := ?_) #[true, true, true, false, true, true, false, false, false, false, false, false, false, false, false] rfl rfl (by kernel_rfl) (fun _ _ _ h => h) (Or.inl ⟨by rfl, ?_⟩) ?_ ?_
      rotate_left
      · intro w'
        go_simp
        with_reducible rfl
      rotate_left
      · simp only [Act.put, List.setIfInBounds_toArray, List.set_cons_zero, List.set_cons_succ, i64_w, i32_w]
        rfl
      refine pure_ (i := 7) (N := some 76) (v := ?_) (a' := ?_) #[true, true, true, false, true, true, false, true, false, false, false, false, false, false, false] rfl rfl (by kernel_rfl) (fun _ _ _ h => h) (Or.inl ⟨by rfl, ?_⟩) ?_ ?_
      rotate_left
      · intro w'
        go_simp
        with_reducible rfl
      rotate_left
      · simp only [Act.put, List.setIfInBounds_toArray, List.set_cons_zero, List.set_cons_succ, i64_w, i32_w]
        rfl
      refine take_ (i := 3) (N := some 72) (v := ?_) (a' := ?_) #[true, true, true, true, true, true, false, true, false, false, false, false, false, false, false] rfl rfl (by kernel_rfl) (fun _ _ _ h => h) (Or.inl ⟨by rfl, ?_⟩) hHeld ?_ ?_
      rotate_left
      · intro w' s0
        go_simp
        with_reducible rfl
      rotate_left
      · simp only [Act.put, List.setIfInBounds_toArray, List.set_cons_zero, List.set_cons_succ, i64_w, i32_w]
        rfl
      refine one_ (i := 6) (N := some 75) #[true, true, true, true, true, true, true, true, false, false, false, false, false, false, false] rfl rfl (by kernel_rfl) (by decide) (fun K hK => ?_)
      refine goes_ Try.func22 (by kernel_rfl) rfl #[.int .i64 a4, .int .i64 4294967296] (by rfl) rfl rfl (by simp only [List.map_toArray, List.map_cons, List.map_nil]; rfl) ?_
      with_reducible refine (CA.out _ (by repeat (first | with_reducible assumption | with_reducible exact Below.refl _ _ | with_reducible apply below_alloc | with_reducible apply pw_below_drewN | with_reducible apply below_drew1))).mono ?_
      rintro e x1 ⟨rfl, hx1⟩
      refine ⟨_, rfl, ?_⟩
      refine hK.out _ _ ((pw_cell_below hx1 HCL.out)) (fun hHeld => ?_)
      clear hK K
      refine norm_ (a' := ?_) ?_ ?_
      rotate_left
      · show Act.put _ (some 75) _ = _
        simp only [Act.put, List.setIfInBounds_toArray, List.set_cons_zero, List.set_cons_succ, i64_w, i32_w]
        rfl
      refine one_ (i := 8) (N := some 77) #[true, true, true, true, true, true, true, true, true, false, false, false, false, false, false] rfl rfl (by kernel_rfl) (by decide) (fun K hK => ?_)
      refine goes_ Try.func22 (by kernel_rfl) rfl #[.int .i64 a5, .int .i64 65536] (by rfl) rfl rfl (by simp only [List.map_toArray, List.map_cons, List.map_nil]; rfl) ?_
      with_reducible refine (CB.out _ (by repeat (first | with_reducible assumption | with_reducible exact Below.refl _ _ | with_reducible apply below_alloc | with_reducible apply pw_below_drewN | with_reducible apply below_drew1))).mono ?_
      rintro e x2 ⟨rfl, hx2⟩
      refine ⟨_, rfl, ?_⟩
      refine hK.out _ _ ((pw_cell_below hx2 HCL.out)) (fun hHeld => ?_)
      clear hK K
      refine norm_ (a' := ?_) ?_ ?_
      rotate_left
      · show Act.put _ (some 77) _ = _
        simp only [Act.put, List.setIfInBounds_toArray, List.set_cons_zero, List.set_cons_succ, i64_w, i32_w]
        rfl
      refine one_ (i := 9) (N := some 78) #[true, true, true, true, true, true, true, true, true, true, false, false, false, false, false] rfl rfl (by kernel_rfl) (by decide) (fun K hK => ?_)
      refine goes_ Try.func29 (by kernel_rfl) rfl #[.slice A l.length c, .bool a3, .int .i64 X, .int .i64 Y] (by rfl) rfl rfl (by simp only [List.map_toArray, List.map_cons, List.map_nil]; rfl) ?_
      with_reducible refine (CN.out _ (by repeat (first | with_reducible assumption | with_reducible exact Below.refl _ _ | with_reducible apply below_alloc | with_reducible apply pw_below_drewN | with_reducible apply below_drew1))).mono ?_
      rintro e w711 ⟨B2, d2, rfl, hr, hb⟩
      refine ⟨_, rfl, ?_⟩
      refine hK.out _ _ ((pw_cell_below hb HCL.out)) (fun hHeld => ?_)
      clear hK K
      refine norm_ (a' := ?_) ?_ ?_
      rotate_left
      · show Act.put _ (some 78) _ = _
        simp only [Act.put, List.setIfInBounds_toArray, List.set_cons_zero, List.set_cons_succ, i64_w, i32_w]
        rfl
      refine pure_ (i := 10) (N := some 68) (v := ?_) (a' := ?_) #[true, true, true, true, true, true, true, true, true, true, true, false, false, false, false] rfl rfl (by kernel_rfl) (fun _ _ _ h => h) (Or.inl ⟨by rfl, ?_⟩) ?_ ?_
      rotate_left
      · intro w'
        go_simp
        with_reducible rfl
      rotate_left
      · simp only [Act.put, List.setIfInBounds_toArray, List.set_cons_zero, List.set_cons_succ, i64_w, i32_w]
        rfl
      refine pure_ (i := 11) (N := some 79) (v := ?_) (a' := ?_) #[true, true, true, true, true, true, true, true, true, true, true, true, false, false, false] rfl rfl (by kernel_rfl) (fun _ _ _ h => h) (Or.inl ⟨by rfl, ?_⟩) ?_ ?_
      rotate_left
      · intro w'
        go_simp
        with_reducible rfl
      rotate_left
      · simp only [Act.put, List.setIfInBounds_toArray, List.set_cons_zero, List.set_cons_succ, i64_w, i32_w]
        rfl
      refine pure_ (i := 12) (N := some 80) (v := ?_) (a' := ?_) #[true, true, true, true, true, true, true, true, true, true, true, true, true, false, false] rfl rfl (by kernel_rfl) (fun _ _ _ h => h) (Or.inl ⟨by rfl, ?_⟩) ?_ ?_
      rotate_left
      · intro w'
        go_simp
        with_reducible rfl
      rotate_left
      · simp only [Act.put, List.setIfInBounds_toArray, List.set_cons_zero, List.set_cons_succ, i64_w, i32_w]
        rfl
      refine pure_ (i := 13) (N := some 25) (v := ?_) (a' := ?_) #[true, true, true, true, true, true, true, true, true, true, true, true, true, true, false] rfl rfl (by kernel_rfl) (fun _ _ _ h => h) (Or.inl ⟨by rfl, ?_⟩) ?_ ?_
      rotate_left
      · intro w'
        go_simp
        with_reducible rfl
      rotate_left
      · simp only [Act.put, List.setIfInBounds_toArray, List.set_cons_zero, List.set_cons_succ, i64_w, i32_w]
        rfl
      refine pure_ (i := 14) (N := some 26) (v := ?_) (a' := ?_) #[true, true, true, true, true, true, true, true, true, true, true, true, true, true, true] rfl rfl (by kernel_rfl) (fun _ _ _ h => h) (Or.inl ⟨by rfl, ?_⟩) ?_ ?_
      rotate_left
      · intro w'
        go_simp
        with_reducible rfl
      rotate_left
      · simp only [Act.put, List.setIfInBounds_toArray, List.set_cons_zero, List.set_cons_succ, i64_w, i32_w]
        rfl
      refine done_ (by kernel_rfl) ?_
      have R2 := Aside0.mk (rw_of hr)
      replace HRB := Aside0.mk (HRB.out.below hb)
      replace HRX := Aside0.mk (HRX.out.below hb)
      replace HRW := Aside0.mk (HRW.out.below hb)
      replace R1 := Aside0.mk (R1.out.below hb)
      replace HZL := Aside0.mk ((hb.block _ (WB.blk_lt HZL.out)).trans HZL.out)
      replace HCL := Aside0.mk (pw_cell_below hb HCL.out)
      replace HB := Aside0.mk (below_step HB.out hb)
      clear hr hb hx1 hx2 hHeld CA CB CN
      have hcl := HCL.out
      have C1 := Aside0.mk (nat_at (W0 := w711) HRW.out rfl HLL.out.1 HLL.out.2 a3 a7 a8 N2.out)
      go_upto_region 13 with (first | (go_at_call 28; (with_reducible refine (C1.out _ ?hb).mono ?_); (case hb => (repeat (first | with_reducible assumption | with_reducible exact Below.refl _ _ | with_reducible apply below_alloc | with_reducible apply pw_below_drewN | with_reducible apply below_drew1))); rintro e w_2 ⟨B3, d3, rfl, hr, hb⟩; replace HRB := Aside0.mk (HRB.out.below hb); replace HRX := Aside0.mk (HRX.out.below hb); replace HRW := Aside0.mk (HRW.out.below hb); replace R1 := Aside0.mk (R1.out.below hb); replace R2 := Aside0.mk (R2.out.below hb); replace HZL := Aside0.mk ((hb.block _ (WB.blk_lt HZL.out)).trans HZL.out); replace HCL := Aside0.mk (pw_cell_below hb HCL.out); replace HB := Aside0.mk (below_step HB.out hb); have R3 := Aside0.mk (rw_of hr); clear hr hb))
      clear C1
      clear hcl
      have hcl := HCL.out
      have C3 := Aside0.mk (rnat_at (W0 := w_2) HRW.out rfl HLL.out.1 HLL.out.2 a3 a7 a8 N2.out)
      go_upto_region 14 with (first | (go_at_call 29; (with_reducible refine (C3.out _ ?hb).mono ?_); (case hb => (repeat (first | with_reducible assumption | with_reducible exact Below.refl _ _ | with_reducible apply below_alloc | with_reducible apply pw_below_drewN | with_reducible apply below_drew1))); rintro e w_4 ⟨B4, d4, rfl, hr, hb⟩; replace HRB := Aside0.mk (HRB.out.below hb); replace HRX := Aside0.mk (HRX.out.below hb); replace HRW := Aside0.mk (HRW.out.below hb); replace R1 := Aside0.mk (R1.out.below hb); replace R2 := Aside0.mk (R2.out.below hb); replace R3 := Aside0.mk (R3.out.below hb); replace HZL := Aside0.mk ((hb.block _ (WB.blk_lt HZL.out)).trans HZL.out); replace HCL := Aside0.mk (pw_cell_below hb HCL.out); replace HB := Aside0.mk (below_step HB.out hb); have R4 := Aside0.mk (rw_of hr); clear hr hb))
      clear C3
      clear hcl
      have hcl := HCL.out
      have C5 := Aside0.mk (age_at (W0 := w_4) HRW.out rfl HLL.out.1 HLL.out.2 N3.out)
      go_upto_region 15 with (first | (go_at_call 30; (with_reducible refine (C5.out _ ?hb).mono ?_); (case hb => (repeat (first | with_reducible assumption | with_reducible exact Below.refl _ _ | with_reducible apply below_alloc | with_reducible apply pw_below_drewN | with_reducible apply below_drew1))); rintro e w_6 ⟨B5, d5, rfl, hr, hb⟩; replace HRB := Aside0.mk (HRB.out.below hb); replace HRX := Aside0.mk (HRX.out.below hb); replace HRW := Aside0.mk (HRW.out.below hb); replace R1 := Aside0.mk (R1.out.below hb); replace R2 := Aside0.mk (R2.out.below hb); replace R3 := Aside0.mk (R3.out.below hb); replace R4 := Aside0.mk (R4.out.below hb); replace HZL := Aside0.mk ((hb.block _ (WB.blk_lt HZL.out)).trans HZL.out); replace HCL := Aside0.mk (pw_cell_below hb HCL.out); replace HB := Aside0.mk (below_step HB.out hb); have R5 := Aside0.mk (rw_of hr); clear hr hb))
      clear C5
      clear hcl
      have hcl := HCL.out
      have C7 := Aside0.mk (rage_at (W0 := w_6) HRW.out rfl HLL.out.1 HLL.out.2 N3.out)
      go_upto_region 16 with (first | (go_at_call 31; (with_reducible refine (C7.out _ ?hb).mono ?_); (case hb => (repeat (first | with_reducible assumption | with_reducible exact Below.refl _ _ | with_reducible apply below_alloc | with_reducible apply pw_below_drewN | with_reducible apply below_drew1))); rintro e w_8 ⟨B6, d6, rfl, hr, hb⟩; replace HRB := Aside0.mk (HRB.out.below hb); replace HRX := Aside0.mk (HRX.out.below hb); replace HRW := Aside0.mk (HRW.out.below hb); replace R1 := Aside0.mk (R1.out.below hb); replace R2 := Aside0.mk (R2.out.below hb); replace R3 := Aside0.mk (R3.out.below hb); replace R4 := Aside0.mk (R4.out.below hb); replace R5 := Aside0.mk (R5.out.below hb); replace HZL := Aside0.mk ((hb.block _ (WB.blk_lt HZL.out)).trans HZL.out); replace HCL := Aside0.mk (pw_cell_below hb HCL.out); replace HB := Aside0.mk (below_step HB.out hb); have R6 := Aside0.mk (rw_of hr); clear hr hb))
      clear C7
      clear hcl
      have hcvR1 := Kd.C_string (P := Try.prog) (A := B1) (c := d1) Try.underlying23 Try.underlying5 Try.underlying9 R1.out.rd
      have hcvR2 := Kd.C_string (P := Try.prog) (A := B2) (c := d2) Try.underlying23 Try.underlying5 Try.underlying9 R2.out.rd
      have hcvR3 := Kd.C_string (P := Try.prog) (A := B3) (c := d3) Try.underlying23 Try.underlying5 Try.underlying9 R3.out.rd
      have hcvR4 := Kd.C_string (P := Try.prog) (A := B4) (c := d4) Try.underlying23 Try.underlying5 Try.underlying9 R4.out.rd
      have hcvR5 := Kd.C_string (P := Try.prog) (A := B5) (c := d5) Try.underlying23 Try.underlying5 Try.underlying9 R5.out.rd
      have hcvR6 := Kd.C_string (P := Try.prog) (A := B6) (c := d6) Try.underlying23 Try.underlying5 Try.underlying9 R6.out.rd
      go_wp2
      go_roundg (gk - 1)
      case measure => have := HGK.out; omega
      case rel => exact ⟨k + 1, (by first | rfl | go_num), (by show _ = _; have := HK.out; have := HGK.out; omega), HZL.out, HRB.out, HRX.out, HB.out⟩
    · have e1 : decide ((k : Int) < 2) = false := decide_eq_false (by omega)
      clear hlt
      go_wp2
      go_ret
      exact ⟨by simp, HB.out⟩
end Go.Proofs.Ytbjhmifhmojaoaa.PL
