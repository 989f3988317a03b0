/- Lemmas and contracts that the row YtgkmbefamcnifaaLawTopQuiet goes by (part 7; joined by pack.py out of this session's texts, and of words that the kit's print lays). -/
import Derived.Test.YtgkmbefamcnifaaKT6
import Derived.Laws.CopyOwn
namespace Go.Proofs.Ytgkmbefamcnifaa.WB
set_option linter.unusedVariables false
set_option linter.unusedSimpArgs false
open Go.RowKit Go.Proofs.Ytgkmbefamcnifaa.Hp Go.Proofs.Ytgkmbefamcnifaa.SB Go.Proofs.YtgkmbefamcnifaaW.PrintWords Go.Proofs.YtgkmbefamcnifaaW.PrintLast Go.Proofs.YtgkmbefamcnifaaW.PrintMore
abbrev RB (b : Nat) (w : World) (v : Value) (l : List Int) : Prop := Kd.R (Kd.int .u8) 5 w b (fun _ => True) v l
/-- So many bytes as a number, the first one the greatest. -/
def numL (l : List Int) (i : Nat) : Nat → Int
  | 0 => 0
  | n + 1 => numL l i n * 256 + l.getD (i + n) 0
/-- A number laid as so many bytes. -/
def putL (l : List Int) (i : Nat) : Nat → Int → List Int
  | 0, _ => l
  | n + 1, v => putL (l.set (i + n) (v % 256)) i n (v / 256)
theorem numL_b {l : List Int} (hb : Bytes l) (i : Nat) : ∀ n, 0 ≤ numL l i n ∧ numL l i n < 256 ^ n
  | 0 => by simp [numL]
  | n + 1 => by
    have h := numL_b hb i n
    have b := getD_byte hb (i + n)
    simp only [numL, Int.pow_succ]
    omega
theorem pow_le4 {n : Nat} (h : n ≤ 4) : (256 : Int) ^ n ≤ 4294967296 := by
  match n, h with
  | 0, _ | 1, _ | 2, _ | 3, _ | 4, _ => decide
theorem numL_4 {l : List Int} (hb : Bytes l) (i : Nat) {n : Nat} (h : n ≤ 4) : 0 ≤ numL l i n ∧ numL l i n < 4294967296 := by
  have := numL_b hb i n; have := pow_le4 h; omega
theorem putL_len (i : Nat) : ∀ (n : Nat) (l : List Int) (v : Int), (putL l i n v).length = l.length
  | 0, _, _ => rfl
  | n + 1, l, v => by rw [putL, putL_len i n]; exact List.length_set
theorem putL_bytes (i : Nat) : ∀ (n : Nat) {l : List Int} (v : Int), Bytes l → Bytes (putL l i n v)
  | 0, _, _, h => h
  | n + 1, l, v, h => putL_bytes i n _ (h.set _ (by omega) (by omega))
theorem or_join {x y : Int} (h0 : 0 ≤ x) (h1 : x < 4294967296) (h2 : 0 ≤ y) (h3 : y < 256) : Go.bits .or .i64 (wrap64 (x * 256)) (wrap64 y) = x * 256 + y := by
  rw [wid (by omega) (by omega), wid (by omega) (by omega)]
  exact Go.bits_join .i64 63 (by decide) wrap_i64w 8 _ _ (by omega) (by omega) (by omega) h2 (by omega) (by omega)
theorem get_l0 {l : List Int} (hb : Bytes l) (i n : Nat) (hn : n ≤ 4) (hi : i + n ≤ l.length) : ∀ (k j : Nat), j ≤ n → n + 1 ≤ j + k →
    wire_get.l0 k (numL l i j) ((l.take (i + n)).drop i) (n : Int) (j : Int) = some (numL l i n) := by
  intro k
  induction k with
  | zero => intro j h1 h2; omega
  | succ k ih =>
    intro j hj hk
    have hlen : ((l.take (i + n)).drop i).length = n := by rw [List.length_drop, List.length_take]; omega
    simp only [wire_get.l0]
    by_cases h : j < n
    · have hg : rd ((l.take (i + n)).drop i) (j : Int) = l.getD (i + j) 0 := by
        rw [rd_nat, List.getD_eq_getElem?_getD, List.getD_eq_getElem?_getD, List.getElem?_drop, List.getElem?_take, if_pos (by omega)]
      have b := numL_4 hb i (show j ≤ 4 by omega)
      have b2 := getD_byte hb (i + j)
      rw [if_pos (by omega), if_pos (by omega), if_pos (by omega), hg, or_join b.1 b.2 b2.1 (by omega), wid (n := (j : Int) + 1) (by omega) (by omega)]
      exact ih (j + 1) (by omega) (by omega)
    · rw [if_neg (by omega), show j = n by omega]
theorem get_f {l : List Int} {k : Nat} (hb : Bytes l) (i n : Nat) (hn : n ≤ 4) (hi : i + n ≤ l.length) (hl : l.length ≤ 100000) (hk : 5 ≤ k) : wire_get.f k l i n = some (numL l i n) := by
  unfold wire_get.f
  rw [wid (n := (i : Int) + n) (by omega) (by omega), if_pos (by omega), if_pos (by omega), if_pos (by omega)]
  have hlen : ((l.take (i + n)).drop i).length = n := by rw [List.length_drop, List.length_take]; omega
  rw [show ((i : Int) + n).toNat = i + n by omega, Int.toNat_natCast, hlen]
  exact get_l0 hb i n hn hi k 0 (by omega) (by omega)
theorem put_l0 (i : Nat) : ∀ (n k : Nat) (l : List Int) (v : Int), n + 1 ≤ k → i + n ≤ l.length → l.length ≤ 100000 → wire_put.l0 k l i v ((n : Int) - 1) = some (putL l i n v)
  | 0, 0, _, _, h, _, _ => by omega
  | 0, k + 1, l, v, _, _, _ => by simp only [wire_put.l0, putL]; rw [if_neg (by omega)]
  | n + 1, 0, _, _, h, _, _ => by omega
  | n + 1, k + 1, l, v, h, hi, hl => by
    simp only [wire_put.l0, putL]
    have hw : wrap64 ((i : Int) + (((n + 1 : Nat) : Int) - 1)) = ((i + n : Nat) : Int) := by rw [wid (by omega) (by omega)]; omega
    rw [if_pos (by omega), hw, if_pos (by omega), if_pos (by omega), Int.toNat_natCast, wid (n := (((n + 1 : Nat) : Int) - 1 - 1)) (by omega) (by omega), show (((n + 1 : Nat) : Int) - 1 - 1) = (n : Int) - 1 by omega]
    exact put_l0 i n k _ _ (by omega) (by rw [List.length_set]; omega) (by rw [List.length_set]; omega)
theorem put_f {l : List Int} {k : Nat} (i n : Nat) (v : Int) (hn : n ≤ 4) (hi : i + n ≤ l.length) (hl : l.length ≤ 100000) (hk : 5 ≤ k) : wire_put.f k l i n v = some (putL l i n v) := by
  unfold wire_put.f
  rw [wid (by omega) (by omega)]
  exact put_l0 i n k l v (by omega) hi hl
theorem bd {B : Nat} {a w : World} (h : Below B a w) (n : Nat) : Below B a (w.drewN n) := ⟨h.os, h.tape, h.output, h.size, h.block⟩
theorem get_calls {A : Option Addr} {c n : Nat} {l : List Int} {w : World} (i m : Nat) {iz mz : Int} (hr : Kd.C (Kd.int .u8) w A n l) (hn : l.length = n) (hc : n ≤ c) (hb : Bytes l) (hl : l.length ≤ 100000) (h1 : iz = i) (h2 : mz = m) (hm : m ≤ 4) (hi : i + m ≤ l.length) :
    Calls Try.prog 48 #[.slice A n c, .int .i64 iz, .int .i64 mz] w fun e w' => e = .returned (.int .i64 (numL l i m)) ∧ Drawn0 w w' := by
  subst hn h1 h2
  exact wire_get.calls 5 A c l i m _ w hr hc (get_f hb i m hm hi hl (Nat.le_refl _))
theorem grown_of {w0 w w' : World} {v : Value} (h0 : Below w0.heap.size w0 w) (h1 : Below w0.heap.size w0 w') (hk : Kept w w' (fun k => some k = v.ownBlock)) : w.grownBy w' v.ownBlock :=
  ⟨h1.os.trans h0.os.symm, h1.tape.trans h0.tape.symm, h1.output.trans h0.output.symm, hk.1, fun k hlt hne => hk.2 k hlt hne⟩
theorem put_calls {w0 w : World} {v : Value} {l : List Int} (i m : Nat) (x : Int) {iz mz : Int} (hB : Below w0.heap.size w0 w) (ho : RB w0.heap.size w v l) (hl : l.length ≤ 100000) (h1 : iz = i) (h2 : mz = m) (hm : m ≤ 4) (hi : i + m ≤ l.length) :
    Calls Try.prog 35 #[v, .int .i64 iz, .int .i64 mz, .int .i64 x] w fun e w' => e = .returned (.tuple #[]) ∧ RB w0.heap.size w' v (putL l i m x) ∧ Below w0.heap.size w0 w' ∧ w.grownBy w' v.ownBlock := by
  subst h1 h2
  refine (wire_put.calls 5 (fun k => some k = v.ownBlock) v l i m x _ w0 w hB (Kd.R_tight rfl ho) (put_f i m x hm hi hl (Nat.le_refl _))).mono ?_
  rintro e w' ⟨rfl, h, hb, hk⟩
  exact ⟨rfl, Kd.R_mono h (fun _ _ => trivial), hb, grown_of hB hb hk⟩
/-- clone: bytes of their own. -/
theorem clone_calls {A : Option Addr} {c n : Nat} {l : List Int} {w : World} (hr : Kd.C (Kd.int .u8) w A n l) (hn : l.length = n) (hc : n ≤ c) (hl : l.length ≤ 100000) :
    Calls Try.prog 49 #[.slice A n c] w fun e w' => ∃ v, e = .returned v ∧ RB w.heap.size w' v l ∧ Below w.heap.size w w' := by
  subst hn
  have HR := Aside0.mk hr
  have HC := Aside0.mk hc
  have HL := Aside0.mk hl
  have HB := Aside0.mk (Below.refl w.heap.size w)
  clear hr hc hl
  by_cases h0 : l.length = 0
  · have e0 : l = [] := List.eq_nil_of_length_eq_zero h0
    subst e0
    clear h0
    go_enter Try.func49, Try.ntmps49
    go_wp2
    go_ret
    exact ⟨_, rfl, Kd.R_nil _ _ _ _ _, HB.out⟩
  · have h1 : ((l.length : Int) == 0) = false := beq_eq_false_iff_ne.mpr (by omega)
    have H0 := Aside0.mk h0
    clear h0
    go_enter Try.func49, Try.ntmps49
    go_wp2_with (first
      | ((with_reducible refine gate_dst (N := 9) rfl ?_); refine Kd.R_make (Kd.int .u8) (w0 := w) w.heap.size 5 rfl rfl 23 (.tmp 8) (.tmp 8) rfl (l.length : Int) rfl rfl Try.underlying23 (.int .u8 0) 1 info5 rfl (by decide) (by decide) (0 : Int) (ok := fun _ => True) (okp := fun _ => True) rfl (fun _ h => h) trivial (by omega) (by have := HL.out; omega) HB.out (Nat.le_refl _) ?_; intro v1 w1 ho hb hg hat; have HO := Aside0.mk ho; have HB1 := Aside0.mk hb; clear ho hb hg hat)
      | ((with_reducible refine gate_builtin (b := .copy) (xs := #[.tmp 10, .tmp 11]) rfl ?_); refine Kd.R_copy (enc := Value.int .u8) (h1 := fun _ => rfl) (0 : Int) (w0 := w) w.heap.size rfl (.tmp 10) (.tmp 11) 23 23 5 rfl Try.underlying23 (by kernel_rfl) v1 (List.replicate l.length 0) l A l.length c (fun _ => True) rfl rfl HO.out (Kd.C_below HR.out HB1.out) HB1.out HB1.out.size ?_; intro w2 ho hb hg; have HO2 := Aside0.mk ho; have HB2 := Aside0.mk hb; clear ho hb hg))
    go_ret
    refine ⟨_, rfl, ?_, HB2.out⟩
    have h := HO2.out
    rw [show l.take (min l.length (List.replicate l.length (0 : Int)).length) ++ (List.replicate l.length (0 : Int)).drop (min l.length (List.replicate l.length (0 : Int)).length) = l by simp] at h
    exact h
/-- make([]byte, m, n). -/
theorem R_make_cap {ops : Array Oper} {rest : List Oper} {o : Oper} {a : Act} {Q : Exit → Act → World → Prop} {w0 W : World} (base : Nat) (hgd : o.guard = none) {N : Tmp} (hd : o.dst = some N) (x y : Operand) (ho : o.op = .makeSlice 23 x y) (m n : Nat) (mz nz : Int)
    (hmz : mz = m) (hnz : nz = n) (hx : a.eval x = .int .i64 mz) (hy : a.eval y = .int .i64 nz) (hmn : m ≤ n) (hn : n ≤ 100000) (HB : Below base w0 W) (hbase : base ≤ W.heap.size)
    (h : ∀ v1 w1, RB base w1 v1 (List.replicate m 0) → Below base w0 w1 → W.grownBy w1 none → (∃ b, v1.ownBlock = some b ∧ W.heap.size ≤ b) → wpList Try.prog ops Q rest (a.put o.dst v1) w1) : wpList Try.prog ops Q (o :: rest) a W := by
  subst hmz hnz
  obtain ⟨i0, hi, hzz⟩ := Option.map_eq_some_iff.1 info5
  simp only [Prod.mk.injEq] at hzz
  obtain ⟨hz0, hz1, hz2⟩ := hzz
  have hr := run_make (P := Try.prog) W 23 5 i0 (.int .u8 0) Try.underlying23 hi hz0 .i64 .i64 (m : Int) (n : Int) (by omega) (by omega) (by rw [hz2]; omega) (by omega)
  simp only [Int.toNat_natCast, hz1] at hr
  have hR : RB base (W.alloc (.cells (madeCells (Value.int .u8 0).cells (n * 1)) 5)) (.slice (some ⟨W.heap.size, 0, none⟩) n n) (List.replicate n 0) := by
    refine ⟨fun _ _ => trivial, (madeCells (Value.int .u8 0).cells (n * 1)).toList, ?_, ?_⟩
    · have h2 := World.ownsRow_lit (base := base) (e := 5) (size := 1) W (madeCells (Value.int .u8 0).cells (n * 1)) n hbase (by simp [maxLen]; omega) (by simp [size_madeCells])
      show World.ownsRow _ base 5 1 _ _ _
      simpa using h2
    · exact Kd.reps_made (z := .int .u8 0) (z0 := (0 : Int)) (size := 1) rfl (by decide) rfl n
  have hT := Kd.R_take (m := m) hR (by simp; omega)
  rw [List.take_replicate, Nat.min_eq_left hmn] at hT
  refine Kd.event_run hgd ?_ (h _ _ hT (HB.alloc hbase _) (World.grownBy_alloc W _ none) ⟨W.heap.size, by simp [Value.ownBlock], Nat.le_refl _⟩)
  simp [execOp, ho, hx, hy, hr]
/-- What a body's sum is of. -/
def summedL (l : List Int) : List Int :=
  (if l.getD 0 0 = 3 then [] else (l.take 12).drop 4) ++ [0, l.getD 0 0, ((l.length : Int) - 16) / 256 % 256, ((l.length : Int) - 16) % 256] ++ l.drop 16
theorem rds {w : World} {A : Option Addr} {n : Nat} {l : List Int} (h : Kd.C (Kd.int .u8) w A n l) : ReadsOf (Value.int .u8) (0 : Int) w A n l := Kd.reads_of_C (h1 := fun _ => rfl) h
theorem cOf {w : World} {A : Option Addr} {n : Nat} {l : List Int} (h : ReadsOf (Value.int .u8) (0 : Int) w A n l) : Kd.C (Kd.int .u8) w A n l := Kd.C_of_reads (h1 := fun _ => rfl) h
theorem C_len {w : World} {A : Option Addr} {n : Nat} {l : List Int} (h : Kd.C (Kd.int .u8) w A n l) : l.length = n := (rds h).1
theorem cells_of {w : World} {A : Option Addr} {n : Nat} {l : List Int} (h : Kd.C (Kd.int .u8) w A n l) (h0 : 0 < n) : ∃ ad, A = some ad ∧ ∀ j, j < n → w.cell? (ad.add j) = some (.int .u8 (l.getD j 0)) := (rds h).2.2 h0
/-- b[i:]. -/
theorem cut_from {A : Option Addr} {c n : Nat} {l : List Int} (i m : Nat) {iz : Int} (hi : iz = i) (hm : n - i = m) (hin : i ≤ n) (hn : l.length = n) (hc : n ≤ c) :
    ∃ A' : Option Addr, (∀ W : World, (Instr.slice 23 (.slice A n c) (some (.int .i64 iz)) none none).run Try.prog W = .ok (.slice A' m (c - i)) W) ∧
      (∀ w : World, Kd.C (Kd.int .u8) w A n l → Kd.C (Kd.int .u8) w A' m (l.drop i)) ∧ m ≤ c - i := by
  subst hi hm hn
  obtain ⟨i0, hi0, _, hsz, _⟩ := info_parts info5
  obtain ⟨A', h1, h2, h3⟩ := print_drop_of (P := Try.prog) (Value.int .u8) 0 23 5 .i64 Try.underlying23 hi0 hsz A c l (i : Int) (by omega) (by omega) hc
  simp only [Int.toNat_natCast, List.length_drop] at h1 h2 h3
  exact ⟨A', h1, fun w h => cOf (h2 w (rds h)), h3⟩
/-- b[:j]. -/
theorem cut_to {A : Option Addr} {c n : Nat} {l : List Int} (j : Nat) {jz : Int} (hj : jz = j) (hjn : j ≤ n) (hn : l.length = n) (hc : n ≤ c) :
    (∀ W : World, (Instr.slice 23 (.slice A n c) none (some (.int .i64 jz)) none).run Try.prog W = .ok (.slice A j c) W) ∧
      (∀ w : World, Kd.C (Kd.int .u8) w A n l → Kd.C (Kd.int .u8) w A j (l.take j)) := by
  subst hj hn
  obtain ⟨i0, hi0, _, hsz, _⟩ := info_parts info5
  obtain ⟨h1, h2, h3⟩ := print_take_of (P := Try.prog) (Value.int .u8) 0 23 5 .i64 Try.underlying23 hi0 hsz A c l (j : Int) (by omega) (by omega) hc
  simp only [Int.toNat_natCast, List.length_take, Nat.min_eq_left hjn] at h1 h2 h3
  exact ⟨h1, fun w h => cOf (h2 w (rds h))⟩
/-- b[i:j]. -/
theorem cut_mid {A : Option Addr} {c n : Nat} {l : List Int} (i j m : Nat) {iz jz : Int} (hi : iz = i) (hj : jz = j) (hm : j - i = m) (hij : i ≤ j) (hjn : j ≤ n) (hn : l.length = n) (hc : n ≤ c) :
    ∃ A' : Option Addr, (∀ W : World, (Instr.slice 23 (.slice A n c) (some (.int .i64 iz)) (some (.int .i64 jz)) none).run Try.prog W = .ok (.slice A' m (c - i)) W) ∧
      (∀ w : World, Kd.C (Kd.int .u8) w A n l → Kd.C (Kd.int .u8) w A' m ((l.take j).drop i)) ∧ m ≤ c - i := by
  subst hi hj hm hn
  obtain ⟨i0, hi0, _, hsz, _⟩ := info_parts info5
  obtain ⟨A', h1, h2, h3⟩ := print_mid_of (P := Try.prog) (Value.int .u8) 0 23 5 .i64 .i64 Try.underlying23 hi0 hsz A c l (i : Int) (j : Int) (by omega) (by omega) (by omega) hc
  simp only [Int.toNat_natCast, List.length_drop, List.length_take, Nat.min_eq_left hjn] at h1 h2 h3
  exact ⟨A', h1, fun w h => cOf (h2 w (rds h)), h3⟩
/-- b[i:j:j]. -/
theorem cut3 {A : Option Addr} {c n : Nat} {l : List Int} (i j m : Nat) {iz jz : Int} (hi : iz = i) (hj : jz = j) (hm : j - i = m) (hij : i ≤ j) (hjn : j ≤ n) (hn : l.length = n) (hc : n ≤ c) :
    ∃ A' : Option Addr, (∀ W : World, (Instr.slice 23 (.slice A n c) (some (.int .i64 iz)) (some (.int .i64 jz)) (some (.int .i64 jz))).run Try.prog W = .ok (.slice A' m m) W) ∧
      (∀ w : World, Kd.C (Kd.int .u8) w A n l → Kd.C (Kd.int .u8) w A' m ((l.take j).drop i)) := by
  subst hi hj hm hn
  obtain ⟨i0, hi0, _, hsz, _⟩ := info_parts info5
  have hel : Try.prog.elem 23 = 5 := by simp [Program.elem, Try.underlying23]
  refine ⟨if j = i then A else A.map (·.add i), fun W => ?_, fun w h => ?_⟩
  · have hu : Try.prog.underlying 23 = some (.slice (Try.prog.elem 23)) := by rw [hel]; exact Try.underlying23
    rw [run_slice_lhm W 23 A l.length c hu .i64 .i64 .i64 (i : Int) (j : Int) (j : Int) (by omega) (by omega) (by omega) (by omega), hel]
    simp [sizeOf, typeInfo, hi0, hsz, sliced, Result.andThen]
  · have ht := (rds h).take_ j (by omega)
    have h2 := ht.drop_ (c := j) i (by omega) (Nat.le_refl _)
    exact cOf h2
set_option maxRecDepth 100000 in
/-- summed: what a body's sum is of. -/
theorem summed_calls {A : Option Addr} {c n : Nat} {l : List Int} {w : World} (hr : Kd.C (Kd.int .u8) w A n l) (hn : l.length = n) (hc : n ≤ c) (h : 16 ≤ l.length) (hl : l.length ≤ 10000) (hb : Bytes l) :
    Calls Try.prog 36 #[.slice A n c] w fun e w' => ∃ v, e = .returned v ∧ RB w.heap.size w' v (summedL l) ∧ Below w.heap.size w w' := by
  subst hn
  have HR := Aside0.mk hr
  have HC := Aside0.mk hc
  have HL := Aside0.mk hl
  have HB := Aside0.mk (Below.refl w.heap.size w)
  obtain ⟨ad, rfl, hcell⟩ := cells_of hr (by omega)
  have hx := hcell 0 (by omega)
  rw [Addr.add_zero'] at hx
  have HX := Aside0.mk hx
  have x1 := (getD_byte hb 0)
  have e16 : (0 : Int) < (l.length : Int) := by omega
  obtain ⟨A1, hcut1, hC1, hc1⟩ := cut_mid (A := some ad) (c := c) (l := l) 4 12 8 (iz := 4) (jz := 12) rfl rfl rfl (by omega) (by omega) rfl hc
  obtain ⟨A2, hcut2, hC2, hc2⟩ := cut_from (A := some ad) (c := c) (l := l) 16 (l.length - 16) (iz := 16) rfl rfl (by omega) rfl hc
  have HC1 := Aside0.mk (hC1 w hr)
  have HC2 := Aside0.mk (hC2 w hr)
  have H16 := Aside0.mk h
  clear hC1 hC2 hr hc hl hcell h hc1 hc2 hb
  obtain ⟨x, hxe⟩ : ∃ x, l.getD 0 0 = x := ⟨_, rfl⟩
  rw [hxe] at hx HX x1
  obtain ⟨x0, x2⟩ := x1
  have HXE := Aside0.mk hxe
  clear hxe
  have ew : wrap64 x = x := wid (by omega) (by omega)
  have HN := Aside0.mk (show wrap64 ((l.length : Int) - 16) = (l.length : Int) - 16 from by have := HL.out; exact wid (by omega) (by omega))
  by_cases h3 : x = 3
  · have hb3 : (x == 3) = true := beq_iff_eq.mpr h3
    have H3 := Aside0.mk h3
    clear h3
    go_enter Try.func36, Try.ntmps36
    go_wp2_with (first
      | ((with_reducible refine gate_dst (N := 8) rfl ?_); refine R_make_cap (w0 := w) w.heap.size rfl rfl (.const (.int .i64 0)) (.tmp 7) rfl 0 (l.length + 16) 0 (wrap64 ((l.length : Int) + 16)) rfl (by have := HL.out; rw [wid (by omega) (by omega)]; omega) rfl rfl (by omega) (by have := HL.out; omega) HB.out (Nat.le_refl _) ?_; intro v1 w1 ho hb1 hg hat; have HO := Aside0.mk ho; have HB1 := Aside0.mk hb1; have hx1 := (HB1.out.cell (World.block_lt_of_cell? w _ HX.out)).trans HX.out; clear ho hb1 hg hat)
      | ((with_reducible refine gate_dst (N := 30) rfl ?_); refine Kd.R_lit (Kd.int .u8) (w0 := w) w.heap.size 5 ?hg (N := 30) ?hd (xs := ([0, x, wrap64 ((l.length : Int) - 16) / 256 % 256, wrap64 ((l.length : Int) - 16) % 256] : List Int)) (inner := [.int .u8 0, .int .u8 x, .int .u8 (wrap64 ((l.length : Int) - 16) / 256 % 256), .int .u8 (wrap64 ((l.length : Int) - 16) % 256)]) (ok := fun _ => True) (okp := fun _ => True) ?hr ?hp (fun _ hk => hk) trivial HB1.out HB1.out.size (by simp) ?_; (case hd => rfl); (case hg => rfl); (case hr => first | (go_simp; done) | (go_simp; rfl)); (case hp => exact (Reps.one (show Kd.M (Kd.int .u8) _ _ _ 0 [.int .u8 0] from rfl) (Reps.one (show Kd.M (Kd.int .u8) _ _ _ x [.int .u8 x] from rfl) (Reps.one (show Kd.M (Kd.int .u8) _ _ _ (wrap64 ((l.length : Int) - 16) / 256 % 256) [.int .u8 (wrap64 ((l.length : Int) - 16) / 256 % 256)] from rfl) (Reps.one (show Kd.M (Kd.int .u8) _ _ _ (wrap64 ((l.length : Int) - 16) % 256) [.int .u8 (wrap64 ((l.length : Int) - 16) % 256)] from rfl) (Reps.none _ _)))))); intro v30 w3 ho hb hg hat; have HO3 := Aside0.mk (Kd.R_grown HO.out hg (fun _ _ => by simp)); have HL3 := Aside0.mk ho; have HB3 := Aside0.mk hb; obtain ⟨Al, cl, el⟩ := Kd.R_slice HL3.out; subst el; have HLC := Aside0.mk (Kd.R_reads' HL3.out); clear ho hb hg hat)
      | ((with_reducible refine gate_builtin (b := .append) (xs := #[.tmp 21, .tmp 30]) rfl ?_); at_builtin; refine Kd.R_append_rows (Kd.int .u8) (w0 := w) w.heap.size rfl (.tmp 21) (.tmp 30) 23 5 (.int .u8 0) 1 rfl Try.underlying23 info5 rfl (by decide) (by omega) v1 (List.replicate 0 0) [0, x, wrap64 ((l.length : Int) - 16) / 256 % 256, wrap64 ((l.length : Int) - 16) % 256] Al 4 cl (fun _ => True) (fun _ => False) rfl rfl HO3.out HLC.out.2.2 (fun _ _ h => h) (fun _ h => h.elim) (fun _ _ => trivial) HB3.out HB3.out.size (by have := HL.out; have := H16.out; simp only [List.length_append, List.length_nil, List.length_cons, List.length_drop, List.length_take, List.length_replicate]; omega) ?_; intro v4 w4 ho hb hg hat; have HO5 := Aside0.mk ho; have HB5 := Aside0.mk hb; clear hb ho hg hat)
      | ((with_reducible refine gate_builtin (b := .append) (xs := #[.tmp 32, .tmp 34]) rfl ?_); at_builtin; refine Kd.R_append_rows (Kd.int .u8) (w0 := w) w.heap.size rfl (.tmp 32) (.tmp 34) 23 5 (.int .u8 0) 1 rfl Try.underlying23 info5 rfl (by decide) (by omega) v4 (List.replicate 0 0 ++ [0, x, wrap64 ((l.length : Int) - 16) / 256 % 256, wrap64 ((l.length : Int) - 16) % 256]) (l.drop 16) A2 (l.length - 16) (c - 16) (fun _ => True) (fun _ => False) rfl rfl HO5.out (Kd.C_below HC2.out HB5.out) (fun _ _ h => h) (fun _ h => h.elim) (fun _ _ => trivial) HB5.out HB5.out.size (by have := HL.out; have := H16.out; simp only [List.length_append, List.length_nil, List.length_cons, List.length_drop, List.length_take, List.length_replicate]; omega) ?_; intro v5 w5 ho hb hg hat; have HO4 := Aside0.mk ho; have HB4 := Aside0.mk hb; clear hb ho hg hat))
    go_ret
    refine ⟨_, rfl, ?_, HB4.out⟩
    unfold summedL
    rw [HXE.out, if_pos H3.out, ← HN.out, List.nil_append]
    exact HO4.out
  · have hb3 : (x == 3) = false := beq_eq_false_iff_ne.mpr h3
    have H3 := Aside0.mk h3
    clear h3
    go_enter Try.func36, Try.ntmps36
    go_wp2_with (first
      | ((with_reducible refine gate_dst (N := 8) rfl ?_); refine R_make_cap (w0 := w) w.heap.size rfl rfl (.const (.int .i64 0)) (.tmp 7) rfl 0 (l.length + 16) 0 (wrap64 ((l.length : Int) + 16)) rfl (by have := HL.out; rw [wid (by omega) (by omega)]; omega) rfl rfl (by omega) (by have := HL.out; omega) HB.out (Nat.le_refl _) ?_; intro v1 w1 ho hb1 hg hat; have HO := Aside0.mk ho; have HB1 := Aside0.mk hb1; have hx1 := (HB1.out.cell (World.block_lt_of_cell? w _ HX.out)).trans HX.out; clear ho hb1 hg hat)
      | ((with_reducible refine gate_builtin (b := .append) (xs := #[.tmp 14, .tmp 16]) rfl ?_); at_builtin; refine Kd.R_append_rows (Kd.int .u8) (w0 := w) w.heap.size rfl (.tmp 14) (.tmp 16) 23 5 (.int .u8 0) 1 rfl Try.underlying23 info5 rfl (by decide) (by omega) v1 (List.replicate 0 0) ((l.take 12).drop 4) A1 8 (c - 4) (fun _ => True) (fun _ => False) rfl rfl HO.out (Kd.C_below HC1.out HB1.out) (fun _ _ h => h) (fun _ h => h.elim) (fun _ _ => trivial) HB1.out HB1.out.size (by have := HL.out; have := H16.out; simp only [List.length_append, List.length_nil, List.length_cons, List.length_drop, List.length_take, List.length_replicate]; omega) ?_; intro v2 w2 ho hb hg hat; have HO2 := Aside0.mk ho; have HB2 := Aside0.mk hb; have hx2 := (HB2.out.cell (World.block_lt_of_cell? w _ HX.out)).trans HX.out; clear hb ho hg hat)
      | ((with_reducible refine gate_dst (N := 30) rfl ?_); refine Kd.R_lit (Kd.int .u8) (w0 := w) w.heap.size 5 ?hg (N := 30) ?hd (xs := ([0, x, wrap64 ((l.length : Int) - 16) / 256 % 256, wrap64 ((l.length : Int) - 16) % 256] : List Int)) (inner := [.int .u8 0, .int .u8 x, .int .u8 (wrap64 ((l.length : Int) - 16) / 256 % 256), .int .u8 (wrap64 ((l.length : Int) - 16) % 256)]) (ok := fun _ => True) (okp := fun _ => True) ?hr ?hp (fun _ hk => hk) trivial HB2.out HB2.out.size (by simp) ?_; (case hd => rfl); (case hg => rfl); (case hr => first | (go_simp; done) | (go_simp; rfl)); (case hp => exact (Reps.one (show Kd.M (Kd.int .u8) _ _ _ 0 [.int .u8 0] from rfl) (Reps.one (show Kd.M (Kd.int .u8) _ _ _ x [.int .u8 x] from rfl) (Reps.one (show Kd.M (Kd.int .u8) _ _ _ (wrap64 ((l.length : Int) - 16) / 256 % 256) [.int .u8 (wrap64 ((l.length : Int) - 16) / 256 % 256)] from rfl) (Reps.one (show Kd.M (Kd.int .u8) _ _ _ (wrap64 ((l.length : Int) - 16) % 256) [.int .u8 (wrap64 ((l.length : Int) - 16) % 256)] from rfl) (Reps.none _ _)))))); intro v30 w3 ho hb hg hat; have HO3 := Aside0.mk (Kd.R_grown HO2.out hg (fun _ _ => by simp)); have HL3 := Aside0.mk ho; have HB3 := Aside0.mk hb; obtain ⟨Al, cl, el⟩ := Kd.R_slice HL3.out; subst el; have HLC := Aside0.mk (Kd.R_reads' HL3.out); clear ho hb hg hat)
      | ((with_reducible refine gate_builtin (b := .append) (xs := #[.tmp 21, .tmp 30]) rfl ?_); at_builtin; refine Kd.R_append_rows (Kd.int .u8) (w0 := w) w.heap.size rfl (.tmp 21) (.tmp 30) 23 5 (.int .u8 0) 1 rfl Try.underlying23 info5 rfl (by decide) (by omega) v2 (List.replicate 0 0 ++ (l.take 12).drop 4) [0, x, wrap64 ((l.length : Int) - 16) / 256 % 256, wrap64 ((l.length : Int) - 16) % 256] Al 4 cl (fun _ => True) (fun _ => False) rfl rfl HO3.out HLC.out.2.2 (fun _ _ h => h) (fun _ h => h.elim) (fun _ _ => trivial) HB3.out HB3.out.size (by have := HL.out; have := H16.out; simp only [List.length_append, List.length_nil, List.length_cons, List.length_drop, List.length_take, List.length_replicate]; omega) ?_; intro v4 w4 ho hb hg hat; have HO5 := Aside0.mk ho; have HB5 := Aside0.mk hb; clear hb ho hg hat)
      | ((with_reducible refine gate_builtin (b := .append) (xs := #[.tmp 32, .tmp 34]) rfl ?_); at_builtin; refine Kd.R_append_rows (Kd.int .u8) (w0 := w) w.heap.size rfl (.tmp 32) (.tmp 34) 23 5 (.int .u8 0) 1 rfl Try.underlying23 info5 rfl (by decide) (by omega) v4 (List.replicate 0 0 ++ (l.take 12).drop 4 ++ [0, x, wrap64 ((l.length : Int) - 16) / 256 % 256, wrap64 ((l.length : Int) - 16) % 256]) (l.drop 16) A2 (l.length - 16) (c - 16) (fun _ => True) (fun _ => False) rfl rfl HO5.out (Kd.C_below HC2.out HB5.out) (fun _ _ h => h) (fun _ h => h.elim) (fun _ _ => trivial) HB5.out HB5.out.size (by have := HL.out; have := H16.out; simp only [List.length_append, List.length_nil, List.length_cons, List.length_drop, List.length_take, List.length_replicate]; omega) ?_; intro v5 w5 ho hb hg hat; have HO4 := Aside0.mk ho; have HB4 := Aside0.mk hb; clear hb ho hg hat))
    go_ret
    refine ⟨_, rfl, ?_, HB4.out⟩
    unfold summedL
    rw [HXE.out, if_neg H3.out, ← HN.out]
    exact HO4.out
/-- The error of a packet's head, and of how long it is. -/
def headE (l : List Int) : Int :=
  if l.length < 16 then 1
  else if ¬ (1 ≤ l.getD 0 0 ∧ l.getD 0 0 ≤ 3) then 2
  else if ¬ (numL l 2 2 = (l.length : Int) ∧ l.length ≤ 1500 ∧ l.getD 13 0 = 0) then 3
  else if ¬ fold (pairs (l.take 16)) = 65535 then 4
  else if l.length < 24 ∨ (l.getD 0 0 = 3 ∧ l.length < 44) then 1
  else 0
theorem head_j {l : List Int} {k : Nat} (hb : Bytes l) (h16 : 16 ≤ l.length) (hk : 30 ≤ k) (t : Bool) :
    wire_head.j0 k l t = some (if t = true then 3 else if ¬ fold (pairs (l.take 16)) = 65535 then 4 else if l.length < 24 ∨ (l.getD 0 0 = 3 ∧ l.length < 44) then 1 else 0) := by
  obtain ⟨k, rfl⟩ : ∃ m, k = m + 1 := ⟨k - 1, by omega⟩
  have b0 := getD_byte hb 0
  have lt : (l.take 16).length = 16 := by rw [List.length_take]; omega
  simp only [wire_head.j0]
  by_cases ht : t = true
  · rw [if_pos ht, if_pos ht]
  · rw [if_neg ht, if_neg ht, if_pos (by omega), right_f (by omega) (hb.take 16) (by omega), Option.bind_some, show rd l 0 = l.getD 0 0 from rd_nat l 0, wid (n := l.getD 0 0) (by omega) (by omega)]
    generalize l.getD 0 0 = x at b0 ⊢
    have hp : 0 < (l.length : Int) := by omega
    by_cases hs : fold (pairs (l.take 16)) = 65535
    · by_cases h24 : l.length < 24
      · have h24' : (l.length : Int) < 24 := by omega
        simp [hs, h24, h24']
      · have h24' : ¬ (l.length : Int) < 24 := by omega
        by_cases h3 : x = 3
        · by_cases h44 : l.length < 44
          · have h44' : (l.length : Int) < 44 := by omega
            simp only [hs, h24', h3, h44', hp, h44, beq_self_eq_true, if_true, if_false, not_true, and_self, or_true]
          · have h44' : ¬ (l.length : Int) < 44 := by omega
            simp only [hs, h24, h24', h3, h44', hp, h44, beq_self_eq_true, if_true, if_false, not_true, and_false, or_self]
        · simp only [hs, h24, h24', h3, hp, beq_self_eq_true, if_true, if_false, not_true, false_and, or_self]
    · simp [hs]
theorem head_f {l : List Int} {k : Nat} (hb : Bytes l) (hl : l.length ≤ 100000) (hk : 30 ≤ k) : wire_head.f k l = some (headE l) := by
  have b0 := getD_byte hb 0
  unfold wire_head.f headE
  by_cases h16 : l.length < 16
  · rw [if_pos (by omega), if_pos h16]
  · rw [if_neg (by omega), if_neg h16, if_pos (by omega), show rd l 0 = l.getD 0 0 from rd_nat l 0, wid (n := l.getD 0 0) (by omega) (by omega)]
    unfold wire_known.f
    have hg : wire_get.f k l 2 2 = some (numL l 2 2) := get_f hb 2 2 (by omega) (by omega) hl (by omega)
    have e13 : rd l 13 = l.getD 13 0 := rd_nat l 13
    rw [hg, e13]
    obtain ⟨x, hxe⟩ : ∃ x, l.getD 0 0 = x := ⟨_, rfl⟩
    rw [hxe] at b0 ⊢
    by_cases h1 : x ≥ 1
    · rw [if_pos h1, Option.bind_some]
      by_cases h3 : x ≤ 3
      · rw [if_pos (by simpa using h3), Option.bind_some]
        rw [if_neg (show ¬ ¬ (1 ≤ x ∧ x ≤ 3) from fun h => h ⟨h1, h3⟩)]
        by_cases hn : numL l 2 2 = (l.length : Int)
        · rw [if_pos hn]
          by_cases h15 : l.length ≤ 1500
          · rw [if_neg (show ¬ (l.length : Int) > 1500 by omega), if_pos (show (13 : Int) < (l.length : Int) by omega), head_j hb (by omega) hk]
            by_cases hz : l.getD 13 0 = 0
            · rw [if_neg (show ¬ ¬ (numL l 2 2 = (l.length : Int) ∧ l.length ≤ 1500 ∧ l.getD 13 0 = 0) from fun h => h ⟨hn, h15, hz⟩), if_neg (show ¬ (l.getD 13 0 != 0) = true by simpa using hz)]
              rw [hxe]
            · rw [if_pos (show ¬ (numL l 2 2 = (l.length : Int) ∧ l.length ≤ 1500 ∧ l.getD 13 0 = 0) from fun h => hz h.2.2), if_pos (show (l.getD 13 0 != 0) = true by simpa using hz)]
          · rw [if_pos (show (l.length : Int) > 1500 by omega), head_j hb (by omega) hk, if_pos rfl, if_pos (show ¬ (numL l 2 2 = (l.length : Int) ∧ l.length ≤ 1500 ∧ l.getD 13 0 = 0) from fun h => h15 h.2.1)]
        · rw [if_neg hn, head_j hb (by omega) hk, if_pos rfl, if_pos (show ¬ (numL l 2 2 = (l.length : Int) ∧ l.length ≤ 1500 ∧ l.getD 13 0 = 0) from fun h => hn h.1)]
      · rw [if_neg (by simpa using h3), if_pos (by omega)]
    · rw [if_neg h1, Option.bind_some, if_neg (by simp), if_pos (by omega)]
theorem head_calls {A : Option Addr} {c n : Nat} {l : List Int} {w : World} (hr : Kd.C (Kd.int .u8) w A n l) (hn : l.length = n) (hc : n ≤ c) (hb : Bytes l) (hl : l.length ≤ 100000) :
    Calls Try.prog 47 #[.slice A n c] w fun e w' => e = .returned (.int .i64 (headE l)) ∧ Drawn0 w w' := by
  subst hn
  exact wire_head.calls 30 A c l _ w hr hc (head_f hb hl (Nat.le_refl _))
/-- A packet. -/
structure Pk where
  kind : Int
  life : Int
  piece : Int
  frm : Int
  dst : Int
  fp : Int
  tp : Int
  flags : Int
  label : Int
  bare : Bool
  code : Int
  opts : List Int
  data : List Int
def zeroP : Pk := ⟨0, 0, 0, 0, 0, 0, 0, 0, 0, false, 0, [], []⟩
def pkV (p : Pk) (v1 v2 : Value) : Value :=
  .agg #[.int .i64 p.kind, .int .i64 p.life, .int .i64 p.piece, .int .i64 p.frm, .int .i64 p.dst, .int .i64 p.fp, .int .i64 p.tp, .int .i64 p.flags, .int .i64 p.label, .bool p.bare, .int .i64 p.code, v1, v2]
/-- Where a stream's data begins: behind its options. -/
def restS (l : List Int) : Nat := 24 + (l.getD 21 0).toNat
/-- What Parse answers: a packet, or an error. -/
def parseL (l : List Int) : Pk × Int :=
  if headE l ≠ 0 then (zeroP, headE l)
  else if l.getD 0 0 = 3 then
    if l.getD 17 0 ≠ 0 then (zeroP, 2)
    else (⟨3, l.getD 1 0, l.getD 12 0, numL l 4 4, numL l 8 4, 0, 0, 0, 0, false, l.getD 16 0, [], l.drop 20⟩, 0)
  else if l.getD 0 0 = 2 then
    (⟨2, l.getD 1 0, l.getD 12 0, numL l 4 4, numL l 8 4, numL l 16 2, numL l 18 2, 0, numL l 20 2, numL l 22 2 == 0, 0, [], l.drop 24⟩, 0)
  else if l.getD 20 0 > 15 ∨ l.getD 21 0 > 40 ∨ restS l > l.length then (zeroP, 5)
  else (⟨1, l.getD 1 0, l.getD 12 0, numL l 4 4, numL l 8 4, numL l 16 2, numL l 18 2, l.getD 20 0, 0, false, 0, (l.take (restS l)).drop 24, l.drop (restS l)⟩, 0)
/-- What stands behind Parse's call. -/
def Parsed (w : World) (l : List Int) (e : Ending) (w' : World) : Prop :=
  ∃ v1 v2 : Value, e = .returned (.tuple #[pkV (parseL l).1 v1 v2, .int .i64 (parseL l).2]) ∧ RB w.heap.size w' v1 (parseL l).1.opts ∧ RB w.heap.size w' v2 (parseL l).1.data ∧ (∀ k, v1.ownBlock = some k → v2.ownBlock ≠ some k) ∧ Below w.heap.size w w'
theorem c13 {w : World} {g t : Nat} {a0 a1 a2 a3 a4 a5 a6 a7 a8 a9 a10 a11 a12 : Value} (h : w.heap[g]? = some (.cells #[a0, a1, a2, a3, a4, a5, a6, a7, a8, a9, a10, a11, a12] t (0, 0))) :
    w.cell? ⟨g, 0, none⟩ = some a0 ∧ w.cell? ⟨g, 1, none⟩ = some a1 ∧ w.cell? ⟨g, 2, none⟩ = some a2 ∧ w.cell? ⟨g, 3, none⟩ = some a3 ∧ w.cell? ⟨g, 4, none⟩ = some a4 ∧ w.cell? ⟨g, 5, none⟩ = some a5 ∧ w.cell? ⟨g, 6, none⟩ = some a6 ∧
    w.cell? ⟨g, 7, none⟩ = some a7 ∧ w.cell? ⟨g, 8, none⟩ = some a8 ∧ w.cell? ⟨g, 9, none⟩ = some a9 ∧ w.cell? ⟨g, 10, none⟩ = some a10 ∧ w.cell? ⟨g, 11, none⟩ = some a11 ∧ w.cell? ⟨g, 12, none⟩ = some a12 := by
  simp [World.cell?, h]
theorem f13 {w : World} {g t : Nat} {cs : Array Value} (h : w.heap[g]? = some (.cells cs t (0, 0))) : w.frozen? ⟨g, 0, none⟩ = false ∧ w.frozen? ⟨g, 1, none⟩ = false ∧ w.frozen? ⟨g, 2, none⟩ = false ∧ w.frozen? ⟨g, 3, none⟩ = false ∧ w.frozen? ⟨g, 4, none⟩ = false ∧ w.frozen? ⟨g, 5, none⟩ = false ∧ w.frozen? ⟨g, 6, none⟩ = false ∧ w.frozen? ⟨g, 7, none⟩ = false ∧ w.frozen? ⟨g, 8, none⟩ = false ∧ w.frozen? ⟨g, 9, none⟩ = false ∧ w.frozen? ⟨g, 10, none⟩ = false ∧ w.frozen? ⟨g, 11, none⟩ = false ∧ w.frozen? ⟨g, 12, none⟩ = false := by
  simp [World.frozen?, h]
theorem blk_lt {w : World} {g : Nat} {o : Obj} (h : w.heap[g]? = some o) : g < w.heap.size := by
  rcases Nat.lt_or_ge g w.heap.size with h' | h'
  · exact h'
  · rw [Array.getElem?_eq_none h'] at h; cases h
theorem new_blk (w : World) (o : Obj) : (w.alloc o).heap[w.heap.size]? = some o := by
  show (w.heap.push o)[w.heap.size]? = some o
  simp
theorem set_blk {w : World} {g : Nat} {cs : Array Value} {t : TypeId} (h : w.heap[g]? = some (.cells cs t (0, 0))) (i : Nat) (v : Value) : (w.setCell ⟨g, i, none⟩ v).heap[g]? = some (.cells (cs.setIfInBounds i v) t (0, 0)) := by
  simp [World.setCell, Array.getElem?_modify, h]
/-- A packet laid into its block. -/
def lay13 (w : World) (g : Nat) (v0 v1 v2 v3 v4 v5 v6 v7 v8 v9 v10 v11 v12 : Value) : World := (((((((((((((w.setCell ⟨g, 0, none⟩ v0).setCell ⟨g, 1, none⟩ v1).setCell ⟨g, 2, none⟩ v2).setCell ⟨g, 3, none⟩ v3).setCell ⟨g, 4, none⟩ v4).setCell ⟨g, 5, none⟩ v5).setCell ⟨g, 6, none⟩ v6).setCell ⟨g, 7, none⟩ v7).setCell ⟨g, 8, none⟩ v8).setCell ⟨g, 9, none⟩ v9).setCell ⟨g, 10, none⟩ v10).setCell ⟨g, 11, none⟩ v11).setCell ⟨g, 12, none⟩ v12)
theorem lay13_blk {w : World} {g t : Nat} {cs : Array Value} (h : w.heap[g]? = some (.cells cs t (0, 0))) (hs : cs.size = 13) (v0 v1 v2 v3 v4 v5 v6 v7 v8 v9 v10 v11 v12 : Value) : (lay13 w g v0 v1 v2 v3 v4 v5 v6 v7 v8 v9 v10 v11 v12).heap[g]? = some (.cells #[v0, v1, v2, v3, v4, v5, v6, v7, v8, v9, v10, v11, v12] t (0, 0)) := by
  obtain ⟨cs⟩ := cs
  match cs, hs with
  | [_, _, _, _, _, _, _, _, _, _, _, _, _], _ =>
    unfold lay13
    have := set_blk (set_blk (set_blk (set_blk (set_blk (set_blk (set_blk (set_blk (set_blk (set_blk (set_blk (set_blk (set_blk (h) 0 v0) 1 v1) 2 v2) 3 v3) 4 v4) 5 v5) 6 v6) 7 v7) 8 v8) 9 v9) 10 v10) 11 v11) 12 v12
    simpa using this
theorem lay13_below {B : Nat} {a w : World} {g : Nat} (h : Below B a w) (hg : B ≤ g) (v0 v1 v2 v3 v4 v5 v6 v7 v8 v9 v10 v11 v12 : Value) : Below B a (lay13 w g v0 v1 v2 v3 v4 v5 v6 v7 v8 v9 v10 v11 v12) := by
  unfold lay13
  exact Below.setCell (Below.setCell (Below.setCell (Below.setCell (Below.setCell (Below.setCell (Below.setCell (Below.setCell (Below.setCell (Below.setCell (Below.setCell (Below.setCell (Below.setCell (h) hg _) hg _) hg _) hg _) hg _) hg _) hg _) hg _) hg _) hg _) hg _) hg _) hg _
theorem lay13_far {w : World} {g k : Nat} (hk : k ≠ g) (v0 v1 v2 v3 v4 v5 v6 v7 v8 v9 v10 v11 v12 : Value) : (lay13 w g v0 v1 v2 v3 v4 v5 v6 v7 v8 v9 v10 v11 v12).heap[k]? = w.heap[k]? := by
  unfold lay13
  have f : ∀ (W : World) (i : Nat) (v : Value), (W.setCell ⟨g, i, none⟩ v).heap[k]? = W.heap[k]? := fun W i v => Below.heap_setCell W ⟨g, i, none⟩ v k hk
  rw [f, f, f, f, f, f, f, f, f, f, f, f, f]
theorem RB_move {b b' : Nat} {w w' : World} {v : Value} {l : List Int} (h : RB b w v l) (hb : b' ≤ b) (hm : ∀ k, b ≤ k → k < w.heap.size → w'.heap[k]? = w.heap[k]?) : RB b' w' v l :=
  Kd.R_lower (Kd.R_mono (Kd.R_step (Kd.R_tight rfl h) (fun k hk hlt => hm k (Kd.R_base h k hk.symm) hlt)) (fun _ _ => trivial)) hb
theorem parsed_ok {w w' : World} {l : List Int} {p : Pk} {v1 v2 : Value} (h : parseL l = (p, 0)) (h1 : RB w.heap.size w' v1 p.opts) (h2 : RB w.heap.size w' v2 p.data) (hs : ∀ k, v1.ownBlock = some k → v2.ownBlock ≠ some k) (hb : Below w.heap.size w w') :
    Parsed w l (.returned (.tuple #[pkV p v1 v2, .int .i64 0])) w' :=
  ⟨v1, v2, by rw [h], by rw [h]; exact h1, by rw [h]; exact h2, hs, hb⟩
end Go.Proofs.Ytgkmbefamcnifaa.WB
