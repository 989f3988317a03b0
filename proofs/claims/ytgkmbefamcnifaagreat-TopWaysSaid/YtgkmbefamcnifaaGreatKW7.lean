/- Lemmas and contracts that the row YtgkmbefamcnifaaGreatLawTopWays goes by (part 7; joined by pack.py out of this session's texts, and of words that the kit's print lays). -/
import Derived.Test.YtgkmbefamcnifaaGreatKW6
import Derived.Laws.CopyOwn
set_option maxRecDepth 100000
set_option maxHeartbeats 8000000
namespace Go.Proofs.YtgkmbefamcnifaaGreat.WB
set_option linter.unusedVariables false
set_option linter.unusedSimpArgs false
open Go.RowKit Go.Proofs.YtgkmbefamcnifaaGreat.Hp Go.Proofs.YtgkmbefamcnifaaGreat.SB Go.Proofs.YtgkmbefamcnifaaGreatW.PrintWords Go.Proofs.YtgkmbefamcnifaaGreatW.PrintLast Go.Proofs.YtgkmbefamcnifaaGreatW.PrintMore
abbrev RB (b : Nat) (w : World) (v : Value) (l : List Int) : Prop := Kd.R (Kd.int .u8) 5 w b (fun _ => True) v l
/-- So many bytes as a number, the first one the greatest. -/
def numL (l : List Int) (i : Nat) : Nat → Int
  | 0 => 0
  | n + 1 => numL l i n * 256 + l.getD (i + n) 0
/-- A number laid as so many bytes. -/
def putL (l : List Int) (i : Nat) : Nat → Int → List Int
  | 0, _ => l
  | n + 1, v => putL (l.set (i + n) (v % 256)) i n (v / 256)
theorem numL_b {l : List Int} (hb : Bytes l) (i : Nat) : ∀ n, 0 ≤ numL l i n ∧ numL l i n < 256 ^ n
  | 0 => by simp [numL]
  | n + 1 => by
    have h := numL_b hb i n
    have b := getD_byte hb (i + n)
    simp only [numL, Int.pow_succ]
    omega
theorem pow_le4 {n : Nat} (h : n ≤ 4) : (256 : Int) ^ n ≤ 4294967296 := by
  match n, h with
  | 0, _ | 1, _ | 2, _ | 3, _ | 4, _ => decide
theorem numL_4 {l : List Int} (hb : Bytes l) (i : Nat) {n : Nat} (h : n ≤ 4) : 0 ≤ numL l i n ∧ numL l i n < 4294967296 := by
  have := numL_b hb i n; have := pow_le4 h; omega
theorem putL_len (i : Nat) : ∀ (n : Nat) (l : List Int) (v : Int), (putL l i n v).length = l.length
  | 0, _, _ => rfl
  | n + 1, l, v => by rw [putL, putL_len i n]; exact List.length_set
theorem putL_bytes (i : Nat) : ∀ (n : Nat) {l : List Int} (v : Int), Bytes l → Bytes (putL l i n v)
  | 0, _, _, h => h
  | n + 1, l, v, h => putL_bytes i n _ (h.set _ (by omega) (by omega))
theorem or_join {x y : Int} (h0 : 0 ≤ x) (h1 : x < 4294967296) (h2 : 0 ≤ y) (h3 : y < 256) : Go.bits .or .i64 (wrap64 (x * 256)) (wrap64 y) = x * 256 + y := by
  rw [wid (by omega) (by omega), wid (by omega) (by omega)]
  exact Go.bits_join .i64 63 (by decide) wrap_i64w 8 _ _ (by omega) (by omega) (by omega) h2 (by omega) (by omega)
theorem get_l0 {l : List Int} (hb : Bytes l) (i n : Nat) (hn : n ≤ 4) (hi : i + n ≤ l.length) : ∀ (k j : Nat), j ≤ n → n + 1 ≤ j + k →
    wire_get.l0 k (numL l i j) ((l.take (i + n)).drop i) (n : Int) (j : Int) = some (numL l i n) := by
  intro k
  induction k with
  | zero => intro j h1 h2; omega
  | succ k ih =>
    intro j hj hk
    have hlen : ((l.take (i + n)).drop i).length = n := by rw [List.length_drop, List.length_take]; omega
    simp only [wire_get.l0]
    by_cases h : j < n
    · have hg : rd ((l.take (i + n)).drop i) (j : Int) = l.getD (i + j) 0 := by
        rw [rd_nat, List.getD_eq_getElem?_getD, List.getD_eq_getElem?_getD, List.getElem?_drop, List.getElem?_take, if_pos (by omega)]
      have b := numL_4 hb i (show j ≤ 4 by omega)
      have b2 := getD_byte hb (i + j)
      rw [if_pos (by omega), if_pos (by omega), if_pos (by omega), hg, or_join b.1 b.2 b2.1 (by omega), wid (n := (j : Int) + 1) (by omega) (by omega)]
      exact ih (j + 1) (by omega) (by omega)
    · rw [if_neg (by omega), show j = n by omega]
theorem get_f {l : List Int} {k : Nat} (hb : Bytes l) (i n : Nat) (hn : n ≤ 4) (hi : i + n ≤ l.length) (hl : l.length ≤ 100000) (hk : 5 ≤ k) : wire_get.f k l i n = some (numL l i n) := by
  unfold wire_get.f
  rw [wid (n := (i : Int) + n) (by omega) (by omega), if_pos (by omega), if_pos (by omega), if_pos (by omega)]
  have hlen : ((l.take (i + n)).drop i).length = n := by rw [List.length_drop, List.length_take]; omega
  rw [show ((i : Int) + n).toNat = i + n by omega, Int.toNat_natCast, hlen]
  exact get_l0 hb i n hn hi k 0 (by omega) (by omega)
theorem put_l0 (i : Nat) : ∀ (n k : Nat) (l : List Int) (v : Int), n + 1 ≤ k → i + n ≤ l.length → l.length ≤ 100000 → wire_put.l0 k l i v ((n : Int) - 1) = some (putL l i n v)
  | 0, 0, _, _, h, _, _ => by omega
  | 0, k + 1, l, v, _, _, _ => by simp only [wire_put.l0, putL]; rw [if_neg (by omega)]
  | n + 1, 0, _, _, h, _, _ => by omega
  | n + 1, k + 1, l, v, h, hi, hl => by
    simp only [wire_put.l0, putL]
    have hw : wrap64 ((i : Int) + (((n + 1 : Nat) : Int) - 1)) = ((i + n : Nat) : Int) := by rw [wid (by omega) (by omega)]; omega
    rw [if_pos (by omega), hw, if_pos (by omega), if_pos (by omega), Int.toNat_natCast, wid (n := (((n + 1 : Nat) : Int) - 1 - 1)) (by omega) (by omega), show (((n + 1 : Nat) : Int) - 1 - 1) = (n : Int) - 1 by omega]
    exact put_l0 i n k _ _ (by omega) (by rw [List.length_set]; omega) (by rw [List.length_set]; omega)
theorem put_f {l : List Int} {k : Nat} (i n : Nat) (v : Int) (hn : n ≤ 4) (hi : i + n ≤ l.length) (hl : l.length ≤ 100000) (hk : 5 ≤ k) : wire_put.f k l i n v = some (putL l i n v) := by
  unfold wire_put.f
  rw [wid (by omega) (by omega)]
  exact put_l0 i n k l v (by omega) hi hl
theorem bd {B : Nat} {a w : World} (h : Below B a w) (n : Nat) : Below B a (w.drewN n) := ⟨h.os, h.tape, h.output, h.size, h.block⟩
theorem get_calls {A : Option Addr} {c n : Nat} {l : List Int} {w : World} (i m : Nat) {iz mz : Int} (hr : Kd.C (Kd.int .u8) w A n l) (hn : l.length = n) (hc : n ≤ c) (hb : Bytes l) (hl : l.length ≤ 100000) (h1 : iz = i) (h2 : mz = m) (hm : m ≤ 4) (hi : i + m ≤ l.length) :
    Calls Tryz.prog 74 #[.slice A n c, .int .i64 iz, .int .i64 mz] w fun e w' => e = .returned (.int .i64 (numL l i m)) ∧ Drawn0 w w' := by
  subst hn h1 h2
  exact wire_get.calls 5 A c l i m _ w hr hc (get_f hb i m hm hi hl (Nat.le_refl _))
theorem grown_of {w0 w w' : World} {v : Value} (h0 : Below w0.heap.size w0 w) (h1 : Below w0.heap.size w0 w') (hk : Kept w w' (fun k => some k = v.ownBlock)) : w.grownBy w' v.ownBlock :=
  ⟨h1.os.trans h0.os.symm, h1.tape.trans h0.tape.symm, h1.output.trans h0.output.symm, hk.1, fun k hlt hne => hk.2 k hlt hne⟩
theorem put_calls {w0 w : World} {v : Value} {l : List Int} (i m : Nat) (x : Int) {iz mz : Int} (hB : Below w0.heap.size w0 w) (ho : RB w0.heap.size w v l) (hl : l.length ≤ 100000) (h1 : iz = i) (h2 : mz = m) (hm : m ≤ 4) (hi : i + m ≤ l.length) :
    Calls Tryz.prog 32 #[v, .int .i64 iz, .int .i64 mz, .int .i64 x] w fun e w' => e = .returned (.tuple #[]) ∧ RB w0.heap.size w' v (putL l i m x) ∧ Below w0.heap.size w0 w' ∧ w.grownBy w' v.ownBlock := by
  subst h1 h2
  refine (wire_put.calls 5 (fun k => some k = v.ownBlock) v l i m x _ w0 w hB (Kd.R_tight rfl ho) (put_f i m x hm hi hl (Nat.le_refl _))).mono ?_
  rintro e w' ⟨rfl, h, hb, hk⟩
  exact ⟨rfl, Kd.R_mono h (fun _ _ => trivial), hb, grown_of hB hb hk⟩
/-- clone: bytes of their own. -/
theorem clone_calls {A : Option Addr} {c n : Nat} {l : List Int} {w : World} (hr : Kd.C (Kd.int .u8) w A n l) (hn : l.length = n) (hc : n ≤ c) (hl : l.length ≤ 100000) :
    Calls Tryz.prog 75 #[.slice A n c] w fun e w' => ∃ v, e = .returned v ∧ RB w.heap.size w' v l ∧ Below w.heap.size w w' := by
  subst hn
  have HR := am_ hr
  have HC := am_ hc
  have HL := am_ hl
  have HB := am_ (Below.refl w.heap.size w)
  clear hr hc hl
  by_cases h0 : l.length = 0
  · have e0 : l = [] := List.eq_nil_of_length_eq_zero h0
    subst e0
    clear h0
    go_enter Tryz.func75, Tryz.ntmps75
    go_wp2
    go_ret
    exact ⟨_, rfl, Kd.R_nil _ _ _ _ _, HB.out⟩
  · have h1 : ((l.length : Int) == 0) = false := beq_eq_false_iff_ne.mpr (by omega)
    have H0 := am_ h0
    clear h0
    go_enter Tryz.func75, Tryz.ntmps75
    go_wp2_with (first
      | ((with_reducible refine gate_dst (N := 9) rfl ?_); refine Kd.R_make (Kd.int .u8) (w0 := w) w.heap.size 5 rfl rfl 35 (.tmp 8) (.tmp 8) rfl (l.length : Int) rfl rfl Tryz.underlying35 (.int .u8 0) 1 info5 rfl (by decide) (by decide) (0 : Int) (ok := fun _ => True) (okp := fun _ => True) rfl (fun _ h => h) trivial (by omega) (by have := HL.out; omega) HB.out (Nat.le_refl _) ?_; intro v1 w1 ho hb hg hat; have HO := am_ ho; have HB1 := am_ hb; clear ho hb hg hat)
      | ((with_reducible refine gate_builtin (b := .copy) (xs := #[.tmp 10, .tmp 11]) rfl ?_); refine Kd.R_copy (enc := Value.int .u8) (h1 := fun _ => rfl) (0 : Int) (w0 := w) w.heap.size rfl (.tmp 10) (.tmp 11) 35 35 5 rfl Tryz.underlying35 (by kernel_rfl) v1 (List.replicate l.length 0) l A l.length c (fun _ => True) rfl rfl HO.out (Kd.C_below HR.out HB1.out) HB1.out HB1.out.size ?_; intro w2 ho hb hg; have HO2 := am_ ho; have HB2 := am_ hb; clear ho hb hg))
    go_ret
    refine ⟨_, rfl, ?_, HB2.out⟩
    have h := HO2.out
    rw [show l.take (min l.length (List.replicate l.length (0 : Int)).length) ++ (List.replicate l.length (0 : Int)).drop (min l.length (List.replicate l.length (0 : Int)).length) = l by simp] at h
    exact h
/-- make([]byte, m, n). -/
theorem R_make_cap {ops : Array Oper} {rest : List Oper} {o : Oper} {a : Act} {Q : Exit → Act → World → Prop} {w0 W : World} (base : Nat) (hgd : o.guard = none) {N : Tmp} (hd : o.dst = some N) (x y : Operand) (ho : o.op = .makeSlice 35 x y) (m n : Nat) (mz nz : Int)
    (hmz : mz = m) (hnz : nz = n) (hx : a.eval x = .int .i64 mz) (hy : a.eval y = .int .i64 nz) (hmn : m ≤ n) (hn : n ≤ 100000) (HB : Below base w0 W) (hbase : base ≤ W.heap.size)
    (h : ∀ v1 w1, RB base w1 v1 (List.replicate m 0) → Below base w0 w1 → W.grownBy w1 none → (∃ b, v1.ownBlock = some b ∧ W.heap.size ≤ b) → wpList Tryz.prog ops Q rest (a.put o.dst v1) w1) : wpList Tryz.prog ops Q (o :: rest) a W := by
  subst hmz hnz
  obtain ⟨i0, hi, hzz⟩ := Option.map_eq_some_iff.1 info5
  simp only [Prod.mk.injEq] at hzz
  obtain ⟨hz0, hz1, hz2⟩ := hzz
  have hr := run_make (P := Tryz.prog) W 35 5 i0 (.int .u8 0) Tryz.underlying35 hi hz0 .i64 .i64 (m : Int) (n : Int) (by omega) (by omega) (by rw [hz2]; omega) (by omega)
  simp only [Int.toNat_natCast, hz1] at hr
  have hR : RB base (W.alloc (.cells (madeCells (Value.int .u8 0).cells (n * 1)) 5)) (.slice (some ⟨W.heap.size, 0, none⟩) n n) (List.replicate n 0) := by
    refine ⟨fun _ _ => trivial, (madeCells (Value.int .u8 0).cells (n * 1)).toList, ?_, ?_⟩
    · have h2 := World.ownsRow_lit (base := base) (e := 5) (size := 1) W (madeCells (Value.int .u8 0).cells (n * 1)) n hbase (by simp [maxLen]; omega) (by simp [size_madeCells])
      show World.ownsRow _ base 5 1 _ _ _
      simpa using h2
    · exact Kd.reps_made (z := .int .u8 0) (z0 := (0 : Int)) (size := 1) rfl (by decide) rfl n
  have hT := Kd.R_take (m := m) hR (by simp; omega)
  rw [List.take_replicate, Nat.min_eq_left hmn] at hT
  refine Kd.event_run hgd ?_ (h _ _ hT (HB.alloc hbase _) (World.grownBy_alloc W _ none) ⟨W.heap.size, by simp [Value.ownBlock], Nat.le_refl _⟩)
  simp [execOp, ho, hx, hy, hr]
/-- What a body's sum is of. -/
def summedL (l : List Int) : List Int :=
  (if l.getD 0 0 = 3 then [] else (l.take 12).drop 4) ++ [0, l.getD 0 0, ((l.length : Int) - 16) / 256 % 256, ((l.length : Int) - 16) % 256] ++ l.drop 16
theorem rds {w : World} {A : Option Addr} {n : Nat} {l : List Int} (h : Kd.C (Kd.int .u8) w A n l) : ReadsOf (Value.int .u8) (0 : Int) w A n l := Kd.reads_of_C (h1 := fun _ => rfl) h
theorem cOf {w : World} {A : Option Addr} {n : Nat} {l : List Int} (h : ReadsOf (Value.int .u8) (0 : Int) w A n l) : Kd.C (Kd.int .u8) w A n l := Kd.C_of_reads (h1 := fun _ => rfl) h
theorem C_len {w : World} {A : Option Addr} {n : Nat} {l : List Int} (h : Kd.C (Kd.int .u8) w A n l) : l.length = n := (rds h).1
theorem cells_of {w : World} {A : Option Addr} {n : Nat} {l : List Int} (h : Kd.C (Kd.int .u8) w A n l) (h0 : 0 < n) : ∃ ad, A = some ad ∧ ∀ j, j < n → w.cell? (ad.add j) = some (.int .u8 (l.getD j 0)) := (rds h).2.2 h0
/-- b[i:]. -/
theorem cut_from {A : Option Addr} {c n : Nat} {l : List Int} (i m : Nat) {iz : Int} (hi : iz = i) (hm : n - i = m) (hin : i ≤ n) (hn : l.length = n) (hc : n ≤ c) :
    ∃ A' : Option Addr, (∀ W : World, (Instr.slice 35 (.slice A n c) (some (.int .i64 iz)) none none).run Tryz.prog W = .ok (.slice A' m (c - i)) W) ∧
      (∀ w : World, Kd.C (Kd.int .u8) w A n l → Kd.C (Kd.int .u8) w A' m (l.drop i)) ∧ m ≤ c - i := by
  subst hi hm hn
  obtain ⟨i0, hi0, _, hsz, _⟩ := info_parts info5
  obtain ⟨A', h1, h2, h3⟩ := print_drop_of (P := Tryz.prog) (Value.int .u8) 0 35 5 .i64 Tryz.underlying35 hi0 hsz A c l (i : Int) (by omega) (by omega) hc
  simp only [Int.toNat_natCast, List.length_drop] at h1 h2 h3
  exact ⟨A', h1, fun w h => cOf (h2 w (rds h)), h3⟩
/-- b[:j]. -/
theorem cut_to {A : Option Addr} {c n : Nat} {l : List Int} (j : Nat) {jz : Int} (hj : jz = j) (hjn : j ≤ n) (hn : l.length = n) (hc : n ≤ c) :
    (∀ W : World, (Instr.slice 35 (.slice A n c) none (some (.int .i64 jz)) none).run Tryz.prog W = .ok (.slice A j c) W) ∧
      (∀ w : World, Kd.C (Kd.int .u8) w A n l → Kd.C (Kd.int .u8) w A j (l.take j)) := by
  subst hj hn
  obtain ⟨i0, hi0, _, hsz, _⟩ := info_parts info5
  obtain ⟨h1, h2, h3⟩ := print_take_of (P := Tryz.prog) (Value.int .u8) 0 35 5 .i64 Tryz.underlying35 hi0 hsz A c l (j : Int) (by omega) (by omega) hc
  simp only [Int.toNat_natCast, List.length_take, Nat.min_eq_left hjn] at h1 h2 h3
  exact ⟨h1, fun w h => cOf (h2 w (rds h))⟩
/-- b[i:j]. -/
theorem cut_mid {A : Option Addr} {c n : Nat} {l : List Int} (i j m : Nat) {iz jz : Int} (hi : iz = i) (hj : jz = j) (hm : j - i = m) (hij : i ≤ j) (hjn : j ≤ n) (hn : l.length = n) (hc : n ≤ c) :
    ∃ A' : Option Addr, (∀ W : World, (Instr.slice 35 (.slice A n c) (some (.int .i64 iz)) (some (.int .i64 jz)) none).run Tryz.prog W = .ok (.slice A' m (c - i)) W) ∧
      (∀ w : World, Kd.C (Kd.int .u8) w A n l → Kd.C (Kd.int .u8) w A' m ((l.take j).drop i)) ∧ m ≤ c - i := by
  subst hi hj hm hn
  obtain ⟨i0, hi0, _, hsz, _⟩ := info_parts info5
  obtain ⟨A', h1, h2, h3⟩ := print_mid_of (P := Tryz.prog) (Value.int .u8) 0 35 5 .i64 .i64 Tryz.underlying35 hi0 hsz A c l (i : Int) (j : Int) (by omega) (by omega) (by omega) hc
  simp only [Int.toNat_natCast, List.length_drop, List.length_take, Nat.min_eq_left hjn] at h1 h2 h3
  exact ⟨A', h1, fun w h => cOf (h2 w (rds h)), h3⟩
/-- b[i:j:j]. -/
theorem cut3 {A : Option Addr} {c n : Nat} {l : List Int} (i j m : Nat) {iz jz : Int} (hi : iz = i) (hj : jz = j) (hm : j - i = m) (hij : i ≤ j) (hjn : j ≤ n) (hn : l.length = n) (hc : n ≤ c) :
    ∃ A' : Option Addr, (∀ W : World, (Instr.slice 35 (.slice A n c) (some (.int .i64 iz)) (some (.int .i64 jz)) (some (.int .i64 jz))).run Tryz.prog W = .ok (.slice A' m m) W) ∧
      (∀ w : World, Kd.C (Kd.int .u8) w A n l → Kd.C (Kd.int .u8) w A' m ((l.take j).drop i)) := by
  subst hi hj hm hn
  obtain ⟨i0, hi0, _, hsz, _⟩ := info_parts info5
  have hel : Tryz.prog.elem 35 = 5 := by simp [Program.elem, Tryz.underlying35]
  refine ⟨if j = i then A else A.map (·.add i), fun W => ?_, fun w h => ?_⟩
  · have hu : Tryz.prog.underlying 35 = some (.slice (Tryz.prog.elem 35)) := by rw [hel]; exact Tryz.underlying35
    rw [run_slice_lhm W 35 A l.length c hu .i64 .i64 .i64 (i : Int) (j : Int) (j : Int) (by omega) (by omega) (by omega) (by omega), hel]
    simp [sizeOf, typeInfo, hi0, hsz, sliced, Result.andThen]
  · have ht := (rds h).take_ j (by omega)
    have h2 := ht.drop_ (c := j) i (by omega) (Nat.le_refl _)
    exact cOf h2
/-- summed: what a body's sum is of. -/
theorem summed_calls {A : Option Addr} {c n : Nat} {l : List Int} {w : World} (hr : Kd.C (Kd.int .u8) w A n l) (hn : l.length = n) (hc : n ≤ c) (h : 16 ≤ l.length) (hl : l.length ≤ 10000) (hb : Bytes l) :
    Calls Tryz.prog 33 #[.slice A n c] w fun e w' => ∃ v, e = .returned v ∧ RB w.heap.size w' v (summedL l) ∧ Below w.heap.size w w' := by
  subst hn
  have HR := am_ hr
  have HC := am_ hc
  have HL := am_ hl
  have HB := am_ (Below.refl w.heap.size w)
  obtain ⟨ad, rfl, hcell⟩ := cells_of hr (by omega)
  have hx := hcell 0 (by omega)
  rw [Addr.add_zero'] at hx
  have HX := am_ hx
  have x1 := (getD_byte hb 0)
  have e16 : (0 : Int) < (l.length : Int) := by omega
  obtain ⟨A1, hcut1, hC1, hc1⟩ := cut_mid (A := some ad) (c := c) (l := l) 4 12 8 (iz := 4) (jz := 12) rfl rfl rfl (by omega) (by omega) rfl hc
  obtain ⟨A2, hcut2, hC2, hc2⟩ := cut_from (A := some ad) (c := c) (l := l) 16 (l.length - 16) (iz := 16) rfl rfl (by omega) rfl hc
  have HC1 := am_ (hC1 w hr)
  have HC2 := am_ (hC2 w hr)
  have H16 := am_ h
  clear hC1 hC2 hr hc hl hcell h hc1 hc2 hb
  obtain ⟨x, hxe⟩ : ∃ x, l.getD 0 0 = x := ⟨_, rfl⟩
  rw [hxe] at hx HX x1
  obtain ⟨x0, x2⟩ := x1
  have HXE := am_ hxe
  clear hxe
  have ew : wrap64 x = x := wid (by omega) (by omega)
  have HN := am_ (show wrap64 ((l.length : Int) - 16) = (l.length : Int) - 16 from by have := HL.out; exact wid (by omega) (by omega))
  by_cases h3 : x = 3
  · have hb3 : (x == 3) = true := beq_iff_eq.mpr h3
    have H3 := am_ h3
    clear h3
    go_enter Tryz.func33, Tryz.ntmps33
    go_wp2_with (first
      | ((with_reducible refine gate_dst (N := 8) rfl ?_); refine R_make_cap (w0 := w) w.heap.size rfl rfl (.const (.int .i64 0)) (.tmp 7) rfl 0 (l.length + 16) 0 (wrap64 ((l.length : Int) + 16)) rfl (by have := HL.out; rw [wid (by omega) (by omega)]; omega) rfl rfl (by omega) (by have := HL.out; omega) HB.out (Nat.le_refl _) ?_; intro v1 w1 ho hb1 hg hat; have HO := am_ ho; have HB1 := am_ hb1; have hx1 := (HB1.out.cell (World.block_lt_of_cell? w _ HX.out)).trans HX.out; clear ho hb1 hg hat)
      | ((with_reducible refine gate_dst (N := 30) rfl ?_); refine Kd.R_lit (Kd.int .u8) (w0 := w) w.heap.size 5 ?hg (N := 30) ?hd (xs := ([0, x, wrap64 ((l.length : Int) - 16) / 256 % 256, wrap64 ((l.length : Int) - 16) % 256] : List Int)) (inner := [.int .u8 0, .int .u8 x, .int .u8 (wrap64 ((l.length : Int) - 16) / 256 % 256), .int .u8 (wrap64 ((l.length : Int) - 16) % 256)]) (ok := fun _ => True) (okp := fun _ => True) ?hr ?hp (fun _ hk => hk) trivial HB1.out HB1.out.size (by simp) ?_; (case hd => rfl); (case hg => rfl); (case hr => first | (go_simp; done) | (go_simp; rfl)); (case hp => exact (Reps.one (show Kd.M (Kd.int .u8) _ _ _ 0 [.int .u8 0] from rfl) (Reps.one (show Kd.M (Kd.int .u8) _ _ _ x [.int .u8 x] from rfl) (Reps.one (show Kd.M (Kd.int .u8) _ _ _ (wrap64 ((l.length : Int) - 16) / 256 % 256) [.int .u8 (wrap64 ((l.length : Int) - 16) / 256 % 256)] from rfl) (Reps.one (show Kd.M (Kd.int .u8) _ _ _ (wrap64 ((l.length : Int) - 16) % 256) [.int .u8 (wrap64 ((l.length : Int) - 16) % 256)] from rfl) (Reps.none _ _)))))); intro v30 w3 ho hb hg hat; have HO3 := am_ (Kd.R_grown HO.out hg (fun _ _ => by simp)); have HL3 := am_ ho; have HB3 := am_ hb; obtain ⟨Al, cl, el⟩ := Kd.R_slice HL3.out; subst el; have HLC := am_ (Kd.R_reads' HL3.out); clear ho hb hg hat)
      | ((with_reducible refine gate_builtin (b := .append) (xs := #[.tmp 21, .tmp 30]) rfl ?_); at_builtin; refine Kd.R_append_rows (Kd.int .u8) (w0 := w) w.heap.size rfl (.tmp 21) (.tmp 30) 35 5 (.int .u8 0) 1 rfl Tryz.underlying35 info5 rfl (by decide) (by omega) v1 (List.replicate 0 0) [0, x, wrap64 ((l.length : Int) - 16) / 256 % 256, wrap64 ((l.length : Int) - 16) % 256] Al 4 cl (fun _ => True) (fun _ => False) rfl rfl HO3.out HLC.out.2.2 (fun _ _ h => h) (fun _ h => h.elim) (fun _ _ => trivial) HB3.out HB3.out.size (by have := HL.out; have := H16.out; simp only [List.length_append, List.length_nil, List.length_cons, List.length_drop, List.length_take, List.length_replicate]; omega) ?_; intro v4 w4 ho hb hg hat; have HO5 := am_ ho; have HB5 := am_ hb; clear hb ho hg hat)
      | ((with_reducible refine gate_builtin (b := .append) (xs := #[.tmp 32, .tmp 34]) rfl ?_); at_builtin; refine Kd.R_append_rows (Kd.int .u8) (w0 := w) w.heap.size rfl (.tmp 32) (.tmp 34) 35 5 (.int .u8 0) 1 rfl Tryz.underlying35 info5 rfl (by decide) (by omega) v4 (List.replicate 0 0 ++ [0, x, wrap64 ((l.length : Int) - 16) / 256 % 256, wrap64 ((l.length : Int) - 16) % 256]) (l.drop 16) A2 (l.length - 16) (c - 16) (fun _ => True) (fun _ => False) rfl rfl HO5.out (Kd.C_below HC2.out HB5.out) (fun _ _ h => h) (fun _ h => h.elim) (fun _ _ => trivial) HB5.out HB5.out.size (by have := HL.out; have := H16.out; simp only [List.length_append, List.length_nil, List.length_cons, List.length_drop, List.length_take, List.length_replicate]; omega) ?_; intro v5 w5 ho hb hg hat; have HO4 := am_ ho; have HB4 := am_ hb; clear hb ho hg hat))
    go_ret
    refine ⟨_, rfl, ?_, HB4.out⟩
    unfold summedL
    rw [HXE.out, if_pos H3.out, ← HN.out, List.nil_append]
    exact HO4.out
  · have hb3 : (x == 3) = false := beq_eq_false_iff_ne.mpr h3
    have H3 := am_ h3
    clear h3
    go_enter Tryz.func33, Tryz.ntmps33
    go_wp2_with (first
      | ((with_reducible refine gate_dst (N := 8) rfl ?_); refine R_make_cap (w0 := w) w.heap.size rfl rfl (.const (.int .i64 0)) (.tmp 7) rfl 0 (l.length + 16) 0 (wrap64 ((l.length : Int) + 16)) rfl (by have := HL.out; rw [wid (by omega) (by omega)]; omega) rfl rfl (by omega) (by have := HL.out; omega) HB.out (Nat.le_refl _) ?_; intro v1 w1 ho hb1 hg hat; have HO := am_ ho; have HB1 := am_ hb1; have hx1 := (HB1.out.cell (World.block_lt_of_cell? w _ HX.out)).trans HX.out; clear ho hb1 hg hat)
      | ((with_reducible refine gate_builtin (b := .append) (xs := #[.tmp 14, .tmp 16]) rfl ?_); at_builtin; refine Kd.R_append_rows (Kd.int .u8) (w0 := w) w.heap.size rfl (.tmp 14) (.tmp 16) 35 5 (.int .u8 0) 1 rfl Tryz.underlying35 info5 rfl (by decide) (by omega) v1 (List.replicate 0 0) ((l.take 12).drop 4) A1 8 (c - 4) (fun _ => True) (fun _ => False) rfl rfl HO.out (Kd.C_below HC1.out HB1.out) (fun _ _ h => h) (fun _ h => h.elim) (fun _ _ => trivial) HB1.out HB1.out.size (by have := HL.out; have := H16.out; simp only [List.length_append, List.length_nil, List.length_cons, List.length_drop, List.length_take, List.length_replicate]; omega) ?_; intro v2 w2 ho hb hg hat; have HO2 := am_ ho; have HB2 := am_ hb; have hx2 := (HB2.out.cell (World.block_lt_of_cell? w _ HX.out)).trans HX.out; clear hb ho hg hat)
      | ((with_reducible refine gate_dst (N := 30) rfl ?_); refine Kd.R_lit (Kd.int .u8) (w0 := w) w.heap.size 5 ?hg (N := 30) ?hd (xs := ([0, x, wrap64 ((l.length : Int) - 16) / 256 % 256, wrap64 ((l.length : Int) - 16) % 256] : List Int)) (inner := [.int .u8 0, .int .u8 x, .int .u8 (wrap64 ((l.length : Int) - 16) / 256 % 256), .int .u8 (wrap64 ((l.length : Int) - 16) % 256)]) (ok := fun _ => True) (okp := fun _ => True) ?hr ?hp (fun _ hk => hk) trivial HB2.out HB2.out.size (by simp) ?_; (case hd => rfl); (case hg => rfl); (case hr => first | (go_simp; done) | (go_simp; rfl)); (case hp => exact (Reps.one (show Kd.M (Kd.int .u8) _ _ _ 0 [.int .u8 0] from rfl) (Reps.one (show Kd.M (Kd.int .u8) _ _ _ x [.int .u8 x] from rfl) (Reps.one (show Kd.M (Kd.int .u8) _ _ _ (wrap64 ((l.length : Int) - 16) / 256 % 256) [.int .u8 (wrap64 ((l.length : Int) - 16) / 256 % 256)] from rfl) (Reps.one (show Kd.M (Kd.int .u8) _ _ _ (wrap64 ((l.length : Int) - 16) % 256) [.int .u8 (wrap64 ((l.length : Int) - 16) % 256)] from rfl) (Reps.none _ _)))))); intro v30 w3 ho hb hg hat; have HO3 := am_ (Kd.R_grown HO2.out hg (fun _ _ => by simp)); have HL3 := am_ ho; have HB3 := am_ hb; obtain ⟨Al, cl, el⟩ := Kd.R_slice HL3.out; subst el; have HLC := am_ (Kd.R_reads' HL3.out); clear ho hb hg hat)
      | ((with_reducible refine gate_builtin (b := .append) (xs := #[.tmp 21, .tmp 30]) rfl ?_); at_builtin; refine Kd.R_append_rows (Kd.int .u8) (w0 := w) w.heap.size rfl (.tmp 21) (.tmp 30) 35 5 (.int .u8 0) 1 rfl Tryz.underlying35 info5 rfl (by decide) (by omega) v2 (List.replicate 0 0 ++ (l.take 12).drop 4) [0, x, wrap64 ((l.length : Int) - 16) / 256 % 256, wrap64 ((l.length : Int) - 16) % 256] Al 4 cl (fun _ => True) (fun _ => False) rfl rfl HO3.out HLC.out.2.2 (fun _ _ h => h) (fun _ h => h.elim) (fun _ _ => trivial) HB3.out HB3.out.size (by have := HL.out; have := H16.out; simp only [List.length_append, List.length_nil, List.length_cons, List.length_drop, List.length_take, List.length_replicate]; omega) ?_; intro v4 w4 ho hb hg hat; have HO5 := am_ ho; have HB5 := am_ hb; clear hb ho hg hat)
      | ((with_reducible refine gate_builtin (b := .append) (xs := #[.tmp 32, .tmp 34]) rfl ?_); at_builtin; refine Kd.R_append_rows (Kd.int .u8) (w0 := w) w.heap.size rfl (.tmp 32) (.tmp 34) 35 5 (.int .u8 0) 1 rfl Tryz.underlying35 info5 rfl (by decide) (by omega) v4 (List.replicate 0 0 ++ (l.take 12).drop 4 ++ [0, x, wrap64 ((l.length : Int) - 16) / 256 % 256, wrap64 ((l.length : Int) - 16) % 256]) (l.drop 16) A2 (l.length - 16) (c - 16) (fun _ => True) (fun _ => False) rfl rfl HO5.out (Kd.C_below HC2.out HB5.out) (fun _ _ h => h) (fun _ h => h.elim) (fun _ _ => trivial) HB5.out HB5.out.size (by have := HL.out; have := H16.out; simp only [List.length_append, List.length_nil, List.length_cons, List.length_drop, List.length_take, List.length_replicate]; omega) ?_; intro v5 w5 ho hb hg hat; have HO4 := am_ ho; have HB4 := am_ hb; clear hb ho hg hat))
    go_ret
    refine ⟨_, rfl, ?_, HB4.out⟩
    unfold summedL
    rw [HXE.out, if_neg H3.out, ← HN.out]
    exact HO4.out
/-- The error of a packet's head, and of how long it is. -/
def headE (l : List Int) : Int :=
  if l.length < 16 then 1
  else if ¬ (1 ≤ l.getD 0 0 ∧ l.getD 0 0 ≤ 3) then 2
  else if ¬ (numL l 2 2 = (l.length : Int) ∧ l.length ≤ 1500 ∧ l.getD 13 0 = 0) then 3
  else if ¬ fold (pairs (l.take 16)) = 65535 then 4
  else if l.length < 24 ∨ (l.getD 0 0 = 3 ∧ l.length < 44) then 1
  else 0
theorem head_j {l : List Int} {k : Nat} (hb : Bytes l) (h16 : 16 ≤ l.length) (hk : 30 ≤ k) (t : Bool) :
    wire_head.j0 k l t = some (if t = true then 3 else if ¬ fold (pairs (l.take 16)) = 65535 then 4 else if l.length < 24 ∨ (l.getD 0 0 = 3 ∧ l.length < 44) then 1 else 0) := by
  obtain ⟨k, rfl⟩ : ∃ m, k = m + 1 := ⟨k - 1, by omega⟩
  have b0 := getD_byte hb 0
  have lt : (l.take 16).length = 16 := by rw [List.length_take]; omega
  simp only [wire_head.j0]
  by_cases ht : t = true
  · rw [if_pos ht, if_pos ht]
  · rw [if_neg ht, if_neg ht, if_pos (by omega), right_f (by omega) (hb.take 16) (by omega), Option.bind_some, show rd l 0 = l.getD 0 0 from rd_nat l 0, wid (n := l.getD 0 0) (by omega) (by omega)]
    generalize l.getD 0 0 = x at b0 ⊢
    have hp : 0 < (l.length : Int) := by omega
    by_cases hs : fold (pairs (l.take 16)) = 65535
    · by_cases h24 : l.length < 24
      · have h24' : (l.length : Int) < 24 := by omega
        simp [hs, h24, h24']
      · have h24' : ¬ (l.length : Int) < 24 := by omega
        by_cases h3 : x = 3
        · by_cases h44 : l.length < 44
          · have h44' : (l.length : Int) < 44 := by omega
            simp only [hs, h24', h3, h44', hp, h44, beq_self_eq_true, if_true, if_false, not_true, and_self, or_true]
          · have h44' : ¬ (l.length : Int) < 44 := by omega
            simp only [hs, h24, h24', h3, h44', hp, h44, beq_self_eq_true, if_true, if_false, not_true, and_false, or_self]
        · simp only [hs, h24, h24', h3, hp, beq_self_eq_true, if_true, if_false, not_true, false_and, or_self]
    · simp [hs]
theorem head_f {l : List Int} {k : Nat} (hb : Bytes l) (hl : l.length ≤ 100000) (hk : 30 ≤ k) : wire_head.f k l = some (headE l) := by
  have b0 := getD_byte hb 0
  unfold wire_head.f headE
  by_cases h16 : l.length < 16
  · rw [if_pos (by omega), if_pos h16]
  · rw [if_neg (by omega), if_neg h16, if_pos (by omega), show rd l 0 = l.getD 0 0 from rd_nat l 0, wid (n := l.getD 0 0) (by omega) (by omega)]
    unfold wire_known.f
    have hg : wire_get.f k l 2 2 = some (numL l 2 2) := get_f hb 2 2 (by omega) (by omega) hl (by omega)
    have e13 : rd l 13 = l.getD 13 0 := rd_nat l 13
    rw [hg, e13]
    obtain ⟨x, hxe⟩ : ∃ x, l.getD 0 0 = x := ⟨_, rfl⟩
    rw [hxe] at b0 ⊢
    by_cases h1 : x ≥ 1
    · rw [if_pos h1, Option.bind_some]
      by_cases h3 : x ≤ 3
      · rw [if_pos (by simpa using h3), Option.bind_some]
        rw [if_neg (show ¬ ¬ (1 ≤ x ∧ x ≤ 3) from fun h => h ⟨h1, h3⟩)]
        by_cases hn : numL l 2 2 = (l.length : Int)
        · rw [if_pos hn]
          by_cases h15 : l.length ≤ 1500
          · rw [if_neg (show ¬ (l.length : Int) > 1500 by omega), if_pos (show (13 : Int) < (l.length : Int) by omega), head_j hb (by omega) hk]
            by_cases hz : l.getD 13 0 = 0
            · rw [if_neg (show ¬ ¬ (numL l 2 2 = (l.length : Int) ∧ l.length ≤ 1500 ∧ l.getD 13 0 = 0) from fun h => h ⟨hn, h15, hz⟩), if_neg (show ¬ (l.getD 13 0 != 0) = true by simpa using hz)]
              rw [hxe]
            · rw [if_pos (show ¬ (numL l 2 2 = (l.length : Int) ∧ l.length ≤ 1500 ∧ l.getD 13 0 = 0) from fun h => hz h.2.2), if_pos (show (l.getD 13 0 != 0) = true by simpa using hz)]
          · rw [if_pos (show (l.length : Int) > 1500 by omega), head_j hb (by omega) hk, if_pos rfl, if_pos (show ¬ (numL l 2 2 = (l.length : Int) ∧ l.length ≤ 1500 ∧ l.getD 13 0 = 0) from fun h => h15 h.2.1)]
        · rw [if_neg hn, head_j hb (by omega) hk, if_pos rfl, if_pos (show ¬ (numL l 2 2 = (l.length : Int) ∧ l.length ≤ 1500 ∧ l.getD 13 0 = 0) from fun h => hn h.1)]
      · rw [if_neg (by simpa using h3), if_pos (by omega)]
    · rw [if_neg h1, Option.bind_some, if_neg (by simp), if_pos (by omega)]
theorem head_calls {A : Option Addr} {c n : Nat} {l : List Int} {w : World} (hr : Kd.C (Kd.int .u8) w A n l) (hn : l.length = n) (hc : n ≤ c) (hb : Bytes l) (hl : l.length ≤ 100000) :
    Calls Tryz.prog 73 #[.slice A n c] w fun e w' => e = .returned (.int .i64 (headE l)) ∧ Drawn0 w w' := by
  subst hn
  exact wire_head.calls 30 A c l _ w hr hc (head_f hb hl (Nat.le_refl _))
/-- A packet. -/
structure Pk where
  kind : Int
  life : Int
  piece : Int
  frm : Int
  dst : Int
  fp : Int
  tp : Int
  flags : Int
  label : Int
  bare : Bool
  code : Int
  opts : List Int
  data : List Int
def zeroP : Pk := ⟨0, 0, 0, 0, 0, 0, 0, 0, 0, false, 0, [], []⟩
def pkV (p : Pk) (v1 v2 : Value) : Value :=
  .agg #[.int .i64 p.kind, .int .i64 p.life, .int .i64 p.piece, .int .i64 p.frm, .int .i64 p.dst, .int .i64 p.fp, .int .i64 p.tp, .int .i64 p.flags, .int .i64 p.label, .bool p.bare, .int .i64 p.code, v1, v2]
/-- Where a stream's data begins: behind its options. -/
def restS (l : List Int) : Nat := 24 + (l.getD 21 0).toNat
/-- What Parse answers: a packet, or an error. -/
def parseL (l : List Int) : Pk × Int :=
  if headE l ≠ 0 then (zeroP, headE l)
  else if l.getD 0 0 = 3 then
    if l.getD 17 0 ≠ 0 then (zeroP, 2)
    else (⟨3, l.getD 1 0, l.getD 12 0, numL l 4 4, numL l 8 4, 0, 0, 0, 0, false, l.getD 16 0, [], l.drop 20⟩, 0)
  else if l.getD 0 0 = 2 then
    (⟨2, l.getD 1 0, l.getD 12 0, numL l 4 4, numL l 8 4, numL l 16 2, numL l 18 2, 0, numL l 20 2, numL l 22 2 == 0, 0, [], l.drop 24⟩, 0)
  else if l.getD 20 0 > 15 ∨ l.getD 21 0 > 40 ∨ restS l > l.length then (zeroP, 5)
  else (⟨1, l.getD 1 0, l.getD 12 0, numL l 4 4, numL l 8 4, numL l 16 2, numL l 18 2, l.getD 20 0, 0, false, 0, (l.take (restS l)).drop 24, l.drop (restS l)⟩, 0)
/-- What stands behind Parse's call. -/
def Parsed (w : World) (l : List Int) (e : Ending) (w' : World) : Prop :=
  ∃ v1 v2 : Value, e = .returned (.tuple #[pkV (parseL l).1 v1 v2, .int .i64 (parseL l).2]) ∧ RB w.heap.size w' v1 (parseL l).1.opts ∧ RB w.heap.size w' v2 (parseL l).1.data ∧ (∀ k, v1.ownBlock = some k → v2.ownBlock ≠ some k) ∧ Below w.heap.size w w'
theorem c13 {w : World} {g t : Nat} {a0 a1 a2 a3 a4 a5 a6 a7 a8 a9 a10 a11 a12 : Value} (h : w.heap[g]? = some (.cells #[a0, a1, a2, a3, a4, a5, a6, a7, a8, a9, a10, a11, a12] t (0, 0))) :
    w.cell? ⟨g, 0, none⟩ = some a0 ∧ w.cell? ⟨g, 1, none⟩ = some a1 ∧ w.cell? ⟨g, 2, none⟩ = some a2 ∧ w.cell? ⟨g, 3, none⟩ = some a3 ∧ w.cell? ⟨g, 4, none⟩ = some a4 ∧ w.cell? ⟨g, 5, none⟩ = some a5 ∧ w.cell? ⟨g, 6, none⟩ = some a6 ∧
    w.cell? ⟨g, 7, none⟩ = some a7 ∧ w.cell? ⟨g, 8, none⟩ = some a8 ∧ w.cell? ⟨g, 9, none⟩ = some a9 ∧ w.cell? ⟨g, 10, none⟩ = some a10 ∧ w.cell? ⟨g, 11, none⟩ = some a11 ∧ w.cell? ⟨g, 12, none⟩ = some a12 := by
  simp [World.cell?, h]
theorem f13 {w : World} {g t : Nat} {cs : Array Value} (h : w.heap[g]? = some (.cells cs t (0, 0))) : w.frozen? ⟨g, 0, none⟩ = false ∧ w.frozen? ⟨g, 1, none⟩ = false ∧ w.frozen? ⟨g, 2, none⟩ = false ∧ w.frozen? ⟨g, 3, none⟩ = false ∧ w.frozen? ⟨g, 4, none⟩ = false ∧ w.frozen? ⟨g, 5, none⟩ = false ∧ w.frozen? ⟨g, 6, none⟩ = false ∧ w.frozen? ⟨g, 7, none⟩ = false ∧ w.frozen? ⟨g, 8, none⟩ = false ∧ w.frozen? ⟨g, 9, none⟩ = false ∧ w.frozen? ⟨g, 10, none⟩ = false ∧ w.frozen? ⟨g, 11, none⟩ = false ∧ w.frozen? ⟨g, 12, none⟩ = false := by
  simp [World.frozen?, h]
theorem blk_lt {w : World} {g : Nat} {o : Obj} (h : w.heap[g]? = some o) : g < w.heap.size := by
  rcases Nat.lt_or_ge g w.heap.size with h' | h'
  · exact h'
  · rw [Array.getElem?_eq_none h'] at h; cases h
theorem new_blk (w : World) (o : Obj) : (w.alloc o).heap[w.heap.size]? = some o := by
  show (w.heap.push o)[w.heap.size]? = some o
  simp
theorem set_blk {w : World} {g : Nat} {cs : Array Value} {t : TypeId} (h : w.heap[g]? = some (.cells cs t (0, 0))) (i : Nat) (v : Value) : (w.setCell ⟨g, i, none⟩ v).heap[g]? = some (.cells (cs.setIfInBounds i v) t (0, 0)) := by
  simp [World.setCell, Array.getElem?_modify, h]
/-- A packet laid into its block. -/
def lay13 (w : World) (g : Nat) (v0 v1 v2 v3 v4 v5 v6 v7 v8 v9 v10 v11 v12 : Value) : World := (((((((((((((w.setCell ⟨g, 0, none⟩ v0).setCell ⟨g, 1, none⟩ v1).setCell ⟨g, 2, none⟩ v2).setCell ⟨g, 3, none⟩ v3).setCell ⟨g, 4, none⟩ v4).setCell ⟨g, 5, none⟩ v5).setCell ⟨g, 6, none⟩ v6).setCell ⟨g, 7, none⟩ v7).setCell ⟨g, 8, none⟩ v8).setCell ⟨g, 9, none⟩ v9).setCell ⟨g, 10, none⟩ v10).setCell ⟨g, 11, none⟩ v11).setCell ⟨g, 12, none⟩ v12)
theorem lay13_blk {w : World} {g t : Nat} {cs : Array Value} (h : w.heap[g]? = some (.cells cs t (0, 0))) (hs : cs.size = 13) (v0 v1 v2 v3 v4 v5 v6 v7 v8 v9 v10 v11 v12 : Value) : (lay13 w g v0 v1 v2 v3 v4 v5 v6 v7 v8 v9 v10 v11 v12).heap[g]? = some (.cells #[v0, v1, v2, v3, v4, v5, v6, v7, v8, v9, v10, v11, v12] t (0, 0)) := by
  obtain ⟨cs⟩ := cs
  match cs, hs with
  | [_, _, _, _, _, _, _, _, _, _, _, _, _], _ =>
    unfold lay13
    have := set_blk (set_blk (set_blk (set_blk (set_blk (set_blk (set_blk (set_blk (set_blk (set_blk (set_blk (set_blk (set_blk (h) 0 v0) 1 v1) 2 v2) 3 v3) 4 v4) 5 v5) 6 v6) 7 v7) 8 v8) 9 v9) 10 v10) 11 v11) 12 v12
    simpa using this
theorem lay13_below {B : Nat} {a w : World} {g : Nat} (h : Below B a w) (hg : B ≤ g) (v0 v1 v2 v3 v4 v5 v6 v7 v8 v9 v10 v11 v12 : Value) : Below B a (lay13 w g v0 v1 v2 v3 v4 v5 v6 v7 v8 v9 v10 v11 v12) := by
  unfold lay13
  exact Below.setCell (Below.setCell (Below.setCell (Below.setCell (Below.setCell (Below.setCell (Below.setCell (Below.setCell (Below.setCell (Below.setCell (Below.setCell (Below.setCell (Below.setCell (h) hg _) hg _) hg _) hg _) hg _) hg _) hg _) hg _) hg _) hg _) hg _) hg _) hg _
theorem lay13_far {w : World} {g k : Nat} (hk : k ≠ g) (v0 v1 v2 v3 v4 v5 v6 v7 v8 v9 v10 v11 v12 : Value) : (lay13 w g v0 v1 v2 v3 v4 v5 v6 v7 v8 v9 v10 v11 v12).heap[k]? = w.heap[k]? := by
  unfold lay13
  have f : ∀ (W : World) (i : Nat) (v : Value), (W.setCell ⟨g, i, none⟩ v).heap[k]? = W.heap[k]? := fun W i v => Below.heap_setCell W ⟨g, i, none⟩ v k hk
  rw [f, f, f, f, f, f, f, f, f, f, f, f, f]
theorem RB_move {b b' : Nat} {w w' : World} {v : Value} {l : List Int} (h : RB b w v l) (hb : b' ≤ b) (hm : ∀ k, b ≤ k → k < w.heap.size → w'.heap[k]? = w.heap[k]?) : RB b' w' v l :=
  Kd.R_lower (Kd.R_mono (Kd.R_step (Kd.R_tight rfl h) (fun k hk hlt => hm k (Kd.R_base h k hk.symm) hlt)) (fun _ _ => trivial)) hb
theorem parsed_ok {w w' : World} {l : List Int} {p : Pk} {v1 v2 : Value} (h : parseL l = (p, 0)) (h1 : RB w.heap.size w' v1 p.opts) (h2 : RB w.heap.size w' v2 p.data) (hs : ∀ k, v1.ownBlock = some k → v2.ownBlock ≠ some k) (hb : Below w.heap.size w w') :
    Parsed w l (.returned (.tuple #[pkV p v1 v2, .int .i64 0])) w' :=
  ⟨v1, v2, by rw [h], by rw [h]; exact h1, by rw [h]; exact h2, hs, hb⟩
end Go.Proofs.YtgkmbefamcnifaaGreat.WB
namespace Go.Proofs.YtgkmbefamcnifaaGreat.TB
set_option linter.unusedVariables false
set_option linter.unusedSimpArgs false
open Go.RowKit Go.Proofs.YtgkmbefamcnifaaGreat.Hp Go.Proofs.YtgkmbefamcnifaaGreat.SB Go.Proofs.YtgkmbefamcnifaaGreat.WB Go.Proofs.YtgkmbefamcnifaaGreatW.PrintWords Go.Proofs.YtgkmbefamcnifaaGreatW.PrintLast Go.Proofs.YtgkmbefamcnifaaGreatW.PrintMore
def roundsS : Nat → S4 → S4
  | 0, s => s
  | n + 1, s => roundsS n (roundS s)
def SipS (w0 w : World) (b : Nat) (s : S4) : Prop := SipAt w0 w b s.a s.b s.c s.d
theorem round_at {w0 w : World} {b : Nat} {s : S4} (h : SipS w0 w b s) : Calls Tryz.prog 96 #[.pointer (some ⟨b, 0, none⟩)] w fun e w' => e = .returned (.tuple #[]) ∧ SipS w0 w' b (roundS s) := round_calls h
theorem rounds_calls {w0 w : World} {b : Nat} {s : S4} (n : Nat) (hn : n ≤ 100) {nz : Int} (e1 : nz = n) (h : SipS w0 w b s) :
    Calls Tryz.prog 61 #[.pointer (some ⟨b, 0, none⟩), .int .i64 nz] w fun e w' => e = .returned (.tuple #[]) ∧ SipS w0 w' b (roundsS n s) := by
  subst e1
  have H0 := am_ h
  have HN := am_ hn
  clear h hn
  obtain ⟨R, hR⟩ : ∃ R, roundsS n s = R := ⟨_, rfl⟩
  rw [hR]
  have HRR := am_ hR
  clear hR
  go_enter Tryz.func61, Tryz.ntmps61
  go_wp2
  go_loopg [5] n (fun kq v5 w' => ∃ (i : Nat) (t : S4), v5 = .int .i64 (i : Int) ∧ Aside (kq + i = n) ∧ Aside (roundsS kq t = R) ∧ Aside0 (SipS w0 w' b t))
  case atStart => exact ⟨0, s, rfl, (by show _ = _; omega), HRR.out, H0⟩
  case round =>
    obtain ⟨i, t, rfl, hk, hr, hs⟩ := hrel
    have HKQ := am_ hk.out
    have HR2 := am_ hr.out
    clear hk hr
    by_cases hlt : (i : Int) < (n : Int)
    · have hd : decide ((i : Int) < (n : Int)) = true := decide_eq_true hlt
      have hdn : decide (i < n) = true := decide_eq_true (by omega)
      have HLT := am_ hlt
      clear hlt
      have hi2 : wrap64 ((i : Int) + 1) = ((i + 1 : Nat) : Int) := by have := HN.out; have := HKQ.out; rw [wid (by omega) (by omega)]; omega
      have HGK := am_ (show 0 < gk from by have := HKQ.out; have := HLT.out; omega)
      go_wp2_with (first | (go_at_call 96; (with_reducible refine (round_at hs.out).mono ?_); rintro e w2 ⟨rfl, hs2⟩; have HS2 := am_ hs2; clear hs2))
      go_roundg (gk - 1)
      case measure => have := HGK.out; omega
      case rel => exact ⟨i + 1, _, (by first | rfl | (show Value.int _ _ = Value.int _ _; rw [hi2])), (by show _ = _; have := HKQ.out; have := HGK.out; omega), (by
        obtain ⟨m, hm⟩ : ∃ m, gk = m + 1 := ⟨gk - 1, by have := HGK.out; omega⟩
        have h1 := HR2.out
        rw [hm] at h1
        show roundsS (gk - 1) _ = R
        rw [hm]; exact h1), HS2⟩
    · have hd : decide ((i : Int) < (n : Int)) = false := decide_eq_false hlt
      have hdn : decide (i < n) = false := decide_eq_false (by omega)
      have hk0 : gk = 0 := by have := HKQ.out; omega
      have HS := am_ (show t = R from by have h1 := HR2.out; rw [hk0] at h1; exact h1)
      clear hlt
      go_wp2
      go_end0
      exact ⟨rfl, by rw [← HS.out]; exact hs.out⟩
def takeS (n : Int) (s : S4) : S4 :=
  let t := roundsS 2 ⟨s.a, s.b, s.c, Go.bits .xor .u64 s.d n⟩
  ⟨Go.bits .xor .u64 t.a n, t.b, t.c, t.d⟩
theorem take_calls {w0 w : World} {b : Nat} {s : S4} (n : Int) (h : SipS w0 w b s) :
    Calls Tryz.prog 59 #[.pointer (some ⟨b, 0, none⟩), .int .u64 n] w fun e w' => e = .returned (.tuple #[]) ∧ SipS w0 w' b (takeS n s) := by
  obtain ⟨x0, x1, x2, x3⟩ := s
  change SipAt w0 w b x0 x1 x2 x3 at h
  have H0 := am_ h
  obtain ⟨T0, T1, T2, T3⟩ := h.cells
  obtain ⟨U0, U1, U2, U3⟩ := h.free
  clear h
  obtain ⟨t, ht⟩ : ∃ t, roundsS 2 ⟨x0, x1, x2, Go.bits .xor .u64 x3 n⟩ = t := ⟨_, rfl⟩
  have HRT := am_ (fun W (hW : SipS w0 W b ⟨x0, x1, x2, Go.bits .xor .u64 x3 n⟩) => ht ▸ rounds_calls (nz := 2) 2 (by omega) rfl hW)
  have hg : takeS n ⟨x0, x1, x2, x3⟩ = ⟨Go.bits .xor .u64 t.a n, t.b, t.c, t.d⟩ := by rw [← ht]; rfl
  rw [hg]
  clear hg ht
  go_enter Tryz.func59, Tryz.ntmps59
  go_upto_region 1 with fail
  refine wp_w (fun W => SipS w0 W b ⟨x0, x1, x2, Go.bits .xor .u64 x3 n⟩) ?_ ?_
  · exact H0.out.set3 _
  intro w1 h1
  have H1 := am_ h1
  clear h1 T0 T1 T2 T3 U0 U1 U2 U3
  go_wp2_with (first | (go_at_call 61; (with_reducible refine (HRT.out _ H1.out).mono ?_); rintro e w2 ⟨rfl, h2⟩; have H2 := am_ h2; obtain ⟨T0, T1, T2, T3⟩ := SipAt.cells h2; obtain ⟨U0, U1, U2, U3⟩ := SipAt.free h2; clear h2))
  go_end0
  exact ⟨rfl, SipAt.set0 H2.out _⟩
/-- A row's number of up to eight bytes. -/
def numS (l : List Int) : Int := (sip_number_byte.f 9 l).getD 0
theorem num_l0 (l : List Int) : ∀ (k j : Nat) (x : Int), (j : Int) ≤ mn (l.length : Int) 8 → mn (l.length : Int) 8 < j + k → ∃ y, sip_number_byte.l0 k l x (mn (l.length : Int) 8) j = some y
  | 0, j, x, h1, h2 => by omega
  | k + 1, j, x, h1, h2 => by
    have hm : mn (l.length : Int) 8 ≤ 8 ∧ mn (l.length : Int) 8 ≤ l.length := by unfold mn; split <;> omega
    simp only [sip_number_byte.l0]
    by_cases h : (j : Int) < mn (l.length : Int) 8
    · rw [if_pos h, if_pos (by omega), if_pos (by omega), if_pos (by rw [wid (by omega) (by omega)]; omega), show wrap64 ((j : Int) + 1) = ((j + 1 : Nat) : Int) by rw [wid (by omega) (by omega)]; omega]
      exact num_l0 l k (j + 1) _ (by omega) (by omega)
    · rw [if_neg h]; exact ⟨_, rfl⟩
theorem num_some (l : List Int) : sip_number_byte.f 9 l = some (numS l) := by
  obtain ⟨y, hy⟩ := num_l0 l 9 0 0 (by unfold mn; split <;> omega) (by unfold mn; split <;> omega)
  have : sip_number_byte.f 9 l = some y := hy
  rw [numS, this]; rfl
theorem num8_calls {A : Option Addr} {c : Nat} {l : List Int} {n : Nat} {w : World} (hr : Kd.C (Kd.int .u8) w A n l) (hn : l.length = n) (hc : n ≤ c) :
    Calls Tryz.prog 60 #[.slice A n c] w fun e w' => e = .returned (.int .u64 (numS l)) ∧ Below w.heap.size w w' := by
  subst hn
  exact sip_number_byte.calls 9 A c l _ w hr hc (num_some l)
def eatS : Nat → List Int → S4 → List Int × S4
  | 0, l, s => (l, s)
  | n + 1, l, s => eatS n (l.drop 8) (takeS (numS (l.take 8)) s)
def startS (k : Ky) : S4 := ⟨Go.bits .xor .u64 k.a 8317987319222330741, Go.bits .xor .u64 k.b 7237128888997146477, Go.bits .xor .u64 k.a 7816392313619706465, Go.bits .xor .u64 k.b 8387220255154660723⟩
def lastS (n : Int) (r : List Int × S4) : S4 := takeS (Go.bits .or .u64 (numS r.1) (IntKind.u64.wrap (IntKind.u64.wrap n * 72057594037927936))) r.2
def outS (u : S4) : Int := Go.bits .xor .u64 (Go.bits .xor .u64 (Go.bits .xor .u64 u.a u.b) u.c) u.d
def ofL (k : Ky) (l : List Int) : Int :=
  let t := lastS (l.length : Int) (eatS (l.length / 8) l (startS k))
  outS (roundsS 4 ⟨t.a, t.b, Go.bits .xor .u64 t.c 255, t.d⟩)
theorem sip_here {w : World} {b : Nat} {s : S4} (h : w.heap[b]? = some (.cells #[.int .u64 s.a, .int .u64 s.b, .int .u64 s.c, .int .u64 s.d] 125 (0, 0))) : SipS w w b s := ⟨h, Chg.refl _ _⟩
theorem of_calls {w : World} (k : Ky) {A : Option Addr} {c n : Nat} {l : List Int} (hr : Kd.C (Kd.int .u8) w A n l) (hn : l.length = n) (hc : n ≤ c) (hl : l.length ≤ 100000) :
    Calls Tryz.prog 21 #[.agg #[.int .u64 k.a, .int .u64 k.b], .slice A n c] w fun e w' => e = .returned (.int .u64 (ofL k l)) ∧ Below w.heap.size w w' := by
  subst hn
  obtain ⟨s, hs⟩ : ∃ s, startS k = s := ⟨_, rfl⟩
  obtain ⟨R, hR⟩ : ∃ R, eatS (l.length / 8) l s = R := ⟨_, rfl⟩
  obtain ⟨t, ht⟩ : ∃ t, lastS (l.length : Int) R = t := ⟨_, rfl⟩
  obtain ⟨u, hu⟩ : ∃ u, roundsS 4 ⟨t.a, t.b, Go.bits .xor .u64 t.c 255, t.d⟩ = u := ⟨_, rfl⟩
  obtain ⟨r, hrr⟩ : ∃ r, outS u = r := ⟨_, rfl⟩
  have hg : ofL k l = r := by rw [ofL, hs, hR, ht]; show outS (roundsS 4 _) = r; rw [hu, hrr]
  rw [hg]
  have HS := am_ hs
  have HRE := am_ hR
  have HT := am_ ht
  have HU := am_ hu
  have HO := am_ hrr
  have HR := am_ hr
  have HC := am_ hc
  have HL := am_ hl
  have HLT := am_ (fun W (b : Nat) (h : SipS W W b ⟨t.a, t.b, Go.bits .xor .u64 t.c 255, t.d⟩) => hu ▸ rounds_calls (nz := 4) 4 (by omega) rfl h)
  clear hs hR ht hu hrr hg hr hc hl
  obtain ⟨ka, kb⟩ := k
  obtain ⟨g, HG⟩ : ∃ g, w.heap.size = g := ⟨_, rfl⟩
  go_enter Tryz.func21, Tryz.ntmps21
  go_upto_region 1 with fail
  refine wp_w (fun W => W.heap[g]? = some (.cells #[.int .u64 ka, .int .u64 kb] 29 (0, 0)) ∧ W.heap.size = g + 1 ∧ Below w.heap.size w W) ?_ ?_
  · exact ⟨by rw [← HG]; exact new_blk w _, by rw [← HG]; exact Array.size_push _, below_alloc (Below.refl w.heap.size w) _⟩
  intro w1 h1
  have HB1 := am_ h1.2.2
  have hgs := h1.2.1
  have k0 : w1.cell? ⟨g, 0, none⟩ = some (.int .u64 ka) := cell_of_row w1 g 0 _ _ _ h1.1
  have k1 : w1.cell? ⟨g, 1, none⟩ = some (.int .u64 kb) := cell_of_row w1 g 1 _ _ _ h1.1
  clear h1
  go_upto_region 2 with fail
  refine wp_w (fun W => W.heap[g + 1]? = some (.cells #[.int .u64 s.a, .int .u64 s.b, .int .u64 s.c, .int .u64 s.d] 125 (0, 0)) ∧ Below w.heap.size w W) ?_ ?_
  · refine ⟨?_, below_alloc HB1.out _⟩
    rw [← hgs, ← HS.out]; exact new_blk w1 _
  intro w2 h2
  have HK2 := am_ h2.1
  have HB2 := am_ h2.2
  clear h2 k0 k1
  go_wp2
  go_loopg [6] (l.length / 8) (fun kq v6 w' => ∃ (A' : Option Addr) (c' : Nat) (r' : List Int) (t' : S4), v6 = .slice A' r'.length c' ∧ Aside (kq = r'.length / 8) ∧ Aside0 (Kd.C (Kd.int .u8) w A' r'.length r' ∧ r'.length ≤ c' ∧ r'.length ≤ 100000) ∧ Aside0 (eatS kq r' t' = R) ∧ Aside0 (w'.heap[g + 1]? = some (.cells #[.int .u64 t'.a, .int .u64 t'.b, .int .u64 t'.c, .int .u64 t'.d] 125 (0, 0))) ∧ Aside0 (Below w.heap.size w w'))
  case atStart => exact ⟨A, c, l, s, rfl, (by show _ = _; rfl), am_ ⟨HR.out, HC.out, HL.out⟩, am_ HRE.out, HK2, HB2⟩
  case round =>
    obtain ⟨A', c', r', t', rfl, hk, HC', HE', HK', HB'⟩ := hrel
    have HKQ := am_ hk.out
    clear hk
    have HGE := am_ (show w.heap.size ≤ g + 1 by omega)
    by_cases h8 : 8 ≤ r'.length
    · have hd : decide (8 ≤ r'.length) = true := decide_eq_true h8
      have hd2 : decide ((8 : Int) ≤ (r'.length : Int)) = true := decide_eq_true (by omega)
      have H8 := am_ h8
      clear h8
      obtain ⟨hc1, hc2⟩ := cut_to (A := A') (c := c') (n := r'.length) (l := r') 8 (jz := 8) rfl H8.out rfl HC'.out.2.1
      obtain ⟨A2, hf1, hf2, hf3⟩ := cut_from (A := A') (c := c') (n := r'.length) (l := r') 8 (r'.length - 8) (iz := 8) rfl rfl H8.out rfl HC'.out.2.1
      have HC2 := am_ hc2
      have HF2 := am_ hf2
      have HF3 := am_ hf3
      clear hc2 hf2 hf3
      have HL8 := am_ (show (r'.take 8).length = 8 by rw [List.length_take]; have := H8.out; omega)
      have HN8 := am_ (fun W (hW : Below w.heap.size w W) => num8_calls (c := c') (HC2.out W (Kd.C_below HC'.out.1 hW)) HL8.out (by have := H8.out; have := HC'.out.2.1; omega))
      have HGK := am_ (show 0 < gk from by have := HKQ.out; have := H8.out; omega)
      go_wp2_with (first
        | (go_at_call 60; (with_reducible refine (HN8.out _ ?hb).mono ?_); (case hb => (repeat (first | with_reducible exact HB'.out | with_reducible apply pw_below_drewN | with_reducible apply below_drew1))); rintro e x1 ⟨rfl, hb1⟩; have HB1 := am_ (below_step HB'.out hb1); have HX1 := am_ ((hb1.block (g + 1) (blk_lt HK'.out)).trans HK'.out); clear hb1)
        | (go_at_call 59; (with_reducible refine (take_calls (w0 := _) (s := t') _ (sip_here (s := t') HX1.out)).mono ?_); rintro e x2 ⟨rfl, hs2⟩; have HK2' := am_ hs2.blk; have HB2' := am_ (Chg.step HB1.out hs2.chg HGE.out); clear hs2))
      go_roundg (gk - 1)
      case measure => have := HGK.out; omega
      case rel =>
        exact ⟨A2, c' - 8, r'.drop 8, _, (by rw [List.length_drop]), (by show _ = _; rw [List.length_drop]; have := HKQ.out; have := H8.out; omega), am_ ⟨(by rw [List.length_drop]; exact HF2.out _ HC'.out.1), (by rw [List.length_drop]; exact HF3.out), (by rw [List.length_drop]; have := HC'.out.2.2; omega)⟩, am_ (by
          obtain ⟨m, hm⟩ : ∃ m, gk = m + 1 := ⟨gk - 1, by have := HGK.out; omega⟩
          have h1 := HE'.out
          rw [hm] at h1 ⊢
          exact h1), HK2', HB2'⟩
    · have hd : decide (8 ≤ r'.length) = false := decide_eq_false h8
      have hd2 : decide ((8 : Int) ≤ (r'.length : Int)) = false := decide_eq_false (by omega)
      have hk0 : gk = 0 := by have := HKQ.out; omega
      have HR' := am_ (show (r', t') = R from by have h1 := HE'.out; rw [hk0] at h1; exact h1)
      clear h8
      have HN8 := am_ (fun W (hW : Below w.heap.size w W) => num8_calls (c := c') (Kd.C_below HC'.out.1 hW) rfl HC'.out.2.1)
      have HTT := am_ (show takeS (Go.bits .or .u64 (numS r') (IntKind.u64.wrap (IntKind.u64.wrap (l.length : Int) * 72057594037927936))) t' = t from by have h1 := HT.out; rw [← HR'.out] at h1; exact h1)
      go_upto_region 7 with (first
        | (go_at_call 60; (with_reducible refine (HN8.out _ ?hb).mono ?_); (case hb => (repeat (first | with_reducible exact HB'.out | with_reducible apply pw_below_drewN | with_reducible apply below_drew1))); rintro e x1 ⟨rfl, hb1⟩; have HB1 := am_ (below_step HB'.out hb1); have HX1 := am_ ((hb1.block (g + 1) (blk_lt HK'.out)).trans HK'.out); clear hb1)
        | (go_at_call 59; (with_reducible refine (take_calls (w0 := _) (s := t') _ (sip_here (s := t') HX1.out)).mono ?_); rintro e x2 ⟨rfl, hs2⟩; have HK2' := am_ hs2.blk; have HB2' := am_ (Chg.step HB1.out hs2.chg HGE.out); clear hs2))
      refine wp_w (fun W => W.heap[g + 1]? = some (.cells #[.int .u64 t.a, .int .u64 t.b, .int .u64 t.c, .int .u64 t.d] 125 (0, 0)) ∧ Below w.heap.size w W) ?_ ?_
      · have e := HK2'.out
        rw [show takeS _ t' = t from HTT.out] at e
        exact ⟨e, HB2'.out⟩
      intro w3 h3
      have HK3 := am_ h3.1
      have HB3 := am_ h3.2
      clear h3
      obtain ⟨T0, T1, T2, T3⟩ := SipAt.cells (sip_here (s := t) HK3.out)
      obtain ⟨U0, U1, U2, U3⟩ := SipAt.free (sip_here (s := t) HK3.out)
      go_upto_region 8 with fail
      refine wp_w (fun W => SipS W W (g + 1) ⟨t.a, t.b, Go.bits .xor .u64 t.c 255, t.d⟩ ∧ Below w.heap.size w W) ?_ ?_
      · exact ⟨sip_here (SipAt.set2 (sip_here (s := t) HK3.out) _).blk, below_set HB3.out HGE.out⟩
      intro w4 h4
      have HK4 := am_ h4.1
      have HB4 := am_ h4.2
      clear h4 T0 T1 T2 T3 U0 U1 U2 U3
      go_upto_region 9 with (first
        | (go_at_call 61; (with_reducible refine (HLT.out _ _ HK4.out).mono ?_); rintro e w5 ⟨rfl, h5⟩; have HK5 := am_ h5; clear h5))
      obtain ⟨T0, T1, T2, T3⟩ := SipAt.cells HK5.out
      refine start_ (n := 20) (S := fun w' => w'.cell? ⟨g + 1, 0, none⟩ = some (.int .u64 u.a) ∧ w'.cell? ⟨g + 1, 1, none⟩ = some (.int .u64 u.b) ∧ w'.cell? ⟨g + 1, 2, none⟩ = some (.int .u64 u.c) ∧ w'.cell? ⟨g + 1, 3, none⟩ = some (.int .u64 u.d)) (ds := []) #[fF,fF,fF,fF,fF,fF,fF,fF,fF,fF,fF,fF,fF,fF,fF,fF,fF,fF,fF,fF] (by kernel_rfl) rfl rfl ⟨T0, T1, T2, T3⟩ (fun hHeld => ?_)
      refine p_ 0 50 ?_
      refine p_ 1 51 ?_
      refine p_ 2 52 ?_
      refine p_ 4 54 ?_
      refine p_ 5 55 ?_
      refine p_ 6 56 ?_
      refine p_ 9 59 ?_
      refine p_ 10 60 ?_
      refine p_ 11 61 ?_
      refine p_ 14 64 ?_
      refine p_ 15 65 ?_
      refine p_ 16 66 ?_
      refine t_ 3 53 hHeld ?_
      refine t_ 7 57 hHeld ?_
      refine p_ 8 58 ?_
      refine t_ 12 62 hHeld ?_
      refine p_ 13 63 ?_
      refine t_ 17 67 hHeld ?_
      refine p_ 18 68 ?_
      refine p_ 19 4 ?_
      refine done_ (by kernel_rfl) ?_
      go_wp2
      go_ret
      exact ⟨by rw [← HO.out]; rfl, (Chg.step HB4.out HK5.out.chg HGE.out).drew⟩
/-- A number's eight bytes. -/
def byteAt (n : Int) (i : Nat) : Int := IntKind.u64.wrap n / 2 ^ (8 * i) % 256
def bytes8 (n : Int) (i : Nat) : List Int := (List.range i).map (byteAt n)
theorem bytes8_succ (n : Int) (i : Nat) : bytes8 n (i + 1) = bytes8 n i ++ [byteAt n i] := by simp [bytes8, List.range_succ]
theorem bytes8_len (n : Int) (i : Nat) : (bytes8 n i).length = i := by simp [bytes8]
def wordsB : List Int → List Int
  | [] => []
  | n :: l => bytes8 n 8 ++ wordsB l
theorem wordsB_len : ∀ l, (wordsB l).length = l.length * 8
  | [] => rfl
  | n :: l => by simp only [wordsB, List.length_append, bytes8_len, wordsB_len l, List.length_cons]; omega
theorem wordsB_snoc : ∀ (l : List Int) (n : Int), wordsB (l ++ [n]) = wordsB l ++ bytes8 n 8
  | [], n => by simp [wordsB]
  | m :: l, n => by simp [wordsB, wordsB_snoc l n]
def wordsL (k : Ky) (l : List Int) : Int := ofL k (wordsB l)
theorem c2 {w : World} {g t : Nat} {a0 a1 : Value} (h : w.heap[g]? = some (.cells #[a0, a1] t (0, 0))) : w.cell? ⟨g, 0, none⟩ = some a0 ∧ w.cell? ⟨g, 1, none⟩ = some a1 := by
  simp [World.cell?, h]
theorem take_snoc {l : List Int} {j : Nat} (h : j < l.length) : l.take (j + 1) = l.take j ++ [l.getD j 0] := by
  rw [List.take_add_one, List.getElem?_eq_getElem h]; simp [h]
theorem words_calls {w : World} (k : Ky) {A : Option Addr} {c n : Nat} {l : List Int} (hr : Kd.C (Kd.int .i64) w A n l) (hn : l.length = n) (hc : n ≤ c) (hl : l.length ≤ 1000) :
    Calls Tryz.prog 20 #[.agg #[.int .u64 k.a, .int .u64 k.b], .slice A n c] w fun e w' => e = .returned (.int .u64 (wordsL k l)) ∧ Below w.heap.size w w' := by
  subst hn
  have HR := am_ hr
  have HC := am_ hc
  have HL := am_ hl
  obtain ⟨r, hrr⟩ : ∃ r, wordsL k l = r := ⟨_, rfl⟩
  rw [hrr]
  have HRR := am_ hrr
  obtain ⟨ka, kb⟩ := k
  clear hr hc hl hrr
  obtain ⟨g, HG⟩ : ∃ g, w.heap.size = g := ⟨_, rfl⟩
  have HW8 := am_ (show wrap64 (8 * (l.length : Int)) = ((8 * l.length : Nat) : Int) by have := HL.out; rw [wid (by omega) (by omega)]; omega)
  go_enter Tryz.func20, Tryz.ntmps20
  go_upto_region 1 with fail
  refine wp_w (fun W => W.heap[g]? = some (.cells #[.int .u64 ka, .int .u64 kb] 29 (0, 0)) ∧ Below w.heap.size w W) ?_ ?_
  · exact ⟨by rw [← HG]; exact new_blk w _, below_alloc (Below.refl w.heap.size w) _⟩
  intro w1 h1
  have HK1 := am_ h1.1
  have HB1 := am_ h1.2
  clear h1
  go_wp2_with (first
    | ((with_reducible refine gate_dst (N := 12) rfl ?_); (refine R_make_cap (w0 := w1) w1.heap.size rfl rfl (.const (.int .i64 0)) (.tmp 11) rfl 0 (8 * l.length) 0 _ rfl HW8.out rfl rfl (by omega) (by have := HL.out; omega) (Below.refl _ w1) (Nat.le_refl _) ?_; intro v2 w2 ho hb1 hg hat; have HO2 := am_ ho; have HB2 := am_ hb1; clear ho hb1 hg hat)))
  go_loopg [15, 5] l.length (fun kq v15 v5 w' => ∃ (j : Nat) (A' : Option Addr) (c' : Nat) (xs : List Int), v15 = .int .i64 (j : Int) ∧ v5 = .slice A' xs.length c' ∧ Aside (kq + j = l.length) ∧ Aside0 (xs = wordsB (l.take j)) ∧ Aside0 (RB w1.heap.size w' (.slice A' xs.length c') xs) ∧ Aside0 (Below w1.heap.size w1 w'))
  case atStart =>
    obtain ⟨A2, c2, rfl⟩ := Kd.R_slice HO2.out
    exact ⟨0, A2, c2, [], rfl, rfl, (by show _ = _; omega), am_ rfl, HO2, HB2⟩
  case round =>
    obtain ⟨j, A', c', xs, rfl, rfl, hk, HX, HO, HB⟩ := hrel
    have HKQ := am_ hk.out
    clear hk
    rename World => wr1
    obtain ⟨gko, HGKO⟩ : ∃ n, gk = n := ⟨_, rfl⟩
    by_cases hlt : j < l.length
    · have hd : decide (j < l.length) = true := decide_eq_true hlt
      have HLT := am_ hlt
      have HGK := am_ (show 0 < gk from by have := HKQ.out; omega)
      obtain ⟨ad, ead, hcell⟩ := Kd.at_int (Kd.C_below HR.out (below_step HB1.out HB.out)) (j : Int) (by omega) (by omega)
      rw [Int.toNat_natCast] at hcell
      subst ead
      obtain ⟨x, hx⟩ : ∃ x, rd l (j : Int) = x := ⟨_, rfl⟩
      rw [hx] at hcell
      have HXX := am_ hx
      clear hx
      have hj0 : (0 : Int) ≤ (j : Int) := by omega
      go_wp2
      go_loopg [19, 5] 8 (fun kq v19 v5 w' => ∃ (i : Nat) (A2 : Option Addr) (c2 : Nat) (ys : List Int), v19 = .int .i64 (i : Int) ∧ v5 = .slice A2 ys.length c2 ∧ Aside (kq + i = 8) ∧ Aside0 (ys = xs ++ bytes8 x i) ∧ Aside0 (RB w1.heap.size w' (.slice A2 ys.length c2) ys) ∧ Aside0 (Below w1.heap.size w1 w'))
      case atStart => exact ⟨0, A', c', xs, rfl, rfl, (by show _ = _; omega), am_ (by simp [bytes8]), HO, HB⟩
      case round =>
        obtain ⟨i, A2, c2, ys, rfl, rfl, hk, HX2, HO2, HB2⟩ := hrel
        rename World => wr2
        have HKQ2 := am_ hk.out
        clear hk
        by_cases hli : i < 8
        · have hdi : decide (i < 8) = true := decide_eq_true hli
          have HLI := am_ hli
          have HGK2 := am_ (show 0 < gk from by have := HKQ2.out; omega)
          have hw8 : wrap64 (8 * (i : Int)) = ((8 * i : Nat) : Int) := by rw [wid (by omega) (by omega)]; omega
          have hmin : min (8 * i) 64 = 8 * i := by omega
          have hdi2 : decide ((i : Int) < 8) = true := decide_eq_true (by omega)
          have HYL := am_ (show (ys.length + 1) * 1 ≤ 140737488355328 by rw [HX2.out, List.length_append, bytes8_len, HX.out, wordsB_len, List.length_take]; have := HL.out; omega)
          go_wp2_with (first
            | ((with_reducible refine gate_dst (N := 29) rfl ?_); (refine Kd.R_lit (Kd.int .u8) (w0 := w1) w1.heap.size 5 ?hg (N := 29) ?hd (xs := ([(IntKind.u64.wrap x / 2 ^ (8 * i) % 256)] : List Int)) (inner := [.int .u8 (IntKind.u64.wrap x / 2 ^ (8 * i) % 256)]) (ok := fun _ => True) (okp := fun _ => True) ?hr ?hp (fun _ hk => hk) trivial HB2.out HB2.out.size (by simp) ?_; (case hd => rfl); (case hg => rfl); (case hr => first | (go_simp; done) | (go_simp; rfl)); (case hp => exact (Reps.one (show Kd.M (Kd.int .u8) _ _ _ (IntKind.u64.wrap x / 2 ^ (8 * i) % 256) [.int .u8 (IntKind.u64.wrap x / 2 ^ (8 * i) % 256)] from rfl) (Reps.none _ _))); intro v29 w3 ho hb hg hat; have HO3 := am_ (Kd.R_grown HO2.out hg (fun _ _ => by simp)); have HB3 := am_ hb; obtain ⟨Al, cl, el⟩ := Kd.R_slice ho; subst el; have HLC := am_ (Kd.R_reads' ho); clear ho hb hg hat))
            | ((with_reducible refine gate_builtin (b := .append) (xs := #[.tmp 22, .tmp 29]) rfl ?_); at_builtin; (refine Kd.R_append_rows (Kd.int .u8) (w0 := w1) w1.heap.size rfl (.tmp 22) (.tmp 29) 35 5 (.int .u8 0) 1 rfl Tryz.underlying35 info5 rfl (by decide) (by omega) (.slice A2 ys.length c2) ys [(IntKind.u64.wrap x / 2 ^ (8 * i) % 256)] Al 1 cl (fun _ => True) (fun _ => False) rfl rfl HO3.out HLC.out.2.2 (fun _ _ h => h) (fun _ h => h.elim) (fun _ _ => trivial) HB3.out HB3.out.size HYL.out ?_; intro v4 w4 ho hb hg hat; have HO4 := am_ ho; have HB4 := am_ hb; clear hb ho hg hat)))
          obtain ⟨A4, c4, rfl⟩ := Kd.R_slice HO4.out
          have HE4 := am_ (show (ys ++ [IntKind.u64.wrap x / 2 ^ (8 * i) % 256]) = xs ++ bytes8 x (i + 1) by rw [HX2.out, bytes8_succ, List.append_assoc]; rfl)
          go_roundg (gk - 1)
          case measure => have := HGK2.out; omega
          case rel => exact ⟨i + 1, A4, c4, _, rfl, rfl, (by show _ = _; have := HKQ2.out; have := HGK2.out; omega), HE4, HO4, HB4⟩
        · have hdi : decide (i < 8) = false := decide_eq_false hli
          have hdi2 : decide ((i : Int) < 8) = false := decide_eq_false (by omega)
          have HI8 := am_ (show i = 8 by have := HKQ2.out; omega)
          clear hli
          go_wp2
          go_roundg (gko - 1)
          case measure => have := HGK.out; omega
          case rel =>
            have hb1 := HLT.out
            have hb2 := HL.out
            have hys : ys = wordsB (l.take (j + 1)) := by
              rw [HX2.out, HI8.out, HX.out, take_snoc HLT.out, wordsB_snoc]
              congr 2
              rw [← HXX.out, rd_nat]
            exact ⟨j + 1, A2, c2, ys, (by show Value.int _ _ = Value.int _ _; rw [wid (by omega) (by omega)]; rfl), rfl, (by show _ = _; have := HKQ.out; have := HGK.out; omega), am_ hys, HO2, HB2⟩
    · have hd : decide (j < l.length) = false := decide_eq_false hlt
      have HJ := am_ (show xs = wordsB l by rw [HX.out, List.take_of_length_le (by omega)])
      clear hlt
      obtain ⟨k0, k1⟩ := c2 ((HB.out.block g (blk_lt HK1.out)).trans HK1.out)
      have HOF := am_ (fun W (hW : Below wr1.heap.size wr1 W) => of_calls ⟨ka, kb⟩ (w := W) (A := A') (c := c') (l := xs) (Kd.C_below (by have e := Kd.R_reads' HO.out; have := e.2.2; exact this) hW) rfl (by have e := Kd.R_reads' HO.out; have := e.2.1; rw [e.1] at this; exact this) (by rw [HJ.out, wordsB_len]; have := HL.out; omega))
      go_wp2_with (first | (go_at_call 21; ((with_reducible refine (HOF.out _ ?hb).mono ?_); (case hb => (repeat (first | with_reducible exact Below.refl _ _ | with_reducible apply pw_below_drewN | with_reducible apply below_drew1))); rintro e x1 ⟨rfl, hb1⟩; have HBF := am_ (below_step (below_step HB1.out HB.out) hb1))))
      go_ret
      have hrw : ofL ⟨ka, kb⟩ xs = r := by rw [HJ.out]; exact HRR.out
      exact ⟨by rw [← hrw]; rfl, HBF.out⟩
theorem left_some (x : Int) {k : Int} (hk : k = 13 ∨ k = 16 ∨ k = 17 ∨ k = 21 ∨ k = 32) : roundhouseref2_left.f x k = some (rotl x k) := by
  rcases hk with rfl | rfl | rfl | rfl | rfl <;> · unfold rotl bits_RotateLeft64.f roundhouseref2_left.f; rw [if_pos (by decide), if_pos (by decide), if_pos (by decide), if_pos (by decide)]; rfl
theorem left_calls (x : Int) {k : Int} (hk : k = 13 ∨ k = 16 ∨ k = 17 ∨ k = 21 ∨ k = 32) (w : World) : Calls Tryz.prog 110 #[.int .u64 x, .int .u64 k] w fun e w' => e = .returned (.int .u64 (rotl x k)) ∧ Drawn0 w w' :=
  roundhouseref2_left.calls x k _ w (left_some x hk)
/-- The reference's four numbers in a block of their own. -/
structure RefAt (w0 w : World) (b : Nat) (x0 x1 x2 x3 : Int) : Prop where
  blk : w.heap[b]? = some (.cells #[.int .u64 x0, .int .u64 x1, .int .u64 x2, .int .u64 x3] 176 (0, 0))
  chg : Chg b w0 w
theorem RefAt.drewN {w0 w : World} {b : Nat} {x0 x1 x2 x3 : Int} (h : RefAt w0 w b x0 x1 x2 x3) (n : Nat) : RefAt w0 (w.drewN n) b x0 x1 x2 x3 := ⟨h.blk, h.chg.drewN n⟩
theorem RefAt.drew {w0 w : World} {b : Nat} {x0 x1 x2 x3 : Int} (h : RefAt w0 w b x0 x1 x2 x3) : RefAt w0 w.drew b x0 x1 x2 x3 := ⟨h.blk, h.chg.drew⟩
theorem RefAt.set0 {w0 w : World} {b : Nat} {x0 x1 x2 x3 : Int} (h : RefAt w0 w b x0 x1 x2 x3) (v : Int) : RefAt w0 (w.setCell ⟨b, 0, none⟩ (.int .u64 v)) b v x1 x2 x3 := ⟨heap_setCell_same _ _ _ _ _ _ h.blk, h.chg.set _ _⟩
theorem RefAt.set1 {w0 w : World} {b : Nat} {x0 x1 x2 x3 : Int} (h : RefAt w0 w b x0 x1 x2 x3) (v : Int) : RefAt w0 (w.setCell ⟨b, 1, none⟩ (.int .u64 v)) b x0 v x2 x3 := ⟨heap_setCell_same _ _ _ _ _ _ h.blk, h.chg.set _ _⟩
theorem RefAt.set2 {w0 w : World} {b : Nat} {x0 x1 x2 x3 : Int} (h : RefAt w0 w b x0 x1 x2 x3) (v : Int) : RefAt w0 (w.setCell ⟨b, 2, none⟩ (.int .u64 v)) b x0 x1 v x3 := ⟨heap_setCell_same _ _ _ _ _ _ h.blk, h.chg.set _ _⟩
theorem RefAt.set3 {w0 w : World} {b : Nat} {x0 x1 x2 x3 : Int} (h : RefAt w0 w b x0 x1 x2 x3) (v : Int) : RefAt w0 (w.setCell ⟨b, 3, none⟩ (.int .u64 v)) b x0 x1 x2 v := ⟨heap_setCell_same _ _ _ _ _ _ h.blk, h.chg.set _ _⟩
theorem RefAt.cells {w0 w : World} {b : Nat} {x0 x1 x2 x3 : Int} (h : RefAt w0 w b x0 x1 x2 x3) : w.cell? ⟨b, 0, none⟩ = some (.int .u64 x0) ∧ w.cell? ⟨b, 1, none⟩ = some (.int .u64 x1) ∧ w.cell? ⟨b, 2, none⟩ = some (.int .u64 x2) ∧ w.cell? ⟨b, 3, none⟩ = some (.int .u64 x3) :=
  ⟨cell_of_row w b 0 _ _ _ h.blk, cell_of_row w b 1 _ _ _ h.blk, cell_of_row w b 2 _ _ _ h.blk, cell_of_row w b 3 _ _ _ h.blk⟩
theorem RefAt.free {w0 w : World} {b : Nat} {x0 x1 x2 x3 : Int} (h : RefAt w0 w b x0 x1 x2 x3) : w.frozen? ⟨b, 0, none⟩ = false ∧ w.frozen? ⟨b, 1, none⟩ = false ∧ w.frozen? ⟨b, 2, none⟩ = false ∧ w.frozen? ⟨b, 3, none⟩ = false :=
  ⟨frozen_of_row w b 0 _ _ h.blk, frozen_of_row w b 1 _ _ h.blk, frozen_of_row w b 2 _ _ h.blk, frozen_of_row w b 3 _ _ h.blk⟩
def RefS (w0 w : World) (b : Nat) (s : S4) : Prop := RefAt w0 w b s.a s.b s.c s.d
theorem rround_calls {w0 w : World} {b : Nat} {s : S4} (h : RefS w0 w b s) :
    Calls Tryz.prog 108 #[.pointer (some ⟨b, 0, none⟩)] w fun e w' => e = .returned (.tuple #[]) ∧ RefS w0 w' b (roundS s) := by
  obtain ⟨x0, x1, x2, x3⟩ := s
  change RefAt w0 w b x0 x1 x2 x3 at h
  have H0 := am_ h
  obtain ⟨T0, T1, T2, T3⟩ := h.cells
  obtain ⟨U0, U1, U2, U3⟩ := h.free
  clear h
  go_enter Tryz.func108, Tryz.ntmps108
  go_upto_region 0 with fail
  refine start_ (n := 13) (S := fun w' => w'.cell? ⟨b, 0, none⟩ = some (.int .u64 x0) ∧ w'.cell? ⟨b, 1, none⟩ = some (.int .u64 x1)) (ds := [12]) #[fF,fF,fF,fF,fF,fF,fF,fF,fF,fF,fF,fF,fF] (by kernel_rfl) rfl rfl ⟨T0, T1⟩ (fun hHeld => ?_)
  refine p_ 0 2 ?_
  refine p_ 1 3 ?_
  refine p_ 2 4 ?_
  refine p_ 3 5 ?_
  refine p_ 5 7 ?_
  refine p_ 6 8 ?_
  refine p_ 7 9 ?_
  refine t_ 4 6 hHeld ?_
  refine t_ 8 10 hHeld ?_
  refine p_ 9 11 ?_
  refine p_ 10 12 ?_
  refine p_ 11 13 ?_
  refine l_ 12 none (fun K hK => ?_)
  refine s_ ?_
  refine hK.out _ _ ?_
  clear hK K
  refine done_ (by kernel_rfl) ?_
  have HE0 : Aside0 (∃ z, IntKind.u64.wrap (x0 + x1) = z) := am_ ⟨_, rfl⟩
  obtain ⟨z0, hz0⟩ := HE0.out
  clear HE0
  refine ex_w (fun W => RefAt w0 W b z0 x1 x2 x3) ?_ ?_
  · subst hz0; first | exact (H0.out.set0 _).drew | exact (H0.out.drewN _).set0 _ | exact ((H0.out.drewN _).set0 _).drew
  intro v0 hv
  have H1 := am_ hv
  have HZ0 := am_ hz0
  clear hz0 T0 T1 T2 T3 U0 U1 U2 U3 H0
  try clear hHeld
  obtain ⟨T0, T1, T2, T3⟩ := hv.cells
  obtain ⟨U0, U1, U2, U3⟩ := hv.free
  clear hv
  go_upto_region 1 with fail
  refine start_ (n := 14) (S := fun w' => w'.cell? ⟨b, 0, none⟩ = some (.int .u64 z0) ∧ w'.cell? ⟨b, 1, none⟩ = some (.int .u64 x1)) (ds := [13]) #[fF,fF,fF,fF,fF,fF,fF,fF,fF,fF,fF,fF,fF,fF] (by kernel_rfl) rfl rfl ⟨T0, T1⟩ (fun hHeld => ?_)
  refine p_ 0 14 ?_
  refine p_ 1 15 ?_
  refine p_ 2 16 ?_
  refine p_ 3 17 ?_
  refine p_ 6 20 ?_
  refine p_ 7 21 ?_
  refine p_ 8 22 ?_
  refine t_ 4 18 hHeld ?_
  refine t_ 9 23 hHeld ?_
  refine o_ 5 (some 19) (fun K hK => ?_)
  refine g_ Tryz.func110 #[.int .u64 x1, .int .u64 13] ?_
  with_reducible refine (left_calls _ (by decide) _).mono ?_
  rintro e w3 ⟨rfl, ⟨⟨nq, rfl⟩⟩⟩
  refine ⟨_, rfl, ?_⟩
  refine hK.out _ _ ⟨T0, T1⟩ (fun hHeld => ?_)
  clear hK K
  refine n_ 19 ?_
  refine p_ 10 24 ?_
  refine p_ 11 25 ?_
  refine p_ 12 26 ?_
  refine l_ 13 none (fun K hK => ?_)
  refine s_ ?_
  refine hK.out _ _ ?_
  clear hK K
  refine done_ (by kernel_rfl) ?_
  have HE1 : Aside0 (∃ z, Go.bits .xor .u64 (rotl x1 13) z0 = z) := am_ ⟨_, rfl⟩
  obtain ⟨z1, hz1⟩ := HE1.out
  clear HE1
  refine ex_w (fun W => RefAt w0 W b z0 z1 x2 x3) ?_ ?_
  · subst hz1; first | exact (H1.out.set1 _).drew | exact (H1.out.drewN _).set1 _ | exact ((H1.out.drewN _).set1 _).drew
  intro v1 hv
  have H2 := am_ hv
  have HZ1 := am_ hz1
  clear hz1 T0 T1 T2 T3 U0 U1 U2 U3 H1
  try clear hHeld
  obtain ⟨T0, T1, T2, T3⟩ := hv.cells
  obtain ⟨U0, U1, U2, U3⟩ := hv.free
  clear hv
  go_upto_region 3 with (first | (go_at_call 110; (with_reducible refine (left_calls _ (by decide) _).mono ?_); rintro e w3 ⟨rfl, ⟨⟨nq, rfl⟩⟩⟩))
  have HE2 : Aside0 (∃ z, rotl z0 32 = z) := am_ ⟨_, rfl⟩
  obtain ⟨z2, hz2⟩ := HE2.out
  clear HE2
  refine wp_w (fun W => RefAt w0 W b z2 z1 x2 x3) ?_ ?_
  · subst hz2; first | exact (H2.out.set0 _).drew | exact (H2.out.drewN _).set0 _ | exact ((H2.out.drewN _).set0 _).drew
  intro v2 hv
  have H3 := am_ hv
  have HZ2 := am_ hz2
  clear hz2 T0 T1 T2 T3 U0 U1 U2 U3 H2
  try clear hHeld
  obtain ⟨T0, T1, T2, T3⟩ := hv.cells
  obtain ⟨U0, U1, U2, U3⟩ := hv.free
  clear hv
  go_upto_region 3 with fail
  refine start_ (n := 13) (S := fun w' => w'.cell? ⟨b, 2, none⟩ = some (.int .u64 x2) ∧ w'.cell? ⟨b, 3, none⟩ = some (.int .u64 x3)) (ds := [12]) #[fF,fF,fF,fF,fF,fF,fF,fF,fF,fF,fF,fF,fF] (by kernel_rfl) rfl rfl ⟨T2, T3⟩ (fun hHeld => ?_)
  refine p_ 0 35 ?_
  refine p_ 1 36 ?_
  refine p_ 2 37 ?_
  refine p_ 3 38 ?_
  refine p_ 5 40 ?_
  refine p_ 6 41 ?_
  refine p_ 7 42 ?_
  refine t_ 4 39 hHeld ?_
  refine t_ 8 43 hHeld ?_
  refine p_ 9 44 ?_
  refine p_ 10 45 ?_
  refine p_ 11 46 ?_
  refine l_ 12 none (fun K hK => ?_)
  refine s_ ?_
  refine hK.out _ _ ?_
  clear hK K
  refine done_ (by kernel_rfl) ?_
  have HE3 : Aside0 (∃ z, IntKind.u64.wrap (x2 + x3) = z) := am_ ⟨_, rfl⟩
  obtain ⟨z3, hz3⟩ := HE3.out
  clear HE3
  refine ex_w (fun W => RefAt w0 W b z2 z1 z3 x3) ?_ ?_
  · subst hz3; first | exact (H3.out.set2 _).drew | exact (H3.out.drewN _).set2 _ | exact ((H3.out.drewN _).set2 _).drew
  intro v3 hv
  have H4 := am_ hv
  have HZ3 := am_ hz3
  clear hz3 T0 T1 T2 T3 U0 U1 U2 U3 H3
  try clear hHeld
  obtain ⟨T0, T1, T2, T3⟩ := hv.cells
  obtain ⟨U0, U1, U2, U3⟩ := hv.free
  clear hv
  go_upto_region 4 with fail
  refine start_ (n := 14) (S := fun w' => w'.cell? ⟨b, 2, none⟩ = some (.int .u64 z3) ∧ w'.cell? ⟨b, 3, none⟩ = some (.int .u64 x3)) (ds := [13]) #[fF,fF,fF,fF,fF,fF,fF,fF,fF,fF,fF,fF,fF,fF] (by kernel_rfl) rfl rfl ⟨T2, T3⟩ (fun hHeld => ?_)
  refine p_ 0 47 ?_
  refine p_ 1 48 ?_
  refine p_ 2 49 ?_
  refine p_ 3 50 ?_
  refine p_ 6 53 ?_
  refine p_ 7 54 ?_
  refine p_ 8 55 ?_
  refine t_ 4 51 hHeld ?_
  refine t_ 9 56 hHeld ?_
  refine o_ 5 (some 52) (fun K hK => ?_)
  refine g_ Tryz.func110 #[.int .u64 x3, .int .u64 16] ?_
  with_reducible refine (left_calls _ (by decide) _).mono ?_
  rintro e w3 ⟨rfl, ⟨⟨nq, rfl⟩⟩⟩
  refine ⟨_, rfl, ?_⟩
  refine hK.out _ _ ⟨T2, T3⟩ (fun hHeld => ?_)
  clear hK K
  refine n_ 52 ?_
  refine p_ 10 57 ?_
  refine p_ 11 58 ?_
  refine p_ 12 59 ?_
  refine l_ 13 none (fun K hK => ?_)
  refine s_ ?_
  refine hK.out _ _ ?_
  clear hK K
  refine done_ (by kernel_rfl) ?_
  have HE4 : Aside0 (∃ z, Go.bits .xor .u64 (rotl x3 16) z3 = z) := am_ ⟨_, rfl⟩
  obtain ⟨z4, hz4⟩ := HE4.out
  clear HE4
  refine ex_w (fun W => RefAt w0 W b z2 z1 z3 z4) ?_ ?_
  · subst hz4; first | exact (H4.out.set3 _).drew | exact (H4.out.drewN _).set3 _ | exact ((H4.out.drewN _).set3 _).drew
  intro v4 hv
  have H5 := am_ hv
  have HZ4 := am_ hz4
  clear hz4 T0 T1 T2 T3 U0 U1 U2 U3 H4
  try clear hHeld
  obtain ⟨T0, T1, T2, T3⟩ := hv.cells
  obtain ⟨U0, U1, U2, U3⟩ := hv.free
  clear hv
  go_upto_region 5 with fail
  refine start_ (n := 13) (S := fun w' => w'.cell? ⟨b, 0, none⟩ = some (.int .u64 z2) ∧ w'.cell? ⟨b, 3, none⟩ = some (.int .u64 z4)) (ds := [12]) #[fF,fF,fF,fF,fF,fF,fF,fF,fF,fF,fF,fF,fF] (by kernel_rfl) rfl rfl ⟨T0, T3⟩ (fun hHeld => ?_)
  refine p_ 0 60 ?_
  refine p_ 1 61 ?_
  refine p_ 2 62 ?_
  refine p_ 3 63 ?_
  refine p_ 5 65 ?_
  refine p_ 6 66 ?_
  refine p_ 7 67 ?_
  refine t_ 4 64 hHeld ?_
  refine t_ 8 68 hHeld ?_
  refine p_ 9 69 ?_
  refine p_ 10 70 ?_
  refine p_ 11 71 ?_
  refine l_ 12 none (fun K hK => ?_)
  refine s_ ?_
  refine hK.out _ _ ?_
  clear hK K
  refine done_ (by kernel_rfl) ?_
  have HE5 : Aside0 (∃ z, IntKind.u64.wrap (z2 + z4) = z) := am_ ⟨_, rfl⟩
  obtain ⟨z5, hz5⟩ := HE5.out
  clear HE5
  refine ex_w (fun W => RefAt w0 W b z5 z1 z3 z4) ?_ ?_
  · subst hz5; first | exact (H5.out.set0 _).drew | exact (H5.out.drewN _).set0 _ | exact ((H5.out.drewN _).set0 _).drew
  intro v5 hv
  have H6 := am_ hv
  have HZ5 := am_ hz5
  clear hz5 T0 T1 T2 T3 U0 U1 U2 U3 H5
  try clear hHeld
  obtain ⟨T0, T1, T2, T3⟩ := hv.cells
  obtain ⟨U0, U1, U2, U3⟩ := hv.free
  clear hv
  go_upto_region 6 with fail
  refine start_ (n := 14) (S := fun w' => w'.cell? ⟨b, 0, none⟩ = some (.int .u64 z5) ∧ w'.cell? ⟨b, 3, none⟩ = some (.int .u64 z4)) (ds := [13]) #[fF,fF,fF,fF,fF,fF,fF,fF,fF,fF,fF,fF,fF,fF] (by kernel_rfl) rfl rfl ⟨T0, T3⟩ (fun hHeld => ?_)
  refine p_ 0 72 ?_
  refine p_ 1 73 ?_
  refine p_ 2 74 ?_
  refine p_ 3 75 ?_
  refine p_ 6 78 ?_
  refine p_ 7 79 ?_
  refine p_ 8 80 ?_
  refine t_ 4 76 hHeld ?_
  refine t_ 9 81 hHeld ?_
  refine o_ 5 (some 77) (fun K hK => ?_)
  refine g_ Tryz.func110 #[.int .u64 z4, .int .u64 21] ?_
  with_reducible refine (left_calls _ (by decide) _).mono ?_
  rintro e w3 ⟨rfl, ⟨⟨nq, rfl⟩⟩⟩
  refine ⟨_, rfl, ?_⟩
  refine hK.out _ _ ⟨T0, T3⟩ (fun hHeld => ?_)
  clear hK K
  refine n_ 77 ?_
  refine p_ 10 82 ?_
  refine p_ 11 83 ?_
  refine p_ 12 84 ?_
  refine l_ 13 none (fun K hK => ?_)
  refine s_ ?_
  refine hK.out _ _ ?_
  clear hK K
  refine done_ (by kernel_rfl) ?_
  have HE6 : Aside0 (∃ z, Go.bits .xor .u64 (rotl z4 21) z5 = z) := am_ ⟨_, rfl⟩
  obtain ⟨z6, hz6⟩ := HE6.out
  clear HE6
  refine ex_w (fun W => RefAt w0 W b z5 z1 z3 z6) ?_ ?_
  · subst hz6; first | exact (H6.out.set3 _).drew | exact (H6.out.drewN _).set3 _ | exact ((H6.out.drewN _).set3 _).drew
  intro v6 hv
  have H7 := am_ hv
  have HZ6 := am_ hz6
  clear hz6 T0 T1 T2 T3 U0 U1 U2 U3 H6
  try clear hHeld
  obtain ⟨T0, T1, T2, T3⟩ := hv.cells
  obtain ⟨U0, U1, U2, U3⟩ := hv.free
  clear hv
  go_upto_region 7 with fail
  refine start_ (n := 13) (S := fun w' => w'.cell? ⟨b, 1, none⟩ = some (.int .u64 z1) ∧ w'.cell? ⟨b, 2, none⟩ = some (.int .u64 z3)) (ds := [12]) #[fF,fF,fF,fF,fF,fF,fF,fF,fF,fF,fF,fF,fF] (by kernel_rfl) rfl rfl ⟨T1, T2⟩ (fun hHeld => ?_)
  refine p_ 0 85 ?_
  refine p_ 1 86 ?_
  refine p_ 2 87 ?_
  refine p_ 3 88 ?_
  refine p_ 5 90 ?_
  refine p_ 6 91 ?_
  refine p_ 7 92 ?_
  refine t_ 4 89 hHeld ?_
  refine t_ 8 93 hHeld ?_
  refine p_ 9 94 ?_
  refine p_ 10 95 ?_
  refine p_ 11 96 ?_
  refine l_ 12 none (fun K hK => ?_)
  refine s_ ?_
  refine hK.out _ _ ?_
  clear hK K
  refine done_ (by kernel_rfl) ?_
  have HE7 : Aside0 (∃ z, IntKind.u64.wrap (z3 + z1) = z) := am_ ⟨_, rfl⟩
  obtain ⟨z7, hz7⟩ := HE7.out
  clear HE7
  refine ex_w (fun W => RefAt w0 W b z5 z1 z7 z6) ?_ ?_
  · subst hz7; first | exact (H7.out.set2 _).drew | exact (H7.out.drewN _).set2 _ | exact ((H7.out.drewN _).set2 _).drew
  intro v7 hv
  have H8 := am_ hv
  have HZ7 := am_ hz7
  clear hz7 T0 T1 T2 T3 U0 U1 U2 U3 H7
  try clear hHeld
  obtain ⟨T0, T1, T2, T3⟩ := hv.cells
  obtain ⟨U0, U1, U2, U3⟩ := hv.free
  clear hv
  go_upto_region 8 with fail
  refine start_ (n := 14) (S := fun w' => w'.cell? ⟨b, 1, none⟩ = some (.int .u64 z1) ∧ w'.cell? ⟨b, 2, none⟩ = some (.int .u64 z7)) (ds := [13]) #[fF,fF,fF,fF,fF,fF,fF,fF,fF,fF,fF,fF,fF,fF] (by kernel_rfl) rfl rfl ⟨T1, T2⟩ (fun hHeld => ?_)
  refine p_ 0 97 ?_
  refine p_ 1 98 ?_
  refine p_ 2 99 ?_
  refine p_ 3 100 ?_
  refine p_ 6 103 ?_
  refine p_ 7 104 ?_
  refine p_ 8 105 ?_
  refine t_ 4 101 hHeld ?_
  refine t_ 9 106 hHeld ?_
  refine o_ 5 (some 102) (fun K hK => ?_)
  refine g_ Tryz.func110 #[.int .u64 z1, .int .u64 17] ?_
  with_reducible refine (left_calls _ (by decide) _).mono ?_
  rintro e w3 ⟨rfl, ⟨⟨nq, rfl⟩⟩⟩
  refine ⟨_, rfl, ?_⟩
  refine hK.out _ _ ⟨T1, T2⟩ (fun hHeld => ?_)
  clear hK K
  refine n_ 102 ?_
  refine p_ 10 107 ?_
  refine p_ 11 108 ?_
  refine p_ 12 109 ?_
  refine l_ 13 none (fun K hK => ?_)
  refine s_ ?_
  refine hK.out _ _ ?_
  clear hK K
  refine done_ (by kernel_rfl) ?_
  have HE8 : Aside0 (∃ z, Go.bits .xor .u64 (rotl z1 17) z7 = z) := am_ ⟨_, rfl⟩
  obtain ⟨z8, hz8⟩ := HE8.out
  clear HE8
  refine ex_w (fun W => RefAt w0 W b z5 z8 z7 z6) ?_ ?_
  · subst hz8; first | exact (H8.out.set1 _).drew | exact (H8.out.drewN _).set1 _ | exact ((H8.out.drewN _).set1 _).drew
  intro v8 hv
  have H9 := am_ hv
  have HZ8 := am_ hz8
  clear hz8 T0 T1 T2 T3 U0 U1 U2 U3 H8
  try clear hHeld
  obtain ⟨T0, T1, T2, T3⟩ := hv.cells
  obtain ⟨U0, U1, U2, U3⟩ := hv.free
  clear hv
  go_wp2_with (first | (go_at_call 110; (with_reducible refine (left_calls _ (by decide) _).mono ?_); rintro e w3 ⟨rfl, ⟨⟨nq, rfl⟩⟩⟩))
  go_end0
  refine ⟨rfl, ?_⟩
  have hf : ∀ W, RefAt w0 W b z5 z8 (rotl z7 32) z6 → RefS w0 W b (roundS ⟨x0, x1, x2, x3⟩) := by
    intro W hW
    have q := hW
    rw [← HZ8.out, ← HZ7.out, ← HZ6.out, ← HZ5.out, ← HZ4.out, ← HZ3.out, ← HZ2.out, ← HZ1.out, ← HZ0.out] at q
    exact q
  refine hf _ ?_
  exact (H9.out.drewN _).set2 _
theorem reat_calls {w0 w : World} {b : Nat} {s : S4} (n : Int) (h : RefS w0 w b s) :
    Calls Tryz.prog 106 #[.pointer (some ⟨b, 0, none⟩), .int .u64 n] w fun e w' => e = .returned (.tuple #[]) ∧ RefS w0 w' b (takeS n s) := by
  obtain ⟨x0, x1, x2, x3⟩ := s
  change RefAt w0 w b x0 x1 x2 x3 at h
  have H0 := am_ h
  obtain ⟨T0, T1, T2, T3⟩ := h.cells
  obtain ⟨U0, U1, U2, U3⟩ := h.free
  clear h
  obtain ⟨t, ht⟩ : ∃ t, roundS ⟨x0, x1, x2, Go.bits .xor .u64 x3 n⟩ = t := ⟨_, rfl⟩
  obtain ⟨u, hu⟩ : ∃ u, roundS t = u := ⟨_, rfl⟩
  have HR1 := am_ (fun W (hW : RefS w0 W b ⟨x0, x1, x2, Go.bits .xor .u64 x3 n⟩) => ht ▸ rround_calls hW)
  have HR2 := am_ (fun W (hW : RefS w0 W b t) => hu ▸ rround_calls hW)
  have hg : takeS n ⟨x0, x1, x2, x3⟩ = ⟨Go.bits .xor .u64 u.a n, u.b, u.c, u.d⟩ := by rw [← hu, ← ht]; rfl
  rw [hg]
  clear hg ht hu
  go_enter Tryz.func106, Tryz.ntmps106
  go_upto_region 1 with fail
  refine wp_w (fun W => RefS w0 W b ⟨x0, x1, x2, Go.bits .xor .u64 x3 n⟩) ?_ ?_
  · exact H0.out.set3 _
  intro w1 h1
  have H1 := am_ h1
  clear h1 T0 T1 T2 T3 U0 U1 U2 U3 H0
  go_upto_region 2 with (first | (go_at_call 108; (with_reducible refine (HR1.out _ H1.out).mono ?_); rintro e w2 ⟨rfl, h2⟩; have H2 := am_ h2; clear h2))
  go_upto_region 3 with (first | (go_at_call 108; (with_reducible refine (HR2.out _ H2.out).mono ?_); rintro e w3 ⟨rfl, h3⟩; have H3 := am_ h3; obtain ⟨T0, T1, T2, T3⟩ := RefAt.cells h3; obtain ⟨U0, U1, U2, U3⟩ := RefAt.free h3; clear h3))
  go_wp2
  go_end0
  exact ⟨rfl, RefAt.set0 H3.out _⟩
theorem mn_len {l : List Int} (h : l.length ≤ 8) : mn (l.length : Int) 8 = (l.length : Int) := by unfold mn; split <;> omega
theorem low_l0 {l : List Int} (hl : l.length ≤ 8) : ∀ (k j : Nat) (x : Int), j ≤ l.length → roundhouseref2_low.l0 k l x j = sip_number_byte.l0 k l x (l.length : Int) j
  | 0, j, x, _ => rfl
  | k + 1, j, x, h => by
    simp only [roundhouseref2_low.l0, sip_number_byte.l0]
    by_cases hj : (j : Int) < (l.length : Int)
    · have e1 : IntKind.u64.wrap (j : Int) = (j : Int) := by rw [IntKind.wrap_u64]; omega
      have e2 : IntKind.u64.wrap (8 * (j : Int)) = 8 * (j : Int) := by rw [IntKind.wrap_u64]; omega
      have e3 : wrap64 (8 * (j : Int)) = 8 * (j : Int) := wid (by omega) (by omega)
      rw [if_pos hj, if_pos hj, if_pos hj, e1, e2, e3, if_pos (by omega), if_pos (by omega), if_pos (by omega), if_pos (by omega), show wrap64 ((j : Int) + 1) = ((j + 1 : Nat) : Int) by rw [wid (by omega) (by omega)]; omega]
      exact low_l0 hl k (j + 1) _ (by omega)
    · rw [if_neg hj, if_neg hj]
theorem low_some {l : List Int} (hl : l.length ≤ 8) : roundhouseref2_low.f 9 l = some (numS l) := by
  rw [← num_some l]
  unfold roundhouseref2_low.f sip_number_byte.f
  rw [mn_len hl]
  exact low_l0 hl 9 0 0 (Nat.zero_le _)
theorem low_calls {A : Option Addr} {c : Nat} {l : List Int} {n : Nat} {w : World} (hr : Kd.C (Kd.int .u8) w A n l) (hn : l.length = n) (hc : n ≤ c) (h8 : n ≤ 8) :
    Calls Tryz.prog 107 #[.slice A n c] w fun e w' => e = .returned (.int .u64 (numS l)) ∧ Below w.heap.size w w' := by
  subst hn
  refine (roundhouseref2_low.calls 9 A c l _ w hr hc (low_some h8)).mono ?_
  rintro e w' ⟨rfl, ⟨⟨nd, rfl⟩⟩⟩
  exact ⟨rfl, bd (Below.refl _ w) nd⟩
theorem ref_here {w : World} {b : Nat} {s : S4} (h : w.heap[b]? = some (.cells #[.int .u64 s.a, .int .u64 s.b, .int .u64 s.c, .int .u64 s.d] 176 (0, 0))) : RefS w w b s := ⟨h, Chg.refl _ _⟩
/-- What the last eight bytes are, but for their own. -/
theorem tail_eq {n : Nat} (h : n ≤ 100000) : IntKind.u64.wrap (IntKind.u64.wrap (Go.bits .and .i64 (n : Int) 255) * 72057594037927936) = IntKind.u64.wrap (IntKind.u64.wrap (n : Int) * 72057594037927936) := by
  have e : Go.bits .and .i64 (n : Int) 255 = (n : Int) % 256 := by
    exact Go.bits_mask .i64 63 (by decide) wrap_i64w 8 (by decide) (n : Int) (by omega) (by omega)
  rw [e]
  rw [IntKind.wrap_u64, IntKind.wrap_u64, IntKind.wrap_u64, IntKind.wrap_u64]
  omega
theorem drop_drop8 {l : List Int} {q : Nat} : (l.drop (8 * q)).drop 8 = l.drop (8 * (q + 1)) := by rw [List.drop_drop]; congr 1
theorem rof_calls {w : World} (k : Ky) {A : Option Addr} {c n : Nat} {l : List Int} (hr : Kd.C (Kd.int .u8) w A n l) (hn : l.length = n) (hc : n ≤ c) (hl : l.length ≤ 100000) :
    Calls Tryz.prog 94 #[.agg #[.int .u64 k.a, .int .u64 k.b], .slice A n c] w fun e w' => e = .returned (.int .u64 (ofL k l)) ∧ Below w.heap.size w w' := by
  subst hn
  obtain ⟨s, hs⟩ : ∃ s, startS k = s := ⟨_, rfl⟩
  obtain ⟨R, hR⟩ : ∃ R, eatS (l.length / 8) l s = R := ⟨_, rfl⟩
  obtain ⟨t, ht⟩ : ∃ t, lastS (l.length : Int) R = t := ⟨_, rfl⟩
  obtain ⟨u1, hu1⟩ : ∃ u, roundS ⟨t.a, t.b, Go.bits .xor .u64 t.c 255, t.d⟩ = u := ⟨_, rfl⟩
  obtain ⟨u2, hu2⟩ : ∃ u, roundS u1 = u := ⟨_, rfl⟩
  obtain ⟨u3, hu3⟩ : ∃ u, roundS u2 = u := ⟨_, rfl⟩
  obtain ⟨u, hu⟩ : ∃ u, roundS u3 = u := ⟨_, rfl⟩
  obtain ⟨r, hrr⟩ : ∃ r, outS u = r := ⟨_, rfl⟩
  have hg : ofL k l = r := by rw [ofL, hs, hR, ht]; show outS (roundS (roundS (roundS (roundS _)))) = r; rw [hu1, hu2, hu3, hu, hrr]
  rw [hg]
  have HS := am_ hs
  have HRE := am_ hR
  have HT := am_ ht
  have HO := am_ hrr
  have HR := am_ hr
  have HC := am_ hc
  have HL := am_ hl
  have HQ1 := am_ (fun W0 W (b : Nat) (h : RefS W0 W b ⟨t.a, t.b, Go.bits .xor .u64 t.c 255, t.d⟩) => hu1 ▸ rround_calls h)
  have HQ2 := am_ (fun W0 W (b : Nat) (h : RefS W0 W b u1) => hu2 ▸ rround_calls h)
  have HQ3 := am_ (fun W0 W (b : Nat) (h : RefS W0 W b u2) => hu3 ▸ rround_calls h)
  have HQ4 := am_ (fun W0 W (b : Nat) (h : RefS W0 W b u3) => hu ▸ rround_calls h)
  clear hs hR ht hu1 hu2 hu3 hu hrr hg hr hc hl
  obtain ⟨ka, kb⟩ := k
  obtain ⟨g, HG⟩ : ∃ g, w.heap.size = g := ⟨_, rfl⟩
  go_enter Tryz.func94, Tryz.ntmps94
  go_upto_region 1 with fail
  refine wp_w (fun W => W.heap[g]? = some (.cells #[.int .u64 ka, .int .u64 kb] 29 (0, 0)) ∧ W.heap.size = g + 1 ∧ Below w.heap.size w W) ?_ ?_
  · exact ⟨by rw [← HG]; exact new_blk w _, by rw [← HG]; exact Array.size_push _, below_alloc (Below.refl w.heap.size w) _⟩
  intro w1 h1
  have HB1 := am_ h1.2.2
  have hgs := h1.2.1
  have k0 : w1.cell? ⟨g, 0, none⟩ = some (.int .u64 ka) := cell_of_row w1 g 0 _ _ _ h1.1
  have k1 : w1.cell? ⟨g, 1, none⟩ = some (.int .u64 kb) := cell_of_row w1 g 1 _ _ _ h1.1
  clear h1
  go_upto_region 2 with fail
  refine wp_w (fun W => W.heap[g + 1]? = some (.cells #[.int .u64 s.a, .int .u64 s.b, .int .u64 s.c, .int .u64 s.d] 176 (0, 0)) ∧ Below w.heap.size w W) ?_ ?_
  · refine ⟨?_, below_alloc HB1.out _⟩
    rw [← hgs, ← HS.out]; exact new_blk w1 _
  intro w2 h2
  have HK2 := am_ h2.1
  have HB2 := am_ h2.2
  have HGE := am_ (show w.heap.size ≤ g + 1 by omega)
  clear h2 k0 k1
  go_wp2
  go_loopg [6] (l.length / 8) (fun kq v6 w' => ∃ (q : Nat) (x : Int) (t' : S4), v6 = .int .i64 x ∧ Aside0 (x = ((8 * q : Nat) : Int)) ∧ Aside (kq + q = l.length / 8) ∧ Aside0 (eatS kq (l.drop (8 * q)) t' = R) ∧ Aside0 (w'.heap[g + 1]? = some (.cells #[.int .u64 t'.a, .int .u64 t'.b, .int .u64 t'.c, .int .u64 t'.d] 176 (0, 0))) ∧ Aside0 (Below w.heap.size w w'))
  case atStart => exact ⟨0, 0, s, rfl, am_ rfl, (by show _ = _; omega), am_ (by rw [Nat.mul_zero, List.drop_zero]; exact HRE.out), HK2, HB2⟩
  case round =>
    obtain ⟨q, x, t', rfl, HXQ, hk, HE', HK', HB'⟩ := hrel
    have HKQ := am_ hk.out
    clear hk
    obtain ⟨y, hw8⟩ : ∃ y, wrap64 (x + 8) = y := ⟨_, rfl⟩
    have HYQ := am_ (show y = ((8 * (q + 1) : Nat) : Int) from by have := HKQ.out; have := HL.out; have := HXQ.out; rw [← hw8, wid (by omega) (by omega)]; omega)
    by_cases h8 : 8 * (q + 1) ≤ l.length
    · have hd2 : decide (y ≤ (l.length : Int)) = true := decide_eq_true (by have := HYQ.out; omega)
      have H8 := am_ h8
      clear h8
      obtain ⟨A2, hf1, hf2, hf3⟩ := cut_mid (A := A) (c := c) (n := l.length) (l := l) (8 * q) (8 * (q + 1)) 8 (iz := x) (jz := y) HXQ.out HYQ.out (by omega) (by omega) H8.out rfl HC.out
      have HF2 := am_ hf2
      have HF3 := am_ hf3
      clear hf2 hf3
      have HL8 := am_ (show ((l.take (8 * (q + 1))).drop (8 * q)).length = 8 by rw [List.length_drop, List.length_take]; have := H8.out; omega)
      have HN8 := am_ (fun W (hW : Below w.heap.size w W) => low_calls (c := c - 8 * q) (HF2.out W (Kd.C_below HR.out hW)) HL8.out HF3.out (Nat.le_refl 8))
      have HGK := am_ (show 0 < gk from by have := HKQ.out; have := H8.out; omega)
      go_wp2_with (first
        | (go_at_call 107; (with_reducible refine (HN8.out _ ?hb).mono ?_); (case hb => (repeat (first | with_reducible exact HB'.out | with_reducible apply pw_below_drewN | with_reducible apply below_drew1))); rintro e x1 ⟨rfl, hb1⟩; have HB1 := am_ (below_step HB'.out hb1); have HX1 := am_ ((hb1.block (g + 1) (blk_lt HK'.out)).trans HK'.out); clear hb1)
        | (go_at_call 106; (with_reducible refine (reat_calls (w0 := _) (s := t') _ (ref_here (s := t') HX1.out)).mono ?_); rintro e x2 ⟨rfl, hs2⟩; have HK2' := am_ hs2.blk; have HB2' := am_ (Chg.step HB1.out hs2.chg HGE.out); clear hs2))
      go_roundg (gk - 1)
      case measure => have := HGK.out; omega
      case rel =>
        exact ⟨q + 1, y, _, (by first | rfl | (show Value.int _ _ = Value.int _ _; rw [hw8])), HYQ, (by show _ = _; have := HKQ.out; have := HGK.out; omega), am_ (by
          obtain ⟨m, hm⟩ : ∃ m, gk = m + 1 := ⟨gk - 1, by have := HGK.out; omega⟩
          have h1 := HE'.out
          rw [hm] at h1 ⊢
          have e : (l.drop (8 * q)).take 8 = (l.take (8 * (q + 1))).drop (8 * q) := by rw [List.drop_take]; congr 1; omega
          rw [eatS, e, drop_drop8] at h1
          exact h1), HK2', HB2'⟩
    · have hd2 : decide (y ≤ (l.length : Int)) = false := decide_eq_false (by have := HYQ.out; omega)
      have hk0 : gk = 0 := by have := HKQ.out; omega
      have HR' := am_ (show (l.drop (8 * q), t') = R from by have h1 := HE'.out; rw [hk0] at h1; exact h1)
      have hql : 8 * q ≤ l.length := by have := HKQ.out; omega
      obtain ⟨A2, hf1, hf2, hf3⟩ := cut_from (A := A) (c := c) (n := l.length) (l := l) (8 * q) (l.length - 8 * q) (iz := x) HXQ.out rfl hql rfl HC.out
      have HF2 := am_ hf2
      have HF3 := am_ hf3
      have HN8 := am_ (fun W (hW : Below w.heap.size w W) => low_calls (c := c - 8 * q) (HF2.out W (Kd.C_below HR.out hW)) (List.length_drop) HF3.out (by omega))
      clear h8 hf2 hf3 hql
      have HTT := am_ (show takeS (Go.bits .or .u64 (numS (l.drop (8 * q))) (IntKind.u64.wrap (IntKind.u64.wrap (Go.bits .and .i64 (l.length : Int) 255) * 72057594037927936))) t' = t from by have h1 := HT.out; rw [← HR'.out] at h1; rw [tail_eq HL.out]; exact h1)
      go_upto_region 7 with (first
        | (go_at_call 107; (with_reducible refine (HN8.out _ ?hb).mono ?_); (case hb => (repeat (first | with_reducible exact HB'.out | with_reducible apply pw_below_drewN | with_reducible apply below_drew1))); rintro e x1 ⟨rfl, hb1⟩; have HB1 := am_ (below_step HB'.out hb1); have HX1 := am_ ((hb1.block (g + 1) (blk_lt HK'.out)).trans HK'.out); clear hb1)
        | (go_at_call 106; (with_reducible refine (reat_calls (w0 := _) (s := t') _ (ref_here (s := t') HX1.out)).mono ?_); rintro e x2 ⟨rfl, hs2⟩; have HK2' := am_ hs2.blk; have HB2' := am_ (Chg.step HB1.out hs2.chg HGE.out); clear hs2))
      refine wp_w (fun W => W.heap[g + 1]? = some (.cells #[.int .u64 t.a, .int .u64 t.b, .int .u64 t.c, .int .u64 t.d] 176 (0, 0)) ∧ Below w.heap.size w W) ?_ ?_
      · have e := HK2'.out
        rw [show takeS _ t' = t from HTT.out] at e
        exact ⟨e, HB2'.out⟩
      intro w3 h3
      have HK3 := am_ h3.1
      have HB3 := am_ h3.2
      clear h3
      obtain ⟨T0, T1, T2, T3⟩ := RefAt.cells (ref_here (s := t) HK3.out)
      obtain ⟨U0, U1, U2, U3⟩ := RefAt.free (ref_here (s := t) HK3.out)
      go_upto_region 8 with fail
      refine wp_w (fun W => RefS W W (g + 1) ⟨t.a, t.b, Go.bits .xor .u64 t.c 255, t.d⟩ ∧ Below w.heap.size w W) ?_ ?_
      · exact ⟨ref_here (RefAt.set2 (ref_here (s := t) HK3.out) _).blk, below_set HB3.out HGE.out⟩
      intro w4 h4
      have HK4 := am_ h4.1
      have HB4 := am_ h4.2
      clear h4 T0 T1 T2 T3 U0 U1 U2 U3
      go_upto_region 9 with (first
        | (go_at_call 108; (with_reducible refine (HQ1.out _ _ _ HK4.out).mono ?_); rintro e w5 ⟨rfl, h5⟩; have HK5 := am_ h5; clear h5))
      go_upto_region 10 with (first
        | (go_at_call 108; (with_reducible refine (HQ2.out _ _ _ HK5.out).mono ?_); rintro e w6 ⟨rfl, h5⟩; have HK6 := am_ h5; clear h5))
      go_upto_region 11 with (first
        | (go_at_call 108; (with_reducible refine (HQ3.out _ _ _ HK6.out).mono ?_); rintro e w7 ⟨rfl, h5⟩; have HK7 := am_ h5; clear h5))
      go_upto_region 12 with (first
        | (go_at_call 108; (with_reducible refine (HQ4.out _ _ _ HK7.out).mono ?_); rintro e w8 ⟨rfl, h5⟩; have HK8 := am_ h5; clear h5))
      obtain ⟨T0, T1, T2, T3⟩ := RefAt.cells HK8.out
      refine start_ (n := 20) (S := fun w' => w'.cell? ⟨g + 1, 0, none⟩ = some (.int .u64 u.a) ∧ w'.cell? ⟨g + 1, 1, none⟩ = some (.int .u64 u.b) ∧ w'.cell? ⟨g + 1, 2, none⟩ = some (.int .u64 u.c) ∧ w'.cell? ⟨g + 1, 3, none⟩ = some (.int .u64 u.d)) (ds := []) #[fF,fF,fF,fF,fF,fF,fF,fF,fF,fF,fF,fF,fF,fF,fF,fF,fF,fF,fF,fF] (by kernel_rfl) rfl rfl ⟨T0, T1, T2, T3⟩ (fun hHeld => ?_)
      refine p_ 0 64 ?_
      refine p_ 1 65 ?_
      refine p_ 2 66 ?_
      refine p_ 4 68 ?_
      refine p_ 5 69 ?_
      refine p_ 6 70 ?_
      refine p_ 9 73 ?_
      refine p_ 10 74 ?_
      refine p_ 11 75 ?_
      refine p_ 14 78 ?_
      refine p_ 15 79 ?_
      refine p_ 16 80 ?_
      refine t_ 3 67 hHeld ?_
      refine t_ 7 71 hHeld ?_
      refine p_ 8 72 ?_
      refine t_ 12 76 hHeld ?_
      refine p_ 13 77 ?_
      refine t_ 17 81 hHeld ?_
      refine p_ 18 82 ?_
      refine p_ 19 4 ?_
      refine done_ (by kernel_rfl) ?_
      go_wp2
      go_ret
      exact ⟨by rw [← HO.out]; rfl, (Chg.step HB4.out HK8.out.chg HGE.out).drew⟩
theorem rwords_calls {w : World} (k : Ky) {A : Option Addr} {c n : Nat} {l : List Int} (hr : Kd.C (Kd.int .i64) w A n l) (hn : l.length = n) (hc : n ≤ c) (hl : l.length ≤ 1000) :
    Calls Tryz.prog 54 #[.agg #[.int .u64 k.a, .int .u64 k.b], .slice A n c] w fun e w' => e = .returned (.int .u64 (wordsL k l)) ∧ Below w.heap.size w w' := by
  subst hn
  have HR := am_ hr
  have HC := am_ hc
  have HL := am_ hl
  obtain ⟨r, hrr⟩ : ∃ r, wordsL k l = r := ⟨_, rfl⟩
  rw [hrr]
  have HRR := am_ hrr
  obtain ⟨ka, kb⟩ := k
  clear hr hc hl hrr
  obtain ⟨g, HG⟩ : ∃ g, w.heap.size = g := ⟨_, rfl⟩
  go_enter Tryz.func54, Tryz.ntmps54
  go_upto_region 1 with fail
  refine wp_w (fun W => W.heap[g]? = some (.cells #[.int .u64 ka, .int .u64 kb] 29 (0, 0)) ∧ Below w.heap.size w W) ?_ ?_
  · exact ⟨by rw [← HG]; exact new_blk w _, below_alloc (Below.refl w.heap.size w) _⟩
  intro w1 h1
  have HK1 := am_ h1.1
  have HB1 := am_ h1.2
  clear h1
  go_wp2
  go_loopg [6, 5] l.length (fun kq v6 v5 w' => ∃ (j : Nat) (A' : Option Addr) (c' : Nat) (xs : List Int), v6 = .int .i64 (j : Int) ∧ v5 = .slice A' xs.length c' ∧ Aside (kq + j = l.length) ∧ Aside0 (xs = wordsB (l.take j)) ∧ Aside0 (RB w1.heap.size w' (.slice A' xs.length c') xs) ∧ Aside0 (Below w1.heap.size w1 w'))
  case atStart => exact ⟨0, none, 0, [], rfl, rfl, (by show _ = _; omega), am_ rfl, am_ (Kd.R_nil _ _ _ _ _), am_ (Below.refl _ w1)⟩
  case round =>
    obtain ⟨j, A', c', xs, rfl, rfl, hk, HX, HO, HB⟩ := hrel
    have HKQ := am_ hk.out
    clear hk
    rename World => wr1
    obtain ⟨gko, HGKO⟩ : ∃ n, gk = n := ⟨_, rfl⟩
    by_cases hlt : j < l.length
    · have hd : decide (j < l.length) = true := decide_eq_true hlt
      have HLT := am_ hlt
      have HGK := am_ (show 0 < gk from by have := HKQ.out; omega)
      obtain ⟨x, hx⟩ : ∃ x, rd l (j : Int) = x := ⟨_, rfl⟩
      have HXX := am_ hx
      clear hx
      have hj0 : (0 : Int) ≤ (j : Int) := by omega
      go_wp2
      go_loopg [7, 5] 8 (fun kq v7 v5 w' => ∃ (i : Nat) (A2 : Option Addr) (c2 : Nat) (ys : List Int), v7 = .int .i64 (i : Int) ∧ v5 = .slice A2 ys.length c2 ∧ Aside (kq + i = 8) ∧ Aside0 (ys = xs ++ bytes8 x i) ∧ Aside0 (RB w1.heap.size w' (.slice A2 ys.length c2) ys) ∧ Aside0 (Below w1.heap.size w1 w'))
      case atStart => exact ⟨0, A', c', xs, rfl, rfl, (by show _ = _; omega), am_ (by simp [bytes8]), HO, HB⟩
      case round =>
        obtain ⟨i, A2, c2, ys, rfl, rfl, hk, HX2, HO2, HB2⟩ := hrel
        rename World => wr2
        have HKQ2 := am_ hk.out
        clear hk
        by_cases hli : i < 8
        · have hdi : decide (i < 8) = true := decide_eq_true hli
          have HLI := am_ hli
          have HGK2 := am_ (show 0 < gk from by have := HKQ2.out; omega)
          have hw7 : IntKind.u64.wrap (i : Int) = (i : Int) := by rw [IntKind.wrap_u64]; omega
          have hw8 : IntKind.u64.wrap (8 * (i : Int)) = ((8 * i : Nat) : Int) := by rw [IntKind.wrap_u64]; omega
          obtain ⟨ad, ead, hcell⟩ := Kd.at_int (Kd.C_below HR.out (below_step HB1.out HB2.out)) (j : Int) (by omega) (by have := HLT.out; omega)
          rw [Int.toNat_natCast, HXX.out] at hcell
          subst ead
          have hmin : min (8 * i) 64 = 8 * i := by omega
          have hdi2 : decide ((i : Int) < 8) = true := decide_eq_true (by omega)
          have HYL := am_ (show (ys.length + 1) * 1 ≤ 140737488355328 by rw [HX2.out, List.length_append, bytes8_len, HX.out, wordsB_len, List.length_take]; have := HL.out; omega)
          go_wp2_with (first
            | ((with_reducible refine gate_dst (N := 29) rfl ?_); (refine Kd.R_lit (Kd.int .u8) (w0 := w1) w1.heap.size 5 ?hg (N := 29) ?hd (xs := ([(IntKind.u64.wrap x / 2 ^ (8 * i) % 256)] : List Int)) (inner := [.int .u8 (IntKind.u64.wrap x / 2 ^ (8 * i) % 256)]) (ok := fun _ => True) (okp := fun _ => True) ?hr ?hp (fun _ hk => hk) trivial HB2.out HB2.out.size (by simp) ?_; (case hd => rfl); (case hg => rfl); (case hr => first | (go_simp; done) | (go_simp; rfl)); (case hp => exact (Reps.one (show Kd.M (Kd.int .u8) _ _ _ (IntKind.u64.wrap x / 2 ^ (8 * i) % 256) [.int .u8 (IntKind.u64.wrap x / 2 ^ (8 * i) % 256)] from rfl) (Reps.none _ _))); intro v29 w3 ho hb hg hat; have HO3 := am_ (Kd.R_grown HO2.out hg (fun _ _ => by simp)); have HB3 := am_ hb; obtain ⟨Al, cl, el⟩ := Kd.R_slice ho; subst el; have HLC := am_ (Kd.R_reads' ho); clear ho hb hg hat))
            | ((with_reducible refine gate_builtin (b := .append) (xs := #[.tmp 18, .tmp 29]) rfl ?_); at_builtin; (refine Kd.R_append_rows (Kd.int .u8) (w0 := w1) w1.heap.size rfl (.tmp 18) (.tmp 29) 35 5 (.int .u8 0) 1 rfl Tryz.underlying35 info5 rfl (by decide) (by omega) (.slice A2 ys.length c2) ys [(IntKind.u64.wrap x / 2 ^ (8 * i) % 256)] Al 1 cl (fun _ => True) (fun _ => False) rfl rfl HO3.out HLC.out.2.2 (fun _ _ h => h) (fun _ h => h.elim) (fun _ _ => trivial) HB3.out HB3.out.size HYL.out ?_; intro v4 w4 ho hb hg hat; have HO4 := am_ ho; have HB4 := am_ hb; clear hb ho hg hat)))
          obtain ⟨A4, c4, rfl⟩ := Kd.R_slice HO4.out
          have HE4 := am_ (show (ys ++ [IntKind.u64.wrap x / 2 ^ (8 * i) % 256]) = xs ++ bytes8 x (i + 1) by rw [HX2.out, bytes8_succ, List.append_assoc]; rfl)
          go_roundg (gk - 1)
          case measure => have := HGK2.out; omega
          case rel => exact ⟨i + 1, A4, c4, _, rfl, rfl, (by show _ = _; have := HKQ2.out; have := HGK2.out; omega), HE4, HO4, HB4⟩
        · have hdi : decide (i < 8) = false := decide_eq_false hli
          have hdi2 : decide ((i : Int) < 8) = false := decide_eq_false (by omega)
          have HI8 := am_ (show i = 8 by have := HKQ2.out; omega)
          clear hli
          go_wp2
          go_roundg (gko - 1)
          case measure => have := HGK.out; omega
          case rel =>
            have hb1 := HLT.out
            have hb2 := HL.out
            have hys : ys = wordsB (l.take (j + 1)) := by
              rw [HX2.out, HI8.out, HX.out, take_snoc HLT.out, wordsB_snoc]
              congr 2
              rw [← HXX.out, rd_nat]
            exact ⟨j + 1, A2, c2, ys, (by show Value.int _ _ = Value.int _ _; rw [wid (by omega) (by omega)]; rfl), rfl, (by show _ = _; have := HKQ.out; have := HGK.out; omega), am_ hys, HO2, HB2⟩
    · have hd : decide (j < l.length) = false := decide_eq_false hlt
      have HJ := am_ (show xs = wordsB l by rw [HX.out, List.take_of_length_le (by omega)])
      clear hlt
      obtain ⟨k0, k1⟩ := c2 ((HB.out.block g (blk_lt HK1.out)).trans HK1.out)
      have HOF := am_ (fun W (hW : Below wr1.heap.size wr1 W) => rof_calls ⟨ka, kb⟩ (w := W) (A := A') (c := c') (l := xs) (Kd.C_below (by have e := Kd.R_reads' HO.out; have := e.2.2; exact this) hW) rfl (by have e := Kd.R_reads' HO.out; have := e.2.1; rw [e.1] at this; exact this) (by rw [HJ.out, wordsB_len]; have := HL.out; omega))
      go_wp2_with (first | (go_at_call 94; ((with_reducible refine (HOF.out _ ?hb).mono ?_); (case hb => (repeat (first | with_reducible exact Below.refl _ _ | with_reducible apply pw_below_drewN | with_reducible apply below_drew1))); rintro e x1 ⟨rfl, hb1⟩; have HBF := am_ (below_step (below_step HB1.out HB.out) hb1))))
      go_ret
      have hrw : ofL ⟨ka, kb⟩ xs = r := by rw [HJ.out]; exact HRR.out
      exact ⟨by rw [← hrw]; rfl, HBF.out⟩
theorem c4 {w : World} {g t : Nat} {a0 a1 a2 a3 : Value} (h : w.heap[g]? = some (.cells #[a0, a1, a2, a3] t (0, 0))) : w.cell? ⟨g, 0, none⟩ = some a0 ∧ w.cell? ⟨g, 1, none⟩ = some a1 ∧ w.cell? ⟨g, 2, none⟩ = some a2 ∧ w.cell? ⟨g, 3, none⟩ = some a3 := by
  simp [World.cell?, h]
theorem two_boxes (w : World) {g : Nat} (hg : w.heap.size = g) (A B : Obj) : ((w.alloc A).alloc B).heap[g]? = some A ∧ ((w.alloc A).alloc B).heap[g + 1]? = some B ∧ Below w.heap.size w ((w.alloc A).alloc B) ∧ ((w.alloc A).alloc B).heap.size = g + 2 := by
  subst hg
  exact ⟨heap_alloc2_old w A B, heap_alloc2_new w A B, below_alloc (below_alloc (Below.refl _ w) _) _, (Array.size_push _).trans (congrArg (· + 1) (Array.size_push _))⟩
structure Fl where
  ad : Int
  po : Int
  tad : Int
  tpo : Int
def sumC (k : Ky) (kind : Int) (f : Fl) (a b : Int) : Int := wordsL k [kind, f.ad, f.po, f.tad, f.tpo, a, b]
theorem sum_calls (k : Ky) (kind : Int) (f : Fl) (a b : Int) (w : World) :
    Calls Tryz.prog 93 #[.agg #[.int .u64 k.a, .int .u64 k.b], .int .i64 kind, .agg #[.int .i64 f.ad, .int .i64 f.po, .int .i64 f.tad, .int .i64 f.tpo], .int .i64 a, .int .i64 b] w fun e w' => e = .returned (.int .u64 (sumC k kind f a b)) ∧ Below w.heap.size w w' := by
  obtain ⟨r, hr⟩ : ∃ r, sumC k kind f a b = r := ⟨_, rfl⟩
  rw [hr]
  have HR := am_ hr
  clear hr
  obtain ⟨ka, kb⟩ := k
  obtain ⟨f0, f1, f2, f3⟩ := f
  obtain ⟨g, HG⟩ : ∃ g, w.heap.size = g := ⟨_, rfl⟩
  go_enter Tryz.func93, Tryz.ntmps93
  go_upto_region 1 with fail
  refine wp_w (fun W => W.heap[g]? = some (.cells #[.int .u64 ka, .int .u64 kb] 29 (0, 0)) ∧ W.heap[g + 1]? = some (.cells #[.int .i64 f0, .int .i64 f1, .int .i64 f2, .int .i64 f3] 56 (0, 0)) ∧ Below w.heap.size w W) ?_ ?_
  · exact ⟨(two_boxes w HG _ _).1, (two_boxes w HG _ _).2.1, (two_boxes w HG _ _).2.2.1⟩
  intro w1 h1
  obtain ⟨k0, k1⟩ := c2 h1.1
  obtain ⟨j0, j1, j2, j3⟩ := c4 h1.2.1
  have HB1 := am_ h1.2.2
  clear h1
  go_wp2_with (first
    | ((with_reducible refine gate_dst (N := 23) rfl ?_); refine Kd.R_lit (Kd.int .i64) (w0 := w1) w1.heap.size 3 ?hg (N := 23) ?hd (xs := ([kind, f0, f1, f2, f3, a, b] : List Int)) (inner := [.int .i64 kind, .int .i64 f0, .int .i64 f1, .int .i64 f2, .int .i64 f3, .int .i64 a, .int .i64 b]) (ok := fun _ => True) (okp := fun _ => True) ?hr ?hp (fun _ hk => hk) trivial (Below.refl _ _) (Nat.le_refl _) (by simp) ?_; (case hd => rfl); (case hg => rfl); (case hr => first | (go_simp; done) | (go_simp; rfl)); (case hp => exact (Reps.one (show Kd.M (Kd.int .i64) _ _ _ kind [.int .i64 kind] from rfl) (Reps.one (show Kd.M (Kd.int .i64) _ _ _ f0 [.int .i64 f0] from rfl) (Reps.one (show Kd.M (Kd.int .i64) _ _ _ f1 [.int .i64 f1] from rfl) (Reps.one (show Kd.M (Kd.int .i64) _ _ _ f2 [.int .i64 f2] from rfl) (Reps.one (show Kd.M (Kd.int .i64) _ _ _ f3 [.int .i64 f3] from rfl) (Reps.one (show Kd.M (Kd.int .i64) _ _ _ a [.int .i64 a] from rfl) (Reps.one (show Kd.M (Kd.int .i64) _ _ _ b [.int .i64 b] from rfl) (Reps.none _ _))))))))); intro vl wl ho hb hg hat; obtain ⟨Al, cl, el⟩ := Kd.R_slice ho; subst el; have HLI := am_ (Kd.R_reads' ho); have HBL := am_ hb; clear ho hb hg hat)
    | (go_at_call 20; (with_reducible refine (words_calls ⟨ka, kb⟩ (n := 7) (l := [kind, f0, f1, f2, f3, a, b]) HLI.out.2.2 rfl HLI.out.2.1 (by simp)).mono ?_); rintro e x1 ⟨rfl, hx⟩; have HX := am_ (below_step (below_step HB1.out HBL.out) hx); clear hx))
  go_ret
  exact ⟨by rw [← HR.out]; rfl, HX.out⟩
def veilC (k : Ky) (kind : Int) (f : Fl) (e : Int) : Int := wrap64 (Go.bits .and .u64 (sumC k kind f 64 e) 63)
theorem veil_calls (k : Ky) (kind : Int) (f : Fl) (e : Int) (w : World) :
    Calls Tryz.prog 51 #[.agg #[.int .u64 k.a, .int .u64 k.b], .int .i64 kind, .agg #[.int .i64 f.ad, .int .i64 f.po, .int .i64 f.tad, .int .i64 f.tpo], .int .i64 e] w fun e' w' => e' = .returned (.int .i64 (veilC k kind f e)) ∧ Below w.heap.size w w' := by
  obtain ⟨s, hs⟩ : ∃ s, sumC k kind f 64 e = s := ⟨_, rfl⟩
  have HS := am_ (fun W => hs ▸ sum_calls k kind f 64 e W)
  rw [veilC, hs]
  clear hs
  obtain ⟨ka, kb⟩ := k
  obtain ⟨f0, f1, f2, f3⟩ := f
  obtain ⟨g, HG⟩ : ∃ g, w.heap.size = g := ⟨_, rfl⟩
  go_enter Tryz.func51, Tryz.ntmps51
  go_upto_region 1 with fail
  refine wp_w (fun W => W.heap[g]? = some (.cells #[.int .u64 ka, .int .u64 kb] 29 (0, 0)) ∧ W.heap[g + 1]? = some (.cells #[.int .i64 f0, .int .i64 f1, .int .i64 f2, .int .i64 f3] 56 (0, 0)) ∧ Below w.heap.size w W) ?_ ?_
  · exact ⟨(two_boxes w HG _ _).1, (two_boxes w HG _ _).2.1, (two_boxes w HG _ _).2.2.1⟩
  intro w1 h1
  obtain ⟨k0, k1⟩ := c2 h1.1
  obtain ⟨j0, j1, j2, j3⟩ := c4 h1.2.1
  have HB1 := am_ h1.2.2
  clear h1
  go_wp2_with (first
    | (go_at_call 93; (with_reducible refine (HS.out _).mono ?_); rintro e x1 ⟨rfl, hx⟩; have HX := am_ (below_step HB1.out hx); clear hx))
  go_ret
  exact ⟨rfl, HX.out⟩
def tagB (kind : Int) : Int := if kind = 2 then 8 else 12
theorem tagB_calls (kind : Int) (w : World) : Calls Tryz.prog 49 #[.int .i64 kind] w fun e w' => e = .returned (.int .i64 (tagB kind)) ∧ Drawn0 w w' :=
  cookie_tagBits.calls kind _ w (by unfold cookie_tagBits.f tagB; split <;> rfl)
def tagC (k : Ky) (kind : Int) (f : Fl) (slot e : Int) : Int := wrap64 (Go.bits .and .u64 (sumC k kind f slot e) (if kind = 2 then 255 else 4095))
theorem tag_calls (k : Ky) (kind : Int) (f : Fl) (slot e : Int) (w : World) :
    Calls Tryz.prog 52 #[.agg #[.int .u64 k.a, .int .u64 k.b], .int .i64 kind, .agg #[.int .i64 f.ad, .int .i64 f.po, .int .i64 f.tad, .int .i64 f.tpo], .int .i64 slot, .int .i64 e] w fun e' w' => e' = .returned (.int .i64 (tagC k kind f slot e)) ∧ Below w.heap.size w w' := by
  obtain ⟨s, hs⟩ : ∃ s, sumC k kind f slot e = s := ⟨_, rfl⟩
  have HS := am_ (fun W => hs ▸ sum_calls k kind f slot e W)
  rw [tagC, hs]
  clear hs
  obtain ⟨ka, kb⟩ := k
  obtain ⟨f0, f1, f2, f3⟩ := f
  obtain ⟨g, HG⟩ : ∃ g, w.heap.size = g := ⟨_, rfl⟩
  by_cases h2 : kind = 2
  · subst h2
    have HT := am_ (fun W => (show tagB 2 = 8 from rfl) ▸ tagB_calls 2 W)
    rw [if_pos rfl]
    go_enter Tryz.func52, Tryz.ntmps52
    go_upto_region 1 with fail
    refine wp_w (fun W => W.heap[g]? = some (.cells #[.int .u64 ka, .int .u64 kb] 29 (0, 0)) ∧ W.heap[g + 1]? = some (.cells #[.int .i64 f0, .int .i64 f1, .int .i64 f2, .int .i64 f3] 56 (0, 0)) ∧ Below w.heap.size w W) ?_ ?_
    · exact ⟨(two_boxes w HG _ _).1, (two_boxes w HG _ _).2.1, (two_boxes w HG _ _).2.2.1⟩
    intro w1 h1
    obtain ⟨k0, k1⟩ := c2 h1.1
    obtain ⟨j0, j1, j2, j3⟩ := c4 h1.2.1
    have HB1 := am_ h1.2.2
    clear h1
    go_wp2_with (first
      | (go_at_call 93; (with_reducible refine (HS.out _).mono ?_); rintro e x1 ⟨rfl, hx⟩; have HX := am_ (below_step HB1.out hx); clear hx)
      | (go_at_call 49; (with_reducible refine (HT.out _).mono ?_); rintro e x2 ⟨rfl, ⟨⟨nq, rfl⟩⟩⟩))
    go_ret
    exact ⟨rfl, bd HX.out _⟩
  · have HT := am_ (fun W => (show tagB kind = 12 from if_neg h2) ▸ tagB_calls kind W)
    rw [if_neg h2]
    clear h2
    go_enter Tryz.func52, Tryz.ntmps52
    go_upto_region 1 with fail
    refine wp_w (fun W => W.heap[g]? = some (.cells #[.int .u64 ka, .int .u64 kb] 29 (0, 0)) ∧ W.heap[g + 1]? = some (.cells #[.int .i64 f0, .int .i64 f1, .int .i64 f2, .int .i64 f3] 56 (0, 0)) ∧ Below w.heap.size w W) ?_ ?_
    · exact ⟨(two_boxes w HG _ _).1, (two_boxes w HG _ _).2.1, (two_boxes w HG _ _).2.2.1⟩
    intro w1 h1
    obtain ⟨k0, k1⟩ := c2 h1.1
    obtain ⟨j0, j1, j2, j3⟩ := c4 h1.2.1
    have HB1 := am_ h1.2.2
    clear h1
    go_wp2_with (first
      | (go_at_call 93; (with_reducible refine (HS.out _).mono ?_); rintro e x1 ⟨rfl, hx⟩; have HX := am_ (below_step HB1.out hx); clear hx)
      | (go_at_call 49; (with_reducible refine (HT.out _).mono ?_); rintro e x2 ⟨rfl, ⟨⟨nq, rfl⟩⟩⟩))
    go_ret
    exact ⟨rfl, bd HX.out _⟩
structure Rg where
  ep : Int
  k0 : Ky
  k1 : Ky
  k2 : Ky
def turnC (e : Int) : Int := Go.bits .and .i64 e 3
theorem turnC_calls (e : Int) (w : World) : Calls Tryz.prog 104 #[.int .i64 e] w fun e' w' => e' = .returned (.int .i64 (turnC e)) ∧ Drawn0 w w' := cookie_turn.calls e _ w rfl
theorem c7 {w : World} {g t : Nat} {a0 a1 a2 a3 a4 a5 a6 : Value} (h : w.heap[g]? = some (.cells #[a0, a1, a2, a3, a4, a5, a6] t (0, 0))) : w.cell? ⟨g, 0, none⟩ = some a0 ∧ w.cell? ⟨g, 1, none⟩ = some a1 ∧ w.cell? ⟨g, 2, none⟩ = some a2 ∧ w.cell? ⟨g, 3, none⟩ = some a3 ∧ w.cell? ⟨g, 4, none⟩ = some a4 ∧ w.cell? ⟨g, 5, none⟩ = some a5 ∧ w.cell? ⟨g, 6, none⟩ = some a6 := by
  simp [World.cell?, h]
theorem results_ct_row {P : Program} {fn : Func} {p q : Tmp} {ty : TypeId} (h : fn.results = #[.cell p ty, .tmp q]) (tmps : Array Value) (w : World) (g : Nat) (t : TypeId) (cs : Array Value) (fr : Nat × Nat) (d : TypeDesc)
    (hp : tmps.getD p undef = .pointer (some ⟨g, 0, none⟩)) (hg : w.heap[g]? = some (.cells cs t fr))
    (hu : P.underlying ty = some d) (hd : (match d with | .struct _ | .array _ _ => true | _ => false) = true) (hi : (P.info? ty).map (·.size) = some cs.size) :
    (results fn tmps).run P w = .ok (.tuple #[.agg cs, tmps.getD q undef]) w := by
  have hp' : tmps[p]?.getD undef = .pointer (some ⟨g, 0, none⟩) := by simpa using hp
  simp [results, h, hp', asAddr, run_loadVar_row w g t ty cs fr d hg hu hd hi, Sem.run_bind, Result.andThen]
theorem info30 : (Tryz.prog.info? 29).map (·.size) = some 2 := by kernel_rfl
theorem info32 : (Tryz.prog.info? 31).map (·.size) = some 7 := by kernel_rfl
/-- An element of an array by value. -/
theorem run_index_agg {P : Program} (w : World) (t e : TypeId) (n : Nat) (cs : Array Value) (i sz : Nat) (d : TypeDesc) (ht : P.underlying t = some (.array n e)) (hu : P.underlying e = some d)
    (hd : (match d with | .struct _ | .array _ _ => true | _ => false) = true) (hi : (P.info? e).map (·.size) = some sz) (h : i < n) (iz : Int) (hz : iz = i) :
    (Instr.index t (.agg cs) (.int .i64 iz)).run P w = .ok (.agg (cs.extract (i * sz) (i * sz + sz))) w := by
  subst hz
  have hn : (0 : Int) ≤ (i : Int) ∧ (i : Int) < (n : Int) := by omega
  cases hq : P.info? e with
  | none => simp [hq] at hi
  | some i0 =>
    have hs : i0.size = sz := by simpa [hq] using hi
    have hagg : (isAgg e).run P w = .ok true w := by
      unfold isAgg
      rw [Sem.run_bind, run_underlying hu w]
      cases d <;> simp_all
    simp [Instr.index, run_underlying ht, asIntOf, h, go_sem, part, Sem.run_bind, hagg, sizeOf, typeInfo, hq, hs, Result.andThen]
theorem ix174 (a0 a1 a2 a3 a4 a5 : Value) (W : World) : (Instr.index 164 (.agg #[a0, a1, a2, a3, a4, a5]) (.int .i64 0)).run Tryz.prog W = .ok (.agg #[a0, a1]) W ∧ (Instr.index 164 (.agg #[a0, a1, a2, a3, a4, a5]) (.int .i64 1)).run Tryz.prog W = .ok (.agg #[a2, a3]) W ∧ (Instr.index 164 (.agg #[a0, a1, a2, a3, a4, a5]) (.int .i64 2)).run Tryz.prog W = .ok (.agg #[a4, a5]) W :=
  ⟨run_index_agg W 164 29 3 _ 0 2 _ Tryz.underlying164 Tryz.underlying29 rfl info30 (by omega) 0 rfl, run_index_agg W 164 29 3 _ 1 2 _ Tryz.underlying164 Tryz.underlying29 rfl info30 (by omega) 1 rfl, run_index_agg W 164 29 3 _ 2 2 _ Tryz.underlying164 Tryz.underlying29 rfl info30 (by omega) 2 rfl⟩
theorem res2 {w : World} {g : Nat} {t : TypeId} {x y : Value} (h : w.heap[g]? = some (.cells #[x, y] t (0, 0))) (a b : Value) : ((w.setCell ⟨g, 0, none⟩ a).setCell ⟨g, 1, none⟩ b).heap[g]? = some (.cells #[a, b] t (0, 0)) :=
  heap_setCell_same _ g 1 _ t b (heap_setCell_same _ g 0 _ t a h)
theorem blk_al {w : World} {g : Nat} {o : Obj} (h : w.heap[g]? = some o) (o' : Obj) : (w.alloc o').heap[g]? = some o := (Go.heap_alloc_old w o' (blk_lt h)).trans h
def atR : List Ky → Nat → Int → Int → Ky × Bool
  | [], _, _, _ => (⟨0, 0⟩, false)
  | k :: l, i, first, epoch => if turnC (wrap64 (first + i)) = turnC epoch then (k, true) else atR l (i + 1) first epoch
theorem at_calls (k0 k1 k2 : Ky) (first epoch : Int) (w : World) :
    Calls Tryz.prog 92 #[.agg #[.int .u64 k0.a, .int .u64 k0.b, .int .u64 k1.a, .int .u64 k1.b, .int .u64 k2.a, .int .u64 k2.b], .int .i64 first, .int .i64 epoch] w fun e w' => e = .returned (.tuple #[.agg #[.int .u64 (atR [k0, k1, k2] 0 first epoch).1.a, .int .u64 (atR [k0, k1, k2] 0 first epoch).1.b], .bool (atR [k0, k1, k2] 0 first epoch).2]) ∧ Below w.heap.size w w' := by
  obtain ⟨R, hR⟩ : ∃ R, atR [k0, k1, k2] 0 first epoch = R := ⟨_, rfl⟩
  rw [hR]
  have HR := am_ hR
  clear hR
  obtain ⟨g, HG⟩ : ∃ g, w.heap.size = g := ⟨_, rfl⟩
  have hu30 := Tryz.underlying29
  have hix0 := fun W => (ix174 (.int .u64 k0.a) (.int .u64 k0.b) (.int .u64 k1.a) (.int .u64 k1.b) (.int .u64 k2.a) (.int .u64 k2.b) W).1
  have hix1 := fun W => (ix174 (.int .u64 k0.a) (.int .u64 k0.b) (.int .u64 k1.a) (.int .u64 k1.b) (.int .u64 k2.a) (.int .u64 k2.b) W).2.1
  have hix2 := fun W => (ix174 (.int .u64 k0.a) (.int .u64 k0.b) (.int .u64 k1.a) (.int .u64 k1.b) (.int .u64 k2.a) (.int .u64 k2.b) W).2.2
  go_enter Tryz.func92, Tryz.ntmps92
  go_upto_region 1 with fail
  refine wp_w (fun W => W.heap[g]? = some (.cells #[.int .u64 k0.a, .int .u64 k0.b, .int .u64 k1.a, .int .u64 k1.b, .int .u64 k2.a, .int .u64 k2.b] 164 (0, 0)) ∧ W.heap[g + 1]? = some (.cells #[.int .u64 0, .int .u64 0] 29 (0, 0)) ∧ Below w.heap.size w W) ?_ ?_
  · exact ⟨(two_boxes w HG _ _).1, (two_boxes w HG _ _).2.1, (two_boxes w HG _ _).2.2.1⟩
  intro w1 h1
  have HK1 := am_ h1.2.1
  have HB1 := am_ h1.2.2
  have q6 : w1.cell? ⟨g, 0, none⟩ = some (.int .u64 k0.a) ∧ w1.cell? ⟨g, 1, none⟩ = some (.int .u64 k0.b) ∧ w1.cell? ⟨g, 2, none⟩ = some (.int .u64 k1.a) ∧ w1.cell? ⟨g, 3, none⟩ = some (.int .u64 k1.b) ∧ w1.cell? ⟨g, 4, none⟩ = some (.int .u64 k2.a) ∧ w1.cell? ⟨g, 5, none⟩ = some (.int .u64 k2.b) := by simp [World.cell?, h1.1]
  obtain ⟨q0, q1, q2, q3, q4, q5⟩ := q6
  clear h1
  go_wp2
  go_loopg [12] 3 (fun kq v12 w' => ∃ (i : Nat), v12 = .int .i64 (i : Int) ∧ Aside (kq + i = 3) ∧ Aside0 (atR ([k0, k1, k2].drop i) i first epoch = R) ∧ Aside0 (Below w1.heap.size w1 w'))
  case atStart => exact ⟨0, rfl, (by show _ = _; omega), HR, am_ (Below.refl _ w1)⟩
  case round =>
    obtain ⟨i, rfl, hk, HRI, HB⟩ := hrel
    have HKQ := am_ hk.out
    clear hk
    rename World => wr1
    have HRES := am_ ((HB.out.block (g + 1) (blk_lt HK1.out)).trans HK1.out)
    have y0 := cell_of_row wr1 (g + 1) 0 _ _ _ HRES.out
    have y1 := cell_of_row wr1 (g + 1) 1 _ _ _ HRES.out
    have z0 := frozen_of_row wr1 (g + 1) 0 _ _ HRES.out
    have z1 := frozen_of_row wr1 (g + 1) 1 _ _ HRES.out
    have hlt1 := blk_lt HRES.out
    match i, HRI, HKQ with
    | 0, HRI, HKQ =>
      have HGK := am_ (show 0 < gk from by have := HKQ.out; omega)
      have HRJ : Aside0 ((if turnC (wrap64 first) = turnC epoch then (k0, true) else atR ([k0, k1, k2].drop 1) 1 first epoch) = R) := am_ (by have h1 := HRI.out; simpa [atR] using h1)
      by_cases he : turnC (wrap64 first) = turnC epoch
      · have hb : (turnC (wrap64 first) == turnC epoch) = true := beq_iff_eq.mpr he
        have HE := am_ (show (k0, true) = R from by have h1 := HRJ.out; rw [if_pos he] at h1; exact h1)
        clear he
        go_wp2_with (first | (go_at_call 104; (with_reducible refine (turnC_calls _ _).mono ?_); rintro e1 x1 ⟨rfl, ⟨⟨nq, rfl⟩⟩⟩))
        refine bodyPost_ret (results_ct_row rfl _ _ (g + 1) 29 #[.int .u64 k0.a, .int .u64 k0.b] (0, 0) _ rfl (res2 (blk_al HRES.out _) _ _) Tryz.underlying29 rfl info30) rfl ⟨by rw [← HE.out]; rfl, ?_⟩
        exact below_set (below_set (bd (below_alloc (below_step HB1.out HB.out) _) _) (by omega)) (by omega)
      · have hb : (turnC (wrap64 first) == turnC epoch) = false := beq_eq_false_iff_ne.mpr he
        have HE := am_ (show atR ([k0, k1, k2].drop 1) 1 first epoch = R from by have h1 := HRJ.out; rw [if_neg he] at h1; exact h1)
        clear he
        go_wp2_with (first | (go_at_call 104; (with_reducible refine (turnC_calls _ _).mono ?_); rintro e1 x1 ⟨rfl, ⟨⟨nq, rfl⟩⟩⟩))
        go_roundg (gk - 1)
        case measure => have := HGK.out; omega
        case rel => exact ⟨1, rfl, (by show _ = _; have := HKQ.out; have := HGK.out; omega), HE, am_ (bd (below_alloc HB.out _) _)⟩
    | 1, HRI, HKQ =>
      have HGK := am_ (show 0 < gk from by have := HKQ.out; omega)
      have HRJ : Aside0 ((if turnC (wrap64 (first + 1)) = turnC epoch then (k1, true) else atR ([k0, k1, k2].drop 2) 2 first epoch) = R) := am_ (by have h1 := HRI.out; simpa [atR] using h1)
      by_cases he : turnC (wrap64 (first + 1)) = turnC epoch
      · have hb : (turnC (wrap64 (first + 1)) == turnC epoch) = true := beq_iff_eq.mpr he
        have HE := am_ (show (k1, true) = R from by have h1 := HRJ.out; rw [if_pos he] at h1; exact h1)
        clear he
        go_wp2_with (first | (go_at_call 104; (with_reducible refine (turnC_calls _ _).mono ?_); rintro e1 x1 ⟨rfl, ⟨⟨nq, rfl⟩⟩⟩))
        refine bodyPost_ret (results_ct_row rfl _ _ (g + 1) 29 #[.int .u64 k1.a, .int .u64 k1.b] (0, 0) _ rfl (res2 (blk_al HRES.out _) _ _) Tryz.underlying29 rfl info30) rfl ⟨by rw [← HE.out]; rfl, ?_⟩
        exact below_set (below_set (bd (below_alloc (below_step HB1.out HB.out) _) _) (by omega)) (by omega)
      · have hb : (turnC (wrap64 (first + 1)) == turnC epoch) = false := beq_eq_false_iff_ne.mpr he
        have HE := am_ (show atR ([k0, k1, k2].drop 2) 2 first epoch = R from by have h1 := HRJ.out; rw [if_neg he] at h1; exact h1)
        clear he
        go_wp2_with (first | (go_at_call 104; (with_reducible refine (turnC_calls _ _).mono ?_); rintro e1 x1 ⟨rfl, ⟨⟨nq, rfl⟩⟩⟩))
        go_roundg (gk - 1)
        case measure => have := HGK.out; omega
        case rel => exact ⟨2, rfl, (by show _ = _; have := HKQ.out; have := HGK.out; omega), HE, am_ (bd (below_alloc HB.out _) _)⟩
    | 2, HRI, HKQ =>
      have HGK := am_ (show 0 < gk from by have := HKQ.out; omega)
      have HRJ : Aside0 ((if turnC (wrap64 (first + 2)) = turnC epoch then (k2, true) else atR ([k0, k1, k2].drop 3) 3 first epoch) = R) := am_ (by have h1 := HRI.out; simpa [atR] using h1)
      by_cases he : turnC (wrap64 (first + 2)) = turnC epoch
      · have hb : (turnC (wrap64 (first + 2)) == turnC epoch) = true := beq_iff_eq.mpr he
        have HE := am_ (show (k2, true) = R from by have h1 := HRJ.out; rw [if_pos he] at h1; exact h1)
        clear he
        go_wp2_with (first | (go_at_call 104; (with_reducible refine (turnC_calls _ _).mono ?_); rintro e1 x1 ⟨rfl, ⟨⟨nq, rfl⟩⟩⟩))
        refine bodyPost_ret (results_ct_row rfl _ _ (g + 1) 29 #[.int .u64 k2.a, .int .u64 k2.b] (0, 0) _ rfl (res2 (blk_al HRES.out _) _ _) Tryz.underlying29 rfl info30) rfl ⟨by rw [← HE.out]; rfl, ?_⟩
        exact below_set (below_set (bd (below_alloc (below_step HB1.out HB.out) _) _) (by omega)) (by omega)
      · have hb : (turnC (wrap64 (first + 2)) == turnC epoch) = false := beq_eq_false_iff_ne.mpr he
        have HE := am_ (show atR ([k0, k1, k2].drop 3) 3 first epoch = R from by have h1 := HRJ.out; rw [if_neg he] at h1; exact h1)
        clear he
        go_wp2_with (first | (go_at_call 104; (with_reducible refine (turnC_calls _ _).mono ?_); rintro e1 x1 ⟨rfl, ⟨⟨nq, rfl⟩⟩⟩))
        go_roundg (gk - 1)
        case measure => have := HGK.out; omega
        case rel => exact ⟨3, rfl, (by show _ = _; have := HKQ.out; have := HGK.out; omega), HE, am_ (bd (below_alloc HB.out _) _)⟩
    | 3, HRI, HKQ =>
      have HE := am_ (show ((⟨0, 0⟩ : Ky), false) = R from HRI.out)
      go_wp2
      refine bodyPost_ret (results_ct_row rfl _ _ (g + 1) 29 #[.int .u64 0, .int .u64 0] (0, 0) _ rfl (blk_al (res2 HRES.out _ _) _) Tryz.underlying29 rfl info30) rfl ⟨by rw [← HE.out]; rfl, ?_⟩
      exact below_alloc (below_set (below_set (below_step HB1.out HB.out) (by omega)) (by omega)) _
    | i + 4, HRI, HKQ => exact absurd HKQ.out (by omega)
def keyC (r : Rg) (e : Int) : Ky × Bool := atR [r.k0, r.k1, r.k2] 0 (wrap64 (r.ep - 1)) e
theorem key_calls (r : Rg) (e : Int) (w : World) :
    Calls Tryz.prog 50 #[.agg #[.int .i64 r.ep, .int .u64 r.k0.a, .int .u64 r.k0.b, .int .u64 r.k1.a, .int .u64 r.k1.b, .int .u64 r.k2.a, .int .u64 r.k2.b], .int .i64 e] w fun e' w' => e' = .returned (.tuple #[.agg #[.int .u64 (keyC r e).1.a, .int .u64 (keyC r e).1.b], .bool (keyC r e).2]) ∧ Below w.heap.size w w' := by
  obtain ⟨ep, k0, k1, k2⟩ := r
  obtain ⟨R, hR⟩ : ∃ R, atR [k0, k1, k2] 0 (wrap64 (ep - 1)) e = R := ⟨_, rfl⟩
  have hg : keyC ⟨ep, k0, k1, k2⟩ e = R := hR
  rw [hg]
  have HA := am_ (fun W => hR ▸ at_calls k0 k1 k2 (wrap64 (ep - 1)) e W)
  clear hR hg
  obtain ⟨⟨ka, kb⟩, is⟩ := R
  obtain ⟨g, HG⟩ : ∃ g, w.heap.size = g := ⟨_, rfl⟩
  go_enter Tryz.func50, Tryz.ntmps50
  go_upto_region 1 with fail
  refine wp_w (fun W => W.heap[g]? = some (.cells #[.int .i64 ep, .int .u64 k0.a, .int .u64 k0.b, .int .u64 k1.a, .int .u64 k1.b, .int .u64 k2.a, .int .u64 k2.b] 31 (0, 0)) ∧ W.heap[g + 1]? = some (.cells #[.int .u64 0, .int .u64 0] 29 (0, 0)) ∧ Below w.heap.size w W) ?_ ?_
  · exact ⟨(two_boxes w HG _ _).1, (two_boxes w HG _ _).2.1, (two_boxes w HG _ _).2.2.1⟩
  intro w1 h1
  have HK1 := am_ h1.2.1
  have HB1 := am_ h1.2.2
  obtain ⟨q0, q1, q2, q3, q4, q5, q6⟩ := c7 h1.1
  clear h1
  go_wp2_with (first | (go_at_call 92; (with_reducible refine (HA.out _).mono ?_); rintro e1 x1 ⟨rfl, hx⟩; have HX := am_ hx; have HRES := am_ ((hx.block (g + 1) (blk_lt HK1.out)).trans HK1.out); have y0 := cell_of_row x1 (g + 1) 0 _ _ _ HRES.out; have y1 := cell_of_row x1 (g + 1) 1 _ _ _ HRES.out; have z0 := frozen_of_row x1 (g + 1) 0 _ _ HRES.out; have z1 := frozen_of_row x1 (g + 1) 1 _ _ HRES.out; clear hx))
  refine bodyPost_ret (results_ct_row rfl _ _ (g + 1) 29 #[.int .u64 ka, .int .u64 kb] (0, 0) _ rfl (res2 HRES.out _ _) Tryz.underlying29 rfl info30) rfl ⟨rfl, ?_⟩
  exact below_set (below_set (below_step HB1.out HX.out) (by omega)) (by omega)
theorem c3 {w : World} {g t : Nat} {a0 a1 a2 : Value} (h : w.heap[g]? = some (.cells #[a0, a1, a2] t (0, 0))) : w.cell? ⟨g, 0, none⟩ = some a0 ∧ w.cell? ⟨g, 1, none⟩ = some a1 ∧ w.cell? ⟨g, 2, none⟩ = some a2 := by
  simp [World.cell?, h]
theorem fr_ {w : World} {g t : Nat} {cs : Array Value} (h : w.heap[g]? = some (.cells cs t (0, 0))) (i : Nat) : w.frozen? ⟨g, i, none⟩ = false := frozen_of_row w g i _ _ h
theorem bk_ {b : Nat} {w0 w : World} {o : Obj} (h : w0.heap[b]? = some o) (hb : Below w0.heap.size w0 w) : w.heap[b]? = some o := (hb.block b (blk_lt h)).trans h
theorem set3_other (w : World) (g k : Nat) (h : k ≠ g) (a b c : Value) : (((w.setCell ⟨g, 0, none⟩ a).setCell ⟨g, 1, none⟩ b).setCell ⟨g, 2, none⟩ c).heap[k]? = w.heap[k]? :=
  (heap_setCell_other _ _ k _ h).trans ((heap_setCell_other _ _ k _ h).trans (heap_setCell_other _ _ k _ h))
def readD (r : Rg) (kind : Int) (f : Fl) (e s t : Int) : Int × Bool :=
  if (keyC r e).2 = false then (0, false)
  else if tagC (keyC r e).1 kind f (Go.bits .xor .i64 s (veilC (keyC r e).1 kind f e)) e = t then (Go.bits .xor .i64 s (veilC (keyC r e).1 kind f e), true) else (0, false)
def readC (r : Rg) (kind : Int) (f : Fl) (c : Int) : Int × Bool :=
  if kind = 2 then (if c < 0 ∨ 65536 ≤ c then (0, false) else readD r kind f (c / 16384) (Go.bits .and .i64 (c / 256) 63) (Go.bits .and .i64 c 255))
  else (if c < 0 ∨ 1048576 ≤ c then (0, false) else readD r kind f (c / 262144) (Go.bits .and .i64 (c / 4096) 63) (Go.bits .and .i64 c 4095))
theorem read_2 (r : Rg) (kind : Int) (hk : kind = 2) (f : Fl) (c : Int) (h0 : 0 ≤ c) (h1 : c < 65536) (w : World) :
    Calls Tryz.prog 13 #[.agg #[.int .i64 r.ep, .int .u64 r.k0.a, .int .u64 r.k0.b, .int .u64 r.k1.a, .int .u64 r.k1.b, .int .u64 r.k2.a, .int .u64 r.k2.b], .int .i64 kind, .agg #[.int .i64 f.ad, .int .i64 f.po, .int .i64 f.tad, .int .i64 f.tpo], .int .i64 c] w fun e' w' => e' = .returned (.tuple #[.int .i64 (readD r kind f (c / 16384) (Go.bits .and .i64 (c / 256) 63) (Go.bits .and .i64 c 255)).1, .bool (readD r kind f (c / 16384) (Go.bits .and .i64 (c / 256) 63) (Go.bits .and .i64 c 255)).2]) ∧ Below w.heap.size w w' := by
  have hT := (show tagB kind = 8 from by unfold tagB; rw [if_pos hk])
  have HT := am_ (fun W => hT ▸ tagB_calls kind W)
  clear hT hk
  have hw1 : wrap64 14 = 14 := wid (by decide) (by decide)
  have hw2 : wrap64 256 = 256 := wid (by decide) (by decide)
  have hw3 : wrap64 255 = 255 := wid (by decide) (by decide)
  have hd0 : decide (c < 0) = false := decide_eq_false (by omega)
  have hd1 : decide (65536 ≤ c) = false := decide_eq_false (by omega)
  obtain ⟨R, hR⟩ : ∃ R, readD r kind f (c / 16384) (Go.bits .and .i64 (c / 256) 63) (Go.bits .and .i64 c 255) = R := ⟨_, rfl⟩
  rw [hR]
  have HRD := am_ hR
  clear hR
  obtain ⟨ep, ⟨a0, b0⟩, ⟨a1, b1⟩, ⟨a2, b2⟩⟩ := r
  obtain ⟨f0, f1, f2, f3⟩ := f
  obtain ⟨g, HG⟩ : ∃ g, w.heap.size = g := ⟨_, rfl⟩
  go_enter Tryz.func13, Tryz.ntmps13
  go_upto_region 1 with fail
  refine wp_w (fun W => W.heap[g]? = some (.cells #[.int .i64 ep, .int .u64 a0, .int .u64 b0, .int .u64 a1, .int .u64 b1, .int .u64 a2, .int .u64 b2] 31 (0, 0)) ∧ W.heap[g + 1]? = some (.cells #[.int .i64 f0, .int .i64 f1, .int .i64 f2, .int .i64 f3] 56 (0, 0)) ∧ Below w.heap.size w W ∧ W.heap.size = g + 2) ?_ ?_
  · exact two_boxes w HG _ _
  intro w1 h1
  have HK1 := am_ h1.1
  have HF1 := am_ h1.2.1
  have HB1 := am_ h1.2.2.1
  have hs1 := h1.2.2.2
  clear h1
  go_upto_region 4 with (first | (go_at_call 49; (with_reducible refine (HT.out _).mono ?_); rintro e1 x1 ⟨rfl, ⟨⟨nq, rfl⟩⟩⟩))
  have hsx : (w1.drewN nq).heap.size = g + 2 := hs1
  refine start_ (n := 16) (S := fun w' => True) (ds := []) #[fF,fF,fF,fF,fF,fF,fF,fF,fF,fF,fF,fF,fF,fF,fF,fF] (by kernel_rfl) rfl rfl trivial (fun hHeld => ?_)
  refine p_ 0 27 ?_
  refine p_ 1 28 ?_
  refine p_ 2 29 ?_
  refine p_ 3 30 ?_
  refine p_ 4 31 ?_
  refine p_ 5 32 ?_
  refine p_ 6 33 ?_
  refine p_ 7 34 ?_
  refine p_ 8 35 ?_
  refine p_ 9 36 ?_
  refine p_ 10 37 ?_
  refine p_ 11 38 ?_
  refine p_ 12 39 ?_
  refine p_ 13 40 ?_
  refine o_ 14 (some 11) (fun K hK => ?_)
  refine value_ (w1 := ?_) (v := ?_) (by rfl) rfl ?_ ?_
  rotate_left 2
  · go_simp
    constructor
    · rfl
    · rfl
  refine hK.out _ _ trivial (fun hHeld => ?_)
  clear hK K
  refine n_ 11 ?_
  refine o_ 15 none (fun K hK => ?_)
  refine s_ ?_
  refine hK.out _ _ trivial (fun hHeld => ?_)
  clear hK K
  refine done_ (by kernel_rfl) ?_
  go_upto_region 5 with fail
  generalize hee : c / 16384 = e at HRD ⊢
  generalize hss : Go.bits .and .i64 (c / 256) 63 = s at HRD ⊢
  generalize htt : Go.bits .and .i64 c 255 = t at HRD ⊢
  refine wp_w (fun W => W.heap[g]? = some (.cells #[.int .i64 ep, .int .u64 a0, .int .u64 b0, .int .u64 a1, .int .u64 b1, .int .u64 a2, .int .u64 b2] 31 (0, 0)) ∧ W.heap[g + 1]? = some (.cells #[.int .i64 f0, .int .i64 f1, .int .i64 f2, .int .i64 f3] 56 (0, 0)) ∧ W.heap[g + 2]? = some (.cells #[.int .i64 e, .int .i64 s, .int .i64 t] 112 (0, 0)) ∧ Below w.heap.size w W) ?_ ?_
  · exact ⟨blk_al HK1.out _, blk_al HF1.out _, by rw [← hsx]; exact new_blk (w1.drewN nq) _, below_alloc (bd HB1.out _) _⟩
  intro w2 h2
  have HF2 := am_ h2.2.1
  have HS2 := am_ h2.2.2.1
  have HB2 := am_ h2.2.2.2
  obtain ⟨q0, q1, q2, q3, q4, q5, q6⟩ := c7 h2.1
  obtain ⟨p0, p1, p2⟩ := c3 h2.2.2.1
  clear h2 hs1 hsx hd0 hd1 hw1 hw2 hw3 hee hss htt
  obtain ⟨⟨⟨ka, kb⟩, is⟩, hkk⟩ : ∃ k, keyC ⟨ep, ⟨a0, b0⟩, ⟨a1, b1⟩, ⟨a2, b2⟩⟩ e = k := ⟨_, rfl⟩
  have HKC := am_ (fun W => hkk ▸ key_calls ⟨ep, ⟨a0, b0⟩, ⟨a1, b1⟩, ⟨a2, b2⟩⟩ e W)
  have HKK := am_ hkk
  clear hkk
  go_upto_region 6 with (first | (go_at_call 50; (with_reducible refine (HKC.out _).mono ?_); rintro e1 x1 ⟨rfl, hx⟩; have HX1 := am_ hx; clear hx; obtain ⟨gq, hgq⟩ : ∃ n, x1.heap.size = n := ⟨_, rfl⟩))
  refine wp_w (fun W => W.heap[gq]? = some (.cells #[.int .u64 ka, .int .u64 kb] 29 (0, 0)) ∧ W.heap[g + 1]? = some (.cells #[.int .i64 f0, .int .i64 f1, .int .i64 f2, .int .i64 f3] 56 (0, 0)) ∧ W.heap[g + 2]? = some (.cells #[.int .i64 e, .int .i64 s, .int .i64 t] 112 (0, 0)) ∧ Below w.heap.size w W) ?_ ?_
  · exact ⟨by rw [← hgq]; exact new_blk x1 _, blk_al (bk_ HF2.out HX1.out) _, blk_al (bk_ HS2.out HX1.out) _, below_alloc (below_step HB2.out HX1.out) _⟩
  intro w5 h5
  have HG5 := am_ h5.1
  have HF5 := am_ h5.2.1
  have HS5 := am_ h5.2.2.1
  have HB5 := am_ h5.2.2.2
  clear h5 q0 q1 q2 q3 q4 q5 q6 p0 p1 p2 hgq
  cases is with
  | false =>
    have HE := am_ (show ((0 : Int), false) = R from by have h1 := HRD.out; rw [readD, if_pos (by rw [HKK.out])] at h1; exact h1)
    go_wp2
    go_ret2
    exact ⟨by rw [← HE.out]; rfl, by first | exact HB5.out | (rw [← HG]; exact HB5.out)⟩
  | true =>
    obtain ⟨v, hv⟩ : ∃ v, veilC ⟨ka, kb⟩ kind ⟨f0, f1, f2, f3⟩ e = v := ⟨_, rfl⟩
    obtain ⟨tg, htg⟩ : ∃ tg, tagC ⟨ka, kb⟩ kind ⟨f0, f1, f2, f3⟩ (Go.bits .xor .i64 s v) e = tg := ⟨_, rfl⟩
    have HV := am_ (fun W => hv ▸ veil_calls ⟨ka, kb⟩ kind ⟨f0, f1, f2, f3⟩ e W)
    have HTG := am_ (fun W => htg ▸ tag_calls ⟨ka, kb⟩ kind ⟨f0, f1, f2, f3⟩ (Go.bits .xor .i64 s v) e W)
    have HE := am_ (show (if tg = t then (Go.bits .xor .i64 s v, true) else (0, false)) = R from by have h1 := HRD.out; rw [readD, if_neg (by rw [HKK.out]; simp), HKK.out] at h1; simp only [hv, htg] at h1; exact h1)
    clear hv htg
    have HCK := am_ (fun W (h : Below w5.heap.size w5 W) => show W.cell? ⟨g + 2, 0, none⟩ = some (.int .i64 e) ∧ W.cell? ⟨g + 2, 1, none⟩ = some (.int .i64 s) ∧ W.cell? ⟨gq, 0, none⟩ = some (.int .u64 ka) ∧ W.cell? ⟨gq, 1, none⟩ = some (.int .u64 kb) ∧ W.cell? ⟨g + 1, 0, none⟩ = some (.int .i64 f0) ∧ W.cell? ⟨g + 1, 1, none⟩ = some (.int .i64 f1) ∧ W.cell? ⟨g + 1, 2, none⟩ = some (.int .i64 f2) ∧ W.cell? ⟨g + 1, 3, none⟩ = some (.int .i64 f3) from
      ⟨(c3 (bk_ HS5.out h)).1, (c3 (bk_ HS5.out h)).2.1, (c2 (bk_ HG5.out h)).1, (c2 (bk_ HG5.out h)).2, c4 (bk_ HF5.out h)⟩)
    have HQc := am_ (Below.refl w5.heap.size w5).drew
    go_upto_region 8 with fail
    refine start_ (n := 10) (S := fun w' => w'.cell? ⟨g + 2, 0, none⟩ = some (.int .i64 e) ∧ w'.cell? ⟨g + 2, 1, none⟩ = some (.int .i64 s) ∧ w'.cell? ⟨gq, 0, none⟩ = some (.int .u64 ka) ∧ w'.cell? ⟨gq, 1, none⟩ = some (.int .u64 kb) ∧ w'.cell? ⟨g + 1, 0, none⟩ = some (.int .i64 f0) ∧ w'.cell? ⟨g + 1, 1, none⟩ = some (.int .i64 f1) ∧ w'.cell? ⟨g + 1, 2, none⟩ = some (.int .i64 f2) ∧ w'.cell? ⟨g + 1, 3, none⟩ = some (.int .i64 f3)) (ds := []) #[fF,fF,fF,fF,fF,fF,fF,fF,fF,fF] (by kernel_rfl) rfl rfl ⟨(HCK.out _ HQc.out).1, (HCK.out _ HQc.out).2.1, (HCK.out _ HQc.out).2.2.1, (HCK.out _ HQc.out).2.2.2.1, (HCK.out _ HQc.out).2.2.2.2.1, (HCK.out _ HQc.out).2.2.2.2.2.1, (HCK.out _ HQc.out).2.2.2.2.2.2.1, (HCK.out _ HQc.out).2.2.2.2.2.2.2⟩ (fun hHeld => ?_)
    refine p_ 0 50 ?_
    refine p_ 3 53 ?_
    refine p_ 5 55 ?_
    refine t_ 1 51 hHeld ?_
    refine t_ 2 52 hHeld ?_
    refine t_ 4 54 hHeld ?_
    refine t_ 6 56 hHeld ?_
    refine o_ 7 (some 57) (fun K hK => ?_)
    refine g_ Tryz.func51 #[.agg #[.int .u64 ka, .int .u64 kb], .int .i64 kind, .agg #[.int .i64 f0, .int .i64 f1, .int .i64 f2, .int .i64 f3], .int .i64 e] ?_
    with_reducible refine (HV.out _).mono ?_
    rintro e w3 ⟨rfl, hx⟩
    refine ⟨_, rfl, ?_⟩
    replace HQc := am_ (below_step HQc.out hx)
    refine hK.out _ _ ⟨(HCK.out _ HQc.out).1, (HCK.out _ HQc.out).2.1, (HCK.out _ HQc.out).2.2.1, (HCK.out _ HQc.out).2.2.2.1, (HCK.out _ HQc.out).2.2.2.2.1, (HCK.out _ HQc.out).2.2.2.2.2.1, (HCK.out _ HQc.out).2.2.2.2.2.2.1, (HCK.out _ HQc.out).2.2.2.2.2.2.2⟩ (fun hHeld => ?_)
    clear hK K
    refine n_ 57 ?_
    refine p_ 8 58 ?_
    refine p_ 9 14 ?_
    refine done_ (by kernel_rfl) ?_
    go_upto_region 9 with fail
    refine wp_w (fun W => Below w5.heap.size w5 W) ?_ ?_
    · exact HQc.out
    intro w6 h6
    clear HQc
    have HB6 := am_ (below_step HB5.out h6)
    replace HG5 := am_ (bk_ HG5.out h6)
    replace HF5 := am_ (bk_ HF5.out h6)
    replace HS5 := am_ (bk_ HS5.out h6)
    clear h6 HB5 HCK
    have HCK := am_ (fun W (h : Below w6.heap.size w6 W) => show W.cell? ⟨g + 2, 0, none⟩ = some (.int .i64 e) ∧ W.cell? ⟨g + 2, 1, none⟩ = some (.int .i64 s) ∧ W.cell? ⟨gq, 0, none⟩ = some (.int .u64 ka) ∧ W.cell? ⟨gq, 1, none⟩ = some (.int .u64 kb) ∧ W.cell? ⟨g + 1, 0, none⟩ = some (.int .i64 f0) ∧ W.cell? ⟨g + 1, 1, none⟩ = some (.int .i64 f1) ∧ W.cell? ⟨g + 1, 2, none⟩ = some (.int .i64 f2) ∧ W.cell? ⟨g + 1, 3, none⟩ = some (.int .i64 f3) from
      ⟨(c3 (bk_ HS5.out h)).1, (c3 (bk_ HS5.out h)).2.1, (c2 (bk_ HG5.out h)).1, (c2 (bk_ HG5.out h)).2, c4 (bk_ HF5.out h)⟩)
    have HQc := am_ (Below.refl w6.heap.size w6).drew
    refine start_ (n := 14) (S := fun w' => w'.cell? ⟨g + 2, 0, none⟩ = some (.int .i64 e) ∧ w'.cell? ⟨g + 2, 1, none⟩ = some (.int .i64 s) ∧ w'.cell? ⟨gq, 0, none⟩ = some (.int .u64 ka) ∧ w'.cell? ⟨gq, 1, none⟩ = some (.int .u64 kb) ∧ w'.cell? ⟨g + 1, 0, none⟩ = some (.int .i64 f0) ∧ w'.cell? ⟨g + 1, 1, none⟩ = some (.int .i64 f1) ∧ w'.cell? ⟨g + 1, 2, none⟩ = some (.int .i64 f2) ∧ w'.cell? ⟨g + 1, 3, none⟩ = some (.int .i64 f3)) (ds := [13]) #[fF,fF,fF,fF,fF,fF,fF,fF,fF,fF,fF,fF,fF,fF] (by kernel_rfl) rfl rfl ⟨(HCK.out _ HQc.out).1, (HCK.out _ HQc.out).2.1, (HCK.out _ HQc.out).2.2.1, (HCK.out _ HQc.out).2.2.2.1, (HCK.out _ HQc.out).2.2.2.2.1, (HCK.out _ HQc.out).2.2.2.2.2.1, (HCK.out _ HQc.out).2.2.2.2.2.2.1, (HCK.out _ HQc.out).2.2.2.2.2.2.2⟩ (fun hHeld => ?_)
    refine p_ 0 59 ?_
    refine p_ 2 61 ?_
    refine p_ 5 64 ?_
    refine p_ 7 66 ?_
    refine p_ 8 67 ?_
    refine t_ 1 60 hHeld ?_
    refine t_ 3 62 hHeld ?_
    refine t_ 4 63 hHeld ?_
    refine t_ 6 65 hHeld ?_
    refine t_ 9 68 hHeld ?_
    refine join_ (σ := Nat) 1 #[tT,tT,tT,tT,tT,tT,tT,tT,tT,tT,tT,tT,tT,fF] (fun b => [(69, .int .i64 tg), (70, .agg #[.int .i64 e, .int .i64 s, .int .i64 tg]), (15, .pointer (some ⟨b, 0, none⟩))]) (fun b w' => w'.heap[b]? = some (.cells #[.int .i64 0, .int .i64 0, .int .i64 0] 112 (0, 0)) ∧ w6.heap.size ≤ b ∧ Below w6.heap.size w6 w') ?_ ?_
    rotate_left
    · intro hCont
      refine two_ (i := 10) (j := 12) (Ni := some 69) (Nj := some 15) #[tT,tT,tT,tT,tT,tT,tT,tT,tT,tT,tT,fF,fF,fF] #[tT,tT,tT,tT,tT,tT,tT,tT,tT,tT,fF,fF,tT,fF] rfl rfl rfl rfl (by kernel_rfl) (by decide) (by decide) (fun K hK => ?_) (fun K hK => ?_)
      · skip
        refine g_ Tryz.func52 #[.agg #[.int .u64 ka, .int .u64 kb], .int .i64 kind, .agg #[.int .i64 f0, .int .i64 f1, .int .i64 f2, .int .i64 f3], .int .i64 (Go.bits .xor .i64 s v), .int .i64 e] ?_
        with_reducible refine (HTG.out _).mono ?_
        rintro e w3 ⟨rfl, hx⟩
        refine ⟨_, rfl, ?_⟩
        replace HQc := am_ (below_step HQc.out hx)
        refine hK.out _ _ ⟨(HCK.out _ HQc.out).1, (HCK.out _ HQc.out).2.1, (HCK.out _ HQc.out).2.2.1, (HCK.out _ HQc.out).2.2.2.1, (HCK.out _ HQc.out).2.2.2.2.1, (HCK.out _ HQc.out).2.2.2.2.2.1, (HCK.out _ HQc.out).2.2.2.2.2.2.1, (HCK.out _ HQc.out).2.2.2.2.2.2.2⟩ (fun hHeld => ?_)
        clear hK K
        refine n_ 69 ?_
        refine p_ 11 70 ?_
        refine o_ 12 (some 15) (fun K hK => ?_)
        refine value_ (w1 := ?_) (v := ?_) (by rfl) rfl ?_ ?_
        rotate_left 2
        · go_simp
          constructor
          · rfl
          · rfl
        have HAL := am_ (new_blk w3 (.cells #[.int .i64 0, .int .i64 0, .int .i64 0] 112))
        have HLE := am_ (HQc.out.size)
        replace HQc := am_ (below_alloc HQc.out (.cells #[.int .i64 0, .int .i64 0, .int .i64 0] 112))
        refine hK.out _ _ ⟨(HCK.out _ HQc.out).1, (HCK.out _ HQc.out).2.1, (HCK.out _ HQc.out).2.2.1, (HCK.out _ HQc.out).2.2.2.1, (HCK.out _ HQc.out).2.2.2.2.1, (HCK.out _ HQc.out).2.2.2.2.2.1, (HCK.out _ HQc.out).2.2.2.2.2.2.1, (HCK.out _ HQc.out).2.2.2.2.2.2.2⟩ (fun hHeld => ?_)
        clear hK K
        refine n_ 15 ?_
        exact norm_ (by simp only [putAll, Act.put, q_a, q_0, q_s]) (hCont w3.heap.size _ ⟨HAL.out, HLE.out, HQc.out⟩)
      · skip
        refine value_ (w1 := ?_) (v := ?_) (by rfl) rfl ?_ ?_
        rotate_left 2
        · go_simp
          constructor
          · rfl
          · rfl
        have HAL := am_ (new_blk w6.drew (.cells #[.int .i64 0, .int .i64 0, .int .i64 0] 112))
        have HLE := am_ (HQc.out.size)
        replace HQc := am_ (below_alloc HQc.out (.cells #[.int .i64 0, .int .i64 0, .int .i64 0] 112))
        refine hK.out _ _ ⟨(HCK.out _ HQc.out).1, (HCK.out _ HQc.out).2.1, (HCK.out _ HQc.out).2.2.1, (HCK.out _ HQc.out).2.2.2.1, (HCK.out _ HQc.out).2.2.2.2.1, (HCK.out _ HQc.out).2.2.2.2.2.1, (HCK.out _ HQc.out).2.2.2.2.2.2.1, (HCK.out _ HQc.out).2.2.2.2.2.2.2⟩ (fun hHeld => ?_)
        clear hK K
        refine n_ 15 ?_
        refine o_ 10 (some 69) (fun K hK => ?_)
        refine g_ Tryz.func52 #[.agg #[.int .u64 ka, .int .u64 kb], .int .i64 kind, .agg #[.int .i64 f0, .int .i64 f1, .int .i64 f2, .int .i64 f3], .int .i64 (Go.bits .xor .i64 s v), .int .i64 e] ?_
        with_reducible refine (HTG.out _).mono ?_
        rintro e w3 ⟨rfl, hx⟩
        refine ⟨_, rfl, ?_⟩
        replace HAL := am_ (bk_ HAL.out hx)
        replace HQc := am_ (below_step HQc.out hx)
        refine hK.out _ _ ⟨(HCK.out _ HQc.out).1, (HCK.out _ HQc.out).2.1, (HCK.out _ HQc.out).2.2.1, (HCK.out _ HQc.out).2.2.2.1, (HCK.out _ HQc.out).2.2.2.2.1, (HCK.out _ HQc.out).2.2.2.2.2.1, (HCK.out _ HQc.out).2.2.2.2.2.2.1, (HCK.out _ HQc.out).2.2.2.2.2.2.2⟩ (fun hHeld => ?_)
        clear hK K
        refine n_ 69 ?_
        refine p_ 11 70 ?_
        exact norm_ (by simp only [putAll, Act.put, q_a, q_0, q_s]) (hCont w6.heap.size _ ⟨HAL.out, HLE.out, HQc.out⟩)
    rintro gb w4 ⟨hal, hle, hq⟩
    clear HQc
    have HQc := am_ hq
    have HAL := am_ hal
    have HLE := am_ hle
    obtain ⟨T0, T1, T2⟩ := c3 hal
    have U0 := fr_ hal 0
    have U1 := fr_ hal 1
    have U2 := fr_ hal 2
    clear hq hal hle
    have hHeld := HCK.out _ HQc.out
    refine norm_ (a' := ?_) ?_ ?_
    rotate_left; · simp only [putAll, Act.put, q_a, q_0, q_s]; rfl
    refine l_ 13 none (fun K hK => ?_)
    refine s_ ?_
    refine hK.out _ _ ?_
    clear hK K
    refine done_ (by kernel_rfl) ?_
    refine ex_w (fun W => W.heap[gb]? = some (.cells #[.int .i64 e, .int .i64 s, .int .i64 tg] 112 (0, 0)) ∧ W.heap[g + 2]? = some (.cells #[.int .i64 e, .int .i64 s, .int .i64 t] 112 (0, 0)) ∧ Below w.heap.size w W) ?_ ?_
    · have n0 : g + 2 ≠ gb := by have := blk_lt HS5.out; have := HLE.out; omega
      refine ⟨blk_drew (heap_setCell_same _ gb 2 _ 112 _ (heap_setCell_same _ gb 1 _ 112 _ (heap_setCell_same _ gb 0 _ 112 _ HAL.out))), ?_, ?_⟩
      · exact (set3_other w4 gb (g + 2) n0 _ _ _).trans (bk_ HS5.out HQc.out)
      · first | exact (below_set (below_set (below_set (below_step HB6.out HQc.out) (by have := HLE.out; have := HB6.out.size; omega)) (by have := HLE.out; have := HB6.out.size; omega)) (by have := HLE.out; have := HB6.out.size; omega)) | exact (below_set (below_set (below_set (below_step HB6.out HQc.out) (by have := HLE.out; have := HB6.out.size; omega)) (by have := HLE.out; have := HB6.out.size; omega)) (by have := HLE.out; have := HB6.out.size; omega)).drew
    intro w7 h7
    have HB7 := am_ h7.2.2
    obtain ⟨k0, k1, k2⟩ := c3 h7.1
    obtain ⟨j0, j1, j2⟩ := c3 h7.2.1
    clear h7
    by_cases he : tg = t
    · have hb : (tg == t) = true := beq_iff_eq.mpr he
      have HE2 := am_ (show (Go.bits .xor .i64 s v, true) = R from by have h1 := HE.out; rw [if_pos he] at h1; exact h1)
      clear he
      go_wp2
      go_ret2
      exact ⟨by rw [← HE2.out]; rfl, by first | exact HB7.out | (rw [← HG]; exact HB7.out)⟩
    · have hb : (tg == t) = false := beq_eq_false_iff_ne.mpr he
      have HE2 := am_ (show ((0 : Int), false) = R from by have h1 := HE.out; rw [if_neg he] at h1; exact h1)
      clear he
      go_wp2
      go_ret2
      exact ⟨by rw [← HE2.out]; rfl, by first | exact HB7.out | (rw [← HG]; exact HB7.out)⟩
theorem read_n2 (r : Rg) (kind : Int) (hk : kind ≠ 2) (f : Fl) (c : Int) (h0 : 0 ≤ c) (h1 : c < 1048576) (w : World) :
    Calls Tryz.prog 13 #[.agg #[.int .i64 r.ep, .int .u64 r.k0.a, .int .u64 r.k0.b, .int .u64 r.k1.a, .int .u64 r.k1.b, .int .u64 r.k2.a, .int .u64 r.k2.b], .int .i64 kind, .agg #[.int .i64 f.ad, .int .i64 f.po, .int .i64 f.tad, .int .i64 f.tpo], .int .i64 c] w fun e' w' => e' = .returned (.tuple #[.int .i64 (readD r kind f (c / 262144) (Go.bits .and .i64 (c / 4096) 63) (Go.bits .and .i64 c 4095)).1, .bool (readD r kind f (c / 262144) (Go.bits .and .i64 (c / 4096) 63) (Go.bits .and .i64 c 4095)).2]) ∧ Below w.heap.size w w' := by
  have hT := (show tagB kind = 12 from by unfold tagB; rw [if_neg hk])
  have HT := am_ (fun W => hT ▸ tagB_calls kind W)
  clear hT hk
  have hw1 : wrap64 18 = 18 := wid (by decide) (by decide)
  have hw2 : wrap64 4096 = 4096 := wid (by decide) (by decide)
  have hw3 : wrap64 4095 = 4095 := wid (by decide) (by decide)
  have hd0 : decide (c < 0) = false := decide_eq_false (by omega)
  have hd1 : decide (1048576 ≤ c) = false := decide_eq_false (by omega)
  obtain ⟨R, hR⟩ : ∃ R, readD r kind f (c / 262144) (Go.bits .and .i64 (c / 4096) 63) (Go.bits .and .i64 c 4095) = R := ⟨_, rfl⟩
  rw [hR]
  have HRD := am_ hR
  clear hR
  obtain ⟨ep, ⟨a0, b0⟩, ⟨a1, b1⟩, ⟨a2, b2⟩⟩ := r
  obtain ⟨f0, f1, f2, f3⟩ := f
  obtain ⟨g, HG⟩ : ∃ g, w.heap.size = g := ⟨_, rfl⟩
  go_enter Tryz.func13, Tryz.ntmps13
  go_upto_region 1 with fail
  refine wp_w (fun W => W.heap[g]? = some (.cells #[.int .i64 ep, .int .u64 a0, .int .u64 b0, .int .u64 a1, .int .u64 b1, .int .u64 a2, .int .u64 b2] 31 (0, 0)) ∧ W.heap[g + 1]? = some (.cells #[.int .i64 f0, .int .i64 f1, .int .i64 f2, .int .i64 f3] 56 (0, 0)) ∧ Below w.heap.size w W ∧ W.heap.size = g + 2) ?_ ?_
  · exact two_boxes w HG _ _
  intro w1 h1
  have HK1 := am_ h1.1
  have HF1 := am_ h1.2.1
  have HB1 := am_ h1.2.2.1
  have hs1 := h1.2.2.2
  clear h1
  go_upto_region 4 with (first | (go_at_call 49; (with_reducible refine (HT.out _).mono ?_); rintro e1 x1 ⟨rfl, ⟨⟨nq, rfl⟩⟩⟩))
  have hsx : (w1.drewN nq).heap.size = g + 2 := hs1
  refine start_ (n := 16) (S := fun w' => True) (ds := []) #[fF,fF,fF,fF,fF,fF,fF,fF,fF,fF,fF,fF,fF,fF,fF,fF] (by kernel_rfl) rfl rfl trivial (fun hHeld => ?_)
  refine p_ 0 27 ?_
  refine p_ 1 28 ?_
  refine p_ 2 29 ?_
  refine p_ 3 30 ?_
  refine p_ 4 31 ?_
  refine p_ 5 32 ?_
  refine p_ 6 33 ?_
  refine p_ 7 34 ?_
  refine p_ 8 35 ?_
  refine p_ 9 36 ?_
  refine p_ 10 37 ?_
  refine p_ 11 38 ?_
  refine p_ 12 39 ?_
  refine p_ 13 40 ?_
  refine o_ 14 (some 11) (fun K hK => ?_)
  refine value_ (w1 := ?_) (v := ?_) (by rfl) rfl ?_ ?_
  rotate_left 2
  · go_simp
    constructor
    · rfl
    · rfl
  refine hK.out _ _ trivial (fun hHeld => ?_)
  clear hK K
  refine n_ 11 ?_
  refine o_ 15 none (fun K hK => ?_)
  refine s_ ?_
  refine hK.out _ _ trivial (fun hHeld => ?_)
  clear hK K
  refine done_ (by kernel_rfl) ?_
  go_upto_region 5 with fail
  generalize hee : c / 262144 = e at HRD ⊢
  generalize hss : Go.bits .and .i64 (c / 4096) 63 = s at HRD ⊢
  generalize htt : Go.bits .and .i64 c 4095 = t at HRD ⊢
  refine wp_w (fun W => W.heap[g]? = some (.cells #[.int .i64 ep, .int .u64 a0, .int .u64 b0, .int .u64 a1, .int .u64 b1, .int .u64 a2, .int .u64 b2] 31 (0, 0)) ∧ W.heap[g + 1]? = some (.cells #[.int .i64 f0, .int .i64 f1, .int .i64 f2, .int .i64 f3] 56 (0, 0)) ∧ W.heap[g + 2]? = some (.cells #[.int .i64 e, .int .i64 s, .int .i64 t] 112 (0, 0)) ∧ Below w.heap.size w W) ?_ ?_
  · exact ⟨blk_al HK1.out _, blk_al HF1.out _, by rw [← hsx]; exact new_blk (w1.drewN nq) _, below_alloc (bd HB1.out _) _⟩
  intro w2 h2
  have HF2 := am_ h2.2.1
  have HS2 := am_ h2.2.2.1
  have HB2 := am_ h2.2.2.2
  obtain ⟨q0, q1, q2, q3, q4, q5, q6⟩ := c7 h2.1
  obtain ⟨p0, p1, p2⟩ := c3 h2.2.2.1
  clear h2 hs1 hsx hd0 hd1 hw1 hw2 hw3 hee hss htt
  obtain ⟨⟨⟨ka, kb⟩, is⟩, hkk⟩ : ∃ k, keyC ⟨ep, ⟨a0, b0⟩, ⟨a1, b1⟩, ⟨a2, b2⟩⟩ e = k := ⟨_, rfl⟩
  have HKC := am_ (fun W => hkk ▸ key_calls ⟨ep, ⟨a0, b0⟩, ⟨a1, b1⟩, ⟨a2, b2⟩⟩ e W)
  have HKK := am_ hkk
  clear hkk
  go_upto_region 6 with (first | (go_at_call 50; (with_reducible refine (HKC.out _).mono ?_); rintro e1 x1 ⟨rfl, hx⟩; have HX1 := am_ hx; clear hx; obtain ⟨gq, hgq⟩ : ∃ n, x1.heap.size = n := ⟨_, rfl⟩))
  refine wp_w (fun W => W.heap[gq]? = some (.cells #[.int .u64 ka, .int .u64 kb] 29 (0, 0)) ∧ W.heap[g + 1]? = some (.cells #[.int .i64 f0, .int .i64 f1, .int .i64 f2, .int .i64 f3] 56 (0, 0)) ∧ W.heap[g + 2]? = some (.cells #[.int .i64 e, .int .i64 s, .int .i64 t] 112 (0, 0)) ∧ Below w.heap.size w W) ?_ ?_
  · exact ⟨by rw [← hgq]; exact new_blk x1 _, blk_al (bk_ HF2.out HX1.out) _, blk_al (bk_ HS2.out HX1.out) _, below_alloc (below_step HB2.out HX1.out) _⟩
  intro w5 h5
  have HG5 := am_ h5.1
  have HF5 := am_ h5.2.1
  have HS5 := am_ h5.2.2.1
  have HB5 := am_ h5.2.2.2
  clear h5 q0 q1 q2 q3 q4 q5 q6 p0 p1 p2 hgq
  cases is with
  | false =>
    have HE := am_ (show ((0 : Int), false) = R from by have h1 := HRD.out; rw [readD, if_pos (by rw [HKK.out])] at h1; exact h1)
    go_wp2
    go_ret2
    exact ⟨by rw [← HE.out]; rfl, by first | exact HB5.out | (rw [← HG]; exact HB5.out)⟩
  | true =>
    obtain ⟨v, hv⟩ : ∃ v, veilC ⟨ka, kb⟩ kind ⟨f0, f1, f2, f3⟩ e = v := ⟨_, rfl⟩
    obtain ⟨tg, htg⟩ : ∃ tg, tagC ⟨ka, kb⟩ kind ⟨f0, f1, f2, f3⟩ (Go.bits .xor .i64 s v) e = tg := ⟨_, rfl⟩
    have HV := am_ (fun W => hv ▸ veil_calls ⟨ka, kb⟩ kind ⟨f0, f1, f2, f3⟩ e W)
    have HTG := am_ (fun W => htg ▸ tag_calls ⟨ka, kb⟩ kind ⟨f0, f1, f2, f3⟩ (Go.bits .xor .i64 s v) e W)
    have HE := am_ (show (if tg = t then (Go.bits .xor .i64 s v, true) else (0, false)) = R from by have h1 := HRD.out; rw [readD, if_neg (by rw [HKK.out]; simp), HKK.out] at h1; simp only [hv, htg] at h1; exact h1)
    clear hv htg
    have HCK := am_ (fun W (h : Below w5.heap.size w5 W) => show W.cell? ⟨g + 2, 0, none⟩ = some (.int .i64 e) ∧ W.cell? ⟨g + 2, 1, none⟩ = some (.int .i64 s) ∧ W.cell? ⟨gq, 0, none⟩ = some (.int .u64 ka) ∧ W.cell? ⟨gq, 1, none⟩ = some (.int .u64 kb) ∧ W.cell? ⟨g + 1, 0, none⟩ = some (.int .i64 f0) ∧ W.cell? ⟨g + 1, 1, none⟩ = some (.int .i64 f1) ∧ W.cell? ⟨g + 1, 2, none⟩ = some (.int .i64 f2) ∧ W.cell? ⟨g + 1, 3, none⟩ = some (.int .i64 f3) from
      ⟨(c3 (bk_ HS5.out h)).1, (c3 (bk_ HS5.out h)).2.1, (c2 (bk_ HG5.out h)).1, (c2 (bk_ HG5.out h)).2, c4 (bk_ HF5.out h)⟩)
    have HQc := am_ (Below.refl w5.heap.size w5).drew
    go_upto_region 8 with fail
    refine start_ (n := 10) (S := fun w' => w'.cell? ⟨g + 2, 0, none⟩ = some (.int .i64 e) ∧ w'.cell? ⟨g + 2, 1, none⟩ = some (.int .i64 s) ∧ w'.cell? ⟨gq, 0, none⟩ = some (.int .u64 ka) ∧ w'.cell? ⟨gq, 1, none⟩ = some (.int .u64 kb) ∧ w'.cell? ⟨g + 1, 0, none⟩ = some (.int .i64 f0) ∧ w'.cell? ⟨g + 1, 1, none⟩ = some (.int .i64 f1) ∧ w'.cell? ⟨g + 1, 2, none⟩ = some (.int .i64 f2) ∧ w'.cell? ⟨g + 1, 3, none⟩ = some (.int .i64 f3)) (ds := []) #[fF,fF,fF,fF,fF,fF,fF,fF,fF,fF] (by kernel_rfl) rfl rfl ⟨(HCK.out _ HQc.out).1, (HCK.out _ HQc.out).2.1, (HCK.out _ HQc.out).2.2.1, (HCK.out _ HQc.out).2.2.2.1, (HCK.out _ HQc.out).2.2.2.2.1, (HCK.out _ HQc.out).2.2.2.2.2.1, (HCK.out _ HQc.out).2.2.2.2.2.2.1, (HCK.out _ HQc.out).2.2.2.2.2.2.2⟩ (fun hHeld => ?_)
    refine p_ 0 50 ?_
    refine p_ 3 53 ?_
    refine p_ 5 55 ?_
    refine t_ 1 51 hHeld ?_
    refine t_ 2 52 hHeld ?_
    refine t_ 4 54 hHeld ?_
    refine t_ 6 56 hHeld ?_
    refine o_ 7 (some 57) (fun K hK => ?_)
    refine g_ Tryz.func51 #[.agg #[.int .u64 ka, .int .u64 kb], .int .i64 kind, .agg #[.int .i64 f0, .int .i64 f1, .int .i64 f2, .int .i64 f3], .int .i64 e] ?_
    with_reducible refine (HV.out _).mono ?_
    rintro e w3 ⟨rfl, hx⟩
    refine ⟨_, rfl, ?_⟩
    replace HQc := am_ (below_step HQc.out hx)
    refine hK.out _ _ ⟨(HCK.out _ HQc.out).1, (HCK.out _ HQc.out).2.1, (HCK.out _ HQc.out).2.2.1, (HCK.out _ HQc.out).2.2.2.1, (HCK.out _ HQc.out).2.2.2.2.1, (HCK.out _ HQc.out).2.2.2.2.2.1, (HCK.out _ HQc.out).2.2.2.2.2.2.1, (HCK.out _ HQc.out).2.2.2.2.2.2.2⟩ (fun hHeld => ?_)
    clear hK K
    refine n_ 57 ?_
    refine p_ 8 58 ?_
    refine p_ 9 14 ?_
    refine done_ (by kernel_rfl) ?_
    go_upto_region 9 with fail
    refine wp_w (fun W => Below w5.heap.size w5 W) ?_ ?_
    · exact HQc.out
    intro w6 h6
    clear HQc
    have HB6 := am_ (below_step HB5.out h6)
    replace HG5 := am_ (bk_ HG5.out h6)
    replace HF5 := am_ (bk_ HF5.out h6)
    replace HS5 := am_ (bk_ HS5.out h6)
    clear h6 HB5 HCK
    have HCK := am_ (fun W (h : Below w6.heap.size w6 W) => show W.cell? ⟨g + 2, 0, none⟩ = some (.int .i64 e) ∧ W.cell? ⟨g + 2, 1, none⟩ = some (.int .i64 s) ∧ W.cell? ⟨gq, 0, none⟩ = some (.int .u64 ka) ∧ W.cell? ⟨gq, 1, none⟩ = some (.int .u64 kb) ∧ W.cell? ⟨g + 1, 0, none⟩ = some (.int .i64 f0) ∧ W.cell? ⟨g + 1, 1, none⟩ = some (.int .i64 f1) ∧ W.cell? ⟨g + 1, 2, none⟩ = some (.int .i64 f2) ∧ W.cell? ⟨g + 1, 3, none⟩ = some (.int .i64 f3) from
      ⟨(c3 (bk_ HS5.out h)).1, (c3 (bk_ HS5.out h)).2.1, (c2 (bk_ HG5.out h)).1, (c2 (bk_ HG5.out h)).2, c4 (bk_ HF5.out h)⟩)
    have HQc := am_ (Below.refl w6.heap.size w6).drew
    refine start_ (n := 14) (S := fun w' => w'.cell? ⟨g + 2, 0, none⟩ = some (.int .i64 e) ∧ w'.cell? ⟨g + 2, 1, none⟩ = some (.int .i64 s) ∧ w'.cell? ⟨gq, 0, none⟩ = some (.int .u64 ka) ∧ w'.cell? ⟨gq, 1, none⟩ = some (.int .u64 kb) ∧ w'.cell? ⟨g + 1, 0, none⟩ = some (.int .i64 f0) ∧ w'.cell? ⟨g + 1, 1, none⟩ = some (.int .i64 f1) ∧ w'.cell? ⟨g + 1, 2, none⟩ = some (.int .i64 f2) ∧ w'.cell? ⟨g + 1, 3, none⟩ = some (.int .i64 f3)) (ds := [13]) #[fF,fF,fF,fF,fF,fF,fF,fF,fF,fF,fF,fF,fF,fF] (by kernel_rfl) rfl rfl ⟨(HCK.out _ HQc.out).1, (HCK.out _ HQc.out).2.1, (HCK.out _ HQc.out).2.2.1, (HCK.out _ HQc.out).2.2.2.1, (HCK.out _ HQc.out).2.2.2.2.1, (HCK.out _ HQc.out).2.2.2.2.2.1, (HCK.out _ HQc.out).2.2.2.2.2.2.1, (HCK.out _ HQc.out).2.2.2.2.2.2.2⟩ (fun hHeld => ?_)
    refine p_ 0 59 ?_
    refine p_ 2 61 ?_
    refine p_ 5 64 ?_
    refine p_ 7 66 ?_
    refine p_ 8 67 ?_
    refine t_ 1 60 hHeld ?_
    refine t_ 3 62 hHeld ?_
    refine t_ 4 63 hHeld ?_
    refine t_ 6 65 hHeld ?_
    refine t_ 9 68 hHeld ?_
    refine join_ (σ := Nat) 1 #[tT,tT,tT,tT,tT,tT,tT,tT,tT,tT,tT,tT,tT,fF] (fun b => [(69, .int .i64 tg), (70, .agg #[.int .i64 e, .int .i64 s, .int .i64 tg]), (15, .pointer (some ⟨b, 0, none⟩))]) (fun b w' => w'.heap[b]? = some (.cells #[.int .i64 0, .int .i64 0, .int .i64 0] 112 (0, 0)) ∧ w6.heap.size ≤ b ∧ Below w6.heap.size w6 w') ?_ ?_
    rotate_left
    · intro hCont
      refine two_ (i := 10) (j := 12) (Ni := some 69) (Nj := some 15) #[tT,tT,tT,tT,tT,tT,tT,tT,tT,tT,tT,fF,fF,fF] #[tT,tT,tT,tT,tT,tT,tT,tT,tT,tT,fF,fF,tT,fF] rfl rfl rfl rfl (by kernel_rfl) (by decide) (by decide) (fun K hK => ?_) (fun K hK => ?_)
      · skip
        refine g_ Tryz.func52 #[.agg #[.int .u64 ka, .int .u64 kb], .int .i64 kind, .agg #[.int .i64 f0, .int .i64 f1, .int .i64 f2, .int .i64 f3], .int .i64 (Go.bits .xor .i64 s v), .int .i64 e] ?_
        with_reducible refine (HTG.out _).mono ?_
        rintro e w3 ⟨rfl, hx⟩
        refine ⟨_, rfl, ?_⟩
        replace HQc := am_ (below_step HQc.out hx)
        refine hK.out _ _ ⟨(HCK.out _ HQc.out).1, (HCK.out _ HQc.out).2.1, (HCK.out _ HQc.out).2.2.1, (HCK.out _ HQc.out).2.2.2.1, (HCK.out _ HQc.out).2.2.2.2.1, (HCK.out _ HQc.out).2.2.2.2.2.1, (HCK.out _ HQc.out).2.2.2.2.2.2.1, (HCK.out _ HQc.out).2.2.2.2.2.2.2⟩ (fun hHeld => ?_)
        clear hK K
        refine n_ 69 ?_
        refine p_ 11 70 ?_
        refine o_ 12 (some 15) (fun K hK => ?_)
        refine value_ (w1 := ?_) (v := ?_) (by rfl) rfl ?_ ?_
        rotate_left 2
        · go_simp
          constructor
          · rfl
          · rfl
        have HAL := am_ (new_blk w3 (.cells #[.int .i64 0, .int .i64 0, .int .i64 0] 112))
        have HLE := am_ (HQc.out.size)
        replace HQc := am_ (below_alloc HQc.out (.cells #[.int .i64 0, .int .i64 0, .int .i64 0] 112))
        refine hK.out _ _ ⟨(HCK.out _ HQc.out).1, (HCK.out _ HQc.out).2.1, (HCK.out _ HQc.out).2.2.1, (HCK.out _ HQc.out).2.2.2.1, (HCK.out _ HQc.out).2.2.2.2.1, (HCK.out _ HQc.out).2.2.2.2.2.1, (HCK.out _ HQc.out).2.2.2.2.2.2.1, (HCK.out _ HQc.out).2.2.2.2.2.2.2⟩ (fun hHeld => ?_)
        clear hK K
        refine n_ 15 ?_
        exact norm_ (by simp only [putAll, Act.put, q_a, q_0, q_s]) (hCont w3.heap.size _ ⟨HAL.out, HLE.out, HQc.out⟩)
      · skip
        refine value_ (w1 := ?_) (v := ?_) (by rfl) rfl ?_ ?_
        rotate_left 2
        · go_simp
          constructor
          · rfl
          · rfl
        have HAL := am_ (new_blk w6.drew (.cells #[.int .i64 0, .int .i64 0, .int .i64 0] 112))
        have HLE := am_ (HQc.out.size)
        replace HQc := am_ (below_alloc HQc.out (.cells #[.int .i64 0, .int .i64 0, .int .i64 0] 112))
        refine hK.out _ _ ⟨(HCK.out _ HQc.out).1, (HCK.out _ HQc.out).2.1, (HCK.out _ HQc.out).2.2.1, (HCK.out _ HQc.out).2.2.2.1, (HCK.out _ HQc.out).2.2.2.2.1, (HCK.out _ HQc.out).2.2.2.2.2.1, (HCK.out _ HQc.out).2.2.2.2.2.2.1, (HCK.out _ HQc.out).2.2.2.2.2.2.2⟩ (fun hHeld => ?_)
        clear hK K
        refine n_ 15 ?_
        refine o_ 10 (some 69) (fun K hK => ?_)
        refine g_ Tryz.func52 #[.agg #[.int .u64 ka, .int .u64 kb], .int .i64 kind, .agg #[.int .i64 f0, .int .i64 f1, .int .i64 f2, .int .i64 f3], .int .i64 (Go.bits .xor .i64 s v), .int .i64 e] ?_
        with_reducible refine (HTG.out _).mono ?_
        rintro e w3 ⟨rfl, hx⟩
        refine ⟨_, rfl, ?_⟩
        replace HAL := am_ (bk_ HAL.out hx)
        replace HQc := am_ (below_step HQc.out hx)
        refine hK.out _ _ ⟨(HCK.out _ HQc.out).1, (HCK.out _ HQc.out).2.1, (HCK.out _ HQc.out).2.2.1, (HCK.out _ HQc.out).2.2.2.1, (HCK.out _ HQc.out).2.2.2.2.1, (HCK.out _ HQc.out).2.2.2.2.2.1, (HCK.out _ HQc.out).2.2.2.2.2.2.1, (HCK.out _ HQc.out).2.2.2.2.2.2.2⟩ (fun hHeld => ?_)
        clear hK K
        refine n_ 69 ?_
        refine p_ 11 70 ?_
        exact norm_ (by simp only [putAll, Act.put, q_a, q_0, q_s]) (hCont w6.heap.size _ ⟨HAL.out, HLE.out, HQc.out⟩)
    rintro gb w4 ⟨hal, hle, hq⟩
    clear HQc
    have HQc := am_ hq
    have HAL := am_ hal
    have HLE := am_ hle
    obtain ⟨T0, T1, T2⟩ := c3 hal
    have U0 := fr_ hal 0
    have U1 := fr_ hal 1
    have U2 := fr_ hal 2
    clear hq hal hle
    have hHeld := HCK.out _ HQc.out
    refine norm_ (a' := ?_) ?_ ?_
    rotate_left; · simp only [putAll, Act.put, q_a, q_0, q_s]; rfl
    refine l_ 13 none (fun K hK => ?_)
    refine s_ ?_
    refine hK.out _ _ ?_
    clear hK K
    refine done_ (by kernel_rfl) ?_
    refine ex_w (fun W => W.heap[gb]? = some (.cells #[.int .i64 e, .int .i64 s, .int .i64 tg] 112 (0, 0)) ∧ W.heap[g + 2]? = some (.cells #[.int .i64 e, .int .i64 s, .int .i64 t] 112 (0, 0)) ∧ Below w.heap.size w W) ?_ ?_
    · have n0 : g + 2 ≠ gb := by have := blk_lt HS5.out; have := HLE.out; omega
      refine ⟨blk_drew (heap_setCell_same _ gb 2 _ 112 _ (heap_setCell_same _ gb 1 _ 112 _ (heap_setCell_same _ gb 0 _ 112 _ HAL.out))), ?_, ?_⟩
      · exact (set3_other w4 gb (g + 2) n0 _ _ _).trans (bk_ HS5.out HQc.out)
      · first | exact (below_set (below_set (below_set (below_step HB6.out HQc.out) (by have := HLE.out; have := HB6.out.size; omega)) (by have := HLE.out; have := HB6.out.size; omega)) (by have := HLE.out; have := HB6.out.size; omega)) | exact (below_set (below_set (below_set (below_step HB6.out HQc.out) (by have := HLE.out; have := HB6.out.size; omega)) (by have := HLE.out; have := HB6.out.size; omega)) (by have := HLE.out; have := HB6.out.size; omega)).drew
    intro w7 h7
    have HB7 := am_ h7.2.2
    obtain ⟨k0, k1, k2⟩ := c3 h7.1
    obtain ⟨j0, j1, j2⟩ := c3 h7.2.1
    clear h7
    by_cases he : tg = t
    · have hb : (tg == t) = true := beq_iff_eq.mpr he
      have HE2 := am_ (show (Go.bits .xor .i64 s v, true) = R from by have h1 := HE.out; rw [if_pos he] at h1; exact h1)
      clear he
      go_wp2
      go_ret2
      exact ⟨by rw [← HE2.out]; rfl, by first | exact HB7.out | (rw [← HG]; exact HB7.out)⟩
    · have hb : (tg == t) = false := beq_eq_false_iff_ne.mpr he
      have HE2 := am_ (show ((0 : Int), false) = R from by have h1 := HE.out; rw [if_neg he] at h1; exact h1)
      clear he
      go_wp2
      go_ret2
      exact ⟨by rw [← HE2.out]; rfl, by first | exact HB7.out | (rw [← HG]; exact HB7.out)⟩
theorem read_2n (r : Rg) (kind : Int) (hk : kind = 2) (f : Fl) (c : Int) (h0 : c < 0) (w : World) :
    Calls Tryz.prog 13 #[.agg #[.int .i64 r.ep, .int .u64 r.k0.a, .int .u64 r.k0.b, .int .u64 r.k1.a, .int .u64 r.k1.b, .int .u64 r.k2.a, .int .u64 r.k2.b], .int .i64 kind, .agg #[.int .i64 f.ad, .int .i64 f.po, .int .i64 f.tad, .int .i64 f.tpo], .int .i64 c] w fun e' w' => e' = .returned (.tuple #[.int .i64 0, .bool false]) ∧ Below w.heap.size w w' := by
  have hT := (show tagB kind = 8 from by unfold tagB; rw [if_pos hk])
  have HT := am_ (fun W => hT ▸ tagB_calls kind W)
  clear hT hk
  have hd0 : decide (c < 0) = true := decide_eq_true h0
  clear h0
  obtain ⟨ep, ⟨a0, b0⟩, ⟨a1, b1⟩, ⟨a2, b2⟩⟩ := r
  obtain ⟨f0, f1, f2, f3⟩ := f
  obtain ⟨g, HG⟩ : ∃ g, w.heap.size = g := ⟨_, rfl⟩
  go_enter Tryz.func13, Tryz.ntmps13
  go_upto_region 1 with fail
  refine wp_w (fun W => Below w.heap.size w W) ?_ ?_
  · exact (two_boxes w HG _ _).2.2.1
  intro w1 h1
  have HB1 := am_ h1
  clear h1
  go_wp2_with (first | (go_at_call 49; (with_reducible refine (HT.out _).mono ?_); rintro e1 x1 ⟨rfl, ⟨⟨nq, rfl⟩⟩⟩))
  go_ret2
  exact ⟨rfl, by first | exact bd HB1.out _ | (rw [← HG]; exact bd HB1.out _)⟩
theorem read_2b (r : Rg) (kind : Int) (hk : kind = 2) (f : Fl) (c : Int) (h0 : 65536 ≤ c) (w : World) :
    Calls Tryz.prog 13 #[.agg #[.int .i64 r.ep, .int .u64 r.k0.a, .int .u64 r.k0.b, .int .u64 r.k1.a, .int .u64 r.k1.b, .int .u64 r.k2.a, .int .u64 r.k2.b], .int .i64 kind, .agg #[.int .i64 f.ad, .int .i64 f.po, .int .i64 f.tad, .int .i64 f.tpo], .int .i64 c] w fun e' w' => e' = .returned (.tuple #[.int .i64 0, .bool false]) ∧ Below w.heap.size w w' := by
  have hT := (show tagB kind = 8 from by unfold tagB; rw [if_pos hk])
  have HT := am_ (fun W => hT ▸ tagB_calls kind W)
  clear hT hk
  have hd0 : decide (c < 0) = false := decide_eq_false (by omega)
  have hd1 : decide (65536 ≤ c) = true := decide_eq_true h0
  clear h0
  obtain ⟨ep, ⟨a0, b0⟩, ⟨a1, b1⟩, ⟨a2, b2⟩⟩ := r
  obtain ⟨f0, f1, f2, f3⟩ := f
  obtain ⟨g, HG⟩ : ∃ g, w.heap.size = g := ⟨_, rfl⟩
  go_enter Tryz.func13, Tryz.ntmps13
  go_upto_region 1 with fail
  refine wp_w (fun W => Below w.heap.size w W) ?_ ?_
  · exact (two_boxes w HG _ _).2.2.1
  intro w1 h1
  have HB1 := am_ h1
  clear h1
  go_wp2_with (first | (go_at_call 49; (with_reducible refine (HT.out _).mono ?_); rintro e1 x1 ⟨rfl, ⟨⟨nq, rfl⟩⟩⟩))
  go_ret2
  exact ⟨rfl, by first | exact bd HB1.out _ | (rw [← HG]; exact bd HB1.out _)⟩
theorem read_n2n (r : Rg) (kind : Int) (hk : kind ≠ 2) (f : Fl) (c : Int) (h0 : c < 0) (w : World) :
    Calls Tryz.prog 13 #[.agg #[.int .i64 r.ep, .int .u64 r.k0.a, .int .u64 r.k0.b, .int .u64 r.k1.a, .int .u64 r.k1.b, .int .u64 r.k2.a, .int .u64 r.k2.b], .int .i64 kind, .agg #[.int .i64 f.ad, .int .i64 f.po, .int .i64 f.tad, .int .i64 f.tpo], .int .i64 c] w fun e' w' => e' = .returned (.tuple #[.int .i64 0, .bool false]) ∧ Below w.heap.size w w' := by
  have hT := (show tagB kind = 12 from by unfold tagB; rw [if_neg hk])
  have HT := am_ (fun W => hT ▸ tagB_calls kind W)
  clear hT hk
  have hd0 : decide (c < 0) = true := decide_eq_true h0
  clear h0
  obtain ⟨ep, ⟨a0, b0⟩, ⟨a1, b1⟩, ⟨a2, b2⟩⟩ := r
  obtain ⟨f0, f1, f2, f3⟩ := f
  obtain ⟨g, HG⟩ : ∃ g, w.heap.size = g := ⟨_, rfl⟩
  go_enter Tryz.func13, Tryz.ntmps13
  go_upto_region 1 with fail
  refine wp_w (fun W => Below w.heap.size w W) ?_ ?_
  · exact (two_boxes w HG _ _).2.2.1
  intro w1 h1
  have HB1 := am_ h1
  clear h1
  go_wp2_with (first | (go_at_call 49; (with_reducible refine (HT.out _).mono ?_); rintro e1 x1 ⟨rfl, ⟨⟨nq, rfl⟩⟩⟩))
  go_ret2
  exact ⟨rfl, by first | exact bd HB1.out _ | (rw [← HG]; exact bd HB1.out _)⟩
theorem read_n2b (r : Rg) (kind : Int) (hk : kind ≠ 2) (f : Fl) (c : Int) (h0 : 1048576 ≤ c) (w : World) :
    Calls Tryz.prog 13 #[.agg #[.int .i64 r.ep, .int .u64 r.k0.a, .int .u64 r.k0.b, .int .u64 r.k1.a, .int .u64 r.k1.b, .int .u64 r.k2.a, .int .u64 r.k2.b], .int .i64 kind, .agg #[.int .i64 f.ad, .int .i64 f.po, .int .i64 f.tad, .int .i64 f.tpo], .int .i64 c] w fun e' w' => e' = .returned (.tuple #[.int .i64 0, .bool false]) ∧ Below w.heap.size w w' := by
  have hT := (show tagB kind = 12 from by unfold tagB; rw [if_neg hk])
  have HT := am_ (fun W => hT ▸ tagB_calls kind W)
  clear hT hk
  have hd0 : decide (c < 0) = false := decide_eq_false (by omega)
  have hd1 : decide (1048576 ≤ c) = true := decide_eq_true h0
  clear h0
  obtain ⟨ep, ⟨a0, b0⟩, ⟨a1, b1⟩, ⟨a2, b2⟩⟩ := r
  obtain ⟨f0, f1, f2, f3⟩ := f
  obtain ⟨g, HG⟩ : ∃ g, w.heap.size = g := ⟨_, rfl⟩
  go_enter Tryz.func13, Tryz.ntmps13
  go_upto_region 1 with fail
  refine wp_w (fun W => Below w.heap.size w W) ?_ ?_
  · exact (two_boxes w HG _ _).2.2.1
  intro w1 h1
  have HB1 := am_ h1
  clear h1
  go_wp2_with (first | (go_at_call 49; (with_reducible refine (HT.out _).mono ?_); rintro e1 x1 ⟨rfl, ⟨⟨nq, rfl⟩⟩⟩))
  go_ret2
  exact ⟨rfl, by first | exact bd HB1.out _ | (rw [← HG]; exact bd HB1.out _)⟩
theorem cread_calls (r : Rg) (kind : Int) (f : Fl) (c : Int) (w : World) :
    Calls Tryz.prog 13 #[.agg #[.int .i64 r.ep, .int .u64 r.k0.a, .int .u64 r.k0.b, .int .u64 r.k1.a, .int .u64 r.k1.b, .int .u64 r.k2.a, .int .u64 r.k2.b], .int .i64 kind, .agg #[.int .i64 f.ad, .int .i64 f.po, .int .i64 f.tad, .int .i64 f.tpo], .int .i64 c] w fun e' w' => e' = .returned (.tuple #[.int .i64 (readC r kind f c).1, .bool (readC r kind f c).2]) ∧ Below w.heap.size w w' := by
  unfold readC
  by_cases hk : kind = 2
  · rw [if_pos hk]
    by_cases hc : c < 0 ∨ 65536 ≤ c
    · rw [if_pos hc]
      rcases hc with hc | hc
      · exact read_2n r kind hk f c hc w
      · exact read_2b r kind hk f c hc w
    · rw [if_neg hc]
      exact read_2 r kind hk f c (by omega) (by omega) w
  · rw [if_neg hk]
    by_cases hc : c < 0 ∨ 1048576 ≤ c
    · rw [if_pos hc]
      rcases hc with hc | hc
      · exact read_n2n r kind hk f c hc w
      · exact read_n2b r kind hk f c hc w
    · rw [if_neg hc]
      exact read_n2 r kind hk f c (by omega) (by omega) w
end Go.Proofs.YtgkmbefamcnifaaGreat.TB
