/- The walk of SumParts: its appends' steps as the kit's printer has them (gen_parts.py), the rest by hand. -/
import Derived.Test.YtofgnnmlhnpcoaaHx0
import Derived.Test.YtofgnnmlhnpcoaaHx1
import Derived.Test.YtofgnnmlhnpcoaaHx3
import Derived.Test.YtofgnnmlhnpcoaaSumBase2
namespace Go.Proofs.Ytofgnnmlhnpcoaa.PL
open Go.RowKit Go.Proofs.Ytofgnnmlhnpcoaa.Hp Go.Proofs.Ytofgnnmlhnpcoaa.SB Go.Proofs.YtofgnnmlhnpcoaaW.PrintWords Go.Proofs.YtofgnnmlhnpcoaaW.PrintLast Go.Proofs.YtofgnnmlhnpcoaaW.PrintMore
attribute [local go_sem] max2_int min2_int max_two min_two max_three min_three max_four min_four
set_option linter.unusedVariables false
set_option linter.unusedSimpArgs false
def roundhouselaw1_SumParts.T8 : Bool × List (List Nat × List Nat) := (true, [([], []), ([], []), ([], []), ([], []), ([3], [3]), ([2, 4], [2, 4]), ([1, 5], [1, 5]), ([0, 6], [0, 6]), ([], []), ([], []), ([], []), ([10], [10]), ([9, 11], [9, 11]), ([8, 12], [8, 12]), ([7, 13, 7], [7, 13]), ([14, 14, 0, 1, 2, 3, 4, 5, 6, 7, 8, 9, 10, 11, 12, 13, 14], [14])])
def roundhouselaw1_SumParts.B8 : List Nat := [0, 0, 0, 0, 8, 28, 62, 127, 0, 0, 0, 1024, 3584, 7936, 16383, 32767]
theorem roundhouselaw1_SumParts.tab8 : rtab .any (opsOf Try.f8 8) = roundhouselaw1_SumParts.T8 := by kernel_rfl
theorem roundhouselaw1_SumParts.bits8 : waitsOk roundhouselaw1_SumParts.T8.2 roundhouselaw1_SumParts.B8 = true := by kernel_rfl
theorem wr2 {n : Int} (h0 : 0 ≤ n) (h1 : n ≤ 100000) : wrap64 n = n := wid (by omega) (by omega)
theorem bd_ {B : Nat} {a w : World} (h : Below B a w) (n : Nat) : Below B a (w.drewN n) := ⟨h.os, h.tape, h.output, h.size, h.block⟩
theorem cut_at {w : World} {A : Option Addr} {c : Nat} {xs : List Int} {j : Int} (h : Kd.C (Kd.int .u8) w A xs.length xs) (hm : j ≤ xs.length) (hc : xs.length ≤ c) :
    Kd.C (Kd.int .u8) w (if c = j.toNat then A else A.map (fun x => x.add j.toNat)) (xs.length - j.toNat) (xs.drop j.toNat) :=
  Kd.C_of_reads (d := 0) (h1 := fun _ => rfl) ((Kd.reads_of_C h).drop_ j.toNat (by omega) hc)
theorem add_q {A : Option Addr} {c n : Nat} {l : List Int} {r : Int} {w : World} (k : Nat) (hr : Kd.C (Kd.int .u8) w A n l) (hn : l.length = n) (hc : n ≤ c) (h : sum_Add.f 2000 l = some r) :
    Calls Try.prog 14 #[.slice A n c] (w.drewN k) fun e w'' => e = .returned (.int .i64 r) ∧ ∃ m, w'' = w.drewN m := by
  subst hn
  refine Calls.quiet_of ((sum_Add.calls 2000 A c l r _ ?_ hc h).mono fun e w' hh => ⟨hh.1, hh.2.out⟩)
  exact Kd.C_drewN hr _
theorem plus_q {a b r : Int} {w : World} (k : Nat) (h : sum_Plus.f a b = some r) :
    Calls Try.prog 20 #[.int .i64 a, .int .i64 b] (w.drewN k) fun e w'' => e = .returned (.int .i64 r) ∧ ∃ m, w'' = w.drewN m :=
  Calls.quiet_of ((sum_Plus.calls a b r _ h).mono fun e w' hh => ⟨hh.1, hh.2.out⟩)
theorem noughts : ∀ (n : Nat), pairs (List.replicate n 0) = 0
  | 0 => rfl
  | 1 => rfl
  | n + 2 => by simp only [List.replicate_succ, pairs, noughts n]; rfl
theorem pairs_nought : ∀ (a : List Int) (n : Nat), n % 2 = 0 → pairs (a ++ List.replicate n 0) = pairs a
  | [], n, _ => by rw [List.nil_append, noughts]; rfl
  | [x], 0, _ => rfl
  | [x], 1, h => by simp at h
  | [x], n + 2, h => by have := noughts (n + 1); simp only [List.cons_append, List.nil_append, List.replicate_succ, pairs] at this ⊢; omega
  | x :: y :: l, n, h => by have := pairs_nought l n h; simp only [List.cons_append, pairs, this]
theorem parts_pure {l : List Int} (hb : Bytes l) (hl : l.length ≤ 1000) {k j E : Nat} (hk : k % 2 = 0) (hj : j % 2 = 0) (hj2 : j ≤ 16) (hE : E % 2 = 0) (hkE : k ≤ E) (hEl : E ≤ l.length) :
    ∃ X Y p T, sum_Add.f 2000 (l.drop k ++ List.replicate j 0) = some X ∧ sum_Add.f 2000 (l.drop k) = some X ∧ sum_Add.f 2000 ((l.take E).drop k ++ (l.take E).take k) = some Y ∧ sum_Add.f 2000 (l.take E) = some Y ∧
      sum_Add.f 2000 (l.take k) = some p ∧ sum_Add.f 2000 l = some T ∧ sum_Plus.f p X = some T := by
  have hz : Bytes (List.replicate j 0) := by intro x hx; have := List.eq_of_mem_replicate hx; omega
  have l1 : (l.drop k).length = l.length - k := List.length_drop
  have l2 : (l.take E).length = E := by rw [List.length_take]; omega
  have l3 : ((l.take E).drop k).length = E - k := by rw [List.length_drop, l2]
  have l4 : ((l.take E).take k).length = k := by rw [List.length_take, l2]; omega
  have l5 : (l.take k).length = k := by rw [List.length_take]; omega
  have b1 := hb.drop k
  have b2 := hb.take E
  have b5 := hb.take k
  have f1 := @fold_bounds (pairs (l.drop k))
  have f5 := @fold_bounds (pairs (l.take k))
  refine ⟨fold (pairs (l.drop k)), fold (pairs (l.take E)), fold (pairs (l.take k)), fold (pairs l), ?_, ?_, ?_, ?_, ?_, ?_, ?_⟩
  · rw [add_f (by rw [List.length_append, List.length_replicate]; omega) (b1.app hz) (by rw [List.length_append, List.length_replicate]; omega), pairs_nought _ _ hj]
  · exact add_f (by omega) b1 (by omega)
  · rw [add_f (by rw [List.length_append]; omega) ((b2.drop k).app (b2.take k)) (by rw [List.length_append]; omega), pairs_app _ _ (by omega)]
    have h := pairs_app ((l.take E).take k) ((l.take E).drop k) (by omega)
    rw [List.take_append_drop] at h
    rw [h, Int.add_comm]
  · exact add_f (by omega) b2 (by omega)
  · exact add_f (by omega) b5 (by omega)
  · exact add_f (by omega) hb (by omega)
  · rw [plus_f f5.1 f5.2 f1.1 f1.2, fold_fold (pairs_nonneg b5) (pairs_nonneg b1)]
    have h := pairs_app (l.take k) (l.drop k) (by omega)
    rw [List.take_append_drop] at h
    rw [h]
set_option maxHeartbeats 8000000 in
set_option maxRecDepth 100000 in
theorem parts_calls (A0 : Option Addr) (c0 : Nat) (l0 : List Int) (a1 : Int) (a2 : Int) (w : World) (hr0 : Kd.C (Kd.int .u8) w A0 l0.length l0) (hc0 : l0.length ≤ c0) (hby : Bytes l0) (hln : l0.length ≤ 1000) :
    Calls Try.prog 8 #[.slice A0 l0.length c0, .int .i64 a1, .int .i64 a2] w fun e w' => e = .returned (.bool true) ∧ Below w.heap.size w w' := by
  have HR0 := Aside0.mk hr0
  have HC0 := Aside0.mk hc0
  clear hr0 hc0
  have HB := Aside0.mk (Below.refl w.heap.size w)
  have A4 := Aside0.mk (known_f (k := 2000) (by omega))
  have c6b0 : decide (1000 < (l0.length : Int)) = false := decide_eq_false (by omega)
  have c6b1 : decide (1000 < l0.length) = false := decide_eq_false (by omega)
  have e1 : wrap64 ((l0.length : Int) / 2) = (l0.length : Int) / 2 := wr2 (by omega) (by omega)
  have e2 : wrap64 (wrap64 ((l0.length : Int) / 2) + 1) = (l0.length : Int) / 2 + 1 := by rw [e1]; exact wr2 (by omega) (by omega)
  obtain ⟨t230, h230, t0, t1⟩ := within_b (a := a1) (n := (l0.length : Int) / 2 + 1) (by omega) (by omega)
  have A8 := Aside0.mk (show roundhouselaw1_within.f a1 (wrap64 ((wrap64 ((l0.length : Int) / 2)) + 1)) = some t230 from by rw [e2]; exact h230)
  obtain ⟨t238, h238, s0, s1⟩ := within_b (a := a2) (n := 9) (by omega) (by omega)
  have A13 := Aside0.mk h238
  obtain ⟨ji9, hji9⟩ : ∃ j_ : Int, wrap64 (t230 * 2) = j_ := ⟨_, rfl⟩
  obtain ⟨ji14, hji14⟩ : ∃ j_ : Int, wrap64 (t238 * 2) = j_ := ⟨_, rfl⟩
  obtain ⟨ji17, hji17⟩ : ∃ j_ : Int, wrap64 ((wrap64 ((l0.length : Int) / 2)) * 2) = j_ := ⟨_, rfl⟩
  have v9 : ji9 = t230 * 2 := hji9.symm.trans (wr2 (by omega) (by omega))
  have v14 : ji14 = t238 * 2 := hji14.symm.trans (wr2 (by omega) (by omega))
  have v17 : ji17 = (l0.length : Int) / 2 * 2 := hji17.symm.trans (by rw [e1]; exact wr2 (by omega) (by omega))
  have hji9w : (IntKind.i64.wrap (t230 * 2)) = ji9 := (i64_w _).trans hji9
  have hji14w : (IntKind.i64.wrap (t238 * 2)) = ji14 := (i64_w _).trans hji14
  have hji17w : (IntKind.i64.wrap ((wrap64 ((l0.length : Int) / 2)) * 2)) = ji17 := (i64_w _).trans hji17
  have c10 : 0 ≤ ji9 := by omega
  have c11 : ji9 ≤ (l0.length : Int) := by omega
  have c15 : 0 ≤ ji14 := by omega
  have c18 : 0 ≤ ji17 := by omega
  have c19 : ji17 ≤ (l0.length : Int) := by omega
  have c917 : ji9 ≤ ji17 := by omega
  have c14b : ji14 ≤ 16 := by omega
  have hT : (l0.take ((ji17) : Int).toNat).length = ((ji17) : Int).toNat := by rw [List.length_take]; omega
  have HV := Aside0.mk (And.intro v9 (And.intro v14 v17))
  clear e1 e2 v9 v14 v17 t0 t1 s0 s1 h230 h238
  have c10b0 := eq_true c10
  have c10b1 : decide (0 ≤ ji9) = true := decide_eq_true c10
  have c11b0 := eq_true c11
  have c11b1 : decide (ji9 ≤ (l0.length : Int)) = true := decide_eq_true c11
  obtain ⟨y231, hy231⟩ : ∃ y_ : List Int, y_ = (([] : List Int)) := ⟨_, rfl⟩
  have Ny231 := Aside0.mk hy231
  have LMc12 := Aside0.mk (show y231.length + (l0.drop ((ji9) : Int).toNat).length < 140737488355328 from by rw [hy231, List.length_drop]; show 0 + _ < _; omega)
  obtain ⟨y235, hy235⟩ : ∃ y_ : List Int, y_ = (y231 ++ (l0.drop ((ji9) : Int).toNat)) := ⟨_, rfl⟩
  have Ny235 := Aside0.mk hy235
  have c15b0 := eq_true c15
  have c15b1 : decide (0 ≤ ji14) = true := decide_eq_true c15
  have hy235l : y235.length ≤ 1000 := by rw [hy235, hy231, List.nil_append, List.length_drop]; omega
  have LMc16 := Aside0.mk (show y235.length + (ji14 : Int).toNat < 140737488355328 from by omega)
  obtain ⟨y239, hy239⟩ : ∃ y_ : List Int, y_ = (y235 ++ List.replicate (ji14 : Int).toNat 0) := ⟨_, rfl⟩
  have Ny239 := Aside0.mk hy239
  have c18b0 := eq_true c18
  have c18b1 : decide (0 ≤ ji17) = true := decide_eq_true c18
  have c19b0 := eq_true c19
  have c19b1 : decide (ji17 ≤ (l0.length : Int)) = true := decide_eq_true c19
  obtain ⟨y243, hy243⟩ : ∃ y_ : List Int, y_ = (([] : List Int)) := ⟨_, rfl⟩
  have Ny243 := Aside0.mk hy243
  have hji20_ : (if ((l0.take ((ji17) : Int).toNat).length : Int) < (ji9) then ((l0.take ((ji17) : Int).toNat).length : Int) else (ji9)) = ji9 := if_neg (by rw [hT]; omega)
  have hji20_m : (if max ji17 0 < ji9 then max ji17 0 else ji9) = ji9 := if_neg (by omega)
  have c22 : ji9 ≤ ((l0.take ((ji17) : Int).toNat).length : Int) := by rw [hT]; omega
  have c22b0 := eq_true c22
  have c22b1 : decide (ji9 ≤ ((l0.take ((ji17) : Int).toNat).length : Int)) = true := decide_eq_true c22
  have c22b1m : (ji9 ≤ max ji17 0) = True := eq_true (by omega)
  have c22b1c : (ji9 ≤ (c0 : Int)) = True := eq_true (by have := HC0.out; omega)
  have LMc23 := Aside0.mk (show y243.length + ((l0.take ((ji17) : Int).toNat).drop ((ji9) : Int).toNat).length < 140737488355328 from by rw [hy243, List.length_drop, hT]; show 0 + _ < _; omega)
  obtain ⟨y247, hy247⟩ : ∃ y_ : List Int, y_ = (y243 ++ ((l0.take ((ji17) : Int).toNat).drop ((ji9) : Int).toNat)) := ⟨_, rfl⟩
  have Ny247 := Aside0.mk hy247
  have hy247l : y247.length ≤ 1000 := by rw [hy247, hy243, List.nil_append, List.length_drop, hT]; omega
  have LMc27 := Aside0.mk (show y247.length + ((l0.take ((ji17) : Int).toNat).take ((ji9) : Int).toNat).length < 140737488355328 from by rw [List.length_take, hT]; omega)
  obtain ⟨y251, hy251⟩ : ∃ y_ : List Int, y_ = (y247 ++ ((l0.take ((ji17) : Int).toNat).take ((ji9) : Int).toNat)) := ⟨_, rfl⟩
  have Ny251 := Aside0.mk hy251
  have HLN := Aside0.mk hln
  have HT0 := Aside0.mk hT
  have HBY := Aside0.mk hby
  have H917 := Aside0.mk c917
  have HJ14 := Aside0.mk c14b
  clear hy231 hy235 hy239 hy243 hy247 hy251 hln hT hby hy235l hy247l c14b c917 c10 c11 c15 c18 c19 c22
  go_enter Try.func8, Try.ntmps8
  go_wp2_with (first | ((with_reducible refine gate_callee (f := 13) rfl ?_); refine goesL_ (some 11) rfl rfl Try.func13 (by kernel_rfl) rfl #[] rfl (by (try simp only [List.map_toArray, List.map_cons, List.map_nil]); first | done | rfl | (simp only [List.length_drop, List.length_take]; rfl)) ?_; (with_reducible refine (roundhouselaw1_known.calls 2000  true _ A4.out).mono ?_); rintro e w44 ⟨rfl, hb⟩; refine ⟨_, rfl, ?_⟩; have n0_ := Aside0.mk (below_step (by repeat (first | (with_reducible first | exact HB.out | apply below_alloc | apply pw_below_drewN | apply below_drew1) | exact HB.out)) hb); clear HB; have HB := n0_; clear n0_; (try clear hb); (try clear hb2); (try clear hk); (try clear hi)) | ((with_reducible refine gate_callee (f := 21) rfl ?_); refine goesL_ (some 21) rfl rfl Try.func21 (by kernel_rfl) rfl #[.int .i64 a1, .int .i64 (wrap64 ((wrap64 ((l0.length : Int) / 2)) + 1))] rfl (by (try simp only [List.map_toArray, List.map_cons, List.map_nil]); first | done | rfl | (simp only [List.length_drop, List.length_take]; rfl)) ?_; (with_reducible refine (roundhouselaw1_within.calls a1 (wrap64 ((wrap64 ((l0.length : Int) / 2)) + 1)) t230 _ A8.out).mono ?_); rintro e w' ⟨rfl, ⟨nd, rfl⟩⟩; refine ⟨_, rfl, ?_⟩) | ((with_reducible refine gate_dst (N := 23) rfl ?_); refine Kd.R_lit (Kd.int .u8) _ 5 ?hg (N := 23) ?hd (xs := ([] : List Int)) (inner := []) (ok := fun _ => True) (okp := fun _ => True) ?hr ?hp (fun _ hk => hk) trivial (Below.refl _ _) (Nat.le_refl _) (by simp) ?_; (case hd => rfl); (case hg => rfl); (case hr => first | (go_simp; done) | (go_simp; rfl)); (case hp => exact (Reps.none _ _)); intro v232 w45 ho46 hb hg_ hnew_; clear hg_ hnew_; (first | rw [← Ny231.out] at ho46 | (simp only [Int.reduceToNat] at ho46; rw [← Ny231.out] at ho46)); have n0_ := Aside0.mk (Kd.R_lower ho46 (below_size (by repeat (first | (with_reducible first | exact HB.out | apply below_alloc | apply pw_below_drewN | apply below_drew1) | exact HB.out)))); have n1_ := Aside0.mk (below_step (by repeat (first | (with_reducible first | exact HB.out | apply below_alloc | apply pw_below_drewN | apply below_drew1) | exact HB.out)) hb); clear HB; have HO233 := n0_; have HB := n1_; clear n0_ n1_; clear hb ho46; obtain ⟨i047, hi047, _, hsz47, _⟩ := info_parts info5; obtain ⟨A47, hcut47, hA47, hC47⟩ := print_drop_of (P := Try.prog) (Value.int .u8) 0 22 5 .i64 Try.underlying22 hi047 hsz47 A0 c0 l0 (ji9) (of_decide_eq_true (by first | (with_reducible assumption) | assumption)) (of_decide_eq_true (by first | (with_reducible assumption) | assumption)) HC0.out; have HR234 := Aside0.mk (Kd.C_of_reads (h1 := fun _ => rfl) (hA47 _ (Kd.reads_of_C HR0.out))); have HC234 := Aside0.mk hC47; clear hA47 hC47 hi047 hsz47) | ((with_reducible refine gate_builtin (b := .append) (xs := #[.tmp 23, .tmp 26]) rfl ?_); at_builtin; refine Kd.R_append_rows (Kd.int .u8) (w0 := w) w.heap.size rfl (.tmp 23) (.tmp 26) 22 5 (.int .u8 0) 1 rfl Try.underlying22 info5 rfl (by decide) (by omega) v232 y231 (l0.drop ((ji9) : Int).toNat) _ _ _ (fun _ => True) (fun _ => False) rfl rfl ?aO ?aR (fun _ _ h => h) (fun _ h => h.elim) ?aF ?aB ?aS ?aL ?_; (case aR => first | (have hC_ := (Kd.C_below HR234.out HB.out); rw [show (l0.drop ((ji9) : Int).toNat).length = (l0.length - (ji9).toNat) from List.length_drop] at hC_; repeat (first | exact hC_ | (with_reducible refine Kd.C_alloc ?_ _) | (with_reducible refine Kd.C_drewN ?_ _) | (with_reducible refine Kd.C_drew ?_))) | (rw [← show (l0.drop ((ji9) : Int).toNat).length = (l0.length - (ji9).toNat) from List.length_drop]; repeat (first | exact (Kd.C_below HR234.out HB.out) | (with_reducible refine Kd.C_alloc ?_ _) | (with_reducible refine Kd.C_drewN ?_ _) | (with_reducible refine Kd.C_drew ?_))) | (repeat (first | exact (Kd.C_below HR234.out HB.out) | (with_reducible refine Kd.C_alloc ?_ _) | (with_reducible refine Kd.C_drewN ?_ _) | (with_reducible refine Kd.C_drew ?_)))); (case aB => exact (by repeat (first | (with_reducible first | exact HB.out | apply below_alloc | apply pw_below_drewN | apply below_drew1) | exact HB.out))); (case aF => exact (fun _ _ => trivial)); (case aO => exact (by (with_reducible repeat (first | apply Kd.R_alloc | apply Kd.R_drewN | apply Kd.R_drew)); exact HO233.out)); (case aS => exact (below_size (by repeat (first | (with_reducible first | exact HB.out | apply below_alloc | apply pw_below_drewN | apply below_drew1) | exact HB.out)))); (case aL => have := LMc12.out; have hlx_ := (show (l0.drop ((ji9) : Int).toNat).length = (l0.length - (ji9).toNat) from List.length_drop); omega); intro v236 w48 ho hb hg hat; rw [← Ny235.out] at ho; have n0_ := Aside0.mk (hb); have n1_ := Aside0.mk (ho); clear HB; clear HO233; have HB := n0_; have HO237 := n1_; clear n0_ n1_; clear ho hb hg hat) | ((with_reducible refine gate_callee (f := 21) rfl ?_); refine goesL_ (some 29) rfl rfl Try.func21 (by kernel_rfl) rfl #[.int .i64 a2, .int .i64 9] rfl (by (try simp only [List.map_toArray, List.map_cons, List.map_nil]); first | done | rfl | (simp only [List.length_drop, List.length_take]; rfl)) ?_; (with_reducible refine (roundhouselaw1_within.calls a2 9 t238 _ A13.out).mono ?_); rintro e w' ⟨rfl, ⟨nd, rfl⟩⟩; refine ⟨_, rfl, ?_⟩) | (at_builtin; refine Kd.R_append_zeros (Kd.int .u8) (w0 := w) w.heap.size rfl (.tmp 27) (.tmp 30) 22 3 5 (.int .u8 0) 1 rfl Try.underlying22 Try.underlying3 info5 rfl (by decide) (by omega) v236 y235 0 (ji14 : Int) (fun _ => True) rfl rfl rfl ?aF ?aO (of_decide_eq_true (by first | (with_reducible assumption) | assumption)) ?aB ?aS ?aL ?_; (case aB => exact (by repeat (first | (with_reducible first | exact HB.out | apply below_alloc | apply pw_below_drewN | apply below_drew1) | exact HB.out))); (case aF => exact (fun _ _ => trivial)); (case aO => exact (by (with_reducible repeat (first | apply Kd.R_alloc | apply Kd.R_drewN | apply Kd.R_drew)); exact HO237.out)); (case aS => exact (below_size (by repeat (first | (with_reducible first | exact HB.out | apply below_alloc | apply pw_below_drewN | apply below_drew1) | exact HB.out)))); (case aL => have := LMc16.out; omega); intro v240 w49 ho hb hg hat; rw [← Ny239.out] at ho; have n0_ := Aside0.mk (hb); have n1_ := Aside0.mk (ho); clear HB; clear HO237; have HB := n0_; have HO241 := n1_; clear n0_ n1_; clear ho hb hg hat; obtain ⟨i050, hi050, _, hsz50, _⟩ := info_parts info5; obtain ⟨hcut50, hA50, hC50⟩ := print_take_of (P := Try.prog) (Value.int .u8) 0 22 5 .i64 Try.underlying22 hi050 hsz50 A0 c0 l0 (ji17) (of_decide_eq_true (by first | (with_reducible assumption) | assumption)) (of_decide_eq_true (by first | (with_reducible assumption) | assumption)) HC0.out; have HR242 := Aside0.mk (Kd.C_of_reads (h1 := fun _ => rfl) (hA50 _ (Kd.reads_of_C HR0.out))); have HC242 := Aside0.mk hC50; clear hA50 hC50 hi050 hsz50))
  have n0_ := Aside0.mk (Kd.R_drew HO241.out)
  have n1_ := Aside0.mk (below_drew1 HB.out)
  clear HO241
  clear HB
  have HO241 := n0_
  have HB := n1_
  clear n0_ n1_
  obtain ⟨i052, hi052, _, hsz52, _⟩ := info_parts info5
  obtain ⟨A52, hcut52, hA52, hC52⟩ := print_drop_of (P := Try.prog) (Value.int .u8) 0 22 5 .i64 Try.underlying22 hi052 hsz52 A0 c0 (l0.take ((ji17) : Int).toNat) (ji9) (of_decide_eq_true (by first | (with_reducible assumption) | assumption)) (of_decide_eq_true (by first | (with_reducible assumption) | assumption)) HC242.out
  have HR246 := Aside0.mk (Kd.C_of_reads (h1 := fun _ => rfl) (hA52 _ (Kd.reads_of_C HR242.out)))
  have HC246 := Aside0.mk hC52
  clear hA52 hC52 hi052 hsz52
  obtain ⟨i053, hi053, _, hsz53, _⟩ := info_parts info5
  obtain ⟨hcut53, hA53, hC53⟩ := print_take_of (P := Try.prog) (Value.int .u8) 0 22 5 .i64 Try.underlying22 hi053 hsz53 A0 c0 (l0.take ((ji17) : Int).toNat) (ji9) (of_decide_eq_true (by first | (with_reducible assumption) | assumption)) (of_decide_eq_true (by first | (with_reducible assumption) | assumption)) HC242.out
  have HR250 := Aside0.mk (Kd.C_of_reads (h1 := fun _ => rfl) (hA53 _ (Kd.reads_of_C HR242.out)))
  have HC250 := Aside0.mk hC53
  clear hA53 hC53 hi053 hsz53
  refine start_ (n := 16) (S := fun w' => True) (ds := []) #[false, false, false, false, false, false, false, false, false, false, false, false, false, false, false, false] (by kernel_rfl) rfl rfl trivial (fun hHeld => ?_); refine with_tabW roundhouselaw1_SumParts.tab8 roundhouselaw1_SumParts.bits8 (fun HT_ HW_ => ?_)
  generalize w49.drew = w51 at HO241 HB HR246 HR250 hHeld ⊢
  refine pure_ (i := 1) (N := some 39) (v := ?_) (a' := ?_) #[false, true, false, false, false, false, false, false, false, false, false, false, false, false, false, false] rfl rfl (any_of HT_.out (by kernel_rfl)) (fun _ _ _ h => h) (Or.inl ⟨by rfl, ?_⟩) ?_ ?_
  rotate_left
  · intro w'
    go_simp
    with_reducible rfl
  rotate_left
  · simp only [Act.put, List.setIfInBounds_toArray, List.set_cons_zero, List.set_cons_succ, i64_w, i32_w]
    rfl
  refine pure_ (i := 2) (N := some 40) (v := ?_) (a' := ?_) #[false, true, true, false, false, false, false, false, false, false, false, false, false, false, false, false] rfl rfl (any_of HT_.out (by kernel_rfl)) (fun _ _ _ h => h) (Or.inl ⟨by rfl, ?_⟩) ?_ ?_
  rotate_left
  · intro w'
    go_simp
    with_reducible rfl
  rotate_left
  · simp only [Act.put, List.setIfInBounds_toArray, List.set_cons_zero, List.set_cons_succ, i64_w, i32_w]
    rfl
  refine pure_ (i := 3) (N := some 41) (v := ?_) (a' := ?_) #[false, true, true, true, false, false, false, false, false, false, false, false, false, false, false, false] rfl rfl (any_of HT_.out (by kernel_rfl)) (fun _ _ _ h => h) (Or.inl ⟨by rfl, ?_⟩) ?_ ?_
  rotate_left
  · intro w'
    go_simp
    with_reducible rfl
  rotate_left
  · simp only [Act.put, List.setIfInBounds_toArray, List.set_cons_zero, List.set_cons_succ, i64_w, i32_w]
    rfl
  refine pure_ (i := 4) (N := some 42) (v := ?_) (a' := ?_) #[false, true, true, true, true, false, false, false, false, false, false, false, false, false, false, false] rfl rfl (any_of HT_.out (by kernel_rfl)) (fun _ _ _ h => h) (Or.inl ⟨by rfl, ?_⟩) ?_ ?_
  rotate_left
  · intro w'
    go_simp
    with_reducible rfl
  rotate_left
  · simp only [Act.put, List.setIfInBounds_toArray, List.set_cons_zero, List.set_cons_succ, i64_w, i32_w]
    rfl
  refine pure_ (i := 5) (N := some 43) (v := ?_) (a' := ?_) #[false, true, true, true, true, true, false, false, false, false, false, false, false, false, false, false] rfl rfl (any_of HT_.out (by kernel_rfl)) (fun _ _ _ h => h) (Or.inl ⟨by rfl, ?_⟩) ?_ ?_
  rotate_left
  · intro w'
    go_simp
    with_reducible rfl
  rotate_left
  · simp only [Act.put, List.setIfInBounds_toArray, List.set_cons_zero, List.set_cons_succ, i64_w, i32_w]
    rfl
  refine pure_ (i := 6) (N := some 44) (v := ?_) (a' := ?_) #[false, true, true, true, true, true, true, false, false, false, false, false, false, false, false, false] rfl rfl (any_of HT_.out (by kernel_rfl)) (fun _ _ _ h => h) (Or.inl ⟨by rfl, ?_⟩) ?_ ?_
  rotate_left
  · intro w'
    go_simp
    with_reducible rfl
  rotate_left
  · simp only [Act.put, List.setIfInBounds_toArray, List.set_cons_zero, List.set_cons_succ, i64_w, i32_w]
    rfl
  refine pure_ (i := 8) (N := some 46) (v := ?_) (a' := ?_) #[false, true, true, true, true, true, true, false, true, false, false, false, false, false, false, false] rfl rfl (any_of HT_.out (by kernel_rfl)) (fun _ _ _ h => h) (Or.inl ⟨by rfl, ?_⟩) ?_ ?_
  rotate_left
  · intro w'
    go_simp
    with_reducible rfl
  rotate_left
  · simp only [Act.put, List.setIfInBounds_toArray, List.set_cons_zero, List.set_cons_succ, i64_w, i32_w]
    rfl
  refine pure_ (i := 9) (N := some 47) (v := ?_) (a' := ?_) #[false, true, true, true, true, true, true, false, true, true, false, false, false, false, false, false] rfl rfl (any_of HT_.out (by kernel_rfl)) (fun _ _ _ h => h) (Or.inl ⟨by rfl, ?_⟩) ?_ ?_
  rotate_left
  · intro w'
    go_simp
    with_reducible rfl
  rotate_left
  · simp only [Act.put, List.setIfInBounds_toArray, List.set_cons_zero, List.set_cons_succ, i64_w, i32_w]
    rfl
  refine pure_ (i := 10) (N := some 48) (v := ?_) (a' := ?_) #[false, true, true, true, true, true, true, false, true, true, true, false, false, false, false, false] rfl rfl (any_of HT_.out (by kernel_rfl)) (fun _ _ _ h => h) (Or.inl ⟨by rfl, ?_⟩) ?_ ?_
  rotate_left
  · intro w'
    go_simp
    with_reducible rfl
  rotate_left
  · simp only [Act.put, List.setIfInBounds_toArray, List.set_cons_zero, List.set_cons_succ, i64_w, i32_w]
    rfl
  refine pure_ (i := 11) (N := some 49) (v := ?_) (a' := ?_) #[false, true, true, true, true, true, true, false, true, true, true, true, false, false, false, false] rfl rfl (any_of HT_.out (by kernel_rfl)) (fun _ _ _ h => h) (Or.inl ⟨by rfl, ?_⟩) ?_ ?_
  rotate_left
  · intro w'
    go_simp
    with_reducible rfl
  rotate_left
  · simp only [Act.put, List.setIfInBounds_toArray, List.set_cons_zero, List.set_cons_succ, i64_w, i32_w]
    rfl
  refine pure_ (i := 12) (N := some 50) (v := ?_) (a' := ?_) #[false, true, true, true, true, true, true, false, true, true, true, true, true, false, false, false] rfl rfl (any_of HT_.out (by kernel_rfl)) (fun _ _ _ h => h) (Or.inl ⟨by rfl, ?_⟩) ?_ ?_
  rotate_left
  · intro w'
    go_simp
    with_reducible rfl
  rotate_left
  · simp only [Act.put, List.setIfInBounds_toArray, List.set_cons_zero, List.set_cons_succ, i64_w, i32_w]
    rfl
  refine pure_ (i := 13) (N := some 51) (v := ?_) (a' := ?_) #[false, true, true, true, true, true, true, false, true, true, true, true, true, true, false, false] rfl rfl (any_of HT_.out (by kernel_rfl)) (fun _ _ _ h => h) (Or.inl ⟨by rfl, ?_⟩) ?_ ?_
  rotate_left
  · intro w'
    go_simp
    with_reducible rfl
  rotate_left
  · simp only [Act.put, List.setIfInBounds_toArray, List.set_cons_zero, List.set_cons_succ, i64_w, i32_w]
    rfl
  refine one_ (i := 0) (N := some 38) #[true, true, true, true, true, true, true, false, true, true, true, true, true, true, false, false] rfl rfl (one_of HT_.out (by kernel_rfl)) (by decide) (fun K hK => ?_)
  refine Kd.R_lit_step (Kd.int .u8) _ 5 ?hg (N := 38) ?hd (xs := ([] : List Int)) (inner := []) (ok := fun _ => True) (okp := fun _ => True) ?hr ?hp (fun _ hk => hk) trivial (Below.refl _ _) (Nat.le_refl _) (by simp) ?_; (case hd => rfl); (case hg => rfl); (case hr => first | (go_simp; done) | (go_simp; rfl)); (case hp => exact (Reps.none _ _))
  intro v244 w54 ho55 hb hg_ hnew_
  clear hg_ hnew_
  (first | rw [← Ny243.out] at ho55 | (simp only [Int.reduceToNat] at ho55; rw [← Ny243.out] at ho55))
  have n0_ := Aside0.mk (Kd.R_elder' (by (with_reducible repeat (first | apply Kd.R_alloc | apply Kd.R_drewN | apply Kd.R_drew)); exact HO241.out) (Kd.R_base ho55) hb)
  have n1_ := Aside0.mk (Kd.R_lower (Kd.R_new' ho55 (Kd.R_lt (by (with_reducible repeat (first | apply Kd.R_alloc | apply Kd.R_drewN | apply Kd.R_drew)); exact HO241.out))) (below_size (by repeat (first | (with_reducible first | exact HB.out | apply below_alloc | apply pw_below_drewN | apply below_drew1) | exact HB.out))))
  have n2_ := Aside0.mk (below_step (by repeat (first | (with_reducible first | exact HB.out | apply below_alloc | apply pw_below_drewN | apply below_drew1) | exact HB.out)) hb)
  clear HO241
  clear HB
  have HO241 := n0_
  have HO245 := n1_
  have HB := n2_
  clear n0_ n1_ n2_
  clear hb ho55
  refine hK.out _ _ trivial (fun hHeld => ?_)
  clear hK K
  refine norm_ (a' := ?_) ?_ ?_
  rotate_left
  · show Act.put _ (some 38) _ = _
    simp only [Act.put, List.setIfInBounds_toArray, List.set_cons_zero, List.set_cons_succ, i64_w, i32_w]
    rfl
  refine one_ (i := 7) (N := some 45) #[true, true, true, true, true, true, true, true, true, true, true, true, true, true, false, false] rfl rfl (one_of HT_.out (by kernel_rfl)) (by decide) (fun K hK => ?_)
  refine Kd.R_append_rows_step (Kd.int .u8) (w0 := w) w.heap.size (by rfl) (.tmp 38) (.tmp 44) 22 5 (.int .u8 0) 1 rfl Try.underlying22 info5 rfl (by decide) (by omega) v244 y243 ((l0.take ((ji17) : Int).toNat).drop ((ji9) : Int).toNat) _ _ _ (fun k_ => some k_ ≠ (v240 : Value).ownBlock) (fun _ => False) rfl rfl ?aO ?aR (fun _ _ h => h) (fun _ h => h.elim) ?aF ?aB ?aS ?aL ?_
  (case aR => exact (by have hC_ := Kd.C_below (cut_at (j := ji9) HR242.out (by rw [HT0.out]; have := H917.out; have := of_eq_true c18b0; omega) HC242.out) HB.out; rw [HT0.out] at hC_; repeat (first | exact hC_ | (with_reducible refine Kd.C_alloc ?_ _) | (with_reducible refine Kd.C_drewN ?_ _) | (with_reducible refine Kd.C_drew ?_))))
  (case aB => exact (by repeat (first | (with_reducible first | exact HB.out | apply below_alloc | apply pw_below_drewN | apply below_drew1) | exact HB.out)))
  (case aF => exact (fun k_ hk => Kd.fresh' (Kd.R_lt (by (with_reducible repeat (first | apply Kd.R_alloc | apply Kd.R_drewN | apply Kd.R_drew)); exact HO241.out)) k_ hk))
  (case aO => exact (by (with_reducible repeat (first | apply Kd.R_alloc | apply Kd.R_drewN | apply Kd.R_drew)); exact Kd.R_mono HO245.out (fun _ hk => hk.2)))
  (case aS => exact (below_size (by repeat (first | (with_reducible first | exact HB.out | apply below_alloc | apply pw_below_drewN | apply below_drew1) | exact HB.out))))
  (case aL => have h3_ := HT0.out; have h4_ := H917.out; have h5_ := of_eq_true c10b0; have h6_ := of_eq_true c18b0; have h7_ := hji20_m; have := LMc23.out; have hlx_ := (show ((l0.take ((ji17) : Int).toNat).drop ((ji9) : Int).toNat).length = ((l0.take ((ji17) : Int).toNat).length - (ji9).toNat) from List.length_drop); omega)
  intro v248 w56 ho hb hg hat
  rw [← Ny247.out] at ho
  have n0_ := Aside0.mk (Kd.R_after (ok := (fun _ => True)) (by (with_reducible repeat (first | apply Kd.R_alloc | apply Kd.R_drewN | apply Kd.R_drew)); exact HO241.out) hg hat)
  have n1_ := Aside0.mk (hb)
  have n2_ := Aside0.mk (ho)
  clear HO241
  clear HB
  clear HO245
  have HO241 := n0_
  have HB := n1_
  have HO249 := n2_
  clear n0_ n1_ n2_
  clear ho hb hg hat
  refine hK.out _ _ trivial (fun hHeld => ?_)
  clear hK K
  refine norm_ (a' := ?_) ?_ ?_
  rotate_left
  · show Act.put _ (some 45) _ = _
    simp only [Act.put, List.setIfInBounds_toArray, List.set_cons_zero, List.set_cons_succ, i64_w, i32_w]
    rfl
  refine one_ (i := 14) (N := some 52) #[true, true, true, true, true, true, true, true, true, true, true, true, true, true, true, false] rfl rfl (one_of HT_.out (by kernel_rfl)) (by decide) (fun K hK => ?_)
  refine Kd.R_append_rows_step (Kd.int .u8) (w0 := w) w.heap.size (by rfl) (.tmp 45) (.tmp 51) 22 5 (.int .u8 0) 1 rfl Try.underlying22 info5 rfl (by decide) (by omega) v248 y247 ((l0.take ((ji17) : Int).toNat).take ((ji9) : Int).toNat) _ _ _ (fun k_ => some k_ ≠ (v240 : Value).ownBlock) (fun _ => False) rfl rfl ?aO ?aR (fun _ _ h => h) (fun _ h => h.elim) ?aF ?aB ?aS ?aL ?_
  (case aR => first | (have hC_ := (Kd.C_below HR250.out HB.out); rw [show ((l0.take ((ji17) : Int).toNat).take ((ji9) : Int).toNat).length = (ji9).toNat from (by rw [List.length_take]; have h_ : ((ji9) : Int) ≤ ((l0.take ((ji17) : Int).toNat).length : Int) := of_decide_eq_true (by first | (with_reducible assumption) | assumption); omega)] at hC_; repeat (first | exact hC_ | (with_reducible refine Kd.C_alloc ?_ _) | (with_reducible refine Kd.C_drewN ?_ _) | (with_reducible refine Kd.C_drew ?_))) | (rw [← show ((l0.take ((ji17) : Int).toNat).take ((ji9) : Int).toNat).length = (ji9).toNat from (by rw [List.length_take]; have h_ : ((ji9) : Int) ≤ ((l0.take ((ji17) : Int).toNat).length : Int) := of_decide_eq_true (by first | (with_reducible assumption) | assumption); omega)]; repeat (first | exact (Kd.C_below HR250.out HB.out) | (with_reducible refine Kd.C_alloc ?_ _) | (with_reducible refine Kd.C_drewN ?_ _) | (with_reducible refine Kd.C_drew ?_))) | (repeat (first | exact (Kd.C_below HR250.out HB.out) | (with_reducible refine Kd.C_alloc ?_ _) | (with_reducible refine Kd.C_drewN ?_ _) | (with_reducible refine Kd.C_drew ?_))))
  (case aB => exact (by repeat (first | (with_reducible first | exact HB.out | apply below_alloc | apply pw_below_drewN | apply below_drew1) | exact HB.out)))
  (case aF => exact (fun k_ hk => Kd.fresh' (Kd.R_lt (by (with_reducible repeat (first | apply Kd.R_alloc | apply Kd.R_drewN | apply Kd.R_drew)); exact HO241.out)) k_ hk))
  (case aO => exact (by (with_reducible repeat (first | apply Kd.R_alloc | apply Kd.R_drewN | apply Kd.R_drew)); exact HO249.out))
  (case aS => exact (below_size (by repeat (first | (with_reducible first | exact HB.out | apply below_alloc | apply pw_below_drewN | apply below_drew1) | exact HB.out))))
  (case aL => have := LMc27.out; have hlx_ := (show ((l0.take ((ji17) : Int).toNat).take ((ji9) : Int).toNat).length = (ji9).toNat from (by rw [List.length_take]; have h_ : ((ji9) : Int) ≤ ((l0.take ((ji17) : Int).toNat).length : Int) := of_decide_eq_true (by first | (with_reducible assumption) | assumption); omega)); omega)
  intro v252 w57 ho hb hg hat
  rw [← Ny251.out] at ho
  have n0_ := Aside0.mk (Kd.R_after (ok := (fun _ => True)) (by (with_reducible repeat (first | apply Kd.R_alloc | apply Kd.R_drewN | apply Kd.R_drew)); exact HO241.out) hg hat)
  have n1_ := Aside0.mk (hb)
  have n2_ := Aside0.mk (ho)
  clear HO241
  clear HB
  clear HO249
  have HO241 := n0_
  have HB := n1_
  have HO253 := n2_
  clear n0_ n1_ n2_
  clear ho hb hg hat
  refine hK.out _ _ trivial (fun hHeld => ?_)
  clear hK K
  refine norm_ (a' := ?_) ?_ ?_
  rotate_left
  · show Act.put _ (some 52) _ = _
    simp only [Act.put, List.setIfInBounds_toArray, List.set_cons_zero, List.set_cons_succ, i64_w, i32_w]
    rfl
  refine pure_ (i := 15) (N := some 10) (v := ?_) (a' := ?_) #[true, true, true, true, true, true, true, true, true, true, true, true, true, true, true, true] rfl rfl (any_of HT_.out (by kernel_rfl)) (fun _ _ _ h => h) (Or.inl ⟨by rfl, ?_⟩) ?_ ?_
  rotate_left
  · intro w'
    go_simp
    with_reducible rfl
  rotate_left
  · simp only [Act.put, List.setIfInBounds_toArray, List.set_cons_zero, List.set_cons_succ, i64_w, i32_w]
    rfl
  refine done_ (done_of HT_.out (by kernel_rfl)) ?_
  try go_wp2
  all_goals
    have hv := HV.out
    have h917 := H917.out
    have p18 := of_eq_true c18b0
    have p10 := of_eq_true c10b0
    have p11 := of_eq_true c11b0
    have p15 := of_eq_true c15b0
    have p19 := of_eq_true c19b0
    have p14 := HJ14.out
    obtain ⟨X, Y, p, T, q1, q2, q3, q4, q5, q6, q7⟩ := parts_pure (k := ji9.toNat) (j := ji14.toNat) (E := ji17.toNat) HBY.out HLN.out (by omega) (by omega) (by omega) (by omega) (by omega) (by omega)
    rw [← List.nil_append (l0.drop ji9.toNat), ← Ny231.out, ← Ny235.out, ← Ny239.out] at q1
    rw [← List.nil_append ((l0.take ji17.toNat).drop ji9.toNat), ← Ny243.out, ← Ny247.out, ← Ny251.out] at q3
    obtain ⟨Ao60, co60, eo60⟩ := Kd.R_slice HO241.out
    subst eo60
    obtain ⟨Ao61, co61, eo61⟩ := Kd.R_slice HO253.out
    subst eo61
    have hce := HC242.out
    rw [HT0.out] at hce
    have hte := HR242.out
    rw [HT0.out] at hte
    have htk := HR250.out
    have e5 : (l0.take ji17.toNat).take ji9.toNat = l0.take ji9.toNat := by rw [List.take_take, show min ji9.toNat ji17.toNat = ji9.toNat by omega]
    have l5 : (l0.take ji9.toNat).length = ji9.toNat := by rw [List.length_take]; omega
    rw [e5, l5] at htk
    have hck : ji9.toNat ≤ c0 := by have := HC0.out; omega
    have l1 : (l0.drop ji9.toNat).length = l0.length - ji9.toNat := List.length_drop
    have hbk := cut_at (j := ji9) HR0.out p11 HC0.out
    have h234 := HR234.out
    rw [l1] at h234
    first | (rw [if_pos h] at hbk; subst h) | (rw [if_neg h] at hbk; clear h)
    clear hbk
    have B1 : Aside0 ((Kd.int .u8).C w57 A47 (l0.length - ji9.toNat) (l0.drop ji9.toNat)) := Aside0.mk (Kd.C_below h234 HB.out)
    have B2 : Aside0 ((Kd.int .u8).C w57 A0 ji17.toNat (l0.take ji17.toNat)) := Aside0.mk (Kd.C_below hte HB.out)
    have B3 : Aside0 ((Kd.int .u8).C w57 A0 ji9.toNat (l0.take ji9.toNat)) := Aside0.mk (Kd.C_below htk HB.out)
    have B4 := Aside0.mk (Kd.C_below HR0.out HB.out)
    have B5 := Aside0.mk (Kd.R_reads' HO241.out)
    have B6 := Aside0.mk (Kd.R_reads' HO253.out)
    have l2 := HT0.out
    have Q := Aside0.mk (And.intro q1 (And.intro q2 (And.intro q3 (And.intro q4 (And.intro q5 (And.intro q6 q7))))))
    have HCE := Aside0.mk (And.intro hce hck)
    have HL := Aside0.mk (And.intro l1 (And.intro l2 l5))
    have hsub := Nat.sub_le_sub_right HC0.out ji9.toNat
    have HSUB := Aside0.mk hsub
    clear q1 q2 q3 q4 q5 q6 q7 h234 hte htk hce hck l1 l2 l5 e5 hv h917 p18 p15 p19 p14 hsub
    go_quiet (first
      | (go_at_call 14; with_reducible exact add_q _ B5.out.2.2 rfl B5.out.2.1 Q.out.1)
      | (go_at_call 14; with_reducible exact add_q _ B1.out HL.out.1 HSUB.out Q.out.2.1)
      | (go_at_call 14; with_reducible exact add_q _ B1.out HL.out.1 (by have := HSUB.out; omega) Q.out.2.1)
      | (go_at_call 14; with_reducible exact add_q _ B6.out.2.2 rfl B6.out.2.1 Q.out.2.2.1)
      | (go_at_call 14; with_reducible exact add_q _ B2.out HL.out.2.1 HCE.out.1 Q.out.2.2.2.1)
      | (go_at_call 14; with_reducible exact add_q _ B3.out HL.out.2.2 HCE.out.2 Q.out.2.2.2.2.1)
      | (go_at_call 14; with_reducible exact add_q _ B4.out rfl HC0.out Q.out.2.2.2.2.2.1)
      | (go_at_call 20; with_reducible exact plus_q _ Q.out.2.2.2.2.2.2))
    go_wp2
    go_ret
    exact ⟨rfl, bd_ HB.out nq⟩
theorem long_calls (A0 : Option Addr) (c0 : Nat) (l0 : List Int) (a1 : Int) (a2 : Int) (w : World) (hln : ¬ l0.length ≤ 1000) :
    Calls Try.prog 8 #[.slice A0 l0.length c0, .int .i64 a1, .int .i64 a2] w fun e w' => e = .returned (.bool true) ∧ Below w.heap.size w w' := by
  have HB := Aside0.mk (Below.refl w.heap.size w)
  have A4 := Aside0.mk (known_f (k := 2000) (by omega))
  have c6b0 : decide (1000 < (l0.length : Int)) = true := decide_eq_true (by omega)
  have c6b1 : decide (1000 < l0.length) = true := decide_eq_true (by omega)
  clear hln
  go_enter Try.func8, Try.ntmps8
  go_wp2_with (first | ((with_reducible refine gate_callee (f := 13) rfl ?_); refine goesL_ (some 11) rfl rfl Try.func13 (by kernel_rfl) rfl #[] rfl (by (try simp only [List.map_toArray, List.map_cons, List.map_nil]); first | done | rfl | (simp only [List.length_drop, List.length_take]; rfl)) ?_; (with_reducible refine (roundhouselaw1_known.calls 2000  true _ A4.out).mono ?_); rintro e w7 ⟨rfl, hb⟩; refine ⟨_, rfl, ?_⟩; have n0_ := Aside0.mk (below_step (by repeat (first | (with_reducible first | exact HB.out | apply below_alloc | apply pw_below_drewN | apply below_drew1) | exact HB.out)) hb); clear HB; have HB := n0_; clear n0_; (try clear hb); (try clear hb2); (try clear hk); (try clear hi)))
  go_ret
  exact ⟨by first | rfl | (simp [errW_none, errW_some] <;> rfl) | (simp [*, errW_none, errW_some] <;> rfl), by repeat (first | (with_reducible first | exact HB.out | apply below_alloc | apply pw_below_drewN | apply below_drew1) | exact HB.out)⟩
theorem SumParts_walk (a0 : Option Addr) (len0 cap0 : Nat) (z0 : List Int) (a1 : Int) (a2 : Int) (w : World) (w0 : (a0 = none ∧ len0 = 0 ∧ cap0 = 0 ∧ z0 = []) ∨ ∃ x, a0 = some x ∧ len0 ≤ cap0 ∧ cap0 ≤ maxLen ∧ z0.length = cap0 ∧ (∀ i, i < z0.length → w.cell? (x.add i) = some (.int .u8 (z0.getD i 0))) ∧ ∀ n ∈ z0, (Lit.int .u8 n).wf = true) (y0 : len0 * 1 ≤ 140737488351232) (w1 : (Lit.int .i64 a1).wf = true) (w2 : (Lit.int .i64 a2).wf = true) :
    Calls Try.prog 8 #[.slice a0 len0 cap0, .int .i64 a1, .int .i64 a2] w fun e w' => e = .returned (.bool true) ∧ Below w.heap.size w w' := by
  obtain ⟨l0, rfl, hr0, hm0, hw0, hc0⟩ := ReadsInt.ofRowC w0
  by_cases h : l0.length ≤ 1000
  · exact parts_calls _ _ l0 a1 a2 w (Kd.C_of_reads (d := (0 : Int)) (h1 := fun _ => rfl) hr0) hc0 (bytes_of_wf hw0) h
  · exact long_calls _ _ l0 a1 a2 w h
end Go.Proofs.Ytofgnnmlhnpcoaa.PL
