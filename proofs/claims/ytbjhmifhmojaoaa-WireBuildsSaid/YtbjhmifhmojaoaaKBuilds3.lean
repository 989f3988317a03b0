/- Lemmas and contracts that the row YtbjhmifhmojaoaaLawWireBuilds goes by (part 3; joined by pack.py out of this session's texts, and of words that the kit's print lays). -/
import Derived.Test.YtbjhmifhmojaoaaKBuilds2
import Derived.Test.YtbjhmifhmojaoaaProg
import Derived.ScopeJumps
import Derived.WalkMore
namespace Go.Proofs.Ytbjhmifhmojaoaa.Hp
open Go.RowKit Go.Proofs.YtbjhmifhmojaoaaW.PrintWords Go.Proofs.YtbjhmifhmojaoaaW.PrintLast Go.Proofs.YtbjhmifhmojaoaaW.PrintMore
set_option linter.unusedVariables false
set_option linter.unusedSimpArgs false
def errW : Option Int → Value
  | none => .nilIface
  | some c => .iface 0 (.int .i64 c)
theorem errW_none : errW none = .nilIface := rfl
theorem errW_some (c : Int) : errW (some c) = .iface 0 (.int .i64 c) := rfl

theorem info5 : (Try.prog.info? 5).map (fun i => (i.zero, i.size, i.bytes)) = some (some (.int .u8 0), 1, 1) := by kernel_rfl

end Go.Proofs.Ytbjhmifhmojaoaa.Hp

namespace Go.Proofs.Ytbjhmifhmojaoaa.Hp
open Go.RowKit Go.Proofs.YtbjhmifhmojaoaaW.PrintWords Go.Proofs.YtbjhmifhmojaoaaW.PrintLast Go.Proofs.YtbjhmifhmojaoaaW.PrintMore
set_option linter.unusedVariables false
set_option linter.unusedSimpArgs false
def wire_known.f (a0 : Int) : Option (Bool) := if a0 ≥ 1 then (some (decide (a0 ≤ 3))) else (some false)
set_option maxHeartbeats 8000000 in
set_option maxRecDepth 100000 in
theorem wire_known.calls (a0 : Int) (r : Bool) (w : World) (h : wire_known.f a0 = some r) :
    Calls Try.prog 34 #[.int .i64 a0] w fun e w' => e = .returned (.bool r) ∧ Drawn0 w w' := by
  have H : (if a0 ≥ 1 then (some (decide (a0 ≤ 3))) else (some false)) = some r := h
  clear h
  by_cases c2 : a0 ≥ 1
  · rw [if_pos c2] at H
    have c2b0 : decide (1 ≤ a0) = true := decide_eq_true c2
    clear c2
    obtain rfl := Option.some.inj H
    go_enter Try.func34, Try.ntmps34
    go_wp2
    go_ret
    exact ⟨by first | rfl | (simp; done) | (simp [*]; done), by repeat (first | exact Drawn0.refl _ | apply Drawn0.step)⟩
  · rw [if_neg c2] at H
    have c2b0 : decide (1 ≤ a0) = false := decide_eq_false c2
    clear c2
    obtain rfl := Option.some.inj H
    go_enter Try.func34, Try.ntmps34
    go_wp2
    go_ret
    exact ⟨by first | rfl | (simp; done) | (simp [*]; done), by repeat (first | exact Drawn0.refl _ | apply Drawn0.step)⟩

def wire_within.f (a0 : Int) (a1 : Int) : Option (Bool) := if a0 ≥ 0 then (some (decide (a0 ≤ a1))) else (some false)
set_option maxHeartbeats 8000000 in
set_option maxRecDepth 100000 in
theorem wire_within.calls (a0 : Int) (a1 : Int) (r : Bool) (w : World) (h : wire_within.f a0 a1 = some r) :
    Calls Try.prog 56 #[.int .i64 a0, .int .i64 a1] w fun e w' => e = .returned (.bool r) ∧ Drawn0 w w' := by
  have H : (if a0 ≥ 0 then (some (decide (a0 ≤ a1))) else (some false)) = some r := h
  clear h
  by_cases c3 : a0 ≥ 0
  · rw [if_pos c3] at H
    have c3b0 : decide (0 ≤ a0) = true := decide_eq_true c3
    clear c3
    obtain rfl := Option.some.inj H
    go_enter Try.func56, Try.ntmps56
    go_wp2
    go_ret
    exact ⟨by first | rfl | (simp; done) | (simp [*]; done), by repeat (first | exact Drawn0.refl _ | apply Drawn0.step)⟩
  · rw [if_neg c3] at H
    have c3b0 : decide (0 ≤ a0) = false := decide_eq_false c3
    clear c3
    obtain rfl := Option.some.inj H
    go_enter Try.func56, Try.ntmps56
    go_wp2
    go_ret
    exact ⟨by first | rfl | (simp; done) | (simp [*]; done), by repeat (first | exact Drawn0.refl _ | apply Drawn0.step)⟩

end Go.Proofs.Ytbjhmifhmojaoaa.Hp

namespace Go.Proofs.Ytbjhmifhmojaoaa.Hp
open Go.RowKit Go.Proofs.YtbjhmifhmojaoaaW.PrintWords Go.Proofs.YtbjhmifhmojaoaaW.PrintLast Go.Proofs.YtbjhmifhmojaoaaW.PrintMore
set_option linter.unusedVariables false
set_option linter.unusedSimpArgs false
mutual
def wire_ranges.j0 : Nat → Bool → Int → Int → Int → Int → Int → Int → Int → Int → Int → Bool → Int → List Int → List Int → Option (Bool)
  | 0, _, _, _, _, _, _, _, _, _, _, _, _, _, _ => none
  | k + 1, x3, x102000, x102001, x102002, x102003, x102004, x102005, x102006, x102007, x102008, x102009, x102010, x102011, x102012 => if x102000 = 3 then (if x3 = true then ((wire_within.f x102010 255).bind fun t106 => (some t106)) else (some false)) else (if x3 = true then ((wire_within.f x102005 65535).bind fun t107 => (if t107 = true then ((wire_within.f x102006 65535).bind fun t108 => (wire_ranges.j1 k t108 x102000 x102001 x102002 x102003 x102004 x102005 x102006 x102007 x102008 x102009 x102010 x102011 x102012)) else (wire_ranges.j1 k false x102000 x102001 x102002 x102003 x102004 x102005 x102006 x102007 x102008 x102009 x102010 x102011 x102012))) else (wire_ranges.j1 k false x102000 x102001 x102002 x102003 x102004 x102005 x102006 x102007 x102008 x102009 x102010 x102011 x102012))
def wire_ranges.j1 : Nat → Bool → Int → Int → Int → Int → Int → Int → Int → Int → Int → Bool → Int → List Int → List Int → Option (Bool)
  | 0, _, _, _, _, _, _, _, _, _, _, _, _, _, _ => none
  | k + 1, x3, x102000, x102001, x102002, x102003, x102004, x102005, x102006, x102007, x102008, x102009, x102010, x102011, x102012 => if x102000 = 2 then (if x3 = true then ((wire_within.f x102008 65535).bind fun t109 => (some t109)) else (some false)) else (if x3 = true then ((wire_within.f x102007 15).bind fun t110 => (some t110)) else (some false))
end
def wire_ranges.f (k : Nat) (a0_0 : Int) (a0_1 : Int) (a0_2 : Int) (a0_3 : Int) (a0_4 : Int) (a0_5 : Int) (a0_6 : Int) (a0_7 : Int) (a0_8 : Int) (a0_9 : Bool) (a0_10 : Int) (l0_11 : List Int) (l0_12 : List Int) : Option (Bool) := (wire_within.f a0_1 255).bind fun t102 => (if t102 = true then ((wire_within.f a0_2 255).bind fun t103 => (if t103 = true then ((wire_within.f a0_3 4294967295).bind fun t104 => (if t104 = true then ((wire_within.f a0_4 4294967295).bind fun t105 => (wire_ranges.j0 k t105 a0_0 a0_1 a0_2 a0_3 a0_4 a0_5 a0_6 a0_7 a0_8 a0_9 a0_10 l0_11 l0_12)) else (wire_ranges.j0 k false a0_0 a0_1 a0_2 a0_3 a0_4 a0_5 a0_6 a0_7 a0_8 a0_9 a0_10 l0_11 l0_12))) else (wire_ranges.j0 k false a0_0 a0_1 a0_2 a0_3 a0_4 a0_5 a0_6 a0_7 a0_8 a0_9 a0_10 l0_11 l0_12))) else (wire_ranges.j0 k false a0_0 a0_1 a0_2 a0_3 a0_4 a0_5 a0_6 a0_7 a0_8 a0_9 a0_10 l0_11 l0_12))
theorem wire_ranges.mono_l : ∀ k, (∀ y0 y1 y2 y3 y4 y5 y6 y7 y8 y9 y10 y11 y12 y13, LeO (wire_ranges.j0 k y0 y1 y2 y3 y4 y5 y6 y7 y8 y9 y10 y11 y12 y13) (wire_ranges.j0 (k + 1) y0 y1 y2 y3 y4 y5 y6 y7 y8 y9 y10 y11 y12 y13)) ∧ (∀ y0 y1 y2 y3 y4 y5 y6 y7 y8 y9 y10 y11 y12 y13, LeO (wire_ranges.j1 k y0 y1 y2 y3 y4 y5 y6 y7 y8 y9 y10 y11 y12 y13) (wire_ranges.j1 (k + 1) y0 y1 y2 y3 y4 y5 y6 y7 y8 y9 y10 y11 y12 y13))
  | 0 => ⟨fun _ _ _ _ _ _ _ _ _ _ _ _ _ _ r h => by simp [wire_ranges.j0] at h, fun _ _ _ _ _ _ _ _ _ _ _ _ _ _ r h => by simp [wire_ranges.j1] at h⟩
  | k + 1 => by
    obtain ⟨ih0, ih1⟩ := wire_ranges.mono_l k
    refine ⟨?_, ?_⟩
    · intro y0 y1 y2 y3 y4 y5 y6 y7 y8 y9 y10 y11 y12 y13
      unfold wire_ranges.j0
      repeat' first
      | (with_reducible exact ih0 _ _ _ _ _ _ _ _ _ _ _ _ _ _)
      | (with_reducible exact ih1 _ _ _ _ _ _ _ _ _ _ _ _ _ _)
      | (with_reducible exact LeO.refl _)
      | (with_reducible exact LeO.none _)
      | (with_reducible refine LeO.ite ?_ ?_)
      | (with_reducible refine LeO.bind ?_ (fun _ => ?_))
      | exact ih0 _ _ _ _ _ _ _ _ _ _ _ _ _ _
      | exact ih1 _ _ _ _ _ _ _ _ _ _ _ _ _ _
      | exact LeO.none _
      | refine LeO.ite ?_ ?_
      | refine LeO.bind ?_ (fun _ => ?_)
    · intro y0 y1 y2 y3 y4 y5 y6 y7 y8 y9 y10 y11 y12 y13
      unfold wire_ranges.j1
      repeat' first
      | (with_reducible exact ih0 _ _ _ _ _ _ _ _ _ _ _ _ _ _)
      | (with_reducible exact ih1 _ _ _ _ _ _ _ _ _ _ _ _ _ _)
      | (with_reducible exact LeO.refl _)
      | (with_reducible exact LeO.none _)
      | (with_reducible refine LeO.ite ?_ ?_)
      | (with_reducible refine LeO.bind ?_ (fun _ => ?_))
      | exact ih0 _ _ _ _ _ _ _ _ _ _ _ _ _ _
      | exact ih1 _ _ _ _ _ _ _ _ _ _ _ _ _ _
      | exact LeO.none _
      | refine LeO.ite ?_ ?_
      | refine LeO.bind ?_ (fun _ => ?_)
theorem wire_ranges.mono : ∀ a0 a1 a2 a3 a4 a5 a6 a7 a8 a9 a10 a11 a12 k, LeO (wire_ranges.f k a0 a1 a2 a3 a4 a5 a6 a7 a8 a9 a10 a11 a12) (wire_ranges.f (k + 1) a0 a1 a2 a3 a4 a5 a6 a7 a8 a9 a10 a11 a12) := by
  intro a0 a1 a2 a3 a4 a5 a6 a7 a8 a9 a10 a11 a12 k
  obtain ⟨ih0, ih1⟩ := wire_ranges.mono_l k
  unfold wire_ranges.f
  repeat' first
      | (with_reducible exact ih0 _ _ _ _ _ _ _ _ _ _ _ _ _ _)
      | (with_reducible exact ih1 _ _ _ _ _ _ _ _ _ _ _ _ _ _)
      | (with_reducible exact LeO.refl _)
      | (with_reducible exact LeO.none _)
      | (with_reducible refine LeO.ite ?_ ?_)
      | (with_reducible refine LeO.bind ?_ (fun _ => ?_))
      | exact ih0 _ _ _ _ _ _ _ _ _ _ _ _ _ _
      | exact ih1 _ _ _ _ _ _ _ _ _ _ _ _ _ _
      | exact LeO.none _
      | refine LeO.ite ?_ ?_
      | refine LeO.bind ?_ (fun _ => ?_)
set_option maxHeartbeats 8000000 in
set_option maxRecDepth 100000 in
theorem wire_ranges.calls (k : Nat) (a0_0 : Int) (a0_1 : Int) (a0_2 : Int) (a0_3 : Int) (a0_4 : Int) (a0_5 : Int) (a0_6 : Int) (a0_7 : Int) (a0_8 : Int) (a0_9 : Bool) (a0_10 : Int) (A0_11 : Option Addr) (c0_11 : Nat) (l0_11 : List Int) (A0_12 : Option Addr) (c0_12 : Nat) (l0_12 : List Int) (r : Bool) (w : World) (hr0_11 : Kd.C (Kd.int .u8) w A0_11 l0_11.length l0_11) (hc0_11 : l0_11.length ≤ c0_11) (hr0_12 : Kd.C (Kd.int .u8) w A0_12 l0_12.length l0_12) (hc0_12 : l0_12.length ≤ c0_12) (h : wire_ranges.f k a0_0 a0_1 a0_2 a0_3 a0_4 a0_5 a0_6 a0_7 a0_8 a0_9 a0_10 l0_11 l0_12 = some r) :
    Calls Try.prog 35 #[.agg #[.int .i64 a0_0, .int .i64 a0_1, .int .i64 a0_2, .int .i64 a0_3, .int .i64 a0_4, .int .i64 a0_5, .int .i64 a0_6, .int .i64 a0_7, .int .i64 a0_8, .bool a0_9, .int .i64 a0_10, .slice A0_11 l0_11.length c0_11, .slice A0_12 l0_12.length c0_12]] w fun e w' => e = .returned (.bool r) ∧ Below w.heap.size w w' := by
  have hu26 := Try.underlying26
  have HR0_11 := Aside0.mk hr0_11
  have HC0_11 := Aside0.mk hc0_11
  clear hr0_11 hc0_11
  have HR0_12 := Aside0.mk hr0_12
  have HC0_12 := Aside0.mk hc0_12
  clear hr0_12 hc0_12
  have HB := Aside0.mk (Below.refl w.heap.size w)
  have H : ((wire_within.f a0_1 255).bind fun t102 => (if t102 = true then ((wire_within.f a0_2 255).bind fun t103 => (if t103 = true then ((wire_within.f a0_3 4294967295).bind fun t104 => (if t104 = true then ((wire_within.f a0_4 4294967295).bind fun t105 => (wire_ranges.j0 k t105 a0_0 a0_1 a0_2 a0_3 a0_4 a0_5 a0_6 a0_7 a0_8 a0_9 a0_10 l0_11 l0_12)) else (wire_ranges.j0 k false a0_0 a0_1 a0_2 a0_3 a0_4 a0_5 a0_6 a0_7 a0_8 a0_9 a0_10 l0_11 l0_12))) else (wire_ranges.j0 k false a0_0 a0_1 a0_2 a0_3 a0_4 a0_5 a0_6 a0_7 a0_8 a0_9 a0_10 l0_11 l0_12))) else (wire_ranges.j0 k false a0_0 a0_1 a0_2 a0_3 a0_4 a0_5 a0_6 a0_7 a0_8 a0_9 a0_10 l0_11 l0_12))) = some r := h
  clear h
  have HC2 := Aside0.mk H
  clear H
  go_enter Try.func35, Try.ntmps35
  go_upto_region 1 with (first | ((with_reducible refine gate_dst (N := 1) rfl ?_); refine box_event ?hg (N := 1) ?hd (cs := #[.int .i64 a0_0, .int .i64 a0_1, .int .i64 a0_2, .int .i64 a0_3, .int .i64 a0_4, .int .i64 a0_5, .int .i64 a0_6, .int .i64 a0_7, .int .i64 a0_8, .bool a0_9, .int .i64 a0_10, .slice A0_11 l0_11.length c0_11, .slice A0_12 l0_12.length c0_12]) (t := 26) ?hr ?_; (case hd => rfl); (case hg => rfl); (case hr => first | (go_simp; done) | (go_simp; rfl)); intro gb101 hg w3 hbox hb; have n0_ := Aside0.mk (below_step (by repeat (first | (with_reducible first | exact HB.out | apply below_alloc | apply pw_below_drewN | apply below_drew1) | exact HB.out)) hb); have n1_ := Aside0.mk (hbox); have n2_ := Aside0.mk ((by rw [hg]; exact (below_size (by repeat (first | (with_reducible first | exact HB.out | apply below_alloc | apply pw_below_drewN | apply below_drew1) | exact HB.out))) : w.heap.size ≤ gb101)); have n3_ := Aside0.mk ((by rw [hg]; exact (below_size (by repeat (first | (with_reducible first | exact HB.out | apply below_alloc | apply pw_below_drewN | apply below_drew1) | exact HB.out))) : w.heap.size ≤ gb101)); clear HB; have HB := n0_; have BK101 := n1_; have GW101 := n2_; have GE101 := n3_; clear n0_ n1_ n2_ n3_; clear hb hbox hg))
  (try simp only [Act.put, List.setIfInBounds_toArray, List.set_cons_zero, List.set_cons_succ])
  go_cut [3] (fun v3 wc => ∃ (kq : Nat) (x3_1 : Bool), v3 = .bool x3_1 ∧ Aside0 (wire_ranges.j0 kq x3_1 a0_0 a0_1 a0_2 a0_3 a0_4 a0_5 a0_6 a0_7 a0_8 a0_9 a0_10 l0_11 l0_12 = some r) ∧ Aside0 (kq ≤ k) ∧ Aside0 (wc.heap[gb101]? = some (.cells #[.int .i64 a0_0, .int .i64 a0_1, .int .i64 a0_2, .int .i64 a0_3, .int .i64 a0_4, .int .i64 a0_5, .int .i64 a0_6, .int .i64 a0_7, .int .i64 a0_8, .bool a0_9, .int .i64 a0_10, (.slice A0_11 l0_11.length c0_11), (.slice A0_12 l0_12.length c0_12)] 26 (0, 0))) ∧ Aside0 (Below w.heap.size w wc))
  case first =>
    have H := HC2.out
    clear HC2
    replace H := Option.bind_eq_some_iff.mp H
    obtain ⟨t102, A40, H⟩ := H
    replace H : (if t102 = true then ((wire_within.f a0_2 255).bind fun t103 => (if t103 = true then ((wire_within.f a0_3 4294967295).bind fun t104 => (if t104 = true then ((wire_within.f a0_4 4294967295).bind fun t105 => (wire_ranges.j0 k t105 a0_0 a0_1 a0_2 a0_3 a0_4 a0_5 a0_6 a0_7 a0_8 a0_9 a0_10 l0_11 l0_12)) else (wire_ranges.j0 k false a0_0 a0_1 a0_2 a0_3 a0_4 a0_5 a0_6 a0_7 a0_8 a0_9 a0_10 l0_11 l0_12))) else (wire_ranges.j0 k false a0_0 a0_1 a0_2 a0_3 a0_4 a0_5 a0_6 a0_7 a0_8 a0_9 a0_10 l0_11 l0_12))) else (wire_ranges.j0 k false a0_0 a0_1 a0_2 a0_3 a0_4 a0_5 a0_6 a0_7 a0_8 a0_9 a0_10 l0_11 l0_12)) = some r := H
    have A4 := Aside0.mk A40
    clear A40
    by_cases c5 : t102 = true
    · subst c5
      have H1 : ((wire_within.f a0_2 255).bind fun t103 => (if t103 = true then ((wire_within.f a0_3 4294967295).bind fun t104 => (if t104 = true then ((wire_within.f a0_4 4294967295).bind fun t105 => (wire_ranges.j0 k t105 a0_0 a0_1 a0_2 a0_3 a0_4 a0_5 a0_6 a0_7 a0_8 a0_9 a0_10 l0_11 l0_12)) else (wire_ranges.j0 k false a0_0 a0_1 a0_2 a0_3 a0_4 a0_5 a0_6 a0_7 a0_8 a0_9 a0_10 l0_11 l0_12))) else (wire_ranges.j0 k false a0_0 a0_1 a0_2 a0_3 a0_4 a0_5 a0_6 a0_7 a0_8 a0_9 a0_10 l0_11 l0_12))) = some r := by rw [if_pos rfl] at H; exact H
      clear H
      have H := H1
      clear H1
      replace H := Option.bind_eq_some_iff.mp H
      obtain ⟨t103, A60, H⟩ := H
      replace H : (if t103 = true then ((wire_within.f a0_3 4294967295).bind fun t104 => (if t104 = true then ((wire_within.f a0_4 4294967295).bind fun t105 => (wire_ranges.j0 k t105 a0_0 a0_1 a0_2 a0_3 a0_4 a0_5 a0_6 a0_7 a0_8 a0_9 a0_10 l0_11 l0_12)) else (wire_ranges.j0 k false a0_0 a0_1 a0_2 a0_3 a0_4 a0_5 a0_6 a0_7 a0_8 a0_9 a0_10 l0_11 l0_12))) else (wire_ranges.j0 k false a0_0 a0_1 a0_2 a0_3 a0_4 a0_5 a0_6 a0_7 a0_8 a0_9 a0_10 l0_11 l0_12)) = some r := H
      have A6 := Aside0.mk A60
      clear A60
      by_cases c7 : t103 = true
      · subst c7
        have H1 : ((wire_within.f a0_3 4294967295).bind fun t104 => (if t104 = true then ((wire_within.f a0_4 4294967295).bind fun t105 => (wire_ranges.j0 k t105 a0_0 a0_1 a0_2 a0_3 a0_4 a0_5 a0_6 a0_7 a0_8 a0_9 a0_10 l0_11 l0_12)) else (wire_ranges.j0 k false a0_0 a0_1 a0_2 a0_3 a0_4 a0_5 a0_6 a0_7 a0_8 a0_9 a0_10 l0_11 l0_12))) = some r := by rw [if_pos rfl] at H; exact H
        clear H
        have H := H1
        clear H1
        replace H := Option.bind_eq_some_iff.mp H
        obtain ⟨t104, A80, H⟩ := H
        replace H : (if t104 = true then ((wire_within.f a0_4 4294967295).bind fun t105 => (wire_ranges.j0 k t105 a0_0 a0_1 a0_2 a0_3 a0_4 a0_5 a0_6 a0_7 a0_8 a0_9 a0_10 l0_11 l0_12)) else (wire_ranges.j0 k false a0_0 a0_1 a0_2 a0_3 a0_4 a0_5 a0_6 a0_7 a0_8 a0_9 a0_10 l0_11 l0_12)) = some r := H
        have A8 := Aside0.mk A80
        clear A80
        by_cases c9 : t104 = true
        · subst c9
          have H1 : ((wire_within.f a0_4 4294967295).bind fun t105 => (wire_ranges.j0 k t105 a0_0 a0_1 a0_2 a0_3 a0_4 a0_5 a0_6 a0_7 a0_8 a0_9 a0_10 l0_11 l0_12)) = some r := by rw [if_pos rfl] at H; exact H
          clear H
          have H := H1
          clear H1
          replace H := Option.bind_eq_some_iff.mp H
          obtain ⟨t105, A100, H⟩ := H
          replace H : (wire_ranges.j0 k t105 a0_0 a0_1 a0_2 a0_3 a0_4 a0_5 a0_6 a0_7 a0_8 a0_9 a0_10 l0_11 l0_12) = some r := H
          have A10 := Aside0.mk A100
          clear A100
          have H' := Aside0.mk H
          clear H
          have hcz11_0 : w3.cell? ⟨gb101, 0, none⟩ = some (.int .i64 a0_0) := (blk_cell BK101.out 0).trans rfl
          have hcz11_1 : w3.cell? ⟨gb101, 1, none⟩ = some (.int .i64 a0_1) := (blk_cell BK101.out 1).trans rfl
          have hcz11_2 : w3.cell? ⟨gb101, 2, none⟩ = some (.int .i64 a0_2) := (blk_cell BK101.out 2).trans rfl
          have hcz11_3 : w3.cell? ⟨gb101, 3, none⟩ = some (.int .i64 a0_3) := (blk_cell BK101.out 3).trans rfl
          have hcz11_4 : w3.cell? ⟨gb101, 4, none⟩ = some (.int .i64 a0_4) := (blk_cell BK101.out 4).trans rfl
          have hcz11_5 : w3.cell? ⟨gb101, 5, none⟩ = some (.int .i64 a0_5) := (blk_cell BK101.out 5).trans rfl
          have hcz11_6 : w3.cell? ⟨gb101, 6, none⟩ = some (.int .i64 a0_6) := (blk_cell BK101.out 6).trans rfl
          have hcz11_7 : w3.cell? ⟨gb101, 7, none⟩ = some (.int .i64 a0_7) := (blk_cell BK101.out 7).trans rfl
          have hcz11_8 : w3.cell? ⟨gb101, 8, none⟩ = some (.int .i64 a0_8) := (blk_cell BK101.out 8).trans rfl
          have hcz11_9 : w3.cell? ⟨gb101, 9, none⟩ = some (.bool a0_9) := (blk_cell BK101.out 9).trans rfl
          have hcz11_10 : w3.cell? ⟨gb101, 10, none⟩ = some (.int .i64 a0_10) := (blk_cell BK101.out 10).trans rfl
          have hcz11_11 : w3.cell? ⟨gb101, 11, none⟩ = some (.slice A0_11 l0_11.length c0_11) := (blk_cell BK101.out 11).trans rfl
          have hcz11_12 : w3.cell? ⟨gb101, 12, none⟩ = some (.slice A0_12 l0_12.length c0_12) := (blk_cell BK101.out 12).trans rfl
          have hfz11_0 := blk_frozen BK101.out 0
          have hfz11_1 := blk_frozen BK101.out 1
          have hfz11_2 := blk_frozen BK101.out 2
          have hfz11_3 := blk_frozen BK101.out 3
          have hfz11_4 := blk_frozen BK101.out 4
          have hfz11_5 := blk_frozen BK101.out 5
          have hfz11_6 := blk_frozen BK101.out 6
          have hfz11_7 := blk_frozen BK101.out 7
          have hfz11_8 := blk_frozen BK101.out 8
          have hfz11_9 := blk_frozen BK101.out 9
          have hfz11_10 := blk_frozen BK101.out 10
          have hfz11_11 := blk_frozen BK101.out 11
          have hfz11_12 := blk_frozen BK101.out 12
          go_wp2_with (first | ((with_reducible refine gate_callee (f := 56) rfl ?_); refine goesL_ (some 6) rfl rfl Try.func56 (by kernel_rfl) rfl #[.int .i64 a0_1, .int .i64 255] rfl (by (try simp only [List.map_toArray, List.map_cons, List.map_nil]); first | done | rfl | (simp only [List.length_drop, List.length_take]; rfl)) ?_; (with_reducible refine (wire_within.calls a0_1 255 true _ A4.out).mono ?_); rintro e w' ⟨rfl, ⟨nd, rfl⟩⟩; refine ⟨_, rfl, ?_⟩) | (go_at_call 56; (with_reducible refine (wire_within.calls a0_2 255 true _ A6.out).mono ?_); rintro e w' ⟨rfl, ⟨nd, rfl⟩⟩) | (go_at_call 56; (with_reducible refine (wire_within.calls a0_3 4294967295 true _ A8.out).mono ?_); rintro e w' ⟨rfl, ⟨nd, rfl⟩⟩) | (go_at_call 56; (with_reducible refine (wire_within.calls a0_4 4294967295 t105 _ A10.out).mono ?_); rintro e w' ⟨rfl, ⟨nd, rfl⟩⟩))
          go_meet
          case rel => exact ⟨_, (t105), (by first | rfl | (simp; done) | (simp [*]; done)), H', ⟨by first | omega | exact Nat.le_refl _⟩, ⟨by (with_reducible repeat (first | refine blk_drewN ?_ _ | refine blk_drew ?_ | refine blk_alloc ?_ _)); exact BK101.out⟩, ⟨by repeat (first | (with_reducible first | exact HB.out | apply below_alloc | apply pw_below_drewN | apply below_drew1 | refine below_set ?_ GE101.out) | exact HB.out)⟩⟩
        · replace c9 := Bool.eq_false_iff.mpr c9
          subst c9
          have H1 : (wire_ranges.j0 k false a0_0 a0_1 a0_2 a0_3 a0_4 a0_5 a0_6 a0_7 a0_8 a0_9 a0_10 l0_11 l0_12) = some r := by rw [if_neg (show ¬ (false = true) by decide)] at H; exact H
          clear H
          have H := H1
          clear H1
          have H' := Aside0.mk H
          clear H
          have hcz12_0 : w3.cell? ⟨gb101, 0, none⟩ = some (.int .i64 a0_0) := (blk_cell BK101.out 0).trans rfl
          have hcz12_1 : w3.cell? ⟨gb101, 1, none⟩ = some (.int .i64 a0_1) := (blk_cell BK101.out 1).trans rfl
          have hcz12_2 : w3.cell? ⟨gb101, 2, none⟩ = some (.int .i64 a0_2) := (blk_cell BK101.out 2).trans rfl
          have hcz12_3 : w3.cell? ⟨gb101, 3, none⟩ = some (.int .i64 a0_3) := (blk_cell BK101.out 3).trans rfl
          have hcz12_4 : w3.cell? ⟨gb101, 4, none⟩ = some (.int .i64 a0_4) := (blk_cell BK101.out 4).trans rfl
          have hcz12_5 : w3.cell? ⟨gb101, 5, none⟩ = some (.int .i64 a0_5) := (blk_cell BK101.out 5).trans rfl
          have hcz12_6 : w3.cell? ⟨gb101, 6, none⟩ = some (.int .i64 a0_6) := (blk_cell BK101.out 6).trans rfl
          have hcz12_7 : w3.cell? ⟨gb101, 7, none⟩ = some (.int .i64 a0_7) := (blk_cell BK101.out 7).trans rfl
          have hcz12_8 : w3.cell? ⟨gb101, 8, none⟩ = some (.int .i64 a0_8) := (blk_cell BK101.out 8).trans rfl
          have hcz12_9 : w3.cell? ⟨gb101, 9, none⟩ = some (.bool a0_9) := (blk_cell BK101.out 9).trans rfl
          have hcz12_10 : w3.cell? ⟨gb101, 10, none⟩ = some (.int .i64 a0_10) := (blk_cell BK101.out 10).trans rfl
          have hcz12_11 : w3.cell? ⟨gb101, 11, none⟩ = some (.slice A0_11 l0_11.length c0_11) := (blk_cell BK101.out 11).trans rfl
          have hcz12_12 : w3.cell? ⟨gb101, 12, none⟩ = some (.slice A0_12 l0_12.length c0_12) := (blk_cell BK101.out 12).trans rfl
          have hfz12_0 := blk_frozen BK101.out 0
          have hfz12_1 := blk_frozen BK101.out 1
          have hfz12_2 := blk_frozen BK101.out 2
          have hfz12_3 := blk_frozen BK101.out 3
          have hfz12_4 := blk_frozen BK101.out 4
          have hfz12_5 := blk_frozen BK101.out 5
          have hfz12_6 := blk_frozen BK101.out 6
          have hfz12_7 := blk_frozen BK101.out 7
          have hfz12_8 := blk_frozen BK101.out 8
          have hfz12_9 := blk_frozen BK101.out 9
          have hfz12_10 := blk_frozen BK101.out 10
          have hfz12_11 := blk_frozen BK101.out 11
          have hfz12_12 := blk_frozen BK101.out 12
          go_wp2_with (first | ((with_reducible refine gate_callee (f := 56) rfl ?_); refine goesL_ (some 6) rfl rfl Try.func56 (by kernel_rfl) rfl #[.int .i64 a0_1, .int .i64 255] rfl (by (try simp only [List.map_toArray, List.map_cons, List.map_nil]); first | done | rfl | (simp only [List.length_drop, List.length_take]; rfl)) ?_; (with_reducible refine (wire_within.calls a0_1 255 true _ A4.out).mono ?_); rintro e w' ⟨rfl, ⟨nd, rfl⟩⟩; refine ⟨_, rfl, ?_⟩) | (go_at_call 56; (with_reducible refine (wire_within.calls a0_2 255 true _ A6.out).mono ?_); rintro e w' ⟨rfl, ⟨nd, rfl⟩⟩) | (go_at_call 56; (with_reducible refine (wire_within.calls a0_3 4294967295 false _ A8.out).mono ?_); rintro e w' ⟨rfl, ⟨nd, rfl⟩⟩))
          go_meet
          case rel => exact ⟨_, (false), (by first | rfl | (simp; done) | (simp [*]; done)), H', ⟨by first | omega | exact Nat.le_refl _⟩, ⟨by (with_reducible repeat (first | refine blk_drewN ?_ _ | refine blk_drew ?_ | refine blk_alloc ?_ _)); exact BK101.out⟩, ⟨by repeat (first | (with_reducible first | exact HB.out | apply below_alloc | apply pw_below_drewN | apply below_drew1 | refine below_set ?_ GE101.out) | exact HB.out)⟩⟩
      · replace c7 := Bool.eq_false_iff.mpr c7
        subst c7
        have H1 : (wire_ranges.j0 k false a0_0 a0_1 a0_2 a0_3 a0_4 a0_5 a0_6 a0_7 a0_8 a0_9 a0_10 l0_11 l0_12) = some r := by rw [if_neg (show ¬ (false = true) by decide)] at H; exact H
        clear H
        have H := H1
        clear H1
        have H' := Aside0.mk H
        clear H
        have hcz13_0 : w3.cell? ⟨gb101, 0, none⟩ = some (.int .i64 a0_0) := (blk_cell BK101.out 0).trans rfl
        have hcz13_1 : w3.cell? ⟨gb101, 1, none⟩ = some (.int .i64 a0_1) := (blk_cell BK101.out 1).trans rfl
        have hcz13_2 : w3.cell? ⟨gb101, 2, none⟩ = some (.int .i64 a0_2) := (blk_cell BK101.out 2).trans rfl
        have hcz13_3 : w3.cell? ⟨gb101, 3, none⟩ = some (.int .i64 a0_3) := (blk_cell BK101.out 3).trans rfl
        have hcz13_4 : w3.cell? ⟨gb101, 4, none⟩ = some (.int .i64 a0_4) := (blk_cell BK101.out 4).trans rfl
        have hcz13_5 : w3.cell? ⟨gb101, 5, none⟩ = some (.int .i64 a0_5) := (blk_cell BK101.out 5).trans rfl
        have hcz13_6 : w3.cell? ⟨gb101, 6, none⟩ = some (.int .i64 a0_6) := (blk_cell BK101.out 6).trans rfl
        have hcz13_7 : w3.cell? ⟨gb101, 7, none⟩ = some (.int .i64 a0_7) := (blk_cell BK101.out 7).trans rfl
        have hcz13_8 : w3.cell? ⟨gb101, 8, none⟩ = some (.int .i64 a0_8) := (blk_cell BK101.out 8).trans rfl
        have hcz13_9 : w3.cell? ⟨gb101, 9, none⟩ = some (.bool a0_9) := (blk_cell BK101.out 9).trans rfl
        have hcz13_10 : w3.cell? ⟨gb101, 10, none⟩ = some (.int .i64 a0_10) := (blk_cell BK101.out 10).trans rfl
        have hcz13_11 : w3.cell? ⟨gb101, 11, none⟩ = some (.slice A0_11 l0_11.length c0_11) := (blk_cell BK101.out 11).trans rfl
        have hcz13_12 : w3.cell? ⟨gb101, 12, none⟩ = some (.slice A0_12 l0_12.length c0_12) := (blk_cell BK101.out 12).trans rfl
        have hfz13_0 := blk_frozen BK101.out 0
        have hfz13_1 := blk_frozen BK101.out 1
        have hfz13_2 := blk_frozen BK101.out 2
        have hfz13_3 := blk_frozen BK101.out 3
        have hfz13_4 := blk_frozen BK101.out 4
        have hfz13_5 := blk_frozen BK101.out 5
        have hfz13_6 := blk_frozen BK101.out 6
        have hfz13_7 := blk_frozen BK101.out 7
        have hfz13_8 := blk_frozen BK101.out 8
        have hfz13_9 := blk_frozen BK101.out 9
        have hfz13_10 := blk_frozen BK101.out 10
        have hfz13_11 := blk_frozen BK101.out 11
        have hfz13_12 := blk_frozen BK101.out 12
        go_wp2_with (first | ((with_reducible refine gate_callee (f := 56) rfl ?_); refine goesL_ (some 6) rfl rfl Try.func56 (by kernel_rfl) rfl #[.int .i64 a0_1, .int .i64 255] rfl (by (try simp only [List.map_toArray, List.map_cons, List.map_nil]); first | done | rfl | (simp only [List.length_drop, List.length_take]; rfl)) ?_; (with_reducible refine (wire_within.calls a0_1 255 true _ A4.out).mono ?_); rintro e w' ⟨rfl, ⟨nd, rfl⟩⟩; refine ⟨_, rfl, ?_⟩) | (go_at_call 56; (with_reducible refine (wire_within.calls a0_2 255 false _ A6.out).mono ?_); rintro e w' ⟨rfl, ⟨nd, rfl⟩⟩))
        go_meet
        case rel => exact ⟨_, (false), (by first | rfl | (simp; done) | (simp [*]; done)), H', ⟨by first | omega | exact Nat.le_refl _⟩, ⟨by (with_reducible repeat (first | refine blk_drewN ?_ _ | refine blk_drew ?_ | refine blk_alloc ?_ _)); exact BK101.out⟩, ⟨by repeat (first | (with_reducible first | exact HB.out | apply below_alloc | apply pw_below_drewN | apply below_drew1 | refine below_set ?_ GE101.out) | exact HB.out)⟩⟩
    · replace c5 := Bool.eq_false_iff.mpr c5
      subst c5
      have H1 : (wire_ranges.j0 k false a0_0 a0_1 a0_2 a0_3 a0_4 a0_5 a0_6 a0_7 a0_8 a0_9 a0_10 l0_11 l0_12) = some r := by rw [if_neg (show ¬ (false = true) by decide)] at H; exact H
      clear H
      have H := H1
      clear H1
      have H' := Aside0.mk H
      clear H
      have hcz14_0 : w3.cell? ⟨gb101, 0, none⟩ = some (.int .i64 a0_0) := (blk_cell BK101.out 0).trans rfl
      have hcz14_1 : w3.cell? ⟨gb101, 1, none⟩ = some (.int .i64 a0_1) := (blk_cell BK101.out 1).trans rfl
      have hcz14_2 : w3.cell? ⟨gb101, 2, none⟩ = some (.int .i64 a0_2) := (blk_cell BK101.out 2).trans rfl
      have hcz14_3 : w3.cell? ⟨gb101, 3, none⟩ = some (.int .i64 a0_3) := (blk_cell BK101.out 3).trans rfl
      have hcz14_4 : w3.cell? ⟨gb101, 4, none⟩ = some (.int .i64 a0_4) := (blk_cell BK101.out 4).trans rfl
      have hcz14_5 : w3.cell? ⟨gb101, 5, none⟩ = some (.int .i64 a0_5) := (blk_cell BK101.out 5).trans rfl
      have hcz14_6 : w3.cell? ⟨gb101, 6, none⟩ = some (.int .i64 a0_6) := (blk_cell BK101.out 6).trans rfl
      have hcz14_7 : w3.cell? ⟨gb101, 7, none⟩ = some (.int .i64 a0_7) := (blk_cell BK101.out 7).trans rfl
      have hcz14_8 : w3.cell? ⟨gb101, 8, none⟩ = some (.int .i64 a0_8) := (blk_cell BK101.out 8).trans rfl
      have hcz14_9 : w3.cell? ⟨gb101, 9, none⟩ = some (.bool a0_9) := (blk_cell BK101.out 9).trans rfl
      have hcz14_10 : w3.cell? ⟨gb101, 10, none⟩ = some (.int .i64 a0_10) := (blk_cell BK101.out 10).trans rfl
      have hcz14_11 : w3.cell? ⟨gb101, 11, none⟩ = some (.slice A0_11 l0_11.length c0_11) := (blk_cell BK101.out 11).trans rfl
      have hcz14_12 : w3.cell? ⟨gb101, 12, none⟩ = some (.slice A0_12 l0_12.length c0_12) := (blk_cell BK101.out 12).trans rfl
      have hfz14_0 := blk_frozen BK101.out 0
      have hfz14_1 := blk_frozen BK101.out 1
      have hfz14_2 := blk_frozen BK101.out 2
      have hfz14_3 := blk_frozen BK101.out 3
      have hfz14_4 := blk_frozen BK101.out 4
      have hfz14_5 := blk_frozen BK101.out 5
      have hfz14_6 := blk_frozen BK101.out 6
      have hfz14_7 := blk_frozen BK101.out 7
      have hfz14_8 := blk_frozen BK101.out 8
      have hfz14_9 := blk_frozen BK101.out 9
      have hfz14_10 := blk_frozen BK101.out 10
      have hfz14_11 := blk_frozen BK101.out 11
      have hfz14_12 := blk_frozen BK101.out 12
      go_wp2_with (first | ((with_reducible refine gate_callee (f := 56) rfl ?_); refine goesL_ (some 6) rfl rfl Try.func56 (by kernel_rfl) rfl #[.int .i64 a0_1, .int .i64 255] rfl (by (try simp only [List.map_toArray, List.map_cons, List.map_nil]); first | done | rfl | (simp only [List.length_drop, List.length_take]; rfl)) ?_; (with_reducible refine (wire_within.calls a0_1 255 false _ A4.out).mono ?_); rintro e w' ⟨rfl, ⟨nd, rfl⟩⟩; refine ⟨_, rfl, ?_⟩))
      go_meet
      case rel => exact ⟨_, (false), (by first | rfl | (simp; done) | (simp [*]; done)), H', ⟨by first | omega | exact Nat.le_refl _⟩, ⟨by (with_reducible repeat (first | refine blk_drewN ?_ _ | refine blk_drew ?_ | refine blk_alloc ?_ _)); exact BK101.out⟩, ⟨by repeat (first | (with_reducible first | exact HB.out | apply below_alloc | apply pw_below_drewN | apply below_drew1 | refine below_set ?_ GE101.out) | exact HB.out)⟩⟩
  case rest =>
    clear HC2
    try clear p2
    try clear c3
    try clear c5
    try clear c7
    try clear c9
    try clear hcz11_0
    try clear hcz11_1
    try clear hcz11_10
    try clear hcz11_11
    try clear hcz11_12
    try clear hcz11_2
    try clear hcz11_3
    try clear hcz11_4
    try clear hcz11_5
    try clear hcz11_6
    try clear hcz11_7
    try clear hcz11_8
    try clear hcz11_9
    try clear hcz12_0
    try clear hcz12_1
    try clear hcz12_10
    try clear hcz12_11
    try clear hcz12_12
    try clear hcz12_2
    try clear hcz12_3
    try clear hcz12_4
    try clear hcz12_5
    try clear hcz12_6
    try clear hcz12_7
    try clear hcz12_8
    try clear hcz12_9
    try clear hcz13_0
    try clear hcz13_1
    try clear hcz13_10
    try clear hcz13_11
    try clear hcz13_12
    try clear hcz13_2
    try clear hcz13_3
    try clear hcz13_4
    try clear hcz13_5
    try clear hcz13_6
    try clear hcz13_7
    try clear hcz13_8
    try clear hcz13_9
    try clear hcz14_0
    try clear hcz14_1
    try clear hcz14_10
    try clear hcz14_11
    try clear hcz14_12
    try clear hcz14_2
    try clear hcz14_3
    try clear hcz14_4
    try clear hcz14_5
    try clear hcz14_6
    try clear hcz14_7
    try clear hcz14_8
    try clear hcz14_9
    try clear hfz11_0
    try clear hfz11_1
    try clear hfz11_10
    try clear hfz11_11
    try clear hfz11_12
    try clear hfz11_2
    try clear hfz11_3
    try clear hfz11_4
    try clear hfz11_5
    try clear hfz11_6
    try clear hfz11_7
    try clear hfz11_8
    try clear hfz11_9
    try clear hfz12_0
    try clear hfz12_1
    try clear hfz12_10
    try clear hfz12_11
    try clear hfz12_12
    try clear hfz12_2
    try clear hfz12_3
    try clear hfz12_4
    try clear hfz12_5
    try clear hfz12_6
    try clear hfz12_7
    try clear hfz12_8
    try clear hfz12_9
    try clear hfz13_0
    try clear hfz13_1
    try clear hfz13_10
    try clear hfz13_11
    try clear hfz13_12
    try clear hfz13_2
    try clear hfz13_3
    try clear hfz13_4
    try clear hfz13_5
    try clear hfz13_6
    try clear hfz13_7
    try clear hfz13_8
    try clear hfz13_9
    try clear hfz14_0
    try clear hfz14_1
    try clear hfz14_10
    try clear hfz14_11
    try clear hfz14_12
    try clear hfz14_2
    try clear hfz14_3
    try clear hfz14_4
    try clear hfz14_5
    try clear hfz14_6
    try clear hfz14_7
    try clear hfz14_8
    try clear hfz14_9
    obtain ⟨kq, x3_1, rfl, HA, HJ1, BK101, HB⟩ := hcut
    cases kq with
    | zero => exact absurd HA.out (by simp [wire_ranges.j0])
    | succ kj1 =>
      have H := HA.out
      clear HA
      simp only [wire_ranges.j0] at H
      by_cases c15 : a0_0 = 3
      · rw [if_pos c15] at H
        have c15b0 : (a0_0 == 3) = true := beq_iff_eq.mpr c15
        have c15b1 : (a0_0 != 3) = false := bne_eq_false_iff_eq.mpr c15
        clear c15
        by_cases c16 : x3_1 = true
        · subst c16
          have H1 : ((wire_within.f a0_10 255).bind fun t106 => (some t106)) = some r := by rw [if_pos rfl] at H; exact H
          clear H
          have H := H1
          clear H1
          replace H := Option.bind_eq_some_iff.mp H
          obtain ⟨t106, A170, H⟩ := H
          replace H : (some t106) = some r := H
          have A17 := Aside0.mk A170
          clear A170
          obtain rfl := Option.some.inj H
          have hcz18_0 : wc.cell? ⟨gb101, 0, none⟩ = some (.int .i64 a0_0) := (blk_cell BK101.out 0).trans rfl
          have hcz18_1 : wc.cell? ⟨gb101, 1, none⟩ = some (.int .i64 a0_1) := (blk_cell BK101.out 1).trans rfl
          have hcz18_2 : wc.cell? ⟨gb101, 2, none⟩ = some (.int .i64 a0_2) := (blk_cell BK101.out 2).trans rfl
          have hcz18_3 : wc.cell? ⟨gb101, 3, none⟩ = some (.int .i64 a0_3) := (blk_cell BK101.out 3).trans rfl
          have hcz18_4 : wc.cell? ⟨gb101, 4, none⟩ = some (.int .i64 a0_4) := (blk_cell BK101.out 4).trans rfl
          have hcz18_5 : wc.cell? ⟨gb101, 5, none⟩ = some (.int .i64 a0_5) := (blk_cell BK101.out 5).trans rfl
          have hcz18_6 : wc.cell? ⟨gb101, 6, none⟩ = some (.int .i64 a0_6) := (blk_cell BK101.out 6).trans rfl
          have hcz18_7 : wc.cell? ⟨gb101, 7, none⟩ = some (.int .i64 a0_7) := (blk_cell BK101.out 7).trans rfl
          have hcz18_8 : wc.cell? ⟨gb101, 8, none⟩ = some (.int .i64 a0_8) := (blk_cell BK101.out 8).trans rfl
          have hcz18_9 : wc.cell? ⟨gb101, 9, none⟩ = some (.bool a0_9) := (blk_cell BK101.out 9).trans rfl
          have hcz18_10 : wc.cell? ⟨gb101, 10, none⟩ = some (.int .i64 a0_10) := (blk_cell BK101.out 10).trans rfl
          have hcz18_11 : wc.cell? ⟨gb101, 11, none⟩ = some (.slice A0_11 l0_11.length c0_11) := (blk_cell BK101.out 11).trans rfl
          have hcz18_12 : wc.cell? ⟨gb101, 12, none⟩ = some (.slice A0_12 l0_12.length c0_12) := (blk_cell BK101.out 12).trans rfl
          have hfz18_0 := blk_frozen BK101.out 0
          have hfz18_1 := blk_frozen BK101.out 1
          have hfz18_2 := blk_frozen BK101.out 2
          have hfz18_3 := blk_frozen BK101.out 3
          have hfz18_4 := blk_frozen BK101.out 4
          have hfz18_5 := blk_frozen BK101.out 5
          have hfz18_6 := blk_frozen BK101.out 6
          have hfz18_7 := blk_frozen BK101.out 7
          have hfz18_8 := blk_frozen BK101.out 8
          have hfz18_9 := blk_frozen BK101.out 9
          have hfz18_10 := blk_frozen BK101.out 10
          have hfz18_11 := blk_frozen BK101.out 11
          have hfz18_12 := blk_frozen BK101.out 12
          go_wp2_with (first | (go_at_call 56; (with_reducible refine (wire_within.calls a0_10 255 t106 _ A17.out).mono ?_); rintro e w' ⟨rfl, ⟨nd, rfl⟩⟩))
          go_ret
          exact ⟨by first | rfl | (simp [errW_none, errW_some] <;> rfl) | (simp [*, errW_none, errW_some] <;> rfl), by repeat (first | (with_reducible first | exact HB.out | apply below_alloc | apply pw_below_drewN | apply below_drew1 | refine below_set ?_ GE101.out) | exact HB.out)⟩
        · replace c16 := Bool.eq_false_iff.mpr c16
          subst c16
          have H1 : (some false) = some r := by rw [if_neg (show ¬ (false = true) by decide)] at H; exact H
          clear H
          have H := H1
          clear H1
          obtain rfl := Option.some.inj H
          have hcz19_0 : wc.cell? ⟨gb101, 0, none⟩ = some (.int .i64 a0_0) := (blk_cell BK101.out 0).trans rfl
          have hcz19_1 : wc.cell? ⟨gb101, 1, none⟩ = some (.int .i64 a0_1) := (blk_cell BK101.out 1).trans rfl
          have hcz19_2 : wc.cell? ⟨gb101, 2, none⟩ = some (.int .i64 a0_2) := (blk_cell BK101.out 2).trans rfl
          have hcz19_3 : wc.cell? ⟨gb101, 3, none⟩ = some (.int .i64 a0_3) := (blk_cell BK101.out 3).trans rfl
          have hcz19_4 : wc.cell? ⟨gb101, 4, none⟩ = some (.int .i64 a0_4) := (blk_cell BK101.out 4).trans rfl
          have hcz19_5 : wc.cell? ⟨gb101, 5, none⟩ = some (.int .i64 a0_5) := (blk_cell BK101.out 5).trans rfl
          have hcz19_6 : wc.cell? ⟨gb101, 6, none⟩ = some (.int .i64 a0_6) := (blk_cell BK101.out 6).trans rfl
          have hcz19_7 : wc.cell? ⟨gb101, 7, none⟩ = some (.int .i64 a0_7) := (blk_cell BK101.out 7).trans rfl
          have hcz19_8 : wc.cell? ⟨gb101, 8, none⟩ = some (.int .i64 a0_8) := (blk_cell BK101.out 8).trans rfl
          have hcz19_9 : wc.cell? ⟨gb101, 9, none⟩ = some (.bool a0_9) := (blk_cell BK101.out 9).trans rfl
          have hcz19_10 : wc.cell? ⟨gb101, 10, none⟩ = some (.int .i64 a0_10) := (blk_cell BK101.out 10).trans rfl
          have hcz19_11 : wc.cell? ⟨gb101, 11, none⟩ = some (.slice A0_11 l0_11.length c0_11) := (blk_cell BK101.out 11).trans rfl
          have hcz19_12 : wc.cell? ⟨gb101, 12, none⟩ = some (.slice A0_12 l0_12.length c0_12) := (blk_cell BK101.out 12).trans rfl
          have hfz19_0 := blk_frozen BK101.out 0
          have hfz19_1 := blk_frozen BK101.out 1
          have hfz19_2 := blk_frozen BK101.out 2
          have hfz19_3 := blk_frozen BK101.out 3
          have hfz19_4 := blk_frozen BK101.out 4
          have hfz19_5 := blk_frozen BK101.out 5
          have hfz19_6 := blk_frozen BK101.out 6
          have hfz19_7 := blk_frozen BK101.out 7
          have hfz19_8 := blk_frozen BK101.out 8
          have hfz19_9 := blk_frozen BK101.out 9
          have hfz19_10 := blk_frozen BK101.out 10
          have hfz19_11 := blk_frozen BK101.out 11
          have hfz19_12 := blk_frozen BK101.out 12
          go_wp2
          go_ret
          exact ⟨by first | rfl | (simp [errW_none, errW_some] <;> rfl) | (simp [*, errW_none, errW_some] <;> rfl), by repeat (first | (with_reducible first | exact HB.out | apply below_alloc | apply pw_below_drewN | apply below_drew1 | refine below_set ?_ GE101.out) | exact HB.out)⟩
      · rw [if_neg c15] at H
        have c15b0 : (a0_0 == 3) = false := beq_eq_false_iff_ne.mpr c15
        have c15b1 : (a0_0 != 3) = true := bne_iff_ne.mpr c15
        have HC20 := Aside0.mk H
        clear H
        have hcz21_0 : wc.cell? ⟨gb101, 0, none⟩ = some (.int .i64 a0_0) := (blk_cell BK101.out 0).trans rfl
        have hcz21_1 : wc.cell? ⟨gb101, 1, none⟩ = some (.int .i64 a0_1) := (blk_cell BK101.out 1).trans rfl
        have hcz21_2 : wc.cell? ⟨gb101, 2, none⟩ = some (.int .i64 a0_2) := (blk_cell BK101.out 2).trans rfl
        have hcz21_3 : wc.cell? ⟨gb101, 3, none⟩ = some (.int .i64 a0_3) := (blk_cell BK101.out 3).trans rfl
        have hcz21_4 : wc.cell? ⟨gb101, 4, none⟩ = some (.int .i64 a0_4) := (blk_cell BK101.out 4).trans rfl
        have hcz21_5 : wc.cell? ⟨gb101, 5, none⟩ = some (.int .i64 a0_5) := (blk_cell BK101.out 5).trans rfl
        have hcz21_6 : wc.cell? ⟨gb101, 6, none⟩ = some (.int .i64 a0_6) := (blk_cell BK101.out 6).trans rfl
        have hcz21_7 : wc.cell? ⟨gb101, 7, none⟩ = some (.int .i64 a0_7) := (blk_cell BK101.out 7).trans rfl
        have hcz21_8 : wc.cell? ⟨gb101, 8, none⟩ = some (.int .i64 a0_8) := (blk_cell BK101.out 8).trans rfl
        have hcz21_9 : wc.cell? ⟨gb101, 9, none⟩ = some (.bool a0_9) := (blk_cell BK101.out 9).trans rfl
        have hcz21_10 : wc.cell? ⟨gb101, 10, none⟩ = some (.int .i64 a0_10) := (blk_cell BK101.out 10).trans rfl
        have hcz21_11 : wc.cell? ⟨gb101, 11, none⟩ = some (.slice A0_11 l0_11.length c0_11) := (blk_cell BK101.out 11).trans rfl
        have hcz21_12 : wc.cell? ⟨gb101, 12, none⟩ = some (.slice A0_12 l0_12.length c0_12) := (blk_cell BK101.out 12).trans rfl
        have hfz21_0 := blk_frozen BK101.out 0
        have hfz21_1 := blk_frozen BK101.out 1
        have hfz21_2 := blk_frozen BK101.out 2
        have hfz21_3 := blk_frozen BK101.out 3
        have hfz21_4 := blk_frozen BK101.out 4
        have hfz21_5 := blk_frozen BK101.out 5
        have hfz21_6 := blk_frozen BK101.out 6
        have hfz21_7 := blk_frozen BK101.out 7
        have hfz21_8 := blk_frozen BK101.out 8
        have hfz21_9 := blk_frozen BK101.out 9
        have hfz21_10 := blk_frozen BK101.out 10
        have hfz21_11 := blk_frozen BK101.out 11
        have hfz21_12 := blk_frozen BK101.out 12
        go_upto_region 4 with (fail)
        go_cut [3] (fun v3 wc => ∃ (kq : Nat) (x3_19 : Bool), v3 = .bool x3_19 ∧ Aside0 (wire_ranges.j1 kq x3_19 a0_0 a0_1 a0_2 a0_3 a0_4 a0_5 a0_6 a0_7 a0_8 a0_9 a0_10 l0_11 l0_12 = some r) ∧ Aside0 (kq ≤ kj1) ∧ Aside0 (wc.heap[gb101]? = some (.cells #[.int .i64 a0_0, .int .i64 a0_1, .int .i64 a0_2, .int .i64 a0_3, .int .i64 a0_4, .int .i64 a0_5, .int .i64 a0_6, .int .i64 a0_7, .int .i64 a0_8, .bool a0_9, .int .i64 a0_10, (.slice A0_11 l0_11.length c0_11), (.slice A0_12 l0_12.length c0_12)] 26 (0, 0))) ∧ Aside0 (Below w.heap.size w wc))
        case first =>
          have H := HC20.out
          clear HC20
          by_cases c22 : x3_1 = true
          · subst c22
            have H1 : ((wire_within.f a0_5 65535).bind fun t107 => (if t107 = true then ((wire_within.f a0_6 65535).bind fun t108 => (wire_ranges.j1 kj1 t108 a0_0 a0_1 a0_2 a0_3 a0_4 a0_5 a0_6 a0_7 a0_8 a0_9 a0_10 l0_11 l0_12)) else (wire_ranges.j1 kj1 false a0_0 a0_1 a0_2 a0_3 a0_4 a0_5 a0_6 a0_7 a0_8 a0_9 a0_10 l0_11 l0_12))) = some r := by rw [if_pos rfl] at H; exact H
            clear H
            have H := H1
            clear H1
            replace H := Option.bind_eq_some_iff.mp H
            obtain ⟨t107, A230, H⟩ := H
            replace H : (if t107 = true then ((wire_within.f a0_6 65535).bind fun t108 => (wire_ranges.j1 kj1 t108 a0_0 a0_1 a0_2 a0_3 a0_4 a0_5 a0_6 a0_7 a0_8 a0_9 a0_10 l0_11 l0_12)) else (wire_ranges.j1 kj1 false a0_0 a0_1 a0_2 a0_3 a0_4 a0_5 a0_6 a0_7 a0_8 a0_9 a0_10 l0_11 l0_12)) = some r := H
            have A23 := Aside0.mk A230
            clear A230
            by_cases c24 : t107 = true
            · subst c24
              have H1 : ((wire_within.f a0_6 65535).bind fun t108 => (wire_ranges.j1 kj1 t108 a0_0 a0_1 a0_2 a0_3 a0_4 a0_5 a0_6 a0_7 a0_8 a0_9 a0_10 l0_11 l0_12)) = some r := by rw [if_pos rfl] at H; exact H
              clear H
              have H := H1
              clear H1
              replace H := Option.bind_eq_some_iff.mp H
              obtain ⟨t108, A250, H⟩ := H
              replace H : (wire_ranges.j1 kj1 t108 a0_0 a0_1 a0_2 a0_3 a0_4 a0_5 a0_6 a0_7 a0_8 a0_9 a0_10 l0_11 l0_12) = some r := H
              have A25 := Aside0.mk A250
              clear A250
              have H' := Aside0.mk H
              clear H
              have hcz26_0 : wc.cell? ⟨gb101, 0, none⟩ = some (.int .i64 a0_0) := (blk_cell BK101.out 0).trans rfl
              have hcz26_1 : wc.cell? ⟨gb101, 1, none⟩ = some (.int .i64 a0_1) := (blk_cell BK101.out 1).trans rfl
              have hcz26_2 : wc.cell? ⟨gb101, 2, none⟩ = some (.int .i64 a0_2) := (blk_cell BK101.out 2).trans rfl
              have hcz26_3 : wc.cell? ⟨gb101, 3, none⟩ = some (.int .i64 a0_3) := (blk_cell BK101.out 3).trans rfl
              have hcz26_4 : wc.cell? ⟨gb101, 4, none⟩ = some (.int .i64 a0_4) := (blk_cell BK101.out 4).trans rfl
              have hcz26_5 : wc.cell? ⟨gb101, 5, none⟩ = some (.int .i64 a0_5) := (blk_cell BK101.out 5).trans rfl
              have hcz26_6 : wc.cell? ⟨gb101, 6, none⟩ = some (.int .i64 a0_6) := (blk_cell BK101.out 6).trans rfl
              have hcz26_7 : wc.cell? ⟨gb101, 7, none⟩ = some (.int .i64 a0_7) := (blk_cell BK101.out 7).trans rfl
              have hcz26_8 : wc.cell? ⟨gb101, 8, none⟩ = some (.int .i64 a0_8) := (blk_cell BK101.out 8).trans rfl
              have hcz26_9 : wc.cell? ⟨gb101, 9, none⟩ = some (.bool a0_9) := (blk_cell BK101.out 9).trans rfl
              have hcz26_10 : wc.cell? ⟨gb101, 10, none⟩ = some (.int .i64 a0_10) := (blk_cell BK101.out 10).trans rfl
              have hcz26_11 : wc.cell? ⟨gb101, 11, none⟩ = some (.slice A0_11 l0_11.length c0_11) := (blk_cell BK101.out 11).trans rfl
              have hcz26_12 : wc.cell? ⟨gb101, 12, none⟩ = some (.slice A0_12 l0_12.length c0_12) := (blk_cell BK101.out 12).trans rfl
              have hfz26_0 := blk_frozen BK101.out 0
              have hfz26_1 := blk_frozen BK101.out 1
              have hfz26_2 := blk_frozen BK101.out 2
              have hfz26_3 := blk_frozen BK101.out 3
              have hfz26_4 := blk_frozen BK101.out 4
              have hfz26_5 := blk_frozen BK101.out 5
              have hfz26_6 := blk_frozen BK101.out 6
              have hfz26_7 := blk_frozen BK101.out 7
              have hfz26_8 := blk_frozen BK101.out 8
              have hfz26_9 := blk_frozen BK101.out 9
              have hfz26_10 := blk_frozen BK101.out 10
              have hfz26_11 := blk_frozen BK101.out 11
              have hfz26_12 := blk_frozen BK101.out 12
              go_wp2_with (first | (go_at_call 56; (with_reducible refine (wire_within.calls a0_5 65535 true _ A23.out).mono ?_); rintro e w' ⟨rfl, ⟨nd, rfl⟩⟩) | (go_at_call 56; (with_reducible refine (wire_within.calls a0_6 65535 t108 _ A25.out).mono ?_); rintro e w' ⟨rfl, ⟨nd, rfl⟩⟩))
              go_meet
              case rel => exact ⟨_, (t108), (by first | rfl | (simp; done) | (simp [*]; done)), H', ⟨by have := HJ1.out; first | omega | exact Nat.le_refl _⟩, ⟨by (with_reducible repeat (first | refine blk_drewN ?_ _ | refine blk_drew ?_ | refine blk_alloc ?_ _)); exact BK101.out⟩, ⟨by repeat (first | (with_reducible first | exact HB.out | apply below_alloc | apply pw_below_drewN | apply below_drew1 | refine below_set ?_ GE101.out) | exact HB.out)⟩⟩
            · replace c24 := Bool.eq_false_iff.mpr c24
              subst c24
              have H1 : (wire_ranges.j1 kj1 false a0_0 a0_1 a0_2 a0_3 a0_4 a0_5 a0_6 a0_7 a0_8 a0_9 a0_10 l0_11 l0_12) = some r := by rw [if_neg (show ¬ (false = true) by decide)] at H; exact H
              clear H
              have H := H1
              clear H1
              have H' := Aside0.mk H
              clear H
              have hcz27_0 : wc.cell? ⟨gb101, 0, none⟩ = some (.int .i64 a0_0) := (blk_cell BK101.out 0).trans rfl
              have hcz27_1 : wc.cell? ⟨gb101, 1, none⟩ = some (.int .i64 a0_1) := (blk_cell BK101.out 1).trans rfl
              have hcz27_2 : wc.cell? ⟨gb101, 2, none⟩ = some (.int .i64 a0_2) := (blk_cell BK101.out 2).trans rfl
              have hcz27_3 : wc.cell? ⟨gb101, 3, none⟩ = some (.int .i64 a0_3) := (blk_cell BK101.out 3).trans rfl
              have hcz27_4 : wc.cell? ⟨gb101, 4, none⟩ = some (.int .i64 a0_4) := (blk_cell BK101.out 4).trans rfl
              have hcz27_5 : wc.cell? ⟨gb101, 5, none⟩ = some (.int .i64 a0_5) := (blk_cell BK101.out 5).trans rfl
              have hcz27_6 : wc.cell? ⟨gb101, 6, none⟩ = some (.int .i64 a0_6) := (blk_cell BK101.out 6).trans rfl
              have hcz27_7 : wc.cell? ⟨gb101, 7, none⟩ = some (.int .i64 a0_7) := (blk_cell BK101.out 7).trans rfl
              have hcz27_8 : wc.cell? ⟨gb101, 8, none⟩ = some (.int .i64 a0_8) := (blk_cell BK101.out 8).trans rfl
              have hcz27_9 : wc.cell? ⟨gb101, 9, none⟩ = some (.bool a0_9) := (blk_cell BK101.out 9).trans rfl
              have hcz27_10 : wc.cell? ⟨gb101, 10, none⟩ = some (.int .i64 a0_10) := (blk_cell BK101.out 10).trans rfl
              have hcz27_11 : wc.cell? ⟨gb101, 11, none⟩ = some (.slice A0_11 l0_11.length c0_11) := (blk_cell BK101.out 11).trans rfl
              have hcz27_12 : wc.cell? ⟨gb101, 12, none⟩ = some (.slice A0_12 l0_12.length c0_12) := (blk_cell BK101.out 12).trans rfl
              have hfz27_0 := blk_frozen BK101.out 0
              have hfz27_1 := blk_frozen BK101.out 1
              have hfz27_2 := blk_frozen BK101.out 2
              have hfz27_3 := blk_frozen BK101.out 3
              have hfz27_4 := blk_frozen BK101.out 4
              have hfz27_5 := blk_frozen BK101.out 5
              have hfz27_6 := blk_frozen BK101.out 6
              have hfz27_7 := blk_frozen BK101.out 7
              have hfz27_8 := blk_frozen BK101.out 8
              have hfz27_9 := blk_frozen BK101.out 9
              have hfz27_10 := blk_frozen BK101.out 10
              have hfz27_11 := blk_frozen BK101.out 11
              have hfz27_12 := blk_frozen BK101.out 12
              go_wp2_with (first | (go_at_call 56; (with_reducible refine (wire_within.calls a0_5 65535 false _ A23.out).mono ?_); rintro e w' ⟨rfl, ⟨nd, rfl⟩⟩))
              go_meet
              case rel => exact ⟨_, (false), (by first | rfl | (simp; done) | (simp [*]; done)), H', ⟨by have := HJ1.out; first | omega | exact Nat.le_refl _⟩, ⟨by (with_reducible repeat (first | refine blk_drewN ?_ _ | refine blk_drew ?_ | refine blk_alloc ?_ _)); exact BK101.out⟩, ⟨by repeat (first | (with_reducible first | exact HB.out | apply below_alloc | apply pw_below_drewN | apply below_drew1 | refine below_set ?_ GE101.out) | exact HB.out)⟩⟩
          · replace c22 := Bool.eq_false_iff.mpr c22
            subst c22
            have H1 : (wire_ranges.j1 kj1 false a0_0 a0_1 a0_2 a0_3 a0_4 a0_5 a0_6 a0_7 a0_8 a0_9 a0_10 l0_11 l0_12) = some r := by rw [if_neg (show ¬ (false = true) by decide)] at H; exact H
            clear H
            have H := H1
            clear H1
            have H' := Aside0.mk H
            clear H
            go_wp2
            go_meet
            case rel => exact ⟨_, (false), (by first | rfl | (simp; done) | (simp [*]; done)), H', ⟨by have := HJ1.out; first | omega | exact Nat.le_refl _⟩, ⟨by (with_reducible repeat (first | refine blk_drewN ?_ _ | refine blk_drew ?_ | refine blk_alloc ?_ _)); exact BK101.out⟩, ⟨by repeat (first | (with_reducible first | exact HB.out | apply below_alloc | apply pw_below_drewN | apply below_drew1 | refine below_set ?_ GE101.out) | exact HB.out)⟩⟩
        case rest =>
          clear HC20
          try clear c1
          try clear c2
          try clear p2
          try clear c3
          try clear c5
          try clear c7
          try clear c9
          try clear c15
          try clear c15b0
          try clear c15b1
          try clear c16
          try clear c22
          try clear c24
          try clear hcz11_0
          try clear hcz11_1
          try clear hcz11_10
          try clear hcz11_11
          try clear hcz11_12
          try clear hcz11_2
          try clear hcz11_3
          try clear hcz11_4
          try clear hcz11_5
          try clear hcz11_6
          try clear hcz11_7
          try clear hcz11_8
          try clear hcz11_9
          try clear hcz12_0
          try clear hcz12_1
          try clear hcz12_10
          try clear hcz12_11
          try clear hcz12_12
          try clear hcz12_2
          try clear hcz12_3
          try clear hcz12_4
          try clear hcz12_5
          try clear hcz12_6
          try clear hcz12_7
          try clear hcz12_8
          try clear hcz12_9
          try clear hcz13_0
          try clear hcz13_1
          try clear hcz13_10
          try clear hcz13_11
          try clear hcz13_12
          try clear hcz13_2
          try clear hcz13_3
          try clear hcz13_4
          try clear hcz13_5
          try clear hcz13_6
          try clear hcz13_7
          try clear hcz13_8
          try clear hcz13_9
          try clear hcz14_0
          try clear hcz14_1
          try clear hcz14_10
          try clear hcz14_11
          try clear hcz14_12
          try clear hcz14_2
          try clear hcz14_3
          try clear hcz14_4
          try clear hcz14_5
          try clear hcz14_6
          try clear hcz14_7
          try clear hcz14_8
          try clear hcz14_9
          try clear hcz18_0
          try clear hcz18_1
          try clear hcz18_10
          try clear hcz18_11
          try clear hcz18_12
          try clear hcz18_2
          try clear hcz18_3
          try clear hcz18_4
          try clear hcz18_5
          try clear hcz18_6
          try clear hcz18_7
          try clear hcz18_8
          try clear hcz18_9
          try clear hcz19_0
          try clear hcz19_1
          try clear hcz19_10
          try clear hcz19_11
          try clear hcz19_12
          try clear hcz19_2
          try clear hcz19_3
          try clear hcz19_4
          try clear hcz19_5
          try clear hcz19_6
          try clear hcz19_7
          try clear hcz19_8
          try clear hcz19_9
          try clear hcz21_0
          try clear hcz21_1
          try clear hcz21_10
          try clear hcz21_11
          try clear hcz21_12
          try clear hcz21_2
          try clear hcz21_3
          try clear hcz21_4
          try clear hcz21_5
          try clear hcz21_6
          try clear hcz21_7
          try clear hcz21_8
          try clear hcz21_9
          try clear hcz26_0
          try clear hcz26_1
          try clear hcz26_10
          try clear hcz26_11
          try clear hcz26_12
          try clear hcz26_2
          try clear hcz26_3
          try clear hcz26_4
          try clear hcz26_5
          try clear hcz26_6
          try clear hcz26_7
          try clear hcz26_8
          try clear hcz26_9
          try clear hcz27_0
          try clear hcz27_1
          try clear hcz27_10
          try clear hcz27_11
          try clear hcz27_12
          try clear hcz27_2
          try clear hcz27_3
          try clear hcz27_4
          try clear hcz27_5
          try clear hcz27_6
          try clear hcz27_7
          try clear hcz27_8
          try clear hcz27_9
          try clear hfz11_0
          try clear hfz11_1
          try clear hfz11_10
          try clear hfz11_11
          try clear hfz11_12
          try clear hfz11_2
          try clear hfz11_3
          try clear hfz11_4
          try clear hfz11_5
          try clear hfz11_6
          try clear hfz11_7
          try clear hfz11_8
          try clear hfz11_9
          try clear hfz12_0
          try clear hfz12_1
          try clear hfz12_10
          try clear hfz12_11
          try clear hfz12_12
          try clear hfz12_2
          try clear hfz12_3
          try clear hfz12_4
          try clear hfz12_5
          try clear hfz12_6
          try clear hfz12_7
          try clear hfz12_8
          try clear hfz12_9
          try clear hfz13_0
          try clear hfz13_1
          try clear hfz13_10
          try clear hfz13_11
          try clear hfz13_12
          try clear hfz13_2
          try clear hfz13_3
          try clear hfz13_4
          try clear hfz13_5
          try clear hfz13_6
          try clear hfz13_7
          try clear hfz13_8
          try clear hfz13_9
          try clear hfz14_0
          try clear hfz14_1
          try clear hfz14_10
          try clear hfz14_11
          try clear hfz14_12
          try clear hfz14_2
          try clear hfz14_3
          try clear hfz14_4
          try clear hfz14_5
          try clear hfz14_6
          try clear hfz14_7
          try clear hfz14_8
          try clear hfz14_9
          try clear hfz18_0
          try clear hfz18_1
          try clear hfz18_10
          try clear hfz18_11
          try clear hfz18_12
          try clear hfz18_2
          try clear hfz18_3
          try clear hfz18_4
          try clear hfz18_5
          try clear hfz18_6
          try clear hfz18_7
          try clear hfz18_8
          try clear hfz18_9
          try clear hfz19_0
          try clear hfz19_1
          try clear hfz19_10
          try clear hfz19_11
          try clear hfz19_12
          try clear hfz19_2
          try clear hfz19_3
          try clear hfz19_4
          try clear hfz19_5
          try clear hfz19_6
          try clear hfz19_7
          try clear hfz19_8
          try clear hfz19_9
          try clear hfz21_0
          try clear hfz21_1
          try clear hfz21_10
          try clear hfz21_11
          try clear hfz21_12
          try clear hfz21_2
          try clear hfz21_3
          try clear hfz21_4
          try clear hfz21_5
          try clear hfz21_6
          try clear hfz21_7
          try clear hfz21_8
          try clear hfz21_9
          try clear hfz26_0
          try clear hfz26_1
          try clear hfz26_10
          try clear hfz26_11
          try clear hfz26_12
          try clear hfz26_2
          try clear hfz26_3
          try clear hfz26_4
          try clear hfz26_5
          try clear hfz26_6
          try clear hfz26_7
          try clear hfz26_8
          try clear hfz26_9
          try clear hfz27_0
          try clear hfz27_1
          try clear hfz27_10
          try clear hfz27_11
          try clear hfz27_12
          try clear hfz27_2
          try clear hfz27_3
          try clear hfz27_4
          try clear hfz27_5
          try clear hfz27_6
          try clear hfz27_7
          try clear hfz27_8
          try clear hfz27_9
          try clear p2
          obtain ⟨kq, x3_19, rfl, HA, HJ19, BK101, HB⟩ := hcut
          cases kq with
          | zero => exact absurd HA.out (by simp [wire_ranges.j1])
          | succ kj19 =>
            have H := HA.out
            clear HA
            simp only [wire_ranges.j1] at H
            by_cases c28 : a0_0 = 2
            · rw [if_pos c28] at H
              have c28b0 : (a0_0 == 2) = true := beq_iff_eq.mpr c28
              have c28b1 : (a0_0 != 2) = false := bne_eq_false_iff_eq.mpr c28
              clear c28
              by_cases c29 : x3_19 = true
              · subst c29
                have H1 : ((wire_within.f a0_8 65535).bind fun t109 => (some t109)) = some r := by rw [if_pos rfl] at H; exact H
                clear H
                have H := H1
                clear H1
                replace H := Option.bind_eq_some_iff.mp H
                obtain ⟨t109, A300, H⟩ := H
                replace H : (some t109) = some r := H
                have A30 := Aside0.mk A300
                clear A300
                obtain rfl := Option.some.inj H
                have hcz31_0 : wc.cell? ⟨gb101, 0, none⟩ = some (.int .i64 a0_0) := (blk_cell BK101.out 0).trans rfl
                have hcz31_1 : wc.cell? ⟨gb101, 1, none⟩ = some (.int .i64 a0_1) := (blk_cell BK101.out 1).trans rfl
                have hcz31_2 : wc.cell? ⟨gb101, 2, none⟩ = some (.int .i64 a0_2) := (blk_cell BK101.out 2).trans rfl
                have hcz31_3 : wc.cell? ⟨gb101, 3, none⟩ = some (.int .i64 a0_3) := (blk_cell BK101.out 3).trans rfl
                have hcz31_4 : wc.cell? ⟨gb101, 4, none⟩ = some (.int .i64 a0_4) := (blk_cell BK101.out 4).trans rfl
                have hcz31_5 : wc.cell? ⟨gb101, 5, none⟩ = some (.int .i64 a0_5) := (blk_cell BK101.out 5).trans rfl
                have hcz31_6 : wc.cell? ⟨gb101, 6, none⟩ = some (.int .i64 a0_6) := (blk_cell BK101.out 6).trans rfl
                have hcz31_7 : wc.cell? ⟨gb101, 7, none⟩ = some (.int .i64 a0_7) := (blk_cell BK101.out 7).trans rfl
                have hcz31_8 : wc.cell? ⟨gb101, 8, none⟩ = some (.int .i64 a0_8) := (blk_cell BK101.out 8).trans rfl
                have hcz31_9 : wc.cell? ⟨gb101, 9, none⟩ = some (.bool a0_9) := (blk_cell BK101.out 9).trans rfl
                have hcz31_10 : wc.cell? ⟨gb101, 10, none⟩ = some (.int .i64 a0_10) := (blk_cell BK101.out 10).trans rfl
                have hcz31_11 : wc.cell? ⟨gb101, 11, none⟩ = some (.slice A0_11 l0_11.length c0_11) := (blk_cell BK101.out 11).trans rfl
                have hcz31_12 : wc.cell? ⟨gb101, 12, none⟩ = some (.slice A0_12 l0_12.length c0_12) := (blk_cell BK101.out 12).trans rfl
                have hfz31_0 := blk_frozen BK101.out 0
                have hfz31_1 := blk_frozen BK101.out 1
                have hfz31_2 := blk_frozen BK101.out 2
                have hfz31_3 := blk_frozen BK101.out 3
                have hfz31_4 := blk_frozen BK101.out 4
                have hfz31_5 := blk_frozen BK101.out 5
                have hfz31_6 := blk_frozen BK101.out 6
                have hfz31_7 := blk_frozen BK101.out 7
                have hfz31_8 := blk_frozen BK101.out 8
                have hfz31_9 := blk_frozen BK101.out 9
                have hfz31_10 := blk_frozen BK101.out 10
                have hfz31_11 := blk_frozen BK101.out 11
                have hfz31_12 := blk_frozen BK101.out 12
                go_wp2_with (first | (go_at_call 56; (with_reducible refine (wire_within.calls a0_8 65535 t109 _ A30.out).mono ?_); rintro e w' ⟨rfl, ⟨nd, rfl⟩⟩))
                go_ret
                exact ⟨by first | rfl | (simp [errW_none, errW_some] <;> rfl) | (simp [*, errW_none, errW_some] <;> rfl), by repeat (first | (with_reducible first | exact HB.out | apply below_alloc | apply pw_below_drewN | apply below_drew1 | refine below_set ?_ GE101.out) | exact HB.out)⟩
              · replace c29 := Bool.eq_false_iff.mpr c29
                subst c29
                have H1 : (some false) = some r := by rw [if_neg (show ¬ (false = true) by decide)] at H; exact H
                clear H
                have H := H1
                clear H1
                obtain rfl := Option.some.inj H
                have hcz32_0 : wc.cell? ⟨gb101, 0, none⟩ = some (.int .i64 a0_0) := (blk_cell BK101.out 0).trans rfl
                have hcz32_1 : wc.cell? ⟨gb101, 1, none⟩ = some (.int .i64 a0_1) := (blk_cell BK101.out 1).trans rfl
                have hcz32_2 : wc.cell? ⟨gb101, 2, none⟩ = some (.int .i64 a0_2) := (blk_cell BK101.out 2).trans rfl
                have hcz32_3 : wc.cell? ⟨gb101, 3, none⟩ = some (.int .i64 a0_3) := (blk_cell BK101.out 3).trans rfl
                have hcz32_4 : wc.cell? ⟨gb101, 4, none⟩ = some (.int .i64 a0_4) := (blk_cell BK101.out 4).trans rfl
                have hcz32_5 : wc.cell? ⟨gb101, 5, none⟩ = some (.int .i64 a0_5) := (blk_cell BK101.out 5).trans rfl
                have hcz32_6 : wc.cell? ⟨gb101, 6, none⟩ = some (.int .i64 a0_6) := (blk_cell BK101.out 6).trans rfl
                have hcz32_7 : wc.cell? ⟨gb101, 7, none⟩ = some (.int .i64 a0_7) := (blk_cell BK101.out 7).trans rfl
                have hcz32_8 : wc.cell? ⟨gb101, 8, none⟩ = some (.int .i64 a0_8) := (blk_cell BK101.out 8).trans rfl
                have hcz32_9 : wc.cell? ⟨gb101, 9, none⟩ = some (.bool a0_9) := (blk_cell BK101.out 9).trans rfl
                have hcz32_10 : wc.cell? ⟨gb101, 10, none⟩ = some (.int .i64 a0_10) := (blk_cell BK101.out 10).trans rfl
                have hcz32_11 : wc.cell? ⟨gb101, 11, none⟩ = some (.slice A0_11 l0_11.length c0_11) := (blk_cell BK101.out 11).trans rfl
                have hcz32_12 : wc.cell? ⟨gb101, 12, none⟩ = some (.slice A0_12 l0_12.length c0_12) := (blk_cell BK101.out 12).trans rfl
                have hfz32_0 := blk_frozen BK101.out 0
                have hfz32_1 := blk_frozen BK101.out 1
                have hfz32_2 := blk_frozen BK101.out 2
                have hfz32_3 := blk_frozen BK101.out 3
                have hfz32_4 := blk_frozen BK101.out 4
                have hfz32_5 := blk_frozen BK101.out 5
                have hfz32_6 := blk_frozen BK101.out 6
                have hfz32_7 := blk_frozen BK101.out 7
                have hfz32_8 := blk_frozen BK101.out 8
                have hfz32_9 := blk_frozen BK101.out 9
                have hfz32_10 := blk_frozen BK101.out 10
                have hfz32_11 := blk_frozen BK101.out 11
                have hfz32_12 := blk_frozen BK101.out 12
                go_wp2
                go_ret
                exact ⟨by first | rfl | (simp [errW_none, errW_some] <;> rfl) | (simp [*, errW_none, errW_some] <;> rfl), by repeat (first | (with_reducible first | exact HB.out | apply below_alloc | apply pw_below_drewN | apply below_drew1 | refine below_set ?_ GE101.out) | exact HB.out)⟩
            · rw [if_neg c28] at H
              have c28b0 : (a0_0 == 2) = false := beq_eq_false_iff_ne.mpr c28
              have c28b1 : (a0_0 != 2) = true := bne_iff_ne.mpr c28
              by_cases c33 : x3_19 = true
              · subst c33
                have H1 : ((wire_within.f a0_7 15).bind fun t110 => (some t110)) = some r := by rw [if_pos rfl] at H; exact H
                clear H
                have H := H1
                clear H1
                replace H := Option.bind_eq_some_iff.mp H
                obtain ⟨t110, A340, H⟩ := H
                replace H : (some t110) = some r := H
                have A34 := Aside0.mk A340
                clear A340
                obtain rfl := Option.some.inj H
                have hcz35_0 : wc.cell? ⟨gb101, 0, none⟩ = some (.int .i64 a0_0) := (blk_cell BK101.out 0).trans rfl
                have hcz35_1 : wc.cell? ⟨gb101, 1, none⟩ = some (.int .i64 a0_1) := (blk_cell BK101.out 1).trans rfl
                have hcz35_2 : wc.cell? ⟨gb101, 2, none⟩ = some (.int .i64 a0_2) := (blk_cell BK101.out 2).trans rfl
                have hcz35_3 : wc.cell? ⟨gb101, 3, none⟩ = some (.int .i64 a0_3) := (blk_cell BK101.out 3).trans rfl
                have hcz35_4 : wc.cell? ⟨gb101, 4, none⟩ = some (.int .i64 a0_4) := (blk_cell BK101.out 4).trans rfl
                have hcz35_5 : wc.cell? ⟨gb101, 5, none⟩ = some (.int .i64 a0_5) := (blk_cell BK101.out 5).trans rfl
                have hcz35_6 : wc.cell? ⟨gb101, 6, none⟩ = some (.int .i64 a0_6) := (blk_cell BK101.out 6).trans rfl
                have hcz35_7 : wc.cell? ⟨gb101, 7, none⟩ = some (.int .i64 a0_7) := (blk_cell BK101.out 7).trans rfl
                have hcz35_8 : wc.cell? ⟨gb101, 8, none⟩ = some (.int .i64 a0_8) := (blk_cell BK101.out 8).trans rfl
                have hcz35_9 : wc.cell? ⟨gb101, 9, none⟩ = some (.bool a0_9) := (blk_cell BK101.out 9).trans rfl
                have hcz35_10 : wc.cell? ⟨gb101, 10, none⟩ = some (.int .i64 a0_10) := (blk_cell BK101.out 10).trans rfl
                have hcz35_11 : wc.cell? ⟨gb101, 11, none⟩ = some (.slice A0_11 l0_11.length c0_11) := (blk_cell BK101.out 11).trans rfl
                have hcz35_12 : wc.cell? ⟨gb101, 12, none⟩ = some (.slice A0_12 l0_12.length c0_12) := (blk_cell BK101.out 12).trans rfl
                have hfz35_0 := blk_frozen BK101.out 0
                have hfz35_1 := blk_frozen BK101.out 1
                have hfz35_2 := blk_frozen BK101.out 2
                have hfz35_3 := blk_frozen BK101.out 3
                have hfz35_4 := blk_frozen BK101.out 4
                have hfz35_5 := blk_frozen BK101.out 5
                have hfz35_6 := blk_frozen BK101.out 6
                have hfz35_7 := blk_frozen BK101.out 7
                have hfz35_8 := blk_frozen BK101.out 8
                have hfz35_9 := blk_frozen BK101.out 9
                have hfz35_10 := blk_frozen BK101.out 10
                have hfz35_11 := blk_frozen BK101.out 11
                have hfz35_12 := blk_frozen BK101.out 12
                go_wp2_with (first | (go_at_call 56; (with_reducible refine (wire_within.calls a0_7 15 t110 _ A34.out).mono ?_); rintro e w' ⟨rfl, ⟨nd, rfl⟩⟩))
                go_ret
                exact ⟨by first | rfl | (simp [errW_none, errW_some] <;> rfl) | (simp [*, errW_none, errW_some] <;> rfl), by repeat (first | (with_reducible first | exact HB.out | apply below_alloc | apply pw_below_drewN | apply below_drew1 | refine below_set ?_ GE101.out) | exact HB.out)⟩
              · replace c33 := Bool.eq_false_iff.mpr c33
                subst c33
                have H1 : (some false) = some r := by rw [if_neg (show ¬ (false = true) by decide)] at H; exact H
                clear H
                have H := H1
                clear H1
                obtain rfl := Option.some.inj H
                have hcz36_0 : wc.cell? ⟨gb101, 0, none⟩ = some (.int .i64 a0_0) := (blk_cell BK101.out 0).trans rfl
                have hcz36_1 : wc.cell? ⟨gb101, 1, none⟩ = some (.int .i64 a0_1) := (blk_cell BK101.out 1).trans rfl
                have hcz36_2 : wc.cell? ⟨gb101, 2, none⟩ = some (.int .i64 a0_2) := (blk_cell BK101.out 2).trans rfl
                have hcz36_3 : wc.cell? ⟨gb101, 3, none⟩ = some (.int .i64 a0_3) := (blk_cell BK101.out 3).trans rfl
                have hcz36_4 : wc.cell? ⟨gb101, 4, none⟩ = some (.int .i64 a0_4) := (blk_cell BK101.out 4).trans rfl
                have hcz36_5 : wc.cell? ⟨gb101, 5, none⟩ = some (.int .i64 a0_5) := (blk_cell BK101.out 5).trans rfl
                have hcz36_6 : wc.cell? ⟨gb101, 6, none⟩ = some (.int .i64 a0_6) := (blk_cell BK101.out 6).trans rfl
                have hcz36_7 : wc.cell? ⟨gb101, 7, none⟩ = some (.int .i64 a0_7) := (blk_cell BK101.out 7).trans rfl
                have hcz36_8 : wc.cell? ⟨gb101, 8, none⟩ = some (.int .i64 a0_8) := (blk_cell BK101.out 8).trans rfl
                have hcz36_9 : wc.cell? ⟨gb101, 9, none⟩ = some (.bool a0_9) := (blk_cell BK101.out 9).trans rfl
                have hcz36_10 : wc.cell? ⟨gb101, 10, none⟩ = some (.int .i64 a0_10) := (blk_cell BK101.out 10).trans rfl
                have hcz36_11 : wc.cell? ⟨gb101, 11, none⟩ = some (.slice A0_11 l0_11.length c0_11) := (blk_cell BK101.out 11).trans rfl
                have hcz36_12 : wc.cell? ⟨gb101, 12, none⟩ = some (.slice A0_12 l0_12.length c0_12) := (blk_cell BK101.out 12).trans rfl
                have hfz36_0 := blk_frozen BK101.out 0
                have hfz36_1 := blk_frozen BK101.out 1
                have hfz36_2 := blk_frozen BK101.out 2
                have hfz36_3 := blk_frozen BK101.out 3
                have hfz36_4 := blk_frozen BK101.out 4
                have hfz36_5 := blk_frozen BK101.out 5
                have hfz36_6 := blk_frozen BK101.out 6
                have hfz36_7 := blk_frozen BK101.out 7
                have hfz36_8 := blk_frozen BK101.out 8
                have hfz36_9 := blk_frozen BK101.out 9
                have hfz36_10 := blk_frozen BK101.out 10
                have hfz36_11 := blk_frozen BK101.out 11
                have hfz36_12 := blk_frozen BK101.out 12
                go_wp2
                go_ret
                exact ⟨by first | rfl | (simp [errW_none, errW_some] <;> rfl) | (simp [*, errW_none, errW_some] <;> rfl), by repeat (first | (with_reducible first | exact HB.out | apply below_alloc | apply pw_below_drewN | apply below_drew1 | refine below_set ?_ GE101.out) | exact HB.out)⟩

end Go.Proofs.Ytbjhmifhmojaoaa.Hp

namespace Go.Proofs.Ytbjhmifhmojaoaa.Hp
open Go.RowKit Go.Proofs.YtbjhmifhmojaoaaW.PrintWords Go.Proofs.YtbjhmifhmojaoaaW.PrintLast Go.Proofs.YtbjhmifhmojaoaaW.PrintMore
set_option linter.unusedVariables false
set_option linter.unusedSimpArgs false
def wire_put.l0 : Nat → List Int → Int → Int → Int → Option (List Int)
  | 0, _, _, _, _ => none
  | k + 1, x0, x1, x3, x8 => if x8 ≥ 0 then (if 0 ≤ (wrap64 (x1 + x8)) then (if (wrap64 (x1 + x8)) < (x0.length : Int) then (wire_put.l0 k (x0.set ((wrap64 (x1 + x8)) : Int).toNat ((x3) % 256)) x1 (x3 / 256) (wrap64 (x8 - 1))) else (none)) else (none)) else (some x0)
def wire_put.f (k : Nat) (l0 : List Int) (a1 : Int) (a2 : Int) (a3 : Int) : Option (List Int) := wire_put.l0 k l0 a1 a3 (wrap64 (a2 - 1))
theorem wire_put.mono_l : ∀ k, (∀ y0 y1 y2 y3, LeO (wire_put.l0 k y0 y1 y2 y3) (wire_put.l0 (k + 1) y0 y1 y2 y3))
  | 0 => fun _ _ _ _ r h => by simp [wire_put.l0] at h
  | k + 1 => by
    have ih0 := wire_put.mono_l k
    · intro y0 y1 y2 y3
      unfold wire_put.l0
      repeat' first
      | (with_reducible exact ih0 _ _ _ _)
      | (with_reducible exact LeO.refl _)
      | (with_reducible exact LeO.none _)
      | (with_reducible refine LeO.ite ?_ ?_)
      | (with_reducible refine LeO.bind ?_ (fun _ => ?_))
      | exact ih0 _ _ _ _
      | exact LeO.none _
      | refine LeO.ite ?_ ?_
      | refine LeO.bind ?_ (fun _ => ?_)
theorem wire_put.mono : ∀ a0 a1 a2 a3 k, LeO (wire_put.f k a0 a1 a2 a3) (wire_put.f (k + 1) a0 a1 a2 a3) := by
  intro a0 a1 a2 a3 k
  have ih0 := wire_put.mono_l k
  unfold wire_put.f
  repeat' first
      | (with_reducible exact ih0 _ _ _ _)
      | (with_reducible exact LeO.refl _)
      | (with_reducible exact LeO.none _)
      | (with_reducible refine LeO.ite ?_ ?_)
      | (with_reducible refine LeO.bind ?_ (fun _ => ?_))
      | exact ih0 _ _ _ _
      | exact LeO.none _
      | refine LeO.ite ?_ ?_
      | refine LeO.bind ?_ (fun _ => ?_)
set_option maxHeartbeats 8000000 in
set_option maxRecDepth 100000 in
theorem wire_put.calls (k : Nat) (P0_ : Nat → Prop) (u9000_ : Value) (l0 : List Int) (a1 : Int) (a2 : Int) (a3 : Int) (r : List Int) (w0 w : World) (hB : Below w0.heap.size w0 w) (ho0 : Kd.R (Kd.int .u8) 5 w w0.heap.size P0_ u9000_ l0) (h : wire_put.f k l0 a1 a2 a3 = some r) :
    Calls Try.prog 36 #[u9000_, .int .i64 a1, .int .i64 a2, .int .i64 a3] w fun e w' => e = .returned (.tuple #[]) ∧ Kd.R (Kd.int .u8) 5 w' w0.heap.size (fun k_ => (P0_ k_ ∨ w.heap.size ≤ k_)) u9000_ r ∧ Below w0.heap.size w0 w' ∧ Kept w w' (fun k_ => P0_ k_) := by
  have HO0 := Aside0.mk (show Kd.R (Kd.int .u8) 5 w w0.heap.size (fun k_ => (P0_ k_ ∨ w.heap.size ≤ k_)) u9000_ l0 from Kd.R_mono ho0 (fun k_ hk => (.inl hk)))
  have HK := Aside0.mk (Kept.refl w (fun k_ => P0_ k_))
  have HW0 := Aside0.mk hB.size
  have HB := Aside0.mk hB
  clear hB
  have H : (wire_put.l0 k l0 a1 a3 (wrap64 (a2 - 1))) = some r := h
  clear h
  have H' := Aside0.mk H
  clear H
  go_enter Try.func36, Try.ntmps36
  go_wp2
  go_loopg [3, 8] k (fun kq v3 v8 w' => ∃ (x0_1 : List Int) (x3_1 : Int) (x8_1 : Int), v3 = .int .i64 x3_1 ∧ v8 = .int .i64 x8_1 ∧ Aside0 (wire_put.l0 kq x0_1 a1 x3_1 x8_1 = some r) ∧ Aside0 (kq ≤ k) ∧ Aside0 (Kd.R (Kd.int .u8) 5 w' w0.heap.size (fun k_ => (P0_ k_ ∨ w.heap.size ≤ k_)) u9000_ x0_1) ∧ Aside0 (Kept w w' (fun k_ => P0_ k_)) ∧ Aside0 (Below w0.heap.size w0 w'))
  case atStart => exact ⟨(l0), (a3), (wrap64 (a2 - 1)), (by first | rfl | (simp; done) | (simp [*]; done)), (by first | rfl | (simp; done) | (simp [*]; done)), H', ⟨Nat.le_refl _⟩, ⟨by (with_reducible repeat (first | apply Kd.R_alloc | apply Kd.R_drewN | apply Kd.R_drew)); exact HO0.out⟩, ⟨by repeat (first | (with_reducible first | exact HK.out | apply Kept.alloc | apply Kept.drewN | apply Kept.drew) | exact HK.out)⟩, ⟨by repeat (first | (with_reducible first | exact HB.out | apply below_alloc | apply pw_below_drewN | apply below_drew1) | exact HB.out)⟩⟩
  case round =>
    clear H'
    try clear p2
    try clear c3
    obtain ⟨x0_1, x3_1, x8_1, rfl, rfl, HA, HK1, HO_0, HK, HB⟩ := hrel
    cases gk with
    | zero => exact absurd HA.out (by simp [wire_put.l0])
    | succ k1 =>
      have H := HA.out
      clear HA
      simp only [wire_put.l0] at H
      by_cases c5 : x8_1 ≥ 0
      · rw [if_pos c5] at H
        have c5b0 : decide (0 ≤ x8_1) = true := decide_eq_true c5
        clear c5
        obtain ⟨ji6, hji6⟩ : ∃ j_ : Int, (wrap64 (a1 + x8_1)) = j_ := ⟨_, rfl⟩
        replace H : (if 0 ≤ (ji6) then (if (ji6) < (x0_1.length : Int) then (wire_put.l0 k1 (x0_1.set ((ji6) : Int).toNat ((x3_1) % 256)) a1 (x3_1 / 256) (wrap64 (x8_1 - 1))) else (none)) else (none)) = some r := by first | (rw [hji6] at H; exact H) | (simp only [hji6] at H ⊢; exact H)
        have hji6w : (IntKind.i64.wrap (a1 + x8_1)) = ji6 := (i64_w _).trans hji6
        by_cases c7 : 0 ≤ (ji6)
        · rw [if_pos c7] at H
          have c7b0 : decide (0 ≤ (ji6)) = true := decide_eq_true c7
          clear c7
          by_cases c8 : (ji6) < (x0_1.length : Int)
          · rw [if_pos c8] at H
            have c8b0 : decide ((ji6) < (x0_1.length : Int)) = true := decide_eq_true c8
            clear c8
            obtain ⟨y111, hy111⟩ : ∃ y_ : List Int, y_ = (x0_1.set ((ji6) : Int).toNat ((x3_1) % 256)) := ⟨_, rfl⟩
            replace H : (wire_put.l0 k1 y111 a1 (x3_1 / 256) (wrap64 (x8_1 - 1))) = some r := by first | (rw [hy111]; with_reducible exact H) | (have H2_ := (Option.bind_some _ _).symm.trans H; rw [hy111]; with_reducible exact H2_) | (have H2_ := (Option.bind_some _ _).symm.trans H; with_reducible exact H2_) | with_reducible exact H | (rw [hy111]; exact H) | exact H
            have Ny111 := Aside0.mk hy111
            clear hy111
            have H' := Aside0.mk H
            clear H
            have p9 : 0 ≤ ((ji6) : Int) := of_decide_eq_true (by first | (with_reducible assumption) | assumption)
            have q9 : ((ji6) : Int) < ((x0_1.length : Int) : Int) := of_decide_eq_true (by first | (with_reducible assumption) | assumption)
            obtain ⟨go9, co9, eo9, gb9, gl9, cl9, HG9⟩ := Kd.R_form HO_0.out (by omega)
            (first | cases eo9 | (injection eo9 with ea_ en_ ec_; (first | subst ea_ | (injection ea_ with ea_; subst ea_)); subst ec_; clear en_))
            have GB9 := Aside0.mk gb9
            have GG9 := Aside0.mk HG9
            clear gb9 gl9 HG9
            have HMgo9 := Aside0.mk (show (P0_ go9 ∨ w.heap.size ≤ go9) from (HO_0.out.1 _ rfl))
            obtain ⟨hx9_0, hf9_0⟩ := Kd.R_celln 0 HO_0.out ((ji6) : Int) p9 q9
            replace p9 := eq_true p9
            replace q9 := eq_true q9
            have HP10 := Kd.R_putg HO_0.out ((ji6) : Int) ((x3_1) % 256)
            go_wp2_with (first | ((with_reducible refine gate_store (t := 5) (p := 21) rfl ?_); refine store_event (t := 5) (p := 21) (v := ?vo_w11) (w1 := (wr.setCell ⟨go9, ((ji6) : Int).toNat, none⟩ (.int .u8 ((x3_1) % 256)))) ?hg ?ho ?hn ?hr ?_; (case ho => rfl); (case hg => rfl); (case hn => rfl); (case hr => first | (go_simp; done) | (go_simp; rfl)); intro w11 hw; have hg : wr.grownBy w11 (some go9) := (by rw [hw]; exact HP10.2); have hp_ : Kd.R (Kd.int .u8) 5 w11 w0.heap.size (fun k_ => (P0_ k_ ∨ w.heap.size ≤ k_)) (.slice (some ⟨go9, 0, none⟩) x0_1.length co9) y111 := (by rw [hw, Ny111.out]; exact HP10.1); clear HP10; have n0_ := Aside0.mk (hp_); have n1_ := Aside0.mk ((by rw [hw]; exact below_set (HB.out) GB9.out : Below w0.heap.size w0 w11)); have n2_ := Aside0.mk (Kept.of_grown (S := (fun k_ => P0_ k_)) hg (by repeat (first | (with_reducible first | exact HK.out | apply Kept.alloc | apply Kept.drewN | apply Kept.drew) | exact HK.out)) (fun k_ e_ => (HO_0.out.1 k_ e_))); clear HO_0; clear HB; clear HK; have HO_0 := n0_; have HB := n1_; have HK := n2_; clear n0_ n1_ n2_; clear hg hw hp_))
            go_roundg k1
            case measure => have := HK1.out; omega
            case rel => exact ⟨(y111), (x3_1 / 256), (wrap64 (x8_1 - 1)), (by first | rfl | (simp; done) | (simp [*]; done)), (by first | rfl | (simp; done) | (simp [*]; done)), H', ⟨by have := HK1.out; omega⟩, ⟨by (with_reducible repeat (first | apply Kd.R_alloc | apply Kd.R_drewN | apply Kd.R_drew)); exact HO_0.out⟩, ⟨by repeat (first | (with_reducible first | exact HK.out | apply Kept.alloc | apply Kept.drewN | apply Kept.drew) | exact HK.out)⟩, ⟨by repeat (first | (with_reducible first | exact HB.out | apply below_alloc | apply pw_below_drewN | apply below_drew1) | exact HB.out)⟩⟩
          · rw [if_neg c8] at H
            exact absurd H (by simp)
        · rw [if_neg c7] at H
          exact absurd H (by simp)
      · rw [if_neg c5] at H
        have c5b0 : decide (0 ≤ x8_1) = false := decide_eq_false c5
        clear c5
        obtain rfl := Option.some.inj H
        go_wp2
        first | go_end0 | ((try simp only [Exit.inBlock, Exit.then]); refine bodyPost_ret (results_none rfl _ _ _) rfl ?_)
        exact ⟨by first | rfl | (simp [errW_none, errW_some] <;> rfl) | (simp [*, errW_none, errW_some] <;> rfl), by (with_reducible repeat (first | apply Kd.R_alloc | apply Kd.R_drewN | apply Kd.R_drew)); exact HO_0.out, by repeat (first | (with_reducible first | exact HB.out | apply below_alloc | apply pw_below_drewN | apply below_drew1) | exact HB.out), by repeat (first | (with_reducible first | exact HK.out | apply Kept.alloc | apply Kept.drewN | apply Kept.drew) | exact HK.out)⟩

def sum_Plus.f (a0 : Int) (a1 : Int) : Option (Int) := some (wrap64 ((Go.bits .and .i64 (wrap64 (a0 + a1)) 65535) + (Go.bits .and .i64 ((wrap64 (a0 + a1)) / 65536) 65535)))
set_option maxHeartbeats 8000000 in
set_option maxRecDepth 100000 in
theorem sum_Plus.calls (a0 : Int) (a1 : Int) (r : Int) (w : World) (h : sum_Plus.f a0 a1 = some r) :
    Calls Try.prog 62 #[.int .i64 a0, .int .i64 a1] w fun e w' => e = .returned (.int .i64 r) ∧ Drawn0 w w' := by
  have H : (some (wrap64 ((Go.bits .and .i64 (wrap64 (a0 + a1)) 65535) + (Go.bits .and .i64 ((wrap64 (a0 + a1)) / 65536) 65535)))) = some r := h
  clear h
  obtain rfl := Option.some.inj H
  go_enter Try.func62, Try.ntmps62
  go_wp2
  go_ret
  exact ⟨by first | rfl | (simp; done) | (simp [*]; done), by repeat (first | exact Drawn0.refl _ | apply Drawn0.step)⟩

def sum_Add.l0 : Nat → List Int → Int → Int → Option (Int)
  | 0, _, _, _ => none
  | k + 1, x0, x3, x4 => if x4 < (x0.length : Int) then (if 0 ≤ x4 then (if (wrap64 (x4 + 1)) < (x0.length : Int) then (if 0 ≤ (wrap64 (x4 + 1)) then ((sum_Plus.f x3 (wrap64 ((wrap64 ((wrap64 (rd x0 x4)) * 256)) + (wrap64 (rd x0 (wrap64 (x4 + 1))))))).bind fun t114 => (sum_Add.l0 k x0 t114 (wrap64 (x4 + 2)))) else (none)) else ((sum_Plus.f x3 (wrap64 ((wrap64 (rd x0 x4)) * 256))).bind fun t115 => (sum_Add.l0 k x0 t115 (wrap64 (x4 + 2))))) else (none)) else (some x3)
def sum_Add.f (k : Nat) (l0 : List Int) : Option (Int) := sum_Add.l0 k l0 0 0
theorem sum_Add.mono_l : ∀ k, (∀ y0 y1 y2, LeO (sum_Add.l0 k y0 y1 y2) (sum_Add.l0 (k + 1) y0 y1 y2))
  | 0 => fun _ _ _ r h => by simp [sum_Add.l0] at h
  | k + 1 => by
    have ih0 := sum_Add.mono_l k
    · intro y0 y1 y2
      unfold sum_Add.l0
      repeat' first
      | (with_reducible exact ih0 _ _ _)
      | (with_reducible exact LeO.refl _)
      | (with_reducible exact LeO.none _)
      | (with_reducible refine LeO.ite ?_ ?_)
      | (with_reducible refine LeO.bind ?_ (fun _ => ?_))
      | exact ih0 _ _ _
      | exact LeO.none _
      | refine LeO.ite ?_ ?_
      | refine LeO.bind ?_ (fun _ => ?_)
theorem sum_Add.mono : ∀ a0 k, LeO (sum_Add.f k a0) (sum_Add.f (k + 1) a0) := by
  intro a0 k
  have ih0 := sum_Add.mono_l k
  unfold sum_Add.f
  repeat' first
      | (with_reducible exact ih0 _ _ _)
      | (with_reducible exact LeO.refl _)
      | (with_reducible exact LeO.none _)
      | (with_reducible refine LeO.ite ?_ ?_)
      | (with_reducible refine LeO.bind ?_ (fun _ => ?_))
      | exact ih0 _ _ _
      | exact LeO.none _
      | refine LeO.ite ?_ ?_
      | refine LeO.bind ?_ (fun _ => ?_)
open Go in
/-- A scope in which the run jumps back to one label: an invariant that bears a number, which every pass lowers. -/
theorem wp_scope_ghost_k {P : Program} {Q : Exit → Act → World → Prop} {a : Act} {w : World} {c rest : Code} (l : Nat) (I : Nat → Act → World → Prop) (n₀ : Nat) (hf : findLabel c l = some (Code.skip.seq rest))
    (first : ∀ R : Exit → Act → World → Prop, (∀ a' w', I n₀ a' w' → rest.wp P R a' w') → c.wp P R a w)
    (round : ∀ n a w, I n a w → ∀ (J : Nat → Act → World → Prop) (K : Act → World → Prop), (∀ k a' w', I k a' w' → J k a' w') → (∀ a' w', Handed J n a' w' → K a' w') → rest.wp P (Exit.jump l K Q) a w) : (Code.scope c).wp P Q a w := by
  have pass : ∀ n a w, I n a w → rest.wp P (Exit.jump l (fun a' w' => ∃ n', n' < n ∧ I n' a' w') Q) a w := fun n a w h =>
    round n a w h I _ (fun _ _ _ q => q) fun _ _ q => q
  refine wp_scope_jumps l (fun a w => ∃ n, I n a w) (fun a w => leastOf (fun n => I n a w)) hf ?_ ?_
  · refine first _ fun a' w' h => wp_mono (pass n₀ a' w' h) ?_
    intro e a'' w'' hq
    cases e with
    | goto l' => exact ⟨hq.1, _, hq.2.choose_spec.2⟩
    | _ => exact hq
  · intro a w hI
    refine wp_seq (wp_skip ?_)
    refine wp_mono (pass _ a w (leastOf_spec hI).1) ?_
    intro e a' w' hq
    cases e with
    | goto l' =>
      obtain ⟨hl, n', hlt, hI'⟩ := hq
      exact show l' = l ∧ (∃ n, I n a' w') ∧ leastOf (fun n => I n a' w') < leastOf (fun n => I n a w) from ⟨hl, ⟨n', hI'⟩, Nat.lt_of_le_of_lt ((leastOf_spec ⟨n', hI'⟩).2 n' hI') hlt⟩
    | _ => exact hq
set_option maxHeartbeats 8000000 in
set_option maxRecDepth 100000 in
theorem sum_Add.calls (k : Nat) (A0 : Option Addr) (c0 : Nat) (l0 : List Int) (r : Int) (w : World) (hr0 : Kd.C (Kd.int .u8) w A0 l0.length l0) (hc0 : l0.length ≤ c0) (h : sum_Add.f k l0 = some r) :
    Calls Try.prog 58 #[.slice A0 l0.length c0] w fun e w' => e = .returned (.int .i64 r) ∧ Drawn0 w w'  := by
  have HR0 := Aside0.mk hr0
  have HC0 := Aside0.mk hc0
  clear hr0 hc0
  have H : (sum_Add.l0 k l0 0 0) = some r := h
  clear h
  have H' := Aside0.mk H
  clear H
  go_enter Try.func58, Try.ntmps58
  go_wp2
  refine wp_scope_ghost_k 0 (fun kq a' w' => ∃ (x3_1 x4_1 : Int) (u5 u6 u7 u8 u9 u10 u11 u12 u13 u14 u15 u16 u17 u18 u19 u20 u21 u22 u23 u24 u25 u26 u27 u28 u29 u30 u31 u32 u33 : Value), Aside0 (sum_Add.l0 kq l0 x3_1 x4_1 = some r) ∧ Aside0 (kq ≤ k) ∧ Drawn0 w w' ∧ a' = { tmps := #[.slice A0 l0.length c0, undef, .int .i64 0, .int .i64 x3_1, .int .i64 x4_1, u5, u6, u7, u8, u9, u10, u11, u12, u13, u14, u15, u16, u17, u18, u19, u20, u21, u22, u23, u24, u25, u26, u27, u28, u29, u30, u31, u32, u33, undef], defers := [] }) k rfl ?_ ?_
  · intro R hR
    go_wp2
    go_step3
    go_step
    go_step
    exact hR _ _ ⟨0, 0, _, _, _, _, _, _, _, _, _, _, _, _, _, _, _, _, _, _, _, _, _, _, _, _, _, _, _, _, _, H', ⟨Nat.le_refl _⟩, by repeat (first | exact Drawn0.refl _ | apply Drawn0.step), rfl⟩
  · rintro gk a' wr ⟨x3_1, x4_1, u5, u6, u7, u8, u9, u10, u11, u12, u13, u14, u15, u16, u17, u18, u19, u20, u21, u22, u23, u24, u25, u26, u27, u28, u29, u30, u31, u32, u33, HA, HK1, ⟨m1, rfl⟩, rfl⟩ J K hJ hK
    clear H'
    cases gk with
    | zero => exact absurd HA.out (by simp [sum_Add.l0])
    | succ k1 =>
      have H := HA.out
      clear HA
      simp only [sum_Add.l0] at H
      by_cases c2 : x4_1 < (l0.length : Int)
      · rw [if_pos c2] at H
        have c2b0 : decide (x4_1 < (l0.length : Int)) = true := decide_eq_true c2
        clear c2
        by_cases c3 : 0 ≤ x4_1
        · rw [if_pos c3] at H
          have c3b0 : decide (0 ≤ x4_1) = true := decide_eq_true c3
          clear c3
          by_cases c4 : (wrap64 (x4_1 + 1)) < (l0.length : Int)
          · rw [if_pos c4] at H
            have c4b0 : decide ((wrap64 (x4_1 + 1)) < (l0.length : Int)) = true := decide_eq_true c4
            clear c4
            obtain ⟨ji5, hji5⟩ : ∃ j_ : Int, (wrap64 (x4_1 + 1)) = j_ := ⟨_, rfl⟩
            replace H : (if 0 ≤ (ji5) then ((sum_Plus.f x3_1 (wrap64 ((wrap64 ((wrap64 (rd l0 x4_1)) * 256)) + (wrap64 (rd l0 (ji5)))))).bind fun t105 => (sum_Add.l0 k1 l0 t105 (wrap64 (x4_1 + 2)))) else (none)) = some r := by first | (rw [hji5] at H; exact H) | (simp only [hji5] at H ⊢; exact H)
            (try rw [hji5] at c4b0)
            have hji5w : (IntKind.i64.wrap (x4_1 + 1)) = ji5 := (i64_w _).trans hji5
            by_cases c6 : 0 ≤ (ji5)
            · rw [if_pos c6] at H
              have c6b0 : decide (0 ≤ (ji5)) = true := decide_eq_true c6
              clear c6
              replace H := Option.bind_eq_some_iff.mp H
              obtain ⟨t105, A70, H⟩ := H
              replace H : (sum_Add.l0 k1 l0 t105 (wrap64 (x4_1 + 2))) = some r := H
              have A7 := Aside0.mk A70
              clear A70
              have H' := Aside0.mk H
              clear H
              have p103 : 0 ≤ (x4_1 : Int) := of_decide_eq_true (by first | (with_reducible assumption) | assumption)
              have q103 : x4_1 < (l0.length : Int) := of_decide_eq_true (by first | (with_reducible assumption) | assumption)
              obtain ⟨ad103, e103, hx103_0⟩ := Kd.at_int HR0.out x4_1 p103 q103
              cases e103
              replace p103 := eq_true p103
              replace q103 := eq_true q103
              have p104 : 0 ≤ ((ji5) : Int) := of_decide_eq_true (by first | (with_reducible assumption) | assumption)
              have q104 : (ji5) < (l0.length : Int) := of_decide_eq_true (by first | (with_reducible assumption) | assumption)
              obtain ⟨ad104, e104, hx104_0⟩ := Kd.at_int HR0.out (ji5) p104 q104
              obtain rfl : ad103 = ad104 := (by injection e104)
              replace p104 := eq_true p104
              replace q104 := eq_true q104
              go_wp2_with (first | ((with_reducible refine gate_callee (f := 62) rfl ?_); refine goesL_ (some 31) rfl rfl Try.func62 (by kernel_rfl) rfl #[.int .i64 x3_1, .int .i64 (wrap64 ((wrap64 ((wrap64 (rd l0 x4_1)) * 256)) + (wrap64 (rd l0 (ji5)))))] rfl (by (try simp only [List.map_toArray, List.map_cons, List.map_nil]); first | done | (simp only [hji5]; rfl) | rfl | (simp only [List.length_drop, List.length_take]; rfl)) ?_; (with_reducible refine (sum_Plus.calls x3_1 (wrap64 ((wrap64 ((wrap64 (rd l0 x4_1)) * 256)) + (wrap64 (rd l0 (ji5))))) t105 _ A7.out).mono ?_); rintro e w' ⟨rfl, ⟨nd, rfl⟩⟩; refine ⟨_, rfl, ?_⟩))
              go_step3
              (repeat go_step)
              refine ⟨rfl, hK _ _ (Handed.intro k1 (by omega) (hJ _ _ _ ⟨t105, (wrap64 (x4_1 + 2)), _, _, _, _, _, _, _, _, _, _, _, _, _, _, _, _, _, _, _, _, _, _, _, _, _, _, _, _, _, H', ⟨by have := HK1.out; omega⟩, by repeat (first | exact Drawn0.refl _ | apply Drawn0.step), rfl⟩))⟩
            · rw [if_neg c6] at H
              exact absurd H (by simp)
          · rw [if_neg c4] at H
            have c4b0 : decide ((wrap64 (x4_1 + 1)) < (l0.length : Int)) = false := decide_eq_false c4
            clear c4
            replace H := Option.bind_eq_some_iff.mp H
            obtain ⟨t106, A80, H⟩ := H
            replace H : (sum_Add.l0 k1 l0 t106 (wrap64 (x4_1 + 2))) = some r := H
            have A8 := Aside0.mk A80
            clear A80
            have H' := Aside0.mk H
            clear H
            have p103 : 0 ≤ (x4_1 : Int) := of_decide_eq_true (by first | (with_reducible assumption) | assumption)
            have q103 : x4_1 < (l0.length : Int) := of_decide_eq_true (by first | (with_reducible assumption) | assumption)
            obtain ⟨ad103, e103, hx103_0⟩ := Kd.at_int HR0.out x4_1 p103 q103
            cases e103
            replace p103 := eq_true p103
            replace q103 := eq_true q103
            go_wp2_with (first | ((with_reducible refine gate_callee (f := 62) rfl ?_); refine goesL_ (some 31) rfl rfl Try.func62 (by kernel_rfl) rfl #[.int .i64 x3_1, .int .i64 (wrap64 ((wrap64 (rd l0 x4_1)) * 256))] rfl (by (try simp only [List.map_toArray, List.map_cons, List.map_nil]); first | done | (simp only [hji5]; rfl) | rfl | (simp only [List.length_drop, List.length_take]; rfl)) ?_; (with_reducible refine (sum_Plus.calls x3_1 (wrap64 ((wrap64 (rd l0 x4_1)) * 256)) t106 _ A8.out).mono ?_); rintro e w' ⟨rfl, ⟨nd, rfl⟩⟩; refine ⟨_, rfl, ?_⟩))
            go_step3
            (repeat go_step)
            refine ⟨rfl, hK _ _ (Handed.intro k1 (by omega) (hJ _ _ _ ⟨t106, (wrap64 (x4_1 + 2)), _, _, _, _, _, _, _, _, _, _, _, _, _, _, _, _, _, _, _, _, _, _, _, _, _, _, _, _, _, H', ⟨by have := HK1.out; omega⟩, by repeat (first | exact Drawn0.refl _ | apply Drawn0.step), rfl⟩))⟩
        · rw [if_neg c3] at H
          exact absurd H (by simp)
      · rw [if_neg c2] at H
        have c2b0 : decide (x4_1 < (l0.length : Int)) = false := decide_eq_false c2
        clear c2
        obtain rfl := Option.some.inj H
        go_wp2
        (repeat go_step)
        simp only [Exit.jump]
        go_ret
        exact ⟨by first | rfl | (simp; done) | (simp [*]; done), by repeat (first | exact Drawn0.refl _ | apply Drawn0.step)⟩


def sum_Of.f (k : Nat) (l0 : List Int) : Option (Int) := (sum_Add.f k l0).bind fun t116 => (some (wrap64 (65535 - t116)))
theorem sum_Of.mono : ∀ a0 k, LeO (sum_Of.f k a0) (sum_Of.f (k + 1) a0) := by
  intro a0 k
  unfold sum_Of.f
  repeat' first
      | (with_reducible exact sum_Add.mono _ _)
      | (with_reducible exact LeO.refl _)
      | (with_reducible exact LeO.none _)
      | (with_reducible refine LeO.ite ?_ ?_)
      | (with_reducible refine LeO.bind ?_ (fun _ => ?_))
      | exact sum_Add.mono _ _
      | exact LeO.none _
      | refine LeO.ite ?_ ?_
      | refine LeO.bind ?_ (fun _ => ?_)
set_option maxHeartbeats 8000000 in
set_option maxRecDepth 100000 in
theorem sum_Of.calls (k : Nat) (A0 : Option Addr) (c0 : Nat) (l0 : List Int) (r : Int) (w : World) (hr0 : Kd.C (Kd.int .u8) w A0 l0.length l0) (hc0 : l0.length ≤ c0) (h : sum_Of.f k l0 = some r) :
    Calls Try.prog 37 #[.slice A0 l0.length c0] w fun e w' => e = .returned (.int .i64 r) ∧ Drawn0 w w' := by
  have HR0 := Aside0.mk hr0
  have HC0 := Aside0.mk hc0
  clear hr0 hc0
  have H : ((sum_Add.f k l0).bind fun t116 => (some (wrap64 (65535 - t116)))) = some r := h
  clear h
  replace H := Option.bind_eq_some_iff.mp H
  obtain ⟨t116, A20, H⟩ := H
  replace H : (some (wrap64 (65535 - t116))) = some r := H
  have A2 := Aside0.mk A20
  clear A20
  obtain rfl := Option.some.inj H
  go_enter Try.func37, Try.ntmps37
  go_wp2_with (first | ((with_reducible refine gate_callee (f := 58) rfl ?_); refine goesL_ (some 4) rfl rfl Try.func58 (by kernel_rfl) rfl #[.slice A0 l0.length c0] rfl (by (try simp only [List.map_toArray, List.map_cons, List.map_nil]); first | done | rfl | (simp only [List.length_drop, List.length_take]; rfl)) ?_; (with_reducible refine (sum_Add.calls k _ _ l0 t116 _ ?side1 ?side2 A2.out).mono ?_); (case side1 => repeat (first | exact HR0.out | (with_reducible refine Kd.C_alloc ?_ _) | (with_reducible refine Kd.C_drewN ?_ _) | (with_reducible refine Kd.C_drew ?_))); (case side2 => exact HC0.out); rintro e w' ⟨rfl, ⟨nd, rfl⟩⟩; refine ⟨_, rfl, ?_⟩))
  go_ret
  exact ⟨by first | rfl | (simp; done) | (simp [*]; done), by repeat (first | exact Drawn0.refl _ | apply Drawn0.step)⟩


def wire_sumPlace.f (a0 : Int) : Option (Int) := if a0 = 3 then (some 18) else (some 22)
set_option maxHeartbeats 8000000 in
set_option maxRecDepth 100000 in
theorem wire_sumPlace.calls (a0 : Int) (r : Int) (w : World) (h : wire_sumPlace.f a0 = some r) :
    Calls Try.prog 39 #[.int .i64 a0] w fun e w' => e = .returned (.int .i64 r) ∧ Drawn0 w w' := by
  have H : (if a0 = 3 then (some 18) else (some 22)) = some r := h
  clear h
  by_cases c2 : a0 = 3
  · rw [if_pos c2] at H
    have c2b0 : (a0 == 3) = true := beq_iff_eq.mpr c2
    have c2b1 : (a0 != 3) = false := bne_eq_false_iff_eq.mpr c2
    clear c2
    obtain rfl := Option.some.inj H
    go_enter Try.func39, Try.ntmps39
    go_wp2
    go_ret
    exact ⟨by first | rfl | (simp; done) | (simp [*]; done), by repeat (first | exact Drawn0.refl _ | apply Drawn0.step)⟩
  · rw [if_neg c2] at H
    have c2b0 : (a0 == 3) = false := beq_eq_false_iff_ne.mpr c2
    have c2b1 : (a0 != 3) = true := bne_iff_ne.mpr c2
    obtain rfl := Option.some.inj H
    go_enter Try.func39, Try.ntmps39
    go_wp2
    go_ret
    exact ⟨by first | rfl | (simp; done) | (simp [*]; done), by repeat (first | exact Drawn0.refl _ | apply Drawn0.step)⟩


def wire_get.l0 : Nat → Int → List Int → Int → Int → Option (Int)
  | 0, _, _, _, _ => none
  | k + 1, x7, x15, x16, x17 => if x17 < x16 then (if 0 ≤ x17 then (if x17 < (x15.length : Int) then (wire_get.l0 k (Go.bits .or .i64 (wrap64 (x7 * 256)) (wrap64 (rd x15 x17))) x15 x16 (wrap64 (x17 + 1))) else (none)) else (none)) else (some x7)
def wire_get.f (k : Nat) (l0 : List Int) (a1 : Int) (a2 : Int) : Option (Int) := if 0 ≤ a1 then (if a1 ≤ (wrap64 (a1 + a2)) then (if (wrap64 (a1 + a2)) ≤ (l0.length : Int) then (wire_get.l0 k 0 ((l0.take ((wrap64 (a1 + a2)) : Int).toNat).drop (a1 : Int).toNat) (((l0.take ((wrap64 (a1 + a2)) : Int).toNat).drop (a1 : Int).toNat).length : Int) 0) else (none)) else (none)) else (none)
theorem wire_get.mono_l : ∀ k, (∀ y0 y1 y2 y3, LeO (wire_get.l0 k y0 y1 y2 y3) (wire_get.l0 (k + 1) y0 y1 y2 y3))
  | 0 => fun _ _ _ _ r h => by simp [wire_get.l0] at h
  | k + 1 => by
    have ih0 := wire_get.mono_l k
    · intro y0 y1 y2 y3
      unfold wire_get.l0
      repeat' first
      | (with_reducible exact ih0 _ _ _ _)
      | (with_reducible exact LeO.refl _)
      | (with_reducible exact LeO.none _)
      | (with_reducible refine LeO.ite ?_ ?_)
      | (with_reducible refine LeO.bind ?_ (fun _ => ?_))
      | exact ih0 _ _ _ _
      | exact LeO.none _
      | refine LeO.ite ?_ ?_
      | refine LeO.bind ?_ (fun _ => ?_)
theorem wire_get.mono : ∀ a0 a1 a2 k, LeO (wire_get.f k a0 a1 a2) (wire_get.f (k + 1) a0 a1 a2) := by
  intro a0 a1 a2 k
  have ih0 := wire_get.mono_l k
  unfold wire_get.f
  repeat' first
      | (with_reducible exact ih0 _ _ _ _)
      | (with_reducible exact LeO.refl _)
      | (with_reducible exact LeO.none _)
      | (with_reducible refine LeO.ite ?_ ?_)
      | (with_reducible refine LeO.bind ?_ (fun _ => ?_))
      | exact ih0 _ _ _ _
      | exact LeO.none _
      | refine LeO.ite ?_ ?_
      | refine LeO.bind ?_ (fun _ => ?_)
set_option maxHeartbeats 8000000 in
set_option maxRecDepth 100000 in
theorem wire_get.calls (k : Nat) (A0 : Option Addr) (c0 : Nat) (l0 : List Int) (a1 : Int) (a2 : Int) (r : Int) (w : World) (hr0 : Kd.C (Kd.int .u8) w A0 l0.length l0) (hc0 : l0.length ≤ c0) (h : wire_get.f k l0 a1 a2 = some r) :
    Calls Try.prog 45 #[.slice A0 l0.length c0, .int .i64 a1, .int .i64 a2] w fun e w' => e = .returned (.int .i64 r) ∧ Drawn0 w w' := by
  have HR0 := Aside0.mk hr0
  have HC0 := Aside0.mk hc0
  clear hr0 hc0
  have H : (if 0 ≤ a1 then (if a1 ≤ (wrap64 (a1 + a2)) then (if (wrap64 (a1 + a2)) ≤ (l0.length : Int) then (wire_get.l0 k 0 ((l0.take ((wrap64 (a1 + a2)) : Int).toNat).drop (a1 : Int).toNat) (((l0.take ((wrap64 (a1 + a2)) : Int).toNat).drop (a1 : Int).toNat).length : Int) 0) else (none)) else (none)) else (none)) = some r := h
  clear h
  by_cases c4 : 0 ≤ a1
  · rw [if_pos c4] at H
    have c4b0 := eq_true c4
    have c4b1 : decide (0 ≤ a1) = true := decide_eq_true c4
    clear c4
    by_cases c5 : a1 ≤ (wrap64 (a1 + a2))
    · rw [if_pos c5] at H
      have c5b0 := eq_true c5
      have c5b1 : decide (a1 ≤ (wrap64 (a1 + a2))) = true := decide_eq_true c5
      by_cases c6 : (wrap64 (a1 + a2)) ≤ (l0.length : Int)
      · rw [if_pos c6] at H
        have c6b0 := eq_true c6
        have c6b1 : decide ((wrap64 (a1 + a2)) ≤ (l0.length : Int)) = true := decide_eq_true c6
        have H' := Aside0.mk H
        clear H
        obtain ⟨i07, hi07, _, hsz7, _⟩ := info_parts info5
        obtain ⟨A7, hcut7, hA7, hC7⟩ := print_mid_of (P := Try.prog) (Value.int .u8) 0 23 5 .i64 .i64 Try.underlying23 hi07 hsz7 A0 c0 l0 a1 (wrap64 (a1 + a2)) (of_decide_eq_true (by first | (with_reducible assumption) | assumption)) (by first | omega | exact of_decide_eq_true (by first | (with_reducible assumption) | assumption)) (of_decide_eq_true (by first | (with_reducible assumption) | assumption)) HC0.out
        have HR145 := Aside0.mk (Kd.C_of_reads (h1 := fun _ => rfl) (hA7 _ (Kd.reads_of_C HR0.out)))
        have HC145 := Aside0.mk hC7
        clear hA7 hC7 hi07 hsz7
        have HLx_ := Aside0.mk (show ((l0.take ((wrap64 (a1 + a2)) : Int).toNat).drop (a1 : Int).toNat).length = ((wrap64 (a1 + a2))).toNat - (a1).toNat from by rw [List.length_drop, List.length_take]; have h1_ : (((wrap64 (a1 + a2))) : Int) ≤ (l0.length : Int) := of_decide_eq_true (by first | (with_reducible assumption) | assumption); omega)
        go_enter Try.func45, Try.ntmps45
        go_wp2
        go_loopg [7, 17] k (fun kq v7 v17 w' => ∃ (x7_1 : Int) (x17_1 : Int), v7 = .int .i64 x7_1 ∧ v17 = .int .i64 x17_1 ∧ Aside0 (wire_get.l0 kq x7_1 ((l0.take ((wrap64 (a1 + a2)) : Int).toNat).drop (a1 : Int).toNat) (((l0.take ((wrap64 (a1 + a2)) : Int).toNat).drop (a1 : Int).toNat).length : Int) x17_1 = some r) ∧ Aside0 (kq ≤ k) ∧ Drawn0 w w')
        case atStart => exact ⟨(0), (0), (by first | rfl | (simp; done) | (simp [*]; done)), (by first | rfl | (simp; done) | (simp [*]; done)), H', ⟨Nat.le_refl _⟩, by repeat (first | exact Drawn0.refl _ | apply Drawn0.step)⟩
        case round =>
          clear H'
          try clear p2
          try clear c4
          try clear c4b0
          try clear c4b1
          try clear c5
          try clear c5b0
          try clear c5b1
          try clear c6
          try clear c6b0
          try clear c6b1
          try clear p6
          obtain ⟨x7_1, x17_1, rfl, rfl, HA, HK1, ⟨m1, rfl⟩⟩ := hrel
          cases gk with
          | zero => exact absurd HA.out (by simp [wire_get.l0])
          | succ k1 =>
            have H := HA.out
            clear HA
            simp only [wire_get.l0] at H
            by_cases c8 : x17_1 < (((l0.take ((wrap64 (a1 + a2)) : Int).toNat).drop (a1 : Int).toNat).length : Int)
            · rw [if_pos c8] at H
              have c8b0 : decide (x17_1 < (((l0.take ((wrap64 (a1 + a2)) : Int).toNat).drop (a1 : Int).toNat).length : Int)) = true := decide_eq_true c8
              have c8d1 : decide (x17_1 < ((((wrap64 (a1 + a2))).toNat - (a1).toNat : Nat) : Int)) = true := by rw [← HLx_.out]; exact c8b0
              clear c8
              by_cases c9 : 0 ≤ x17_1
              · rw [if_pos c9] at H
                have c9b0 : decide (0 ≤ x17_1) = true := decide_eq_true c9
                clear c9
                by_cases c10 : x17_1 < (((l0.take ((wrap64 (a1 + a2)) : Int).toNat).drop (a1 : Int).toNat).length : Int)
                · rw [if_pos c10] at H
                  have c10b0 : decide (x17_1 < (((l0.take ((wrap64 (a1 + a2)) : Int).toNat).drop (a1 : Int).toNat).length : Int)) = true := decide_eq_true c10
                  have c10d1 : decide (x17_1 < ((((wrap64 (a1 + a2))).toNat - (a1).toNat : Nat) : Int)) = true := by rw [← HLx_.out]; exact c10b0
                  clear c10
                  have H' := Aside0.mk H
                  clear H
                  have p146 : 0 ≤ (x17_1 : Int) := of_decide_eq_true (by first | (with_reducible assumption) | assumption)
                  have q146 : x17_1 < (((l0.take ((wrap64 (a1 + a2)) : Int).toNat).drop (a1 : Int).toNat).length : Int) := of_decide_eq_true (by first | (with_reducible assumption) | assumption)
                  obtain ⟨ad146, e146, hx146_0⟩ := Kd.at_int HR145.out x17_1 p146 q146
                  cases e146
                  replace p146 := eq_true p146
                  replace q146 := eq_true q146
                  have q146d := q146
                  try rw [HLx_.out] at q146d
                  go_wp2
                  go_roundg k1
                  case measure => have := HK1.out; omega
                  case rel => exact ⟨(Go.bits .or .i64 (wrap64 (x7_1 * 256)) (wrap64 (rd ((l0.take ((wrap64 (a1 + a2)) : Int).toNat).drop (a1 : Int).toNat) x17_1))), (wrap64 (x17_1 + 1)), (by first | rfl | (simp; done) | (simp [*]; done)), (by first | rfl | (simp; done) | (simp [*]; done)), H', ⟨by have := HK1.out; omega⟩, by repeat (first | exact Drawn0.refl _ | apply Drawn0.step)⟩
                · rw [if_neg c10] at H
                  exact absurd H (by simp)
              · rw [if_neg c9] at H
                exact absurd H (by simp)
            · rw [if_neg c8] at H
              have c8b0 : decide (x17_1 < (((l0.take ((wrap64 (a1 + a2)) : Int).toNat).drop (a1 : Int).toNat).length : Int)) = false := decide_eq_false c8
              have c8d1 : decide (x17_1 < ((((wrap64 (a1 + a2))).toNat - (a1).toNat : Nat) : Int)) = false := by rw [← HLx_.out]; exact c8b0
              clear c8
              obtain rfl := Option.some.inj H
              go_wp2
              go_ret
              exact ⟨by first | rfl | (simp; done) | (simp [*]; done), by repeat (first | exact Drawn0.refl _ | apply Drawn0.step)⟩
      · rw [if_neg c6] at H
        exact absurd H (by simp)
    · rw [if_neg c5] at H
      exact absurd H (by simp)
  · rw [if_neg c4] at H
    exact absurd H (by simp)

end Go.Proofs.Ytbjhmifhmojaoaa.Hp

namespace Go.Proofs.Ytbjhmifhmojaoaa.Hp
open Go.RowKit Go.Proofs.YtbjhmifhmojaoaaW.PrintWords Go.Proofs.YtbjhmifhmojaoaaW.PrintLast Go.Proofs.YtbjhmifhmojaoaaW.PrintMore
set_option linter.unusedVariables false
set_option linter.unusedSimpArgs false
def sum_Right.f (k : Nat) (l0 : List Int) : Option (Bool) := (sum_Add.f k l0).bind fun t147 => (some (t147 == 65535))
theorem sum_Right.mono : ∀ a0 k, LeO (sum_Right.f k a0) (sum_Right.f (k + 1) a0) := by
  intro a0 k
  unfold sum_Right.f
  repeat' first
      | (with_reducible exact sum_Add.mono _ _)
      | (with_reducible exact LeO.refl _)
      | (with_reducible exact LeO.none _)
      | (with_reducible refine LeO.ite ?_ ?_)
      | (with_reducible refine LeO.bind ?_ (fun _ => ?_))
      | exact sum_Add.mono _ _
      | exact LeO.none _
      | refine LeO.ite ?_ ?_
      | refine LeO.bind ?_ (fun _ => ?_)
set_option maxHeartbeats 8000000 in
set_option maxRecDepth 100000 in
theorem sum_Right.calls (k : Nat) (A0 : Option Addr) (c0 : Nat) (l0 : List Int) (r : Bool) (w : World) (hr0 : Kd.C (Kd.int .u8) w A0 l0.length l0) (hc0 : l0.length ≤ c0) (h : sum_Right.f k l0 = some r) :
    Calls Try.prog 47 #[.slice A0 l0.length c0] w fun e w' => e = .returned (.bool r) ∧ Drawn0 w w' := by
  have HR0 := Aside0.mk hr0
  have HC0 := Aside0.mk hc0
  clear hr0 hc0
  have H : ((sum_Add.f k l0).bind fun t147 => (some (t147 == 65535))) = some r := h
  clear h
  replace H := Option.bind_eq_some_iff.mp H
  obtain ⟨t147, A20, H⟩ := H
  replace H : (some (t147 == 65535)) = some r := H
  have A2 := Aside0.mk A20
  clear A20
  obtain rfl := Option.some.inj H
  go_enter Try.func47, Try.ntmps47
  go_wp2_with (first | ((with_reducible refine gate_callee (f := 58) rfl ?_); refine goesL_ (some 4) rfl rfl Try.func58 (by kernel_rfl) rfl #[.slice A0 l0.length c0] rfl (by (try simp only [List.map_toArray, List.map_cons, List.map_nil]); first | done | rfl | (simp only [List.length_drop, List.length_take]; rfl)) ?_; (with_reducible refine (sum_Add.calls k _ _ l0 t147 _ ?side1 ?side2 A2.out).mono ?_); (case side1 => repeat (first | exact HR0.out | (with_reducible refine Kd.C_alloc ?_ _) | (with_reducible refine Kd.C_drewN ?_ _) | (with_reducible refine Kd.C_drew ?_))); (case side2 => exact HC0.out); rintro e w' ⟨rfl, ⟨nd, rfl⟩⟩; refine ⟨_, rfl, ?_⟩))
  go_ret
  exact ⟨by first | rfl | (simp; done) | (simp [*]; done), by repeat (first | exact Drawn0.refl _ | apply Drawn0.step)⟩

def wire_head.j0 : Nat → List Int → Bool → Option (Int)
  | 0, _, _ => none
  | k + 1, x0, x14 => if x14 = true then (some 3) else (if 16 ≤ (x0.length : Int) then ((sum_Right.f k (x0.take 16)).bind fun t153 => (if t153 = true then (if (x0.length : Int) < 24 then (some 1) else (if 0 < (x0.length : Int) then (if (wrap64 (rd x0 0)) = 3 then (if (x0.length : Int) < 44 then (some 1) else (some 0)) else (some 0)) else (none))) else (some 4))) else (none))
def wire_head.f (k : Nat) (l0 : List Int) : Option (Int) := if (l0.length : Int) < 16 then (some 1) else (if 0 < (l0.length : Int) then ((wire_known.f (wrap64 (rd l0 0))).bind fun t149 => (if t149 = true then ((wire_get.f k l0 2 2).bind fun t150 => (if t150 = (l0.length : Int) then (if (l0.length : Int) > 1500 then (wire_head.j0 k l0 true) else (if 13 < (l0.length : Int) then (wire_head.j0 k l0 ((rd l0 13) != 0)) else (none))) else (wire_head.j0 k l0 true))) else (some 2))) else (none))
theorem wire_head.mono_l : ∀ k, (∀ y0 y1, LeO (wire_head.j0 k y0 y1) (wire_head.j0 (k + 1) y0 y1))
  | 0 => fun _ _ r h => by simp [wire_head.j0] at h
  | k + 1 => by
    have ih0 := wire_head.mono_l k
    · intro y0 y1
      unfold wire_head.j0
      repeat' first
      | (with_reducible exact ih0 _ _)
      | (with_reducible exact sum_Right.mono _ _)
      | (with_reducible exact wire_get.mono _ _ _ _)
      | (with_reducible exact LeO.refl _)
      | (with_reducible exact LeO.none _)
      | (with_reducible refine LeO.ite ?_ ?_)
      | (with_reducible refine LeO.bind ?_ (fun _ => ?_))
      | exact ih0 _ _
      | exact sum_Right.mono _ _
      | exact wire_get.mono _ _ _ _
      | exact LeO.none _
      | refine LeO.ite ?_ ?_
      | refine LeO.bind ?_ (fun _ => ?_)
theorem wire_head.mono : ∀ a0 k, LeO (wire_head.f k a0) (wire_head.f (k + 1) a0) := by
  intro a0 k
  have ih0 := wire_head.mono_l k
  unfold wire_head.f
  repeat' first
      | (with_reducible exact ih0 _ _)
      | (with_reducible exact sum_Right.mono _ _)
      | (with_reducible exact wire_get.mono _ _ _ _)
      | (with_reducible exact LeO.refl _)
      | (with_reducible exact LeO.none _)
      | (with_reducible refine LeO.ite ?_ ?_)
      | (with_reducible refine LeO.bind ?_ (fun _ => ?_))
      | exact ih0 _ _
      | exact sum_Right.mono _ _
      | exact wire_get.mono _ _ _ _
      | exact LeO.none _
      | refine LeO.ite ?_ ?_
      | refine LeO.bind ?_ (fun _ => ?_)
set_option maxHeartbeats 8000000 in
set_option maxRecDepth 100000 in
theorem wire_head.calls (k : Nat) (A0 : Option Addr) (c0 : Nat) (l0 : List Int) (r : Int) (w : World) (hr0 : Kd.C (Kd.int .u8) w A0 l0.length l0) (hc0 : l0.length ≤ c0) (h : wire_head.f k l0 = some r) :
    Calls Try.prog 44 #[.slice A0 l0.length c0] w fun e w' => e = .returned (.int .i64 r) ∧ Drawn0 w w' := by
  have HR0 := Aside0.mk hr0
  have HC0 := Aside0.mk hc0
  clear hr0 hc0
  have H : (if (l0.length : Int) < 16 then (some 1) else (if 0 < (l0.length : Int) then ((wire_known.f (wrap64 (rd l0 0))).bind fun t149 => (if t149 = true then ((wire_get.f k l0 2 2).bind fun t150 => (if t150 = (l0.length : Int) then (if (l0.length : Int) > 1500 then (wire_head.j0 k l0 true) else (if 13 < (l0.length : Int) then (wire_head.j0 k l0 ((rd l0 13) != 0)) else (none))) else (wire_head.j0 k l0 true))) else (some 2))) else (none))) = some r := h
  clear h
  by_cases c2 : (l0.length : Int) < 16
  · rw [if_pos c2] at H
    have c2b0 : decide ((l0.length : Int) < 16) = true := decide_eq_true c2
    have c2b1 : decide (l0.length < 16) = true := decide_eq_true (by omega)
    clear c2
    obtain rfl := Option.some.inj H
    go_enter Try.func44, Try.ntmps44
    go_wp2
    go_ret
    exact ⟨by first | rfl | (simp; done) | (simp [*]; done), by repeat (first | exact Drawn0.refl _ | apply Drawn0.step)⟩
  · rw [if_neg c2] at H
    have c2b0 : decide ((l0.length : Int) < 16) = false := decide_eq_false c2
    have c2b1 : decide (l0.length < 16) = false := decide_eq_false (by omega)
    clear c2
    by_cases c3 : 0 < (l0.length : Int)
    · rw [if_pos c3] at H
      have c3b0 : decide (0 < (l0.length : Int)) = true := decide_eq_true c3
      have c3b1 : decide (0 < l0.length) = true := decide_eq_true (by omega)
      clear c3
      replace H := Option.bind_eq_some_iff.mp H
      obtain ⟨t149, A40, H⟩ := H
      replace H : (if t149 = true then ((wire_get.f k l0 2 2).bind fun t150 => (if t150 = (l0.length : Int) then (if (l0.length : Int) > 1500 then (wire_head.j0 k l0 true) else (if 13 < (l0.length : Int) then (wire_head.j0 k l0 ((rd l0 13) != 0)) else (none))) else (wire_head.j0 k l0 true))) else (some 2)) = some r := H
      have A4 := Aside0.mk A40
      clear A40
      by_cases c5 : t149 = true
      · subst c5
        have H1 : ((wire_get.f k l0 2 2).bind fun t150 => (if t150 = (l0.length : Int) then (if (l0.length : Int) > 1500 then (wire_head.j0 k l0 true) else (if 13 < (l0.length : Int) then (wire_head.j0 k l0 ((rd l0 13) != 0)) else (none))) else (wire_head.j0 k l0 true))) = some r := by rw [if_pos rfl] at H; exact H
        clear H
        have H := H1
        clear H1
        have HC6 := Aside0.mk H
        clear H
        have p148 : 0 ≤ (0 : Int) := (by omega)
        have q148 : 0 < (l0.length : Int) := of_decide_eq_true (by first | (with_reducible assumption) | assumption)
        obtain ⟨ad148, e148, hx148_0⟩ := Kd.at_int HR0.out 0 p148 q148
        cases e148
        have qi148 : (0 < l0.length) = True := eq_true (by omega)
        (try rw [show ((0 : Int)).toNat = 0 from rfl] at hx148_0)
        (try rw [Addr.add_zero'] at hx148_0)
        replace p148 := eq_true p148
        replace q148 := eq_true q148
        go_enter Try.func44, Try.ntmps44
        go_upto_region 5 with (first | ((with_reducible refine gate_callee (f := 34) rfl ?_); refine goesL_ (some 12) rfl rfl Try.func34 (by kernel_rfl) rfl #[.int .i64 (wrap64 (rd l0 0))] rfl (by (try simp only [List.map_toArray, List.map_cons, List.map_nil]); first | done | rfl | (simp only [List.length_drop, List.length_take]; rfl)) ?_; (with_reducible refine (wire_known.calls (wrap64 (rd l0 0)) true _ A4.out).mono ?_); rintro e w' ⟨rfl, ⟨nd, rfl⟩⟩; refine ⟨_, rfl, ?_⟩))
        (try simp only [Act.put, List.setIfInBounds_toArray, List.set_cons_zero, List.set_cons_succ])
        go_cut [14] (fun v14 wc => ∃ (kq : Nat) (x14_5 : Bool), v14 = .bool x14_5 ∧ Aside0 (wire_head.j0 kq l0 x14_5 = some r) ∧ Aside0 (kq ≤ k) ∧ Drawn0 w wc)
        case first =>
          have H := HC6.out
          clear HC6
          replace H := Option.bind_eq_some_iff.mp H
          obtain ⟨t150, A70, H⟩ := H
          replace H : (if t150 = (l0.length : Int) then (if (l0.length : Int) > 1500 then (wire_head.j0 k l0 true) else (if 13 < (l0.length : Int) then (wire_head.j0 k l0 ((rd l0 13) != 0)) else (none))) else (wire_head.j0 k l0 true)) = some r := H
          have A7 := Aside0.mk A70
          clear A70
          by_cases c8 : t150 = (l0.length : Int)
          · rw [if_pos c8] at H
            have c8b0 : (t150 == (l0.length : Int)) = true := beq_iff_eq.mpr c8
            have c8b1 : (t150 != (l0.length : Int)) = false := bne_eq_false_iff_eq.mpr c8
            clear c8
            (first | rw [c8b0] | (simp only [i64_w, i32_w]; rw [c8b0]) | skip)
            by_cases c9 : (l0.length : Int) > 1500
            · rw [if_pos c9] at H
              have c9b0 : decide (1500 < (l0.length : Int)) = true := decide_eq_true c9
              have c9b1 : decide (1500 < l0.length) = true := decide_eq_true (by omega)
              clear c9
              have H' := Aside0.mk H
              clear H
              go_wp2_with (first | ((with_reducible refine gate_callee (f := 45) rfl ?_); refine goesL_ (some 16) rfl rfl Try.func45 (by kernel_rfl) rfl #[.slice (some ad148) l0.length c0, .int .i64 2, .int .i64 2] rfl (by (try simp only [List.map_toArray, List.map_cons, List.map_nil]); first | done | rfl | (simp only [List.length_drop, List.length_take]; rfl)) ?_; (with_reducible refine (wire_get.calls k _ _ l0 2 2 t150 _ ?side1 ?side2 A7.out).mono ?_); (case side1 => repeat (first | exact HR0.out | (with_reducible refine Kd.C_alloc ?_ _) | (with_reducible refine Kd.C_drewN ?_ _) | (with_reducible refine Kd.C_drew ?_))); (case side2 => exact HC0.out); rintro e w' ⟨rfl, ⟨nd, rfl⟩⟩; refine ⟨_, rfl, ?_⟩))
              go_meet
              case rel => exact ⟨_, (true), (by first | rfl | (simp; done) | (simp [*]; done)), H', ⟨by first | omega | exact Nat.le_refl _⟩, by repeat (first | exact Drawn0.refl _ | apply Drawn0.step)⟩
            · rw [if_neg c9] at H
              have c9b0 : decide (1500 < (l0.length : Int)) = false := decide_eq_false c9
              have c9b1 : decide (1500 < l0.length) = false := decide_eq_false (by omega)
              clear c9
              by_cases c10 : 13 < (l0.length : Int)
              · rw [if_pos c10] at H
                have c10b0 : decide (13 < (l0.length : Int)) = true := decide_eq_true c10
                have c10b1 : decide (13 < l0.length) = true := decide_eq_true (by omega)
                clear c10
                have H' := Aside0.mk H
                clear H
                go_wp2_with (first | ((with_reducible refine gate_callee (f := 45) rfl ?_); refine goesL_ (some 16) rfl rfl Try.func45 (by kernel_rfl) rfl #[.slice (some ad148) l0.length c0, .int .i64 2, .int .i64 2] rfl (by (try simp only [List.map_toArray, List.map_cons, List.map_nil]); first | done | rfl | (simp only [List.length_drop, List.length_take]; rfl)) ?_; (with_reducible refine (wire_get.calls k _ _ l0 2 2 t150 _ ?side1 ?side2 A7.out).mono ?_); (case side1 => repeat (first | exact HR0.out | (with_reducible refine Kd.C_alloc ?_ _) | (with_reducible refine Kd.C_drewN ?_ _) | (with_reducible refine Kd.C_drew ?_))); (case side2 => exact HC0.out); rintro e w' ⟨rfl, ⟨nd, rfl⟩⟩; refine ⟨_, rfl, ?_⟩; have p151 : 0 ≤ (13 : Int) := (by omega); have q151 : 13 < (l0.length : Int) := of_decide_eq_true (by first | (with_reducible assumption) | assumption); obtain ⟨ad151, e151, hx151_0⟩ := Kd.at_int HR0.out 13 p151 q151; obtain rfl : ad148 = ad151 := (by injection e151); (try simp only [show (13 : Int).toNat = 13 from rfl, Nat.reduceMul, Nat.reduceEqDiff, Go.Addr.add, ↓reduceIte] at hx151_0); have qi151 : (13 < l0.length) = True := eq_true (by omega); (try rw [show ((13 : Int)).toNat = 13 from rfl] at hx151_0); replace p151 := eq_true p151; replace q151 := eq_true q151))
                go_meet
                case rel => exact ⟨_, (((rd l0 13) != 0)), (by first | rfl | (simp; done) | (simp [*]; done)), H', ⟨by first | omega | exact Nat.le_refl _⟩, by repeat (first | exact Drawn0.refl _ | apply Drawn0.step)⟩
              · rw [if_neg c10] at H
                exact absurd H (by simp)
          · rw [if_neg c8] at H
            have c8b0 : (t150 == (l0.length : Int)) = false := beq_eq_false_iff_ne.mpr c8
            have c8b1 : (t150 != (l0.length : Int)) = true := bne_iff_ne.mpr c8
            (first | rw [c8b0] | (simp only [i64_w, i32_w]; rw [c8b0]) | skip)
            have H' := Aside0.mk H
            clear H
            go_wp2_with (first | ((with_reducible refine gate_callee (f := 45) rfl ?_); refine goesL_ (some 16) rfl rfl Try.func45 (by kernel_rfl) rfl #[.slice (some ad148) l0.length c0, .int .i64 2, .int .i64 2] rfl (by (try simp only [List.map_toArray, List.map_cons, List.map_nil]); first | done | rfl | (simp only [List.length_drop, List.length_take]; rfl)) ?_; (with_reducible refine (wire_get.calls k _ _ l0 2 2 t150 _ ?side1 ?side2 A7.out).mono ?_); (case side1 => repeat (first | exact HR0.out | (with_reducible refine Kd.C_alloc ?_ _) | (with_reducible refine Kd.C_drewN ?_ _) | (with_reducible refine Kd.C_drew ?_))); (case side2 => exact HC0.out); rintro e w' ⟨rfl, ⟨nd, rfl⟩⟩; refine ⟨_, rfl, ?_⟩))
            go_meet
            case rel => exact ⟨_, (true), (by first | rfl | (simp; done) | (simp [*]; done)), H', ⟨by first | omega | exact Nat.le_refl _⟩, by repeat (first | exact Drawn0.refl _ | apply Drawn0.step)⟩
        case rest =>
          clear HC6
          try clear c1
          try clear p1
          try clear q1
          try clear hx1
          try clear qi1
          try clear c2
          try clear c2b0
          try clear c2b1
          try clear p2
          try clear c3
          try clear c3b0
          try clear c3b1
          try clear c4
          try clear c5
          try clear p6
          try clear c8
          try clear c8b0
          try clear c8b1
          try clear c9
          try clear c9b0
          try clear c9b1
          try clear c10
          try clear c10b0
          try clear c10b1
          try clear hx148_0
          try clear hx151_0
          try clear p148
          try clear p151
          try clear q148
          try clear q151
          obtain ⟨kq, x14_5, rfl, HA, HJ5, ⟨mc5, rfl⟩⟩ := hcut
          cases kq with
          | zero => exact absurd HA.out (by simp [wire_head.j0])
          | succ kj5 =>
            have H := HA.out
            clear HA
            simp only [wire_head.j0] at H
            by_cases c11 : x14_5 = true
            · subst c11
              have H1 : (some 3) = some r := by rw [if_pos rfl] at H; exact H
              clear H
              have H := H1
              clear H1
              obtain rfl := Option.some.inj H
              go_wp2
              go_ret
              exact ⟨by first | rfl | (simp; done) | (simp [*]; done), by repeat (first | exact Drawn0.refl _ | apply Drawn0.step)⟩
            · replace c11 := Bool.eq_false_iff.mpr c11
              subst c11
              have H1 : (if 16 ≤ (l0.length : Int) then ((sum_Right.f kj5 (l0.take 16)).bind fun t153 => (if t153 = true then (if (l0.length : Int) < 24 then (some 1) else (if 0 < (l0.length : Int) then (if (wrap64 (rd l0 0)) = 3 then (if (l0.length : Int) < 44 then (some 1) else (some 0)) else (some 0)) else (none))) else (some 4))) else (none)) = some r := by rw [if_neg (show ¬ (false = true) by decide)] at H; exact H
              clear H
              have H := H1
              clear H1
              by_cases c12 : 16 ≤ (l0.length : Int)
              · rw [if_pos c12] at H
                have c12b0 := eq_true c12
                have c12b1 : decide (16 ≤ (l0.length : Int)) = true := decide_eq_true c12
                clear c12
                replace H := Option.bind_eq_some_iff.mp H
                obtain ⟨t153, A130, H⟩ := H
                replace H : (if t153 = true then (if (l0.length : Int) < 24 then (some 1) else (if 0 < (l0.length : Int) then (if (wrap64 (rd l0 0)) = 3 then (if (l0.length : Int) < 44 then (some 1) else (some 0)) else (some 0)) else (none))) else (some 4)) = some r := H
                have A13 := Aside0.mk A130
                clear A130
                by_cases c14 : t153 = true
                · subst c14
                  have H1 : (if (l0.length : Int) < 24 then (some 1) else (if 0 < (l0.length : Int) then (if (wrap64 (rd l0 0)) = 3 then (if (l0.length : Int) < 44 then (some 1) else (some 0)) else (some 0)) else (none))) = some r := by rw [if_pos rfl] at H; exact H
                  clear H
                  have H := H1
                  clear H1
                  by_cases c15 : (l0.length : Int) < 24
                  · rw [if_pos c15] at H
                    have c15b0 : decide ((l0.length : Int) < 24) = true := decide_eq_true c15
                    have c15b1 : decide (l0.length < 24) = true := decide_eq_true (by omega)
                    clear c15
                    obtain rfl := Option.some.inj H
                    obtain ⟨i016, hi016, _, hsz16, _⟩ := info_parts info5
                    obtain ⟨hcut16, hA16, hC16⟩ := print_take_of (P := Try.prog) (Value.int .u8) 0 23 5 .i64 Try.underlying23 hi016 hsz16 (some ad148) c0 l0 16 (by omega) (of_decide_eq_true (by first | (with_reducible assumption) | assumption)) HC0.out
                    have HR152 := Aside0.mk (Kd.C_of_reads (h1 := fun _ => rfl) (hA16 _ (Kd.reads_of_C HR0.out)))
                    have HC152 := Aside0.mk hC16
                    clear hA16 hC16 hi016 hsz16
                    go_wp2_with (first | ((with_reducible refine gate_callee (f := 47) rfl ?_); refine goesL_ (some 34) rfl rfl Try.func47 (by kernel_rfl) rfl #[.slice (some ad148) (l0.take 16).length c0] rfl (by (try simp only [List.map_toArray, List.map_cons, List.map_nil]); first | done | (rw [show (l0.take 16).length = 16 from (by rw [List.length_take]; have h_ : (16 : Int) ≤ (l0.length : Int) := of_decide_eq_true (by first | (with_reducible assumption) | assumption); omega)] <;> rfl) | rfl | (simp only [List.length_drop, List.length_take]; rfl)) ?_; (with_reducible refine (sum_Right.calls kj5 _ _ (l0.take 16) true _ ?side1 ?side2 A13.out).mono ?_); (case side1 => repeat (first | exact HR152.out | (with_reducible refine Kd.C_alloc ?_ _) | (with_reducible refine Kd.C_drewN ?_ _) | (with_reducible refine Kd.C_drew ?_))); (case side2 => exact HC152.out); rintro e w' ⟨rfl, ⟨nd, rfl⟩⟩; refine ⟨_, rfl, ?_⟩))
                    go_ret
                    exact ⟨by first | rfl | (simp; done) | (simp [*]; done), by repeat (first | exact Drawn0.refl _ | apply Drawn0.step)⟩
                  · rw [if_neg c15] at H
                    have c15b0 : decide ((l0.length : Int) < 24) = false := decide_eq_false c15
                    have c15b1 : decide (l0.length < 24) = false := decide_eq_false (by omega)
                    clear c15
                    by_cases c17 : 0 < (l0.length : Int)
                    · rw [if_pos c17] at H
                      have c17b0 : decide (0 < (l0.length : Int)) = true := decide_eq_true c17
                      have c17b1 : decide (0 < l0.length) = true := decide_eq_true (by omega)
                      clear c17
                      by_cases c18 : (wrap64 (rd l0 0)) = 3
                      · rw [if_pos c18] at H
                        have c18b0 : ((wrap64 (rd l0 0)) == 3) = true := beq_iff_eq.mpr c18
                        have c18b1 : ((wrap64 (rd l0 0)) != 3) = false := bne_eq_false_iff_eq.mpr c18
                        clear c18
                        by_cases c19 : (l0.length : Int) < 44
                        · rw [if_pos c19] at H
                          have c19b0 : decide ((l0.length : Int) < 44) = true := decide_eq_true c19
                          have c19b1 : decide (l0.length < 44) = true := decide_eq_true (by omega)
                          clear c19
                          obtain rfl := Option.some.inj H
                          obtain ⟨i020, hi020, _, hsz20, _⟩ := info_parts info5
                          obtain ⟨hcut20, hA20, hC20⟩ := print_take_of (P := Try.prog) (Value.int .u8) 0 23 5 .i64 Try.underlying23 hi020 hsz20 (some ad148) c0 l0 16 (by omega) (of_decide_eq_true (by first | (with_reducible assumption) | assumption)) HC0.out
                          have HR152 := Aside0.mk (Kd.C_of_reads (h1 := fun _ => rfl) (hA20 _ (Kd.reads_of_C HR0.out)))
                          have HC152 := Aside0.mk hC20
                          clear hA20 hC20 hi020 hsz20
                          go_wp2_with (first | ((with_reducible refine gate_callee (f := 47) rfl ?_); refine goesL_ (some 34) rfl rfl Try.func47 (by kernel_rfl) rfl #[.slice (some ad148) (l0.take 16).length c0] rfl (by (try simp only [List.map_toArray, List.map_cons, List.map_nil]); first | done | (rw [show (l0.take 16).length = 16 from (by rw [List.length_take]; have h_ : (16 : Int) ≤ (l0.length : Int) := of_decide_eq_true (by first | (with_reducible assumption) | assumption); omega)] <;> rfl) | rfl | (simp only [List.length_drop, List.length_take]; rfl)) ?_; (with_reducible refine (sum_Right.calls kj5 _ _ (l0.take 16) true _ ?side1 ?side2 A13.out).mono ?_); (case side1 => repeat (first | exact HR152.out | (with_reducible refine Kd.C_alloc ?_ _) | (with_reducible refine Kd.C_drewN ?_ _) | (with_reducible refine Kd.C_drew ?_))); (case side2 => exact HC152.out); rintro e w' ⟨rfl, ⟨nd, rfl⟩⟩; refine ⟨_, rfl, ?_⟩; have p154 : 0 ≤ (0 : Int) := (by omega); have q154 : 0 < (l0.length : Int) := of_decide_eq_true (by first | (with_reducible assumption) | assumption); obtain ⟨ad154, e154, hx154_0⟩ := Kd.at_int HR0.out 0 p154 q154; obtain rfl : ad148 = ad154 := (by injection e154); have qi154 : (0 < l0.length) = True := eq_true (by omega); (try rw [show ((0 : Int)).toNat = 0 from rfl] at hx154_0); (try rw [Addr.add_zero'] at hx154_0); replace p154 := eq_true p154; replace q154 := eq_true q154))
                          go_ret
                          exact ⟨by first | rfl | (simp; done) | (simp [*]; done), by repeat (first | exact Drawn0.refl _ | apply Drawn0.step)⟩
                        · rw [if_neg c19] at H
                          have c19b0 : decide ((l0.length : Int) < 44) = false := decide_eq_false c19
                          have c19b1 : decide (l0.length < 44) = false := decide_eq_false (by omega)
                          clear c19
                          obtain rfl := Option.some.inj H
                          obtain ⟨i021, hi021, _, hsz21, _⟩ := info_parts info5
                          obtain ⟨hcut21, hA21, hC21⟩ := print_take_of (P := Try.prog) (Value.int .u8) 0 23 5 .i64 Try.underlying23 hi021 hsz21 (some ad148) c0 l0 16 (by omega) (of_decide_eq_true (by first | (with_reducible assumption) | assumption)) HC0.out
                          have HR152 := Aside0.mk (Kd.C_of_reads (h1 := fun _ => rfl) (hA21 _ (Kd.reads_of_C HR0.out)))
                          have HC152 := Aside0.mk hC21
                          clear hA21 hC21 hi021 hsz21
                          go_wp2_with (first | ((with_reducible refine gate_callee (f := 47) rfl ?_); refine goesL_ (some 34) rfl rfl Try.func47 (by kernel_rfl) rfl #[.slice (some ad148) (l0.take 16).length c0] rfl (by (try simp only [List.map_toArray, List.map_cons, List.map_nil]); first | done | (rw [show (l0.take 16).length = 16 from (by rw [List.length_take]; have h_ : (16 : Int) ≤ (l0.length : Int) := of_decide_eq_true (by first | (with_reducible assumption) | assumption); omega)] <;> rfl) | rfl | (simp only [List.length_drop, List.length_take]; rfl)) ?_; (with_reducible refine (sum_Right.calls kj5 _ _ (l0.take 16) true _ ?side1 ?side2 A13.out).mono ?_); (case side1 => repeat (first | exact HR152.out | (with_reducible refine Kd.C_alloc ?_ _) | (with_reducible refine Kd.C_drewN ?_ _) | (with_reducible refine Kd.C_drew ?_))); (case side2 => exact HC152.out); rintro e w' ⟨rfl, ⟨nd, rfl⟩⟩; refine ⟨_, rfl, ?_⟩; have p154 : 0 ≤ (0 : Int) := (by omega); have q154 : 0 < (l0.length : Int) := of_decide_eq_true (by first | (with_reducible assumption) | assumption); obtain ⟨ad154, e154, hx154_0⟩ := Kd.at_int HR0.out 0 p154 q154; obtain rfl : ad148 = ad154 := (by injection e154); have qi154 : (0 < l0.length) = True := eq_true (by omega); (try rw [show ((0 : Int)).toNat = 0 from rfl] at hx154_0); (try rw [Addr.add_zero'] at hx154_0); replace p154 := eq_true p154; replace q154 := eq_true q154))
                          go_ret
                          exact ⟨by first | rfl | (simp; done) | (simp [*]; done), by repeat (first | exact Drawn0.refl _ | apply Drawn0.step)⟩
                      · rw [if_neg c18] at H
                        have c18b0 : ((wrap64 (rd l0 0)) == 3) = false := beq_eq_false_iff_ne.mpr c18
                        have c18b1 : ((wrap64 (rd l0 0)) != 3) = true := bne_iff_ne.mpr c18
                        obtain rfl := Option.some.inj H
                        obtain ⟨i022, hi022, _, hsz22, _⟩ := info_parts info5
                        obtain ⟨hcut22, hA22, hC22⟩ := print_take_of (P := Try.prog) (Value.int .u8) 0 23 5 .i64 Try.underlying23 hi022 hsz22 (some ad148) c0 l0 16 (by omega) (of_decide_eq_true (by first | (with_reducible assumption) | assumption)) HC0.out
                        have HR152 := Aside0.mk (Kd.C_of_reads (h1 := fun _ => rfl) (hA22 _ (Kd.reads_of_C HR0.out)))
                        have HC152 := Aside0.mk hC22
                        clear hA22 hC22 hi022 hsz22
                        go_wp2_with (first | ((with_reducible refine gate_callee (f := 47) rfl ?_); refine goesL_ (some 34) rfl rfl Try.func47 (by kernel_rfl) rfl #[.slice (some ad148) (l0.take 16).length c0] rfl (by (try simp only [List.map_toArray, List.map_cons, List.map_nil]); first | done | (rw [show (l0.take 16).length = 16 from (by rw [List.length_take]; have h_ : (16 : Int) ≤ (l0.length : Int) := of_decide_eq_true (by first | (with_reducible assumption) | assumption); omega)] <;> rfl) | rfl | (simp only [List.length_drop, List.length_take]; rfl)) ?_; (with_reducible refine (sum_Right.calls kj5 _ _ (l0.take 16) true _ ?side1 ?side2 A13.out).mono ?_); (case side1 => repeat (first | exact HR152.out | (with_reducible refine Kd.C_alloc ?_ _) | (with_reducible refine Kd.C_drewN ?_ _) | (with_reducible refine Kd.C_drew ?_))); (case side2 => exact HC152.out); rintro e w' ⟨rfl, ⟨nd, rfl⟩⟩; refine ⟨_, rfl, ?_⟩; have p154 : 0 ≤ (0 : Int) := (by omega); have q154 : 0 < (l0.length : Int) := of_decide_eq_true (by first | (with_reducible assumption) | assumption); obtain ⟨ad154, e154, hx154_0⟩ := Kd.at_int HR0.out 0 p154 q154; obtain rfl : ad148 = ad154 := (by injection e154); have qi154 : (0 < l0.length) = True := eq_true (by omega); (try rw [show ((0 : Int)).toNat = 0 from rfl] at hx154_0); (try rw [Addr.add_zero'] at hx154_0); replace p154 := eq_true p154; replace q154 := eq_true q154))
                        go_ret
                        exact ⟨by first | rfl | (simp; done) | (simp [*]; done), by repeat (first | exact Drawn0.refl _ | apply Drawn0.step)⟩
                    · rw [if_neg c17] at H
                      exact absurd H (by simp)
                · replace c14 := Bool.eq_false_iff.mpr c14
                  subst c14
                  have H1 : (some 4) = some r := by rw [if_neg (show ¬ (false = true) by decide)] at H; exact H
                  clear H
                  have H := H1
                  clear H1
                  obtain rfl := Option.some.inj H
                  obtain ⟨i023, hi023, _, hsz23, _⟩ := info_parts info5
                  obtain ⟨hcut23, hA23, hC23⟩ := print_take_of (P := Try.prog) (Value.int .u8) 0 23 5 .i64 Try.underlying23 hi023 hsz23 (some ad148) c0 l0 16 (by omega) (of_decide_eq_true (by first | (with_reducible assumption) | assumption)) HC0.out
                  have HR152 := Aside0.mk (Kd.C_of_reads (h1 := fun _ => rfl) (hA23 _ (Kd.reads_of_C HR0.out)))
                  have HC152 := Aside0.mk hC23
                  clear hA23 hC23 hi023 hsz23
                  go_wp2_with (first | ((with_reducible refine gate_callee (f := 47) rfl ?_); refine goesL_ (some 34) rfl rfl Try.func47 (by kernel_rfl) rfl #[.slice (some ad148) (l0.take 16).length c0] rfl (by (try simp only [List.map_toArray, List.map_cons, List.map_nil]); first | done | (rw [show (l0.take 16).length = 16 from (by rw [List.length_take]; have h_ : (16 : Int) ≤ (l0.length : Int) := of_decide_eq_true (by first | (with_reducible assumption) | assumption); omega)] <;> rfl) | rfl | (simp only [List.length_drop, List.length_take]; rfl)) ?_; (with_reducible refine (sum_Right.calls kj5 _ _ (l0.take 16) false _ ?side1 ?side2 A13.out).mono ?_); (case side1 => repeat (first | exact HR152.out | (with_reducible refine Kd.C_alloc ?_ _) | (with_reducible refine Kd.C_drewN ?_ _) | (with_reducible refine Kd.C_drew ?_))); (case side2 => exact HC152.out); rintro e w' ⟨rfl, ⟨nd, rfl⟩⟩; refine ⟨_, rfl, ?_⟩))
                  go_ret
                  exact ⟨by first | rfl | (simp; done) | (simp [*]; done), by repeat (first | exact Drawn0.refl _ | apply Drawn0.step)⟩
              · rw [if_neg c12] at H
                exact absurd H (by simp)
      · replace c5 := Bool.eq_false_iff.mpr c5
        subst c5
        have H1 : (some 2) = some r := by rw [if_neg (show ¬ (false = true) by decide)] at H; exact H
        clear H
        have H := H1
        clear H1
        obtain rfl := Option.some.inj H
        have p148 : 0 ≤ (0 : Int) := (by omega)
        have q148 : 0 < (l0.length : Int) := of_decide_eq_true (by first | (with_reducible assumption) | assumption)
        obtain ⟨ad148, e148, hx148_0⟩ := Kd.at_int HR0.out 0 p148 q148
        cases e148
        have qi148 : (0 < l0.length) = True := eq_true (by omega)
        (try rw [show ((0 : Int)).toNat = 0 from rfl] at hx148_0)
        (try rw [Addr.add_zero'] at hx148_0)
        replace p148 := eq_true p148
        replace q148 := eq_true q148
        go_enter Try.func44, Try.ntmps44
        go_wp2_with (first | ((with_reducible refine gate_callee (f := 34) rfl ?_); refine goesL_ (some 12) rfl rfl Try.func34 (by kernel_rfl) rfl #[.int .i64 (wrap64 (rd l0 0))] rfl (by (try simp only [List.map_toArray, List.map_cons, List.map_nil]); first | done | rfl | (simp only [List.length_drop, List.length_take]; rfl)) ?_; (with_reducible refine (wire_known.calls (wrap64 (rd l0 0)) false _ A4.out).mono ?_); rintro e w' ⟨rfl, ⟨nd, rfl⟩⟩; refine ⟨_, rfl, ?_⟩))
        go_ret
        exact ⟨by first | rfl | (simp; done) | (simp [*]; done), by repeat (first | exact Drawn0.refl _ | apply Drawn0.step)⟩
    · rw [if_neg c3] at H
      exact absurd H (by simp)





def sum_Turn.f (a0 : Int) (a1 : Int) (a2 : Int) : Option (Int) := (sum_Plus.f (wrap64 (65535 - a1)) a2).bind fun t168 => ((sum_Plus.f (wrap64 (65535 - a0)) t168).bind fun t169 => (some (wrap64 (65535 - t169))))
set_option maxHeartbeats 8000000 in
set_option maxRecDepth 100000 in
theorem sum_Turn.calls (a0 : Int) (a1 : Int) (a2 : Int) (r : Int) (w : World) (h : sum_Turn.f a0 a1 a2 = some r) :
    Calls Try.prog 60 #[.int .i64 a0, .int .i64 a1, .int .i64 a2] w fun e w' => e = .returned (.int .i64 r) ∧ Drawn0 w w' := by
  have H : ((sum_Plus.f (wrap64 (65535 - a1)) a2).bind fun t168 => ((sum_Plus.f (wrap64 (65535 - a0)) t168).bind fun t169 => (some (wrap64 (65535 - t169))))) = some r := h
  clear h
  replace H := Option.bind_eq_some_iff.mp H
  obtain ⟨t168, A40, H⟩ := H
  replace H : ((sum_Plus.f (wrap64 (65535 - a0)) t168).bind fun t169 => (some (wrap64 (65535 - t169)))) = some r := H
  have A4 := Aside0.mk A40
  clear A40
  replace H := Option.bind_eq_some_iff.mp H
  obtain ⟨t169, A50, H⟩ := H
  replace H : (some (wrap64 (65535 - t169))) = some r := H
  have A5 := Aside0.mk A50
  clear A50
  obtain rfl := Option.some.inj H
  go_enter Try.func60, Try.ntmps60
  go_wp2_with (first | ((with_reducible refine gate_callee (f := 62) rfl ?_); refine goesL_ (some 12) rfl rfl Try.func62 (by kernel_rfl) rfl #[.int .i64 (wrap64 (65535 - a1)), .int .i64 a2] rfl (by (try simp only [List.map_toArray, List.map_cons, List.map_nil]); first | done | rfl | (simp only [List.length_drop, List.length_take]; rfl)) ?_; (with_reducible refine (sum_Plus.calls (wrap64 (65535 - a1)) a2 t168 _ A4.out).mono ?_); rintro e w' ⟨rfl, ⟨nd, rfl⟩⟩; refine ⟨_, rfl, ?_⟩) | ((with_reducible refine gate_callee (f := 62) rfl ?_); refine goesL_ (some 13) rfl rfl Try.func62 (by kernel_rfl) rfl #[.int .i64 (wrap64 (65535 - a0)), .int .i64 t168] rfl (by (try simp only [List.map_toArray, List.map_cons, List.map_nil]); first | done | rfl | (simp only [List.length_drop, List.length_take]; rfl)) ?_; (with_reducible refine (sum_Plus.calls (wrap64 (65535 - a0)) t168 t169 _ A5.out).mono ?_); rintro e w' ⟨rfl, ⟨nd, rfl⟩⟩; refine ⟨_, rfl, ?_⟩))
  go_ret
  exact ⟨by first | rfl | (simp; done) | (simp [*]; done), by repeat (first | exact Drawn0.refl _ | apply Drawn0.step)⟩

def wire_pair.f (k : Nat) (l0 : List Int) (a1 : Int) : Option (Int) := if (wrap64 (a1 + 1)) = (l0.length : Int) then (if 0 ≤ a1 then (if a1 < (l0.length : Int) then (some (wrap64 ((wrap64 (rd l0 a1)) * 256))) else (none)) else (none)) else ((wire_get.f k l0 a1 2).bind fun t171 => (some t171))
theorem wire_pair.mono : ∀ a0 a1 k, LeO (wire_pair.f k a0 a1) (wire_pair.f (k + 1) a0 a1) := by
  intro a0 a1 k
  unfold wire_pair.f
  repeat' first
      | (with_reducible exact wire_get.mono _ _ _ _)
      | (with_reducible exact LeO.refl _)
      | (with_reducible exact LeO.none _)
      | (with_reducible refine LeO.ite ?_ ?_)
      | (with_reducible refine LeO.bind ?_ (fun _ => ?_))
      | exact wire_get.mono _ _ _ _
      | exact LeO.none _
      | refine LeO.ite ?_ ?_
      | refine LeO.bind ?_ (fun _ => ?_)
set_option maxHeartbeats 8000000 in
set_option maxRecDepth 100000 in
theorem wire_pair.calls (k : Nat) (A0 : Option Addr) (c0 : Nat) (l0 : List Int) (a1 : Int) (r : Int) (w : World) (hr0 : Kd.C (Kd.int .u8) w A0 l0.length l0) (hc0 : l0.length ≤ c0) (h : wire_pair.f k l0 a1 = some r) :
    Calls Try.prog 61 #[.slice A0 l0.length c0, .int .i64 a1] w fun e w' => e = .returned (.int .i64 r) ∧ Drawn0 w w' := by
  have HR0 := Aside0.mk hr0
  have HC0 := Aside0.mk hc0
  clear hr0 hc0
  have H : (if (wrap64 (a1 + 1)) = (l0.length : Int) then (if 0 ≤ a1 then (if a1 < (l0.length : Int) then (some (wrap64 ((wrap64 (rd l0 a1)) * 256))) else (none)) else (none)) else ((wire_get.f k l0 a1 2).bind fun t171 => (some t171))) = some r := h
  clear h
  by_cases c3 : (wrap64 (a1 + 1)) = (l0.length : Int)
  · rw [if_pos c3] at H
    have c3b0 : ((wrap64 (a1 + 1)) == (l0.length : Int)) = true := beq_iff_eq.mpr c3
    have c3b1 : ((wrap64 (a1 + 1)) != (l0.length : Int)) = false := bne_eq_false_iff_eq.mpr c3
    clear c3
    by_cases c4 : 0 ≤ a1
    · rw [if_pos c4] at H
      have c4b0 : decide (0 ≤ a1) = true := decide_eq_true c4
      clear c4
      by_cases c5 : a1 < (l0.length : Int)
      · rw [if_pos c5] at H
        have c5b0 : decide (a1 < (l0.length : Int)) = true := decide_eq_true c5
        clear c5
        obtain rfl := Option.some.inj H
        have p170 : 0 ≤ (a1 : Int) := of_decide_eq_true (by first | (with_reducible assumption) | assumption)
        have q170 : a1 < (l0.length : Int) := of_decide_eq_true (by first | (with_reducible assumption) | assumption)
        obtain ⟨ad170, e170, hx170_0⟩ := Kd.at_int HR0.out a1 p170 q170
        cases e170
        replace p170 := eq_true p170
        replace q170 := eq_true q170
        go_enter Try.func61, Try.ntmps61
        go_wp2
        go_ret
        exact ⟨by first | rfl | (simp; done) | (simp [*]; done), by repeat (first | exact Drawn0.refl _ | apply Drawn0.step)⟩
      · rw [if_neg c5] at H
        exact absurd H (by simp)
    · rw [if_neg c4] at H
      exact absurd H (by simp)
  · rw [if_neg c3] at H
    have c3b0 : ((wrap64 (a1 + 1)) == (l0.length : Int)) = false := beq_eq_false_iff_ne.mpr c3
    have c3b1 : ((wrap64 (a1 + 1)) != (l0.length : Int)) = true := bne_iff_ne.mpr c3
    replace H := Option.bind_eq_some_iff.mp H
    obtain ⟨t171, A60, H⟩ := H
    replace H : (some t171) = some r := H
    have A6 := Aside0.mk A60
    clear A60
    obtain rfl := Option.some.inj H
    go_enter Try.func61, Try.ntmps61
    go_wp2_with (first | ((with_reducible refine gate_callee (f := 45) rfl ?_); refine goesL_ (some 18) rfl rfl Try.func45 (by kernel_rfl) rfl #[.slice A0 l0.length c0, .int .i64 a1, .int .i64 2] rfl (by (try simp only [List.map_toArray, List.map_cons, List.map_nil]); first | done | rfl | (simp only [List.length_drop, List.length_take]; rfl)) ?_; (with_reducible refine (wire_get.calls k _ _ l0 a1 2 t171 _ ?side1 ?side2 A6.out).mono ?_); (case side1 => repeat (first | exact HR0.out | (with_reducible refine Kd.C_alloc ?_ _) | (with_reducible refine Kd.C_drewN ?_ _) | (with_reducible refine Kd.C_drew ?_))); (case side2 => exact HC0.out); rintro e w' ⟨rfl, ⟨nd, rfl⟩⟩; refine ⟨_, rfl, ?_⟩))
    go_ret
    exact ⟨by first | rfl | (simp; done) | (simp [*]; done), by repeat (first | exact Drawn0.refl _ | apply Drawn0.step)⟩








def roundhouselaw3_within.f (a0 : Int) (a1 : Int) : Option (Int) := if a1 = 0 then (none) else (if (Int.tmod a0 a1) < 0 then (some (wrap64 ((Int.tmod a0 a1) + a1))) else (some (Int.tmod a0 a1)))
set_option maxHeartbeats 8000000 in
set_option maxRecDepth 100000 in
theorem roundhouselaw3_within.calls (a0 : Int) (a1 : Int) (r : Int) (w : World) (h : roundhouselaw3_within.f a0 a1 = some r) :
    Calls Try.prog 22 #[.int .i64 a0, .int .i64 a1] w fun e w' => e = .returned (.int .i64 r) ∧ Drawn0 w w' := by
  have H : (if a1 = 0 then (none) else (if (Int.tmod a0 a1) < 0 then (some (wrap64 ((Int.tmod a0 a1) + a1))) else (some (Int.tmod a0 a1)))) = some r := h
  clear h
  by_cases c3 : a1 = 0
  · rw [if_pos c3] at H
    exact absurd H (by simp)
  · rw [if_neg c3] at H
    have c3b0 : (a1 == 0) = false := beq_eq_false_iff_ne.mpr c3
    have c3b1 : (a1 != 0) = true := bne_iff_ne.mpr c3
    by_cases c4 : (Int.tmod a0 a1) < 0
    · rw [if_pos c4] at H
      have c4b0 : decide ((Int.tmod a0 a1) < 0) = true := decide_eq_true c4
      clear c4
      obtain rfl := Option.some.inj H
      go_enter Try.func22, Try.ntmps22
      go_wp2
      go_ret
      exact ⟨by first | rfl | (simp; done) | (simp [*]; done), by repeat (first | exact Drawn0.refl _ | apply Drawn0.step)⟩
    · rw [if_neg c4] at H
      have c4b0 : decide ((Int.tmod a0 a1) < 0) = false := decide_eq_false c4
      clear c4
      obtain rfl := Option.some.inj H
      go_enter Try.func22, Try.ntmps22
      go_wp2
      go_ret
      exact ⟨by first | rfl | (simp; done) | (simp [*]; done), by repeat (first | exact Drawn0.refl _ | apply Drawn0.step)⟩


end Go.Proofs.Ytbjhmifhmojaoaa.Hp

namespace Go.Proofs.Ytbjhmifhmojaoaa.Hp
open Go.RowKit Go.Proofs.YtbjhmifhmojaoaaW.PrintWords Go.Proofs.YtbjhmifhmojaoaaW.PrintLast Go.Proofs.YtbjhmifhmojaoaaW.PrintMore
set_option linter.unusedVariables false
set_option linter.unusedSimpArgs false
def roundhouseref1_Plus.f (a0 : Int) (a1 : Int) : Option (Int) := if (wrap64 (a0 + a1)) > 65535 then (some (wrap64 ((wrap64 (a0 + a1)) - 65535))) else (some (wrap64 (a0 + a1)))
set_option maxHeartbeats 8000000 in
set_option maxRecDepth 100000 in
theorem roundhouseref1_Plus.calls (a0 : Int) (a1 : Int) (r : Int) (w : World) (h : roundhouseref1_Plus.f a0 a1 = some r) :
    Calls Try.prog 59 #[.int .i64 a0, .int .i64 a1] w fun e w' => e = .returned (.int .i64 r) ∧ Drawn0 w w' := by
  have H : (if (wrap64 (a0 + a1)) > 65535 then (some (wrap64 ((wrap64 (a0 + a1)) - 65535))) else (some (wrap64 (a0 + a1)))) = some r := h
  clear h
  by_cases c3 : (wrap64 (a0 + a1)) > 65535
  · rw [if_pos c3] at H
    have c3b0 : decide (65535 < (wrap64 (a0 + a1))) = true := decide_eq_true c3
    clear c3
    obtain rfl := Option.some.inj H
    go_enter Try.func59, Try.ntmps59
    go_wp2
    go_ret
    exact ⟨by first | rfl | (simp; done) | (simp [*]; done), by repeat (first | exact Drawn0.refl _ | apply Drawn0.step)⟩
  · rw [if_neg c3] at H
    have c3b0 : decide (65535 < (wrap64 (a0 + a1))) = false := decide_eq_false c3
    clear c3
    obtain rfl := Option.some.inj H
    go_enter Try.func59, Try.ntmps59
    go_wp2
    go_ret
    exact ⟨by first | rfl | (simp; done) | (simp [*]; done), by repeat (first | exact Drawn0.refl _ | apply Drawn0.step)⟩

def roundhouseref1_Add.l0 : Nat → List Int → Int → Int → Option (Int)
  | 0, _, _, _ => none
  | k + 1, x0, x3, x4 => if x4 < (x0.length : Int) then (if 0 ≤ x4 then (if (wrap64 (x4 + 1)) < (x0.length : Int) then (if 0 ≤ (wrap64 (x4 + 1)) then ((roundhouseref1_Plus.f x3 (wrap64 ((wrap64 ((wrap64 (rd x0 x4)) * 256)) + (wrap64 (rd x0 (wrap64 (x4 + 1))))))).bind fun t183 => (roundhouseref1_Add.l0 k x0 t183 (wrap64 (x4 + 2)))) else (none)) else ((roundhouseref1_Plus.f x3 (wrap64 ((wrap64 (rd x0 x4)) * 256))).bind fun t184 => (roundhouseref1_Add.l0 k x0 t184 (wrap64 (x4 + 2))))) else (none)) else (some x3)
def roundhouseref1_Add.f (k : Nat) (l0 : List Int) : Option (Int) := roundhouseref1_Add.l0 k l0 0 0
theorem roundhouseref1_Add.mono_l : ∀ k, (∀ y0 y1 y2, LeO (roundhouseref1_Add.l0 k y0 y1 y2) (roundhouseref1_Add.l0 (k + 1) y0 y1 y2))
  | 0 => fun _ _ _ r h => by simp [roundhouseref1_Add.l0] at h
  | k + 1 => by
    have ih0 := roundhouseref1_Add.mono_l k
    · intro y0 y1 y2
      unfold roundhouseref1_Add.l0
      repeat' first
      | (with_reducible exact ih0 _ _ _)
      | (with_reducible exact LeO.refl _)
      | (with_reducible exact LeO.none _)
      | (with_reducible refine LeO.ite ?_ ?_)
      | (with_reducible refine LeO.bind ?_ (fun _ => ?_))
      | exact ih0 _ _ _
      | exact LeO.none _
      | refine LeO.ite ?_ ?_
      | refine LeO.bind ?_ (fun _ => ?_)
theorem roundhouseref1_Add.mono : ∀ a0 k, LeO (roundhouseref1_Add.f k a0) (roundhouseref1_Add.f (k + 1) a0) := by
  intro a0 k
  have ih0 := roundhouseref1_Add.mono_l k
  unfold roundhouseref1_Add.f
  repeat' first
      | (with_reducible exact ih0 _ _ _)
      | (with_reducible exact LeO.refl _)
      | (with_reducible exact LeO.none _)
      | (with_reducible refine LeO.ite ?_ ?_)
      | (with_reducible refine LeO.bind ?_ (fun _ => ?_))
      | exact ih0 _ _ _
      | exact LeO.none _
      | refine LeO.ite ?_ ?_
      | refine LeO.bind ?_ (fun _ => ?_)
set_option maxHeartbeats 8000000 in
set_option maxRecDepth 100000 in
theorem roundhouseref1_Add.calls (k : Nat) (A0 : Option Addr) (c0 : Nat) (l0 : List Int) (r : Int) (w : World) (hr0 : Kd.C (Kd.int .u8) w A0 l0.length l0) (hc0 : l0.length ≤ c0) (h : roundhouseref1_Add.f k l0 = some r) :
    Calls Try.prog 48 #[.slice A0 l0.length c0] w fun e w' => e = .returned (.int .i64 r) ∧ Drawn0 w w' := by
  have HR0 := Aside0.mk hr0
  have HC0 := Aside0.mk hc0
  clear hr0 hc0
  have H : (roundhouseref1_Add.l0 k l0 0 0) = some r := h
  clear h
  have H' := Aside0.mk H
  clear H
  go_enter Try.func48, Try.ntmps48
  go_wp2
  go_loopg [3, 4] k (fun kq v3 v4 w' => ∃ (x3_1 : Int) (x4_1 : Int), v3 = .int .i64 x3_1 ∧ v4 = .int .i64 x4_1 ∧ Aside0 (roundhouseref1_Add.l0 kq l0 x3_1 x4_1 = some r) ∧ Aside0 (kq ≤ k) ∧ Drawn0 w w')
  case atStart => exact ⟨(0), (0), (by first | rfl | (simp; done) | (simp [*]; done)), (by first | rfl | (simp; done) | (simp [*]; done)), H', ⟨Nat.le_refl _⟩, by repeat (first | exact Drawn0.refl _ | apply Drawn0.step)⟩
  case round =>
    clear H'
    obtain ⟨x3_1, x4_1, rfl, rfl, HA, HK1, ⟨m1, rfl⟩⟩ := hrel
    cases gk with
    | zero => exact absurd HA.out (by simp [roundhouseref1_Add.l0])
    | succ k1 =>
      have H := HA.out
      clear HA
      simp only [roundhouseref1_Add.l0] at H
      by_cases c2 : x4_1 < (l0.length : Int)
      · rw [if_pos c2] at H
        have c2b0 : decide (x4_1 < (l0.length : Int)) = true := decide_eq_true c2
        clear c2
        by_cases c3 : 0 ≤ x4_1
        · rw [if_pos c3] at H
          have c3b0 : decide (0 ≤ x4_1) = true := decide_eq_true c3
          clear c3
          by_cases c4 : (wrap64 (x4_1 + 1)) < (l0.length : Int)
          · rw [if_pos c4] at H
            have c4b0 : decide ((wrap64 (x4_1 + 1)) < (l0.length : Int)) = true := decide_eq_true c4
            clear c4
            obtain ⟨ji5, hji5⟩ : ∃ j_ : Int, (wrap64 (x4_1 + 1)) = j_ := ⟨_, rfl⟩
            replace H : (if 0 ≤ (ji5) then ((roundhouseref1_Plus.f x3_1 (wrap64 ((wrap64 ((wrap64 (rd l0 x4_1)) * 256)) + (wrap64 (rd l0 (ji5)))))).bind fun t183 => (roundhouseref1_Add.l0 k1 l0 t183 (wrap64 (x4_1 + 2)))) else (none)) = some r := by first | (rw [hji5] at H; exact H) | (simp only [hji5] at H ⊢; exact H)
            (try rw [hji5] at c4b0)
            have hji5w : (IntKind.i64.wrap (x4_1 + 1)) = ji5 := (i64_w _).trans hji5
            by_cases c6 : 0 ≤ (ji5)
            · rw [if_pos c6] at H
              have c6b0 : decide (0 ≤ (ji5)) = true := decide_eq_true c6
              clear c6
              replace H := Option.bind_eq_some_iff.mp H
              obtain ⟨t183, A70, H⟩ := H
              replace H : (roundhouseref1_Add.l0 k1 l0 t183 (wrap64 (x4_1 + 2))) = some r := H
              have A7 := Aside0.mk A70
              clear A70
              have H' := Aside0.mk H
              clear H
              have p181 : 0 ≤ (x4_1 : Int) := of_decide_eq_true (by first | (with_reducible assumption) | assumption)
              have q181 : x4_1 < (l0.length : Int) := of_decide_eq_true (by first | (with_reducible assumption) | assumption)
              obtain ⟨ad181, e181, hx181_0⟩ := Kd.at_int HR0.out x4_1 p181 q181
              cases e181
              replace p181 := eq_true p181
              replace q181 := eq_true q181
              have p182 : 0 ≤ ((ji5) : Int) := of_decide_eq_true (by first | (with_reducible assumption) | assumption)
              have q182 : (ji5) < (l0.length : Int) := of_decide_eq_true (by first | (with_reducible assumption) | assumption)
              obtain ⟨ad182, e182, hx182_0⟩ := Kd.at_int HR0.out (ji5) p182 q182
              obtain rfl : ad181 = ad182 := (by injection e182)
              replace p182 := eq_true p182
              replace q182 := eq_true q182
              go_wp2_with (first | ((with_reducible refine gate_callee (f := 59) rfl ?_); refine goesL_ (some 33) rfl rfl Try.func59 (by kernel_rfl) rfl #[.int .i64 x3_1, .int .i64 (wrap64 ((wrap64 ((wrap64 (rd l0 x4_1)) * 256)) + (wrap64 (rd l0 (ji5)))))] rfl (by (try simp only [List.map_toArray, List.map_cons, List.map_nil]); first | done | (simp only [hji5]; rfl) | rfl | (simp only [List.length_drop, List.length_take]; rfl)) ?_; (with_reducible refine (roundhouseref1_Plus.calls x3_1 (wrap64 ((wrap64 ((wrap64 (rd l0 x4_1)) * 256)) + (wrap64 (rd l0 (ji5))))) t183 _ A7.out).mono ?_); rintro e w' ⟨rfl, ⟨nd, rfl⟩⟩; refine ⟨_, rfl, ?_⟩))
              go_roundg k1
              case measure => have := HK1.out; omega
              case rel => exact ⟨(t183), (wrap64 (x4_1 + 2)), (by first | rfl | (simp; done) | (simp [*]; done)), (by first | rfl | (simp; done) | (simp [*]; done)), H', ⟨by have := HK1.out; omega⟩, by repeat (first | exact Drawn0.refl _ | apply Drawn0.step)⟩
            · rw [if_neg c6] at H
              exact absurd H (by simp)
          · rw [if_neg c4] at H
            have c4b0 : decide ((wrap64 (x4_1 + 1)) < (l0.length : Int)) = false := decide_eq_false c4
            clear c4
            replace H := Option.bind_eq_some_iff.mp H
            obtain ⟨t184, A80, H⟩ := H
            replace H : (roundhouseref1_Add.l0 k1 l0 t184 (wrap64 (x4_1 + 2))) = some r := H
            have A8 := Aside0.mk A80
            clear A80
            have H' := Aside0.mk H
            clear H
            have p181 : 0 ≤ (x4_1 : Int) := of_decide_eq_true (by first | (with_reducible assumption) | assumption)
            have q181 : x4_1 < (l0.length : Int) := of_decide_eq_true (by first | (with_reducible assumption) | assumption)
            obtain ⟨ad181, e181, hx181_0⟩ := Kd.at_int HR0.out x4_1 p181 q181
            cases e181
            replace p181 := eq_true p181
            replace q181 := eq_true q181
            go_wp2_with (first | ((with_reducible refine gate_callee (f := 59) rfl ?_); refine goesL_ (some 33) rfl rfl Try.func59 (by kernel_rfl) rfl #[.int .i64 x3_1, .int .i64 (wrap64 ((wrap64 (rd l0 x4_1)) * 256))] rfl (by (try simp only [List.map_toArray, List.map_cons, List.map_nil]); first | done | rfl | (simp only [List.length_drop, List.length_take]; rfl)) ?_; (with_reducible refine (roundhouseref1_Plus.calls x3_1 (wrap64 ((wrap64 (rd l0 x4_1)) * 256)) t184 _ A8.out).mono ?_); rintro e w' ⟨rfl, ⟨nd, rfl⟩⟩; refine ⟨_, rfl, ?_⟩))
            go_roundg k1
            case measure => have := HK1.out; omega
            case rel => exact ⟨(t184), (wrap64 (x4_1 + 2)), (by first | rfl | (simp; done) | (simp [*]; done)), (by first | rfl | (simp; done) | (simp [*]; done)), H', ⟨by have := HK1.out; omega⟩, by repeat (first | exact Drawn0.refl _ | apply Drawn0.step)⟩
        · rw [if_neg c3] at H
          exact absurd H (by simp)
      · rw [if_neg c2] at H
        have c2b0 : decide (x4_1 < (l0.length : Int)) = false := decide_eq_false c2
        clear c2
        obtain rfl := Option.some.inj H
        go_wp2
        go_ret
        exact ⟨by first | rfl | (simp; done) | (simp [*]; done), by repeat (first | exact Drawn0.refl _ | apply Drawn0.step)⟩

def roundhouseref1_Of.f (k : Nat) (l0 : List Int) : Option (Int) := (roundhouseref1_Add.f k l0).bind fun t185 => (some (wrap64 (65535 - t185)))
theorem roundhouseref1_Of.mono : ∀ a0 k, LeO (roundhouseref1_Of.f k a0) (roundhouseref1_Of.f (k + 1) a0) := by
  intro a0 k
  unfold roundhouseref1_Of.f
  repeat' first
      | (with_reducible exact roundhouseref1_Add.mono _ _)
      | (with_reducible exact LeO.refl _)
      | (with_reducible exact LeO.none _)
      | (with_reducible refine LeO.ite ?_ ?_)
      | (with_reducible refine LeO.bind ?_ (fun _ => ?_))
      | exact roundhouseref1_Add.mono _ _
      | exact LeO.none _
      | refine LeO.ite ?_ ?_
      | refine LeO.bind ?_ (fun _ => ?_)
set_option maxHeartbeats 8000000 in
set_option maxRecDepth 100000 in
theorem roundhouseref1_Of.calls (k : Nat) (A0 : Option Addr) (c0 : Nat) (l0 : List Int) (r : Int) (w : World) (hr0 : Kd.C (Kd.int .u8) w A0 l0.length l0) (hc0 : l0.length ≤ c0) (h : roundhouseref1_Of.f k l0 = some r) :
    Calls Try.prog 23 #[.slice A0 l0.length c0] w fun e w' => e = .returned (.int .i64 r) ∧ Drawn0 w w' := by
  have HR0 := Aside0.mk hr0
  have HC0 := Aside0.mk hc0
  clear hr0 hc0
  have H : ((roundhouseref1_Add.f k l0).bind fun t185 => (some (wrap64 (65535 - t185)))) = some r := h
  clear h
  replace H := Option.bind_eq_some_iff.mp H
  obtain ⟨t185, A20, H⟩ := H
  replace H : (some (wrap64 (65535 - t185))) = some r := H
  have A2 := Aside0.mk A20
  clear A20
  obtain rfl := Option.some.inj H
  go_enter Try.func23, Try.ntmps23
  go_wp2_with (first | ((with_reducible refine gate_callee (f := 48) rfl ?_); refine goesL_ (some 4) rfl rfl Try.func48 (by kernel_rfl) rfl #[.slice A0 l0.length c0] rfl (by (try simp only [List.map_toArray, List.map_cons, List.map_nil]); first | done | rfl | (simp only [List.length_drop, List.length_take]; rfl)) ?_; (with_reducible refine (roundhouseref1_Add.calls k _ _ l0 t185 _ ?side1 ?side2 A2.out).mono ?_); (case side1 => repeat (first | exact HR0.out | (with_reducible refine Kd.C_alloc ?_ _) | (with_reducible refine Kd.C_drewN ?_ _) | (with_reducible refine Kd.C_drew ?_))); (case side2 => exact HC0.out); rintro e w' ⟨rfl, ⟨nd, rfl⟩⟩; refine ⟨_, rfl, ?_⟩))
  go_ret
  exact ⟨by first | rfl | (simp; done) | (simp [*]; done), by repeat (first | exact Drawn0.refl _ | apply Drawn0.step)⟩

def roundhouseref3_out.f (a0 : Int) (a1 : Int) : Option (Bool) := if a0 < 0 then (some true) else (some (decide (a0 > a1)))
set_option maxHeartbeats 8000000 in
set_option maxRecDepth 100000 in
theorem roundhouseref3_out.calls (a0 : Int) (a1 : Int) (r : Bool) (w : World) (h : roundhouseref3_out.f a0 a1 = some r) :
    Calls Try.prog 40 #[.int .i64 a0, .int .i64 a1] w fun e w' => e = .returned (.bool r) ∧ Drawn0 w w' := by
  have H : (if a0 < 0 then (some true) else (some (decide (a0 > a1)))) = some r := h
  clear h
  by_cases c3 : a0 < 0
  · rw [if_pos c3] at H
    have c3b0 : decide (a0 < 0) = true := decide_eq_true c3
    clear c3
    obtain rfl := Option.some.inj H
    go_enter Try.func40, Try.ntmps40
    go_wp2
    go_ret
    exact ⟨by first | rfl | (simp; done) | (simp [*]; done), by repeat (first | exact Drawn0.refl _ | apply Drawn0.step)⟩
  · rw [if_neg c3] at H
    have c3b0 : decide (a0 < 0) = false := decide_eq_false c3
    clear c3
    obtain rfl := Option.some.inj H
    go_enter Try.func40, Try.ntmps40
    go_wp2
    go_ret
    exact ⟨by first | rfl | (simp; done) | (simp [*]; done), by repeat (first | exact Drawn0.refl _ | apply Drawn0.step)⟩

def roundhouseref3_put.l0 : Nat → List Int → Int → Int → Int → Option (List Int)
  | 0, _, _, _, _ => none
  | k + 1, x0, x1, x3, x8 => if x8 ≥ 0 then (if 0 ≤ (wrap64 (x1 + x8)) then (if (wrap64 (x1 + x8)) < (x0.length : Int) then (roundhouseref3_put.l0 k (x0.set ((wrap64 (x1 + x8)) : Int).toNat ((x3) % 256)) x1 (x3 / 256) (wrap64 (x8 - 1))) else (none)) else (none)) else (some x0)
def roundhouseref3_put.f (k : Nat) (l0 : List Int) (a1 : Int) (a2 : Int) (a3 : Int) : Option (List Int) := roundhouseref3_put.l0 k l0 a1 a3 (wrap64 (a2 - 1))
theorem roundhouseref3_put.mono_l : ∀ k, (∀ y0 y1 y2 y3, LeO (roundhouseref3_put.l0 k y0 y1 y2 y3) (roundhouseref3_put.l0 (k + 1) y0 y1 y2 y3))
  | 0 => fun _ _ _ _ r h => by simp [roundhouseref3_put.l0] at h
  | k + 1 => by
    have ih0 := roundhouseref3_put.mono_l k
    · intro y0 y1 y2 y3
      unfold roundhouseref3_put.l0
      repeat' first
      | (with_reducible exact ih0 _ _ _ _)
      | (with_reducible exact LeO.refl _)
      | (with_reducible exact LeO.none _)
      | (with_reducible refine LeO.ite ?_ ?_)
      | (with_reducible refine LeO.bind ?_ (fun _ => ?_))
      | exact ih0 _ _ _ _
      | exact LeO.none _
      | refine LeO.ite ?_ ?_
      | refine LeO.bind ?_ (fun _ => ?_)
theorem roundhouseref3_put.mono : ∀ a0 a1 a2 a3 k, LeO (roundhouseref3_put.f k a0 a1 a2 a3) (roundhouseref3_put.f (k + 1) a0 a1 a2 a3) := by
  intro a0 a1 a2 a3 k
  have ih0 := roundhouseref3_put.mono_l k
  unfold roundhouseref3_put.f
  repeat' first
      | (with_reducible exact ih0 _ _ _ _)
      | (with_reducible exact LeO.refl _)
      | (with_reducible exact LeO.none _)
      | (with_reducible refine LeO.ite ?_ ?_)
      | (with_reducible refine LeO.bind ?_ (fun _ => ?_))
      | exact ih0 _ _ _ _
      | exact LeO.none _
      | refine LeO.ite ?_ ?_
      | refine LeO.bind ?_ (fun _ => ?_)
set_option maxHeartbeats 8000000 in
set_option maxRecDepth 100000 in
theorem roundhouseref3_put.calls (k : Nat) (P0_ : Nat → Prop) (u9000_ : Value) (l0 : List Int) (a1 : Int) (a2 : Int) (a3 : Int) (r : List Int) (w0 w : World) (hB : Below w0.heap.size w0 w) (ho0 : Kd.R (Kd.int .u8) 5 w w0.heap.size P0_ u9000_ l0) (h : roundhouseref3_put.f k l0 a1 a2 a3 = some r) :
    Calls Try.prog 41 #[u9000_, .int .i64 a1, .int .i64 a2, .int .i64 a3] w fun e w' => e = .returned (.tuple #[]) ∧ Kd.R (Kd.int .u8) 5 w' w0.heap.size (fun k_ => (P0_ k_ ∨ w.heap.size ≤ k_)) u9000_ r ∧ Below w0.heap.size w0 w' ∧ Kept w w' (fun k_ => P0_ k_) := by
  have HO0 := Aside0.mk (show Kd.R (Kd.int .u8) 5 w w0.heap.size (fun k_ => (P0_ k_ ∨ w.heap.size ≤ k_)) u9000_ l0 from Kd.R_mono ho0 (fun k_ hk => (.inl hk)))
  have HK := Aside0.mk (Kept.refl w (fun k_ => P0_ k_))
  have HW0 := Aside0.mk hB.size
  have HB := Aside0.mk hB
  clear hB
  have H : (roundhouseref3_put.l0 k l0 a1 a3 (wrap64 (a2 - 1))) = some r := h
  clear h
  have H' := Aside0.mk H
  clear H
  go_enter Try.func41, Try.ntmps41
  go_wp2
  go_loopg [3, 8] k (fun kq v3 v8 w' => ∃ (x0_1 : List Int) (x3_1 : Int) (x8_1 : Int), v3 = .int .i64 x3_1 ∧ v8 = .int .i64 x8_1 ∧ Aside0 (roundhouseref3_put.l0 kq x0_1 a1 x3_1 x8_1 = some r) ∧ Aside0 (kq ≤ k) ∧ Aside0 (Kd.R (Kd.int .u8) 5 w' w0.heap.size (fun k_ => (P0_ k_ ∨ w.heap.size ≤ k_)) u9000_ x0_1) ∧ Aside0 (Kept w w' (fun k_ => P0_ k_)) ∧ Aside0 (Below w0.heap.size w0 w'))
  case atStart => exact ⟨(l0), (a3), (wrap64 (a2 - 1)), (by first | rfl | (simp; done) | (simp [*]; done)), (by first | rfl | (simp; done) | (simp [*]; done)), H', ⟨Nat.le_refl _⟩, ⟨by (with_reducible repeat (first | apply Kd.R_alloc | apply Kd.R_drewN | apply Kd.R_drew)); exact HO0.out⟩, ⟨by repeat (first | (with_reducible first | exact HK.out | apply Kept.alloc | apply Kept.drewN | apply Kept.drew) | exact HK.out)⟩, ⟨by repeat (first | (with_reducible first | exact HB.out | apply below_alloc | apply pw_below_drewN | apply below_drew1) | exact HB.out)⟩⟩
  case round =>
    clear H'
    try clear p2
    try clear c4
    obtain ⟨x0_1, x3_1, x8_1, rfl, rfl, HA, HK1, HO_0, HK, HB⟩ := hrel
    cases gk with
    | zero => exact absurd HA.out (by simp [roundhouseref3_put.l0])
    | succ k1 =>
      have H := HA.out
      clear HA
      simp only [roundhouseref3_put.l0] at H
      by_cases c5 : x8_1 ≥ 0
      · rw [if_pos c5] at H
        have c5b0 : decide (0 ≤ x8_1) = true := decide_eq_true c5
        clear c5
        obtain ⟨ji6, hji6⟩ : ∃ j_ : Int, (wrap64 (a1 + x8_1)) = j_ := ⟨_, rfl⟩
        replace H : (if 0 ≤ (ji6) then (if (ji6) < (x0_1.length : Int) then (roundhouseref3_put.l0 k1 (x0_1.set ((ji6) : Int).toNat ((x3_1) % 256)) a1 (x3_1 / 256) (wrap64 (x8_1 - 1))) else (none)) else (none)) = some r := by first | (rw [hji6] at H; exact H) | (simp only [hji6] at H ⊢; exact H)
        have hji6w : (IntKind.i64.wrap (a1 + x8_1)) = ji6 := (i64_w _).trans hji6
        by_cases c7 : 0 ≤ (ji6)
        · rw [if_pos c7] at H
          have c7b0 : decide (0 ≤ (ji6)) = true := decide_eq_true c7
          clear c7
          by_cases c8 : (ji6) < (x0_1.length : Int)
          · rw [if_pos c8] at H
            have c8b0 : decide ((ji6) < (x0_1.length : Int)) = true := decide_eq_true c8
            clear c8
            obtain ⟨y186, hy186⟩ : ∃ y_ : List Int, y_ = (x0_1.set ((ji6) : Int).toNat ((x3_1) % 256)) := ⟨_, rfl⟩
            replace H : (roundhouseref3_put.l0 k1 y186 a1 (x3_1 / 256) (wrap64 (x8_1 - 1))) = some r := by first | (rw [hy186]; with_reducible exact H) | (have H2_ := (Option.bind_some _ _).symm.trans H; rw [hy186]; with_reducible exact H2_) | (have H2_ := (Option.bind_some _ _).symm.trans H; with_reducible exact H2_) | with_reducible exact H | (rw [hy186]; exact H) | exact H
            have Ny186 := Aside0.mk hy186
            clear hy186
            have H' := Aside0.mk H
            clear H
            have p9 : 0 ≤ ((ji6) : Int) := of_decide_eq_true (by first | (with_reducible assumption) | assumption)
            have q9 : ((ji6) : Int) < ((x0_1.length : Int) : Int) := of_decide_eq_true (by first | (with_reducible assumption) | assumption)
            obtain ⟨go9, co9, eo9, gb9, gl9, cl9, HG9⟩ := Kd.R_form HO_0.out (by omega)
            (first | cases eo9 | (injection eo9 with ea_ en_ ec_; (first | subst ea_ | (injection ea_ with ea_; subst ea_)); subst ec_; clear en_))
            have GB9 := Aside0.mk gb9
            have GG9 := Aside0.mk HG9
            clear gb9 gl9 HG9
            have HMgo9 := Aside0.mk (show (P0_ go9 ∨ w.heap.size ≤ go9) from (HO_0.out.1 _ rfl))
            obtain ⟨hx9_0, hf9_0⟩ := Kd.R_celln 0 HO_0.out ((ji6) : Int) p9 q9
            replace p9 := eq_true p9
            replace q9 := eq_true q9
            have HP10 := Kd.R_putg HO_0.out ((ji6) : Int) ((x3_1) % 256)
            go_wp2_with (first | ((with_reducible refine gate_store (t := 5) (p := 21) rfl ?_); refine store_event (t := 5) (p := 21) (v := ?vo_w11) (w1 := (wr.setCell ⟨go9, ((ji6) : Int).toNat, none⟩ (.int .u8 ((x3_1) % 256)))) ?hg ?ho ?hn ?hr ?_; (case ho => rfl); (case hg => rfl); (case hn => rfl); (case hr => first | (go_simp; done) | (go_simp; rfl)); intro w11 hw; have hg : wr.grownBy w11 (some go9) := (by rw [hw]; exact HP10.2); have hp_ : Kd.R (Kd.int .u8) 5 w11 w0.heap.size (fun k_ => (P0_ k_ ∨ w.heap.size ≤ k_)) (.slice (some ⟨go9, 0, none⟩) x0_1.length co9) y186 := (by rw [hw, Ny186.out]; exact HP10.1); clear HP10; have n0_ := Aside0.mk (hp_); have n1_ := Aside0.mk ((by rw [hw]; exact below_set (HB.out) GB9.out : Below w0.heap.size w0 w11)); have n2_ := Aside0.mk (Kept.of_grown (S := (fun k_ => P0_ k_)) hg (by repeat (first | (with_reducible first | exact HK.out | apply Kept.alloc | apply Kept.drewN | apply Kept.drew) | exact HK.out)) (fun k_ e_ => (HO_0.out.1 k_ e_))); clear HO_0; clear HB; clear HK; have HO_0 := n0_; have HB := n1_; have HK := n2_; clear n0_ n1_ n2_; clear hg hw hp_))
            go_roundg k1
            case measure => have := HK1.out; omega
            case rel => exact ⟨(y186), (x3_1 / 256), (wrap64 (x8_1 - 1)), (by first | rfl | (simp; done) | (simp [*]; done)), (by first | rfl | (simp; done) | (simp [*]; done)), H', ⟨by have := HK1.out; omega⟩, ⟨by (with_reducible repeat (first | apply Kd.R_alloc | apply Kd.R_drewN | apply Kd.R_drew)); exact HO_0.out⟩, ⟨by repeat (first | (with_reducible first | exact HK.out | apply Kept.alloc | apply Kept.drewN | apply Kept.drew) | exact HK.out)⟩, ⟨by repeat (first | (with_reducible first | exact HB.out | apply below_alloc | apply pw_below_drewN | apply below_drew1) | exact HB.out)⟩⟩
          · rw [if_neg c8] at H
            exact absurd H (by simp)
        · rw [if_neg c7] at H
          exact absurd H (by simp)
      · rw [if_neg c5] at H
        have c5b0 : decide (0 ≤ x8_1) = false := decide_eq_false c5
        clear c5
        obtain rfl := Option.some.inj H
        go_wp2
        first | go_end0 | ((try simp only [Exit.inBlock, Exit.then]); refine bodyPost_ret (results_none rfl _ _ _) rfl ?_)
        exact ⟨by first | rfl | (simp [errW_none, errW_some] <;> rfl) | (simp [*, errW_none, errW_some] <;> rfl), by (with_reducible repeat (first | apply Kd.R_alloc | apply Kd.R_drewN | apply Kd.R_drew)); exact HO_0.out, by repeat (first | (with_reducible first | exact HB.out | apply below_alloc | apply pw_below_drewN | apply below_drew1) | exact HB.out), by repeat (first | (with_reducible first | exact HK.out | apply Kept.alloc | apply Kept.drewN | apply Kept.drew) | exact HK.out)⟩

def roundhouseref3_summed.f (l0 : List Int) : Option (List Int) := if 0 < (l0.length : Int) then ((some (([0, rd l0 0, ((wrap64 ((l0.length : Int) - 16)) / 256) % 256, (wrap64 ((l0.length : Int) - 16)) % 256] : List Int) : List Int)).bind fun y188 => (if (rd l0 0) = 3 then (if 16 ≤ (l0.length : Int) then (if y188.length + (l0.drop 16).length < 140737488355328 then (some (y188 ++ (l0.drop 16))) else (none)) else (none)) else ((some (([] : List Int) : List Int)).bind fun y196 => (if 4 ≤ 12 then (if 12 ≤ (l0.length : Int) then (if y196.length + ((l0.take 12).drop 4).length < 140737488355328 then ((some (y196 ++ ((l0.take 12).drop 4) : List Int)).bind fun y200 => (if y200.length + y188.length < 140737488355328 then ((some (y200 ++ y188 : List Int)).bind fun y203 => (if 16 ≤ (l0.length : Int) then (if y203.length + (l0.drop 16).length < 140737488355328 then (some (y203 ++ (l0.drop 16))) else (none)) else (none))) else (none))) else (none)) else (none)) else (none))))) else (none)
set_option maxHeartbeats 8000000 in
set_option maxRecDepth 100000 in
theorem roundhouseref3_summed.calls (A0 : Option Addr) (c0 : Nat) (l0 : List Int) (r : List Int) (w : World) (hr0 : Kd.C (Kd.int .u8) w A0 l0.length l0) (hc0 : l0.length ≤ c0) (h : roundhouseref3_summed.f l0 = some r) :
    Calls Try.prog 42 #[.slice A0 l0.length c0] w fun e w' => ∃ v0_ : Value, e = .returned (v0_) ∧ Kd.R (Kd.int .u8) 5 w' w.heap.size (fun _ => True) v0_ r ∧ Below w.heap.size w w' := by
  have HR0 := Aside0.mk hr0
  have HC0 := Aside0.mk hc0
  clear hr0 hc0
  have HB := Aside0.mk (Below.refl w.heap.size w)
  have H : (if 0 < (l0.length : Int) then ((some (([0, rd l0 0, ((wrap64 ((l0.length : Int) - 16)) / 256) % 256, (wrap64 ((l0.length : Int) - 16)) % 256] : List Int) : List Int)).bind fun y188 => (if (rd l0 0) = 3 then (if 16 ≤ (l0.length : Int) then (if y188.length + (l0.drop 16).length < 140737488355328 then (some (y188 ++ (l0.drop 16))) else (none)) else (none)) else ((some (([] : List Int) : List Int)).bind fun y196 => (if 4 ≤ 12 then (if 12 ≤ (l0.length : Int) then (if y196.length + ((l0.take 12).drop 4).length < 140737488355328 then ((some (y196 ++ ((l0.take 12).drop 4) : List Int)).bind fun y200 => (if y200.length + y188.length < 140737488355328 then ((some (y200 ++ y188 : List Int)).bind fun y203 => (if 16 ≤ (l0.length : Int) then (if y203.length + (l0.drop 16).length < 140737488355328 then (some (y203 ++ (l0.drop 16))) else (none)) else (none))) else (none))) else (none)) else (none)) else (none))))) else (none)) = some r := h
  clear h
  by_cases c2 : 0 < (l0.length : Int)
  · rw [if_pos c2] at H
    have c2b0 : decide (0 < (l0.length : Int)) = true := decide_eq_true c2
    have c2b1 : decide (0 < l0.length) = true := decide_eq_true (by omega)
    clear c2
    obtain ⟨y188, hy188⟩ : ∃ y_ : List Int, y_ = (([0, rd l0 0, ((wrap64 ((l0.length : Int) - 16)) / 256) % 256, (wrap64 ((l0.length : Int) - 16)) % 256] : List Int)) := ⟨_, rfl⟩
    replace H : (if (rd l0 0) = 3 then (if 16 ≤ (l0.length : Int) then (if y188.length + (l0.drop 16).length < 140737488355328 then (some (y188 ++ (l0.drop 16))) else (none)) else (none)) else ((some (([] : List Int) : List Int)).bind fun y196 => (if 4 ≤ 12 then (if 12 ≤ (l0.length : Int) then (if y196.length + ((l0.take 12).drop 4).length < 140737488355328 then ((some (y196 ++ ((l0.take 12).drop 4) : List Int)).bind fun y200 => (if y200.length + y188.length < 140737488355328 then ((some (y200 ++ y188 : List Int)).bind fun y203 => (if 16 ≤ (l0.length : Int) then (if y203.length + (l0.drop 16).length < 140737488355328 then (some (y203 ++ (l0.drop 16))) else (none)) else (none))) else (none))) else (none)) else (none)) else (none)))) = some r := by first | (rw [hy188]; with_reducible exact H) | (have H2_ := (Option.bind_some _ _).symm.trans H; rw [hy188]; with_reducible exact H2_) | (have H2_ := (Option.bind_some _ _).symm.trans H; with_reducible exact H2_) | with_reducible exact H | (rw [hy188]; exact H) | exact H
    have Ny188 := Aside0.mk hy188
    clear hy188
    by_cases c3 : (rd l0 0) = 3
    · rw [if_pos c3] at H
      have c3b0 : ((rd l0 0) == 3) = true := beq_iff_eq.mpr c3
      have c3b1 : ((rd l0 0) != 3) = false := bne_eq_false_iff_eq.mpr c3
      clear c3
      by_cases c4 : 16 ≤ (l0.length : Int)
      · rw [if_pos c4] at H
        have c4b0 := eq_true c4
        have c4b1 : decide (16 ≤ (l0.length : Int)) = true := decide_eq_true c4
        clear c4
        by_cases c5 : y188.length + (l0.drop 16).length < 140737488355328
        · rw [if_pos c5] at H
          have LMc5 := Aside0.mk c5
          clear c5
          obtain ⟨y193, hy193⟩ : ∃ y_ : List Int, y_ = (y188 ++ (l0.drop 16)) := ⟨_, rfl⟩
          replace H : (some y193) = some r := by first | (rw [hy193]; with_reducible exact H) | (have H2_ := (Option.bind_some _ _).symm.trans H; rw [hy193]; with_reducible exact H2_) | (have H2_ := (Option.bind_some _ _).symm.trans H; with_reducible exact H2_) | with_reducible exact H | (rw [hy193]; exact H) | exact H
          have Ny193 := Aside0.mk hy193
          clear hy193
          obtain rfl := Option.some.inj H
          have p187 : 0 ≤ (0 : Int) := (by omega)
          have q187 : 0 < (l0.length : Int) := of_decide_eq_true (by first | (with_reducible assumption) | assumption)
          obtain ⟨ad187, e187, hx187_0⟩ := Kd.at_int HR0.out 0 p187 q187
          cases e187
          have qi187 : (0 < l0.length) = True := eq_true (by omega)
          (try rw [show ((0 : Int)).toNat = 0 from rfl] at hx187_0)
          (try rw [Addr.add_zero'] at hx187_0)
          replace p187 := eq_true p187
          replace q187 := eq_true q187
          try have hmn_l0_12 : min 12 l0.length = 12 := by have h_ : (12 : Int) ≤ (l0.length : Int) := of_decide_eq_true (by first | (with_reducible assumption) | assumption); omega
          go_enter Try.func42, Try.ntmps42
          go_wp2_with (first | ((with_reducible refine gate_dst (N := 16) rfl ?_); refine Kd.R_lit (Kd.int .u8) _ 5 ?hg (N := 16) ?hd (xs := ([0, rd l0 0, ((wrap64 ((l0.length : Int) - 16)) / 256) % 256, (wrap64 ((l0.length : Int) - 16)) % 256] : List Int)) (inner := [.int .u8 0, .int .u8 (rd l0 0), .int .u8 (((wrap64 ((l0.length : Int) - 16)) / 256) % 256), .int .u8 ((wrap64 ((l0.length : Int) - 16)) % 256)]) (ok := fun _ => True) (okp := fun _ => True) ?hr ?hp (fun _ hk => hk) trivial (Below.refl _ _) (Nat.le_refl _) (by simp) ?_; (case hd => rfl); (case hg => rfl); (case hr => first | (go_simp; done) | (go_simp; rfl)); (case hp => exact (Reps.one (show Kd.M (Kd.int .u8) _ _ _ 0 [.int .u8 0] from rfl) (Reps.one (show Kd.M (Kd.int .u8) _ _ _ (rd l0 0) [.int .u8 (rd l0 0)] from rfl) (Reps.one (show Kd.M (Kd.int .u8) _ _ _ (((wrap64 ((l0.length : Int) - 16)) / 256) % 256) [.int .u8 (((wrap64 ((l0.length : Int) - 16)) / 256) % 256)] from rfl) (Reps.one (show Kd.M (Kd.int .u8) _ _ _ ((wrap64 ((l0.length : Int) - 16)) % 256) [.int .u8 ((wrap64 ((l0.length : Int) - 16)) % 256)] from rfl) (Reps.none _ _)))))); intro v189 w6 ho7 hb hg_ hnew_; clear hg_ hnew_; (first | rw [← Ny188.out] at ho7 | (simp only [Int.reduceToNat] at ho7; rw [← Ny188.out] at ho7)); have n0_ := Aside0.mk (Kd.R_lower ho7 (below_size (by repeat (first | (with_reducible first | exact HB.out | apply below_alloc | apply pw_below_drewN | apply below_drew1) | exact HB.out)))); have n1_ := Aside0.mk (below_step (by repeat (first | (with_reducible first | exact HB.out | apply below_alloc | apply pw_below_drewN | apply below_drew1) | exact HB.out)) hb); clear HB; have HO190 := n0_; have HB := n1_; clear n0_ n1_; clear hb ho7; have p191 : 0 ≤ (0 : Int) := (by omega); have q191 : 0 < (l0.length : Int) := of_decide_eq_true (by first | (with_reducible assumption) | assumption); obtain ⟨ad191, e191, hx191_0⟩ := Kd.at_int HR0.out 0 p191 q191; obtain rfl : ad187 = ad191 := (by injection e191); have qi191 : (0 < l0.length) = True := eq_true (by omega); (try rw [show ((0 : Int)).toNat = 0 from rfl] at hx191_0); (try rw [Addr.add_zero'] at hx191_0); replace hx191_0 := (HB.out.cell (World.block_lt_of_cell? w _ hx191_0)).trans hx191_0; replace p191 := eq_true p191; replace q191 := eq_true q191; obtain ⟨i08, hi08, _, hsz8, _⟩ := info_parts info5; obtain ⟨A8, hcut8, hA8, hC8⟩ := print_drop_of (P := Try.prog) (Value.int .u8) 0 23 5 .i64 Try.underlying23 hi08 hsz8 (some ad187) c0 l0 16 (by omega) (of_decide_eq_true (by first | (with_reducible assumption) | assumption)) HC0.out; have HR192 := Aside0.mk (Kd.C_of_reads (h1 := fun _ => rfl) (hA8 _ (Kd.reads_of_C HR0.out))); have HC192 := Aside0.mk hC8; clear hA8 hC8 hi08 hsz8) | ((with_reducible refine gate_builtin (b := .append) (xs := #[.tmp 27, .tmp 29]) rfl ?_); at_builtin; refine Kd.R_append_rows (Kd.int .u8) (w0 := w) w.heap.size rfl (.tmp 27) (.tmp 29) 23 5 (.int .u8 0) 1 rfl Try.underlying23 info5 rfl (by decide) (by omega) v189 y188 (l0.drop 16) _ _ _ (fun _ => True) (fun _ => False) rfl rfl ?aO ?aR (fun _ _ h => h) (fun _ h => h.elim) ?aF ?aB ?aS ?aL ?_; (case aR => first | (have hC_ := (Kd.C_below HR192.out HB.out); rw [show (l0.drop 16).length = (l0.length - 16) from List.length_drop] at hC_; repeat (first | exact hC_ | (with_reducible refine Kd.C_alloc ?_ _) | (with_reducible refine Kd.C_drewN ?_ _) | (with_reducible refine Kd.C_drew ?_))) | (rw [← show (l0.drop 16).length = (l0.length - 16) from List.length_drop]; repeat (first | exact (Kd.C_below HR192.out HB.out) | (with_reducible refine Kd.C_alloc ?_ _) | (with_reducible refine Kd.C_drewN ?_ _) | (with_reducible refine Kd.C_drew ?_))) | (repeat (first | exact (Kd.C_below HR192.out HB.out) | (with_reducible refine Kd.C_alloc ?_ _) | (with_reducible refine Kd.C_drewN ?_ _) | (with_reducible refine Kd.C_drew ?_)))); (case aB => exact (by repeat (first | (with_reducible first | exact HB.out | apply below_alloc | apply pw_below_drewN | apply below_drew1) | exact HB.out))); (case aF => exact (fun _ _ => trivial)); (case aO => exact (by (with_reducible repeat (first | apply Kd.R_alloc | apply Kd.R_drewN | apply Kd.R_drew)); exact HO190.out)); (case aS => exact (below_size (by repeat (first | (with_reducible first | exact HB.out | apply below_alloc | apply pw_below_drewN | apply below_drew1) | exact HB.out)))); (case aL => have := LMc5.out; have hlx_ := (show (l0.drop 16).length = (l0.length - 16) from List.length_drop); omega); intro v194 w9 ho hb hg hat; rw [← Ny193.out] at ho; have n0_ := Aside0.mk (hb); have n1_ := Aside0.mk (ho); clear HB; clear HO190; have HB := n0_; have HO195 := n1_; clear n0_ n1_; clear ho hb hg hat))
          go_ret
          exact ⟨_, by first | rfl | (simp [errW_none, errW_some] <;> rfl) | (simp [*, errW_none, errW_some] <;> rfl), by (with_reducible repeat (first | apply Kd.R_alloc | apply Kd.R_drewN | apply Kd.R_drew)); exact HO195.out, by repeat (first | (with_reducible first | exact HB.out | apply below_alloc | apply pw_below_drewN | apply below_drew1) | exact HB.out)⟩
        · rw [if_neg c5] at H
          exact absurd H (by simp)
      · rw [if_neg c4] at H
        exact absurd H (by simp)
    · rw [if_neg c3] at H
      have c3b0 : ((rd l0 0) == 3) = false := beq_eq_false_iff_ne.mpr c3
      have c3b1 : ((rd l0 0) != 3) = true := bne_iff_ne.mpr c3
      obtain ⟨y196, hy196⟩ : ∃ y_ : List Int, y_ = (([] : List Int)) := ⟨_, rfl⟩
      replace H : (if 4 ≤ 12 then (if 12 ≤ (l0.length : Int) then (if y196.length + ((l0.take 12).drop 4).length < 140737488355328 then ((some (y196 ++ ((l0.take 12).drop 4) : List Int)).bind fun y200 => (if y200.length + y188.length < 140737488355328 then ((some (y200 ++ y188 : List Int)).bind fun y203 => (if 16 ≤ (l0.length : Int) then (if y203.length + (l0.drop 16).length < 140737488355328 then (some (y203 ++ (l0.drop 16))) else (none)) else (none))) else (none))) else (none)) else (none)) else (none)) = some r := by first | (rw [hy196]; with_reducible exact H) | (have H2_ := (Option.bind_some _ _).symm.trans H; rw [hy196]; with_reducible exact H2_) | (have H2_ := (Option.bind_some _ _).symm.trans H; with_reducible exact H2_) | with_reducible exact H | (rw [hy196]; exact H) | exact H
      have Ny196 := Aside0.mk hy196
      clear hy196
      by_cases c10 : 4 ≤ 12
      · rw [if_pos c10] at H
        have c10b0 := eq_true c10
        have c10b1 : decide (4 ≤ 12) = true := decide_eq_true c10
        clear c10
        by_cases c11 : 12 ≤ (l0.length : Int)
        · rw [if_pos c11] at H
          have c11b0 := eq_true c11
          have c11b1 : decide (12 ≤ (l0.length : Int)) = true := decide_eq_true c11
          clear c11
          by_cases c12 : y196.length + ((l0.take 12).drop 4).length < 140737488355328
          · rw [if_pos c12] at H
            have LMc12 := Aside0.mk c12
            clear c12
            obtain ⟨y200, hy200⟩ : ∃ y_ : List Int, y_ = (y196 ++ ((l0.take 12).drop 4)) := ⟨_, rfl⟩
            replace H : (if y200.length + y188.length < 140737488355328 then ((some (y200 ++ y188 : List Int)).bind fun y203 => (if 16 ≤ (l0.length : Int) then (if y203.length + (l0.drop 16).length < 140737488355328 then (some (y203 ++ (l0.drop 16))) else (none)) else (none))) else (none)) = some r := by first | (rw [hy200]; with_reducible exact H) | (have H2_ := (Option.bind_some _ _).symm.trans H; rw [hy200]; with_reducible exact H2_) | (have H2_ := (Option.bind_some _ _).symm.trans H; with_reducible exact H2_) | with_reducible exact H | (rw [hy200]; exact H) | exact H
            have Ny200 := Aside0.mk hy200
            clear hy200
            by_cases c13 : y200.length + y188.length < 140737488355328
            · rw [if_pos c13] at H
              have LMc13 := Aside0.mk c13
              clear c13
              obtain ⟨y203, hy203⟩ : ∃ y_ : List Int, y_ = (y200 ++ y188) := ⟨_, rfl⟩
              replace H : (if 16 ≤ (l0.length : Int) then (if y203.length + (l0.drop 16).length < 140737488355328 then (some (y203 ++ (l0.drop 16))) else (none)) else (none)) = some r := by first | (rw [hy203]; with_reducible exact H) | (have H2_ := (Option.bind_some _ _).symm.trans H; rw [hy203]; with_reducible exact H2_) | (have H2_ := (Option.bind_some _ _).symm.trans H; with_reducible exact H2_) | with_reducible exact H | (rw [hy203]; exact H) | exact H
              have Ny203 := Aside0.mk hy203
              clear hy203
              by_cases c14 : 16 ≤ (l0.length : Int)
              · rw [if_pos c14] at H
                have c14b0 := eq_true c14
                have c14b1 : decide (16 ≤ (l0.length : Int)) = true := decide_eq_true c14
                clear c14
                by_cases c15 : y203.length + (l0.drop 16).length < 140737488355328
                · rw [if_pos c15] at H
                  have LMc15 := Aside0.mk c15
                  clear c15
                  obtain ⟨y207, hy207⟩ : ∃ y_ : List Int, y_ = (y203 ++ (l0.drop 16)) := ⟨_, rfl⟩
                  replace H : (some y207) = some r := by first | (rw [hy207]; with_reducible exact H) | (have H2_ := (Option.bind_some _ _).symm.trans H; rw [hy207]; with_reducible exact H2_) | (have H2_ := (Option.bind_some _ _).symm.trans H; with_reducible exact H2_) | with_reducible exact H | (rw [hy207]; exact H) | exact H
                  have Ny207 := Aside0.mk hy207
                  clear hy207
                  obtain rfl := Option.some.inj H
                  have p187 : 0 ≤ (0 : Int) := (by omega)
                  have q187 : 0 < (l0.length : Int) := of_decide_eq_true (by first | (with_reducible assumption) | assumption)
                  obtain ⟨ad187, e187, hx187_0⟩ := Kd.at_int HR0.out 0 p187 q187
                  cases e187
                  have qi187 : (0 < l0.length) = True := eq_true (by omega)
                  (try rw [show ((0 : Int)).toNat = 0 from rfl] at hx187_0)
                  (try rw [Addr.add_zero'] at hx187_0)
                  replace p187 := eq_true p187
                  replace q187 := eq_true q187
                  try have hmn_l0_12 : min 12 l0.length = 12 := by have h_ : (12 : Int) ≤ (l0.length : Int) := of_decide_eq_true (by first | (with_reducible assumption) | assumption); omega
                  go_enter Try.func42, Try.ntmps42
                  go_wp2_with (first | ((with_reducible refine gate_dst (N := 16) rfl ?_); refine Kd.R_lit (Kd.int .u8) _ 5 ?hg (N := 16) ?hd (xs := ([0, rd l0 0, ((wrap64 ((l0.length : Int) - 16)) / 256) % 256, (wrap64 ((l0.length : Int) - 16)) % 256] : List Int)) (inner := [.int .u8 0, .int .u8 (rd l0 0), .int .u8 (((wrap64 ((l0.length : Int) - 16)) / 256) % 256), .int .u8 ((wrap64 ((l0.length : Int) - 16)) % 256)]) (ok := fun _ => True) (okp := fun _ => True) ?hr ?hp (fun _ hk => hk) trivial (Below.refl _ _) (Nat.le_refl _) (by simp) ?_; (case hd => rfl); (case hg => rfl); (case hr => first | (go_simp; done) | (go_simp; rfl)); (case hp => exact (Reps.one (show Kd.M (Kd.int .u8) _ _ _ 0 [.int .u8 0] from rfl) (Reps.one (show Kd.M (Kd.int .u8) _ _ _ (rd l0 0) [.int .u8 (rd l0 0)] from rfl) (Reps.one (show Kd.M (Kd.int .u8) _ _ _ (((wrap64 ((l0.length : Int) - 16)) / 256) % 256) [.int .u8 (((wrap64 ((l0.length : Int) - 16)) / 256) % 256)] from rfl) (Reps.one (show Kd.M (Kd.int .u8) _ _ _ ((wrap64 ((l0.length : Int) - 16)) % 256) [.int .u8 ((wrap64 ((l0.length : Int) - 16)) % 256)] from rfl) (Reps.none _ _)))))); intro v189 w16 ho17 hb hg_ hnew_; clear hg_ hnew_; (first | rw [← Ny188.out] at ho17 | (simp only [Int.reduceToNat] at ho17; rw [← Ny188.out] at ho17)); have n0_ := Aside0.mk (Kd.R_lower ho17 (below_size (by repeat (first | (with_reducible first | exact HB.out | apply below_alloc | apply pw_below_drewN | apply below_drew1) | exact HB.out)))); have n1_ := Aside0.mk (below_step (by repeat (first | (with_reducible first | exact HB.out | apply below_alloc | apply pw_below_drewN | apply below_drew1) | exact HB.out)) hb); clear HB; have HO190 := n0_; have HB := n1_; clear n0_ n1_; clear hb ho17; have p191 : 0 ≤ (0 : Int) := (by omega); have q191 : 0 < (l0.length : Int) := of_decide_eq_true (by first | (with_reducible assumption) | assumption); obtain ⟨ad191, e191, hx191_0⟩ := Kd.at_int HR0.out 0 p191 q191; obtain rfl : ad187 = ad191 := (by injection e191); have qi191 : (0 < l0.length) = True := eq_true (by omega); (try rw [show ((0 : Int)).toNat = 0 from rfl] at hx191_0); (try rw [Addr.add_zero'] at hx191_0); replace hx191_0 := (HB.out.cell (World.block_lt_of_cell? w _ hx191_0)).trans hx191_0; replace p191 := eq_true p191; replace q191 := eq_true q191) | ((with_reducible refine gate_dst (N := 21) rfl ?_); refine Kd.R_lit (Kd.int .u8) _ 5 ?hg (N := 21) ?hd (xs := ([] : List Int)) (inner := []) (ok := fun _ => True) (okp := fun _ => True) ?hr ?hp (fun _ hk => hk) trivial (Below.refl _ _) (Nat.le_refl _) (by simp) ?_; (case hd => rfl); (case hg => rfl); (case hr => first | (go_simp; done) | (go_simp; rfl)); (case hp => exact (Reps.none _ _)); intro v197 w18 ho19 hb hg_ hnew_; clear hg_ hnew_; (first | rw [← Ny196.out] at ho19 | (simp only [Int.reduceToNat] at ho19; rw [← Ny196.out] at ho19)); have n0_ := Aside0.mk (Kd.R_elder' (by (with_reducible repeat (first | apply Kd.R_alloc | apply Kd.R_drewN | apply Kd.R_drew)); exact HO190.out) (Kd.R_base ho19) hb); have n1_ := Aside0.mk (Kd.R_lower (Kd.R_new' ho19 (Kd.R_lt (by (with_reducible repeat (first | apply Kd.R_alloc | apply Kd.R_drewN | apply Kd.R_drew)); exact HO190.out))) (below_size (by repeat (first | (with_reducible first | exact HB.out | apply below_alloc | apply pw_below_drewN | apply below_drew1) | exact HB.out)))); have n2_ := Aside0.mk (below_step (by repeat (first | (with_reducible first | exact HB.out | apply below_alloc | apply pw_below_drewN | apply below_drew1) | exact HB.out)) hb); clear HO190; clear HB; have HO190 := n0_; have HO198 := n1_; have HB := n2_; clear n0_ n1_ n2_; clear hb ho19; obtain ⟨i020, hi020, _, hsz20, _⟩ := info_parts info5; obtain ⟨A20, hcut20, hA20, hC20⟩ := print_mid_of (P := Try.prog) (Value.int .u8) 0 23 5 .i64 .i64 Try.underlying23 hi020 hsz20 (some ad187) c0 l0 4 12 (by omega) (by first | omega | exact of_decide_eq_true (by first | (with_reducible assumption) | assumption)) (of_decide_eq_true (by first | (with_reducible assumption) | assumption)) HC0.out; have HR199 := Aside0.mk (Kd.C_of_reads (h1 := fun _ => rfl) (hA20 _ (Kd.reads_of_C HR0.out))); have HC199 := Aside0.mk hC20; clear hA20 hC20 hi020 hsz20) | ((with_reducible refine gate_builtin (b := .append) (xs := #[.tmp 21, .tmp 23]) rfl ?_); at_builtin; refine Kd.R_append_rows (Kd.int .u8) (w0 := w) w.heap.size rfl (.tmp 21) (.tmp 23) 23 5 (.int .u8 0) 1 rfl Try.underlying23 info5 rfl (by decide) (by omega) v197 y196 ((l0.take 12).drop 4) _ _ _ (fun k_ => some k_ ≠ (v189 : Value).ownBlock) (fun _ => False) rfl rfl ?aO ?aR (fun _ _ h => h) (fun _ h => h.elim) ?aF ?aB ?aS ?aL ?_; (case aR => first | (have hC_ := (Kd.C_below HR199.out HB.out); try simp only [Int.reduceToNat] at hC_; rw [show ((l0.take 12).drop 4).length = (12 - 4) from (by rw [List.length_drop, List.length_take]; have h_ : (12 : Int) ≤ (l0.length : Int) := of_decide_eq_true (by first | (with_reducible assumption) | assumption); omega)] at hC_; repeat (first | exact hC_ | (with_reducible refine Kd.C_alloc ?_ _) | (with_reducible refine Kd.C_drewN ?_ _) | (with_reducible refine Kd.C_drew ?_))) | (rw [← show ((l0.take 12).drop 4).length = (12 - 4) from (by rw [List.length_drop, List.length_take]; have h_ : (12 : Int) ≤ (l0.length : Int) := of_decide_eq_true (by first | (with_reducible assumption) | assumption); omega)]; repeat (first | exact (Kd.C_below HR199.out HB.out) | (with_reducible refine Kd.C_alloc ?_ _) | (with_reducible refine Kd.C_drewN ?_ _) | (with_reducible refine Kd.C_drew ?_))) | (repeat (first | exact (Kd.C_below HR199.out HB.out) | (with_reducible refine Kd.C_alloc ?_ _) | (with_reducible refine Kd.C_drewN ?_ _) | (with_reducible refine Kd.C_drew ?_)))); (case aB => exact (by repeat (first | (with_reducible first | exact HB.out | apply below_alloc | apply pw_below_drewN | apply below_drew1) | exact HB.out))); (case aF => exact (fun k_ hk => Kd.fresh' (Kd.R_lt (by (with_reducible repeat (first | apply Kd.R_alloc | apply Kd.R_drewN | apply Kd.R_drew)); exact HO190.out)) k_ hk)); (case aO => exact (by (with_reducible repeat (first | apply Kd.R_alloc | apply Kd.R_drewN | apply Kd.R_drew)); exact Kd.R_mono HO198.out (fun _ hk => hk.2))); (case aS => exact (below_size (by repeat (first | (with_reducible first | exact HB.out | apply below_alloc | apply pw_below_drewN | apply below_drew1) | exact HB.out)))); (case aL => have := LMc12.out; have hlx_ := (show ((l0.take 12).drop 4).length = (12 - 4) from (by rw [List.length_drop, List.length_take]; have h_ : (12 : Int) ≤ (l0.length : Int) := of_decide_eq_true (by first | (with_reducible assumption) | assumption); omega)); omega); intro v201 w21 ho hb hg hat; rw [← Ny200.out] at ho; have n0_ := Aside0.mk (Kd.R_after (ok := (fun _ => True)) (by (with_reducible repeat (first | apply Kd.R_alloc | apply Kd.R_drewN | apply Kd.R_drew)); exact HO190.out) hg hat); have n1_ := Aside0.mk (hb); have n2_ := Aside0.mk (ho); clear HO190; clear HB; clear HO198; have HO190 := n0_; have HB := n1_; have HO202 := n2_; clear n0_ n1_ n2_; clear ho hb hg hat; obtain ⟨Ao23, co23, eo23⟩ := Kd.R_slice HO190.out; subst eo23) | ((with_reducible refine gate_builtin (b := .append) (xs := #[.tmp 24, .tmp 25]) rfl ?_); at_builtin; refine Kd.R_append_rows (Kd.int .u8) (w0 := w) w.heap.size rfl (.tmp 24) (.tmp 25) 23 5 (.int .u8 0) 1 rfl Try.underlying23 info5 rfl (by decide) (by omega) v201 y200 y188 _ _ _ (fun k_ => some k_ ≠ (.slice Ao23 y188.length co23 : Value).ownBlock) (fun _ => False) rfl rfl ?aO ?aR (fun _ _ h => h) (fun _ h => h.elim) ?aF ?aB ?aS ?aL ?_; (case aR => repeat (first | exact (Kd.R_reads' HO190.out).2.2 | (with_reducible refine Kd.C_alloc ?_ _) | (with_reducible refine Kd.C_drewN ?_ _) | (with_reducible refine Kd.C_drew ?_))); (case aB => exact (by repeat (first | (with_reducible first | exact HB.out | apply below_alloc | apply pw_below_drewN | apply below_drew1) | exact HB.out))); (case aF => exact (fun k_ hk => Kd.fresh' (Kd.R_lt (by (with_reducible repeat (first | apply Kd.R_alloc | apply Kd.R_drewN | apply Kd.R_drew)); exact HO190.out)) k_ hk)); (case aO => exact (by (with_reducible repeat (first | apply Kd.R_alloc | apply Kd.R_drewN | apply Kd.R_drew)); exact HO202.out)); (case aS => exact (below_size (by repeat (first | (with_reducible first | exact HB.out | apply below_alloc | apply pw_below_drewN | apply below_drew1) | exact HB.out)))); (case aL => have := LMc13.out; omega); intro v204 w22 ho hb hg hat; rw [← Ny203.out] at ho; have n0_ := Aside0.mk (Kd.R_after (ok := (fun _ => True)) (by (with_reducible repeat (first | apply Kd.R_alloc | apply Kd.R_drewN | apply Kd.R_drew)); exact HO190.out) hg hat); have n1_ := Aside0.mk (hb); have n2_ := Aside0.mk (ho); clear HO190; clear HB; clear HO202; have HO190 := n0_; have HB := n1_; have HO205 := n2_; clear n0_ n1_ n2_; clear ho hb hg hat; obtain ⟨i024, hi024, _, hsz24, _⟩ := info_parts info5; obtain ⟨A24, hcut24, hA24, hC24⟩ := print_drop_of (P := Try.prog) (Value.int .u8) 0 23 5 .i64 Try.underlying23 hi024 hsz24 (some ad187) c0 l0 16 (by omega) (of_decide_eq_true (by first | (with_reducible assumption) | assumption)) HC0.out; have HR206 := Aside0.mk (Kd.C_of_reads (h1 := fun _ => rfl) (hA24 _ (Kd.reads_of_C HR0.out))); have HC206 := Aside0.mk hC24; clear hA24 hC24 hi024 hsz24) | ((with_reducible refine gate_builtin (b := .append) (xs := #[.tmp 27, .tmp 29]) rfl ?_); at_builtin; refine Kd.R_append_rows (Kd.int .u8) (w0 := w) w.heap.size rfl (.tmp 27) (.tmp 29) 23 5 (.int .u8 0) 1 rfl Try.underlying23 info5 rfl (by decide) (by omega) v204 y203 (l0.drop 16) _ _ _ (fun k_ => some k_ ≠ (.slice Ao23 y188.length co23 : Value).ownBlock) (fun _ => False) rfl rfl ?aO ?aR (fun _ _ h => h) (fun _ h => h.elim) ?aF ?aB ?aS ?aL ?_; (case aR => first | (have hC_ := (Kd.C_below HR206.out HB.out); rw [show (l0.drop 16).length = (l0.length - 16) from List.length_drop] at hC_; repeat (first | exact hC_ | (with_reducible refine Kd.C_alloc ?_ _) | (with_reducible refine Kd.C_drewN ?_ _) | (with_reducible refine Kd.C_drew ?_))) | (rw [← show (l0.drop 16).length = (l0.length - 16) from List.length_drop]; repeat (first | exact (Kd.C_below HR206.out HB.out) | (with_reducible refine Kd.C_alloc ?_ _) | (with_reducible refine Kd.C_drewN ?_ _) | (with_reducible refine Kd.C_drew ?_))) | (repeat (first | exact (Kd.C_below HR206.out HB.out) | (with_reducible refine Kd.C_alloc ?_ _) | (with_reducible refine Kd.C_drewN ?_ _) | (with_reducible refine Kd.C_drew ?_)))); (case aB => exact (by repeat (first | (with_reducible first | exact HB.out | apply below_alloc | apply pw_below_drewN | apply below_drew1) | exact HB.out))); (case aF => exact (fun k_ hk => Kd.fresh' (Kd.R_lt (by (with_reducible repeat (first | apply Kd.R_alloc | apply Kd.R_drewN | apply Kd.R_drew)); exact HO190.out)) k_ hk)); (case aO => exact (by (with_reducible repeat (first | apply Kd.R_alloc | apply Kd.R_drewN | apply Kd.R_drew)); exact HO205.out)); (case aS => exact (below_size (by repeat (first | (with_reducible first | exact HB.out | apply below_alloc | apply pw_below_drewN | apply below_drew1) | exact HB.out)))); (case aL => have := LMc15.out; have hlx_ := (show (l0.drop 16).length = (l0.length - 16) from List.length_drop); omega); intro v208 w25 ho hb hg hat; rw [← Ny207.out] at ho; have n0_ := Aside0.mk (Kd.R_after (ok := (fun _ => True)) (by (with_reducible repeat (first | apply Kd.R_alloc | apply Kd.R_drewN | apply Kd.R_drew)); exact HO190.out) hg hat); have n1_ := Aside0.mk (hb); have n2_ := Aside0.mk (ho); clear HO190; clear HB; clear HO205; have HO190 := n0_; have HB := n1_; have HO209 := n2_; clear n0_ n1_ n2_; clear ho hb hg hat))
                  go_ret
                  exact ⟨_, by first | rfl | (simp [errW_none, errW_some] <;> rfl) | (simp [*, errW_none, errW_some] <;> rfl), by (with_reducible repeat (first | apply Kd.R_alloc | apply Kd.R_drewN | apply Kd.R_drew)); exact Kd.R_mono HO209.out (fun _ hk => trivial), by repeat (first | (with_reducible first | exact HB.out | apply below_alloc | apply pw_below_drewN | apply below_drew1) | exact HB.out)⟩
                · rw [if_neg c15] at H
                  exact absurd H (by simp)
              · rw [if_neg c14] at H
                exact absurd H (by simp)
            · rw [if_neg c13] at H
              exact absurd H (by simp)
          · rw [if_neg c12] at H
            exact absurd H (by simp)
        · rw [if_neg c11] at H
          exact absurd H (by simp)
      · rw [if_neg c10] at H
        exact absurd H (by simp)
  · rw [if_neg c2] at H
    exact absurd H (by simp)

def roundhouseref3_place.f (a0 : Int) : Option (Int) := if a0 = 3 then (some 18) else (some 22)
set_option maxHeartbeats 8000000 in
set_option maxRecDepth 100000 in
theorem roundhouseref3_place.calls (a0 : Int) (r : Int) (w : World) (h : roundhouseref3_place.f a0 = some r) :
    Calls Try.prog 43 #[.int .i64 a0] w fun e w' => e = .returned (.int .i64 r) ∧ Drawn0 w w' := by
  have H : (if a0 = 3 then (some 18) else (some 22)) = some r := h
  clear h
  by_cases c2 : a0 = 3
  · rw [if_pos c2] at H
    have c2b0 : (a0 == 3) = true := beq_iff_eq.mpr c2
    have c2b1 : (a0 != 3) = false := bne_eq_false_iff_eq.mpr c2
    clear c2
    obtain rfl := Option.some.inj H
    go_enter Try.func43, Try.ntmps43
    go_wp2
    go_ret
    exact ⟨by first | rfl | (simp; done) | (simp [*]; done), by repeat (first | exact Drawn0.refl _ | apply Drawn0.step)⟩
  · rw [if_neg c2] at H
    have c2b0 : (a0 == 3) = false := beq_eq_false_iff_ne.mpr c2
    have c2b1 : (a0 != 3) = true := bne_iff_ne.mpr c2
    obtain rfl := Option.some.inj H
    go_enter Try.func43, Try.ntmps43
    go_wp2
    go_ret
    exact ⟨by first | rfl | (simp; done) | (simp [*]; done), by repeat (first | exact Drawn0.refl _ | apply Drawn0.step)⟩


def roundhouseref3_Same.f (a0_0 : Int) (a0_1 : Int) (a0_2 : Int) (a0_3 : Int) (a0_4 : Int) (a0_5 : Int) (a0_6 : Int) (a0_7 : Int) (a0_8 : Int) (a0_9 : Bool) (a0_10 : Int) (l0_11 : List Int) (l0_12 : List Int) (a1_0 : Int) (a1_1 : Int) (a1_2 : Int) (a1_3 : Int) (a1_4 : Int) (a1_5 : Int) (a1_6 : Int) (a1_7 : Int) (a1_8 : Int) (a1_9 : Bool) (a1_10 : Int) (l1_11 : List Int) (l1_12 : List Int) : Option (Bool) := if a0_0 = a1_0 then (if a0_1 = a1_1 then (if a0_2 = a1_2 then (if a0_3 = a1_3 then (if a0_4 = a1_4 then (if a0_5 = a1_5 then (if a0_6 = a1_6 then (if a0_7 = a1_7 then (if a0_8 = a1_8 then (if (a0_9 == a1_9) = true then (if a0_10 = a1_10 then (if (strOfNums l0_11).toList = (strOfNums l1_11).toList then (some ((strOfNums l0_12).toList == (strOfNums l1_12).toList)) else (some false)) else (some false)) else (some false)) else (some false)) else (some false)) else (some false)) else (some false)) else (some false)) else (some false)) else (some false)) else (some false)) else (some false)



end Go.Proofs.Ytbjhmifhmojaoaa.Hp

namespace Go.Proofs.Ytbjhmifhmojaoaa.Hp
open Go.RowKit Go.Proofs.YtbjhmifhmojaoaaW.PrintWords Go.Proofs.YtbjhmifhmojaoaaW.PrintLast Go.Proofs.YtbjhmifhmojaoaaW.PrintMore
set_option linter.unusedVariables false
set_option linter.unusedSimpArgs false
def roundhouseref3_Num.l0 : Nat → List Int → Int → Int → Int → Int → Option (Int)
  | 0, _, _, _, _, _ => none
  | k + 1, x0, x1, x2, x7, x8 => if x8 < x2 then (if 0 ≤ (wrap64 (x1 + x8)) then (if (wrap64 (x1 + x8)) < (x0.length : Int) then (roundhouseref3_Num.l0 k x0 x1 x2 (Go.bits .or .i64 (wrap64 (x7 * 256)) (wrap64 (rd x0 (wrap64 (x1 + x8))))) (wrap64 (x8 + 1))) else (none)) else (none)) else (some x7)
def roundhouseref3_Num.f (k : Nat) (l0 : List Int) (a1 : Int) (a2 : Int) : Option (Int) := roundhouseref3_Num.l0 k l0 a1 a2 0 0
theorem roundhouseref3_Num.mono_l : ∀ k, (∀ y0 y1 y2 y3 y4, LeO (roundhouseref3_Num.l0 k y0 y1 y2 y3 y4) (roundhouseref3_Num.l0 (k + 1) y0 y1 y2 y3 y4))
  | 0 => fun _ _ _ _ _ r h => by simp [roundhouseref3_Num.l0] at h
  | k + 1 => by
    have ih0 := roundhouseref3_Num.mono_l k
    · intro y0 y1 y2 y3 y4
      unfold roundhouseref3_Num.l0
      repeat' first
      | (with_reducible exact ih0 _ _ _ _ _)
      | (with_reducible exact LeO.refl _)
      | (with_reducible exact LeO.none _)
      | (with_reducible refine LeO.ite ?_ ?_)
      | (with_reducible refine LeO.bind ?_ (fun _ => ?_))
      | exact ih0 _ _ _ _ _
      | exact LeO.none _
      | refine LeO.ite ?_ ?_
      | refine LeO.bind ?_ (fun _ => ?_)
theorem roundhouseref3_Num.mono : ∀ a0 a1 a2 k, LeO (roundhouseref3_Num.f k a0 a1 a2) (roundhouseref3_Num.f (k + 1) a0 a1 a2) := by
  intro a0 a1 a2 k
  have ih0 := roundhouseref3_Num.mono_l k
  unfold roundhouseref3_Num.f
  repeat' first
      | (with_reducible exact ih0 _ _ _ _ _)
      | (with_reducible exact LeO.refl _)
      | (with_reducible exact LeO.none _)
      | (with_reducible refine LeO.ite ?_ ?_)
      | (with_reducible refine LeO.bind ?_ (fun _ => ?_))
      | exact ih0 _ _ _ _ _
      | exact LeO.none _
      | refine LeO.ite ?_ ?_
      | refine LeO.bind ?_ (fun _ => ?_)
set_option maxHeartbeats 8000000 in
set_option maxRecDepth 100000 in
theorem roundhouseref3_Num.calls (k : Nat) (A0 : Option Addr) (c0 : Nat) (l0 : List Int) (a1 : Int) (a2 : Int) (r : Int) (w : World) (hr0 : Kd.C (Kd.int .u8) w A0 l0.length l0) (hc0 : l0.length ≤ c0) (h : roundhouseref3_Num.f k l0 a1 a2 = some r) :
    Calls Try.prog 32 #[.slice A0 l0.length c0, .int .i64 a1, .int .i64 a2] w fun e w' => e = .returned (.int .i64 r) ∧ Drawn0 w w' := by
  have HR0 := Aside0.mk hr0
  have HC0 := Aside0.mk hc0
  clear hr0 hc0
  have H : (roundhouseref3_Num.l0 k l0 a1 a2 0 0) = some r := h
  clear h
  have H' := Aside0.mk H
  clear H
  go_enter Try.func32, Try.ntmps32
  go_wp2
  go_loopg [7, 8] k (fun kq v7 v8 w' => ∃ (x7_1 : Int) (x8_1 : Int), v7 = .int .i64 x7_1 ∧ v8 = .int .i64 x8_1 ∧ Aside0 (roundhouseref3_Num.l0 kq l0 a1 a2 x7_1 x8_1 = some r) ∧ Aside0 (kq ≤ k) ∧ Drawn0 w w')
  case atStart => exact ⟨(0), (0), (by first | rfl | (simp; done) | (simp [*]; done)), (by first | rfl | (simp; done) | (simp [*]; done)), H', ⟨Nat.le_refl _⟩, by repeat (first | exact Drawn0.refl _ | apply Drawn0.step)⟩
  case round =>
    clear H'
    try clear p2
    try clear c3
    obtain ⟨x7_1, x8_1, rfl, rfl, HA, HK1, ⟨m1, rfl⟩⟩ := hrel
    cases gk with
    | zero => exact absurd HA.out (by simp [roundhouseref3_Num.l0])
    | succ k1 =>
      have H := HA.out
      clear HA
      simp only [roundhouseref3_Num.l0] at H
      by_cases c4 : x8_1 < a2
      · rw [if_pos c4] at H
        have c4b0 : decide (x8_1 < a2) = true := decide_eq_true c4
        clear c4
        obtain ⟨ji5, hji5⟩ : ∃ j_ : Int, (wrap64 (a1 + x8_1)) = j_ := ⟨_, rfl⟩
        replace H : (if 0 ≤ (ji5) then (if (ji5) < (l0.length : Int) then (roundhouseref3_Num.l0 k1 l0 a1 a2 (Go.bits .or .i64 (wrap64 (x7_1 * 256)) (wrap64 (rd l0 (ji5)))) (wrap64 (x8_1 + 1))) else (none)) else (none)) = some r := by first | (rw [hji5] at H; exact H) | (simp only [hji5] at H ⊢; exact H)
        have hji5w : (IntKind.i64.wrap (a1 + x8_1)) = ji5 := (i64_w _).trans hji5
        by_cases c6 : 0 ≤ (ji5)
        · rw [if_pos c6] at H
          have c6b0 : decide (0 ≤ (ji5)) = true := decide_eq_true c6
          clear c6
          by_cases c7 : (ji5) < (l0.length : Int)
          · rw [if_pos c7] at H
            have c7b0 : decide ((ji5) < (l0.length : Int)) = true := decide_eq_true c7
            clear c7
            have H' := Aside0.mk H
            clear H
            have p228 : 0 ≤ ((ji5) : Int) := of_decide_eq_true (by first | (with_reducible assumption) | assumption)
            have q228 : (ji5) < (l0.length : Int) := of_decide_eq_true (by first | (with_reducible assumption) | assumption)
            obtain ⟨ad228, e228, hx228_0⟩ := Kd.at_int HR0.out (ji5) p228 q228
            cases e228
            replace p228 := eq_true p228
            replace q228 := eq_true q228
            go_wp2
            go_roundg k1
            case measure => have := HK1.out; omega
            case rel => exact ⟨(Go.bits .or .i64 (wrap64 (x7_1 * 256)) (wrap64 (rd l0 (ji5)))), (wrap64 (x8_1 + 1)), (by first | rfl | (simp; done) | (congr 1; unfold wrap64; (have h_ := hji5_; split at h_ <;> omega)) | (simp only [← hji5] <;> (first | rfl | simp)) | (simp [*]; done)), (by first | rfl | (simp; done) | (simp [*]; done)), H', ⟨by have := HK1.out; omega⟩, by repeat (first | exact Drawn0.refl _ | apply Drawn0.step)⟩
          · rw [if_neg c7] at H
            exact absurd H (by simp)
        · rw [if_neg c6] at H
          exact absurd H (by simp)
      · rw [if_neg c4] at H
        have c4b0 : decide (x8_1 < a2) = false := decide_eq_false c4
        clear c4
        obtain rfl := Option.some.inj H
        go_wp2
        go_ret
        exact ⟨by first | rfl | (simp; done) | (simp [*]; done), by repeat (first | exact Drawn0.refl _ | apply Drawn0.step)⟩

def roundhouseref1_Right.f (k : Nat) (l0 : List Int) : Option (Bool) := (roundhouseref1_Add.f k l0).bind fun t229 => (some (t229 == 65535))
theorem roundhouseref1_Right.mono : ∀ a0 k, LeO (roundhouseref1_Right.f k a0) (roundhouseref1_Right.f (k + 1) a0) := by
  intro a0 k
  unfold roundhouseref1_Right.f
  repeat' first
      | (with_reducible exact roundhouseref1_Add.mono _ _)
      | (with_reducible exact LeO.refl _)
      | (with_reducible exact LeO.none _)
      | (with_reducible refine LeO.ite ?_ ?_)
      | (with_reducible refine LeO.bind ?_ (fun _ => ?_))
      | exact roundhouseref1_Add.mono _ _
      | exact LeO.none _
      | refine LeO.ite ?_ ?_
      | refine LeO.bind ?_ (fun _ => ?_)
set_option maxHeartbeats 8000000 in
set_option maxRecDepth 100000 in
theorem roundhouseref1_Right.calls (k : Nat) (A0 : Option Addr) (c0 : Nat) (l0 : List Int) (r : Bool) (w : World) (hr0 : Kd.C (Kd.int .u8) w A0 l0.length l0) (hc0 : l0.length ≤ c0) (h : roundhouseref1_Right.f k l0 = some r) :
    Calls Try.prog 33 #[.slice A0 l0.length c0] w fun e w' => e = .returned (.bool r) ∧ Drawn0 w w' := by
  have HR0 := Aside0.mk hr0
  have HC0 := Aside0.mk hc0
  clear hr0 hc0
  have H : ((roundhouseref1_Add.f k l0).bind fun t229 => (some (t229 == 65535))) = some r := h
  clear h
  replace H := Option.bind_eq_some_iff.mp H
  obtain ⟨t229, A20, H⟩ := H
  replace H : (some (t229 == 65535)) = some r := H
  have A2 := Aside0.mk A20
  clear A20
  obtain rfl := Option.some.inj H
  go_enter Try.func33, Try.ntmps33
  go_wp2_with (first | ((with_reducible refine gate_callee (f := 48) rfl ?_); refine goesL_ (some 4) rfl rfl Try.func48 (by kernel_rfl) rfl #[.slice A0 l0.length c0] rfl (by (try simp only [List.map_toArray, List.map_cons, List.map_nil]); first | done | rfl | (simp only [List.length_drop, List.length_take]; rfl)) ?_; (with_reducible refine (roundhouseref1_Add.calls k _ _ l0 t229 _ ?side1 ?side2 A2.out).mono ?_); (case side1 => repeat (first | exact HR0.out | (with_reducible refine Kd.C_alloc ?_ _) | (with_reducible refine Kd.C_drewN ?_ _) | (with_reducible refine Kd.C_drew ?_))); (case side2 => exact HC0.out); rintro e w' ⟨rfl, ⟨nd, rfl⟩⟩; refine ⟨_, rfl, ?_⟩))
  go_ret
  exact ⟨by first | rfl | (simp; done) | (simp [*]; done), by repeat (first | exact Drawn0.refl _ | apply Drawn0.step)⟩





def roundhouseref3_bare.f (k : Nat) (l0 : List Int) : Option (Bool) := if 0 < (l0.length : Int) then (if (rd l0 0) = 2 then ((roundhouseref3_Num.f k l0 22 2).bind fun t282 => (some (t282 == 0))) else (some false)) else (none)
theorem roundhouseref3_bare.mono : ∀ a0 k, LeO (roundhouseref3_bare.f k a0) (roundhouseref3_bare.f (k + 1) a0) := by
  intro a0 k
  unfold roundhouseref3_bare.f
  repeat' first
      | (with_reducible exact roundhouseref3_Num.mono _ _ _ _)
      | (with_reducible exact LeO.refl _)
      | (with_reducible exact LeO.none _)
      | (with_reducible refine LeO.ite ?_ ?_)
      | (with_reducible refine LeO.bind ?_ (fun _ => ?_))
      | exact roundhouseref3_Num.mono _ _ _ _
      | exact LeO.none _
      | refine LeO.ite ?_ ?_
      | refine LeO.bind ?_ (fun _ => ?_)
set_option maxHeartbeats 8000000 in
set_option maxRecDepth 100000 in
theorem roundhouseref3_bare.calls (k : Nat) (A0 : Option Addr) (c0 : Nat) (l0 : List Int) (r : Bool) (w : World) (hr0 : Kd.C (Kd.int .u8) w A0 l0.length l0) (hc0 : l0.length ≤ c0) (h : roundhouseref3_bare.f k l0 = some r) :
    Calls Try.prog 52 #[.slice A0 l0.length c0] w fun e w' => e = .returned (.bool r) ∧ Drawn0 w w' := by
  have HR0 := Aside0.mk hr0
  have HC0 := Aside0.mk hc0
  clear hr0 hc0
  have H : (if 0 < (l0.length : Int) then (if (rd l0 0) = 2 then ((roundhouseref3_Num.f k l0 22 2).bind fun t282 => (some (t282 == 0))) else (some false)) else (none)) = some r := h
  clear h
  by_cases c2 : 0 < (l0.length : Int)
  · rw [if_pos c2] at H
    have c2b0 : decide (0 < (l0.length : Int)) = true := decide_eq_true c2
    have c2b1 : decide (0 < l0.length) = true := decide_eq_true (by omega)
    clear c2
    by_cases c3 : (rd l0 0) = 2
    · rw [if_pos c3] at H
      have c3b0 : ((rd l0 0) == 2) = true := beq_iff_eq.mpr c3
      have c3b1 : ((rd l0 0) != 2) = false := bne_eq_false_iff_eq.mpr c3
      clear c3
      replace H := Option.bind_eq_some_iff.mp H
      obtain ⟨t282, A40, H⟩ := H
      replace H : (some (t282 == 0)) = some r := H
      have A4 := Aside0.mk A40
      clear A40
      obtain rfl := Option.some.inj H
      have p281 : 0 ≤ (0 : Int) := (by omega)
      have q281 : 0 < (l0.length : Int) := of_decide_eq_true (by first | (with_reducible assumption) | assumption)
      obtain ⟨ad281, e281, hx281_0⟩ := Kd.at_int HR0.out 0 p281 q281
      cases e281
      have qi281 : (0 < l0.length) = True := eq_true (by omega)
      (try rw [show ((0 : Int)).toNat = 0 from rfl] at hx281_0)
      (try rw [Addr.add_zero'] at hx281_0)
      replace p281 := eq_true p281
      replace q281 := eq_true q281
      go_enter Try.func52, Try.ntmps52
      go_wp2_with (first | (go_at_call 32; (with_reducible refine (roundhouseref3_Num.calls k _ _ l0 22 2 t282 _ ?side1 ?side2 A4.out).mono ?_); (case side1 => repeat (first | exact HR0.out | (with_reducible refine Kd.C_alloc ?_ _) | (with_reducible refine Kd.C_drewN ?_ _) | (with_reducible refine Kd.C_drew ?_))); (case side2 => exact HC0.out); rintro e w' ⟨rfl, ⟨nd, rfl⟩⟩))
      go_ret
      exact ⟨by first | rfl | (simp; done) | (simp [*]; done), by repeat (first | exact Drawn0.refl _ | apply Drawn0.step)⟩
    · rw [if_neg c3] at H
      have c3b0 : ((rd l0 0) == 2) = false := beq_eq_false_iff_ne.mpr c3
      have c3b1 : ((rd l0 0) != 2) = true := bne_iff_ne.mpr c3
      obtain rfl := Option.some.inj H
      have p281 : 0 ≤ (0 : Int) := (by omega)
      have q281 : 0 < (l0.length : Int) := of_decide_eq_true (by first | (with_reducible assumption) | assumption)
      obtain ⟨ad281, e281, hx281_0⟩ := Kd.at_int HR0.out 0 p281 q281
      cases e281
      have qi281 : (0 < l0.length) = True := eq_true (by omega)
      (try rw [show ((0 : Int)).toNat = 0 from rfl] at hx281_0)
      (try rw [Addr.add_zero'] at hx281_0)
      replace p281 := eq_true p281
      replace q281 := eq_true q281
      go_enter Try.func52, Try.ntmps52
      go_wp2
      go_ret
      exact ⟨by first | rfl | (simp; done) | (simp [*]; done), by repeat (first | exact Drawn0.refl _ | apply Drawn0.step)⟩
  · rw [if_neg c2] at H
    exact absurd H (by simp)

def roundhouseref1_Turn.f (a0 : Int) (a1 : Int) (a2 : Int) : Option (Int) := (roundhouseref1_Plus.f (wrap64 (65535 - a0)) (wrap64 (65535 - a1))).bind fun t283 => ((roundhouseref1_Plus.f t283 a2).bind fun t284 => (some (wrap64 (65535 - t284))))
set_option maxHeartbeats 8000000 in
set_option maxRecDepth 100000 in
theorem roundhouseref1_Turn.calls (a0 : Int) (a1 : Int) (a2 : Int) (r : Int) (w : World) (h : roundhouseref1_Turn.f a0 a1 a2 = some r) :
    Calls Try.prog 53 #[.int .i64 a0, .int .i64 a1, .int .i64 a2] w fun e w' => e = .returned (.int .i64 r) ∧ Drawn0 w w' := by
  have H : ((roundhouseref1_Plus.f (wrap64 (65535 - a0)) (wrap64 (65535 - a1))).bind fun t283 => ((roundhouseref1_Plus.f t283 a2).bind fun t284 => (some (wrap64 (65535 - t284))))) = some r := h
  clear h
  replace H := Option.bind_eq_some_iff.mp H
  obtain ⟨t283, A40, H⟩ := H
  replace H : ((roundhouseref1_Plus.f t283 a2).bind fun t284 => (some (wrap64 (65535 - t284)))) = some r := H
  have A4 := Aside0.mk A40
  clear A40
  replace H := Option.bind_eq_some_iff.mp H
  obtain ⟨t284, A50, H⟩ := H
  replace H : (some (wrap64 (65535 - t284))) = some r := H
  have A5 := Aside0.mk A50
  clear A50
  obtain rfl := Option.some.inj H
  go_enter Try.func53, Try.ntmps53
  go_wp2_with (first | ((with_reducible refine gate_callee (f := 59) rfl ?_); refine goesL_ (some 11) rfl rfl Try.func59 (by kernel_rfl) rfl #[.int .i64 (wrap64 (65535 - a0)), .int .i64 (wrap64 (65535 - a1))] rfl (by (try simp only [List.map_toArray, List.map_cons, List.map_nil]); first | done | rfl | (simp only [List.length_drop, List.length_take]; rfl)) ?_; (with_reducible refine (roundhouseref1_Plus.calls (wrap64 (65535 - a0)) (wrap64 (65535 - a1)) t283 _ A4.out).mono ?_); rintro e w' ⟨rfl, ⟨nd, rfl⟩⟩; refine ⟨_, rfl, ?_⟩) | ((with_reducible refine gate_callee (f := 59) rfl ?_); refine goesL_ (some 13) rfl rfl Try.func59 (by kernel_rfl) rfl #[.int .i64 t283, .int .i64 a2] rfl (by (try simp only [List.map_toArray, List.map_cons, List.map_nil]); first | done | rfl | (simp only [List.length_drop, List.length_take]; rfl)) ?_; (with_reducible refine (roundhouseref1_Plus.calls t283 a2 t284 _ A5.out).mono ?_); rintro e w' ⟨rfl, ⟨nd, rfl⟩⟩; refine ⟨_, rfl, ?_⟩))
  go_ret
  exact ⟨by first | rfl | (simp; done) | (simp [*]; done), by repeat (first | exact Drawn0.refl _ | apply Drawn0.step)⟩

def roundhouseref3_pair.f (k : Nat) (l0 : List Int) (a1 : Int) : Option (Int) := if (wrap64 (a1 + 1)) < (l0.length : Int) then ((roundhouseref3_Num.f k l0 a1 2).bind fun t285 => (some t285)) else (if 0 ≤ a1 then (if a1 < (l0.length : Int) then (some (wrap64 ((wrap64 (rd l0 a1)) * 256))) else (none)) else (none))
theorem roundhouseref3_pair.mono : ∀ a0 a1 k, LeO (roundhouseref3_pair.f k a0 a1) (roundhouseref3_pair.f (k + 1) a0 a1) := by
  intro a0 a1 k
  unfold roundhouseref3_pair.f
  repeat' first
      | (with_reducible exact roundhouseref3_Num.mono _ _ _ _)
      | (with_reducible exact LeO.refl _)
      | (with_reducible exact LeO.none _)
      | (with_reducible refine LeO.ite ?_ ?_)
      | (with_reducible refine LeO.bind ?_ (fun _ => ?_))
      | exact roundhouseref3_Num.mono _ _ _ _
      | exact LeO.none _
      | refine LeO.ite ?_ ?_
      | refine LeO.bind ?_ (fun _ => ?_)
set_option maxHeartbeats 8000000 in
set_option maxRecDepth 100000 in
theorem roundhouseref3_pair.calls (k : Nat) (A0 : Option Addr) (c0 : Nat) (l0 : List Int) (a1 : Int) (r : Int) (w : World) (hr0 : Kd.C (Kd.int .u8) w A0 l0.length l0) (hc0 : l0.length ≤ c0) (h : roundhouseref3_pair.f k l0 a1 = some r) :
    Calls Try.prog 54 #[.slice A0 l0.length c0, .int .i64 a1] w fun e w' => e = .returned (.int .i64 r) ∧ Drawn0 w w' := by
  have HR0 := Aside0.mk hr0
  have HC0 := Aside0.mk hc0
  clear hr0 hc0
  have H : (if (wrap64 (a1 + 1)) < (l0.length : Int) then ((roundhouseref3_Num.f k l0 a1 2).bind fun t285 => (some t285)) else (if 0 ≤ a1 then (if a1 < (l0.length : Int) then (some (wrap64 ((wrap64 (rd l0 a1)) * 256))) else (none)) else (none))) = some r := h
  clear h
  by_cases c3 : (wrap64 (a1 + 1)) < (l0.length : Int)
  · rw [if_pos c3] at H
    have c3b0 : decide ((wrap64 (a1 + 1)) < (l0.length : Int)) = true := decide_eq_true c3
    clear c3
    replace H := Option.bind_eq_some_iff.mp H
    obtain ⟨t285, A40, H⟩ := H
    replace H : (some t285) = some r := H
    have A4 := Aside0.mk A40
    clear A40
    obtain rfl := Option.some.inj H
    go_enter Try.func54, Try.ntmps54
    go_wp2_with (first | ((with_reducible refine gate_callee (f := 32) rfl ?_); refine goesL_ (some 12) rfl rfl Try.func32 (by kernel_rfl) rfl #[.slice A0 l0.length c0, .int .i64 a1, .int .i64 2] rfl (by (try simp only [List.map_toArray, List.map_cons, List.map_nil]); first | done | rfl | (simp only [List.length_drop, List.length_take]; rfl)) ?_; (with_reducible refine (roundhouseref3_Num.calls k _ _ l0 a1 2 t285 _ ?side1 ?side2 A4.out).mono ?_); (case side1 => repeat (first | exact HR0.out | (with_reducible refine Kd.C_alloc ?_ _) | (with_reducible refine Kd.C_drewN ?_ _) | (with_reducible refine Kd.C_drew ?_))); (case side2 => exact HC0.out); rintro e w' ⟨rfl, ⟨nd, rfl⟩⟩; refine ⟨_, rfl, ?_⟩))
    go_ret
    exact ⟨by first | rfl | (simp; done) | (simp [*]; done), by repeat (first | exact Drawn0.refl _ | apply Drawn0.step)⟩
  · rw [if_neg c3] at H
    have c3b0 : decide ((wrap64 (a1 + 1)) < (l0.length : Int)) = false := decide_eq_false c3
    clear c3
    by_cases c5 : 0 ≤ a1
    · rw [if_pos c5] at H
      have c5b0 : decide (0 ≤ a1) = true := decide_eq_true c5
      clear c5
      by_cases c6 : a1 < (l0.length : Int)
      · rw [if_pos c6] at H
        have c6b0 : decide (a1 < (l0.length : Int)) = true := decide_eq_true c6
        clear c6
        obtain rfl := Option.some.inj H
        have p286 : 0 ≤ (a1 : Int) := of_decide_eq_true (by first | (with_reducible assumption) | assumption)
        have q286 : a1 < (l0.length : Int) := of_decide_eq_true (by first | (with_reducible assumption) | assumption)
        obtain ⟨ad286, e286, hx286_0⟩ := Kd.at_int HR0.out a1 p286 q286
        cases e286
        replace p286 := eq_true p286
        replace q286 := eq_true q286
        go_enter Try.func54, Try.ntmps54
        go_wp2
        go_ret
        exact ⟨by first | rfl | (simp; done) | (simp [*]; done), by repeat (first | exact Drawn0.refl _ | apply Drawn0.step)⟩
      · rw [if_neg c6] at H
        exact absurd H (by simp)
    · rw [if_neg c5] at H
      exact absurd H (by simp)

def roundhouseref3_end.f (k : Nat) (l0 : List Int) (a1 : Bool) : Option (List Int) := if 0 < (l0.length : Int) then (if (rd l0 0) = 2 then (if a1 = true then (some l0) else ((roundhouseref3_Num.f k l0 22 2).bind fun t288 => (if t288 = 0 then ((roundhouseref3_put.f k l0 22 2 65535).bind fun t289 => (some t289)) else (some l0)))) else (some l0)) else (none)
theorem roundhouseref3_end.mono : ∀ a0 a1 k, LeO (roundhouseref3_end.f k a0 a1) (roundhouseref3_end.f (k + 1) a0 a1) := by
  intro a0 a1 k
  unfold roundhouseref3_end.f
  repeat' first
      | (with_reducible exact roundhouseref3_Num.mono _ _ _ _)
      | (with_reducible exact roundhouseref3_put.mono _ _ _ _ _)
      | (with_reducible exact LeO.refl _)
      | (with_reducible exact LeO.none _)
      | (with_reducible refine LeO.ite ?_ ?_)
      | (with_reducible refine LeO.bind ?_ (fun _ => ?_))
      | exact roundhouseref3_Num.mono _ _ _ _
      | exact roundhouseref3_put.mono _ _ _ _ _
      | exact LeO.none _
      | refine LeO.ite ?_ ?_
      | refine LeO.bind ?_ (fun _ => ?_)
set_option maxHeartbeats 8000000 in
set_option maxRecDepth 100000 in
theorem roundhouseref3_end.calls (k : Nat) (P0_ : Nat → Prop) (u9000_ : Value) (l0 : List Int) (a1 : Bool) (r : List Int) (w0 w : World) (hB : Below w0.heap.size w0 w) (ho0 : Kd.R (Kd.int .u8) 5 w w0.heap.size P0_ u9000_ l0) (h : roundhouseref3_end.f k l0 a1 = some r) :
    Calls Try.prog 55 #[u9000_, .bool a1] w fun e w' => e = .returned (.tuple #[]) ∧ Kd.R (Kd.int .u8) 5 w' w0.heap.size (fun k_ => (P0_ k_ ∨ w.heap.size ≤ k_)) u9000_ r ∧ Below w0.heap.size w0 w' ∧ Kept w w' (fun k_ => P0_ k_) := by
  have HO0 := Aside0.mk (show Kd.R (Kd.int .u8) 5 w w0.heap.size (fun k_ => (P0_ k_ ∨ w.heap.size ≤ k_)) u9000_ l0 from Kd.R_mono ho0 (fun k_ hk => (.inl hk)))
  have HK := Aside0.mk (Kept.refl w (fun k_ => P0_ k_))
  have HW0 := Aside0.mk hB.size
  have HB := Aside0.mk hB
  clear hB
  have H : (if 0 < (l0.length : Int) then (if (rd l0 0) = 2 then (if a1 = true then (some l0) else ((roundhouseref3_Num.f k l0 22 2).bind fun t288 => (if t288 = 0 then ((roundhouseref3_put.f k l0 22 2 65535).bind fun t289 => (some t289)) else (some l0)))) else (some l0)) else (none)) = some r := h
  clear h
  by_cases c3 : 0 < (l0.length : Int)
  · rw [if_pos c3] at H
    have c3b0 : decide (0 < (l0.length : Int)) = true := decide_eq_true c3
    have c3b1 : decide (0 < l0.length) = true := decide_eq_true (by omega)
    clear c3
    by_cases c4 : (rd l0 0) = 2
    · rw [if_pos c4] at H
      have c4b0 : ((rd l0 0) == 2) = true := beq_iff_eq.mpr c4
      have c4b1 : ((rd l0 0) != 2) = false := bne_eq_false_iff_eq.mpr c4
      clear c4
      by_cases c5 : a1 = true
      · subst c5
        have H1 : (some l0) = some r := by rw [if_pos rfl] at H; exact H
        clear H
        have H := H1
        clear H1
        obtain rfl := Option.some.inj H
        obtain ⟨Ao6, co6, eo6⟩ := Kd.R_slice HO0.out
        subst eo6
        have p287 : 0 ≤ (0 : Int) := (by omega)
        have q287 : 0 < (l0.length : Int) := of_decide_eq_true (by first | (with_reducible assumption) | assumption)
        obtain ⟨ad287, e287, hx287_0⟩ := Kd.at_int (Kd.R_reads' HO0.out).2.2 0 p287 q287
        cases e287
        have qi287 : (0 < l0.length) = True := eq_true (by omega)
        (try rw [show ((0 : Int)).toNat = 0 from rfl] at hx287_0)
        (try rw [Addr.add_zero'] at hx287_0)
        replace p287 := eq_true p287
        replace q287 := eq_true q287
        go_enter Try.func55, Try.ntmps55
        go_wp2
        first | go_end0 | ((try simp only [Exit.inBlock, Exit.then]); refine bodyPost_ret (results_none rfl _ _ _) rfl ?_)
        exact ⟨by first | rfl | (simp [errW_none, errW_some] <;> rfl) | (simp [*, errW_none, errW_some] <;> rfl), by (with_reducible repeat (first | apply Kd.R_alloc | apply Kd.R_drewN | apply Kd.R_drew)); exact HO0.out, by repeat (first | (with_reducible first | exact HB.out | apply below_alloc | apply pw_below_drewN | apply below_drew1) | exact HB.out), by repeat (first | (with_reducible first | exact HK.out | apply Kept.alloc | apply Kept.drewN | apply Kept.drew) | exact HK.out)⟩
      · replace c5 := Bool.eq_false_iff.mpr c5
        subst c5
        have H1 : ((roundhouseref3_Num.f k l0 22 2).bind fun t288 => (if t288 = 0 then ((roundhouseref3_put.f k l0 22 2 65535).bind fun t289 => (some t289)) else (some l0))) = some r := by rw [if_neg (show ¬ (false = true) by decide)] at H; exact H
        clear H
        have H := H1
        clear H1
        replace H := Option.bind_eq_some_iff.mp H
        obtain ⟨t288, A70, H⟩ := H
        replace H : (if t288 = 0 then ((roundhouseref3_put.f k l0 22 2 65535).bind fun t289 => (some t289)) else (some l0)) = some r := H
        have A7 := Aside0.mk A70
        clear A70
        by_cases c8 : t288 = 0
        · rw [if_pos c8] at H
          have c8b0 : (t288 == 0) = true := beq_iff_eq.mpr c8
          have c8b1 : (t288 != 0) = false := bne_eq_false_iff_eq.mpr c8
          clear c8
          replace H := Option.bind_eq_some_iff.mp H
          obtain ⟨t289, A90, H⟩ := H
          replace H : (some t289) = some r := H
          have A9 := Aside0.mk A90
          clear A90
          obtain rfl := Option.some.inj H
          obtain ⟨Ao10, co10, eo10⟩ := Kd.R_slice HO0.out
          subst eo10
          have p287 : 0 ≤ (0 : Int) := (by omega)
          have q287 : 0 < (l0.length : Int) := of_decide_eq_true (by first | (with_reducible assumption) | assumption)
          obtain ⟨ad287, e287, hx287_0⟩ := Kd.at_int (Kd.R_reads' HO0.out).2.2 0 p287 q287
          cases e287
          have qi287 : (0 < l0.length) = True := eq_true (by omega)
          (try rw [show ((0 : Int)).toNat = 0 from rfl] at hx287_0)
          (try rw [Addr.add_zero'] at hx287_0)
          replace p287 := eq_true p287
          replace q287 := eq_true q287
          go_enter Try.func55, Try.ntmps55
          go_wp2_with (first | (go_at_call 32; (with_reducible refine (roundhouseref3_Num.calls k _ _ l0 22 2 t288 _ ?side1 ?side2 A7.out).mono ?_); (case side1 => repeat (first | exact (Kd.R_reads' HO0.out).2.2 | (with_reducible refine Kd.C_alloc ?_ _) | (with_reducible refine Kd.C_drewN ?_ _) | (with_reducible refine Kd.C_drew ?_))); (case side2 => exact (Kd.R_reads' HO0.out).2.1); rintro e w' ⟨rfl, ⟨nd, rfl⟩⟩) | ((with_reducible refine gate_callee (f := 41) rfl ?_); refine goesL_ (some 18) rfl rfl Try.func41 (by kernel_rfl) rfl #[.slice (some ad287) l0.length co10, .int .i64 22, .int .i64 2, .int .i64 65535] rfl (by (try simp only [List.map_toArray, List.map_cons, List.map_nil]); first | done | rfl | (simp only [List.length_drop, List.length_take]; rfl)) ?_; (with_reducible refine (roundhouseref3_put.calls k (fun k_ => some k_ = (.slice (some ad287) l0.length co10 : Value).ownBlock) (.slice (some ad287) l0.length co10) l0 22 2 65535 t289 w0 _ ?side1 ?side2 A9.out).mono ?_); (case side1 => repeat (first | (with_reducible first | exact HB.out | apply below_alloc | apply pw_below_drewN | apply below_drew1) | exact HB.out)); (case side2 => exact Kd.R_tight rfl HO0.out); rintro e w11 ⟨rfl, hy0, hb, hkp⟩; refine ⟨_, rfl, ?_⟩; have n0_ := Aside0.mk (Kd.R_reok rfl hy0 (fun k_ e_ => HO0.out.1 k_ e_)); have n1_ := Aside0.mk (Kept.then_ (S := (fun k_ => P0_ k_)) (by repeat (first | (with_reducible first | exact HK.out | apply Kept.alloc | apply Kept.drewN | apply Kept.drew) | exact HK.out)) hkp (fun k_ hs_ => (fun e_ => (HO0.out.1 k_ e_.symm)) hs_)); have n2_ := Aside0.mk (hb); clear HO0; clear HK; clear HB; have HO0 := n0_; have HK := n1_; have HB := n2_; clear n0_ n1_ n2_; (try clear hb); (try clear hkp); (try clear hy0)))
          first | go_end0 | ((try simp only [Exit.inBlock, Exit.then]); refine bodyPost_ret (results_none rfl _ _ _) rfl ?_)
          exact ⟨by first | rfl | (simp [errW_none, errW_some] <;> rfl) | (simp [*, errW_none, errW_some] <;> rfl), by (with_reducible repeat (first | apply Kd.R_alloc | apply Kd.R_drewN | apply Kd.R_drew)); exact HO0.out, by repeat (first | (with_reducible first | exact HB.out | apply below_alloc | apply pw_below_drewN | apply below_drew1) | exact HB.out), by repeat (first | (with_reducible first | exact HK.out | apply Kept.alloc | apply Kept.drewN | apply Kept.drew) | exact HK.out)⟩
        · rw [if_neg c8] at H
          have c8b0 : (t288 == 0) = false := beq_eq_false_iff_ne.mpr c8
          have c8b1 : (t288 != 0) = true := bne_iff_ne.mpr c8
          obtain rfl := Option.some.inj H
          obtain ⟨Ao12, co12, eo12⟩ := Kd.R_slice HO0.out
          subst eo12
          have p287 : 0 ≤ (0 : Int) := (by omega)
          have q287 : 0 < (l0.length : Int) := of_decide_eq_true (by first | (with_reducible assumption) | assumption)
          obtain ⟨ad287, e287, hx287_0⟩ := Kd.at_int (Kd.R_reads' HO0.out).2.2 0 p287 q287
          cases e287
          have qi287 : (0 < l0.length) = True := eq_true (by omega)
          (try rw [show ((0 : Int)).toNat = 0 from rfl] at hx287_0)
          (try rw [Addr.add_zero'] at hx287_0)
          replace p287 := eq_true p287
          replace q287 := eq_true q287
          go_enter Try.func55, Try.ntmps55
          go_wp2_with (first | (go_at_call 32; (with_reducible refine (roundhouseref3_Num.calls k _ _ l0 22 2 t288 _ ?side1 ?side2 A7.out).mono ?_); (case side1 => repeat (first | exact (Kd.R_reads' HO0.out).2.2 | (with_reducible refine Kd.C_alloc ?_ _) | (with_reducible refine Kd.C_drewN ?_ _) | (with_reducible refine Kd.C_drew ?_))); (case side2 => exact (Kd.R_reads' HO0.out).2.1); rintro e w' ⟨rfl, ⟨nd, rfl⟩⟩))
          first | go_end0 | ((try simp only [Exit.inBlock, Exit.then]); refine bodyPost_ret (results_none rfl _ _ _) rfl ?_)
          exact ⟨by first | rfl | (simp [errW_none, errW_some] <;> rfl) | (simp [*, errW_none, errW_some] <;> rfl), by (with_reducible repeat (first | apply Kd.R_alloc | apply Kd.R_drewN | apply Kd.R_drew)); exact HO0.out, by repeat (first | (with_reducible first | exact HB.out | apply below_alloc | apply pw_below_drewN | apply below_drew1) | exact HB.out), by repeat (first | (with_reducible first | exact HK.out | apply Kept.alloc | apply Kept.drewN | apply Kept.drew) | exact HK.out)⟩
    · rw [if_neg c4] at H
      have c4b0 : ((rd l0 0) == 2) = false := beq_eq_false_iff_ne.mpr c4
      have c4b1 : ((rd l0 0) != 2) = true := bne_iff_ne.mpr c4
      obtain rfl := Option.some.inj H
      obtain ⟨Ao13, co13, eo13⟩ := Kd.R_slice HO0.out
      subst eo13
      have p287 : 0 ≤ (0 : Int) := (by omega)
      have q287 : 0 < (l0.length : Int) := of_decide_eq_true (by first | (with_reducible assumption) | assumption)
      obtain ⟨ad287, e287, hx287_0⟩ := Kd.at_int (Kd.R_reads' HO0.out).2.2 0 p287 q287
      cases e287
      have qi287 : (0 < l0.length) = True := eq_true (by omega)
      (try rw [show ((0 : Int)).toNat = 0 from rfl] at hx287_0)
      (try rw [Addr.add_zero'] at hx287_0)
      replace p287 := eq_true p287
      replace q287 := eq_true q287
      go_enter Try.func55, Try.ntmps55
      go_wp2
      first | go_end0 | ((try simp only [Exit.inBlock, Exit.then]); refine bodyPost_ret (results_none rfl _ _ _) rfl ?_)
      exact ⟨by first | rfl | (simp [errW_none, errW_some] <;> rfl) | (simp [*, errW_none, errW_some] <;> rfl), by (with_reducible repeat (first | apply Kd.R_alloc | apply Kd.R_drewN | apply Kd.R_drew)); exact HO0.out, by repeat (first | (with_reducible first | exact HB.out | apply below_alloc | apply pw_below_drewN | apply below_drew1) | exact HB.out), by repeat (first | (with_reducible first | exact HK.out | apply Kept.alloc | apply Kept.drewN | apply Kept.drew) | exact HK.out)⟩
  · rw [if_neg c3] at H
    exact absurd H (by simp)













end Go.Proofs.Ytbjhmifhmojaoaa.Hp

namespace Go.Proofs.Ytbjhmifhmojaoaa.SB
set_option linter.unusedVariables false
set_option linter.unusedSimpArgs false
open Go.RowKit Go.Proofs.Ytbjhmifhmojaoaa.Hp Go.Proofs.YtbjhmifhmojaoaaW.PrintWords Go.Proofs.YtbjhmifhmojaoaaW.PrintLast

def plus (a b : Int) : Int := if a + b > 65535 then a + b - 65535 else a + b
def fold (n : Int) : Int := if n = 0 then 0 else (n - 1) % 65535 + 1
def pairs : List Int → Int
  | [] => 0
  | [x] => x * 256
  | x :: y :: l => x * 256 + y + pairs l
def Bytes (l : List Int) : Prop := ∀ x ∈ l, 0 ≤ x ∧ x ≤ 255
def turn (s a b : Int) : Int := 65535 - plus (65535 - s) (plus (65535 - a) b)

theorem wid {n : Int} (h : -9223372036854775808 ≤ n) (h' : n ≤ 9223372036854775807) : wrap64 n = n := by unfold wrap64; omega
theorem wrap_i64w (n : Int) (h0 : 0 ≤ n) (h1 : n < 2 ^ 63) : Go.IntKind.i64.wrap n = n := by rw [Go.IntKind.wrap_i64]; omega
theorem and_full {n : Int} (h0 : 0 ≤ n) (h1 : n < 9223372036854775808) : Go.bits .and .i64 n 65535 = n % 65536 :=
  Go.bits_mask .i64 63 (by decide) wrap_i64w 16 (by decide) n h0 h1

theorem fold_bounds {n : Int} : 0 ≤ fold n ∧ fold n ≤ 65535 := by unfold fold; split <;> omega
theorem fold_plus {n x : Int} (hn : 0 ≤ n) (h0 : 0 ≤ x) (h1 : x ≤ 65535) : plus (fold n) x = fold (n + x) := by
  unfold plus fold; repeat' split
  all_goals omega
theorem fold_zero : fold 0 = 0 := rfl
theorem plus_bounds {a b : Int} (ha : 0 ≤ a) (ha' : a ≤ 65535) (hb : 0 ≤ b) (hb' : b ≤ 65535) : 0 ≤ plus a b ∧ plus a b ≤ 65535 := by
  unfold plus; split <;> omega
theorem turn_bounds {s a b : Int} (hs : 0 ≤ s) (hs' : s ≤ 65535) (ha : 0 ≤ a) (ha' : a ≤ 65535) (hb : 0 ≤ b) (hb' : b ≤ 65535) : 0 ≤ turn s a b ∧ turn s a b ≤ 65535 := by
  unfold turn plus; repeat' split
  all_goals omega

theorem plus_f {a b : Int} (ha : 0 ≤ a) (ha' : a ≤ 65535) (hb : 0 ≤ b) (hb' : b ≤ 65535) : sum_Plus.f a b = some (plus a b) := by
  unfold sum_Plus.f
  rw [wid (n := a + b) (by omega) (by omega), and_full (by omega) (by omega), and_full (by omega) (by omega), wid (by omega) (by omega)]
  unfold plus
  split <;> (congr 1; omega)

theorem drop2 {l : List Int} {i : Nat} (h : i + 1 < l.length) : l.drop i = l.getD i 0 :: l.getD (i + 1) 0 :: l.drop (i + 2) := by
  rw [List.drop_eq_getElem_cons (by omega), List.drop_eq_getElem_cons h]
  simp [List.getD_eq_getElem?_getD, h, show i < l.length by omega]
theorem drop1 {l : List Int} {i : Nat} (h : i + 1 = l.length) : l.drop i = [l.getD i 0] := by
  rw [List.drop_eq_getElem_cons (by omega)]
  simp [List.getD_eq_getElem?_getD, show i < l.length by omega, h]
theorem getD_byte {l : List Int} (hb : Bytes l) (i : Nat) : 0 ≤ l.getD i 0 ∧ l.getD i 0 ≤ 255 := by
  rw [List.getD_eq_getElem?_getD]
  by_cases h : i < l.length
  · rw [List.getElem?_eq_getElem h]; exact hb _ (List.getElem_mem h)
  · rw [List.getElem?_eq_none (by omega)]; simp
theorem rd_nat (l : List Int) (i : Nat) : rd l (i : Int) = l.getD i 0 := by unfold rd; rw [Int.toNat_natCast]
theorem rd_nat1 (l : List Int) (i : Nat) : rd l ((i : Int) + 1) = l.getD (i + 1) 0 := rd_nat l (i + 1)
theorem pairs_nonneg : ∀ {l : List Int}, Bytes l → 0 ≤ pairs l
  | [], _ => Int.le_refl _
  | [x], h => by have := h x (by simp); simp only [pairs]; omega
  | x :: y :: l, h => by
    have h1 := h x (by simp)
    have h2 := h y (by simp)
    have := pairs_nonneg (l := l) (fun z hz => h z (by simp [hz]))
    simp only [pairs]; omega

theorem add_l0 (l : List Int) (hl : l.length ≤ 140737488355328) (hb : Bytes l) : ∀ (k i : Nat) (S : Int), 0 ≤ S → i ≤ l.length + 1 → l.length + 2 ≤ i + k → sum_Add.l0 k l (fold S) i = some (fold (S + pairs (l.drop i))) := by
  intro k
  induction k with
  | zero => intro i S hS hi hk; omega
  | succ k ih =>
    intro i S hS hi hk
    have b1 := getD_byte hb i
    have b2 := getD_byte hb (i + 1)
    have bf := @fold_bounds S
    simp only [sum_Add.l0]
    rw [wid (n := (i : Int) + 1) (by omega) (by omega), wid (n := (i : Int) + 2) (by omega) (by omega), rd_nat, rd_nat1]
    by_cases h : i < l.length
    · rw [if_pos (by omega), if_pos (by omega)]
      by_cases h1 : i + 1 < l.length
      · rw [if_pos (by omega), if_pos (by omega), wid (n := l.getD i 0) (by omega) (by omega), wid (n := l.getD (i + 1) 0) (by omega) (by omega), wid (n := l.getD i 0 * 256) (by omega) (by omega), wid (by omega) (by omega),
          plus_f bf.1 bf.2 (by omega) (by omega), fold_plus hS (by omega) (by omega)]
        have := ih (i + 2) (S + (l.getD i 0 * 256 + l.getD (i + 1) 0)) (by omega) (by omega) (by omega)
        simp only [Option.bind_some]
        rw [show ((i : Int) + 2) = ((i + 2 : Nat) : Int) by omega, this, drop2 h1]
        simp only [pairs]
        congr 2; omega
      · rw [if_neg (by omega), wid (n := l.getD i 0) (by omega) (by omega), wid (n := l.getD i 0 * 256) (by omega) (by omega), plus_f bf.1 bf.2 (by omega) (by omega), fold_plus hS (by omega) (by omega)]
        have := ih (i + 2) (S + (l.getD i 0 * 256)) (by omega) (by omega) (by omega)
        simp only [Option.bind_some]
        rw [show ((i : Int) + 2) = ((i + 2 : Nat) : Int) by omega, this, drop1 (show i + 1 = l.length by omega), List.drop_eq_nil_of_le (by omega)]
        simp only [pairs]
        congr 2; omega
    · rw [if_neg (by omega), List.drop_eq_nil_of_le (by omega)]
      simp [pairs]

theorem add_f {l : List Int} {k : Nat} (hl : l.length ≤ 140737488355328) (hb : Bytes l) (hk : l.length + 2 ≤ k) : sum_Add.f k l = some (fold (pairs l)) := by
  unfold sum_Add.f
  have := add_l0 l hl hb k 0 0 (Int.le_refl _) (by omega) (by omega)
  rw [List.drop_zero, Int.zero_add, fold_zero] at this
  exact this
theorem of_f {l : List Int} {k : Nat} (hl : l.length ≤ 140737488355328) (hb : Bytes l) (hk : l.length + 2 ≤ k) : sum_Of.f k l = some (65535 - fold (pairs l)) := by
  unfold sum_Of.f
  have bf := @fold_bounds (pairs l)
  rw [add_f hl hb hk, Option.bind_some, wid (by omega) (by omega)]
theorem right_f {l : List Int} {k : Nat} (hl : l.length ≤ 140737488355328) (hb : Bytes l) (hk : l.length + 2 ≤ k) : sum_Right.f k l = some (fold (pairs l) == 65535) := by
  unfold sum_Right.f
  rw [add_f hl hb hk, Option.bind_some]
theorem turn_f {s a b : Int} (hs : 0 ≤ s) (hs' : s ≤ 65535) (ha : 0 ≤ a) (ha' : a ≤ 65535) (hb : 0 ≤ b) (hb' : b ≤ 65535) : sum_Turn.f s a b = some (turn s a b) := by
  unfold sum_Turn.f turn
  have h1 := plus_bounds (a := 65535 - a) (b := b) (by omega) (by omega) hb hb'
  have h2 := plus_bounds (a := 65535 - s) (b := plus (65535 - a) b) (by omega) (by omega) h1.1 h1.2
  rw [wid (n := 65535 - a) (by omega) (by omega), wid (n := 65535 - s) (by omega) (by omega), plus_f (by omega) (by omega) hb hb', Option.bind_some, plus_f (by omega) (by omega) h1.1 h1.2, Option.bind_some, wid (by omega) (by omega)]
theorem bytes_of_wf {l : List Int} (h : ∀ x ∈ l, (Go.Lit.int .u8 x).wf = true) : Bytes l := by
  intro x hx
  have := h x hx
  simp only [Go.Lit.wf, Bool.and_eq_true, decide_eq_true_eq] at this
  exact ⟨this.1, this.2⟩
theorem bytes_nil : Bytes [] := by intro x hx; simp at hx
theorem Bytes.app {a b : List Int} (ha : Bytes a) (hb : Bytes b) : Bytes (a ++ b) := by
  intro x hx; rcases List.mem_append.1 hx with h | h
  · exact ha x h
  · exact hb x h
theorem Bytes.take {a : List Int} (ha : Bytes a) (n : Nat) : Bytes (a.take n) := fun x hx => ha x (List.mem_of_mem_take hx)
theorem Bytes.drop {a : List Int} (ha : Bytes a) (n : Nat) : Bytes (a.drop n) := fun x hx => ha x (List.mem_of_mem_drop hx)
theorem Bytes.set {a : List Int} (ha : Bytes a) (n : Nat) {v : Int} (h0 : 0 ≤ v) (h1 : v ≤ 255) : Bytes (a.set n v) := by
  intro x hx
  rcases List.mem_or_eq_of_mem_set hx with h | h
  · exact ha x h
  · subst h; exact ⟨h0, h1⟩
theorem pairs_app : ∀ (a b : List Int), a.length % 2 = 0 → pairs (a ++ b) = pairs a + pairs b
  | [], b, _ => by simp [pairs]
  | [x], b, h => by simp at h
  | x :: y :: l, b, h => by
    have := pairs_app l b (by simp at h; omega)
    simp only [List.cons_append, pairs, this]; omega
theorem rplus_f {a b : Int} (ha : 0 ≤ a) (ha' : a ≤ 65535) (hb : 0 ≤ b) (hb' : b ≤ 65535) : roundhouseref1_Plus.f a b = some (plus a b) := by
  unfold roundhouseref1_Plus.f plus
  rw [wid (n := a + b) (by omega) (by omega)]
  split
  · rw [wid (by omega) (by omega)]
  · rfl
theorem radd_l0 (l : List Int) (hl : l.length ≤ 140737488355328) (hb : Bytes l) : ∀ (k i : Nat) (S : Int), 0 ≤ S → i ≤ l.length + 1 → l.length + 2 ≤ i + k → roundhouseref1_Add.l0 k l (fold S) i = some (fold (S + pairs (l.drop i))) := by
  intro k
  induction k with
  | zero => intro i S hS hi hk; omega
  | succ k ih =>
    intro i S hS hi hk
    have b1 := getD_byte hb i
    have b2 := getD_byte hb (i + 1)
    have bf := @fold_bounds S
    simp only [roundhouseref1_Add.l0]
    rw [wid (n := (i : Int) + 1) (by omega) (by omega), wid (n := (i : Int) + 2) (by omega) (by omega), rd_nat, rd_nat1]
    by_cases h : i < l.length
    · rw [if_pos (by omega), if_pos (by omega)]
      by_cases h1 : i + 1 < l.length
      · rw [if_pos (by omega), if_pos (by omega), wid (n := l.getD i 0) (by omega) (by omega), wid (n := l.getD (i + 1) 0) (by omega) (by omega), wid (n := l.getD i 0 * 256) (by omega) (by omega), wid (by omega) (by omega),
          rplus_f bf.1 bf.2 (by omega) (by omega), fold_plus hS (by omega) (by omega)]
        have := ih (i + 2) (S + (l.getD i 0 * 256 + l.getD (i + 1) 0)) (by omega) (by omega) (by omega)
        simp only [Option.bind_some]
        rw [show ((i : Int) + 2) = ((i + 2 : Nat) : Int) by omega, this, drop2 h1]
        simp only [pairs]
        congr 2; omega
      · rw [if_neg (by omega), wid (n := l.getD i 0) (by omega) (by omega), wid (n := l.getD i 0 * 256) (by omega) (by omega), rplus_f bf.1 bf.2 (by omega) (by omega), fold_plus hS (by omega) (by omega)]
        have := ih (i + 2) (S + (l.getD i 0 * 256)) (by omega) (by omega) (by omega)
        simp only [Option.bind_some]
        rw [show ((i : Int) + 2) = ((i + 2 : Nat) : Int) by omega, this, drop1 (show i + 1 = l.length by omega), List.drop_eq_nil_of_le (by omega)]
        simp only [pairs]
        congr 2; omega
    · rw [if_neg (by omega), List.drop_eq_nil_of_le (by omega)]
      simp [pairs]

theorem radd_f {l : List Int} {k : Nat} (hl : l.length ≤ 140737488355328) (hb : Bytes l) (hk : l.length + 2 ≤ k) : roundhouseref1_Add.f k l = some (fold (pairs l)) := by
  unfold roundhouseref1_Add.f
  have := radd_l0 l hl hb k 0 0 (Int.le_refl _) (by omega) (by omega)
  rw [List.drop_zero, Int.zero_add, fold_zero] at this
  exact this
theorem rof_f {l : List Int} {k : Nat} (hl : l.length ≤ 140737488355328) (hb : Bytes l) (hk : l.length + 2 ≤ k) : roundhouseref1_Of.f k l = some (65535 - fold (pairs l)) := by
  unfold roundhouseref1_Of.f
  have bf := @fold_bounds (pairs l)
  rw [radd_f hl hb hk, Option.bind_some, wid (by omega) (by omega)]
theorem within_f {a n : Int} (h0 : 0 < n) (h1 : n ≤ 4611686018427387904) : roundhouselaw3_within.f a n = some (a % n) := by
  unfold roundhouselaw3_within.f
  rw [if_neg (by omega)]
  have e := Int.tmod_eq_emod (a := a) (b := n)
  have m0 := Int.emod_nonneg a (show n ≠ 0 by omega)
  have m1 := Int.emod_lt_of_pos a h0
  by_cases h : 0 ≤ a ∨ n ∣ a
  · rw [if_pos h] at e
    rw [if_neg (by omega)]
    congr 1; omega
  · rw [if_neg h] at e
    have hn : ((n.natAbs : Nat) : Int) = n := by omega
    rw [if_pos (by omega), wid (by omega) (by omega)]
    congr 1; omega
end Go.Proofs.Ytbjhmifhmojaoaa.SB
