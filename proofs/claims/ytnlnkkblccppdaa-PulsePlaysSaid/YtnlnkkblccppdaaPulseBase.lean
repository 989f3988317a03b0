/- Package pulse and the reference of chapter 8: what memory holds, and the contracts of their functions. -/
import Derived.Test.YtnlnkkblccppdaaProg
import Derived.Below
import Derived.Lib.Hide
import Derived.Deep.Draws
import Derived.Maps.AppendAt
import Derived.Maps.OwnSet
import Derived.Maps.OwnOps
import Derived.Maps.Views
import Derived.OwnWalk
import Derived.Tactics
import Derived.WalkKit
import Derived.KernelRfl
import Derived.RowKit3
import Derived.Deep.LoopGhost
import Derived.Deep.QuietTactic
import Derived.BigQuiet
import Derived.WideLaws
import Derived.Deep.DeepCutAuto
import Derived.Deep.CutBlock
import Derived.Laws.Rows
import Derived.RowKit
import Derived.WalkSpells
import Derived.WalkLawsBesides
namespace Go.Proofs.Ytnlnkkblccppdaa.PB
set_option linter.unusedVariables false
set_option linter.unusedSimpArgs false
open Go.RowKit Go.Maps

structure Hist where
  last : Int
  row : Int
  up : Bool
def zeroH : Hist := ⟨0, 0, false⟩
def encV (h : Hist) : Value := .agg #[.int .i64 h.last, .int .i64 h.row, .bool h.up]
def encD (h : Hist) : DataW Unit := .agg [.lit (.int .i64 h.last), .lit (.int .i64 h.row), .lit (.bool h.up)]
def hR (v : Value) : Option (DataW Unit × List MemPlace) :=
  match v with
  | .agg ⟨[.int .i64 a, .int .i64 b, .bool c]⟩ => some (.agg [.lit (.int .i64 a), .lit (.int .i64 b), .lit (.bool c)], [])
  | _ => none
theorem hR_enc (h : Hist) : hR (encV h) = some (encD h, []) := rfl
theorem hR_inv {v : Value} {h : Hist} {ps : List MemPlace} (e : hR v = some (encD h, ps)) : v = encV h := by
  unfold hR at e
  split at e
  · unfold encD at e
    simp only [Option.some.injEq, Prod.mk.injEq, DataW.agg.injEq, List.cons.injEq, DataW.lit.injEq, Lit.int.injEq, Lit.bool.injEq, true_and, and_true] at e
    obtain ⟨⟨rfl, rfl, rfl⟩, _⟩ := e
    rfl
  · cases e
abbrev K (s : Int) : Lit := .int .i64 s
theorem keyLit (s : Int) : WideAt.IsKeyLit (K s) := by unfold K; trivial
theorem K_ne {s t : Int} (h : t ≠ s) : K t ≠ K s := by intro e; injection e with _ e; exact h e
/-- What a map of histories holds. -/
def Rep (D : DataW Unit) (M : Int → Option Hist) : Prop := ∀ s, Maps.has D (K s) = (M s).isSome ∧ ∀ zd, D.atKey (K s) zd = ((M s).map encD).getD zd
def upd (M : Int → Option Hist) (s : Int) (x : Option Hist) : Int → Option Hist := fun t => if t = s then x else M t
theorem rep_empty : Rep (.map []) (fun _ => none) := fun s => ⟨rfl, fun zd => rfl⟩
theorem rep_put {D : DataW Unit} {M : Int → Option Hist} (hD : IsMap D) (h : Rep D M) (s : Int) (x : Hist) : Rep (D.put (K s) (encD x)) (upd M s (some x)) := by
  intro t
  by_cases e : t = s
  · subst e
    simp only [upd, if_true]
    exact ⟨has_put_same hD (keyLit t) _, fun zd => atKey_put_same hD (keyLit t) _ zd⟩
  · simp only [upd, if_neg e]
    exact ⟨(has_put_other (K_ne e) _).trans (h t).1, fun zd => (atKey_put_other (K_ne e) _ zd).trans ((h t).2 zd)⟩
theorem rep_del {D : DataW Unit} {M : Int → Option Hist} (h : Rep D M) (s : Int) : Rep (D.del (K s)) (upd M s none) := by
  intro t
  by_cases e : t = s
  · subst e
    simp only [upd, if_true]
    exact ⟨has_del_same, fun zd => atKey_del_same zd⟩
  · simp only [upd, if_neg e]
    exact ⟨(has_del_other (K_ne e)).trans (h t).1, fun zd => (atKey_del_other (K_ne e) zd).trans ((h t).2 zd)⟩
end Go.Proofs.Ytnlnkkblccppdaa.PB
