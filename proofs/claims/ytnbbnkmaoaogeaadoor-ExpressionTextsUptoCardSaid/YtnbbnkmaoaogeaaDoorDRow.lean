/- What the rows over listed variables share. -/
import Derived.Test.YtnbbnkmaoaogeaaDoorTy
import Derived.Test.YtnbbnkmaoaogeaaDoorAbB
import Derived.Test.YtnbbnkmaoaogeaaDoorVal
import Derived.Lib.SmallJoins
import Derived.LaidMore
import Derived.Stop.Joined
import Derived.Test.YtnbbnkmaoaogeaaDoorRows
import Derived.Test.YtnbbnkmaoaogeaaDoorChecked
set_option linter.all false
namespace Go.Proofs.YtnbbnkmaoaogeaaDoor
open Go.ChangeShapes Go.WideShapes Go.ChangeAt Go.RowKit Go.Ab Go.Proofs.Tryd

set_option maxRecDepth 100000
theorem own : ownKnob Tryd.prog.godebug = none := by kernel_rfl
theorem laidOut : laidOutB Tryd.prog = true := by kernel_rfl
theorem gNull : Tryd.prog.globalNamed "querylab/value.null" = some 0 := by kernel_rfl
theorem tNull : (Tryd.prog.globals[0]?).map (·.type) = some 23 := by kernel_rfl
def laid1 : List (String × DataW Unit) := [("querylab/value.null", Rows.laid_querylab_value_null)]

/-- What reads as a value is one. -/
theorem v_open {H : Type} {enc : TypeId × Value → H} {W : World} {base : Nat} {r : Reach} {b0 : Nat} {spare : Nat → Bool} {held : Bool} {v : Value} {d : DataW H} {p : List MemPlace}
    (hv : Value.okWide Tryd.prog W r b0 23 v) (h : DataW.Trod enc Tryd.prog W base spare held 23 v d p) (μ : Nat → Nat → Option Value) :
    ∃ u : V, RepA ⟨μ, fun _ => none⟩ v u.a ∧ (Lit.int .i64 u.k).wf = true ∧ (Lit.int .i64 u.n).wf = true := by
  obtain ⟨v0, v1, v2, y0, y1, y2, n, rfl, _, _, h0, h1, h2⟩ := Go.Joins.open_agg3 Tryd.underlying23 (by kernel_rfl) (by kernel_rfl) hv h
  obtain ⟨k, e0, _, w0⟩ := DataW.trod_int (k := .i64) (by kernel_rfl) h0
  obtain ⟨m, e1, _, w1⟩ := DataW.trod_int (k := .i64) (by kernel_rfl) h1
  obtain ⟨s, e2, _, _⟩ := DataW.trod_string (by kernel_rfl) h2
  simp only [List.cons.injEq, and_true] at e0 e1 e2
  subst e0 e1 e2
  exact ⟨⟨k, m, s.data.toList⟩, by simp [V.a, RepA, RepAs, RepD], w0, w1⟩

/-- The listed variable's cells. -/
theorem of_laid1 {W : World} (h : laidMetH Tryd.prog laid1 W) : ∀ g cs, En.G g = some cs → RepCells (memOf W) g 0 cs ∧ ∃ a ety z, W.heap[g]? = some (.cells a ety z) ∧ a.size = cs.length := by
  rw [MakeChecks.laidMetH_plain _ _ _ (by kernel_rfl)] at h
  obtain ⟨ps, ⟨g0, t0, cs0, f0, p0, q0, hg0, ht0, hv0, hd0, _, _⟩, _, _⟩ := h
  obtain rfl := Option.some.inj (gNull.symm.trans hg0)
  obtain rfl := Option.some.inj (tNull.symm.trans ht0)
  intro g cs hg
  rw [En_G] at hg
  split at hg
  · rename_i e
    subst e
    cases hg
    exact ⟨laid_rep (m := 3) gNull hv0 hd0 (by kernel_rfl), laid_size (m := 3) gNull hv0 hd0 (by kernel_rfl)⟩
  · cases hg

/-- The door's own heap meets the condition. -/
theorem door1 (os : Os) (args : Array Value) : laidMetH Tryd.prog laid1 ((World.doorLaid Tryd.prog 400 os).forCall (fun _ _ => 0) ⟨#[], args, []⟩).memory :=
  laidMetH_of_parts3 (fuel := 8) (laidMet_of_run' 8 (by kernel_rfl) (by kernel_rfl)) (by kernel_rfl) (by kernel_rfl)
end Go.Proofs.YtnbbnkmaoaogeaaDoor
