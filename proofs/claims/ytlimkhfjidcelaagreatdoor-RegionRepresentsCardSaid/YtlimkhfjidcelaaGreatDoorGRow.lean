/- What the rows on regions share. -/
import Derived.Test.YtlimkhfjidcelaaGreatDoorInt0
import Derived.Test.YtlimkhfjidcelaaGreatDoorEvl
import Derived.Test.YtlimkhfjidcelaaGreatDoorAbB
import Derived.Lib.SmallJoins
import Derived.LaidMore
import Derived.Stop.Joined
import Derived.Deep.Slices
import Derived.ChangeMaps5
import Derived.Test.YtlimkhfjidcelaaGreatDoorRows
import Derived.Test.YtlimkhfjidcelaaGreatDoorChecked
set_option linter.all false
namespace Go.Proofs.YtlimkhfjidcelaaGreatDoor
open Go.ChangeShapes Go.WideShapes Go.ChangeAt Go.RowKit Go.Ab Go.Proofs.Tryz
set_option maxRecDepth 100000

theorem own : ownKnob Tryz.prog.godebug = none := by kernel_rfl
theorem laidOut : laidOutB Tryz.prog = true := by kernel_rfl
theorem gNull : Tryz.prog.globalNamed "querylab/value.null" = some 0 := by kernel_rfl
theorem tNull : (Tryz.prog.globals[0]?).map (·.type) = some 54 := by kernel_rfl
theorem gOps : Tryz.prog.globalNamed "querylab/expression.operations" = some 1 := by kernel_rfl
theorem tOps : (Tryz.prog.globals[1]?).map (·.type) = some 192 := by kernel_rfl
def laid5 : List (String × DataW Unit) := [("math/bits.deBruijn32tab", Rows.laid_math_bits_deBruijn32tab), ("math/bits.deBruijn64tab", Rows.laid_math_bits_deBruijn64tab), ("internal/strconv.uint64pow10", Rows.laid_internal_strconv_uint64pow10), ("querylab/value.null", Rows.laid_querylab_value_null), ("querylab/expression.operations", Rows.laid_querylab_expression_operations)]
theorem of_laid5 {W : World} (h : laidMetH Tryz.prog laid5 W) : ∀ g cs, Eo.G g = some cs → RepCells (memOf W) g 0 cs ∧ ∃ a ety z, W.heap[g]? = some (.cells a ety z) ∧ a.size = cs.length := by
  rw [MakeChecks.laidMetH_plain _ _ _ (by kernel_rfl)] at h
  obtain ⟨ps, ⟨_, _, _, _, _, _, _, _, _, _, ⟨_, _, _, _, _, _, _, _, _, _, ⟨_, _, _, _, _, _, _, _, _, _, ⟨g0, t0, cs0, f0, p0, q0, hg0, ht0, hv0, hd0, ⟨g1, t1, cs1, f1, p1, q1, hg1, ht1, hv1, hd1, _, _⟩, _⟩, _⟩, _⟩, _⟩, _, _⟩ := h
  obtain rfl := Option.some.inj (gNull.symm.trans hg0)
  obtain rfl := Option.some.inj (tNull.symm.trans ht0)
  obtain rfl := Option.some.inj (gOps.symm.trans hg1)
  obtain rfl := Option.some.inj (tOps.symm.trans ht1)
  intro g cs hg
  rw [Eo_G] at hg
  split at hg
  · rename_i e
    subst e
    cases hg
    exact ⟨laid_rep (m := 3) gNull hv0 hd0 (by kernel_rfl), laid_size (m := 3) gNull hv0 hd0 (by kernel_rfl)⟩
  · split at hg
    · rename_i e
      subst e
      cases hg
      exact ⟨laid_rep (m := 4) gOps hv1 hd1 (by kernel_rfl), laid_size (m := 4) gOps hv1 hd1 (by kernel_rfl)⟩
    · cases hg
theorem door5 (os : Os) (args : Array Value) : laidMetH Tryz.prog laid5 ((World.doorLaid Tryz.prog 400 os).forCall (fun _ _ => 0) ⟨#[], args, []⟩).memory :=
  laidMetH_of_parts3 (fuel := 8) (laidMet_of_run' 8 (by kernel_rfl) (by kernel_rfl)) (by kernel_rfl) (by kernel_rfl)
theorem v_open {H : Type} {enc : TypeId × Value → H} {W : World} {base : Nat} {r : Reach} {b0 : Nat} {spare : Nat → Bool} {held : Bool} {v : Value} {d : DataW H} {p : List MemPlace}
    (hv : Value.okWide Tryz.prog W r b0 54 v) (h : DataW.Trod enc Tryz.prog W base spare held 54 v d p) (μ : Nat → Nat → Option Value) :
    ∃ u : V, RepA ⟨μ, fun _ => none⟩ v u.a ∧ (Lit.int .i64 u.k).wf = true ∧ (Lit.int .i64 u.n).wf = true := by
  obtain ⟨v0, v1, v2, y0, y1, y2, n, rfl, _, _, h0, h1, h2⟩ := Go.Joins.open_agg3 Tryz.underlying54 (by kernel_rfl) (by kernel_rfl) hv h
  obtain ⟨k, e0, _, w0⟩ := DataW.trod_int (k := .i64) (by kernel_rfl) h0
  obtain ⟨m, e1, _, w1⟩ := DataW.trod_int (k := .i64) (by kernel_rfl) h1
  obtain ⟨s, e2, _, _⟩ := DataW.trod_string (by kernel_rfl) h2
  simp only [List.cons.injEq, and_true] at e0 e1 e2
  subst e0 e1 e2
  exact ⟨⟨k, m, s.data.toList⟩, by simp [V.a, RepA, RepAs, RepD], w0, w1⟩
/-- What reads as a list of numbers is one. -/
theorem is_open {H : Type} {enc : TypeId × Value → H} {W : World} {base : Nat} {spare : Nat → Bool} {held : Bool} {r : Reach} {b0 : Nat} {v : Value} {d : DataW H} {p : List MemPlace}
    (hv : Value.okWide Tryz.prog W r b0 22 v) (h : DataW.Trod enc Tryz.prog W base spare held 22 v d p) :
    ∃ l : List Int, RepD (memOf W) v (.sl (ints l)) := by
  obtain ⟨a, len, cap, rfl⟩ := okWide_slice (e := 3) (by kernel_rfl) hv
  obtain ⟨fuel, h⟩ := h
  rcases Go.Deep.open_slice (e := 3) (by kernel_rfl) h with ⟨hc, _⟩ | ⟨a', len', cap', m, n, D, Pl, hc, _, hl, _, hm, _, hi⟩
  · simp only [Value.cells, List.cons.injEq, and_true] at hc
    simp at hc
    obtain ⟨rfl, rfl, rfl⟩ := hc
    exact ⟨[], by simp only [RepD]; exact ⟨none, 0, rfl, Nat.le_refl _, .inl rfl⟩⟩
  · simp [Value.cells] at hc
    obtain ⟨rfl, rfl, rfl⟩ := hc
    have hsz : Tryz.prog.cellsOf 3 = 1 := by
      have : (Tryz.prog.cellsOf 3 == 1) = true := by kernel_rfl
      simpa using this
    obtain ⟨l, _, hr⟩ := sl_rep (w := W) (a := a') (len := len) (cap := cap) (sz := 1) (fun n : Int => [Go.Ab.D.int .i64 n]) hl (fun _ => rfl) (by decide) fun i hlt => by
      obtain ⟨cs, hc, ht⟩ := hi i (by rw [hm]; split <;> omega)
      rw [hsz] at hc
      obtain ⟨_, hcl, hat⟩ := World.cells?_some hc
      obtain ⟨k, e0, _, _⟩ := DataW.trod_int (k := .i64) (by kernel_rfl) ht
      subst e0
      refine ⟨k, fun j c hj => ?_⟩
      have hj0 : j = 0 := by
        have := (List.getElem?_eq_some_iff.1 hj).1
        simpa using this
      subst hj0
      cases hj
      refine ⟨.int .i64 k, ?_, by simp only [RepD]⟩
      rw [← Go.Deep.add_add, hat 0 (by decide)]; rfl
    exact ⟨l, hr⟩
end Go.Proofs.YtlimkhfjidcelaaGreatDoor
