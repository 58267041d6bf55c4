/- What the rows over the table of operations share. -/
import Derived.Test.YtnbbnkmaoaogeaaDoorDRow
import Derived.Test.YtnbbnkmaoaogeaaDoorEvl
import Derived.Test.YtnbbnkmaoaogeaaDoorMad
import Derived.Deep.Slices
set_option linter.all false
namespace Go.Proofs.YtnbbnkmaoaogeaaDoor
open Go.ChangeShapes Go.WideShapes Go.ChangeAt Go.RowKit Go.Ab Go.Proofs.Tryd
set_option maxRecDepth 100000

theorem gOps : Tryd.prog.globalNamed "querylab/expression.operations" = some 1 := by kernel_rfl
theorem tOps : (Tryd.prog.globals[1]?).map (·.type) = some 102 := by kernel_rfl
def laid2 : List (String × DataW Unit) := [("querylab/value.null", Rows.laid_querylab_value_null), ("querylab/expression.operations", Rows.laid_querylab_expression_operations)]
theorem of_laid2 {W : World} (h : laidMetH Tryd.prog laid2 W) : ∀ g cs, Eo.G g = some cs → RepCells (memOf W) g 0 cs ∧ ∃ a ety z, W.heap[g]? = some (.cells a ety z) ∧ a.size = cs.length := by
  rw [MakeChecks.laidMetH_plain _ _ _ (by kernel_rfl)] at h
  obtain ⟨ps, ⟨g0, t0, cs0, f0, p0, q0, hg0, ht0, hv0, hd0, ⟨g1, t1, cs1, f1, p1, q1, hg1, ht1, hv1, hd1, _, _⟩, _⟩, _, _⟩ := h
  obtain rfl := Option.some.inj (gNull.symm.trans hg0)
  obtain rfl := Option.some.inj (tNull.symm.trans ht0)
  obtain rfl := Option.some.inj (gOps.symm.trans hg1)
  obtain rfl := Option.some.inj (tOps.symm.trans ht1)
  intro g cs hg
  rw [Eo_G] at hg
  split at hg
  · rename_i e
    subst e
    cases hg
    exact ⟨laid_rep (m := 3) gNull hv0 hd0 (by kernel_rfl), laid_size (m := 3) gNull hv0 hd0 (by kernel_rfl)⟩
  · split at hg
    · rename_i e
      subst e
      cases hg
      exact ⟨laid_rep (m := 4) gOps hv1 hd1 (by kernel_rfl), laid_size (m := 4) gOps hv1 hd1 (by kernel_rfl)⟩
    · cases hg
theorem door2 (os : Os) (args : Array Value) : laidMetH Tryd.prog laid2 ((World.doorLaid Tryd.prog 400 os).forCall (fun _ _ => 0) ⟨#[], args, []⟩).memory :=
  laidMetH_of_parts3 (fuel := 8) (laidMet_of_run' 8 (by kernel_rfl) (by kernel_rfl)) (by kernel_rfl) (by kernel_rfl)
/-- The cells of a value. -/
theorem v_read {H : Type} {enc : TypeId × Value → H} {W : World} {base n : Nat} {spare : Nat → Bool} {held : Bool} {cs : List Value} {x : DataW H × List MemPlace}
    (h : DataW.trod enc Tryd.prog W base spare held n 23 cs = some x) (hc : cs.length = 3) (μ : Nat → Nat → Option Value) :
    ∃ u : V, ∀ (j : Nat) (c : D), u.c[j]? = some c → ∃ v, cs[j]? = some v ∧ RepD μ v c := by
  obtain ⟨c0, c1, c2, rfl⟩ : ∃ c0 c1 c2, cs = [c0, c1, c2] := by
    match cs, hc with
    | [c0, c1, c2], _ => exact ⟨c0, c1, c2, rfl⟩
  obtain ⟨ys, n', _, _, _, hyl, hf⟩ := DataW.trod_struct Tryd.underlying23 h
  have one : ∀ t, (Tryd.prog.cellsOf t == 1) = true → Tryd.prog.cellsOf t = 1 := fun t h => by simpa using h
  have h0 : DataW.trod enc Tryd.prog W base spare held n' 3 (([c0, c1, c2].drop 0).take (Tryd.prog.cellsOf 3)) = ys[0]? := hf 0 _ rfl
  have h1 : DataW.trod enc Tryd.prog W base spare held n' 2 (([c0, c1, c2].drop 1).take (Tryd.prog.cellsOf 2)) = ys[1]? := hf 1 _ rfl
  have h2 : DataW.trod enc Tryd.prog W base spare held n' 9 (([c0, c1, c2].drop 2).take (Tryd.prog.cellsOf 9)) = ys[2]? := hf 2 _ rfl
  simp only [one 3 (by kernel_rfl), one 2 (by kernel_rfl), one 9 (by kernel_rfl), List.drop_zero, List.drop_succ_cons, List.take_succ_cons, List.take_zero] at h0 h1 h2
  have y0 : ys[0]? = some (ys[0]'(by rw [hyl]; decide)) := List.getElem?_eq_getElem _
  have y1 : ys[1]? = some (ys[1]'(by rw [hyl]; decide)) := List.getElem?_eq_getElem _
  have y2 : ys[2]? = some (ys[2]'(by rw [hyl]; decide)) := List.getElem?_eq_getElem _
  obtain ⟨k, e0, _, _⟩ := DataW.trod_int (k := .i64) (by kernel_rfl) (h0.trans y0)
  obtain ⟨m, e1, _, _⟩ := DataW.trod_int (k := .i64) (by kernel_rfl) (h1.trans y1)
  obtain ⟨s, e2, _, _⟩ := DataW.trod_string (by kernel_rfl) (h2.trans y2)
  simp only [List.cons.injEq, and_true] at e0 e1 e2
  subst e0 e1 e2
  refine ⟨⟨k, m, s.data.toList⟩, fun j c hc => ?_⟩
  match j, hc with
  | 0, hc => cases hc; exact ⟨_, rfl, rfl⟩
  | 1, hc => cases hc; exact ⟨_, rfl, rfl⟩
  | 2, hc => cases hc; exact ⟨_, rfl, by simp [RepD]⟩

/-- What reads as a row is one. -/
theorem vs_open {H : Type} {enc : TypeId × Value → H} {W : World} {base : Nat} {spare : Nat → Bool} {held : Bool} {r : Reach} {b0 : Nat} {v : Value} {d : DataW H} {p : List MemPlace}
    (hv : Value.okWide Tryd.prog W r b0 44 v) (h : DataW.Trod enc Tryd.prog W base spare held 44 v d p) :
    ∃ l : List V, RepD (memOf W) v (.sl (l.map V.c)) := by
  obtain ⟨a, len, cap, rfl⟩ := okWide_slice (e := 23) (by kernel_rfl) hv
  obtain ⟨fuel, h⟩ := h
  rcases Go.Deep.open_slice (e := 23) (by kernel_rfl) h with ⟨hc, _⟩ | ⟨a', len', cap', m, n, D, Pl, hc, _, hl, _, hm, _, hi⟩
  · simp only [Value.cells, List.cons.injEq, and_true] at hc
    simp at hc
    obtain ⟨rfl, rfl, rfl⟩ := hc
    exact ⟨[], by simp only [RepD]; exact ⟨none, 0, rfl, Nat.le_refl _, .inl rfl⟩⟩
  · simp [Value.cells] at hc
    obtain ⟨rfl, rfl, rfl⟩ := hc
    have hsz : Tryd.prog.cellsOf 23 = 3 := by
      have : (Tryd.prog.cellsOf 23 == 3) = true := by kernel_rfl
      simpa using this
    obtain ⟨l, _, hr⟩ := sl_rep (w := W) (a := a') (len := len) (cap := cap) (sz := 3) V.c hl (fun _ => rfl) (by decide) fun i hlt => by
      obtain ⟨cs, hc, ht⟩ := hi i (by rw [hm]; split <;> omega)
      rw [hsz] at hc
      obtain ⟨_, hcl, hat⟩ := World.cells?_some hc
      obtain ⟨u, hu⟩ := v_read ht hcl (memOf W)
      refine ⟨u, fun j c hj => ?_⟩
      obtain ⟨v, hv, hr⟩ := hu j c hj
      refine ⟨v, ?_, hr⟩
      have hj3 : j < 3 := (List.getElem?_eq_some_iff.1 hj).1
      rw [← Go.Deep.add_add, hat j hj3, hv]
    exact ⟨l, hr⟩
/-- What reads as a list of numbers is one. -/
theorem is_open {H : Type} {enc : TypeId × Value → H} {W : World} {base : Nat} {spare : Nat → Bool} {held : Bool} {r : Reach} {b0 : Nat} {v : Value} {d : DataW H} {p : List MemPlace}
    (hv : Value.okWide Tryd.prog W r b0 35 v) (h : DataW.Trod enc Tryd.prog W base spare held 35 v d p) :
    ∃ l : List Int, RepD (memOf W) v (.sl (ints l)) := by
  obtain ⟨a, len, cap, rfl⟩ := okWide_slice (e := 3) (by kernel_rfl) hv
  obtain ⟨fuel, h⟩ := h
  rcases Go.Deep.open_slice (e := 3) (by kernel_rfl) h with ⟨hc, _⟩ | ⟨a', len', cap', m, n, D, Pl, hc, _, hl, _, hm, _, hi⟩
  · simp only [Value.cells, List.cons.injEq, and_true] at hc
    simp at hc
    obtain ⟨rfl, rfl, rfl⟩ := hc
    exact ⟨[], by simp only [RepD]; exact ⟨none, 0, rfl, Nat.le_refl _, .inl rfl⟩⟩
  · simp [Value.cells] at hc
    obtain ⟨rfl, rfl, rfl⟩ := hc
    have hsz : Tryd.prog.cellsOf 3 = 1 := by
      have : (Tryd.prog.cellsOf 3 == 1) = true := by kernel_rfl
      simpa using this
    obtain ⟨l, _, hr⟩ := sl_rep (w := W) (a := a') (len := len) (cap := cap) (sz := 1) (fun n : Int => [Go.Ab.D.int .i64 n]) hl (fun _ => rfl) (by decide) fun i hlt => by
      obtain ⟨cs, hc, ht⟩ := hi i (by rw [hm]; split <;> omega)
      rw [hsz] at hc
      obtain ⟨_, hcl, hat⟩ := World.cells?_some hc
      obtain ⟨k, e0, _, _⟩ := DataW.trod_int (k := .i64) (by kernel_rfl) ht
      subst e0
      refine ⟨k, fun j c hj => ?_⟩
      have hj0 : j = 0 := by
        have := (List.getElem?_eq_some_iff.1 hj).1
        simpa using this
      subst hj0
      cases hj
      refine ⟨.int .i64 k, ?_, by simp only [RepD]⟩
      rw [← Go.Deep.add_add, hat 0 (by decide)]; rfl
    exact ⟨l, hr⟩
end Go.Proofs.YtnbbnkmaoaogeaaDoor
