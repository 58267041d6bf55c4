/- PROVED: ValueRows returns true at every two rows of values, and its arguments read afterwards as before. No conditions. -/
import Derived.Test.YtnbbnkmaoaogeaaRws
import Derived.Test.YtnbbnkmaoaogeaaCmpsRow
set_option linter.all false
namespace Go.Proofs.Ytnbbnkmaoaogeaa
open Go.ChangeShapes Go.WideShapes Go.ChangeAt Go.RowKit Go.Ab Go.Proofs.Try

/-- The cells of a value. -/
theorem v_read {H : Type} {enc : TypeId × Value → H} {W : World} {base n : Nat} {spare : Nat → Bool} {held : Bool} {cs : List Value} {x : DataW H × List MemPlace}
    (h : DataW.trod enc Try.prog W base spare held n 26 cs = some x) (hc : cs.length = 3) (μ : Nat → Nat → Option Value) :
    ∃ u : V, ∀ (j : Nat) (c : D), u.c[j]? = some c → ∃ v, cs[j]? = some v ∧ RepD μ v c := by
  obtain ⟨c0, c1, c2, rfl⟩ : ∃ c0 c1 c2, cs = [c0, c1, c2] := by
    match cs, hc with
    | [c0, c1, c2], _ => exact ⟨c0, c1, c2, rfl⟩
  obtain ⟨ys, n', _, _, _, hyl, hf⟩ := DataW.trod_struct Try.underlying26 h
  have one : ∀ t, (Try.prog.cellsOf t == 1) = true → Try.prog.cellsOf t = 1 := fun t h => by simpa using h
  have h0 : DataW.trod enc Try.prog W base spare held n' 3 (([c0, c1, c2].drop 0).take (Try.prog.cellsOf 3)) = ys[0]? := hf 0 _ rfl
  have h1 : DataW.trod enc Try.prog W base spare held n' 2 (([c0, c1, c2].drop 1).take (Try.prog.cellsOf 2)) = ys[1]? := hf 1 _ rfl
  have h2 : DataW.trod enc Try.prog W base spare held n' 9 (([c0, c1, c2].drop 2).take (Try.prog.cellsOf 9)) = ys[2]? := hf 2 _ rfl
  simp only [one 3 (by kernel_rfl), one 2 (by kernel_rfl), one 9 (by kernel_rfl), List.drop_zero, List.drop_succ_cons, List.take_succ_cons, List.take_zero] at h0 h1 h2
  have y0 : ys[0]? = some (ys[0]'(by rw [hyl]; decide)) := List.getElem?_eq_getElem _
  have y1 : ys[1]? = some (ys[1]'(by rw [hyl]; decide)) := List.getElem?_eq_getElem _
  have y2 : ys[2]? = some (ys[2]'(by rw [hyl]; decide)) := List.getElem?_eq_getElem _
  obtain ⟨k, e0, _, _⟩ := DataW.trod_int (k := .i64) (by kernel_rfl) (h0.trans y0)
  obtain ⟨m, e1, _, _⟩ := DataW.trod_int (k := .i64) (by kernel_rfl) (h1.trans y1)
  obtain ⟨s, e2, _, _⟩ := DataW.trod_string (by kernel_rfl) (h2.trans y2)
  simp only [List.cons.injEq, and_true] at e0 e1 e2
  subst e0 e1 e2
  refine ⟨⟨k, m, s.data.toList⟩, fun j c hc => ?_⟩
  match j, hc with
  | 0, hc => cases hc; exact ⟨_, rfl, rfl⟩
  | 1, hc => cases hc; exact ⟨_, rfl, rfl⟩
  | 2, hc => cases hc; exact ⟨_, rfl, by simp [RepD]⟩

/-- What reads as a row is one. -/
theorem vs_open {H : Type} {enc : TypeId × Value → H} {W : World} {base : Nat} {spare : Nat → Bool} {held : Bool} {r : Reach} {b0 : Nat} {v : Value} {d : DataW H} {p : List MemPlace}
    (hv : Value.okWide Try.prog W r b0 32 v) (h : DataW.Trod enc Try.prog W base spare held 32 v d p) :
    ∃ l : List V, RepD (memOf W) v (.sl (l.map V.c)) := by
  obtain ⟨a, len, cap, rfl⟩ := okWide_slice (e := 26) (by kernel_rfl) hv
  obtain ⟨fuel, h⟩ := h
  rcases Go.Deep.open_slice (e := 26) (by kernel_rfl) h with ⟨hc, _⟩ | ⟨a', len', cap', m, n, D, Pl, hc, _, hl, _, hm, _, hi⟩
  · simp only [Value.cells, List.cons.injEq, and_true] at hc
    simp at hc
    obtain ⟨rfl, rfl, rfl⟩ := hc
    exact ⟨[], by simp only [RepD]; exact ⟨none, 0, rfl, Nat.le_refl _, .inl rfl⟩⟩
  · simp [Value.cells] at hc
    obtain ⟨rfl, rfl, rfl⟩ := hc
    have hsz : Try.prog.cellsOf 26 = 3 := by have : (Try.prog.cellsOf 26 == 3) = true := by kernel_rfl
                                             simpa using this
    obtain ⟨l, _, hr⟩ := sl_rep (w := W) (a := a') (len := len) (cap := cap) (sz := 3) V.c hl (fun _ => rfl) (by decide) fun i hlt => by
      obtain ⟨cs, hc, ht⟩ := hi i (by rw [hm]; split <;> omega)
      rw [hsz] at hc
      obtain ⟨_, hcl, hat⟩ := World.cells?_some hc
      obtain ⟨u, hu⟩ := v_read ht hcl (memOf W)
      refine ⟨u, fun j c hj => ?_⟩
      obtain ⟨v, hv, hr⟩ := hu j c hj
      refine ⟨v, ?_, hr⟩
      have hj3 : j < 3 := (List.getElem?_eq_some_iff.1 hj).1
      rw [← Go.Deep.add_add, hat j hj3, hv]
    exact ⟨l, hr⟩

set_option maxRecDepth 100000 in
theorem valueRows_lifted (os : Os) (started : os.Started) (H : Type) (enc : TypeId × Value → H) :
    ReturnsInHanded {} Try.checked os 4 .any (Rows.valueRowsSpec.pre6 enc Try.prog Try.f4 Rows.valueRowsRow.domain false) (Rows.valueRowsSpec.post enc Try.prog Try.f4 false true false false) := by
  refine returnsInHanded_of_change (C := Try.checked) own started (by kernel_rfl) Try.func4
    (ChangeSpec.witness6 (enc := enc) (C := Try.checked) false ⟨#[], #[.slice none 0 0, .slice none 0 0], []⟩ 8 (by kernel_rfl) (by kernel_rfl) (by kernel_rfl) (by kernel_rfl)) ?_
  intro W base args ds gs before hval0 hW _ _
  have hval : ∀ (j : Nat) t v, Try.f4.params[j]? = some t → args[j]? = some v → Value.okWide Try.prog W .any base t v := hval0
  have hW' := hW
  obtain ⟨p, q, hA0, hV, rfl, hfz, hnd⟩ := hW
  have hA : DataW.TrodAll enc Try.prog W 0 (fun _ => true) true Try.f4.params.toList args.toList ds p := hA0
  rw [Try.params4] at hA hval
  obtain ⟨v0, v1, d0, d1, p0, p1, rfl, rfl, rfl, h0, h1⟩ := trodAll_two hA
  obtain ⟨a, ra⟩ := vs_open (hval 0 _ v0 rfl rfl) h0
  obtain ⟨b, rb⟩ := vs_open (hval 1 _ v1 rfl rfl) h1
  refine (cf_call (value_rows a b) (μ := memOf W) (fun _ _ _ e => e) (fun _ _ e => by cases e) (vs := [v0, v1]) ⟨_, _, rfl, ra, _, _, rfl, rb, rfl⟩).mono fun e W' ⟨v, h', he, rv, hb⟩ => ?_
  subst he
  simp only [RepA, RepD] at rv
  subst rv
  exact ⟨_, rfl, law_post hW' laidOut (by kernel_rfl) hb rfl (by kernel_rfl) Try.underlying4 rfl rfl rfl⟩

theorem valueRows_holds : Rows.ValueRowsSaid :=
  OpenClaim.holds_of_wide 4 Try.f4 rfl rfl rfl rfl rfl rfl rfl ⟨rfl, rfl, rfl, rfl, rfl⟩ rfl rfl rfl rfl rfl (by kernel_rfl) Try.func4 (by kernel_rfl)
    (of_decide_eq_true (by kernel_rfl)) (by unfold Func.isWrapper; first | (rw [if_pos (by decide +kernel)]; kernel_rfl) | (rw [if_neg (by decide +kernel)]; exact ⟨rfl, rfl⟩))
    (fun os started H enc _ => valueRows_lifted os started H enc)
#print axioms valueRows_holds
end Go.Proofs.Ytnbbnkmaoaogeaa
