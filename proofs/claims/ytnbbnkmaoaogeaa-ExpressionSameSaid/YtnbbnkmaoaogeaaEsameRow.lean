/- PROVED: ExpressionSame returns true at every two expressions, value and integer, and its arguments read afterwards as before. No conditions. -/
import Derived.Test.YtnbbnkmaoaogeaaExRead
set_option linter.all false
namespace Go.Proofs.Ytnbbnkmaoaogeaa
open Go.ChangeShapes Go.WideShapes Go.ChangeAt Go.RowKit Go.Ab Go.Proofs.Try

theorem ex_open {H : Type} {enc : TypeId × Value → H} {W : World} {base : Nat} {r : Reach} {b0 : Nat} {spare : Nat → Bool} {held : Bool} {v : Value} {d : DataW H} {p : List MemPlace}
    (hv : Value.okWide Try.prog W r b0 24 v) (h : DataW.Trod enc Try.prog W base spare held 24 v d p) :
    ∃ e : Ex, e.fits ∧ e.rng ∧ RepA ⟨memOf W, fun _ => none⟩ v e.a := by
  obtain ⟨cs, rfl, hsz⟩ := okWide_struct Try.underlying24 hv
  have hs : Try.prog.cellsOf 24 = 6 := by
    have : (Try.prog.cellsOf 24 == 6) = true := by kernel_rfl
    simpa using this
  obtain ⟨n, h⟩ := h
  have hl : cs.toList.length = 6 := by simpa [hs] using hsz
  obtain ⟨e, he, hu⟩ := ex_read n cs.toList _ h hl
  refine ⟨e, he.1, he.2, ?_⟩
  simp only [Ex.a, RepA]
  refine ⟨cs.toList, rfl, RepAs_map_d (by rw [hl, Ex.clen]) fun j c hj => hu j c hj⟩

set_option maxRecDepth 100000 in
theorem expressionSame_lifted (os : Os) (started : os.Started) (H : Type) (enc : TypeId × Value → H) :
    ReturnsInHanded {} Try.checked os 3 .any (Rows.expressionSameSpec.pre6 enc Try.prog Try.f3 Rows.expressionSameRow.domain false) (Rows.expressionSameSpec.post enc Try.prog Try.f3 false true false false) := by
  refine returnsInHanded_of_change (C := Try.checked) own started (by kernel_rfl) Try.func3
    (ChangeSpec.witness6 (enc := enc) (C := Try.checked) false ⟨#[], #[.agg #[.int .i64 0, .int .i64 0, .int .i64 0, .string ⟨#[]⟩, .int .i64 0, .slice none 0 0], .agg #[.int .i64 0, .int .i64 0, .int .i64 0, .string ⟨#[]⟩, .int .i64 0, .slice none 0 0], .agg #[.int .i64 0, .int .i64 0, .string ⟨#[]⟩], .int .i64 0], []⟩ 8 (by kernel_rfl) (by kernel_rfl) (by kernel_rfl) (by kernel_rfl)) ?_
  intro W base args ds gs before hval0 hW _ _
  have hval : ∀ (j : Nat) t v, Try.f3.params[j]? = some t → args[j]? = some v → Value.okWide Try.prog W .any base t v := hval0
  have hW' := hW
  obtain ⟨p, q, hA0, hV, rfl, hfz, hnd⟩ := hW
  have hA : DataW.TrodAll enc Try.prog W 0 (fun _ => true) true Try.f3.params.toList args.toList ds p := hA0
  rw [Try.params3] at hA hval
  obtain ⟨v0, v1, v2, v3, d0, d1, d2, d3, p0, p1, p2, p3, rfl, rfl, rfl, h0, h1, h2, h3⟩ := trodAll_four hA
  obtain ⟨x, fx, rx, ra⟩ := ex_open (hval 0 _ v0 rfl rfl) h0
  obtain ⟨y, fy, _, rb⟩ := ex_open (hval 1 _ v1 rfl rfl) h1
  obtain ⟨u, rc⟩ := v_open (hval 2 _ v2 rfl rfl) h2 (memOf W)
  obtain ⟨i, rfl, _, _, _⟩ := open_int Try.underlying3 (hval 3 _ v3 rfl rfl) h3
  refine (cf_call (expression_same x y u i fx fy rx) (μ := memOf W) (fun _ _ _ e => e) (fun _ _ e => by cases e) (vs := [v0, v1, v2, .int .i64 i]) ⟨_, _, rfl, ra, _, _, rfl, rb, _, _, rfl, rc, _, _, rfl, rfl, rfl⟩).mono fun e W' ⟨v, h', he, rv, hb⟩ => ?_
  subst he
  simp only [RepA, RepD] at rv
  subst rv
  exact ⟨_, rfl, law_post hW' laidOut (by kernel_rfl) hb rfl (by kernel_rfl) Try.underlying4 rfl rfl rfl⟩

theorem expressionSame_holds : Rows.ExpressionSameSaid :=
  OpenClaim.holds_of_wide 3 Try.f3 rfl rfl rfl rfl rfl rfl rfl ⟨rfl, rfl, rfl, rfl, rfl⟩ rfl rfl rfl rfl rfl (by kernel_rfl) Try.func3 (by kernel_rfl)
    (of_decide_eq_true (by kernel_rfl)) (by unfold Func.isWrapper; first | (rw [if_pos (by decide +kernel)]; kernel_rfl) | (rw [if_neg (by decide +kernel)]; exact ⟨rfl, rfl⟩))
    (fun os started H enc _ => expressionSame_lifted os started H enc)
#print axioms expressionSame_holds
end Go.Proofs.Ytnbbnkmaoaogeaa
