/- PROVED: ValueCompares returns true at every three values, and its arguments read afterwards as before. No conditions. -/
import Derived.Test.YtnbbnkmaoaogeaaCmps
import Derived.Test.YtnbbnkmaoaogeaaAbRow
import Derived.Lib.SmallJoins
import Derived.Test.YtnbbnkmaoaogeaaRows
import Derived.Test.YtnbbnkmaoaogeaaChecked
set_option linter.all false
namespace Go.Proofs.Ytnbbnkmaoaogeaa
open Go.ChangeShapes Go.WideShapes Go.ChangeAt Go.RowKit Go.Ab Go.Proofs.Try

theorem own : ownKnob Try.prog.godebug = none := by kernel_rfl
theorem laidOut : laidOutB Try.prog = true := by kernel_rfl

/-- What reads as a value is one. -/
theorem v_open {H : Type} {enc : TypeId × Value → H} {W : World} {base : Nat} {r : Reach} {b0 : Nat} {spare : Nat → Bool} {held : Bool} {v : Value} {d : DataW H} {p : List MemPlace}
    (hv : Value.okWide Try.prog W r b0 26 v) (h : DataW.Trod enc Try.prog W base spare held 26 v d p) (μ : Nat → Nat → Option Value) :
    ∃ u : V, RepA ⟨μ, fun _ => none⟩ v u.a := by
  obtain ⟨v0, v1, v2, y0, y1, y2, n, rfl, _, _, h0, h1, h2⟩ := Go.Joins.open_agg3 Try.underlying26 (by kernel_rfl) (by kernel_rfl) hv h
  obtain ⟨k, e0, _, _⟩ := DataW.trod_int (k := .i64) (by kernel_rfl) h0
  obtain ⟨m, e1, _, _⟩ := DataW.trod_int (k := .i64) (by kernel_rfl) h1
  obtain ⟨s, e2, _, _⟩ := DataW.trod_string (by kernel_rfl) h2
  simp only [List.cons.injEq, and_true] at e0 e1 e2
  subst e0 e1 e2
  exact ⟨⟨k, m, s.data.toList⟩, by simp [V.a, RepA, RepAs, RepD]⟩

set_option maxRecDepth 100000 in
theorem valueCompares_lifted (os : Os) (started : os.Started) (H : Type) (enc : TypeId × Value → H) :
    ReturnsInHanded {} Try.checked os 5 .any (Rows.valueComparesSpec.pre6 enc Try.prog Try.f5 Rows.valueComparesRow.domain false) (Rows.valueComparesSpec.post enc Try.prog Try.f5 false true false false) := by
  refine returnsInHanded_of_change (C := Try.checked) own started (by kernel_rfl) Try.func5
    (ChangeSpec.witness6 (enc := enc) (C := Try.checked) false ⟨#[], #[.agg #[.int .i64 0, .int .i64 0, .string ⟨#[]⟩], .agg #[.int .i64 0, .int .i64 0, .string ⟨#[]⟩], .agg #[.int .i64 0, .int .i64 0, .string ⟨#[]⟩]], []⟩ 8 (by kernel_rfl) (by kernel_rfl) (by kernel_rfl) (by kernel_rfl)) ?_
  intro W base args ds gs before hval0 hW _ _
  have hval : ∀ (j : Nat) t v, Try.f5.params[j]? = some t → args[j]? = some v → Value.okWide Try.prog W .any base t v := hval0
  have hW' := hW
  obtain ⟨p, q, hA0, hV, rfl, hfz, hnd⟩ := hW
  have hA : DataW.TrodAll enc Try.prog W 0 (fun _ => true) true Try.f5.params.toList args.toList ds p := hA0
  rw [Try.params5] at hA hval
  obtain ⟨v0, v1, v2, d0, d1, d2, p0, p1, p2, rfl, rfl, rfl, h0, h1, h2⟩ := trodAll_three hA
  obtain ⟨a, ra⟩ := v_open (hval 0 _ v0 rfl rfl) h0 (fun _ _ => none)
  obtain ⟨b, rb⟩ := v_open (hval 1 _ v1 rfl rfl) h1 (fun _ _ => none)
  obtain ⟨c, rc⟩ := v_open (hval 2 _ v2 rfl rfl) h2 (fun _ _ => none)
  refine (cf_call (value_compares a b c) (μ := fun _ _ => none) (fun _ _ _ e => by cases e) (fun _ _ e => by cases e) (vs := [v0, v1, v2]) ⟨_, _, rfl, ra, _, _, rfl, rb, _, _, rfl, rc, rfl⟩).mono fun e W' ⟨v, h', he, rv, hb⟩ => ?_
  subst he
  simp only [RepA, RepD] at rv
  subst rv
  exact ⟨_, rfl, law_post hW' laidOut (by kernel_rfl) hb rfl (by kernel_rfl) Try.underlying4 rfl rfl rfl⟩

theorem valueCompares_holds : Rows.ValueComparesSaid :=
  OpenClaim.holds_of_wide 5 Try.f5 rfl rfl rfl rfl rfl rfl rfl ⟨rfl, rfl, rfl, rfl, rfl⟩ rfl rfl rfl rfl rfl (by kernel_rfl) Try.func5 (by kernel_rfl)
    (of_decide_eq_true (by kernel_rfl)) (by unfold Func.isWrapper; first | (rw [if_pos (by decide +kernel)]; kernel_rfl) | (rw [if_neg (by decide +kernel)]; exact ⟨rfl, rfl⟩))
    (fun os started H enc _ => valueCompares_lifted os started H enc)
#print axioms valueCompares_holds
end Go.Proofs.Ytnbbnkmaoaogeaa
