/- PROVED: ExpressionColumns returns true at every expression of bulk at most 1048576 and every integer, and its arguments read afterwards as before. No other condition. -/
import Derived.Test.YtnbbnkmaoaogeaaExReadC
import Derived.WalkKit
import Derived.ProofKit
import Derived.OpenShut
import Derived.JoinedCond
set_option linter.all false
namespace Go.Proofs.Ytnbbnkmaoaogeaa
open Go Go.ChangeShapes Go.WideShapes Go.ChangeAt Go.RowKit Go.Ab Go.Proofs.Try
set_option maxRecDepth 100000

theorem expressionColumns_lifted (os : Os) (started : os.Started) (H : Type) (enc : TypeId × Value → H) (F : Stop.Interp) :
    ReturnsInHanded {} Try.checked os 6 .any ((Rows.OpenSpec.upto Rows.expressionColumnsSpec).pre6 enc Try.prog Try.f6 Rows.expressionColumnsUptoRow.domain false) (((Rows.OpenSpec.upto Rows.expressionColumnsSpec).at F).post enc Try.prog Try.f6 false true false false) := by
  refine returnsInHanded_of_cond (C := Try.checked) (s := Rows.OpenSpec.upto Rows.expressionColumnsSpec) (k := Rows.uptoSmall) rfl own started (by kernel_rfl) Try.func6
    (OpenSpec.witness (enc := enc) (C := Try.checked) (s := Rows.OpenSpec.upto Rows.expressionColumnsSpec) (k := Rows.uptoSmall) rfl false ⟨#[], #[.agg #[.int .i64 0, .int .i64 0, .int .i64 0, .string ⟨#[]⟩, .int .i64 0, .slice none 0 0], .int .i64 0], []⟩ 8 (by kernel_rfl) (by kernel_rfl) (by kernel_rfl)
      (x := ([.agg [.lit (.int .i64 0), .lit (.int .i64 0), .lit (.int .i64 0), .lit (.string []), .lit (.int .i64 0), .nil], .lit (.int .i64 0)], [], [])) (by kernel_rfl) rfl (by kernel_rfl)) ?_
  intro W base args ds gs before hval0 hW _ hk _
  have hval : ∀ (j : Nat) t v, Try.f6.params[j]? = some t → args[j]? = some v → Value.okWide Try.prog W .any base t v := hval0
  have hW' := hW
  obtain ⟨p, q, hA0, hV, rfl, hfz, hnd⟩ := hW
  have hA : DataW.TrodAll enc Try.prog W 0 (fun _ => true) true Try.f6.params.toList args.toList ds p := hA0
  rw [Try.params6] at hA hval
  obtain ⟨v0, v1, d0, d1, p0, p1, rfl, rfl, rfl, h0, h1⟩ := trodAll_two hA
  obtain ⟨x, ⟨fx, gx, nx⟩, rx⟩ := ex_open (hval 0 _ v0 rfl rfl) h0
  obtain ⟨i, rfl, _, _, _⟩ := open_int Try.underlying3 (hval 1 _ v1 rfl rfl) h1
  have hb : Rows.uptoBulkAll ([d0, d1] ++ gs) ≤ 1048576 := of_decide_eq_true hk
  have hb0 : Rows.uptoBulk d0 ≤ 1048576 := by
    simp only [List.cons_append, Rows.uptoBulkAll] at hb
    omega
  refine (cf_call (expression_columns x i fx gx (by omega)) (μ := memOf W) (fun _ _ _ e => e) (fun _ _ e => by cases e) (fun _ _ e => by cases e) (vs := [v0, .int .i64 i]) ⟨_, _, rfl, rx, _, _, rfl, by simp only [RepA, RepD], rfl⟩).mono fun e W' ⟨v, h', he, rv, hb⟩ => ?_
  subst he
  simp only [RepA, RepD] at rv
  subst rv
  exact ⟨_, rfl, law_post hW' laidOut (by kernel_rfl) hb rfl (by kernel_rfl) Try.underlying4 rfl rfl rfl⟩

theorem expressionColumns_holds : Rows.ExpressionColumnsUptoSaid :=
  OpenClaim.holds_of_cond 6 Try.f6 rfl rfl rfl rfl rfl rfl rfl ⟨rfl, rfl, rfl, rfl, rfl⟩ rfl rfl rfl rfl rfl (by kernel_rfl) Try.func6 (by kernel_rfl)
    (of_decide_eq_true (by kernel_rfl)) (by unfold Func.isWrapper; first | (rw [if_pos (by decide +kernel)]; kernel_rfl) | (rw [if_neg (by decide +kernel)]; exact ⟨rfl, rfl⟩))
    (fun os started H enc _ F => expressionColumns_lifted os started H enc F)
#print axioms expressionColumns_holds
end Go.Proofs.Ytnbbnkmaoaogeaa
