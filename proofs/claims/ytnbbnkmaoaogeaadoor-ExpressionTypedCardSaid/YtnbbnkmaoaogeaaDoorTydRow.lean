/- PROVED: ExpressionTyped returns true at every input, and its arguments read afterwards as before; the listed package-level variables begin as the program's text lays them (the card ties that). No other condition. -/
import Derived.Test.YtnbbnkmaoaogeaaDoorTyd
import Derived.Test.YtnbbnkmaoaogeaaDoorDRow2
import Derived.SevenTiedAt
import Derived.Test.YtnbbnkmaoaogeaaDoorTie
import Derived.Test.YtnbbnkmaoaogeaaDoorCards
set_option linter.all false
namespace Go.Proofs.YtnbbnkmaoaogeaaDoor
open Go Go.ChangeShapes Go.WideShapes Go.ChangeAt Go.RowKit Go.Ab Go.Proofs.Tryd

set_option maxRecDepth 100000 in
theorem expressionTyped_lifted (os : Os) (started : os.Started) (H : Type) (enc : TypeId × Value → H) :
    ReturnsInHanded {} Tryd.checked os 10 .any (fun w args => (Rows.expressionTypedSpec.pre enc Tryd.prog Tryd.f10 [] false w args ∧ laidMetH Tryd.prog laid2 w) ∧ sizedMet enc Tryd.prog Tryd.f10 (OpenSpec.ofChange Rows.expressionTypedSpec) false w args)
      (Rows.expressionTypedSpec.post enc Tryd.prog Tryd.f10 false true false false) := by
  refine returnsInHanded_of_change_and (C := Tryd.checked) (X := fun w _ => laidMetH Tryd.prog laid2 w) (fun _ _ _ hh h => h.of_heap hh) own started (by kernel_rfl) Tryd.func10
    (ChangeSpec.witness_shaped (enc := enc) (C := Tryd.checked) (os := os) (X := fun w _ => laidMetH Tryd.prog laid2 w) false (World.doorLaid Tryd.prog 400 os) #[.slice none 0 0] 8 rfl (World.shaped_of_RefB (by kernel_rfl) (by kernel_rfl)) (by kernel_rfl) (by kernel_rfl) (by kernel_rfl) (door2 os _)) ?_
  intro W base args ds gs before hval0 hW _ _ hL _
  have hval : ∀ (j : Nat) t v, Tryd.f10.params[j]? = some t → args[j]? = some v → Value.okWide Tryd.prog W .any base t v := hval0
  have hW' := hW
  obtain ⟨p, q, hA0, hV, rfl, hfz, hnd⟩ := hW
  have hA : DataW.TrodAll enc Tryd.prog W 0 (fun _ => true) true Tryd.f10.params.toList args.toList ds p := hA0
  rw [Tryd.params10] at hA hval
  obtain ⟨v0, d0, rfl, rfl, h0⟩ := trodAll_one hA
  have hG := of_laid2 hL
  obtain ⟨x0, r0⟩ := is_open (hval 0 _ v0 rfl rfl) h0
  refine (cf_call (expression_typed x0) (μ := memOf W) (fun _ _ _ e => e) hG (vs := [v0]) ⟨_, _, rfl, by simp only [RepA]; exact r0, rfl⟩).mono fun e W' ⟨v, h', he, rv, hb⟩ => ?_
  subst he
  simp only [RepA, RepD] at rv
  subst rv
  exact ⟨_, rfl, law_post hW' laidOut (by kernel_rfl) hb rfl (by kernel_rfl) Tryd.underlying4 rfl rfl rfl⟩

theorem expressionTyped_row : Rows.ExpressionTypedSaid :=
  OpenClaim.holds_of_wide 10 Tryd.f10 rfl rfl rfl rfl rfl rfl rfl ⟨rfl, rfl, rfl, rfl, rfl⟩ rfl rfl rfl rfl rfl (by kernel_rfl) Tryd.func10 (by kernel_rfl)
    (of_decide_eq_true (by kernel_rfl)) (by unfold Func.isWrapper; first | (rw [if_pos (by decide +kernel)]; kernel_rfl) | (rw [if_neg (by decide +kernel)]; exact ⟨rfl, rfl⟩))
    (fun os started H enc _ => expressionTyped_lifted os started H enc)

set_option maxRecDepth 100000 in
theorem expressionTyped_holds : Rows.ExpressionTypedCardSaid :=
  Claim7.holds_tied_plain_at .later [] [.data, .data] true (true, "b1f1546bc3cd3afcbb30d388554af38aaed88227681d5583a674cc1f9216bc41") true
    expressionTyped_row (fun _ h => by cases h) (by kernel_rfl) (fun _ h => by cases h) expressionTyped_row_tie rfl ⟨rfl, rfl⟩ (by kernel_rfl) rfl
    (fun f fn hf hfn => by
      obtain rfl : f = 10 := Option.some.inj ((show Tryd.prog.funcNamed "querylab/querylablaw02.ExpressionTyped" = some 10 by kernel_rfl).symm.trans hf) |>.symm
      obtain rfl : fn = Tryd.f10 := (Option.some.inj (Tryd.func10.symm.trans hfn)).symm
      exact ⟨by kernel_rfl, fun j t ht => by
        have hm : t ∈ Tryd.f10.params.toList := by simpa using Array.mem_of_getElem? ht
        have hall : (Tryd.f10.params.toList.all fun u => !Tryd.prog.wantsStandIn u) = true := by kernel_rfl
        exact (show Tryd.prog.wantsStandIn t = false by simpa using List.all_eq_true.1 hall t hm)⟩)
    (by kernel_rfl)
#print axioms expressionTyped_holds
end Go.Proofs.YtnbbnkmaoaogeaaDoor
