/- PROVED: ValueArith returns true at every input, and its arguments read afterwards as before; the listed package-level variables begin as the program's text lays them (the card ties that). No other condition. -/
import Derived.Test.YtnbbnkmaoaogeaaDoorArt
import Derived.Test.YtnbbnkmaoaogeaaDoorDRow
import Derived.SevenTiedAt
import Derived.Test.YtnbbnkmaoaogeaaDoorTie
import Derived.Test.YtnbbnkmaoaogeaaDoorCards
set_option linter.all false
namespace Go.Proofs.YtnbbnkmaoaogeaaDoor
open Go Go.ChangeShapes Go.WideShapes Go.ChangeAt Go.RowKit Go.Ab Go.Proofs.Tryd

set_option maxRecDepth 100000 in
theorem valueArith_lifted (os : Os) (started : os.Started) (H : Type) (enc : TypeId × Value → H) :
    ReturnsInHanded {} Tryd.checked os 5 .any (fun w args => (Rows.valueArithSpec.pre enc Tryd.prog Tryd.f5 [] false w args ∧ laidMetH Tryd.prog laid1 w) ∧ sizedMet enc Tryd.prog Tryd.f5 (OpenSpec.ofChange Rows.valueArithSpec) false w args)
      (Rows.valueArithSpec.post enc Tryd.prog Tryd.f5 false true false false) := by
  refine returnsInHanded_of_change_and (C := Tryd.checked) (X := fun w _ => laidMetH Tryd.prog laid1 w) (fun _ _ _ hh h => h.of_heap hh) own started (by kernel_rfl) Tryd.func5
    (ChangeSpec.witness_shaped (enc := enc) (C := Tryd.checked) (os := os) (X := fun w _ => laidMetH Tryd.prog laid1 w) false (World.doorLaid Tryd.prog 400 os) #[.int .i64 0, .agg #[.int .i64 0, .int .i64 0, .string ⟨#[]⟩], .agg #[.int .i64 0, .int .i64 0, .string ⟨#[]⟩]] 8 rfl (World.shaped_of_RefB (by kernel_rfl) (by kernel_rfl)) (by kernel_rfl) (by kernel_rfl) (by kernel_rfl) (door1 os _)) ?_
  intro W base args ds gs before hval0 hW _ _ hL _
  have hval : ∀ (j : Nat) t v, Tryd.f5.params[j]? = some t → args[j]? = some v → Value.okWide Tryd.prog W .any base t v := hval0
  have hW' := hW
  obtain ⟨p, q, hA0, hV, rfl, hfz, hnd⟩ := hW
  have hA : DataW.TrodAll enc Tryd.prog W 0 (fun _ => true) true Tryd.f5.params.toList args.toList ds p := hA0
  rw [Tryd.params5] at hA hval
  obtain ⟨v0, v1, v2, d0, d1, d2, p0, p1, p2, rfl, rfl, rfl, h0, h1, h2⟩ := trodAll_three hA
  have hG := of_laid1 hL
  obtain ⟨x0, rfl, rfl, rfl, w0⟩ := open_int (k := .i64) (by kernel_rfl) (hval 0 _ v0 rfl rfl) h0
  obtain ⟨x1, r1, w1, n1⟩ := v_open (hval 1 _ v1 rfl rfl) h1 (memOf W)
  obtain ⟨x2, r2, w2, n2⟩ := v_open (hval 2 _ v2 rfl rfl) h2 (memOf W)
  refine (cf_call (value_arith x0 x1 x2) (μ := memOf W) (fun _ _ _ e => e) hG (vs := [.int .i64 x0, v1, v2]) ⟨_, _, rfl, by simp only [RepA, RepD], _, _, rfl, r1, _, _, rfl, r2, rfl⟩).mono fun e W' ⟨v, h', he, rv, hb⟩ => ?_
  subst he
  simp only [RepA, RepD] at rv
  subst rv
  exact ⟨_, rfl, law_post hW' laidOut (by kernel_rfl) hb rfl (by kernel_rfl) Tryd.underlying4 rfl rfl rfl⟩

theorem valueArith_row : Rows.ValueArithSaid :=
  OpenClaim.holds_of_wide 5 Tryd.f5 rfl rfl rfl rfl rfl rfl rfl ⟨rfl, rfl, rfl, rfl, rfl⟩ rfl rfl rfl rfl rfl (by kernel_rfl) Tryd.func5 (by kernel_rfl)
    (of_decide_eq_true (by kernel_rfl)) (by unfold Func.isWrapper; first | (rw [if_pos (by decide +kernel)]; kernel_rfl) | (rw [if_neg (by decide +kernel)]; exact ⟨rfl, rfl⟩))
    (fun os started H enc _ => valueArith_lifted os started H enc)

set_option maxRecDepth 100000 in
theorem valueArith_holds : Rows.ValueArithCardSaid :=
  Claim7.holds_tied_plain_at .later [] [.data] true (true, "b1f1546bc3cd3afcbb30d388554af38aaed88227681d5583a674cc1f9216bc41") true
    valueArith_row (fun _ h => by cases h) (by kernel_rfl) (fun _ h => by cases h) valueArith_row_tie rfl ⟨rfl, rfl⟩ (by kernel_rfl) rfl
    (fun f fn hf hfn => by
      obtain rfl : f = 5 := Option.some.inj ((show Tryd.prog.funcNamed "querylab/querylablaw01.ValueArith" = some 5 by kernel_rfl).symm.trans hf) |>.symm
      obtain rfl : fn = Tryd.f5 := (Option.some.inj (Tryd.func5.symm.trans hfn)).symm
      exact ⟨by kernel_rfl, fun j t ht => by
        have hm : t ∈ Tryd.f5.params.toList := by simpa using Array.mem_of_getElem? ht
        have hall : (Tryd.f5.params.toList.all fun u => !Tryd.prog.wantsStandIn u) = true := by kernel_rfl
        exact (show Tryd.prog.wantsStandIn t = false by simpa using List.all_eq_true.1 hall t hm)⟩)
    (by kernel_rfl)
#print axioms valueArith_holds
end Go.Proofs.YtnbbnkmaoaogeaaDoor
