/- PROVED: BindBack returns true at every list of numbers, and its argument reads afterwards as before; the listed package-level variables begin as the program's text lays them (the card ties that). No other condition. -/
import Derived.Test.YtlimkhfjidcelaaDoorKE12
import Derived.Test.YtlimkhfjidcelaaDoorKE13
import Derived.SevenTiedAt
import Derived.Test.YtlimkhfjidcelaaDoorTie
import Derived.Test.YtlimkhfjidcelaaDoorCards
set_option linter.all false
namespace Go.Proofs.YtlimkhfjidcelaaDoor
open Go Go.ChangeShapes Go.WideShapes Go.ChangeAt Go.RowKit Go.Ab Go.Proofs.Tryd

set_option maxRecDepth 100000 in
theorem bindBack_lifted (os : Os) (started : os.Started) (H : Type) (enc : TypeId × Value → H) :
    ReturnsInHanded {} Tryd.checked os 5 .any (fun w args => (Rows.bindBackSpec.pre enc Tryd.prog Tryd.f5 [] false w args ∧ laidMetH Tryd.prog laidT w) ∧ sizedMet enc Tryd.prog Tryd.f5 (OpenSpec.ofChange Rows.bindBackSpec) false w args)
      (Rows.bindBackSpec.post enc Tryd.prog Tryd.f5 false true false false) := by
  refine lifted_shaped (C := Tryd.checked) (X := fun w _ => laidMetH Tryd.prog laidT w) (fun _ _ _ hh h => h.of_heap hh) own started (by kernel_rfl) Tryd.func5
    (ChangeSpec.witness_shaped (enc := enc) (C := Tryd.checked) (os := os) (X := fun w _ => laidMetH Tryd.prog laidT w) false (World.doorLaid Tryd.prog 400 os) #[.slice none 0 0] 8 rfl (World.shaped_of_RefB (by kernel_rfl) (by kernel_rfl)) (by kernel_rfl) (by kernel_rfl) (by kernel_rfl) (doorT os _)) ?_
  intro W base args ds gs before hval0 hW hs hL
  have hval : ∀ (j : Nat) t v, Tryd.f5.params[j]? = some t → args[j]? = some v → Value.okWide Tryd.prog W .any base t v := hval0
  have hW' := hW
  obtain ⟨p, q, hA0, hV, rfl, hfz, hnd⟩ := hW
  have hA : DataW.TrodAll enc Tryd.prog W 0 (fun _ => true) true Tryd.f5.params.toList args.toList ds p := hA0
  rw [Tryd.params5] at hA hval
  obtain ⟨v0, d0, rfl, rfl, h0⟩ := trodAll_one hA
  have hG := of_laidT hL hs
  obtain ⟨x0, r0⟩ := is_open (hval 0 _ v0 rfl rfl) h0
  refine (cf_call (bind_back x0) (μ := memOf W) (fun _ _ _ e => e) (fun g cs e => (hG g cs e).1) (fun g cs e => (hG g cs e).2) (vs := [v0]) ⟨_, _, rfl, by simp only [RepA]; exact r0, rfl⟩).mono fun e W' ⟨v, h', he, rv, hb⟩ => ?_
  subst he
  simp only [RepA, RepD] at rv
  subst rv
  exact ⟨_, rfl, law_post hW' laidOut (by kernel_rfl) hb rfl (by kernel_rfl) Tryd.underlying4 rfl rfl rfl⟩

theorem bindBack_row : Rows.BindBackSaid :=
  OpenClaim.holds_of_wide 5 Tryd.f5 rfl rfl rfl rfl rfl rfl rfl ⟨rfl, rfl, rfl, rfl, rfl⟩ rfl rfl rfl rfl rfl (by kernel_rfl) Tryd.func5 (by kernel_rfl)
    (of_decide_eq_true (by kernel_rfl)) (by unfold Func.isWrapper; first | (rw [if_pos (by decide +kernel)]; kernel_rfl) | (rw [if_neg (by decide +kernel)]; exact ⟨rfl, rfl⟩))
    (fun os started H enc _ => bindBack_lifted os started H enc)

set_option maxRecDepth 100000 in
theorem bindBack_holds : Rows.BindBackCardSaid :=
  Claim7.holds_tied_plain_at .later [] [.data, .data] true (true, "5a61dc565cbc0e165cae8481711d213f19f4741fb7d88a8fea27eb230b87f60c") true
    bindBack_row (fun _ h => by cases h) (by kernel_rfl) (fun _ h => by cases h) bindBack_row_tie rfl ⟨rfl, rfl⟩ (by kernel_rfl) rfl
    (fun f fn hf hfn => by
      obtain rfl : f = 5 := Option.some.inj ((show Tryd.prog.funcNamed "querylab/querylablaw06.BindBack" = some 5 by kernel_rfl).symm.trans hf) |>.symm
      obtain rfl : fn = Tryd.f5 := (Option.some.inj (Tryd.func5.symm.trans hfn)).symm
      exact ⟨by kernel_rfl, fun j t ht => by
        have hm : t ∈ Tryd.f5.params.toList := by simpa using Array.mem_of_getElem? ht
        have hall : (Tryd.f5.params.toList.all fun u => !Tryd.prog.wantsStandIn u) = true := by kernel_rfl
        exact (show Tryd.prog.wantsStandIn t = false by simpa using List.all_eq_true.1 hall t hm)⟩)
    (by kernel_rfl)
#print axioms bindBack_holds
end Go.Proofs.YtlimkhfjidcelaaDoor
