/- PROVED: BindTerms returns true at every list of numbers, columns and term, and its arguments read afterwards as before; the listed package-level variables begin as the program's text lays them (the card ties that). No other condition. -/
import Derived.Test.YtlimkhfjidcelaaDoorKE11
import Derived.Test.YtlimkhfjidcelaaDoorKE12
import Derived.SevenTiedAt
import Derived.Test.YtlimkhfjidcelaaDoorTie
import Derived.Test.YtlimkhfjidcelaaDoorCards
set_option linter.all false
namespace Go.Proofs.YtlimkhfjidcelaaDoor
open Go Go.ChangeShapes Go.WideShapes Go.ChangeAt Go.RowKit Go.Ab Go.Proofs.Tryd

set_option maxRecDepth 100000 in
theorem bindTerms_lifted (os : Os) (started : os.Started) (H : Type) (enc : TypeId × Value → H) :
    ReturnsInHanded {} Tryd.checked os 4 .any (fun w args => (Rows.bindTermsSpec.pre enc Tryd.prog Tryd.f4 [] false w args ∧ laidMetH Tryd.prog laidT w) ∧ sizedMet enc Tryd.prog Tryd.f4 (OpenSpec.ofChange Rows.bindTermsSpec) false w args)
      (Rows.bindTermsSpec.post enc Tryd.prog Tryd.f4 false true false false) := by
  refine lifted_shaped (C := Tryd.checked) (X := fun w _ => laidMetH Tryd.prog laidT w) (fun _ _ _ hh h => h.of_heap hh) own started (by kernel_rfl) Tryd.func4
    (ChangeSpec.witness_shaped (enc := enc) (C := Tryd.checked) (os := os) (X := fun w _ => laidMetH Tryd.prog laidT w) false (World.doorLaid Tryd.prog 400 os) #[.slice none 0 0, .slice none 0 0, .agg #[.int .i64 0, .int .i64 0, .int .i64 0, .string ⟨#[]⟩, .string ⟨#[]⟩, .slice none 0 0]] 8 rfl (World.shaped_of_RefB (by kernel_rfl) (by kernel_rfl)) (by kernel_rfl) (by kernel_rfl) (by kernel_rfl) (doorT os _)) ?_
  intro W base args ds gs before hval0 hW hs hL
  have hval : ∀ (j : Nat) t v, Tryd.f4.params[j]? = some t → args[j]? = some v → Value.okWide Tryd.prog W .any base t v := hval0
  have hW' := hW
  obtain ⟨p, q, hA0, hV, rfl, hfz, hnd⟩ := hW
  have hA : DataW.TrodAll enc Tryd.prog W 0 (fun _ => true) true Tryd.f4.params.toList args.toList ds p := hA0
  rw [Tryd.params4] at hA hval
  obtain ⟨v0, v1, v2, d0, d1, d2, p0, p1, p2, rfl, rfl, rfl, h0, h1, h2⟩ := trodAll_three hA
  have hG := of_laidT hL hs
  obtain ⟨x0, r0⟩ := is_open (hval 0 _ v0 rfl rfl) h0
  obtain ⟨x1, l1, r1⟩ := cols_open (hval 1 _ v1 rfl rfl) h1
  obtain ⟨x2, f2, r2⟩ := tm_open (hval 2 _ v2 rfl rfl) h2
  refine (cf_call (bind_terms x0 x1 l1 x2 f2) (μ := memOf W) (fun _ _ _ e => e) (fun g cs e => (hG g cs e).1) (fun g cs e => (hG g cs e).2) (vs := [v0, v1, v2]) ⟨_, _, rfl, by simp only [RepA]; exact r0, _, _, rfl, by simp only [RepA]; exact r1, _, _, rfl, r2, rfl⟩).mono fun e W' ⟨v, h', he, rv, hb⟩ => ?_
  subst he
  simp only [RepA, RepD] at rv
  subst rv
  exact ⟨_, rfl, law_post hW' laidOut (by kernel_rfl) hb rfl (by kernel_rfl) Tryd.underlying4 rfl rfl rfl⟩

theorem bindTerms_row : Rows.BindTermsSaid :=
  OpenClaim.holds_of_wide 4 Tryd.f4 rfl rfl rfl rfl rfl rfl rfl ⟨rfl, rfl, rfl, rfl, rfl⟩ rfl rfl rfl rfl rfl (by kernel_rfl) Tryd.func4 (by kernel_rfl)
    (of_decide_eq_true (by kernel_rfl)) (by unfold Func.isWrapper; first | (rw [if_pos (by decide +kernel)]; kernel_rfl) | (rw [if_neg (by decide +kernel)]; exact ⟨rfl, rfl⟩))
    (fun os started H enc _ => bindTerms_lifted os started H enc)

set_option maxRecDepth 100000 in
theorem bindTerms_holds : Rows.BindTermsCardSaid :=
  Claim7.holds_tied_plain_at .later [] [.data, .data] true (true, "5a61dc565cbc0e165cae8481711d213f19f4741fb7d88a8fea27eb230b87f60c") true
    bindTerms_row (fun _ h => by cases h) (by kernel_rfl) (fun _ h => by cases h) bindTerms_row_tie rfl ⟨rfl, rfl⟩ (by kernel_rfl) rfl
    (fun f fn hf hfn => by
      obtain rfl : f = 4 := Option.some.inj ((show Tryd.prog.funcNamed "querylab/querylablaw06.BindTerms" = some 4 by kernel_rfl).symm.trans hf) |>.symm
      obtain rfl : fn = Tryd.f4 := (Option.some.inj (Tryd.func4.symm.trans hfn)).symm
      exact ⟨by kernel_rfl, fun j t ht => by
        have hm : t ∈ Tryd.f4.params.toList := by simpa using Array.mem_of_getElem? ht
        have hall : (Tryd.f4.params.toList.all fun u => !Tryd.prog.wantsStandIn u) = true := by kernel_rfl
        exact (show Tryd.prog.wantsStandIn t = false by simpa using List.all_eq_true.1 hall t hm)⟩)
    (by kernel_rfl)
#print axioms bindTerms_holds
end Go.Proofs.YtlimkhfjidcelaaDoor
