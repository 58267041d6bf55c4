/- PROVED: RegionRepresents returns true at every input, and its arguments read afterwards as before; the listed package-level variables begin as the program's text lays them (the card ties that). No other condition. -/
import Derived.Test.YtlimkhfjidcelaaGreatDoorRrq
import Derived.Test.YtlimkhfjidcelaaGreatDoorGRow
import Derived.SevenTiedAt
import Derived.Test.YtlimkhfjidcelaaGreatDoorTie
import Derived.Test.YtlimkhfjidcelaaGreatDoorCards
set_option linter.all false
namespace Go.Proofs.YtlimkhfjidcelaaGreatDoor
open Go Go.ChangeShapes Go.WideShapes Go.ChangeAt Go.RowKit Go.Ab Go.Proofs.Tryz

set_option maxRecDepth 100000 in
theorem regionRepresents_lifted (os : Os) (started : os.Started) (H : Type) (enc : TypeId × Value → H) :
    ReturnsInHanded {} Tryz.checked os 5 .any (fun w args => (Rows.regionRepresentsSpec.pre enc Tryz.prog Tryz.f5 [] false w args ∧ laidMetH Tryz.prog laid5 w) ∧ sizedMet enc Tryz.prog Tryz.f5 (OpenSpec.ofChange Rows.regionRepresentsSpec) false w args)
      (Rows.regionRepresentsSpec.post enc Tryz.prog Tryz.f5 false true false false) := by
  refine returnsInHanded_of_change_and (C := Tryz.checked) (X := fun w _ => laidMetH Tryz.prog laid5 w) (fun _ _ _ hh h => h.of_heap hh) own started (by kernel_rfl) Tryz.func5
    (ChangeSpec.witness_shaped (enc := enc) (C := Tryz.checked) (os := os) (X := fun w _ => laidMetH Tryz.prog laid5 w) false (World.doorLaid Tryz.prog 400 os) #[.slice none 0 0, .agg #[.int .i64 0, .int .i64 0, .string ⟨#[]⟩]] 8 rfl (World.shaped_of_RefB (by kernel_rfl) (by kernel_rfl)) (by kernel_rfl) (by kernel_rfl) (by kernel_rfl) (door5 os _)) ?_
  intro W base args ds gs before hval0 hW _ _ hL _
  have hval : ∀ (j : Nat) t v, Tryz.f5.params[j]? = some t → args[j]? = some v → Value.okWide Tryz.prog W .any base t v := hval0
  have hW' := hW
  obtain ⟨p, q, hA0, hV, rfl, hfz, hnd⟩ := hW
  have hA : DataW.TrodAll enc Tryz.prog W 0 (fun _ => true) true Tryz.f5.params.toList args.toList ds p := hA0
  rw [Tryz.params5] at hA hval
  obtain ⟨v0, v1, d0, d1, p0, p1, rfl, rfl, rfl, h0, h1⟩ := trodAll_two hA
  have hG := of_laid5 hL
  obtain ⟨x0, r0⟩ := is_open (hval 0 _ v0 rfl rfl) h0
  obtain ⟨x1, r1, w1, n1⟩ := v_open (hval 1 _ v1 rfl rfl) h1 (memOf W)
  refine (cf_call (region_represents x0 x1) (μ := memOf W) (fun _ _ _ e => e) (fun g cs e => (hG g cs e).1) (fun g cs e => (hG g cs e).2) (vs := [v0, v1]) ⟨_, _, rfl, by simp only [RepA]; exact r0, _, _, rfl, r1, rfl⟩).mono fun e W' ⟨v, h', he, rv, hb⟩ => ?_
  subst he
  simp only [RepA, RepD] at rv
  subst rv
  exact ⟨_, rfl, law_post hW' laidOut (by kernel_rfl) hb rfl (by kernel_rfl) Tryz.underlying4 rfl rfl rfl⟩

theorem regionRepresents_row : Rows.RegionRepresentsSaid :=
  OpenClaim.holds_of_wide 5 Tryz.f5 rfl rfl rfl rfl rfl rfl rfl ⟨rfl, rfl, rfl, rfl, rfl⟩ rfl rfl rfl rfl rfl (by kernel_rfl) Tryz.func5 (by kernel_rfl)
    (of_decide_eq_true (by kernel_rfl)) (by unfold Func.isWrapper; first | (rw [if_pos (by decide +kernel)]; kernel_rfl) | (rw [if_neg (by decide +kernel)]; exact ⟨rfl, rfl⟩))
    (fun os started H enc _ => regionRepresents_lifted os started H enc)

set_option maxRecDepth 100000 in
theorem regionRepresents_holds : Rows.RegionRepresentsCardSaid :=
  Claim7.holds_tied_plain_at .later [] [.data, .data, .data, .data, .data] true (true, "5cebfd6e1723f5d1e859d7f9f3cce2173775edf52b40e63dcd0ae0d34714126f") false
    regionRepresents_row (fun _ h => by cases h) (by kernel_rfl) (fun _ h => by cases h) regionRepresents_row_tie rfl ⟨rfl, rfl⟩ (by kernel_rfl) rfl
    (fun f fn hf hfn => by
      obtain rfl : f = 5 := Option.some.inj ((show Tryz.prog.funcNamed "querylab/querylablaw13.RegionRepresents" = some 5 by kernel_rfl).symm.trans hf) |>.symm
      obtain rfl : fn = Tryz.f5 := (Option.some.inj (Tryz.func5.symm.trans hfn)).symm
      exact ⟨by kernel_rfl, fun j t ht => by
        have hm : t ∈ Tryz.f5.params.toList := by simpa using Array.mem_of_getElem? ht
        have hall : (Tryz.f5.params.toList.all fun u => !Tryz.prog.wantsStandIn u) = true := by kernel_rfl
        exact (show Tryz.prog.wantsStandIn t = false by simpa using List.all_eq_true.1 hall t hm)⟩)
    (by kernel_rfl)
#print axioms regionRepresents_holds
end Go.Proofs.YtlimkhfjidcelaaGreatDoor
