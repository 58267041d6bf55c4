/- PROVED: SqlValid returns true at every two statements and two terms, and its arguments read afterwards as before; the listed package-level variable begins as the program's text lays it (the card ties that). No other condition. -/
import Derived.Test.YtlimkhfjidcelaaDoorSqlV
import Derived.Test.YtlimkhfjidcelaaDoorSRow
import Derived.SevenTiedAt
import Derived.Test.YtlimkhfjidcelaaDoorTie
import Derived.Test.YtlimkhfjidcelaaDoorCards
set_option linter.all false
namespace Go.Proofs.YtlimkhfjidcelaaDoor
open Go Go.ChangeShapes Go.WideShapes Go.ChangeAt Go.RowKit Go.Ab Go.Proofs.Tryd

set_option maxRecDepth 100000 in
theorem sqlValid_lifted (os : Os) (started : os.Started) (H : Type) (enc : TypeId × Value → H) :
    ReturnsInHanded {} Tryd.checked os 3 .any (fun w args => (Rows.sqlValidSpec.pre enc Tryd.prog Tryd.f3 [] false w args ∧ laidMetH Tryd.prog laidS w) ∧ sizedMet enc Tryd.prog Tryd.f3 (OpenSpec.ofChange Rows.sqlValidSpec) false w args)
      (Rows.sqlValidSpec.post enc Tryd.prog Tryd.f3 false true false false) := by
  refine lifted_shaped (C := Tryd.checked) (X := fun w _ => laidMetH Tryd.prog laidS w) (fun _ _ _ hh h => h.of_heap hh) own started (by kernel_rfl) Tryd.func3
    (ChangeSpec.witness_shaped (enc := enc) (C := Tryd.checked) (os := os) (X := fun w _ => laidMetH Tryd.prog laidS w) false (World.doorLaid Tryd.prog 400 os) #[.agg #[.int .i64 0, .bool false, .bool false, .bool false, .slice none 0 0, .string ⟨#[]⟩, .slice none 0 0, .string ⟨#[]⟩, .slice none 0 0, .slice none 0 0, .slice none 0 0, .slice none 0 0, .slice none 0 0], .agg #[.int .i64 0, .bool false, .bool false, .bool false, .slice none 0 0, .string ⟨#[]⟩, .slice none 0 0, .string ⟨#[]⟩, .slice none 0 0, .slice none 0 0, .slice none 0 0, .slice none 0 0, .slice none 0 0], .agg #[.int .i64 0, .int .i64 0, .int .i64 0, .string ⟨#[]⟩, .string ⟨#[]⟩, .slice none 0 0], .agg #[.int .i64 0, .int .i64 0, .int .i64 0, .string ⟨#[]⟩, .string ⟨#[]⟩, .slice none 0 0]] 8 rfl (World.shaped_of_RefB (by kernel_rfl) (by kernel_rfl)) (by kernel_rfl) (by kernel_rfl) (by kernel_rfl) (doorS os _)) ?_
  intro W base args ds gs before hval0 hW hs hL
  have hval : ∀ (j : Nat) t v, Tryd.f3.params[j]? = some t → args[j]? = some v → Value.okWide Tryd.prog W .any base t v := hval0
  have hW' := hW
  obtain ⟨p, q, hA0, hV, rfl, hfz, hnd⟩ := hW
  have hA : DataW.TrodAll enc Tryd.prog W 0 (fun _ => true) true Tryd.f3.params.toList args.toList ds p := hA0
  rw [Tryd.params3] at hA hval
  obtain ⟨v0, v1, v2, v3, d0, d1, d2, d3, p0, p1, p2, p3, rfl, rfl, rfl, h0, h1, h2, h3⟩ := trodAll_four hA
  have hG := of_laidS hL hs
  obtain ⟨x0, f0, r0⟩ := sm_open (hval 0 _ v0 rfl rfl) h0
  obtain ⟨x1, f1, r1⟩ := sm_open (hval 1 _ v1 rfl rfl) h1
  obtain ⟨x2, f2, r2⟩ := tm_open (hval 2 _ v2 rfl rfl) h2
  obtain ⟨x3, f3, r3⟩ := tm_open (hval 3 _ v3 rfl rfl) h3
  refine (cf_call (sql_valid x0 x1 x2 x3 f0 f1 f2 f3) (μ := memOf W) (fun _ _ _ e => e) (fun g cs e => (hG g cs e).1) (fun g cs e => (hG g cs e).2) (vs := [v0, v1, v2, v3]) ⟨_, _, rfl, r0, _, _, rfl, r1, _, _, rfl, r2, _, _, rfl, r3, rfl⟩).mono fun e W' ⟨v, h', he, rv, hb⟩ => ?_
  subst he
  simp only [RepA, RepD] at rv
  subst rv
  exact ⟨_, rfl, law_post hW' laidOut (by kernel_rfl) hb rfl (by kernel_rfl) Tryd.underlying4 rfl rfl rfl⟩

theorem sqlValid_row : Rows.SqlValidSaid :=
  OpenClaim.holds_of_wide 3 Tryd.f3 rfl rfl rfl rfl rfl rfl rfl ⟨rfl, rfl, rfl, rfl, rfl⟩ rfl rfl rfl rfl rfl (by kernel_rfl) Tryd.func3 (by kernel_rfl)
    (of_decide_eq_true (by kernel_rfl)) (by unfold Func.isWrapper; first | (rw [if_pos (by decide +kernel)]; kernel_rfl) | (rw [if_neg (by decide +kernel)]; exact ⟨rfl, rfl⟩))
    (fun os started H enc _ => sqlValid_lifted os started H enc)

set_option maxRecDepth 100000 in
theorem sqlValid_holds : Rows.SqlValidCardSaid :=
  Claim7.holds_tied_plain_at .later [] [.data] true (true, "5a61dc565cbc0e165cae8481711d213f19f4741fb7d88a8fea27eb230b87f60c") true
    sqlValid_row (fun _ h => by cases h) (by kernel_rfl) (fun _ h => by cases h) sqlValid_row_tie rfl ⟨rfl, rfl⟩ (by kernel_rfl) rfl
    (fun f fn hf hfn => by
      obtain rfl : f = 3 := Option.some.inj ((show Tryd.prog.funcNamed "querylab/querylablaw05.SqlValid" = some 3 by kernel_rfl).symm.trans hf) |>.symm
      obtain rfl : fn = Tryd.f3 := (Option.some.inj (Tryd.func3.symm.trans hfn)).symm
      exact ⟨by kernel_rfl, fun j t ht => by
        have hm : t ∈ Tryd.f3.params.toList := by simpa using Array.mem_of_getElem? ht
        have hall : (Tryd.f3.params.toList.all fun u => !Tryd.prog.wantsStandIn u) = true := by kernel_rfl
        exact (show Tryd.prog.wantsStandIn t = false by simpa using List.all_eq_true.1 hall t hm)⟩)
    (by kernel_rfl)
#print axioms sqlValid_holds
end Go.Proofs.YtlimkhfjidcelaaDoor
