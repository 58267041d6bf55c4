/- PROVED: SummaryCounts returns true at every input, and its arguments read afterwards as before; the listed package-level variables begin as the program's text lays them (the card ties that). No other condition. -/
import Derived.Test.YtkkbepgccddjoaaGreatDoorCScn
import Derived.Test.YtkkbepgccddjoaaGreatDoorHRow
import Derived.SevenTiedAt
import Derived.Test.YtkkbepgccddjoaaGreatDoorTie
import Derived.Test.YtkkbepgccddjoaaGreatDoorCards
set_option linter.all false
namespace Go.Proofs.YtkkbepgccddjoaaGreatDoor
open Go Go.ChangeShapes Go.WideShapes Go.ChangeAt Go.RowKit Go.Ab Go.Proofs.Tryz
set_option maxRecDepth 100000 in
theorem summaryCounts_lifted (os:Os) (started:os.Started) (H:Type) (enc:TypeId×Value→H) :
  ReturnsInHanded {} Tryz.checked os 5 .any (fun w args=>(Rows.summaryCountsSpec.pre enc Tryz.prog Tryz.f5 [] false w args∧laidMetH Tryz.prog rS w)∧sizedMet enc Tryz.prog Tryz.f5 (OpenSpec.ofChange Rows.summaryCountsSpec) false w args)
   (Rows.summaryCountsSpec.post enc Tryz.prog Tryz.f5 false true false false):=by
 refine nV (C:=Tryz.checked) (X:=fun w _=>laidMetH Tryz.prog rS w) (fun _ _ _ hh h=>h.of_heap hh) own started (by kernel_rfl) Tryz.func5
  (ChangeSpec.witness_shaped (enc:=enc) (C:=Tryz.checked) (os:=os) (X:=fun w _=>laidMetH Tryz.prog rS w) false (World.doorLaid Tryz.prog 400 os) #[.slice none 0 0] 8 rfl (World.shaped_of_RefB (by kernel_rfl) (by kernel_rfl)) (by kernel_rfl) (by kernel_rfl) (by kernel_rfl) (aBg os _)) ?_
 intro W base args ds gs before hval0 hW hs hL
 have hval:∀ (j:Nat) t v,Tryz.f5.params[j]?=some t→args[j]?=some v→Value.okWide Tryz.prog W .any base t v:=hval0
 have hW':=hW
 obtain ⟨p,q,hA0,hV,rfl,hfz,hnd⟩:=hW
 have hA:DataW.TrodAll enc Tryz.prog W 0 (fun _=>true) true Tryz.f5.params.toList args.toList ds p:=hA0
 rw [Tryz.params5] at hA hval
 obtain ⟨v0,d0,rfl,rfl,h0⟩:=trodAll_one hA
 have hG:=DB hL hs
 obtain ⟨x0,r0⟩:=JW (hval 0 _ v0 rfl rfl) h0
 refine (JD (DQ x0) (μ:=rL W) (fun _ _ _ e=>e) (fun g cs e=>(hG g cs e).1) (fun g cs e=>(hG g cs e).2) (vs:=[v0]) ⟨_,_,rfl,by simp only [aF]; exact r0,rfl⟩).mono fun e W' ⟨v,h',he,rv,hb⟩=>?_
 subst he
 simp only [aF,aY] at rv
 subst rv
 exact ⟨_,rfl,BZ hW' JV (by kernel_rfl) hb rfl (by kernel_rfl) Tryz.underlying4 rfl rfl rfl⟩
theorem summaryCounts_row:Rows.SummaryCountsSaid :=
 OpenClaim.holds_of_wide 5 Tryz.f5 rfl rfl rfl rfl rfl rfl rfl ⟨rfl,rfl,rfl,rfl,rfl⟩ rfl rfl rfl rfl rfl (by kernel_rfl) Tryz.func5 (by kernel_rfl)
  (of_decide_eq_true (by kernel_rfl)) (by unfold Func.isWrapper; first | (rw [if_pos (by decide +kernel)]; kernel_rfl) | (rw [if_neg (by decide +kernel)]; exact ⟨rfl,rfl⟩))
  (fun os started H enc _=>summaryCounts_lifted os started H enc)
set_option maxRecDepth 100000 in
theorem summaryCounts_holds:Rows.SummaryCountsCardSaid :=
 Claim7.holds_tied_plain_at .later [] [.data, .data] true (true, "0451b4cc7da23de6a6124182da2d8f86576e93b60848e3b104803b370d4eee62") false
  summaryCounts_row (fun _ h=>by cases h) (by kernel_rfl) (fun _ h=>by cases h) summaryCounts_row_tie rfl ⟨rfl,rfl⟩ (by kernel_rfl) rfl
  (fun f fn hf hfn=>by
   obtain rfl : f = 5 := Option.some.inj ((show Tryz.prog.funcNamed "querylab/querylablaw17.SummaryCounts" = some 5 by kernel_rfl).symm.trans hf) |>.symm
   obtain rfl:fn=Tryz.f5:=(Option.some.inj (Tryz.func5.symm.trans hfn)).symm
   exact ⟨by kernel_rfl,fun j t ht=>by
    have hm:t∈Tryz.f5.params.toList:=by simpa using Array.mem_of_getElem? ht
    have hall:(Tryz.f5.params.toList.all fun u=>!Tryz.prog.wantsStandIn u)=true:=by kernel_rfl
    exact (show Tryz.prog.wantsStandIn t=false by simpa using List.all_eq_true.1 hall t hm)⟩)
  (by kernel_rfl)
#print axioms summaryCounts_holds
end Go.Proofs.YtkkbepgccddjoaaGreatDoor
