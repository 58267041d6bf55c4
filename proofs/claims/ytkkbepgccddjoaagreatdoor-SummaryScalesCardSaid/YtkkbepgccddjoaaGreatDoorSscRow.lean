/- PROVED: SummaryScales returns true at every input, and its arguments read afterwards as before; the listed package-level variables begin as the program's text lays them (the card ties that). No other condition. -/
import Derived.Test.YtkkbepgccddjoaaGreatDoorCSsc
import Derived.Test.YtkkbepgccddjoaaGreatDoorHRow
import Derived.SevenTiedAt
import Derived.Test.YtkkbepgccddjoaaGreatDoorTie
import Derived.Test.YtkkbepgccddjoaaGreatDoorCards
set_option linter.all false
namespace Go.Proofs.YtkkbepgccddjoaaGreatDoor
open Go Go.ChangeShapes Go.WideShapes Go.ChangeAt Go.RowKit Go.Ab Go.Proofs.Tryz
set_option maxRecDepth 100000 in
theorem summaryScales_lifted (os:Os) (started:os.Started) (H:Type) (enc:TypeId×Value→H) :
  ReturnsInHanded {} Tryz.checked os 7 .any (fun w args=>(Rows.summaryScalesSpec.pre enc Tryz.prog Tryz.f7 [] false w args∧laidMetH Tryz.prog rS w)∧sizedMet enc Tryz.prog Tryz.f7 (OpenSpec.ofChange Rows.summaryScalesSpec) false w args)
   (Rows.summaryScalesSpec.post enc Tryz.prog Tryz.f7 false true false false):=by
 refine nV (C:=Tryz.checked) (X:=fun w _=>laidMetH Tryz.prog rS w) (fun _ _ _ hh h=>h.of_heap hh) own started (by kernel_rfl) Tryz.func7
  (ChangeSpec.witness_shaped (enc:=enc) (C:=Tryz.checked) (os:=os) (X:=fun w _=>laidMetH Tryz.prog rS w) false (World.doorLaid Tryz.prog 400 os) #[.slice none 0 0,.int .u32 0] 8 rfl (World.shaped_of_RefB (by kernel_rfl) (by kernel_rfl)) (by kernel_rfl) (by kernel_rfl) (by kernel_rfl) (aBg os _)) ?_
 intro W base args ds gs before hval0 hW hs hL
 have hval:∀ (j:Nat) t v,Tryz.f7.params[j]?=some t→args[j]?=some v→Value.okWide Tryz.prog W .any base t v:=hval0
 have hW':=hW
 obtain ⟨p,q,hA0,hV,rfl,hfz,hnd⟩:=hW
 have hA:DataW.TrodAll enc Tryz.prog W 0 (fun _=>true) true Tryz.f7.params.toList args.toList ds p:=hA0
 rw [Tryz.params7] at hA hval
 obtain ⟨v0,v1,d0,d1,p0,p1,rfl,rfl,rfl,h0,h1⟩:=trodAll_two hA
 have hG:=DB hL hs
 obtain ⟨x0,r0⟩:=JW (hval 0 _ v0 rfl rfl) h0
 obtain ⟨x1,rfl,rfl,rfl,w1⟩:=open_int (k:=.u32) (by kernel_rfl) (hval 1 _ v1 rfl rfl) h1
 have hx1:0≤x1∧x1<4294967296:=by
  have h1:IntKind.u32.min=0:=by decide
  have h2:IntKind.u32.max=4294967295:=by decide
  simp [Lit.wf,h1,h2] at w1
  omega
 refine (JD (EB x0 x1 hx1.1 hx1.2) (μ:=rL W) (fun _ _ _ e=>e) (fun g cs e=>(hG g cs e).1) (fun g cs e=>(hG g cs e).2) (vs:=[v0,.int .u32 x1]) ⟨_,_,rfl,by simp only [aF]; exact r0,_,_,rfl,by simp only [aF,aY],rfl⟩).mono fun e W' ⟨v,h',he,rv,hb⟩=>?_
 subst he
 simp only [aF,aY] at rv
 subst rv
 exact ⟨_,rfl,BZ hW' JV (by kernel_rfl) hb rfl (by kernel_rfl) Tryz.underlying4 rfl rfl rfl⟩
theorem summaryScales_row:Rows.SummaryScalesSaid :=
 OpenClaim.holds_of_wide 7 Tryz.f7 rfl rfl rfl rfl rfl rfl rfl ⟨rfl,rfl,rfl,rfl,rfl⟩ rfl rfl rfl rfl rfl (by kernel_rfl) Tryz.func7 (by kernel_rfl)
  (of_decide_eq_true (by kernel_rfl)) (by unfold Func.isWrapper; first | (rw [if_pos (by decide +kernel)]; kernel_rfl) | (rw [if_neg (by decide +kernel)]; exact ⟨rfl,rfl⟩))
  (fun os started H enc _=>summaryScales_lifted os started H enc)
set_option maxRecDepth 100000 in
theorem summaryScales_holds:Rows.SummaryScalesCardSaid :=
 Claim7.holds_tied_plain_at .later [] [.data, .data] true (true, "0451b4cc7da23de6a6124182da2d8f86576e93b60848e3b104803b370d4eee62") false
  summaryScales_row (fun _ h=>by cases h) (by kernel_rfl) (fun _ h=>by cases h) summaryScales_row_tie rfl ⟨rfl,rfl⟩ (by kernel_rfl) rfl
  (fun f fn hf hfn=>by
   obtain rfl : f = 7 := Option.some.inj ((show Tryz.prog.funcNamed "querylab/querylablaw17.SummaryScales" = some 7 by kernel_rfl).symm.trans hf) |>.symm
   obtain rfl:fn=Tryz.f7:=(Option.some.inj (Tryz.func7.symm.trans hfn)).symm
   exact ⟨by kernel_rfl,fun j t ht=>by
    have hm:t∈Tryz.f7.params.toList:=by simpa using Array.mem_of_getElem? ht
    have hall:(Tryz.f7.params.toList.all fun u=>!Tryz.prog.wantsStandIn u)=true:=by kernel_rfl
    exact (show Tryz.prog.wantsStandIn t=false by simpa using List.all_eq_true.1 hall t hm)⟩)
  (by kernel_rfl)
#print axioms summaryScales_holds
end Go.Proofs.YtkkbepgccddjoaaGreatDoor
