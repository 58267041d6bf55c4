/- PROVED: DemandCounts returns true at every input, and its arguments read afterwards as before; the listed package-level variables begin as the program's text lays them (the card ties that). No other condition. -/
import Derived.Test.YtkkbepgccddjoaaGreatDoorCDcs
import Derived.Test.YtkkbepgccddjoaaGreatDoorHRow
import Derived.SevenTiedAt
import Derived.Test.YtkkbepgccddjoaaGreatDoorTie
import Derived.Test.YtkkbepgccddjoaaGreatDoorCards
set_option linter.all false
namespace Go.Proofs.YtkkbepgccddjoaaGreatDoor
open Go Go.ChangeShapes Go.WideShapes Go.ChangeAt Go.RowKit Go.Ab Go.Proofs.Tryz
set_option maxRecDepth 100000 in
theorem demandCounts_lifted (os:Os) (started:os.Started) (H:Type) (enc:TypeId×Value→H) :
  ReturnsInHanded {} Tryz.checked os 4 .any (fun w args=>(Rows.demandCountsSpec.pre enc Tryz.prog Tryz.f4 [] false w args∧laidMetH Tryz.prog rS w)∧sizedMet enc Tryz.prog Tryz.f4 (OpenSpec.ofChange Rows.demandCountsSpec) false w args)
   (Rows.demandCountsSpec.post enc Tryz.prog Tryz.f4 false true false false):=by
 refine nV (C:=Tryz.checked) (X:=fun w _=>laidMetH Tryz.prog rS w) (fun _ _ _ hh h=>h.of_heap hh) own started (by kernel_rfl) Tryz.func4
  (ChangeSpec.witness_shaped (enc:=enc) (C:=Tryz.checked) (os:=os) (X:=fun w _=>laidMetH Tryz.prog rS w) false (World.doorLaid Tryz.prog 400 os) #[.slice none 0 0,.int .i64 0] 8 rfl (World.shaped_of_RefB (by kernel_rfl) (by kernel_rfl)) (by kernel_rfl) (by kernel_rfl) (by kernel_rfl) (aBg os _)) ?_
 intro W base args ds gs before hval0 hW hs hL
 have hval:∀ (j:Nat) t v,Tryz.f4.params[j]?=some t→args[j]?=some v→Value.okWide Tryz.prog W .any base t v:=hval0
 have hW':=hW
 obtain ⟨p,q,hA0,hV,rfl,hfz,hnd⟩:=hW
 have hA:DataW.TrodAll enc Tryz.prog W 0 (fun _=>true) true Tryz.f4.params.toList args.toList ds p:=hA0
 rw [Tryz.params4] at hA hval
 obtain ⟨v0,v1,d0,d1,p0,p1,rfl,rfl,rfl,h0,h1⟩:=trodAll_two hA
 have hG:=DB hL hs
 obtain ⟨x0,r0⟩:=JW (hval 0 _ v0 rfl rfl) h0
 obtain ⟨x1,rfl,rfl,rfl,w1⟩:=open_int (k:=.i64) (by kernel_rfl) (hval 1 _ v1 rfl rfl) h1
 refine (JD (EZ x0 x1) (μ:=rL W) (fun _ _ _ e=>e) (fun g cs e=>(hG g cs e).1) (fun g cs e=>(hG g cs e).2) (vs:=[v0,.int .i64 x1]) ⟨_,_,rfl,by simp only [aF]; exact r0,_,_,rfl,by simp only [aF,aY],rfl⟩).mono fun e W' ⟨v,h',he,rv,hb⟩=>?_
 subst he
 simp only [aF,aY] at rv
 subst rv
 exact ⟨_,rfl,BZ hW' JV (by kernel_rfl) hb rfl (by kernel_rfl) Tryz.underlying4 rfl rfl rfl⟩
theorem demandCounts_row:Rows.DemandCountsSaid :=
 OpenClaim.holds_of_wide 4 Tryz.f4 rfl rfl rfl rfl rfl rfl rfl ⟨rfl,rfl,rfl,rfl,rfl⟩ rfl rfl rfl rfl rfl (by kernel_rfl) Tryz.func4 (by kernel_rfl)
  (of_decide_eq_true (by kernel_rfl)) (by unfold Func.isWrapper; first | (rw [if_pos (by decide +kernel)]; kernel_rfl) | (rw [if_neg (by decide +kernel)]; exact ⟨rfl,rfl⟩))
  (fun os started H enc _=>demandCounts_lifted os started H enc)
set_option maxRecDepth 100000 in
theorem demandCounts_holds:Rows.DemandCountsCardSaid :=
 Claim7.holds_tied_plain_at .later [] [.data, .data] true (true, "0451b4cc7da23de6a6124182da2d8f86576e93b60848e3b104803b370d4eee62") false
  demandCounts_row (fun _ h=>by cases h) (by kernel_rfl) (fun _ h=>by cases h) demandCounts_row_tie rfl ⟨rfl,rfl⟩ (by kernel_rfl) rfl
  (fun f fn hf hfn=>by
   obtain rfl : f = 4 := Option.some.inj ((show Tryz.prog.funcNamed "querylab/querylablaw14.DemandCounts" = some 4 by kernel_rfl).symm.trans hf) |>.symm
   obtain rfl:fn=Tryz.f4:=(Option.some.inj (Tryz.func4.symm.trans hfn)).symm
   exact ⟨by kernel_rfl,fun j t ht=>by
    have hm:t∈Tryz.f4.params.toList:=by simpa using Array.mem_of_getElem? ht
    have hall:(Tryz.f4.params.toList.all fun u=>!Tryz.prog.wantsStandIn u)=true:=by kernel_rfl
    exact (show Tryz.prog.wantsStandIn t=false by simpa using List.all_eq_true.1 hall t hm)⟩)
  (by kernel_rfl)
#print axioms demandCounts_holds
end Go.Proofs.YtkkbepgccddjoaaGreatDoor
