/- PROVED: DemandMeans returns true at every input, and its arguments read afterwards as before; the listed package-level variables begin as the program's text lays them (the card ties that). No other condition. -/
import Derived.Test.YthbnleoonldffaaGreatDoorQDmn
import Derived.Test.YthbnleoonldffaaGreatDoorQHRow
import Derived.Test.YthbnleoonldffaaGreatDoorDmF
import Derived.SevenTiedAt
import Derived.Test.YthbnleoonldffaaGreatDoorTie
import Derived.Test.YthbnleoonldffaaGreatDoorCards
set_option linter.all false
namespace Go.Proofs.YthbnleoonldffaaGreatDoor
open Go Go.ChangeShapes Go.WideShapes Go.ChangeAt Go.RowKit Go.Ab Go.Proofs.Tryz
set_option maxRecDepth 100000 in
theorem demandMeans_lifted (os:Os) (started:os.Started) (H:Type) (enc:TypeId×Value→H) :
  ReturnsInHanded {} Tryz.checked os 6 .any (fun w args=>(Rows.demandMeansSpec.pre enc Tryz.prog Tryz.f6 [] false w args∧laidMetH Tryz.prog KF w)∧sizedMet enc Tryz.prog Tryz.f6 (OpenSpec.ofChange Rows.demandMeansSpec) false w args)
   (Rows.demandMeansSpec.post enc Tryz.prog Tryz.f6 false true false false):=by
 refine CG (C:=Tryz.checked) (X:=fun w _=>laidMetH Tryz.prog KF w) (fun _ _ _ hh h=>h.of_heap hh) own started (by kernel_rfl) Tryz.func6
  (ChangeSpec.witness_shaped (enc:=enc) (C:=Tryz.checked) (os:=os) (X:=fun w _=>laidMetH Tryz.prog KF w) false (World.doorLaid Tryz.prog 400 os) #[.slice none 0 0] 8 rfl (World.shaped_of_RefB (by kernel_rfl) (by kernel_rfl)) (by kernel_rfl) (by kernel_rfl) (by kernel_rfl) (aFk os _)) ?_
 intro W base args ds gs before hval0 hW hs hL
 have hval:∀ (j:Nat) t v,Tryz.f6.params[j]?=some t→args[j]?=some v→Value.okWide Tryz.prog W .any base t v:=hval0
 have hW':=hW
 obtain ⟨p,q,hA0,hV,rfl,hfz,hnd⟩:=hW
 have hA:DataW.TrodAll enc Tryz.prog W 0 (fun _=>true) true Tryz.f6.params.toList args.toList ds p:=hA0
 rw [Tryz.params6] at hA hval
 obtain ⟨v0,d0,rfl,rfl,h0⟩:=trodAll_one hA
 have hG:=YA hL hs
 obtain ⟨x0,r0⟩:=aBN (hval 0 _ v0 rfl rfl) h0
 refine (aBk (GL x0) (μ:=tR W) (fun _ _ _ e=>e) (fun g cs e=>(hG g cs e).1) (fun g cs e=>(hG g cs e).2) (vs:=[v0]) ⟨_,_,rfl,by simp only [aJ]; exact r0,rfl⟩).mono fun e W' ⟨v,h',he,rv,hb⟩=>?_
 subst he
 simp only [aJ,aX] at rv
 subst rv
 exact ⟨_,rfl,WV hW' aBM (by kernel_rfl) hb rfl (by kernel_rfl) Tryz.underlying4 rfl rfl rfl⟩
theorem demandMeans_row:Rows.DemandMeansSaid :=
 OpenClaim.holds_of_wide 6 Tryz.f6 rfl rfl rfl rfl rfl rfl rfl ⟨rfl,rfl,rfl,rfl,rfl⟩ rfl rfl rfl rfl rfl facN Tryz.func6 facAll
  facI (by unfold Func.isWrapper; first | (rw [if_pos (by decide +kernel)]; kernel_rfl) | (rw [if_neg (by decide +kernel)]; exact ⟨rfl,rfl⟩))
  (fun os started H enc _=>demandMeans_lifted os started H enc)
set_option maxRecDepth 100000 in
theorem demandMeans_holds:Rows.DemandMeansCardSaid :=
 Claim7.holds_tied_plain_at .later [] [.data, .data] true (true, "2c177d65cb39a6dd501e17cf11c2c4e20dc931f129f3043f3f1a0a2dddfeb295") false
  demandMeans_row (fun _ h=>by cases h) facW (fun _ h=>by cases h) demandMeans_row_tie rfl ⟨rfl,rfl⟩ facM rfl
  (fun f fn hf hfn=>by
   obtain rfl : f = 6 := Option.some.inj ((show Tryz.prog.funcNamed "querylab/querylablaw14.DemandMeans" = some 6 by kernel_rfl).symm.trans hf) |>.symm
   obtain rfl:fn=Tryz.f6:=(Option.some.inj (Tryz.func6.symm.trans hfn)).symm
   exact ⟨facL,fun j t ht=>by
    have hm:t∈Tryz.f6.params.toList:=by simpa using Array.mem_of_getElem? ht
    have hall:(Tryz.f6.params.toList.all fun u=>!Tryz.prog.wantsStandIn u)=true:=by kernel_rfl
    exact (show Tryz.prog.wantsStandIn t=false by simpa using List.all_eq_true.1 hall t hm)⟩)
  facG
#print axioms demandMeans_holds
end Go.Proofs.YthbnleoonldffaaGreatDoor
