/- PROVED: RegionRegions returns true at every input, and its arguments read afterwards as before; the listed package-level variables begin as the program's text lays them (the card ties that). No other condition. -/
import Derived.Test.YtklnfckiabhceaaGreatDoorRrg
import Derived.Test.YtklnfckiabhceaaGreatDoorRRow
import Derived.SevenTiedAt
import Derived.Test.YtklnfckiabhceaaGreatDoorTie
import Derived.Test.YtklnfckiabhceaaGreatDoorCards
set_option linter.all false
namespace Go.Proofs.YtklnfckiabhceaaGreatDoor
open Go Go.ChangeShapes Go.WideShapes Go.ChangeAt Go.RowKit Go.Ab Go.Proofs.Tryz
set_option maxRecDepth 100000 in
theorem at_read {H:Type} {enc:TypeId×Value→H} {W:World} {base:Nat} {spare:Nat→Bool} {held:Bool} {n:Nat} {cs:List Value} {x:DataW H×List MemPlace} (h:DataW.trod enc Tryz.prog W base spare held n 81 cs=some x) (hc:cs.length=5) :
  ∃ e:At,RepL (memOf W) cs e.c:=by
 obtain ⟨c0,c1,c2,c3,c4,rfl⟩:∃ c0 c1 c2 c3 c4,cs=[c0,c1,c2,c3,c4]:=by
  match cs,hc with
  | [c0,c1,c2,c3,c4],_=>exact ⟨c0,c1,c2,c3,c4,rfl⟩
 obtain ⟨ys,n',hn',_,_,hyl,hf⟩:=DataW.trod_struct Tryz.underlying81 h
 have hl:ys.length=3:=hyl
 have yy:∀ i (hi:i<3),ys[i]?=some (ys[i]'(by omega)):=fun i hi=>List.getElem?_eq_getElem _
 have h0:DataW.trod enc Tryz.prog W base spare held n' 3 (([c0,c1,c2,c3,c4].drop 0).take (Tryz.prog.cellsOf 3))=ys[0]?:=hf 0 _ rfl
 have h1:DataW.trod enc Tryz.prog W base spare held n' 3 (([c0,c1,c2,c3,c4].drop 1).take (Tryz.prog.cellsOf 3))=ys[1]?:=hf 1 _ rfl
 have h2:DataW.trod enc Tryz.prog W base spare held n' 79 (([c0,c1,c2,c3,c4].drop 2).take (Tryz.prog.cellsOf 79))=ys[2]?:=hf 2 _ rfl
 simp only [cells1 (t:=3) (by kernel_rfl),cellsV,List.drop_zero,List.drop_succ_cons,List.take_succ_cons,List.take_zero] at h0 h1 h2
 obtain ⟨k,rfl⟩:=int_read (by kernel_rfl) (h0.trans (yy 0 (by omega)))
 obtain ⟨m,rfl⟩:=int_read (by kernel_rfl) (h1.trans (yy 1 (by omega)))
 obtain ⟨u,r2⟩:=v_read (h2.trans (yy 2 (by omega))) rfl
 exact ⟨⟨k,m,u⟩,by simp only [RepD],by simp only [RepD],r2⟩
set_option maxRecDepth 100000 in
theorem ats_open {H:Type} {enc:TypeId×Value→H} {W:World} {base:Nat} {spare:Nat→Bool} {held:Bool} {r:Reach} {b0:Nat} {v:Value} {d:DataW H} {p:List MemPlace}
  (hv:Value.okWide Tryz.prog W r b0 59 v) (h:DataW.Trod enc Tryz.prog W base spare held 59 v d p) :
  ∃ l:List At,l.length≤9223372036854775807∧RepD (memOf W) v (.sl (l.map At.c)):=by
 obtain ⟨a,len,cap,rfl⟩:=okWide_slice (e:=81) (by kernel_rfl) hv
 obtain ⟨fuel,h⟩:=h
 have h':DataW.trod enc Tryz.prog W base spare held fuel 59 [.slice a len cap]=some (d,p):=h
 have hcs:Tryz.prog.cellsOf 81=5:=by
  have:(Tryz.prog.cellsOf 81==5)=true:=by kernel_rfl
  simpa using this
 obtain ⟨l,l1,_,hr⟩:=slice_read At.c (fun _=>True) (e:=81) (by kernel_rfl) hcs (fun _=>rfl) (by decide) h' fun n2 hn2 cs y ht hcl=>by
  obtain ⟨u,hu⟩:=at_read ht hcl
  exact ⟨u,trivial,hu⟩
 exact ⟨l,l1,hr⟩
set_option maxRecDepth 100000 in
theorem regionRegions_lifted (os:Os) (started:os.Started) (H:Type) (enc:TypeId×Value→H) :
  ReturnsInHanded {} Tryz.checked os 5 .any (fun w args=>(Rows.regionRegionsSpec.pre enc Tryz.prog Tryz.f5 [] false w args∧laidMetH Tryz.prog laid5 w)∧sizedMet enc Tryz.prog Tryz.f5 (OpenSpec.ofChange Rows.regionRegionsSpec) false w args)
   (Rows.regionRegionsSpec.post enc Tryz.prog Tryz.f5 false true false false):=by
 refine lifted_shaped (C:=Tryz.checked) (X:=fun w _=>laidMetH Tryz.prog laid5 w) (fun _ _ _ hh h=>h.of_heap hh) own started (by kernel_rfl) Tryz.func5
  (ChangeSpec.witness_shaped (enc:=enc) (C:=Tryz.checked) (os:=os) (X:=fun w _=>laidMetH Tryz.prog laid5 w) false (World.doorLaid Tryz.prog 400 os) #[.slice none 0 0,.int .i64 0,.slice none 0 0] 8 rfl (World.shaped_of_RefB (by kernel_rfl) (by kernel_rfl)) (by kernel_rfl) (by kernel_rfl) (by kernel_rfl) (door5 os _)) ?_
 intro W base args ds gs before hval0 hW hs hL
 have hval:∀ (j:Nat) t v,Tryz.f5.params[j]?=some t→args[j]?=some v→Value.okWide Tryz.prog W .any base t v:=hval0
 have hW':=hW
 obtain ⟨p,q,hA0,hV,rfl,hfz,hnd⟩:=hW
 have hA:DataW.TrodAll enc Tryz.prog W 0 (fun _=>true) true Tryz.f5.params.toList args.toList ds p:=hA0
 rw [Tryz.params5] at hA hval
 obtain ⟨v0,v1,v2,d0,d1,d2,p0,p1,p2,rfl,rfl,rfl,h0,h1,h2⟩:=trodAll_three hA
 have hG:=of_laid5 hL hs
 obtain ⟨x0,r0⟩:=is_open (hval 0 _ v0 rfl rfl) h0
 obtain ⟨x1,rfl,rfl,rfl,w1⟩:=open_int (k:=.i64) (by kernel_rfl) (hval 1 _ v1 rfl rfl) h1
 obtain ⟨x2,f2,r2⟩:=ats_open (hval 2 _ v2 rfl rfl) h2
 refine (cf_call (region_regions x0 x1 x2 f2) (μ:=memOf W) (fun _ _ _ e=>e) (fun g cs e=>(hG g cs e).1) (fun g cs e=>(hG g cs e).2) (vs:=[v0,.int .i64 x1,v2]) ⟨_,_,rfl,by simp only [RepA]; exact r0,_,_,rfl,by simp only [RepA,RepD],_,_,rfl,by simp only [RepA]; exact r2,rfl⟩).mono fun e W' ⟨v,h',he,rv,hb⟩=>?_
 subst he
 simp only [RepA,RepD] at rv
 subst rv
 exact ⟨_,rfl,law_post hW' laidOut (by kernel_rfl) hb rfl (by kernel_rfl) Tryz.underlying4 rfl rfl rfl⟩
theorem regionRegions_row:Rows.RegionRegionsSaid :=
 OpenClaim.holds_of_wide 5 Tryz.f5 rfl rfl rfl rfl rfl rfl rfl ⟨rfl,rfl,rfl,rfl,rfl⟩ rfl rfl rfl rfl rfl (by kernel_rfl) Tryz.func5 (by kernel_rfl)
  (of_decide_eq_true (by kernel_rfl)) (by unfold Func.isWrapper; first | (rw [if_pos (by decide +kernel)]; kernel_rfl) | (rw [if_neg (by decide +kernel)]; exact ⟨rfl,rfl⟩))
  (fun os started H enc _=>regionRegions_lifted os started H enc)
set_option maxRecDepth 100000 in
theorem regionRegions_holds:Rows.RegionRegionsCardSaid :=
 Claim7.holds_tied_plain_at .later [] [.data, .data, .data, .data, .data] true (true, "ec116c0384e7ff5d3f9088b974799e67f70d18245b4015552e5432d676c565ae") false
  regionRegions_row (fun _ h=>by cases h) (by kernel_rfl) (fun _ h=>by cases h) regionRegions_row_tie rfl ⟨rfl,rfl⟩ (by kernel_rfl) rfl
  (fun f fn hf hfn=>by
   obtain rfl : f = 5 := Option.some.inj ((show Tryz.prog.funcNamed "querylab/querylablaw13.RegionRegions" = some 5 by kernel_rfl).symm.trans hf) |>.symm
   obtain rfl:fn=Tryz.f5:=(Option.some.inj (Tryz.func5.symm.trans hfn)).symm
   exact ⟨by kernel_rfl,fun j t ht=>by
    have hm:t∈Tryz.f5.params.toList:=by simpa using Array.mem_of_getElem? ht
    have hall:(Tryz.f5.params.toList.all fun u=>!Tryz.prog.wantsStandIn u)=true:=by kernel_rfl
    exact (show Tryz.prog.wantsStandIn t=false by simpa using List.all_eq_true.1 hall t hm)⟩)
  (by kernel_rfl)
#print axioms regionRegions_holds
end Go.Proofs.YtklnfckiabhceaaGreatDoor
