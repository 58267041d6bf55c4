/- PROVED: SqlBack returns true at every list of numbers and every statement of bulk at most 1048576, and its arguments read afterwards as before; the listed package-level variables begin as the program's text lays them (the card ties that). No other condition. -/
import Derived.Test.YthpmjipkofbeiaaGreatDoorUSbk
import Derived.Test.YthpmjipkofbeiaaGreatDoorSqzRow
set_option linter.all false
namespace Go.Proofs.YthpmjipkofbeiaaGreatDoor
open Go Go.ChangeMaps Go.ChangeShapes Go.WideShapes Go.ChangeAt Go.RowKit Go.Ab Go.Proofs.Tryz
set_option maxRecDepth 100000
def witArgs:Array Value:=#[.slice none 0 0,.agg #[.int .i64 0,.bool false,.bool false,.bool false,.slice none 0 0,.string ⟨#[]⟩,.slice none 0 0,.string ⟨#[]⟩,.slice none 0 0,.slice none 0 0,.slice none 0 0,.slice none 0 0,.slice none 0 0]]
theorem wit_reads (os:Os) {H:Type} (enc:TypeId×Value→H):∃ places,DataW.whole enc Tryz.prog ((World.doorLaid Tryz.prog 400 os).forCall (fun _ _=>0) ⟨#[],witArgs,[]⟩).memory Tryz.f4.params.toList Rows.sqlBackSpec.vars false witArgs.toList 8 =
  some ([.nil,.agg [.lit (.int .i64 0),.lit (.bool false),.lit (.bool false),.lit (.bool false),.nil,.agg [.lit (.string []),.nil,.lit (.string [])],.nil,.nil,.nil,.nil,.nil]],[],places) :=
 ⟨[],by kernel_rfl⟩
theorem sqlBack_lifted (os:Os) (started:os.Started) (H:Type) (enc:TypeId×Value→H) (F:Stop.Interp) :
  ReturnsInHanded {} Tryz.checked os 4 .any ((Rows.OpenSpec.upto Rows.sqlBackSpec).preRow enc Tryz.prog Tryz.f4 Rows.sqlBackUptoRow.domain false Rows.sqlBackUptoRow.laid)
   (((Rows.OpenSpec.upto Rows.sqlBackSpec).at F).post enc Tryz.prog Tryz.f4 false true false false):=by
 obtain ⟨places,hx⟩:=wit_reads os enc
 refine returnsInHanded_of_row (C:=Tryz.checked) (s:=Rows.OpenSpec.upto Rows.sqlBackSpec) own started (by kernel_rfl) Tryz.func4
  (witness_row_atRef (enc:=enc) (C:=Tryz.checked) false (World.doorLaid Tryz.prog 400 os) witArgs rfl (by kernel_rfl) (by kernel_rfl) (by kernel_rfl)
   (OpenSpec.preRow_of_cond 8 hx (by kernel_rfl) (fun k hk=>by cases hk; kernel_rfl) (by kernel_rfl) (aLM os _))) ?_
 intro W base args ds gs before hval0 hW _ hcond _ hL hs _
 have hval:∀ (j:Nat) t v,Tryz.f4.params[j]?=some t→args[j]?=some v→Value.okWide Tryz.prog W .any base t v:=hval0
 have hW':=hW
 obtain ⟨p,q,hA0,hV,rfl,hfz,hnd⟩:=hW
 have hA:DataW.TrodAll enc Tryz.prog W 0 (fun _=>true) true Tryz.f4.params.toList args.toList ds p:=hA0
 rw [Tryz.params4] at hA hval
 obtain ⟨v0,v1,d0,d1,p0,p1,rfl,rfl,rfl,h0,h1⟩:=trodAll_two hA
 have hG:=aDM hL hs
 obtain ⟨x0,r0⟩:=aIV (hval 0 _ v0 rfl rfl) h0
 obtain ⟨x,fx,wx,rx⟩:=aGs (hval 1 _ v1 rfl rfl) h1
 have hb:Rows.uptoBulkAll ([d0,d1]++gs)≤1048576:=of_decide_eq_true (hcond _ rfl)
 have hb1:Rows.uptoBulk d1≤1048576:=by
  simp only [List.cons_append,Rows.uptoBulkAll] at hb
  omega
 refine (aHM (aGb x0 x fx (by omega)) (μ:=iH W) (fun _ _ _ e=>e) (fun g cs e=>(hG g cs e).1) (fun g cs e=>(hG g cs e).2) (vs:=[v0,v1]) ⟨_,_,rfl,by simp only [aG]; exact r0,_,_,rfl,rx,rfl⟩).mono fun e W' ⟨v,h',he,rv,hb⟩=>?_
 subst he
 simp only [aG,aU] at rv
 subst rv
 exact ⟨_,rfl,aEM hW' aIU (by kernel_rfl) hb rfl (by kernel_rfl) Tryz.underlying4 rfl rfl rfl⟩
theorem sqlBack_row:Rows.SqlBackUptoSaid :=
 OpenClaim.holds_of_cond 4 Tryz.f4 rfl rfl rfl rfl rfl rfl rfl ⟨rfl,rfl,rfl,rfl,rfl⟩ rfl rfl rfl rfl rfl (by kernel_rfl) Tryz.func4 (by kernel_rfl)
  (of_decide_eq_true (by kernel_rfl)) (by unfold Func.isWrapper; first | (rw [if_pos (by decide +kernel)]; kernel_rfl) | (rw [if_neg (by decide +kernel)]; exact ⟨rfl,rfl⟩))
  (fun os started H enc _ F=>by rw [OpenClaim.pre_eq_preRow]; exact sqlBack_lifted os started H enc F)
set_option maxRecDepth 100000 in
theorem sqlBack_holds:Rows.SqlBackUptoCardSaid :=
 Claim7.holds_tied_plain_at .later [] [.data, .data, .data, .sentinel, .sentinel, .data, .data, .data, .data, .data] true (true, "cecca4d8fddfb324d66dbe24fae9c7096d0ce1fa60659a495ab0654b87835078") true
  sqlBack_row (fun _ h=>by cases h) (by kernel_rfl) (fun _ h=>by cases h) sqlBackUpto_row_tie rfl ⟨rfl,rfl⟩ (by kernel_rfl) rfl
  (fun f fn hf hfn=>by
   obtain rfl : f = 4 := Option.some.inj ((show Tryz.prog.funcNamed "querylab/querylablaw05.SqlBack" = some 4 by kernel_rfl).symm.trans hf) |>.symm
   obtain rfl:fn=Tryz.f4:=(Option.some.inj (Tryz.func4.symm.trans hfn)).symm
   exact ⟨by kernel_rfl,fun j t ht=>by
    have hm:t∈Tryz.f4.params.toList:=by simpa using Array.mem_of_getElem? ht
    have hall:(Tryz.f4.params.toList.all fun u=>!Tryz.prog.wantsStandIn u)=true:=by kernel_rfl
    exact (show Tryz.prog.wantsStandIn t=false by simpa using List.all_eq_true.1 hall t hm)⟩)
  (by kernel_rfl)
#print axioms sqlBack_holds
end Go.Proofs.YthpmjipkofbeiaaGreatDoor
