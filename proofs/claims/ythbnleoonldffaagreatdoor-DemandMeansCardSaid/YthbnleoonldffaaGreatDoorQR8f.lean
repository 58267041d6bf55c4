import Derived.Test.YthbnleoonldffaaGreatDoorQQyc
import Derived.Test.YthbnleoonldffaaGreatDoorQChq
import Derived.Test.YthbnleoonldffaaGreatDoorTye
import Derived.Test.YthbnleoonldffaaGreatDoorQHRow
import Derived.Test.YthbnleoonldffaaGreatDoorQExp
import Derived.Test.YthbnleoonldffaaGreatDoorQSmR
set_option linter.all false
namespace Go.Proofs.Tryz
open Go.Ab
set_option maxRecDepth 100000
set_option maxHeartbeats 16000000
structure aGK (S:List Tb) (T:Nat→List (List V)) (l:List Nat) (path:List Int) (n:Nat) (y:Nat×List V×Nat):Prop where
 le:y.1≤l.length
 z:y.1=0→y.2.1=[]
 row:∀ j,y.1=j+1→y.2.1=(pI S T l path n j).1
 num:y.1<l.length→y.2.2=(pI S T l path n y.1).2
theorem RY {α:Type} (T:Nat→α) {n k:Nat} (hk:k<n):∀ h,(bE T n)[k]'h=T k:=fun h=>by
 have:=bR T n k
 rw [if_pos hk,List.getElem?_eq_getElem h] at this
 exact Option.some.inj this
theorem aAl {S:List Tb} {T:Nat→List (List V)} {l:List Nat} {path:List Int} {n k:Nat} (h:l[0]?=some k):(pI S T l path n 0).1=[]++eO T k n:=by
 rw [pI,h]; rfl
theorem BC (op:Int) (tb:List UInt8) (kd:Int) (co:Ex) (ks:List Qy):(cH op tb kd co ks).size=jS (if op=3∨op=5 then wr (1+co.size) else 1) ks:=by
 unfold cH
 rw [Qy.size]
 have h1:(if op=4∨op=10 then ([]:List Ex) else [])=[]:=by split <;> rfl
 have h2:(if op=10 then ([]:List Ag).filter (fun a=>a.f != 1) else [])=[]:=by split <;> rfl
 rw [h1,h2]
 rfl
theorem qI {l:List Qy} {i:Nat} {x:Qy} (a:Int) (h:l[i]?=some x):jS a (l.drop i)=jS (IntKind.i64.wrap (a+x.size)) (l.drop (i+1)):=by
 obtain ⟨hi,rfl⟩:=List.getElem?_eq_some_iff.1 h
 rw [List.drop_eq_getElem_cons hi,jS]
 rfl
theorem HA (op:Int) (tb:List UInt8) (kd:Int) (co:Ex) (ks:List Qy):(cH op tb kd co ks).dep=iS 0 ks+1:=by unfold cH; rw [Qy.dep]
theorem PL {l:List Qy} {i:Nat} {x:Qy} (a:Nat) (h:l[i]?=some x):iS a (l.drop i)=iS (max a x.dep) (l.drop (i+1)):=by
 obtain ⟨hi,rfl⟩:=List.getElem?_eq_some_iff.1 h
 rw [List.drop_eq_getElem_cons hi,iS]
theorem aEf {op:Int} {tb:List UInt8} {kd:Int} {co:Ex} {ks:List Qy} (h:BA op tb kd co ks):ks.length≤2:=by
 rcases h.sh with h | h | h <;> omega
theorem BD {op:Int} {tb:List UInt8} {kd:Int} {co:Ex} {ks:List Qy} (h:BA op tb kd co ks) (hk:∀ k∈ks,Cf En 26 [k.a] [] (.d (.int .i64 k.size)) []):Cf En 26 [(cH op tb kd co ks).a] [] (.d (.int .i64 (cH op tb kd co ks).size)) []:=by
 have hl:=aEf h
 have hz:=GN (SizeOf.sizeOf co+1) co (by omega) (qF (SizeOf.sizeOf co+1) co (by omega) 0 h.few)
 rcases h.sh with ⟨rfl,rfl,rfl,_⟩ | ⟨rfl,rfl,rfl,_⟩ | ⟨rfl,rfl,rfl,_⟩
 ·-- op 1
  rw [BC,if_neg (by decide)]
  refine aD aW (fn:=Tryz.f26) (by kernel_rfl) rfl (by kernel_rfl) (by decide) (by simp) ?_
  generalize hres:jS 1 ks=res at *
  simp [cH,aG,Qy.a,Qy.c,aM,exZ0,Ex.a,Ex.c,aC,cA,hres]
  (repeat' first|contradiction|exact .ok|apply And.intro|intro _|(apply gc<;>simp+contextual))
  refine aL aW (by decide) (fun _:Unit=>{ s:=cG [(1,.ptr 1 0 0),(3,.d (.int .i64 1)),(4,.d (.int .i64 0))],b:=cE [(1,1,.var ((cH 1 tb 0 exZ0 ks).c.map AV.d))] }) (fun _=>True) (fun _=>0) () trivial (aE _ [(1,1,_)] ⟨by simp,by simp,by simp [aB,Blk.live,cH,aG,Qy.a,Qy.c,aM,exZ0,Ex.a,Ex.c,aC,cA],by simp⟩ (by simp [aB])) ?_
  intro _ _
  simp [cH,aG,Qy.a,Qy.c,aM,exZ0,Ex.a,Ex.c,aC,cA]
  (repeat' first|contradiction|exact .ok|apply And.intro|intro _|(apply gc<;>simp+contextual))
  refine aL aW (by decide) (fun _:Unit=>{ s:=cG [(1,.ptr 1 0 0),(3,.d (.int .i64 1)),(5,.d (.int .i64 0))],b:=cE [(1,1,.var ((cH 1 tb 0 exZ0 ks).c.map AV.d))] }) (fun _=>True) (fun _=>0) () trivial (aE _ [(1,1,_)] ⟨by simp,by simp,by simp [aB,Blk.live,cH,aG,Qy.a,Qy.c,aM,exZ0,Ex.a,Ex.c,aC,cA],by simp⟩ (by simp [aB])) ?_
  intro _ _
  simp [cH,aG,Qy.a,Qy.c,aM,exZ0,Ex.a,Ex.c,aC,cA]
  (repeat' first|contradiction|exact .ok|apply And.intro|intro _|(apply gc<;>simp+contextual))
  refine aL aW (by decide) (fun _:Unit=>{ s:=cG [(1,.ptr 1 0 0),(3,.d (.int .i64 1)),(6,.d (.int .i64 0))],b:=cE [(1,1,.var ((cH 1 tb 0 exZ0 ks).c.map AV.d))] }) (fun _=>True) (fun _=>0) () trivial (aE _ [(1,1,_)] ⟨by simp,by simp,by simp [aB,Blk.live,cH,aG,Qy.a,Qy.c,aM,exZ0,Ex.a,Ex.c,aC,cA],by simp⟩ (by simp [aB])) ?_
  intro _ _
  simp [cH,aG,Qy.a,Qy.c,aM,exZ0,Ex.a,Ex.c,aC,cA]
  (repeat' first|contradiction|exact .ok|apply And.intro|intro _|(apply gc<;>simp+contextual))
  refine aL aW (by decide) (fun p:Nat×Int=>{ s:=cG [(1,.ptr 1 0 0),(3,.d (.int .i64 p.2)),(7,.d (.int .i64 p.1))],b:=cE [(1,1,.var ((cH 1 tb 0 exZ0 ks).c.map AV.d))] }) (fun p=>p.1≤ks.length∧jS p.2 (ks.drop p.1)=res) (fun p=>ks.length - p.1) (0,1) (by simp [hres]) (aE _ [(1,1,_)] ⟨by simp,by simp,by simp [aB,Blk.live,cH,aG,Qy.a,Qy.c,aM,exZ0,Ex.a,Ex.c,aC,cA],by simp⟩ (by simp [aB])) ?_
  rintro ⟨i,acc⟩ ⟨hi,ho⟩
  simp only at hi ho
  by_cases hlt:i<ks.length
  ·have hlt':(i:Int)<ks.length:=by omega
   have hg:ks[i]?=some ks[i]:=List.getElem?_eq_getElem hlt
   have hdr:=qI acc hg
   have hw:=aH (n:=(i:Int)+1) (by omega) (by omega)
   simp [cH,aG,Qy.a,Qy.c,aM,exZ0,Ex.a,Ex.c,aC,cA,hlt,hlt',hg,Qy.clen,Qy.ctake]
   (repeat' first|contradiction|exact .ok|apply And.intro|intro _|(apply gc<;>simp+contextual))
   refine aA (hk ks[i] (List.getElem_mem hlt)) (by simp [Qy.a,Qy.ctake]) ?_
   simp
   (repeat' first|contradiction|exact .ok|apply And.intro|intro _|(apply gc<;>simp+contextual))
   refine ⟨(i+1,IntKind.i64.wrap (acc+ks[i].size)),⟨hlt,?_⟩,?_,?_⟩
   ·rw [← ho,hdr]
   ·exact aE _ [(1,1,_)] ⟨by simp,by simp,by simp [aB,Blk.live,cH,aG,Qy.a,Qy.c,aM,exZ0,Ex.a,Ex.c,aC,cA],by simp⟩ (by simp [aB,hw])
   ·simp; omega
  ·have hlt':¬ (i:Int)<ks.length:=by omega
   have hacc:acc=res:=by rw [← ho,List.drop_eq_nil_of_le (by omega)]; rfl
   simp [cH,aG,Qy.a,Qy.c,aM,exZ0,Ex.a,Ex.c,aC,cA,hlt,hlt',hacc]
   all_goals exact gz
 ·-- op 5
  rw [BC,if_pos (by decide)]
  refine aD aW (fn:=Tryz.f26) (by kernel_rfl) rfl (by kernel_rfl) (by decide) (by simp) ?_
  obtain ⟨o,c,n,t,g,k⟩:=co
  generalize (Ex.mk o c n t g k).size=z at *
  generalize hA:(wr (1+z))=A at *
  generalize hres:jS A ks=res at *
  simp [cH,aG,Qy.a,Qy.c,aM,Ex.a,Ex.c,aC,hres] at hz ⊢
  (repeat' first|contradiction|exact .ok|apply And.intro|intro _|(apply gc<;>simp+contextual))
  refine aA hz (by simp) ?_
  simp
  (repeat' first|contradiction|exact .ok|apply And.intro|intro _|(apply gc<;>simp+contextual))
  refine aL aW (by decide) (fun _:Unit=>{ s:=cG [(1,.ptr 1 0 0),(3,.d (.int .i64 A)),(4,.d (.int .i64 0))],b:=cE [(1,1,.var ((cH 5 ([]:List UInt8) 1 (.mk o c n t g k) ks).c.map AV.d))] }) (fun _=>True) (fun _=>0) () trivial (aE _ [(1,1,_)] ⟨by simp,by simp,by simp [aB,Blk.live,cH,aG,Qy.a,Qy.c,aM,Ex.a,Ex.c,aC],by simp⟩ (by simp [aB,← hA,wr])) ?_
  intro _ _
  simp [cH,aG,Qy.a,Qy.c,aM,Ex.a,Ex.c,aC]
  (repeat' first|contradiction|exact .ok|apply And.intro|intro _|(apply gc<;>simp+contextual))
  refine aL aW (by decide) (fun _:Unit=>{ s:=cG [(1,.ptr 1 0 0),(3,.d (.int .i64 A)),(5,.d (.int .i64 0))],b:=cE [(1,1,.var ((cH 5 ([]:List UInt8) 1 (.mk o c n t g k) ks).c.map AV.d))] }) (fun _=>True) (fun _=>0) () trivial (aE _ [(1,1,_)] ⟨by simp,by simp,by simp [aB,Blk.live,cH,aG,Qy.a,Qy.c,aM,Ex.a,Ex.c,aC],by simp⟩ (by simp [aB])) ?_
  intro _ _
  simp [cH,aG,Qy.a,Qy.c,aM,Ex.a,Ex.c,aC]
  (repeat' first|contradiction|exact .ok|apply And.intro|intro _|(apply gc<;>simp+contextual))
  refine aL aW (by decide) (fun _:Unit=>{ s:=cG [(1,.ptr 1 0 0),(3,.d (.int .i64 A)),(6,.d (.int .i64 0))],b:=cE [(1,1,.var ((cH 5 ([]:List UInt8) 1 (.mk o c n t g k) ks).c.map AV.d))] }) (fun _=>True) (fun _=>0) () trivial (aE _ [(1,1,_)] ⟨by simp,by simp,by simp [aB,Blk.live,cH,aG,Qy.a,Qy.c,aM,Ex.a,Ex.c,aC],by simp⟩ (by simp [aB])) ?_
  intro _ _
  simp [cH,aG,Qy.a,Qy.c,aM,Ex.a,Ex.c,aC]
  (repeat' first|contradiction|exact .ok|apply And.intro|intro _|(apply gc<;>simp+contextual))
  refine aL aW (by decide) (fun p:Nat×Int=>{ s:=cG [(1,.ptr 1 0 0),(3,.d (.int .i64 p.2)),(7,.d (.int .i64 p.1))],b:=cE [(1,1,.var ((cH 5 ([]:List UInt8) 1 (.mk o c n t g k) ks).c.map AV.d))] }) (fun p=>p.1≤ks.length∧jS p.2 (ks.drop p.1)=res) (fun p=>ks.length - p.1) (0,A) (by simp [hres]) (aE _ [(1,1,_)] ⟨by simp,by simp,by simp [aB,Blk.live,cH,aG,Qy.a,Qy.c,aM,Ex.a,Ex.c,aC],by simp⟩ (by simp [aB])) ?_
  rintro ⟨i,acc⟩ ⟨hi,ho⟩
  simp only at hi ho
  by_cases hlt:i<ks.length
  ·have hlt':(i:Int)<ks.length:=by omega
   have hg:ks[i]?=some ks[i]:=List.getElem?_eq_getElem hlt
   have hdr:=qI acc hg
   have hw:=aH (n:=(i:Int)+1) (by omega) (by omega)
   simp [cH,aG,Qy.a,Qy.c,aM,Ex.a,Ex.c,aC,hlt,hlt',hg,Qy.clen,Qy.ctake]
   (repeat' first|contradiction|exact .ok|apply And.intro|intro _|(apply gc<;>simp+contextual))
   refine aA (hk ks[i] (List.getElem_mem hlt)) (by simp [Qy.a,Qy.ctake]) ?_
   simp
   (repeat' first|contradiction|exact .ok|apply And.intro|intro _|(apply gc<;>simp+contextual))
   refine ⟨(i+1,IntKind.i64.wrap (acc+ks[i].size)),⟨hlt,?_⟩,?_,?_⟩
   ·rw [← ho,hdr]
   ·exact aE _ [(1,1,_)] ⟨by simp,by simp,by simp [aB,Blk.live,cH,aG,Qy.a,Qy.c,aM,Ex.a,Ex.c,aC],by simp⟩ (by simp [aB,hw])
   ·simp; omega
  ·have hlt':¬ (i:Int)<ks.length:=by omega
   have hacc:acc=res:=by rw [← ho,List.drop_eq_nil_of_le (by omega)]; rfl
   simp [cH,aG,Qy.a,Qy.c,aM,Ex.a,Ex.c,aC,hlt,hlt',hacc]
   all_goals exact gz
 ·-- op 3
  rw [BC,if_pos (by decide)]
  refine aD aW (fn:=Tryz.f26) (by kernel_rfl) rfl (by kernel_rfl) (by decide) (by simp) ?_
  obtain ⟨o,c,n,t,g,k⟩:=co
  generalize (Ex.mk o c n t g k).size=z at *
  generalize hA:(wr (1+z))=A at *
  generalize hres:jS A ks=res at *
  simp [cH,aG,Qy.a,Qy.c,aM,Ex.a,Ex.c,aC,hres] at hz ⊢
  (repeat' first|contradiction|exact .ok|apply And.intro|intro _|(apply gc<;>simp+contextual))
  refine aA hz (by simp) ?_
  simp
  (repeat' first|contradiction|exact .ok|apply And.intro|intro _|(apply gc<;>simp+contextual))
  refine aL aW (by decide) (fun _:Unit=>{ s:=cG [(1,.ptr 1 0 0),(3,.d (.int .i64 A)),(4,.d (.int .i64 0))],b:=cE [(1,1,.var ((cH 3 ([]:List UInt8) 0 (.mk o c n t g k) ks).c.map AV.d))] }) (fun _=>True) (fun _=>0) () trivial (aE _ [(1,1,_)] ⟨by simp,by simp,by simp [aB,Blk.live,cH,aG,Qy.a,Qy.c,aM,Ex.a,Ex.c,aC],by simp⟩ (by simp [aB,← hA,wr])) ?_
  intro _ _
  simp [cH,aG,Qy.a,Qy.c,aM,Ex.a,Ex.c,aC]
  (repeat' first|contradiction|exact .ok|apply And.intro|intro _|(apply gc<;>simp+contextual))
  refine aL aW (by decide) (fun _:Unit=>{ s:=cG [(1,.ptr 1 0 0),(3,.d (.int .i64 A)),(5,.d (.int .i64 0))],b:=cE [(1,1,.var ((cH 3 ([]:List UInt8) 0 (.mk o c n t g k) ks).c.map AV.d))] }) (fun _=>True) (fun _=>0) () trivial (aE _ [(1,1,_)] ⟨by simp,by simp,by simp [aB,Blk.live,cH,aG,Qy.a,Qy.c,aM,Ex.a,Ex.c,aC],by simp⟩ (by simp [aB])) ?_
  intro _ _
  simp [cH,aG,Qy.a,Qy.c,aM,Ex.a,Ex.c,aC]
  (repeat' first|contradiction|exact .ok|apply And.intro|intro _|(apply gc<;>simp+contextual))
  refine aL aW (by decide) (fun _:Unit=>{ s:=cG [(1,.ptr 1 0 0),(3,.d (.int .i64 A)),(6,.d (.int .i64 0))],b:=cE [(1,1,.var ((cH 3 ([]:List UInt8) 0 (.mk o c n t g k) ks).c.map AV.d))] }) (fun _=>True) (fun _=>0) () trivial (aE _ [(1,1,_)] ⟨by simp,by simp,by simp [aB,Blk.live,cH,aG,Qy.a,Qy.c,aM,Ex.a,Ex.c,aC],by simp⟩ (by simp [aB])) ?_
  intro _ _
  simp [cH,aG,Qy.a,Qy.c,aM,Ex.a,Ex.c,aC]
  (repeat' first|contradiction|exact .ok|apply And.intro|intro _|(apply gc<;>simp+contextual))
  refine aL aW (by decide) (fun p:Nat×Int=>{ s:=cG [(1,.ptr 1 0 0),(3,.d (.int .i64 p.2)),(7,.d (.int .i64 p.1))],b:=cE [(1,1,.var ((cH 3 ([]:List UInt8) 0 (.mk o c n t g k) ks).c.map AV.d))] }) (fun p=>p.1≤ks.length∧jS p.2 (ks.drop p.1)=res) (fun p=>ks.length - p.1) (0,A) (by simp [hres]) (aE _ [(1,1,_)] ⟨by simp,by simp,by simp [aB,Blk.live,cH,aG,Qy.a,Qy.c,aM,Ex.a,Ex.c,aC],by simp⟩ (by simp [aB])) ?_
  rintro ⟨i,acc⟩ ⟨hi,ho⟩
  simp only at hi ho
  by_cases hlt:i<ks.length
  ·have hlt':(i:Int)<ks.length:=by omega
   have hg:ks[i]?=some ks[i]:=List.getElem?_eq_getElem hlt
   have hdr:=qI acc hg
   have hw:=aH (n:=(i:Int)+1) (by omega) (by omega)
   simp [cH,aG,Qy.a,Qy.c,aM,Ex.a,Ex.c,aC,hlt,hlt',hg,Qy.clen,Qy.ctake]
   (repeat' first|contradiction|exact .ok|apply And.intro|intro _|(apply gc<;>simp+contextual))
   refine aA (hk ks[i] (List.getElem_mem hlt)) (by simp [Qy.a,Qy.ctake]) ?_
   simp
   (repeat' first|contradiction|exact .ok|apply And.intro|intro _|(apply gc<;>simp+contextual))
   refine ⟨(i+1,IntKind.i64.wrap (acc+ks[i].size)),⟨hlt,?_⟩,?_,?_⟩
   ·rw [← ho,hdr]
   ·exact aE _ [(1,1,_)] ⟨by simp,by simp,by simp [aB,Blk.live,cH,aG,Qy.a,Qy.c,aM,Ex.a,Ex.c,aC],by simp⟩ (by simp [aB,hw])
   ·simp; omega
  ·have hlt':¬ (i:Int)<ks.length:=by omega
   have hacc:acc=res:=by rw [← ho,List.drop_eq_nil_of_le (by omega)]; rfl
   simp [cH,aG,Qy.a,Qy.c,aM,Ex.a,Ex.c,aC,hlt,hlt',hacc]
   all_goals exact gz
theorem aCx {q:Qy} (h:CQ q):Cf En 26 [q.a] [] (.d (.int .i64 q.size)) []:=by
 induction h with
 | scan n=>exact BD ⟨ZT,.inl ⟨rfl,rfl,rfl,rfl⟩⟩ (by simp)
 | join e he a b ha hb iha ihb=>exact BD ⟨he,.inr (.inl ⟨rfl,rfl,rfl,rfl⟩)⟩ (by intro k hk; simp at hk; rcases hk with rfl | rfl; exact iha; exact ihb)
 | sel e he a ha iha=>exact BD ⟨he,.inr (.inr ⟨rfl,rfl,rfl,rfl⟩)⟩ (by intro k hk; simp at hk; subst hk; exact iha)
theorem vY {op:Int} {tb:List UInt8} {kd:Int} {co:Ex} {ks:List Qy} (hl:ks.length≤1000) (hb:iS 0 ks≤1000000) (hk:∀ k∈ks,Cf En 35 [k.a] [] (.d (.int .i64 k.dep)) []):Cf En 35 [(cH op tb kd co ks).a] [] (.d (.int .i64 (cH op tb kd co ks).dep)) []:=by
 rw [HA]
 obtain ⟨o,c,n,t,g,k⟩:=co
 refine aD aW (fn:=Tryz.f35) (by kernel_rfl) rfl (by kernel_rfl) (by decide) (by simp) ?_
 generalize hres:iS 0 ks=res at *
 simp [cH,aG,Qy.a,Qy.c,aM,Ex.a,Ex.c,aC]
 (repeat' first|contradiction|exact .ok|apply And.intro|intro _|(apply gc<;>simp+contextual))
 refine aL aW (by decide) (fun p:Nat×Nat=>{ s:=cG [(1,.ptr 1 0 0),(3,.d (.int .i64 p.2)),(4,.d (.int .i64 p.1))],b:=cE [(1,1,.var ((cH op tb kd (.mk o c n t g k) ks).c.map AV.d))] }) (fun p=>p.1≤ks.length∧iS p.2 (ks.drop p.1)=res) (fun p=>ks.length - p.1) (0,0) (by simp [hres]) (aE _ [(1,1,_)] ⟨by simp,by simp,by simp [aB,Blk.live,cH,aG,Qy.c,aM,Ex.c,aC],by simp⟩ (by simp [aB])) ?_
 rintro ⟨i,acc⟩ ⟨hi,ho⟩
 simp only at hi ho
 by_cases hlt:i<ks.length
 ·have hlt':(i:Int)<ks.length:=by omega
  have hg:ks[i]?=some ks[i]:=List.getElem?_eq_getElem hlt
  have hdr:=PL acc hg
  have hw:=aH (n:=(i:Int)+1) (by omega) (by omega)
  simp [cH,aG,Qy.a,Qy.c,aM,Ex.a,Ex.c,aC,hlt,hlt',hg,Qy.clen,Qy.ctake]
  (repeat' first|contradiction|exact .ok|apply And.intro|intro _|(apply gc<;>simp+contextual))
  refine aA (hk ks[i] (List.getElem_mem hlt)) (by simp [Qy.a,Qy.ctake]) ?_
  simp
  (repeat' first|contradiction|exact .ok|apply And.intro|intro _|(apply gc<;>simp+contextual))
  refine ⟨(i+1,max acc ks[i].dep),⟨hlt,?_⟩,?_,?_⟩
  ·rw [← ho,hdr]
  ·refine aE _ [(1,1,_)] ⟨by simp,by simp,by simp [aB,Blk.live,cH,aG,Qy.c,aM,Ex.c,aC],by simp⟩ ?_
   simp [aB]
   refine ⟨?_,hw⟩
   split <;> omega
  ·simp; omega
 ·have hlt':¬ (i:Int)<ks.length:=by omega
  have hacc:acc=res:=by rw [← ho,List.drop_eq_nil_of_le (by omega)]; rfl
  have hw:=aH (n:=(res:Int)+1) (by omega) (by omega)
  simp [cH,aG,Qy.a,Qy.c,aM,Ex.a,Ex.c,aC,hlt,hlt',hacc,hw]
  all_goals exact gz
theorem ZU {q:Qy} (h:CQ q) (hd:q.dep≤1000000):Cf En 35 [q.a] [] (.d (.int .i64 q.dep)) []:=by
 induction h with
 | scan n=>exact vY (by simp) (by simp [iS]) (by simp)
 | join e he a b ha hb iha ihb =>
   rw [HA] at hd
   simp only [iS] at hd
   exact vY (by simp) (by simp only [iS]; omega) (by intro k hk; simp at hk; rcases hk with rfl | rfl; exact iha (by omega); exact ihb (by omega))
 | sel e he a ha iha =>
   rw [HA] at hd
   simp only [iS] at hd
   exact vY (by simp) (by simp only [iS]; omega) (by intro k hk; simp at hk; subst hk; exact iha (by omega))
theorem HB {op:Int} {tb:List UInt8} {kd:Int} {co:Ex} {ks:List Qy} (h:BA op tb kd co ks):Cf En 84 [.d (.int .i64 op)] [] (.d (.int .i64 ks.length)) []:=by
 rcases h.sh with ⟨rfl,_,_,hl⟩ | ⟨rfl,_,_,hl⟩ | ⟨rfl,_,_,hl⟩
 ·rw [hl]
  refine aD aW (fn:=Tryz.f84) (by kernel_rfl) rfl (by kernel_rfl) (by decide) (by simp) ?_
  simp
  all_goals exact gz
 ·rw [hl]
  refine aD aW (fn:=Tryz.f84) (by kernel_rfl) rfl (by kernel_rfl) (by decide) (by simp) ?_
  simp
  all_goals exact gz
 ·rw [hl]
  refine aD aW (fn:=Tryz.f84) (by kernel_rfl) rfl (by kernel_rfl) (by decide) (by simp) ?_
  simp
  all_goals exact gz
theorem RU {ts:List Int} (hts:ts.length≤1000) {e:Ex} (he:e.few 0=true):Cf En 86 [.d (.sl (aG ts)),e.a] [] (.d (.int .i64 (ZQ ts e))) []:=by
 have ht:=HQ hts he
 have hel:=Ex.clen e
 have het:=Ex.ctake e
 unfold ZQ
 generalize mP ts e=r at *
 obtain ⟨a,b⟩:=r
 simp only at ht ⊢
 generalize aG ts=Z at *
 by_cases h1:b=0
 ·subst h1
  by_cases h2:a=2
  ·subst h2
   refine aD aW (fn:=Tryz.f86) (by kernel_rfl) rfl (by kernel_rfl) (by decide) (by simp) ?_
   simp [Ex.a,hel,het]
   (repeat' first|contradiction|exact .ok|apply And.intro|intro _|(apply gc<;>simp+contextual))
   refine aA ht (by simp [Ex.a,het]) ?_
   simp
   all_goals exact gz
  ·refine aD aW (fn:=Tryz.f86) (by kernel_rfl) rfl (by kernel_rfl) (by decide) (by simp) ?_
   simp [Ex.a,hel,het,h2]
   (repeat' first|contradiction|exact .ok|apply And.intro|intro _|(apply gc<;>simp+contextual))
   refine aA ht (by simp [Ex.a,het]) ?_
   simp [h2]
   all_goals exact gz
 ·refine aD aW (fn:=Tryz.f86) (by kernel_rfl) rfl (by kernel_rfl) (by decide) (by simp) ?_
  simp [Ex.a,hel,het,h1]
  (repeat' first|contradiction|exact .ok|apply And.intro|intro _|(apply gc<;>simp+contextual))
  refine aA ht (by simp [Ex.a,het]) ?_
  simp [h1]
  all_goals exact gz
theorem aCv {a b:List Int} (ha:a.length≤1000) (hb:b.length≤1000) (h24:a.length+b.length≤24) {e:Ex} (he:e.few 0=true) (ks:List Qy):Cf En 88 [.d (.sl (aG a)),.d (.sl (aG b)),(cH 5 [] 1 e ks).a] [] (.tup [.d (.sl (aG (if ZQ (a++b) e ≠ 0 then [] else a++b))),.d (.int .i64 (ZQ (a++b) e))]) []:=by
 have hc:=RU (ts:=a++b) (by simp; omega) he
 have h1:=eI a.length (by omega) 8 (by decide)
 have h2:=eI b.length (by omega) 8 (by decide)
 have h3:=eI (a.length+b.length) (by omega) 8 (by decide)
 have hca:∀ x∈aG a,x.length=1:=by intro x hx; simp only [aG,List.mem_map] at hx; obtain ⟨_,_,rfl⟩:=hx; rfl
 have hcb:∀ x∈aG b,x.length=1:=by intro x hx; simp only [aG,List.mem_map] at hx; obtain ⟨_,_,rfl⟩:=hx; rfl
 have hla:(aG a).length=a.length:=by simp [aG]
 have hlb:(aG b).length=b.length:=by simp [aG]
 have happ:aG (a++b)=aG a++aG b:=by simp [aG]
 have ht:(aG a++aG b).take (a.length+b.length)=aG a++aG b:=List.take_of_length_le (by simp [hla,hlb])
 have ht1:(aG a).take a.length=aG a:=List.take_of_length_le (by simp [hla])
 have hi1:¬ (24:Int)<(a.length:Int)+b.length:=by omega
 have hw:=aH (n:=(a.length:Int)+b.length) (by omega) (by omega)
 obtain ⟨o,c,n,t,g,k⟩:=e
 generalize ZQ (a++b) (.mk o c n t g k)=z at *
 by_cases hz:z=0
 ·subst hz
  rw [if_neg (by simp)]
  rw [happ] at hc ⊢
  generalize aG a=A at *
  generalize aG b=B at *
  refine aD aW (fn:=Tryz.f88) (by kernel_rfl) rfl (by kernel_rfl) (by decide) (by simp) ?_
  simp [cH,Qy.a,Qy.c,aM,Ex.a,Ex.c,aC,hla,hlb,h1,h2,h3,hw,hi1,ht1,ht,eq_true hca,eq_true hcb]
  (repeat' first|contradiction|exact .ok|apply And.intro|intro _|(apply gc<;>simp+contextual))
  refine aA hc (by simp [Ex.a,Ex.c,aC,hla,hlb,ht]) ?_
  simp [hla,hlb,ht]
  all_goals exact gz
 ·rw [if_pos hz]
  rw [happ] at hc
  generalize aG a=A at *
  generalize aG b=B at *
  refine aD aW (fn:=Tryz.f88) (by kernel_rfl) rfl (by kernel_rfl) (by decide) (by simp) ?_
  simp [cH,Qy.a,Qy.c,aM,Ex.a,Ex.c,aC,hla,hlb,h1,h2,h3,hw,hi1,ht1,ht,eq_true hca,eq_true hcb]
  (repeat' first|contradiction|exact .ok|apply And.intro|intro _|(apply gc<;>simp+contextual))
  refine aA hc (by simp [Ex.a,Ex.c,aC,hla,hlb,ht]) ?_
  simp [hz,aG]
  all_goals exact gz
theorem UX {x:Tb} (h:eY x=true):dE x (fU x.pr)=1∧x.un=[]∧∀ f∈x.fk,dE x (fU f.cols)=1:=by
 unfold eY VW at h
 simp only [Bool.and_eq_true,beq_iff_eq] at h
 obtain ⟨⟨_,h1,h2⟩,h3,_⟩:=h
 refine ⟨h1,by simpa using h2,fun f hf=>?_⟩
 have:=((BG h3).1 f hf).1
 unfold PC at this
 simp only [Bool.and_eq_true,beq_iff_eq] at this
 exact this.2.1
theorem BH {n:Int} (h:-1000000000000≤n∧n≤1000000000000):(kJ n).valid=true:=by
 unfold kJ V.valid
 simp [h.1,h.2]
theorem aAi {S:List Tb} {T:Nat→List (List V)} {x:Tb} (hK:uN x) (hp:eY x=true) {n:Nat} {row:List V} (h:EJ S T x n row) (hn:n<1000000) (hT:∀ f∈x.fk,(T (lG S f)).length≤1000000) :
  ∀ c v,row[c]?=some v→aDe x c v:=fun c v hv=>by
 have hc:c<x.cols.length:=by
  have:=(List.getElem?_eq_some_iff.1 hv).1
  rwa [h.len] at this
 obtain ⟨t1,_,t2⟩:=UX hp
 cases hk:dJ x c with
 | false=>exact h.val c hc hk v hv
 | true =>
   unfold dJ at hk
   rw [Bool.or_eq_true] at hk
   rcases hk with hk | hk
   ·obtain ⟨p,hpe,hpl⟩:=hK.pr
    rw [hpe] at hk t1
    have hcp:c=p:=by
     have:(c:Int)=p:=by simpa using hk
     omega
    subst hcp
    have hr:=h.pr
    rw [hpe] at hr
    simp only [fU,List.headD_cons,Int.toNat_natCast] at hr t1
    rw [hv,Option.some.injEq] at hr
    subst hr
    exact ⟨BH (by omega),.inl (by rw [← LD hc,t1]; rfl)⟩
   ·obtain ⟨f,hf,hk⟩:=List.any_eq_true.1 hk
    obtain ⟨d,hde,hdl,_⟩:=hK.fk f hf
    have ht:=t2 f hf
    obtain ⟨q,hq,hql⟩:=h.fk f hf
    rw [hde] at hk ht hq
    have hcd:c=d:=by
     have:(c:Int)=d:=by simpa using hk
     omega
    subst hcd
    simp only [fU,List.headD_cons,Int.toNat_natCast] at hq ht
    rw [hv,Option.some.injEq] at hq
    subst hq
    have:=hT f hf
    exact ⟨BH (by omega),.inl (by rw [← LD hc,ht]; rfl)⟩
theorem aCz {S:List Tb} {I:List (List (List V))} (hl:S.length≤1000) (hIl:I.length=S.length) (hv:Cf Es 23 [aR S] [] (.d (.int .i64 0)) []) (hI:∀ (k:Nat) (x:Tb) (T:List (List V)),S[k]?=some x→I[k]?=some T→x.cols.length≤1000∧T.length≤200∧∀ row∈T,row.length=x.cols.length∧∀ (c:Nat) (v:V) (u:Col),row[c]?=some v→x.cols[c]?=some u→v.valid=true∧(v.k=0∨v.k=u.t)) :
  Cf Es 53 [aR S,dK I] [] (.d (.int .i64 0)) []:=by
 have hIi:(I.length:Int)=S.length:=by omega
 refine aD cF (fn:=Tryz.f53) (by kernel_rfl) rfl (by kernel_rfl) (by decide) (by simp) ?_
 simp [aR,dK]
 (repeat' first|contradiction|exact .ok|apply And.intro|intro _|(apply gc<;>simp+contextual))
 refine aA hv (by simp [aR]) ?_
 simp [hIl]
 (repeat' first|contradiction|exact .ok|apply And.intro|intro _|(apply gc<;>simp+contextual[hIl]))
 refine aL cF (by decide) (fun k:Nat=>{ s:=cG [(2,.ptr 2 0 0),(3,.ptr 3 0 0),(6,.d (.int .i64 k))],b:=cE [(2,2,.var [.d (.sl (S.map Tb.c))]),(3,3,.var [.d (.sl (I.map gM))])] }) (fun k=>k≤S.length) (fun k=>S.length - k) 0 (by simp)
  (aE _ [(2,2,_),(3,3,_)] ⟨by simp,by simp,by simp [aB,Blk.live],by simp⟩ (by simp [aB])) ?_
 intro k hk
 by_cases hkS:k<S.length
 ·have hkI:k<I.length:=by omega
  obtain ⟨x,hx⟩:∃ x,x=S[k]:=⟨_,rfl⟩
  have hgx:∀ h,S[k]'h=x:=fun _=>hx.symm
  obtain ⟨T,hT⟩:∃ x,x=I[k]:=⟨_,rfl⟩
  have hgT:∀ h,I[k]'h=T:=fun _=>hT.symm
  obtain ⟨hcl,hTl,hrow⟩:=hI k x T (by rw [List.getElem?_eq_getElem hkS,hx]) (by rw [List.getElem?_eq_getElem hkI,hT])
  have hw:=aH (n:=(k:Int)+1) (by omega) (by omega)
  have hTn:¬ (200:Int)<T.length:=by omega
  have hTnn:¬ 200<T.length:=by omega
  clear hI
  simp [hkS,hkI,hgT,gM,hTn,hTnn]
  (repeat' first|contradiction|exact .ok|apply And.intro|intro _|(apply gc<;>simp+contextual[hTn,hTnn]))
  refine aL cF (by decide) (fun r:Nat=>{ s:=cG [(2,.ptr 2 0 0),(3,.ptr 3 0 0),(6,.d (.int .i64 k)),(7,.d (.int .i64 r))],b:=cE [(2,2,.var [.d (.sl (S.map Tb.c))]),(3,3,.var [.d (.sl (I.map gM))])] }) (fun r=>r≤T.length) (fun r=>T.length - r) 0 (by simp)
   (aE _ [(2,2,_),(3,3,_)] ⟨by simp,by simp,by simp [aB,Blk.live],by simp⟩ (by simp [aB])) ?_
  intro r hr
  by_cases hrT:r<T.length
  ·obtain ⟨row,hro⟩:∃ x,x=T[r]:=⟨_,rfl⟩
   have hgr:∀ h,T[r]'h=row:=fun _=>hro.symm
   obtain ⟨hrl,hval⟩:=hrow row (by rw [hro]; exact List.getElem_mem hrT)
   have hrli:(row.length:Int)=x.cols.length:=by omega
   have hwr:=aH (n:=(r:Int)+1) (by omega) (by omega)
   simp [hkS,hkI,hgT,hgx,gM,hrT,hgr,cC,Tb.c,hrl]
   (repeat' first|contradiction|exact .ok|apply And.intro|intro _|(apply gc<;>simp+contextual[hrl]))
   refine aL cF (by decide) (fun c:Nat=>{ s:=cG [(2,.ptr 2 0 0),(3,.ptr 3 0 0),(6,.d (.int .i64 k)),(7,.d (.int .i64 r)),(8,.d (.sl (row.map V.c))),(9,.d (.int .i64 c))],b:=cE [(2,2,.var [.d (.sl (S.map Tb.c))]),(3,3,.var [.d (.sl (I.map gM))])] }) (fun c=>c≤row.length) (fun c=>row.length - c) 0 (by simp)
    (aE _ [(2,2,_),(3,3,_)] ⟨by simp,by simp,by simp [aB,Blk.live],by simp⟩ (by simp [aB])) ?_
   intro c hc
   by_cases hcr:c<row.length
   ·have hcx:c<x.cols.length:=by omega
    obtain ⟨v,hv⟩:∃ x,x=row[c]:=⟨_,rfl⟩
    have hgv:∀ h,row[c]'h=v:=fun _=>hv.symm
    obtain ⟨u,hu⟩:∃ y,y=x.cols[c]:=⟨_,rfl⟩
    have hgu:∀ h,x.cols[c]'h=u:=fun _=>hu.symm
    obtain ⟨v1,v2⟩:=hval c v u (by rw [List.getElem?_eq_getElem hcr,hv]) (by rw [List.getElem?_eq_getElem hcx,hu])
    have hva:=gL (rF v)
    rw [v1] at hva
    have hwc:=aH (n:=(c:Int)+1) (by omega) (by omega)
    by_cases k0:v.k=0
    ·simp [hcr,hgv,V.c]
     (repeat' first|contradiction|exact .ok|apply And.intro|intro _|(apply gc<;>simp+contextual))
     refine aA hva (by simp [V.a]) ?_
     simp [hcr,hgv,V.c,k0]
     (repeat' first|contradiction|exact .ok|apply And.intro|intro _|(apply gc<;>simp+contextual[k0]))
     refine ⟨c+1,by omega,?_,by simp; omega⟩
     exact aE _ [(2,2,_),(3,3,_)] ⟨by simp,by simp,by simp [aB,Blk.live],by simp⟩ (by simp [aB,hwc])
    ·have hku:v.k=u.t:=v2.resolve_left k0
     have hk0:¬ u.t=0:=by omega
     simp [hcr,hgv,V.c]
     (repeat' first|contradiction|exact .ok|apply And.intro|intro _|(apply gc<;>simp+contextual))
     refine aA hva (by simp [V.a]) ?_
     simp [hcr,hgv,V.c,hku,hk0,hkS,hgx,Tb.c,hcx,hgu,Col.c]
     (repeat' first|contradiction|exact .ok|apply And.intro|intro _|(apply gc<;>simp+contextual[hku,hk0]))
     refine ⟨c+1,by omega,?_,by simp; omega⟩
     exact aE _ [(2,2,_),(3,3,_)] ⟨by simp,by simp,by simp [aB,Blk.live],by simp⟩ (by simp [aB,hwc])
   obtain rfl:c=row.length:=by omega
   simp
   (repeat' first|contradiction|exact .ok|apply And.intro|intro _|(apply gc<;>simp+contextual))
   refine ⟨r+1,by omega,?_,by simp; omega⟩
   exact aE _ [(2,2,_),(3,3,_)] ⟨by simp,by simp,by simp [aB,Blk.live],by simp⟩ (by simp [aB,hwr])
  obtain rfl:r=T.length:=by omega
  simp [hkI,hgT,gM]
  (repeat' first|contradiction|exact .ok|apply And.intro|intro _|(apply gc<;>simp+contextual))
  refine ⟨k+1,by omega,?_,by simp; omega⟩
  exact aE _ [(2,2,_),(3,3,_)] ⟨by simp,by simp,by simp [aB,Blk.live],by simp⟩ (by simp [aB,hw])
 obtain rfl:k=S.length:=by omega
 simp
 all_goals exact gz
theorem LA {S:List Tb} {T:Nat→List (List V)} (h:vZ S T) (hp:lT S=true) (hT:∀ k,(T k).length≤200) :
  wF S=0∧∀ (k:Nat) (x:Tb) (R:List (List V)),S[k]?=some x→(bE T S.length)[k]?=some R→x.cols.length≤1000∧R.length≤200∧∀ row∈R,row.length=x.cols.length∧∀ (c:Nat) (v:V) (u:Col),row[c]?=some v→x.cols[c]?=some u→v.valid=true∧(v.k=0∨v.k=u.t):=by
 have hpl:wF S=0∧∀ x∈S,eY x=true:=by
  unfold lT KX at hp
  simp only [Bool.and_eq_true,beq_iff_eq,List.all_eq_true] at hp
  exact ⟨hp.1,hp.2⟩
 refine ⟨hpl.1,fun k x R hx hR=>?_⟩
 obtain ⟨hk,hxe⟩:=List.getElem?_eq_some_iff.1 hx
 have hxm:x∈S:=List.mem_of_getElem? hx
 have ht:aV S k=x:=by unfold aV; rw [hx]; rfl
 rw [bR,if_pos hk] at hR
 simp only [Option.some.injEq] at hR
 subst hR
 have h20:=h.fill.cols x hxm
 refine ⟨by omega,hT k,fun row hrow=>?_⟩
 obtain ⟨n,hn⟩:=List.mem_iff_getElem?.1 hrow
 have hro:=h.row k hk n row hn
 rw [ht] at hro
 have hnl:=(List.getElem?_eq_some_iff.1 hn).1
 have hTk:=hT k
 have hvals:=aAi (h.key x hxm) (hpl.2 x hxm) hro (by omega) fun f hf=>by have:=hT (lG S f); omega
 refine ⟨hro.len,fun c v u hv hu=>?_⟩
 obtain ⟨w1,w2⟩:=hvals c v hv
 have hc:vO x c=u:=by unfold vO; rw [hu]; rfl
 rw [hc] at w2
 refine ⟨w1,?_⟩
 rcases w2 with w2 | ⟨_,w2⟩
 ·exact .inr w2
 ·subst w2; exact .inl rfl
end Go.Proofs.Tryz
