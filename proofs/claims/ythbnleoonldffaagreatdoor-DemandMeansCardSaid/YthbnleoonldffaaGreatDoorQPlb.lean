import Derived.Test.YthbnleoonldffaaGreatDoorQSky
import Derived.Test.YthbnleoonldffaaGreatDoorQCldR
import Derived.Test.YthbnleoonldffaaGreatDoorQSvd
import Derived.Test.YthbnleoonldffaaGreatDoorQSta
set_option linter.all false
namespace Go.Proofs.Tryz
open Go.Ab
set_option maxRecDepth 100000
set_option maxHeartbeats 4000000
theorem aCg (f:Fk) (hf:f.cols.length≤1000) (c:Int):Cf En 329 [f.a,.ptr 1000000 0 0] [.var [.d (.int .i64 c)]] (.d (.bool (f.cols.contains c))) [.var [.d (.int .i64 c)]]:=by
 refine aD aW (fn:=Tryz.f329) (by kernel_rfl) rfl (by kernel_rfl) (by decide) (by simp) ?_
 simp [Fk.a,Fk.c]
 (repeat' first|contradiction|exact .ok|apply And.intro|intro _|(apply gc<;>simp+contextual))
 refine aA (oN f.cols hf c) (by simp) ?_
 simp
 all_goals exact gz
theorem aCh (l:List Fk) (hl:l.length≤1000) (hf:∀ f∈l,f.cols.length≤1000) (c:Int):Cf En 363 [.d (.sl (l.map Fk.c)),.clo 329 [.ptr 1000000 0 0]] [.var [.d (.int .i64 c)]] (.d (.int .i64 (aY (fun f:Fk=>f.cols.contains c) l 0))) [.var [.d (.int .i64 c)]]:=by
 refine aD aW (fn:=Tryz.f363) (by kernel_rfl) rfl (by kernel_rfl) (by decide) (by simp) ?_
 generalize hF:aY (fun f:Fk=>f.cols.contains c) l 0=F
 simp
 (repeat' first|contradiction|exact .ok|apply And.intro|intro _|(apply gc<;>simp+contextual))
 refine aL aW (by decide) (fun i:Nat=>{ s:=cG [(0,.d (.sl (l.map Fk.c))),(1,.clo 329 [.ptr 1000000 0 0]),(7,.d (.int .i64 l.length)),(8,.d (.int .i64 i))],b:=cE [(1000000,1000000,.var [.d (.int .i64 c)])] }) (fun i=>i≤l.length∧aY (fun f:Fk=>f.cols.contains c) (l.drop i) i=F) (fun i=>l.length - i) 0 ⟨by simp,hF⟩ (aE _ [(1000000,1000000,_)] ⟨by simp,by simp,by simp [aB,Blk.live],bT⟩ (by simp [aB])) ?_
 rintro i ⟨hi,hg⟩
 by_cases hlt:i<l.length
 ·rw [dX hlt] at hg
  obtain ⟨u,hu⟩:∃ u,u=l[i]:=⟨_,rfl⟩
  have hgi:∀ h,l[i]'h=u:=fun _=>hu.symm
  have hru:=hf u (by rw [hu]; exact List.getElem_mem hlt)
  rw [← hu] at hg
  have hw:=aH (n:=(i:Int)+1) (by omega) (by omega)
  simp [hlt,hgi,Fk.c]
  (repeat' first|contradiction|exact .ok|apply And.intro|intro _|(apply gc<;>simp+contextual))
  refine aK [1000000] (aCg u hru c) (by simp) (by simp) (by simp) (by simp) (by simp [Fk.a,Fk.c]) ?_
  cases he:u.cols.contains c
  ·rw [he] at hg
   simp [he]
   (repeat' first|contradiction|exact .ok|apply And.intro|intro _|(apply gc<;>simp+contextual[he]))
   refine ⟨i+1,⟨by omega,by simpa using hg⟩,?_,by simp; omega⟩
   exact aE _ [(1000000,1000000,_)] ⟨by simp,by simp,by simp [aB,Blk.live],bT⟩ (by simp [aB,hw])
  ·rw [he] at hg
   simp only [if_true] at hg
   simp [he,← hg]
   (repeat' first|contradiction|exact .ok|apply And.intro|intro _|(apply gc<;>simp+contextual[he]))
 obtain rfl:i=l.length:=by omega
 rw [List.drop_length,aY] at hg
 simp [← hg]
 all_goals exact gz
theorem aCi (l:List Fk) (hl:l.length≤1000) (hf:∀ f∈l,f.cols.length≤1000) (c:Int):Cf En 328 [.d (.sl (l.map Fk.c)),.clo 329 [.ptr 1000000 0 0]] [.var [.d (.int .i64 c)]] (.d (.bool (l.any fun f=>f.cols.contains c))) [.var [.d (.int .i64 c)]]:=by
 refine aD aW (fn:=Tryz.f328) (by kernel_rfl) rfl (by kernel_rfl) (by decide) (by simp) ?_
 have h:=lF (p:=fun f:Fk=>f.cols.contains c) (l:=l) (i:=0)
 generalize hA:(l.any fun f=>f.cols.contains c)=A at *
 generalize hF:aY (fun f:Fk=>f.cols.contains c) l 0=F at *
 have hc:=aCh l hl hf c
 rw [hF] at hc
 simp
 (repeat' first|contradiction|exact .ok|apply And.intro|intro _|(apply gc<;>simp+contextual))
 refine aK [1000000] hc (by simp) (by simp) (by simp) (by simp) (by simp) ?_
 simp [h]
 all_goals exact gz
theorem ZJ (x:Tb) (hx:x.ok) (c:Int):Cf En 256 [x.a,.d (.int .i64 c)] [] (.d (.bool (!dJ x c))) []:=by
 refine aD aW (fn:=Tryz.f256) (by kernel_rfl) rfl (by kernel_rfl) (by decide) (by simp) ?_
 have hk:dJ x c=(x.pr.contains c||x.fk.any fun f=>f.cols.contains c):=rfl
 rw [hk]
 have hc:=aCi x.fk hx.fk hx.fkc c
 generalize (x.fk.any fun f=>f.cols.contains c)=A at *
 have hp:=oN x.pr hx.pr c
 generalize x.pr.contains c=B at *
 simp [Tb.a,Tb.c]
 (repeat' first|contradiction|exact .ok|apply And.intro|intro _|(apply gc<;>simp+contextual))
 refine aA hp (by simp) ?_
 cases B with
 | true =>
   simp
   all_goals exact gz
 | false =>
   simp [Tb.c]
   (repeat' first|contradiction|exact .ok|apply And.intro|intro _|(apply gc<;>simp+contextual))
   refine aK [3] hc (by simp) (by simp) (by simp) (by simp) (by simp) ?_
   simp
   all_goals exact gz
theorem aFD (x:Tb) (hx:x.ok) (c:Int):Cf En 255 [.d (.int .i64 c),.ptr 1000000 0 0] [.var (x.c.map AV.d)] (.d (.bool (dJ x c))) [.var (x.c.map AV.d)]:=by
 refine aD aW (fn:=Tryz.f255) (by kernel_rfl) rfl (by kernel_rfl) (by decide) (by simp) ?_
 simp [Tb.c]
 (repeat' first|contradiction|exact .ok|apply And.intro|intro _|(apply gc<;>simp+contextual))
 refine aA (ZJ x hx c) (by simp [Tb.a,Tb.c]) ?_
 simp [Tb.c]
 all_goals exact gz
theorem aDY (x:Tb) (hx:x.ok) (l:List Int) (hl:l.length≤9000000):Cf En 285 [.d (.sl (aG l)),.clo 255 [.ptr 1000000 0 0]] [.var (x.c.map AV.d)] (.d (.int .i64 (aY (dJ x) l 0))) [.var (x.c.map AV.d)]:=by
 refine aD aW (fn:=Tryz.f285) (by kernel_rfl) rfl (by kernel_rfl) (by decide) (by simp) ?_
 simp
 (repeat' first|contradiction|exact .ok|apply And.intro|intro _|(apply gc<;>simp+contextual))
 refine aL aW (by decide) (fun i:Nat=>{ s:=cG [(0,.d (.sl (aG l))),(1,.clo 255 [.ptr 1000000 0 0]),(7,.d (.int .i64 l.length)),(8,.d (.int .i64 i))],b:=cE [(1000000,1000000,.var (x.c.map AV.d))] }) (fun i=>i≤l.length∧aY (dJ x) (l.drop i) i=aY (dJ x) l 0) (fun i=>l.length - i) 0 (by simp) (aE _ [(1000000,1000000,_)] ⟨by simp,by simp,by simp [aB,Blk.live,Tb.c],bT⟩ (by simp [aB])) ?_
 rintro i ⟨hi,hf⟩
 by_cases hlt:i<l.length
 ·rw [dX hlt] at hf
  obtain ⟨u,hu⟩:∃ u,u=l[i]:=⟨_,rfl⟩
  have hg:=dS hlt
  have hgi:∀ h,l[i]'h=u:=fun _=>hu.symm
  rw [← hu] at hf hg
  have hw:=aH (n:=(i:Int)+1) (by omega) (by omega)
  simp [hlt,hgi,hg]
  (repeat' first|contradiction|exact .ok|apply And.intro|intro _|(apply gc<;>simp+contextual))
  refine aK [1000000] (aFD x hx u) (by simp) (by simp) (by simp) (by simp [Tb.c]) (by simp) ?_
  cases he:dJ x u
  ·rw [he] at hf
   simp [he]
   (repeat' first|contradiction|exact .ok|apply And.intro|intro _|(apply gc<;>simp+contextual[he]))
   refine ⟨i+1,⟨by omega,by simpa using hf⟩,?_,by simp; omega⟩
   exact aE _ [(1000000,1000000,_)] ⟨by simp,by simp,by simp [aB,Blk.live,Tb.c],bT⟩ (by simp [aB,hw])
  ·rw [he] at hf
   simp only [if_true] at hf
   simp [he,← hf,Tb.c]
   (repeat' first|contradiction|exact .ok|apply And.intro|intro _|(apply gc<;>simp+contextual[he]))
 obtain rfl:i=l.length:=by omega
 rw [List.drop_length,aY] at hf
 simp [← hf,Tb.c]
 all_goals exact gz
theorem aDZ (x:Tb) (hx:x.ok) (l:List Int) (hl:l.length≤9000000):Cf En 211 [.d (.sl (aG l)),.clo 255 [.ptr 1000000 0 0]] [.var (x.c.map AV.d)] (.d (.bool (l.any (dJ x)))) [.var (x.c.map AV.d)]:=by
 refine aD aW (fn:=Tryz.f211) (by kernel_rfl) rfl (by kernel_rfl) (by decide) (by simp) ?_
 have h:=lF (p:=dJ x) (l:=l) (i:=0)
 simp
 (repeat' first|contradiction|exact .ok|apply And.intro|intro _|(apply gc<;>simp+contextual))
 refine aK [1000000] (aDY x hx l hl) (by simp) (by simp) (by simp) (by simp [Tb.c]) (by simp) ?_
 simp [h,Tb.c]
 all_goals exact gz
structure AW (e:Ex):Prop where
 few:e.few 0=true
 nodes:e.nodes≤1048576
theorem EC (l:List Int):fV l=.sl (aG l):=rfl
theorem RP (e:Ex) (h:AW e):e.cols.length≤9000000:=by
 have:=JO e
 have:=h.nodes
 omega
theorem aFE (x:Tb) (hx:x.ok) (e:Ex) (he:AW e):Cf En 254 [e.a,.ptr 1000000 0 0] [.var (x.c.map AV.d)] (.d (.bool (e.cols.any (dJ x)))) [.var (x.c.map AV.d)]:=by
 refine aD aW (fn:=Tryz.f254) (by kernel_rfl) rfl (by kernel_rfl) (by decide) (by simp) ?_
 have hc:=zW _ e (Nat.lt_succ_self _) 0 he.few he.nodes
 have hl:=RP e he
 generalize e.cols=l at *
 rw [EC] at hc
 rcases e with ⟨o,c,n,t,g,ks⟩
 simp [Ex.a,Ex.c]
 (repeat' first|contradiction|exact .ok|apply And.intro|intro _|(apply gc<;>simp+contextual))
 refine aA hc (by simp [Ex.a,Ex.c]) ?_
 simp
 (repeat' first|contradiction|exact .ok|apply And.intro|intro _|(apply gc<;>simp+contextual))
 refine aK [1000000] (aDZ x hx l hl) (by simp) (by simp) (by simp) (by simp [Tb.c]) (by simp) ?_
 simp [Tb.c]
 all_goals exact gz
theorem aEa (x:Tb) (hx:x.ok) (l:List Ex) (hl:l.length≤1000) (hE:∀ e∈l,AW e):Cf En 198 [.d (.sl (l.map Ex.c)),.clo 254 [.ptr 1000000 0 0]] [.var (x.c.map AV.d)] (.d (.int .i64 (aY (fun e:Ex=>e.cols.any (dJ x)) l 0))) [.var (x.c.map AV.d)]:=by
 refine aD aW (fn:=Tryz.f198) (by kernel_rfl) rfl (by kernel_rfl) (by decide) (by simp) ?_
 simp
 (repeat' first|contradiction|exact .ok|apply And.intro|intro _|(apply gc<;>simp+contextual))
 refine aL aW (by decide) (fun i:Nat=>{ s:=cG [(0,.d (.sl (l.map Ex.c))),(1,.clo 254 [.ptr 1000000 0 0]),(7,.d (.int .i64 l.length)),(8,.d (.int .i64 i))],b:=cE [(1000000,1000000,.var (x.c.map AV.d))] }) (fun i=>i≤l.length∧aY (fun e:Ex=>e.cols.any (dJ x)) (l.drop i) i=aY (fun e:Ex=>e.cols.any (dJ x)) l 0) (fun i=>l.length - i) 0 (by simp) (aE _ [(1000000,1000000,_)] ⟨by simp,by simp,by simp [aB,Blk.live,Tb.c],bT⟩ (by simp [aB])) ?_
 rintro i ⟨hi,hg⟩
 by_cases hlt:i<l.length
 ·rw [dX hlt] at hg
  obtain ⟨u,hu⟩:∃ u,u=l[i]:=⟨_,rfl⟩
  have hgi:∀ h,l[i]'h=u:=fun _=>hu.symm
  have hc:=aFE x hx u (hE u (by rw [hu]; exact List.getElem_mem hlt))
  rw [← hu] at hg
  generalize (u.cols.any (dJ x))=B at *
  have hw:=aH (n:=(i:Int)+1) (by omega) (by omega)
  rcases u with ⟨o,cc,n,t,g,ks⟩
  simp [hlt,hgi,Ex.c]
  (repeat' first|contradiction|exact .ok|apply And.intro|intro _|(apply gc<;>simp+contextual))
  refine aK [1000000] hc (by simp) (by simp) (by simp) (by simp [Tb.c]) (by simp [Ex.a,Ex.c]) ?_
  cases B
  ·simp
   (repeat' first|contradiction|exact .ok|apply And.intro|intro _|(apply gc<;>simp+contextual))
   refine ⟨i+1,⟨by omega,by simpa using hg⟩,?_,by simp; omega⟩
   exact aE _ [(1000000,1000000,_)] ⟨by simp,by simp,by simp [aB,Blk.live,Tb.c],bT⟩ (by simp [aB,hw])
  ·simp only [if_true] at hg
   simp [← hg,Tb.c]
   all_goals exact gz
 obtain rfl:i=l.length:=by omega
 rw [List.drop_length,aY] at hg
 simp [← hg,Tb.c]
 all_goals exact gz
theorem aEb (x:Tb) (hx:x.ok) (l:List Ex) (hl:l.length≤1000) (hE:∀ e∈l,AW e):Cf En 124 [.d (.sl (l.map Ex.c)),.clo 254 [.ptr 1000000 0 0]] [.var (x.c.map AV.d)] (.d (.bool (l.any fun e=>e.cols.any (dJ x)))) [.var (x.c.map AV.d)]:=by
 refine aD aW (fn:=Tryz.f124) (by kernel_rfl) rfl (by kernel_rfl) (by decide) (by simp) ?_
 have h:=lF (p:=fun e:Ex=>e.cols.any (dJ x)) (l:=l) (i:=0)
 have hc:=aEa x hx l hl hE
 generalize (l.any fun e=>e.cols.any (dJ x))=A at *
 generalize aY (fun e:Ex=>e.cols.any (dJ x)) l 0=F at *
 simp
 (repeat' first|contradiction|exact .ok|apply And.intro|intro _|(apply gc<;>simp+contextual))
 refine aK [1000000] hc (by simp) (by simp) (by simp) (by simp [Tb.c]) (by simp) ?_
 simp [h,Tb.c]
 all_goals exact gz
def fU (l:List Int):Int:=l.headD 0
def PC (x:Tb) (f:Fk):Bool:=f.cols.length==1&&(dE x (fU f.cols)==1&&(!nS x (fU f.cols)&&!(fU f.cols==fU x.pr)))
def kK (x:Tb):List Int→List Fk→Bool
 | _,[]=>true
 | seen,f::r=>(PC x f&&!seen.contains (fU f.cols))&&kK x (seen++[fU f.cols]) r
def VW (x:Tb):Bool:=x.pr.length==1&&(dE x (fU x.pr)==1&&x.un.isEmpty)
def eY (x:Tb):Bool:=VW x&&(kK x [] x.fk&&!(x.ch.any fun e=>e.cols.any (dJ x)))
def lO (x:Tb) (j:Nat):List Int:=(x.fk.take j).map fun f=>fU f.cols
theorem ZK {x:Tb} {j:Nat} (h:j≤x.fk.length):(lO x j).length=j:=by unfold lO; simp; omega
theorem vV {x:Tb} {j:Nat} (h:j<x.fk.length):lO x (j+1)=lO x j++[fU x.fk[j].cols]:=by unfold lO; rw [bV h,List.map_append]; rfl
theorem ED {x:Tb} {j:Nat} (h:j<x.fk.length):kK x (lO x j) (x.fk.drop j)=((PC x x.fk[j]&&!(lO x j).contains (fU x.fk[j].cols))&&kK x (lO x (j+1)) (x.fk.drop (j+1))):=by
 rw [List.drop_eq_getElem_cons h,kK,vV h]
theorem RQ {x:Tb} {k:Nat} {u:Col} (hk:k<x.cols.length) (hu:x.cols[k]=u):nS x k=u.b:=by
 unfold nS; rw [Int.toNat_natCast,List.getElem?_eq_getElem hk,hu]; rfl
theorem kL {α:Type} {l:List α} (h:l.length=1):∃ a,l=[a]:=by
 match l,h with
 | [a],_=>exact ⟨a,rfl⟩
def plF (x:Tb) (y:Nat×Bool):St :=
 { s:=cG [(1,.ptr 1 0 0),(3,.ref 900 0 y.1 1),(29,.d (.sl (x.fk.map Fk.c))),(30,.d (.int .i64 x.fk.length)),(31,.d (.int .i64 y.1))],b:=cE [(1,1,.var (x.c.map AV.d)),(900,900,.arr 3 1 (aG (lO x y.1)) y.2)] }
theorem aCj (x:Tb) (hx:x.ok) (hk:fS x=0) (hE:∀ e∈x.ch,AW e):Cf En 185 [x.a] [] (.d (.bool (eY x))) []:=by
 refine aD aW (fn:=Tryz.f185) (by kernel_rfl) rfl (by kernel_rfl) (by decide) (by simp) ?_
 obtain ⟨hkp,hkf⟩:=nT hk
 have hfl:=hx.fk
 by_cases c1:x.pr.length=1
 rotate_left
 ·have hP:eY x=false:=by unfold eY VW; simp [c1]
  have i1:¬ (x.pr.length:Int)=1:=by omega
  rw [hP]
  simp [Tb.a,Tb.c,c1,i1]
  (repeat' first|contradiction|exact .ok|apply And.intro|intro _|(apply gc<;>simp+contextual[c1,i1]))
 obtain ⟨p,hp⟩:=kL c1
 obtain ⟨hp0,hp1⟩:=hkp p (by rw [hp]; simp)
 obtain ⟨a,rfl⟩:∃ a:Nat,p=a:=⟨p.toNat,by omega⟩
 have hal:a<x.cols.length:=by omega
 obtain ⟨u,hu⟩:∃ u,u=x.cols[a]:=⟨_,rfl⟩
 have hgu:∀ h,x.cols[a]'h=u:=fun _=>hu.symm
 have hhp:fU x.pr=a:=by rw [hp]; rfl
 have hty:=mO hal hu.symm
 have hip:aG x.pr=[[.int .i64 a]]:=by rw [hp]; rfl
 by_cases c2:u.t=1
 rotate_left
 ·have hP:eY x=false:=by unfold eY VW; rw [hhp,hty]; simp [c2]
  rw [hP]
  simp [Tb.a,Tb.c,c1,hip,hal,hgu,Col.c,c2]
  (repeat' first|contradiction|exact .ok|apply And.intro|intro _|(apply gc<;>simp+contextual[c1,hip,hal,hgu,Col.c,c2]))
  all_goals (try simp [c1,hip,hal,hgu,Col.c,c2])
  all_goals (repeat' (first | contradiction | exact .of (by kernel_rfl) | refine And.intro ?_ ?_ | intro _ | (refine aN (fun h=>?_) (fun h=>?_) <;> (have h':=h; (try simp at h'); first | done | simp [h,h',c2] | simp [c2]))))
 by_cases c3:x.un=[]
 rotate_left
 ·have hP:eY x=false:=by unfold eY VW; simp [c3]
  have hpos:(0:Int)<x.un.length:=by have:=List.length_pos_iff.2 c3; omega
  have hpos2:0<x.un.length:=by omega
  rw [hP]
  simp [Tb.a,Tb.c,c1,hip,hal,hgu,Col.c,c2,hpos,hpos2,c3]
  (repeat' first|contradiction|exact .ok|apply And.intro|intro _|(apply gc<;>simp+contextual[c1,hip,hal,hgu,Col.c,c2,hpos,hpos2,c3]))
  all_goals (try simp [c1,hip,hal,hgu,Col.c,c2,hpos,hpos2,c3])
  all_goals (repeat' (first | contradiction | exact .of (by kernel_rfl) | refine And.intro ?_ ?_ | intro _ | (refine aN (fun h=>?_) (fun h=>?_) <;> (have h':=h; (try simp at h'); first | done | simp [h,h',c2] | simp [c2]))))
 have hPr:VW x=true:=by unfold VW; rw [c1,hhp,hty,c2,c3]; rfl
 have hR:eY x=(kK x [] x.fk&&!(x.ch.any fun e=>e.cols.any (dJ x))):=by unfold eY; rw [hPr,Bool.true_and]
 rw [hR]
 have hck:=aEb x hx x.ch hx.ch hE
 generalize (x.ch.any fun e=>e.cols.any (dJ x))=C at *
 clear hR
 generalize hFB:kK x [] x.fk=B at *
 simp [Tb.a,Tb.c,c1,hip,hal,hgu,Col.c,c2,c3]
 (repeat' first|contradiction|exact .ok|apply And.intro|intro _|(apply gc<;>simp+contextual[c1,hip,hal,hgu,Col.c,c2,c3]))
 refine aL aW (by decide) (plF x) (fun y=>y.1≤x.fk.length∧kK x (lO x y.1) (x.fk.drop y.1)=B) (fun y=>x.fk.length - y.1) (0,false) ⟨by simp,hFB⟩
  (dW 3 900 3 1 (by simp) (by simp) (by decide) (by decide) _ [(1,1,_),(900,900,_)] ⟨by simp,by simp,by simp [aB,Blk.live,Tb.c,lO,hip,c3,show aG []=[] from rfl],by simp⟩ (by simp [aB])) ?_
 rintro ⟨j,fz⟩ ⟨hj,hB⟩
 simp only at hj hB
 have hSl:=ZK hj
 unfold plF
 simp only
 by_cases hjl:j<x.fk.length
 ·rw [ED hjl] at hB
  have hw:=aH (n:=(j:Int)+1) (by omega) (by omega)
  have hnx:=vV hjl
  obtain ⟨f,hf⟩:∃ f,f=x.fk[j]:=⟨_,rfl⟩
  have hgf:∀ h,x.fk[j]'h=f:=fun _=>hf.symm
  have hfm:f∈x.fk:=by rw [hf]; exact List.getElem_mem hjl
  rw [← hf] at hB hnx
  have hbad:(PC x f&&!(lO x j).contains (fU f.cols))=false→B=false:=fun h=>by rw [← hB,h,Bool.false_and]
  have hgood:(PC x f&&!(lO x j).contains (fU f.cols))=true→kK x (lO x (j+1)) (x.fk.drop (j+1))=B:=fun h=>by rw [← hB,h,Bool.true_and]
  clear hB
  have hci:=oN (lO x j) (by omega) (fU f.cols)
  generalize hS:lO x j=S at *
  have htk:(aG S).take j=aG S:=List.take_of_length_le (by simp [hSl])
  by_cases d1:f.cols.length=1
  rotate_left
  ·have i1:¬ (f.cols.length:Int)=1:=by omega
   rw [hbad (by unfold PC; simp [d1])]
   simp [hjl,hgf,Fk.c,d1,i1]
   (repeat' first|contradiction|exact .ok|apply And.intro|intro _|(apply gc<;>simp+contextual[d1,i1]))
  obtain ⟨q,hq⟩:=kL d1
  obtain ⟨hq0,hq1⟩:=hkf f hfm q (by rw [hq]; simp)
  obtain ⟨b,rfl⟩:∃ a:Nat,q=a:=⟨q.toNat,by omega⟩
  have hbl:b<x.cols.length:=by omega
  obtain ⟨v,hv⟩:∃ u,u=x.cols[b]:=⟨_,rfl⟩
  have hgv:∀ h,x.cols[b]'h=v:=fun _=>hv.symm
  have hhf:fU f.cols=b:=by rw [hq]; rfl
  have htv:=mO hbl hv.symm
  have hnv:=RQ hbl hv.symm
  have hiq:aG f.cols=[[.int .i64 b]]:=by rw [hq]; rfl
  have hfk:PC x f=(v.t==1&&(!v.b&&!((b:Int)==a))):=by unfold PC; rw [d1,hhf,htv,hnv,hhp]; rfl
  rw [hhf] at hci hbad hgood hnx
  rw [hfk] at hbad hgood
  by_cases d2:v.t=1
  rotate_left
  ·rw [hbad (by simp [d2])]
   simp [hjl,hgf,Fk.c,d1,hiq,hbl,hgv,Tb.c,Col.c,d2]
   (repeat' first|contradiction|exact .ok|apply And.intro|intro _|(apply gc<;>simp+contextual[d1,hiq,hbl,hgv,Tb.c,Col.c,d2]))
   all_goals (try simp [hiq,hbl,hgv,Tb.c,Col.c,d2])
   all_goals (repeat' (first | contradiction | exact .of (by kernel_rfl) | refine And.intro ?_ ?_ | intro _ | (refine aN (fun h=>?_) (fun h=>?_) <;> (have h':=h; (try simp at h'); first | done | simp [h,h',d2] | simp [d2]))))
  by_cases d3:v.b=true
  ·rw [hbad (by simp [d3])]
   simp [hjl,hgf,Fk.c,d1,hiq,hbl,hgv,Tb.c,Col.c,d2,d3]
   (repeat' first|contradiction|exact .ok|apply And.intro|intro _|(apply gc<;>simp+contextual[d1,hiq,hbl,hgv,Tb.c,Col.c,d2,d3]))
   all_goals (try simp [hiq,hbl,hgv,Tb.c,Col.c,d2,d3])
   all_goals (repeat' (first | contradiction | exact .of (by kernel_rfl) | refine And.intro ?_ ?_ | intro _ | (refine aN (fun h=>?_) (fun h=>?_) <;> (have h':=h; (try simp at h'); first | done | simp [h,h',d2,d3] | simp [d2,d3]))))
  have d3':v.b=false:=by simpa using d3
  by_cases d4:b=a
  ·subst d4
   rw [hbad (by simp)]
   simp [hjl,hgf,Fk.c,d1,hiq,hip,hbl,hgv,Tb.c,Col.c,d2,d3']
   (repeat' first|contradiction|exact .ok|apply And.intro|intro _|(apply gc<;>simp+contextual[d1,hiq,hip,hbl,hgv,Tb.c,Col.c,d2,d3']))
   all_goals (try simp [hiq,hip,hbl,hgv,Tb.c,Col.c,d2,d3'])
   all_goals (repeat' (first | contradiction | exact .of (by kernel_rfl) | refine And.intro ?_ ?_ | intro _ | (refine aN (fun h=>?_) (fun h=>?_) <;> (have h':=h; (try simp at h'); first | done | simp [h,h',d2,d3'] | simp [d2,d3']))))
  have i4:¬ (b:Int)=a:=by omega
  cases hcc:S.contains (b:Int) with
  | true =>
    rw [hcc] at hci
    rw [hbad (by rw [hcc]; simp)]
    simp [hjl,hgf,Fk.c,d1,hiq,hip,hbl,hgv,Tb.c,Col.c,d2,d3',d4,i4]
    (repeat' first|contradiction|exact .ok|apply And.intro|intro _|(apply gc<;>simp+contextual[d1,hiq,hip,hbl,hgv,Tb.c,Col.c,d2,d3',d4,i4]))
    refine aA hci (by simp [htk,hSl]) ?_
    simp
    all_goals exact gz
  | false =>
    rw [hcc] at hci
    have hB:=hgood (by rw [hcc]; simp [d2,d3',i4])
    simp [hjl,hgf,Fk.c,d1,hiq,hip,hbl,hgv,Tb.c,Col.c,d2,d3',d4,i4]
    (repeat' first|contradiction|exact .ok|apply And.intro|intro _|(apply gc<;>simp+contextual[d1,hiq,hip,hbl,hgv,Tb.c,Col.c,d2,d3',d4,i4]))
    refine aA hci (by simp [htk,hSl]) ?_
    simp [hiq,hSl,htk,eI j (by omega) 8 (by decide),eI (j+1) (by omega) 8 (by decide)]
    (repeat' first|contradiction|exact .ok|apply And.intro|intro _|(apply gc<;>simp+contextual))
    refine ⟨(j+1,true),⟨by simp only; omega,hB⟩,?_,by simp; omega⟩
    refine aE _ [(1,1,_),(900,87,_)] ⟨by simp,by simp,by simp [aB,Blk.live,Tb.c,hip,c3,hnx,wD],by simp⟩ (by simp [aB,hw])
 obtain rfl:j=x.fk.length:=by omega
 rw [List.drop_length,kK] at hB
 rw [← hB,Bool.true_and]
 simp [Tb.c]
 (repeat' first|contradiction|exact .ok|apply And.intro|intro _|(apply gc<;>simp+contextual))
 refine aK [1] hck (by simp) (by simp) (by simp) (by simp [Tb.c]) (by simp) ?_
 simp
 all_goals exact gz
def KX (e:Int) (S:List Tb):Bool:=e==0&&S.all eY
theorem ZL (x:Tb) (hx:x.ok) (hk:fS x=0) (hE:∀ e∈x.ch,AW e):Cf En 184 [x.a] [] (.d (.bool (!eY x))) []:=by
 refine aD aW (fn:=Tryz.f184) (by kernel_rfl) rfl (by kernel_rfl) (by decide) (by simp) ?_
 simp [Tb.a,Tb.c]
 (repeat' first|contradiction|exact .ok|apply And.intro|intro _|(apply gc<;>simp+contextual))
 refine aA (aCj x hx hk hE) (by simp [Tb.a,Tb.c]) ?_
 simp
 all_goals exact gz
theorem ZM (S:List Tb) (hl:S.length≤1000) (hS:∀ x∈S,x.ok) (hK:∀ x∈S,fS x=0) (hE:∀ x∈S,∀ e∈x.ch,AW e):Cf En 137 [.d (.sl (S.map Tb.c)),.clo 184 []] [] (.d (.int .i64 (aY (fun x=>!eY x) S 0))) []:=by
 refine aD aW (fn:=Tryz.f137) (by kernel_rfl) rfl (by kernel_rfl) (by decide) (by simp) ?_
 simp
 (repeat' first|contradiction|exact .ok|apply And.intro|intro _|(apply gc<;>simp+contextual))
 refine aL aW (by decide) (fun i:Nat=>{ s:=cG [(0,.d (.sl (S.map Tb.c))),(1,.clo 184 []),(7,.d (.int .i64 S.length)),(8,.d (.int .i64 i))],b:=cE [] }) (fun i=>i≤S.length∧aY (fun x=>!eY x) (S.drop i) i=aY (fun x=>!eY x) S 0) (fun i=>S.length - i) 0 (by simp) (aE _ [] .nil (by simp)) ?_
 rintro i ⟨hi,hf⟩
 by_cases hlt:i<S.length
 ·rw [dX hlt] at hf
  obtain ⟨u,hu⟩:∃ u,u=S[i]:=⟨_,rfl⟩
  have hgi:∀ h,S[i]'h=u:=fun _=>hu.symm
  have hum:u∈S:=by rw [hu]; exact List.getElem_mem hlt
  rw [← hu] at hf
  have hw:=aH (n:=(i:Int)+1) (by omega) (by omega)
  simp [hlt,hgi,Tb.c]
  (repeat' first|contradiction|exact .ok|apply And.intro|intro _|(apply gc<;>simp+contextual))
  refine aA (ZL u (hS u hum) (hK u hum) (hE u hum)) (by simp [Tb.a,Tb.c]) ?_
  cases he:eY u
  ·rw [he] at hf
   simp only [Bool.not_false,if_true] at hf
   simp [he,← hf]
   (repeat' first|contradiction|exact .ok|apply And.intro|intro _|(apply gc<;>simp+contextual[he]))
  ·rw [he] at hf
   simp [he]
   (repeat' first|contradiction|exact .ok|apply And.intro|intro _|(apply gc<;>simp+contextual[he]))
   refine ⟨i+1,⟨by omega,by simpa using hf⟩,?_,by simp; omega⟩
   exact aE _ [] .nil (by simp [hw])
 obtain rfl:i=S.length:=by omega
 rw [List.drop_length,aY] at hf
 simp [← hf]
 all_goals exact gz
theorem ZN (S:List Tb) (hl:S.length≤1000) (hS:∀ x∈S,x.ok) (hK:∀ x∈S,fS x=0) (hE:∀ x∈S,∀ e∈x.ch,AW e):Cf En 183 [.d (.sl (S.map Tb.c)),.clo 184 []] [] (.d (.bool (!S.all eY))) []:=by
 refine aD aW (fn:=Tryz.f183) (by kernel_rfl) rfl (by kernel_rfl) (by decide) (by simp) ?_
 have h:=lF (p:=fun x=>!eY x) (l:=S) (i:=0)
 rw [show (!S.all eY)=S.any fun x=>!eY x from by rw [List.not_all_eq_any_not]]
 have hc:=ZM S hl hS hK hE
 generalize (S.any fun x=>!eY x)=A at *
 generalize aY (fun x=>!eY x) S 0=F at *
 simp
 (repeat' first|contradiction|exact .ok|apply And.intro|intro _|(apply gc<;>simp+contextual))
 refine aA hc (by simp) ?_
 simp [h]
 all_goals exact gz
theorem EE {nm:List UInt8→Bool} {ty:Tb→Ex→Int×Int} {S:List Tb} (h:dR nm ty S=0):∀ x∈S,fS x=0:=by
 unfold dR at h
 split at h
 ·cases h
 exact HK (jC h).1
theorem aCk (S:List Tb) (hl:S.length≤1000) (hS:∀ x∈S,x.ok) (hE:∀ x∈S,∀ e∈x.ch,AW e) (ty:Tb→Ex→Int×Int)
  (hv:Cf Es 31 [aR S] [] (.d (.int .i64 (dR fN ty S))) []) :
  Cf Es 118 [aR S] [] (.d (.bool (KX (dR fN ty S) S))) []:=by
 refine aD cF (fn:=Tryz.f118) (by kernel_rfl) rfl (by kernel_rfl) (by decide) (by simp) ?_
 have hk:dR fN ty S=0→∀ x∈S,fS x=0:=EE
 unfold KX
 generalize dR fN ty S=e at *
 simp [aR]
 (repeat' first|contradiction|exact .ok|apply And.intro|intro _|(apply gc<;>simp+contextual))
 refine aA hv (by simp [aR]) ?_
 by_cases he:e=0
 ·subst he
  have hc:=gL (ZN S hl hS (hk rfl) hE)
  generalize S.all eY=A at *
  simp
  (repeat' first|contradiction|exact .ok|apply And.intro|intro _|(apply gc<;>simp+contextual))
  refine aA hc (by simp) ?_
  simp
  all_goals exact gz
 ·simp [he]
  (repeat' first|contradiction|exact .ok|apply And.intro|intro _|(apply gc<;>simp+contextual[he]))
end Go.Proofs.Tryz
