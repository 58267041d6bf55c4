import Derived.Test.YthbnleoonldffaaGreatDoorQPlb
set_option linter.all false
namespace Go.Proofs.Tryz
open Go.Ab
set_option maxRecDepth 100000
set_option maxHeartbeats 8000000
theorem UJ {α:Type} {l:List α} {p:α→Bool} {i:Nat} (h:i<l.length):(l.take (i+1)).all p=((l.take i).all p&&p l[i]):=by
 rw [bV h,List.all_append]
 simp only [List.all_cons,List.all_nil,Bool.and_true]
theorem aCl (S:List Tb) (hl:S.length≤1000) (hS:∀ x∈S,x.ok) (hE:∀ x∈S,∀ e∈x.ch,AW e) (ty:Tb→Ex→Int×Int)
  (hv:Cf Es 23 [aR S] [] (.d (.int .i64 (dR fN ty S))) []) :
  Cf Es 62 [aR S] [] (.d (.bool (KX (dR fN ty S) S))) []:=by
 refine aD cF (fn:=Tryz.f62) (by kernel_rfl) rfl (by kernel_rfl) (by decide) (by simp) ?_
 have hK:dR fN ty S=0→∀ x∈S,fS x=0:=EE
 have hPl:KX (dR fN ty S) S=(dR fN ty S==0&&S.all eY):=rfl
 rw [hPl]
 clear hPl
 generalize dR fN ty S=e at *
 simp [aR]
 (repeat' first|contradiction|exact .ok|apply And.intro|intro _|(apply gc<;>simp+contextual))
 refine aA hv (by simp [aR]) ?_
 by_cases he:e=0
 rotate_left
 ·simp [he]
  (repeat' first|contradiction|exact .ok|apply And.intro|intro _|(apply gc<;>simp+contextual[he]))
 subst he
 replace hK:=hK rfl
 generalize hA:S.all eY=A at *
 simp
 (repeat' first|contradiction|exact .ok|apply And.intro|intro _|(apply gc<;>simp+contextual))
 refine aL cF (by decide) (fun i:Nat=>{ s:=cG [(1,.ptr 1 0 0),(3,.d (.int .i64 i))],b:=cE [(1,1,.var [.d (.sl (S.map Tb.c))])] }) (fun i=>i≤S.length∧(S.take i).all eY=true) (fun i=>S.length - i) 0 (by simp)
  (aE _ [(1,1,_)] ⟨by simp,by simp,by simp [aB,Blk.live],by simp⟩ (by simp [aB])) ?_
 rintro i ⟨hi,hf⟩
 by_cases hlt:i<S.length
 rotate_left
 ·obtain rfl:i=S.length:=by omega
  rw [List.take_length,hA] at hf
  rw [hf]
  simp
  all_goals exact gz
 have hat:=UJ (p:=eY) hlt
 have hw:=aH (n:=(i:Int)+1) (by omega) (by omega)
 obtain ⟨x,hx⟩:∃ c,c=S[i]:=⟨_,rfl⟩
 have hgi:∀ h,S[i]'h=x:=fun _=>hx.symm
 have hxm:x∈S:=by rw [hx]; exact List.getElem_mem hlt
 rw [← hx,hf,Bool.true_and] at hat
 have hbad:eY x=false→A=false:=fun h=>by
  rw [← hA,List.all_eq_false]
  exact ⟨x,hxm,by simp [h]⟩
 clear hf hA
 have hox:=hS x hxm
 obtain ⟨hkp,hkf⟩:=nT (hK x hxm)
 have hfl:=hox.fk
 have hEx:=hE x hxm
 by_cases c1:x.pr.length=1
 rotate_left
 ·have i1:¬ (x.pr.length:Int)=1:=by omega
  rw [hbad (by unfold eY VW; simp [c1])]
  simp [hlt,hgi,Tb.c,c1,i1]
  (repeat' first|contradiction|exact .ok|apply And.intro|intro _|(apply gc<;>simp+contextual[c1,i1]))
 obtain ⟨p,hp⟩:=kL c1
 obtain ⟨hp0,hp1⟩:=hkp p (by rw [hp]; simp)
 obtain ⟨a,rfl⟩:∃ a:Nat,p=a:=⟨p.toNat,by omega⟩
 have hal:a<x.cols.length:=by omega
 obtain ⟨u,hu⟩:∃ u,u=x.cols[a]:=⟨_,rfl⟩
 have hgu:∀ h,x.cols[a]'h=u:=fun _=>hu.symm
 have hhp:fU x.pr=a:=by rw [hp]; rfl
 have hty:=mO hal hu.symm
 have hip:aG x.pr=[[.int .i64 a]]:=by rw [hp]; rfl
 by_cases c2:u.t=1
 rotate_left
 ·rw [hbad (by unfold eY VW; rw [hhp,hty]; simp [c2])]
  simp [hlt,hgi,Tb.c,c1,hip,hal,hgu,Col.c,c2]
  (repeat' first|contradiction|exact .ok|apply And.intro|intro _|(apply gc<;>simp+contextual[c1,hip,hal,hgu,Col.c,c2]))
  all_goals (try simp [c1,hip,hal,hgu,Col.c,c2])
  all_goals (repeat' (first | contradiction | exact .of (by kernel_rfl) | refine And.intro ?_ ?_ | intro _ | (refine aN (fun h=>?_) (fun h=>?_) <;> (have h':=h; (try simp at h'); first | done | simp [h,h',c2] | simp [c2]))))
 by_cases c3:x.un=[]
 rotate_left
 ·have hpos:(0:Int)<x.un.length:=by have:=List.length_pos_iff.2 c3; omega
  have hpos2:0<x.un.length:=by omega
  rw [hbad (by unfold eY VW; simp [c3])]
  simp [hlt,hgi,Tb.c,c1,hip,hal,hgu,Col.c,c2,hpos,hpos2,c3]
  (repeat' first|contradiction|exact .ok|apply And.intro|intro _|(apply gc<;>simp+contextual[c1,hip,hal,hgu,Col.c,c2,hpos,hpos2,c3]))
  all_goals (try simp [c1,hip,hal,hgu,Col.c,c2,hpos,hpos2,c3])
  all_goals (repeat' (first | contradiction | exact .of (by kernel_rfl) | refine And.intro ?_ ?_ | intro _ | (refine aN (fun h=>?_) (fun h=>?_) <;> (have h':=h; (try simp at h'); first | done | simp [h,h',c2] | simp [c2]))))
 have hPr:VW x=true:=by unfold VW; rw [c1,hhp,hty,c2,c3]; rfl
 have hR:eY x=(kK x [] x.fk&&!(x.ch.any fun e=>e.cols.any (dJ x))):=by unfold eY; rw [hPr,Bool.true_and]
 rw [hR] at hbad hat
 clear hR hPr
 simp [hlt,hgi,Tb.c,c1,hip,hal,hgu,Col.c,c2,c3]
 (repeat' first|contradiction|exact .ok|apply And.intro|intro _|(apply gc<;>simp+contextual[c1,hip,hal,hgu,Col.c,c2,c3]))
 refine aL cF (by decide) (fun j:Nat=>{ s:=cG [(1,.ptr 1 0 0),(3,.d (.int .i64 i)),(4,.ptr 4 0 0),(5,.d (.int .i64 j))],b:=cE [(1,1,.var [.d (.sl (S.map Tb.c))]),(4,4,.var (x.c.map AV.d))] })
  (fun j=>j≤x.fk.length∧kK x (lO x j) (x.fk.drop j)=kK x [] x.fk∧∀ f∈x.fk.take j,f.cols.length=1) (fun j=>x.fk.length - j) 0 ⟨by simp,rfl,by simp⟩
  (aE _ [(1,1,_),(4,4,_)] ⟨by simp,by simp,by simp [aB,Blk.live,Tb.c,hip,c3],by simp⟩ (by simp [aB])) ?_
 rintro j ⟨hj,hB,hone⟩
 by_cases hjl:j<x.fk.length
 ·rw [ED hjl] at hB
  have hwj:=aH (n:=(j:Int)+1) (by omega) (by omega)
  obtain ⟨f,hf⟩:∃ f,f=x.fk[j]:=⟨_,rfl⟩
  have hgf:∀ h,x.fk[j]'h=f:=fun _=>hf.symm
  have hfm:f∈x.fk:=by rw [hf]; exact List.getElem_mem hjl
  rw [← hf] at hB
  have hbad2:(PC x f&&!(lO x j).contains (fU f.cols))=false→A=false:=fun h=>by
   rw [h,Bool.false_and] at hB
   exact hbad (by rw [← hB,Bool.false_and])
  have hgood:(PC x f&&!(lO x j).contains (fU f.cols))=true→kK x (lO x (j+1)) (x.fk.drop (j+1))=kK x [] x.fk:=fun h=>by rw [← hB,h,Bool.true_and]
  clear hB
  by_cases d1:f.cols.length=1
  rotate_left
  ·have i1:¬ (f.cols.length:Int)=1:=by omega
   rw [hbad2 (by unfold PC; simp [d1])]
   simp [hjl,hgf,Tb.c,Fk.c,d1,i1]
   (repeat' first|contradiction|exact .ok|apply And.intro|intro _|(apply gc<;>simp+contextual[d1,i1]))
  obtain ⟨q,hq⟩:=kL d1
  obtain ⟨hq0,hq1⟩:=hkf f hfm q (by rw [hq]; simp)
  obtain ⟨b,rfl⟩:∃ a:Nat,q=a:=⟨q.toNat,by omega⟩
  have hbl:b<x.cols.length:=by omega
  obtain ⟨v,hv'⟩:∃ u,u=x.cols[b]:=⟨_,rfl⟩
  have hgv:∀ h,x.cols[b]'h=v:=fun _=>hv'.symm
  have hhf:fU f.cols=b:=by rw [hq]; rfl
  have htv:=mO hbl hv'.symm
  have hnv:=RQ hbl hv'.symm
  have hiq:aG f.cols=[[.int .i64 b]]:=by rw [hq]; rfl
  have hfk:PC x f=(v.t==1&&(!v.b&&!((b:Int)==a))):=by unfold PC; rw [d1,hhf,htv,hnv,hhp]; rfl
  rw [hhf,hfk] at hbad2 hgood
  by_cases d4:b=a
  ·subst d4
   rw [hbad2 (by simp)]
   simp [hjl,hgf,Fk.c,d1,hiq,hip,hbl,hgv,Tb.c,Col.c]
   (repeat' first|contradiction|exact .ok|apply And.intro|intro _|(apply gc<;>simp+contextual[d1,hiq,hip,hbl,hgv,Tb.c,Col.c]))
   all_goals (try simp [hiq,hip,hbl,hgv,Tb.c,Col.c])
   all_goals (repeat' (first | contradiction | exact .of (by kernel_rfl) | refine And.intro ?_ ?_ | intro _ | (refine aN (fun h=>?_) (fun h=>?_) <;> (have h':=h; (try simp at h'); first | done | simp [h,h'] | simp))))
  have i4:¬ (b:Int)=a:=by omega
  by_cases d2:v.t=1
  rotate_left
  ·rw [hbad2 (by simp [d2])]
   simp [hjl,hgf,Fk.c,d1,hiq,hip,hbl,hgv,Tb.c,Col.c,d2,d4,i4]
   (repeat' first|contradiction|exact .ok|apply And.intro|intro _|(apply gc<;>simp+contextual[d1,hiq,hip,hbl,hgv,Tb.c,Col.c,d2,d4,i4]))
   all_goals (try simp [hiq,hip,hbl,hgv,Tb.c,Col.c,d2,d4,i4])
   all_goals (repeat' (first | contradiction | exact .of (by kernel_rfl) | refine And.intro ?_ ?_ | intro _ | (refine aN (fun h=>?_) (fun h=>?_) <;> (have h':=h; (try simp at h'); first | done | simp [h,h',d2] | simp [d2]))))
  by_cases d3:v.b=true
  ·rw [hbad2 (by simp [d3])]
   simp [hjl,hgf,Fk.c,d1,hiq,hip,hbl,hgv,Tb.c,Col.c,d2,d3,d4,i4]
   (repeat' first|contradiction|exact .ok|apply And.intro|intro _|(apply gc<;>simp+contextual[d1,hiq,hip,hbl,hgv,Tb.c,Col.c,d2,d3,d4,i4]))
   all_goals (try simp [hiq,hip,hbl,hgv,Tb.c,Col.c,d2,d3,d4,i4])
   all_goals (repeat' (first | contradiction | exact .of (by kernel_rfl) | refine And.intro ?_ ?_ | intro _ | (refine aN (fun h=>?_) (fun h=>?_) <;> (have h':=h; (try simp at h'); first | done | simp [h,h',d2,d3] | simp [d2,d3]))))
  have d3':v.b=false:=by simpa using d3
  simp [hjl,hgf,Fk.c,d1,hiq,hip,hbl,hgv,Tb.c,Col.c,d2,d3',d4,i4]
  (repeat' first|contradiction|exact .ok|apply And.intro|intro _|(apply gc<;>simp+contextual[d1,hiq,hip,hbl,hgv,Tb.c,Col.c,d2,d3',d4,i4]))
  refine aL cF (by decide) (fun k:Nat=>{ s:=cG [(1,.ptr 1 0 0),(3,.d (.int .i64 i)),(4,.ptr 4 0 0),(5,.d (.int .i64 j)),(6,.d (.sl (aG f.cols))),(7,.d (.int .i64 k))],b:=cE [(1,1,.var [.d (.sl (S.map Tb.c))]),(4,4,.var (x.c.map AV.d))] })
   (fun k=>k≤j∧(lO x k).contains (b:Int)=false) (fun k=>j - k) 0 ⟨by simp,rfl⟩
   (aE _ [(1,1,_),(4,4,_)] ⟨by simp,by simp,by simp [aB,Blk.live,Tb.c,hip],by simp⟩ (by simp [aB,hiq])) ?_
  rintro k ⟨hk,hc⟩
  by_cases hkj:k<j
  ·have hkl:k<x.fk.length:=by omega
   have hwk:=aH (n:=(k:Int)+1) (by omega) (by omega)
   obtain ⟨g,hg⟩:∃ f,f=x.fk[k]:=⟨_,rfl⟩
   have hgg:∀ h,x.fk[k]'h=g:=fun _=>hg.symm
   have hg1:g.cols.length=1:=hone g (by rw [hg]; exact List.mem_take_iff_getElem.2 ⟨k,by omega,rfl⟩)
   obtain ⟨r,hr⟩:=kL hg1
   have hhg:fU g.cols=r:=by rw [hr]; rfl
   have hir:aG g.cols=[[.int .i64 r]]:=by rw [hr]; rfl
   have hnx:=vV hkl
   rw [← hg,hhg] at hnx
   by_cases er:r=b
   ·subst er
    have hmem:(lO x j).contains (b:Int)=true:=by
     rw [List.contains_iff_mem]
     unfold lO
     exact List.mem_map.2 ⟨g,by rw [hg]; exact List.mem_take_iff_getElem.2 ⟨k,by omega,rfl⟩,hhg⟩
    rw [hbad2 (by rw [hmem]; simp)]
    simp [hkj,hkl,hgg,Fk.c,hir,hiq,Tb.c]
    all_goals exact gz
   ·simp [hkj,hkl,hgg,Fk.c,hir,hiq,Tb.c,er]
    (repeat' first|contradiction|exact .ok|apply And.intro|intro _|(apply gc<;>simp+contextual[er]))
    refine ⟨k+1,⟨by omega,?_⟩,?_,by simp; omega⟩
    ·have er':¬ (b:Int)=r:=fun e=>er e.symm
     rw [hnx,← Bool.not_eq_true,List.contains_iff_mem,List.mem_append,List.mem_singleton]
     rw [← Bool.not_eq_true,List.contains_iff_mem] at hc
     exact fun h=>h.elim hc er'
    ·exact aE _ [(1,1,_),(4,4,_)] ⟨by simp,by simp,by simp [aB,Blk.live,Tb.c,hip],by simp⟩ (by simp [aB,hwk,hiq])
  ·obtain rfl:k=j:=by omega
   simp
   (repeat' first|contradiction|exact .ok|apply And.intro|intro _|(apply gc<;>simp+contextual))
   refine ⟨k+1,⟨by omega,hgood (by rw [hc]; simp [d2,d3',i4]),fun g hg=>?_⟩,?_,by simp; omega⟩
   ·rw [bV hjl,← hf] at hg
    rcases List.mem_append.1 hg with hg | hg
    ·exact hone g hg
    ·simp at hg; subst hg; exact d1
   ·exact aE _ [(1,1,_),(4,4,_)] ⟨by simp,by simp,by simp [aB,Blk.live,Tb.c,hip],by simp⟩ (by simp [aB,hwj])
 obtain rfl:j=x.fk.length:=by omega
 rw [List.drop_length,kK] at hB
 rw [← hB,Bool.true_and] at hbad hat
 clear hB hone hjl hj
 have hhl:=hox.ch
 simp [Tb.c]
 (repeat' first|contradiction|exact .ok|apply And.intro|intro _|(apply gc<;>simp+contextual))
 refine aL cF (by decide) (fun m:Nat=>{ s:=cG [(1,.ptr 1 0 0),(3,.d (.int .i64 i)),(4,.ptr 4 0 0),(8,.d (.int .i64 m))],b:=cE [(1,1,.var [.d (.sl (S.map Tb.c))]),(4,4,.var (x.c.map AV.d))] })
  (fun m=>m≤x.ch.length∧(x.ch.take m).any (fun e=>e.cols.any (dJ x))=false) (fun m=>x.ch.length - m) 0 ⟨by simp,rfl⟩
  (aE _ [(1,1,_),(4,4,_)] ⟨by simp,by simp,by simp [aB,Blk.live,Tb.c,hip],by simp⟩ (by simp [aB])) ?_
 rintro m ⟨hm,hc⟩
 by_cases hml:m<x.ch.length
 ·have hwm:=aH (n:=(m:Int)+1) (by omega) (by omega)
  have hct:=qP (p:=fun e:Ex=>e.cols.any (dJ x)) hml
  have hcg:=oW (p:=fun e:Ex=>e.cols.any (dJ x)) hml
  obtain ⟨e,he⟩:∃ f,f=x.ch[m]:=⟨_,rfl⟩
  have hge:∀ h,x.ch[m]'h=e:=fun _=>he.symm
  have hem:=hEx e (by rw [he]; exact List.getElem_mem hml)
  have hrc:=GI _ e (Nat.lt_succ_self _) 0 hem.few hem.nodes
  rw [GH,EC] at hrc
  have hcl:=RP e hem
  rw [← he] at hct hcg
  generalize e.cols=l at *
  have hbad3:l.any (dJ x)=true→A=false:=fun h=>hbad (by rw [hcg h]; rfl)
  rcases e with ⟨o,cc,n,t,g,ks⟩
  simp [hml,hge,Ex.c,Tb.c]
  (repeat' first|contradiction|exact .ok|apply And.intro|intro _|(apply gc<;>simp+contextual))
  refine aA (gL hrc) (by simp [Ex.a,Ex.c]) ?_
  simp
  (repeat' first|contradiction|exact .ok|apply And.intro|intro _|(apply gc<;>simp+contextual))
  refine aL cF (by decide) (fun k:Nat=>{ s:=cG [(1,.ptr 1 0 0),(3,.d (.int .i64 i)),(4,.ptr 4 0 0),(8,.d (.int .i64 m)),(9,.d (.sl (aG l))),(10,.d (.int .i64 k))],b:=cE [(1,1,.var [.d (.sl (S.map Tb.c))]),(4,4,.var (x.c.map AV.d))] })
   (fun k=>k≤l.length∧(l.take k).any (dJ x)=false) (fun k=>l.length - k) 0 ⟨by simp,rfl⟩
   (aE _ [(1,1,_),(4,4,_)] ⟨by simp,by simp,by simp [aB,Blk.live,Tb.c,hip],by simp⟩ (by simp [aB])) ?_
  rintro k ⟨hk,hlk⟩
  by_cases hkl:k<l.length
  ·have hwk:=aH (n:=(k:Int)+1) (by omega) (by omega)
   have hlt2:=qP (p:=dJ x) hkl
   have hlg:=oW (p:=dJ x) hkl
   have hgk:=dS hkl
   obtain ⟨z,hz⟩:∃ f,f=l[k]:=⟨_,rfl⟩
   have hgz:∀ h,l[k]'h=z:=fun _=>hz.symm
   rw [← hz] at hlt2 hlg hgk
   simp [hkl,hgz,hgk,Tb.c]
   (repeat' first|contradiction|exact .ok|apply And.intro|intro _|(apply gc<;>simp+contextual))
   refine aA (gL (aAB x hox z)) (by simp [Tb.a,Tb.c]) ?_
   cases hkz:dJ x z with
   | true =>
     rw [hbad3 (hlg hkz)]
     simp [hkz]
     (repeat' first|contradiction|exact .ok|apply And.intro|intro _|(apply gc<;>simp+contextual[hkz]))
   | false =>
     simp [hkz]
     (repeat' first|contradiction|exact .ok|apply And.intro|intro _|(apply gc<;>simp+contextual[hkz]))
     refine ⟨k+1,⟨by omega,by rw [hlt2,hlk,hkz]; rfl⟩,?_,by simp; omega⟩
     exact aE _ [(1,1,_),(4,4,_)] ⟨by simp,by simp,by simp [aB,Blk.live,Tb.c,hip],by simp⟩ (by simp [aB,hwk])
  ·obtain rfl:k=l.length:=by omega
   rw [List.take_length] at hlk
   simp
   (repeat' first|contradiction|exact .ok|apply And.intro|intro _|(apply gc<;>simp+contextual))
   refine ⟨m+1,⟨by omega,by rw [hct,hc,hlk]; rfl⟩,?_,by simp; omega⟩
   exact aE _ [(1,1,_),(4,4,_)] ⟨by simp,by simp,by simp [aB,Blk.live,Tb.c,hip],by simp⟩ (by simp [aB,hwm])
 ·obtain rfl:m=x.ch.length:=by omega
  rw [List.take_length] at hc
  rw [hc] at hat
  simp [Tb.c]
  (repeat' first|contradiction|exact .ok|apply And.intro|intro _|(apply gc<;>simp+contextual))
  refine ⟨i+1,⟨by omega,hat⟩,?_,by simp; omega⟩
  exact aE _ [(1,1,_)] ⟨by simp,by simp,by simp [aB,Blk.live],by simp⟩ (by simp [aB,hw])
end Go.Proofs.Tryz
