import Derived.Test.YtkkbepgccddjoaaGreatDoorPlb
set_option linter.all false
namespace Go.Proofs.Tryz
open Go.Ab
set_option maxRecDepth 100000
set_option maxHeartbeats 8000000
theorem YT {α:Type} {l:List α} {p:α→Bool} {i:Nat} (h:i<l.length):(l.take (i+1)).all p=((l.take i).all p&&p l[i]):=by
 rw [bI h,List.all_append]
 simp only [List.all_cons,List.all_nil,Bool.and_true]
theorem aEr (S:List Tb) (hl:S.length≤1000) (hS:∀ x∈S,x.ok) (hE:∀ x∈S,∀ e∈x.ch,DJ e) (ty:Tb→Ex→Int×Int)
  (hv:Cf Es 80 [aN S] [] (.d (.int .i64 (dY fN ty S))) []) :
  Cf Es 61 [aN S] [] (.d (.bool (OH (dY fN ty S) S))) []:=by
 refine cI bM (fn:=Tryz.f61) rfl ?_
 have hK:dY fN ty S=0→∀ x∈S,gD x=0:=GZ
 have hPl:OH (dY fN ty S) S=(dY fN ty S==0&&S.all gJ):=rfl
 rw [hPl]
 clear hPl
 generalize dY fN ty S=e at *
 simp [aN]
 (repeat' first|contradiction|exact .ok|apply And.intro|intro _|(apply gc<;>simp+contextual))
 refine aA hv (by simp [aN]) ?_
 by_cases he:e=0
 rotate_left
 ·simp [he]
  (repeat' first|contradiction|exact .ok|apply And.intro|intro _|(apply gc<;>simp+contextual[he]))
 subst he
 replace hK:=hK rfl
 generalize hA:S.all gJ=A at *
 simp
 (repeat' first|contradiction|exact .ok|apply And.intro|intro _|(apply gc<;>simp+contextual))
 refine aL bM (fun i:Nat=>{ s:=cE [(1,.ptr 1 0 0),(3,.d (.int .i64 i))],b:=cC [(1,1,.var [.d (.sl (S.map Tb.c))])] }) (fun i=>i≤S.length∧(S.take i).all gJ=true) (fun i=>S.length - i) 0 (by simp)
  (sM _ [(1,1,_)] (by simp [aB,Blk.live]) (by simp [aB])) ?_
 rintro i ⟨hi,hf⟩
 by_cases hlt:i<S.length
 rotate_left
 ·obtain rfl:i=S.length:=by omega
  rw [List.take_length,hA] at hf
  rw [hf]
  simp
  all_goals exact gz
 have hat:=YT (p:=gJ) hlt
 have hw:=wI (n:=(i:Int)+1)
 obtain ⟨x,hx⟩:∃ c,c=S[i]:=⟨_,rfl⟩
 have hgi:∀ h,S[i]'h=x:=fun _=>hx.symm
 have hxm:x∈S:=by rw [hx]; exact List.getElem_mem hlt
 rw [← hx,hf,Bool.true_and] at hat
 have hbad:gJ x=false→A=false:=fun h=>by
  rw [← hA,List.all_eq_false]
  exact ⟨x,hxm,by simp [h]⟩
 clear hf hA
 have hox:=hS x hxm
 obtain ⟨hkp,hkf⟩:=oW (hK x hxm)
 have hfl:=hox.fk
 have hEx:=hE x hxm
 by_cases c1:x.pr.length=1
 rotate_left
 ·have i1:¬ (x.pr.length:Int)=1:=by omega
  rw [hbad (by unfold gJ prB; simp [c1])]
  simp [hlt,hgi,Tb.c,i1]
  (repeat' first|contradiction|exact .ok|apply And.intro|intro _|(apply gc<;>simp+contextual[c1,i1]))
 obtain ⟨p,hp⟩:=jM c1
 obtain ⟨hp0,hp1⟩:=hkp p (by rw [hp]; simp)
 obtain ⟨a,rfl⟩:∃ a:Nat,p=a:=⟨p.toNat,by omega⟩
 have hal:a<x.cols.length:=by omega
 obtain ⟨u,hu⟩:∃ u,u=x.cols[a]:=⟨_,rfl⟩
 have hgu:∀ h,x.cols[a]'h=u:=fun _=>hu.symm
 have hhp:eA x.pr=a:=by rw [hp]; rfl
 have hty:=nP hal hu.symm
 have hip:aD x.pr=[[.int .i64 a]]:=by rw [hp]; rfl
 by_cases c2:u.t=1
 rotate_left
 ·rw [hbad (by unfold gJ prB; rw [hhp,hty]; simp [c2])]
  simp [hlt,hgi,Tb.c,hip,hal,hgu,Col.c,c2]
  (repeat' first|contradiction|exact .ok|apply And.intro|intro _|(apply gc<;>simp+contextual[c1,hip,hal,hgu,Col.c,c2]))
  all_goals (try simp [c1,hip,hal,hgu,Col.c,c2])
  all_goals (repeat' (first | contradiction | exact .of (by kernel_rfl) | refine And.intro ?_ ?_ | intro _ | (refine aK (fun h=>?_) (fun h=>?_) <;> (have h':=h; (try simp at h'); first | done | simp [h,h',c2] | simp [c2]))))
 by_cases c3:x.un=[]
 rotate_left
 ·have hpos:(0:Int)<x.un.length:=by have:=List.length_pos_iff.2 c3; omega
  have hpos2:0<x.un.length:=by omega
  rw [hbad (by unfold gJ prB; simp [c3])]
  simp [hlt,hgi,Tb.c,hip,hal,hgu,Col.c,c2,hpos2]
  (repeat' first|contradiction|exact .ok|apply And.intro|intro _|(apply gc<;>simp+contextual[c1,hip,hal,hgu,Col.c,c2,hpos,hpos2,c3]))
  all_goals (try simp [c1,hip,hal,hgu,Col.c,c2,hpos,hpos2,c3])
  all_goals (repeat' (first | contradiction | exact .of (by kernel_rfl) | refine And.intro ?_ ?_ | intro _ | (refine aK (fun h=>?_) (fun h=>?_) <;> (have h':=h; (try simp at h'); first | done | simp [h,h',c2] | simp [c2]))))
 have hPr:prB x=true:=by unfold prB; rw [c1,hhp,hty,c2,c3]; rfl
 have hR:gJ x=(lL x [] x.fk&&!(x.ch.any fun e=>e.cols.any (cU x))):=by unfold gJ; rw [hPr,Bool.true_and]
 rw [hR] at hbad hat
 clear hR hPr
 simp [hlt,hgi,Tb.c,hip,hal,hgu,Col.c,c2,c3]
 (repeat' first|contradiction|exact .ok|apply And.intro|intro _|(apply gc<;>simp+contextual[c1,hip,hal,hgu,Col.c,c2,c3]))
 refine aL bM (fun j:Nat=>{ s:=cE [(1,.ptr 1 0 0),(3,.d (.int .i64 i)),(4,.ptr 4 0 0),(5,.d (.int .i64 j))],b:=cC [(1,1,.var [.d (.sl (S.map Tb.c))]),(4,4,.var (x.c.map AV.d))] })
  (fun j=>j≤x.fk.length∧lL x (mN x j) (x.fk.drop j)=lL x [] x.fk∧∀ f∈x.fk.take j,f.cols.length=1) (fun j=>x.fk.length - j) 0 ⟨by simp,rfl,by simp⟩
  (sM _ [(1,1,_),(4,4,_)] (by simp [aB,Blk.live,Tb.c,hip,c3]) (by simp [aB])) ?_
 rintro j ⟨hj,hB,hone⟩
 by_cases hjl:j<x.fk.length
 ·rw [GY hjl] at hB
  have hwj:=wI (n:=(j:Int)+1)
  obtain ⟨f,hf⟩:∃ f,f=x.fk[j]:=⟨_,rfl⟩
  have hgf:∀ h,x.fk[j]'h=f:=fun _=>hf.symm
  have hfm:f∈x.fk:=by rw [hf]; exact List.getElem_mem hjl
  rw [← hf] at hB
  have hbad2:(VQ x f&&!(mN x j).contains (eA f.cols))=false→A=false:=fun h=>by
   rw [h,Bool.false_and] at hB
   exact hbad (by rw [← hB,Bool.false_and])
  have hgood:(VQ x f&&!(mN x j).contains (eA f.cols))=true→lL x (mN x (j+1)) (x.fk.drop (j+1))=lL x [] x.fk:=fun h=>by rw [← hB,h,Bool.true_and]
  clear hB
  by_cases d1:f.cols.length=1
  rotate_left
  ·have i1:¬ (f.cols.length:Int)=1:=by omega
   rw [hbad2 (by unfold VQ; simp [d1])]
   simp [hjl,hgf,Tb.c,Fk.c,i1]
   (repeat' first|contradiction|exact .ok|apply And.intro|intro _|(apply gc<;>simp+contextual[d1,i1]))
  obtain ⟨q,hq⟩:=jM d1
  obtain ⟨hq0,hq1⟩:=hkf f hfm q (by rw [hq]; simp)
  obtain ⟨b,rfl⟩:∃ a:Nat,q=a:=⟨q.toNat,by omega⟩
  have hbl:b<x.cols.length:=by omega
  obtain ⟨v,hv'⟩:∃ u,u=x.cols[b]:=⟨_,rfl⟩
  have hgv:∀ h,x.cols[b]'h=v:=fun _=>hv'.symm
  have hhf:eA f.cols=b:=by rw [hq]; rfl
  have htv:=nP hbl hv'.symm
  have hnv:=VR hbl hv'.symm
  have hiq:aD f.cols=[[.int .i64 b]]:=by rw [hq]; rfl
  have hfk:VQ x f=(v.t==1&&(!v.b&&!((b:Int)==a))):=by unfold VQ; rw [d1,hhf,htv,hnv,hhp]; rfl
  rw [hhf,hfk] at hbad2 hgood
  by_cases d4:b=a
  ·subst d4
   rw [hbad2 (by simp)]
   simp [hjl,hgf,Fk.c,hiq,hip,Tb.c]
   (repeat' first|contradiction|exact .ok|apply And.intro|intro _|(apply gc<;>simp+contextual[d1,hiq,hip,hbl,hgv,Tb.c,Col.c]))
   all_goals (try simp [hiq,hip,hbl,hgv,Tb.c,Col.c])
   all_goals (repeat' (first | contradiction | exact .of (by kernel_rfl) | refine And.intro ?_ ?_ | intro _ | (refine aK (fun h=>?_) (fun h=>?_) <;> (have h':=h; (try simp at h'); first | done | simp [h,h'] | simp))))
  have i4:¬ (b:Int)=a:=by omega
  by_cases d2:v.t=1
  rotate_left
  ·rw [hbad2 (by simp [d2])]
   simp [hjl,hgf,Fk.c,hiq,hip,hbl,hgv,Tb.c,Col.c,d2,i4]
   (repeat' first|contradiction|exact .ok|apply And.intro|intro _|(apply gc<;>simp+contextual[d1,hiq,hip,hbl,hgv,Tb.c,Col.c,d2,d4,i4]))
   all_goals (try simp [hiq,hip,hbl,hgv,Tb.c,Col.c,d2,d4,i4])
   all_goals (repeat' (first | contradiction | exact .of (by kernel_rfl) | refine And.intro ?_ ?_ | intro _ | (refine aK (fun h=>?_) (fun h=>?_) <;> (have h':=h; (try simp at h'); first | done | simp [h,h',d2] | simp [d2]))))
  by_cases d3:v.b=true
  ·rw [hbad2 (by simp [d3])]
   simp [hjl,hgf,Fk.c,hiq,hip,hbl,hgv,Tb.c,Col.c,d2,d3,i4]
   (repeat' first|contradiction|exact .ok|apply And.intro|intro _|(apply gc<;>simp+contextual[d1,hiq,hip,hbl,hgv,Tb.c,Col.c,d2,d3,d4,i4]))
   all_goals (try simp [hiq,hip,hbl,hgv,Tb.c,Col.c,d2,d3,d4,i4])
   all_goals (repeat' (first | contradiction | exact .of (by kernel_rfl) | refine And.intro ?_ ?_ | intro _ | (refine aK (fun h=>?_) (fun h=>?_) <;> (have h':=h; (try simp at h'); first | done | simp [h,h',d2,d3] | simp [d2,d3]))))
  have d3':v.b=false:=by simpa using d3
  simp [hjl,hgf,Fk.c,hiq,hip,hbl,hgv,Tb.c,Col.c,d2,d3',i4]
  (repeat' first|contradiction|exact .ok|apply And.intro|intro _|(apply gc<;>simp+contextual[d1,hiq,hip,hbl,hgv,Tb.c,Col.c,d2,d3',d4,i4]))
  refine aL bM (fun k:Nat=>{ s:=cE [(1,.ptr 1 0 0),(3,.d (.int .i64 i)),(4,.ptr 4 0 0),(5,.d (.int .i64 j)),(6,.d (.sl (aD f.cols))),(7,.d (.int .i64 k))],b:=cC [(1,1,.var [.d (.sl (S.map Tb.c))]),(4,4,.var (x.c.map AV.d))] })
   (fun k=>k≤j∧(mN x k).contains (b:Int)=false) (fun k=>j - k) 0 ⟨by simp,rfl⟩
   (sM _ [(1,1,_),(4,4,_)] (by simp [aB,Blk.live,Tb.c,hip]) (by simp [aB,hiq])) ?_
  rintro k ⟨hk,hc⟩
  by_cases hkj:k<j
  ·have hkl:k<x.fk.length:=by omega
   have hwk:=wI (n:=(k:Int)+1)
   obtain ⟨g,hg⟩:∃ f,f=x.fk[k]:=⟨_,rfl⟩
   have hgg:∀ h,x.fk[k]'h=g:=fun _=>hg.symm
   have hg1:g.cols.length=1:=hone g (by rw [hg]; exact List.mem_take_iff_getElem.2 ⟨k,by omega,rfl⟩)
   obtain ⟨r,hr⟩:=jM hg1
   have hhg:eA g.cols=r:=by rw [hr]; rfl
   have hir:aD g.cols=[[.int .i64 r]]:=by rw [hr]; rfl
   have hnx:=xR hkl
   rw [← hg,hhg] at hnx
   by_cases er:r=b
   ·subst er
    have hmem:(mN x j).contains (b:Int)=true:=by
     rw [List.contains_iff_mem]
     unfold mN
     exact List.mem_map.2 ⟨g,by rw [hg]; exact List.mem_take_iff_getElem.2 ⟨k,by omega,rfl⟩,hhg⟩
    rw [hbad2 (by rw [hmem]; simp)]
    simp [hkj,hkl,hgg,Fk.c,hir,hiq,Tb.c]
    all_goals exact gz
   ·simp [hkj,hkl,hgg,Fk.c,hir,hiq,Tb.c,er]
    (repeat' first|contradiction|exact .ok|apply And.intro|intro _|(apply gc<;>simp+contextual[er]))
    refine ⟨k+1,⟨by omega,?_⟩,?_,by simp; omega⟩
    ·have er':¬ (b:Int)=r:=fun e=>er e.symm
     rw [hnx,← Bool.not_eq_true,List.contains_iff_mem,List.mem_append,List.mem_singleton]
     rw [← Bool.not_eq_true,List.contains_iff_mem] at hc
     exact fun h=>h.elim hc er'
    ·exact sM _ [(1,1,_),(4,4,_)] (by simp [aB,Blk.live,hip]) (by simp [aB,hwk,hiq])
  ·obtain rfl:k=j:=by omega
   simp
   (repeat' first|contradiction|exact .ok|apply And.intro|intro _|(apply gc<;>simp+contextual))
   refine ⟨k+1,⟨by omega,hgood (by rw [hc]; simp [d2,d3',i4]),fun g hg=>?_⟩,?_,by simp; omega⟩
   ·rw [bI hjl,← hf] at hg
    rcases List.mem_append.1 hg with hg | hg
    ·exact hone g hg
    ·simp at hg; subst hg; exact d1
   ·exact sM _ [(1,1,_),(4,4,_)] (by simp [aB,Blk.live,Tb.c,hip]) (by simp [aB,hwj])
 obtain rfl:j=x.fk.length:=by omega
 rw [List.drop_length,lL] at hB
 rw [← hB,Bool.true_and] at hbad hat
 clear hB hone hjl hj
 have hhl:=hox.ch
 simp [Tb.c]
 (repeat' first|contradiction|exact .ok|apply And.intro|intro _|(apply gc<;>simp+contextual))
 refine aL bM (fun m:Nat=>{ s:=cE [(1,.ptr 1 0 0),(3,.d (.int .i64 i)),(4,.ptr 4 0 0),(8,.d (.int .i64 m))],b:=cC [(1,1,.var [.d (.sl (S.map Tb.c))]),(4,4,.var (x.c.map AV.d))] })
  (fun m=>m≤x.ch.length∧(x.ch.take m).any (fun e=>e.cols.any (cU x))=false) (fun m=>x.ch.length - m) 0 ⟨by simp,rfl⟩
  (sM _ [(1,1,_),(4,4,_)] (by simp [aB,Blk.live,Tb.c,hip]) (by simp [aB])) ?_
 rintro m ⟨hm,hc⟩
 by_cases hml:m<x.ch.length
 ·have hwm:=wI (n:=(m:Int)+1)
  have hct:=sH (p:=fun e:Ex=>e.cols.any (cU x)) hml
  have hcg:=qH (p:=fun e:Ex=>e.cols.any (cU x)) hml
  obtain ⟨e,he⟩:∃ f,f=x.ch[m]:=⟨_,rfl⟩
  have hge:∀ h,x.ch[m]'h=e:=fun _=>he.symm
  have hem:=hEx e (by rw [he]; exact List.getElem_mem hml)
  have hrc:=JJ _ e (Nat.lt_succ_self _) 0 hem.few hem.nodes
  rw [JI,GX] at hrc
  have hcl:=VP e hem
  rw [← he] at hct hcg
  generalize e.cols=l at *
  have hbad3:l.any (cU x)=true→A=false:=fun h=>hbad (by rw [hcg h]; rfl)
  rcases e with ⟨o,cc,n,t,g,ks⟩
  simp [hml,hge,Ex.c,Tb.c]
  (repeat' first|contradiction|exact .ok|apply And.intro|intro _|(apply gc<;>simp+contextual))
  refine aA (eG hrc) (by simp [Ex.a,Ex.c]) ?_
  simp
  (repeat' first|contradiction|exact .ok|apply And.intro|intro _|(apply gc<;>simp+contextual))
  refine aL bM (fun k:Nat=>{ s:=cE [(1,.ptr 1 0 0),(3,.d (.int .i64 i)),(4,.ptr 4 0 0),(8,.d (.int .i64 m)),(9,.d (.sl (aD l))),(10,.d (.int .i64 k))],b:=cC [(1,1,.var [.d (.sl (S.map Tb.c))]),(4,4,.var (x.c.map AV.d))] })
   (fun k=>k≤l.length∧(l.take k).any (cU x)=false) (fun k=>l.length - k) 0 ⟨by simp,rfl⟩
   (sM _ [(1,1,_),(4,4,_)] (by simp [aB,Blk.live,Tb.c,hip]) (by simp [aB])) ?_
  rintro k ⟨hk,hlk⟩
  by_cases hkl:k<l.length
  ·have hwk:=wI (n:=(k:Int)+1)
   have hlt2:=sH (p:=cU x) hkl
   have hlg:=qH (p:=cU x) hkl
   have hgk:=eE hkl
   obtain ⟨z,hz⟩:∃ f,f=l[k]:=⟨_,rfl⟩
   have hgz:∀ h,l[k]'h=z:=fun _=>hz.symm
   rw [← hz] at hlt2 hlg hgk
   simp [hkl,hgz,Tb.c]
   (repeat' first|contradiction|exact .ok|apply And.intro|intro _|(apply gc<;>simp+contextual))
   refine aA (eG (PR x hox z)) (by simp [Tb.a,Tb.c]) ?_
   cases hkz:cU x z with
   | true =>
     rw [hbad3 (hlg hkz)]
     simp
     (repeat' first|contradiction|exact .ok|apply And.intro|intro _|(apply gc<;>simp+contextual[hkz]))
   | false =>
     simp
     (repeat' first|contradiction|exact .ok|apply And.intro|intro _|(apply gc<;>simp+contextual[hkz]))
     refine ⟨k+1,⟨by omega,by rw [hlt2,hlk,hkz]; rfl⟩,?_,by simp; omega⟩
     exact sM _ [(1,1,_),(4,4,_)] (by simp [aB,Blk.live,hip]) (by simp [aB,hwk])
  ·obtain rfl:k=l.length:=by omega
   rw [List.take_length] at hlk
   simp
   (repeat' first|contradiction|exact .ok|apply And.intro|intro _|(apply gc<;>simp+contextual))
   refine ⟨m+1,⟨by omega,by rw [hct,hc,hlk]; rfl⟩,?_,by simp; omega⟩
   exact sM _ [(1,1,_),(4,4,_)] (by simp [aB,Blk.live,Tb.c,hip]) (by simp [aB,hwm])
 ·obtain rfl:m=x.ch.length:=by omega
  rw [List.take_length] at hc
  rw [hc] at hat
  simp [Tb.c]
  (repeat' first|contradiction|exact .ok|apply And.intro|intro _|(apply gc<;>simp+contextual))
  refine ⟨i+1,⟨by omega,hat⟩,?_,by simp; omega⟩
  exact sM _ [(1,1,_)] (by simp [aB,Blk.live]) (by simp [aB,hw])
end Go.Proofs.Tryz
