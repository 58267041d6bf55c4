import Derived.Test.YtkkbepgccddjoaaGreatDoorCShr
set_option linter.all false
namespace Go.Proofs.Tryz
open Go.Ab
set_option maxRecDepth 100000
set_option maxHeartbeats 4000000
theorem aCP (S:List Tb) (hl:S.length≤1000) (hS:∀ x∈S,x.ok) (hU:∀ x∈S,∀ l∈x.un,l.length≤1000) (ty:Tb→Ex→Int×Int)
  (hty:∀ x∈S,∀ e∈x.ch,Cf Es 100 [.d (.sl (aD (x.cols.map Col.t))),e.a] [] (.tup [.d (.int .i64 (ty x e).1),.d (.int .i64 (ty x e).2)]) []) :
  Cf Es 80 [aN S] [] (.d (.int .i64 (dY fN ty S))) []:=by
 refine cI bM (fn:=Tryz.f80) rfl ?_
 by_cases c1:6<S.length
 ·have i1:(6:Int)<S.length:=by omega
  rw [show dY fN ty S=8 from by unfold dY; rw [if_pos c1]]
  simp [aN,i1]
  (repeat' first|contradiction|exact .ok|apply And.intro|intro _|(apply gc<;>simp+contextual[i1,c1]))
 have i1:¬ (6:Int)<S.length:=by omega
 have hR2:fI (bG (kI fN ty S) S 0) (fI (bG (fun _ x=>bG (fun _=>kJ S x) x.fk 0) S 0) (gB S).2)=dY fN ty S:=by unfold dY; rw [if_neg c1]
 generalize dY fN ty S=T at *
 simp [aN,i1]
 (repeat' first|contradiction|exact .ok|apply And.intro|intro _|(apply gc<;>simp+contextual[i1,c1]))
 clear i1 c1
 refine aL bM (fun i:Nat=>{ s:=cE [(1,.ptr 1 0 0),(3,.d (.int .i64 i))],b:=cC [(1,1,.var [.d (.sl (S.map Tb.c))])] }) (fun i=>i≤S.length∧bG (kI fN ty S) (S.drop i) i=bG (kI fN ty S) S 0) (fun i=>S.length - i) 0 (by simp)
  (sM _ [(1,1,_)] (by simp [aB,Blk.live]) (by simp [aB])) ?_
 rintro i ⟨hi,hf⟩
 by_cases hlt:i<S.length
 ·rw [eL hlt] at hf
  have hw:=wI (n:=(i:Int)+1)
  obtain ⟨x,hx⟩:∃ c,c=S[i]:=⟨_,rfl⟩
  have hgi:∀ h,S[i]'h=x:=fun _=>hx.symm
  have hxm:x∈S:=by rw [hx]; exact List.getElem_mem hlt
  obtain ⟨k,hk,hki⟩:=oU (p:=fun d:Tb=>d.n==x.n) (b:=0) hlt (by rw [← hx]; simp)
  have hk':aV (fun d:Tb=>d.n==x.n) S 0=k:=by rw [hk]; simp
  rw [← hx] at hf
  have hE:kI fN ty S i x=if fN x.n=false then 3 else if (k:Int)<i then 5 else fB fN ty x:=by unfold kI; rw [hk']
  have hbad:∀ z:Int,kI fN ty S i x=z→z ≠ 0→T=z:=fun z h h0=>by
   rw [h,if_pos h0] at hf
   rw [← hR2,← hf,fK h0]
  have hgood:kI fN ty S i x=0→bG (kI fN ty S) (S.drop (i+1)) (i+1)=bG (kI fN ty S) S 0:=fun h=>by
   rw [h,if_neg (by simp)] at hf
   exact hf
  have htb:=aCL x (hS x hxm) (hU x hxm) ty (hty x hxm)
  generalize kI fN ty S i x=E at *
  simp [hlt,hgi,Tb.c]
  (repeat' first|contradiction|exact .ok|apply And.intro|intro _|(apply gc<;>simp+contextual))
  refine aP (aBu x.n) ?_
  cases hn:fN x.n with
  | false =>
    rw [hn,if_pos rfl] at hE
    rw [hbad 3 hE (by decide)]
    simp [hn]
    (repeat' first|contradiction|exact .ok|apply And.intro|intro _|(apply gc<;>simp+contextual[hn]))
  | true =>
    rw [hn,if_neg (by decide)] at hE
    simp [hn,hlt,hgi,Tb.c]
    (repeat' first|contradiction|exact .ok|apply And.intro|intro _|(apply gc<;>simp+contextual[hn]))
    refine aA (eG (wJ S hl x.n)) (by simp [aN]) ?_
    rw [cN hk']
    by_cases hki2:k<i
    ·rw [if_pos (by omega)] at hE
     rw [hbad 5 hE (by decide)]
     have hki4:¬ k=i:=by omega
     have hki5:¬ (k:Int)=i:=by omega
     simp [hki5]
     (repeat' first|contradiction|exact .ok|apply And.intro|intro _|(apply gc<;>simp+contextual[hki4,hki5]))
    ·rw [if_neg (by omega)] at hE
     obtain rfl:k=i:=by omega
     simp [hlt,hgi,Tb.c]
     (repeat' first|contradiction|exact .ok|apply And.intro|intro _|(apply gc<;>simp+contextual))
     refine aA htb (by simp [Tb.a,Tb.c]) ?_
     generalize fB fN ty x=e at *
     by_cases he:e=0
     ·simp [he]
      (repeat' first|contradiction|exact .ok|apply And.intro|intro _|(apply gc<;>simp+contextual[he]))
      refine ⟨k+1,⟨by omega,hgood (by rw [hE,he])⟩,?_,by simp; omega⟩
      exact sM _ [(1,1,_)] (by simp [aB,Blk.live]) (by simp [aB,hw])
     ·rw [hbad e hE he]
      simp [he]
      (repeat' first|contradiction|exact .ok|apply And.intro|intro _|(apply gc<;>simp+contextual[he]))
 obtain rfl:i=S.length:=by omega
 rw [fJ (Nat.le_refl _)] at hf
 have hK:=KU hf.symm
 rw [← hf,eY] at hR2
 clear hf hi hlt
 simp
 (repeat' first|contradiction|exact .ok|apply And.intro|intro _|(apply gc<;>simp+contextual))
 refine aL bM (fun i:Nat=>{ s:=cE [(1,.ptr 1 0 0),(7,.d (.int .i64 i))],b:=cC [(1,1,.var [.d (.sl (S.map Tb.c))])] }) (fun i=>i≤S.length∧bG (fun _ x=>bG (fun _=>kJ S x) x.fk 0) (S.drop i) i=bG (fun _ x=>bG (fun _=>kJ S x) x.fk 0) S 0) (fun i=>S.length - i) 0 (by simp)
  (sM _ [(1,1,_)] (by simp [aB,Blk.live]) (by simp [aB])) ?_
 rintro i ⟨hi,hf⟩
 by_cases hlt:i<S.length
 ·rw [eL hlt] at hf
  have hw:=wI (n:=(i:Int)+1)
  obtain ⟨x,hx⟩:∃ c,c=S[i]:=⟨_,rfl⟩
  have hgi:∀ h,S[i]'h=x:=fun _=>hx.symm
  have hxm:x∈S:=by rw [hx]; exact List.getElem_mem hlt
  have hxf:=(hS x hxm).fk
  rw [← hx] at hf
  simp [hlt]
  (repeat' first|contradiction|exact .ok|apply And.intro|intro _|(apply gc<;>simp+contextual))
  refine aL bM (fun j:Nat=>{ s:=cE [(1,.ptr 1 0 0),(7,.d (.int .i64 i)),(8,.d (.int .i64 j))],b:=cC [(1,1,.var [.d (.sl (S.map Tb.c))])] }) (fun j=>j≤x.fk.length∧bG (fun _=>kJ S x) (x.fk.drop j) j=bG (fun _=>kJ S x) x.fk 0) (fun j=>x.fk.length - j) 0 (by simp)
   (sM _ [(1,1,_)] (by simp [aB,Blk.live]) (by simp [aB])) ?_
  rintro j ⟨hj,hg⟩
  by_cases hjl:j<x.fk.length
  ·rw [eL hjl] at hg
   have hwj:=wI (n:=(j:Int)+1)
   obtain ⟨f,hfx⟩:∃ c,c=x.fk[j]:=⟨_,rfl⟩
   have hgf:∀ h,x.fk[j]'h=f:=fun _=>hfx.symm
   have hfm:f∈x.fk:=by rw [hfx]; exact List.getElem_mem hjl
   rw [← hfx] at hg
   have hbad:∀ z:Int,kJ S x f=z→z ≠ 0→T=z:=fun z h h0=>by
    rw [h,if_pos h0] at hg
    rw [← hg,if_pos h0] at hf
    rw [← hf,fK h0] at hR2
    exact hR2.symm
   have hgood:kJ S x f=0→bG (fun _=>kJ S x) (x.fk.drop (j+1)) (j+1)=bG (fun _=>kJ S x) x.fk 0:=fun h=>by
    rw [h,if_neg (by simp)] at hg
    exact hg
   simp [hlt,hgi,hjl,Tb.c]
   (repeat' first|contradiction|exact .ok|apply And.intro|intro _|(apply gc<;>simp+contextual))
   refine aA (eG (gH S hl hS hlt hx.symm hjl hfx.symm)) (by simp [aN]) ?_
   by_cases hz:0≤tgt S f
   rotate_left
   ·have hR:kJ S x f=11:=by
     unfold kJ
     split
     ·rw [if_pos (by omega)]
     ·rfl
    rw [hbad 11 hR (by decide),oS (rV hz)]
    simp
    all_goals exact gz
   obtain ⟨k,hk⟩:∃ k:Nat,tgt S f=k:=⟨(tgt S f).toNat,by omega⟩
   have hkl:k<S.length:=by
    have:=qB (p:=fun x:Tb=>x.n==f.t) (l:=S) (i:=0)
    have h2:aV (fun x:Tb=>x.n==f.t) S 0=k:=hk
    rw [h2] at this
    simp at this
    exact this
   obtain ⟨o,ho⟩:∃ o,o=S[k]:=⟨_,rfl⟩
   have hgk:∀ h,S[k]'h=o:=fun _=>ho.symm
   have hom:o∈S:=by rw [ho]; exact List.getElem_mem hkl
   have hR:kJ S x f=if mT x o f.cols o.pr=true then 0 else 6:=by
    unfold kJ
    rw [hk,Int.toNat_natCast,gE hkl,← ho]
    simp only
    rw [if_neg (by omega)]
   have ha:=(oW (hK x hxm)).2 f hfm
   have hb:=(oW (hK o hom)).1
   have hbl:=(hS o hom).pr
   rw [cN (show aV (fun x:Tb=>x.n==f.t) S 0=k from hk)]
   clear hg hf
   rw [hR] at hbad hgood
   clear hR
   by_cases hll:f.cols.length=o.pr.length
   rotate_left
   ·have hP:mT x o f.cols o.pr=false:=by unfold mT; simp [hll]
    have hl':¬ (f.cols.length:Int)=o.pr.length:=by omega
    rw [hbad 6 (by rw [hP]; rfl) (by decide)]
    simp [hlt,hgi,hjl,hgf,hkl,hgk,Fk.c,Tb.c,hl']
    (repeat' first|contradiction|exact .ok|apply And.intro|intro _|(apply gc<;>simp+contextual[hll,hl']))
   have hzl:(f.cols.zip o.pr).length=o.pr.length:=by simp [hll]
   have hPz:mT x o f.cols o.pr=(f.cols.zip o.pr).all fun p=>dO x p.1==dO o p.2:=by unfold mT; simp [hll]
   rw [hPz] at hbad hgood
   clear hPz
   simp [hlt,hgi,hjl,hgf,hkl,hgk,Fk.c,Tb.c,hll]
   (repeat' first|contradiction|exact .ok|apply And.intro|intro _|(apply gc<;>simp+contextual[hll]))
   refine aL bM (fun m:Nat=>{ s:=cE [(1,.ptr 1 0 0),(7,.d (.int .i64 i)),(8,.d (.int .i64 j)),(9,.d (.int .i64 k)),(11,.d (.sl (aD f.cols))),(12,.d (.sl (aD o.pr))),(13,.d (.int .i64 m))],b:=cC [(1,1,.var [.d (.sl (S.map Tb.c))])] }) (fun m=>m≤o.pr.length∧((f.cols.zip o.pr).drop m).all (fun p=>dO x p.1==dO o p.2)=(f.cols.zip o.pr).all (fun p=>dO x p.1==dO o p.2)) (fun m=>o.pr.length - m) 0 (by simp)
    (sM _ [(1,1,_)] (by simp [aB,Blk.live]) (by simp [aB])) ?_
   rintro m ⟨hm,hg⟩
   by_cases hml:m<o.pr.length
   ·have hma:m<f.cols.length:=by omega
    have hwm:=wI (n:=(m:Int)+1)
    have hga:=eE hma
    have hgb:=eE hml
    obtain ⟨u,hu⟩:∃ u,u=f.cols[m]:=⟨_,rfl⟩
    obtain ⟨v,hv⟩:∃ u,u=o.pr[m]:=⟨_,rfl⟩
    have hgu:∀ h,f.cols[m]'h=u:=fun _=>hu.symm
    have hgv:∀ h,o.pr[m]'h=v:=fun _=>hv.symm
    rw [← hu] at hga
    rw [← hv] at hgb
    rw [List.drop_eq_getElem_cons (by rw [hzl]; exact hml),List.all_cons,List.getElem_zip,← hu,← hv] at hg
    have hru:=ha u (by rw [hu]; exact List.getElem_mem hma)
    have hrv:=hb v (by rw [hv]; exact List.getElem_mem hml)
    obtain ⟨a,rfl⟩:∃ a:Nat,u=a:=⟨u.toNat,by omega⟩
    obtain ⟨b,rfl⟩:∃ a:Nat,v=a:=⟨v.toNat,by omega⟩
    have hal:a<x.cols.length:=by omega
    have hbl2:b<o.cols.length:=by omega
    obtain ⟨p,hp⟩:∃ p,p=x.cols[a]:=⟨_,rfl⟩
    obtain ⟨q,hq⟩:∃ p,p=o.cols[b]:=⟨_,rfl⟩
    have hgp:∀ h,x.cols[a]'h=p:=fun _=>hp.symm
    have hgq:∀ h,o.cols[b]'h=q:=fun _=>hq.symm
    rw [nP hal hp.symm,nP hbl2 hq.symm] at hg
    by_cases he:p.t=q.t
    ·rw [show (p.t==q.t)=true from by simpa using he,Bool.true_and] at hg
     simp [hlt,hgi,hkl,hgk,Tb.c,Col.c,hml,hma,hgu,hgv,hal,hbl2,hgp,hgq,he]
     (repeat' first|contradiction|exact .ok|apply And.intro|intro _|(apply gc<;>simp+contextual[he]))
     refine ⟨m+1,⟨by omega,hg⟩,?_,by simp; omega⟩
     exact sM _ [(1,1,_)] (by simp [aB,Blk.live]) (by simp [aB,hwm])
    ·rw [show (p.t==q.t)=false from by simpa using he,Bool.false_and] at hg
     rw [hbad 6 (by rw [← hg]; rfl) (by decide)]
     simp [hlt,hgi,hkl,hgk,Tb.c,Col.c,hml,hma,hgu,hgv,hal,hbl2,hgp,hgq,he]
     (repeat' first|contradiction|exact .ok|apply And.intro|intro _|(apply gc<;>simp+contextual[he]))
   ·obtain rfl:m=o.pr.length:=by omega
    rw [List.drop_of_length_le (by omega),List.all_nil] at hg
    simp [hll]
    (repeat' first|contradiction|exact .ok|apply And.intro|intro _|(apply gc<;>simp+contextual))
    refine ⟨j+1,⟨by omega,hgood (by rw [← hg]; rfl)⟩,?_,by simp; omega⟩
    exact sM _ [(1,1,_)] (by simp [aB,Blk.live]) (by simp [aB,hwj])
  ·obtain rfl:j=x.fk.length:=by omega
   rw [fJ (Nat.le_refl _)] at hg
   rw [← hg,if_neg (by simp)] at hf
   simp [hlt,hgi,Tb.c]
   (repeat' first|contradiction|exact .ok|apply And.intro|intro _|(apply gc<;>simp+contextual))
   refine ⟨i+1,⟨by omega,hf⟩,?_,by simp; omega⟩
   exact sM _ [(1,1,_)] (by simp [aB,Blk.live]) (by simp [aB,hw])
 obtain rfl:i=S.length:=by omega
 rw [fJ (Nat.le_refl _)] at hf
 rw [← hf,eY] at hR2
 rw [← hR2]
 simp
 (repeat' first|contradiction|exact .ok|apply And.intro|intro _|(apply gc<;>simp+contextual))
 refine aA (eG (DI S hl hS)) (by simp [aN]) ?_
 simp
 all_goals exact gz
end Go.Proofs.Tryz
