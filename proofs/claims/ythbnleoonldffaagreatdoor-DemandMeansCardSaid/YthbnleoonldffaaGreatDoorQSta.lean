import Derived.Test.YthbnleoonldffaaGreatDoorQSky
set_option linter.all false
namespace Go.Proofs.Tryz
open Go.Ab
set_option maxRecDepth 100000
set_option maxHeartbeats 4000000
def wC (x:Tb) (j:Nat):List Int:=(x.cols.take j).map Col.t
theorem LN {x:Tb} {j:Nat} (h:j≤x.cols.length):(wC x j).length=j:=by unfold wC; simp; omega
theorem EM {x:Tb} {j:Nat} (h:j<x.cols.length):wC x (j+1)=wC x j++[x.cols[j].t]:=by unfold wC; rw [bV h,List.map_append]; rfl
theorem EN (x:Tb):wC x x.cols.length=x.cols.map Col.t:=by simp [wC]
theorem wD (l:List Int) (z:Int):aG (l++[z])=aG l++[[.int .i64 z]]:=by simp [aG]
theorem aCN (x:Tb) (hx:x.ok):Cf En 141 [x.a] [] (.d (.sl (aG (x.cols.map Col.t)))) []:=by
 refine aD aW (fn:=Tryz.f141) (by kernel_rfl) rfl (by kernel_rfl) (by decide) (by simp) ?_
 have hl:=hx.cols
 simp [Tb.a,Tb.c]
 (repeat' first|contradiction|exact .ok|apply And.intro|intro _|(apply gc<;>simp+contextual))
 refine aL aW (by decide) (fun j:Nat=>{ s:=cG [(3,.ref 900 0 j 1),(7,.d (.sl (x.cols.map Col.c))),(8,.d (.int .i64 x.cols.length)),(9,.d (.int .i64 j))],b:=cE [(900,900,.arr 3 1 (aG (wC x j)) false)] }) (fun j=>j≤x.cols.length) (fun j=>x.cols.length - j) 0 (by simp)
  (dW 3 900 3 1 (by simp) (by simp) (by decide) (by decide) _ [(900,900,_)] ⟨by simp,by simp,by simp [aB,Blk.live,wC,aG],by simp⟩ (by simp [aB])) ?_
 intro j hj
 have hLl:=LN hj
 by_cases hjl:j<x.cols.length
 ·obtain ⟨c,hc⟩:∃ c,c=x.cols[j]:=⟨_,rfl⟩
  have hgc:∀ h,x.cols[j]'h=c:=fun _=>hc.symm
  have hwj:=aH (n:=(j:Int)+1) (by omega) (by omega)
  have hnx:=EM hjl
  rw [← hc] at hnx
  generalize hL:wC x j=L at *
  have htk:(aG L).take j=aG L:=List.take_of_length_le (by simp [hLl])
  simp [hjl,hgc,Col.c,hLl,htk,eI j (by omega) 8 (by decide),eI (j+1) (by omega) 8 (by decide)]
  (repeat' first|contradiction|exact .ok|apply And.intro|intro _|(apply gc<;>simp+contextual))
  refine ⟨j+1,by omega,?_,by simp; omega⟩
  exact aE _ [(900,17,_)] ⟨by simp,by simp,by simp [aB,Blk.live,hnx,wD],by simp⟩ (by simp [aB,hwj])
 obtain rfl:j=x.cols.length:=by omega
 rw [EN]
 have htk:(aG (x.cols.map Col.t)).take x.cols.length=aG (x.cols.map Col.t):=List.take_of_length_le (by simp)
 simp [htk]
 all_goals exact gz
theorem LO (x:Tb) (hx:x.ok):Cf En 30 [x.a] [] (.d (.sl (aG (x.cols.map Col.t)))) []:=by
 refine aD aW (fn:=Tryz.f30) (by kernel_rfl) rfl (by kernel_rfl) (by decide) (by simp) ?_
 have hl:=hx.cols
 simp [Tb.a,Tb.c]
 (repeat' first|contradiction|exact .ok|apply And.intro|intro _|(apply gc<;>simp+contextual))
 refine aL aW (by decide) (fun j:Nat=>{ s:=cG [(1,.ptr 1 0 0),(3,.ref 900 0 j 1),(4,.d (.int .i64 j))],b:=cE [(1,1,.var (x.c.map AV.d)),(900,900,.arr 3 1 (aG (wC x j)) false)] }) (fun j=>j≤x.cols.length) (fun j=>x.cols.length - j) 0 (by simp)
  (dW 3 900 3 1 (by simp) (by simp) (by decide) (by decide) _ [(1,1,_),(900,900,_)] ⟨by simp,by simp,by simp [aB,Blk.live,wC,aG,Tb.c],by simp⟩ (by simp [aB])) ?_
 intro j hj
 have hLl:=LN hj
 by_cases hjl:j<x.cols.length
 ·obtain ⟨c,hc⟩:∃ c,c=x.cols[j]:=⟨_,rfl⟩
  have hgc:∀ h,x.cols[j]'h=c:=fun _=>hc.symm
  have hwj:=aH (n:=(j:Int)+1) (by omega) (by omega)
  have hnx:=EM hjl
  rw [← hc] at hnx
  generalize hL:wC x j=L at *
  have htk:(aG L).take j=aG L:=List.take_of_length_le (by simp [hLl])
  simp [hjl,hgc,Tb.c,Col.c,hLl,htk,eI j (by omega) 8 (by decide),eI (j+1) (by omega) 8 (by decide)]
  (repeat' first|contradiction|exact .ok|apply And.intro|intro _|(apply gc<;>simp+contextual))
  refine ⟨j+1,by omega,?_,by simp; omega⟩
  exact aE _ [(1,1,_),(900,20,_)] ⟨by simp,by simp,by simp [aB,Blk.live,hnx,wD,Tb.c],by simp⟩ (by simp [aB,hwj])
 obtain rfl:j=x.cols.length:=by omega
 rw [EN]
 have htk:(aG (x.cols.map Col.t)).take x.cols.length=aG (x.cols.map Col.t):=List.take_of_length_le (by simp)
 simp [Tb.c,htk]
 all_goals exact gz
theorem BN (x:Tb) (hx:x.ok) (l:List Int) (hl:l.length≤1000):Cf En 130 [x.a,.d (.sl (aG l))] [] (.d (.bool (lU x.cols.length l))) []:=by
 refine aD aW (fn:=Tryz.f130) (by kernel_rfl) rfl (by kernel_rfl) (by decide) (by simp) ?_
 have hcl:=hx.cols
 simp [Tb.a,Tb.c]
 (repeat' first|contradiction|exact .ok|apply And.intro|intro _|(apply gc<;>simp+contextual))
 refine aL aW (by decide) (fun i:Nat=>{ s:=cG [(1,.d (.sl (aG l))),(2,.ptr 2 0 0),(5,.d (.int .i64 i))],b:=cE [(2,2,.var (x.c.map AV.d))] }) (fun i=>i≤l.length∧VI x.cols.length (l.take i) (l.drop i)=VI x.cols.length [] l) (fun i=>l.length - i) 0 (by simp) (aE _ [(2,2,_)] ⟨by simp,by simp,by simp [aB,Blk.live,Tb.c],by simp⟩ (by simp [aB])) ?_
 rintro i ⟨hi,hf⟩
 by_cases hlt:i<l.length
 ·rw [LQ hlt] at hf
  have hw:=aH (n:=(i:Int)+1) (by omega) (by omega)
  obtain ⟨u,hu⟩:∃ u,u=l[i]:=⟨_,rfl⟩
  have hgi:∀ h,l[i]'h=u:=fun _=>hu.symm
  have hg:=dS hlt
  rw [← hu] at hf hg
  have hbad:(decide (0≤u)&&(decide (u<x.cols.length)&&!(l.take i).contains u))=false→lU x.cols.length l=false:=fun h=>by
   rw [h,Bool.false_and] at hf
   unfold lU
   rw [← hf]; rfl
  by_cases h1:u<0
  ·have hb:=hbad (by simp; intro h; omega)
   simp [hlt,hgi,hg,h1,hb]
   (repeat' first|contradiction|exact .ok|apply And.intro|intro _|(apply gc<;>simp+contextual[h1]))
  by_cases h2:(x.cols.length:Int)≤u
  ·have hb:=hbad (by simp; intro h h'; omega)
   simp [hlt,hgi,hg,h1,h2,hb,Tb.c]
   (repeat' first|contradiction|exact .ok|apply And.intro|intro _|(apply gc<;>simp+contextual[h1,h2,Tb.c,hlt,hgi,hg]))
  have h3:0≤u:=by omega
  have h4:u<x.cols.length:=by omega
  simp [hlt,hgi,hg,h1,h2,Tb.c]
  (repeat' first|contradiction|exact .ok|apply And.intro|intro _|(apply gc<;>simp+contextual[h1,h2,Tb.c,hlt,hgi,hg]))
  refine aL aW (by decide) (fun k:Nat=>{ s:=cG [(1,.d (.sl (aG l))),(2,.ptr 2 0 0),(5,.d (.int .i64 i)),(6,.d (.int .i64 k))],b:=cE [(2,2,.var (x.c.map AV.d))] }) (fun k=>k≤i∧(l.take k).contains u=false) (fun k=>i - k) 0 (by simp) (aE _ [(2,2,_)] ⟨by simp,by simp,by simp [aB,Blk.live,Tb.c],by simp⟩ (by simp [aB])) ?_
  rintro k ⟨hk,hc⟩
  by_cases hkl:k<i
  ·have hkl2:k<l.length:=by omega
   have hgk:=dS hkl2
   have hct:=mX (c:=u) hkl2
   obtain ⟨v,hv⟩:∃ v,v=l[k]:=⟨_,rfl⟩
   have hgk2:∀ h,l[k]'h=v:=fun _=>hv.symm
   rw [← hv] at hgk hct
   have hwk:=aH (n:=(k:Int)+1) (by omega) (by omega)
   by_cases he:v=u
   ·subst he
    have hcc:(l.take i).contains v=true:=by
     rw [List.contains_iff_mem,hv]
     exact List.mem_take_iff_getElem.2 ⟨k,by omega,rfl⟩
    have hb:=hbad (by rw [hcc]; simp)
    simp [hkl,hkl2,hlt,hgk,hgk2,hg,hgi,hb]
    all_goals exact gz
   ·have he':¬ u=v:=fun e=>he e.symm
    simp [hkl,hkl2,hlt,hgk,hgk2,hg,hgi,he]
    (repeat' first|contradiction|exact .ok|apply And.intro|intro _|(apply gc<;>simp+contextual[he]))
    refine ⟨k+1,⟨by omega,by rw [hct,hc]; simpa using he'⟩,?_,by simp; omega⟩
    exact aE _ [(2,2,_)] ⟨by simp,by simp,by simp [aB,Blk.live,Tb.c],by simp⟩ (by simp [aB,hwk])
  ·obtain rfl:k=i:=by omega
   simp
   (repeat' first|contradiction|exact .ok|apply And.intro|intro _|(apply gc<;>simp+contextual))
   refine ⟨k+1,⟨by omega,?_⟩,?_,by simp; omega⟩
   ·rw [← hf,hc]; simp [h3,h4]
   ·exact aE _ [(2,2,_)] ⟨by simp,by simp,by simp [aB,Blk.live,Tb.c],by simp⟩ (by simp [aB,hw])
 obtain rfl:i=l.length:=by omega
 rw [List.drop_length,VI] at hf
 unfold lU
 rw [← hf]
 cases l with
 | nil =>
   simp
   all_goals exact gz
 | cons a l =>
   have hne:(0:Int)<(l.length:Int)+1:=by omega
   simp [hne]
   (repeat' first|contradiction|exact .ok|apply And.intro|intro _|(apply gc<;>simp+contextual[hne]))
theorem nR {α:Type} {p:α→Bool}:∀ {l:List α} {i b:Nat} (h:i<l.length),p l[i]=true→∃ k:Nat,aY p l b=(b:Int)+k∧k≤i
 | x::l,0,b,h,hp=>⟨0,by rw [aY,if_pos (by simpa using hp)]; simp,Nat.le_refl _⟩
 | x::l,i+1,b,h,hp=>by
   rw [aY]
   split
   ·exact ⟨0,by simp,by omega⟩
   ·obtain ⟨k,hk,hki⟩:=nR (b:=b+1) (i:=i) (l:=l) (by simpa using h) (by simpa using hp)
    exact ⟨k+1,by rw [hk]; push_cast; omega,by omega⟩
theorem gC {nm:List UInt8→Bool} {ty:Tb→Ex→Int×Int} {x:Tb} (h:8<x.cols.length∨3<x.un.length∨3<x.fk.length∨4<x.ch.length):eT nm ty x=8:=by unfold eT; rw [if_pos h]
abbrev fN:List UInt8→Bool:=iP words
theorem aCM (x:Tb) (hx:x.ok) (hu:∀ l∈x.un,l.length≤1000) (ty:Tb→Ex→Int×Int)
  (hty:∀ e∈x.ch,Cf Es 120 [.d (.sl (aG (x.cols.map Col.t))),e.a] [] (.tup [.d (.int .i64 (ty x e).1),.d (.int .i64 (ty x e).2)]) []) :
  Cf Es 71 [x.a] [] (.d (.int .i64 (eT fN ty x))) []:=by
 refine aD cF (fn:=Tryz.f71) (by kernel_rfl) rfl (by kernel_rfl) (by decide) (by simp) ?_
 have hcl:=hx.cols
 by_cases c1:8<x.cols.length
 ·have i1:(8:Int)<x.cols.length:=by omega
  rw [gC (.inl c1)]
  simp [Tb.a,Tb.c,i1,c1]
  (repeat' first|contradiction|exact .ok|apply And.intro|intro _|(apply gc<;>simp+contextual[i1,c1]))
 have i1:¬ (8:Int)<x.cols.length:=by omega
 by_cases c2:3<x.un.length
 ·have i2:(3:Int)<x.un.length:=by omega
  rw [gC (.inr (.inl c2))]
  simp [Tb.a,Tb.c,i1,i2,c1,c2]
  (repeat' first|contradiction|exact .ok|apply And.intro|intro _|(apply gc<;>simp+contextual[i1,i2,c1,c2]))
 have i2:¬ (3:Int)<x.un.length:=by omega
 by_cases c3:3<x.fk.length
 ·have i3:(3:Int)<x.fk.length:=by omega
  rw [gC (.inr (.inr (.inl c3)))]
  simp [Tb.a,Tb.c,i1,i2,i3,c1,c2,c3]
  (repeat' first|contradiction|exact .ok|apply And.intro|intro _|(apply gc<;>simp+contextual[i1,i2,i3,c1,c2,c3]))
 have i3:¬ (3:Int)<x.fk.length:=by omega
 by_cases c4:4<x.ch.length
 ·have i4:(4:Int)<x.ch.length:=by omega
  rw [gC (.inr (.inr (.inr c4)))]
  simp [Tb.a,Tb.c,i1,i2,i3,i4,c1,c2,c3,c4]
  (repeat' first|contradiction|exact .ok|apply And.intro|intro _|(apply gc<;>simp+contextual[i1,i2,i3,i4,c1,c2,c3,c4]))
 have i4:¬ (4:Int)<x.ch.length:=by omega
 have hR:∀ z:Int,eT fN ty x=z↔(if x.cols.length=0 then 9 else eZ (bC (lX fN x.cols) x.cols 0) (eZ (fS x) (bC (fun _=>lY (ty x)) x.ch 0)))=z:=fun z=>by
  unfold eT
  rw [if_neg (by omega)]
 generalize hT:eT fN ty x=T at *
 have hR2:=(hR T).1 rfl
 clear hR hT
 by_cases c0:x.cols.length=0
 ·have i0:(x.cols.length:Int)=0:=by omega
  rw [if_pos c0] at hR2
  rw [← hR2]
  simp [Tb.a,Tb.c,i1,i2,i3,i4,c1,c2,c3,c4,i0,c0]
  (repeat' first|contradiction|exact .ok|apply And.intro|intro _|(apply gc<;>simp+contextual[i1,i2,i3,i4,c1,c2,c3,c4,i0,c0]))
 have i0:¬ (x.cols.length:Int)=0:=by omega
 rw [if_neg c0] at hR2
 simp [Tb.a,Tb.c,i1,i2,i3,i4,c1,c2,c3,c4,i0,c0]
 (repeat' first|contradiction|exact .ok|apply And.intro|intro _|(apply gc<;>simp+contextual[i1,i2,i3,i4,c1,c2,c3,c4,i0,c0]))
 clear i1 i2 i3 i4 c1 c2 c3 c4 i0 c0
 refine aL cF (by decide) (fun i:Nat=>{ s:=cG [(1,.ptr 1 0 0),(41,.d (.sl (x.cols.map Col.c))),(42,.d (.int .i64 x.cols.length)),(43,.d (.int .i64 i))],b:=cE [(1,1,.var (x.c.map AV.d))] }) (fun i=>i≤x.cols.length∧bC (lX fN x.cols) (x.cols.drop i) i=bC (lX fN x.cols) x.cols 0) (fun i=>x.cols.length - i) 0 (by simp)
  (aE _ [(1,1,_)] ⟨by simp,by simp,by simp [aB,Blk.live,Tb.c],by simp⟩ (by simp [aB])) ?_
 rintro i ⟨hi,hf⟩
 by_cases hlt:i<x.cols.length
 ·rw [eG hlt] at hf
  have hw:=aH (n:=(i:Int)+1) (by omega) (by omega)
  obtain ⟨c,hc⟩:∃ c,c=x.cols[i]:=⟨_,rfl⟩
  have hgi:∀ h,x.cols[i]'h=c:=fun _=>hc.symm
  obtain ⟨k,hk,hki⟩:=nR (p:=fun d:Col=>d.n==c.n) (b:=0) hlt (by rw [← hc]; simp)
  have hk':aY (fun d:Col=>d.n==c.n) x.cols 0=k:=by rw [hk]; simp
  rw [← hc] at hf
  have hbad:∀ z:Int,lX fN x.cols i c=z→z ≠ 0→T=z:=fun z h h0=>by
   rw [h,if_pos h0] at hf
   rw [← hR2,← hf,fB h0]
  have hgood:lX fN x.cols i c=0→bC (lX fN x.cols) (x.cols.drop (i+1)) (i+1)=bC (lX fN x.cols) x.cols 0:=fun h=>by
   rw [h,if_neg (by simp)] at hf
   exact hf
  have hE:lX fN x.cols i c=if fN c.n=false then 3 else if (k:Int)<i then 5 else if c.t=1∨c.t=2∨c.t=3 then 0 else 4:=by unfold lX; rw [hk']
  generalize lX fN x.cols i c=E at *
  simp [hlt,hgi,Col.c]
  (repeat' first|contradiction|exact .ok|apply And.intro|intro _|(apply gc<;>simp+contextual))
  refine aA (YL c.n) (by simp) ?_
  cases hn:fN c.n with
  | false =>
    rw [hn,if_pos rfl] at hE
    rw [hbad 3 hE (by decide)]
    simp [hn]
    (repeat' first|contradiction|exact .ok|apply And.intro|intro _|(apply gc<;>simp+contextual[hn]))
  | true =>
    rw [hn,if_neg (by decide)] at hE
    simp [hn,Tb.c]
    (repeat' first|contradiction|exact .ok|apply And.intro|intro _|(apply gc<;>simp+contextual[hn]))
    refine aA (gL (aAn x (by omega) c.n)) (by simp [Tb.a,Tb.c]) ?_
    rw [cW hk']
    by_cases hki2:k<i
    ·rw [if_pos (by omega)] at hE
     rw [hbad 5 hE (by decide)]
     simp [hki2]
     (repeat' first|contradiction|exact .ok|apply And.intro|intro _|(apply gc<;>simp+contextual[hki2]))
    ·rw [if_neg (by omega)] at hE
     have hki3:¬ (k:Int)<i:=by omega
     by_cases t1:c.t=1
     ·rw [if_pos (.inl t1)] at hE
      simp [hki2,hki3,t1]
      (repeat' first|contradiction|exact .ok|apply And.intro|intro _|(apply gc<;>simp+contextual[t1]))
      refine ⟨i+1,⟨by omega,hgood hE⟩,?_,by simp; omega⟩
      exact aE _ [(1,1,_)] ⟨by simp,by simp,by simp [aB,Blk.live,Tb.c],by simp⟩ (by simp [aB,hw])
     by_cases t2:c.t=2
     ·rw [if_pos (.inr (.inl t2))] at hE
      simp [hki2,hki3,t1,t2]
      (repeat' first|contradiction|exact .ok|apply And.intro|intro _|(apply gc<;>simp+contextual[t1,t2]))
      refine ⟨i+1,⟨by omega,hgood hE⟩,?_,by simp; omega⟩
      exact aE _ [(1,1,_)] ⟨by simp,by simp,by simp [aB,Blk.live,Tb.c],by simp⟩ (by simp [aB,hw])
     by_cases t3:c.t=3
     ·rw [if_pos (.inr (.inr t3))] at hE
      simp [hki2,hki3,t1,t2,t3]
      (repeat' first|contradiction|exact .ok|apply And.intro|intro _|(apply gc<;>simp+contextual[t1,t2,t3]))
      refine ⟨i+1,⟨by omega,hgood hE⟩,?_,by simp; omega⟩
      exact aE _ [(1,1,_)] ⟨by simp,by simp,by simp [aB,Blk.live,Tb.c],by simp⟩ (by simp [aB,hw])
     ·rw [if_neg (by omega)] at hE
      rw [hbad 4 hE (by decide)]
      simp [hki2,hki3,t1,t2,t3]
      (repeat' first|contradiction|exact .ok|apply And.intro|intro _|(apply gc<;>simp+contextual[t1,t2,t3]))
 obtain rfl:i=x.cols.length:=by omega
 rw [fA (Nat.le_refl _)] at hf
 rw [← hf,eP] at hR2
 clear hf hi hlt
 simp [Tb.c]
 (repeat' first|contradiction|exact .ok|apply And.intro|intro _|(apply gc<;>simp+contextual))
 refine aA (gL (aEp x hx hu)) (by simp [Tb.a,Tb.c]) ?_
 by_cases hk:fS x=0
 rotate_left
 ·rw [fB hk] at hR2
  rw [← hR2]
  simp [hk]
  (repeat' first|contradiction|exact .ok|apply And.intro|intro _|(apply gc<;>simp+contextual[hk]))
 rw [hk,eP] at hR2
 simp [hk,Tb.c]
 (repeat' first|contradiction|exact .ok|apply And.intro|intro _|(apply gc<;>simp+contextual))
 have hhl:=hx.ch
 refine aL cF (by decide) (fun i:Nat=>{ s:=cG [(1,.ptr 1 0 0),(82,.d (.sl (x.ch.map Ex.c))),(83,.d (.int .i64 x.ch.length)),(84,.d (.int .i64 i))],b:=cE [(1,1,.var (x.c.map AV.d))] }) (fun i=>i≤x.ch.length∧bC (fun _=>lY (ty x)) (x.ch.drop i) i=bC (fun _=>lY (ty x)) x.ch 0) (fun i=>x.ch.length - i) 0 (by simp)
  (aE _ [(1,1,_)] ⟨by simp,by simp,by simp [aB,Blk.live,Tb.c],by simp⟩ (by simp [aB])) ?_
 rintro i ⟨hi,hf⟩
 by_cases hlt:i<x.ch.length
 ·rw [eG hlt] at hf
  have hw:=aH (n:=(i:Int)+1) (by omega) (by omega)
  obtain ⟨e,he⟩:∃ e,e=x.ch[i]:=⟨_,rfl⟩
  have hgi:∀ h,x.ch[i]'h=e:=fun _=>he.symm
  have hem:e∈x.ch:=by rw [he]; exact List.getElem_mem hlt
  rw [← he] at hf
  have hte:=hty e hem
  have hC:lY (ty x) e=(if (ty x e).2 ≠ 0 then (ty x e).2 else if (ty x e).1 ≠ 2 then 4 else 0):=rfl
  have hbad:lY (ty x) e ≠ 0→T=lY (ty x) e:=fun h0=>by
   rw [if_pos h0] at hf
   rw [← hR2,← hf]
  have hgood:lY (ty x) e=0→bC (fun _=>lY (ty x)) (x.ch.drop (i+1)) (i+1)=bC (fun _=>lY (ty x)) x.ch 0:=fun h=>by
   rw [h,if_neg (by simp)] at hf
   exact hf
  generalize lY (ty x) e=F at hC hbad hgood
  clear hf
  rcases e with ⟨o,c,n,t,g,ks⟩
  simp [hlt,hgi,Ex.c,Tb.c]
  (repeat' first|contradiction|exact .ok|apply And.intro|intro _|(apply gc<;>simp+contextual))
  refine aA (gL (aCN x hx)) (by simp [Tb.a,Tb.c]) ?_
  simp
  (repeat' first|contradiction|exact .ok|apply And.intro|intro _|(apply gc<;>simp+contextual))
  refine aA hte (by simp [Ex.a,Ex.c]) ?_
  generalize hE:ty x (.mk o c n t g ks)=E at *
  by_cases h2:E.2=0
  rotate_left
  ·rw [if_pos h2] at hC
   rw [hbad (by rw [hC]; exact h2),hC]
   simp [h2]
   (repeat' first|contradiction|exact .ok|apply And.intro|intro _|(apply gc<;>simp+contextual[h2]))
  rw [if_neg (by simpa using h2)] at hC
  by_cases h1:E.1=2
  ·rw [if_neg (by simpa using h1)] at hC
   simp [h1,h2]
   (repeat' first|contradiction|exact .ok|apply And.intro|intro _|(apply gc<;>simp+contextual[h1,h2]))
   refine ⟨i+1,⟨by omega,hgood hC⟩,?_,by simp; omega⟩
   exact aE _ [(1,1,_)] ⟨by simp,by simp,by simp [aB,Blk.live,Tb.c],by simp⟩ (by simp [aB,hw])
  ·rw [if_pos h1] at hC
   rw [hbad (by rw [hC]; decide),hC]
   simp [h1,h2]
   (repeat' first|contradiction|exact .ok|apply And.intro|intro _|(apply gc<;>simp+contextual[h1,h2]))
 obtain rfl:i=x.ch.length:=by omega
 rw [fA (Nat.le_refl _)] at hf
 rw [← hR2,← hf]
 simp
 all_goals exact gz
end Go.Proofs.Tryz
