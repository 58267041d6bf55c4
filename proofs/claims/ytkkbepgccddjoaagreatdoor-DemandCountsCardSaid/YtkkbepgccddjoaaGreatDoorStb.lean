import Derived.Test.YtkkbepgccddjoaaGreatDoorCSmR
set_option linter.all false
namespace Go.Proofs.Tryz
open Go.Ab
set_option maxRecDepth 100000
set_option maxHeartbeats 4000000
theorem uI (a b c:Int):fI (fI a b) c=fI a (fI b c):=by
 unfold fI
 by_cases h:a=0 <;> simp [h]
theorem PL (x:Tb):gD x=fI (iB x x.pr) (fI (if x.pr.any (oV x)=true then 4 else 0) (fI (bG (fun _=>iB x) x.un 0) (bG (fun _ f=>iB x f.cols) x.fk 0))):=by
 unfold gD
 rw [zB,PN]
theorem aCL (x:Tb) (hx:x.ok) (hu:∀ l∈x.un,l.length≤1000) (ty:Tb→Ex→Int×Int)
  (hty:∀ e∈x.ch,Cf Es 100 [.d (.sl (aD (x.cols.map Col.t))),e.a] [] (.tup [.d (.int .i64 (ty x e).1),.d (.int .i64 (ty x e).2)]) []) :
  Cf Es 121 [x.a] [] (.d (.int .i64 (fB fN ty x))) []:=by
 refine cI bM (fn:=Tryz.f121) rfl ?_
 have hcl:=hx.cols
 by_cases c1:8<x.cols.length
 ·have i1:(8:Int)<x.cols.length:=by omega
  rw [gU (.inl c1)]
  simp [Tb.a,Tb.c,i1]
  (repeat' first|contradiction|exact .ok|apply And.intro|intro _|(apply gc<;>simp+contextual[i1,c1]))
 have i1:¬ (8:Int)<x.cols.length:=by omega
 by_cases c2:3<x.un.length
 ·have i2:(3:Int)<x.un.length:=by omega
  rw [gU (.inr (.inl c2))]
  simp [Tb.a,Tb.c,i1,i2]
  (repeat' first|contradiction|exact .ok|apply And.intro|intro _|(apply gc<;>simp+contextual[i1,i2,c1,c2]))
 have i2:¬ (3:Int)<x.un.length:=by omega
 by_cases c3:3<x.fk.length
 ·have i3:(3:Int)<x.fk.length:=by omega
  rw [gU (.inr (.inr (.inl c3)))]
  simp [Tb.a,Tb.c,i1,i2,i3]
  (repeat' first|contradiction|exact .ok|apply And.intro|intro _|(apply gc<;>simp+contextual[i1,i2,i3,c1,c2,c3]))
 have i3:¬ (3:Int)<x.fk.length:=by omega
 by_cases c4:4<x.ch.length
 ·have i4:(4:Int)<x.ch.length:=by omega
  rw [gU (.inr (.inr (.inr c4)))]
  simp [Tb.a,Tb.c,i1,i2,i3,i4]
  (repeat' first|contradiction|exact .ok|apply And.intro|intro _|(apply gc<;>simp+contextual[i1,i2,i3,i4,c1,c2,c3,c4]))
 have i4:¬ (4:Int)<x.ch.length:=by omega
 have hR:∀ z:Int,fB fN ty x=z↔(if x.cols.length=0 then 9 else fI (bG (mY fN x.cols) x.cols 0) (fI (gD x) (bG (fun _=>mZ (ty x)) x.ch 0)))=z:=fun z=>by
  unfold fB
  rw [if_neg (by omega)]
 generalize hT:fB fN ty x=T at *
 have hR2:=(hR T).1 rfl
 clear hR hT
 by_cases c0:x.cols.length=0
 ·have i0:(x.cols.length:Int)=0:=by omega
  rw [if_pos c0] at hR2
  rw [← hR2]
  simp [Tb.a,Tb.c,i2,i3,i4,c0]
  (repeat' first|contradiction|exact .ok|apply And.intro|intro _|(apply gc<;>simp+contextual[i1,i2,i3,i4,c1,c2,c3,c4,i0,c0]))
 have i0:¬ (x.cols.length:Int)=0:=by omega
 rw [if_neg c0] at hR2
 simp [Tb.a,Tb.c,i1,i2,i3,i4,c0]
 (repeat' first|contradiction|exact .ok|apply And.intro|intro _|(apply gc<;>simp+contextual[i1,i2,i3,i4,c1,c2,c3,c4,i0,c0]))
 clear i1 i2 i3 i4 c1 c2 c3 c4 i0 c0
 refine aL bM (fun i:Nat=>{ s:=cE [(1,.ptr 1 0 0),(3,.d (.int .i64 i))],b:=cC [(1,1,.var (x.c.map AV.d))] }) (fun i=>i≤x.cols.length∧bG (mY fN x.cols) (x.cols.drop i) i=bG (mY fN x.cols) x.cols 0) (fun i=>x.cols.length - i) 0 (by simp)
  (sM _ [(1,1,_)] (by simp [aB,Blk.live,Tb.c]) (by simp [aB])) ?_
 rintro i ⟨hi,hf⟩
 by_cases hlt:i<x.cols.length
 ·rw [eL hlt] at hf
  have hw:=wI (n:=(i:Int)+1)
  obtain ⟨c,hc⟩:∃ c,c=x.cols[i]:=⟨_,rfl⟩
  have hgi:∀ h,x.cols[i]'h=c:=fun _=>hc.symm
  obtain ⟨k,hk,hki⟩:=oU (p:=fun d:Col=>d.n==c.n) (b:=0) hlt (by rw [← hc]; simp)
  have hk':aV (fun d:Col=>d.n==c.n) x.cols 0=k:=by rw [hk]; simp
  rw [← hc] at hf
  have hbad:∀ z:Int,mY fN x.cols i c=z→z ≠ 0→T=z:=fun z h h0=>by
   rw [h,if_pos h0] at hf
   rw [← hR2,← hf,fK h0]
  have hgood:mY fN x.cols i c=0→bG (mY fN x.cols) (x.cols.drop (i+1)) (i+1)=bG (mY fN x.cols) x.cols 0:=fun h=>by
   rw [h,if_neg (by simp)] at hf
   exact hf
  have hE:mY fN x.cols i c=if fN c.n=false then 3 else if (k:Int)<i then 5 else if c.t=1∨c.t=2∨c.t=3 then 0 else 4:=by unfold mY; rw [hk']
  generalize mY fN x.cols i c=E at *
  simp [hlt,hgi,Tb.c,Col.c]
  (repeat' first|contradiction|exact .ok|apply And.intro|intro _|(apply gc<;>simp+contextual))
  refine aP (aBu c.n) ?_
  cases hn:fN c.n with
  | false =>
    rw [hn,if_pos rfl] at hE
    rw [hbad 3 hE (by decide)]
    simp [hn]
    (repeat' first|contradiction|exact .ok|apply And.intro|intro _|(apply gc<;>simp+contextual[hn]))
  | true =>
    rw [hn,if_neg (by decide)] at hE
    simp [hn]
    (repeat' first|contradiction|exact .ok|apply And.intro|intro _|(apply gc<;>simp+contextual[hn]))
    refine aA (eG (ZI x (by omega) c.n)) (by simp [Tb.a,Tb.c]) ?_
    rw [cN hk']
    by_cases hki2:k<i
    ·rw [if_pos (by omega)] at hE
     rw [hbad 5 hE (by decide)]
     have hki4:¬ k=i:=by omega
     have hki5:¬ (k:Int)=i:=by omega
     simp [hki5]
     (repeat' first|contradiction|exact .ok|apply And.intro|intro _|(apply gc<;>simp+contextual[hki4,hki5]))
    ·rw [if_neg (by omega)] at hE
     obtain rfl:k=i:=by omega
     by_cases t1:c.t<1
     ·rw [if_neg (by omega)] at hE
      rw [hbad 4 hE (by decide)]
      simp [t1]
      (repeat' first|contradiction|exact .ok|apply And.intro|intro _|(apply gc<;>simp+contextual[t1]))
     by_cases t3:3<c.t
     ·rw [if_neg (by omega)] at hE
      rw [hbad 4 hE (by decide)]
      simp [t1,t3]
      (repeat' first|contradiction|exact .ok|apply And.intro|intro _|(apply gc<;>simp+contextual[t1,t3]))
     ·rw [if_pos (by omega)] at hE
      simp [t1,t3]
      (repeat' first|contradiction|exact .ok|apply And.intro|intro _|(apply gc<;>simp+contextual[t1,t3]))
      refine ⟨k+1,⟨by omega,hgood hE⟩,?_,by simp; omega⟩
      exact sM _ [(1,1,_)] (by simp [aB,Blk.live]) (by simp [aB,hw])
 obtain rfl:i=x.cols.length:=by omega
 rw [fJ (Nat.le_refl _)] at hf
 rw [← hf,eY,PL,uI,uI,uI] at hR2
 clear hf hi hlt
 simp [Tb.c]
 (repeat' first|contradiction|exact .ok|apply And.intro|intro _|(apply gc<;>simp+contextual))
 refine aA (eG (EC x hx x.pr hx.pr)) (by simp [Tb.a,Tb.c]) ?_
 cases hk:mS x.cols.length x.pr with
 | false =>
   have hk':iB x x.pr=6:=by unfold iB; rw [hk]; rfl
   rw [hk',fK (by decide)] at hR2
   rw [← hR2]
   simp
   (repeat' first|contradiction|exact .ok|apply And.intro|intro _|(apply gc<;>simp+contextual[hk]))
 | true =>
 have hk':iB x x.pr=0:=by unfold iB; rw [hk]; rfl
 rw [hk',eY] at hR2
 have hin:=yF hk
 have hpl:=hx.pr
 simp
 (repeat' first|contradiction|exact .ok|apply And.intro|intro _|(apply gc<;>simp+contextual[hk]))
 refine aL bM (fun i:Nat=>{ s:=cE [(1,.ptr 1 0 0),(7,.d (.int .i64 i))],b:=cC [(1,1,.var (x.c.map AV.d))] }) (fun i=>i≤x.pr.length∧(x.pr.take i).any (oV x)=false) (fun i=>x.pr.length - i) 0 (by simp)
  (sM _ [(1,1,_)] (by simp [aB,Blk.live,Tb.c]) (by simp [aB])) ?_
 rintro i ⟨hi,hf⟩
 by_cases hlt:i<x.pr.length
 ·have hw:=wI (n:=(i:Int)+1)
  have hat:=sH (p:=oV x) hlt
  have hag:=qH (p:=oV x) hlt
  have hg:=eE hlt
  obtain ⟨c,hc⟩:∃ c,c=x.pr[i]:=⟨_,rfl⟩
  have hgi:∀ h,x.pr[i]'h=c:=fun _=>hc.symm
  obtain ⟨h0,h1⟩:=hin c (by rw [hc]; exact List.getElem_mem hlt)
  rw [← hc] at hg hat hag
  obtain ⟨k,rfl⟩:∃ k:Nat,c=k:=⟨c.toNat,by omega⟩
  have hkl:k<x.cols.length:=by omega
  obtain ⟨u,hu2⟩:∃ u,u=x.cols[k]:=⟨_,rfl⟩
  have hgk:∀ h,x.cols[k]'h=u:=fun _=>hu2.symm
  have hn:oV x k=u.b:=by unfold oV; rw [Int.toNat_natCast,gE hkl,hgk]; rfl
  rw [hn] at hat hag
  cases hub:u.b with
  | true =>
    rw [hag hub,if_pos rfl,fK (by decide)] at hR2
    rw [← hR2]
    simp [hlt,hgi,Tb.c,hkl,hgk,Col.c,hub]
    (repeat' first|contradiction|exact .ok|apply And.intro|intro _|(apply gc<;>simp+contextual[hub]))
  | false =>
    simp [hlt,hgi,Tb.c,hkl,hgk,Col.c,hub]
    (repeat' first|contradiction|exact .ok|apply And.intro|intro _|(apply gc<;>simp+contextual[hub]))
    refine ⟨i+1,⟨by omega,by rw [hat,hf,hub]; rfl⟩,?_,by simp; omega⟩
    exact sM _ [(1,1,_)] (by simp [aB,Blk.live]) (by simp [aB,hw])
 obtain rfl:i=x.pr.length:=by omega
 rw [List.take_length] at hf
 rw [hf,if_neg (by decide),eY] at hR2
 clear hf hi hlt
 simp [Tb.c]
 (repeat' first|contradiction|exact .ok|apply And.intro|intro _|(apply gc<;>simp+contextual))
 have hul:=hx.un
 refine aL bM (fun i:Nat=>{ s:=cE [(1,.ptr 1 0 0),(8,.d (.int .i64 i))],b:=cC [(1,1,.var (x.c.map AV.d))] }) (fun i=>i≤x.un.length∧bG (fun _=>iB x) (x.un.drop i) i=bG (fun _=>iB x) x.un 0) (fun i=>x.un.length - i) 0 (by simp)
  (sM _ [(1,1,_)] (by simp [aB,Blk.live,Tb.c]) (by simp [aB])) ?_
 rintro i ⟨hi,hf⟩
 by_cases hlt:i<x.un.length
 ·rw [eL hlt] at hf
  have hw:=wI (n:=(i:Int)+1)
  obtain ⟨l,hl⟩:∃ l,l=x.un[i]:=⟨_,rfl⟩
  have hgi:∀ h,x.un[i]'h=l:=fun _=>hl.symm
  rw [← hl] at hf
  have hkl:iB x l=if mS x.cols.length l=true then 0 else 6:=rfl
  simp [hlt,hgi,oX,Tb.c]
  (repeat' first|contradiction|exact .ok|apply And.intro|intro _|(apply gc<;>simp+contextual))
  refine aA (eG (EC x hx l (hu l (by rw [hl]; exact List.getElem_mem hlt)))) (by simp [Tb.a,Tb.c]) ?_
  cases hb:mS x.cols.length l with
  | false =>
    rw [hb,if_neg (by decide)] at hkl
    rw [hkl,if_pos (by decide)] at hf
    rw [← hf,fK (by decide)] at hR2
    rw [← hR2]
    simp
    (repeat' first|contradiction|exact .ok|apply And.intro|intro _|(apply gc<;>simp+contextual[hb]))
  | true =>
    rw [hb,if_pos rfl] at hkl
    rw [hkl,if_neg (by decide)] at hf
    simp
    (repeat' first|contradiction|exact .ok|apply And.intro|intro _|(apply gc<;>simp+contextual[hb]))
    refine ⟨i+1,⟨by omega,hf⟩,?_,by simp; omega⟩
    exact sM _ [(1,1,_)] (by simp [aB,Blk.live]) (by simp [aB,hw])
 obtain rfl:i=x.un.length:=by omega
 rw [fJ (Nat.le_refl _)] at hf
 rw [← hf,eY] at hR2
 clear hf hi hlt
 simp [Tb.c]
 (repeat' first|contradiction|exact .ok|apply And.intro|intro _|(apply gc<;>simp+contextual))
 have hfl:=hx.fk
 refine aL bM (fun i:Nat=>{ s:=cE [(1,.ptr 1 0 0),(9,.d (.int .i64 i))],b:=cC [(1,1,.var (x.c.map AV.d))] }) (fun i=>i≤x.fk.length∧bG (fun _ f=>iB x f.cols) (x.fk.drop i) i=bG (fun _ f=>iB x f.cols) x.fk 0) (fun i=>x.fk.length - i) 0 (by simp)
  (sM _ [(1,1,_)] (by simp [aB,Blk.live,Tb.c]) (by simp [aB])) ?_
 rintro i ⟨hi,hf⟩
 by_cases hlt:i<x.fk.length
 ·rw [eL hlt] at hf
  have hw:=wI (n:=(i:Int)+1)
  obtain ⟨l,hl⟩:∃ l,l=x.fk[i]:=⟨_,rfl⟩
  have hgi:∀ h,x.fk[i]'h=l:=fun _=>hl.symm
  rw [← hl] at hf
  have hkl:iB x l.cols=if mS x.cols.length l.cols=true then 0 else 6:=rfl
  simp [hlt,hgi,Fk.c,Tb.c]
  (repeat' first|contradiction|exact .ok|apply And.intro|intro _|(apply gc<;>simp+contextual))
  refine aA (eG (EC x hx l.cols (hx.fkc l (by rw [hl]; exact List.getElem_mem hlt)))) (by simp [Tb.a,Tb.c]) ?_
  cases hb:mS x.cols.length l.cols with
  | false =>
    rw [hb,if_neg (by decide)] at hkl
    rw [hkl,if_pos (by decide)] at hf
    rw [← hf,fK (by decide)] at hR2
    rw [← hR2]
    simp
    (repeat' first|contradiction|exact .ok|apply And.intro|intro _|(apply gc<;>simp+contextual[hb]))
  | true =>
    rw [hb,if_pos rfl] at hkl
    rw [hkl,if_neg (by decide)] at hf
    simp
    (repeat' first|contradiction|exact .ok|apply And.intro|intro _|(apply gc<;>simp+contextual[hb]))
    refine ⟨i+1,⟨by omega,hf⟩,?_,by simp; omega⟩
    exact sM _ [(1,1,_)] (by simp [aB,Blk.live]) (by simp [aB,hw])
 obtain rfl:i=x.fk.length:=by omega
 rw [fJ (Nat.le_refl _)] at hf
 rw [← hf,eY] at hR2
 clear hf hi hlt
 simp [Tb.c]
 (repeat' first|contradiction|exact .ok|apply And.intro|intro _|(apply gc<;>simp+contextual))
 have hhl:=hx.ch
 refine aL bM (fun i:Nat=>{ s:=cE [(1,.ptr 1 0 0),(10,.d (.int .i64 i))],b:=cC [(1,1,.var (x.c.map AV.d))] }) (fun i=>i≤x.ch.length∧bG (fun _=>mZ (ty x)) (x.ch.drop i) i=bG (fun _=>mZ (ty x)) x.ch 0) (fun i=>x.ch.length - i) 0 (by simp)
  (sM _ [(1,1,_)] (by simp [aB,Blk.live,Tb.c]) (by simp [aB])) ?_
 rintro i ⟨hi,hf⟩
 by_cases hlt:i<x.ch.length
 ·rw [eL hlt] at hf
  have hw:=wI (n:=(i:Int)+1)
  obtain ⟨e,he⟩:∃ e,e=x.ch[i]:=⟨_,rfl⟩
  have hgi:∀ h,x.ch[i]'h=e:=fun _=>he.symm
  have hem:e∈x.ch:=by rw [he]; exact List.getElem_mem hlt
  rw [← he] at hf
  have hte:=hty e hem
  have hC:mZ (ty x) e=(if (ty x e).2 ≠ 0 then (ty x e).2 else if (ty x e).1 ≠ 2 then 4 else 0):=rfl
  have hbad:mZ (ty x) e ≠ 0→T=mZ (ty x) e:=fun h0=>by
   rw [if_pos h0] at hf
   rw [← hR2,← hf]
  have hgood:mZ (ty x) e=0→bG (fun _=>mZ (ty x)) (x.ch.drop (i+1)) (i+1)=bG (fun _=>mZ (ty x)) x.ch 0:=fun h=>by
   rw [h,if_neg (by simp)] at hf
   exact hf
  generalize mZ (ty x) e=F at hC hbad hgood
  clear hf
  rcases e with ⟨o,c,n,t,g,ks⟩
  simp [hlt,Tb.c]
  (repeat' first|contradiction|exact .ok|apply And.intro|intro _|(apply gc<;>simp+contextual))
  refine aA (eG (aCM x hx)) (by simp [Tb.a,Tb.c]) ?_
  simp [hlt,hgi,Ex.c]
  (repeat' first|contradiction|exact .ok|apply And.intro|intro _|(apply gc<;>simp+contextual))
  refine aA hte (by simp [Ex.a,Ex.c]) ?_
  generalize hE:ty x (.mk o c n t g ks)=E at *
  by_cases h2:E.2=0
  rotate_left
  ·rw [if_pos h2] at hC
   rw [hbad (by rw [hC]; exact h2),hC]
   simp [h2]
   (repeat' first|contradiction|exact .ok|apply And.intro|intro _|(apply gc<;>simp+contextual[h2]))
  rw [if_neg (by simpa using h2)] at hC
  by_cases h1:E.1=2
  ·rw [if_neg (by simpa using h1)] at hC
   simp [h1,h2]
   (repeat' first|contradiction|exact .ok|apply And.intro|intro _|(apply gc<;>simp+contextual[h1,h2]))
   refine ⟨i+1,⟨by omega,hgood hC⟩,?_,by simp; omega⟩
   exact sM _ [(1,1,_)] (by simp [aB,Blk.live]) (by simp [aB,hw])
  ·rw [if_pos h1] at hC
   rw [hbad (by rw [hC]; decide),hC]
   simp [h1,h2]
   (repeat' first|contradiction|exact .ok|apply And.intro|intro _|(apply gc<;>simp+contextual[h1,h2]))
 obtain rfl:i=x.ch.length:=by omega
 rw [fJ (Nat.le_refl _)] at hf
 rw [← hR2,← hf]
 simp [Tb.c]
 all_goals exact gz
end Go.Proofs.Tryz
