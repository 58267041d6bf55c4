import Derived.Test.YthbnleoonldffaaGreatDoorQSta
set_option linter.all false
namespace Go.Proofs.Tryz
open Go.Ab
set_option maxRecDepth 100000
set_option maxHeartbeats 4000000
theorem sP (a b c:Int):eZ (eZ a b) c=eZ a (eZ b c):=by
 unfold eZ
 by_cases h:a=0 <;> simp [h]
theorem LM (x:Tb):fS x=eZ (gN x x.pr) (eZ (if x.pr.any (nS x)=true then 4 else 0) (eZ (bC (fun _=>gN x) x.un 0) (bC (fun _ f=>gN x f.cols) x.fk 0))):=by
 unfold fS
 rw [xD,LP]
theorem aAu (x:Tb) (hx:x.ok) (hu:∀ l∈x.un,l.length≤1000) (ty:Tb→Ex→Int×Int)
  (hty:∀ e∈x.ch,Cf Es 64 [.d (.sl (aG (x.cols.map Col.t))),e.a] [] (.tup [.d (.int .i64 (ty x e).1),.d (.int .i64 (ty x e).2)]) []) :
  Cf Es 61 [x.a] [] (.d (.int .i64 (eT fN ty x))) []:=by
 refine aD cF (fn:=Tryz.f61) (by kernel_rfl) rfl (by kernel_rfl) (by decide) (by simp) ?_
 have hcl:=hx.cols
 by_cases c1:8<x.cols.length
 ·have i1:(8:Int)<x.cols.length:=by omega
  rw [gC (.inl c1)]
  simp [Tb.a,Tb.c,i1,c1]
  (repeat' first|contradiction|exact .ok|apply And.intro|intro _|(apply gc<;>simp+contextual[i1,c1]))
 have i1:¬ (8:Int)<x.cols.length:=by omega
 by_cases c2:3<x.un.length
 ·have i2:(3:Int)<x.un.length:=by omega
  rw [gC (.inr (.inl c2))]
  simp [Tb.a,Tb.c,i1,i2,c1,c2]
  (repeat' first|contradiction|exact .ok|apply And.intro|intro _|(apply gc<;>simp+contextual[i1,i2,c1,c2]))
 have i2:¬ (3:Int)<x.un.length:=by omega
 by_cases c3:3<x.fk.length
 ·have i3:(3:Int)<x.fk.length:=by omega
  rw [gC (.inr (.inr (.inl c3)))]
  simp [Tb.a,Tb.c,i1,i2,i3,c1,c2,c3]
  (repeat' first|contradiction|exact .ok|apply And.intro|intro _|(apply gc<;>simp+contextual[i1,i2,i3,c1,c2,c3]))
 have i3:¬ (3:Int)<x.fk.length:=by omega
 by_cases c4:4<x.ch.length
 ·have i4:(4:Int)<x.ch.length:=by omega
  rw [gC (.inr (.inr (.inr c4)))]
  simp [Tb.a,Tb.c,i1,i2,i3,i4,c1,c2,c3,c4]
  (repeat' first|contradiction|exact .ok|apply And.intro|intro _|(apply gc<;>simp+contextual[i1,i2,i3,i4,c1,c2,c3,c4]))
 have i4:¬ (4:Int)<x.ch.length:=by omega
 have hR:∀ z:Int,eT fN ty x=z↔(if x.cols.length=0 then 9 else eZ (bC (lX fN x.cols) x.cols 0) (eZ (fS x) (bC (fun _=>lY (ty x)) x.ch 0)))=z:=fun z=>by
  unfold eT
  rw [if_neg (by omega)]
 generalize hT:eT fN ty x=T at *
 have hR2:=(hR T).1 rfl
 clear hR hT
 by_cases c0:x.cols.length=0
 ·have i0:(x.cols.length:Int)=0:=by omega
  rw [if_pos c0] at hR2
  rw [← hR2]
  simp [Tb.a,Tb.c,i1,i2,i3,i4,c1,c2,c3,c4,i0,c0]
  (repeat' first|contradiction|exact .ok|apply And.intro|intro _|(apply gc<;>simp+contextual[i1,i2,i3,i4,c1,c2,c3,c4,i0,c0]))
 have i0:¬ (x.cols.length:Int)=0:=by omega
 rw [if_neg c0] at hR2
 simp [Tb.a,Tb.c,i1,i2,i3,i4,c1,c2,c3,c4,i0,c0]
 (repeat' first|contradiction|exact .ok|apply And.intro|intro _|(apply gc<;>simp+contextual[i1,i2,i3,i4,c1,c2,c3,c4,i0,c0]))
 clear i1 i2 i3 i4 c1 c2 c3 c4 i0 c0
 refine aL cF (by decide) (fun i:Nat=>{ s:=cG [(1,.ptr 1 0 0),(3,.d (.int .i64 i))],b:=cE [(1,1,.var (x.c.map AV.d))] }) (fun i=>i≤x.cols.length∧bC (lX fN x.cols) (x.cols.drop i) i=bC (lX fN x.cols) x.cols 0) (fun i=>x.cols.length - i) 0 (by simp)
  (aE _ [(1,1,_)] ⟨by simp,by simp,by simp [aB,Blk.live,Tb.c],by simp⟩ (by simp [aB])) ?_
 rintro i ⟨hi,hf⟩
 by_cases hlt:i<x.cols.length
 ·rw [eG hlt] at hf
  have hw:=aH (n:=(i:Int)+1) (by omega) (by omega)
  obtain ⟨c,hc⟩:∃ c,c=x.cols[i]:=⟨_,rfl⟩
  have hgi:∀ h,x.cols[i]'h=c:=fun _=>hc.symm
  obtain ⟨k,hk,hki⟩:=nR (p:=fun d:Col=>d.n==c.n) (b:=0) hlt (by rw [← hc]; simp)
  have hk':aY (fun d:Col=>d.n==c.n) x.cols 0=k:=by rw [hk]; simp
  rw [← hc] at hf
  have hbad:∀ z:Int,lX fN x.cols i c=z→z ≠ 0→T=z:=fun z h h0=>by
   rw [h,if_pos h0] at hf
   rw [← hR2,← hf,fB h0]
  have hgood:lX fN x.cols i c=0→bC (lX fN x.cols) (x.cols.drop (i+1)) (i+1)=bC (lX fN x.cols) x.cols 0:=fun h=>by
   rw [h,if_neg (by simp)] at hf
   exact hf
  have hE:lX fN x.cols i c=if fN c.n=false then 3 else if (k:Int)<i then 5 else if c.t=1∨c.t=2∨c.t=3 then 0 else 4:=by unfold lX; rw [hk']
  generalize lX fN x.cols i c=E at *
  simp [hlt,hgi,Tb.c,Col.c]
  (repeat' first|contradiction|exact .ok|apply And.intro|intro _|(apply gc<;>simp+contextual))
  refine aA (YM c.n) (by simp) ?_
  cases hn:fN c.n with
  | false =>
    rw [hn,if_pos rfl] at hE
    rw [hbad 3 hE (by decide)]
    simp [hn]
    (repeat' first|contradiction|exact .ok|apply And.intro|intro _|(apply gc<;>simp+contextual[hn]))
  | true =>
    rw [hn,if_neg (by decide)] at hE
    simp [hn,Tb.c]
    (repeat' first|contradiction|exact .ok|apply And.intro|intro _|(apply gc<;>simp+contextual[hn]))
    refine aA (gL (UZ x (by omega) c.n)) (by simp [Tb.a,Tb.c]) ?_
    rw [cW hk']
    by_cases hki2:k<i
    ·rw [if_pos (by omega)] at hE
     rw [hbad 5 hE (by decide)]
     have hki4:¬ k=i:=by omega
     have hki5:¬ (k:Int)=i:=by omega
     simp [hki4,hki5]
     (repeat' first|contradiction|exact .ok|apply And.intro|intro _|(apply gc<;>simp+contextual[hki4,hki5]))
    ·rw [if_neg (by omega)] at hE
     obtain rfl:k=i:=by omega
     by_cases t1:c.t<1
     ·rw [if_neg (by omega)] at hE
      rw [hbad 4 hE (by decide)]
      simp [t1]
      (repeat' first|contradiction|exact .ok|apply And.intro|intro _|(apply gc<;>simp+contextual[t1]))
     by_cases t3:3<c.t
     ·rw [if_neg (by omega)] at hE
      rw [hbad 4 hE (by decide)]
      simp [t1,t3]
      (repeat' first|contradiction|exact .ok|apply And.intro|intro _|(apply gc<;>simp+contextual[t1,t3]))
     ·rw [if_pos (by omega)] at hE
      simp [t1,t3]
      (repeat' first|contradiction|exact .ok|apply And.intro|intro _|(apply gc<;>simp+contextual[t1,t3]))
      refine ⟨k+1,⟨by omega,hgood hE⟩,?_,by simp; omega⟩
      exact aE _ [(1,1,_)] ⟨by simp,by simp,by simp [aB,Blk.live,Tb.c],by simp⟩ (by simp [aB,hw])
 obtain rfl:i=x.cols.length:=by omega
 rw [fA (Nat.le_refl _)] at hf
 rw [← hf,eP,LM,sP,sP,sP] at hR2
 clear hf hi hlt
 simp [Tb.c]
 (repeat' first|contradiction|exact .ok|apply And.intro|intro _|(apply gc<;>simp+contextual))
 refine aA (gL (BN x hx x.pr hx.pr)) (by simp [Tb.a,Tb.c]) ?_
 cases hk:lU x.cols.length x.pr with
 | false =>
   have hk':gN x x.pr=6:=by unfold gN; rw [hk]; rfl
   rw [hk',fB (by decide)] at hR2
   rw [← hR2]
   simp [hk]
   (repeat' first|contradiction|exact .ok|apply And.intro|intro _|(apply gc<;>simp+contextual[hk]))
 | true =>
 have hk':gN x x.pr=0:=by unfold gN; rw [hk]; rfl
 rw [hk',eP] at hR2
 have hin:=wG hk
 have hpl:=hx.pr
 simp [hk]
 (repeat' first|contradiction|exact .ok|apply And.intro|intro _|(apply gc<;>simp+contextual[hk]))
 refine aL cF (by decide) (fun i:Nat=>{ s:=cG [(1,.ptr 1 0 0),(7,.d (.int .i64 i))],b:=cE [(1,1,.var (x.c.map AV.d))] }) (fun i=>i≤x.pr.length∧(x.pr.take i).any (nS x)=false) (fun i=>x.pr.length - i) 0 (by simp)
  (aE _ [(1,1,_)] ⟨by simp,by simp,by simp [aB,Blk.live,Tb.c],by simp⟩ (by simp [aB])) ?_
 rintro i ⟨hi,hf⟩
 by_cases hlt:i<x.pr.length
 ·have hw:=aH (n:=(i:Int)+1) (by omega) (by omega)
  have hat:=qP (p:=nS x) hlt
  have hag:=oW (p:=nS x) hlt
  have hg:=dS hlt
  obtain ⟨c,hc⟩:∃ c,c=x.pr[i]:=⟨_,rfl⟩
  have hgi:∀ h,x.pr[i]'h=c:=fun _=>hc.symm
  obtain ⟨h0,h1⟩:=hin c (by rw [hc]; exact List.getElem_mem hlt)
  rw [← hc] at hg hat hag
  obtain ⟨k,rfl⟩:∃ k:Nat,c=k:=⟨c.toNat,by omega⟩
  have hkl:k<x.cols.length:=by omega
  obtain ⟨u,hu2⟩:∃ u,u=x.cols[k]:=⟨_,rfl⟩
  have hgk:∀ h,x.cols[k]'h=u:=fun _=>hu2.symm
  have hn:nS x k=u.b:=by unfold nS; rw [Int.toNat_natCast,List.getElem?_eq_getElem hkl,hgk]; rfl
  rw [hn] at hat hag
  cases hub:u.b with
  | true =>
    rw [hag hub,if_pos rfl,fB (by decide)] at hR2
    rw [← hR2]
    simp [hlt,hg,hgi,Tb.c,hkl,hgk,Col.c,hub]
    (repeat' first|contradiction|exact .ok|apply And.intro|intro _|(apply gc<;>simp+contextual[hub]))
  | false =>
    simp [hlt,hg,hgi,Tb.c,hkl,hgk,Col.c,hub]
    (repeat' first|contradiction|exact .ok|apply And.intro|intro _|(apply gc<;>simp+contextual[hub]))
    refine ⟨i+1,⟨by omega,by rw [hat,hf,hub]; rfl⟩,?_,by simp; omega⟩
    exact aE _ [(1,1,_)] ⟨by simp,by simp,by simp [aB,Blk.live,Tb.c],by simp⟩ (by simp [aB,hw])
 obtain rfl:i=x.pr.length:=by omega
 rw [List.take_length] at hf
 rw [hf,if_neg (by decide),eP] at hR2
 clear hf hi hlt
 simp [Tb.c]
 (repeat' first|contradiction|exact .ok|apply And.intro|intro _|(apply gc<;>simp+contextual))
 have hul:=hx.un
 refine aL cF (by decide) (fun i:Nat=>{ s:=cG [(1,.ptr 1 0 0),(8,.d (.int .i64 i))],b:=cE [(1,1,.var (x.c.map AV.d))] }) (fun i=>i≤x.un.length∧bC (fun _=>gN x) (x.un.drop i) i=bC (fun _=>gN x) x.un 0) (fun i=>x.un.length - i) 0 (by simp)
  (aE _ [(1,1,_)] ⟨by simp,by simp,by simp [aB,Blk.live,Tb.c],by simp⟩ (by simp [aB])) ?_
 rintro i ⟨hi,hf⟩
 by_cases hlt:i<x.un.length
 ·rw [eG hlt] at hf
  have hw:=aH (n:=(i:Int)+1) (by omega) (by omega)
  obtain ⟨l,hl⟩:∃ l,l=x.un[i]:=⟨_,rfl⟩
  have hgi:∀ h,x.un[i]'h=l:=fun _=>hl.symm
  rw [← hl] at hf
  have hkl:gN x l=if lU x.cols.length l=true then 0 else 6:=rfl
  simp [hlt,hgi,nU,Tb.c]
  (repeat' first|contradiction|exact .ok|apply And.intro|intro _|(apply gc<;>simp+contextual))
  refine aA (gL (BN x hx l (hu l (by rw [hl]; exact List.getElem_mem hlt)))) (by simp [Tb.a,Tb.c]) ?_
  cases hb:lU x.cols.length l with
  | false =>
    rw [hb,if_neg (by decide)] at hkl
    rw [hkl,if_pos (by decide)] at hf
    rw [← hf,fB (by decide)] at hR2
    rw [← hR2]
    simp [hb]
    (repeat' first|contradiction|exact .ok|apply And.intro|intro _|(apply gc<;>simp+contextual[hb]))
  | true =>
    rw [hb,if_pos rfl] at hkl
    rw [hkl,if_neg (by decide)] at hf
    simp [hb]
    (repeat' first|contradiction|exact .ok|apply And.intro|intro _|(apply gc<;>simp+contextual[hb]))
    refine ⟨i+1,⟨by omega,hf⟩,?_,by simp; omega⟩
    exact aE _ [(1,1,_)] ⟨by simp,by simp,by simp [aB,Blk.live,Tb.c],by simp⟩ (by simp [aB,hw])
 obtain rfl:i=x.un.length:=by omega
 rw [fA (Nat.le_refl _)] at hf
 rw [← hf,eP] at hR2
 clear hf hi hlt
 simp [Tb.c]
 (repeat' first|contradiction|exact .ok|apply And.intro|intro _|(apply gc<;>simp+contextual))
 have hfl:=hx.fk
 refine aL cF (by decide) (fun i:Nat=>{ s:=cG [(1,.ptr 1 0 0),(9,.d (.int .i64 i))],b:=cE [(1,1,.var (x.c.map AV.d))] }) (fun i=>i≤x.fk.length∧bC (fun _ f=>gN x f.cols) (x.fk.drop i) i=bC (fun _ f=>gN x f.cols) x.fk 0) (fun i=>x.fk.length - i) 0 (by simp)
  (aE _ [(1,1,_)] ⟨by simp,by simp,by simp [aB,Blk.live,Tb.c],by simp⟩ (by simp [aB])) ?_
 rintro i ⟨hi,hf⟩
 by_cases hlt:i<x.fk.length
 ·rw [eG hlt] at hf
  have hw:=aH (n:=(i:Int)+1) (by omega) (by omega)
  obtain ⟨l,hl⟩:∃ l,l=x.fk[i]:=⟨_,rfl⟩
  have hgi:∀ h,x.fk[i]'h=l:=fun _=>hl.symm
  rw [← hl] at hf
  have hkl:gN x l.cols=if lU x.cols.length l.cols=true then 0 else 6:=rfl
  simp [hlt,hgi,Fk.c,Tb.c]
  (repeat' first|contradiction|exact .ok|apply And.intro|intro _|(apply gc<;>simp+contextual))
  refine aA (gL (BN x hx l.cols (hx.fkc l (by rw [hl]; exact List.getElem_mem hlt)))) (by simp [Tb.a,Tb.c]) ?_
  cases hb:lU x.cols.length l.cols with
  | false =>
    rw [hb,if_neg (by decide)] at hkl
    rw [hkl,if_pos (by decide)] at hf
    rw [← hf,fB (by decide)] at hR2
    rw [← hR2]
    simp [hb]
    (repeat' first|contradiction|exact .ok|apply And.intro|intro _|(apply gc<;>simp+contextual[hb]))
  | true =>
    rw [hb,if_pos rfl] at hkl
    rw [hkl,if_neg (by decide)] at hf
    simp [hb]
    (repeat' first|contradiction|exact .ok|apply And.intro|intro _|(apply gc<;>simp+contextual[hb]))
    refine ⟨i+1,⟨by omega,hf⟩,?_,by simp; omega⟩
    exact aE _ [(1,1,_)] ⟨by simp,by simp,by simp [aB,Blk.live,Tb.c],by simp⟩ (by simp [aB,hw])
 obtain rfl:i=x.fk.length:=by omega
 rw [fA (Nat.le_refl _)] at hf
 rw [← hf,eP] at hR2
 clear hf hi hlt
 simp [Tb.c]
 (repeat' first|contradiction|exact .ok|apply And.intro|intro _|(apply gc<;>simp+contextual))
 have hhl:=hx.ch
 refine aL cF (by decide) (fun i:Nat=>{ s:=cG [(1,.ptr 1 0 0),(10,.d (.int .i64 i))],b:=cE [(1,1,.var (x.c.map AV.d))] }) (fun i=>i≤x.ch.length∧bC (fun _=>lY (ty x)) (x.ch.drop i) i=bC (fun _=>lY (ty x)) x.ch 0) (fun i=>x.ch.length - i) 0 (by simp)
  (aE _ [(1,1,_)] ⟨by simp,by simp,by simp [aB,Blk.live,Tb.c],by simp⟩ (by simp [aB])) ?_
 rintro i ⟨hi,hf⟩
 by_cases hlt:i<x.ch.length
 ·rw [eG hlt] at hf
  have hw:=aH (n:=(i:Int)+1) (by omega) (by omega)
  obtain ⟨e,he⟩:∃ e,e=x.ch[i]:=⟨_,rfl⟩
  have hgi:∀ h,x.ch[i]'h=e:=fun _=>he.symm
  have hem:e∈x.ch:=by rw [he]; exact List.getElem_mem hlt
  rw [← he] at hf
  have hte:=hty e hem
  have hC:lY (ty x) e=(if (ty x e).2 ≠ 0 then (ty x e).2 else if (ty x e).1 ≠ 2 then 4 else 0):=rfl
  have hbad:lY (ty x) e ≠ 0→T=lY (ty x) e:=fun h0=>by
   rw [if_pos h0] at hf
   rw [← hR2,← hf]
  have hgood:lY (ty x) e=0→bC (fun _=>lY (ty x)) (x.ch.drop (i+1)) (i+1)=bC (fun _=>lY (ty x)) x.ch 0:=fun h=>by
   rw [h,if_neg (by simp)] at hf
   exact hf
  generalize lY (ty x) e=F at hC hbad hgood
  clear hf
  rcases e with ⟨o,c,n,t,g,ks⟩
  simp [hlt,hgi,Ex.c,Tb.c]
  (repeat' first|contradiction|exact .ok|apply And.intro|intro _|(apply gc<;>simp+contextual))
  refine aA (gL (LO x hx)) (by simp [Tb.a,Tb.c]) ?_
  simp [hlt,hgi,Ex.c,Tb.c]
  (repeat' first|contradiction|exact .ok|apply And.intro|intro _|(apply gc<;>simp+contextual))
  refine aA hte (by simp [Ex.a,Ex.c]) ?_
  generalize hE:ty x (.mk o c n t g ks)=E at *
  by_cases h2:E.2=0
  rotate_left
  ·rw [if_pos h2] at hC
   rw [hbad (by rw [hC]; exact h2),hC]
   simp [h2]
   (repeat' first|contradiction|exact .ok|apply And.intro|intro _|(apply gc<;>simp+contextual[h2]))
  rw [if_neg (by simpa using h2)] at hC
  by_cases h1:E.1=2
  ·rw [if_neg (by simpa using h1)] at hC
   simp [h1,h2]
   (repeat' first|contradiction|exact .ok|apply And.intro|intro _|(apply gc<;>simp+contextual[h1,h2]))
   refine ⟨i+1,⟨by omega,hgood hC⟩,?_,by simp; omega⟩
   exact aE _ [(1,1,_)] ⟨by simp,by simp,by simp [aB,Blk.live,Tb.c],by simp⟩ (by simp [aB,hw])
  ·rw [if_pos h1] at hC
   rw [hbad (by rw [hC]; decide),hC]
   simp [h1,h2]
   (repeat' first|contradiction|exact .ok|apply And.intro|intro _|(apply gc<;>simp+contextual[h1,h2]))
 obtain rfl:i=x.ch.length:=by omega
 rw [fA (Nat.le_refl _)] at hf
 rw [← hR2,← hf]
 simp [Tb.c]
 all_goals exact gz
@[simp] theorem aFX {E:dZ} {fn:Func} {y:AV} {st:St} {b1 b2:Blk}:Ab.Ends E fn 2 y [b1,b2] st=zA 2 (pF E fn st) st.b y [b1,b2]:=kP (B':=[b1,b2])
theorem yE {b0 b1:Blk} {bl:Nat→Blk}:KeptOk 2 bl (rZ [b0,b1]) =
  ((((bl 1000000).live=true∨bl 1000000=.dead)∧(iH (aB (rZ [b0,b1])) bl true (bl 1000000)).1=b0) ∧
  (((bl 1000001).live=true∨bl 1000001=.dead)∧(iH (aB (rZ [b0,b1])) bl true (bl 1000001)).1=b1)):=by
 have:=@tG [b0,b1] bl
 simp only [List.length_cons,List.length_nil,Nat.zero_add,Nat.reduceAdd] at this
 rw [this]
 apply propext
 constructor
 ·intro h; exact ⟨h 0 b0 rfl,h 1 b1 rfl⟩
 ·rintro ⟨h0,h1⟩ i c hc
  match i,hc with
  | 0,hc=>cases hc; exact h0
  | 1,hc=>cases hc; exact h1
theorem SA {α:Type} {P:α→Prop} {a b:α} (ha:P a) (hb:P b):∀ x∈[a,b],P x:=fun x hx=>by
 rcases List.mem_cons.1 hx with rfl | hx
 ·exact ha
 ·rw [List.mem_singleton] at hx; subst hx; exact hb
theorem aDh {l:iW} {b0 b1:Blk}:∀ j,j<2→∃ p∈((1000000,1000000,b0)::(1000001,1000001,b1)::l),p.1=aF+j∧p.2.1=aF+j:=fun j hj=>by
 rcases (by omega:j=0∨j=1) with rfl | rfl
 ·exact ⟨_,List.mem_cons_self,rfl,rfl⟩
 ·exact ⟨_,List.mem_cons_of_mem _ List.mem_cons_self,rfl,rfl⟩
theorem mO {x:Tb} {k:Nat} {u:Col} (hk:k<x.cols.length) (hu:x.cols[k]=u):dE x k=u.t:=by
 unfold dE; rw [Int.toNat_natCast,List.getElem?_eq_getElem hk,hu]; rfl
theorem aEt (x o:Tb) (a b:Int) (ha:0≤a∧a<x.cols.length) (hb:0≤b∧b<o.cols.length) :
  Cf En 143 [.d (.int .i64 a),.d (.int .i64 b),.ptr 1000000 0 0,.ptr 1000001 0 0] [.var (x.c.map AV.d),.var (o.c.map AV.d)] (.d (.bool (dE x a==dE o b))) [.var (x.c.map AV.d),.var (o.c.map AV.d)]:=by
 refine aD aW (fn:=Tryz.f143) (by kernel_rfl) rfl (by kernel_rfl) (by decide) (by simp) ?_
 obtain ⟨k,rfl⟩:∃ k:Nat,a=k:=⟨a.toNat,by omega⟩
 obtain ⟨m,rfl⟩:∃ k:Nat,b=k:=⟨b.toNat,by omega⟩
 have hk:k<x.cols.length:=by omega
 have hm:m<o.cols.length:=by omega
 obtain ⟨u,hu⟩:∃ u,u=x.cols[k]:=⟨_,rfl⟩
 obtain ⟨v,hv⟩:∃ u,u=o.cols[m]:=⟨_,rfl⟩
 have hgi:∀ h,x.cols[k]'h=u:=fun _=>hu.symm
 have hgm:∀ h,o.cols[m]'h=v:=fun _=>hv.symm
 rw [mO hk hu.symm,mO hm hv.symm]
 simp [Tb.c,hk,hm,hgi,hgm,Col.c]
 (repeat' first|contradiction|exact .ok|apply And.intro|intro _|(apply gc<;>simp+contextual))
 all_goals first | (rw [yE]; refine ⟨?_,?_⟩ <;> simp [Tb.c]) | (simp [Tb.c]; done) | skip
theorem aAA (x o:Tb) (a b:List Int) (hal:a.length≤1000) (ha:∀ k∈a,0≤k∧k<x.cols.length) (hb:∀ k∈b,0≤k∧k<o.cols.length) (hbl:b.length≤1000) :
  Cf En 142 [.d (.sl (aG a)),.d (.sl (aG b)),.clo 143 [.ptr 1000000 0 0,.ptr 1000001 0 0]] [.var (x.c.map AV.d),.var (o.c.map AV.d)] (.d (.bool (mN x o a b))) [.var (x.c.map AV.d),.var (o.c.map AV.d)]:=by
 refine aD aW (fn:=Tryz.f142) (by kernel_rfl) rfl (by kernel_rfl) (by decide) (by simp) ?_
 by_cases hl:a.length=b.length
 rotate_left
 ·have hP:mN x o a b=false:=by unfold mN; simp [hl]
  have hl':¬ (a.length:Int)=b.length:=by omega
  rw [hP]
  simp [hl,hl']
  (repeat' first|contradiction|exact .ok|apply And.intro|intro _|(apply gc<;>simp+contextual[hl,hl']))
  all_goals first | (rw [yE]; refine ⟨?_,?_⟩ <;> simp [Tb.c]) | (simp [Tb.c]; done) | skip
 simp [hl]
 (repeat' first|contradiction|exact .ok|apply And.intro|intro _|(apply gc<;>simp+contextual))
 have hzl:(a.zip b).length=b.length:=by simp [hl]
 have hPz:mN x o a b=(a.zip b).all fun p=>dE x p.1==dE o p.2:=by unfold mN; simp [hl]
 rw [hPz]
 clear hPz
 refine aL aW (by decide) (fun i:Nat=>{ s:=cG [(1,.d (.sl (aG b))),(2,.clo 143 [.ptr 1000000 0 0,.ptr 1000001 0 0]),(15,.d (.sl (aG a))),(16,.d (.int .i64 b.length)),(17,.d (.int .i64 i))],b:=cE [(1000000,1000000,.var (x.c.map AV.d)),(1000001,1000001,.var (o.c.map AV.d))] }) (fun i=>i≤b.length∧((a.zip b).drop i).all (fun p=>dE x p.1==dE o p.2)=(a.zip b).all (fun p=>dE x p.1==dE o p.2)) (fun i=>b.length - i) 0 (by simp)
  (aE _ [(1000000,1000000,_),(1000001,1000001,_)] ⟨by simp,by simp,by refine SA ?_ ?_ <;> simp [aB,Blk.live,Tb.c],aDh⟩ (by simp [aB,hl])) ?_
 rintro i ⟨hi,hf⟩
 by_cases hlt:i<b.length
 ·have hla:i<a.length:=by omega
  have hw:=aH (n:=(i:Int)+1) (by omega) (by omega)
  have hga:=dS hla
  have hgb:=dS hlt
  obtain ⟨u,hu⟩:∃ u,u=a[i]:=⟨_,rfl⟩
  obtain ⟨v,hv⟩:∃ u,u=b[i]:=⟨_,rfl⟩
  have hgi:∀ h,a[i]'h=u:=fun _=>hu.symm
  have hgm:∀ h,b[i]'h=v:=fun _=>hv.symm
  rw [← hu] at hga
  rw [← hv] at hgb
  rw [List.drop_eq_getElem_cons (by rw [hzl]; exact hlt),List.all_cons,List.getElem_zip,← hu,← hv] at hf
  simp [hlt,hla,hga,hgb,hgi,hgm]
  (repeat' first|contradiction|exact .ok|apply And.intro|intro _|(apply gc<;>simp+contextual))
  refine aK [1000000,1000001] (aEt x o u v (ha u (by rw [hu]; exact List.getElem_mem hla)) (hb v (by rw [hv]; exact List.getElem_mem hlt))) (by simp) (by simp) (by simp) (by simp [Tb.c]) (by simp [kQ]) ?_
  cases he:dE x u==dE o v with
  | true =>
    rw [he,Bool.true_and] at hf
    simp [he]
    (repeat' first|contradiction|exact .ok|apply And.intro|intro _|(apply gc<;>simp+contextual[he]))
    refine ⟨i+1,⟨by omega,hf⟩,?_,by simp; omega⟩
    exact aE _ [(1000000,1000000,_),(1000001,1000001,_)] ⟨by simp,by simp,by refine SA ?_ ?_ <;> simp [aB,Blk.live,Tb.c],aDh⟩ (by simp [aB,hw])
  | false =>
    rw [he,Bool.false_and] at hf
    rw [← hf]
    simp [he,Tb.c]
    (repeat' first|contradiction|exact .ok|apply And.intro|intro _|(apply gc<;>simp+contextual[he]))
    all_goals first | (rw [yE]; refine ⟨?_,?_⟩ <;> simp [Tb.c]) | (simp [Tb.c]; done) | skip
 obtain rfl:i=b.length:=by omega
 rw [List.drop_of_length_le (by omega),List.all_nil] at hf
 rw [← hf]
 simp [Tb.c]
 (repeat' first|contradiction|exact .ok|apply And.intro|intro _|(apply gc<;>simp+contextual))
 all_goals first | (rw [yE]; refine ⟨?_,?_⟩ <;> simp [Tb.c]) | (simp [Tb.c]; done) | skip
theorem LR (S:List Tb) (hl:S.length≤1000) (hS:∀ x∈S,x.ok) (hK:∀ x∈S,fS x=0) (x:Tb) (hx:x∈S) (f:Fk) (hf:f∈x.fk) :
  Cf En 72 [aR S,x.a,f.a] [] (.d (.int .i64 (jP S x f))) []:=by
 refine aD aW (fn:=Tryz.f72) (by kernel_rfl) rfl (by kernel_rfl) (by decide) (by simp) ?_
 simp [aR,Tb.a,Tb.c,Fk.a,Fk.c]
 (repeat' first|contradiction|exact .ok|apply And.intro|intro _|(apply gc<;>simp+contextual))
 refine aA (wA S hl f.t) (by simp [aR]) ?_
 by_cases hz:0≤iB S f
 ·obtain ⟨k,hk⟩:∃ k:Nat,iB S f=k:=⟨(iB S f).toNat,by omega⟩
  have hkl:k<S.length:=by
   have:=rC (p:=fun x:Tb=>x.n==f.t) (l:=S) (i:=0)
   have h2:aY (fun x:Tb=>x.n==f.t) S 0=k:=hk
   rw [h2] at this
   simp at this
   exact this
  obtain ⟨o,ho⟩:∃ o,o=S[k]:=⟨_,rfl⟩
  have hgi:∀ h,S[k]'h=o:=fun _=>ho.symm
  have hom:o∈S:=by rw [ho]; exact List.getElem_mem hkl
  have hR:jP S x f=if mN x o f.cols o.pr=true then 0 else 6:=by
   unfold jP
   rw [hk,Int.toNat_natCast,List.getElem?_eq_getElem hkl,← ho]
   simp only
   rw [if_neg (by omega)]
  rw [hR,cW (show aY (fun x:Tb=>x.n==f.t) S 0=k from hk)]
  simp [hkl,hgi,Tb.c]
  (repeat' first|contradiction|exact .ok|apply And.intro|intro _|(apply gc<;>simp+contextual))
  refine aK [4,9] (aAA x o f.cols o.pr ((hS x hx).fkc f hf) ((nT (hK x hx)).2 f hf) ((nT (hK o hom)).1) (hS o hom).pr) (by simp) (by simp) (by simp) (by simp [Tb.c]) (by simp [kQ]) ?_
  cases hp:mN x o f.cols o.pr <;> simp [hp]
  all_goals (repeat' (first | contradiction | exact .of (by kernel_rfl) | refine And.intro ?_ ?_ | intro _ | (refine aN (fun h=>?_) (fun h=>?_) <;> (have h':=h; (try simp at h'); first | done | simp [h,h',hp] | simp [hp]))))
 ·have hR:jP S x f=11:=by
   unfold jP
   split
   ·rw [if_pos (by omega)]
   ·rfl
  rw [hR,lQ (nO hz)]
  simp
  all_goals exact gz
theorem aCP (S:List Tb) (hl:S.length≤1000) (hS:∀ x∈S,x.ok) (hU:∀ x∈S,∀ l∈x.un,l.length≤1000) (ty:Tb→Ex→Int×Int)
  (hty:∀ x∈S,∀ e∈x.ch,Cf Es 120 [.d (.sl (aG (x.cols.map Col.t))),e.a] [] (.tup [.d (.int .i64 (ty x e).1),.d (.int .i64 (ty x e).2)]) []) :
  Cf Es 31 [aR S] [] (.d (.int .i64 (dR fN ty S))) []:=by
 refine aD cF (fn:=Tryz.f31) (by kernel_rfl) rfl (by kernel_rfl) (by decide) (by simp) ?_
 by_cases c1:6<S.length
 ·have i1:(6:Int)<S.length:=by omega
  rw [show dR fN ty S=8 from by unfold dR; rw [if_pos c1]]
  simp [aR,i1,c1]
  (repeat' first|contradiction|exact .ok|apply And.intro|intro _|(apply gc<;>simp+contextual[i1,c1]))
 have i1:¬ (6:Int)<S.length:=by omega
 have hR2:eZ (bC (jT fN ty S) S 0) (eZ (bC (fun _ x=>bC (fun _=>jP S x) x.fk 0) S 0) (eX S).2)=dR fN ty S:=by unfold dR; rw [if_neg c1]
 generalize dR fN ty S=T at *
 simp [aR,i1,c1]
 (repeat' first|contradiction|exact .ok|apply And.intro|intro _|(apply gc<;>simp+contextual[i1,c1]))
 clear i1 c1
 refine aL cF (by decide) (fun i:Nat=>{ s:=cG [(1,.ptr 1 0 0),(20,.d (.sl (S.map Tb.c))),(21,.d (.int .i64 S.length)),(22,.d (.int .i64 i))],b:=cE [(1,1,.var [.d (.sl (S.map Tb.c))])] }) (fun i=>i≤S.length∧bC (jT fN ty S) (S.drop i) i=bC (jT fN ty S) S 0) (fun i=>S.length - i) 0 (by simp)
  (aE _ [(1,1,_)] ⟨by simp,by simp,by simp [aB,Blk.live],by simp⟩ (by simp [aB])) ?_
 rintro i ⟨hi,hf⟩
 by_cases hlt:i<S.length
 ·rw [eG hlt] at hf
  have hw:=aH (n:=(i:Int)+1) (by omega) (by omega)
  obtain ⟨x,hx⟩:∃ c,c=S[i]:=⟨_,rfl⟩
  have hgi:∀ h,S[i]'h=x:=fun _=>hx.symm
  have hxm:x∈S:=by rw [hx]; exact List.getElem_mem hlt
  obtain ⟨k,hk,hki⟩:=nR (p:=fun d:Tb=>d.n==x.n) (b:=0) hlt (by rw [← hx]; simp)
  have hk':aY (fun d:Tb=>d.n==x.n) S 0=k:=by rw [hk]; simp
  rw [← hx] at hf
  have hE:jT fN ty S i x=if fN x.n=false then 3 else if (k:Int)<i then 5 else eT fN ty x:=by unfold jT; rw [hk']
  have hbad:∀ z:Int,jT fN ty S i x=z→z ≠ 0→T=z:=fun z h h0=>by
   rw [h,if_pos h0] at hf
   rw [← hR2,← hf,fB h0]
  have hgood:jT fN ty S i x=0→bC (jT fN ty S) (S.drop (i+1)) (i+1)=bC (jT fN ty S) S 0:=fun h=>by
   rw [h,if_neg (by simp)] at hf
   exact hf
  have htb:=aCM x (hS x hxm) (hU x hxm) ty (hty x hxm)
  generalize jT fN ty S i x=E at *
  simp [hlt,hgi,Tb.c]
  (repeat' first|contradiction|exact .ok|apply And.intro|intro _|(apply gc<;>simp+contextual))
  refine aA (YL x.n) (by simp) ?_
  cases hn:fN x.n with
  | false =>
    rw [hn,if_pos rfl] at hE
    rw [hbad 3 hE (by decide)]
    simp [hn]
    (repeat' first|contradiction|exact .ok|apply And.intro|intro _|(apply gc<;>simp+contextual[hn]))
  | true =>
    rw [hn,if_neg (by decide)] at hE
    simp [hn]
    (repeat' first|contradiction|exact .ok|apply And.intro|intro _|(apply gc<;>simp+contextual[hn]))
    refine aA (gL (wA S hl x.n)) (by simp [aR]) ?_
    rw [cW hk']
    by_cases hki2:k<i
    ·rw [if_pos (by omega)] at hE
     rw [hbad 5 hE (by decide)]
     simp [hki2]
     (repeat' first|contradiction|exact .ok|apply And.intro|intro _|(apply gc<;>simp+contextual[hki2]))
    ·rw [if_neg (by omega)] at hE
     simp [hki2]
     (repeat' first|contradiction|exact .ok|apply And.intro|intro _|(apply gc<;>simp+contextual[hki2]))
     refine aA htb (by simp [Tb.a,Tb.c]) ?_
     generalize eT fN ty x=e at *
     by_cases he:e=0
     ·simp [he]
      (repeat' first|contradiction|exact .ok|apply And.intro|intro _|(apply gc<;>simp+contextual[he]))
      refine ⟨i+1,⟨by omega,hgood (by rw [hE,he])⟩,?_,by simp; omega⟩
      exact aE _ [(1,1,_)] ⟨by simp,by simp,by simp [aB,Blk.live],by simp⟩ (by simp [aB,hw])
     ·rw [hbad e hE he]
      simp [he]
      (repeat' first|contradiction|exact .ok|apply And.intro|intro _|(apply gc<;>simp+contextual[he]))
 obtain rfl:i=S.length:=by omega
 rw [fA (Nat.le_refl _)] at hf
 have hK:=HK hf.symm
 rw [← hf,eP] at hR2
 clear hf hi hlt
 simp
 (repeat' first|contradiction|exact .ok|apply And.intro|intro _|(apply gc<;>simp+contextual))
 refine aL cF (by decide) (fun i:Nat=>{ s:=cG [(1,.ptr 1 0 0),(48,.d (.sl (S.map Tb.c))),(49,.d (.int .i64 S.length)),(50,.d (.int .i64 i))],b:=cE [(1,1,.var [.d (.sl (S.map Tb.c))])] }) (fun i=>i≤S.length∧bC (fun _ x=>bC (fun _=>jP S x) x.fk 0) (S.drop i) i=bC (fun _ x=>bC (fun _=>jP S x) x.fk 0) S 0) (fun i=>S.length - i) 0 (by simp)
  (aE _ [(1,1,_)] ⟨by simp,by simp,by simp [aB,Blk.live],by simp⟩ (by simp [aB])) ?_
 rintro i ⟨hi,hf⟩
 by_cases hlt:i<S.length
 ·rw [eG hlt] at hf
  have hw:=aH (n:=(i:Int)+1) (by omega) (by omega)
  obtain ⟨x,hx⟩:∃ c,c=S[i]:=⟨_,rfl⟩
  have hgi:∀ h,S[i]'h=x:=fun _=>hx.symm
  have hxm:x∈S:=by rw [hx]; exact List.getElem_mem hlt
  have hxf:=(hS x hxm).fk
  rw [← hx] at hf
  simp [hlt,hgi,Tb.c]
  (repeat' first|contradiction|exact .ok|apply And.intro|intro _|(apply gc<;>simp+contextual))
  refine aL cF (by decide) (fun j:Nat=>{ s:=cG [(1,.ptr 1 0 0),(9,.ptr 9 0 0),(48,.d (.sl (S.map Tb.c))),(49,.d (.int .i64 S.length)),(50,.d (.int .i64 i)),(55,.d (.sl (x.fk.map Fk.c))),(56,.d (.int .i64 x.fk.length)),(57,.d (.int .i64 j))],b:=cE [(1,1,.var [.d (.sl (S.map Tb.c))]),(9,9,.var (x.c.map AV.d))] }) (fun j=>j≤x.fk.length∧bC (fun _=>jP S x) (x.fk.drop j) j=bC (fun _=>jP S x) x.fk 0) (fun j=>x.fk.length - j) 0 (by simp)
   (aE _ [(1,1,_),(9,9,_)] ⟨by simp,by simp,by simp [aB,Blk.live,Tb.c],by simp⟩ (by simp [aB])) ?_
  rintro j ⟨hj,hg⟩
  by_cases hjl:j<x.fk.length
  ·rw [eG hjl] at hg
   have hwj:=aH (n:=(j:Int)+1) (by omega) (by omega)
   obtain ⟨f,hfx⟩:∃ c,c=x.fk[j]:=⟨_,rfl⟩
   have hgf:∀ h,x.fk[j]'h=f:=fun _=>hfx.symm
   have hfm:f∈x.fk:=by rw [hfx]; exact List.getElem_mem hjl
   have hr:=gL (LR S hl hS hK x hxm f hfm)
   rw [← hfx] at hg
   simp [hjl,hgf,Fk.c,Tb.c]
   (repeat' first|contradiction|exact .ok|apply And.intro|intro _|(apply gc<;>simp+contextual))
   refine aA hr (by simp [aR,Tb.a,Tb.c,Fk.a,Fk.c]) ?_
   generalize jP S x f=e at *
   by_cases he:e=0
   ·rw [if_neg (by simpa using he)] at hg
    simp [he]
    (repeat' first|contradiction|exact .ok|apply And.intro|intro _|(apply gc<;>simp+contextual[he]))
    refine ⟨j+1,⟨by omega,hg⟩,?_,by simp; omega⟩
    exact aE _ [(1,1,_),(9,9,_)] ⟨by simp,by simp,by simp [aB,Blk.live,Tb.c],by simp⟩ (by simp [aB,hwj])
   ·rw [if_pos he] at hg
    rw [← hg,if_pos he] at hf
    rw [← hf,fB he] at hR2
    rw [← hR2]
    simp [he]
    (repeat' first|contradiction|exact .ok|apply And.intro|intro _|(apply gc<;>simp+contextual[he]))
  ·obtain rfl:j=x.fk.length:=by omega
   rw [fA (Nat.le_refl _)] at hg
   rw [← hg,if_neg (by simp)] at hf
   simp
   (repeat' first|contradiction|exact .ok|apply And.intro|intro _|(apply gc<;>simp+contextual))
   refine ⟨i+1,⟨by omega,hf⟩,?_,by simp; omega⟩
   exact aE _ [(1,1,_)] ⟨by simp,by simp,by simp [aB,Blk.live],by simp⟩ (by simp [aB,hw])
 obtain rfl:i=S.length:=by omega
 rw [fA (Nat.le_refl _)] at hf
 rw [← hf,eP] at hR2
 rw [← hR2]
 simp
 (repeat' first|contradiction|exact .ok|apply And.intro|intro _|(apply gc<;>simp+contextual))
 refine aA (gL (aCe S hl hS)) (by simp [aR]) ?_
 simp
 all_goals exact gz
end Go.Proofs.Tryz
