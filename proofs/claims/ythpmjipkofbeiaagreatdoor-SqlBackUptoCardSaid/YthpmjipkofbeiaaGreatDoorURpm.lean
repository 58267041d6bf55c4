import Derived.Test.YthpmjipkofbeiaaGreatDoorURks
import Derived.Test.YthpmjipkofbeiaaGreatDoorURut
set_option linter.all false
namespace Go.Proofs.Tryz
open Go.Ab
set_option maxRecDepth 100000
set_option maxHeartbeats 8000000
@[simp] theorem aKS (bl:Nat→Blk) (a b c:List D):qH bl (a.map AV.d++(b.map AV.d++c.map AV.d))=some (a++(b++c),[]):=by rw [← List.map_append,← List.map_append,ZQ]
@[simp] theorem aOv (t:Tm) (l:List D):List.drop 12 (t.c++l)=List.drop 6 l:=by
  rw [show (12:Nat)=6+6 from rfl,← List.drop_drop,aMP]
theorem aMU (a b c d:List UInt8) (st:RS):fR [a,b,c,d] st=if dJ a st=true then some 0 else if dJ b st=true then some 1 else if dJ c st=true then some 2 else if dJ d st=true then some 3 else none:=by
 unfold fR dJ bN
 by_cases h:st.2<0
 ·rw [if_pos h]
  simp only [h,decide_true,Bool.true_and,List.findIdx?_cons,List.findIdx?_nil]
  cases isW a st.1 <;> cases isW b st.1 <;> cases isW c st.1 <;> cases isW d st.1 <;> rfl
 ·rw [if_neg h]
  simp [h]
section
variable {s:List UInt8} (hs:s.length≤5000) {L:Nat} {q:RS→Tm×RS} {st:RS}
include hs
theorem aKT (ha:At (bX s) st.1) {res:Tm×RS} (hres:IP st=res) :
  Cf Es 214 [.ptr 1000000 0 0] [iP s st] res.1.a [iP s res.2]:=by
 unfold IP at hres
 obtain ⟨ws,hws⟩:∃ ws,ws=[EQ,uD,uE]:=⟨_,rfl⟩
 rw [← hws] at hres
 have hwl:ws.length=3:=by rw [hws]; rfl
 have hwm:ws.map (fun w=>[D.str w])=[[.str [105,110,116]],[.str [98,111,111,108]],[.str [116,101,120,116]]]:=by rw [hws]; rfl
 refine cI bI (fn:=Tryz.f214) rfl ?_
 refine gs ?_
 refine aL bI (fun i:Nat=>{ s:=eP [(0,.ptr 1000000 0 0),(2,.ptr 2 0 0),(3,.d (.sl (ws.map fun w=>[.str w]))),(4,.d (.int .i64 i))],b:=eG [(1000000,1000000,iP s st),(2,2,.var zTm)] })
  (fun i=>i≤3∧∀ j (h:j<ws.length),j<i→dJ ws[j] st=false) (fun i=>3 - i) 0 ⟨by simp,fun j h hj=>by omega⟩
  (sZ _ [(2,2,_)] (by simp [aD,Blk.live]) (by simp [aD,hwm])) ?_
 rintro i ⟨hi,h0⟩
 by_cases hlt:i<3
 ·have hlt':(i:Int)<3:=by omega
  have hiw:i<ws.length:=by omega
  have hwr:=wI (n:=(i:Int)+1)
  have hwr2:=wI (n:=1+(i:Int))
  obtain ⟨e,hee⟩:∃ e,e=ws[i]:=⟨_,rfl⟩
  have hge:∀ h,ws[i]'h=e:=fun _=>hee.symm
  cases hw:dJ e st with
  | true =>
    have ho:=CR hiw (fun j h hj=>h0 j h hj) (by rw [← hee]; exact hw)
    rw [ho] at hres
    simp only at hres
    subst hres
    have hto:=bG hs ha hw
    simp [hlt,hlt',hwl,hge]
    refine gw ?_
    refine kZ (hto) ?_
    simp [hwr2]
    refine gw ?_
    all_goals simp [Tm.c,dC]
  | false =>
    have hto:=aX hs ha hw
    simp [hlt,hlt',hwl,hge]
    refine gw ?_
    refine kZ (hto) ?_
    refine gs ?_
    refine ⟨i+1,⟨by omega,fun j h hj=>?_⟩,?_,by simp only; omega⟩
    ·rcases Nat.lt_or_ge j i with c | c
     ·exact h0 j h c
     ·obtain rfl:j=i:=by omega
      rw [← hee]; exact hw
    exact sZ _ [(2,2,_)] (by simp [aD,Blk.live]) (by simp [aD,hwr])
 ·obtain rfl:i=3:=by omega
  have ho:=CS (ws:=ws) (st:=st) fun j h=>h0 j h (by omega)
  rw [ho] at hres
  simp only at hres
  subst hres
  have hfl:=CT hs ha
  simp [hwl]
  refine gw ?_
  refine kZ (hfl) ?_
  refine gs ?_
  all_goals simp [zeT,cD,Tm.c,dC]
theorem aIp (hq:LO s L 27 q) (ha:At (bX s) st.1) (hl:st.1.length≤L) {res:Tm×RS} (hres:UY q st=res) :
  Cf Es 215 [.ptr 1000000 0 0] [iP s st] res.1.a [iP s res.2]:=by
 unfold UY at hres
 refine cI bI (fn:=Tryz.f215) rfl ?_
 have w0:=dY hs ha wWhen
 have k0:=bS wWhen st
 have a0:=ha.kp k0
 have l0:=k0.le
 generalize aN wWhen st=s0 at *
 have q0:=hq.run s0 a0 (by omega)
 have j0:=hq.kp s0
 have b0:=a0.kp j0
 have m0:=j0.le
 generalize q s0=x0 at *
 obtain ⟨x0,y0⟩:=x0
 simp only at hres q0 j0 b0 m0
 have w1:=dY hs b0 wThen
 have k1:=bS wThen y0
 have a1:=b0.kp k1
 have l1:=k1.le
 generalize aN wThen y0=s1 at *
 have q1:=hq.run s1 a1 (by omega)
 have j1:=hq.kp s1
 have b1:=a1.kp j1
 have m1:=j1.le
 generalize q s1=x1 at *
 obtain ⟨x1,y1⟩:=x1
 simp only at hres q1 j1 b1 m1
 have w2:=dY hs b1 wElse
 have k2:=bS wElse y1
 have a2:=b1.kp k2
 have l2:=k2.le
 generalize aN wElse y1=s2 at *
 have q2:=hq.run s2 a2 (by omega)
 have j2:=hq.kp s2
 have b2:=a2.kp j2
 have m2:=j2.le
 generalize q s2=x2 at *
 obtain ⟨x2,y2⟩:=x2
 simp only at hres q2 j2 b2 m2
 have w3:=dY hs b2 wEnd
 subst hres
 refine gs ?_
 refine kZ (w0) ?_
 refine gs ?_
 refine kZ (q0) ?_
 refine gs ?_
 refine kZ (w1) ?_
 refine gs ?_
 refine kZ (q1) ?_
 refine gs ?_
 refine kZ (w2) ?_
 refine gs ?_
 refine kZ (q2) ?_
 refine gs ?_
 refine kZ (w3) ?_
 refine gs ?_
 all_goals simp [cD,Tm.c,dC]
theorem VH (hq:LO s L 27 q) (ha:At (bX s) st.1) (hl:st.1.length≤L+1) {res:Tm×RS} (hres:LL q st=res) :
  Cf Es 216 [.ptr 1000000 0 0] [iP s st] res.1.a [iP s res.2]:=by
 unfold LL at hres
 rw [show aggW=[wCount,IM,IN,IO] from rfl,aMU] at hres
 refine cI bI (fn:=Tryz.f216) rfl ?_
 cases hw0:dJ wCount st with
 | true =>
   rw [if_pos hw0] at hres
   simp only at hres
   have hlen:=fT hw0
   have h3:=ha.kp (cG hw0)
   have hto:=bG hs ha hw0
   generalize aK st=st2 at *
   have wo:=dY hs h3 bF
   have ko:=bS bF st2
   have h4:=h3.kp ko
   have l4:=ko.le
   generalize aN bF st2=st3 at *
   cases hst:dJ fV st3 with
   | true =>
     rw [if_pos ⟨trivial,hst⟩] at hres
     have h5:=h4.kp (cG hst)
     have w5:=dY hs h5 aY
     have ht5:=bG hs h4 hst
     subst hres
     refine gs ?_
     refine kZ (hto) ?_
     refine gs ?_
     refine kZ (wo) ?_
     refine gs ?_
     refine kZ (ht5) ?_
     refine gs ?_
     refine kZ (w5) ?_
     refine gs ?_
     all_goals simp [Tm.c,dC]
   | false =>
     cases hdi:dJ aO st3 with
     | true =>
       rw [if_neg (fun h=>by rw [hst] at h; exact Bool.false_ne_true h.2),if_pos ⟨trivial,hdi⟩] at hres
       have hlen3:=fT hdi
       have h5:=h4.kp (cG hdi)
       have ht5:=bG hs h4 hdi
       generalize aK st3=st5 at *
       have h6:=hq.run st5 h5 (by omega)
       have k6:=hq.kp st5
       have h7:=h5.kp k6
       generalize q st5=x at *
       obtain ⟨x,st6⟩:=x
       simp only at hres h6 k6 h7
       have w7:=dY hs h7 aY
       subst hres
       refine gs ?_
       refine kZ (hto) ?_
       refine gs ?_
       refine kZ (wo) ?_
       refine gs ?_
       refine kZ (aX hs h4 hst) ?_
       refine gs ?_
       refine kZ (ht5) ?_
       refine gs ?_
       refine kZ (h6) ?_
       refine gs ?_
       refine kZ (w7) ?_
       refine gs ?_
       all_goals simp [Tm.c,dC]
     | false =>
       rw [if_neg (fun h=>by rw [hst] at h; exact Bool.false_ne_true h.2),if_neg (fun h=>by rw [hdi] at h; exact Bool.false_ne_true h.2)] at hres
       have h5:=hq.run st3 h4 (by omega)
       have k5:=hq.kp st3
       have h6:=h4.kp k5
       generalize q st3=x at *
       obtain ⟨x,st4⟩:=x
       simp only at hres h5 k5 h6
       have w5:=dY hs h6 aY
       subst hres
       refine gs ?_
       refine kZ (hto) ?_
       refine gs ?_
       refine kZ (wo) ?_
       refine gs ?_
       refine kZ (aX hs h4 hst) ?_
       refine gs ?_
       refine kZ (aX hs h4 hdi) ?_
       refine gs ?_
       refine kZ (h5) ?_
       refine gs ?_
       refine kZ (w5) ?_
       refine gs ?_
       all_goals simp [AF,Tm.c,dC]
 | false =>
   cases hw1:dJ IM st with
   | true =>
     rw [if_neg (by rw [hw0]; exact Bool.false_ne_true),if_pos hw1] at hres
     simp only at hres
     have hlen:=fT hw1
     have h3:=ha.kp (cG hw1)
     have hto:=bG hs ha hw1
     generalize aK st=st2 at *
     have wo:=dY hs h3 bF
     have ko:=bS bF st2
     have h4:=h3.kp ko
     have l4:=ko.le
     generalize aN bF st2=st3 at *
     rw [if_neg (fun h=>absurd h.1 (by decide)),if_neg (fun h=>absurd h.1 (by decide))] at hres
     have h5:=hq.run st3 h4 (by omega)
     have k5:=hq.kp st3
     have h6:=h4.kp k5
     generalize q st3=x at *
     obtain ⟨x,st4⟩:=x
     simp only at hres h5 k5 h6
     have w5:=dY hs h6 aY
     subst hres
     refine gs ?_
     refine kZ (aX hs ha hw0) ?_
     refine gs ?_
     refine kZ (hto) ?_
     refine gs ?_
     refine kZ (wo) ?_
     refine gs ?_
     refine kZ (h5) ?_
     refine gs ?_
     refine kZ (w5) ?_
     refine gs ?_
     all_goals simp [AF,Tm.c,dC]
   | false =>
     cases hw2:dJ IN st with
     | true =>
       rw [if_neg (by rw [hw0]; exact Bool.false_ne_true),if_neg (by rw [hw1]; exact Bool.false_ne_true),if_pos hw2] at hres
       simp only at hres
       have hlen:=fT hw2
       have h3:=ha.kp (cG hw2)
       have hto:=bG hs ha hw2
       generalize aK st=st2 at *
       have wo:=dY hs h3 bF
       have ko:=bS bF st2
       have h4:=h3.kp ko
       have l4:=ko.le
       generalize aN bF st2=st3 at *
       rw [if_neg (fun h=>absurd h.1 (by decide)),if_neg (fun h=>absurd h.1 (by decide))] at hres
       have h5:=hq.run st3 h4 (by omega)
       have k5:=hq.kp st3
       have h6:=h4.kp k5
       generalize q st3=x at *
       obtain ⟨x,st4⟩:=x
       simp only at hres h5 k5 h6
       have w5:=dY hs h6 aY
       subst hres
       refine gs ?_
       refine kZ (aX hs ha hw0) ?_
       refine gs ?_
       refine kZ (aX hs ha hw1) ?_
       refine gs ?_
       refine kZ (hto) ?_
       refine gs ?_
       refine kZ (wo) ?_
       refine gs ?_
       refine kZ (h5) ?_
       refine gs ?_
       refine kZ (w5) ?_
       refine gs ?_
       all_goals simp [AF,Tm.c,dC]
     | false =>
       cases hw3:dJ IO st with
       | true =>
         rw [if_neg (by rw [hw0]; exact Bool.false_ne_true),if_neg (by rw [hw1]; exact Bool.false_ne_true),if_neg (by rw [hw2]; exact Bool.false_ne_true),if_pos hw3] at hres
         simp only at hres
         have hlen:=fT hw3
         have h3:=ha.kp (cG hw3)
         have hto:=bG hs ha hw3
         generalize aK st=st2 at *
         have wo:=dY hs h3 bF
         have ko:=bS bF st2
         have h4:=h3.kp ko
         have l4:=ko.le
         generalize aN bF st2=st3 at *
         rw [if_neg (fun h=>absurd h.1 (by decide)),if_neg (fun h=>absurd h.1 (by decide))] at hres
         have h5:=hq.run st3 h4 (by omega)
         have k5:=hq.kp st3
         have h6:=h4.kp k5
         generalize q st3=x at *
         obtain ⟨x,st4⟩:=x
         simp only at hres h5 k5 h6
         have w5:=dY hs h6 aY
         subst hres
         refine gs ?_
         refine kZ (aX hs ha hw0) ?_
         refine gs ?_
         refine kZ (aX hs ha hw1) ?_
         refine gs ?_
         refine kZ (aX hs ha hw2) ?_
         refine gs ?_
         refine kZ (hto) ?_
         refine gs ?_
         refine kZ (wo) ?_
         refine gs ?_
         refine kZ (h5) ?_
         refine gs ?_
         refine kZ (w5) ?_
         refine gs ?_
         all_goals simp [AF,Tm.c,dC]
       | false =>
         rw [if_neg (by rw [hw0]; exact Bool.false_ne_true),if_neg (by rw [hw1]; exact Bool.false_ne_true),if_neg (by rw [hw2]; exact Bool.false_ne_true),if_neg (by rw [hw3]; exact Bool.false_ne_true)] at hres
         simp only at hres
         subst hres
         have hfl:=CT hs ha
         refine gs ?_
         refine kZ (aX hs ha hw0) ?_
         refine gs ?_
         refine kZ (aX hs ha hw1) ?_
         refine gs ?_
         refine kZ (aX hs ha hw2) ?_
         refine gs ?_
         refine kZ (aX hs ha hw3) ?_
         refine gs ?_
         refine kZ (hfl) ?_
         refine gs ?_
         all_goals simp [zeT,cD,Tm.c,dC]
end
def aLh (q:RS→Tm×RS) (s:RS):Tm×RS :=
    if 0≤s.2 then (zeT,s)
    else if (eU s.1).kd=2 then (.mk 2 0 (eU s.1).n [] [] [],aK s)
    else if (eU s.1).kd=3 then (.mk 4 0 0 (eU s.1).tx [] [],aK s)
    else if jV s=true then
     let a:=fK s
     if dJ qJ a.2=true then (.mk 40 0 0 (fK (aK a.2)).1 a.1 [],(fK (aK a.2)).2) else (.mk 40 0 0 a.1 [] [],a.2)
    else if dJ bF s=true then ((q (aK s)).1,aN aY (q (aK s)).2)
    else if dJ wTrue s=true then (.mk 3 0 1 [] [] [],aK s)
    else if dJ wFalse s=true then (cD 3 [],aK s)
    else if dJ wNull s=true then IP (aK s)
    else if dJ wLength s=true then
     let a:=q (aN bF (aK s))
     (cD 13 [a.1],aN aY a.2)
    else if dJ wCoalesce s=true then
     let a:=q (aN bF (aK s))
     let b:=q (aN bQ a.2)
     (cD 27 [a.1,b.1],aN aY b.2)
    else if dJ wCase s=true then UY q (aK s)
    else LL q s
section
variable {s:List UInt8} (hs:s.length≤5000) {L:Nat} {q:RS→Tm×RS} {st:RS}
include hs
theorem aDC (hq:LO s L 27 q) (ha:At (bX s) st.1) (hl:st.1.length≤L+1) {res:Tm×RS} (hres:aLh q st=res) :
  Cf Es 207 [.ptr 1000000 0 0] [iP s st] res.1.a [iP s res.2]:=by
 unfold aLh at hres
 refine cI bI (fn:=Tryz.f207) rfl ?_
 by_cases hb:0≤st.2
 ·rw [if_pos hb] at hres
  subst hres
  simp [hb]
  refine gw ?_
  all_goals simp [zeT,cD,Tm.c,dC]
 rw [if_neg hb] at hres
 have hb':st.2<0:=by omega
 by_cases k2:(eU st.1).kd=2
 ·rw [if_pos k2] at hres
  subst hres
  have hn:=JE hs ha (iS (by omega) (by omega))
  simp [hb,k2]
  refine gw ?_
  refine aH [1000000] (hn) (by simp [k2]) (by simp) ?_
  simp [Tm.c,dC] <;> exact gz
 rw [if_neg k2] at hres
 by_cases k3:(eU st.1).kd=3
 ·rw [if_pos k3] at hres
  subst hres
  have hn:=JE hs ha (iS (by omega) (by omega))
  simp [hb,k3]
  refine gw ?_
  refine aH [1000000] (hn) (by simp [k3]) (by simp) ?_
  simp [Tm.c,dC] <;> exact gz
 rw [if_neg k3] at hres
 have hnd:=aBq hs ha
 cases hna:jV st with
 | true =>
   rw [if_pos hna] at hres
   rw [hna] at hnd
   have hnm:=wS hs ha
   have kn:=rE st
   have h1:=ha.kp kn
   generalize fK st=a at *
   obtain ⟨a,st1⟩:=a
   simp only at hres hnm kn h1
   cases hd:dJ qJ st1 with
   | true =>
     rw [if_pos hd] at hres
     have h2:=h1.kp (cG hd)
     have hto:=bG hs h1 hd
     generalize aK st1=st2 at *
     have hnm2:=wS hs h2
     generalize fK st2=b at *
     obtain ⟨b,st3⟩:=b
     simp only at hres hnm2
     subst hres
     simp [hb,k2,k3]
     refine gw ?_
     refine kZ (hnd) ?_
     refine gs ?_
     refine kZ (hnm) ?_
     refine gs ?_
     refine kZ (hto) ?_
     refine gs ?_
     refine kZ (hnm2) ?_
     simp [Tm.c,dC] <;> exact gz
   | false =>
     rw [if_neg (by rw [hd]; exact Bool.false_ne_true)] at hres
     have hto:=aX hs h1 hd
     subst hres
     simp [hb,k2,k3]
     refine gw ?_
     refine kZ (hnd) ?_
     refine gs ?_
     refine kZ (hnm) ?_
     refine gs ?_
     refine kZ (hto) ?_
     simp [Tm.c,dC] <;> exact gz
 | false =>
 rw [if_neg (by rw [hna]; exact Bool.false_ne_true)] at hres
 rw [hna] at hnd
 simp [hb,k2,k3]
 refine gw ?_
 refine kZ (hnd) ?_
 refine gs ?_
 cases hw1:dJ bF st with
 | true =>
   rw [if_pos hw1] at hres
   have hlen:=fT hw1
   have h1:=ha.kp (cG hw1)
   have hto:=bG hs ha hw1
   generalize aK st=st1 at *
   refine kZ (hto) ?_
   refine gs ?_
   have h2:=hq.run st1 h1 (by omega)
   have k2:=hq.kp st1
   have h2':=h1.kp k2
   have l2:=k2.le
   generalize q st1=x2 at *
   obtain ⟨x2,st2⟩:=x2
   simp only at hres h2 k2 h2' l2
   have hw:=dY hs h2' aY
   subst hres
   refine kZ (h2) ?_
   refine gs ?_
   refine kZ (hw) ?_
   exact gq
 | false =>
 rw [if_neg (by rw [hw1]; exact Bool.false_ne_true)] at hres
 refine kZ (aX hs ha hw1) ?_
 refine gs ?_
 cases hw2:dJ wTrue st with
 | true =>
   rw [if_pos hw2] at hres
   have hlen:=fT hw2
   have h1:=ha.kp (cG hw2)
   have hto:=bG hs ha hw2
   generalize aK st=st1 at *
   subst hres
   refine kZ (hto) ?_
   simp [Tm.c,dC] <;> exact gz
 | false =>
 rw [if_neg (by rw [hw2]; exact Bool.false_ne_true)] at hres
 refine kZ (aX hs ha hw2) ?_
 refine gs ?_
 cases hw3:dJ wFalse st with
 | true =>
   rw [if_pos hw3] at hres
   have hlen:=fT hw3
   have h1:=ha.kp (cG hw3)
   have hto:=bG hs ha hw3
   generalize aK st=st1 at *
   subst hres
   refine kZ (hto) ?_
   simp [cD,Tm.c,dC] <;> exact gz
 | false =>
 rw [if_neg (by rw [hw3]; exact Bool.false_ne_true)] at hres
 refine kZ (aX hs ha hw3) ?_
 refine gs ?_
 cases hw4:dJ wNull st with
 | true =>
   rw [if_pos hw4] at hres
   have hlen:=fT hw4
   have h1:=ha.kp (cG hw4)
   have hto:=bG hs ha hw4
   generalize aK st=st1 at *
   refine kZ (hto) ?_
   refine gs ?_
   have hnu:=aKT hs h1 hres
   refine kZ (hnu) ?_
   exact gq
 | false =>
 rw [if_neg (by rw [hw4]; exact Bool.false_ne_true)] at hres
 refine kZ (aX hs ha hw4) ?_
 refine gs ?_
 cases hw5:dJ wLength st with
 | true =>
   rw [if_pos hw5] at hres
   have hlen:=fT hw5
   have h1:=ha.kp (cG hw5)
   have hto:=bG hs ha hw5
   generalize aK st=st1 at *
   refine kZ (hto) ?_
   refine gs ?_
   have w2:=dY hs h1 bF
   have kw2:=bS bF st1
   have h2:=h1.kp kw2
   have lw2:=kw2.le
   generalize aN bF st1=st2 at *
   have h3:=hq.run st2 h2 (by omega)
   have k3:=hq.kp st2
   have h3':=h2.kp k3
   have l3:=k3.le
   generalize q st2=x3 at *
   obtain ⟨x3,st3⟩:=x3
   simp only at hres h3 k3 h3' l3
   have hw:=dY hs h3' aY
   subst hres
   refine kZ (w2) ?_
   refine gs ?_
   refine kZ (h3) ?_
   refine gs ?_
   refine aA (iQ (AQ 13 x3)) (by simp) ?_
   refine gs ?_
   refine kZ (hw) ?_
   exact gq
 | false =>
 rw [if_neg (by rw [hw5]; exact Bool.false_ne_true)] at hres
 refine kZ (aX hs ha hw5) ?_
 refine gs ?_
 cases hw6:dJ wCoalesce st with
 | true =>
   rw [if_pos hw6] at hres
   have hlen:=fT hw6
   have h1:=ha.kp (cG hw6)
   have hto:=bG hs ha hw6
   generalize aK st=st1 at *
   refine kZ (hto) ?_
   refine gs ?_
   have w2:=dY hs h1 bF
   have kw2:=bS bF st1
   have h2:=h1.kp kw2
   have lw2:=kw2.le
   generalize aN bF st1=st2 at *
   have h3:=hq.run st2 h2 (by omega)
   have k3:=hq.kp st2
   have h3':=h2.kp k3
   have l3:=k3.le
   generalize q st2=x3 at *
   obtain ⟨x3,st3⟩:=x3
   simp only at hres h3 k3 h3' l3
   have w4:=dY hs h3' bQ
   have kw4:=bS bQ st3
   have h4:=h3'.kp kw4
   have lw4:=kw4.le
   generalize aN bQ st3=st4 at *
   have h5:=hq.run st4 h4 (by omega)
   have k5:=hq.kp st4
   have h5':=h4.kp k5
   have l5:=k5.le
   generalize q st4=x5 at *
   obtain ⟨x5,st5⟩:=x5
   simp only at hres h5 k5 h5' l5
   have hw:=dY hs h5' aY
   subst hres
   refine kZ (w2) ?_
   refine gs ?_
   refine kZ (h3) ?_
   refine gs ?_
   refine kZ (w4) ?_
   refine gs ?_
   refine kZ (h5) ?_
   refine gs ?_
   refine aA (iQ (xL 27 x3 x5)) (by simp) ?_
   refine gs ?_
   refine kZ (hw) ?_
   exact gq
 | false =>
 rw [if_neg (by rw [hw6]; exact Bool.false_ne_true)] at hres
 refine kZ (aX hs ha hw6) ?_
 refine gs ?_
 cases hw7:dJ wCase st with
 | true =>
   rw [if_pos hw7] at hres
   have hlen:=fT hw7
   have h1:=ha.kp (cG hw7)
   have hto:=bG hs ha hw7
   generalize aK st=st1 at *
   refine kZ (hto) ?_
   refine gs ?_
   have hca:=aIp hs hq h1 (by omega) hres
   refine kZ (hca) ?_
   exact gq
 | false =>
 rw [if_neg (by rw [hw7]; exact Bool.false_ne_true)] at hres
 refine kZ (aX hs ha hw7) ?_
 refine gs ?_
 have hag:=VH hs hq ha hl hres
 refine kZ (hag) ?_
 exact gq
end
end Go.Proofs.Tryz
