import Derived.Test.YthpmjipkofbeiaaGreatDoorURxr
set_option linter.all false
namespace Go.Proofs.Tryz
open Go.Ab
set_option maxRecDepth 100000
set_option maxHeartbeats 16000000
@[simp] def zJo:List AV:=[.d (.int .i64 0),.d (.str []),.nils,.d (.str []),.nils]
@[simp] def zJk (k:Int):List AV:=[.d (.int .i64 k),.d (.str []),.nils,.d (.str []),.nils]
theorem aNe {n:Int} (h:¬ n=0):(n==0)=false:=beq_eq_false_iff_ne.2 h
section
variable {s:List UInt8} (hs:s.length≤5000) {L:Nat} {tm:RS→Tm×RS} {st:RS→Sm×RS} {r:RS}
include hs
theorem aLp (ht:LO s L 27 tm) (hso:RuX So.a s L 113 (bC st)) (ha:At (bX s) r.1) (hl:r.1.length≤L) :
  Cf Es 114 [.ptr 1000000 0 0] [iP s r] (.tup [(FQ tm st r).1.a,.d (.bool (FQ tm st r).2.1)]) [iP s (FQ tm st r).2.2]:=by
 generalize hres:FQ tm st r=res
 unfold FQ at hres
 obtain ⟨ws,hws⟩:∃ ws,ws=LM:=⟨_,rfl⟩
 rw [← hws] at hres
 have hwl:ws.length=7:=by rw [hws]; rfl
 have hwm:ws.map (fun w=>[D.str w])=[[.str [99,114,111,115,115]],[.str [105,110,110,101,114]],[.str [108,101,102,116]],[.str [114,105,103,104,116]],[.str [102,117,108,108]],[.str [115,101,109,105]],[.str [97,110,116,105]]]:=by rw [hws]; rfl
 refine cI bI (fn:=Tryz.f114) rfl ?_
 refine gs ?_
 refine aL bI (fun y:Option Nat×Nat×RS=>{ s:=eP [(0,.ptr 1000000 0 0),(2,.ptr 2 0 0),(3,.d (.bool false)),(4,.d (.sl (ws.map fun w=>[.str w]))),(5,.ptr 5 0 0),(6,.d (.bool y.1.isSome)),(7,.d (.int .i64 y.2.1))],b:=eG [(1000000,1000000,iP s y.2.2),(2,2,.var zJo),(5,5,.var (zJk (y.1.getD 1:Nat)))] })
  (fun y=>y.2.1≤8∧match y.1 with
   | none=>y.2.1≤7∧y.2.2=r∧∀ j (h:j<ws.length),j<y.2.1→dJ ws[j] r=false
   | some k=>k<7∧fR ws r=some k∧y.2.2=aK r) (fun y=>8 - y.2.1) (none,0,r) ⟨by simp,by simp,rfl,fun j h hj=>by simp only at hj; omega⟩
  (sZ _ [(2,2,_),(5,5,_)] (by simp [aD,Blk.live]) (by simp [aD,hwm])) ?_
 rintro ⟨k,i,r0⟩ ⟨hi,hk⟩
 simp only at hi hk
 cases k with
 | some k =>
   obtain ⟨hk7,ho,rfl⟩:=hk
   rw [ho] at hres
   simp only at hres
   have hlen:=QD ho
   have ha1:=ha.kp (vM ho)
   generalize aK r=r1 at *
   have hkd:(Option.some k).getD 1=k:=rfl
   by_cases hlt:i<7
   ·have hlt':(i:Int)<7:=by omega
    simp [hlt,hlt',hwl]
    refine gw ?_
    have w2:=dY hs ha1 wJoin
    have ha2:=ha1.kp (bS wJoin r1)
    have hl2:=(bS wJoin r1).len
    have hw2e:aN wJoin r1=aN wJoin r1:=rfl
    unfold oN at hres
    simp only at hres
    generalize aN wJoin r1=r2 at *
    have h2:=hso.run r2 ha2 (by omega)
    have ha3:=ha2.kp (hso.kp r2)
    have hl3:=(hso.kp r2).len
    generalize bC st r2=x at *
    obtain ⟨⟨ta,qs,na⟩,r3⟩:=x
    simp only [So.a,jJ,kK,aE] at hres h2 ha3 hl3
    have w3:=dY hs ha3 yG
    have ha4:=ha3.kp (bS yG r3)
    have hl4:=(bS yG r3).len
    by_cases hk0:k=0
    ·subst hk0
     rw [if_pos rfl] at hres
     subst hres
     refine kZ (w2) ?_
     refine gs ?_
     refine kZ (h2) ?_
     refine gs ?_
     all_goals simp [Jo.a,Jo.c]
    ·have hk0i:¬ (k:Int)=0:=by omega
     have hkb:=aNe hk0i
     rw [if_neg hk0] at hres
     generalize aN yG r3=r4 at *
     have h4:=ht.run r4 ha4 (by omega)
     generalize tm r4=y at *
     obtain ⟨t,r5⟩:=y
     simp only at hres h4
     subst hres
     refine kZ (w2) ?_
     refine gs ?_
     refine kZ (h2) ?_
     simp [hk0]
     refine gw ?_
     refine kZ (w3) ?_
     refine gs ?_
     refine kZ (h4) ?_
     refine gs ?_
     all_goals simp [Jo.a,Jo.c]
   ·have hlt':¬ (i:Int)<7:=by omega
    simp [hlt,hlt',hwl]
    refine gw ?_
    have w2:=dY hs ha1 wJoin
    have ha2:=ha1.kp (bS wJoin r1)
    have hl2:=(bS wJoin r1).len
    have hw2e:aN wJoin r1=aN wJoin r1:=rfl
    unfold oN at hres
    simp only at hres
    generalize aN wJoin r1=r2 at *
    have h2:=hso.run r2 ha2 (by omega)
    have ha3:=ha2.kp (hso.kp r2)
    have hl3:=(hso.kp r2).len
    generalize bC st r2=x at *
    obtain ⟨⟨ta,qs,na⟩,r3⟩:=x
    simp only [So.a,jJ,kK,aE] at hres h2 ha3 hl3
    have w3:=dY hs ha3 yG
    have ha4:=ha3.kp (bS yG r3)
    have hl4:=(bS yG r3).len
    by_cases hk0:k=0
    ·subst hk0
     rw [if_pos rfl] at hres
     subst hres
     refine kZ (w2) ?_
     refine gs ?_
     refine kZ (h2) ?_
     refine gs ?_
     all_goals simp [Jo.a,Jo.c]
    ·have hk0i:¬ (k:Int)=0:=by omega
     have hkb:=aNe hk0i
     rw [if_neg hk0] at hres
     generalize aN yG r3=r4 at *
     have h4:=ht.run r4 ha4 (by omega)
     generalize tm r4=y at *
     obtain ⟨t,r5⟩:=y
     simp only at hres h4
     subst hres
     refine kZ (w2) ?_
     refine gs ?_
     refine kZ (h2) ?_
     simp [hk0]
     refine gw ?_
     refine kZ (w3) ?_
     refine gs ?_
     refine kZ (h4) ?_
     refine gs ?_
     all_goals simp [Jo.a,Jo.c]
 | none =>
   obtain ⟨hi7,rfl,h0⟩:=hk
   by_cases hlt:i<7
   ·have hlt':(i:Int)<7:=by omega
    have hiw:i<ws.length:=by omega
    have hwr:=wI (n:=(i:Int)+1)
    obtain ⟨e,hee⟩:∃ e,e=ws[i]:=⟨_,rfl⟩
    have hge:∀ h,ws[i]'h=e:=fun _=>hee.symm
    cases hw:dJ e r0 with
    | true =>
      have ho:=CR hiw (fun j h hj=>h0 j h hj) (by rw [← hee]; exact hw)
      have hto:=bG hs ha hw
      simp [hlt,hlt',hwl,hge]
      refine gw ?_
      refine kZ (hto) ?_
      refine gs ?_
      refine ⟨(some i,i+1,aK r0),⟨by simp only; omega,by omega,ho,rfl⟩,?_,by simp only; omega⟩
      exact sZ _ [(2,2,_),(5,5,_)] (by simp [aD,Blk.live]) (by simp [aD,hwr])
    | false =>
      have hto:=aX hs ha hw
      simp [hlt,hlt',hwl,hge]
      refine gw ?_
      refine kZ (hto) ?_
      refine gs ?_
      refine ⟨(none,i+1,r0),⟨by simp only; omega,by simp only; omega,rfl,fun j h hj=>?_⟩,?_,by simp only; omega⟩
      ·simp only at hj
       rcases Nat.lt_or_ge j i with c | c
       ·exact h0 j h c
       ·obtain rfl:j=i:=by omega
        rw [← hee]; exact hw
      exact sZ _ [(2,2,_),(5,5,_)] (by simp [aD,Blk.live]) (by simp [aD,hwr])
   ·obtain rfl:i=7:=by omega
    have ho:=CS (ws:=ws) (st:=r0) fun j h=>h0 j h (by omega)
    rw [ho] at hres
    simp only at hres
    have his:=aMW hs ha wJoin
    cases hw:dJ wJoin r0 with
    | false =>
      rw [hw] at his
      rw [if_neg (by rw [hw]; exact Bool.false_ne_true)] at hres
      subst hres
      simp [hwl]
      refine gw ?_
      refine kZ (his) ?_
      refine gs ?_
      all_goals simp [Jo.a,Jo.c]
    | true =>
      rw [hw] at his
      rw [if_pos hw] at hres
      have ha1:=ha
      simp [hwl]
      refine gw ?_
      refine kZ (his) ?_
      refine gs ?_
      have w2:=dY hs ha1 wJoin
      have ha2:=ha1.kp (bS wJoin r0)
      have hl2:=(bS wJoin r0).len
      have hw2e:aN wJoin r0=aN wJoin r0:=rfl
      unfold oN at hres
      simp only at hres
      generalize aN wJoin r0=r2 at *
      have h2:=hso.run r2 ha2 (by omega)
      have ha3:=ha2.kp (hso.kp r2)
      have hl3:=(hso.kp r2).len
      generalize bC st r2=x at *
      obtain ⟨⟨ta,qs,na⟩,r3⟩:=x
      simp only [So.a,jJ,kK,aE] at hres h2 ha3 hl3
      have w3:=dY hs ha3 yG
      have ha4:=ha3.kp (bS yG r3)
      have hl4:=(bS yG r3).len
      rw [if_neg (by decide)] at hres
      generalize aN yG r3=r4 at *
      have h4:=ht.run r4 ha4 (by omega)
      generalize tm r4=y at *
      obtain ⟨t,r5⟩:=y
      simp only at hres h4
      subst hres
      refine kZ (w2) ?_
      refine gs ?_
      refine kZ (h2) ?_
      refine gs ?_
      refine kZ (w3) ?_
      refine gs ?_
      refine kZ (h4) ?_
      refine gs ?_
      all_goals simp [Jo.a,Jo.c]
end
noncomputable def QF:Code:=(Tryz.f75.body).getD .skip
abbrev AT:Nat:=94
section
variable (tm:RS→Tm×RS) (st:RS→Sm×RS)
def CY (d sb:Bool) (is:List It) (so:So) (js:List Jo) (w g:List Tm) (r:RS):Sm×RS:=(.mk 1 false d sb is so.1 so.2.1 so.2.2 js w g (gT tm wHaving r).1 [],(gT tm wHaving r).2)
def JL (d sb:Bool) (is:List It) (so:So) (js:List Jo) (w:List Tm) (r:RS):Sm×RS:=CY tm d sb is so js w (fM tm r).1 (fM tm r).2
def CZ (d sb:Bool) (is:List It) (so:So) (js:List Jo) (r:RS):Sm×RS:=JL tm d sb is so js (gT tm wWhere r).1 (gT tm wWhere r).2
def aFV (d sb:Bool) (is:List It) (so:So) (r:RS):Sm×RS:=CZ tm d sb is so (aAl tm st [] r).1 (aAl tm st [] r).2
def yL (d sb:Bool) (is:List It) (r:RS):Sm×RS:=aFV tm st d sb is (bC st (aN wFrom r)).1 (bC st (aN wFrom r)).2
theorem aIB (r:RS):IS tm st r=if dJ fV (gZ aO (aN wSelect r)).2=true then yL tm st (gZ aO (aN wSelect r)).1 true [] (aK (gZ aO (aN wSelect r)).2)
  else yL tm st (gZ aO (aN wSelect r)).1 false (aAk tm [(jX tm (gZ aO (aN wSelect r)).2).1] (jX tm (gZ aO (aN wSelect r)).2).2).1 (aAk tm [(jX tm (gZ aO (aN wSelect r)).2).1] (jX tm (gZ aO (aN wSelect r)).2).2).2:=by
 unfold IS kW
 simp only
 cases hw:dJ fV (gZ aO (aN wSelect r)).2 with
 | true=>rw [if_pos rfl,if_pos rfl]; rfl
 | false=>rw [if_neg (by simp),if_neg (by simp)]; rfl
end
structure ZA where
 d:Bool
 sb:Bool
 is:List It
 r:RS
structure ZB where
 d:Bool
 sb:Bool
 is:List It
 so:So
 js:List Jo
 r:RS
def GA (s:List UInt8) (y:ZA):St:={ s:=eP [(0,.ptr 1000000 0 0),(2,.ptr 2 0 0),(4,.ptr 4 0 0)],b:=eG [(1000000,1000000,iP s y.r),(2,2,.var xM),(4,4,.var (z5 y.d y.sb (.d (.sl (y.is.map It.c)))))] }
def GB (s:List UInt8) (y:ZB):St:={ s:=eP [(0,.ptr 1000000 0 0),(2,.ptr 2 0 0),(4,.ptr 4 0 0)],b:=eG [(1000000,1000000,iP s y.r),(2,2,.var xM),(4,4,.var (c3 y.d y.sb y.is y.so (.d (.sl (y.js.map Jo.c))) .nils .nils))] }
attribute [simp] It.a It.ctake It.ctake' Jo.a Jo.ctake Jo.ctake'
section
variable {s:List UInt8} (hs:s.length≤5000) {L:Nat} {tm:RS→Tm×RS} {st:RS→Sm×RS}
include hs
theorem aLj {r:RS} (hi:RuX It.a s L 112 (jX tm)) (hTk:∀ r,Kp r (tm r).2) (ha:At (bX s) r.1) (hl:r.1.length≤L) (hno:dJ bF r=false) {res:Sm×RS} (hres:IS tm st r=res) :
  bY Es AT 1 none (jN 5 QF).1 (Go.Ab.begin [.ptr 1000000 0 0] [iP s r]) fun e a=>match e with
   | .normal=>∃ y:ZA,(At (bX s) y.r.1∧y.r.1.length≤r.1.length∧yL tm st y.d y.sb y.is y.r=res)∧Sub Es AT 1 a (GA s y)
   | _=>False:=by
 rw [aIB] at hres
 have hTl:=kJ s
 have hrl:=ha.sfx.length_le
 simp only [QF,AT,Tryz.f75,Option.getD_some,fH,eS]
 refine gs ?_
 refine hZ (aX hs ha hno) ?_
 refine gs ?_
 have w1:=dY hs ha wSelect
 have a1:=ha.kp (bS wSelect r)
 have l1:=(bS wSelect r).len
 generalize aN wSelect r=r1 at *
 have w2:=wX hs a1 aO
 have a2:=a1.kp (oG aO r1)
 have l2:=(oG aO r1).len
 generalize gZ aO r1=x at *
 obtain ⟨d,r2⟩:=x
 simp only at hres w2 a2 l2
 refine hZ (w1) ?_
 refine gs ?_
 refine hZ (w2) ?_
 refine gs ?_
 cases hw:dJ fV r2 with
 | true =>
   rw [if_pos hw] at hres
   have hlen:=oO hw
   have a3:=a2.kp (cG hw)
   refine hZ (bG hs a2 hw) ?_
   refine gs ?_
   refine ⟨⟨d,true,[],aK r2⟩,⟨a3,by simp only; omega,hres⟩,?_⟩
   refine (gV 4 900 72 7 4 (cells:=z5 d true .nils) (by simp) rfl (by simp) (by decide) (by decide)).trans ?_
   exact sZ _ [(2,2,_),(4,4,_)] (by simp [aD,Blk.live]) (by simp [aD])
 | false =>
   rw [if_neg (by rw [hw]; exact Bool.false_ne_true)] at hres
   refine hZ (aX hs a2 hw) ?_
   refine gs ?_
   have h3:=hi.run r2 a2 (by omega)
   have a3:=a2.kp (hi.kp r2)
   have l3:=(hi.kp r2).len
   generalize jX tm r2=x at *
   obtain ⟨i0,r3⟩:=x
   simp only at hres h3 a3 l3
   refine hZ (h3) ?_
   refine gs ?_
   refine iR bI (by decide) (fun y:List It×RS=>{ s:=eP [(0,.ptr 1000000 0 0),(2,.ptr 2 0 0),(4,.ptr 4 0 0)],b:=eG [(1000000,1000000,iP s y.2),(2,2,.var xM),(4,4,.var (z5 d false (.ref 900 0 y.1.length 7))),(900,900,.arr 72 7 (y.1.map It.c) false)] })
    (fun y=>At (bX s) y.2.1∧y.2.1.length≤r.1.length∧y.1.length+y.2.1.length≤10001∧yL tm st d false (aAk tm y.1 y.2).1 (aAk tm y.1 y.2).2=res) (fun y=>y.2.1.length) ([i0],r3) ⟨a3,by simp only; omega,by simp only [List.length_singleton]; omega,hres⟩
    (sZ _ [(2,2,_),(4,4,_),(900,27,_)] (by simp [aD,Blk.live]) (by simp [aD])) ?_
   rintro ⟨is,r4⟩ ⟨a4,l4,hk,hr4⟩
   simp only at a4 l4 hk hr4
   rw [aIw hTk] at hr4
   have hb:(is.length+1)*96≤140737488355328∧is.length≤9223372036854775806:=by omega
   cases hc:dJ bQ r4 with
   | true =>
     have hlen:=oO hc
     have a5:=a4.kp (cG hc)
     rw [if_pos hc] at hr4
     have h5:=bG hs a4 hc
     generalize aK r4=r5 at *
     have h6:=hi.run r5 a5 (by omega)
     have a6:=a5.kp (hi.kp r5)
     have l6:=(hi.kp r5).len
     generalize jX tm r5=x at *
     obtain ⟨i,r6⟩:=x
     simp only at hr4 h6 a6 l6
     refine gs ?_
     refine hZ (h5) ?_
     refine gs ?_
     refine hZ (h6) ?_
     simp [hb]
     refine gw ?_
     refine ⟨(is++[i],r6),⟨a6,by simp only; omega,by simp only [List.length_append,List.length_singleton]; omega,hr4⟩,?_,by simp only; omega⟩
     exact sZ _ [(2,2,_),(4,4,_),(900,36,_)] (by simp [aD,Blk.live]) (by simp [aD])
   | false =>
     rw [if_neg (by rw [hc]; exact Bool.false_ne_true)] at hr4
     refine gs ?_
     refine hZ (aX hs a4 hc) ?_
     refine gs ?_
     refine ⟨⟨d,false,is,r4⟩,⟨a4,by simp only; omega,hr4⟩,?_⟩
     exact sZ _ [(2,2,_),(4,4,_)] (by simp [aD,Blk.live]) (by simp [aD])
theorem aLk (hso:RuX So.a s L 113 (bC st)) (hTk:∀ r,Kp r (tm r).2) (hSk:∀ r,Kp r (st r).2)
  (hj:∀ r:RS,At (bX s) r.1→r.1.length≤L→Cf Es 114 [.ptr 1000000 0 0] [iP s r] (.tup [(FQ tm st r).1.a,.d (.bool (FQ tm st r).2.1)]) [iP s (FQ tm st r).2.2])
  {y:ZA} (ha:At (bX s) y.r.1) (hl:y.r.1.length≤L) {res:Sm×RS} (hres:yL tm st y.d y.sb y.is y.r=res) :
  bY Es AT 1 none (jN 3 (jN 5 QF).2).1 (GA s y) fun e a=>match e with
   | .normal=>∃ z:ZB,(At (bX s) z.r.1∧z.r.1.length≤y.r.1.length∧CZ tm z.d z.sb z.is z.so z.js z.r=res)∧Sub Es AT 1 a (GB s z)
   | _=>False:=by
 obtain ⟨d,sb,is,r⟩:=y
 simp only at ha hl hres ⊢
 unfold yL at hres
 have hTl:=kJ s
 have hrl:=ha.sfx.length_le
 simp only [QF,AT,Tryz.f75,Option.getD_some,fH,eS,GA]
 refine gs ?_
 have w1:=dY hs ha wFrom
 have a1:=ha.kp (bS wFrom r)
 have l1:=(bS wFrom r).len
 generalize aN wFrom r=r1 at *
 have h2:=hso.run r1 a1 (by omega)
 have a2:=a1.kp (hso.kp r1)
 have l2:=(hso.kp r1).len
 generalize bC st r1=x at *
 obtain ⟨⟨ta,qs,na⟩,r2⟩:=x
 simp only [So.a,jJ,kK,aE] at hres h2 a2 l2
 unfold aFV at hres
 refine hZ (w1) ?_
 refine gs ?_
 refine hZ (h2) ?_
 refine gs ?_
 refine iR bI (by decide) (fun y:List Jo×RS=>{ s:=eP [(0,.ptr 1000000 0 0),(2,.ptr 2 0 0),(4,.ptr 4 0 0)],b:=eG [(1000000,1000000,iP s y.2),(2,2,.var xM),(4,4,.var (c3 d sb is (ta,qs,na) (.ref 901 0 y.1.length 5) .nils .nils)),(901,901,.arr 75 5 (y.1.map Jo.c) false)] })
  (fun y=>At (bX s) y.2.1∧y.2.1.length≤r.1.length∧y.1.length+y.2.1.length≤10001∧CZ tm d sb is (ta,qs,na) (aAl tm st y.1 y.2).1 (aAl tm st y.1 y.2).2=res) (fun y=>y.2.1.length) ([],r2) ⟨a2,by simp only; omega,by simp only [List.length_nil]; omega,hres⟩
  ((gV 4 901 75 5 8 (cells:=c3 d sb is (ta,qs,na) .nils .nils .nils) (by simp) rfl (by simp) (by decide) (by decide)).trans (sZ _ [(2,2,_),(4,4,_),(901,901,_)] (by simp [aD,Blk.live]) (by simp [aD]))) ?_
 clear hres h2 a2 l2 w1 l1 a1
 rintro ⟨js,r3⟩ ⟨a3,l3,hk,hr3⟩
 simp only at a3 l3 hk hr3
 rw [aIy hTk hSk] at hr3
 have hb:(js.length+1)*88≤140737488355328∧js.length≤9223372036854775806:=by omega
 by_cases hbad:0≤r3.2
 ·rw [if_pos hbad] at hr3
  have hbad':¬ r3.2<0:=by omega
  simp [hbad']
  refine gw ?_
  refine ⟨⟨d,sb,is,(ta,qs,na),js,r3⟩,⟨a3,by simp only; omega,hr3⟩,?_⟩
  exact sZ _ [(2,2,_),(4,4,_)] (by simp [aD,Blk.live]) (by simp [aD])
 ·rw [if_neg hbad] at hr3
  have hbad':r3.2<0:=by omega
  have h4:=hj r3 a3 (by omega)
  have kj:Kp r3 (FQ tm st r3).2.2:=by
   unfold FQ
   split
   ·rename_i ho; exact (vM ho).trans (AM hTk hSk _ _)
   ·split
    ·exact AM hTk hSk _ _
    ·exact .refl _
  have a4:=a3.kp kj
  have lj:=@aFP tm st hTk hSk r3
  have nj:=@aNa tm st r3
  generalize FQ tm st r3=x at *
  obtain ⟨j,ok,r4⟩:=x
  simp only at hr3 h4 kj a4 lj nj
  cases ok with
  | false =>
    rw [if_neg (by simp)] at hr3
    obtain rfl:=nj rfl
    simp [hbad']
    refine gw ?_
    refine hZ (h4) ?_
    refine gs ?_
    refine ⟨⟨d,sb,is,(ta,qs,na),js,r4⟩,⟨a3,by simp only; omega,hr3⟩,?_⟩
    exact sZ _ [(2,2,_),(4,4,_)] (by simp [aD,Blk.live]) (by simp [aD])
  | true =>
    rw [if_pos rfl] at hr3
    have hlt:=lj rfl
    simp [hbad']
    refine gw ?_
    refine hZ (h4) ?_
    simp [hb]
    refine gw ?_
    refine ⟨(js++[j],r4),⟨a4,by simp only; omega,by simp only [List.length_append,List.length_singleton]; omega,hr3⟩,?_,by simp only; omega⟩
    exact sZ _ [(2,2,_),(4,4,_),(901,59,_)] (by simp [aD,Blk.live]) (by simp [aD])
end
structure ZC where
 y:ZB
 w:List Tm
 r:RS
structure ZD where
 y:ZB
 w:List Tm
 g:List Tm
 r:RS
noncomputable def VQ:Code:=(jN 3 (jN 5 QF).2).2
noncomputable def aBy:Code:=(jN 1 VQ).2
noncomputable def aJU:Code:=(jN 1 aBy).2
def GC (s:List UInt8) (y:ZC):St:={ s:=eP [(0,.ptr 1000000 0 0),(2,.ptr 2 0 0),(4,.ptr 4 0 0)],b:=eG [(1000000,1000000,iP s y.r),(2,2,.var xM),(4,4,.var (c3 y.y.d y.y.sb y.y.is y.y.so (.d (.sl (y.y.js.map Jo.c))) (.d (.sl (y.w.map Tm.c))) .nils))] }
def GD (s:List UInt8) (y:ZD):St:={ s:=eP [(0,.ptr 1000000 0 0),(2,.ptr 2 0 0),(4,.ptr 4 0 0)],b:=eG [(1000000,1000000,iP s y.r),(2,2,.var xM),(4,4,.var (c3 y.y.d y.y.sb y.y.is y.y.so (.d (.sl (y.y.js.map Jo.c))) (.d (.sl (y.w.map Tm.c))) (.d (.sl (y.g.map Tm.c)))))] }
section
variable {s:List UInt8} (hs:s.length≤5000) {L:Nat} {tm:RS→Tm×RS} {st:RS→Sm×RS}
include hs
theorem aLl (ht:LO s L 27 tm) {y:ZB} (ha:At (bX s) y.r.1) (hl:y.r.1.length≤L) {res:Sm×RS} (hres:CZ tm y.d y.sb y.is y.so y.js y.r=res) :
  bY Es AT 1 none (jN 1 VQ).1 (GB s y) fun e a=>match e with
   | .normal=>∃ z:ZC,(At (bX s) z.r.1∧z.r.1.length≤y.r.1.length∧JL tm z.y.d z.y.sb z.y.is z.y.so z.y.js z.w z.r=res)∧Sub Es AT 1 a (GC s z)
   | _=>False:=by
 obtain ⟨d,sb,is,so,js,r⟩:=y
 simp only at ha hl hres ⊢
 unfold CZ gT at hres
 simp only [VQ,QF,AT,Tryz.f75,Option.getD_some,fH,eS,GB]
 refine gs ?_
 cases hw:dJ wWhere r with
 | false =>
   rw [if_neg (by rw [hw]; exact Bool.false_ne_true)] at hres
   refine hZ (aX hs ha hw) ?_
   refine gs ?_
   refine ⟨⟨⟨d,sb,is,so,js,r⟩,[],r⟩,⟨ha,Nat.le_refl _,hres⟩,?_⟩
   refine (gV 4 902 25 6 9 (cells:=c3 d sb is so (.d (.sl (js.map Jo.c))) .nils .nils) (by simp) rfl (by simp) (by decide) (by decide)).trans ?_
   exact sZ _ [(2,2,_),(4,4,_)] (by simp [aD,Blk.live]) (by simp [aD])
 | true =>
   rw [if_pos hw] at hres
   have hlen:=oO hw
   have a1:=ha.kp (cG hw)
   have h1:=bG hs ha hw
   generalize aK r=r1 at *
   have h2:=ht.run r1 a1 (by omega)
   have a2:=a1.kp (ht.kp r1)
   have l2:=(ht.kp r1).len
   generalize tm r1=x at *
   obtain ⟨t,r2⟩:=x
   simp only at hres h2 a2 l2
   refine hZ (h1) ?_
   refine gs ?_
   refine hZ (h2) ?_
   refine gs ?_
   refine ⟨⟨⟨d,sb,is,so,js,r⟩,[t],r2⟩,⟨a2,by simp only; omega,hres⟩,?_⟩
   exact sZ _ [(2,2,_),(4,4,_)] (by simp [aD,Blk.live]) (by simp [aD])
theorem aLm (ht:LO s L 27 tm) {y:ZC} (ha:At (bX s) y.r.1) (hl:y.r.1.length≤L) {res:Sm×RS} (hres:JL tm y.y.d y.y.sb y.y.is y.y.so y.y.js y.w y.r=res) :
  bY Es AT 1 none (jN 1 aBy).1 (GC s y) fun e a=>match e with
   | .normal=>∃ z:ZD,(At (bX s) z.r.1∧z.r.1.length≤y.r.1.length∧CY tm z.y.d z.y.sb z.y.is z.y.so z.y.js z.w z.g z.r=res)∧Sub Es AT 1 a (GD s z)
   | _=>False:=by
 obtain ⟨⟨d,sb,is,so,js,r0⟩,w,r⟩:=y
 simp only at ha hl hres ⊢
 have hTl:=kJ s
 have hrl:=ha.sfx.length_le
 unfold JL fM at hres
 simp only [aBy,VQ,QF,AT,Tryz.f75,Option.getD_some,fH,eS,GC]
 refine gs ?_
 cases hw:dJ iO r with
 | false =>
   rw [if_neg (by rw [hw]; exact Bool.false_ne_true)] at hres
   refine hZ (aX hs ha hw) ?_
   refine gs ?_
   refine ⟨⟨⟨d,sb,is,so,js,r0⟩,w,[],r⟩,⟨ha,Nat.le_refl _,hres⟩,?_⟩
   refine (gV 4 902 25 6 10 (cells:=c3 d sb is so (.d (.sl (js.map Jo.c))) (.d (.sl (w.map Tm.c))) .nils) (by simp) rfl (by simp) (by decide) (by decide)).trans ?_
   exact sZ _ [(2,2,_),(4,4,_)] (by simp [aD,Blk.live]) (by simp [aD])
 | true =>
   rw [if_pos hw] at hres
   simp only at hres
   have hlen:=oO hw
   have a1:=ha.kp (cG hw)
   have h1:=bG hs ha hw
   generalize aK r=r1 at *
   have w1:=dY hs a1 RJ
   have a2:=a1.kp (bS RJ r1)
   have l2:=(bS RJ r1).len
   generalize aN RJ r1=r2 at *
   have h3:=ht.run r2 a2 (by omega)
   have a3:=a2.kp (ht.kp r2)
   have l3:=(ht.kp r2).len
   generalize tm r2=x at *
   obtain ⟨t,r3⟩:=x
   simp only at hres h3 a3 l3
   refine hZ (h1) ?_
   refine gs ?_
   refine hZ (w1) ?_
   refine gs ?_
   refine hZ (h3) ?_
   refine gs ?_
   refine iR bI (by decide) (fun y:List Tm×RS=>{ s:=eP [(0,.ptr 1000000 0 0),(2,.ptr 2 0 0),(4,.ptr 4 0 0)],b:=eG [(1000000,1000000,iP s y.2),(2,2,.var xM),(4,4,.var (c3 d sb is so (.d (.sl (js.map Jo.c))) (.d (.sl (w.map Tm.c))) (.ref 902 0 y.1.length 6))),(902,902,.arr 25 6 (y.1.map Tm.c) false)] })
    (fun y=>At (bX s) y.2.1∧y.2.1.length≤r.1.length∧y.1.length+y.2.1.length≤10001∧CY tm d sb is so js w (aFO tm y.1 y.2).1 (aFO tm y.1 y.2).2=res) (fun y=>y.2.1.length) ([t],r3) ⟨a3,by simp only; omega,by simp only [List.length_singleton]; omega,hres⟩
    (sZ _ [(2,2,_),(4,4,_),(902,76,_)] (by simp [aD,Blk.live]) (by simp [aD])) ?_
   clear hres h3 a3 l3 w1 a2 l2 h1 a1 hlen
   rintro ⟨g,r4⟩ ⟨a4,l4,hk,hr4⟩
   simp only at a4 l4 hk hr4
   rw [aIx ht.kp] at hr4
   have hb:(g.length+1)*80≤140737488355328∧g.length≤9223372036854775806:=by omega
   cases hc:dJ bQ r4 with
   | true =>
     have hlen:=oO hc
     have a5:=a4.kp (cG hc)
     rw [if_pos hc] at hr4
     have h5:=bG hs a4 hc
     generalize aK r4=r5 at *
     have h6:=ht.run r5 a5 (by omega)
     have a6:=a5.kp (ht.kp r5)
     have l6:=(ht.kp r5).len
     generalize tm r5=x at *
     obtain ⟨t6,r6⟩:=x
     simp only at hr4 h6 a6 l6
     refine gs ?_
     refine hZ (h5) ?_
     refine gs ?_
     refine hZ (h6) ?_
     simp [hb]
     refine gw ?_
     refine ⟨(g++[t6],r6),⟨a6,by simp only; omega,by simp only [List.length_append,List.length_singleton]; omega,hr4⟩,?_,by simp only; omega⟩
     exact sZ _ [(2,2,_),(4,4,_),(902,85,_)] (by simp [aD,Blk.live]) (by simp [aD])
   | false =>
     rw [if_neg (by rw [hc]; exact Bool.false_ne_true)] at hr4
     refine gs ?_
     refine hZ (aX hs a4 hc) ?_
     refine gs ?_
     refine ⟨⟨⟨d,sb,is,so,js,r0⟩,w,g,r4⟩,⟨a4,by simp only; omega,hr4⟩,?_⟩
     exact sZ _ [(2,2,_),(4,4,_)] (by simp [aD,Blk.live]) (by simp [aD])
theorem aLn (ht:LO s L 27 tm) {y:ZD} (ha:At (bX s) y.r.1) (hl:y.r.1.length≤L) {res:Sm×RS} (hres:CY tm y.y.d y.y.sb y.y.is y.y.so y.y.js y.w y.g y.r=res) :
  bY Es AT 1 none aJU (GD s y) fun e a=>match e with
   | .exit _=>False
   | _=>EndsO Es Tryz.f75 1 (.ret res.1.a [iP s res.2]) a:=by
 obtain ⟨⟨d,sb,is,so,js,r0⟩,w,g,r⟩:=y
 simp only at ha hl hres ⊢
 unfold CY gT at hres
 simp only [aJU,aBy,VQ,QF,AT,Tryz.f75,Option.getD_some,fH,eS,GD]
 refine gs ?_
 cases hw:dJ wHaving r with
 | false =>
   rw [if_neg (by rw [hw]; exact Bool.false_ne_true)] at hres
   subst hres
   refine hZ (aX hs ha hw) ?_
   simp [Sm.c] <;> exact gz
 | true =>
   rw [if_pos hw] at hres
   have hlen:=oO hw
   have a1:=ha.kp (cG hw)
   have h1:=bG hs ha hw
   generalize aK r=r1 at *
   have h2:=ht.run r1 a1 (by omega)
   generalize tm r1=x at *
   obtain ⟨t,r2⟩:=x
   simp only at hres h2
   subst hres
   refine hZ (h1) ?_
   refine gs ?_
   refine hZ (h2) ?_
   simp [Sm.c] <;> exact gz
theorem aLo {r:RS} (ht:LO s (L+1) 27 tm) (hso:RuX So.a s (L+1) 113 (bC st)) (hst:RuX Sm.a s L 40 st) (ha:At (bX s) r.1) (hl:r.1.length≤L+1) :
  Cf Es 75 [.ptr 1000000 0 0] [iP s r] (hU tm st r).1.a [iP s (hU tm st r).2]:=by
 cases hw:dJ bF r with
 | true =>
   generalize hres:hU tm st r=res
   unfold hU at hres
   rw [if_pos hw] at hres
   have hlen:=oO hw
   have a1:=ha.kp (cG hw)
   have h1:=bG hs ha hw
   generalize aK r=r1 at *
   have h2:=hst.run r1 a1 (by omega)
   have a2:=a1.kp (hst.kp r1)
   generalize st r1=x at *
   obtain ⟨x,r2⟩:=x
   simp only at hres h2 a2
   have w3:=dY hs a2 aY
   refine cI bI (fn:=Tryz.f75) rfl ?_
   subst hres
   refine gs ?_
   refine kZ (h1) ?_
   refine gs ?_
   refine kZ (h2) ?_
   refine gs ?_
   refine kZ (w3) ?_
   exact gq
 | false =>
   have e:hU tm st r=IS tm st r:=by unfold hU; rw [if_neg (by rw [hw]; exact Bool.false_ne_true)]
   rw [e]
   generalize hres:IS tm st r=res
   have hi:RuX It.a s (L+1) 112 (jX tm):=⟨fun r' ha' hl'=>aLi hs ht ha' hl',AL ht.kp⟩
   refine xQ bI (fn:=Tryz.f75) (c:=QF) (by kernel_rfl) rfl (by kernel_rfl) (by decide) (.ret res.1.a [iP s res.2]) (by simp) (by simp) ?_
   refine kQ bI (by decide) (GA s) (fun y=>At (bX s) y.r.1∧y.r.1.length≤r.1.length∧yL tm st y.d y.sb y.is y.r=res) 5 (aLj hs hi ht.kp ha hl hw hres) fun y hy=>?_
   refine kQ bI (by decide) (GB s) (fun z=>At (bX s) z.r.1∧z.r.1.length≤y.r.1.length∧CZ tm z.d z.sb z.is z.so z.js z.r=res) 3 (aLk hs hso ht.kp hst.kp (fun r' ha' hl'=>aLp hs ht hso ha' hl') hy.1 (by omega) hy.2.2) fun z hz=>?_
   refine kQ bI (by decide) (GC s) (fun z'=>At (bX s) z'.r.1∧z'.r.1.length≤z.r.1.length∧JL tm z'.y.d z'.y.sb z'.y.is z'.y.so z'.y.js z'.w z'.r=res) 1 (aLl hs ht hz.1 (by omega) hz.2.2) fun u hu=>?_
   refine kQ bI (by decide) (GD s) (fun z'=>At (bX s) z'.r.1∧z'.r.1.length≤u.r.1.length∧CY tm z'.y.d z'.y.sb z'.y.is z'.y.so z'.y.js z'.w z'.g z'.r=res) 1 (aLm hs ht hu.1 (by omega) hu.2.2) fun v hv=>?_
   exact dN bI (by decide) _ _ _ (aLn hs ht hv.1 (by omega) hv.2.2)
end
end Go.Proofs.Tryz
