import Derived.Test.YthpmjipkofbeiaaGreatDoorUFlq
set_option linter.all false
namespace Go.Proofs.Tryz
open Go.Ab
set_option maxRecDepth 100000
set_option maxHeartbeats 4000000
def RK (t:Tk):List D:=[.int .i64 t.kd,.str t.tx,.int .i64 t.n,.int .i64 t.fr,.int .i64 t.to]
def RL (t:Tk):AV:=.agg ((RK t).map AV.d)
@[simp] def zRt:List AV:=[.d (.int .i64 0),.d (.str []),.d (.int .i64 0),.d (.int .i64 0),.d (.int .i64 0)]
theorem VP (c:UInt8):Cf En 91 [.d (.int .u8 c.toNat)] [] (.d (.bool (jO c))) []:=by
 refine cI fQ (fn:=Tryz.f91) rfl ?_
 unfold jO
 simp
 (repeat' (first|contradiction|exact .ok|apply And.intro|intro _|(refine gc (fun h=>?_) (fun h=>?_)<;>(have h':=h;(try simp at h');first|done|simp[h,h']|simp))))
 all_goals first | done | omega | (rw [Bool.eq_iff_iff]; simp; omega) | (simp_all; done) | (simp_all; omega)
theorem QE (c:UInt8):Cf En 92 [.d (.int .u8 c.toNat)] [] (.d (.bool (cU c))) []:=by
 refine cI fQ (fn:=Tryz.f92) rfl ?_
 unfold cU
 simp
 (repeat' (first|contradiction|exact .ok|apply And.intro|intro _|(refine gc (fun h=>?_) (fun h=>?_)<;>(have h':=h;(try simp at h');first|done|simp[h,h']|simp))))
 all_goals first | done | omega | (rw [Bool.eq_iff_iff]; simp; omega) | (simp_all; done) | (simp_all; omega)
def lF (p:UInt8→Bool) (s:List UInt8) (a:Nat):Nat:=a+((s.drop a).takeWhile p).length
theorem vP {p:UInt8→Bool} {s:List UInt8} {a:Nat} (h:a<s.length) (hp:p s[a]=true):lF p s (a+1)=lF p s a:=by
 unfold lF
 rw [List.drop_eq_getElem_cons h,List.takeWhile_cons,hp,if_pos rfl,List.length_cons]
 omega
theorem wV {p:UInt8→Bool} {s:List UInt8} {a:Nat} (h:a<s.length) (hp:p s[a]=false):lF p s a=a:=by
 unfold lF
 rw [List.drop_eq_getElem_cons h,List.takeWhile_cons,hp,if_neg (by simp)]
 rfl
theorem wW {p:UInt8→Bool} {s:List UInt8} {a:Nat} (h:s.length≤a):lF p s a=a:=by
 unfold lF
 rw [List.drop_of_length_le h]
 rfl
theorem JK {p:UInt8→Bool} {s:List UInt8} {a:Nat} (h:a≤s.length):a≤lF p s a∧lF p s a≤s.length:=by
 unfold lF
 have:=(List.takeWhile_sublist (l:=s.drop a) p).length_le
 rw [List.length_drop] at this
 omega
theorem aDD {s:List UInt8} {a:Nat} (h:gI s a=s.length):dP s a=⟨5,[],[],0,s.length,s.length⟩:=by
 unfold dP
 rw [h,List.drop_length]
 rfl
theorem aBx:∀ q:List UInt8,q.findIdx? (·==39)=if (q.takeWhile (fun x=>!(x==39))).length<q.length then some (q.takeWhile (fun x=>!(x==39))).length else none
 | []=>rfl
 | c::q=>by
   have ih:=aBx q
   rw [List.findIdx?_cons,List.takeWhile_cons]
   cases h:c==39 with
   | true=>simp
   | false =>
     simp only [Bool.not_false,if_true,List.length_cons,Bool.false_eq_true,if_false,ih]
     split
     ·rename_i h1
      rw [if_pos (by omega)]
      rfl
     ·rename_i h1
      rw [if_neg (by omega)]
      rfl
theorem aFR (s:List UInt8) (hs:s.length≤5000) (a0:Nat) (ha0:a0≤s.length):Cf Es 55 [.d (.str s),.d (.int .i64 a0)] [] (RL (dP s a0)) []:=by
 obtain ⟨A,hA⟩:∃ A,A=gI s a0:=⟨_,rfl⟩
 have hskip:∀ a,gI s a=lF dU s a:=fun _=>rfl
 have hAl:A≤s.length:=by rw [hA]; exact (FJ ha0).2
 refine cI bI (fn:=Tryz.f55) rfl ?_
 simp<;>(repeat' first|contradiction|exact .ok|apply And.intro|intro _|(refine gc (fun h=>?_) (fun h=>?_)<;>(have h':=h;(try simp at h');first|done|simp[h,h']|simp)))
 refine OT bI (by decide) (fun a:Nat=>{ s:=eP [(0,.d (.str s)),(1,.d (.int .i64 a)),(4,.ptr 4 0 0)],b:=eG [(4,4,.var zRt)] }) (fun a=>a≤s.length∧lF dU s a=A) (fun a=>s.length - a) a0 ⟨ha0,hA.symm⟩ 0
  { s:=eP [(0,.d (.str s)),(1,.d (.int .i64 A)),(4,.ptr 4 0 0)],b:=eG [(4,4,.var zRt)] } (sM _ [(4,4,_)] (by simp [aD,Blk.live]) (by simp [aD])) ?_ ?_
 ·rintro a ⟨hal,hr⟩
  by_cases hlt:a<s.length
  ·obtain ⟨e,he⟩:∃ e,e=s[a]:=⟨_,rfl⟩
   have hge:∀ h,s[a]'h=e:=fun _=>he.symm
   have hlt':(a:Int)<(s.length:Int):=by omega
   have hwr:=wI (n:=(a:Int)+1)
   have hb:=NL e
   by_cases h32:(e.toNat:Int)=32
   ·have hb1:dU s[a]=true:=by rw [← he,hb]; simp [h32]
    simp [hlt,hge,hlt',h32]<;>(repeat' first|contradiction|exact .ok|apply And.intro|intro _|(refine gc (fun h=>?_) (fun h=>?_)<;>(have h':=h;(try simp at h');first|done|simp[h,h',hlt,hge,hlt',h32]|simp[hlt,hge,hlt',h32])))
    refine ⟨a+1,⟨by omega,(vP hlt hb1).trans hr⟩,?_,by simp only; omega⟩
    exact sM _ [(4,4,_)] (by simp [aD,Blk.live]) (by simp [aD,hwr])
   ·by_cases h10:(e.toNat:Int)=10
    ·have hb1:dU s[a]=true:=by rw [← he,hb]; simp [h10]
     simp [hlt,hge,hlt',h10]<;>(repeat' first|contradiction|exact .ok|apply And.intro|intro _|(refine gc (fun h=>?_) (fun h=>?_)<;>(have h':=h;(try simp at h');first|done|simp[h,h',hlt,hge,hlt',h10]|simp[hlt,hge,hlt',h10])))
     refine ⟨a+1,⟨by omega,(vP hlt hb1).trans hr⟩,?_,by simp only; omega⟩
     exact sM _ [(4,4,_)] (by simp [aD,Blk.live]) (by simp [aD,hwr])
    ·have hb1:dU s[a]=false:=by rw [← he,hb]; simp [h32,h10]
     rw [wV hlt hb1] at hr
     subst hr
     have h32':((e.toNat:Int)==32)=false:=by simp [h32]
     have h10':((e.toNat:Int)==10)=false:=by simp [h10]
     simp [hlt,hge,hlt',h32',h10']
     refine gr ?_
     exact AExitTo.mk rfl (sM _ [(4,4,_)] (by simp [aD,Blk.live]) (by simp [aD]))
  ·have hlt':¬ (a:Int)<(s.length:Int):=by omega
   rw [wW (by omega)] at hr
   subst hr
   simp [hlt']
   refine gr ?_
   exact AExitTo.mk rfl (sM _ [(4,4,_)] (by simp [aD,Blk.live]) (by simp [aD]))
 ·by_cases hAe:A=s.length
  ·have hse:=aDD (s:=s) (a:=a0) (by rw [← hA]; exact hAe)
   rw [hse]
   have hAI:(A:Int)=(s.length:Int):=by omega
   simp [hAI]<;>(repeat' first|contradiction|exact .ok|apply And.intro|intro _|(refine gc (fun h=>?_) (fun h=>?_)<;>(have h':=h;(try simp at h');first|done|simp[h,h',hAI]|simp[hAI])))
   all_goals simp [RL,RK]
  have hAlt:A<s.length:=by omega
  have hAI:¬ (A:Int)=(s.length:Int):=by omega
  have hAL:(A:Int)<(s.length:Int):=by omega
  obtain ⟨c,hc⟩:∃ c,c=s[A]:=⟨_,rfl⟩
  have hgc:∀ h,s[A]'h=c:=fun _=>hc.symm
  obtain ⟨q,hq⟩:∃ q,q=s.drop (A+1):=⟨_,rfl⟩
  have hcq:s.drop A=c::q:=by rw [List.drop_eq_getElem_cons hAlt,← hc,← hq]
  have hql:q.length=s.length - (A+1):=by rw [hq,List.length_drop]
  have htk:dP s a0=⟨(cP (c::q)).1,(c::q).take (cP (c::q)).2.1,(cP (c::q)).2.2.1,(cP (c::q)).2.2.2,A,A+(cP (c::q)).2.1⟩:=by
   unfold dP
   rw [← hA,hcq]
  rw [htk]
  have hc1:=iQ (VP c)
  have hc2:=iQ (QE c)
  have hwA:=wI (n:=(A:Int)+1)
  simp [hAI,hAlt,hgc,hwA]
  refine gr ?_
  cases h1:jO c with
  | true =>
    rw [h1] at hc1
    have hl:cP (c::q)=if 1+(q.takeWhile dR).length≤16 then (1,1+(q.takeWhile dR).length,(c::q).take (1+(q.takeWhile dR).length),0) else (0,0,[],0):=by
     rw [cP,if_pos h1]
    obtain ⟨n,hn⟩:∃ n,n=1+(q.takeWhile dR).length:=⟨_,rfl⟩
    obtain ⟨E,hE2⟩:∃ E,E=A+n:=⟨_,rfl⟩
    have hE:E=lF dR s (A+1):=by unfold lF; rw [← hq]; omega
    have hEl:=JK (p:=dR) (s:=s) (a:=A+1) (by omega)
    have htx:List.drop A (List.take E s)=List.take n (c::q):=by rw [hE2,← hcq,List.drop_take,Nat.add_sub_cancel_left]
    have hAE:(A:Int)≤(E:Int):=by omega
    have hEs:(E:Int)≤(s.length:Int):=by omega
    have hAE':A≤E:=by omega
    have hEs':E≤s.length:=by omega
    rw [← hn] at hl
    rw [hl]
    refine aP hc1 ?_
    simp
    refine gr ?_
    refine OT bI (by decide) (fun k:Nat=>{ s:=eP [(0,.d (.str s)),(1,.d (.int .i64 A)),(4,.ptr 4 0 0),(5,.d (.int .i64 k))],b:=eG [(4,4,.var zRt)] }) (fun k=>A+1≤k∧k≤s.length∧lF dR s k=E) (fun k=>s.length - k) (A+1) ⟨by omega,by omega,hE.symm⟩ 5
     { s:=eP [(0,.d (.str s)),(1,.d (.int .i64 A)),(4,.ptr 4 0 0),(5,.d (.int .i64 E))],b:=eG [(4,4,.var zRt)] } (sM _ [(4,4,_)] (by simp [aD,Blk.live]) (by simp [aD])) ?_ ?_
    ·rintro k ⟨hk0,hkl,hr⟩
     by_cases hlt:k<s.length
     ·obtain ⟨e,he⟩:∃ e,e=s[k]:=⟨_,rfl⟩
      have hge:∀ h,s[k]'h=e:=fun _=>he.symm
      have hlt':(k:Int)<(s.length:Int):=by omega
      have hwr:=wI (n:=(k:Int)+1)
      have hin:=fun hp=>(vP (p:=dR) (s:=s) (a:=k) hlt hp).trans hr
      have hout:=fun hp=>(wV (p:=dR) (s:=s) (a:=k) hlt hp).symm.trans hr
      rw [← he] at hin hout
      have q1:=iQ (VP e)
      have q2:=iQ (QE e)
      simp [hlt,hge,hlt']
      cases hL:jO e with
      | true =>
        rw [hL] at q1
        refine aP q1 ?_
        simp
        refine gr ?_
        refine ⟨k+1,⟨by omega,by omega,hin (by simp [dR,hL])⟩,?_,by simp only; omega⟩
        exact sM _ [(4,4,_)] (by simp [aD,Blk.live]) (by simp [aD,hwr])
      | false =>
        rw [hL] at q1
        refine aP q1 ?_
        simp [hlt,hge]
        cases hD:cU e with
        | true =>
          rw [hD] at q2
          have hnb:dR e=true:=by
           have h:dR e=(jO e||(cU e||e.toNat==95)):=rfl
           rw [h,hD]; simp
          refine aP q2 ?_
          simp
          refine gr ?_
          refine ⟨k+1,⟨by omega,by omega,hin (by simp [hnb])⟩,?_,by simp only; omega⟩
          exact sM _ [(4,4,_)] (by simp [aD,Blk.live]) (by simp [aD,hwr])
        | false =>
          rw [hD] at q2
          have hnb:dR e=(e.toNat==95):=by
           have h:dR e=(jO e||(cU e||e.toNat==95)):=rfl
           rw [h,hL,hD]; simp
          refine aP q2 ?_
          by_cases h95:e.toNat=95
          ·have h95':(e.toNat:Int)=95:=by omega
           simp [hlt,hge,h95']
           refine gr ?_
           refine ⟨k+1,⟨by omega,by omega,hin (by simp [hnb,h95])⟩,?_,by simp only; omega⟩
           exact sM _ [(4,4,_)] (by simp [aD,Blk.live]) (by simp [aD,hwr])
          ·have h95':((e.toNat:Int)==95)=false:=by rw [beq_eq_false_iff_ne]; omega
           simp [hlt,hge,h95']
           refine gr ?_
           obtain rfl:=hout (by simp [hnb,h95])
           exact AExitTo.mk rfl (sM _ [(4,4,_)] (by simp [aD,Blk.live]) (by simp [aD]))
     ·have hlt':¬ (k:Int)<(s.length:Int):=by omega
      rw [wW (by omega)] at hr
      subst hr
      simp [hlt']
      refine gr ?_
      exact AExitTo.mk rfl (sM _ [(4,4,_)] (by simp [aD,Blk.live]) (by simp [aD]))
    have hz:(E:Int) - (A:Int)=(n:Int):=by omega
    have hwz:=wI (n:=(n:Int))
    by_cases h16:n≤16
    ·have h16':(n:Int)≤16:=by omega
     rw [if_pos h16]
     simp [hz,hwz,h16',hAE,hEs,htx]<;>(repeat' first|contradiction|exact .ok|apply And.intro|intro _|(refine gc (fun h=>?_) (fun h=>?_)<;>(have h':=h;(try simp at h');first|done|simp[h,h',hz,hwz,h16',hAE,hEs,hAE',hEs',htx]|simp[hz,hwz,h16',hAE,hEs,hAE',hEs',htx])))
     all_goals simp [RL,RK,hE2]
    ·have h16':¬ (n:Int)≤16:=by omega
     rw [if_neg h16]
     simp [hz,hwz,h16']<;>(repeat' first|contradiction|exact .ok|apply And.intro|intro _|(refine gc (fun h=>?_) (fun h=>?_)<;>(have h':=h;(try simp at h');first|done|simp[h,h',hz,hwz,h16']|simp[hz,hwz,h16'])))
     all_goals simp [RL,RK]
  | false =>
    rw [h1] at hc1
    refine aP hc1 ?_
    simp [hAlt,hgc]
    refine gr ?_
    cases h2:cU c with
    | true =>
      rw [h2] at hc2
      have hl:cP (c::q)=if (dD ((c::q).take (1+(q.takeWhile cU).length))).2=0∧(dD ((c::q).take (1+(q.takeWhile cU).length))).1.k=1 then
       (2,1+(q.takeWhile cU).length,(c::q).take (1+(q.takeWhile cU).length),(dD ((c::q).take (1+(q.takeWhile cU).length))).1.n) else (0,0,[],0):=by
       rw [cP,if_neg (by simp [h1]),if_pos h2]
      obtain ⟨n,hn⟩:∃ n,n=1+(q.takeWhile cU).length:=⟨_,rfl⟩
      obtain ⟨E,hE2⟩:∃ E,E=A+n:=⟨_,rfl⟩
      have hE:E=lF cU s (A+1):=by unfold lF; rw [← hq]; omega
      have hEl:=JK (p:=cU) (s:=s) (a:=A+1) (by omega)
      have htx:List.drop A (List.take E s)=List.take n (c::q):=by rw [hE2,← hcq,List.drop_take,Nat.add_sub_cancel_left]
      have hAE:(A:Int)≤(E:Int):=by omega
      have hEs:(E:Int)≤(s.length:Int):=by omega
      have hAE':A≤E:=by omega
      have hEs':E≤s.length:=by omega
      rw [← hn] at hl
      rw [hl]
      refine aP hc2 ?_
      simp
      refine gr ?_
      refine OT bI (by decide) (fun k:Nat=>{ s:=eP [(0,.d (.str s)),(1,.d (.int .i64 A)),(4,.ptr 4 0 0),(5,.d (.int .i64 k))],b:=eG [(4,4,.var zRt)] }) (fun k=>A+1≤k∧k≤s.length∧lF cU s k=E) (fun k=>s.length - k) (A+1) ⟨by omega,by omega,hE.symm⟩ 7
       { s:=eP [(0,.d (.str s)),(1,.d (.int .i64 A)),(4,.ptr 4 0 0),(5,.d (.int .i64 E))],b:=eG [(4,4,.var zRt)] } (sM _ [(4,4,_)] (by simp [aD,Blk.live]) (by simp [aD])) ?_ ?_
      ·rintro k ⟨hk0,hkl,hr⟩
       by_cases hlt:k<s.length
       ·obtain ⟨e,he⟩:∃ e,e=s[k]:=⟨_,rfl⟩
        have hge:∀ h,s[k]'h=e:=fun _=>he.symm
        have hlt':(k:Int)<(s.length:Int):=by omega
        have hwr:=wI (n:=(k:Int)+1)
        have hin:=fun hp=>(vP (p:=cU) (s:=s) (a:=k) hlt hp).trans hr
        have hout:=fun hp=>(wV (p:=cU) (s:=s) (a:=k) hlt hp).symm.trans hr
        rw [← he] at hin hout
        have q2:=iQ (QE e)
        simp [hlt,hge,hlt']
        cases hD:cU e with
        | true =>
          rw [hD] at q2
          refine aP q2 ?_
          simp
          refine gr ?_
          refine ⟨k+1,⟨by omega,by omega,hin (by simp [hD])⟩,?_,by simp only; omega⟩
          exact sM _ [(4,4,_)] (by simp [aD,Blk.live]) (by simp [aD,hwr])
        | false =>
          rw [hD] at q2
          refine aP q2 ?_
          simp
          refine gr ?_
          obtain rfl:=hout (by simp [hD])
          exact AExitTo.mk rfl (sM _ [(4,4,_)] (by simp [aD,Blk.live]) (by simp [aD]))
       ·have hlt':¬ (k:Int)<(s.length:Int):=by omega
        rw [wW (by omega)] at hr
        subst hr
        simp [hlt']
        refine gr ?_
        exact AExitTo.mk rfl (sM _ [(4,4,_)] (by simp [aD,Blk.live]) (by simp [aD]))
      have hpar:=upw (aCa ((c::q).take n) (by simp; omega))
      rw [← NE] at hpar
      obtain ⟨tn,htn⟩:∃ tn,tn=(c::q).take n:=⟨_,rfl⟩
      rw [← htn] at hpar htx ⊢
      generalize dD tn=res at *
      obtain ⟨⟨rk,rn,rt⟩,re⟩:=res
      simp [V.a] at hpar
      simp only
      simp [hAE,hEs,htx]<;>(repeat' first|contradiction|exact .ok|apply And.intro|intro _|(refine gc (fun h=>?_) (fun h=>?_)<;>(have h':=h;(try simp at h');first|done|simp[h,h',hAE,hEs,hAE',hEs',htx]|simp[hAE,hEs,hAE',hEs',htx])))
      refine aP hpar ?_
      by_cases e0:re=0
      ·by_cases k1:rk=1
       ·rw [if_pos ⟨e0,k1⟩]
        simp [e0,k1,hAE,hEs,htx]<;>(repeat' first|contradiction|exact .ok|apply And.intro|intro _|(refine gc (fun h=>?_) (fun h=>?_)<;>(have h':=h;(try simp at h');first|done|simp[h,h',e0,k1,hAE,hEs,hAE',hEs',htx]|simp[e0,k1,hAE,hEs,hAE',hEs',htx])))
        all_goals simp [RL,RK,hE2]
       ·rw [if_neg (fun h=>k1 h.2)]
        simp [e0,k1]<;>(repeat' first|contradiction|exact .ok|apply And.intro|intro _|(refine gc (fun h=>?_) (fun h=>?_)<;>(have h':=h;(try simp at h');first|done|simp[h,h',e0,k1]|simp[e0,k1])))
        all_goals simp [RL,RK]
      ·rw [if_neg (fun h=>e0 h.1)]
       simp<;>(repeat' first|contradiction|exact .ok|apply And.intro|intro _|(refine gc (fun h=>?_) (fun h=>?_)<;>(have h':=h;(try simp at h');first|done|simp[h,h']|simp[e0])))
       all_goals simp [RL,RK]
    | false =>
      rw [h2] at hc2
      refine aP hc2 ?_
      simp [hAlt,hgc]
      refine gr ?_
      by_cases h39:c=39
      ·subst h39
       obtain ⟨n,hn⟩:∃ n,n=(q.takeWhile (fun x=>!(x==39))).length:=⟨_,rfl⟩
       obtain ⟨E,hE2⟩:∃ E,E=A+(n+1):=⟨_,rfl⟩
       have hE:E=lF (fun x=>!(x==39)) s (A+1):=by unfold lF; rw [← hq]; omega
       have hEl:=JK (p:=(fun x=>!(x==39))) (s:=s) (a:=A+1) (by omega)
       have hfi:=aBx q
       rw [← hn] at hfi
       simp
       refine gr ?_
       refine OT bI (by decide) (fun k:Nat=>{ s:=eP [(0,.d (.str s)),(1,.d (.int .i64 A)),(4,.ptr 4 0 0),(5,.d (.int .i64 k))],b:=eG [(4,4,.var zRt)] }) (fun k=>A+1≤k∧k≤s.length∧lF (fun x=>!(x==39)) s k=E) (fun k=>s.length - k) (A+1) ⟨by omega,by omega,hE.symm⟩ 9
        { s:=eP [(0,.d (.str s)),(1,.d (.int .i64 A)),(4,.ptr 4 0 0),(5,.d (.int .i64 E))],b:=eG [(4,4,.var zRt)] } (sM _ [(4,4,_)] (by simp [aD,Blk.live]) (by simp [aD])) ?_ ?_
       ·rintro k ⟨hk0,hkl,hr⟩
        by_cases hlt:k<s.length
        ·obtain ⟨e,he⟩:∃ e,e=s[k]:=⟨_,rfl⟩
         have hge:∀ h,s[k]'h=e:=fun _=>he.symm
         have hlt':(k:Int)<(s.length:Int):=by omega
         have hwr:=wI (n:=(k:Int)+1)
         have hin:=fun hp=>(vP (p:=(fun x=>!(x==39))) (s:=s) (a:=k) hlt hp).trans hr
         have hout:=fun hp=>(wV (p:=(fun x=>!(x==39))) (s:=s) (a:=k) hlt hp).symm.trans hr
         rw [← he] at hin hout
         by_cases h39e:e=39
         ·have h39':((e.toNat:Int) != 39)=false:=by rw [h39e]; rfl
          simp [hlt,hge,hlt',h39']
          refine gr ?_
          obtain rfl:=hout (by simp [h39e])
          exact AExitTo.mk rfl (sM _ [(4,4,_)] (by simp [aD,Blk.live]) (by simp [aD]))
         ·have h39':((e.toNat:Int) != 39)=true:=by
           rw [bne_iff_ne]
           intro h
           exact h39e (UInt8.toNat_inj.1 (by simpa using (by omega:e.toNat=39)))
          simp [hlt,hge,hlt',h39']
          refine gr ?_
          refine ⟨k+1,⟨by omega,by omega,hin (by simp [h39e])⟩,?_,by simp only; omega⟩
          exact sM _ [(4,4,_)] (by simp [aD,Blk.live]) (by simp [aD,hwr])
        ·have hlt':¬ (k:Int)<(s.length:Int):=by omega
         rw [wW (by omega)] at hr
         subst hr
         simp [hlt']
         refine gr ?_
         exact AExitTo.mk rfl (sM _ [(4,4,_)] (by simp [aD,Blk.live]) (by simp [aD]))
       by_cases hnq:n<q.length
       ·rw [if_pos hnq] at hfi
        have hl:cP (39::q)=if (dD ((39::q).take (n+2))).2=0 then (3,n+2,(dD ((39::q).take (n+2))).1.t,0) else (0,0,[],0):=by
         rw [cP,if_neg (by simp [h1]),if_neg (by simp [h2]),if_pos rfl,hfi]
        rw [hl]
        have hEs:(E:Int)<(s.length:Int):=by omega
        obtain ⟨F,hF⟩:∃ F,F=A+(n+2):=⟨_,rfl⟩
        have hEF:(E:Int)+1=(F:Int):=by omega
        have hwF:=wI (n:=(F:Int))
        have htx:List.drop A (List.take F s)=List.take (n+2) (39::q):=by rw [hF,← hcq,List.drop_take,Nat.add_sub_cancel_left]
        have hAF:(A:Int)≤(F:Int):=by omega
        have hFs:(F:Int)≤(s.length:Int):=by omega
        have hpar:=upw (aCa ((39::q).take (n+2)) (by simp; omega))
        rw [← NE] at hpar
        obtain ⟨tn,htn⟩:∃ tn,tn=(39::q).take (n+2):=⟨_,rfl⟩
        rw [← htn] at hpar htx ⊢
        generalize dD tn=res at *
        obtain ⟨⟨rk,rn,rt⟩,re⟩:=res
        simp [V.a] at hpar
        simp only
        simp [hEs,hEF,hwF,hAF,hFs,htx]<;>(repeat' first|contradiction|exact .ok|apply And.intro|intro _|(refine gc (fun h=>?_) (fun h=>?_)<;>(have h':=h;(try simp at h');first|done|simp[h,h',hEs,hEF,hwF,hAF,hFs,htx]|simp[hEs,hEF,hwF,hAF,hFs,htx])))
        refine aP hpar ?_
        by_cases e0:re=0
        ·rw [if_pos e0]
         simp [e0,hEF,hwF]<;>(repeat' first|contradiction|exact .ok|apply And.intro|intro _|(refine gc (fun h=>?_) (fun h=>?_)<;>(have h':=h;(try simp at h');first|done|simp[h,h',e0,hEF,hwF]|simp[e0,hEF,hwF])))
         all_goals simp [RL,RK,hF]
        ·rw [if_neg e0]
         simp [e0]<;>(repeat' first|contradiction|exact .ok|apply And.intro|intro _|(refine gc (fun h=>?_) (fun h=>?_)<;>(have h':=h;(try simp at h');first|done|simp[h,h',e0]|simp[e0])))
         all_goals simp [RL,RK]
       ·rw [if_neg hnq] at hfi
        have hl:cP (39::q)=(0,0,[],0):=by
         rw [cP,if_neg (by simp [h1]),if_neg (by simp [h2]),if_pos rfl,hfi]
        rw [hl]
        have hEs:¬ (E:Int)<(s.length:Int):=by omega
        simp [hEs]<;>(repeat' first|contradiction|exact .ok|apply And.intro|intro _|(refine gc (fun h=>?_) (fun h=>?_)<;>(have h':=h;(try simp at h');first|done|simp[h,h',hEs]|simp[hEs])))
        all_goals simp [RL,RK]
      ·have hc39:((c.toNat:Int)==39)=false:=by
        rw [beq_eq_false_iff_ne]
        intro h
        exact h39 (UInt8.toNat_inj.1 (by simpa using (by omega:c.toNat=39)))
       have hn39:¬ (c.toNat:Int)=39:=by simpa using hc39
       have hl:cP (c::q)=if q ≠ []∧twoW.contains ((c::q).take 2)=true then (4,2,(c::q).take 2,0) else if oneB.contains c=true then (4,1,[c],0) else (0,0,[],0):=by
        rw [cP,if_neg (by simp [h1]),if_neg (by simp [h2]),if_neg h39]
       rw [hl]
       have hA1:(A:Int)≤(A:Int)+1:=by omega
       have hA2:(A:Int)+1≤(s.length:Int):=by omega
       have hA3:((A:Int)+1).toNat=A+1:=by omega
       have hone:List.drop A (List.take (A+1) s)=[c]:=by
        rw [List.drop_take,hcq,Nat.add_sub_cancel_left]; rfl
       cases q with
       | nil =>
         have hln:s.length=A+1:=by simp only [List.length_nil] at hql; omega
         have hA4:¬ (A:Int)+1<(s.length:Int):=by omega
         have hA5:(s.length:Int)=(A:Int)+1:=by omega
         rw [if_neg (by simp)]
         simp [hc39,hn39,hA1,hA2,hA4,hone]<;>(repeat' first|contradiction|exact .ok|apply And.intro|intro _|(refine gc (fun h=>?_) (fun h=>?_)<;>(have h':=h;(try simp at h');first|done|simp[h,h',hc39,hn39,hA1,hA2,hA3,hA4,hone]|simp[hc39,hn39,hA1,hA2,hA3,hA4,hone])))
         refine aL bI (fun k:Nat=>{ s:=eP [(0,.d (.str s)),(1,.d (.int .i64 A)),(4,.ptr 4 0 0),(5,.d (.int .i64 ((A:Int)+1))),(11,.d (.str [c])),(12,.d (.int .i64 k))],b:=eG [(4,4,.var zRt)] }) (fun k=>k≤12∧oneB.contains c=(oneB.drop k).contains c) (fun k=>12 - k) 0 ⟨by simp,rfl⟩
          (sM _ [(4,4,_)] (by simp [aD,Blk.live]) (by simp [aD])) ?_
         rintro k ⟨hk,hct⟩
         by_cases hlt:k<12
         ·have hlt':(k:Int)<12:=by omega
          have hk1:(k:Int)≤(k:Int)+1:=by omega
          have hk2:(k:Int)+1≤12:=by omega
          have hwr:=wI (n:=(k:Int)+1)
          have hkb:k<oneB.length:=hlt
          obtain ⟨e,he⟩:∃ e,e=oneB[k]:=⟨_,rfl⟩
          have hsl:List.drop k (List.take (k+1) [61,60,62,43,45,42,47,40,41,44,46,59])=[e]:=by
           show List.drop k (List.take (k+1) oneB)=[e]
           rw [List.drop_take,List.drop_eq_getElem_cons hkb,Nat.add_sub_cancel_left,← he]; rfl
          have hsl2:List.drop k (61::List.take k [60,62,43,45,42,47,40,41,44,46,59])=[e]:=hsl
          rw [List.drop_eq_getElem_cons hkb,← he,List.contains_cons] at hct
          by_cases hec:e=c
          ·have hb:oneB.contains c=true:=by rw [hct]; simp [hec]
           rw [if_pos hb]
           simp [hlt',hk1,hk2,hwr,hsl2,hec]<;>(repeat' first|contradiction|exact .ok|apply And.intro|intro _|(refine gc (fun h=>?_) (fun h=>?_)<;>(have h':=h;(try simp at h');first|done|simp[h,h',hlt',hk1,hk2,hwr,hsl,hsl2,hec]|simp[hlt',hk1,hk2,hwr,hsl,hsl2,hec])))
           all_goals simp [RL,RK]
          ·have hce:(c==e)=false:=by rw [beq_eq_false_iff_ne]; exact fun h=>hec h.symm
           rw [hce,Bool.false_or] at hct
           simp [hlt',hk1,hk2,hwr,hsl2,hec]<;>(repeat' first|contradiction|exact .ok|apply And.intro|intro _|(refine gc (fun h=>?_) (fun h=>?_)<;>(have h':=h;(try simp at h');first|done|simp[h,h',hlt',hk1,hk2,hwr,hsl,hsl2,hec]|simp[hlt',hk1,hk2,hwr,hsl,hsl2,hec])))
           refine ⟨k+1,⟨by omega,hct⟩,?_,by simp only; omega⟩
           exact sM _ [(4,4,_)] (by simp [aD,Blk.live]) (by simp [aD])
         ·obtain rfl:k=12:=by omega
          have hb:oneB.contains c=false:=by rw [hct]; rfl
          rw [if_neg (by rw [hb]; simp)]
          simp<;>(repeat' first|contradiction|exact .ok|apply And.intro|intro _|(refine gc (fun h=>?_) (fun h=>?_)<;>(have h':=h;(try simp at h');first|done|simp[h,h']|simp)))
          all_goals simp [RL,RK]
       | cons d q2 =>
         have hln:A+2≤s.length:=by simp only [List.length_cons] at hql; omega
         have hA4:(A:Int)+1<(s.length:Int):=by omega
         have hA4n:¬ (s.length:Int)≤(A:Int)+1:=by omega
         have hA6:IntKind.i64.wrap ((A:Int)+1+1)=(A:Int)+1+1:=aZ (by omega) (by omega)
         have hA7:(A:Int)≤(A:Int)+1+1:=by omega
         have hA8:(A:Int)+1+1≤(s.length:Int):=by omega
         have hA9:((A:Int)+1+1).toNat=A+2:=by omega
         obtain ⟨w2,hw2⟩:∃ w2,w2=[c,d]:=⟨_,rfl⟩
         have htwo:List.drop A (List.take (A+1+1) s)=w2:=by
          rw [List.drop_take,hcq,show A+1+1 - A=2 from by omega,hw2]; rfl
         have htk2:List.take 2 (c::d::q2)=w2:=by rw [hw2]; rfl
         rw [htk2]
         have hA10:A+2=A+1+1:=rfl
         by_cases hb:twoW.contains w2=true
         ·rw [if_pos ⟨by simp,hb⟩]
          have hor:w2=[60,62]∨w2=[60,61]∨w2=[62,61]∨w2=[124,124]:=by simpa [twoW] using hb
          simp [hc39,hn39,hA4,hA4n,hA6,hA7,hA8,hA9,htwo]
          rcases hor with h | h | h | h
          all_goals
           rw [h]
           simp [hA6]<;>(repeat' first|contradiction|exact .ok|apply And.intro|intro _|(refine gc (fun h=>?_) (fun h=>?_)<;>(have h':=h;(try simp at h');first|done|simp[h,h',hA6]|simp[hA6])))
           all_goals simp [RL,RK]
           all_goals omega
         ·rw [if_neg (fun h=>hb h.2)]
          have hnb:¬ w2=[60,62]∧¬ w2=[60,61]∧¬ w2=[62,61]∧¬ w2=[124,124]:=by
           simp [twoW] at hb
           exact hb
          obtain ⟨n1,n2,n3,n4⟩:=hnb
          have b1:(w2==[60,62])=false:=by simpa using n1
          have b2:(w2==[60,61])=false:=by simpa using n2
          have b3:(w2==[62,61])=false:=by simpa using n3
          have b4:(w2==[124,124])=false:=by simpa using n4
          clear hw2 htk2
          simp [hc39,hn39,hA1,hA2,hA3,hA4,hA4n,hA6,hA7,hA8,hA9,htwo,b1,b2,b3,b4,hone]<;>(repeat' first|contradiction|exact .ok|apply And.intro|intro _|(refine gc (fun h=>?_) (fun h=>?_)<;>(have h':=h;(try simp at h');first|done|simp[h,h',hc39,hn39,hA1,hA2,hA3,hA4,hA4n,hA6,hA7,hA8,hA9,htwo,b1,b2,b3,b4,hone]|simp[hc39,hn39,hA1,hA2,hA3,hA4,hA4n,hA6,hA7,hA8,hA9,htwo,b1,b2,b3,b4,hone])))
          refine aL bI (fun k:Nat=>{ s:=eP [(0,.d (.str s)),(1,.d (.int .i64 A)),(4,.ptr 4 0 0),(5,.d (.int .i64 ((A:Int)+1))),(11,.d (.str [c])),(12,.d (.int .i64 k))],b:=eG [(4,4,.var zRt)] }) (fun k=>k≤12∧oneB.contains c=(oneB.drop k).contains c) (fun k=>12 - k) 0 ⟨by simp,rfl⟩
           (sM _ [(4,4,_)] (by simp [aD,Blk.live]) (by simp [aD])) ?_
          rintro k ⟨hk,hct⟩
          by_cases hlt:k<12
          ·have hlt':(k:Int)<12:=by omega
           have hk1:(k:Int)≤(k:Int)+1:=by omega
           have hk2:(k:Int)+1≤12:=by omega
           have hwr:=wI (n:=(k:Int)+1)
           have hkb:k<oneB.length:=hlt
           obtain ⟨e,he⟩:∃ e,e=oneB[k]:=⟨_,rfl⟩
           have hsl:List.drop k (List.take (k+1) [61,60,62,43,45,42,47,40,41,44,46,59])=[e]:=by
            show List.drop k (List.take (k+1) oneB)=[e]
            rw [List.drop_take,List.drop_eq_getElem_cons hkb,Nat.add_sub_cancel_left,← he]; rfl
           have hsl2:List.drop k (61::List.take k [60,62,43,45,42,47,40,41,44,46,59])=[e]:=hsl
           rw [List.drop_eq_getElem_cons hkb,← he,List.contains_cons] at hct
           by_cases hec:e=c
           ·have hb:oneB.contains c=true:=by rw [hct]; simp [hec]
            rw [if_pos hb]
            simp [hlt',hk1,hk2,hwr,hsl2,hec]<;>(repeat' first|contradiction|exact .ok|apply And.intro|intro _|(refine gc (fun h=>?_) (fun h=>?_)<;>(have h':=h;(try simp at h');first|done|simp[h,h',hlt',hk1,hk2,hwr,hsl,hsl2,hec]|simp[hlt',hk1,hk2,hwr,hsl,hsl2,hec])))
            all_goals simp [RL,RK]
           ·have hce:(c==e)=false:=by rw [beq_eq_false_iff_ne]; exact fun h=>hec h.symm
            rw [hce,Bool.false_or] at hct
            simp [hlt',hk1,hk2,hwr,hsl2,hec]<;>(repeat' first|contradiction|exact .ok|apply And.intro|intro _|(refine gc (fun h=>?_) (fun h=>?_)<;>(have h':=h;(try simp at h');first|done|simp[h,h',hlt',hk1,hk2,hwr,hsl,hsl2,hec]|simp[hlt',hk1,hk2,hwr,hsl,hsl2,hec])))
            refine ⟨k+1,⟨by omega,hct⟩,?_,by simp only; omega⟩
            exact sM _ [(4,4,_)] (by simp [aD,Blk.live]) (by simp [aD])
          ·obtain rfl:k=12:=by omega
           have hb:oneB.contains c=false:=by rw [hct]; rfl
           rw [if_neg (by rw [hb]; simp)]
           simp<;>(repeat' first|contradiction|exact .ok|apply And.intro|intro _|(refine gc (fun h=>?_) (fun h=>?_)<;>(have h':=h;(try simp at h');first|done|simp[h,h']|simp)))
           all_goals simp [RL,RK]
end Go.Proofs.Tryz
