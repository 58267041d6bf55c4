import Derived.Test.YthpmjipkofbeiaaGreatDoorNxs
import Derived.Test.YthpmjipkofbeiaaGreatDoorVrp
set_option linter.all false
namespace Go.Proofs.Tryz
open Go.Ab
set_option maxRecDepth 100000
set_option maxHeartbeats 4000000
def rtC (t:Tk):List D:=[.int .i64 t.kd,.str t.tx,.int .i64 t.n,.int .i64 t.fr,.int .i64 t.to]
def rtA (t:Tk):AV:=.agg ((rtC t).map AV.d)
@[simp] def zRt:List AV:=[.d (.int .i64 0),.d (.str []),.d (.int .i64 0),.d (.int .i64 0),.d (.int .i64 0)]
theorem r_letter (c:UInt8):Cf En 91 [.d (.int .u8 c.toNat)] [] (.d (.bool (lowr c))) []:=by
 refine cf_intro mix (fn:=Tryz.f91) (by kernel_rfl) rfl (by kernel_rfl) (by decide) (by simp) ?_
 unfold lowr
 simp
 (repeat' (first|contradiction|exact .ok|apply And.intro|intro _|(refine gc (fun h=>?_) (fun h=>?_)<;>(have h':=h;(try simp at h');first|done|simp[h,h']|simp))))
 all_goals first | done | omega | (rw [Bool.eq_iff_iff]; simp; omega) | (simp_all; done) | (simp_all; omega)
theorem r_digit (c:UInt8):Cf En 92 [.d (.int .u8 c.toNat)] [] (.d (.bool (isDig c))) []:=by
 refine cf_intro mix (fn:=Tryz.f92) (by kernel_rfl) rfl (by kernel_rfl) (by decide) (by simp) ?_
 unfold isDig
 simp
 (repeat' (first|contradiction|exact .ok|apply And.intro|intro _|(refine gc (fun h=>?_) (fun h=>?_)<;>(have h':=h;(try simp at h');first|done|simp[h,h']|simp))))
 all_goals first | done | omega | (rw [Bool.eq_iff_iff]; simp; omega) | (simp_all; done) | (simp_all; omega)
def reach (p:UInt8→Bool) (s:List UInt8) (a:Nat):Nat:=a+((s.drop a).takeWhile p).length
theorem reach_in {p:UInt8→Bool} {s:List UInt8} {a:Nat} (h:a<s.length) (hp:p s[a]=true):reach p s (a+1)=reach p s a:=by
 unfold reach
 rw [List.drop_eq_getElem_cons h,List.takeWhile_cons,hp,if_pos rfl,List.length_cons]
 omega
theorem reach_out {p:UInt8→Bool} {s:List UInt8} {a:Nat} (h:a<s.length) (hp:p s[a]=false):reach p s a=a:=by
 unfold reach
 rw [List.drop_eq_getElem_cons h,List.takeWhile_cons,hp,if_neg (by simp)]
 rfl
theorem reach_end {p:UInt8→Bool} {s:List UInt8} {a:Nat} (h:s.length≤a):reach p s a=a:=by
 unfold reach
 rw [List.drop_of_length_le h]
 rfl
theorem reach_le {p:UInt8→Bool} {s:List UInt8} {a:Nat} (h:a≤s.length):a≤reach p s a∧reach p s a≤s.length:=by
 unfold reach
 have:=(List.takeWhile_sublist (l:=s.drop a) p).length_le
 rw [List.length_drop] at this
 omega
theorem scan_end2 {s:List UInt8} {a:Nat} (h:skipB s a=s.length):scanT s a=⟨5,[],[],0,s.length,s.length⟩:=by
 unfold scanT
 rw [h,List.drop_length]
 rfl
theorem find_tw:∀ q:List UInt8,q.findIdx? (·==39)=if (q.takeWhile (fun x=>!(x==39))).length<q.length then some (q.takeWhile (fun x=>!(x==39))).length else none
 | []=>rfl
 | c::q=>by
   have ih:=find_tw q
   rw [List.findIdx?_cons,List.takeWhile_cons]
   cases h:c==39 with
   | true=>simp
   | false =>
     simp only [Bool.not_false,if_true,List.length_cons,Bool.false_eq_true,if_false,ih]
     split
     ·rename_i h1
      rw [if_pos (by omega)]
      rfl
     ·rename_i h1
      rw [if_neg (by omega)]
      rfl
theorem r_scan (s:List UInt8) (hs:s.length≤5000) (a0:Nat) (ha0:a0≤s.length):Cf Es 55 [.d (.str s),.d (.int .i64 a0)] [] (rtA (scanT s a0)) []:=by
 obtain ⟨A,hA⟩:∃ A,A=skipB s a0:=⟨_,rfl⟩
 have hskip:∀ a,skipB s a=reach blankB s a:=fun _=>rfl
 have hAl:A≤s.length:=by rw [hA]; exact (skip_le ha0).2
 refine cf_intro mixs (fn:=Tryz.f55) (by kernel_rfl) rfl (by kernel_rfl) (by decide) (by simp) ?_
 simp<;>(repeat' first|contradiction|exact .ok|apply And.intro|intro _|(refine gc (fun h=>?_) (fun h=>?_)<;>(have h':=h;(try simp at h');first|done|simp[h,h']|simp)))
 refine aloopC mixs (by decide) (fun a:Nat=>{ s:=mkS [(0,.d (.str s)),(1,.d (.int .i64 a)),(4,.ptr 4 0 0)],b:=mkB [(4,4,.var zRt)] }) (fun a=>a≤s.length∧reach blankB s a=A) (fun a=>s.length - a) a0 ⟨ha0,hA.symm⟩ 0
  { s:=mkS [(0,.d (.str s)),(1,.d (.int .i64 A)),(4,.ptr 4 0 0)],b:=mkB [(4,4,.var zRt)] } (sub_mk _ [(4,4,_)] ⟨by simp,by simp,by simp [renOf,Blk.live],by simp⟩ (by simp [renOf])) ?_ ?_
 ·rintro a ⟨hal,hr⟩
  by_cases hlt:a<s.length
  ·obtain ⟨e,he⟩:∃ e,e=s[a]:=⟨_,rfl⟩
   have hge:∀ h,s[a]'h=e:=fun _=>he.symm
   have hlt':(a:Int)<(s.length:Int):=by omega
   have hwr:=wrap_in (n:=(a:Int)+1) (by omega) (by omega)
   have hb:=blank_iff e
   by_cases h32:(e.toNat:Int)=32
   ·have hb1:blankB s[a]=true:=by rw [← he,hb]; simp [h32]
    simp [hlt,hge,hlt',h32]<;>(repeat' first|contradiction|exact .ok|apply And.intro|intro _|(refine gc (fun h=>?_) (fun h=>?_)<;>(have h':=h;(try simp at h');first|done|simp[h,h',hlt,hge,hlt',h32]|simp[hlt,hge,hlt',h32])))
    refine ⟨a+1,⟨by omega,(reach_in hlt hb1).trans hr⟩,?_,by simp only; omega⟩
    exact sub_mk _ [(4,4,_)] ⟨by simp,by simp,by simp [renOf,Blk.live],by simp⟩ (by simp [renOf,hwr])
   ·by_cases h10:(e.toNat:Int)=10
    ·have hb1:blankB s[a]=true:=by rw [← he,hb]; simp [h10]
     simp [hlt,hge,hlt',h10]<;>(repeat' first|contradiction|exact .ok|apply And.intro|intro _|(refine gc (fun h=>?_) (fun h=>?_)<;>(have h':=h;(try simp at h');first|done|simp[h,h',hlt,hge,hlt',h10]|simp[hlt,hge,hlt',h10])))
     refine ⟨a+1,⟨by omega,(reach_in hlt hb1).trans hr⟩,?_,by simp only; omega⟩
     exact sub_mk _ [(4,4,_)] ⟨by simp,by simp,by simp [renOf,Blk.live],by simp⟩ (by simp [renOf,hwr])
    ·have hb1:blankB s[a]=false:=by rw [← he,hb]; simp [h32,h10]
     rw [reach_out hlt hb1] at hr
     subst hr
     have h32':((e.toNat:Int)==32)=false:=by simp [h32]
     have h10':((e.toNat:Int)==10)=false:=by simp [h10]
     simp [hlt,hge,hlt',h32',h10']
     (repeat refine ⟨.of (by kernel_rfl),?_⟩)
     exact AExitTo.mk rfl (sub_mk _ [(4,4,_)] ⟨by simp,by simp,by simp [renOf,Blk.live],by simp⟩ (by simp [renOf]))
  ·have hlt':¬ (a:Int)<(s.length:Int):=by omega
   rw [reach_end (by omega)] at hr
   subst hr
   simp [hlt,hlt']
   (repeat refine ⟨.of (by kernel_rfl),?_⟩)
   exact AExitTo.mk rfl (sub_mk _ [(4,4,_)] ⟨by simp,by simp,by simp [renOf,Blk.live],by simp⟩ (by simp [renOf]))
 ·by_cases hAe:A=s.length
  ·have hse:=scan_end2 (s:=s) (a:=a0) (by rw [← hA]; exact hAe)
   rw [hse]
   have hAI:(A:Int)=(s.length:Int):=by omega
   simp [hAI]<;>(repeat' first|contradiction|exact .ok|apply And.intro|intro _|(refine gc (fun h=>?_) (fun h=>?_)<;>(have h':=h;(try simp at h');first|done|simp[h,h',hAI]|simp[hAI])))
   all_goals simp [rtA,rtC]
  have hAlt:A<s.length:=by omega
  have hAI:¬ (A:Int)=(s.length:Int):=by omega
  have hAL:(A:Int)<(s.length:Int):=by omega
  obtain ⟨c,hc⟩:∃ c,c=s[A]:=⟨_,rfl⟩
  have hgc:∀ h,s[A]'h=c:=fun _=>hc.symm
  obtain ⟨q,hq⟩:∃ q,q=s.drop (A+1):=⟨_,rfl⟩
  have hcq:s.drop A=c::q:=by rw [List.drop_eq_getElem_cons hAlt,← hc,← hq]
  have hql:q.length=s.length - (A+1):=by rw [hq,List.length_drop]
  have htk:scanT s a0=⟨(lexR (c::q)).1,(c::q).take (lexR (c::q)).2.1,(lexR (c::q)).2.2.1,(lexR (c::q)).2.2.2,A,A+(lexR (c::q)).2.1⟩:=by
   unfold scanT
   rw [← hA,hcq]
  rw [htk]
  have hc1:=ups (r_letter c)
  have hc2:=ups (r_digit c)
  have hwA:=wrap_in (n:=(A:Int)+1) (by omega) (by omega)
  simp [hAI,hAlt,hAL,hgc,hwA]
  (repeat refine ⟨.of (by kernel_rfl),?_⟩)
  cases h1:lowr c with
  | true =>
    rw [h1] at hc1
    have hl:lexR (c::q)=if 1+(q.takeWhile nameB).length≤16 then (1,1+(q.takeWhile nameB).length,(c::q).take (1+(q.takeWhile nameB).length),0) else (0,0,[],0):=by
     rw [lexR,if_pos h1]
    obtain ⟨n,hn⟩:∃ n,n=1+(q.takeWhile nameB).length:=⟨_,rfl⟩
    obtain ⟨E,hE2⟩:∃ E,E=A+n:=⟨_,rfl⟩
    have hE:E=reach nameB s (A+1):=by unfold reach; rw [← hq]; omega
    have hEl:=reach_le (p:=nameB) (s:=s) (a:=A+1) (by omega)
    have htx:List.drop A (List.take E s)=List.take n (c::q):=by rw [hE2,← hcq,List.drop_take,Nat.add_sub_cancel_left]
    have hAE:(A:Int)≤(E:Int):=by omega
    have hEs:(E:Int)≤(s.length:Int):=by omega
    have hAE':A≤E:=by omega
    have hEs':E≤s.length:=by omega
    rw [← hn] at hl
    rw [hl]
    refine acallT_plain hc1 (by simp) ?_
    simp
    (repeat refine ⟨.of (by kernel_rfl),?_⟩)
    refine aloopC mixs (by decide) (fun k:Nat=>{ s:=mkS [(0,.d (.str s)),(1,.d (.int .i64 A)),(4,.ptr 4 0 0),(5,.d (.int .i64 k))],b:=mkB [(4,4,.var zRt)] }) (fun k=>A+1≤k∧k≤s.length∧reach nameB s k=E) (fun k=>s.length - k) (A+1) ⟨by omega,by omega,hE.symm⟩ 5
     { s:=mkS [(0,.d (.str s)),(1,.d (.int .i64 A)),(4,.ptr 4 0 0),(5,.d (.int .i64 E))],b:=mkB [(4,4,.var zRt)] } (sub_mk _ [(4,4,_)] ⟨by simp,by simp,by simp [renOf,Blk.live],by simp⟩ (by simp [renOf])) ?_ ?_
    ·rintro k ⟨hk0,hkl,hr⟩
     by_cases hlt:k<s.length
     ·obtain ⟨e,he⟩:∃ e,e=s[k]:=⟨_,rfl⟩
      have hge:∀ h,s[k]'h=e:=fun _=>he.symm
      have hlt':(k:Int)<(s.length:Int):=by omega
      have hwr:=wrap_in (n:=(k:Int)+1) (by omega) (by omega)
      have hin:=fun hp=>(reach_in (p:=nameB) (s:=s) (a:=k) hlt hp).trans hr
      have hout:=fun hp=>(reach_out (p:=nameB) (s:=s) (a:=k) hlt hp).symm.trans hr
      rw [← he] at hin hout
      have q1:=ups (r_letter e)
      have q2:=ups (r_digit e)
      simp [hlt,hge,hlt']
      cases hL:lowr e with
      | true =>
        rw [hL] at q1
        refine acallT_plain q1 (by simp) ?_
        simp
        (repeat refine ⟨.of (by kernel_rfl),?_⟩)
        refine ⟨k+1,⟨by omega,by omega,hin (by simp [nameB,hL])⟩,?_,by simp only; omega⟩
        exact sub_mk _ [(4,4,_)] ⟨by simp,by simp,by simp [renOf,Blk.live],by simp⟩ (by simp [renOf,hwr])
      | false =>
        rw [hL] at q1
        refine acallT_plain q1 (by simp) ?_
        simp [hlt,hge,hlt']
        cases hD:isDig e with
        | true =>
          rw [hD] at q2
          have hnb:nameB e=true:=by
           have h:nameB e=(lowr e||(isDig e||e.toNat==95)):=rfl
           rw [h,hD]; simp
          refine acallT_plain q2 (by simp) ?_
          simp
          (repeat refine ⟨.of (by kernel_rfl),?_⟩)
          refine ⟨k+1,⟨by omega,by omega,hin (by simp [hnb])⟩,?_,by simp only; omega⟩
          exact sub_mk _ [(4,4,_)] ⟨by simp,by simp,by simp [renOf,Blk.live],by simp⟩ (by simp [renOf,hwr])
        | false =>
          rw [hD] at q2
          have hnb:nameB e=(e.toNat==95):=by
           have h:nameB e=(lowr e||(isDig e||e.toNat==95)):=rfl
           rw [h,hL,hD]; simp
          refine acallT_plain q2 (by simp) ?_
          by_cases h95:e.toNat=95
          ·have h95':(e.toNat:Int)=95:=by omega
           simp [hlt,hge,hlt',h95']
           (repeat refine ⟨.of (by kernel_rfl),?_⟩)
           refine ⟨k+1,⟨by omega,by omega,hin (by simp [hnb,h95])⟩,?_,by simp only; omega⟩
           exact sub_mk _ [(4,4,_)] ⟨by simp,by simp,by simp [renOf,Blk.live],by simp⟩ (by simp [renOf,hwr])
          ·have h95':((e.toNat:Int)==95)=false:=by rw [beq_eq_false_iff_ne]; omega
           simp [hlt,hge,hlt',h95']
           (repeat refine ⟨.of (by kernel_rfl),?_⟩)
           obtain rfl:=hout (by simp [hnb,h95])
           exact AExitTo.mk rfl (sub_mk _ [(4,4,_)] ⟨by simp,by simp,by simp [renOf,Blk.live],by simp⟩ (by simp [renOf]))
     ·have hlt':¬ (k:Int)<(s.length:Int):=by omega
      rw [reach_end (by omega)] at hr
      subst hr
      simp [hlt,hlt']
      (repeat refine ⟨.of (by kernel_rfl),?_⟩)
      exact AExitTo.mk rfl (sub_mk _ [(4,4,_)] ⟨by simp,by simp,by simp [renOf,Blk.live],by simp⟩ (by simp [renOf]))
    have hz:(E:Int) - (A:Int)=(n:Int):=by omega
    have hwz:=wrap_in (n:=(n:Int)) (by omega) (by omega)
    by_cases h16:n≤16
    ·have h16':(n:Int)≤16:=by omega
     rw [if_pos h16]
     simp [hz,hwz,h16',hAE,hEs,hAE',hEs',htx]<;>(repeat' first|contradiction|exact .ok|apply And.intro|intro _|(refine gc (fun h=>?_) (fun h=>?_)<;>(have h':=h;(try simp at h');first|done|simp[h,h',hz,hwz,h16',hAE,hEs,hAE',hEs',htx]|simp[hz,hwz,h16',hAE,hEs,hAE',hEs',htx])))
     all_goals simp [rtA,rtC,hE2]
    ·have h16':¬ (n:Int)≤16:=by omega
     rw [if_neg h16]
     simp [hz,hwz,h16']<;>(repeat' first|contradiction|exact .ok|apply And.intro|intro _|(refine gc (fun h=>?_) (fun h=>?_)<;>(have h':=h;(try simp at h');first|done|simp[h,h',hz,hwz,h16']|simp[hz,hwz,h16'])))
     all_goals simp [rtA,rtC]
  | false =>
    rw [h1] at hc1
    refine acallT_plain hc1 (by simp) ?_
    simp [hAlt,hAL,hgc]
    (repeat refine ⟨.of (by kernel_rfl),?_⟩)
    cases h2:isDig c with
    | true =>
      rw [h2] at hc2
      have hl:lexR (c::q)=if (resP ((c::q).take (1+(q.takeWhile isDig).length))).2=0∧(resP ((c::q).take (1+(q.takeWhile isDig).length))).1.k=1 then
       (2,1+(q.takeWhile isDig).length,(c::q).take (1+(q.takeWhile isDig).length),(resP ((c::q).take (1+(q.takeWhile isDig).length))).1.n) else (0,0,[],0):=by
       rw [lexR,if_neg (by simp [h1]),if_pos h2]
      obtain ⟨n,hn⟩:∃ n,n=1+(q.takeWhile isDig).length:=⟨_,rfl⟩
      obtain ⟨E,hE2⟩:∃ E,E=A+n:=⟨_,rfl⟩
      have hE:E=reach isDig s (A+1):=by unfold reach; rw [← hq]; omega
      have hEl:=reach_le (p:=isDig) (s:=s) (a:=A+1) (by omega)
      have htx:List.drop A (List.take E s)=List.take n (c::q):=by rw [hE2,← hcq,List.drop_take,Nat.add_sub_cancel_left]
      have hAE:(A:Int)≤(E:Int):=by omega
      have hEs:(E:Int)≤(s.length:Int):=by omega
      have hAE':A≤E:=by omega
      have hEs':E≤s.length:=by omega
      rw [← hn] at hl
      rw [hl]
      refine acallT_plain hc2 (by simp) ?_
      simp
      (repeat refine ⟨.of (by kernel_rfl),?_⟩)
      refine aloopC mixs (by decide) (fun k:Nat=>{ s:=mkS [(0,.d (.str s)),(1,.d (.int .i64 A)),(4,.ptr 4 0 0),(5,.d (.int .i64 k))],b:=mkB [(4,4,.var zRt)] }) (fun k=>A+1≤k∧k≤s.length∧reach isDig s k=E) (fun k=>s.length - k) (A+1) ⟨by omega,by omega,hE.symm⟩ 7
       { s:=mkS [(0,.d (.str s)),(1,.d (.int .i64 A)),(4,.ptr 4 0 0),(5,.d (.int .i64 E))],b:=mkB [(4,4,.var zRt)] } (sub_mk _ [(4,4,_)] ⟨by simp,by simp,by simp [renOf,Blk.live],by simp⟩ (by simp [renOf])) ?_ ?_
      ·rintro k ⟨hk0,hkl,hr⟩
       by_cases hlt:k<s.length
       ·obtain ⟨e,he⟩:∃ e,e=s[k]:=⟨_,rfl⟩
        have hge:∀ h,s[k]'h=e:=fun _=>he.symm
        have hlt':(k:Int)<(s.length:Int):=by omega
        have hwr:=wrap_in (n:=(k:Int)+1) (by omega) (by omega)
        have hin:=fun hp=>(reach_in (p:=isDig) (s:=s) (a:=k) hlt hp).trans hr
        have hout:=fun hp=>(reach_out (p:=isDig) (s:=s) (a:=k) hlt hp).symm.trans hr
        rw [← he] at hin hout
        have q2:=ups (r_digit e)
        simp [hlt,hge,hlt']
        cases hD:isDig e with
        | true =>
          rw [hD] at q2
          refine acallT_plain q2 (by simp) ?_
          simp
          (repeat refine ⟨.of (by kernel_rfl),?_⟩)
          refine ⟨k+1,⟨by omega,by omega,hin (by simp [hD])⟩,?_,by simp only; omega⟩
          exact sub_mk _ [(4,4,_)] ⟨by simp,by simp,by simp [renOf,Blk.live],by simp⟩ (by simp [renOf,hwr])
        | false =>
          rw [hD] at q2
          refine acallT_plain q2 (by simp) ?_
          simp
          (repeat refine ⟨.of (by kernel_rfl),?_⟩)
          obtain rfl:=hout (by simp [hD])
          exact AExitTo.mk rfl (sub_mk _ [(4,4,_)] ⟨by simp,by simp,by simp [renOf,Blk.live],by simp⟩ (by simp [renOf]))
       ·have hlt':¬ (k:Int)<(s.length:Int):=by omega
        rw [reach_end (by omega)] at hr
        subst hr
        simp [hlt,hlt']
        (repeat refine ⟨.of (by kernel_rfl),?_⟩)
        exact AExitTo.mk rfl (sub_mk _ [(4,4,_)] ⟨by simp,by simp,by simp [renOf,Blk.live],by simp⟩ (by simp [renOf]))
      have hpar:=upw (r_parse ((c::q).take n) (by simp; omega))
      rw [← resP_resR] at hpar
      obtain ⟨tn,htn⟩:∃ tn,tn=(c::q).take n:=⟨_,rfl⟩
      rw [← htn] at hpar htx ⊢
      generalize resP tn=res at *
      obtain ⟨⟨rk,rn,rt⟩,re⟩:=res
      simp [V.a,V.c] at hpar
      simp only
      simp [hAE,hEs,hAE',hEs',htx]<;>(repeat' first|contradiction|exact .ok|apply And.intro|intro _|(refine gc (fun h=>?_) (fun h=>?_)<;>(have h':=h;(try simp at h');first|done|simp[h,h',hAE,hEs,hAE',hEs',htx]|simp[hAE,hEs,hAE',hEs',htx])))
      refine acallT_plain hpar (by simp) ?_
      by_cases e0:re=0
      ·by_cases k1:rk=1
       ·rw [if_pos ⟨e0,k1⟩]
        simp [e0,k1,hAE,hEs,hAE',hEs',htx]<;>(repeat' first|contradiction|exact .ok|apply And.intro|intro _|(refine gc (fun h=>?_) (fun h=>?_)<;>(have h':=h;(try simp at h');first|done|simp[h,h',e0,k1,hAE,hEs,hAE',hEs',htx]|simp[e0,k1,hAE,hEs,hAE',hEs',htx])))
        all_goals simp [rtA,rtC,hE2]
       ·rw [if_neg (fun h=>k1 h.2)]
        simp [e0,k1]<;>(repeat' first|contradiction|exact .ok|apply And.intro|intro _|(refine gc (fun h=>?_) (fun h=>?_)<;>(have h':=h;(try simp at h');first|done|simp[h,h',e0,k1]|simp[e0,k1])))
        all_goals simp [rtA,rtC]
      ·rw [if_neg (fun h=>e0 h.1)]
       simp [e0]<;>(repeat' first|contradiction|exact .ok|apply And.intro|intro _|(refine gc (fun h=>?_) (fun h=>?_)<;>(have h':=h;(try simp at h');first|done|simp[h,h',e0]|simp[e0])))
       all_goals simp [rtA,rtC]
    | false =>
      rw [h2] at hc2
      refine acallT_plain hc2 (by simp) ?_
      simp [hAlt,hAL,hgc]
      (repeat refine ⟨.of (by kernel_rfl),?_⟩)
      by_cases h39:c=39
      ·subst h39
       obtain ⟨n,hn⟩:∃ n,n=(q.takeWhile (fun x=>!(x==39))).length:=⟨_,rfl⟩
       obtain ⟨E,hE2⟩:∃ E,E=A+(n+1):=⟨_,rfl⟩
       have hE:E=reach (fun x=>!(x==39)) s (A+1):=by unfold reach; rw [← hq]; omega
       have hEl:=reach_le (p:=(fun x=>!(x==39))) (s:=s) (a:=A+1) (by omega)
       have hfi:=find_tw q
       rw [← hn] at hfi
       simp
       (repeat refine ⟨.of (by kernel_rfl),?_⟩)
       refine aloopC mixs (by decide) (fun k:Nat=>{ s:=mkS [(0,.d (.str s)),(1,.d (.int .i64 A)),(4,.ptr 4 0 0),(5,.d (.int .i64 k))],b:=mkB [(4,4,.var zRt)] }) (fun k=>A+1≤k∧k≤s.length∧reach (fun x=>!(x==39)) s k=E) (fun k=>s.length - k) (A+1) ⟨by omega,by omega,hE.symm⟩ 9
        { s:=mkS [(0,.d (.str s)),(1,.d (.int .i64 A)),(4,.ptr 4 0 0),(5,.d (.int .i64 E))],b:=mkB [(4,4,.var zRt)] } (sub_mk _ [(4,4,_)] ⟨by simp,by simp,by simp [renOf,Blk.live],by simp⟩ (by simp [renOf])) ?_ ?_
       ·rintro k ⟨hk0,hkl,hr⟩
        by_cases hlt:k<s.length
        ·obtain ⟨e,he⟩:∃ e,e=s[k]:=⟨_,rfl⟩
         have hge:∀ h,s[k]'h=e:=fun _=>he.symm
         have hlt':(k:Int)<(s.length:Int):=by omega
         have hwr:=wrap_in (n:=(k:Int)+1) (by omega) (by omega)
         have hin:=fun hp=>(reach_in (p:=(fun x=>!(x==39))) (s:=s) (a:=k) hlt hp).trans hr
         have hout:=fun hp=>(reach_out (p:=(fun x=>!(x==39))) (s:=s) (a:=k) hlt hp).symm.trans hr
         rw [← he] at hin hout
         by_cases h39e:e=39
         ·have h39':((e.toNat:Int) != 39)=false:=by rw [h39e]; rfl
          simp [hlt,hge,hlt',h39']
          (repeat refine ⟨.of (by kernel_rfl),?_⟩)
          obtain rfl:=hout (by simp [h39e])
          exact AExitTo.mk rfl (sub_mk _ [(4,4,_)] ⟨by simp,by simp,by simp [renOf,Blk.live],by simp⟩ (by simp [renOf]))
         ·have h39':((e.toNat:Int) != 39)=true:=by
           rw [bne_iff_ne]
           intro h
           exact h39e (UInt8.toNat_inj.1 (by simpa using (by omega:e.toNat=39)))
          simp [hlt,hge,hlt',h39']
          (repeat refine ⟨.of (by kernel_rfl),?_⟩)
          refine ⟨k+1,⟨by omega,by omega,hin (by simp [h39e])⟩,?_,by simp only; omega⟩
          exact sub_mk _ [(4,4,_)] ⟨by simp,by simp,by simp [renOf,Blk.live],by simp⟩ (by simp [renOf,hwr])
        ·have hlt':¬ (k:Int)<(s.length:Int):=by omega
         rw [reach_end (by omega)] at hr
         subst hr
         simp [hlt,hlt']
         (repeat refine ⟨.of (by kernel_rfl),?_⟩)
         exact AExitTo.mk rfl (sub_mk _ [(4,4,_)] ⟨by simp,by simp,by simp [renOf,Blk.live],by simp⟩ (by simp [renOf]))
       by_cases hnq:n<q.length
       ·rw [if_pos hnq] at hfi
        have hl:lexR (39::q)=if (resP ((39::q).take (n+2))).2=0 then (3,n+2,(resP ((39::q).take (n+2))).1.t,0) else (0,0,[],0):=by
         rw [lexR,if_neg (by simp [h1]),if_neg (by simp [h2]),if_pos rfl,hfi]
        rw [hl]
        have hEs:(E:Int)<(s.length:Int):=by omega
        obtain ⟨F,hF⟩:∃ F,F=A+(n+2):=⟨_,rfl⟩
        have hEF:(E:Int)+1=(F:Int):=by omega
        have hwF:=wrap_in (n:=(F:Int)) (by omega) (by omega)
        have htx:List.drop A (List.take F s)=List.take (n+2) (39::q):=by rw [hF,← hcq,List.drop_take,Nat.add_sub_cancel_left]
        have hAF:(A:Int)≤(F:Int):=by omega
        have hFs:(F:Int)≤(s.length:Int):=by omega
        have hpar:=upw (r_parse ((39::q).take (n+2)) (by simp; omega))
        rw [← resP_resR] at hpar
        obtain ⟨tn,htn⟩:∃ tn,tn=(39::q).take (n+2):=⟨_,rfl⟩
        rw [← htn] at hpar htx ⊢
        generalize resP tn=res at *
        obtain ⟨⟨rk,rn,rt⟩,re⟩:=res
        simp [V.a,V.c] at hpar
        simp only
        simp [hEs,hEF,hwF,hAF,hFs,htx]<;>(repeat' first|contradiction|exact .ok|apply And.intro|intro _|(refine gc (fun h=>?_) (fun h=>?_)<;>(have h':=h;(try simp at h');first|done|simp[h,h',hEs,hEF,hwF,hAF,hFs,htx]|simp[hEs,hEF,hwF,hAF,hFs,htx])))
        refine acallT_plain hpar (by simp) ?_
        by_cases e0:re=0
        ·rw [if_pos e0]
         simp [e0,hEF,hwF]<;>(repeat' first|contradiction|exact .ok|apply And.intro|intro _|(refine gc (fun h=>?_) (fun h=>?_)<;>(have h':=h;(try simp at h');first|done|simp[h,h',e0,hEF,hwF]|simp[e0,hEF,hwF])))
         all_goals simp [rtA,rtC,hF]
        ·rw [if_neg e0]
         simp [e0]<;>(repeat' first|contradiction|exact .ok|apply And.intro|intro _|(refine gc (fun h=>?_) (fun h=>?_)<;>(have h':=h;(try simp at h');first|done|simp[h,h',e0]|simp[e0])))
         all_goals simp [rtA,rtC]
       ·rw [if_neg hnq] at hfi
        have hl:lexR (39::q)=(0,0,[],0):=by
         rw [lexR,if_neg (by simp [h1]),if_neg (by simp [h2]),if_pos rfl,hfi]
        rw [hl]
        have hEs:¬ (E:Int)<(s.length:Int):=by omega
        simp [hEs]<;>(repeat' first|contradiction|exact .ok|apply And.intro|intro _|(refine gc (fun h=>?_) (fun h=>?_)<;>(have h':=h;(try simp at h');first|done|simp[h,h',hEs]|simp[hEs])))
        all_goals simp [rtA,rtC]
      ·have hc39:((c.toNat:Int)==39)=false:=by
        rw [beq_eq_false_iff_ne]
        intro h
        exact h39 (UInt8.toNat_inj.1 (by simpa using (by omega:c.toNat=39)))
       have hn39:¬ (c.toNat:Int)=39:=by simpa using hc39
       have hl:lexR (c::q)=if q ≠ []∧twoW.contains ((c::q).take 2)=true then (4,2,(c::q).take 2,0) else if oneB.contains c=true then (4,1,[c],0) else (0,0,[],0):=by
        rw [lexR,if_neg (by simp [h1]),if_neg (by simp [h2]),if_neg h39]
       rw [hl]
       have hA1:(A:Int)≤(A:Int)+1:=by omega
       have hA2:(A:Int)+1≤(s.length:Int):=by omega
       have hA3:((A:Int)+1).toNat=A+1:=by omega
       have hone:List.drop A (List.take (A+1) s)=[c]:=by
        rw [List.drop_take,hcq,Nat.add_sub_cancel_left]; rfl
       cases q with
       | nil =>
         have hln:s.length=A+1:=by simp only [List.length_nil] at hql; omega
         have hA4:¬ (A:Int)+1<(s.length:Int):=by omega
         have hA5:(s.length:Int)=(A:Int)+1:=by omega
         rw [if_neg (by simp)]
         simp [hc39,hn39,hA1,hA2,hA3,hA4,hone]<;>(repeat' first|contradiction|exact .ok|apply And.intro|intro _|(refine gc (fun h=>?_) (fun h=>?_)<;>(have h':=h;(try simp at h');first|done|simp[h,h',hc39,hn39,hA1,hA2,hA3,hA4,hone]|simp[hc39,hn39,hA1,hA2,hA3,hA4,hone])))
         refine aloopT mixs (by decide) (fun k:Nat=>{ s:=mkS [(0,.d (.str s)),(1,.d (.int .i64 A)),(4,.ptr 4 0 0),(5,.d (.int .i64 ((A:Int)+1))),(11,.d (.str [c])),(12,.d (.int .i64 k))],b:=mkB [(4,4,.var zRt)] }) (fun k=>k≤12∧oneB.contains c=(oneB.drop k).contains c) (fun k=>12 - k) 0 ⟨by simp,rfl⟩
          (sub_mk _ [(4,4,_)] ⟨by simp,by simp,by simp [renOf,Blk.live],by simp⟩ (by simp [renOf,hone])) ?_
         rintro k ⟨hk,hct⟩
         by_cases hlt:k<12
         ·have hlt':(k:Int)<12:=by omega
          have hk1:(k:Int)≤(k:Int)+1:=by omega
          have hk2:(k:Int)+1≤12:=by omega
          have hwr:=wrap_in (n:=(k:Int)+1) (by omega) (by omega)
          have hkb:k<oneB.length:=hlt
          obtain ⟨e,he⟩:∃ e,e=oneB[k]:=⟨_,rfl⟩
          have hsl:List.drop k (List.take (k+1) [61,60,62,43,45,42,47,40,41,44,46,59])=[e]:=by
           show List.drop k (List.take (k+1) oneB)=[e]
           rw [List.drop_take,List.drop_eq_getElem_cons hkb,Nat.add_sub_cancel_left,← he]; rfl
          have hsl2:List.drop k (61::List.take k [60,62,43,45,42,47,40,41,44,46,59])=[e]:=hsl
          rw [List.drop_eq_getElem_cons hkb,← he,List.contains_cons] at hct
          by_cases hec:e=c
          ·have hb:oneB.contains c=true:=by rw [hct]; simp [hec]
           rw [if_pos hb]
           simp [hlt',hk1,hk2,hwr,hsl,hsl2,hec]<;>(repeat' first|contradiction|exact .ok|apply And.intro|intro _|(refine gc (fun h=>?_) (fun h=>?_)<;>(have h':=h;(try simp at h');first|done|simp[h,h',hlt',hk1,hk2,hwr,hsl,hsl2,hec]|simp[hlt',hk1,hk2,hwr,hsl,hsl2,hec])))
           all_goals simp [rtA,rtC]
          ·have hce:(c==e)=false:=by rw [beq_eq_false_iff_ne]; exact fun h=>hec h.symm
           rw [hce,Bool.false_or] at hct
           simp [hlt',hk1,hk2,hwr,hsl,hsl2,hec]<;>(repeat' first|contradiction|exact .ok|apply And.intro|intro _|(refine gc (fun h=>?_) (fun h=>?_)<;>(have h':=h;(try simp at h');first|done|simp[h,h',hlt',hk1,hk2,hwr,hsl,hsl2,hec]|simp[hlt',hk1,hk2,hwr,hsl,hsl2,hec])))
           refine ⟨k+1,⟨by omega,hct⟩,?_,by simp only; omega⟩
           exact sub_mk _ [(4,4,_)] ⟨by simp,by simp,by simp [renOf,Blk.live],by simp⟩ (by simp [renOf,hwr])
         ·obtain rfl:k=12:=by omega
          have hb:oneB.contains c=false:=by rw [hct]; rfl
          rw [if_neg (by rw [hb]; simp)]
          simp<;>(repeat' first|contradiction|exact .ok|apply And.intro|intro _|(refine gc (fun h=>?_) (fun h=>?_)<;>(have h':=h;(try simp at h');first|done|simp[h,h']|simp)))
          all_goals simp [rtA,rtC]
       | cons d q2 =>
         have hln:A+2≤s.length:=by simp only [List.length_cons] at hql; omega
         have hA4:(A:Int)+1<(s.length:Int):=by omega
         have hA4n:¬ (s.length:Int)≤(A:Int)+1:=by omega
         have hA6:IntKind.i64.wrap ((A:Int)+1+1)=(A:Int)+1+1:=wrap_in (by omega) (by omega)
         have hA7:(A:Int)≤(A:Int)+1+1:=by omega
         have hA8:(A:Int)+1+1≤(s.length:Int):=by omega
         have hA9:((A:Int)+1+1).toNat=A+2:=by omega
         obtain ⟨w2,hw2⟩:∃ w2,w2=[c,d]:=⟨_,rfl⟩
         have htwo:List.drop A (List.take (A+1+1) s)=w2:=by
          rw [List.drop_take,hcq,show A+1+1 - A=2 from by omega,hw2]; rfl
         have htk2:List.take 2 (c::d::q2)=w2:=by rw [hw2]; rfl
         rw [htk2]
         have hA10:A+2=A+1+1:=rfl
         by_cases hb:twoW.contains w2=true
         ·rw [if_pos ⟨by simp,hb⟩]
          have hor:w2=[60,62]∨w2=[60,61]∨w2=[62,61]∨w2=[124,124]:=by simpa [twoW] using hb
          simp [hc39,hn39,hA4,hA4n,hA6,hA7,hA8,hA9,htwo]
          rcases hor with h | h | h | h
          all_goals
           rw [h]
           simp [hA6]<;>(repeat' first|contradiction|exact .ok|apply And.intro|intro _|(refine gc (fun h=>?_) (fun h=>?_)<;>(have h':=h;(try simp at h');first|done|simp[h,h',hA6]|simp[hA6])))
           all_goals simp [rtA,rtC]
           all_goals omega
         ·rw [if_neg (fun h=>hb h.2)]
          have hnb:¬ w2=[60,62]∧¬ w2=[60,61]∧¬ w2=[62,61]∧¬ w2=[124,124]:=by
           simp [twoW] at hb
           exact hb
          obtain ⟨n1,n2,n3,n4⟩:=hnb
          have b1:(w2==[60,62])=false:=by simpa using n1
          have b2:(w2==[60,61])=false:=by simpa using n2
          have b3:(w2==[62,61])=false:=by simpa using n3
          have b4:(w2==[124,124])=false:=by simpa using n4
          clear hw2 htk2
          simp [hc39,hn39,hA1,hA2,hA3,hA4,hA4n,hA6,hA7,hA8,hA9,htwo,b1,b2,b3,b4,hone]<;>(repeat' first|contradiction|exact .ok|apply And.intro|intro _|(refine gc (fun h=>?_) (fun h=>?_)<;>(have h':=h;(try simp at h');first|done|simp[h,h',hc39,hn39,hA1,hA2,hA3,hA4,hA4n,hA6,hA7,hA8,hA9,htwo,b1,b2,b3,b4,hone]|simp[hc39,hn39,hA1,hA2,hA3,hA4,hA4n,hA6,hA7,hA8,hA9,htwo,b1,b2,b3,b4,hone])))
          refine aloopT mixs (by decide) (fun k:Nat=>{ s:=mkS [(0,.d (.str s)),(1,.d (.int .i64 A)),(4,.ptr 4 0 0),(5,.d (.int .i64 ((A:Int)+1))),(11,.d (.str [c])),(12,.d (.int .i64 k))],b:=mkB [(4,4,.var zRt)] }) (fun k=>k≤12∧oneB.contains c=(oneB.drop k).contains c) (fun k=>12 - k) 0 ⟨by simp,rfl⟩
           (sub_mk _ [(4,4,_)] ⟨by simp,by simp,by simp [renOf,Blk.live],by simp⟩ (by simp [renOf,hone])) ?_
          rintro k ⟨hk,hct⟩
          by_cases hlt:k<12
          ·have hlt':(k:Int)<12:=by omega
           have hk1:(k:Int)≤(k:Int)+1:=by omega
           have hk2:(k:Int)+1≤12:=by omega
           have hwr:=wrap_in (n:=(k:Int)+1) (by omega) (by omega)
           have hkb:k<oneB.length:=hlt
           obtain ⟨e,he⟩:∃ e,e=oneB[k]:=⟨_,rfl⟩
           have hsl:List.drop k (List.take (k+1) [61,60,62,43,45,42,47,40,41,44,46,59])=[e]:=by
            show List.drop k (List.take (k+1) oneB)=[e]
            rw [List.drop_take,List.drop_eq_getElem_cons hkb,Nat.add_sub_cancel_left,← he]; rfl
           have hsl2:List.drop k (61::List.take k [60,62,43,45,42,47,40,41,44,46,59])=[e]:=hsl
           rw [List.drop_eq_getElem_cons hkb,← he,List.contains_cons] at hct
           by_cases hec:e=c
           ·have hb:oneB.contains c=true:=by rw [hct]; simp [hec]
            rw [if_pos hb]
            simp [hlt',hk1,hk2,hwr,hsl,hsl2,hec]<;>(repeat' first|contradiction|exact .ok|apply And.intro|intro _|(refine gc (fun h=>?_) (fun h=>?_)<;>(have h':=h;(try simp at h');first|done|simp[h,h',hlt',hk1,hk2,hwr,hsl,hsl2,hec]|simp[hlt',hk1,hk2,hwr,hsl,hsl2,hec])))
            all_goals simp [rtA,rtC]
           ·have hce:(c==e)=false:=by rw [beq_eq_false_iff_ne]; exact fun h=>hec h.symm
            rw [hce,Bool.false_or] at hct
            simp [hlt',hk1,hk2,hwr,hsl,hsl2,hec]<;>(repeat' first|contradiction|exact .ok|apply And.intro|intro _|(refine gc (fun h=>?_) (fun h=>?_)<;>(have h':=h;(try simp at h');first|done|simp[h,h',hlt',hk1,hk2,hwr,hsl,hsl2,hec]|simp[hlt',hk1,hk2,hwr,hsl,hsl2,hec])))
            refine ⟨k+1,⟨by omega,hct⟩,?_,by simp only; omega⟩
            exact sub_mk _ [(4,4,_)] ⟨by simp,by simp,by simp [renOf,Blk.live],by simp⟩ (by simp [renOf,hwr])
          ·obtain rfl:k=12:=by omega
           have hb:oneB.contains c=false:=by rw [hct]; rfl
           rw [if_neg (by rw [hb]; simp)]
           simp<;>(repeat' first|contradiction|exact .ok|apply And.intro|intro _|(refine gc (fun h=>?_) (fun h=>?_)<;>(have h':=h;(try simp at h');first|done|simp[h,h']|simp)))
           all_goals simp [rtA,rtC]
end Go.Proofs.Tryz
