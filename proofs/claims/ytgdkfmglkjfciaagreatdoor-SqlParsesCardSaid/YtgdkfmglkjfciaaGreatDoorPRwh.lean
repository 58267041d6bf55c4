import Derived.Test.YtgdkfmglkjfciaaGreatDoorPRwj
import Derived.Test.YtgdkfmglkjfciaaGreatDoorPPta
set_option linter.all false
namespace Go.Proofs.Tryz
open Go.Ab
set_option maxRecDepth 100000
set_option maxHeartbeats 16000000
noncomputable def corC:Code:=(Tryz.f33.body).getD .skip
abbrev corN:Nat:=94
section
variable (tm:RS→Tm×RS) (st:RS→Sm×RS)
def restER (d sb:Bool) (is:List It) (so:So) (js:List Jo) (w g:List Tm) (r:RS):Sm×RS:=(.mk 1 false d sb is so.1 so.2.1 so.2.2 js w g (oneR tm wHaving r).1 [],(oneR tm wHaving r).2)
def restDR (d sb:Bool) (is:List It) (so:So) (js:List Jo) (w:List Tm) (r:RS):Sm×RS:=restER tm d sb is so js w (groupR tm r).1 (groupR tm r).2
def restCR (d sb:Bool) (is:List It) (so:So) (js:List Jo) (r:RS):Sm×RS:=restDR tm d sb is so js (oneR tm wWhere r).1 (oneR tm wWhere r).2
def restBR (d sb:Bool) (is:List It) (so:So) (r:RS):Sm×RS:=restCR tm d sb is so (joCR tm st [] r).1 (joCR tm st [] r).2
def restAR (d sb:Bool) (is:List It) (r:RS):Sm×RS:=restBR tm st d sb is (sourceR st (rWant wFrom r)).1 (sourceR st (rWant wFrom r)).2
theorem selR_eq (r:RS):selR tm st r=if rIs wStar (rOpt wDistinct (rWant wSelect r)).2=true then restAR tm st (rOpt wDistinct (rWant wSelect r)).1 true [] (rNext (rOpt wDistinct (rWant wSelect r)).2)
  else restAR tm st (rOpt wDistinct (rWant wSelect r)).1 false (itCR tm [(itemR tm (rOpt wDistinct (rWant wSelect r)).2).1] (itemR tm (rOpt wDistinct (rWant wSelect r)).2).2).1 (itCR tm [(itemR tm (rOpt wDistinct (rWant wSelect r)).2).1] (itemR tm (rOpt wDistinct (rWant wSelect r)).2).2).2:=by
 unfold selR starR
 simp only
 cases hw:rIs wStar (rOpt wDistinct (rWant wSelect r)).2 with
 | true=>rw [if_pos rfl,if_pos rfl]; rfl
 | false=>rw [if_neg (by simp),if_neg (by simp)]; rfl
end
structure ZA where
 d:Bool
 sb:Bool
 is:List It
 r:RS
structure ZB where
 d:Bool
 sb:Bool
 is:List It
 so:So
 js:List Jo
 r:RS
def GA (s:List UInt8) (y:ZA):St:={ s:=mkS [(0,.ptr 1000000 0 0),(2,.ptr 2 0 0),(4,.ptr 4 0 0)],b:=mkB [(1000000,1000000,rrB s y.r),(2,2,.var zSm),(4,4,.var (z5 y.d y.sb (.d (.sl (y.is.map It.c)))))] }
def GB (s:List UInt8) (y:ZB):St:={ s:=mkS [(0,.ptr 1000000 0 0),(2,.ptr 2 0 0),(4,.ptr 4 0 0)],b:=mkB [(1000000,1000000,rrB s y.r),(2,2,.var zSm),(4,4,.var (c3 y.d y.sb y.is y.so (.d (.sl (y.js.map Jo.c))) .nils .nils))] }
attribute [simp] It.a It.ctake It.ctake' Jo.a Jo.ctake Jo.ctake'
section
variable {s:List UInt8} (hs:s.length≤5000) {L:Nat} {tm:RS→Tm×RS} {st:RS→Sm×RS}
include hs
theorem r_selA {r:RS} (hi:RuX It.a s L 50 (itemR tm)) (hTk:∀ r,Kp r (tm r).2) (ha:At (toks s) r.1) (hl:r.1.length≤L) (hno:rIs wOpen r=false) {res:Sm×RS} (hres:selR tm st r=res) :
  acodeP Es corN 1 none (cutC 5 corC).1 (Go.Ab.begin [.ptr 1000000 0 0] [rrB s r]) fun e a=>match e with
   | .normal=>∃ y:ZA,(At (toks s) y.r.1∧y.r.1.length≤r.1.length∧restAR tm st y.d y.sb y.is y.r=res)∧Sub Es corN 1 a (GA s y)
   | _=>False:=by
 rw [selR_eq] at hres
 have hTl:=toks_len s
 have hrl:=ha.sfx.length_le
 simp only [corC,corN,Tryz.f33,Option.getD_some,cutC_succ,cutC_zero]
 simp<;>(repeat' first|contradiction|exact .ok|apply And.intro|intro _|(refine gc (fun h=>?_) (fun h=>?_)<;>(have h':=h;(try simp at h');first|done|simp[h,h']|simp)))
 refine acallP_of (acallT_hand [1000000] (take_noR hs ha hno) (by simp) (by simp) (by simp) (by simp) (by simp) ?_)
 simp<;>(repeat' first|contradiction|exact .ok|apply And.intro|intro _|(refine gc (fun h=>?_) (fun h=>?_)<;>(have h':=h;(try simp at h');first|done|simp[h,h']|simp)))
 have w1:=r_want hs ha wSelect
 have a1:=ha.kp (kp_want wSelect r)
 have l1:=(kp_want wSelect r).len
 generalize rWant wSelect r=r1 at *
 have w2:=take_optR hs a1 wDistinct
 have a2:=a1.kp (kp_opt wDistinct r1)
 have l2:=(kp_opt wDistinct r1).len
 generalize rOpt wDistinct r1=x at *
 obtain ⟨d,r2⟩:=x
 simp only at hres w2 a2 l2
 refine acallP_of (acallT_hand [1000000] (w1) (by simp) (by simp) (by simp) (by simp) (by simp) ?_)
 simp<;>(repeat' first|contradiction|exact .ok|apply And.intro|intro _|(refine gc (fun h=>?_) (fun h=>?_)<;>(have h':=h;(try simp at h');first|done|simp[h,h']|simp)))
 refine acallP_of (acallT_hand [1000000] (w2) (by simp) (by simp) (by simp) (by simp) (by simp) ?_)
 simp<;>(repeat' first|contradiction|exact .ok|apply And.intro|intro _|(refine gc (fun h=>?_) (fun h=>?_)<;>(have h':=h;(try simp at h');first|done|simp[h,h']|simp)))
 cases hw:rIs wStar r2 with
 | true =>
   rw [if_pos hw] at hres
   have hlen:=is_lt hw
   have a3:=a2.kp (kp_is hw)
   refine acallP_of (acallT_hand [1000000] (take_yesR hs a2 hw) (by simp) (by simp) (by simp) (by simp) (by simp) ?_)
   simp<;>(repeat' first|contradiction|exact .ok|apply And.intro|intro _|(refine gc (fun h=>?_) (fun h=>?_)<;>(have h':=h;(try simp at h');first|done|simp[h,h']|simp)))
   refine ⟨⟨d,true,[],rNext r2⟩,⟨a3,by simp only; omega,hres⟩,?_⟩
   refine (sub_nilc 4 900 59 7 4 (cells:=z5 d true .nils) (by simp) rfl (by simp) (by decide) (by decide)).trans ?_
   exact sub_mk _ [(1000000,1000000,_),(2,2,_),(4,4,_)] ⟨by simp,by simp,by simp [renOf,Blk.live],base1⟩ (by simp [renOf])
 | false =>
   rw [if_neg (by rw [hw]; exact Bool.false_ne_true)] at hres
   refine acallP_of (acallT_hand [1000000] (take_noR hs a2 hw) (by simp) (by simp) (by simp) (by simp) (by simp) ?_)
   simp<;>(repeat' first|contradiction|exact .ok|apply And.intro|intro _|(refine gc (fun h=>?_) (fun h=>?_)<;>(have h':=h;(try simp at h');first|done|simp[h,h']|simp)))
   have h3:=hi.run r2 a2 (by omega)
   have a3:=a2.kp (hi.kp r2)
   have l3:=(hi.kp r2).len
   generalize itemR tm r2=x at *
   obtain ⟨i0,r3⟩:=x
   simp only at hres h3 a3 l3
   refine acallP_of (acallT_hand [1000000] (h3) (by simp) (by simp) (by simp) (by simp) (by simp) ?_)
   simp<;>(repeat' first|contradiction|exact .ok|apply And.intro|intro _|(refine gc (fun h=>?_) (fun h=>?_)<;>(have h':=h;(try simp at h');first|done|simp[h,h']|simp)))
   refine aloopPT mixs (by decide) (fun y:List It×RS=>{ s:=mkS [(0,.ptr 1000000 0 0),(2,.ptr 2 0 0),(4,.ptr 4 0 0)],b:=mkB [(1000000,1000000,rrB s y.2),(2,2,.var zSm),(4,4,.var (z5 d false (.ref 900 0 y.1.length 7))),(900,900,.arr 59 7 (y.1.map It.c) false)] })
    (fun y=>At (toks s) y.2.1∧y.2.1.length≤r.1.length∧y.1.length+y.2.1.length≤10001∧restAR tm st d false (itCR tm y.1 y.2).1 (itCR tm y.1 y.2).2=res) (fun y=>y.2.1.length) ([i0],r3) ⟨a3,by simp only; omega,by simp only [List.length_singleton]; omega,hres⟩
    (sub_mk _ [(1000000,1000000,_),(2,2,_),(4,4,_),(900,27,_)] ⟨by simp,by simp,by simp [renOf,Blk.live],base1⟩ (by simp [renOf])) ?_
   rintro ⟨is,r4⟩ ⟨a4,l4,hk,hr4⟩
   simp only at a4 l4 hk hr4
   rw [itCR_eq hTk] at hr4
   have hb:(is.length+1)*96≤140737488355328∧is.length≤9223372036854775806:=by omega
   cases hc:rIs wComma r4 with
   | true =>
     have hlen:=is_lt hc
     have a5:=a4.kp (kp_is hc)
     rw [if_pos hc] at hr4
     have h5:=take_yesR hs a4 hc
     generalize rNext r4=r5 at *
     have h6:=hi.run r5 a5 (by omega)
     have a6:=a5.kp (hi.kp r5)
     have l6:=(hi.kp r5).len
     generalize itemR tm r5=x at *
     obtain ⟨i,r6⟩:=x
     simp only at hr4 h6 a6 l6
     simp<;>(repeat' first|contradiction|exact .ok|apply And.intro|intro _|(refine gc (fun h=>?_) (fun h=>?_)<;>(have h':=h;(try simp at h');first|done|simp[h,h']|simp)))
     refine acallP_of (acallT_hand [1000000] (h5) (by simp) (by simp) (by simp) (by simp) (by simp) ?_)
     simp<;>(repeat' first|contradiction|exact .ok|apply And.intro|intro _|(refine gc (fun h=>?_) (fun h=>?_)<;>(have h':=h;(try simp at h');first|done|simp[h,h']|simp)))
     refine acallP_of (acallT_hand [1000000] (h6) (by simp) (by simp) (by simp) (by simp) (by simp) ?_)
     simp [hb]<;>(repeat' first|contradiction|exact .ok|apply And.intro|intro _|(refine gc (fun h=>?_) (fun h=>?_)<;>(have h':=h;(try simp at h');first|done|simp[h,h',hb]|simp[hb])))
     refine ⟨(is++[i],r6),⟨a6,by simp only; omega,by simp only [List.length_append,List.length_singleton]; omega,hr4⟩,?_,by simp only; omega⟩
     exact sub_mk _ [(1000000,1000000,_),(2,2,_),(4,4,_),(900,36,_)] ⟨by simp,by simp,by simp [renOf,Blk.live],base1⟩ (by simp [renOf])
   | false =>
     rw [if_neg (by rw [hc]; exact Bool.false_ne_true)] at hr4
     simp<;>(repeat' first|contradiction|exact .ok|apply And.intro|intro _|(refine gc (fun h=>?_) (fun h=>?_)<;>(have h':=h;(try simp at h');first|done|simp[h,h']|simp)))
     refine acallP_of (acallT_hand [1000000] (take_noR hs a4 hc) (by simp) (by simp) (by simp) (by simp) (by simp) ?_)
     simp<;>(repeat' first|contradiction|exact .ok|apply And.intro|intro _|(refine gc (fun h=>?_) (fun h=>?_)<;>(have h':=h;(try simp at h');first|done|simp[h,h']|simp)))
     refine ⟨⟨d,false,is,r4⟩,⟨a4,by simp only; omega,hr4⟩,?_⟩
     exact sub_mk _ [(1000000,1000000,_),(2,2,_),(4,4,_)] ⟨by simp,by simp,by simp [renOf,Blk.live],base1⟩ (by simp [renOf])
theorem r_selB (hso:RuX So.a s L 51 (sourceR st)) (hTk:∀ r,Kp r (tm r).2) (hSk:∀ r,Kp r (st r).2)
  (hj:∀ r:RS,At (toks s) r.1→r.1.length≤L→Cf Es 52 [.ptr 1000000 0 0] [rrB s r] (.tup [(jnR tm st r).1.a,.d (.bool (jnR tm st r).2.1)]) [rrB s (jnR tm st r).2.2])
  {y:ZA} (ha:At (toks s) y.r.1) (hl:y.r.1.length≤L) {res:Sm×RS} (hres:restAR tm st y.d y.sb y.is y.r=res) :
  acodeP Es corN 1 none (cutC 3 (cutC 5 corC).2).1 (GA s y) fun e a=>match e with
   | .normal=>∃ z:ZB,(At (toks s) z.r.1∧z.r.1.length≤y.r.1.length∧restCR tm z.d z.sb z.is z.so z.js z.r=res)∧Sub Es corN 1 a (GB s z)
   | _=>False:=by
 obtain ⟨d,sb,is,r⟩:=y
 simp only at ha hl hres ⊢
 unfold restAR at hres
 have hTl:=toks_len s
 have hrl:=ha.sfx.length_le
 simp only [corC,corN,Tryz.f33,Option.getD_some,cutC_succ,cutC_zero,GA]
 simp<;>(repeat' first|contradiction|exact .ok|apply And.intro|intro _|(refine gc (fun h=>?_) (fun h=>?_)<;>(have h':=h;(try simp at h');first|done|simp[h,h']|simp)))
 have w1:=r_want hs ha wFrom
 have a1:=ha.kp (kp_want wFrom r)
 have l1:=(kp_want wFrom r).len
 generalize rWant wFrom r=r1 at *
 have h2:=hso.run r1 a1 (by omega)
 have a2:=a1.kp (hso.kp r1)
 have l2:=(hso.kp r1).len
 generalize sourceR st r1=x at *
 obtain ⟨⟨ta,qs,na⟩,r2⟩:=x
 simp only [So.a,soA,soC,smsC_map] at hres h2 a2 l2
 unfold restBR at hres
 refine acallP_of (acallT_hand [1000000] (w1) (by simp) (by simp) (by simp) (by simp) (by simp) ?_)
 simp<;>(repeat' first|contradiction|exact .ok|apply And.intro|intro _|(refine gc (fun h=>?_) (fun h=>?_)<;>(have h':=h;(try simp at h');first|done|simp[h,h']|simp)))
 refine acallP_of (acallT_hand [1000000] (h2) (by simp) (by simp) (by simp) (by simp) (by simp) ?_)
 simp<;>(repeat' first|contradiction|exact .ok|apply And.intro|intro _|(refine gc (fun h=>?_) (fun h=>?_)<;>(have h':=h;(try simp at h');first|done|simp[h,h']|simp)))
 refine aloopPT mixs (by decide) (fun y:List Jo×RS=>{ s:=mkS [(0,.ptr 1000000 0 0),(2,.ptr 2 0 0),(4,.ptr 4 0 0)],b:=mkB [(1000000,1000000,rrB s y.2),(2,2,.var zSm),(4,4,.var (c3 d sb is (ta,qs,na) (.ref 901 0 y.1.length 5) .nils .nils)),(901,901,.arr 62 5 (y.1.map Jo.c) false)] })
  (fun y=>At (toks s) y.2.1∧y.2.1.length≤r.1.length∧y.1.length+y.2.1.length≤10001∧restCR tm d sb is (ta,qs,na) (joCR tm st y.1 y.2).1 (joCR tm st y.1 y.2).2=res) (fun y=>y.2.1.length) ([],r2) ⟨a2,by simp only; omega,by simp only [List.length_nil]; omega,hres⟩
  ((sub_nilc 4 901 62 5 8 (cells:=c3 d sb is (ta,qs,na) .nils .nils .nils) (by simp) rfl (by simp) (by decide) (by decide)).trans (sub_mk _ [(1000000,1000000,_),(2,2,_),(4,4,_),(901,901,_)] ⟨by simp,by simp,by simp [renOf,Blk.live],base1⟩ (by simp [renOf]))) ?_
 clear hres h2 a2 l2 w1 l1 a1
 rintro ⟨js,r3⟩ ⟨a3,l3,hk,hr3⟩
 simp only at a3 l3 hk hr3
 rw [joCR_eq hTk hSk] at hr3
 have hb:(js.length+1)*88≤140737488355328∧js.length≤9223372036854775806:=by omega
 by_cases hbad:0≤r3.2
 ·rw [if_pos hbad] at hr3
  have hbad':¬ r3.2<0:=by omega
  simp [hbad,hbad']<;>(repeat' first|contradiction|exact .ok|apply And.intro|intro _|(refine gc (fun h=>?_) (fun h=>?_)<;>(have h':=h;(try simp at h');first|done|simp[h,h',hbad,hbad']|simp[hbad,hbad'])))
  refine ⟨⟨d,sb,is,(ta,qs,na),js,r3⟩,⟨a3,by simp only; omega,hr3⟩,?_⟩
  exact sub_mk _ [(1000000,1000000,_),(2,2,_),(4,4,_)] ⟨by simp,by simp,by simp [renOf,Blk.live],base1⟩ (by simp [renOf])
 ·rw [if_neg hbad] at hr3
  have hbad':r3.2<0:=by omega
  have h4:=hj r3 a3 (by omega)
  have kj:Kp r3 (jnR tm st r3).2.2:=by
   unfold jnR
   split
   ·rename_i ho; exact (kp_one ho).trans (kp_join hTk hSk _ _)
   ·split
    ·exact kp_join hTk hSk _ _
    ·exact .refl _
  have a4:=a3.kp kj
  have lj:=@jn_lt tm st hTk hSk r3
  have nj:=@jn_no tm st r3
  generalize jnR tm st r3=x at *
  obtain ⟨j,ok,r4⟩:=x
  simp only at hr3 h4 kj a4 lj nj
  cases ok with
  | false =>
    rw [if_neg (by simp)] at hr3
    obtain rfl:=nj rfl
    simp [hbad,hbad']<;>(repeat' first|contradiction|exact .ok|apply And.intro|intro _|(refine gc (fun h=>?_) (fun h=>?_)<;>(have h':=h;(try simp at h');first|done|simp[h,h',hbad,hbad']|simp[hbad,hbad'])))
    refine acallP_of (acallT_hand [1000000] (h4) (by simp) (by simp) (by simp) (by simp) (by simp) ?_)
    simp<;>(repeat' first|contradiction|exact .ok|apply And.intro|intro _|(refine gc (fun h=>?_) (fun h=>?_)<;>(have h':=h;(try simp at h');first|done|simp[h,h']|simp)))
    refine ⟨⟨d,sb,is,(ta,qs,na),js,r4⟩,⟨a3,by simp only; omega,hr3⟩,?_⟩
    exact sub_mk _ [(1000000,1000000,_),(2,2,_),(4,4,_)] ⟨by simp,by simp,by simp [renOf,Blk.live],base1⟩ (by simp [renOf])
  | true =>
    rw [if_pos rfl] at hr3
    have hlt:=lj rfl
    simp [hbad,hbad']<;>(repeat' first|contradiction|exact .ok|apply And.intro|intro _|(refine gc (fun h=>?_) (fun h=>?_)<;>(have h':=h;(try simp at h');first|done|simp[h,h',hbad,hbad']|simp[hbad,hbad'])))
    refine acallP_of (acallT_hand [1000000] (h4) (by simp) (by simp) (by simp) (by simp) (by simp) ?_)
    simp [hb]<;>(repeat' first|contradiction|exact .ok|apply And.intro|intro _|(refine gc (fun h=>?_) (fun h=>?_)<;>(have h':=h;(try simp at h');first|done|simp[h,h',hb]|simp[hb])))
    refine ⟨(js++[j],r4),⟨a4,by simp only; omega,by simp only [List.length_append,List.length_singleton]; omega,hr3⟩,?_,by simp only; omega⟩
    exact sub_mk _ [(1000000,1000000,_),(2,2,_),(4,4,_),(901,59,_)] ⟨by simp,by simp,by simp [renOf,Blk.live],base1⟩ (by simp [renOf])
end
structure ZC where
 y:ZB
 w:List Tm
 r:RS
structure ZD where
 y:ZB
 w:List Tm
 g:List Tm
 r:RS
noncomputable def corR1:Code:=(cutC 3 (cutC 5 corC).2).2
noncomputable def corR2:Code:=(cutC 1 corR1).2
noncomputable def corR3:Code:=(cutC 1 corR2).2
def GC (s:List UInt8) (y:ZC):St:={ s:=mkS [(0,.ptr 1000000 0 0),(2,.ptr 2 0 0),(4,.ptr 4 0 0)],b:=mkB [(1000000,1000000,rrB s y.r),(2,2,.var zSm),(4,4,.var (c3 y.y.d y.y.sb y.y.is y.y.so (.d (.sl (y.y.js.map Jo.c))) (.d (.sl (y.w.map Tm.c))) .nils))] }
def GD (s:List UInt8) (y:ZD):St:={ s:=mkS [(0,.ptr 1000000 0 0),(2,.ptr 2 0 0),(4,.ptr 4 0 0)],b:=mkB [(1000000,1000000,rrB s y.r),(2,2,.var zSm),(4,4,.var (c3 y.y.d y.y.sb y.y.is y.y.so (.d (.sl (y.y.js.map Jo.c))) (.d (.sl (y.w.map Tm.c))) (.d (.sl (y.g.map Tm.c)))))] }
section
variable {s:List UInt8} (hs:s.length≤5000) {L:Nat} {tm:RS→Tm×RS} {st:RS→Sm×RS}
include hs
theorem r_selC (ht:RuR s L 53 tm) {y:ZB} (ha:At (toks s) y.r.1) (hl:y.r.1.length≤L) {res:Sm×RS} (hres:restCR tm y.d y.sb y.is y.so y.js y.r=res) :
  acodeP Es corN 1 none (cutC 1 corR1).1 (GB s y) fun e a=>match e with
   | .normal=>∃ z:ZC,(At (toks s) z.r.1∧z.r.1.length≤y.r.1.length∧restDR tm z.y.d z.y.sb z.y.is z.y.so z.y.js z.w z.r=res)∧Sub Es corN 1 a (GC s z)
   | _=>False:=by
 obtain ⟨d,sb,is,so,js,r⟩:=y
 simp only at ha hl hres ⊢
 unfold restCR oneR at hres
 simp only [corR1,corC,corN,Tryz.f33,Option.getD_some,cutC_succ,cutC_zero,GB]
 simp<;>(repeat' first|contradiction|exact .ok|apply And.intro|intro _|(refine gc (fun h=>?_) (fun h=>?_)<;>(have h':=h;(try simp at h');first|done|simp[h,h']|simp)))
 cases hw:rIs wWhere r with
 | false =>
   rw [if_neg (by rw [hw]; exact Bool.false_ne_true)] at hres
   refine acallP_of (acallT_hand [1000000] (take_noR hs ha hw) (by simp) (by simp) (by simp) (by simp) (by simp) ?_)
   simp<;>(repeat' first|contradiction|exact .ok|apply And.intro|intro _|(refine gc (fun h=>?_) (fun h=>?_)<;>(have h':=h;(try simp at h');first|done|simp[h,h']|simp)))
   refine ⟨⟨⟨d,sb,is,so,js,r⟩,[],r⟩,⟨ha,Nat.le_refl _,hres⟩,?_⟩
   refine (sub_nilc 4 902 57 6 9 (cells:=c3 d sb is so (.d (.sl (js.map Jo.c))) .nils .nils) (by simp) rfl (by simp) (by decide) (by decide)).trans ?_
   exact sub_mk _ [(1000000,1000000,_),(2,2,_),(4,4,_)] ⟨by simp,by simp,by simp [renOf,Blk.live],base1⟩ (by simp [renOf])
 | true =>
   rw [if_pos hw] at hres
   have hlen:=is_lt hw
   have a1:=ha.kp (kp_is hw)
   have h1:=take_yesR hs ha hw
   generalize rNext r=r1 at *
   have h2:=ht.run r1 a1 (by omega)
   have a2:=a1.kp (ht.kp r1)
   have l2:=(ht.kp r1).len
   generalize tm r1=x at *
   obtain ⟨t,r2⟩:=x
   simp only at hres h2 a2 l2
   refine acallP_of (acallT_hand [1000000] (h1) (by simp) (by simp) (by simp) (by simp) (by simp) ?_)
   simp<;>(repeat' first|contradiction|exact .ok|apply And.intro|intro _|(refine gc (fun h=>?_) (fun h=>?_)<;>(have h':=h;(try simp at h');first|done|simp[h,h']|simp)))
   refine acallP_of (acallT_hand [1000000] (h2) (by simp) (by simp) (by simp) (by simp) (by simp) ?_)
   simp<;>(repeat' first|contradiction|exact .ok|apply And.intro|intro _|(refine gc (fun h=>?_) (fun h=>?_)<;>(have h':=h;(try simp at h');first|done|simp[h,h']|simp)))
   refine ⟨⟨⟨d,sb,is,so,js,r⟩,[t],r2⟩,⟨a2,by simp only; omega,hres⟩,?_⟩
   exact sub_mk _ [(1000000,1000000,_),(2,2,_),(4,4,_)] ⟨by simp,by simp,by simp [renOf,Blk.live],base1⟩ (by simp [renOf])
theorem r_selD (ht:RuR s L 53 tm) {y:ZC} (ha:At (toks s) y.r.1) (hl:y.r.1.length≤L) {res:Sm×RS} (hres:restDR tm y.y.d y.y.sb y.y.is y.y.so y.y.js y.w y.r=res) :
  acodeP Es corN 1 none (cutC 1 corR2).1 (GC s y) fun e a=>match e with
   | .normal=>∃ z:ZD,(At (toks s) z.r.1∧z.r.1.length≤y.r.1.length∧restER tm z.y.d z.y.sb z.y.is z.y.so z.y.js z.w z.g z.r=res)∧Sub Es corN 1 a (GD s z)
   | _=>False:=by
 obtain ⟨⟨d,sb,is,so,js,r0⟩,w,r⟩:=y
 simp only at ha hl hres ⊢
 have hTl:=toks_len s
 have hrl:=ha.sfx.length_le
 unfold restDR groupR at hres
 simp only [corR2,corR1,corC,corN,Tryz.f33,Option.getD_some,cutC_succ,cutC_zero,GC]
 simp<;>(repeat' first|contradiction|exact .ok|apply And.intro|intro _|(refine gc (fun h=>?_) (fun h=>?_)<;>(have h':=h;(try simp at h');first|done|simp[h,h']|simp)))
 cases hw:rIs wGroup r with
 | false =>
   rw [if_neg (by rw [hw]; exact Bool.false_ne_true)] at hres
   refine acallP_of (acallT_hand [1000000] (take_noR hs ha hw) (by simp) (by simp) (by simp) (by simp) (by simp) ?_)
   simp<;>(repeat' first|contradiction|exact .ok|apply And.intro|intro _|(refine gc (fun h=>?_) (fun h=>?_)<;>(have h':=h;(try simp at h');first|done|simp[h,h']|simp)))
   refine ⟨⟨⟨d,sb,is,so,js,r0⟩,w,[],r⟩,⟨ha,Nat.le_refl _,hres⟩,?_⟩
   refine (sub_nilc 4 902 57 6 10 (cells:=c3 d sb is so (.d (.sl (js.map Jo.c))) (.d (.sl (w.map Tm.c))) .nils) (by simp) rfl (by simp) (by decide) (by decide)).trans ?_
   exact sub_mk _ [(1000000,1000000,_),(2,2,_),(4,4,_)] ⟨by simp,by simp,by simp [renOf,Blk.live],base1⟩ (by simp [renOf])
 | true =>
   rw [if_pos hw] at hres
   simp only at hres
   have hlen:=is_lt hw
   have a1:=ha.kp (kp_is hw)
   have h1:=take_yesR hs ha hw
   generalize rNext r=r1 at *
   have w1:=r_want hs a1 wBy
   have a2:=a1.kp (kp_want wBy r1)
   have l2:=(kp_want wBy r1).len
   generalize rWant wBy r1=r2 at *
   have h3:=ht.run r2 a2 (by omega)
   have a3:=a2.kp (ht.kp r2)
   have l3:=(ht.kp r2).len
   generalize tm r2=x at *
   obtain ⟨t,r3⟩:=x
   simp only at hres h3 a3 l3
   refine acallP_of (acallT_hand [1000000] (h1) (by simp) (by simp) (by simp) (by simp) (by simp) ?_)
   simp<;>(repeat' first|contradiction|exact .ok|apply And.intro|intro _|(refine gc (fun h=>?_) (fun h=>?_)<;>(have h':=h;(try simp at h');first|done|simp[h,h']|simp)))
   refine acallP_of (acallT_hand [1000000] (w1) (by simp) (by simp) (by simp) (by simp) (by simp) ?_)
   simp<;>(repeat' first|contradiction|exact .ok|apply And.intro|intro _|(refine gc (fun h=>?_) (fun h=>?_)<;>(have h':=h;(try simp at h');first|done|simp[h,h']|simp)))
   refine acallP_of (acallT_hand [1000000] (h3) (by simp) (by simp) (by simp) (by simp) (by simp) ?_)
   simp<;>(repeat' first|contradiction|exact .ok|apply And.intro|intro _|(refine gc (fun h=>?_) (fun h=>?_)<;>(have h':=h;(try simp at h');first|done|simp[h,h']|simp)))
   refine aloopPT mixs (by decide) (fun y:List Tm×RS=>{ s:=mkS [(0,.ptr 1000000 0 0),(2,.ptr 2 0 0),(4,.ptr 4 0 0)],b:=mkB [(1000000,1000000,rrB s y.2),(2,2,.var zSm),(4,4,.var (c3 d sb is so (.d (.sl (js.map Jo.c))) (.d (.sl (w.map Tm.c))) (.ref 902 0 y.1.length 6))),(902,902,.arr 57 6 (y.1.map Tm.c) false)] })
    (fun y=>At (toks s) y.2.1∧y.2.1.length≤r.1.length∧y.1.length+y.2.1.length≤10001∧restER tm d sb is so js w (moCR tm y.1 y.2).1 (moCR tm y.1 y.2).2=res) (fun y=>y.2.1.length) ([t],r3) ⟨a3,by simp only; omega,by simp only [List.length_singleton]; omega,hres⟩
    (sub_mk _ [(1000000,1000000,_),(2,2,_),(4,4,_),(902,76,_)] ⟨by simp,by simp,by simp [renOf,Blk.live],base1⟩ (by simp [renOf])) ?_
   clear hres h3 a3 l3 w1 a2 l2 h1 a1 hlen
   rintro ⟨g,r4⟩ ⟨a4,l4,hk,hr4⟩
   simp only at a4 l4 hk hr4
   rw [moCR_eq ht.kp] at hr4
   have hb:(g.length+1)*80≤140737488355328∧g.length≤9223372036854775806:=by omega
   cases hc:rIs wComma r4 with
   | true =>
     have hlen:=is_lt hc
     have a5:=a4.kp (kp_is hc)
     rw [if_pos hc] at hr4
     have h5:=take_yesR hs a4 hc
     generalize rNext r4=r5 at *
     have h6:=ht.run r5 a5 (by omega)
     have a6:=a5.kp (ht.kp r5)
     have l6:=(ht.kp r5).len
     generalize tm r5=x at *
     obtain ⟨t6,r6⟩:=x
     simp only at hr4 h6 a6 l6
     simp<;>(repeat' first|contradiction|exact .ok|apply And.intro|intro _|(refine gc (fun h=>?_) (fun h=>?_)<;>(have h':=h;(try simp at h');first|done|simp[h,h']|simp)))
     refine acallP_of (acallT_hand [1000000] (h5) (by simp) (by simp) (by simp) (by simp) (by simp) ?_)
     simp<;>(repeat' first|contradiction|exact .ok|apply And.intro|intro _|(refine gc (fun h=>?_) (fun h=>?_)<;>(have h':=h;(try simp at h');first|done|simp[h,h']|simp)))
     refine acallP_of (acallT_hand [1000000] (h6) (by simp) (by simp) (by simp) (by simp) (by simp) ?_)
     simp [hb]<;>(repeat' first|contradiction|exact .ok|apply And.intro|intro _|(refine gc (fun h=>?_) (fun h=>?_)<;>(have h':=h;(try simp at h');first|done|simp[h,h',hb]|simp[hb])))
     refine ⟨(g++[t6],r6),⟨a6,by simp only; omega,by simp only [List.length_append,List.length_singleton]; omega,hr4⟩,?_,by simp only; omega⟩
     exact sub_mk _ [(1000000,1000000,_),(2,2,_),(4,4,_),(902,85,_)] ⟨by simp,by simp,by simp [renOf,Blk.live],base1⟩ (by simp [renOf])
   | false =>
     rw [if_neg (by rw [hc]; exact Bool.false_ne_true)] at hr4
     simp<;>(repeat' first|contradiction|exact .ok|apply And.intro|intro _|(refine gc (fun h=>?_) (fun h=>?_)<;>(have h':=h;(try simp at h');first|done|simp[h,h']|simp)))
     refine acallP_of (acallT_hand [1000000] (take_noR hs a4 hc) (by simp) (by simp) (by simp) (by simp) (by simp) ?_)
     simp<;>(repeat' first|contradiction|exact .ok|apply And.intro|intro _|(refine gc (fun h=>?_) (fun h=>?_)<;>(have h':=h;(try simp at h');first|done|simp[h,h']|simp)))
     refine ⟨⟨⟨d,sb,is,so,js,r0⟩,w,g,r4⟩,⟨a4,by simp only; omega,hr4⟩,?_⟩
     exact sub_mk _ [(1000000,1000000,_),(2,2,_),(4,4,_)] ⟨by simp,by simp,by simp [renOf,Blk.live],base1⟩ (by simp [renOf])
theorem r_selE (ht:RuR s L 53 tm) {y:ZD} (ha:At (toks s) y.r.1) (hl:y.r.1.length≤L) {res:Sm×RS} (hres:restER tm y.y.d y.y.sb y.y.is y.y.so y.y.js y.w y.g y.r=res) :
  acodeP Es corN 1 none corR3 (GD s y) fun e a=>match e with
   | .exit _=>False
   | _=>EndsO Es Tryz.f33 1 (.ret res.1.a [rrB s res.2]) a:=by
 obtain ⟨⟨d,sb,is,so,js,r0⟩,w,g,r⟩:=y
 simp only at ha hl hres ⊢
 unfold restER oneR at hres
 simp only [corR3,corR2,corR1,corC,corN,Tryz.f33,Option.getD_some,cutC_succ,cutC_zero,GD]
 simp<;>(repeat' first|contradiction|exact .ok|apply And.intro|intro _|(refine gc (fun h=>?_) (fun h=>?_)<;>(have h':=h;(try simp at h');first|done|simp[h,h']|simp)))
 cases hw:rIs wHaving r with
 | false =>
   rw [if_neg (by rw [hw]; exact Bool.false_ne_true)] at hres
   subst hres
   refine acallP_of (acallT_hand [1000000] (take_noR hs ha hw) (by simp) (by simp) (by simp) (by simp) (by simp) ?_)
   simp [Sm.c]<;>(repeat' first|contradiction|exact .ok|apply And.intro|intro _|(refine gc (fun h=>?_) (fun h=>?_)<;>(have h':=h;(try simp at h');first|done|simp[h,h',Sm.c]|simp[Sm.c])))
 | true =>
   rw [if_pos hw] at hres
   have hlen:=is_lt hw
   have a1:=ha.kp (kp_is hw)
   have h1:=take_yesR hs ha hw
   generalize rNext r=r1 at *
   have h2:=ht.run r1 a1 (by omega)
   generalize tm r1=x at *
   obtain ⟨t,r2⟩:=x
   simp only at hres h2
   subst hres
   refine acallP_of (acallT_hand [1000000] (h1) (by simp) (by simp) (by simp) (by simp) (by simp) ?_)
   simp<;>(repeat' first|contradiction|exact .ok|apply And.intro|intro _|(refine gc (fun h=>?_) (fun h=>?_)<;>(have h':=h;(try simp at h');first|done|simp[h,h']|simp)))
   refine acallP_of (acallT_hand [1000000] (h2) (by simp) (by simp) (by simp) (by simp) (by simp) ?_)
   simp [Sm.c]<;>(repeat' first|contradiction|exact .ok|apply And.intro|intro _|(refine gc (fun h=>?_) (fun h=>?_)<;>(have h':=h;(try simp at h');first|done|simp[h,h',Sm.c]|simp[Sm.c])))
theorem r_core {r:RS} (ht:RuR s (L+1) 53 tm) (hso:RuX So.a s (L+1) 51 (sourceR st)) (hst:RuX Sm.a s L 16 st) (ha:At (toks s) r.1) (hl:r.1.length≤L+1) :
  Cf Es 33 [.ptr 1000000 0 0] [rrB s r] (coreR tm st r).1.a [rrB s (coreR tm st r).2]:=by
 cases hw:rIs wOpen r with
 | true =>
   generalize hres:coreR tm st r=res
   unfold coreR at hres
   rw [if_pos hw] at hres
   have hlen:=is_lt hw
   have a1:=ha.kp (kp_is hw)
   have h1:=take_yesR hs ha hw
   generalize rNext r=r1 at *
   have h2:=hst.run r1 a1 (by omega)
   have a2:=a1.kp (hst.kp r1)
   generalize st r1=x at *
   obtain ⟨x,r2⟩:=x
   simp only at hres h2 a2
   have w3:=r_want hs a2 wShut
   refine cf_intro mixs (fn:=Tryz.f33) (by kernel_rfl) rfl (by kernel_rfl) (by decide) (by simp) ?_
   subst hres
   simp<;>(repeat' first|contradiction|exact .ok|apply And.intro|intro _|(refine gc (fun h=>?_) (fun h=>?_)<;>(have h':=h;(try simp at h');first|done|simp[h,h']|simp)))
   refine acallT_hand [1000000] (h1) (by simp) (by simp) (by simp) (by simp) (by simp) ?_
   simp<;>(repeat' first|contradiction|exact .ok|apply And.intro|intro _|(refine gc (fun h=>?_) (fun h=>?_)<;>(have h':=h;(try simp at h');first|done|simp[h,h']|simp)))
   refine acallT_hand [1000000] (h2) (by simp) (by simp) (by simp) (by simp) (by simp) ?_
   simp<;>(repeat' first|contradiction|exact .ok|apply And.intro|intro _|(refine gc (fun h=>?_) (fun h=>?_)<;>(have h':=h;(try simp at h');first|done|simp[h,h']|simp)))
   refine acallT_hand [1000000] (w3) (by simp) (by simp) (by simp) (by simp) (by simp) ?_
   simp<;>(repeat' first|contradiction|exact .ok|apply And.intro|intro _|(refine gc (fun h=>?_) (fun h=>?_)<;>(have h':=h;(try simp at h');first|done|simp[h,h']|simp)))
 | false =>
   have e:coreR tm st r=selR tm st r:=by unfold coreR; rw [if_neg (by rw [hw]; exact Bool.false_ne_true)]
   rw [e]
   generalize hres:selR tm st r=res
   have hi:RuX It.a s (L+1) 50 (itemR tm):=⟨fun r' ha' hl'=>r_item hs ht ha' hl',kp_item ht.kp⟩
   refine cfO_introW mixs (fn:=Tryz.f33) (c:=corC) (by kernel_rfl) rfl (by kernel_rfl) (by decide) (.ret res.1.a [rrB s res.2]) (by simp) (by simp) ?_
   refine cut_mid mixs (by decide) (GA s) (fun y=>At (toks s) y.r.1∧y.r.1.length≤r.1.length∧restAR tm st y.d y.sb y.is y.r=res) 5 (r_selA hs hi ht.kp ha hl hw hres) fun y hy=>?_
   refine cut_mid mixs (by decide) (GB s) (fun z=>At (toks s) z.r.1∧z.r.1.length≤y.r.1.length∧restCR tm z.d z.sb z.is z.so z.js z.r=res) 3 (r_selB hs hso ht.kp hst.kp (fun r' ha' hl'=>r_join hs ht hso ha' hl') hy.1 (by omega) hy.2.2) fun z hz=>?_
   refine cut_mid mixs (by decide) (GC s) (fun z'=>At (toks s) z'.r.1∧z'.r.1.length≤z.r.1.length∧restDR tm z'.y.d z'.y.sb z'.y.is z'.y.so z'.y.js z'.w z'.r=res) 1 (r_selC hs ht hz.1 (by omega) hz.2.2) fun u hu=>?_
   refine cut_mid mixs (by decide) (GD s) (fun z'=>At (toks s) z'.r.1∧z'.r.1.length≤u.r.1.length∧restER tm z'.y.d z'.y.sb z'.y.is z'.y.so z'.y.js z'.w z'.g z'.r=res) 1 (r_selD hs ht hu.1 (by omega) hu.2.2) fun v hv=>?_
   exact acodeP_sound mixs (by decide) _ _ _ (r_selE hs ht hv.1 (by omega) hv.2.2)
end
end Go.Proofs.Tryz
