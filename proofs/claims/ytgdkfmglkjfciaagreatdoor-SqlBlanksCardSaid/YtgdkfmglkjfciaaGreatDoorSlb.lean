import Derived.Test.YtgdkfmglkjfciaaGreatDoorSla
set_option linter.all false
namespace Go.Proofs.Tryz
open Go.Ab
set_option maxRecDepth 100000
set_option maxHeartbeats 16000000
structure YB where
 d:Bool
 sb:Bool
 is:List It
 so:So
 js:List Jo
 l:List Tk
@[simp] def c3 (d sb:Bool) (is:List It) (so:So) (joins w g:AV):List AV:=[.d (.int .i64 1),.d (.bool false),.d (.bool d),.d (.bool sb),.d (.sl (is.map It.c)),.d (.str so.1),.d (.sl (so.2.1.map Sm.c)),.d (.str so.2.2),joins,w,g,.nils,.nils]
def FB (T:List Tk) (y:YB):St:={ s:=mkS [(0,.ptr 1000000 0 0),(2,.ptr 2 0 0),(3,.ptr 3 0 0)],b:=mkB [(1000000,1000000,rdB T y.l),(2,2,.var zSm),(3,3,.var (c3 y.d y.sb y.is y.so (.d (.sl (y.js.map Jo.c))) .nils .nils))] }
@[simp] theorem takeJ (t:Jo) (l:List D):List.take 5 (t.c++l)=t.c:=by rw [List.take_append_of_le_length (by rw [Jo.clen]; omega)]; exact List.take_of_length_le (by rw [Jo.clen]; omega)
attribute [simp] Jo.clen
theorem exp_lt {w:List UInt8} {l m:List Tk} (h:expS [w] l=.ok m):m.length<l.length:=by
 cases hw:isW w l with
 | false =>
   have e:expS [w] l=.error (posT l):=by rw [expS,hw,if_neg (by simp)]
   rw [e] at h; cases h
 | true =>
   have hlen:=isW_len hw
   have e:expS [w] l=.ok l.tail:=by rw [expS,hw,if_pos rfl]; rfl
   rw [e] at h
   cases h
   omega
section
variable {fD:Nat→D} {T:List Tk} {L:Nat} {tm:List Tk→Res Tm} {st:List Tk→Res Sm}
theorem p_selB (hF:FailOk fD) (ht:Rule Es fD T L 62 tm) (hs:RuleX So.a Es fD T L 64 (sourceS st)) (hSs:∀ l,SfxOk (st l) l) (hT:T.length≤10000) {y:YA} (ha:At T y.l) (hl:y.l.length≤L) {o:Out} (ho:outX Sm.a fD T (restA tm st y.d y.sb y.is y.l)=o) :
  acodeP Es selN 1 o.po (cutC 3 (cutC 5 selC).2).1 (FA T y) fun e s=>match e with
   | .normal=>∃ z:YB,(At T z.l∧z.l.length≤y.l.length∧outX Sm.a fD T (restC tm z.d z.sb z.is z.so z.js z.l)=o)∧Sub Es selN 1 s (FB T z)
   | _=>False:=by
 obtain ⟨d,sb,is,l⟩:=y
 simp only at ha hl ho ⊢
 unfold restA at ho
 simp only [selC,selN,Tryz.f42,Option.getD_some,cutC_succ,cutC_zero,FA]
 simp<;>(repeat' first|contradiction|exact .ok|apply And.intro|intro _|(refine gc (fun h=>?_) (fun h=>?_)<;>(have h':=h;(try simp at h');first|done|simp[h,h']|simp)))
 rcases exp_step hF ha hT [wFrom] (by decide) with ⟨e,he,hc⟩ | ⟨l1,he,h1,hl1,hc⟩
 ·rw [he] at ho
  subst ho
  exact acallP_pan [1000000] (hc) (by simp) (by simp) (by simp) (by simp) (by kernel_rfl)
 rw [he,bind1_ok] at ho
 refine acallP_of (acallT_hand [1000000] (hc) (by simp) (by simp) (by simp) (by simp) (by simp) ?_)
 simp<;>(repeat' first|contradiction|exact .ok|apply And.intro|intro _|(refine gc (fun h=>?_) (fun h=>?_)<;>(have h':=h;(try simp at h');first|done|simp[h,h']|simp)))
 rcases hs.step h1 (by omega) with ⟨e,he2,hc2⟩ | ⟨so,l2,he2,h2,hl2,hc2⟩
 ·rw [he2,bind2_err] at ho
  subst ho
  exact acallP_pan [1000000] (hc2) (by simp) (by simp) (by simp) (by simp) (by kernel_rfl)
 rw [he2,bind2_ok] at ho
 obtain ⟨ta,qs,na⟩:=so
 simp only [So.a,soA,soC,smsC_map] at hc2
 refine acallP_of (acallT_hand [1000000] (hc2) (by simp) (by simp) (by simp) (by simp) (by simp) ?_)
 simp<;>(repeat' first|contradiction|exact .ok|apply And.intro|intro _|(refine gc (fun h=>?_) (fun h=>?_)<;>(have h':=h;(try simp at h');first|done|simp[h,h']|simp)))
 unfold restB at ho
 have hTl:=ha.sfx.length_le
 refine aloopPT mixs (by decide) (fun y:List Jo×List Tk=>{ s:=mkS [(0,.ptr 1000000 0 0),(2,.ptr 2 0 0),(3,.ptr 3 0 0)],b:=mkB [(1000000,1000000,rdB T y.2),(2,2,.var zSm),(3,3,.var (c3 d sb is (ta,qs,na) (.ref 901 0 y.1.length 5) .nils .nils)),(901,901,.arr 62 5 (y.1.map Jo.c) false)] })
  (fun y=>At T y.2∧y.2.length≤l.length∧y.1.length+y.2.length≤10000∧outX Sm.a fD T (bind2 (joC tm st y.1 y.2) fun js l5=>restC tm d sb is (ta,qs,na) js l5)=o) (fun y=>y.2.length) ([],l2) ⟨h2,by simp only; omega,by simp only [List.length_nil]; omega,ho⟩
  ((sub_nilc 3 901 62 5 8 (cells:=c3 d sb is (ta,qs,na) .nils .nils .nils) (by simp) rfl (by simp) (by decide) (by decide)).trans (sub_mk _ [(1000000,1000000,_),(2,2,_),(3,3,_),(901,901,_)] ⟨by simp,by simp,by simp [renOf,Blk.live],base1⟩ (by simp [renOf]))) ?_
 rintro ⟨js,l3⟩ ⟨h3,hl3,hk,ho3⟩
 simp only at h3 hl3 hk ho3
 rw [joC_eq ht.sfx hSs] at ho3
 have hb:(js.length+1)*88≤140737488355328∧js.length≤9223372036854775806:=by omega
 simp<;>(repeat' first|contradiction|exact .ok|apply And.intro|intro _|(refine gc (fun h=>?_) (fun h=>?_)<;>(have h':=h;(try simp at h');first|done|simp[h,h']|simp)))
 cases hi:oneOf joiW l3 with
 | some i =>
   rw [hi] at ho3
   simp only at ho3
   have hlen:=one_len hi
   have hil:i<7:=by
    unfold oneOf at hi
    exact (List.findIdx?_eq_some_iff_getElem.1 hi).1
   have hwr:=wrap_in (n:=(i:Int)+1) (by omega) (by omega)
   have hne:((i:Int)+1==0)=false:=by rw [beq_eq_false_iff_ne]; omega
   have hnl:¬ (i:Int)+1<1:=by omega
   have hj:=h3.tl1 hi
   refine acallP_of (acallT_hand [1000000] (one_yes h3 hT (by decide) hi) (by simp) (by simp) (by simp) (by simp) (by simp) ?_)
   simp [hwr,hne]<;>(repeat' first|contradiction|exact .ok|apply And.intro|intro _|(refine gc (fun h=>?_) (fun h=>?_)<;>(have h':=h;(try simp at h');first|done|simp[h,h',hwr,hne]|simp[hwr,hne])))
   unfold joinS at ho3
   rcases exp_step hF hj hT [wJoin] (by decide) with ⟨e,he4,hc4⟩ | ⟨l4,he4,h4,hl4,hc4⟩
   ·rw [he4,bind1_err,bind2_err] at ho3
    subst ho3
    exact acallP_pan [1000000] (hc4) (by simp) (by simp) (by simp) (by simp) (by kernel_rfl)
   have hlj:=exp_lt he4
   rw [he4,bind1_ok] at ho3
   refine acallP_of (acallT_hand [1000000] (hc4) (by simp) (by simp) (by simp) (by simp) (by simp) ?_)
   simp [hwr,hne,hnl]<;>(repeat' first|contradiction|exact .ok|apply And.intro|intro _|(refine gc (fun h=>?_) (fun h=>?_)<;>(have h':=h;(try simp at h');first|done|simp[h,h',hwr,hne,hnl]|simp[hwr,hne,hnl])))
   rcases hs.step h4 (by omega) with ⟨e,he5,hc5⟩ | ⟨⟨ta5,qs5,na5⟩,l5,he5,h5,hl5,hc5⟩
   ·rw [he5,bind2_err,bind2_err] at ho3
    subst ho3
    exact acallP_pan [1000000] (hc5) (by simp) (by simp) (by simp) (by simp) (by kernel_rfl)
   rw [he5,bind2_ok] at ho3
   simp only [So.a,soA,soC,smsC_map] at hc5
   refine acallP_of (acallT_hand [1000000] (hc5) (by simp) (by simp) (by simp) (by simp) (by simp) ?_)
   by_cases h6:i=6
   ·have hgt:(6:Int)<(i:Int)+1:=by omega
    rw [if_pos (by omega),bind2_ok] at ho3
    simp [hwr,hne,hnl,hgt,hb]<;>(repeat' first|contradiction|exact .ok|apply And.intro|intro _|(refine gc (fun h=>?_) (fun h=>?_)<;>(have h':=h;(try simp at h');first|done|simp[h,h',hwr,hne,hnl,hgt,hb]|simp[hwr,hne,hnl,hgt,hb])))
    refine ⟨(js++[.mk 0 ta5 qs5 na5 []],l5),⟨h5,by simp only; omega,by simp only [List.length_append,List.length_singleton]; omega,ho3⟩,?_,by simp only; omega⟩
    exact sub_mk _ [(1000000,1000000,_),(2,2,_),(3,3,_),(901,78,_)] ⟨by simp,by simp,by simp [renOf,Blk.live,Jo.c],base1⟩ (by simp [renOf])
   ·have hgt:¬ (6:Int)<(i:Int)+1:=by omega
    have hmx:((max (i+1) 1:Nat):Int)=(i:Int)+1:=by omega
    simp [hwr,hne,hnl,hgt]<;>(repeat' first|contradiction|exact .ok|apply And.intro|intro _|(refine gc (fun h=>?_) (fun h=>?_)<;>(have h':=h;(try simp at h');first|done|simp[h,h',hwr,hne,hnl,hgt]|simp[hwr,hne,hnl,hgt])))
    rw [if_neg (by omega)] at ho3
    rw [hmx] at ho3
    rcases exp_step hF h5 hT [wOn] (by decide) with ⟨e,he6,hc6⟩ | ⟨l6,he6,h6,hl6,hc6⟩
    ·rw [he6,bind1_err,bind2_err] at ho3
     subst ho3
     exact acallP_pan [1000000] (hc6) (by simp) (by simp) (by simp) (by simp) (by kernel_rfl)
    rw [he6,bind1_ok] at ho3
    refine acallP_of (acallT_hand [1000000] (hc6) (by simp) (by simp) (by simp) (by simp) (by simp) ?_)
    simp<;>(repeat' first|contradiction|exact .ok|apply And.intro|intro _|(refine gc (fun h=>?_) (fun h=>?_)<;>(have h':=h;(try simp at h');first|done|simp[h,h']|simp)))
    rcases ht.step h6 (by omega) with ⟨e,he7,hc7⟩ | ⟨t,l7,he7,h7,hl7,hc7⟩
    ·rw [he7,bind2_err,bind2_err] at ho3
     subst ho3
     exact acallP_pan [1000000] (hc7) (by simp) (by simp) (by simp) (by simp) (by kernel_rfl)
    rw [he7,bind2_ok,bind2_ok] at ho3
    refine acallP_of (acallT_hand [1000000] (hc7) (by simp) (by simp) (by simp) (by simp) (by simp) ?_)
    simp [hb]<;>(repeat' first|contradiction|exact .ok|apply And.intro|intro _|(refine gc (fun h=>?_) (fun h=>?_)<;>(have h':=h;(try simp at h');first|done|simp[h,h',hb]|simp[hb])))
    refine ⟨(js++[.mk ((i:Int)+1) ta5 qs5 na5 [t]],l7),⟨h7,by simp only; omega,by simp only [List.length_append,List.length_singleton]; omega,ho3⟩,?_,by simp only; omega⟩
    exact sub_mk _ [(1000000,1000000,_),(2,2,_),(3,3,_),(901,78,_)] ⟨by simp,by simp,by simp [renOf,Blk.live,Jo.c],base1⟩ (by simp [renOf])
 | none =>
   rw [hi] at ho3
   simp only at ho3
   have hw0:IntKind.i64.wrap 0=0:=by decide
   refine acallP_of (acallT_hand [1000000] (one_no h3 hT (by decide) hi) (by simp) (by simp) (by simp) (by simp) (by simp) ?_)
   simp [hw0]<;>(repeat' first|contradiction|exact .ok|apply And.intro|intro _|(refine gc (fun h=>?_) (fun h=>?_)<;>(have h':=h;(try simp at h');first|done|simp[h,h',hw0]|simp[hw0])))
   cases hw:isW wJoin l3 with
   | false =>
     rw [hw,if_neg (by simp),bind2_ok] at ho3
     have his:=ups (p_is h3.sfx h3.ne hT wJoin)
     rw [hw] at his
     refine acallP_of (acallT_hand [1000000] (his) (by simp) (by simp) (by simp) (by simp) (by simp) ?_)
     simp<;>(repeat' first|contradiction|exact .ok|apply And.intro|intro _|(refine gc (fun h=>?_) (fun h=>?_)<;>(have h':=h;(try simp at h');first|done|simp[h,h']|simp)))
     all_goals
      refine ⟨⟨d,sb,is,(ta,qs,na),js,l3⟩,⟨h3,by simp only; omega,ho3⟩,?_⟩
      exact sub_mk _ [(1000000,1000000,_),(2,2,_),(3,3,_)] ⟨by simp,by simp,by simp [renOf,Blk.live],base1⟩ (by simp [renOf])
   | true =>
     rw [hw,if_pos rfl] at ho3
     have hlen:=isW_len hw
     have his:=ups (p_is h3.sfx h3.ne hT wJoin)
     rw [hw] at his
     have hj:=h3
     refine acallP_of (acallT_hand [1000000] (his) (by simp) (by simp) (by simp) (by simp) (by simp) ?_)
     simp<;>(repeat' first|contradiction|exact .ok|apply And.intro|intro _|(refine gc (fun h=>?_) (fun h=>?_)<;>(have h':=h;(try simp at h');first|done|simp[h,h']|simp)))
     unfold joinS at ho3
     rcases exp_step hF hj hT [wJoin] (by decide) with ⟨e,he4,hc4⟩ | ⟨l4,he4,h4,hl4,hc4⟩
     ·rw [he4,bind1_err,bind2_err] at ho3
      subst ho3
      exact acallP_pan [1000000] (hc4) (by simp) (by simp) (by simp) (by simp) (by kernel_rfl)
     have hlj:=exp_lt he4
     rw [he4,bind1_ok] at ho3
     refine acallP_of (acallT_hand [1000000] (hc4) (by simp) (by simp) (by simp) (by simp) (by simp) ?_)
     simp<;>(repeat' first|contradiction|exact .ok|apply And.intro|intro _|(refine gc (fun h=>?_) (fun h=>?_)<;>(have h':=h;(try simp at h');first|done|simp[h,h']|simp)))
     rcases hs.step h4 (by omega) with ⟨e,he5,hc5⟩ | ⟨⟨ta5,qs5,na5⟩,l5,he5,h5,hl5,hc5⟩
     ·rw [he5,bind2_err,bind2_err] at ho3
      subst ho3
      exact acallP_pan [1000000] (hc5) (by simp) (by simp) (by simp) (by simp) (by kernel_rfl)
     rw [he5,bind2_ok] at ho3
     simp only [So.a,soA,soC,smsC_map] at hc5
     refine acallP_of (acallT_hand [1000000] (hc5) (by simp) (by simp) (by simp) (by simp) (by simp) ?_)
     simp<;>(repeat' first|contradiction|exact .ok|apply And.intro|intro _|(refine gc (fun h=>?_) (fun h=>?_)<;>(have h':=h;(try simp at h');first|done|simp[h,h']|simp)))
     rw [if_neg (by omega)] at ho3
     rcases exp_step hF h5 hT [wOn] (by decide) with ⟨e,he6,hc6⟩ | ⟨l6,he6,h6,hl6,hc6⟩
     ·rw [he6,bind1_err,bind2_err] at ho3
      subst ho3
      exact acallP_pan [1000000] (hc6) (by simp) (by simp) (by simp) (by simp) (by kernel_rfl)
     rw [he6,bind1_ok] at ho3
     refine acallP_of (acallT_hand [1000000] (hc6) (by simp) (by simp) (by simp) (by simp) (by simp) ?_)
     simp<;>(repeat' first|contradiction|exact .ok|apply And.intro|intro _|(refine gc (fun h=>?_) (fun h=>?_)<;>(have h':=h;(try simp at h');first|done|simp[h,h']|simp)))
     rcases ht.step h6 (by omega) with ⟨e,he7,hc7⟩ | ⟨t,l7,he7,h7,hl7,hc7⟩
     ·rw [he7,bind2_err,bind2_err] at ho3
      subst ho3
      exact acallP_pan [1000000] (hc7) (by simp) (by simp) (by simp) (by simp) (by kernel_rfl)
     rw [he7,bind2_ok,bind2_ok] at ho3
     refine acallP_of (acallT_hand [1000000] (hc7) (by simp) (by simp) (by simp) (by simp) (by simp) ?_)
     simp [hb]<;>(repeat' first|contradiction|exact .ok|apply And.intro|intro _|(refine gc (fun h=>?_) (fun h=>?_)<;>(have h':=h;(try simp at h');first|done|simp[h,h',hb]|simp[hb])))
     refine ⟨(js++[.mk 1 ta5 qs5 na5 [t]],l7),⟨h7,by simp only; omega,by simp only [List.length_append,List.length_singleton]; omega,ho3⟩,?_,by simp only; omega⟩
     exact sub_mk _ [(1000000,1000000,_),(2,2,_),(3,3,_),(901,78,_)] ⟨by simp,by simp,by simp [renOf,Blk.live,Jo.c],base1⟩ (by simp [renOf])
end
end Go.Proofs.Tryz
