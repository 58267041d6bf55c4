import Derived.Test.YtgdkfmglkjfciaaGreatDoorSlb
set_option linter.all false
namespace Go.Proofs.Tryz
open Go.Ab
set_option maxRecDepth 100000
set_option maxHeartbeats 16000000
structure YC where
 y:YB
 w:List Tm
 l:List Tk
structure YD where
 y:YB
 w:List Tm
 g:List Tm
 l:List Tk
noncomputable def selR1:Code:=(cutC 3 (cutC 5 selC).2).2
noncomputable def selR2:Code:=(cutC 1 selR1).2
noncomputable def selR3:Code:=(cutC 1 selR2).2
def FC (T:List Tk) (y:YC):St:={ s:=mkS [(0,.ptr 1000000 0 0),(2,.ptr 2 0 0),(3,.ptr 3 0 0)],b:=mkB [(1000000,1000000,rdB T y.l),(2,2,.var zSm),(3,3,.var (c3 y.y.d y.y.sb y.y.is y.y.so (.d (.sl (y.y.js.map Jo.c))) (.d (.sl (y.w.map Tm.c))) .nils))] }
def FD (T:List Tk) (y:YD):St:={ s:=mkS [(0,.ptr 1000000 0 0),(2,.ptr 2 0 0),(3,.ptr 3 0 0)],b:=mkB [(1000000,1000000,rdB T y.l),(2,2,.var zSm),(3,3,.var (c3 y.y.d y.y.sb y.y.is y.y.so (.d (.sl (y.y.js.map Jo.c))) (.d (.sl (y.w.map Tm.c))) (.d (.sl (y.g.map Tm.c)))))] }
section
variable {fD:Nat→D} {T:List Tk} {L:Nat} {tm:List Tk→Res Tm}
theorem p_selC (ht:Rule Es fD T L 62 tm) (hT:T.length≤10000) {y:YB} (ha:At T y.l) (hl:y.l.length≤L) {o:Out} (ho:outX Sm.a fD T (restC tm y.d y.sb y.is y.so y.js y.l)=o) :
  acodeP Es selN 1 o.po (cutC 1 selR1).1 (FB T y) fun e s=>match e with
   | .normal=>∃ z:YC,(At T z.l∧z.l.length≤y.l.length∧outX Sm.a fD T (restD tm z.y.d z.y.sb z.y.is z.y.so z.y.js z.w z.l)=o)∧Sub Es selN 1 s (FC T z)
   | _=>False:=by
 obtain ⟨d,sb,is,so,js,l⟩:=y
 simp only at ha hl ho ⊢
 unfold restC oneS at ho
 simp only [selR1,selC,selN,Tryz.f42,Option.getD_some,cutC_succ,cutC_zero,FB]
 simp<;>(repeat' first|contradiction|exact .ok|apply And.intro|intro _|(refine gc (fun h=>?_) (fun h=>?_)<;>(have h':=h;(try simp at h');first|done|simp[h,h']|simp)))
 cases hw:isW wWhere l with
 | false =>
   rw [hw,if_neg (by simp),bind2_ok] at ho
   refine acallP_of (acallT_hand [1000000] (take_no ha hT hw) (by simp) (by simp) (by simp) (by simp) (by simp) ?_)
   simp<;>(repeat' first|contradiction|exact .ok|apply And.intro|intro _|(refine gc (fun h=>?_) (fun h=>?_)<;>(have h':=h;(try simp at h');first|done|simp[h,h']|simp)))
   refine ⟨⟨⟨d,sb,is,so,js,l⟩,[],l⟩,⟨ha,Nat.le_refl _,ho⟩,?_⟩
   refine (sub_nilc 3 902 57 6 9 (cells:=c3 d sb is so (.d (.sl (js.map Jo.c))) .nils .nils) (by simp) rfl (by simp) (by decide) (by decide)).trans ?_
   exact sub_mk _ [(1000000,1000000,_),(2,2,_),(3,3,_)] ⟨by simp,by simp,by simp [renOf,Blk.live],base1⟩ (by simp [renOf])
 | true =>
   rw [hw,if_pos rfl] at ho
   have hlen:=isW_len hw
   refine acallP_of (acallT_hand [1000000] (take_yes ha hT hw) (by simp) (by simp) (by simp) (by simp) (by simp) ?_)
   simp<;>(repeat' first|contradiction|exact .ok|apply And.intro|intro _|(refine gc (fun h=>?_) (fun h=>?_)<;>(have h':=h;(try simp at h');first|done|simp[h,h']|simp)))
   rcases ht.step (ha.tl hw) (by omega) with ⟨e,he2,hc2⟩ | ⟨t,l2,he2,h2,hl2,hc2⟩
   ·rw [he2,bind2_err,bind2_err] at ho
    subst ho
    exact acallP_pan [1000000] (hc2) (by simp) (by simp) (by simp) (by simp) (by kernel_rfl)
   rw [he2,bind2_ok,bind2_ok] at ho
   refine acallP_of (acallT_hand [1000000] (hc2) (by simp) (by simp) (by simp) (by simp) (by simp) ?_)
   simp<;>(repeat' first|contradiction|exact .ok|apply And.intro|intro _|(refine gc (fun h=>?_) (fun h=>?_)<;>(have h':=h;(try simp at h');first|done|simp[h,h']|simp)))
   refine ⟨⟨⟨d,sb,is,so,js,l⟩,[t],l2⟩,⟨h2,by simp only; omega,ho⟩,?_⟩
   exact sub_mk _ [(1000000,1000000,_),(2,2,_),(3,3,_)] ⟨by simp,by simp,by simp [renOf,Blk.live],base1⟩ (by simp [renOf])
theorem p_selD (hF:FailOk fD) (ht:Rule Es fD T L 62 tm) (hT:T.length≤10000) {y:YC} (ha:At T y.l) (hl:y.l.length≤L) {o:Out} (ho:outX Sm.a fD T (restD tm y.y.d y.y.sb y.y.is y.y.so y.y.js y.w y.l)=o) :
  acodeP Es selN 1 o.po (cutC 1 selR2).1 (FC T y) fun e s=>match e with
   | .normal=>∃ z:YD,(At T z.l∧z.l.length≤y.l.length∧outX Sm.a fD T (restE tm z.y.d z.y.sb z.y.is z.y.so z.y.js z.w z.g z.l)=o)∧Sub Es selN 1 s (FD T z)
   | _=>False:=by
 obtain ⟨⟨d,sb,is,so,js,l0⟩,w,l⟩:=y
 simp only at ha hl ho ⊢
 unfold restD groupS at ho
 simp only [selR2,selR1,selC,selN,Tryz.f42,Option.getD_some,cutC_succ,cutC_zero,FC]
 simp<;>(repeat' first|contradiction|exact .ok|apply And.intro|intro _|(refine gc (fun h=>?_) (fun h=>?_)<;>(have h':=h;(try simp at h');first|done|simp[h,h']|simp)))
 cases hw:isW wGroup l with
 | false =>
   rw [hw,if_neg (by simp),bind2_ok] at ho
   refine acallP_of (acallT_hand [1000000] (take_no ha hT hw) (by simp) (by simp) (by simp) (by simp) (by simp) ?_)
   simp<;>(repeat' first|contradiction|exact .ok|apply And.intro|intro _|(refine gc (fun h=>?_) (fun h=>?_)<;>(have h':=h;(try simp at h');first|done|simp[h,h']|simp)))
   refine ⟨⟨⟨d,sb,is,so,js,l0⟩,w,[],l⟩,⟨ha,Nat.le_refl _,ho⟩,?_⟩
   refine (sub_nilc 3 902 57 6 10 (cells:=c3 d sb is so (.d (.sl (js.map Jo.c))) (.d (.sl (w.map Tm.c))) .nils) (by simp) rfl (by simp) (by decide) (by decide)).trans ?_
   exact sub_mk _ [(1000000,1000000,_),(2,2,_),(3,3,_)] ⟨by simp,by simp,by simp [renOf,Blk.live],base1⟩ (by simp [renOf])
 | true =>
   rw [hw,if_pos rfl] at ho
   have hlen:=isW_len hw
   have hTl:=ha.sfx.length_le
   refine acallP_of (acallT_hand [1000000] (take_yes ha hT hw) (by simp) (by simp) (by simp) (by simp) (by simp) ?_)
   simp<;>(repeat' first|contradiction|exact .ok|apply And.intro|intro _|(refine gc (fun h=>?_) (fun h=>?_)<;>(have h':=h;(try simp at h');first|done|simp[h,h']|simp)))
   rcases exp_step hF (ha.tl hw) hT [wBy] (by decide) with ⟨e,he,hc⟩ | ⟨l1,he,h1,hl1,hc⟩
   ·rw [he] at ho
    subst ho
    exact acallP_pan [1000000] (hc) (by simp) (by simp) (by simp) (by simp) (by kernel_rfl)
   rw [he,bind1_ok,bind22] at ho
   refine acallP_of (acallT_hand [1000000] (hc) (by simp) (by simp) (by simp) (by simp) (by simp) ?_)
   simp<;>(repeat' first|contradiction|exact .ok|apply And.intro|intro _|(refine gc (fun h=>?_) (fun h=>?_)<;>(have h':=h;(try simp at h');first|done|simp[h,h']|simp)))
   refine aloopPT mixs (by decide) (fun y:Bool×List Tm×List Tk=>{ s:=mkS [(0,.ptr 1000000 0 0),(2,.ptr 2 0 0),(3,.ptr 3 0 0),(8,.d (.bool y.1))],b:=mkB [(1000000,1000000,rdB T y.2.2),(2,2,.var zSm),(3,3,.var (c3 d sb is so (.d (.sl (js.map Jo.c))) (.d (.sl (w.map Tm.c))) (.ref 902 0 y.2.1.length 6))),(902,902,.arr 57 6 (y.2.1.map Tm.c) false)] })
    (fun y=>At T y.2.2∧y.2.2.length≤l1.length∧y.2.1.length+y.2.2.length+(if y.1=true then 1 else 0)≤10001∧outX Sm.a fD T (if y.1=true then bind2 (tm y.2.2) fun i l'=>bind2 (moC tm (y.2.1++[i]) l') fun g l3=>restE tm d sb is so js w g l3 else restE tm d sb is so js w y.2.1 y.2.2)=o) (fun y=>y.2.2.length+if y.1=true then 1 else 0) (true,[],l1) ⟨h1,Nat.le_refl _,by simp only [List.length_nil,if_true]; omega,ho⟩
    ((sub_nilc 3 902 57 6 10 (cells:=c3 d sb is so (.d (.sl (js.map Jo.c))) (.d (.sl (w.map Tm.c))) .nils) (by simp) rfl (by simp) (by decide) (by decide)).trans (sub_mk _ [(1000000,1000000,_),(2,2,_),(3,3,_),(902,902,_)] ⟨by simp,by simp,by simp [renOf,Blk.live],base1⟩ (by simp [renOf]))) ?_
   rintro ⟨more,g,l3⟩ ⟨h3,hl3,hk,ho3⟩
   simp only at h3 hl3 hk ho3
   cases more with
   | false =>
     rw [if_neg (by simp)] at ho3 hk
     simp<;>(repeat' first|contradiction|exact .ok|apply And.intro|intro _|(refine gc (fun h=>?_) (fun h=>?_)<;>(have h':=h;(try simp at h');first|done|simp[h,h']|simp)))
     refine ⟨⟨⟨d,sb,is,so,js,l0⟩,w,g,l3⟩,⟨h3,by simp only; omega,ho3⟩,?_⟩
     exact sub_mk _ [(1000000,1000000,_),(2,2,_),(3,3,_)] ⟨by simp,by simp,by simp [renOf,Blk.live],base1⟩ (by simp [renOf])
   | true =>
     rw [if_pos rfl] at ho3 hk
     have hb:(g.length+1)*80≤140737488355328∧g.length≤9223372036854775806:=by omega
     simp<;>(repeat' first|contradiction|exact .ok|apply And.intro|intro _|(refine gc (fun h=>?_) (fun h=>?_)<;>(have h':=h;(try simp at h');first|done|simp[h,h']|simp)))
     rcases ht.step h3 (by omega) with ⟨e,he4,hc4⟩ | ⟨t,l4,he4,h4,hl4,hc4⟩
     ·rw [he4,bind2_err] at ho3
      subst ho3
      exact acallP_pan [1000000] (hc4) (by simp) (by simp) (by simp) (by simp) (by kernel_rfl)
     rw [he4,bind2_ok,moC_eq ht.sfx] at ho3
     refine acallP_of (acallT_hand [1000000] (hc4) (by simp) (by simp) (by simp) (by simp) (by simp) ?_)
     simp [hb]<;>(repeat' first|contradiction|exact .ok|apply And.intro|intro _|(refine gc (fun h=>?_) (fun h=>?_)<;>(have h':=h;(try simp at h');first|done|simp[h,h',hb]|simp[hb])))
     have f12:outX Sm.a fD T (if (optW wComma l4).1=true then bind2 (tm (optW wComma l4).2) fun i l'=>bind2 (moC tm (g++[t]++[i]) l') fun g l3=>restE tm d sb is so js w g l3 else restE tm d sb is so js w (g++[t]) (optW wComma l4).2)=o∧(optW wComma l4).2.length+(if (optW wComma l4).1=true then 1 else 0)≤l4.length:=by
      unfold optW
      cases hc:isW wComma l4 with
      | true =>
        have hlen:=isW_len hc
        rw [hc,if_pos rfl,bind22] at ho3
        simp only [if_true]
        exact ⟨ho3,by omega⟩
      | false =>
        rw [hc,if_neg (by simp),bind2_ok] at ho3
        simp only [Bool.false_eq_true,if_false]
        exact ⟨ho3,by omega⟩
     obtain ⟨f1,f2⟩:=f12
     have hto:=take_opt h4 hT wComma
     have h6:At T (optW wComma l4).2:=h4.to (opt_sfx _ _) (opt_ok h4.ok)
     have h6len:=opt_len wComma l4
     generalize optW wComma l4=x at *
     obtain ⟨more,l6⟩:=x
     simp only at f1 f2 hto h6 h6len
     refine acallP_of (acallT_hand [1000000] (hto) (by simp) (by simp) (by simp) (by simp) (by simp) ?_)
     simp<;>(repeat' first|contradiction|exact .ok|apply And.intro|intro _|(refine gc (fun h=>?_) (fun h=>?_)<;>(have h':=h;(try simp at h');first|done|simp[h,h']|simp)))
     refine ⟨(more,g++[t],l6),⟨h6,by simp only; omega,by simp only [List.length_append,List.length_singleton]; omega,f1⟩,?_,by simp only [if_true]; omega⟩
     exact sub_mk _ [(1000000,1000000,_),(2,2,_),(3,3,_),(902,99,_)] ⟨by simp,by simp,by simp [renOf,Blk.live],base1⟩ (by simp [renOf])
theorem p_selE (ht:Rule Es fD T L 62 tm) (hT:T.length≤10000) {y:YD} (ha:At T y.l) (hl:y.l.length≤L) {o:Out} (ho:outX Sm.a fD T (restE tm y.y.d y.y.sb y.y.is y.y.so y.y.js y.w y.g y.l)=o) :
  acodeP Es selN 1 o.po selR3 (FD T y) fun e s=>match e with
   | .exit _=>False
   | _=>EndsO Es Tryz.f42 1 o s:=by
 obtain ⟨⟨d,sb,is,so,js,l0⟩,w,g,l⟩:=y
 simp only at ha hl ho ⊢
 unfold restE oneS at ho
 simp only [selR3,selR2,selR1,selC,selN,Tryz.f42,Option.getD_some,cutC_succ,cutC_zero,FD]
 simp<;>(repeat' first|contradiction|exact .ok|apply And.intro|intro _|(refine gc (fun h=>?_) (fun h=>?_)<;>(have h':=h;(try simp at h');first|done|simp[h,h']|simp)))
 cases hw:isW wHaving l with
 | false =>
   rw [hw,if_neg (by simp),bind2_ok] at ho
   subst ho
   refine acallP_of (acallT_hand [1000000] (take_no ha hT hw) (by simp) (by simp) (by simp) (by simp) (by simp) ?_)
   simp only [outX]
   simp [Sm.c]<;>(repeat' first|contradiction|exact .ok|apply And.intro|intro _|(refine gc (fun h=>?_) (fun h=>?_)<;>(have h':=h;(try simp at h');first|done|simp[h,h',Sm.c]|simp[Sm.c])))
 | true =>
   rw [hw,if_pos rfl] at ho
   have hlen:=isW_len hw
   refine acallP_of (acallT_hand [1000000] (take_yes ha hT hw) (by simp) (by simp) (by simp) (by simp) (by simp) ?_)
   simp<;>(repeat' first|contradiction|exact .ok|apply And.intro|intro _|(refine gc (fun h=>?_) (fun h=>?_)<;>(have h':=h;(try simp at h');first|done|simp[h,h']|simp)))
   rcases ht.step (ha.tl hw) (by omega) with ⟨e,he2,hc2⟩ | ⟨t,l2,he2,h2,hl2,hc2⟩
   ·rw [he2,bind2_err,bind2_err] at ho
    subst ho
    exact acallP_pan [1000000] (hc2) (by simp) (by simp) (by simp) (by simp) (by kernel_rfl)
   rw [he2,bind2_ok,bind2_ok] at ho
   subst ho
   refine acallP_of (acallT_hand [1000000] (hc2) (by simp) (by simp) (by simp) (by simp) (by simp) ?_)
   simp only [outX]
   simp [Sm.c]<;>(repeat' first|contradiction|exact .ok|apply And.intro|intro _|(refine gc (fun h=>?_) (fun h=>?_)<;>(have h':=h;(try simp at h');first|done|simp[h,h',Sm.c]|simp[Sm.c])))
theorem p_selection {st:List Tk→Res Sm} {l:List Tk} (hF:FailOk fD) (ht:Rule Es fD T L 62 tm) (hs:RuleX So.a Es fD T L 64 (sourceS st)) (hSs:∀ l,SfxOk (st l) l) (hT:T.length≤10000) (ha:At T l) (hl:l.length≤L) :
  CfO Es 42 [.ptr 1000000 0 0] [rdB T l] (outX Sm.a fD T (selS tm st l)):=by
 generalize ho:outX Sm.a fD T (selS tm st l)=o
 refine cfO_introW mixs (fn:=Tryz.f42) (c:=selC) (by kernel_rfl) rfl (by kernel_rfl) (by decide) o (by simp) (by simp [rdB]) ?_
 refine cut_mid mixs (by decide) (FA T) (fun y=>At T y.l∧y.l.length≤l.length∧outX Sm.a fD T (restA tm st y.d y.sb y.is y.l)=o) 5 (p_selA hF ht hT ha hl ho) fun y hy=>?_
 refine cut_mid mixs (by decide) (FB T) (fun z=>At T z.l∧z.l.length≤y.l.length∧outX Sm.a fD T (restC tm z.d z.sb z.is z.so z.js z.l)=o) 3 (p_selB hF ht hs hSs hT hy.1 (by omega) hy.2.2) fun z hz=>?_
 refine cut_mid mixs (by decide) (FC T) (fun z'=>At T z'.l∧z'.l.length≤z.l.length∧outX Sm.a fD T (restD tm z'.y.d z'.y.sb z'.y.is z'.y.so z'.y.js z'.w z'.l)=o) 1 (p_selC ht hT hz.1 (by omega) hz.2.2) fun u hu=>?_
 refine cut_mid mixs (by decide) (FD T) (fun z'=>At T z'.l∧z'.l.length≤u.l.length∧outX Sm.a fD T (restE tm z'.y.d z'.y.sb z'.y.is z'.y.so z'.y.js z'.w z'.g z'.l)=o) 1 (p_selD hF ht hT hu.1 (by omega) hu.2.2) fun v hv=>?_
 exact acodeP_sound mixs (by decide) _ _ _ (p_selE ht hT hv.1 (by omega) hv.2.2)
end
end Go.Proofs.Tryz
