import Derived.Test.YtgdkfmglkjfciaaGreatDoorPMdx
import Derived.Test.YtgdkfmglkjfciaaGreatDoorPRqs
import Derived.Test.YtgdkfmglkjfciaaGreatDoorAbD
set_option linter.all false
namespace Go.Proofs.Tryz
open Go.Ab
set_option maxRecDepth 100000
set_option maxHeartbeats 8000000
noncomputable def selC:Code:=(Tryz.f42.body).getD .skip
abbrev selN:Nat:=108
@[simp] def zSm:List AV:=[.d (.int .i64 0),.d (.bool false),.d (.bool false),.d (.bool false),.nils,.d (.str []),.nils,.d (.str []),.nils,.nils,.nils,.nils,.nils]
section
variable (tm:List Tk→Res Tm) (st:List Tk→Res Sm)
def restE (d sb:Bool) (is:List It) (so:So) (js:List Jo) (w g:List Tm) (l:List Tk):Res Sm:=bind2 (oneS tm wHaving l) fun h l8=>.ok (.mk 1 false d sb is so.1 so.2.1 so.2.2 js w g h [],l8)
def restD (d sb:Bool) (is:List It) (so:So) (js:List Jo) (w:List Tm) (l:List Tk):Res Sm:=bind2 (groupS tm l) fun g l7=>restE tm d sb is so js w g l7
def restC (d sb:Bool) (is:List It) (so:So) (js:List Jo) (l:List Tk):Res Sm:=bind2 (oneS tm wWhere l) fun w l6=>restD tm d sb is so js w l6
def restB (d sb:Bool) (is:List It) (so:So) (l:List Tk):Res Sm:=bind2 (joC tm st [] l) fun js l5=>restC tm d sb is so js l5
def restA (d sb:Bool) (is:List It) (l:List Tk):Res Sm:=bind1 (expS [wFrom] l) fun l3=>bind2 (sourceS st l3) fun so l4=>restB tm st d sb is so l4
theorem selS_eq (l:List Tk):selS tm st l=bind1 (expS [wSelect] l) fun l1 =>
  if isW wStar (optW wDistinct l1).2=true then restA tm st (optW wDistinct l1).1 true [] (optW wDistinct l1).2.tail
  else bind2 (itemS tm (optW wDistinct l1).2) fun i l'=>bind2 (itC tm [i] l') fun is l2=>restA tm st (optW wDistinct l1).1 false is l2:=by
 unfold selS
 congr 1
 funext l1
 unfold starS
 cases hw:isW wStar (optW wDistinct l1).2 with
 | true=>rw [if_pos rfl,if_pos rfl]; rfl
 | false =>
   rw [if_neg (by simp),if_neg (by simp),bind22]
   rfl
end
theorem take_opt {T l:List Tk} (ha:At T l) (hT:T.length≤10000) (w:List UInt8):Cf Es 29 [.ptr 1000000 0 0,.d (.str w)] [rdB T l] (.d (.bool (optW w l).1)) [rdB T (optW w l).2]:=by
 unfold optW
 cases h:isW w l with
 | true=>exact take_yes ha hT h
 | false=>exact take_no ha hT h
structure YA where
 d:Bool
 sb:Bool
 is:List It
 l:List Tk
@[simp] def z5 (d sb:Bool) (items:AV):List AV:=[.d (.int .i64 1),.d (.bool false),.d (.bool d),.d (.bool sb),items,.d (.str []),.nils,.d (.str []),.nils,.nils,.nils,.nils,.nils]
def FA (T:List Tk) (y:YA):St:={ s:=mkS [(0,.ptr 1000000 0 0),(2,.ptr 2 0 0),(3,.ptr 3 0 0)],b:=mkB [(1000000,1000000,rdB T y.l),(2,2,.var zSm),(3,3,.var (z5 y.d y.sb (.d (.sl (y.is.map It.c)))))] }
@[simp] theorem takeI (t:It) (l:List D):List.take 7 (t.c++l)=t.c:=by rw [List.take_append_of_le_length (by rw [It.clen]; omega)]; exact List.take_of_length_le (by rw [It.clen]; omega)
attribute [simp] It.clen
@[simp] theorem take7m (t:Tm) (x:AV):List.take 7 (t.c.map AV.d++[x])=t.c.map AV.d++[x]:=List.take_of_length_le (by simp)
@[simp] theorem take7d (t:Tm) (x:D):List.take 7 (t.c++[x])=t.c++[x]:=List.take_of_length_le (by simp)
@[simp] theorem drop7m (t:Tm) (x:AV):List.drop 7 (t.c.map AV.d++[x])=[]:=List.drop_of_length_le (by simp)
@[simp] theorem set6m (t:Tm) (x y:AV):(t.c.map AV.d++[x]).set 6 y=t.c.map AV.d++[y]:=by
  rw [List.set_append_right _ _ (by simp)]
  simp
@[simp] theorem toDs_snoc (bl:Nat→Blk) (a:List D) (x:D):toDs bl (a.map AV.d++[.d x])=some (a++[x],[]):=by
  have:=toDs_two bl a [x]
  exact this
@[simp] theorem take_mapG {α β:Type} (f:α→β) (l:List α):List.take l.length (l.map f)=l.map f:=List.take_of_length_le (by simp)
section
variable {fD:Nat→D} {T l:List Tk} {L:Nat} {tm:List Tk→Res Tm} {st:List Tk→Res Sm}
theorem p_selA (hF:FailOk fD) (ht:Rule Es fD T L 62 tm) (hT:T.length≤10000) (ha:At T l) (hl:l.length≤L) {o:Out} (ho:outX Sm.a fD T (selS tm st l)=o) :
  acodeP Es selN 1 o.po (cutC 5 selC).1 (Go.Ab.begin [.ptr 1000000 0 0] [rdB T l]) fun e s=>match e with
   | .normal=>∃ y:YA,(At T y.l∧y.l.length≤l.length∧outX Sm.a fD T (restA tm st y.d y.sb y.is y.l)=o)∧Sub Es selN 1 s (FA T y)
   | _=>False:=by
 rw [selS_eq] at ho
 simp only [selC,selN,Tryz.f42,Option.getD_some,cutC_succ,cutC_zero]
 simp<;>(repeat' first|contradiction|exact .ok|apply And.intro|intro _|(refine gc (fun h=>?_) (fun h=>?_)<;>(have h':=h;(try simp at h');first|done|simp[h,h']|simp)))
 rcases exp_step hF ha hT [wSelect] (by decide) with ⟨e,he,hc⟩ | ⟨l1,he,h1,hl1,hc⟩
 ·rw [he] at ho
  subst ho
  exact acallP_pan [1000000] (hc) (by simp) (by simp) (by simp) (by simp) (by kernel_rfl)
 rw [he,bind1_ok] at ho
 refine acallP_of (acallT_hand [1000000] (hc) (by simp) (by simp) (by simp) (by simp) (by simp) ?_)
 simp<;>(repeat' first|contradiction|exact .ok|apply And.intro|intro _|(refine gc (fun h=>?_) (fun h=>?_)<;>(have h':=h;(try simp at h');first|done|simp[h,h']|simp)))
 have hto:=take_opt h1 hT wDistinct
 have h2:At T (optW wDistinct l1).2:=h1.to (opt_sfx _ _) (opt_ok h1.ok)
 have hl2:=opt_len wDistinct l1
 generalize optW wDistinct l1=x at *
 obtain ⟨d,l2⟩:=x
 simp only at ho hto h2 hl2
 refine acallP_of (acallT_hand [1000000] (hto) (by simp) (by simp) (by simp) (by simp) (by simp) ?_)
 simp<;>(repeat' first|contradiction|exact .ok|apply And.intro|intro _|(refine gc (fun h=>?_) (fun h=>?_)<;>(have h':=h;(try simp at h');first|done|simp[h,h']|simp)))
 cases hw:isW wStar l2 with
 | true =>
   rw [hw,if_pos rfl] at ho
   have hlen:=isW_len hw
   refine acallP_of (acallT_hand [1000000] (take_yes h2 hT hw) (by simp) (by simp) (by simp) (by simp) (by simp) ?_)
   simp<;>(repeat' first|contradiction|exact .ok|apply And.intro|intro _|(refine gc (fun h=>?_) (fun h=>?_)<;>(have h':=h;(try simp at h');first|done|simp[h,h']|simp)))
   refine ⟨⟨d,true,[],l2.tail⟩,⟨h2.tl hw,by simp only; omega,ho⟩,?_⟩
   refine (sub_nilc 3 900 59 7 4 (cells:=z5 d true .nils) (by simp [z5]) rfl (by simp) (by decide) (by decide)).trans ?_
   exact sub_mk _ [(1000000,1000000,_),(2,2,_),(3,3,_)] ⟨by simp,by simp,by simp [renOf,Blk.live,zSm,z5],base1⟩ (by simp [renOf,zSm,z5])
 | false =>
   rw [hw,if_neg (by simp)] at ho
   refine acallP_of (acallT_hand [1000000] (take_no h2 hT hw) (by simp) (by simp) (by simp) (by simp) (by simp) ?_)
   simp<;>(repeat' first|contradiction|exact .ok|apply And.intro|intro _|(refine gc (fun h=>?_) (fun h=>?_)<;>(have h':=h;(try simp at h');first|done|simp[h,h']|simp)))
   have hTl:=ha.sfx.length_le
   refine aloopPT mixs (by decide) (fun y:Bool×List It×List Tk=>{ s:=mkS [(0,.ptr 1000000 0 0),(2,.ptr 2 0 0),(3,.ptr 3 0 0),(4,.d (.bool y.1))],b:=mkB [(1000000,1000000,rdB T y.2.2),(2,2,.var zSm),(3,3,.var (z5 d false (.ref 900 0 y.2.1.length 7))),(900,900,.arr 59 7 (y.2.1.map It.c) false)] })
    (fun y=>At T y.2.2∧y.2.2.length≤l2.length∧y.2.1.length+y.2.2.length+(if y.1=true then 1 else 0)≤10001∧outX Sm.a fD T (if y.1=true then bind2 (itemS tm y.2.2) fun i l'=>bind2 (itC tm (y.2.1++[i]) l') fun is l3=>restA tm st d false is l3 else restA tm st d false y.2.1 y.2.2)=o) (fun y=>y.2.2.length+if y.1=true then 1 else 0) (true,[],l2) ⟨h2,Nat.le_refl _,by simp only [List.length_nil,if_true]; omega,ho⟩
    ((sub_nilc 3 900 59 7 4 (cells:=z5 d false .nils) (by simp [z5]) rfl (by simp) (by decide) (by decide)).trans (sub_mk _ [(1000000,1000000,_),(2,2,_),(3,3,_),(900,900,_)] ⟨by simp,by simp,by simp [renOf,Blk.live,zSm,z5],base1⟩ (by simp [renOf,zSm,z5]))) ?_
   rintro ⟨more,is,l3⟩ ⟨h3,hl3,hk,ho3⟩
   simp only at h3 hl3 hk ho3
   cases more with
   | false =>
     rw [if_neg (by simp)] at ho3 hk
     simp<;>(repeat' first|contradiction|exact .ok|apply And.intro|intro _|(refine gc (fun h=>?_) (fun h=>?_)<;>(have h':=h;(try simp at h');first|done|simp[h,h']|simp)))
     refine ⟨⟨d,false,is,l3⟩,⟨h3,by simp only; omega,ho3⟩,?_⟩
     exact sub_mk _ [(1000000,1000000,_),(2,2,_),(3,3,_)] ⟨by simp,by simp,by simp [renOf,Blk.live,zSm,z5],base1⟩ (by simp [renOf,zSm,z5])
   | true =>
     rw [if_pos rfl] at ho3 hk
     unfold itemS asS at ho3
     simp<;>(repeat' first|contradiction|exact .ok|apply And.intro|intro _|(refine gc (fun h=>?_) (fun h=>?_)<;>(have h':=h;(try simp at h');first|done|simp[h,h']|simp)))
     rcases ht.step h3 (by omega) with ⟨e,he4,hc4⟩ | ⟨t,l4,he4,h4,hl4,hc4⟩
     ·rw [he4] at ho3
      simp only [bind2_err] at ho3
      subst ho3
      exact acallP_pan [1000000] (hc4) (by simp) (by simp) (by simp) (by simp) (by kernel_rfl)
     rw [he4,bind2_ok] at ho3
     have hb:(is.length+1)*96≤140737488355328∧is.length≤9223372036854775806:=by omega
     refine acallP_of (acallT_hand [1000000] (hc4) (by simp) (by simp) (by simp) (by simp) (by simp) ?_)
     simp<;>(repeat' first|contradiction|exact .ok|apply And.intro|intro _|(refine gc (fun h=>?_) (fun h=>?_)<;>(have h':=h;(try simp at h');first|done|simp[h,h']|simp)))
     have fin:∀ (n:List UInt8) (l5:List Tk),At T l5→l5.length≤l4.length→outX Sm.a fD T (bind2 (itC tm (is++[⟨t,n⟩]) l5) fun is l3=>restA tm st d false is l3)=o →
       outX Sm.a fD T (if (optW wComma l5).1=true then bind2 (itemS tm (optW wComma l5).2) fun i l'=>bind2 (itC tm (is++[⟨t,n⟩]++[i]) l') fun is l3=>restA tm st d false is l3 else restA tm st d false (is++[⟨t,n⟩]) (optW wComma l5).2)=o∧(optW wComma l5).2.length+(if (optW wComma l5).1=true then 1 else 0)≤l5.length:=by
      intro n l5 h5 hl5 ho5
      rw [itC_eq ht.sfx] at ho5
      unfold optW
      cases hc:isW wComma l5 with
      | true =>
        have hlen:=isW_len hc
        rw [hc,if_pos rfl,bind22] at ho5
        simp only [if_true]
        exact ⟨ho5,by omega⟩
      | false =>
        rw [hc,if_neg (by simp),bind2_ok] at ho5
        simp only [Bool.false_eq_true,if_false]
        exact ⟨ho5,by omega⟩
     cases has:isW wAs l4 with
     | false =>
       rw [has,if_neg (by simp),bind2_ok,bind2_ok] at ho3
       obtain ⟨f1,f2⟩:=fin _ l4 h4 (Nat.le_refl _) ho3
       have hto:=take_opt h4 hT wComma
       have h6:At T (optW wComma l4).2:=h4.to (opt_sfx _ _) (opt_ok h4.ok)
       have h6len:=opt_len wComma l4
       generalize optW wComma l4=x at *
       obtain ⟨more,l6⟩:=x
       simp only at f1 f2 hto h6 h6len
       refine acallP_of (acallT_hand [1000000] (take_no h4 hT has) (by simp) (by simp) (by simp) (by simp) (by simp) ?_)
       simp [hb]<;>(repeat' first|contradiction|exact .ok|apply And.intro|intro _|(refine gc (fun h=>?_) (fun h=>?_)<;>(have h':=h;(try simp at h');first|done|simp[h,h',hb]|simp[hb])))
       refine acallP_of (acallT_hand [1000000] (hto) (by simp) (by simp) (by simp) (by simp) (by simp) ?_)
       simp<;>(repeat' first|contradiction|exact .ok|apply And.intro|intro _|(refine gc (fun h=>?_) (fun h=>?_)<;>(have h':=h;(try simp at h');first|done|simp[h,h']|simp)))
       refine ⟨(more,is++[⟨t,[]⟩],l6),⟨h6,by simp only; omega,by simp only [List.length_append,List.length_singleton]; omega,f1⟩,?_,by simp only [if_true]; omega⟩
       exact sub_mk _ [(1000000,1000000,_),(2,2,_),(3,3,_),(900,37,_)] ⟨by simp,by simp,by simp [renOf,Blk.live,It.c],base1⟩ (by simp [renOf])
     | true =>
       rw [has,if_pos rfl] at ho3
       have hlen:=isW_len has
       refine acallP_of (acallT_hand [1000000] (take_yes h4 hT has) (by simp) (by simp) (by simp) (by simp) (by simp) ?_)
       simp<;>(repeat' first|contradiction|exact .ok|apply And.intro|intro _|(refine gc (fun h=>?_) (fun h=>?_)<;>(have h':=h;(try simp at h');first|done|simp[h,h']|simp)))
       rcases name_step hF (h4.tl has) hT with ⟨e,he5,hc5⟩ | ⟨n,l5,he5,h5,hl5,hc5⟩
       ·rw [he5] at ho3
        simp only [bind2_err] at ho3
        subst ho3
        exact acallP_pan [1000000] (hc5) (by simp) (by simp) (by simp) (by simp) (by kernel_rfl)
       rw [he5,bind2_ok,bind2_ok] at ho3
       obtain ⟨f1,f2⟩:=fin n l5 h5 (by omega) ho3
       have hto:=take_opt h5 hT wComma
       have h6:At T (optW wComma l5).2:=h5.to (opt_sfx _ _) (opt_ok h5.ok)
       have h6len:=opt_len wComma l5
       generalize optW wComma l5=x at *
       obtain ⟨more,l6⟩:=x
       simp only at f1 f2 hto h6 h6len
       refine acallP_of (acallT_hand [1000000] (hc5) (by simp) (by simp) (by simp) (by simp) (by simp) ?_)
       simp [hb]<;>(repeat' first|contradiction|exact .ok|apply And.intro|intro _|(refine gc (fun h=>?_) (fun h=>?_)<;>(have h':=h;(try simp at h');first|done|simp[h,h',hb]|simp[hb])))
       refine acallP_of (acallT_hand [1000000] (hto) (by simp) (by simp) (by simp) (by simp) (by simp) ?_)
       simp<;>(repeat' first|contradiction|exact .ok|apply And.intro|intro _|(refine gc (fun h=>?_) (fun h=>?_)<;>(have h':=h;(try simp at h');first|done|simp[h,h']|simp)))
       refine ⟨(more,is++[⟨t,n⟩],l6),⟨h6,by simp only; omega,by simp only [List.length_append,List.length_singleton]; omega,f1⟩,?_,by simp only [if_true]; omega⟩
       exact sub_mk _ [(1000000,1000000,_),(2,2,_),(3,3,_),(900,37,_)] ⟨by simp,by simp,by simp [renOf,Blk.live,It.c],base1⟩ (by simp [renOf])
end
end Go.Proofs.Tryz
