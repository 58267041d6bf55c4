import Derived.Test.YtgdkfmglkjfciaaGreatDoorRpm
import Derived.Test.YtgdkfmglkjfciaaGreatDoorRks
import Derived.Test.YtgdkfmglkjfciaaGreatDoorSlc
import Derived.Test.YtgdkfmglkjfciaaGreatDoorAbD
set_option linter.all false
namespace Go.Proofs.Tryz
open Go.Ab
set_option maxRecDepth 100000
set_option maxHeartbeats 16000000
@[simp] theorem cvAs_snoc (r:Nat→Option Nat) (bl:Nat→Blk) (kn:Bool) (a:List D) (x:D):cvAs r bl kn (a.map AV.d++[.d x])=(a.map AV.d++[.d x],[]):=by
  have:=cvAs_d r bl kn (a++[x])
  simpa using this
structure RuX {α:Type} (en:α→AV) (s:List UInt8) (L:Nat) (f:FuncId) (q:RS→α×RS):Prop where
 run:∀ st:RS,At (toks s) st.1→st.1.length≤L→Cf Es f [.ptr 1000000 0 0] [rrB s st] (en (q st).1) [rrB s (q st).2]
 kp:∀ st,Kp st (q st).2
section
variable {s:List UInt8} (hs:s.length≤5000) {L:Nat} {tm:RS→Tm×RS} {st:RS→Sm×RS} {r:RS}
include hs
theorem take_optR (ha:At (toks s) r.1) (w:List UInt8):Cf Es 34 [.ptr 1000000 0 0,.d (.str w)] [rrB s r] (.d (.bool (rOpt w r).1)) [rrB s (rOpt w r).2]:=by
 unfold rOpt
 cases h:rIs w r with
 | true=>exact take_yesR hs ha h
 | false=>exact take_noR hs ha h
theorem r_item (ht:RuR s L 53 tm) (ha:At (toks s) r.1) (hl:r.1.length≤L) :
  Cf Es 50 [.ptr 1000000 0 0] [rrB s r] (itemR tm r).1.a [rrB s (itemR tm r).2]:=by
 have h1:=ht.run r ha hl
 have k1:=ht.kp r
 have ha1:=ha.kp k1
 generalize hres:itemR tm r=res
 unfold itemR asR at hres
 refine cf_intro mixs (fn:=Tryz.f50) (by kernel_rfl) rfl (by kernel_rfl) (by decide) (by simp) ?_
 generalize tm r=x at *
 obtain ⟨t,r1⟩:=x
 simp only at hres h1 k1 ha1
 simp<;>(repeat' first|contradiction|exact .ok|apply And.intro|intro _|(refine gc (fun h=>?_) (fun h=>?_)<;>(have h':=h;(try simp at h');first|done|simp[h,h']|simp)))
 refine acallT_hand [1000000] (h1) (by simp) (by simp) (by simp) (by simp) (by simp) ?_
 simp<;>(repeat' first|contradiction|exact .ok|apply And.intro|intro _|(refine gc (fun h=>?_) (fun h=>?_)<;>(have h':=h;(try simp at h');first|done|simp[h,h']|simp)))
 cases hw:rIs wAs r1 with
 | true =>
   rw [if_pos hw] at hres
   have ha2:=ha1.kp (kp_is hw)
   have hn:=r_nameR hs ha2
   subst hres
   refine acallT_hand [1000000] (take_yesR hs ha1 hw) (by simp) (by simp) (by simp) (by simp) (by simp) ?_
   simp<;>(repeat' first|contradiction|exact .ok|apply And.intro|intro _|(refine gc (fun h=>?_) (fun h=>?_)<;>(have h':=h;(try simp at h');first|done|simp[h,h']|simp)))
   refine acallT_hand [1000000] (hn) (by simp) (by simp) (by simp) (by simp) (by simp) ?_
   simp [It.a,It.c]<;>(repeat' first|contradiction|exact .ok|apply And.intro|intro _|(refine gc (fun h=>?_) (fun h=>?_)<;>(have h':=h;(try simp at h');first|done|simp[h,h',It.a,It.c]|simp[It.a,It.c])))
 | false =>
   rw [if_neg (by rw [hw]; exact Bool.false_ne_true)] at hres
   subst hres
   refine acallT_hand [1000000] (take_noR hs ha1 hw) (by simp) (by simp) (by simp) (by simp) (by simp) ?_
   simp [It.a,It.c]<;>(repeat' first|contradiction|exact .ok|apply And.intro|intro _|(refine gc (fun h=>?_) (fun h=>?_)<;>(have h':=h;(try simp at h');first|done|simp[h,h',It.a,It.c]|simp[It.a,It.c])))
theorem r_source (hst:RuX Sm.a s L 16 st) (ha:At (toks s) r.1) (hl:r.1.length≤L+1) :
  Cf Es 51 [.ptr 1000000 0 0] [rrB s r] (So.a (sourceR st r).1) [rrB s (sourceR st r).2]:=by
 generalize hres:sourceR st r=res
 unfold sourceR at hres
 refine cf_intro mixs (fn:=Tryz.f51) (by kernel_rfl) rfl (by kernel_rfl) (by decide) (by simp) ?_
 cases hw:rIs wOpen r with
 | true =>
   rw [if_pos hw] at hres
   have hlen:=is_lt hw
   have ha1:=ha.kp (kp_is hw)
   have hto:=take_yesR hs ha hw
   generalize rNext r=r1 at *
   have h1:=hst.run r1 ha1 (by omega)
   have ha2:=ha1.kp (hst.kp r1)
   generalize st r1=x at *
   obtain ⟨x,r2⟩:=x
   simp only at hres h1 ha2
   have w2:=r_want hs ha2 wShut
   have ha3:=ha2.kp (kp_want wShut r2)
   generalize rWant wShut r2=r3 at *
   have w3:=r_want hs ha3 wAs
   have ha4:=ha3.kp (kp_want wAs r3)
   generalize rWant wAs r3=r4 at *
   have hn:=r_nameR hs ha4
   generalize rName r4=y at *
   obtain ⟨n,r5⟩:=y
   simp only at hres hn
   subst hres
   simp<;>(repeat' first|contradiction|exact .ok|apply And.intro|intro _|(refine gc (fun h=>?_) (fun h=>?_)<;>(have h':=h;(try simp at h');first|done|simp[h,h']|simp)))
   refine acallT_hand [1000000] (hto) (by simp) (by simp) (by simp) (by simp) (by simp) ?_
   simp<;>(repeat' first|contradiction|exact .ok|apply And.intro|intro _|(refine gc (fun h=>?_) (fun h=>?_)<;>(have h':=h;(try simp at h');first|done|simp[h,h']|simp)))
   refine acallT_hand [1000000] (h1) (by simp) (by simp) (by simp) (by simp) (by simp) ?_
   simp<;>(repeat' first|contradiction|exact .ok|apply And.intro|intro _|(refine gc (fun h=>?_) (fun h=>?_)<;>(have h':=h;(try simp at h');first|done|simp[h,h']|simp)))
   refine acallT_hand [1000000] (w2) (by simp) (by simp) (by simp) (by simp) (by simp) ?_
   simp<;>(repeat' first|contradiction|exact .ok|apply And.intro|intro _|(refine gc (fun h=>?_) (fun h=>?_)<;>(have h':=h;(try simp at h');first|done|simp[h,h']|simp)))
   refine acallT_hand [1000000] (w3) (by simp) (by simp) (by simp) (by simp) (by simp) ?_
   simp<;>(repeat' first|contradiction|exact .ok|apply And.intro|intro _|(refine gc (fun h=>?_) (fun h=>?_)<;>(have h':=h;(try simp at h');first|done|simp[h,h']|simp)))
   refine acallT_hand [1000000] (hn) (by simp) (by simp) (by simp) (by simp) (by simp) ?_
   simp [So.a,soA,soC]<;>(repeat' first|contradiction|exact .ok|apply And.intro|intro _|(refine gc (fun h=>?_) (fun h=>?_)<;>(have h':=h;(try simp at h');first|done|simp[h,h',So.a,soA,soC]|simp[So.a,soA,soC])))
 | false =>
   rw [if_neg (by rw [hw]; exact Bool.false_ne_true)] at hres
   have hn:=r_nameR hs ha
   have ha1:=ha.kp (kp_name r)
   generalize rName r=y at *
   obtain ⟨n,r1⟩:=y
   simp only at hres hn ha1
   unfold asR at hres
   simp<;>(repeat' first|contradiction|exact .ok|apply And.intro|intro _|(refine gc (fun h=>?_) (fun h=>?_)<;>(have h':=h;(try simp at h');first|done|simp[h,h']|simp)))
   refine acallT_hand [1000000] (take_noR hs ha hw) (by simp) (by simp) (by simp) (by simp) (by simp) ?_
   simp<;>(repeat' first|contradiction|exact .ok|apply And.intro|intro _|(refine gc (fun h=>?_) (fun h=>?_)<;>(have h':=h;(try simp at h');first|done|simp[h,h']|simp)))
   refine acallT_hand [1000000] (hn) (by simp) (by simp) (by simp) (by simp) (by simp) ?_
   simp<;>(repeat' first|contradiction|exact .ok|apply And.intro|intro _|(refine gc (fun h=>?_) (fun h=>?_)<;>(have h':=h;(try simp at h');first|done|simp[h,h']|simp)))
   cases hw2:rIs wAs r1 with
   | true =>
     rw [if_pos hw2] at hres
     have ha2:=ha1.kp (kp_is hw2)
     have hn2:=r_nameR hs ha2
     subst hres
     refine acallT_hand [1000000] (take_yesR hs ha1 hw2) (by simp) (by simp) (by simp) (by simp) (by simp) ?_
     simp<;>(repeat' first|contradiction|exact .ok|apply And.intro|intro _|(refine gc (fun h=>?_) (fun h=>?_)<;>(have h':=h;(try simp at h');first|done|simp[h,h']|simp)))
     refine acallT_hand [1000000] (hn2) (by simp) (by simp) (by simp) (by simp) (by simp) ?_
     simp [So.a,soA,soC]<;>(repeat' first|contradiction|exact .ok|apply And.intro|intro _|(refine gc (fun h=>?_) (fun h=>?_)<;>(have h':=h;(try simp at h');first|done|simp[h,h',So.a,soA,soC]|simp[So.a,soA,soC])))
   | false =>
     rw [if_neg (by rw [hw2]; exact Bool.false_ne_true)] at hres
     subst hres
     refine acallT_hand [1000000] (take_noR hs ha1 hw2) (by simp) (by simp) (by simp) (by simp) (by simp) ?_
     simp [So.a,soA,soC]<;>(repeat' first|contradiction|exact .ok|apply And.intro|intro _|(refine gc (fun h=>?_) (fun h=>?_)<;>(have h':=h;(try simp at h');first|done|simp[h,h',So.a,soA,soC]|simp[So.a,soA,soC])))
end
@[simp] def zJo:List AV:=[.d (.int .i64 0),.d (.str []),.nils,.d (.str []),.nils]
@[simp] def zJk (k:Int):List AV:=[.d (.int .i64 k),.d (.str []),.nils,.d (.str []),.nils]
theorem beq0 {n:Int} (h:¬ n=0):(n==0)=false:=beq_eq_false_iff_ne.2 h
section
variable {s:List UInt8} (hs:s.length≤5000) {L:Nat} {tm:RS→Tm×RS} {st:RS→Sm×RS} {r:RS}
include hs
theorem r_join (ht:RuR s L 53 tm) (hso:RuX So.a s L 51 (sourceR st)) (ha:At (toks s) r.1) (hl:r.1.length≤L) :
  Cf Es 52 [.ptr 1000000 0 0] [rrB s r] (.tup [(jnR tm st r).1.a,.d (.bool (jnR tm st r).2.1)]) [rrB s (jnR tm st r).2.2]:=by
 generalize hres:jnR tm st r=res
 unfold jnR at hres
 obtain ⟨ws,hws⟩:∃ ws,ws=joiR:=⟨_,rfl⟩
 rw [← hws] at hres
 have hwl:ws.length=7:=by rw [hws]; rfl
 have hwm:ws.map (fun w=>[D.str w])=[[.str [99,114,111,115,115]],[.str [105,110,110,101,114]],[.str [108,101,102,116]],[.str [114,105,103,104,116]],[.str [102,117,108,108]],[.str [115,101,109,105]],[.str [97,110,116,105]]]:=by rw [hws]; rfl
 refine cf_intro mixs (fn:=Tryz.f52) (by kernel_rfl) rfl (by kernel_rfl) (by decide) (by simp) ?_
 simp<;>(repeat' first|contradiction|exact .ok|apply And.intro|intro _|(refine gc (fun h=>?_) (fun h=>?_)<;>(have h':=h;(try simp at h');first|done|simp[h,h']|simp)))
 refine aloopT mixs (by decide) (fun y:Option Nat×Nat×RS=>{ s:=mkS [(0,.ptr 1000000 0 0),(2,.ptr 2 0 0),(3,.d (.bool false)),(4,.d (.sl (ws.map fun w=>[.str w]))),(5,.ptr 5 0 0),(6,.d (.bool y.1.isSome)),(7,.d (.int .i64 y.2.1))],b:=mkB [(1000000,1000000,rrB s y.2.2),(2,2,.var zJo),(5,5,.var (zJk (y.1.getD 1:Nat)))] })
  (fun y=>y.2.1≤8∧match y.1 with
   | none=>y.2.1≤7∧y.2.2=r∧∀ j (h:j<ws.length),j<y.2.1→rIs ws[j] r=false
   | some k=>k<7∧rOne ws r=some k∧y.2.2=rNext r) (fun y=>8 - y.2.1) (none,0,r) ⟨by simp,by simp,rfl,fun j h hj=>by simp only at hj; omega⟩
  (sub_mk _ [(1000000,1000000,_),(2,2,_),(5,5,_)] ⟨by simp,by simp,by simp [renOf,Blk.live],base1⟩ (by simp [renOf,hwm])) ?_
 rintro ⟨k,i,r0⟩ ⟨hi,hk⟩
 simp only at hi hk
 cases k with
 | some k =>
   obtain ⟨hk7,ho,rfl⟩:=hk
   rw [ho] at hres
   simp only at hres
   have hlen:=one_lt ho
   have ha1:=ha.kp (kp_one ho)
   generalize rNext r=r1 at *
   have hkd:(Option.some k).getD 1=k:=rfl
   by_cases hlt:i<7
   ·have hlt':(i:Int)<7:=by omega
    simp [hlt,hlt',hwl]<;>(repeat' first|contradiction|exact .ok|apply And.intro|intro _|(refine gc (fun h=>?_) (fun h=>?_)<;>(have h':=h;(try simp at h');first|done|simp[h,h',hlt,hlt',hwl]|simp[hlt,hlt',hwl])))
    have w2:=r_want hs ha1 wJoin
    have ha2:=ha1.kp (kp_want wJoin r1)
    have hl2:=(kp_want wJoin r1).len
    have hw2e:rWant wJoin r1=rWant wJoin r1:=rfl
    unfold joinR at hres
    simp only at hres
    generalize rWant wJoin r1=r2 at *
    have h2:=hso.run r2 ha2 (by omega)
    have ha3:=ha2.kp (hso.kp r2)
    have hl3:=(hso.kp r2).len
    generalize sourceR st r2=x at *
    obtain ⟨⟨ta,qs,na⟩,r3⟩:=x
    simp only [So.a,soA,soC,smsC_map] at hres h2 ha3 hl3
    have w3:=r_want hs ha3 wOn
    have ha4:=ha3.kp (kp_want wOn r3)
    have hl4:=(kp_want wOn r3).len
    by_cases hk0:k=0
    ·subst hk0
     rw [if_pos rfl] at hres
     subst hres
     refine acallT_hand [1000000] (w2) (by simp) (by simp) (by simp) (by simp) (by simp) ?_
     simp<;>(repeat' first|contradiction|exact .ok|apply And.intro|intro _|(refine gc (fun h=>?_) (fun h=>?_)<;>(have h':=h;(try simp at h');first|done|simp[h,h']|simp)))
     refine acallT_hand [1000000] (h2) (by simp) (by simp) (by simp) (by simp) (by simp) ?_
     simp<;>(repeat' first|contradiction|exact .ok|apply And.intro|intro _|(refine gc (fun h=>?_) (fun h=>?_)<;>(have h':=h;(try simp at h');first|done|simp[h,h']|simp)))
     all_goals simp [Jo.a,Jo.c]
    ·have hk0i:¬ (k:Int)=0:=by omega
     have hkb:=beq0 hk0i
     rw [if_neg hk0] at hres
     generalize rWant wOn r3=r4 at *
     have h4:=ht.run r4 ha4 (by omega)
     generalize tm r4=y at *
     obtain ⟨t,r5⟩:=y
     simp only at hres h4
     subst hres
     refine acallT_hand [1000000] (w2) (by simp) (by simp) (by simp) (by simp) (by simp) ?_
     simp [hk0,hk0i,hkb]<;>(repeat' first|contradiction|exact .ok|apply And.intro|intro _|(refine gc (fun h=>?_) (fun h=>?_)<;>(have h':=h;(try simp at h');first|done|simp[h,h',hk0,hk0i,hkb]|simp[hk0,hk0i,hkb])))
     refine acallT_hand [1000000] (h2) (by simp) (by simp) (by simp) (by simp) (by simp) ?_
     simp [hk0,hk0i,hkb]<;>(repeat' first|contradiction|exact .ok|apply And.intro|intro _|(refine gc (fun h=>?_) (fun h=>?_)<;>(have h':=h;(try simp at h');first|done|simp[h,h',hk0,hk0i,hkb]|simp[hk0,hk0i,hkb])))
     refine acallT_hand [1000000] (w3) (by simp) (by simp) (by simp) (by simp) (by simp) ?_
     simp<;>(repeat' first|contradiction|exact .ok|apply And.intro|intro _|(refine gc (fun h=>?_) (fun h=>?_)<;>(have h':=h;(try simp at h');first|done|simp[h,h']|simp)))
     refine acallT_hand [1000000] (h4) (by simp) (by simp) (by simp) (by simp) (by simp) ?_
     simp<;>(repeat' first|contradiction|exact .ok|apply And.intro|intro _|(refine gc (fun h=>?_) (fun h=>?_)<;>(have h':=h;(try simp at h');first|done|simp[h,h']|simp)))
     all_goals simp [Jo.a,Jo.c]
   ·have hlt':¬ (i:Int)<7:=by omega
    simp [hlt,hlt',hwl]<;>(repeat' first|contradiction|exact .ok|apply And.intro|intro _|(refine gc (fun h=>?_) (fun h=>?_)<;>(have h':=h;(try simp at h');first|done|simp[h,h',hlt,hlt',hwl]|simp[hlt,hlt',hwl])))
    have w2:=r_want hs ha1 wJoin
    have ha2:=ha1.kp (kp_want wJoin r1)
    have hl2:=(kp_want wJoin r1).len
    have hw2e:rWant wJoin r1=rWant wJoin r1:=rfl
    unfold joinR at hres
    simp only at hres
    generalize rWant wJoin r1=r2 at *
    have h2:=hso.run r2 ha2 (by omega)
    have ha3:=ha2.kp (hso.kp r2)
    have hl3:=(hso.kp r2).len
    generalize sourceR st r2=x at *
    obtain ⟨⟨ta,qs,na⟩,r3⟩:=x
    simp only [So.a,soA,soC,smsC_map] at hres h2 ha3 hl3
    have w3:=r_want hs ha3 wOn
    have ha4:=ha3.kp (kp_want wOn r3)
    have hl4:=(kp_want wOn r3).len
    by_cases hk0:k=0
    ·subst hk0
     rw [if_pos rfl] at hres
     subst hres
     refine acallT_hand [1000000] (w2) (by simp) (by simp) (by simp) (by simp) (by simp) ?_
     simp<;>(repeat' first|contradiction|exact .ok|apply And.intro|intro _|(refine gc (fun h=>?_) (fun h=>?_)<;>(have h':=h;(try simp at h');first|done|simp[h,h']|simp)))
     refine acallT_hand [1000000] (h2) (by simp) (by simp) (by simp) (by simp) (by simp) ?_
     simp<;>(repeat' first|contradiction|exact .ok|apply And.intro|intro _|(refine gc (fun h=>?_) (fun h=>?_)<;>(have h':=h;(try simp at h');first|done|simp[h,h']|simp)))
     all_goals simp [Jo.a,Jo.c]
    ·have hk0i:¬ (k:Int)=0:=by omega
     have hkb:=beq0 hk0i
     rw [if_neg hk0] at hres
     generalize rWant wOn r3=r4 at *
     have h4:=ht.run r4 ha4 (by omega)
     generalize tm r4=y at *
     obtain ⟨t,r5⟩:=y
     simp only at hres h4
     subst hres
     refine acallT_hand [1000000] (w2) (by simp) (by simp) (by simp) (by simp) (by simp) ?_
     simp [hk0,hk0i,hkb]<;>(repeat' first|contradiction|exact .ok|apply And.intro|intro _|(refine gc (fun h=>?_) (fun h=>?_)<;>(have h':=h;(try simp at h');first|done|simp[h,h',hk0,hk0i,hkb]|simp[hk0,hk0i,hkb])))
     refine acallT_hand [1000000] (h2) (by simp) (by simp) (by simp) (by simp) (by simp) ?_
     simp [hk0,hk0i,hkb]<;>(repeat' first|contradiction|exact .ok|apply And.intro|intro _|(refine gc (fun h=>?_) (fun h=>?_)<;>(have h':=h;(try simp at h');first|done|simp[h,h',hk0,hk0i,hkb]|simp[hk0,hk0i,hkb])))
     refine acallT_hand [1000000] (w3) (by simp) (by simp) (by simp) (by simp) (by simp) ?_
     simp<;>(repeat' first|contradiction|exact .ok|apply And.intro|intro _|(refine gc (fun h=>?_) (fun h=>?_)<;>(have h':=h;(try simp at h');first|done|simp[h,h']|simp)))
     refine acallT_hand [1000000] (h4) (by simp) (by simp) (by simp) (by simp) (by simp) ?_
     simp<;>(repeat' first|contradiction|exact .ok|apply And.intro|intro _|(refine gc (fun h=>?_) (fun h=>?_)<;>(have h':=h;(try simp at h');first|done|simp[h,h']|simp)))
     all_goals simp [Jo.a,Jo.c]
 | none =>
   obtain ⟨hi7,rfl,h0⟩:=hk
   by_cases hlt:i<7
   ·have hlt':(i:Int)<7:=by omega
    have hiw:i<ws.length:=by omega
    have hwr:=wrap_in (n:=(i:Int)+1) (by omega) (by omega)
    obtain ⟨e,hee⟩:∃ e,e=ws[i]:=⟨_,rfl⟩
    have hge:∀ h,ws[i]'h=e:=fun _=>hee.symm
    cases hw:rIs e r0 with
    | true =>
      have ho:=rOne_some hiw (fun j h hj=>h0 j h hj) (by rw [← hee]; exact hw)
      have hto:=take_yesR hs ha hw
      simp [hlt,hlt',hwl,hge]<;>(repeat' first|contradiction|exact .ok|apply And.intro|intro _|(refine gc (fun h=>?_) (fun h=>?_)<;>(have h':=h;(try simp at h');first|done|simp[h,h',hlt,hlt',hwl,hge]|simp[hlt,hlt',hwl,hge])))
      refine acallT_hand [1000000] (hto) (by simp) (by simp) (by simp) (by simp) (by simp) ?_
      simp<;>(repeat' first|contradiction|exact .ok|apply And.intro|intro _|(refine gc (fun h=>?_) (fun h=>?_)<;>(have h':=h;(try simp at h');first|done|simp[h,h']|simp)))
      refine ⟨(some i,i+1,rNext r0),⟨by simp only; omega,by omega,ho,rfl⟩,?_,by simp only; omega⟩
      exact sub_mk _ [(1000000,1000000,_),(2,2,_),(5,5,_)] ⟨by simp,by simp,by simp [renOf,Blk.live],base1⟩ (by simp [renOf,hwr])
    | false =>
      have hto:=take_noR hs ha hw
      simp [hlt,hlt',hwl,hge]<;>(repeat' first|contradiction|exact .ok|apply And.intro|intro _|(refine gc (fun h=>?_) (fun h=>?_)<;>(have h':=h;(try simp at h');first|done|simp[h,h',hlt,hlt',hwl,hge]|simp[hlt,hlt',hwl,hge])))
      refine acallT_hand [1000000] (hto) (by simp) (by simp) (by simp) (by simp) (by simp) ?_
      simp<;>(repeat' first|contradiction|exact .ok|apply And.intro|intro _|(refine gc (fun h=>?_) (fun h=>?_)<;>(have h':=h;(try simp at h');first|done|simp[h,h']|simp)))
      refine ⟨(none,i+1,r0),⟨by simp only; omega,by simp only; omega,rfl,fun j h hj=>?_⟩,?_,by simp only; omega⟩
      ·simp only at hj
       rcases Nat.lt_or_ge j i with c | c
       ·exact h0 j h c
       ·obtain rfl:j=i:=by omega
        rw [← hee]; exact hw
      exact sub_mk _ [(1000000,1000000,_),(2,2,_),(5,5,_)] ⟨by simp,by simp,by simp [renOf,Blk.live],base1⟩ (by simp [renOf,hwr])
   ·obtain rfl:i=7:=by omega
    have ho:=rOne_none (ws:=ws) (st:=r0) fun j h=>h0 j h (by omega)
    rw [ho] at hres
    simp only at hres
    have his:=r_is hs ha wJoin
    cases hw:rIs wJoin r0 with
    | false =>
      rw [hw] at his
      rw [if_neg (by rw [hw]; exact Bool.false_ne_true)] at hres
      subst hres
      simp [hwl]<;>(repeat' first|contradiction|exact .ok|apply And.intro|intro _|(refine gc (fun h=>?_) (fun h=>?_)<;>(have h':=h;(try simp at h');first|done|simp[h,h',hwl]|simp[hwl])))
      refine acallT_hand [1000000] (his) (by simp) (by simp) (by simp) (by simp) (by simp) ?_
      simp<;>(repeat' first|contradiction|exact .ok|apply And.intro|intro _|(refine gc (fun h=>?_) (fun h=>?_)<;>(have h':=h;(try simp at h');first|done|simp[h,h']|simp)))
      all_goals simp [Jo.a,Jo.c]
    | true =>
      rw [hw] at his
      rw [if_pos hw] at hres
      have ha1:=ha
      simp [hwl]<;>(repeat' first|contradiction|exact .ok|apply And.intro|intro _|(refine gc (fun h=>?_) (fun h=>?_)<;>(have h':=h;(try simp at h');first|done|simp[h,h',hwl]|simp[hwl])))
      refine acallT_hand [1000000] (his) (by simp) (by simp) (by simp) (by simp) (by simp) ?_
      simp<;>(repeat' first|contradiction|exact .ok|apply And.intro|intro _|(refine gc (fun h=>?_) (fun h=>?_)<;>(have h':=h;(try simp at h');first|done|simp[h,h']|simp)))
      have w2:=r_want hs ha1 wJoin
      have ha2:=ha1.kp (kp_want wJoin r0)
      have hl2:=(kp_want wJoin r0).len
      have hw2e:rWant wJoin r0=rWant wJoin r0:=rfl
      unfold joinR at hres
      simp only at hres
      generalize rWant wJoin r0=r2 at *
      have h2:=hso.run r2 ha2 (by omega)
      have ha3:=ha2.kp (hso.kp r2)
      have hl3:=(hso.kp r2).len
      generalize sourceR st r2=x at *
      obtain ⟨⟨ta,qs,na⟩,r3⟩:=x
      simp only [So.a,soA,soC,smsC_map] at hres h2 ha3 hl3
      have w3:=r_want hs ha3 wOn
      have ha4:=ha3.kp (kp_want wOn r3)
      have hl4:=(kp_want wOn r3).len
      rw [if_neg (by decide)] at hres
      generalize rWant wOn r3=r4 at *
      have h4:=ht.run r4 ha4 (by omega)
      generalize tm r4=y at *
      obtain ⟨t,r5⟩:=y
      simp only at hres h4
      subst hres
      refine acallT_hand [1000000] (w2) (by simp) (by simp) (by simp) (by simp) (by simp) ?_
      simp<;>(repeat' first|contradiction|exact .ok|apply And.intro|intro _|(refine gc (fun h=>?_) (fun h=>?_)<;>(have h':=h;(try simp at h');first|done|simp[h,h']|simp)))
      refine acallT_hand [1000000] (h2) (by simp) (by simp) (by simp) (by simp) (by simp) ?_
      simp<;>(repeat' first|contradiction|exact .ok|apply And.intro|intro _|(refine gc (fun h=>?_) (fun h=>?_)<;>(have h':=h;(try simp at h');first|done|simp[h,h']|simp)))
      refine acallT_hand [1000000] (w3) (by simp) (by simp) (by simp) (by simp) (by simp) ?_
      simp<;>(repeat' first|contradiction|exact .ok|apply And.intro|intro _|(refine gc (fun h=>?_) (fun h=>?_)<;>(have h':=h;(try simp at h');first|done|simp[h,h']|simp)))
      refine acallT_hand [1000000] (h4) (by simp) (by simp) (by simp) (by simp) (by simp) ?_
      simp<;>(repeat' first|contradiction|exact .ok|apply And.intro|intro _|(refine gc (fun h=>?_) (fun h=>?_)<;>(have h':=h;(try simp at h');first|done|simp[h,h']|simp)))
      all_goals simp [Jo.a,Jo.c]
end
end Go.Proofs.Tryz
