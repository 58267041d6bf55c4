import Derived.Test.YthpmjipkofbeiaaGreatDoorRdx
import Derived.Test.YthpmjipkofbeiaaGreatDoorTSqyRow
set_option linter.all false
namespace Go.Proofs.Tryz
open Go.Ab
set_option maxRecDepth 100000
set_option maxHeartbeats 4000000
structure RuR (s:List UInt8) (L:Nat) (f:FuncId) (q:RS→Tm×RS):Prop where
 run:∀ st:RS,At (toks s) st.1→st.1.length≤L→Cf Es f [.ptr 1000000 0 0] [rrB s st] (q st).1.a [rrB s (q st).2]
 kp:∀ st,Kp st (q st).2
theorem At.kp {T:List Tk} {st st':RS} (h:At T st.1) (k:Kp st st'):At T st'.1:=⟨k.1.trans h.sfx,k.2 h.ok⟩
theorem Kp.le {st st':RS} (k:Kp st st'):st'.1.length≤st.1.length:=k.1.length_le
theorem is_len {w:List UInt8} {st:RS} (h:rIs w st=true):(rNext st).1.length+1=st.1.length:=by
 obtain ⟨h1,h2⟩:=rIs_W h
 unfold rNext
 rw [if_pos h1]
 exact isW_len h2
theorem rOne1 (a:List UInt8) (st:RS):rOne [a] st=if rIs a st=true then some 0 else none:=by
 unfold rOne rIs oneOf
 by_cases h:st.2<0
 ·rw [if_pos h]
  simp [h,List.findIdx?_cons]
 ·rw [if_neg h]
  simp [h]
theorem rOne3 (a b c:List UInt8) (st:RS):rOne [a,b,c] st=if rIs a st=true then some 0 else if rIs b st=true then some 1 else if rIs c st=true then some 2 else none:=by
 unfold rOne rIs oneOf
 by_cases h:st.2<0
 ·rw [if_pos h]
  simp only [h,decide_true,Bool.true_and,List.findIdx?_cons,List.findIdx?_nil]
  cases isW a st.1 <;> cases isW b st.1 <;> cases isW c st.1 <;> rfl
 ·rw [if_neg h]
  simp [h]
theorem r_two (o:Int) (a b:Tm):Cf En 58 [.d (.int .i64 o),a.a,b.a] [] (mkT o [a,b]).a []:=by
 refine cf_intro mix (fn:=Tryz.f58) (by kernel_rfl) rfl (by kernel_rfl) (by decide) (by simp) ?_
 simp
 (repeat' (first|contradiction|exact .ok|apply And.intro|intro _|(refine gc (fun h=>?_) (fun h=>?_)<;>(have h':=h;(try simp at h');first|done|simp[h,h']|simp))))
 all_goals simp [mkT,Tm.c,tmsC]
theorem r_one (o:Int) (a:Tm):Cf En 135 [.d (.int .i64 o),a.a] [] (mkT o [a]).a []:=by
 refine cf_intro mix (fn:=Tryz.f135) (by kernel_rfl) rfl (by kernel_rfl) (by decide) (by simp) ?_
 simp
 (repeat' (first|contradiction|exact .ok|apply And.intro|intro _|(refine gc (fun h=>?_) (fun h=>?_)<;>(have h':=h;(try simp at h');first|done|simp[h,h']|simp))))
 all_goals simp [mkT,Tm.c,tmsC]
section
variable {s:List UInt8} (hs:s.length≤5000) {L:Nat} {q:RS→Tm×RS} {st:RS}
include hs
theorem take_yesR (ha:At (toks s) st.1) {w:List UInt8} (h:rIs w st=true):Cf Es 57 [.ptr 1000000 0 0,.d (.str w)] [rrB s st] (.d (.bool true)) [rrB s (rNext st)]:=by
 have h1:=r_take hs ha w
 rw [h,if_pos rfl] at h1
 exact h1
theorem take_noR (ha:At (toks s) st.1) {w:List UInt8} (h:rIs w st=false):Cf Es 57 [.ptr 1000000 0 0,.d (.str w)] [rrB s st] (.d (.bool false)) [rrB s st]:=by
 have h1:=r_take hs ha w
 rw [h,if_neg (by simp)] at h1
 exact h1
theorem r_term (hq:RuR s L 56 q) (ha:At (toks s) st.1) (hl:st.1.length≤L) :
  Cf Es 27 [.ptr 1000000 0 0] [rrB s st] (chainR q [wOr] [23] (q st).2.1.length (q st).1 (q st).2).1.a [rrB s (chainR q [wOr] [23] (q st).2.1.length (q st).1 (q st).2).2]:=by
 have h1:=hq.run st ha hl
 have k1:=hq.kp st
 generalize hres:chainR q [wOr] [23] (q st).2.1.length (q st).1 (q st).2=res
 refine cf_intro mixs (fn:=Tryz.f27) (by kernel_rfl) rfl (by kernel_rfl) (by decide) (by simp) ?_
 simp<;>(repeat' first|contradiction|exact .ok|apply And.intro|intro _|(refine gc (fun h=>?_) (fun h=>?_)<;>(have h':=h;(try simp at h');first|done|simp[h,h']|simp)))
 refine acallT_hand [1000000] (h1) (by simp) (by simp) (by simp) (by simp) (by simp) ?_
 simp<;>(repeat' first|contradiction|exact .ok|apply And.intro|intro _|(refine gc (fun h=>?_) (fun h=>?_)<;>(have h':=h;(try simp at h');first|done|simp[h,h']|simp)))
 refine aloopT mixs (by decide) (fun y:Tm×RS=>{ s:=mkS [(0,.ptr 1000000 0 0),(2,.ptr 2 0 0),(3,.ptr 3 0 0)],b:=mkB [(1000000,1000000,rrB s y.2),(2,2,.var zTm),(3,3,.var (y.1.c.map AV.d))] })
  (fun y=>At (toks s) y.2.1∧y.2.1.length≤L∧∃ k,y.2.1.length≤k∧chainR q [wOr] [23] k y.1 y.2=res) (fun y=>y.2.1.length) (q st) ⟨ha.kp k1,by have:=k1.le; omega,_,Nat.le_refl _,hres⟩
  (sub_mk _ [(1000000,1000000,_),(2,2,_),(3,3,_)] ⟨by simp,by simp,by simp [renOf,Blk.live],base1⟩ (by simp [renOf])) ?_
 rintro ⟨t,st1⟩ ⟨h2,hL,k,hk,hr⟩
 simp only at h2 hL hk hr
 cases hw:rIs wOr st1 with
 | true =>
   have hlen:=is_len hw
   obtain ⟨k,rfl⟩:∃ z,k=z+1:=⟨k - 1,by omega⟩
   rw [chainR,rOne1,if_pos hw] at hr
   simp only at hr
   have h3:=h2.kp (kp_is hw)
   have h4:=hq.run (rNext st1) h3 (by omega)
   have k4:=hq.kp (rNext st1)
   have hto:=take_yesR hs h2 hw
   obtain ⟨st2,hst2⟩:∃ st2,st2=rNext st1:=⟨_,rfl⟩
   rw [← hst2] at hr h3 h4 k4 hto hlen
   simp<;>(repeat' first|contradiction|exact .ok|apply And.intro|intro _|(refine gc (fun h=>?_) (fun h=>?_)<;>(have h':=h;(try simp at h');first|done|simp[h,h']|simp)))
   refine acallT_hand [1000000] (hto) (by simp) (by simp) (by simp) (by simp) (by simp) ?_
   simp<;>(repeat' first|contradiction|exact .ok|apply And.intro|intro _|(refine gc (fun h=>?_) (fun h=>?_)<;>(have h':=h;(try simp at h');first|done|simp[h,h']|simp)))
   refine acallT_hand [1000000] (h4) (by simp) (by simp) (by simp) (by simp) (by simp) ?_
   simp<;>(repeat' first|contradiction|exact .ok|apply And.intro|intro _|(refine gc (fun h=>?_) (fun h=>?_)<;>(have h':=h;(try simp at h');first|done|simp[h,h']|simp)))
   refine acallT_plain (ups (r_two 23 t (q st2).1)) (by simp) ?_
   simp<;>(repeat' first|contradiction|exact .ok|apply And.intro|intro _|(refine gc (fun h=>?_) (fun h=>?_)<;>(have h':=h;(try simp at h');first|done|simp[h,h']|simp)))
   refine ⟨(mkT 23 [t,(q st2).1],(q st2).2),⟨h3.kp k4,by have:=k4.le; simp only; omega,k,by have:=k4.le; simp only; omega,hr⟩,?_,by have:=k4.le; simp only; omega⟩
   exact sub_mk _ [(1000000,1000000,_),(2,2,_),(3,3,_)] ⟨by simp,by simp,by simp [renOf,Blk.live],base1⟩ (by simp [renOf])
 | false =>
   have hc:chainR q [wOr] [23] k t st1=(t,st1):=by
    cases k with
    | zero=>rfl
    | succ k=>rw [chainR,rOne1,hw]; rfl
   rw [hc] at hr
   subst hr
   simp<;>(repeat' first|contradiction|exact .ok|apply And.intro|intro _|(refine gc (fun h=>?_) (fun h=>?_)<;>(have h':=h;(try simp at h');first|done|simp[h,h']|simp)))
   refine acallT_hand [1000000] (take_noR hs h2 hw) (by simp) (by simp) (by simp) (by simp) (by simp) ?_
   simp<;>(repeat' first|contradiction|exact .ok|apply And.intro|intro _|(refine gc (fun h=>?_) (fun h=>?_)<;>(have h':=h;(try simp at h');first|done|simp[h,h']|simp)))
theorem r_and (hq:RuR s L 94 q) (ha:At (toks s) st.1) (hl:st.1.length≤L) :
  Cf Es 56 [.ptr 1000000 0 0] [rrB s st] (chainR q [wAnd] [22] (q st).2.1.length (q st).1 (q st).2).1.a [rrB s (chainR q [wAnd] [22] (q st).2.1.length (q st).1 (q st).2).2]:=by
 have h1:=hq.run st ha hl
 have k1:=hq.kp st
 generalize hres:chainR q [wAnd] [22] (q st).2.1.length (q st).1 (q st).2=res
 refine cf_intro mixs (fn:=Tryz.f56) (by kernel_rfl) rfl (by kernel_rfl) (by decide) (by simp) ?_
 simp<;>(repeat' first|contradiction|exact .ok|apply And.intro|intro _|(refine gc (fun h=>?_) (fun h=>?_)<;>(have h':=h;(try simp at h');first|done|simp[h,h']|simp)))
 refine acallT_hand [1000000] (h1) (by simp) (by simp) (by simp) (by simp) (by simp) ?_
 simp<;>(repeat' first|contradiction|exact .ok|apply And.intro|intro _|(refine gc (fun h=>?_) (fun h=>?_)<;>(have h':=h;(try simp at h');first|done|simp[h,h']|simp)))
 refine aloopT mixs (by decide) (fun y:Tm×RS=>{ s:=mkS [(0,.ptr 1000000 0 0),(2,.ptr 2 0 0),(3,.ptr 3 0 0)],b:=mkB [(1000000,1000000,rrB s y.2),(2,2,.var zTm),(3,3,.var (y.1.c.map AV.d))] })
  (fun y=>At (toks s) y.2.1∧y.2.1.length≤L∧∃ k,y.2.1.length≤k∧chainR q [wAnd] [22] k y.1 y.2=res) (fun y=>y.2.1.length) (q st) ⟨ha.kp k1,by have:=k1.le; omega,_,Nat.le_refl _,hres⟩
  (sub_mk _ [(1000000,1000000,_),(2,2,_),(3,3,_)] ⟨by simp,by simp,by simp [renOf,Blk.live],base1⟩ (by simp [renOf])) ?_
 rintro ⟨t,st1⟩ ⟨h2,hL,k,hk,hr⟩
 simp only at h2 hL hk hr
 cases hw:rIs wAnd st1 with
 | true =>
   have hlen:=is_len hw
   obtain ⟨k,rfl⟩:∃ z,k=z+1:=⟨k - 1,by omega⟩
   rw [chainR,rOne1,if_pos hw] at hr
   simp only at hr
   have h3:=h2.kp (kp_is hw)
   have h4:=hq.run (rNext st1) h3 (by omega)
   have k4:=hq.kp (rNext st1)
   have hto:=take_yesR hs h2 hw
   obtain ⟨st2,hst2⟩:∃ st2,st2=rNext st1:=⟨_,rfl⟩
   rw [← hst2] at hr h3 h4 k4 hto hlen
   simp<;>(repeat' first|contradiction|exact .ok|apply And.intro|intro _|(refine gc (fun h=>?_) (fun h=>?_)<;>(have h':=h;(try simp at h');first|done|simp[h,h']|simp)))
   refine acallT_hand [1000000] (hto) (by simp) (by simp) (by simp) (by simp) (by simp) ?_
   simp<;>(repeat' first|contradiction|exact .ok|apply And.intro|intro _|(refine gc (fun h=>?_) (fun h=>?_)<;>(have h':=h;(try simp at h');first|done|simp[h,h']|simp)))
   refine acallT_hand [1000000] (h4) (by simp) (by simp) (by simp) (by simp) (by simp) ?_
   simp<;>(repeat' first|contradiction|exact .ok|apply And.intro|intro _|(refine gc (fun h=>?_) (fun h=>?_)<;>(have h':=h;(try simp at h');first|done|simp[h,h']|simp)))
   refine acallT_plain (ups (r_two 22 t (q st2).1)) (by simp) ?_
   simp<;>(repeat' first|contradiction|exact .ok|apply And.intro|intro _|(refine gc (fun h=>?_) (fun h=>?_)<;>(have h':=h;(try simp at h');first|done|simp[h,h']|simp)))
   refine ⟨(mkT 22 [t,(q st2).1],(q st2).2),⟨h3.kp k4,by have:=k4.le; simp only; omega,k,by have:=k4.le; simp only; omega,hr⟩,?_,by have:=k4.le; simp only; omega⟩
   exact sub_mk _ [(1000000,1000000,_),(2,2,_),(3,3,_)] ⟨by simp,by simp,by simp [renOf,Blk.live],base1⟩ (by simp [renOf])
 | false =>
   have hc:chainR q [wAnd] [22] k t st1=(t,st1):=by
    cases k with
    | zero=>rfl
    | succ k=>rw [chainR,rOne1,hw]; rfl
   rw [hc] at hr
   subst hr
   simp<;>(repeat' first|contradiction|exact .ok|apply And.intro|intro _|(refine gc (fun h=>?_) (fun h=>?_)<;>(have h':=h;(try simp at h');first|done|simp[h,h']|simp)))
   refine acallT_hand [1000000] (take_noR hs h2 hw) (by simp) (by simp) (by simp) (by simp) (by simp) ?_
   simp<;>(repeat' first|contradiction|exact .ok|apply And.intro|intro _|(refine gc (fun h=>?_) (fun h=>?_)<;>(have h':=h;(try simp at h');first|done|simp[h,h']|simp)))
theorem r_sum (hq:RuR s L 189 q) (ha:At (toks s) st.1) (hl:st.1.length≤L) :
  Cf Es 170 [.ptr 1000000 0 0] [rrB s st] (chainR q addW [6,7,12] (q st).2.1.length (q st).1 (q st).2).1.a [rrB s (chainR q addW [6,7,12] (q st).2.1.length (q st).1 (q st).2).2]:=by
 have h1:=hq.run st ha hl
 have k1:=hq.kp st
 generalize hres:chainR q addW [6,7,12] (q st).2.1.length (q st).1 (q st).2=res
 refine cf_intro mixs (fn:=Tryz.f170) (by kernel_rfl) rfl (by kernel_rfl) (by decide) (by simp) ?_
 simp<;>(repeat' first|contradiction|exact .ok|apply And.intro|intro _|(refine gc (fun h=>?_) (fun h=>?_)<;>(have h':=h;(try simp at h');first|done|simp[h,h']|simp)))
 refine acallT_hand [1000000] (h1) (by simp) (by simp) (by simp) (by simp) (by simp) ?_
 simp<;>(repeat' first|contradiction|exact .ok|apply And.intro|intro _|(refine gc (fun h=>?_) (fun h=>?_)<;>(have h':=h;(try simp at h');first|done|simp[h,h']|simp)))
 refine aloopT mixs (by decide) (fun y:Tm×RS=>{ s:=mkS [(0,.ptr 1000000 0 0),(2,.ptr 2 0 0),(3,.ptr 3 0 0)],b:=mkB [(1000000,1000000,rrB s y.2),(2,2,.var zTm),(3,3,.var (y.1.c.map AV.d))] })
  (fun y=>At (toks s) y.2.1∧y.2.1.length≤L∧∃ k,y.2.1.length≤k∧chainR q addW [6,7,12] k y.1 y.2=res) (fun y=>y.2.1.length) (q st) ⟨ha.kp k1,by have:=k1.le; omega,_,Nat.le_refl _,hres⟩
  (sub_mk _ [(1000000,1000000,_),(2,2,_),(3,3,_)] ⟨by simp,by simp,by simp [renOf,Blk.live],base1⟩ (by simp [renOf])) ?_
 rintro ⟨t,st1⟩ ⟨h2,hL,k,hk,hr⟩
 simp only at h2 hL hk hr
 by_cases hbad:st1.2<0
 ·have hst:∀ (i:Nat) (op:Int) (w:List UInt8),rIs w st1=true→rOne addW st1=some i→(([6,7,12]:List Int)[i]?).getD 0=op →
    ∃ k',k=k'+1∧chainR q addW [6,7,12] k' (mkT op [t,(q (rNext st1)).1]) (q (rNext st1)).2=res:=fun i op w hw ho hop=>by
   have hlen:=is_len hw
   obtain ⟨k,rfl⟩:∃ z,k=z+1:=⟨k - 1,by omega⟩
   rw [chainR,ho] at hr
   simp only [hop] at hr
   exact ⟨k,rfl,hr⟩
  cases hw0:rIs [43] st1 with
  | true =>
    have ho:rOne addW st1=some 0:=by show rOne [[43],[45],[124,124]] st1=_; rw [rOne3,if_pos hw0]
    obtain ⟨k',hk',hr'⟩:=hst 0 6 _ hw0 ho rfl
    have hlen:=is_len hw0
    have h3:=h2.kp (kp_is hw0)
    have h4:=hq.run (rNext st1) h3 (by omega)
    have k4:=hq.kp (rNext st1)
    have hto:=take_yesR hs h2 hw0
    obtain ⟨st2,hst2⟩:∃ st2,st2=rNext st1:=⟨_,rfl⟩
    rw [← hst2] at hr' h3 h4 k4 hto hlen
    simp [hbad]<;>(repeat' first|contradiction|exact .ok|apply And.intro|intro _|(refine gc (fun h=>?_) (fun h=>?_)<;>(have h':=h;(try simp at h');first|done|simp[h,h',hbad]|simp[hbad])))
    refine acallT_hand [1000000] (hto) (by simp) (by simp) (by simp) (by simp) (by simp) ?_
    simp<;>(repeat' first|contradiction|exact .ok|apply And.intro|intro _|(refine gc (fun h=>?_) (fun h=>?_)<;>(have h':=h;(try simp at h');first|done|simp[h,h']|simp)))
    refine acallT_hand [1000000] (h4) (by simp) (by simp) (by simp) (by simp) (by simp) ?_
    simp<;>(repeat' first|contradiction|exact .ok|apply And.intro|intro _|(refine gc (fun h=>?_) (fun h=>?_)<;>(have h':=h;(try simp at h');first|done|simp[h,h']|simp)))
    refine acallT_plain (ups (r_two 6 t (q st2).1)) (by simp) ?_
    simp<;>(repeat' first|contradiction|exact .ok|apply And.intro|intro _|(refine gc (fun h=>?_) (fun h=>?_)<;>(have h':=h;(try simp at h');first|done|simp[h,h']|simp)))
    refine ⟨(mkT 6 [t,(q st2).1],(q st2).2),⟨h3.kp k4,by have:=k4.le; simp only; omega,k',by have:=k4.le; simp only; omega,hr'⟩,?_,by have:=k4.le; simp only; omega⟩
    exact sub_mk _ [(1000000,1000000,_),(2,2,_),(3,3,_)] ⟨by simp,by simp,by simp [renOf,Blk.live],base1⟩ (by simp [renOf])
  | false =>
  cases hw1:rIs [45] st1 with
  | true =>
    have ho:rOne addW st1=some 1:=by show rOne [[43],[45],[124,124]] st1=_; rw [rOne3,if_neg (by simp [hw0]),if_pos hw1]
    obtain ⟨k',hk',hr'⟩:=hst 1 7 _ hw1 ho rfl
    have hlen:=is_len hw1
    have h3:=h2.kp (kp_is hw1)
    have h4:=hq.run (rNext st1) h3 (by omega)
    have k4:=hq.kp (rNext st1)
    have hto:=take_yesR hs h2 hw1
    obtain ⟨st2,hst2⟩:∃ st2,st2=rNext st1:=⟨_,rfl⟩
    rw [← hst2] at hr' h3 h4 k4 hto hlen
    simp [hbad]<;>(repeat' first|contradiction|exact .ok|apply And.intro|intro _|(refine gc (fun h=>?_) (fun h=>?_)<;>(have h':=h;(try simp at h');first|done|simp[h,h',hbad]|simp[hbad])))
    refine acallT_hand [1000000] (take_noR hs h2 hw0) (by simp) (by simp) (by simp) (by simp) (by simp) ?_
    simp<;>(repeat' first|contradiction|exact .ok|apply And.intro|intro _|(refine gc (fun h=>?_) (fun h=>?_)<;>(have h':=h;(try simp at h');first|done|simp[h,h']|simp)))
    refine acallT_hand [1000000] (hto) (by simp) (by simp) (by simp) (by simp) (by simp) ?_
    simp<;>(repeat' first|contradiction|exact .ok|apply And.intro|intro _|(refine gc (fun h=>?_) (fun h=>?_)<;>(have h':=h;(try simp at h');first|done|simp[h,h']|simp)))
    refine acallT_hand [1000000] (h4) (by simp) (by simp) (by simp) (by simp) (by simp) ?_
    simp<;>(repeat' first|contradiction|exact .ok|apply And.intro|intro _|(refine gc (fun h=>?_) (fun h=>?_)<;>(have h':=h;(try simp at h');first|done|simp[h,h']|simp)))
    refine acallT_plain (ups (r_two 7 t (q st2).1)) (by simp) ?_
    simp<;>(repeat' first|contradiction|exact .ok|apply And.intro|intro _|(refine gc (fun h=>?_) (fun h=>?_)<;>(have h':=h;(try simp at h');first|done|simp[h,h']|simp)))
    refine ⟨(mkT 7 [t,(q st2).1],(q st2).2),⟨h3.kp k4,by have:=k4.le; simp only; omega,k',by have:=k4.le; simp only; omega,hr'⟩,?_,by have:=k4.le; simp only; omega⟩
    exact sub_mk _ [(1000000,1000000,_),(2,2,_),(3,3,_)] ⟨by simp,by simp,by simp [renOf,Blk.live],base1⟩ (by simp [renOf])
  | false =>
  cases hw2:rIs [124,124] st1 with
  | true =>
    have ho:rOne addW st1=some 2:=by show rOne [[43],[45],[124,124]] st1=_; rw [rOne3,if_neg (by simp [hw0]),if_neg (by simp [hw1]),if_pos hw2]
    obtain ⟨k',hk',hr'⟩:=hst 2 12 _ hw2 ho rfl
    have hlen:=is_len hw2
    have h3:=h2.kp (kp_is hw2)
    have h4:=hq.run (rNext st1) h3 (by omega)
    have k4:=hq.kp (rNext st1)
    have hto:=take_yesR hs h2 hw2
    obtain ⟨st2,hst2⟩:∃ st2,st2=rNext st1:=⟨_,rfl⟩
    rw [← hst2] at hr' h3 h4 k4 hto hlen
    simp [hbad]<;>(repeat' first|contradiction|exact .ok|apply And.intro|intro _|(refine gc (fun h=>?_) (fun h=>?_)<;>(have h':=h;(try simp at h');first|done|simp[h,h',hbad]|simp[hbad])))
    refine acallT_hand [1000000] (take_noR hs h2 hw0) (by simp) (by simp) (by simp) (by simp) (by simp) ?_
    simp<;>(repeat' first|contradiction|exact .ok|apply And.intro|intro _|(refine gc (fun h=>?_) (fun h=>?_)<;>(have h':=h;(try simp at h');first|done|simp[h,h']|simp)))
    refine acallT_hand [1000000] (take_noR hs h2 hw1) (by simp) (by simp) (by simp) (by simp) (by simp) ?_
    simp<;>(repeat' first|contradiction|exact .ok|apply And.intro|intro _|(refine gc (fun h=>?_) (fun h=>?_)<;>(have h':=h;(try simp at h');first|done|simp[h,h']|simp)))
    refine acallT_hand [1000000] (hto) (by simp) (by simp) (by simp) (by simp) (by simp) ?_
    simp<;>(repeat' first|contradiction|exact .ok|apply And.intro|intro _|(refine gc (fun h=>?_) (fun h=>?_)<;>(have h':=h;(try simp at h');first|done|simp[h,h']|simp)))
    refine acallT_hand [1000000] (h4) (by simp) (by simp) (by simp) (by simp) (by simp) ?_
    simp<;>(repeat' first|contradiction|exact .ok|apply And.intro|intro _|(refine gc (fun h=>?_) (fun h=>?_)<;>(have h':=h;(try simp at h');first|done|simp[h,h']|simp)))
    refine acallT_plain (ups (r_two 12 t (q st2).1)) (by simp) ?_
    simp<;>(repeat' first|contradiction|exact .ok|apply And.intro|intro _|(refine gc (fun h=>?_) (fun h=>?_)<;>(have h':=h;(try simp at h');first|done|simp[h,h']|simp)))
    refine ⟨(mkT 12 [t,(q st2).1],(q st2).2),⟨h3.kp k4,by have:=k4.le; simp only; omega,k',by have:=k4.le; simp only; omega,hr'⟩,?_,by have:=k4.le; simp only; omega⟩
    exact sub_mk _ [(1000000,1000000,_),(2,2,_),(3,3,_)] ⟨by simp,by simp,by simp [renOf,Blk.live],base1⟩ (by simp [renOf])
  | false =>
  have ho:rOne addW st1=none:=by show rOne [[43],[45],[124,124]] st1=_; rw [rOne3,if_neg (by simp [hw0]),if_neg (by simp [hw1]),if_neg (by simp [hw2])]
  have hc:chainR q addW [6,7,12] k t st1=(t,st1):=by
   cases k with
   | zero=>rfl
   | succ k=>rw [chainR,ho]
  rw [hc] at hr
  subst hr
  simp [hbad]<;>(repeat' first|contradiction|exact .ok|apply And.intro|intro _|(refine gc (fun h=>?_) (fun h=>?_)<;>(have h':=h;(try simp at h');first|done|simp[h,h',hbad]|simp[hbad])))
  refine acallT_hand [1000000] (take_noR hs h2 hw0) (by simp) (by simp) (by simp) (by simp) (by simp) ?_
  simp<;>(repeat' first|contradiction|exact .ok|apply And.intro|intro _|(refine gc (fun h=>?_) (fun h=>?_)<;>(have h':=h;(try simp at h');first|done|simp[h,h']|simp)))
  refine acallT_hand [1000000] (take_noR hs h2 hw1) (by simp) (by simp) (by simp) (by simp) (by simp) ?_
  simp<;>(repeat' first|contradiction|exact .ok|apply And.intro|intro _|(refine gc (fun h=>?_) (fun h=>?_)<;>(have h':=h;(try simp at h');first|done|simp[h,h']|simp)))
  refine acallT_hand [1000000] (take_noR hs h2 hw2) (by simp) (by simp) (by simp) (by simp) (by simp) ?_
  simp<;>(repeat' first|contradiction|exact .ok|apply And.intro|intro _|(refine gc (fun h=>?_) (fun h=>?_)<;>(have h':=h;(try simp at h');first|done|simp[h,h']|simp)))
 ·have hc:chainR q addW [6,7,12] k t st1=(t,st1):=chain_bad (by omega) q _ _ k t
  rw [hc] at hr
  subst hr
  have hbad':0≤st1.2:=by omega
  simp [hbad,hbad']<;>(repeat' first|contradiction|exact .ok|apply And.intro|intro _|(refine gc (fun h=>?_) (fun h=>?_)<;>(have h':=h;(try simp at h');first|done|simp[h,h',hbad,hbad']|simp[hbad,hbad'])))
theorem r_product (hq:RuR s L 199 q) (ha:At (toks s) st.1) (hl:st.1.length≤L) :
  Cf Es 189 [.ptr 1000000 0 0] [rrB s st] (chainR q mulW [8,9,10] (q st).2.1.length (q st).1 (q st).2).1.a [rrB s (chainR q mulW [8,9,10] (q st).2.1.length (q st).1 (q st).2).2]:=by
 have h1:=hq.run st ha hl
 have k1:=hq.kp st
 generalize hres:chainR q mulW [8,9,10] (q st).2.1.length (q st).1 (q st).2=res
 refine cf_intro mixs (fn:=Tryz.f189) (by kernel_rfl) rfl (by kernel_rfl) (by decide) (by simp) ?_
 simp<;>(repeat' first|contradiction|exact .ok|apply And.intro|intro _|(refine gc (fun h=>?_) (fun h=>?_)<;>(have h':=h;(try simp at h');first|done|simp[h,h']|simp)))
 refine acallT_hand [1000000] (h1) (by simp) (by simp) (by simp) (by simp) (by simp) ?_
 simp<;>(repeat' first|contradiction|exact .ok|apply And.intro|intro _|(refine gc (fun h=>?_) (fun h=>?_)<;>(have h':=h;(try simp at h');first|done|simp[h,h']|simp)))
 refine aloopT mixs (by decide) (fun y:Tm×RS=>{ s:=mkS [(0,.ptr 1000000 0 0),(2,.ptr 2 0 0),(3,.ptr 3 0 0)],b:=mkB [(1000000,1000000,rrB s y.2),(2,2,.var zTm),(3,3,.var (y.1.c.map AV.d))] })
  (fun y=>At (toks s) y.2.1∧y.2.1.length≤L∧∃ k,y.2.1.length≤k∧chainR q mulW [8,9,10] k y.1 y.2=res) (fun y=>y.2.1.length) (q st) ⟨ha.kp k1,by have:=k1.le; omega,_,Nat.le_refl _,hres⟩
  (sub_mk _ [(1000000,1000000,_),(2,2,_),(3,3,_)] ⟨by simp,by simp,by simp [renOf,Blk.live],base1⟩ (by simp [renOf])) ?_
 rintro ⟨t,st1⟩ ⟨h2,hL,k,hk,hr⟩
 simp only at h2 hL hk hr
 by_cases hbad:st1.2<0
 ·have hst:∀ (i:Nat) (op:Int) (w:List UInt8),rIs w st1=true→rOne mulW st1=some i→(([8,9,10]:List Int)[i]?).getD 0=op →
    ∃ k',k=k'+1∧chainR q mulW [8,9,10] k' (mkT op [t,(q (rNext st1)).1]) (q (rNext st1)).2=res:=fun i op w hw ho hop=>by
   have hlen:=is_len hw
   obtain ⟨k,rfl⟩:∃ z,k=z+1:=⟨k - 1,by omega⟩
   rw [chainR,ho] at hr
   simp only [hop] at hr
   exact ⟨k,rfl,hr⟩
  cases hw0:rIs [42] st1 with
  | true =>
    have ho:rOne mulW st1=some 0:=by show rOne [[42],[47],[109,111,100]] st1=_; rw [rOne3,if_pos hw0]
    obtain ⟨k',hk',hr'⟩:=hst 0 8 _ hw0 ho rfl
    have hlen:=is_len hw0
    have h3:=h2.kp (kp_is hw0)
    have h4:=hq.run (rNext st1) h3 (by omega)
    have k4:=hq.kp (rNext st1)
    have hto:=take_yesR hs h2 hw0
    obtain ⟨st2,hst2⟩:∃ st2,st2=rNext st1:=⟨_,rfl⟩
    rw [← hst2] at hr' h3 h4 k4 hto hlen
    simp [hbad]<;>(repeat' first|contradiction|exact .ok|apply And.intro|intro _|(refine gc (fun h=>?_) (fun h=>?_)<;>(have h':=h;(try simp at h');first|done|simp[h,h',hbad]|simp[hbad])))
    refine acallT_hand [1000000] (hto) (by simp) (by simp) (by simp) (by simp) (by simp) ?_
    simp<;>(repeat' first|contradiction|exact .ok|apply And.intro|intro _|(refine gc (fun h=>?_) (fun h=>?_)<;>(have h':=h;(try simp at h');first|done|simp[h,h']|simp)))
    refine acallT_hand [1000000] (h4) (by simp) (by simp) (by simp) (by simp) (by simp) ?_
    simp<;>(repeat' first|contradiction|exact .ok|apply And.intro|intro _|(refine gc (fun h=>?_) (fun h=>?_)<;>(have h':=h;(try simp at h');first|done|simp[h,h']|simp)))
    refine acallT_plain (ups (r_two 8 t (q st2).1)) (by simp) ?_
    simp<;>(repeat' first|contradiction|exact .ok|apply And.intro|intro _|(refine gc (fun h=>?_) (fun h=>?_)<;>(have h':=h;(try simp at h');first|done|simp[h,h']|simp)))
    refine ⟨(mkT 8 [t,(q st2).1],(q st2).2),⟨h3.kp k4,by have:=k4.le; simp only; omega,k',by have:=k4.le; simp only; omega,hr'⟩,?_,by have:=k4.le; simp only; omega⟩
    exact sub_mk _ [(1000000,1000000,_),(2,2,_),(3,3,_)] ⟨by simp,by simp,by simp [renOf,Blk.live],base1⟩ (by simp [renOf])
  | false =>
  cases hw1:rIs [47] st1 with
  | true =>
    have ho:rOne mulW st1=some 1:=by show rOne [[42],[47],[109,111,100]] st1=_; rw [rOne3,if_neg (by simp [hw0]),if_pos hw1]
    obtain ⟨k',hk',hr'⟩:=hst 1 9 _ hw1 ho rfl
    have hlen:=is_len hw1
    have h3:=h2.kp (kp_is hw1)
    have h4:=hq.run (rNext st1) h3 (by omega)
    have k4:=hq.kp (rNext st1)
    have hto:=take_yesR hs h2 hw1
    obtain ⟨st2,hst2⟩:∃ st2,st2=rNext st1:=⟨_,rfl⟩
    rw [← hst2] at hr' h3 h4 k4 hto hlen
    simp [hbad]<;>(repeat' first|contradiction|exact .ok|apply And.intro|intro _|(refine gc (fun h=>?_) (fun h=>?_)<;>(have h':=h;(try simp at h');first|done|simp[h,h',hbad]|simp[hbad])))
    refine acallT_hand [1000000] (take_noR hs h2 hw0) (by simp) (by simp) (by simp) (by simp) (by simp) ?_
    simp<;>(repeat' first|contradiction|exact .ok|apply And.intro|intro _|(refine gc (fun h=>?_) (fun h=>?_)<;>(have h':=h;(try simp at h');first|done|simp[h,h']|simp)))
    refine acallT_hand [1000000] (hto) (by simp) (by simp) (by simp) (by simp) (by simp) ?_
    simp<;>(repeat' first|contradiction|exact .ok|apply And.intro|intro _|(refine gc (fun h=>?_) (fun h=>?_)<;>(have h':=h;(try simp at h');first|done|simp[h,h']|simp)))
    refine acallT_hand [1000000] (h4) (by simp) (by simp) (by simp) (by simp) (by simp) ?_
    simp<;>(repeat' first|contradiction|exact .ok|apply And.intro|intro _|(refine gc (fun h=>?_) (fun h=>?_)<;>(have h':=h;(try simp at h');first|done|simp[h,h']|simp)))
    refine acallT_plain (ups (r_two 9 t (q st2).1)) (by simp) ?_
    simp<;>(repeat' first|contradiction|exact .ok|apply And.intro|intro _|(refine gc (fun h=>?_) (fun h=>?_)<;>(have h':=h;(try simp at h');first|done|simp[h,h']|simp)))
    refine ⟨(mkT 9 [t,(q st2).1],(q st2).2),⟨h3.kp k4,by have:=k4.le; simp only; omega,k',by have:=k4.le; simp only; omega,hr'⟩,?_,by have:=k4.le; simp only; omega⟩
    exact sub_mk _ [(1000000,1000000,_),(2,2,_),(3,3,_)] ⟨by simp,by simp,by simp [renOf,Blk.live],base1⟩ (by simp [renOf])
  | false =>
  cases hw2:rIs [109,111,100] st1 with
  | true =>
    have ho:rOne mulW st1=some 2:=by show rOne [[42],[47],[109,111,100]] st1=_; rw [rOne3,if_neg (by simp [hw0]),if_neg (by simp [hw1]),if_pos hw2]
    obtain ⟨k',hk',hr'⟩:=hst 2 10 _ hw2 ho rfl
    have hlen:=is_len hw2
    have h3:=h2.kp (kp_is hw2)
    have h4:=hq.run (rNext st1) h3 (by omega)
    have k4:=hq.kp (rNext st1)
    have hto:=take_yesR hs h2 hw2
    obtain ⟨st2,hst2⟩:∃ st2,st2=rNext st1:=⟨_,rfl⟩
    rw [← hst2] at hr' h3 h4 k4 hto hlen
    simp [hbad]<;>(repeat' first|contradiction|exact .ok|apply And.intro|intro _|(refine gc (fun h=>?_) (fun h=>?_)<;>(have h':=h;(try simp at h');first|done|simp[h,h',hbad]|simp[hbad])))
    refine acallT_hand [1000000] (take_noR hs h2 hw0) (by simp) (by simp) (by simp) (by simp) (by simp) ?_
    simp<;>(repeat' first|contradiction|exact .ok|apply And.intro|intro _|(refine gc (fun h=>?_) (fun h=>?_)<;>(have h':=h;(try simp at h');first|done|simp[h,h']|simp)))
    refine acallT_hand [1000000] (take_noR hs h2 hw1) (by simp) (by simp) (by simp) (by simp) (by simp) ?_
    simp<;>(repeat' first|contradiction|exact .ok|apply And.intro|intro _|(refine gc (fun h=>?_) (fun h=>?_)<;>(have h':=h;(try simp at h');first|done|simp[h,h']|simp)))
    refine acallT_hand [1000000] (hto) (by simp) (by simp) (by simp) (by simp) (by simp) ?_
    simp<;>(repeat' first|contradiction|exact .ok|apply And.intro|intro _|(refine gc (fun h=>?_) (fun h=>?_)<;>(have h':=h;(try simp at h');first|done|simp[h,h']|simp)))
    refine acallT_hand [1000000] (h4) (by simp) (by simp) (by simp) (by simp) (by simp) ?_
    simp<;>(repeat' first|contradiction|exact .ok|apply And.intro|intro _|(refine gc (fun h=>?_) (fun h=>?_)<;>(have h':=h;(try simp at h');first|done|simp[h,h']|simp)))
    refine acallT_plain (ups (r_two 10 t (q st2).1)) (by simp) ?_
    simp<;>(repeat' first|contradiction|exact .ok|apply And.intro|intro _|(refine gc (fun h=>?_) (fun h=>?_)<;>(have h':=h;(try simp at h');first|done|simp[h,h']|simp)))
    refine ⟨(mkT 10 [t,(q st2).1],(q st2).2),⟨h3.kp k4,by have:=k4.le; simp only; omega,k',by have:=k4.le; simp only; omega,hr'⟩,?_,by have:=k4.le; simp only; omega⟩
    exact sub_mk _ [(1000000,1000000,_),(2,2,_),(3,3,_)] ⟨by simp,by simp,by simp [renOf,Blk.live],base1⟩ (by simp [renOf])
  | false =>
  have ho:rOne mulW st1=none:=by show rOne [[42],[47],[109,111,100]] st1=_; rw [rOne3,if_neg (by simp [hw0]),if_neg (by simp [hw1]),if_neg (by simp [hw2])]
  have hc:chainR q mulW [8,9,10] k t st1=(t,st1):=by
   cases k with
   | zero=>rfl
   | succ k=>rw [chainR,ho]
  rw [hc] at hr
  subst hr
  simp [hbad]<;>(repeat' first|contradiction|exact .ok|apply And.intro|intro _|(refine gc (fun h=>?_) (fun h=>?_)<;>(have h':=h;(try simp at h');first|done|simp[h,h',hbad]|simp[hbad])))
  refine acallT_hand [1000000] (take_noR hs h2 hw0) (by simp) (by simp) (by simp) (by simp) (by simp) ?_
  simp<;>(repeat' first|contradiction|exact .ok|apply And.intro|intro _|(refine gc (fun h=>?_) (fun h=>?_)<;>(have h':=h;(try simp at h');first|done|simp[h,h']|simp)))
  refine acallT_hand [1000000] (take_noR hs h2 hw1) (by simp) (by simp) (by simp) (by simp) (by simp) ?_
  simp<;>(repeat' first|contradiction|exact .ok|apply And.intro|intro _|(refine gc (fun h=>?_) (fun h=>?_)<;>(have h':=h;(try simp at h');first|done|simp[h,h']|simp)))
  refine acallT_hand [1000000] (take_noR hs h2 hw2) (by simp) (by simp) (by simp) (by simp) (by simp) ?_
  simp<;>(repeat' first|contradiction|exact .ok|apply And.intro|intro _|(refine gc (fun h=>?_) (fun h=>?_)<;>(have h':=h;(try simp at h');first|done|simp[h,h']|simp)))
 ·have hc:chainR q mulW [8,9,10] k t st1=(t,st1):=chain_bad (by omega) q _ _ k t
  rw [hc] at hr
  subst hr
  have hbad':0≤st1.2:=by omega
  simp [hbad,hbad']<;>(repeat' first|contradiction|exact .ok|apply And.intro|intro _|(refine gc (fun h=>?_) (fun h=>?_)<;>(have h':=h;(try simp at h');first|done|simp[h,h',hbad,hbad']|simp[hbad,hbad'])))
theorem r_not {q':RS→Tm×RS} (hq:RuR s L 94 q) (hq':RuR s (L+1) 136 q') (ha:At (toks s) st.1) (hl:st.1.length≤L+1) :
  Cf Es 94 [.ptr 1000000 0 0] [rrB s st] (if rIs wNot st=true then (mkT 24 [(q (rNext st)).1],(q (rNext st)).2) else q' st).1.a [rrB s (if rIs wNot st=true then (mkT 24 [(q (rNext st)).1],(q (rNext st)).2) else q' st).2]:=by
 refine cf_intro mixs (fn:=Tryz.f94) (by kernel_rfl) rfl (by kernel_rfl) (by decide) (by simp) ?_
 cases hw:rIs wNot st with
 | true =>
   have hlen:=is_len hw
   have h4:=hq.run (rNext st) (ha.kp (kp_is hw)) (by omega)
   simp only [if_true]
   simp<;>(repeat' first|contradiction|exact .ok|apply And.intro|intro _|(refine gc (fun h=>?_) (fun h=>?_)<;>(have h':=h;(try simp at h');first|done|simp[h,h']|simp)))
   refine acallT_hand [1000000] (take_yesR hs ha hw) (by simp) (by simp) (by simp) (by simp) (by simp) ?_
   simp<;>(repeat' first|contradiction|exact .ok|apply And.intro|intro _|(refine gc (fun h=>?_) (fun h=>?_)<;>(have h':=h;(try simp at h');first|done|simp[h,h']|simp)))
   refine acallT_hand [1000000] (h4) (by simp) (by simp) (by simp) (by simp) (by simp) ?_
   simp<;>(repeat' first|contradiction|exact .ok|apply And.intro|intro _|(refine gc (fun h=>?_) (fun h=>?_)<;>(have h':=h;(try simp at h');first|done|simp[h,h']|simp)))
   refine acallT_plain (ups (r_one 24 (q (rNext st)).1)) (by simp) ?_
   simp<;>(repeat' first|contradiction|exact .ok|apply And.intro|intro _|(refine gc (fun h=>?_) (fun h=>?_)<;>(have h':=h;(try simp at h');first|done|simp[h,h']|simp)))
 | false =>
   have h4:=hq'.run st ha hl
   simp only [Bool.false_eq_true,if_false]
   simp<;>(repeat' first|contradiction|exact .ok|apply And.intro|intro _|(refine gc (fun h=>?_) (fun h=>?_)<;>(have h':=h;(try simp at h');first|done|simp[h,h']|simp)))
   refine acallT_hand [1000000] (take_noR hs ha hw) (by simp) (by simp) (by simp) (by simp) (by simp) ?_
   simp<;>(repeat' first|contradiction|exact .ok|apply And.intro|intro _|(refine gc (fun h=>?_) (fun h=>?_)<;>(have h':=h;(try simp at h');first|done|simp[h,h']|simp)))
   refine acallT_hand [1000000] (h4) (by simp) (by simp) (by simp) (by simp) (by simp) ?_
   simp<;>(repeat' first|contradiction|exact .ok|apply And.intro|intro _|(refine gc (fun h=>?_) (fun h=>?_)<;>(have h':=h;(try simp at h');first|done|simp[h,h']|simp)))
end
end Go.Proofs.Tryz
