import Derived.Test.YtgdkfmglkjfciaaGreatDoorPRwh
import Derived.Test.YtgdkfmglkjfciaaGreatDoorStw
import Derived.Test.YtgdkfmglkjfciaaGreatDoorPRdp
import Derived.Test.YtgdkfmglkjfciaaGreatDoorPPsm
import Derived.Test.YtgdkfmglkjfciaaGreatDoorPNxt
import Derived.Test.YtgdkfmglkjfciaaGreatDoorPMdx
import Derived.Test.YtgdkfmglkjfciaaGreatDoorRqt
set_option linter.all false
namespace Go.Proofs.Tryz
open Go.Ab
set_option maxRecDepth 100000
set_option maxHeartbeats 16000000
theorem dat13 (n:Int) (a:Bool) (k:D):∀ (i:Nat) (c:AV) (d:D),([.d (.int .i64 n),.d (.bool a),.d (.bool false),.d (.bool false),.nils,.d (.str []),.nils,.d (.str []),.nils,.nils,.nils,.nils,.d k]:List AV)[i]?=some c →
  ([.int .i64 n,.bool a,.bool false,.bool false,.sl [],.str [],.sl [],.str [],.sl [],.sl [],.sl [],.sl [],k]:List D)[i]?=some d→datC c d
 | 0,_,_,hc,hd=>by cases hc; cases hd; rfl
 | 1,_,_,hc,hd=>by cases hc; cases hd; rfl
 | 2,_,_,hc,hd=>by cases hc; cases hd; rfl
 | 3,_,_,hc,hd=>by cases hc; cases hd; rfl
 | 4,_,_,hc,hd=>by cases hc; cases hd; rfl
 | 5,_,_,hc,hd=>by cases hc; cases hd; rfl
 | 6,_,_,hc,hd=>by cases hc; cases hd; rfl
 | 7,_,_,hc,hd=>by cases hc; cases hd; rfl
 | 8,_,_,hc,hd=>by cases hc; cases hd; rfl
 | 9,_,_,hc,hd=>by cases hc; cases hd; rfl
 | 10,_,_,hc,hd=>by cases hc; cases hd; rfl
 | 11,_,_,hc,hd=>by cases hc; cases hd; rfl
 | 12,_,_,hc,hd=>by cases hc; cases hd; rfl
 | k+13,_,_,hc,hd=>by simp at hc
section
variable {s:List UInt8} (hs:s.length≤5000) {L:Nat} {tm:RS→Tm×RS} {st:RS→Sm×RS}
include hs
theorem r_statement {r:RS} (hTk:∀ r,Kp r (tm r).2) (hSk:∀ r,Kp r (st r).2) (hc:RuX Sm.a s L 33 (coreR tm st)) (ha:At (toks s) r.1) (hl:r.1.length≤L) :
  Cf Es 16 [.ptr 1000000 0 0] [rrB s r] (stCR tm st (coreR tm st r).1 (coreR tm st r).2).1.a [rrB s (stCR tm st (coreR tm st r).1 (coreR tm st r).2).2]:=by
 have h1:=hc.run r ha hl
 have a1:=ha.kp (hc.kp r)
 have l1:=(hc.kp r).len
 generalize hres:stCR tm st (coreR tm st r).1 (coreR tm st r).2=res
 generalize coreR tm st r=x at *
 obtain ⟨x,r1⟩:=x
 simp only at hres h1 a1 l1
 refine cf_intro mixs (fn:=Tryz.f16) (by kernel_rfl) rfl (by kernel_rfl) (by decide) (by simp) ?_
 simp<;>(repeat' first|contradiction|exact .ok|apply And.intro|intro _|(refine gc (fun h=>?_) (fun h=>?_)<;>(have h':=h;(try simp at h');first|done|simp[h,h']|simp)))
 refine acallT_hand [1000000] (h1) (by simp) (by simp) (by simp) (by simp) (by simp) ?_
 simp<;>(repeat' first|contradiction|exact .ok|apply And.intro|intro _|(refine gc (fun h=>?_) (fun h=>?_)<;>(have h':=h;(try simp at h');first|done|simp[h,h']|simp)))
 refine aloopT mixs (by decide) (fun y:Sm×RS=>{ s:=mkS [(0,.ptr 1000000 0 0),(2,.ptr 2 0 0),(3,.ptr 3 0 0)],b:=mkB [(1000000,1000000,rrB s y.2),(2,2,.var zSm),(3,3,.var (y.1.c.map AV.d))] })
  (fun y=>At (toks s) y.2.1∧y.2.1.length≤L∧stCR tm st y.1 y.2=res) (fun y=>y.2.1.length) (x,r1) ⟨a1,by simp only; omega,hres⟩
  (sub_mk _ [(1000000,1000000,_),(2,2,_),(3,3,_)] ⟨by simp,by simp,by simp [renOf,Blk.live],base1⟩ (by simp [renOf])) ?_
 clear hres h1 a1 l1 ha hl
 rintro ⟨x,r2⟩ ⟨a2,l2,hr2⟩
 simp only at a2 l2 hr2
 rw [stCR_eq hTk hSk] at hr2
 by_cases hbad:0≤r2.2
 ·have hbad':¬ r2.2<0:=by omega
  have ho:rOne setW r2=none:=rOne_bad hbad setW
  rw [ho] at hr2
  simp only at hr2
  subst hr2
  simp [hbad,hbad']<;>(repeat' first|contradiction|exact .ok|apply And.intro|intro _|(refine gc (fun h=>?_) (fun h=>?_)<;>(have h':=h;(try simp at h');first|done|simp[h,h',hbad,hbad']|simp[hbad,hbad'])))
 ·have hbad':r2.2<0:=by omega
  have h3:rOne setW r2=if rIs [117,110,105,111,110] r2=true then some 0 else if rIs [101,120,99,101,112,116] r2=true then some 1 else if rIs [105,110,116,101,114,115,101,99,116] r2=true then some 2 else none:=rOne3 _ _ _ _
  rw [h3] at hr2
  cases hw0:rIs [117,110,105,111,110] r2 with
  | true =>
    rw [if_pos hw0] at hr2
    have hlen:=is_lt hw0
    have a3:=a2.kp (kp_is hw0)
    have h3:=take_yesR hs a2 hw0
    simp only at hr2
    generalize rNext r2=r3 at *
    have h4:=take_optR hs a3 wAll
    have a4:=a3.kp (kp_opt wAll r3)
    have l4:=(kp_opt wAll r3).len
    generalize rOpt wAll r3=z at *
    obtain ⟨al,r4⟩:=z
    simp only at hr2 h4 a4 l4
    have h5:=hc.run r4 a4 (by omega)
    have a5:=a4.kp (hc.kp r4)
    have l5:=(hc.kp r4).len
    generalize coreR tm st r4=w at *
    obtain ⟨y,r5⟩:=w
    simp only at hr2 h5 a5 l5
    simp [hbad,hbad']<;>(repeat' first|contradiction|exact .ok|apply And.intro|intro _|(refine gc (fun h=>?_) (fun h=>?_)<;>(have h':=h;(try simp at h');first|done|simp[h,h',hbad,hbad']|simp[hbad,hbad'])))
    refine acallT_hand [1000000] (h3) (by simp) (by simp) (by simp) (by simp) (by simp) ?_
    simp<;>(repeat' first|contradiction|exact .ok|apply And.intro|intro _|(refine gc (fun h=>?_) (fun h=>?_)<;>(have h':=h;(try simp at h');first|done|simp[h,h']|simp)))
    refine acallT_hand [1000000] (h4) (by simp) (by simp) (by simp) (by simp) (by simp) ?_
    simp<;>(repeat' first|contradiction|exact .ok|apply And.intro|intro _|(refine gc (fun h=>?_) (fun h=>?_)<;>(have h':=h;(try simp at h');first|done|simp[h,h']|simp)))
    refine acallT_hand [1000000] (h5) (by simp) (by simp) (by simp) (by simp) (by simp) ?_
    simp<;>(repeat' first|contradiction|exact .ok|apply And.intro|intro _|(refine gc (fun h=>?_) (fun h=>?_)<;>(have h':=h;(try simp at h');first|done|simp[h,h']|simp)))
    refine ⟨(setS 0 al x y,r5),⟨a5,by simp only; omega,hr2⟩,?_,by simp only; omega⟩
    refine (show Ab.Sub Es 36 1 _ { s:=mkS [(0,.ptr 1000000 0 0),(2,.ptr 2 0 0),(3,.ptr 3 0 0)],b:=mkB [(1000000,1000000,rrB s r5),(2,2,.var zSm),(3,3,.var [.d (.int .i64 2),.d (.bool al),.d (.bool false),.d (.bool false),.nils,.d (.str []),.nils,.d (.str []),.nils,.nils,.nils,.nils,.d (.sl [x.c,y.c])])] } from
     sub_mk _ [(1000000,1000000,_),(2,2,_),(3,3,_)] ⟨by simp,by simp,by simp [renOf,Blk.live],base1⟩ (by simp [renOf])).trans ?_
    refine (sub_datc 3 (cells:=[.d (.int .i64 2),.d (.bool al),.d (.bool false),.d (.bool false),.nils,.d (.str []),.nils,.d (.str []),.nils,.nils,.nils,.nils,.d (.sl [x.c,y.c])]) [.int .i64 2,.bool al,.bool false,.bool false,.sl [],.str [],.sl [],.str [],.sl [],.sl [],.sl [],.sl [],.sl [x.c,y.c]] (by simp) rfl (fun i c d hc hd=>dat13 _ _ _ i c d hc hd)).trans ?_
    exact sub_mk _ [(1000000,1000000,_),(2,2,_),(3,3,_)] ⟨by simp,by simp,by simp [renOf,Blk.live,setS,Sm.c],base1⟩ (by simp [renOf])
  | false =>
    rw [if_neg (by rw [hw0]; exact Bool.false_ne_true)] at hr2
    cases hw1:rIs [101,120,99,101,112,116] r2 with
    | true =>
      rw [if_pos hw1] at hr2
      have hlen:=is_lt hw1
      have a3:=a2.kp (kp_is hw1)
      have h3:=take_yesR hs a2 hw1
      simp only at hr2
      generalize rNext r2=r3 at *
      have h4:=take_optR hs a3 wAll
      have a4:=a3.kp (kp_opt wAll r3)
      have l4:=(kp_opt wAll r3).len
      generalize rOpt wAll r3=z at *
      obtain ⟨al,r4⟩:=z
      simp only at hr2 h4 a4 l4
      have h5:=hc.run r4 a4 (by omega)
      have a5:=a4.kp (hc.kp r4)
      have l5:=(hc.kp r4).len
      generalize coreR tm st r4=w at *
      obtain ⟨y,r5⟩:=w
      simp only at hr2 h5 a5 l5
      simp [hbad,hbad']<;>(repeat' first|contradiction|exact .ok|apply And.intro|intro _|(refine gc (fun h=>?_) (fun h=>?_)<;>(have h':=h;(try simp at h');first|done|simp[h,h',hbad,hbad']|simp[hbad,hbad'])))
      refine acallT_hand [1000000] (take_noR hs a2 hw0) (by simp) (by simp) (by simp) (by simp) (by simp) ?_
      simp<;>(repeat' first|contradiction|exact .ok|apply And.intro|intro _|(refine gc (fun h=>?_) (fun h=>?_)<;>(have h':=h;(try simp at h');first|done|simp[h,h']|simp)))
      refine acallT_hand [1000000] (h3) (by simp) (by simp) (by simp) (by simp) (by simp) ?_
      simp<;>(repeat' first|contradiction|exact .ok|apply And.intro|intro _|(refine gc (fun h=>?_) (fun h=>?_)<;>(have h':=h;(try simp at h');first|done|simp[h,h']|simp)))
      refine acallT_hand [1000000] (h4) (by simp) (by simp) (by simp) (by simp) (by simp) ?_
      simp<;>(repeat' first|contradiction|exact .ok|apply And.intro|intro _|(refine gc (fun h=>?_) (fun h=>?_)<;>(have h':=h;(try simp at h');first|done|simp[h,h']|simp)))
      refine acallT_hand [1000000] (h5) (by simp) (by simp) (by simp) (by simp) (by simp) ?_
      simp<;>(repeat' first|contradiction|exact .ok|apply And.intro|intro _|(refine gc (fun h=>?_) (fun h=>?_)<;>(have h':=h;(try simp at h');first|done|simp[h,h']|simp)))
      refine ⟨(setS 1 al x y,r5),⟨a5,by simp only; omega,hr2⟩,?_,by simp only; omega⟩
      refine (show Ab.Sub Es 36 1 _ { s:=mkS [(0,.ptr 1000000 0 0),(2,.ptr 2 0 0),(3,.ptr 3 0 0)],b:=mkB [(1000000,1000000,rrB s r5),(2,2,.var zSm),(3,3,.var [.d (.int .i64 3),.d (.bool al),.d (.bool false),.d (.bool false),.nils,.d (.str []),.nils,.d (.str []),.nils,.nils,.nils,.nils,.d (.sl [x.c,y.c])])] } from
       sub_mk _ [(1000000,1000000,_),(2,2,_),(3,3,_)] ⟨by simp,by simp,by simp [renOf,Blk.live],base1⟩ (by simp [renOf])).trans ?_
      refine (sub_datc 3 (cells:=[.d (.int .i64 3),.d (.bool al),.d (.bool false),.d (.bool false),.nils,.d (.str []),.nils,.d (.str []),.nils,.nils,.nils,.nils,.d (.sl [x.c,y.c])]) [.int .i64 3,.bool al,.bool false,.bool false,.sl [],.str [],.sl [],.str [],.sl [],.sl [],.sl [],.sl [],.sl [x.c,y.c]] (by simp) rfl (fun i c d hc hd=>dat13 _ _ _ i c d hc hd)).trans ?_
      exact sub_mk _ [(1000000,1000000,_),(2,2,_),(3,3,_)] ⟨by simp,by simp,by simp [renOf,Blk.live,setS,Sm.c],base1⟩ (by simp [renOf])
    | false =>
      rw [if_neg (by rw [hw1]; exact Bool.false_ne_true)] at hr2
      cases hw2:rIs [105,110,116,101,114,115,101,99,116] r2 with
      | true =>
        rw [if_pos hw2] at hr2
        have hlen:=is_lt hw2
        have a3:=a2.kp (kp_is hw2)
        have h3:=take_yesR hs a2 hw2
        simp only at hr2
        generalize rNext r2=r3 at *
        have h4:=take_optR hs a3 wAll
        have a4:=a3.kp (kp_opt wAll r3)
        have l4:=(kp_opt wAll r3).len
        generalize rOpt wAll r3=z at *
        obtain ⟨al,r4⟩:=z
        simp only at hr2 h4 a4 l4
        have h5:=hc.run r4 a4 (by omega)
        have a5:=a4.kp (hc.kp r4)
        have l5:=(hc.kp r4).len
        generalize coreR tm st r4=w at *
        obtain ⟨y,r5⟩:=w
        simp only at hr2 h5 a5 l5
        simp [hbad,hbad']<;>(repeat' first|contradiction|exact .ok|apply And.intro|intro _|(refine gc (fun h=>?_) (fun h=>?_)<;>(have h':=h;(try simp at h');first|done|simp[h,h',hbad,hbad']|simp[hbad,hbad'])))
        refine acallT_hand [1000000] (take_noR hs a2 hw0) (by simp) (by simp) (by simp) (by simp) (by simp) ?_
        simp<;>(repeat' first|contradiction|exact .ok|apply And.intro|intro _|(refine gc (fun h=>?_) (fun h=>?_)<;>(have h':=h;(try simp at h');first|done|simp[h,h']|simp)))
        refine acallT_hand [1000000] (take_noR hs a2 hw1) (by simp) (by simp) (by simp) (by simp) (by simp) ?_
        simp<;>(repeat' first|contradiction|exact .ok|apply And.intro|intro _|(refine gc (fun h=>?_) (fun h=>?_)<;>(have h':=h;(try simp at h');first|done|simp[h,h']|simp)))
        refine acallT_hand [1000000] (h3) (by simp) (by simp) (by simp) (by simp) (by simp) ?_
        simp<;>(repeat' first|contradiction|exact .ok|apply And.intro|intro _|(refine gc (fun h=>?_) (fun h=>?_)<;>(have h':=h;(try simp at h');first|done|simp[h,h']|simp)))
        refine acallT_hand [1000000] (h4) (by simp) (by simp) (by simp) (by simp) (by simp) ?_
        simp<;>(repeat' first|contradiction|exact .ok|apply And.intro|intro _|(refine gc (fun h=>?_) (fun h=>?_)<;>(have h':=h;(try simp at h');first|done|simp[h,h']|simp)))
        refine acallT_hand [1000000] (h5) (by simp) (by simp) (by simp) (by simp) (by simp) ?_
        simp<;>(repeat' first|contradiction|exact .ok|apply And.intro|intro _|(refine gc (fun h=>?_) (fun h=>?_)<;>(have h':=h;(try simp at h');first|done|simp[h,h']|simp)))
        refine ⟨(setS 2 al x y,r5),⟨a5,by simp only; omega,hr2⟩,?_,by simp only; omega⟩
        refine (show Ab.Sub Es 36 1 _ { s:=mkS [(0,.ptr 1000000 0 0),(2,.ptr 2 0 0),(3,.ptr 3 0 0)],b:=mkB [(1000000,1000000,rrB s r5),(2,2,.var zSm),(3,3,.var [.d (.int .i64 4),.d (.bool al),.d (.bool false),.d (.bool false),.nils,.d (.str []),.nils,.d (.str []),.nils,.nils,.nils,.nils,.d (.sl [x.c,y.c])])] } from
         sub_mk _ [(1000000,1000000,_),(2,2,_),(3,3,_)] ⟨by simp,by simp,by simp [renOf,Blk.live],base1⟩ (by simp [renOf])).trans ?_
        refine (sub_datc 3 (cells:=[.d (.int .i64 4),.d (.bool al),.d (.bool false),.d (.bool false),.nils,.d (.str []),.nils,.d (.str []),.nils,.nils,.nils,.nils,.d (.sl [x.c,y.c])]) [.int .i64 4,.bool al,.bool false,.bool false,.sl [],.str [],.sl [],.str [],.sl [],.sl [],.sl [],.sl [],.sl [x.c,y.c]] (by simp) rfl (fun i c d hc hd=>dat13 _ _ _ i c d hc hd)).trans ?_
        exact sub_mk _ [(1000000,1000000,_),(2,2,_),(3,3,_)] ⟨by simp,by simp,by simp [renOf,Blk.live,setS,Sm.c],base1⟩ (by simp [renOf])
      | false =>
        rw [if_neg (by rw [hw2]; exact Bool.false_ne_true)] at hr2
        simp only at hr2
        subst hr2
        simp [hbad,hbad']<;>(repeat' first|contradiction|exact .ok|apply And.intro|intro _|(refine gc (fun h=>?_) (fun h=>?_)<;>(have h':=h;(try simp at h');first|done|simp[h,h',hbad,hbad']|simp[hbad,hbad'])))
        refine acallT_hand [1000000] (take_noR hs a2 hw0) (by simp) (by simp) (by simp) (by simp) (by simp) ?_
        simp<;>(repeat' first|contradiction|exact .ok|apply And.intro|intro _|(refine gc (fun h=>?_) (fun h=>?_)<;>(have h':=h;(try simp at h');first|done|simp[h,h']|simp)))
        refine acallT_hand [1000000] (take_noR hs a2 hw1) (by simp) (by simp) (by simp) (by simp) (by simp) ?_
        simp<;>(repeat' first|contradiction|exact .ok|apply And.intro|intro _|(refine gc (fun h=>?_) (fun h=>?_)<;>(have h':=h;(try simp at h');first|done|simp[h,h']|simp)))
        refine acallT_hand [1000000] (take_noR hs a2 hw2) (by simp) (by simp) (by simp) (by simp) (by simp) ?_
        simp<;>(repeat' first|contradiction|exact .ok|apply And.intro|intro _|(refine gc (fun h=>?_) (fun h=>?_)<;>(have h':=h;(try simp at h');first|done|simp[h,h']|simp)))
end
theorem r_stmt {s:List UInt8} (hs:s.length≤5000) {N:Nat} (hN:9*(toks s).length+8≤N):∀ (n:Nat) (r:RS),At (toks s) r.1→r.1.length<n→Cf Es 16 [.ptr 1000000 0 0] [rrB s r] (stmtQ N n r).1.a [rrB s (stmtQ N n r).2]
 | 0,r,ha,hn=>by omega
 | n+1,r,ha,hn=>by
   have hlT:=ha.sfx.length_le
   have hpos:=List.length_pos_iff.2 ha.ne
   obtain ⟨L,hL⟩:∃ L,r.1.length=L+1:=⟨r.1.length - 1,by omega⟩
   have ht:RuR s (L+1) 53 (parR N 0):=⟨fun r' ha' hl'=>r_par hs N 0 r' (by decide) ha' (by unfold need; omega),kp_par N 0⟩
   have hst:RuX Sm.a s L 16 (stmtQ N n):=⟨fun r' ha' hl'=>r_stmt hs hN n r' ha' (by omega),kp_stmtQ N n⟩
   have hso:RuX So.a s (L+1) 51 (sourceR (stmtQ N n)):=⟨fun r' ha' hl'=>r_source hs hst ha' hl',kp_source hst.kp⟩
   have hco:RuX Sm.a s (L+1) 33 (coreR (parR N 0) (stmtQ N n)):=⟨fun r' ha' hl'=>r_core hs ht hso hst ha' hl',kp_core ht.kp hst.kp⟩
   rw [stmtQ]
   exact r_statement hs ht.kp hst.kp hco ha (by omega)
theorem full_good {s:List UInt8} (hs:s.length≤5000) {x:Sm} (h:full (stmtP fuelN 6000) s=.ok x):GoodS x:=by
 have hl:=toks_len s
 unfold full at h
 cases hp:stmtP fuelN 6000 (toks s) with
 | error p=>rw [hp] at h; cases h
 | ok z =>
   obtain ⟨u,m⟩:=z
   rw [hp] at h
   simp only at h
   split at h
   ·cases h; exact stmtP_fit _ _ _ (by omega) _ m hp
   ·cases h
theorem r_parseSt {s:List UInt8} (hs:s.length≤1000000):Cf Es 7 [.d (.str s)] [] (psA s) []:=by
 unfold psA
 generalize hres:psR s=res
 unfold psR at hres
 refine cf_intro mixs (fn:=Tryz.f7) (by kernel_rfl) rfl (by kernel_rfl) (by decide) (by simp) ?_
 by_cases hl:s.length≤4000
 ·rw [if_pos hl,← full_sm] at hres
  have hl':¬ (4000:Int)<(s.length:Int):=by omega
  have hrd:=r_read (s:=s) (by omega)
  have ha:At (toks s) (toks s):=⟨List.suffix_refl _,toks_okE s⟩
  have hlen:=toks_len s
  have hpr:=r_stmt (s:=s) (by omega) (N:=fuelN) (by unfold fuelN; omega) 6000 (toks s,-1) ha (by simp only; omega)
  have hkp:=kp_stmtQ fuelN 6000 (toks s,-1)
  have hft:=fun x=>full_good (s:=s) (x:=x) (by omega)
  rw [← full_sm] at hft
  unfold fullR at hres hft
  have ha1:=At.kp (T:=toks s) (st:=(toks s,-1)) ha hkp
  generalize stmtQ fuelN 6000 (toks s,-1)=x at *
  obtain ⟨x,st1⟩:=x
  simp only at hres hpr hkp ha1 hft
  simp [hl']<;>(repeat' first|contradiction|exact .ok|apply And.intro|intro _|(refine gc (fun h=>?_) (fun h=>?_)<;>(have h':=h;(try simp at h');first|done|simp[h,h',hl']|simp[hl'])))
  refine acallT_new [] hrd (by simp) (by simp) (by simp) (by simp) (by simp) (by simp) (by simp) ?_
  simp
  (repeat refine ⟨.of (by kernel_rfl),?_⟩)
  refine acallT_hand [13000] hpr (by simp) (by simp) (by simp) (by simp) (by simp) ?_
  simp
  (repeat refine ⟨.of (by kernel_rfl),?_⟩)
  by_cases h5:(hdT st1.1).kd=5
  ·simp only [h5,if_true] at hres hft
   by_cases hb:0≤st1.2
   ·have hb':¬ st1.2<0:=by omega
    rw [if_pos hb] at hres
    simp only at hres
    have htn:((st1.2.toNat:Nat):Int)=st1.2:=by omega
    rw [htn] at hres
    subst hres
    simp [h5,hb,hb']<;>(repeat' first|contradiction|exact .ok|apply And.intro|intro _|(refine gc (fun h=>?_) (fun h=>?_)<;>(have h':=h;(try simp at h');first|done|simp[h,h',h5,hb,hb']|simp[h5,hb,hb'])))
    all_goals simp [zeS,Sm.c]
   ·rw [if_neg hb] at hres
    have hf:=hft x (by rw [if_neg hb])
    have hd:=ups (r_depth _ x (Nat.lt_succ_self _) hf.1)
    simp only at hres
    simp [h5,hb]<;>(repeat' first|contradiction|exact .ok|apply And.intro|intro _|(refine gc (fun h=>?_) (fun h=>?_)<;>(have h':=h;(try simp at h');first|done|simp[h,h',h5,hb]|simp[h5,hb])))
    refine acallT_plain hd (by simp) ?_
    by_cases h24:x.dep≤24
    ·have h24':¬ (24:Int)<x.dep:=by omega
     rw [if_pos h24] at hres
     subst hres
     simp [h24']<;>(repeat' first|contradiction|exact .ok|apply And.intro|intro _|(refine gc (fun h=>?_) (fun h=>?_)<;>(have h':=h;(try simp at h');first|done|simp[h,h',h24']|simp[h24'])))
    ·have h24':(24:Int)<x.dep:=by omega
     rw [if_neg h24] at hres
     subst hres
     simp [h24']<;>(repeat' first|contradiction|exact .ok|apply And.intro|intro _|(refine gc (fun h=>?_) (fun h=>?_)<;>(have h':=h;(try simp at h');first|done|simp[h,h',h24']|simp[h24'])))
     all_goals simp [zeS,Sm.c]
  ·simp only [h5,if_false] at hres hft
   have hfl:=r_fail (s:=s) (by omega) ha1
   have hb2:0≤(rFail st1).2:=by
    unfold rFail
    split
    ·exact Int.natCast_nonneg _
    ·omega
   have k5:(hdT (rFail st1).1).kd=(hdT st1.1).kd:=by unfold rFail; split <;> rfl
   rw [if_pos hb2] at hres
   simp only at hres
   generalize rFail st1=st2 at *
   have htn:((st2.2.toNat:Nat):Int)=st2.2:=by omega
   rw [htn] at hres
   subst hres
   simp only [h5,not_false_eq_true,true_implies,not_true_eq_false,false_implies,and_true]
   refine acallT_hand [13000] hfl (by simp) (by simp) (by simp) (by simp) (by simp) ?_
   simp [hb2]<;>(repeat' first|contradiction|exact .ok|apply And.intro|intro _|(refine gc (fun h=>?_) (fun h=>?_)<;>(have h':=h;(try simp at h');first|done|simp[h,h',hb2]|simp[hb2])))
   all_goals simp [zeS,Sm.c]
 ·rw [if_neg hl] at hres
  have hl':(4000:Int)<(s.length:Int):=by omega
  subst hres
  simp [hl']<;>(repeat' first|contradiction|exact .ok|apply And.intro|intro _|(refine gc (fun h=>?_) (fun h=>?_)<;>(have h':=h;(try simp at h');first|done|simp[h,h',hl']|simp[hl'])))
  all_goals simp [zeS,Sm.c]
theorem zeS_good:GoodS zeS:=by
 unfold zeS
 refine ⟨?_,?_⟩
 ·rw [Sm.fits]
  exact ⟨⟨by decide,trivial⟩,⟨by decide,trivial⟩,⟨by decide,trivial⟩,⟨by decide,trivial⟩,⟨by decide,trivial⟩,⟨by decide,trivial⟩,by decide,trivial⟩
 ·rw [Sm.small]
  exact ⟨by decide,by decide,by decide,by decide,by decide,trivial,trivial,trivial⟩
theorem psR_good {s:List UInt8}:GoodS (psR s).1:=by
 unfold psR
 by_cases hl:s.length≤4000
 ·rw [if_pos hl]
  cases hf:full (stmtP fuelN 6000) s with
  | error p=>exact zeS_good
  | ok t =>
    simp only
    split
    ·exact full_good (by omega) hf
    ·exact zeS_good
 ·rw [if_neg hl]; exact zeS_good
theorem sql_parses (L:List Int) (text:List UInt8):Cf Es 3 [.d (.sl (L.map fun n=>[.int .i64 n])),.d (.str text)] [] (.d (.bool true)) []:=by
 refine cf_intro mixs (fn:=Tryz.f3) (by kernel_rfl) rfl (by kernel_rfl) (by decide) (by simp) ?_
 by_cases hl:text.length≤5000
 ·have hl':¬ (5000:Int)<(text.length:Int):=by omega
  have hmd:=ups (p_made5 L)
  have hml:=mdS_len L (min L.length 60) 0 []
  have hml2:(mdT L).length≤5000:=by
   show (mdS L (min L.length 60) 0 []).length≤5000
   simp only [List.length_nil] at hml
   omega
  obtain ⟨two,htwo⟩:∃ two,two=[text,mdT L]:=⟨_,rfl⟩
  have htl:two.length=2:=by rw [htwo]; rfl
  have htm:two.map (fun w=>[D.str w])=[[.str text],[.str (mdT L)]]:=by rw [htwo]; rfl
  have hlen:∀ x∈two,x.length≤5000:=by
   rw [htwo]
   intro x hx
   rcases List.mem_cons.1 hx with rfl | hx
   ·exact hl
   ·rw [List.mem_singleton.1 hx]; exact hml2
  simp [hl']<;>(repeat' first|contradiction|exact .ok|apply And.intro|intro _|(refine gc (fun h=>?_) (fun h=>?_)<;>(have h':=h;(try simp at h');first|done|simp[h,h',hl']|simp[hl'])))
  refine acallT_plain hmd (by simp) ?_
  generalize mdT L=M at *
  simp
  (repeat refine ⟨.of (by kernel_rfl),?_⟩)
  refine aloopT mixs (by decide) (fun i:Nat=>{ s:=mkS [(5,.d (.sl (two.map fun w=>[.str w]))),(6,.d (.int .i64 i))],b:=mkB [] }) (fun i=>i≤2) (fun i=>2 - i) 0 (by simp)
   (sub_mk _ [] .nil (by simp [renOf,htm])) ?_
  rintro i hi
  by_cases hlt:i<2
  ·have hlt':(i:Int)<2:=by omega
   have hwr:=wrap_in (n:=(i:Int)+1) (by omega) (by omega)
   obtain ⟨e,he⟩:∃ e,e=two[i]:=⟨_,rfl⟩
   have hgo:two[i]?=some e:=by rw [he]; exact List.getElem?_eq_getElem (by omega)
   have hel:e.length≤5000:=hlen e (by rw [he]; exact List.getElem_mem _)
   have hp:=p_parse (s:=e) (by omega)
   have hr:=r_parseSt (s:=e) (by omega)
   have hs:=ups (r_same _ (psR e).1 (psR e).1 (Nat.lt_succ_self _) psR_good.1)
   rw [Sm.eq_self] at hs
   unfold psA at hp hr
   generalize psR e=R at *
   obtain ⟨x,n,er⟩:=R
   simp only at hp hr hs
   simp [hlt',hgo,htl]<;>(repeat' first|contradiction|exact .ok|apply And.intro|intro _|(refine gc (fun h=>?_) (fun h=>?_)<;>(have h':=h;(try simp at h');first|done|simp[h,h',hlt',hgo,htl]|simp[hlt',hgo,htl])))
   refine acallT_plain hp (by simp) ?_
   simp [hlt',hgo,htl]<;>(repeat' first|contradiction|exact .ok|apply And.intro|intro _|(refine gc (fun h=>?_) (fun h=>?_)<;>(have h':=h;(try simp at h');first|done|simp[h,h',hlt',hgo,htl]|simp[hlt',hgo,htl])))
   refine acallT_plain hr (by simp) ?_
   simp<;>(repeat' first|contradiction|exact .ok|apply And.intro|intro _|(refine gc (fun h=>?_) (fun h=>?_)<;>(have h':=h;(try simp at h');first|done|simp[h,h']|simp)))
   refine acallT_plain hs (by simp) ?_
   simp<;>(repeat' first|contradiction|exact .ok|apply And.intro|intro _|(refine gc (fun h=>?_) (fun h=>?_)<;>(have h':=h;(try simp at h');first|done|simp[h,h']|simp)))
   refine ⟨i+1,by omega,?_,by simp only; omega⟩
   exact sub_mk _ [] .nil (by simp [hwr])
  ·obtain rfl:i=2:=by omega
   simp [htl]<;>(repeat' first|contradiction|exact .ok|apply And.intro|intro _|(refine gc (fun h=>?_) (fun h=>?_)<;>(have h':=h;(try simp at h');first|done|simp[h,h',htl]|simp[htl])))
 ·have hl':(5000:Int)<(text.length:Int):=by omega
  simp [hl']<;>(repeat' first|contradiction|exact .ok|apply And.intro|intro _|(refine gc (fun h=>?_) (fun h=>?_)<;>(have h':=h;(try simp at h');first|done|simp[h,h',hl']|simp[hl'])))
end Go.Proofs.Tryz
