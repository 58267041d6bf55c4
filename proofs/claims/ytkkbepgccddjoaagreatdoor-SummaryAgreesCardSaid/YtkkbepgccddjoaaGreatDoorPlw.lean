import Derived.Test.YtkkbepgccddjoaaGreatDoorAPln
set_option linter.all false
namespace Go.Proofs.Tryz
open Go.Ab
set_option maxRecDepth 100000
set_option maxHeartbeats 4000000
theorem pk_two {L:List Int} {b j:Nat} (h1:¬ j=0∧¬ nextV L b 3=0) (h2:¬ nextV L (b+2) 2=0):pkN L b j=2∧pkE L b j=b+4:=by
 unfold pkN pkE
 rw [if_neg h1.1,if_neg h1.2,if_neg h2,if_neg h1.1,if_neg h1.2,if_neg h2]
 exact ⟨rfl,rfl⟩
theorem pk_none {L:List Int} {b:Nat}:pkN L b 0=0∧pkE L b 0=b:=⟨rfl,rfl⟩
theorem pk_stop {L:List Int} {b j z:Nat} (hj:¬ j=0) (hz:z<2) (h1:0<z→¬ j=0∧¬ nextV L b 3=0) (h:nextV L (b+2*z) (3 - (z:Int))=0):pkN L b j=z∧pkE L b j=b+2*z+1:=by
 rcases (by omega:z=0∨z=1) with rfl | rfl
 ·have h':nextV L b 3=0:=by simpa using h
  unfold pkN pkE
  rw [if_neg hj,if_pos h',if_neg hj,if_pos h']
  exact ⟨rfl,rfl⟩
 ·have h':nextV L (b+2) 2=0:=by simpa using h
  have h2:=(h1 (by omega)).2
  unfold pkN pkE
  rw [if_neg hj,if_neg h2,if_pos h',if_neg hj,if_neg h2,if_pos h']
  exact ⟨rfl,rfl⟩
theorem t_plain (L:List Int) (i:Nat) (hi:i≤800000) :
  Cf En 9 [.ptr 1000000 0 0] [tapB L i] (.agg [.d (.sl ((tabsP L (i+1) (1+nextV L i 3).toNat).1.map Tb.c))]) [tapB L (tabsP L (i+1) (1+nextV L i 3).toNat).2]:=by
 refine cf_intro mix (fn:=Tryz.f9) (by kernel_rfl) rfl (by kernel_rfl) (by decide) (by simp) ?_
 have hn:=nextV_in L i (n:=3) (by omega)
 have ht:=t_next1 L i (by omega) 3 (by omega) (by omega)
 obtain ⟨N,hN⟩:∃ N:Nat,N=(1+nextV L i 3).toNat:=⟨_,rfl⟩
 have hN2:(N:Int)=1+nextV L i 3:=by omega
 have hw:=wrap_in (n:=1+nextV L i 3) (by omega) (by omega)
 rw [← hN2] at hw
 rw [← hN]
 have hN3:N≤3:=by omega
 simp [tapB]
 (repeat' (first|contradiction|exact .ok|apply And.intro|intro _|(refine gc (fun h=>?_) (fun h=>?_)<;>(have h':=h;(try simp at h');first|done|simp[h,h']|simp))))
 refine acallT_hand [1000000] ht (by simp) (by simp) (by simp) (by simp [tapB]) (by simp) ?_
 simp [tapB,← hN2,hw]
 (repeat' (first|contradiction|exact .ok|apply And.intro|intro _|(refine gc (fun h=>?_) (fun h=>?_)<;>(have h':=h;(try simp at h');first|done|simp[h,h']|simp))))
 clear ht hn hw hN2 hN
 refine aloopT mix (by decide) (fun j:Nat=>{ s:=mkS [(0,.ptr 1000000 0 0),(2,.ptr 2 0 0),(3,.ptr 3 0 0),(4,.d (.int .i64 N)),(5,.d (.int .i64 j))],b:=mkB [(1000000,1000000,tapB L (tabsP L (i+1) j).2),(2,2,.var [.nils]),(3,3,.var [.ref 901 0 j 6]),(901,901,.arr 82 6 ((tabsP L (i+1) j).1.map Tb.c) false)] }) (fun j=>j≤N) (fun j=>N - j) 0 (by simp)
  ((sub_nilc 3 901 82 6 0 (cells:=[.nils]) (by simp) rfl (by simp) (by decide) (by decide)).trans (sub_mk _ [(1000000,1000000,_),(2,2,_),(3,3,_),(901,901,_)] ⟨by simp,by simp,by simp [renOf,Blk.live,tapB,tabsP,upd],base1⟩ (by simp [renOf]))) ?_
 intro j hj
 by_cases hlt:j<N
 ·have hal:=tabsP_le L (i+1) j
  have hTl:=tabsP_len L (i+1) j
  have hst:tabsP L (i+1) (j+1)=((tabsP L (i+1) j).1++[(tabP L j (tabsP L (i+1) j).2).1],(tabP L j (tabsP L (i+1) j).2).2):=rfl
  have hwj:=wrap_in (n:=(j:Int)+1) (by omega) (by omega)
  generalize hT:(tabsP L (i+1) j).1=T at *
  generalize ha:(tabsP L (i+1) j).2=a at *
  have hm:=freeP_in L a
  have hmn:=nextV_in L a (n:=2) (by omega)
  have hmd:=tab0_made L j a
  have htab:tabP L j a=ckP L (tab0 L j a) (pkE L (a+1+2*freeP L a) j):=rfl
  rw [htab] at hst
  unfold tab0 at hst hmd
  generalize freeP L a=m at *
  have hwm:=wrap_in (n:=1+nextV L a 2) (by omega) (by omega)
  rw [← hm.2.2] at hwm
  have hm3:=hm.2.2
  have hpe:=pkE_le L (a+1+2*m) j
  have hpn:=pkN_le L (a+1+2*m) j
  simp [tapB,hlt]
  (repeat' (first|contradiction|exact .ok|apply And.intro|intro _|(refine gc (fun h=>?_) (fun h=>?_)<;>(have h':=h;(try simp at h');first|done|simp[h,h']|simp))))
  refine acallT_plain (t_nm 116 j j rfl (by omega)) (by simp) ?_
  simp
  (repeat' (first|contradiction|exact .ok|apply And.intro|intro _|(refine gc (fun h=>?_) (fun h=>?_)<;>(have h':=h;(try simp at h');first|done|simp[h,h']|simp))))
  refine acallT_hand [1000000] (t_next1 L a (by omega) 2 (by omega) (by omega)) (by simp) (by simp) (by simp) (by simp [tapB]) (by simp) ?_
  simp [tapB,← hm3,hwm]
  (repeat' (first|contradiction|exact .ok|apply And.intro|intro _|(refine gc (fun h=>?_) (fun h=>?_)<;>(have h':=h;(try simp at h');first|done|simp[h,h']|simp))))
  refine aloopT mix (by decide) (fun k:Nat=>{ s:=mkS [(0,.ptr 1000000 0 0),(2,.ptr 2 0 0),(3,.ptr 3 0 0),(4,.d (.int .i64 N)),(5,.d (.int .i64 j)),(6,.ptr 6 0 0),(7,.d (.int .i64 m)),(8,.d (.int .i64 k))],b:=mkB [(1000000,1000000,tapB L (a+1+2*k)),(2,2,.var [.nils]),(3,3,.var [.ref 901 0 j 6]),(901,901,.arr 82 6 (T.map Tb.c) false),(6,6,.var [.d (.str (nmG 116 j)),.ref 900 0 (k+1) 3,.ref 902 0 1 1,.nils,.nils,.nils]),(900,900,.arr 85 3 ((colsP L (a+1) k 0).map Col.c) false),(902,902,.arr 3 1 [[.int .i64 0]] false)] }) (fun k=>k≤m) (fun k=>m - k) 0 (by simp)
   (sub_mk _ [(1000000,1000000,_),(2,2,_),(3,3,_),(901,901,_),(6,6,_),(900,21,_),(902,22,_)] ⟨by simp,by simp,by simp [renOf,Blk.live,tapB,colsP,upL,idC,Col.c],base1⟩ (by simp [renOf])) ?_
  ·intro k hk
   by_cases hkm:k<m
   ·have hkm':(k:Int)<m:=by omega
    have hcl:=colsP_len L (a+1) k 0
    have hcs:=colsP_free L (a+1) k
    have c1:=nextV_in L (a+1+2*k) (n:=3) (by omega)
    have hw1:=wrap_in (n:=1+nextV L (a+1+2*k) 3) (by omega) (by omega)
    have hwk:=wrap_in (n:=(k:Int)+1) (by omega) (by omega)
    have hcg:(colP L (a+1) k).c=[.str (nmG 99 k),.int .i64 (1+nextV L (a+1+2*k) 3),.bool (nextV L (a+1+2*k+1) 3==0)]:=rfl
    simp [tapB,hkm',hkm]
    (repeat' (first|contradiction|exact .ok|apply And.intro|intro _|(refine gc (fun h=>?_) (fun h=>?_)<;>(have h':=h;(try simp at h');first|done|simp[h,h']|simp))))
    refine acallT_plain (t_nm 99 k k rfl (by omega)) (by simp) ?_
    simp
    (repeat' (first|contradiction|exact .ok|apply And.intro|intro _|(refine gc (fun h=>?_) (fun h=>?_)<;>(have h':=h;(try simp at h');first|done|simp[h,h']|simp))))
    refine acallT_hand [1000000] (t_next1 L (a+1+2*k) (by omega) 3 (by omega) (by omega)) (by simp) (by simp) (by simp) (by simp [tapB]) (by simp) ?_
    simp [tapB,hw1]
    (repeat' (first|contradiction|exact .ok|apply And.intro|intro _|(refine gc (fun h=>?_) (fun h=>?_)<;>(have h':=h;(try simp at h');first|done|simp[h,h']|simp))))
    refine acallT_hand [1000000] (t_next1 L (a+1+2*k+1) (by omega) 3 (by omega) (by omega)) (by simp) (by simp) (by simp) (by simp [tapB]) (by simp) ?_
    simp [tapB,hcl,szs (k+1+1) (by omega) 32 (by decide),szs k (by omega) 32 (by decide)]
    (repeat' (first|contradiction|exact .ok|apply And.intro|intro _|(refine gc (fun h=>?_) (fun h=>?_)<;>(have h':=h;(try simp at h');first|done|simp[h,h']|simp))))
    refine ⟨k+1,by omega,?_,by simp; omega⟩
    refine sub_mk _ [(1000000,1000000,_),(2,2,_),(3,3,_),(901,901,_),(6,6,_),(900,44,_),(902,902,_)] ⟨by simp,by simp,?_,base1⟩ (by simp [renOf,hwk])
    simp [renOf,Blk.live,tapB,hcs,hcg,hcl]
    try omega
   have hkm2:k=m:=by omega
   subst hkm2
   simp [tapB]
   (repeat' (first|contradiction|exact .ok|apply And.intro|intro _|(refine gc (fun h=>?_) (fun h=>?_)<;>(have h':=h;(try simp at h');first|done|simp[h,h']|simp))))
   have hb:((a+1+2*k:Nat):Int)=(a:Int)+1+2*k:=by omega
   generalize hbe:a+1+2*k=b at *
   have e2:∀ z,pkN L b j=z→(z=0→j=0∨nextV L b 3=0):=fun z _ _=>by unfold pkN at *; grind
   refine aloopC mix (by decide) (fun z:Nat=>{ s:=mkS [(0,.ptr 1000000 0 0),(2,.ptr 2 0 0),(3,.ptr 3 0 0),(4,.d (.int .i64 N)),(5,.d (.int .i64 j)),(6,.ptr 6 0 0),(9,.d (.int .i64 z))],b:=mkB [(1000000,1000000,tapB L (b+2*z:Nat)),(2,2,.var [.nils]),(3,3,.var [.ref 901 0 j 6]),(901,901,.arr 82 6 (T.map Tb.c) false),(6,6,.var [.d (.str (nmG 116 j)),.ref 900 0 (k+1+z) 3,.ref 902 0 1 1,.nils,.ref 903 0 z 2,.nils]),(900,900,.arr 85 3 ((colsP L (a+1) k z).map Col.c) false),(902,902,.arr 3 1 [[.int .i64 0]] false),(903,903,.arr 87 2 ((fksP L b j (k+1) z).map Fk.c) false)] }) (fun z=>z≤2∧(0<z→¬ j=0∧¬ nextV L b 3=0)∧(1<z→¬ nextV L (b+2) 2=0)) (fun z=>2 - z) 0 (by simp) 4
    { s:=mkS [(0,.ptr 1000000 0 0),(2,.ptr 2 0 0),(3,.ptr 3 0 0),(4,.d (.int .i64 N)),(5,.d (.int .i64 j)),(6,.ptr 6 0 0)],b:=mkB [(1000000,1000000,tapB L (pkE L b j)),(2,2,.var [.nils]),(3,3,.var [.ref 901 0 j 6]),(901,901,.arr 82 6 (T.map Tb.c) false),(6,6,.var [.d (.str (nmG 116 j)),.ref 900 0 (k+1+pkN L b j) 3,.ref 902 0 1 1,.nils,.ref 903 0 (pkN L b j) 2,.nils]),(900,900,.arr 85 3 ((colsP L (a+1) k (pkN L b j)).map Col.c) false),(902,902,.arr 3 1 [[.int .i64 0]] false),(903,903,.arr 87 2 ((fksP L b j (k+1) (pkN L b j)).map Fk.c) false)] }
    ((sub_nilc 6 903 87 2 4 (cells:=[.d (.str (nmG 116 j)),.ref 900 0 (k+1) 3,.ref 902 0 1 1,.nils,.nils,.nils]) (by simp) rfl (by simp) (by decide) (by decide)).trans (sub_mk _ [(1000000,1000000,_),(2,2,_),(3,3,_),(901,901,_),(6,6,_),(900,900,_),(902,902,_),(903,903,_)] ⟨by simp,by simp,by simp [renOf,Blk.live,tapB,upd,fksP,upL,hb],base1⟩ (by simp [renOf]))) ?_ ?_
   ·rintro z ⟨hz,hz1,hz2⟩
    have hcl:=colsP_len L (a+1) k z
    have hcs:=colsP_succ L (a+1) k z
    have hfl:=fksP_len L b j (k+1) z
    have hfs:=fksP_succ L b j (k+1) z
    by_cases hz2':z=2
    ·subst hz2'
     obtain ⟨p1,p2⟩:=pk_two (hz1 (by omega)) (hz2 (by omega))
     simp [tapB]
     (repeat' (first|contradiction|exact .ok|apply And.intro|intro _|(refine gc (fun h=>?_) (fun h=>?_)<;>(have h':=h;(try simp at h');first|done|simp[h,h']|simp))))
     refine AExitTo.mk rfl ?_
     exact sub_mk _ [(1000000,1000000,_),(2,2,_),(3,3,_),(901,901,_),(6,6,_),(900,900,_),(902,902,_),(903,903,_)] ⟨by simp,by simp,by simp [renOf,Blk.live,tapB,p1,p2],base1⟩ (by simp [renOf])
    have hzl:z<2:=by omega
    have hzi:(z:Int)<2:=by omega
    by_cases hj0:j=0
    ·subst hj0
     obtain rfl:z=0:=by
      rcases Nat.eq_zero_or_pos z with h | h
      ·exact h
      ·exact absurd rfl (hz1 h).1
     simp [tapB,hzi]
     (repeat' (first|contradiction|exact .ok|apply And.intro|intro _|(refine gc (fun h=>?_) (fun h=>?_)<;>(have h':=h;(try simp at h');first|done|simp[h,h']|simp))))
     refine AExitTo.mk rfl ?_
     exact sub_mk _ [(1000000,1000000,_),(2,2,_),(3,3,_),(901,901,_),(6,6,_),(900,900,_),(902,902,_),(903,903,_)] ⟨by simp,by simp,by simp [renOf,Blk.live,tapB,pk_none],base1⟩ (by simp [renOf])
    have hji:(0:Int)<j:=by omega
    have hw3:=wrap_in (n:=3 - (z:Int)) (by omega) (by omega)
    have nx:=nextV_in L (b+2*z) (n:=3 - (z:Int)) (by omega)
    have tx:=t_next1 L (b+2*z) (by omega) (3 - (z:Int)) (by omega) (by omega)
    have ps:=pk_stop (L:=L) (b:=b) (z:=z) hj0 hzl hz1
    have hq1:z=0→nextV L (b+2*z) (3 - (z:Int))=nextV L b 3:=fun e=>by subst e; rfl
    have hq2:z=1→nextV L (b+2*z) (3 - (z:Int))=nextV L (b+2) 2:=fun e=>by subst e; rfl
    generalize nextV L (b+2*z) (3 - (z:Int))=q at *
    simp [tapB,hzi,hji,hw3]
    (repeat' (first|contradiction|exact .ok|apply And.intro|intro _|(refine gc (fun h=>?_) (fun h=>?_)<;>(have h':=h;(try simp at h');first|done|simp[h,h']|simp))))
    refine acallT_hand [1000000] tx (by simp) (by simp) (by simp) (by simp [tapB]) (by simp [hw3]) ?_
    by_cases hq:q=0
    ·obtain ⟨p1,p2⟩:=ps hq
     simp [tapB,hq]
     (repeat' (first|contradiction|exact .ok|apply And.intro|intro _|(refine gc (fun h=>?_) (fun h=>?_)<;>(have h':=h;(try simp at h');first|done|simp[h,h',hq]|simp[hq]))))
     refine AExitTo.mk rfl ?_
     exact sub_mk _ [(1000000,1000000,_),(2,2,_),(3,3,_),(901,901,_),(6,6,_),(900,900,_),(902,902,_),(903,903,_)] ⟨by simp,by simp,by simp [renOf,Blk.live,tapB,p1,p2],base1⟩ (by simp [renOf])
    have hqp:0<q:=by omega
    have nj:=nextV_in L (b+2*z+1) (n:=(j:Int)) (by omega)
    have tj:=t_next1 L (b+2*z+1) (by omega) (j:Int) (by omega) (by omega)
    have hfk:(fkP L b j (k+1) z).c=[.sl [[.int .i64 ((k:Int)+1+z)]],.str (nmG 116 (nextV L (b+2*z+1) j).toNat)]:=by simp [fkP,Fk.c,ints]
    have hfc:(fcP z).c=[.str (nmG 102 z),.int .i64 1,.bool false]:=rfl
    have hwc:=wrap_in (n:=(k:Int)+1+z) (by omega) (by omega)
    have hwz:=wrap_in (n:=(z:Int)+1) (by omega) (by omega)
    simp [tapB,hqp]
    (repeat' (first|contradiction|exact .ok|apply And.intro|intro _|(refine gc (fun h=>?_) (fun h=>?_)<;>(have h':=h;(try simp at h');first|done|simp[h,h',hqp]|simp[hqp]))))
    refine acallT_plain (t_nm 102 z z rfl (by omega)) (by simp) ?_
    simp [hcl,szs (k+1+z+1) (by omega) 32 (by decide),szs (k+1+z) (by omega) 32 (by decide)]
    (repeat' (first|contradiction|exact .ok|apply And.intro|intro _|(refine gc (fun h=>?_) (fun h=>?_)<;>(have h':=h;(try simp at h');first|done|simp[h,h']|simp))))
    simp [tapB,hcl,hwc]
    refine acallT_hand [1000000] tj (by simp) (by simp) (by simp) (by simp [tapB]; try omega) (by simp) ?_
    simp [tapB]
    refine acallT_plain (t_nm 116 (nextV L (b+2*z+1) j).toNat (nextV L (b+2*z+1) j) (by omega) (by omega)) (by simp) ?_
    simp [hfl,szs z (by omega) 40 (by decide),szs (z+1) (by omega) 40 (by decide)]
    (repeat' (first|contradiction|exact .ok|apply And.intro|intro _|(refine gc (fun h=>?_) (fun h=>?_)<;>(have h':=h;(try simp at h');first|done|simp[h,h']|simp))))
    refine ⟨z+1,⟨by omega,fun _=>⟨hj0,?_⟩,fun h1=>?_⟩,?_,by simp; omega⟩
    ·rcases Nat.eq_zero_or_pos z with h | h
     ·rw [← hq1 h]; exact hq
     ·exact (hz1 h).2
    ·rw [← hq2 (by omega)]; exact hq
    ·refine sub_mk _ [(1000000,1000000,_),(2,2,_),(3,3,_),(901,901,_),(6,6,_),(900,67,_),(902,902,_),(903,82,_)] ⟨by simp,by simp,?_,base1⟩ (by simp [renOf,hwz])
     simp [renOf,Blk.live,tapB,hcs,hfs,hfk,hfc,hcl,hfl]
     try omega
   ·have hcl:=colsP_len L (a+1) k (pkN L b j)
    have hfl:=fksP_len L b j (k+1) (pkN L b j)
    generalize hze:pkN L b j=z at *
    generalize pkE L b j=e at *
    generalize colsP L (a+1) k z=C at *
    generalize fksP L b j (k+1) z=F at *
    have n4:=nextV_in L e (n:=4) (by omega)
    have hct:List.take (k+1+z) (C.map Col.c)=C.map Col.c:=List.take_of_length_le (by simp [hcl])
    have hft:List.take z (F.map Fk.c)=F.map Fk.c:=List.take_of_length_le (by simp [hfl])
    simp [tapB]
    (repeat' (first|contradiction|exact .ok|apply And.intro|intro _|(refine gc (fun h=>?_) (fun h=>?_)<;>(have h':=h;(try simp at h');first|done|simp[h,h']|simp))))
    refine acallT_hand [1000000] (t_next1 L e (by omega) 4 (by omega) (by omega)) (by simp) (by simp) (by simp) (by simp [tapB]; try omega) (by simp) ?_
    by_cases u0:nextV L e 4=0
    ·have hat:=t_atom L (e+1) (by omega) _ hmd.ok hmd.free hmd.ty
     have hE:tabsP L (i+1) (j+1)=(T++[⟨nmG 116 j,C,[0],[],F,[(atomG L ⟨nmG 116 j,C,[0],[],F,[]⟩ (e+1)).1.ex]⟩],(atomG L ⟨nmG 116 j,C,[0],[],F,[]⟩ (e+1)).2):=by rw [hst]; simp [ckP,u0]
     generalize atomG L ⟨nmG 116 j,C,[0],[],F,[]⟩ (e+1)=at1 at *
     obtain ⟨at1,e1⟩:=at1
     simp only at hat hE
     simp [tapB,u0]
     (repeat' (first|contradiction|exact .ok|apply And.intro|intro _|(refine gc (fun h=>?_) (fun h=>?_)<;>(have h':=h;(try simp at h');first|done|simp[h,h',u0]|simp[u0]))))
     refine acallT_hand [1000000] hat (by simp) (by simp) (by simp) (by simp [tapB]; try omega) (by simp [Tb.a,Tb.c,hct,hft,hcl,hfl,ints]) ?_
     simp [tapB,At.a,At.c]
     refine acallT_plain (r13_expr at1) (by simp [At.a,At.c]) ?_
     simp [Ex.a,Ex.ctake',Ex.clen]
     (repeat' (first|contradiction|exact .ok|apply And.intro|intro _|(refine gc (fun h=>?_) (fun h=>?_)<;>(have h':=h;(try simp at h');first|done|simp[h,h']|simp))))
     simp [Ex.a,Ex.ctake',Ex.clen,hTl,hct,hft,hcl,hfl,szs (j+1) (by omega) 136 (by decide),szs j (by omega) 136 (by decide)]
     (repeat' (first|contradiction|exact .ok|apply And.intro|intro _|(refine gc (fun h=>?_) (fun h=>?_)<;>(have h':=h;(try simp at h');first|done|simp[h,h']|simp))))
     refine ⟨j+1,by omega,?_,by simp; omega⟩
     refine sub_mk _ [(1000000,1000000,_),(2,2,_),(3,3,_),(901,100,_)] ⟨by simp,by simp,?_,base1⟩ (by simp [renOf,hwj])
     simp [renOf,Blk.live,tapB,hE,Tb.c,hTl,ints]
    ·have hE:tabsP L (i+1) (j+1)=(T++[⟨nmG 116 j,C,[0],[],F,[]⟩],e+1):=by rw [hst]; simp [ckP,u0]
     simp [tapB,u0,hTl,hct,hft,hcl,hfl,szs (j+1) (by omega) 136 (by decide),szs j (by omega) 136 (by decide)]
     (repeat' (first|contradiction|exact .ok|apply And.intro|intro _|(refine gc (fun h=>?_) (fun h=>?_)<;>(have h':=h;(try simp at h');first|done|simp[h,h',u0]|simp[u0]))))
     refine ⟨j+1,by omega,?_,by simp; omega⟩
     refine sub_mk _ [(1000000,1000000,_),(2,2,_),(3,3,_),(901,100,_)] ⟨by simp,by simp,?_,base1⟩ (by simp [renOf,hwj])
     simp [renOf,Blk.live,tapB,hE,Tb.c,hTl,ints]
 ·have hje:j=N:=by omega
  subst hje
  have hTl:=tabsP_len L (i+1) j
  simp [tapB,hTl]
  (repeat' (first|contradiction|exact .ok|apply And.intro|intro _|(refine gc (fun h=>?_) (fun h=>?_)<;>(have h':=h;(try simp at h');first|done|simp[h,h']|simp))))
  all_goals exact List.take_of_length_le (by simp [hTl])
end Go.Proofs.Tryz
