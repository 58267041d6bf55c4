import Derived.Test.YthpmjipkofbeiaaGreatDoorTLvl
import Derived.Test.YthpmjipkofbeiaaGreatDoorAbB
import Derived.Test.YthpmjipkofbeiaaGreatDoorTShy
import Derived.Test.YthpmjipkofbeiaaGreatDoorTFdx
import Derived.Test.YthpmjipkofbeiaaGreatDoorTSWow
import Derived.Test.YthpmjipkofbeiaaGreatDoorTPri
import Derived.Test.YthpmjipkofbeiaaGreatDoorAbD
import Derived.Tactics
import Derived.Tactics2
import Derived.Defers
import Derived.Recover
import Derived.Laws.Pointers
import Derived.Test.YthpmjipkofbeiaaGreatDoorTFlq
import Derived.Test.YthpmjipkofbeiaaGreatDoorPrj
import Derived.Test.YthpmjipkofbeiaaGreatDoorCpr
import Derived.Test.YthpmjipkofbeiaaGreatDoorTUna
set_option linter.all false
namespace Go.Proofs.Tryz
open Go.Ab
set_option maxRecDepth 100000
set_option maxHeartbeats 4000000
theorem p_joinedT (F:FuncId) (w:Tm→List UInt8) (l:List Tm) (hl:l.length≤1000000000000) (hb:(joinB (l.map w)).length≤140737488355328) (h:∀ x∈l,Cf Es F [x.a] [] (.d (.str (w x))) []) :
  Cf Es 52 [.d (.sl (l.map Tm.c)),.clo F []] [] (.d (.str (joinB (l.map w)))) []:=by
 refine cf_intro mixs (fn:=Tryz.f52) (by kernel_rfl) rfl (by kernel_rfl) (by decide) (by simp) ?_
 have hj:=f_joinB (l.map w) (by rw [List.length_map]; omega) hb
 rw [List.map_map] at hj
 generalize joinB (l.map w)=J at *
 simp
 (repeat refine ⟨.of (by kernel_rfl),?_⟩)
 refine aloopT mixs (by decide) (fun i:Nat=>{ s:=mkS [(1,.clo F []),(5,.ref 900 0 i 1),(8,.d (.sl (l.map Tm.c))),(9,.d (.int .i64 l.length)),(10,.d (.int .i64 i))],b:=mkB [(900,900,.arr 9 1 ((l.take i).map fun x=>[D.str (w x)]) false)] }) (fun i:Nat=>i≤l.length) (fun i=>l.length - i) 0 (by simp)
  (sub_mkn 5 900 9 1 (by simp) (by simp) (by decide) (by decide) _ [(900,900,_)] ⟨by simp,by simp,by simp [renOf,Blk.live],by simp⟩ (by simp [renOf])) ?_
 intro i hi
 by_cases hlt:i<l.length
 ·have hlt':(i:Int)<l.length:=by omega
  obtain ⟨x,hx⟩:∃ x,x=l[i]:=⟨_,rfl⟩
  have hgo:l[i]?=some x:=by rw [hx]; exact List.getElem?_eq_getElem hlt
  have hge:∀ h,l[i]'h=x:=fun _=>hx.symm
  have c1:=x.clen
  have k1:=x.ctake
  have hr:=h x (by rw [hx]; exact List.getElem_mem hlt)
  have htk:l.take (i+1)=l.take i++[x]:=by rw [List.take_add_one,hgo]; rfl
  have hmin:min i l.length=i:=by omega
  have hwr:=wrap_in (n:=(i:Int)+1) (by omega) (by omega)
  have s1:(i+1)*16≤140737488355328:=by omega
  have s2:i+1≤9223372036854775807:=by omega
  have s3:i≤9223372036854775806:=by omega
  simp [hlt,hlt',hgo,hge,c1,k1]
  (repeat' (first|contradiction|exact .ok|apply And.intro|intro _|(refine gc (fun h=>?_) (fun h=>?_)<;>(have h':=h;(try simp at h');first|done|simp[h,h',hlt,hlt',hgo,hge,c1,k1]|simp[hlt,hlt',hgo,hge,c1,k1]))))
  refine acallT_plain hr (by simp [Tm.a]) ?_
  simp [hmin,s1,s2,s3]
  (repeat' (first|contradiction|exact .ok|apply And.intro|intro _|(refine gc (fun h=>?_) (fun h=>?_)<;>(have h':=h;(try simp at h');first|done|simp[h,h',hmin,s1,s2,s3]|simp[hmin,s1,s2,s3]))))
  refine ⟨i+1,hlt,?_,by simp only; omega⟩
  exact sub_mk _ [(900,19,_)] ⟨by simp,by simp,by simp [renOf,Blk.live,htk],by simp⟩ (by simp [renOf,hwr])
 ·obtain rfl:i=l.length:=by omega
  have htl:List.take l.length (l.map fun x=>[D.str (w x)])=l.map fun x=>[D.str (w x)]:=List.take_of_length_le (by simp)
  simp
  (repeat' (first|contradiction|exact .ok|apply And.intro|intro _|(refine gc (fun h=>?_) (fun h=>?_)<;>(have h':=h;(try simp at h');first|done|simp[h,h']|simp))))
  refine acallT_plain hj (by simp [Function.comp_def,htl]) ?_
  simp
  all_goals exact gz
def WrK (x:Tm):Prop:=Cf Es 23 [x.a] [] (.d (.str (wr x))) []∧(wr x).length≤1099511627776
theorem WrK.pl {x:Tm} (h:WrK x) (want:Nat) (hw:want≤7):Cf Es 49 [x.a,.d (.int .i64 want)] [] (.d (.str (plB want (rkT x) (wr x)))) []∧(plB want (rkT x) (wr x)).length≤1099511627778 :=
 ⟨p_place x want hw h.2 h.1,by have:=(plB_len want (rkT x) (wr x)).1; have:=h.2; omega⟩
theorem op_none {o:Int} (h:isSop o=false):Cf Es 48 [.d (.int .i64 o)] [] (.tup [.agg [.d (.str []),.d (.int .i64 0),.d (.int .i64 0),.d (.int .i64 0)],.d (.bool false)]) []:=by
 have:=s_operatorOf o
 rw [h] at this
 exact this
theorem w_two {o:Int} (hs:isSop o=true) (a b:Tm) (ha:WrK a) (hb:WrK b):Cf Es 23 [(mkT o [a,b]).a] [] (.d (.str (wr (mkT o [a,b])))) []:=by
 refine cf_intro mixs (fn:=Tryz.f23) (by kernel_rfl) rfl (by kernel_rfl) (by decide) (by simp) ?_
 have ho:=s_operatorOf o
 rw [hs] at ho
 obtain ⟨k,rfl,hk⟩:=isSop_lt hs
 have hn:=sop_nat k hk
 rw [show wr (mkT (k:Int) [a,b])=plB (sopOf k).2.2.1.toNat (rkT a) (wr a)++32::((sopOf k).1++32::plB (sopOf k).2.2.2.toNat (rkT b) (wr b)) from by
  unfold mkT
  rw [wr,wrO,sgB_sop k hk,if_pos hs]
  rfl]
 have sl:(sopOf k).1.length≤4:=sgB_len (o:=k) (x:=((sopOf k).1,(sopOf k).2.1.toNat,(sopOf k).2.2.1.toNat,(sopOf k).2.2.2.toNat)) (by rw [sgB_sop k hk,if_pos hs])
 obtain ⟨pa,la⟩:=ha.pl (sopOf k).2.2.1.toNat (by omega)
 obtain ⟨pb,lb⟩:=hb.pl (sopOf k).2.2.2.toNat (by omega)
 rw [Int.toNat_of_nonneg hn.2.1] at pa
 rw [Int.toNat_of_nonneg hn.2.2.1] at pb
 generalize plB (sopOf k).2.2.1.toNat (rkT a) (wr a)=A at *
 generalize plB (sopOf k).2.2.2.toNat (rkT b) (wr b)=B at *
 clear hn
 generalize sopOf k=z at *
 obtain ⟨sg,r,lf,rg⟩:=z
 simp only at *
 have c1:=a.clen
 have k1:=a.ctake
 have c2:=b.clen
 have k2:=b.ctake
 have e1:A.length≤9223372036854775806:=by omega
 have e2:A.length+1+sg.length≤9223372036854775807:=by omega
 have e3:A.length+(sg.length+1)≤9223372036854775806:=by omega
 have e4:A.length+1+sg.length+1≤9223372036854775807:=by omega
 have e5:A.length+1+sg.length+1+B.length≤9223372036854775807:=by omega
 have e6:A.length+(sg.length+1)≤9223372036854775807:=by omega
 have e7:A.length+(sg.length+1)+1≤9223372036854775807:=by omega
 have e8:A.length+(sg.length+1+1)≤9223372036854775807:=by omega
 have e9:A.length+(sg.length+1+1)+B.length≤9223372036854775807:=by omega
 simp [mkT,Tm.a,Tm.c,tmsC]
 (repeat refine ⟨.of (by kernel_rfl),?_⟩)
 refine acallT_plain ho (by simp) ?_
 simp [sopA,c1,k1,c2,k2]
 (repeat' (first|contradiction|exact .ok|apply And.intro|intro _|(refine gc (fun h=>?_) (fun h=>?_)<;>(have h':=h;(try simp at h');first|done|simp[h,h',c1,k1,c2,k2]|simp[c1,k1,c2,k2]))))
 refine acallT_plain pa (by simp [Tm.a]) ?_
 simp [c1,k1,c2,k2,e1,e2,e3,e4,e5,e6,e7,e8,e9]
 refine acallT_plain pb (by simp [Tm.a]) ?_
 simp [c1,k1,c2,k2,e1,e2,e3,e4,e5,e6,e7,e8,e9]
 (repeat' (first|contradiction|exact .ok|apply And.intro|intro _|(refine gc (fun h=>?_) (fun h=>?_)<;>(have h':=h;(try simp at h');first|done|simp[h,h',e1,e2,e3,e4,e5,e6,e7,e8,e9]|simp[e1,e2,e3,e4,e5,e6,e7,e8,e9]))))
theorem w_not (a:Tm) (ha:WrK a):Cf Es 23 [(mkT 24 [a]).a] [] (.d (.str (wr (mkT 24 [a])))) []:=by
 refine cf_intro mixs (fn:=Tryz.f23) (by kernel_rfl) rfl (by kernel_rfl) (by decide) (by simp) ?_
 rw [show wr (mkT 24 [a])=wNot++32::plB 2 (rkT a) (wr a) from by unfold mkT; rw [wr,wrs,wrs]; rfl]
 have ho:=op_none (o:=24) (by decide)
 obtain ⟨pa,la⟩:=ha.pl 2 (by decide)
 generalize plB 2 (rkT a) (wr a)=A at *
 have c1:=a.clen
 have k1:=a.ctake
 have g1:∀ k:Nat,k≤1000→k+A.length≤9223372036854775807:=fun k h=>by omega
 have g2:∀ k:Nat,9223372036854770000≤k→A.length≤k:=fun k h=>by omega
 have g3:∀ k j:Nat,k≤1000→j≤1000→k+A.length+j≤9223372036854775807:=fun k j h1 h2=>by omega
 have g4:∀ k j:Nat,k≤1000→j≤1000→k+(A.length+j)≤9223372036854775807:=fun k j h1 h2=>by omega
 simp [mkT,Tm.a,Tm.c,tmsC]
 (repeat refine ⟨.of (by kernel_rfl),?_⟩)
 refine acallT_plain ho (by simp) ?_
 simp [c1,k1]
 (repeat' (first|contradiction|exact .ok|apply And.intro|intro _|(refine gc (fun h=>?_) (fun h=>?_)<;>(have h':=h;(try simp at h');first|done|simp[h,h',c1,k1]|simp[c1,k1]))))
 refine acallT_plain pa (by simp [Tm.a]) ?_
 simp [g1,g2,g3,g4]
 (repeat' (first|contradiction|exact .ok|apply And.intro|intro _|(refine gc (fun h=>?_) (fun h=>?_)<;>(have h':=h;(try simp at h');first|done|simp[h,h',g1,g2,g3,g4]|simp[g1,g2,g3,g4]))))
 all_goals (first | rfl | omega | skip)
theorem w_isNull (a:Tm) (ha:WrK a):Cf Es 23 [(mkT 21 [a]).a] [] (.d (.str (wr (mkT 21 [a])))) []:=by
 refine cf_intro mixs (fn:=Tryz.f23) (by kernel_rfl) rfl (by kernel_rfl) (by decide) (by simp) ?_
 rw [show wr (mkT 21 [a])=plB 4 (rkT a) (wr a)++32::(wIs++32::wNull) from by unfold mkT; rw [wr,wrs,wrs]; rfl]
 have ho:=op_none (o:=21) (by decide)
 obtain ⟨pa,la⟩:=ha.pl 4 (by decide)
 generalize plB 4 (rkT a) (wr a)=A at *
 have c1:=a.clen
 have k1:=a.ctake
 have g1:∀ k:Nat,k≤1000→k+A.length≤9223372036854775807:=fun k h=>by omega
 have g2:∀ k:Nat,9223372036854770000≤k→A.length≤k:=fun k h=>by omega
 have g3:∀ k j:Nat,k≤1000→j≤1000→k+A.length+j≤9223372036854775807:=fun k j h1 h2=>by omega
 have g4:∀ k j:Nat,k≤1000→j≤1000→k+(A.length+j)≤9223372036854775807:=fun k j h1 h2=>by omega
 simp [mkT,Tm.a,Tm.c,tmsC]
 (repeat refine ⟨.of (by kernel_rfl),?_⟩)
 refine acallT_plain ho (by simp) ?_
 simp [c1,k1]
 (repeat' (first|contradiction|exact .ok|apply And.intro|intro _|(refine gc (fun h=>?_) (fun h=>?_)<;>(have h':=h;(try simp at h');first|done|simp[h,h',c1,k1]|simp[c1,k1]))))
 refine acallT_plain pa (by simp [Tm.a]) ?_
 simp [g1,g2,g3,g4]
 (repeat' (first|contradiction|exact .ok|apply And.intro|intro _|(refine gc (fun h=>?_) (fun h=>?_)<;>(have h':=h;(try simp at h');first|done|simp[h,h',g1,g2,g3,g4]|simp[g1,g2,g3,g4]))))
 all_goals (first | rfl | omega | skip)
theorem w_isTrue (a:Tm) (ha:WrK a):Cf Es 23 [(mkT 25 [a]).a] [] (.d (.str (wr (mkT 25 [a])))) []:=by
 refine cf_intro mixs (fn:=Tryz.f23) (by kernel_rfl) rfl (by kernel_rfl) (by decide) (by simp) ?_
 rw [show wr (mkT 25 [a])=plB 4 (rkT a) (wr a)++32::(wIs++32::wTrue) from by unfold mkT; rw [wr,wrs,wrs]; rfl]
 have ho:=op_none (o:=25) (by decide)
 obtain ⟨pa,la⟩:=ha.pl 4 (by decide)
 generalize plB 4 (rkT a) (wr a)=A at *
 have c1:=a.clen
 have k1:=a.ctake
 have g1:∀ k:Nat,k≤1000→k+A.length≤9223372036854775807:=fun k h=>by omega
 have g2:∀ k:Nat,9223372036854770000≤k→A.length≤k:=fun k h=>by omega
 have g3:∀ k j:Nat,k≤1000→j≤1000→k+A.length+j≤9223372036854775807:=fun k j h1 h2=>by omega
 have g4:∀ k j:Nat,k≤1000→j≤1000→k+(A.length+j)≤9223372036854775807:=fun k j h1 h2=>by omega
 simp [mkT,Tm.a,Tm.c,tmsC]
 (repeat refine ⟨.of (by kernel_rfl),?_⟩)
 refine acallT_plain ho (by simp) ?_
 simp [c1,k1]
 (repeat' (first|contradiction|exact .ok|apply And.intro|intro _|(refine gc (fun h=>?_) (fun h=>?_)<;>(have h':=h;(try simp at h');first|done|simp[h,h',c1,k1]|simp[c1,k1]))))
 refine acallT_plain pa (by simp [Tm.a]) ?_
 simp [g1,g2,g3,g4]
 (repeat' (first|contradiction|exact .ok|apply And.intro|intro _|(refine gc (fun h=>?_) (fun h=>?_)<;>(have h':=h;(try simp at h');first|done|simp[h,h',g1,g2,g3,g4]|simp[g1,g2,g3,g4]))))
 all_goals (first | rfl | omega | skip)
theorem w_len (a:Tm) (ha:WrK a):Cf Es 23 [(mkT 13 [a]).a] [] (.d (.str (wr (mkT 13 [a])))) []:=by
 refine cf_intro mixs (fn:=Tryz.f23) (by kernel_rfl) rfl (by kernel_rfl) (by decide) (by simp) ?_
 rw [show wr (mkT 13 [a])=wLength++40::(wr a++[41]) from by unfold mkT; rw [wr,wrs,wrs]; rfl]
 have ho:=op_none (o:=13) (by decide)
 obtain ⟨pa,la⟩:=ha
 generalize wr a=A at *
 have c1:=a.clen
 have k1:=a.ctake
 have g1:∀ k:Nat,k≤1000→k+A.length≤9223372036854775807:=fun k h=>by omega
 have g2:∀ k:Nat,9223372036854770000≤k→A.length≤k:=fun k h=>by omega
 have g3:∀ k j:Nat,k≤1000→j≤1000→k+A.length+j≤9223372036854775807:=fun k j h1 h2=>by omega
 have g4:∀ k j:Nat,k≤1000→j≤1000→k+(A.length+j)≤9223372036854775807:=fun k j h1 h2=>by omega
 simp [mkT,Tm.a,Tm.c,tmsC]
 (repeat refine ⟨.of (by kernel_rfl),?_⟩)
 refine acallT_plain ho (by simp) ?_
 simp [c1,k1]
 (repeat' (first|contradiction|exact .ok|apply And.intro|intro _|(refine gc (fun h=>?_) (fun h=>?_)<;>(have h':=h;(try simp at h');first|done|simp[h,h',c1,k1]|simp[c1,k1]))))
 refine acallT_plain pa (by simp [Tm.a]) ?_
 simp [g1,g2,g3,g4]
 (repeat' (first|contradiction|exact .ok|apply And.intro|intro _|(refine gc (fun h=>?_) (fun h=>?_)<;>(have h':=h;(try simp at h');first|done|simp[h,h',g1,g2,g3,g4]|simp[g1,g2,g3,g4]))))
 all_goals (first | rfl | omega | skip)
theorem w_neg (a:Tm) (ha:WrK a):Cf Es 23 [(mkT 11 [a]).a] [] (.d (.str (wr (mkT 11 [a])))) []:=by
 refine cf_intro mixs (fn:=Tryz.f23) (by kernel_rfl) rfl (by kernel_rfl) (by decide) (by simp) ?_
 have ho:=op_none (o:=11) (by decide)
 obtain ⟨pp,lp⟩:=ha.pl 6 (by decide)
 obtain ⟨pa,la⟩:=ha
 rw [show wr (mkT 11 [a])=if posN a=true then 45::40::(wr a++[41]) else 45::plB 6 (rkT a) (wr a) from by unfold mkT; rw [wr,wrs,wrs]; rfl]
 generalize plB 6 (rkT a) (wr a)=P at *
 generalize wr a=A at *
 obtain ⟨o,y,n,t,q,ks⟩:=a
 have hp:posN (.mk o y n t q ks)=((o==2)&&decide (0<n)):=by rfl
 rw [hp]
 have g1:∀ k:Nat,k≤1000→k+A.length≤9223372036854775807:=fun k h=>by omega
 have g2:∀ k:Nat,9223372036854770000≤k→A.length≤k:=fun k h=>by omega
 have g3:∀ k j:Nat,k≤1000→j≤1000→k+A.length+j≤9223372036854775807:=fun k j h1 h2=>by omega
 have g4:∀ k j:Nat,k≤1000→j≤1000→k+(A.length+j)≤9223372036854775807:=fun k j h1 h2=>by omega
 have h1:∀ k:Nat,k≤1000→k+P.length≤9223372036854775807:=fun k h=>by omega
 have h2:∀ k:Nat,9223372036854770000≤k→P.length≤k:=fun k h=>by omega
 simp [Tm.a,Tm.c,tmsC_map] at pp pa
 simp [mkT,Tm.a,Tm.c,tmsC_map]
 (repeat refine ⟨.of (by kernel_rfl),?_⟩)
 refine acallT_plain ho (by simp) ?_
 by_cases h2':o=2
 ·subst h2'
  by_cases hn:0<n
  ·simp [hn]
   (repeat' (first|contradiction|exact .ok|apply And.intro|intro _|(refine gc (fun h=>?_) (fun h=>?_)<;>(have h':=h;(try simp at h');first|done|simp[h,h',hn]|simp[hn]))))
   refine acallT_plain pa (by simp) ?_
   simp [g1,g2,g3,g4]
   (repeat' (first|contradiction|exact .ok|apply And.intro|intro _|(refine gc (fun h=>?_) (fun h=>?_)<;>(have h':=h;(try simp at h');first|done|simp[h,h',g1,g2,g3,g4]|simp[g1,g2,g3,g4]))))
   all_goals (first | rfl | omega | skip)
  ·simp [hn]
   (repeat' (first|contradiction|exact .ok|apply And.intro|intro _|(refine gc (fun h=>?_) (fun h=>?_)<;>(have h':=h;(try simp at h');first|done|simp[h,h',hn]|simp[hn]))))
   refine acallT_plain pp (by simp) ?_
   simp [h1,h2]
   (repeat' (first|contradiction|exact .ok|apply And.intro|intro _|(refine gc (fun h=>?_) (fun h=>?_)<;>(have h':=h;(try simp at h');first|done|simp[h,h',h1,h2]|simp[h1,h2]))))
   all_goals (first | rfl | omega | skip)
 ·simp [h2']
  (repeat' (first|contradiction|exact .ok|apply And.intro|intro _|(refine gc (fun h=>?_) (fun h=>?_)<;>(have h':=h;(try simp at h');first|done|simp[h,h',h2']|simp[h2']))))
  refine acallT_plain pp (by simp) ?_
  simp [h1,h2]
  (repeat' (first|contradiction|exact .ok|apply And.intro|intro _|(refine gc (fun h=>?_) (fun h=>?_)<;>(have h':=h;(try simp at h');first|done|simp[h,h',h1,h2]|simp[h1,h2]))))
  all_goals (first | rfl | omega | skip)
end Go.Proofs.Tryz
namespace Go.Proofs.Tryz
open Go.RowKit
set_option maxRecDepth 100000
set_option maxHeartbeats 4000000
theorem catch_idle (p q:Addr) (w:World) :
  CallsD Tryz.prog 59 #[.pointer (some p),.pointer (some q)] .returning w fun e u' w'=>e=.returned (.tuple #[])∧u'=.returning∧w'=w:=by
 refine callsD_of_wpS Tryz.func59 rfl fun c₀ cs hu=>?_
 simp only [Tryz.ntmps59,List.size_toArray,List.length_cons,List.length_nil,Nat.reduceAdd,Nat.reduceSub,Array.replicate_succ,Array.replicate_zero,List.push_toArray,List.append_toArray,List.nil_append,List.cons_append]
 apply wpS_seq
 apply wpS_region
 simp [wpOpsS,go_sem,recoverD,hu,Exit.thenS]
 apply wpS_seq
 apply wpS_region
 simp [wpOpsS,go_sem,Exit.thenS]
 refine wpS_cond (t:=false) (by simp [Act.eval]) ?_
 simp only [Bool.false_eq_true,if_false]
 refine wpS_of_wp (wp_skip ?_)
 cases c₀
 simp_all [bodyPostS,results,Tryz.results59]
theorem catch_pan (p q:Addr) (n x y:Int) (older:List PanicEntry) (w:World) (hp:w.cell? p=some (.int .i64 x)) (hq:w.cell? q=some (.int .i64 y)) (zp:w.frozen? p=false) (zq:w.frozen? q=false) (hq2:(w.setCell p (.int .i64 n)).cell? q=some (.int .i64 y)) (zq2:(w.setCell p (.int .i64 n)).frozen? q=false) :
  CallsD Tryz.prog 59 #[.pointer (some p),.pointer (some q)] (.panicking ({ v:=.iface 97 (.agg #[.int .i64 n]),recovered:=false }::older)) w fun e u' w' =>
   e=.returned (.tuple #[])∧u'=.panicking ({ v:=.iface 97 (.agg #[.int .i64 n]),recovered:=true }::older)∧w'=(w.setCell p (.int .i64 n)).setCell q (.int .i64 2):=by
 refine callsD_of_wpS Tryz.func59 rfl fun c₀ cs hu=>?_
 simp only [Tryz.ntmps59,List.size_toArray,List.length_cons,List.length_nil,Nat.reduceAdd,Nat.reduceSub,Array.replicate_succ,Array.replicate_zero,List.push_toArray,List.append_toArray,List.nil_append,List.cons_append]
 apply wpS_seq
 apply wpS_region
 simp [wpOpsS,go_sem,recoverD,hu,Exit.thenS]
 apply wpS_seq
 apply wpS_region
 simp [wpOpsS,go_sem,Exit.thenS]
 refine wpS_cond (t:=true) (by simp [Act.eval]) ?_
 simp only [if_true]
 apply wpS_region
 have hta:∀ w':World,(Instr.typeAssert (.iface 97 (.agg #[.int .i64 n])) 20 97 false).run Tryz.prog w'=.ok (.agg #[.int .i64 n]) w':=fun w'=>by kernel_rfl
 have hfd:∀ w':World,(Instr.field 97 (.agg #[.int .i64 n]) 0).run Tryz.prog w'=.ok (.int .i64 n) w':=fun w'=>by kernel_rfl
 simp [wpOpsS,go_sem,hp,hq,zp,zq,hta,hfd,hq2,zq2,bodyPostS,results,Tryz.results59]
end Go.Proofs.Tryz
namespace Go.Proofs.Tryz
open Go.Ab Go.RowKit
set_option maxRecDepth 100000
set_option maxHeartbeats 4000000
def P4 (w:World):Addr:=⟨w.heap.size,0,none⟩
def P5 (w:World):Addr:=⟨w.heap.size+1,0,none⟩
def W1 (w:World):World:=(w.alloc (.cells #[.int .i64 0] 3)).alloc (.cells #[.int .i64 0] 32)
def dcl (w:World):Deferred:={ target:=.fn (.func 59) #[.pointer (some (P4 w)),.pointer (some (P5 w))],args:=#[] }
theorem W1_heap (w:World):(W1 w).heap=(w.heap.push (.cells #[.int .i64 0] 3)).push (.cells #[.int .i64 0] 32):=rfl
theorem W1_size (w:World):(W1 w).heap.size=w.heap.size+2:=by rw [W1_heap,Array.size_push,Array.size_push]
theorem W1_old (w:World) (k:Nat) (h:k<w.heap.size):(W1 w).heap[k]?=w.heap[k]?:=by
 rw [W1_heap,Array.getElem?_push,if_neg (by rw [Array.size_push]; omega),Array.getElem?_push,if_neg (by omega)]
theorem W1_4 (w:World):(W1 w).heap[w.heap.size]?=some (.cells #[.int .i64 0] 3):=by
 rw [W1_heap,Array.getElem?_push,if_neg (by rw [Array.size_push]; omega),Array.getElem?_push,if_pos rfl]
theorem W1_5 (w:World):(W1 w).heap[w.heap.size+1]?=some (.cells #[.int .i64 0] 32):=by
 rw [W1_heap,Array.getElem?_push,if_pos (by rw [Array.size_push])]
noncomputable def C1 (w:World) (h:Gh) (X:Blk):Ctx:={ ctxOf Es (W1 w) h [X] with dfr:=[dcl w] }
structure RdEnd (w w':World) (pos e:Int):Prop where
 c4:w'.cell? (P4 w)=some (.int .i64 0)
 c5:w'.cell? (P5 w)=some (.int .i64 0)
 f4:w'.frozen? (P4 w)=false
 f5:w'.frozen? (P5 w)=false
 c5':(w'.setCell (P4 w) (.int .i64 pos)).cell? (P5 w)=some (.int .i64 0)
 f5':(w'.setCell (P4 w) (.int .i64 pos)).frozen? (P5 w)=false
 e4:((w'.setCell (P4 w) (.int .i64 pos)).setCell (P5 w) (.int .i64 e)).cell? (P4 w)=some (.int .i64 pos)
 e5:((w'.setCell (P4 w) (.int .i64 pos)).setCell (P5 w) (.int .i64 e)).cell? (P5 w)=some (.int .i64 e)
theorem read_end {w w':World} {h h':Gh} {X:Blk} {bl:Nat→Blk} (hX:X.live=true) (m:Mem (ctxOf Es w h [X]) (blkOf [X]) w h) (m':Mem (C1 w h X) bl w' h') (pos e:Int) :
  RdEnd w w' pos e∧Mem (ctxOf Es w h [X]) bl ((w'.setCell (P4 w) (.int .i64 pos)).setCell (P5 w) (.int .i64 e)) h':=by
 have hb:∀ b,b∈baseOf h [X]→b<w.heap.size:=fun b hb=>by
  obtain ⟨j,l,hj,hl,hn,rfl⟩:=mem_baseOf.1 hb
  obtain rfl:j=0:=by simpa using hj
  have e:blkOf [X] (firstName+0)=X:=by simp [blkOf]
  obtain ⟨o,_,ho⟩:=live_heap (m.blks (firstName+0)) (by rw [e]; exact hX) hl hn
  exact heap_lt ho
 have h4:w'.heap[w.heap.size]?=some (.cells #[.int .i64 0] 3):=(m'.frame _ (by show _<(W1 w).heap.size; rw [W1_size]; omega) (fun hm=>absurd (hb _ hm) (by omega))).trans (W1_4 w)
 have h5:w'.heap[w.heap.size+1]?=some (.cells #[.int .i64 0] 32):=(m'.frame _ (by show _<(W1 w).heap.size; rw [W1_size]; omega) (fun hm=>absurd (hb _ hm) (by omega))).trans (W1_5 w)
 have hs4:∀ v:Value,(w'.setCell (P4 w) v).heap[w.heap.size]?=some (.cells #[v] 3):=fun v=>by
  simp [World.setCell,P4,Array.getElem?_modify,h4]
 have hs5:∀ v:Value,(w'.setCell (P4 w) v).heap[w.heap.size+1]?=some (.cells #[.int .i64 0] 32):=fun v=>by
  simp [World.setCell,P4,Array.getElem?_modify,h5]
 have ht4:∀ v u:Value,((w'.setCell (P4 w) v).setCell (P5 w) u).heap[w.heap.size]?=some (.cells #[v] 3):=fun v u=>by
  have:=hs4 v
  generalize w'.setCell (P4 w) v=w3 at *
  simp [World.setCell,P5,Array.getElem?_modify,this]
 have ht5:∀ v u:Value,((w'.setCell (P4 w) v).setCell (P5 w) u).heap[w.heap.size+1]?=some (.cells #[u] 32):=fun v u=>by
  have:=hs5 v
  generalize w'.setCell (P4 w) v=w3 at *
  simp [World.setCell,P5,Array.getElem?_modify,this]
 refine ⟨⟨?_,?_,?_,?_,?_,?_,?_,?_⟩,?_⟩
 ·simp [World.cell?,P4,h4]
 ·simp [World.cell?,P5,h5]
 ·simp [World.frozen?,P4,h4]
 ·simp [World.frozen?,P5,h5]
 ·have:=hs5 (.int .i64 pos)
  generalize w'.setCell (P4 w) (.int .i64 pos)=w3 at *
  simp [World.cell?,P5,this]
 ·have:=hs5 (.int .i64 pos)
  generalize w'.setCell (P4 w) (.int .i64 pos)=w3 at *
  simp [World.frozen?,P5,this]
 ·have:=ht4 (.int .i64 pos) (.int .i64 e)
  generalize (w'.setCell (P4 w) (.int .i64 pos)).setCell (P5 w) (.int .i64 e)=w3 at *
  simp [World.cell?,P4,this]
 ·have:=ht5 (.int .i64 pos) (.int .i64 e)
  generalize (w'.setCell (P4 w) (.int .i64 pos)).setCell (P5 w) (.int .i64 e)=w3 at *
  simp [World.cell?,P5,this]
 ·refine Mem.unshift (w1:=W1 w) (w':=w') (dfr:=[dcl w]) (by simpa using hX) m (by rw [W1_size]; omega) (W1_old w) m' (fun k hk=>?_) (by simp [World.setCell]) ⟨rfl,rfl,rfl⟩ ⟨rfl,rfl,rfl⟩
  rw [W1_size] at hk
  simp only [World.setCell,P4,P5,Array.getElem?_modify]
  rw [if_neg (by omega),if_neg (by omega)]
theorem read_inv {s:List UInt8} {w:World} {h:Gh} {X:Blk} {f:FuncId} {vr:Value} (hX:X.live=true) (m:Mem (ctxOf Es w h [X]) (blkOf [X]) w h) (hr:RepA h vr (.clo f [.ptr 1000000 0 0])) {tm:Array Value} (hsz:tm.size=32)
  (t0:tm.getD 0 undef=.string ⟨s.toArray⟩) (t1:tm.getD 1 undef=vr) (t4:tm.getD 4 undef=.pointer (some (P4 w))) (t5:tm.getD 5 undef=.pointer (some (P5 w))) :
  Inv (C1 w h X) 32 1 { s:=mkS [(0,.d (.str s)),(1,.clo f [.ptr 1000000 0 0]),(4,.d (.val (.pointer (some (P4 w))))),(5,.d (.val (.pointer (some (P5 w)))))],b:=blkOf [X] } { tmps:=tm,defers:=[dcl w] } (W1 w):=by
 refine ⟨fun n l hn hl=>?_,rfl,hsz,h,fun i=>?_,m.shift (by rw [W1_size]; omega) (W1_old w) [dcl w]⟩
 ·rcases Nat.lt_or_ge n (firstName+1) with c | c
  ·exact c
  ·have hm:=m.blks n
   have e:blkOf [X] n=.free:=by
    unfold blkOf
    rw [if_pos hn,List.getElem?_eq_none (by rw [List.length_singleton]; omega)]
    rfl
   rw [e] at hm
   simp only [RepB] at hm
   have hl':h.L n=some l:=hl
   rw [hm] at hl'
   cases hl'
 ·simp only [mkS,upds,upd]
  split
  ·rename_i e; subst e; simp only [RepA,RepD]; exact ⟨t5,rfl⟩
  ·split
   ·rename_i e; subst e; simp only [RepA,RepD]; exact ⟨t4,rfl⟩
   ·split
    ·rename_i e; subst e; rw [t1]; exact hr
    ·split
     ·rename_i e; subst e; simp only [RepA,RepD]; exact t0
     ·simp only [RepA]
theorem read_in {w:World} {h:Gh} {X:Blk} (hX:X.live=true) (m:Mem (ctxOf Es w h [X]) (blkOf [X]) w h):∀ j,j<1→∃ l,(C1 w h X).h0.L (firstName+j)=some l:=fun j hj=>by
 obtain rfl:j=0:=by omega
 have e:blkOf [X] (firstName+0)=X:=by simp [blkOf]
 exact live_loc (m.blks (firstName+0)) (by rw [e]; exact hX)
end Go.Proofs.Tryz
namespace Go.Proofs.Tryz
open Go.Ab
set_option maxRecDepth 100000
set_option maxHeartbeats 4000000
def fnL:Nat→FuncId
 | 0=>31
 | 1=>64
 | 2=>101
 | 3=>143
 | 4=>178
 | 5=>195
 | 6=>205
 | _=>213
theorem prim_num {n:Nat} {T l:List Tk} (ha:At T l) (hn:isNum l=true):parP (n+1) 7 l=.ok (.mk 2 0 (hdT l).n [] [] [],l.tail):=by
 cases l with
 | nil=>exact absurd rfl ha.ne
 | cons t r =>
   have hk:t.kd=2:=by simp [isNum] at hn; exact hn.1
   show (if t.kd=2 then _ else _)=_
   rw [if_pos hk]
   rfl
theorem p_par {fD:Nat→D} (hF:FailOk fD) {T:List Tk} (hV:okT T) (hT:T.length≤10000):∀ (n lvl:Nat) (l:List Tk),lvl≤7→At T l→need lvl l≤n→CfO Es (fnL lvl) [.ptr 1000000 0 0] [rdB T l] (outS fD T (parP n lvl l))
 | 0,lvl,l,hv,ha,hn=>by
   have:=List.length_pos_iff.2 ha.ne
   unfold need at hn
   omega
 | n+1,lvl,l,hv,ha,hn=>by
   have hpos:=List.length_pos_iff.2 ha.ne
   have rl:∀ (k L:Nat),k≤7→9*L+8 - k≤n→Rule Es fD T L (fnL k) (parP n k):=fun k L hk hL =>
    ⟨fun l' ha' hl'=>p_par hF hV hT n k l' hk ha' (by unfold need; omega),fun l'=>par_sfx n k l',fun l' t m ho hp=>par_okE n k ho hp⟩
   unfold need at hn
   match lvl,hv,hn with
   | 0,_,hn=>rw [parP]; exact p_term (rl 1 l.length (by omega) (by omega)) hT ha (Nat.le_refl _)
   | 1,_,hn=>rw [parP]; exact p_and (rl 2 l.length (by omega) (by omega)) hT ha (Nat.le_refl _)
   | 2,_,hn=>rw [parP]; exact p_not (L:=l.length - 1) (rl 2 _ (by omega) (by omega)) (rl 3 _ (by omega) (by omega)) hT ha (by omega)
   | 3,_,hn=>rw [parP]; exact p_comparison (L:=l.length - 1) hF (rl 4 _ (by omega) (by omega)) (rl 0 _ (by omega) (by omega)) hT ha (by omega)
   | 4,_,hn=>rw [parP]; exact p_sum (rl 5 l.length (by omega) (by omega)) hT ha (Nat.le_refl _)
   | 5,_,hn=>rw [parP]; exact p_product (rl 6 l.length (by omega) (by omega)) hT ha (Nat.le_refl _)
   | 6,_,hn =>
     rw [parP]
     obtain ⟨k,rfl⟩:∃ k,n=k+1:=⟨n - 1,by omega⟩
     exact p_unary (L:=l.length - 1) (rl 6 _ (by omega) (by omega)) (rl 7 _ (by omega) (by omega)) (fun l' ha' _ hn'=>prim_num ha' hn') hT ha (by omega)
   | 7,_,hn =>
     have e:parP (n+1) 7 l=priS (parP n 0) l:=by cases l <;> rfl
     rw [e]
     cases l with
     | nil=>exact absurd rfl ha.ne
     | cons t r =>
       have hlen:(t::r).length=r.length+1:=rfl
       by_cases k2:t.kd=2
       ·rw [priS,if_pos k2]
        exact p_prim_num hV hT ha k2
       by_cases k3:t.kd=3
       ·rw [priS,if_neg k2,if_pos k3]
        exact p_prim_txt hV hT ha k3
       exact p_prim_rest hF (rl 0 r.length (by omega) (by omega)) hT ha (Nat.le_refl _) k2 k3
   | k+8,hv,_=>omega
theorem l_FewTerm (x:Tm):Cf Es 5 [x.a] [] (.d (.bool (x.few 0))) []:=by
 refine cf_intro mixs (fn:=Tryz.f5) (by kernel_rfl) rfl (by kernel_rfl) (by decide) (by simp) ?_
 have c1:=x.clen
 have k1:=x.ctake
 have h1:=ups (l_termFew _ x 0 (Nat.lt_succ_self _))
 simp [Tm.a,c1,k1]
 (repeat refine ⟨.of (by kernel_rfl),?_⟩)
 refine acallT_plain h1 (by simp [Tm.a]) ?_
 simp
 all_goals exact gz
end Go.Proofs.Tryz
