import Derived.Test.YthpmjipkofbeiaaGreatDoorTSWow
set_option linter.all false
namespace Go.Proofs.Tryz
open Go.Ab
set_option maxRecDepth 100000
set_option maxHeartbeats 4000000
theorem t_nx (L:List Int) (i:Nat) (hi:i≤1000000000) (n:Int) (h1:1≤n) (hn:n≤1000000) :
  Cf En 20 [.ptr 1000000 0 0,.d (.int .i64 n)] [tapB L i] (.d (.int .i64 (nextV L i n))) [tapB L (i+1)]:=by
 have h:=t_next L i hi n hn
 rwa [show nextI i n=i+1 from by simp [nextI]; omega] at h
theorem t_valueW (L:List Int) (i:Nat) (hi:i≤100000000) (k:Int) (h2:2≤(valuesOf k).length) :
  Cf En 21 [.ptr 1000000 0 0,.d (.int .i64 k),.d (.bool false)] [tapB L i] (valW L i k).a [tapB L (i+1)]:=by
 refine cf_intro mix (fn:=Tryz.f21) (by kernel_rfl) rfl (by kernel_rfl) (by decide) (by simp) ?_
 have hl:=values_len k
 have hn:=nextV_in L i (n:=(valuesOf k).length - 1) (by omega)
 have ht:=t_nx L i (by omega) ((valuesOf k).length - 1) (by omega) (by omega)
 have hlt:(1+nextV L i ((valuesOf k).length - 1)).toNat<(valuesOf k).length:=by omega
 have hw0:=wrap_in (n:=((valuesOf k).length:Int) - 1) (by omega) (by omega)
 have hw1:=wrap_in (n:=1+nextV L i ((valuesOf k).length - 1)) (by omega) (by omega)
 have hg:(valuesOf k)[(1+nextV L i ((valuesOf k).length - 1)).toNat]?=some (valuesOf k)[(1+nextV L i ((valuesOf k).length - 1)).toNat]:=List.getElem?_eq_getElem hlt
 have hp:0≤1+nextV L i ((valuesOf k).length - 1):=by omega
 simp [tapB]
 (repeat' (first|contradiction|exact .ok|apply And.intro|intro _|(refine gc (fun h=>?_) (fun h=>?_)<;>(have h':=h;(try simp at h');first|done|simp[h,h']|simp))))
 refine acallT_plain (t_values k) (by simp [V.a]) ?_
 simp [hw0]
 (repeat' (first|contradiction|exact .ok|apply And.intro|intro _|(refine gc (fun h=>?_) (fun h=>?_)<;>(have h':=h;(try simp at h');first|done|simp[h,h']|simp))))
 refine acallT_hand [1000000] ht (by simp) (by simp) (by simp) (by simp [tapB]) (by simp) ?_
 simp [tapB,hw1,hg,hp,V.c]
 (repeat' (first|contradiction|exact .ok|apply And.intro|intro _|(refine gc (fun h=>?_) (fun h=>?_)<;>(have h':=h;(try simp at h');first|done|simp[h,h']|simp))))
 all_goals simp [valW,hg,V.a]
theorem nm_get (z:Int) (h0:0≤z) (h1:z<5):nmsT[z.toNat]?=some (nmT z):=by
 have:z=0∨z=1∨z=2∨z=3∨z=4:=by omega
 rcases this with rfl | rfl | rfl | rfl | rfl <;> rfl
theorem ql_get (z:Int) (h0:0≤z) (h1:z<2):qlsT[z.toNat]?=some (qlT z):=by
 have:z=0∨z=1:=by omega
 rcases this with rfl | rfl <;> rfl
def zT:List AV:=[.d (.int .i64 0),.d (.int .i64 0),.d (.int .i64 0),.d (.str []),.d (.str []),.nils]
def tkF (L:List Int) (d:Nat) (g:Nat→Tm×Nat) (op:Int) (n s:Nat):Nat→St
 | 0=>{ s:=mkS [(0,.ptr 1000000 0 0),(1,.d (.int .i64 ((d:Int)+2))),(4,.ptr 4 0 0),(7,.ptr 7 0 0),(8,.d (.int .i64 n)),(9,.d (.int .i64 0))],b:=mkB [(1000000,1000000,tapB L s),(4,4,.var zT),(7,7,.var [.d (.int .i64 op),.d (.int .i64 0),.d (.int .i64 0),.d (.str []),.d (.str []),.nils])] }
 | j+1=>{ s:=mkS [(0,.ptr 1000000 0 0),(1,.d (.int .i64 ((d:Int)+2))),(4,.ptr 4 0 0),(7,.ptr 7 0 0),(8,.d (.int .i64 n)),(9,.d (.int .i64 (j+1:Nat)))],b:=mkB [(1000000,1000000,tapB L (kidsT g (j+1) s).2),(4,4,.var zT),(7,7,.var [.d (.int .i64 op),.d (.int .i64 0),.d (.int .i64 0),.d (.str []),.d (.str []),.ref 900 0 (j+1) 6]),(900,900,.arr 25 6 ((kidsT g (j+1) s).1.map Tm.c) false)] }
def TermOk (L:List Int) (d:Nat) (g:Nat→Tm×Nat):Prop :=
 ∀ i:Nat,i+tb d≤1000000→(g i).2≤i+tb d∧Cf En 6 [.ptr 1000000 0 0,.d (.int .i64 d)] [tapB L i] (g i).1.a [tapB L (g i).2]
theorem v1_len:2≤(valuesOf 1).length:=by decide
theorem v3_len:2≤(valuesOf 3).length:=by decide
theorem t_leaf (L:List Int) (d:Nat) (hd:d≤1) (i:Nat) (hi:i≤1000000):Cf En 6 [.ptr 1000000 0 0,.d (.int .i64 d)] [tapB L i] (leafT L i).1.a [tapB L (leafT L i).2]:=by
 refine cf_intro mix (fn:=Tryz.f6) (by kernel_rfl) rfl (by kernel_rfl) (by decide) (by simp) ?_
 have hd':(d:Int)≤1:=by omega
 simp [tapB,hd']
 (repeat' (first|contradiction|exact .ok|apply And.intro|intro _|(refine gc (fun h=>?_) (fun h=>?_)<;>(have h':=h;(try simp at h');first|done|simp[h,h',hd']|simp[hd']))))
 have z6:=nextV_in L i (n:=6) (by omega)
 refine acallT_hand [1000000] (t_nx L i (by omega) 6 (by omega) (by omega)) (by simp) (by simp) (by simp) (by simp [tapB]; try omega) (by simp) ?_
 by_cases q0:nextV L i 6=0
 ·rw [show leafT L i=(.mk 1 (1+nextV L (i+1) 3) 0 [] [] [],i+2) from by simp [leafT,q0]]
  have zz:=nextV_in L (i+1) (n:=3) (by omega)
  have hw:=wrap_in (n:=1+nextV L (i+1) 3) (by omega) (by omega)
  simp [tapB,q0]
  (repeat' (first|contradiction|exact .ok|apply And.intro|intro _|(refine gc (fun h=>?_) (fun h=>?_)<;>(have h':=h;(try simp at h');first|done|simp[h,h']|simp))))
  refine acallT_hand [1000000] (t_nx L (i+1) (by omega) 3 (by omega) (by omega)) (by simp) (by simp) (by simp) (by simp [tapB]; try omega) (by simp) ?_
  simp [tapB,hw]
  (repeat' (first|contradiction|exact .ok|apply And.intro|intro _|(refine gc (fun h=>?_) (fun h=>?_)<;>(have h':=h;(try simp at h');first|done|simp[h,h']|simp))))
  all_goals (try simp [Tm.a,Tm.c,tmsC,tapB,V.c])
  all_goals (try omega)
 by_cases q1:nextV L i 6=1
 ·rw [show leafT L i=(.mk 2 0 (valW L (i+1) 1).n [] [] [],i+2) from by simp [leafT,q1]]
  simp [tapB,q1]
  (repeat' (first|contradiction|exact .ok|apply And.intro|intro _|(refine gc (fun h=>?_) (fun h=>?_)<;>(have h':=h;(try simp at h');first|done|simp[h,h']|simp))))
  refine acallT_hand [1000000] (t_valueW L (i+1) (by omega) 1 v1_len) (by simp) (by simp) (by simp) (by simp [tapB]; try omega) (by simp) ?_
  simp [tapB,V.a,V.c]
  (repeat' (first|contradiction|exact .ok|apply And.intro|intro _|(refine gc (fun h=>?_) (fun h=>?_)<;>(have h':=h;(try simp at h');first|done|simp[h,h']|simp))))
  all_goals (try simp [Tm.a,Tm.c,tmsC,tapB,V.c])
  all_goals (try omega)
 by_cases q2:nextV L i 6=2
 ·rw [show leafT L i=(.mk 3 0 (nextV L (i+1) 2) [] [] [],i+2) from by simp [leafT,q2]]
  simp [tapB,q2]
  (repeat' (first|contradiction|exact .ok|apply And.intro|intro _|(refine gc (fun h=>?_) (fun h=>?_)<;>(have h':=h;(try simp at h');first|done|simp[h,h']|simp))))
  refine acallT_hand [1000000] (t_nx L (i+1) (by omega) 2 (by omega) (by omega)) (by simp) (by simp) (by simp) (by simp [tapB]; try omega) (by simp) ?_
  simp [tapB]
  (repeat' (first|contradiction|exact .ok|apply And.intro|intro _|(refine gc (fun h=>?_) (fun h=>?_)<;>(have h':=h;(try simp at h');first|done|simp[h,h']|simp))))
  all_goals (try simp [Tm.a,Tm.c,tmsC,tapB,V.c])
  all_goals (try omega)
 by_cases q3:nextV L i 6=3
 ·rw [show leafT L i=(.mk 4 0 0 (valW L (i+1) 3).t [] [],i+2) from by simp [leafT,q3]]
  simp [tapB,q3]
  (repeat' (first|contradiction|exact .ok|apply And.intro|intro _|(refine gc (fun h=>?_) (fun h=>?_)<;>(have h':=h;(try simp at h');first|done|simp[h,h']|simp))))
  refine acallT_hand [1000000] (t_valueW L (i+1) (by omega) 3 v3_len) (by simp) (by simp) (by simp) (by simp [tapB]; try omega) (by simp) ?_
  simp [tapB,V.a,V.c]
  (repeat' (first|contradiction|exact .ok|apply And.intro|intro _|(refine gc (fun h=>?_) (fun h=>?_)<;>(have h':=h;(try simp at h');first|done|simp[h,h']|simp))))
  all_goals (try simp [Tm.a,Tm.c,tmsC,tapB,V.c])
  all_goals (try omega)
 have z5:=nextV_in L (i+1) (n:=5) (by omega)
 have hnm:=nm_get _ z5.1 z5.2
 have z50:=z5.1
 by_cases q4:nextV L i 6=4
 ·have z2:=nextV_in L (i+2) (n:=2) (by omega)
  have hql:=ql_get _ z2.1 z2.2
  have z20:=z2.1
  rw [show leafT L i=(.mk 40 0 0 (nmT (nextV L (i+1) 5)) (qlT (nextV L (i+2) 2)) [],i+3) from by simp [leafT,q4]]
  generalize nmT (nextV L (i+1) 5)=nm at *
  generalize qlT (nextV L (i+2) 2)=ql at *
  simp [tapB,q4]
  (repeat' (first|contradiction|exact .ok|apply And.intro|intro _|(refine gc (fun h=>?_) (fun h=>?_)<;>(have h':=h;(try simp at h');first|done|simp[h,h']|simp))))
  refine acallT_hand [1000000] (t_nx L (i+1) (by omega) 5 (by omega) (by omega)) (by simp) (by simp) (by simp) (by simp [tapB]; try omega) (by simp) ?_
  obtain ⟨u,hu⟩:∃ u,u=nextV L (i+1) 5:=⟨_,rfl⟩
  rw [← hu] at hnm z50 ⊢
  have hnm':[[D.str [97]],[D.str [98]],[D.str [105,100]],[D.str [99,48]],[D.str [99,49]]][u.toNat]?=some [D.str nm]:=by
   have:=congrArg (Option.map fun x=>[D.str x]) hnm
   rwa [← List.getElem?_map] at this
  have hu5:u<5:=by omega
  have hnk:∀ h,[[D.str [97]],[D.str [98]],[D.str [105,100]],[D.str [99,48]],[D.str [99,49]]][u.toNat]'h=[D.str nm]:=fun h=>(List.getElem?_eq_some_iff.1 hnm').2
  simp [tapB,z50,hu5,hnm',hnk]
  (repeat' (first|contradiction|exact .ok|apply And.intro|intro _|(refine gc (fun h=>?_) (fun h=>?_)<;>(have h':=h;(try simp at h');first|done|simp[h,h',z50,hu5,hnm',hnk]|simp[z50,hu5,hnm',hnk]))))
  refine acallT_hand [1000000] (t_nx L (i+2) (by omega) 2 (by omega) (by omega)) (by simp) (by simp) (by simp) (by simp [tapB]; try omega) (by simp) ?_
  obtain ⟨w,hw⟩:∃ w,w=nextV L (i+2) 2:=⟨_,rfl⟩
  rw [← hw] at hql z20 ⊢
  have hql':[[D.str [116,48]],[D.str [120]]][w.toNat]?=some [D.str ql]:=by
   have:=congrArg (Option.map fun x=>[D.str x]) hql
   rwa [← List.getElem?_map] at this
  have hw2:w<2:=by omega
  have hqk:∀ h,[[D.str [116,48]],[D.str [120]]][w.toNat]'h=[D.str ql]:=fun h=>(List.getElem?_eq_some_iff.1 hql').2
  simp [tapB,z20,hw2,hql',hqk]
  (repeat' (first|contradiction|exact .ok|apply And.intro|intro _|(refine gc (fun h=>?_) (fun h=>?_)<;>(have h':=h;(try simp at h');first|done|simp[h,h']|simp))))
  all_goals (try simp [Tm.a,Tm.c,tmsC,tapB,V.c])
  all_goals (try omega)
 rw [show leafT L i=(.mk 40 0 0 (nmT (nextV L (i+1) 5)) [] [],i+2) from by simp [leafT,q0,q1,q2,q3,q4]]
 generalize nmT (nextV L (i+1) 5)=nm at *
 simp [tapB,q0,q1,q2,q3,q4]
 (repeat' (first|contradiction|exact .ok|apply And.intro|intro _|(refine gc (fun h=>?_) (fun h=>?_)<;>(have h':=h;(try simp at h');first|done|simp[h,h',q0,q1,q2,q3,q4]|simp[q0,q1,q2,q3,q4]))))
 refine acallT_hand [1000000] (t_nx L (i+1) (by omega) 5 (by omega) (by omega)) (by simp) (by simp) (by simp) (by simp [tapB]; try omega) (by simp) ?_
 obtain ⟨u,hu⟩:∃ u,u=nextV L (i+1) 5:=⟨_,rfl⟩
 rw [← hu] at hnm z50 ⊢
 have hnm':[[D.str [97]],[D.str [98]],[D.str [105,100]],[D.str [99,48]],[D.str [99,49]]][u.toNat]?=some [D.str nm]:=by
  have:=congrArg (Option.map fun x=>[D.str x]) hnm
  rwa [← List.getElem?_map] at this
 have hu5:u<5:=by omega
 have hnk:∀ h,[[D.str [97]],[D.str [98]],[D.str [105,100]],[D.str [99,48]],[D.str [99,49]]][u.toNat]'h=[D.str nm]:=fun h=>(List.getElem?_eq_some_iff.1 hnm').2
 simp [tapB,z50,hu5,hnm',hnk]
 (repeat' (first|contradiction|exact .ok|apply And.intro|intro _|(refine gc (fun h=>?_) (fun h=>?_)<;>(have h':=h;(try simp at h');first|done|simp[h,h']|simp))))
 all_goals (try simp [Tm.a,Tm.c,tmsC,tapB,V.c])
 all_goals (try omega)
theorem t_leaf2 (L:List Int) (d:Nat) (i:Nat) (hi:i≤1000000) (h0:nextV L i 4=0):Cf En 6 [.ptr 1000000 0 0,.d (.int .i64 (d+2:Nat))] [tapB L i] (leafT L (i+1)).1.a [tapB L (leafT L (i+1)).2]:=by
 refine cf_intro mix (fn:=Tryz.f6) (by kernel_rfl) rfl (by kernel_rfl) (by decide) (by simp) ?_
 have hd':¬ (d:Int)+2≤1:=by omega
 simp [tapB,hd']
 (repeat' (first|contradiction|exact .ok|apply And.intro|intro _|(refine gc (fun h=>?_) (fun h=>?_)<;>(have h':=h;(try simp at h');first|done|simp[h,h',hd']|simp[hd']))))
 refine acallT_hand [1000000] (t_nx L i (by omega) 4 (by omega) (by omega)) (by simp) (by simp) (by simp) (by simp [tapB]; try omega) (by simp) ?_
 simp [tapB,h0]
 (repeat' (first|contradiction|exact .ok|apply And.intro|intro _|(refine gc (fun h=>?_) (fun h=>?_)<;>(have h':=h;(try simp at h');first|done|simp[h,h',h0]|simp[h0]))))
 have z6:=nextV_in L (i+1) (n:=6) (by omega)
 refine acallT_hand [1000000] (t_nx L (i+1) (by omega) 6 (by omega) (by omega)) (by simp) (by simp) (by simp) (by simp [tapB]; try omega) (by simp) ?_
 by_cases q0:nextV L (i+1) 6=0
 ·rw [show leafT L (i+1)=(.mk 1 (1+nextV L ((i+1)+1) 3) 0 [] [] [],(i+1)+2) from by simp [leafT,q0]]
  have zz:=nextV_in L ((i+1)+1) (n:=3) (by omega)
  have hw:=wrap_in (n:=1+nextV L ((i+1)+1) 3) (by omega) (by omega)
  simp [tapB,q0]
  (repeat' (first|contradiction|exact .ok|apply And.intro|intro _|(refine gc (fun h=>?_) (fun h=>?_)<;>(have h':=h;(try simp at h');first|done|simp[h,h']|simp))))
  refine acallT_hand [1000000] (t_nx L ((i+1)+1) (by omega) 3 (by omega) (by omega)) (by simp) (by simp) (by simp) (by simp [tapB]; try omega) (by simp) ?_
  simp [tapB,hw]
  (repeat' (first|contradiction|exact .ok|apply And.intro|intro _|(refine gc (fun h=>?_) (fun h=>?_)<;>(have h':=h;(try simp at h');first|done|simp[h,h']|simp))))
  all_goals (try simp [Tm.a,Tm.c,tmsC,tapB,V.c])
  all_goals (try omega)
 by_cases q1:nextV L (i+1) 6=1
 ·rw [show leafT L (i+1)=(.mk 2 0 (valW L ((i+1)+1) 1).n [] [] [],(i+1)+2) from by simp [leafT,q1]]
  simp [tapB,q1]
  (repeat' (first|contradiction|exact .ok|apply And.intro|intro _|(refine gc (fun h=>?_) (fun h=>?_)<;>(have h':=h;(try simp at h');first|done|simp[h,h']|simp))))
  refine acallT_hand [1000000] (t_valueW L ((i+1)+1) (by omega) 1 v1_len) (by simp) (by simp) (by simp) (by simp [tapB]; try omega) (by simp) ?_
  simp [tapB,V.a,V.c]
  (repeat' (first|contradiction|exact .ok|apply And.intro|intro _|(refine gc (fun h=>?_) (fun h=>?_)<;>(have h':=h;(try simp at h');first|done|simp[h,h']|simp))))
  all_goals (try simp [Tm.a,Tm.c,tmsC,tapB,V.c])
  all_goals (try omega)
 by_cases q2:nextV L (i+1) 6=2
 ·rw [show leafT L (i+1)=(.mk 3 0 (nextV L ((i+1)+1) 2) [] [] [],(i+1)+2) from by simp [leafT,q2]]
  simp [tapB,q2]
  (repeat' (first|contradiction|exact .ok|apply And.intro|intro _|(refine gc (fun h=>?_) (fun h=>?_)<;>(have h':=h;(try simp at h');first|done|simp[h,h']|simp))))
  refine acallT_hand [1000000] (t_nx L ((i+1)+1) (by omega) 2 (by omega) (by omega)) (by simp) (by simp) (by simp) (by simp [tapB]; try omega) (by simp) ?_
  simp [tapB]
  (repeat' (first|contradiction|exact .ok|apply And.intro|intro _|(refine gc (fun h=>?_) (fun h=>?_)<;>(have h':=h;(try simp at h');first|done|simp[h,h']|simp))))
  all_goals (try simp [Tm.a,Tm.c,tmsC,tapB,V.c])
  all_goals (try omega)
 by_cases q3:nextV L (i+1) 6=3
 ·rw [show leafT L (i+1)=(.mk 4 0 0 (valW L ((i+1)+1) 3).t [] [],(i+1)+2) from by simp [leafT,q3]]
  simp [tapB,q3]
  (repeat' (first|contradiction|exact .ok|apply And.intro|intro _|(refine gc (fun h=>?_) (fun h=>?_)<;>(have h':=h;(try simp at h');first|done|simp[h,h']|simp))))
  refine acallT_hand [1000000] (t_valueW L ((i+1)+1) (by omega) 3 v3_len) (by simp) (by simp) (by simp) (by simp [tapB]; try omega) (by simp) ?_
  simp [tapB,V.a,V.c]
  (repeat' (first|contradiction|exact .ok|apply And.intro|intro _|(refine gc (fun h=>?_) (fun h=>?_)<;>(have h':=h;(try simp at h');first|done|simp[h,h']|simp))))
  all_goals (try simp [Tm.a,Tm.c,tmsC,tapB,V.c])
  all_goals (try omega)
 have z5:=nextV_in L ((i+1)+1) (n:=5) (by omega)
 have hnm:=nm_get _ z5.1 z5.2
 have z50:=z5.1
 by_cases q4:nextV L (i+1) 6=4
 ·have z2:=nextV_in L ((i+1)+2) (n:=2) (by omega)
  have hql:=ql_get _ z2.1 z2.2
  have z20:=z2.1
  rw [show leafT L (i+1)=(.mk 40 0 0 (nmT (nextV L ((i+1)+1) 5)) (qlT (nextV L ((i+1)+2) 2)) [],(i+1)+3) from by simp [leafT,q4]]
  generalize nmT (nextV L ((i+1)+1) 5)=nm at *
  generalize qlT (nextV L ((i+1)+2) 2)=ql at *
  simp [tapB,q4]
  (repeat' (first|contradiction|exact .ok|apply And.intro|intro _|(refine gc (fun h=>?_) (fun h=>?_)<;>(have h':=h;(try simp at h');first|done|simp[h,h']|simp))))
  refine acallT_hand [1000000] (t_nx L ((i+1)+1) (by omega) 5 (by omega) (by omega)) (by simp) (by simp) (by simp) (by simp [tapB]; try omega) (by simp) ?_
  obtain ⟨u,hu⟩:∃ u,u=nextV L ((i+1)+1) 5:=⟨_,rfl⟩
  rw [← hu] at hnm z50 ⊢
  have hnm':[[D.str [97]],[D.str [98]],[D.str [105,100]],[D.str [99,48]],[D.str [99,49]]][u.toNat]?=some [D.str nm]:=by
   have:=congrArg (Option.map fun x=>[D.str x]) hnm
   rwa [← List.getElem?_map] at this
  have hu5:u<5:=by omega
  have hnk:∀ h,[[D.str [97]],[D.str [98]],[D.str [105,100]],[D.str [99,48]],[D.str [99,49]]][u.toNat]'h=[D.str nm]:=fun h=>(List.getElem?_eq_some_iff.1 hnm').2
  simp [tapB,z50,hu5,hnm',hnk]
  (repeat' (first|contradiction|exact .ok|apply And.intro|intro _|(refine gc (fun h=>?_) (fun h=>?_)<;>(have h':=h;(try simp at h');first|done|simp[h,h',z50,hu5,hnm',hnk]|simp[z50,hu5,hnm',hnk]))))
  refine acallT_hand [1000000] (t_nx L ((i+1)+2) (by omega) 2 (by omega) (by omega)) (by simp) (by simp) (by simp) (by simp [tapB]; try omega) (by simp) ?_
  obtain ⟨w,hw⟩:∃ w,w=nextV L ((i+1)+2) 2:=⟨_,rfl⟩
  rw [← hw] at hql z20 ⊢
  have hql':[[D.str [116,48]],[D.str [120]]][w.toNat]?=some [D.str ql]:=by
   have:=congrArg (Option.map fun x=>[D.str x]) hql
   rwa [← List.getElem?_map] at this
  have hw2:w<2:=by omega
  have hqk:∀ h,[[D.str [116,48]],[D.str [120]]][w.toNat]'h=[D.str ql]:=fun h=>(List.getElem?_eq_some_iff.1 hql').2
  simp [tapB,z20,hw2,hql',hqk]
  (repeat' (first|contradiction|exact .ok|apply And.intro|intro _|(refine gc (fun h=>?_) (fun h=>?_)<;>(have h':=h;(try simp at h');first|done|simp[h,h']|simp))))
  all_goals (try simp [Tm.a,Tm.c,tmsC,tapB,V.c])
  all_goals (try omega)
 rw [show leafT L (i+1)=(.mk 40 0 0 (nmT (nextV L ((i+1)+1) 5)) [] [],(i+1)+2) from by simp [leafT,q0,q1,q2,q3,q4]]
 generalize nmT (nextV L ((i+1)+1) 5)=nm at *
 simp [tapB,q0,q1,q2,q3,q4]
 (repeat' (first|contradiction|exact .ok|apply And.intro|intro _|(refine gc (fun h=>?_) (fun h=>?_)<;>(have h':=h;(try simp at h');first|done|simp[h,h',q0,q1,q2,q3,q4]|simp[q0,q1,q2,q3,q4]))))
 refine acallT_hand [1000000] (t_nx L ((i+1)+1) (by omega) 5 (by omega) (by omega)) (by simp) (by simp) (by simp) (by simp [tapB]; try omega) (by simp) ?_
 obtain ⟨u,hu⟩:∃ u,u=nextV L ((i+1)+1) 5:=⟨_,rfl⟩
 rw [← hu] at hnm z50 ⊢
 have hnm':[[D.str [97]],[D.str [98]],[D.str [105,100]],[D.str [99,48]],[D.str [99,49]]][u.toNat]?=some [D.str nm]:=by
  have:=congrArg (Option.map fun x=>[D.str x]) hnm
  rwa [← List.getElem?_map] at this
 have hu5:u<5:=by omega
 have hnk:∀ h,[[D.str [97]],[D.str [98]],[D.str [105,100]],[D.str [99,48]],[D.str [99,49]]][u.toNat]'h=[D.str nm]:=fun h=>(List.getElem?_eq_some_iff.1 hnm').2
 simp [tapB,z50,hu5,hnm',hnk]
 (repeat' (first|contradiction|exact .ok|apply And.intro|intro _|(refine gc (fun h=>?_) (fun h=>?_)<;>(have h':=h;(try simp at h');first|done|simp[h,h']|simp))))
 all_goals (try simp [Tm.a,Tm.c,tmsC,tapB,V.c])
 all_goals (try omega)
theorem t_term (L:List Int):∀ d:Nat,d≤6→TermOk L d (termG L d)
 | 0,_=>fun i hi=>⟨termG_le L 0 i hi,t_leaf L 0 (by omega) i (by omega)⟩
 | 1,_=>fun i hi=>⟨termG_le L 1 i hi,t_leaf L 1 (by omega) i (by omega)⟩
 | d+2,hd=>fun i hi=>by
   refine ⟨termG_le L (d+2) i hi,?_⟩
   have ok:=t_term L (d+1) (by omega)
   have htb:tb (d+2)=10+5*tb (d+1):=rfl
   have e1:termG L (d+2) i=if nextV L i 4=0 then leafT L (i+1) else nodeT L (termG L (d+1)) (i+1):=by
    rw [termG]; simp
   rw [e1]
   by_cases h0:nextV L i 4=0
   ·rw [if_pos h0]
    exact t_leaf2 L d i (by omega) h0
   rw [if_neg h0]
   generalize termG L (d+1)=g at ok
   clear e1
   have hn:=nextV_in L i (n:=4) (by omega)
   refine cf_intro mix (fn:=Tryz.f6) (by kernel_rfl) rfl (by kernel_rfl) (by decide) (by simp) ?_
   have hd':¬ (d:Int)+2≤1:=by omega
   have hw:IntKind.i64.wrap ((d:Int)+2 - 1)=d+1:=by rw [wrap_in (by omega) (by omega)]; omega
   simp [tapB,hd']
   (repeat' (first|contradiction|exact .ok|apply And.intro|intro _|(refine gc (fun h=>?_) (fun h=>?_)<;>(have h':=h;(try simp at h');first|done|simp[h,h',hd']|simp[hd']))))
   refine acallT_hand [1000000] (t_nx L i (by omega) 4 (by omega) (by omega)) (by simp) (by simp) (by simp) (by simp [tapB]; try omega) (by simp) ?_
   simp [tapB,h0]
   (repeat' (first|contradiction|exact .ok|apply And.intro|intro _|(refine gc (fun h=>?_) (fun h=>?_)<;>(have h':=h;(try simp at h');first|done|simp[h,h',h0]|simp[h0]))))
   have n8:=nextV_in L (i+1) (n:=8) (by omega)
   refine acallT_hand [1000000] (t_nx L (i+1) (by omega) 8 (by omega) (by omega)) (by simp) (by simp) (by simp) (by simp [tapB]; try omega) (by simp) ?_
   by_cases m0:nextV L (i+1) 8=0
   ·have n6:=nextV_in L (i+2) (n:=6) (by omega)
    have hw6:=wrap_in (n:=1+nextV L (i+2) 6) (by omega) (by omega)
    simp [tapB,m0]
    (repeat' (first|contradiction|exact .ok|apply And.intro|intro _|(refine gc (fun h=>?_) (fun h=>?_)<;>(have h':=h;(try simp at h');first|done|simp[h,h',m0]|simp[m0]))))
    refine acallT_hand [1000000] (t_nx L (i+2) (by omega) 6 (by omega) (by omega)) (by simp) (by simp) (by simp) (by simp [tapB]; try omega) (by simp) ?_
    by_cases f0:nextV L (i+2) 6=0
    ·rw [show nodeT L g (i+1)=(.mk 41 0 1 [] [] [],i+3) from by simp [nodeT,m0,f0]]
     simp [tapB,f0]
     (repeat' (first|contradiction|exact .ok|apply And.intro|intro _|(refine gc (fun h=>?_) (fun h=>?_)<;>(have h':=h;(try simp at h');first|done|simp[h,h']|simp))))
     all_goals (try simp [Tm.a,Tm.c,tmsC,tapB])
     all_goals (try omega)
    ·rw [show nodeT L g (i+1)=(.mk 41 0 (1+nextV L (i+2) 6) [] [] [(g (i+3)).1],(g (i+3)).2) from by simp [nodeT,m0,f0]]
     obtain ⟨l1,c1⟩:=ok (i+3) (by omega)
     generalize g (i+3)=r at *
     have hf:¬ 1+nextV L (i+2) 6=1:=by omega
     have c2:=r.1.clen
     have k2:=r.1.ctake
     have k2':=r.1.ctake'
     simp [tapB,hw6,hf,hw]
     (repeat' (first|contradiction|exact .ok|apply And.intro|intro _|(refine gc (fun h=>?_) (fun h=>?_)<;>(have h':=h;(try simp at h');first|done|simp[h,h',hf]|simp[hf]))))
     refine acallT_hand [1000000] c1 (by simp) (by simp) (by simp) (by simp [tapB]; try omega) (by simp) ?_
     simp [tapB,Tm.a,c2,k2,k2']
     (repeat' (first|contradiction|exact .ok|apply And.intro|intro _|(refine gc (fun h=>?_) (fun h=>?_)<;>(have h':=h;(try simp at h');first|done|simp[h,h']|simp))))
     all_goals (try simp [Tm.a,Tm.c,tmsC,tapB])
   have n23:=nextV_in L (i+2) (n:=23) (by omega)
   have hw23:=wrap_in (n:=6+nextV L (i+2) 23) (by omega) (by omega)
   simp [tapB,m0]
   (repeat' (first|contradiction|exact .ok|apply And.intro|intro _|(refine gc (fun h=>?_) (fun h=>?_)<;>(have h':=h;(try simp at h');first|done|simp[h,h',m0]|simp[m0]))))
   refine acallT_hand [1000000] (t_nx L (i+2) (by omega) 23 (by omega) (by omega)) (by simp) (by simp) (by simp) (by simp [tapB]; try omega) (by simp) ?_
   obtain ⟨op,hop⟩:∃ op,op=6+nextV L (i+2) 23:=⟨_,rfl⟩
   have hopr:6≤op∧op≤28:=by omega
   rw [← hop] at hw23
   have hnd:nodeT L g (i+1)=if op=11∨op=13∨op=21∨op=24∨op=25 then ndT g op 1 (i+3) else if op=26 then ndT g 26 3 (i+3) else if op=28 then ndT g 28 (2+nextV L (i+3) 3).toNat (i+4) else ndT g op 2 (i+3):=by
    unfold nodeT
    rw [if_neg m0,← hop]
   rw [hnd]
   clear hnd
   have bnd:∀ (n s j:Nat),n≤4→s≤i+4→j<n→(kidsT g j s).2+tb (d+1)≤1000000:=fun n s j hn hs hj=>by
    have h1:j*tb (d+1)≤3*tb (d+1):=Nat.mul_le_mul_right _ (by omega)
    have:=kidsT_le g (tb (d+1)) (fun j h=>(ok j h).1) j s (by omega)
    omega
   by_cases c11:op=11
   ·have hv:nextV L (i+2) 23=5:=by omega
    rw [if_pos (by omega)]
    obtain ⟨n,hn1⟩:∃ n:Nat,n=1:=⟨_,rfl⟩
    obtain ⟨s,hsn⟩:∃ s:Nat,s=i+3:=⟨_,rfl⟩
    rw [show ndT g op 1 (i+3)=ndT g op n s from by rw [hn1,hsn]]
    simp [tapB,hv]
    (repeat' (first|contradiction|exact .ok|apply And.intro|intro _|(refine gc (fun h=>?_) (fun h=>?_)<;>(have h':=h;(try simp at h');first|done|simp[h,h']|simp))))
    have hn4:n≤4:=by omega
    have hs4:s≤i+4:=by omega
    refine aloopT mix (by decide) (tkF L d g op n s) (fun j:Nat=>j≤n) (fun j=>n - j) 0 (by simp) (sub_mk [(0,_),(1,_),(4,_),(7,_),(8,_),(9,_)] [(1000000,1000000,_),(4,4,_),(7,7,_)] ⟨by simp,by simp,by simp [renOf,Blk.live,tapB,zT,hsn,c11]; try omega,base1⟩ (by simp [renOf,hn1])) ?_
    intro j hj
    have hlen:=kidsT_len g j s
    by_cases hlt:j<n
    ·have hlt2:(j:Int)<n:=by omega
     have hmj:kidsT g (j+1) s=((kidsT g j s).1++[(g (kidsT g j s).2).1],(g (kidsT g j s).2).2):=rfl
     obtain ⟨l1,c1⟩:=ok (kidsT g j s).2 (bnd n s j hn4 hs4 hlt)
     have c2:=(g (kidsT g j s).2).1.clen
     have k2:=(g (kidsT g j s).2).1.ctake
     have k2':=(g (kidsT g j s).2).1.ctake'
     cases j with
     | zero =>
       have hlt3:(0:Int)<n:=by omega
       have hlt4:0<n:=by omega
       simp [tkF,tapB,hlt3,hlt4,hw]
       (repeat' (first|contradiction|exact .ok|apply And.intro|intro _|(refine gc (fun h=>?_) (fun h=>?_)<;>(have h':=h;(try simp at h');first|done|simp[h,h']|simp))))
       refine acallT_hand [1000000] c1 (by simp) (by simp) (by simp) (by simp [tapB,kidsT]) (by simp) ?_
       simp [tapB,Tm.a,c2,k2,k2']
       (repeat' (first|contradiction|exact .ok|apply And.intro|intro _|(refine gc (fun h=>?_) (fun h=>?_)<;>(have h':=h;(try simp at h');first|done|simp[h,h']|simp))))
       refine ⟨1,hlt,?_,?_⟩
       ·refine sub_mk [(0,_),(1,_),(4,_),(7,_),(8,_),(9,_)] [(1000000,1000000,_),(4,4,_),(7,7,_),(900,110,_)] ⟨by simp,by simp,?_,base1⟩ ?_
        ·simp [renOf,Blk.live,tapB,hmj,kidsT,zT]
        ·simp [renOf]
         exact wrap_in (by omega) (by omega)
       ·simp; omega
     | succ j =>
       have hlt3:(j:Int)+1<n:=by omega
       have hp:(0:Int)≤(j:Int)+1:=by omega
       have s1:(j+1+1)*80≤140737488355328:=by omega
       have s2:j≤9223372036854775805:=by omega
       simp [tkF,tapB,hlt3,hlt,hw]
       (repeat' (first|contradiction|exact .ok|apply And.intro|intro _|(refine gc (fun h=>?_) (fun h=>?_)<;>(have h':=h;(try simp at h');first|done|simp[h,h']|simp))))
       refine acallT_hand [1000000] c1 (by simp) (by simp) (by simp) (by simp [tapB]) (by simp) ?_
       simp [tapB,Tm.a,c2,k2,k2',hlen,s1,s2]
       (repeat' (first|contradiction|exact .ok|apply And.intro|intro _|(refine gc (fun h=>?_) (fun h=>?_)<;>(have h':=h;(try simp at h');first|done|simp[h,h']|simp))))
       refine ⟨j+2,by omega,?_,?_⟩
       ·refine sub_mk [(0,_),(1,_),(4,_),(7,_),(8,_),(9,_)] [(1000000,1000000,_),(4,4,_),(7,7,_),(900,110,_)] ⟨by simp,by simp,?_,base1⟩ ?_
        ·simp [renOf,Blk.live,tapB,hmj,zT]
        ·simp [renOf]
         rw [wrap_in (by omega) (by omega)]
       ·simp; omega
    ·have hjn:j=n:=by omega
     subst hjn
     cases j with
     | zero=>omega
     | succ j =>
       simp [tkF,tapB,hlen]
       (repeat' (first|contradiction|exact .ok|apply And.intro|intro _|(refine gc (fun h=>?_) (fun h=>?_)<;>(have h':=h;(try simp at h');first|done|simp[h,h']|simp))))
       all_goals (try simp [ndT,Tm.a,Tm.c,tmsC_map,tapB,hlen])
       all_goals exact List.take_of_length_le (by simp [hlen])
   by_cases c13:op=13
   ·have hv:nextV L (i+2) 23=7:=by omega
    rw [if_pos (by omega)]
    obtain ⟨n,hn1⟩:∃ n:Nat,n=1:=⟨_,rfl⟩
    obtain ⟨s,hsn⟩:∃ s:Nat,s=i+3:=⟨_,rfl⟩
    rw [show ndT g op 1 (i+3)=ndT g op n s from by rw [hn1,hsn]]
    simp [tapB,hv]
    (repeat' (first|contradiction|exact .ok|apply And.intro|intro _|(refine gc (fun h=>?_) (fun h=>?_)<;>(have h':=h;(try simp at h');first|done|simp[h,h']|simp))))
    have hn4:n≤4:=by omega
    have hs4:s≤i+4:=by omega
    refine aloopT mix (by decide) (tkF L d g op n s) (fun j:Nat=>j≤n) (fun j=>n - j) 0 (by simp) (sub_mk [(0,_),(1,_),(4,_),(7,_),(8,_),(9,_)] [(1000000,1000000,_),(4,4,_),(7,7,_)] ⟨by simp,by simp,by simp [renOf,Blk.live,tapB,zT,hsn,c13]; try omega,base1⟩ (by simp [renOf,hn1])) ?_
    intro j hj
    have hlen:=kidsT_len g j s
    by_cases hlt:j<n
    ·have hlt2:(j:Int)<n:=by omega
     have hmj:kidsT g (j+1) s=((kidsT g j s).1++[(g (kidsT g j s).2).1],(g (kidsT g j s).2).2):=rfl
     obtain ⟨l1,c1⟩:=ok (kidsT g j s).2 (bnd n s j hn4 hs4 hlt)
     have c2:=(g (kidsT g j s).2).1.clen
     have k2:=(g (kidsT g j s).2).1.ctake
     have k2':=(g (kidsT g j s).2).1.ctake'
     cases j with
     | zero =>
       have hlt3:(0:Int)<n:=by omega
       have hlt4:0<n:=by omega
       simp [tkF,tapB,hlt3,hlt4,hw]
       (repeat' (first|contradiction|exact .ok|apply And.intro|intro _|(refine gc (fun h=>?_) (fun h=>?_)<;>(have h':=h;(try simp at h');first|done|simp[h,h']|simp))))
       refine acallT_hand [1000000] c1 (by simp) (by simp) (by simp) (by simp [tapB,kidsT]) (by simp) ?_
       simp [tapB,Tm.a,c2,k2,k2']
       (repeat' (first|contradiction|exact .ok|apply And.intro|intro _|(refine gc (fun h=>?_) (fun h=>?_)<;>(have h':=h;(try simp at h');first|done|simp[h,h']|simp))))
       refine ⟨1,hlt,?_,?_⟩
       ·refine sub_mk [(0,_),(1,_),(4,_),(7,_),(8,_),(9,_)] [(1000000,1000000,_),(4,4,_),(7,7,_),(900,110,_)] ⟨by simp,by simp,?_,base1⟩ ?_
        ·simp [renOf,Blk.live,tapB,hmj,kidsT,zT]
        ·simp [renOf]
         exact wrap_in (by omega) (by omega)
       ·simp; omega
     | succ j =>
       have hlt3:(j:Int)+1<n:=by omega
       have hp:(0:Int)≤(j:Int)+1:=by omega
       have s1:(j+1+1)*80≤140737488355328:=by omega
       have s2:j≤9223372036854775805:=by omega
       simp [tkF,tapB,hlt3,hlt,hw]
       (repeat' (first|contradiction|exact .ok|apply And.intro|intro _|(refine gc (fun h=>?_) (fun h=>?_)<;>(have h':=h;(try simp at h');first|done|simp[h,h']|simp))))
       refine acallT_hand [1000000] c1 (by simp) (by simp) (by simp) (by simp [tapB]) (by simp) ?_
       simp [tapB,Tm.a,c2,k2,k2',hlen,s1,s2]
       (repeat' (first|contradiction|exact .ok|apply And.intro|intro _|(refine gc (fun h=>?_) (fun h=>?_)<;>(have h':=h;(try simp at h');first|done|simp[h,h']|simp))))
       refine ⟨j+2,by omega,?_,?_⟩
       ·refine sub_mk [(0,_),(1,_),(4,_),(7,_),(8,_),(9,_)] [(1000000,1000000,_),(4,4,_),(7,7,_),(900,110,_)] ⟨by simp,by simp,?_,base1⟩ ?_
        ·simp [renOf,Blk.live,tapB,hmj,zT]
        ·simp [renOf]
         rw [wrap_in (by omega) (by omega)]
       ·simp; omega
    ·have hjn:j=n:=by omega
     subst hjn
     cases j with
     | zero=>omega
     | succ j =>
       simp [tkF,tapB,hlen]
       (repeat' (first|contradiction|exact .ok|apply And.intro|intro _|(refine gc (fun h=>?_) (fun h=>?_)<;>(have h':=h;(try simp at h');first|done|simp[h,h']|simp))))
       all_goals (try simp [ndT,Tm.a,Tm.c,tmsC_map,tapB,hlen])
       all_goals exact List.take_of_length_le (by simp [hlen])
   by_cases c21:op=21
   ·have hv:nextV L (i+2) 23=15:=by omega
    rw [if_pos (by omega)]
    obtain ⟨n,hn1⟩:∃ n:Nat,n=1:=⟨_,rfl⟩
    obtain ⟨s,hsn⟩:∃ s:Nat,s=i+3:=⟨_,rfl⟩
    rw [show ndT g op 1 (i+3)=ndT g op n s from by rw [hn1,hsn]]
    simp [tapB,hv]
    (repeat' (first|contradiction|exact .ok|apply And.intro|intro _|(refine gc (fun h=>?_) (fun h=>?_)<;>(have h':=h;(try simp at h');first|done|simp[h,h']|simp))))
    have hn4:n≤4:=by omega
    have hs4:s≤i+4:=by omega
    refine aloopT mix (by decide) (tkF L d g op n s) (fun j:Nat=>j≤n) (fun j=>n - j) 0 (by simp) (sub_mk [(0,_),(1,_),(4,_),(7,_),(8,_),(9,_)] [(1000000,1000000,_),(4,4,_),(7,7,_)] ⟨by simp,by simp,by simp [renOf,Blk.live,tapB,zT,hsn,c21]; try omega,base1⟩ (by simp [renOf,hn1])) ?_
    intro j hj
    have hlen:=kidsT_len g j s
    by_cases hlt:j<n
    ·have hlt2:(j:Int)<n:=by omega
     have hmj:kidsT g (j+1) s=((kidsT g j s).1++[(g (kidsT g j s).2).1],(g (kidsT g j s).2).2):=rfl
     obtain ⟨l1,c1⟩:=ok (kidsT g j s).2 (bnd n s j hn4 hs4 hlt)
     have c2:=(g (kidsT g j s).2).1.clen
     have k2:=(g (kidsT g j s).2).1.ctake
     have k2':=(g (kidsT g j s).2).1.ctake'
     cases j with
     | zero =>
       have hlt3:(0:Int)<n:=by omega
       have hlt4:0<n:=by omega
       simp [tkF,tapB,hlt3,hlt4,hw]
       (repeat' (first|contradiction|exact .ok|apply And.intro|intro _|(refine gc (fun h=>?_) (fun h=>?_)<;>(have h':=h;(try simp at h');first|done|simp[h,h']|simp))))
       refine acallT_hand [1000000] c1 (by simp) (by simp) (by simp) (by simp [tapB,kidsT]) (by simp) ?_
       simp [tapB,Tm.a,c2,k2,k2']
       (repeat' (first|contradiction|exact .ok|apply And.intro|intro _|(refine gc (fun h=>?_) (fun h=>?_)<;>(have h':=h;(try simp at h');first|done|simp[h,h']|simp))))
       refine ⟨1,hlt,?_,?_⟩
       ·refine sub_mk [(0,_),(1,_),(4,_),(7,_),(8,_),(9,_)] [(1000000,1000000,_),(4,4,_),(7,7,_),(900,110,_)] ⟨by simp,by simp,?_,base1⟩ ?_
        ·simp [renOf,Blk.live,tapB,hmj,kidsT,zT]
        ·simp [renOf]
         exact wrap_in (by omega) (by omega)
       ·simp; omega
     | succ j =>
       have hlt3:(j:Int)+1<n:=by omega
       have hp:(0:Int)≤(j:Int)+1:=by omega
       have s1:(j+1+1)*80≤140737488355328:=by omega
       have s2:j≤9223372036854775805:=by omega
       simp [tkF,tapB,hlt3,hlt,hw]
       (repeat' (first|contradiction|exact .ok|apply And.intro|intro _|(refine gc (fun h=>?_) (fun h=>?_)<;>(have h':=h;(try simp at h');first|done|simp[h,h']|simp))))
       refine acallT_hand [1000000] c1 (by simp) (by simp) (by simp) (by simp [tapB]) (by simp) ?_
       simp [tapB,Tm.a,c2,k2,k2',hlen,s1,s2]
       (repeat' (first|contradiction|exact .ok|apply And.intro|intro _|(refine gc (fun h=>?_) (fun h=>?_)<;>(have h':=h;(try simp at h');first|done|simp[h,h']|simp))))
       refine ⟨j+2,by omega,?_,?_⟩
       ·refine sub_mk [(0,_),(1,_),(4,_),(7,_),(8,_),(9,_)] [(1000000,1000000,_),(4,4,_),(7,7,_),(900,110,_)] ⟨by simp,by simp,?_,base1⟩ ?_
        ·simp [renOf,Blk.live,tapB,hmj,zT]
        ·simp [renOf]
         rw [wrap_in (by omega) (by omega)]
       ·simp; omega
    ·have hjn:j=n:=by omega
     subst hjn
     cases j with
     | zero=>omega
     | succ j =>
       simp [tkF,tapB,hlen]
       (repeat' (first|contradiction|exact .ok|apply And.intro|intro _|(refine gc (fun h=>?_) (fun h=>?_)<;>(have h':=h;(try simp at h');first|done|simp[h,h']|simp))))
       all_goals (try simp [ndT,Tm.a,Tm.c,tmsC_map,tapB,hlen])
       all_goals exact List.take_of_length_le (by simp [hlen])
   by_cases c24:op=24
   ·have hv:nextV L (i+2) 23=18:=by omega
    rw [if_pos (by omega)]
    obtain ⟨n,hn1⟩:∃ n:Nat,n=1:=⟨_,rfl⟩
    obtain ⟨s,hsn⟩:∃ s:Nat,s=i+3:=⟨_,rfl⟩
    rw [show ndT g op 1 (i+3)=ndT g op n s from by rw [hn1,hsn]]
    simp [tapB,hv]
    (repeat' (first|contradiction|exact .ok|apply And.intro|intro _|(refine gc (fun h=>?_) (fun h=>?_)<;>(have h':=h;(try simp at h');first|done|simp[h,h']|simp))))
    have hn4:n≤4:=by omega
    have hs4:s≤i+4:=by omega
    refine aloopT mix (by decide) (tkF L d g op n s) (fun j:Nat=>j≤n) (fun j=>n - j) 0 (by simp) (sub_mk [(0,_),(1,_),(4,_),(7,_),(8,_),(9,_)] [(1000000,1000000,_),(4,4,_),(7,7,_)] ⟨by simp,by simp,by simp [renOf,Blk.live,tapB,zT,hsn,c24]; try omega,base1⟩ (by simp [renOf,hn1])) ?_
    intro j hj
    have hlen:=kidsT_len g j s
    by_cases hlt:j<n
    ·have hlt2:(j:Int)<n:=by omega
     have hmj:kidsT g (j+1) s=((kidsT g j s).1++[(g (kidsT g j s).2).1],(g (kidsT g j s).2).2):=rfl
     obtain ⟨l1,c1⟩:=ok (kidsT g j s).2 (bnd n s j hn4 hs4 hlt)
     have c2:=(g (kidsT g j s).2).1.clen
     have k2:=(g (kidsT g j s).2).1.ctake
     have k2':=(g (kidsT g j s).2).1.ctake'
     cases j with
     | zero =>
       have hlt3:(0:Int)<n:=by omega
       have hlt4:0<n:=by omega
       simp [tkF,tapB,hlt3,hlt4,hw]
       (repeat' (first|contradiction|exact .ok|apply And.intro|intro _|(refine gc (fun h=>?_) (fun h=>?_)<;>(have h':=h;(try simp at h');first|done|simp[h,h']|simp))))
       refine acallT_hand [1000000] c1 (by simp) (by simp) (by simp) (by simp [tapB,kidsT]) (by simp) ?_
       simp [tapB,Tm.a,c2,k2,k2']
       (repeat' (first|contradiction|exact .ok|apply And.intro|intro _|(refine gc (fun h=>?_) (fun h=>?_)<;>(have h':=h;(try simp at h');first|done|simp[h,h']|simp))))
       refine ⟨1,hlt,?_,?_⟩
       ·refine sub_mk [(0,_),(1,_),(4,_),(7,_),(8,_),(9,_)] [(1000000,1000000,_),(4,4,_),(7,7,_),(900,110,_)] ⟨by simp,by simp,?_,base1⟩ ?_
        ·simp [renOf,Blk.live,tapB,hmj,kidsT,zT]
        ·simp [renOf]
         exact wrap_in (by omega) (by omega)
       ·simp; omega
     | succ j =>
       have hlt3:(j:Int)+1<n:=by omega
       have hp:(0:Int)≤(j:Int)+1:=by omega
       have s1:(j+1+1)*80≤140737488355328:=by omega
       have s2:j≤9223372036854775805:=by omega
       simp [tkF,tapB,hlt3,hlt,hw]
       (repeat' (first|contradiction|exact .ok|apply And.intro|intro _|(refine gc (fun h=>?_) (fun h=>?_)<;>(have h':=h;(try simp at h');first|done|simp[h,h']|simp))))
       refine acallT_hand [1000000] c1 (by simp) (by simp) (by simp) (by simp [tapB]) (by simp) ?_
       simp [tapB,Tm.a,c2,k2,k2',hlen,s1,s2]
       (repeat' (first|contradiction|exact .ok|apply And.intro|intro _|(refine gc (fun h=>?_) (fun h=>?_)<;>(have h':=h;(try simp at h');first|done|simp[h,h']|simp))))
       refine ⟨j+2,by omega,?_,?_⟩
       ·refine sub_mk [(0,_),(1,_),(4,_),(7,_),(8,_),(9,_)] [(1000000,1000000,_),(4,4,_),(7,7,_),(900,110,_)] ⟨by simp,by simp,?_,base1⟩ ?_
        ·simp [renOf,Blk.live,tapB,hmj,zT]
        ·simp [renOf]
         rw [wrap_in (by omega) (by omega)]
       ·simp; omega
    ·have hjn:j=n:=by omega
     subst hjn
     cases j with
     | zero=>omega
     | succ j =>
       simp [tkF,tapB,hlen]
       (repeat' (first|contradiction|exact .ok|apply And.intro|intro _|(refine gc (fun h=>?_) (fun h=>?_)<;>(have h':=h;(try simp at h');first|done|simp[h,h']|simp))))
       all_goals (try simp [ndT,Tm.a,Tm.c,tmsC_map,tapB,hlen])
       all_goals exact List.take_of_length_le (by simp [hlen])
   by_cases c25:op=25
   ·have hv:nextV L (i+2) 23=19:=by omega
    rw [if_pos (by omega)]
    obtain ⟨n,hn1⟩:∃ n:Nat,n=1:=⟨_,rfl⟩
    obtain ⟨s,hsn⟩:∃ s:Nat,s=i+3:=⟨_,rfl⟩
    rw [show ndT g op 1 (i+3)=ndT g op n s from by rw [hn1,hsn]]
    simp [tapB,hv]
    (repeat' (first|contradiction|exact .ok|apply And.intro|intro _|(refine gc (fun h=>?_) (fun h=>?_)<;>(have h':=h;(try simp at h');first|done|simp[h,h']|simp))))
    have hn4:n≤4:=by omega
    have hs4:s≤i+4:=by omega
    refine aloopT mix (by decide) (tkF L d g op n s) (fun j:Nat=>j≤n) (fun j=>n - j) 0 (by simp) (sub_mk [(0,_),(1,_),(4,_),(7,_),(8,_),(9,_)] [(1000000,1000000,_),(4,4,_),(7,7,_)] ⟨by simp,by simp,by simp [renOf,Blk.live,tapB,zT,hsn,c25]; try omega,base1⟩ (by simp [renOf,hn1])) ?_
    intro j hj
    have hlen:=kidsT_len g j s
    by_cases hlt:j<n
    ·have hlt2:(j:Int)<n:=by omega
     have hmj:kidsT g (j+1) s=((kidsT g j s).1++[(g (kidsT g j s).2).1],(g (kidsT g j s).2).2):=rfl
     obtain ⟨l1,c1⟩:=ok (kidsT g j s).2 (bnd n s j hn4 hs4 hlt)
     have c2:=(g (kidsT g j s).2).1.clen
     have k2:=(g (kidsT g j s).2).1.ctake
     have k2':=(g (kidsT g j s).2).1.ctake'
     cases j with
     | zero =>
       have hlt3:(0:Int)<n:=by omega
       have hlt4:0<n:=by omega
       simp [tkF,tapB,hlt3,hlt4,hw]
       (repeat' (first|contradiction|exact .ok|apply And.intro|intro _|(refine gc (fun h=>?_) (fun h=>?_)<;>(have h':=h;(try simp at h');first|done|simp[h,h']|simp))))
       refine acallT_hand [1000000] c1 (by simp) (by simp) (by simp) (by simp [tapB,kidsT]) (by simp) ?_
       simp [tapB,Tm.a,c2,k2,k2']
       (repeat' (first|contradiction|exact .ok|apply And.intro|intro _|(refine gc (fun h=>?_) (fun h=>?_)<;>(have h':=h;(try simp at h');first|done|simp[h,h']|simp))))
       refine ⟨1,hlt,?_,?_⟩
       ·refine sub_mk [(0,_),(1,_),(4,_),(7,_),(8,_),(9,_)] [(1000000,1000000,_),(4,4,_),(7,7,_),(900,110,_)] ⟨by simp,by simp,?_,base1⟩ ?_
        ·simp [renOf,Blk.live,tapB,hmj,kidsT,zT]
        ·simp [renOf]
         exact wrap_in (by omega) (by omega)
       ·simp; omega
     | succ j =>
       have hlt3:(j:Int)+1<n:=by omega
       have hp:(0:Int)≤(j:Int)+1:=by omega
       have s1:(j+1+1)*80≤140737488355328:=by omega
       have s2:j≤9223372036854775805:=by omega
       simp [tkF,tapB,hlt3,hlt,hw]
       (repeat' (first|contradiction|exact .ok|apply And.intro|intro _|(refine gc (fun h=>?_) (fun h=>?_)<;>(have h':=h;(try simp at h');first|done|simp[h,h']|simp))))
       refine acallT_hand [1000000] c1 (by simp) (by simp) (by simp) (by simp [tapB]) (by simp) ?_
       simp [tapB,Tm.a,c2,k2,k2',hlen,s1,s2]
       (repeat' (first|contradiction|exact .ok|apply And.intro|intro _|(refine gc (fun h=>?_) (fun h=>?_)<;>(have h':=h;(try simp at h');first|done|simp[h,h']|simp))))
       refine ⟨j+2,by omega,?_,?_⟩
       ·refine sub_mk [(0,_),(1,_),(4,_),(7,_),(8,_),(9,_)] [(1000000,1000000,_),(4,4,_),(7,7,_),(900,110,_)] ⟨by simp,by simp,?_,base1⟩ ?_
        ·simp [renOf,Blk.live,tapB,hmj,zT]
        ·simp [renOf]
         rw [wrap_in (by omega) (by omega)]
       ·simp; omega
    ·have hjn:j=n:=by omega
     subst hjn
     cases j with
     | zero=>omega
     | succ j =>
       simp [tkF,tapB,hlen]
       (repeat' (first|contradiction|exact .ok|apply And.intro|intro _|(refine gc (fun h=>?_) (fun h=>?_)<;>(have h':=h;(try simp at h');first|done|simp[h,h']|simp))))
       all_goals (try simp [ndT,Tm.a,Tm.c,tmsC_map,tapB,hlen])
       all_goals exact List.take_of_length_le (by simp [hlen])
   rw [if_neg (by omega)]
   by_cases c26:op=26
   ·have hv:nextV L (i+2) 23=20:=by omega
    rw [if_pos c26]
    obtain ⟨n,hn1⟩:∃ n:Nat,n=3:=⟨_,rfl⟩
    obtain ⟨s,hsn⟩:∃ s:Nat,s=i+3:=⟨_,rfl⟩
    rw [show ndT g 26 3 (i+3)=ndT g op n s from by rw [hn1,hsn,c26]]
    simp [tapB,hv]
    (repeat' (first|contradiction|exact .ok|apply And.intro|intro _|(refine gc (fun h=>?_) (fun h=>?_)<;>(have h':=h;(try simp at h');first|done|simp[h,h']|simp))))
    have hn4:n≤4:=by omega
    have hs4:s≤i+4:=by omega
    refine aloopT mix (by decide) (tkF L d g op n s) (fun j:Nat=>j≤n) (fun j=>n - j) 0 (by simp) (sub_mk [(0,_),(1,_),(4,_),(7,_),(8,_),(9,_)] [(1000000,1000000,_),(4,4,_),(7,7,_)] ⟨by simp,by simp,by simp [renOf,Blk.live,tapB,zT,hsn,c26]; try omega,base1⟩ (by simp [renOf,hn1])) ?_
    intro j hj
    have hlen:=kidsT_len g j s
    by_cases hlt:j<n
    ·have hlt2:(j:Int)<n:=by omega
     have hmj:kidsT g (j+1) s=((kidsT g j s).1++[(g (kidsT g j s).2).1],(g (kidsT g j s).2).2):=rfl
     obtain ⟨l1,c1⟩:=ok (kidsT g j s).2 (bnd n s j hn4 hs4 hlt)
     have c2:=(g (kidsT g j s).2).1.clen
     have k2:=(g (kidsT g j s).2).1.ctake
     have k2':=(g (kidsT g j s).2).1.ctake'
     cases j with
     | zero =>
       have hlt3:(0:Int)<n:=by omega
       have hlt4:0<n:=by omega
       simp [tkF,tapB,hlt3,hlt4,hw]
       (repeat' (first|contradiction|exact .ok|apply And.intro|intro _|(refine gc (fun h=>?_) (fun h=>?_)<;>(have h':=h;(try simp at h');first|done|simp[h,h']|simp))))
       refine acallT_hand [1000000] c1 (by simp) (by simp) (by simp) (by simp [tapB,kidsT]) (by simp) ?_
       simp [tapB,Tm.a,c2,k2,k2']
       (repeat' (first|contradiction|exact .ok|apply And.intro|intro _|(refine gc (fun h=>?_) (fun h=>?_)<;>(have h':=h;(try simp at h');first|done|simp[h,h']|simp))))
       refine ⟨1,hlt,?_,?_⟩
       ·refine sub_mk [(0,_),(1,_),(4,_),(7,_),(8,_),(9,_)] [(1000000,1000000,_),(4,4,_),(7,7,_),(900,110,_)] ⟨by simp,by simp,?_,base1⟩ ?_
        ·simp [renOf,Blk.live,tapB,hmj,kidsT,zT]
        ·simp [renOf]
         exact wrap_in (by omega) (by omega)
       ·simp; omega
     | succ j =>
       have hlt3:(j:Int)+1<n:=by omega
       have hp:(0:Int)≤(j:Int)+1:=by omega
       have s1:(j+1+1)*80≤140737488355328:=by omega
       have s2:j≤9223372036854775805:=by omega
       simp [tkF,tapB,hlt3,hlt,hw]
       (repeat' (first|contradiction|exact .ok|apply And.intro|intro _|(refine gc (fun h=>?_) (fun h=>?_)<;>(have h':=h;(try simp at h');first|done|simp[h,h']|simp))))
       refine acallT_hand [1000000] c1 (by simp) (by simp) (by simp) (by simp [tapB]) (by simp) ?_
       simp [tapB,Tm.a,c2,k2,k2',hlen,s1,s2]
       (repeat' (first|contradiction|exact .ok|apply And.intro|intro _|(refine gc (fun h=>?_) (fun h=>?_)<;>(have h':=h;(try simp at h');first|done|simp[h,h']|simp))))
       refine ⟨j+2,by omega,?_,?_⟩
       ·refine sub_mk [(0,_),(1,_),(4,_),(7,_),(8,_),(9,_)] [(1000000,1000000,_),(4,4,_),(7,7,_),(900,110,_)] ⟨by simp,by simp,?_,base1⟩ ?_
        ·simp [renOf,Blk.live,tapB,hmj,zT]
        ·simp [renOf]
         rw [wrap_in (by omega) (by omega)]
       ·simp; omega
    ·have hjn:j=n:=by omega
     subst hjn
     cases j with
     | zero=>omega
     | succ j =>
       simp [tkF,tapB,hlen]
       (repeat' (first|contradiction|exact .ok|apply And.intro|intro _|(refine gc (fun h=>?_) (fun h=>?_)<;>(have h':=h;(try simp at h');first|done|simp[h,h']|simp))))
       all_goals (try simp [ndT,Tm.a,Tm.c,tmsC_map,tapB,hlen])
       all_goals exact List.take_of_length_le (by simp [hlen])
   rw [if_neg c26]
   by_cases c28:op=28
   ·have hv:nextV L (i+2) 23=22:=by omega
    rw [if_pos c28]
    have n3:=nextV_in L (i+3) (n:=3) (by omega)
    have hw3:=wrap_in (n:=2+nextV L (i+3) 3) (by omega) (by omega)
    obtain ⟨n,hn1⟩:∃ n:Nat,n=(2+nextV L (i+3) 3).toNat:=⟨_,rfl⟩
    have hn2:2+nextV L (i+3) 3=n:=by omega
    rw [hn2] at hw3
    obtain ⟨s,hsn⟩:∃ s:Nat,s=i+4:=⟨_,rfl⟩
    rw [show ndT g 28 (2+nextV L (i+3) 3).toNat (i+4)=ndT g op n s from by rw [hn1,hsn,c28]]
    simp [tapB,hv]
    (repeat' (first|contradiction|exact .ok|apply And.intro|intro _|(refine gc (fun h=>?_) (fun h=>?_)<;>(have h':=h;(try simp at h');first|done|simp[h,h']|simp))))
    refine acallT_hand [1000000] (t_nx L (i+3) (by omega) 3 (by omega) (by omega)) (by simp) (by simp) (by simp) (by simp [tapB]; try omega) (by simp) ?_
    simp [tapB,hn2,hw3]
    (repeat' (first|contradiction|exact .ok|apply And.intro|intro _|(refine gc (fun h=>?_) (fun h=>?_)<;>(have h':=h;(try simp at h');first|done|simp[h,h']|simp))))
    have hn4:n≤4:=by omega
    have hs4:s≤i+4:=by omega
    refine aloopT mix (by decide) (tkF L d g op n s) (fun j:Nat=>j≤n) (fun j=>n - j) 0 (by simp) (sub_mk [(0,_),(1,_),(4,_),(7,_),(8,_),(9,_)] [(1000000,1000000,_),(4,4,_),(7,7,_)] ⟨by simp,by simp,by simp [renOf,Blk.live,tapB,zT,hsn,c28]; try omega,base1⟩ (by simp [renOf])) ?_
    intro j hj
    have hlen:=kidsT_len g j s
    by_cases hlt:j<n
    ·have hlt2:(j:Int)<n:=by omega
     have hmj:kidsT g (j+1) s=((kidsT g j s).1++[(g (kidsT g j s).2).1],(g (kidsT g j s).2).2):=rfl
     obtain ⟨l1,c1⟩:=ok (kidsT g j s).2 (bnd n s j hn4 hs4 hlt)
     have c2:=(g (kidsT g j s).2).1.clen
     have k2:=(g (kidsT g j s).2).1.ctake
     have k2':=(g (kidsT g j s).2).1.ctake'
     cases j with
     | zero =>
       have hlt3:(0:Int)<n:=by omega
       have hlt4:0<n:=by omega
       simp [tkF,tapB,hlt3,hlt4,hw]
       (repeat' (first|contradiction|exact .ok|apply And.intro|intro _|(refine gc (fun h=>?_) (fun h=>?_)<;>(have h':=h;(try simp at h');first|done|simp[h,h']|simp))))
       refine acallT_hand [1000000] c1 (by simp) (by simp) (by simp) (by simp [tapB,kidsT]) (by simp) ?_
       simp [tapB,Tm.a,c2,k2,k2']
       (repeat' (first|contradiction|exact .ok|apply And.intro|intro _|(refine gc (fun h=>?_) (fun h=>?_)<;>(have h':=h;(try simp at h');first|done|simp[h,h']|simp))))
       refine ⟨1,hlt,?_,?_⟩
       ·refine sub_mk [(0,_),(1,_),(4,_),(7,_),(8,_),(9,_)] [(1000000,1000000,_),(4,4,_),(7,7,_),(900,110,_)] ⟨by simp,by simp,?_,base1⟩ ?_
        ·simp [renOf,Blk.live,tapB,hmj,kidsT,zT]
        ·simp [renOf]
         exact wrap_in (by omega) (by omega)
       ·simp; omega
     | succ j =>
       have hlt3:(j:Int)+1<n:=by omega
       have hp:(0:Int)≤(j:Int)+1:=by omega
       have s1:(j+1+1)*80≤140737488355328:=by omega
       have s2:j≤9223372036854775805:=by omega
       simp [tkF,tapB,hlt3,hlt,hw]
       (repeat' (first|contradiction|exact .ok|apply And.intro|intro _|(refine gc (fun h=>?_) (fun h=>?_)<;>(have h':=h;(try simp at h');first|done|simp[h,h']|simp))))
       refine acallT_hand [1000000] c1 (by simp) (by simp) (by simp) (by simp [tapB]) (by simp) ?_
       simp [tapB,Tm.a,c2,k2,k2',hlen,s1,s2]
       (repeat' (first|contradiction|exact .ok|apply And.intro|intro _|(refine gc (fun h=>?_) (fun h=>?_)<;>(have h':=h;(try simp at h');first|done|simp[h,h']|simp))))
       refine ⟨j+2,by omega,?_,?_⟩
       ·refine sub_mk [(0,_),(1,_),(4,_),(7,_),(8,_),(9,_)] [(1000000,1000000,_),(4,4,_),(7,7,_),(900,110,_)] ⟨by simp,by simp,?_,base1⟩ ?_
        ·simp [renOf,Blk.live,tapB,hmj,zT]
        ·simp [renOf]
         rw [wrap_in (by omega) (by omega)]
       ·simp; omega
    ·have hjn:j=n:=by omega
     subst hjn
     cases j with
     | zero=>omega
     | succ j =>
       simp [tkF,tapB,hlen]
       (repeat' (first|contradiction|exact .ok|apply And.intro|intro _|(refine gc (fun h=>?_) (fun h=>?_)<;>(have h':=h;(try simp at h');first|done|simp[h,h']|simp))))
       all_goals (try simp [ndT,Tm.a,Tm.c,tmsC_map,tapB,hlen])
       all_goals exact List.take_of_length_le (by simp [hlen])
   rw [if_neg c28]
   obtain ⟨n,hn1⟩:∃ n:Nat,n=2:=⟨_,rfl⟩
   obtain ⟨s,hsn⟩:∃ s:Nat,s=i+3:=⟨_,rfl⟩
   rw [show ndT g op 2 (i+3)=ndT g op n s from by rw [hn1,hsn]]
   simp [tapB,← hop,hw23,c11,c13,c21,c24,c25,c26,c28]
   (repeat' (first|contradiction|exact .ok|apply And.intro|intro _|(refine gc (fun h=>?_) (fun h=>?_)<;>(have h':=h;(try simp at h');first|done|simp[h,h',c11,c13,c21,c24,c25,c26,c28]|simp[c11,c13,c21,c24,c25,c26,c28]))))
   have hn4:n≤4:=by omega
   have hs4:s≤i+4:=by omega
   refine aloopT mix (by decide) (tkF L d g op n s) (fun j:Nat=>j≤n) (fun j=>n - j) 0 (by simp) (sub_mk [(0,_),(1,_),(4,_),(7,_),(8,_),(9,_)] [(1000000,1000000,_),(4,4,_),(7,7,_)] ⟨by simp,by simp,by simp [renOf,Blk.live,tapB,zT,hsn]; try omega,base1⟩ (by simp [renOf,hn1])) ?_
   intro j hj
   have hlen:=kidsT_len g j s
   by_cases hlt:j<n
   ·have hlt2:(j:Int)<n:=by omega
    have hmj:kidsT g (j+1) s=((kidsT g j s).1++[(g (kidsT g j s).2).1],(g (kidsT g j s).2).2):=rfl
    obtain ⟨l1,c1⟩:=ok (kidsT g j s).2 (bnd n s j hn4 hs4 hlt)
    have c2:=(g (kidsT g j s).2).1.clen
    have k2:=(g (kidsT g j s).2).1.ctake
    have k2':=(g (kidsT g j s).2).1.ctake'
    cases j with
    | zero =>
      have hlt3:(0:Int)<n:=by omega
      have hlt4:0<n:=by omega
      simp [tkF,tapB,hlt3,hlt4,hw]
      (repeat' (first|contradiction|exact .ok|apply And.intro|intro _|(refine gc (fun h=>?_) (fun h=>?_)<;>(have h':=h;(try simp at h');first|done|simp[h,h']|simp))))
      refine acallT_hand [1000000] c1 (by simp) (by simp) (by simp) (by simp [tapB,kidsT]) (by simp) ?_
      simp [tapB,Tm.a,c2,k2,k2']
      (repeat' (first|contradiction|exact .ok|apply And.intro|intro _|(refine gc (fun h=>?_) (fun h=>?_)<;>(have h':=h;(try simp at h');first|done|simp[h,h']|simp))))
      refine ⟨1,hlt,?_,?_⟩
      ·refine sub_mk [(0,_),(1,_),(4,_),(7,_),(8,_),(9,_)] [(1000000,1000000,_),(4,4,_),(7,7,_),(900,110,_)] ⟨by simp,by simp,?_,base1⟩ ?_
       ·simp [renOf,Blk.live,tapB,hmj,kidsT,zT]
       ·simp [renOf]
        exact wrap_in (by omega) (by omega)
      ·simp; omega
    | succ j =>
      have hlt3:(j:Int)+1<n:=by omega
      have hp:(0:Int)≤(j:Int)+1:=by omega
      have s1:(j+1+1)*80≤140737488355328:=by omega
      have s2:j≤9223372036854775805:=by omega
      simp [tkF,tapB,hlt3,hlt,hw]
      (repeat' (first|contradiction|exact .ok|apply And.intro|intro _|(refine gc (fun h=>?_) (fun h=>?_)<;>(have h':=h;(try simp at h');first|done|simp[h,h']|simp))))
      refine acallT_hand [1000000] c1 (by simp) (by simp) (by simp) (by simp [tapB]) (by simp) ?_
      simp [tapB,Tm.a,c2,k2,k2',hlen,s1,s2]
      (repeat' (first|contradiction|exact .ok|apply And.intro|intro _|(refine gc (fun h=>?_) (fun h=>?_)<;>(have h':=h;(try simp at h');first|done|simp[h,h']|simp))))
      refine ⟨j+2,by omega,?_,?_⟩
      ·refine sub_mk [(0,_),(1,_),(4,_),(7,_),(8,_),(9,_)] [(1000000,1000000,_),(4,4,_),(7,7,_),(900,110,_)] ⟨by simp,by simp,?_,base1⟩ ?_
       ·simp [renOf,Blk.live,tapB,hmj,zT]
       ·simp [renOf]
        rw [wrap_in (by omega) (by omega)]
      ·simp; omega
   ·have hjn:j=n:=by omega
    subst hjn
    cases j with
    | zero=>omega
    | succ j =>
      simp [tkF,tapB,hlen]
      (repeat' (first|contradiction|exact .ok|apply And.intro|intro _|(refine gc (fun h=>?_) (fun h=>?_)<;>(have h':=h;(try simp at h');first|done|simp[h,h']|simp))))
      all_goals (try simp [ndT,Tm.a,Tm.c,tmsC_map,tapB,hlen])
      all_goals exact List.take_of_length_le (by simp [hlen])
end Go.Proofs.Tryz
