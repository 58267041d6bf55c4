import Derived.Test.YthpmjipkofbeiaaGreatDoorUScn
set_option linter.all false
namespace Go.Proofs.Tryz
open Go.Ab
set_option maxRecDepth 100000
set_option maxHeartbeats 4000000
theorem jA (L:List Int) (i:Nat) (hi:i≤1000000000) (n:Int) (h1:1≤n) (hn:n≤1000000) :
  Cf En 20 [.ptr 1000000 0 0,.d (.int .i64 n)] [bR L i] (.d (.int .i64 (aQ L i n))) [bR L (i+1)]:=by
 have h:=aLP L i hi n hn
 rwa [show KE i n=i+1 from by simp [KE]; omega] at h
theorem BD (L:List Int) (i:Nat) (hi:i≤100000000) (k:Int) (h2:2≤(cS k).length) :
  Cf En 21 [.ptr 1000000 0 0,.d (.int .i64 k),.d (.bool false)] [bR L i] (LP L i k).a [bR L (i+1)]:=by
 refine cI fQ (fn:=Tryz.f21) rfl ?_
 have hl:=aAx k
 have hn:=cT L i (n:=(cS k).length - 1) (by omega)
 have ht:=jA L i (by omega) ((cS k).length - 1) (by omega) (by omega)
 have hlt:(1+aQ L i ((cS k).length - 1)).toNat<(cS k).length:=by omega
 have hw0:=wI (n:=((cS k).length:Int) - 1)
 have hw1:=wI (n:=1+aQ L i ((cS k).length - 1))
 have hg:(cS k)[(1+aQ L i ((cS k).length - 1)).toNat]?=some (cS k)[(1+aQ L i ((cS k).length - 1)).toNat]:=gE hlt
 have hp:0≤1+aQ L i ((cS k).length - 1):=by omega
 simp [bR]
 (repeat' first|contradiction|exact .ok|apply And.intro|intro _|(apply gc<;>simp+contextual))
 refine aA (aGv k) (by simp [V.a]) ?_
 simp [hw0]
 (repeat' first|contradiction|exact .ok|apply And.intro|intro _|(apply gc<;>simp+contextual))
 refine aH [1000000] ht (by simp [bR]) (by simp) ?_
 simp [bR,hw1,hg,hp,V.c]
 (repeat' first|contradiction|exact .ok|apply And.intro|intro _|(apply gc<;>simp+contextual))
 all_goals simp [LP,hg,V.a]
theorem aGy (z:Int) (h0:0≤z) (h1:z<5):aJb[z.toNat]?=some (nmT z):=by
 have:z=0∨z=1∨z=2∨z=3∨z=4:=by omega
 rcases this with rfl | rfl | rfl | rfl | rfl <;> rfl
theorem aGz (z:Int) (h0:0≤z) (h1:z<2):aJc[z.toNat]?=some (qlT z):=by
 have:z=0∨z=1:=by omega
 rcases this with rfl | rfl <;> rfl
def zT:List AV:=[.d (.int .i64 0),.d (.int .i64 0),.d (.int .i64 0),.d (.str []),.d (.str []),.nils]
def tkF (L:List Int) (d:Nat) (g:Nat→Tm×Nat) (op:Int) (n s:Nat):Nat→St
 | 0=>{ s:=eP [(0,.ptr 1000000 0 0),(1,.d (.int .i64 ((d:Int)+2))),(4,.ptr 4 0 0),(7,.ptr 7 0 0),(8,.d (.int .i64 n)),(9,.d (.int .i64 0))],b:=eG [(1000000,1000000,bR L s),(4,4,.var zT),(7,7,.var [.d (.int .i64 op),.d (.int .i64 0),.d (.int .i64 0),.d (.str []),.d (.str []),.nils])] }
 | j+1=>{ s:=eP [(0,.ptr 1000000 0 0),(1,.d (.int .i64 ((d:Int)+2))),(4,.ptr 4 0 0),(7,.ptr 7 0 0),(8,.d (.int .i64 n)),(9,.d (.int .i64 (j+1:Nat)))],b:=eG [(1000000,1000000,bR L (gF g (j+1) s).2),(4,4,.var zT),(7,7,.var [.d (.int .i64 op),.d (.int .i64 0),.d (.int .i64 0),.d (.str []),.d (.str []),.ref 900 0 (j+1) 6]),(900,900,.arr 25 6 ((gF g (j+1) s).1.map Tm.c) false)] }
def aLQ (L:List Int) (d:Nat) (g:Nat→Tm×Nat):Prop :=
 ∀ i:Nat,i+tb d≤1000000→(g i).2≤i+tb d∧Cf En 6 [.ptr 1000000 0 0,.d (.int .i64 d)] [bR L i] (g i).1.a [bR L (g i).2]
theorem aGA:2≤(cS 1).length:=by decide
theorem aGB:2≤(cS 3).length:=by decide
theorem aGC (L:List Int) (d:Nat) (hd:d≤1) (i:Nat) (hi:i≤1000000):Cf En 6 [.ptr 1000000 0 0,.d (.int .i64 d)] [bR L i] (eW L i).1.a [bR L (eW L i).2]:=by
 refine cI fQ (fn:=Tryz.f6) rfl ?_
 have hd':(d:Int)≤1:=by omega
 simp [bR,hd']
 (repeat' first|contradiction|exact .ok|apply And.intro|intro _|(apply gc<;>simp+contextual[hd']))
 have z6:=cT L i (n:=6) (by omega)
 refine bD [1000000] (jA L i (by omega) 6 (by omega) (by omega)) (by simp) (by simp) (by simp) (by simp [bR]; try omega) (by simp) ?_
 by_cases q0:aQ L i 6=0
 ·rw [show eW L i=(.mk 1 (1+aQ L (i+1) 3) 0 [] [] [],i+2) from by simp [eW,q0]]
  have zz:=cT L (i+1) (n:=3) (by omega)
  have hw:=wI (n:=1+aQ L (i+1) 3)
  simp [bR,q0]
  (repeat' first|contradiction|exact .ok|apply And.intro|intro _|(apply gc<;>simp+contextual))
  refine bD [1000000] (jA L (i+1) (by omega) 3 (by omega) (by omega)) (by simp) (by simp) (by simp) (by simp [bR]; try omega) (by simp) ?_
  simp [bR,hw]
  (repeat' first|contradiction|exact .ok|apply And.intro|intro _|(apply gc<;>simp+contextual))
  all_goals (try simp [Tm.a,Tm.c,dC,bR,V.c])
  all_goals (try omega)
 by_cases q1:aQ L i 6=1
 ·rw [show eW L i=(.mk 2 0 (LP L (i+1) 1).n [] [] [],i+2) from by simp [eW,q1]]
  simp [bR,q1]
  (repeat' first|contradiction|exact .ok|apply And.intro|intro _|(apply gc<;>simp+contextual))
  refine bD [1000000] (BD L (i+1) (by omega) 1 aGA) (by simp) (by simp) (by simp) (by simp [bR]; try omega) (by simp) ?_
  simp [bR,V.a,V.c]
  (repeat' first|contradiction|exact .ok|apply And.intro|intro _|(apply gc<;>simp+contextual))
  all_goals (try simp [Tm.a,Tm.c,dC,bR,V.c])
  all_goals (try omega)
 by_cases q2:aQ L i 6=2
 ·rw [show eW L i=(.mk 3 0 (aQ L (i+1) 2) [] [] [],i+2) from by simp [eW,q2]]
  simp [bR,q2]
  (repeat' first|contradiction|exact .ok|apply And.intro|intro _|(apply gc<;>simp+contextual))
  refine bD [1000000] (jA L (i+1) (by omega) 2 (by omega) (by omega)) (by simp) (by simp) (by simp) (by simp [bR]; try omega) (by simp) ?_
  simp [bR]
  (repeat' first|contradiction|exact .ok|apply And.intro|intro _|(apply gc<;>simp+contextual))
  all_goals (try simp [Tm.a,Tm.c,dC,bR,V.c])
  all_goals (try omega)
 by_cases q3:aQ L i 6=3
 ·rw [show eW L i=(.mk 4 0 0 (LP L (i+1) 3).t [] [],i+2) from by simp [eW,q3]]
  simp [bR,q3]
  (repeat' first|contradiction|exact .ok|apply And.intro|intro _|(apply gc<;>simp+contextual))
  refine bD [1000000] (BD L (i+1) (by omega) 3 aGB) (by simp) (by simp) (by simp) (by simp [bR]; try omega) (by simp) ?_
  simp [bR,V.a,V.c]
  (repeat' first|contradiction|exact .ok|apply And.intro|intro _|(apply gc<;>simp+contextual))
  all_goals (try simp [Tm.a,Tm.c,dC,bR,V.c])
  all_goals (try omega)
 have z5:=cT L (i+1) (n:=5) (by omega)
 have hnm:=aGy _ z5.1 z5.2
 have z50:=z5.1
 by_cases q4:aQ L i 6=4
 ·have z2:=cT L (i+2) (n:=2) (by omega)
  have hql:=aGz _ z2.1 z2.2
  have z20:=z2.1
  rw [show eW L i=(.mk 40 0 0 (nmT (aQ L (i+1) 5)) (qlT (aQ L (i+2) 2)) [],i+3) from by simp [eW,q4]]
  generalize nmT (aQ L (i+1) 5)=nm at *
  generalize qlT (aQ L (i+2) 2)=ql at *
  simp [bR,q4]
  (repeat' first|contradiction|exact .ok|apply And.intro|intro _|(apply gc<;>simp+contextual))
  refine bD [1000000] (jA L (i+1) (by omega) 5 (by omega) (by omega)) (by simp) (by simp) (by simp) (by simp [bR]; try omega) (by simp) ?_
  obtain ⟨u,hu⟩:∃ u,u=aQ L (i+1) 5:=⟨_,rfl⟩
  rw [← hu] at hnm z50 ⊢
  have hnm':[[D.str [97]],[D.str [98]],[D.str [105,100]],[D.str [99,48]],[D.str [99,49]]][u.toNat]?=some [D.str nm]:=by
   have:=congrArg (Option.map fun x=>[D.str x]) hnm
   rwa [← List.getElem?_map] at this
  have hu5:u<5:=by omega
  have hnk:∀ h,[[D.str [97]],[D.str [98]],[D.str [105,100]],[D.str [99,48]],[D.str [99,49]]][u.toNat]'h=[D.str nm]:=fun h=>(List.getElem?_eq_some_iff.1 hnm').2
  simp [bR,z50,hu5,hnm',hnk]
  (repeat' first|contradiction|exact .ok|apply And.intro|intro _|(apply gc<;>simp+contextual[z50,hu5,hnm',hnk]))
  refine bD [1000000] (jA L (i+2) (by omega) 2 (by omega) (by omega)) (by simp) (by simp) (by simp) (by simp [bR]; try omega) (by simp) ?_
  obtain ⟨w,hw⟩:∃ w,w=aQ L (i+2) 2:=⟨_,rfl⟩
  rw [← hw] at hql z20 ⊢
  have hql':[[D.str [116,48]],[D.str [120]]][w.toNat]?=some [D.str ql]:=by
   have:=congrArg (Option.map fun x=>[D.str x]) hql
   rwa [← List.getElem?_map] at this
  have hw2:w<2:=by omega
  have hqk:∀ h,[[D.str [116,48]],[D.str [120]]][w.toNat]'h=[D.str ql]:=fun h=>(List.getElem?_eq_some_iff.1 hql').2
  simp [bR,z20,hw2,hql',hqk]
  (repeat' first|contradiction|exact .ok|apply And.intro|intro _|(apply gc<;>simp+contextual))
  all_goals (try simp [Tm.a,Tm.c,dC,bR,V.c])
  all_goals (try omega)
 rw [show eW L i=(.mk 40 0 0 (nmT (aQ L (i+1) 5)) [] [],i+2) from by simp [eW,q0,q1,q2,q3,q4]]
 generalize nmT (aQ L (i+1) 5)=nm at *
 simp [bR,q0,q1,q2,q3,q4]
 (repeat' first|contradiction|exact .ok|apply And.intro|intro _|(apply gc<;>simp+contextual[q0,q1,q2,q3,q4]))
 refine bD [1000000] (jA L (i+1) (by omega) 5 (by omega) (by omega)) (by simp) (by simp) (by simp) (by simp [bR]; try omega) (by simp) ?_
 obtain ⟨u,hu⟩:∃ u,u=aQ L (i+1) 5:=⟨_,rfl⟩
 rw [← hu] at hnm z50 ⊢
 have hnm':[[D.str [97]],[D.str [98]],[D.str [105,100]],[D.str [99,48]],[D.str [99,49]]][u.toNat]?=some [D.str nm]:=by
  have:=congrArg (Option.map fun x=>[D.str x]) hnm
  rwa [← List.getElem?_map] at this
 have hu5:u<5:=by omega
 have hnk:∀ h,[[D.str [97]],[D.str [98]],[D.str [105,100]],[D.str [99,48]],[D.str [99,49]]][u.toNat]'h=[D.str nm]:=fun h=>(List.getElem?_eq_some_iff.1 hnm').2
 simp [bR,z50,hu5,hnm',hnk]
 (repeat' first|contradiction|exact .ok|apply And.intro|intro _|(apply gc<;>simp+contextual))
 all_goals (try simp [Tm.a,Tm.c,dC,bR,V.c])
 all_goals (try omega)
theorem aJd (L:List Int) (d:Nat) (i:Nat) (hi:i≤1000000) (h0:aQ L i 4=0):Cf En 6 [.ptr 1000000 0 0,.d (.int .i64 (d+2:Nat))] [bR L i] (eW L (i+1)).1.a [bR L (eW L (i+1)).2]:=by
 refine cI fQ (fn:=Tryz.f6) rfl ?_
 have hd':¬ (d:Int)+2≤1:=by omega
 simp [bR,hd']
 (repeat' first|contradiction|exact .ok|apply And.intro|intro _|(apply gc<;>simp+contextual[hd']))
 refine bD [1000000] (jA L i (by omega) 4 (by omega) (by omega)) (by simp) (by simp) (by simp) (by simp [bR]; try omega) (by simp) ?_
 simp [bR,h0]
 (repeat' first|contradiction|exact .ok|apply And.intro|intro _|(apply gc<;>simp+contextual[h0]))
 have z6:=cT L (i+1) (n:=6) (by omega)
 refine bD [1000000] (jA L (i+1) (by omega) 6 (by omega) (by omega)) (by simp) (by simp) (by simp) (by simp [bR]; try omega) (by simp) ?_
 by_cases q0:aQ L (i+1) 6=0
 ·rw [show eW L (i+1)=(.mk 1 (1+aQ L ((i+1)+1) 3) 0 [] [] [],(i+1)+2) from by simp [eW,q0]]
  have zz:=cT L ((i+1)+1) (n:=3) (by omega)
  have hw:=wI (n:=1+aQ L ((i+1)+1) 3)
  simp [bR,q0]
  (repeat' first|contradiction|exact .ok|apply And.intro|intro _|(apply gc<;>simp+contextual))
  refine bD [1000000] (jA L ((i+1)+1) (by omega) 3 (by omega) (by omega)) (by simp) (by simp) (by simp) (by simp [bR]; try omega) (by simp) ?_
  simp [bR,hw]
  (repeat' first|contradiction|exact .ok|apply And.intro|intro _|(apply gc<;>simp+contextual))
  all_goals (try simp [Tm.a,Tm.c,dC,bR,V.c])
  all_goals (try omega)
 by_cases q1:aQ L (i+1) 6=1
 ·rw [show eW L (i+1)=(.mk 2 0 (LP L ((i+1)+1) 1).n [] [] [],(i+1)+2) from by simp [eW,q1]]
  simp [bR,q1]
  (repeat' first|contradiction|exact .ok|apply And.intro|intro _|(apply gc<;>simp+contextual))
  refine bD [1000000] (BD L ((i+1)+1) (by omega) 1 aGA) (by simp) (by simp) (by simp) (by simp [bR]; try omega) (by simp) ?_
  simp [bR,V.a,V.c]
  (repeat' first|contradiction|exact .ok|apply And.intro|intro _|(apply gc<;>simp+contextual))
  all_goals (try simp [Tm.a,Tm.c,dC,bR,V.c])
  all_goals (try omega)
 by_cases q2:aQ L (i+1) 6=2
 ·rw [show eW L (i+1)=(.mk 3 0 (aQ L ((i+1)+1) 2) [] [] [],(i+1)+2) from by simp [eW,q2]]
  simp [bR,q2]
  (repeat' first|contradiction|exact .ok|apply And.intro|intro _|(apply gc<;>simp+contextual))
  refine bD [1000000] (jA L ((i+1)+1) (by omega) 2 (by omega) (by omega)) (by simp) (by simp) (by simp) (by simp [bR]; try omega) (by simp) ?_
  simp [bR]
  (repeat' first|contradiction|exact .ok|apply And.intro|intro _|(apply gc<;>simp+contextual))
  all_goals (try simp [Tm.a,Tm.c,dC,bR,V.c])
  all_goals (try omega)
 by_cases q3:aQ L (i+1) 6=3
 ·rw [show eW L (i+1)=(.mk 4 0 0 (LP L ((i+1)+1) 3).t [] [],(i+1)+2) from by simp [eW,q3]]
  simp [bR,q3]
  (repeat' first|contradiction|exact .ok|apply And.intro|intro _|(apply gc<;>simp+contextual))
  refine bD [1000000] (BD L ((i+1)+1) (by omega) 3 aGB) (by simp) (by simp) (by simp) (by simp [bR]; try omega) (by simp) ?_
  simp [bR,V.a,V.c]
  (repeat' first|contradiction|exact .ok|apply And.intro|intro _|(apply gc<;>simp+contextual))
  all_goals (try simp [Tm.a,Tm.c,dC,bR,V.c])
  all_goals (try omega)
 have z5:=cT L ((i+1)+1) (n:=5) (by omega)
 have hnm:=aGy _ z5.1 z5.2
 have z50:=z5.1
 by_cases q4:aQ L (i+1) 6=4
 ·have z2:=cT L ((i+1)+2) (n:=2) (by omega)
  have hql:=aGz _ z2.1 z2.2
  have z20:=z2.1
  rw [show eW L (i+1)=(.mk 40 0 0 (nmT (aQ L ((i+1)+1) 5)) (qlT (aQ L ((i+1)+2) 2)) [],(i+1)+3) from by simp [eW,q4]]
  generalize nmT (aQ L ((i+1)+1) 5)=nm at *
  generalize qlT (aQ L ((i+1)+2) 2)=ql at *
  simp [bR,q4]
  (repeat' first|contradiction|exact .ok|apply And.intro|intro _|(apply gc<;>simp+contextual))
  refine bD [1000000] (jA L ((i+1)+1) (by omega) 5 (by omega) (by omega)) (by simp) (by simp) (by simp) (by simp [bR]; try omega) (by simp) ?_
  obtain ⟨u,hu⟩:∃ u,u=aQ L ((i+1)+1) 5:=⟨_,rfl⟩
  rw [← hu] at hnm z50 ⊢
  have hnm':[[D.str [97]],[D.str [98]],[D.str [105,100]],[D.str [99,48]],[D.str [99,49]]][u.toNat]?=some [D.str nm]:=by
   have:=congrArg (Option.map fun x=>[D.str x]) hnm
   rwa [← List.getElem?_map] at this
  have hu5:u<5:=by omega
  have hnk:∀ h,[[D.str [97]],[D.str [98]],[D.str [105,100]],[D.str [99,48]],[D.str [99,49]]][u.toNat]'h=[D.str nm]:=fun h=>(List.getElem?_eq_some_iff.1 hnm').2
  simp [bR,z50,hu5,hnm',hnk]
  (repeat' first|contradiction|exact .ok|apply And.intro|intro _|(apply gc<;>simp+contextual[z50,hu5,hnm',hnk]))
  refine bD [1000000] (jA L ((i+1)+2) (by omega) 2 (by omega) (by omega)) (by simp) (by simp) (by simp) (by simp [bR]; try omega) (by simp) ?_
  obtain ⟨w,hw⟩:∃ w,w=aQ L ((i+1)+2) 2:=⟨_,rfl⟩
  rw [← hw] at hql z20 ⊢
  have hql':[[D.str [116,48]],[D.str [120]]][w.toNat]?=some [D.str ql]:=by
   have:=congrArg (Option.map fun x=>[D.str x]) hql
   rwa [← List.getElem?_map] at this
  have hw2:w<2:=by omega
  have hqk:∀ h,[[D.str [116,48]],[D.str [120]]][w.toNat]'h=[D.str ql]:=fun h=>(List.getElem?_eq_some_iff.1 hql').2
  simp [bR,z20,hw2,hql',hqk]
  (repeat' first|contradiction|exact .ok|apply And.intro|intro _|(apply gc<;>simp+contextual))
  all_goals (try simp [Tm.a,Tm.c,dC,bR,V.c])
  all_goals (try omega)
 rw [show eW L (i+1)=(.mk 40 0 0 (nmT (aQ L ((i+1)+1) 5)) [] [],(i+1)+2) from by simp [eW,q0,q1,q2,q3,q4]]
 generalize nmT (aQ L ((i+1)+1) 5)=nm at *
 simp [bR,q0,q1,q2,q3,q4]
 (repeat' first|contradiction|exact .ok|apply And.intro|intro _|(apply gc<;>simp+contextual[q0,q1,q2,q3,q4]))
 refine bD [1000000] (jA L ((i+1)+1) (by omega) 5 (by omega) (by omega)) (by simp) (by simp) (by simp) (by simp [bR]; try omega) (by simp) ?_
 obtain ⟨u,hu⟩:∃ u,u=aQ L ((i+1)+1) 5:=⟨_,rfl⟩
 rw [← hu] at hnm z50 ⊢
 have hnm':[[D.str [97]],[D.str [98]],[D.str [105,100]],[D.str [99,48]],[D.str [99,49]]][u.toNat]?=some [D.str nm]:=by
  have:=congrArg (Option.map fun x=>[D.str x]) hnm
  rwa [← List.getElem?_map] at this
 have hu5:u<5:=by omega
 have hnk:∀ h,[[D.str [97]],[D.str [98]],[D.str [105,100]],[D.str [99,48]],[D.str [99,49]]][u.toNat]'h=[D.str nm]:=fun h=>(List.getElem?_eq_some_iff.1 hnm').2
 simp [bR,z50,hu5,hnm',hnk]
 (repeat' first|contradiction|exact .ok|apply And.intro|intro _|(apply gc<;>simp+contextual))
 all_goals (try simp [Tm.a,Tm.c,dC,bR,V.c])
 all_goals (try omega)
theorem aGD (L:List Int):∀ d:Nat,d≤6→aLQ L d (eA L d)
 | 0,_=>fun i hi=>⟨vZ L 0 i hi,aGC L 0 (by omega) i (by omega)⟩
 | 1,_=>fun i hi=>⟨vZ L 1 i hi,aGC L 1 (by omega) i (by omega)⟩
 | d+2,hd=>fun i hi=>by
   refine ⟨vZ L (d+2) i hi,?_⟩
   have ok:=aGD L (d+1) (by omega)
   have htb:tb (d+2)=10+5*tb (d+1):=rfl
   have e1:eA L (d+2) i=if aQ L i 4=0 then eW L (i+1) else sW L (eA L (d+1)) (i+1):=by
    rw [eA]; simp
   rw [e1]
   by_cases h0:aQ L i 4=0
   ·rw [if_pos h0]
    exact aJd L d i (by omega) h0
   rw [if_neg h0]
   generalize eA L (d+1)=g at ok
   clear e1
   have hn:=cT L i (n:=4) (by omega)
   refine cI fQ (fn:=Tryz.f6) rfl ?_
   have hd':¬ (d:Int)+2≤1:=by omega
   have hw:IntKind.i64.wrap ((d:Int)+2 - 1)=d+1:=by rw [aZ (by omega) (by omega)]; omega
   simp [bR,hd']
   (repeat' first|contradiction|exact .ok|apply And.intro|intro _|(apply gc<;>simp+contextual[hd']))
   refine bD [1000000] (jA L i (by omega) 4 (by omega) (by omega)) (by simp) (by simp) (by simp) (by simp [bR]; try omega) (by simp) ?_
   simp [bR,h0]
   (repeat' first|contradiction|exact .ok|apply And.intro|intro _|(apply gc<;>simp+contextual[h0]))
   have n8:=cT L (i+1) (n:=8) (by omega)
   refine bD [1000000] (jA L (i+1) (by omega) 8 (by omega) (by omega)) (by simp) (by simp) (by simp) (by simp [bR]; try omega) (by simp) ?_
   by_cases m0:aQ L (i+1) 8=0
   ·have n6:=cT L (i+2) (n:=6) (by omega)
    have hw6:=wI (n:=1+aQ L (i+2) 6)
    simp [bR,m0]
    (repeat' first|contradiction|exact .ok|apply And.intro|intro _|(apply gc<;>simp+contextual[m0]))
    refine bD [1000000] (jA L (i+2) (by omega) 6 (by omega) (by omega)) (by simp) (by simp) (by simp) (by simp [bR]; try omega) (by simp) ?_
    by_cases f0:aQ L (i+2) 6=0
    ·rw [show sW L g (i+1)=(.mk 41 0 1 [] [] [],i+3) from by simp [sW,m0,f0]]
     simp [bR,f0]
     (repeat' first|contradiction|exact .ok|apply And.intro|intro _|(apply gc<;>simp+contextual))
     all_goals (try simp [Tm.a,Tm.c,dC,bR])
     all_goals (try omega)
    ·rw [show sW L g (i+1)=(.mk 41 0 (1+aQ L (i+2) 6) [] [] [(g (i+3)).1],(g (i+3)).2) from by simp [sW,m0,f0]]
     obtain ⟨l1,c1⟩:=ok (i+3) (by omega)
     generalize g (i+3)=r at *
     have hf:¬ 1+aQ L (i+2) 6=1:=by omega
     have c2:=r.1.clen
     have k2:=r.1.ctake
     have k2':=r.1.ctake'
     simp [bR,hw6,hf,hw]
     (repeat' first|contradiction|exact .ok|apply And.intro|intro _|(apply gc<;>simp+contextual[hf]))
     refine aH [1000000] c1 (by simp [bR]; try omega) (by simp) ?_
     simp [bR,Tm.a,c2,k2,k2']
     (repeat' first|contradiction|exact .ok|apply And.intro|intro _|(apply gc<;>simp+contextual))
     all_goals (try simp [Tm.a,Tm.c,dC,bR])
   have n23:=cT L (i+2) (n:=23) (by omega)
   have hw23:=wI (n:=6+aQ L (i+2) 23)
   simp [bR,m0]
   (repeat' first|contradiction|exact .ok|apply And.intro|intro _|(apply gc<;>simp+contextual[m0]))
   refine bD [1000000] (jA L (i+2) (by omega) 23 (by omega) (by omega)) (by simp) (by simp) (by simp) (by simp [bR]; try omega) (by simp) ?_
   obtain ⟨op,hop⟩:∃ op,op=6+aQ L (i+2) 23:=⟨_,rfl⟩
   have hopr:6≤op∧op≤28:=by omega
   rw [← hop] at hw23
   have hnd:sW L g (i+1)=if op=11∨op=13∨op=21∨op=24∨op=25 then DD g op 1 (i+3) else if op=26 then DD g 26 3 (i+3) else if op=28 then DD g 28 (2+aQ L (i+3) 3).toNat (i+4) else DD g op 2 (i+3):=by
    unfold sW
    rw [if_neg m0,← hop]
   rw [hnd]
   clear hnd
   have bnd:∀ (n s j:Nat),n≤4→s≤i+4→j<n→(gF g j s).2+tb (d+1)≤1000000:=fun n s j hn hs hj=>by
    have h1:j*tb (d+1)≤3*tb (d+1):=Nat.mul_le_mul_right _ (by omega)
    have:=KG g (tb (d+1)) (fun j h=>(ok j h).1) j s (by omega)
    omega
   have hcs:(op=11∨op=13∨op=21∨op=24∨op=25)∨op=26∨op=28∨(¬ op=11∧¬ op=13∧¬ op=21∧¬ op=24∧¬ op=25∧¬ op=26∧¬ op=28):=by omega
   rcases hcs with c | c | c | c
   rw [if_pos c]
   rcases c with c | c | c | c | c
   all_goals first
    | (have hv:aQ L (i+2) 23=op - 6:=by omega
       have c':op=11∨op=13∨op=21∨op=24∨op=25:=by omega
       obtain ⟨n,hn1⟩:∃ n:Nat,n=1:=⟨_,rfl⟩
       obtain ⟨s,hsn⟩:∃ s:Nat,s=i+3:=⟨_,rfl⟩
       rw [show DD g op 1 (i+3)=DD g op n s from by rw [hn1,hsn]]
       rw [c] at hv
       simp [bR,hv]
       (repeat' (first | contradiction | exact .of (by kernel_rfl) | refine And.intro ?_ ?_ | intro _ | (refine aI (fun h=>?_) (fun h=>?_) <;> (have h':=h; (try simp at h'); first | done | simp [h,h'] | simp)))))
    | (rw [if_neg (by omega),if_pos c]
       have hv:aQ L (i+2) 23=20:=by omega
       obtain ⟨n,hn1⟩:∃ n:Nat,n=3:=⟨_,rfl⟩
       obtain ⟨s,hsn⟩:∃ s:Nat,s=i+3:=⟨_,rfl⟩
       rw [show DD g 26 3 (i+3)=DD g op n s from by rw [hn1,hsn,c]]
       simp [bR,hv]
       (repeat' (first | contradiction | exact .of (by kernel_rfl) | refine And.intro ?_ ?_ | intro _ | (refine aI (fun h=>?_) (fun h=>?_) <;> (have h':=h; (try simp at h'); first | done | simp [h,h'] | simp)))))
    | (rw [if_neg (by omega),if_neg (by omega),if_pos c]
       have hv:aQ L (i+2) 23=22:=by omega
       have n3:=cT L (i+3) (n:=3) (by omega)
       have hw3:=wI (n:=2+aQ L (i+3) 3)
       obtain ⟨n,hn1⟩:∃ n:Nat,n=(2+aQ L (i+3) 3).toNat:=⟨_,rfl⟩
       have hn2:2+aQ L (i+3) 3=n:=by omega
       rw [hn2] at hw3
       obtain ⟨s,hsn⟩:∃ s:Nat,s=i+4:=⟨_,rfl⟩
       rw [show DD g 28 (2+aQ L (i+3) 3).toNat (i+4)=DD g op n s from by rw [hn1,hsn,c]]
       simp [bR,hv]
       (repeat' first|contradiction|exact .ok|apply And.intro|intro _|(apply gc<;>simp+contextual))
       refine bD [1000000] (jA L (i+3) (by omega) 3 (by omega) (by omega)) (by simp) (by simp) (by simp) (by simp [bR]; try omega) (by simp) ?_
       simp [bR,hn2,hw3]
       (repeat' (first | contradiction | exact .of (by kernel_rfl) | refine And.intro ?_ ?_ | intro _ | (refine aI (fun h=>?_) (fun h=>?_) <;> (have h':=h; (try simp at h'); first | done | simp [h,h'] | simp)))))
    | (rw [if_neg (by omega),if_neg (by omega),if_neg (by omega)]
       obtain ⟨n,hn1⟩:∃ n:Nat,n=2:=⟨_,rfl⟩
       obtain ⟨s,hsn⟩:∃ s:Nat,s=i+3:=⟨_,rfl⟩
       rw [show DD g op 2 (i+3)=DD g op n s from by rw [hn1,hsn]]
       simp [bR,← hop,hw23,c]
       (repeat' (first | contradiction | exact .of (by kernel_rfl) | refine And.intro ?_ ?_ | intro _ | (refine aI (fun h=>?_) (fun h=>?_) <;> (have h':=h; (try simp at h'); first | done | simp [h,h',c] | simp [c])))))
   all_goals have hn4:n≤4:=by omega
   all_goals have hs4:s≤i+4:=by omega
   all_goals
    have hlt0:(0:Int)≤n:=by omega
    refine aL fQ (fun j:Nat=>{ s:=eP [(0,.ptr 1000000 0 0),(1,.d (.int .i64 ((d:Int)+2))),(4,.ptr 4 0 0),(7,.ptr 7 0 0),(8,.d (.int .i64 n)),(9,.d (.int .i64 j))],b:=eG [(1000000,1000000,bR L (gF g j s).2),(4,4,.var zT),(7,7,.var [.d (.int .i64 op),.d (.int .i64 0),.d (.int .i64 0),.d (.str []),.d (.str []),.ref 900 0 j 6]),(900,900,.arr 25 6 ((gF g j s).1.map Tm.c) false)] }) (fun j:Nat=>j≤n) (fun j=>n - j) 0 (by simp)
     ((gV 7 900 25 6 5 (cells:=[.d (.int .i64 op),.d (.int .i64 0),.d (.int .i64 0),.d (.str []),.d (.str []),.nils]) (by first | (simp [c]; done) | (simp [c]; rfl)) rfl (by simp) (by decide) (by decide)).trans (aJ _ [(1000000,1000000,_),(4,4,_),(7,7,_),(900,900,_)] ⟨by simp,by simp,by simp [aD,Blk.live,bR,zT,hsn,gF]; try omega,bH⟩ (by simp [aD,hn1]; try omega))) ?_
    intro j hj
    have hlen:=DC g j s
    by_cases hlt:j<n
    ·have hlt2:(j:Int)<n:=by omega
     have hmj:gF g (j+1) s=((gF g j s).1++[(g (gF g j s).2).1],(g (gF g j s).2).2):=rfl
     obtain ⟨l1,c1⟩:=ok (gF g j s).2 (bnd n s j hn4 hs4 hlt)
     have c2:=(g (gF g j s).2).1.clen
     have k2:=(g (gF g j s).2).1.ctake
     have k2':=(g (gF g j s).2).1.ctake'
     have s1:(j+1)*80≤140737488355328:=by omega
     have s2:j≤9223372036854775806:=by omega
     have hwr:=wI (n:=(j:Int)+1)
     simp [bR,hlt2,hw]
     (repeat' first|contradiction|exact .ok|apply And.intro|intro _|(apply gc<;>simp+contextual))
     refine aH [1000000] c1 (by simp [bR]) (by simp) ?_
     simp [bR,Tm.a,c2,k2,k2',hlen,s1,s2]
     (repeat' first|contradiction|exact .ok|apply And.intro|intro _|(apply gc<;>simp+contextual))
     refine ⟨j+1,hlt,?_,by simp only; omega⟩
     exact aJ _ [(1000000,1000000,_),(4,4,_),(7,7,_),(900,110,_)] ⟨by simp,by simp,by simp [aD,Blk.live,bR,hmj,zT],bH⟩ (by simp [aD,hwr])
    ·obtain rfl:j=n:=by omega
     simp [bR]
     (repeat' first|contradiction|exact .ok|apply And.intro|intro _|(apply gc<;>simp+contextual))
     all_goals (try simp [DD,Tm.a,Tm.c,aS,bR,hlen])
     all_goals (try exact List.take_of_length_le (by simp [hlen]))
end Go.Proofs.Tryz
