import Derived.Test.YthbnleoonldffaaGreatDoorQCln
import Derived.Test.YthbnleoonldffaaGreatDoorQR8c
import Derived.Test.YthbnleoonldffaaGreatDoorQTap
set_option linter.all false
namespace Go.Proofs.Tryz
open Go.Ab
set_option maxRecDepth 100000
set_option maxHeartbeats 4000000
theorem dM (L:List Int) (i:Nat) (hi:i≤1000000000) (n:Int) (h1:1≤n) (hn:n≤1000000) :
  Cf En 27 [.ptr 1000000 0 0,.d (.int .i64 n)] [aS L i] (.d (.int .i64 (aU L i n))) [aS L (i+1)]:=by
 have h:=aEu L i hi n hn
 rwa [show BQ i n=i+1 from by simp [BQ]; omega] at h
def gB (L:List Int) (i:Nat) (k:Int):V:=((bB k)[(1+aU L i (min (bB k).length 4 - 1:Nat)).toNat]?).getD nulV
theorem xV (L:List Int) (i:Nat) (hi:i≤1000000) (k:Int) (hk:k=1∨k=2∨k=3) :
  Cf En 50 [.ptr 1000000 0 0,.d (.int .i64 k),.d (.bool false)] [aS L i] (gB L i k).a [aS L (i+1)]:=by
 have hl:(bB k).length=13∨(bB k).length=3∨(bB k).length=8:=by
  rcases hk with rfl | rfl | rfl <;> decide
 obtain ⟨m,hm⟩:∃ m:Nat,m=min (bB k).length 4:=⟨_,rfl⟩
 have hm4:3≤m∧m≤4∧m≤(bB k).length:=by omega
 have hmin:(if (4:Int)<((bB k).length:Int) then (4:Int) else ((bB k).length:Int))=m:=by split <;> omega
 have e0:gB L i k=((bB k)[(1+aU L i (m - 1:Nat)).toNat]?).getD nulV:=by unfold gB; rw [hm]
 have hn:=bG L i (n:=((m - 1:Nat):Int)) (by omega)
 have hlt:(1+aU L i (m - 1:Nat)).toNat<(bB k).length:=by omega
 have hg:(bB k)[(1+aU L i (m - 1:Nat)).toNat]?=some (bB k)[(1+aU L i (m - 1:Nat)).toNat]:=List.getElem?_eq_getElem hlt
 have ht:=dM L i (by omega) (m - 1:Nat) (by omega) (by omega)
 have hc:((m - 1:Nat):Int)=(m:Int) - 1:=by omega
 have hw1:=aH (n:=(m:Int) - 1) (by omega) (by omega)
 rw [hc] at ht hn
 have e1:gB L i k=(bB k)[(1+aU L i (m - 1:Nat)).toNat]:=by rw [e0,hg]; rfl
 simp only [hc] at e1 hlt
 have hw2:=aH (n:=1+aU L i ((m:Int) - 1)) (by omega) (by omega)
 have h0:0≤1+aU L i ((m:Int) - 1):=by omega
 rw [e1]
 refine aD aW (fn:=Tryz.f50) (by kernel_rfl) rfl (by kernel_rfl) (by decide) (by simp) ?_
 simp [aS]
 (repeat' first|contradiction|exact .ok|apply And.intro|intro _|(apply gc<;>simp+contextual))
 refine aA (LS k) (by simp [V.a]) ?_
 simp [hmin]
 (repeat' first|contradiction|exact .ok|apply And.intro|intro _|(apply gc<;>simp+contextual))
 simp [hmin,hw1]
 refine aK [1000000] ht (by simp) (by simp) (by simp) (by simp [aS]) (by simp) ?_
 simp [aS,hw2,h0,hlt,V.c]
 (repeat' first|contradiction|exact .ok|apply And.intro|intro _|(apply gc<;>simp+contextual))
 all_goals simp [V.a]
theorem uF (L:List Int) (i:Nat) (k:Int) (hk:k=1∨k=2∨k=3):(gB L i k).k=k∧(gB L i k).valid=true∧(gB L i k).t.length≤1∧(gB L i k).t ≠ [48]∧0≤(gB L i k).n∧(gB L i k).n≤2:=by
 rcases hk with rfl | rfl | rfl
 ·have hn:=bG L i (n:=(min (bB 1).length 4 - 1:Nat)) (by decide)
  unfold gB
  generalize aU L i (min (bB 1).length 4 - 1:Nat)=z at *
  have h3:((min (bB 1).length 4 - 1:Nat):Int)=3:=by decide
  rw [h3] at hn
  rcases (by omega:z=0∨z=1∨z=2) with rfl | rfl | rfl <;> decide
 ·have hn:=bG L i (n:=(min (bB 2).length 4 - 1:Nat)) (by decide)
  unfold gB
  generalize aU L i (min (bB 2).length 4 - 1:Nat)=z at *
  have h3:((min (bB 2).length 4 - 1:Nat):Int)=2:=by decide
  rw [h3] at hn
  rcases (by omega:z=0∨z=1) with rfl | rfl <;> decide
 ·have hn:=bG L i (n:=(min (bB 3).length 4 - 1:Nat)) (by decide)
  unfold gB
  generalize aU L i (min (bB 3).length 4 - 1:Nat)=z at *
  have h3:((min (bB 3).length 4 - 1:Nat):Int)=3:=by decide
  rw [h3] at hn
  rcases (by omega:z=0∨z=1∨z=2) with rfl | rfl | rfl <;> decide
def fW (x:Tb) (n:Nat):List Int:=((List.range n).filter fun c:Nat=>!dJ x c).map fun c:Nat=>(c:Int)
theorem OR (x:Tb) (n:Nat):fW x (n+1)=if dJ x n=true then fW x n else fW x n++[(n:Int)]:=by
 unfold fW
 rw [List.range_succ,List.filter_append,List.map_append]
 by_cases h:dJ x n=true <;> simp [h]
theorem DV (x:Tb) (n:Nat):(fW x n).length≤n:=by
 unfold fW
 rw [List.length_map]
 exact Nat.le_trans (List.length_filter_le _ _) (Nat.le_of_eq List.length_range)
theorem DW {x:Tb} {n:Nat} {c:Int} (h:c∈fW x n):0≤c∧c<n∧dJ x c=false:=by
 unfold fW at h
 obtain ⟨k,hk,rfl⟩:=List.mem_map.1 h
 obtain ⟨h1,h2⟩:=List.mem_filter.1 hk
 exact ⟨by omega,by have:=List.mem_range.1 h1; omega,by simpa using h2⟩
def jW (L:List Int) (x:Tb) (i:Nat):At×Nat :=
 let c:=((fW x x.cols.length)[(aU L i (fW x x.cols.length).length).toNat]?).getD 0
 if aU L (i+1) 6=0 then (⟨c,21,nulV⟩,i+2)
 else if dE x c=1 then (⟨c,14+aU L (i+2) 6,gB L (i+3) 1⟩,i+4)
 else if dE x c=2 then (if aU L (i+2) 2=0 then (⟨c,5,nulV⟩,i+3) else (⟨c,14+aU L (i+3) 2,gB L (i+4) 2⟩,i+5))
 else (⟨c,14+aU L (i+2) 2,gB L (i+3) 3⟩,i+4)
theorem GV (L:List Int) (x:Tb) (i:Nat):(jW L x i).2≤i+5:=by
 simp only [jW]
 repeat' split
 all_goals simp
def amF (L:List Int) (i:Nat) (x:Tb) (n:Nat):St :=
 { s:=cG [(0,.ptr 1000000 0 0),(3,.ptr 3 0 0),(4,.ptr 4 0 0),(5,.ref 900 0 (fW x n).length 1),(6,.d (.int .i64 n))],b:=cE [(1000000,1000000,aS L i),(3,3,.var (x.c.map AV.d)),(4,4,.var [.d (.int .i64 0),.d (.int .i64 0),.d (.int .i64 0),.d (.int .i64 0),.d (.str [])]),(900,900,.arr 3 1 (aG (fW x n)) false)] }
theorem YG (L:List Int) (i:Nat) (hi:i≤900000) (x:Tb) (hx:x.ok) (hf:0<(fW x x.cols.length).length) (hty:∀ c∈x.cols,c.t=1∨c.t=2∨c.t=3) :
  Cf En 47 [.ptr 1000000 0 0,x.a] [aS L i] (jW L x i).1.a [aS L (jW L x i).2]:=by
 have l1:=hx.cols
 refine aD aW (fn:=Tryz.f47) (by kernel_rfl) rfl (by kernel_rfl) (by decide) (by simp) ?_
 simp [aS,Tb.a,Tb.c]
 (repeat' first|contradiction|exact .ok|apply And.intro|intro _|(apply gc<;>simp+contextual))
 refine aL aW (by decide) (amF L i x) (fun n=>n≤x.cols.length) (fun n=>x.cols.length - n) 0 (by simp)
  (dW 5 900 3 1 (by simp) (by simp) (by decide) (by decide) _ [(1000000,1000000,_),(3,3,_),(4,4,_),(900,900,_)] ⟨by simp,by simp,by simp [aB,Blk.live,aS,Tb.c,fW,aG],bT⟩ (by simp [aB,fW])) ?_
 intro n hn
 by_cases hlt:n<x.cols.length
 ·have hs:=OR x n
  have hfl:=DV x n
  have hw:=aH (n:=(n:Int)+1) (by omega) (by omega)
  simp [amF,aS,Tb.c,hlt]
  (repeat' first|contradiction|exact .ok|apply And.intro|intro _|(apply gc<;>simp+contextual))
  refine aA (aAB x hx n) (by simp [Tb.a,Tb.c]) ?_
  cases hk:dJ x n
  ·rw [hk] at hs
   simp only [Bool.false_eq_true,if_false] at hs
   simp [eI (fW x n).length (by omega) 8 (by decide),eI ((fW x n).length+1) (by omega) 8 (by decide)]
   (repeat' first|contradiction|exact .ok|apply And.intro|intro _|(apply gc<;>simp+contextual))
   refine ⟨n+1,by omega,?_,by simp; omega⟩
   exact aE _ [(1000000,1000000,_),(3,3,_),(4,4,_),(900,23,_)] ⟨by simp,by simp,by simp [aB,Blk.live,aS,Tb.c,hs,aG],bT⟩ (by simp [aB,hw,hs])
  ·rw [hk] at hs
   simp only [if_true] at hs
   simp
   (repeat' first|contradiction|exact .ok|apply And.intro|intro _|(apply gc<;>simp+contextual))
   refine ⟨n+1,by omega,?_,by simp; omega⟩
   exact aE _ [(1000000,1000000,_),(3,3,_),(4,4,_),(900,900,_)] ⟨by simp,by simp,by simp [aB,Blk.live,aS,Tb.c,hs,aG],bT⟩ (by simp [aB,hw,hs])
 have hne:n=x.cols.length:=by omega
 subst hne
 have hfl:=DV x x.cols.length
 have hfm:∀ c∈fW x x.cols.length,0≤c∧c<x.cols.length∧dJ x c=false:=fun c h=>DW h
 unfold jW
 simp only [amF]
 generalize fW x x.cols.length=Z at *
 have hnx:=bG L i (n:=Z.length) (by omega)
 have htx:=dM L i (by omega) Z.length (by omega) (by omega)
 have hzl:(aU L i Z.length).toNat<Z.length:=by omega
 obtain ⟨c,hc⟩:∃ c,c=Z[(aU L i Z.length).toNat]:=⟨_,rfl⟩
 have hgz:∀ h,Z[(aU L i Z.length).toNat]'h=c:=fun _=>hc.symm
 have hcm:=hfm c (by rw [hc]; exact List.getElem_mem hzl)
 rw [List.getElem?_eq_getElem hzl,hgz]
 simp only [Option.getD_some]
 obtain ⟨h0,h1,_⟩:=hcm
 obtain ⟨cn,rfl⟩:∃ cn:Nat,c=cn:=⟨c.toNat,by omega⟩
 have hcl:cn<x.cols.length:=by omega
 obtain ⟨y,hy⟩:∃ y,y=x.cols[cn]:=⟨_,rfl⟩
 have hgy:∀ h,x.cols[cn]'h=y:=fun _=>hy.symm
 have hyt:=hty y (by rw [hy]; exact List.getElem_mem hcl)
 have htt:dE x cn=y.t:=by unfold dE; simp [hcl,hgy]
 rw [htt]
 have hnx0:=hnx.1
 have n6:=dM L (i+1) (by omega) 6 (by omega) (by omega)
 have n66:=dM L (i+2) (by omega) 6 (by omega) (by omega)
 have n62:=dM L (i+2) (by omega) 2 (by omega) (by omega)
 have n63:=dM L (i+3) (by omega) 2 (by omega) (by omega)
 have v1:=bG L (i+2) (n:=6) (by omega)
 have v2:=bG L (i+2) (n:=2) (by omega)
 have v3:=bG L (i+3) (n:=2) (by omega)
 have w1:=aH (n:=14+aU L (i+2) 6) (by omega) (by omega)
 have w2:=aH (n:=14+aU L (i+2) 2) (by omega) (by omega)
 have w3:=aH (n:=14+aU L (i+3) 2) (by omega) (by omega)
 simp [aS,Tb.c]
 (repeat' first|contradiction|exact .ok|apply And.intro|intro _|(apply gc<;>simp+contextual))
 refine aK [1000000] htx (by simp) (by simp) (by simp) (by simp [aS]) (by simp) ?_
 simp [aS,hnx0,hzl,hgz,hcl,hgy,Col.c,Tb.c]
 (repeat' first|contradiction|exact .ok|apply And.intro|intro _|(apply gc<;>simp+contextual))
 refine aK [1000000] n6 (by simp) (by simp) (by simp) (by simp [aS]) (by simp) ?_
 by_cases u0:aU L (i+1) 6=0
 ·simp [aS,u0,At.a,At.c,nulV]
  (repeat' first|contradiction|exact .ok|apply And.intro|intro _|(apply gc<;>simp+contextual[u0]))
  all_goals (first | done | omega | (simp [u0]; done))
 rcases hyt with ht | ht | ht
 ·simp [aS,u0,ht]
  (repeat' first|contradiction|exact .ok|apply And.intro|intro _|(apply gc<;>simp+contextual[u0,ht]))
  refine aK [1000000] n66 (by simp) (by simp) (by simp) (by simp [aS]; try omega) (by simp) ?_
  simp [aS,w1]
  refine aK [1000000] (xV L (i+3) (by omega) 1 (by omega)) (by simp) (by simp) (by simp) (by simp [aS]; try omega) (by simp) ?_
  simp [aS,V.a,At.a,At.c]
  (repeat' first|contradiction|exact .ok|apply And.intro|intro _|(apply gc<;>simp+contextual))
  all_goals (simp [u0,ht] <;> omega)
 ·simp [aS,u0,ht]
  (repeat' first|contradiction|exact .ok|apply And.intro|intro _|(apply gc<;>simp+contextual[u0,ht]))
  refine aK [1000000] n62 (by simp) (by simp) (by simp) (by simp [aS]; try omega) (by simp) ?_
  by_cases u1:aU L (i+2) 2=0
  ·simp [aS,u1,At.a,At.c,nulV]
   (repeat' first|contradiction|exact .ok|apply And.intro|intro _|(apply gc<;>simp+contextual[u1]))
   all_goals (simp [u0,ht,u1] <;> omega)
  ·simp [aS,u1]
   (repeat' first|contradiction|exact .ok|apply And.intro|intro _|(apply gc<;>simp+contextual[u1]))
   refine aK [1000000] n63 (by simp) (by simp) (by simp) (by simp [aS]; try omega) (by simp) ?_
   simp [aS,w3]
   refine aK [1000000] (xV L (i+4) (by omega) 2 (by omega)) (by simp) (by simp) (by simp) (by simp [aS]; try omega) (by simp) ?_
   simp [aS,V.a,At.a,At.c]
   (repeat' first|contradiction|exact .ok|apply And.intro|intro _|(apply gc<;>simp+contextual))
   all_goals (simp [u0,ht,u1] <;> omega)
 ·simp [aS,u0,ht]
  (repeat' first|contradiction|exact .ok|apply And.intro|intro _|(apply gc<;>simp+contextual[u0,ht]))
  refine aK [1000000] n62 (by simp) (by simp) (by simp) (by simp [aS]; try omega) (by simp) ?_
  simp [aS,w2]
  refine aK [1000000] (xV L (i+3) (by omega) 3 (by omega)) (by simp) (by simp) (by simp) (by simp [aS]; try omega) (by simp) ?_
  simp [aS,V.a,At.a,At.c]
  (repeat' first|contradiction|exact .ok|apply And.intro|intro _|(apply gc<;>simp+contextual))
  all_goals (simp [u0,ht] <;> omega)
def rD (c:UInt8) (k:Nat):List UInt8:=[c]++[UInt8.ofNat (48+k)]
theorem aCn (c:UInt8) (k:Nat) (z:Int) (hz:z=k) (hk:k<10):Cf En 28 [.d (.str [c]),.d (.int .i64 z)] [] (.d (.str (rD c k))) []:=by
 subst hz
 refine aD aW (fn:=Tryz.f28) (by kernel_rfl) rfl (by kernel_rfl) (by decide) (by simp) ?_
 have h:k=0∨k=1∨k=2∨k=3∨k=4∨k=5∨k=6∨k=7∨k=8∨k=9:=by omega
 unfold rD
 rcases h with rfl | rfl | rfl | rfl | rfl | rfl | rfl | rfl | rfl | rfl <;> (simp; (repeat' (first | contradiction | exact .of (by kernel_rfl) | refine And.intro ?_ ?_ | intro _ | (refine aN (fun h=>?_) (fun h=>?_) <;> (have h':=h; (try simp at h'); first | done | simp [h,h'] | simp))))) <;> (try rfl) <;> (try (simp; rfl)) <;> (try decide)
def PF {α:Type} (f:Nat→α):Nat→List α
 | 0=>[]
 | k+1=>PF f k++[f k]
theorem xY {α:Type} (f:Nat→α):∀ k,(PF f k).length=k
 | 0=>rfl
 | k+1=>by rw [PF,List.length_append,xY f k]; rfl
theorem RT {α:Type} (f:Nat→α):∀ (k j:Nat),(PF f k)[j]?=if j<k then some (f j) else none
 | 0,j=>by simp [PF]
 | k+1,j=>by
   rw [PF,List.getElem?_append,xY,RT f k j]
   by_cases h:j<k
   ·simp [h]; omega
   ·by_cases h2:j=k
    ·subst h2; simp
    ·rw [if_neg h,if_neg (by omega),List.getElem?_eq_none (by simp; omega)]
theorem rE {α:Type} {f:Nat→α} {k:Nat} {x:α} (h:x∈PF f k):∃ j,j<k∧x=f j:=by
 obtain ⟨j,hj⟩:=List.mem_iff_getElem?.1 h
 rw [RT] at hj
 split at hj
 ·rename_i hjk; cases hj; exact ⟨j,hjk,rfl⟩
 ·cases hj
def idC:Col:=⟨[105,100],1,false⟩
def CJ (L:List Int) (a k:Nat):Col:=⟨rD 99 k,1+aU L (a+2*k) 3,aU L (a+2*k+1) 3==0⟩
def UL (k:Nat):Col:=⟨rD 102 k,1,false⟩
def iR (L:List Int) (a m z:Nat):List Col:=idC::(PF (CJ L a) m++PF UL z)
def fkP (L:List Int) (b j n k:Nat):Fk:=⟨[((n+k:Nat):Int)],rD 116 (aU L (b+2*k+1) j).toNat⟩
def AX (L:List Int) (b j n z:Nat):List Fk:=PF (fkP L b j n) z
def eD (L:List Int) (a:Nat):Nat:=(1+aU L a 2).toNat
def AY (L:List Int) (b j:Nat):Nat:=if j=0 then 0 else if aU L b 3=0 then 0 else if aU L (b+2) 2=0 then 1 else 2
def CK (L:List Int) (b j:Nat):Nat:=if j=0 then b else if aU L b 3=0 then b+1 else if aU L (b+2) 2=0 then b+3 else b+4
def kN (L:List Int) (j a:Nat):Tb:=⟨rD 116 j,iR L (a+1) (eD L a) (AY L (a+1+2*eD L a) j),[0],[],AX L (a+1+2*eD L a) j (eD L a+1) (AY L (a+1+2*eD L a) j),[]⟩
def MD (L:List Int) (x:Tb) (e:Nat):Tb×Nat:=if aU L e 4=0 then (⟨x.n,x.cols,x.pr,x.un,x.fk,[(jW L x (e+1)).1.ex]⟩,(jW L x (e+1)).2) else (x,e+1)
def rJ (L:List Int) (j a:Nat):Tb×Nat:=MD L (kN L j a) (CK L (a+1+2*eD L a) j)
def dP (L:List Int) (a:Nat):Nat→List Tb×Nat
 | 0=>([],a)
 | n+1=>((dP L a n).1++[(rJ L n (dP L a n).2).1],(rJ L n (dP L a n).2).2)
theorem iC (L:List Int) (a:Nat):∀ n,(dP L a n).1.length=n
 | 0=>rfl
 | n+1=>by simp [dP,iC L a n]
theorem qH (L:List Int) (a:Nat):1≤eD L a∧eD L a≤2∧((eD L a:Nat):Int)=1+aU L a 2:=by
 have:=bG L a (n:=2) (by omega)
 unfold eD; omega
theorem GY (L:List Int) (b j:Nat):AY L b j≤2:=by
 unfold AY
 repeat' split
 all_goals omega
theorem ZO (L:List Int) (b j:Nat):b≤CK L b j∧CK L b j≤b+4:=by
 unfold CK
 repeat' split
 all_goals omega
theorem aCp (L:List Int) (j a:Nat):(rJ L j a).2≤a+15:=by
 have h1:=qH L a
 have h2:=ZO L (a+1+2*eD L a) j
 have h3:=GV L (kN L j a) (CK L (a+1+2*eD L a) j+1)
 unfold rJ MD
 split
 ·simp only; omega
 ·simp only; omega
theorem AZ (L:List Int) (a:Nat):∀ n,(dP L a n).2≤a+15*n
 | 0=>by simp [dP]
 | n+1=>by
   have h1:=AZ L a n
   have h2:=aCp L n (dP L a n).2
   simp only [dP]; omega
theorem jB (L:List Int) (a m z:Nat):(iR L a m z).length=m+1+z:=by simp [iR,xY]; omega
theorem uM (L:List Int) (b j n z:Nat):(AX L b j n z).length=z:=xY _ z
theorem PG (L:List Int) (a m:Nat):iR L a (m+1) 0=iR L a m 0++[CJ L a m]:=by simp [iR,PF]
theorem PH (L:List Int) (a m z:Nat):iR L a m (z+1)=iR L a m z++[UL z]:=by simp [iR,PF]
theorem UM (L:List Int) (b j n z:Nat):AX L b j n (z+1)=AX L b j n z++[fkP L b j n z]:=rfl
structure pG (x:Tb):Prop where
 ok:x.ok
 free:0<(fW x x.cols.length).length
 ty:∀ c∈x.cols,c.t=1∨c.t=2∨c.t=3
theorem kV (L:List Int) (j a:Nat):pG (kN L j a):=by
 have h1:=qH L a
 have h2:=GY L (a+1+2*eD L a) j
 unfold kN
 generalize eD L a=m at *
 generalize AY L (a+1+2*m) j=z at *
 refine ⟨⟨by simp only [jB]; omega,by simp,by simp,by simp only [uM]; omega,by simp,fun f hf=>?_⟩,?_,fun c hc=>?_⟩
 ·obtain ⟨k,_,rfl⟩:=rE hf
  simp [fkP]
 ·simp only [jB]
  have hm:(1:Int)∈fW ⟨rD 116 j,iR L (a+1) m z,[0],[],AX L (a+1+2*m) j (m+1) z,[]⟩ (m+1+z):=by
   unfold fW
   refine List.mem_map.2 ⟨1,List.mem_filter.2 ⟨List.mem_range.2 (by omega),?_⟩,rfl⟩
   have:dJ ⟨rD 116 j,iR L (a+1) m z,[0],[],AX L (a+1+2*m) j (m+1) z,[]⟩ ((1:Nat):Int)=false:=by
    unfold dJ
    rw [Bool.or_eq_false_iff]
    refine ⟨by simp,?_⟩
    rw [List.any_eq_false]
    intro f hf
    obtain ⟨k,_,rfl⟩:=rE hf
    simp [fkP]
    omega
   rw [this]; rfl
  exact List.length_pos_of_mem hm
 ·unfold iR at hc
  rcases List.mem_cons.1 hc with rfl | hc
  ·exact .inl rfl
  ·rcases List.mem_append.1 hc with hc | hc
   ·obtain ⟨k,_,rfl⟩:=rE hc
    have:=bG L (a+1+2*k) (n:=3) (by omega)
    simp only [CJ]
    omega
   ·obtain ⟨k,_,rfl⟩:=rE hc
    exact .inl rfl
theorem aEe {L:List Int} {b j:Nat} (h1:¬ j=0∧¬ aU L b 3=0) (h2:¬ aU L (b+2) 2=0):AY L b j=2∧CK L b j=b+4:=by
 unfold AY CK
 rw [if_neg h1.1,if_neg h1.2,if_neg h2,if_neg h1.1,if_neg h1.2,if_neg h2]
 exact ⟨rfl,rfl⟩
theorem aCr {L:List Int} {b:Nat}:AY L b 0=0∧CK L b 0=b:=⟨rfl,rfl⟩
theorem aCs {L:List Int} {b j z:Nat} (hj:¬ j=0) (hz:z<2) (h1:0<z→¬ j=0∧¬ aU L b 3=0) (h:aU L (b+2*z) (3 - (z:Int))=0):AY L b j=z∧CK L b j=b+2*z+1:=by
 rcases (by omega:z=0∨z=1) with rfl | rfl
 ·have h':aU L b 3=0:=by simpa using h
  unfold AY CK
  rw [if_neg hj,if_pos h',if_neg hj,if_pos h']
  exact ⟨rfl,rfl⟩
 ·have h':aU L (b+2) 2=0:=by simpa using h
  have h2:=(h1 (by omega)).2
  unfold AY CK
  rw [if_neg hj,if_neg h2,if_pos h',if_neg hj,if_neg h2,if_pos h']
  exact ⟨rfl,rfl⟩
theorem aCt (L:List Int) (i:Nat) (hi:i≤800000) :
  Cf En 17 [.ptr 1000000 0 0] [aS L i] (.agg [.d (.sl ((dP L (i+1) (1+aU L i 3).toNat).1.map Tb.c))]) [aS L (dP L (i+1) (1+aU L i 3).toNat).2]:=by
 refine aD aW (fn:=Tryz.f17) (by kernel_rfl) rfl (by kernel_rfl) (by decide) (by simp) ?_
 have hn:=bG L i (n:=3) (by omega)
 have ht:=dM L i (by omega) 3 (by omega) (by omega)
 obtain ⟨N,hN⟩:∃ N:Nat,N=(1+aU L i 3).toNat:=⟨_,rfl⟩
 have hN2:(N:Int)=1+aU L i 3:=by omega
 have hw:=aH (n:=1+aU L i 3) (by omega) (by omega)
 rw [← hN2] at hw
 rw [← hN]
 have hN3:N≤3:=by omega
 simp [aS]
 (repeat' first|contradiction|exact .ok|apply And.intro|intro _|(apply gc<;>simp+contextual))
 refine aK [1000000] ht (by simp) (by simp) (by simp) (by simp [aS]) (by simp) ?_
 simp [aS,← hN2,hw]
 (repeat' first|contradiction|exact .ok|apply And.intro|intro _|(apply gc<;>simp+contextual))
 clear ht hn hw hN2 hN
 refine aL aW (by decide) (fun j:Nat=>{ s:=cG [(0,.ptr 1000000 0 0),(2,.ptr 2 0 0),(3,.ptr 3 0 0),(4,.d (.int .i64 N)),(5,.d (.int .i64 j))],b:=cE [(1000000,1000000,aS L (dP L (i+1) j).2),(2,2,.var [.nils]),(3,3,.var [.ref 901 0 j 6]),(901,901,.arr 73 6 ((dP L (i+1) j).1.map Tb.c) false)] }) (fun j=>j≤N) (fun j=>N - j) 0 (by simp)
  ((tL 3 901 73 6 0 (cells:=[.nils]) (by simp) rfl (by simp) (by decide) (by decide)).trans (aE _ [(1000000,1000000,_),(2,2,_),(3,3,_),(901,901,_)] ⟨by simp,by simp,by simp [aB,Blk.live,aS,dP,bM],bT⟩ (by simp [aB]))) ?_
 intro j hj
 by_cases hlt:j<N
 ·have hal:=AZ L (i+1) j
  have hTl:=iC L (i+1) j
  have hst:dP L (i+1) (j+1)=((dP L (i+1) j).1++[(rJ L j (dP L (i+1) j).2).1],(rJ L j (dP L (i+1) j).2).2):=rfl
  have hwj:=aH (n:=(j:Int)+1) (by omega) (by omega)
  generalize hT:(dP L (i+1) j).1=T at *
  generalize ha:(dP L (i+1) j).2=a at *
  have hm:=qH L a
  have hmn:=bG L a (n:=2) (by omega)
  have hmd:=kV L j a
  have htab:rJ L j a=MD L (kN L j a) (CK L (a+1+2*eD L a) j):=rfl
  rw [htab] at hst
  unfold kN at hst hmd
  generalize eD L a=m at *
  have hwm:=aH (n:=1+aU L a 2) (by omega) (by omega)
  rw [← hm.2.2] at hwm
  have hm3:=hm.2.2
  have hpe:=ZO L (a+1+2*m) j
  have hpn:=GY L (a+1+2*m) j
  simp [aS,hlt]
  (repeat' first|contradiction|exact .ok|apply And.intro|intro _|(apply gc<;>simp+contextual))
  refine aA (aCn 116 j j rfl (by omega)) (by simp) ?_
  simp
  (repeat' first|contradiction|exact .ok|apply And.intro|intro _|(apply gc<;>simp+contextual))
  refine aK [1000000] (dM L a (by omega) 2 (by omega) (by omega)) (by simp) (by simp) (by simp) (by simp [aS]) (by simp) ?_
  simp [aS,← hm3,hwm]
  (repeat' first|contradiction|exact .ok|apply And.intro|intro _|(apply gc<;>simp+contextual))
  refine aL aW (by decide) (fun k:Nat=>{ s:=cG [(0,.ptr 1000000 0 0),(2,.ptr 2 0 0),(3,.ptr 3 0 0),(4,.d (.int .i64 N)),(5,.d (.int .i64 j)),(6,.ptr 6 0 0),(7,.d (.int .i64 m)),(8,.d (.int .i64 k))],b:=cE [(1000000,1000000,aS L (a+1+2*k)),(2,2,.var [.nils]),(3,3,.var [.ref 901 0 j 6]),(901,901,.arr 73 6 (T.map Tb.c) false),(6,6,.var [.d (.str (rD 116 j)),.ref 900 0 (k+1) 3,.ref 902 0 1 1,.nils,.nils,.nils]),(900,900,.arr 87 3 ((iR L (a+1) k 0).map Col.c) false),(902,902,.arr 3 1 [[.int .i64 0]] false)] }) (fun k=>k≤m) (fun k=>m - k) 0 (by simp)
   (aE _ [(1000000,1000000,_),(2,2,_),(3,3,_),(901,901,_),(6,6,_),(900,21,_),(902,22,_)] ⟨by simp,by simp,by simp [aB,Blk.live,aS,iR,PF,idC,Col.c],bT⟩ (by simp [aB])) ?_
  ·intro k hk
   by_cases hkm:k<m
   ·have hkm':(k:Int)<m:=by omega
    have hcl:=jB L (a+1) k 0
    have hcs:=PG L (a+1) k
    have c1:=bG L (a+1+2*k) (n:=3) (by omega)
    have hw1:=aH (n:=1+aU L (a+1+2*k) 3) (by omega) (by omega)
    have hwk:=aH (n:=(k:Int)+1) (by omega) (by omega)
    have hcg:(CJ L (a+1) k).c=[.str (rD 99 k),.int .i64 (1+aU L (a+1+2*k) 3),.bool (aU L (a+1+2*k+1) 3==0)]:=rfl
    simp [aS,hkm',hkm]
    (repeat' first|contradiction|exact .ok|apply And.intro|intro _|(apply gc<;>simp+contextual))
    refine aA (aCn 99 k k rfl (by omega)) (by simp) ?_
    simp
    (repeat' first|contradiction|exact .ok|apply And.intro|intro _|(apply gc<;>simp+contextual))
    refine aK [1000000] (dM L (a+1+2*k) (by omega) 3 (by omega) (by omega)) (by simp) (by simp) (by simp) (by simp [aS]) (by simp) ?_
    simp [aS,hw1]
    (repeat' first|contradiction|exact .ok|apply And.intro|intro _|(apply gc<;>simp+contextual))
    refine aK [1000000] (dM L (a+1+2*k+1) (by omega) 3 (by omega) (by omega)) (by simp) (by simp) (by simp) (by simp [aS]) (by simp) ?_
    simp [aS,hcl,eI (k+1+1) (by omega) 32 (by decide),eI k (by omega) 32 (by decide)]
    (repeat' first|contradiction|exact .ok|apply And.intro|intro _|(apply gc<;>simp+contextual))
    refine ⟨k+1,by omega,?_,by simp; omega⟩
    refine aE _ [(1000000,1000000,_),(2,2,_),(3,3,_),(901,901,_),(6,6,_),(900,44,_),(902,902,_)] ⟨by simp,by simp,?_,bT⟩ (by simp [aB,hwk])
    simp [aB,Blk.live,aS,hcs,hcg,hcl]
    try omega
   have hkm2:k=m:=by omega
   subst hkm2
   simp [aS]
   (repeat' first|contradiction|exact .ok|apply And.intro|intro _|(apply gc<;>simp+contextual))
   have hb:((a+1+2*k:Nat):Int)=(a:Int)+1+2*k:=by omega
   generalize hbe:a+1+2*k=b at *
   have e2:∀ z,AY L b j=z→(z=0→j=0∨aU L b 3=0):=fun z _ _=>by unfold AY at *; grind
   refine FW aW (by decide) (fun z:Nat=>{ s:=cG [(0,.ptr 1000000 0 0),(2,.ptr 2 0 0),(3,.ptr 3 0 0),(4,.d (.int .i64 N)),(5,.d (.int .i64 j)),(6,.ptr 6 0 0),(9,.d (.int .i64 z))],b:=cE [(1000000,1000000,aS L (b+2*z:Nat)),(2,2,.var [.nils]),(3,3,.var [.ref 901 0 j 6]),(901,901,.arr 73 6 (T.map Tb.c) false),(6,6,.var [.d (.str (rD 116 j)),.ref 900 0 (k+1+z) 3,.ref 902 0 1 1,.nils,.ref 903 0 z 2,.nils]),(900,900,.arr 87 3 ((iR L (a+1) k z).map Col.c) false),(902,902,.arr 3 1 [[.int .i64 0]] false),(903,903,.arr 75 2 ((AX L b j (k+1) z).map Fk.c) false)] }) (fun z=>z≤2∧(0<z→¬ j=0∧¬ aU L b 3=0)∧(1<z→¬ aU L (b+2) 2=0)) (fun z=>2 - z) 0 (by simp) 4
    { s:=cG [(0,.ptr 1000000 0 0),(2,.ptr 2 0 0),(3,.ptr 3 0 0),(4,.d (.int .i64 N)),(5,.d (.int .i64 j)),(6,.ptr 6 0 0)],b:=cE [(1000000,1000000,aS L (CK L b j)),(2,2,.var [.nils]),(3,3,.var [.ref 901 0 j 6]),(901,901,.arr 73 6 (T.map Tb.c) false),(6,6,.var [.d (.str (rD 116 j)),.ref 900 0 (k+1+AY L b j) 3,.ref 902 0 1 1,.nils,.ref 903 0 (AY L b j) 2,.nils]),(900,900,.arr 87 3 ((iR L (a+1) k (AY L b j)).map Col.c) false),(902,902,.arr 3 1 [[.int .i64 0]] false),(903,903,.arr 75 2 ((AX L b j (k+1) (AY L b j)).map Fk.c) false)] }
    ((tL 6 903 75 2 4 (cells:=[.d (.str (rD 116 j)),.ref 900 0 (k+1) 3,.ref 902 0 1 1,.nils,.nils,.nils]) (by simp) rfl (by simp) (by decide) (by decide)).trans (aE _ [(1000000,1000000,_),(2,2,_),(3,3,_),(901,901,_),(6,6,_),(900,900,_),(902,902,_),(903,903,_)] ⟨by simp,by simp,by simp [aB,Blk.live,aS,bM,AX,PF,hb],bT⟩ (by simp [aB]))) ?_ ?_
   ·rintro z ⟨hz,hz1,hz2⟩
    have hcl:=jB L (a+1) k z
    have hcs:=PH L (a+1) k z
    have hfl:=uM L b j (k+1) z
    have hfs:=UM L b j (k+1) z
    by_cases hz2':z=2
    ·subst hz2'
     obtain ⟨p1,p2⟩:=aEe (hz1 (by omega)) (hz2 (by omega))
     simp [aS]
     (repeat' first|contradiction|exact .ok|apply And.intro|intro _|(apply gc<;>simp+contextual))
     refine AExitTo.mk rfl ?_
     exact aE _ [(1000000,1000000,_),(2,2,_),(3,3,_),(901,901,_),(6,6,_),(900,900,_),(902,902,_),(903,903,_)] ⟨by simp,by simp,by simp [aB,Blk.live,aS,p1,p2],bT⟩ (by simp [aB])
    have hzl:z<2:=by omega
    have hzi:(z:Int)<2:=by omega
    by_cases hj0:j=0
    ·subst hj0
     obtain rfl:z=0:=by
      rcases Nat.eq_zero_or_pos z with h | h
      ·exact h
      ·exact absurd rfl (hz1 h).1
     simp [aS,hzi]
     (repeat' first|contradiction|exact .ok|apply And.intro|intro _|(apply gc<;>simp+contextual))
     refine AExitTo.mk rfl ?_
     exact aE _ [(1000000,1000000,_),(2,2,_),(3,3,_),(901,901,_),(6,6,_),(900,900,_),(902,902,_),(903,903,_)] ⟨by simp,by simp,by simp [aB,Blk.live,aS,aCr],bT⟩ (by simp [aB])
    have hji:(0:Int)<j:=by omega
    have hw3:=aH (n:=3 - (z:Int)) (by omega) (by omega)
    have nx:=bG L (b+2*z) (n:=3 - (z:Int)) (by omega)
    have tx:=dM L (b+2*z) (by omega) (3 - (z:Int)) (by omega) (by omega)
    have ps:=aCs (L:=L) (b:=b) (z:=z) hj0 hzl hz1
    have hq1:z=0→aU L (b+2*z) (3 - (z:Int))=aU L b 3:=fun e=>by subst e; rfl
    have hq2:z=1→aU L (b+2*z) (3 - (z:Int))=aU L (b+2) 2:=fun e=>by subst e; rfl
    generalize aU L (b+2*z) (3 - (z:Int))=q at *
    simp [aS,hzi,hji,hw3]
    (repeat' first|contradiction|exact .ok|apply And.intro|intro _|(apply gc<;>simp+contextual))
    refine aK [1000000] tx (by simp) (by simp) (by simp) (by simp [aS]) (by simp [hw3]) ?_
    by_cases hq:q=0
    ·obtain ⟨p1,p2⟩:=ps hq
     simp [aS,hq]
     (repeat' first|contradiction|exact .ok|apply And.intro|intro _|(apply gc<;>simp+contextual[hq]))
     refine AExitTo.mk rfl ?_
     exact aE _ [(1000000,1000000,_),(2,2,_),(3,3,_),(901,901,_),(6,6,_),(900,900,_),(902,902,_),(903,903,_)] ⟨by simp,by simp,by simp [aB,Blk.live,aS,p1,p2],bT⟩ (by simp [aB])
    have hqp:0<q:=by omega
    have nj:=bG L (b+2*z+1) (n:=(j:Int)) (by omega)
    have tj:=dM L (b+2*z+1) (by omega) (j:Int) (by omega) (by omega)
    have hfk:(fkP L b j (k+1) z).c=[.sl [[.int .i64 ((k:Int)+1+z)]],.str (rD 116 (aU L (b+2*z+1) j).toNat)]:=by simp [fkP,Fk.c,aG]
    have hfc:(UL z).c=[.str (rD 102 z),.int .i64 1,.bool false]:=rfl
    have hwc:=aH (n:=(k:Int)+1+z) (by omega) (by omega)
    have hwz:=aH (n:=(z:Int)+1) (by omega) (by omega)
    simp [aS,hqp]
    (repeat' first|contradiction|exact .ok|apply And.intro|intro _|(apply gc<;>simp+contextual[hqp]))
    refine aA (aCn 102 z z rfl (by omega)) (by simp) ?_
    simp [hcl,eI (k+1+z+1) (by omega) 32 (by decide),eI (k+1+z) (by omega) 32 (by decide)]
    (repeat' first|contradiction|exact .ok|apply And.intro|intro _|(apply gc<;>simp+contextual))
    simp [aS,hcl,hwc]
    refine aK [1000000] tj (by simp) (by simp) (by simp) (by simp [aS]; try omega) (by simp) ?_
    simp [aS]
    refine aA (aCn 116 (aU L (b+2*z+1) j).toNat (aU L (b+2*z+1) j) (by omega) (by omega)) (by simp) ?_
    simp [hfl,eI z (by omega) 40 (by decide),eI (z+1) (by omega) 40 (by decide)]
    (repeat' first|contradiction|exact .ok|apply And.intro|intro _|(apply gc<;>simp+contextual))
    refine ⟨z+1,⟨by omega,fun _=>⟨hj0,?_⟩,fun h1=>?_⟩,?_,by simp; omega⟩
    ·rcases Nat.eq_zero_or_pos z with h | h
     ·rw [← hq1 h]; exact hq
     ·exact (hz1 h).2
    ·rw [← hq2 (by omega)]; exact hq
    ·refine aE _ [(1000000,1000000,_),(2,2,_),(3,3,_),(901,901,_),(6,6,_),(900,67,_),(902,902,_),(903,82,_)] ⟨by simp,by simp,?_,bT⟩ (by simp [aB,hwz])
     simp [aB,Blk.live,aS,hcs,hfs,hfk,hfc,hcl,hfl]
     try omega
   ·have hcl:=jB L (a+1) k (AY L b j)
    have hfl:=uM L b j (k+1) (AY L b j)
    generalize hze:AY L b j=z at *
    generalize CK L b j=e at *
    generalize iR L (a+1) k z=C at *
    generalize AX L b j (k+1) z=F at *
    have n4:=bG L e (n:=4) (by omega)
    have hct:List.take (k+1+z) (C.map Col.c)=C.map Col.c:=List.take_of_length_le (by simp [hcl])
    have hft:List.take z (F.map Fk.c)=F.map Fk.c:=List.take_of_length_le (by simp [hfl])
    simp [aS]
    (repeat' first|contradiction|exact .ok|apply And.intro|intro _|(apply gc<;>simp+contextual))
    refine aK [1000000] (dM L e (by omega) 4 (by omega) (by omega)) (by simp) (by simp) (by simp) (by simp [aS]; try omega) (by simp) ?_
    by_cases u0:aU L e 4=0
    ·have hat:=YG L (e+1) (by omega) _ hmd.ok hmd.free hmd.ty
     have hE:dP L (i+1) (j+1)=(T++[⟨rD 116 j,C,[0],[],F,[(jW L ⟨rD 116 j,C,[0],[],F,[]⟩ (e+1)).1.ex]⟩],(jW L ⟨rD 116 j,C,[0],[],F,[]⟩ (e+1)).2):=by rw [hst]; simp [MD,u0]
     generalize jW L ⟨rD 116 j,C,[0],[],F,[]⟩ (e+1)=iF at *
     obtain ⟨iF,e1⟩:=iF
     simp only at hat hE
     simp [aS,u0]
     (repeat' first|contradiction|exact .ok|apply And.intro|intro _|(apply gc<;>simp+contextual[u0]))
     refine aK [1000000] hat (by simp) (by simp) (by simp) (by simp [aS]; try omega) (by simp [Tb.a,Tb.c,hct,hft,hcl,hfl,aG]) ?_
     simp [aS,At.a,At.c]
     refine aA (zU iF) (by simp [At.a,At.c]) ?_
     simp [Ex.a,Ex.ctake',Ex.clen]
     (repeat' first|contradiction|exact .ok|apply And.intro|intro _|(apply gc<;>simp+contextual))
     simp [Ex.a,Ex.ctake',Ex.clen,hTl,hct,hft,hcl,hfl,eI (j+1) (by omega) 136 (by decide),eI j (by omega) 136 (by decide)]
     (repeat' first|contradiction|exact .ok|apply And.intro|intro _|(apply gc<;>simp+contextual))
     refine ⟨j+1,by omega,?_,by simp; omega⟩
     refine aE _ [(1000000,1000000,_),(2,2,_),(3,3,_),(901,100,_)] ⟨by simp,by simp,?_,bT⟩ (by simp [aB,hwj])
     simp [aB,Blk.live,aS,hE,Tb.c,hTl,aG]
    ·have hE:dP L (i+1) (j+1)=(T++[⟨rD 116 j,C,[0],[],F,[]⟩],e+1):=by rw [hst]; simp [MD,u0]
     simp [aS,u0,hTl,hct,hft,hcl,hfl,eI (j+1) (by omega) 136 (by decide),eI j (by omega) 136 (by decide)]
     (repeat' first|contradiction|exact .ok|apply And.intro|intro _|(apply gc<;>simp+contextual[u0]))
     refine ⟨j+1,by omega,?_,by simp; omega⟩
     refine aE _ [(1000000,1000000,_),(2,2,_),(3,3,_),(901,100,_)] ⟨by simp,by simp,?_,bT⟩ (by simp [aB,hwj])
     simp [aB,Blk.live,aS,hE,Tb.c,hTl,aG]
 ·have hje:j=N:=by omega
  subst hje
  have hTl:=iC L (i+1) j
  simp [aS,hTl]
  (repeat' first|contradiction|exact .ok|apply And.intro|intro _|(apply gc<;>simp+contextual))
  all_goals exact List.take_of_length_le (by simp [hTl])
end Go.Proofs.Tryz
