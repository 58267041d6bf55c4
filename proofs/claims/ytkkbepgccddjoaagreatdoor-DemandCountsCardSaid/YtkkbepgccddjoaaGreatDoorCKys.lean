import Derived.Test.YtkkbepgccddjoaaGreatDoorCSmn
import Derived.Test.YtkkbepgccddjoaaGreatDoorRev
import Derived.Test.YtkkbepgccddjoaaGreatDoorCTap
import Derived.Test.YtkkbepgccddjoaaGreatDoorCSmR
set_option linter.all false
namespace Go.Proofs.Tryz
open Go.Ab
set_option maxRecDepth 100000
set_option maxHeartbeats 4000000
@[simp] theorem At.clen (x:At):x.c.length=5:=rfl
def At.cmp (a b:At):Int:=if a.col<b.col then -1 else if b.col<a.col then 1 else if a.op<b.op then -1 else if b.op<a.op then 1 else a.v.cmp b.v
theorem CF (x:At):Cf En 39 [x.a] [] x.ex.a []:=by
 refine cI aW (fn:=Tryz.f39) rfl ?_
 by_cases h5:x.op=5
 ·simp [At.a,At.c,h5,At.ex,fH,Ex.a,Ex.c,dZ]
  (repeat' first|contradiction|exact .ok|apply And.intro|intro _|(apply gc<;>simp+contextual[h5]))
 by_cases h21:x.op=21
 ·simp [At.a,At.c,h21,At.ex,fH,Ex.a,Ex.c,dZ]
  (repeat' first|contradiction|exact .ok|apply And.intro|intro _|(apply gc<;>simp+contextual[h21]))
 simp [At.a,At.c,h5,h21]
 (repeat' first|contradiction|exact .ok|apply And.intro|intro _|(apply gc<;>simp+contextual[h5,h21]))
 refine aA (aDG x.v 0) (by simp [V.a]) ?_
 simp [At.ex,fH,Ex.a,Ex.c,dZ,h5,h21,Ex.clen,Ex.ctake']
 (repeat' first|contradiction|exact .ok|apply And.intro|intro _|(apply gc<;>simp+contextual[h5,h21]))
 all_goals exact List.take_of_length_le (by simp [Ex.clen])
theorem aAK (x:At):Cf En 226 [x.a] [] x.ex.a []:=by
 refine cI aW (fn:=Tryz.f226) rfl ?_
 by_cases h5:x.op=5
 ·simp [At.a,At.c,h5,At.ex,fH,Ex.a,Ex.c,dZ]
  (repeat' first|contradiction|exact .ok|apply And.intro|intro _|(apply gc<;>simp+contextual[h5]))
 by_cases h21:x.op=21
 ·simp [At.a,At.c,h21,At.ex,fH,Ex.a,Ex.c,dZ]
  (repeat' first|contradiction|exact .ok|apply And.intro|intro _|(apply gc<;>simp+contextual[h21]))
 simp [At.a,At.c,h5,h21]
 (repeat' first|contradiction|exact .ok|apply And.intro|intro _|(apply gc<;>simp+contextual[h5,h21]))
 refine aA (aDF x.v 0) (by simp [V.a]) ?_
 simp [At.ex,fH,Ex.a,Ex.c,dZ,h5,h21,Ex.clen,Ex.ctake']
 (repeat' first|contradiction|exact .ok|apply And.intro|intro _|(apply gc<;>simp+contextual[h5,h21]))
 all_goals exact List.take_of_length_le (by simp [Ex.clen])
theorem UK (x y:At):Cf En 236 [x.a,y.a] [] (.d (.int .i64 (x.cmp y))) []:=by
 refine cI aW (fn:=Tryz.f236) rfl ?_
 simp [At.a,At.c]
 (repeat' first|contradiction|exact .ok|apply And.intro|intro _|(apply gc<;>simp+contextual))
 all_goals first | (unfold At.cmp; grind) | skip
 refine aA (sX x.v y.v) (by simp [V.a]) ?_
 simp
 (repeat' first|contradiction|exact .ok|apply And.intro|intro _|(apply gc<;>simp+contextual))
 all_goals (unfold At.cmp; grind)
theorem RZ {x:At} (h:x.v.t.length≤200) (q:Nat) (hq:q≤50):x.ex.few q=true:=by
 have e:∀ c,(fH c).few (q+1)=true:=fun c=>by
  rw [fH,Ex.few,gN,if_neg (by omega),if_neg (by simp),if_neg (by simp)]
 have e0:∀ c,(fH c).few q=true:=fun c=>by
  rw [fH,Ex.few,gN,if_neg (by omega),if_neg (by simp),if_neg (by simp)]
 have k:(bT x.v 0).few (q+1)=true:=by
  unfold bT
  repeat' split
  all_goals (rw [Ex.few,gN,if_neg (by omega),if_neg (by simp),if_neg (by simp <;> omega)])
 unfold At.ex
 repeat' split
 ·exact e0 _
 ·rw [Ex.few,if_neg (by omega),if_neg (by simp),if_neg (by simp)]
  simp [gN,e]
 ·rw [Ex.few,if_neg (by omega),if_neg (by simp),if_neg (by simp)]
  simp [gN,e,k]
def vW (a:At):List At→Nat
 | []=>0
 | x::xs=>if x.cmp a<0 then vW a xs+1 else 0
def SI (a:At) (l:List At):Bool:=match l[vW a l]? with
 | some x=>x.cmp a==0
 | none=>false
def zH (l:List At) (a:At):List At:=if SI a l=true then l else l.take (vW a l)++a::l.drop (vW a l)
theorem VD (a:At):∀ l:List At,vW a l≤l.length
 | []=>by simp [vW]
 | u::us=>by have:=VD a us; simp only [vW,List.length_cons]; split <;> omega
theorem YN {a:At} {l:List At} {i:Nat} (h:i<l.length):vW a (l.drop i)=if l[i].cmp a<0 then vW a (l.drop (i+1))+1 else 0:=by
 rw [List.drop_eq_getElem_cons h,vW]
theorem aBh (l:List At) (a:At):(zH l a).length≤l.length+1:=by
 have:=VD a l
 unfold zH
 split
 ·omega
 ·simp; omega
@[simp] theorem aIm (l:List At):((l.map At.c).all fun x=>x.length==5)=true:=by simp [At.clen]
@[simp] theorem aIn (l:List At) (n:Nat):(∀ x,x∈List.take n (l.map At.c)→x.length=5)=True:=eq_true fun x hx=>by
  obtain ⟨a,_,rfl⟩:=List.mem_map.1 (List.mem_of_mem_take hx)
  rfl
@[simp] theorem aIo (l:List At) (n:Nat):(∀ x,x∈List.drop n (l.map At.c)→x.length=5)=True:=eq_true fun x hx=>by
  obtain ⟨a,_,rfl⟩:=List.mem_map.1 (List.mem_of_mem_drop hx)
  rfl
@[simp] theorem aIY (l:List At):(∀ x,x∈l.map At.c→x.length=5)=True:=eq_true fun x hx=>by
  obtain ⟨a,_,rfl⟩:=List.mem_map.1 hx
  rfl
theorem SJ (l:List At) (hl:l.length≤1000) (a:At):Cf En 202 [.d (.sl (l.map At.c)),a.a] [] (.d (.sl ((zH l a).map At.c))) []:=by
 refine cI aW (fn:=Tryz.f202) rfl ?_
 simp [At.a]
 (repeat' first|contradiction|exact .ok|apply And.intro|intro _|(apply gc<;>simp+contextual))
 refine aL aW (fun i:Nat=>{ s:=cE [(0,.d (.sl (l.map At.c))),(3,.ptr 3 0 0),(5,.d (.int .i64 i))],b:=cC [(3,3,.var (a.c.map AV.d))] }) (fun i=>i≤l.length∧vW a (l.drop i)+i=vW a l) (fun i=>l.length - i) 0 (by simp) (sM _ [(3,3,_)] (by simp [aB,Blk.live]) (by simp [aB])) ?_
 rintro i ⟨hi,hp⟩
 by_cases hlt:i<l.length
 ·have hd:=YN (a:=a) hlt
  rw [hd] at hp
  have hw:=wI (n:=(i:Int)+1)
  simp [hlt,At.c]
  (repeat' first|contradiction|exact .ok|apply And.intro|intro _|(apply gc<;>simp+contextual))
  refine aA (UK l[i] a) (by simp [At.a,At.c]) ?_
  by_cases hc:l[i].cmp a<0
  ·rw [if_pos hc] at hp
   simp [hc]
   (repeat' first|contradiction|exact .ok|apply And.intro|intro _|(apply gc<;>simp+contextual))
   refine ⟨i+1,⟨by omega,by omega⟩,?_,by simp; omega⟩
   refine sM _ [(3,3,_)] (by simp [aB,Blk.live]) (by simp [aB,hw])
  ·rw [if_neg hc] at hp
   have hpi:vW a l=i:=by omega
   simp [hc,hlt]
   (repeat' first|contradiction|exact .ok|apply And.intro|intro _|(apply gc<;>simp+contextual))
   refine aA (UK l[i] a) (by simp [At.a,At.c]) ?_
   by_cases h0:l[i].cmp a=0
   ·have hh:SI a l=true:=by unfold SI; rw [hpi,gE hlt]; simp [h0]
    simp [h0,zH,hh]
    all_goals exact gz
   ·have hh:SI a l=false:=by unfold SI; rw [hpi,gE hlt]; simp [h0]
    have e1:zH l a=l.take i++a::l.drop i:=by simp [zH,hh,hpi]
    have hm:min i l.length=i:=by omega
    simp [h0,e1,hm,hi,At.c,gF i (by omega) 48 (by decide),gF (i+1) (by omega) 48 (by decide),gF (i+1+(l.length - i)) (by omega) 48 (by decide)]
    (repeat' first|contradiction|exact .ok|apply And.intro|intro _|(apply gc<;>simp+contextual))
    all_goals (rw [if_pos (by omega),List.take_of_length_le (by simp; omega)])
 ·have hie:i=l.length:=by omega
  subst hie
  rw [List.drop_length,vW] at hp
  have hh:SI a l=false:=by unfold SI; rw [← hp]; simp
  have e1:zH l a=l++[a]:=by simp [zH,hh,← hp]
  simp [e1,At.c,gF l.length (by omega) 48 (by decide),gF (l.length+1) (by omega) 48 (by decide)]
  (repeat' first|contradiction|exact .ok|apply And.intro|intro _|(apply gc<;>simp+contextual))
  all_goals exact List.take_of_length_le (by simp <;> omega)
@[simp] theorem aIT (v:V):v.c.length=3:=rfl
@[simp] theorem aIU (l:List V) (n:Nat):(∀ x,x∈List.take n (l.map V.c)→x.length=3)=True:=eq_true fun x hx=>by
  obtain ⟨a,_,rfl⟩:=List.mem_map.1 (List.mem_of_mem_take hx)
  rfl
@[simp] theorem aIV (l:List V) (n:Nat):(∀ x,x∈List.drop n (l.map V.c)→x.length=3)=True:=eq_true fun x hx=>by
  obtain ⟨a,_,rfl⟩:=List.mem_map.1 (List.mem_of_mem_drop hx)
  rfl
theorem dH (L:List Int) (i:Nat) (hi:i≤1000000000) (n:Int) (h1:1≤n) (hn:n≤1000000) :
  Cf En 14 [.ptr 1000000 0 0,.d (.int .i64 n)] [aQ L i] (.d (.int .i64 (aS L i n))) [aQ L (i+1)]:=by
 have h:=aCS L i hi n hn
 rwa [show sG i n=i+1 from by simp [sG]; omega] at h
def gQ (L:List Int) (i:Nat) (k:Int):V:=((bF k)[(1+aS L i (min (bF k).length 4 - 1:Nat)).toNat]?).getD nulV
theorem zW (L:List Int) (i:Nat) (hi:i≤1000000) (k:Int) (hk:k=1∨k=2∨k=3) :
  Cf En 42 [.ptr 1000000 0 0,.d (.int .i64 k),.d (.bool false)] [aQ L i] (gQ L i k).a [aQ L (i+1)]:=by
 have hl:(bF k).length=13∨(bF k).length=3∨(bF k).length=8:=by
  rcases hk with rfl | rfl | rfl <;> decide
 obtain ⟨m,hm⟩:∃ m:Nat,m=min (bF k).length 4:=⟨_,rfl⟩
 have hm4:3≤m∧m≤4∧m≤(bF k).length:=by omega
 have hmin:(if (4:Int)<((bF k).length:Int) then (4:Int) else ((bF k).length:Int))=m:=by split <;> omega
 have e0:gQ L i k=((bF k)[(1+aS L i (m - 1:Nat)).toNat]?).getD nulV:=by unfold gQ; rw [hm]
 have hn:=bB L i (n:=((m - 1:Nat):Int)) (by omega)
 have hlt:(1+aS L i (m - 1:Nat)).toNat<(bF k).length:=by omega
 have hg:(bF k)[(1+aS L i (m - 1:Nat)).toNat]?=some (bF k)[(1+aS L i (m - 1:Nat)).toNat]:=gE hlt
 have ht:=dH L i (by omega) (m - 1:Nat) (by omega) (by omega)
 have hc:((m - 1:Nat):Int)=(m:Int) - 1:=by omega
 have hw1:=wI (n:=(m:Int) - 1)
 rw [hc] at ht hn
 have e1:gQ L i k=(bF k)[(1+aS L i (m - 1:Nat)).toNat]:=by rw [e0,hg]; rfl
 simp only [hc] at e1 hlt
 have hw2:=wI (n:=1+aS L i ((m:Int) - 1))
 have h0:0≤1+aS L i ((m:Int) - 1):=by omega
 rw [e1]
 refine cI aW (fn:=Tryz.f42) rfl ?_
 simp [aQ]
 (repeat' first|contradiction|exact .ok|apply And.intro|intro _|(apply gc<;>simp+contextual))
 refine aP (PQ k) ?_
 simp [hmin]
 (repeat' first|contradiction|exact .ok|apply And.intro|intro _|(apply gc<;>simp+contextual))
 simp [hw1]
 refine aH [1000000] ht (by simp [aQ]) (by simp) ?_
 simp [aQ,hw2,h0,hlt,V.c]
 (repeat' first|contradiction|exact .ok|apply And.intro|intro _|(apply gc<;>simp+contextual))
 all_goals simp [V.a]
theorem vX (L:List Int) (i:Nat) (k:Int) (hk:k=1∨k=2∨k=3):(gQ L i k).k=k∧(gQ L i k).valid=true∧(gQ L i k).t.length≤1∧(gQ L i k).t ≠ [48]∧0≤(gQ L i k).n∧(gQ L i k).n≤2:=by
 rcases hk with rfl | rfl | rfl
 ·have hn:=bB L i (n:=(min (bF 1).length 4 - 1:Nat)) (by decide)
  unfold gQ
  generalize aS L i (min (bF 1).length 4 - 1:Nat)=z at *
  have h3:((min (bF 1).length 4 - 1:Nat):Int)=3:=by decide
  rw [h3] at hn
  rcases (by omega:z=0∨z=1∨z=2) with rfl | rfl | rfl <;> decide
 ·have hn:=bB L i (n:=(min (bF 2).length 4 - 1:Nat)) (by decide)
  unfold gQ
  generalize aS L i (min (bF 2).length 4 - 1:Nat)=z at *
  have h3:((min (bF 2).length 4 - 1:Nat):Int)=2:=by decide
  rw [h3] at hn
  rcases (by omega:z=0∨z=1) with rfl | rfl <;> decide
 ·have hn:=bB L i (n:=(min (bF 3).length 4 - 1:Nat)) (by decide)
  unfold gQ
  generalize aS L i (min (bF 3).length 4 - 1:Nat)=z at *
  have h3:((min (bF 3).length 4 - 1:Nat):Int)=3:=by decide
  rw [h3] at hn
  rcases (by omega:z=0∨z=1∨z=2) with rfl | rfl | rfl <;> decide
def gR (x:Tb) (n:Nat):List Int:=((List.range n).filter fun c:Nat=>!cU x c).map fun c:Nat=>(c:Int)
theorem SK (x:Tb) (n:Nat):gR x (n+1)=if cU x n=true then gR x n else gR x n++[(n:Int)]:=by
 unfold gR
 rw [List.range_succ,List.filter_append,List.map_append]
 by_cases h:cU x n=true <;> simp [h]
theorem GQ (x:Tb) (n:Nat):(gR x n).length≤n:=by
 unfold gR
 rw [List.length_map]
 exact Nat.le_trans (List.length_filter_le _ _) (Nat.le_of_eq List.length_range)
theorem GR {x:Tb} {n:Nat} {c:Int} (h:c∈gR x n):0≤c∧c<n∧cU x c=false:=by
 unfold gR at h
 obtain ⟨k,hk,rfl⟩:=List.mem_map.1 h
 obtain ⟨h1,h2⟩:=List.mem_filter.1 hk
 exact ⟨by omega,by have:=List.mem_range.1 h1; omega,by simpa using h2⟩
def lC (L:List Int) (x:Tb) (i:Nat):At×Nat :=
 let c:=((gR x x.cols.length)[(aS L i (gR x x.cols.length).length).toNat]?).getD 0
 if aS L (i+1) 6=0 then (⟨c,21,nulV⟩,i+2)
 else if dO x c=1 then (⟨c,14+aS L (i+2) 6,gQ L (i+3) 1⟩,i+4)
 else if dO x c=2 then (if aS L (i+2) 2=0 then (⟨c,5,nulV⟩,i+3) else (⟨c,14+aS L (i+3) 2,gQ L (i+4) 2⟩,i+5))
 else (⟨c,14+aS L (i+2) 2,gQ L (i+3) 3⟩,i+4)
theorem JZ (L:List Int) (x:Tb) (i:Nat):(lC L x i).2≤i+5:=by
 simp only [lC]
 repeat' split
 all_goals simp
def amF (L:List Int) (i:Nat) (x:Tb) (n:Nat):St :=
 { s:=cE [(0,.ptr 1000000 0 0),(3,.ptr 3 0 0),(4,.ptr 4 0 0),(5,.ref 900 0 (gR x n).length 1),(6,.d (.int .i64 n))],b:=cC [(1000000,1000000,aQ L i),(3,3,.var (x.c.map AV.d)),(4,4,.var [.d (.int .i64 0),.d (.int .i64 0),.d (.int .i64 0),.d (.int .i64 0),.d (.str [])]),(900,900,.arr 3 1 (aD (gR x n)) false)] }
theorem aBm (L:List Int) (i:Nat) (hi:i≤900000) (x:Tb) (hx:x.ok) (hf:0<(gR x x.cols.length).length) (hty:∀ c∈x.cols,c.t=1∨c.t=2∨c.t=3) :
  Cf En 40 [.ptr 1000000 0 0,x.a] [aQ L i] (lC L x i).1.a [aQ L (lC L x i).2]:=by
 have l1:=hx.cols
 refine cI aW (fn:=Tryz.f40) rfl ?_
 simp [aQ,Tb.a,Tb.c]
 (repeat' first|contradiction|exact .ok|apply And.intro|intro _|(apply gc<;>simp+contextual))
 refine aL aW (amF L i x) (fun n=>n≤x.cols.length) (fun n=>x.cols.length - n) 0 (by simp)
  (fD 5 900 3 1 (by simp) (by simp) (by decide) (by decide) _ [(1000000,1000000,_),(3,3,_),(4,4,_),(900,900,_)] ⟨by simp,by simp,by simp [aB,Blk.live,aQ,Tb.c,gR,aD],bK⟩ (by simp [aB,gR])) ?_
 intro n hn
 by_cases hlt:n<x.cols.length
 ·have hs:=SK x n
  have hfl:=GQ x n
  have hw:=wI (n:=(n:Int)+1)
  simp [amF,aQ,Tb.c,hlt]
  (repeat' first|contradiction|exact .ok|apply And.intro|intro _|(apply gc<;>simp+contextual))
  refine aA (PR x hx n) (by simp [Tb.a,Tb.c]) ?_
  cases hk:cU x n
  ·rw [hk] at hs
   simp only [Bool.false_eq_true,if_false] at hs
   simp [gF ((gR x n).length+1) (by omega) 8 (by decide)]
   (repeat' first|contradiction|exact .ok|apply And.intro|intro _|(apply gc<;>simp+contextual))
   refine ⟨n+1,by omega,?_,by simp; omega⟩
   exact aI _ [(1000000,1000000,_),(3,3,_),(4,4,_),(900,23,_)] ⟨by simp,by simp,by simp [aB,Blk.live,aQ,Tb.c,hs,aD],bK⟩ (by simp [aB,hw,hs])
  ·rw [hk] at hs
   simp only [if_true] at hs
   simp
   (repeat' first|contradiction|exact .ok|apply And.intro|intro _|(apply gc<;>simp+contextual))
   refine ⟨n+1,by omega,?_,by simp; omega⟩
   exact aI _ [(1000000,1000000,_),(3,3,_),(4,4,_),(900,900,_)] ⟨by simp,by simp,by simp [aB,Blk.live,aQ,Tb.c,hs,aD],bK⟩ (by simp [aB,hw,hs])
 have hne:n=x.cols.length:=by omega
 subst hne
 have hfl:=GQ x x.cols.length
 have hfm:∀ c∈gR x x.cols.length,0≤c∧c<x.cols.length∧cU x c=false:=fun c h=>GR h
 unfold lC
 simp only [amF]
 generalize gR x x.cols.length=Z at *
 have hnx:=bB L i (n:=Z.length) (by omega)
 have htx:=dH L i (by omega) Z.length (by omega) (by omega)
 have hzl:(aS L i Z.length).toNat<Z.length:=by omega
 obtain ⟨c,hc⟩:∃ c,c=Z[(aS L i Z.length).toNat]:=⟨_,rfl⟩
 have hgz:∀ h,Z[(aS L i Z.length).toNat]'h=c:=fun _=>hc.symm
 have hcm:=hfm c (by rw [hc]; exact List.getElem_mem hzl)
 rw [gE hzl,hgz]
 simp only [Option.getD_some]
 obtain ⟨h0,h1,_⟩:=hcm
 obtain ⟨cn,rfl⟩:∃ cn:Nat,c=cn:=⟨c.toNat,by omega⟩
 have hcl:cn<x.cols.length:=by omega
 obtain ⟨y,hy⟩:∃ y,y=x.cols[cn]:=⟨_,rfl⟩
 have hgy:∀ h,x.cols[cn]'h=y:=fun _=>hy.symm
 have hyt:=hty y (by rw [hy]; exact List.getElem_mem hcl)
 have htt:dO x cn=y.t:=by unfold dO; simp [hcl,hgy]
 rw [htt]
 have hnx0:=hnx.1
 have n6:=dH L (i+1) (by omega) 6 (by omega) (by omega)
 have n66:=dH L (i+2) (by omega) 6 (by omega) (by omega)
 have n62:=dH L (i+2) (by omega) 2 (by omega) (by omega)
 have n63:=dH L (i+3) (by omega) 2 (by omega) (by omega)
 have v1:=bB L (i+2) (n:=6) (by omega)
 have v2:=bB L (i+2) (n:=2) (by omega)
 have v3:=bB L (i+3) (n:=2) (by omega)
 have w1:=wI (n:=14+aS L (i+2) 6)
 have w2:=wI (n:=14+aS L (i+2) 2)
 have w3:=wI (n:=14+aS L (i+3) 2)
 simp [aQ,Tb.c]
 (repeat' first|contradiction|exact .ok|apply And.intro|intro _|(apply gc<;>simp+contextual))
 refine aH [1000000] htx (by simp [aQ]) (by simp) ?_
 simp [aQ,hnx0,hzl,hgz,hcl,hgy,Col.c]
 (repeat' first|contradiction|exact .ok|apply And.intro|intro _|(apply gc<;>simp+contextual))
 refine aH [1000000] n6 (by simp [aQ]) (by simp) ?_
 by_cases u0:aS L (i+1) 6=0
 ·simp [aQ,u0,At.a,At.c,nulV]
  (repeat' first|contradiction|exact .ok|apply And.intro|intro _|(apply gc<;>simp+contextual[u0]))
  all_goals (first | done | omega | (simp [u0]; done))
 rcases hyt with ht | ht | ht
 ·simp [aQ,u0,ht]
  (repeat' first|contradiction|exact .ok|apply And.intro|intro _|(apply gc<;>simp+contextual[u0,ht]))
  refine aH [1000000] n66 (by simp [aQ]; try omega) (by simp) ?_
  simp [aQ,w1]
  refine cV [1000000] (zW L (i+3) (by omega) 1 (by omega)) (by simp) (by simp) (by simp) (by simp [aQ]; try omega) (by simp) ?_
  simp [aQ,V.a,At.a,At.c]
  (repeat' first|contradiction|exact .ok|apply And.intro|intro _|(apply gc<;>simp+contextual))
  all_goals (simp [u0,ht] <;> omega)
 ·simp [aQ,u0,ht]
  (repeat' first|contradiction|exact .ok|apply And.intro|intro _|(apply gc<;>simp+contextual[u0,ht]))
  refine aH [1000000] n62 (by simp [aQ]; try omega) (by simp) ?_
  by_cases u1:aS L (i+2) 2=0
  ·simp [aQ,u1,At.a,At.c,nulV]
   (repeat' first|contradiction|exact .ok|apply And.intro|intro _|(apply gc<;>simp+contextual[u1]))
   all_goals (simp [u0,ht] <;> omega)
  ·simp [aQ,u1]
   (repeat' first|contradiction|exact .ok|apply And.intro|intro _|(apply gc<;>simp+contextual[u1]))
   refine aH [1000000] n63 (by simp [aQ]; try omega) (by simp) ?_
   simp [aQ,w3]
   refine cV [1000000] (zW L (i+4) (by omega) 2 (by omega)) (by simp) (by simp) (by simp) (by simp [aQ]; try omega) (by simp) ?_
   simp [aQ,V.a,At.a,At.c]
   (repeat' first|contradiction|exact .ok|apply And.intro|intro _|(apply gc<;>simp+contextual))
   all_goals (simp [u0,ht,u1] <;> omega)
 ·simp [aQ,u0,ht]
  (repeat' first|contradiction|exact .ok|apply And.intro|intro _|(apply gc<;>simp+contextual[u0,ht]))
  refine aH [1000000] n62 (by simp [aQ]; try omega) (by simp) ?_
  simp [aQ,w2]
  refine cV [1000000] (zW L (i+3) (by omega) 3 (by omega)) (by simp) (by simp) (by simp) (by simp [aQ]; try omega) (by simp) ?_
  simp [aQ,V.a,At.a,At.c]
  (repeat' first|contradiction|exact .ok|apply And.intro|intro _|(apply gc<;>simp+contextual))
  all_goals (simp [u0,ht] <;> omega)
def qC (c:UInt8) (k:Nat):List UInt8:=[c]++[UInt8.ofNat (48+k)]
theorem aEt (c:UInt8) (k:Nat) (z:Int) (hz:z=k) (hk:k<10):Cf En 38 [.d (.str [c]),.d (.int .i64 z)] [] (.d (.str (qC c k))) []:=by
 subst hz
 refine cI aW (fn:=Tryz.f38) rfl ?_
 have h:k=0∨k=1∨k=2∨k=3∨k=4∨k=5∨k=6∨k=7∨k=8∨k=9:=by omega
 unfold qC
 rcases h with rfl | rfl | rfl | rfl | rfl | rfl | rfl | rfl | rfl | rfl <;> (simp; (repeat' (first | contradiction | exact .of (by kernel_rfl) | refine And.intro ?_ ?_ | intro _ | (refine aK (fun h=>?_) (fun h=>?_) <;> (have h':=h; (try simp at h'); first | done | simp [h,h'] | simp))))) <;> (try rfl) <;> (try (simp; rfl)) <;> (try decide)
def SY {α:Type} (f:Nat→α):Nat→List α
 | 0=>[]
 | k+1=>SY f k++[f k]
theorem AA {α:Type} (f:Nat→α):∀ k,(SY f k).length=k
 | 0=>rfl
 | k+1=>by rw [SY,List.length_append,AA f k]; rfl
theorem VU {α:Type} (f:Nat→α):∀ (k j:Nat),(SY f k)[j]?=if j<k then some (f j) else none
 | 0,j=>by simp [SY]
 | k+1,j=>by
   rw [SY,List.getElem?_append,AA,VU f k j]
   by_cases h:j<k
   ·simp [h]; omega
   ·by_cases h2:j=k
    ·subst h2; simp
    ·rw [if_neg h,if_neg (by omega),List.getElem?_eq_none (by simp; omega)]
theorem sT {α:Type} {f:Nat→α} {k:Nat} {x:α} (h:x∈SY f k):∃ j,j<k∧x=f j:=by
 obtain ⟨j,hj⟩:=List.mem_iff_getElem?.1 h
 rw [VU] at hj
 split at hj
 ·rename_i hjk; cases hj; exact ⟨j,hjk,rfl⟩
 ·cases hj
def idC:Col:=⟨[105,100],1,false⟩
def FF (L:List Int) (a k:Nat):Col:=⟨qC 99 k,1+aS L (a+2*k) 3,aS L (a+2*k+1) 3==0⟩
def YV (k:Nat):Col:=⟨qC 102 k,1,false⟩
def jR (L:List Int) (a m z:Nat):List Col:=idC::(SY (FF L a) m++SY YV z)
def fkP (L:List Int) (b j n k:Nat):Fk:=⟨[((n+k:Nat):Int)],qC 116 (aS L (b+2*k+1) j).toNat⟩
def DK (L:List Int) (b j n z:Nat):List Fk:=SY (fkP L b j n) z
def eI (L:List Int) (a:Nat):Nat:=(1+aS L a 2).toNat
def DL (L:List Int) (b j:Nat):Nat:=if j=0 then 0 else if aS L b 3=0 then 0 else if aS L (b+2) 2=0 then 1 else 2
def FG (L:List Int) (b j:Nat):Nat:=if j=0 then b else if aS L b 3=0 then b+1 else if aS L (b+2) 2=0 then b+3 else b+4
def jB (L:List Int) (j a:Nat):Tb:=⟨qC 116 j,jR L (a+1) (eI L a) (DL L (a+1+2*eI L a) j),[0],[],DK L (a+1+2*eI L a) j (eI L a+1) (DL L (a+1+2*eI L a) j),[]⟩
def OI (L:List Int) (x:Tb) (e:Nat):Tb×Nat:=if aS L e 4=0 then (⟨x.n,x.cols,x.pr,x.un,x.fk,[(lC L x (e+1)).1.ex]⟩,(lC L x (e+1)).2) else (x,e+1)
def qD (L:List Int) (j a:Nat):Tb×Nat:=OI L (jB L j a) (FG L (a+1+2*eI L a) j)
def bS (L:List Int) (a:Nat):Nat→List Tb×Nat
 | 0=>([],a)
 | n+1=>((bS L a n).1++[(qD L n (bS L a n).2).1],(qD L n (bS L a n).2).2)
theorem dU (L:List Int) (a:Nat):∀ n,(bS L a n).1.length=n
 | 0=>rfl
 | n+1=>by simp [bS,dU L a n]
theorem rW (L:List Int) (a:Nat):1≤eI L a∧eI L a≤2∧((eI L a:Nat):Int)=1+aS L a 2:=by
 have:=bB L a (n:=2) (by omega)
 unfold eI; omega
theorem KE (L:List Int) (b j:Nat):DL L b j≤2:=by
 unfold DL
 repeat' split
 all_goals omega
theorem aBX (L:List Int) (b j:Nat):b≤FG L b j∧FG L b j≤b+4:=by
 unfold FG
 repeat' split
 all_goals omega
theorem aEv (L:List Int) (j a:Nat):(qD L j a).2≤a+15:=by
 have h1:=rW L a
 have h2:=aBX L (a+1+2*eI L a) j
 have h3:=JZ L (jB L j a) (FG L (a+1+2*eI L a) j+1)
 unfold qD OI
 split
 ·simp only; omega
 ·simp only; omega
theorem rX (L:List Int) (a:Nat):∀ n,(bS L a n).2≤a+15*n
 | 0=>by simp [bS]
 | n+1=>by
   have h1:=rX L a n
   have h2:=aEv L n (bS L a n).2
   simp only [bS]; omega
theorem kD (L:List Int) (a m z:Nat):(jR L a m z).length=m+1+z:=by simp [jR,AA]; omega
theorem wE (L:List Int) (b j n z:Nat):(DK L b j n z).length=z:=AA _ z
theorem SZ (L:List Int) (a m:Nat):jR L a (m+1) 0=jR L a m 0++[FF L a m]:=by simp [jR,SY]
theorem TA (L:List Int) (a m z:Nat):jR L a m (z+1)=jR L a m z++[YV z]:=by simp [jR,SY]
theorem YW (L:List Int) (b j n z:Nat):DK L b j n (z+1)=DK L b j n z++[fkP L b j n z]:=rfl
structure qE (x:Tb):Prop where
 ok:x.ok
 free:0<(gR x x.cols.length).length
 ty:∀ c∈x.cols,c.t=1∨c.t=2∨c.t=3
theorem kE (L:List Int) (j a:Nat):qE (jB L j a):=by
 have h1:=rW L a
 have h2:=KE L (a+1+2*eI L a) j
 unfold jB
 generalize eI L a=m at *
 generalize DL L (a+1+2*m) j=z at *
 refine ⟨⟨by simp only [kD]; omega,by simp,by simp,by simp only [wE]; omega,by simp,fun f hf=>?_⟩,?_,fun c hc=>?_⟩
 ·obtain ⟨k,_,rfl⟩:=sT hf
  simp [fkP]
 ·simp only [kD]
  have hm:(1:Int)∈gR ⟨qC 116 j,jR L (a+1) m z,[0],[],DK L (a+1+2*m) j (m+1) z,[]⟩ (m+1+z):=by
   unfold gR
   refine List.mem_map.2 ⟨1,List.mem_filter.2 ⟨List.mem_range.2 (by omega),?_⟩,rfl⟩
   have:cU ⟨qC 116 j,jR L (a+1) m z,[0],[],DK L (a+1+2*m) j (m+1) z,[]⟩ ((1:Nat):Int)=false:=by
    unfold cU
    rw [Bool.or_eq_false_iff]
    refine ⟨by simp,?_⟩
    rw [List.any_eq_false]
    intro f hf
    obtain ⟨k,_,rfl⟩:=sT hf
    simp [fkP]
    omega
   rw [this]; rfl
  exact List.length_pos_of_mem hm
 ·unfold jR at hc
  rcases List.mem_cons.1 hc with rfl | hc
  ·exact .inl rfl
  ·rcases List.mem_append.1 hc with hc | hc
   ·obtain ⟨k,_,rfl⟩:=sT hc
    have:=bB L (a+1+2*k) (n:=3) (by omega)
    simp only [FF]
    omega
   ·obtain ⟨k,_,rfl⟩:=sT hc
    exact .inl rfl
theorem TN (a b:List Ex) (hn:a.length≤9223372036854775807) (h:∀ x∈a,∀ y∈b,Cf En 134 [x.a,y.a] [] (.d (.bool (x.eq y))) []) :
  Cf En 178 [.d (.sl (a.map Ex.c)),.d (.sl (b.map Ex.c)),.clo 134 []] [] (.d (.bool (fM a b))) []:=by
 refine cI aW (fn:=Tryz.f178) rfl ?_
 by_cases hl:a.length=b.length
 ·have hl':(a.length:Int)=b.length:=by omega
  generalize hres:fM a b=res
  simp [hl]
  refine ⟨.of (by kernel_rfl),.of (by kernel_rfl),.of (by kernel_rfl),?_⟩
  refine aL aW (fun i:Nat=>{ s:=cE [(1,.d (.sl (b.map Ex.c))),(2,.clo 134 []),(15,.d (.sl (a.map Ex.c))),(16,.d (.int .i64 b.length)),(17,.d (.int .i64 i))],b:=cC [] }) (fun i:Nat=>i≤b.length∧fM (a.drop i) (b.drop i)=res) (fun i=>b.length - i) 0 (by simp [hres]) (aI _ [] .nil (by simp)) ?_
  rintro i ⟨hi,ho⟩
  by_cases hlt:i<b.length
  ·have hlt':(i:Int)<b.length:=by omega
   have hla:i<a.length:=by omega
   have hg:a[i]?=some a[i]:=gE hla
   have hg2:b[i]?=some b[i]:=gE hlt
   have hd:=DT hg hg2
   have c1:=Ex.clen a[i]
   have c2:=Ex.clen b[i]
   have k1:=Ex.ctake a[i]
   have k2:=Ex.ctake b[i]
   simp [hlt,hlt',hla,c1,c2,k1,k2]
   refine ⟨.of (by kernel_rfl),.of (by kernel_rfl),.of (by kernel_rfl),?_⟩
   refine aA (h a[i] (List.getElem_mem hla) b[i] (List.getElem_mem hlt)) (by simp [Ex.a]) ?_
   simp
   refine ⟨.of (by kernel_rfl),fun h=>⟨.of (by kernel_rfl),?_⟩,fun h=>⟨.of (by kernel_rfl),i+1,⟨hlt,?_⟩,?_,?_⟩⟩
   ·rw [← ho,hd,h]; rfl
   ·rw [← ho,hd,h]; rfl
   ·refine aI _ [] .nil ?_
    simp
    exact bL (by omega) (by omega)
   ·simp; omega
  ·have hlt':¬ (i:Int)<b.length:=by omega
   simp [hlt']
   refine ⟨.of (by kernel_rfl),.of (by kernel_rfl),?_⟩
   rw [← ho,HH (by omega) (by omega)]
 ·have hl':¬ (a.length:Int)=b.length:=by omega
  rw [xU a b hl]
  simp [hl']
  exact ⟨.of (by kernel_rfl),.of (by kernel_rfl),.of (by kernel_rfl)⟩
theorem DS:∀ (m:Nat) (x y:Ex),SizeOf.sizeOf x<m→x.fits→Cf En 134 [x.a,y.a] [] (.d (.bool (x.eq y))) []
 | 0,_,_,h,_=>absurd h (by omega)
 | m+1,.mk o c n t g ks,.mk o' c' n' t' g' ks',hm,hfit=>by
   refine cI aW (fn:=Tryz.f134) rfl ?_
   rw [Ex.fits] at hfit
   have hq:=TN ks ks' (by omega) fun x hx y _=>DS m x y (by
    have:=Ex.kid_lt (e:=.mk o c n t g ks) (k:=x) hx
    omega) (nJ ks hfit.2 x hx)
   have he:(Ex.mk o c n t g ks).eq (.mk o' c' n' t' g' ks')=(o==o'&&(c==c'&&(n==n'&&(t==t'&&(g==g'&&fM ks ks'))))):=by rw [Ex.eq]
   rw [he]
   by_cases h1:o=o'
   ·by_cases h2:c=c'
    ·by_cases h3:n=n'
     ·by_cases h4:t=t'
      ·by_cases h5:g=g'
       ·simp [Ex.a,Ex.c,aE,h1,h2,h3,h4,h5]
        refine ⟨.of (by kernel_rfl),aA hq (by simp) ?_⟩
        simp
        exact ⟨.of (by kernel_rfl),by simp [h1,h2,h3,h4,h5]⟩
       ·have h5':(g==g')=false:=by simp [h5]
        simp [Ex.a,Ex.c,aE,h1,h2,h3,h4,h5']
        exact ⟨.of (by kernel_rfl),.of (by kernel_rfl)⟩
      ·have h4':(t==t')=false:=by simp [h4]
       simp [Ex.a,Ex.c,aE,h1,h2,h3,h4']
       exact ⟨.of (by kernel_rfl),.of (by kernel_rfl)⟩
     ·have h3':(n==n')=false:=by simp [h3]
      simp [Ex.a,Ex.c,aE,h1,h2,h3']
      exact ⟨.of (by kernel_rfl),.of (by kernel_rfl)⟩
    ·have h2':(c==c')=false:=by simp [h2]
     simp [Ex.a,Ex.c,aE,h1,h2']
     exact ⟨.of (by kernel_rfl),.of (by kernel_rfl)⟩
   ·have h1':(o==o')=false:=by simp [h1]
    simp [Ex.a,Ex.c,aE,h1']
    exact ⟨.of (by kernel_rfl),.of (by kernel_rfl)⟩
theorem aFY (n:Nat):Cf En 84 [.d (.int .i64 n)] [] (.d (.bool false)) []:=by
 refine cI aW (fn:=Tryz.f84) rfl ?_
 simp
 all_goals exact gz
theorem aFZ (l:List Nat) (hl:l.length≤1000):Cf En 126 [.d (.sl (aD (aJ l))),.clo 84 []] [] (.d (.int .i64 (-1))) []:=by
 refine cI aW (fn:=Tryz.f126) rfl ?_
 have hll:=dC l
 simp [hll]
 (repeat' first|contradiction|exact .ok|apply And.intro|intro _|(apply gc<;>simp+contextual))
 refine aL aW (fun i:Nat=>{ s:=cE [(0,.d (.sl (aD (aJ l)))),(1,.clo 84 []),(7,.d (.int .i64 l.length)),(8,.d (.int .i64 i))],b:=cC [] }) (fun i=>i≤l.length) (fun i=>l.length - i) 0 (by simp) (aI _ [] .nil (by simp)) ?_
 intro i hi
 by_cases hlt:i<l.length
 ·have hgi:=fun h=>gC (l:=l) (i:=i) h
  have hli:i<(aJ l).length:=by omega
  have hw:=wI (n:=(i:Int)+1)
  have hc:=aFY l[i]
  simp [hlt,hgi,hll]
  (repeat' first|contradiction|exact .ok|apply And.intro|intro _|(apply gc<;>simp+contextual))
  refine aP hc ?_
  simp
  (repeat' first|contradiction|exact .ok|apply And.intro|intro _|(apply gc<;>simp+contextual))
  refine ⟨i+1,by omega,?_,by simp; omega⟩
  exact aI _ [] .nil (by simp [hw])
 obtain rfl:i=l.length:=by omega
 simp
 all_goals exact gz
theorem aGa (l:List Nat) (hl:l.length≤1000):Cf En 83 [.d (.sl (aD (aJ l))),.clo 84 []] [] (.d (.bool false)) []:=by
 refine cI aW (fn:=Tryz.f83) rfl ?_
 have hc:=aFZ l hl
 simp
 (repeat' first|contradiction|exact .ok|apply And.intro|intro _|(apply gc<;>simp+contextual))
 refine aP hc ?_
 simp
 all_goals exact gz
theorem GP (l:List Nat) (a c:Nat):dJ a (l++[c])=dJ a l++[a+bD l+c]:=by
 induction l generalizing a with
 | nil=>simp [dJ,bD]
 | cons d l ih =>
   rw [List.cons_append,dJ,dJ,ih,bD,List.cons_append]
   congr 3
   omega
theorem sQ (l:List Nat) (hl:l.length≤1000) (hs:bD l≤1000000000):Cf En 46 [.d (.sl (aD (aJ l)))] [] (.tup [.d (.sl (aD (aJ (dJ 0 l)))),.d (.int .i64 0)]) []:=by
 refine cI aW (fn:=Tryz.f46) rfl ?_
 have hll:=dC l
 have hc:=aGa l hl
 simp
 (repeat' first|contradiction|exact .ok|apply And.intro|intro _|(apply gc<;>simp+contextual))
 refine aP hc ?_
 simp [hll]
 (repeat' first|contradiction|exact .ok|apply And.intro|intro _|(apply gc<;>simp+contextual))
 refine aL aW (fun i:Nat=>{ s:=cE [(4,.ref 900 0 (i+1) 1),(5,.d (.int .i64 (bD (l.take i)))),(11,.d (.sl (aD (aJ l)))),(12,.d (.int .i64 l.length)),(13,.d (.int .i64 i))],b:=cC [(900,900,.arr 3 1 (aD (aJ (dJ 0 (l.take i)))) false)] }) (fun i=>i≤l.length) (fun i=>l.length - i) 0 (by simp)
  (sM _ [(900,10,_)] (by simp [aB,Blk.live,dJ,aJ,aD]) (by simp [aB,bD])) ?_
 intro i hi
 have hol:(aJ (dJ 0 (l.take i))).length=i+1:=by rw [dC,iK,List.length_take]; omega
 by_cases hlt:i<l.length
 ·have hli:i<(aJ l).length:=by omega
  have hw:=wI (n:=(i:Int)+1)
  have hst:=lV hlt
  have hsl:=wM l (i+1)
  have hon:aJ (dJ 0 (l.take (i+1)))=aJ (dJ 0 (l.take i))++[((bD (l.take i)+l[i]:Nat):Int)]:=by
   rw [bI hlt,GP,Nat.zero_add]
   unfold aJ
   rw [List.map_append]
   rfl
  generalize aJ (dJ 0 (l.take i))=O at *
  obtain ⟨c,hc0⟩:∃ c,c=l[i]:=⟨_,rfl⟩
  rw [← hc0] at hst hon
  have hgi:∀ h,(aJ l)[i]'h=(c:Int):=fun _=>by rw [gC hlt,hc0]
  generalize bD (l.take i)=a at *
  have hw1:=wI (n:=1000000000 - (a:Int))
  have hw2:=wI (n:=(a:Int)+c)
  have hbig:¬ (1000000000:Int) - a<c:=by omega
  have htk:(aD O).take (i+1)=aD O:=List.take_of_length_le (by simp [aD,hol])
  simp [hlt,hgi,hll,hw1,hw2,hbig,hol,htk,gF (i+1+1) (by omega) 8 (by decide)]
  (repeat' first|contradiction|exact .ok|apply And.intro|intro _|(apply gc<;>simp+contextual[hbig]))
  refine ⟨i+1,by omega,?_,by simp; omega⟩
  exact sM _ [(900,27,_)] (by simp [aB,Blk.live,hon,aD]) (by simp [aB,hw,hst])
 obtain rfl:i=l.length:=by omega
 rw [List.take_length] at *
 have htk:(aD (aJ (dJ 0 l))).take (l.length+1)=aD (aJ (dJ 0 l)):=List.take_of_length_le (by simp [aD,hol])
 simp [hol,htk]
 all_goals exact gz
theorem aHI (a:Int):Cf En 220 [.d (.int .i64 a)] [] (.d (.bool false)) []:=by
 refine cI aW (fn:=Tryz.f220) rfl ?_
 simp
 all_goals exact gz
theorem aHJ (a:Int):Cf En 174 [.d (.int .i64 a)] [] (.d (.bool false)) []:=by
 refine cI aW (fn:=Tryz.f174) rfl ?_
 simp
 all_goals exact gz
theorem aGb (a b:Int):Cf En 173 [.d (.int .i64 a),.d (.int .i64 b)] [] (.d (.bool (decide (a<b)))) []:=by
 refine cI aW (fn:=Tryz.f173) rfl ?_
 simp
 (repeat' first|contradiction|exact .ok|apply And.intro|intro _|(apply gc<;>simp+contextual))
 refine aP (aHI a) ?_
 simp
 all_goals exact gz
theorem aBi {n:Int} (h0:0≤n) (h1:n<9223372036854775808):IntKind.u64.wrap n=n:=by
 unfold IntKind.wrap
 simp [IntKind.bits,IntKind.signed]
 omega
theorem aBj (l:List Int) (hl:l.length≤1000) (t:Int) (K:Nat) (hK:K≤l.length) (h1:∀ q (h:q<l.length),q<K→l[q]<t) (h2:∀ q (h:q<l.length),K≤q→t≤l[q]) :
  Cf En 127 [.d (.sl (aD l)),.d (.int .i64 t)] [] (.tup [.d (.int .i64 K),.d (.bool (match l[K]? with | some z=>z==t | none=>false))]) []:=by
 refine cI aW (fn:=Tryz.f127) rfl ?_
 simp
 (repeat' first|contradiction|exact .ok|apply And.intro|intro _|(apply gc<;>simp+contextual))
 refine aL aW (fun y:Nat×Nat=>{ s:=cE [(0,.d (.sl (aD l))),(1,.d (.int .i64 t)),(6,.d (.int .i64 l.length)),(7,.d (.int .i64 y.1)),(8,.d (.int .i64 y.2))],b:=cC [] }) (fun y=>y.1≤K∧K≤y.2∧y.2≤l.length) (fun y=>y.2 - y.1) (0,l.length) ⟨by simp,by simpa using hK,by simp⟩ (aI _ [] .nil (by simp)) ?_
 rintro ⟨i,j⟩ ⟨hi,hj,hjl⟩
 simp only at hi hj hjl
 by_cases hij:i<j
 ·have hiji:(i:Int)<j:=by omega
  obtain ⟨m,hm⟩:∃ m,m=(i+j) / 2:=⟨_,rfl⟩
  have hml:m<l.length:=by omega
  obtain ⟨z,hz⟩:∃ z,z=l[m]:=⟨_,rfl⟩
  have hgz:∀ h,l[m]'h=z:=fun _=>hz.symm
  have hw1:=wI (n:=(i:Int)+j)
  have hw2:=wI (n:=(m:Int))
  have hwu:IntKind.u64.wrap ((i:Int)+j)=(i:Int)+j:=aBi (by omega) (by omega)
  have hfd:((i:Int)+j).fdiv 2=(m:Int):=by
   rw [Int.fdiv_eq_ediv_of_nonneg _ (by omega)]
   omega
  have hbt:IntKind.u64.bits=64:=rfl
  have hw3:=wI (n:=(m:Int)+1)
  have hc:=aGb z t
  by_cases hzt:z<t
  ·have hmK:m<K:=by
    rcases Nat.lt_or_ge m K with h | h
    ·exact h
    ·have:=h2 m hml h
     rw [← hz] at this; omega
   simp [hiji,hw1,hw2,hwu,hfd,hbt,hml,hgz]
   (repeat' first|contradiction|exact .ok|apply And.intro|intro _|(apply gc<;>simp+contextual[hiji]))
   refine aP hc ?_
   simp [hzt,hw3]
   (repeat' first|contradiction|exact .ok|apply And.intro|intro _|(apply gc<;>simp+contextual[hzt]))
   refine ⟨(m+1,j),⟨by simp only; omega,by simp only; omega,by simp only; omega⟩,?_,by simp; omega⟩
   exact aI _ [] .nil (by simp)
  ·have hKm:K≤m:=by
    rcases Nat.lt_or_ge m K with h | h
    ·have:=h1 m hml h
     rw [← hz] at this; omega
    ·exact h
   simp [hiji,hw1,hw2,hwu,hfd,hbt,hml,hgz]
   (repeat' first|contradiction|exact .ok|apply And.intro|intro _|(apply gc<;>simp+contextual[hiji]))
   refine aP hc ?_
   simp [hzt]
   (repeat' first|contradiction|exact .ok|apply And.intro|intro _|(apply gc<;>simp+contextual[hzt]))
   refine ⟨(i,m),⟨by simp only; omega,by simp only; omega,by simp only; omega⟩,?_,by simp; omega⟩
   exact aI _ [] .nil (by simp)
 have hie:K=i:=by omega
 have hje:K=j:=by omega
 subst hie hje
 by_cases hKl:K<l.length
 ·have hKli:(K:Int)<l.length:=by omega
  obtain ⟨z,hz⟩:∃ z,z=l[K]:=⟨_,rfl⟩
  have hgz:∀ h,l[K]'h=z:=fun _=>hz.symm
  rw [gE hKl,← hz]
  by_cases hzt:z=t
  ·simp [hKl,hgz,hzt]
   (repeat' first|contradiction|exact .ok|apply And.intro|intro _|(apply gc<;>simp+contextual[hKl,hgz,hzt]))
  ·simp [hKl,hgz,hzt]
   (repeat' first|contradiction|exact .ok|apply And.intro|intro _|(apply gc<;>simp+contextual[hKl,hgz,hzt]))
   refine aP (aHJ z) ?_
   simp
   all_goals exact gz
 ·rw [List.getElem?_eq_none (by omega)]
  simp [hKl]
  (repeat' first|contradiction|exact .ok|apply And.intro|intro _|(apply gc<;>simp+contextual[hKl]))
theorem aGc (l:List Nat) (hl:l.length≤900) (hs:bD l≤1000000000) (n:Nat) (hn:n<bD l):Cf En 86 [.d (.sl (aD (aJ l))),.d (.int .i64 n)] [] (.tup [.d (.int .i64 (eP l n).1),.d (.int .i64 (eP l n).2),.d (.bool true)]) []:=by
 refine cI aW (fn:=Tryz.f86) rfl ?_
 have ho:=sQ l (by omega) hs
 obtain ⟨k1,k2,k3⟩:=lU hn
 have hol:(aJ (dJ 0 l)).length=l.length+1:=by rw [dC,iK]
 have hat:∀ (j:Nat) (h:j<(aJ (dJ 0 l)).length),(aJ (dJ 0 l))[j]=(bD (l.take j):Int):=fun j h=>by
  have hj:j<(dJ 0 l).length:=by rw [dC] at h; exact h
  rw [gC hj]
  have:=AH (l:=l) (j:=j) (by rw [iK] at hj; omega)
  rw [gE hj,Option.some.injEq] at this
  rw [this]
 have hst:=lV k1
 have hsm:=aBj (aJ (dJ 0 l)) (by omega) ((n:Int)+1) ((eP l n).1+1) (by omega)
  (fun q h hq=>by
   rw [hat q h]
   have:=xX l (i:=q) (j:=(eP l n).1) (by omega)
   omega)
  (fun q h hq=>by
   rw [hat q h]
   have:=xX l (i:=(eP l n).1+1) (j:=q) hq
   omega)
 have hgl:∀ h,(aJ (dJ 0 l))[l.length]'h=(bD l:Int):=fun h=>by rw [hat _ h,List.take_length]
 have hgk:∀ h,(aJ (dJ 0 l))[(eP l n).1]'h=(bD (l.take (eP l n).1):Int):=fun h=>hat _ h
 have hkl:(eP l n).1<l.length:=k1
 clear hst k2 hat
 clear k1
 generalize aJ (dJ 0 l)=O at *
 generalize (match O[(eP l n).1+1]? with | some z=>z==(n:Int)+1 | none=>false)=Q at *
 generalize (eP l n).1=k at *
 generalize (eP l n).2=j at *
 generalize bD (l.take k)=a at *
 have hw1:=wI (n:=(l.length:Int))
 have hw2:=wI (n:=(n:Int)+1)
 have hw3:=wI (n:=(k:Int))
 have hw4:=wI (n:=(j:Int))
 have hnj:(n:Int) - a=j:=by omega
 have hnn:¬ (n:Int)<0:=by omega
 have hns:¬ (bD l:Int)≤n:=by omega
 have hll:l.length<O.length:=by omega
 have hkk:k<O.length:=by omega
 have e1:(l.length:Int)+1 - 1=l.length:=by omega
 have e2:(k:Int)+1 - 1=k:=by omega
 simp
 (repeat' first|contradiction|exact .ok|apply And.intro|intro _|(apply gc<;>simp+contextual))
 refine aP ho ?_
 have hns2:¬ bD l≤n:=by omega
 simp [hol,e1,hw1,hgl,hns,hnn]
 (repeat' first|contradiction|exact .ok|apply And.intro|intro _|(apply gc<;>simp+contextual[hol,e1,hw1,hll,hgl,hns,hns2,hnn]))
 refine aA hsm (by simp [hw2]) ?_
 simp [e2,hw3,hkk,hgk,hnj,hw4]
 all_goals exact gz
theorem aBk (l:List Nat) (hl:l.length≤900) (hs:bD l≤1000000000) (b j:Nat) (hb:b<l.length) (h0:0<l[b]) (hj:j≤1000000000):Cf En 88 [.d (.sl (aD (aJ l))),.d (.int .i64 b),.d (.int .i64 j)] [] (.tup [.d (.int .i64 (sB l b j)),.d (.bool true)]) []:=by
 refine cI aW (fn:=Tryz.f88) rfl ?_
 have ho:=sQ l (by omega) hs
 have hol:(aJ (dJ 0 l)).length=l.length+1:=by rw [dC,iK]
 have hat:∀ h,(aJ (dJ 0 l))[b]'h=(bD (l.take b):Int):=fun h=>by
  have hj:b<(dJ 0 l).length:=by rw [dC] at h; exact h
  rw [gC hj]
  have:=AH (l:=l) (j:=b) (by omega)
  rw [gE hj,Option.some.injEq] at this
  rw [this]
 have hll:=dC l
 have hst:=lV hb
 have hsl:=wM l (b+1)
 have htg:sB l b j=bD (l.take b)+j % l[b]:=by unfold sB; rw [gE hb]; rfl
 obtain ⟨c,hc⟩:∃ c,c=l[b]:=⟨_,rfl⟩
 have hgb:∀ h,(aJ l)[b]'h=(c:Int):=fun _=>by rw [gC hb,hc]
 rw [← hc] at h0 hst htg
 rw [htg]
 have hmd:=Nat.mod_lt j h0
 have htm:(j:Int).tmod c=((j % c:Nat):Int):=by
  rw [Int.tmod_eq_emod_of_nonneg (by omega)]; rfl
 have hbO:b<(aJ (dJ 0 l)).length:=by omega
 have hbl:b<(aJ l).length:=by omega
 generalize aJ (dJ 0 l)=O at *
 generalize aJ l=M at *
 generalize bD (l.take b)=a at *
 generalize j % c=r at *
 have hw1:=wI (n:=(a:Int)+r)
 have hbn:¬ (b:Int)<0:=by omega
 have hbg:¬ (l.length:Int)≤b:=by omega
 have hcn:¬ (c:Int)=0:=by omega
 have hcn2:¬ c=0:=by omega
 have hjn:¬ (j:Int)<0:=by omega
 simp
 (repeat' first|contradiction|exact .ok|apply And.intro|intro _|(apply gc<;>simp+contextual))
 refine aP ho ?_
 have hbm:¬ M.length≤b:=by omega
 simp [hbm,hbl,hgb,hcn2,hbO,hat,htm,hw1,hbn,hjn]
 (repeat' first|contradiction|exact .ok|apply And.intro|intro _|(apply gc<;>simp+contextual[hbm,hbl,hgb,hcn,hcn2,hbO,hat,htm,hw1,hbn,hjn]))
end Go.Proofs.Tryz
