import Derived.Test.YtkkbepgccddjoaaGreatDoorAClo
import Derived.Test.YtkkbepgccddjoaaGreatDoorANamp
import Derived.Test.YtkkbepgccddjoaaGreatDoorRev
import Derived.Test.YtkkbepgccddjoaaGreatDoorATgt
import Derived.Test.YtkkbepgccddjoaaGreatDoorTap
set_option linter.all false
namespace Go.Proofs.Tryz
open Go.Ab
set_option maxRecDepth 100000
set_option maxHeartbeats 1000000
@[simp] theorem At.clen (x:At):x.c.length=5:=rfl
def At.cmp (a b:At):Int:=if a.col<b.col then -1 else if b.col<a.col then 1 else if a.op<b.op then -1 else if b.op<a.op then 1 else a.v.cmp b.v
theorem r13_expr (x:At):Cf En 39 [x.a] [] x.ex.a []:=by
 refine cf_intro mix (fn:=Tryz.f39) (by kernel_rfl) rfl (by kernel_rfl) (by decide) (by simp) ?_
 by_cases h5:x.op=5
 ·simp [At.a,At.c,h5,At.ex,colX,Ex.a,Ex.c,kidsC]
  (repeat' (first|contradiction|exact .ok|apply And.intro|intro _|(refine gc (fun h=>?_) (fun h=>?_)<;>(have h':=h;(try simp at h');first|done|simp[h,h',h5]|simp[h5]))))
 by_cases h21:x.op=21
 ·simp [At.a,At.c,h21,At.ex,colX,Ex.a,Ex.c,kidsC]
  (repeat' (first|contradiction|exact .ok|apply And.intro|intro _|(refine gc (fun h=>?_) (fun h=>?_)<;>(have h':=h;(try simp at h');first|done|simp[h,h',h21]|simp[h21]))))
 simp [At.a,At.c,h5,h21]
 (repeat' (first|contradiction|exact .ok|apply And.intro|intro _|(refine gc (fun h=>?_) (fun h=>?_)<;>(have h':=h;(try simp at h');first|done|simp[h,h',h5,h21]|simp[h5,h21]))))
 refine acallT_plain (r_const x.v 0) (by simp [V.a]) ?_
 simp [At.ex,colX,Ex.a,Ex.c,kidsC,h5,h21,Ex.clen,Ex.ctake']
 (repeat' (first|contradiction|exact .ok|apply And.intro|intro _|(refine gc (fun h=>?_) (fun h=>?_)<;>(have h':=h;(try simp at h');first|done|simp[h,h',h5,h21]|simp[h5,h21]))))
 all_goals exact List.take_of_length_le (by simp [Ex.clen])
theorem few_ex {x:At} (h:x.v.t.length≤200) (q:Nat) (hq:q≤50):x.ex.few q=true:=by
 have e:∀ c,(colX c).few (q+1)=true:=fun c=>by
  rw [colX,Ex.few,fewAll,if_neg (by omega),if_neg (by simp),if_neg (by simp)]
 have e0:∀ c,(colX c).few q=true:=fun c=>by
  rw [colX,Ex.few,fewAll,if_neg (by omega),if_neg (by simp),if_neg (by simp)]
 have k:(constOf x.v 0).few (q+1)=true:=by
  unfold constOf
  repeat' split
  all_goals (rw [Ex.few,fewAll,if_neg (by omega),if_neg (by simp),if_neg (by simp <;> omega)])
 unfold At.ex
 repeat' split
 ·exact e0 _
 ·rw [Ex.few,if_neg (by omega),if_neg (by simp),if_neg (by simp)]
  simp [fewAll,e]
 ·rw [Ex.few,if_neg (by omega),if_neg (by simp),if_neg (by simp)]
  simp [fewAll,e,k]
end Go.Proofs.Tryz
namespace Go.Proofs.Tryz
open Go.Ab
set_option maxRecDepth 100000
set_option maxHeartbeats 1000000
@[simp] theorem all_atc (l:List At):((l.map At.c).all fun x=>x.length==5)=true:=by simp [At.clen]
@[simp] theorem at_take (l:List At) (n:Nat):(∀ x,x∈List.take n (l.map At.c)→x.length=5)=True:=eq_true fun x hx=>by
  obtain ⟨a,_,rfl⟩:=List.mem_map.1 (List.mem_of_mem_take hx)
  rfl
@[simp] theorem at_drop (l:List At) (n:Nat):(∀ x,x∈List.drop n (l.map At.c)→x.length=5)=True:=eq_true fun x hx=>by
  obtain ⟨a,_,rfl⟩:=List.mem_map.1 (List.mem_of_mem_drop hx)
  rfl
@[simp] theorem at_all (l:List At):(∀ x,x∈l.map At.c→x.length=5)=True:=eq_true fun x hx=>by
  obtain ⟨a,_,rfl⟩:=List.mem_map.1 hx
  rfl
end Go.Proofs.Tryz
namespace Go.Proofs.Tryz
open Go.Ab
set_option maxRecDepth 100000
set_option maxHeartbeats 2000000
@[simp] theorem v_clen (v:V):v.c.length=3:=rfl
@[simp] theorem v_take (l:List V) (n:Nat):(∀ x,x∈List.take n (l.map V.c)→x.length=3)=True:=eq_true fun x hx=>by
  obtain ⟨a,_,rfl⟩:=List.mem_map.1 (List.mem_of_mem_take hx)
  rfl
@[simp] theorem v_drop (l:List V) (n:Nat):(∀ x,x∈List.drop n (l.map V.c)→x.length=3)=True:=eq_true fun x hx=>by
  obtain ⟨a,_,rfl⟩:=List.mem_map.1 (List.mem_of_mem_drop hx)
  rfl
end Go.Proofs.Tryz
namespace Go.Proofs.Tryz
open Go.Ab
set_option maxRecDepth 100000
set_option maxHeartbeats 2000000
theorem t_next1 (L:List Int) (i:Nat) (hi:i≤1000000000) (n:Int) (h1:1≤n) (hn:n≤1000000) :
  Cf En 14 [.ptr 1000000 0 0,.d (.int .i64 n)] [tapB L i] (.d (.int .i64 (nextV L i n))) [tapB L (i+1)]:=by
 have h:=t_next L i hi n hn
 rwa [show nextI i n=i+1 from by simp [nextI]; omega] at h
def smallV (L:List Int) (i:Nat) (k:Int):V:=((valuesOf k)[(1+nextV L i (min (valuesOf k).length 4 - 1:Nat)).toNat]?).getD nulV
theorem t_small (L:List Int) (i:Nat) (hi:i≤1000000) (k:Int) (hk:k=1∨k=2∨k=3) :
  Cf En 42 [.ptr 1000000 0 0,.d (.int .i64 k),.d (.bool false)] [tapB L i] (smallV L i k).a [tapB L (i+1)]:=by
 have hl:(valuesOf k).length=13∨(valuesOf k).length=3∨(valuesOf k).length=8:=by
  rcases hk with rfl | rfl | rfl <;> decide
 obtain ⟨m,hm⟩:∃ m:Nat,m=min (valuesOf k).length 4:=⟨_,rfl⟩
 have hm4:3≤m∧m≤4∧m≤(valuesOf k).length:=by omega
 have hmin:(if (4:Int)<((valuesOf k).length:Int) then (4:Int) else ((valuesOf k).length:Int))=m:=by split <;> omega
 have e0:smallV L i k=((valuesOf k)[(1+nextV L i (m - 1:Nat)).toNat]?).getD nulV:=by unfold smallV; rw [hm]
 have hn:=nextV_in L i (n:=((m - 1:Nat):Int)) (by omega)
 have hlt:(1+nextV L i (m - 1:Nat)).toNat<(valuesOf k).length:=by omega
 have hg:(valuesOf k)[(1+nextV L i (m - 1:Nat)).toNat]?=some (valuesOf k)[(1+nextV L i (m - 1:Nat)).toNat]:=List.getElem?_eq_getElem hlt
 have ht:=t_next1 L i (by omega) (m - 1:Nat) (by omega) (by omega)
 have hc:((m - 1:Nat):Int)=(m:Int) - 1:=by omega
 have hw1:=wrap_in (n:=(m:Int) - 1) (by omega) (by omega)
 rw [hc] at ht hn
 have e1:smallV L i k=(valuesOf k)[(1+nextV L i (m - 1:Nat)).toNat]:=by rw [e0,hg]; rfl
 simp only [hc] at e1 hlt
 have hw2:=wrap_in (n:=1+nextV L i ((m:Int) - 1)) (by omega) (by omega)
 have h0:0≤1+nextV L i ((m:Int) - 1):=by omega
 rw [e1]
 refine cf_intro mix (fn:=Tryz.f42) (by kernel_rfl) rfl (by kernel_rfl) (by decide) (by simp) ?_
 simp [tapB]
 (repeat' (first|contradiction|exact .ok|apply And.intro|intro _|(refine gc (fun h=>?_) (fun h=>?_)<;>(have h':=h;(try simp at h');first|done|simp[h,h']|simp))))
 refine acallT_plain (t_values k) (by simp [V.a]) ?_
 simp [hmin]
 (repeat' (first|contradiction|exact .ok|apply And.intro|intro _|(refine gc (fun h=>?_) (fun h=>?_)<;>(have h':=h;(try simp at h');first|done|simp[h,h']|simp))))
 simp [hmin,hw1]
 refine acallT_hand [1000000] ht (by simp) (by simp) (by simp) (by simp [tapB]) (by simp) ?_
 simp [tapB,hw2,h0,hlt,V.c]
 (repeat' (first|contradiction|exact .ok|apply And.intro|intro _|(refine gc (fun h=>?_) (fun h=>?_)<;>(have h':=h;(try simp at h');first|done|simp[h,h']|simp))))
 all_goals simp [V.a]
theorem small_in (L:List Int) (i:Nat) (k:Int) (hk:k=1∨k=2∨k=3):(smallV L i k).k=k∧(smallV L i k).valid=true∧(smallV L i k).t.length≤1∧(smallV L i k).t ≠ [48]∧0≤(smallV L i k).n∧(smallV L i k).n≤2:=by
 rcases hk with rfl | rfl | rfl
 ·have hn:=nextV_in L i (n:=(min (valuesOf 1).length 4 - 1:Nat)) (by decide)
  unfold smallV
  generalize nextV L i (min (valuesOf 1).length 4 - 1:Nat)=z at *
  have h3:((min (valuesOf 1).length 4 - 1:Nat):Int)=3:=by decide
  rw [h3] at hn
  rcases (by omega:z=0∨z=1∨z=2) with rfl | rfl | rfl <;> decide
 ·have hn:=nextV_in L i (n:=(min (valuesOf 2).length 4 - 1:Nat)) (by decide)
  unfold smallV
  generalize nextV L i (min (valuesOf 2).length 4 - 1:Nat)=z at *
  have h3:((min (valuesOf 2).length 4 - 1:Nat):Int)=2:=by decide
  rw [h3] at hn
  rcases (by omega:z=0∨z=1) with rfl | rfl <;> decide
 ·have hn:=nextV_in L i (n:=(min (valuesOf 3).length 4 - 1:Nat)) (by decide)
  unfold smallV
  generalize nextV L i (min (valuesOf 3).length 4 - 1:Nat)=z at *
  have h3:((min (valuesOf 3).length 4 - 1:Nat):Int)=3:=by decide
  rw [h3] at hn
  rcases (by omega:z=0∨z=1∨z=2) with rfl | rfl | rfl <;> decide
def freeL (x:Tb) (n:Nat):List Int:=((List.range n).filter fun c:Nat=>!keyT x c).map fun c:Nat=>(c:Int)
theorem freeL_succ (x:Tb) (n:Nat):freeL x (n+1)=if keyT x n=true then freeL x n else freeL x n++[(n:Int)]:=by
 unfold freeL
 rw [List.range_succ,List.filter_append,List.map_append]
 by_cases h:keyT x n=true <;> simp [h]
theorem freeL_len (x:Tb) (n:Nat):(freeL x n).length≤n:=by
 unfold freeL
 rw [List.length_map]
 exact Nat.le_trans (List.length_filter_le _ _) (Nat.le_of_eq List.length_range)
theorem freeL_mem {x:Tb} {n:Nat} {c:Int} (h:c∈freeL x n):0≤c∧c<n∧keyT x c=false:=by
 unfold freeL at h
 obtain ⟨k,hk,rfl⟩:=List.mem_map.1 h
 obtain ⟨h1,h2⟩:=List.mem_filter.1 hk
 exact ⟨by omega,by have:=List.mem_range.1 h1; omega,by simpa using h2⟩
def atomG (L:List Int) (x:Tb) (i:Nat):At×Nat :=
 let c:=((freeL x x.cols.length)[(nextV L i (freeL x x.cols.length).length).toNat]?).getD 0
 if nextV L (i+1) 6=0 then (⟨c,21,nulV⟩,i+2)
 else if typT x c=1 then (⟨c,14+nextV L (i+2) 6,smallV L (i+3) 1⟩,i+4)
 else if typT x c=2 then (if nextV L (i+2) 2=0 then (⟨c,5,nulV⟩,i+3) else (⟨c,14+nextV L (i+3) 2,smallV L (i+4) 2⟩,i+5))
 else (⟨c,14+nextV L (i+2) 2,smallV L (i+3) 3⟩,i+4)
theorem atom_le (L:List Int) (x:Tb) (i:Nat):(atomG L x i).2≤i+5:=by
 simp only [atomG]
 repeat' split
 all_goals simp
def amF (L:List Int) (i:Nat) (x:Tb) (n:Nat):St :=
 { s:=mkS [(0,.ptr 1000000 0 0),(3,.ptr 3 0 0),(4,.ptr 4 0 0),(5,.ref 900 0 (freeL x n).length 1),(6,.d (.int .i64 n))],b:=mkB [(1000000,1000000,tapB L i),(3,3,.var (x.c.map AV.d)),(4,4,.var [.d (.int .i64 0),.d (.int .i64 0),.d (.int .i64 0),.d (.int .i64 0),.d (.str [])]),(900,900,.arr 3 1 (ints (freeL x n)) false)] }
theorem t_atom (L:List Int) (i:Nat) (hi:i≤900000) (x:Tb) (hx:x.ok) (hf:0<(freeL x x.cols.length).length) (hty:∀ c∈x.cols,c.t=1∨c.t=2∨c.t=3) :
  Cf En 40 [.ptr 1000000 0 0,x.a] [tapB L i] (atomG L x i).1.a [tapB L (atomG L x i).2]:=by
 have l1:=hx.cols
 refine cf_intro mix (fn:=Tryz.f40) (by kernel_rfl) rfl (by kernel_rfl) (by decide) (by simp) ?_
 simp [tapB,Tb.a,Tb.c]
 (repeat' (first|contradiction|exact .ok|apply And.intro|intro _|(refine gc (fun h=>?_) (fun h=>?_)<;>(have h':=h;(try simp at h');first|done|simp[h,h']|simp))))
 refine aloopT mix (by decide) (amF L i x) (fun n=>n≤x.cols.length) (fun n=>x.cols.length - n) 0 (by simp)
  (sub_mkn 5 900 3 1 (by simp) (by simp) (by decide) (by decide) _ [(1000000,1000000,_),(3,3,_),(4,4,_),(900,900,_)] ⟨by simp,by simp,by simp [renOf,Blk.live,tapB,Tb.c,freeL,ints],base1⟩ (by simp [renOf,freeL])) ?_
 intro n hn
 by_cases hlt:n<x.cols.length
 ·have hs:=freeL_succ x n
  have hfl:=freeL_len x n
  have hw:=wrap_in (n:=(n:Int)+1) (by omega) (by omega)
  simp [amF,tapB,Tb.c,hlt]
  (repeat' (first|contradiction|exact .ok|apply And.intro|intro _|(refine gc (fun h=>?_) (fun h=>?_)<;>(have h':=h;(try simp at h');first|done|simp[h,h']|simp))))
  refine acallT_plain (r_key x hx n) (by simp [Tb.a,Tb.c]) ?_
  cases hk:keyT x n
  ·rw [hk] at hs
   simp only [Bool.false_eq_true,if_false] at hs
   simp [szs (freeL x n).length (by omega) 8 (by decide),szs ((freeL x n).length+1) (by omega) 8 (by decide)]
   (repeat' (first|contradiction|exact .ok|apply And.intro|intro _|(refine gc (fun h=>?_) (fun h=>?_)<;>(have h':=h;(try simp at h');first|done|simp[h,h']|simp))))
   refine ⟨n+1,by omega,?_,by simp; omega⟩
   exact sub_mk _ [(1000000,1000000,_),(3,3,_),(4,4,_),(900,23,_)] ⟨by simp,by simp,by simp [renOf,Blk.live,tapB,Tb.c,hs,ints],base1⟩ (by simp [renOf,hw,hs])
  ·rw [hk] at hs
   simp only [if_true] at hs
   simp
   (repeat' (first|contradiction|exact .ok|apply And.intro|intro _|(refine gc (fun h=>?_) (fun h=>?_)<;>(have h':=h;(try simp at h');first|done|simp[h,h']|simp))))
   refine ⟨n+1,by omega,?_,by simp; omega⟩
   exact sub_mk _ [(1000000,1000000,_),(3,3,_),(4,4,_),(900,900,_)] ⟨by simp,by simp,by simp [renOf,Blk.live,tapB,Tb.c,hs,ints],base1⟩ (by simp [renOf,hw,hs])
 have hne:n=x.cols.length:=by omega
 subst hne
 have hfl:=freeL_len x x.cols.length
 have hfm:∀ c∈freeL x x.cols.length,0≤c∧c<x.cols.length∧keyT x c=false:=fun c h=>freeL_mem h
 unfold atomG
 simp only [amF]
 generalize freeL x x.cols.length=Z at *
 have hnx:=nextV_in L i (n:=Z.length) (by omega)
 have htx:=t_next1 L i (by omega) Z.length (by omega) (by omega)
 have hzl:(nextV L i Z.length).toNat<Z.length:=by omega
 obtain ⟨c,hc⟩:∃ c,c=Z[(nextV L i Z.length).toNat]:=⟨_,rfl⟩
 have hgz:∀ h,Z[(nextV L i Z.length).toNat]'h=c:=fun _=>hc.symm
 have hcm:=hfm c (by rw [hc]; exact List.getElem_mem hzl)
 rw [List.getElem?_eq_getElem hzl,hgz]
 simp only [Option.getD_some]
 obtain ⟨h0,h1,_⟩:=hcm
 obtain ⟨cn,rfl⟩:∃ cn:Nat,c=cn:=⟨c.toNat,by omega⟩
 have hcl:cn<x.cols.length:=by omega
 obtain ⟨y,hy⟩:∃ y,y=x.cols[cn]:=⟨_,rfl⟩
 have hgy:∀ h,x.cols[cn]'h=y:=fun _=>hy.symm
 have hyt:=hty y (by rw [hy]; exact List.getElem_mem hcl)
 have htt:typT x cn=y.t:=by unfold typT; simp [hcl,hgy]
 rw [htt]
 have hnx0:=hnx.1
 have n6:=t_next1 L (i+1) (by omega) 6 (by omega) (by omega)
 have n66:=t_next1 L (i+2) (by omega) 6 (by omega) (by omega)
 have n62:=t_next1 L (i+2) (by omega) 2 (by omega) (by omega)
 have n63:=t_next1 L (i+3) (by omega) 2 (by omega) (by omega)
 have v1:=nextV_in L (i+2) (n:=6) (by omega)
 have v2:=nextV_in L (i+2) (n:=2) (by omega)
 have v3:=nextV_in L (i+3) (n:=2) (by omega)
 have w1:=wrap_in (n:=14+nextV L (i+2) 6) (by omega) (by omega)
 have w2:=wrap_in (n:=14+nextV L (i+2) 2) (by omega) (by omega)
 have w3:=wrap_in (n:=14+nextV L (i+3) 2) (by omega) (by omega)
 simp [tapB,Tb.c]
 (repeat' (first|contradiction|exact .ok|apply And.intro|intro _|(refine gc (fun h=>?_) (fun h=>?_)<;>(have h':=h;(try simp at h');first|done|simp[h,h']|simp))))
 refine acallT_hand [1000000] htx (by simp) (by simp) (by simp) (by simp [tapB]) (by simp) ?_
 simp [tapB,hnx0,hzl,hgz,hcl,hgy,Col.c,Tb.c]
 (repeat' (first|contradiction|exact .ok|apply And.intro|intro _|(refine gc (fun h=>?_) (fun h=>?_)<;>(have h':=h;(try simp at h');first|done|simp[h,h']|simp))))
 refine acallT_hand [1000000] n6 (by simp) (by simp) (by simp) (by simp [tapB]) (by simp) ?_
 by_cases u0:nextV L (i+1) 6=0
 ·simp [tapB,u0,At.a,At.c,nulV]
  (repeat' (first|contradiction|exact .ok|apply And.intro|intro _|(refine gc (fun h=>?_) (fun h=>?_)<;>(have h':=h;(try simp at h');first|done|simp[h,h',u0]|simp[u0]))))
  all_goals (first | done | omega | (simp [u0]; done))
 rcases hyt with ht | ht | ht
 ·simp [tapB,u0,ht]
  (repeat' (first|contradiction|exact .ok|apply And.intro|intro _|(refine gc (fun h=>?_) (fun h=>?_)<;>(have h':=h;(try simp at h');first|done|simp[h,h',u0,ht]|simp[u0,ht]))))
  refine acallT_hand [1000000] n66 (by simp) (by simp) (by simp) (by simp [tapB]; try omega) (by simp) ?_
  simp [tapB,w1]
  refine acallT_hand [1000000] (t_small L (i+3) (by omega) 1 (by omega)) (by simp) (by simp) (by simp) (by simp [tapB]; try omega) (by simp) ?_
  simp [tapB,V.a,At.a,At.c]
  (repeat' (first|contradiction|exact .ok|apply And.intro|intro _|(refine gc (fun h=>?_) (fun h=>?_)<;>(have h':=h;(try simp at h');first|done|simp[h,h']|simp))))
  all_goals (simp [u0,ht] <;> omega)
 ·simp [tapB,u0,ht]
  (repeat' (first|contradiction|exact .ok|apply And.intro|intro _|(refine gc (fun h=>?_) (fun h=>?_)<;>(have h':=h;(try simp at h');first|done|simp[h,h',u0,ht]|simp[u0,ht]))))
  refine acallT_hand [1000000] n62 (by simp) (by simp) (by simp) (by simp [tapB]; try omega) (by simp) ?_
  by_cases u1:nextV L (i+2) 2=0
  ·simp [tapB,u1,At.a,At.c,nulV]
   (repeat' (first|contradiction|exact .ok|apply And.intro|intro _|(refine gc (fun h=>?_) (fun h=>?_)<;>(have h':=h;(try simp at h');first|done|simp[h,h',u1]|simp[u1]))))
   all_goals (simp [u0,ht,u1] <;> omega)
  ·simp [tapB,u1]
   (repeat' (first|contradiction|exact .ok|apply And.intro|intro _|(refine gc (fun h=>?_) (fun h=>?_)<;>(have h':=h;(try simp at h');first|done|simp[h,h',u1]|simp[u1]))))
   refine acallT_hand [1000000] n63 (by simp) (by simp) (by simp) (by simp [tapB]; try omega) (by simp) ?_
   simp [tapB,w3]
   refine acallT_hand [1000000] (t_small L (i+4) (by omega) 2 (by omega)) (by simp) (by simp) (by simp) (by simp [tapB]; try omega) (by simp) ?_
   simp [tapB,V.a,At.a,At.c]
   (repeat' (first|contradiction|exact .ok|apply And.intro|intro _|(refine gc (fun h=>?_) (fun h=>?_)<;>(have h':=h;(try simp at h');first|done|simp[h,h']|simp))))
   all_goals (simp [u0,ht,u1] <;> omega)
 ·simp [tapB,u0,ht]
  (repeat' (first|contradiction|exact .ok|apply And.intro|intro _|(refine gc (fun h=>?_) (fun h=>?_)<;>(have h':=h;(try simp at h');first|done|simp[h,h',u0,ht]|simp[u0,ht]))))
  refine acallT_hand [1000000] n62 (by simp) (by simp) (by simp) (by simp [tapB]; try omega) (by simp) ?_
  simp [tapB,w2]
  refine acallT_hand [1000000] (t_small L (i+3) (by omega) 3 (by omega)) (by simp) (by simp) (by simp) (by simp [tapB]; try omega) (by simp) ?_
  simp [tapB,V.a,At.a,At.c]
  (repeat' (first|contradiction|exact .ok|apply And.intro|intro _|(refine gc (fun h=>?_) (fun h=>?_)<;>(have h':=h;(try simp at h');first|done|simp[h,h']|simp))))
  all_goals (simp [u0,ht] <;> omega)
end Go.Proofs.Tryz
namespace Go.Proofs.Tryz
open Go.Ab
set_option maxRecDepth 100000
set_option maxHeartbeats 4000000
def nmG (c:UInt8) (k:Nat):List UInt8:=[c]++[UInt8.ofNat (48+k)]
theorem t_nm (c:UInt8) (k:Nat) (z:Int) (hz:z=k) (hk:k<10):Cf En 38 [.d (.str [c]),.d (.int .i64 z)] [] (.d (.str (nmG c k))) []:=by
 subst hz
 refine cf_intro mix (fn:=Tryz.f38) (by kernel_rfl) rfl (by kernel_rfl) (by decide) (by simp) ?_
 have h:k=0∨k=1∨k=2∨k=3∨k=4∨k=5∨k=6∨k=7∨k=8∨k=9:=by omega
 unfold nmG
 rcases h with rfl | rfl | rfl | rfl | rfl | rfl | rfl | rfl | rfl | rfl <;> (simp; (repeat' (first | contradiction | exact .of (by kernel_rfl) | refine And.intro ?_ ?_ | intro _ | (refine agrd_cases (fun h=>?_) (fun h=>?_) <;> (have h':=h; (try simp at h'); first | done | simp [h,h'] | simp))))) <;> (try rfl) <;> (try (simp; rfl)) <;> (try decide)
def upL {α:Type} (f:Nat→α):Nat→List α
 | 0=>[]
 | k+1=>upL f k++[f k]
theorem upL_len {α:Type} (f:Nat→α):∀ k,(upL f k).length=k
 | 0=>rfl
 | k+1=>by rw [upL,List.length_append,upL_len f k]; rfl
theorem upL_get {α:Type} (f:Nat→α):∀ (k j:Nat),(upL f k)[j]?=if j<k then some (f j) else none
 | 0,j=>by simp [upL]
 | k+1,j=>by
   rw [upL,List.getElem?_append,upL_len,upL_get f k j]
   by_cases h:j<k
   ·simp [h]; omega
   ·by_cases h2:j=k
    ·subst h2; simp
    ·rw [if_neg h,if_neg (by omega),List.getElem?_eq_none (by simp; omega)]
theorem upL_mem {α:Type} {f:Nat→α} {k:Nat} {x:α} (h:x∈upL f k):∃ j,j<k∧x=f j:=by
 obtain ⟨j,hj⟩:=List.mem_iff_getElem?.1 h
 rw [upL_get] at hj
 split at hj
 ·rename_i hjk; cases hj; exact ⟨j,hjk,rfl⟩
 ·cases hj
def idC:Col:=⟨[105,100],1,false⟩
def colP (L:List Int) (a k:Nat):Col:=⟨nmG 99 k,1+nextV L (a+2*k) 3,nextV L (a+2*k+1) 3==0⟩
def fcP (k:Nat):Col:=⟨nmG 102 k,1,false⟩
def colsP (L:List Int) (a m z:Nat):List Col:=idC::(upL (colP L a) m++upL fcP z)
def fkP (L:List Int) (b j n k:Nat):Fk:=⟨[((n+k:Nat):Int)],nmG 116 (nextV L (b+2*k+1) j).toNat⟩
def fksP (L:List Int) (b j n z:Nat):List Fk:=upL (fkP L b j n) z
def freeP (L:List Int) (a:Nat):Nat:=(1+nextV L a 2).toNat
def pkN (L:List Int) (b j:Nat):Nat:=if j=0 then 0 else if nextV L b 3=0 then 0 else if nextV L (b+2) 2=0 then 1 else 2
def pkE (L:List Int) (b j:Nat):Nat:=if j=0 then b else if nextV L b 3=0 then b+1 else if nextV L (b+2) 2=0 then b+3 else b+4
def tab0 (L:List Int) (j a:Nat):Tb:=⟨nmG 116 j,colsP L (a+1) (freeP L a) (pkN L (a+1+2*freeP L a) j),[0],[],fksP L (a+1+2*freeP L a) j (freeP L a+1) (pkN L (a+1+2*freeP L a) j),[]⟩
def ckP (L:List Int) (x:Tb) (e:Nat):Tb×Nat:=if nextV L e 4=0 then (⟨x.n,x.cols,x.pr,x.un,x.fk,[(atomG L x (e+1)).1.ex]⟩,(atomG L x (e+1)).2) else (x,e+1)
def tabP (L:List Int) (j a:Nat):Tb×Nat:=ckP L (tab0 L j a) (pkE L (a+1+2*freeP L a) j)
def tabsP (L:List Int) (a:Nat):Nat→List Tb×Nat
 | 0=>([],a)
 | n+1=>((tabsP L a n).1++[(tabP L n (tabsP L a n).2).1],(tabP L n (tabsP L a n).2).2)
theorem tabsP_len (L:List Int) (a:Nat):∀ n,(tabsP L a n).1.length=n
 | 0=>rfl
 | n+1=>by simp [tabsP,tabsP_len L a n]
theorem freeP_in (L:List Int) (a:Nat):1≤freeP L a∧freeP L a≤2∧((freeP L a:Nat):Int)=1+nextV L a 2:=by
 have:=nextV_in L a (n:=2) (by omega)
 unfold freeP; omega
theorem pkN_le (L:List Int) (b j:Nat):pkN L b j≤2:=by
 unfold pkN
 repeat' split
 all_goals omega
theorem pkE_le (L:List Int) (b j:Nat):b≤pkE L b j∧pkE L b j≤b+4:=by
 unfold pkE
 repeat' split
 all_goals omega
theorem tabP_le (L:List Int) (j a:Nat):(tabP L j a).2≤a+15:=by
 have h1:=freeP_in L a
 have h2:=pkE_le L (a+1+2*freeP L a) j
 have h3:=atom_le L (tab0 L j a) (pkE L (a+1+2*freeP L a) j+1)
 unfold tabP ckP
 split
 ·simp only; omega
 ·simp only; omega
theorem tabsP_le (L:List Int) (a:Nat):∀ n,(tabsP L a n).2≤a+15*n
 | 0=>by simp [tabsP]
 | n+1=>by
   have h1:=tabsP_le L a n
   have h2:=tabP_le L n (tabsP L a n).2
   simp only [tabsP]; omega
theorem colsP_len (L:List Int) (a m z:Nat):(colsP L a m z).length=m+1+z:=by simp [colsP,upL_len]; omega
theorem fksP_len (L:List Int) (b j n z:Nat):(fksP L b j n z).length=z:=upL_len _ z
theorem colsP_free (L:List Int) (a m:Nat):colsP L a (m+1) 0=colsP L a m 0++[colP L a m]:=by simp [colsP,upL]
theorem colsP_succ (L:List Int) (a m z:Nat):colsP L a m (z+1)=colsP L a m z++[fcP z]:=by simp [colsP,upL]
theorem fksP_succ (L:List Int) (b j n z:Nat):fksP L b j n (z+1)=fksP L b j n z++[fkP L b j n z]:=rfl
structure Made (x:Tb):Prop where
 ok:x.ok
 free:0<(freeL x x.cols.length).length
 ty:∀ c∈x.cols,c.t=1∨c.t=2∨c.t=3
theorem tab0_made (L:List Int) (j a:Nat):Made (tab0 L j a):=by
 have h1:=freeP_in L a
 have h2:=pkN_le L (a+1+2*freeP L a) j
 unfold tab0
 generalize freeP L a=m at *
 generalize pkN L (a+1+2*m) j=z at *
 refine ⟨⟨by simp only [colsP_len]; omega,by simp,by simp,by simp only [fksP_len]; omega,by simp,fun f hf=>?_⟩,?_,fun c hc=>?_⟩
 ·obtain ⟨k,_,rfl⟩:=upL_mem hf
  simp [fkP]
 ·simp only [colsP_len]
  have hm:(1:Int)∈freeL ⟨nmG 116 j,colsP L (a+1) m z,[0],[],fksP L (a+1+2*m) j (m+1) z,[]⟩ (m+1+z):=by
   unfold freeL
   refine List.mem_map.2 ⟨1,List.mem_filter.2 ⟨List.mem_range.2 (by omega),?_⟩,rfl⟩
   have:keyT ⟨nmG 116 j,colsP L (a+1) m z,[0],[],fksP L (a+1+2*m) j (m+1) z,[]⟩ ((1:Nat):Int)=false:=by
    unfold keyT
    rw [Bool.or_eq_false_iff]
    refine ⟨by simp,?_⟩
    rw [List.any_eq_false]
    intro f hf
    obtain ⟨k,_,rfl⟩:=upL_mem hf
    simp [fkP]
    omega
   rw [this]; rfl
  exact List.length_pos_of_mem hm
 ·unfold colsP at hc
  rcases List.mem_cons.1 hc with rfl | hc
  ·exact .inl rfl
  ·rcases List.mem_append.1 hc with hc | hc
   ·obtain ⟨k,_,rfl⟩:=upL_mem hc
    have:=nextV_in L (a+1+2*k) (n:=3) (by omega)
    simp only [colP]
    omega
   ·obtain ⟨k,_,rfl⟩:=upL_mem hc
    exact .inl rfl
end Go.Proofs.Tryz
