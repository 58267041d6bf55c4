import Derived.Test.YtkkbepgccddjoaaGreatDoorLog
import Derived.Test.YtkkbepgccddjoaaGreatDoorAbB
set_option linter.all false
namespace Go.Proofs.Tryz
open Go.Ab
def tapB (L:List Int) (i:Int):Blk:=.var [.d (.sl (L.map fun n=>[.int .i64 n])),.d (.int .i64 i)]
def nextV (L:List Int) (i:Nat) (n:Int):Int :=
 if n<1 then 0 else
  let x:=match L[i]? with
   | some z=>z.tmod n
   | none=>0
  if x<0 then x+n else x
def nextI (i:Nat) (n:Int):Nat:=if n<1 then i else i+1
theorem nextV_in (L:List Int) (i:Nat) {n:Int} (h:1≤n):0≤nextV L i n∧nextV L i n<n:=by
 unfold nextV
 rw [if_neg (by omega)]
 cases L[i]? with
 | none=>simp; omega
 | some z =>
   have h1:=Int.natAbs_tmod z n
   have h2:=Nat.mod_lt z.natAbs (show 0<n.natAbs by omega)
   simp only
   split <;> omega
theorem t_next (L:List Int) (i:Nat) (hi:i≤1000000000) (n:Int) (hn:n≤1000000) :
  Cf En 14 [.ptr 1000000 0 0,.d (.int .i64 n)] [tapB L i] (.d (.int .i64 (nextV L i n))) [tapB L (nextI i n)]:=by
 refine cf_intro mix (fn:=Tryz.f14) (by kernel_rfl) rfl (by kernel_rfl) (by decide) (by simp) ?_
 simp [tapB]
 (repeat' (first|contradiction|exact .ok|apply And.intro|intro _|(refine gc (fun h=>?_) (fun h=>?_)<;>(have h':=h;(try simp at h');first|done|simp[h,h']|simp))))
 ·rename_i h
  simp [nextI,h]
 ·rename_i h
  simp [nextV,h]
 ·rename_i h1 h2
  have hg:L[i]?=some L[i]:=List.getElem?_eq_getElem h2
  have hn0:¬ n<1:=by omega
  have hz:¬ n=0:=by omega
  have hw:=wrap_in (n:=(i:Int)+1) (by omega) (by omega)
  have e1:=Int.natAbs_tmod L[i] n
  have e2:=Nat.mod_lt L[i].natAbs (show 0<n.natAbs by omega)
  have hw2:=wrap_in (n:=L[i].tmod n+n) (by omega) (by omega)
  have hV:nextV L i n=if L[i].tmod n<0 then L[i].tmod n+n else L[i].tmod n:=by simp [nextV,hn0,hg]
  have hI:nextI i n=i+1:=by simp [nextI,hn0]
  rw [hV,hI]
  clear hV hI
  by_cases hneg:L[i].tmod n<0
  ·simp [hg,hz,hneg,hw,hw2]
   all_goals exact gz
  ·simp [hg,hz,hneg,hw]
   all_goals exact gz
 ·rename_i h1 h2
  simp [nextI,show ¬ n<1 by omega]
  exact wrap_in (by omega) (by omega)
 ·rename_i h1 h2
  simp [nextV,show ¬ n<1 by omega,List.getElem?_eq_none h2]
def intsL:List Int:=[0,1,2,-1,5,7,-7,100,1000000000000,-1000000000000,999999999999,1000000]
def textsL:List (List UInt8):=[[],[97],[98],[97,98],[48],[32],[97,98,99,100,101,102,103,104,105,106,107,108,109,110,111,112,113,114,115,116,117,118,119,120]]
def valuesOf (k:Int):List V :=
 if k=1 then nulV::intsL.map fun n=>⟨1,n,[]⟩ else if k=2 then [nulV,⟨2,0,[]⟩,⟨2,1,[]⟩] else if k=3 then nulV::textsL.map fun t=>⟨3,0,t⟩ else [nulV]
theorem t_values (k:Int):Cf En 79 [.d (.int .i64 k)] [] (.d (.sl ((valuesOf k).map V.c))) []:=by
 refine cf_intro mix (fn:=Tryz.f79) (by kernel_rfl) rfl (by kernel_rfl) (by decide) (by simp) ?_
 by_cases h1:k=1
 ·subst h1
  simp
  (repeat' (first|contradiction|exact .ok|apply And.intro|intro _|(refine gc (fun h=>?_) (fun h=>?_)<;>(have h':=h;(try simp at h');first|done|simp[h,h']|simp))))
  have hlen:intsL.length=12:=by decide
  refine aloopT mix (by decide) (fun i:Nat=>{ s:=mkS [(3,.ref 900 0 (i+1) 3),(4,.d (.sl (intsL.map fun n=>[.int .i64 n]))),(5,.d (.int .i64 i))],b:=mkB [(900,900,.arr 92 3 ((nulV::(intsL.take i).map fun n=>⟨1,n,[]⟩).map V.c) false)] }) (fun i:Nat=>i≤12) (fun i=>12 - i) 0 (by simp) (sub_mk _ [(900,9,_)] ⟨by simp,by simp,by simp [renOf,Blk.live,nulV,V.c],by simp⟩ (by simp [renOf,intsL])) ?_
  intro i hi
  by_cases hlt:i<12
  ·have hlt':(i:Int)<12:=by omega
   have hg:intsL[i]?=some intsL[i]:=List.getElem?_eq_getElem (by omega)
   have htk:intsL.take (i+1)=intsL.take i++[intsL[i]]:=by rw [List.take_add_one,hg]; rfl
   have hmin:min i 12=i:=by omega
   have s1:(i+1+1)*32≤140737488355328:=by omega
   have s2:i+1+1≤9223372036854775807:=by omega
   have s3:i≤9223372036854775805:=by omega
   simp [hlt,hlt',hlen,hg,hmin,s1,s2,s3]
   (repeat' (first|contradiction|exact .ok|apply And.intro|intro _|(refine gc (fun h=>?_) (fun h=>?_)<;>(have h':=h;(try simp at h');first|done|simp[h,h']|simp))))
   refine ⟨i+1,by omega,?_,?_⟩
   ·refine sub_mk _ [(900,27,_)] ⟨by simp,by simp,?_,by simp⟩ ?_
    ·simp [renOf,Blk.live,htk,V.c,hmin,hlen]
     try rfl
    ·simp [renOf]
     exact wrap_in (by omega) (by omega)
   ·simp; omega
  ·have hlt':¬ (i:Int)<12:=by omega
   have hi12:i=12:=by omega
   subst hi12
   have htk:intsL.take 12=intsL:=List.take_of_length_le (by omega)
   simp [hlen,htk]
   (repeat' (first|contradiction|exact .ok|apply And.intro|intro _|(refine gc (fun h=>?_) (fun h=>?_)<;>(have h':=h;(try simp at h');first|done|simp[h,h']|simp))))
   all_goals (simp [valuesOf,hlen]; rw [← List.map_take,htk])
 by_cases h2:k=2
 ·subst h2
  simp
  (repeat' (first|contradiction|exact .ok|apply And.intro|intro _|(refine gc (fun h=>?_) (fun h=>?_)<;>(have h':=h;(try simp at h');first|done|simp[h,h']|simp))))
  refine acallT_plain (r_bool 0) (by simp [V.a]) ?_
  simp [V.a,boolV0]
  refine acallT_plain (r_bool 1) (by simp [V.a]) ?_
  simp [V.a,boolV1]
  (repeat' (first|contradiction|exact .ok|apply And.intro|intro _|(refine gc (fun h=>?_) (fun h=>?_)<;>(have h':=h;(try simp at h');first|done|simp[h,h']|simp))))
  all_goals simp [valuesOf,V.c,nulV]
 by_cases h3:k=3
 ·subst h3
  simp
  (repeat' (first|contradiction|exact .ok|apply And.intro|intro _|(refine gc (fun h=>?_) (fun h=>?_)<;>(have h':=h;(try simp at h');first|done|simp[h,h']|simp))))
  have hlen:textsL.length=7:=by decide
  refine aloopT mix (by decide) (fun i:Nat=>{ s:=mkS [(3,.ref 900 0 (i+1) 3),(6,.d (.sl (textsL.map fun n=>[.str n]))),(7,.d (.int .i64 i))],b:=mkB [(900,900,.arr 92 3 ((nulV::(textsL.take i).map fun n=>⟨3,0,n⟩).map V.c) false)] }) (fun i:Nat=>i≤7) (fun i=>7 - i) 0 (by simp) (sub_mk _ [(900,9,_)] ⟨by simp,by simp,by simp [renOf,Blk.live,nulV,V.c],by simp⟩ (by simp [renOf,textsL])) ?_
  intro i hi
  by_cases hlt:i<7
  ·have hlt':(i:Int)<7:=by omega
   have hg:textsL[i]?=some textsL[i]:=List.getElem?_eq_getElem (by omega)
   have htk:textsL.take (i+1)=textsL.take i++[textsL[i]]:=by rw [List.take_add_one,hg]; rfl
   have hmin:min i 7=i:=by omega
   have s1:(i+1+1)*32≤140737488355328:=by omega
   have s2:i+1+1≤9223372036854775807:=by omega
   have s3:i≤9223372036854775805:=by omega
   simp [hlt,hlt',hlen,hg,hmin,s1,s2,s3]
   (repeat' (first|contradiction|exact .ok|apply And.intro|intro _|(refine gc (fun h=>?_) (fun h=>?_)<;>(have h':=h;(try simp at h');first|done|simp[h,h']|simp))))
   refine ⟨i+1,by omega,?_,?_⟩
   ·refine sub_mk _ [(900,51,_)] ⟨by simp,by simp,?_,by simp⟩ ?_
    ·simp [renOf,Blk.live,htk,V.c,hmin,hlen]
     try rfl
    ·simp [renOf]
     exact wrap_in (by omega) (by omega)
   ·simp; omega
  ·have hlt':¬ (i:Int)<7:=by omega
   have hi12:i=7:=by omega
   subst hi12
   have htk:textsL.take 7=textsL:=List.take_of_length_le (by omega)
   simp [hlen,htk]
   (repeat' (first|contradiction|exact .ok|apply And.intro|intro _|(refine gc (fun h=>?_) (fun h=>?_)<;>(have h':=h;(try simp at h');first|done|simp[h,h']|simp))))
   all_goals (simp [valuesOf,hlen]; rw [← List.map_take,htk])
 simp [h1,h2,h3]
 (repeat' (first|contradiction|exact .ok|apply And.intro|intro _|(refine gc (fun h=>?_) (fun h=>?_)<;>(have h':=h;(try simp at h');first|done|simp[h,h']|simp))))
 all_goals simp [valuesOf,h1,h2,h3,V.c,nulV]
end Go.Proofs.Tryz
