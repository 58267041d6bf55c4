import Derived.Test.YthbnleoonldffaaGreatDoorQEnvR
import Derived.Test.YthbnleoonldffaaGreatDoorAbB
set_option linter.all false
namespace Go.Proofs.Tryz
open Go.Ab
set_option maxRecDepth 100000
set_option maxHeartbeats 2000000
theorem eI (n:Nat) (h:n≤100000) (c:Nat) (hc:c≤1000):n*c≤140737488355328∧n≤9223372036854775807∧n≤9223372036854775806∧n≤9223372036854775805∧n≤9223372036854775804 :=
 ⟨Nat.le_trans (Nat.mul_le_mul h hc) (by decide),by omega,by omega,by omega,by omega⟩
@[simp] theorem aCQ {α β:Type} (f:α→β) (l:List α):List.take l.length (l.map f)=l.map f:=List.take_of_length_le (by simp)
@[simp] theorem aCR {α β:Type} (f:α→β) (l:List α):List.drop l.length (l.map f)=[]:=List.drop_of_length_le (by simp)
@[simp] theorem aEB {a b:Int} (h:¬ a=b):(a==b)=false:=by simpa using h
@[simp] theorem aEC {a b:Int} (h:¬ a=b):(a != b)=true:=by simpa using h
@[simp] theorem aED {a b:List UInt8} (h:¬ a=b):(a==b)=false:=by simpa using h
@[simp] theorem aEE {a b:List UInt8} (h:¬ a=b):(a != b)=true:=by simpa using h
def SB (E:dZ) (N nb:Nat) (F0:St) (c:Code) (Q:AExit→St→Prop):Prop:=∀ st,Sub E N nb st F0→qB E N nb c st Q ⟨⟩
structure Col where
 n:List UInt8
 t:Int
 b:Bool
def Col.c (x:Col):List D:=[.str x.n,.int .i64 x.t,.bool x.b]
def Col.a (x:Col):AV:=.agg (x.c.map AV.d)
structure Fk where
 cols:List Int
 t:List UInt8
def Fk.c (x:Fk):List D:=[.sl (aG x.cols),.str x.t]
def Fk.a (x:Fk):AV:=.agg (x.c.map AV.d)
def nU (l:List Int):List D:=[.sl (aG l)]
structure Tb where
 n:List UInt8
 cols:List Col
 pr:List Int
 un:List (List Int)
 fk:List Fk
 ch:List Ex
def Tb.c (x:Tb):List D:=[.str x.n,.sl (x.cols.map Col.c),.sl (aG x.pr),.sl (x.un.map nU),.sl (x.fk.map Fk.c),.sl (x.ch.map Ex.c)]
def Tb.a (x:Tb):AV:=.agg (x.c.map AV.d)
structure Tb.ok (x:Tb):Prop where
 cols:x.cols.length≤1000
 pr:x.pr.length≤1000
 un:x.un.length≤1000
 fk:x.fk.length≤1000
 ch:x.ch.length≤1000
 fkc:∀ f∈x.fk,f.cols.length≤1000
def dJ (x:Tb) (c:Int):Bool:=x.pr.contains c||x.fk.any fun f=>f.cols.contains c
theorem bV {α:Type} {l:List α} {i:Nat} (h:i<l.length):l.take (i+1)=l.take i++[l[i]]:=by
 rw [List.take_add_one,List.getElem?_eq_getElem h]; rfl
theorem mX {l:List Int} {i:Nat} {c:Int} (h:i<l.length):(l.take (i+1)).contains c=((l.take i).contains c||c==l[i]):=by
 rw [bV h,Bool.eq_iff_iff,Bool.or_eq_true,List.contains_iff_mem,List.contains_iff_mem,List.mem_append,List.mem_singleton,beq_iff_eq]
theorem qP {α:Type} {l:List α} {p:α→Bool} {i:Nat} (h:i<l.length):(l.take (i+1)).any p=((l.take i).any p||p l[i]):=by
 rw [bV h,List.any_append]
 simp only [List.any_cons,List.any_nil,Bool.or_false]
theorem nV {l:List Int} {i:Nat} {c:Int} (h:(l.take i).contains c=true):l.contains c=true:=by
 rw [List.contains_iff_mem] at *
 exact List.mem_of_mem_take h
theorem oW {α:Type} {l:List α} {p:α→Bool} {i:Nat} (hi:i<l.length) (h:p l[i]=true):l.any p=true:=List.any_eq_true.2 ⟨_,List.getElem_mem hi,h⟩
@[simp] theorem aFY {l:List Int} {i:Nat} (h:i<(aG l).length):(aG l)[i]'h=[.int .i64 (l[i]'(by simpa [aG] using h))]:=by simp [aG]
@[simp] theorem lV (l:List Int):(aG l).length=l.length:=List.length_map _
theorem dS {l:List Int} {i:Nat} (h:i<l.length):(aG l)[i]?=some [.int .i64 l[i]]:=by simp [aG,h]
theorem aAB (x:Tb) (hx:x.ok) (c:Int):Cf En 104 [x.a,.d (.int .i64 c)] [] (.d (.bool (dJ x c))) []:=by
 refine aD aW (fn:=Tryz.f104) (by kernel_rfl) rfl (by kernel_rfl) (by decide) (by simp) ?_
 have l1:=hx.pr
 have l2:=hx.fk
 simp [Tb.a,Tb.c]
 (repeat' first|contradiction|exact .ok|apply And.intro|intro _|(apply gc<;>simp+contextual))
 refine aL aW (by decide) (fun i:Nat=>{ s:=cG [(1,.d (.int .i64 c)),(2,.ptr 2 0 0),(5,.d (.int .i64 i))],b:=cE [(2,2,.var (x.c.map AV.d))] }) (fun i=>i≤x.pr.length∧(x.pr.take i).contains c=false) (fun i=>x.pr.length - i) 0 (by simp) (aE _ [(2,2,_)] ⟨by simp,by simp,by simp [aB,Blk.live,Tb.c],by simp⟩ (by simp [aB])) ?_
 rintro i ⟨hi,hc⟩
 by_cases hlt:i<x.pr.length
 ·have hg:=dS hlt
  have hct:=mX (c:=c) hlt
  have hw:=aH (n:=(i:Int)+1) (by omega) (by omega)
  by_cases he:x.pr[i]=c
  ·have hk:dJ x c=true:=by
    unfold dJ
    rw [nV (i:=i+1) (by rw [hct]; simp [he])]; rfl
   simp [Tb.c,lV,hlt,hg,he,hk]
   all_goals exact gz
  ·have he':¬ c=x.pr[i]:=fun e=>he e.symm
   simp [Tb.c,lV,hlt,hg,he]
   (repeat' first|contradiction|exact .ok|apply And.intro|intro _|(apply gc<;>simp+contextual))
   refine ⟨i+1,⟨by omega,by rw [hct,hc]; simpa using he'⟩,?_,by simp; omega⟩
   refine aE _ [(2,2,_)] ⟨by simp,by simp,by simp [aB,Blk.live,Tb.c],by simp⟩ (by simp [aB,hw])
 have hie:i=x.pr.length:=by omega
 subst hie
 rw [List.take_length] at hc
 simp [Tb.c,lV]
 (repeat' first|contradiction|exact .ok|apply And.intro|intro _|(apply gc<;>simp+contextual))
 refine aL aW (by decide) (fun i:Nat=>{ s:=cG [(1,.d (.int .i64 c)),(2,.ptr 2 0 0),(6,.d (.int .i64 i))],b:=cE [(2,2,.var (x.c.map AV.d))] }) (fun i=>i≤x.fk.length∧(x.fk.take i).any (fun f=>f.cols.contains c)=false) (fun i=>x.fk.length - i) 0 (by simp) (aE _ [(2,2,_)] ⟨by simp,by simp,by simp [aB,Blk.live,Tb.c],by simp⟩ (by simp [aB])) ?_
 rintro i ⟨hi,ha⟩
 by_cases hlt:i<x.fk.length
 ·obtain ⟨f,hf⟩:∃ f,f=x.fk[i]:=⟨_,rfl⟩
  have hgi:∀ h,x.fk[i]'h=f:=fun _=>hf.symm
  have hfl:=hx.fkc f (by rw [hf]; exact List.getElem_mem hlt)
  have hat:=qP (p:=fun f=>f.cols.contains c) hlt
  have hag:=oW (p:=fun f=>f.cols.contains c) hlt
  rw [← hf] at hat hag
  have hw:=aH (n:=(i:Int)+1) (by omega) (by omega)
  simp [Tb.c,hlt]
  (repeat' first|contradiction|exact .ok|apply And.intro|intro _|(apply gc<;>simp+contextual))
  refine aL aW (by decide) (fun j:Nat=>{ s:=cG [(1,.d (.int .i64 c)),(2,.ptr 2 0 0),(6,.d (.int .i64 i)),(7,.d (.int .i64 j))],b:=cE [(2,2,.var (x.c.map AV.d))] }) (fun j=>j≤f.cols.length∧(f.cols.take j).contains c=false) (fun j=>f.cols.length - j) 0 (by simp) (aE _ [(2,2,_)] ⟨by simp,by simp,by simp [aB,Blk.live,Tb.c],by simp⟩ (by simp [aB])) ?_
  rintro j ⟨hj,hcj⟩
  by_cases hjt:j<f.cols.length
  ·have hgj:=dS hjt
   have hct:=mX (c:=c) hjt
   have hwj:=aH (n:=(j:Int)+1) (by omega) (by omega)
   by_cases he:f.cols[j]=c
   ·have hk:dJ x c=true:=by
     unfold dJ
     rw [hag (nV (i:=j+1) (by rw [hct]; simp [he]))]; simp
    simp [Tb.c,hlt,hgi,Fk.c,lV,hjt,hgj,he,hk]
    all_goals exact gz
   ·have he':¬ c=f.cols[j]:=fun e=>he e.symm
    simp [Tb.c,hlt,hgi,Fk.c,lV,hjt,hgj,he]
    (repeat' first|contradiction|exact .ok|apply And.intro|intro _|(apply gc<;>simp+contextual))
    refine ⟨j+1,⟨by omega,by rw [hct,hcj]; simpa using he'⟩,?_,by simp; omega⟩
    refine aE _ [(2,2,_)] ⟨by simp,by simp,by simp [aB,Blk.live,Tb.c],by simp⟩ (by simp [aB,hwj])
  have hje:j=f.cols.length:=by omega
  subst hje
  rw [List.take_length] at hcj
  simp [Tb.c,hlt,hgi,Fk.c,lV]
  (repeat' first|contradiction|exact .ok|apply And.intro|intro _|(apply gc<;>simp+contextual))
  refine ⟨i+1,⟨by omega,by rw [hat,ha,hcj]; rfl⟩,?_,by simp; omega⟩
  refine aE _ [(2,2,_)] ⟨by simp,by simp,by simp [aB,Blk.live,Tb.c],by simp⟩ (by simp [aB,hw])
 have hie:i=x.fk.length:=by omega
 subst hie
 rw [List.take_length] at ha
 have hk:dJ x c=false:=by unfold dJ; rw [hc,ha]; rfl
 simp [Tb.c,hk]
 all_goals exact gz
def aR (S:List Tb):AV:=.agg [.d (.sl (S.map Tb.c))]
def place {α:Type} (p:α→Bool) (l:List α):AV:=.tup [.d (.int .i64 (max (aY p l 0) 0)),.d (.bool (decide (0≤aY p l 0)))]
theorem aCK (x:Tb) (t:List UInt8):Cf En 138 [x.a,.ptr 1000000 0 0] [.var [.d (.str t)]] (.d (.bool (x.n==t))) [.var [.d (.str t)]]:=by
 refine aD aW (fn:=Tryz.f138) (by kernel_rfl) rfl (by kernel_rfl) (by decide) (by simp) ?_
 simp [Tb.a,Tb.c]
 all_goals exact gz
theorem aEi (S:List Tb) (hl:S.length≤1000) (t:List UInt8):Cf En 137 [.d (.sl (S.map Tb.c)),.clo 138 [.ptr 1000000 0 0]] [.var [.d (.str t)]] (.d (.int .i64 (aY (fun x=>x.n==t) S 0))) [.var [.d (.str t)]]:=by
 refine aD aW (fn:=Tryz.f137) (by kernel_rfl) rfl (by kernel_rfl) (by decide) (by simp) ?_
 simp
 (repeat' first|contradiction|exact .ok|apply And.intro|intro _|(apply gc<;>simp+contextual))
 refine aL aW (by decide) (fun i:Nat=>{ s:=cG [(0,.d (.sl (S.map Tb.c))),(1,.clo 138 [.ptr 1000000 0 0]),(7,.d (.int .i64 S.length)),(8,.d (.int .i64 i))],b:=cE [(1000000,1000000,.var [.d (.str t)])] }) (fun i=>i≤S.length∧aY (fun x=>x.n==t) (S.drop i) i=aY (fun x=>x.n==t) S 0) (fun i=>S.length - i) 0 (by simp) (aE _ [(1000000,1000000,_)] ⟨by simp,by simp,by simp [aB,Blk.live],bT⟩ (by simp [aB])) ?_
 rintro i ⟨hi,hf⟩
 by_cases hlt:i<S.length
 ·rw [dX hlt] at hf
  obtain ⟨u,hu⟩:∃ u,u=S[i]:=⟨_,rfl⟩
  have hgi:∀ h,S[i]'h=u:=fun _=>hu.symm
  rw [← hu] at hf
  have hw:=aH (n:=(i:Int)+1) (by omega) (by omega)
  simp [hlt,hgi,Tb.c]
  (repeat' first|contradiction|exact .ok|apply And.intro|intro _|(apply gc<;>simp+contextual))
  refine aK [1000000] (aCK u t) (by simp) (by simp) (by simp) (by simp) (by simp [Tb.a,Tb.c]) ?_
  cases he:u.n==t
  ·rw [he] at hf
   simp [he]
   (repeat' first|contradiction|exact .ok|apply And.intro|intro _|(apply gc<;>simp+contextual[he]))
   refine ⟨i+1,⟨by omega,by simpa using hf⟩,?_,by simp; omega⟩
   exact aE _ [(1000000,1000000,_)] ⟨by simp,by simp,by simp [aB,Blk.live],bT⟩ (by simp [aB,hw])
  ·rw [he] at hf
   simp only [if_true] at hf
   simp [he,← hf]
   (repeat' first|contradiction|exact .ok|apply And.intro|intro _|(apply gc<;>simp+contextual[he]))
 have hie:i=S.length:=by omega
 subst hie
 rw [List.drop_length,aY] at hf
 simp [← hf]
 all_goals exact gz
theorem wA (S:List Tb) (hl:S.length≤1000) (t:List UInt8):Cf En 70 [aR S,.d (.str t)] [] (place (fun x:Tb=>x.n==t) S) []:=by
 refine aD aW (fn:=Tryz.f70) (by kernel_rfl) rfl (by kernel_rfl) (by decide) (by simp) ?_
 unfold place
 simp [aR]
 (repeat' first|contradiction|exact .ok|apply And.intro|intro _|(apply gc<;>simp+contextual))
 refine aK [3] (aEi S hl t) (by simp) (by simp) (by simp) (by simp) (by simp) ?_
 generalize aY (fun x:Tb=>x.n==t) S 0=k
 simp
 (repeat' first|contradiction|exact .ok|apply And.intro|intro _|(apply gc<;>simp+contextual))
 split <;> omega
theorem cW {α:Type} {p:α→Bool} {l:List α} {i:Nat} (h:aY p l 0=(i:Int)):place p l=.tup [.d (.int .i64 i),.d (.bool true)]:=by
 unfold place; rw [h]; simp
theorem lQ {α:Type} {p:α→Bool} {l:List α} (h:aY p l 0=-1):place p l=.tup [.d (.int .i64 0),.d (.bool false)]:=by
 unfold place; rw [h]; rfl
theorem oV (S:List Tb) (hl:S.length≤1000) (t:List UInt8):Cf En 52 [aR S,.d (.str t)] [] (place (fun x:Tb=>x.n==t) S) []:=by
 refine aD aW (fn:=Tryz.f52) (by kernel_rfl) rfl (by kernel_rfl) (by decide) (by simp) ?_
 simp [aR]
 (repeat' first|contradiction|exact .ok|apply And.intro|intro _|(apply gc<;>simp+contextual))
 refine aL aW (by decide) (fun i:Nat=>{ s:=cG [(1,.d (.str t)),(2,.ptr 2 0 0),(6,.d (.int .i64 i))],b:=cE [(2,2,.var [.d (.sl (S.map Tb.c))])] }) (fun i=>i≤S.length∧aY (fun x=>x.n==t) (S.drop i) i=aY (fun x=>x.n==t) S 0) (fun i=>S.length - i) 0 (by simp) (aE [(1,_),(2,_),(6,_)] [(2,2,_)] ⟨by simp,by simp,by simp [aB,Blk.live],by simp⟩ (by simp [aB])) ?_
 rintro i ⟨hi,hf⟩
 by_cases hlt:i<S.length
 ·rw [dX hlt] at hf
  obtain ⟨u,hu⟩:∃ u,u=S[i]:=⟨_,rfl⟩
  have hgi:∀ h,S[i]'h=u:=fun _=>hu.symm
  rw [← hu] at hf
  have hw:=aH (n:=(i:Int)+1) (by omega) (by omega)
  by_cases he:u.n=t
  rotate_left
  ·rw [show (u.n==t)=false from by simpa using he] at hf
   simp [hlt,hgi,Tb.c,he]
   (repeat' first|contradiction|exact .ok|apply And.intro|intro _|(apply gc<;>simp+contextual[hlt,hgi,he]))
   refine ⟨i+1,⟨by omega,by simpa using hf⟩,?_,by simp; omega⟩
   exact aE [(1,_),(2,_),(6,_)] [(2,2,_)] ⟨by simp,by simp,by simp [aB,Blk.live],by simp⟩ (by simp [aB,hw])
  ·rw [show (u.n==t)=true from by simpa using he] at hf
   simp only [if_true] at hf
   rw [cW hf.symm]
   simp [hlt,hgi,Tb.c,Col.c,he]
   (repeat' first|contradiction|exact .ok|apply And.intro|intro _|(apply gc<;>simp+contextual[hlt,hgi,he]))
 have hie:i=S.length:=by omega
 subst hie
 rw [List.drop_length,aY] at hf
 rw [lQ hf.symm]
 simp
 all_goals exact gz
theorem aEj (x:Col) (t:List UInt8):Cf En 209 [x.a,.ptr 1000000 0 0] [.var [.d (.str t)]] (.d (.bool (x.n==t))) [.var [.d (.str t)]]:=by
 refine aD aW (fn:=Tryz.f209) (by kernel_rfl) rfl (by kernel_rfl) (by decide) (by simp) ?_
 simp [Col.a,Col.c]
 all_goals exact gz
theorem aEk (S:List Col) (hl:S.length≤1000) (t:List UInt8):Cf En 208 [.d (.sl (S.map Col.c)),.clo 209 [.ptr 1000000 0 0]] [.var [.d (.str t)]] (.d (.int .i64 (aY (fun x=>x.n==t) S 0))) [.var [.d (.str t)]]:=by
 refine aD aW (fn:=Tryz.f208) (by kernel_rfl) rfl (by kernel_rfl) (by decide) (by simp) ?_
 simp
 (repeat' first|contradiction|exact .ok|apply And.intro|intro _|(apply gc<;>simp+contextual))
 refine aL aW (by decide) (fun i:Nat=>{ s:=cG [(0,.d (.sl (S.map Col.c))),(1,.clo 209 [.ptr 1000000 0 0]),(7,.d (.int .i64 S.length)),(8,.d (.int .i64 i))],b:=cE [(1000000,1000000,.var [.d (.str t)])] }) (fun i=>i≤S.length∧aY (fun x=>x.n==t) (S.drop i) i=aY (fun x=>x.n==t) S 0) (fun i=>S.length - i) 0 (by simp) (aE _ [(1000000,1000000,_)] ⟨by simp,by simp,by simp [aB,Blk.live],bT⟩ (by simp [aB])) ?_
 rintro i ⟨hi,hf⟩
 by_cases hlt:i<S.length
 ·rw [dX hlt] at hf
  obtain ⟨u,hu⟩:∃ u,u=S[i]:=⟨_,rfl⟩
  have hgi:∀ h,S[i]'h=u:=fun _=>hu.symm
  rw [← hu] at hf
  have hw:=aH (n:=(i:Int)+1) (by omega) (by omega)
  simp [hlt,hgi,Col.c]
  (repeat' first|contradiction|exact .ok|apply And.intro|intro _|(apply gc<;>simp+contextual))
  refine aK [1000000] (aEj u t) (by simp) (by simp) (by simp) (by simp) (by simp [Col.a,Col.c]) ?_
  cases he:u.n==t
  ·rw [he] at hf
   simp [he]
   (repeat' first|contradiction|exact .ok|apply And.intro|intro _|(apply gc<;>simp+contextual[he]))
   refine ⟨i+1,⟨by omega,by simpa using hf⟩,?_,by simp; omega⟩
   exact aE _ [(1000000,1000000,_)] ⟨by simp,by simp,by simp [aB,Blk.live],bT⟩ (by simp [aB,hw])
  ·rw [he] at hf
   simp only [if_true] at hf
   simp [he,← hf]
   (repeat' first|contradiction|exact .ok|apply And.intro|intro _|(apply gc<;>simp+contextual[he]))
 have hie:i=S.length:=by omega
 subst hie
 rw [List.drop_length,aY] at hf
 simp [← hf]
 all_goals exact gz
theorem aAn (x:Tb) (hl:x.cols.length≤1000) (t:List UInt8):Cf En 139 [x.a,.d (.str t)] [] (place (fun c:Col=>c.n==t) x.cols) []:=by
 refine aD aW (fn:=Tryz.f139) (by kernel_rfl) rfl (by kernel_rfl) (by decide) (by simp) ?_
 unfold place
 simp [Tb.a,Tb.c]
 (repeat' first|contradiction|exact .ok|apply And.intro|intro _|(apply gc<;>simp+contextual))
 refine aK [3] (aEk x.cols hl t) (by simp) (by simp) (by simp) (by simp) (by simp) ?_
 generalize aY (fun c:Col=>c.n==t) x.cols 0=k
 simp
 (repeat' first|contradiction|exact .ok|apply And.intro|intro _|(apply gc<;>simp+contextual))
 split <;> omega
theorem UZ (x:Tb) (hl:x.cols.length≤1000) (t:List UInt8):Cf En 129 [x.a,.d (.str t)] [] (place (fun c:Col=>c.n==t) x.cols) []:=by
 refine aD aW (fn:=Tryz.f129) (by kernel_rfl) rfl (by kernel_rfl) (by decide) (by simp) ?_
 simp [Tb.a,Tb.c]
 (repeat' first|contradiction|exact .ok|apply And.intro|intro _|(apply gc<;>simp+contextual))
 refine aL aW (by decide) (fun i:Nat=>{ s:=cG [(1,.d (.str t)),(2,.ptr 2 0 0),(6,.d (.int .i64 i))],b:=cE [(2,2,.var (x.c.map AV.d))] }) (fun i=>i≤x.cols.length∧aY (fun c:Col=>c.n==t) (x.cols.drop i) i=aY (fun c:Col=>c.n==t) x.cols 0) (fun i=>x.cols.length - i) 0 (by simp) (aE [(1,_),(2,_),(6,_)] [(2,2,_)] ⟨by simp,by simp,by simp [aB,Blk.live,Tb.c],by simp⟩ (by simp [aB])) ?_
 rintro i ⟨hi,hf⟩
 by_cases hlt:i<x.cols.length
 ·rw [dX hlt] at hf
  obtain ⟨u,hu⟩:∃ u,u=x.cols[i]:=⟨_,rfl⟩
  have hgi:∀ h,x.cols[i]'h=u:=fun _=>hu.symm
  rw [← hu] at hf
  have hw:=aH (n:=(i:Int)+1) (by omega) (by omega)
  by_cases he:u.n=t
  rotate_left
  ·rw [show (u.n==t)=false from by simpa using he] at hf
   simp [hlt,hgi,Tb.c,Col.c,he]
   (repeat' first|contradiction|exact .ok|apply And.intro|intro _|(apply gc<;>simp+contextual[hlt,hgi,he]))
   refine ⟨i+1,⟨by omega,by simpa using hf⟩,?_,by simp; omega⟩
   exact aE [(1,_),(2,_),(6,_)] [(2,2,_)] ⟨by simp,by simp,by simp [aB,Blk.live,Tb.c],by simp⟩ (by simp [aB,hw])
  ·rw [show (u.n==t)=true from by simpa using he] at hf
   simp only [if_true] at hf
   rw [cW hf.symm]
   simp [hlt,hgi,Tb.c,Col.c,he]
   (repeat' first|contradiction|exact .ok|apply And.intro|intro _|(apply gc<;>simp+contextual[hlt,hgi,he]))
 have hie:i=x.cols.length:=by omega
 subst hie
 rw [List.drop_length,aY] at hf
 rw [lQ hf.symm]
 simp [Tb.c]
 all_goals exact gz
end Go.Proofs.Tryz
