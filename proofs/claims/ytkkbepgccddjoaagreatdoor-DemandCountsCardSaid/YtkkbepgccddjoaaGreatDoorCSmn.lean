import Derived.Test.YtkkbepgccddjoaaGreatDoorCShy
import Derived.Test.YtkkbepgccddjoaaGreatDoorCEnvR
import Derived.Test.YtkkbepgccddjoaaGreatDoorAbB
import Derived.Test.YtkkbepgccddjoaaGreatDoorCRe0
set_option linter.all false
namespace Go.Proofs.Tryz
open Go.Ab
set_option maxRecDepth 100000
set_option maxHeartbeats 1000000
theorem gF (n:Nat) (h:n≤100000) (c:Nat) (hc:c≤1000):n*c≤140737488355328∧n≤9223372036854775807∧n≤9223372036854775806∧n≤9223372036854775805∧n≤9223372036854775804 :=
 ⟨Nat.le_trans (Nat.mul_le_mul h hc) (by decide),by omega,by omega,by omega,by omega⟩
@[simp] theorem aFe {α β:Type} (f:α→β) (l:List α):List.take l.length (l.map f)=l.map f:=List.take_of_length_le (by simp)
@[simp] theorem aFf {α β:Type} (f:α→β) (l:List α):List.drop l.length (l.map f)=[]:=List.drop_of_length_le (by simp)
@[simp] theorem aGZ {a b:Int} (h:¬ a=b):(a==b)=false:=by simpa using h
@[simp] theorem aHa {a b:Int} (h:¬ a=b):(a != b)=true:=by simpa using h
@[simp] theorem aHb {a b:List UInt8} (h:¬ a=b):(a==b)=false:=by simpa using h
@[simp] theorem aHc {a b:List UInt8} (h:¬ a=b):(a != b)=true:=by simpa using h
def WK (E:eC) (N nb:Nat) (F0:St) (c:Code) (Q:AExit→St→Prop):Prop:=∀ st,Sub E N nb st F0→pP E N nb c st Q ⟨⟩
structure Col where
 n:List UInt8
 t:Int
 b:Bool
def Col.c (x:Col):List D:=[.str x.n,.int .i64 x.t,.bool x.b]
def Col.a (x:Col):AV:=.agg (x.c.map AV.d)
structure Fk where
 cols:List Int
 t:List UInt8
def Fk.c (x:Fk):List D:=[.sl (aD x.cols),.str x.t]
def Fk.a (x:Fk):AV:=.agg (x.c.map AV.d)
def oX (l:List Int):List D:=[.sl (aD l)]
structure Tb where
 n:List UInt8
 cols:List Col
 pr:List Int
 un:List (List Int)
 fk:List Fk
 ch:List Ex
def Tb.c (x:Tb):List D:=[.str x.n,.sl (x.cols.map Col.c),.sl (aD x.pr),.sl (x.un.map oX),.sl (x.fk.map Fk.c),.sl (x.ch.map Ex.c)]
def Tb.a (x:Tb):AV:=.agg (x.c.map AV.d)
structure Tb.ok (x:Tb):Prop where
 cols:x.cols.length≤1000
 pr:x.pr.length≤1000
 un:x.un.length≤1000
 fk:x.fk.length≤1000
 ch:x.ch.length≤1000
 fkc:∀ f∈x.fk,f.cols.length≤1000
def cU (x:Tb) (c:Int):Bool:=x.pr.contains c||x.fk.any fun f=>f.cols.contains c
theorem bI {α:Type} {l:List α} {i:Nat} (h:i<l.length):l.take (i+1)=l.take i++[l[i]]:=by
 rw [List.take_add_one,gE h]; rfl
theorem oB {l:List Int} {i:Nat} {c:Int} (h:i<l.length):(l.take (i+1)).contains c=((l.take i).contains c||c==l[i]):=by
 rw [bI h,Bool.eq_iff_iff,Bool.or_eq_true,List.contains_iff_mem,List.contains_iff_mem,List.mem_append,List.mem_singleton,beq_iff_eq]
theorem sH {α:Type} {l:List α} {p:α→Bool} {i:Nat} (h:i<l.length):(l.take (i+1)).any p=((l.take i).any p||p l[i]):=by
 rw [bI h,List.any_append]
 simp only [List.any_cons,List.any_nil,Bool.or_false]
theorem oY {l:List Int} {i:Nat} {c:Int} (h:(l.take i).contains c=true):l.contains c=true:=by
 rw [List.contains_iff_mem] at *
 exact List.mem_of_mem_take h
theorem qH {α:Type} {l:List α} {p:α→Bool} {i:Nat} (hi:i<l.length) (h:p l[i]=true):l.any p=true:=List.any_eq_true.2 ⟨_,List.getElem_mem hi,h⟩
@[simp] theorem aIu {l:List Int} {i:Nat} (h:i<(aD l).length):(aD l)[i]'h=[.int .i64 (l[i]'(by simpa [aD] using h))]:=by simp [aD]
@[simp] theorem mU (l:List Int):(aD l).length=l.length:=List.length_map _
theorem eE {l:List Int} {i:Nat} (h:i<l.length):(aD l)[i]?=some [.int .i64 l[i]]:=by simp [aD,h]
theorem PR (x:Tb) (hx:x.ok) (c:Int):Cf En 78 [x.a,.d (.int .i64 c)] [] (.d (.bool (cU x c))) []:=by
 refine cI aW (fn:=Tryz.f78) rfl ?_
 have l1:=hx.pr
 have l2:=hx.fk
 simp [Tb.a,Tb.c]
 (repeat' first|contradiction|exact .ok|apply And.intro|intro _|(apply gc<;>simp+contextual))
 refine aL aW (fun i:Nat=>{ s:=cE [(1,.d (.int .i64 c)),(2,.ptr 2 0 0),(5,.d (.int .i64 i))],b:=cC [(2,2,.var (x.c.map AV.d))] }) (fun i=>i≤x.pr.length∧(x.pr.take i).contains c=false) (fun i=>x.pr.length - i) 0 (by simp) (sM _ [(2,2,_)] (by simp [aB,Blk.live,Tb.c]) (by simp [aB])) ?_
 rintro i ⟨hi,hc⟩
 by_cases hlt:i<x.pr.length
 ·have hg:=eE hlt
  have hct:=oB (c:=c) hlt
  have hw:=wI (n:=(i:Int)+1)
  by_cases he:x.pr[i]=c
  ·have hk:cU x c=true:=by
    unfold cU
    rw [oY (i:=i+1) (by rw [hct]; simp [he])]; rfl
   simp [Tb.c,mU,hlt,he,hk]
   all_goals exact gz
  ·have he':¬ c=x.pr[i]:=fun e=>he e.symm
   simp [Tb.c,mU,hlt,he]
   (repeat' first|contradiction|exact .ok|apply And.intro|intro _|(apply gc<;>simp+contextual))
   refine ⟨i+1,⟨by omega,by rw [hct,hc]; simpa using he'⟩,?_,by simp; omega⟩
   refine sM _ [(2,2,_)] (by simp [aB,Blk.live]) (by simp [aB,hw])
 have hie:i=x.pr.length:=by omega
 subst hie
 rw [List.take_length] at hc
 simp [Tb.c,mU]
 (repeat' first|contradiction|exact .ok|apply And.intro|intro _|(apply gc<;>simp+contextual))
 refine aL aW (fun i:Nat=>{ s:=cE [(1,.d (.int .i64 c)),(2,.ptr 2 0 0),(6,.d (.int .i64 i))],b:=cC [(2,2,.var (x.c.map AV.d))] }) (fun i=>i≤x.fk.length∧(x.fk.take i).any (fun f=>f.cols.contains c)=false) (fun i=>x.fk.length - i) 0 (by simp) (sM _ [(2,2,_)] (by simp [aB,Blk.live,Tb.c]) (by simp [aB])) ?_
 rintro i ⟨hi,ha⟩
 by_cases hlt:i<x.fk.length
 ·obtain ⟨f,hf⟩:∃ f,f=x.fk[i]:=⟨_,rfl⟩
  have hgi:∀ h,x.fk[i]'h=f:=fun _=>hf.symm
  have hfl:=hx.fkc f (by rw [hf]; exact List.getElem_mem hlt)
  have hat:=sH (p:=fun f=>f.cols.contains c) hlt
  have hag:=qH (p:=fun f=>f.cols.contains c) hlt
  rw [← hf] at hat hag
  have hw:=wI (n:=(i:Int)+1)
  simp [Tb.c,hlt]
  (repeat' first|contradiction|exact .ok|apply And.intro|intro _|(apply gc<;>simp+contextual))
  refine aL aW (fun j:Nat=>{ s:=cE [(1,.d (.int .i64 c)),(2,.ptr 2 0 0),(6,.d (.int .i64 i)),(7,.d (.int .i64 j))],b:=cC [(2,2,.var (x.c.map AV.d))] }) (fun j=>j≤f.cols.length∧(f.cols.take j).contains c=false) (fun j=>f.cols.length - j) 0 (by simp) (sM _ [(2,2,_)] (by simp [aB,Blk.live,Tb.c]) (by simp [aB])) ?_
  rintro j ⟨hj,hcj⟩
  by_cases hjt:j<f.cols.length
  ·have hgj:=eE hjt
   have hct:=oB (c:=c) hjt
   have hwj:=wI (n:=(j:Int)+1)
   by_cases he:f.cols[j]=c
   ·have hk:cU x c=true:=by
     unfold cU
     rw [hag (oY (i:=j+1) (by rw [hct]; simp [he]))]; simp
    simp [Tb.c,hlt,hgi,Fk.c,mU,hjt,he,hk]
    all_goals exact gz
   ·have he':¬ c=f.cols[j]:=fun e=>he e.symm
    simp [Tb.c,hlt,hgi,Fk.c,mU,hjt,he]
    (repeat' first|contradiction|exact .ok|apply And.intro|intro _|(apply gc<;>simp+contextual))
    refine ⟨j+1,⟨by omega,by rw [hct,hcj]; simpa using he'⟩,?_,by simp; omega⟩
    refine sM _ [(2,2,_)] (by simp [aB,Blk.live]) (by simp [aB,hwj])
  have hje:j=f.cols.length:=by omega
  subst hje
  rw [List.take_length] at hcj
  simp [Tb.c,hlt,hgi,Fk.c,mU]
  (repeat' first|contradiction|exact .ok|apply And.intro|intro _|(apply gc<;>simp+contextual))
  refine ⟨i+1,⟨by omega,by rw [hat,ha,hcj]; rfl⟩,?_,by simp; omega⟩
  refine sM _ [(2,2,_)] (by simp [aB,Blk.live]) (by simp [aB,hw])
 have hie:i=x.fk.length:=by omega
 subst hie
 rw [List.take_length] at ha
 have hk:cU x c=false:=by unfold cU; rw [hc,ha]; rfl
 simp [Tb.c,hk]
 all_goals exact gz
end Go.Proofs.Tryz
namespace Go.Proofs.Tryz
def aV {α:Type} (p:α→Bool):List α→Nat→Int
 | [],_=>-1
 | x::l,i=>if p x=true then i else aV p l (i+1)
theorem dM {α:Type} {p:α→Bool} {l:List α} {i k:Nat} (h:i<l.length):aV p (l.drop i) k=if p l[i]=true then (k:Int) else aV p (l.drop (i+1)) (k+1):=by
 rw [List.drop_eq_getElem_cons h,aV]
end Go.Proofs.Tryz
namespace Go.Proofs.Tryz
open Go.Ab
set_option maxRecDepth 100000
set_option maxHeartbeats 2000000
def aN (S:List Tb):AV:=.agg [.d (.sl (S.map Tb.c))]
def place {α:Type} (p:α→Bool) (l:List α):AV:=.tup [.d (.int .i64 (max (aV p l 0) 0)),.d (.bool (decide (0≤aV p l 0)))]
theorem aEQ (x:Tb) (t:List UInt8):Cf En 129 [x.a,.ptr 1000000 0 0] [.var [.d (.str t)]] (.d (.bool (x.n==t))) [.var [.d (.str t)]]:=by
 refine cI aW (fn:=Tryz.f129) rfl ?_
 simp [Tb.a,Tb.c]
 all_goals exact gz
theorem aGD (S:List Tb) (hl:S.length≤1000) (t:List UInt8):Cf En 128 [.d (.sl (S.map Tb.c)),.clo 129 [.ptr 1000000 0 0]] [.var [.d (.str t)]] (.d (.int .i64 (aV (fun x=>x.n==t) S 0))) [.var [.d (.str t)]]:=by
 refine cI aW (fn:=Tryz.f128) rfl ?_
 simp
 (repeat' first|contradiction|exact .ok|apply And.intro|intro _|(apply gc<;>simp+contextual))
 refine aL aW (fun i:Nat=>{ s:=cE [(0,.d (.sl (S.map Tb.c))),(1,.clo 129 [.ptr 1000000 0 0]),(7,.d (.int .i64 S.length)),(8,.d (.int .i64 i))],b:=cC [(1000000,1000000,.var [.d (.str t)])] }) (fun i=>i≤S.length∧aV (fun x=>x.n==t) (S.drop i) i=aV (fun x=>x.n==t) S 0) (fun i=>S.length - i) 0 (by simp) (aI _ [(1000000,1000000,_)] ⟨by simp,by simp,by simp [aB,Blk.live],bK⟩ (by simp [aB])) ?_
 rintro i ⟨hi,hf⟩
 by_cases hlt:i<S.length
 ·rw [dM hlt] at hf
  obtain ⟨u,hu⟩:∃ u,u=S[i]:=⟨_,rfl⟩
  have hgi:∀ h,S[i]'h=u:=fun _=>hu.symm
  rw [← hu] at hf
  have hw:=wI (n:=(i:Int)+1)
  simp [hlt,hgi,Tb.c]
  (repeat' first|contradiction|exact .ok|apply And.intro|intro _|(apply gc<;>simp+contextual))
  refine aH [1000000] (aEQ u t) (by simp) (by simp [Tb.a,Tb.c]) ?_
  cases he:u.n==t
  ·rw [he] at hf
   simp
   (repeat' first|contradiction|exact .ok|apply And.intro|intro _|(apply gc<;>simp+contextual[he]))
   refine ⟨i+1,⟨by omega,by simpa using hf⟩,?_,by simp; omega⟩
   exact aI _ [(1000000,1000000,_)] ⟨by simp,by simp,by simp [aB,Blk.live],bK⟩ (by simp [aB,hw])
  ·rw [he] at hf
   simp only [if_true] at hf
   simp [← hf]
   (repeat' first|contradiction|exact .ok|apply And.intro|intro _|(apply gc<;>simp+contextual[he]))
 have hie:i=S.length:=by omega
 subst hie
 rw [List.drop_length,aV] at hf
 simp [← hf]
 all_goals exact gz
theorem xT (S:List Tb) (hl:S.length≤1000) (t:List UInt8):Cf En 90 [aN S,.d (.str t)] [] (place (fun x:Tb=>x.n==t) S) []:=by
 refine cI aW (fn:=Tryz.f90) rfl ?_
 unfold place
 simp [aN]
 (repeat' first|contradiction|exact .ok|apply And.intro|intro _|(apply gc<;>simp+contextual))
 refine aH [3] (aGD S hl t) (by simp) (by simp) ?_
 generalize aV (fun x:Tb=>x.n==t) S 0=k
 simp
 (repeat' first|contradiction|exact .ok|apply And.intro|intro _|(apply gc<;>simp+contextual))
 split <;> omega
theorem cN {α:Type} {p:α→Bool} {l:List α} {i:Nat} (h:aV p l 0=(i:Int)):place p l=.tup [.d (.int .i64 i),.d (.bool true)]:=by
 unfold place; rw [h]; simp
theorem oS {α:Type} {p:α→Bool} {l:List α} (h:aV p l 0=-1):place p l=.tup [.d (.int .i64 0),.d (.bool false)]:=by
 unfold place; rw [h]; rfl
theorem wJ (S:List Tb) (hl:S.length≤1000) (t:List UInt8):Cf En 57 [aN S,.d (.str t)] [] (place (fun x:Tb=>x.n==t) S) []:=by
 refine cI aW (fn:=Tryz.f57) rfl ?_
 simp [aN]
 (repeat' first|contradiction|exact .ok|apply And.intro|intro _|(apply gc<;>simp+contextual))
 refine aL aW (fun i:Nat=>{ s:=cE [(1,.d (.str t)),(2,.ptr 2 0 0),(6,.d (.int .i64 i))],b:=cC [(2,2,.var [.d (.sl (S.map Tb.c))])] }) (fun i=>i≤S.length∧aV (fun x=>x.n==t) (S.drop i) i=aV (fun x=>x.n==t) S 0) (fun i=>S.length - i) 0 (by simp) (aI [(1,_),(2,_),(6,_)] [(2,2,_)] ⟨by simp,by simp,by simp [aB,Blk.live],by simp⟩ (by simp [aB])) ?_
 rintro i ⟨hi,hf⟩
 by_cases hlt:i<S.length
 ·rw [dM hlt] at hf
  obtain ⟨u,hu⟩:∃ u,u=S[i]:=⟨_,rfl⟩
  have hgi:∀ h,S[i]'h=u:=fun _=>hu.symm
  rw [← hu] at hf
  have hw:=wI (n:=(i:Int)+1)
  by_cases he:u.n=t
  rotate_left
  ·rw [show (u.n==t)=false from by simpa using he] at hf
   simp [hlt,hgi,Tb.c,he]
   (repeat' first|contradiction|exact .ok|apply And.intro|intro _|(apply gc<;>simp+contextual[hlt,hgi,he]))
   refine ⟨i+1,⟨by omega,by simpa using hf⟩,?_,by simp; omega⟩
   exact aI [(1,_),(2,_),(6,_)] [(2,2,_)] ⟨by simp,by simp,by simp [aB,Blk.live],by simp⟩ (by simp [aB,hw])
  ·rw [show (u.n==t)=true from by simpa using he] at hf
   simp only [if_true] at hf
   rw [cN hf.symm]
   simp [hlt,hgi,Tb.c,he]
   (repeat' first|contradiction|exact .ok|apply And.intro|intro _|(apply gc<;>simp+contextual[hlt,hgi,he]))
 have hie:i=S.length:=by omega
 subst hie
 rw [List.drop_length,aV] at hf
 rw [oS hf.symm]
 simp
 all_goals exact gz
theorem aGE (x:Col) (t:List UInt8):Cf En 239 [x.a,.ptr 1000000 0 0] [.var [.d (.str t)]] (.d (.bool (x.n==t))) [.var [.d (.str t)]]:=by
 refine cI aW (fn:=Tryz.f239) rfl ?_
 simp [Col.a,Col.c]
 all_goals exact gz
theorem aGF (S:List Col) (hl:S.length≤1000) (t:List UInt8):Cf En 238 [.d (.sl (S.map Col.c)),.clo 239 [.ptr 1000000 0 0]] [.var [.d (.str t)]] (.d (.int .i64 (aV (fun x=>x.n==t) S 0))) [.var [.d (.str t)]]:=by
 refine cI aW (fn:=Tryz.f238) rfl ?_
 simp
 (repeat' first|contradiction|exact .ok|apply And.intro|intro _|(apply gc<;>simp+contextual))
 refine aL aW (fun i:Nat=>{ s:=cE [(0,.d (.sl (S.map Col.c))),(1,.clo 239 [.ptr 1000000 0 0]),(7,.d (.int .i64 S.length)),(8,.d (.int .i64 i))],b:=cC [(1000000,1000000,.var [.d (.str t)])] }) (fun i=>i≤S.length∧aV (fun x=>x.n==t) (S.drop i) i=aV (fun x=>x.n==t) S 0) (fun i=>S.length - i) 0 (by simp) (aI _ [(1000000,1000000,_)] ⟨by simp,by simp,by simp [aB,Blk.live],bK⟩ (by simp [aB])) ?_
 rintro i ⟨hi,hf⟩
 by_cases hlt:i<S.length
 ·rw [dM hlt] at hf
  obtain ⟨u,hu⟩:∃ u,u=S[i]:=⟨_,rfl⟩
  have hgi:∀ h,S[i]'h=u:=fun _=>hu.symm
  rw [← hu] at hf
  have hw:=wI (n:=(i:Int)+1)
  simp [hlt,hgi,Col.c]
  (repeat' first|contradiction|exact .ok|apply And.intro|intro _|(apply gc<;>simp+contextual))
  refine aH [1000000] (aGE u t) (by simp) (by simp [Col.a,Col.c]) ?_
  cases he:u.n==t
  ·rw [he] at hf
   simp
   (repeat' first|contradiction|exact .ok|apply And.intro|intro _|(apply gc<;>simp+contextual[he]))
   refine ⟨i+1,⟨by omega,by simpa using hf⟩,?_,by simp; omega⟩
   exact aI _ [(1000000,1000000,_)] ⟨by simp,by simp,by simp [aB,Blk.live],bK⟩ (by simp [aB,hw])
  ·rw [he] at hf
   simp only [if_true] at hf
   simp [← hf]
   (repeat' first|contradiction|exact .ok|apply And.intro|intro _|(apply gc<;>simp+contextual[he]))
 have hie:i=S.length:=by omega
 subst hie
 rw [List.drop_length,aV] at hf
 simp [← hf]
 all_goals exact gz
theorem aCx (x:Tb) (hl:x.cols.length≤1000) (t:List UInt8):Cf En 208 [x.a,.d (.str t)] [] (place (fun c:Col=>c.n==t) x.cols) []:=by
 refine cI aW (fn:=Tryz.f208) rfl ?_
 unfold place
 simp [Tb.a,Tb.c]
 (repeat' first|contradiction|exact .ok|apply And.intro|intro _|(apply gc<;>simp+contextual))
 refine aH [3] (aGF x.cols hl t) (by simp) (by simp) ?_
 generalize aV (fun c:Col=>c.n==t) x.cols 0=k
 simp
 (repeat' first|contradiction|exact .ok|apply And.intro|intro _|(apply gc<;>simp+contextual))
 split <;> omega
theorem ZI (x:Tb) (hl:x.cols.length≤1000) (t:List UInt8):Cf En 170 [x.a,.d (.str t)] [] (place (fun c:Col=>c.n==t) x.cols) []:=by
 refine cI aW (fn:=Tryz.f170) rfl ?_
 simp [Tb.a,Tb.c]
 (repeat' first|contradiction|exact .ok|apply And.intro|intro _|(apply gc<;>simp+contextual))
 refine aL aW (fun i:Nat=>{ s:=cE [(1,.d (.str t)),(2,.ptr 2 0 0),(6,.d (.int .i64 i))],b:=cC [(2,2,.var (x.c.map AV.d))] }) (fun i=>i≤x.cols.length∧aV (fun c:Col=>c.n==t) (x.cols.drop i) i=aV (fun c:Col=>c.n==t) x.cols 0) (fun i=>x.cols.length - i) 0 (by simp) (aI [(1,_),(2,_),(6,_)] [(2,2,_)] ⟨by simp,by simp,by simp [aB,Blk.live,Tb.c],by simp⟩ (by simp [aB])) ?_
 rintro i ⟨hi,hf⟩
 by_cases hlt:i<x.cols.length
 ·rw [dM hlt] at hf
  obtain ⟨u,hu⟩:∃ u,u=x.cols[i]:=⟨_,rfl⟩
  have hgi:∀ h,x.cols[i]'h=u:=fun _=>hu.symm
  rw [← hu] at hf
  have hw:=wI (n:=(i:Int)+1)
  by_cases he:u.n=t
  rotate_left
  ·rw [show (u.n==t)=false from by simpa using he] at hf
   simp [hlt,hgi,Tb.c,Col.c,he]
   (repeat' first|contradiction|exact .ok|apply And.intro|intro _|(apply gc<;>simp+contextual[hlt,hgi,he]))
   refine ⟨i+1,⟨by omega,by simpa using hf⟩,?_,by simp; omega⟩
   exact aI [(1,_),(2,_),(6,_)] [(2,2,_)] ⟨by simp,by simp,by simp [aB,Blk.live],by simp⟩ (by simp [aB,hw])
  ·rw [show (u.n==t)=true from by simpa using he] at hf
   simp only [if_true] at hf
   rw [cN hf.symm]
   simp [hlt,hgi,Tb.c,Col.c,he]
   (repeat' first|contradiction|exact .ok|apply And.intro|intro _|(apply gc<;>simp+contextual[hlt,hgi,he]))
 have hie:i=x.cols.length:=by omega
 subst hie
 rw [List.drop_length,aV] at hf
 rw [oS hf.symm]
 simp [Tb.c]
 all_goals exact gz
instance V.dec:DecidableEq V:=fun a b =>
 if h:a.k=b.k∧a.n=b.n∧a.t=b.t then .isTrue (by cases a; cases b; simp only at h; obtain ⟨rfl,rfl,rfl⟩:=h; rfl) else .isFalse fun e=>by subst e; exact h ⟨rfl,rfl,rfl⟩
theorem VW {a b:Int} (h:eT a b=0):a=b:=by
 rcases tX a b with ⟨_,h1,_⟩ | ⟨h1,_,_⟩ | ⟨_,h1,_⟩
 ·omega
 ·exact h1
 ·omega
theorem aEH {a b:List UInt8} (h:pB a b=0):a=b:=by
 rcases pT a b with ⟨_,h1,_⟩ | ⟨h1,_,_⟩ | ⟨_,h1,_⟩
 ·omega
 ·exact h1
 ·omega
theorem V.cmp_eq {v u:V} (h:v.cmp u=0):v=u:=by
 rw [V.cmp_def] at h
 split at h
 ·exact absurd h (by assumption)
 ·rename_i h1
  split at h
  ·exact absurd h (by assumption)
  ·rename_i h2
   cases v; cases u
   simp only [V.mk.injEq]
   exact ⟨VW (by simpa using h1),VW (by simpa using h2),aEH h⟩
def V.lt (v u:V):Prop:=v.cmp u<0
def V.le (v u:V):Prop:=v.cmp u≤0
theorem V.le_trans {a b c:V} (h1:a.le b) (h2:b.le c):a.le c:=V.cmp_trans h1 h2
theorem V.le_refl (v:V):v.le v:=by unfold V.le; rw [V.cmp_self]; omega
def V.beq (a b:V):Bool:=a.k==b.k&&(a.n==b.n&&a.t==b.t)
theorem V.beq_iff (a b:V):V.beq a b=true↔a=b:=by
 cases a; cases b
 simp [V.beq,V.mk.injEq]
structure At where
 col:Int
 op:Int
 v:V
def At.c (x:At):List D:=[.int .i64 x.col,.int .i64 x.op,.int .i64 x.v.k,.int .i64 x.v.n,.str x.v.t]
def At.a (x:At):AV:=.agg (x.c.map AV.d)
def fH (c:Int):Ex:=.mk 5 0 0 [] c []
def At.ex (x:At):Ex:=if x.op=5 then fH x.col else if x.op=21 then .mk 21 0 0 [] 0 [fH x.col] else .mk x.op 0 0 [] 0 [fH x.col,bT x.v 0]
def At.zero (x:At):At:=⟨0,x.op,x.v⟩
def At.tr (x:At) (w:V):Int:=(aG x.zero.ex [w]).tr
end Go.Proofs.Tryz
namespace Go.Proofs.Tryz
def dO (x:Tb) (c:Int):Int:=((x.cols[c.toNat]?).map Col.t).getD 0
end Go.Proofs.Tryz
namespace Go.Proofs.Tryz
open Go.Ab
set_option maxRecDepth 100000
set_option maxHeartbeats 1000000
structure Bk where
 n:Nat
 v:List V
 p:List Int
def Bk.c (x:Bk):List D:=[.int .i64 x.n,.sl (x.v.map V.c),.sl (aD x.p)]
def iG (l:List Bk):List D:=[.sl (l.map Bk.c)]
def cP (X:List (List Bk)):AV:=.agg [.d (.sl (X.map iG))]
def aX (l:List Bk):List Nat:=l.map Bk.n
def bD:List Nat→Nat
 | []=>0
 | c::cs=>c+bD cs
def dJ (at_:Nat):List Nat→List Nat
 | []=>[at_]
 | c::cs=>at_::dJ (at_+c) cs
theorem iK (at_:Nat):∀ l:List Nat,(dJ at_ l).length=l.length+1
 | []=>rfl
 | c::cs=>by rw [dJ,List.length_cons,iK _ cs,List.length_cons]
theorem OX (a b:List Nat):bD (a++b)=bD a+bD b:=by
 induction a with
 | nil=>simp [bD]
 | cons c a ih=>rw [List.cons_append,bD,bD,ih]; omega
theorem OY:∀ (l:List Nat) (at_ j:Nat),j≤l.length→(dJ at_ l)[j]?=some (at_+bD (l.take j))
 | [],at_,j,h=>by
   obtain rfl:j=0:=by simpa using h
   simp [dJ,bD]
 | c::cs,at_,0,_=>by simp [dJ,bD]
 | c::cs,at_,j+1,h=>by
   rw [dJ,List.getElem?_cons_succ,OY cs _ j (by simpa using h),List.take_succ_cons,bD]
   congr 1
   omega
def eP:List Nat→Nat→Nat×Nat
 | [],n=>(0,n)
 | c::cs,n=>if n<c then (0,n) else ((eP cs (n - c)).1+1,(eP cs (n - c)).2)
theorem lU:∀ {l:List Nat} {n:Nat},n<bD l→∃ h:(eP l n).1<l.length,(eP l n).2<l[(eP l n).1]∧n=bD (l.take (eP l n).1)+(eP l n).2
 | [],n,h=>by simp [bD] at h
 | c::cs,n,h=>by
   rw [eP]
   by_cases hc:n<c
   ·rw [if_pos hc]
    exact ⟨by simp,by simpa using hc,by simp [bD]⟩
   ·rw [if_neg hc]
    obtain ⟨h1,h2,h3⟩:=lU (l:=cs) (n:=n - c) (by rw [bD] at h; omega)
    refine ⟨by simpa using h1,by simpa using h2,?_⟩
    simp only [List.take_succ_cons,bD]
    omega
theorem lV {l:List Nat} {j:Nat} (h:j<l.length):bD (l.take (j+1))=bD (l.take j)+l[j]:=by
 rw [bI h,OX]
 simp [bD]
theorem wM (l:List Nat) (j:Nat):bD (l.take j)≤bD l:=by
 have:=OX (l.take j) (l.drop j)
 rw [List.take_append_drop] at this
 omega
def sB (l:List Nat) (b j:Nat):Nat:=bD (l.take b)+j % (l[b]?).getD 1
theorem AG {l:List Nat} {b j:Nat} (h:b<l.length) (h0:0<l[b]):sB l b j<bD l:=by
 unfold sB
 rw [gE h,Option.getD_some]
 have h1:=Nat.mod_lt j h0
 have h2:=lV h
 have h3:=wM l (b+1)
 omega
def aJ (l:List Nat):List Int:=l.map fun n:Nat=>(n:Int)
theorem dC (l:List Nat):(aJ l).length=l.length:=List.length_map _
theorem gC {l:List Nat} {i:Nat} (h:i<l.length):(aJ l)[i]'(by rw [dC]; exact h)=(l[i]:Int):=by unfold aJ; rw [List.getElem_map]
theorem xX (l:List Nat) {i j:Nat} (h:i≤j):bD (l.take i)≤bD (l.take j):=by
 have:=wM (l.take j) i
 rwa [List.take_take,Nat.min_eq_left h] at this
theorem AH {l:List Nat} {j:Nat} (h:j≤l.length):(dJ 0 l)[j]?=some (bD (l.take j)):=by
 rw [OY l 0 j h,Nat.zero_add]
theorem xY (l:List Nat):(dJ 0 l)[l.length]?=some (bD l):=by
 rw [AH (Nat.le_refl _),List.take_length]
end Go.Proofs.Tryz
