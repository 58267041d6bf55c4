import Derived.Test.YtkkbepgccddjoaaGreatDoorAShy
import Derived.Test.YtkkbepgccddjoaaGreatDoorAExp
import Derived.Test.YtkkbepgccddjoaaGreatDoorAbB
import Derived.Test.YtkkbepgccddjoaaGreatDoorTy
import Derived.Lib.IndexMore
set_option linter.all false
namespace Go.Proofs.Tryz
open Go.Ab
def ints (l:List Int):List (List D):=l.map fun n=>[.int .i64 n]
end Go.Proofs.Tryz
namespace Go.Proofs.Tryz
open Go.Ab
set_option maxRecDepth 100000
set_option maxHeartbeats 1000000
theorem szs (n:Nat) (h:n≤100000) (c:Nat) (hc:c≤1000):n*c≤140737488355328∧n≤9223372036854775807∧n≤9223372036854775806∧n≤9223372036854775805∧n≤9223372036854775804 :=
 ⟨Nat.le_trans (Nat.mul_le_mul h hc) (by decide),by omega,by omega,by omega,by omega⟩
@[simp] theorem take_len_map {α β:Type} (f:α→β) (l:List α):List.take l.length (l.map f)=l.map f:=List.take_of_length_le (by simp)
@[simp] theorem drop_len_map {α β:Type} (f:α→β) (l:List α):List.drop l.length (l.map f)=[]:=List.drop_of_length_le (by simp)
@[simp] theorem int_beq_f {a b:Int} (h:¬ a=b):(a==b)=false:=by simpa using h
@[simp] theorem int_bne_t {a b:Int} (h:¬ a=b):(a != b)=true:=by simpa using h
@[simp] theorem str_beq_f {a b:List UInt8} (h:¬ a=b):(a==b)=false:=by simpa using h
@[simp] theorem str_bne_t {a b:List UInt8} (h:¬ a=b):(a != b)=true:=by simpa using h
structure Col where
 n:List UInt8
 t:Int
 b:Bool
def Col.c (x:Col):List D:=[.str x.n,.int .i64 x.t,.bool x.b]
def Col.a (x:Col):AV:=.agg (x.c.map AV.d)
structure Fk where
 cols:List Int
 t:List UInt8
def Fk.c (x:Fk):List D:=[.sl (ints x.cols),.str x.t]
def Fk.a (x:Fk):AV:=.agg (x.c.map AV.d)
def intsD (l:List Int):List D:=[.sl (ints l)]
structure Tb where
 n:List UInt8
 cols:List Col
 pr:List Int
 un:List (List Int)
 fk:List Fk
 ch:List Ex
def Tb.c (x:Tb):List D:=[.str x.n,.sl (x.cols.map Col.c),.sl (ints x.pr),.sl (x.un.map intsD),.sl (x.fk.map Fk.c),.sl (x.ch.map Ex.c)]
def Tb.a (x:Tb):AV:=.agg (x.c.map AV.d)
structure Tb.ok (x:Tb):Prop where
 cols:x.cols.length≤1000
 pr:x.pr.length≤1000
 un:x.un.length≤1000
 fk:x.fk.length≤1000
 ch:x.ch.length≤1000
 fkc:∀ f∈x.fk,f.cols.length≤1000
def keyT (x:Tb) (c:Int):Bool:=x.pr.contains c||x.fk.any fun f=>f.cols.contains c
theorem take_snoc {α:Type} {l:List α} {i:Nat} (h:i<l.length):l.take (i+1)=l.take i++[l[i]]:=by
 rw [List.take_add_one,List.getElem?_eq_getElem h]; rfl
theorem contains_take {l:List Int} {i:Nat} {c:Int} (h:i<l.length):(l.take (i+1)).contains c=((l.take i).contains c||c==l[i]):=by
 rw [take_snoc h,Bool.eq_iff_iff,Bool.or_eq_true,List.contains_iff_mem,List.contains_iff_mem,List.mem_append,List.mem_singleton,beq_iff_eq]
theorem any_take {α:Type} {l:List α} {p:α→Bool} {i:Nat} (h:i<l.length):(l.take (i+1)).any p=((l.take i).any p||p l[i]):=by
 rw [take_snoc h,List.any_append]
 simp only [List.any_cons,List.any_nil,Bool.or_false]
theorem contains_of_take {l:List Int} {i:Nat} {c:Int} (h:(l.take i).contains c=true):l.contains c=true:=by
 rw [List.contains_iff_mem] at *
 exact List.mem_of_mem_take h
theorem any_of_get {α:Type} {l:List α} {p:α→Bool} {i:Nat} (hi:i<l.length) (h:p l[i]=true):l.any p=true:=List.any_eq_true.2 ⟨_,List.getElem_mem hi,h⟩
@[simp] theorem ints_at {l:List Int} {i:Nat} (h:i<(ints l).length):(ints l)[i]'h=[.int .i64 (l[i]'(by simpa [ints] using h))]:=by simp [ints]
@[simp] theorem ints_len (l:List Int):(ints l).length=l.length:=List.length_map _
theorem ints_get {l:List Int} {i:Nat} (h:i<l.length):(ints l)[i]?=some [.int .i64 l[i]]:=by simp [ints,h]
theorem r_key (x:Tb) (hx:x.ok) (c:Int):Cf En 78 [x.a,.d (.int .i64 c)] [] (.d (.bool (keyT x c))) []:=by
 refine cf_intro mix (fn:=Tryz.f78) (by kernel_rfl) rfl (by kernel_rfl) (by decide) (by simp) ?_
 have l1:=hx.pr
 have l2:=hx.fk
 simp [Tb.a,Tb.c]
 (repeat' (first|contradiction|exact .ok|apply And.intro|intro _|(refine gc (fun h=>?_) (fun h=>?_)<;>(have h':=h;(try simp at h');first|done|simp[h,h']|simp))))
 refine aloopT mix (by decide) (fun i:Nat=>{ s:=mkS [(1,.d (.int .i64 c)),(2,.ptr 2 0 0),(5,.d (.int .i64 i))],b:=mkB [(2,2,.var (x.c.map AV.d))] }) (fun i=>i≤x.pr.length∧(x.pr.take i).contains c=false) (fun i=>x.pr.length - i) 0 (by simp) (sub_mk _ [(2,2,_)] ⟨by simp,by simp,by simp [renOf,Blk.live,Tb.c],by simp⟩ (by simp [renOf])) ?_
 rintro i ⟨hi,hc⟩
 by_cases hlt:i<x.pr.length
 ·have hg:=ints_get hlt
  have hct:=contains_take (c:=c) hlt
  have hw:=wrap_in (n:=(i:Int)+1) (by omega) (by omega)
  by_cases he:x.pr[i]=c
  ·have hk:keyT x c=true:=by
    unfold keyT
    rw [contains_of_take (i:=i+1) (by rw [hct]; simp [he])]; rfl
   simp [Tb.c,ints_len,hlt,hg,he,hk]
   all_goals exact gz
  ·have he':¬ c=x.pr[i]:=fun e=>he e.symm
   simp [Tb.c,ints_len,hlt,hg,he]
   (repeat' (first|contradiction|exact .ok|apply And.intro|intro _|(refine gc (fun h=>?_) (fun h=>?_)<;>(have h':=h;(try simp at h');first|done|simp[h,h']|simp))))
   refine ⟨i+1,⟨by omega,by rw [hct,hc]; simpa using he'⟩,?_,by simp; omega⟩
   refine sub_mk _ [(2,2,_)] ⟨by simp,by simp,by simp [renOf,Blk.live,Tb.c],by simp⟩ (by simp [renOf,hw])
 have hie:i=x.pr.length:=by omega
 subst hie
 rw [List.take_length] at hc
 simp [Tb.c,ints_len]
 (repeat' (first|contradiction|exact .ok|apply And.intro|intro _|(refine gc (fun h=>?_) (fun h=>?_)<;>(have h':=h;(try simp at h');first|done|simp[h,h']|simp))))
 refine aloopT mix (by decide) (fun i:Nat=>{ s:=mkS [(1,.d (.int .i64 c)),(2,.ptr 2 0 0),(6,.d (.int .i64 i))],b:=mkB [(2,2,.var (x.c.map AV.d))] }) (fun i=>i≤x.fk.length∧(x.fk.take i).any (fun f=>f.cols.contains c)=false) (fun i=>x.fk.length - i) 0 (by simp) (sub_mk _ [(2,2,_)] ⟨by simp,by simp,by simp [renOf,Blk.live,Tb.c],by simp⟩ (by simp [renOf])) ?_
 rintro i ⟨hi,ha⟩
 by_cases hlt:i<x.fk.length
 ·obtain ⟨f,hf⟩:∃ f,f=x.fk[i]:=⟨_,rfl⟩
  have hgi:∀ h,x.fk[i]'h=f:=fun _=>hf.symm
  have hfl:=hx.fkc f (by rw [hf]; exact List.getElem_mem hlt)
  have hat:=any_take (p:=fun f=>f.cols.contains c) hlt
  have hag:=any_of_get (p:=fun f=>f.cols.contains c) hlt
  rw [← hf] at hat hag
  have hw:=wrap_in (n:=(i:Int)+1) (by omega) (by omega)
  simp [Tb.c,hlt]
  (repeat' (first|contradiction|exact .ok|apply And.intro|intro _|(refine gc (fun h=>?_) (fun h=>?_)<;>(have h':=h;(try simp at h');first|done|simp[h,h']|simp))))
  refine aloopT mix (by decide) (fun j:Nat=>{ s:=mkS [(1,.d (.int .i64 c)),(2,.ptr 2 0 0),(6,.d (.int .i64 i)),(7,.d (.int .i64 j))],b:=mkB [(2,2,.var (x.c.map AV.d))] }) (fun j=>j≤f.cols.length∧(f.cols.take j).contains c=false) (fun j=>f.cols.length - j) 0 (by simp) (sub_mk _ [(2,2,_)] ⟨by simp,by simp,by simp [renOf,Blk.live,Tb.c],by simp⟩ (by simp [renOf])) ?_
  rintro j ⟨hj,hcj⟩
  by_cases hjt:j<f.cols.length
  ·have hgj:=ints_get hjt
   have hct:=contains_take (c:=c) hjt
   have hwj:=wrap_in (n:=(j:Int)+1) (by omega) (by omega)
   by_cases he:f.cols[j]=c
   ·have hk:keyT x c=true:=by
     unfold keyT
     rw [hag (contains_of_take (i:=j+1) (by rw [hct]; simp [he]))]; simp
    simp [Tb.c,hlt,hgi,Fk.c,ints_len,hjt,hgj,he,hk]
    all_goals exact gz
   ·have he':¬ c=f.cols[j]:=fun e=>he e.symm
    simp [Tb.c,hlt,hgi,Fk.c,ints_len,hjt,hgj,he]
    (repeat' (first|contradiction|exact .ok|apply And.intro|intro _|(refine gc (fun h=>?_) (fun h=>?_)<;>(have h':=h;(try simp at h');first|done|simp[h,h']|simp))))
    refine ⟨j+1,⟨by omega,by rw [hct,hcj]; simpa using he'⟩,?_,by simp; omega⟩
    refine sub_mk _ [(2,2,_)] ⟨by simp,by simp,by simp [renOf,Blk.live,Tb.c],by simp⟩ (by simp [renOf,hwj])
  have hje:j=f.cols.length:=by omega
  subst hje
  rw [List.take_length] at hcj
  simp [Tb.c,hlt,hgi,Fk.c,ints_len]
  (repeat' (first|contradiction|exact .ok|apply And.intro|intro _|(refine gc (fun h=>?_) (fun h=>?_)<;>(have h':=h;(try simp at h');first|done|simp[h,h']|simp))))
  refine ⟨i+1,⟨by omega,by rw [hat,ha,hcj]; rfl⟩,?_,by simp; omega⟩
  refine sub_mk _ [(2,2,_)] ⟨by simp,by simp,by simp [renOf,Blk.live,Tb.c],by simp⟩ (by simp [renOf,hw])
 have hie:i=x.fk.length:=by omega
 subst hie
 rw [List.take_length] at ha
 have hk:keyT x c=false:=by unfold keyT; rw [hc,ha]; rfl
 simp [Tb.c,hk]
 all_goals exact gz
end Go.Proofs.Tryz
namespace Go.Proofs.Tryz
open Go.Ab
set_option maxRecDepth 100000
set_option maxHeartbeats 2000000
def schA (S:List Tb):AV:=.agg [.d (.sl (S.map Tb.c))]
def place {α:Type} (p:α→Bool) (l:List α):AV:=.tup [.d (.int .i64 (max (fidx p l 0) 0)),.d (.bool (decide (0≤fidx p l 0)))]
theorem s_find1 (x:Tb) (t:List UInt8):Cf En 129 [x.a,.ptr 1000000 0 0] [.var [.d (.str t)]] (.d (.bool (x.n==t))) [.var [.d (.str t)]]:=by
 refine cf_intro mix (fn:=Tryz.f129) (by kernel_rfl) rfl (by kernel_rfl) (by decide) (by simp) ?_
 simp [Tb.a,Tb.c]
 all_goals exact gz
theorem s_idxT (S:List Tb) (hl:S.length≤1000) (t:List UInt8):Cf En 128 [.d (.sl (S.map Tb.c)),.clo 129 [.ptr 1000000 0 0]] [.var [.d (.str t)]] (.d (.int .i64 (fidx (fun x=>x.n==t) S 0))) [.var [.d (.str t)]]:=by
 refine cf_intro mix (fn:=Tryz.f128) (by kernel_rfl) rfl (by kernel_rfl) (by decide) (by simp) ?_
 simp
 (repeat' (first|contradiction|exact .ok|apply And.intro|intro _|(refine gc (fun h=>?_) (fun h=>?_)<;>(have h':=h;(try simp at h');first|done|simp[h,h']|simp))))
 refine aloopT mix (by decide) (fun i:Nat=>{ s:=mkS [(0,.d (.sl (S.map Tb.c))),(1,.clo 129 [.ptr 1000000 0 0]),(7,.d (.int .i64 S.length)),(8,.d (.int .i64 i))],b:=mkB [(1000000,1000000,.var [.d (.str t)])] }) (fun i=>i≤S.length∧fidx (fun x=>x.n==t) (S.drop i) i=fidx (fun x=>x.n==t) S 0) (fun i=>S.length - i) 0 (by simp) (sub_mk _ [(1000000,1000000,_)] ⟨by simp,by simp,by simp [renOf,Blk.live],base1⟩ (by simp [renOf])) ?_
 rintro i ⟨hi,hf⟩
 by_cases hlt:i<S.length
 ·rw [fidx_drop hlt] at hf
  obtain ⟨u,hu⟩:∃ u,u=S[i]:=⟨_,rfl⟩
  have hgi:∀ h,S[i]'h=u:=fun _=>hu.symm
  rw [← hu] at hf
  have hw:=wrap_in (n:=(i:Int)+1) (by omega) (by omega)
  simp [hlt,hgi,Tb.c]
  (repeat' (first|contradiction|exact .ok|apply And.intro|intro _|(refine gc (fun h=>?_) (fun h=>?_)<;>(have h':=h;(try simp at h');first|done|simp[h,h']|simp))))
  refine acallT_hand [1000000] (s_find1 u t) (by simp) (by simp) (by simp) (by simp) (by simp [Tb.a,Tb.c]) ?_
  cases he:u.n==t
  ·rw [he] at hf
   simp [he]
   (repeat' (first|contradiction|exact .ok|apply And.intro|intro _|(refine gc (fun h=>?_) (fun h=>?_)<;>(have h':=h;(try simp at h');first|done|simp[h,h',he]|simp[he]))))
   refine ⟨i+1,⟨by omega,by simpa using hf⟩,?_,by simp; omega⟩
   exact sub_mk _ [(1000000,1000000,_)] ⟨by simp,by simp,by simp [renOf,Blk.live],base1⟩ (by simp [renOf,hw])
  ·rw [he] at hf
   simp only [if_true] at hf
   simp [he,← hf]
   (repeat' (first|contradiction|exact .ok|apply And.intro|intro _|(refine gc (fun h=>?_) (fun h=>?_)<;>(have h':=h;(try simp at h');first|done|simp[h,h',he]|simp[he]))))
 have hie:i=S.length:=by omega
 subst hie
 rw [List.drop_length,fidx] at hf
 simp [← hf]
 all_goals exact gz
theorem s_find (S:List Tb) (hl:S.length≤1000) (t:List UInt8):Cf En 90 [schA S,.d (.str t)] [] (place (fun x:Tb=>x.n==t) S) []:=by
 refine cf_intro mix (fn:=Tryz.f90) (by kernel_rfl) rfl (by kernel_rfl) (by decide) (by simp) ?_
 unfold place
 simp [schA]
 (repeat' (first|contradiction|exact .ok|apply And.intro|intro _|(refine gc (fun h=>?_) (fun h=>?_)<;>(have h':=h;(try simp at h');first|done|simp[h,h']|simp))))
 refine acallT_hand [3] (s_idxT S hl t) (by simp) (by simp) (by simp) (by simp) (by simp) ?_
 generalize fidx (fun x:Tb=>x.n==t) S 0=k
 simp
 (repeat' (first|contradiction|exact .ok|apply And.intro|intro _|(refine gc (fun h=>?_) (fun h=>?_)<;>(have h':=h;(try simp at h');first|done|simp[h,h']|simp))))
 split <;> omega
theorem place_at {α:Type} {p:α→Bool} {l:List α} {i:Nat} (h:fidx p l 0=(i:Int)):place p l=.tup [.d (.int .i64 i),.d (.bool true)]:=by
 unfold place; rw [h]; simp
theorem place_no {α:Type} {p:α→Bool} {l:List α} (h:fidx p l 0=-1):place p l=.tup [.d (.int .i64 0),.d (.bool false)]:=by
 unfold place; rw [h]; rfl
theorem r3_find (S:List Tb) (hl:S.length≤1000) (t:List UInt8):Cf En 57 [schA S,.d (.str t)] [] (place (fun x:Tb=>x.n==t) S) []:=by
 refine cf_intro mix (fn:=Tryz.f57) (by kernel_rfl) rfl (by kernel_rfl) (by decide) (by simp) ?_
 simp [schA]
 (repeat' (first|contradiction|exact .ok|apply And.intro|intro _|(refine gc (fun h=>?_) (fun h=>?_)<;>(have h':=h;(try simp at h');first|done|simp[h,h']|simp))))
 refine aloopT mix (by decide) (fun i:Nat=>{ s:=mkS [(1,.d (.str t)),(2,.ptr 2 0 0),(6,.d (.int .i64 i))],b:=mkB [(2,2,.var [.d (.sl (S.map Tb.c))])] }) (fun i=>i≤S.length∧fidx (fun x=>x.n==t) (S.drop i) i=fidx (fun x=>x.n==t) S 0) (fun i=>S.length - i) 0 (by simp) (sub_mk [(1,_),(2,_),(6,_)] [(2,2,_)] ⟨by simp,by simp,by simp [renOf,Blk.live],by simp⟩ (by simp [renOf])) ?_
 rintro i ⟨hi,hf⟩
 by_cases hlt:i<S.length
 ·rw [fidx_drop hlt] at hf
  obtain ⟨u,hu⟩:∃ u,u=S[i]:=⟨_,rfl⟩
  have hgi:∀ h,S[i]'h=u:=fun _=>hu.symm
  rw [← hu] at hf
  have hw:=wrap_in (n:=(i:Int)+1) (by omega) (by omega)
  by_cases he:u.n=t
  rotate_left
  ·rw [show (u.n==t)=false from by simpa using he] at hf
   simp [hlt,hgi,Tb.c,he]
   (repeat' (first|contradiction|exact .ok|apply And.intro|intro _|(refine gc (fun h=>?_) (fun h=>?_)<;>(have h':=h;(try simp at h');first|done|simp[h,h',hlt,hgi,he]|simp[hlt,hgi,he]))))
   refine ⟨i+1,⟨by omega,by simpa using hf⟩,?_,by simp; omega⟩
   exact sub_mk [(1,_),(2,_),(6,_)] [(2,2,_)] ⟨by simp,by simp,by simp [renOf,Blk.live],by simp⟩ (by simp [renOf,hw])
  ·rw [show (u.n==t)=true from by simpa using he] at hf
   simp only [if_true] at hf
   rw [place_at hf.symm]
   simp [hlt,hgi,Tb.c,Col.c,he]
   (repeat' (first|contradiction|exact .ok|apply And.intro|intro _|(refine gc (fun h=>?_) (fun h=>?_)<;>(have h':=h;(try simp at h');first|done|simp[h,h',hlt,hgi,he]|simp[hlt,hgi,he]))))
 have hie:i=S.length:=by omega
 subst hie
 rw [List.drop_length,fidx] at hf
 rw [place_no hf.symm]
 simp
 all_goals exact gz
theorem s_col1 (x:Col) (t:List UInt8):Cf En 239 [x.a,.ptr 1000000 0 0] [.var [.d (.str t)]] (.d (.bool (x.n==t))) [.var [.d (.str t)]]:=by
 refine cf_intro mix (fn:=Tryz.f239) (by kernel_rfl) rfl (by kernel_rfl) (by decide) (by simp) ?_
 simp [Col.a,Col.c]
 all_goals exact gz
theorem s_idxC (S:List Col) (hl:S.length≤1000) (t:List UInt8):Cf En 238 [.d (.sl (S.map Col.c)),.clo 239 [.ptr 1000000 0 0]] [.var [.d (.str t)]] (.d (.int .i64 (fidx (fun x=>x.n==t) S 0))) [.var [.d (.str t)]]:=by
 refine cf_intro mix (fn:=Tryz.f238) (by kernel_rfl) rfl (by kernel_rfl) (by decide) (by simp) ?_
 simp
 (repeat' (first|contradiction|exact .ok|apply And.intro|intro _|(refine gc (fun h=>?_) (fun h=>?_)<;>(have h':=h;(try simp at h');first|done|simp[h,h']|simp))))
 refine aloopT mix (by decide) (fun i:Nat=>{ s:=mkS [(0,.d (.sl (S.map Col.c))),(1,.clo 239 [.ptr 1000000 0 0]),(7,.d (.int .i64 S.length)),(8,.d (.int .i64 i))],b:=mkB [(1000000,1000000,.var [.d (.str t)])] }) (fun i=>i≤S.length∧fidx (fun x=>x.n==t) (S.drop i) i=fidx (fun x=>x.n==t) S 0) (fun i=>S.length - i) 0 (by simp) (sub_mk _ [(1000000,1000000,_)] ⟨by simp,by simp,by simp [renOf,Blk.live],base1⟩ (by simp [renOf])) ?_
 rintro i ⟨hi,hf⟩
 by_cases hlt:i<S.length
 ·rw [fidx_drop hlt] at hf
  obtain ⟨u,hu⟩:∃ u,u=S[i]:=⟨_,rfl⟩
  have hgi:∀ h,S[i]'h=u:=fun _=>hu.symm
  rw [← hu] at hf
  have hw:=wrap_in (n:=(i:Int)+1) (by omega) (by omega)
  simp [hlt,hgi,Col.c]
  (repeat' (first|contradiction|exact .ok|apply And.intro|intro _|(refine gc (fun h=>?_) (fun h=>?_)<;>(have h':=h;(try simp at h');first|done|simp[h,h']|simp))))
  refine acallT_hand [1000000] (s_col1 u t) (by simp) (by simp) (by simp) (by simp) (by simp [Col.a,Col.c]) ?_
  cases he:u.n==t
  ·rw [he] at hf
   simp [he]
   (repeat' (first|contradiction|exact .ok|apply And.intro|intro _|(refine gc (fun h=>?_) (fun h=>?_)<;>(have h':=h;(try simp at h');first|done|simp[h,h',he]|simp[he]))))
   refine ⟨i+1,⟨by omega,by simpa using hf⟩,?_,by simp; omega⟩
   exact sub_mk _ [(1000000,1000000,_)] ⟨by simp,by simp,by simp [renOf,Blk.live],base1⟩ (by simp [renOf,hw])
  ·rw [he] at hf
   simp only [if_true] at hf
   simp [he,← hf]
   (repeat' (first|contradiction|exact .ok|apply And.intro|intro _|(refine gc (fun h=>?_) (fun h=>?_)<;>(have h':=h;(try simp at h');first|done|simp[h,h',he]|simp[he]))))
 have hie:i=S.length:=by omega
 subst hie
 rw [List.drop_length,fidx] at hf
 simp [← hf]
 all_goals exact gz
theorem s_column (x:Tb) (hl:x.cols.length≤1000) (t:List UInt8):Cf En 208 [x.a,.d (.str t)] [] (place (fun c:Col=>c.n==t) x.cols) []:=by
 refine cf_intro mix (fn:=Tryz.f208) (by kernel_rfl) rfl (by kernel_rfl) (by decide) (by simp) ?_
 unfold place
 simp [Tb.a,Tb.c]
 (repeat' (first|contradiction|exact .ok|apply And.intro|intro _|(refine gc (fun h=>?_) (fun h=>?_)<;>(have h':=h;(try simp at h');first|done|simp[h,h']|simp))))
 refine acallT_hand [3] (s_idxC x.cols hl t) (by simp) (by simp) (by simp) (by simp) (by simp) ?_
 generalize fidx (fun c:Col=>c.n==t) x.cols 0=k
 simp
 (repeat' (first|contradiction|exact .ok|apply And.intro|intro _|(refine gc (fun h=>?_) (fun h=>?_)<;>(have h':=h;(try simp at h');first|done|simp[h,h']|simp))))
 split <;> omega
theorem r3_column (x:Tb) (hl:x.cols.length≤1000) (t:List UInt8):Cf En 170 [x.a,.d (.str t)] [] (place (fun c:Col=>c.n==t) x.cols) []:=by
 refine cf_intro mix (fn:=Tryz.f170) (by kernel_rfl) rfl (by kernel_rfl) (by decide) (by simp) ?_
 simp [Tb.a,Tb.c]
 (repeat' (first|contradiction|exact .ok|apply And.intro|intro _|(refine gc (fun h=>?_) (fun h=>?_)<;>(have h':=h;(try simp at h');first|done|simp[h,h']|simp))))
 refine aloopT mix (by decide) (fun i:Nat=>{ s:=mkS [(1,.d (.str t)),(2,.ptr 2 0 0),(6,.d (.int .i64 i))],b:=mkB [(2,2,.var (x.c.map AV.d))] }) (fun i=>i≤x.cols.length∧fidx (fun c:Col=>c.n==t) (x.cols.drop i) i=fidx (fun c:Col=>c.n==t) x.cols 0) (fun i=>x.cols.length - i) 0 (by simp) (sub_mk [(1,_),(2,_),(6,_)] [(2,2,_)] ⟨by simp,by simp,by simp [renOf,Blk.live,Tb.c],by simp⟩ (by simp [renOf])) ?_
 rintro i ⟨hi,hf⟩
 by_cases hlt:i<x.cols.length
 ·rw [fidx_drop hlt] at hf
  obtain ⟨u,hu⟩:∃ u,u=x.cols[i]:=⟨_,rfl⟩
  have hgi:∀ h,x.cols[i]'h=u:=fun _=>hu.symm
  rw [← hu] at hf
  have hw:=wrap_in (n:=(i:Int)+1) (by omega) (by omega)
  by_cases he:u.n=t
  rotate_left
  ·rw [show (u.n==t)=false from by simpa using he] at hf
   simp [hlt,hgi,Tb.c,Col.c,he]
   (repeat' (first|contradiction|exact .ok|apply And.intro|intro _|(refine gc (fun h=>?_) (fun h=>?_)<;>(have h':=h;(try simp at h');first|done|simp[h,h',hlt,hgi,he]|simp[hlt,hgi,he]))))
   refine ⟨i+1,⟨by omega,by simpa using hf⟩,?_,by simp; omega⟩
   exact sub_mk [(1,_),(2,_),(6,_)] [(2,2,_)] ⟨by simp,by simp,by simp [renOf,Blk.live,Tb.c],by simp⟩ (by simp [renOf,hw])
  ·rw [show (u.n==t)=true from by simpa using he] at hf
   simp only [if_true] at hf
   rw [place_at hf.symm]
   simp [hlt,hgi,Tb.c,Col.c,he]
   (repeat' (first|contradiction|exact .ok|apply And.intro|intro _|(refine gc (fun h=>?_) (fun h=>?_)<;>(have h':=h;(try simp at h');first|done|simp[h,h',hlt,hgi,he]|simp[hlt,hgi,he]))))
 have hie:i=x.cols.length:=by omega
 subst hie
 rw [List.drop_length,fidx] at hf
 rw [place_no hf.symm]
 simp [Tb.c]
 all_goals exact gz
end Go.Proofs.Tryz
namespace Go.Proofs.Tryz
open Go.Ab
set_option maxRecDepth 100000
set_option maxHeartbeats 2000000
@[simp] theorem mapk:mapKey? Tryz.prog 221=some (.int .i64,some (.bool false)):=by kernel_rfl
theorem m_nil:Cf En 214 [.d (.val (.map none))] [] (.d (.bool false)) []:=by
 refine cf_intro mix (fn:=Tryz.f214) (by kernel_rfl) rfl (by kernel_rfl) (by decide) (by simp) ?_
 simp
 all_goals exact gz
theorem m_len (es:List (D×D)) (h:es.length≤1000):Cf En 214 [.mref 1000000] [.mp es] (.d (.bool (es.length==0))) [.mp es]:=by
 refine cf_intro mix (fn:=Tryz.f214) (by kernel_rfl) rfl (by kernel_rfl) (by decide) (by simp) ?_
 have e:((es.length:Int)==0)=(es.length==0):=by rw [Bool.eq_iff_iff]; simp
 simp [e]
 all_goals exact gz
def mAV (al:Nat→Bool) (o k:Nat):AV:=if al k=true then .mref (o+k) else .d (.val (.map none))
def mB (al:Nat→Bool) (es:Nat→List (D×D)) (o N:Nat):List Blk:=.varr 221 1 (seqF (fun k=>[mAV al o k]) N)::seqF (fun k=>.mp (es k)) N
theorem mB_len (al:Nat→Bool) (es:Nat→List (D×D)) (o N:Nat):(mB al es o N).length=N+1:=by simp [mB]
theorem m_idx (al:Nat→Bool) (es:Nat→List (D×D)) (N:Nat) (hN:N≤1000) (hes:∀ k,k<N→(es k).length≤1000) :
  Cf En 213 [.ref 1000000 0 N 1,.clo 214 []] (mB al es 1000001 N) (.d (.int .i64 (fidx (fun k=>al k&&(es k).length==0) (seqF (fun k=>k) N) 0))) (mB al es 1000001 N):=by
 refine cf_intro mix (fn:=Tryz.f213) (by kernel_rfl) rfl (by kernel_rfl) (by decide) (by simp) ?_
 have b0:blkOf (mB al es 1000001 N) 1000000=.varr 221 1 (seqF (fun k=>[mAV al 1000001 k]) N):=by simp [blkOf,mB]
 have b1:∀ k,k<N→blkOf (mB al es 1000001 N) (1000001+k)=.mp (es k):=fun k hk=>by
  unfold blkOf mB
  rw [if_pos (by rw [firstName_eq]; omega),show 1000001+k - firstName=k+1 from by rw [firstName_eq]; omega,List.getElem?_cons_succ,seqF_get,if_pos hk]; rfl
 have hkeep:KeptOk (mB al es 1000001 N).length (blkOf (mB al es 1000001 N)) (idK (mB al es 1000001 N)):=by
  refine keptH rfl fun i b hb=>?_
  have hil:=(List.getElem?_eq_some_iff.1 hb).1
  rw [mB_len] at hil
  cases i with
  | zero =>
    simp only [mB,List.getElem?_cons_zero,Option.some.injEq] at hb
    subst hb
    rw [show firstName+0=1000000 from rfl,b0]
    refine ⟨.inl rfl,?_⟩
    simp only [cvB,seqF_map]
    congr 1
    refine seqF_congr fun k hk=>?_
    simp only [cvAs,mAV]
    split
    ·simp only [cvA,renOf_idK,mB_len,firstName_eq]
     rw [if_pos (by omega)]
    ·simp only [cvA]
  | succ k =>
    simp only [mB,List.getElem?_cons_succ,seqF_get] at hb
    split at hb <;> simp only [Option.some.injEq,reduceCtorEq] at hb
    subst hb
    rename_i hk
    rw [show firstName+(k+1)=1000001+k from by rw [firstName_eq]; omega,b1 k hk]
    exact ⟨.inl rfl,rfl⟩
 simp
 (repeat' (first|contradiction|exact .ok|apply And.intro|intro _|(refine gc (fun h=>?_) (fun h=>?_)<;>(have h':=h;(try simp at h');first|done|simp[h,h']|simp))))
 refine aloopT mix (by decide) (fun i:Nat=>{ s:=mkS [(0,.ref 1000000 0 N 1),(1,.clo 214 []),(7,.d (.int .i64 N)),(8,.d (.int .i64 i))],b:=blkOf (mB al es 1000001 N) }) (fun i=>i≤N∧fidx (fun k=>al k&&(es k).length==0) ((seqF (fun k=>k) N).drop i) i=fidx (fun k=>al k&&(es k).length==0) (seqF (fun k=>k) N) 0) (fun i=>N - i) 0 (by simp) (sub_sb rfl _ (by simp)) ?_
 rintro i ⟨hi,hf⟩
 by_cases hlt:i<N
 ·rw [fidx_drop (by simpa using hlt)] at hf
  have hgi:∀ h,(seqF (fun k=>k) N)[i]'h=i:=fun h=>by
   have:=seqF_get (fun k=>k) N i
   rw [List.getElem?_eq_getElem h,if_pos hlt] at this
   exact Option.some.inj this
  rw [hgi] at hf
  have hw:=wrap_in (n:=(i:Int)+1) (by omega) (by omega)
  have hr:(seqF (fun k=>[mAV al 1000001 k]) N)[i]?=some [mAV al 1000001 i]:=by rw [seqF_get,if_pos hlt]
  have hr2:∀ h,(seqF (fun k=>[mAV al 1000001 k]) N)[i]'h=[mAV al 1000001 i]:=fun h=>by
   rw [List.getElem?_eq_getElem h] at hr
   exact Option.some.inj hr
  cases ha:al i
  ·have hr3:∀ h,(seqF (fun k=>[mAV al 1000001 k]) N)[i]'h=[.d (.val (.map none))]:=fun h=>by rw [hr2,mAV,ha]; rfl
   rw [ha] at hf
   simp [hlt,b0,hr3]
   (repeat' (first|contradiction|exact .ok|apply And.intro|intro _|(refine gc (fun h=>?_) (fun h=>?_)<;>(have h':=h;(try simp at h');first|done|simp[h,h']|simp))))
   refine acallT_plain m_nil (by simp) ?_
   simp
   (repeat' (first|contradiction|exact .ok|apply And.intro|intro _|(refine gc (fun h=>?_) (fun h=>?_)<;>(have h':=h;(try simp at h');first|done|simp[h,h']|simp))))
   refine ⟨i+1,⟨by omega,by simpa using hf⟩,?_,by simp; omega⟩
   exact sub_sb rfl _ (by simp [hw])
  ·have hr3:∀ h,(seqF (fun k=>[mAV al 1000001 k]) N)[i]'h=[.mref (1000001+i)]:=fun h=>by rw [hr2,mAV,ha]; rfl
   rw [ha] at hf
   have b1i:=b1 i hlt
   simp [hlt,b0,hr3]
   (repeat' (first|contradiction|exact .ok|apply And.intro|intro _|(refine gc (fun h=>?_) (fun h=>?_)<;>(have h':=h;(try simp at h');first|done|simp[h,h']|simp))))
   refine acallT_hand [1000001+i] (m_len (es i) (hes i hlt)) (by simp) (by simp) (by simp [b1i]) (by simp [b1i]) (by simp [fwdR_cons]) ?_
   cases he:(es i).length==0
   ·rw [he] at hf
    simp [he,b1i]
    (repeat' (first|contradiction|exact .ok|apply And.intro|intro _|(refine gc (fun h=>?_) (fun h=>?_)<;>(have h':=h;(try simp at h');first|done|simp[h,h']|simp))))
    refine ⟨i+1,⟨by omega,by simpa using hf⟩,?_,by simp; omega⟩
    refine sub_sb (upd_same b1i) _ (by simp [hw])
   ·rw [he] at hf
    simp [he,b1i]
    (repeat' (first|contradiction|exact .ok|apply And.intro|intro _|(refine gc (fun h=>?_) (fun h=>?_)<;>(have h':=h;(try simp at h');first|done|simp[h,h']|simp))))
    rw [ends_hand,upd_same b1i]
    simp only [Bool.and_self,if_true] at hf
    simp [← hf]
    exact hkeep
 have hie:i=N:=by omega
 subst hie
 rw [List.drop_of_length_le (by simp),fidx] at hf
 simp
 (repeat' (first|contradiction|exact .ok|apply And.intro|intro _|(refine gc (fun h=>?_) (fun h=>?_)<;>(have h':=h;(try simp at h');first|done|simp[h,h']|simp))))
 rw [ends_hand]
 simp [← hf]
 exact hkeep
end Go.Proofs.Tryz
namespace Go.Proofs.Tryz
open Go.Ab
set_option maxRecDepth 100000
set_option maxHeartbeats 2000000
def kM (l:List Int):List (D×D):=l.map fun z=>(.int .i64 z,.bool true)
def insK (z:Int) (l:List Int):List Int:=if z∈l then l else l++[z]
@[simp] theorem kM_len (l:List Int):(kM l).length=l.length:=by simp [kM]
@[simp] theorem kM_ok (l:List Int):(kM l).all (fun e=>keyOk (.int .i64) e.1)=true:=by
  rw [List.all_eq_true]
  intro e he
  obtain ⟨z,_,rfl⟩:=List.mem_map.1 he
  rfl
theorem eqK_int (a b:Int):eqK (.int .i64 a) (.int .i64 b)=(a==b):=by simp [eqK]
theorem kM_set (z:Int):∀ l:List Int,mpSet (.int .i64 z) (.bool true) (kM l)=kM (insK z l)
 | []=>rfl
 | a::l=>by
   have ih:=kM_set z l
   show mpSet _ _ ((.int .i64 a,.bool true)::kM l)=_
   rw [mpSet,eqK_int]
   by_cases h:z=a
   ·subst h
    simp [insK,kM]
   ·rw [if_neg (by simpa using h),ih]
    unfold insK
    by_cases h2:z∈l
    ·rw [if_pos h2,if_pos (List.mem_cons_of_mem _ h2)]; rfl
    ·rw [if_neg h2,if_neg (by simp [h,h2])]; rfl
theorem kM_del (z:Int):∀ l:List Int,mpDel (.int .i64 z) (kM l)=kM (l.erase z)
 | []=>rfl
 | a::l=>by
   have ih:=kM_del z l
   show mpDel _ ((.int .i64 a,.bool true)::kM l)=_
   rw [mpDel,eqK_int]
   by_cases h:z=a
   ·subst h
    simp
   ·rw [if_neg (by simpa using h),ih,List.erase_cons_tail (by simpa using fun e=>h e.symm)]
    rfl
theorem insK_mem {z x:Int} {l:List Int}:x∈insK z l↔x=z∨x∈l:=by
 unfold insK
 split
 ·rename_i h
  constructor
  ·exact fun h=>.inr h
  ·rintro (rfl | h2)
   ·exact h
   ·exact h2
 ·simp [or_comm]
theorem insK_nodup {z:Int} {l:List Int} (h:l.Nodup):(insK z l).Nodup:=by
 unfold insK
 split
 ·exact h
 ·rename_i hz
  rw [List.nodup_append]
  refine ⟨h,by simp,fun a ha b hb e=>?_⟩
  simp at hb
  subst hb e
  exact hz ha
def tgt (S:List Tb) (f:Fk):Int:=fidx (fun x:Tb=>x.n==f.t) S 0
def keysT (S:List Tb):List Fk→List Int→List Int
 | [],l=>l
 | f::r,l=>keysT S r (insK (tgt S f) l)
theorem keysT_mem {S:List Tb} {x:Int}:∀ {r:List Fk} {l:List Int},x∈keysT S r l↔x∈l∨∃ f∈r,tgt S f=x
 | [],l=>by simp [keysT]
 | f::r,l=>by
   rw [keysT,keysT_mem,insK_mem]
   simp only [List.mem_cons,exists_eq_or_imp]
   constructor
   ·rintro ((rfl | h) | h)
    ·exact .inr (.inl rfl)
    ·exact .inl h
    ·exact .inr (.inr h)
   ·rintro (h | h | h)
    ·exact .inl (.inr h)
    ·exact .inl (.inl h.symm)
    ·exact .inr h
theorem keysT_nodup {S:List Tb}:∀ {r:List Fk} {l:List Int},l.Nodup→(keysT S r l).Nodup
 | [],_,h=>h
 | f::r,l,h=>by rw [keysT]; exact keysT_nodup (insK_nodup h)
end Go.Proofs.Tryz
namespace Go.Proofs.Tryz
open Go.Ab
def spaced:List (List UInt8)→List UInt8
 | []=>[32]
 | w::ws=>32::(w++spaced ws)
def within (sub:List UInt8):List UInt8→Bool
 | []=>sub.isEmpty
 | b::l=>sub.isPrefixOf (b::l)||within sub l
theorem within_index (sub:List UInt8):∀ l:List UInt8,decide (0≤Lib.index l sub)=within sub l
 | []=>by unfold Lib.index within; cases sub <;> simp
 | b::l=>by
   have ih:=within_index sub l
   have hge:=Lib.index_ge l sub
   unfold Lib.index within
   cases h:sub.isPrefixOf (b::l) with
   | true=>simp
   | false =>
     rw [← ih]
     simp only [Bool.false_or,Bool.false_eq_true,if_false]
     by_cases h1:Lib.index l sub=-1
     ·simp [h1]
     ·have:(Lib.index l sub==-1)=false:=by simpa using h1
      rw [this]
      simp
      omega
def plainW (w:List UInt8):Bool:=w.all (· != 32)
theorem within_skip (s:List UInt8):∀ (w l:List UInt8),plainW w=true→within (32::(s++[32])) (w++l)=within (32::(s++[32])) l
 | [],l,_=>rfl
 | b::w,l,h=>by
   simp only [plainW,List.all_cons,Bool.and_eq_true,bne_iff_ne,ne_eq] at h
   have h2:plainW w=true:=h.2
   rw [List.cons_append,within,within_skip s w l h2]
   have:((32:UInt8)==b)=false:=by simpa using fun e=>h.1 e.symm
   simp [List.isPrefixOf,this]
theorem spaced_head (ws:List (List UInt8)):∃ l,spaced ws=32::l:=by cases ws <;> exact ⟨_,rfl⟩
theorem prefix_word:∀ (s w l:List UInt8),plainW s=true→plainW w=true→(s++[32]).isPrefixOf (w++32::l)=(s==w)
 | [],[],l,_,_=>by simp [List.isPrefixOf]
 | [],b::w,l,_,h=>by
   simp only [plainW,List.all_cons,Bool.and_eq_true,bne_iff_ne,ne_eq] at h
   have:((32:UInt8)==b)=false:=by simpa using fun e=>h.1 e.symm
   simp [List.isPrefixOf,this]
 | a::s,[],l,h,_=>by
   simp only [plainW,List.all_cons,Bool.and_eq_true,bne_iff_ne,ne_eq] at h
   have:(a==(32:UInt8))=false:=by simpa using h.1
   simp [List.isPrefixOf,this]
 | a::s,b::w,l,h1,h2=>by
   simp only [plainW,List.all_cons,Bool.and_eq_true] at h1 h2
   have ih:=prefix_word s w l h1.2 h2.2
   simp only [List.cons_append,List.isPrefixOf]
   rw [ih]
   rfl
theorem within_spaced (s:List UInt8) (hs:plainW s=true):∀ ws:List (List UInt8),ws.all plainW=true→within (32::(s++[32])) (spaced ws)=ws.contains s
 | [],_=>by cases s <;> simp [spaced,within,List.isPrefixOf]
 | w::ws,h=>by
   simp only [List.all_cons,Bool.and_eq_true] at h
   rw [spaced,within,within_skip s w _ h.1,within_spaced s hs ws h.2]
   obtain ⟨l,hl⟩:=spaced_head ws
   simp only [List.isPrefixOf,BEq.rfl,Bool.true_and]
   rw [hl,prefix_word s w l hs h.1,Bool.eq_iff_iff]
   simp
def lowr (c:UInt8):Bool:=decide (97≤c.toNat)&&decide (c.toNat≤122)
def nameB (c:UInt8):Bool:=lowr c||(decide (48≤c.toNat)&&decide (c.toNat≤57)||c.toNat==95)
theorem nameB_plain {c:UInt8} (h:nameB c=true):(c != 32)=true:=by
 have:c ≠ 32:=by rintro rfl; revert h; decide
 simpa using this
theorem plain_of_name {s:List UInt8} (h:s.all nameB=true):plainW s=true:=by
 rw [List.all_eq_true] at h
 exact List.all_eq_true.2 fun x hx=>nameB_plain (h x hx)
def headLow:List UInt8→Bool
 | []=>false
 | c::_=>lowr c
def nameOk (ws:List (List UInt8)) (s:List UInt8):Bool:=decide (s.length≤16)&&(headLow s&&(s.all nameB&&!ws.contains s))
end Go.Proofs.Tryz
