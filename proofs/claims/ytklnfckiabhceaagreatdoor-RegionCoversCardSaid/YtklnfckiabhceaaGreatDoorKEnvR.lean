import Derived.Test.YtklnfckiabhceaaGreatDoorKTxt
import Derived.Test.YtklnfckiabhceaaGreatDoorKCst
import Derived.Test.YtklnfckiabhceaaGreatDoorAbB
import Derived.Test.YtklnfckiabhceaaGreatDoorKShy
import Derived.Lib.IndexMore
import Derived.Test.YtklnfckiabhceaaGreatDoorEvl
set_option linter.all false
namespace Go.Proofs.Tryz
open Go.Ab
def ints (l:List Int):List (List D):=l.map fun n=>[.int .i64 n]
end Go.Proofs.Tryz
namespace Go.Proofs.Tryz
open Go.Ab
set_option maxRecDepth 100000
set_option maxHeartbeats 1000000
theorem szs (n:Nat) (h:n≤100000) (c:Nat) (hc:c≤1000):n*c≤140737488355328∧n≤9223372036854775807∧n≤9223372036854775806∧n≤9223372036854775805∧n≤9223372036854775804 :=
 ⟨Nat.le_trans (Nat.mul_le_mul h hc) (by decide),by omega,by omega,by omega,by omega⟩
@[simp] theorem take_len_map {α β:Type} (f:α→β) (l:List α):List.take l.length (l.map f)=l.map f:=List.take_of_length_le (by simp)
@[simp] theorem drop_len_map {α β:Type} (f:α→β) (l:List α):List.drop l.length (l.map f)=[]:=List.drop_of_length_le (by simp)
@[simp] theorem int_beq_f {a b:Int} (h:¬ a=b):(a==b)=false:=by simpa using h
@[simp] theorem int_bne_t {a b:Int} (h:¬ a=b):(a != b)=true:=by simpa using h
@[simp] theorem str_beq_f {a b:List UInt8} (h:¬ a=b):(a==b)=false:=by simpa using h
@[simp] theorem str_bne_t {a b:List UInt8} (h:¬ a=b):(a != b)=true:=by simpa using h
def LoopKey (E:Env) (N nb:Nat) (F0:St) (c:Code) (Q:AExit→St→Prop):Prop:=∀ st,Sub E N nb st F0→ALoopT E N nb c st Q ⟨⟩
structure Col where
 n:List UInt8
 t:Int
 b:Bool
def Col.c (x:Col):List D:=[.str x.n,.int .i64 x.t,.bool x.b]
def Col.a (x:Col):AV:=.agg (x.c.map AV.d)
structure Fk where
 cols:List Int
 t:List UInt8
def Fk.c (x:Fk):List D:=[.sl (ints x.cols),.str x.t]
def Fk.a (x:Fk):AV:=.agg (x.c.map AV.d)
def intsD (l:List Int):List D:=[.sl (ints l)]
structure Tb where
 n:List UInt8
 cols:List Col
 pr:List Int
 un:List (List Int)
 fk:List Fk
 ch:List Ex
def Tb.c (x:Tb):List D:=[.str x.n,.sl (x.cols.map Col.c),.sl (ints x.pr),.sl (x.un.map intsD),.sl (x.fk.map Fk.c),.sl (x.ch.map Ex.c)]
def Tb.a (x:Tb):AV:=.agg (x.c.map AV.d)
structure Tb.ok (x:Tb):Prop where
 cols:x.cols.length≤1000
 pr:x.pr.length≤1000
 un:x.un.length≤1000
 fk:x.fk.length≤1000
 ch:x.ch.length≤1000
 fkc:∀ f∈x.fk,f.cols.length≤1000
def keyT (x:Tb) (c:Int):Bool:=x.pr.contains c||x.fk.any fun f=>f.cols.contains c
theorem take_snoc {α:Type} {l:List α} {i:Nat} (h:i<l.length):l.take (i+1)=l.take i++[l[i]]:=by
 rw [List.take_add_one,List.getElem?_eq_getElem h]; rfl
theorem contains_take {l:List Int} {i:Nat} {c:Int} (h:i<l.length):(l.take (i+1)).contains c=((l.take i).contains c||c==l[i]):=by
 rw [take_snoc h,Bool.eq_iff_iff,Bool.or_eq_true,List.contains_iff_mem,List.contains_iff_mem,List.mem_append,List.mem_singleton,beq_iff_eq]
theorem any_take {α:Type} {l:List α} {p:α→Bool} {i:Nat} (h:i<l.length):(l.take (i+1)).any p=((l.take i).any p||p l[i]):=by
 rw [take_snoc h,List.any_append]
 simp only [List.any_cons,List.any_nil,Bool.or_false]
theorem contains_of_take {l:List Int} {i:Nat} {c:Int} (h:(l.take i).contains c=true):l.contains c=true:=by
 rw [List.contains_iff_mem] at *
 exact List.mem_of_mem_take h
theorem any_of_get {α:Type} {l:List α} {p:α→Bool} {i:Nat} (hi:i<l.length) (h:p l[i]=true):l.any p=true:=List.any_eq_true.2 ⟨_,List.getElem_mem hi,h⟩
@[simp] theorem ints_at {l:List Int} {i:Nat} (h:i<(ints l).length):(ints l)[i]'h=[.int .i64 (l[i]'(by simpa [ints] using h))]:=by simp [ints]
@[simp] theorem ints_len (l:List Int):(ints l).length=l.length:=List.length_map _
theorem ints_get {l:List Int} {i:Nat} (h:i<l.length):(ints l)[i]?=some [.int .i64 l[i]]:=by simp [ints,h]
theorem r_key (x:Tb) (hx:x.ok) (c:Int):Cf En 34 [x.a,.d (.int .i64 c)] [] (.d (.bool (keyT x c))) []:=by
 refine cf_intro mix (fn:=Tryz.f34) (by kernel_rfl) rfl (by kernel_rfl) (by decide) (by simp) ?_
 have l1:=hx.pr
 have l2:=hx.fk
 simp [Tb.a,Tb.c]
 (repeat' (first|contradiction|exact .ok|apply And.intro|intro _|(refine gc (fun h=>?_) (fun h=>?_)<;>(have i:=h;(try simp at i);first|done|simp[h,i]|simp))))
 refine aloopT mix (by decide) (fun i:Nat=>{ s:=mkS [(1,.d (.int .i64 c)),(2,.ptr 2 0 0),(5,.d (.int .i64 i))],b:=mkB [(2,2,.var (x.c.map AV.d))] }) (fun i=>i≤x.pr.length∧(x.pr.take i).contains c=false) (fun i=>x.pr.length - i) 0 (by simp) (sub_mk _ [(2,2,_)] ⟨by simp,by simp,by simp [renOf,Blk.live,Tb.c],by simp⟩ (by simp [renOf])) ?_
 rintro i ⟨hi,hc⟩
 by_cases hlt:i<x.pr.length
 ·have hg:=ints_get hlt
  have hct:=contains_take (c:=c) hlt
  have hw:=wrap_in (n:=(i:Int)+1) (by omega) (by omega)
  by_cases he:x.pr[i]=c
  ·have hk:keyT x c=true:=by
    unfold keyT
    rw [contains_of_take (i:=i+1) (by rw [hct]; simp [he])]; rfl
   simp [Tb.c,ints_len,hlt,hg,he,hk]
   all_goals exact gz
  ·have he':¬ c=x.pr[i]:=fun e=>he e.symm
   simp [Tb.c,ints_len,hlt,hg,he]
   (repeat' (first|contradiction|exact .ok|apply And.intro|intro _|(refine gc (fun h=>?_) (fun h=>?_)<;>(have i:=h;(try simp at i);first|done|simp[h,i]|simp))))
   refine ⟨i+1,⟨by omega,by rw [hct,hc]; simpa using he'⟩,?_,by simp; omega⟩
   refine sub_mk _ [(2,2,_)] ⟨by simp,by simp,by simp [renOf,Blk.live,Tb.c],by simp⟩ (by simp [renOf,hw])
 have hie:i=x.pr.length:=by omega
 subst hie
 rw [List.take_length] at hc
 simp [Tb.c,ints_len]
 (repeat' (first|contradiction|exact .ok|apply And.intro|intro _|(refine gc (fun h=>?_) (fun h=>?_)<;>(have i:=h;(try simp at i);first|done|simp[h,i]|simp))))
 refine aloopT mix (by decide) (fun i:Nat=>{ s:=mkS [(1,.d (.int .i64 c)),(2,.ptr 2 0 0),(6,.d (.int .i64 i))],b:=mkB [(2,2,.var (x.c.map AV.d))] }) (fun i=>i≤x.fk.length∧(x.fk.take i).any (fun f=>f.cols.contains c)=false) (fun i=>x.fk.length - i) 0 (by simp) (sub_mk _ [(2,2,_)] ⟨by simp,by simp,by simp [renOf,Blk.live,Tb.c],by simp⟩ (by simp [renOf])) ?_
 rintro i ⟨hi,ha⟩
 by_cases hlt:i<x.fk.length
 ·obtain ⟨f,hf⟩:∃ f,f=x.fk[i]:=⟨_,rfl⟩
  have hgi:∀ h,x.fk[i]'h=f:=fun _=>hf.symm
  have hfl:=hx.fkc f (by rw [hf]; exact List.getElem_mem hlt)
  have hat:=any_take (p:=fun f=>f.cols.contains c) hlt
  have hag:=any_of_get (p:=fun f=>f.cols.contains c) hlt
  rw [← hf] at hat hag
  have hw:=wrap_in (n:=(i:Int)+1) (by omega) (by omega)
  simp [Tb.c,hlt]
  (repeat' (first|contradiction|exact .ok|apply And.intro|intro _|(refine gc (fun h=>?_) (fun h=>?_)<;>(have i:=h;(try simp at i);first|done|simp[h,i]|simp))))
  refine aloopT mix (by decide) (fun j:Nat=>{ s:=mkS [(1,.d (.int .i64 c)),(2,.ptr 2 0 0),(6,.d (.int .i64 i)),(7,.d (.int .i64 j))],b:=mkB [(2,2,.var (x.c.map AV.d))] }) (fun j=>j≤f.cols.length∧(f.cols.take j).contains c=false) (fun j=>f.cols.length - j) 0 (by simp) (sub_mk _ [(2,2,_)] ⟨by simp,by simp,by simp [renOf,Blk.live,Tb.c],by simp⟩ (by simp [renOf])) ?_
  rintro j ⟨hj,hcj⟩
  by_cases hjt:j<f.cols.length
  ·have hgj:=ints_get hjt
   have hct:=contains_take (c:=c) hjt
   have hwj:=wrap_in (n:=(j:Int)+1) (by omega) (by omega)
   by_cases he:f.cols[j]=c
   ·have hk:keyT x c=true:=by
     unfold keyT
     rw [hag (contains_of_take (i:=j+1) (by rw [hct]; simp [he]))]; simp
    simp [Tb.c,hlt,hgi,Fk.c,ints_len,hjt,hgj,he,hk]
    all_goals exact gz
   ·have he':¬ c=f.cols[j]:=fun e=>he e.symm
    simp [Tb.c,hlt,hgi,Fk.c,ints_len,hjt,hgj,he]
    (repeat' (first|contradiction|exact .ok|apply And.intro|intro _|(refine gc (fun h=>?_) (fun h=>?_)<;>(have i:=h;(try simp at i);first|done|simp[h,i]|simp))))
    refine ⟨j+1,⟨by omega,by rw [hct,hcj]; simpa using he'⟩,?_,by simp; omega⟩
    refine sub_mk _ [(2,2,_)] ⟨by simp,by simp,by simp [renOf,Blk.live,Tb.c],by simp⟩ (by simp [renOf,hwj])
  have hje:j=f.cols.length:=by omega
  subst hje
  rw [List.take_length] at hcj
  simp [Tb.c,hlt,hgi,Fk.c,ints_len]
  (repeat' (first|contradiction|exact .ok|apply And.intro|intro _|(refine gc (fun h=>?_) (fun h=>?_)<;>(have i:=h;(try simp at i);first|done|simp[h,i]|simp))))
  refine ⟨i+1,⟨by omega,by rw [hat,ha,hcj]; rfl⟩,?_,by simp; omega⟩
  refine sub_mk _ [(2,2,_)] ⟨by simp,by simp,by simp [renOf,Blk.live,Tb.c],by simp⟩ (by simp [renOf,hw])
 have hie:i=x.fk.length:=by omega
 subst hie
 rw [List.take_length] at ha
 have hk:keyT x c=false:=by unfold keyT; rw [hc,ha]; rfl
 simp [Tb.c,hk]
 all_goals exact gz
end Go.Proofs.Tryz
namespace Go.Proofs.Tryz
open Go.Ab
theorem up_to_spec (d:Array Int) (hs:∀ i j,i≤j→j<d.size→d[i]! ≤ d[j]!):∀ m,m≤d.size→(Go.Lib.compactUpTo d m).Pairwise (·<·)∧∀ x,x∈Go.Lib.compactUpTo d m↔∃ j,j<m∧d[j]! = x
 | 0,_=>⟨by simp [Go.Lib.compactUpTo],by simp [Go.Lib.compactUpTo]⟩
 | m+1,hm=>by
   obtain ⟨h1,h2⟩:=up_to_spec d hs m (by omega)
   rw [Go.Lib.compactUpTo_succ]
   cases hk:Go.Lib.keeps d m with
   | true =>
     rw [if_pos rfl]
     have hlt:∀ x∈Go.Lib.compactUpTo d m,x<d[m]! := fun x hx=>by
      obtain ⟨j,hj,rfl⟩:=(h2 x).1 hx
      have a1:=hs j (m - 1) (by omega) (by omega)
      have a2:=hs (m - 1) m (by omega) (by omega)
      have a3:d[m]! ≠ d[m - 1]! := by
       simp only [Go.Lib.keeps,decide_eq_true_eq] at hk
       rcases hk with hk | hk
       ·omega
       ·exact hk
      omega
     refine ⟨List.pairwise_append.2 ⟨h1,List.pairwise_singleton _ _,fun a ha b hb=>?_⟩,fun x=>?_⟩
     ·rw [List.mem_singleton.1 hb]; exact hlt a ha
     ·rw [List.mem_append,List.mem_singleton,h2]
      constructor
      ·rintro (⟨j,hj,e⟩ | rfl)
       ·exact ⟨j,by omega,e⟩
       ·exact ⟨m,by omega,rfl⟩
      ·rintro ⟨j,hj,e⟩
       by_cases hjm:j=m
       ·subst hjm; exact .inr e.symm
       ·exact .inl ⟨j,by omega,e⟩
   | false =>
     rw [if_neg (by decide),List.append_nil]
     refine ⟨h1,fun x=>?_⟩
     rw [h2]
     constructor
     ·rintro ⟨j,hj,e⟩; exact ⟨j,by omega,e⟩
     ·rintro ⟨j,hj,e⟩
      by_cases hjm:j=m
      ·subst hjm
       simp only [Go.Lib.keeps,decide_eq_false_iff_not,not_or,Classical.not_not] at hk
       exact ⟨j - 1,by omega,by rw [← e]; exact hk.2.symm⟩
      ·exact ⟨j,by omega,e⟩
def srt (l:List Int):List Int:=l.mergeSort fun x y=>decide (x≤y)
theorem srt_len (l:List Int):(srt l).length=l.length:=List.length_mergeSort _
theorem srt_mem (l:List Int) (x:Int):x∈srt l↔x∈l:=List.mem_mergeSort
theorem srt_le (l:List Int):(srt l).Pairwise (·≤·):=by
 have:=List.pairwise_mergeSort (le:=fun x y:Int=>decide (x≤y)) (fun a b c h1 h2=>by simp at *; omega) (fun a b=>by simp; omega) l
 exact this.imp fun h=>by simpa using h
theorem compact_spec (l:List Int) (hs:l.Pairwise (·≤·)):(Go.Lib.compact l).Pairwise (·<·)∧∀ x,x∈Go.Lib.compact l↔x∈l:=by
 have hget:∀ i j,i≤j→j<l.toArray.size→l.toArray[i]! ≤ l.toArray[j]! := fun i j hij hj=>by
  have hj':j<l.length:=by simpa using hj
  have hi':i<l.length:=by omega
  rw [getElem!_pos l.toArray i (by simpa using hi'),getElem!_pos l.toArray j hj]
  simp only [List.getElem_toArray]
  rcases Nat.lt_or_ge i j with h | h
  ·exact List.pairwise_iff_getElem.1 hs i j hi' hj' h
  ·have:i=j:=by omega
   subst this; exact Int.le_refl _
 obtain ⟨h1,h2⟩:=up_to_spec l.toArray hget l.length (by simp)
 refine ⟨h1,fun x=>(h2 x).trans ?_⟩
 rw [List.mem_iff_getElem]
 constructor
 ·rintro ⟨j,hj,e⟩
  refine ⟨j,hj,?_⟩
  rw [getElem!_pos l.toArray j (by simpa using hj)] at e
  simpa using e
 ·rintro ⟨j,hj,e⟩
  refine ⟨j,hj,?_⟩
  rw [getElem!_pos l.toArray j (by simpa using hj)]
  simpa using e
theorem rising_eq:∀ (a b:List Int),a.Pairwise (·<·)→b.Pairwise (·<·)→(∀ x,x∈a↔x∈b)→a=b
 | [],[],_,_,_=>rfl
 | [],y::b,_,_,h=>absurd ((h y).2 List.mem_cons_self) (by simp)
 | x::a,[],_,_,h=>absurd ((h x).1 List.mem_cons_self) (by simp)
 | x::a,y::b,ha,hb,h=>by
   rw [List.pairwise_cons] at ha hb
   have hxy:x=y:=by
    rcases List.mem_cons.1 ((h x).1 List.mem_cons_self) with e | e
    ·exact e
    ·rcases List.mem_cons.1 ((h y).2 List.mem_cons_self) with e2 | e2
     ·exact e2.symm
     ·have:=hb.1 x e; have:=ha.1 y e2; omega
   subst hxy
   rw [rising_eq a b ha.2 hb.2 fun z=>?_]
   constructor
   ·intro hz
    rcases List.mem_cons.1 ((h z).1 (List.mem_cons_of_mem _ hz)) with e | e
    ·subst e; exact absurd (ha.1 z hz) (by omega)
    ·exact e
   ·intro hz
    rcases List.mem_cons.1 ((h z).2 (List.mem_cons_of_mem _ hz)) with e | e
    ·subst e; exact absurd (hb.1 z hz) (by omega)
    ·exact e
def insAt (l:List Int) (n:Int):Nat:=(l.takeWhile fun x=>decide (x<n)).length
def ins (l:List Int) (n:Int):List Int:=if l[insAt l n]?=some n then l else l.take (insAt l n)++n::l.drop (insAt l n)
theorem insAt_spec:∀ (l:List Int) (n:Int),insAt l n≤l.length∧(∀ i x,l[i]?=some x→i<insAt l n→x<n)∧∀ x,l[insAt l n]?=some x→n≤x
 | [],n=>⟨by simp [insAt],by simp,by simp⟩
 | y::l,n=>by
   obtain ⟨h1,h2,h3⟩:=insAt_spec l n
   unfold insAt at *
   by_cases hy:y<n
   ·rw [List.takeWhile_cons_of_pos (by simpa using hy),List.length_cons]
    refine ⟨by simp; omega,fun i x hx hi=>?_,fun x hx=>h3 x (by simpa using hx)⟩
    cases i with
    | zero=>simp at hx; subst hx; exact hy
    | succ i=>exact h2 i x (by simpa using hx) (by omega)
   ·rw [List.takeWhile_cons_of_neg (by simpa using hy)]
    refine ⟨by simp,fun i x _ hi=>absurd hi (by simp),fun x hx=>?_⟩
    simp at hx; subst hx; omega
theorem ins_spec (l:List Int) (n:Int) (hs:l.Pairwise (·<·)):(ins l n).Pairwise (·<·)∧∀ x,x∈ins l n↔x=n∨x∈l:=by
 obtain ⟨h1,h2,h3⟩:=insAt_spec l n
 unfold ins
 split
 ·rename_i h
  exact ⟨hs,fun x=>⟨.inr,fun hx=>by
   rcases hx with rfl | hx
   ·exact List.mem_of_getElem? h
   ·exact hx⟩⟩
 ·rename_i h
  generalize insAt l n=k at *
  have hl:l=l.take k++l.drop k:=(List.take_append_drop k l).symm
  have hlow:∀ x∈l.take k,x<n:=fun x hx=>by
   obtain ⟨i,hi⟩:=List.mem_iff_getElem?.1 hx
   rw [List.getElem?_take] at hi
   split at hi
   ·exact h2 i x hi (by assumption)
   ·cases hi
  have hhigh:∀ x∈l.drop k,n<x:=fun x hx=>by
   have hp:(l.drop k).Pairwise (·<·):=hs.sublist (List.drop_sublist k l)
   cases hd:l.drop k with
   | nil=>rw [hd] at hx; cases hx
   | cons y r =>
     have hy:l[k]?=some y:=by
      have:=congrArg (·[0]?) hd
      simpa using this
     have h4:=h3 y hy
     have h5:y ≠ n:=fun e=>h (by rw [hy,e])
     rw [hd] at hx hp
     rcases List.mem_cons.1 hx with rfl | hx
     ·omega
     ·have:=(List.pairwise_cons.1 hp).1 x hx; omega
  refine ⟨?_,fun x=>?_⟩
  ·rw [List.pairwise_append]
   refine ⟨hs.sublist (List.take_sublist k l),List.pairwise_cons.2 ⟨hhigh,hs.sublist (List.drop_sublist k l)⟩,fun a ha b hb=>?_⟩
   rcases List.mem_cons.1 hb with rfl | hb
   ·exact hlow a ha
   ·have:=hlow a ha; have:=hhigh b hb; omega
  ·rw [List.mem_append,List.mem_cons]
   constructor
   ·rintro (hx | rfl | hx)
    ·exact .inr (List.mem_of_mem_take hx)
    ·exact .inl rfl
    ·exact .inr (List.mem_of_mem_drop hx)
   ·rintro (rfl | hx)
    ·exact .inr (.inl rfl)
    ·rw [hl,List.mem_append] at hx
     rcases hx with hx | hx
     ·exact .inl hx
     ·exact .inr (.inr hx)
theorem ins_len (l:List Int) (n:Int):(ins l n).length≤l.length+1:=by
 unfold ins
 split
 ·omega
 ·simp; omega
mutual
def Ex.cols:Ex→List Int
 | .mk o _ _ _ g ks=>Go.Lib.compact (srt ((if o=5 then [g] else [])++colsAll ks))
def colsAll:List Ex→List Int
 | []=>[]
 | e::es=>e.cols++colsAll es
end
mutual
def Ex.rcols:Ex→List Int
 | .mk o _ _ _ g ks=>if o=5 then ins (rcolsAll [] ks) g else rcolsAll [] ks
def rcolsAll:List Int→List Ex→List Int
 | a,[]=>a
 | a,e::es=>rcolsAll (e.rcols.foldl ins a) es
end
mutual
def Ex.has:Ex→Int→Prop
 | .mk o _ _ _ g ks,x=>(o=5∧x=g)∨hasAny ks x
def hasAny:List Ex→Int→Prop
 | [],_=>False
 | e::es,x=>e.has x∨hasAny es x
end
theorem cols_rising (e:Ex):e.cols.Pairwise (·<·):=by
 cases e with
 | mk o c n t g ks=>rw [Ex.cols]; exact (compact_spec _ (srt_le _)).1
mutual
theorem cols_mem:∀ (e:Ex) (x:Int),x∈e.cols↔e.has x
 | .mk o c n t g ks,x=>by
   rw [Ex.cols,(compact_spec _ (srt_le _)).2,srt_mem,List.mem_append,Ex.has,colsAll_mem ks x]
   by_cases h:o=5 <;> simp [h]
theorem colsAll_mem:∀ (l:List Ex) (x:Int),x∈colsAll l↔hasAny l x
 | [],x=>by simp [colsAll,hasAny]
 | e::es,x=>by rw [colsAll,List.mem_append,hasAny,cols_mem e x,colsAll_mem es x]
end
theorem foldl_ins:∀ (l a:List Int),a.Pairwise (·<·)→(l.foldl ins a).Pairwise (·<·)∧∀ x,x∈l.foldl ins a↔x∈a∨x∈l
 | [],a,h=>⟨h,by simp⟩
 | n::l,a,h=>by
   obtain ⟨h1,h2⟩:=ins_spec a n h
   obtain ⟨h3,h4⟩:=foldl_ins l (ins a n) h1
   refine ⟨h3,fun x=>?_⟩
   rw [List.foldl_cons,h4,h2,List.mem_cons]
   constructor
   ·rintro ((h | h) | h)
    ·exact .inr (.inl h)
    ·exact .inl h
    ·exact .inr (.inr h)
   ·rintro (h | h | h)
    ·exact .inl (.inr h)
    ·exact .inl (.inl h)
    ·exact .inr h
mutual
theorem rcols_spec:∀ e:Ex,e.rcols.Pairwise (·<·)∧∀ x,x∈e.rcols↔e.has x
 | .mk o c n t g ks=>by
   obtain ⟨h1,h2⟩:=rcolsAll_spec ks [] List.Pairwise.nil
   rw [Ex.rcols]
   by_cases h:o=5
   ·rw [if_pos h]
    obtain ⟨h3,h4⟩:=ins_spec _ g h1
    refine ⟨h3,fun x=>?_⟩
    rw [h4,h2,Ex.has]
    simp [h]
   ·rw [if_neg h]
    refine ⟨h1,fun x=>?_⟩
    rw [h2,Ex.has]
    simp [h]
theorem rcolsAll_spec:∀ (l:List Ex) (a:List Int),a.Pairwise (·<·)→(rcolsAll a l).Pairwise (·<·)∧∀ x,x∈rcolsAll a l↔x∈a∨hasAny l x
 | [],a,h=>by rw [rcolsAll]; exact ⟨h,by simp [hasAny]⟩
 | e::es,a,h=>by
   obtain ⟨h1,h2⟩:=rcols_spec e
   obtain ⟨h3,h4⟩:=foldl_ins e.rcols a h
   obtain ⟨h5,h6⟩:=rcolsAll_spec es _ h3
   rw [rcolsAll]
   refine ⟨h5,fun x=>?_⟩
   rw [h6,h4,h2,hasAny]
   exact or_assoc
end
theorem cols_eq (e:Ex):e.rcols=e.cols:=rising_eq _ _ (rcols_spec e).1 (cols_rising e) fun x=>by rw [(rcols_spec e).2,cols_mem]
end Go.Proofs.Tryz
namespace Go.Proofs.Tryz
open Go.Ab Go.Sort
set_option maxRecDepth 100000
set_option maxHeartbeats 4000000
def nums (l:List Int):D:=.sl (l.map fun n=>[.int .i64 n])
theorem c_sort (l:List Int) (hl:l.length<4611686018427387904):Cf En 126 [.ref firstName 0 l.length 1] [.arr 3 1 (l.map fun z=>[.int .i64 z]) false] (.tup []) [.arr 3 1 ((srt l).map fun z=>[.int .i64 z]) false]:=by
 refine cf_of_row (by kernel_rfl) (srt_len l) (fun _ h l p cap w _ _ _=>?_) (fun _ h lo w _ _ _ _ _ hH hb=>?_)
 ·refine (Tryz.slices_Sort_int_none p cap w).mono ?_
  rintro e w' ⟨rfl,rfl⟩
  exact ⟨_,rfl,by simp only [RepA]; exact ⟨[],rfl,rfl⟩,rfl⟩
 ·refine (Tryz.slices_Sort_int lo.blk 0 lo.asz l w hH hb hl).mono ?_
  rintro e w' ⟨rfl,n,os,rfl⟩
  exact ⟨_,rfl,by simp only [RepA]; exact ⟨[],rfl,rfl⟩,n,os,rfl⟩
theorem c_sort_nil:Cf En 126 [.d (.sl [])] [] (.tup []) []:=by
 refine cf_of_calls (by kernel_rfl) fun w g vs hr m=>?_
 simp only [RepAs,RepA,RepD] at hr
 obtain ⟨u,us,rfl,⟨a,cap,rfl,_,_⟩,rfl⟩:=hr
 refine (Tryz.slices_Sort_int_none a cap w).mono ?_
 rintro e w' ⟨rfl,rfl⟩
 exact ⟨_,rfl,by simp only [RepA]; exact ⟨[],rfl,rfl⟩,Go.RowKit.Below.refl _ _⟩
def cmp0 (l:List Int):List Int:=Go.Lib.compact l++List.replicate (l.length - (Go.Lib.compact l).length) 0
theorem cmp_le (l:List Int):(Go.Lib.compact l).length≤l.length:=by
 unfold Go.Lib.compact Go.Lib.compactUpTo
 rw [List.length_map]
 have:=List.length_filter_le (Go.Lib.keeps l.toArray) (List.range l.length)
 rw [List.length_range] at this
 exact this
theorem c_compact (l:List Int) (hl:l.length≤9223372036854775807):Cf En 127 [.ref firstName 0 l.length 1] [.arr 3 1 (l.map fun z=>[.int .i64 z]) false] (.ref firstName 0 (Go.Lib.compact l).length 1) [.arr 3 1 ((cmp0 l).map fun z=>[.int .i64 z]) false]:=by
 refine cf_of_row (by kernel_rfl) (by have:=cmp_le l; simp [cmp0]; omega) (fun h0 h lo p cap w hL hs hp=>?_) (fun h0 h lo w hL hs hn hm hle hH hb=>?_)
 ·subst h0
  refine (Tryz.slices_Compact_int_empty p cap w).mono ?_
  rintro e w' ⟨rfl,rfl⟩
  refine ⟨_,rfl,?_,rfl⟩
  have he:(Go.Lib.compact ([]:List Int)).length=0:=rfl
  rw [he]
  simp only [RepA]
  refine ⟨lo,hL,hs,?_⟩
  split
  ·rename_i hn
   rw [if_pos hn] at hp
   obtain ⟨rfl,rfl⟩:=hp
   exact ⟨rfl,trivial,trivial⟩
  ·rename_i hn
   rw [if_neg hn] at hp
   obtain ⟨rfl,h1,h2⟩:=hp
   exact ⟨cap,by rw [Nat.zero_mul],Nat.zero_le _,h1,by rw [hs]; omega⟩
 ·refine (Tryz.slices_Compact_int lo.blk 0 lo.asz l w hH hl hle).mono ?_
  rintro e w' ⟨rfl,q,rfl⟩
  refine ⟨_,rfl,?_,q,#[],by rw [grow_empty]; rfl⟩
  have:=cmp_le l
  simp only [RepA]
  refine ⟨lo,hL,hs,?_⟩
  rw [hn]
  exact ⟨lo.asz,by rw [Nat.zero_mul],by omega,hm,by rw [hs]; omega⟩
theorem c_compact_nil:Cf En 127 [.d (.sl [])] [] (.d (.sl [])) []:=by
 refine cf_of_calls (by kernel_rfl) fun w g vs hr m=>?_
 simp only [RepAs,RepA,RepD] at hr
 obtain ⟨u,us,rfl,⟨a,cap,rfl,hc,hr⟩,rfl⟩:=hr
 refine (Tryz.slices_Compact_int_empty a cap w).mono ?_
 rintro e w' ⟨rfl,rfl⟩
 exact ⟨_,rfl,by simp only [RepA,RepD]; exact ⟨a,cap,rfl,hc,hr⟩,Go.RowKit.Below.refl _ _⟩
mutual
def Ex.nodes:Ex→Nat
 | .mk _ _ _ _ _ ks=>nodesAll ks+1
def nodesAll:List Ex→Nat
 | []=>0
 | e::es=>e.nodes+nodesAll es
end
mutual
theorem cols_len:∀ e:Ex,e.cols.length≤e.nodes
 | .mk o c n t g ks=>by
   rw [Ex.cols,Ex.nodes]
   have h1:=cmp_le (srt ((if o=5 then [g] else [])++colsAll ks))
   have h2:=colsAll_len ks
   rw [srt_len,List.length_append] at h1
   by_cases h:o=5 <;> simp [h] at h1 ⊢ <;> omega
theorem colsAll_len:∀ l:List Ex,(colsAll l).length≤nodesAll l
 | []=>by simp [colsAll]
 | e::es=>by
   have h1:=cols_len e
   have h2:=colsAll_len es
   rw [colsAll,nodesAll,List.length_append]; omega
end
theorem colsAll_take {l:List Ex} {i:Nat} {x:Ex} (h:l[i]?=some x):colsAll (l.take (i+1))=colsAll (l.take i)++x.cols:=by
 induction l generalizing i with
 | nil=>cases h
 | cons e es ih =>
   cases i with
   | zero=>simp at h; subst h; simp [colsAll]
   | succ i =>
     rw [List.take_succ_cons,List.take_succ_cons,colsAll,colsAll,ih (by simpa using h),List.append_assoc]
theorem colsAll_take_le (l:List Ex) (i:Nat):(colsAll (l.take i)).length≤(colsAll l).length:=by
 induction l generalizing i with
 | nil=>simp
 | cons e es ih =>
   cases i with
   | zero=>simp [colsAll]
   | succ i=>rw [List.take_succ_cons,colsAll,colsAll,List.length_append,List.length_append]; have:=ih i; omega
def clS (o c n g:Int) (t:List UInt8) (ks:List Ex) (L:List Int) (i:Nat):St :=
 { s:=mkS [(1,.ptr 1 0 0),(3,.ref 900 0 L.length 1),(15,.d (.sl (ks.map Ex.c))),(16,.d (.int .i64 ks.length)),(17,.d (.int .i64 i))],b:=mkB [(1,1,.var [.d (.int .i64 o),.d (.int .i64 c),.d (.int .i64 n),.d (.str t),.d (.int .i64 g),.d (.sl (ks.map Ex.c))]),(900,900,.arr 3 1 (L.map fun z=>[.int .i64 z]) false)] }
def clN (o c n g:Int) (t:List UInt8) (ks:List Ex):St :=
 { s:=mkS [(1,.ptr 1 0 0),(3,.nils),(15,.d (.sl (ks.map Ex.c))),(16,.d (.int .i64 ks.length)),(17,.d (.int .i64 0))],b:=mkB [(1,1,.var [.d (.int .i64 o),.d (.int .i64 c),.d (.int .i64 n),.d (.str t),.d (.int .i64 g),.d (.sl (ks.map Ex.c))])] }
theorem c_cols_step (o c n g:Int) (t:List UInt8) (ks:List Ex) (hk:ks.length≤12) (hn:(colsAll ks).length≤1099511627776)
  (hrec:∀ e∈ks,Cf En 75 [e.a] [] (.d (nums e.cols)) []) :
  Cf En 75 [(Ex.mk o c n t g ks).a] [] (.d (nums (Ex.cols (.mk o c n t g ks)))) []:=by
 refine cf_intro mix (fn:=Tryz.f75) (by kernel_rfl) rfl (by kernel_rfl) (by decide) (by simp) ?_
 simp only [nums] at hrec ⊢
 by_cases h5:o=5
 ·subst h5
  rw [show Ex.cols (.mk 5 c n t g ks)=Go.Lib.compact (srt (g::colsAll ks)) from by rw [Ex.cols]; simp]
  simp [Ex.a,Ex.c,kidsC_map]
  (repeat' (first|contradiction|exact .ok|apply And.intro|intro _|(refine gc (fun h=>?_) (fun h=>?_)<;>(have i:=h;(try simp at i);first|done|simp[h,i]|simp))))
  refine aloopT mix (by decide) (fun i=>clS 5 c n g t ks (g::colsAll (ks.take i)) i) (fun i:Nat=>i≤ks.length) (fun i=>ks.length - i) 0 (by simp) (sub_mk [(1,_),(3,_),(15,_),(16,_),(17,_)] [(1,1,_),(900,13,_)] ⟨by simp,by simp,by simp [renOf,Blk.live,colsAll],by simp⟩ (by simp [renOf,colsAll])) ?_
  intro i hi
  have hle:=colsAll_take_le ks i
  by_cases hlt:i<ks.length
  ·have hgi:ks[i]?=some ks[i]:=List.getElem?_eq_getElem hlt
   have c1:=Ex.clen ks[i]
   have k1:=Ex.ctake ks[i]
   have hr:=hrec ks[i] (List.getElem_mem hlt)
   have hlt2:(i:Int)<ks.length:=by omega
   have hle2:=colsAll_take_le ks (i+1)
   have htk:=colsAll_take hgi
   rw [htk,List.length_append] at hle2
   simp only [clS]
   generalize colsAll (ks.take i)=L at *
   have s1:(L.length+1+ks[i].cols.length)*8≤140737488355328:=by omega
   have s2:L.length+1+ks[i].cols.length≤9223372036854775807:=by omega
   simp [hlt,hlt2,hgi,c1,k1]
   (repeat' (first|contradiction|exact .ok|apply And.intro|intro _|(refine gc (fun h=>?_) (fun h=>?_)<;>(have i:=h;(try simp at i);first|done|simp[h,i]|simp))))
   refine acallT_plain hr (by simp [Ex.a]) ?_
   simp [s1,s2]
   (repeat' (first|contradiction|exact .ok|apply And.intro|intro _|(refine gc (fun h=>?_) (fun h=>?_)<;>(have i:=h;(try simp at i);first|done|simp[h,i]|simp))))
   refine ⟨i+1,hlt,?_,?_⟩
   ·refine sub_mk [(1,_),(3,_),(15,_),(16,_),(17,_)] [(1,1,_),(900,24,_)] ⟨by simp,by simp,by simp [renOf,Blk.live,htk],by simp⟩ ?_
    simp [renOf,htk]
    exact ⟨by omega,wrap_in (by omega) (by omega)⟩
   ·simp; omega
  ·have hie:i=ks.length:=by omega
   subst hie
   rw [List.take_length]
   have hz:(srt (g::colsAll ks)).length=(colsAll ks).length+1:=by rw [srt_len]; rfl
   have cs:=c_sort (g::colsAll ks) (by simp; omega)
   have cc:=c_compact (srt (g::colsAll ks)) (by rw [hz]; omega)
   rw [hz] at cc
   have htk:List.take (Go.Lib.compact (srt (g::colsAll ks))).length (List.map (fun z=>[D.int .i64 z]) (cmp0 (srt (g::colsAll ks))))=List.map (fun z=>[D.int .i64 z]) (Go.Lib.compact (srt (g::colsAll ks))):=by
    rw [cmp0,List.map_append,List.take_left' (by simp)]
   have hlen:(Go.Lib.compact (srt (g::colsAll ks))).length≤(cmp0 (srt (g::colsAll ks))).length:=by rw [cmp0,List.length_append]; omega
   simp only [clS]
   simp
   (repeat' (first|contradiction|exact .ok|apply And.intro|intro _|(refine gc (fun h=>?_) (fun h=>?_)<;>(have i:=h;(try simp at i);first|done|simp[h,i]|simp))))
   refine acallT_hand [900] cs (by simp) (by simp) (by simp) (by simp) (by simp) ?_
   generalize srt (g::colsAll ks)=S at *
   simp
   (repeat' (first|contradiction|exact .ok|apply And.intro|intro _|(refine gc (fun h=>?_) (fun h=>?_)<;>(have i:=h;(try simp at i);first|done|simp[h,i]|simp))))
   refine acallT_hand [900] cc (by simp) (by simp) (by simp) (by simp) (by simp) ?_
   generalize Go.Lib.compact S=K at *
   simp [htk,hlen]
   all_goals exact gz
 ·rw [show Ex.cols (.mk o c n t g ks)=Go.Lib.compact (srt (colsAll ks)) from by rw [Ex.cols,if_neg h5]; rfl]
  simp [Ex.a,Ex.c,kidsC_map,h5]
  (repeat' (first|contradiction|exact .ok|apply And.intro|intro _|(refine gc (fun h=>?_) (fun h=>?_)<;>(have i:=h;(try simp at i);first|done|simp[h,i,h5]|simp[h5]))))
  refine aloopT mix (by decide) (fun i:Nat=>match i with | 0=>clN o c n g t ks | i+1=>clS o c n g t ks (colsAll (ks.take (i+1))) (i+1)) (fun i:Nat=>i≤ks.length) (fun i=>ks.length - i) 0 (by simp) (sub_mk [(1,_),(3,_),(15,_),(16,_),(17,_)] [(1,1,_)] ⟨by simp,by simp,by simp [renOf,Blk.live],by simp⟩ (by simp [renOf])) ?_
  intro i hi
  have hle:=colsAll_take_le ks i
  by_cases hlt:i<ks.length
  ·have hgi:ks[i]?=some ks[i]:=List.getElem?_eq_getElem hlt
   have c1:=Ex.clen ks[i]
   have k1:=Ex.ctake ks[i]
   have hr:=hrec ks[i] (List.getElem_mem hlt)
   have hle2:=colsAll_take_le ks (i+1)
   have htk:=colsAll_take hgi
   rw [htk,List.length_append] at hle2
   cases i with
   | zero =>
     have hlt2:(0:Int)<ks.length:=by omega
     have s1:(ks[0].cols.length)*8≤140737488355328:=by omega
     have s2:ks[0].cols.length≤9223372036854775807:=by omega
     have ht0:colsAll (ks.take 1)=ks[0].cols:=by rw [htk]; simp [colsAll]
     simp [clN,hlt,hlt2,hgi,c1,k1]
     (repeat' (first|contradiction|exact .ok|apply And.intro|intro _|(refine gc (fun h=>?_) (fun h=>?_)<;>(have i:=h;(try simp at i);first|done|simp[h,i]|simp))))
     refine acallT_plain hr (by simp [Ex.a]) ?_
     simp [s1,s2]
     (repeat' (first|contradiction|exact .ok|apply And.intro|intro _|(refine gc (fun h=>?_) (fun h=>?_)<;>(have i:=h;(try simp at i);first|done|simp[h,i]|simp))))
     refine ⟨1,hlt,?_,?_⟩
     ·refine sub_mk [(1,_),(3,_),(15,_),(16,_),(17,_)] [(1,1,_),(900,24,_)] ⟨by simp,by simp,by simp [renOf,Blk.live,ht0],by simp⟩ ?_
      simp [renOf,ht0]
      exact wrap_in (by omega) (by omega)
     ·simp; omega
   | succ i =>
     have hlt2:((i+1:Nat):Int)<ks.length:=by omega
     have hlt3:(i:Int)+1<ks.length:=by omega
     have hp:(0:Int)≤(i:Int)+1:=by omega
     simp only [clS]
     generalize colsAll (ks.take (i+1))=L at *
     have s1:(L.length+ks[i+1].cols.length)*8≤140737488355328:=by omega
     have s2:L.length+ks[i+1].cols.length≤9223372036854775807:=by omega
     simp [hlt,hlt2,hlt3,hp,hgi,c1,k1]
     (repeat' (first|contradiction|exact .ok|apply And.intro|intro _|(refine gc (fun h=>?_) (fun h=>?_)<;>(have i:=h;(try simp at i);first|done|simp[h,i]|simp))))
     refine acallT_plain hr (by simp [Ex.a]) ?_
     simp [s1,s2]
     (repeat' (first|contradiction|exact .ok|apply And.intro|intro _|(refine gc (fun h=>?_) (fun h=>?_)<;>(have i:=h;(try simp at i);first|done|simp[h,i]|simp))))
     refine ⟨i+2,by omega,?_,?_⟩
     ·refine sub_mk [(1,_),(3,_),(15,_),(16,_),(17,_)] [(1,1,_),(900,24,_)] ⟨by simp,by simp,by simp [renOf,Blk.live,htk],by simp⟩ ?_
      simp [renOf,htk]
      rw [wrap_in (by omega) (by omega)]
     ·simp; omega
  ·have hie:i=ks.length:=by omega
   subst hie
   cases hkl:ks.length with
   | zero =>
     have:ks=[]:=List.eq_nil_of_length_eq_zero hkl
     subst this
     have he:Go.Lib.compact (srt (colsAll []))=[]:=by simp [colsAll,srt,Go.Lib.compact,Go.Lib.compactUpTo]
     rw [he]
     simp [clN]
     (repeat' (first|contradiction|exact .ok|apply And.intro|intro _|(refine gc (fun h=>?_) (fun h=>?_)<;>(have i:=h;(try simp at i);first|done|simp[h,i]|simp))))
     refine acallT_plain c_sort_nil (by simp) ?_
     simp
     (repeat' (first|contradiction|exact .ok|apply And.intro|intro _|(refine gc (fun h=>?_) (fun h=>?_)<;>(have i:=h;(try simp at i);first|done|simp[h,i]|simp))))
     refine acallT_plain c_compact_nil (by simp) ?_
     simp
     all_goals exact gz
   | succ i =>
     simp only []
     have hlt:¬ ((i+1:Nat):Int)<ks.length:=by omega
     have hlt2:¬ (i:Int)+1<ks.length:=by omega
     have hki:ks.take (i+1)=ks:=List.take_of_length_le (by omega)
     rw [hki]
     have cs:=c_sort (colsAll ks) (by omega)
     have cc:=c_compact (srt (colsAll ks)) (by rw [srt_len]; omega)
     rw [srt_len] at cc
     have htk:List.take (Go.Lib.compact (srt (colsAll ks))).length (List.map (fun z=>[D.int .i64 z]) (cmp0 (srt (colsAll ks))))=List.map (fun z=>[D.int .i64 z]) (Go.Lib.compact (srt (colsAll ks))):=by
      rw [cmp0,List.map_append,List.take_left' (by simp)]
     have hlen:(Go.Lib.compact (srt (colsAll ks))).length≤(cmp0 (srt (colsAll ks))).length:=by rw [cmp0,List.length_append]; omega
     simp only [clS]
     simp [hkl]
     (repeat' (first|contradiction|exact .ok|apply And.intro|intro _|(refine gc (fun h=>?_) (fun h=>?_)<;>(have i:=h;(try simp at i);first|done|simp[h,i]|simp))))
     refine acallT_hand [900] cs (by simp) (by simp) (by simp) (by simp) (by simp) ?_
     generalize srt (colsAll ks)=S at *
     simp
     (repeat' (first|contradiction|exact .ok|apply And.intro|intro _|(refine gc (fun h=>?_) (fun h=>?_)<;>(have i:=h;(try simp at i);first|done|simp[h,i]|simp))))
     refine acallT_hand [900] cc (by simp) (by simp) (by simp) (by simp) (by simp) ?_
     generalize Go.Lib.compact S=K at *
     simp [htk,hlen]
     all_goals exact gz
end Go.Proofs.Tryz
namespace Go.Proofs.Tryz
open Go.Ab
def spaced:List (List UInt8)→List UInt8
 | []=>[32]
 | w::ws=>32::(w++spaced ws)
def within (sub:List UInt8):List UInt8→Bool
 | []=>sub.isEmpty
 | b::l=>sub.isPrefixOf (b::l)||within sub l
theorem within_index (sub:List UInt8):∀ l:List UInt8,decide (0≤Lib.index l sub)=within sub l
 | []=>by unfold Lib.index within; cases sub <;> simp
 | b::l=>by
   have ih:=within_index sub l
   have hge:=Lib.index_ge l sub
   unfold Lib.index within
   cases h:sub.isPrefixOf (b::l) with
   | true=>simp
   | false =>
     rw [← ih]
     simp only [Bool.false_or,Bool.false_eq_true,if_false]
     by_cases h1:Lib.index l sub=-1
     ·simp [h1]
     ·have:(Lib.index l sub==-1)=false:=by simpa using h1
      rw [this]
      simp
      omega
def plainW (w:List UInt8):Bool:=w.all (· != 32)
theorem within_skip (s:List UInt8):∀ (w l:List UInt8),plainW w=true→within (32::(s++[32])) (w++l)=within (32::(s++[32])) l
 | [],l,_=>rfl
 | b::w,l,h=>by
   simp only [plainW,List.all_cons,Bool.and_eq_true,bne_iff_ne,ne_eq] at h
   have h2:plainW w=true:=h.2
   rw [List.cons_append,within,within_skip s w l h2]
   have:((32:UInt8)==b)=false:=by simpa using fun e=>h.1 e.symm
   simp [List.isPrefixOf,this]
theorem spaced_head (ws:List (List UInt8)):∃ l,spaced ws=32::l:=by cases ws <;> exact ⟨_,rfl⟩
theorem prefix_word:∀ (s w l:List UInt8),plainW s=true→plainW w=true→(s++[32]).isPrefixOf (w++32::l)=(s==w)
 | [],[],l,_,_=>by simp [List.isPrefixOf]
 | [],b::w,l,_,h=>by
   simp only [plainW,List.all_cons,Bool.and_eq_true,bne_iff_ne,ne_eq] at h
   have:((32:UInt8)==b)=false:=by simpa using fun e=>h.1 e.symm
   simp [List.isPrefixOf,this]
 | a::s,[],l,h,_=>by
   simp only [plainW,List.all_cons,Bool.and_eq_true,bne_iff_ne,ne_eq] at h
   have:(a==(32:UInt8))=false:=by simpa using h.1
   simp [List.isPrefixOf,this]
 | a::s,b::w,l,h1,h2=>by
   simp only [plainW,List.all_cons,Bool.and_eq_true] at h1 h2
   have ih:=prefix_word s w l h1.2 h2.2
   simp only [List.cons_append,List.isPrefixOf]
   rw [ih]
   rfl
theorem within_spaced (s:List UInt8) (hs:plainW s=true):∀ ws:List (List UInt8),ws.all plainW=true→within (32::(s++[32])) (spaced ws)=ws.contains s
 | [],_=>by cases s <;> simp [spaced,within,List.isPrefixOf]
 | w::ws,h=>by
   simp only [List.all_cons,Bool.and_eq_true] at h
   rw [spaced,within,within_skip s w _ h.1,within_spaced s hs ws h.2]
   obtain ⟨l,hl⟩:=spaced_head ws
   simp only [List.isPrefixOf,BEq.rfl,Bool.true_and]
   rw [hl,prefix_word s w l hs h.1,Bool.eq_iff_iff]
   simp
def lowr (c:UInt8):Bool:=decide (97≤c.toNat)&&decide (c.toNat≤122)
def nameB (c:UInt8):Bool:=lowr c||(decide (48≤c.toNat)&&decide (c.toNat≤57)||c.toNat==95)
theorem nameB_plain {c:UInt8} (h:nameB c=true):(c != 32)=true:=by
 have:c ≠ 32:=by rintro rfl; revert h; decide
 simpa using this
theorem plain_of_name {s:List UInt8} (h:s.all nameB=true):plainW s=true:=by
 rw [List.all_eq_true] at h
 exact List.all_eq_true.2 fun x hx=>nameB_plain (h x hx)
def headLow:List UInt8→Bool
 | []=>false
 | c::_=>lowr c
def nameOk (ws:List (List UInt8)) (s:List UInt8):Bool:=decide (s.length≤16)&&(headLow s&&(s.all nameB&&!ws.contains s))
end Go.Proofs.Tryz
namespace Go.Proofs.Tryz
open Go.Ab
set_option maxRecDepth 100000
def isI64 (v:Value):Prop:=∃ m,v=.int .i64 m
def esG (g:Nat):Option (List D):=if g=1 then some [.int .i64 0,.int .i64 0,.str []] else if g=0 then some opsC else if g=2 then some [.any isI64] else none
noncomputable def Es:Env:=⟨Tryz.prog,esG⟩
@[simp] theorem Es_P:Es.P=Tryz.prog:=id rfl
@[simp] theorem Es_G (g:Nat):Es.G g=esG g:=rfl
theorem mixs:Es.P.follows .mixedOrders=true:=by kernel_rfl
theorem upo {f:FuncId} {xs:List AV} {B:List Blk} {y:AV} {B':List Blk} (h:Cf Eo f xs B y B'):Cf Es f xs B y B' :=
 Cf.more (E:=Eo) (E':=Es) rfl (fun g cs e=>by
  rw [Eo_G] at e
  rw [Es_G,esG]
  split at e
  ·rename_i h0; rw [if_pos h0]; exact e
  ·rename_i h0
   split at e
   ·rename_i h1; rw [if_neg h0,if_pos h1]; exact e
   ·cases e) h
theorem ups {f:FuncId} {xs:List AV} {B:List Blk} {y:AV} {B':List Blk} (h:Cf En f xs B y B'):Cf Es f xs B y B':=upo (up h)
def words:List (List UInt8):=[[115,101,108,101,99,116],[100,105,115,116,105,110,99,116],[97,108,108],[102,114,111,109],[119,104,101,114,101],[103,114,111,117,112],[98,121],[104,97,118,105,110,103],[97,115],[111,110],[117,110,105,111,110],[101,120,99,101,112,116],[105,110,116,101,114,115,101,99,116],[106,111,105,110],[105,110,110,101,114],[108,101,102,116],[114,105,103,104,116],[102,117,108,108],[99,114,111,115,115],[115,101,109,105],[97,110,116,105],[97,110,100],[111,114],[110,111,116],[105,115],[110,117,108,108],[116,114,117,101],[102,97,108,115,101],[105,110],[99,97,115,101],[119,104,101,110],[116,104,101,110],[101,108,115,101],[101,110,100],[118,97,108,117,101,115],[116,97,98,108,101],[112,114,105,109,97,114,121],[117,110,105,113,117,101],[102,111,114,101,105,103,110],[114,101,102,101,114,101,110,99,101,115],[99,104,101,99,107],[105,110,116],[98,111,111,108],[116,101,120,116],[99,111,117,110,116],[115,117,109],[109,105,110],[109,97,120],[99,111,97,108,101,115,99,101],[108,101,110,103,116,104],[115,97,109,101],[109,111,100]]
theorem rest_cell {w:World} {g:Gh} {B:List Blk} {bl:Nat→Blk} (m:Mem (ctxOf Es w g B) bl w g):∃ n,w.cell? ⟨2,0,none⟩=some (.int .i64 n):=by
 have hc:=m.glob 2 [.any isI64] (by simp [ctxOf,esG])
 simp only [RepCells,RepD] at hc
 obtain ⟨⟨v,hv,⟨n,rfl⟩,_⟩,_⟩:=hc
 exact ⟨n,m.con _ _ _ hv⟩
theorem c_contains (s sub:List UInt8) (hs:s.length<4294967281):Cf Es 114 [.d (.str s),.d (.str sub)] [] (.d (.bool (within sub s))) []:=by
 refine cf_of_calls (by kernel_rfl) fun w g vs hr m=>?_
 obtain ⟨_,_,rfl,r1,_,_,rfl,r2,r3⟩:=hr
 simp only [RepAs] at r3
 subst r3
 simp only [RepA,RepD] at r1 r2
 subst r1 r2
 obtain ⟨n,hn⟩:=rest_cell m
 refine (Tryz.strings_Contains _ _ n w (by simpa [ByteArray.size_mk'] using hs) hn).mono ?_
 rintro e w' ⟨rfl,rfl⟩
 refine ⟨_,rfl,?_,.refl _ _⟩
 simp only [RepA,RepD,Lib.contains,within_index]
end Go.Proofs.Tryz
