import Derived.Test.YtklnfckiabhceaaGreatDoorClp
import Derived.Test.YtklnfckiabhceaaGreatDoorKCldR
import Derived.Test.YtklnfckiabhceaaGreatDoorKFil
set_option linter.all false
namespace Go.Proofs.Tryz
open Go.Ab
set_option maxRecDepth 100000
set_option maxHeartbeats 2000000
theorem p_equal (a b:List Int) (hl:a.length≤1000):Cf En 51 [.d (.sl (ints a)),.d (.sl (ints b))] [] (.d (.bool (a==b))) []:=by
 refine cf_intro mix (fn:=Tryz.f51) (by kernel_rfl) rfl (by kernel_rfl) (by decide) (by simp) ?_
 by_cases he:a.length=b.length
 ·have he':(a.length:Int)=b.length:=by omega
  simp [he]
  (repeat' (first|contradiction|exact .ok|apply And.intro|intro _|(refine gc (fun h=>?_) (fun h=>?_)<;>(have h':=h;(try simp at h');first|done|simp[h,h',he]|simp[he]))))
  refine aloopT mix (by decide) (fun i:Nat=>{ s:=mkS [(0,.d (.sl (ints a))),(1,.d (.sl (ints b))),(12,.d (.int .i64 b.length)),(13,.d (.int .i64 i))],b:=mkB [] }) (fun i=>i≤a.length∧a.take i=b.take i) (fun i=>a.length - i) 0 (by simp) (sub_mk _ [] .nil (by simp)) ?_
  rintro i ⟨hi,ht⟩
  by_cases hlt:i<a.length
  ·have hlb:i<b.length:=by omega
   have hw:=wrap_in (n:=(i:Int)+1) (by omega) (by omega)
   by_cases hx:a[i]=b[i]
   ·simp [hlt,hlb,hx]
    (repeat' (first|contradiction|exact .ok|apply And.intro|intro _|(refine gc (fun h=>?_) (fun h=>?_)<;>(have h':=h;(try simp at h');first|done|simp[h,h',hx]|simp[hx]))))
    refine ⟨i+1,⟨by omega,by rw [take_snoc hlt,take_snoc hlb,ht,hx]⟩,?_,by simp; omega⟩
    exact sub_mk _ [] .nil (by simp [hw])
   ·have hne:(a==b)=false:=by
     rw [beq_eq_false_iff_ne]
     rintro rfl
     exact hx rfl
    simp [hlt,hlb,hx,hne]
    (repeat' (first|contradiction|exact .ok|apply And.intro|intro _|(refine gc (fun h=>?_) (fun h=>?_)<;>(have h':=h;(try simp at h');first|done|simp[h,h',hx]|simp[hx]))))
  have hie:i=a.length:=by omega
  subst hie
  have hab:a=b:=by rw [List.take_length,List.take_of_length_le (by omega)] at ht; exact ht
  have hnl:¬ a.length<b.length:=by omega
  simp [hnl,hab]
  all_goals exact gz
 ·have he':¬ (a.length:Int)=b.length:=by omega
  have hne:(a==b)=false:=by
   rw [beq_eq_false_iff_ne]
   rintro rfl
   exact he rfl
  simp [he,he',hne]
  (repeat' (first|contradiction|exact .ok|apply And.intro|intro _|(refine gc (fun h=>?_) (fun h=>?_)<;>(have h':=h;(try simp at h');first|done|simp[h,h',he]|simp[he]))))
theorem p_cl1 (t u:List Int) (hl:u.length≤1000):Cf En 144 [.d (.sl (ints u)),.ptr 1000000 0 0] [.var [.d (.sl (ints t))]] (.d (.bool (u==t))) [.var [.d (.sl (ints t))]]:=by
 refine cf_intro mix (fn:=Tryz.f144) (by kernel_rfl) rfl (by kernel_rfl) (by decide) (by simp) ?_
 simp
 (repeat' (first|contradiction|exact .ok|apply And.intro|intro _|(refine gc (fun h=>?_) (fun h=>?_)<;>(have h':=h;(try simp at h');first|done|simp[h,h']|simp))))
 refine acallT_plain (p_equal u t hl) (by simp) ?_
 simp
 all_goals exact gz
theorem p_idx (t:List Int) (S:List (List Int)) (hl:S.length≤1000) (hS:∀ u∈S,u.length≤1000):Cf En 182 [.d (.sl (S.map intsD)),.clo 144 [.ptr 1000000 0 0]] [.var [.d (.sl (ints t))]] (.d (.int .i64 (fidx (fun u=>u==t) S 0))) [.var [.d (.sl (ints t))]]:=by
 refine cf_intro mix (fn:=Tryz.f182) (by kernel_rfl) rfl (by kernel_rfl) (by decide) (by simp) ?_
 simp
 (repeat' (first|contradiction|exact .ok|apply And.intro|intro _|(refine gc (fun h=>?_) (fun h=>?_)<;>(have h':=h;(try simp at h');first|done|simp[h,h']|simp))))
 refine aloopT mix (by decide) (fun i:Nat=>{ s:=mkS [(0,.d (.sl (S.map intsD))),(1,.clo 144 [.ptr 1000000 0 0]),(7,.d (.int .i64 S.length)),(8,.d (.int .i64 i))],b:=mkB [(1000000,1000000,.var [.d (.sl (ints t))])] }) (fun i=>i≤S.length∧fidx (fun u=>u==t) (S.drop i) i=fidx (fun u=>u==t) S 0) (fun i=>S.length - i) 0 (by simp) (sub_mk _ [(1000000,1000000,_)] ⟨by simp,by simp,by simp [renOf,Blk.live],base1⟩ (by simp [renOf])) ?_
 rintro i ⟨hi,hf⟩
 by_cases hlt:i<S.length
 ·rw [fidx_drop hlt] at hf
  obtain ⟨u,hu⟩:∃ u,u=S[i]:=⟨_,rfl⟩
  have hgi:∀ h,S[i]'h=u:=fun _=>hu.symm
  rw [← hu] at hf
  have hw:=wrap_in (n:=(i:Int)+1) (by omega) (by omega)
  have hul:=hS u (by rw [hu]; exact List.getElem_mem hlt)
  simp [hlt,hgi,intsD]
  (repeat' (first|contradiction|exact .ok|apply And.intro|intro _|(refine gc (fun h=>?_) (fun h=>?_)<;>(have h':=h;(try simp at h');first|done|simp[h,h']|simp))))
  refine acallT_hand [1000000] (p_cl1 t u hul) (by simp) (by simp) (by simp) (by simp) (by simp) ?_
  cases he:u==t
  ·rw [he] at hf
   simp [he]
   (repeat' (first|contradiction|exact .ok|apply And.intro|intro _|(refine gc (fun h=>?_) (fun h=>?_)<;>(have h':=h;(try simp at h');first|done|simp[h,h',he]|simp[he]))))
   refine ⟨i+1,⟨by omega,by simpa using hf⟩,?_,by simp; omega⟩
   exact sub_mk _ [(1000000,1000000,_)] ⟨by simp,by simp,by simp [renOf,Blk.live],base1⟩ (by simp [renOf,hw])
  ·rw [he] at hf
   simp only [if_true] at hf
   simp [he,← hf]
   (repeat' (first|contradiction|exact .ok|apply And.intro|intro _|(refine gc (fun h=>?_) (fun h=>?_)<;>(have h':=h;(try simp at h');first|done|simp[h,h',he]|simp[he]))))
 have hie:i=S.length:=by omega
 subst hie
 rw [List.drop_length,fidx] at hf
 simp [← hf]
 all_goals exact gz
theorem p_has (t:List Int) (S:List (List Int)) (hl:S.length≤1000) (hS:∀ u∈S,u.length≤1000):Cf En 143 [.d (.sl (S.map intsD)),.clo 144 [.ptr 1000000 0 0]] [.var [.d (.sl (ints t))]] (.d (.bool (S.any fun u=>u==t))) [.var [.d (.sl (ints t))]]:=by
 refine cf_intro mix (fn:=Tryz.f143) (by kernel_rfl) rfl (by kernel_rfl) (by decide) (by simp) ?_
 have hg:=fidx_ge (p:=fun u=>u==t) (l:=S) (k:=0)
 simp
 (repeat' (first|contradiction|exact .ok|apply And.intro|intro _|(refine gc (fun h=>?_) (fun h=>?_)<;>(have h':=h;(try simp at h');first|done|simp[h,h']|simp))))
 refine acallT_hand [1000000] (p_idx t S hl hS) (by simp) (by simp) (by simp) (by simp) (by simp) ?_
 simp [hg]
 all_goals exact gz
def trG (row:List V) (l:List At):List Int:=l.map fun a=>(evalV a.ex row).tr
theorem p13_truths (l:List At) (hl:l.length≤1000) (ht:∀ a∈l,a.v.t.length≤200) (row:List V) (hrow:row.length≤9223372036854775807):Cf Eo 44 [.d (.sl (l.map At.c)),.d (.sl (row.map V.c))] [] (.d (.sl (ints (trG row l)))) []:=by
 refine cf_intro mixo (fn:=Tryz.f44) (by kernel_rfl) rfl (by kernel_rfl) (by decide) (by simp) ?_
 simp
 (repeat' (first|contradiction|exact .ok|apply And.intro|intro _|(refine gc (fun h=>?_) (fun h=>?_)<;>(have h':=h;(try simp at h');first|done|simp[h,h']|simp))))
 refine aloopT mixo (by decide) (fun i:Nat=>{ s:=mkS [(1,.d (.sl (row.map V.c))),(5,.ref 900 0 i 1),(8,.d (.sl (l.map At.c))),(9,.d (.int .i64 l.length)),(10,.d (.int .i64 i))],b:=mkB [(900,900,.arr 3 1 (ints (trG row (l.take i))) false)] }) (fun i=>i≤l.length) (fun i=>l.length - i) 0 (by simp)
  (sub_mkn 5 900 3 1 (by simp) (by simp) (by decide) (by decide) _ [(900,900,_)] ⟨by simp,by simp,by simp [renOf,Blk.live,trG,ints],by simp⟩ (by simp [renOf])) ?_
 intro i hi
 by_cases hlt:i<l.length
 ·obtain ⟨a,ha⟩:∃ a,a=l[i]:=⟨_,rfl⟩
  have hgi:∀ h,l[i]'h=a:=fun _=>ha.symm
  have hta:=ht a (by rw [ha]; exact List.getElem_mem hlt)
  have he:=eval_cf row hrow (SizeOf.sizeOf a.ex+1) a.ex (by omega) 0 (few_ex hta 0 (by omega))
  have hw:=wrap_in (n:=(i:Int)+1) (by omega) (by omega)
  have hTl:(trG row (l.take i)).length=i:=by simp [trG]; omega
  have hT:trG row (l.take (i+1))=trG row (l.take i)++[(evalV a.ex row).tr]:=by unfold trG; rw [take_snoc hlt,List.map_append,← ha]; rfl
  simp [hlt,hgi,At.c]
  (repeat' (first|contradiction|exact .ok|apply And.intro|intro _|(refine gc (fun h=>?_) (fun h=>?_)<;>(have h':=h;(try simp at h');first|done|simp[h,h']|simp))))
  refine acallT_plain (up (p13_expr a)) (by simp [At.a,At.c]) ?_
  simp [Ex.a,Ex.ctake']
  (repeat' (first|contradiction|exact .ok|apply And.intro|intro _|(refine gc (fun h=>?_) (fun h=>?_)<;>(have h':=h;(try simp at h');first|done|simp[h,h']|simp))))
  refine acallT_plain he (by simp [Ex.a,Ex.ctake']) ?_
  simp [V.a]
  refine acallT_plain (up (v_truth (evalV a.ex row))) (by simp [V.a]) ?_
  simp [hTl,szs i (by omega) 8 (by decide),szs (i+1) (by omega) 8 (by decide)]
  (repeat' (first|contradiction|exact .ok|apply And.intro|intro _|(refine gc (fun h=>?_) (fun h=>?_)<;>(have h':=h;(try simp at h');first|done|simp[h,h']|simp))))
  refine ⟨i+1,by omega,?_,by simp; omega⟩
  exact sub_mk _ [(900,21,_)] ⟨by simp,by simp,by simp [renOf,Blk.live,hT,ints],by simp⟩ (by simp [renOf,hw])
 have hie:i=l.length:=by omega
 subst hie
 rw [List.take_length]
 have hTl:(trG row l).length=l.length:=by simp [trG]
 simp [hTl]
 (repeat' (first|contradiction|exact .ok|apply And.intro|intro _|(refine gc (fun h=>?_) (fun h=>?_)<;>(have h':=h;(try simp at h');first|done|simp[h,h']|simp))))
 all_goals exact List.take_of_length_le (by simp [hTl])
theorem trG_zero (v:V) (A:List At):trG [v] (A.map At.zero)=trsG A v:=by
 unfold trG trsG
 rw [List.map_map]
 rfl
theorem constsG_zero (A:List At):constsG (A.map At.zero)=constsG A:=by
 unfold constsG
 congr 1
 rw [List.filter_map,List.map_map]
 rfl
theorem distG_any (f:V→List Int) (O:List V) (v:V):((O.map f).any fun u=>u==f v)=O.any fun u=>f u==f v:=by
 rw [List.any_map]; rfl
def cqF (Z:List At) (C:List V) (f:V→List Int) (y:Nat×List V×Bool):St :=
 { s:=mkS [(7,.d (.sl (Z.map At.c))),(10,.ref 900 0 y.2.1.length 3),(11,.ref 901 0 y.2.1.length 1),(33,.d (.sl (C.map V.c))),(34,.d (.int .i64 C.length)),(35,.d (.int .i64 y.1))],b:=mkB [(900,900,.arr 79 3 (y.2.1.map V.c) false),(901,901,.arr 22 1 ((y.2.1.map f).map intsD) y.2.2)] }
theorem p13_classes (x:Col) (c:Int) (l:List At) (hl:l.length≤12) (hk:x.t=1∨x.t=2∨x.t=3) (hkd:∀ a∈l,a.col=c→a.v.k=0∨a.v.k=x.t) (ht:∀ a∈l,a.v.t.length≤200) (hn:∀ a∈l,-maxI≤a.v.n∧a.v.n≤maxI) :
  Cf Eo 92 [x.a,.d (.int .i64 c),.d (.sl (l.map At.c))] [] (.d (.sl ((classesG c x.t x.b l).map V.c))) []:=by
 refine cf_intro mixo (fn:=Tryz.f92) (by kernel_rfl) rfl (by kernel_rfl) (by decide) (by simp) ?_
 simp [Col.a,Col.c]
 (repeat' (first|contradiction|exact .ok|apply And.intro|intro _|(refine gc (fun h=>?_) (fun h=>?_)<;>(have h':=h;(try simp at h');first|done|simp[h,h']|simp))))
 refine aloopT mixo (by decide) (fun i:Nat=>{ s:=mkS [(1,.d (.int .i64 c)),(3,.ptr 3 0 0),(7,.ref 900 0 (aboutG c (l.take i)).length 5),(15,.d (.sl (l.map At.c))),(16,.d (.int .i64 l.length)),(17,.d (.int .i64 i))],b:=mkB [(3,3,.var (x.c.map AV.d)),(900,900,.arr 81 5 (((aboutG c (l.take i)).map At.zero).map At.c) false)] }) (fun i=>i≤l.length) (fun i=>l.length - i) 0 (by simp)
  (sub_mkn 7 900 81 5 (by simp) (by simp) (by decide) (by decide) _ [(3,3,_),(900,900,_)] ⟨by simp,by simp,by simp [renOf,Blk.live,Col.c,aboutG],by simp⟩ (by simp [renOf,aboutG])) ?_
 intro i hi
 by_cases hlt:i<l.length
 ·have hta:=aboutG_take (c:=c) hlt
  obtain ⟨a,ha⟩:∃ a,a=l[i]:=⟨_,rfl⟩
  have hgi:∀ h,l[i]'h=a:=fun _=>ha.symm
  rw [← ha] at hta
  have hAl:(aboutG c (l.take i)).length≤12:=Nat.le_trans (List.length_filter_le _ _) (by simp; omega)
  have hw:=wrap_in (n:=(i:Int)+1) (by omega) (by omega)
  generalize aboutG c (l.take i)=A at *
  by_cases hc:a.col=c
  ·rw [if_pos hc] at hta
   simp [hlt,hgi,At.c,hc,szs A.length (by omega) 48 (by decide),szs (A.length+1) (by omega) 48 (by decide)]
   (repeat' (first|contradiction|exact .ok|apply And.intro|intro _|(refine gc (fun h=>?_) (fun h=>?_)<;>(have h':=h;(try simp at h');first|done|simp[h,h',hc]|simp[hc]))))
   refine ⟨i+1,by omega,?_,by simp; omega⟩
   exact sub_mk _ [(3,3,_),(900,29,_)] ⟨by simp,by simp,by simp [renOf,Blk.live,Col.c,hta,At.c,At.zero],by simp⟩ (by simp [renOf,hw,hta])
  ·rw [if_neg hc] at hta
   simp [hlt,hgi,At.c,hc]
   (repeat' (first|contradiction|exact .ok|apply And.intro|intro _|(refine gc (fun h=>?_) (fun h=>?_)<;>(have h':=h;(try simp at h');first|done|simp[h,h',hc]|simp[hc]))))
   refine ⟨i+1,by omega,?_,by simp; omega⟩
   exact sub_mk _ [(3,3,_),(900,900,_)] ⟨by simp,by simp,by simp [renOf,Blk.live,Col.c,hta],by simp⟩ (by simp [renOf,hw,hta])
 have hie:i=l.length:=by omega
 subst hie
 rw [List.take_length]
 unfold classesG
 have hAm:∀ a∈aboutG c l,a∈l∧a.col=c:=fun a h=>about_mem h
 have hAl:(aboutG c l).length≤12:=Nat.le_trans (List.length_filter_le _ _) hl
 have hcz:=constsG_zero (aboutG c l)
 have hZ:∀ z∈(aboutG c l).map At.zero,∃ a∈l,a.col=c∧z.v=a.v:=fun z hz=>by
  obtain ⟨a,ha,rfl⟩:=List.mem_map.1 hz
  exact ⟨a,(hAm a ha).1,(hAm a ha).2,rfl⟩
 have hca:=up (p13_cands x ((aboutG c l).map At.zero) (by simpa using hAl) hk (fun z hz=>by obtain ⟨a,h1,h2,h3⟩:=hZ z hz; rw [h3]; exact hkd a h1 h2) (fun z hz=>by obtain ⟨a,h1,h2,h3⟩:=hZ z hz; rw [h3]; exact hn a h1))
 have hZt:∀ z∈(aboutG c l).map At.zero,z.v.t.length≤200:=fun z hz=>by obtain ⟨a,h1,h2,h3⟩:=hZ z hz; rw [h3]; exact ht a h1
 rw [hcz] at hca
 have hgl:=genC_len x.t x.b (constsG (aboutG c l))
 have hcl:=constsG_len (aboutG c l)
 have htz:=fun v=>trG_zero v (aboutG c l)
 have hzl:((aboutG c l).map At.zero).length=(aboutG c l).length:=by simp
 generalize genC x.t x.b (constsG (aboutG c l))=C at *
 clear hcz hZ hAm
 obtain ⟨f,hf⟩:∃ f,f=trsG (aboutG c l):=⟨_,rfl⟩
 have hfl:∀ v,(f v).length≤12:=fun v=>by rw [hf]; simpa [trsG] using hAl
 rw [← hf]
 have htf:∀ v,trG [v] ((aboutG c l).map At.zero)=f v:=fun v=>by rw [hf]; exact htz v
 clear htz hf
 generalize hZe:(aboutG c l).map At.zero=Z at *
 have hZl:(aboutG c l).length=Z.length:=hzl.symm
 simp [Col.c,hZl]
 (repeat' (first|contradiction|exact .ok|apply And.intro|intro _|(refine gc (fun h=>?_) (fun h=>?_)<;>(have h':=h;(try simp at h');first|done|simp[h,h']|simp))))
 refine acallT_plain hca (by simp [Col.a,Col.c]) ?_
 simp
 (repeat' (first|contradiction|exact .ok|apply And.intro|intro _|(refine gc (fun h=>?_) (fun h=>?_)<;>(have h':=h;(try simp at h');first|done|simp[h,h']|simp))))
 refine aloopT mixo (by decide) (cqF Z C f) (fun y=>y.1≤C.length∧distG f y.2.1 (C.drop y.1)=distG f [] C∧y.2.1.length≤y.1) (fun y=>C.length - y.1) (0,[],false) ⟨by simp,by simp,by simp⟩
  (sub_mkn2 10 902 79 3 11 903 22 1 (by simp) (by simp) (by decide) (by decide) (by simp) (by simp) (by decide) (by decide) (by decide) (by decide) _ [(900,902,_),(901,903,_)] ⟨by simp,by simp,by simp [renOf,Blk.live],by simp⟩ (by simp [renOf])) ?_
 rintro ⟨i,O,fz⟩ ⟨hi,hD,hOl⟩
 simp only at hi hD hOl
 by_cases hlt:i<C.length
 ·rw [distG_drop hlt] at hD
  obtain ⟨v,hv⟩:∃ v,v=C[i]:=⟨_,rfl⟩
  have hgi:∀ h,C[i]'h=v:=fun _=>hv.symm
  rw [← hv] at hD
  have hw:=wrap_in (n:=(i:Int)+1) (by omega) (by omega)
  have htr:=p13_truths Z (by omega) hZt [v] (by simp)
  rw [htf] at htr
  have hda:=distG_any f O v
  have hha:=up (p_has (f v) (O.map f) (by simp; omega) (fun u hu=>by obtain ⟨z,_,rfl⟩:=List.mem_map.1 hu; exact Nat.le_trans (hfl z) (by omega)))
  rw [hda] at hha
  simp [cqF,hlt,hgi,V.c]
  (repeat' (first|contradiction|exact .ok|apply And.intro|intro _|(refine gc (fun h=>?_) (fun h=>?_)<;>(have h':=h;(try simp at h');first|done|simp[h,h']|simp))))
  refine acallT_plain htr (by simp [V.c]) ?_
  simp
  (repeat' (first|contradiction|exact .ok|apply And.intro|intro _|(refine gc (fun h=>?_) (fun h=>?_)<;>(have h':=h;(try simp at h');first|done|simp[h,h']|simp))))
  refine acallT_hand [14] hha (by simp) (by simp) (by simp) (by simp) (by simp) ?_
  cases hfr:O.any fun u=>f u==f v
  ·rw [hfr] at hD
   simp [szs O.length (by omega) 32 (by decide),szs (O.length+1) (by omega) 32 (by decide),szs (O.length+1) (by omega) 24 (by decide)]
   (repeat' (first|contradiction|exact .ok|apply And.intro|intro _|(refine gc (fun h=>?_) (fun h=>?_)<;>(have h':=h;(try simp at h');first|done|simp[h,h']|simp))))
   refine ⟨(i+1,O++[v],true),⟨by simp only; omega,by simpa using hD,by simp; omega⟩,?_,by simp; omega⟩
   exact sub_mk _ [(900,50,_),(901,54,_)] ⟨by simp,by simp,by simp [renOf,Blk.live,V.c,intsD],by simp⟩ (by simp [renOf,hw])
  ·rw [hfr] at hD
   simp
   (repeat' (first|contradiction|exact .ok|apply And.intro|intro _|(refine gc (fun h=>?_) (fun h=>?_)<;>(have h':=h;(try simp at h');first|done|simp[h,h']|simp))))
   refine ⟨(i+1,O,true),⟨by simp only; omega,by simpa using hD,by simp only; omega⟩,?_,by simp; omega⟩
   exact sub_mk _ [(900,900,_),(901,901,_)] ⟨by simp,by simp,by simp [renOf,Blk.live],by simp⟩ (by simp [renOf,hw])
 have hie:i=C.length:=by omega
 subst hie
 rw [List.drop_length,distG] at hD
 rw [← hD]
 simp [cqF]
 all_goals exact gz
end Go.Proofs.Tryz
namespace Go.Proofs.Tryz
open Go.Ab
set_option maxRecDepth 100000
set_option maxHeartbeats 4000000
@[simp] theorem ends_b3 {E:Env} {fn:Func} {y:AV} {st:St} {b1 b2 b3:Blk}:Ab.Ends E fn 3 y [b1,b2,b3] st=aendH 3 (resV E fn st) st.b y [b1,b2,b3]:=ends_hand (B':=[b1,b2,b3])
theorem kept_b3 {b0 b1 b2:Blk} {bl:Nat→Blk} (h0:((bl 1000000).live=true∨bl 1000000=.dead)∧(cvB (renOf (idK [b0,b1,b2])) bl true (bl 1000000)).1=b0)
  (h1:((bl 1000001).live=true∨bl 1000001=.dead)∧(cvB (renOf (idK [b0,b1,b2])) bl true (bl 1000001)).1=b1)
  (h2:((bl 1000002).live=true∨bl 1000002=.dead)∧(cvB (renOf (idK [b0,b1,b2])) bl true (bl 1000002)).1=b2):KeptOk 3 bl (idK [b0,b1,b2]):=by
 have:=@kept_idK [b0,b1,b2] bl
 simp only [List.length_cons,List.length_nil,Nat.zero_add,Nat.reduceAdd] at this
 rw [this]
 intro i c hc
 match i,hc with
 | 0,hc=>cases hc; exact h0
 | 1,hc=>cases hc; exact h1
 | 2,hc=>cases hc; exact h2
theorem base3 {l:Kept} {b0 b1 b2:Blk}:∀ j,j<3→∃ p∈((1000000,1000000,b0)::(1000001,1000001,b1)::(1000002,1000002,b2)::l),p.1=firstName+j∧p.2.1=firstName+j:=fun j hj=>by
 rcases (by omega:j=0∨j=1∨j=2) with rfl | rfl | rfl
 ·exact ⟨_,List.mem_cons_self,rfl,rfl⟩
 ·exact ⟨_,List.mem_cons_of_mem _ List.mem_cons_self,rfl,rfl⟩
 ·exact ⟨_,List.mem_cons_of_mem _ (List.mem_cons_of_mem _ List.mem_cons_self),rfl,rfl⟩
theorem forall3 {α:Type} {P:α→Prop} {a b c:α} (ha:P a) (hb:P b) (hc:P c):∀ x∈[a,b,c],P x:=fun x hx=>by
 rcases List.mem_cons.1 hx with rfl | hx
 ·exact ha
 ·rcases List.mem_cons.1 hx with rfl | hx
  ·exact hb
  ·rw [List.mem_singleton] at hx; subst hx; exact hc
def hitG (p c:Nat) (row r:List V):Bool:=decide (p<r.length)&&(V.beq ((r[p]?).getD nulV) ((row[c]?).getD nulV)&&!(((row[c]?).getD nulV).k==0))
theorem o_hit (o:Tb) (f:Fk) (p c:Nat) (hp:o.pr=[(p:Int)]) (hc:f.cols=[(c:Int)]) (row r:List V) (hcl:c<row.length) :
  Cf En 137 [.d (.sl (r.map V.c)),.ptr 1000000 0 0,.ptr 1000001 0 0,.ptr 1000002 0 0] [.var (o.c.map AV.d),.var [.d (.sl (row.map V.c))],.var (f.c.map AV.d)] (.d (.bool (hitG p c row r))) [.var (o.c.map AV.d),.var [.d (.sl (row.map V.c))],.var (f.c.map AV.d)]:=by
 refine cf_intro mix (fn:=Tryz.f137) (by kernel_rfl) rfl (by kernel_rfl) (by decide) (by simp) ?_
 have hip:ints o.pr=[[.int .i64 p]]:=by rw [hp]; rfl
 have hic:ints f.cols=[[.int .i64 c]]:=by rw [hc]; rfl
 obtain ⟨v,hv⟩:∃ v,v=row[c]:=⟨_,rfl⟩
 have hgv:∀ h,row[c]'h=v:=fun _=>hv.symm
 have hH:hitG p c row r=(decide (p<r.length)&&(V.beq ((r[p]?).getD nulV) v&&!(v.k==0))):=by unfold hitG; rw [List.getElem?_eq_getElem hcl,← hv]; rfl
 rw [hH]
 by_cases hpl:p<r.length
 ·have hpi:(p:Int)<r.length:=by omega
  obtain ⟨w,hw⟩:∃ v,v=r[p]:=⟨_,rfl⟩
  have hgw:∀ h,r[p]'h=w:=fun _=>hw.symm
  have hg2:(r[p]?).getD nulV=w:=by rw [List.getElem?_eq_getElem hpl,← hw]; rfl
  rw [hg2]
  cases hb:V.beq w v with
  | true =>
    rw [V.beq_iff] at hb
    subst hb
    by_cases hk:w.k=0
    ·simp [Tb.c,Fk.c,hip,hic,hpl,hpi,hgw,hgv,hcl,V.c,hk]
     (repeat' (first|contradiction|exact .ok|apply And.intro|intro _|(refine gc (fun h=>?_) (fun h=>?_)<;>(have h':=h;(try simp at h');first|done|simp[h,h',hpl,hpi,hgw,hgv,hcl,V.c,hk]|simp[hpl,hpi,hgw,hgv,hcl,V.c,hk]))))
     all_goals first | (refine kept_b3 ?_ ?_ ?_ <;> simp [Tb.c,Fk.c,hip,hic]; done) | (simp [Tb.c,Fk.c,hip,hic]; done) | skip
    ·simp [Tb.c,Fk.c,hip,hic,hpl,hpi,hgw,hgv,hcl,V.c,hk]
     (repeat' (first|contradiction|exact .ok|apply And.intro|intro _|(refine gc (fun h=>?_) (fun h=>?_)<;>(have h':=h;(try simp at h');first|done|simp[h,h',hpl,hpi,hgw,hgv,hcl,V.c,hk]|simp[hpl,hpi,hgw,hgv,hcl,V.c,hk]))))
     all_goals first | (refine kept_b3 ?_ ?_ ?_ <;> simp [Tb.c,Fk.c,hip,hic]; done) | (simp [Tb.c,Fk.c,hip,hic]; done) | skip
  | false =>
    have hne:=V.beq_f hb
    simp [Tb.c,Fk.c,hip,hic,hpl,hpi,hgw,hgv,hcl,V.c,hne]
    (repeat' (first|contradiction|exact .ok|apply And.intro|intro _|(refine gc (fun h=>?_) (fun h=>?_)<;>(have h':=h;(try simp at h');first|done|simp[h,h',hpl,hpi,hgw,hgv,hcl,V.c,hne]|simp[hpl,hpi,hgw,hgv,hcl,V.c,hne]))))
    all_goals first | (refine kept_b3 ?_ ?_ ?_ <;> simp [Tb.c,Fk.c,hip,hic]; done) | (simp [Tb.c,Fk.c,hip,hic]; done) | skip
 ·have hpi:¬ (p:Int)<r.length:=by omega
  simp [Tb.c,Fk.c,hip,hic,hpl,hpi]
  (repeat' (first|contradiction|exact .ok|apply And.intro|intro _|(refine gc (fun h=>?_) (fun h=>?_)<;>(have h':=h;(try simp at h');first|done|simp[h,h',hpl,hpi]|simp[hpl,hpi]))))
  all_goals first | (refine kept_b3 ?_ ?_ ?_ <;> simp [Tb.c,Fk.c,hip,hic]; done) | (simp [Tb.c,Fk.c,hip,hic]; done) | skip
def refG (p c:Nat) (rows:List (List V)) (row:List V):Int:=if c<row.length then fidx (hitG p c row) rows 0 else -1
theorem o_hitI (o:Tb) (f:Fk) (p c:Nat) (hp:o.pr=[(p:Int)]) (hc:f.cols=[(c:Int)]) (row:List V) (rows:List (List V)) (hcl:c<row.length) (hl:rows.length≤1000) :
  Cf En 136 [.d (.sl (rows.map rowD)),.clo 137 [.ptr 1000000 0 0,.ptr 1000001 0 0,.ptr 1000002 0 0]] [.var (o.c.map AV.d),.var [.d (.sl (row.map V.c))],.var (f.c.map AV.d)] (.d (.int .i64 (fidx (hitG p c row) rows 0))) [.var (o.c.map AV.d),.var [.d (.sl (row.map V.c))],.var (f.c.map AV.d)]:=by
 refine cf_intro mix (fn:=Tryz.f136) (by kernel_rfl) rfl (by kernel_rfl) (by decide) (by simp) ?_
 simp
 (repeat' (first|contradiction|exact .ok|apply And.intro|intro _|(refine gc (fun h=>?_) (fun h=>?_)<;>(have h':=h;(try simp at h');first|done|simp[h,h']|simp))))
 refine aloopT mix (by decide) (fun i:Nat=>{ s:=mkS [(0,.d (.sl (rows.map rowD))),(1,.clo 137 [.ptr 1000000 0 0,.ptr 1000001 0 0,.ptr 1000002 0 0]),(7,.d (.int .i64 rows.length)),(8,.d (.int .i64 i))],b:=mkB [(1000000,1000000,.var (o.c.map AV.d)),(1000001,1000001,.var [.d (.sl (row.map V.c))]),(1000002,1000002,.var (f.c.map AV.d))] }) (fun i=>i≤rows.length∧fidx (hitG p c row) (rows.drop i) i=fidx (hitG p c row) rows 0) (fun i=>rows.length - i) 0 (by simp)
  (sub_mk _ [(1000000,1000000,_),(1000001,1000001,_),(1000002,1000002,_)] ⟨by simp,by simp,by refine forall3 ?_ ?_ ?_ <;> simp [renOf,Blk.live,Tb.c,Fk.c],base3⟩ (by simp [renOf])) ?_
 rintro i ⟨hi,hf⟩
 by_cases hlt:i<rows.length
 ·rw [fidx_drop hlt] at hf
  obtain ⟨r,hr⟩:∃ u,u=rows[i]:=⟨_,rfl⟩
  have hgi:∀ h,rows[i]'h=r:=fun _=>hr.symm
  rw [← hr] at hf
  have hh:=o_hit o f p c hp hc row r hcl
  generalize hitG p c row r=B at *
  have hw:=wrap_in (n:=(i:Int)+1) (by omega) (by omega)
  simp [hlt,hgi,rowD]
  (repeat' (first|contradiction|exact .ok|apply And.intro|intro _|(refine gc (fun h=>?_) (fun h=>?_)<;>(have h':=h;(try simp at h');first|done|simp[h,h']|simp))))
  refine acallT_hand [1000000,1000001,1000002] hh (by simp) (by simp) (by simp) (by simp [Tb.c,Fk.c]) (by simp [fwdR_cons]) ?_
  cases B with
  | false =>
    simp
    (repeat' (first|contradiction|exact .ok|apply And.intro|intro _|(refine gc (fun h=>?_) (fun h=>?_)<;>(have h':=h;(try simp at h');first|done|simp[h,h']|simp))))
    refine ⟨i+1,⟨by omega,by simpa using hf⟩,?_,by simp; omega⟩
    exact sub_mk _ [(1000000,1000000,_),(1000001,1000001,_),(1000002,1000002,_)] ⟨by simp,by simp,by refine forall3 ?_ ?_ ?_ <;> simp [renOf,Blk.live,Tb.c,Fk.c],base3⟩ (by simp [renOf,hw])
  | true =>
    simp only [if_true] at hf
    simp [← hf]
    (repeat' (first|contradiction|exact .ok|apply And.intro|intro _|(refine gc (fun h=>?_) (fun h=>?_)<;>(have h':=h;(try simp at h');first|done|simp[h,h']|simp))))
    all_goals first | (refine kept_b3 ?_ ?_ ?_ <;> simp [Tb.c,Fk.c]; done) | (simp [Tb.c,Fk.c]; done) | skip
 obtain rfl:i=rows.length:=by omega
 rw [List.drop_length,fidx] at hf
 simp [← hf]
 (repeat' (first|contradiction|exact .ok|apply And.intro|intro _|(refine gc (fun h=>?_) (fun h=>?_)<;>(have h':=h;(try simp at h');first|done|simp[h,h']|simp))))
 all_goals first | (refine kept_b3 ?_ ?_ ?_ <;> simp [Tb.c,Fk.c]; done) | (simp [Tb.c,Fk.c]; done) | skip
def pairF (z:Int):AV:=.tup [.d (.int .i64 (max z 0)),.d (.bool (decide (0≤z)))]
theorem o_refd (o:Tb) (f:Fk) (p c:Nat) (hp:o.pr=[(p:Int)]) (hc:f.cols=[(c:Int)]) (row:List V) (rows:List (List V)) (hl:rows.length≤1000) :
  Cf En 85 [o.a,.d (.sl (rows.map rowD)),f.a,.d (.sl (row.map V.c))] [] (pairF (refG p c rows row)) []:=by
 refine cf_intro mix (fn:=Tryz.f85) (by kernel_rfl) rfl (by kernel_rfl) (by decide) (by simp) ?_
 have hip:ints o.pr=[[.int .i64 p]]:=by rw [hp]; rfl
 have hic:ints f.cols=[[.int .i64 c]]:=by rw [hc]; rfl
 have l1:o.pr.length=1:=by rw [hp]; rfl
 have l2:f.cols.length=1:=by rw [hc]; rfl
 have n1:¬ (p:Int)<0:=by omega
 have n2:¬ (c:Int)<0:=by omega
 unfold refG pairF
 by_cases hcl:c<row.length
 ·have hci:¬ (row.length:Int)≤c:=by omega
  have hh:=o_hitI o f p c hp hc row rows hcl hl
  rw [if_pos hcl]
  generalize fidx (hitG p c row) rows 0=F at *
  simp [Tb.a,Tb.c,Fk.a,Fk.c,hip,hic,l1,l2,n1,n2,hci,hcl]
  (repeat' (first|contradiction|exact .ok|apply And.intro|intro _|(refine gc (fun h=>?_) (fun h=>?_)<;>(have h':=h;(try simp at h');first|done|simp[h,h',hip,hic,l1,l2,n1,n2,hci,hcl,Tb.c,Fk.c]|simp[hip,hic,l1,l2,n1,n2,hci,hcl,Tb.c,Fk.c]))))
  refine acallT_hand [4,7,6] hh (by simp) (by simp) (by simp) (by simp [Tb.c,Fk.c,hip,hic]) (by simp [fwdR_cons]) ?_
  simp
  (repeat' (first|contradiction|exact .ok|apply And.intro|intro _|(refine gc (fun h=>?_) (fun h=>?_)<;>(have h':=h;(try simp at h');first|done|simp[h,h']|simp))))
  all_goals (split <;> omega)
 ·have hci:(row.length:Int)≤c:=by omega
  rw [if_neg hcl]
  simp [Tb.a,Tb.c,Fk.a,Fk.c,hip,hic,l1,l2,n1,n2,hci,hcl]
  (repeat' (first|contradiction|exact .ok|apply And.intro|intro _|(refine gc (fun h=>?_) (fun h=>?_)<;>(have h':=h;(try simp at h');first|done|simp[h,h',hip,hic,l1,l2,n1,n2,hci,hcl,Tb.c,Fk.c]|simp[hip,hic,l1,l2,n1,n2,hci,hcl,Tb.c,Fk.c]))))
  all_goals omega
end Go.Proofs.Tryz
