import Derived.Test.YtklnfckiabhceaaGreatDoorKOfr
import Derived.Test.YtklnfckiabhceaaGreatDoorKFil
import Derived.Test.YtklnfckiabhceaaGreatDoorKPln
import Derived.Test.YtklnfckiabhceaaGreatDoorKSky
set_option linter.all false
namespace Go.Proofs.Tryz
open Go.Ab
set_option maxRecDepth 100000
set_option maxHeartbeats 4000000
theorem r13_same (a b:List Int) (hl:a.length≤1000):Cf En 39 [.d (.sl (ints a)),.d (.sl (ints b))] [] (.d (.bool (a==b))) []:=by
 refine cf_intro mix (fn:=Tryz.f39) (by kernel_rfl) rfl (by kernel_rfl) (by decide) (by simp) ?_
 by_cases he:a.length=b.length
 ·have he':(a.length:Int)=b.length:=by omega
  simp [he]
  (repeat' (first|contradiction|exact .ok|apply And.intro|intro _|(refine gc (fun h=>?_) (fun h=>?_)<;>(have h':=h;(try simp at h');first|done|simp[h,h',he]|simp[he]))))
  refine aloopT mix (by decide) (fun i:Nat=>{ s:=mkS [(0,.d (.sl (ints a))),(1,.d (.sl (ints b))),(5,.d (.int .i64 i))],b:=mkB [] }) (fun i=>i≤a.length∧a.take i=b.take i) (fun i=>a.length - i) 0 (by simp) (sub_mk _ [] .nil (by simp)) ?_
  rintro i ⟨hi,ht⟩
  by_cases hlt:i<a.length
  ·have hlb:i<b.length:=by omega
   have hw:=wrap_in (n:=(i:Int)+1) (by omega) (by omega)
   have hga:=ints_get hlt
   have hgb:=ints_get hlb
   obtain ⟨u,hu⟩:∃ u,u=a[i]:=⟨_,rfl⟩
   obtain ⟨v,hv⟩:∃ u,u=b[i]:=⟨_,rfl⟩
   have hgu:∀ h,a[i]'h=u:=fun _=>hu.symm
   have hgv:∀ h,b[i]'h=v:=fun _=>hv.symm
   rw [← hu] at hga
   rw [← hv] at hgb
   by_cases hx:u=v
   ·simp [hlt,hlb,hga,hgb,hgu,hgv,hx]
    (repeat' (first|contradiction|exact .ok|apply And.intro|intro _|(refine gc (fun h=>?_) (fun h=>?_)<;>(have h':=h;(try simp at h');first|done|simp[h,h',hx]|simp[hx]))))
    refine ⟨i+1,⟨by omega,by rw [take_snoc hlt,take_snoc hlb,ht,← hu,← hv,hx]⟩,?_,by simp; omega⟩
    exact sub_mk _ [] .nil (by simp [hw])
   ·have hne:(a==b)=false:=by
     rw [beq_eq_false_iff_ne]
     rintro rfl
     exact hx (by rw [hu,hv])
    simp [hlt,hlb,hga,hgb,hgu,hgv,hx,hne]
    (repeat' (first|contradiction|exact .ok|apply And.intro|intro _|(refine gc (fun h=>?_) (fun h=>?_)<;>(have h':=h;(try simp at h');first|done|simp[h,h',hx]|simp[hx]))))
  obtain rfl:i=a.length:=by omega
  have hab:a=b:=by rw [List.take_length,List.take_of_length_le (by omega)] at ht; exact ht
  subst hab
  simp
  all_goals exact gz
 ·have he':¬ (a.length:Int)=b.length:=by omega
  have hne:(a==b)=false:=by
   rw [beq_eq_false_iff_ne]
   rintro rfl
   exact he rfl
  simp [he,he',hne]
  (repeat' (first|contradiction|exact .ok|apply And.intro|intro _|(refine gc (fun h=>?_) (fun h=>?_)<;>(have h':=h;(try simp at h');first|done|simp[h,h',he,he']|simp[he,he']))))
theorem r13_truths (l:List At) (hl:l.length≤1000) (ht:∀ a∈l,a.v.t.length≤200) (row:List V) (hrow:row.length≤9223372036854775807):Cf En 23 [.d (.sl (l.map At.c)),.d (.sl (row.map V.c))] [] (.d (.sl (ints (trG row l)))) []:=by
 refine cf_intro mix (fn:=Tryz.f23) (by kernel_rfl) rfl (by kernel_rfl) (by decide) (by simp) ?_
 simp
 (repeat' (first|contradiction|exact .ok|apply And.intro|intro _|(refine gc (fun h=>?_) (fun h=>?_)<;>(have h':=h;(try simp at h');first|done|simp[h,h']|simp))))
 refine aloopT mix (by decide) (fun i:Nat=>{ s:=mkS [(0,.d (.sl (l.map At.c))),(1,.d (.sl (row.map V.c))),(5,.ref 900 0 i 1),(6,.d (.int .i64 i))],b:=mkB [(900,900,.arr 3 1 (ints (trG row (l.take i))) false)] }) (fun i=>i≤l.length) (fun i=>l.length - i) 0 (by simp)
  (sub_mkn 5 900 3 1 (by simp) (by simp) (by decide) (by decide) _ [(900,900,_)] ⟨by simp,by simp,by simp [renOf,Blk.live,trG,ints],by simp⟩ (by simp [renOf])) ?_
 intro i hi
 by_cases hlt:i<l.length
 ·obtain ⟨a,ha⟩:∃ a,a=l[i]:=⟨_,rfl⟩
  have hgi:∀ h,l[i]'h=a:=fun _=>ha.symm
  have hta:=ht a (by rw [ha]; exact List.getElem_mem hlt)
  have he:=reval_cf row hrow (SizeOf.sizeOf a.ex+1) a.ex (by omega) 0 (few_ex hta 0 (by omega))
  have hw:=wrap_in (n:=(i:Int)+1) (by omega) (by omega)
  have hTl:(trG row (l.take i)).length=i:=by simp [trG]; omega
  have hT:trG row (l.take (i+1))=trG row (l.take i)++[(evalV a.ex row).tr]:=by unfold trG; rw [take_snoc hlt,List.map_append,← ha]; rfl
  simp [hlt,hgi,At.c]
  (repeat' (first|contradiction|exact .ok|apply And.intro|intro _|(refine gc (fun h=>?_) (fun h=>?_)<;>(have h':=h;(try simp at h');first|done|simp[h,h']|simp))))
  refine acallT_plain (r13_expr a) (by simp [At.a,At.c]) ?_
  simp [Ex.a,Ex.ctake']
  (repeat' (first|contradiction|exact .ok|apply And.intro|intro _|(refine gc (fun h=>?_) (fun h=>?_)<;>(have h':=h;(try simp at h');first|done|simp[h,h']|simp))))
  refine acallT_plain he (by simp [Ex.a,Ex.ctake']) ?_
  simp [V.a]
  refine acallT_plain (r_truth (evalV a.ex row)) (by simp [V.a]) ?_
  simp [hTl,szs i (by omega) 8 (by decide),szs (i+1) (by omega) 8 (by decide)]
  (repeat' (first|contradiction|exact .ok|apply And.intro|intro _|(refine gc (fun h=>?_) (fun h=>?_)<;>(have h':=h;(try simp at h');first|done|simp[h,h']|simp))))
  refine ⟨i+1,by omega,?_,by simp; omega⟩
  exact sub_mk _ [(900,23,_)] ⟨by simp,by simp,by simp [renOf,Blk.live,hT,ints],by simp⟩ (by simp [renOf,hw])
 obtain rfl:i=l.length:=by omega
 rw [List.take_length]
 have hTl:(trG row l).length=l.length:=by simp [trG]
 simp [hTl]
 (repeat' (first|contradiction|exact .ok|apply And.intro|intro _|(refine gc (fun h=>?_) (fun h=>?_)<;>(have h':=h;(try simp at h');first|done|simp[h,h']|simp))))
 all_goals exact List.take_of_length_le (by simp [hTl])
theorem cmp_beq (w v:V):(w.cmp v==0)=V.beq w v:=by
 rw [Bool.eq_iff_iff,V.beq_iff,beq_iff_eq]
 exact ⟨V.cmp_eq,fun h=>by subst h; exact V.cmp_self w⟩
def parA (to:Nat) (z:Int):AV:=if 0≤z then .tup [.d (.int .i64 to),.d (.int .i64 z),.d (.bool true)] else .tup [.d (.int .i64 0),.d (.int .i64 0),.d (.bool false)]
theorem r_parent (S:List Tb) (h:FillOk S) (I:List (List (List V))) (hI:∀ t∈I,t.length≤1000) (k f to:Nat) (x o:Tb) (g:Fk) (hk:k<S.length) (hx:S[k]=x) (hf:f<x.fk.length) (hg:x.fk[f]=g)
  (hto:tgt S g=to) (ho:(htl:to<S.length)→S[to]=o) (row:List V) (hrow:row.length≤9223372036854775807) :
  Cf En 38 [schA S,instA I,.d (.int .i64 k),.d (.int .i64 f),.d (.sl (row.map V.c))] [] (parA to (if to<I.length then refG (hdI o.pr).toNat (hdI g.cols).toNat ((I[to]?).getD []) row else -1)) []:=by
 refine cf_intro mix (fn:=Tryz.f38) (by kernel_rfl) rfl (by kernel_rfl) (by decide) (by simp) ?_
 have hl:=h.ok.len
 have htl:to<S.length:=by
  have:=fidx_ub (p:=fun y:Tb=>y.n==g.t) (l:=S) (i:=0)
  have h2:fidx (fun y:Tb=>y.n==g.t) S 0=to:=hto
  rw [h2] at this
  simp at this
  exact this
 have ho':=ho htl
 have hgo:∀ h,S[to]'h=o:=fun _=>ho'
 have hgx:∀ h,S[k]'h=x:=fun _=>hx
 have hgg:∀ h,x.fk[f]'h=g:=fun _=>hg
 have hxm:x∈S:=by rw [← hx]; exact List.getElem_mem hk
 have hom:o∈S:=by rw [← ho']; exact List.getElem_mem htl
 have hgm:g∈x.fk:=by rw [← hg]; exact List.getElem_mem hf
 obtain ⟨p1,p2,p3⟩:=h.pr o hom
 obtain ⟨g1,g2,g3⟩:=(h.fk x hxm).2 g hgm
 obtain ⟨p,hp⟩:∃ p:Nat,hdI o.pr=p:=⟨(hdI o.pr).toNat,by omega⟩
 obtain ⟨c,hc⟩:∃ p:Nat,hdI g.cols=p:=⟨(hdI g.cols).toNat,by omega⟩
 have hip:ints o.pr=[[.int .i64 p]]:=by
  obtain ⟨q,hq⟩:=len_one p1
  rw [hq] at hp ⊢
  have:q=p:=hp
  rw [this]; rfl
 have hic:ints g.cols=[[.int .i64 c]]:=by
  obtain ⟨q,hq⟩:=len_one g1
  rw [hq] at hc ⊢
  have:q=c:=hc
  rw [this]; rfl
 rw [hp,hc,Int.toNat_natCast,Int.toNat_natCast]
 simp [schA,instA]
 (repeat' (first|contradiction|exact .ok|apply And.intro|intro _|(refine gc (fun h=>?_) (fun h=>?_)<;>(have h':=h;(try simp at h');first|done|simp[h,h']|simp))))
 refine acallT_plain (r3_target S hl h.ok.ok hk hx hf hg) (by simp [schA]) ?_
 rw [place_at (show fidx (fun y:Tb=>y.n==g.t) S 0=to from hto)]
 by_cases htI:to<I.length
 rotate_left
 ·have hti:(I.length:Int)≤to:=by omega
  rw [if_neg htI]
  simp [parA,hti]
  (repeat' (first|contradiction|exact .ok|apply And.intro|intro _|(refine gc (fun h=>?_) (fun h=>?_)<;>(have h':=h;(try simp at h');first|done|simp[h,h',hti]|simp[hti]))))
 have hti:¬ (I.length:Int)≤to:=by omega
 obtain ⟨rows,hr⟩:∃ r,r=I[to]:=⟨_,rfl⟩
 have hgr:∀ h,I[to]'h=rows:=fun _=>hr.symm
 have hrl:rows.length≤1000:=hI rows (by rw [hr]; exact List.getElem_mem htI)
 rw [if_pos htI,List.getElem?_eq_getElem htI,← hr,Option.getD_some]
 unfold refG
 simp [hti,hk,hgx,hf,hgg,htl,hgo,Tb.c,Fk.c,hip,hic]
 (repeat' (first|contradiction|exact .ok|apply And.intro|intro _|(refine gc (fun h=>?_) (fun h=>?_)<;>(have h':=h;(try simp at h');first|done|simp[h,h',hti]|simp[hti]))))
 refine aloopT mix (by decide) (fun j:Nat=>{ s:=mkS [(4,.d (.sl (row.map V.c))),(6,.ptr 6 0 0),(13,.d (.int .i64 to)),(15,.d (.int .i64 c)),(16,.d (.int .i64 p)),(17,.d (.int .i64 j))],b:=mkB [(6,6,.var [.d (.sl (I.map tabD))])] })
  (fun j=>j≤rows.length∧(c<row.length→fidx (hitG p c row) (rows.drop j) j=fidx (hitG p c row) rows 0)) (fun j=>rows.length - j) 0 ⟨by simp,fun _=>rfl⟩
  (sub_mk _ [(6,6,_)] ⟨by simp,by simp,by simp [renOf,Blk.live],by simp⟩ (by simp [renOf])) ?_
 rintro j ⟨hj,hf2⟩
 by_cases hjl:j<rows.length
 ·have hji:(j:Int)<rows.length:=by omega
  by_cases hcl:c<row.length
  rotate_left
  ·rw [if_neg hcl]
   have hci:¬ (c:Int)<row.length:=by omega
   simp [htI,hgr,tabD,hjl,hji,hcl,hci]
   (repeat' (first|contradiction|exact .ok|apply And.intro|intro _|(refine gc (fun h=>?_) (fun h=>?_)<;>(have h':=h;(try simp at h');first|done|simp[h,h',hji,hci]|simp[hji,hci]))))
   simp [parA]
   all_goals exact gz
  have hci:(c:Int)<row.length:=by omega
  replace hf2:=hf2 hcl
  rw [if_pos hcl]
  rw [fidx_drop hjl] at hf2
  obtain ⟨r,hrr⟩:∃ u,u=rows[j]:=⟨_,rfl⟩
  have hgj:∀ h,rows[j]'h=r:=fun _=>hrr.symm
  rw [← hrr] at hf2
  have hw:=wrap_in (n:=(j:Int)+1) (by omega) (by omega)
  obtain ⟨v,hv⟩:∃ v,v=row[c]:=⟨_,rfl⟩
  have hgv:∀ h,row[c]'h=v:=fun _=>hv.symm
  have hH:hitG p c row r=(decide (p<r.length)&&(V.beq ((r[p]?).getD nulV) v&&!(v.k==0))):=by unfold hitG; rw [List.getElem?_eq_getElem hcl,← hv]; rfl
  rw [hH] at hf2
  have hno:(decide (p<r.length)&&(V.beq ((r[p]?).getD nulV) v&&!(v.k==0)))=false→fidx (hitG p c row) (rows.drop (j+1)) (j+1)=fidx (hitG p c row) rows 0:=fun e=>by
   rw [e] at hf2
   simpa using hf2
  by_cases hpl:p<r.length
  rotate_left
  ·have hpi:¬ (p:Int)<r.length:=by omega
   simp [htI,hgr,tabD,hjl,hji,hcl,hci,rowD,hgj,hpl,hpi]
   (repeat' (first|contradiction|exact .ok|apply And.intro|intro _|(refine gc (fun h=>?_) (fun h=>?_)<;>(have h':=h;(try simp at h');first|done|simp[h,h',hji,hci,hpi]|simp[hji,hci,hpi]))))
   refine ⟨j+1,⟨by omega,fun _=>hno (by simp [hpl])⟩,?_,by simp; omega⟩
   exact sub_mk _ [(6,6,_)] ⟨by simp,by simp,by simp [renOf,Blk.live],by simp⟩ (by simp [renOf,hw])
  have hpi:(p:Int)<r.length:=by omega
  obtain ⟨w,hw2⟩:∃ v,v=r[p]:=⟨_,rfl⟩
  have hgw:∀ h,r[p]'h=w:=fun _=>hw2.symm
  have hg2:(r[p]?).getD nulV=w:=by rw [List.getElem?_eq_getElem hpl,← hw2]; rfl
  rw [hg2] at hf2 hno
  by_cases hk0:v.k=0
  ·simp [htI,hgr,tabD,hjl,hji,hcl,hci,rowD,hgj,hpl,hpi,hgv,V.c,hk0]
   (repeat' (first|contradiction|exact .ok|apply And.intro|intro _|(refine gc (fun h=>?_) (fun h=>?_)<;>(have h':=h;(try simp at h');first|done|simp[h,h',hji,hci,hpi,hk0]|simp[hji,hci,hpi,hk0]))))
   refine ⟨j+1,⟨by omega,fun _=>hno (by simp [hk0])⟩,?_,by simp; omega⟩
   exact sub_mk _ [(6,6,_)] ⟨by simp,by simp,by simp [renOf,Blk.live],by simp⟩ (by simp [renOf,hw])
  have hs:=r_same w v
  rw [cmp_beq] at hs
  simp [htI,hgr,tabD,hjl,hji,hcl,hci,rowD,hgj,hpl,hpi,hgv,hgw,V.c,hk0]
  (repeat' (first|contradiction|exact .ok|apply And.intro|intro _|(refine gc (fun h=>?_) (fun h=>?_)<;>(have h':=h;(try simp at h');first|done|simp[h,h',hji,hci,hpi,hk0]|simp[hji,hci,hpi,hk0]))))
  refine acallT_plain hs (by simp [V.a,V.c]) ?_
  cases hb:V.beq w v with
  | false =>
    simp
    (repeat' (first|contradiction|exact .ok|apply And.intro|intro _|(refine gc (fun h=>?_) (fun h=>?_)<;>(have h':=h;(try simp at h');first|done|simp[h,h']|simp))))
    refine ⟨j+1,⟨by omega,fun _=>hno (by simp [hb])⟩,?_,by simp; omega⟩
    exact sub_mk _ [(6,6,_)] ⟨by simp,by simp,by simp [renOf,Blk.live],by simp⟩ (by simp [renOf,hw])
  | true =>
    have hfi:fidx (hitG p c row) rows 0=j:=by
     rw [hb] at hf2
     have hk1:(v.k==0)=false:=by simpa using hk0
     rw [hk1] at hf2
     simp [hpl] at hf2
     exact hf2.symm
    rw [hfi]
    simp [parA]
    all_goals exact gz
 ·obtain rfl:j=rows.length:=by omega
  have hz:(if c<row.length then fidx (hitG p c row) rows 0 else -1)=-1:=by
   split
   ·rename_i hcl
    rw [← hf2 hcl,List.drop_length,fidx]
   ·rfl
  rw [hz]
  simp [htI,hgr,tabD]
  (repeat' (first|contradiction|exact .ok|apply And.intro|intro _|(refine gc (fun h=>?_) (fun h=>?_)<;>(have h':=h;(try simp at h');first|done|simp[h,h']|simp))))
  simp [parA]
  all_goals exact gz
end Go.Proofs.Tryz
namespace Go.Proofs.Tryz
open Go.Ab
set_option maxRecDepth 100000
set_option maxHeartbeats 8000000
structure Rg where
 t:List Int
 p:List Int
 s:List V
def Rg.c (x:Rg):List D:=[.sl (ints x.t),.sl (ints x.p),.sl (x.s.map V.c)]
def Rg.a (x:Rg):AV:=.agg (x.c.map AV.d)
def rgD (l:List Rg):List D:=[.sl (l.map Rg.c)]
def atD (l:List At):List D:=[.sl (l.map At.c)]
structure OfOk (I:List (List (List V))) (R:List (List Rg)) (A:List (List At)):Prop where
 il:I.length≤1000
 rl:R.length≤1000
 al:A.length≤1000
 ir:∀ t∈I,t.length≤1000∧∀ r∈t,r.length≤9223372036854775807
 rr:∀ l∈R,l.length≤1000∧∀ x∈l,x.t.length≤1000∧x.p.length≤1000
 ar:∀ l∈A,l.length≤1000∧∀ a∈l,a.v.t.length≤200
def refZ (S:List Tb) (I:List (List (List V))) (row:List V) (g:Fk):Int :=
 if tgN S g<I.length then refG (hdI (tabO S (tgN S g)).pr).toNat (hdI g.cols).toNat ((I[tgN S g]?).getD []) row else -1
def parG (S:List Tb) (I:List (List (List V))) (F:Nat→Nat→Option Nat) (row:List V):List Int→List Fk→Option (List Int)
 | acc,[]=>some acc
 | acc,g::r=>if refZ S I row g<0 then none else match F (tgN S g) (refZ S I row g).toNat with
   | none=>none
   | some q=>parG S I F row (acc++[(q:Int)]) r
def rgH (T P:List Int) (r:Rg):Bool:=r.t==T&&r.p==P
def ofG (S:List Tb) (I:List (List (List V))) (R:List (List Rg)) (A:List (List At)):Nat→Nat→Nat→Option Nat
 | 0,_,_=>none
 | m+1,k,n=>if k<S.length∧k<I.length∧k<R.length∧k<A.length∧n<((I[k]?).getD []).length then
    match parG S I (ofG S I R A m) ((((I[k]?).getD [])[n]?).getD []) [] (tabO S k).fk with
    | none=>none
    | some P=>if 0≤fidx (rgH (trG ((((I[k]?).getD [])[n]?).getD []) ((A[k]?).getD [])) P) ((R[k]?).getD []) 0 then some (fidx (rgH (trG ((((I[k]?).getD [])[n]?).getD []) ((A[k]?).getD [])) P) ((R[k]?).getD []) 0).toNat else none
   else none
def pairO (o:Option Nat):AV:=.tup [.d (.int .i64 (o.getD 0:Nat)),.d (.bool o.isSome)]
theorem o_rg1 (x:Rg) (hx:x.t.length≤1000∧x.p.length≤1000) (T P:List Int) :
  Cf En 87 [x.a,.ptr 1000000 0 0,.ptr 1000001 0 0] [.var [.d (.sl (ints T))],.var [.d (.sl (ints P))]] (.d (.bool (rgH T P x))) [.var [.d (.sl (ints T))],.var [.d (.sl (ints P))]]:=by
 refine cf_intro mix (fn:=Tryz.f87) (by kernel_rfl) rfl (by kernel_rfl) (by decide) (by simp) ?_
 have h1:=p_equal x.t T hx.1
 have h2:=p_equal x.p P hx.2
 unfold rgH
 generalize (x.t==T)=B1 at *
 generalize (x.p==P)=B2 at *
 simp [Rg.a,Rg.c]
 (repeat' (first|contradiction|exact .ok|apply And.intro|intro _|(refine gc (fun h=>?_) (fun h=>?_)<;>(have h':=h;(try simp at h');first|done|simp[h,h']|simp))))
 refine acallT_plain h1 (by simp) ?_
 cases B1 with
 | false =>
   simp
   (repeat' (first|contradiction|exact .ok|apply And.intro|intro _|(refine gc (fun h=>?_) (fun h=>?_)<;>(have h':=h;(try simp at h');first|done|simp[h,h']|simp))))
   all_goals first | (rw [kept_b2]; refine ⟨?_,?_⟩ <;> simp; done) | (simp; done) | skip
 | true =>
   simp
   (repeat' (first|contradiction|exact .ok|apply And.intro|intro _|(refine gc (fun h=>?_) (fun h=>?_)<;>(have h':=h;(try simp at h');first|done|simp[h,h']|simp))))
   refine acallT_plain h2 (by simp) ?_
   simp
   (repeat' (first|contradiction|exact .ok|apply And.intro|intro _|(refine gc (fun h=>?_) (fun h=>?_)<;>(have h':=h;(try simp at h');first|done|simp[h,h']|simp))))
   all_goals first | (rw [kept_b2]; refine ⟨?_,?_⟩ <;> simp; done) | (simp; done) | skip
theorem o_rgI (l:List Rg) (hl:l.length≤1000) (hx:∀ x∈l,x.t.length≤1000∧x.p.length≤1000) (T P:List Int) :
  Cf En 86 [.d (.sl (l.map Rg.c)),.clo 87 [.ptr 1000000 0 0,.ptr 1000001 0 0]] [.var [.d (.sl (ints T))],.var [.d (.sl (ints P))]] (.d (.int .i64 (fidx (rgH T P) l 0))) [.var [.d (.sl (ints T))],.var [.d (.sl (ints P))]]:=by
 refine cf_intro mix (fn:=Tryz.f86) (by kernel_rfl) rfl (by kernel_rfl) (by decide) (by simp) ?_
 simp
 (repeat' (first|contradiction|exact .ok|apply And.intro|intro _|(refine gc (fun h=>?_) (fun h=>?_)<;>(have h':=h;(try simp at h');first|done|simp[h,h']|simp))))
 refine aloopT mix (by decide) (fun i:Nat=>{ s:=mkS [(0,.d (.sl (l.map Rg.c))),(1,.clo 87 [.ptr 1000000 0 0,.ptr 1000001 0 0]),(7,.d (.int .i64 l.length)),(8,.d (.int .i64 i))],b:=mkB [(1000000,1000000,.var [.d (.sl (ints T))]),(1000001,1000001,.var [.d (.sl (ints P))])] }) (fun i=>i≤l.length∧fidx (rgH T P) (l.drop i) i=fidx (rgH T P) l 0) (fun i=>l.length - i) 0 (by simp)
  (sub_mk _ [(1000000,1000000,_),(1000001,1000001,_)] ⟨by simp,by simp,by refine forall2 ?_ ?_ <;> simp [renOf,Blk.live],base2⟩ (by simp [renOf])) ?_
 rintro i ⟨hi,hf⟩
 by_cases hlt:i<l.length
 ·rw [fidx_drop hlt] at hf
  obtain ⟨x,hxx⟩:∃ u,u=l[i]:=⟨_,rfl⟩
  have hgi:∀ h,l[i]'h=x:=fun _=>hxx.symm
  have hh:=o_rg1 x (hx x (by rw [hxx]; exact List.getElem_mem hlt)) T P
  rw [← hxx] at hf
  generalize rgH T P x=B at *
  have hw:=wrap_in (n:=(i:Int)+1) (by omega) (by omega)
  simp [hlt,hgi,Rg.c]
  (repeat' (first|contradiction|exact .ok|apply And.intro|intro _|(refine gc (fun h=>?_) (fun h=>?_)<;>(have h':=h;(try simp at h');first|done|simp[h,h']|simp))))
  refine acallT_hand [1000000,1000001] hh (by simp) (by simp) (by simp) (by simp) (by simp [Rg.a,Rg.c]) ?_
  cases B with
  | false =>
    simp
    (repeat' (first|contradiction|exact .ok|apply And.intro|intro _|(refine gc (fun h=>?_) (fun h=>?_)<;>(have h':=h;(try simp at h');first|done|simp[h,h']|simp))))
    refine ⟨i+1,⟨by omega,by simpa using hf⟩,?_,by simp; omega⟩
    exact sub_mk _ [(1000000,1000000,_),(1000001,1000001,_)] ⟨by simp,by simp,by refine forall2 ?_ ?_ <;> simp [renOf,Blk.live],base2⟩ (by simp [renOf,hw])
  | true =>
    simp only [if_true] at hf
    simp [← hf]
    (repeat' (first|contradiction|exact .ok|apply And.intro|intro _|(refine gc (fun h=>?_) (fun h=>?_)<;>(have h':=h;(try simp at h');first|done|simp[h,h']|simp))))
    all_goals first | (rw [kept_b2]; refine ⟨?_,?_⟩ <;> simp; done) | (simp; done) | skip
 obtain rfl:i=l.length:=by omega
 rw [List.drop_length,fidx] at hf
 simp [← hf]
 (repeat' (first|contradiction|exact .ok|apply And.intro|intro _|(refine gc (fun h=>?_) (fun h=>?_)<;>(have h':=h;(try simp at h');first|done|simp[h,h']|simp))))
 all_goals first | (rw [kept_b2]; refine ⟨?_,?_⟩ <;> simp; done) | (simp; done) | skip
theorem s_target (S:List Tb) (hl:S.length≤1000) (hS:∀ x∈S,x.ok) {i k:Nat} {u:Tb} {f:Fk} (hi:i<S.length) (hu:S[i]=u) (hk:k<u.fk.length) (hf:u.fk[k]=f) :
  Cf En 84 [schA S,.d (.int .i64 i),.d (.int .i64 k)] [] (place (fun x:Tb=>x.n==f.t) S) []:=by
 refine cf_intro mix (fn:=Tryz.f84) (by kernel_rfl) rfl (by kernel_rfl) (by decide) (by simp) ?_
 have h1:¬ (i:Int)<0:=by omega
 have h2:¬ (k:Int)<0:=by omega
 have h3:¬ (S.length:Int)≤i:=by omega
 have h4:¬ (u.fk.length:Int)≤k:=by omega
 have hgi:∀ h,S[i]'h=u:=fun _=>hu
 have hgf:∀ h,u.fk[k]'h=f:=fun _=>hf
 have hgf2:u.fk[k]?=some f:=by rw [List.getElem?_eq_getElem hk,hf]
 simp [schA,h1,h2,h3,h4,hi,hgi,Tb.c]
 (repeat' (first|contradiction|exact .ok|apply And.intro|intro _|(refine gc (fun h=>?_) (fun h=>?_)<;>(have h':=h;(try simp at h');first|done|simp[h,h',h1,h2,h3,h4,hi,hgi,Tb.c,hk,hgf,hgf2,Fk.c]|simp[h1,h2,h3,h4,hi,hgi,Tb.c,hk,hgf,hgf2,Fk.c]))))
 simp [hgf2,Fk.c]
 (repeat' (first|contradiction|exact .ok|apply And.intro|intro _|(refine gc (fun h=>?_) (fun h=>?_)<;>(have h':=h;(try simp at h');first|done|simp[h,h']|simp))))
 refine acallT_plain (s_find S hl f.t) (by simp [schA]) ?_
 unfold place
 simp
 all_goals exact gz
end Go.Proofs.Tryz
namespace Go.Proofs.Tryz
open Go.Ab
set_option maxRecDepth 100000
set_option maxHeartbeats 4000000
def Rg.add (r:Rg) (j:Nat):Rg:=⟨r.t,r.p++[(j:Int)],r.s⟩
def mulP (n:Nat) (O:List Rg):List Rg:=O.flatMap fun r=>upL r.add n
def crossG:List Rg→List (List Rg)→List Rg
 | O,[]=>O
 | O,p::P=>crossG (mulP p.length O) P
def limG:Nat→List (List Rg)→Bool
 | _,[]=>true
 | n,p::P=>if 0<n∧2000 / n<p.length then false else limG (n*p.length) P
theorem mulP_len (n:Nat):∀ O:List Rg,(mulP n O).length=O.length*n
 | []=>by simp [mulP]
 | r::O=>by
   have h:=mulP_len n O
   unfold mulP at h ⊢
   rw [List.flatMap_cons,List.length_append,h,upL_len,List.length_cons,Nat.add_mul,Nat.one_mul,Nat.add_comm]
theorem mulP_take {n:Nat} {O:List Rg} {k:Nat} (h:k<O.length):mulP n (O.take (k+1))=mulP n (O.take k)++upL O[k].add n:=by
 unfold mulP
 rw [take_snoc h,List.flatMap_append]
 simp
theorem limG_step {n:Nat} {p:List Rg} {P:List (List Rg)} (h:limG n (p::P)=true):limG (n*p.length) P=true∧(n≤2000→n*p.length≤2000):=by
 rw [limG] at h
 split at h
 ·cases h
 ·rename_i hc
  refine ⟨h,fun _=>?_⟩
  rcases Nat.eq_zero_or_pos n with rfl | hn
  ·simp
  ·have:p.length≤2000 / n:=by omega
   exact (Nat.le_div_iff_mul_le hn).1 this |> fun h=>by rwa [Nat.mul_comm] at h
@[simp] theorem Rg.clen (x:Rg):x.c.length=3:=rfl
@[simp] theorem all_rgc (l:List Rg):((l.map Rg.c).all fun x=>x.length==3)=true:=by simp [Rg.clen]
theorem r13_crossed (O:List Rg) (hO:O.length≤2000) (hp:∀ r∈O,r.p.length≤1000) (P:List (List Rg)) (hP:P.length≤1000) (hL:limG O.length P=true) :
  Cf En 62 [.d (.sl (O.map Rg.c)),.d (.sl (P.map rgD))] [] (.d (.sl ((crossG O P).map Rg.c))) []:=by
 refine cf_intro mix (fn:=Tryz.f62) (by kernel_rfl) rfl (by kernel_rfl) (by decide) (by simp) ?_
 obtain ⟨T,hT⟩:∃ T,T=crossG O P:=⟨_,rfl⟩
 rw [← hT]
 simp
 (repeat' (first|contradiction|exact .ok|apply And.intro|intro _|(refine gc (fun h=>?_) (fun h=>?_)<;>(have h':=h;(try simp at h');first|done|simp[h,h']|simp))))
 refine aloopT mix (by decide) (fun y:Nat×List Rg=>{ s:=mkS [(1,.d (.sl (P.map rgD))),(5,.d (.sl (y.2.map Rg.c))),(6,.d (.int .i64 y.1))],b:=mkB [] })
  (fun y=>y.1≤P.length∧crossG y.2 (P.drop y.1)=T∧y.2.length≤2000∧limG y.2.length (P.drop y.1)=true∧∀ r∈y.2,r.p.length≤1000+y.1) (fun y=>P.length - y.1) (0,O) ⟨by simp,by simp [hT],hO,by simpa using hL,fun r hr=>by have:=hp r hr; simp only; omega⟩ (sub_mk _ [] .nil (by simp)) ?_
 clear hT hO hp hL
 rintro ⟨i,O⟩ ⟨hi,hT,hO,hL,hp⟩
 simp only at hi hT hO hL hp
 by_cases hlt:i<P.length
 ·obtain ⟨p,hpe⟩:∃ p,p=P[i]:=⟨_,rfl⟩
  have hgp:∀ h,P[i]'h=p:=fun _=>hpe.symm
  have hgp2:P[i]?=some p:=by rw [List.getElem?_eq_getElem hlt,← hpe]
  rw [List.drop_eq_getElem_cons hlt,← hpe] at hL hT
  rw [crossG] at hT
  obtain ⟨hL1,hL2⟩:=limG_step hL
  have hL3:=hL2 hO
  have hw:=wrap_in (n:=(i:Int)+1) (by omega) (by omega)
  have hml:=mulP_len p.length O
  simp [hlt]
  (repeat' (first|contradiction|exact .ok|apply And.intro|intro _|(refine gc (fun h=>?_) (fun h=>?_)<;>(have h':=h;(try simp at h');first|done|simp[h,h']|simp))))
  refine aloopT mix (by decide) (fun k:Nat=>{ s:=mkS [(1,.d (.sl (P.map rgD))),(5,.d (.sl (O.map Rg.c))),(6,.d (.int .i64 i)),(7,.ref 900 0 (k*p.length) 3),(8,.d (.int .i64 k))],b:=mkB [(900,900,.arr 73 3 ((mulP p.length (O.take k)).map Rg.c) false)] }) (fun k=>k≤O.length) (fun k=>O.length - k) 0 (by simp)
   (sub_mkn 7 900 73 3 (by simp) (by simp) (by decide) (by decide) _ [(900,900,_)] ⟨by simp,by simp,by simp [renOf,Blk.live,mulP],by simp⟩ (by simp [renOf])) ?_
  intro k hk
  by_cases hkl:k<O.length
  ·obtain ⟨r,hr⟩:∃ r,r=O[k]:=⟨_,rfl⟩
   have hgr:∀ h,O[k]'h=r:=fun _=>hr.symm
   have hrp:=hp r (by rw [hr]; exact List.getElem_mem hkl)
   have hmt:=mulP_take (n:=p.length) hkl
   have hmk:=mulP_len p.length (O.take k)
   rw [List.length_take,Nat.min_eq_left (by omega)] at hmk
   have hkm:(k+1)*p.length≤O.length*p.length:=Nat.mul_le_mul_right _ hkl
   rw [Nat.add_mul,Nat.one_mul] at hkm
   rw [← hr] at hmt
   have hwk:=wrap_in (n:=(k:Int)+1) (by omega) (by omega)
   have hkp:(k+1)*p.length=k*p.length+p.length:=by rw [Nat.add_mul,Nat.one_mul]
   obtain ⟨K,hK⟩:∃ K,K=k*p.length:=⟨_,rfl⟩
   rw [← hK] at hmk hkm hkp ⊢
   generalize hM:mulP p.length (O.take k)=M at *
   simp [hkl]
   (repeat' (first|contradiction|exact .ok|apply And.intro|intro _|(refine gc (fun h=>?_) (fun h=>?_)<;>(have h':=h;(try simp at h');first|done|simp[h,h']|simp))))
   refine aloopT mix (by decide) (fun j:Nat=>{ s:=mkS [(1,.d (.sl (P.map rgD))),(5,.d (.sl (O.map Rg.c))),(6,.d (.int .i64 i)),(7,.ref 900 0 (K+j) 3),(8,.d (.int .i64 k)),(9,.d (.int .i64 j))],b:=mkB [(900,900,.arr 73 3 ((M++upL r.add j).map Rg.c) false)] }) (fun j=>j≤p.length) (fun j=>p.length - j) 0 (by simp)
    (sub_mk _ [(900,900,_)] ⟨by simp,by simp,by simp [renOf,Blk.live,upL],by simp⟩ (by simp [renOf])) ?_
   intro j hj
   by_cases hjl:j<p.length
   ·have hwj:=wrap_in (n:=(j:Int)+1) (by omega) (by omega)
    have hul:=upL_len r.add j
    have hus:upL r.add (j+1)=upL r.add j++[r.add j]:=rfl
    generalize upL r.add j=U at *
    have htk:((M++U).map Rg.c).take (K+j)=(M++U).map Rg.c:=List.take_of_length_le (by simp; omega)
    have htk2:(M.map Rg.c++U.map Rg.c).take (K+j)=M.map Rg.c++U.map Rg.c:=List.take_of_length_le (by simp; omega)
    have hpi:(∀ x,x∈ints r.p→x.length=1)=True:=eq_true fun x hx=>ints_one r.p x hx
    have htp:List.take (r.p.length+1) (ints r.p++[[.int .i64 (j:Int)]])=ints r.p++[[.int .i64 (j:Int)]]:=List.take_of_length_le (by simp)
    simp [hlt,hgp,rgD,hjl,hkl,hgr,Rg.c,hpi,htk2,hmk,hul,htp,szs r.p.length (by omega) 8 (by decide),szs (r.p.length+1) (by omega) 8 (by decide),szs (K+j) (by omega) 72 (by decide),szs (K+j+1) (by omega) 72 (by decide)]
    (repeat' (first|contradiction|exact .ok|apply And.intro|intro _|(refine gc (fun h=>?_) (fun h=>?_)<;>(have h':=h;(try simp at h');first|done|simp[h,h']|simp))))
    refine ⟨j+1,by omega,?_,by simp; omega⟩
    refine sub_mk _ [(900,53,_)] ⟨by simp,by simp,by simp [renOf,Blk.live,hus,Rg.c,Rg.add,ints],by simp⟩ (by simp [renOf,hwj]; omega)
   obtain rfl:j=p.length:=by omega
   simp [hlt,hgp,hgp2,rgD]
   (repeat' (first|contradiction|exact .ok|apply And.intro|intro _|(refine gc (fun h=>?_) (fun h=>?_)<;>(have h':=h;(try simp at h');first|done|simp[h,h']|simp))))
   refine ⟨k+1,by omega,?_,by simp; omega⟩
   refine sub_mk _ [(900,900,_)] ⟨by simp,by simp,by simp [renOf,Blk.live,hmt],by simp⟩ (by simp [renOf,hwk,hkp])
  obtain rfl:k=O.length:=by omega
  rw [List.take_length]
  simp
  (repeat' (first|contradiction|exact .ok|apply And.intro|intro _|(refine gc (fun h=>?_) (fun h=>?_)<;>(have h':=h;(try simp at h');first|done|simp[h,h']|simp))))
  refine ⟨(i+1,mulP p.length O),⟨by simp only; omega,hT,by simp only; omega,by simp only; rw [hml]; exact hL1,?_⟩,?_,by simp; omega⟩
  ·intro r hr
   simp only at hr ⊢
   unfold mulP at hr
   obtain ⟨q,hq,hr⟩:=List.mem_flatMap.1 hr
   obtain ⟨j,_,rfl⟩:=upL_mem hr
   have:=hp q hq
   simp only [Rg.add,List.length_append,List.length_singleton]
   omega
  ·refine sub_mk _ [] .nil (by simp [hw,renOf,hml]; try exact List.take_of_length_le (by simp [hml]))
 obtain rfl:i=P.length:=by omega
 rw [List.drop_length,crossG] at hT
 subst hT
 simp
 all_goals exact gz
end Go.Proofs.Tryz
