import Derived.Test.YtklnfckiabhceaaGreatDoorKOrd0
import Derived.Test.YtklnfckiabhceaaGreatDoorKEnvR
import Derived.Test.YtklnfckiabhceaaGreatDoorRev
set_option linter.all false
namespace Go.Proofs.Tryz
open Go.Ab
set_option maxRecDepth 100000
set_option maxHeartbeats 1000000
@[simp] theorem At.clen (x:At):x.c.length=5:=rfl
def At.cmp (a b:At):Int:=if a.col<b.col then -1 else if b.col<a.col then 1 else if a.op<b.op then -1 else if b.op<a.op then 1 else a.v.cmp b.v
theorem r13_expr (x:At):Cf En 26 [x.a] [] x.ex.a []:=by
 refine cf_intro mix (fn:=Tryz.f26) (by kernel_rfl) rfl (by kernel_rfl) (by decide) (by simp) ?_
 by_cases h5:x.op=5
 ·simp [At.a,At.c,h5,At.ex,colX,Ex.a,Ex.c,kidsC]
  (repeat' (first|contradiction|exact .ok|apply And.intro|intro _|(refine gc (fun h=>?_) (fun h=>?_)<;>(have h':=h;(try simp at h');first|done|simp[h,h',h5]|simp[h5]))))
 by_cases h21:x.op=21
 ·simp [At.a,At.c,h21,At.ex,colX,Ex.a,Ex.c,kidsC]
  (repeat' (first|contradiction|exact .ok|apply And.intro|intro _|(refine gc (fun h=>?_) (fun h=>?_)<;>(have h':=h;(try simp at h');first|done|simp[h,h',h21]|simp[h21]))))
 simp [At.a,At.c,h5,h21]
 (repeat' (first|contradiction|exact .ok|apply And.intro|intro _|(refine gc (fun h=>?_) (fun h=>?_)<;>(have h':=h;(try simp at h');first|done|simp[h,h',h5,h21]|simp[h5,h21]))))
 refine acallT_plain (r_const x.v 0) (by simp [V.a]) ?_
 simp [At.ex,colX,Ex.a,Ex.c,kidsC,h5,h21,Ex.clen,Ex.ctake']
 (repeat' (first|contradiction|exact .ok|apply And.intro|intro _|(refine gc (fun h=>?_) (fun h=>?_)<;>(have h':=h;(try simp at h');first|done|simp[h,h',h5,h21]|simp[h5,h21]))))
 all_goals exact List.take_of_length_le (by simp [Ex.clen])
theorem p13_expr (x:At):Cf En 93 [x.a] [] x.ex.a []:=by
 refine cf_intro mix (fn:=Tryz.f93) (by kernel_rfl) rfl (by kernel_rfl) (by decide) (by simp) ?_
 by_cases h5:x.op=5
 ·simp [At.a,At.c,h5,At.ex,colX,Ex.a,Ex.c,kidsC]
  (repeat' (first|contradiction|exact .ok|apply And.intro|intro _|(refine gc (fun h=>?_) (fun h=>?_)<;>(have h':=h;(try simp at h');first|done|simp[h,h',h5]|simp[h5]))))
 by_cases h21:x.op=21
 ·simp [At.a,At.c,h21,At.ex,colX,Ex.a,Ex.c,kidsC]
  (repeat' (first|contradiction|exact .ok|apply And.intro|intro _|(refine gc (fun h=>?_) (fun h=>?_)<;>(have h':=h;(try simp at h');first|done|simp[h,h',h21]|simp[h21]))))
 simp [At.a,At.c,h5,h21]
 (repeat' (first|contradiction|exact .ok|apply And.intro|intro _|(refine gc (fun h=>?_) (fun h=>?_)<;>(have h':=h;(try simp at h');first|done|simp[h,h',h5,h21]|simp[h5,h21]))))
 refine acallT_plain (e_const x.v 0) (by simp [V.a]) ?_
 simp [At.ex,colX,Ex.a,Ex.c,kidsC,h5,h21,Ex.clen,Ex.ctake']
 (repeat' (first|contradiction|exact .ok|apply And.intro|intro _|(refine gc (fun h=>?_) (fun h=>?_)<;>(have h':=h;(try simp at h');first|done|simp[h,h',h5,h21]|simp[h5,h21]))))
 all_goals exact List.take_of_length_le (by simp [Ex.clen])
theorem r13_cmp (x y:At):Cf En 83 [x.a,y.a] [] (.d (.int .i64 (x.cmp y))) []:=by
 refine cf_intro mix (fn:=Tryz.f83) (by kernel_rfl) rfl (by kernel_rfl) (by decide) (by simp) ?_
 simp [At.a,At.c]
 (repeat' (first|contradiction|exact .ok|apply And.intro|intro _|(refine gc (fun h=>?_) (fun h=>?_)<;>(have h':=h;(try simp at h');first|done|simp[h,h']|simp))))
 all_goals first | (unfold At.cmp; grind) | skip
 refine acallT_plain (r_compare x.v y.v) (by simp [V.a]) ?_
 simp
 (repeat' (first|contradiction|exact .ok|apply And.intro|intro _|(refine gc (fun h=>?_) (fun h=>?_)<;>(have h':=h;(try simp at h');first|done|simp[h,h']|simp))))
 all_goals (unfold At.cmp; grind)
theorem few_ex {x:At} (h:x.v.t.length≤200) (q:Nat) (hq:q≤50):x.ex.few q=true:=by
 have e:∀ c,(colX c).few (q+1)=true:=fun c=>by
  rw [colX,Ex.few,fewAll,if_neg (by omega),if_neg (by simp),if_neg (by simp)]
 have e0:∀ c,(colX c).few q=true:=fun c=>by
  rw [colX,Ex.few,fewAll,if_neg (by omega),if_neg (by simp),if_neg (by simp)]
 have k:(constOf x.v 0).few (q+1)=true:=by
  unfold constOf
  repeat' split
  all_goals (rw [Ex.few,fewAll,if_neg (by omega),if_neg (by simp),if_neg (by simp <;> omega)])
 unfold At.ex
 repeat' split
 ·exact e0 _
 ·rw [Ex.few,if_neg (by omega),if_neg (by simp),if_neg (by simp)]
  simp [fewAll,e]
 ·rw [Ex.few,if_neg (by omega),if_neg (by simp),if_neg (by simp)]
  simp [fewAll,e,k]
theorem r13_truth (x:At) (hx:x.v.t.length≤200) (v:V):Cf En 104 [x.a,v.a] [] (.d (.int .i64 (x.tr v))) []:=by
 have he:=reval_cf [v] (by simp) (SizeOf.sizeOf x.zero.ex+1) x.zero.ex (by omega) 0 (few_ex (x:=x.zero) hx 0 (by omega))
 refine cf_intro mix (fn:=Tryz.f104) (by kernel_rfl) rfl (by kernel_rfl) (by decide) (by simp) ?_
 simp [At.a,At.c,V.a]
 (repeat' (first|contradiction|exact .ok|apply And.intro|intro _|(refine gc (fun h=>?_) (fun h=>?_)<;>(have h':=h;(try simp at h');first|done|simp[h,h']|simp))))
 refine acallT_plain (r13_expr x.zero) (by simp [At.a,At.c,At.zero]) ?_
 simp [Ex.a,Ex.ctake,Ex.clen,Ex.ctake']
 (repeat' (first|contradiction|exact .ok|apply And.intro|intro _|(refine gc (fun h=>?_) (fun h=>?_)<;>(have h':=h;(try simp at h');first|done|simp[h,h']|simp))))
 refine acallT_plain he (by simp [Ex.a,V.c,Ex.ctake']) ?_
 simp [V.a]
 refine acallT_plain (r_truth (evalV x.zero.ex [v])) (by simp [V.a]) ?_
 simp [At.tr]
 all_goals exact gz
end Go.Proofs.Tryz
namespace Go.Proofs.Tryz
open Go.Ab
set_option maxRecDepth 100000
set_option maxHeartbeats 1000000
def posA (a:At):List At→Nat
 | []=>0
 | x::xs=>if x.cmp a<0 then posA a xs+1 else 0
def hitA (a:At) (l:List At):Bool:=match l[posA a l]? with
 | some x=>x.cmp a==0
 | none=>false
def insA (l:List At) (a:At):List At:=if hitA a l=true then l else l.take (posA a l)++a::l.drop (posA a l)
theorem posA_le (a:At):∀ l:List At,posA a l≤l.length
 | []=>by simp [posA]
 | u::us=>by have:=posA_le a us; simp only [posA,List.length_cons]; split <;> omega
theorem posA_drop {a:At} {l:List At} {i:Nat} (h:i<l.length):posA a (l.drop i)=if l[i].cmp a<0 then posA a (l.drop (i+1))+1 else 0:=by
 rw [List.drop_eq_getElem_cons h,posA]
theorem insA_mem {l:List At} {a x:At} (h:x∈insA l a):x=a∨x∈l:=by
 unfold insA at h
 split at h
 ·exact .inr h
 ·rcases List.mem_append.1 h with h | h
  ·exact .inr (List.mem_of_mem_take h)
  ·rcases List.mem_cons.1 h with h | h
   ·exact .inl h
   ·exact .inr (List.mem_of_mem_drop h)
theorem insA_len (l:List At) (a:At):(insA l a).length≤l.length+1:=by
 have:=posA_le a l
 unfold insA
 split
 ·omega
 ·simp; omega
@[simp] theorem all_atc (l:List At):((l.map At.c).all fun x=>x.length==5)=true:=by simp [At.clen]
@[simp] theorem at_take (l:List At) (n:Nat):(∀ x,x∈List.take n (l.map At.c)→x.length=5)=True:=eq_true fun x hx=>by
  obtain ⟨a,_,rfl⟩:=List.mem_map.1 (List.mem_of_mem_take hx)
  rfl
@[simp] theorem at_drop (l:List At) (n:Nat):(∀ x,x∈List.drop n (l.map At.c)→x.length=5)=True:=eq_true fun x hx=>by
  obtain ⟨a,_,rfl⟩:=List.mem_map.1 (List.mem_of_mem_drop hx)
  rfl
@[simp] theorem at_all (l:List At):(∀ x,x∈l.map At.c→x.length=5)=True:=eq_true fun x hx=>by
  obtain ⟨a,_,rfl⟩:=List.mem_map.1 hx
  rfl
theorem r13_insert (l:List At) (hl:l.length≤1000) (a:At):Cf En 36 [.d (.sl (l.map At.c)),a.a] [] (.d (.sl ((insA l a).map At.c))) []:=by
 refine cf_intro mix (fn:=Tryz.f36) (by kernel_rfl) rfl (by kernel_rfl) (by decide) (by simp) ?_
 simp [At.a]
 (repeat' (first|contradiction|exact .ok|apply And.intro|intro _|(refine gc (fun h=>?_) (fun h=>?_)<;>(have h':=h;(try simp at h');first|done|simp[h,h']|simp))))
 refine aloopT mix (by decide) (fun i:Nat=>{ s:=mkS [(0,.d (.sl (l.map At.c))),(3,.ptr 3 0 0),(5,.d (.int .i64 i))],b:=mkB [(3,3,.var (a.c.map AV.d))] }) (fun i=>i≤l.length∧posA a (l.drop i)+i=posA a l) (fun i=>l.length - i) 0 (by simp) (sub_mk _ [(3,3,_)] ⟨by simp,by simp,by simp [renOf,Blk.live],by simp⟩ (by simp [renOf])) ?_
 rintro i ⟨hi,hp⟩
 by_cases hlt:i<l.length
 ·have hd:=posA_drop (a:=a) hlt
  rw [hd] at hp
  have hw:=wrap_in (n:=(i:Int)+1) (by omega) (by omega)
  simp [hlt,At.c]
  (repeat' (first|contradiction|exact .ok|apply And.intro|intro _|(refine gc (fun h=>?_) (fun h=>?_)<;>(have h':=h;(try simp at h');first|done|simp[h,h']|simp))))
  refine acallT_plain (r13_cmp l[i] a) (by simp [At.a,At.c]) ?_
  by_cases hc:l[i].cmp a<0
  ·rw [if_pos hc] at hp
   simp [hc]
   (repeat' (first|contradiction|exact .ok|apply And.intro|intro _|(refine gc (fun h=>?_) (fun h=>?_)<;>(have h':=h;(try simp at h');first|done|simp[h,h']|simp))))
   refine ⟨i+1,⟨by omega,by omega⟩,?_,by simp; omega⟩
   refine sub_mk _ [(3,3,_)] ⟨by simp,by simp,by simp [renOf,Blk.live,At.c],by simp⟩ (by simp [renOf,hw])
  ·rw [if_neg hc] at hp
   have hpi:posA a l=i:=by omega
   simp [hc,hlt]
   (repeat' (first|contradiction|exact .ok|apply And.intro|intro _|(refine gc (fun h=>?_) (fun h=>?_)<;>(have h':=h;(try simp at h');first|done|simp[h,h']|simp))))
   refine acallT_plain (r13_cmp l[i] a) (by simp [At.a,At.c]) ?_
   by_cases h0:l[i].cmp a=0
   ·have hh:hitA a l=true:=by unfold hitA; rw [hpi,List.getElem?_eq_getElem hlt]; simp [h0]
    simp [h0,insA,hh]
    all_goals exact gz
   ·have hh:hitA a l=false:=by unfold hitA; rw [hpi,List.getElem?_eq_getElem hlt]; simp [h0]
    have e1:insA l a=l.take i++a::l.drop i:=by simp [insA,hh,hpi]
    have hm:min i l.length=i:=by omega
    simp [h0,e1,hm,hi,At.c,szs i (by omega) 48 (by decide),szs (i+1) (by omega) 48 (by decide),szs (i+1+(l.length - i)) (by omega) 48 (by decide)]
    (repeat' (first|contradiction|exact .ok|apply And.intro|intro _|(refine gc (fun h=>?_) (fun h=>?_)<;>(have h':=h;(try simp at h');first|done|simp[h,h']|simp))))
    all_goals (rw [if_pos (by omega),List.take_of_length_le (by simp; omega)])
 ·have hie:i=l.length:=by omega
  subst hie
  rw [List.drop_length,posA] at hp
  have hh:hitA a l=false:=by unfold hitA; rw [← hp]; simp
  have e1:insA l a=l++[a]:=by simp [insA,hh,← hp]
  simp [e1,At.c,szs l.length (by omega) 48 (by decide),szs (l.length+1) (by omega) 48 (by decide)]
  (repeat' (first|contradiction|exact .ok|apply And.intro|intro _|(refine gc (fun h=>?_) (fun h=>?_)<;>(have h':=h;(try simp at h');first|done|simp[h,h']|simp))))
  all_goals exact List.take_of_length_le (by simp <;> omega)
end Go.Proofs.Tryz
namespace Go.Proofs.Tryz
open Go.Ab
set_option maxRecDepth 100000
set_option maxHeartbeats 1000000
theorem aboutG_take {c:Int} {l:List At} {i:Nat} (h:i<l.length):aboutG c (l.take (i+1))=if l[i].col=c then aboutG c (l.take i)++[l[i]] else aboutG c (l.take i):=by
 unfold aboutG
 rw [take_snoc h,List.filter_append]
 by_cases e:l[i].col=c <;> simp [e]
theorem constsG_snoc (l:List At) (a:At):constsG (l++[a])=if a.v.k=0 then constsG l else insD (constsG l) a.v:=by
 unfold constsG sortD
 rw [List.filter_append,List.map_append,List.foldl_append]
 by_cases e:a.v.k=0 <;> simp [e]
theorem insD_len (l:List V) (v:V):(insD l v).length≤l.length+1:=by
 have:=posD_le v l
 unfold insD
 split
 ·omega
 ·simp; omega
theorem constsG_len (l:List At):(constsG l).length≤l.length:=by
 have:∀ (m acc:List V),(m.foldl insD acc).length≤acc.length+m.length:=by
  intro m
  induction m with
  | nil=>intro acc; simp
  | cons v m ih=>intro acc; have:=ih (insD acc v); have:=insD_len acc v; simp only [List.foldl_cons,List.length_cons]; omega
 have h:=this ((l.filter fun a=>a.v.k != 0).map At.v) []
 unfold constsG sortD
 have h2:=List.length_filter_le (fun a:At=>a.v.k != 0) l
 simp at h ⊢; omega
theorem posD_drop {v:V} {l:List V} {i:Nat} (h:i<l.length):posD v (l.drop i)=if l[i].cmp v<0 then posD v (l.drop (i+1))+1 else 0:=by
 rw [List.drop_eq_getElem_cons h,posD]
@[simp] theorem v_clen (v:V):v.c.length=3:=rfl
@[simp] theorem v_take (l:List V) (n:Nat):(∀ x,x∈List.take n (l.map V.c)→x.length=3)=True:=eq_true fun x hx=>by
  obtain ⟨a,_,rfl⟩:=List.mem_map.1 (List.mem_of_mem_take hx)
  rfl
@[simp] theorem v_drop (l:List V) (n:Nat):(∀ x,x∈List.drop n (l.map V.c)→x.length=3)=True:=eq_true fun x hx=>by
  obtain ⟨a,_,rfl⟩:=List.mem_map.1 (List.mem_of_mem_drop hx)
  rfl
theorem r13_about (l:List At) (hl:l.length≤1000) (c:Int):Cf En 100 [.d (.int .i64 c),.d (.sl (l.map At.c))] [] (.tup [.d (.sl ((aboutG c l).map At.c)),.d (.sl ((constsG (aboutG c l)).map V.c))]) []:=by
 refine cf_intro mix (fn:=Tryz.f100) (by kernel_rfl) rfl (by kernel_rfl) (by decide) (by simp) ?_
 simp
 (repeat' (first|contradiction|exact .ok|apply And.intro|intro _|(refine gc (fun h=>?_) (fun h=>?_)<;>(have h':=h;(try simp at h');first|done|simp[h,h']|simp))))
 refine aloopT mix (by decide) (fun i:Nat=>{ s:=mkS [(0,.d (.int .i64 c)),(1,.d (.sl (l.map At.c))),(6,.ref 900 0 (aboutG c (l.take i)).length 5),(7,.d (.sl ((constsG (aboutG c (l.take i))).map V.c))),(8,.d (.int .i64 i))],b:=mkB [(900,900,.arr 81 5 ((aboutG c (l.take i)).map At.c) false)] }) (fun i=>i≤l.length) (fun i=>l.length - i) 0 (by simp)
  (sub_mkn2 6 900 81 5 7 901 79 3 (by simp) (by simp) (by decide) (by decide) (by simp) (by simp) (by decide) (by decide) (by decide) (by decide) _ [(900,900,_)] ⟨by simp,by simp,by simp [renOf,Blk.live,aboutG,constsG,sortD],by simp⟩ (by simp [renOf,aboutG,constsG,sortD])) ?_
 intro i hi
 by_cases hlt:i<l.length
 ·have ht:=aboutG_take (c:=c) hlt
  have hw:=wrap_in (n:=(i:Int)+1) (by omega) (by omega)
  obtain ⟨a,ha⟩:∃ a,a=l[i]:=⟨_,rfl⟩
  have hgi:∀ h,l[i]'h=a:=fun _=>ha.symm
  rw [← ha] at ht
  have hAl:(aboutG c (l.take i)).length≤1000:=Nat.le_trans (List.length_filter_le _ _) (by simp; omega)
  have hBl:=constsG_len (aboutG c (l.take i))
  have hcs:=constsG_snoc (aboutG c (l.take i)) a
  generalize aboutG c (l.take i)=A at *
  generalize hB:constsG A=B at *
  by_cases hc:a.col=c
  ·rw [if_pos hc] at ht
   by_cases hk:a.v.k=0
   ·rw [if_pos hk] at hcs
    simp [hlt,hgi,At.c,hc,hk,szs (A.length+1) (by omega) 48 (by decide),szs A.length (by omega) 48 (by decide)]
    (repeat' (first|contradiction|exact .ok|apply And.intro|intro _|(refine gc (fun h=>?_) (fun h=>?_)<;>(have h':=h;(try simp at h');first|done|simp[h,h',hc,hk]|simp[hc,hk]))))
    refine ⟨i+1,by omega,?_,by simp; omega⟩
    refine sub_mk _ [(900,30,_)] ⟨by simp,by simp,by simp [renOf,Blk.live,ht,hcs,At.c,hc,hk],by simp⟩ (by simp [renOf,hw,ht,hcs,V.c])
   ·rw [if_neg hk] at hcs
    simp [hlt,hgi,At.c,hc,hk,szs (A.length+1) (by omega) 48 (by decide),szs A.length (by omega) 48 (by decide)]
    (repeat' (first|contradiction|exact .ok|apply And.intro|intro _|(refine gc (fun h=>?_) (fun h=>?_)<;>(have h':=h;(try simp at h');first|done|simp[h,h',hc,hk]|simp[hc,hk]))))
    refine aloopT mix (by decide) (fun j:Nat=>{ s:=mkS [(0,.d (.int .i64 c)),(1,.d (.sl (l.map At.c))),(6,.ref 900 0 (A.length+1) 5),(7,.d (.sl (B.map V.c))),(8,.d (.int .i64 i)),(9,.d (.int .i64 j))],b:=mkB [(900,900,.arr 81 5 ((A++[a]).map At.c) false)] }) (fun j=>j≤B.length∧posD a.v (B.drop j)+j=posD a.v B) (fun j=>B.length - j) 0 (by simp)
     (sub_mk _ [(900,30,_)] ⟨by simp,by simp,by simp [renOf,Blk.live,At.c,hc],by simp⟩ (by simp [renOf])) ?_
    rintro j ⟨hj,hp⟩
    by_cases hjt:j<B.length
    ·have hd:=posD_drop (v:=a.v) hjt
     rw [hd] at hp
     have hwj:=wrap_in (n:=(j:Int)+1) (by omega) (by omega)
     obtain ⟨u,hu⟩:∃ u,u=B[j]:=⟨_,rfl⟩
     have hgu:∀ h,B[j]'h=u:=fun _=>hu.symm
     rw [← hu] at hp
     simp [hlt,hgi,At.c,hjt,hgu,V.c]
     (repeat' (first|contradiction|exact .ok|apply And.intro|intro _|(refine gc (fun h=>?_) (fun h=>?_)<;>(have h':=h;(try simp at h');first|done|simp[h,h']|simp))))
     refine acallT_plain (r_compare u a.v) (by simp [V.a]) ?_
     by_cases hcm:u.cmp a.v<0
     ·rw [if_pos hcm] at hp
      simp [hcm]
      (repeat' (first|contradiction|exact .ok|apply And.intro|intro _|(refine gc (fun h=>?_) (fun h=>?_)<;>(have h':=h;(try simp at h');first|done|simp[h,h',hcm]|simp[hcm]))))
      refine ⟨j+1,⟨by omega,by omega⟩,?_,by simp; omega⟩
      refine sub_mk _ [(900,900,_)] ⟨by simp,by simp,by simp [renOf,Blk.live,At.c],by simp⟩ (by simp [renOf,hwj])
     ·rw [if_neg hcm] at hp
      have hpj:posD a.v B=j:=by omega
      have hge:0≤u.cmp a.v:=by omega
      simp [hcm,hge,hlt,hgi,At.c,hjt,hgu,V.c]
      (repeat' (first|contradiction|exact .ok|apply And.intro|intro _|(refine gc (fun h=>?_) (fun h=>?_)<;>(have h':=h;(try simp at h');first|done|simp[h,h',hcm]|simp[hcm]))))
      refine acallT_plain (r_same u a.v) (by simp [V.a]) ?_
      by_cases h0:u.cmp a.v=0
      ·have e:=V.cmp_eq h0
       have hins:insD B a.v=B:=by unfold insD; rw [hpj,List.getElem?_eq_getElem hjt,hgu,e,if_pos rfl]
       rw [hins] at hcs
       simp [h0]
       (repeat' (first|contradiction|exact .ok|apply And.intro|intro _|(refine gc (fun h=>?_) (fun h=>?_)<;>(have h':=h;(try simp at h');first|done|simp[h,h',h0]|simp[h0]))))
       refine ⟨i+1,by omega,?_,by simp; omega⟩
       refine sub_mk _ [(900,900,_)] ⟨by simp,by simp,by simp [renOf,Blk.live,ht,hcs,At.c],by simp⟩ (by simp [renOf,hw,ht,hcs,V.c])
      ·have hne:¬ u=a.v:=fun e=>h0 (by rw [e]; exact V.cmp_self _)
       have hins:insD B a.v=B.take j++a.v::B.drop j:=by unfold insD; rw [hpj,List.getElem?_eq_getElem hjt,hgu,if_neg (by simpa using hne)]
       rw [hins] at hcs
       have hm:min j B.length=j:=by omega
       simp [h0,hm,hj,hlt,hgi,At.c,V.c,szs j (by omega) 32 (by decide),szs (j+1) (by omega) 32 (by decide),szs (j+1+(B.length - j)) (by omega) 32 (by decide)]
       (repeat' (first|contradiction|exact .ok|apply And.intro|intro _|(refine gc (fun h=>?_) (fun h=>?_)<;>(have h':=h;(try simp at h');first|done|simp[h,h',h0]|simp[h0]))))
       refine ⟨i+1,by omega,?_,by simp; omega⟩
       refine sub_mk _ [(900,900,_)] ⟨by simp,by simp,by simp [renOf,Blk.live,ht,hcs,V.c,At.c],by simp⟩ (by simp [renOf,hw,ht,hcs,hm,V.c]; rw [if_pos (by omega),List.take_of_length_le (by simp; omega)])
    ·have hje:j=B.length:=by omega
     subst hje
     rw [List.drop_length,posD] at hp
     have hins:insD B a.v=B++[a.v]:=by unfold insD; rw [← hp]; simp
     rw [hins] at hcs
     simp [hlt,hgi,At.c,V.c,szs B.length (by omega) 32 (by decide),szs (B.length+1) (by omega) 32 (by decide)]
     (repeat' (first|contradiction|exact .ok|apply And.intro|intro _|(refine gc (fun h=>?_) (fun h=>?_)<;>(have h':=h;(try simp at h');first|done|simp[h,h']|simp))))
     refine ⟨i+1,by omega,?_,by simp; omega⟩
     refine sub_mk _ [(900,900,_)] ⟨by simp,by simp,by simp [renOf,Blk.live,ht,hcs,V.c,At.c],by simp⟩ (by simp [renOf,hw,ht,hcs,V.c]; rw [List.take_of_length_le (by simp)])
  ·rw [if_neg hc] at ht
   simp [hlt,hgi,At.c,hc]
   (repeat' (first|contradiction|exact .ok|apply And.intro|intro _|(refine gc (fun h=>?_) (fun h=>?_)<;>(have h':=h;(try simp at h');first|done|simp[h,h',hc]|simp[hc]))))
   refine ⟨i+1,by omega,?_,by simp; omega⟩
   refine sub_mk _ [(900,900,_)] ⟨by simp,by simp,by simp [renOf,Blk.live,ht],by simp⟩ (by simp [renOf,hw,ht,hB])
 have hie:i=l.length:=by omega
 subst hie
 simp
 all_goals exact gz
end Go.Proofs.Tryz
namespace Go.Proofs.Tryz
open Go.Ab
set_option maxRecDepth 100000
set_option maxHeartbeats 1000000
theorem itoa_s0:Cf En 231 [.d (.int .i64 0)] [] (.d (.str [48])) []:=by
 refine cf_intro mix (fn:=Tryz.f231) (by kernel_rfl) rfl (by kernel_rfl) (by decide) (by simp) ?_
 simp [show IntKind.i64.wrap 0=0 from by decide,show IntKind.i64.wrap 1=1 from by decide,show IntKind.i64.wrap 2=2 from by decide]
 all_goals exact gz
theorem itoa_s1:Cf En 231 [.d (.int .i64 1)] [] (.d (.str [49])) []:=by
 refine cf_intro mix (fn:=Tryz.f231) (by kernel_rfl) rfl (by kernel_rfl) (by decide) (by simp) ?_
 simp [show IntKind.i64.wrap 1=1 from by decide,show IntKind.i64.wrap 2=2 from by decide,show IntKind.i64.wrap 4=4 from by decide]
 all_goals exact gz
theorem itoa_s2:Cf En 231 [.d (.int .i64 2)] [] (.d (.str [50])) []:=by
 refine cf_intro mix (fn:=Tryz.f231) (by kernel_rfl) rfl (by kernel_rfl) (by decide) (by simp) ?_
 simp [show IntKind.i64.wrap 1=1 from by decide,show IntKind.i64.wrap 3=3 from by decide,show IntKind.i64.wrap 4=4 from by decide,show IntKind.i64.wrap 6=6 from by decide]
 all_goals exact gz
theorem itoa_s3:Cf En 231 [.d (.int .i64 3)] [] (.d (.str [51])) []:=by
 refine cf_intro mix (fn:=Tryz.f231) (by kernel_rfl) rfl (by kernel_rfl) (by decide) (by simp) ?_
 simp [show IntKind.i64.wrap 1=1 from by decide,show IntKind.i64.wrap 4=4 from by decide,show IntKind.i64.wrap 6=6 from by decide,show IntKind.i64.wrap 8=8 from by decide]
 all_goals exact gz
theorem itoa_s4:Cf En 231 [.d (.int .i64 4)] [] (.d (.str [52])) []:=by
 refine cf_intro mix (fn:=Tryz.f231) (by kernel_rfl) rfl (by kernel_rfl) (by decide) (by simp) ?_
 simp [show IntKind.i64.wrap 1=1 from by decide,show IntKind.i64.wrap 5=5 from by decide,show IntKind.i64.wrap 8=8 from by decide,show IntKind.i64.wrap 10=10 from by decide]
 all_goals exact gz
theorem itoa_s5:Cf En 231 [.d (.int .i64 5)] [] (.d (.str [53])) []:=by
 refine cf_intro mix (fn:=Tryz.f231) (by kernel_rfl) rfl (by kernel_rfl) (by decide) (by simp) ?_
 simp [show IntKind.i64.wrap 1=1 from by decide,show IntKind.i64.wrap 6=6 from by decide,show IntKind.i64.wrap 10=10 from by decide,show IntKind.i64.wrap 12=12 from by decide]
 all_goals exact gz
theorem itoa_s6:Cf En 231 [.d (.int .i64 6)] [] (.d (.str [54])) []:=by
 refine cf_intro mix (fn:=Tryz.f231) (by kernel_rfl) rfl (by kernel_rfl) (by decide) (by simp) ?_
 simp [show IntKind.i64.wrap 1=1 from by decide,show IntKind.i64.wrap 7=7 from by decide,show IntKind.i64.wrap 12=12 from by decide,show IntKind.i64.wrap 14=14 from by decide]
 all_goals exact gz
theorem itoa_s7:Cf En 231 [.d (.int .i64 7)] [] (.d (.str [55])) []:=by
 refine cf_intro mix (fn:=Tryz.f231) (by kernel_rfl) rfl (by kernel_rfl) (by decide) (by simp) ?_
 simp [show IntKind.i64.wrap 1=1 from by decide,show IntKind.i64.wrap 8=8 from by decide,show IntKind.i64.wrap 14=14 from by decide,show IntKind.i64.wrap 16=16 from by decide]
 all_goals exact gz
theorem itoa_s8:Cf En 231 [.d (.int .i64 8)] [] (.d (.str [56])) []:=by
 refine cf_intro mix (fn:=Tryz.f231) (by kernel_rfl) rfl (by kernel_rfl) (by decide) (by simp) ?_
 simp [show IntKind.i64.wrap 1=1 from by decide,show IntKind.i64.wrap 9=9 from by decide,show IntKind.i64.wrap 16=16 from by decide,show IntKind.i64.wrap 18=18 from by decide]
 all_goals exact gz
theorem itoa_s9:Cf En 231 [.d (.int .i64 9)] [] (.d (.str [57])) []:=by
 refine cf_intro mix (fn:=Tryz.f231) (by kernel_rfl) rfl (by kernel_rfl) (by decide) (by simp) ?_
 simp [show IntKind.i64.wrap 1=1 from by decide,show IntKind.i64.wrap 10=10 from by decide,show IntKind.i64.wrap 18=18 from by decide,show IntKind.i64.wrap 20=20 from by decide]
 all_goals exact gz
theorem itoa_s10:Cf En 231 [.d (.int .i64 10)] [] (.d (.str [49,48])) []:=by
 refine cf_intro mix (fn:=Tryz.f231) (by kernel_rfl) rfl (by kernel_rfl) (by decide) (by simp) ?_
 simp [show IntKind.i64.wrap 1=1 from by decide,show IntKind.i64.wrap 11=11 from by decide,show IntKind.i64.wrap 20=20 from by decide,show IntKind.i64.wrap 22=22 from by decide]
 all_goals exact gz
theorem itoa_s11:Cf En 231 [.d (.int .i64 11)] [] (.d (.str [49,49])) []:=by
 refine cf_intro mix (fn:=Tryz.f231) (by kernel_rfl) rfl (by kernel_rfl) (by decide) (by simp) ?_
 simp [show IntKind.i64.wrap 1=1 from by decide,show IntKind.i64.wrap 12=12 from by decide,show IntKind.i64.wrap 22=22 from by decide,show IntKind.i64.wrap 24=24 from by decide]
 all_goals exact gz
theorem itoa_s12:Cf En 231 [.d (.int .i64 12)] [] (.d (.str [49,50])) []:=by
 refine cf_intro mix (fn:=Tryz.f231) (by kernel_rfl) rfl (by kernel_rfl) (by decide) (by simp) ?_
 simp [show IntKind.i64.wrap 1=1 from by decide,show IntKind.i64.wrap 13=13 from by decide,show IntKind.i64.wrap 24=24 from by decide,show IntKind.i64.wrap 26=26 from by decide]
 all_goals exact gz
theorem itoa_small (n:Nat) (h:n≤12):Cf En 231 [.d (.int .i64 n)] [] (.d (.str (itoaG n))) []:=by
 rcases (by omega:n=0∨n=1∨n=2∨n=3∨n=4∨n=5∨n=6∨n=7∨n=8∨n=9∨n=10∨n=11∨n=12) with rfl | rfl | rfl | rfl | rfl | rfl | rfl | rfl | rfl | rfl | rfl | rfl | rfl
 ·exact itoa_s0
 ·exact itoa_s1
 ·exact itoa_s2
 ·exact itoa_s3
 ·exact itoa_s4
 ·exact itoa_s5
 ·exact itoa_s6
 ·exact itoa_s7
 ·exact itoa_s8
 ·exact itoa_s9
 ·exact itoa_s10
 ·exact itoa_s11
 ·exact itoa_s12
theorem itoa_fmt (n:Nat) (h:n≤12):Cf En 209 [.d (.int .i64 n),.d (.int .i64 10)] [] (.d (.str (itoaG n))) []:=by
 have h1:(n:Int)<100:=by omega
 have h2:(0:Int)≤n:=by omega
 have hw:=wrap_in (n:=(n:Int)) (by omega) (by omega)
 have hc:=itoa_small n h
 refine cf_intro mix (fn:=Tryz.f209) (by kernel_rfl) rfl (by kernel_rfl) (by decide) (by simp) ?_
 simp [h1,h2,hw]
 (repeat' (first|contradiction|exact .ok|apply And.intro|intro _|(refine gc (fun h=>?_) (fun h=>?_)<;>(have h':=h;(try simp at h');first|done|simp[h,h',h1,h2,hw]|simp[h1,h2,hw]))))
 refine acallT_plain hc (by simp [hw]) ?_
 simp
 all_goals exact gz
theorem itoa_i (n:Nat) (h:n≤12):Cf En 185 [.d (.int .i64 n)] [] (.d (.str (itoaG n))) []:=by
 have hw:=wrap_in (n:=(n:Int)) (by omega) (by omega)
 have hc:=itoa_fmt n h
 refine cf_intro mix (fn:=Tryz.f185) (by kernel_rfl) rfl (by kernel_rfl) (by decide) (by simp) ?_
 simp [hw]
 (repeat' (first|contradiction|exact .ok|apply And.intro|intro _|(refine gc (fun h=>?_) (fun h=>?_)<;>(have h':=h;(try simp at h');first|done|simp[h,h']|simp))))
 refine acallT_plain hc (by simp [hw]) ?_
 simp
 all_goals exact gz
theorem itoa_n (n:Nat) (h:n≤12):Cf En 157 [.d (.int .i64 n)] [] (.d (.str (itoaG n))) []:=by
 have hw:=wrap_in (n:=(n:Int)) (by omega) (by omega)
 have hc:=itoa_i n h
 refine cf_intro mix (fn:=Tryz.f157) (by kernel_rfl) rfl (by kernel_rfl) (by decide) (by simp) ?_
 simp [hw]
 (repeat' (first|contradiction|exact .ok|apply And.intro|intro _|(refine gc (fun h=>?_) (fun h=>?_)<;>(have h':=h;(try simp at h');first|done|simp[h,h']|simp))))
 refine acallT_plain hc (by simp [hw]) ?_
 simp
 all_goals exact gz
end Go.Proofs.Tryz
