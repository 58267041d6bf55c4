import Derived.Test.YtklnfckiabhceaaGreatDoorKFil
import Derived.Test.YtklnfckiabhceaaGreatDoorKClb
import Derived.Test.YtklnfckiabhceaaGreatDoorKCldR
set_option linter.all false
namespace Go.Proofs.Tryz
open Go.Ab
set_option maxRecDepth 100000
set_option maxHeartbeats 2000000
theorem p13_num (n:Int):Cf En 180 [.d (.int .i64 n)] [] (V.a ⟨1,n,[]⟩) []:=by
 refine cf_intro mix (fn:=Tryz.f180) (by kernel_rfl) rfl (by kernel_rfl) (by decide) (by simp) ?_
 simp [V.a]
 all_goals exact gz
theorem fidx_ge {α:Type} {p:α→Bool}:∀ {l:List α} {k:Nat},decide (0≤fidx p l k)=l.any p
 | [],_=>by simp [fidx]
 | x::l,k=>by
   rw [fidx,List.any_cons]
   by_cases h:p x=true
   ·rw [if_pos h,h]; simp
   ·rw [if_neg h,fidx_ge]; simp [h]
theorem index_v (l:List V) (hl:l.length≤1000) (v:V):Cf En 208 [.d (.sl (l.map V.c)),v.a] [] (.d (.int .i64 (fidx (fun u=>V.beq u v) l 0))) []:=by
 refine cf_intro mix (fn:=Tryz.f208) (by kernel_rfl) rfl (by kernel_rfl) (by decide) (by simp) ?_
 simp [V.a]
 (repeat' (first|contradiction|exact .ok|apply And.intro|intro _|(refine gc (fun h=>?_) (fun h=>?_)<;>(have h':=h;(try simp at h');first|done|simp[h,h']|simp))))
 refine aloopT mix (by decide) (fun i:Nat=>{ s:=mkS [(0,.d (.sl (l.map V.c))),(3,.ptr 3 0 0),(7,.d (.int .i64 l.length)),(8,.d (.int .i64 i))],b:=mkB [(3,3,.var (v.c.map AV.d))] }) (fun i=>i≤l.length∧fidx (fun u=>V.beq u v) (l.drop i) i=fidx (fun u=>V.beq u v) l 0) (fun i=>l.length - i) 0 (by simp) (sub_mk _ [(3,3,_)] ⟨by simp,by simp,by simp [renOf,Blk.live,V.c],by simp⟩ (by simp [renOf])) ?_
 rintro i ⟨hi,hf⟩
 by_cases hlt:i<l.length
 ·rw [fidx_drop hlt] at hf
  obtain ⟨u,hu⟩:∃ u,u=l[i]:=⟨_,rfl⟩
  have hgi:∀ h,l[i]'h=u:=fun _=>hu.symm
  rw [← hu] at hf
  have hw:=wrap_in (n:=(i:Int)+1) (by omega) (by omega)
  cases e:V.beq v u with
  | false =>
    have e2:V.beq u v=false:=by
     cases e2:V.beq u v with
     | false=>rfl
     | true=>rw [(V.beq_iff _ _).1 e2,(V.beq_iff _ _).2 rfl] at e; cases e
    rw [e2,if_neg (by simp)] at hf
    have hne:=V.beq_f e
    simp [hlt,hgi,V.c,hne]
    (repeat' (first|contradiction|exact .ok|apply And.intro|intro _|(refine gc (fun h=>?_) (fun h=>?_)<;>(have h':=h;(try simp at h');first|done|simp[h,h',hne]|simp[hne]))))
    refine ⟨i+1,⟨by omega,hf⟩,?_,by simp; omega⟩
    exact sub_mk _ [(3,3,_)] ⟨by simp,by simp,by simp [renOf,Blk.live,V.c],by simp⟩ (by simp [renOf,hw])
  | true =>
    have e2:=(V.beq_iff _ _).1 e
    subst e2
    rw [(V.beq_iff _ _).2 rfl,if_pos rfl] at hf
    simp [hlt,hgi,V.c,← hf]
    all_goals exact gz
 have hie:i=l.length:=by omega
 subst hie
 rw [List.drop_length,fidx] at hf
 simp [← hf]
 all_goals exact gz
theorem contains_v (l:List V) (hl:l.length≤1000) (v:V):Cf En 181 [.d (.sl (l.map V.c)),v.a] [] (.d (.bool (l.any fun u=>V.beq u v))) []:=by
 refine cf_intro mix (fn:=Tryz.f181) (by kernel_rfl) rfl (by kernel_rfl) (by decide) (by simp) ?_
 have hg:=fidx_ge (p:=fun u=>V.beq u v) (l:=l) (k:=0)
 simp [V.a]
 (repeat' (first|contradiction|exact .ok|apply And.intro|intro _|(refine gc (fun h=>?_) (fun h=>?_)<;>(have h':=h;(try simp at h');first|done|simp[h,h']|simp))))
 refine acallT_plain (index_v l hl v) (by simp [V.a]) ?_
 simp [hg]
 all_goals exact gz
def kindsG (k:Int) (l:List At):List V:=(l.filter fun a=>a.v.k==k).map At.v
theorem kindsG_take {k:Int} {l:List At} {i:Nat} (h:i<l.length):kindsG k (l.take (i+1))=if l[i].v.k=k then kindsG k (l.take i)++[l[i].v] else kindsG k (l.take i):=by
 unfold kindsG
 rw [take_snoc h,List.filter_append,List.map_append]
 by_cases e:l[i].v.k=k <;> simp [e]
theorem kindsG_consts {k:Int} {l:List At} (hk:k ≠ 0) (h:∀ a∈l,a.v.k=0∨a.v.k=k):sortD (kindsG k l)=constsG l:=by
 unfold kindsG constsG
 congr 2
 apply List.filter_congr
 intro a ha
 rcases h a ha with e | e <;> simp [e,hk]
 exact fun e=>hk e.symm
def caF (x:Col) (C:List V) (y:Nat×List V):St :=
 { s:=mkS [(2,.ptr 2 0 0),(5,.d (.sl (C.map V.c))),(6,.ref 900 0 y.2.length 3),(9,.clo 180 []),(55,.d (.sl (C.map V.c))),(56,.d (.int .i64 C.length)),(57,.d (.int .i64 y.1))],b:=mkB [(2,2,.var (x.c.map AV.d)),(900,900,.arr 79 3 (y.2.map V.c) false)] }
def cbF (x:Col) (C:List V) (n:Nat):St :=
 { s:=mkS [(2,.ptr 2 0 0),(5,.d (.sl (C.map V.c))),(6,.ref 900 0 C.length 3),(13,.d (.int .i64 n))],b:=mkB [(2,2,.var (x.c.map AV.d)),(900,900,.arr 79 3 (C.map V.c) false)] }
theorem p13_cands (x:Col) (l:List At) (hl:l.length≤12) (hk:x.t=1∨x.t=2∨x.t=3) (hkd:∀ a∈l,a.v.k=0∨a.v.k=x.t) (hn:∀ a∈l,-maxI≤a.v.n∧a.v.n≤maxI) :
  Cf En 142 [x.a,.d (.sl (l.map At.c))] [] (.d (.sl ((genC x.t x.b (constsG l)).map V.c))) []:=by
 refine cf_intro mix (fn:=Tryz.f142) (by kernel_rfl) rfl (by kernel_rfl) (by decide) (by simp) ?_
 simp [Col.a,Col.c]
 (repeat' (first|contradiction|exact .ok|apply And.intro|intro _|(refine gc (fun h=>?_) (fun h=>?_)<;>(have h':=h;(try simp at h');first|done|simp[h,h']|simp))))
 refine aloopT mix (by decide) (fun i:Nat=>{ s:=mkS [(2,.ptr 2 0 0),(5,.ref 900 0 (kindsG x.t (l.take i)).length 3),(6,.nils),(14,.d (.sl (l.map At.c))),(15,.d (.int .i64 l.length)),(16,.d (.int .i64 i))],b:=mkB [(2,2,.var (x.c.map AV.d)),(900,900,.arr 79 3 ((kindsG x.t (l.take i)).map V.c) false)] }) (fun i=>i≤l.length) (fun i=>l.length - i) 0 (by simp)
  (sub_mkn 5 900 79 3 (by simp) (by simp) (by decide) (by decide) _ [(2,2,_),(900,900,_)] ⟨by simp,by simp,by simp [renOf,Blk.live,Col.c,kindsG],by simp⟩ (by simp [renOf,kindsG])) ?_
 intro i hi
 by_cases hlt:i<l.length
 ·have ht:=kindsG_take (k:=x.t) hlt
  obtain ⟨a,ha⟩:∃ a,a=l[i]:=⟨_,rfl⟩
  have hgi:∀ h,l[i]'h=a:=fun _=>ha.symm
  rw [← ha] at ht
  have hw:=wrap_in (n:=(i:Int)+1) (by omega) (by omega)
  have hKl:(kindsG x.t (l.take i)).length≤12:=by
   unfold kindsG; rw [List.length_map]
   exact Nat.le_trans (List.length_filter_le _ _) (by simp; omega)
  generalize kindsG x.t (l.take i)=K at *
  by_cases he:a.v.k=x.t
  ·rw [if_pos he] at ht
   simp [hlt,hgi,At.c,Col.c,he,szs K.length (by omega) 32 (by decide),szs (K.length+1) (by omega) 32 (by decide)]
   (repeat' (first|contradiction|exact .ok|apply And.intro|intro _|(refine gc (fun h=>?_) (fun h=>?_)<;>(have h':=h;(try simp at h');first|done|simp[h,h',he]|simp[he]))))
   refine ⟨i+1,by omega,?_,by simp; omega⟩
   exact sub_mk _ [(2,2,_),(900,30,_)] ⟨by simp,by simp,by simp [renOf,Blk.live,Col.c,ht,V.c,he],by simp⟩ (by simp [renOf,hw,ht])
  ·rw [if_neg he] at ht
   simp [hlt,hgi,At.c,Col.c,he]
   (repeat' (first|contradiction|exact .ok|apply And.intro|intro _|(refine gc (fun h=>?_) (fun h=>?_)<;>(have h':=h;(try simp at h');first|done|simp[h,h',he]|simp[he]))))
   refine ⟨i+1,by omega,?_,by simp; omega⟩
   exact sub_mk _ [(2,2,_),(900,900,_)] ⟨by simp,by simp,by simp [renOf,Blk.live,Col.c,ht],by simp⟩ (by simp [renOf,hw,ht])
 have hie:i=l.length:=by omega
 subst hie
 rw [List.take_length]
 have hkc:=kindsG_consts (k:=x.t) (l:=l) (by omega) hkd
 have hKl:(kindsG x.t l).length≤12:=by
  unfold kindsG; rw [List.length_map]
  exact Nat.le_trans (List.length_filter_le _ _) hl
 have hcs:=comp_sort (kindsG x.t l)
 rw [hkc] at hcs
 have hsf:=sort_func (kindsG x.t l) hKl
 have hil:=isort_len (kindsG x.t l)
 have hcp:=compact (isort (kindsG x.t l)) (by omega)
 rw [hcs,hil] at hcp
 have hCl:(constsG l).length≤12:=Nat.le_trans (constsG_len l) hl
 have hCb:∀ v∈constsG l,-maxI≤v.n∧v.n≤maxI:=fun v hv=>by
  obtain ⟨a,ha,rfl⟩:=consts_mem hv
  exact hn a ha
 clear hkc hcs hkd hn
 generalize isort (kindsG x.t l)=I at *
 generalize kindsG x.t l=K at *
 generalize hZ:List.replicate (K.length - (constsG l).length) nulV=Z at *
 generalize constsG l=C at *
 simp [Col.c]
 (repeat' (first|contradiction|exact .ok|apply And.intro|intro _|(refine gc (fun h=>?_) (fun h=>?_)<;>(have h':=h;(try simp at h');first|done|simp[h,h']|simp))))
 refine acallT_hand [900] hsf (by simp) (by simp) (by simp) (by simp) (by simp) ?_
 simp [Col.c]
 (repeat' (first|contradiction|exact .ok|apply And.intro|intro _|(refine gc (fun h=>?_) (fun h=>?_)<;>(have h':=h;(try simp at h');first|done|simp[h,h']|simp))))
 refine acallT_hand [900] hcp (by simp) (by simp) (by simp) (by simp) (by simp [hil]) ?_
 have hgl:=genI_len C
 rcases hk with hk | hk | hk
 ·obtain ⟨O0,hO⟩:∃ O0:List V,O0=match C[0]? with | none=>[⟨1,-maxI,[]⟩] | some v=>if v.n>-maxI then [⟨1,-maxI,[]⟩] else []:=⟨_,rfl⟩
  have hO1:O0.length≤1:=by
   rw [hO]
   split
   ·simp
   ·split <;> simp
  have hG:O0++goI C=genI C:=by rw [hO]; unfold genI; cases C <;> simp
  refine' (fun (key:LoopKey En 127 0 (caF x C (0,O0)) _ _)=>?main) ?keyg
  case main =>
   by_cases h0:C.length=0
   ·have hO':O0=[⟨1,-maxI,[]⟩]:=by rw [hO,List.eq_nil_of_length_eq_zero h0]; rfl
    simp [Col.c,hk,h0]
    (repeat' (first|contradiction|exact .ok|apply And.intro|intro _|(refine gc (fun h=>?_) (fun h=>?_)<;>(have h':=h;(try simp at h');first|done|simp[h,h',hk,h0]|simp[hk,h0]))))
    refine acallT_plain (p13_num (-1000000000000)) (by simp [V.a]) ?_
    simp [V.a,h0]
    (repeat' (first|contradiction|exact .ok|apply And.intro|intro _|(refine gc (fun h=>?_) (fun h=>?_)<;>(have h':=h;(try simp at h');first|done|simp[h,h']|simp))))
    refine key _ ?_
    exact sub_mk _ [(2,2,_),(900,54,_)] ⟨by simp,by simp,by simp [renOf,Blk.live,Col.c,hk,hO',V.c,maxI],by simp⟩ (by simp [renOf,hO',h0,List.eq_nil_of_length_eq_zero h0])
   ·have hlt:0<C.length:=by omega
    have h0':¬ (C.length:Int)=0:=by omega
    obtain ⟨v,hv0⟩:∃ v,v=C[0]:=⟨_,rfl⟩
    have e1:C[0]?=some v:=by rw [List.getElem?_eq_getElem hlt,hv0]
    have e2:(C.map V.c++Z.map V.c)[0]?=some v.c:=by rw [List.getElem?_append_left (by simpa using hlt),List.getElem?_map,e1]; rfl
    have hgi:∀ h,(C.map V.c++Z.map V.c)[0]'h=v.c:=fun h=>by rw [List.getElem?_eq_getElem h] at e2; exact Option.some.inj e2
    have hl0:0<C.length+Z.length:=by omega
    rw [e1] at hO
    dsimp only at hO
    by_cases hv:v.n>-maxI
    ·have hv':-1000000000000<v.n:=hv
     have hO':O0=[⟨1,-maxI,[]⟩]:=by rw [hO,if_pos hv]
     simp [Col.c,hk,h0,h0',hlt,e2,hgi,hl0,V.c,hv']
     (repeat' (first|contradiction|exact .ok|apply And.intro|intro _|(refine gc (fun h=>?_) (fun h=>?_)<;>(have h':=h;(try simp at h');first|done|simp[h,h',hk,h0]|simp[hk,h0]))))
     refine acallT_plain (p13_num (-1000000000000)) (by simp [V.a]) ?_
     simp [V.a]
     (repeat' (first|contradiction|exact .ok|apply And.intro|intro _|(refine gc (fun h=>?_) (fun h=>?_)<;>(have h':=h;(try simp at h');first|done|simp[h,h']|simp))))
     refine key _ ?_
     exact sub_mk _ [(2,2,_),(900,54,_)] ⟨by simp,by simp,by simp [renOf,Blk.live,Col.c,hk,hO',V.c,maxI],by simp⟩ (by simp [renOf,hO'])
    ·have hv':¬ -1000000000000<v.n:=hv
     have hO':O0=[]:=by rw [hO,if_neg hv]
     simp [Col.c,hk,h0,h0',hlt,e2,hgi,hl0,V.c,hv']
     (repeat' (first|contradiction|exact .ok|apply And.intro|intro _|(refine gc (fun h=>?_) (fun h=>?_)<;>(have h':=h;(try simp at h');first|done|simp[h,h',hk,h0]|simp[hk,h0]))))
     refine key _ ?_
     exact sub_mkn 6 901 79 3 (by simp) (by simp) (by decide) (by decide) _ [(2,2,_),(900,901,_)] ⟨by simp,by simp,by simp [renOf,Blk.live,hO',hk,Col.c],by simp⟩ (by simp [renOf,hO'])
  intro st hst
  refine aloopT mix (by decide) (caF x C) (fun y=>y.1≤C.length∧y.2++goI (C.drop y.1)=genI C∧y.2.length≤2*y.1+1) (fun y=>C.length - y.1) (0,O0) ⟨by simp,by simpa using hG,by simpa using hO1⟩ hst ?_
  rintro ⟨i,O⟩ ⟨hi,hG,hOl⟩
  simp only at hi hG hOl
  by_cases hlt:i<C.length
  ·have hd:=goI_drop hlt
   rw [hd] at hG
   obtain ⟨u,hu⟩:∃ u,u=C[i]:=⟨_,rfl⟩
   have hgi:∀ h,C[i]'h=u:=fun _=>hu.symm
   rw [← hu] at hG
   have hub:=hCb u (by rw [hu]; exact List.getElem_mem hlt)
   have hw:=wrap_in (n:=(i:Int)+1) (by omega) (by omega)
   have hwn:=wrap_in (n:=u.n+1) (by simp [maxI] at hub; omega) (by simp [maxI] at hub; omega)
   have hfin:∀ (O':List V) st',O'++goI (C.drop (i+1))=genI C→O'.length≤2*(i+1)+1→Sub En 127 0 st' (caF x C (i+1,O'))→ANext En 127 0 (caF x C) (fun y=>y.1≤C.length∧y.2++goI (C.drop y.1)=genI C∧y.2.length≤2*y.1+1) (fun y=>C.length - y.1) (i,O) st' ⟨⟩:=fun O' st' h1 h2 h3=>⟨(i+1,O'),⟨by simp only; omega,h1,h2⟩,h3,by simp only; omega⟩
   by_cases hm:u.n+1≤1000000000000
   ·by_cases hlast:i+1=C.length
    ·have hlast':((i:Int)+1==C.length)=true:=by simp; omega
     have hn:C[i+1]?=none:=List.getElem?_eq_none (by omega)
     rw [hn,if_pos ⟨hm,rfl⟩] at hG
     simp [caF,hlt,hgi,V.c,hwn,hw,hm,hlast',szs (O.length+1) (by omega) 32 (by decide),szs O.length (by omega) 32 (by decide)]
     (repeat' (first|contradiction|exact .ok|apply And.intro|intro _|(refine gc (fun h=>?_) (fun h=>?_)<;>(have h':=h;(try simp at h');first|done|simp[h,h',hm,hlast']|simp[hm,hlast']))))
     refine acallT_plain (p13_num (u.n+1)) (by simp [V.a]) ?_
     simp [V.a,hlast',szs (O.length+1+1) (by omega) 32 (by decide),szs O.length (by omega) 32 (by decide)]
     (repeat' (first|contradiction|exact .ok|apply And.intro|intro _|(refine gc (fun h=>?_) (fun h=>?_)<;>(have h':=h;(try simp at h');first|done|simp[h,h']|simp))))
     refine hfin (O++[u,⟨1,u.n+1,[]⟩]) _ (by rw [List.append_assoc]; exact hG) (by simp; omega) ?_
     exact sub_mk _ [(2,2,_),(900,93,_)] ⟨by simp,by simp,by simp [renOf,Blk.live,V.c,Col.c],by simp⟩ (by simp [renOf,hw])
    ·have hlast':¬ (i:Int)+1=C.length:=by omega
     have hlt1:i+1<C.length:=by omega
     have hi0:(0:Int)≤(i:Int)+1:=by omega
     obtain ⟨z,hz⟩:∃ z,z=C[i+1]:=⟨_,rfl⟩
     have hgz:∀ h,C[i+1]'h=z:=fun _=>hz.symm
     have hn:C[i+1]?=some z:=by rw [List.getElem?_eq_getElem hlt1,hz]
     rw [hn] at hG
     by_cases hne:z.n=u.n+1
     ·rw [if_neg (by simp [hne])] at hG
      simp [caF,hlt,hgi,V.c,hwn,hw,hm,hlast',hi0,hlt1,hgz,hne,szs (O.length+1) (by omega) 32 (by decide),szs O.length (by omega) 32 (by decide)]
      (repeat' (first|contradiction|exact .ok|apply And.intro|intro _|(refine gc (fun h=>?_) (fun h=>?_)<;>(have h':=h;(try simp at h');first|done|simp[h,h',hm,hlast',hne]|simp[hm,hlast',hne]))))
      refine hfin (O++[u]) _ (by rw [List.append_assoc]; exact hG) (by simp; omega) ?_
      exact sub_mk _ [(2,2,_),(900,65,_)] ⟨by simp,by simp,by simp [renOf,Blk.live,V.c,Col.c],by simp⟩ (by simp [renOf,hw])
     ·rw [if_pos ⟨hm,by simpa using hne⟩] at hG
      simp [caF,hlt,hgi,V.c,hwn,hw,hm,hlast',hi0,hlt1,hgz,hne,szs (O.length+1) (by omega) 32 (by decide),szs O.length (by omega) 32 (by decide)]
      (repeat' (first|contradiction|exact .ok|apply And.intro|intro _|(refine gc (fun h=>?_) (fun h=>?_)<;>(have h':=h;(try simp at h');first|done|simp[h,h',hm,hlast',hne]|simp[hm,hlast',hne]))))
      refine acallT_plain (p13_num (u.n+1)) (by simp [V.a]) ?_
      simp [V.a,szs (O.length+1+1) (by omega) 32 (by decide),szs O.length (by omega) 32 (by decide)]
      (repeat' (first|contradiction|exact .ok|apply And.intro|intro _|(refine gc (fun h=>?_) (fun h=>?_)<;>(have h':=h;(try simp at h');first|done|simp[h,h']|simp))))
      refine hfin (O++[u,⟨1,u.n+1,[]⟩]) _ (by rw [List.append_assoc]; exact hG) (by simp; omega) ?_
      exact sub_mk _ [(2,2,_),(900,93,_)] ⟨by simp,by simp,by simp [renOf,Blk.live,V.c,Col.c],by simp⟩ (by simp [renOf,hw])
   ·have hm':¬ u.n+1≤maxI:=hm
    rw [if_neg (fun h=>hm' h.1)] at hG
    simp [caF,hlt,hgi,V.c,hwn,hw,hm,szs (O.length+1) (by omega) 32 (by decide),szs O.length (by omega) 32 (by decide)]
    (repeat' (first|contradiction|exact .ok|apply And.intro|intro _|(refine gc (fun h=>?_) (fun h=>?_)<;>(have h':=h;(try simp at h');first|done|simp[h,h',hm]|simp[hm]))))
    refine hfin (O++[u]) _ (by rw [List.append_assoc]; exact hG) (by simp; omega) ?_
    exact sub_mk _ [(2,2,_),(900,65,_)] ⟨by simp,by simp,by simp [renOf,Blk.live,V.c,Col.c],by simp⟩ (by simp [renOf,hw])
  have hie:i=C.length:=by omega
  subst hie
  rw [List.drop_length,goI,List.append_nil] at hG
  rw [← hG] at hgl
  have hgc:genC x.t x.b C=O++(if x.b=true then [nulV] else []):=by unfold genC; rw [if_pos hk,hG]
  rw [hgc]
  cases hb:x.b
  ·simp [caF,Col.c,hb]
   (repeat' (first|contradiction|exact .ok|apply And.intro|intro _|(refine gc (fun h=>?_) (fun h=>?_)<;>(have h':=h;(try simp at h');first|done|simp[h,h',hb]|simp[hb]))))
  ·simp [caF,Col.c,hb,szs (O.length+1) (by omega) 32 (by decide),szs O.length (by omega) 32 (by decide),V.c,nulV]
   (repeat' (first|contradiction|exact .ok|apply And.intro|intro _|(refine gc (fun h=>?_) (fun h=>?_)<;>(have h':=h;(try simp at h');first|done|simp[h,h',hb]|simp[hb]))))
   all_goals exact List.take_of_length_le (by simp)
 ·have hgc:genC x.t x.b C=[⟨2,0,[]⟩,⟨2,1,[]⟩]++(if x.b=true then [nulV] else []):=by unfold genC; rw [if_neg (by omega),if_pos hk]
  rw [hgc]
  simp [Col.c,hk]
  (repeat' (first|contradiction|exact .ok|apply And.intro|intro _|(refine gc (fun h=>?_) (fun h=>?_)<;>(have h':=h;(try simp at h');first|done|simp[h,h',hk]|simp[hk]))))
  refine acallT_plain (v_bool 0) (by simp [V.a]) ?_
  simp [V.a,boolV0]
  refine acallT_plain (v_bool 1) (by simp [V.a]) ?_
  simp [V.a,boolV1]
  cases hb:x.b
  ·simp [hb]
   (repeat' (first|contradiction|exact .ok|apply And.intro|intro _|(refine gc (fun h=>?_) (fun h=>?_)<;>(have h':=h;(try simp at h');first|done|simp[h,h',hb]|simp[hb]))))
   all_goals simp [V.c]
  ·simp [hb]
   (repeat' (first|contradiction|exact .ok|apply And.intro|intro _|(refine gc (fun h=>?_) (fun h=>?_)<;>(have h':=h;(try simp at h');first|done|simp[h,h',hb]|simp[hb]))))
   all_goals simp [V.c,nulV]
 ·obtain ⟨F,hF⟩:∃ F,F=frN C:=⟨_,rfl⟩
  have hgc:genC x.t x.b C=C++[txV F]++(if x.b=true then [nulV] else []):=by unfold genC; rw [if_neg (by omega),if_neg (by omega),if_pos hk,hF]
  rw [hgc]
  simp [Col.c,hk,szs C.length (by omega) 32 (by decide)]
  (repeat' (first|contradiction|exact .ok|apply And.intro|intro _|(refine gc (fun h=>?_) (fun h=>?_)<;>(have h':=h;(try simp at h');first|done|simp[h,h',hk]|simp[hk]))))
  refine aloopT mix (by decide) (cbF x C) (fun n=>frG C (C.length+1 - n) n=F∧∀ j,j<n→hasV C j=true) (fun n=>C.length+1 - n) 0 ⟨by simp [hF,frN],by simp⟩ (sub_mk _ [(2,2,_),(900,106,_)] ⟨by simp,by simp,by simp [renOf,Blk.live,Col.c,hk],by simp⟩ (by simp [renOf])) ?_
  clear hF hgc
  rintro n ⟨hf,hall⟩
  have hnl:=has_le2 hCl hall
  obtain ⟨m,hm⟩:∃ m,C.length+1 - n=m+1:=⟨C.length - n,by omega⟩
  have hm2:C.length+1 - (n+1)=m:=by omega
  rw [hm,frG] at hf
  have hit:=itoa_n n (by omega)
  have hwn:=wrap_in (n:=(n:Int)+1) (by omega) (by omega)
  have hcn:=contains_v C (by omega) (txV n)
  rw [show (C.any fun u=>V.beq u (txV n))=hasV C n from rfl] at hcn
  cases hH:hasV C n with
  | true =>
    rw [hH] at hcn
    rw [hH,if_pos rfl] at hf
    simp [cbF,Col.c]
    (repeat' (first|contradiction|exact .ok|apply And.intro|intro _|(refine gc (fun h=>?_) (fun h=>?_)<;>(have h':=h;(try simp at h');first|done|simp[h,h']|simp))))
    refine acallT_plain hit (by simp) ?_
    simp
    refine acallT_plain hcn (by simp [V.a,txV]) ?_
    simp
    (repeat' (first|contradiction|exact .ok|apply And.intro|intro _|(refine gc (fun h=>?_) (fun h=>?_)<;>(have h':=h;(try simp at h');first|done|simp[h,h']|simp))))
    refine ⟨n+1,⟨by rw [hm2]; exact hf,fun j hj=>?_⟩,?_,by simp; omega⟩
    ·by_cases hjn:j=n
     ·subst hjn; exact hH
     ·exact hall j (by omega)
    ·exact sub_mk _ [(2,2,_),(900,900,_)] ⟨by simp,by simp,by simp [renOf,Blk.live,Col.c],by simp⟩ (by simp [renOf,hwn])
  | false =>
    rw [hH] at hcn
    rw [hH,if_neg (by simp)] at hf
    subst hf
    simp [cbF,Col.c]
    (repeat' (first|contradiction|exact .ok|apply And.intro|intro _|(refine gc (fun h=>?_) (fun h=>?_)<;>(have h':=h;(try simp at h');first|done|simp[h,h']|simp))))
    refine acallT_plain hit (by simp) ?_
    simp
    refine acallT_plain hcn (by simp [V.a,txV]) ?_
    simp
    (repeat' (first|contradiction|exact .ok|apply And.intro|intro _|(refine gc (fun h=>?_) (fun h=>?_)<;>(have h':=h;(try simp at h');first|done|simp[h,h']|simp))))
    refine acallT_plain hit (by simp) ?_
    simp [szs C.length (by omega) 32 (by decide),szs (C.length+1) (by omega) 32 (by decide),szs (C.length+1+1) (by omega) 32 (by decide)]
    cases hb:x.b
    ·simp [hb]
     (repeat' (first|contradiction|exact .ok|apply And.intro|intro _|(refine gc (fun h=>?_) (fun h=>?_)<;>(have h':=h;(try simp at h');first|done|simp[h,h',hb]|simp[hb]))))
     all_goals (simp [V.c,txV]; try exact List.take_of_length_le (by simp))
    ·simp [hb,szs C.length (by omega) 32 (by decide),szs (C.length+1) (by omega) 32 (by decide),szs (C.length+1+1) (by omega) 32 (by decide)]
     (repeat' (first|contradiction|exact .ok|apply And.intro|intro _|(refine gc (fun h=>?_) (fun h=>?_)<;>(have h':=h;(try simp at h');first|done|simp[h,h',hb]|simp[hb]))))
     all_goals (simp [V.c,nulV,txV]; try exact List.take_of_length_le (by simp))
end Go.Proofs.Tryz
