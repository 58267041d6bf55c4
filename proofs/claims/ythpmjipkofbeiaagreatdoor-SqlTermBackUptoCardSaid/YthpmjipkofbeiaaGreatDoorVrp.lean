import Derived.Test.YthpmjipkofbeiaaGreatDoorVpp
set_option linter.all false
namespace Go.Proofs.Tryz
open Go.Ab
set_option maxRecDepth 100000
set_option maxHeartbeats 2000000
theorem find_drop {α:Type} {p:α→Bool} {l:List α} {i:Nat} {x:α} (h:l[i]?=some x):(l.drop i).find? p=if p x=true then some x else (l.drop (i+1)).find? p:=by
 obtain ⟨hi,rfl⟩:=List.getElem?_eq_some_iff.1 h
 rw [List.drop_eq_getElem_cons hi,List.find?_cons]
 split <;> simp_all
theorem V.clen (v:V):v.c.length=3:=rfl
def nOf (s:List UInt8) (i:Nat):Int:=(s.take i).foldl stepN 0
def gOf (s:List UInt8) (i:Nat):Bool:=(s.take i).any (·==45)
theorem nOf_step {s:List UInt8} {i:Nat} {c:UInt8} (h:s[i]?=some c):nOf s (i+1)=stepN (nOf s i) c:=by
 unfold nOf
 rw [List.take_add_one,h,List.foldl_append]
 rfl
theorem gOf_step {s:List UInt8} {i:Nat} {c:UInt8} (h:s[i]?=some c):gOf s (i+1)=(gOf s i||c==45):=by
 unfold gOf
 rw [List.take_add_one,h,List.any_append]
 simp
theorem cand_len (s:List UInt8):(candR s).length≤5:=by
 unfold candR
 split <;> simp
theorem eq45 (c:UInt8):((c.toNat:Int)==45)=(c==45):=by
 rw [Bool.eq_iff_iff]
 simp only [beq_iff_eq]
 constructor
 ·intro h
  have:c.toNat=45:=by omega
  exact UInt8.toNat_inj.1 this
 ·rintro rfl; rfl
theorem numR_short {s:List UInt8} (h:s.length≤14):numR s=if gOf s s.length=true then IntKind.i64.wrap (0 - nOf s s.length) else nOf s s.length:=by
 unfold numR nOf gOf
 rw [if_pos h,List.take_length]
theorem numR_long {s:List UInt8} (h:¬ s.length≤14):numR s=0:=by
 unfold numR
 rw [if_neg h]
theorem r_parse_a (s:List UInt8) (hs:s.length≤1000000) (q:2≤s.length):Cf Ev 93 [.d (.str s)] [] (.tup [(resR s).1.a,.d (.int .i64 (resR s).2)]) []:=by
 refine cf_intro mixv (fn:=Tryz.f93) (by kernel_rfl) rfl (by kernel_rfl) (by decide) (by simp) ?_
 obtain ⟨L1,hL1⟩:∃ L1:List V,L1=[nulV,⟨2,0,[]⟩,⟨2,1,[]⟩,⟨3,0,mid s⟩]:=⟨_,rfl⟩
 have hcand:L1++[⟨1,numR s,[]⟩]=candR s:=by rw [hL1]; unfold candR; rw [if_pos q]; rfl
 have hL1l:L1.length≤4:=by rw [hL1]; simp
 have q4:(2:Int)≤s.length:=by omega
 have hw:IntKind.i64.wrap ((s.length:Int) - 1)=(s.length:Int) - 1:=wrap_in (by omega) (by omega)
 have q5:(1:Int)≤(s.length:Int) - 1:=by omega
 have q6:(s.length:Int) - 1≤s.length:=by omega
 have hn:((s.length:Int) - 1).toNat=s.length - 1:=by omega
 have hmid:(s.take (s.length - 1)).tail=mid s:=by unfold mid; simp
 simp [V.a]
 (repeat refine ⟨.of (by kernel_rfl),?_⟩)
 refine acallT_plain (r_bool 0 (.inl rfl)) (by simp) ?_
 simp [V.a]
 refine acallT_plain (r_bool 1 (.inr rfl)) (by simp) ?_
 simp [V.a,q,q4,hw,q5,q6,hn,hmid]
 (repeat refine ⟨.of (by kernel_rfl),?_⟩)
 refine aloopT mixv (by decide) (fun i:Nat=>{ s:=mkS [(0,.d (.str s)),(2,.ptr 2 0 0),(3,.d (.int .i64 0)),(4,.ref 4 0 L1.length 3),(5,.d (.int .i64 (nOf s i))),(6,.d (.bool (gOf s i))),(7,.d (.int .i64 i))],b:=mkB [(2,2,.var (V.a nulV).cells),(4,4,.arr 55 3 (L1.map V.c) false)] }) (fun i:Nat=>i≤s.length∧(14<s.length→i=0)) (fun i=>s.length - i) 0 (by simp) (sub_mk _ [(2,2,_),(4,24,_)] ⟨by simp,by simp,by simp [renOf,Blk.live,V.a,nulV,hL1,V.c],by simp⟩ (by simp [renOf,hL1,nOf,gOf])) ?_
 rintro i ⟨hi,ho⟩
 have hfin:∀ N:Int,N=numR s→L1.map V.c++[[.int .i64 1,.int .i64 N,.str []]]=(candR s).map V.c:=fun N hN=>by rw [← hcand,hN]; simp [V.c]
 have hlen:L1.length+1=(candR s).length:=by rw [← hcand]; simp
 have b1:(L1.length+1)*32≤140737488355328:=by omega
 have b2:L1.length+1≤9223372036854775807:=by omega
 have hcl:=cand_len s
 by_cases h14:s.length≤14
 ·have h14':(s.length:Int)≤14:=by omega
  by_cases hlt:i<s.length
  ·have hlt':(i:Int)<s.length:=by omega
   obtain ⟨c,hg⟩:∃ c,s[i]?=some c:=⟨_,List.getElem?_eq_getElem hlt⟩
   have hgi:∀ h,s[i]'h=c:=fun h=>(List.getElem?_eq_some_iff.1 hg).2
   have hn1:=nOf_step hg
   have hg1:=gOf_step hg
   have e45:=eq45 c
   have hdig:isDig c=(decide ((48:Int)≤c.toNat)&&decide ((c.toNat:Int)≤57)):=by unfold isDig; rw [Bool.eq_iff_iff]; simp; omega
   have hwi:IntKind.i64.wrap ((i:Int)+1)=i+1:=wrap_in (by omega) (by omega)
   clear hfin hcand
   cases hD:isDig c with
   | true =>
     rw [hdig] at hD
     have d1:(48:Int)≤c.toNat:=by simp at hD; omega
     have d2:(c.toNat:Int)≤57:=by simp at hD; omega
     have hst:stepN (nOf s i) c=IntKind.i64.wrap (IntKind.i64.wrap (10*nOf s i)+IntKind.i64.wrap (IntKind.u8.wrap ((c.toNat:Int) - 48))):=by unfold stepN; rw [if_pos (by rw [hdig,hD])]
     rw [hst] at hn1
     simp [hlt,hlt',hg,hgi,h14,h14',d1,d2]
     (repeat' (first|contradiction|exact .ok|apply And.intro|intro _|(refine gc (fun h=>?_) (fun h=>?_)<;>(have h':=h;(try simp at h');first|done|simp[h,h',hlt,hlt',hg,hgi,h14,h14',d1,d2]|simp[hlt,hlt',hg,hgi,h14,h14',d1,d2]))))
     all_goals (refine ⟨i+1,⟨hlt,fun h=>by omega⟩,sub_mk _ [(2,2,_),(4,4,_)] ⟨by simp,by simp,by simp [renOf,Blk.live,V.a,nulV],by simp⟩ ?_,by simp; omega⟩)
     all_goals simp [renOf,hn1,hg1,hwi]
     all_goals simp_all
   | false =>
     have hst:stepN (nOf s i) c=nOf s i:=by unfold stepN; rw [hD]; rfl
     rw [hdig] at hD
     rw [hst] at hn1
     simp [hlt,hlt',hg,hgi,h14,h14']
     (repeat' (first|contradiction|exact .ok|apply And.intro|intro _|(refine gc (fun h=>?_) (fun h=>?_)<;>(have h':=h;(try simp at h');first|done|simp[h,h',hlt,hlt',hg,hgi,h14,h14']|simp[hlt,hlt',hg,hgi,h14,h14']))))
     all_goals first
      | (refine ⟨i+1,⟨hlt,fun h=>by omega⟩,sub_mk _ [(2,2,_),(4,4,_)] ⟨by simp,by simp,by simp [renOf,Blk.live,V.a,nulV],by simp⟩ ?_,by simp; omega⟩
         simp [renOf,hn1,hg1,hwi]
         simp_all)
      | (exfalso; simp_all; done)
      | (exfalso; simp_all; omega)
  ·obtain rfl:i=s.length:=by omega
   have hnum:=numR_short h14
   have hlt':¬ (s.length:Int)<s.length:=by omega
   obtain ⟨C,hC⟩:∃ C,C=candR s:=⟨_,rfl⟩
   cases hG:gOf s s.length with
   | true =>
     rw [hG,if_pos rfl] at hnum
     have hfin:=hfin _ hnum.symm
     rw [← hC] at hfin hlen hcl
     simp at hfin
     simp [h14,h14',b1,b2]
     (repeat refine ⟨.of (by kernel_rfl),?_⟩)
     refine aloopT mixv (by decide) (fun j:Nat=>{ s:=mkS [(0,.d (.str s)),(2,.ptr 2 0 0),(3,.d (.int .i64 0)),(4,.ref 4 0 C.length 3),(8,.d (.int .i64 j))],b:=mkB [(2,2,.var (V.a nulV).cells),(4,4,.arr 55 3 (C.map V.c) false)] }) (fun j:Nat=>j≤C.length∧(C.drop j).find? (goodB s)=C.find? (goodB s)) (fun j=>C.length - j) 0 (by simp) (sub_mk _ [(2,2,_),(4,68,_)] ⟨by simp,by simp,by simp [renOf,Blk.live,V.a,nulV,hfin],by simp⟩ (by simp [renOf,hlen])) ?_
     clear hfin hlen hcand hL1 hL1l
     rintro j ⟨hj,hf⟩
     by_cases hlt2:j<C.length
     ·have hlt2':(j:Int)<C.length:=by omega
      obtain ⟨x,hx⟩:∃ x,C[j]?=some x:=⟨_,List.getElem?_eq_getElem hlt2⟩
      have hxi:∀ h,C[j]'h=x:=fun h=>(List.getElem?_eq_some_iff.1 hx).2
      rw [find_drop hx] at hf
      have e1:=upv (r_valid x)
      have e2:=r_text5 x
      have hgb:goodB s x=(x.valid&&vText x==s):=rfl
      have hhit:goodB s x=true→resR s=(x,0):=fun h=>by rw [if_pos h] at hf; unfold resR; rw [← hC,← hf]
      have hmiss:goodB s x=false→(C.drop (j+1)).find? (goodB s)=C.find? (goodB s):=fun h=>by rw [h] at hf; simpa using hf
      clear hf
      generalize x.valid=W at *
      generalize vText x=T at *
      cases W with
      | false =>
        have hmiss:=hmiss (by rw [hgb]; rfl)
        simp [hlt2,hlt2',hx,hxi,V.c,V.a,nulV]
        (repeat refine ⟨.of (by kernel_rfl),?_⟩)
        refine acallT_plain e1 (by simp [V.a]) ?_
        simp
        (repeat refine ⟨.of (by kernel_rfl),?_⟩)
        refine ⟨j+1,⟨hlt2,hmiss⟩,sub_mk _ [(2,2,_),(4,4,_)] ⟨by simp,by simp,by simp [renOf,Blk.live,V.a,nulV,V.c],by simp⟩ ?_,by simp; omega⟩
        simp [renOf]
        exact wrap_in (by omega) (by omega)
      | true =>
        by_cases hTs:T=s
        ·have hhit:=hhit (by rw [hgb,hTs]; simp)
         rw [hhit]
         simp [hlt2,hlt2',hx,hxi,V.c,V.a,nulV]
         (repeat refine ⟨.of (by kernel_rfl),?_⟩)
         refine acallT_plain e1 (by simp [V.a]) ?_
         simp [hlt2,hlt2',hx,hxi,V.c,V.a,nulV]
         refine acallT_plain e2 (by simp [V.a]) ?_
         simp [hlt2,hlt2',hx,hxi,V.c,V.a,nulV,hTs]
         all_goals exact gz
        ·have hmiss:=hmiss (by rw [hgb]; simpa using hTs)
         simp [hlt2,hlt2',hx,hxi,V.c,V.a,nulV]
         (repeat refine ⟨.of (by kernel_rfl),?_⟩)
         refine acallT_plain e1 (by simp [V.a]) ?_
         simp [hlt2,hlt2',hx,hxi,V.c,V.a,nulV]
         refine acallT_plain e2 (by simp [V.a]) ?_
         simp [hlt2,hlt2',hx,hxi,V.c,V.a,nulV,hTs]
         (repeat refine ⟨.of (by kernel_rfl),?_⟩)
         refine ⟨j+1,⟨hlt2,hmiss⟩,sub_mk _ [(2,2,_),(4,4,_)] ⟨by simp,by simp,by simp [renOf,Blk.live,V.a,nulV,V.c],by simp⟩ ?_,by simp; omega⟩
         simp [renOf]
         exact wrap_in (by omega) (by omega)
     ·have hlt2':¬ (j:Int)<C.length:=by omega
      have hrr:resR s=(nulV,2):=by
       unfold resR
       rw [← hC,← hf,List.drop_eq_nil_of_le (by omega)]
       rfl
      rw [hrr]
      simp [hlt2,hlt2',V.a,nulV,V.c]
      all_goals exact gz
   | false =>
     rw [hG] at hnum
     simp only [Bool.false_eq_true,if_false] at hnum
     have hfin:=hfin _ hnum.symm
     rw [← hC] at hfin hlen hcl
     simp [h14,h14',b1,b2]
     (repeat refine ⟨.of (by kernel_rfl),?_⟩)
     refine aloopT mixv (by decide) (fun j:Nat=>{ s:=mkS [(0,.d (.str s)),(2,.ptr 2 0 0),(3,.d (.int .i64 0)),(4,.ref 4 0 C.length 3),(8,.d (.int .i64 j))],b:=mkB [(2,2,.var (V.a nulV).cells),(4,4,.arr 55 3 (C.map V.c) false)] }) (fun j:Nat=>j≤C.length∧(C.drop j).find? (goodB s)=C.find? (goodB s)) (fun j=>C.length - j) 0 (by simp) (sub_mk _ [(2,2,_),(4,68,_)] ⟨by simp,by simp,by simp [renOf,Blk.live,V.a,nulV,hfin],by simp⟩ (by simp [renOf,hlen])) ?_
     clear hfin hlen hcand hL1 hL1l
     rintro j ⟨hj,hf⟩
     by_cases hlt2:j<C.length
     ·have hlt2':(j:Int)<C.length:=by omega
      obtain ⟨x,hx⟩:∃ x,C[j]?=some x:=⟨_,List.getElem?_eq_getElem hlt2⟩
      have hxi:∀ h,C[j]'h=x:=fun h=>(List.getElem?_eq_some_iff.1 hx).2
      rw [find_drop hx] at hf
      have e1:=upv (r_valid x)
      have e2:=r_text5 x
      have hgb:goodB s x=(x.valid&&vText x==s):=rfl
      have hhit:goodB s x=true→resR s=(x,0):=fun h=>by rw [if_pos h] at hf; unfold resR; rw [← hC,← hf]
      have hmiss:goodB s x=false→(C.drop (j+1)).find? (goodB s)=C.find? (goodB s):=fun h=>by rw [h] at hf; simpa using hf
      clear hf
      generalize x.valid=W at *
      generalize vText x=T at *
      cases W with
      | false =>
        have hmiss:=hmiss (by rw [hgb]; rfl)
        simp [hlt2,hlt2',hx,hxi,V.c,V.a,nulV]
        (repeat refine ⟨.of (by kernel_rfl),?_⟩)
        refine acallT_plain e1 (by simp [V.a]) ?_
        simp
        (repeat refine ⟨.of (by kernel_rfl),?_⟩)
        refine ⟨j+1,⟨hlt2,hmiss⟩,sub_mk _ [(2,2,_),(4,4,_)] ⟨by simp,by simp,by simp [renOf,Blk.live,V.a,nulV,V.c],by simp⟩ ?_,by simp; omega⟩
        simp [renOf]
        exact wrap_in (by omega) (by omega)
      | true =>
        by_cases hTs:T=s
        ·have hhit:=hhit (by rw [hgb,hTs]; simp)
         rw [hhit]
         simp [hlt2,hlt2',hx,hxi,V.c,V.a,nulV]
         (repeat refine ⟨.of (by kernel_rfl),?_⟩)
         refine acallT_plain e1 (by simp [V.a]) ?_
         simp [hlt2,hlt2',hx,hxi,V.c,V.a,nulV]
         refine acallT_plain e2 (by simp [V.a]) ?_
         simp [hlt2,hlt2',hx,hxi,V.c,V.a,nulV,hTs]
         all_goals exact gz
        ·have hmiss:=hmiss (by rw [hgb]; simpa using hTs)
         simp [hlt2,hlt2',hx,hxi,V.c,V.a,nulV]
         (repeat refine ⟨.of (by kernel_rfl),?_⟩)
         refine acallT_plain e1 (by simp [V.a]) ?_
         simp [hlt2,hlt2',hx,hxi,V.c,V.a,nulV]
         refine acallT_plain e2 (by simp [V.a]) ?_
         simp [hlt2,hlt2',hx,hxi,V.c,V.a,nulV,hTs]
         (repeat refine ⟨.of (by kernel_rfl),?_⟩)
         refine ⟨j+1,⟨hlt2,hmiss⟩,sub_mk _ [(2,2,_),(4,4,_)] ⟨by simp,by simp,by simp [renOf,Blk.live,V.a,nulV,V.c],by simp⟩ ?_,by simp; omega⟩
         simp [renOf]
         exact wrap_in (by omega) (by omega)
     ·have hlt2':¬ (j:Int)<C.length:=by omega
      have hrr:resR s=(nulV,2):=by
       unfold resR
       rw [← hC,← hf,List.drop_eq_nil_of_le (by omega)]
       rfl
      rw [hrr]
      simp [hlt2,hlt2',V.a,nulV,V.c]
      all_goals exact gz
 ·have h14':¬ (s.length:Int)≤14:=by omega
  obtain rfl:i=0:=ho (by omega)
  have hnum:=numR_long h14
  have hfin:=hfin 0 hnum.symm
  obtain ⟨C,hC⟩:∃ C,C=candR s:=⟨_,rfl⟩
  rw [← hC] at hfin hlen hcl
  have hz:nOf s 0=0:=rfl
  have hzg:gOf s 0=false:=rfl
  have hpos:(0:Int)<s.length:=by omega
  have hpos':0<s.length:=by omega
  simp [h14,h14',b1,b2,hz,hzg,hpos,hpos']
  (repeat refine ⟨.of (by kernel_rfl),?_⟩)
  refine aloopT mixv (by decide) (fun j:Nat=>{ s:=mkS [(0,.d (.str s)),(2,.ptr 2 0 0),(3,.d (.int .i64 0)),(4,.ref 4 0 C.length 3),(8,.d (.int .i64 j))],b:=mkB [(2,2,.var (V.a nulV).cells),(4,4,.arr 55 3 (C.map V.c) false)] }) (fun j:Nat=>j≤C.length∧(C.drop j).find? (goodB s)=C.find? (goodB s)) (fun j=>C.length - j) 0 (by simp) (sub_mk _ [(2,2,_),(4,68,_)] ⟨by simp,by simp,by simp [renOf,Blk.live,V.a,nulV,hfin],by simp⟩ (by simp [renOf,hlen])) ?_
  clear hfin hlen hcand hL1 hL1l
  rintro j ⟨hj,hf⟩
  by_cases hlt2:j<C.length
  ·have hlt2':(j:Int)<C.length:=by omega
   obtain ⟨x,hx⟩:∃ x,C[j]?=some x:=⟨_,List.getElem?_eq_getElem hlt2⟩
   have hxi:∀ h,C[j]'h=x:=fun h=>(List.getElem?_eq_some_iff.1 hx).2
   rw [find_drop hx] at hf
   have e1:=upv (r_valid x)
   have e2:=r_text5 x
   have hgb:goodB s x=(x.valid&&vText x==s):=rfl
   have hhit:goodB s x=true→resR s=(x,0):=fun h=>by rw [if_pos h] at hf; unfold resR; rw [← hC,← hf]
   have hmiss:goodB s x=false→(C.drop (j+1)).find? (goodB s)=C.find? (goodB s):=fun h=>by rw [h] at hf; simpa using hf
   clear hf
   generalize x.valid=W at *
   generalize vText x=T at *
   cases W with
   | false =>
     have hmiss:=hmiss (by rw [hgb]; rfl)
     simp [hlt2,hlt2',hx,hxi,V.c,V.a,nulV]
     (repeat refine ⟨.of (by kernel_rfl),?_⟩)
     refine acallT_plain e1 (by simp [V.a]) ?_
     simp
     (repeat refine ⟨.of (by kernel_rfl),?_⟩)
     refine ⟨j+1,⟨hlt2,hmiss⟩,sub_mk _ [(2,2,_),(4,4,_)] ⟨by simp,by simp,by simp [renOf,Blk.live,V.a,nulV,V.c],by simp⟩ ?_,by simp; omega⟩
     simp [renOf]
     exact wrap_in (by omega) (by omega)
   | true =>
     by_cases hTs:T=s
     ·have hhit:=hhit (by rw [hgb,hTs]; simp)
      rw [hhit]
      simp [hlt2,hlt2',hx,hxi,V.c,V.a,nulV]
      (repeat refine ⟨.of (by kernel_rfl),?_⟩)
      refine acallT_plain e1 (by simp [V.a]) ?_
      simp [hlt2,hlt2',hx,hxi,V.c,V.a,nulV]
      refine acallT_plain e2 (by simp [V.a]) ?_
      simp [hlt2,hlt2',hx,hxi,V.c,V.a,nulV,hTs]
      all_goals exact gz
     ·have hmiss:=hmiss (by rw [hgb]; simpa using hTs)
      simp [hlt2,hlt2',hx,hxi,V.c,V.a,nulV]
      (repeat refine ⟨.of (by kernel_rfl),?_⟩)
      refine acallT_plain e1 (by simp [V.a]) ?_
      simp [hlt2,hlt2',hx,hxi,V.c,V.a,nulV]
      refine acallT_plain e2 (by simp [V.a]) ?_
      simp [hlt2,hlt2',hx,hxi,V.c,V.a,nulV,hTs]
      (repeat refine ⟨.of (by kernel_rfl),?_⟩)
      refine ⟨j+1,⟨hlt2,hmiss⟩,sub_mk _ [(2,2,_),(4,4,_)] ⟨by simp,by simp,by simp [renOf,Blk.live,V.a,nulV,V.c],by simp⟩ ?_,by simp; omega⟩
      simp [renOf]
      exact wrap_in (by omega) (by omega)
  ·have hlt2':¬ (j:Int)<C.length:=by omega
   have hrr:resR s=(nulV,2):=by
    unfold resR
    rw [← hC,← hf,List.drop_eq_nil_of_le (by omega)]
    rfl
   rw [hrr]
   simp [hlt2,hlt2',V.a,nulV,V.c]
   all_goals exact gz
theorem r_parse_b (s:List UInt8) (hs:s.length≤1000000) (q:¬ 2≤s.length):Cf Ev 93 [.d (.str s)] [] (.tup [(resR s).1.a,.d (.int .i64 (resR s).2)]) []:=by
 refine cf_intro mixv (fn:=Tryz.f93) (by kernel_rfl) rfl (by kernel_rfl) (by decide) (by simp) ?_
 obtain ⟨L1,hL1⟩:∃ L1:List V,L1=[nulV,⟨2,0,[]⟩,⟨2,1,[]⟩]:=⟨_,rfl⟩
 have hcand:L1++[⟨1,numR s,[]⟩]=candR s:=by rw [hL1]; unfold candR; rw [if_neg q]; rfl
 have hL1l:L1.length≤4:=by rw [hL1]; simp
 have q4:¬ (2:Int)≤s.length:=by omega
 simp [V.a]
 (repeat refine ⟨.of (by kernel_rfl),?_⟩)
 refine acallT_plain (r_bool 0 (.inl rfl)) (by simp) ?_
 simp [V.a]
 refine acallT_plain (r_bool 1 (.inr rfl)) (by simp) ?_
 simp [V.a,q,q4]
 (repeat refine ⟨.of (by kernel_rfl),?_⟩)
 refine aloopT mixv (by decide) (fun i:Nat=>{ s:=mkS [(0,.d (.str s)),(2,.ptr 2 0 0),(3,.d (.int .i64 0)),(4,.ref 4 0 L1.length 3),(5,.d (.int .i64 (nOf s i))),(6,.d (.bool (gOf s i))),(7,.d (.int .i64 i))],b:=mkB [(2,2,.var (V.a nulV).cells),(4,4,.arr 55 3 (L1.map V.c) false)] }) (fun i:Nat=>i≤s.length∧(14<s.length→i=0)) (fun i=>s.length - i) 0 (by simp) (sub_mk _ [(2,2,_),(4,12,_)] ⟨by simp,by simp,by simp [renOf,Blk.live,V.a,nulV,hL1,V.c],by simp⟩ (by simp [renOf,hL1,nOf,gOf])) ?_
 rintro i ⟨hi,ho⟩
 have hfin:∀ N:Int,N=numR s→L1.map V.c++[[.int .i64 1,.int .i64 N,.str []]]=(candR s).map V.c:=fun N hN=>by rw [← hcand,hN]; simp [V.c]
 have hlen:L1.length+1=(candR s).length:=by rw [← hcand]; simp
 have b1:(L1.length+1)*32≤140737488355328:=by omega
 have b2:L1.length+1≤9223372036854775807:=by omega
 have hcl:=cand_len s
 by_cases h14:s.length≤14
 ·have h14':(s.length:Int)≤14:=by omega
  by_cases hlt:i<s.length
  ·have hlt':(i:Int)<s.length:=by omega
   obtain ⟨c,hg⟩:∃ c,s[i]?=some c:=⟨_,List.getElem?_eq_getElem hlt⟩
   have hgi:∀ h,s[i]'h=c:=fun h=>(List.getElem?_eq_some_iff.1 hg).2
   have hn1:=nOf_step hg
   have hg1:=gOf_step hg
   have e45:=eq45 c
   have hdig:isDig c=(decide ((48:Int)≤c.toNat)&&decide ((c.toNat:Int)≤57)):=by unfold isDig; rw [Bool.eq_iff_iff]; simp; omega
   have hwi:IntKind.i64.wrap ((i:Int)+1)=i+1:=wrap_in (by omega) (by omega)
   clear hfin hcand
   cases hD:isDig c with
   | true =>
     rw [hdig] at hD
     have d1:(48:Int)≤c.toNat:=by simp at hD; omega
     have d2:(c.toNat:Int)≤57:=by simp at hD; omega
     have hst:stepN (nOf s i) c=IntKind.i64.wrap (IntKind.i64.wrap (10*nOf s i)+IntKind.i64.wrap (IntKind.u8.wrap ((c.toNat:Int) - 48))):=by unfold stepN; rw [if_pos (by rw [hdig,hD])]
     rw [hst] at hn1
     simp [hlt,hlt',hg,hgi,h14,h14',d1,d2]
     (repeat' (first|contradiction|exact .ok|apply And.intro|intro _|(refine gc (fun h=>?_) (fun h=>?_)<;>(have h':=h;(try simp at h');first|done|simp[h,h',hlt,hlt',hg,hgi,h14,h14',d1,d2]|simp[hlt,hlt',hg,hgi,h14,h14',d1,d2]))))
     all_goals (refine ⟨i+1,⟨hlt,fun h=>by omega⟩,sub_mk _ [(2,2,_),(4,4,_)] ⟨by simp,by simp,by simp [renOf,Blk.live,V.a,nulV],by simp⟩ ?_,by simp; omega⟩)
     all_goals simp [renOf,hn1,hg1,hwi]
     all_goals simp_all
   | false =>
     have hst:stepN (nOf s i) c=nOf s i:=by unfold stepN; rw [hD]; rfl
     rw [hdig] at hD
     rw [hst] at hn1
     simp [hlt,hlt',hg,hgi,h14,h14']
     (repeat' (first|contradiction|exact .ok|apply And.intro|intro _|(refine gc (fun h=>?_) (fun h=>?_)<;>(have h':=h;(try simp at h');first|done|simp[h,h',hlt,hlt',hg,hgi,h14,h14']|simp[hlt,hlt',hg,hgi,h14,h14']))))
     all_goals first
      | (refine ⟨i+1,⟨hlt,fun h=>by omega⟩,sub_mk _ [(2,2,_),(4,4,_)] ⟨by simp,by simp,by simp [renOf,Blk.live,V.a,nulV],by simp⟩ ?_,by simp; omega⟩
         simp [renOf,hn1,hg1,hwi]
         simp_all)
      | (exfalso; simp_all; done)
      | (exfalso; simp_all; omega)
  ·obtain rfl:i=s.length:=by omega
   have hnum:=numR_short h14
   have hlt':¬ (s.length:Int)<s.length:=by omega
   obtain ⟨C,hC⟩:∃ C,C=candR s:=⟨_,rfl⟩
   cases hG:gOf s s.length with
   | true =>
     rw [hG,if_pos rfl] at hnum
     have hfin:=hfin _ hnum.symm
     rw [← hC] at hfin hlen hcl
     simp at hfin
     simp [h14,h14',b1,b2]
     (repeat refine ⟨.of (by kernel_rfl),?_⟩)
     refine aloopT mixv (by decide) (fun j:Nat=>{ s:=mkS [(0,.d (.str s)),(2,.ptr 2 0 0),(3,.d (.int .i64 0)),(4,.ref 4 0 C.length 3),(8,.d (.int .i64 j))],b:=mkB [(2,2,.var (V.a nulV).cells),(4,4,.arr 55 3 (C.map V.c) false)] }) (fun j:Nat=>j≤C.length∧(C.drop j).find? (goodB s)=C.find? (goodB s)) (fun j=>C.length - j) 0 (by simp) (sub_mk _ [(2,2,_),(4,68,_)] ⟨by simp,by simp,by simp [renOf,Blk.live,V.a,nulV,hfin],by simp⟩ (by simp [renOf,hlen])) ?_
     clear hfin hlen hcand hL1 hL1l
     rintro j ⟨hj,hf⟩
     by_cases hlt2:j<C.length
     ·have hlt2':(j:Int)<C.length:=by omega
      obtain ⟨x,hx⟩:∃ x,C[j]?=some x:=⟨_,List.getElem?_eq_getElem hlt2⟩
      have hxi:∀ h,C[j]'h=x:=fun h=>(List.getElem?_eq_some_iff.1 hx).2
      rw [find_drop hx] at hf
      have e1:=upv (r_valid x)
      have e2:=r_text5 x
      have hgb:goodB s x=(x.valid&&vText x==s):=rfl
      have hhit:goodB s x=true→resR s=(x,0):=fun h=>by rw [if_pos h] at hf; unfold resR; rw [← hC,← hf]
      have hmiss:goodB s x=false→(C.drop (j+1)).find? (goodB s)=C.find? (goodB s):=fun h=>by rw [h] at hf; simpa using hf
      clear hf
      generalize x.valid=W at *
      generalize vText x=T at *
      cases W with
      | false =>
        have hmiss:=hmiss (by rw [hgb]; rfl)
        simp [hlt2,hlt2',hx,hxi,V.c,V.a,nulV]
        (repeat refine ⟨.of (by kernel_rfl),?_⟩)
        refine acallT_plain e1 (by simp [V.a]) ?_
        simp
        (repeat refine ⟨.of (by kernel_rfl),?_⟩)
        refine ⟨j+1,⟨hlt2,hmiss⟩,sub_mk _ [(2,2,_),(4,4,_)] ⟨by simp,by simp,by simp [renOf,Blk.live,V.a,nulV,V.c],by simp⟩ ?_,by simp; omega⟩
        simp [renOf]
        exact wrap_in (by omega) (by omega)
      | true =>
        by_cases hTs:T=s
        ·have hhit:=hhit (by rw [hgb,hTs]; simp)
         rw [hhit]
         simp [hlt2,hlt2',hx,hxi,V.c,V.a,nulV]
         (repeat refine ⟨.of (by kernel_rfl),?_⟩)
         refine acallT_plain e1 (by simp [V.a]) ?_
         simp [hlt2,hlt2',hx,hxi,V.c,V.a,nulV]
         refine acallT_plain e2 (by simp [V.a]) ?_
         simp [hlt2,hlt2',hx,hxi,V.c,V.a,nulV,hTs]
         all_goals exact gz
        ·have hmiss:=hmiss (by rw [hgb]; simpa using hTs)
         simp [hlt2,hlt2',hx,hxi,V.c,V.a,nulV]
         (repeat refine ⟨.of (by kernel_rfl),?_⟩)
         refine acallT_plain e1 (by simp [V.a]) ?_
         simp [hlt2,hlt2',hx,hxi,V.c,V.a,nulV]
         refine acallT_plain e2 (by simp [V.a]) ?_
         simp [hlt2,hlt2',hx,hxi,V.c,V.a,nulV,hTs]
         (repeat refine ⟨.of (by kernel_rfl),?_⟩)
         refine ⟨j+1,⟨hlt2,hmiss⟩,sub_mk _ [(2,2,_),(4,4,_)] ⟨by simp,by simp,by simp [renOf,Blk.live,V.a,nulV,V.c],by simp⟩ ?_,by simp; omega⟩
         simp [renOf]
         exact wrap_in (by omega) (by omega)
     ·have hlt2':¬ (j:Int)<C.length:=by omega
      have hrr:resR s=(nulV,2):=by
       unfold resR
       rw [← hC,← hf,List.drop_eq_nil_of_le (by omega)]
       rfl
      rw [hrr]
      simp [hlt2,hlt2',V.a,nulV,V.c]
      all_goals exact gz
   | false =>
     rw [hG] at hnum
     simp only [Bool.false_eq_true,if_false] at hnum
     have hfin:=hfin _ hnum.symm
     rw [← hC] at hfin hlen hcl
     simp [h14,h14',b1,b2]
     (repeat refine ⟨.of (by kernel_rfl),?_⟩)
     refine aloopT mixv (by decide) (fun j:Nat=>{ s:=mkS [(0,.d (.str s)),(2,.ptr 2 0 0),(3,.d (.int .i64 0)),(4,.ref 4 0 C.length 3),(8,.d (.int .i64 j))],b:=mkB [(2,2,.var (V.a nulV).cells),(4,4,.arr 55 3 (C.map V.c) false)] }) (fun j:Nat=>j≤C.length∧(C.drop j).find? (goodB s)=C.find? (goodB s)) (fun j=>C.length - j) 0 (by simp) (sub_mk _ [(2,2,_),(4,68,_)] ⟨by simp,by simp,by simp [renOf,Blk.live,V.a,nulV,hfin],by simp⟩ (by simp [renOf,hlen])) ?_
     clear hfin hlen hcand hL1 hL1l
     rintro j ⟨hj,hf⟩
     by_cases hlt2:j<C.length
     ·have hlt2':(j:Int)<C.length:=by omega
      obtain ⟨x,hx⟩:∃ x,C[j]?=some x:=⟨_,List.getElem?_eq_getElem hlt2⟩
      have hxi:∀ h,C[j]'h=x:=fun h=>(List.getElem?_eq_some_iff.1 hx).2
      rw [find_drop hx] at hf
      have e1:=upv (r_valid x)
      have e2:=r_text5 x
      have hgb:goodB s x=(x.valid&&vText x==s):=rfl
      have hhit:goodB s x=true→resR s=(x,0):=fun h=>by rw [if_pos h] at hf; unfold resR; rw [← hC,← hf]
      have hmiss:goodB s x=false→(C.drop (j+1)).find? (goodB s)=C.find? (goodB s):=fun h=>by rw [h] at hf; simpa using hf
      clear hf
      generalize x.valid=W at *
      generalize vText x=T at *
      cases W with
      | false =>
        have hmiss:=hmiss (by rw [hgb]; rfl)
        simp [hlt2,hlt2',hx,hxi,V.c,V.a,nulV]
        (repeat refine ⟨.of (by kernel_rfl),?_⟩)
        refine acallT_plain e1 (by simp [V.a]) ?_
        simp
        (repeat refine ⟨.of (by kernel_rfl),?_⟩)
        refine ⟨j+1,⟨hlt2,hmiss⟩,sub_mk _ [(2,2,_),(4,4,_)] ⟨by simp,by simp,by simp [renOf,Blk.live,V.a,nulV,V.c],by simp⟩ ?_,by simp; omega⟩
        simp [renOf]
        exact wrap_in (by omega) (by omega)
      | true =>
        by_cases hTs:T=s
        ·have hhit:=hhit (by rw [hgb,hTs]; simp)
         rw [hhit]
         simp [hlt2,hlt2',hx,hxi,V.c,V.a,nulV]
         (repeat refine ⟨.of (by kernel_rfl),?_⟩)
         refine acallT_plain e1 (by simp [V.a]) ?_
         simp [hlt2,hlt2',hx,hxi,V.c,V.a,nulV]
         refine acallT_plain e2 (by simp [V.a]) ?_
         simp [hlt2,hlt2',hx,hxi,V.c,V.a,nulV,hTs]
         all_goals exact gz
        ·have hmiss:=hmiss (by rw [hgb]; simpa using hTs)
         simp [hlt2,hlt2',hx,hxi,V.c,V.a,nulV]
         (repeat refine ⟨.of (by kernel_rfl),?_⟩)
         refine acallT_plain e1 (by simp [V.a]) ?_
         simp [hlt2,hlt2',hx,hxi,V.c,V.a,nulV]
         refine acallT_plain e2 (by simp [V.a]) ?_
         simp [hlt2,hlt2',hx,hxi,V.c,V.a,nulV,hTs]
         (repeat refine ⟨.of (by kernel_rfl),?_⟩)
         refine ⟨j+1,⟨hlt2,hmiss⟩,sub_mk _ [(2,2,_),(4,4,_)] ⟨by simp,by simp,by simp [renOf,Blk.live,V.a,nulV,V.c],by simp⟩ ?_,by simp; omega⟩
         simp [renOf]
         exact wrap_in (by omega) (by omega)
     ·have hlt2':¬ (j:Int)<C.length:=by omega
      have hrr:resR s=(nulV,2):=by
       unfold resR
       rw [← hC,← hf,List.drop_eq_nil_of_le (by omega)]
       rfl
      rw [hrr]
      simp [hlt2,hlt2',V.a,nulV,V.c]
      all_goals exact gz
 ·have h14':¬ (s.length:Int)≤14:=by omega
  obtain rfl:i=0:=ho (by omega)
  have hnum:=numR_long h14
  have hfin:=hfin 0 hnum.symm
  obtain ⟨C,hC⟩:∃ C,C=candR s:=⟨_,rfl⟩
  rw [← hC] at hfin hlen hcl
  have hz:nOf s 0=0:=rfl
  have hzg:gOf s 0=false:=rfl
  have hpos:(0:Int)<s.length:=by omega
  have hpos':0<s.length:=by omega
  simp [h14,h14',b1,b2,hz,hzg,hpos,hpos']
  (repeat refine ⟨.of (by kernel_rfl),?_⟩)
  refine aloopT mixv (by decide) (fun j:Nat=>{ s:=mkS [(0,.d (.str s)),(2,.ptr 2 0 0),(3,.d (.int .i64 0)),(4,.ref 4 0 C.length 3),(8,.d (.int .i64 j))],b:=mkB [(2,2,.var (V.a nulV).cells),(4,4,.arr 55 3 (C.map V.c) false)] }) (fun j:Nat=>j≤C.length∧(C.drop j).find? (goodB s)=C.find? (goodB s)) (fun j=>C.length - j) 0 (by simp) (sub_mk _ [(2,2,_),(4,68,_)] ⟨by simp,by simp,by simp [renOf,Blk.live,V.a,nulV,hfin],by simp⟩ (by simp [renOf,hlen])) ?_
  clear hfin hlen hcand hL1 hL1l
  rintro j ⟨hj,hf⟩
  by_cases hlt2:j<C.length
  ·have hlt2':(j:Int)<C.length:=by omega
   obtain ⟨x,hx⟩:∃ x,C[j]?=some x:=⟨_,List.getElem?_eq_getElem hlt2⟩
   have hxi:∀ h,C[j]'h=x:=fun h=>(List.getElem?_eq_some_iff.1 hx).2
   rw [find_drop hx] at hf
   have e1:=upv (r_valid x)
   have e2:=r_text5 x
   have hgb:goodB s x=(x.valid&&vText x==s):=rfl
   have hhit:goodB s x=true→resR s=(x,0):=fun h=>by rw [if_pos h] at hf; unfold resR; rw [← hC,← hf]
   have hmiss:goodB s x=false→(C.drop (j+1)).find? (goodB s)=C.find? (goodB s):=fun h=>by rw [h] at hf; simpa using hf
   clear hf
   generalize x.valid=W at *
   generalize vText x=T at *
   cases W with
   | false =>
     have hmiss:=hmiss (by rw [hgb]; rfl)
     simp [hlt2,hlt2',hx,hxi,V.c,V.a,nulV]
     (repeat refine ⟨.of (by kernel_rfl),?_⟩)
     refine acallT_plain e1 (by simp [V.a]) ?_
     simp
     (repeat refine ⟨.of (by kernel_rfl),?_⟩)
     refine ⟨j+1,⟨hlt2,hmiss⟩,sub_mk _ [(2,2,_),(4,4,_)] ⟨by simp,by simp,by simp [renOf,Blk.live,V.a,nulV,V.c],by simp⟩ ?_,by simp; omega⟩
     simp [renOf]
     exact wrap_in (by omega) (by omega)
   | true =>
     by_cases hTs:T=s
     ·have hhit:=hhit (by rw [hgb,hTs]; simp)
      rw [hhit]
      simp [hlt2,hlt2',hx,hxi,V.c,V.a,nulV]
      (repeat refine ⟨.of (by kernel_rfl),?_⟩)
      refine acallT_plain e1 (by simp [V.a]) ?_
      simp [hlt2,hlt2',hx,hxi,V.c,V.a,nulV]
      refine acallT_plain e2 (by simp [V.a]) ?_
      simp [hlt2,hlt2',hx,hxi,V.c,V.a,nulV,hTs]
      all_goals exact gz
     ·have hmiss:=hmiss (by rw [hgb]; simpa using hTs)
      simp [hlt2,hlt2',hx,hxi,V.c,V.a,nulV]
      (repeat refine ⟨.of (by kernel_rfl),?_⟩)
      refine acallT_plain e1 (by simp [V.a]) ?_
      simp [hlt2,hlt2',hx,hxi,V.c,V.a,nulV]
      refine acallT_plain e2 (by simp [V.a]) ?_
      simp [hlt2,hlt2',hx,hxi,V.c,V.a,nulV,hTs]
      (repeat refine ⟨.of (by kernel_rfl),?_⟩)
      refine ⟨j+1,⟨hlt2,hmiss⟩,sub_mk _ [(2,2,_),(4,4,_)] ⟨by simp,by simp,by simp [renOf,Blk.live,V.a,nulV,V.c],by simp⟩ ?_,by simp; omega⟩
      simp [renOf]
      exact wrap_in (by omega) (by omega)
  ·have hlt2':¬ (j:Int)<C.length:=by omega
   have hrr:resR s=(nulV,2):=by
    unfold resR
    rw [← hC,← hf,List.drop_eq_nil_of_le (by omega)]
    rfl
   rw [hrr]
   simp [hlt2,hlt2',V.a,nulV,V.c]
   all_goals exact gz
theorem r_parse (s:List UInt8) (hs:s.length≤1000000):Cf Ev 93 [.d (.str s)] [] (.tup [(resR s).1.a,.d (.int .i64 (resR s).2)]) []:=by
 by_cases q:2≤s.length
 ·exact r_parse_a s hs q
 ·exact r_parse_b s hs q
end Go.Proofs.Tryz
