import Derived.Test.YtklnfckiabhceaaGreatDoorKSml
import Derived.Test.YtklnfckiabhceaaGreatDoorKSky
set_option linter.all false
namespace Go.Proofs.Tryz
open Go.Ab
set_option maxRecDepth 100000
set_option maxHeartbeats 2000000
def suitsG (x:Tb) (a:At):Bool:=decide (0≤a.col)&&(decide (a.col<x.cols.length)&&(!keyT x a.col &&
 if a.op=14∨a.op=15 then a.v.valid&&a.v.k==typT x a.col else if a.op=16∨a.op=17∨a.op=18∨a.op=19 then a.v.valid&&(a.v.k==1&&typT x a.col==1) else if a.op=21 then V.beq a.v nulV else if a.op=5 then V.beq a.v nulV&&typT x a.col==2 else false))
theorem r13_suits (x:Tb) (hx:x.ok) (a:At):Cf En 99 [x.a,a.a] [] (.d (.bool (suitsG x a))) []:=by
 refine cf_intro mix (fn:=Tryz.f99) (by kernel_rfl) rfl (by kernel_rfl) (by decide) (by simp) ?_
 unfold suitsG
 by_cases h1:a.col<0
 ·have h1':¬ 0≤a.col:=by omega
  simp [Tb.a,Tb.c,At.a,At.c,h1,h1']
  (repeat' (first|contradiction|exact .ok|apply And.intro|intro _|(refine gc (fun h=>?_) (fun h=>?_)<;>(have h':=h;(try simp at h');first|done|simp[h,h',h1]|simp[h1]))))
 have h1':0≤a.col:=by omega
 by_cases h2:(x.cols.length:Int)≤a.col
 ·have h2':¬ a.col<x.cols.length:=by omega
  simp [Tb.a,Tb.c,At.a,At.c,h1,h1',h2,h2']
  (repeat' (first|contradiction|exact .ok|apply And.intro|intro _|(refine gc (fun h=>?_) (fun h=>?_)<;>(have h':=h;(try simp at h');first|done|simp[h,h',h1,h2]|simp[h1,h2]))))
 have h2':a.col<x.cols.length:=by omega
 have hk:=r_key x hx a.col
 obtain ⟨u,hu⟩:∃ u,u=x.cols[a.col.toNat]:=⟨_,rfl⟩
 have hgu:∀ h,x.cols[a.col.toNat]'h=u:=fun _=>hu.symm
 have hty:typT x a.col=u.t:=by unfold typT; rw [List.getElem?_eq_getElem (by omega),← hu]; rfl
 rw [hty]
 simp [Tb.a,Tb.c,At.a,At.c,h1,h1',h2,h2']
 (repeat' (first|contradiction|exact .ok|apply And.intro|intro _|(refine gc (fun h=>?_) (fun h=>?_)<;>(have h':=h;(try simp at h');first|done|simp[h,h',h1,h2]|simp[h1,h2]))))
 refine acallT_plain hk (by simp [Tb.a,Tb.c]) ?_
 generalize keyT x a.col=K at *
 cases K with
 | true =>
   simp
   all_goals exact gz
 | false =>
   have hlt:a.col.toNat<x.cols.length:=by omega
   have hv:=r_valid a.v
   have hne:V.beq a.v nulV=(a.v.k==0&&(a.v.n==0&&a.v.t==[])):=rfl
   by_cases h14:a.op=14
   ·simp [h1',h2',hlt,hgu,Col.c,h14]
    (repeat' (first|contradiction|exact .ok|apply And.intro|intro _|(refine gc (fun h=>?_) (fun h=>?_)<;>(have h':=h;(try simp at h');first|done|simp[h,h',h1',h2',hlt,hgu,h14]|simp[h1',h2',hlt,hgu,h14]))))
    refine acallT_plain hv (by simp [V.a]) ?_
    generalize a.v.valid=B at *
    cases B
    ·simp
     all_goals exact gz
    ·simp [h1',h2',hlt,hgu,Col.c]
     all_goals exact gz
   by_cases h15:a.op=15
   ·simp [h1',h2',hlt,hgu,Col.c,h14,h15]
    (repeat' (first|contradiction|exact .ok|apply And.intro|intro _|(refine gc (fun h=>?_) (fun h=>?_)<;>(have h':=h;(try simp at h');first|done|simp[h,h',h1',h2',hlt,hgu,h14,h15]|simp[h1',h2',hlt,hgu,h14,h15]))))
    refine acallT_plain hv (by simp [V.a]) ?_
    generalize a.v.valid=B at *
    cases B
    ·simp
     all_goals exact gz
    ·simp [h1',h2',hlt,hgu,Col.c]
     all_goals exact gz
   by_cases h16:a.op=16∨a.op=17∨a.op=18∨a.op=19
   ·have hn14:¬ (a.op=14∨a.op=15):=by omega
    rw [if_neg hn14,if_pos h16]
    rcases h16 with h | h | h | h
    all_goals (
     simp [h1',h2',hlt,hgu,Col.c,h]
     (repeat' (first|contradiction|exact .ok|apply And.intro|intro _|(refine gc (fun h=>?_) (fun h=>?_)<;>(have h':=h;(try simp at h');first|done|simp[h,h',h1',h2',hlt,hgu,h]|simp[h1',h2',hlt,hgu,h]))))
     refine acallT_plain hv (by simp [V.a]) ?_
     generalize a.v.valid=B at *
     cases B with
     | false =>
       simp
       all_goals exact gz
     | true =>
       by_cases hk1:a.v.k=1
       ·simp [hk1]
        (repeat' (first|contradiction|exact .ok|apply And.intro|intro _|(refine gc (fun h=>?_) (fun h=>?_)<;>(have h':=h;(try simp at h');first|done|simp[h,h',hk1]|simp[hk1]))))
        all_goals (try simp [h1',h2'])
       ·simp [hk1]
        (repeat' (first|contradiction|exact .ok|apply And.intro|intro _|(refine gc (fun h=>?_) (fun h=>?_)<;>(have h':=h;(try simp at h');first|done|simp[h,h',hk1]|simp[hk1]))))
        all_goals (try simp [h1',h2']))
   have n16:¬ a.op=16:=fun h=>h16 (.inl h)
   have n17:¬ a.op=17:=fun h=>h16 (.inr (.inl h))
   have n18:¬ a.op=18:=fun h=>h16 (.inr (.inr (.inl h)))
   have n19:¬ a.op=19:=fun h=>h16 (.inr (.inr (.inr h)))
   rw [if_neg (by omega),if_neg h16]
   by_cases h21:a.op=21
   ·rw [if_pos h21,hne]
    simp [h1',h2',hlt,hgu,Col.c,h14,h15,n16,n17,n18,n19,h21]
    (repeat' (first|contradiction|exact .ok|apply And.intro|intro _|(refine gc (fun h=>?_) (fun h=>?_)<;>(have h':=h;(try simp at h');first|done|simp[h,h',h1',h2',hlt,hgu,h14,h15,n16,n17,n18,n19,h21]|simp[h1',h2',hlt,hgu,h14,h15,n16,n17,n18,n19,h21]))))
   by_cases h5:a.op=5
   ·rw [if_neg h21,if_pos h5,hne]
    by_cases e1:a.v.k=0∧a.v.n=0∧a.v.t=[]
    ·obtain ⟨e1,e2,e3⟩:=e1
     simp [h1',h2',hlt,hgu,Col.c,h14,h15,n16,n17,n18,n19,h21,h5,e1,e2,e3]
     (repeat' (first|contradiction|exact .ok|apply And.intro|intro _|(refine gc (fun h=>?_) (fun h=>?_)<;>(have h':=h;(try simp at h');first|done|simp[h,h',h1',h2',hlt,hgu,h14,h15,n16,n17,n18,n19,h21,h5,e1,e2,e3]|simp[h1',h2',hlt,hgu,h14,h15,n16,n17,n18,n19,h21,h5,e1,e2,e3]))))
    ·have e2:(a.v.k==0&&(a.v.n==0&&a.v.t==[]))=false:=by
      cases hq:(a.v.k==0&&(a.v.n==0&&a.v.t==[])) with
      | false=>rfl
      | true=>exfalso; apply e1; simpa using hq
     simp [h1',h2',hlt,hgu,Col.c,h14,h15,n16,n17,n18,n19,h21,h5,e2]
     (repeat' (first|contradiction|exact .ok|apply And.intro|intro _|(refine gc (fun h=>?_) (fun h=>?_)<;>(have h':=h;(try simp at h');first|done|simp[h,h',h1',h2',hlt,hgu,h14,h15,n16,n17,n18,n19,h21,h5,e2]|simp[h1',h2',hlt,hgu,h14,h15,n16,n17,n18,n19,h21,h5,e2]))))
   rw [if_neg h21,if_neg h5]
   simp [h1',h2',hlt,hgu,Col.c,h14,h15,n16,n17,n18,n19,h21,h5]
   (repeat' (first|contradiction|exact .ok|apply And.intro|intro _|(refine gc (fun h=>?_) (fun h=>?_)<;>(have h':=h;(try simp at h');first|done|simp[h,h',h1',h2',hlt,hgu,h14,h15,n16,n17,n18,n19,h21,h5]|simp[h1',h2',hlt,hgu,h14,h15,n16,n17,n18,n19,h21,h5]))))
def allF (f:Nat→Bool):Nat→Nat→Bool
 | 0,_=>true
 | m+1,i=>f i&&allF f m (i+1)
def suitAt (x:Tb) (l:List At) (i:Nat):Bool:=match l[i]? with
 | none=>true
 | some a=>suitsG x a&&(match i with
   | 0=>true
   | k+1=>match l[k]? with
     | none=>true
     | some b=>decide (b.cmp a<0))
def suitG (x:Tb) (l:List At):Bool:=allF (suitAt x l) l.length 0
theorem r13_suit (x:Tb) (hx:x.ok) (l:List At) (hl:l.length≤1000):Cf En 57 [x.a,.d (.sl (l.map At.c))] [] (.d (.bool (suitG x l))) []:=by
 refine cf_intro mix (fn:=Tryz.f57) (by kernel_rfl) rfl (by kernel_rfl) (by decide) (by simp) ?_
 unfold suitG
 obtain ⟨T,hT⟩:∃ T,T=allF (suitAt x l) l.length 0:=⟨_,rfl⟩
 rw [← hT]
 simp [Tb.a]
 (repeat' (first|contradiction|exact .ok|apply And.intro|intro _|(refine gc (fun h=>?_) (fun h=>?_)<;>(have h':=h;(try simp at h');first|done|simp[h,h']|simp))))
 refine aloopT mix (by decide) (fun i:Nat=>{ s:=mkS [(1,.d (.sl (l.map At.c))),(2,.ptr 2 0 0),(5,.d (.int .i64 i))],b:=mkB [(2,2,.var (x.c.map AV.d))] }) (fun i=>i≤l.length∧allF (suitAt x l) (l.length - i) i=T) (fun i=>l.length - i) 0 ⟨by simp,by simp [hT]⟩ (sub_mk _ [(2,2,_)] ⟨by simp,by simp,by simp [renOf,Blk.live],by simp⟩ (by simp [renOf])) ?_
 rintro i ⟨hi,hf⟩
 by_cases hlt:i<l.length
 ·obtain ⟨m,hm⟩:∃ m,l.length - i=m+1:=⟨l.length - i - 1,by omega⟩
  rw [hm,allF] at hf
  have hm2:l.length - (i+1)=m:=by omega
  obtain ⟨a,ha⟩:∃ a,a=l[i]:=⟨_,rfl⟩
  have hga:∀ h,l[i]'h=a:=fun _=>ha.symm
  have hga2:l[i]?=some a:=by rw [List.getElem?_eq_getElem hlt,← ha]
  have hs:=r13_suits x hx a
  have hw:=wrap_in (n:=(i:Int)+1) (by omega) (by omega)
  have hsa:suitAt x l i=(suitsG x a&&(match i with
   | 0=>true
   | k+1=>match l[k]? with
     | none=>true
     | some b=>decide (b.cmp a<0))):=by unfold suitAt; rw [hga2]
  rw [hsa] at hf
  clear hsa
  generalize suitsG x a=B at *
  simp [hlt,hga,At.c,Tb.c]
  (repeat' (first|contradiction|exact .ok|apply And.intro|intro _|(refine gc (fun h=>?_) (fun h=>?_)<;>(have h':=h;(try simp at h');first|done|simp[h,h']|simp))))
  refine acallT_plain hs (by simp [At.a,At.c,Tb.a,Tb.c]) ?_
  cases B with
  | false =>
    simp only [Bool.false_and] at hf
    simp [← hf]
    all_goals exact gz
  | true =>
    cases i with
    | zero =>
      simp only [Bool.true_and] at hf
      simp
      (repeat' (first|contradiction|exact .ok|apply And.intro|intro _|(refine gc (fun h=>?_) (fun h=>?_)<;>(have h':=h;(try simp at h');first|done|simp[h,h']|simp))))
      refine ⟨1,⟨by omega,by rw [hm2]; exact hf⟩,?_,by simp; omega⟩
      exact sub_mk _ [(2,2,_)] ⟨by simp,by simp,by simp [renOf,Blk.live,Tb.c],by simp⟩ (by simp [renOf]; exact wrap_in (by omega) (by omega))
    | succ k =>
      obtain ⟨b,hb⟩:∃ a,a=l[k]'(by omega):=⟨_,rfl⟩
      have hgb:∀ h,l[k]'h=b:=fun _=>hb.symm
      have hgb2:l[k]?=some b:=by rw [List.getElem?_eq_getElem (by omega),← hb]
      simp only [hgb2] at hf
      have hc:=r13_cmp b a
      have hkl:k<l.length:=by omega
      have hwk:=wrap_in (n:=(k:Int)) (by omega) (by omega)
      have hki:(k:Int)+1 - 1=k:=by omega
      have hp:(0:Int)<(k:Int)+1:=by omega
      simp [hlt,hga,hgb,hkl,At.c,hp,hwk,hki,show (0:Int)≤(k:Int)+1 from by omega]
      (repeat' (first|contradiction|exact .ok|apply And.intro|intro _|(refine gc (fun h=>?_) (fun h=>?_)<;>(have h':=h;(try simp at h');first|done|simp[h,h',hp]|simp[hp]))))
      refine acallT_plain hc (by simp [At.a,At.c]) ?_
      generalize b.cmp a=C at *
      by_cases h0:0≤C
      ·have hn:¬ C<0:=by omega
       have hT2:T=false:=by rw [← hf]; simp [hn]
       simp [h0,hT2]
       (repeat' (first|contradiction|exact .ok|apply And.intro|intro _|(refine gc (fun h=>?_) (fun h=>?_)<;>(have h':=h;(try simp at h');first|done|simp[h,h',h0]|simp[h0]))))
      ·have hn:C<0:=by omega
       have hT2:allF (suitAt x l) m (k+1+1)=T:=by rw [← hf]; simp [hn]
       have hw2:=wrap_in (n:=(k:Int)+1+1) (by omega) (by omega)
       simp [h0]
       (repeat' (first|contradiction|exact .ok|apply And.intro|intro _|(refine gc (fun h=>?_) (fun h=>?_)<;>(have h':=h;(try simp at h');first|done|simp[h,h',h0]|simp[h0]))))
       refine ⟨k+1+1,⟨by omega,by rw [hm2]; exact hT2⟩,?_,by simp; omega⟩
       exact sub_mk _ [(2,2,_)] ⟨by simp,by simp,by simp [renOf,Blk.live,Tb.c],by simp⟩ (by simp [renOf,hw2])
 obtain rfl:i=l.length:=by omega
 rw [Nat.sub_self,allF] at hf
 simp [← hf]
 all_goals exact gz
end Go.Proofs.Tryz
