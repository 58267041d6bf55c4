import Derived.Test.YtklnfckiabhceaaGreatDoorSuu
import Derived.Test.YtklnfckiabhceaaGreatDoorKSml
import Derived.Test.YtklnfckiabhceaaGreatDoorKFil
import Derived.Test.YtklnfckiabhceaaGreatDoorAbB
import Derived.Test.YtklnfckiabhceaaGreatDoorKGoo
import Derived.Test.YtklnfckiabhceaaGreatDoorKOfr
import Derived.Test.YtklnfckiabhceaaGreatDoorKRgc
import Derived.Test.YtklnfckiabhceaaGreatDoorKSky
import Derived.Test.YtklnfckiabhceaaGreatDoorKOrd2
set_option linter.all false
namespace Go.Proofs.Tryz
open Go.Ab
set_option maxRecDepth 100000
set_option maxHeartbeats 4000000
def readyG (S:List Tb) (t:Int) (l:List At) (n:Nat):Bool:=plainS S&&(decide (0≤t)&&(decide (t<S.length)&&(suitG (tabO S t.toNat) l&&decide (n=(tabO S t.toNat).fk.length))))
theorem p13_ready (S:List Tb) (h:FillOk S) (t:Int) (l:List At) (hl:l.length≤1000) (P:List (List D)) :
  Cf Es 42 [schA S,.d (.int .i64 t),.d (.sl (l.map At.c)),.d (.sl P)] [] (.d (.bool (readyG S t l P.length))) []:=by
 refine cf_intro mixs (fn:=Tryz.f42) (by kernel_rfl) rfl (by kernel_rfl) (by decide) (by simp) ?_
 have hpl:=p_PlainA h.ok
 unfold readyG
 cases hP:plainS S with
 | false =>
   rw [hP] at hpl
   simp [schA]
   (repeat' (first|contradiction|exact .ok|apply And.intro|intro _|(refine gc (fun h=>?_) (fun h=>?_)<;>(have h':=h;(try simp at h');first|done|simp[h,h']|simp))))
   refine acallT_plain hpl (by simp [schA]) ?_
   simp
   all_goals exact gz
 | true =>
 rw [hP] at hpl
 by_cases n1:t<0
 ·have n1':¬ 0≤t:=by omega
  simp [schA]
  (repeat' (first|contradiction|exact .ok|apply And.intro|intro _|(refine gc (fun h=>?_) (fun h=>?_)<;>(have h':=h;(try simp at h');first|done|simp[h,h']|simp))))
  refine acallT_plain hpl (by simp [schA]) ?_
  simp [n1,n1']
  (repeat' (first|contradiction|exact .ok|apply And.intro|intro _|(refine gc (fun h=>?_) (fun h=>?_)<;>(have h':=h;(try simp at h');first|done|simp[h,h',n1]|simp[n1]))))
 have n1':0≤t:=by omega
 obtain ⟨k,rfl⟩:∃ k:Nat,t=k:=⟨t.toNat,by omega⟩
 rw [Int.toNat_natCast]
 by_cases n2:(S.length:Int)≤k
 ·have n2':¬ (k:Int)<S.length:=by omega
  have n2n:¬ k<S.length:=by omega
  simp [schA]
  (repeat' (first|contradiction|exact .ok|apply And.intro|intro _|(refine gc (fun h=>?_) (fun h=>?_)<;>(have h':=h;(try simp at h');first|done|simp[h,h']|simp))))
  refine acallT_plain hpl (by simp [schA]) ?_
  simp [n1,n2,n2',n2n]
  (repeat' (first|contradiction|exact .ok|apply And.intro|intro _|(refine gc (fun h=>?_) (fun h=>?_)<;>(have h':=h;(try simp at h');first|done|simp[h,h',n1,n2]|simp[n1,n2]))))
 have hk:k<S.length:=by omega
 have hki:(k:Int)<S.length:=by omega
 obtain ⟨x,hx⟩:∃ u,u=S[k]:=⟨_,rfl⟩
 have hgx:∀ h,S[k]'h=x:=fun _=>hx.symm
 have htab:tabO S k=x:=by unfold tabO; rw [List.getElem?_eq_getElem hk,← hx]; rfl
 have hxm:x∈S:=by rw [hx]; exact List.getElem_mem hk
 have hxo:=h.ok.ok x hxm
 have hxt:=h.ty x hxm
 rw [htab]
 unfold suitG
 obtain ⟨T,hT⟩:∃ T,T=allF (suitAt x l) l.length 0:=⟨_,rfl⟩
 rw [← hT]
 simp [schA]
 (repeat' (first|contradiction|exact .ok|apply And.intro|intro _|(refine gc (fun h=>?_) (fun h=>?_)<;>(have h':=h;(try simp at h');first|done|simp[h,h']|simp))))
 refine acallT_plain hpl (by simp [schA]) ?_
 simp [n1,n2,hk,hki,hgx,Tb.c]
 (repeat' (first|contradiction|exact .ok|apply And.intro|intro _|(refine gc (fun h=>?_) (fun h=>?_)<;>(have h':=h;(try simp at h');first|done|simp[h,h',n1,n2]|simp[n1,n2]))))
 refine aloopT mixs (by decide) (fun i:Nat=>{ s:=mkS [(2,.d (.sl (l.map At.c))),(3,.d (.sl P)),(9,.ptr 9 0 0),(31,.d (.sl (l.map At.c))),(32,.d (.int .i64 l.length)),(33,.d (.int .i64 i))],b:=mkB [(9,9,.var (x.c.map AV.d))] }) (fun i=>i≤l.length∧allF (suitAt x l) (l.length - i) i=T) (fun i=>l.length - i) 0 ⟨by simp,by simp [hT]⟩ (sub_mk _ [(9,9,_)] ⟨by simp,by simp,by simp [renOf,Blk.live,Tb.c],by simp⟩ (by simp [renOf])) ?_
 clear hT
 rintro i ⟨hi,hf⟩
 by_cases hlt:i<l.length
 ·obtain ⟨m,hm⟩:∃ m,l.length - i=m+1:=⟨l.length - i - 1,by omega⟩
  rw [hm,allF] at hf
  have hm2:l.length - (i+1)=m:=by omega
  obtain ⟨a,ha⟩:∃ a,a=l[i]:=⟨_,rfl⟩
  have hga:∀ h,l[i]'h=a:=fun _=>ha.symm
  have hga2:l[i]?=some a:=by rw [List.getElem?_eq_getElem hlt,← ha]
  have hs:=ups (p13_suits x hxo hxt a)
  have hw:=wrap_in (n:=(i:Int)+1) (by omega) (by omega)
  have hsa:suitAt x l i=(suitsG x a&&(match i with
   | 0=>true
   | k+1=>match l[k]? with
     | none=>true
     | some b=>decide (b.cmp a<0))):=by unfold suitAt; rw [hga2]; rfl
  rw [hsa] at hf
  clear hsa
  generalize suitsG x a=B at *
  simp [hlt,hga,At.c,Tb.c]
  (repeat' (first|contradiction|exact .ok|apply And.intro|intro _|(refine gc (fun h=>?_) (fun h=>?_)<;>(have h':=h;(try simp at h');first|done|simp[h,h']|simp))))
  refine acallT_plain hs (by simp [At.a,At.c,Tb.a,Tb.c]) ?_
  cases B with
  | false =>
    simp only [Bool.false_and] at hf
    simp [← hf]
    all_goals exact gz
  | true =>
    cases i with
    | zero =>
      simp only [Bool.true_and] at hf
      simp
      (repeat' (first|contradiction|exact .ok|apply And.intro|intro _|(refine gc (fun h=>?_) (fun h=>?_)<;>(have h':=h;(try simp at h');first|done|simp[h,h']|simp))))
      refine ⟨1,⟨by omega,by rw [hm2]; exact hf⟩,?_,by simp; omega⟩
      exact sub_mk _ [(9,9,_)] ⟨by simp,by simp,by simp [renOf,Blk.live,Tb.c],by simp⟩ (by simp [renOf]; exact wrap_in (by omega) (by omega))
    | succ k2 =>
      obtain ⟨b,hb⟩:∃ a,a=l[k2]'(by omega):=⟨_,rfl⟩
      have hgb:∀ h,l[k2]'h=b:=fun _=>hb.symm
      have hgb2:l[k2]?=some b:=by rw [List.getElem?_eq_getElem (by omega),← hb]
      simp only [hgb2] at hf
      have hc:=ups (p13_cmp b a)
      have hkl:k2<l.length:=by omega
      have hwk:=wrap_in (n:=(k2:Int)) (by omega) (by omega)
      have hki2:(k2:Int)+1 - 1=k2:=by omega
      have hp:(0:Int)<(k2:Int)+1:=by omega
      simp [hlt,hga,hgb,hkl,At.c,hp,hwk,hki2,show (0:Int)≤(k2:Int)+1 from by omega]
      (repeat' (first|contradiction|exact .ok|apply And.intro|intro _|(refine gc (fun h=>?_) (fun h=>?_)<;>(have h':=h;(try simp at h');first|done|simp[h,h',hp]|simp[hp]))))
      refine acallT_plain hc (by simp [At.a,At.c]) ?_
      generalize b.cmp a=C at *
      by_cases h0:0≤C
      ·have hn:¬ C<0:=by omega
       have hT2:T=false:=by rw [← hf]; simp [hn]
       simp [h0,hT2]
       (repeat' (first|contradiction|exact .ok|apply And.intro|intro _|(refine gc (fun h=>?_) (fun h=>?_)<;>(have h':=h;(try simp at h');first|done|simp[h,h',h0]|simp[h0]))))
      ·have hn:C<0:=by omega
       have hT2:allF (suitAt x l) m (k2+1+1)=T:=by rw [← hf]; simp [hn]
       have hw2:=wrap_in (n:=(k2:Int)+1+1) (by omega) (by omega)
       simp [h0]
       (repeat' (first|contradiction|exact .ok|apply And.intro|intro _|(refine gc (fun h=>?_) (fun h=>?_)<;>(have h':=h;(try simp at h');first|done|simp[h,h',h0]|simp[h0]))))
       refine ⟨k2+1+1,⟨by omega,by rw [hm2]; exact hT2⟩,?_,by simp; omega⟩
       exact sub_mk _ [(9,9,_)] ⟨by simp,by simp,by simp [renOf,Blk.live,Tb.c],by simp⟩ (by simp [renOf,hw2])
 obtain rfl:i=l.length:=by omega
 rw [Nat.sub_self,allF] at hf
 subst hf
 by_cases n3:P.length=x.fk.length
 ·have n3i:(P.length:Int)=x.fk.length:=by omega
  simp [Tb.c,n3,n3i]
  (repeat' (first|contradiction|exact .ok|apply And.intro|intro _|(refine gc (fun h=>?_) (fun h=>?_)<;>(have h':=h;(try simp at h');first|done|simp[h,h',n3,n3i]|simp[n3,n3i]))))
  all_goals exact hk
 ·have n3i:¬ (P.length:Int)=x.fk.length:=by omega
  simp [Tb.c,n3,n3i]
  (repeat' (first|contradiction|exact .ok|apply And.intro|intro _|(refine gc (fun h=>?_) (fun h=>?_)<;>(have h':=h;(try simp at h');first|done|simp[h,h',n3,n3i]|simp[n3,n3i]))))
  all_goals exact hk
theorem s_cloneV (l:List V) (hl:l.length≤1000):Cf En 55 [.d (.sl (l.map V.c))] [] (.ref 1000000 0 l.length 3) [.arr 79 3 (l.map V.c) false]:=by
 refine cf_introS mix (fn:=Tryz.f55) (by kernel_rfl) rfl (by kernel_rfl) (by decide) (by simp) ?_
 cases l with
 | nil =>
   simp
   (repeat' (first|contradiction|exact .ok|apply And.intro|intro _|(refine gc (fun h=>?_) (fun h=>?_)<;>(have h':=h;(try simp at h');first|done|simp[h,h']|simp))))
   ·refine EndsS.mk _ (sub_nil (i:=2) (m:=9) (ety:=79) (sz:=3) (by simp) ?_ (by decide) (by decide)) ?_
    ·simp
    ·exact ⟨_,[(1000000,9,.arr 79 3 [] false)],by simp; rfl,⟨by simp,by simp,by simp [renOf,Blk.live],by simp⟩,by simp [List.zipIdx,firstName_eq],by simp [renOf]⟩
   ·refine EndsS.mk _ (.refl _ _ _ _) ?_
    exact ⟨_,[(1000000,7,.arr 79 3 [] false)],by simp; rfl,⟨by simp,by simp,by simp [renOf,Blk.live],by simp⟩,by simp [List.zipIdx,firstName_eq],by simp [renOf]⟩
 | cons a l =>
   have hs:=szs (l.length+1) (by simp at hl; omega) 32 (by decide)
   have hs2:=szs l.length (by simp at hl; omega) 32 (by decide)
   simp [hs,hs2,V.c]
   (repeat' (first|contradiction|exact .ok|apply And.intro|intro _|(refine gc (fun h=>?_) (fun h=>?_)<;>(have h':=h;(try simp at h');first|done|simp[h,h']|simp))))
   refine EndsS.mk _ (.refl _ _ _ _) ?_
   exact ⟨_,[(1000000,7,.arr 79 3 ((a::l).map V.c) false)],by simp; rfl,⟨by simp,by simp,by simp [renOf,Blk.live,V.c],by simp⟩,by simp [List.zipIdx,firstName_eq]; rfl,by simp [renOf]⟩
theorem s_cloneI (l:List Int) (hl:l.length≤1000):Cf En 54 [.d (.sl (ints l))] [] (.ref 1000000 0 l.length 1) [.arr 3 1 (ints l) false]:=by
 refine cf_introS mix (fn:=Tryz.f54) (by kernel_rfl) rfl (by kernel_rfl) (by decide) (by simp) ?_
 cases l with
 | nil =>
   simp [ints]
   (repeat' (first|contradiction|exact .ok|apply And.intro|intro _|(refine gc (fun h=>?_) (fun h=>?_)<;>(have h':=h;(try simp at h');first|done|simp[h,h']|simp))))
   ·refine EndsS.mk _ (sub_nil (i:=2) (m:=9) (ety:=3) (sz:=1) (by simp) ?_ (by decide) (by decide)) ?_
    ·simp
    ·exact ⟨_,[(1000000,9,.arr 3 1 [] false)],by simp; rfl,⟨by simp,by simp,by simp [renOf,Blk.live],by simp⟩,by simp [List.zipIdx,firstName_eq],by simp [renOf]⟩
   ·refine EndsS.mk _ (.refl _ _ _ _) ?_
    exact ⟨_,[(1000000,7,.arr 3 1 [] false)],by simp; rfl,⟨by simp,by simp,by simp [renOf,Blk.live],by simp⟩,by simp [List.zipIdx,firstName_eq],by simp [renOf]⟩
 | cons a l =>
   have hs:=szs (l.length+1) (by simp at hl; omega) 8 (by decide)
   have hs2:=szs l.length (by simp at hl; omega) 8 (by decide)
   simp [hs,hs2,ints]
   (repeat' (first|contradiction|exact .ok|apply And.intro|intro _|(refine gc (fun h=>?_) (fun h=>?_)<;>(have h':=h;(try simp at h');first|done|simp[h,h']|simp))))
   refine EndsS.mk _ (.refl _ _ _ _) ?_
   exact ⟨_,[(1000000,7,.arr 3 1 (ints (a::l)) false)],by simp; rfl,⟨by simp,by simp,by simp [renOf,Blk.live,ints],by simp⟩,by simp [List.zipIdx,firstName_eq]; rfl,by simp [renOf]⟩
end Go.Proofs.Tryz
namespace Go.Proofs.Tryz
open Go.Ab
set_option maxRecDepth 100000
set_option maxHeartbeats 8000000
@[simp] theorem all_rowE (l:List (List V)):((l.map rowD).all fun x=>x.length==1)=true:=by simp [rowD]
def rowsA (o:Option (List (List V))):AV:=.tup [.d (.sl ((o.getD []).map rowD)),.d (.bool o.isSome)]
def prF (x:Tb) (l:List At) (R:List (List V)) (c:Nat) (C:List V) (i:Nat):St :=
 { s:=mkS [(1,.d (.sl (l.map At.c))),(2,.ptr 2 0 0),(6,.d (.sl (R.map rowD))),(7,.d (.int .i64 c)),(9,.d (.sl (C.map V.c))),(10,.ref 900 0 (i*C.length) 1),(22,.d (.sl (x.cols.map Col.c))),(23,.d (.int .i64 x.cols.length)),(24,.d (.int .i64 c)),(44,.d (.sl (R.map rowD))),(45,.d (.int .i64 R.length)),(46,.d (.int .i64 i))],b:=mkB [(2,2,.var (x.c.map AV.d)),(900,900,.arr 71 1 ((mulR C c (R.take i)).map rowD) false)] }
theorem p13_rows (x:Tb) (hxo:x.ok) (hxc:x.cols.length≤20) (hxt:∀ c∈x.cols,c.t=1∨c.t=2∨c.t=3) (l:List At) (hl:l.length≤12) (hkd:∀ a∈l,a.v.k=0∨a.v.k=typT x a.col) (ht:∀ a∈l,a.v.t.length≤200) (hn:∀ a∈l,-maxI≤a.v.n∧a.v.n≤maxI) :
  Cf Es 43 [x.a,.d (.sl (l.map At.c))] [] (rowsA (rowsR (clsR x l) x.cols.length 0 [List.replicate x.cols.length nulV])) []:=by
 refine cf_intro mixs (fn:=Tryz.f43) (by kernel_rfl) rfl (by kernel_rfl) (by decide) (by simp) ?_
 obtain ⟨T,hT⟩:∃ T,T=rowsR (clsR x l) x.cols.length 0 [List.replicate x.cols.length nulV]:=⟨_,rfl⟩
 rw [← hT]
 have hm8:=(mk8 x.cols.length (by omega)).1
 simp [Tb.a,Tb.c,show 32*(x.cols.length:Int)≤281474976710656 from by omega,hm8]
 (repeat' (first|contradiction|exact .ok|apply And.intro|intro _|(refine gc (fun h=>?_) (fun h=>?_)<;>(have h':=h;(try simp at h');first|done|simp[h,h']|simp))))
 refine aloopT mixs (by decide) (fun y:Nat×List (List V)=>{ s:=mkS [(1,.d (.sl (l.map At.c))),(2,.ptr 2 0 0),(6,.d (.sl (y.2.map rowD))),(22,.d (.sl (x.cols.map Col.c))),(23,.d (.int .i64 x.cols.length)),(24,.d (.int .i64 y.1))],b:=mkB [(2,2,.var (x.c.map AV.d))] })
  (fun y=>y.1≤x.cols.length∧rowsR (clsR x l) (x.cols.length - y.1) y.1 y.2=T∧y.2.length≤2000∧∀ r∈y.2,r.length=x.cols.length) (fun y=>x.cols.length - y.1) (0,[List.replicate x.cols.length nulV]) ⟨by simp,by simp [hT],by simp,by simp⟩
  (sub_mk _ [(2,2,_)] ⟨by simp,by simp,by simp [renOf,Blk.live,Tb.c],by simp⟩ (by simp [renOf,rowD,nulV,V.c])) ?_
 clear hT
 rintro ⟨c,R⟩ ⟨hc,hR,hRl,hRr⟩
 simp only at hc hR hRl hRr
 by_cases hlt:c<x.cols.length
 ·obtain ⟨m,hm⟩:∃ m,x.cols.length - c=m+1:=⟨x.cols.length - c - 1,by omega⟩
  have hm2:x.cols.length - (c+1)=m:=by omega
  rw [hm,rowsR] at hR
  obtain ⟨u,hu⟩:∃ u,u=x.cols[c]:=⟨_,rfl⟩
  have hgu:∀ h,x.cols[c]'h=u:=fun _=>hu.symm
  have hum:u∈x.cols:=by rw [hu]; exact List.getElem_mem hlt
  have hcol:colO x c=u:=by unfold colO; rw [List.getElem?_eq_getElem hlt,← hu]; rfl
  have htc:typT x c=u.t:=by unfold typT; rw [Int.toNat_natCast,List.getElem?_eq_getElem hlt,← hu]; rfl
  have hke:=ups (f_free x hxo c)
  have hcls:=upo (p13_classes u c l hl (hxt u hum) (fun a ha e=>by have:=hkd a ha; rw [e,htc] at this; exact this) ht hn)
  have hcl:=clsR_len x l c
  obtain ⟨C,hC⟩:∃ C,C=clsR x l c:=⟨_,rfl⟩
  have hC2:=hC
  unfold clsR at hC2
  rw [hcol] at hC2
  rw [← hC] at hR hcl
  have hprod:R.length*C.length≤2000*204:=Nat.mul_le_mul hRl (by omega)
  have hpr1:0≤(R.length:Int)*C.length:=Int.mul_nonneg (by omega) (by omega)
  have hpr2:(R.length:Int)*C.length≤408000:=by rw [← Int.natCast_mul]; omega
  have hwp:=wrap_in (n:=(R.length:Int)*C.length) (by omega) (by omega)
  clear hpr1 hpr2
  have hwc:=wrap_in (n:=(c:Int)+1) (by omega) (by omega)
  have hw1:=wrap_in (n:=(R.length:Int)) (by omega) (by omega)
  by_cases hb:2000<R.length*C.length
  ·rw [if_pos hb] at hR
   subst hR
   have hbi:(2000:Int)<R.length*C.length:=by rw [← Int.natCast_mul]; omega
   have hK:keyT x c=false:=by
    cases hK:keyT x c with
    | false=>rfl
    | true =>
      rw [hK,if_pos rfl] at hC2
      rw [hC2] at hb
      simp at hb
      omega
   rw [hK] at hke hC2
   rw [if_neg (by simp)] at hC2
   simp [hlt,hgu,Tb.c,Col.c]
   (repeat' (first|contradiction|exact .ok|apply And.intro|intro _|(refine gc (fun h=>?_) (fun h=>?_)<;>(have h':=h;(try simp at h');first|done|simp[h,h']|simp))))
   refine acallT_plain hke (by simp [Tb.a,Tb.c]) ?_
   simp [hlt,hgu,Tb.c,Col.c]
   (repeat' (first|contradiction|exact .ok|apply And.intro|intro _|(refine gc (fun h=>?_) (fun h=>?_)<;>(have h':=h;(try simp at h');first|done|simp[h,h']|simp))))
   refine acallT_plain hcls (by simp [Col.a,Col.c]) ?_
   rw [← hC2]
   simp [hwp,hbi]
   (repeat' (first|contradiction|exact .ok|apply And.intro|intro _|(refine gc (fun h=>?_) (fun h=>?_)<;>(have h':=h;(try simp at h');first|done|simp[h,h',hwp,hbi]|simp[hwp,hbi]))))
   all_goals simp [rowsA]
  rw [if_neg hb] at hR
  have hbi:¬ (2000:Int)<R.length*C.length:=by rw [← Int.natCast_mul]; omega
  refine' (fun (key:LoopKey Es 71 0 (prF x l R c C 0) _ _)=>?main) ?keyg
  case main =>
   simp [hlt,hgu,Tb.c,Col.c]
   (repeat' (first|contradiction|exact .ok|apply And.intro|intro _|(refine gc (fun h=>?_) (fun h=>?_)<;>(have h':=h;(try simp at h');first|done|simp[h,h']|simp))))
   refine acallT_plain hke (by simp [Tb.a,Tb.c]) ?_
   cases hK:keyT x c with
   | true =>
     rw [hK,if_pos rfl] at hC2
     have hn2:¬ (2000:Int)<R.length:=by omega
     simp [hw1,hn2]
     (repeat' (first|contradiction|exact .ok|apply And.intro|intro _|(refine gc (fun h=>?_) (fun h=>?_)<;>(have h':=h;(try simp at h');first|done|simp[h,h',hw1,hn2]|simp[hw1,hn2]))))
     refine key _ ?_
     exact sub_mkn 10 900 71 1 (by simp) (by simp) (by decide) (by decide) _ [(2,2,_),(900,900,_)] ⟨by simp,by simp,by simp [renOf,Blk.live,Tb.c,mulR],by simp⟩ (by simp [renOf,hC2,V.c])
   | false =>
     rw [hK,if_neg (by simp)] at hC2
     simp [hlt,hgu,Tb.c,Col.c]
     (repeat' (first|contradiction|exact .ok|apply And.intro|intro _|(refine gc (fun h=>?_) (fun h=>?_)<;>(have h':=h;(try simp at h');first|done|simp[h,h']|simp))))
     refine acallT_plain hcls (by simp [Col.a,Col.c]) ?_
     rw [← hC2]
     simp [hwp,hbi]
     (repeat' (first|contradiction|exact .ok|apply And.intro|intro _|(refine gc (fun h=>?_) (fun h=>?_)<;>(have h':=h;(try simp at h');first|done|simp[h,h',hwp,hbi]|simp[hwp,hbi]))))
     refine key _ ?_
     exact sub_mkn 10 900 71 1 (by simp) (by simp) (by decide) (by decide) _ [(2,2,_),(900,900,_)] ⟨by simp,by simp,by simp [renOf,Blk.live,Tb.c,mulR],by simp⟩ (by simp [renOf])
  have hml:=mulR_len C c R
  clear hC2 hcls hwp hcl hke
  intro st hst
  refine aloopT mixs (by decide) (prF x l R c C) (fun i=>i≤R.length) (fun i=>R.length - i) 0 (by simp) hst ?_
  intro i hi
  by_cases hil:i<R.length
  ·obtain ⟨r,hr⟩:∃ r,r=R[i]:=⟨_,rfl⟩
   have hgr:∀ h,R[i]'h=r:=fun _=>hr.symm
   have hrl:=hRr r (by rw [hr]; exact List.getElem_mem hil)
   have hmt:=mulR_take (C:=C) (c:=c) hil
   rw [← hr] at hmt
   have hmk:=mulR_len C c (R.take i)
   rw [List.length_take,Nat.min_eq_left (by omega)] at hmk
   have hkm:(i+1)*C.length≤R.length*C.length:=Nat.mul_le_mul_right _ hil
   rw [Nat.add_mul,Nat.one_mul] at hkm
   have hkp:(i+1)*C.length=i*C.length+C.length:=by rw [Nat.add_mul,Nat.one_mul]
   have hwi:=wrap_in (n:=(i:Int)+1) (by omega) (by omega)
   have hcv:=ups (s_cloneV r (by omega))
   simp [prF,hil,hgr,rowD]
   (repeat' (first|contradiction|exact .ok|apply And.intro|intro _|(refine gc (fun h=>?_) (fun h=>?_)<;>(have h':=h;(try simp at h');first|done|simp[h,h']|simp))))
   obtain ⟨K,hK⟩:∃ K,K=i*C.length:=⟨_,rfl⟩
   rw [← hK] at hmk hkm hkp
   simp only [← hK]
   generalize hM:mulR C c (R.take i)=M at *
   refine aloopT mixs (by decide) (fun j:Nat=>{ s:=mkS [(1,.d (.sl (l.map At.c))),(2,.ptr 2 0 0),(6,.d (.sl (R.map rowD))),(7,.d (.int .i64 c)),(9,.d (.sl (C.map V.c))),(10,.ref 900 0 (K+j) 1),(12,.d (.sl (r.map V.c))),(22,.d (.sl (x.cols.map Col.c))),(23,.d (.int .i64 x.cols.length)),(24,.d (.int .i64 c)),(44,.d (.sl (R.map rowD))),(45,.d (.int .i64 R.length)),(46,.d (.int .i64 i)),(50,.d (.sl (C.map V.c))),(51,.d (.int .i64 C.length)),(52,.d (.int .i64 j))],b:=mkB [(2,2,.var (x.c.map AV.d)),(900,900,.arr 71 1 ((M++(C.take j).map fun v=>r.set c v).map rowD) false)] })
    (fun j=>j≤C.length) (fun j=>C.length - j) 0 (by simp) (sub_mk _ [(2,2,_),(900,900,_)] ⟨by simp,by simp,by simp [renOf,Blk.live,Tb.c,rowD],by simp⟩ (by simp [renOf,rowD])) ?_
   intro j hj
   by_cases hjl:j<C.length
   ·obtain ⟨v,hv⟩:∃ v,v=C[j]:=⟨_,rfl⟩
    have hgv:∀ h,C[j]'h=v:=fun _=>hv.symm
    have hus:=map_take (f:=fun v:V=>r.set c v) hjl
    rw [← hv] at hus
    have hul:((C.take j).map fun v=>r.set c v).length=j:=by rw [List.length_map,List.length_take]; omega
    have hwj:=wrap_in (n:=(j:Int)+1) (by omega) (by omega)
    generalize ((C.take j).map fun v=>r.set c v)=U at *
    have htk:((M++U).map rowD).take (K+j)=(M++U).map rowD:=List.take_of_length_le (by simp; omega)
    have htk2:(M.map rowD++U.map rowD).take (K+j)=M.map rowD++U.map rowD:=List.take_of_length_le (by simp; omega)
    have htr:(r.map V.c).take x.cols.length=r.map V.c:=List.take_of_length_le (by simp [hrl])
    have hcr:c<r.length:=by omega
    simp [hjl,hgv,V.c]
    (repeat' (first|contradiction|exact .ok|apply And.intro|intro _|(refine gc (fun h=>?_) (fun h=>?_)<;>(have h':=h;(try simp at h');first|done|simp[h,h']|simp))))
    refine acallT_new [] hcv (by simp) (by simp) (by simp) (by simp) (by simp) (by simp) (by simp) ?_
    simp [hcr,hrl,hlt,htr,V.c,rowD,hmk,hul,htk2,szs (K+j) (by omega) 24 (by decide),szs (K+j+1) (by omega) 24 (by decide)]
    (repeat' (first|contradiction|exact .ok|apply And.intro|intro _|(refine gc (fun h=>?_) (fun h=>?_)<;>(have h':=h;(try simp at h');first|done|simp[h,h']|simp))))
    refine ⟨j+1,by omega,?_,by simp; omega⟩
    refine sub_mk _ [(2,2,_),(900,65,_)] ⟨by simp,by simp,by simp [renOf,Blk.live,Tb.c,hus,rowD]; exact List.take_of_length_le (by simp [hrl]),by simp⟩ (by simp [renOf,hwj]; omega)
   obtain rfl:j=C.length:=by omega
   simp
   (repeat' (first|contradiction|exact .ok|apply And.intro|intro _|(refine gc (fun h=>?_) (fun h=>?_)<;>(have h':=h;(try simp at h');first|done|simp[h,h']|simp))))
   refine ⟨i+1,by omega,?_,by simp; omega⟩
   refine sub_mk _ [(2,2,_),(900,900,_)] ⟨by simp,by simp,by simp [renOf,Blk.live,Tb.c,hmt],by simp⟩ (by simp [renOf,hwi,hkp])
  obtain rfl:i=R.length:=by omega
  simp [prF]
  (repeat' (first|contradiction|exact .ok|apply And.intro|intro _|(refine gc (fun h=>?_) (fun h=>?_)<;>(have h':=h;(try simp at h');first|done|simp[h,h']|simp))))
  refine ⟨(c+1,mulR C c R),⟨by simp only; omega,by simp only; rw [hm2]; exact hR,by simp only; omega,mulR_row hRr⟩,?_,by simp; omega⟩
  refine sub_mk _ [(2,2,_)] ⟨by simp,by simp,by simp [renOf,Blk.live,Tb.c],by simp⟩ (by simp [renOf,hwc,hml]; try exact List.take_of_length_le (by simp [hml]))
 obtain rfl:c=x.cols.length:=by omega
 rw [Nat.sub_self,rowsR] at hR
 subst hR
 simp [rowsA]
 all_goals exact gz
end Go.Proofs.Tryz
namespace Go.Proofs.Tryz
open Go.Ab
set_option maxRecDepth 100000
set_option maxHeartbeats 4000000
def chkB (row:List V) (e:Ex):Bool:=(evalV e row).tr==0
theorem g_chk1 (e:Ex) (he:e.few 0=true) (row:List V) (hrow:row.length≤9223372036854775807):Cf Eo 46 [e.a,.ptr 1000000 0 0] [.var [.d (.sl (row.map V.c))]] (.d (.bool (chkB row e))) [.var [.d (.sl (row.map V.c))]]:=by
 refine cf_intro mixo (fn:=Tryz.f46) (by kernel_rfl) rfl (by kernel_rfl) (by decide) (by simp) ?_
 have hev:=eval_cf row hrow (SizeOf.sizeOf e+1) e (by omega) 0 he
 have htr:=up (v_truth (evalV e row))
 unfold chkB
 rcases e with ⟨o,c2,n2,t2,g2,ks⟩
 generalize evalV (Ex.mk o c2 n2 t2 g2 ks) row=v at *
 simp [Ex.a,Ex.c]
 (repeat' (first|contradiction|exact .ok|apply And.intro|intro _|(refine gc (fun h=>?_) (fun h=>?_)<;>(have h':=h;(try simp at h');first|done|simp[h,h']|simp))))
 refine acallT_plain hev (by simp [Ex.a,Ex.c]) ?_
 simp [V.a]
 refine acallT_plain htr (by simp [V.a]) ?_
 generalize v.tr=z at *
 by_cases h0:z=0
 ·simp [h0]
  (repeat' (first|contradiction|exact .ok|apply And.intro|intro _|(refine gc (fun h=>?_) (fun h=>?_)<;>(have h':=h;(try simp at h');first|done|simp[h,h',h0]|simp[h0]))))
 ·simp [h0]
  (repeat' (first|contradiction|exact .ok|apply And.intro|intro _|(refine gc (fun h=>?_) (fun h=>?_)<;>(have h':=h;(try simp at h');first|done|simp[h,h',h0]|simp[h0]))))
theorem g_chkI (l:List Ex) (hl:l.length≤1000) (hE:∀ e∈l,e.few 0=true) (row:List V) (hrow:row.length≤9223372036854775807):Cf Eo 94 [.d (.sl (l.map Ex.c)),.clo 46 [.ptr 1000000 0 0]] [.var [.d (.sl (row.map V.c))]] (.d (.int .i64 (fidx (chkB row) l 0))) [.var [.d (.sl (row.map V.c))]]:=by
 refine cf_intro mixo (fn:=Tryz.f94) (by kernel_rfl) rfl (by kernel_rfl) (by decide) (by simp) ?_
 generalize hF:fidx (chkB row) l 0=F
 simp
 (repeat' (first|contradiction|exact .ok|apply And.intro|intro _|(refine gc (fun h=>?_) (fun h=>?_)<;>(have h':=h;(try simp at h');first|done|simp[h,h']|simp))))
 refine aloopT mixo (by decide) (fun i:Nat=>{ s:=mkS [(0,.d (.sl (l.map Ex.c))),(1,.clo 46 [.ptr 1000000 0 0]),(7,.d (.int .i64 l.length)),(8,.d (.int .i64 i))],b:=mkB [(1000000,1000000,.var [.d (.sl (row.map V.c))])] }) (fun i=>i≤l.length∧fidx (chkB row) (l.drop i) i=F) (fun i=>l.length - i) 0 ⟨by simp,hF⟩ (sub_mk _ [(1000000,1000000,_)] ⟨by simp,by simp,by simp [renOf,Blk.live],base1⟩ (by simp [renOf])) ?_
 rintro i ⟨hi,hg⟩
 by_cases hlt:i<l.length
 ·rw [fidx_drop hlt] at hg
  obtain ⟨u,hu⟩:∃ u,u=l[i]:=⟨_,rfl⟩
  have hgi:∀ h,l[i]'h=u:=fun _=>hu.symm
  have hc:=g_chk1 u (hE u (by rw [hu]; exact List.getElem_mem hlt)) row hrow
  rw [← hu] at hg
  have hw:=wrap_in (n:=(i:Int)+1) (by omega) (by omega)
  generalize chkB row u=Q at *
  rcases u with ⟨o,c2,n2,t2,g2,ks⟩
  simp [hlt,hgi,Ex.c]
  (repeat' (first|contradiction|exact .ok|apply And.intro|intro _|(refine gc (fun h=>?_) (fun h=>?_)<;>(have h':=h;(try simp at h');first|done|simp[h,h']|simp))))
  refine acallT_hand [1000000] hc (by simp) (by simp) (by simp) (by simp) (by simp [Ex.a,Ex.c]) ?_
  cases Q
  ·simp
   (repeat' (first|contradiction|exact .ok|apply And.intro|intro _|(refine gc (fun h=>?_) (fun h=>?_)<;>(have h':=h;(try simp at h');first|done|simp[h,h']|simp))))
   refine ⟨i+1,⟨by omega,by simpa using hg⟩,?_,by simp; omega⟩
   exact sub_mk _ [(1000000,1000000,_)] ⟨by simp,by simp,by simp [renOf,Blk.live],base1⟩ (by simp [renOf,hw])
  ·simp only [if_true] at hg
   simp [← hg]
   all_goals exact gz
 obtain rfl:i=l.length:=by omega
 rw [List.drop_length,fidx] at hg
 simp [← hg]
 all_goals exact gz
theorem g_chkC (l:List Ex) (hl:l.length≤1000) (hE:∀ e∈l,e.few 0=true) (row:List V) (hrow:row.length≤9223372036854775807):Cf Eo 45 [.d (.sl (l.map Ex.c)),.clo 46 [.ptr 1000000 0 0]] [.var [.d (.sl (row.map V.c))]] (.d (.bool (l.any (chkB row)))) [.var [.d (.sl (row.map V.c))]]:=by
 refine cf_intro mixo (fn:=Tryz.f45) (by kernel_rfl) rfl (by kernel_rfl) (by decide) (by simp) ?_
 have h:=fidx_any (p:=chkB row) (l:=l) (i:=0)
 have hc:=g_chkI l hl hE row hrow
 generalize l.any (chkB row)=A at *
 generalize fidx (chkB row) l 0=F at *
 simp
 (repeat' (first|contradiction|exact .ok|apply And.intro|intro _|(refine gc (fun h=>?_) (fun h=>?_)<;>(have h':=h;(try simp at h');first|done|simp[h,h']|simp))))
 refine acallT_hand [1000000] hc (by simp) (by simp) (by simp) (by simp) (by simp) ?_
 simp [h]
 all_goals exact gz
theorem g_tr1 (x:Rg) (hx:x.t.length≤1000) (T:List Int):Cf En 50 [x.a,.ptr 1000000 0 0] [.var [.d (.sl (ints T))]] (.d (.bool (x.t==T))) [.var [.d (.sl (ints T))]]:=by
 refine cf_intro mix (fn:=Tryz.f50) (by kernel_rfl) rfl (by kernel_rfl) (by decide) (by simp) ?_
 have h:=p_equal x.t T hx
 generalize (x.t==T)=Q at *
 simp [Rg.a,Rg.c]
 (repeat' (first|contradiction|exact .ok|apply And.intro|intro _|(refine gc (fun h=>?_) (fun h=>?_)<;>(have h':=h;(try simp at h');first|done|simp[h,h']|simp))))
 refine acallT_plain h (by simp) ?_
 simp
 all_goals exact gz
theorem g_trI (l:List Rg) (hl:l.length≤3000) (hx:∀ x∈l,x.t.length≤1000) (T:List Int):Cf En 86 [.d (.sl (l.map Rg.c)),.clo 50 [.ptr 1000000 0 0]] [.var [.d (.sl (ints T))]] (.d (.int .i64 (fidx (fun x:Rg=>x.t==T) l 0))) [.var [.d (.sl (ints T))]]:=by
 refine cf_intro mix (fn:=Tryz.f86) (by kernel_rfl) rfl (by kernel_rfl) (by decide) (by simp) ?_
 generalize hF:fidx (fun x:Rg=>x.t==T) l 0=F
 simp
 (repeat' (first|contradiction|exact .ok|apply And.intro|intro _|(refine gc (fun h=>?_) (fun h=>?_)<;>(have h':=h;(try simp at h');first|done|simp[h,h']|simp))))
 refine aloopT mix (by decide) (fun i:Nat=>{ s:=mkS [(0,.d (.sl (l.map Rg.c))),(1,.clo 50 [.ptr 1000000 0 0]),(7,.d (.int .i64 l.length)),(8,.d (.int .i64 i))],b:=mkB [(1000000,1000000,.var [.d (.sl (ints T))])] }) (fun i=>i≤l.length∧fidx (fun x:Rg=>x.t==T) (l.drop i) i=F) (fun i=>l.length - i) 0 ⟨by simp,hF⟩ (sub_mk _ [(1000000,1000000,_)] ⟨by simp,by simp,by simp [renOf,Blk.live],base1⟩ (by simp [renOf])) ?_
 rintro i ⟨hi,hg⟩
 by_cases hlt:i<l.length
 ·rw [fidx_drop hlt] at hg
  obtain ⟨u,hu⟩:∃ u,u=l[i]:=⟨_,rfl⟩
  have hgi:∀ h,l[i]'h=u:=fun _=>hu.symm
  have hc:=g_tr1 u (hx u (by rw [hu]; exact List.getElem_mem hlt)) T
  rw [← hu] at hg
  have hw:=wrap_in (n:=(i:Int)+1) (by omega) (by omega)
  generalize (u.t==T)=Q at *
  simp [hlt,hgi,Rg.c]
  (repeat' (first|contradiction|exact .ok|apply And.intro|intro _|(refine gc (fun h=>?_) (fun h=>?_)<;>(have h':=h;(try simp at h');first|done|simp[h,h']|simp))))
  refine acallT_hand [1000000] hc (by simp) (by simp) (by simp) (by simp) (by simp [Rg.a,Rg.c]) ?_
  cases Q
  ·simp
   (repeat' (first|contradiction|exact .ok|apply And.intro|intro _|(refine gc (fun h=>?_) (fun h=>?_)<;>(have h':=h;(try simp at h');first|done|simp[h,h']|simp))))
   refine ⟨i+1,⟨by omega,by simpa using hg⟩,?_,by simp; omega⟩
   exact sub_mk _ [(1000000,1000000,_)] ⟨by simp,by simp,by simp [renOf,Blk.live],base1⟩ (by simp [renOf,hw])
  ·simp only [if_true] at hg
   simp [← hg]
   all_goals exact gz
 obtain rfl:i=l.length:=by omega
 rw [List.drop_length,fidx] at hg
 simp [← hg]
 all_goals exact gz
theorem g_trC (l:List Rg) (hl:l.length≤3000) (hx:∀ x∈l,x.t.length≤1000) (T:List Int):Cf En 49 [.d (.sl (l.map Rg.c)),.clo 50 [.ptr 1000000 0 0]] [.var [.d (.sl (ints T))]] (.d (.bool (l.any fun x:Rg=>x.t==T))) [.var [.d (.sl (ints T))]]:=by
 refine cf_intro mix (fn:=Tryz.f49) (by kernel_rfl) rfl (by kernel_rfl) (by decide) (by simp) ?_
 have h:=fidx_any (p:=fun x:Rg=>x.t==T) (l:=l) (i:=0)
 have hc:=g_trI l hl hx T
 generalize (l.any fun x:Rg=>x.t==T)=A at *
 generalize fidx (fun x:Rg=>x.t==T) l 0=F at *
 simp
 (repeat' (first|contradiction|exact .ok|apply And.intro|intro _|(refine gc (fun h=>?_) (fun h=>?_)<;>(have h':=h;(try simp at h');first|done|simp[h,h']|simp))))
 refine acallT_hand [1000000] hc (by simp) (by simp) (by simp) (by simp) (by simp) ?_
 simp [h]
 all_goals exact gz
theorem g_emp1 (p:List Rg):Cf En 53 [.d (.sl (p.map Rg.c))] [] (.d (.bool (p.length==0))) []:=by
 refine cf_intro mix (fn:=Tryz.f53) (by kernel_rfl) rfl (by kernel_rfl) (by decide) (by simp) ?_
 by_cases h:p.length=0
 ·have h':(p.length:Int)=0:=by omega
  have h2:p=[]:=List.eq_nil_of_length_eq_zero h
  subst h2
  simp
  all_goals exact gz
 ·have h':¬ (p.length:Int)=0:=by omega
  have h2:¬ p=[]:=fun e=>h (by rw [e]; rfl)
  simp [h',h2]
  (repeat' (first|contradiction|exact .ok|apply And.intro|intro _|(refine gc (fun h=>?_) (fun h=>?_)<;>(have h':=h;(try simp at h');first|done|simp[h,h',h',h2]|simp[h',h2]))))
theorem g_empI (l:List (List Rg)) (hl:l.length≤1000):Cf En 97 [.d (.sl (l.map rgD)),.clo 53 []] [] (.d (.int .i64 (fidx (fun p:List Rg=>p.length==0) l 0))) []:=by
 refine cf_intro mix (fn:=Tryz.f97) (by kernel_rfl) rfl (by kernel_rfl) (by decide) (by simp) ?_
 generalize hF:fidx (fun p:List Rg=>p.length==0) l 0=F
 simp
 (repeat' (first|contradiction|exact .ok|apply And.intro|intro _|(refine gc (fun h=>?_) (fun h=>?_)<;>(have h':=h;(try simp at h');first|done|simp[h,h']|simp))))
 refine aloopT mix (by decide) (fun i:Nat=>{ s:=mkS [(0,.d (.sl (l.map rgD))),(1,.clo 53 []),(7,.d (.int .i64 l.length)),(8,.d (.int .i64 i))],b:=mkB [] }) (fun i=>i≤l.length∧fidx (fun p:List Rg=>p.length==0) (l.drop i) i=F) (fun i=>l.length - i) 0 ⟨by simp,hF⟩ (sub_mk _ [] .nil (by simp)) ?_
 rintro i ⟨hi,hg⟩
 by_cases hlt:i<l.length
 ·rw [fidx_drop hlt] at hg
  obtain ⟨u,hu⟩:∃ u,u=l[i]:=⟨_,rfl⟩
  have hgi:∀ h,l[i]'h=u:=fun _=>hu.symm
  have hc:=g_emp1 u
  rw [← hu] at hg
  have hw:=wrap_in (n:=(i:Int)+1) (by omega) (by omega)
  generalize (u.length==0)=Q at *
  simp [hlt,hgi,rgD]
  (repeat' (first|contradiction|exact .ok|apply And.intro|intro _|(refine gc (fun h=>?_) (fun h=>?_)<;>(have h':=h;(try simp at h');first|done|simp[h,h']|simp))))
  refine acallT_plain hc (by simp) ?_
  cases Q
  ·simp
   (repeat' (first|contradiction|exact .ok|apply And.intro|intro _|(refine gc (fun h=>?_) (fun h=>?_)<;>(have h':=h;(try simp at h');first|done|simp[h,h']|simp))))
   refine ⟨i+1,⟨by omega,by simpa using hg⟩,?_,by simp; omega⟩
   exact sub_mk _ [] .nil (by simp [hw])
  ·simp only [if_true] at hg
   simp [← hg]
   all_goals exact gz
 obtain rfl:i=l.length:=by omega
 rw [List.drop_length,fidx] at hg
 simp [← hg]
 all_goals exact gz
theorem g_empC (l:List (List Rg)) (hl:l.length≤1000):Cf En 52 [.d (.sl (l.map rgD)),.clo 53 []] [] (.d (.bool (l.any fun p:List Rg=>p.length==0))) []:=by
 refine cf_intro mix (fn:=Tryz.f52) (by kernel_rfl) rfl (by kernel_rfl) (by decide) (by simp) ?_
 have h:=fidx_any (p:=fun p:List Rg=>p.length==0) (l:=l) (i:=0)
 have hc:=g_empI l hl
 generalize (l.any fun p:List Rg=>p.length==0)=A at *
 generalize fidx (fun p:List Rg=>p.length==0) l 0=F at *
 simp
 (repeat' (first|contradiction|exact .ok|apply And.intro|intro _|(refine gc (fun h=>?_) (fun h=>?_)<;>(have h':=h;(try simp at h');first|done|simp[h,h']|simp))))
 refine acallT_plain hc (by simp) ?_
 simp [h]
 all_goals exact gz
end Go.Proofs.Tryz
namespace Go.Proofs.Tryz
open Go.Ab
set_option maxRecDepth 100000
set_option maxHeartbeats 1000000
theorem fidx_at {α:Type} {p:α→Bool}:∀ {l:List α} {m k:Nat} {x:α},l[m]?=some x→p x=true→(∀ i y,i<m→l[i]?=some y→p y=false)→fidx p l k=(k:Int)+m
 | [],m,k,x,h,_,_=>by simp at h
 | y::l,0,k,x,h,hp,_=>by
   simp only [List.getElem?_cons_zero,Option.some.injEq] at h
   subst h
   rw [fidx,if_pos hp]; simp
 | y::l,m+1,k,x,h,hp,hn=>by
   rw [List.getElem?_cons_succ] at h
   rw [fidx,if_neg (by rw [hn 0 y (by omega) (by simp)]; simp),fidx_at (k:=k+1) h hp fun i z hi hz=>hn (i+1) z (by omega) (by simpa using hz)]
   omega
def upN (j:Nat):Nat→List Int
 | 0=>[]
 | n+1=>(j:Int)::upN (j+1) n
theorem upN_len:∀ (n j:Nat),(upN j n).length=n
 | 0,j=>rfl
 | n+1,j=>by rw [upN,List.length_cons,upN_len n]
theorem fkO_tab {S:List Tb} {j:Nat}:fkO S j=(tabO S j).fk:=by
 unfold fkO tabO
 cases S[j]? <;> rfl
theorem loopR_dec {S:List Tb} (hd:Dec S):∀ (n j:Nat) (out:List Int),j+n=S.length→loopR S n (fun k=>decide (k<j)) out=(out++upN j n,0)
 | 0,j,out,h=>by simp [loopR,upN]
 | n+1,j,out,h=>by
   have hr:nextR S (fun k=>decide (k<j))=j:=by
    unfold nextR
    have:=fidx_at (p:=rdyO S fun k=>decide (k<j)) (l:=seqF (fun k=>k) S.length) (m:=j) (k:=0) (x:=j) (by rw [seqF_get,if_pos (by omega)])
     (by
      unfold rdyO
      rw [fkO_tab]
      simp only [Nat.lt_irrefl,decide_false,Bool.not_false,Bool.true_and,List.all_eq_true,decide_eq_true_eq]
      intro g hg
      exact (hd j (by omega) g hg).2)
     (fun i y hi hy=>by
      rw [seqF_get,if_pos (by omega),Option.some.injEq] at hy
      subst hy
      unfold rdyO
      simp [hi])
    rw [this]; omega
   have hdn:dnO (fun k=>decide (k<j)) (j:Int)=fun k=>decide (k<j+1):=by
    funext k
    unfold dnO
    by_cases h1:k<j
    ·have h2:k<j+1:=by omega
     simp [h1,h2]
    ·by_cases h2:k=j
     ·subst h2; simp
     ·have h3:¬ (k:Int)=j:=by omega
      have h4:¬ k<j+1:=by omega
      simp [h1,h3,h4]
   rw [loopR,hr,if_neg (by omega),hdn,loopR_dec hd n (j+1) _ (by omega),upN,List.append_assoc]
   rfl
theorem miss_dec {S:List Tb} (hd:Dec S):missT S=false:=by
 cases hm:missT S with
 | false=>rfl
 | true =>
   exfalso
   unfold missT at hm
   obtain ⟨x,hx,hm1⟩:=List.any_eq_true.1 hm
   obtain ⟨g,hg,hm2⟩:=List.any_eq_true.1 hm1
   obtain ⟨k,hk,rfl⟩:=List.getElem_of_mem hx
   have ht:tabO S k=S[k]:=by unfold tabO; rw [List.getElem?_eq_getElem hk]; rfl
   have:=(hd k hk g (by rw [ht]; exact hg)).1
   have h2:tgt S g<0:=by simpa using hm2
   omega
theorem ordS_dec {S:List Tb} (hd:Dec S):ordS S=(upN 0 S.length,0):=by
 rw [ordS_ref,miss_dec hd,if_neg (by simp)]
 have:=loopR_dec hd S.length 0 [] (by omega)
 simpa using this
def WFix (S:List Tb) (A:WA) (R:WR) (j:Nat):Prop:=∀ k,k<j→∃ l r,A k=some l∧R k=some r∧regS S k l (wP S R k)=(0,r)
theorem wP_upd {S:List Tb} (hd:Dec S) {R:WR} {k j:Nat} {q:List Rg} (hk:k<S.length) (hkj:k≤j):wP S (upd R j (some q)) k=wP S R k:=by
 unfold wP
 apply List.map_congr_left
 intro g hg
 have:=(hd k hk g hg).2
 simp only [upd]
 rw [if_neg (by omega)]
theorem wfix_step {S:List Tb} (hd:Dec S) {A:WA} {R:WR} {j:Nat} {l:List At} {r:List Rg} (hj:j<S.length) (h:WFix S A R j) (hr:regS S j l (wP S R j)=(0,r)):WFix S (upd A j (some l)) (upd R j (some r)) (j+1):=fun k hk=>by
 rw [wP_upd hd (by omega) (by omega)]
 by_cases hkj:k=j
 ·subst hkj
  exact ⟨l,r,by simp [upd],by simp [upd],hr⟩
 ·obtain ⟨l',r',h1,h2,h3⟩:=h k (by omega)
  exact ⟨l',r',by simp [upd,hkj,h1],by simp [upd,hkj,h2],h3⟩
theorem world_fix (L:List Int) {S:List Tb} (hd:Dec S):∀ (n j:Nat) (A:WA) (R:WR) (i:Nat),j+n=S.length→WFix S A R j→(worldG L S (upN j n) A R i).ok=true→WFix S (worldG L S (upN j n) A R i).A (worldG L S (upN j n) A R i).R S.length
 | 0,j,A,R,i,h,w,_=>by
   have:j=S.length:=by omega
   subst this
   exact w
 | n+1,j,A,R,i,h,w,ok=>by
   rw [upN,worldG,Int.toNat_natCast] at ok ⊢
   by_cases hb:wBad (wQ L S R i j)=true
   ·rw [if_pos hb] at ok; cases ok
   ·rw [if_neg hb] at ok ⊢
    refine world_fix L hd n (j+1) _ _ _ (by omega) (wfix_step hd (by omega) w ?_) ok
    have hq:wBad (wQ L S R i j)=false:=by simpa using hb
    unfold wBad at hq
    rw [Bool.or_eq_false_iff,decide_eq_false_iff_not,decide_eq_false_iff_not] at hq
    have h0:(wQ L S R i j).1=0:=by omega
    show wQ L S R i j=(0,(wQ L S R i j).2)
    rw [← h0]
end Go.Proofs.Tryz
