import Derived.Test.YtkkbepgccddjoaaGreatDoorCSty
import Derived.Test.YtkkbepgccddjoaaGreatDoorCSmc
import Derived.Test.YtkkbepgccddjoaaGreatDoorPat
import Derived.Test.YtkkbepgccddjoaaGreatDoorCSmn
import Derived.Test.YtkkbepgccddjoaaGreatDoorCClo
import Derived.Test.YtkkbepgccddjoaaGreatDoorSrA
import Derived.Test.YtkkbepgccddjoaaGreatDoorAbB
import Derived.Test.YtkkbepgccddjoaaGreatDoorCKys
set_option linter.all false
namespace Go.Proofs.Tryz
open Go.Ab
set_option maxRecDepth 100000
set_option maxHeartbeats 8000000
structure Vw where
 tb:List UInt8
 path:List Int
 cond:List Ex
def Vw.c (v:Vw):List D:=[.str v.tb,.sl (aD v.path),.sl (v.cond.map Ex.c)]
def Vw.a (v:Vw):AV:=.agg (v.c.map AV.d)
def fC (S:List Tb) (k:Nat) (f:Int):Option Nat:=if 0≤f then match (aR S k).fk[f.toNat]? with
 | some g=>if 0≤tgt S g then some (eR S g) else none
 | none=>none
 else none
def LB (S:List Tb):Nat→List Int→Option (List Nat)
 | _,[]=>some []
 | k,f::r=>match fC S k f with
   | some m=>(LB S m r).map (m::·)
   | none=>none
def mV (S:List Tb) (n:List UInt8):Int:=aV (fun x:Tb=>x.n==n) S 0
def dW (S:List Tb) (v:Vw):Option (List Nat):=if 0≤mV S v.tb then (LB S (mV S v.tb).toNat v.path).map ((mV S v.tb).toNat::·) else none
def lP (o:Option (List Nat)):AV:=match o with
 | some l=>.tup [.d (.sl (aD (aJ l))),.d (.bool true)]
 | none=>.tup [.d (.sl []),.d (.bool false)]
theorem QB {S:List Tb} {k m:Nat} {f:Int} (h:fC S k f=some m):m<S.length:=by
 unfold fC at h
 split at h
 ·split at h
  ·rename_i g _
   split at h
   ·rename_i h0
    cases h
    have:=wB (p:=fun x:Tb=>x.n==g.t) (l:=S) (i:=0)
    unfold eR tgt at *
    omega
   ·cases h
  ·cases h
 ·cases h
theorem aAd (S:List Tb) (hl:S.length≤1000) (hS:∀ x∈S,x.ok) {k:Nat} (hk:k<S.length) (f:Int) :
  Cf En 85 [aN S,.d (.int .i64 k),.d (.int .i64 f)] [] (match fC S k f with | some m=>.tup [.d (.int .i64 m),.d (.bool true)] | none=>.tup [.d (.int .i64 0),.d (.bool false)]) []:=by
 have htab:aR S k=S[k]:=by unfold aR; rw [gE hk]; rfl
 have hfk:=(hS S[k] (List.getElem_mem hk)).fk
 by_cases h0:0≤f
 ·by_cases hlt:f.toNat<S[k].fk.length
  ·have hgf:(aR S k).fk[f.toNat]?=some S[k].fk[f.toNat]:=by rw [htab,gE hlt]
   have h:=EH S hl hS hk rfl hlt rfl
   rw [Int.toNat_of_nonneg h0] at h
   unfold fC
   rw [if_pos h0,hgf]
   simp only
   unfold place at h
   by_cases ht:0≤tgt S S[k].fk[f.toNat]
   ·rw [if_pos ht]
    have e:aV (fun x:Tb=>x.n==S[k].fk[f.toNat].t) S 0=(eR S S[k].fk[f.toNat]:Int):=by
     have:aV (fun x:Tb=>x.n==S[k].fk[f.toNat].t) S 0=tgt S S[k].fk[f.toNat]:=rfl
     rw [this]; unfold eR; omega
    have:=cN e
    unfold place at this
    rw [this] at h
    exact h
   ·rw [if_neg ht]
    have e:aV (fun x:Tb=>x.n==S[k].fk[f.toNat].t) S 0<0:=by
     have:aV (fun x:Tb=>x.n==S[k].fk[f.toNat].t) S 0=tgt S S[k].fk[f.toNat]:=rfl
     rw [this]; omega
    have e1:max (aV (fun x:Tb=>x.n==S[k].fk[f.toNat].t) S 0) 0=0:=by omega
    have e2:decide (0≤aV (fun x:Tb=>x.n==S[k].fk[f.toNat].t) S 0)=false:=by simp; omega
    rw [e1,e2] at h
    exact h
  ·have hn:(aR S k).fk[f.toNat]?=none:=by rw [htab]; exact List.getElem?_eq_none (by omega)
   have hs:fC S k f=none:=by unfold fC; rw [if_pos h0,hn]
   rw [hs]
   refine cI aW (fn:=Tryz.f85) rfl ?_
   have h1:¬ (k:Int)<0:=by omega
   have h2:¬ f<0:=by omega
   have h3:¬ (S.length:Int)≤k:=by omega
   have h4:(S[k].fk.length:Int)≤f:=by omega
   simp [aN,h1,h2,h3,hk,Tb.c,h4]
   (repeat' first|contradiction|exact .ok|apply And.intro|intro _|(apply gc<;>simp+contextual[h1,h2,h3,hk,Tb.c,h4]))
 ·have hs:fC S k f=none:=by unfold fC; rw [if_neg h0]
  rw [hs]
  refine cI aW (fn:=Tryz.f85) rfl ?_
  have h1:¬ (k:Int)<0:=by omega
  have h2:f<0:=by omega
  have h3:¬ (S.length:Int)≤k:=by omega
  simp [aN,h1,h2,h3,hk,Tb.c]
  (repeat' first|contradiction|exact .ok|apply And.intro|intro _|(apply gc<;>simp+contextual[h1,h2,h3,hk,Tb.c]))
def aFk (S:List Tb) (k0:Nat) (path:List Int) (y:Nat×List Nat×Nat):Prop:=y.1≤path.length∧y.2.1.length=y.1∧y.2.2<S.length∧LB S k0 path=(LB S y.2.2 (path.drop y.1)).map (y.2.1++·)
theorem WP {S:List Tb} {k0:Nat} {path:List Int} {y:Nat×List Nat×Nat} (h:aFk S k0 path y) (hl:y.1<path.length) :
  (fC S y.2.2 path[y.1]=none→LB S k0 path=none)∧∀ m,fC S y.2.2 path[y.1]=some m→aFk S k0 path (y.1+1,y.2.1++[m],m):=by
 obtain ⟨i,l,k⟩:=y
 obtain ⟨h1,h2,h3,h4⟩:=h
 simp only at hl h1 h2 h3 h4 ⊢
 rw [List.drop_eq_getElem_cons hl,LB] at h4
 refine ⟨fun hn=>?_,fun m hm=>⟨by simp only; omega,by simp [h2],QB hm,?_⟩⟩
 ·rw [hn] at h4
  simpa using h4
 ·rw [hm] at h4
  simp only at h4 ⊢
  rw [h4,Option.map_map]
  congr 1
  funext z
  simp
theorem cH (l:List Nat):(aD (aJ l)).length=l.length:=by simp [aD,aJ]
theorem fX (S:List Tb) (hl:S.length≤1000) (hS:∀ x∈S,x.ok) (v:Vw) (hv:v.path.length≤50000) :
  Cf En 53 [aN S,v.a] [] (lP (dW S v)) []:=by
 refine cI aW (fn:=Tryz.f53) rfl ?_
 have hfi:=xT S hl v.tb
 have hub:=wB (p:=fun x:Tb=>x.n==v.tb) (l:=S) (i:=0)
 unfold dW mV
 by_cases h0:0≤aV (fun x:Tb=>x.n==v.tb) S 0
 ·obtain ⟨k0,hk0⟩:∃ k:Nat,aV (fun x:Tb=>x.n==v.tb) S 0=k:=⟨(aV (fun x:Tb=>x.n==v.tb) S 0).toNat,by omega⟩
  rw [cN hk0] at hfi
  rw [hk0]
  have hk:k0<S.length:=by omega
  have hif:(0:Int)≤(k0:Int):=by omega
  rw [if_pos hif,Int.toNat_natCast]
  simp [aN,Vw.a,Vw.c]
  (repeat' first|contradiction|exact .ok|apply And.intro|intro _|(apply gc<;>simp+contextual))
  refine aA hfi (by simp [aN]) ?_
  simp
  (repeat' first|contradiction|exact .ok|apply And.intro|intro _|(apply gc<;>simp+contextual))
  refine aL aW (fun y:Nat×List Nat×Nat=>{ s:=cE [(2,.ptr 2 0 0),(6,.d (.int .i64 y.2.2)),(8,.ref 908 0 (y.1+1) 1),(23,.d (.sl (aD v.path))),(24,.d (.int .i64 v.path.length)),(25,.d (.int .i64 y.1))],b:=cC [(2,2,.var [.d (.sl (S.map Tb.c))]),(908,908,.arr 3 1 (aD (aJ (k0::y.2.1))) false)] })
   (aFk S k0 v.path) (fun y=>v.path.length - y.1) (0,[],k0) ⟨by simp,rfl,hk,by simp⟩
   (sM _ [(2,2,_),(908,21,_)] (by simp [aB,Blk.live,aD,aJ]) (by simp [aB])) ?_
  rintro ⟨i,l,k⟩ hI
  have hst:=WP hI
  obtain ⟨i1,i2,i3,i4⟩:=hI
  simp only at i1 i2 i3 i4 hst
  have hll:=cH (k0::l)
  by_cases hlt:i<v.path.length
  ·obtain ⟨s1,s2⟩:=hst hlt
   have hta:=aAd S hl hS i3 v.path[i]
   have hw:=wI (n:=(i:Int)+1)
   generalize hf:v.path[i]=f at *
   have hgf:∀ h,v.path[i]'h=f:=fun _=>hf
   cases hs:fC S k f with
   | none =>
     rw [hs] at hta
     rw [s1 hs]
     simp [hlt,hgf]
     (repeat' first|contradiction|exact .ok|apply And.intro|intro _|(apply gc<;>simp+contextual))
     refine aA hta (by simp [aN]) ?_
     simp [lP]
     all_goals exact gz
   | some m =>
     rw [hs] at hta
     have hn:=s2 m hs
     have htk:(aD (aJ (k0::l))).take (i+1)=aD (aJ (k0::l)):=List.take_of_length_le (by rw [hll]; simp [i2])
     have happ:aD (aJ (k0::(l++[m])))=aD (aJ (k0::l))++[[.int .i64 m]]:=by simp [aD,aJ]
     have hlen:(aD (aJ (k0::l))).length=i+1:=by rw [hll]; simp [i2]
     generalize aD (aJ (k0::l))=Z at *
     simp [hlt,hgf]
     (repeat' first|contradiction|exact .ok|apply And.intro|intro _|(apply gc<;>simp+contextual))
     refine aA hta (by simp [aN]) ?_
     simp [hlen,gF (i+1+1) (by omega) 8 (by decide)]
     (repeat' first|contradiction|exact .ok|apply And.intro|intro _|(apply gc<;>simp+contextual))
     refine ⟨(i+1,l++[m],m),hn,?_,by simp; omega⟩
     simp only [happ]
     exact sM _ [(2,2,_),(908,41,_)] (by simp [aB,Blk.live]) (by simp [aB,hw])
  obtain rfl:i=v.path.length:=by omega
  have hfin:LB S k0 v.path=some l:=by rw [i4,List.drop_length,LB]; simp
  have htk:(aD (aJ (k0::l))).take (v.path.length+1)=aD (aJ (k0::l)):=List.take_of_length_le (by rw [hll]; simp [i2])
  have hlen:(aD (aJ (k0::l))).length=v.path.length+1:=by rw [hll]; simp [i2]
  rw [hfin]
  simp only [Option.map_some,lP]
  generalize aD (aJ (k0::l))=Z at *
  simp [hlen,htk]
  all_goals exact gz
 ·rw [if_neg h0]
  unfold place at hfi
  have e1:max (aV (fun x:Tb=>x.n==v.tb) S 0) 0=0:=by omega
  have e2:decide (0≤aV (fun x:Tb=>x.n==v.tb) S 0)=false:=by simp; omega
  rw [e1,e2] at hfi
  simp [aN,Vw.a,Vw.c]
  (repeat' first|contradiction|exact .ok|apply And.intro|intro _|(apply gc<;>simp+contextual))
  refine aA hfi (by simp [aN]) ?_
  simp [lP]
  all_goals exact gz
theorem DP (S:List Tb) (hl:S.length≤1000) (hS:∀ x∈S,x.ok) {k:Nat} (hk:k<S.length) (f:Int) :
  Cf En 43 [aN S,.d (.int .i64 k),.d (.int .i64 f)] [] (match fC S k f with | some m=>.tup [.d (.int .i64 m),.d (.bool true)] | none=>.tup [.d (.int .i64 0),.d (.bool false)]) []:=by
 have htab:aR S k=S[k]:=by unfold aR; rw [gE hk]; rfl
 have hfk:=(hS S[k] (List.getElem_mem hk)).fk
 by_cases h0:0≤f
 ·by_cases hlt:f.toNat<S[k].fk.length
  ·have hgf:(aR S k).fk[f.toNat]?=some S[k].fk[f.toNat]:=by rw [htab,gE hlt]
   have h:=gH S hl hS hk rfl hlt rfl
   rw [Int.toNat_of_nonneg h0] at h
   unfold fC
   rw [if_pos h0,hgf]
   simp only
   unfold place at h
   by_cases ht:0≤tgt S S[k].fk[f.toNat]
   ·rw [if_pos ht]
    have e:aV (fun x:Tb=>x.n==S[k].fk[f.toNat].t) S 0=(eR S S[k].fk[f.toNat]:Int):=by
     have:aV (fun x:Tb=>x.n==S[k].fk[f.toNat].t) S 0=tgt S S[k].fk[f.toNat]:=rfl
     rw [this]; unfold eR; omega
    have:=cN e
    unfold place at this
    rw [this] at h
    exact h
   ·rw [if_neg ht]
    have e:aV (fun x:Tb=>x.n==S[k].fk[f.toNat].t) S 0<0:=by
     have:aV (fun x:Tb=>x.n==S[k].fk[f.toNat].t) S 0=tgt S S[k].fk[f.toNat]:=rfl
     rw [this]; omega
    have e1:max (aV (fun x:Tb=>x.n==S[k].fk[f.toNat].t) S 0) 0=0:=by omega
    have e2:decide (0≤aV (fun x:Tb=>x.n==S[k].fk[f.toNat].t) S 0)=false:=by simp; omega
    rw [e1,e2] at h
    exact h
  ·have hn:(aR S k).fk[f.toNat]?=none:=by rw [htab]; exact List.getElem?_eq_none (by omega)
   have hs:fC S k f=none:=by unfold fC; rw [if_pos h0,hn]
   rw [hs]
   refine cI aW (fn:=Tryz.f43) rfl ?_
   have h1:¬ (k:Int)<0:=by omega
   have h2:¬ f<0:=by omega
   have h3:¬ (S.length:Int)≤k:=by omega
   have h4:(S[k].fk.length:Int)≤f:=by omega
   simp [aN,h1,h2,h3,hk,Tb.c,h4]
   (repeat' first|contradiction|exact .ok|apply And.intro|intro _|(apply gc<;>simp+contextual[h1,h2,h3,hk,Tb.c,h4]))
 ·have hs:fC S k f=none:=by unfold fC; rw [if_neg h0]
  rw [hs]
  refine cI aW (fn:=Tryz.f43) rfl ?_
  have h1:¬ (k:Int)<0:=by omega
  have h2:f<0:=by omega
  have h3:¬ (S.length:Int)≤k:=by omega
  simp [aN,h1,h2,h3,hk,Tb.c]
  (repeat' first|contradiction|exact .ok|apply And.intro|intro _|(apply gc<;>simp+contextual[h1,h2,h3,hk,Tb.c]))
theorem kF (S:List Tb) (hl:S.length≤1000) (hS:∀ x∈S,x.ok) (v:Vw) (hv:v.path.length≤50000) :
  Cf En 60 [aN S,v.a] [] (lP (dW S v)) []:=by
 refine cI aW (fn:=Tryz.f60) rfl ?_
 have hfi:=wJ S hl v.tb
 have hub:=wB (p:=fun x:Tb=>x.n==v.tb) (l:=S) (i:=0)
 unfold dW mV
 by_cases h0:0≤aV (fun x:Tb=>x.n==v.tb) S 0
 ·obtain ⟨k0,hk0⟩:∃ k:Nat,aV (fun x:Tb=>x.n==v.tb) S 0=k:=⟨(aV (fun x:Tb=>x.n==v.tb) S 0).toNat,by omega⟩
  rw [cN hk0] at hfi
  rw [hk0]
  have hk:k0<S.length:=by omega
  have hif:(0:Int)≤(k0:Int):=by omega
  rw [if_pos hif,Int.toNat_natCast]
  simp [aN,Vw.a,Vw.c]
  (repeat' first|contradiction|exact .ok|apply And.intro|intro _|(apply gc<;>simp+contextual))
  refine aA hfi (by simp [aN]) ?_
  simp
  (repeat' first|contradiction|exact .ok|apply And.intro|intro _|(apply gc<;>simp+contextual))
  refine aL aW (fun y:Nat×List Nat×Nat=>{ s:=cE [(2,.ptr 2 0 0),(3,.ptr 3 0 0),(8,.ref 908 0 (y.1+1) 1),(9,.d (.int .i64 y.1))],b:=cC [(2,2,.var [.d (.sl (S.map Tb.c))]),(3,3,.var (v.c.map AV.d)),(908,908,.arr 3 1 (aD (aJ (k0::y.2.1))) false)] })
   (fun y=>aFk S k0 v.path y∧(k0::y.2.1)[y.1]?=some y.2.2) (fun y=>v.path.length - y.1) (0,[],k0) ⟨⟨by simp,rfl,hk,by simp⟩,by simp⟩
   (sM _ [(2,2,_),(3,3,_),(908,22,_)] (by simp [aB,Blk.live,aD,aJ,Vw.c]) (by simp [aB])) ?_
  rintro ⟨i,l,k⟩ ⟨hI,hlast⟩
  have hst:=WP hI
  obtain ⟨i1,i2,i3,i4⟩:=hI
  simp only at i1 i2 i3 i4 hst hlast
  have hll:=cH (k0::l)
  by_cases hlt:i<v.path.length
  ·obtain ⟨s1,s2⟩:=hst hlt
   have hta:=DP S hl hS i3 v.path[i]
   have hw:=wI (n:=(i:Int)+1)
   generalize hf:v.path[i]=f at *
   have hgf:∀ h,v.path[i]'h=f:=fun _=>hf
   have hcell:(aD (aJ (k0::l)))[i]?=some [.int .i64 k]:=by
    unfold aD aJ
    rw [List.map_map,List.getElem?_map,hlast]; rfl
   have hgc:∀ h,(aD (aJ (k0::l)))[i]'h=[.int .i64 k]:=fun h=>by
    rw [gE h] at hcell; exact Option.some.inj hcell
   cases hs:fC S k f with
   | none =>
     rw [hs] at hta
     rw [s1 hs]
     generalize aD (aJ (k0::l))=Z at *
     simp [hlt,hgf,Vw.c,hgc,hll,i2]
     (repeat' first|contradiction|exact .ok|apply And.intro|intro _|(apply gc<;>simp+contextual))
     refine aA hta (by simp [aN]) ?_
     simp [lP]
     all_goals exact gz
   | some m =>
     rw [hs] at hta
     have hn:=s2 m hs
     have htk:(aD (aJ (k0::l))).take (i+1)=aD (aJ (k0::l)):=List.take_of_length_le (by rw [hll]; simp [i2])
     have happ:aD (aJ (k0::(l++[m])))=aD (aJ (k0::l))++[[.int .i64 m]]:=by simp [aD,aJ]
     have hlen:(aD (aJ (k0::l))).length=i+1:=by rw [hll]; simp [i2]
     have hl2:(k0::(l++[m]))[i+1]?=some m:=by
      rw [List.getElem?_cons_succ,List.getElem?_append_right (by omega),i2]; simp
     generalize aD (aJ (k0::l))=Z at *
     simp [hlt,hgf,Vw.c,hgc,hlen]
     (repeat' first|contradiction|exact .ok|apply And.intro|intro _|(apply gc<;>simp+contextual))
     refine aA hta (by simp [aN]) ?_
     simp [hlen,gF (i+1+1) (by omega) 8 (by decide)]
     (repeat' first|contradiction|exact .ok|apply And.intro|intro _|(apply gc<;>simp+contextual))
     refine ⟨(i+1,l++[m],m),⟨hn,hl2⟩,?_,by simp; omega⟩
     simp only [happ]
     exact sM _ [(2,2,_),(3,3,_),(908,49,_)] (by simp [aB,Blk.live]) (by simp [aB,hw])
  obtain rfl:i=v.path.length:=by omega
  have hfin:LB S k0 v.path=some l:=by rw [i4,List.drop_length,LB]; simp
  have htk:(aD (aJ (k0::l))).take (v.path.length+1)=aD (aJ (k0::l)):=List.take_of_length_le (by rw [hll]; simp [i2])
  have hlen:(aD (aJ (k0::l))).length=v.path.length+1:=by rw [hll]; simp [i2]
  rw [hfin]
  simp only [Option.map_some,lP]
  generalize aD (aJ (k0::l))=Z at *
  simp [hlen,htk,Vw.c]
  all_goals exact gz
 ·rw [if_neg h0]
  unfold place at hfi
  have e1:max (aV (fun x:Tb=>x.n==v.tb) S 0) 0=0:=by omega
  have e2:decide (0≤aV (fun x:Tb=>x.n==v.tb) S 0)=false:=by simp; omega
  rw [e1,e2] at hfi
  simp [aN,Vw.a,Vw.c]
  (repeat' first|contradiction|exact .ok|apply And.intro|intro _|(apply gc<;>simp+contextual))
  refine aA hfi (by simp [aN]) ?_
  simp [lP]
  all_goals exact gz
def cA (S:List Tb) (l:List Nat):List Col:=l.flatMap fun k=>(aR S k).cols
def iF (S:List Tb) (i:Nat):List Nat→Int→Int×Int×Bool
 | [],_=>(0,0,false)
 | k::r,c=>if c<(aR S k).cols.length then ((i:Int),c,decide (0≤c)) else iF S (i+1) r (c - (aR S k).cols.length)
theorem yJ (S:List Tb) (hS:∀ x∈S,x.ok) (l:List Nat) (hl:l.length≤100000) (hr:∀ k∈l,k<S.length) (c:Int) (hc:c<9223372036854775807) :
  Cf En 137 [aN S,.d (.sl (aD (aJ l))),.d (.int .i64 c)] [] (.tup [.d (.int .i64 (iF S 0 l c).1),.d (.int .i64 (iF S 0 l c).2.1),.d (.bool (iF S 0 l c).2.2)]) []:=by
 refine cI aW (fn:=Tryz.f137) rfl ?_
 have hnl:=cH l
 have hga:∀ i (h:i<l.length),∀ h',(aD (aJ l))[i]'h'=[.int .i64 (l[i]:Int)]:=fun i h h'=>by simp [aD,aJ]
 generalize hZ:aD (aJ l)=Z at *
 simp [aN,hnl]
 (repeat' first|contradiction|exact .ok|apply And.intro|intro _|(apply gc<;>simp+contextual))
 refine aL aW (fun y:Nat×Int=>{ s:=cE [(2,.d (.int .i64 y.2)),(3,.ptr 3 0 0),(12,.d (.sl Z)),(13,.d (.int .i64 l.length)),(14,.d (.int .i64 y.1))],b:=cC [(3,3,.var [.d (.sl (S.map Tb.c))])] })
  (fun y=>y.1≤l.length∧y.2<9223372036854775807∧iF S 0 l c=iF S y.1 (l.drop y.1) y.2) (fun y=>l.length - y.1) (0,c) ⟨by simp,hc,by simp⟩
  (sM _ [(3,3,_)] (by simp [aB,Blk.live]) (by simp [aB])) ?_
 rintro ⟨i,d⟩ ⟨hi,hd,hp⟩
 simp only at hi hd hp
 by_cases hlt:i<l.length
 ·have hw:=wI (n:=(i:Int)+1)
  have hk:=hr l[i] (List.getElem_mem hlt)
  rw [List.drop_eq_getElem_cons hlt,iF] at hp
  have htab:aR S l[i]=S[l[i]]:=by unfold aR; rw [gE hk]; rfl
  rw [htab] at hp
  have hcl:=(hS _ (List.getElem_mem hk)).cols
  have hgl:=hga i hlt
  have hiZ:i<Z.length:=by omega
  generalize hkk:l[i]=k at *
  obtain ⟨x,hx⟩:∃ x,x=S[k]:=⟨_,rfl⟩
  have hgx:∀ h,S[k]'h=x:=fun _=>hx.symm
  rw [← hx] at hp hcl
  by_cases hdc:d<x.cols.length
  ·rw [if_pos hdc] at hp
   rw [hp]
   simp [hlt,hiZ,hgl,hk,hgx,Tb.c,hdc]
   (repeat' first|contradiction|exact .ok|apply And.intro|intro _|(apply gc<;>simp+contextual[hdc]))
  ·rw [if_neg hdc] at hp
   have hwd:=wI (n:=d - x.cols.length)
   simp [hlt,hiZ,hgl,hk,hgx,Tb.c,hdc]
   (repeat' first|contradiction|exact .ok|apply And.intro|intro _|(apply gc<;>simp+contextual[hdc]))
   refine ⟨(i+1,d - x.cols.length),⟨by simp only; omega,by simp only; omega,hp⟩,?_,by simp; omega⟩
   exact sM _ [(3,3,_)] (by simp [aB,Blk.live]) (by simp [aB,hw,hwd])
 obtain rfl:i=l.length:=by omega
 rw [List.drop_length,iF] at hp
 rw [hp]
 simp
 all_goals exact gz
def WO (S:List Tb) (v:Vw):List Col:=match dW S v with
 | some l=>cA S l
 | none=>[]
theorem aDf {S:List Tb}:∀ {path:List Int} {k:Nat} {l:List Nat},LB S k path=some l→(∀ m∈l,m<S.length)∧l.length=path.length
 | [],k,l,h=>by
   simp only [LB,Option.some.injEq] at h
   subst h
   simp
 | f::r,k,l,h=>by
   rw [LB] at h
   split at h
   ·rename_i m hm
    rw [Option.map_eq_some_iff] at h
    obtain ⟨l',h1,rfl⟩:=h
    obtain ⟨a,b⟩:=aDf h1
    refine ⟨fun q hq=>?_,by simp [b]⟩
    rcases List.mem_cons.1 hq with rfl | hq
    ·exact QB hm
    ·exact a q hq
   ·cases h
theorem cK {S:List Tb} {v:Vw} {l:List Nat} (h:dW S v=some l):(∀ m∈l,m<S.length)∧l.length=v.path.length+1:=by
 unfold dW at h
 split at h
 ·rename_i h0
  rw [Option.map_eq_some_iff] at h
  obtain ⟨l',h1,rfl⟩:=h
  obtain ⟨a,b⟩:=aDf h1
  have:=wB (p:=fun x:Tb=>x.n==v.tb) (l:=S) (i:=0)
  refine ⟨fun q hq=>?_,by simp [b]⟩
  rcases List.mem_cons.1 hq with rfl | hq
  ·unfold mV at *; omega
  ·exact a q hq
 ·cases h
theorem QA (S:List Tb) (hl:S.length≤1000) (hS:∀ x∈S,x.ok) (v:Vw) (hv:v.path.length≤50) :
  Cf En 91 [aN S,v.a] [] (.d (.sl ((WO S v).map Col.c))) []:=by
 refine cI aW (fn:=Tryz.f91) rfl ?_
 have ht:=fX S hl hS v (by omega)
 unfold WO
 cases hc:dW S v with
 | none =>
   rw [hc] at ht
   simp [aN,Vw.a,Vw.c] at ht ⊢
   (repeat' first|contradiction|exact .ok|apply And.intro|intro _|(apply gc<;>simp+contextual))
   refine aP ht ?_
   simp [lP]
   (repeat' first|contradiction|exact .ok|apply And.intro|intro _|(apply gc<;>simp+contextual))
   refine aL aW (fun _:Unit=>{ s:=cE [(7,.nils),(17,.d (.int .i64 0)),(18,.d (.int .i64 0))],b:=cC [] }) (fun _=>True) (fun _=>0) () trivial (aI _ [] .nil (by simp)) ?_
   intro _ _
   simp
   all_goals exact gz
 | some l =>
   rw [hc] at ht
   obtain ⟨h1,h2⟩:=cK hc
   have hnl:=cH l
   have hga:∀ i (h:i<l.length),∀ h',(aD (aJ l))[i]'h'=[.int .i64 (l[i]:Int)]:=fun i h h'=>by simp [aD,aJ]
   unfold lP at ht
   simp only at ht ⊢
   generalize hZ:aD (aJ l)=Z at *
   simp [aN,Vw.a,Vw.c] at ht ⊢
   (repeat' first|contradiction|exact .ok|apply And.intro|intro _|(apply gc<;>simp+contextual))
   refine aP ht ?_
   simp [hnl]
   (repeat' first|contradiction|exact .ok|apply And.intro|intro _|(apply gc<;>simp+contextual))
   refine aL aW (fun i:Nat=>{ s:=cE [(2,.ptr 2 0 0),(7,.ref 907 0 (cA S (l.take i)).length 3),(16,.d (.sl Z)),(17,.d (.int .i64 l.length)),(18,.d (.int .i64 i))],b:=cC [(2,2,.var [.d (.sl (S.map Tb.c))]),(907,907,.arr 85 3 ((cA S (l.take i)).map Col.c) false)] })
    (fun i=>i≤l.length∧(cA S (l.take i)).length≤1000*i) (fun i=>l.length - i) 0 ⟨by simp,by simp [cA]⟩
    (fD 7 907 85 3 (by simp) (by simp) (by decide) (by decide) _ [(2,2,_),(907,907,_)] ⟨by simp,by simp,by simp [aB,Blk.live,cA],by simp⟩ (by simp [aB,cA])) ?_
   rintro i ⟨hi,hCl⟩
   by_cases hlt:i<l.length
   ·have hw:=wI (n:=(i:Int)+1)
    have hk:=h1 l[i] (List.getElem_mem hlt)
    have htab:aR S l[i]=S[l[i]]:=by unfold aR; rw [gE hk]; rfl
    have hcl:=(hS _ (List.getElem_mem hk)).cols
    have hsu:cA S (l.take (i+1))=cA S (l.take i)++S[l[i]].cols:=by
     unfold cA
     rw [bI hlt,List.flatMap_append]
     simp [htab]
    have hgl:=hga i hlt
    have hiZ:i<Z.length:=by omega
    generalize hkk:l[i]=k at *
    obtain ⟨x,hx⟩:∃ x,x=S[k]:=⟨_,rfl⟩
    have hgx:∀ h,S[k]'h=x:=fun _=>hx.symm
    rw [← hx] at hcl hsu
    generalize cA S (l.take i)=C at *
    have htk:(C.map Col.c).take C.length=C.map Col.c:=List.take_of_length_le (by simp)
    have hz:=gF C.length (by omega) 32 (by decide)
    have hz2:=gF (C.length+x.cols.length) (by omega) 32 (by decide)
    simp [show ∀ u:Col,u.c.length=3 from fun _=>rfl,hlt,hiZ,hgl,hk,hgx,Tb.c,htk,hz2]
    (repeat' first|contradiction|exact .ok|apply And.intro|intro _|(apply gc<;>simp+contextual))
    refine ⟨i+1,⟨by omega,by rw [hsu,List.length_append]; omega⟩,?_,by simp; omega⟩
    simp only [hsu]
    exact sM _ [(2,2,_),(907,29,_)] (by simp [aB,Blk.live]) (by simp [aB,hw])
   obtain rfl:i=l.length:=by omega
   rw [List.take_length] at *
   have htk:((cA S l).map Col.c).take (cA S l).length=(cA S l).map Col.c:=List.take_of_length_le (by simp)
   simp [htk]
   all_goals exact gz
theorem aDc (l:List At) (hl:l.length≤1000):Cf En 184 [.d (.sl (l.map At.c))] [] (.ref 1000000 0 l.length 5) [.arr 94 5 (l.map At.c) false]:=by
 refine cJ aW (fn:=Tryz.f184) rfl ?_
 cases l with
 | nil =>
   simp
   (repeat' first|contradiction|exact .ok|apply And.intro|intro _|(apply gc<;>simp+contextual))
   ·refine EndsS.mk _ (pL (i:=2) (m:=9) (ety:=94) (sz:=5) (by simp) ?_ (by decide) (by decide)) ?_
    ·simp
    ·exact ⟨_,[(1000000,9,.arr 94 5 [] false)],by simp; rfl,⟨by simp,by simp,by simp [aB,Blk.live],by simp⟩,by simp [List.zipIdx,aM],by simp [aB]⟩
   ·refine EndsS.mk _ (.refl _ _ _ _) ?_
    exact ⟨_,[(1000000,7,.arr 94 5 [] false)],by simp; rfl,⟨by simp,by simp,by simp [aB,Blk.live],by simp⟩,by simp [List.zipIdx,aM],by simp [aB]⟩
 | cons a l =>
   have hs:=gF (l.length+1) (by simp at hl; omega) 48 (by decide)
   have hs2:=gF l.length (by simp at hl; omega) 48 (by decide)
   have hall:∀ x∈l,x.c.length=5:=fun _ _=>rfl
   simp [hs,At.c]
   (repeat' first|contradiction|exact .ok|apply And.intro|intro _|(apply gc<;>simp+contextual))
   refine EndsS.mk _ (.refl _ _ _ _) ?_
   exact ⟨_,[(1000000,7,.arr 94 5 ((a::l).map At.c) false)],by simp; rfl,⟨by simp,by simp,by simp [aB,Blk.live,At.c],by simp⟩,by simp [List.zipIdx,aM]; rfl,by simp [aB]⟩
def FK (l:List At):List At:=cW (fA l)
theorem kL (l:List At) (hl:l.length≤12):Cf En 140 [.d (.sl (l.map At.c))] [] (.d (.sl ((FK l).map At.c))) []:=by
 refine cI aW (fn:=Tryz.f140) rfl ?_
 have h1:=aDc l (by omega)
 have h2:=TU l hl
 have h3:=aCJ (fA l) (by rw [uH]; omega)
 have h4:=EA (fA l)
 rw [uH] at h3 h4
 unfold FK
 have htk:∀ z:List (List D),((cW (fA l)).map At.c++z).take (cW (fA l)).length=(cW (fA l)).map At.c:=fun z=>by rw [List.take_append_of_le_length (by simp),List.take_of_length_le (by simp)]
 simp
 (repeat' first|contradiction|exact .ok|apply And.intro|intro _|(apply gc<;>simp+contextual))
 refine eM [] h1 (by simp) (by simp) (by simp) (by simp) (by simp) (by simp) (by simp) ?_
 simp
 (repeat' first|contradiction|exact .ok|apply And.intro|intro _|(apply gc<;>simp+contextual))
 refine aH [6000] h2 (by simp) (by simp) ?_
 simp
 (repeat' first|contradiction|exact .ok|apply And.intro|intro _|(apply gc<;>simp+contextual))
 refine aH [6000] h3 (by simp) (by simp) ?_
 simp [htk]
 all_goals exact gz
def qR (o:Int) (n:Nat):Bool:=(o==22||o==23)&&n==2||o==24&&n==1
def rtB (x:Tb) (q:AV):List Blk:=[.var [.clo 181 [.ptr 1000000 0 0,.ptr 1000001 0 0,.ptr 1000002 0 0]],.var (x.c.map AV.d),.var [q]]
theorem AD {o:Int} {n:Nat} (h:qR o n=false):¬ ((o=22∨o=23)∧n=2)∧¬ (o=24∧n=1):=by
 unfold qR at h
 simp at h
 refine ⟨fun e=>?_,fun e=>?_⟩
 ·have:=h.1 e.1; omega
 ·have:=h.2 e.1; omega
theorem ZC (x:Tb) (hx:x.ok) (ht:∀ c∈x.cols,c.t=1∨c.t=2∨c.t=3) (o c n g:Int) (t:List UInt8) (ks:List Ex) (q:Nat) (hq:(Ex.mk o c n t g ks).few q=true) (hs:qR o ks.length=false) :
  Cf Es 181 [(Ex.mk o c n t g ks).a,.ptr 1000000 0 0,.ptr 1000001 0 0,.ptr 1000002 0 0] (rtB x .nils) (.d (.bool (mM x (.mk o c n t g ks)))) (rtB x (.ref 1000003 0 1 5)++[.arr 94 5 [(eH (.mk o c n t g ks)).c] false]):=by
 have ha:=aBQ x hx ht (.mk o c n t g ks) q hq
 obtain ⟨s1,s2⟩:=AD hs
 generalize mM x (.mk o c n t g ks)=B at *
 generalize eH (.mk o c n t g ks)=a at *
 refine cJ bM (fn:=Tryz.f181) rfl ?_
 by_cases o22:o=22
 ·have hl:¬ ks.length=2:=fun e=>s1 ⟨.inl o22,e⟩
  have hli:¬ (ks.length:Int)=2:=by omega
  subst o22
  simp [Ex.a,Ex.c,aE,Tb.a,Tb.c,At.a,rtB,hli] at ha ⊢
  (repeat' first|contradiction|exact .ok|apply And.intro|intro _|(apply gc<;>simp+contextual[hl,hli]))
  refine aP ha ?_
  simp [At.c]
  (repeat' first|contradiction|exact .ok|apply And.intro|intro _|(apply gc<;>simp+contextual))
  exact EndsS.of [1000000,1000001,1000002,57] _ rfl (by simp; rfl) (by decide) rfl (by apply aDw<;>simp [aB,Blk.live]) (by simp)
 by_cases o23:o=23
 ·have hl:¬ ks.length=2:=fun e=>s1 ⟨.inr o23,e⟩
  have hli:¬ (ks.length:Int)=2:=by omega
  subst o23
  simp [Ex.a,Ex.c,aE,Tb.a,Tb.c,At.a,rtB,hli] at ha ⊢
  (repeat' first|contradiction|exact .ok|apply And.intro|intro _|(apply gc<;>simp+contextual[hl,hli]))
  refine aP ha ?_
  simp [At.c]
  (repeat' first|contradiction|exact .ok|apply And.intro|intro _|(apply gc<;>simp+contextual))
  exact EndsS.of [1000000,1000001,1000002,57] _ rfl (by simp; rfl) (by decide) rfl (by apply aDw<;>simp [aB,Blk.live]) (by simp)
 by_cases o24:o=24
 ·have hl:¬ ks.length=1:=fun e=>s2 ⟨o24,e⟩
  have hli:¬ (ks.length:Int)=1:=by omega
  subst o24
  simp [Ex.a,Ex.c,aE,Tb.a,Tb.c,At.a,rtB,hli] at ha ⊢
  (repeat' first|contradiction|exact .ok|apply And.intro|intro _|(apply gc<;>simp+contextual[hl,hli]))
  refine aP ha ?_
  simp [At.c]
  (repeat' first|contradiction|exact .ok|apply And.intro|intro _|(apply gc<;>simp+contextual))
  exact EndsS.of [1000000,1000001,1000002,57] _ rfl (by simp; rfl) (by decide) rfl (by apply aDw<;>simp [aB,Blk.live]) (by simp)
 simp [Ex.a,Ex.c,aE,Tb.a,Tb.c,At.a,rtB,o22,o23,o24] at ha ⊢
 (repeat' first|contradiction|exact .ok|apply And.intro|intro _|(apply gc<;>simp+contextual[o22,o23,o24]))
 refine aP ha ?_
 simp [At.c]
 (repeat' first|contradiction|exact .ok|apply And.intro|intro _|(apply gc<;>simp+contextual))
 exact EndsS.of [1000000,1000001,1000002,57] _ rfl (by simp; rfl) (by decide) rfl (by apply aDw<;>simp [aB,Blk.live]) (by simp)
def DN (x:Tb) (e:Ex):AV:=if mM x e=true then .tup [.d (.sl [(eH e).c]),.d (.bool true)] else .tup [.d (.sl []),.d (.bool false)]
theorem aEF (a:At):FK [a]=[a]:=by simp [FK,fA,sE,oT,cW]
theorem uF (x:Tb) (hx:x.ok) (ht:∀ c∈x.cols,c.t=1∨c.t=2∨c.t=3) (o c n g:Int) (t:List UInt8) (ks:List Ex) (q:Nat) (hq:(Ex.mk o c n t g ks).few q=true) (hs:qR o ks.length=false) :
  Cf Es 138 [x.a,(Ex.mk o c n t g ks).a] [] (DN x (.mk o c n t g ks)) []:=by
 have hw:=ZC x hx ht o c n g t ks q hq hs
 have hu:=eG (kL [eH (.mk o c n t g ks)] (by simp))
 rw [aEF] at hu
 unfold DN
 have hel:=Ex.clen (.mk o c n t g ks)
 have het:=Ex.ctake (.mk o c n t g ks)
 generalize mM x (.mk o c n t g ks)=B at *
 generalize eH (.mk o c n t g ks)=a at *
 generalize Ex.mk o c n t g ks=e at *
 refine cI bM (fn:=Tryz.f138) rfl ?_
 simp [Ex.a,Tb.a,Tb.c,hel,het]
 (repeat' first|contradiction|exact .ok|apply And.intro|intro _|(apply gc<;>simp+contextual))
 simp [Ex.a,rtB,Tb.c] at hw
 refine bW [7,2,6] 1 hw (by simp) (by decide) (by simp) (by decide) (by decide) (by simp) (by simp) (by simp) ?_
 cases B with
 | false =>
   simp
   all_goals exact gz
 | true =>
   simp
   (repeat' first|contradiction|exact .ok|apply And.intro|intro _|(apply gc<;>simp+contextual))
   refine aP hu ?_
   simp
   all_goals exact gz
def qN (S:List Tb) (l:List Nat) (F:Int→Ex) (A:Nat→List At):List Int→Bool×(Nat→List At)
 | [c]=>if (iF S 0 l c).2.2=true then
   (if mM (aR S ((l[(iF S 0 l c).1.toNat]?).getD 0)) (F ((iF S 0 l c).2.1 - c))=true then (true,bP A (iF S 0 l c).1.toNat (A (iF S 0 l c).1.toNat++[eH (F ((iF S 0 l c).2.1 - c))])) else (false,A))
   else (false,A)
 | _=>(false,A)
def nI (S:List Tb) (l:List Nat) (e:Ex) (A:Nat→List At):Bool×(Nat→List At):=qN S l e.shift A e.cols
mutual
def bY (S:List Tb) (l:List Nat):Ex→(Nat→List At)→Bool×(Nat→List At)
 | .mk o c n t g ks,A=>if qR o ks.length=true then (if (c==0&&(n==0&&(t==[]&&g==0)))=true then dE S l ks A else (false,A)) else nI S l (.mk o c n t g ks) A
def dE (S:List Tb) (l:List Nat):List Ex→(Nat→List At)→Bool×(Nat→List At)
 | [],A=>(true,A)
 | e::es,A=>if (bY S l e A).1=true then dE S l es (bY S l e A).2 else (false,(bY S l e A).2)
end
def pV (S:List Tb) (l:List Nat):List Ex→(Nat→List At)→Nat→Int
 | [],_,_=>-1
 | e::es,A,i=>if (bY S l e A).1=true then pV S l es (bY S l e A).2 (i+1) else i
theorem zT (S:List Tb) (l:List Nat):∀ (ks:List Ex) (A:Nat→List At) (i:Nat),decide (0≤pV S l ks A i)=!(dE S l ks A).1
 | [],A,i=>by simp [pV,dE]
 | e::es,A,i=>by
   rw [pV,dE]
   by_cases h:(bY S l e A).1=true
   ·rw [if_pos h,if_pos h]; exact zT S l es _ (i+1)
   ·rw [if_neg h,if_neg h]
    have:(0:Int)≤(i:Int):=by omega
    simp [this]
theorem YA (S:List Tb) (l:List Nat) (e:Ex) (A:Nat→List At) (j:Nat):((nI S l e A).2 j).length≤(A j).length+1:=by
 unfold nI qN
 split
 ·split
  ·split
   ·simp only [bP]
    split
    ·rename_i h; subst h; simp
    ·omega
   ·simp
  ·simp
 ·simp
theorem YB (e:Ex):1≤e.nodes:=by cases e; rw [Ex.nodes]; omega
mutual
theorem kA (S:List Tb) (l:List Nat):∀ (e:Ex) (A:Nat→List At) (j:Nat),((bY S l e A).2 j).length≤(A j).length+e.nodes
 | .mk o c n t g ks,A,j=>by
   rw [bY,Ex.nodes]
   split
   ·split
    ·have:=oL S l ks A j; omega
    ·simp
   ·have:=YA S l (.mk o c n t g ks) A j; omega
theorem oL (S:List Tb) (l:List Nat):∀ (ks:List Ex) (A:Nat→List At) (j:Nat),((dE S l ks A).2 j).length≤(A j).length+aU ks
 | [],A,j=>by simp [dE,aU]
 | e::es,A,j=>by
   have h1:=kA S l e A j
   rw [dE,aU]
   split
   ·have:=oL S l es (bY S l e A).2 j; omega
   ·simp only; omega
end
def JL (S:List Tb) (l:List Nat) (ks:List Ex) (A:Nat→List At) (y:Nat×(Nat→List At)):Prop:=y.1≤ks.length∧dE S l ks A=dE S l (ks.drop y.1) y.2∧pV S l ks A 0=pV S l (ks.drop y.1) y.2 y.1
theorem sO {S:List Tb} {l:List Nat} {ks:List Ex} {A:Nat→List At} {y:Nat×(Nat→List At)} (h:JL S l ks A y) (hl:y.1<ks.length) :
  ((bY S l ks[y.1] y.2).1=true→JL S l ks A (y.1+1,(bY S l ks[y.1] y.2).2))∧((bY S l ks[y.1] y.2).1=false→dE S l ks A=(false,(bY S l ks[y.1] y.2).2)∧pV S l ks A 0=y.1):=by
 obtain ⟨i,B⟩:=y
 obtain ⟨h1,h2,h3⟩:=h
 simp only at hl h1 h2 h3 ⊢
 rw [List.drop_eq_getElem_cons hl] at h2 h3
 rw [dE] at h2
 rw [pV] at h3
 refine ⟨fun hb=>?_,fun hb=>?_⟩
 ·rw [if_pos hb] at h2 h3
  exact ⟨by simp only; omega,h2,h3⟩
 ·rw [if_neg (by rw [hb]; simp)] at h2 h3
  exact ⟨h2,h3⟩
theorem xK {S:List Tb} {l:List Nat} {ks:List Ex} {A B:Nat→List At} (h:JL S l ks A (ks.length,B)):dE S l ks A=(true,B)∧pV S l ks A 0=-1:=by
 obtain ⟨_,h2,h3⟩:=h
 simp only [List.drop_length] at h2 h3
 rw [dE] at h2
 rw [pV] at h3
 exact ⟨h2,h3⟩
theorem JM {S:List Tb}:∀ {l:List Nat} {c:Int} {i:Nat},(iF S i l c).2.2=true→∃ k:Nat,(iF S i l c).1=((i+k:Nat):Int)∧k<l.length∧0≤(iF S i l c).2.1∧(iF S i l c).2.1≤c
 | [],c,i,h=>by simp [iF] at h
 | k::r,c,i,h=>by
   rw [iF] at h ⊢
   split at h
   ·rename_i hc
    rw [if_pos hc]
    simp only [decide_eq_true_eq] at h
    exact ⟨0,by simp,by simp,h,Int.le_refl _⟩
   ·rename_i hc
    rw [if_neg hc]
    obtain ⟨k',h1,h2,h3,h4⟩:=JM h
    refine ⟨k'+1,by rw [h1]; congr 1; omega,by simp; omega,h3,by omega⟩
mutual
theorem oM:∀ (e:Ex) (q:Nat) (d:Int),(e.shift d).few q=e.few q
 | .mk o c n t g ks,q,d=>by
   rw [Ex.shift,Ex.few,Ex.few,vQ ks (q+1) d,fV,List.length_map]
theorem vQ:∀ (l:List Ex) (q:Nat) (d:Int),gN (eJ l d) q=gN l q
 | [],q,d=>by rw [eJ]
 | e::es,q,d=>by rw [eJ,gN,gN,oM e q d,vQ es q d]
end
theorem US {k:Ex} {z:Int}:∀ {ks:List Ex},k∈ks→k.has z→eN ks z
 | [],h,_=>by cases h
 | e::es,h,hz=>by
   rw [eN]
   rcases List.mem_cons.1 h with rfl | h
   ·exact .inl hz
   ·exact .inr (US h hz)
theorem CO {o c n g z:Int} {t:List UInt8} {ks:List Ex} {k:Ex} (hk:k∈ks) (hz:z∈k.cols):z∈(Ex.mk o c n t g ks).cols:=by
 rw [mF] at hz ⊢
 rw [Ex.has]
 exact .inr (US hk hz)
theorem kB {ks:List Ex} {i:Nat} (h:i<ks.length):aU (ks.drop i)=ks[i].nodes+aU (ks.drop (i+1)):=by
 rw [List.drop_eq_getElem_cons h,aU]
theorem aCz (f:Fk) (hf:f.cols.length≤1000) (c:Int):Cf En 167 [f.a,.ptr 1000000 0 0] [.var [.d (.int .i64 c)]] (.d (.bool (f.cols.contains c))) [.var [.d (.int .i64 c)]]:=by
 refine cI aW (fn:=Tryz.f167) rfl ?_
 simp [Fk.a,Fk.c]
 (repeat' first|contradiction|exact .ok|apply And.intro|intro _|(apply gc<;>simp+contextual))
 refine aP (jZ f.cols hf c) ?_
 simp
 all_goals exact gz
theorem aCA (l:List Fk) (hl:l.length≤1000) (hf:∀ f∈l,f.cols.length≤1000) (c:Int):Cf En 217 [.d (.sl (l.map Fk.c)),.clo 167 [.ptr 1000000 0 0]] [.var [.d (.int .i64 c)]] (.d (.int .i64 (aV (fun f:Fk=>f.cols.contains c) l 0))) [.var [.d (.int .i64 c)]]:=by
 refine cI aW (fn:=Tryz.f217) rfl ?_
 generalize hF:aV (fun f:Fk=>f.cols.contains c) l 0=F
 simp
 (repeat' first|contradiction|exact .ok|apply And.intro|intro _|(apply gc<;>simp+contextual))
 refine aL aW (fun i:Nat=>{ s:=cE [(0,.d (.sl (l.map Fk.c))),(1,.clo 167 [.ptr 1000000 0 0]),(7,.d (.int .i64 l.length)),(8,.d (.int .i64 i))],b:=cC [(1000000,1000000,.var [.d (.int .i64 c)])] }) (fun i=>i≤l.length∧aV (fun f:Fk=>f.cols.contains c) (l.drop i) i=F) (fun i=>l.length - i) 0 ⟨by simp,hF⟩ (aI _ [(1000000,1000000,_)] ⟨by simp,by simp,by simp [aB,Blk.live],bK⟩ (by simp [aB])) ?_
 rintro i ⟨hi,hg⟩
 by_cases hlt:i<l.length
 ·rw [dM hlt] at hg
  obtain ⟨u,hu⟩:∃ u,u=l[i]:=⟨_,rfl⟩
  have hgi:∀ h,l[i]'h=u:=fun _=>hu.symm
  have hru:=hf u (by rw [hu]; exact List.getElem_mem hlt)
  rw [← hu] at hg
  have hw:=wI (n:=(i:Int)+1)
  simp [hlt,hgi,Fk.c]
  (repeat' first|contradiction|exact .ok|apply And.intro|intro _|(apply gc<;>simp+contextual))
  refine aH [1000000] (aCz u hru c) (by simp) (by simp [Fk.a,Fk.c]) ?_
  cases he:u.cols.contains c
  ·rw [he] at hg
   simp
   (repeat' first|contradiction|exact .ok|apply And.intro|intro _|(apply gc<;>simp+contextual[he]))
   refine ⟨i+1,⟨by omega,by simpa using hg⟩,?_,by simp; omega⟩
   exact aI _ [(1000000,1000000,_)] ⟨by simp,by simp,by simp [aB,Blk.live],bK⟩ (by simp [aB,hw])
  ·rw [he] at hg
   simp only [if_true] at hg
   simp [← hg]
   (repeat' first|contradiction|exact .ok|apply And.intro|intro _|(apply gc<;>simp+contextual[he]))
 obtain rfl:i=l.length:=by omega
 rw [List.drop_length,aV] at hg
 simp [← hg]
 all_goals exact gz
theorem aCB (l:List Fk) (hl:l.length≤1000) (hf:∀ f∈l,f.cols.length≤1000) (c:Int):Cf En 166 [.d (.sl (l.map Fk.c)),.clo 167 [.ptr 1000000 0 0]] [.var [.d (.int .i64 c)]] (.d (.bool (l.any fun f=>f.cols.contains c))) [.var [.d (.int .i64 c)]]:=by
 refine cI aW (fn:=Tryz.f166) rfl ?_
 have h:=kV (p:=fun f:Fk=>f.cols.contains c) (l:=l) (i:=0)
 have hc:=aCA l hl hf c
 generalize (l.any fun f=>f.cols.contains c)=A at *
 generalize aV (fun f:Fk=>f.cols.contains c) l 0=F at *
 simp
 (repeat' first|contradiction|exact .ok|apply And.intro|intro _|(apply gc<;>simp+contextual))
 refine aH [1000000] hc (by simp) (by simp) ?_
 simp [h]
 all_goals exact gz
theorem KO (x:Tb) (hx:x.ok) (c:Int):Cf En 111 [x.a,.d (.int .i64 c)] [] (.d (.bool (cU x c))) []:=by
 refine cI aW (fn:=Tryz.f111) rfl ?_
 have hk:cU x c=(x.pr.contains c||x.fk.any fun f=>f.cols.contains c):=rfl
 rw [hk]
 have hc:=aCB x.fk hx.fk hx.fkc c
 generalize (x.fk.any fun f=>f.cols.contains c)=A at *
 have hp:=jZ x.pr hx.pr c
 generalize x.pr.contains c=B at *
 simp [Tb.a,Tb.c]
 (repeat' first|contradiction|exact .ok|apply And.intro|intro _|(apply gc<;>simp+contextual))
 refine aP hp ?_
 cases B with
 | true =>
   simp
   all_goals exact gz
 | false =>
   simp
   (repeat' first|contradiction|exact .ok|apply And.intro|intro _|(apply gc<;>simp+contextual))
   refine aH [3] hc (by simp) (by simp) ?_
   simp
   all_goals exact gz
def iQ (x:Tb) (v:List V) (n:Nat):List V:=aO (fun c=>if c<n∧cU x c=true then ⟨1,0,[]⟩ else (v[c]?).getD ⟨0,0,[]⟩) v.length
theorem gT (x:Tb) (v:List V) (n:Nat):(iQ x v n).length=v.length:=dR _ _
theorem xV (x:Tb) (v:List V):iQ x v 0=v:=by
 apply List.ext_getElem?
 intro i
 unfold iQ
 rw [bE]
 split
 ·rename_i h
  rw [if_neg (fun e=>absurd e.1 (by omega)),gE h]
  rfl
 ·rename_i h
  rw [List.getElem?_eq_none (by omega)]
theorem xW {x:Tb} {v:List V} {n:Nat}:iQ x v (n+1)=if cU x n=true then (iQ x v n).set n ⟨1,0,[]⟩ else iQ x v n:=by
 by_cases h:cU x n=true
 ·rw [if_pos h]
  unfold iQ
  rw [kR]
  refine bV fun j _=>?_
  by_cases hj:j=n
  ·subst hj; simp [h]
  ·by_cases h2:j<n
   ·simp [hj,h2,show j<n+1 from by omega]
   ·simp [hj,h2,show ¬ j<n+1 from by omega]
 ·rw [if_neg h]
  unfold iQ
  refine bV fun j _=>?_
  by_cases hj:j=n
  ·subst hj; simp [h]
  ·by_cases h2:j<n
   ·simp [h2,show j<n+1 from by omega]
   ·simp [h2,show ¬ j<n+1 from by omega]
theorem aGM (x:Tb) (hx:x.ok) (b:Bk) (hb:b.v.length≤1000):Cf En 65 [x.a,.agg (b.c.map AV.d)] [] (.d (.sl ((iQ x b.v b.v.length).map V.c))) []:=by
 refine cI aW (fn:=Tryz.f65) rfl ?_
 have hcl:=vP b.v hb
 simp [Tb.a,Bk.c]
 (repeat' first|contradiction|exact .ok|apply And.intro|intro _|(apply gc<;>simp+contextual))
 refine eM [] hcl (by simp) (by simp) (by simp) (by simp) (by simp) (by simp) (by simp) ?_
 simp [Tb.c]
 (repeat' first|contradiction|exact .ok|apply And.intro|intro _|(apply gc<;>simp+contextual))
 refine aL aW (fun c:Nat=>{ s:=cE [(2,.ptr 2 0 0),(5,.ref 905 0 b.v.length 3),(11,.d (.int .i64 b.v.length)),(12,.d (.int .i64 c))],b:=cC [(2,2,.var (x.c.map AV.d)),(905,905,.arr 92 3 ((iQ x b.v c).map V.c) false)] }) (fun c=>c≤b.v.length) (fun c=>b.v.length - c) 0 (by simp)
  (sM _ [(2,2,_),(905,10000,_)] (by simp [aB,Blk.live,Tb.c,xV]) (by simp [aB])) ?_
 intro c hc
 have hbl:=gT x b.v c
 by_cases hlt:c<b.v.length
 ·have hk:=KO x hx c
  have hs:=xW (x:=x) (v:=b.v) (n:=c)
  have hw:=wI (n:=(c:Int)+1)
  cases hK:cU x c with
  | true =>
    rw [hK] at hk
    rw [hK,if_pos rfl] at hs
    simp [hlt,Tb.c]
    (repeat' first|contradiction|exact .ok|apply And.intro|intro _|(apply gc<;>simp+contextual))
    refine aA hk (by simp [Tb.a,Tb.c]) ?_
    simp [hlt,hbl,V.c]
    (repeat' first|contradiction|exact .ok|apply And.intro|intro _|(apply gc<;>simp+contextual))
    refine ⟨c+1,by omega,?_,by simp; omega⟩
    simp only [hs]
    exact sM _ [(2,2,_),(905,905,_)] (by simp [aB,Blk.live,List.map_set,V.c]) (by simp [aB,hw])
  | false =>
    rw [hK] at hk
    rw [hK,if_neg (by simp)] at hs
    simp [hlt,Tb.c]
    (repeat' first|contradiction|exact .ok|apply And.intro|intro _|(apply gc<;>simp+contextual))
    refine aA hk (by simp [Tb.a,Tb.c]) ?_
    simp
    (repeat' first|contradiction|exact .ok|apply And.intro|intro _|(apply gc<;>simp+contextual))
    refine ⟨c+1,by omega,?_,by simp; omega⟩
    simp only [hs]
    exact sM _ [(2,2,_),(905,905,_)] (by simp [aB,Blk.live]) (by simp [aB,hw])
 obtain rfl:c=b.v.length:=by omega
 have htk:((iQ x b.v b.v.length).map V.c).take b.v.length=(iQ x b.v b.v.length).map V.c:=List.take_of_length_le (by simp [hbl])
 simp [hbl,htk]
 all_goals exact gz
def fW (S:List Tb) (X:Nat→List Bk) (b:Bk) (j:Nat):List Fk→Nat→List V→List V
 | [],_,r=>r
 | g::gs,f,r=>fW S X b j gs (f+1) (r.set (eA g.cols).toNat (jK (sB (aX (X (eR S g))) ((b.p[f]?).getD 0).toNat j+1:Nat)))
def qG (S:List Tb) (X:Nat→List Bk) (x:Tb) (b:Bk) (j n:Nat):List V:=fW S X b j x.fk 0 (b.v.set (eA x.pr).toNat (jK (n+1:Nat)))
def qS (S:List Tb) (X:Nat→List Bk) (x:Tb) (l:List Bk) (n:Nat):List V:=match l[(eP (aX l) n).1]? with
 | some b=>qG S X x b (eP (aX l) n).2 n
 | none=>[]
def jN (S:List Tb) (X:Nat→List Bk) (x:Tb) (l:List Bk) (from_ to:Nat):List (List V):=aO (fun i=>qS S X x l (from_+i)) (to - from_)
def lN (L:List Int) (S:List Tb) (x:Tb) (T:Nat→List Bk) (b:Nat):Nat→List Int×Nat
 | 0=>([],b)
 | f+1=>match x.fk[f]? with
   | some g=>((lN L S x T b f).1++[aS L (lN L S x T b f).2 (T (eR S g)).length],sG (lN L S x T b f).2 (T (eR S g)).length)
   | none=>lN L S x T b f
def mO (L:List Int) (x:Tb) (a n:Nat):List V:=aO (fun j=>smC L x a j) n
def tN (S:List Tb) (x:Tb) (T:Nat→List Bk) (f:Nat):Bool:=(x.fk.take f).all fun g=>decide (0<(T (eR S g)).length)
def yB (L:List Int) (S:List Tb) (x:Tb) (T:Nat→List Bk) (most a:Nat):Bk×Nat :=
 (⟨(1+aS L a most).toNat,mO L x (a+1) x.cols.length,(lN L S x T (a+1+x.cols.length) x.fk.length).1⟩,(lN L S x T (a+1+x.cols.length) x.fk.length).2)
def jT (L:List Int) (S:List Tb) (x:Tb) (T:Nat→List Bk) (most:Nat):Nat→List Bk×Nat→List Bk×Nat
 | 0,y=>y
 | k+1,y=>jT L S x T most k (if tN S x T x.fk.length=true then y.1++[(yB L S x T most y.2).1] else y.1,(yB L S x T most y.2).2)
def DY (L:List Int) (S:List Tb) (blocks most i:Nat) (y:(Nat→List Bk)×Nat):(Nat→List Bk)×Nat :=
 (bP y.1 i (jT L S (aR S i) y.1 most (aS L y.2 (blocks+1)).toNat ([],y.2+1)).1,(jT L S (aR S i) y.1 most (aS L y.2 (blocks+1)).toNat ([],y.2+1)).2)
def FI (L:List Int) (S:List Tb) (blocks most:Nat):List Int→(Nat→List Bk)×Nat→(Nat→List Bk)×Nat
 | [],y=>y
 | z::r,y=>FI L S blocks most r (DY L S blocks most z.toNat y)
structure KQ (S:List Tb) (X:Nat→List Bk) (most:Nat) (x:Tb) (b:Bk):Prop where
 n:1≤b.n∧b.n≤most
 len:b.v.length=x.cols.length
 val:∀ c v,b.v[c]?=some v→aFv x c v
 par:b.p.length=x.fk.length
 tgt:∀ (f:Nat) (g:Fk) (z:Int),x.fk[f]?=some g→b.p[f]?=some z→0≤z∧z<(X (eR S g)).length
theorem WD {L:List Int} {S:List Tb} {x:Tb} {T:Nat→List Bk} {b:Nat} (hT:∀ g∈x.fk,0<(T (eR S g)).length):∀ {f:Nat},f≤x.fk.length→(lN L S x T b f).1.length=f∧∀ (i:Nat) (g:Fk) (z:Int),x.fk[i]?=some g→(lN L S x T b f).1[i]?=some z→0≤z∧z<(T (eR S g)).length
 | 0,_=>⟨rfl,fun i g z _ h=>by simp [lN] at h⟩
 | f+1,hf=>by
   have hl:f<x.fk.length:=by omega
   obtain ⟨h1,h2⟩:=WD (L:=L) (S:=S) (T:=T) (b:=b) hT (f:=f) (by omega)
   rw [lN,gE hl]
   simp only
   refine ⟨by simp [h1],fun i g z hg hz=>?_⟩
   rw [List.getElem?_append,h1] at hz
   split at hz
   ·exact h2 i g z hg hz
   ·rename_i hi
    have hif:i=f:=by
     have:=(List.getElem?_eq_some_iff.1 hz).1
     simp at this; omega
    subst hif
    rw [Nat.sub_self,List.getElem?_cons_zero,Option.some.injEq] at hz
    rw [gE hl,Option.some.injEq] at hg
    subst hg hz
    have hp:=hT _ (List.getElem_mem hl)
    exact bB L _ (n:=((T (eR S x.fk[i])).length:Int)) (by omega)
theorem ZN {S:List Tb} {x:Tb} {T:Nat→List Bk} (h:tN S x T x.fk.length=true):∀ g∈x.fk,0<(T (eR S g)).length:=by
 unfold tN at h
 rw [List.take_length] at h
 intro g hg
 simpa using List.all_eq_true.1 h g hg
theorem aEV (L:List Int) {S:List Tb} {x:Tb} {T:Nat→List Bk} {most:Nat} (hm:1≤most) (ht:∀ c,c<x.cols.length→(mX x c).t=1∨(mX x c).t=2∨(mX x c).t=3) (hT:∀ g∈x.fk,0<(T (eR S g)).length) (a:Nat):KQ S T most x (yB L S x T most a).1:=by
 unfold yB
 have hn:=bB L a (n:=(most:Int)) (by omega)
 obtain ⟨h1,h2⟩:=WD (L:=L) (b:=a+1+x.cols.length) hT (Nat.le_refl _)
 refine ⟨by simp only; omega,by simp [mO],fun c v hv=>?_,h1,h2⟩
 simp only [mO] at hv
 rw [bE] at hv
 split at hv
 ·rename_i hc
  rw [Option.some.injEq] at hv
  subst hv
  unfold smC
  exact HD L _ _ (ht c hc) _
 ·cases hv
theorem DZ (L:List Int) {S:List Tb} {x:Tb} {T:Nat→List Bk} {most:Nat} (hm:1≤most) (ht:∀ c,c<x.cols.length→(mX x c).t=1∨(mX x c).t=2∨(mX x c).t=3):∀ (k:Nat) (y:List Bk×Nat),(∀ b∈y.1,KQ S T most x b)→(jT L S x T most k y).1.length≤y.1.length+k∧∀ b∈(jT L S x T most k y).1,KQ S T most x b
 | 0,y,h=>⟨by simp [jT],h⟩
 | k+1,y,h=>by
   rw [jT]
   by_cases hf:tN S x T x.fk.length=true
   ·rw [if_pos hf]
    have:=DZ L hm ht k (y.1++[(yB L S x T most y.2).1],(yB L S x T most y.2).2) (fun b hb=>by
     rcases List.mem_append.1 hb with hb | hb
     ·exact h b hb
     ·rw [List.mem_singleton] at hb; subst hb; exact aEV L hm ht (ZN hf) _)
    refine ⟨?_,this.2⟩
    have:=this.1
    simp at this ⊢
    omega
   ·rw [if_neg hf]
    have:=DZ L hm ht k (y.1,(yB L S x T most y.2).2) h
    exact ⟨by have:=this.1; simp at this; omega,this.2⟩
def WE (S:List Tb) (X:Nat→List Bk) (blocks most j:Nat):Prop:=∀ k,k<j→(X k).length≤blocks∧∀ b∈X k,KQ S X most (aR S k) b
theorem WF {S:List Tb} {X Y:Nat→List Bk} {most:Nat} {x:Tb} {b:Bk} (h:KQ S X most x b) (he:∀ g∈x.fk,Y (eR S g)=X (eR S g)):KQ S Y most x b :=
 ⟨h.n,h.len,h.val,h.par,fun f g z hg hz=>by rw [he g (List.mem_of_getElem? hg)]; exact h.tgt f g z hg hz⟩
theorem WG (L:List Int) {S:List Tb} (hd:NJ S) (ht:∀ k,k<S.length→∀ c,c<(aR S k).cols.length→(mX (aR S k) c).t=1∨(mX (aR S k) c).t=2∨(mX (aR S k) c).t=3) {blocks most:Nat} (hm:1≤most):∀ (n j:Nat) (y:(Nat→List Bk)×Nat),j+n=S.length→WE S y.1 blocks most j→WE S (FI L S blocks most (zY j n) y).1 blocks most S.length
 | 0,j,y,h,w=>by
   have:j=S.length:=by omega
   subst this
   exact w
 | n+1,j,y,h,w=>by
   rw [zY,FI,Int.toNat_natCast]
   have hj:j<S.length:=by omega
   refine WG L hd ht hm n (j+1) _ (by omega) fun k hk=>?_
   have hT:∀ m,m<j→(DY L S blocks most j y).1 m=y.1 m:=fun m hm=>by
    unfold DY
    simp only [bP]
    rw [if_neg (by omega)]
   have hup:∀ g∈(aR S k).fk,(DY L S blocks most j y).1 (eR S g)=y.1 (eR S g):=fun g hg=>hT _ (by have:=(hd k (by omega) g hg).2; omega)
   by_cases hkj:k=j
   ·subst hkj
    have hv:=bB L y.2 (n:=((blocks:Int)+1)) (by omega)
    have:=DZ L (S:=S) (T:=y.1) hm (ht k hj) (aS L y.2 (blocks+1)).toNat ([],y.2+1) (by simp)
    have he:(DY L S blocks most k y).1 k=(jT L S (aR S k) y.1 most (aS L y.2 (blocks+1)).toNat ([],y.2+1)).1:=by
     unfold DY
     simp only [bP,if_true]
    rw [he]
    refine ⟨by have:=this.1; simp at this; omega,fun b hb=>WF (this.2 b hb) hup⟩
   ·rw [hT k (by omega)]
    obtain ⟨w1,w2⟩:=w k (by omega)
    exact ⟨w1,fun b hb=>WF (w2 b hb) hup⟩
def qT (row:List V) (e:Ex):Bool:=(aG e row).tr != 1
def lE (v:Vw) (row:List V):Bool:=!(v.cond.any (qT row))
theorem ZX (row:List V) (hrow:row.length≤9223372036854775807) (e:Ex) (q:Nat) (hq:e.few q=true):Cf Es 96 [e.a,.ptr 1000000 0 0] [.var [.d (.sl (row.map V.c))]] (.d (.bool (qT row e))) [.var [.d (.sl (row.map V.c))]]:=by
 have hev:=upo (JP row hrow (SizeOf.sizeOf e+1) e (by omega) q hq)
 unfold qT
 generalize aG e row=w at *
 have htr:=eG (nL w)
 have hel:=Ex.clen e
 have het:=Ex.ctake e
 refine cI bM (fn:=Tryz.f96) rfl ?_
 simp [Ex.a,hel,het]
 (repeat' first|contradiction|exact .ok|apply And.intro|intro _|(apply gc<;>simp+contextual))
 refine aA hev (by simp [Ex.a]) ?_
 simp [V.a]
 refine aA htr (by simp [V.a]) ?_
 simp
 (repeat' first|contradiction|exact .ok|apply And.intro|intro _|(apply gc<;>simp+contextual))
 all_goals (try (simp [Bool.eq_iff_iff]; done))
 all_goals (try rfl)
theorem ZY (row:List V) (hrow:row.length≤9223372036854775807) (ks:List Ex) (hk:ks.length≤1000) (hf:∀ e∈ks,e.few 0=true):Cf Es 143 [.d (.sl (ks.map Ex.c)),.clo 96 [.ptr 1000000 0 0]] [.var [.d (.sl (row.map V.c))]] (.d (.int .i64 (aV (qT row) ks 0))) [.var [.d (.sl (row.map V.c))]]:=by
 refine cI bM (fn:=Tryz.f143) rfl ?_
 simp
 (repeat' first|contradiction|exact .ok|apply And.intro|intro _|(apply gc<;>simp+contextual))
 refine aL bM (fun i:Nat=>{ s:=cE [(0,.d (.sl (ks.map Ex.c))),(1,.clo 96 [.ptr 1000000 0 0]),(7,.d (.int .i64 ks.length)),(8,.d (.int .i64 i))],b:=cC [(1000000,1000000,.var [.d (.sl (row.map V.c))])] }) (fun i=>i≤ks.length∧aV (qT row) ks 0=aV (qT row) (ks.drop i) i) (fun i=>ks.length - i) 0 ⟨by simp,by simp⟩ (aI _ [(1000000,1000000,_)] ⟨by simp,by simp,by simp [aB,Blk.live],bK⟩ (by simp [aB])) ?_
 rintro i ⟨hi,hfx⟩
 by_cases hlt:i<ks.length
 ·have hd:=dM (p:=qT row) (k:=i) hlt
  have h1:=ZX row hrow ks[i] 0 (hf _ (List.getElem_mem hlt))
  have hw:=wI (n:=(i:Int)+1)
  obtain ⟨e,he⟩:∃ e,e=ks[i]:=⟨_,rfl⟩
  have hge:∀ h,ks[i]'h=e:=fun _=>he.symm
  rw [hge] at h1 hd
  have hel:=Ex.clen e
  have het:=Ex.ctake e
  rw [hd] at hfx
  cases hb:qT row e with
  | true =>
    rw [hb] at h1 hfx
    rw [if_pos rfl] at hfx
    rw [hfx]
    simp [hlt,hge,hel,het]
    (repeat' first|contradiction|exact .ok|apply And.intro|intro _|(apply gc<;>simp+contextual))
    refine aH [1000000] h1 (by simp) (by simp [Ex.a]) ?_
    simp
    all_goals exact gz
  | false =>
    rw [hb] at h1 hfx
    rw [if_neg (by simp)] at hfx
    simp [hlt,hge,hel,het]
    (repeat' first|contradiction|exact .ok|apply And.intro|intro _|(apply gc<;>simp+contextual))
    refine aH [1000000] h1 (by simp) (by simp [Ex.a]) ?_
    simp
    (repeat' first|contradiction|exact .ok|apply And.intro|intro _|(apply gc<;>simp+contextual))
    refine ⟨i+1,⟨by omega,hfx⟩,?_,by simp; omega⟩
    exact aI _ [(1000000,1000000,_)] ⟨by simp,by simp,by simp [aB,Blk.live],bK⟩ (by simp [aB,hw])
 obtain rfl:i=ks.length:=by omega
 rw [List.drop_length,aV] at hfx
 rw [hfx]
 simp
 all_goals exact gz
theorem yG {α:Type} {p:α→Bool}:∀ {l:List α} {i:Nat},decide (0≤aV p l i)=l.any p
 | [],i=>by simp [aV]
 | x::l,i=>by
   rw [aV,List.any_cons]
   cases hp:p x with
   | true =>
     rw [if_pos rfl]
     have:(0:Int)≤i:=by omega
     simp [this]
   | false=>rw [if_neg (by simp),yG]; simp
theorem ZZ (row:List V) (hrow:row.length≤9223372036854775807) (ks:List Ex) (hk:ks.length≤1000) (hf:∀ e∈ks,e.few 0=true):Cf Es 95 [.d (.sl (ks.map Ex.c)),.clo 96 [.ptr 1000000 0 0]] [.var [.d (.sl (row.map V.c))]] (.d (.bool (ks.any (qT row)))) [.var [.d (.sl (row.map V.c))]]:=by
 have h:=ZY row hrow ks hk hf
 have ha:=yG (p:=qT row) (l:=ks) (i:=0)
 rw [← ha]
 generalize aV (qT row) ks 0=z at *
 refine cI bM (fn:=Tryz.f95) rfl ?_
 simp
 (repeat' first|contradiction|exact .ok|apply And.intro|intro _|(apply gc<;>simp+contextual))
 refine aH [1000000] h (by simp) (by simp) ?_
 simp
 all_goals exact gz
theorem PS (v:Vw) (hv:v.cond.length≤1000) (hf:∀ e∈v.cond,e.few 0=true) (row:List V) (hrow:row.length≤9223372036854775807):Cf Es 55 [v.a,.d (.sl (row.map V.c))] [] (.d (.bool (lE v row))) []:=by
 have h:=ZZ row hrow v.cond hv hf
 unfold lE
 generalize v.cond.any (qT row)=b at *
 refine cI bM (fn:=Tryz.f55) rfl ?_
 simp [Vw.a,Vw.c]
 (repeat' first|contradiction|exact .ok|apply And.intro|intro _|(apply gc<;>simp+contextual))
 refine aH [3] h (by simp) (by simp) ?_
 simp
 all_goals exact gz
theorem MW {S:List Tb}:∀ {path:List Int} {k:Nat} {l:List Nat},LB S k path=some l→∀ i,i<path.length→∃ m,(k::l)[i+1]?=some m∧∃ q,(k::l)[i]?=some q∧fC S q ((path[i]?).getD 0)=some m
 | [],_,_,_,i,hi=>by simp at hi
 | f::r,k,l,h,i,hi=>by
   rw [LB] at h
   split at h
   ·rename_i m hm
    rw [Option.map_eq_some_iff] at h
    obtain ⟨l',h1,rfl⟩:=h
    cases i with
    | zero=>exact ⟨m,by simp,k,by simp,by simpa using hm⟩
    | succ i =>
      obtain ⟨m',a1,q,a2,a3⟩:=MW h1 i (by simpa using hi)
      exact ⟨m',by simpa using a1,q,by simpa using a2,by simpa using a3⟩
   ·cases h
theorem jX {S:List Tb} {v:Vw} {l:List Nat} (h:dW S v=some l) (i:Nat) (hi:i<v.path.length):∃ m q,l[i+1]?=some m∧l[i]?=some q∧fC S q v.path[i]=some m:=by
 unfold dW at h
 split at h
 ·rw [Option.map_eq_some_iff] at h
  obtain ⟨l',h1,rfl⟩:=h
  obtain ⟨m,a1,q,a2,a3⟩:=MW h1 i hi
  rw [gE hi,Option.getD_some] at a3
  exact ⟨m,q,a1,a2,a3⟩
 ·cases h
def fU:List V→List V→Int
 | [],[]=>0
 | [],_::_=>-1
 | _::_,[]=>1
 | v::a,u::b=>if v.cmp u ≠ 0 then v.cmp u else fU a b
theorem lM:∀ a:List V,fU a a=0
 | []=>rfl
 | v::a=>by simp [fU,V.cmp_self,lM a]
theorem KI {a b:List V} {i:Nat} (hi:i<a.length) (hj:i<b.length):fU (a.drop i) (b.drop i)=if a[i].cmp b[i] ≠ 0 then a[i].cmp b[i] else fU (a.drop (i+1)) (b.drop (i+1)):=by
 rw [List.drop_eq_getElem_cons hi,List.drop_eq_getElem_cons hj,fU]
theorem KJ {a b:List V} {i:Nat} (h1:i<a.length) (h2:b.length≤i):fU (a.drop i) (b.drop i)=1:=by
 rw [List.drop_eq_getElem_cons h1,List.drop_eq_nil_of_le h2,fU]
theorem KK {a b:List V} {i:Nat} (h1:a.length≤i) (h2:i<b.length):fU (a.drop i) (b.drop i)=-1:=by
 rw [List.drop_eq_getElem_cons h2,List.drop_eq_nil_of_le h1,fU]
theorem KL {a b:List V} {i:Nat} (h1:a.length≤i) (h2:b.length≤i):fU (a.drop i) (b.drop i)=0:=by
 rw [List.drop_eq_nil_of_le h2,List.drop_eq_nil_of_le h1,fU]
theorem AE (a b:List V) (ha:a.length≤1000000) (hb:b.length≤1000000):Cf En 18 [.d (.sl (a.map V.c)),.d (.sl (b.map V.c))] [] (.d (.int .i64 (fU a b))) []:=by
 refine cI aW (fn:=Tryz.f18) rfl ?_
 simp
 (repeat' first|contradiction|exact .ok|apply And.intro|intro _|(apply gc<;>simp+contextual))
 refine aL aW (fun i:Nat=>{ s:=cE [(0,.d (.sl (a.map V.c))),(1,.d (.sl (b.map V.c))),(5,.d (.int .i64 i))],b:=cC [] }) (fun i:Nat=>i≤a.length∧i≤b.length∧fU (a.drop i) (b.drop i)=fU a b) (fun i=>a.length - i) 0 (by simp) (aI _ [] .nil (by simp)) ?_
 rintro i ⟨hi,hj,ho⟩
 by_cases hlt:i<a.length
 ·have hlt':(i:Int)<a.length:=by omega
  by_cases hjl:i<b.length
  ·have hjl':(i:Int)<b.length:=by omega
   have hst:=KI hlt hjl
   have hw:=wI (n:=(i:Int)+1)
   have hcm:=sX a[i] b[i]
   by_cases hz:a[i].cmp b[i]=0
   ·rw [if_neg (by simp [hz]),ho] at hst
    rw [hz] at hcm
    simp [hlt',hlt,hjl',hjl,V.c]
    (repeat' first|contradiction|exact .ok|apply And.intro|intro _|(apply gc<;>simp+contextual[hlt',hlt,hjl',hjl]))
    refine aA hcm (by simp [V.a]) ?_
    simp
    (repeat' first|contradiction|exact .ok|apply And.intro|intro _|(apply gc<;>simp+contextual))
    refine ⟨i+1,⟨by omega,by omega,hst.symm⟩,?_,by simp; omega⟩
    exact aI _ [] .nil (by simp [hw])
   ·rw [if_pos hz,ho] at hst
    rw [← hst] at hcm hz
    simp [hlt',hlt,hjl',hjl,V.c]
    (repeat' first|contradiction|exact .ok|apply And.intro|intro _|(apply gc<;>simp+contextual[hlt',hlt,hjl',hjl]))
    refine aA hcm (by simp [V.a]) ?_
    simp [hz]
    (repeat' first|contradiction|exact .ok|apply And.intro|intro _|(apply gc<;>simp+contextual[hz]))
  ·have hjl':¬ (i:Int)<b.length:=by omega
   have h1:¬ (a.length:Int)<b.length:=by omega
   have h2:(b.length:Int)<a.length:=by omega
   have h3:¬ a.length<b.length:=by omega
   have h4:b.length<a.length:=by omega
   rw [KJ hlt (by omega)] at ho
   simp [hlt,hlt',hjl',hjl,h1,h2,← ho]
   (repeat' first|contradiction|exact .ok|apply And.intro|intro _|(apply gc<;>simp+contextual[hlt,hlt',hjl',hjl,h1,h2,h3,h4,← ho]))
 ·have hlt':¬ (i:Int)<a.length:=by omega
  by_cases hjl:i<b.length
  ·have h1:(a.length:Int)<b.length:=by omega
   have h3:a.length<b.length:=by omega
   rw [KK (by omega) hjl] at ho
   simp [hlt,hlt',h1,← ho]
   (repeat' first|contradiction|exact .ok|apply And.intro|intro _|(apply gc<;>simp+contextual[hlt,hlt',h1,h3,← ho]))
  ·have h1:¬ (a.length:Int)<b.length:=by omega
   have h2:¬ (b.length:Int)<a.length:=by omega
   have h3:¬ a.length<b.length:=by omega
   have h4:¬ b.length<a.length:=by omega
   rw [KL (by omega) (by omega)] at ho
   simp [hlt,hlt',h1,h2,← ho]
   (repeat' first|contradiction|exact .ok|apply And.intro|intro _|(apply gc<;>simp+contextual[hlt,hlt',h1,h2,h3,h4,← ho]))
end Go.Proofs.Tryz
