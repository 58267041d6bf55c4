import Derived.Test.YtkkbepgccddjoaaGreatDoorCRwc
import Derived.Test.YtkkbepgccddjoaaGreatDoorCKys
import Derived.Test.YtkkbepgccddjoaaGreatDoorCShr
import Derived.Test.YtkkbepgccddjoaaGreatDoorCSty
import Derived.Test.YtkkbepgccddjoaaGreatDoorCTap
import Derived.Test.YtkkbepgccddjoaaGreatDoorCShy
set_option linter.all false
namespace Go.Proofs.Tryz
open Go.Ab
set_option maxRecDepth 100000
set_option maxHeartbeats 8000000
def cG (S:List Tb) (l:List Nat) (n:Nat):Nat:=(cA S (l.take n)).length
theorem uB (S:List Tb) {l:List Nat} {n:Nat} (h:n<l.length):cA S (l.take (n+1))=cA S (l.take n)++(aR S l[n]).cols:=by
 unfold cA
 rw [bI h,List.flatMap_append,List.flatMap_cons,List.flatMap_nil,List.append_nil]
def dV (L:List Int) (S:List Tb) (l:List Nat) (i:Nat):Ex×Nat :=
 let z:=(aS L i l.length).toNat
 let a:=lC L (aR S ((l[z]?).getD 0)) (i+1)
 (if aS L a.2 4=0 then .mk 24 0 0 [] 0 [a.1.ex.shift (cG S l z)] else a.1.ex.shift (cG S l z),a.2+1)
theorem aEa (L:List Int) (S:List Tb) (l:List Nat) (i:Nat):(dV L S l i).2≤i+7:=by
 have:=JZ L (aR S ((l[(aS L i l.length).toNat]?).getD 0)) (i+1)
 simp only [dV]
 omega
theorem aGj (L:List Int) (i:Nat) (hi:i≤800000) (S:List Tb) (hl:S.length≤1000) (hS:∀ x∈S,qE x) (v:Vw) (hv:v.path.length≤50000) (l:List Nat) (hch:dW S v=some l) (hll:l.length≤1000) :
  Cf En 51 [.ptr 1000000 0 0,aN S,v.a] [aQ L i] (dV L S l i).1.a [aQ L (dV L S l i).2]:=by
 have hta:=kF S hl (fun x hx=>(hS x hx).ok) v hv
 obtain ⟨hlt,hl0⟩:=cK hch
 rw [hch] at hta
 unfold lP at hta
 simp only at hta
 have hl1:0<l.length:=by omega
 have hnl:=cH l
 have hnx:=bB L i (n:=l.length) (by omega)
 have htx:=dH L i (by omega) l.length (by omega) (by omega)
 have hzl:(aS L i l.length).toNat<l.length:=by omega
 obtain ⟨z,hz⟩:∃ z:Nat,aS L i l.length=z:=⟨(aS L i l.length).toNat,by omega⟩
 unfold dV
 rw [hz] at htx hzl ⊢
 simp only [Int.toNat_natCast] at hzl ⊢
 rw [gE hzl,Option.getD_some]
 have hga:∀ (j:Nat) (h:j<l.length),(aD (aJ l))[j]?=some [.int .i64 (l[j]:Int)]:=fun j h=>by simp [aD,aJ,h]
 have hgb:∀ (j:Nat) (h:j<l.length),∀ h',(aD (aJ l))[j]'h'=[.int .i64 (l[j]:Int)]:=fun j h h'=>by simp [aD,aJ]
 have hoff:∀ n,n≤l.length→cG S l n≤1000*n:=by
  intro n
  induction n with
  | zero=>intro _; simp [cG,cA]
  | succ n ih =>
    intro hn
    have hk:=hlt l[n] (List.getElem_mem (by omega))
    have hc:(aR S l[n]).cols.length≤1000:=by unfold aR; rw [gE hk]; exact (hS _ (List.getElem_mem hk)).ok.cols
    have:=ih (by omega)
    unfold cG at this ⊢
    rw [uB S (by omega),List.length_append]
    omega
 refine cI aW (fn:=Tryz.f51) rfl ?_
 simp [aN,Vw.a,Vw.c,aQ]
 (repeat' first|contradiction|exact .ok|apply And.intro|intro _|(apply gc<;>simp+contextual))
 refine aA hta (by simp [aN,Vw.a,Vw.c]) ?_
 simp [hnl]
 (repeat' first|contradiction|exact .ok|apply And.intro|intro _|(apply gc<;>simp+contextual))
 refine aH [1000000] htx (by simp [aQ]) (by simp) ?_
 have hzl2:(z:Int)≤l.length:=by omega
 have hw0:cG S l 0=0:=by simp [cG,cA]
 generalize hZ:aD (aJ l)=Z at *
 simp [aQ]
 (repeat' first|contradiction|exact .ok|apply And.intro|intro _|(apply gc<;>simp+contextual))
 refine aL aW (fun n:Nat=>{ s:=cE [(0,.ptr 1000000 0 0),(4,.ptr 4 0 0),(5,.ptr 5 0 0),(6,.ptr 6 0 0),(7,.d (.sl Z)),(9,.d (.int .i64 z)),(10,.d (.int .i64 (cG S l n))),(11,.d (.int .i64 n))],b:=cC [(1000000,1000000,aQ L (i+1)),(4,4,.var [.d (.sl (S.map Tb.c))]),(5,5,.var (v.c.map AV.d)),(6,6,.var [.d (.int .i64 0),.d (.int .i64 0),.d (.int .i64 0),.d (.str []),.d (.int .i64 0),.nils])] })
  (fun n=>n≤z) (fun n=>z - n) 0 (by simp)
  (aI _ [(1000000,1000000,_),(4,4,_),(5,5,_),(6,6,_)] ⟨by simp,by simp,by simp [aB,Blk.live,aQ,Vw.c],bK⟩ (by simp [aB,hw0])) ?_
 intro n hn
 have hnl2:n<l.length:=by omega
 have hkl:=hlt l[n] (List.getElem_mem hnl2)
 have hgan:=hga n hnl2
 have hgbn:=hgb n hnl2
 have hsn:=uB S hnl2
 have htab:aR S l[n]=S[l[n]]:=by unfold aR; rw [gE hkl]; rfl
 have hon:=hoff n (by omega)
 by_cases hlz:n<z
 ·have hon1:=hoff (n+1) (by omega)
  have hw:=wI (n:=(n:Int)+1)
  have hoe:cG S l (n+1)=cG S l n+S[l[n]].cols.length:=by unfold cG; rw [hsn,List.length_append,htab]
  have hwo:=wI (n:=(cG S l n:Int)+S[l[n]].cols.length)
  generalize l[n]=k at *
  simp [hlz,hgbn,hnl,hnl2,hkl,Tb.c,aQ]
  (repeat' first|contradiction|exact .ok|apply And.intro|intro _|(apply gc<;>simp+contextual))
  simp [hwo]
  (repeat' first|contradiction|exact .ok|apply And.intro|intro _|(apply gc<;>simp+contextual))
  refine ⟨n+1,by omega,?_,by simp; omega⟩
  exact aI _ [(1000000,1000000,_),(4,4,_),(5,5,_),(6,6,_)] ⟨by simp,by simp,by simp [aB,Blk.live,Vw.c],bK⟩ (by simp [aB,hw,hoe])
 obtain rfl:n=z:=by omega
 have hmx:=hS _ (List.getElem_mem hkl)
 rw [htab]
 generalize l[n]=k at *
 have hat:=aBm L (i+1) (by omega) S[k] hmx.ok hmx.free hmx.ty
 have hle:=JZ L S[k] (i+1)
 have hok:=vK L hmx (i+1)
 generalize lC L S[k] (i+1)=a at *
 obtain ⟨a,j⟩:=a
 simp only at hat hle hok ⊢
 have hex:=CF a
 have hfew:a.ex.few 0=true:=RZ (by have:=hok.len; omega) 0 (by omega)
 have hsh:=AF (SizeOf.sizeOf a.ex+1) a.ex (by omega) 0 hfew (cG S l n)
 have hn4:=dH L j (by omega) 4 (by omega) (by omega)
 have hel:=Ex.clen (a.ex.shift (cG S l n))
 have het:=Ex.ctake (a.ex.shift (cG S l n))
 generalize a.ex.shift (cG S l n)=e at *
 have hxl:=Ex.clen a.ex
 have hxt:=Ex.ctake a.ex
 generalize hx:S[k]=x at *
 have hgx:∀ h,S[k]'h=x:=fun _=>hx
 simp [hgbn,hnl,hnl2,hkl,hgx,Tb.c,aQ]
 (repeat' first|contradiction|exact .ok|apply And.intro|intro _|(apply gc<;>simp+contextual))
 refine aH [1000000] hat (by simp [aQ]) (by simp [Tb.a,Tb.c]) ?_
 simp [aQ,At.a]
 refine aA hex (by simp [At.a]) ?_
 simp [Ex.a]
 refine aA hsh (by simp [Ex.a]) ?_
 simp [Ex.a,hel]
 (repeat' first|contradiction|exact .ok|apply And.intro|intro _|(apply gc<;>simp+contextual))
 refine aH [1000000] hn4 (by simp [aQ]) (by simp) ?_
 by_cases h4:aS L j 4=0
 ·rw [if_pos h4]
  simp [aQ,h4,hel,het]
  (repeat' first|contradiction|exact .ok|apply And.intro|intro _|(apply gc<;>simp+contextual[h4,hel,het]))
  have ht6:e.c.take 6=e.c:=List.take_of_length_le (by omega)
  simp [Ex.c,aE,ht6]
 ·rw [if_neg h4]
  simp [aQ,h4,hel,het]
  (repeat' first|contradiction|exact .ok|apply And.intro|intro _|(apply gc<;>simp+contextual[h4,hel,het]))
theorem aER (row:List V):Cf En 143 [.d (.sl []),.clo 117 [.ptr 1000000 0 0]] [.var [.d (.sl (row.map V.c))]] (.d (.int .i64 (-1))) [.var [.d (.sl (row.map V.c))]]:=by
 refine cI aW (fn:=Tryz.f143) rfl ?_
 simp
 (repeat' first|contradiction|exact .ok|apply And.intro|intro _|(apply gc<;>simp+contextual))
 refine aL aW (fun _:Unit=>{ s:=cE [(0,.d (.sl [])),(1,.clo 117 [.ptr 1000000 0 0]),(7,.d (.int .i64 0)),(8,.d (.int .i64 0))],b:=cC [(1000000,1000000,.var [.d (.sl (row.map V.c))])] }) (fun _=>True) (fun _=>0) () trivial (aI _ [(1000000,1000000,_)] ⟨by simp,by simp,by simp [aB,Blk.live],bK⟩ (by simp [aB])) ?_
 intro _ _
 simp
 all_goals exact gz
theorem aES (row:List V):Cf En 95 [.d (.sl []),.clo 117 [.ptr 1000000 0 0]] [.var [.d (.sl (row.map V.c))]] (.d (.bool false)) [.var [.d (.sl (row.map V.c))]]:=by
 refine cI aW (fn:=Tryz.f95) rfl ?_
 simp
 (repeat' first|contradiction|exact .ok|apply And.intro|intro _|(apply gc<;>simp+contextual))
 refine aH [1000000] (aER row) (by simp) (by simp) ?_
 simp
 all_goals exact gz
structure OV (S:List Tb) (X:List (List Bk)) (x:Tb) (b:Bk):Prop where
 n:1≤b.n
 v:b.v.length=x.cols.length
 p:b.p.length=x.fk.length
 val:∀ (c:Nat) (v:V) (u:Col),b.v[c]?=some v→x.cols[c]?=some u→v.valid=true∧(v.k=u.t∨(u.b=true∧v.k=0))
 par:∀ (f:Nat) (g:Fk) (z:Int),x.fk[f]?=some g→b.p[f]?=some z→∃ (to:Nat) (l:List Bk) (i:Nat) (q:Bk),tgt S g=to∧X[to]?=some l∧z=i∧l[i]?=some q∧1≤q.n
def blF (S:List Tb) (X:List (List Bk)) (x:Tb) (b:Bk) (k:Nat) (l:List (Nat×AV)):St :=
 { s:=cE ([(2,.d (.int .i64 k)),(4,.ptr 4 0 0),(5,.ptr 5 0 0),(7,.ptr 7 0 0),(9,.ptr 9 0 0)]++l),b:=cC [(4,4,.var [.d (.sl (S.map Tb.c))]),(5,5,.var [.d (.sl (X.map iG))]),(7,7,.var (b.c.map AV.d)),(9,9,.var (x.c.map AV.d))] }
theorem aET (S:List Tb) (hl:S.length≤1000) (hS:∀ x∈S,x.ok) (X:List (List Bk)) (hX:X.length≤1000) (k:Nat) (x:Tb) (hk:S[k]?=some x) (hch:x.ch=[]) (hut:∀ u∈x.cols,u.t=1∨u.t=2∨u.t=3) (b:Bk) (h:OV S X x b) :
  Cf En 72 [aN S,cP X,.d (.int .i64 k),.agg (b.c.map AV.d)] [] (.d (.int .i64 0)) []:=by
 refine cI aW (fn:=Tryz.f72) rfl ?_
 obtain ⟨hkl,hgx0⟩:=List.getElem?_eq_some_iff.1 hk
 have hgx:∀ h,S[k]'h=x:=fun _=>hgx0
 have hxo:=hS x (by rw [← hgx0]; exact List.getElem_mem hkl)
 have hvl:=h.v
 have hpl:=h.p
 have hcl:=hxo.cols
 have hfl:=hxo.fk
 have hvi:(b.v.length:Int)=x.cols.length:=by omega
 have hpi:(b.p.length:Int)=x.fk.length:=by omega
 simp [aN,cP,hkl,hgx,Tb.c,Bk.c,hvl,hpl]
 (repeat' first|contradiction|exact .ok|apply And.intro|intro _|(apply gc<;>simp+contextual[hkl,hgx,Tb.c,Bk.c,hvl,hpl]))
 refine aL aW (fun c:Nat=>blF S X x b k [(41,.d (.sl (b.v.map V.c))),(42,.d (.int .i64 b.v.length)),(43,.d (.int .i64 c))]) (fun c=>c≤b.v.length) (fun c=>b.v.length - c) 0 (by simp)
  (sM _ [(4,4,_),(5,5,_),(7,7,_),(9,9,_)] (by simp [aB,Blk.live,Tb.c,Bk.c]) (by simp [aB,hvl])) ?_
 intro c hc
 by_cases hlt:c<b.v.length
 ·obtain ⟨v,hv⟩:∃ v,v=b.v[c]:=⟨_,rfl⟩
  have hgv:∀ h,b.v[c]'h=v:=fun _=>hv.symm
  have hcx:c<x.cols.length:=by omega
  obtain ⟨u,hu⟩:∃ u,u=x.cols[c]:=⟨_,rfl⟩
  have hgu:∀ h,x.cols[c]'h=u:=fun _=>hu.symm
  obtain ⟨v1,v2⟩:=h.val c v u (by rw [gE hlt,hv]) (by rw [gE hcx,hu])
  have hu0:=hut u (by rw [hu]; exact List.getElem_mem hcx)
  have hke:=KO x hxo c
  have hva:=jP v
  rw [v1] at hva
  have hw:=wI (n:=(c:Int)+1)
  cases hK:cU x c with
  | true =>
    rw [hK] at hke
    simp [blF,hlt,hgv,hcx,hgu,Tb.c,V.c,Col.c]
    (repeat' first|contradiction|exact .ok|apply And.intro|intro _|(apply gc<;>simp+contextual))
    refine aA hke (by simp [Tb.a,Tb.c]) ?_
    simp
    (repeat' first|contradiction|exact .ok|apply And.intro|intro _|(apply gc<;>simp+contextual))
    refine ⟨c+1,by omega,?_,by simp; omega⟩
    exact sM _ [(4,4,_),(5,5,_),(7,7,_),(9,9,_)] (by simp [aB,Blk.live,Bk.c]) (by simp [aB,hw])
  | false =>
    rw [hK] at hke
    simp [blF,hlt,hgv,hcx,hgu,Tb.c,V.c,Col.c]
    (repeat' first|contradiction|exact .ok|apply And.intro|intro _|(apply gc<;>simp+contextual))
    refine aA hke (by simp [Tb.a,Tb.c]) ?_
    simp
    (repeat' first|contradiction|exact .ok|apply And.intro|intro _|(apply gc<;>simp+contextual))
    refine aA hva (by simp [V.a]) ?_
    by_cases k0:v.k=0
    ·have hub:u.b=true:=by
      rcases v2 with e | e
      ·omega
      ·exact e.1
     simp [k0,hub]
     (repeat' first|contradiction|exact .ok|apply And.intro|intro _|(apply gc<;>simp+contextual[k0,hub]))
     refine ⟨c+1,by omega,?_,by simp; omega⟩
     exact sM _ [(4,4,_),(5,5,_),(7,7,_),(9,9,_)] (by simp [aB,Blk.live,Bk.c]) (by simp [aB,hw])
    ·have hkt:v.k=u.t:=by
      rcases v2 with e | e
      ·exact e
      ·exact absurd e.2 k0
     have hu00:¬ u.t=0:=by omega
     simp [hkt,hu00]
     (repeat' first|contradiction|exact .ok|apply And.intro|intro _|(apply gc<;>simp+contextual[hkt,hu00]))
     refine ⟨c+1,by omega,?_,by simp; omega⟩
     exact sM _ [(4,4,_),(5,5,_),(7,7,_),(9,9,_)] (by simp [aB,Blk.live,Bk.c]) (by simp [aB,hw])
 obtain rfl:c=b.v.length:=by omega
 simp [blF,Bk.c]
 (repeat' first|contradiction|exact .ok|apply And.intro|intro _|(apply gc<;>simp+contextual))
 refine aL aW (fun f:Nat=>blF S X x b k [(86,.d (.sl (aD b.p))),(87,.d (.int .i64 b.p.length)),(88,.d (.int .i64 f))]) (fun f=>f≤b.p.length) (fun f=>b.p.length - f) 0 (by simp)
  (sM _ [(4,4,_),(5,5,_),(7,7,_),(9,9,_)] (by simp [aB,Blk.live,Tb.c,Bk.c]) (by simp [aB])) ?_
 intro f hf
 by_cases hlf:f<b.p.length
 ·have hfx:f<x.fk.length:=by omega
  obtain ⟨to,l,i,q,e1,e2,e3,e4,e5⟩:=h.par f x.fk[f] b.p[f] (gE hfx) (gE hlf)
  obtain ⟨hto,hgl0⟩:=List.getElem?_eq_some_iff.1 e2
  obtain ⟨hil,hgq0⟩:=List.getElem?_eq_some_iff.1 e4
  have hgl:∀ h,X[to]'h=l:=fun _=>hgl0
  have hgq:∀ h,l[i]'h=q:=fun _=>hgq0
  have hgp:∀ h,b.p[f]'h=(i:Int):=fun _=>e3
  have hta:=EH S hl hS hkl hgx0 hfx rfl
  rw [cN (show aV (fun y:Tb=>y.n==x.fk[f].t) S 0=to from e1)] at hta
  have hw:=wI (n:=(f:Int)+1)
  have hin:¬ (i:Int)<0:=by omega
  have hig:¬ l.length≤i:=by omega
  have hqn:¬ (q.n:Int)=0:=by omega
  have hqn2:¬ q.n=0:=by omega
  simp [blF,hlf,hgp]
  (repeat' first|contradiction|exact .ok|apply And.intro|intro _|(apply gc<;>simp+contextual))
  refine aA hta (by simp [aN]) ?_
  simp [hto,hgl,iG,hin,hig,hil,hgq,Bk.c,hqn2]
  (repeat' first|contradiction|exact .ok|apply And.intro|intro _|(apply gc<;>simp+contextual[hto,hgl,iG,hin,hig,hil,hgq,Bk.c,hqn,hqn2]))
  refine ⟨f+1,by omega,?_,by simp; omega⟩
  exact sM _ [(4,4,_),(5,5,_),(7,7,_),(9,9,_)] (by simp [aB,Blk.live,Tb.c]) (by simp [aB,hw])
 obtain rfl:f=b.p.length:=by omega
 have hba:=aGM x hxo b (by omega)
 have hno:=aES (iQ x b.v b.v.length)
 have hn:=h.n
 have hn0:(0:Int)<b.n:=by omega
 have hn1:0<b.n:=by omega
 generalize iQ x b.v b.v.length=B at *
 simp [blF,Tb.c,Bk.c]
 (repeat' first|contradiction|exact .ok|apply And.intro|intro _|(apply gc<;>simp+contextual))
 refine aA hba (by simp [Tb.a,Tb.c,Bk.c]) ?_
 simp [hn1,hch]
 (repeat' first|contradiction|exact .ok|apply And.intro|intro _|(apply gc<;>simp+contextual[hn0,hn1,hch]))
 refine aH [18] hno (by simp) (by simp) ?_
 simp
 all_goals exact gz
end Go.Proofs.Tryz
