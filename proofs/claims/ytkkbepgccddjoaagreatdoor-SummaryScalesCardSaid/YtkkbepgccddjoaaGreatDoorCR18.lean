import Derived.Test.YtkkbepgccddjoaaGreatDoorCRnw
import Derived.Test.YtkkbepgccddjoaaGreatDoorCClo
import Derived.Test.YtkkbepgccddjoaaGreatDoorCSmn
import Derived.Test.YtkkbepgccddjoaaGreatDoorAbB
import Derived.Test.YtkkbepgccddjoaaGreatDoorCShy
import Derived.Test.YtkkbepgccddjoaaGreatDoorCEnvR
set_option linter.all false
namespace Go.Proofs.Tryz
open Go.Ab
set_option maxRecDepth 100000
set_option maxHeartbeats 8000000
theorem nO (l:List Nat) (hl:l.length≤1000) (hs:bD l≤1000000000):Cf En 73 [.d (.sl (aD (aJ l)))] [] (.tup [.d (.sl (aD (aJ (dJ 0 l)))),.d (.int .i64 0)]) []:=by
 refine cI aW (fn:=Tryz.f73) rfl ?_
 have hll:=dC l
 simp
 (repeat' first|contradiction|exact .ok|apply And.intro|intro _|(apply gc<;>simp+contextual))
 refine aL aW (fun i:Nat=>{ s:=cE [(0,.d (.sl (aD (aJ l)))),(4,.d (.int .i64 i))],b:=cC [] }) (fun i=>i≤l.length) (fun i=>l.length - i) 0 (by simp) (aI _ [] .nil (by simp)) ?_
 intro i hi
 by_cases hlt:i<l.length
 ·have hw:=wI (n:=(i:Int)+1)
  have hiN:i<(aJ l).length:=by omega
  have hg:∀ h,(aJ l)[i]'h=(l[i]:Int):=fun _=>gC hlt
  have h0:¬ ((l[i]:Nat):Int)<0:=by omega
  simp [hlt,hll,hg,h0]
  (repeat' first|contradiction|exact .ok|apply And.intro|intro _|(apply gc<;>simp+contextual[h0]))
  refine ⟨i+1,by omega,?_,by simp; omega⟩
  exact aI _ [] .nil (by simp [hw])
 obtain rfl:i=l.length:=by omega
 simp [hll]
 (repeat' first|contradiction|exact .ok|apply And.intro|intro _|(apply gc<;>simp+contextual))
 refine aL aW (fun i:Nat=>{ s:=cE [(0,.d (.sl (aD (aJ l)))),(5,.ref 905 0 (i+1) 1),(6,.d (.int .i64 i))],b:=cC [(905,905,.arr 3 1 (aD (aJ (dJ 0 (l.take i)))) false)] }) (fun i=>i≤l.length) (fun i=>l.length - i) 0 (by simp)
  (sM _ [(905,18,_)] (by simp [aB,Blk.live,dJ,aJ,aD]) (by simp [aB])) ?_
 intro i hi
 have hOl:(aJ (dJ 0 (l.take i))).length=i+1:=by rw [dC,iK]; simp; omega
 by_cases hlt:i<l.length
 ·have hw:=wI (n:=(i:Int)+1)
  have hiN:i<(aJ l).length:=by omega
  have hg:∀ h,(aJ l)[i]'h=(l[i]:Int):=fun _=>gC hlt
  have hiO:i<(aJ (dJ 0 (l.take i))).length:=by omega
  have hgO:∀ h,(aJ (dJ 0 (l.take i)))[i]'h=(bD (l.take i):Int):=fun h=>by
   have hj:i<(dJ 0 (l.take i)).length:=by rw [dC] at h; exact h
   rw [gC hj]
   have:=xY (l.take i)
   rw [List.length_take,Nat.min_eq_left (by omega),gE hj,Option.some.injEq] at this
   rw [this]
  have hsm:=lV hlt
  have hsl:=wM l (i+1)
  have hsu:aJ (dJ 0 (l.take (i+1)))=aJ (dJ 0 (l.take i))++[((bD (l.take i)+l[i]:Nat):Int)]:=by
   rw [bI hlt,GP]
   simp [aJ]
  generalize bD (l.take i)=a at *
  generalize l[i]=c at *
  have hwa:=wI (n:=(a:Int)+c)
  have hwb:=wI (n:=(1000000000:Int) - a)
  have hlim:¬ (1000000000:Int) - a<c:=by omega
  generalize aJ (dJ 0 (l.take i))=O at *
  have htk:(aD O).take (i+1)=aD O:=List.take_of_length_le (by simp [aD]; omega)
  have hIl:(aD O).length=i+1:=by simp [aD]; omega
  simp [hlt,hll,hg,hgO,hwb,hlim,hwa,hOl]
  (repeat' first|contradiction|exact .ok|apply And.intro|intro _|(apply gc<;>simp+contextual[hlim]))
  simp [show i≤9223372036854775805 from by omega,gF (i+1+1) (by omega) 8 (by decide)]
  (repeat' first|contradiction|exact .ok|apply And.intro|intro _|(apply gc<;>simp+contextual))
  refine ⟨i+1,by omega,?_,by simp; omega⟩
  simp only [hsu]
  exact sM _ [(905,46,_)] (by simp [aB,Blk.live,aD]) (by simp [aB,hw])
 obtain rfl:i=l.length:=by omega
 rw [List.take_length] at *
 have htk:(aD (aJ (dJ 0 l))).take (l.length+1)=aD (aJ (dJ 0 l)):=List.take_of_length_le (by simp [aD,hOl])
 have hIl:(aD (aJ (dJ 0 l))).length=l.length+1:=by simp [aD,hOl]
 simp [hll,hOl,htk]
 all_goals exact gz
theorem qF (l:List Bk) (hl:l.length≤900):Cf En 74 [.d (.sl (l.map Bk.c))] [] (.d (.sl (aD (aJ (aX l))))) []:=by
 refine cI aW (fn:=Tryz.f74) rfl ?_
 simp
 (repeat' first|contradiction|exact .ok|apply And.intro|intro _|(apply gc<;>simp+contextual))
 refine aL aW (fun i:Nat=>{ s:=cE [(0,.d (.sl (l.map Bk.c))),(3,.ref 903 0 i 1),(4,.d (.int .i64 i))],b:=cC [(903,903,.arr 3 1 (aD (aJ (aX (l.take i)))) false)] }) (fun i=>i≤l.length) (fun i=>l.length - i) 0 (by simp)
  (fD 3 903 3 1 (by simp) (by simp) (by decide) (by decide) _ [(903,903,_)] ⟨by simp,by simp,by simp [aB,Blk.live,aX,aJ,aD],by simp⟩ (by simp [aB])) ?_
 intro i hi
 have hIl:(aD (aJ (aX (l.take i)))).length=i:=by simp [aD,aJ,aX]; omega
 by_cases hlt:i<l.length
 ·have hw:=wI (n:=(i:Int)+1)
  obtain ⟨b,hb⟩:∃ b,b=l[i]:=⟨_,rfl⟩
  have hgb:∀ h,l[i]'h=b:=fun _=>hb.symm
  have hct:=HI hlt
  rw [hgb] at hct
  have hsu:aD (aJ (aX (l.take (i+1))))=aD (aJ (aX (l.take i)))++[[.int .i64 b.n]]:=by rw [hct]; simp [aD]
  generalize aD (aJ (aX (l.take i)))=Z at *
  have htk:Z.take i=Z:=List.take_of_length_le (by omega)
  simp [hlt,hgb,Bk.c,hIl,htk,gF (i+1) (by omega) 8 (by decide)]
  (repeat' first|contradiction|exact .ok|apply And.intro|intro _|(apply gc<;>simp+contextual))
  refine ⟨i+1,by omega,?_,by simp; omega⟩
  simp only [hsu]
  exact sM _ [(903,18,_)] (by simp [aB,Blk.live]) (by simp [aB,hw])
 obtain rfl:i=l.length:=by omega
 rw [List.take_length] at *
 have htk:(aD (aJ (aX l))).take l.length=aD (aJ (aX l)):=List.take_of_length_le (by omega)
 simp [hIl,htk]
 all_goals exact gz
theorem DM (X:List (List Bk)) (k:Nat) (l:List Bk) (hXk:X[k]?=some l) (hl:l.length≤900) (hs:bD (aX l)≤1000000000) (hX:X.length≤1000):Cf En 37 [cP X,.d (.int .i64 k)] [] (.d (.int .i64 (bD (aX l)))) []:=by
 refine cI aW (fn:=Tryz.f37) rfl ?_
 obtain ⟨hk,hgl0⟩:=List.getElem?_eq_some_iff.1 hXk
 have hgl:∀ h,X[k]'h=l:=fun _=>hgl0
 have hc:=qF l hl
 have ho:=nO (aX l) (by rw [eD]; omega) hs
 have hol:(aJ (dJ 0 (aX l))).length=l.length+1:=by rw [dC,iK,eD]
 have hlast:∀ h,(aJ (dJ 0 (aX l)))[l.length]'h=(bD (aX l):Int):=fun h=>by
  have hj:l.length<(dJ 0 (aX l)).length:=by rw [dC] at h; exact h
  rw [gC hj]
  have:=xY (aX l)
  rw [eD,gE hj,Option.some.injEq] at this
  rw [this]
 generalize aJ (dJ 0 (aX l))=O at *
 have hkn:¬ (k:Int)<0:=by omega
 have hkg:¬ (X.length:Int)≤k:=by omega
 have hkg2:¬ X.length≤k:=by omega
 have e1:(l.length:Int)+1 - 1=l.length:=by omega
 have hw1:=wI (n:=(l.length:Int))
 have hll:l.length<O.length:=by omega
 simp [cP,hkn,hkg]
 (repeat' first|contradiction|exact .ok|apply And.intro|intro _|(apply gc<;>simp+contextual[hkn,hkg,hkg2]))
 simp [hk,hgl,iG]
 (repeat' first|contradiction|exact .ok|apply And.intro|intro _|(apply gc<;>simp+contextual))
 refine aP hc ?_
 simp
 refine aP ho ?_
 simp [hol,e1,hw1,hlast]
 (repeat' first|contradiction|exact .ok|apply And.intro|intro _|(apply gc<;>simp+contextual[hol,e1,hw1,hll,hlast]))
theorem TC (x:Tb) (hx:x.ok) (b:Bk) (hb:b.v.length=x.cols.length) (hne:b.v ≠ []):Cf En 71 [x.a,.agg (b.c.map AV.d)] [] (.ref 1000000 0 b.v.length 3) [.arr 92 3 ((iQ x b.v b.v.length).map V.c) false]:=by
 refine cJ aW (fn:=Tryz.f71) rfl ?_
 have hxc:=hx.cols
 have hbi:(x.cols.length:Int)=b.v.length:=by omega
 have hbn:x.cols.length=b.v.length:=by omega
 have hl1:=(mk8 b.v.length (by omega)).1
 have hl2:32*(b.v.length:Int)≤281474976710656:=by omega
 have hbd:(List.replicate b.v.length [D.int IntKind.i64 0,D.int IntKind.i64 0,D.str []]).length=b.v.length:=by simp
 have htk:(b.v.map V.c).take b.v.length=b.v.map V.c:=List.take_of_length_le (by simp)
 have hdr:List.drop b.v.length (List.replicate b.v.length [D.int IntKind.i64 0,D.int IntKind.i64 0,D.str []])=[]:=List.drop_of_length_le (by simp)
 simp [show ∀ u:V,u.c.length=3 from fun _=>rfl,hne,Tb.a,Tb.c,Bk.c,hbn,hl1,hl2]
 (repeat' first|contradiction|exact .ok|apply And.intro|intro _|(apply gc<;>simp+contextual))
 refine aL aW (fun c:Nat=>{ s:=cE [(2,.ptr 2 0 0),(5,.ref 905 0 b.v.length 3),(6,.d (.int .i64 c))],b:=cC [(2,2,.var (x.c.map AV.d)),(905,905,.arr 92 3 ((iQ x b.v c).map V.c) false)] }) (fun c=>c≤b.v.length) (fun c=>b.v.length - c) 0 (by simp)
  (sM _ [(2,2,_),(905,10,_)] (by simp [aB,Blk.live,Tb.c,xV]) (by simp [aB])) ?_
 intro c hc
 have hbl:=gT x b.v c
 by_cases hlt:c<b.v.length
 ·have hk:=PR x hx c
  have hs:=xW (x:=x) (v:=b.v) (n:=c)
  have hw:=wI (n:=(c:Int)+1)
  cases hK:cU x c with
  | true =>
    rw [hK] at hk
    rw [hK,if_pos rfl] at hs
    simp [hlt,Tb.c]
    (repeat' first|contradiction|exact .ok|apply And.intro|intro _|(apply gc<;>simp+contextual))
    refine aA hk (by simp [Tb.a,Tb.c]) ?_
    simp [hlt,hbl,V.c]
    (repeat' first|contradiction|exact .ok|apply And.intro|intro _|(apply gc<;>simp+contextual))
    refine ⟨c+1,by omega,?_,by simp; omega⟩
    simp only [hs]
    exact sM _ [(2,2,_),(905,905,_)] (by simp [aB,Blk.live,List.map_set,V.c]) (by simp [aB,hw])
  | false =>
    rw [hK] at hk
    rw [hK,if_neg (by simp)] at hs
    simp [hlt,Tb.c]
    (repeat' first|contradiction|exact .ok|apply And.intro|intro _|(apply gc<;>simp+contextual))
    refine aA hk (by simp [Tb.a,Tb.c]) ?_
    simp
    (repeat' first|contradiction|exact .ok|apply And.intro|intro _|(apply gc<;>simp+contextual))
    refine ⟨c+1,by omega,?_,by simp; omega⟩
    simp only [hs]
    exact sM _ [(2,2,_),(905,905,_)] (by simp [aB,Blk.live]) (by simp [aB,hw])
 obtain rfl:c=b.v.length:=by omega
 simp
 (repeat' first|contradiction|exact .ok|apply And.intro|intro _|(apply gc<;>simp+contextual))
 exact EndsS.of [905] _ rfl (by simp; rfl) (by decide) rfl (by apply nS<;>simp [Blk.live]) (by simp [aB])
def rbF (S:List Tb) (X:List (List Bk)) (x:Tb) (b:Bk) (k:Nat) (l:List (Nat×AV)):St :=
 { s:=cE ([(2,.d (.int .i64 k)),(4,.ptr 4 0 0),(5,.ptr 5 0 0),(7,.ptr 7 0 0),(9,.ptr 9 0 0)]++l),b:=cC [(4,4,.var [.d (.sl (S.map Tb.c))]),(5,5,.var [.d (.sl (X.map iG))]),(7,7,.var (b.c.map AV.d)),(9,9,.var (x.c.map AV.d))] }
theorem YX (S:List Tb) (hl:S.length≤1000) (hS:∀ x∈S,x.ok) (X:List (List Bk)) (hX:X.length≤1000) (k:Nat) (x:Tb) (hk:S[k]?=some x) (hch:x.ch=[]) (hut:∀ u∈x.cols,u.t=1∨u.t=2∨u.t=3) (b:Bk) (h:OV S X x b) :
  Cf En 75 [aN S,cP X,.d (.int .i64 k),.agg (b.c.map AV.d)] [] (.d (.int .i64 0)) []:=by
 refine cI aW (fn:=Tryz.f75) rfl ?_
 obtain ⟨hkl,hgx0⟩:=List.getElem?_eq_some_iff.1 hk
 have hgx:∀ h,S[k]'h=x:=fun _=>hgx0
 have hxo:=hS x (by rw [← hgx0]; exact List.getElem_mem hkl)
 have hvl:=h.v
 have hpl:=h.p
 have hcl:=hxo.cols
 have hfl:=hxo.fk
 have hvi:(b.v.length:Int)=x.cols.length:=by omega
 have hpi:(b.p.length:Int)=x.fk.length:=by omega
 simp [aN,cP,hkl,hgx,Tb.c,Bk.c,hvl,hpl]
 (repeat' first|contradiction|exact .ok|apply And.intro|intro _|(apply gc<;>simp+contextual[hkl,hgx,Tb.c,Bk.c,hvl,hpl]))
 refine aL aW (fun c:Nat=>rbF S X x b k [(10,.d (.int .i64 c))]) (fun c=>c≤b.v.length) (fun c=>b.v.length - c) 0 (by simp)
  (sM _ [(4,4,_),(5,5,_),(7,7,_),(9,9,_)] (by simp [aB,Blk.live,Tb.c,Bk.c]) (by simp [aB])) ?_
 intro c hc
 by_cases hlt:c<b.v.length
 ·obtain ⟨v,hv⟩:∃ v,v=b.v[c]:=⟨_,rfl⟩
  have hgv:∀ h,b.v[c]'h=v:=fun _=>hv.symm
  have hcx:c<x.cols.length:=by omega
  obtain ⟨u,hu⟩:∃ u,u=x.cols[c]:=⟨_,rfl⟩
  have hgu:∀ h,x.cols[c]'h=u:=fun _=>hu.symm
  obtain ⟨v1,v2⟩:=h.val c v u (by rw [gE hlt,hv]) (by rw [gE hcx,hu])
  have hu0:=hut u (by rw [hu]; exact List.getElem_mem hcx)
  have hke:=PR x hxo c
  have hva:=sV v
  rw [v1] at hva
  have hw:=wI (n:=(c:Int)+1)
  cases hK:cU x c with
  | true =>
    rw [hK] at hke
    simp [rbF,hlt,hgv,hcx,Tb.c,V.c,Bk.c]
    (repeat' first|contradiction|exact .ok|apply And.intro|intro _|(apply gc<;>simp+contextual))
    refine aA hke (by simp [Tb.a,Tb.c]) ?_
    simp
    (repeat' first|contradiction|exact .ok|apply And.intro|intro _|(apply gc<;>simp+contextual))
    refine ⟨c+1,by omega,?_,by simp; omega⟩
    exact sM _ [(4,4,_),(5,5,_),(7,7,_),(9,9,_)] (by simp [aB,Blk.live]) (by simp [aB,hw])
  | false =>
    rw [hK] at hke
    simp [rbF,hlt,hgv,hcx,Tb.c,V.c,Bk.c]
    (repeat' first|contradiction|exact .ok|apply And.intro|intro _|(apply gc<;>simp+contextual))
    refine aA hke (by simp [Tb.a,Tb.c]) ?_
    simp
    (repeat' first|contradiction|exact .ok|apply And.intro|intro _|(apply gc<;>simp+contextual))
    refine aA hva (by simp [V.a]) ?_
    by_cases k0:v.k=0
    ·have hub:u.b=true:=by
      rcases v2 with e | e
      ·omega
      ·exact e.1
     simp [k0,hub,hcx,hgu,Col.c]
     (repeat' first|contradiction|exact .ok|apply And.intro|intro _|(apply gc<;>simp+contextual[k0,hub]))
     refine ⟨c+1,by omega,?_,by simp; omega⟩
     exact sM _ [(4,4,_),(5,5,_),(7,7,_),(9,9,_)] (by simp [aB,Blk.live]) (by simp [aB,hw])
    ·have hkt:v.k=u.t:=by
      rcases v2 with e | e
      ·exact e
      ·exact absurd e.2 k0
     have hu00:¬ u.t=0:=by omega
     simp [hkt,hu00,hcx,hgu,Col.c]
     (repeat' first|contradiction|exact .ok|apply And.intro|intro _|(apply gc<;>simp+contextual[hkt,hu00]))
     refine ⟨c+1,by omega,?_,by simp; omega⟩
     exact sM _ [(4,4,_),(5,5,_),(7,7,_),(9,9,_)] (by simp [aB,Blk.live]) (by simp [aB,hw])
 obtain rfl:c=b.v.length:=by omega
 simp [rbF,Bk.c,Tb.c,hvl]
 (repeat' first|contradiction|exact .ok|apply And.intro|intro _|(apply gc<;>simp+contextual))
 refine aL aW (fun f:Nat=>rbF S X x b k [(12,.d (.int .i64 f))]) (fun f=>f≤b.p.length) (fun f=>b.p.length - f) 0 (by simp)
  (sM _ [(4,4,_),(5,5,_),(7,7,_),(9,9,_)] (by simp [aB,Blk.live,Tb.c,Bk.c]) (by simp [aB])) ?_
 intro f hf
 by_cases hlf:f<b.p.length
 ·have hfx:f<x.fk.length:=by omega
  obtain ⟨to,l,i,q,e1,e2,e3,e4,e5⟩:=h.par f x.fk[f] b.p[f] (gE hfx) (gE hlf)
  obtain ⟨hto,hgl0⟩:=List.getElem?_eq_some_iff.1 e2
  obtain ⟨hil,hgq0⟩:=List.getElem?_eq_some_iff.1 e4
  have hgl:∀ h,X[to]'h=l:=fun _=>hgl0
  have hgq:∀ h,l[i]'h=q:=fun _=>hgq0
  have hgp:∀ h,b.p[f]'h=(i:Int):=fun _=>e3
  have hta:=gH S hl hS hkl hgx0 hfx rfl
  rw [cN (show aV (fun y:Tb=>y.n==x.fk[f].t) S 0=to from e1)] at hta
  have hw:=wI (n:=(f:Int)+1)
  have hin:¬ (i:Int)<0:=by omega
  have hig:¬ l.length≤i:=by omega
  have higi:¬ (l.length:Int)≤i:=by omega
  have hqn:¬ (q.n:Int)≤0:=by omega
  have hqn2:¬ q.n=0:=by omega
  simp [rbF,hlf,Bk.c]
  (repeat' first|contradiction|exact .ok|apply And.intro|intro _|(apply gc<;>simp+contextual))
  refine aA hta (by simp [aN]) ?_
  simp [hlf,hgp,hto,hgl,iG,hin,higi,hil,hgq,Bk.c,hqn2]
  (repeat' first|contradiction|exact .ok|apply And.intro|intro _|(apply gc<;>simp+contextual[hto,hgl,iG,hin,hig,higi,hil,hgq,Bk.c,hqn,hqn2]))
  refine ⟨f+1,by omega,?_,by simp; omega⟩
  exact sM _ [(4,4,_),(5,5,_),(7,7,_),(9,9,_)] (by simp [aB,Blk.live,Tb.c]) (by simp [aB,hw])
 obtain rfl:f=b.p.length:=by omega
 simp [rbF,Tb.c,Bk.c]
 (repeat' first|contradiction|exact .ok|apply And.intro|intro _|(apply gc<;>simp+contextual))
 refine aL aW (fun _:Unit=>rbF S X x b k [(16,.d (.int .i64 0))]) (fun _=>True) (fun _=>0) () trivial
  (sM _ [(4,4,_),(5,5,_),(7,7,_),(9,9,_)] (by simp [aB,Blk.live,Tb.c,Bk.c]) (by simp [aB])) ?_
 intro _ _
 simp [rbF,Tb.c,Bk.c,hch]
 (repeat' first|contradiction|exact .ok|apply And.intro|intro _|(apply gc<;>simp+contextual[hch]))
theorem HA {S:List Tb} {X:List (List Bk)} (h:jS S X) (hpl:Cf Es 61 [aN S] [] (.d (.bool true)) []) :
  Cf Es 35 [aN S,cP X] [] (.d (.int .i64 0)) []:=by
 refine cI bM (fn:=Tryz.f35) rfl ?_
 have hfew:=h.few
 have hXl:=h.len
 have hXi:(X.length:Int)=S.length:=by omega
 simp [aN,cP]
 (repeat' first|contradiction|exact .ok|apply And.intro|intro _|(apply gc<;>simp+contextual))
 refine aA hpl (by simp [aN]) ?_
 simp [hXl]
 (repeat' first|contradiction|exact .ok|apply And.intro|intro _|(apply gc<;>simp+contextual[hXl]))
 refine aL bM (fun k:Nat=>{ s:=cE [(2,.ptr 2 0 0),(3,.ptr 3 0 0),(5,.d (.int .i64 k))],b:=cC [(2,2,.var [.d (.sl (S.map Tb.c))]),(3,3,.var [.d (.sl (X.map iG))])] }) (fun k=>k≤S.length) (fun k=>S.length - k) 0 (by simp)
  (sM _ [(2,2,_),(3,3,_)] (by simp [aB,Blk.live]) (by simp [aB])) ?_
 intro k hk
 by_cases hkS:k<S.length
 ·have hkl:k<X.length:=by omega
  obtain ⟨l,hl⟩:∃ l,l=X[k]:=⟨_,rfl⟩
  have hgl:∀ h,X[k]'h=l:=fun _=>hl.symm
  obtain ⟨x,hx⟩:∃ x,x=S[k]:=⟨_,rfl⟩
  have hxm:x∈S:=by rw [hx]; exact List.getElem_mem hkS
  obtain ⟨l1,l2⟩:=h.bl l (by rw [hl]; exact List.getElem_mem hkl)
  have hb:=h.blk k x l (by rw [gE hkS,hx]) (by rw [gE hkl,hl])
  have hc:=eG (qF l l1)
  have ho:=eG (nO (aX l) (by rw [eD]; omega) l2)
  have hw:=wI (n:=(k:Int)+1)
  have h2000:¬ (2000:Int)<l.length:=by omega
  have h2000n:¬ 2000<l.length:=by omega
  simp [hkS,hkl,hgl,iG]
  (repeat' first|contradiction|exact .ok|apply And.intro|intro _|(apply gc<;>simp+contextual))
  refine aP hc ?_
  simp
  refine aP ho ?_
  simp [h2000,hkl,hgl,iG]
  (repeat' first|contradiction|exact .ok|apply And.intro|intro _|(apply gc<;>simp+contextual[h2000,h2000n]))
  refine aL bM (fun j:Nat=>{ s:=cE [(2,.ptr 2 0 0),(3,.ptr 3 0 0),(5,.d (.int .i64 k)),(8,.d (.int .i64 j))],b:=cC [(2,2,.var [.d (.sl (S.map Tb.c))]),(3,3,.var [.d (.sl (X.map iG))])] }) (fun j=>j≤l.length) (fun j=>l.length - j) 0 (by simp)
   (sM _ [(2,2,_),(3,3,_)] (by simp [aB,Blk.live]) (by simp [aB])) ?_
  intro j hj
  by_cases hjl:j<l.length
  ·obtain ⟨b,hb0⟩:∃ b,b=l[j]:=⟨_,rfl⟩
   have hgb:∀ h,l[j]'h=b:=fun _=>hb0.symm
   have hbl:=eG (YX S hfew h.ok X (by omega) k x (by rw [gE hkS,hx]) (h.ch x hxm) (h.ty x hxm) b (hb b (by rw [hb0]; exact List.getElem_mem hjl)))
   have hwj:=wI (n:=(j:Int)+1)
   simp [hkl,hgl,iG,hjl,hgb,Bk.c]
   (repeat' first|contradiction|exact .ok|apply And.intro|intro _|(apply gc<;>simp+contextual))
   refine aA hbl (by simp [aN,cP,Bk.c]) ?_
   simp
   (repeat' first|contradiction|exact .ok|apply And.intro|intro _|(apply gc<;>simp+contextual))
   refine ⟨j+1,by omega,?_,by simp; omega⟩
   exact sM _ [(2,2,_),(3,3,_)] (by simp [aB,Blk.live]) (by simp [aB,hwj])
  obtain rfl:j=l.length:=by omega
  simp [hkl,hgl,iG]
  (repeat' first|contradiction|exact .ok|apply And.intro|intro _|(apply gc<;>simp+contextual))
  refine ⟨k+1,by omega,?_,by simp; omega⟩
  exact sM _ [(2,2,_),(3,3,_)] (by simp [aB,Blk.live]) (by simp [aB,hw])
 obtain rfl:k=S.length:=by omega
 simp
 all_goals exact gz
end Go.Proofs.Tryz
