import Derived.Test.YtkkbepgccddjoaaGreatDoorCSmc
import Derived.Test.YtkkbepgccddjoaaGreatDoorCMvz
import Derived.Test.YtkkbepgccddjoaaGreatDoorCHld
import Derived.Test.YtkkbepgccddjoaaGreatDoorDrw
import Derived.Test.YtkkbepgccddjoaaGreatDoorCSsp
import Derived.Test.YtkkbepgccddjoaaGreatDoorCShr
import Derived.Test.YtkkbepgccddjoaaGreatDoorGue
import Derived.Test.YtkkbepgccddjoaaGreatDoorCRwc
set_option linter.all false
namespace Go.Proofs.Tryz
open Go.Ab
set_option maxRecDepth 100000
set_option maxHeartbeats 8000000
structure VS (x:Tb):Prop where
 tab:fB fN ZU x=0
 pln:gJ x=true
 t0:dO x 0=1
 pr:x.pr=[0]
 fk:∀ f∈x.fk,∃ c,f.cols=[c]∧dO x c=1
theorem YU {S:List Tb} (hD:NI S) (hl:S.length≤6) (hat:∀ x∈S,VS x):mR S=true:=by
 have hd:=JO hD
 have hlt:∀ {k:Nat} {x:Tb},S[k]?=some x→k<6:=fun h=>by
  have:=(List.getElem?_eq_some_iff.1 h).1
  omega
 have hfi:∀ {k:Nat} {x:Tb},S[k]?=some x→aV (fun y:Tb=>y.n==qC 116 k) S 0=k:=fun {k x} h=>by
  have:=pZ (p:=fun y:Tb=>y.n==qC 116 k) (k:=0) h (by simp [(hD k x h).1]) (fun i y hi hy=>by
   simp only [beq_eq_false_iff_ne]
   intro e
   rw [(hD i y hy).1] at e
   have:=KF i (hlt hy) k (hlt h) e
   omega)
  rw [this]; omega
 unfold mR OH ED dY
 rw [Bool.and_eq_true,beq_iff_eq,if_neg (by omega),wA hd]
 refine ⟨?_,List.all_eq_true.2 fun x hx=>(hat x hx).pln⟩
 rw [iU (f:=kI fN ZU S),iU]
 ·rfl
 ·intro i x hx
  refine iU fun q f hf=>?_
  have hX:=hat x (List.mem_of_getElem? hx)
  have hfm:=List.mem_of_getElem? hf
  obtain ⟨c,e1,e2⟩:=hX.fk f hfm
  obtain ⟨m,hm,em⟩:=(hD i _ hx).2 f hfm
  have hiS:=(List.getElem?_eq_some_iff.1 hx).1
  have hSm:S[m]?=some (S[m]'(by omega)):=gE (by omega)
  have hM:=hat _ (List.mem_of_getElem? hSm)
  have ht:tgt S f=m:=by unfold tgt; rw [em]; exact hfi hSm
  unfold kJ
  rw [ht,Int.toNat_natCast,hSm]
  simp only
  rw [if_neg (by omega),if_pos]
  unfold mT
  rw [e1,hM.pr]
  simp [e2,hM.t0]
 ·intro i x hx
  have hn:=(hD i x hx).1
  unfold kI
  rw [hn,aFu i (hlt hx),if_neg (by simp),hfi hx,if_neg (by omega)]
  exact (hat x (List.mem_of_getElem? hx)).tab
theorem SW {x y:Tb} {a:At} (h1:y.cols=x.cols) (h2:y.pr=x.pr) (h3:y.fk=x.fk) (h:vJ x a):vJ y a:=by
 have hk:cU y a.col=cU x a.col:=by unfold cU; rw [h2,h3]
 have ht:dO y a.col=dO x a.col:=by unfold dO; rw [h1]
 exact ⟨by rw [h1]; exact h.col,by rw [hk]; exact h.key,by rw [ht]; exact h.kind,h.val,h.len,h.no0,h.num⟩
theorem VT (x:Tb):∀ (l:List Fk) (pre:List Int),lL ⟨x.n,x.cols,x.pr,x.un,x.fk,[]⟩ pre l=lL x pre l
 | [],_=>by rw [lL,lL]
 | f::l,pre=>by rw [lL,lL,VT x l]; rfl
theorem aGx {x:Tb} (h:VS ⟨x.n,x.cols,x.pr,x.un,x.fk,[]⟩) (hl:x.ch.length≤4) (hc:∀ e∈x.ch,ZU x e=(2,0)∧e.cols.any (cU x)=false):VS x:=by
 obtain ⟨h1,h2,h3,h4,h5⟩:=h
 refine ⟨?_,?_,h3,h4,h5⟩
 ·unfold fB at h1 ⊢
  split at h1
  ·cases h1
  ·rename_i hn
   rw [if_neg (by simp only [not_or] at hn ⊢; exact ⟨hn.1,hn.2.1,hn.2.2.1,by omega⟩)]
   split at h1
   ·cases h1
   ·rename_i h0
    rw [if_neg h0]
    obtain ⟨a1,a2⟩:=kK h1
    obtain ⟨b1,_⟩:=kK a2
    have k1:gD x=0:=b1
    have k2:bG (mY fN x.cols) x.cols 0=0:=a1
    rw [k2,eY,k1,eY]
    refine iU fun i e he=>?_
    unfold mZ
    rw [(hc e (List.mem_of_getElem? he)).1]
    simp
 ·unfold gJ at h2 ⊢
  rw [Bool.and_eq_true,Bool.and_eq_true] at h2 ⊢
  refine ⟨h2.1,by have:=h2.2.1; rw [VT] at this; exact this,?_⟩
  rw [Bool.not_eq_true',List.any_eq_false]
  intro e he
  rw [(hc e he).2]
  simp
theorem aId {x:Tb} (hm:qE x) {a:At} (h:vJ x a):ZU x a.ex=(2,0)∧a.ex.cols.any (cU x)=false:=by
 obtain ⟨c0,c1⟩:=h.col
 obtain ⟨_,p2,p3,p4⟩:=NW a
 have h0:a.mv 0=a:=by
  obtain ⟨c,o,v⟩:=a
  unfold At.mv
  simp
 have ht:=aFp (ts:=x.cols.map Col.t) h hm.ty (d:=0) (by omega) (by rw [List.length_map]; omega) (by
  unfold dO
  rw [Int.add_zero,List.getElem?_map])
 rw [h0] at ht
 refine ⟨?_,by rw [vY]; simp [h.key]⟩
 unfold ZU tO
 rw [if_neg (by omega),if_neg (by omega),ht]
theorem aEs (L:List Int) (j a:Nat):VS (qD L j a).1:=by
 obtain ⟨p1,p2,p3,p4,p5,p6⟩:=rT L (jB L j a) (FG L (a+1+2*eI L a) j)
 obtain ⟨h1,h2,h3,h4⟩:=wF L j a
 have hm:=UL (L:=L) (kE L j a) (FG L (a+1+2*eI L a) j)
 have hat:=fun c=>vK L (kE L j a) c
 have hpr:(jB L j a).pr=[0]:=rfl
 have hch:(jB L j a).ch=[]:=rfl
 unfold qD
 generalize (OI L (jB L j a) (FG L (a+1+2*eI L a) j)).1=y at *
 generalize jB L j a=x at *
 have hx:(⟨y.n,y.cols,y.pr,y.un,y.fk,[]⟩:Tb)=x:=by
  obtain ⟨n,c,r,u,f,k⟩:=x
  simp only at p1 p2 p3 p4 p5 hch ⊢
  rw [p1,p2,p3,p4,p5,hch]
 refine aGx (by rw [hx]; exact ⟨h1,h2,h3,hpr,h4⟩) ?_ ?_
 ·rcases p6 with e | ⟨b,e⟩
  ·rw [e,hch]; simp
  ·rw [e]; simp
 ·intro e he
  rcases p6 with e' | ⟨b,e'⟩
  ·rw [e',hch] at he; cases he
  ·rw [e',List.mem_singleton] at he
   subst he
   exact aId hm (SW p3 p4 p5 (hat b))
theorem SX (L:List Int) (a n:Nat) (hn:n≤6):mR (bS L a n).1=true:=by
 refine YU (oN L a n) (by rw [dU]; exact hn) fun x hx=>?_
 obtain ⟨j,b,rfl⟩:=lT hx
 exact aEs L j b
theorem zV {L:List Int} {S:List Tb} {x:Tb} {T:Nat→List (List V)} {b c:Nat}:∀ {z:Nat} {r:List V},(∀ f∈x.fk,(eA f.cols).toNat ≠ c)→(LC L S x T b z r)[c]?=r[c]?
 | 0,r,_=>rfl
 | z+1,r,h=>by
   rw [LC]
   cases hz:x.fk[z]? with
   | none=>exact zV h
   | some f =>
     simp only
     rw [List.getElem?_set_ne (h f (List.mem_of_getElem? hz))]
     exact zV h
theorem aAZ {L:List Int} {S:List Tb} {x:Tb} (hx:iV x) {T:Nat→List (List V)} {b:Nat}:∀ {z:Nat} {r:List V} {j:Nat} {f:Fk},z≤x.fk.length→j<z→x.fk[j]?=some f→r.length=x.cols.length→(LC L S x T b z r)[(eA f.cols).toNat]?=some (jK (1+aS L (b+j) (T (eR S f)).length))
 | 0,r,j,f,_,hj,_,_=>by omega
 | z+1,r,j,f,hz,hj,hf,hr=>by
   rw [LC]
   have hzl:z<x.fk.length:=by omega
   rw [gE hzl]
   simp only
   obtain ⟨c,e1,c1,_⟩:=hx.fk f (List.mem_of_getElem? hf)
   have hfc:(eA f.cols).toNat=c:=by rw [e1]; simp [eA]
   by_cases hjz:j=z
   ·subst hjz
    rw [gE hzl,Option.some.injEq] at hf
    rw [hf,List.getElem?_set_self (by rw [vV,hr,hfc]; exact c1)]
   ·obtain ⟨d,e2,d1,_⟩:=hx.fk x.fk[z] (List.getElem_mem hzl)
    have hzc:(eA x.fk[z].cols).toNat=d:=by rw [e2]; simp [eA]
    have hne:d ≠ c:=by
     intro e
     subst e
     have:=List.nodup_iff_pairwise_ne.1 hx.dis
     rw [List.pairwise_iff_getElem] at this
     have hj':j<x.fk.length:=by omega
     have hfj:x.fk[j]=f:=by rw [gE hj',Option.some.injEq] at hf; exact hf
     have:=this j z (by simpa using hj') (by simpa using hzl) (by omega)
     simp only [List.getElem_map] at this
     rw [hfj,e1,e2] at this
     exact this rfl
    rw [List.getElem?_set_ne (by rw [hzc,hfc]; exact hne)]
    exact aAZ hx (by omega) (by omega) hf hr
theorem aDS (L:List Int) {S:List Tb} {x:Tb} (hx:iV x) {T:Nat→List (List V)} (a k:Nat) (hT:∀ f∈x.fk,0<(T (eR S f)).length):HE S T x k (JR L S x T a k):=by
 obtain ⟨p,hp,hpl⟩:=hx.pr
 have hpc:(eA x.pr).toNat=p:=by rw [hp]; simp [eA]
 refine ⟨aBb ..,?_,fun f hf=>?_,fun c hc hk v hv=>?_⟩
 ·unfold JR
  rw [zV]
  ·unfold vU
   rw [List.getElem?_set_self (by rw [CV,hpc]; exact hpl)]
  ·intro f hf
   obtain ⟨c,e1,_,c2⟩:=hx.fk f hf
   rw [e1,hpc]
   rw [hp] at c2
   simp [eA] at c2 ⊢
   omega
 ·obtain ⟨j,hj,rfl⟩:=List.getElem_of_mem hf
  unfold JR
  rw [aAZ hx (Nat.le_refl _) hj (gE hj) (CW ..)]
  have hl:=hT _ hf
  have hn:=bB L (a+x.cols.length+j) (n:=((T (eR S x.fk[j])).length:Int)) (by omega)
  generalize aS L (a+x.cols.length+j) ((T (eR S x.fk[j])).length:Int)=z at *
  exact ⟨z.toNat,by rw [Int.toNat_of_nonneg (by omega)],by omega⟩
 ·obtain ⟨k1,k2⟩:=DO hk
  unfold JR at hv
  rw [zV] at hv
  ·unfold vU at hv
   rw [List.getElem?_set_ne (by
    rw [hpc]
    intro e
    subst e
    exact k1 (by rw [hp]; simp))] at hv
   unfold FA at hv
   rw [bE,if_pos hc,Option.some.injEq,if_pos hc] at hv
   subst hv
   unfold smC
   exact HD L _ _ (hx.ty c hc) _
  ·intro f hf e
   obtain ⟨d,e1,_,_⟩:=hx.fk f hf
   have:=k2 f hf
   rw [e1] at this e
   simp [eA] at this e
   omega
theorem NQ (L:List Int) {S:List Tb} {x:Tb} (hx:iV x) {T:Nat→List (List V)} (a:Nat):∀ {m:Nat},(0<m→∀ f∈x.fk,0<(T (eR S f)).length)→∀ n row,(mG L S x T a m)[n]?=some row→HE S T x n row
 | 0,_,n,row,h=>by simp [mG] at h
 | m+1,hT,n,row,h=>by
   rw [mG,List.getElem?_append,sP] at h
   split at h
   ·exact NQ L hx a (fun _=>hT (by omega)) n row h
   ·rename_i hn
    have h0:n=m:=by
     have:=(List.getElem?_eq_some_iff.1 h).1
     simp at this; omega
    subst h0
    rw [Nat.sub_self,List.getElem?_cons_zero,Option.some.injEq] at h
    subst h
    exact aDS L hx _ _ (hT (by omega))
theorem NR (L:List Int) {S:List Tb} (hd:NJ S) (hK:∀ x∈S,iV x) (most:Nat):∀ (n j:Nat) (y:(Nat→List (List V))×Nat),j+n=S.length→OP S y.1 j→OP S (mH L S most (zY j n) y).1 S.length
 | 0,j,y,h,w=>by
   have:j=S.length:=by omega
   subst this
   exact w
 | n+1,j,y,h,w=>by
   rw [zY,mH,Int.toNat_natCast]
   have hj:j<S.length:=by omega
   have hx:aR S j∈S:=by unfold aR; rw [gE hj]; exact List.getElem_mem hj
   refine NR L hd hK most n (j+1) _ (by omega) fun k hk i row hr=>?_
   have hT:∀ m,m<j→(nK L S most j y).1 m=y.1 m:=fun m hm=>by
    unfold nK
    simp only [bP]
    rw [if_neg (by omega)]
   have hup:∀ f∈(aR S k).fk,(nK L S most j y).1 (eR S f)=y.1 (eR S f):=fun f hf=>hT _ (by have:=(hd k (by omega) f hf).2; omega)
   refine aCk ?_ hup
   by_cases hkj:k=j
   ·subst hkj
    unfold nK at hr
    simp only [bP,if_true] at hr
    exact NQ L (hK _ hx) _ (fun hm=>NS hm) i row hr
   ·rw [hT k (by omega)] at hr
    exact w k (by omega) i row hr
theorem aBa (L:List Int) {S:List Tb} (hd:NJ S) (hK:∀ x∈S,iV x) (most a:Nat):OP S (gP L S most a (gB S).1.length).1 S.length:=by
 unfold gP
 rw [List.take_length,wA hd]
 exact NR L hd hK most S.length 0 _ (by omega) fun k hk=>absurd hk (by omega)
theorem YD {S:List Tb} {T:Nat→List (List V)} (h:tA S T) (hpl:Cf Es 59 [aN S] [] (.d (.bool true)) []) {v:Vw} {l:List Nat} (hv:JN S v l) :
  Cf Es 21 [aN S,dT (aO T S.length),v.a] [] (.tup [.d (.int .i64 (iZ (zF S T l v) (T ((l[0]?).getD 0)).length)),.d (.int .i64 0)]) []:=by
 obtain ⟨hlt,hll⟩:=cK hv.ch
 have h3:=hv.len
 have hfew:=h.fill.few
 have hva:=CP (by omega) h.fill.ok.ok (fun x hx=>by have:=h.fill.cols x hx; omega) h.fill.ty hpl hv
 have hta:=eG (fX S (by omega) h.fill.ok.ok v (by omega))
 rw [hv.ch] at hta
 unfold lP at hta
 simp only at hta
 obtain ⟨k0,hk0⟩:∃ k,k=l[0]:=⟨_,rfl⟩
 have h0:l[0]?=some k0:=by rw [gE (by omega),hk0]
 rw [h0,Option.getD_some]
 have hk0S:=hlt k0 (List.mem_of_getElem? h0)
 have hIl:(aO T S.length).length=S.length:=dR ..
 have hgI:∀ k,k<S.length→∀ h,(aO T S.length)[k]'h=T k:=fun k hk=>sU T hk
 have hrow:=fun n hn=>UU h hv.ch (by omega) h0 (n:=n) hn
 have hrl:=fun n hn=>OT h hv.ch h0 hlt (n:=n) hn v.path.length (Nat.le_refl _)
 have hme:=fun row hr=>PS v (by have:=hv.one; omega) (fun e he=>(hv.few e he).1) row hr
 have hTl:=h.len k0
 have hcn:=zR (zF S T l v)
 generalize aO T S.length=I at *
 have hnl:=cH l
 have hga0:∀ h',(aD (aJ l))[0]'h'=[D.int .i64 (k0:Int)]:=fun h'=>by
  obtain ⟨a,b⟩:=List.getElem?_eq_some_iff.1 h0
  simp [aD,aJ,b]
 have hZ0:0<(aD (aJ l)).length:=by omega
 generalize aD (aJ l)=Z at *
 have hk0I:k0<I.length:=by omega
 have hgT:=hgI k0 hk0S
 obtain ⟨R,hR⟩:∃ R:Nat→List V,∀ n,R n=(qV S T l v.path n v.path.length).1:=⟨_,fun _=>rfl⟩
 have hin:∀ n,zF S T l v n=lE v (R n):=fun n=>by rw [hR]; rfl
 simp only [← hR] at hrow hrl
 generalize zF S T l v=P at *
 refine cI bM (fn:=Tryz.f21) rfl ?_
 simp [aN,dT,Vw.a,Vw.c] at hva hta hrow hme ⊢
 (repeat' first|contradiction|exact .ok|apply And.intro|intro _|(apply gc<;>simp+contextual))
 refine aP hva ?_
 simp [hIl]
 (repeat' first|contradiction|exact .ok|apply And.intro|intro _|(apply gc<;>simp+contextual[hIl]))
 refine aP hta ?_
 simp [hZ0,hga0,hk0I,hgT,fY]
 (repeat' first|contradiction|exact .ok|apply And.intro|intro _|(apply gc<;>simp+contextual))
 refine aL bM (fun i:Nat=>{ s:=cE [(3,.ptr 3 0 0),(4,.ptr 4 0 0),(5,.ptr 5 0 0),(11,.d (.int .i64 (iZ P i))),(41,.d (.int .i64 (T k0).length)),(42,.d (.int .i64 i))],b:=cC [(3,3,.var [.d (.sl (S.map Tb.c))]),(4,4,.var [.d (.sl (I.map fY))]),(5,5,.var (v.c.map AV.d))] })
  (fun i=>i≤(T k0).length) (fun i=>(T k0).length - i) 0 (by simp)
  (sM _ [(3,3,_),(4,4,_),(5,5,_)] (by simp [aB,Blk.live,Vw.c]) (by simp [aB,iZ])) ?_
 intro i hi
 by_cases hlti:i<(T k0).length
 ·have hw:=wI (n:=(i:Int)+1)
  have hro:=hrow i hlti
  obtain ⟨_,_,_,hrli⟩:=hrl i hlti
  have hm:=hme (R i) (by omega)
  rw [← hin] at hm
  have hci:=hcn i
  have hs:iZ P (i+1)=iZ P i+(if P i=true then 1 else 0):=rfl
  have hwc:=wI (n:=(iZ P i:Int)+1)
  cases hP:P i with
  | true =>
    rw [hP] at hm
    rw [hP,if_pos rfl] at hs
    simp [hlti,Vw.c]
    (repeat' first|contradiction|exact .ok|apply And.intro|intro _|(apply gc<;>simp+contextual))
    refine aP hro ?_
    simp
    (repeat' first|contradiction|exact .ok|apply And.intro|intro _|(apply gc<;>simp+contextual))
    refine aP hm ?_
    simp [hwc]
    (repeat' first|contradiction|exact .ok|apply And.intro|intro _|(apply gc<;>simp+contextual[hwc]))
    refine ⟨i+1,by omega,?_,by simp; omega⟩
    simp only [hs]
    exact sM _ [(3,3,_),(4,4,_),(5,5,_)] (by simp [aB,Blk.live]) (by simp [aB,hw])
  | false =>
    rw [hP] at hm
    rw [hP,if_neg (by simp),Nat.add_zero] at hs
    simp [hlti,Vw.c]
    (repeat' first|contradiction|exact .ok|apply And.intro|intro _|(apply gc<;>simp+contextual))
    refine aP hro ?_
    simp
    (repeat' first|contradiction|exact .ok|apply And.intro|intro _|(apply gc<;>simp+contextual))
    refine aP hm ?_
    simp
    (repeat' first|contradiction|exact .ok|apply And.intro|intro _|(apply gc<;>simp+contextual))
    refine ⟨i+1,by omega,?_,by simp; omega⟩
    simp only [hs]
    exact sM _ [(3,3,_),(4,4,_),(5,5,_)] (by simp [aB,Blk.live]) (by simp [aB,hw])
 obtain rfl:i=(T k0).length:=by omega
 simp
 all_goals exact gz
theorem aDL {S:List Tb} {I:List (List (List V))} (d:Dm) (k:Int) (hc:Cf Es 21 [aN S,dT I,d.v.a] [] (.tup [.d (.int .i64 k),.d (.int .i64 0)]) []) :
  Cf Es 64 [.agg (d.c.map AV.d),.ptr 1000000 0 0,.ptr 1000001 0 0] [vB [.sl (S.map Tb.c)],vB [.sl (I.map fY)]] (.d (.bool (k != d.n))) [vB [.sl (S.map Tb.c)],vB [.sl (I.map fY)]]:=by
 refine cI bM (fn:=Tryz.f64) rfl ?_
 simp [Dm.c,vB,Vw.a,Vw.c,aN,dT] at hc ⊢
 (repeat' first|contradiction|exact .ok|apply And.intro|intro _|(apply gc<;>simp+contextual))
 refine aP hc ?_
 simp
 (repeat' first|contradiction|exact .ok|apply And.intro|intro _|(apply gc<;>simp+contextual))
 all_goals first | (rw [lO]; refine ⟨?_,?_⟩ <;> simp) | (simp [vB]; done) | skip
theorem UT {S:List Tb} {I:List (List (List V))} (l:List Dm) (hl:l.length≤1000) (cn:Dm→Int) (hc:∀ d∈l,Cf Es 21 [aN S,dT I,d.v.a] [] (.tup [.d (.int .i64 (cn d)),.d (.int .i64 0)]) []) :
  Cf Es 25 [aN S,dT I,.d (.sl (l.map Dm.c))] [] (.d (.bool (!(l.any fun d=>cn d != d.n)))) []:=by
 have h:=aFo 64 [.sl (S.map Tb.c)] [.sl (I.map fY)] (fun d=>cn d != d.n) l hl fun d hd=>aDL d (cn d) (hc d hd)
 generalize (l.any fun d=>cn d != d.n)=b at *
 unfold vB at h
 refine cI bM (fn:=Tryz.f25) rfl ?_
 simp [aN,dT]
 (repeat' first|contradiction|exact .ok|apply And.intro|intro _|(apply gc<;>simp+contextual))
 refine aH [3,4] h (by simp) (by simp [fF]) ?_
 simp
 all_goals exact gz
theorem aDK {S:List Tb} (hD:NI S) (hl:S.length≤6):∀ k,k<S.length→mV S (FD S k)=k:=by
 intro k hk
 have hx:S[k]?=some S[k]:=gE hk
 have hnm:FD S k=qC 116 k:=by unfold FD aR; rw [hx]; exact (hD k _ hx).1
 rw [hnm]
 unfold mV
 have:=pZ (p:=fun y:Tb=>y.n==qC 116 k) (k:=0) hx (by simp [(hD k _ hx).1]) (fun i y hi hy=>by
  simp only [beq_eq_false_iff_ne,ne_eq]
  rw [(hD i y hy).1]
  intro e
  have:=KF i (by omega) k (by omega) e
  omega)
 rw [this]
 simp
theorem YC (L:List Int) {S:List Tb} (hF:iP S) (hd:NJ S) (hp:mR S=true) (most a:Nat) (hm:most≤100):tA S (gP L S most a (gB S).1.length).1:=by
 have hK:∀ x∈S,iV x:=fun x hx=>aCj hF hp hx
 refine ⟨hF,hK,fun x hx g hg=>?_,fun k=>?_,aBa L hd hK most a⟩
 ·obtain ⟨k,hk,rfl⟩:=List.getElem_of_mem hx
  have ht:aR S k=S[k]:=by unfold aR; rw [gE hk]; rfl
  have:=hd k hk g (by rw [ht]; exact hg)
  omega
 ·unfold gP
  have:=tZ (L:=L) (S:=S) (most:=most) ((gB S).1.take (gB S).1.length) (fun _=>[],a) (fun _=>by simp) k
  omega
theorem GL {S:List Tb} {T:Nat→List (List V)} (h:tA S T) {v:Vw} {l:List Nat} (hc:dW S v=some l) (h3:l.length≤10) (n:Int):∃ (R:List V) (b:Bool),NK S T l v n=.tup [.d (.sl (R.map V.c)),.d (.bool b)]∧R.length≤1000:=by
 obtain ⟨hlt,hll⟩:=cK hc
 unfold NK
 split
 ·rename_i hn
  have h0:l[0]?=some l[0]:=gE (by omega)
  rw [h0,Option.getD_some] at hn
  obtain ⟨_,_,_,hr⟩:=OT h hc h0 hlt (n:=n.toNat) (by omega) v.path.length (Nat.le_refl _)
  exact ⟨_,_,rfl,by omega⟩
 ·exact ⟨[],false,rfl,by simp⟩
theorem EZ (L:List Int) (n:Int) :
  Cf Es 4 [.d (.sl (aD L)),.d (.int .i64 n)] [] (.d (.bool true)) []:=by
 refine cI bM (fn:=Tryz.f4) rfl ?_
 have hpl:=eG (KG L 0 (by omega))
 obtain ⟨N,hN⟩:∃ N,N=(1+aS L 0 3).toNat:=⟨_,rfl⟩
 have hn3:=bB L 0 (n:=3) (by omega)
 rw [← hN] at hpl
 have hN3:N≤3:=by omega
 have hN1:0<N:=by omega
 have hbl:=rX L (0+1) N
 have hSl:(bS L (0+1) N).1.length=N:=dU ..
 have hF:=YH L (0+1) N (by omega)
 have hDN:=oN L (0+1) N
 have hMade:∀ x∈(bS L (0+1) N).1,qE x:=fun x hx=>GC hx
 have hpm:=SX L (0+1) N (by omega)
 obtain ⟨b,hb⟩:∃ b,b=(bS L (0+1) N).2:=⟨_,rfl⟩
 rw [← hb] at hpl hbl
 generalize (bS L (0+1) N).1=S at *
 have hd:=JO hDN
 have hNm:=aDK hDN (by omega)
 have hgd:=eG (aFW L S hF 8 (by omega) b (by omega))
 have hG:=YC L hF hd hpm 8 b (by omega)
 have hle:(CY L S 8 b).2≤b+10*2801:=by
  unfold CY gP
  have:=DA (L:=L) hF (most:=8) (by omega) ((gB S).1.take (gB S).1.length) (fun _=>[],b) (fun z hz=>(VL S).rng z (List.mem_of_mem_take hz))
  have h2:=OE S
  rw [List.length_take] at this
  simp only at this ⊢
  omega
 have hI:(CY L S 8 b).1=aO (gP L S 8 b (gB S).1.length).1 S.length:=rfl
 rw [hI] at hgd
 generalize (gP L S 8 b (gB S).1.length).1=T at *
 generalize (CY L S 8 b).2=e0 at *
 have hPlain:=EE hF.ok
 have hPlainR:=EF hF.ok
 rw [hpm] at hPlain hPlainR
 have hview:=eG (SO L e0 (by omega) S (by omega) (by omega) hMade hd hNm)
 obtain ⟨l,hvo⟩:=KA L e0 (by omega) (by omega) hMade hd hNm
 have hcdi:=MV L e0 (by omega) hMade hd hNm hvo.ch
 generalize rU L S e0=vv at *
 obtain ⟨v,e1⟩:=vv
 simp only at hview hvo hcdi
 have h3:=hvo.len
 have hc1:=YD hG hPlain hvo
 have hc2:=HB hG hPlainR hvo hcdi
 have hcl:=zR (zF S T l v) (T ((l[0]?).getD 0)).length
 have hTl:=hG.len ((l[0]?).getD 0)
 generalize iZ (zF S T l v) (T ((l[0]?).getD 0)).length=c at *
 have hr1:=UV hG hPlain hvo.ch (by omega) n
 have hr2:=NL hG hPlainR hvo.ch (by omega) n
 have hz1:=UV hG hPlain hvo.ch (by omega) 0
 have hz2:=NL hG hPlainR hvo.ch (by omega) 0
 obtain ⟨R,B,hR,hRl⟩:=GL hG hvo.ch (by omega) n
 obtain ⟨R0,B0,hR0,hRl0⟩:=GL hG hvo.ch (by omega) 0
 rw [hR] at hr1 hr2
 rw [hR0] at hz1 hz2
 have hm:=eG (AE R R (by omega) (by omega))
 have hm0:=eG (AE R0 R0 (by omega) (by omega))
 rw [lM] at hm hm0
 have hh1:=UT (S:=S) (I:=aO T S.length) [⟨v,c⟩] (by simp) (fun _=>c) (fun d hd=>by
  rw [List.mem_singleton] at hd; subst hd; exact hc1)
 have hh2:=UT (S:=S) (I:=aO T S.length) [⟨v,c⟩,⟨v,(c:Int)+1⟩] (by simp) (fun _=>c) (fun d hd=>by
  rcases List.mem_cons.1 hd with e | hd
  ·subst e; exact hc1
  ·rw [List.mem_singleton] at hd; subst hd; exact hc1)
 have e1':(!([(⟨v,c⟩:Dm)].any fun d=>(c:Int) != d.n))=true:=by simp
 have e2':(!([(⟨v,c⟩:Dm),⟨v,(c:Int)+1⟩].any fun d=>(c:Int) != d.n))=false:=by simp <;> omega
 rw [e1'] at hh1
 rw [e2'] at hh2
 generalize aO T S.length=I at *
 have hwc:=wI (n:=(c:Int)+1)
 clear hG hvo hPlain hPlainR hcdi hF hMade hNm hR hR0
 simp [aQ] at hpl ⊢
 (repeat' first|contradiction|exact .ok|apply And.intro|intro _|(apply gc<;>simp+contextual))
 refine aH [19] hpl (by simp [aD]) (by simp) ?_
 simp
 (repeat' first|contradiction|exact .ok|apply And.intro|intro _|(apply gc<;>simp+contextual))
 simp [aQ,aN] at hgd hview
 refine aH [19] hgd (by simp) (by simp) ?_
 simp [dT]
 (repeat' first|contradiction|exact .ok|apply And.intro|intro _|(apply gc<;>simp+contextual))
 refine aH [19] hview (by simp) (by simp) ?_
 simp [Vw.a,Vw.c]
 (repeat' first|contradiction|exact .ok|apply And.intro|intro _|(apply gc<;>simp+contextual))
 refine aA hc1 (by simp [aN,dT,Vw.a,Vw.c]) ?_
 simp
 (repeat' first|contradiction|exact .ok|apply And.intro|intro _|(apply gc<;>simp+contextual))
 refine aA hc2 (by simp [aN,dT,Vw.a,Vw.c]) ?_
 simp
 (repeat' first|contradiction|exact .ok|apply And.intro|intro _|(apply gc<;>simp+contextual))
 refine aA hr1 (by simp [aN,dT,Vw.a,Vw.c]) ?_
 simp
 (repeat' first|contradiction|exact .ok|apply And.intro|intro _|(apply gc<;>simp+contextual))
 refine aA hr2 (by simp [aN,dT,Vw.a,Vw.c]) ?_
 simp
 (repeat' first|contradiction|exact .ok|apply And.intro|intro _|(apply gc<;>simp+contextual))
 refine aP hm ?_
 simp
 (repeat' first|contradiction|exact .ok|apply And.intro|intro _|(apply gc<;>simp+contextual))
 refine aA hz1 (by simp [aN,dT,Vw.a,Vw.c]) ?_
 simp
 (repeat' first|contradiction|exact .ok|apply And.intro|intro _|(apply gc<;>simp+contextual))
 refine aA hz2 (by simp [aN,dT,Vw.a,Vw.c]) ?_
 simp
 (repeat' first|contradiction|exact .ok|apply And.intro|intro _|(apply gc<;>simp+contextual))
 refine aP hm0 ?_
 simp
 (repeat' first|contradiction|exact .ok|apply And.intro|intro _|(apply gc<;>simp+contextual))
 refine aA hh1 (by simp [aN,dT,Dm.c]) ?_
 simp [hwc]
 (repeat' first|contradiction|exact .ok|apply And.intro|intro _|(apply gc<;>simp+contextual[hwc]))
 refine aA hh2 (by simp [aN,dT,Dm.c]) ?_
 simp
 all_goals exact gz
end Go.Proofs.Tryz
