import Derived.Test.YthbnleoonldffaaGreatDoorQHRow
import Derived.Test.YthbnleoonldffaaGreatDoorQSpl
import Derived.Test.YthbnleoonldffaaGreatDoorQRwc
import Derived.Test.YthbnleoonldffaaGreatDoorQSmR
import Derived.Test.YthbnleoonldffaaGreatDoorQQyc
import Derived.Test.YthbnleoonldffaaGreatDoorQR8f
import Derived.Test.YthbnleoonldffaaGreatDoorQSfi
import Derived.Test.YthbnleoonldffaaGreatDoorQSta
import Derived.Test.YthbnleoonldffaaGreatDoorQR8c
set_option linter.all false
namespace Go.Proofs.Tryz
open Go.Ab
set_option maxRecDepth 100000
set_option maxHeartbeats 16000000
structure RR (x:Tb):Prop where
 tab:eT fN VX x=0
 pln:eY x=true
 t0:dE x 0=1
 pr:x.pr=[0]
 fk:∀ f∈x.fk,∃ c,f.cols=[c]∧dE x c=1
theorem UK {S:List Tb} (hD:aBy S) (hl:S.length≤6) (hat:∀ x∈S,RR x):lT S=true:=by
 have hd:=XL hD
 have hlt:∀ {k:Nat} {x:Tb},S[k]?=some x→k<6:=fun h=>by
  have:=(List.getElem?_eq_some_iff.1 h).1
  omega
 have hfi:∀ {k:Nat} {x:Tb},S[k]?=some x→aY (fun y:Tb=>y.n==rD 116 k) S 0=k:=fun {k x} h=>by
  have:=uJ (p:=fun y:Tb=>y.n==rD 116 k) (k:=0) h (by simp [(hD k x h).1]) (fun i y hi hy=>by
   simp only [beq_eq_false_iff_ne]
   intro e
   rw [(hD i y hy).1] at e
   have:=ZP i (hlt hy) k (hlt h) e
   omega)
  rw [this]; omega
 unfold lT KX wF dR
 rw [Bool.and_eq_true,beq_iff_eq,if_neg (by omega),KR hd]
 refine ⟨?_,List.all_eq_true.2 fun x hx=>(hat x hx).pln⟩
 rw [nP (f:=jT fN VX S),nP]
 ·rfl
 ·intro i x hx
  refine nP fun q f hf=>?_
  have hX:=hat x (List.mem_of_getElem? hx)
  have hfm:=List.mem_of_getElem? hf
  obtain ⟨c,e1,e2⟩:=hX.fk f hfm
  obtain ⟨m,hm,em⟩:=(hD i _ hx).2 f hfm
  have hiS:=(List.getElem?_eq_some_iff.1 hx).1
  have hSm:S[m]?=some (S[m]'(by omega)):=List.getElem?_eq_getElem (by omega)
  have hM:=hat _ (List.mem_of_getElem? hSm)
  have ht:iB S f=m:=by unfold iB; rw [em]; exact hfi hSm
  unfold jP
  rw [ht,Int.toNat_natCast,hSm]
  simp only
  rw [if_neg (by omega),if_pos]
  unfold mN
  rw [e1,hM.pr]
  simp [e2,hM.t0]
 ·intro i x hx
  have hn:=(hD i x hx).1
  unfold jT
  rw [hn,aFG i (hlt hx),if_neg (by simp),hfi hx,if_neg (by omega)]
  exact (hat x (List.mem_of_getElem? hx)).tab
theorem PD {x y:Tb} {a:At} (h1:y.cols=x.cols) (h2:y.pr=x.pr) (h3:y.fk=x.fk) (h:tS x a):tS y a:=by
 have hk:dJ y a.col=dJ x a.col:=by unfold dJ; rw [h2,h3]
 have ht:dE y a.col=dE x a.col:=by unfold dE; rw [h1]
 exact ⟨by rw [h1]; exact h.col,by rw [hk]; exact h.key,by rw [ht]; exact h.kind,h.val,h.len,h.no0,h.num⟩
theorem RS (x:Tb):∀ (l:List Fk) (pre:List Int),kK ⟨x.n,x.cols,x.pr,x.un,x.fk,[]⟩ pre l=kK x pre l
 | [],_=>by rw [kK,kK]
 | f::l,pre=>by rw [kK,kK,RS x l]; rfl
theorem aEc {x:Tb} (h:RR ⟨x.n,x.cols,x.pr,x.un,x.fk,[]⟩) (hl:x.ch.length≤4) (hc:∀ e∈x.ch,VX x e=(2,0)∧e.cols.any (dJ x)=false):RR x:=by
 obtain ⟨h1,h2,h3,h4,h5⟩:=h
 refine ⟨?_,?_,h3,h4,h5⟩
 ·unfold eT at h1 ⊢
  split at h1
  ·cases h1
  ·rename_i hn
   rw [if_neg (by simp only [not_or] at hn ⊢; exact ⟨hn.1,hn.2.1,hn.2.2.1,by omega⟩)]
   split at h1
   ·cases h1
   ·rename_i h0
    rw [if_neg h0]
    obtain ⟨a1,a2⟩:=jC h1
    obtain ⟨b1,_⟩:=jC a2
    have k1:fS x=0:=b1
    have k2:bC (lX fN x.cols) x.cols 0=0:=a1
    rw [k2,eP,k1,eP]
    refine nP fun i e he=>?_
    unfold lY
    rw [(hc e (List.mem_of_getElem? he)).1]
    simp
 ·unfold eY at h2 ⊢
  rw [Bool.and_eq_true,Bool.and_eq_true] at h2 ⊢
  refine ⟨h2.1,by have:=h2.2.1; rw [RS] at this; exact this,?_⟩
  rw [Bool.not_eq_true',List.any_eq_false]
  intro e he
  rw [(hc e he).2]
  simp
theorem aFF {x:Tb} (hm:pG x) {a:At} (h:tS x a):VX x a.ex=(2,0)∧a.ex.cols.any (dJ x)=false:=by
 obtain ⟨c0,c1⟩:=h.col
 obtain ⟨_,p2,p3,p4⟩:=KK a
 have h0:a.mv 0=a:=by
  obtain ⟨c,o,v⟩:=a
  unfold At.mv
  simp
 have ht:=aCZ (ts:=x.cols.map Col.t) h hm.ty (d:=0) (by omega) (by rw [List.length_map]; omega) (by
  unfold dE
  rw [Int.add_zero,List.getElem?_map])
 rw [h0] at ht
 refine ⟨?_,by rw [uG]; simp [h.key]⟩
 unfold VX mP
 rw [if_neg (by omega),if_neg (by omega),ht]
theorem aCm (L:List Int) (j a:Nat):RR (rJ L j a).1:=by
 obtain ⟨p1,p2,p3,p4,p5,p6⟩:=qG L (kN L j a) (CK L (a+1+2*eD L a) j)
 obtain ⟨h1,h2,h3,h4⟩:=aCq L j a
 have hm:=QN (L:=L) (kV L j a) (CK L (a+1+2*eD L a) j)
 have hat:=fun c=>tT L (kV L j a) c
 have hpr:(kN L j a).pr=[0]:=rfl
 have hch:(kN L j a).ch=[]:=rfl
 unfold rJ
 generalize (MD L (kN L j a) (CK L (a+1+2*eD L a) j)).1=y at *
 generalize kN L j a=x at *
 have hx:(⟨y.n,y.cols,y.pr,y.un,y.fk,[]⟩:Tb)=x:=by
  obtain ⟨n,c,r,u,f,k⟩:=x
  simp only at p1 p2 p3 p4 p5 hch ⊢
  rw [p1,p2,p3,p4,p5,hch]
 refine aEc (by rw [hx]; exact ⟨h1,h2,h3,hpr,h4⟩) ?_ ?_
 ·rcases p6 with e | ⟨b,e⟩
  ·rw [e,hch]; simp
  ·rw [e]; simp
 ·intro e he
  rcases p6 with e' | ⟨b,e'⟩
  ·rw [e',hch] at he; cases he
  ·rw [e',List.mem_singleton] at he
   subst he
   exact aFF hm (PD p3 p4 p5 (hat b))
theorem PE (L:List Int) (a n:Nat) (hn:n≤6):lT (dP L a n).1=true:=by
 refine UK (AD L a n) (by rw [iC]; exact hn) fun x hx=>?_
 obtain ⟨j,b,rfl⟩:=kS hx
 exact aCm L j b
theorem xU {L:List Int} {S:List Tb} {x:Tb} {T:Nat→List (List V)} {b c:Nat}:∀ {z:Nat} {r:List V},(∀ f∈x.fk,(fU f.cols).toNat ≠ c)→(HT L S x T b z r)[c]?=r[c]?
 | 0,r,_=>rfl
 | z+1,r,h=>by
   rw [HT]
   cases hz:x.fk[z]? with
   | none=>exact xU h
   | some f =>
     simp only
     rw [List.getElem?_set_ne (h f (List.mem_of_getElem? hz))]
     exact xU h
theorem XT {L:List Int} {S:List Tb} {x:Tb} (hx:uN x) {T:Nat→List (List V)} {b:Nat}:∀ {z:Nat} {r:List V} {j:Nat} {f:Fk},z≤x.fk.length→j<z→x.fk[j]?=some f→r.length=x.cols.length→(HT L S x T b z r)[(fU f.cols).toNat]?=some (kJ (1+aU L (b+j) (T (lG S f)).length))
 | 0,r,j,f,_,hj,_,_=>by omega
 | z+1,r,j,f,hz,hj,hf,hr=>by
   rw [HT]
   have hzl:z<x.fk.length:=by omega
   rw [List.getElem?_eq_getElem hzl]
   simp only
   obtain ⟨c,e1,c1,_⟩:=hx.fk f (List.mem_of_getElem? hf)
   have hfc:(fU f.cols).toNat=c:=by rw [e1]; simp [fU]
   by_cases hjz:j=z
   ·subst hjz
    rw [List.getElem?_eq_getElem hzl,Option.some.injEq] at hf
    rw [hf,List.getElem?_set_self (by rw [uD,hr,hfc]; exact c1)]
   ·obtain ⟨d,e2,d1,_⟩:=hx.fk x.fk[z] (List.getElem_mem hzl)
    have hzc:(fU x.fk[z].cols).toNat=d:=by rw [e2]; simp [fU]
    have hne:d ≠ c:=by
     intro e
     subst e
     have:=List.nodup_iff_pairwise_ne.1 hx.dis
     rw [List.pairwise_iff_getElem] at this
     have hj':j<x.fk.length:=by omega
     have hfj:x.fk[j]=f:=by rw [List.getElem?_eq_getElem hj',Option.some.injEq] at hf; exact hf
     have:=this j z (by simpa using hj') (by simpa using hzl) (by omega)
     simp only [List.getElem_map] at this
     rw [hfj,e1,e2] at this
     exact this rfl
    rw [List.getElem?_set_ne (by rw [hzc,hfc]; exact hne)]
    exact XT hx (by omega) (by omega) hf hr
theorem aBJ (L:List Int) {S:List Tb} {x:Tb} (hx:uN x) {T:Nat→List (List V)} (a k:Nat) (hT:∀ f∈x.fk,0<(T (lG S f)).length):EJ S T x k (GP L S x T a k):=by
 obtain ⟨p,hp,hpl⟩:=hx.pr
 have hpc:(fU x.pr).toNat=p:=by rw [hp]; simp [fU]
 refine ⟨XV ..,?_,fun f hf=>?_,fun c hc hk v hv=>?_⟩
 ·unfold GP
  rw [xU]
  ·unfold uC
   rw [List.getElem?_set_self (by rw [AG,hpc]; exact hpl)]
  ·intro f hf
   obtain ⟨c,e1,_,c2⟩:=hx.fk f hf
   rw [e1,hpc]
   rw [hp] at c2
   simp [fU] at c2 ⊢
   omega
 ·obtain ⟨j,hj,rfl⟩:=List.getElem_of_mem hf
  unfold GP
  rw [XT hx (Nat.le_refl _) hj (List.getElem?_eq_getElem hj) (AH ..)]
  have hl:=hT _ hf
  have hn:=bG L (a+x.cols.length+j) (n:=((T (lG S x.fk[j])).length:Int)) (by omega)
  generalize aU L (a+x.cols.length+j) ((T (lG S x.fk[j])).length:Int)=z at *
  exact ⟨z.toNat,by rw [Int.toNat_of_nonneg (by omega)],by omega⟩
 ·obtain ⟨k1,k2⟩:=aAf hk
  unfold GP at hv
  rw [xU] at hv
  ·unfold uC at hv
   rw [List.getElem?_set_ne (by
    rw [hpc]
    intro e
    subst e
    exact k1 (by rw [hp]; simp))] at hv
   unfold CF at hv
   rw [bR,if_pos hc,Option.some.injEq,if_pos hc] at hv
   subst hv
   unfold smC
   exact UW L _ _ (hx.ty c hc) _
  ·intro f hf e
   obtain ⟨d,e1,_,_⟩:=hx.fk f hf
   have:=k2 f hf
   rw [e1] at this e
   simp [fU] at this e
   omega
theorem KA (L:List Int) {S:List Tb} {x:Tb} (hx:uN x) {T:Nat→List (List V)} (a:Nat):∀ {m:Nat},(0<m→∀ f∈x.fk,0<(T (lG S f)).length)→∀ n row,(lH L S x T a m)[n]?=some row→EJ S T x n row
 | 0,_,n,row,h=>by simp [lH] at h
 | m+1,hT,n,row,h=>by
   rw [lH,List.getElem?_append,qW] at h
   split at h
   ·exact KA L hx a (fun _=>hT (by omega)) n row h
   ·rename_i hn
    have h0:n=m:=by
     have:=(List.getElem?_eq_some_iff.1 h).1
     simp at this; omega
    subst h0
    rw [Nat.sub_self,List.getElem?_cons_zero,Option.some.injEq] at h
    subst h
    exact aBJ L hx _ _ (hT (by omega))
theorem KB (L:List Int) {S:List Tb} (hd:VR S) (hK:∀ x∈S,uN x) (most:Nat):∀ (n j:Nat) (y:(Nat→List (List V))×Nat),j+n=S.length→RX S y.1 j→RX S (lI L S most (upN j n) y).1 S.length
 | 0,j,y,h,w=>by
   have:j=S.length:=by omega
   subst this
   exact w
 | n+1,j,y,h,w=>by
   rw [upN,lI,Int.toNat_natCast]
   have hj:j<S.length:=by omega
   have hx:aV S j∈S:=by unfold aV; rw [List.getElem?_eq_getElem hj]; exact List.getElem_mem hj
   refine KB L hd hK most n (j+1) _ (by omega) fun k hk i row hr=>?_
   have hT:∀ m,m<j→(mJ L S most j y).1 m=y.1 m:=fun m hm=>by
    unfold mJ
    simp only [bM]
    rw [if_neg (by omega)]
   have hup:∀ f∈(aV S k).fk,(mJ L S most j y).1 (lG S f)=y.1 (lG S f):=fun f hf=>hT _ (by have:=(hd k (by omega) f hf).2; omega)
   refine aAg ?_ hup
   by_cases hkj:k=j
   ·subst hkj
    unfold mJ at hr
    simp only [bM,if_true] at hr
    exact KA L (hK _ hx) _ (fun hm=>KD hm) i row hr
   ·rw [hT k (by omega)] at hr
    exact w k (by omega) i row hr
theorem XU (L:List Int) {S:List Tb} (hd:VR S) (hK:∀ x∈S,uN x) (most a:Nat):RX S (fQ L S most a (eX S).1.length).1 S.length:=by
 unfold fQ
 rw [List.take_length,KR hd]
 exact KB L hd hK most S.length 0 _ (by omega) fun k hk=>absurd hk (by omega)
theorem aBz {S:List Tb} (hD:aBy S) (hl:S.length≤6):∀ k,k<S.length→lW S (DX S k)=k:=by
 intro k hk
 have hx:S[k]?=some S[k]:=List.getElem?_eq_getElem hk
 have hnm:DX S k=rD 116 k:=by unfold DX aV; rw [hx]; exact (hD k _ hx).1
 rw [hnm]
 unfold lW
 have:=uJ (p:=fun y:Tb=>y.n==rD 116 k) (k:=0) hx (by simp [(hD k _ hx).1]) (fun i y hi hy=>by
  simp only [beq_eq_false_iff_ne,ne_eq]
  rw [(hD i y hy).1]
  intro e
  have:=ZP i (by omega) k (by omega) e
  omega)
 rw [this]
 simp
theorem TV (L:List Int) {S:List Tb} (hF:oQ S) (hd:VR S) (hp:lT S=true) (most a:Nat) (hm:most≤100):vZ S (fQ L S most a (eX S).1.length).1:=by
 have hK:∀ x∈S,uN x:=fun x hx=>aEg hF hp hx
 refine ⟨hF,hK,fun x hx g hg=>?_,fun k=>?_,XU L hd hK most a⟩
 ·obtain ⟨k,hk,rfl⟩:=List.getElem_of_mem hx
  have ht:aV S k=S[k]:=by unfold aV; rw [List.getElem?_eq_getElem hk]; rfl
  have:=hd k hk g (by rw [ht]; exact hg)
  omega
 ·unfold fQ
  have:=oR (L:=L) (S:=S) (most:=most) ((eX S).1.take (eX S).1.length) (fun _=>[],a) (fun _=>by simp) k
  omega
def PI (S:List Tb) (q:Qy):Prop:=∃ ts e,ts.length≤1000∧Cf En 36 [aR S,q.a] [] (.tup [.d (.sl (aG ts)),.d (.int .i64 e)]) []
def xJ:List (List Int×Int)→Int
 | []=>0
 | p::l=>if p.2 ≠ 0 then p.2 else xJ l
theorem vX {K:List (List Int×Int)} {i:Nat} {p:List Int×Int} (h:K[i]?=some p):xJ (K.drop i)=if p.2 ≠ 0 then p.2 else xJ (K.drop (i+1)):=by
 obtain ⟨hi,rfl⟩:=List.getElem?_eq_some_iff.1 h
 rw [List.drop_eq_getElem_cons hi,xJ]
def kC (K:List (List Int×Int)) (i:Nat):List (List D):=(K.take i).map fun p=>[D.sl (aG p.1)]
theorem PJ {K:List (List Int×Int)} {i:Nat} (h:i≤K.length):(kC K i).length=i:=by unfold kC; simp; omega
theorem GZ {K:List (List Int×Int)} {i:Nat} {p:List Int×Int} (h:K[i]?=some p):kC K (i+1)=kC K i++[[D.sl (aG p.1)]]:=by
 obtain ⟨hi,rfl⟩:=List.getElem?_eq_some_iff.1 h
 unfold kC
 rw [bV hi,List.map_append]
 rfl
theorem PK (K:List (List Int×Int)) (i:Nat):∀ x∈kC K i,x.length=1:=by
 intro x hx
 unfold kC at hx
 obtain ⟨n,_,rfl⟩:=List.mem_map.1 hx
 rfl
theorem EF {S:List Tb} {op:Int} {tb:List UInt8} {kd:Int} {co:Ex} {ks:List Qy} (hl:ks.length≤1000) {K:List (List Int×Int)} (hKl:K.length=ks.length) (hK:∀ (i:Nat) (k:Qy) (p:List Int×Int),ks[i]?=some k→K[i]?=some p→p.1.length≤1000∧Cf En 36 [aR S,k.a] [] (.tup [.d (.sl (aG p.1)),.d (.int .i64 p.2)]) []) {er:Int} (hres:xJ K=er) (he:er ≠ 0):Cf En 36 [aR S,(cH op tb kd co ks).a] [] (.tup [.d (.sl []),.d (.int .i64 er)]) []:=by
 obtain ⟨o,c,n,t,g,k⟩:=co
 refine aD aW (fn:=Tryz.f36) (by kernel_rfl) rfl (by kernel_rfl) (by decide) (by simp) ?_
 simp [cH,aG,Qy.a,Qy.c,aM,Ex.a,Ex.c,aC,aR]
 (repeat' first|contradiction|exact .ok|apply And.intro|intro _|(apply gc<;>simp+contextual))
 refine aL aW (by decide) (fun i:Nat=>{ s:=cG [(2,.ptr 2 0 0),(3,.ptr 3 0 0),(6,.ref 906 0 i 1),(7,.d (.int .i64 i))],b:=cE [(2,2,.var [.d (.sl (S.map Tb.c))]),(3,3,.var ((cH op tb kd (.mk o c n t g k) ks).c.map AV.d)),(906,906,.arr 22 1 (kC K i) false)] }) (fun i=>i≤ks.length∧xJ (K.drop i)=er) (fun i=>ks.length - i) 0 (by simp [hres])
  (dW 6 906 22 1 (by simp) (by simp) (by decide) (by decide) _ [(2,2,_),(3,3,_),(906,906,_)] ⟨by simp,by simp,by simp [aB,Blk.live,cH,aG,Qy.a,Qy.c,aM,Ex.a,Ex.c,aC,kC],by simp⟩ (by simp [aB])) ?_
 rintro i ⟨hi,ho⟩
 by_cases hlt:i<ks.length
 ·have hg:ks[i]?=some ks[i]:=List.getElem?_eq_getElem hlt
  obtain ⟨p,hp⟩:∃ p,K[i]?=some p:=⟨_,List.getElem?_eq_getElem (by omega)⟩
  obtain ⟨hpl,hcf⟩:=hK i _ p hg hp
  have hdr:=vX hp
  have hsc:=GZ hp
  have hkl:=PJ (K:=K) (i:=i) (by omega)
  have hk1:=PK K i
  have htk:(kC K i).take i=kC K i:=List.take_of_length_le (by omega)
  have hw:=aH (n:=(i:Int)+1) (by omega) (by omega)
  obtain ⟨kx,hkx⟩:∃ u,u=ks[i]:=⟨_,rfl⟩
  have hgi:∀ h,ks[i]'h=kx:=fun _=>hkx.symm
  rw [← hkx] at hcf
  have hql:=Qy.clen kx
  have hqt:=Qy.ctake kx
  have hs1:=eI i (by omega) 24 (by decide)
  have hs2:=eI (i+1) (by omega) 24 (by decide)
  by_cases hp0:p.2=0
  ·rw [hdr,if_neg (by simp [hp0])] at ho
   rw [hp0] at hcf
   simp [cH,aG,Qy.a,Qy.c,aM,Ex.a,Ex.c,aC,aR,hlt,hgi,hql,hqt]
   (repeat' first|contradiction|exact .ok|apply And.intro|intro _|(apply gc<;>simp+contextual))
   refine aA hcf (by simp [aR,Qy.a,hqt]) ?_
   simp [hkl,hs1,hs2,htk]
   (repeat' first|contradiction|exact .ok|apply And.intro|intro _|(apply gc<;>simp+contextual))
   refine ⟨i+1,⟨by omega,ho⟩,?_,by simp; omega⟩
   exact aE _ [(2,2,_),(3,3,_),(906,36,_)] ⟨by simp,by simp,by simp [aB,Blk.live,cH,aG,Qy.a,Qy.c,aM,Ex.a,Ex.c,aC,hsc],by simp⟩ (by simp [aB,hw])
  ·rw [hdr,if_pos hp0] at ho
   simp [cH,aG,Qy.a,Qy.c,aM,Ex.a,Ex.c,aC,aR,hlt,hgi,hql,hqt]
   (repeat' first|contradiction|exact .ok|apply And.intro|intro _|(apply gc<;>simp+contextual))
   refine aA hcf (by simp [aR,Qy.a,hqt]) ?_
   simp [hp0,ho]
   (repeat' first|contradiction|exact .ok|apply And.intro|intro _|(apply gc<;>simp+contextual))
   all_goals try exact ho
 ·exfalso
  rw [List.drop_eq_nil_of_le (by omega)] at ho
  exact he ho.symm
theorem EG {S:List Tb} {co:Ex} (hf:co.few 0=true) {ks:List Qy} (hl:ks.length=2) {p1 p2:List Int×Int} {K:List (List Int×Int)} (hKe:K=[p1,p2]) (hK:∀ (i:Nat) (k:Qy) (p:List Int×Int),ks[i]?=some k→K[i]?=some p→p.1.length≤1000∧Cf En 36 [aR S,k.a] [] (.tup [.d (.sl (aG p.1)),.d (.int .i64 p.2)]) []) {er:Int} (hres:xJ K=er) (he:er=0) {jt:List Int} {je:Int} (hj:Cf En 88 [.d (.sl (aG p1.1)),.d (.sl (aG p2.1)),(cH 5 [] 1 co ks).a] [] (.tup [.d (.sl (aG jt)),.d (.int .i64 je)]) []):Cf En 36 [aR S,(cH 5 [] 1 co ks).a] [] (.tup [.d (.sl (aG jt)),.d (.int .i64 je)]) []:=by
 have hKl:K.length=ks.length:=by rw [hKe,hl]; rfl
 have hno:BA 5 [] 1 co ks:=⟨hf,.inr (.inl ⟨rfl,rfl,rfl,hl⟩)⟩
 have hpl:=BB hno
 have hkd:=HB hno
 rw [hl] at hkd
 have hk2:kC K 2=[[D.sl (aG p1.1)],[D.sl (aG p2.1)]]:=by rw [hKe]; rfl
 obtain ⟨o,c,n,t,g,k⟩:=co
 generalize aG jt=JT at *
 subst he
 refine aD aW (fn:=Tryz.f36) (by kernel_rfl) rfl (by kernel_rfl) (by decide) (by simp) ?_
 simp [cH,aG,Qy.a,Qy.c,aM,Ex.a,Ex.c,aC,aR]
 (repeat' first|contradiction|exact .ok|apply And.intro|intro _|(apply gc<;>simp+contextual))
 refine aL aW (by decide) (fun i:Nat=>{ s:=cG [(2,.ptr 2 0 0),(3,.ptr 3 0 0),(6,.ref 906 0 i 1),(7,.d (.int .i64 i))],b:=cE [(2,2,.var [.d (.sl (S.map Tb.c))]),(3,3,.var ((cH 5 [] 1 (.mk o c n t g k) ks).c.map AV.d)),(906,906,.arr 22 1 (kC K i) false)] }) (fun i=>i≤ks.length∧xJ (K.drop i)=0) (fun i=>ks.length - i) 0 (by simp [hres])
  (dW 6 906 22 1 (by simp) (by simp) (by decide) (by decide) _ [(2,2,_),(3,3,_),(906,906,_)] ⟨by simp,by simp,by simp [aB,Blk.live,cH,aG,Qy.a,Qy.c,aM,Ex.a,Ex.c,aC,kC],by simp⟩ (by simp [aB])) ?_
 rintro i ⟨hi,ho⟩
 by_cases hlt:i<ks.length
 ·have hg:ks[i]?=some ks[i]:=List.getElem?_eq_getElem hlt
  obtain ⟨p,hp⟩:∃ p,K[i]?=some p:=⟨_,List.getElem?_eq_getElem (by omega)⟩
  obtain ⟨hpl,hcf⟩:=hK i _ p hg hp
  have hdr:=vX hp
  have hsc:=GZ hp
  have hkl:=PJ (K:=K) (i:=i) (by omega)
  have hk1:=PK K i
  have htk:(kC K i).take i=kC K i:=List.take_of_length_le (by omega)
  have hw:=aH (n:=(i:Int)+1) (by omega) (by omega)
  obtain ⟨kx,hkx⟩:∃ u,u=ks[i]:=⟨_,rfl⟩
  have hgi:∀ h,ks[i]'h=kx:=fun _=>hkx.symm
  rw [← hkx] at hcf
  have hql:=Qy.clen kx
  have hqt:=Qy.ctake kx
  have hs1:=eI i (by omega) 24 (by decide)
  have hs2:=eI (i+1) (by omega) 24 (by decide)
  by_cases hp0:p.2=0
  ·rw [hdr,if_neg (by simp [hp0])] at ho
   rw [hp0] at hcf
   simp [cH,aG,Qy.a,Qy.c,aM,Ex.a,Ex.c,aC,aR,hlt,hgi,hql,hqt]
   (repeat' first|contradiction|exact .ok|apply And.intro|intro _|(apply gc<;>simp+contextual))
   refine aA hcf (by simp [aR,Qy.a,hqt]) ?_
   simp [hkl,hs1,hs2,htk]
   (repeat' first|contradiction|exact .ok|apply And.intro|intro _|(apply gc<;>simp+contextual))
   refine ⟨i+1,⟨by omega,ho⟩,?_,by simp; omega⟩
   exact aE _ [(2,2,_),(3,3,_),(906,36,_)] ⟨by simp,by simp,by simp [aB,Blk.live,cH,aG,Qy.a,Qy.c,aM,Ex.a,Ex.c,aC,hsc],by simp⟩ (by simp [aB,hw])
  ·rw [hdr,if_pos hp0] at ho
   exact absurd ho hp0
 ·obtain rfl:i=2:=by omega
  rw [cH,Qy.a,Qy.c] at hpl hj
  generalize aG p1.1=Z1 at *
  generalize aG p2.1=Z2 at *
  simp [aG,aM,Ex.a,Ex.c,aC] at hpl hj
  simp [cH,aG,Qy.a,Qy.c,aM,Ex.a,Ex.c,aC,aR,hk2,hl]
  (repeat' first|contradiction|exact .ok|apply And.intro|intro _|(apply gc<;>simp+contextual))
  refine aA hpl (by simp) ?_
  simp [hk2,hl]
  (repeat' first|contradiction|exact .ok|apply And.intro|intro _|(apply gc<;>simp+contextual))
  refine aA hkd (by simp) ?_
  simp [hk2,hl]
  (repeat' first|contradiction|exact .ok|apply And.intro|intro _|(apply gc<;>simp+contextual))
  refine aA hj (by simp [hk2]) ?_
  simp [hk2]
  all_goals exact gz
theorem UN {S:List Tb} {co:Ex} (hf:co.few 0=true) {ks:List Qy} (hl:ks.length=1) {p1:List Int×Int} {K:List (List Int×Int)} (hKe:K=[p1]) (hK:∀ (i:Nat) (k:Qy) (p:List Int×Int),ks[i]?=some k→K[i]?=some p→p.1.length≤1000∧Cf En 36 [aR S,k.a] [] (.tup [.d (.sl (aG p.1)),.d (.int .i64 p.2)]) []) {er:Int} (hres:xJ K=er) (he:er=0) {z:Int} (hj:Cf En 86 [.d (.sl (aG p1.1)),co.a] [] (.d (.int .i64 z)) []):Cf En 36 [aR S,(cH 3 [] 0 co ks).a] [] (.tup [.d (.sl (aG (if z=0 then p1.1 else []))),.d (.int .i64 z)]) []:=by
 have hKl:K.length=ks.length:=by rw [hKe,hl]; rfl
 have hno:BA 3 [] 0 co ks:=⟨hf,.inr (.inr ⟨rfl,rfl,rfl,hl⟩)⟩
 have hpl:=BB hno
 have hkd:=HB hno
 rw [hl] at hkd
 have hk2:kC K 1=[[D.sl (aG p1.1)]]:=by rw [hKe]; rfl
 obtain ⟨o,c,n,t,g,k⟩:=co
 have hJT:aG (if z=0 then p1.1 else [])=if z=0 then aG p1.1 else []:=by split <;> simp [aG]
 rw [hJT]
 subst he
 refine aD aW (fn:=Tryz.f36) (by kernel_rfl) rfl (by kernel_rfl) (by decide) (by simp) ?_
 simp [cH,aG,Qy.a,Qy.c,aM,Ex.a,Ex.c,aC,aR]
 (repeat' first|contradiction|exact .ok|apply And.intro|intro _|(apply gc<;>simp+contextual))
 refine aL aW (by decide) (fun i:Nat=>{ s:=cG [(2,.ptr 2 0 0),(3,.ptr 3 0 0),(6,.ref 906 0 i 1),(7,.d (.int .i64 i))],b:=cE [(2,2,.var [.d (.sl (S.map Tb.c))]),(3,3,.var ((cH 3 [] 0 (.mk o c n t g k) ks).c.map AV.d)),(906,906,.arr 22 1 (kC K i) false)] }) (fun i=>i≤ks.length∧xJ (K.drop i)=0) (fun i=>ks.length - i) 0 (by simp [hres])
  (dW 6 906 22 1 (by simp) (by simp) (by decide) (by decide) _ [(2,2,_),(3,3,_),(906,906,_)] ⟨by simp,by simp,by simp [aB,Blk.live,cH,aG,Qy.a,Qy.c,aM,Ex.a,Ex.c,aC,kC],by simp⟩ (by simp [aB])) ?_
 rintro i ⟨hi,ho⟩
 by_cases hlt:i<ks.length
 ·have hg:ks[i]?=some ks[i]:=List.getElem?_eq_getElem hlt
  obtain ⟨p,hp⟩:∃ p,K[i]?=some p:=⟨_,List.getElem?_eq_getElem (by omega)⟩
  obtain ⟨hpl,hcf⟩:=hK i _ p hg hp
  have hdr:=vX hp
  have hsc:=GZ hp
  have hkl:=PJ (K:=K) (i:=i) (by omega)
  have hk1:=PK K i
  have htk:(kC K i).take i=kC K i:=List.take_of_length_le (by omega)
  have hw:=aH (n:=(i:Int)+1) (by omega) (by omega)
  obtain ⟨kx,hkx⟩:∃ u,u=ks[i]:=⟨_,rfl⟩
  have hgi:∀ h,ks[i]'h=kx:=fun _=>hkx.symm
  rw [← hkx] at hcf
  have hql:=Qy.clen kx
  have hqt:=Qy.ctake kx
  have hs1:=eI i (by omega) 24 (by decide)
  have hs2:=eI (i+1) (by omega) 24 (by decide)
  by_cases hp0:p.2=0
  ·rw [hdr,if_neg (by simp [hp0])] at ho
   rw [hp0] at hcf
   simp [cH,aG,Qy.a,Qy.c,aM,Ex.a,Ex.c,aC,aR,hlt,hgi,hql,hqt]
   (repeat' first|contradiction|exact .ok|apply And.intro|intro _|(apply gc<;>simp+contextual))
   refine aA hcf (by simp [aR,Qy.a,hqt]) ?_
   simp [hkl,hs1,hs2,htk]
   (repeat' first|contradiction|exact .ok|apply And.intro|intro _|(apply gc<;>simp+contextual))
   refine ⟨i+1,⟨by omega,ho⟩,?_,by simp; omega⟩
   exact aE _ [(2,2,_),(3,3,_),(906,36,_)] ⟨by simp,by simp,by simp [aB,Blk.live,cH,aG,Qy.a,Qy.c,aM,Ex.a,Ex.c,aC,hsc],by simp⟩ (by simp [aB,hw])
  ·rw [hdr,if_pos hp0] at ho
   exact absurd ho hp0
 ·obtain rfl:i=1:=by omega
  rw [cH,Qy.a,Qy.c] at hpl
  generalize hZ:aG p1.1=Z1 at *
  simp [aG,aM,Ex.a,Ex.c,aC] at hpl hj
  simp [cH,aG,Qy.a,Qy.c,aM,Ex.a,Ex.c,aC,aR,hk2,hl]
  (repeat' first|contradiction|exact .ok|apply And.intro|intro _|(apply gc<;>simp+contextual))
  refine aA hpl (by simp) ?_
  simp [hk2,hl]
  (repeat' first|contradiction|exact .ok|apply And.intro|intro _|(apply gc<;>simp+contextual))
  refine aA hkd (by simp) ?_
  simp [hk2,hl]
  (repeat' first|contradiction|exact .ok|apply And.intro|intro _|(apply gc<;>simp+contextual))
  by_cases hz:z=0
  ·refine aA hj (by simp [hk2]) ?_
   simp [hk2,hz]
   (repeat' first|contradiction|exact .ok|apply And.intro|intro _|(apply gc<;>simp+contextual))
   exact hZ.symm
  ·refine aA hj (by simp [hk2]) ?_
   simp [hk2,hz]
   all_goals exact gz
theorem UO {S:List Tb} (hl:S.length≤1000) (hS:∀ x∈S,x.ok) (tb:List UInt8):PI S (cH 1 tb 0 exZ0 []):=by
 have hno:BA 1 tb 0 exZ0 []:=⟨ZT,.inl ⟨rfl,rfl,rfl,rfl⟩⟩
 have hpl:=BB hno
 have hkd:=HB hno
 have hfi:=oV S hl tb
 have hub:=qZ (p:=fun x:Tb=>x.n==tb) (l:=S) (i:=0)
 simp [cH,exZ0,aG,Qy.a,Qy.c,vW,Ex.a,Ex.c,cA] at hpl hkd
 by_cases h0:0≤aY (fun x:Tb=>x.n==tb) S 0
 ·obtain ⟨k0,hk0⟩:∃ k:Nat,aY (fun x:Tb=>x.n==tb) S 0=k:=⟨(aY (fun x:Tb=>x.n==tb) S 0).toNat,by omega⟩
  rw [cW hk0] at hfi
  have hk:k0<S.length:=by omega
  obtain ⟨x,hx⟩:∃ u,u=S[k0]:=⟨_,rfl⟩
  have hxo:x.ok:=hS x (by rw [hx]; exact List.getElem_mem hk)
  have hty:=LO x hxo
  have hgx:∀ h,S[k0]'h=x:=fun _=>hx.symm
  refine ⟨x.cols.map Col.t,0,by simpa using hxo.cols,?_⟩
  generalize aG (x.cols.map Col.t)=Z at *
  refine aD aW (fn:=Tryz.f36) (by kernel_rfl) rfl (by kernel_rfl) (by decide) (by simp) ?_
  simp [cH,exZ0,aG,Qy.a,Qy.c,vW,Ex.a,Ex.c,cA,aR]
  (repeat' first|contradiction|exact .ok|apply And.intro|intro _|(apply gc<;>simp+contextual))
  refine aL aW (by decide) (fun _:Unit=>{ s:=cG [(2,.ptr 2 0 0),(3,.ptr 3 0 0),(6,.nils),(7,.d (.int .i64 0))],b:=cE [(2,2,.var [.d (.sl (S.map Tb.c))]),(3,3,.var ((cH 1 tb 0 exZ0 []).c.map AV.d))] }) (fun _=>True) (fun _=>0) () trivial (aE _ [(2,2,_),(3,3,_)] ⟨by simp,by simp,by simp [aB,Blk.live,cH,exZ0,aG,Qy.a,Qy.c,vW,Ex.a,Ex.c,cA],by simp⟩ (by simp [aB])) ?_
  intro _ _
  simp [cH,exZ0,aG,Qy.a,Qy.c,vW,Ex.a,Ex.c,cA,aR]
  (repeat' first|contradiction|exact .ok|apply And.intro|intro _|(apply gc<;>simp+contextual))
  refine aA hpl (by simp) ?_
  simp
  (repeat' first|contradiction|exact .ok|apply And.intro|intro _|(apply gc<;>simp+contextual))
  refine aA hkd (by simp) ?_
  simp
  (repeat' first|contradiction|exact .ok|apply And.intro|intro _|(apply gc<;>simp+contextual))
  refine aA hfi (by simp [aR]) ?_
  simp [hk,hgx,Tb.c]
  (repeat' first|contradiction|exact .ok|apply And.intro|intro _|(apply gc<;>simp+contextual))
  refine aA hty (by simp [Tb.a,Tb.c]) ?_
  simp
  all_goals exact gz
 ·have hk0:=nO h0
  rw [lQ hk0] at hfi
  refine ⟨[],11,by simp,?_⟩
  refine aD aW (fn:=Tryz.f36) (by kernel_rfl) rfl (by kernel_rfl) (by decide) (by simp) ?_
  simp [cH,exZ0,aG,Qy.a,Qy.c,vW,Ex.a,Ex.c,cA,aR]
  (repeat' first|contradiction|exact .ok|apply And.intro|intro _|(apply gc<;>simp+contextual))
  refine aL aW (by decide) (fun _:Unit=>{ s:=cG [(2,.ptr 2 0 0),(3,.ptr 3 0 0),(6,.nils),(7,.d (.int .i64 0))],b:=cE [(2,2,.var [.d (.sl (S.map Tb.c))]),(3,3,.var ((cH 1 tb 0 exZ0 []).c.map AV.d))] }) (fun _=>True) (fun _=>0) () trivial (aE _ [(2,2,_),(3,3,_)] ⟨by simp,by simp,by simp [aB,Blk.live,cH,exZ0,aG,Qy.a,Qy.c,vW,Ex.a,Ex.c,cA],by simp⟩ (by simp [aB])) ?_
  intro _ _
  simp [cH,exZ0,aG,Qy.a,Qy.c,vW,Ex.a,Ex.c,cA,aR]
  (repeat' first|contradiction|exact .ok|apply And.intro|intro _|(apply gc<;>simp+contextual))
  refine aA hpl (by simp) ?_
  simp
  (repeat' first|contradiction|exact .ok|apply And.intro|intro _|(apply gc<;>simp+contextual))
  refine aA hkd (by simp) ?_
  simp
  (repeat' first|contradiction|exact .ok|apply And.intro|intro _|(apply gc<;>simp+contextual))
  refine aA hfi (by simp [aR]) ?_
  simp
  all_goals exact gz
theorem ZR {a b:List Int} (ha:a.length≤1000) (hb:b.length≤1000) (h24:¬ a.length+b.length≤24) (e:Ex) (ks:List Qy):Cf En 88 [.d (.sl (aG a)),.d (.sl (aG b)),(cH 5 [] 1 e ks).a] [] (.tup [.d (.sl (aG [])),.d (.int .i64 9)]) []:=by
 have hla:(aG a).length=a.length:=by simp [aG]
 have hlb:(aG b).length=b.length:=by simp [aG]
 have hi1:(24:Int)<(a.length:Int)+b.length:=by omega
 have hw:=aH (n:=(a.length:Int)+b.length) (by omega) (by omega)
 obtain ⟨o,c,n,t,g,k⟩:=e
 generalize aG a=A at *
 generalize aG b=B at *
 refine aD aW (fn:=Tryz.f88) (by kernel_rfl) rfl (by kernel_rfl) (by decide) (by simp) ?_
 simp [cH,aG,Qy.a,Qy.c,aM,Ex.a,Ex.c,aC,hla,hlb,hw,hi1]
 all_goals exact gz
theorem UP {S:List Tb} {e:Ex} (he:e.few 0=true) {a b:Qy} (ha:PI S a) (hb:PI S b):PI S (cH 5 [] 1 e [a,b]):=by
 obtain ⟨t1,e1,l1,c1⟩:=ha
 obtain ⟨t2,e2,l2,c2⟩:=hb
 have hK:∀ (i:Nat) (k:Qy) (p:List Int×Int),[a,b][i]?=some k→[(t1,e1),(t2,e2)][i]?=some p→p.1.length≤1000∧Cf En 36 [aR S,k.a] [] (.tup [.d (.sl (aG p.1)),.d (.int .i64 p.2)]) []:=by
  intro i k p h1 h2
  match i,h1,h2 with
  | 0,h1,h2 =>
    simp only [List.getElem?_cons_zero,Option.some.injEq] at h1 h2
    subst h1 h2
    exact ⟨l1,c1⟩
  | 1,h1,h2 =>
    simp only [List.getElem?_cons_succ,List.getElem?_cons_zero,Option.some.injEq] at h1 h2
    subst h1 h2
    exact ⟨l2,c2⟩
  | i+2,h1,h2=>simp at h1
 by_cases her:xJ [(t1,e1),(t2,e2)]=0
 ·by_cases h24:t1.length+t2.length≤24
  ·refine ⟨_,_,?_,EG he rfl rfl hK rfl her (aCv l1 l2 h24 he _)⟩
   split <;> simp
   omega
  ·exact ⟨[],9,by simp,EG he rfl rfl hK rfl her (ZR l1 l2 h24 e _)⟩
 ·exact ⟨[],_,by simp,EF (by simp) rfl hK rfl her⟩
theorem ZS {S:List Tb} {e:Ex} (he:e.few 0=true) {a:Qy} (ha:PI S a):PI S (cH 3 [] 0 e [a]):=by
 obtain ⟨t1,e1,l1,c1⟩:=ha
 have hK:∀ (i:Nat) (k:Qy) (p:List Int×Int),[a][i]?=some k→[(t1,e1)][i]?=some p→p.1.length≤1000∧Cf En 36 [aR S,k.a] [] (.tup [.d (.sl (aG p.1)),.d (.int .i64 p.2)]) []:=by
  intro i k p h1 h2
  match i,h1,h2 with
  | 0,h1,h2 =>
    simp only [List.getElem?_cons_zero,Option.some.injEq] at h1 h2
    subst h1 h2
    exact ⟨l1,c1⟩
  | i+1,h1,h2=>simp at h1
 by_cases her:xJ [(t1,e1)]=0
 ·refine ⟨_,_,?_,UN he rfl rfl hK rfl her (RU l1 he)⟩
  split <;> simp [l1]
 ·exact ⟨[],_,by simp,EF (by simp) rfl hK rfl her⟩
theorem aGJ {S:List Tb} (hl:S.length≤1000) (hS:∀ x∈S,x.ok) {q:Qy} (h:CQ q):PI S q:=by
 induction h with
 | scan n=>exact UO hl hS n
 | join e he a b ha hb iha ihb=>exact UP he iha ihb
 | sel e he a ha iha=>exact ZS he iha
theorem RV {S:List Tb} (hl:S.length≤1000) (hS:∀ x∈S,x.ok) {q:Qy} (h:CQ q) (hd:q.dep≤1000000):∃ ts e,ts.length≤1000∧Cf En 10 [aR S,q.a] [] (.tup [.d (.sl (aG ts)),.d (.int .i64 e)]) []:=by
 obtain ⟨ts,e,hts,ht⟩:=aGJ hl hS h
 have hs:=aCx h
 have hp:=ZU h hd
 have hql:=Qy.clen q
 have hqt:=Qy.ctake q
 by_cases h1:200<q.size
 ·refine ⟨[],8,by simp,?_⟩
  refine aD aW (fn:=Tryz.f10) (by kernel_rfl) rfl (by kernel_rfl) (by decide) (by simp) ?_
  simp [aR,Qy.a,hql,hqt]
  (repeat' first|contradiction|exact .ok|apply And.intro|intro _|(apply gc<;>simp+contextual))
  refine aA hs (by simp [Qy.a,hqt]) ?_
  simp [h1,aG]
  all_goals exact gz
 by_cases h2:24<q.dep
 ·refine ⟨[],13,by simp,?_⟩
  have h2':(24:Int)<q.dep:=by omega
  refine aD aW (fn:=Tryz.f10) (by kernel_rfl) rfl (by kernel_rfl) (by decide) (by simp) ?_
  simp [aR,Qy.a,hql,hqt]
  (repeat' first|contradiction|exact .ok|apply And.intro|intro _|(apply gc<;>simp+contextual))
  refine aA hs (by simp [Qy.a,hqt]) ?_
  simp [h1,hql,hqt]
  (repeat' first|contradiction|exact .ok|apply And.intro|intro _|(apply gc<;>simp+contextual))
  refine aA hp (by simp [Qy.a,hqt]) ?_
  simp [h2,h2',aG]
  all_goals exact gz
 ·refine ⟨ts,e,hts,?_⟩
  have h2':¬ (24:Int)<q.dep:=by omega
  generalize aG ts=Z at *
  refine aD aW (fn:=Tryz.f10) (by kernel_rfl) rfl (by kernel_rfl) (by decide) (by simp) ?_
  simp [aR,Qy.a,hql,hqt]
  (repeat' first|contradiction|exact .ok|apply And.intro|intro _|(apply gc<;>simp+contextual))
  refine aA hs (by simp [Qy.a,hqt]) ?_
  simp [h1,hql,hqt]
  (repeat' first|contradiction|exact .ok|apply And.intro|intro _|(apply gc<;>simp+contextual))
  refine aA hp (by simp [Qy.a,hqt]) ?_
  simp [h2,h2',hql,hqt]
  (repeat' first|contradiction|exact .ok|apply And.intro|intro _|(apply gc<;>simp+contextual))
  refine aA ht (by simp [Qy.a,aR,hqt]) ?_
  simp
  all_goals exact gz
theorem LB {S:List Tb} (hl:S.length≤1000) (hS:∀ x∈S,x.ok) {q:Qy} (h:CQ q) (hd:q.dep≤1000000):∃ n:Nat,n≤1000∧Cf En 111 [aR S,q.a] [] (.d (.int .i64 n)) []:=by
 obtain ⟨ts,e,hts,ht⟩:=RV hl hS h hd
 have hql:=Qy.clen q
 have hqt:=Qy.ctake q
 have hli:(aG ts).length=ts.length:=by simp [aG]
 refine ⟨ts.length,hts,?_⟩
 generalize aG ts=Z at *
 refine aD aW (fn:=Tryz.f111) (by kernel_rfl) rfl (by kernel_rfl) (by decide) (by simp) ?_
 simp [aR,Qy.a,hql,hqt]
 (repeat' first|contradiction|exact .ok|apply And.intro|intro _|(apply gc<;>simp+contextual))
 refine aA ht (by simp [aR,Qy.a,hqt]) ?_
 simp [hli]
 all_goals exact gz
theorem UR (r:List V) (hr:r.length≤1000):Cf En 117 [.d (.sl (r.map V.c))] [] (.d (.sl (r.map V.c))) []:=by
 have h1:=eI r.length (by omega) 32 (by decide)
 have hvl:∀ v:V,(V.c v).length=3:=fun _=>rfl
 have hm1:(r.length:Int)≤9223372036854775807:=by omega
 have hm2:32*(r.length:Int)≤281474976710656:=by omega
 by_cases hr0:r=[]
 ·subst hr0
  refine aD aW (fn:=Tryz.f117) (by kernel_rfl) rfl (by kernel_rfl) (by decide) (by simp) ?_
  simp
  all_goals exact gz
 ·refine aD aW (fn:=Tryz.f117) (by kernel_rfl) rfl (by kernel_rfl) (by decide) (by simp) ?_
  simp [h1,hvl,hm1,hm2,hr0]
  all_goals exact gz
end Go.Proofs.Tryz
