import Derived.Test.YthbnleoonldffaaGreatDoorQSmR
import Derived.Test.YthbnleoonldffaaGreatDoorQPlw
import Derived.Test.YthbnleoonldffaaGreatDoorQSfi
set_option linter.all false
namespace Go.Proofs.Tryz
open Go.Ab
set_option maxRecDepth 100000
set_option maxHeartbeats 4000000
def cC (r:List V):List D:=[.sl (r.map V.c)]
def gM (R:List (List V)):List D:=[.sl (R.map cC)]
def dK (I:List (List (List V))):AV:=.agg [.d (.sl (I.map gM))]
def vO (x:Tb) (j:Nat):Col:=(x.cols[j]?).getD ⟨[],1,false⟩
def smC (L:List Int) (x:Tb) (a j:Nat):V:=lR L (a+j) (vO x j).t (vO x j).b
def CF (L:List Int) (x:Tb) (a n:Nat):List V:=bE (fun j=>if j<n then smC L x a j else nulV) x.cols.length
def kJ (n:Int):V:=⟨1,n,[]⟩
def lG (S:List Tb) (f:Fk):Nat:=(iB S f).toNat
def HT (L:List Int) (S:List Tb) (x:Tb) (T:Nat→List (List V)) (b:Nat):Nat→List V→List V
 | 0,r=>r
 | z+1,r=>match x.fk[z]? with
   | some f=>(HT L S x T b z r).set (fU f.cols).toNat (kJ (1+aU L (b+z) (T (lG S f)).length))
   | none=>HT L S x T b z r
def uC (L:List Int) (x:Tb) (a k:Nat):List V:=(CF L x a x.cols.length).set (fU x.pr).toNat (kJ (k+1))
def GP (L:List Int) (S:List Tb) (x:Tb) (T:Nat→List (List V)) (a k:Nat):List V:=HT L S x T (a+x.cols.length) x.fk.length (uC L x a k)
def xG (x:Tb):Nat:=x.cols.length+x.fk.length
def lH (L:List Int) (S:List Tb) (x:Tb) (T:Nat→List (List V)) (a:Nat):Nat→List (List V)
 | 0=>[]
 | k+1=>lH L S x T a k++[GP L S x T (a+k*xG x) k]
theorem AG (L:List Int) (x:Tb) (a n:Nat):(CF L x a n).length=x.cols.length:=gQ _ _
theorem uD (L:List Int) (S:List Tb) (x:Tb) (T:Nat→List (List V)) (b:Nat):∀ (z:Nat) (r:List V),(HT L S x T b z r).length=r.length
 | 0,r=>rfl
 | z+1,r=>by
   rw [HT]
   split
   ·rw [List.length_set]; exact uD L S x T b z r
   ·exact uD L S x T b z r
theorem AH (L:List Int) (x:Tb) (a k:Nat):(uC L x a k).length=x.cols.length:=by unfold uC; rw [List.length_set,AG]
theorem XV (L:List Int) (S:List Tb) (x:Tb) (T:Nat→List (List V)) (a k:Nat):(GP L S x T a k).length=x.cols.length:=by unfold GP; rw [uD,AH]
theorem qW (L:List Int) (S:List Tb) (x:Tb) (T:Nat→List (List V)) (a:Nat):∀ k,(lH L S x T a k).length=k
 | 0=>rfl
 | k+1=>by rw [lH,List.length_append,qW L S x T a k]; rfl
theorem UB {L:List Int} {x:Tb} {a n:Nat} (h:n<x.cols.length):CF L x a (n+1)=(CF L x a n).set n (smC L x a n):=by
 unfold CF
 rw [nC]
 refine cJ fun j _=>?_
 by_cases hj:j=n
 ·subst hj; simp
 ·by_cases h2:j<n
  ·simp [hj,h2,show j<n+1 from by omega]
  ·simp [hj,h2,show ¬ j<n+1 from by omega]
theorem UC (L:List Int) (x:Tb) (a:Nat):CF L x a 0=List.replicate x.cols.length nulV:=by
 rw [nD]
 unfold CF
 exact cJ fun j _=>by simp
def vP (S:List Tb) (x:Tb) (T:Nat→List (List V)) (n f:Nat):Nat:=if (x.fk.take f).any (fun g=>(T (lG S g)).length==0)=true then 0 else n
def wW (L:List Int) (a:Nat) (n:Int):Nat:=(aU L a n).toNat
def aV (S:List Tb) (i:Nat):Tb:=(S[i]?).getD ⟨[],[],[],[],[],[]⟩
def mJ (L:List Int) (S:List Tb) (most:Nat) (i:Nat) (y:(Nat→List (List V))×Nat):(Nat→List (List V))×Nat :=
 let n:=vP S (aV S i) y.1 (wW L y.2 ((most:Int)+1)) (aV S i).fk.length
 (bM y.1 i (lH L S (aV S i) y.1 (y.2+1) n),y.2+1+n*xG (aV S i))
def lI (L:List Int) (S:List Tb) (most:Nat):List Int→(Nat→List (List V))×Nat→(Nat→List (List V))×Nat
 | [],y=>y
 | z::r,y=>lI L S most r (mJ L S most z.toNat y)
theorem AI (L:List Int) (S:List Tb) (most:Nat) (z:Int):∀ (r:List Int) (y:(Nat→List (List V))×Nat),lI L S most (r++[z]) y=mJ L S most z.toNat (lI L S most r y)
 | [],y=>rfl
 | q::r,y=>by rw [List.cons_append,lI,lI,AI L S most z r]
def fQ (L:List Int) (S:List Tb) (most a o:Nat):(Nat→List (List V))×Nat:=lI L S most ((eX S).1.take o) (fun _=>[],a)
theorem OL {L:List Int} {S:List Tb} {most a o i:Nat} (h:o<(eX S).1.length) (hi:(eX S).1[o]=i):fQ L S most a (o+1)=mJ L S most i (fQ L S most a o):=by
 unfold fQ
 rw [bV h,AI,hi,Int.toNat_natCast]
def AJ (L:List Int) (S:List Tb) (most a:Nat):List (List (List V))×Nat:=(bE (fQ L S most a (eX S).1.length).1 S.length,(fQ L S most a (eX S).1.length).2)
theorem GQ (S:List Tb) (x:Tb) (T:Nat→List (List V)) (n f:Nat):vP S x T n f≤n:=by unfold vP; split <;> omega
theorem UD {S:List Tb} {x:Tb} {T:Nat→List (List V)} {n f:Nat} (h:f<x.fk.length):vP S x T n (f+1)=if (T (lG S x.fk[f])).length=0 then 0 else vP S x T n f:=by
 unfold vP
 rw [qP h]
 by_cases h1:(T (lG S x.fk[f])).length=0
 ·rw [if_pos h1]; simp [h1]
 ·rw [if_neg h1]
  have:((T (lG S x.fk[f])).length==0)=false:=by simpa using h1
  rw [this,Bool.or_false]
theorem KD {S:List Tb} {x:Tb} {T:Nat→List (List V)} {n k:Nat} (h:k<vP S x T n x.fk.length):∀ f∈x.fk,0<(T (lG S f)).length:=by
 intro f hf
 unfold vP at h
 rw [List.take_length] at h
 split at h
 ·omega
 ·rename_i hn
  rw [List.any_eq_true] at hn
  rcases Nat.eq_zero_or_pos (T (lG S f)).length with h0 | h0
  ·exact absurd ⟨f,hf,by simpa using h0⟩ hn
  ·exact h0
theorem AK (L:List Int) (a:Nat) {n:Int} (h:1≤n):(wW L a n:Int)=aU L a n∧(wW L a n:Int)<n:=by
 have:=bG L a (n:=n) h
 unfold wW
 omega
structure oQ (S:List Tb):Prop where
 ok:SOk S
 few:S.length≤10
 pr:∀ x∈S,x.pr.length=1∧0≤fU x.pr∧fU x.pr<x.cols.length
 fk:∀ x∈S,x.fk.length≤8∧∀ f∈x.fk,f.cols.length=1∧0≤fU f.cols∧fU f.cols<x.cols.length
 ty:∀ x∈S,∀ c∈x.cols,c.t=1∨c.t=2∨c.t=3
 cols:∀ x∈S,x.cols.length≤20
theorem aBK {L:List Int} {S:List Tb} (h:oQ S) {most i:Nat} (hm:most≤100) (hi:i<S.length) (y:(Nat→List (List V))×Nat):(mJ L S most i y).2≤y.2+1+100*28:=by
 have hx:aV S i∈S:=by unfold aV; rw [List.getElem?_eq_getElem hi,Option.getD_some]; exact List.getElem_mem hi
 have h1:=h.cols _ hx
 have h2:=(h.fk _ hx).1
 have h3:=GQ S (aV S i) y.1 (wW L y.2 ((most:Int)+1)) (aV S i).fk.length
 have h4:=AK L y.2 (n:=(most:Int)+1) (by omega)
 unfold mJ xG
 simp only
 have h5:vP S (aV S i) y.1 (wW L y.2 ((most:Int)+1)) (aV S i).fk.length*((aV S i).cols.length+(aV S i).fk.length)≤100*28:=Nat.mul_le_mul (by omega) (by omega)
 omega
theorem AL {L:List Int} {S:List Tb} (h:oQ S) {most:Nat} (hm:most≤100):∀ (r:List Int) (y:(Nat→List (List V))×Nat),(∀ z∈r,0≤z∧z<S.length)→(lI L S most r y).2≤y.2+r.length*2801
 | [],y,_=>by simp [lI]
 | z::r,y,hr=>by
   have hz:=hr z List.mem_cons_self
   have h1:=aBK (L:=L) h hm (i:=z.toNat) (by omega) y
   have h2:=AL (L:=L) h hm r (mJ L S most z.toNat y) fun q hq=>hr q (List.mem_cons_of_mem _ hq)
   rw [lI,List.length_cons]
   omega
theorem DT {L:List Int} {S:List Tb} {most j:Nat}:∀ (r:List Int) (y:(Nat→List (List V))×Nat),(∀ z∈r,0≤z)→(j:Int) ∉ r→(lI L S most r y).1 j=y.1 j
 | [],y,_,_=>rfl
 | z::r,y,h0,h=>by
   rw [lI,DT r _ (fun q hq=>h0 q (List.mem_cons_of_mem _ hq)) fun hm=>h (List.mem_cons_of_mem _ hm)]
   unfold mJ bM
   simp only
   rw [if_neg]
   intro e
   have hz:=h0 z List.mem_cons_self
   exact h (by rw [e,Int.toNat_of_nonneg hz]; exact List.mem_cons_self)
theorem oR {L:List Int} {S:List Tb} {most:Nat}:∀ (r:List Int) (y:(Nat→List (List V))×Nat),(∀ j,(y.1 j).length≤most)→∀ j,((lI L S most r y).1 j).length≤most
 | [],y,h=>h
 | z::r,y,h=>by
   rw [lI]
   refine oR r _ fun j=>?_
   have h3:=GQ S (aV S z.toNat) y.1 (wW L y.2 ((most:Int)+1)) (aV S z.toNat).fk.length
   have h4:=AK L y.2 (n:=(most:Int)+1) (by omega)
   unfold mJ bM
   simp only
   split
   ·rw [qW]; omega
   ·exact h j
structure XR (L:List Int) (x:Tb):Prop where
 pr:x.pr=[0]
 un:x.un=[]
 cols:2≤x.cols.length∧x.cols.length≤5
 fk:x.fk.length≤2
 fkc:∀ f∈x.fk,∃ c:Nat,f.cols=[(c:Int)]∧1≤c∧c<x.cols.length
 ty:∀ c∈x.cols,c.t=1∨c.t=2∨c.t=3
theorem aBF (L:List Int) (j a:Nat):XR L (kN L j a):=by
 have h1:=qH L a
 have h2:=GY L (a+1+2*eD L a) j
 have hty:=(kV L j a).ty
 unfold kN at *
 generalize eD L a=m at *
 generalize AY L (a+1+2*m) j=z at *
 refine ⟨rfl,rfl,by simp only [jB]; omega,by simp only [uM]; omega,fun f hf=>?_,hty⟩
 obtain ⟨k,hk,rfl⟩:=rE hf
 refine ⟨m+1+k,rfl,by omega,?_⟩
 simp only [jB]
 omega
theorem aBG {L:List Int} {a n:Nat} {x:Tb} (h:x∈(dP L a n).1):XR L x:=by
 obtain ⟨j,b,rfl⟩:=kS h
 obtain ⟨p1,p2,p3,p4,p5,_⟩:=qG L (kN L j b) (CK L (b+1+2*eD L b) j)
 have h0:=aBF L j b
 unfold rJ
 refine ⟨by rw [p4]; exact h0.pr,by rw [p1]; exact h0.un,by rw [p3]; exact h0.cols,by rw [p5]; exact h0.fk,fun f hf=>?_,by rw [p3]; exact h0.ty⟩
 rw [p5] at hf
 rw [p3]
 exact h0.fkc f hf
theorem aBH {L:List Int} {S:List Tb} (h:SOk S) (hl:S.length≤10) (ht:∀ x∈S,XR L x):oQ S:=by
 refine ⟨h,hl,fun x hx=>?_,fun x hx=>?_,fun x hx=>(ht x hx).ty,fun x hx=>by have:=(ht x hx).cols; omega⟩
 ·have t:=ht x hx
  have c:=t.cols
  rw [t.pr]
  exact ⟨rfl,by simp [fU],by simp [fU]; omega⟩
 ·have t:=ht x hx
  refine ⟨by have:=t.fk; omega,fun f hf=>?_⟩
  obtain ⟨c,e,c1,c2⟩:=t.fkc f hf
  rw [e]
  exact ⟨rfl,by simp [fU],by simp [fU]; omega⟩
theorem TZ (L:List Int) (a n:Nat) (hn:n≤10):oQ (dP L a n).1:=aBH (YI L a n hn) (by rw [iC]; exact hn) fun x hx=>aBG hx
def VR (S:List Tb):Prop:=∀ k,k<S.length→∀ g∈(aV S k).fk,0≤iB S g∧lG S g<k
theorem AC {α:Type} {p:α→Bool}:∀ {l:List α} {m k:Nat} {x:α},l[m]?=some x→p x=true→(k:Int)≤aY p l k∧aY p l k≤(k:Int)+m
 | [],m,k,x,h,_=>by simp at h
 | y::l,0,k,x,h,hp=>by
   simp only [List.getElem?_cons_zero,Option.some.injEq] at h
   subst h
   rw [aY,if_pos hp]; omega
 | y::l,m+1,k,x,h,hp=>by
   rw [List.getElem?_cons_succ] at h
   rw [aY]
   split
   ·omega
   ·have:=AC (k:=k+1) h hp
    omega
def aBy (S:List Tb):Prop:=∀ k x,S[k]?=some x→x.n=rD 116 k∧∀ g∈x.fk,∃ m,m<k∧g.t=rD 116 m
theorem XK (L:List Int) (j a:Nat):(rJ L j a).1.n=rD 116 j∧∀ g∈(rJ L j a).1.fk,∃ m,m<j∧g.t=rD 116 m:=by
 obtain ⟨_,p2,_,_,p5,_⟩:=qG L (kN L j a) (CK L (a+1+2*eD L a) j)
 unfold rJ
 rw [p2,p5]
 refine ⟨rfl,fun g hg=>?_⟩
 obtain ⟨k,hk,rfl⟩:=rE hg
 have hj:0<j:=by
  rcases Nat.eq_zero_or_pos j with rfl | h
  ·simp [AY] at hk
  ·exact h
 have:=bG L (a+1+2*eD L a+2*k+1) (n:=(j:Int)) (by omega)
 exact ⟨_,by omega,rfl⟩
theorem AD (L:List Int) (a:Nat):∀ n,aBy (dP L a n).1
 | 0=>fun k x h=>by simp [dP] at h
 | n+1=>fun k x h=>by
   simp only [dP] at h
   rw [List.getElem?_append,iC] at h
   split at h
   ·exact AD L a n k x h
   ·rename_i hk
    have h0:k=n:=by
     have:=(List.getElem?_eq_some_iff.1 h).1
     simp at this; omega
    subst h0
    rw [Nat.sub_self,List.getElem?_cons_zero,Option.some.injEq] at h
    subst h
    exact XK L k _
theorem XL {S:List Tb} (h:aBy S):VR S:=fun k hk g hg=>by
 have hx:S[k]?=some S[k]:=List.getElem?_eq_getElem hk
 unfold aV at hg
 rw [hx] at hg
 obtain ⟨m,hm,e⟩:=(h k _ hx).2 g hg
 have hy:S[m]?=some (S[m]'(by omega)):=List.getElem?_eq_getElem (by omega)
 have:=AC (p:=fun x:Tb=>x.n==g.t) (k:=0) hy (by rw [(h m _ hy).1,e]; exact beq_self_eq_true _)
 unfold lG iB
 omega
theorem JI {x:Tb} {a:At} (h:tS x a):mW x a=true:=by
 have h1:=h.col.1
 have h2:=h.col.2
 unfold mW
 rw [h.key,h.val]
 rcases h.kind with ⟨e,v⟩ | ⟨t,o1,o2,k⟩ | ⟨t,e,v⟩ | ⟨t,e,k⟩ | ⟨t,e,k⟩
 ·rw [v,e]; simp [h1,h2]; decide
 ·have:a.op=14∨a.op=15∨a.op=16∨a.op=17∨a.op=18∨a.op=19:=by omega
  rcases this with e | e | e | e | e | e <;> (rw [e,t,k]; simp [h1,h2])
 ·rw [v,e,t]; simp [h1,h2]; decide
 ·rcases e with e | e <;> (rw [e,t,k]; simp [h1,h2])
 ·rcases e with e | e <;> (rw [e,t,k]; simp [h1,h2])
theorem DJ {v:V} (h:v.valid=true) (hk:v.k=1∨v.k=2∨v.k=3):aI (bO v 0) []=v:=by
 obtain ⟨k,n,t⟩:=v
 unfold V.valid at h
 unfold bO
 rcases hk with e | e | e <;> (simp only at e; subst e; simp at h)
 ·obtain rfl:t=[]:=by simpa using h.2.2
  show aI (.mk 2 0 n [] 0 []) []=_
  rw [aI,if_pos (by decide)]; rfl
 ·obtain rfl:t=[]:=by simpa using h.2
  show aI (.mk 3 0 n [] 0 []) []=_
  rw [aI,if_pos (by decide)]; rfl
 ·obtain rfl:n=0:=by simpa using h.1
  show aI (.mk 4 0 0 t 0 []) []=_
  rw [aI,if_pos (by decide)]; rfl
theorem vI (v:V) (h:v.valid=true) (hk:v.k=1∨v.k=2∨v.k=3) (ht:v.t.length≤200):Cf En 281 [(bO v 0).a] [] v.a []:=by
 refine aD aW (fn:=Tryz.f281) (by kernel_rfl) rfl (by kernel_rfl) (by decide) (by simp) ?_
 have hq:(bO v 0).few 0=true:=by
  unfold bO
  repeat' split
  all_goals (rw [Ex.few,fL,if_neg (by omega),if_neg (by simp),if_neg (by simp <;> omega)])
 have he:=qK [] (by simp) (SizeOf.sizeOf (bO v 0)+1) (bO v 0) (by omega) 0 hq
 rw [DJ h hk] at he
 unfold bO at he ⊢
 rcases hk with e | e | e
 all_goals (
  simp [e,Ex.a,Ex.c,cA] at he ⊢
  (repeat' first|contradiction|exact .ok|apply And.intro|intro _|(apply gc<;>simp+contextual))
  refine aA he (by simp [Ex.a,Ex.c,cA]) ?_
  simp [V.a]
  (repeat' (first | contradiction | exact .of (by kernel_rfl) | refine And.intro ?_ ?_ | intro _ | (refine aN (fun h=>?_) (fun h=>?_) <;> (have h':=h; (try simp at h'); first | done | simp [h,h'] | simp)))))
def OA (a:At):AV:=.tup [a.a,.d (.bool true)]
theorem aBo (x:Tb) (hx:x.ok) (a:At) (h:tS x a):Cf En 205 [x.a,a.ex.a] [] (OA a) []:=by
 have hs:=wE x hx a
 rw [JI h] at hs
 have hex:=zU a
 have hsm:=yD (SizeOf.sizeOf a.ex+1) a.ex a.ex (by omega) (by
  unfold At.ex
  repeat' split
  all_goals simp [eA,bO,Ex.fits,iO]
  all_goals (repeat' split)
  all_goals simp [Ex.fits,iO])
 rw [Ex.eq_self] at hsm
 have hlen:=h.len
 have hval:=h.val
 have hkind:=h.kind
 clear h
 rcases a with ⟨col,op,v⟩
 simp only at hkind hlen hval
 unfold At.ex at hex hsm ⊢
 simp only at hex hsm ⊢
 refine aD aW (fn:=Tryz.f205) (by kernel_rfl) rfl (by kernel_rfl) (by decide) (by simp) ?_
 rcases hkind with ⟨e,hv⟩ | ⟨t,o1,o2,hk⟩ | ⟨t,e,hv⟩ | ⟨t,e,hk⟩ | ⟨t,e,hk⟩
 ·subst e hv
  simp [eA,Ex.a,Ex.c,cA,At.a,At.c,nulV,Tb.a,Tb.c] at hs hex hsm ⊢
  (repeat' first|contradiction|exact .ok|apply And.intro|intro _|(apply gc<;>simp+contextual))
  refine aA hs (by simp) ?_
  simp
  (repeat' first|contradiction|exact .ok|apply And.intro|intro _|(apply gc<;>simp+contextual))
  refine aA hex (by simp) ?_
  simp
  refine aA hsm (by simp) ?_
  simp
  (repeat' first|contradiction|exact .ok|apply And.intro|intro _|(apply gc<;>simp+contextual))
  all_goals simp [OA,At.a,At.c]
 ·have n5:¬ op=5:=by omega
  have n21:¬ op=21:=by omega
  have hvl:=vI v hval (.inl hk) (by omega)
  simp [n5,n21,hk,bO,eA,Ex.a,Ex.c,cA,At.a,At.c,V.a,Tb.a,Tb.c] at hs hex hsm hvl ⊢
  (repeat' first|contradiction|exact .ok|apply And.intro|intro _|(apply gc<;>simp+contextual[n5,n21]))
  refine aA hvl (by simp) ?_
  simp
  (repeat' first|contradiction|exact .ok|apply And.intro|intro _|(apply gc<;>simp+contextual))
  refine aA hs (by simp) ?_
  simp
  (repeat' first|contradiction|exact .ok|apply And.intro|intro _|(apply gc<;>simp+contextual))
  refine aA hex (by simp) ?_
  simp
  refine aA hsm (by simp) ?_
  simp
  (repeat' first|contradiction|exact .ok|apply And.intro|intro _|(apply gc<;>simp+contextual))
  all_goals simp [OA,At.a,At.c,hk]
 ·subst e hv
  simp [eA,Ex.a,Ex.c,cA,At.a,At.c,nulV,Tb.a,Tb.c] at hs hex hsm ⊢
  (repeat' first|contradiction|exact .ok|apply And.intro|intro _|(apply gc<;>simp+contextual))
  refine aA hs (by simp) ?_
  simp
  (repeat' first|contradiction|exact .ok|apply And.intro|intro _|(apply gc<;>simp+contextual))
  refine aA hex (by simp) ?_
  simp
  refine aA hsm (by simp) ?_
  simp
  (repeat' first|contradiction|exact .ok|apply And.intro|intro _|(apply gc<;>simp+contextual))
  all_goals simp [OA,At.a,At.c]
 ·have n5:¬ op=5:=by omega
  have n21:¬ op=21:=by omega
  have hvl:=vI v hval (.inr (.inl hk)) (by omega)
  simp [n5,n21,hk,bO,eA,Ex.a,Ex.c,cA,At.a,At.c,V.a,Tb.a,Tb.c] at hs hex hsm hvl ⊢
  (repeat' first|contradiction|exact .ok|apply And.intro|intro _|(apply gc<;>simp+contextual[n5,n21]))
  refine aA hvl (by simp) ?_
  simp
  (repeat' first|contradiction|exact .ok|apply And.intro|intro _|(apply gc<;>simp+contextual))
  refine aA hs (by simp) ?_
  simp
  (repeat' first|contradiction|exact .ok|apply And.intro|intro _|(apply gc<;>simp+contextual))
  refine aA hex (by simp) ?_
  simp
  refine aA hsm (by simp) ?_
  simp
  (repeat' first|contradiction|exact .ok|apply And.intro|intro _|(apply gc<;>simp+contextual))
  all_goals simp [OA,At.a,At.c,hk]
 ·have n5:¬ op=5:=by omega
  have n21:¬ op=21:=by omega
  have hvl:=vI v hval (.inr (.inr hk)) (by omega)
  simp [n5,n21,hk,bO,eA,Ex.a,Ex.c,cA,At.a,At.c,V.a,Tb.a,Tb.c] at hs hex hsm hvl ⊢
  (repeat' first|contradiction|exact .ok|apply And.intro|intro _|(apply gc<;>simp+contextual[n5,n21]))
  refine aA hvl (by simp) ?_
  simp
  (repeat' first|contradiction|exact .ok|apply And.intro|intro _|(apply gc<;>simp+contextual))
  refine aA hs (by simp) ?_
  simp
  (repeat' first|contradiction|exact .ok|apply And.intro|intro _|(apply gc<;>simp+contextual))
  refine aA hex (by simp) ?_
  simp
  refine aA hsm (by simp) ?_
  simp
  (repeat' first|contradiction|exact .ok|apply And.intro|intro _|(apply gc<;>simp+contextual))
  all_goals simp [OA,At.a,At.c,hk]
theorem PT (a b:List Ex) (hn:a.length≤9223372036854775807) (h:∀ x∈a,∀ y∈b,Cf En 189 [x.a,y.a] [] (.d (.bool (x.eq y))) []) :
  Cf En 260 [.d (.sl (a.map Ex.c)),.d (.sl (b.map Ex.c)),.clo 189 []] [] (.d (.bool (fD a b))) []:=by
 refine aD aW (fn:=Tryz.f260) (by kernel_rfl) rfl (by kernel_rfl) (by decide) (by simp) ?_
 by_cases hl:a.length=b.length
 ·have hl':(a.length:Int)=b.length:=by omega
  generalize hres:fD a b=res
  simp [hl,hl']
  refine ⟨.of (by kernel_rfl),.of (by kernel_rfl),.of (by kernel_rfl),?_⟩
  refine aL aW (by decide) (fun i:Nat=>{ s:=cG [(1,.d (.sl (b.map Ex.c))),(2,.clo 189 []),(15,.d (.sl (a.map Ex.c))),(16,.d (.int .i64 b.length)),(17,.d (.int .i64 i))],b:=cE [] }) (fun i:Nat=>i≤b.length∧fD (a.drop i) (b.drop i)=res) (fun i=>b.length - i) 0 (by simp [hres]) (aE _ [] .nil (by simp)) ?_
  rintro i ⟨hi,ho⟩
  by_cases hlt:i<b.length
  ·have hlt':(i:Int)<b.length:=by omega
   have hla:i<a.length:=by omega
   have hg:a[i]?=some a[i]:=List.getElem?_eq_getElem hla
   have hg2:b[i]?=some b[i]:=List.getElem?_eq_getElem hlt
   have hd:=BK hg hg2
   have c1:=Ex.clen a[i]
   have c2:=Ex.clen b[i]
   have k1:=Ex.ctake a[i]
   have k2:=Ex.ctake b[i]
   simp [hlt,hlt',hla,hg,hg2,c1,c2,k1,k2]
   refine ⟨.of (by kernel_rfl),.of (by kernel_rfl),.of (by kernel_rfl),?_⟩
   refine aA (h a[i] (List.getElem_mem hla) b[i] (List.getElem_mem hlt)) (by simp [Ex.a]) ?_
   simp
   refine ⟨.of (by kernel_rfl),fun h=>⟨.of (by kernel_rfl),?_⟩,fun h=>⟨.of (by kernel_rfl),i+1,⟨hlt,?_⟩,?_,?_⟩⟩
   ·rw [← ho,hd,h]; rfl
   ·rw [← ho,hd,h]; rfl
   ·refine aE _ [] .nil ?_
    simp
    exact aH (by omega) (by omega)
   ·simp; omega
  ·have hlt':¬ (i:Int)<b.length:=by omega
   simp [hlt,hlt']
   refine ⟨.of (by kernel_rfl),.of (by kernel_rfl),?_⟩
   rw [← ho,EK (by omega) (by omega)]
 ·have hl':¬ (a.length:Int)=b.length:=by omega
  rw [wB a b hl]
  simp [hl,hl']
  exact ⟨.of (by kernel_rfl),.of (by kernel_rfl),.of (by kernel_rfl)⟩
theorem BJ:∀ (m:Nat) (x y:Ex),SizeOf.sizeOf x<m→x.fits→Cf En 189 [x.a,y.a] [] (.d (.bool (x.eq y))) []
 | 0,_,_,h,_=>absurd h (by omega)
 | m+1,.mk o c n t g ks,.mk o' c' n' t' g' ks',hm,hfit=>by
   refine aD aW (fn:=Tryz.f189) (by kernel_rfl) rfl (by kernel_rfl) (by decide) (by simp) ?_
   rw [Ex.fits] at hfit
   have hq:=PT ks ks' (by omega) fun x hx y _=>BJ m x y (by
    have:=Ex.kid_lt (e:=.mk o c n t g ks) (k:=x) hx
    omega) (mI ks hfit.2 x hx)
   have he:(Ex.mk o c n t g ks).eq (.mk o' c' n' t' g' ks')=(o==o'&&(c==c'&&(n==n'&&(t==t'&&(g==g'&&fD ks ks'))))):=by rw [Ex.eq]
   rw [he]
   by_cases h1:o=o'
   ·by_cases h2:c=c'
    ·by_cases h3:n=n'
     ·by_cases h4:t=t'
      ·by_cases h5:g=g'
       ·simp [Ex.a,Ex.c,aC,h1,h2,h3,h4,h5]
        refine ⟨.of (by kernel_rfl),aA hq (by simp) ?_⟩
        simp
        exact ⟨.of (by kernel_rfl),by simp [h1,h2,h3,h4,h5]⟩
       ·have h5':(g==g')=false:=by simp [h5]
        simp [Ex.a,Ex.c,aC,h1,h2,h3,h4,h5,h5']
        exact ⟨.of (by kernel_rfl),.of (by kernel_rfl)⟩
      ·have h4':(t==t')=false:=by simp [h4]
       simp [Ex.a,Ex.c,aC,h1,h2,h3,h4,h4']
       exact ⟨.of (by kernel_rfl),.of (by kernel_rfl)⟩
     ·have h3':(n==n')=false:=by simp [h3]
      simp [Ex.a,Ex.c,aC,h1,h2,h3,h3']
      exact ⟨.of (by kernel_rfl),.of (by kernel_rfl)⟩
    ·have h2':(c==c')=false:=by simp [h2]
     simp [Ex.a,Ex.c,aC,h1,h2,h2']
     exact ⟨.of (by kernel_rfl),.of (by kernel_rfl)⟩
   ·have h1':(o==o')=false:=by simp [h1]
    simp [Ex.a,Ex.c,aC,h1,h1']
    exact ⟨.of (by kernel_rfl),.of (by kernel_rfl)⟩
mutual
def Ex.shift:Ex→Int→Ex
 | .mk o c n t g ks,d=>.mk o c n t (if o=5 then IntKind.i64.wrap (g+d) else g) (eE ks d)
def eE:List Ex→Int→List Ex
 | [],_=>[]
 | e::es,d=>e.shift d::eE es d
end
theorem fM:∀ (l:List Ex) (d:Int),eE l d=l.map fun e=>e.shift d
 | [],_=>rfl
 | e::es,d=>by rw [eE,fM es d]; rfl
@[simp] theorem aEl (l:List Ex) (d:Int) (n:Nat):(∀ x,x∈List.take n (l.map fun e=>(Ex.shift e d).c)→x.length=6)=True:=eq_true fun x hx=>by
  obtain ⟨a,_,rfl⟩:=List.mem_map.1 (List.mem_of_mem_take hx)
  exact Ex.clen _
theorem yC:∀ (m:Nat) (e:Ex),SizeOf.sizeOf e<m→∀ q:Nat,e.few q=true→∀ d:Int,Cf En 106 [e.a,.d (.int .i64 d)] [] (e.shift d).a []
 | 0,_,h,_,_,_=>absurd h (by omega)
 | m+1,.mk o c n t g ks,hm,q,hq,d=>by
   obtain ⟨hk,_,hfew⟩:=iN hq
   have hs:(Ex.mk o c n t g ks).shift d=.mk o c n t (if o=5 then IntKind.i64.wrap (g+d) else g) (ks.map fun e=>e.shift d):=by rw [Ex.shift,fM]
   rw [hs]
   obtain ⟨g',hg'⟩:∃ g',g'=if o=5 then IntKind.i64.wrap (g+d) else g:=⟨_,rfl⟩
   rw [← hg']
   refine aD aW (fn:=Tryz.f106) (by kernel_rfl) rfl (by kernel_rfl) (by decide) (by simp) ?_
   refine' (fun (key:SB En 37 0 { s:=cG [(1,.d (.int .i64 d)),(2,.ptr 2 0 0),(4,.ptr 4 0 0),(5,.ptr 5 0 0),(6,.d (.int .i64 0))],b:=cE [(2,2,.var [.d (.int .i64 o),.d (.int .i64 c),.d (.int .i64 n),.d (.str t),.d (.int .i64 g),.d (.sl (ks.map Ex.c))]),(4,4,.var [.d (.int .i64 0),.d (.int .i64 0),.d (.int .i64 0),.d (.str []),.d (.int .i64 0),.nils]),(5,5,.var [.d (.int .i64 o),.d (.int .i64 c),.d (.int .i64 n),.d (.str t),.d (.int .i64 g'),.nils])] } _ _)=>?main) ?keyg
   case main =>
    by_cases h5:o=5
    ·rw [if_pos h5] at hg'
     simp [Ex.a,Ex.c,aC,h5,← hg']
     (repeat' first|contradiction|exact .ok|apply And.intro|intro _|(apply gc<;>simp+contextual[h5]))
     refine key _ ?_
     exact aE _ [(2,2,_),(4,4,_),(5,5,_)] ⟨by simp,by simp,by simp [aB,Blk.live,h5],by simp⟩ (by simp [aB])
    ·rw [if_neg h5] at hg'
     subst hg'
     simp [Ex.a,Ex.c,aC,h5]
     (repeat' first|contradiction|exact .ok|apply And.intro|intro _|(apply gc<;>simp+contextual[h5]))
     refine key _ ?_
     exact aE _ [(2,2,_),(4,4,_),(5,5,_)] ⟨by simp,by simp,by simp [aB,Blk.live],by simp⟩ (by simp [aB])
   intro st hst
   refine aL aW (by decide) (fun i:Nat=>{ s:=cG [(1,.d (.int .i64 d)),(2,.ptr 2 0 0),(4,.ptr 4 0 0),(5,.ptr 5 0 0),(6,.d (.int .i64 i))],b:=cE [(2,2,.var [.d (.int .i64 o),.d (.int .i64 c),.d (.int .i64 n),.d (.str t),.d (.int .i64 g),.d (.sl (ks.map Ex.c))]),(4,4,.var [.d (.int .i64 0),.d (.int .i64 0),.d (.int .i64 0),.d (.str []),.d (.int .i64 0),.nils]),(5,5,.var [.d (.int .i64 o),.d (.int .i64 c),.d (.int .i64 n),.d (.str t),.d (.int .i64 g'),.ref 900 0 i 6]),(900,900,.arr 25 6 ((ks.take i).map fun e=>(e.shift d).c) false)] }) (fun i=>i≤ks.length) (fun i=>ks.length - i) 0 (by simp)
    (hst.trans ((tL 5 900 25 6 5 (cells:=[.d (.int .i64 o),.d (.int .i64 c),.d (.int .i64 n),.d (.str t),.d (.int .i64 g'),.nils]) (by simp) rfl (by simp) (by decide) (by decide)).trans (aE _ [(2,2,_),(4,4,_),(5,5,_),(900,900,_)] ⟨by simp,by simp,by simp [aB,Blk.live,bM],by simp⟩ (by simp [aB])))) ?_
   intro i hi
   by_cases hlt:i<ks.length
   ·obtain ⟨e,he⟩:∃ e,e=ks[i]:=⟨_,rfl⟩
    have hge:∀ h,ks[i]'h=e:=fun _=>he.symm
    have hem:e∈ks:=by rw [he]; exact List.getElem_mem hlt
    have hsz:SizeOf.sizeOf e<m:=by
     have:=List.sizeOf_lt_of_mem hem
     simp only [Ex.mk.sizeOf_spec] at hm
     omega
    have hrec:=yC m e hsz (q+1) (hfew e hem) d
    have hw:=aH (n:=(i:Int)+1) (by omega) (by omega)
    have htk:(ks.take (i+1)).map (fun e=>(e.shift d).c)=(ks.take i).map (fun e=>(e.shift d).c)++[(e.shift d).c]:=by rw [bV hlt,List.map_append,← he]; rfl
    have hml:min i ks.length=i:=by omega
    simp [hlt,hge,Ex.clen,Ex.ctake,Ex.ctake']
    (repeat' first|contradiction|exact .ok|apply And.intro|intro _|(apply gc<;>simp+contextual))
    refine aA hrec (by simp [Ex.a,Ex.ctake,Ex.ctake',Ex.clen]) ?_
    simp [Ex.a,Ex.ctake,Ex.ctake',Ex.clen,hml,eI i (by omega) 72 (by decide),eI (i+1) (by omega) 72 (by decide)]
    (repeat' first|contradiction|exact .ok|apply And.intro|intro _|(apply gc<;>simp+contextual))
    refine ⟨i+1,by omega,?_,by simp; omega⟩
    refine aE _ [(2,2,_),(4,4,_),(5,5,_),(900,34,_)] ⟨by simp,by simp,?_,by simp⟩ (by simp [aB,hw])
    have htk':(ks.map fun e=>(e.shift d).c).take (i+1)=(ks.map fun e=>(e.shift d).c).take i++[(e.shift d).c]:=by rw [← List.map_take,htk,List.map_take]
    simp [aB,Blk.live,htk',hml]
   have hie:i=ks.length:=by omega
   subst hie
   simp [Ex.a,Ex.c,aC]
   all_goals exact gz
def shF (o c n g:Int) (t:List UInt8) (ks:List Ex) (d:Int):Nat→St
 | 0=>{ s:=cG [(1,.d (.int .i64 d)),(2,.ptr 2 0 0),(4,.ptr 4 0 0),(19,.d (.sl (ks.map Ex.c))),(20,.d (.int .i64 ks.length)),(21,.d (.int .i64 0))],b:=cE [(2,2,.var [.d (.int .i64 o),.d (.int .i64 c),.d (.int .i64 n),.d (.str t),.d (.int .i64 g),.nils]),(4,4,.var [.d (.int .i64 0),.d (.int .i64 0),.d (.int .i64 0),.d (.str []),.d (.int .i64 0),.nils])] }
 | i+1=>{ s:=cG [(1,.d (.int .i64 d)),(2,.ptr 2 0 0),(4,.ptr 4 0 0),(19,.d (.sl (ks.map Ex.c))),(20,.d (.int .i64 ks.length)),(21,.d (.int .i64 (i+1:Nat)))],b:=cE [(2,2,.var [.d (.int .i64 o),.d (.int .i64 c),.d (.int .i64 n),.d (.str t),.d (.int .i64 g),.ref 900 0 (i+1) 6]),(4,4,.var [.d (.int .i64 0),.d (.int .i64 0),.d (.int .i64 0),.d (.str []),.d (.int .i64 0),.nils]),(900,31,.arr 25 6 ((ks.take (i+1)).map fun e=>(e.shift d).c) false)] }
theorem uP:∀ (m:Nat) (e:Ex),SizeOf.sizeOf e<m→∀ q:Nat,e.few q=true→∀ d:Int,Cf En 194 [e.a,.d (.int .i64 d)] [] (e.shift d).a []
 | 0,_,h,_,_,_=>absurd h (by omega)
 | m+1,.mk o c n t g ks,hm,q,hq,d=>by
   refine aD aW (fn:=Tryz.f194) (by kernel_rfl) rfl (by kernel_rfl) (by decide) (by simp) ?_
   have hks:ks.length≤12∧fL ks (q+1)=true:=by
    rw [Ex.few] at hq
    by_cases h1:60<q
    ·simp [h1] at hq
    by_cases h2:12<ks.length
    ·simp [h1,h2] at hq
    by_cases h3:200<t.length
    ·simp [h1,h2,h3] at hq
    ·simp [h1,h2,h3] at hq
     exact ⟨by omega,hq⟩
   have hs:(Ex.mk o c n t g ks).shift d=.mk o c n t (if o=5 then IntKind.i64.wrap (g+d) else g) (ks.map fun e=>e.shift d):=by rw [Ex.shift,fM]
   rw [hs]
   generalize hg:(if o=5 then IntKind.i64.wrap (g+d) else g)=g'
   have hgo:(o=5∧IntKind.i64.wrap (g+d)=g')∨(o ≠ 5∧g=g'):=by
    by_cases h5:o=5
    ·exact .inl ⟨h5,by simpa [h5] using hg⟩
    ·exact .inr ⟨h5,by simpa [h5] using hg⟩
   rcases hgo with ⟨h5,hg'⟩ | ⟨h5,hg'⟩ <;> simp [Ex.a,Ex.c,aC,hg',h5] <;> repeat' (first | exact .of (by kernel_rfl) | refine And.intro ?_ ?_)
   all_goals
    refine aL aW (by decide) (shF o c n g' t ks d) (fun i:Nat=>i≤ks.length) (fun i=>ks.length - i) 0 (by simp) (aE [(1,_),(2,_),(4,_),(19,_),(20,_),(21,_)] [(2,2,_),(4,4,_)] ⟨by simp,by simp,by simp [aB,Blk.live,h5],by simp⟩ (by simp [aB])) ?_
    intro i hi
    have hfew:=hks.2
    rw [oP,List.all_eq_true] at hfew
    by_cases hlt:i<ks.length
    ·have hgi:ks[i]?=some ks[i]:=List.getElem?_eq_getElem hlt
     have c1:=Ex.clen ks[i]
     have k1:=Ex.ctake ks[i]
     have c2:=Ex.clen (ks[i].shift d)
     have hkid:SizeOf.sizeOf ks[i]<m:=by
      have:=Ex.kid_lt (e:=.mk o c n t g ks) (k:=ks[i]) (List.getElem_mem hlt)
      omega
     have hrec:=uP m ks[i] hkid (q+1) (hfew _ (List.getElem_mem hlt)) d
     have htk:List.take (i+1) (List.map (fun e=>(Ex.shift e d).c) ks)=List.take i (List.map (fun e=>(Ex.shift e d).c) ks)++[(ks[i].shift d).c]:=by
      rw [List.take_succ,List.getElem?_map,hgi]; rfl
     cases i with
     | zero =>
       have hlt':0<ks.length:=hlt
       have hlt2:(0:Int)<ks.length:=by omega
       simp [shF,hlt',hlt2,hgi,c1,k1]
       refine ⟨.of (by kernel_rfl),.of (by kernel_rfl),aA hrec (by simp [Ex.a]) ?_⟩
       simp [Ex.a,c2,Ex.ctake']
       refine ⟨.of (by kernel_rfl),.of (by kernel_rfl),1,hlt',?_,?_⟩
       ·refine aE [(1,_),(2,_),(4,_),(19,_),(20,_),(21,_)] [(2,2,_),(4,4,_),(900,31,_)] ⟨by simp,by simp,?_,by simp⟩ ?_
        ·simp only [Nat.zero_add,List.take_zero,List.nil_append] at htk
         simp [aB,Blk.live,htk]
        ·simp [aB]
         exact aH (by omega) (by omega)
       ·simp; omega
     | succ i =>
       have hlt2:((i+1:Nat):Int)<ks.length:=by omega
       have hlt3:(i:Int)+1<ks.length:=by omega
       have hi1:i+1≤ks.length:=hi
       have hp:(0:Int)≤(i:Int)+1:=by omega
       have hmin:min (i+1) ks.length=i+1:=by omega
       have hb:=hks.1
       simp [shF,hlt,hlt2,hlt3,hp,hgi,c1,k1]
       refine ⟨.of (by kernel_rfl),.of (by kernel_rfl),aA hrec (by simp [Ex.a]) ?_⟩
       have s1:(i+1+1)*72≤140737488355328:=by omega
       have s2:i≤9223372036854775805:=by omega
       simp [Ex.a,c2,Ex.ctake',hmin,s1,s2]
       refine ⟨.of (by kernel_rfl),.of (by kernel_rfl),i+2,by omega,?_,?_⟩
       ·refine aE [(1,_),(2,_),(4,_),(19,_),(20,_),(21,_)] [(2,2,_),(4,4,_),(900,31,_)] ⟨by simp,by simp,?_,by simp⟩ ?_
        ·simp [aB,Blk.live,htk]
        ·simp [aB]
         rw [aH (by omega) (by omega)]
       ·simp; omega
    ·have hie:i=ks.length:=by omega
     subst hie
     cases hk:ks.length with
     | zero =>
       simp [shF,hk]
       refine ⟨.of (by kernel_rfl),.of (by kernel_rfl),?_⟩
       have:ks=[]:=List.eq_nil_of_length_eq_zero hk
       rw [this]; rfl
     | succ i =>
       simp [shF,hk]
       refine ⟨.of (by kernel_rfl),.of (by kernel_rfl),?_⟩
       rw [List.take_of_length_le (by simp [hk]),List.take_of_length_le (by simp [hk]),aC,List.map_map]; rfl
structure Bk where
 n:Nat
 v:List V
 p:List Int
def Bk.c (x:Bk):List D:=[.int .i64 x.n,.sl (x.v.map V.c),.sl (aG x.p)]
def aO (l:List Nat):List Int:=l.map fun n:Nat=>(n:Int)
def eK:List V→List V→Int
 | [],[]=>0
 | [],_::_=>-1
 | _::_,[]=>1
 | v::a,u::b=>if v.cmp u ≠ 0 then v.cmp u else eK a b
theorem HE {a b:List V} {i:Nat} (hi:i<a.length) (hj:i<b.length):eK (a.drop i) (b.drop i)=if a[i].cmp b[i] ≠ 0 then a[i].cmp b[i] else eK (a.drop (i+1)) (b.drop (i+1)):=by
 rw [List.drop_eq_getElem_cons hi,List.drop_eq_getElem_cons hj,eK]
theorem HF {a b:List V} {i:Nat} (h1:i<a.length) (h2:b.length≤i):eK (a.drop i) (b.drop i)=1:=by
 rw [List.drop_eq_getElem_cons h1,List.drop_eq_nil_of_le h2,eK]
theorem HG {a b:List V} {i:Nat} (h1:a.length≤i) (h2:i<b.length):eK (a.drop i) (b.drop i)=-1:=by
 rw [List.drop_eq_getElem_cons h2,List.drop_eq_nil_of_le h1,eK]
theorem HH {a b:List V} {i:Nat} (h1:a.length≤i) (h2:b.length≤i):eK (a.drop i) (b.drop i)=0:=by
 rw [List.drop_eq_nil_of_le h2,List.drop_eq_nil_of_le h1,eK]
theorem aCJ (a b:List V) (ha:a.length≤1000000) (hb:b.length≤1000000):Cf En 97 [.d (.sl (a.map V.c)),.d (.sl (b.map V.c))] [] (.d (.int .i64 (eK a b))) []:=by
 refine aD aW (fn:=Tryz.f97) (by kernel_rfl) rfl (by kernel_rfl) (by decide) (by simp) ?_
 simp
 (repeat' first|contradiction|exact .ok|apply And.intro|intro _|(apply gc<;>simp+contextual))
 refine aL aW (by decide) (fun i:Nat=>{ s:=cG [(0,.d (.sl (a.map V.c))),(1,.d (.sl (b.map V.c))),(5,.d (.int .i64 i))],b:=cE [] }) (fun i:Nat=>i≤a.length∧i≤b.length∧eK (a.drop i) (b.drop i)=eK a b) (fun i=>a.length - i) 0 (by simp) (aE _ [] .nil (by simp)) ?_
 rintro i ⟨hi,hj,ho⟩
 by_cases hlt:i<a.length
 ·have hlt':(i:Int)<a.length:=by omega
  by_cases hjl:i<b.length
  ·have hjl':(i:Int)<b.length:=by omega
   have hst:=HE hlt hjl
   have hw:=aH (n:=(i:Int)+1) (by omega) (by omega)
   have hcm:=rG a[i] b[i]
   by_cases hz:a[i].cmp b[i]=0
   ·rw [if_neg (by simp [hz]),ho] at hst
    rw [hz] at hcm
    simp [hlt',hlt,hjl',hjl,V.c]
    (repeat' first|contradiction|exact .ok|apply And.intro|intro _|(apply gc<;>simp+contextual[hlt',hlt,hjl',hjl]))
    refine aA hcm (by simp [V.a]) ?_
    simp
    (repeat' first|contradiction|exact .ok|apply And.intro|intro _|(apply gc<;>simp+contextual))
    refine ⟨i+1,⟨by omega,by omega,hst.symm⟩,?_,by simp; omega⟩
    exact aE _ [] .nil (by simp [hw])
   ·rw [if_pos hz,ho] at hst
    rw [← hst] at hcm hz
    simp [hlt',hlt,hjl',hjl,V.c]
    (repeat' first|contradiction|exact .ok|apply And.intro|intro _|(apply gc<;>simp+contextual[hlt',hlt,hjl',hjl]))
    refine aA hcm (by simp [V.a]) ?_
    simp [hz]
    (repeat' first|contradiction|exact .ok|apply And.intro|intro _|(apply gc<;>simp+contextual[hz]))
  ·have hjl':¬ (i:Int)<b.length:=by omega
   have h1:¬ (a.length:Int)<b.length:=by omega
   have h2:(b.length:Int)<a.length:=by omega
   have h3:¬ a.length<b.length:=by omega
   have h4:b.length<a.length:=by omega
   rw [HF hlt (by omega)] at ho
   simp [hlt,hlt',hjl',hjl,h1,h2,h3,h4,← ho]
   (repeat' first|contradiction|exact .ok|apply And.intro|intro _|(apply gc<;>simp+contextual[hlt,hlt',hjl',hjl,h1,h2,h3,h4,← ho]))
 ·have hlt':¬ (i:Int)<a.length:=by omega
  by_cases hjl:i<b.length
  ·have h1:(a.length:Int)<b.length:=by omega
   have h3:a.length<b.length:=by omega
   rw [HG (by omega) hjl] at ho
   simp [hlt,hlt',h1,h3,← ho]
   (repeat' first|contradiction|exact .ok|apply And.intro|intro _|(apply gc<;>simp+contextual[hlt,hlt',h1,h3,← ho]))
  ·have h1:¬ (a.length:Int)<b.length:=by omega
   have h2:¬ (b.length:Int)<a.length:=by omega
   have h3:¬ a.length<b.length:=by omega
   have h4:¬ b.length<a.length:=by omega
   rw [HH (by omega) (by omega)] at ho
   simp [hlt,hlt',h1,h2,h3,h4,← ho]
   (repeat' first|contradiction|exact .ok|apply And.intro|intro _|(apply gc<;>simp+contextual[hlt,hlt',h1,h2,h3,h4,← ho]))
end Go.Proofs.Tryz
