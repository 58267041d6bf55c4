import Derived.Test.YtkkbepgccddjoaaGreatDoorCSpl
import Derived.Test.YtkkbepgccddjoaaGreatDoorCSsp
import Derived.Test.YtkkbepgccddjoaaGreatDoorCHld
import Derived.Test.YtkkbepgccddjoaaGreatDoorCShr
import Derived.Test.YtkkbepgccddjoaaGreatDoorCSag
set_option linter.all false
namespace Go.Proofs.Tryz
open Go.Ab
set_option maxRecDepth 100000
set_option maxHeartbeats 8000000
def aCs (g:Bk→Bool):List Bk→Nat
 | []=>0
 | b::r=>(if g b=true then b.n else 0)+aCs g r
theorem DR (g:Bk→Bool):∀ (L:List Bk) (P:Nat→Bool),(∀ n,n<bD (aX L)→∀ b,L[(eP (aX L) n).1]?=some b→P n=g b)→iZ P (bD (aX L))=aCs g L
 | [],_,_=>rfl
 | b::L,P,h=>by
   have e:aX (b::L)=b.n::aX L:=rfl
   have es:bD (aX (b::L))=b.n+bD (aX L):=rfl
   rw [es] at h ⊢
   rw [NE,aCs,DR g L _ (fun n hn c hc=>?_)]
   ·congr 1
    rw [CL (Q:=fun _=>g b) (fun i hi=>?_),CM]
    refine h i (by omega) b ?_
    rw [e,eP,if_pos hi]; rfl
   ·refine h (b.n+n) (by omega) c ?_
    rw [e,eP,if_neg (by omega),Nat.add_sub_cancel_left,List.getElem?_cons_succ]
    exact hc
theorem HF (S:List Tb) (X:Nat→List Bk) (l:List Nat) (v:Vw):∀ L:List Bk,pU S X l v L=aCs (fun b=>lE v (CN S X l v b)) L
 | []=>rfl
 | b::r=>by rw [pU,aCs,HF S X l v r]
theorem aCt:∀ {l:List Nat} {p d:Nat},(h:p<l.length)→d<l[p]→eP l (bD (l.take p)+d)=(p,d)
 | [],p,d,h,_=>absurd h (by simp)
 | c::cs,0,d,h,hd=>by
   rw [List.take_zero,bD,Nat.zero_add,eP,if_pos (by simpa using hd)]
 | c::cs,p+1,d,h,hd=>by
   rw [List.take_succ_cons,bD,eP,if_neg (by omega),show c+bD (cs.take p)+d - c=bD (cs.take p)+d from by omega,aCt (by simpa using h) (by simpa using hd)]
structure aCu (S:List Tb) (l:List Nat) (i:Nat) (R Q:List V):Prop where
 lr:R.length=cG S l (i+1)
 lq:Q.length=cG S l (i+1)
 eq:∀ (z q:Nat) (hz:z<l.length),z≤i→q<(aR S l[z]).cols.length→cU (aR S l[z]) q=false→R[cG S l z+q]?=Q[cG S l z+q]?
theorem HG (S:List Tb) (l:List Nat) {i:Nat}:∀ {j:Nat},i≤j→j≤l.length→cG S l i≤cG S l j
 | 0,h,_=>by obtain rfl:i=0:=by omega
             exact Nat.le_refl _
 | j+1,h,hj=>by
   rcases Nat.eq_or_lt_of_le h with rfl | h'
   ·exact Nat.le_refl _
   ·have:=HG S l (i:=i) (j:=j) (by omega) (by omega)
    rw [jY S (n:=j) (by omega)]
    omega
theorem aEO {S:List Tb} {l:List Nat} {i:Nat} {R Q A B:List V} (h:aCu S l i R Q) (hi:i+1<l.length) (ha:A.length=(aR S l[i+1]).cols.length) (hb:B.length=(aR S l[i+1]).cols.length)
  (he:∀ q:Nat,q<(aR S l[i+1]).cols.length→cU (aR S l[i+1]) q=false→A[q]?=B[q]?):aCu S l (i+1) (R++A) (Q++B) where
 lr:=by rw [List.length_append,h.lr,jY S hi,ha]
 lq:=by rw [List.length_append,h.lq,jY S hi,hb]
 eq:=by
  intro z q hz hzi hq hk
  by_cases e:z=i+1
  ·subst e
   have e1:=h.lr
   have e2:=h.lq
   rw [List.getElem?_append_right (by omega),List.getElem?_append_right (by omega),e1,e2,Nat.add_sub_cancel_left]
   exact he q hq hk
  ·have h1:=HG S l (i:=z+1) (j:=i+1) (by omega) (by omega)
   rw [jY S hz] at h1
   have e1:=h.lr
   have e2:=h.lq
   rw [List.getElem?_append_left (by omega),List.getElem?_append_left (by omega)]
   exact h.eq z q hz (by omega) hq hk
theorem aEP {S:List Tb} {l:List Nat} {A B:List V} (hi:0<l.length) (ha:A.length=(aR S l[0]).cols.length) (hb:B.length=(aR S l[0]).cols.length)
  (he:∀ q:Nat,q<(aR S l[0]).cols.length→cU (aR S l[0]) q=false→A[q]?=B[q]?):aCu S l 0 A B:=by
 have h0:cG S l 0=0:=by simp [cG,cA]
 refine ⟨by rw [jY S hi,h0]; omega,by rw [jY S hi,h0]; omega,fun z q hz hzi hq hk=>?_⟩
 obtain rfl:z=0:=by omega
 rw [h0,Nat.zero_add]
 exact he q hq hk
theorem xS {S:List Tb} {X:Nat→List Bk} {x:Tb} {l:List Bk} {r:Nat} {b:Bk} (h:l[(eP (aX l) r).1]?=some b):qS S X x l r=qG S X x b (eP (aX l) r).2 r:=by
 unfold qS
 rw [h]
theorem WA {S:List Tb} {X:Nat→List Bk} {most:Nat} {x:Tb} {b:Bk} (hb:KQ S X most x b) (hK:iV x) (j n q:Nat) (hq:q<x.cols.length) (hk:cU x q=false):(qG S X x b j n)[q]?=(tY x b)[q]?:=by
 obtain ⟨k1,k2⟩:=DO hk
 obtain ⟨p,hp,_⟩:=hK.pr
 unfold qG
 rw [sC (fun g hg e=>?_),List.getElem?_set_ne (fun e=>?_)]
 ·unfold tY iQ
  rw [bE,hb.len,if_pos hq]
  have hv:q<b.v.length:=by rw [hb.len]; exact hq
  rw [if_neg (by rw [hk]; simp),gE hv]
  rfl
 ·rw [hp] at e k1
  simp [eA] at e k1
  exact k1 (by omega)
 ·obtain ⟨c,c1,_,_⟩:=hK.fk g hg
  have:=k2 g hg
  rw [c1] at e this
  simp [eA] at e this
  exact this (by omega)
theorem OU {S:List Tb} {T:Nat→List Bk} {blocks most:Nat} (h:SmyW S T blocks most) (hb:blocks*most≤1000):tA S (jO S T) :=
 ⟨h.fill,h.key,h.tg,fun k=>by rw [sD]; have:=(h.sum k).2; omega,aGP h.dec h.key h.ok⟩
theorem KM {S:List Tb} {T:Nat→List Bk} {k n:Nat} (h:n<bD (aX (T k))):gS (jO S T) k n=qS S T (aR S k) (T k) n:=by
 unfold gS jO jN
 rw [bE,if_pos (by omega),Nat.zero_add]
 rfl
theorem aCv {S:List Tb} {T:Nat→List Bk} {blocks most:Nat} (h:SmyW S T blocks most) {k:Nat} (hk:k<S.length) {b:Bk} (hb:b∈T k):KQ S T most (aR S k) b:=(h.ok k hk).2 b hb
theorem ZG {S:List Tb} {T:Nat→List Bk} {blocks most:Nat} (hW:SmyW S T blocks most) (hG:tA S (jO S T)) {v:Vw} {l:List Nat} (hc:dW S v=some l) {l0 n:Nat} {b:Bk} (h0:l[0]?=some l0) (hn:n<bD (aX (T l0))) (hb:(T l0)[(eP (aX (T l0)) n).1]?=some b) :
  ∀ i,i≤v.path.length→∃ k,l[i]?=some k∧(qV S (jO S T) l v.path n i).2<bD (aX (T k))∧(T k)[(eP (aX (T k)) (qV S (jO S T) l v.path n i).2).1]?=some (qM S T l v.path b i).2∧aCu S l i (qV S (jO S T) l v.path n i).1 (qM S T l v.path b i).1:=by
 obtain ⟨hlt,hll⟩:=cK hc
 intro i
 induction i with
 | zero =>
   intro _
   have hl:0<l.length:=by omega
   have hk:=hlt l0 (List.mem_of_getElem? h0)
   have e0:l[0]=l0:=by rw [gE hl] at h0; exact Option.some.inj h0
   have hB:=aCv hW hk (List.mem_of_getElem? hb)
   have er:(qV S (jO S T) l v.path n 0).1=qG S T (aR S l0) b (eP (aX (T l0)) n).2 n:=by
    rw [qV,h0,Option.getD_some]
    simp only
    rw [KM hn,xS hb]
   have eq:(qM S T l v.path b 0).1=tY (aR S l0) b:=by rw [qM,h0,Option.getD_some]
   refine ⟨l0,h0,hn,?_,?_⟩
   ·rw [qM]; exact hb
   ·rw [er,eq]
    refine aEP hl (by rw [e0]; unfold qG; rw [mP,List.length_set]; exact hB.len) (by rw [e0]; unfold tY; rw [gT]; exact hB.len) fun q hq hk'=>?_
    rw [e0] at hq hk'
    exact WA hB (hW.key _ (hW.tab hk)) _ _ q hq hk'
 | succ i ih =>
   intro hi
   obtain ⟨k,hk,hr,hbk,hA⟩:=ih (by omega)
   have hip:i<v.path.length:=by omega
   obtain ⟨m,k',hm,hk2,hst⟩:=jX hc i hip
   rw [hk] at hk2
   cases hk2
   have hkS:=hlt k (List.mem_of_getElem? hk)
   have hmS:=hlt m (List.mem_of_getElem? hm)
   obtain ⟨f,q,g,hf,hg,_,hgm,hrf,hq,hval,hnx⟩:=wH hG (n:=n) hip hk hm hst hkS (by rw [sD]; exact hr)
   have hnR:=NG hW.sumok hc (b:=b) hip hk hm (by rw [AL hW.out]; exact List.mem_of_getElem? hbk)
   rw [AL hW.out] at hnR
   obtain ⟨f',z,qb,hf',hz,hqb,hcn,hqm⟩:=hnR
   obtain rfl:f'=f:=by omega
   have hBq:=aCv hW hmS hqm
   have hBk:=aCv hW hkS (List.mem_of_getElem? hbk)
   have hx:=hW.tab hkS
   have hKx:=hW.key _ hx
   rw [KM hr,xS hbk] at hval
   obtain ⟨c,c1,c2,_⟩:=hKx.fk g (List.mem_of_getElem? hg)
   have hc0:(eA g.cols).toNat=c:=by rw [c1]; rfl
   unfold qG at hval
   rw [KR (HM hKx) hg (by rw [List.length_set,hc0,hBk.len]; exact c2),Nat.zero_add,hz,Option.getD_some,Int.toNat_natCast,hgm] at hval
   have hqe:=OS (Option.some.inj hval)
   obtain ⟨hzl,hze⟩:=List.getElem?_eq_some_iff.1 hqb
   have hcl:(aX (T m)).length=(T m).length:=List.length_map _
   have hcz:∀ h,(aX (T m))[z]'h=qb.n:=fun h=>by
    have:(aX (T m))[z]?=some qb.n:=by unfold aX; rw [List.getElem?_map,hqb]; rfl
    rw [gE h] at this
    exact Option.some.inj this
   obtain ⟨j,hj⟩:∃ j,j=(eP (aX (T k)) (qV S (jO S T) l v.path n i).2).2:=⟨_,rfl⟩
   rw [← hj] at hqe
   have hzc:z<(aX (T m)).length:=by omega
   have hq2:q=bD ((aX (T m)).take z)+j % qb.n:=by
    unfold sB at hqe
    rw [gE hzc,hcz,Option.getD_some] at hqe
    omega
   have hfd:=aCt hzc (d:=j % qb.n) (by rw [hcz]; exact Nat.mod_lt _ hBq.n.1)
   rw [← hq2] at hfd
   rw [sD] at hq
   have hi1:i+1<l.length:=by omega
   have em:l[i+1]=m:=by rw [gE hi1] at hm; exact Option.some.inj hm
   refine ⟨m,hm,by rw [hnx]; exact hq,by rw [hnx,hcn]; simp only; rw [hfd]; exact hqb,?_⟩
   rw [hnx,hcn]
   simp only
   have hqb':(T m)[(eP (aX (T m)) q).1]?=some qb:=by rw [hfd]; exact hqb
   rw [KM hq,xS hqb']
   refine aEO hA hi1 (by rw [em]; unfold qG; rw [mP,List.length_set]; exact hBq.len) (by rw [em]; unfold tY; rw [gT]; exact hBq.len) fun p hp hk'=>?_
   rw [em] at hp hk'
   exact WA hBq (hW.key _ (hW.tab hmS)) _ _ p hp hk'
theorem aCw {S:List Tb} {l:List Nat} (hl:∀ z,z<l.length→cG S l z≤1000000∧(aR S ((l[z]?).getD 0)).cols.length≤1000) {v:Vw} (hc:∀ e∈v.cond,MS S l e) {R Q:List V} {i:Nat} (hi:i+1=l.length) (h:aCu S l i R Q):lE v R=lE v Q:=by
 unfold lE
 congr 1
 rw [Bool.eq_iff_iff,List.any_eq_true,List.any_eq_true]
 have hs:∀ e∈v.cond,qT R e=qT Q e:=fun e he=>by
  unfold qT
  rw [CG (r:=R) (r':=Q) (by rw [h.lr,h.lq]) e (fun c hcc=>by
   obtain ⟨z,q,hz,e1,e2,e3⟩:=UM hl (hc e he) c hcc
   rw [e1,Int.toNat_natCast]
   exact h.eq z q hz (by omega) e2 e3)]
 constructor
 ·rintro ⟨e,he,hn⟩
  exact ⟨e,he,by rw [← hs e he]; exact hn⟩
 ·rintro ⟨e,he,hn⟩
  exact ⟨e,he,by rw [hs e he]; exact hn⟩
theorem ZH {S:List Tb} {T:Nat→List Bk} {blocks most:Nat} (hW:SmyW S T blocks most) (hb:blocks*most≤1000) {v:Vw} {l:List Nat} (hv:JN S v l) (hc:∀ e∈v.cond,MS S l e) :
  iZ (zF S (jO S T) l v) (jO S T ((l[0]?).getD 0)).length=pU S T l v (T ((l[0]?).getD 0)):=by
 have hG:=OU hW hb
 obtain ⟨hlt,hll⟩:=cK hv.ch
 have h3:=hv.len
 have hl0:l[0]?=some l[0]:=gE (by omega)
 rw [hl0,Option.getD_some]
 have hoff:=GK hW.fill hlt (by omega)
 rw [sD,HF]
 refine DR _ _ _ fun n hn b hbb=>?_
 obtain ⟨k,hk,_,_,hA⟩:=ZG hW hG hv.ch hl0 hn hbb v.path.length (Nat.le_refl _)
 unfold zF CN
 exact aCw hoff hc (by omega) hA
theorem DQ (L:List Int) :
  Cf Es 5 [.d (.sl (aD L))] [] (.d (.bool true)) []:=by
 refine cI bM (fn:=Tryz.f5) rfl ?_
 have hpl:=eG (KG L 0 (by omega))
 obtain ⟨N,hN⟩:∃ N,N=(1+aS L 0 3).toNat:=⟨_,rfl⟩
 have hn3:=bB L 0 (n:=3) (by omega)
 rw [← hN] at hpl
 have hN3:N≤3:=by omega
 have hN1:0<N:=by omega
 have hbl:=rX L (0+1) N
 have hfree:=eG (aBq (bS L (0+1) N).1 (by rw [dU]; omega))
 have hSl:(fZ (bS L (0+1) N).1).length=N:=by rw [oP,dU]
 obtain ⟨b,hb⟩:∃ b,b=(bS L (0+1) N).2:=⟨_,rfl⟩
 have hW:=HW L N (by omega) 4 5 b (by omega) (by omega) (by omega)
 have hsu:=eG (HL L (fZ (bS L (0+1) N).1) hW.fill hW.dec 4 5 (by omega) (by omega) (by omega) b (by omega))
 have hpos:=(AI L hW.fill (blocks:=4) (by omega) (most:=5) (a:=b) (fZ (bS L (0+1) N).1).length).1
 have hMade:=HO L (0+1) N
 have hNm:=WH L (0+1) N (by omega)
 obtain ⟨S,hS⟩:∃ S,S=fZ (bS L (0+1) N).1:=⟨_,rfl⟩
 rw [← hS] at hW hsu hfree hpos hSl hMade hNm
 rw [← hb] at hpl hbl
 generalize (bS L (0+1) N).1=S0 at *
 obtain ⟨T,e0,hT⟩:∃ T e0,nZ L S 4 5 b S.length=(T,e0):=⟨_,_,rfl⟩
 rw [hT] at hW hsu hpos
 simp only at hW hsu hpos
 clear hS hb hT
 have hSum:=hW.sumok
 have hfn:=AL hW.out
 have hPlain:=EE hW.fill.ok
 have hPlainR:=EF hW.fill.ok
 rw [hW.pln] at hPlain hPlainR
 have hInst:=TR hSum hPlain hW.tg hW.key (fun l hl=>by
  obtain ⟨j,_,rfl⟩:=fE.1 hl
  have:=(hW.sum j).2
  omega)
 rw [hfn] at hInst
 have hview:=eG (SO L e0 (by omega) S (by omega) (by omega) hMade hW.dec hNm)
 obtain ⟨l,hvo⟩:=KA L e0 (by omega) (by omega) hMade hW.dec hNm
 have hcdi:=MV L e0 (by omega) hMade hW.dec hNm hvo.ch
 generalize rU L S e0=vv at *
 obtain ⟨v,e1⟩:=vv
 simp only at hview hvo hcdi
 have hc3:∀ x∈S,x.cols.length≤300:=fun x hx=>by have:=hW.fill.cols x hx; omega
 have hcx:=JK hSum hPlain hc3 hvo
 have hrc:=HB (OU hW (by omega)) hPlainR hvo hcdi
 rw [ZH hW (by omega) hvo hcdi] at hrc
 rw [hfn] at hcx
 have hle:=zS (S:=S) (X:=T) (l:=l) (v:=v) (L:=T ((l[0]?).getD 0))
 have hl0:bD (aX (T ((l[0]?).getD 0)))≤100:=by
  have:=(hW.sum ((l[0]?).getD 0)).2
  omega
 generalize pU S T l v (T ((l[0]?).getD 0))=c at *
 have hh1:=VC (S:=S) (X:=aO T S.length) [⟨v,c⟩] (by simp) (fun _=>c) (fun d hd=>by
  rw [List.mem_singleton] at hd; subst hd; exact hcx)
 have hh2:=VC (S:=S) (X:=aO T S.length) [⟨v,(c:Int)+1⟩] (by simp) (fun _=>c) (fun d hd=>by
  rw [List.mem_singleton] at hd; subst hd; exact hcx)
 have e1':(!([(⟨v,c⟩:Dm)].any fun d=>(c:Int) != d.n))=true:=by simp
 have e2':(!([(⟨v,(c:Int)+1⟩:Dm)].any fun d=>(c:Int) != d.n))=false:=by simp <;> omega
 rw [e1'] at hh1
 rw [e2'] at hh2
 have hIl:(aO (jO S T) S.length).length=S.length:=dR ..
 generalize aO (jO S T) S.length=I at *
 generalize aO T S.length=X at *
 have hwc:=wI (n:=(c:Int)+1)
 clear hSum hW hvo hPlain hPlainR hcdi
 simp [aQ] at hpl ⊢
 (repeat' first|contradiction|exact .ok|apply And.intro|intro _|(apply gc<;>simp+contextual))
 refine aH [15] hpl (by simp [aD]) (by simp) ?_
 simp
 (repeat' first|contradiction|exact .ok|apply And.intro|intro _|(apply gc<;>simp+contextual))
 refine aA hfree (by simp [aN]) ?_
 simp [aN]
 (repeat' first|contradiction|exact .ok|apply And.intro|intro _|(apply gc<;>simp+contextual))
 simp [aQ,aN] at hsu hview
 refine aH [15] hsu (by simp) (by simp) ?_
 simp [cP]
 (repeat' first|contradiction|exact .ok|apply And.intro|intro _|(apply gc<;>simp+contextual))
 refine aH [15] hview (by simp) (by simp) ?_
 simp [Vw.a,Vw.c]
 (repeat' first|contradiction|exact .ok|apply And.intro|intro _|(apply gc<;>simp+contextual))
 refine aA hInst (by simp [aN,cP]) ?_
 simp [dT]
 (repeat' first|contradiction|exact .ok|apply And.intro|intro _|(apply gc<;>simp+contextual))
 refine aA hcx (by simp [aN,cP,Vw.a,Vw.c]) ?_
 simp
 (repeat' first|contradiction|exact .ok|apply And.intro|intro _|(apply gc<;>simp+contextual))
 refine aA hrc (by simp [aN,dT,Vw.a,Vw.c]) ?_
 simp
 (repeat' first|contradiction|exact .ok|apply And.intro|intro _|(apply gc<;>simp+contextual[hwc]))
 refine aA hh1 (by simp [aN,cP,Dm.c]) ?_
 simp [hwc]
 (repeat' first|contradiction|exact .ok|apply And.intro|intro _|(apply gc<;>simp+contextual[hwc]))
 refine aA hh2 (by simp [aN,cP,Dm.c]) ?_
 simp
 all_goals exact gz
end Go.Proofs.Tryz
