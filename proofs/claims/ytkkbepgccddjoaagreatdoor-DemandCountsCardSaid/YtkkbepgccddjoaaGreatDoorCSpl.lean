import Derived.Test.YtkkbepgccddjoaaGreatDoorCMvz
import Derived.Test.YtkkbepgccddjoaaGreatDoorCSmc
import Derived.Test.YtkkbepgccddjoaaGreatDoorCRwc
import Derived.Test.YtkkbepgccddjoaaGreatDoorCRpa
import Derived.Test.YtkkbepgccddjoaaGreatDoorPat
import Derived.Test.YtkkbepgccddjoaaGreatDoorSut
set_option linter.all false
namespace Go.Proofs.Tryz
open Go.Ab
set_option maxRecDepth 100000
set_option maxHeartbeats 4000000
inductive MS (S:List Tb) (l:List Nat):Ex→Prop
 | atom (z:Nat) (a:At) (hz:z<l.length) (h:vJ (aR S l[z]) a):MS S l (a.ex.shift (cG S l z))
 | no (x:Ex) (h:MS S l x):MS S l (.mk 24 0 0 [] 0 [x])
 | both (o:Int) (x y:Ex) (ho:o=22∨o=23) (hx:MS S l x) (hy:MS S l y):MS S l (.mk o 0 0 [] 0 [x,y])
theorem MT (L:List Int) {S:List Tb} (hS:∀ x∈S,qE x) {l:List Nat} (hl:∀ k∈l,k<S.length) (h0:0<l.length) (i:Nat):MS S l (dV L S l i).1:=by
 have hnx:=bB L i (n:=l.length) (by omega)
 obtain ⟨z,hz⟩:∃ z,z=(aS L i l.length).toNat:=⟨_,rfl⟩
 have hzl:z<l.length:=by omega
 have hk:=hl l[z] (List.getElem_mem hzl)
 have hm:qE (aR S l[z]):=by unfold aR; rw [gE hk]; exact hS _ (List.getElem_mem hk)
 have hat:=vK L hm (i+1)
 unfold dV
 simp only
 rw [← hz,gE hzl,Option.getD_some]
 split
 ·exact .no _ (.atom z _ hzl hat)
 ·exact .atom z _ hzl hat
theorem MU (L:List Int) {S:List Tb} (hS:∀ x∈S,qE x) {l:List Nat} (hl:∀ k∈l,k<S.length) (h0:0<l.length) (i:Nat):∀ n,0<n→MS S l (mK L S l i n).1
 | 0,h=>absurd h (by omega)
 | 1,_=>MT L hS hl h0 i
 | n+2,_=>by
   have h1:=MU L hS hl h0 i (n+1) (by omega)
   have v2:=bB L (dV L S l (mK L S l i (n+1)).2).2 (n:=2) (by omega)
   rw [mK]
   exact .both _ _ _ (by omega) h1 (MT L hS hl h0 _)
theorem MV (L:List Int) (a:Nat) {S:List Tb} (h0:0<S.length) (hS:∀ x∈S,qE x) (hd:NJ S) (hnm:∀ k,k<S.length→mV S (FD S k)=k) {l:List Nat} (hl:dW S (rU L S a).1=some l):∀ e∈(rU L S a).1.cond,MS S l e:=by
 have hnx:=bB L a (n:=S.length) (by omega)
 revert hl
 unfold rU
 simp only
 obtain ⟨k0,hk0⟩:∃ k0,k0=(aS L a S.length).toNat:=⟨_,rfl⟩
 rw [← hk0]
 have hk:k0<S.length:=by omega
 obtain ⟨⟨lc,hlc⟩,hpl,hpi⟩:=pX L hd S.length k0 (a+1) hk hk
 generalize nM L S S.length k0 (a+1)=P at *
 have hch:∀ K,dW S ⟨FD S k0,P.1,K⟩=some (k0::lc):=fun K=>by
  unfold dW
  have h1:(0:Int)≤mV S (FD S k0):=by rw [hnm k0 hk]; omega
  simp only
  rw [if_pos h1,hnm k0 hk,Int.toNat_natCast,hlc]
  rfl
 rw [hch,hch,Option.getD_some]
 rintro ⟨⟩
 obtain ⟨hlt,hll⟩:=cK (hch [])
 split
 ·rename_i hn
  intro e he
  rw [List.mem_singleton] at he
  subst he
  exact MU L hS hlt (by simp) _ _ hn
 ·intro e he; simp at he
mutual
theorem CG {r r':List V} (hl:r.length=r'.length):∀ (e:Ex),(∀ c,e.has c→r[c.toNat]?=r'[c.toNat]?)→aG e r=aG e r'
 | .mk o c n t g ks,h=>by
   have hk:=tK hl ks (fun z hz=>h z (by rw [Ex.has]; exact .inr hz))
   rw [aG,aG,hk]
   by_cases h5:o=5
   ·subst h5
    rw [hl,h g (by rw [Ex.has]; exact .inl ⟨rfl,rfl⟩)]
   ·simp only [if_neg h5]
theorem tK {r r':List V} (hl:r.length=r'.length):∀ (ks:List Ex),(∀ c,eN ks c→r[c.toNat]?=r'[c.toNat]?)→bJ ks r=bJ ks r'
 | [],_=>by rw [bJ,bJ]
 | e::es,h=>by
   rw [bJ,bJ,CG hl e (fun z hz=>h z (by rw [eN]; exact .inl hz)),tK hl es (fun z hz=>h z (by rw [eN]; exact .inr hz))]
end
theorem aFE {a:At} {d c:Int} (h:-1000000000≤a.col+d∧a.col+d≤1000000000) (hc:(a.ex.shift d).has c):c=a.col+d:=by
 rw [oQ h] at hc
 have h1:=(mF _ _).2 hc
 rw [vY,List.mem_singleton] at h1
 exact h1
theorem UM {S:List Tb} {l:List Nat} (hS:∀ z,z<l.length→cG S l z≤1000000∧(aR S ((l[z]?).getD 0)).cols.length≤1000) {e:Ex} (h:MS S l e):∀ c,e.has c→∃ (z q:Nat) (hz:z<l.length),c=((cG S l z+q:Nat):Int)∧q<(aR S l[z]).cols.length∧cU (aR S l[z]) q=false:=by
 induction h with
 | atom z a hz ha =>
   intro c hc
   obtain ⟨h1,h2⟩:=hS z hz
   obtain ⟨c0,c1⟩:=ha.col
   rw [gE hz,Option.getD_some] at h2
   have:=aFE (by omega) hc
   refine ⟨z,a.col.toNat,hz,by omega,by omega,?_⟩
   rw [Int.toNat_of_nonneg c0]
   exact ha.key
 | no x _ ih =>
   intro c hc
   rw [Ex.has,eN,eN] at hc
   rcases hc with ⟨h,_⟩ | h | h
   ·cases h
   ·exact ih c h
   ·cases h
 | both o x y ho _ _ ihx ihy =>
   intro c hc
   rw [Ex.has,eN,eN,eN] at hc
   rcases hc with ⟨h,_⟩ | h | h | h
   ·omega
   ·exact ihx c h
   ·exact ihy c h
   ·cases h
structure tA (S:List Tb) (T:Nat→List (List V)):Prop where
 fill:iP S
 key:∀ x∈S,iV x
 tg:∀ x∈S,∀ g∈x.fk,0≤tgt S g∧eR S g<S.length
 len:∀ k,(T k).length≤1000
 row:OP S T S.length
def gS (T:Nat→List (List V)) (k n:Nat):List V:=((T k)[n]?).getD []
def nxR (S:List Tb) (T:Nat→List (List V)) (k f n:Nat):Nat:=match (aR S k).fk[f]? with
 | some g=>(KB (eA (aR S (eR S g)).pr).toNat (eA g.cols).toNat (T (eR S g)) (gS T k n)).toNat
 | none=>0
def qV (S:List Tb) (T:Nat→List (List V)) (l:List Nat) (path:List Int) (n:Nat):Nat→List V×Nat
 | 0=>(gS T ((l[0]?).getD 0) n,n)
 | i+1=>((qV S T l path n i).1++gS T ((l[i+1]?).getD 0) (nxR S T ((l[i]?).getD 0) ((path[i]?).getD 0).toNat (qV S T l path n i).2),nxR S T ((l[i]?).getD 0) ((path[i]?).getD 0).toNat (qV S T l path n i).2)
theorem OS {a b:Int} (h:jK a=jK b):a=b:=by
 unfold jK at h
 exact congrArg V.n h
theorem aGB {S:List Tb} {T:Nat→List (List V)} (h:tA S T) {k n f:Nat} {g:Fk} (hk:k<S.length) (hg:(aR S k).fk[f]?=some g) (hn:n<(T k).length) :
  ∃ q:Nat,KB (eA (aR S (eR S g)).pr).toNat (eA g.cols).toNat (T (eR S g)) (gS T k n)=(q:Int)∧q<(T (eR S g)).length∧nxR S T k f n=q∧(gS T k n)[(eA g.cols).toNat]?=some (jK (1+q)):=by
 have hx:aR S k∈S:=by unfold aR; rw [gE hk]; exact List.getElem_mem hk
 have hgm:=List.mem_of_getElem? hg
 have hr:(T k)[n]?=some (gS T k n):=by unfold gS; rw [gE hn]; rfl
 have hok:=h.row k hk n _ hr
 obtain ⟨q,f1,f2⟩:=hok.fk g hgm
 obtain ⟨h0,hto⟩:=h.tg _ hx g hgm
 have hxo:aR S (eR S g)∈S:=by unfold aR; rw [gE hto]; exact List.getElem_mem hto
 obtain ⟨c,c1,c2,_⟩:=(h.key _ hx).fk g hgm
 obtain ⟨p,p1,p2⟩:=(h.key _ hxo).pr
 have hp0:(eA (aR S (eR S g)).pr).toNat=p:=by rw [p1]; rfl
 have hc0:(eA g.cols).toNat=c:=by rw [c1]; rfl
 have hZ:KB (eA (aR S (eR S g)).pr).toNat (eA g.cols).toNat (T (eR S g)) (gS T k n)=(q:Int):=by
  unfold KB
  rw [hc0,hp0,if_pos (by rw [hok.len]; exact c2)]
  rw [hc0] at f1
  have hrq:(T (eR S g))[q]?=some ((T (eR S g))[q]'f2):=gE f2
  have hh:∀ i y,(T (eR S g))[i]?=some y→oR p c (gS T k n) y=decide (i=q):=fun i y hy=>by
   have hoq:=h.row _ hto i y hy
   have h1:=hoq.pr
   rw [hp0] at h1
   unfold oR
   rw [h1,f1]
   have hlt:p<y.length:=by rw [hoq.len]; exact p2
   simp only [hlt,decide_true,Option.getD_some,Bool.true_and]
   rw [Bool.eq_iff_iff]
   simp only [Bool.and_eq_true,V.beq_iff,decide_eq_true_eq]
   constructor
   ·rintro ⟨e,_⟩
    have:=OS e
    omega
   ·rintro rfl
    exact ⟨by rw [Int.add_comm],rfl⟩
  have:=pZ (p:=oR p c (gS T k n)) (k:=0) hrq (by rw [hh q _ hrq]; simp) (fun i y hi hy=>by rw [hh i y hy]; simp; omega)
  rw [this]; simp
 refine ⟨q,hZ,f2,?_,f1⟩
 unfold nxR
 rw [hg]
 simp only
 rw [hZ]; simp
theorem wH {S:List Tb} {T:Nat→List (List V)} (h:tA S T) {l:List Nat} {path:List Int} {n i k m:Nat} (hi:i<path.length) (hk:l[i]?=some k) (hm:l[i+1]?=some m) (hst:fC S k path[i]=some m) (hkS:k<S.length) (hr:(qV S T l path n i).2<(T k).length) :
  ∃ (f q:Nat) (g:Fk),path[i]=(f:Int)∧(aR S k).fk[f]?=some g∧tgt S g=(m:Int)∧eR S g=m∧KB (eA (aR S m).pr).toNat (eA g.cols).toNat (T m) (gS T k (qV S T l path n i).2)=(q:Int)∧q<(T m).length∧(gS T k (qV S T l path n i).2)[(eA g.cols).toNat]?=some (jK (1+q)) ∧
    qV S T l path n (i+1)=((qV S T l path n i).1++gS T m q,q):=by
 unfold fC at hst
 split at hst
 ·rename_i h0
  split at hst
  ·rename_i g hg
   split at hst
   ·rename_i ht
    cases hst
    obtain ⟨q,e1,e2,e3,e4⟩:=aGB h hkS hg hr
    refine ⟨path[i].toNat,q,g,by omega,hg,by unfold eR; omega,rfl,e1,e2,e4,?_⟩
    rw [qV,hk,hm,gE hi]
    simp only [Option.getD_some]
    rw [e3]
   ·cases hst
  ·cases hst
 ·cases hst
theorem OT {S:List Tb} {T:Nat→List (List V)} (h:tA S T) {v:Vw} {l:List Nat} (hc:dW S v=some l) {n k0:Nat} (h0:l[0]?=some k0) (hlt:∀ k∈l,k<S.length) (hn:n<(T k0).length):∀ i,i≤v.path.length→∃ k,l[i]?=some k∧(qV S T l v.path n i).2<(T k).length∧(qV S T l v.path n i).1.length≤20*(i+1):=by
 have hrow:∀ k r,k<S.length→r<(T k).length→(gS T k r).length≤20:=fun k r hk hr=>by
  have hx:aR S k∈S:=by unfold aR; rw [gE hk]; exact List.getElem_mem hk
  have:=(h.row k hk r (gS T k r) (by unfold gS; rw [gE hr]; rfl)).len
  rw [this]
  exact h.fill.cols _ hx
 intro i
 induction i with
 | zero =>
   intro _
   refine ⟨k0,h0,hn,?_⟩
   rw [qV,h0,Option.getD_some]
   exact hrow k0 n (hlt _ (List.mem_of_getElem? h0)) hn
 | succ i ih =>
   intro hi
   obtain ⟨k,hk,hr,hl⟩:=ih (by omega)
   obtain ⟨m,k',hm,hk2,hst⟩:=jX hc i (by omega)
   rw [hk] at hk2
   cases hk2
   obtain ⟨f,q,g,_,_,_,_,_,hq,_,hnx⟩:=wH h (n:=n) (by omega) hk hm hst (hlt _ (List.mem_of_getElem? hk)) hr
   refine ⟨m,hm,by rw [hnx]; exact hq,?_⟩
   rw [hnx]
   simp only
   have:=hrow m q (hlt _ (List.mem_of_getElem? hm)) hq
   rw [List.length_append]
   omega
theorem HN (S:List Tb) (hS:∀ x∈S,x.ok) (l:List Nat) (hl:l.length≤100000) (hr:∀ k∈l,k<S.length) (c:Int) (h0:0≤c) (hc:c<9223372036854775807) :
  Cf En 200 [aN S,.d (.sl (aD (aJ l))),.d (.int .i64 c)] [] (.tup [.d (.int .i64 (iF S 0 l c).1),.d (.int .i64 (iF S 0 l c).2.1),.d (.bool (iF S 0 l c).2.2)]) []:=by
 refine cI aW (fn:=Tryz.f200) rfl ?_
 have hnl:=cH l
 have hga:∀ i (h:i<l.length),∀ h',(aD (aJ l))[i]'h'=[.int .i64 (l[i]:Int)]:=fun i h h'=>by simp [aD,aJ]
 generalize hZ:aD (aJ l)=Z at *
 simp [aN]
 (repeat' first|contradiction|exact .ok|apply And.intro|intro _|(apply gc<;>simp+contextual))
 refine aL aW (fun y:Nat×Int=>{ s:=cE [(1,.d (.sl Z)),(2,.d (.int .i64 y.2)),(3,.ptr 3 0 0),(9,.d (.int .i64 y.1))],b:=cC [(3,3,.var [.d (.sl (S.map Tb.c))])] })
  (fun y=>y.1≤l.length∧(0≤y.2∧y.2<9223372036854775807)∧iF S 0 l c=iF S y.1 (l.drop y.1) y.2) (fun y=>l.length - y.1) (0,c) ⟨by simp,⟨h0,hc⟩,by simp⟩
  (sM _ [(3,3,_)] (by simp [aB,Blk.live]) (by simp [aB])) ?_
 rintro ⟨i,d⟩ ⟨hi,⟨hd0,hd⟩,hp⟩
 simp only at hi hd hp hd0
 by_cases hlt:i<l.length
 ·have hw:=wI (n:=(i:Int)+1)
  have hk:=hr l[i] (List.getElem_mem hlt)
  rw [List.drop_eq_getElem_cons hlt,iF] at hp
  have htab:aR S l[i]=S[l[i]]:=by unfold aR; rw [gE hk]; rfl
  rw [htab] at hp
  have hcl:=(hS _ (List.getElem_mem hk)).cols
  have hgl:=hga i hlt
  have hiZ:i<Z.length:=by omega
  generalize hkk:l[i]=k at *
  obtain ⟨x,hx⟩:∃ x,x=S[k]:=⟨_,rfl⟩
  have hgx:∀ h,S[k]'h=x:=fun _=>hx.symm
  rw [← hx] at hp hcl
  by_cases hdc:d<x.cols.length
  ·have hdt:decide (0≤d)=true:=by simpa using hd0
   rw [if_pos hdc,hdt] at hp
   rw [hp]
   simp [hnl,hlt,hd0,hgl,hk,hgx,Tb.c,hdc]
   (repeat' first|contradiction|exact .ok|apply And.intro|intro _|(apply gc<;>simp+contextual[hdc]))
  ·rw [if_neg hdc] at hp
   have hwd:=wI (n:=d - x.cols.length)
   simp [hnl,hlt,hd0,hgl,hk,hgx,Tb.c,hdc]
   (repeat' first|contradiction|exact .ok|apply And.intro|intro _|(apply gc<;>simp+contextual[hdc]))
   refine ⟨(i+1,d - x.cols.length),⟨by simp only; omega,⟨by simp only; omega,by simp only; omega⟩,hp⟩,?_,by simp; omega⟩
   exact sM _ [(3,3,_)] (by simp [aB,Blk.live]) (by simp [aB,hw,hwd])
 obtain rfl:i=l.length:=by omega
 rw [List.drop_length,iF] at hp
 rw [hp]
 simp [hnl]
 all_goals exact gz
def ZO:AV:=.tup [(At.mk 0 0 nulV).a,.d (.bool false)]
theorem PF (x:Tb) {o:Int} (ho:o=22∨o=23∨o=24) (c:Int) (v:V):oA x ⟨c,o,v⟩=false:=by
 unfold oA
 rcases ho with rfl | rfl | rfl <;> simp
theorem aCG (x:Tb) (hx:x.ok) (k:Ex):Cf En 201 [x.a,(Ex.mk 24 0 0 [] 0 [k]).a] [] ZO []:=by
 have hs:=yE x hx ⟨OG k,24,nulV⟩
 rw [PF x (by omega)] at hs
 refine cI aW (fn:=Tryz.f201) rfl ?_
 obtain ⟨ko,kc,kn,kt,kg,kk⟩:=k
 simp [OG,Ex.a,Ex.c,dZ,At.a,At.c,nulV,Tb.a,Tb.c,ZO] at hs ⊢
 (repeat' first|contradiction|exact .ok|apply And.intro|intro _|(apply gc<;>simp+contextual))
 refine aP hs ?_
 simp
 all_goals exact gz
theorem aCH (x:Tb) (hx:x.ok) (o:Int) (ho:o=22∨o=23) (k u:Ex) (q:Nat) (hq:u.few q=true):Cf En 201 [x.a,(Ex.mk o 0 0 [] 0 [k,u]).a] [] ZO []:=by
 have hs:=yE x hx ⟨OG k,o,vlR u⟩
 rw [PF x (by omega)] at hs
 have hv:=SV u q hq
 generalize vlR u=W at *
 have n5:¬ o=5:=by omega
 refine cI aW (fn:=Tryz.f201) rfl ?_
 obtain ⟨ko,kc,kn,kt,kg,kk⟩:=k
 have hul:=Ex.clen u
 have hut:=Ex.ctake u
 simp [OG,Ex.a,Ex.c,dZ,At.a,At.c,V.a,Tb.a,Tb.c,ZO,nulV,n5,hul,hut] at hs hv ⊢
 (repeat' first|contradiction|exact .ok|apply And.intro|intro _|(apply gc<;>simp+contextual[n5]))
 refine aP hv ?_
 simp
 (repeat' first|contradiction|exact .ok|apply And.intro|intro _|(apply gc<;>simp+contextual))
 refine aP hs ?_
 simp
 all_goals exact gz
end Go.Proofs.Tryz
