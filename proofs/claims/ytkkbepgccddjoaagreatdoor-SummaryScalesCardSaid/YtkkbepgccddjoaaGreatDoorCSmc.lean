import Derived.Test.YtkkbepgccddjoaaGreatDoorCClo
import Derived.Test.YtkkbepgccddjoaaGreatDoorCKys
import Derived.Test.YtkkbepgccddjoaaGreatDoorCSmR
import Derived.Test.YtkkbepgccddjoaaGreatDoorPlc
import Derived.Test.YtkkbepgccddjoaaGreatDoorSve
import Derived.Test.YtkkbepgccddjoaaGreatDoorCShr
import Derived.Test.YtkkbepgccddjoaaGreatDoorSut
set_option linter.all false
namespace Go.Proofs.Tryz
open Go.Ab
set_option maxRecDepth 100000
set_option maxHeartbeats 4000000
structure VJ (S:List Tb) (l:List Int):Prop where
 nd:l.Nodup
 rng:∀ z∈l,0≤z∧z<S.length
 bef:∀ (o:Nat) (h:o<l.length),∀ f∈LF S l[o].toNat,tgt S f∈l.take o
theorem xP (S:List Tb):VJ S []:=⟨List.nodup_nil,fun z h=>(by cases h),fun o h=>absurd h (by simp)⟩
theorem VK {α:Type} {p:α→Bool}:∀ {l:List α} {i:Nat},0≤aV p l i→∃ (j:Nat) (x:α),aV p l i=(i:Int)+j∧l[j]?=some x∧p x=true
 | [],i,h=>by rw [aV] at h; omega
 | x::l,i,h=>by
   rw [aV] at h ⊢
   split
   ·rename_i hx; exact ⟨0,x,by simp,rfl,hx⟩
   ·rename_i hx
    rw [if_neg hx] at h
    obtain ⟨j,y,a,b,c⟩:=VK h
    exact ⟨j+1,y,by rw [a]; push_cast; omega,by simpa using b,c⟩
theorem aBB {S:List Tb} {done:Nat→Bool} (h:0≤jQ S done):∃ k:Nat,jQ S done=k∧k<S.length∧DE S done k=true:=by
 unfold jQ at h ⊢
 obtain ⟨j,x,a,b,c⟩:=VK h
 rw [bE] at b
 split at b <;> simp only [Option.some.injEq,reduceCtorEq] at b
 rename_i hj
 subst b
 exact ⟨j,by rw [a]; simp,hj,c⟩
theorem OD {S:List Tb} (hT:∀ k,∀ f∈LF S k,0≤tgt S f):∀ (n:Nat) {done:Nat→Bool} {out:List Int},(∀ k:Nat,done k=true↔(k:Int)∈out)→VJ S out→VJ S (lD S n done out).1
 | 0,_,_,_,h=>h
 | n+1,done,out,hd,h=>by
   rw [lD]
   split
   ·exact xP S
   ·rename_i hz
    obtain ⟨k,hk,hkl,hr⟩:=aBB (S:=S) (done:=done) (by omega)
    rw [hk]
    unfold DE at hr
    rw [Bool.and_eq_true,Bool.not_eq_true',List.all_eq_true] at hr
    have hno:(k:Int) ∉ out:=fun hm=>by
     have:=(hd k).2 hm
     rw [hr.1] at this; cases this
    refine OD hT n (fun j=>?_) ⟨?_,fun z hzm=>?_,fun o ho f hf=>?_⟩
    ·unfold dnO
     rw [Bool.or_eq_true,hd j,decide_eq_true_eq,List.mem_append,List.mem_singleton]
    ·rw [List.nodup_append]
     refine ⟨h.nd,by simp,fun a ha b hb e=>?_⟩
     rw [List.mem_singleton] at hb
     subst hb e
     exact hno ha
    ·rcases List.mem_append.1 hzm with hm | hm
     ·exact h.rng z hm
     ·rw [List.mem_singleton] at hm; subst hm; omega
    ·rcases Nat.lt_or_ge o out.length with ho2 | ho2
     ·rw [List.getElem_append_left ho2] at hf
      rw [List.take_append_of_le_length (by omega)]
      exact h.bef o ho2 f hf
     ·obtain rfl:o=out.length:=by simp at ho; omega
      rw [List.getElem_append_right (Nat.le_refl _)] at hf
      simp only [Nat.sub_self,List.getElem_cons_zero,Int.toNat_natCast] at hf
      rw [List.take_left']
      ·have h0:=hT k f hf
       have hdn:=hr.2 f hf
       have:=(hd (tgt S f).toNat).1 hdn
       rwa [Int.toNat_of_nonneg h0] at this
      ·rfl
theorem VL (S:List Tb):VJ S (gB S).1:=by
 rw [wC]
 split
 ·exact xP S
 ·rename_i h
  exact OD (fun k=>DG (by simpa using h) k) _ (fun k=>by simp) (xP S)
theorem GV (S:List Tb):∀ (n:Nat) (done:Nat→Bool) (out:List Int),(lD S n done out).1.length≤n+out.length
 | 0,_,out=>by simp [lD]
 | n+1,done,out=>by
   rw [lD]
   split
   ·simp
   ·have:=GV S n (dnO done (jQ S done)) (out++[jQ S done])
    simp at this ⊢
    omega
theorem OE (S:List Tb):(gB S).1.length≤S.length:=by
 rw [wC]
 split
 ·simp
 ·have:=GV S S.length (fun _=>false) []
  simpa using this
def kG (L:List Int) (i:Nat) (k:Int) (b:Bool):V:=if b=true then ((bF k)[(aS L i (min (bF k).length 4:Nat)).toNat]?).getD nulV else gQ L i k
theorem OW (L:List Int) (i:Nat) (hi:i≤1000000) (k:Int) (hk:k=1∨k=2∨k=3) (b:Bool) :
  Cf En 42 [.ptr 1000000 0 0,.d (.int .i64 k),.d (.bool b)] [aQ L i] (kG L i k b).a [aQ L (i+1)]:=by
 cases b with
 | false=>exact zW L i hi k hk
 | true =>
 have hl:(bF k).length=13∨(bF k).length=3∨(bF k).length=8:=by
  rcases hk with rfl | rfl | rfl <;> decide
 obtain ⟨m,hm⟩:∃ m:Nat,m=min (bF k).length 4:=⟨_,rfl⟩
 have hm4:3≤m∧m≤4∧m≤(bF k).length:=by omega
 have hmin:(if (4:Int)<((bF k).length:Int) then (4:Int) else ((bF k).length:Int))=m:=by split <;> omega
 have e0:kG L i k true=((bF k)[(aS L i (m:Nat)).toNat]?).getD nulV:=by unfold kG; rw [if_pos rfl,hm]
 have hn:=bB L i (n:=(m:Int)) (by omega)
 have hlt:(aS L i (m:Nat)).toNat<(bF k).length:=by omega
 have hg:(bF k)[(aS L i (m:Nat)).toNat]?=some (bF k)[(aS L i (m:Nat)).toNat]:=gE hlt
 have ht:=dH L i (by omega) (m:Nat) (by omega) (by omega)
 have e1:kG L i k true=(bF k)[(aS L i (m:Nat)).toNat]:=by rw [e0,hg]; rfl
 have h0:0≤aS L i (m:Int):=hn.1
 rw [e1]
 refine cI aW (fn:=Tryz.f42) rfl ?_
 simp [aQ]
 (repeat' first|contradiction|exact .ok|apply And.intro|intro _|(apply gc<;>simp+contextual))
 refine aP (PQ k) ?_
 simp [hmin]
 (repeat' first|contradiction|exact .ok|apply And.intro|intro _|(apply gc<;>simp+contextual))
 try simp [hmin]
 refine aH [1000000] ht (by simp [aQ]) (by simp) ?_
 simp [aQ,h0,hlt,V.c]
 (repeat' first|contradiction|exact .ok|apply And.intro|intro _|(apply gc<;>simp+contextual))
 all_goals simp [V.a]
structure SOk (S:List Tb):Prop where
 len:S.length≤1000
 ok:∀ x∈S,x.ok
 un:∀ x∈S,∀ l∈x.un,l.length≤1000
 ch:∀ x∈S,∀ e∈x.ch,DJ e
def ZU (x:Tb) (e:Ex):Int×Int:=tO (x.cols.map Col.t) e
def ED (S:List Tb):Int:=dY fN ZU S
def mR (S:List Tb):Bool:=OH (ED S) S
theorem aCN {S:List Tb} (h:SOk S):Cf Es 104 [aN S] [] (.d (.int .i64 (ED S))) [] :=
 aFd S h.len h.ok h.un ZU fun x hx e he=>WM (by rw [List.length_map]; exact (h.ok x hx).cols) (h.ch x hx e he).few
theorem aCO {S:List Tb} (h:SOk S):Cf Es 80 [aN S] [] (.d (.int .i64 (ED S))) [] :=
 aCP S h.len h.ok h.un ZU fun x hx e he=>eG (WN (by rw [List.length_map]; exact (h.ok x hx).cols) (h.ch x hx e he).few)
theorem EE {S:List Tb} (h:SOk S):Cf Es 59 [aN S] [] (.d (.bool (mR S))) []:=aEq S h.len h.ok h.ch ZU (aCN h)
theorem EF {S:List Tb} (h:SOk S):Cf Es 61 [aN S] [] (.d (.bool (mR S))) []:=aEr S h.len h.ok h.ch ZU (aCO h)
theorem aBn (a:At):a.ex.nodes≤3:=by
 unfold At.ex fH bT
 repeat' split
 all_goals simp [Ex.nodes,aU]
theorem rT (L:List Int) (x:Tb) (e:Nat):(OI L x e).1.un=x.un∧(OI L x e).1.n=x.n∧(OI L x e).1.cols=x.cols∧(OI L x e).1.pr=x.pr∧(OI L x e).1.fk=x.fk∧((OI L x e).1.ch=x.ch∨∃ a,(OI L x e).1.ch=[(lC L x a).1.ex]):=by
 unfold OI
 split
 ·exact ⟨rfl,rfl,rfl,rfl,rfl,.inr ⟨_,rfl⟩⟩
 ·exact ⟨rfl,rfl,rfl,rfl,rfl,.inl rfl⟩
theorem NU (L:List Int) (a n:Nat) (hn:n≤10):SOk (bS L a n).1:=by
 refine ⟨by rw [dU]; omega,fun x hx=>(GC hx).ok,fun x hx l hl=>?_,fun x hx e he=>?_⟩
 ·obtain ⟨j,b,rfl⟩:=lT hx
  have h:=(rT L (jB L j b) (FG L (b+1+2*eI L b) j)).1
  unfold qD at hl
  rw [h] at hl
  cases hl
 ·obtain ⟨j,b,rfl⟩:=lT hx
  have h:=(rT L (jB L j b) (FG L (b+1+2*eI L b) j)).2.2.2.2.2
  unfold qD at he
  rcases h with h | ⟨c,h⟩
  ·rw [h] at he
   cases he
  ·rw [h] at he
   obtain rfl:=List.mem_singleton.1 he
   exact ⟨RZ (by have:=(vK L (kE L j b) c).len; omega) 0 (by omega),by have:=aBn (lC L (jB L j b) c).1; omega⟩
def Tb.free (x:Tb):Tb:=⟨x.n,x.cols,x.pr,x.un,x.fk,[]⟩
def fZ (S:List Tb):List Tb:=S.map Tb.free
@[simp] theorem oP (S:List Tb):(fZ S).length=S.length:=List.length_map _
theorem aBo {S:List Tb} (h:SOk S):SOk (fZ S):=by
 refine ⟨by rw [oP]; exact h.len,fun x hx=>?_,fun x hx l hl=>?_,fun x hx e he=>?_⟩
 ·obtain ⟨y,hy,rfl⟩:=List.mem_map.1 hx
  have o:=h.ok y hy
  exact ⟨o.cols,o.pr,o.un,o.fk,by simp [Tb.free],o.fkc⟩
 ·obtain ⟨y,hy,rfl⟩:=List.mem_map.1 hx
  exact h.un y hy l hl
 ·obtain ⟨y,hy,rfl⟩:=List.mem_map.1 hx
  cases he
def FC (S:List Tb) (i:Nat):List Tb:=(S.take i).map Tb.free
theorem aBp {S:List Tb} {i:Nat} (h:i≤S.length):(FC S i).length=i:=by unfold FC; simp; omega
theorem YO {S:List Tb} {i:Nat} (h:i<S.length):FC S (i+1)=FC S i++[S[i].free]:=by unfold FC; rw [bI h,List.map_append]; rfl
theorem YP (S:List Tb):FC S S.length=fZ S:=by simp [FC,fZ]
theorem aBq (S:List Tb) (hl:S.length≤1000):Cf En 8 [aN S] [] (aN (fZ S)) []:=by
 refine cI aW (fn:=Tryz.f8) rfl ?_
 simp [aN]
 (repeat' first|contradiction|exact .ok|apply And.intro|intro _|(apply gc<;>simp+contextual))
 refine aL aW (fun i:Nat=>{ s:=cE [(1,.ptr 1 0 0),(2,.ptr 2 0 0),(3,.ptr 3 0 0),(4,.d (.int .i64 i))],b:=cC [(1,1,.var [.d (.sl (S.map Tb.c))]),(2,2,.var [.nils]),(3,3,.var [.ref 901 0 i 6]),(901,901,.arr 82 6 ((FC S i).map Tb.c) false)] }) (fun i=>i≤S.length) (fun i=>S.length - i) 0 (by simp)
  ((iH 3 901 82 6 0 (cells:=[.nils]) (by simp) rfl (by simp) (by decide) (by decide)).trans (sM _ [(1,1,_),(2,2,_),(3,3,_),(901,901,_)] (by simp [aB,Blk.live,FC,bP]) (by simp [aB]))) ?_
 intro i hi
 have hFl:=aBp hi
 by_cases hlt:i<S.length
 ·obtain ⟨x,hx⟩:∃ u,u=S[i]:=⟨_,rfl⟩
  have hgi:∀ h,S[i]'h=x:=fun _=>hx.symm
  have hw:=wI (n:=(i:Int)+1)
  have hnx:=YO hlt
  rw [← hx] at hnx
  generalize hF:FC S i=F at *
  have htk:(F.map Tb.c).take i=F.map Tb.c:=List.take_of_length_le (by simp [hFl])
  simp [hlt,hgi,Tb.c,hFl,htk,gF (i+1) (by omega) 136 (by decide)]
  (repeat' first|contradiction|exact .ok|apply And.intro|intro _|(apply gc<;>simp+contextual))
  refine ⟨i+1,by omega,?_,by simp; omega⟩
  exact sM _ [(1,1,_),(2,2,_),(3,3,_),(901,23,_)] (by simp [aB,Blk.live,hnx,Tb.c,Tb.free]) (by simp [aB,hw])
 obtain rfl:i=S.length:=by omega
 rw [YP] at *
 have htk:((fZ S).map Tb.c).take S.length=(fZ S).map Tb.c:=List.take_of_length_le (by simp)
 simp [htk]
 all_goals exact gz
def gO (r:List V):List D:=[.sl (r.map V.c)]
def fY (R:List (List V)):List D:=[.sl (R.map gO)]
def dT (I:List (List (List V))):AV:=.agg [.d (.sl (I.map fY))]
def mX (x:Tb) (j:Nat):Col:=(x.cols[j]?).getD ⟨[],1,false⟩
def smC (L:List Int) (x:Tb) (a j:Nat):V:=kG L (a+j) (mX x j).t (mX x j).b
def FA (L:List Int) (x:Tb) (a n:Nat):List V:=aO (fun j=>if j<n then smC L x a j else nulV) x.cols.length
def jK (n:Int):V:=⟨1,n,[]⟩
def eR (S:List Tb) (f:Fk):Nat:=(tgt S f).toNat
def LC (L:List Int) (S:List Tb) (x:Tb) (T:Nat→List (List V)) (b:Nat):Nat→List V→List V
 | 0,r=>r
 | z+1,r=>match x.fk[z]? with
   | some f=>(LC L S x T b z r).set (eA f.cols).toNat (jK (1+aS L (b+z) (T (eR S f)).length))
   | none=>LC L S x T b z r
def vU (L:List Int) (x:Tb) (a k:Nat):List V:=(FA L x a x.cols.length).set (eA x.pr).toNat (jK (k+1))
def JR (L:List Int) (S:List Tb) (x:Tb) (T:Nat→List (List V)) (a k:Nat):List V:=LC L S x T (a+x.cols.length) x.fk.length (vU L x a k)
def zG (x:Tb):Nat:=x.cols.length+x.fk.length
def mG (L:List Int) (S:List Tb) (x:Tb) (T:Nat→List (List V)) (a:Nat):Nat→List (List V)
 | 0=>[]
 | k+1=>mG L S x T a k++[JR L S x T (a+k*zG x) k]
theorem CV (L:List Int) (x:Tb) (a n:Nat):(FA L x a n).length=x.cols.length:=dR _ _
theorem vV (L:List Int) (S:List Tb) (x:Tb) (T:Nat→List (List V)) (b:Nat):∀ (z:Nat) (r:List V),(LC L S x T b z r).length=r.length
 | 0,r=>rfl
 | z+1,r=>by
   rw [LC]
   split
   ·rw [List.length_set]; exact vV L S x T b z r
   ·exact vV L S x T b z r
theorem CW (L:List Int) (x:Tb) (a k:Nat):(vU L x a k).length=x.cols.length:=by unfold vU; rw [List.length_set,CV]
theorem aBb (L:List Int) (S:List Tb) (x:Tb) (T:Nat→List (List V)) (a k:Nat):(JR L S x T a k).length=x.cols.length:=by unfold JR; rw [vV,CW]
theorem sP (L:List Int) (S:List Tb) (x:Tb) (T:Nat→List (List V)) (a:Nat):∀ k,(mG L S x T a k).length=k
 | 0=>rfl
 | k+1=>by rw [mG,List.length_append,sP L S x T a k]; rfl
theorem YK {L:List Int} {x:Tb} {a n:Nat} (h:n<x.cols.length):FA L x a (n+1)=(FA L x a n).set n (smC L x a n):=by
 unfold FA
 rw [kR]
 refine bV fun j _=>?_
 by_cases hj:j=n
 ·subst hj; simp
 ·by_cases h2:j<n
  ·simp [hj,h2,show j<n+1 from by omega]
  ·simp [hj,h2,show ¬ j<n+1 from by omega]
theorem YL (L:List Int) (x:Tb) (a:Nat):FA L x a 0=List.replicate x.cols.length nulV:=by
 rw [lY]
 unfold FA
 exact bV fun j _=>by simp
def xM (S:List Tb) (x:Tb) (T:Nat→List (List V)) (n f:Nat):Nat:=if (x.fk.take f).any (fun g=>(T (eR S g)).length==0)=true then 0 else n
def yV (L:List Int) (a:Nat) (n:Int):Nat:=(aS L a n).toNat
def aR (S:List Tb) (i:Nat):Tb:=(S[i]?).getD ⟨[],[],[],[],[],[]⟩
def nK (L:List Int) (S:List Tb) (most:Nat) (i:Nat) (y:(Nat→List (List V))×Nat):(Nat→List (List V))×Nat :=
 let n:=xM S (aR S i) y.1 (yV L y.2 ((most:Int)+1)) (aR S i).fk.length
 (bP y.1 i (mG L S (aR S i) y.1 (y.2+1) n),y.2+1+n*zG (aR S i))
def mH (L:List Int) (S:List Tb) (most:Nat):List Int→(Nat→List (List V))×Nat→(Nat→List (List V))×Nat
 | [],y=>y
 | z::r,y=>mH L S most r (nK L S most z.toNat y)
theorem CX (L:List Int) (S:List Tb) (most:Nat) (z:Int):∀ (r:List Int) (y:(Nat→List (List V))×Nat),mH L S most (r++[z]) y=nK L S most z.toNat (mH L S most r y)
 | [],y=>rfl
 | q::r,y=>by rw [List.cons_append,mH,mH,CX L S most z r]
def gP (L:List Int) (S:List Tb) (most a o:Nat):(Nat→List (List V))×Nat:=mH L S most ((gB S).1.take o) (fun _=>[],a)
theorem SH {L:List Int} {S:List Tb} {most a o i:Nat} (h:o<(gB S).1.length) (hi:(gB S).1[o]=i):gP L S most a (o+1)=nK L S most i (gP L S most a o):=by
 unfold gP
 rw [bI h,CX,hi,Int.toNat_natCast]
def CY (L:List Int) (S:List Tb) (most a:Nat):List (List (List V))×Nat:=(aO (gP L S most a (gB S).1.length).1 S.length,(gP L S most a (gB S).1.length).2)
theorem JS (S:List Tb) (x:Tb) (T:Nat→List (List V)) (n f:Nat):xM S x T n f≤n:=by unfold xM; split <;> omega
theorem YM {S:List Tb} {x:Tb} {T:Nat→List (List V)} {n f:Nat} (h:f<x.fk.length):xM S x T n (f+1)=if (T (eR S x.fk[f])).length=0 then 0 else xM S x T n f:=by
 unfold xM
 rw [sH h]
 by_cases h1:(T (eR S x.fk[f])).length=0
 ·rw [if_pos h1]; simp [h1]
 ·rw [if_neg h1]
  have:((T (eR S x.fk[f])).length==0)=false:=by simpa using h1
  rw [this,Bool.or_false]
theorem NS {S:List Tb} {x:Tb} {T:Nat→List (List V)} {n k:Nat} (h:k<xM S x T n x.fk.length):∀ f∈x.fk,0<(T (eR S f)).length:=by
 intro f hf
 unfold xM at h
 rw [List.take_length] at h
 split at h
 ·omega
 ·rename_i hn
  rw [List.any_eq_true] at hn
  rcases Nat.eq_zero_or_pos (T (eR S f)).length with h0 | h0
  ·exact absurd ⟨f,hf,by simpa using h0⟩ hn
  ·exact h0
theorem CZ (L:List Int) (a:Nat) {n:Int} (h:1≤n):(yV L a n:Int)=aS L a n∧(yV L a n:Int)<n:=by
 have:=bB L a (n:=n) h
 unfold yV
 omega
structure iP (S:List Tb):Prop where
 ok:SOk S
 few:S.length≤10
 pr:∀ x∈S,x.pr.length=1∧0≤eA x.pr∧eA x.pr<x.cols.length
 fk:∀ x∈S,x.fk.length≤8∧∀ f∈x.fk,f.cols.length=1∧0≤eA f.cols∧eA f.cols<x.cols.length
 ty:∀ x∈S,∀ c∈x.cols,c.t=1∨c.t=2∨c.t=3
 cols:∀ x∈S,x.cols.length≤20
theorem aDT {L:List Int} {S:List Tb} (h:iP S) {most i:Nat} (hm:most≤100) (hi:i<S.length) (y:(Nat→List (List V))×Nat):(nK L S most i y).2≤y.2+1+100*28:=by
 have hx:aR S i∈S:=by unfold aR; rw [gE hi,Option.getD_some]; exact List.getElem_mem hi
 have h1:=h.cols _ hx
 have h2:=(h.fk _ hx).1
 have h3:=JS S (aR S i) y.1 (yV L y.2 ((most:Int)+1)) (aR S i).fk.length
 have h4:=CZ L y.2 (n:=(most:Int)+1) (by omega)
 unfold nK zG
 simp only
 have h5:xM S (aR S i) y.1 (yV L y.2 ((most:Int)+1)) (aR S i).fk.length*((aR S i).cols.length+(aR S i).fk.length)≤100*28:=Nat.mul_le_mul (by omega) (by omega)
 omega
theorem DA {L:List Int} {S:List Tb} (h:iP S) {most:Nat} (hm:most≤100):∀ (r:List Int) (y:(Nat→List (List V))×Nat),(∀ z∈r,0≤z∧z<S.length)→(mH L S most r y).2≤y.2+r.length*2801
 | [],y,_=>by simp [mH]
 | z::r,y,hr=>by
   have hz:=hr z List.mem_cons_self
   have h1:=aDT (L:=L) h hm (i:=z.toNat) (by omega) y
   have h2:=DA (L:=L) h hm r (nK L S most z.toNat y) fun q hq=>hr q (List.mem_cons_of_mem _ hq)
   rw [mH,List.length_cons]
   omega
theorem GO {L:List Int} {S:List Tb} {most j:Nat}:∀ (r:List Int) (y:(Nat→List (List V))×Nat),(∀ z∈r,0≤z)→(j:Int) ∉ r→(mH L S most r y).1 j=y.1 j
 | [],y,_,_=>rfl
 | z::r,y,h0,h=>by
   rw [mH,GO r _ (fun q hq=>h0 q (List.mem_cons_of_mem _ hq)) fun hm=>h (List.mem_cons_of_mem _ hm)]
   unfold nK bP
   simp only
   rw [if_neg]
   intro e
   have hz:=h0 z List.mem_cons_self
   exact h (by rw [e,Int.toNat_of_nonneg hz]; exact List.mem_cons_self)
theorem tZ {L:List Int} {S:List Tb} {most:Nat}:∀ (r:List Int) (y:(Nat→List (List V))×Nat),(∀ j,(y.1 j).length≤most)→∀ j,((mH L S most r y).1 j).length≤most
 | [],y,h=>h
 | z::r,y,h=>by
   rw [mH]
   refine tZ r _ fun j=>?_
   have h3:=JS S (aR S z.toNat) y.1 (yV L y.2 ((most:Int)+1)) (aR S z.toNat).fk.length
   have h4:=CZ L y.2 (n:=(most:Int)+1) (by omega)
   unfold nK bP
   simp only
   split
   ·rw [sP]; omega
   ·exact h j
structure NO (L:List Int) (x:Tb):Prop where
 pr:x.pr=[0]
 un:x.un=[]
 cols:2≤x.cols.length∧x.cols.length≤5
 fk:x.fk.length≤2
 fkc:∀ f∈x.fk,∃ c:Nat,f.cols=[(c:Int)]∧1≤c∧c<x.cols.length
 ty:∀ c∈x.cols,c.t=1∨c.t=2∨c.t=3
theorem aDP (L:List Int) (j a:Nat):NO L (jB L j a):=by
 have h1:=rW L a
 have h2:=KE L (a+1+2*eI L a) j
 have hty:=(kE L j a).ty
 unfold jB at *
 generalize eI L a=m at *
 generalize DL L (a+1+2*m) j=z at *
 refine ⟨rfl,rfl,by simp only [kD]; omega,by simp only [wE]; omega,fun f hf=>?_,hty⟩
 obtain ⟨k,hk,rfl⟩:=sT hf
 refine ⟨m+1+k,rfl,by omega,?_⟩
 simp only [kD]
 omega
theorem UY {L:List Int} {a n:Nat} {x:Tb} (h:x∈(bS L a n).1):NO L x:=by
 obtain ⟨j,b,rfl⟩:=lT h
 obtain ⟨p1,p2,p3,p4,p5,_⟩:=rT L (jB L j b) (FG L (b+1+2*eI L b) j)
 have h0:=aDP L j b
 unfold qD
 refine ⟨by rw [p4]; exact h0.pr,by rw [p1]; exact h0.un,by rw [p3]; exact h0.cols,by rw [p5]; exact h0.fk,fun f hf=>?_,by rw [p3]; exact h0.ty⟩
 rw [p5] at hf
 rw [p3]
 exact h0.fkc f hf
theorem UZ {L:List Int} {S:List Tb} (h:SOk S) (hl:S.length≤10) (ht:∀ x∈S,NO L x):iP S:=by
 refine ⟨h,hl,fun x hx=>?_,fun x hx=>?_,fun x hx=>(ht x hx).ty,fun x hx=>by have:=(ht x hx).cols; omega⟩
 ·have t:=ht x hx
  have c:=t.cols
  rw [t.pr]
  exact ⟨rfl,by simp [eA],by simp [eA]; omega⟩
 ·have t:=ht x hx
  refine ⟨by have:=t.fk; omega,fun f hf=>?_⟩
  obtain ⟨c,e,c1,c2⟩:=t.fkc f hf
  rw [e]
  exact ⟨rfl,by simp [eA],by simp [eA]; omega⟩
theorem aDQ {L:List Int} {x:Tb} (t:NO L x):NO L x.free:=⟨t.pr,t.un,t.cols,t.fk,t.fkc,t.ty⟩
theorem YH (L:List Int) (a n:Nat) (hn:n≤10):iP (bS L a n).1:=UZ (NU L a n hn) (by rw [dU]; exact hn) fun x hx=>UY hx
theorem YI (L:List Int) (a n:Nat) (hn:n≤10):iP (fZ (bS L a n).1) :=
 UZ (aBo (NU L a n hn)) (by rw [oP,dU]; exact hn) fun x hx=>by
  obtain ⟨y,hy,rfl⟩:=List.mem_map.1 hx
  exact aDQ (UY hy)
def NJ (S:List Tb):Prop:=∀ k,k<S.length→∀ g∈(aR S k).fk,0≤tgt S g∧eR S g<k
theorem CQ {α:Type} {p:α→Bool}:∀ {l:List α} {m k:Nat} {x:α},l[m]?=some x→p x=true→(k:Int)≤aV p l k∧aV p l k≤(k:Int)+m
 | [],m,k,x,h,_=>by simp at h
 | y::l,0,k,x,h,hp=>by
   simp only [List.getElem?_cons_zero,Option.some.injEq] at h
   subst h
   rw [aV,if_pos hp]; omega
 | y::l,m+1,k,x,h,hp=>by
   rw [List.getElem?_cons_succ] at h
   rw [aV]
   split
   ·omega
   ·have:=CQ (k:=k+1) h hp
    omega
def NI (S:List Tb):Prop:=∀ k x,S[k]?=some x→x.n=qC 116 k∧∀ g∈x.fk,∃ m,m<k∧g.t=qC 116 m
theorem aAS (L:List Int) (j a:Nat):(qD L j a).1.n=qC 116 j∧∀ g∈(qD L j a).1.fk,∃ m,m<j∧g.t=qC 116 m:=by
 obtain ⟨_,p2,_,_,p5,_⟩:=rT L (jB L j a) (FG L (a+1+2*eI L a) j)
 unfold qD
 rw [p2,p5]
 refine ⟨rfl,fun g hg=>?_⟩
 obtain ⟨k,hk,rfl⟩:=sT hg
 have hj:0<j:=by
  rcases Nat.eq_zero_or_pos j with rfl | h
  ·simp [DL] at hk
  ·exact h
 have:=bB L (a+1+2*eI L a+2*k+1) (n:=(j:Int)) (by omega)
 exact ⟨_,by omega,rfl⟩
theorem oN (L:List Int) (a:Nat):∀ n,NI (bS L a n).1
 | 0=>fun k x h=>by simp [bS] at h
 | n+1=>fun k x h=>by
   simp only [bS] at h
   rw [List.getElem?_append,dU] at h
   split at h
   ·exact oN L a n k x h
   ·rename_i hk
    have h0:k=n:=by
     have:=(List.getElem?_eq_some_iff.1 h).1
     simp at this; omega
    subst h0
    rw [Nat.sub_self,List.getElem?_cons_zero,Option.some.injEq] at h
    subst h
    exact aAS L k _
theorem CR {S:List Tb} (h:NI S):NI (fZ S):=fun k x hx=>by
 unfold fZ at hx
 rw [List.getElem?_map] at hx
 cases hs:S[k]? with
 | none=>rw [hs] at hx; cases hx
 | some y =>
   rw [hs] at hx
   simp only [Option.map_some,Option.some.injEq] at hx
   subst hx
   exact h k y hs
theorem JO {S:List Tb} (h:NI S):NJ S:=fun k hk g hg=>by
 have hx:S[k]?=some S[k]:=gE hk
 unfold aR at hg
 rw [hx] at hg
 obtain ⟨m,hm,e⟩:=(h k _ hx).2 g hg
 have hy:S[m]?=some (S[m]'(by omega)):=gE (by omega)
 have:=CQ (p:=fun x:Tb=>x.n==g.t) (k:=0) hy (by rw [(h m _ hy).1,e]; exact beq_self_eq_true _)
 unfold eR tgt
 omega
theorem pZ {α:Type} {p:α→Bool}:∀ {l:List α} {m k:Nat} {x:α},l[m]?=some x→p x=true→(∀ i y,i<m→l[i]?=some y→p y=false)→aV p l k=(k:Int)+m
 | [],m,k,x,h,_,_=>by simp at h
 | y::l,0,k,x,h,hp,_=>by
   simp only [List.getElem?_cons_zero,Option.some.injEq] at h
   subst h
   rw [aV,if_pos hp]; simp
 | y::l,m+1,k,x,h,hp,hn=>by
   rw [List.getElem?_cons_succ] at h
   rw [aV,if_neg (by rw [hn 0 y (by omega) (by simp)]; simp),pZ (k:=k+1) h hp fun i z hi hz=>hn (i+1) z (by omega) (by simpa using hz)]
   omega
def zY (j:Nat):Nat→List Int
 | 0=>[]
 | n+1=>(j:Int)::zY (j+1) n
theorem VG:∀ (n j:Nat),(zY j n).length=n
 | 0,j=>rfl
 | n+1,j=>by rw [zY,List.length_cons,VG n]
theorem aEd {S:List Tb} {j:Nat}:LF S j=(aR S j).fk:=by
 unfold LF aR
 cases S[j]? <;> rfl
theorem GT {S:List Tb} (hd:NJ S):∀ (n j:Nat) (out:List Int),j+n=S.length→lD S n (fun k=>decide (k<j)) out=(out++zY j n,0)
 | 0,j,out,h=>by simp [lD,zY]
 | n+1,j,out,h=>by
   have hr:jQ S (fun k=>decide (k<j))=j:=by
    unfold jQ
    have:=pZ (p:=DE S fun k=>decide (k<j)) (l:=aO (fun k=>k) S.length) (m:=j) (k:=0) (x:=j) (by rw [bE,if_pos (by omega)])
     (by
      unfold DE
      rw [aEd]
      simp only [Nat.lt_irrefl,decide_false,Bool.not_false,Bool.true_and,List.all_eq_true,decide_eq_true_eq]
      intro g hg
      exact (hd j (by omega) g hg).2)
     (fun i y hi hy=>by
      rw [bE,if_pos (by omega),Option.some.injEq] at hy
      subst hy
      unfold DE
      simp [hi])
    rw [this]; omega
   have hdn:dnO (fun k=>decide (k<j)) (j:Int)=fun k=>decide (k<j+1):=by
    funext k
    unfold dnO
    by_cases h1:k<j
    ·have h2:k<j+1:=by omega
     simp [h1,h2]
    ·by_cases h2:k=j
     ·subst h2; simp
     ·have h3:¬ (k:Int)=j:=by omega
      have h4:¬ k<j+1:=by omega
      simp [h1,h3,h4]
   rw [lD,hr,if_neg (by omega),hdn,GT hd n (j+1) _ (by omega),zY,List.append_assoc]
   rfl
theorem aBv {S:List Tb} (hd:NJ S):nN S=false:=by
 cases hm:nN S with
 | false=>rfl
 | true =>
   exfalso
   unfold nN at hm
   obtain ⟨x,hx,hm1⟩:=List.any_eq_true.1 hm
   obtain ⟨g,hg,hm2⟩:=List.any_eq_true.1 hm1
   obtain ⟨k,hk,rfl⟩:=List.getElem_of_mem hx
   have ht:aR S k=S[k]:=by unfold aR; rw [gE hk]; rfl
   have:=(hd k hk g (by rw [ht]; exact hg)).1
   have h2:tgt S g<0:=by simpa using hm2
   omega
theorem wA {S:List Tb} (hd:NJ S):gB S=(zY 0 S.length,0):=by
 rw [wC,aBv hd,if_neg (by simp)]
 have:=GT hd S.length 0 [] (by omega)
 simpa using this
theorem iU {α:Type} {f:Nat→α→Int}:∀ {l:List α} {k:Nat},(∀ i x,l[i]?=some x→f (k+i) x=0)→bG f l k=0
 | [],k,h=>rfl
 | y::l,k,h=>by
   have h0:=h 0 y (by simp)
   rw [bG,if_neg (by simpa using h0)]
   exact iU fun i x hi=>by
    have:=h (i+1) x (by simpa using hi)
    rw [← this]
    congr 1
    omega
theorem OJ {L:List Int} {a:Nat}:∀ {n k:Nat} {x:Tb},(bS L a n).1[k]?=some x→∃ b,x=(qD L k b).1
 | 0,k,x,h=>by simp [bS] at h
 | n+1,k,x,h=>by
   simp only [bS] at h
   rw [List.getElem?_append,dU] at h
   split at h
   ·exact OJ h
   ·rename_i hk
    have h0:k=n:=by
     have:=(List.getElem?_eq_some_iff.1 h).1
     simp at this; omega
    subst h0
    rw [Nat.sub_self,List.getElem?_cons_zero,Option.some.injEq] at h
    exact ⟨_,h.symm⟩
theorem aBY {L:List Int} {j a:Nat}:(qD L j a).1.free=jB L j a:=by
 unfold qD OI
 split <;> rfl
theorem aBZ {L:List Int} {a n k:Nat} {x:Tb} (h:(fZ (bS L a n).1)[k]?=some x):∃ b,x=jB L k b:=by
 unfold fZ at h
 rw [List.getElem?_map] at h
 cases hs:(bS L a n).1[k]? with
 | none=>rw [hs] at h; cases h
 | some y =>
   rw [hs] at h
   simp only [Option.map_some,Option.some.injEq] at h
   obtain ⟨b,rfl⟩:=OJ hs
   exact ⟨b,by rw [← h,aBY]⟩
theorem KF:∀ i,i<6→∀ k,k<6→qC 116 i=qC 116 k→i=k:=by decide
theorem aFu:∀ k,k<6→fN (qC 116 k)=true:=by decide +kernel
theorem OK (L:List Int) (a k:Nat):(FF L a k).t=1∨(FF L a k).t=2∨(FF L a k).t=3:=by
 have:=bB L (a+2*k) (n:=3) (by omega)
 simp only [FF]
 omega
theorem aGy (n:List UInt8) (c0 c1:Col) (h0:c0.n=qC 99 0) (h1:c1.n=qC 99 1) (t0:c0.t=1∨c0.t=2∨c0.t=3) (t1:c1.t=1∨c1.t=2∨c1.t=3) (f0 f1:List UInt8) (x:Tb)
  (hx:x=⟨n,[idC,c0],[0],[],[],[]⟩∨x=⟨n,[idC,c0,YV 0],[0],[],[⟨[2],f0⟩],[]⟩∨x=⟨n,[idC,c0,YV 0,YV 1],[0],[],[⟨[2],f0⟩,⟨[3],f1⟩],[]⟩
   ∨ x=⟨n,[idC,c0,c1],[0],[],[],[]⟩∨x=⟨n,[idC,c0,c1,YV 0],[0],[],[⟨[3],f0⟩],[]⟩∨x=⟨n,[idC,c0,c1,YV 0,YV 1],[0],[],[⟨[3],f0⟩,⟨[4],f1⟩],[]⟩) :
  fB fN ZU x=0∧gJ x=true∧dO x 0=1∧∀ f∈x.fk,∃ c,f.cols=[c]∧dO x c=1:=by
 rcases c0 with ⟨n0,t0',b0⟩
 rcases c1 with ⟨n1,t1',b1⟩
 simp only at h0 h1 t0 t1
 subst h0 h1
 rcases hx with rfl | rfl | rfl | rfl | rfl | rfl
 ·rcases t0 with rfl | rfl | rfl <;> exact ⟨by kernel_rfl,by kernel_rfl,by kernel_rfl,by simp⟩
 ·rcases t0 with rfl | rfl | rfl <;> exact ⟨by kernel_rfl,by kernel_rfl,by kernel_rfl,by simp [dO,YV]⟩
 ·rcases t0 with rfl | rfl | rfl <;> exact ⟨by kernel_rfl,by kernel_rfl,by kernel_rfl,by simp [dO,YV]⟩
 ·rcases t0 with rfl | rfl | rfl <;> rcases t1 with rfl | rfl | rfl <;> exact ⟨by kernel_rfl,by kernel_rfl,by kernel_rfl,by simp⟩
 ·rcases t0 with rfl | rfl | rfl <;> rcases t1 with rfl | rfl | rfl <;> exact ⟨by kernel_rfl,by kernel_rfl,by kernel_rfl,by simp [dO,YV]⟩
 ·rcases t0 with rfl | rfl | rfl <;> rcases t1 with rfl | rfl | rfl <;> exact ⟨by kernel_rfl,by kernel_rfl,by kernel_rfl,by simp [dO,YV]⟩
theorem wF (L:List Int) (j a:Nat):fB fN ZU (jB L j a)=0∧gJ (jB L j a)=true∧dO (jB L j a) 0=1∧∀ f∈(jB L j a).fk,∃ c,f.cols=[c]∧dO (jB L j a) c=1:=by
 have h1:=rW L a
 have h2:=KE L (a+1+2*eI L a) j
 refine aGy (qC 116 j) (FF L (a+1) 0) (FF L (a+1) 1) rfl rfl (OK ..) (OK ..) (fkP L (a+1+2*eI L a) j (eI L a+1) 0).t (fkP L (a+1+2*eI L a) j (eI L a+1) 1).t _ ?_
 unfold jB
 generalize a+1+2*eI L a=B at *
 generalize eI L a=m at *
 generalize DL L B j=z at *
 have hm:m=1∨m=2:=by omega
 have hz:z=0∨z=1∨z=2:=by omega
 rcases hm with rfl | rfl <;> rcases hz with rfl | rfl | rfl <;> simp [jR,SY,DK,fkP]
theorem TB (L:List Int) (a n:Nat) (hn:n≤6):mR (fZ (bS L a n).1)=true:=by
 have hD:NI (fZ (bS L a n).1):=CR (oN L a n)
 have hd:=JO hD
 have hl:(fZ (bS L a n).1).length=n:=by rw [oP,dU]
 have hat:∀ {k:Nat} {x:Tb},(fZ (bS L a n).1)[k]?=some x→∃ b,x=jB L k b:=fun h=>aBZ h
 generalize fZ (bS L a n).1=S at *
 have hlt:∀ {k:Nat} {x:Tb},S[k]?=some x→k<6:=fun h=>by
  have:=(List.getElem?_eq_some_iff.1 h).1
  omega
 have hfi:∀ {k:Nat} {x:Tb},S[k]?=some x→aV (fun y:Tb=>y.n==qC 116 k) S 0=k:=fun {k x} h=>by
  have:=pZ (p:=fun y:Tb=>y.n==qC 116 k) (k:=0) h (by simp [(hD k x h).1]) (fun i y hi hy=>by
   simp only [beq_eq_false_iff_ne]
   intro e
   rw [(hD i y hy).1] at e
   have:=KF i (hlt hy) k (hlt h) e
   omega)
  rw [this]; omega
 unfold mR OH ED dY
 rw [Bool.and_eq_true,beq_iff_eq,if_neg (by omega),wA hd]
 refine ⟨?_,List.all_eq_true.2 fun x hx=>?_⟩
 ·rw [iU (f:=kI fN ZU S),iU]
  ·rfl
  ·intro i x hx
   refine iU fun q f hf=>?_
   obtain ⟨b,rfl⟩:=hat hx
   have hfm:f∈(jB L i b).fk:=List.mem_of_getElem? hf
   obtain ⟨c,e1,e2⟩:=(wF L i b).2.2.2 f hfm
   obtain ⟨m,hm,em⟩:=(hD i _ hx).2 f hfm
   have hiS:=(List.getElem?_eq_some_iff.1 hx).1
   have hSm:S[m]?=some (S[m]'(by omega)):=gE (by omega)
   obtain ⟨b',eb⟩:=hat hSm
   rw [eb] at hSm
   have ht:tgt S f=m:=by unfold tgt; rw [em]; exact hfi hSm
   unfold kJ
   rw [ht,Int.toNat_natCast,hSm]
   simp only
   rw [if_neg (by omega),if_pos]
   have h0:=(wF L m b').2.2.1
   unfold mT
   rw [e1]
   have hp:(jB L m b').pr=[0]:=rfl
   rw [hp]
   simp [e2,h0]
  ·intro i x hx
   obtain ⟨b,rfl⟩:=hat hx
   have hn:(jB L i b).n=qC 116 i:=rfl
   unfold kI
   rw [hn,aFu i (hlt hx),if_neg (by simp),hfi hx,if_neg (by omega)]
   exact (wF L i b).1
 ·obtain ⟨i,hi,rfl⟩:=List.getElem_of_mem hx
  obtain ⟨b,e⟩:=hat (gE hi)
  rw [e]
  exact (wF L i b).2.1
def aFv (x:Tb) (c:Nat) (v:V):Prop:=v.valid=true∧(v.k=(mX x c).t∨((mX x c).b=true∧v=nulV))
theorem HD (L:List Int) (i:Nat) (k:Int) (hk:k=1∨k=2∨k=3) (b:Bool):(kG L i k b).valid=true∧((kG L i k b).k=k∨(b=true∧kG L i k b=nulV)):=by
 unfold kG
 cases b with
 | false =>
   rw [if_neg (by decide)]
   obtain ⟨h1,h2,_⟩:=vX L i k hk
   exact ⟨h2,.inl h1⟩
 | true =>
   have all:∀ v∈bF k,v.valid=true∧(v.k=k∨v=nulV):=by
    rcases hk with rfl | rfl | rfl <;> decide
   have hl3:3≤(bF k).length:=by rcases hk with rfl | rfl | rfl <;> decide
   rw [if_pos rfl]
   obtain ⟨m,hm⟩:∃ m,m=min (bF k).length 4:=⟨_,rfl⟩
   rw [← hm]
   have hn:=bB L i (n:=(m:Int)) (by omega)
   have hlt:(aS L i (m:Int)).toNat<(bF k).length:=by omega
   rw [gE hlt,Option.getD_some]
   obtain ⟨h1,h2⟩:=all _ (List.getElem_mem hlt)
   exact ⟨h1,h2.imp id fun h=>⟨rfl,h⟩⟩
structure iV (x:Tb):Prop where
 pr:∃ p:Nat,x.pr=[(p:Int)]∧p<x.cols.length
 fk:∀ f∈x.fk,∃ c:Nat,f.cols=[(c:Int)]∧c<x.cols.length∧eA x.pr ≠ c
 dis:(x.fk.map fun f=>eA f.cols).Nodup
 ty:∀ c,c<x.cols.length→(mX x c).t=1∨(mX x c).t=2∨(mX x c).t=3
theorem OO {x:Tb}:∀ {l:List Fk} {pre:List Int},lL x pre l=true→(∀ f∈l,VQ x f=true∧eA f.cols ∉ pre)∧(l.map fun f=>eA f.cols).Nodup
 | [],pre,_=>⟨by simp,.nil⟩
 | f::l,pre,h=>by
   rw [lL,Bool.and_eq_true,Bool.and_eq_true] at h
   obtain ⟨⟨h1,h2⟩,h3⟩:=h
   obtain ⟨g1,g2⟩:=OO h3
   have hn:eA f.cols ∉ pre:=by simpa using h2
   refine ⟨fun g hg=>?_,?_⟩
   ·rcases List.mem_cons.1 hg with rfl | hg
    ·exact ⟨h1,hn⟩
    ·exact ⟨(g1 g hg).1,fun hm=>(g1 g hg).2 (List.mem_append_left _ hm)⟩
   ·rw [List.map_cons,List.nodup_cons]
    refine ⟨fun hm=>?_,g2⟩
    obtain ⟨g,hg,e⟩:=List.mem_map.1 hm
    exact (g1 g hg).2 (List.mem_append_right _ (by rw [e]; simp))
theorem aCj {S:List Tb} (h:iP S) (hp:mR S=true) {x:Tb} (hx:x∈S):iV x:=by
 unfold mR OH at hp
 rw [Bool.and_eq_true] at hp
 have hpl:=List.all_eq_true.1 hp.2 x hx
 unfold gJ at hpl
 rw [Bool.and_eq_true,Bool.and_eq_true] at hpl
 obtain ⟨hpr,hfk,_⟩:=hpl
 obtain ⟨g1,g2⟩:=OO hfk
 obtain ⟨p1,p2,p3⟩:=h.pr x hx
 obtain ⟨_,f1⟩:=h.fk x hx
 refine ⟨?_,fun f hf=>?_,g2,fun c hc=>?_⟩
 ·obtain ⟨p,hpe⟩:=jM p1
  rw [hpe] at p2 p3
  simp only [eA,List.headD_cons] at p2 p3
  exact ⟨p.toNat,by rw [hpe,Int.toNat_of_nonneg p2],by omega⟩
 ·obtain ⟨c1,c2,c3⟩:=f1 f hf
  obtain ⟨c,hce⟩:=jM c1
  have hb:=(g1 f hf).1
  unfold VQ at hb
  simp only [Bool.and_eq_true,Bool.not_eq_true',beq_eq_false_iff_ne] at hb
  have hne:=hb.2.2.2
  rw [hce] at c2 c3 hne
  simp only [eA,List.headD_cons] at c2 c3 hne
  refine ⟨c.toNat,by rw [hce,Int.toNat_of_nonneg c2],by omega,?_⟩
  rw [Int.toNat_of_nonneg c2]
  exact fun e=>hne e.symm
 ·unfold mX
  rw [gE hc]
  exact h.ty x hx _ (List.getElem_mem hc)
structure HE (S:List Tb) (T:Nat→List (List V)) (x:Tb) (n:Nat) (row:List V):Prop where
 len:row.length=x.cols.length
 pr:row[(eA x.pr).toNat]?=some (jK (n+1))
 fk:∀ f∈x.fk,∃ q:Nat,row[(eA f.cols).toNat]?=some (jK (1+q))∧q<(T (eR S f)).length
 val:∀ c,c<x.cols.length→cU x c=false→∀ v,row[c]?=some v→aFv x c v
theorem DO {x:Tb} {c:Int}:cU x c=false→c ∉ x.pr∧∀ f∈x.fk,c ∉ f.cols:=by
 intro h
 unfold cU at h
 rw [Bool.or_eq_false_iff] at h
 refine ⟨by simpa using h.1,fun f hf hm=>?_⟩
 have:=h.2
 rw [List.any_eq_false] at this
 exact this f hf (by simpa using hm)
def OP (S:List Tb) (T:Nat→List (List V)) (j:Nat):Prop:=∀ k,k<j→∀ n row,(T k)[n]?=some row→HE S T (aR S k) n row
theorem aCk {S:List Tb} {T U:Nat→List (List V)} {x:Tb} {n:Nat} {row:List V} (h:HE S T x n row) (he:∀ f∈x.fk,U (eR S f)=T (eR S f)):HE S U x n row :=
 ⟨h.len,h.pr,fun f hf=>by rw [he f hf]; exact h.fk f hf,h.val⟩
theorem MR {x:Tb} {a:At} (h:vJ x a):oA x a=true:=by
 have h1:=h.col.1
 have h2:=h.col.2
 unfold oA
 rw [h.key,h.val]
 rcases h.kind with ⟨e,v⟩ | ⟨t,o1,o2,k⟩ | ⟨t,e,v⟩ | ⟨t,e,k⟩ | ⟨t,e,k⟩
 ·rw [v,e]; simp [h1,h2]; decide
 ·have:a.op=14∨a.op=15∨a.op=16∨a.op=17∨a.op=18∨a.op=19:=by omega
  rcases this with e | e | e | e | e | e <;> (rw [e,t,k]; simp [h1,h2])
 ·rw [v,e,t]; simp [h1,h2]; decide
 ·rcases e with e | e <;> (rw [e,t,k]; simp [h1,h2])
 ·rcases e with e | e <;> (rw [e,t,k]; simp [h1,h2])
theorem GD {v:V} (h:v.valid=true) (hk:v.k=1∨v.k=2∨v.k=3):aG (bT v 0) []=v:=by
 obtain ⟨k,n,t⟩:=v
 unfold V.valid at h
 unfold bT
 rcases hk with e | e | e <;> (simp only at e; subst e; simp at h)
 ·obtain rfl:t=[]:=by simpa using h.2.2
  show aG (.mk 2 0 n [] 0 []) []=_
  rw [aG,if_pos (by decide)]; rfl
 ·obtain rfl:t=[]:=by simpa using h.2
  show aG (.mk 3 0 n [] 0 []) []=_
  rw [aG,if_pos (by decide)]; rfl
 ·obtain rfl:n=0:=by simpa using h.1
  show aG (.mk 4 0 0 t 0 []) []=_
  rw [aG,if_pos (by decide)]; rfl
theorem xI (v:V) (h:v.valid=true) (hk:v.k=1∨v.k=2∨v.k=3) (ht:v.t.length≤200):Cf En 234 [(bT v 0).a] [] v.a []:=by
 refine cI aW (fn:=Tryz.f234) rfl ?_
 have hq:(bT v 0).few 0=true:=by
  unfold bT
  repeat' split
  all_goals (rw [Ex.few,gN,if_neg (by omega),if_neg (by simp),if_neg (by simp <;> omega)])
 have he:=wG [] (by simp) (SizeOf.sizeOf (bT v 0)+1) (bT v 0) (by omega) 0 hq
 rw [GD h hk] at he
 unfold bT at he ⊢
 rcases hk with e | e | e
 all_goals (
  simp [e,Ex.a,Ex.c,dZ] at he ⊢
  (repeat' first|contradiction|exact .ok|apply And.intro|intro _|(apply gc<;>simp+contextual))
  refine aP he ?_
  simp [V.a]
  (repeat' (first | contradiction | exact .of (by kernel_rfl) | refine And.intro ?_ ?_ | intro _ | (refine aK (fun h=>?_) (fun h=>?_) <;> (have h':=h; (try simp at h'); first | done | simp [h,h'] | simp)))))
def SA (a:At):AV:=.tup [a.a,.d (.bool true)]
theorem aDB (x:Tb) (hx:x.ok) (a:At) (h:vJ x a):Cf En 201 [x.a,a.ex.a] [] (SA a) []:=by
 have hs:=yE x hx a
 rw [MR h] at hs
 have hex:=CF a
 have hsm:=KN (SizeOf.sizeOf a.ex+1) a.ex a.ex (by omega) (by
  unfold At.ex
  repeat' split
  all_goals simp [fH,bT,Ex.fits,jJ]
  all_goals (repeat' split)
  all_goals simp [Ex.fits,jJ])
 rw [Ex.eq_self] at hsm
 have hlen:=h.len
 have hval:=h.val
 have hkind:=h.kind
 clear h
 rcases a with ⟨col,op,v⟩
 simp only at hkind hlen hval
 unfold At.ex at hex hsm ⊢
 simp only at hex hsm ⊢
 refine cI aW (fn:=Tryz.f201) rfl ?_
 rcases hkind with ⟨e,hv⟩ | ⟨t,o1,o2,hk⟩ | ⟨t,e,hv⟩ | ⟨t,e,hk⟩ | ⟨t,e,hk⟩
 ·subst e hv
  simp [fH,Ex.a,Ex.c,dZ,At.a,At.c,nulV,Tb.a,Tb.c] at hs hex hsm ⊢
  (repeat' first|contradiction|exact .ok|apply And.intro|intro _|(apply gc<;>simp+contextual))
  refine aP hs ?_
  simp
  (repeat' first|contradiction|exact .ok|apply And.intro|intro _|(apply gc<;>simp+contextual))
  refine aP hex ?_
  simp
  refine aP hsm ?_
  simp
  (repeat' first|contradiction|exact .ok|apply And.intro|intro _|(apply gc<;>simp+contextual))
  all_goals simp [SA,At.a,At.c]
 ·have n5:¬ op=5:=by omega
  have n21:¬ op=21:=by omega
  have hvl:=xI v hval (.inl hk) (by omega)
  simp [n5,n21,hk,bT,fH,Ex.a,Ex.c,dZ,At.a,At.c,V.a,Tb.a,Tb.c] at hs hex hsm hvl ⊢
  (repeat' first|contradiction|exact .ok|apply And.intro|intro _|(apply gc<;>simp+contextual[n5,n21]))
  refine aP hvl ?_
  simp
  (repeat' first|contradiction|exact .ok|apply And.intro|intro _|(apply gc<;>simp+contextual))
  refine aP hs ?_
  simp
  (repeat' first|contradiction|exact .ok|apply And.intro|intro _|(apply gc<;>simp+contextual))
  refine aP hex ?_
  simp
  refine aP hsm ?_
  simp
  (repeat' first|contradiction|exact .ok|apply And.intro|intro _|(apply gc<;>simp+contextual))
  all_goals simp [SA,At.a,At.c,hk]
 ·subst e hv
  simp [fH,Ex.a,Ex.c,dZ,At.a,At.c,nulV,Tb.a,Tb.c] at hs hex hsm ⊢
  (repeat' first|contradiction|exact .ok|apply And.intro|intro _|(apply gc<;>simp+contextual))
  refine aP hs ?_
  simp
  (repeat' first|contradiction|exact .ok|apply And.intro|intro _|(apply gc<;>simp+contextual))
  refine aP hex ?_
  simp
  refine aP hsm ?_
  simp
  (repeat' first|contradiction|exact .ok|apply And.intro|intro _|(apply gc<;>simp+contextual))
  all_goals simp [SA,At.a,At.c]
 ·have n5:¬ op=5:=by omega
  have n21:¬ op=21:=by omega
  have hvl:=xI v hval (.inr (.inl hk)) (by omega)
  simp [n5,n21,hk,bT,fH,Ex.a,Ex.c,dZ,At.a,At.c,V.a,Tb.a,Tb.c] at hs hex hsm hvl ⊢
  (repeat' first|contradiction|exact .ok|apply And.intro|intro _|(apply gc<;>simp+contextual[n5,n21]))
  refine aP hvl ?_
  simp
  (repeat' first|contradiction|exact .ok|apply And.intro|intro _|(apply gc<;>simp+contextual))
  refine aP hs ?_
  simp
  (repeat' first|contradiction|exact .ok|apply And.intro|intro _|(apply gc<;>simp+contextual))
  refine aP hex ?_
  simp
  refine aP hsm ?_
  simp
  (repeat' first|contradiction|exact .ok|apply And.intro|intro _|(apply gc<;>simp+contextual))
  all_goals simp [SA,At.a,At.c,hk]
 ·have n5:¬ op=5:=by omega
  have n21:¬ op=21:=by omega
  have hvl:=xI v hval (.inr (.inr hk)) (by omega)
  simp [n5,n21,hk,bT,fH,Ex.a,Ex.c,dZ,At.a,At.c,V.a,Tb.a,Tb.c] at hs hex hsm hvl ⊢
  (repeat' first|contradiction|exact .ok|apply And.intro|intro _|(apply gc<;>simp+contextual[n5,n21]))
  refine aP hvl ?_
  simp
  (repeat' first|contradiction|exact .ok|apply And.intro|intro _|(apply gc<;>simp+contextual))
  refine aP hs ?_
  simp
  (repeat' first|contradiction|exact .ok|apply And.intro|intro _|(apply gc<;>simp+contextual))
  refine aP hex ?_
  simp
  refine aP hsm ?_
  simp
  (repeat' first|contradiction|exact .ok|apply And.intro|intro _|(apply gc<;>simp+contextual))
  all_goals simp [SA,At.a,At.c,hk]
def shF (o c n g:Int) (t:List UInt8) (ks:List Ex) (d:Int):Nat→St
 | 0=>{ s:=cE [(1,.d (.int .i64 d)),(2,.ptr 2 0 0),(4,.ptr 4 0 0),(19,.d (.sl (ks.map Ex.c))),(20,.d (.int .i64 ks.length)),(21,.d (.int .i64 0))],b:=cC [(2,2,.var [.d (.int .i64 o),.d (.int .i64 c),.d (.int .i64 n),.d (.str t),.d (.int .i64 g),.nils]),(4,4,.var [.d (.int .i64 0),.d (.int .i64 0),.d (.int .i64 0),.d (.str []),.d (.int .i64 0),.nils])] }
 | i+1=>{ s:=cE [(1,.d (.int .i64 d)),(2,.ptr 2 0 0),(4,.ptr 4 0 0),(19,.d (.sl (ks.map Ex.c))),(20,.d (.int .i64 ks.length)),(21,.d (.int .i64 (i+1:Nat)))],b:=cC [(2,2,.var [.d (.int .i64 o),.d (.int .i64 c),.d (.int .i64 n),.d (.str t),.d (.int .i64 g),.ref 900 0 (i+1) 6]),(4,4,.var [.d (.int .i64 0),.d (.int .i64 0),.d (.int .i64 0),.d (.str []),.d (.int .i64 0),.nils]),(900,31,.arr 89 6 ((ks.take (i+1)).map fun e=>(e.shift d).c) false)] }
theorem wK:∀ (m:Nat) (e:Ex),SizeOf.sizeOf e<m→∀ q:Nat,e.few q=true→∀ d:Int,Cf En 139 [e.a,.d (.int .i64 d)] [] (e.shift d).a []
 | 0,_,h,_,_,_=>absurd h (by omega)
 | m+1,.mk o c n t g ks,hm,q,hq,d=>by
   refine cI aW (fn:=Tryz.f139) rfl ?_
   have hks:ks.length≤12∧gN ks (q+1)=true:=by
    rw [Ex.few] at hq
    by_cases h1:60<q
    ·simp [h1] at hq
    by_cases h2:12<ks.length
    ·simp [h1,h2] at hq
    by_cases h3:200<t.length
    ·simp [h1,h2,h3] at hq
    ·simp [h1,h2,h3] at hq
     exact ⟨by omega,hq⟩
   have hs:(Ex.mk o c n t g ks).shift d=.mk o c n t (if o=5 then IntKind.i64.wrap (g+d) else g) (ks.map fun e=>e.shift d):=by rw [Ex.shift,fV]
   rw [hs]
   generalize hg:(if o=5 then IntKind.i64.wrap (g+d) else g)=g'
   have hgo:(o=5∧IntKind.i64.wrap (g+d)=g')∨(o ≠ 5∧g=g'):=by
    by_cases h5:o=5
    ·exact .inl ⟨h5,by simpa [h5] using hg⟩
    ·exact .inr ⟨h5,by simpa [h5] using hg⟩
   rcases hgo with ⟨h5,hg'⟩ | ⟨h5,hg'⟩ <;> simp [Ex.a,Ex.c,aE,hg',h5] <;> repeat' (first | exact .of (by kernel_rfl) | refine And.intro ?_ ?_)
   all_goals
    refine aL aW (shF o c n g' t ks d) (fun i:Nat=>i≤ks.length) (fun i=>ks.length - i) 0 (by simp) (aI [(1,_),(2,_),(4,_),(19,_),(20,_),(21,_)] [(2,2,_),(4,4,_)] ⟨by simp,by simp,by simp [aB,Blk.live,h5],by simp⟩ (by simp [aB])) ?_
    intro i hi
    have hfew:=hks.2
    rw [pW,List.all_eq_true] at hfew
    by_cases hlt:i<ks.length
    ·have hgi:ks[i]?=some ks[i]:=gE hlt
     have c1:=Ex.clen ks[i]
     have k1:=Ex.ctake ks[i]
     have c2:=Ex.clen (ks[i].shift d)
     have hkid:SizeOf.sizeOf ks[i]<m:=by
      have:=Ex.kid_lt (e:=.mk o c n t g ks) (k:=ks[i]) (List.getElem_mem hlt)
      omega
     have hrec:=wK m ks[i] hkid (q+1) (hfew _ (List.getElem_mem hlt)) d
     have htk:List.take (i+1) (List.map (fun e=>(Ex.shift e d).c) ks)=List.take i (List.map (fun e=>(Ex.shift e d).c) ks)++[(ks[i].shift d).c]:=by
      rw [List.take_succ,List.getElem?_map,hgi]; rfl
     cases i with
     | zero =>
       have hlt':0<ks.length:=hlt
       have hlt2:(0:Int)<ks.length:=by omega
       simp [shF,hlt',c1,k1]
       refine ⟨.of (by kernel_rfl),.of (by kernel_rfl),aA hrec (by simp [Ex.a]) ?_⟩
       simp [Ex.a,c2,Ex.ctake']
       refine ⟨.of (by kernel_rfl),.of (by kernel_rfl),1,hlt',?_,?_⟩
       ·refine aI [(1,_),(2,_),(4,_),(19,_),(20,_),(21,_)] [(2,2,_),(4,4,_),(900,31,_)] ⟨by simp,by simp,?_,by simp⟩ ?_
        ·simp only [Nat.zero_add,List.take_zero,List.nil_append] at htk
         simp [aB,Blk.live,htk]
        ·simp [aB]
         exact bL (by omega) (by omega)
       ·simp; omega
     | succ i =>
       have hlt2:((i+1:Nat):Int)<ks.length:=by omega
       have hlt3:(i:Int)+1<ks.length:=by omega
       have hi1:i+1≤ks.length:=hi
       have hp:(0:Int)≤(i:Int)+1:=by omega
       have hmin:min (i+1) ks.length=i+1:=by omega
       have hb:=hks.1
       simp [shF,hlt,hlt3,hp,c1,k1]
       refine ⟨.of (by kernel_rfl),.of (by kernel_rfl),aA hrec (by simp [Ex.a]) ?_⟩
       have s1:(i+1+1)*72≤140737488355328:=by omega
       have s2:i≤9223372036854775805:=by omega
       simp [Ex.a,c2,Ex.ctake',hmin,s1,s2]
       refine ⟨.of (by kernel_rfl),.of (by kernel_rfl),i+2,by omega,?_,?_⟩
       ·refine aI [(1,_),(2,_),(4,_),(19,_),(20,_),(21,_)] [(2,2,_),(4,4,_),(900,31,_)] ⟨by simp,by simp,?_,by simp⟩ ?_
        ·simp [aB,Blk.live,htk]
        ·simp [aB]
         rw [bL (by omega) (by omega)]
       ·simp; omega
    ·have hie:i=ks.length:=by omega
     subst hie
     cases hk:ks.length with
     | zero =>
       simp [shF,hk]
       refine ⟨.of (by kernel_rfl),.of (by kernel_rfl),?_⟩
       have:ks=[]:=List.eq_nil_of_length_eq_zero hk
       rw [this]; rfl
     | succ i =>
       simp [shF,hk]
       refine ⟨.of (by kernel_rfl),.of (by kernel_rfl),?_⟩
       rw [List.take_of_length_le (by simp [hk]),List.take_of_length_le (by simp [hk]),aE,List.map_map]; rfl
@[simp] theorem Bk.clen (x:Bk):x.c.length=3:=rfl
theorem eD (l:List Bk):(aX l).length=l.length:=List.length_map _
theorem HI {l:List Bk} {i:Nat} (h:i<l.length):aJ (aX (l.take (i+1)))=aJ (aX (l.take i))++[(l[i].n:Int)]:=by
 unfold aJ aX
 rw [bI h,List.map_append,List.map_append]
 rfl
theorem wL (l:List Bk) (hl:l.length≤900):Cf En 47 [.d (.sl (l.map Bk.c))] [] (.d (.sl (aD (aJ (aX l))))) []:=by
 refine cI aW (fn:=Tryz.f47) rfl ?_
 simp
 (repeat' first|contradiction|exact .ok|apply And.intro|intro _|(apply gc<;>simp+contextual))
 refine aL aW (fun i:Nat=>{ s:=cE [(3,.ref 900 0 i 1),(6,.d (.sl (l.map Bk.c))),(7,.d (.int .i64 l.length)),(8,.d (.int .i64 i))],b:=cC [(900,900,.arr 3 1 (aD (aJ (aX (l.take i)))) false)] }) (fun i=>i≤l.length) (fun i=>l.length - i) 0 (by simp)
  (fD 3 900 3 1 (by simp) (by simp) (by decide) (by decide) _ [(900,900,_)] ⟨by simp,by simp,by simp [aB,Blk.live,aJ,aX,aD],by simp⟩ (by simp [aB])) ?_
 intro i hi
 have hol:(aJ (aX (l.take i))).length=i:=by rw [dC,eD,List.length_take]; omega
 by_cases hlt:i<l.length
 ·obtain ⟨b,hb⟩:∃ b,b=l[i]:=⟨_,rfl⟩
  have hgb:∀ h,l[i]'h=b:=fun _=>hb.symm
  have hct:=HI hlt
  rw [← hb] at hct
  have hw:=wI (n:=(i:Int)+1)
  generalize aJ (aX (l.take i))=O at *
  have htk:(aD O).take i=aD O:=List.take_of_length_le (by simp [aD,hol])
  simp [hlt,hgb,Bk.c,hol,htk,gF (i+1) (by omega) 8 (by decide)]
  (repeat' first|contradiction|exact .ok|apply And.intro|intro _|(apply gc<;>simp+contextual))
  refine ⟨i+1,by omega,?_,by simp; omega⟩
  exact sM _ [(900,16,_)] (by simp [aB,Blk.live,hct,aD]) (by simp [aB,hw])
 obtain rfl:i=l.length:=by omega
 rw [List.take_length] at *
 have htk:(aD (aJ (aX l))).take l.length=aD (aJ (aX l)):=List.take_of_length_le (by simp [aD,hol])
 simp [hol,htk]
 all_goals exact gz
theorem DV (X:List (List Bk)) (k:Nat) (l:List Bk) (hXk:X[k]?=some l) (hl:l.length≤900) (hs:bD (aX l)≤1000000000) (hX:X.length≤1000):Cf En 13 [cP X,.d (.int .i64 k)] [] (.d (.int .i64 (bD (aX l)))) []:=by
 refine cI aW (fn:=Tryz.f13) rfl ?_
 obtain ⟨hk,hgl0⟩:=List.getElem?_eq_some_iff.1 hXk
 have hgl:∀ h,X[k]'h=l:=fun _=>hgl0
 have hc:=wL l hl
 have ho:=sQ (aX l) (by rw [eD]; omega) hs
 have hol:(aJ (dJ 0 (aX l))).length=l.length+1:=by rw [dC,iK,eD]
 have hlast:∀ h,(aJ (dJ 0 (aX l)))[l.length]'h=(bD (aX l):Int):=fun h=>by
  have hj:l.length<(dJ 0 (aX l)).length:=by rw [dC] at h; exact h
  rw [gC hj]
  have:=xY (aX l)
  rw [eD,gE hj,Option.some.injEq] at this
  rw [this]
 generalize aJ (dJ 0 (aX l))=O at *
 have hkn:¬ (k:Int)<0:=by omega
 have hkg:¬ (X.length:Int)≤k:=by omega
 have hkg2:¬ X.length≤k:=by omega
 have e1:(l.length:Int)+1 - 1=l.length:=by omega
 have hw1:=wI (n:=(l.length:Int))
 have hll:l.length<O.length:=by omega
 simp [cP,hkn,hkg]
 (repeat' first|contradiction|exact .ok|apply And.intro|intro _|(apply gc<;>simp+contextual[hkn,hkg,hkg2]))
 simp [hk,hgl,iG]
 (repeat' first|contradiction|exact .ok|apply And.intro|intro _|(apply gc<;>simp+contextual))
 refine aP hc ?_
 simp
 refine aP ho ?_
 simp [hol,e1,hw1,hlast]
 (repeat' first|contradiction|exact .ok|apply And.intro|intro _|(apply gc<;>simp+contextual[hol,e1,hw1,hll,hlast]))
end Go.Proofs.Tryz
