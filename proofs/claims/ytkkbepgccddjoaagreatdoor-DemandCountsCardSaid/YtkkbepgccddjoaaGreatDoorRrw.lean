import Derived.Test.YtkkbepgccddjoaaGreatDoorCRpa
import Derived.Test.YtkkbepgccddjoaaGreatDoorCSpl
import Derived.Test.YtkkbepgccddjoaaGreatDoorCRwc
import Derived.Test.YtkkbepgccddjoaaGreatDoorCSmc
import Derived.Test.YtkkbepgccddjoaaGreatDoorAbB
set_option linter.all false
namespace Go.Proofs.Tryz
open Go.Ab
set_option maxRecDepth 100000
set_option maxHeartbeats 8000000
structure aIf (S:List Tb) (T:Nat→List (List V)) (l:List Nat) (path:List Int) (n:Nat) (y:Nat×List V×Nat):Prop where
 le:y.1≤l.length
 z:y.1=0→y.2.1=[]
 row:∀ j,y.1=j+1→y.2.1=(qV S T l path n j).1
 num:y.1<l.length→y.2.2=(qV S T l path n y.1).2
theorem sU {α:Type} (T:Nat→α) {n k:Nat} (hk:k<n):∀ h,(aO T n)[k]'h=T k:=fun h=>by
 have:=bE T n k
 rw [if_pos hk,gE h] at this
 exact Option.some.inj this
theorem OQ {S:List Tb} {T:Nat→List (List V)} {l:List Nat} {path:List Int} {n k:Nat} (h:l[0]?=some k):(qV S T l path n 0).1=[]++gS T k n:=by
 rw [qV,h]; rfl
theorem VX {S:List Tb} {T:Nat→List (List V)} (h:tA S T) (hpl:Cf Es 61 [aN S] [] (.d (.bool true)) []) {v:Vw} {l:List Nat} (hc:dW S v=some l) (hl3:l.length≤100) {k0 n:Nat} (h0:l[0]?=some k0) (hn:n<(T k0).length) :
  Cf Es 24 [aN S,dT (aO T S.length),v.a,.d (.int .i64 n)] [] (.tup [.d (.sl ((qV S T l v.path n v.path.length).1.map V.c)),.d (.bool true)]) []:=by
 obtain ⟨hlt,hll⟩:=cK hc
 have hfew:=h.fill.few
 have hta:=eG (kF S (by omega) h.fill.ok.ok v (by omega))
 rw [hc] at hta
 unfold lP at hta
 simp only at hta
 have hk0:=hlt k0 (List.mem_of_getElem? h0)
 have hIl:(aO T S.length).length=S.length:=dR ..
 have hIm:∀ t∈aO T S.length,t.length≤1000:=fun t ht=>by obtain ⟨j,_,rfl⟩:=fE.1 ht; exact h.len j
 have hgI:∀ k,k<S.length→∀ h,(aO T S.length)[k]'h=T k:=fun k hk=>sU T hk
 have hgI?:∀ k,k<S.length→(aO T S.length)[k]?=some (T k):=fun k hk=>by rw [bE,if_pos hk]
 have hpar:=fun k f to x o g hk hx hf hg hto ho row hrow=>eG (aCl S h.fill (aO T S.length) hIm k f to x o g hk hx hf hg hto ho row hrow)
 generalize aO T S.length=I at *
 have hnl:=cH l
 have hga:∀ (i k:Nat),l[i]?=some k→∀ h',(aD (aJ l))[i]'h'=[D.int .i64 (k:Int)]:=fun i k e h'=>by
  obtain ⟨a,b⟩:=List.getElem?_eq_some_iff.1 e
  simp [aD,aJ,b]
 have hga0:=hga 0 k0 h0
 have hl0:0<l.length:=by omega
 have hZ0:0<(aD (aJ l)).length:=by omega
 generalize hZ:aD (aJ l)=Z at *
 have hk0I:k0<I.length:=by omega
 have hgT:=hgI k0 hk0
 have n1:¬ (n:Int)<0:=by omega
 have n2:¬ ((T k0).length:Int)≤n:=by omega
 have n3:¬ (I.length:Int)<S.length:=by omega
 have n3n:¬ I.length<S.length:=by omega
 refine cI bM (fn:=Tryz.f24) rfl ?_
 simp [aN,dT,Vw.a,Vw.c] at hta hpl hpar ⊢
 (repeat' first|contradiction|exact .ok|apply And.intro|intro _|(apply gc<;>simp+contextual))
 refine aP hta ?_
 simp [hZ0,hga0,hk0I,hgT,fY,n1,n2,n3]
 (repeat' first|contradiction|exact .ok|apply And.intro|intro _|(apply gc<;>simp+contextual[hZ0,hga0,hk0I,hgT,fY,n1,n2,n3,n3n]))
 refine aP hpl ?_
 simp
 (repeat' first|contradiction|exact .ok|apply And.intro|intro _|(apply gc<;>simp+contextual))
 refine aL bM (fun y:Nat×List V×Nat=>{ s:=cE [(3,.d (.int .i64 y.2.2)),(4,.ptr 4 0 0),(5,.ptr 5 0 0),(6,.ptr 6 0 0),(10,.d (.sl Z)),(12,.ref 912 0 y.2.1.length 3),(13,.d (.int .i64 y.1))],b:=cC [(4,4,.var [.d (.sl (S.map Tb.c))]),(5,5,.var [.d (.sl (I.map fY))]),(6,6,.var (v.c.map AV.d)),(912,912,.arr 92 3 (y.2.1.map V.c) false)] })
  (fun y=>aIf S T l v.path n y∧y.2.1.length≤20*y.1) (fun y=>l.length - y.1) (0,[],n) ⟨⟨by simp,fun _=>rfl,fun j e=>by simp at e,fun _=>rfl⟩,by simp⟩
  (fD 12 912 92 3 (by simp) (by simp) (by decide) (by decide) _ [(4,4,_),(5,5,_),(6,6,_),(912,912,_)] ⟨by simp,by simp,by simp [aB,Blk.live,Vw.c],by simp⟩ (by simp [aB])) ?_
 rintro ⟨i,out,r⟩ ⟨hI,hol⟩
 obtain ⟨i1,i2,i3,i4⟩:=hI
 simp only at i1 i2 i3 i4 hol
 by_cases hlt2:i<l.length
 ·have hr:=i4 hlt2
  obtain ⟨k,hk,hrk,hrl⟩:=OT h hc h0 hlt hn i (by omega)
  rw [← hr] at hrk
  have hkS:=hlt k (List.mem_of_getElem? hk)
  obtain ⟨x,hx⟩:∃ x,x=S[k]:=⟨_,rfl⟩
  have hgx:∀ h,S[k]'h=x:=fun _=>hx.symm
  have hxm:x∈S:=by rw [hx]; exact List.getElem_mem hkS
  have htab:aR S k=x:=by unfold aR; rw [gE hkS,hx]; rfl
  have hxc:=h.fill.cols x hxm
  obtain ⟨row,hrow⟩:∃ w,w=gS T k r:=⟨_,rfl⟩
  have hgr:∀ h',(T k)[r]'h'=row:=fun h'=>by rw [hrow]; unfold gS; rw [gE h']; rfl
  have hrowl:row.length=x.cols.length:=by
   have:=(h.row k hkS r row (by rw [gE hrk,hgr])).len
   rw [htab] at this; exact this
  have hgak:=hga i k hk
  have hiZ:i<Z.length:=by omega
  have hkI:k<I.length:=by omega
  have hgTk:=hgI k hkS
  have hw:=wI (n:=(i:Int)+1)
  have m1:¬ (row.length:Int)<x.cols.length:=by omega
  have m1n:¬ row.length<x.cols.length:=by omega
  have htr:(row.map V.c).take x.cols.length=row.map V.c:=List.take_of_length_le (by simp; omega)
  have hto:(out.map V.c).take out.length=out.map V.c:=List.take_of_length_le (by simp)
  have hs1:=gF out.length (by omega) 32 (by decide)
  have hs2:=gF (out.length+row.length) (by omega) 32 (by decide)
  have hs3:=gF (out.length+x.cols.length) (by omega) 32 (by decide)
  have hout:out++row=(qV S T l v.path n i).1:=by
   cases i with
   | zero =>
     rw [i2 rfl,OQ hk,hrow,hr]
     rfl
   | succ j =>
     obtain ⟨k',m,e1,e2,e3⟩:∃ k' m,l[j]?=some k'∧l[j+1]?=some m∧True:=⟨l[j],l[j+1],gE (by omega),gE hlt2,trivial⟩
     rw [qV]
     rw [hk,Option.getD_some,← i3 j rfl,hrow,hr,qV]
  have hle:x.cols.length≤row.length:=by omega
  by_cases hip:i<v.path.length
  ·obtain ⟨m,k',hm,hk2,hst⟩:=jX hc i hip
   rw [hk] at hk2
   cases hk2
   obtain ⟨f,q,g,hf,hg,htg,htn,hrf,hq,_,hnx⟩:=wH h (n:=n) hip hk hm hst hkS (by rw [← hr]; exact hrk)
   rw [← hr,← hrow] at hrf
   have hmS:=hlt m (List.mem_of_getElem? hm)
   rw [htab] at hg
   obtain ⟨hfl,hge⟩:=List.getElem?_eq_some_iff.1 hg
   have hp:=hpar k f m x (aR S m) g hkS hx.symm hfl hge htg (fun _=>by unfold aR; rw [gE hmS]; rfl) row (by omega)
   rw [if_pos (by omega),hgI? m hmS,Option.getD_some,hrf] at hp
   unfold ZD at hp
   rw [if_pos (by omega)] at hp
   have hgf:∀ h,v.path[i]'h=(f:Int):=fun _=>hf
   simp [hiZ,hgak,hkS,hgx,hkI,hgTk,fY,hrk,hgr,gO,Tb.c,m1,hle,htr,hs2,Vw.c,hip,hgf]
   (repeat' first|contradiction|exact .ok|apply And.intro|intro _|(apply gc<;>simp+contextual[m1,hip]))
   refine aP hp ?_
   simp
   (repeat' first|contradiction|exact .ok|apply And.intro|intro _|(apply gc<;>simp+contextual))
   refine ⟨(i+1,out++row,q),⟨⟨by simp only; omega,fun e=>by simp at e,fun j e=>?_,fun e=>?_⟩,by simp; omega⟩,?_,by simp; omega⟩
   ·simp only [Nat.add_right_cancel_iff] at e
    subst e
    exact hout
   ·rw [hnx]
   exact sM _ [(4,4,_),(5,5,_),(6,6,_),(912,96,_)] (by simp [aB,Blk.live]) (by simp [aB,hw])
  ·simp [hiZ,hgak,hkS,hgx,hkI,hgTk,fY,hrk,hgr,gO,Tb.c,m1,hle,htr,hs2,Vw.c,hip]
   (repeat' first|contradiction|exact .ok|apply And.intro|intro _|(apply gc<;>simp+contextual[m1,hip]))
   refine ⟨(i+1,out++row,r),⟨⟨by simp only; omega,fun e=>by simp at e,fun j e=>?_,fun e=>?_⟩,by simp; omega⟩,?_,by simp; omega⟩
   ·simp only [Nat.add_right_cancel_iff] at e
    subst e
    exact hout
   ·simp only at e; omega
   exact sM _ [(4,4,_),(5,5,_),(6,6,_),(912,96,_)] (by simp [aB,Blk.live]) (by simp [aB,hw])
 obtain rfl:i=l.length:=by omega
 rw [i3 v.path.length (by omega)] at hol ⊢
 generalize (qV S T l v.path n v.path.length).1=R at *
 have hto:(R.map V.c).take R.length=R.map V.c:=List.take_of_length_le (by simp)
 simp [hnl]
 all_goals exact gz
end Go.Proofs.Tryz
