import Derived.Test.YtkkbepgccddjoaaGreatDoorCSpl
import Derived.Test.YtkkbepgccddjoaaGreatDoorCRwc
import Derived.Test.YtkkbepgccddjoaaGreatDoorCSmb
import Derived.Test.YtkkbepgccddjoaaGreatDoorRal
import Derived.Test.YtkkbepgccddjoaaGreatDoorCMvz
import Derived.Test.YtkkbepgccddjoaaGreatDoorCSmR
import Derived.Test.YtkkbepgccddjoaaGreatDoorRrw
import Derived.Test.YtkkbepgccddjoaaGreatDoorCSsp
import Derived.Test.YtkkbepgccddjoaaGreatDoorCShr
set_option linter.all false
namespace Go.Proofs.Tryz
open Go.Ab
set_option maxRecDepth 100000
set_option maxHeartbeats 8000000
def iZ (P:Nat→Bool):Nat→Nat
 | 0=>0
 | n+1=>iZ P n+(if P n=true then 1 else 0)
theorem NE (P:Nat→Bool) (a:Nat):∀ b,iZ P (a+b)=iZ P a+iZ (fun n=>P (a+n)) b
 | 0=>rfl
 | b+1=>by rw [← Nat.add_assoc,iZ,iZ,NE P a b]; omega
theorem CL {P Q:Nat→Bool}:∀ {n:Nat},(∀ i,i<n→P i=Q i)→iZ P n=iZ Q n
 | 0,_=>rfl
 | n+1,h=>by rw [iZ,iZ,CL (fun i hi=>h i (by omega)),h n (by omega)]
theorem CM (c:Bool):∀ n,iZ (fun _=>c) n=if c=true then n else 0
 | 0=>by simp [iZ]
 | n+1=>by rw [iZ,CM c n]; split <;> rfl
theorem zR (P:Nat→Bool):∀ n,iZ P n≤n
 | 0=>Nat.le_refl 0
 | n+1=>by have:=zR P n; rw [iZ]; split <;> omega
def zF (S:List Tb) (T:Nat→List (List V)) (l:List Nat) (v:Vw) (n:Nat):Bool:=lE v (qV S T l v.path n v.path.length).1
theorem jY (S:List Tb) {l:List Nat} {n:Nat} (h:n<l.length):cG S l (n+1)=cG S l n+(aR S l[n]).cols.length:=by
 unfold cG
 rw [uB S h,List.length_append]
theorem GK {S:List Tb} (h:iP S) {l:List Nat} (hl:∀ k∈l,k<S.length) (h3:l.length≤100):∀ z,z<l.length→cG S l z≤1000000∧(aR S ((l[z]?).getD 0)).cols.length≤1000:=fun z hz=>by
 have hcb:∀ k∈l,(aR S k).cols.length≤20:=fun k hk=>h.cols _ (by unfold aR; rw [gE (hl k hk)]; exact List.getElem_mem (hl k hk))
 have:=hcb _ (List.getElem_mem hz)
 rw [gE hz,Option.getD_some]
 refine ⟨?_,by omega⟩
 have hsum:∀ i,i≤l.length→cG S l i≤20*i:=fun i=>by
  induction i with
  | zero=>intro _; simp [cG,cA]
  | succ i ih =>
    intro hi
    have:=hcb _ (List.getElem_mem (show i<l.length by omega))
    rw [jY S (n:=i) (by omega)]
    have:=ih (by omega)
    omega
 have:=hsum z (by omega)
 omega
theorem OR (S:List Tb) (hl:S.length≤1000) (hS:∀ x∈S,x.ok) (v:Vw) (hv:v.path.length≤50) (l:List Nat) (hc:dW S v=some l) :
  Cf En 99 [aN S,v.a] [] (.d (.sl ((cA S l).map Col.c))) []:=by
 refine cI aW (fn:=Tryz.f99) rfl ?_
 have ht:=kF S hl hS v (by omega)
 rw [hc] at ht
 obtain ⟨h1,h2⟩:=cK hc
 have hnl:=cH l
 have hga:∀ i (h:i<l.length),∀ h',(aD (aJ l))[i]'h'=[.int .i64 (l[i]:Int)]:=fun i h h'=>by simp [aD,aJ]
 unfold lP at ht
 simp only at ht ⊢
 generalize hZ:aD (aJ l)=Z at *
 simp [aN,Vw.a,Vw.c] at ht ⊢
 (repeat' first|contradiction|exact .ok|apply And.intro|intro _|(apply gc<;>simp+contextual))
 refine aP ht ?_
 simp
 (repeat' first|contradiction|exact .ok|apply And.intro|intro _|(apply gc<;>simp+contextual))
 refine aL aW (fun i:Nat=>{ s:=cE [(2,.ptr 2 0 0),(5,.d (.sl Z)),(7,.ref 907 0 (cA S (l.take i)).length 3),(8,.d (.int .i64 i))],b:=cC [(2,2,.var [.d (.sl (S.map Tb.c))]),(907,907,.arr 85 3 ((cA S (l.take i)).map Col.c) false)] })
  (fun i=>i≤l.length∧(cA S (l.take i)).length≤1000*i) (fun i=>l.length - i) 0 ⟨by simp,by simp [cA]⟩
  (fD 7 907 85 3 (by simp) (by simp) (by decide) (by decide) _ [(2,2,_),(907,907,_)] ⟨by simp,by simp,by simp [aB,Blk.live,cA],by simp⟩ (by simp [aB,cA])) ?_
 rintro i ⟨hi,hCl⟩
 by_cases hlt:i<l.length
 ·have hw:=wI (n:=(i:Int)+1)
  have hk:=h1 l[i] (List.getElem_mem hlt)
  have htab:aR S l[i]=S[l[i]]:=by unfold aR; rw [gE hk]; rfl
  have hcl:=(hS _ (List.getElem_mem hk)).cols
  have hsu:cA S (l.take (i+1))=cA S (l.take i)++S[l[i]].cols:=by
   unfold cA
   rw [bI hlt,List.flatMap_append]
   simp [htab]
  have hgl:=hga i hlt
  have hiZ:i<Z.length:=by omega
  generalize hkk:l[i]=k at *
  obtain ⟨x,hx⟩:∃ x,x=S[k]:=⟨_,rfl⟩
  have hgx:∀ h,S[k]'h=x:=fun _=>hx.symm
  rw [← hx] at hcl hsu
  generalize cA S (l.take i)=C at *
  have htk:(C.map Col.c).take C.length=C.map Col.c:=List.take_of_length_le (by simp)
  have hz:=gF C.length (by omega) 32 (by decide)
  have hz2:=gF (C.length+x.cols.length) (by omega) 32 (by decide)
  simp [show ∀ u:Col,u.c.length=3 from fun _=>rfl,hnl,hlt,hgl,hk,hgx,Tb.c,htk,hz2]
  (repeat' first|contradiction|exact .ok|apply And.intro|intro _|(apply gc<;>simp+contextual))
  refine ⟨i+1,⟨by omega,by rw [hsu,List.length_append]; omega⟩,?_,by simp; omega⟩
  simp only [hsu]
  exact sM _ [(2,2,_),(907,31,_)] (by simp [aB,Blk.live]) (by simp [aB,hw])
 obtain rfl:i=l.length:=by omega
 rw [List.take_length] at hCl ⊢
 generalize cA S l=C at *
 have htk:(C.map Col.c).take C.length=C.map Col.c:=List.take_of_length_le (by simp)
 simp [hnl,htk]
 all_goals exact gz
theorem aCn (n:Nat):zA (fun _=>[]) n=List.replicate n [D.sl []]:=by
 unfold zA
 rw [lY]
 rfl
theorem aCo {E:eC} {N nb:Nat} {st:St} (n:Nat) {ety m:Nat} (hb:st.b n=.arr ety 1 (List.replicate m [EM]) false) :
  Sub E N nb st { s:=st.s,b:=bP st.b n (.arr ety 1 (List.replicate m [D.sl []]) false) }:=by
 refine (lX n hb).trans ?_
 have h:=zO (E:=E) (N:=N) (nb:=nb) (st:={ s:=st.s,b:=bP st.b n (.varr ety 1 (List.replicate m [.nils])) }) n (ety:=ety) (xs:=List.replicate m [.nils]) (List.replicate m [D.sl []]) (by simp [bP]) (by simp) (fun i x y hx hy=>by
  rw [List.getElem?_replicate] at hx hy
  split at hx <;> simp only [Option.some.injEq,reduceCtorEq] at hx
  rename_i hi
  rw [if_pos hi] at hy
  simp only [Option.some.injEq] at hy
  subst hx hy
  exact ⟨_,_,rfl,rfl,rfl⟩)
 have e:bP (bP st.b n (.varr ety 1 (List.replicate m [.nils]))) n (.arr ety 1 (List.replicate m [D.sl []]) false)=bP st.b n (.arr ety 1 (List.replicate m [D.sl []]) false):=by
  funext j
  simp only [bP]
  split <;> rfl
 simp only [e] at h
 exact h
theorem ZE (S:List Tb) (hl:S.length≤1000) (hS:∀ x∈S,x.ok) {v:Vw} {l:List Nat} (h:JN S v l) (hc:∀ e∈v.cond,MS S l e) (hoff:∀ z,z<l.length→cG S l z≤1000000∧(aR S ((l[z]?).getD 0)).cols.length≤1000) :
  ∃ A,Cf En 101 [aN S,v.a] [] (.tup [.d (.sl (zA A l.length)),.d (.bool true)]) []:=by
 obtain ⟨hlt,hll⟩:=cK h.ch
 have h3:=h.len
 have hone:=h.one
 have hta:=kF S hl hS v (by omega)
 rw [h.ch] at hta
 unfold lP at hta
 simp only at hta
 have hzero:=aCn l.length
 obtain ⟨F,hF0,hF⟩:∃ F:Nat→Nat→List At,F 0=(fun _=>[])∧∀ i (hi:i<v.cond.length),Cf En 148 [aN S,.d (.sl (aD (aJ l))),v.cond[i].a,.ref 1000000 0 l.length 1] [.arr 178 1 (zA (F i) l.length) false] (.d (.bool true)) [.arr 178 1 (zA (F (i+1)) l.length) false]:=by
  match hcd:v.cond,hone with
  | [],_=>exact ⟨fun _ _=>[],rfl,fun i hi=>absurd hi (by simp)⟩
  | [e],_ =>
    have hn:e.nodes≤12:=by have:=h.n12; rw [hcd,aU,aU] at this; omega
    obtain ⟨B,_,hB⟩:=ZB S hS l (by omega) hlt hoff (hc e (by rw [hcd]; simp)) 0 (h.few e (by rw [hcd]; simp)).1 (by omega) (fun _=>[]) (fun j=>by simp; omega)
    refine ⟨fun i=>if i=0 then fun _=>[] else B,rfl,fun i hi=>?_⟩
    obtain rfl:i=0:=by simpa using hi
    exact hB
 have hfl:=fun i=>AC (F i) l.length
 have hft:(zA (F v.cond.length) l.length).take l.length=zA (F v.cond.length) l.length:=List.take_of_length_le (by rw [AC]; exact Nat.le_refl _)
 refine ⟨F v.cond.length,?_⟩
 have hnl:=cH l
 generalize aD (aJ l)=Z at *
 have c1:¬ (1:Int)<v.cond.length:=by omega
 have c1n:¬ 1<v.cond.length:=by omega
 have hnn:¬ (l.length:Int)<0:=by omega
 refine cI aW (fn:=Tryz.f101) rfl ?_
 simp [aN,Vw.a,Vw.c] at hta hF ⊢
 (repeat' first|contradiction|exact .ok|apply And.intro|intro _|(apply gc<;>simp+contextual))
 refine aP hta ?_
 have hm1:(l.length:Int)≤9223372036854775807∧24*(l.length:Int)≤281474976710656:=by omega
 simp [c1,hnl,hm1]
 (repeat' first|contradiction|exact .ok|apply And.intro|intro _|(apply gc<;>simp+contextual[c1,c1n,hnl]))
 refine aL aW (fun i:Nat=>{ s:=cE [(2,.ptr 2 0 0),(3,.ptr 3 0 0),(6,.d (.sl Z)),(8,.ref 901 0 l.length 1),(9,.d (.int .i64 i))],b:=cC [(2,2,.var [.d (.sl (S.map Tb.c))]),(3,3,.var (v.c.map AV.d)),(901,901,.arr 178 1 (zA (F i) l.length) false)] })
  (fun i=>i≤v.cond.length) (fun i=>v.cond.length - i) 0 (by simp)
  ((aCo 26 (m:=l.length) (ety:=178) (by simp [EM])).trans (sM _ [(2,2,_),(3,3,_),(901,26,_)] (by simp [aB,Blk.live,Vw.c,hF0,hzero,bP]) (by simp [aB]))) ?_
 intro i hi
 by_cases hlt:i<v.cond.length
 ·have hw:=wI (n:=(i:Int)+1)
  have hki:=hF i hlt
  obtain ⟨e,he⟩:∃ e,e=v.cond[i]:=⟨_,rfl⟩
  have hge:∀ h,v.cond[i]'h=e:=fun _=>he.symm
  have hel:=Ex.clen e
  have het:=Ex.ctake e
  rw [← he] at hki
  simp [hlt,Vw.c,hge,hel,het]
  (repeat' first|contradiction|exact .ok|apply And.intro|intro _|(apply gc<;>simp+contextual))
  refine aH [901] hki (by simp) (by simp [Ex.a]) ?_
  simp
  (repeat' first|contradiction|exact .ok|apply And.intro|intro _|(apply gc<;>simp+contextual))
  refine ⟨i+1,by omega,?_,by simp; omega⟩
  exact sM _ [(2,2,_),(3,3,_),(901,901,_)] (by simp [aB,Blk.live]) (by simp [aB,hw])
 obtain rfl:i=v.cond.length:=by omega
 simp [Vw.c,hfl,hft]
 all_goals exact gz
theorem TG {S:List Tb} (hl:S.length≤1000) (hS:∀ x∈S,x.ok) (hc3:∀ x∈S,x.cols.length≤300) (hpl:Cf Es 61 [aN S] [] (.d (.bool true)) []) {v:Vw} {l:List Nat} (h:JN S v l) (hc:∀ e∈v.cond,MS S l e) (hoff:∀ z,z<l.length→cG S l z≤1000000∧(aR S ((l[z]?).getD 0)).cols.length≤1000) :
  Cf Es 56 [aN S,v.a] [] (.d (.int .i64 0)) []:=by
 obtain ⟨hlt,hll⟩:=cK h.ch
 have h3:=h.len
 obtain ⟨A,hat⟩:=ZE S hl hS h hc hoff
 have hat:=eG hat
 have hta:=eG (kF S hl hS v (by omega))
 have hco:=eG (OR S hl hS v (by omega) l h.ch)
 have hfi:=eG (wJ S hl v.tb)
 rw [h.ch] at hta
 unfold lP at hta
 simp only at hta
 have h0:0≤mV S v.tb:=by
  have:=h.ch
  unfold dW at this
  split at this
  ·rename_i e; exact e
  ·cases this
 obtain ⟨k,hk⟩:∃ k:Nat,aV (fun x:Tb=>x.n==v.tb) S 0=k:=⟨(mV S v.tb).toNat,by unfold mV at *; omega⟩
 rw [cN hk] at hfi
 have hCl:=xL hc3 hlt
 have htyp:=fun e he=>eG (WN (ts:=(cA S l).map Col.t) (by rw [List.length_map]; omega) (e:=e) (h.few e he).1)
 have hty2:=h.ty
 have hone:=h.one
 generalize cA S l=C at *
 generalize zA A l.length=AB at *
 have p6:¬ (6:Int)<(v.path.length:Int)+1:=by omega
 have hw6:=wI (n:=(v.path.length:Int)+1)
 have c1:¬ (1:Int)<v.cond.length:=by omega
 have c1n:¬ 1<v.cond.length:=by omega
 refine cI bM (fn:=Tryz.f56) rfl ?_
 simp [aN,Vw.a,Vw.c] at hta hat hco ⊢
 (repeat' first|contradiction|exact .ok|apply And.intro|intro _|(apply gc<;>simp+contextual))
 refine aA hpl (by simp [aN]) ?_
 simp
 (repeat' first|contradiction|exact .ok|apply And.intro|intro _|(apply gc<;>simp+contextual))
 refine aA hfi (by simp [aN]) ?_
 simp
 (repeat' first|contradiction|exact .ok|apply And.intro|intro _|(apply gc<;>simp+contextual))
 refine aP hta ?_
 simp [p6,hw6,c1]
 (repeat' first|contradiction|exact .ok|apply And.intro|intro _|(apply gc<;>simp+contextual[p6,hw6,c1,c1n]))
 refine aP hco ?_
 simp
 (repeat' first|contradiction|exact .ok|apply And.intro|intro _|(apply gc<;>simp+contextual))
 refine aL bM (fun i:Nat=>{ s:=cE [(2,.ptr 2 0 0),(3,.ptr 3 0 0),(9,.ref 909 0 i 1),(10,.d (.sl (C.map Col.c))),(11,.d (.int .i64 i))],b:=cC [(2,2,.var [.d (.sl (S.map Tb.c))]),(3,3,.var (v.c.map AV.d)),(909,909,.arr 3 1 (aD ((C.map Col.t).take i)) false)] }) (fun i=>i≤C.length) (fun i=>C.length - i) 0 (by simp)
  (fD 9 909 3 1 (by simp) (by simp) (by decide) (by decide) _ [(2,2,_),(3,3,_),(909,909,_)] ⟨by simp,by simp,by simp [aB,Blk.live,aD,Vw.c],by simp⟩ (by simp [aB])) ?_
 intro i hi
 by_cases hlti:i<C.length
 ·have hw:=wI (n:=(i:Int)+1)
  obtain ⟨u,hu⟩:∃ u,u=C[i]:=⟨_,rfl⟩
  have hgu:∀ h,C[i]'h=u:=fun _=>hu.symm
  have hsu:aD ((C.map Col.t).take (i+1))=aD ((C.map Col.t).take i)++[[.int .i64 u.t]]:=by
   rw [bI (by simpa using hlti)]
   simp [aD,hgu]
  have hZl:(aD ((C.map Col.t).take i)).length=i:=by simp [aD]; omega
  generalize aD ((C.map Col.t).take i)=Z at *
  have htk:Z.take i=Z:=List.take_of_length_le (by omega)
  simp [hlti,hgu,Col.c,hZl,gF (i+1) (by omega) 8 (by decide)]
  (repeat' first|contradiction|exact .ok|apply And.intro|intro _|(apply gc<;>simp+contextual))
  refine ⟨i+1,by omega,?_,by simp; omega⟩
  simp only [hsu]
  exact sM _ [(2,2,_),(3,3,_),(909,64,_)] (by simp [aB,Blk.live,Vw.c]) (by simp [aB,hw])
 obtain rfl:i=C.length:=by omega
 have hCt:(C.map Col.t).take C.length=C.map Col.t:=List.take_of_length_le (by simp)
 have htk:(aD (C.map Col.t)).take C.length=aD (C.map Col.t):=List.take_of_length_le (by simp [aD])
 have hZl:(aD (C.map Col.t)).length=C.length:=by simp [aD]
 rw [hCt]
 generalize aD (C.map Col.t)=Z at *
 simp
 (repeat' first|contradiction|exact .ok|apply And.intro|intro _|(apply gc<;>simp+contextual))
 refine aL bM (fun y:Nat×Bool=>{ s:=cE [(2,.ptr 2 0 0),(3,.ptr 3 0 0),(9,.ref 909 0 C.length 1),(12,.d (.int .i64 y.1))],b:=cC [(2,2,.var [.d (.sl (S.map Tb.c))]),(3,3,.var (v.c.map AV.d)),(909,909,.arr 3 1 Z y.2)] }) (fun y=>y.1≤v.cond.length) (fun y=>v.cond.length - y.1) (0,false) (by simp)
  (sM _ [(2,2,_),(3,3,_),(909,909,_)] (by simp [aB,Blk.live,Vw.c]) (by simp [aB])) ?_
 rintro ⟨i,fz⟩ hi
 simp only at hi
 by_cases hlti:i<v.cond.length
 ·have hw:=wI (n:=(i:Int)+1)
  obtain ⟨e,he⟩:∃ e,e=v.cond[i]:=⟨_,rfl⟩
  have hge:∀ h,v.cond[i]'h=e:=fun _=>he.symm
  have hel:=Ex.clen e
  have het:=Ex.ctake e
  have hem:e∈v.cond:=by rw [he]; exact List.getElem_mem hlti
  have hte:=htyp e hem
  rw [hty2 e hem] at hte
  simp [hlti,Vw.c,hge,hel,het]
  (repeat' first|contradiction|exact .ok|apply And.intro|intro _|(apply gc<;>simp+contextual))
  refine aA hte (by simp [Ex.a,hZl,htk]) ?_
  simp
  (repeat' first|contradiction|exact .ok|apply And.intro|intro _|(apply gc<;>simp+contextual))
  refine ⟨(i+1,true),by simp only; omega,?_,by simp; omega⟩
  exact sM _ [(2,2,_),(3,3,_),(909,909,_)] (by simp [aB,Blk.live,hZl,htk]) (by simp [aB,hw])
 obtain rfl:i=v.cond.length:=by omega
 simp [Vw.c]
 (repeat' first|contradiction|exact .ok|apply And.intro|intro _|(apply gc<;>simp+contextual))
 refine aP hat ?_
 simp
 all_goals exact gz
theorem ZF (v:Vw) (hv:v.cond.length≤1000) (hf:∀ e∈v.cond,e.few 0=true) (row:List V) (hrow:row.length≤9223372036854775807):Cf Es 58 [v.a,.d (.sl (row.map V.c))] [] (.d (.bool (lE v row))) []:=by
 refine cI bM (fn:=Tryz.f58) rfl ?_
 simp [Vw.a,Vw.c]
 (repeat' first|contradiction|exact .ok|apply And.intro|intro _|(apply gc<;>simp+contextual))
 refine aL bM (fun i:Nat=>{ s:=cE [(1,.d (.sl (row.map V.c))),(2,.ptr 2 0 0),(5,.d (.int .i64 i))],b:=cC [(2,2,.var (v.c.map AV.d))] }) (fun i=>i≤v.cond.length∧(v.cond.take i).any (qT row)=false) (fun i=>v.cond.length - i) 0 ⟨by simp,by simp⟩
  (sM _ [(2,2,_)] (by simp [aB,Blk.live,Vw.c]) (by simp [aB])) ?_
 rintro i ⟨hi,hany⟩
 by_cases hlti:i<v.cond.length
 ·have hw:=wI (n:=(i:Int)+1)
  obtain ⟨e,he⟩:∃ e,e=v.cond[i]:=⟨_,rfl⟩
  have hge:∀ h,v.cond[i]'h=e:=fun _=>he.symm
  have hel:=Ex.clen e
  have het:=Ex.ctake e
  have hem:e∈v.cond:=by rw [he]; exact List.getElem_mem hlti
  have hev:=eG (wG row hrow (SizeOf.sizeOf e+1) e (by omega) 0 (hf e hem))
  have hnt:qT row e=((aG e row).tr != 1):=rfl
  have hsu:(v.cond.take (i+1)).any (qT row)=((aG e row).tr != 1):=by
   rw [bI hlti,List.any_append,hany,← he,Bool.false_or]
   simp [hnt]
  have hyes:(aG e row).tr ≠ 1→lE v row=false:=fun hne=>by
   unfold lE
   rw [List.any_eq_true.2 ⟨e,hem,by rw [hnt]; simp [hne]⟩]
   rfl
  generalize aG e row=w at *
  have htr:=eG (lK w)
  simp [hlti,hge,Vw.c,hel,het]
  (repeat' first|contradiction|exact .ok|apply And.intro|intro _|(apply gc<;>simp+contextual))
  refine aA hev (by simp [Ex.a]) ?_
  simp [V.a]
  refine aA htr (by simp [V.a]) ?_
  by_cases h1:w.tr=1
  ·simp [h1]
   (repeat' first|contradiction|exact .ok|apply And.intro|intro _|(apply gc<;>simp+contextual[h1]))
   refine ⟨i+1,⟨by omega,by rw [hsu,h1]; rfl⟩,?_,by simp; omega⟩
   exact sM _ [(2,2,_)] (by simp [aB,Blk.live]) (by simp [aB,hw])
  ·simp [h1,hyes h1]
   (repeat' first|contradiction|exact .ok|apply And.intro|intro _|(apply gc<;>simp+contextual[h1]))
 obtain rfl:i=v.cond.length:=by omega
 rw [List.take_length] at hany
 have hm:lE v row=true:=by unfold lE; rw [hany]; rfl
 simp [Vw.c,hm]
 all_goals exact gz
theorem HB {S:List Tb} {T:Nat→List (List V)} (h:tA S T) (hpl:Cf Es 61 [aN S] [] (.d (.bool true)) []) {v:Vw} {l:List Nat} (hv:JN S v l) (hc:∀ e∈v.cond,MS S l e) :
  Cf Es 22 [aN S,dT (aO T S.length),v.a] [] (.tup [.d (.int .i64 (iZ (zF S T l v) (T ((l[0]?).getD 0)).length)),.d (.int .i64 0)]) []:=by
 obtain ⟨hlt,hll⟩:=cK hv.ch
 have h3:=hv.len
 have hfew:=h.fill.few
 have hva:=TG (by omega) h.fill.ok.ok (fun x hx=>by have:=h.fill.cols x hx; omega) hpl hv hc (GK h.fill hlt (by omega))
 have hfi:=eG (wJ S (by omega) v.tb)
 obtain ⟨k0,hk0⟩:∃ k,k=l[0]:=⟨_,rfl⟩
 have h0:l[0]?=some k0:=by rw [gE (by omega),hk0]
 rw [h0,Option.getD_some]
 have hk0S:=hlt k0 (List.mem_of_getElem? h0)
 have htb:aV (fun x:Tb=>x.n==v.tb) S 0=k0:=by
  have:=hv.ch
  unfold dW at this
  split at this
  ·rename_i e
   rw [Option.map_eq_some_iff] at this
   obtain ⟨l',_,rfl⟩:=this
   simp at h0
   unfold mV at *
   omega
  ·cases this
 rw [cN htb] at hfi
 have hIl:(aO T S.length).length=S.length:=dR ..
 have hgI:∀ k,k<S.length→∀ h,(aO T S.length)[k]'h=T k:=fun k hk=>sU T hk
 have hrow:=fun n hn=>VX h hpl hv.ch (by omega) h0 (n:=n) hn
 have hrl:=fun n hn=>OT h hv.ch h0 hlt (n:=n) hn v.path.length (Nat.le_refl _)
 have hme:=fun row hr=>ZF v (by have:=hv.one; omega) (fun e he=>(hv.few e he).1) row hr
 have hTl:=h.len k0
 have hcn:=zR (zF S T l v)
 generalize aO T S.length=I at *
 have hk0I:k0<I.length:=by omega
 have hgT:=hgI k0 hk0S
 obtain ⟨R,hR⟩:∃ R:Nat→List V,∀ n,R n=(qV S T l v.path n v.path.length).1:=⟨_,fun _=>rfl⟩
 have hin:∀ n,zF S T l v n=lE v (R n):=fun n=>by rw [hR]; rfl
 simp only [← hR] at hrow hrl
 generalize zF S T l v=P at *
 refine cI bM (fn:=Tryz.f22) rfl ?_
 simp [aN,dT,Vw.a,Vw.c] at hva hrow hme ⊢
 (repeat' first|contradiction|exact .ok|apply And.intro|intro _|(apply gc<;>simp+contextual))
 refine aP hva ?_
 simp [hIl]
 (repeat' first|contradiction|exact .ok|apply And.intro|intro _|(apply gc<;>simp+contextual[hIl]))
 refine aA hfi (by simp [aN]) ?_
 simp
 (repeat' first|contradiction|exact .ok|apply And.intro|intro _|(apply gc<;>simp+contextual))
 refine aL bM (fun i:Nat=>{ s:=cE [(3,.ptr 3 0 0),(4,.ptr 4 0 0),(5,.ptr 5 0 0),(9,.d (.int .i64 k0)),(11,.d (.int .i64 (iZ P i))),(12,.d (.int .i64 i))],b:=cC [(3,3,.var [.d (.sl (S.map Tb.c))]),(4,4,.var [.d (.sl (I.map fY))]),(5,5,.var (v.c.map AV.d))] })
  (fun i=>i≤(T k0).length) (fun i=>(T k0).length - i) 0 (by simp)
  (sM _ [(3,3,_),(4,4,_),(5,5,_)] (by simp [aB,Blk.live,Vw.c]) (by simp [aB,iZ])) ?_
 intro i hi
 by_cases hlti:i<(T k0).length
 ·have hw:=wI (n:=(i:Int)+1)
  have hro:=hrow i hlti
  obtain ⟨_,_,_,hrli⟩:=hrl i hlti
  have hm:=hme (R i) (by omega)
  rw [← hin] at hm
  have hci:=hcn i
  have hs:iZ P (i+1)=iZ P i+(if P i=true then 1 else 0):=rfl
  have hwc:=wI (n:=(iZ P i:Int)+1)
  cases hP:P i with
  | true =>
    rw [hP] at hm
    rw [hP,if_pos rfl] at hs
    simp [hk0I,hgT,fY,hlti,Vw.c]
    (repeat' first|contradiction|exact .ok|apply And.intro|intro _|(apply gc<;>simp+contextual))
    refine aP hro ?_
    simp
    (repeat' first|contradiction|exact .ok|apply And.intro|intro _|(apply gc<;>simp+contextual))
    refine aP hm ?_
    simp [hwc]
    (repeat' first|contradiction|exact .ok|apply And.intro|intro _|(apply gc<;>simp+contextual[hwc]))
    refine ⟨i+1,by omega,?_,by simp; omega⟩
    simp only [hs]
    exact sM _ [(3,3,_),(4,4,_),(5,5,_)] (by simp [aB,Blk.live]) (by simp [aB,hw])
  | false =>
    rw [hP] at hm
    rw [hP,if_neg (by simp),Nat.add_zero] at hs
    simp [hk0I,hgT,fY,hlti,Vw.c]
    (repeat' first|contradiction|exact .ok|apply And.intro|intro _|(apply gc<;>simp+contextual))
    refine aP hro ?_
    simp
    (repeat' first|contradiction|exact .ok|apply And.intro|intro _|(apply gc<;>simp+contextual))
    refine aP hm ?_
    simp
    (repeat' first|contradiction|exact .ok|apply And.intro|intro _|(apply gc<;>simp+contextual))
    refine ⟨i+1,by omega,?_,by simp; omega⟩
    simp only [hs]
    exact sM _ [(3,3,_),(4,4,_),(5,5,_)] (by simp [aB,Blk.live]) (by simp [aB,hw])
 obtain rfl:i=(T k0).length:=by omega
 simp [hk0I,hgT,fY]
 all_goals exact gz
structure Dm where
 v:Vw
 n:Int
def Dm.c (d:Dm):List D:=[.str d.v.tb,.sl (aD d.v.path),.sl (d.v.cond.map Ex.c),.int .i64 d.n]
def vB (c:List D):Blk:=.var (c.map AV.d)
theorem aHH (fc:Nat) (c0 c1:List D) (p:Dm→Bool) (l:List Dm) (hl:l.length≤1000) (hc:∀ d∈l,Cf Es fc [.agg (d.c.map AV.d),.ptr 1000000 0 0,.ptr 1000001 0 0] [vB c0,vB c1] (.d (.bool (p d))) [vB c0,vB c1]) :
  Cf Es 110 [.d (.sl (l.map Dm.c)),.clo fc [.ptr 1000000 0 0,.ptr 1000001 0 0]] [vB c0,vB c1] (.d (.int .i64 (aV p l 0))) [vB c0,vB c1]:=by
 unfold vB at *
 refine cI bM (fn:=Tryz.f110) rfl ?_
 simp
 (repeat' first|contradiction|exact .ok|apply And.intro|intro _|(apply gc<;>simp+contextual))
 refine aL bM (fun i:Nat=>{ s:=cE [(0,.d (.sl (l.map Dm.c))),(1,.clo fc [.ptr 1000000 0 0,.ptr 1000001 0 0]),(7,.d (.int .i64 l.length)),(8,.d (.int .i64 i))],b:=cC [(1000000,1000000,vB c0),(1000001,1000001,vB c1)] }) (fun i=>i≤l.length∧aV p l 0=aV p (l.drop i) i) (fun i=>l.length - i) 0 ⟨by simp,by simp⟩
  (aI _ [(1000000,1000000,_),(1000001,1000001,_)] ⟨by simp,by simp,by refine AK ?_ ?_ <;> simp [aB,Blk.live,vB],WJ⟩ (by simp [aB])) ?_
 rintro i ⟨hi,hfx⟩
 by_cases hlt:i<l.length
 ·have hd:=dM (p:=p) (k:=i) hlt
  have h1:=hc l[i] (List.getElem_mem hlt)
  have hw:=wI (n:=(i:Int)+1)
  obtain ⟨e,he⟩:∃ e,e=l[i]:=⟨_,rfl⟩
  have hge:∀ h,l[i]'h=e:=fun _=>he.symm
  rw [hge] at h1 hd
  rw [hd] at hfx
  cases hb:p e with
  | true =>
    rw [hb] at h1 hfx
    rw [if_pos rfl] at hfx
    rw [hfx]
    simp [hlt,hge,Dm.c] at h1 ⊢
    (repeat' first|contradiction|exact .ok|apply And.intro|intro _|(apply gc<;>simp+contextual))
    refine cV [1000000,1000001] h1 (by simp) (by simp) (by simp [vB]) (by simp [vB]) (by simp [fF]) ?_
    simp
    (repeat' first|contradiction|exact .ok|apply And.intro|intro _|(apply gc<;>simp+contextual))
    all_goals first | (rw [lO]; refine ⟨?_,?_⟩ <;> simp [vB]) | (simp [vB]; done) | skip
  | false =>
    rw [hb] at h1 hfx
    rw [if_neg (by simp)] at hfx
    simp [hlt,hge,Dm.c] at h1 ⊢
    (repeat' first|contradiction|exact .ok|apply And.intro|intro _|(apply gc<;>simp+contextual))
    refine cV [1000000,1000001] h1 (by simp) (by simp) (by simp [vB]) (by simp [vB]) (by simp [fF]) ?_
    simp
    (repeat' first|contradiction|exact .ok|apply And.intro|intro _|(apply gc<;>simp+contextual))
    refine ⟨i+1,⟨by omega,hfx⟩,?_,by simp; omega⟩
    exact aI _ [(1000000,1000000,_),(1000001,1000001,_)] ⟨by simp,by simp,by refine AK ?_ ?_ <;> simp [aB,Blk.live,vB],WJ⟩ (by simp [aB,hw])
 obtain rfl:i=l.length:=by omega
 rw [List.drop_length,aV] at hfx
 rw [hfx]
 simp
 (repeat' first|contradiction|exact .ok|apply And.intro|intro _|(apply gc<;>simp+contextual))
 all_goals first | (rw [lO]; refine ⟨?_,?_⟩ <;> simp [vB]) | (simp [vB]; done) | skip
theorem aFo (fc:Nat) (c0 c1:List D) (p:Dm→Bool) (l:List Dm) (hl:l.length≤1000) (hc:∀ d∈l,Cf Es fc [.agg (d.c.map AV.d),.ptr 1000000 0 0,.ptr 1000001 0 0] [vB c0,vB c1] (.d (.bool (p d))) [vB c0,vB c1]) :
  Cf Es 63 [.d (.sl (l.map Dm.c)),.clo fc [.ptr 1000000 0 0,.ptr 1000001 0 0]] [vB c0,vB c1] (.d (.bool (l.any p))) [vB c0,vB c1]:=by
 have h:=aHH fc c0 c1 p l hl hc
 have ha:=yG (p:=p) (l:=l) (i:=0)
 rw [← ha]
 generalize aV p l 0=z at *
 unfold vB at *
 refine cI bM (fn:=Tryz.f63) rfl ?_
 simp
 (repeat' first|contradiction|exact .ok|apply And.intro|intro _|(apply gc<;>simp+contextual))
 refine aH [1000000,1000001] h (by simp) (by simp [fF]) ?_
 simp
 (repeat' first|contradiction|exact .ok|apply And.intro|intro _|(apply gc<;>simp+contextual))
 all_goals first | (rw [lO]; refine ⟨?_,?_⟩ <;> simp) | (simp [vB]; done) | skip
theorem aDV {S:List Tb} {X:List (List Bk)} (d:Dm) (k:Int) (hc:Cf Es 26 [aN S,cP X,d.v.a] [] (.tup [.d (.int .i64 k),.d (.int .i64 0)]) []) :
  Cf Es 66 [.agg (d.c.map AV.d),.ptr 1000000 0 0,.ptr 1000001 0 0] [vB [.sl (S.map Tb.c)],vB [.sl (X.map iG)]] (.d (.bool (k != d.n))) [vB [.sl (S.map Tb.c)],vB [.sl (X.map iG)]]:=by
 refine cI bM (fn:=Tryz.f66) rfl ?_
 simp [Dm.c,vB,Vw.a,Vw.c,aN,cP] at hc ⊢
 (repeat' first|contradiction|exact .ok|apply And.intro|intro _|(apply gc<;>simp+contextual))
 refine aP hc ?_
 simp
 (repeat' first|contradiction|exact .ok|apply And.intro|intro _|(apply gc<;>simp+contextual))
 all_goals first | (rw [lO]; refine ⟨?_,?_⟩ <;> simp) | (simp [vB]; done) | skip
theorem VC {S:List Tb} {X:List (List Bk)} (l:List Dm) (hl:l.length≤1000) (cn:Dm→Int) (hc:∀ d∈l,Cf Es 26 [aN S,cP X,d.v.a] [] (.tup [.d (.int .i64 (cn d)),.d (.int .i64 0)]) []) :
  Cf Es 27 [aN S,cP X,.d (.sl (l.map Dm.c))] [] (.d (.bool (!(l.any fun d=>cn d != d.n)))) []:=by
 have h:=aFo 66 [.sl (S.map Tb.c)] [.sl (X.map iG)] (fun d=>cn d != d.n) l hl fun d hd=>aDV d (cn d) (hc d hd)
 generalize (l.any fun d=>cn d != d.n)=b at *
 unfold vB at h
 refine cI bM (fn:=Tryz.f27) rfl ?_
 simp [aN,cP]
 (repeat' first|contradiction|exact .ok|apply And.intro|intro _|(apply gc<;>simp+contextual))
 refine aH [3,4] h (by simp) (by simp [fF]) ?_
 simp
 all_goals exact gz
end Go.Proofs.Tryz
