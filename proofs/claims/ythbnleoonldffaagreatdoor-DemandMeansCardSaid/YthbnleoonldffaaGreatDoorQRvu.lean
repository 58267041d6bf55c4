import Derived.Test.YthbnleoonldffaaGreatDoorQSpl
import Derived.Test.YthbnleoonldffaaGreatDoorQCln
import Derived.Test.YthbnleoonldffaaGreatDoorQRwc
import Derived.Test.YthbnleoonldffaaGreatDoorQCldR
import Derived.Test.YthbnleoonldffaaGreatDoorQSmR
import Derived.Test.YthbnleoonldffaaGreatDoorQVwp
import Derived.Test.YthbnleoonldffaaGreatDoorTye
set_option linter.all false
namespace Go.Proofs.Tryz
open Go.Ab
set_option maxRecDepth 100000
set_option maxHeartbeats 8000000
def xC (A:Nat→List At) (n:Nat):List (List D):=bE (fun j=>[D.sl ((A j).map At.c)]) n
theorem yA (A:Nat→List At) (n:Nat):(xC A n).length=n:=gQ ..
theorem aCB {A:Nat→List At} {n z:Nat} (h:z<n):∀ h',(xC A n)[z]'h'=[D.sl ((A z).map At.c)]:=fun h'=>by
 have:=bR (fun j=>[D.sl ((A j).map At.c)]) n z
 rw [if_pos h] at this
 unfold xC at h' ⊢
 rw [List.getElem?_eq_getElem h'] at this
 exact Option.some.inj this
theorem aCC {A:Nat→List At} {n z:Nat} {l:List At}:(xC A n).set z [D.sl (l.map At.c)]=xC (bM A z l) n:=by
 unfold xC
 rw [nC]
 congr 1
 funext k
 unfold bM
 split <;> rfl
theorem aCD {a:At} {d:Int} (h:-1000000000≤a.col∧a.col≤1000000000):(a.mv d).ex.shift (a.col - (a.col+d))=a.ex:=by
 have hm:(a.mv d).col=a.col+d:=rfl
 rw [nN (by rw [hm]; omega)]
 congr 1
 obtain ⟨c,o,v⟩:=a
 simp only [At.mv]
 congr 1
 omega
theorem aAa (S:List Tb) (hS:∀ x∈S,x.ok) (l:List Nat) (hl:l.length≤1000) (hr:∀ k∈l,k<S.length) (z kz:Nat) (a:At) (hlz:l[z]?=some kz) (h:tS (aV S kz) a) (hoff:bQ S l z≤1000000) (q:Nat) (hq:(a.ex.shift (bQ S l z)).few q=true) (hn:(a.ex.shift (bQ S l z)).nodes≤1000) (A:Nat→List At) (hA:(A z).length≤1000) :
  Cf En 134 [aR S,.d (.sl (aG (aO l))),(a.ex.shift (bQ S l z)).a,.ref 1000000 0 l.length 1] [.arr 229 1 (xC A l.length) false] (.d (.bool true)) [.arr 229 1 (xC (bM A z (xH (A z) a)) l.length) false]:=by
 obtain ⟨hz,hze⟩:=List.getElem?_eq_some_iff.1 hlz
 obtain ⟨c0,c1⟩:=h.col
 have hk:=hr kz (List.mem_of_getElem? hlz)
 have htab:aV S kz=S[kz]:=by unfold aV; rw [List.getElem?_eq_getElem hk]; rfl
 have hx:aV S kz∈S:=by rw [htab]; exact List.getElem_mem hk
 have hxo:=hS _ hx
 have hcl:=hxo.cols
 have hco:=GI (SizeOf.sizeOf (a.ex.shift (bQ S l z))+1) (a.ex.shift (bQ S l z)) (by omega) q hq (by omega)
 have hsp:=EL S hS l (by omega) hr (a.col+bQ S l z) (by omega) (by omega)
 rw [xW S l 0 z a.col hz c0 (by rw [hze]; exact c1),Nat.zero_add] at hsp
 have hmv:=nN (a:=a) (d:=bQ S l z) (by omega)
 have hcols:(a.mv (bQ S l z)).ex.cols=[a.col+bQ S l z]:=by rw [uG]; rfl
 have hsh:=yC (SizeOf.sizeOf (a.ex.shift (bQ S l z))+1) (a.ex.shift (bQ S l z)) (by omega) q hq (a.col - (a.col+bQ S l z))
 rw [GH] at hco
 rw [hmv] at hco hsh ⊢
 rw [hcols] at hco
 rw [aCD (by omega)] at hsh
 have hone:=aBo (aV S kz) hxo a h
 have hin:=OO (A z) hA a
 have hgA:=aCB (A:=A) hz
 have hAl:=yA A l.length
 have hset:=aCC (A:=A) (n:=l.length) (z:=z) (l:=xH (A z) a)
 have hnl:=cV l
 have hgz:∀ h',(aG (aO l))[z]'h'=[.int .i64 (kz:Int)]:=fun h'=>by simp [aG,aO,hze]
 have hzZ:z<(aG (aO l)).length:=by omega
 have hgx:∀ h,S[kz]'h=aV S kz:=fun _=>htab.symm
 have hwd:=aH (n:=a.col - (a.col+(bQ S l z:Int))) (by omega) (by omega)
 have hEl:=Ex.clen (a.mv (bQ S l z)).ex
 have hEt:=Ex.ctake (a.mv (bQ S l z)).ex
 have hEl2:=Ex.clen a.ex
 have hEt2:=Ex.ctake a.ex
 generalize (a.mv (bQ S l z)).ex=e at *
 generalize a.ex=e2 at *
 generalize bQ S l z=off at *
 generalize xH (A z) a=I at *
 generalize aG (aO l)=Z at *
 generalize aV S kz=x at *
 generalize xC A l.length=B at *
 generalize xC (bM A z I) l.length=B2 at *
 refine aD aW (fn:=Tryz.f134) (by kernel_rfl) rfl (by kernel_rfl) (by decide) (by simp) ?_
 simp [aR,fV,Ex.a,hEl,hEt] at hco hsp hsh hone ⊢
 (repeat' first|contradiction|exact .ok|apply And.intro|intro _|(apply gc<;>simp+contextual))
 refine aA hco (by simp [hEt]) ?_
 simp
 (repeat' first|contradiction|exact .ok|apply And.intro|intro _|(apply gc<;>simp+contextual))
 refine aA hsp (by simp) ?_
 simp [hzZ,hgz,hk,hgx,hwd,Tb.c,hEl,hEt]
 (repeat' first|contradiction|exact .ok|apply And.intro|intro _|(apply gc<;>simp+contextual))
 refine aA hsh (by simp [hEt]) ?_
 simp [hEl2,hEt2]
 refine aA hone (by simp [Tb.a,Tb.c,hEt2]) ?_
 simp [OA,At.a,At.c]
 (repeat' first|contradiction|exact .ok|apply And.intro|intro _|(apply gc<;>simp+contextual))
 simp [hgA,hAl,hz]
 (repeat' first|contradiction|exact .ok|apply And.intro|intro _|(apply gc<;>simp+contextual))
 refine aA hin (by simp [At.a,At.c]) ?_
 simp [hgA,hAl,hz,hset]
 all_goals exact gz
theorem LC (S:List Tb) (hS:∀ x∈S,x.ok) (l:List Nat) (hl:l.length≤1000) (hr:∀ k∈l,k<S.length) (o:Int) (ks:List Ex) (ho:o=24∧ks.length=1∨o=22∧ks.length=2∨o=23∧ks.length=2) (q:Nat) (hq:(Ex.mk o 0 0 [] 0 ks).few q=true) (hn:(Ex.mk o 0 0 [] 0 ks).nodes≤1000)
  (hc:∀ c,(Ex.mk o 0 0 [] 0 ks).has c→∃ (z c' kz:Nat),l[z]?=some kz∧c=((bQ S l z+c':Nat):Int)∧c'<(aV S kz).cols.length∧bQ S l z≤1000000)
  (hone:∀ x∈S,∀ d:Int,Cf En 205 [x.a,((Ex.mk o 0 0 [] 0 ks).shift d).a] [] VC [])
  (F:Nat→Nat→List At) (hk:∀ i (h:i<ks.length),Cf En 134 [aR S,.d (.sl (aG (aO l))),ks[i].a,.ref 1000000 0 l.length 1] [.arr 229 1 (xC (F i) l.length) false] (.d (.bool true)) [.arr 229 1 (xC (F (i+1)) l.length) false]) :
  Cf En 134 [aR S,.d (.sl (aG (aO l))),(Ex.mk o 0 0 [] 0 ks).a,.ref 1000000 0 l.length 1] [.arr 229 1 (xC (F 0) l.length) false] (.d (.bool true)) [.arr 229 1 (xC (F ks.length) l.length) false]:=by
 have hco:=GI (SizeOf.sizeOf (Ex.mk o 0 0 [] 0 ks)+1) (Ex.mk o 0 0 [] 0 ks) (by omega) q hq (by omega)
 rw [GH] at hco
 have hsame:=yD (SizeOf.sizeOf (Ex.mk o 0 0 [] 0 ks)+1) (Ex.mk o 0 0 [] 0 ks) (Ex.mk o 0 0 [] 0 ks) (by omega) (qF (SizeOf.sizeOf (Ex.mk o 0 0 [] 0 ks)+1) (Ex.mk o 0 0 [] 0 ks) (by omega) q hq)
 rw [Ex.eq_self] at hsame
 have hsh:=fun d=>yC (SizeOf.sizeOf (Ex.mk o 0 0 [] 0 ks)+1) (Ex.mk o 0 0 [] 0 ks) (by omega) q hq d
 have hcm:=fun c=>lE (Ex.mk o 0 0 [] 0 ks) c
 generalize hC:(Ex.mk o 0 0 [] 0 ks).cols=C at *
 have hfl:=fun i=>yA (F i) l.length
 have hnl:=cV l
 have hks2:ks.length≤2:=by omega
 have hcase:C.length ≠ 1∨∃ c,C=[c]:=by
  match C with
  | []=>exact .inl (by simp)
  | [c]=>exact .inr ⟨c,rfl⟩
  | _::_::_=>exact .inl (by simp)
 have hspA:=fun c h0 hc=>EL S hS l (by omega) hr c h0 hc
 have hgA:∀ (z kz:Nat),l[z]?=some kz→∀ h',(aG (aO l))[z]'h'=[D.int .i64 (kz:Int)]:=fun z kz e h'=>by
  obtain ⟨a,b⟩:=List.getElem?_eq_some_iff.1 e
  simp [aG,aO,b]
 generalize aG (aO l)=Z at *
 refine aD aW (fn:=Tryz.f134) (by kernel_rfl) rfl (by kernel_rfl) (by decide) (by simp) ?_
 rcases hcase with h1 | ⟨c,hC1⟩
 rcases ho with ⟨ho,hkl⟩ | ⟨ho,hkl⟩ | ⟨ho,hkl⟩ <;>
   (have h1i:¬ (C.length:Int)=1:=by omega
    simp [aR,fV,Ex.a,Ex.c,aC,ho] at hco hsame hk ⊢
    (repeat' first|contradiction|exact .ok|apply And.intro|intro _|(apply gc<;>simp+contextual))
    refine aA hco (by simp) ?_
    simp [h1,h1i,hkl]
    (repeat' first|contradiction|exact .ok|apply And.intro|intro _|(apply gc<;>simp+contextual[h1,h1i]))
    refine aA hsame (by simp) ?_
    simp
    (repeat' (first | contradiction | exact .of (by kernel_rfl) | refine And.intro ?_ ?_ | intro _ | (refine aN (fun h=>?_) (fun h=>?_) <;> (have h':=h; (try simp at h'); first | done | simp [h,h'] | simp)))))
 rotate_left 3
 rcases ho with ⟨ho,hkl⟩ | ⟨ho,hkl⟩ | ⟨ho,hkl⟩ <;>
   (obtain ⟨z,c',kz,hlz,hce,hcl,hoff⟩:=hc c ((hcm c).1 (by rw [hC1]; simp))
    obtain ⟨hz,hze⟩:=List.getElem?_eq_some_iff.1 hlz
    have hkS:=hr kz (List.mem_of_getElem? hlz)
    have htab:aV S kz=S[kz]:=by unfold aV; rw [List.getElem?_eq_getElem hkS]; rfl
    have hx:aV S kz∈S:=by rw [htab]; exact List.getElem_mem hkS
    have hxc:=(hS _ hx).cols
    have hsp:=hspA c (by omega) (by omega)
    rw [show c=(c':Int)+bQ S l z from by omega,xW S l 0 z c' hz (by omega) (by rw [hze]; omega),Nat.zero_add] at hsp
    have hcc:c=(c':Int)+bQ S l z:=by omega
    have hshd:=hsh ((c':Int) - c)
    have hon:=hone _ hx ((c':Int) - c)
    have hwd:=aH (n:=(c':Int) - c) (by omega) (by omega)
    rw [← hcc] at hsp
    have hgz:=hgA z kz hlz
    have hzZ:z<Z.length:=by omega
    have hgx:∀ h,S[kz]'h=aV S kz:=fun _=>htab.symm
    have hEl2:=Ex.clen ((Ex.mk o 0 0 [] 0 ks).shift ((c':Int) - c))
    have hEt2:=Ex.ctake ((Ex.mk o 0 0 [] 0 ks).shift ((c':Int) - c))
    rw [hC1] at hco
    clear hsh hone hcm
    generalize (Ex.mk o 0 0 [] 0 ks).shift ((c':Int) - c)=e2 at *
    generalize aV S kz=x at *
    simp [aR,fV,Ex.a,Ex.c,aC,VC,At.a,At.c,nulV,ho] at hco hsame hk hsp hshd hon ⊢
    (repeat' first|contradiction|exact .ok|apply And.intro|intro _|(apply gc<;>simp+contextual))
    refine aA hco (by simp) ?_
    simp
    (repeat' first|contradiction|exact .ok|apply And.intro|intro _|(apply gc<;>simp+contextual))
    refine aA hsp (by simp) ?_
    simp [hzZ,hgz,hkS,hgx,hwd,Tb.c]
    (repeat' first|contradiction|exact .ok|apply And.intro|intro _|(apply gc<;>simp+contextual))
    refine aA hshd (by simp) ?_
    simp [hEl2,hEt2]
    refine aA hon (by simp [Tb.a,Tb.c,hEt2]) ?_
    simp [hkl]
    (repeat' first|contradiction|exact .ok|apply And.intro|intro _|(apply gc<;>simp+contextual))
    refine aA hsame (by simp) ?_
    simp
    (repeat' (first | contradiction | exact .of (by kernel_rfl) | refine And.intro ?_ ?_ | intro _ | (refine aN (fun h=>?_) (fun h=>?_) <;> (have h':=h; (try simp at h'); first | done | simp [h,h'] | simp)))))
 all_goals (
  refine aL aW (by decide) (fun i:Nat=>{ s:=cG [(1,.d (.sl Z)),(3,.ref 1000000 0 l.length 1),(4,.ptr 4 0 0),(6,.ptr 6 0 0),(15,.d (.int .i64 ks.length)),(16,.d (.int .i64 i))],b:=cE [(1000000,1000000,.arr 229 1 (xC (F i) l.length) false),(4,4,.var [.d (.sl (S.map Tb.c))]),(6,6,.var ((Ex.mk o 0 0 [] 0 ks).c.map AV.d))] })
   (fun i=>i≤ks.length) (fun i=>ks.length - i) 0 (by simp) (aE _ [(1000000,1000000,_),(4,4,_),(6,6,_)] ⟨by simp,by simp,by simp [aB,Blk.live,Ex.c,aC,ho],bT⟩ (by simp [aB,hkl])) ?_
  intro i hi
  by_cases hlt:i<ks.length
  ·have hw:=aH (n:=(i:Int)+1) (by omega) (by omega)
   have hki:=hk i hlt
   obtain ⟨e,he⟩:∃ e,e=ks[i]:=⟨_,rfl⟩
   have hge:∀ h,ks[i]'h=e:=fun _=>he.symm
   have hel:=Ex.clen e
   have het:=Ex.ctake e
   rw [← he] at hki
   simp [hlt,Ex.c,aC,hge,hel,het]
   (repeat' first|contradiction|exact .ok|apply And.intro|intro _|(apply gc<;>simp+contextual))
   refine aK [1000000] hki (by simp) (by simp) (by simp) (by simp [hfl]) (by simp [Ex.a,het]) ?_
   simp
   (repeat' first|contradiction|exact .ok|apply And.intro|intro _|(apply gc<;>simp+contextual))
   refine ⟨i+1,by omega,?_,by simp; omega⟩
   exact aE _ [(1000000,1000000,_),(4,4,_),(6,6,_)] ⟨by simp,by simp,by simp [aB,Blk.live,Ex.c,aC],bT⟩ (by simp [aB,hw])
  obtain rfl:i=ks.length:=by omega
  simp
  (repeat' (first | contradiction | exact .of (by kernel_rfl) | refine And.intro ?_ ?_ | intro _ | (refine aN (fun h=>?_) (fun h=>?_) <;> (have h':=h; (try simp at h'); first | done | simp [h,h'] | simp)))))
theorem US (x:Ex) (d:Int):(Ex.mk 24 0 0 [] 0 [x]).shift d=.mk 24 0 0 [] 0 [x.shift d]:=by simp [Ex.shift,eE]
theorem UT {o:Int} (ho:o=22∨o=23) (x y:Ex) (d:Int):(Ex.mk o 0 0 [] 0 [x,y]).shift d=.mk o 0 0 [] 0 [x.shift d,y.shift d]:=by
 have:¬ o=5:=by omega
 simp [Ex.shift,eE,this]
theorem UU (S:List Tb) (hS:∀ x∈S,x.ok) (l:List Nat) (hl:l.length≤1000) (hr:∀ k∈l,k<S.length) (hoff:∀ z,z<l.length→bQ S l z≤1000000∧(aV S ((l[z]?).getD 0)).cols.length≤1000) {e:Ex} (h:QO S l e):∀ q:Nat,e.few q=true→e.nodes≤100→∀ A:Nat→List At,(∀ j,(A j).length+e.nodes≤500) →
  ∃ B:Nat→List At,(∀ j,(B j).length≤(A j).length+e.nodes)∧Cf En 134 [aR S,.d (.sl (aG (aO l))),e.a,.ref 1000000 0 l.length 1] [.arr 229 1 (xC A l.length) false] (.d (.bool true)) [.arr 229 1 (xC B l.length) false]:=by
 have hcol:∀ {e:Ex},QO S l e→∀ c,e.has c→∃ (z c' kz:Nat),l[z]?=some kz∧c=((bQ S l z+c':Nat):Int)∧c'<(aV S kz).cols.length∧bQ S l z≤1000000:=fun h c hc=>by
  obtain ⟨z,c',hz,h1,h2,_⟩:=aBp hoff h c hc
  exact ⟨z,c',l[z],List.getElem?_eq_getElem hz,h1,h2,(hoff z hz).1⟩
 induction h with
 | atom z a hz ha =>
   intro q hq hn A hA
   have h1:=YB (A z) a
   have hp:=TT (a.ex.shift (bQ S l z))
   refine ⟨bM A z (xH (A z) a),fun j=>?_,aAa S hS l hl hr z l[z] a (List.getElem?_eq_getElem hz) ha (hoff z hz).1 q hq (by omega) A (by have:=hA z; omega)⟩
   unfold bM
   split
   ·rename_i e; subst e; omega
   ·omega
 | no x hx ih =>
   intro q hq hn A hA
   obtain ⟨_,_,hk⟩:=iN hq
   have hne:(Ex.mk 24 0 0 [] 0 [x]).nodes=1+x.nodes:=by rw [Ex.nodes,aT,aT]; omega
   obtain ⟨B,hB,hc⟩:=ih (q+1) (hk x (by simp)) (by omega) A (fun j=>by have:=hA j; omega)
   refine ⟨B,fun j=>by have:=hB j; omega,?_⟩
   exact LC S hS l hl hr 24 [x] (.inl ⟨rfl,rfl⟩) q hq (by omega) (hcol (.no x hx)) (fun y hy d=>by rw [US]; exact aAq y (hS y hy) _) (fun i=>if i=0 then A else B) (fun i hi=>by
    obtain rfl:i=0:=by simpa using hi
    exact hc)
 | both o x y ho hx hy ihx ihy =>
   intro q hq hn A hA
   obtain ⟨_,_,hk⟩:=iN hq
   have hne:(Ex.mk o 0 0 [] 0 [x,y]).nodes=1+(x.nodes+y.nodes):=by rw [Ex.nodes,aT,aT,aT]; omega
   obtain ⟨B,hB,hc⟩:=ihx (q+1) (hk x (by simp)) (by omega) A (fun j=>by have:=hA j; omega)
   obtain ⟨C,hC,hd⟩:=ihy (q+1) (hk y (by simp)) (by omega) B (fun j=>by have:=hA j; have:=hB j; omega)
   refine ⟨C,fun j=>by have:=hB j; have:=hC j; omega,?_⟩
   exact LC S hS l hl hr o [x,y] (by rcases ho with h | h <;> simp [h]) q hq (by omega) (hcol (.both o x y ho hx hy)) (fun w hw d=>by
    rw [UT ho]
    exact aAr w (hS w hw) o ho _ _ (q+1) (by rw [nL]; exact hk y (by simp))) (fun i=>if i=0 then A else if i=1 then B else C) (fun i hi=>by
    rcases (by simp at hi; omega:i=0∨i=1) with rfl | rfl
    ·exact hc
    ·exact hd)
theorem LE (S:List Tb) (hl:S.length≤1000) (hS:∀ x∈S,x.ok) (v:Vw) (hv:v.path.length≤50) (l:List Nat) (hc:dY S v=some l) :
  Cf En 63 [aR S,v.a] [] (.d (.sl ((bU S l).map Col.c))) []:=by
 refine aD aW (fn:=Tryz.f63) (by kernel_rfl) rfl (by kernel_rfl) (by decide) (by simp) ?_
 have ht:=lP S hl hS v (by omega)
 rw [hc] at ht
 obtain ⟨h1,h2⟩:=dI hc
 have hnl:=cV l
 have hga:∀ i (h:i<l.length),∀ h',(aG (aO l))[i]'h'=[.int .i64 (l[i]:Int)]:=fun i h h'=>by simp [aG,aO]
 unfold mZ at ht
 simp only at ht ⊢
 generalize hZ:aG (aO l)=Z at *
 simp [aR,Vw.a,Vw.c] at ht ⊢
 (repeat' first|contradiction|exact .ok|apply And.intro|intro _|(apply gc<;>simp+contextual))
 refine aA ht (by simp) ?_
 simp
 (repeat' first|contradiction|exact .ok|apply And.intro|intro _|(apply gc<;>simp+contextual))
 refine aL aW (by decide) (fun i:Nat=>{ s:=cG [(2,.ptr 2 0 0),(5,.d (.sl Z)),(7,.ref 907 0 (bU S (l.take i)).length 3),(8,.d (.int .i64 i))],b:=cE [(2,2,.var [.d (.sl (S.map Tb.c))]),(907,907,.arr 87 3 ((bU S (l.take i)).map Col.c) false)] })
  (fun i=>i≤l.length∧(bU S (l.take i)).length≤1000*i) (fun i=>l.length - i) 0 ⟨by simp,by simp [bU]⟩
  (dW 7 907 87 3 (by simp) (by simp) (by decide) (by decide) _ [(2,2,_),(907,907,_)] ⟨by simp,by simp,by simp [aB,Blk.live,bU],by simp⟩ (by simp [aB,bU])) ?_
 rintro i ⟨hi,hCl⟩
 by_cases hlt:i<l.length
 ·have hw:=aH (n:=(i:Int)+1) (by omega) (by omega)
  have hk:=h1 l[i] (List.getElem_mem hlt)
  have htab:aV S l[i]=S[l[i]]:=by unfold aV; rw [List.getElem?_eq_getElem hk]; rfl
  have hcl:=(hS _ (List.getElem_mem hk)).cols
  have hsu:bU S (l.take (i+1))=bU S (l.take i)++S[l[i]].cols:=by
   unfold bU
   rw [bV hlt,List.flatMap_append]
   simp [htab]
  have hgl:=hga i hlt
  have hiZ:i<Z.length:=by omega
  generalize hkk:l[i]=k at *
  obtain ⟨x,hx⟩:∃ x,x=S[k]:=⟨_,rfl⟩
  have hgx:∀ h,S[k]'h=x:=fun _=>hx.symm
  rw [← hx] at hcl hsu
  generalize bU S (l.take i)=C at *
  have htk:(C.map Col.c).take C.length=C.map Col.c:=List.take_of_length_le (by simp)
  have hz:=eI C.length (by omega) 32 (by decide)
  have hz2:=eI (C.length+x.cols.length) (by omega) 32 (by decide)
  simp [show ∀ u:Col,u.c.length=3 from fun _=>rfl,hnl,hlt,hiZ,hgl,hk,hgx,Tb.c,htk,hz,hz2]
  (repeat' first|contradiction|exact .ok|apply And.intro|intro _|(apply gc<;>simp+contextual))
  refine ⟨i+1,⟨by omega,by rw [hsu,List.length_append]; omega⟩,?_,by simp; omega⟩
  simp only [hsu]
  exact aE _ [(2,2,_),(907,31,_)] ⟨by simp,by simp,by simp [aB,Blk.live],by simp⟩ (by simp [aB,hw])
 obtain rfl:i=l.length:=by omega
 rw [List.take_length] at hCl ⊢
 generalize bU S l=C at *
 have htk:(C.map Col.c).take C.length=C.map Col.c:=List.take_of_length_le (by simp)
 simp [hnl,htk]
 all_goals exact gz
theorem aAj (n:Nat):xC (fun _=>[]) n=List.replicate n [D.sl []]:=by
 unfold xC
 rw [nD]
 rfl
theorem aAk {E:dZ} {N nb:Nat} {st:St} (n:Nat) {ety m:Nat} (hb:st.b n=.arr ety 1 (List.replicate m [IB]) false) :
  Sub E N nb st { s:=st.s,b:=bM st.b n (.arr ety 1 (List.replicate m [D.sl []]) false) }:=by
 refine (pR n hb).trans ?_
 have h:=QG (E:=E) (N:=N) (nb:=nb) (st:={ s:=st.s,b:=bM st.b n (.varr ety 1 (List.replicate m [.nils])) }) n (ety:=ety) (xs:=List.replicate m [.nils]) (List.replicate m [D.sl []]) (by simp [bM]) (by simp) (fun i x y hx hy=>by
  rw [List.getElem?_replicate] at hx hy
  split at hx <;> simp only [Option.some.injEq,reduceCtorEq] at hx
  rename_i hi
  rw [if_pos hi] at hy
  simp only [Option.some.injEq] at hy
  subst hx hy
  exact ⟨_,_,rfl,rfl,rfl⟩)
 have e:bM (bM st.b n (.varr ety 1 (List.replicate m [.nils]))) n (.arr ety 1 (List.replicate m [D.sl []]) false)=bM st.b n (.arr ety 1 (List.replicate m [D.sl []]) false):=by
  funext j
  simp only [bM]
  split <;> rfl
 simp only [e] at h
 exact h
theorem UY (S:List Tb) (hl:S.length≤1000) (hS:∀ x∈S,x.ok) {v:Vw} {l:List Nat} (h:OF S v l) (hc:∀ e∈v.cond,QO S l e) (hoff:∀ z,z<l.length→bQ S l z≤1000000∧(aV S ((l[z]?).getD 0)).cols.length≤1000) :
  ∃ A,Cf En 65 [aR S,v.a] [] (.tup [.d (.sl (xC A l.length)),.d (.bool true)]) []:=by
 obtain ⟨hlt,hll⟩:=dI h.ch
 have h3:=h.len
 have hone:=h.one
 have hta:=lP S hl hS v (by omega)
 rw [h.ch] at hta
 unfold mZ at hta
 simp only at hta
 have hzero:=aAj l.length
 obtain ⟨F,hF0,hF⟩:∃ F:Nat→Nat→List At,F 0=(fun _=>[])∧∀ i (hi:i<v.cond.length),Cf En 134 [aR S,.d (.sl (aG (aO l))),v.cond[i].a,.ref 1000000 0 l.length 1] [.arr 229 1 (xC (F i) l.length) false] (.d (.bool true)) [.arr 229 1 (xC (F (i+1)) l.length) false]:=by
  match hcd:v.cond,hone with
  | [],_=>exact ⟨fun _ _=>[],rfl,fun i hi=>absurd hi (by simp)⟩
  | [e],_ =>
    have hn:e.nodes≤12:=by have:=h.n12; rw [hcd,aT,aT] at this; omega
    obtain ⟨B,_,hB⟩:=UU S hS l (by omega) hlt hoff (hc e (by rw [hcd]; simp)) 0 (h.few e (by rw [hcd]; simp)).1 (by omega) (fun _=>[]) (fun j=>by simp; omega)
    refine ⟨fun i=>if i=0 then fun _=>[] else B,rfl,fun i hi=>?_⟩
    obtain rfl:i=0:=by simpa using hi
    exact hB
 have hfl:=fun i=>yA (F i) l.length
 have hft:(xC (F v.cond.length) l.length).take l.length=xC (F v.cond.length) l.length:=List.take_of_length_le (by rw [yA]; exact Nat.le_refl _)
 refine ⟨F v.cond.length,?_⟩
 have hnl:=cV l
 generalize aG (aO l)=Z at *
 have c1:¬ (1:Int)<v.cond.length:=by omega
 have c1n:¬ 1<v.cond.length:=by omega
 have hnn:¬ (l.length:Int)<0:=by omega
 refine aD aW (fn:=Tryz.f65) (by kernel_rfl) rfl (by kernel_rfl) (by decide) (by simp) ?_
 simp [aR,Vw.a,Vw.c] at hta hF ⊢
 (repeat' first|contradiction|exact .ok|apply And.intro|intro _|(apply gc<;>simp+contextual))
 refine aA hta (by simp) ?_
 have hm1:(l.length:Int)≤9223372036854775807∧24*(l.length:Int)≤281474976710656:=by omega
 simp [c1,c1n,hnl,hm1]
 (repeat' first|contradiction|exact .ok|apply And.intro|intro _|(apply gc<;>simp+contextual[c1,c1n,hnl]))
 refine aL aW (by decide) (fun i:Nat=>{ s:=cG [(2,.ptr 2 0 0),(3,.ptr 3 0 0),(6,.d (.sl Z)),(8,.ref 901 0 l.length 1),(9,.d (.int .i64 i))],b:=cE [(2,2,.var [.d (.sl (S.map Tb.c))]),(3,3,.var (v.c.map AV.d)),(901,901,.arr 229 1 (xC (F i) l.length) false)] })
  (fun i=>i≤v.cond.length) (fun i=>v.cond.length - i) 0 (by simp)
  ((aAk 26 (m:=l.length) (ety:=229) (by simp [IB])).trans (aE _ [(2,2,_),(3,3,_),(901,26,_)] ⟨by simp,by simp,by simp [aB,Blk.live,Vw.c,hF0,hzero,bM],by simp⟩ (by simp [aB]))) ?_
 intro i hi
 by_cases hlt:i<v.cond.length
 ·have hw:=aH (n:=(i:Int)+1) (by omega) (by omega)
  have hki:=hF i hlt
  obtain ⟨e,he⟩:∃ e,e=v.cond[i]:=⟨_,rfl⟩
  have hge:∀ h,v.cond[i]'h=e:=fun _=>he.symm
  have hel:=Ex.clen e
  have het:=Ex.ctake e
  rw [← he] at hki
  simp [hlt,Vw.c,hge,hel,het]
  (repeat' first|contradiction|exact .ok|apply And.intro|intro _|(apply gc<;>simp+contextual))
  refine aK [901] hki (by simp) (by simp) (by simp) (by simp [hfl]) (by simp [Ex.a,het]) ?_
  simp
  (repeat' first|contradiction|exact .ok|apply And.intro|intro _|(apply gc<;>simp+contextual))
  refine ⟨i+1,by omega,?_,by simp; omega⟩
  exact aE _ [(2,2,_),(3,3,_),(901,901,_)] ⟨by simp,by simp,by simp [aB,Blk.live,Vw.c],by simp⟩ (by simp [aB,hw])
 obtain rfl:i=v.cond.length:=by omega
 simp [Vw.c,hfl,hft]
 all_goals exact gz
theorem PP {S:List Tb} (hl:S.length≤1000) (hS:∀ x∈S,x.ok) (hc3:∀ x∈S,x.cols.length≤300) (hpl:Cf Es 62 [aR S] [] (.d (.bool true)) []) {v:Vw} {l:List Nat} (h:OF S v l) (hc:∀ e∈v.cond,QO S l e) (hoff:∀ z,z<l.length→bQ S l z≤1000000∧(aV S ((l[z]?).getD 0)).cols.length≤1000) :
  Cf Es 24 [aR S,v.a] [] (.d (.int .i64 0)) []:=by
 obtain ⟨hlt,hll⟩:=dI h.ch
 have h3:=h.len
 obtain ⟨A,hat⟩:=UY S hl hS h hc hoff
 have hat:=gL hat
 have hta:=gL (lP S hl hS v (by omega))
 have hco:=gL (LE S hl hS v (by omega) l h.ch)
 have hfi:=gL (oV S hl v.tb)
 rw [h.ch] at hta
 unfold mZ at hta
 simp only at hta
 have h0:0≤lW S v.tb:=by
  have:=h.ch
  unfold dY at this
  split at this
  ·rename_i e; exact e
  ·cases this
 obtain ⟨k,hk⟩:∃ k:Nat,aY (fun x:Tb=>x.n==v.tb) S 0=k:=⟨(lW S v.tb).toNat,by unfold lW at *; omega⟩
 rw [cW hk] at hfi
 have hCl:=vM hc3 hlt
 have htyp:=fun e he=>gL (HQ (ts:=(bU S l).map Col.t) (by rw [List.length_map]; omega) (e:=e) (h.few e he).1)
 have hty2:=h.ty
 have hone:=h.one
 generalize bU S l=C at *
 generalize xC A l.length=AB at *
 have p6:¬ (6:Int)<(v.path.length:Int)+1:=by omega
 have hw6:=aH (n:=(v.path.length:Int)+1) (by omega) (by omega)
 have c1:¬ (1:Int)<v.cond.length:=by omega
 have c1n:¬ 1<v.cond.length:=by omega
 refine aD cF (fn:=Tryz.f24) (by kernel_rfl) rfl (by kernel_rfl) (by decide) (by simp) ?_
 simp [aR,Vw.a,Vw.c] at hta hat hco ⊢
 (repeat' first|contradiction|exact .ok|apply And.intro|intro _|(apply gc<;>simp+contextual))
 refine aA hpl (by simp [aR]) ?_
 simp
 (repeat' first|contradiction|exact .ok|apply And.intro|intro _|(apply gc<;>simp+contextual))
 refine aA hfi (by simp [aR]) ?_
 simp
 (repeat' first|contradiction|exact .ok|apply And.intro|intro _|(apply gc<;>simp+contextual))
 refine aA hta (by simp) ?_
 simp [p6,hw6,c1,c1n]
 (repeat' first|contradiction|exact .ok|apply And.intro|intro _|(apply gc<;>simp+contextual[p6,hw6,c1,c1n]))
 refine aA hco (by simp) ?_
 simp
 (repeat' first|contradiction|exact .ok|apply And.intro|intro _|(apply gc<;>simp+contextual))
 refine aL cF (by decide) (fun i:Nat=>{ s:=cG [(2,.ptr 2 0 0),(3,.ptr 3 0 0),(9,.ref 909 0 i 1),(10,.d (.sl (C.map Col.c))),(11,.d (.int .i64 i))],b:=cE [(2,2,.var [.d (.sl (S.map Tb.c))]),(3,3,.var (v.c.map AV.d)),(909,909,.arr 3 1 (aG ((C.map Col.t).take i)) false)] }) (fun i=>i≤C.length) (fun i=>C.length - i) 0 (by simp)
  (dW 9 909 3 1 (by simp) (by simp) (by decide) (by decide) _ [(2,2,_),(3,3,_),(909,909,_)] ⟨by simp,by simp,by simp [aB,Blk.live,aG,Vw.c],by simp⟩ (by simp [aB])) ?_
 intro i hi
 by_cases hlti:i<C.length
 ·have hw:=aH (n:=(i:Int)+1) (by omega) (by omega)
  obtain ⟨u,hu⟩:∃ u,u=C[i]:=⟨_,rfl⟩
  have hgu:∀ h,C[i]'h=u:=fun _=>hu.symm
  have hsu:aG ((C.map Col.t).take (i+1))=aG ((C.map Col.t).take i)++[[.int .i64 u.t]]:=by
   rw [bV (by simpa using hlti)]
   simp [aG,hgu]
  have hZl:(aG ((C.map Col.t).take i)).length=i:=by simp [aG]; omega
  generalize aG ((C.map Col.t).take i)=Z at *
  have htk:Z.take i=Z:=List.take_of_length_le (by omega)
  simp [hlti,hgu,Col.c,hZl,htk,eI i (by omega) 8 (by decide),eI (i+1) (by omega) 8 (by decide)]
  (repeat' first|contradiction|exact .ok|apply And.intro|intro _|(apply gc<;>simp+contextual))
  refine ⟨i+1,by omega,?_,by simp; omega⟩
  simp only [hsu]
  exact aE _ [(2,2,_),(3,3,_),(909,64,_)] ⟨by simp,by simp,by simp [aB,Blk.live,Vw.c],by simp⟩ (by simp [aB,hw])
 obtain rfl:i=C.length:=by omega
 have hCt:(C.map Col.t).take C.length=C.map Col.t:=List.take_of_length_le (by simp)
 have htk:(aG (C.map Col.t)).take C.length=aG (C.map Col.t):=List.take_of_length_le (by simp [aG])
 have hZl:(aG (C.map Col.t)).length=C.length:=by simp [aG]
 rw [hCt]
 generalize aG (C.map Col.t)=Z at *
 simp
 (repeat' first|contradiction|exact .ok|apply And.intro|intro _|(apply gc<;>simp+contextual))
 refine aL cF (by decide) (fun y:Nat×Bool=>{ s:=cG [(2,.ptr 2 0 0),(3,.ptr 3 0 0),(9,.ref 909 0 C.length 1),(12,.d (.int .i64 y.1))],b:=cE [(2,2,.var [.d (.sl (S.map Tb.c))]),(3,3,.var (v.c.map AV.d)),(909,909,.arr 3 1 Z y.2)] }) (fun y=>y.1≤v.cond.length) (fun y=>v.cond.length - y.1) (0,false) (by simp)
  (aE _ [(2,2,_),(3,3,_),(909,909,_)] ⟨by simp,by simp,by simp [aB,Blk.live,Vw.c],by simp⟩ (by simp [aB])) ?_
 rintro ⟨i,fz⟩ hi
 simp only at hi
 by_cases hlti:i<v.cond.length
 ·have hw:=aH (n:=(i:Int)+1) (by omega) (by omega)
  obtain ⟨e,he⟩:∃ e,e=v.cond[i]:=⟨_,rfl⟩
  have hge:∀ h,v.cond[i]'h=e:=fun _=>he.symm
  have hel:=Ex.clen e
  have het:=Ex.ctake e
  have hem:e∈v.cond:=by rw [he]; exact List.getElem_mem hlti
  have hte:=htyp e hem
  rw [hty2 e hem] at hte
  simp [hlti,Vw.c,hge,hel,het,hZl,htk]
  (repeat' first|contradiction|exact .ok|apply And.intro|intro _|(apply gc<;>simp+contextual))
  refine aA hte (by simp [Ex.a,het,hZl,htk]) ?_
  simp
  (repeat' first|contradiction|exact .ok|apply And.intro|intro _|(apply gc<;>simp+contextual))
  refine ⟨(i+1,true),by simp only; omega,?_,by simp; omega⟩
  exact aE _ [(2,2,_),(3,3,_),(909,909,_)] ⟨by simp,by simp,by simp [aB,Blk.live,Vw.c,hZl,htk],by simp⟩ (by simp [aB,hw])
 obtain rfl:i=v.cond.length:=by omega
 simp [Vw.c]
 (repeat' first|contradiction|exact .ok|apply And.intro|intro _|(apply gc<;>simp+contextual))
 refine aA hat (by simp [Vw.c]) ?_
 simp
 all_goals exact gz
end Go.Proofs.Tryz
