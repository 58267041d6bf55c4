import Derived.Test.YtkkbepgccddjoaaGreatDoorCSpl
import Derived.Test.YtkkbepgccddjoaaGreatDoorCKys
import Derived.Test.YtkkbepgccddjoaaGreatDoorCShr
import Derived.Test.YtkkbepgccddjoaaGreatDoorCSty
import Derived.Test.YtkkbepgccddjoaaGreatDoorCSmR
set_option linter.all false
namespace Go.Proofs.Tryz
open Go.Ab
set_option maxRecDepth 100000
set_option maxHeartbeats 8000000
def zA (A:Nat→List At) (n:Nat):List (List D):=aO (fun j=>[D.sl ((A j).map At.c)]) n
theorem AC (A:Nat→List At) (n:Nat):(zA A n).length=n:=dR ..
theorem aEC {A:Nat→List At} {n z:Nat} (h:z<n):∀ h',(zA A n)[z]'h'=[D.sl ((A z).map At.c)]:=fun h'=>by
 have:=bE (fun j=>[D.sl ((A j).map At.c)]) n z
 rw [if_pos h] at this
 unfold zA at h' ⊢
 rw [gE h'] at this
 exact Option.some.inj this
theorem aED {A:Nat→List At} {n z:Nat} {l:List At}:(zA A n).set z [D.sl (l.map At.c)]=zA (bP A z l) n:=by
 unfold zA
 rw [kR]
 congr 1
 funext k
 unfold bP
 split <;> rfl
theorem aEE {a:At} {d:Int} (h:-1000000000≤a.col∧a.col≤1000000000):(a.mv d).ex.shift (a.col - (a.col+d))=a.ex:=by
 have hm:(a.mv d).col=a.col+d:=rfl
 rw [oQ (by rw [hm]; omega)]
 congr 1
 obtain ⟨c,o,v⟩:=a
 simp only [At.mv]
 congr 1
 omega
theorem aCf (S:List Tb) (hS:∀ x∈S,x.ok) (l:List Nat) (hl:l.length≤1000) (hr:∀ k∈l,k<S.length) (z kz:Nat) (a:At) (hlz:l[z]?=some kz) (h:vJ (aR S kz) a) (hoff:cG S l z≤1000000) (q:Nat) (hq:(a.ex.shift (cG S l z)).few q=true) (hn:(a.ex.shift (cG S l z)).nodes≤1000) (A:Nat→List At) (hA:(A z).length≤1000) :
  Cf En 148 [aN S,.d (.sl (aD (aJ l))),(a.ex.shift (cG S l z)).a,.ref 1000000 0 l.length 1] [.arr 178 1 (zA A l.length) false] (.d (.bool true)) [.arr 178 1 (zA (bP A z (zH (A z) a)) l.length) false]:=by
 obtain ⟨hz,hze⟩:=List.getElem?_eq_some_iff.1 hlz
 obtain ⟨c0,c1⟩:=h.col
 have hk:=hr kz (List.mem_of_getElem? hlz)
 have htab:aR S kz=S[kz]:=by unfold aR; rw [gE hk]; rfl
 have hx:aR S kz∈S:=by rw [htab]; exact List.getElem_mem hk
 have hxo:=hS _ hx
 have hcl:=hxo.cols
 have hco:=JJ (SizeOf.sizeOf (a.ex.shift (cG S l z))+1) (a.ex.shift (cG S l z)) (by omega) q hq (by omega)
 have hsp:=HN S hS l (by omega) hr (a.col+cG S l z) (by omega) (by omega)
 rw [zX S l 0 z a.col hz c0 (by rw [hze]; exact c1),Nat.zero_add] at hsp
 have hmv:=oQ (a:=a) (d:=cG S l z) (by omega)
 have hcols:(a.mv (cG S l z)).ex.cols=[a.col+cG S l z]:=by rw [vY]; rfl
 have hsh:=AF (SizeOf.sizeOf (a.ex.shift (cG S l z))+1) (a.ex.shift (cG S l z)) (by omega) q hq (a.col - (a.col+cG S l z))
 rw [JI] at hco
 rw [hmv] at hco hsh ⊢
 rw [hcols] at hco
 rw [aEE (by omega)] at hsh
 have hone:=aDB (aR S kz) hxo a h
 have hin:=SJ (A z) hA a
 have hgA:=aEC (A:=A) hz
 have hAl:=AC A l.length
 have hset:=aED (A:=A) (n:=l.length) (z:=z) (l:=zH (A z) a)
 have hnl:=cH l
 have hgz:∀ h',(aD (aJ l))[z]'h'=[.int .i64 (kz:Int)]:=fun h'=>by simp [aD,aJ,hze]
 have hzZ:z<(aD (aJ l)).length:=by omega
 have hgx:∀ h,S[kz]'h=aR S kz:=fun _=>htab.symm
 have hwd:=wI (n:=a.col - (a.col+(cG S l z:Int)))
 have hEl:=Ex.clen (a.mv (cG S l z)).ex
 have hEt:=Ex.ctake (a.mv (cG S l z)).ex
 have hEl2:=Ex.clen a.ex
 have hEt2:=Ex.ctake a.ex
 generalize (a.mv (cG S l z)).ex=e at *
 generalize a.ex=e2 at *
 generalize cG S l z=off at *
 generalize zH (A z) a=I at *
 generalize aD (aJ l)=Z at *
 generalize aR S kz=x at *
 generalize zA A l.length=B at *
 generalize zA (bP A z I) l.length=B2 at *
 refine cI aW (fn:=Tryz.f148) rfl ?_
 simp [aN,gI,Ex.a,hEl,hEt] at hco hsp hsh hone ⊢
 (repeat' first|contradiction|exact .ok|apply And.intro|intro _|(apply gc<;>simp+contextual))
 refine aP hco ?_
 simp
 (repeat' first|contradiction|exact .ok|apply And.intro|intro _|(apply gc<;>simp+contextual))
 refine aP hsp ?_
 simp [hzZ,hgz,hk,hgx,hwd,Tb.c,hEl,hEt]
 (repeat' first|contradiction|exact .ok|apply And.intro|intro _|(apply gc<;>simp+contextual))
 refine aP hsh ?_
 simp
 refine aA hone (by simp [Tb.a,Tb.c]) ?_
 simp [SA,At.a,At.c]
 (repeat' first|contradiction|exact .ok|apply And.intro|intro _|(apply gc<;>simp+contextual))
 simp [hgA,hAl,hz]
 (repeat' first|contradiction|exact .ok|apply And.intro|intro _|(apply gc<;>simp+contextual))
 refine aA hin (by simp [At.a,At.c]) ?_
 simp [hgA,hAl,hz,hset]
 all_goals exact gz
theorem ON (S:List Tb) (hS:∀ x∈S,x.ok) (l:List Nat) (hl:l.length≤1000) (hr:∀ k∈l,k<S.length) (o:Int) (ks:List Ex) (ho:o=24∧ks.length=1∨o=22∧ks.length=2∨o=23∧ks.length=2) (q:Nat) (hq:(Ex.mk o 0 0 [] 0 ks).few q=true) (hn:(Ex.mk o 0 0 [] 0 ks).nodes≤1000)
  (hc:∀ c,(Ex.mk o 0 0 [] 0 ks).has c→∃ (z c' kz:Nat),l[z]?=some kz∧c=((cG S l z+c':Nat):Int)∧c'<(aR S kz).cols.length∧cG S l z≤1000000)
  (hone:∀ x∈S,∀ d:Int,Cf En 201 [x.a,((Ex.mk o 0 0 [] 0 ks).shift d).a] [] ZO [])
  (F:Nat→Nat→List At) (hk:∀ i (h:i<ks.length),Cf En 148 [aN S,.d (.sl (aD (aJ l))),ks[i].a,.ref 1000000 0 l.length 1] [.arr 178 1 (zA (F i) l.length) false] (.d (.bool true)) [.arr 178 1 (zA (F (i+1)) l.length) false]) :
  Cf En 148 [aN S,.d (.sl (aD (aJ l))),(Ex.mk o 0 0 [] 0 ks).a,.ref 1000000 0 l.length 1] [.arr 178 1 (zA (F 0) l.length) false] (.d (.bool true)) [.arr 178 1 (zA (F ks.length) l.length) false]:=by
 have hco:=JJ (SizeOf.sizeOf (Ex.mk o 0 0 [] 0 ks)+1) (Ex.mk o 0 0 [] 0 ks) (by omega) q hq (by omega)
 rw [JI] at hco
 have hsame:=KN (SizeOf.sizeOf (Ex.mk o 0 0 [] 0 ks)+1) (Ex.mk o 0 0 [] 0 ks) (Ex.mk o 0 0 [] 0 ks) (by omega) (CS (SizeOf.sizeOf (Ex.mk o 0 0 [] 0 ks)+1) (Ex.mk o 0 0 [] 0 ks) (by omega) q hq)
 rw [Ex.eq_self] at hsame
 have hsh:=fun d=>AF (SizeOf.sizeOf (Ex.mk o 0 0 [] 0 ks)+1) (Ex.mk o 0 0 [] 0 ks) (by omega) q hq d
 have hcm:=fun c=>mF (Ex.mk o 0 0 [] 0 ks) c
 generalize hC:(Ex.mk o 0 0 [] 0 ks).cols=C at *
 have hfl:=fun i=>AC (F i) l.length
 have hnl:=cH l
 have hks2:ks.length≤2:=by omega
 have hcase:C.length ≠ 1∨∃ c,C=[c]:=by
  match C with
  | []=>exact .inl (by simp)
  | [c]=>exact .inr ⟨c,rfl⟩
  | _::_::_=>exact .inl (by simp)
 have hspA:=fun c h0 hc=>HN S hS l (by omega) hr c h0 hc
 have hgA:∀ (z kz:Nat),l[z]?=some kz→∀ h',(aD (aJ l))[z]'h'=[D.int .i64 (kz:Int)]:=fun z kz e h'=>by
  obtain ⟨a,b⟩:=List.getElem?_eq_some_iff.1 e
  simp [aD,aJ,b]
 generalize aD (aJ l)=Z at *
 refine cI aW (fn:=Tryz.f148) rfl ?_
 rcases hcase with h1 | ⟨c,hC1⟩
 rcases ho with ⟨ho,hkl⟩ | ⟨ho,hkl⟩ | ⟨ho,hkl⟩ <;>
   (have h1i:¬ (C.length:Int)=1:=by omega
    simp [aN,gI,Ex.a,Ex.c,aE,ho] at hco hsame hk ⊢
    (repeat' first|contradiction|exact .ok|apply And.intro|intro _|(apply gc<;>simp+contextual))
    refine aP hco ?_
    simp [h1i,hkl]
    (repeat' first|contradiction|exact .ok|apply And.intro|intro _|(apply gc<;>simp+contextual[h1,h1i]))
    refine aP hsame ?_
    simp
    (repeat' (first | contradiction | exact .of (by kernel_rfl) | refine And.intro ?_ ?_ | intro _ | (refine aK (fun h=>?_) (fun h=>?_) <;> (have h':=h; (try simp at h'); first | done | simp [h,h'] | simp)))))
 rotate_left 3
 rcases ho with ⟨ho,hkl⟩ | ⟨ho,hkl⟩ | ⟨ho,hkl⟩ <;>
   (obtain ⟨z,c',kz,hlz,hce,hcl,hoff⟩:=hc c ((hcm c).1 (by rw [hC1]; simp))
    obtain ⟨hz,hze⟩:=List.getElem?_eq_some_iff.1 hlz
    have hkS:=hr kz (List.mem_of_getElem? hlz)
    have htab:aR S kz=S[kz]:=by unfold aR; rw [gE hkS]; rfl
    have hx:aR S kz∈S:=by rw [htab]; exact List.getElem_mem hkS
    have hxc:=(hS _ hx).cols
    have hsp:=hspA c (by omega) (by omega)
    rw [show c=(c':Int)+cG S l z from by omega,zX S l 0 z c' hz (by omega) (by rw [hze]; omega),Nat.zero_add] at hsp
    have hcc:c=(c':Int)+cG S l z:=by omega
    have hshd:=hsh ((c':Int) - c)
    have hon:=hone _ hx ((c':Int) - c)
    have hwd:=wI (n:=(c':Int) - c)
    rw [← hcc] at hsp
    have hgz:=hgA z kz hlz
    have hzZ:z<Z.length:=by omega
    have hgx:∀ h,S[kz]'h=aR S kz:=fun _=>htab.symm
    have hEl2:=Ex.clen ((Ex.mk o 0 0 [] 0 ks).shift ((c':Int) - c))
    have hEt2:=Ex.ctake ((Ex.mk o 0 0 [] 0 ks).shift ((c':Int) - c))
    rw [hC1] at hco
    clear hsh hone hcm
    generalize (Ex.mk o 0 0 [] 0 ks).shift ((c':Int) - c)=e2 at *
    generalize aR S kz=x at *
    simp [aN,gI,Ex.a,Ex.c,aE,ZO,At.a,At.c,nulV,ho] at hco hsame hk hsp hshd hon ⊢
    (repeat' first|contradiction|exact .ok|apply And.intro|intro _|(apply gc<;>simp+contextual))
    refine aP hco ?_
    simp
    (repeat' first|contradiction|exact .ok|apply And.intro|intro _|(apply gc<;>simp+contextual))
    refine aP hsp ?_
    simp [hzZ,hgz,hkS,hgx,hwd,Tb.c]
    (repeat' first|contradiction|exact .ok|apply And.intro|intro _|(apply gc<;>simp+contextual))
    refine aP hshd ?_
    simp
    refine aA hon (by simp [Tb.a,Tb.c]) ?_
    simp [hkl]
    (repeat' first|contradiction|exact .ok|apply And.intro|intro _|(apply gc<;>simp+contextual))
    refine aP hsame ?_
    simp
    (repeat' (first | contradiction | exact .of (by kernel_rfl) | refine And.intro ?_ ?_ | intro _ | (refine aK (fun h=>?_) (fun h=>?_) <;> (have h':=h; (try simp at h'); first | done | simp [h,h'] | simp)))))
 all_goals (
  refine aL aW (fun i:Nat=>{ s:=cE [(1,.d (.sl Z)),(3,.ref 1000000 0 l.length 1),(4,.ptr 4 0 0),(6,.ptr 6 0 0),(15,.d (.int .i64 ks.length)),(16,.d (.int .i64 i))],b:=cC [(1000000,1000000,.arr 178 1 (zA (F i) l.length) false),(4,4,.var [.d (.sl (S.map Tb.c))]),(6,6,.var ((Ex.mk o 0 0 [] 0 ks).c.map AV.d))] })
   (fun i=>i≤ks.length) (fun i=>ks.length - i) 0 (by simp) (aI _ [(1000000,1000000,_),(4,4,_),(6,6,_)] ⟨by simp,by simp,by simp [aB,Blk.live,Ex.c,aE,ho],bK⟩ (by simp [aB,hkl])) ?_
  intro i hi
  by_cases hlt:i<ks.length
  ·have hw:=wI (n:=(i:Int)+1)
   have hki:=hk i hlt
   obtain ⟨e,he⟩:∃ e,e=ks[i]:=⟨_,rfl⟩
   have hge:∀ h,ks[i]'h=e:=fun _=>he.symm
   have hel:=Ex.clen e
   have het:=Ex.ctake e
   rw [← he] at hki
   simp [hlt,Ex.c,aE,hge,hel,het]
   (repeat' first|contradiction|exact .ok|apply And.intro|intro _|(apply gc<;>simp+contextual))
   refine aH [1000000] hki (by simp) (by simp) ?_
   simp
   (repeat' first|contradiction|exact .ok|apply And.intro|intro _|(apply gc<;>simp+contextual))
   refine ⟨i+1,by omega,?_,by simp; omega⟩
   exact aI _ [(1000000,1000000,_),(4,4,_),(6,6,_)] ⟨by simp,by simp,by simp [aB,Blk.live,aE],bK⟩ (by simp [aB,hw])
  obtain rfl:i=ks.length:=by omega
  simp
  (repeat' (first | contradiction | exact .of (by kernel_rfl) | refine And.intro ?_ ?_ | intro _ | (refine aK (fun h=>?_) (fun h=>?_) <;> (have h':=h; (try simp at h'); first | done | simp [h,h'] | simp)))))
theorem YZ (x:Ex) (d:Int):(Ex.mk 24 0 0 [] 0 [x]).shift d=.mk 24 0 0 [] 0 [x.shift d]:=by simp [Ex.shift,eJ]
theorem ZA {o:Int} (ho:o=22∨o=23) (x y:Ex) (d:Int):(Ex.mk o 0 0 [] 0 [x,y]).shift d=.mk o 0 0 [] 0 [x.shift d,y.shift d]:=by
 have:¬ o=5:=by omega
 simp [Ex.shift,eJ,this]
theorem ZB (S:List Tb) (hS:∀ x∈S,x.ok) (l:List Nat) (hl:l.length≤1000) (hr:∀ k∈l,k<S.length) (hoff:∀ z,z<l.length→cG S l z≤1000000∧(aR S ((l[z]?).getD 0)).cols.length≤1000) {e:Ex} (h:MS S l e):∀ q:Nat,e.few q=true→e.nodes≤100→∀ A:Nat→List At,(∀ j,(A j).length+e.nodes≤500) →
  ∃ B:Nat→List At,(∀ j,(B j).length≤(A j).length+e.nodes)∧Cf En 148 [aN S,.d (.sl (aD (aJ l))),e.a,.ref 1000000 0 l.length 1] [.arr 178 1 (zA A l.length) false] (.d (.bool true)) [.arr 178 1 (zA B l.length) false]:=by
 have hcol:∀ {e:Ex},MS S l e→∀ c,e.has c→∃ (z c' kz:Nat),l[z]?=some kz∧c=((cG S l z+c':Nat):Int)∧c'<(aR S kz).cols.length∧cG S l z≤1000000:=fun h c hc=>by
  obtain ⟨z,c',hz,h1,h2,_⟩:=UM hoff h c hc
  exact ⟨z,c',l[z],gE hz,h1,h2,(hoff z hz).1⟩
 induction h with
 | atom z a hz ha =>
   intro q hq hn A hA
   have h1:=aBh (A z) a
   have hp:=YB (a.ex.shift (cG S l z))
   refine ⟨bP A z (zH (A z) a),fun j=>?_,aCf S hS l hl hr z l[z] a (gE hz) ha (hoff z hz).1 q hq (by omega) A (by have:=hA z; omega)⟩
   unfold bP
   split
   ·rename_i e; subst e; omega
   ·omega
 | no x hx ih =>
   intro q hq hn A hA
   obtain ⟨_,_,hk⟩:=jI hq
   have hne:(Ex.mk 24 0 0 [] 0 [x]).nodes=1+x.nodes:=by rw [Ex.nodes,aU,aU]; omega
   obtain ⟨B,hB,hc⟩:=ih (q+1) (hk x (by simp)) (by omega) A (fun j=>by have:=hA j; omega)
   refine ⟨B,fun j=>by have:=hB j; omega,?_⟩
   exact ON S hS l hl hr 24 [x] (.inl ⟨rfl,rfl⟩) q hq (by omega) (hcol (.no x hx)) (fun y hy d=>by rw [YZ]; exact aCG y (hS y hy) _) (fun i=>if i=0 then A else B) (fun i hi=>by
    obtain rfl:i=0:=by simpa using hi
    exact hc)
 | both o x y ho hx hy ihx ihy =>
   intro q hq hn A hA
   obtain ⟨_,_,hk⟩:=jI hq
   have hne:(Ex.mk o 0 0 [] 0 [x,y]).nodes=1+(x.nodes+y.nodes):=by rw [Ex.nodes,aU,aU,aU]; omega
   obtain ⟨B,hB,hc⟩:=ihx (q+1) (hk x (by simp)) (by omega) A (fun j=>by have:=hA j; omega)
   obtain ⟨C,hC,hd⟩:=ihy (q+1) (hk y (by simp)) (by omega) B (fun j=>by have:=hA j; have:=hB j; omega)
   refine ⟨C,fun j=>by have:=hB j; have:=hC j; omega,?_⟩
   exact ON S hS l hl hr o [x,y] (by rcases ho with h | h <;> simp [h]) q hq (by omega) (hcol (.both o x y ho hx hy)) (fun w hw d=>by
    rw [ZA ho]
    exact aCH w (hS w hw) o ho _ _ (q+1) (by rw [oM]; exact hk y (by simp))) (fun i=>if i=0 then A else if i=1 then B else C) (fun i hi=>by
    rcases (by simp at hi; omega:i=0∨i=1) with rfl | rfl
    ·exact hc
    ·exact hd)
end Go.Proofs.Tryz
