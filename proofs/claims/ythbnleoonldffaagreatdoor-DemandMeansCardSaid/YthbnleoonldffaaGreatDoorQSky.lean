import Derived.Test.YthbnleoonldffaaGreatDoorQExp
import Derived.Test.YthbnleoonldffaaGreatDoorQTap
import Derived.Test.YthbnleoonldffaaGreatDoorQEnvR
import Derived.Test.YthbnleoonldffaaGreatDoorQCldR
import Derived.Test.YthbnleoonldffaaGreatDoorQR8c
import Derived.Test.YthbnleoonldffaaGreatDoorAbB
set_option linter.all false
namespace Go.Proofs.Tryz
open Go.Ab
set_option maxRecDepth 100000
set_option maxHeartbeats 4000000
instance V.dec:DecidableEq V:=fun a b =>
 if h:a.k=b.k∧a.n=b.n∧a.t=b.t then .isTrue (by cases a; cases b; simp only at h; obtain ⟨rfl,rfl,rfl⟩:=h; rfl) else .isFalse fun e=>by subst e; exact h ⟨rfl,rfl,rfl⟩
def V.lt (v u:V):Prop:=v.cmp u<0
def V.le (v u:V):Prop:=v.cmp u≤0
theorem V.le_trans {a b c:V} (h1:a.le b) (h2:b.le c):a.le c:=V.cmp_trans h1 h2
theorem V.le_refl (v:V):v.le v:=by unfold V.le; rw [V.cmp_self]; omega
def V.beq (a b:V):Bool:=a.k==b.k&&(a.n==b.n&&a.t==b.t)
theorem V.beq_iff (a b:V):V.beq a b=true↔a=b:=by
 cases a; cases b
 simp [V.beq,V.mk.injEq]
structure At where
 col:Int
 op:Int
 v:V
def At.c (x:At):List D:=[.int .i64 x.col,.int .i64 x.op,.int .i64 x.v.k,.int .i64 x.v.n,.str x.v.t]
def At.a (x:At):AV:=.agg (x.c.map AV.d)
def eA (c:Int):Ex:=.mk 5 0 0 [] c []
def At.ex (x:At):Ex:=if x.op=5 then eA x.col else if x.op=21 then .mk 21 0 0 [] 0 [eA x.col] else .mk x.op 0 0 [] 0 [eA x.col,bO x.v 0]
def At.zero (x:At):At:=⟨0,x.op,x.v⟩
def At.tr (x:At) (w:V):Int:=(aI x.zero.ex [w]).tr
theorem kU (S:List Tb) (hl:S.length≤1000) (hS:∀ x∈S,x.ok) {i k:Nat} {u:Tb} {f:Fk} (hi:i<S.length) (hu:S[i]=u) (hk:k<u.fk.length) (hf:u.fk[k]=f) :
  Cf En 49 [aR S,.d (.int .i64 i),.d (.int .i64 k)] [] (place (fun x:Tb=>x.n==f.t) S) []:=by
 refine aD aW (fn:=Tryz.f49) (by kernel_rfl) rfl (by kernel_rfl) (by decide) (by simp) ?_
 have h1:¬ (i:Int)<0:=by omega
 have h2:¬ (k:Int)<0:=by omega
 have h3:¬ (S.length:Int)≤i:=by omega
 have h4:¬ (u.fk.length:Int)≤k:=by omega
 have hgi:∀ h,S[i]'h=u:=fun _=>hu
 have hgf:∀ h,u.fk[k]'h=f:=fun _=>hf
 have hgf2:u.fk[k]?=some f:=by rw [List.getElem?_eq_getElem hk,hf]
 simp [aR,h1,h2,h3,h4,hi,hgi,Tb.c]
 (repeat' first|contradiction|exact .ok|apply And.intro|intro _|(apply gc<;>simp+contextual[h1,h2,h3,h4,hi,hgi,Tb.c,hk,hgf,hgf2,Fk.c]))
 simp [hgf2,Fk.c]
 (repeat' first|contradiction|exact .ok|apply And.intro|intro _|(apply gc<;>simp+contextual))
 refine aA (oV S hl f.t) (by simp [aR]) ?_
 unfold place
 simp
 all_goals exact gz
def dnB (N:Nat) (done:Nat→Bool) (out:List Int) (S:List Tb):Nat→Blk:=cE [(1,1,.var [.d (.sl (S.map Tb.c))]),(900,900,.arr 4 1 (bE (fun k=>[.bool (done k)]) N) false),(901,901,.arr 3 1 (aG out) false)]
theorem KV (S:List Tb) (hl:S.length≤1000) (hS:∀ x∈S,x.ok):Cf En 48 [aR S] [] (.tup [.d (.sl (aG (eX S).1)),.d (.int .i64 (eX S).2)]) []:=by
 refine aD aW (fn:=Tryz.f48) (by kernel_rfl) rfl (by kernel_rfl) (by decide) (by simp) ?_
 simp [aR]
 (repeat' first|contradiction|exact .ok|apply And.intro|intro _|(apply gc<;>simp+contextual))
 refine aL aW (by decide) (fun i:Nat=>{ s:=cG [(1,.ptr 1 0 0),(4,.d (.int .i64 i))],b:=cE [(1,1,.var [.d (.sl (S.map Tb.c))])] }) (fun i=>i≤S.length∧∀ x∈S.take i,∀ f∈x.fk,0≤iB S f) (fun i=>S.length - i) 0 (by simp) (aE _ [(1,1,_)] ⟨by simp,by simp,by simp [aB,Blk.live],by simp⟩ (by simp [aB])) ?_
 rintro i ⟨hi,hall⟩
 by_cases hlt:i<S.length
 ·obtain ⟨u,hu⟩:∃ u,u=S[i]:=⟨_,rfl⟩
  have hgi:∀ h,S[i]'h=u:=fun _=>hu.symm
  have hw:=aH (n:=(i:Int)+1) (by omega) (by omega)
  have hok:=hS u (by rw [hu]; exact List.getElem_mem hlt)
  have hfk:=hok.fk
  simp [hlt]
  (repeat' first|contradiction|exact .ok|apply And.intro|intro _|(apply gc<;>simp+contextual))
  refine aL aW (by decide) (fun j:Nat=>{ s:=cG [(1,.ptr 1 0 0),(4,.d (.int .i64 i)),(5,.d (.int .i64 j))],b:=cE [(1,1,.var [.d (.sl (S.map Tb.c))])] }) (fun j=>j≤u.fk.length∧∀ f∈u.fk.take j,0≤iB S f) (fun j=>u.fk.length - j) 0 (by simp) (aE _ [(1,1,_)] ⟨by simp,by simp,by simp [aB,Blk.live],by simp⟩ (by simp [aB])) ?_
  rintro j ⟨hj,ha⟩
  by_cases hjl:j<u.fk.length
  ·obtain ⟨f,hf⟩:∃ f,f=u.fk[j]:=⟨_,rfl⟩
   have hgf:∀ h,u.fk[j]'h=f:=fun _=>hf.symm
   have hwj:=aH (n:=(j:Int)+1) (by omega) (by omega)
   simp [hlt,hgi,hjl,Tb.c]
   (repeat' first|contradiction|exact .ok|apply And.intro|intro _|(apply gc<;>simp+contextual))
   refine aA (kU S hl hS hlt hu.symm hjl hf.symm) (by simp [aR]) ?_
   by_cases hz:0≤iB S f
   ·obtain ⟨k,hk⟩:∃ k:Nat,iB S f=k:=⟨(iB S f).toNat,by omega⟩
    rw [cW (show aY (fun x:Tb=>x.n==f.t) S 0=k from hk)]
    simp
    (repeat' first|contradiction|exact .ok|apply And.intro|intro _|(apply gc<;>simp+contextual))
    refine ⟨j+1,⟨by omega,fun g hg=>?_⟩,?_,by simp; omega⟩
    ·rw [bV hjl,← hf] at hg
     rcases List.mem_append.1 hg with hg | hg
     ·exact ha g hg
     ·simp at hg; subst hg; exact hz
    ·exact aE _ [(1,1,_)] ⟨by simp,by simp,by simp [aB,Blk.live],by simp⟩ (by simp [aB,hwj])
   ·have hm:eX S=([],11):=by
     unfold eX
     rw [if_pos]
     unfold mM
     rw [List.any_eq_true]
     refine ⟨u,by rw [hu]; exact List.getElem_mem hlt,?_⟩
     rw [List.any_eq_true]
     exact ⟨f,by rw [hf]; exact List.getElem_mem hjl,by simp; omega⟩
    rw [lQ (nO hz),hm]
    simp
    (repeat' first|contradiction|exact .ok|apply And.intro|intro _|(apply gc<;>simp+contextual))
    try rfl
  ·obtain rfl:j=u.fk.length:=by omega
   simp [hlt,hgi,Tb.c]
   (repeat' first|contradiction|exact .ok|apply And.intro|intro _|(apply gc<;>simp+contextual))
   refine ⟨i+1,⟨by omega,fun x hx=>?_⟩,?_,by simp; omega⟩
   ·rw [bV hlt,← hu] at hx
    rcases List.mem_append.1 hx with hx | hx
    ·exact hall x hx
    ·simp at hx
     subst hx
     rw [List.take_length] at ha
     exact ha
   ·exact aE _ [(1,1,_)] ⟨by simp,by simp,by simp [aB,Blk.live],by simp⟩ (by simp [aB,hw])
 ·obtain rfl:i=S.length:=by omega
  have hms:mM S=false:=by
   rw [List.take_length] at hall
   unfold mM
   rw [List.any_eq_false]
   intro x hx
   rw [List.any_eq_true]
   rintro ⟨f,hf,h0⟩
   have:=hall x hx f hf
   simp at h0
   omega
  have hor:jX S (S.length - 0) (fun _=>false) []=eX S:=by
   rw [uK,hms]; rfl
  clear hall hi hlt
  have hsz:(S.length:Int)≤281474976710656:=by omega
  have hsz2:=(mk8 S.length hl).1
  have hT:=AT hms
  have hTn:∀ f:Fk,iB S f<S.length:=fun f=>by
   have:=rC (p:=fun x:Tb=>x.n==f.t) (l:=S) (i:=0)
   unfold iB
   simpa using this
  simp [hsz,hsz2]
  (repeat' first|contradiction|exact .ok|apply And.intro|intro _|(apply gc<;>simp+contextual))
  clear hsz hsz2
  refine aL aW (by decide) (fun x:Nat×(Nat→Bool)×List Int=>{ s:=cG [(1,.ptr 1 0 0),(8,.ref 900 0 S.length 1),(9,.ref 901 0 x.1 1)],b:=dnB S.length x.2.1 x.2.2 S })
   (fun x=>x.1≤S.length∧x.2.2.length=x.1∧jX S (S.length - x.1) x.2.1 x.2.2=eX S) (fun x=>S.length - x.1) (0,fun _=>false,[]) ⟨by simp,by simp,hor⟩ ?_ ?_
  ·refine (tE (i:=9) (m:=901) (ety:=3) (sz:=1) (by simp) ?_ (by decide) (by decide)).trans ?_
   ·simp
   refine aE _ [(1,1,_),(900,46,_),(901,901,_)] ⟨by simp,by simp,by simp [aB,Blk.live,nD,aG],by simp⟩ (by simp [aB])
  rintro ⟨i,done,out⟩ ⟨hi,hlo,hL⟩
  simp only at hi hlo hL ⊢
  unfold dnB
  have hgd:∀ (k:Nat) (hk:k<S.length),∀ h,(bE (fun k=>[D.bool (done k)]) S.length)[k]'h=[.bool (done k)]:=fun k hk h=>by
   have:=bR (fun k=>[D.bool (done k)]) S.length k
   rw [List.getElem?_eq_getElem h,if_pos hk] at this
   exact Option.some.inj this
  by_cases hlt:i<S.length
  ·rw [show S.length - i=(S.length - (i+1))+1 from by omega,jX] at hL
   have hrl:iQ S done<S.length:=by
    have:=rC (p:=AR S done) (l:=bE (fun k=>k) S.length) (i:=0)
    unfold iQ
    simpa using this
   simp [hlt]
   (repeat' first|contradiction|exact .ok|apply And.intro|intro _|(apply gc<;>simp+contextual))
   refine FW aW (by decide) (fun x:Nat×Int=>{ s:=cG [(1,.ptr 1 0 0),(8,.ref 900 0 S.length 1),(9,.ref 901 0 i 1),(10,.d (.int .i64 x.2)),(11,.d (.int .i64 x.1))],b:=dnB S.length done out S })
    (fun x=>x.1≤S.length∧((x.2=-1∧aY (AR S done) ((bE (fun k=>k) S.length).drop x.1) x.1=iQ S done)∨(0≤x.2∧x.2=iQ S done))) (fun x=>S.length - x.1) (0,-1) ⟨by simp,.inl ⟨rfl,rfl⟩⟩ 6
    { s:=cG [(1,.ptr 1 0 0),(8,.ref 900 0 S.length 1),(9,.ref 901 0 i 1),(10,.d (.int .i64 (iQ S done)))],b:=dnB S.length done out S }
    (aE _ [(1,1,_),(900,900,_),(901,901,_)] ⟨by simp,by simp,by simp [aB,Blk.live],by simp⟩ (by simp [aB])) ?_ ?_
   ·rintro ⟨k,z⟩ ⟨hk,hz⟩
    simp only at hk hz ⊢
    unfold dnB
    rcases hz with ⟨rfl,hf⟩ | ⟨hz0,hzr⟩
    rotate_left
    ·have hzn:¬ z<0:=by omega
     subst hzr
     by_cases hkl:k<S.length
     ·have hkl':(k:Int)<S.length:=by omega
      simp [hkl,hzn]
      (repeat' first|contradiction|exact .ok|apply And.intro|intro _|(apply gc<;>simp+contextual[hkl,hzn]))
      refine AExitTo.mk rfl ?_
      exact aE _ [(1,1,_),(900,900,_),(901,901,_)] ⟨by simp,by simp,by simp [aB,Blk.live],by simp⟩ (by simp [aB])
     ·obtain rfl:k=S.length:=by omega
      simp
      (repeat' first|contradiction|exact .ok|apply And.intro|intro _|(apply gc<;>simp+contextual[hzn]))
      refine AExitTo.mk rfl ?_
      exact aE _ [(1,1,_),(900,900,_),(901,901,_)] ⟨by simp,by simp,by simp [aB,Blk.live],by simp⟩ (by simp [aB])
    ·by_cases hkl:k<S.length
     ·obtain ⟨u,hu⟩:∃ u,u=S[k]:=⟨_,rfl⟩
      have hgi:∀ h,S[k]'h=u:=fun _=>hu.symm
      have hok:=hS u (by rw [hu]; exact List.getElem_mem hkl)
      have hfk:=hok.fk
      have hfo:HW S k=u.fk:=by unfold HW; rw [List.getElem?_eq_getElem hkl,← hu]
      have hwk:=aH (n:=(k:Int)+1) (by omega) (by omega)
      rw [dX (by simpa using hkl)] at hf
      have hid:∀ h,(bE (fun k=>k) S.length)[k]'h=k:=fun h=>by
       have:=bR (fun k=>k) S.length k
       rw [List.getElem?_eq_getElem h,if_pos hkl] at this
       exact Option.some.inj this
      rw [hid] at hf
      simp [hkl,hgd k hkl]
      (repeat' first|contradiction|exact .ok|apply And.intro|intro _|(apply gc<;>simp+contextual))
      refine aL aW (by decide) (fun x:Nat×Bool=>{ s:=cG [(1,.ptr 1 0 0),(8,.ref 900 0 S.length 1),(9,.ref 901 0 i 1),(10,.d (.int .i64 (-1))),(11,.d (.int .i64 k)),(12,.d (.bool x.2)),(13,.d (.int .i64 x.1))],b:=dnB S.length done out S })
       (fun x=>x.1≤u.fk.length∧(x.2&&(u.fk.drop x.1).all fun f=>done (iB S f).toNat)=AR S done k) (fun x=>u.fk.length - x.1) (0,!done k) ⟨by simp,by unfold AR; rw [hfo]; rfl⟩
       (aE _ [(1,1,_),(900,900,_),(901,901,_)] ⟨by simp,by simp,by simp [aB,Blk.live],by simp⟩ (by simp [aB])) ?_
      rintro ⟨j,r⟩ ⟨hj,hr⟩
      simp only at hj hr ⊢
      unfold dnB
      by_cases hjl:j<u.fk.length
      ·obtain ⟨f,hfj⟩:∃ f,f=u.fk[j]:=⟨_,rfl⟩
       have hgf:∀ h,u.fk[j]'h=f:=fun _=>hfj.symm
       have hwj:=aH (n:=(j:Int)+1) (by omega) (by omega)
       have hft:=hT k f (by rw [hfo,hfj]; exact List.getElem_mem hjl)
       have hfn:=hTn f
       obtain ⟨t,ht⟩:∃ t:Nat,iB S f=t:=⟨(iB S f).toNat,by omega⟩
       have htl:t<S.length:=by omega
       rw [List.drop_eq_getElem_cons hjl,← hfj,List.all_cons,ht,Int.toNat_natCast] at hr
       simp [hkl,hgi,hjl,Tb.c]
       (repeat' first|contradiction|exact .ok|apply And.intro|intro _|(apply gc<;>simp+contextual))
       refine aA (kU S hl hS hkl hu.symm hjl hfj.symm) (by simp [aR]) ?_
       rw [cW (show aY (fun x:Tb=>x.n==f.t) S 0=t from ht)]
       cases r with
       | true =>
         simp [htl,hgd t htl]
         (repeat' first|contradiction|exact .ok|apply And.intro|intro _|(apply gc<;>simp+contextual[htl,hgd t htl]))
         refine ⟨(j+1,done t),⟨by simp; omega,by simpa using hr⟩,?_,by simp; omega⟩
         exact aE _ [(1,1,_),(900,900,_),(901,901,_)] ⟨by simp,by simp,by simp [aB,Blk.live],by simp⟩ (by simp [aB,hwj])
       | false =>
         simp
         (repeat' first|contradiction|exact .ok|apply And.intro|intro _|(apply gc<;>simp+contextual))
         refine ⟨(j+1,false),⟨by simp; omega,by simpa using hr⟩,?_,by simp; omega⟩
         exact aE _ [(1,1,_),(900,900,_),(901,901,_)] ⟨by simp,by simp,by simp [aB,Blk.live],by simp⟩ (by simp [aB,hwj])
      ·obtain rfl:j=u.fk.length:=by omega
       rw [List.drop_length,List.all_nil,Bool.and_true] at hr
       cases r with
       | true =>
         rw [← hr,if_pos rfl] at hf
         simp [hkl,hgi,Tb.c]
         (repeat' first|contradiction|exact .ok|apply And.intro|intro _|(apply gc<;>simp+contextual))
         refine ⟨(k+1,(k:Int)),⟨by simp; omega,.inr ⟨by simp,hf⟩⟩,?_,by simp; omega⟩
         exact aE _ [(1,1,_),(900,900,_),(901,901,_)] ⟨by simp,by simp,by simp [aB,Blk.live],by simp⟩ (by simp [aB,hwk])
       | false =>
         rw [← hr,if_neg (by decide)] at hf
         simp [hkl,hgi,Tb.c]
         (repeat' first|contradiction|exact .ok|apply And.intro|intro _|(apply gc<;>simp+contextual))
         refine ⟨(k+1,-1),⟨by simp; omega,.inl ⟨rfl,hf⟩⟩,?_,by simp; omega⟩
         exact aE _ [(1,1,_),(900,900,_),(901,901,_)] ⟨by simp,by simp,by simp [aB,Blk.live],by simp⟩ (by simp [aB,hwk])
     ·obtain rfl:k=S.length:=by omega
      rw [List.drop_of_length_le (by simp),aY] at hf
      simp
      (repeat' first|contradiction|exact .ok|apply And.intro|intro _|(apply gc<;>simp+contextual))
      refine AExitTo.mk rfl ?_
      exact aE _ [(1,1,_),(900,900,_),(901,901,_)] ⟨by simp,by simp,by simp [aB,Blk.live],by simp⟩ (by simp [aB,← hf])
   ·generalize iQ S done=z at *
    unfold dnB
    by_cases hz:z<0
    ·rw [if_pos hz] at hL
     rw [← hL]
     simp [hz]
     (repeat' first|contradiction|exact .ok|apply And.intro|intro _|(apply gc<;>simp+contextual[hz]))
     try rfl
    ·rw [if_neg hz] at hL
     obtain ⟨q,rfl⟩:∃ q:Nat,z=q:=⟨z.toNat,by omega⟩
     have hq:q<S.length:=by omega
     have hz1:(aG out).take i=aG out:=List.take_of_length_le (by simp [hlo])
     simp [hz,hq,hgd q hq,hlo,hz1,eI (i+1) (by omega) 8 (by decide),eI i (by omega) 8 (by decide)]
     (repeat' first|contradiction|exact .ok|apply And.intro|intro _|(apply gc<;>simp+contextual))
     have hset:(bE (fun k=>[D.bool (done k)]) S.length).set q [.bool true]=bE (fun k=>[D.bool (VU done q k)]) S.length:=by
      rw [nC]
      refine cJ fun k _=>?_
      by_cases hk:k=q
      ·subst hk
       simp [VU]
      ·have hk':¬ (k:Int)=q:=by omega
       simp [VU,hk,hk']
     have hio:aG (out++[(q:Int)])=aG out++[[.int .i64 q]]:=by simp [aG]
     refine ⟨(i+1,VU done q,out++[(q:Int)]),⟨by simp; omega,by simp [hlo],hL⟩,?_,by simp; omega⟩
     exact aE _ [(1,1,_),(900,900,_),(901,104,_)] ⟨by simp,by simp,by simp [aB,Blk.live,hset,hio],by simp⟩ (by simp [aB])
  ·obtain rfl:i=S.length:=by omega
   rw [Nat.sub_self,show jX S 0 done out=(out,0) from rfl] at hL
   rw [← hL]
   have ht:(aG out).take S.length=aG out:=List.take_of_length_le (by simp [hlo])
   simp [hlo,ht]
   all_goals exact gz
def bC {α:Type} (f:Nat→α→Int):List α→Nat→Int
 | [],_=>0
 | x::l,i=>if f i x ≠ 0 then f i x else bC f l (i+1)
def eZ (a b:Int):Int:=if a ≠ 0 then a else b
theorem eG {α:Type} {f:Nat→α→Int} {l:List α} {i:Nat} (h:i<l.length):bC f (l.drop i) i=if f i l[i] ≠ 0 then f i l[i] else bC f (l.drop (i+1)) (i+1):=by
 rw [List.drop_eq_getElem_cons h,bC]
theorem fA {α:Type} {f:Nat→α→Int} {l:List α} {i:Nat} (h:l.length≤i):bC f (l.drop i) i=0:=by
 rw [List.drop_of_length_le h,bC]
theorem fB {a b:Int} (h:a ≠ 0):eZ a b=a:=if_pos h
theorem eP {b:Int}:eZ 0 b=b:=if_neg (by simp)
theorem HJ {α:Type} {f:Nat→α→Int}:∀ {l:List α} {i:Nat},bC f l i=0→∀ (j:Nat) (h:j<l.length),f (i+j) l[j]=0
 | x::l,i,h,j,hj=>by
   rw [bC] at h
   split at h
   ·rename_i h0; exact absurd h h0
   ·rename_i h0
    cases j with
    | zero=>simpa using h0
    | succ j =>
      have:=HJ h j (by simpa using hj)
      rw [List.getElem_cons_succ,← this]
      congr 1
      omega
theorem BP {α:Type} {g:α→Int}:∀ (l:List α) (i j:Nat),bC (fun _=>g) l i=bC (fun _=>g) l j
 | [],_,_=>rfl
 | x::l,i,j=>by rw [bC,bC,BP l (i+1) (j+1)]
theorem xD {α:Type} {g:α→Int}:∀ (a b:List α) (i:Nat),bC (fun _=>g) (a++b) i=eZ (bC (fun _=>g) a i) (bC (fun _=>g) b i)
 | [],b,i=>by rw [List.nil_append,bC,eP]
 | x::a,b,i=>by
   rw [List.cons_append,bC,bC,xD a b (i+1),BP b (i+1) i]
   split
   ·rename_i h; rw [fB h]
   ·rfl
theorem LP {α β:Type} {g:β→Int} {f:α→β}:∀ (l:List α) (i:Nat),bC (fun _=>g) (l.map f) i=bC (fun _ x=>g (f x)) l i
 | [],_=>rfl
 | x::l,i=>by rw [List.map_cons,bC,bC,LP l (i+1)]
theorem aAz {α:Type} {g:α→Int} {l:List α} {i:Nat} (h:bC (fun _=>g) l i=0):∀ x∈l,g x=0:=by
 intro x hx
 obtain ⟨j,hj,rfl⟩:=List.getElem_of_mem hx
 exact HJ h j hj
def VI (n:Nat):List Int→List Int→Bool
 | _,[]=>true
 | pre,k::r=>(decide (0≤k)&&(decide (k<n)&&!pre.contains k))&&VI n (pre++[k]) r
def lU (n:Nat) (l:List Int):Bool:=VI n [] l&&!l.isEmpty
theorem LQ {n:Nat} {l:List Int} {i:Nat} (h:i<l.length):VI n (l.take i) (l.drop i)=((decide (0≤l[i])&&(decide (l[i]<n)&&!(l.take i).contains l[i]))&&VI n (l.take (i+1)) (l.drop (i+1))):=by
 rw [List.drop_eq_getElem_cons h,VI,bV h]
theorem RZ {n:Nat}:∀ {l pre:List Int},VI n pre l=true→∀ k∈l,0≤k∧k<n
 | k::r,pre,h,x,hx=>by
   rw [VI] at h
   simp only [Bool.and_eq_true,decide_eq_true_eq] at h
   rcases List.mem_cons.1 hx with rfl | hx
   ·exact ⟨h.1.1,h.1.2.1⟩
   ·exact RZ h.2 x hx
theorem wG {n:Nat} {l:List Int} (h:lU n l=true):∀ k∈l,0≤k∧k<n:=by
 unfold lU at h
 rw [Bool.and_eq_true] at h
 exact RZ h.1
def gN (x:Tb) (l:List Int):Int:=if lU x.cols.length l=true then 0 else 6
def nS (x:Tb) (c:Int):Bool:=((x.cols[c.toNat]?).map Col.b).getD false
def fS (x:Tb):Int:=eZ (gN x x.pr) (eZ (if x.pr.any (nS x)=true then 4 else 0) (bC (fun _=>gN x) (x.un++x.fk.map Fk.cols) 0))
def lX (nm:List UInt8→Bool) (cs:List Col) (i:Nat) (c:Col):Int :=
 if nm c.n=false then 3 else if aY (fun d:Col=>d.n==c.n) cs 0<i then 5 else if c.t=1∨c.t=2∨c.t=3 then 0 else 4
def lY (ty:Ex→Int×Int) (e:Ex):Int:=if (ty e).2 ≠ 0 then (ty e).2 else if (ty e).1 ≠ 2 then 4 else 0
def eT (nm:List UInt8→Bool) (ty:Tb→Ex→Int×Int) (x:Tb):Int :=
 if 8<x.cols.length∨3<x.un.length∨3<x.fk.length∨4<x.ch.length then 8 else if x.cols.length=0 then 9 else
 eZ (bC (lX nm x.cols) x.cols 0) (eZ (fS x) (bC (fun _=>lY (ty x)) x.ch 0))
def jT (nm:List UInt8→Bool) (ty:Tb→Ex→Int×Int) (S:List Tb) (i:Nat) (x:Tb):Int :=
 if nm x.n=false then 3 else if aY (fun y:Tb=>y.n==x.n) S 0<i then 5 else eT nm ty x
def mN (x o:Tb) (a b:List Int):Bool:=a.length==b.length&&(a.zip b).all fun p=>dE x p.1==dE o p.2
def jP (S:List Tb) (x:Tb) (f:Fk):Int:=match S[(iB S f).toNat]? with
 | some o=>if iB S f<0 then 11 else if mN x o f.cols o.pr=true then 0 else 6
 | none=>11
def dR (nm:List UInt8→Bool) (ty:Tb→Ex→Int×Int) (S:List Tb):Int :=
 if 6<S.length then 8 else eZ (bC (jT nm ty S) S 0) (eZ (bC (fun _ x=>bC (fun _=>jP S x) x.fk 0) S 0) (eX S).2)
theorem jC {a b:Int} (h:eZ a b=0):a=0∧b=0:=by
 unfold eZ at h
 split at h
 ·rename_i h0; exact absurd h h0
 ·rename_i h0; exact ⟨by simpa using h0,h⟩
theorem nT {x:Tb} (h:fS x=0):(∀ k∈x.pr,0≤k∧k<x.cols.length)∧∀ f∈x.fk,∀ k∈f.cols,0≤k∧k<x.cols.length:=by
 obtain ⟨h1,h2⟩:=jC h
 obtain ⟨_,h3⟩:=jC h2
 have hk:∀ {l:List Int},gN x l=0→∀ k∈l,0≤k∧k<x.cols.length:=by
  intro l hl
  unfold gN at hl
  split at hl
  ·rename_i hb; exact wG hb
  ·cases hl
 refine ⟨hk h1,fun f hf=>hk (aAz h3 f.cols ?_)⟩
 exact List.mem_append_right _ (List.mem_map.2 ⟨f,hf,rfl⟩)
theorem VJ {nm:List UInt8→Bool} {ty:Tb→Ex→Int×Int} {x:Tb} (h:eT nm ty x=0):fS x=0:=by
 unfold eT at h
 split at h
 ·cases h
 split at h
 ·cases h
 exact (jC (jC h).2).1
theorem HK {nm:List UInt8→Bool} {ty:Tb→Ex→Int×Int} {S:List Tb} (h:bC (jT nm ty S) S 0=0):∀ x∈S,fS x=0:=by
 intro x hx
 obtain ⟨j,hj,rfl⟩:=List.getElem_of_mem hx
 have:=HJ h j hj
 unfold jT at this
 split at this
 ·cases this
 split at this
 ·cases this
 exact VJ this
theorem aDf (x:Tb) (hx:x.ok) (l:List Int) (hl:l.length≤1000):Cf En 210 [x.a,.d (.sl (aG l))] [] (.d (.int .i64 (gN x l))) []:=by
 refine aD aW (fn:=Tryz.f210) (by kernel_rfl) rfl (by kernel_rfl) (by decide) (by simp) ?_
 have hcl:=hx.cols
 simp [Tb.a,Tb.c]
 (repeat' first|contradiction|exact .ok|apply And.intro|intro _|(apply gc<;>simp+contextual))
 refine aL aW (by decide) (fun i:Nat=>{ s:=cG [(1,.d (.sl (aG l))),(2,.ptr 2 0 0),(7,.d (.sl (aG l))),(8,.d (.int .i64 l.length)),(9,.d (.int .i64 i))],b:=cE [(2,2,.var (x.c.map AV.d))] }) (fun i=>i≤l.length∧VI x.cols.length (l.take i) (l.drop i)=VI x.cols.length [] l) (fun i=>l.length - i) 0 (by simp) (aE _ [(2,2,_)] ⟨by simp,by simp,by simp [aB,Blk.live,Tb.c],by simp⟩ (by simp [aB])) ?_
 rintro i ⟨hi,hf⟩
 by_cases hlt:i<l.length
 ·rw [LQ hlt] at hf
  have hw:=aH (n:=(i:Int)+1) (by omega) (by omega)
  obtain ⟨u,hu⟩:∃ u,u=l[i]:=⟨_,rfl⟩
  have hgi:∀ h,l[i]'h=u:=fun _=>hu.symm
  have hg:=dS hlt
  rw [← hu] at hf hg
  have htk:(aG l).take i=aG (l.take i):=by simp [aG,List.map_take]
  have hbad:(decide (0≤u)&&(decide (u<x.cols.length)&&!(l.take i).contains u))=false→gN x l=6:=fun h=>by
   rw [h,Bool.false_and] at hf
   unfold gN lU
   rw [← hf]; rfl
  by_cases h1:u<0
  ·have hb:=hbad (by simp; intro h; omega)
   simp [hlt,hgi,hg,h1,hb]
   (repeat' first|contradiction|exact .ok|apply And.intro|intro _|(apply gc<;>simp+contextual[h1]))
  by_cases h2:(x.cols.length:Int)≤u
  ·have hb:=hbad (by simp; intro h h'; omega)
   simp [hlt,hgi,hg,h1,h2,hb,Tb.c]
   (repeat' first|contradiction|exact .ok|apply And.intro|intro _|(apply gc<;>simp+contextual[h1,h2,Tb.c]))
  have hci:=oN (l.take i) (by simp; omega) u
  have hone:=XG (l.take i)
  have h3:0≤u:=by omega
  have h4:u<x.cols.length:=by omega
  cases hc:(l.take i).contains u with
  | true =>
    have hb:=hbad (by rw [hc]; simp)
    rw [hc] at hci
    simp [hlt,hgi,hg,h1,h2,hb,Tb.c,htk]
    (repeat' first|contradiction|exact .ok|apply And.intro|intro _|(apply gc<;>simp+contextual[h1,h2,Tb.c,htk]))
    rw [if_pos ⟨hi,hone⟩]
    simp
    (repeat' first|contradiction|exact .ok|apply And.intro|intro _|(apply gc<;>simp+contextual))
    refine aA hci (by simp) ?_
    simp [hb]
    all_goals exact gz
  | false =>
    rw [hc] at hci
    simp [hlt,hgi,hg,h1,h2,Tb.c,htk]
    (repeat' first|contradiction|exact .ok|apply And.intro|intro _|(apply gc<;>simp+contextual[h1,h2,Tb.c,htk]))
    rw [if_pos ⟨hi,hone⟩]
    simp
    (repeat' first|contradiction|exact .ok|apply And.intro|intro _|(apply gc<;>simp+contextual))
    refine aA hci (by simp) ?_
    simp
    (repeat' first|contradiction|exact .ok|apply And.intro|intro _|(apply gc<;>simp+contextual))
    refine ⟨i+1,⟨by omega,?_⟩,?_,by simp; omega⟩
    ·rw [← hf,hc]; simp [h3,h4]
    ·exact aE _ [(2,2,_)] ⟨by simp,by simp,by simp [aB,Blk.live,Tb.c],by simp⟩ (by simp [aB,hw])
 obtain rfl:i=l.length:=by omega
 rw [List.drop_length,VI] at hf
 cases l with
 | nil =>
   simp [gN,lU]
   all_goals exact gz
 | cons a l =>
   have hk:gN x (a::l)=0:=by unfold gN lU; rw [← hf]; rfl
   have hne:¬ ((l.length:Int)+1=0):=by omega
   simp [hk,hne]
   (repeat' first|contradiction|exact .ok|apply And.intro|intro _|(apply gc<;>simp+contextual[hne]))
theorem aEm (x:Tb) (c:Int) (h:0≤c∧c<x.cols.length):Cf En 212 [.d (.int .i64 c),.ptr 1000000 0 0] [.var (x.c.map AV.d)] (.d (.bool (nS x c))) [.var (x.c.map AV.d)]:=by
 refine aD aW (fn:=Tryz.f212) (by kernel_rfl) rfl (by kernel_rfl) (by decide) (by simp) ?_
 obtain ⟨k,rfl⟩:∃ k:Nat,c=k:=⟨c.toNat,by omega⟩
 have hk:k<x.cols.length:=by omega
 obtain ⟨u,hu⟩:∃ u,u=x.cols[k]:=⟨_,rfl⟩
 have hgi:∀ h,x.cols[k]'h=u:=fun _=>hu.symm
 have hn:nS x k=u.b:=by unfold nS; rw [Int.toNat_natCast,List.getElem?_eq_getElem hk,hgi]; rfl
 rw [hn]
 simp [Tb.c,hk,hgi,Col.c]
 all_goals exact gz
theorem aEn (x:Tb) (l:List Int) (hl:l.length≤1000) (hr:∀ c∈l,0≤c∧c<x.cols.length):Cf En 285 [.d (.sl (aG l)),.clo 212 [.ptr 1000000 0 0]] [.var (x.c.map AV.d)] (.d (.int .i64 (aY (nS x) l 0))) [.var (x.c.map AV.d)]:=by
 refine aD aW (fn:=Tryz.f285) (by kernel_rfl) rfl (by kernel_rfl) (by decide) (by simp) ?_
 simp
 (repeat' first|contradiction|exact .ok|apply And.intro|intro _|(apply gc<;>simp+contextual))
 refine aL aW (by decide) (fun i:Nat=>{ s:=cG [(0,.d (.sl (aG l))),(1,.clo 212 [.ptr 1000000 0 0]),(7,.d (.int .i64 l.length)),(8,.d (.int .i64 i))],b:=cE [(1000000,1000000,.var (x.c.map AV.d))] }) (fun i=>i≤l.length∧aY (nS x) (l.drop i) i=aY (nS x) l 0) (fun i=>l.length - i) 0 (by simp) (aE _ [(1000000,1000000,_)] ⟨by simp,by simp,by simp [aB,Blk.live,Tb.c],bT⟩ (by simp [aB])) ?_
 rintro i ⟨hi,hf⟩
 by_cases hlt:i<l.length
 ·rw [dX hlt] at hf
  obtain ⟨u,hu⟩:∃ u,u=l[i]:=⟨_,rfl⟩
  have hg:=dS hlt
  have hgi:∀ h,l[i]'h=u:=fun _=>hu.symm
  have hru:=hr u (by rw [hu]; exact List.getElem_mem hlt)
  rw [← hu] at hf hg
  have hw:=aH (n:=(i:Int)+1) (by omega) (by omega)
  simp [hlt,hgi,hg]
  (repeat' first|contradiction|exact .ok|apply And.intro|intro _|(apply gc<;>simp+contextual))
  refine aK [1000000] (aEm x u hru) (by simp) (by simp) (by simp) (by simp [Tb.c]) (by simp) ?_
  cases he:nS x u
  ·rw [he] at hf
   simp [he]
   (repeat' first|contradiction|exact .ok|apply And.intro|intro _|(apply gc<;>simp+contextual[he]))
   refine ⟨i+1,⟨by omega,by simpa using hf⟩,?_,by simp; omega⟩
   exact aE _ [(1000000,1000000,_)] ⟨by simp,by simp,by simp [aB,Blk.live,Tb.c],bT⟩ (by simp [aB,hw])
  ·rw [he] at hf
   simp only [if_true] at hf
   simp [he,← hf,Tb.c]
   (repeat' first|contradiction|exact .ok|apply And.intro|intro _|(apply gc<;>simp+contextual[he]))
 obtain rfl:i=l.length:=by omega
 rw [List.drop_length,aY] at hf
 simp [← hf,Tb.c]
 all_goals exact gz
theorem aEo (x:Tb) (l:List Int) (hl:l.length≤1000) (hr:∀ c∈l,0≤c∧c<x.cols.length):Cf En 211 [.d (.sl (aG l)),.clo 212 [.ptr 1000000 0 0]] [.var (x.c.map AV.d)] (.d (.bool (l.any (nS x)))) [.var (x.c.map AV.d)]:=by
 refine aD aW (fn:=Tryz.f211) (by kernel_rfl) rfl (by kernel_rfl) (by decide) (by simp) ?_
 have h:=lF (p:=nS x) (l:=l) (i:=0)
 simp
 (repeat' first|contradiction|exact .ok|apply And.intro|intro _|(apply gc<;>simp+contextual))
 refine aK [1000000] (aEn x l hl hr) (by simp) (by simp) (by simp) (by simp [Tb.c]) (by simp) ?_
 simp [h,Tb.c]
 all_goals exact gz
theorem aAo (l:List (List Int)) (hl:l.length≤1000):Cf En 213 [.d (.sl (l.map nU))] [] (.ref 1000000 0 l.length 1) [.arr 22 1 (l.map nU) false]:=by
 refine cZ aW (fn:=Tryz.f213) (by kernel_rfl) rfl (by kernel_rfl) (by decide) (by simp) ?_
 cases l with
 | nil =>
   simp
   (repeat' first|contradiction|exact .ok|apply And.intro|intro _|(apply gc<;>simp+contextual))
   ·refine EndsS.mk _ (tE (i:=2) (m:=9) (ety:=22) (sz:=1) (by simp) ?_ (by decide) (by decide)) ?_
    ·simp
    ·exact ⟨_,[(1000000,9,.arr 22 1 [] false)],by simp; rfl,⟨by simp,by simp,by simp [aB,Blk.live],by simp⟩,by simp [List.zipIdx,aP],by simp [aB]⟩
   ·refine EndsS.mk _ (.refl _ _ _ _) ?_
    exact ⟨_,[(1000000,7,.arr 22 1 [] false)],by simp; rfl,⟨by simp,by simp,by simp [aB,Blk.live],by simp⟩,by simp [List.zipIdx,aP],by simp [aB]⟩
 | cons a l =>
   have hs:=eI (l.length+1) (by simp at hl; omega) 24 (by decide)
   have hs2:=eI l.length (by simp at hl; omega) 24 (by decide)
   simp [hs,hs2,nU]
   (repeat' first|contradiction|exact .ok|apply And.intro|intro _|(apply gc<;>simp+contextual))
   refine EndsS.mk _ (.refl _ _ _ _) ?_
   exact ⟨_,[(1000000,7,.arr 22 1 ((a::l).map nU) false)],by simp; rfl,⟨by simp,by simp,by simp [aB,Blk.live,nU],by simp⟩,by simp [List.zipIdx,aP]; rfl,by simp [aB]⟩
theorem VA {x:Tb} {l:List (List Int)} {i:Nat} (h:i<l.length):bC (fun _=>gN x) (l.drop i) i=if gN x l[i] ≠ 0 then gN x l[i] else bC (fun _=>gN x) (l.drop (i+1)) (i+1):=eG h
def qM (x:Tb) (j:Nat):List (List Int):=x.un++(x.fk.take j).map Fk.cols
theorem VB {x:Tb} {j:Nat} (h:j≤x.fk.length):(qM x j).length=x.un.length+j:=by
 unfold qM; simp; omega
theorem PQ (x:Tb):qM x 0=x.un:=by simp [qM]
theorem PR (x:Tb):qM x x.fk.length=x.un++x.fk.map Fk.cols:=by simp [qM]
theorem PS {x:Tb} {j:Nat} (h:j<x.fk.length):qM x (j+1)=qM x j++[x.fk[j].cols]:=by unfold qM; rw [bV h,List.map_append,List.append_assoc]; rfl
theorem aEp (x:Tb) (hx:x.ok) (hu:∀ l∈x.un,l.length≤1000):Cf En 140 [x.a] [] (.d (.int .i64 (fS x))) []:=by
 refine aD aW (fn:=Tryz.f140) (by kernel_rfl) rfl (by kernel_rfl) (by decide) (by simp) ?_
 have hpl:=hx.pr
 have hfl:=hx.fk
 have hul:=hx.un
 simp [Tb.a,Tb.c]
 (repeat' first|contradiction|exact .ok|apply And.intro|intro _|(apply gc<;>simp+contextual))
 refine aA (aDf x hx x.pr hpl) (by simp [Tb.a,Tb.c]) ?_
 by_cases hk:gN x x.pr=0
 rotate_left
 ·have hr:fS x=gN x x.pr:=by unfold fS; rw [fB hk]
  rw [hr]
  simp [hk]
  (repeat' first|contradiction|exact .ok|apply And.intro|intro _|(apply gc<;>simp+contextual[hk]))
 have hin:∀ k∈x.pr,0≤k∧k<x.cols.length:=by
  unfold gN at hk
  split at hk
  ·rename_i hb; exact wG hb
  ·cases hk
 simp [hk]
 (repeat' first|contradiction|exact .ok|apply And.intro|intro _|(apply gc<;>simp+contextual))
 refine aK [1] (aEo x x.pr hpl hin) (by simp) (by simp) (by simp) (by simp [Tb.c]) (by simp) ?_
 cases hn:x.pr.any (nS x) with
 | true =>
   have hr:fS x=4:=by unfold fS; rw [hk,eP,hn]; rfl
   rw [hr]
   simp [Tb.c]
   all_goals exact gz
 | false =>
   have hr:fS x=bC (fun _=>gN x) (x.un++x.fk.map Fk.cols) 0:=by unfold fS; rw [hk,eP,hn]; exact eP
   rw [hr]
   clear hr hn hk hin
   simp [Tb.c]
   (repeat' first|contradiction|exact .ok|apply And.intro|intro _|(apply gc<;>simp+contextual))
   refine zB [] (aAo x.un hul) rfl (by simp) (by simp) (by decide) (by simp) (by simp) (by simp) ?_
   simp
   (repeat' first|contradiction|exact .ok|apply And.intro|intro _|(apply gc<;>simp+contextual))
   refine aL aW (by decide) (fun j:Nat=>{ s:=cG [(1,.ptr 1 0 0),(4,.ref 900 0 (x.un.length+j) 1),(25,.d (.sl (x.fk.map Fk.c))),(26,.d (.int .i64 x.fk.length)),(27,.d (.int .i64 j))],b:=cE [(1,1,.var (x.c.map AV.d)),(900,900,.arr 22 1 ((qM x j).map nU) false)] }) (fun j=>j≤x.fk.length) (fun j=>x.fk.length - j) 0 (by simp)
    (aE _ [(1,1,_),(900,24000,_)] ⟨by simp,by simp,by simp [aB,Blk.live,Tb.c,PQ],by simp⟩ (by simp [aB])) ?_
   intro j hj
   have hLl:=VB hj
   by_cases hjl:j<x.fk.length
   ·obtain ⟨f,hf⟩:∃ f,f=x.fk[j]:=⟨_,rfl⟩
    have hgf:∀ h,x.fk[j]'h=f:=fun _=>hf.symm
    have hwj:=aH (n:=(j:Int)+1) (by omega) (by omega)
    have hnx:=PS hjl
    rw [← hf] at hnx
    generalize hL:qM x j=L at *
    have htk:(L.map nU).take (x.un.length+j)=L.map nU:=List.take_of_length_le (by simp [hLl])
    simp [hjl,hgf,Fk.c,hLl,htk,eI (x.un.length+j) (by omega) 24 (by decide),eI (x.un.length+j+1) (by omega) 24 (by decide)]
    (repeat' first|contradiction|exact .ok|apply And.intro|intro _|(apply gc<;>simp+contextual))
    refine ⟨j+1,by omega,?_,by simp; omega⟩
    exact aE _ [(1,1,_),(900,35,_)] ⟨by simp,by simp,by simp [aB,Blk.live,Tb.c,hnx,nU],by simp⟩ (by simp [aB,hwj]; try omega)
   obtain rfl:j=x.fk.length:=by omega
   rw [PR] at *
   generalize hL:x.un++x.fk.map Fk.cols=L at *
   have hLm:∀ l∈L,l.length≤1000:=by
    intro l hl
    rw [← hL] at hl
    rcases List.mem_append.1 hl with h | h
    ·exact hu l h
    ·obtain ⟨f,hf,rfl⟩:=List.mem_map.1 h
     exact hx.fkc f hf
   simp
   (repeat' first|contradiction|exact .ok|apply And.intro|intro _|(apply gc<;>simp+contextual))
   refine aL aW (by decide) (fun j:Nat=>{ s:=cG [(1,.ptr 1 0 0),(37,.ref 900 0 L.length 1),(38,.d (.int .i64 L.length)),(39,.d (.int .i64 j))],b:=cE [(1,1,.var (x.c.map AV.d)),(900,900,.arr 22 1 (L.map nU) false)] }) (fun j=>j≤L.length∧bC (fun _=>gN x) (L.drop j) j=bC (fun _=>gN x) L 0) (fun j=>L.length - j) 0 (by simp)
    (aE _ [(1,1,_),(900,900,_)] ⟨by simp,by simp,by simp [aB,Blk.live,Tb.c],by simp⟩ (by simp [aB,hLl])) ?_
   rintro j ⟨hj,hs⟩
   by_cases hjl:j<L.length
   ·rw [VA hjl] at hs
    obtain ⟨l,hl⟩:∃ l,l=L[j]:=⟨_,rfl⟩
    have hgf:∀ h,L[j]'h=l:=fun _=>hl.symm
    rw [← hl] at hs
    have hwj:=aH (n:=(j:Int)+1) (by omega) (by omega)
    simp [hjl,hgf,nU,Tb.c]
    (repeat' first|contradiction|exact .ok|apply And.intro|intro _|(apply gc<;>simp+contextual))
    refine aA (aDf x hx l (hLm l (by rw [hl]; exact List.getElem_mem hjl))) (by simp [Tb.a,Tb.c]) ?_
    by_cases hk:gN x l=0
    ·rw [if_neg (by simpa using hk)] at hs
     simp [hk]
     (repeat' first|contradiction|exact .ok|apply And.intro|intro _|(apply gc<;>simp+contextual))
     refine ⟨j+1,⟨by omega,hs⟩,?_,by simp; omega⟩
     exact aE _ [(1,1,_),(900,900,_)] ⟨by simp,by simp,by simp [aB,Blk.live,Tb.c],by simp⟩ (by simp [aB,hwj])
    ·rw [if_pos hk] at hs
     rw [← hs]
     simp [hk]
     (repeat' first|contradiction|exact .ok|apply And.intro|intro _|(apply gc<;>simp+contextual[hk]))
   obtain rfl:j=L.length:=by omega
   rw [fA (Nat.le_refl _)] at hs
   rw [← hs]
   simp
   all_goals exact gz
end Go.Proofs.Tryz
