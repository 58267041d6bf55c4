import Derived.Test.YtkkbepgccddjoaaGreatDoorCShr
import Derived.Test.YtkkbepgccddjoaaGreatDoorCSty
set_option linter.all false
namespace Go.Proofs.Tryz
open Go.Ab
set_option maxRecDepth 100000
set_option maxHeartbeats 4000000
def eA (l:List Int):Int:=l.headD 0
def VQ (x:Tb) (f:Fk):Bool:=f.cols.length==1&&(dO x (eA f.cols)==1&&(!oV x (eA f.cols)&&!(eA f.cols==eA x.pr)))
def lL (x:Tb):List Int→List Fk→Bool
 | _,[]=>true
 | seen,f::r=>(VQ x f&&!seen.contains (eA f.cols))&&lL x (seen++[eA f.cols]) r
def prB (x:Tb):Bool:=x.pr.length==1&&(dO x (eA x.pr)==1&&x.un.isEmpty)
def gJ (x:Tb):Bool:=prB x&&(lL x [] x.fk&&!(x.ch.any fun e=>e.cols.any (cU x)))
def mN (x:Tb) (j:Nat):List Int:=(x.fk.take j).map fun f=>eA f.cols
theorem aBT {x:Tb} {j:Nat} (h:j≤x.fk.length):(mN x j).length=j:=by unfold mN; simp; omega
theorem xR {x:Tb} {j:Nat} (h:j<x.fk.length):mN x (j+1)=mN x j++[eA x.fk[j].cols]:=by unfold mN; rw [bI h,List.map_append]; rfl
theorem GY {x:Tb} {j:Nat} (h:j<x.fk.length):lL x (mN x j) (x.fk.drop j)=((VQ x x.fk[j]&&!(mN x j).contains (eA x.fk[j].cols))&&lL x (mN x (j+1)) (x.fk.drop (j+1))):=by
 rw [List.drop_eq_getElem_cons h,lL,xR h]
theorem VR {x:Tb} {k:Nat} {u:Col} (hk:k<x.cols.length) (hu:x.cols[k]=u):oV x k=u.b:=by
 unfold oV; rw [Int.toNat_natCast,gE hk,hu]; rfl
theorem jM {α:Type} {l:List α} (h:l.length=1):∃ a,l=[a]:=by
 match l,h with
 | [a],_=>exact ⟨a,rfl⟩
def plF (x:Tb) (y:Nat×Bool):St :=
 { s:=cE [(1,.ptr 1 0 0),(3,.ref 900 0 y.1 1),(29,.d (.sl (x.fk.map Fk.c))),(30,.d (.int .i64 x.fk.length)),(31,.d (.int .i64 y.1))],b:=cC [(1,1,.var (x.c.map AV.d)),(900,900,.arr 3 1 (aD (mN x y.1)) y.2)] }
theorem aEp (x:Tb) (hx:x.ok) (hk:gD x=0) (hE:∀ e∈x.ch,DJ e):Cf En 107 [x.a] [] (.d (.bool (gJ x))) []:=by
 refine cI aW (fn:=Tryz.f107) rfl ?_
 obtain ⟨hkp,hkf⟩:=oW hk
 have hfl:=hx.fk
 by_cases c1:x.pr.length=1
 rotate_left
 ·have hP:gJ x=false:=by unfold gJ prB; simp [c1]
  have i1:¬ (x.pr.length:Int)=1:=by omega
  rw [hP]
  simp [Tb.a,Tb.c,i1]
  (repeat' first|contradiction|exact .ok|apply And.intro|intro _|(apply gc<;>simp+contextual[c1,i1]))
 obtain ⟨p,hp⟩:=jM c1
 obtain ⟨hp0,hp1⟩:=hkp p (by rw [hp]; simp)
 obtain ⟨a,rfl⟩:∃ a:Nat,p=a:=⟨p.toNat,by omega⟩
 have hal:a<x.cols.length:=by omega
 obtain ⟨u,hu⟩:∃ u,u=x.cols[a]:=⟨_,rfl⟩
 have hgu:∀ h,x.cols[a]'h=u:=fun _=>hu.symm
 have hhp:eA x.pr=a:=by rw [hp]; rfl
 have hty:=nP hal hu.symm
 have hip:aD x.pr=[[.int .i64 a]]:=by rw [hp]; rfl
 by_cases c2:u.t=1
 rotate_left
 ·have hP:gJ x=false:=by unfold gJ prB; rw [hhp,hty]; simp [c2]
  rw [hP]
  simp [Tb.a,Tb.c,hip,hal,hgu,Col.c,c2]
  (repeat' first|contradiction|exact .ok|apply And.intro|intro _|(apply gc<;>simp+contextual[c1,hip,hal,hgu,Col.c,c2]))
  all_goals (try simp [c1,hip,hal,hgu,Col.c,c2])
  all_goals (repeat' (first | contradiction | exact .of (by kernel_rfl) | refine And.intro ?_ ?_ | intro _ | (refine aK (fun h=>?_) (fun h=>?_) <;> (have h':=h; (try simp at h'); first | done | simp [h,h',c2] | simp [c2]))))
 by_cases c3:x.un=[]
 rotate_left
 ·have hP:gJ x=false:=by unfold gJ prB; simp [c3]
  have hpos:(0:Int)<x.un.length:=by have:=List.length_pos_iff.2 c3; omega
  have hpos2:0<x.un.length:=by omega
  rw [hP]
  simp [Tb.a,Tb.c,hip,hal,hgu,Col.c,c2,hpos2]
  (repeat' first|contradiction|exact .ok|apply And.intro|intro _|(apply gc<;>simp+contextual[c1,hip,hal,hgu,Col.c,c2,hpos,hpos2,c3]))
  all_goals (try simp [c1,hip,hal,hgu,Col.c,c2,hpos,hpos2,c3])
  all_goals (repeat' (first | contradiction | exact .of (by kernel_rfl) | refine And.intro ?_ ?_ | intro _ | (refine aK (fun h=>?_) (fun h=>?_) <;> (have h':=h; (try simp at h'); first | done | simp [h,h',c2] | simp [c2]))))
 have hPr:prB x=true:=by unfold prB; rw [c1,hhp,hty,c2,c3]; rfl
 have hR:gJ x=(lL x [] x.fk&&!(x.ch.any fun e=>e.cols.any (cU x))):=by unfold gJ; rw [hPr,Bool.true_and]
 rw [hR]
 have hck:=aGw x hx x.ch hx.ch hE
 generalize (x.ch.any fun e=>e.cols.any (cU x))=C at *
 clear hR
 generalize hFB:lL x [] x.fk=B at *
 simp [Tb.a,Tb.c,hip,hal,hgu,Col.c,c2,c3]
 (repeat' first|contradiction|exact .ok|apply And.intro|intro _|(apply gc<;>simp+contextual[c1,hip,hal,hgu,Col.c,c2,c3]))
 refine aL aW (plF x) (fun y=>y.1≤x.fk.length∧lL x (mN x y.1) (x.fk.drop y.1)=B) (fun y=>x.fk.length - y.1) (0,false) ⟨by simp,hFB⟩
  (fD 3 900 3 1 (by simp) (by simp) (by decide) (by decide) _ [(1,1,_),(900,900,_)] ⟨by simp,by simp,by simp [aB,Blk.live,Tb.c,mN,hip,c3,show aD []=[] from rfl],by simp⟩ (by simp [aB])) ?_
 rintro ⟨j,fz⟩ ⟨hj,hB⟩
 simp only at hj hB
 have hSl:=aBT hj
 unfold plF
 simp only
 by_cases hjl:j<x.fk.length
 ·rw [GY hjl] at hB
  have hw:=wI (n:=(j:Int)+1)
  have hnx:=xR hjl
  obtain ⟨f,hf⟩:∃ f,f=x.fk[j]:=⟨_,rfl⟩
  have hgf:∀ h,x.fk[j]'h=f:=fun _=>hf.symm
  have hfm:f∈x.fk:=by rw [hf]; exact List.getElem_mem hjl
  rw [← hf] at hB hnx
  have hbad:(VQ x f&&!(mN x j).contains (eA f.cols))=false→B=false:=fun h=>by rw [← hB,h,Bool.false_and]
  have hgood:(VQ x f&&!(mN x j).contains (eA f.cols))=true→lL x (mN x (j+1)) (x.fk.drop (j+1))=B:=fun h=>by rw [← hB,h,Bool.true_and]
  clear hB
  have hci:=jZ (mN x j) (by omega) (eA f.cols)
  generalize hS:mN x j=S at *
  have htk:(aD S).take j=aD S:=List.take_of_length_le (by simp [hSl])
  by_cases d1:f.cols.length=1
  rotate_left
  ·have i1:¬ (f.cols.length:Int)=1:=by omega
   rw [hbad (by unfold VQ; simp [d1])]
   simp [hjl,hgf,Fk.c,i1]
   (repeat' first|contradiction|exact .ok|apply And.intro|intro _|(apply gc<;>simp+contextual[d1,i1]))
  obtain ⟨q,hq⟩:=jM d1
  obtain ⟨hq0,hq1⟩:=hkf f hfm q (by rw [hq]; simp)
  obtain ⟨b,rfl⟩:∃ a:Nat,q=a:=⟨q.toNat,by omega⟩
  have hbl:b<x.cols.length:=by omega
  obtain ⟨v,hv⟩:∃ u,u=x.cols[b]:=⟨_,rfl⟩
  have hgv:∀ h,x.cols[b]'h=v:=fun _=>hv.symm
  have hhf:eA f.cols=b:=by rw [hq]; rfl
  have htv:=nP hbl hv.symm
  have hnv:=VR hbl hv.symm
  have hiq:aD f.cols=[[.int .i64 b]]:=by rw [hq]; rfl
  have hfk:VQ x f=(v.t==1&&(!v.b&&!((b:Int)==a))):=by unfold VQ; rw [d1,hhf,htv,hnv,hhp]; rfl
  rw [hhf] at hci hbad hgood hnx
  rw [hfk] at hbad hgood
  by_cases d2:v.t=1
  rotate_left
  ·rw [hbad (by simp [d2])]
   simp [hjl,hgf,Fk.c,hiq,hbl,hgv,Tb.c,Col.c,d2]
   (repeat' first|contradiction|exact .ok|apply And.intro|intro _|(apply gc<;>simp+contextual[d1,hiq,hbl,hgv,Tb.c,Col.c,d2]))
   all_goals (try simp [hiq,hbl,hgv,Tb.c,Col.c,d2])
   all_goals (repeat' (first | contradiction | exact .of (by kernel_rfl) | refine And.intro ?_ ?_ | intro _ | (refine aK (fun h=>?_) (fun h=>?_) <;> (have h':=h; (try simp at h'); first | done | simp [h,h',d2] | simp [d2]))))
  by_cases d3:v.b=true
  ·rw [hbad (by simp [d3])]
   simp [hjl,hgf,Fk.c,hiq,hbl,hgv,Tb.c,Col.c,d2,d3]
   (repeat' first|contradiction|exact .ok|apply And.intro|intro _|(apply gc<;>simp+contextual[d1,hiq,hbl,hgv,Tb.c,Col.c,d2,d3]))
   all_goals (try simp [hiq,hbl,hgv,Tb.c,Col.c,d2,d3])
   all_goals (repeat' (first | contradiction | exact .of (by kernel_rfl) | refine And.intro ?_ ?_ | intro _ | (refine aK (fun h=>?_) (fun h=>?_) <;> (have h':=h; (try simp at h'); first | done | simp [h,h',d2,d3] | simp [d2,d3]))))
  have d3':v.b=false:=by simpa using d3
  by_cases d4:b=a
  ·subst d4
   rw [hbad (by simp)]
   simp [hjl,hgf,Fk.c,hiq,hip,hbl,hgv,Tb.c,Col.c,d2,d3']
   (repeat' first|contradiction|exact .ok|apply And.intro|intro _|(apply gc<;>simp+contextual[d1,hiq,hip,hbl,hgv,Tb.c,Col.c,d2,d3']))
   all_goals (try simp [hiq,hip,hbl,hgv,Tb.c,Col.c,d2,d3'])
   all_goals (repeat' (first | contradiction | exact .of (by kernel_rfl) | refine And.intro ?_ ?_ | intro _ | (refine aK (fun h=>?_) (fun h=>?_) <;> (have h':=h; (try simp at h'); first | done | simp [h,h',d2,d3'] | simp [d2,d3']))))
  have i4:¬ (b:Int)=a:=by omega
  cases hcc:S.contains (b:Int) with
  | true =>
    rw [hcc] at hci
    rw [hbad (by rw [hcc]; simp)]
    simp [hjl,hgf,Fk.c,hiq,hip,hbl,hgv,Tb.c,Col.c,d2,d3',i4]
    (repeat' first|contradiction|exact .ok|apply And.intro|intro _|(apply gc<;>simp+contextual[d1,hiq,hip,hbl,hgv,Tb.c,Col.c,d2,d3',d4,i4]))
    refine aA hci (by simp [htk,hSl]) ?_
    simp
    all_goals exact gz
  | false =>
    rw [hcc] at hci
    have hB:=hgood (by rw [hcc]; simp [d2,d3',i4])
    simp [hjl,hgf,Fk.c,hiq,hip,hbl,hgv,Tb.c,Col.c,d2,d3',i4]
    (repeat' first|contradiction|exact .ok|apply And.intro|intro _|(apply gc<;>simp+contextual[d1,hiq,hip,hbl,hgv,Tb.c,Col.c,d2,d3',d4,i4]))
    refine aA hci (by simp [htk,hSl]) ?_
    simp [hSl,htk,gF (j+1) (by omega) 8 (by decide)]
    (repeat' first|contradiction|exact .ok|apply And.intro|intro _|(apply gc<;>simp+contextual))
    refine ⟨(j+1,true),⟨by simp only; omega,hB⟩,?_,by simp; omega⟩
    refine sM _ [(1,1,_),(900,87,_)] (by simp [aB,Blk.live,hip,c3,hnx,yD]) (by simp [aB,hw])
 obtain rfl:j=x.fk.length:=by omega
 rw [List.drop_length,lL] at hB
 rw [← hB,Bool.true_and]
 simp [Tb.c]
 (repeat' first|contradiction|exact .ok|apply And.intro|intro _|(apply gc<;>simp+contextual))
 refine aH [1] hck (by simp [Tb.c]) (by simp) ?_
 simp
 all_goals exact gz
def OH (e:Int) (S:List Tb):Bool:=e==0&&S.all gJ
theorem aBU (x:Tb) (hx:x.ok) (hk:gD x=0) (hE:∀ e∈x.ch,DJ e):Cf En 106 [x.a] [] (.d (.bool (!gJ x))) []:=by
 refine cI aW (fn:=Tryz.f106) rfl ?_
 simp [Tb.a,Tb.c]
 (repeat' first|contradiction|exact .ok|apply And.intro|intro _|(apply gc<;>simp+contextual))
 refine aA (aEp x hx hk hE) (by simp [Tb.a,Tb.c]) ?_
 simp
 all_goals exact gz
theorem aBV (S:List Tb) (hl:S.length≤1000) (hS:∀ x∈S,x.ok) (hK:∀ x∈S,gD x=0) (hE:∀ x∈S,∀ e∈x.ch,DJ e):Cf En 128 [.d (.sl (S.map Tb.c)),.clo 106 []] [] (.d (.int .i64 (aV (fun x=>!gJ x) S 0))) []:=by
 refine cI aW (fn:=Tryz.f128) rfl ?_
 simp
 (repeat' first|contradiction|exact .ok|apply And.intro|intro _|(apply gc<;>simp+contextual))
 refine aL aW (fun i:Nat=>{ s:=cE [(0,.d (.sl (S.map Tb.c))),(1,.clo 106 []),(7,.d (.int .i64 S.length)),(8,.d (.int .i64 i))],b:=cC [] }) (fun i=>i≤S.length∧aV (fun x=>!gJ x) (S.drop i) i=aV (fun x=>!gJ x) S 0) (fun i=>S.length - i) 0 (by simp) (aI _ [] .nil (by simp)) ?_
 rintro i ⟨hi,hf⟩
 by_cases hlt:i<S.length
 ·rw [dM hlt] at hf
  obtain ⟨u,hu⟩:∃ u,u=S[i]:=⟨_,rfl⟩
  have hgi:∀ h,S[i]'h=u:=fun _=>hu.symm
  have hum:u∈S:=by rw [hu]; exact List.getElem_mem hlt
  rw [← hu] at hf
  have hw:=wI (n:=(i:Int)+1)
  simp [hlt,hgi,Tb.c]
  (repeat' first|contradiction|exact .ok|apply And.intro|intro _|(apply gc<;>simp+contextual))
  refine aA (aBU u (hS u hum) (hK u hum) (hE u hum)) (by simp [Tb.a,Tb.c]) ?_
  cases he:gJ u
  ·rw [he] at hf
   simp only [Bool.not_false,if_true] at hf
   simp [← hf]
   (repeat' first|contradiction|exact .ok|apply And.intro|intro _|(apply gc<;>simp+contextual[he]))
  ·rw [he] at hf
   simp
   (repeat' first|contradiction|exact .ok|apply And.intro|intro _|(apply gc<;>simp+contextual[he]))
   refine ⟨i+1,⟨by omega,by simpa using hf⟩,?_,by simp; omega⟩
   exact aI _ [] .nil (by simp [hw])
 obtain rfl:i=S.length:=by omega
 rw [List.drop_length,aV] at hf
 simp [← hf]
 all_goals exact gz
theorem aBW (S:List Tb) (hl:S.length≤1000) (hS:∀ x∈S,x.ok) (hK:∀ x∈S,gD x=0) (hE:∀ x∈S,∀ e∈x.ch,DJ e):Cf En 105 [.d (.sl (S.map Tb.c)),.clo 106 []] [] (.d (.bool (!S.all gJ))) []:=by
 refine cI aW (fn:=Tryz.f105) rfl ?_
 have h:=kV (p:=fun x=>!gJ x) (l:=S) (i:=0)
 rw [show (!S.all gJ)=S.any fun x=>!gJ x from by rw [List.not_all_eq_any_not]]
 have hc:=aBV S hl hS hK hE
 generalize (S.any fun x=>!gJ x)=A at *
 generalize aV (fun x=>!gJ x) S 0=F at *
 simp
 (repeat' first|contradiction|exact .ok|apply And.intro|intro _|(apply gc<;>simp+contextual))
 refine aP hc ?_
 simp [h]
 all_goals exact gz
theorem GZ {nm:List UInt8→Bool} {ty:Tb→Ex→Int×Int} {S:List Tb} (h:dY nm ty S=0):∀ x∈S,gD x=0:=by
 unfold dY at h
 split at h
 ·cases h
 exact KU (kK h).1
theorem aEq (S:List Tb) (hl:S.length≤1000) (hS:∀ x∈S,x.ok) (hE:∀ x∈S,∀ e∈x.ch,DJ e) (ty:Tb→Ex→Int×Int)
  (hv:Cf Es 104 [aN S] [] (.d (.int .i64 (dY fN ty S))) []) :
  Cf Es 59 [aN S] [] (.d (.bool (OH (dY fN ty S) S))) []:=by
 refine cI bM (fn:=Tryz.f59) rfl ?_
 have hk:dY fN ty S=0→∀ x∈S,gD x=0:=GZ
 unfold OH
 generalize dY fN ty S=e at *
 simp [aN]
 (repeat' first|contradiction|exact .ok|apply And.intro|intro _|(apply gc<;>simp+contextual))
 refine aA hv (by simp [aN]) ?_
 by_cases he:e=0
 ·subst he
  have hc:=eG (aBW S hl hS (hk rfl) hE)
  generalize S.all gJ=A at *
  simp
  (repeat' first|contradiction|exact .ok|apply And.intro|intro _|(apply gc<;>simp+contextual))
  refine aP hc ?_
  simp
  all_goals exact gz
 ·simp [he]
  (repeat' first|contradiction|exact .ok|apply And.intro|intro _|(apply gc<;>simp+contextual[he]))
end Go.Proofs.Tryz
