import Derived.Test.YtklnfckiabhceaaGreatDoorKRgc
set_option linter.all false
namespace Go.Proofs.Tryz
open Go.Ab
set_option maxRecDepth 100000
set_option maxHeartbeats 8000000
def Dec (S:List Tb):Prop:=∀ k,k<S.length→∀ g∈(tabO S k).fk,0≤tgt S g∧tgN S g<k
theorem of_no {S:List Tb} {I:List (List (List V))} {R:List (List Rg)} {A:List (List At)} {m k n:Nat} (h:¬ (k<S.length∧k<I.length∧k<R.length∧k<A.length∧n<((I[k]?).getD []).length)):ofG S I R A (m+1) k n=none:=by
 rw [ofG,if_neg h]
theorem of_yes {S:List Tb} {I:List (List (List V))} {R:List (List Rg)} {A:List (List At)} {m k n:Nat} {x:Tb} {rows:List (List V)} {row:List V} {rgs:List Rg} {ats:List At}
  (hS:tabO S k=x) (hI:I[k]?=some rows) (hR:R[k]?=some rgs) (hA:A[k]?=some ats) (hr:rows[n]?=some row) (hk:k<S.length) :
  ofG S I R A (m+1) k n=match parG S I (ofG S I R A m) row [] x.fk with
   | none=>none
   | some P=>if 0≤fidx (rgH (trG row ats) P) rgs 0 then some (fidx (rgH (trG row ats) P) rgs 0).toNat else none:=by
 have h1:=(List.getElem?_eq_some_iff.1 hI).1
 have h2:=(List.getElem?_eq_some_iff.1 hR).1
 have h3:=(List.getElem?_eq_some_iff.1 hA).1
 have h4:=(List.getElem?_eq_some_iff.1 hr).1
 rw [ofG,if_pos ⟨hk,h1,h2,h3,by rw [hI]; exact h4⟩,hS,hI,hR,hA]
 simp only [Option.getD_some]
 rw [hr]
 rfl
theorem parG_drop {S:List Tb} {I:List (List (List V))} {F:Nat→Nat→Option Nat} {row:List V} {acc:List Int} {l:List Fk} {j:Nat} {g:Fk} (h:j<l.length) (hg:l[j]=g) :
  parG S I F row acc (l.drop j)=if refZ S I row g<0 then none else match F (tgN S g) (refZ S I row g).toNat with
   | none=>none
   | some q=>parG S I F row (acc++[(q:Int)]) (l.drop (j+1)):=by
 rw [List.drop_eq_getElem_cons h,hg,parG]
 rfl
theorem p_of (S:List Tb) (h:FillOk S) (hd:Dec S) (I:List (List (List V))) (R:List (List Rg)) (A:List (List At)) (ho:OfOk I R A):∀ (m k n:Nat),k<m →
  Cf Eo 37 [schA S,instA I,.d (.sl (R.map rgD)),.d (.sl (A.map atD)),.d (.int .i64 k),.d (.int .i64 n)] [] (pairO (ofG S I R A m k n)) []
 | 0,_,_,hm=>absurd hm (by omega)
 | m+1,k,n,hm=>by
   have ih:=p_of S h hd I R A ho m
   refine cf_intro mixo (fn:=Tryz.f37) (by kernel_rfl) rfl (by kernel_rfl) (by decide) (by simp) ?_
   have hl:=h.ok.len
   have il:=ho.il
   have rl:=ho.rl
   have al:=ho.al
   have n1:¬ (k:Int)<0:=by omega
   have n2:¬ (n:Int)<0:=by omega
   by_cases c1:k<S.length∧k<I.length∧k<R.length∧k<A.length
   rotate_left
   ·rw [of_no (fun e=>c1 ⟨e.1,e.2.1,e.2.2.1,e.2.2.2.1⟩)]
    have hM:(if (A.length:Int)<(if (R.length:Int)<(if I.length<S.length then (I.length:Int) else S.length) then (R.length:Int) else (if I.length<S.length then (I.length:Int) else S.length)) then (A.length:Int) else (if (R.length:Int)<(if I.length<S.length then (I.length:Int) else S.length) then (R.length:Int) else (if I.length<S.length then (I.length:Int) else S.length)))≤(k:Int):=by
     repeat' split
     all_goals omega
    simp [schA,instA,pairO,n1,hM]
    (repeat' (first|contradiction|exact .ok|apply And.intro|intro _|(refine gc (fun h=>?_) (fun h=>?_)<;>(have h':=h;(try simp at h');first|done|simp[h,h',n1,hM]|simp[n1,hM]))))
   obtain ⟨k1,k2,k3,k4⟩:=c1
   have hM:¬ (if (A.length:Int)<(if (R.length:Int)<(if I.length<S.length then (I.length:Int) else S.length) then (R.length:Int) else (if I.length<S.length then (I.length:Int) else S.length)) then (A.length:Int) else (if (R.length:Int)<(if I.length<S.length then (I.length:Int) else S.length) then (R.length:Int) else (if I.length<S.length then (I.length:Int) else S.length)))≤(k:Int):=by
    repeat' split
    all_goals omega
   obtain ⟨rows,hrows⟩:∃ r,r=I[k]:=⟨_,rfl⟩
   have hgr:∀ h,I[k]'h=rows:=fun _=>hrows.symm
   have hIk:I[k]?=some rows:=by rw [List.getElem?_eq_getElem k2,← hrows]
   obtain ⟨ir1,ir2⟩:=ho.ir rows (by rw [hrows]; exact List.getElem_mem k2)
   by_cases c2:n<rows.length
   rotate_left
   ·rw [of_no (fun e=>c2 (by have:=e.2.2.2.2; rw [hIk] at this; exact this))]
    have hni:(rows.length:Int)≤n:=by omega
    simp [schA,instA,pairO,n1,n2,hM,k2,hgr,tabD,hni]
    (repeat' (first|contradiction|exact .ok|apply And.intro|intro _|(refine gc (fun h=>?_) (fun h=>?_)<;>(have h':=h;(try simp at h');first|done|simp[h,h',n1,n2,hM,k2,hgr,tabD,hni]|simp[n1,n2,hM,k2,hgr,tabD,hni]))))
   have hni:¬ (rows.length:Int)≤n:=by omega
   obtain ⟨row,hrow⟩:∃ r,r=rows[n]:=⟨_,rfl⟩
   have hgw:∀ h,rows[n]'h=row:=fun _=>hrow.symm
   have hRn:rows[n]?=some row:=by rw [List.getElem?_eq_getElem c2,← hrow]
   have hrl:=ir2 row (by rw [hrow]; exact List.getElem_mem c2)
   obtain ⟨rgs,hrgs⟩:∃ r,r=R[k]:=⟨_,rfl⟩
   have hgg:∀ h,R[k]'h=rgs:=fun _=>hrgs.symm
   have hRk:R[k]?=some rgs:=by rw [List.getElem?_eq_getElem k3,← hrgs]
   obtain ⟨rr1,rr2⟩:=ho.rr rgs (by rw [hrgs]; exact List.getElem_mem k3)
   obtain ⟨ats,hats⟩:∃ r,r=A[k]:=⟨_,rfl⟩
   have hga:∀ h,A[k]'h=ats:=fun _=>hats.symm
   have hAk:A[k]?=some ats:=by rw [List.getElem?_eq_getElem k4,← hats]
   obtain ⟨ar1,ar2⟩:=ho.ar ats (by rw [hats]; exact List.getElem_mem k4)
   obtain ⟨x,hx⟩:∃ x,x=S[k]:=⟨_,rfl⟩
   have hgx:∀ h,S[k]'h=x:=fun _=>hx.symm
   have hxm:x∈S:=by rw [hx]; exact List.getElem_mem k1
   have htab:tabO S k=x:=by unfold tabO; rw [List.getElem?_eq_getElem k1,← hx]; rfl
   have hdec:=hd k k1
   rw [htab] at hdec
   have hfx:=(h.fk x hxm).1
   rw [of_yes htab hIk hRk hAk hRn k1]
   obtain ⟨PG,hPG⟩:∃ o,parG S I (ofG S I R A m) row [] x.fk=o:=⟨_,rfl⟩
   rw [hPG]
   have htr:=p13_truths ats ar1 ar2 row hrl
   have htl:(trG row ats).length=ats.length:=by simp [trG]
   generalize trG row ats=T at *
   simp [schA,instA,n1,n2,hM,k2,hgr,tabD,hni,c2,hgw,rowD,k1,hgx,Tb.c]
   (repeat' (first|contradiction|exact .ok|apply And.intro|intro _|(refine gc (fun h=>?_) (fun h=>?_)<;>(have h':=h;(try simp at h');first|done|simp[h,h',n1,n2,hM,k2,hgr,tabD,hni,c2,hgw,rowD,k1,hgx,Tb.c]|simp[n1,n2,hM,k2,hgr,tabD,hni,c2,hgw,rowD,k1,hgx,Tb.c]))))
   refine aloopT mixo (by decide) (fun y:Nat×List Int=>{ s:=mkS [(2,.d (.sl (R.map rgD))),(3,.d (.sl (A.map atD))),(4,.d (.int .i64 k)),(6,.ptr 6 0 0),(7,.ptr 7 0 0),(14,.d (.sl (row.map V.c))),(15,.ptr 15 0 0),(68,.d (.sl (x.fk.map Fk.c))),(69,.d (.int .i64 x.fk.length)),(70,.d (.int .i64 y.1))],b:=mkB [(6,6,.var [.d (.sl (S.map Tb.c))]),(7,7,.var [.d (.sl (I.map tabD))]),(15,15,.var [.ref 900 0 y.1 1]),(900,900,.arr 3 1 (ints y.2) false)] })
    (fun y=>y.1≤x.fk.length∧y.2.length=y.1∧parG S I (ofG S I R A m) row y.2 (x.fk.drop y.1)=PG) (fun y=>x.fk.length - y.1) (0,[]) ⟨by simp,rfl,hPG⟩
    ((sub_nilc 15 900 3 1 0 (cells:=[.nils]) (by simp) rfl (by simp) (by decide) (by decide)).trans (sub_mk _ [(6,6,_),(7,7,_),(15,15,_),(900,900,_)] ⟨by simp,by simp,by simp [renOf,Blk.live,upd,ints],by simp⟩ (by simp [renOf]))) ?_
   rintro ⟨j,acc⟩ ⟨hj,hal,hp⟩
   simp only at hj hal hp ⊢
   have htk:(ints acc).take j=ints acc:=List.take_of_length_le (by simp [hal])
   by_cases hjl:j<x.fk.length
   ·obtain ⟨g,hg⟩:∃ g,g=x.fk[j]:=⟨_,rfl⟩
    have hgj:∀ h,x.fk[j]'h=g:=fun _=>hg.symm
    have hgm:g∈x.fk:=by rw [hg]; exact List.getElem_mem hjl
    have hwj:=wrap_in (n:=(j:Int)+1) (by omega) (by omega)
    rw [parG_drop hjl hg.symm] at hp
    obtain ⟨t0,t1⟩:=hdec g hgm
    obtain ⟨to,hto⟩:∃ t:Nat,tgt S g=t:=⟨(tgt S g).toNat,by omega⟩
    have htn:tgN S g=to:=by unfold tgN; rw [hto]; rfl
    rw [htn] at t1
    have htl2:to<S.length:=by omega
    obtain ⟨o,ho2⟩:∃ o,o=S[to]:=⟨_,rfl⟩
    have hgo:∀ h,S[to]'h=o:=fun _=>ho2.symm
    have hom:o∈S:=by rw [ho2]; exact List.getElem_mem htl2
    have hto2:tabO S to=o:=by unfold tabO; rw [List.getElem?_eq_getElem htl2,← ho2]; rfl
    have hZ:refZ S I row g=if to<I.length then refG (hdI o.pr).toNat (hdI g.cols).toNat ((I[to]?).getD []) row else -1:=by unfold refZ; rw [htn,hto2]
    rw [htn] at hp
    simp [hjl,hgj,Fk.c]
    (repeat' (first|contradiction|exact .ok|apply And.intro|intro _|(refine gc (fun h=>?_) (fun h=>?_)<;>(have h':=h;(try simp at h');first|done|simp[h,h']|simp))))
    refine acallT_plain (up (s_target S hl h.ok.ok k1 hx.symm hjl hg.symm)) (by simp [schA]) ?_
    rw [place_at (show fidx (fun y:Tb=>y.n==g.t) S 0=to from hto)]
    by_cases htI:to<I.length
    rotate_left
    ·have hti:(I.length:Int)≤to:=by omega
     rw [if_neg htI] at hZ
     rw [hZ,if_pos (by omega)] at hp
     rw [← hp]
     simp [hti,pairO]
     (repeat' (first|contradiction|exact .ok|apply And.intro|intro _|(refine gc (fun h=>?_) (fun h=>?_)<;>(have h':=h;(try simp at h');first|done|simp[h,h',hti]|simp[hti]))))
    have hti:¬ (I.length:Int)≤to:=by omega
    obtain ⟨rs,hrs⟩:∃ r,r=I[to]:=⟨_,rfl⟩
    have hgs:∀ h,I[to]'h=rs:=fun _=>hrs.symm
    rw [if_pos htI,List.getElem?_eq_getElem htI,← hrs,Option.getD_some] at hZ
    obtain ⟨p1,p2,p3⟩:=h.pr o hom
    obtain ⟨g1,g2,g3⟩:=(h.fk x hxm).2 g hgm
    obtain ⟨p,hpp⟩:∃ p:Nat,hdI o.pr=p:=⟨(hdI o.pr).toNat,by omega⟩
    obtain ⟨c,hcc⟩:∃ p:Nat,hdI g.cols=p:=⟨(hdI g.cols).toNat,by omega⟩
    have hop:o.pr=[(p:Int)]:=by
     obtain ⟨q,hq⟩:=len_one p1
     rw [hq] at hpp ⊢
     have:q=p:=hpp
     rw [this]
    have hgc:g.cols=[(c:Int)]:=by
     obtain ⟨q,hq⟩:=len_one g1
     rw [hq] at hcc ⊢
     have:q=c:=hcc
     rw [this]
    rw [hpp,hcc,Int.toNat_natCast,Int.toNat_natCast] at hZ
    have hrf:=o_refd o g p c hop hgc row rs (ho.ir rs (by rw [hrs]; exact List.getElem_mem htI)).1
    rw [← hZ] at hrf
    generalize refZ S I row g=z at *
    unfold pairF at hrf
    simp [hti,htI,hgs,htl2,hgo,tabD,Tb.c]
    (repeat' (first|contradiction|exact .ok|apply And.intro|intro _|(refine gc (fun h=>?_) (fun h=>?_)<;>(have h':=h;(try simp at h');first|done|simp[h,h',hti]|simp[hti]))))
    refine acallT_plain (up hrf) (by simp [Tb.a,Tb.c,Fk.a,Fk.c]) ?_
    by_cases hz:z<0
    ·rw [if_pos hz] at hp
     have hz0:¬ 0≤z:=by omega
     rw [← hp]
     simp [hz0,pairO]
     (repeat' (first|contradiction|exact .ok|apply And.intro|intro _|(refine gc (fun h=>?_) (fun h=>?_)<;>(have h':=h;(try simp at h');first|done|simp[h,h',hz0]|simp[hz0]))))
    rw [if_neg hz] at hp
    obtain ⟨q,rfl⟩:∃ q:Nat,z=q:=⟨z.toNat,by omega⟩
    rw [Int.toNat_natCast] at hp
    have hr:=ih to q (by omega)
    have hmx:(if (0:Int)<(q:Int) then (q:Int) else 0)=q:=by split <;> omega
    simp
    (repeat' (first|contradiction|exact .ok|apply And.intro|intro _|(refine gc (fun h=>?_) (fun h=>?_)<;>(have h':=h;(try simp at h');first|done|simp[h,h']|simp))))
    refine acallT_plain hr (by simp [schA,instA]) ?_
    cases hof:ofG S I R A m to q with
    | none =>
      rw [hof] at hp
      simp only at hp
      rw [← hp]
      simp [pairO]
      all_goals exact gz
    | some r =>
      rw [hof] at hp
      simp only at hp
      simp [pairO,hal,htk,szs j (by omega) 8 (by decide),szs (j+1) (by omega) 8 (by decide)]
      (repeat' (first|contradiction|exact .ok|apply And.intro|intro _|(refine gc (fun h=>?_) (fun h=>?_)<;>(have h':=h;(try simp at h');first|done|simp[h,h']|simp))))
      refine ⟨(j+1,acc++[(r:Int)]),⟨by simp only; omega,by simp [hal],hp⟩,?_,by simp; omega⟩
      exact sub_mk _ [(6,6,_),(7,7,_),(15,15,_),(900,124,_)] ⟨by simp,by simp,by simp [renOf,Blk.live,ints_snoc],by simp⟩ (by simp [renOf,hwj])
   obtain rfl:j=x.fk.length:=by omega
   rw [List.drop_length,parG] at hp
   rw [← hp]
   simp only
   have hrg:=o_rgI rgs rr1 rr2 T acc
   generalize fidx (rgH T acc) rgs 0=z at *
   simp [k4,hga,atD]
   (repeat' (first|contradiction|exact .ok|apply And.intro|intro _|(refine gc (fun h=>?_) (fun h=>?_)<;>(have h':=h;(try simp at h');first|done|simp[h,h']|simp))))
   refine acallT_plain htr (by simp) ?_
   simp [k3,hgg,rgD]
   (repeat' (first|contradiction|exact .ok|apply And.intro|intro _|(refine gc (fun h=>?_) (fun h=>?_)<;>(have h':=h;(try simp at h');first|done|simp[h,h']|simp))))
   refine acallT_hand [22,15] (up hrg) (by simp) (by simp) (by simp) (by simp [htk,hal]) (by simp [fwdR_cons]) ?_
   by_cases hz:0≤z
   ·rw [if_pos hz]
    simp [pairO,hz]
    (repeat' (first|contradiction|exact .ok|apply And.intro|intro _|(refine gc (fun h=>?_) (fun h=>?_)<;>(have h':=h;(try simp at h');first|done|simp[h,h']|simp))))
    all_goals first | omega | (split <;> omega) | skip
   ·rw [if_neg hz]
    simp [pairO,hz]
    (repeat' (first|contradiction|exact .ok|apply And.intro|intro _|(refine gc (fun h=>?_) (fun h=>?_)<;>(have h':=h;(try simp at h');first|done|simp[h,h']|simp))))
    all_goals first | omega | (split <;> omega) | skip
end Go.Proofs.Tryz
