import Derived.Test.YtklnfckiabhceaaGreatDoorOfy
set_option linter.all false
namespace Go.Proofs.Tryz
open Go.Ab
set_option maxRecDepth 100000
set_option maxHeartbeats 8000000
theorem r13_of (S:List Tb) (h:FillOk S) (hd:Dec S) (hP:plainS S=true) (I:List (List (List V))) (R:List (List Rg)) (A:List (List At)) (ho:OfOk I R A):∀ (m k n:Nat),k<m →
  Cf Es 14 [schA S,instA I,.d (.sl (R.map rgD)),.d (.sl (A.map atD)),.d (.int .i64 k),.d (.int .i64 n)] [] (pairO (ofG S I R A m k n)) []
 | 0,_,_,hm=>absurd hm (by omega)
 | m+1,k,n,hm=>by
   have ih:=r13_of S h hd hP I R A ho m
   refine cf_intro mixs (fn:=Tryz.f14) (by kernel_rfl) rfl (by kernel_rfl) (by decide) (by simp) ?_
   have hpl:=r_PlainA h.ok
   rw [hP] at hpl
   have hl:=h.ok.len
   have il:=ho.il
   have rl:=ho.rl
   have al:=ho.al
   have n1:¬ (k:Int)<0:=by omega
   have n2:¬ (n:Int)<0:=by omega
   simp [schA,instA]
   (repeat' (first|contradiction|exact .ok|apply And.intro|intro _|(refine gc (fun h=>?_) (fun h=>?_)<;>(have h':=h;(try simp at h');first|done|simp[h,h']|simp))))
   refine acallT_plain hpl (by simp [schA]) ?_
   by_cases k1:k<S.length
   rotate_left
   ·rw [of_no (fun e=>k1 e.1)]
    have i1:(S.length:Int)≤k:=by omega
    simp [pairO,n1,i1]
    (repeat' (first|contradiction|exact .ok|apply And.intro|intro _|(refine gc (fun h=>?_) (fun h=>?_)<;>(have h':=h;(try simp at h');first|done|simp[h,h',n1,i1]|simp[n1,i1]))))
   have i1:¬ (S.length:Int)≤k:=by omega
   by_cases k2:k<I.length
   rotate_left
   ·rw [of_no (fun e=>k2 e.2.1)]
    have i2:(I.length:Int)≤k:=by omega
    simp [pairO,n1,i1,i2]
    (repeat' (first|contradiction|exact .ok|apply And.intro|intro _|(refine gc (fun h=>?_) (fun h=>?_)<;>(have h':=h;(try simp at h');first|done|simp[h,h',n1,i1,i2]|simp[n1,i1,i2]))))
   have i2:¬ (I.length:Int)≤k:=by omega
   by_cases k3:k<R.length
   rotate_left
   ·rw [of_no (fun e=>k3 e.2.2.1)]
    have i3:(R.length:Int)≤k:=by omega
    simp [pairO,n1,i1,i2,i3]
    (repeat' (first|contradiction|exact .ok|apply And.intro|intro _|(refine gc (fun h=>?_) (fun h=>?_)<;>(have h':=h;(try simp at h');first|done|simp[h,h',n1,i1,i2,i3]|simp[n1,i1,i2,i3]))))
   have i3:¬ (R.length:Int)≤k:=by omega
   by_cases k4:k<A.length
   rotate_left
   ·rw [of_no (fun e=>k4 e.2.2.2.1)]
    have i4:(A.length:Int)≤k:=by omega
    simp [pairO,n1,i1,i2,i3,i4]
    (repeat' (first|contradiction|exact .ok|apply And.intro|intro _|(refine gc (fun h=>?_) (fun h=>?_)<;>(have h':=h;(try simp at h');first|done|simp[h,h',n1,i1,i2,i3,i4]|simp[n1,i1,i2,i3,i4]))))
   have i4:¬ (A.length:Int)≤k:=by omega
   obtain ⟨rows,hrows⟩:∃ r,r=I[k]:=⟨_,rfl⟩
   have hgr:∀ h,I[k]'h=rows:=fun _=>hrows.symm
   have hIk:I[k]?=some rows:=by rw [List.getElem?_eq_getElem k2,← hrows]
   obtain ⟨ir1,ir2⟩:=ho.ir rows (by rw [hrows]; exact List.getElem_mem k2)
   by_cases c2:n<rows.length
   rotate_left
   ·rw [of_no (fun e=>c2 (by have:=e.2.2.2.2; rw [hIk] at this; exact this))]
    have hni:(rows.length:Int)≤n:=by omega
    simp [pairO,n1,n2,i1,i2,i3,i4,k2,hgr,tabD,hni]
    (repeat' (first|contradiction|exact .ok|apply And.intro|intro _|(refine gc (fun h=>?_) (fun h=>?_)<;>(have h':=h;(try simp at h');first|done|simp[h,h',n1,n2,i1,i2,i3,i4,k2,hgr,tabD,hni]|simp[n1,n2,i1,i2,i3,i4,k2,hgr,tabD,hni]))))
   have hni:¬ (rows.length:Int)≤n:=by omega
   obtain ⟨row,hrow⟩:∃ r,r=rows[n]:=⟨_,rfl⟩
   have hgw:∀ h,rows[n]'h=row:=fun _=>hrow.symm
   have hRn:rows[n]?=some row:=by rw [List.getElem?_eq_getElem c2,← hrow]
   have hrl:=ir2 row (by rw [hrow]; exact List.getElem_mem c2)
   obtain ⟨rgs,hrgs⟩:∃ r,r=R[k]:=⟨_,rfl⟩
   have hgg:∀ h,R[k]'h=rgs:=fun _=>hrgs.symm
   have hRk:R[k]?=some rgs:=by rw [List.getElem?_eq_getElem k3,← hrgs]
   obtain ⟨rr1,rr2⟩:=ho.rr rgs (by rw [hrgs]; exact List.getElem_mem k3)
   obtain ⟨ats,hats⟩:∃ r,r=A[k]:=⟨_,rfl⟩
   have hga:∀ h,A[k]'h=ats:=fun _=>hats.symm
   have hAk:A[k]?=some ats:=by rw [List.getElem?_eq_getElem k4,← hats]
   obtain ⟨ar1,ar2⟩:=ho.ar ats (by rw [hats]; exact List.getElem_mem k4)
   obtain ⟨x,hx⟩:∃ x,x=S[k]:=⟨_,rfl⟩
   have hgx:∀ h,S[k]'h=x:=fun _=>hx.symm
   have hxm:x∈S:=by rw [hx]; exact List.getElem_mem k1
   have htab:tabO S k=x:=by unfold tabO; rw [List.getElem?_eq_getElem k1,← hx]; rfl
   have hdec:=hd k k1
   rw [htab] at hdec
   have hfx:=(h.fk x hxm).1
   rw [of_yes htab hIk hRk hAk hRn k1]
   obtain ⟨PG,hPG⟩:∃ o,parG S I (ofG S I R A m) row [] x.fk=o:=⟨_,rfl⟩
   rw [hPG]
   have htr:=r13_truths ats ar1 ar2 row hrl
   generalize trG row ats=T at *
   simp [n1,n2,i1,i2,i3,i4,k2,hgr,tabD,hni,c2,hgw,rowD]
   (repeat' (first|contradiction|exact .ok|apply And.intro|intro _|(refine gc (fun h=>?_) (fun h=>?_)<;>(have h':=h;(try simp at h');first|done|simp[h,h',n1,n2,i1,i2,i3,i4,k2,hgr,tabD,hni,c2,hgw,rowD]|simp[n1,n2,i1,i2,i3,i4,k2,hgr,tabD,hni,c2,hgw,rowD]))))
   refine aloopT mixs (by decide) (fun y:Nat×List Int=>{ s:=mkS [(2,.d (.sl (R.map rgD))),(3,.d (.sl (A.map atD))),(4,.d (.int .i64 k)),(6,.ptr 6 0 0),(7,.ptr 7 0 0),(14,.d (.sl (row.map V.c))),(15,.ref 900 0 y.1 1),(16,.d (.int .i64 y.1))],b:=mkB [(6,6,.var [.d (.sl (S.map Tb.c))]),(7,7,.var [.d (.sl (I.map tabD))]),(900,900,.arr 3 1 (ints y.2) false)] })
    (fun y=>y.1≤x.fk.length∧y.2.length=y.1∧parG S I (ofG S I R A m) row y.2 (x.fk.drop y.1)=PG) (fun y=>x.fk.length - y.1) (0,[]) ⟨by simp,rfl,hPG⟩
    (sub_mkn 15 900 3 1 (by simp) (by simp) (by decide) (by decide) _ [(6,6,_),(7,7,_),(900,900,_)] ⟨by simp,by simp,by simp [renOf,Blk.live,ints],by simp⟩ (by simp [renOf])) ?_
   rintro ⟨j,acc⟩ ⟨hj,hal,hp⟩
   simp only at hj hal hp ⊢
   have htk:(ints acc).take j=ints acc:=List.take_of_length_le (by simp [hal])
   by_cases hjl:j<x.fk.length
   ·obtain ⟨g,hg⟩:∃ g,g=x.fk[j]:=⟨_,rfl⟩
    have hgj:∀ h,x.fk[j]'h=g:=fun _=>hg.symm
    have hgm:g∈x.fk:=by rw [hg]; exact List.getElem_mem hjl
    have hwj:=wrap_in (n:=(j:Int)+1) (by omega) (by omega)
    rw [parG_drop hjl hg.symm] at hp
    obtain ⟨t0,t1⟩:=hdec g hgm
    obtain ⟨to,hto⟩:∃ t:Nat,tgt S g=t:=⟨(tgt S g).toNat,by omega⟩
    have htn:tgN S g=to:=by unfold tgN; rw [hto]; rfl
    rw [htn] at t1
    have htl2:to<S.length:=by omega
    obtain ⟨o,ho2⟩:∃ o,o=S[to]:=⟨_,rfl⟩
    have hto2:tabO S to=o:=by unfold tabO; rw [List.getElem?_eq_getElem htl2,← ho2]; rfl
    have hpa:=r_parent S h I (fun t ht=>(ho.ir t ht).1) k j to x o g k1 hx.symm hjl hg.symm hto (fun _=>ho2.symm) row hrl
    have hZ:refZ S I row g=if to<I.length then refG (hdI o.pr).toNat (hdI g.cols).toNat ((I[to]?).getD []) row else -1:=by unfold refZ; rw [htn,hto2]
    rw [← hZ] at hpa
    rw [htn] at hp
    generalize refZ S I row g=z at *
    unfold parA at hpa
    simp [k1,hgx,Tb.c,hjl]
    (repeat' (first|contradiction|exact .ok|apply And.intro|intro _|(refine gc (fun h=>?_) (fun h=>?_)<;>(have h':=h;(try simp at h');first|done|simp[h,h']|simp))))
    refine acallT_plain (ups hpa) (by simp [schA,instA]) ?_
    by_cases hz:0≤z
    rotate_left
    ·rw [if_pos (by omega)] at hp
     rw [if_neg hz,← hp]
     simp [pairO]
     all_goals exact gz
    rw [if_neg (by omega)] at hp
    rw [if_pos hz]
    obtain ⟨q,rfl⟩:∃ q:Nat,z=q:=⟨z.toNat,by omega⟩
    rw [Int.toNat_natCast] at hp
    have hr:=ih to q (by omega)
    simp
    (repeat' (first|contradiction|exact .ok|apply And.intro|intro _|(refine gc (fun h=>?_) (fun h=>?_)<;>(have h':=h;(try simp at h');first|done|simp[h,h']|simp))))
    refine acallT_plain hr (by simp [schA,instA]) ?_
    cases hof:ofG S I R A m to q with
    | none =>
      rw [hof] at hp
      simp only at hp
      rw [← hp]
      simp [pairO]
      all_goals exact gz
    | some r =>
      rw [hof] at hp
      simp only at hp
      simp [pairO,hal,htk,szs j (by omega) 8 (by decide),szs (j+1) (by omega) 8 (by decide)]
      (repeat' (first|contradiction|exact .ok|apply And.intro|intro _|(refine gc (fun h=>?_) (fun h=>?_)<;>(have h':=h;(try simp at h');first|done|simp[h,h']|simp))))
      refine ⟨(j+1,acc++[(r:Int)]),⟨by simp only; omega,by simp [hal],hp⟩,?_,by simp; omega⟩
      exact sub_mk _ [(6,6,_),(7,7,_),(900,116,_)] ⟨by simp,by simp,by simp [renOf,Blk.live,ints_snoc],by simp⟩ (by simp [renOf,hwj])
   obtain rfl:j=x.fk.length:=by omega
   rw [List.drop_length,parG] at hp
   rw [← hp]
   simp only
   simp [k1,hgx,Tb.c,k4,hga,atD]
   (repeat' (first|contradiction|exact .ok|apply And.intro|intro _|(refine gc (fun h=>?_) (fun h=>?_)<;>(have h':=h;(try simp at h');first|done|simp[h,h']|simp))))
   refine acallT_plain (ups htr) (by simp) ?_
   simp
   (repeat' (first|contradiction|exact .ok|apply And.intro|intro _|(refine gc (fun h=>?_) (fun h=>?_)<;>(have h':=h;(try simp at h');first|done|simp[h,h']|simp))))
   refine aloopT mixs (by decide) (fun i:Nat=>{ s:=mkS [(2,.d (.sl (R.map rgD))),(4,.d (.int .i64 k)),(15,.d (.sl (ints acc))),(21,.d (.sl (ints T))),(22,.d (.int .i64 i))],b:=mkB [] })
    (fun i=>i≤rgs.length∧fidx (rgH T acc) (rgs.drop i) i=fidx (rgH T acc) rgs 0) (fun i=>rgs.length - i) 0 ⟨by simp,rfl⟩
    (sub_mk _ [] .nil (by simp [renOf,htk,hal])) ?_
   rintro i ⟨hi,hf⟩
   by_cases hil:i<rgs.length
   ·rw [fidx_drop hil] at hf
    have hw:=wrap_in (n:=(i:Int)+1) (by omega) (by omega)
    obtain ⟨u,hu⟩:∃ u,u=rgs[i]:=⟨_,rfl⟩
    have hgu:∀ h,rgs[i]'h=u:=fun _=>hu.symm
    rw [← hu] at hf
    obtain ⟨u1,u2⟩:=rr2 u (by rw [hu]; exact List.getElem_mem hil)
    have hs1:=r13_same u.t T u1
    have hs2:=r13_same u.p acc u2
    have hrgh:rgH T acc u=((u.t==T)&&(u.p==acc)):=rfl
    rw [hrgh] at hf
    clear hrgh
    generalize (u.t==T)=B1 at *
    generalize (u.p==acc)=B2 at *
    simp [k3,hgg,rgD,hil,hgu,Rg.c]
    (repeat' (first|contradiction|exact .ok|apply And.intro|intro _|(refine gc (fun h=>?_) (fun h=>?_)<;>(have h':=h;(try simp at h');first|done|simp[h,h']|simp))))
    refine acallT_plain (ups hs1) (by simp) ?_
    cases B1 with
    | false =>
      rw [Bool.false_and,if_neg (by decide)] at hf
      simp
      (repeat' (first|contradiction|exact .ok|apply And.intro|intro _|(refine gc (fun h=>?_) (fun h=>?_)<;>(have h':=h;(try simp at h');first|done|simp[h,h']|simp))))
      refine ⟨i+1,⟨by omega,hf⟩,?_,by simp; omega⟩
      exact sub_mk _ [] .nil (by simp [hw])
    | true =>
      rw [Bool.true_and] at hf
      simp [k3,hgg,rgD,hil,hgu,Rg.c]
      (repeat' (first|contradiction|exact .ok|apply And.intro|intro _|(refine gc (fun h=>?_) (fun h=>?_)<;>(have h':=h;(try simp at h');first|done|simp[h,h']|simp))))
      refine acallT_plain (ups hs2) (by simp) ?_
      cases B2 with
      | false =>
        rw [if_neg (by decide)] at hf
        simp
        (repeat' (first|contradiction|exact .ok|apply And.intro|intro _|(refine gc (fun h=>?_) (fun h=>?_)<;>(have h':=h;(try simp at h');first|done|simp[h,h']|simp))))
        refine ⟨i+1,⟨by omega,hf⟩,?_,by simp; omega⟩
        exact sub_mk _ [] .nil (by simp [hw])
      | true =>
        rw [if_pos rfl] at hf
        rw [← hf,if_pos (by omega),Int.toNat_natCast]
        simp [pairO]
        all_goals exact gz
   obtain rfl:i=rgs.length:=by omega
   rw [List.drop_length,fidx] at hf
   rw [← hf,if_neg (by decide)]
   simp [k3,hgg,rgD,pairO]
   all_goals exact gz
theorem r_Of (S:List Tb) (h:FillOk S) (hd:Dec S) (I:List (List (List V))) (R:List (List Rg)) (A:List (List At)) (ho:OfOk I R A) (t r:Int) :
  Cf Es 14 [schA S,instA I,.d (.sl (R.map rgD)),.d (.sl (A.map atD)),.d (.int .i64 t),.d (.int .i64 r)] [] (pairO (ofZ S I R A t r)) []:=by
 cases hP:plainS S with
 | true =>
   by_cases hn:t<0∨r<0
   ·unfold ofZ
    rw [if_neg (by omega)]
    refine cf_intro mixs (fn:=Tryz.f14) (by kernel_rfl) rfl (by kernel_rfl) (by decide) (by simp) ?_
    have hpl:=r_PlainA h.ok
    rw [hP] at hpl
    simp [schA,instA]
    (repeat' (first|contradiction|exact .ok|apply And.intro|intro _|(refine gc (fun h=>?_) (fun h=>?_)<;>(have h':=h;(try simp at h');first|done|simp[h,h']|simp))))
    refine acallT_plain hpl (by simp [schA]) ?_
    by_cases n1:t<0
    ·simp [pairO,n1]
     (repeat' (first|contradiction|exact .ok|apply And.intro|intro _|(refine gc (fun h=>?_) (fun h=>?_)<;>(have h':=h;(try simp at h');first|done|simp[h,h',n1]|simp[n1]))))
    have n2:r<0:=by omega
    by_cases c1:(S.length:Int)≤t
    ·simp [pairO,n1,c1]
     (repeat' (first|contradiction|exact .ok|apply And.intro|intro _|(refine gc (fun h=>?_) (fun h=>?_)<;>(have h':=h;(try simp at h');first|done|simp[h,h',n1,c1]|simp[n1,c1]))))
    by_cases c2:(I.length:Int)≤t
    ·simp [pairO,n1,c1,c2]
     (repeat' (first|contradiction|exact .ok|apply And.intro|intro _|(refine gc (fun h=>?_) (fun h=>?_)<;>(have h':=h;(try simp at h');first|done|simp[h,h',n1,c1,c2]|simp[n1,c1,c2]))))
    by_cases c3:(R.length:Int)≤t
    ·simp [pairO,n1,c1,c2,c3]
     (repeat' (first|contradiction|exact .ok|apply And.intro|intro _|(refine gc (fun h=>?_) (fun h=>?_)<;>(have h':=h;(try simp at h');first|done|simp[h,h',n1,c1,c2,c3]|simp[n1,c1,c2,c3]))))
    by_cases c4:(A.length:Int)≤t
    ·simp [pairO,n1,c1,c2,c3,c4]
     (repeat' (first|contradiction|exact .ok|apply And.intro|intro _|(refine gc (fun h=>?_) (fun h=>?_)<;>(have h':=h;(try simp at h');first|done|simp[h,h',n1,c1,c2,c3,c4]|simp[n1,c1,c2,c3,c4]))))
    simp [pairO,n1,c1,c2,c3,c4,n2]
    (repeat' (first|contradiction|exact .ok|apply And.intro|intro _|(refine gc (fun h=>?_) (fun h=>?_)<;>(have h':=h;(try simp at h');first|done|simp[h,h',n1,c1,c2,c3,c4,n2]|simp[n1,c1,c2,c3,c4,n2]))))
   ·obtain ⟨k,rfl⟩:∃ k:Nat,t=k:=⟨t.toNat,by omega⟩
    obtain ⟨n,rfl⟩:∃ k:Nat,r=k:=⟨r.toNat,by omega⟩
    have hc:=r13_of S h hd hP I R A ho (k+1) k n (by omega)
    unfold ofZ
    rw [if_pos ⟨hP,by omega,by omega⟩,Int.toNat_natCast,Int.toNat_natCast]
    exact hc
 | false =>
   unfold ofZ
   rw [if_neg (by simp [hP])]
   refine cf_intro mixs (fn:=Tryz.f14) (by kernel_rfl) rfl (by kernel_rfl) (by decide) (by simp) ?_
   have hpl:=r_PlainA h.ok
   rw [hP] at hpl
   simp [schA,instA]
   (repeat' (first|contradiction|exact .ok|apply And.intro|intro _|(refine gc (fun h=>?_) (fun h=>?_)<;>(have h':=h;(try simp at h');first|done|simp[h,h']|simp))))
   refine acallT_plain hpl (by simp [schA]) ?_
   simp [pairO]
   all_goals exact gz
end Go.Proofs.Tryz
