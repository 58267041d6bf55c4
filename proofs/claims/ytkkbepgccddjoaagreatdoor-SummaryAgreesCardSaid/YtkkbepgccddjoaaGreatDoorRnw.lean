import Derived.Test.YtkkbepgccddjoaaGreatDoorRnv
import Derived.Test.YtkkbepgccddjoaaGreatDoorARsm
set_option linter.all false
namespace Go.Proofs.Tryz
open Go.Ab
set_option maxRecDepth 100000
set_option maxHeartbeats 8000000
structure InsF (S:List Tb) (T:Nat→List (List V)):Prop where
 few:S.length≤1000
 ok:∀ x∈S,x.ok
 ty:∀ x∈S,∀ u∈x.cols,u.t=1∨u.t=2∨u.t=3
 key:∀ x∈S,KeyOk x
 un:∀ x∈S,x.un=[]
 ch:∀ x∈S,x.ch=[]
 tg:∀ x∈S,∀ g∈x.fk,0≤tgt S g∧tgN S g<S.length
 len:∀ k,(T k).length≤100000
 row:InsOk S T S.length
 val:∀ k,k<S.length→∀ row∈T k,∀ c v,row[c]?=some v→ValOk (tabO S k) c v
def tabF (T:Nat→List (List V)) (k:Nat):List D:=tabD (T k)
theorem insA_seq (T:Nat→List (List V)) (n:Nat):instA (seqF T n)=.agg [.d (.sl (seqF (tabF T) n))]:=by
 unfold instA
 rw [seqF_map]
 rfl
theorem pick_one {row:List V} {c:Nat} {v:V} (h:row[c]?=some v):Cf En 124 [.d (.sl (row.map V.c)),.d (.sl (ints [(c:Int)]))] [] (.d (.sl ([v].map V.c))) []:=by
 have hp:c<row.length:=(List.getElem?_eq_some_iff.1 h).1
 have:=r9_pick row [(c:Int)] (by simp) (by simp; exact hp)
 unfold pickV at this
 simp only [List.map_cons,List.map_nil,Int.toNat_natCast,h,Option.getD_some] at this
 exact this
theorem r9_table {S:List Tb} {T:Nat→List (List V)} (h:InsF S T) {n:Nat} (hn:n<S.length) (m:Nat) (hm:S.length≤m) :
  Cf En 82 [schA S,instA (seqF T S.length),.d (.int .i64 n),.d (.sl (List.replicate m [.bool true]))] [] (.d (.sl [])) []:=by
 refine cf_intro mix (fn:=Tryz.f82) (by kernel_rfl) rfl (by kernel_rfl) (by decide) (by simp) ?_
 have hfew:=h.few
 obtain ⟨x,hx⟩:∃ x,x=S[n]:=⟨_,rfl⟩
 have hgx:∀ h,S[n]'h=x:=fun _=>hx.symm
 have hxm:x∈S:=by rw [hx]; exact List.getElem_mem hn
 have htab:tabO S n=x:=by unfold tabO; rw [List.getElem?_eq_getElem hn,← hx]; rfl
 have hK:=h.key x hxm
 obtain ⟨p,hpe,hpl⟩:=hK.pr
 have hip:ints x.pr=ints [(p:Int)]:=by rw [hpe]
 have hun:=h.un x hxm
 have hch:=h.ch x hxm
 have hxo:=h.ok x hxm
 have hfl:=hxo.fk
 have hTl:=h.len n
 have hrow:=h.row n hn
 rw [htab] at hrow
 have hpr:∀ (x:Tb) (p r:Nat) row,x.pr=[(p:Int)]→RowOk S T x r row→row[p]?=some ⟨1,(r:Int)+1,[]⟩:=fun x p r row hp hr=>by
  have:=hr.pr
  rw [hp] at this
  simpa [hdI,numV] using this
 have hrep:=r9_repeated 4 n 0 p (T n) hTl (fun r row hr=>hpr x p r row hpe (hrow r row hr)) true
 have hTn:∀ k,k<S.length→∀ h,(seqF (tabF T) S.length)[k]'h=tabF T k:=fun k hk h=>by
  have:=seqF_get (tabF T) S.length k
  rw [if_pos hk,List.getElem?_eq_getElem h] at this
  exact Option.some.inj this
 have hTnn:=hTn n hn
 rw [insA_seq]
 simp [schA,hn,hgx,hTnn,tabF,tabD,Tb.c]
 (repeat' (first|contradiction|exact .ok|apply And.intro|intro _|(refine gc (fun h=>?_) (fun h=>?_)<;>(have h':=h;(try simp at h');first|done|simp[h,h',hn,hgx,hTnn,tabF,tabD,Tb.c]|simp[hn,hgx,hTnn,tabF,tabD,Tb.c]))))
 simp [hip,Tb.c]
 refine acallT_plain hrep (by simp [hip]) ?_
 simp
 (repeat' (first|contradiction|exact .ok|apply And.intro|intro _|(refine gc (fun h=>?_) (fun h=>?_)<;>(have h':=h;(try simp at h');first|done|simp[h,h']|simp))))
 refine aloopT mix (by decide) (fun _:Unit=>{ s:=mkS [(2,.d (.int .i64 n)),(3,.d (.sl (List.replicate m [.bool true]))),(4,.ptr 4 0 0),(5,.ptr 5 0 0),(9,.ptr 9 0 0),(10,.d (.sl ((T n).map rowD))),(11,.d (.sl [])),(12,.d (.int .i64 0))],b:=mkB [(4,4,.var [.d (.sl (S.map Tb.c))]),(5,5,.var [.d (.sl (seqF (tabF T) S.length))]),(9,9,.var (x.c.map AV.d))] }) (fun _=>True) (fun _=>0) () trivial
  (sub_mk _ [(4,4,_),(5,5,_),(9,9,_)] ⟨by simp,by simp,by simp [renOf,Blk.live,Tb.c,hip,tabF,tabD],by simp⟩ (by simp [renOf,tabF,tabD])) ?_
 intro _ _
 simp [Tb.c,hun]
 (repeat' (first|contradiction|exact .ok|apply And.intro|intro _|(refine gc (fun h=>?_) (fun h=>?_)<;>(have h':=h;(try simp at h');first|done|simp[h,h',hun]|simp[hun]))))
 refine aloopT mix (by decide) (fun f:Nat=>{ s:=mkS [(2,.d (.int .i64 n)),(3,.d (.sl (List.replicate m [.bool true]))),(4,.ptr 4 0 0),(5,.ptr 5 0 0),(9,.ptr 9 0 0),(10,.d (.sl ((T n).map rowD))),(11,.d (.sl [])),(13,.d (.int .i64 f))],b:=mkB [(4,4,.var [.d (.sl (S.map Tb.c))]),(5,5,.var [.d (.sl (seqF (tabF T) S.length))]),(9,9,.var (x.c.map AV.d))] }) (fun f=>f≤x.fk.length) (fun f=>x.fk.length - f) 0 (by simp)
  (sub_mk _ [(4,4,_),(5,5,_),(9,9,_)] ⟨by simp,by simp,by simp [renOf,Blk.live,Tb.c,hun],by simp⟩ (by simp [renOf])) ?_
 intro f hf
 by_cases hlf:f<x.fk.length
 ·obtain ⟨g,hg⟩:∃ g,g=x.fk[f]:=⟨_,rfl⟩
  have hgm:g∈x.fk:=by rw [hg]; exact List.getElem_mem hlf
  have hgg:∀ h,x.fk[f]'h=g:=fun _=>hg.symm
  obtain ⟨t0,t1⟩:=h.tg x hxm g hgm
  obtain ⟨to,hto⟩:∃ t:Nat,tgt S g=t:=⟨(tgt S g).toNat,by omega⟩
  have htN:tgN S g=to:=by unfold tgN; rw [hto]; rfl
  rw [htN] at t1
  obtain ⟨y,hy⟩:∃ y,y=S[to]:=⟨_,rfl⟩
  have hgy:∀ h,S[to]'h=y:=fun _=>hy.symm
  have hym:y∈S:=by rw [hy]; exact List.getElem_mem t1
  have htaby:tabO S to=y:=by unfold tabO; rw [List.getElem?_eq_getElem t1,← hy]; rfl
  have hrowy:=h.row to t1
  rw [htaby] at hrowy
  obtain ⟨py,hpye,_⟩:=(h.key y hym).pr
  have hipy:ints y.pr=ints [(py:Int)]:=by rw [hpye]
  obtain ⟨c,hce,_,_⟩:=hK.fk g hgm
  have hig:ints g.cols=ints [(c:Int)]:=by rw [hce]
  have hgc:(hdI g.cols).toNat=c:=by rw [hce]; simp [hdI]
  have hTto:=hTn to t1
  have hTy:=h.len to
  have hw:=wrap_in (n:=(f:Int)+1) (by omega) (by omega)
  have hta:=r3_target S hfew h.ok hn hx.symm hlf hg.symm
  rw [place_at (show fidx (fun y:Tb=>y.n==g.t) S 0=to from hto)] at hta
  simp [hlf,Tb.c]
  (repeat' (first|contradiction|exact .ok|apply And.intro|intro _|(refine gc (fun h=>?_) (fun h=>?_)<;>(have h':=h;(try simp at h');first|done|simp[h,h']|simp))))
  refine acallT_plain hta (by simp [schA]) ?_
  simp
  (repeat' (first|contradiction|exact .ok|apply And.intro|intro _|(refine gc (fun h=>?_) (fun h=>?_)<;>(have h':=h;(try simp at h');first|done|simp[h,h']|simp))))
  refine aloopT mix (by decide) (fun r:Nat=>{ s:=mkS [(2,.d (.int .i64 n)),(3,.d (.sl (List.replicate m [.bool true]))),(4,.ptr 4 0 0),(5,.ptr 5 0 0),(9,.ptr 9 0 0),(10,.d (.sl ((T n).map rowD))),(11,.d (.sl [])),(13,.d (.int .i64 f)),(14,.d (.int .i64 to)),(16,.d (.int .i64 r))],b:=mkB [(4,4,.var [.d (.sl (S.map Tb.c))]),(5,5,.var [.d (.sl (seqF (tabF T) S.length))]),(9,9,.var (x.c.map AV.d))] }) (fun r=>r≤(T n).length) (fun r=>(T n).length - r) 0 (by simp)
   (sub_mk _ [(4,4,_),(5,5,_),(9,9,_)] ⟨by simp,by simp,by simp [renOf,Blk.live,Tb.c],by simp⟩ (by simp [renOf])) ?_
  intro r hr
  by_cases hlr:r<(T n).length
  ·have hwr:=wrap_in (n:=(r:Int)+1) (by omega) (by omega)
   obtain ⟨row,hro⟩:∃ row,row=(T n)[r]:=⟨_,rfl⟩
   have hgr:∀ h,(T n)[r]'h=row:=fun _=>hro.symm
   have hRo:=hrow r row (by rw [List.getElem?_eq_getElem hlr,hro])
   obtain ⟨q,hq,hql⟩:=hRo.fk g hgm
   rw [hgc] at hq
   rw [htN] at hql
   have hpk:=pick_one hq
   have hnu:=r9_null [numV (1+q)] (by simp) (by simp [numV])
   have hmt:to<m:=by omega
   simp [hlr,hmt,hgr,rowD,Tb.c,hlf,hgg,Fk.c,hig]
   (repeat' (first|contradiction|exact .ok|apply And.intro|intro _|(refine gc (fun h=>?_) (fun h=>?_)<;>(have h':=h;(try simp at h');first|done|simp[h,h']|simp))))
   refine acallT_plain hpk (by simp [hig]) ?_
   simp
   (repeat' (first|contradiction|exact .ok|apply And.intro|intro _|(refine gc (fun h=>?_) (fun h=>?_)<;>(have h':=h;(try simp at h');first|done|simp[h,h']|simp))))
   refine acallT_plain hnu (by simp) ?_
   simp
   (repeat' (first|contradiction|exact .ok|apply And.intro|intro _|(refine gc (fun h=>?_) (fun h=>?_)<;>(have h':=h;(try simp at h');first|done|simp[h,h']|simp))))
   refine aloopT mix (by decide) (fun j:Nat=>{ s:=mkS [(2,.d (.int .i64 n)),(3,.d (.sl (List.replicate m [.bool true]))),(4,.ptr 4 0 0),(5,.ptr 5 0 0),(9,.ptr 9 0 0),(10,.d (.sl ((T n).map rowD))),(11,.d (.sl [])),(13,.d (.int .i64 f)),(14,.d (.int .i64 to)),(16,.d (.int .i64 r)),(17,.d (.sl ([numV (1+q)].map V.c))),(18,.d (.bool (decide (q<j)))),(19,.d (.int .i64 j))],b:=mkB [(4,4,.var [.d (.sl (S.map Tb.c))]),(5,5,.var [.d (.sl (seqF (tabF T) S.length))]),(9,9,.var (x.c.map AV.d))] }) (fun j=>j≤q+1) (fun j=>q+1 - j) 0 (by simp)
    (sub_mk _ [(4,4,_),(5,5,_),(9,9,_)] ⟨by simp,by simp,by simp [renOf,Blk.live,Tb.c],by simp⟩ (by simp [renOf,rowD])) ?_
   intro j hj
   by_cases hjq:j=q+1
   ·subst hjq
    have hd:decide (q<q+1)=true:=by simp
    by_cases hq1:q+1<(T to).length
    ·have hq1i:(q:Int)+1<(T to).length:=by omega
     simp [t1,hTto,tabF,tabD,hq1,hq1i]
     (repeat' (first|contradiction|exact .ok|apply And.intro|intro _|(refine gc (fun h=>?_) (fun h=>?_)<;>(have h':=h;(try simp at h');first|done|simp[h,h',hq1,hq1i]|simp[hq1,hq1i]))))
     refine ⟨r+1,by omega,?_,by simp; omega⟩
     exact sub_mk _ [(4,4,_),(5,5,_),(9,9,_)] ⟨by simp,by simp,by simp [renOf,Blk.live,Tb.c,tabF,tabD],by simp⟩ (by simp [renOf,hwr])
    ·have hq1i:¬ (q:Int)+1<(T to).length:=by omega
     simp [t1,hTto,tabF,tabD,hq1,hq1i]
     (repeat' (first|contradiction|exact .ok|apply And.intro|intro _|(refine gc (fun h=>?_) (fun h=>?_)<;>(have h':=h;(try simp at h');first|done|simp[h,h',hq1,hq1i]|simp[hq1,hq1i]))))
     refine ⟨r+1,by omega,?_,by simp; omega⟩
     exact sub_mk _ [(4,4,_),(5,5,_),(9,9,_)] ⟨by simp,by simp,by simp [renOf,Blk.live,Tb.c,tabF,tabD],by simp⟩ (by simp [renOf,hwr])
   ·have hjl:j<(T to).length:=by omega
    have hjn:¬ q<j:=by omega
    have hd:decide (q<j)=false:=by simp; omega
    have hwj:=wrap_in (n:=(j:Int)+1) (by omega) (by omega)
    obtain ⟨rw2,hr2⟩:∃ row,row=(T to)[j]:=⟨_,rfl⟩
    have hgr2:∀ h,(T to)[j]'h=rw2:=fun _=>hr2.symm
    have hR2:=hrowy j rw2 (by rw [List.getElem?_eq_getElem hjl,hr2])
    have hpk2:=pick_one (hpr y py j rw2 hpye hR2)
    have hcm:=r_rowsC [(⟨1,(j:Int)+1,[]⟩:V)] [numV (1+q)] (by simp) (by simp)
    unfold numV at hcm
    rw [cmp_num] at hcm
    simp [t1,hTto,tabF,tabD,hjl,hd,hjn,hgr2,rowD,hgy,Tb.c,hipy]
    (repeat' (first|contradiction|exact .ok|apply And.intro|intro _|(refine gc (fun h=>?_) (fun h=>?_)<;>(have h':=h;(try simp at h');first|done|simp[h,h']|simp))))
    refine acallT_plain hpk2 (by simp [hipy]) ?_
    simp [numV]
    (repeat' (first|contradiction|exact .ok|apply And.intro|intro _|(refine gc (fun h=>?_) (fun h=>?_)<;>(have h':=h;(try simp at h');first|done|simp[h,h']|simp))))
    refine acallT_plain hcm (by simp) ?_
    have hz:(cmpI ((j:Int)+1) (1+q)=0)↔q<j+1:=by
     constructor
     ·intro e; have:=cmpI_eq e; omega
     ·intro e
      have:(j:Int)+1=1+q:=by omega
      rw [this]; exact cmpI_self _
    have hzd:(cmpI ((j:Int)+1) (1+q)==0)=decide (q<j+1):=by
     rw [Bool.eq_iff_iff]; simp only [beq_iff_eq,decide_eq_true_eq]; exact hz
    generalize cmpI ((j:Int)+1) (1+q)=z at *
    simp [hzd]
    (repeat' (first|contradiction|exact .ok|apply And.intro|intro _|(refine gc (fun h=>?_) (fun h=>?_)<;>(have h':=h;(try simp at h');first|done|simp[h,h']|simp))))
    refine ⟨j+1,by omega,?_,by simp; omega⟩
    exact sub_mk _ [(4,4,_),(5,5,_),(9,9,_)] ⟨by simp,by simp,by simp [renOf,Blk.live,Tb.c,tabF,tabD],by simp⟩ (by simp [renOf,hwj,hz,numV])
  obtain rfl:r=(T n).length:=by omega
  simp
  (repeat' (first|contradiction|exact .ok|apply And.intro|intro _|(refine gc (fun h=>?_) (fun h=>?_)<;>(have h':=h;(try simp at h');first|done|simp[h,h']|simp))))
  refine ⟨f+1,by omega,?_,by simp; omega⟩
  exact sub_mk _ [(4,4,_),(5,5,_),(9,9,_)] ⟨by simp,by simp,by simp [renOf,Blk.live,Tb.c],by simp⟩ (by simp [renOf,hw])
 obtain rfl:f=x.fk.length:=by omega
 simp [Tb.c]
 (repeat' (first|contradiction|exact .ok|apply And.intro|intro _|(refine gc (fun h=>?_) (fun h=>?_)<;>(have h':=h;(try simp at h');first|done|simp[h,h']|simp))))
 refine aloopT mix (by decide) (fun _:Unit=>{ s:=mkS [(2,.d (.int .i64 n)),(9,.ptr 9 0 0),(10,.d (.sl ((T n).map rowD))),(11,.d (.sl [])),(20,.d (.int .i64 0))],b:=mkB [(9,9,.var (x.c.map AV.d))] }) (fun _=>True) (fun _=>0) () trivial
  (sub_mk _ [(9,9,_)] ⟨by simp,by simp,by simp [renOf,Blk.live,Tb.c],by simp⟩ (by simp [renOf])) ?_
 intro _ _
 simp [Tb.c,hch]
 (repeat' (first|contradiction|exact .ok|apply And.intro|intro _|(refine gc (fun h=>?_) (fun h=>?_)<;>(have h':=h;(try simp at h');first|done|simp[h,h',hch]|simp[hch]))))
theorem r9_viol {S:List Tb} {T:Nat→List (List V)} (h:InsF S T) (hv:Cf Es 80 [schA S] [] (.d (.int .i64 0)) []) :
  Cf Es 45 [schA S,instA (seqF T S.length)] [] (.tup [.d (.sl []),.d (.int .i64 0)]) []:=by
 refine cf_intro mixs (fn:=Tryz.f45) (by kernel_rfl) rfl (by kernel_rfl) (by decide) (by simp) ?_
 have hfew:=h.few
 have hTn:∀ k,k<S.length→∀ h,(seqF (tabF T) S.length)[k]'h=tabF T k:=fun k hk h=>by
  have:=seqF_get (tabF T) S.length k
  rw [if_pos hk,List.getElem?_eq_getElem h] at this
  exact Option.some.inj this
 have hrow:∀ k (hk:k<S.length),Cf Es 81 [(S[k]).a,.d (.int .i64 k),.d (.sl ((T k).map rowD))] [] (.tup [.d (.sl []),.d (.bool true)]) []:=fun k hk=>by
  have hxm:S[k]∈S:=List.getElem_mem hk
  have htab:tabO S k=S[k]:=by unfold tabO; rw [List.getElem?_eq_getElem hk]; rfl
  have hr:=h.row k hk
  have hva:=h.val k hk
  rw [htab] at hr hva
  obtain ⟨p,hpe,hpl⟩:=(h.key _ hxm).pr
  refine ups (r9_rows S[k] (h.ok _ hxm) k (T k) (h.len k) (fun row hm=>?_) (by rw [hpe]; simp) (h.ty _ hxm))
  obtain ⟨r,hr0⟩:=List.mem_iff_getElem?.1 hm
  have hRo:=hr r row hr0
  refine ⟨hRo.len,fun c v hcv=>⟨hva row hm c v hcv,fun hcp=>?_⟩⟩
  rw [hpe,List.mem_singleton] at hcp
  have:=hRo.pr
  rw [hpe] at this
  have hcp':c=p:=by omega
  subst hcp'
  simp only [hdI,List.headD_cons,Int.toNat_natCast] at this
  rw [hcv,Option.some.injEq] at this
  rw [this]
  simp [numV]
 rw [insA_seq]
 simp [schA]
 (repeat' (first|contradiction|exact .ok|apply And.intro|intro _|(refine gc (fun h=>?_) (fun h=>?_)<;>(have h':=h;(try simp at h');first|done|simp[h,h']|simp))))
 refine acallT_plain hv (by simp [schA]) ?_
 simp
 (repeat' (first|contradiction|exact .ok|apply And.intro|intro _|(refine gc (fun h=>?_) (fun h=>?_)<;>(have h':=h;(try simp at h');first|done|simp[h,h']|simp))))
 refine aloopT mixs (by decide) (fun t:Nat=>{ s:=mkS [(2,.ptr 2 0 0),(3,.ptr 3 0 0),(7,.ref 907 0 t 1),(8,.d (.int .i64 t))],b:=mkB [(2,2,.var [.d (.sl (S.map Tb.c))]),(3,3,.var [.d (.sl (seqF (tabF T) S.length))]),(907,907,.arr 4 1 (List.replicate t [.bool true]) false)] }) (fun t=>t≤S.length) (fun t=>S.length - t) 0 (by simp)
  (sub_mkn 7 907 4 1 (by simp) (by simp) (by decide) (by decide) _ [(2,2,_),(3,3,_),(907,907,_)] ⟨by simp,by simp,by simp [renOf,Blk.live],by simp⟩ (by simp [renOf])) ?_
 intro t ht
 by_cases htl:t<S.length
 ·have hw:=wrap_in (n:=(t:Int)+1) (by omega) (by omega)
  have hr:=hrow t htl
  have hTt:=hTn t htl
  have hrs:List.replicate (t+1) [D.bool true]=List.replicate t [D.bool true]++[[D.bool true]]:=List.replicate_succ'
  simp [htl,hTt,tabF,tabD,Tb.c]
  (repeat' (first|contradiction|exact .ok|apply And.intro|intro _|(refine gc (fun h=>?_) (fun h=>?_)<;>(have h':=h;(try simp at h');first|done|simp[h,h']|simp))))
  refine acallT_plain hr (by simp [Tb.a,Tb.c]) ?_
  simp [show t≤140737488355327 from by omega,show t≤9223372036854775806 from by omega]
  (repeat' (first|contradiction|exact .ok|apply And.intro|intro _|(refine gc (fun h=>?_) (fun h=>?_)<;>(have h':=h;(try simp at h');first|done|simp[h,h']|simp))))
  refine ⟨t+1,by omega,?_,by simp; omega⟩
  exact sub_mk _ [(2,2,_),(3,3,_),(907,52,_)] ⟨by simp,by simp,by simp [renOf,Blk.live,hrs,tabF,tabD],by simp⟩ (by simp [renOf,hw])
 obtain rfl:t=S.length:=by omega
 simp
 (repeat' (first|contradiction|exact .ok|apply And.intro|intro _|(refine gc (fun h=>?_) (fun h=>?_)<;>(have h':=h;(try simp at h');first|done|simp[h,h']|simp))))
 refine aloopT mixs (by decide) (fun t:Nat=>{ s:=mkS [(2,.ptr 2 0 0),(3,.ptr 3 0 0),(7,.d (.sl (List.replicate S.length [.bool true]))),(11,.ref 911 0 0 5),(12,.d (.int .i64 t))],b:=mkB [(2,2,.var [.d (.sl (S.map Tb.c))]),(3,3,.var [.d (.sl (seqF (tabF T) S.length))]),(911,911,.arr 169 5 [] false)] }) (fun t=>t≤S.length) (fun t=>S.length - t) 0 (by simp)
  (sub_mkn 11 911 169 5 (by simp) (by simp) (by decide) (by decide) _ [(2,2,_),(3,3,_),(911,911,_)] ⟨by simp,by simp,by simp [renOf,Blk.live],by simp⟩ (by simp [renOf])) ?_
 intro t ht
 by_cases htl:t<S.length
 ·have hw:=wrap_in (n:=(t:Int)+1) (by omega) (by omega)
  have hr:=hrow t htl
  have hTt:=hTn t htl
  have htb:=ups (r9_table h htl S.length (Nat.le_refl _))
  rw [insA_seq] at htb
  simp [htl,hTt,tabF,tabD,Tb.c]
  (repeat' (first|contradiction|exact .ok|apply And.intro|intro _|(refine gc (fun h=>?_) (fun h=>?_)<;>(have h':=h;(try simp at h');first|done|simp[h,h']|simp))))
  refine acallT_plain hr (by simp [Tb.a,Tb.c]) ?_
  simp [htl]
  (repeat' (first|contradiction|exact .ok|apply And.intro|intro _|(refine gc (fun h=>?_) (fun h=>?_)<;>(have h':=h;(try simp at h');first|done|simp[h,h']|simp))))
  refine acallT_plain htb (by simp [schA,tabF,tabD]) ?_
  simp
  (repeat' (first|contradiction|exact .ok|apply And.intro|intro _|(refine gc (fun h=>?_) (fun h=>?_)<;>(have h':=h;(try simp at h');first|done|simp[h,h']|simp))))
  refine ⟨t+1,by omega,?_,by simp; omega⟩
  exact sub_mk _ [(2,2,_),(3,3,_),(911,88,_)] ⟨by simp,by simp,by simp [renOf,Blk.live,tabF,tabD],by simp⟩ (by simp [renOf,hw])
 obtain rfl:t=S.length:=by omega
 simp
 all_goals exact gz
theorem r9_valid {S:List Tb} {T:Nat→List (List V)} (h:InsF S T) (hv:Cf Es 80 [schA S] [] (.d (.int .i64 0)) []) :
  Cf Es 12 [schA S,instA (seqF T S.length)] [] (.d (.bool true)) []:=by
 refine cf_intro mixs (fn:=Tryz.f12) (by kernel_rfl) rfl (by kernel_rfl) (by decide) (by simp) ?_
 have hvi:=r9_viol h hv
 rw [insA_seq] at hvi ⊢
 simp [schA]
 (repeat' (first|contradiction|exact .ok|apply And.intro|intro _|(refine gc (fun h=>?_) (fun h=>?_)<;>(have h':=h;(try simp at h');first|done|simp[h,h']|simp))))
 refine acallT_plain hvi (by simp [schA]) ?_
 simp
 all_goals exact gz
end Go.Proofs.Tryz
