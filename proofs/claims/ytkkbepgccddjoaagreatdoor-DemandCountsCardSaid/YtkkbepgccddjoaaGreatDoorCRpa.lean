import Derived.Test.YtkkbepgccddjoaaGreatDoorCSmc
import Derived.Test.YtkkbepgccddjoaaGreatDoorCShr
import Derived.Test.YtkkbepgccddjoaaGreatDoorCSmn
set_option linter.all false
namespace Go.Proofs.Tryz
open Go.Ab
set_option maxRecDepth 100000
set_option maxHeartbeats 4000000
theorem V.beq_g {u v:V} (h:V.beq u v=false):(u.k==v.k&&(u.n==v.n&&u.t==v.t))=false:=h
@[simp] theorem aIp {E:eC} {fn:Func} {y:AV} {st:St} {b1 b2 b3:Blk}:Ab.Ends E fn 3 y [b1,b2,b3] st=BI 3 (qQ E fn st) st.b y [b1,b2,b3]:=lR (B':=[b1,b2,b3])
theorem sS {b0 b1 b2:Blk} {bl:Nat→Blk} (h0:((bl 1000000).live=true∨bl 1000000=.dead)∧(jC (aB (tR [b0,b1,b2])) bl true (bl 1000000)).1=b0)
  (h1:((bl 1000001).live=true∨bl 1000001=.dead)∧(jC (aB (tR [b0,b1,b2])) bl true (bl 1000001)).1=b1)
  (h2:((bl 1000002).live=true∨bl 1000002=.dead)∧(jC (aB (tR [b0,b1,b2])) bl true (bl 1000002)).1=b2):KeptOk 3 bl (tR [b0,b1,b2]):=by
 have:=@uY [b0,b1,b2] bl
 simp only [List.length_cons,List.length_nil,Nat.zero_add,Nat.reduceAdd] at this
 rw [this]
 intro i c hc
 match i,hc with
 | 0,hc=>cases hc; exact h0
 | 1,hc=>cases hc; exact h1
 | 2,hc=>cases hc; exact h2
theorem aFq {l:iY} {b0 b1 b2:Blk}:∀ j,j<3→∃ p∈((1000000,1000000,b0)::(1000001,1000001,b1)::(1000002,1000002,b2)::l),p.1=aC+j∧p.2.1=aC+j:=fun j hj=>by
 rcases (by omega:j=0∨j=1∨j=2) with rfl | rfl | rfl
 ·exact ⟨_,List.mem_cons_self,rfl,rfl⟩
 ·exact ⟨_,List.mem_cons_of_mem _ List.mem_cons_self,rfl,rfl⟩
 ·exact ⟨_,List.mem_cons_of_mem _ (List.mem_cons_of_mem _ List.mem_cons_self),rfl,rfl⟩
theorem VH {α:Type} {P:α→Prop} {a b c:α} (ha:P a) (hb:P b) (hc:P c):∀ x∈[a,b,c],P x:=fun x hx=>by
 rcases List.mem_cons.1 hx with rfl | hx
 ·exact ha
 ·rcases List.mem_cons.1 hx with rfl | hx
  ·exact hb
  ·rw [List.mem_singleton] at hx; subst hx; exact hc
def oR (p c:Nat) (row r:List V):Bool:=decide (p<r.length)&&(V.beq ((r[p]?).getD nulV) ((row[c]?).getD nulV)&&!(((row[c]?).getD nulV).k==0))
theorem aHR (o:Tb) (f:Fk) (p c:Nat) (hp:o.pr=[(p:Int)]) (hc:f.cols=[(c:Int)]) (row r:List V) (hcl:c<row.length) :
  Cf En 142 [.d (.sl (r.map V.c)),.ptr 1000000 0 0,.ptr 1000001 0 0,.ptr 1000002 0 0] [.var (o.c.map AV.d),.var [.d (.sl (row.map V.c))],.var (f.c.map AV.d)] (.d (.bool (oR p c row r))) [.var (o.c.map AV.d),.var [.d (.sl (row.map V.c))],.var (f.c.map AV.d)]:=by
 refine cI aW (fn:=Tryz.f142) rfl ?_
 have hip:aD o.pr=[[.int .i64 p]]:=by rw [hp]; rfl
 have hic:aD f.cols=[[.int .i64 c]]:=by rw [hc]; rfl
 obtain ⟨v,hv⟩:∃ v,v=row[c]:=⟨_,rfl⟩
 have hgv:∀ h,row[c]'h=v:=fun _=>hv.symm
 have hH:oR p c row r=(decide (p<r.length)&&(V.beq ((r[p]?).getD nulV) v&&!(v.k==0))):=by unfold oR; rw [gE hcl,← hv]; rfl
 rw [hH]
 by_cases hpl:p<r.length
 ·have hpi:(p:Int)<r.length:=by omega
  obtain ⟨w,hw⟩:∃ v,v=r[p]:=⟨_,rfl⟩
  have hgw:∀ h,r[p]'h=w:=fun _=>hw.symm
  have hg2:(r[p]?).getD nulV=w:=by rw [gE hpl,← hw]; rfl
  rw [hg2]
  cases hb:V.beq w v with
  | true =>
    rw [V.beq_iff] at hb
    subst hb
    by_cases hk:w.k=0
    ·simp [Tb.c,Fk.c,hip,hic,hpl,hpi,hgw,hgv,hcl,V.c,hk]
     (repeat' first|contradiction|exact .ok|apply And.intro|intro _|(apply gc<;>simp+contextual[hpl,hpi,hgw,hgv,hcl,V.c,hk]))
     all_goals first | (refine sS ?_ ?_ ?_ <;> simp; done) | (simp [Tb.c,Fk.c,hip,hic]; done) | skip
    ·simp [Tb.c,Fk.c,hip,hic,hpl,hpi,hgw,hgv,hcl,V.c,hk]
     (repeat' first|contradiction|exact .ok|apply And.intro|intro _|(apply gc<;>simp+contextual[hpl,hpi,hgw,hgv,hcl,V.c,hk]))
     all_goals first | (refine sS ?_ ?_ ?_ <;> simp; done) | (simp [Tb.c,Fk.c,hip,hic]; done) | skip
  | false =>
    have hne:=V.beq_g hb
    simp [Tb.c,Fk.c,hip,hic,hpl,hpi,hgw,hgv,hcl,V.c,hne]
    (repeat' first|contradiction|exact .ok|apply And.intro|intro _|(apply gc<;>simp+contextual[hpl,hpi,hgw,hgv,hcl,V.c,hne]))
    all_goals first | (refine sS ?_ ?_ ?_ <;> simp; done) | (simp [Tb.c,Fk.c,hip,hic]; done) | skip
 ·have hpi:¬ (p:Int)<r.length:=by omega
  simp [Tb.c,Fk.c,hip,hic,hpl,hpi]
  (repeat' first|contradiction|exact .ok|apply And.intro|intro _|(apply gc<;>simp+contextual[hpl,hpi]))
  all_goals first | (refine sS ?_ ?_ ?_ <;> simp; done) | (simp [Tb.c,Fk.c,hip,hic]; done) | skip
def KB (p c:Nat) (rows:List (List V)) (row:List V):Int:=if c<row.length then aV (oR p c row) rows 0 else -1
theorem aGn (o:Tb) (f:Fk) (p c:Nat) (hp:o.pr=[(p:Int)]) (hc:f.cols=[(c:Int)]) (row:List V) (rows:List (List V)) (hcl:c<row.length) (hl:rows.length≤1000) :
  Cf En 141 [.d (.sl (rows.map gO)),.clo 142 [.ptr 1000000 0 0,.ptr 1000001 0 0,.ptr 1000002 0 0]] [.var (o.c.map AV.d),.var [.d (.sl (row.map V.c))],.var (f.c.map AV.d)] (.d (.int .i64 (aV (oR p c row) rows 0))) [.var (o.c.map AV.d),.var [.d (.sl (row.map V.c))],.var (f.c.map AV.d)]:=by
 refine cI aW (fn:=Tryz.f141) rfl ?_
 simp
 (repeat' first|contradiction|exact .ok|apply And.intro|intro _|(apply gc<;>simp+contextual))
 refine aL aW (fun i:Nat=>{ s:=cE [(0,.d (.sl (rows.map gO))),(1,.clo 142 [.ptr 1000000 0 0,.ptr 1000001 0 0,.ptr 1000002 0 0]),(7,.d (.int .i64 rows.length)),(8,.d (.int .i64 i))],b:=cC [(1000000,1000000,.var (o.c.map AV.d)),(1000001,1000001,.var [.d (.sl (row.map V.c))]),(1000002,1000002,.var (f.c.map AV.d))] }) (fun i=>i≤rows.length∧aV (oR p c row) (rows.drop i) i=aV (oR p c row) rows 0) (fun i=>rows.length - i) 0 (by simp)
  (aI _ [(1000000,1000000,_),(1000001,1000001,_),(1000002,1000002,_)] ⟨by simp,by simp,by refine VH ?_ ?_ ?_ <;> simp [Blk.live,Tb.c,Fk.c],aFq⟩ (by simp [aB])) ?_
 rintro i ⟨hi,hf⟩
 by_cases hlt:i<rows.length
 ·rw [dM hlt] at hf
  obtain ⟨r,hr⟩:∃ u,u=rows[i]:=⟨_,rfl⟩
  have hgi:∀ h,rows[i]'h=r:=fun _=>hr.symm
  rw [← hr] at hf
  have hh:=aHR o f p c hp hc row r hcl
  generalize oR p c row r=B at *
  have hw:=wI (n:=(i:Int)+1)
  simp [hlt,hgi,gO]
  (repeat' first|contradiction|exact .ok|apply And.intro|intro _|(apply gc<;>simp+contextual))
  refine aH [1000000,1000001,1000002] hh (by simp [Tb.c,Fk.c]) (by simp [fF]) ?_
  cases B with
  | false =>
    simp
    (repeat' first|contradiction|exact .ok|apply And.intro|intro _|(apply gc<;>simp+contextual))
    refine ⟨i+1,⟨by omega,by simpa using hf⟩,?_,by simp; omega⟩
    exact aI _ [(1000000,1000000,_),(1000001,1000001,_),(1000002,1000002,_)] ⟨by simp,by simp,by refine VH ?_ ?_ ?_ <;> simp [Blk.live,Tb.c,Fk.c],aFq⟩ (by simp [aB,hw])
  | true =>
    simp only [if_true] at hf
    simp [← hf]
    (repeat' first|contradiction|exact .ok|apply And.intro|intro _|(apply gc<;>simp+contextual))
    all_goals first | (refine sS ?_ ?_ ?_ <;> simp [Tb.c,Fk.c]; done) | (simp [Tb.c,Fk.c]; done) | skip
 obtain rfl:i=rows.length:=by omega
 rw [List.drop_length,aV] at hf
 simp [← hf]
 (repeat' first|contradiction|exact .ok|apply And.intro|intro _|(apply gc<;>simp+contextual))
 all_goals first | (refine sS ?_ ?_ ?_ <;> simp [Tb.c,Fk.c]; done) | (simp [Tb.c,Fk.c]; done) | skip
def aBw (z:Int):AV:=.tup [.d (.int .i64 (max z 0)),.d (.bool (decide (0≤z)))]
theorem aGo (o:Tb) (f:Fk) (p c:Nat) (hp:o.pr=[(p:Int)]) (hc:f.cols=[(c:Int)]) (row:List V) (rows:List (List V)) (hl:rows.length≤1000) :
  Cf En 94 [o.a,.d (.sl (rows.map gO)),f.a,.d (.sl (row.map V.c))] [] (aBw (KB p c rows row)) []:=by
 refine cI aW (fn:=Tryz.f94) rfl ?_
 have hip:aD o.pr=[[.int .i64 p]]:=by rw [hp]; rfl
 have hic:aD f.cols=[[.int .i64 c]]:=by rw [hc]; rfl
 have l1:o.pr.length=1:=by rw [hp]; rfl
 have l2:f.cols.length=1:=by rw [hc]; rfl
 have n1:¬ (p:Int)<0:=by omega
 have n2:¬ (c:Int)<0:=by omega
 unfold KB aBw
 by_cases hcl:c<row.length
 ·have hci:¬ (row.length:Int)≤c:=by omega
  have hh:=aGn o f p c hp hc row rows hcl hl
  rw [if_pos hcl]
  generalize aV (oR p c row) rows 0=F at *
  simp [Tb.a,Tb.c,Fk.a,Fk.c,hip,hic,n1,n2,hci]
  (repeat' first|contradiction|exact .ok|apply And.intro|intro _|(apply gc<;>simp+contextual[hip,hic,l1,l2,n1,n2,hci,hcl,Tb.c,Fk.c]))
  refine aH [4,7,6] hh (by simp [Tb.c,Fk.c,hip,hic]) (by simp [fF]) ?_
  simp
  (repeat' first|contradiction|exact .ok|apply And.intro|intro _|(apply gc<;>simp+contextual))
  all_goals (split <;> omega)
 ·have hci:(row.length:Int)≤c:=by omega
  rw [if_neg hcl]
  simp [Tb.a,Tb.c,Fk.a,Fk.c,hip,hic,n2,hci]
  (repeat' first|contradiction|exact .ok|apply And.intro|intro _|(apply gc<;>simp+contextual[hip,hic,l1,l2,n1,n2,hci,hcl,Tb.c,Fk.c]))
  all_goals omega
theorem aEI (w v:V):(w.cmp v==0)=V.beq w v:=by
 rw [Bool.eq_iff_iff,V.beq_iff,beq_iff_eq]
 exact ⟨V.cmp_eq,fun h=>by subst h; exact V.cmp_self w⟩
def ZD (to:Nat) (z:Int):AV:=if 0≤z then .tup [.d (.int .i64 to),.d (.int .i64 z),.d (.bool true)] else .tup [.d (.int .i64 0),.d (.int .i64 0),.d (.bool false)]
theorem aCl (S:List Tb) (h:iP S) (I:List (List (List V))) (hI:∀ t∈I,t.length≤1000) (k f to:Nat) (x o:Tb) (g:Fk) (hk:k<S.length) (hx:S[k]=x) (hf:f<x.fk.length) (hg:x.fk[f]=g)
  (hto:tgt S g=to) (ho:(htl:to<S.length)→S[to]=o) (row:List V) (hrow:row.length≤9223372036854775807) :
  Cf En 62 [aN S,dT I,.d (.int .i64 k),.d (.int .i64 f),.d (.sl (row.map V.c))] [] (ZD to (if to<I.length then KB (eA o.pr).toNat (eA g.cols).toNat ((I[to]?).getD []) row else -1)) []:=by
 refine cI aW (fn:=Tryz.f62) rfl ?_
 have hl:=h.ok.len
 have htl:to<S.length:=by
  have:=qB (p:=fun y:Tb=>y.n==g.t) (l:=S) (i:=0)
  have h2:aV (fun y:Tb=>y.n==g.t) S 0=to:=hto
  rw [h2] at this
  simp at this
  exact this
 have ho':=ho htl
 have hgo:∀ h,S[to]'h=o:=fun _=>ho'
 have hgx:∀ h,S[k]'h=x:=fun _=>hx
 have hgg:∀ h,x.fk[f]'h=g:=fun _=>hg
 have hxm:x∈S:=by rw [← hx]; exact List.getElem_mem hk
 have hom:o∈S:=by rw [← ho']; exact List.getElem_mem htl
 have hgm:g∈x.fk:=by rw [← hg]; exact List.getElem_mem hf
 obtain ⟨p1,p2,p3⟩:=h.pr o hom
 obtain ⟨g1,g2,g3⟩:=(h.fk x hxm).2 g hgm
 obtain ⟨p,hp⟩:∃ p:Nat,eA o.pr=p:=⟨(eA o.pr).toNat,by omega⟩
 obtain ⟨c,hc⟩:∃ p:Nat,eA g.cols=p:=⟨(eA g.cols).toNat,by omega⟩
 have hip:aD o.pr=[[.int .i64 p]]:=by
  obtain ⟨q,hq⟩:=jM p1
  rw [hq] at hp ⊢
  have:q=p:=hp
  rw [this]; rfl
 have hic:aD g.cols=[[.int .i64 c]]:=by
  obtain ⟨q,hq⟩:=jM g1
  rw [hq] at hc ⊢
  have:q=c:=hc
  rw [this]; rfl
 rw [hp,hc,Int.toNat_natCast,Int.toNat_natCast]
 simp [aN,dT]
 (repeat' first|contradiction|exact .ok|apply And.intro|intro _|(apply gc<;>simp+contextual))
 refine aA (gH S hl h.ok.ok hk hx hf hg) (by simp [aN]) ?_
 rw [cN (show aV (fun y:Tb=>y.n==g.t) S 0=to from hto)]
 by_cases htI:to<I.length
 rotate_left
 ·have hti:(I.length:Int)≤to:=by omega
  rw [if_neg htI]
  simp [ZD,hti]
  (repeat' first|contradiction|exact .ok|apply And.intro|intro _|(apply gc<;>simp+contextual[hti]))
 have hti:¬ (I.length:Int)≤to:=by omega
 obtain ⟨rows,hr⟩:∃ r,r=I[to]:=⟨_,rfl⟩
 have hgr:∀ h,I[to]'h=rows:=fun _=>hr.symm
 have hrl:rows.length≤1000:=hI rows (by rw [hr]; exact List.getElem_mem htI)
 rw [if_pos htI,gE htI,← hr,Option.getD_some]
 unfold KB
 simp [hti,hk,hgx,hf,hgg,htl,hgo,Tb.c,Fk.c,hip,hic]
 (repeat' first|contradiction|exact .ok|apply And.intro|intro _|(apply gc<;>simp+contextual[hti]))
 refine aL aW (fun j:Nat=>{ s:=cE [(4,.d (.sl (row.map V.c))),(6,.ptr 6 0 0),(13,.d (.int .i64 to)),(15,.d (.int .i64 c)),(16,.d (.int .i64 p)),(17,.d (.int .i64 j))],b:=cC [(6,6,.var [.d (.sl (I.map fY))])] })
  (fun j=>j≤rows.length∧(c<row.length→aV (oR p c row) (rows.drop j) j=aV (oR p c row) rows 0)) (fun j=>rows.length - j) 0 ⟨by simp,fun _=>rfl⟩
  (sM _ [(6,6,_)] (by simp [aB,Blk.live]) (by simp [aB])) ?_
 rintro j ⟨hj,hf2⟩
 by_cases hjl:j<rows.length
 ·have hji:(j:Int)<rows.length:=by omega
  by_cases hcl:c<row.length
  rotate_left
  ·rw [if_neg hcl]
   have hci:¬ (c:Int)<row.length:=by omega
   simp [htI,hgr,fY,hjl,hji,hci]
   (repeat' first|contradiction|exact .ok|apply And.intro|intro _|(apply gc<;>simp+contextual[hji,hci]))
   simp [ZD]
   all_goals exact gz
  have hci:(c:Int)<row.length:=by omega
  replace hf2:=hf2 hcl
  rw [if_pos hcl]
  rw [dM hjl] at hf2
  obtain ⟨r,hrr⟩:∃ u,u=rows[j]:=⟨_,rfl⟩
  have hgj:∀ h,rows[j]'h=r:=fun _=>hrr.symm
  rw [← hrr] at hf2
  have hw:=wI (n:=(j:Int)+1)
  obtain ⟨v,hv⟩:∃ v,v=row[c]:=⟨_,rfl⟩
  have hgv:∀ h,row[c]'h=v:=fun _=>hv.symm
  have hH:oR p c row r=(decide (p<r.length)&&(V.beq ((r[p]?).getD nulV) v&&!(v.k==0))):=by unfold oR; rw [gE hcl,← hv]; rfl
  rw [hH] at hf2
  have hno:(decide (p<r.length)&&(V.beq ((r[p]?).getD nulV) v&&!(v.k==0)))=false→aV (oR p c row) (rows.drop (j+1)) (j+1)=aV (oR p c row) rows 0:=fun e=>by
   rw [e] at hf2
   simpa using hf2
  by_cases hpl:p<r.length
  rotate_left
  ·have hpi:¬ (p:Int)<r.length:=by omega
   simp [htI,hgr,fY,hjl,hji,hci,gO,hgj,hpi]
   (repeat' first|contradiction|exact .ok|apply And.intro|intro _|(apply gc<;>simp+contextual[hji,hci,hpi]))
   refine ⟨j+1,⟨by omega,fun _=>hno (by simp [hpl])⟩,?_,by simp; omega⟩
   exact sM _ [(6,6,_)] (by simp [aB,Blk.live]) (by simp [aB,hw])
  have hpi:(p:Int)<r.length:=by omega
  obtain ⟨w,hw2⟩:∃ v,v=r[p]:=⟨_,rfl⟩
  have hgw:∀ h,r[p]'h=w:=fun _=>hw2.symm
  have hg2:(r[p]?).getD nulV=w:=by rw [gE hpl,← hw2]; rfl
  rw [hg2] at hf2 hno
  by_cases hk0:v.k=0
  ·simp [htI,hgr,fY,hjl,hji,hcl,hci,gO,hgj,hpi,hgv,V.c,hk0]
   (repeat' first|contradiction|exact .ok|apply And.intro|intro _|(apply gc<;>simp+contextual[hji,hci,hpi,hk0]))
   refine ⟨j+1,⟨by omega,fun _=>hno (by simp [hk0])⟩,?_,by simp; omega⟩
   exact sM _ [(6,6,_)] (by simp [aB,Blk.live]) (by simp [aB,hw])
  have hs:=TX w v
  rw [aEI] at hs
  simp [htI,hgr,fY,hjl,hji,hcl,hci,gO,hgj,hpl,hpi,hgv,hgw,V.c,hk0]
  (repeat' first|contradiction|exact .ok|apply And.intro|intro _|(apply gc<;>simp+contextual[hji,hci,hpi,hk0]))
  refine aA hs (by simp [V.a]) ?_
  cases hb:V.beq w v with
  | false =>
    simp
    (repeat' first|contradiction|exact .ok|apply And.intro|intro _|(apply gc<;>simp+contextual))
    refine ⟨j+1,⟨by omega,fun _=>hno (by simp [hb])⟩,?_,by simp; omega⟩
    exact sM _ [(6,6,_)] (by simp [aB,Blk.live]) (by simp [aB,hw])
  | true =>
    have hfi:aV (oR p c row) rows 0=j:=by
     rw [hb] at hf2
     have hk1:(v.k==0)=false:=by simpa using hk0
     rw [hk1] at hf2
     simp [hpl] at hf2
     exact hf2.symm
    rw [hfi]
    simp [ZD]
    all_goals exact gz
 ·obtain rfl:j=rows.length:=by omega
  have hz:(if c<row.length then aV (oR p c row) rows 0 else -1)=-1:=by
   split
   ·rename_i hcl
    rw [← hf2 hcl,List.drop_length,aV]
   ·rfl
  rw [hz]
  simp [htI,hgr,fY]
  (repeat' first|contradiction|exact .ok|apply And.intro|intro _|(apply gc<;>simp+contextual))
  simp [ZD]
  all_goals exact gz
end Go.Proofs.Tryz
