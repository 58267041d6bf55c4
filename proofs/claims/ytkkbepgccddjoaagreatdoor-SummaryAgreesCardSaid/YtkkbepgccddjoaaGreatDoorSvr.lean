import Derived.Test.YtkkbepgccddjoaaGreatDoorStb
set_option linter.all false
namespace Go.Proofs.Tryz
open Go.Ab
set_option maxRecDepth 100000
set_option maxHeartbeats 4000000
@[simp] theorem ends_b2 {E:Env} {fn:Func} {y:AV} {st:St} {b1 b2:Blk}:Ab.Ends E fn 2 y [b1,b2] st=aendH 2 (resV E fn st) st.b y [b1,b2]:=ends_hand (B':=[b1,b2])
theorem kept_b2 {b0 b1:Blk} {bl:Nat→Blk}:KeptOk 2 bl (idK [b0,b1]) =
  ((((bl 1000000).live=true∨bl 1000000=.dead)∧(cvB (renOf (idK [b0,b1])) bl true (bl 1000000)).1=b0) ∧
  (((bl 1000001).live=true∨bl 1000001=.dead)∧(cvB (renOf (idK [b0,b1])) bl true (bl 1000001)).1=b1)):=by
 have:=@kept_idK [b0,b1] bl
 simp only [List.length_cons,List.length_nil,Nat.zero_add,Nat.reduceAdd] at this
 rw [this]
 apply propext
 constructor
 ·intro h; exact ⟨h 0 b0 rfl,h 1 b1 rfl⟩
 ·rintro ⟨h0,h1⟩ i c hc
  match i,hc with
  | 0,hc=>cases hc; exact h0
  | 1,hc=>cases hc; exact h1
theorem forall2 {α:Type} {P:α→Prop} {a b:α} (ha:P a) (hb:P b):∀ x∈[a,b],P x:=fun x hx=>by
 rcases List.mem_cons.1 hx with rfl | hx
 ·exact ha
 ·rw [List.mem_singleton] at hx; subst hx; exact hb
theorem base2 {l:Kept} {b0 b1:Blk}:∀ j,j<2→∃ p∈((1000000,1000000,b0)::(1000001,1000001,b1)::l),p.1=firstName+j∧p.2.1=firstName+j:=fun j hj=>by
 rcases (by omega:j=0∨j=1) with rfl | rfl
 ·exact ⟨_,List.mem_cons_self,rfl,rfl⟩
 ·exact ⟨_,List.mem_cons_of_mem _ List.mem_cons_self,rfl,rfl⟩
theorem typT_at {x:Tb} {k:Nat} {u:Col} (hk:k<x.cols.length) (hu:x.cols[k]=u):typT x k=u.t:=by
 unfold typT; rw [Int.toNat_natCast,List.getElem?_eq_getElem hk,hu]; rfl
theorem s_ref1 (x o:Tb) (a b:Int) (ha:0≤a∧a<x.cols.length) (hb:0≤b∧b<o.cols.length) :
  Cf En 212 [.d (.int .i64 a),.d (.int .i64 b),.ptr 1000000 0 0,.ptr 1000001 0 0] [.var (x.c.map AV.d),.var (o.c.map AV.d)] (.d (.bool (typT x a==typT o b))) [.var (x.c.map AV.d),.var (o.c.map AV.d)]:=by
 refine cf_intro mix (fn:=Tryz.f212) (by kernel_rfl) rfl (by kernel_rfl) (by decide) (by simp) ?_
 obtain ⟨k,rfl⟩:∃ k:Nat,a=k:=⟨a.toNat,by omega⟩
 obtain ⟨m,rfl⟩:∃ k:Nat,b=k:=⟨b.toNat,by omega⟩
 have hk:k<x.cols.length:=by omega
 have hm:m<o.cols.length:=by omega
 obtain ⟨u,hu⟩:∃ u,u=x.cols[k]:=⟨_,rfl⟩
 obtain ⟨v,hv⟩:∃ u,u=o.cols[m]:=⟨_,rfl⟩
 have hgi:∀ h,x.cols[k]'h=u:=fun _=>hu.symm
 have hgm:∀ h,o.cols[m]'h=v:=fun _=>hv.symm
 rw [typT_at hk hu.symm,typT_at hm hv.symm]
 simp [Tb.c,hk,hm,hgi,hgm,Col.c]
 (repeat' (first|contradiction|exact .ok|apply And.intro|intro _|(refine gc (fun h=>?_) (fun h=>?_)<;>(have h':=h;(try simp at h');first|done|simp[h,h']|simp))))
 all_goals first | (rw [kept_b2]; refine ⟨?_,?_⟩ <;> simp [Tb.c]) | (simp [Tb.c]; done) | skip
theorem s_equalF (x o:Tb) (a b:List Int) (hal:a.length≤1000) (ha:∀ k∈a,0≤k∧k<x.cols.length) (hb:∀ k∈b,0≤k∧k<o.cols.length) (hbl:b.length≤1000) :
  Cf En 211 [.d (.sl (ints a)),.d (.sl (ints b)),.clo 212 [.ptr 1000000 0 0,.ptr 1000001 0 0]] [.var (x.c.map AV.d),.var (o.c.map AV.d)] (.d (.bool (pairE x o a b))) [.var (x.c.map AV.d),.var (o.c.map AV.d)]:=by
 refine cf_intro mix (fn:=Tryz.f211) (by kernel_rfl) rfl (by kernel_rfl) (by decide) (by simp) ?_
 by_cases hl:a.length=b.length
 rotate_left
 ·have hP:pairE x o a b=false:=by unfold pairE; simp [hl]
  have hl':¬ (a.length:Int)=b.length:=by omega
  rw [hP]
  simp [hl,hl']
  (repeat' (first|contradiction|exact .ok|apply And.intro|intro _|(refine gc (fun h=>?_) (fun h=>?_)<;>(have h':=h;(try simp at h');first|done|simp[h,h',hl,hl']|simp[hl,hl']))))
  all_goals first | (rw [kept_b2]; refine ⟨?_,?_⟩ <;> simp [Tb.c]) | (simp [Tb.c]; done) | skip
 simp [hl]
 (repeat' (first|contradiction|exact .ok|apply And.intro|intro _|(refine gc (fun h=>?_) (fun h=>?_)<;>(have h':=h;(try simp at h');first|done|simp[h,h']|simp))))
 have hzl:(a.zip b).length=b.length:=by simp [hl]
 have hPz:pairE x o a b=(a.zip b).all fun p=>typT x p.1==typT o p.2:=by unfold pairE; simp [hl]
 rw [hPz]
 clear hPz
 refine aloopT mix (by decide) (fun i:Nat=>{ s:=mkS [(1,.d (.sl (ints b))),(2,.clo 212 [.ptr 1000000 0 0,.ptr 1000001 0 0]),(15,.d (.sl (ints a))),(16,.d (.int .i64 b.length)),(17,.d (.int .i64 i))],b:=mkB [(1000000,1000000,.var (x.c.map AV.d)),(1000001,1000001,.var (o.c.map AV.d))] }) (fun i=>i≤b.length∧((a.zip b).drop i).all (fun p=>typT x p.1==typT o p.2)=(a.zip b).all (fun p=>typT x p.1==typT o p.2)) (fun i=>b.length - i) 0 (by simp)
  (sub_mk _ [(1000000,1000000,_),(1000001,1000001,_)] ⟨by simp,by simp,by refine forall2 ?_ ?_ <;> simp [renOf,Blk.live,Tb.c],base2⟩ (by simp [renOf,hl])) ?_
 rintro i ⟨hi,hf⟩
 by_cases hlt:i<b.length
 ·have hla:i<a.length:=by omega
  have hw:=wrap_in (n:=(i:Int)+1) (by omega) (by omega)
  have hga:=ints_get hla
  have hgb:=ints_get hlt
  obtain ⟨u,hu⟩:∃ u,u=a[i]:=⟨_,rfl⟩
  obtain ⟨v,hv⟩:∃ u,u=b[i]:=⟨_,rfl⟩
  have hgi:∀ h,a[i]'h=u:=fun _=>hu.symm
  have hgm:∀ h,b[i]'h=v:=fun _=>hv.symm
  rw [← hu] at hga
  rw [← hv] at hgb
  rw [List.drop_eq_getElem_cons (by rw [hzl]; exact hlt),List.all_cons,List.getElem_zip,← hu,← hv] at hf
  simp [hlt,hla,hga,hgb,hgi,hgm]
  (repeat' (first|contradiction|exact .ok|apply And.intro|intro _|(refine gc (fun h=>?_) (fun h=>?_)<;>(have h':=h;(try simp at h');first|done|simp[h,h']|simp))))
  refine acallT_hand [1000000,1000001] (s_ref1 x o u v (ha u (by rw [hu]; exact List.getElem_mem hla)) (hb v (by rw [hv]; exact List.getElem_mem hlt))) (by simp) (by simp) (by simp) (by simp [Tb.c]) (by simp [fwdR_cons]) ?_
  cases he:typT x u==typT o v with
  | true =>
    rw [he,Bool.true_and] at hf
    simp [he]
    (repeat' (first|contradiction|exact .ok|apply And.intro|intro _|(refine gc (fun h=>?_) (fun h=>?_)<;>(have h':=h;(try simp at h');first|done|simp[h,h',he]|simp[he]))))
    refine ⟨i+1,⟨by omega,hf⟩,?_,by simp; omega⟩
    exact sub_mk _ [(1000000,1000000,_),(1000001,1000001,_)] ⟨by simp,by simp,by refine forall2 ?_ ?_ <;> simp [renOf,Blk.live,Tb.c],base2⟩ (by simp [renOf,hw])
  | false =>
    rw [he,Bool.false_and] at hf
    rw [← hf]
    simp [he,Tb.c]
    (repeat' (first|contradiction|exact .ok|apply And.intro|intro _|(refine gc (fun h=>?_) (fun h=>?_)<;>(have h':=h;(try simp at h');first|done|simp[h,h',he]|simp[he]))))
    all_goals first | (rw [kept_b2]; refine ⟨?_,?_⟩ <;> simp [Tb.c]) | (simp [Tb.c]; done) | skip
 obtain rfl:i=b.length:=by omega
 rw [List.drop_of_length_le (by omega),List.all_nil] at hf
 rw [← hf]
 simp [Tb.c]
 (repeat' (first|contradiction|exact .ok|apply And.intro|intro _|(refine gc (fun h=>?_) (fun h=>?_)<;>(have h':=h;(try simp at h');first|done|simp[h,h']|simp))))
 all_goals first | (rw [kept_b2]; refine ⟨?_,?_⟩ <;> simp [Tb.c]) | (simp [Tb.c]; done) | skip
theorem s_reference (S:List Tb) (hl:S.length≤1000) (hS:∀ x∈S,x.ok) (hK:∀ x∈S,keysE x=0) (x:Tb) (hx:x∈S) (f:Fk) (hf:f∈x.fk) :
  Cf En 159 [schA S,x.a,f.a] [] (.d (.int .i64 (refE S x f))) []:=by
 refine cf_intro mix (fn:=Tryz.f159) (by kernel_rfl) rfl (by kernel_rfl) (by decide) (by simp) ?_
 simp [schA,Tb.a,Tb.c,Fk.a,Fk.c]
 (repeat' (first|contradiction|exact .ok|apply And.intro|intro _|(refine gc (fun h=>?_) (fun h=>?_)<;>(have h':=h;(try simp at h');first|done|simp[h,h']|simp))))
 refine acallT_plain (s_find S hl f.t) (by simp [schA]) ?_
 by_cases hz:0≤tgt S f
 ·obtain ⟨k,hk⟩:∃ k:Nat,tgt S f=k:=⟨(tgt S f).toNat,by omega⟩
  have hkl:k<S.length:=by
   have:=fidx_ub (p:=fun x:Tb=>x.n==f.t) (l:=S) (i:=0)
   have h2:fidx (fun x:Tb=>x.n==f.t) S 0=k:=hk
   rw [h2] at this
   simp at this
   exact this
  obtain ⟨o,ho⟩:∃ o,o=S[k]:=⟨_,rfl⟩
  have hgi:∀ h,S[k]'h=o:=fun _=>ho.symm
  have hom:o∈S:=by rw [ho]; exact List.getElem_mem hkl
  have hR:refE S x f=if pairE x o f.cols o.pr=true then 0 else 6:=by
   unfold refE
   rw [hk,Int.toNat_natCast,List.getElem?_eq_getElem hkl,← ho]
   simp only
   rw [if_neg (by omega)]
  rw [hR,place_at (show fidx (fun x:Tb=>x.n==f.t) S 0=k from hk)]
  simp [hkl,hgi,Tb.c]
  (repeat' (first|contradiction|exact .ok|apply And.intro|intro _|(refine gc (fun h=>?_) (fun h=>?_)<;>(have h':=h;(try simp at h');first|done|simp[h,h']|simp))))
  refine acallT_hand [4,9] (s_equalF x o f.cols o.pr ((hS x hx).fkc f hf) ((keysE_ok (hK x hx)).2 f hf) ((keysE_ok (hK o hom)).1) (hS o hom).pr) (by simp) (by simp) (by simp) (by simp [Tb.c]) (by simp [fwdR_cons]) ?_
  cases hp:pairE x o f.cols o.pr <;> simp [hp]
  all_goals (repeat' (first | contradiction | exact .of (by kernel_rfl) | refine And.intro ?_ ?_ | intro _ | (refine agrd_cases (fun h=>?_) (fun h=>?_) <;> (have h':=h; (try simp at h'); first | done | simp [h,h',hp] | simp [hp]))))
 ·have hR:refE S x f=11:=by
   unfold refE
   split
   ·rw [if_pos (by omega)]
   ·rfl
  rw [hR,place_no (fidx_neg hz)]
  simp
  all_goals exact gz
end Go.Proofs.Tryz
