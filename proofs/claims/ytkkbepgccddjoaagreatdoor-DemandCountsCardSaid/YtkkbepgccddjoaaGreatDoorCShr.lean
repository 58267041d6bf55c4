import Derived.Test.YtkkbepgccddjoaaGreatDoorStb
import Derived.Test.YtkkbepgccddjoaaGreatDoorCSty
import Derived.Test.YtkkbepgccddjoaaGreatDoorCKys
set_option linter.all false
namespace Go.Proofs.Tryz
open Go.Ab
set_option maxRecDepth 100000
set_option maxHeartbeats 4000000
@[simp] theorem aIt {E:eC} {fn:Func} {y:AV} {st:St} {b1 b2:Blk}:Ab.Ends E fn 2 y [b1,b2] st=BI 2 (qQ E fn st) st.b y [b1,b2]:=lR (B':=[b1,b2])
theorem lO {b0 b1:Blk} {bl:Nat→Blk}:KeptOk 2 bl (tR [b0,b1]) =
  ((((bl 1000000).live=true∨bl 1000000=.dead)∧(jC (aB (tR [b0,b1])) bl true (bl 1000000)).1=b0) ∧
  (((bl 1000001).live=true∨bl 1000001=.dead)∧(jC (aB (tR [b0,b1])) bl true (bl 1000001)).1=b1)):=by
 have:=@uY [b0,b1] bl
 simp only [List.length_cons,List.length_nil,Nat.zero_add,Nat.reduceAdd] at this
 rw [this]
 apply propext
 constructor
 ·intro h; exact ⟨h 0 b0 rfl,h 1 b1 rfl⟩
 ·rintro ⟨h0,h1⟩ i c hc
  match i,hc with
  | 0,hc=>cases hc; exact h0
  | 1,hc=>cases hc; exact h1
theorem AK {α:Type} {P:α→Prop} {a b:α} (ha:P a) (hb:P b):∀ x∈[a,b],P x:=fun x hx=>by
 rcases List.mem_cons.1 hx with rfl | hx
 ·exact ha
 ·rw [List.mem_singleton] at hx; subst hx; exact hb
theorem WJ {l:iY} {b0 b1:Blk}:∀ j,j<2→∃ p∈((1000000,1000000,b0)::(1000001,1000001,b1)::l),p.1=aC+j∧p.2.1=aC+j:=fun j hj=>by
 rcases (by omega:j=0∨j=1) with rfl | rfl
 ·exact ⟨_,List.mem_cons_self,rfl,rfl⟩
 ·exact ⟨_,List.mem_cons_of_mem _ List.mem_cons_self,rfl,rfl⟩
theorem nP {x:Tb} {k:Nat} {u:Col} (hk:k<x.cols.length) (hu:x.cols[k]=u):dO x k=u.t:=by
 unfold dO; rw [Int.toNat_natCast,gE hk,hu]; rfl
theorem aGS (x o:Tb) (a b:Int) (ha:0≤a∧a<x.cols.length) (hb:0≤b∧b<o.cols.length) :
  Cf En 212 [.d (.int .i64 a),.d (.int .i64 b),.ptr 1000000 0 0,.ptr 1000001 0 0] [.var (x.c.map AV.d),.var (o.c.map AV.d)] (.d (.bool (dO x a==dO o b))) [.var (x.c.map AV.d),.var (o.c.map AV.d)]:=by
 refine cI aW (fn:=Tryz.f212) rfl ?_
 obtain ⟨k,rfl⟩:∃ k:Nat,a=k:=⟨a.toNat,by omega⟩
 obtain ⟨m,rfl⟩:∃ k:Nat,b=k:=⟨b.toNat,by omega⟩
 have hk:k<x.cols.length:=by omega
 have hm:m<o.cols.length:=by omega
 obtain ⟨u,hu⟩:∃ u,u=x.cols[k]:=⟨_,rfl⟩
 obtain ⟨v,hv⟩:∃ u,u=o.cols[m]:=⟨_,rfl⟩
 have hgi:∀ h,x.cols[k]'h=u:=fun _=>hu.symm
 have hgm:∀ h,o.cols[m]'h=v:=fun _=>hv.symm
 rw [nP hk hu.symm,nP hm hv.symm]
 simp [Tb.c,hk,hm,hgi,hgm,Col.c]
 (repeat' first|contradiction|exact .ok|apply And.intro|intro _|(apply gc<;>simp+contextual))
 all_goals first | (rw [lO]; refine ⟨?_,?_⟩ <;> simp) | (simp [Tb.c]; done) | skip
theorem aCR (x o:Tb) (a b:List Int) (hal:a.length≤1000) (ha:∀ k∈a,0≤k∧k<x.cols.length) (hb:∀ k∈b,0≤k∧k<o.cols.length) (hbl:b.length≤1000) :
  Cf En 211 [.d (.sl (aD a)),.d (.sl (aD b)),.clo 212 [.ptr 1000000 0 0,.ptr 1000001 0 0]] [.var (x.c.map AV.d),.var (o.c.map AV.d)] (.d (.bool (mT x o a b))) [.var (x.c.map AV.d),.var (o.c.map AV.d)]:=by
 refine cI aW (fn:=Tryz.f211) rfl ?_
 by_cases hl:a.length=b.length
 rotate_left
 ·have hP:mT x o a b=false:=by unfold mT; simp [hl]
  have hl':¬ (a.length:Int)=b.length:=by omega
  rw [hP]
  simp [hl']
  (repeat' first|contradiction|exact .ok|apply And.intro|intro _|(apply gc<;>simp+contextual[hl,hl']))
  all_goals first | (rw [lO]; refine ⟨?_,?_⟩ <;> simp [Tb.c]) | (simp [Tb.c]; done) | skip
 simp [hl]
 (repeat' first|contradiction|exact .ok|apply And.intro|intro _|(apply gc<;>simp+contextual))
 have hzl:(a.zip b).length=b.length:=by simp [hl]
 have hPz:mT x o a b=(a.zip b).all fun p=>dO x p.1==dO o p.2:=by unfold mT; simp [hl]
 rw [hPz]
 clear hPz
 refine aL aW (fun i:Nat=>{ s:=cE [(1,.d (.sl (aD b))),(2,.clo 212 [.ptr 1000000 0 0,.ptr 1000001 0 0]),(15,.d (.sl (aD a))),(16,.d (.int .i64 b.length)),(17,.d (.int .i64 i))],b:=cC [(1000000,1000000,.var (x.c.map AV.d)),(1000001,1000001,.var (o.c.map AV.d))] }) (fun i=>i≤b.length∧((a.zip b).drop i).all (fun p=>dO x p.1==dO o p.2)=(a.zip b).all (fun p=>dO x p.1==dO o p.2)) (fun i=>b.length - i) 0 (by simp)
  (aI _ [(1000000,1000000,_),(1000001,1000001,_)] ⟨by simp,by simp,by refine AK ?_ ?_ <;> simp [Blk.live,Tb.c],WJ⟩ (by simp [aB])) ?_
 rintro i ⟨hi,hf⟩
 by_cases hlt:i<b.length
 ·have hla:i<a.length:=by omega
  have hw:=wI (n:=(i:Int)+1)
  have hga:=eE hla
  have hgb:=eE hlt
  obtain ⟨u,hu⟩:∃ u,u=a[i]:=⟨_,rfl⟩
  obtain ⟨v,hv⟩:∃ u,u=b[i]:=⟨_,rfl⟩
  have hgi:∀ h,a[i]'h=u:=fun _=>hu.symm
  have hgm:∀ h,b[i]'h=v:=fun _=>hv.symm
  rw [← hu] at hga
  rw [← hv] at hgb
  rw [List.drop_eq_getElem_cons (by rw [hzl]; exact hlt),List.all_cons,List.getElem_zip,← hu,← hv] at hf
  simp [hlt,hla,hgi,hgm]
  (repeat' first|contradiction|exact .ok|apply And.intro|intro _|(apply gc<;>simp+contextual))
  refine cV [1000000,1000001] (aGS x o u v (ha u (by rw [hu]; exact List.getElem_mem hla)) (hb v (by rw [hv]; exact List.getElem_mem hlt))) (by simp) (by simp) (by simp) (by simp [Tb.c]) (by simp [fF]) ?_
  cases he:dO x u==dO o v with
  | true =>
    rw [he,Bool.true_and] at hf
    simp
    (repeat' first|contradiction|exact .ok|apply And.intro|intro _|(apply gc<;>simp+contextual[he]))
    refine ⟨i+1,⟨by omega,hf⟩,?_,by simp; omega⟩
    exact aI _ [(1000000,1000000,_),(1000001,1000001,_)] ⟨by simp,by simp,by refine AK ?_ ?_ <;> simp [Blk.live,Tb.c],WJ⟩ (by simp [aB,hw])
  | false =>
    rw [he,Bool.false_and] at hf
    rw [← hf]
    simp [Tb.c]
    (repeat' first|contradiction|exact .ok|apply And.intro|intro _|(apply gc<;>simp+contextual[he]))
    all_goals first | (rw [lO]; refine ⟨?_,?_⟩ <;> simp) | (simp [Tb.c]; done) | skip
 obtain rfl:i=b.length:=by omega
 rw [List.drop_of_length_le (by omega),List.all_nil] at hf
 rw [← hf]
 simp [Tb.c]
 (repeat' first|contradiction|exact .ok|apply And.intro|intro _|(apply gc<;>simp+contextual))
 all_goals first | (rw [lO]; refine ⟨?_,?_⟩ <;> simp) | (simp [Tb.c]; done) | skip
theorem PP (S:List Tb) (hl:S.length≤1000) (hS:∀ x∈S,x.ok) (hK:∀ x∈S,gD x=0) (x:Tb) (hx:x∈S) (f:Fk) (hf:f∈x.fk) :
  Cf En 159 [aN S,x.a,f.a] [] (.d (.int .i64 (kJ S x f))) []:=by
 refine cI aW (fn:=Tryz.f159) rfl ?_
 simp [aN,Tb.a,Tb.c,Fk.a,Fk.c]
 (repeat' first|contradiction|exact .ok|apply And.intro|intro _|(apply gc<;>simp+contextual))
 refine aA (xT S hl f.t) (by simp [aN]) ?_
 by_cases hz:0≤tgt S f
 ·obtain ⟨k,hk⟩:∃ k:Nat,tgt S f=k:=⟨(tgt S f).toNat,by omega⟩
  have hkl:k<S.length:=by
   have:=qB (p:=fun x:Tb=>x.n==f.t) (l:=S) (i:=0)
   have h2:aV (fun x:Tb=>x.n==f.t) S 0=k:=hk
   rw [h2] at this
   simp at this
   exact this
  obtain ⟨o,ho⟩:∃ o,o=S[k]:=⟨_,rfl⟩
  have hgi:∀ h,S[k]'h=o:=fun _=>ho.symm
  have hom:o∈S:=by rw [ho]; exact List.getElem_mem hkl
  have hR:kJ S x f=if mT x o f.cols o.pr=true then 0 else 6:=by
   unfold kJ
   rw [hk,Int.toNat_natCast,gE hkl,← ho]
   simp only
   rw [if_neg (by omega)]
  rw [hR,cN (show aV (fun x:Tb=>x.n==f.t) S 0=k from hk)]
  simp [hkl,hgi,Tb.c]
  (repeat' first|contradiction|exact .ok|apply And.intro|intro _|(apply gc<;>simp+contextual))
  refine cV [4,9] (aCR x o f.cols o.pr ((hS x hx).fkc f hf) ((oW (hK x hx)).2 f hf) ((oW (hK o hom)).1) (hS o hom).pr) (by simp) (by simp) (by simp) (by simp [Tb.c]) (by simp [fF]) ?_
  cases hp:mT x o f.cols o.pr <;> simp
  all_goals (repeat' (first | contradiction | exact .of (by kernel_rfl) | refine And.intro ?_ ?_ | intro _ | (refine aK (fun h=>?_) (fun h=>?_) <;> (have h':=h; (try simp at h'); first | done | simp [h,h',hp] | simp [hp]))))
 ·have hR:kJ S x f=11:=by
   unfold kJ
   split
   ·rw [if_pos (by omega)]
   ·rfl
  rw [hR,oS (rV hz)]
  simp
  all_goals exact gz
theorem aEm (f:Fk) (hf:f.cols.length≤1000) (c:Int):Cf En 216 [f.a,.ptr 1000000 0 0] [.var [.d (.int .i64 c)]] (.d (.bool (f.cols.contains c))) [.var [.d (.int .i64 c)]]:=by
 refine cI aW (fn:=Tryz.f216) rfl ?_
 simp [Fk.a,Fk.c]
 (repeat' first|contradiction|exact .ok|apply And.intro|intro _|(apply gc<;>simp+contextual))
 refine aP (jZ f.cols hf c) ?_
 simp
 all_goals exact gz
theorem aEn (l:List Fk) (hl:l.length≤1000) (hf:∀ f∈l,f.cols.length≤1000) (c:Int):Cf En 217 [.d (.sl (l.map Fk.c)),.clo 216 [.ptr 1000000 0 0]] [.var [.d (.int .i64 c)]] (.d (.int .i64 (aV (fun f:Fk=>f.cols.contains c) l 0))) [.var [.d (.int .i64 c)]]:=by
 refine cI aW (fn:=Tryz.f217) rfl ?_
 generalize hF:aV (fun f:Fk=>f.cols.contains c) l 0=F
 simp
 (repeat' first|contradiction|exact .ok|apply And.intro|intro _|(apply gc<;>simp+contextual))
 refine aL aW (fun i:Nat=>{ s:=cE [(0,.d (.sl (l.map Fk.c))),(1,.clo 216 [.ptr 1000000 0 0]),(7,.d (.int .i64 l.length)),(8,.d (.int .i64 i))],b:=cC [(1000000,1000000,.var [.d (.int .i64 c)])] }) (fun i=>i≤l.length∧aV (fun f:Fk=>f.cols.contains c) (l.drop i) i=F) (fun i=>l.length - i) 0 ⟨by simp,hF⟩ (aI _ [(1000000,1000000,_)] ⟨by simp,by simp,by simp [aB,Blk.live],bK⟩ (by simp [aB])) ?_
 rintro i ⟨hi,hg⟩
 by_cases hlt:i<l.length
 ·rw [dM hlt] at hg
  obtain ⟨u,hu⟩:∃ u,u=l[i]:=⟨_,rfl⟩
  have hgi:∀ h,l[i]'h=u:=fun _=>hu.symm
  have hru:=hf u (by rw [hu]; exact List.getElem_mem hlt)
  rw [← hu] at hg
  have hw:=wI (n:=(i:Int)+1)
  simp [hlt,hgi,Fk.c]
  (repeat' first|contradiction|exact .ok|apply And.intro|intro _|(apply gc<;>simp+contextual))
  refine aH [1000000] (aEm u hru c) (by simp) (by simp [Fk.a,Fk.c]) ?_
  cases he:u.cols.contains c
  ·rw [he] at hg
   simp
   (repeat' first|contradiction|exact .ok|apply And.intro|intro _|(apply gc<;>simp+contextual[he]))
   refine ⟨i+1,⟨by omega,by simpa using hg⟩,?_,by simp; omega⟩
   exact aI _ [(1000000,1000000,_)] ⟨by simp,by simp,by simp [aB,Blk.live],bK⟩ (by simp [aB,hw])
  ·rw [he] at hg
   simp only [if_true] at hg
   simp [← hg]
   (repeat' first|contradiction|exact .ok|apply And.intro|intro _|(apply gc<;>simp+contextual[he]))
 obtain rfl:i=l.length:=by omega
 rw [List.drop_length,aV] at hg
 simp [← hg]
 all_goals exact gz
theorem aEo (l:List Fk) (hl:l.length≤1000) (hf:∀ f∈l,f.cols.length≤1000) (c:Int):Cf En 166 [.d (.sl (l.map Fk.c)),.clo 216 [.ptr 1000000 0 0]] [.var [.d (.int .i64 c)]] (.d (.bool (l.any fun f=>f.cols.contains c))) [.var [.d (.int .i64 c)]]:=by
 refine cI aW (fn:=Tryz.f166) rfl ?_
 have h:=kV (p:=fun f:Fk=>f.cols.contains c) (l:=l) (i:=0)
 generalize hA:(l.any fun f=>f.cols.contains c)=A at *
 generalize hF:aV (fun f:Fk=>f.cols.contains c) l 0=F at *
 have hc:=aEn l hl hf c
 rw [hF] at hc
 simp
 (repeat' first|contradiction|exact .ok|apply And.intro|intro _|(apply gc<;>simp+contextual))
 refine aH [1000000] hc (by simp) (by simp) ?_
 simp [h]
 all_goals exact gz
theorem aBR (x:Tb) (hx:x.ok) (c:Int):Cf En 164 [x.a,.d (.int .i64 c)] [] (.d (.bool (!cU x c))) []:=by
 refine cI aW (fn:=Tryz.f164) rfl ?_
 have hk:cU x c=(x.pr.contains c||x.fk.any fun f=>f.cols.contains c):=rfl
 rw [hk]
 have hc:=aEo x.fk hx.fk hx.fkc c
 generalize (x.fk.any fun f=>f.cols.contains c)=A at *
 have hp:=jZ x.pr hx.pr c
 generalize x.pr.contains c=B at *
 simp [Tb.a,Tb.c]
 (repeat' first|contradiction|exact .ok|apply And.intro|intro _|(apply gc<;>simp+contextual))
 refine aP hp ?_
 cases B with
 | true =>
   simp
   all_goals exact gz
 | false =>
   simp
   (repeat' first|contradiction|exact .ok|apply And.intro|intro _|(apply gc<;>simp+contextual))
   refine aH [3] hc (by simp) (by simp) ?_
   simp
   all_goals exact gz
theorem aIb (x:Tb) (hx:x.ok) (c:Int):Cf En 163 [.d (.int .i64 c),.ptr 1000000 0 0] [.var (x.c.map AV.d)] (.d (.bool (cU x c))) [.var (x.c.map AV.d)]:=by
 refine cI aW (fn:=Tryz.f163) rfl ?_
 simp [Tb.c]
 (repeat' first|contradiction|exact .ok|apply And.intro|intro _|(apply gc<;>simp+contextual))
 refine aA (aBR x hx c) (by simp [Tb.a,Tb.c]) ?_
 simp
 all_goals exact gz
theorem aGt (x:Tb) (hx:x.ok) (l:List Int) (hl:l.length≤9000000):Cf En 126 [.d (.sl (aD l)),.clo 163 [.ptr 1000000 0 0]] [.var (x.c.map AV.d)] (.d (.int .i64 (aV (cU x) l 0))) [.var (x.c.map AV.d)]:=by
 refine cI aW (fn:=Tryz.f126) rfl ?_
 simp
 (repeat' first|contradiction|exact .ok|apply And.intro|intro _|(apply gc<;>simp+contextual))
 refine aL aW (fun i:Nat=>{ s:=cE [(0,.d (.sl (aD l))),(1,.clo 163 [.ptr 1000000 0 0]),(7,.d (.int .i64 l.length)),(8,.d (.int .i64 i))],b:=cC [(1000000,1000000,.var (x.c.map AV.d))] }) (fun i=>i≤l.length∧aV (cU x) (l.drop i) i=aV (cU x) l 0) (fun i=>l.length - i) 0 (by simp) (aI _ [(1000000,1000000,_)] ⟨by simp,by simp,by simp [aB,Blk.live,Tb.c],bK⟩ (by simp [aB])) ?_
 rintro i ⟨hi,hf⟩
 by_cases hlt:i<l.length
 ·rw [dM hlt] at hf
  obtain ⟨u,hu⟩:∃ u,u=l[i]:=⟨_,rfl⟩
  have hg:=eE hlt
  have hgi:∀ h,l[i]'h=u:=fun _=>hu.symm
  rw [← hu] at hf hg
  have hw:=wI (n:=(i:Int)+1)
  simp [hlt,hgi]
  (repeat' first|contradiction|exact .ok|apply And.intro|intro _|(apply gc<;>simp+contextual))
  refine aH [1000000] (aIb x hx u) (by simp [Tb.c]) (by simp) ?_
  cases he:cU x u
  ·rw [he] at hf
   simp
   (repeat' first|contradiction|exact .ok|apply And.intro|intro _|(apply gc<;>simp+contextual[he]))
   refine ⟨i+1,⟨by omega,by simpa using hf⟩,?_,by simp; omega⟩
   exact aI _ [(1000000,1000000,_)] ⟨by simp,by simp,by simp [aB,Blk.live,Tb.c],bK⟩ (by simp [aB,hw])
  ·rw [he] at hf
   simp only [if_true] at hf
   simp [← hf,Tb.c]
   (repeat' first|contradiction|exact .ok|apply And.intro|intro _|(apply gc<;>simp+contextual[he]))
 obtain rfl:i=l.length:=by omega
 rw [List.drop_length,aV] at hf
 simp [← hf,Tb.c]
 all_goals exact gz
theorem aGu (x:Tb) (hx:x.ok) (l:List Int) (hl:l.length≤9000000):Cf En 83 [.d (.sl (aD l)),.clo 163 [.ptr 1000000 0 0]] [.var (x.c.map AV.d)] (.d (.bool (l.any (cU x)))) [.var (x.c.map AV.d)]:=by
 refine cI aW (fn:=Tryz.f83) rfl ?_
 have h:=kV (p:=cU x) (l:=l) (i:=0)
 simp
 (repeat' first|contradiction|exact .ok|apply And.intro|intro _|(apply gc<;>simp+contextual))
 refine aH [1000000] (aGt x hx l hl) (by simp [Tb.c]) (by simp) ?_
 simp [h,Tb.c]
 all_goals exact gz
structure DJ (e:Ex):Prop where
 few:e.few 0=true
 nodes:e.nodes≤1048576
theorem GX (l:List Int):gI l=.sl (aD l):=rfl
theorem VP (e:Ex) (h:DJ e):e.cols.length≤9000000:=by
 have:=MZ e
 have:=h.nodes
 omega
theorem aIc (x:Tb) (hx:x.ok) (e:Ex) (he:DJ e):Cf En 162 [e.a,.ptr 1000000 0 0] [.var (x.c.map AV.d)] (.d (.bool (e.cols.any (cU x)))) [.var (x.c.map AV.d)]:=by
 refine cI aW (fn:=Tryz.f162) rfl ?_
 have hc:=CI _ e (Nat.lt_succ_self _) 0 he.few he.nodes
 have hl:=VP e he
 generalize e.cols=l at *
 rw [GX] at hc
 rcases e with ⟨o,c,n,t,g,ks⟩
 simp [Ex.a,Ex.c]
 (repeat' first|contradiction|exact .ok|apply And.intro|intro _|(apply gc<;>simp+contextual))
 refine aA hc (by simp [Ex.a,Ex.c]) ?_
 simp
 (repeat' first|contradiction|exact .ok|apply And.intro|intro _|(apply gc<;>simp+contextual))
 refine aH [1000000] (aGu x hx l hl) (by simp [Tb.c]) (by simp) ?_
 simp [Tb.c]
 all_goals exact gz
theorem aGv (x:Tb) (hx:x.ok) (l:List Ex) (hl:l.length≤1000) (hE:∀ e∈l,DJ e):Cf En 143 [.d (.sl (l.map Ex.c)),.clo 162 [.ptr 1000000 0 0]] [.var (x.c.map AV.d)] (.d (.int .i64 (aV (fun e:Ex=>e.cols.any (cU x)) l 0))) [.var (x.c.map AV.d)]:=by
 refine cI aW (fn:=Tryz.f143) rfl ?_
 simp
 (repeat' first|contradiction|exact .ok|apply And.intro|intro _|(apply gc<;>simp+contextual))
 refine aL aW (fun i:Nat=>{ s:=cE [(0,.d (.sl (l.map Ex.c))),(1,.clo 162 [.ptr 1000000 0 0]),(7,.d (.int .i64 l.length)),(8,.d (.int .i64 i))],b:=cC [(1000000,1000000,.var (x.c.map AV.d))] }) (fun i=>i≤l.length∧aV (fun e:Ex=>e.cols.any (cU x)) (l.drop i) i=aV (fun e:Ex=>e.cols.any (cU x)) l 0) (fun i=>l.length - i) 0 (by simp) (aI _ [(1000000,1000000,_)] ⟨by simp,by simp,by simp [aB,Blk.live,Tb.c],bK⟩ (by simp [aB])) ?_
 rintro i ⟨hi,hg⟩
 by_cases hlt:i<l.length
 ·rw [dM hlt] at hg
  obtain ⟨u,hu⟩:∃ u,u=l[i]:=⟨_,rfl⟩
  have hgi:∀ h,l[i]'h=u:=fun _=>hu.symm
  have hc:=aIc x hx u (hE u (by rw [hu]; exact List.getElem_mem hlt))
  rw [← hu] at hg
  generalize (u.cols.any (cU x))=B at *
  have hw:=wI (n:=(i:Int)+1)
  rcases u with ⟨o,cc,n,t,g,ks⟩
  simp [hlt,hgi,Ex.c]
  (repeat' first|contradiction|exact .ok|apply And.intro|intro _|(apply gc<;>simp+contextual))
  refine aH [1000000] hc (by simp [Tb.c]) (by simp [Ex.a,Ex.c]) ?_
  cases B
  ·simp
   (repeat' first|contradiction|exact .ok|apply And.intro|intro _|(apply gc<;>simp+contextual))
   refine ⟨i+1,⟨by omega,by simpa using hg⟩,?_,by simp; omega⟩
   exact aI _ [(1000000,1000000,_)] ⟨by simp,by simp,by simp [aB,Blk.live,Tb.c],bK⟩ (by simp [aB,hw])
  ·simp only [if_true] at hg
   simp [← hg,Tb.c]
   all_goals exact gz
 obtain rfl:i=l.length:=by omega
 rw [List.drop_length,aV] at hg
 simp [← hg,Tb.c]
 all_goals exact gz
theorem aGw (x:Tb) (hx:x.ok) (l:List Ex) (hl:l.length≤1000) (hE:∀ e∈l,DJ e):Cf En 95 [.d (.sl (l.map Ex.c)),.clo 162 [.ptr 1000000 0 0]] [.var (x.c.map AV.d)] (.d (.bool (l.any fun e=>e.cols.any (cU x)))) [.var (x.c.map AV.d)]:=by
 refine cI aW (fn:=Tryz.f95) rfl ?_
 have h:=kV (p:=fun e:Ex=>e.cols.any (cU x)) (l:=l) (i:=0)
 have hc:=aGv x hx l hl hE
 generalize (l.any fun e=>e.cols.any (cU x))=A at *
 generalize aV (fun e:Ex=>e.cols.any (cU x)) l 0=F at *
 simp
 (repeat' first|contradiction|exact .ok|apply And.intro|intro _|(apply gc<;>simp+contextual))
 refine aH [1000000] hc (by simp [Tb.c]) (by simp) ?_
 simp [h,Tb.c]
 all_goals exact gz
theorem aFd (S:List Tb) (hl:S.length≤1000) (hS:∀ x∈S,x.ok) (hU:∀ x∈S,∀ l∈x.un,l.length≤1000) (ty:Tb→Ex→Int×Int)
  (hty:∀ x∈S,∀ e∈x.ch,Cf Es 92 [.d (.sl (aD (x.cols.map Col.t))),e.a] [] (.tup [.d (.int .i64 (ty x e).1),.d (.int .i64 (ty x e).2)]) []) :
  Cf Es 104 [aN S] [] (.d (.int .i64 (dY fN ty S))) []:=by
 refine cI bM (fn:=Tryz.f104) rfl ?_
 by_cases c1:6<S.length
 ·have i1:(6:Int)<S.length:=by omega
  rw [show dY fN ty S=8 from by unfold dY; rw [if_pos c1]]
  simp [aN,i1]
  (repeat' first|contradiction|exact .ok|apply And.intro|intro _|(apply gc<;>simp+contextual[i1,c1]))
 have i1:¬ (6:Int)<S.length:=by omega
 have hR2:fI (bG (kI fN ty S) S 0) (fI (bG (fun _ x=>bG (fun _=>kJ S x) x.fk 0) S 0) (gB S).2)=dY fN ty S:=by unfold dY; rw [if_neg c1]
 generalize dY fN ty S=T at *
 simp [aN,i1]
 (repeat' first|contradiction|exact .ok|apply And.intro|intro _|(apply gc<;>simp+contextual[i1,c1]))
 clear i1 c1
 refine aL bM (fun i:Nat=>{ s:=cE [(1,.ptr 1 0 0),(20,.d (.sl (S.map Tb.c))),(21,.d (.int .i64 S.length)),(22,.d (.int .i64 i))],b:=cC [(1,1,.var [.d (.sl (S.map Tb.c))])] }) (fun i=>i≤S.length∧bG (kI fN ty S) (S.drop i) i=bG (kI fN ty S) S 0) (fun i=>S.length - i) 0 (by simp)
  (sM _ [(1,1,_)] (by simp [aB,Blk.live]) (by simp [aB])) ?_
 rintro i ⟨hi,hf⟩
 by_cases hlt:i<S.length
 ·rw [eL hlt] at hf
  have hw:=wI (n:=(i:Int)+1)
  obtain ⟨x,hx⟩:∃ c,c=S[i]:=⟨_,rfl⟩
  have hgi:∀ h,S[i]'h=x:=fun _=>hx.symm
  have hxm:x∈S:=by rw [hx]; exact List.getElem_mem hlt
  obtain ⟨k,hk,hki⟩:=oU (p:=fun d:Tb=>d.n==x.n) (b:=0) hlt (by rw [← hx]; simp)
  have hk':aV (fun d:Tb=>d.n==x.n) S 0=k:=by rw [hk]; simp
  rw [← hx] at hf
  have hE:kI fN ty S i x=if fN x.n=false then 3 else if (k:Int)<i then 5 else fB fN ty x:=by unfold kI; rw [hk']
  have hbad:∀ z:Int,kI fN ty S i x=z→z ≠ 0→T=z:=fun z h h0=>by
   rw [h,if_pos h0] at hf
   rw [← hR2,← hf,fK h0]
  have hgood:kI fN ty S i x=0→bG (kI fN ty S) (S.drop (i+1)) (i+1)=bG (kI fN ty S) S 0:=fun h=>by
   rw [h,if_neg (by simp)] at hf
   exact hf
  have htb:=aEZ x (hS x hxm) (hU x hxm) ty (hty x hxm)
  generalize kI fN ty S i x=E at *
  simp [hlt,hgi,Tb.c]
  (repeat' first|contradiction|exact .ok|apply And.intro|intro _|(apply gc<;>simp+contextual))
  refine aP (aBt x.n) ?_
  cases hn:fN x.n with
  | false =>
    rw [hn,if_pos rfl] at hE
    rw [hbad 3 hE (by decide)]
    simp [hn]
    (repeat' first|contradiction|exact .ok|apply And.intro|intro _|(apply gc<;>simp+contextual[hn]))
  | true =>
    rw [hn,if_neg (by decide)] at hE
    simp [hn]
    (repeat' first|contradiction|exact .ok|apply And.intro|intro _|(apply gc<;>simp+contextual[hn]))
    refine aA (eG (xT S hl x.n)) (by simp [aN]) ?_
    rw [cN hk']
    by_cases hki2:k<i
    ·rw [if_pos (by omega)] at hE
     rw [hbad 5 hE (by decide)]
     simp [hki2]
     (repeat' first|contradiction|exact .ok|apply And.intro|intro _|(apply gc<;>simp+contextual[hki2]))
    ·rw [if_neg (by omega)] at hE
     simp [hki2]
     (repeat' first|contradiction|exact .ok|apply And.intro|intro _|(apply gc<;>simp+contextual[hki2]))
     refine aA htb (by simp [Tb.a,Tb.c]) ?_
     generalize fB fN ty x=e at *
     by_cases he:e=0
     ·simp [he]
      (repeat' first|contradiction|exact .ok|apply And.intro|intro _|(apply gc<;>simp+contextual[he]))
      refine ⟨i+1,⟨by omega,hgood (by rw [hE,he])⟩,?_,by simp; omega⟩
      exact sM _ [(1,1,_)] (by simp [aB,Blk.live]) (by simp [aB,hw])
     ·rw [hbad e hE he]
      simp [he]
      (repeat' first|contradiction|exact .ok|apply And.intro|intro _|(apply gc<;>simp+contextual[he]))
 obtain rfl:i=S.length:=by omega
 rw [fJ (Nat.le_refl _)] at hf
 have hK:=KU hf.symm
 rw [← hf,eY] at hR2
 clear hf hi hlt
 simp
 (repeat' first|contradiction|exact .ok|apply And.intro|intro _|(apply gc<;>simp+contextual))
 refine aL bM (fun i:Nat=>{ s:=cE [(1,.ptr 1 0 0),(48,.d (.sl (S.map Tb.c))),(49,.d (.int .i64 S.length)),(50,.d (.int .i64 i))],b:=cC [(1,1,.var [.d (.sl (S.map Tb.c))])] }) (fun i=>i≤S.length∧bG (fun _ x=>bG (fun _=>kJ S x) x.fk 0) (S.drop i) i=bG (fun _ x=>bG (fun _=>kJ S x) x.fk 0) S 0) (fun i=>S.length - i) 0 (by simp)
  (sM _ [(1,1,_)] (by simp [aB,Blk.live]) (by simp [aB])) ?_
 rintro i ⟨hi,hf⟩
 by_cases hlt:i<S.length
 ·rw [eL hlt] at hf
  have hw:=wI (n:=(i:Int)+1)
  obtain ⟨x,hx⟩:∃ c,c=S[i]:=⟨_,rfl⟩
  have hgi:∀ h,S[i]'h=x:=fun _=>hx.symm
  have hxm:x∈S:=by rw [hx]; exact List.getElem_mem hlt
  have hxf:=(hS x hxm).fk
  rw [← hx] at hf
  simp [hlt,hgi,Tb.c]
  (repeat' first|contradiction|exact .ok|apply And.intro|intro _|(apply gc<;>simp+contextual))
  refine aL bM (fun j:Nat=>{ s:=cE [(1,.ptr 1 0 0),(9,.ptr 9 0 0),(48,.d (.sl (S.map Tb.c))),(49,.d (.int .i64 S.length)),(50,.d (.int .i64 i)),(55,.d (.sl (x.fk.map Fk.c))),(56,.d (.int .i64 x.fk.length)),(57,.d (.int .i64 j))],b:=cC [(1,1,.var [.d (.sl (S.map Tb.c))]),(9,9,.var (x.c.map AV.d))] }) (fun j=>j≤x.fk.length∧bG (fun _=>kJ S x) (x.fk.drop j) j=bG (fun _=>kJ S x) x.fk 0) (fun j=>x.fk.length - j) 0 (by simp)
   (sM _ [(1,1,_),(9,9,_)] (by simp [aB,Blk.live,Tb.c]) (by simp [aB])) ?_
  rintro j ⟨hj,hg⟩
  by_cases hjl:j<x.fk.length
  ·rw [eL hjl] at hg
   have hwj:=wI (n:=(j:Int)+1)
   obtain ⟨f,hfx⟩:∃ c,c=x.fk[j]:=⟨_,rfl⟩
   have hgf:∀ h,x.fk[j]'h=f:=fun _=>hfx.symm
   have hfm:f∈x.fk:=by rw [hfx]; exact List.getElem_mem hjl
   have hr:=eG (PP S hl hS hK x hxm f hfm)
   rw [← hfx] at hg
   simp [hjl,hgf,Fk.c,Tb.c]
   (repeat' first|contradiction|exact .ok|apply And.intro|intro _|(apply gc<;>simp+contextual))
   refine aA hr (by simp [aN,Tb.a,Tb.c,Fk.a,Fk.c]) ?_
   generalize kJ S x f=e at *
   by_cases he:e=0
   ·rw [if_neg (by simpa using he)] at hg
    simp [he]
    (repeat' first|contradiction|exact .ok|apply And.intro|intro _|(apply gc<;>simp+contextual[he]))
    refine ⟨j+1,⟨by omega,hg⟩,?_,by simp; omega⟩
    exact sM _ [(1,1,_),(9,9,_)] (by simp [aB,Blk.live]) (by simp [aB,hwj])
   ·rw [if_pos he] at hg
    rw [← hg,if_pos he] at hf
    rw [← hf,fK he] at hR2
    rw [← hR2]
    simp [he]
    (repeat' first|contradiction|exact .ok|apply And.intro|intro _|(apply gc<;>simp+contextual[he]))
  ·obtain rfl:j=x.fk.length:=by omega
   rw [fJ (Nat.le_refl _)] at hg
   rw [← hg,if_neg (by simp)] at hf
   simp
   (repeat' first|contradiction|exact .ok|apply And.intro|intro _|(apply gc<;>simp+contextual))
   refine ⟨i+1,⟨by omega,hf⟩,?_,by simp; omega⟩
   exact sM _ [(1,1,_)] (by simp [aB,Blk.live]) (by simp [aB,hw])
 obtain rfl:i=S.length:=by omega
 rw [fJ (Nat.le_refl _)] at hf
 rw [← hf,eY] at hR2
 rw [← hR2]
 simp
 (repeat' first|contradiction|exact .ok|apply And.intro|intro _|(apply gc<;>simp+contextual))
 refine aA (eG (aEk S hl hS)) (by simp [aN]) ?_
 simp
 all_goals exact gz
theorem aGz {L:List Int} {b j:Nat} (h1:¬ j=0∧¬ aS L b 3=0) (h2:¬ aS L (b+2) 2=0):DL L b j=2∧FG L b j=b+4:=by
 unfold DL FG
 rw [if_neg h1.1,if_neg h1.2,if_neg h2,if_neg h1.1,if_neg h1.2,if_neg h2]
 exact ⟨rfl,rfl⟩
theorem aEw {L:List Int} {b:Nat}:DL L b 0=0∧FG L b 0=b:=⟨rfl,rfl⟩
theorem aEx {L:List Int} {b j z:Nat} (hj:¬ j=0) (hz:z<2) (h1:0<z→¬ j=0∧¬ aS L b 3=0) (h:aS L (b+2*z) (3 - (z:Int))=0):DL L b j=z∧FG L b j=b+2*z+1:=by
 rcases (by omega:z=0∨z=1) with rfl | rfl
 ·have h':aS L b 3=0:=by simpa using h
  unfold DL FG
  rw [if_neg hj,if_pos h',if_neg hj,if_pos h']
  exact ⟨rfl,rfl⟩
 ·have h':aS L (b+2) 2=0:=by simpa using h
  have h2:=(h1 (by omega)).2
  unfold DL FG
  rw [if_neg hj,if_neg h2,if_pos h',if_neg hj,if_neg h2,if_pos h']
  exact ⟨rfl,rfl⟩
theorem KG (L:List Int) (i:Nat) (hi:i≤800000) :
  Cf En 9 [.ptr 1000000 0 0] [aQ L i] (.agg [.d (.sl ((bS L (i+1) (1+aS L i 3).toNat).1.map Tb.c))]) [aQ L (bS L (i+1) (1+aS L i 3).toNat).2]:=by
 refine cI aW (fn:=Tryz.f9) rfl ?_
 have hn:=bB L i (n:=3) (by omega)
 have ht:=dH L i (by omega) 3 (by omega) (by omega)
 obtain ⟨N,hN⟩:∃ N:Nat,N=(1+aS L i 3).toNat:=⟨_,rfl⟩
 have hN2:(N:Int)=1+aS L i 3:=by omega
 have hw:=wI (n:=1+aS L i 3)
 rw [← hN2] at hw
 rw [← hN]
 have hN3:N≤3:=by omega
 simp [aQ]
 (repeat' first|contradiction|exact .ok|apply And.intro|intro _|(apply gc<;>simp+contextual))
 refine aH [1000000] ht (by simp [aQ]) (by simp) ?_
 simp [aQ,← hN2,hw]
 (repeat' first|contradiction|exact .ok|apply And.intro|intro _|(apply gc<;>simp+contextual))
 clear ht hn hw hN2 hN
 refine aL aW (fun j:Nat=>{ s:=cE [(0,.ptr 1000000 0 0),(2,.ptr 2 0 0),(3,.ptr 3 0 0),(4,.d (.int .i64 N)),(5,.d (.int .i64 j))],b:=cC [(1000000,1000000,aQ L (bS L (i+1) j).2),(2,2,.var [.nils]),(3,3,.var [.ref 901 0 j 6]),(901,901,.arr 82 6 ((bS L (i+1) j).1.map Tb.c) false)] }) (fun j=>j≤N) (fun j=>N - j) 0 (by simp)
  ((iH 3 901 82 6 0 (cells:=[.nils]) (by simp) rfl (by simp) (by decide) (by decide)).trans (aI _ [(1000000,1000000,_),(2,2,_),(3,3,_),(901,901,_)] ⟨by simp,by simp,by simp [aB,Blk.live,aQ,bS,bP],bK⟩ (by simp [aB]))) ?_
 intro j hj
 by_cases hlt:j<N
 ·have hal:=rX L (i+1) j
  have hTl:=dU L (i+1) j
  have hst:bS L (i+1) (j+1)=((bS L (i+1) j).1++[(qD L j (bS L (i+1) j).2).1],(qD L j (bS L (i+1) j).2).2):=rfl
  have hwj:=wI (n:=(j:Int)+1)
  generalize hT:(bS L (i+1) j).1=T at *
  generalize ha:(bS L (i+1) j).2=a at *
  have hm:=rW L a
  have hmn:=bB L a (n:=2) (by omega)
  have hmd:=kE L j a
  have htab:qD L j a=OI L (jB L j a) (FG L (a+1+2*eI L a) j):=rfl
  rw [htab] at hst
  unfold jB at hst hmd
  generalize eI L a=m at *
  have hwm:=wI (n:=1+aS L a 2)
  rw [← hm.2.2] at hwm
  have hm3:=hm.2.2
  have hpe:=aBX L (a+1+2*m) j
  have hpn:=KE L (a+1+2*m) j
  simp [aQ,hlt]
  (repeat' first|contradiction|exact .ok|apply And.intro|intro _|(apply gc<;>simp+contextual))
  refine aA (aEt 116 j j rfl (by omega)) (by simp) ?_
  simp
  (repeat' first|contradiction|exact .ok|apply And.intro|intro _|(apply gc<;>simp+contextual))
  refine cV [1000000] (dH L a (by omega) 2 (by omega) (by omega)) (by simp) (by simp) (by simp) (by simp [aQ]) (by simp) ?_
  simp [aQ,← hm3,hwm]
  (repeat' first|contradiction|exact .ok|apply And.intro|intro _|(apply gc<;>simp+contextual))
  refine aL aW (fun k:Nat=>{ s:=cE [(0,.ptr 1000000 0 0),(2,.ptr 2 0 0),(3,.ptr 3 0 0),(4,.d (.int .i64 N)),(5,.d (.int .i64 j)),(6,.ptr 6 0 0),(7,.d (.int .i64 m)),(8,.d (.int .i64 k))],b:=cC [(1000000,1000000,aQ L (a+1+2*k)),(2,2,.var [.nils]),(3,3,.var [.ref 901 0 j 6]),(901,901,.arr 82 6 (T.map Tb.c) false),(6,6,.var [.d (.str (qC 116 j)),.ref 900 0 (k+1) 3,.ref 902 0 1 1,.nils,.nils,.nils]),(900,900,.arr 85 3 ((jR L (a+1) k 0).map Col.c) false),(902,902,.arr 3 1 [[.int .i64 0]] false)] }) (fun k=>k≤m) (fun k=>m - k) 0 (by simp)
   (aI _ [(1000000,1000000,_),(2,2,_),(3,3,_),(901,901,_),(6,6,_),(900,21,_),(902,22,_)] ⟨by simp,by simp,by simp [aB,Blk.live,aQ,jR,SY,idC,Col.c],bK⟩ (by simp [aB])) ?_
  ·intro k hk
   by_cases hkm:k<m
   ·have hkm':(k:Int)<m:=by omega
    have hcl:=kD L (a+1) k 0
    have hcs:=SZ L (a+1) k
    have c1:=bB L (a+1+2*k) (n:=3) (by omega)
    have hw1:=wI (n:=1+aS L (a+1+2*k) 3)
    have hwk:=wI (n:=(k:Int)+1)
    have hcg:(FF L (a+1) k).c=[.str (qC 99 k),.int .i64 (1+aS L (a+1+2*k) 3),.bool (aS L (a+1+2*k+1) 3==0)]:=rfl
    simp [aQ,hkm']
    (repeat' first|contradiction|exact .ok|apply And.intro|intro _|(apply gc<;>simp+contextual))
    refine aA (aEt 99 k k rfl (by omega)) (by simp) ?_
    simp
    (repeat' first|contradiction|exact .ok|apply And.intro|intro _|(apply gc<;>simp+contextual))
    refine cV [1000000] (dH L (a+1+2*k) (by omega) 3 (by omega) (by omega)) (by simp) (by simp) (by simp) (by simp [aQ]) (by simp) ?_
    simp [aQ,hw1]
    (repeat' first|contradiction|exact .ok|apply And.intro|intro _|(apply gc<;>simp+contextual))
    refine cV [1000000] (dH L (a+1+2*k+1) (by omega) 3 (by omega) (by omega)) (by simp) (by simp) (by simp) (by simp [aQ]) (by simp) ?_
    simp [aQ,hcl,gF (k+1+1) (by omega) 32 (by decide)]
    (repeat' first|contradiction|exact .ok|apply And.intro|intro _|(apply gc<;>simp+contextual))
    refine ⟨k+1,by omega,?_,by simp; omega⟩
    refine aI _ [(1000000,1000000,_),(2,2,_),(3,3,_),(901,901,_),(6,6,_),(900,44,_),(902,902,_)] ⟨by simp,by simp,?_,bK⟩ (by simp [aB,hwk])
    simp [aB,Blk.live,hcs,hcg]
    try omega
   have hkm2:k=m:=by omega
   subst hkm2
   simp [aQ]
   (repeat' first|contradiction|exact .ok|apply And.intro|intro _|(apply gc<;>simp+contextual))
   have hb:((a+1+2*k:Nat):Int)=(a:Int)+1+2*k:=by omega
   generalize hbe:a+1+2*k=b at *
   have e2:∀ z,DL L b j=z→(z=0→j=0∨aS L b 3=0):=fun z _ _=>by unfold DL at *; grind
   refine xA aW (by decide) (fun z:Nat=>{ s:=cE [(0,.ptr 1000000 0 0),(2,.ptr 2 0 0),(3,.ptr 3 0 0),(4,.d (.int .i64 N)),(5,.d (.int .i64 j)),(6,.ptr 6 0 0),(9,.d (.int .i64 z))],b:=cC [(1000000,1000000,aQ L (b+2*z:Nat)),(2,2,.var [.nils]),(3,3,.var [.ref 901 0 j 6]),(901,901,.arr 82 6 (T.map Tb.c) false),(6,6,.var [.d (.str (qC 116 j)),.ref 900 0 (k+1+z) 3,.ref 902 0 1 1,.nils,.ref 903 0 z 2,.nils]),(900,900,.arr 85 3 ((jR L (a+1) k z).map Col.c) false),(902,902,.arr 3 1 [[.int .i64 0]] false),(903,903,.arr 87 2 ((DK L b j (k+1) z).map Fk.c) false)] }) (fun z=>z≤2∧(0<z→¬ j=0∧¬ aS L b 3=0)∧(1<z→¬ aS L (b+2) 2=0)) (fun z=>2 - z) 0 (by simp) 4
    { s:=cE [(0,.ptr 1000000 0 0),(2,.ptr 2 0 0),(3,.ptr 3 0 0),(4,.d (.int .i64 N)),(5,.d (.int .i64 j)),(6,.ptr 6 0 0)],b:=cC [(1000000,1000000,aQ L (FG L b j)),(2,2,.var [.nils]),(3,3,.var [.ref 901 0 j 6]),(901,901,.arr 82 6 (T.map Tb.c) false),(6,6,.var [.d (.str (qC 116 j)),.ref 900 0 (k+1+DL L b j) 3,.ref 902 0 1 1,.nils,.ref 903 0 (DL L b j) 2,.nils]),(900,900,.arr 85 3 ((jR L (a+1) k (DL L b j)).map Col.c) false),(902,902,.arr 3 1 [[.int .i64 0]] false),(903,903,.arr 87 2 ((DK L b j (k+1) (DL L b j)).map Fk.c) false)] }
    ((iH 6 903 87 2 4 (cells:=[.d (.str (qC 116 j)),.ref 900 0 (k+1) 3,.ref 902 0 1 1,.nils,.nils,.nils]) (by simp) rfl (by simp) (by decide) (by decide)).trans (aI _ [(1000000,1000000,_),(2,2,_),(3,3,_),(901,901,_),(6,6,_),(900,900,_),(902,902,_),(903,903,_)] ⟨by simp,by simp,by simp [aB,Blk.live,aQ,bP,DK,SY,hb],bK⟩ (by simp [aB]))) ?_ ?_
   ·rintro z ⟨hz,hz1,hz2⟩
    have hcl:=kD L (a+1) k z
    have hcs:=TA L (a+1) k z
    have hfl:=wE L b j (k+1) z
    have hfs:=YW L b j (k+1) z
    by_cases hz2':z=2
    ·subst hz2'
     obtain ⟨p1,p2⟩:=aGz (hz1 (by omega)) (hz2 (by omega))
     simp [aQ]
     (repeat' first|contradiction|exact .ok|apply And.intro|intro _|(apply gc<;>simp+contextual))
     refine AExitTo.mk rfl ?_
     exact aI _ [(1000000,1000000,_),(2,2,_),(3,3,_),(901,901,_),(6,6,_),(900,900,_),(902,902,_),(903,903,_)] ⟨by simp,by simp,by simp [aB,Blk.live,p1,p2],bK⟩ (by simp [aB])
    have hzl:z<2:=by omega
    have hzi:(z:Int)<2:=by omega
    by_cases hj0:j=0
    ·subst hj0
     obtain rfl:z=0:=by
      rcases Nat.eq_zero_or_pos z with h | h
      ·exact h
      ·exact absurd rfl (hz1 h).1
     simp [aQ]
     (repeat' first|contradiction|exact .ok|apply And.intro|intro _|(apply gc<;>simp+contextual))
     refine AExitTo.mk rfl ?_
     exact aI _ [(1000000,1000000,_),(2,2,_),(3,3,_),(901,901,_),(6,6,_),(900,900,_),(902,902,_),(903,903,_)] ⟨by simp,by simp,by simp [aB,Blk.live,aEw],bK⟩ (by simp [aB])
    have hji:(0:Int)<j:=by omega
    have hw3:=wI (n:=3 - (z:Int))
    have nx:=bB L (b+2*z) (n:=3 - (z:Int)) (by omega)
    have tx:=dH L (b+2*z) (by omega) (3 - (z:Int)) (by omega) (by omega)
    have ps:=aEx (L:=L) (b:=b) (z:=z) hj0 hzl hz1
    have hq1:z=0→aS L (b+2*z) (3 - (z:Int))=aS L b 3:=fun e=>by subst e; rfl
    have hq2:z=1→aS L (b+2*z) (3 - (z:Int))=aS L (b+2) 2:=fun e=>by subst e; rfl
    generalize aS L (b+2*z) (3 - (z:Int))=q at *
    simp [aQ,hzi]
    (repeat' first|contradiction|exact .ok|apply And.intro|intro _|(apply gc<;>simp+contextual))
    refine aH [1000000] tx (by simp [aQ]) (by simp [hw3]) ?_
    by_cases hq:q=0
    ·obtain ⟨p1,p2⟩:=ps hq
     simp [aQ,hq]
     (repeat' first|contradiction|exact .ok|apply And.intro|intro _|(apply gc<;>simp+contextual[hq]))
     refine AExitTo.mk rfl ?_
     exact aI _ [(1000000,1000000,_),(2,2,_),(3,3,_),(901,901,_),(6,6,_),(900,900,_),(902,902,_),(903,903,_)] ⟨by simp,by simp,by simp [aB,Blk.live,p1,p2],bK⟩ (by simp [aB])
    have hqp:0<q:=by omega
    have nj:=bB L (b+2*z+1) (n:=(j:Int)) (by omega)
    have tj:=dH L (b+2*z+1) (by omega) (j:Int) (by omega) (by omega)
    have hfk:(fkP L b j (k+1) z).c=[.sl [[.int .i64 ((k:Int)+1+z)]],.str (qC 116 (aS L (b+2*z+1) j).toNat)]:=by simp [fkP,Fk.c,aD]
    have hfc:(YV z).c=[.str (qC 102 z),.int .i64 1,.bool false]:=rfl
    have hwc:=wI (n:=(k:Int)+1+z)
    have hwz:=wI (n:=(z:Int)+1)
    simp [aQ,hqp]
    (repeat' first|contradiction|exact .ok|apply And.intro|intro _|(apply gc<;>simp+contextual[hqp]))
    refine aA (aEt 102 z z rfl (by omega)) (by simp) ?_
    simp [hcl,gF (k+1+z+1) (by omega) 32 (by decide)]
    (repeat' first|contradiction|exact .ok|apply And.intro|intro _|(apply gc<;>simp+contextual))
    simp [hwc]
    refine aH [1000000] tj (by simp [aQ]; try omega) (by simp) ?_
    simp [aQ]
    refine aA (aEt 116 (aS L (b+2*z+1) j).toNat (aS L (b+2*z+1) j) (by omega) (by omega)) (by simp) ?_
    simp [hfl,gF (z+1) (by omega) 40 (by decide)]
    (repeat' first|contradiction|exact .ok|apply And.intro|intro _|(apply gc<;>simp+contextual))
    refine ⟨z+1,⟨by omega,fun _=>⟨hj0,?_⟩,fun h1=>?_⟩,?_,by simp; omega⟩
    ·rcases Nat.eq_zero_or_pos z with h | h
     ·rw [← hq1 h]; exact hq
     ·exact (hz1 h).2
    ·rw [← hq2 (by omega)]; exact hq
    ·refine aI _ [(1000000,1000000,_),(2,2,_),(3,3,_),(901,901,_),(6,6,_),(900,67,_),(902,902,_),(903,82,_)] ⟨by simp,by simp,?_,bK⟩ (by simp [aB,hwz])
     simp [aB,Blk.live,hcs,hfs,hfk,hfc]
     try omega
   ·have hcl:=kD L (a+1) k (DL L b j)
    have hfl:=wE L b j (k+1) (DL L b j)
    generalize hze:DL L b j=z at *
    generalize FG L b j=e at *
    generalize jR L (a+1) k z=C at *
    generalize DK L b j (k+1) z=F at *
    have n4:=bB L e (n:=4) (by omega)
    have hct:List.take (k+1+z) (C.map Col.c)=C.map Col.c:=List.take_of_length_le (by simp [hcl])
    have hft:List.take z (F.map Fk.c)=F.map Fk.c:=List.take_of_length_le (by simp [hfl])
    simp [aQ]
    (repeat' first|contradiction|exact .ok|apply And.intro|intro _|(apply gc<;>simp+contextual))
    refine cV [1000000] (dH L e (by omega) 4 (by omega) (by omega)) (by simp) (by simp) (by simp) (by simp [aQ]; try omega) (by simp) ?_
    by_cases u0:aS L e 4=0
    ·have hat:=aBm L (e+1) (by omega) _ hmd.ok hmd.free hmd.ty
     have hE:bS L (i+1) (j+1)=(T++[⟨qC 116 j,C,[0],[],F,[(lC L ⟨qC 116 j,C,[0],[],F,[]⟩ (e+1)).1.ex]⟩],(lC L ⟨qC 116 j,C,[0],[],F,[]⟩ (e+1)).2):=by rw [hst]; simp [OI,u0]
     generalize lC L ⟨qC 116 j,C,[0],[],F,[]⟩ (e+1)=lA at *
     obtain ⟨lA,e1⟩:=lA
     simp only at hat hE
     simp [aQ,u0]
     (repeat' first|contradiction|exact .ok|apply And.intro|intro _|(apply gc<;>simp+contextual[u0]))
     refine aH [1000000] hat (by simp [aQ]; try omega) (by simp [Tb.a,Tb.c,hct,hft,hcl,hfl,aD]) ?_
     simp [aQ,At.a,At.c]
     refine aA (CF lA) (by simp [At.a,At.c]) ?_
     simp [Ex.a,Ex.ctake',Ex.clen]
     (repeat' first|contradiction|exact .ok|apply And.intro|intro _|(apply gc<;>simp+contextual))
     simp [Ex.clen,hTl,hct,hft,hcl,hfl,gF (j+1) (by omega) 136 (by decide)]
     (repeat' first|contradiction|exact .ok|apply And.intro|intro _|(apply gc<;>simp+contextual))
     refine ⟨j+1,by omega,?_,by simp; omega⟩
     refine aI _ [(1000000,1000000,_),(2,2,_),(3,3,_),(901,100,_)] ⟨by simp,by simp,?_,bK⟩ (by simp [aB,hwj])
     simp [aB,Blk.live,hE,Tb.c,aD]
    ·have hE:bS L (i+1) (j+1)=(T++[⟨qC 116 j,C,[0],[],F,[]⟩],e+1):=by rw [hst]; simp [OI,u0]
     simp [aQ,u0,hTl,hct,hft,hcl,hfl,gF (j+1) (by omega) 136 (by decide)]
     (repeat' first|contradiction|exact .ok|apply And.intro|intro _|(apply gc<;>simp+contextual[u0]))
     refine ⟨j+1,by omega,?_,by simp; omega⟩
     refine aI _ [(1000000,1000000,_),(2,2,_),(3,3,_),(901,100,_)] ⟨by simp,by simp,?_,bK⟩ (by simp [aB,hwj])
     simp [aB,Blk.live,hE,Tb.c,aD]
 ·have hje:j=N:=by omega
  subst hje
  have hTl:=dU L (i+1) j
  simp [aQ,hTl]
  (repeat' first|contradiction|exact .ok|apply And.intro|intro _|(apply gc<;>simp+contextual))
  all_goals exact List.take_of_length_le (by simp [hTl])
theorem UL {L:List Int} {x:Tb} (h:qE x) (e:Nat):qE (OI L x e).1:=by
 unfold OI
 split
 ·refine ⟨⟨h.ok.cols,h.ok.pr,h.ok.un,h.ok.fk,by simp,h.ok.fkc⟩,?_,h.ty⟩
  have:=h.free
  exact this
 ·exact h
theorem lT {L:List Int} {a:Nat}:∀ {n:Nat} {x:Tb},x∈(bS L a n).1→∃ j b,x=(qD L j b).1
 | 0,x,h=>by simp [bS] at h
 | n+1,x,h=>by
   simp only [bS] at h
   rcases List.mem_append.1 h with h | h
   ·exact lT h
   ·exact ⟨n,_,by simpa using h⟩
theorem GC {L:List Int} {a n:Nat} {x:Tb} (h:x∈(bS L a n).1):qE x:=by
 obtain ⟨j,b,rfl⟩:=lT h
 exact UL (kE L j b) _
structure vJ (x:Tb) (a:At):Prop where
 col:0≤a.col∧a.col<x.cols.length
 key:cU x a.col=false
 kind:(a.op=21∧a.v=nulV)∨(dO x a.col=1∧14≤a.op∧a.op≤19∧a.v.k=1)∨(dO x a.col=2∧a.op=5∧a.v=nulV)∨(dO x a.col=2∧(a.op=14∨a.op=15)∧a.v.k=2)∨(dO x a.col=3∧(a.op=14∨a.op=15)∧a.v.k=3)
 val:a.v.valid=true
 len:a.v.t.length≤1
 no0:a.v.t ≠ [48]
 num:0≤a.v.n∧a.v.n≤2
theorem vK (L:List Int) {x:Tb} (h:qE x) (i:Nat):vJ x (lC L x i).1:=by
 have hf:=h.free
 have hfm:∀ c∈gR x x.cols.length,0≤c∧c<x.cols.length∧cU x c=false:=fun c h=>GR h
 unfold lC
 generalize gR x x.cols.length=Z at *
 have hnx:=bB L i (n:=Z.length) (by omega)
 have hzl:(aS L i Z.length).toNat<Z.length:=by omega
 obtain ⟨c,hc⟩:∃ c,c=Z[(aS L i Z.length).toNat]:=⟨_,rfl⟩
 have hcm:=hfm c (by rw [hc]; exact List.getElem_mem hzl)
 rw [gE hzl,← hc]
 simp only [Option.getD_some]
 obtain ⟨h0,h1,h2⟩:=hcm
 have v1:=bB L (i+2) (n:=6) (by omega)
 have v2:=bB L (i+2) (n:=2) (by omega)
 have v3:=bB L (i+3) (n:=2) (by omega)
 have nv:nulV.valid=true∧nulV.t.length≤1∧nulV.t ≠ [48]∧0≤nulV.n∧nulV.n≤2:=by decide
 have hty:dO x c=1∨dO x c=2∨dO x c=3:=by
  have hl:c.toNat<x.cols.length:=by omega
  have:=h.ty x.cols[c.toNat] (List.getElem_mem hl)
  unfold dO
  rw [gE hl]
  exact this
 split
 ·exact ⟨⟨h0,h1⟩,h2,.inl ⟨rfl,rfl⟩,nv.1,nv.2.1,nv.2.2.1,nv.2.2.2⟩
 split
 ·rename_i ht
  obtain ⟨s1,s2,s3,s4,s5⟩:=vX L (i+3) 1 (by omega)
  exact ⟨⟨h0,h1⟩,h2,.inr (.inl ⟨ht,by simp only; omega,by simp only; omega,s1⟩),s2,s3,s4,s5⟩
 split
 ·rename_i ht
  split
  ·exact ⟨⟨h0,h1⟩,h2,.inr (.inr (.inl ⟨ht,rfl,rfl⟩)),nv.1,nv.2.1,nv.2.2.1,nv.2.2.2⟩
  ·obtain ⟨s1,s2,s3,s4,s5⟩:=vX L (i+4) 2 (by omega)
   exact ⟨⟨h0,h1⟩,h2,.inr (.inr (.inr (.inl ⟨ht,by simp only; omega,s1⟩))),s2,s3,s4,s5⟩
 ·have ht:dO x c=3:=by omega
  obtain ⟨s1,s2,s3,s4,s5⟩:=vX L (i+3) 3 (by omega)
  exact ⟨⟨h0,h1⟩,h2,.inr (.inr (.inr (.inr ⟨ht,by simp only; omega,s1⟩))),s2,s3,s4,s5⟩
mutual
def Ex.shift:Ex→Int→Ex
 | .mk o c n t g ks,d=>.mk o c n t (if o=5 then IntKind.i64.wrap (g+d) else g) (eJ ks d)
def eJ:List Ex→Int→List Ex
 | [],_=>[]
 | e::es,d=>e.shift d::eJ es d
end
theorem fV:∀ (l:List Ex) (d:Int),eJ l d=l.map fun e=>e.shift d
 | [],_=>rfl
 | e::es,d=>by rw [eJ,fV es d]; rfl
@[simp] theorem aGG (l:List Ex) (d:Int) (n:Nat):(∀ x,x∈List.take n (l.map fun e=>(Ex.shift e d).c)→x.length=6)=True:=eq_true fun x hx=>by
  obtain ⟨a,_,rfl⟩:=List.mem_map.1 (List.mem_of_mem_take hx)
  exact Ex.clen _
theorem AF:∀ (m:Nat) (e:Ex),SizeOf.sizeOf e<m→∀ q:Nat,e.few q=true→∀ d:Int,Cf En 89 [e.a,.d (.int .i64 d)] [] (e.shift d).a []
 | 0,_,h,_,_,_=>absurd h (by omega)
 | m+1,.mk o c n t g ks,hm,q,hq,d=>by
   obtain ⟨hk,_,hfew⟩:=jI hq
   have hs:(Ex.mk o c n t g ks).shift d=.mk o c n t (if o=5 then IntKind.i64.wrap (g+d) else g) (ks.map fun e=>e.shift d):=by rw [Ex.shift,fV]
   rw [hs]
   obtain ⟨g',hg'⟩:∃ g',g'=if o=5 then IntKind.i64.wrap (g+d) else g:=⟨_,rfl⟩
   rw [← hg']
   refine cI aW (fn:=Tryz.f89) rfl ?_
   refine' (fun (key:WK En 37 0 { s:=cE [(1,.d (.int .i64 d)),(2,.ptr 2 0 0),(4,.ptr 4 0 0),(5,.ptr 5 0 0),(6,.d (.int .i64 0))],b:=cC [(2,2,.var [.d (.int .i64 o),.d (.int .i64 c),.d (.int .i64 n),.d (.str t),.d (.int .i64 g),.d (.sl (ks.map Ex.c))]),(4,4,.var [.d (.int .i64 0),.d (.int .i64 0),.d (.int .i64 0),.d (.str []),.d (.int .i64 0),.nils]),(5,5,.var [.d (.int .i64 o),.d (.int .i64 c),.d (.int .i64 n),.d (.str t),.d (.int .i64 g'),.nils])] } _ _)=>?main) ?keyg
   case main =>
    by_cases h5:o=5
    ·rw [if_pos h5] at hg'
     simp [Ex.a,Ex.c,aE,h5,← hg']
     (repeat' first|contradiction|exact .ok|apply And.intro|intro _|(apply gc<;>simp+contextual[h5]))
     refine key _ ?_
     exact sM _ [(2,2,_),(4,4,_),(5,5,_)] (by simp [aB,Blk.live,h5]) (by simp [aB])
    ·rw [if_neg h5] at hg'
     subst hg'
     simp [Ex.a,Ex.c,aE,h5]
     (repeat' first|contradiction|exact .ok|apply And.intro|intro _|(apply gc<;>simp+contextual[h5]))
     refine key _ ?_
     exact sM _ [(2,2,_),(4,4,_),(5,5,_)] (by simp [aB,Blk.live]) (by simp [aB])
   intro st hst
   refine aL aW (fun i:Nat=>{ s:=cE [(1,.d (.int .i64 d)),(2,.ptr 2 0 0),(4,.ptr 4 0 0),(5,.ptr 5 0 0),(6,.d (.int .i64 i))],b:=cC [(2,2,.var [.d (.int .i64 o),.d (.int .i64 c),.d (.int .i64 n),.d (.str t),.d (.int .i64 g),.d (.sl (ks.map Ex.c))]),(4,4,.var [.d (.int .i64 0),.d (.int .i64 0),.d (.int .i64 0),.d (.str []),.d (.int .i64 0),.nils]),(5,5,.var [.d (.int .i64 o),.d (.int .i64 c),.d (.int .i64 n),.d (.str t),.d (.int .i64 g'),.ref 900 0 i 6]),(900,900,.arr 89 6 ((ks.take i).map fun e=>(e.shift d).c) false)] }) (fun i=>i≤ks.length) (fun i=>ks.length - i) 0 (by simp)
    (hst.trans ((iH 5 900 89 6 5 (cells:=[.d (.int .i64 o),.d (.int .i64 c),.d (.int .i64 n),.d (.str t),.d (.int .i64 g'),.nils]) (by simp) rfl (by simp) (by decide) (by decide)).trans (sM _ [(2,2,_),(4,4,_),(5,5,_),(900,900,_)] (by simp [aB,Blk.live,bP]) (by simp [aB])))) ?_
   intro i hi
   by_cases hlt:i<ks.length
   ·obtain ⟨e,he⟩:∃ e,e=ks[i]:=⟨_,rfl⟩
    have hge:∀ h,ks[i]'h=e:=fun _=>he.symm
    have hem:e∈ks:=by rw [he]; exact List.getElem_mem hlt
    have hsz:SizeOf.sizeOf e<m:=by
     have:=List.sizeOf_lt_of_mem hem
     simp only [Ex.mk.sizeOf_spec] at hm
     omega
    have hrec:=AF m e hsz (q+1) (hfew e hem) d
    have hw:=wI (n:=(i:Int)+1)
    have htk:(ks.take (i+1)).map (fun e=>(e.shift d).c)=(ks.take i).map (fun e=>(e.shift d).c)++[(e.shift d).c]:=by rw [bI hlt,List.map_append,← he]; rfl
    have hml:min i ks.length=i:=by omega
    simp [hlt,hge,Ex.clen,Ex.ctake]
    (repeat' first|contradiction|exact .ok|apply And.intro|intro _|(apply gc<;>simp+contextual))
    refine aA hrec (by simp [Ex.a]) ?_
    simp [Ex.a,Ex.ctake',Ex.clen,hml,gF (i+1) (by omega) 72 (by decide)]
    (repeat' first|contradiction|exact .ok|apply And.intro|intro _|(apply gc<;>simp+contextual))
    refine ⟨i+1,by omega,?_,by simp; omega⟩
    refine sM _ [(2,2,_),(4,4,_),(5,5,_),(900,34,_)] (?_) (by simp [aB,hw])
    have htk':(ks.map fun e=>(e.shift d).c).take (i+1)=(ks.map fun e=>(e.shift d).c).take i++[(e.shift d).c]:=by rw [← List.map_take,htk,List.map_take]
    simp [aB,Blk.live,htk']
   have hie:i=ks.length:=by omega
   subst hie
   simp [aE]
   all_goals exact gz
end Go.Proofs.Tryz
