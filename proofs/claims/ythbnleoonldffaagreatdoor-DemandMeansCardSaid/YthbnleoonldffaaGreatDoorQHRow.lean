import Derived.Test.YthbnleoonldffaaGreatDoorQSmR
import Derived.Test.YthbnleoonldffaaGreatDoorQRwc
import Derived.Test.YthbnleoonldffaaGreatDoorQSvd
import Derived.Test.YthbnleoonldffaaGreatDoorQEnvR
import Derived.Test.YthbnleoonldffaaGreatDoorQSky
import Derived.Test.YthbnleoonldffaaGreatDoorAbB
import Derived.Lib.SmallJoins
import Derived.LaidMore
import Derived.Stop.Joined
import Derived.Deep.Slices
import Derived.ChangeMaps5
import Derived.HandedShaped
import Derived.Shelf.Vars
import Derived.Test.YthbnleoonldffaaGreatDoorRows
import Derived.Test.YthbnleoonldffaaGreatDoorChecked
set_option linter.all false
namespace Go.Proofs.Tryz
open Go.Ab
set_option maxRecDepth 100000
set_option maxHeartbeats 4000000
theorem uJ {α:Type} {p:α→Bool}:∀ {l:List α} {m k:Nat} {x:α},l[m]?=some x→p x=true→(∀ i y,i<m→l[i]?=some y→p y=false)→aY p l k=(k:Int)+m
 | [],m,k,x,h,_,_=>by simp at h
 | y::l,0,k,x,h,hp,_=>by
   simp only [List.getElem?_cons_zero,Option.some.injEq] at h
   subst h
   rw [aY,if_pos hp]; simp
 | y::l,m+1,k,x,h,hp,hn=>by
   rw [List.getElem?_cons_succ] at h
   rw [aY,if_neg (by rw [hn 0 y (by omega) (by simp)]; simp),uJ (k:=k+1) h hp fun i z hi hz=>hn (i+1) z (by omega) (by simpa using hz)]
   omega
def upN (j:Nat):Nat→List Int
 | 0=>[]
 | n+1=>(j:Int)::upN (j+1) n
theorem aBX {S:List Tb} {j:Nat}:HW S j=(aV S j).fk:=by
 unfold HW aV
 cases S[j]? <;> rfl
theorem DY {S:List Tb} (hd:VR S):∀ (n j:Nat) (out:List Int),j+n=S.length→jX S n (fun k=>decide (k<j)) out=(out++upN j n,0)
 | 0,j,out,h=>by simp [jX,upN]
 | n+1,j,out,h=>by
   have hr:iQ S (fun k=>decide (k<j))=j:=by
    unfold iQ
    have:=uJ (p:=AR S fun k=>decide (k<j)) (l:=bE (fun k=>k) S.length) (m:=j) (k:=0) (x:=j) (by rw [bR,if_pos (by omega)])
     (by
      unfold AR
      rw [aBX]
      simp only [Nat.lt_irrefl,decide_false,Bool.not_false,Bool.true_and,List.all_eq_true,decide_eq_true_eq]
      intro g hg
      exact (hd j (by omega) g hg).2)
     (fun i y hi hy=>by
      rw [bR,if_pos (by omega),Option.some.injEq] at hy
      subst hy
      unfold AR
      simp [hi])
    rw [this]; omega
   have hdn:VU (fun k=>decide (k<j)) (j:Int)=fun k=>decide (k<j+1):=by
    funext k
    unfold VU
    by_cases h1:k<j
    ·have h2:k<j+1:=by omega
     simp [h1,h2]
    ·by_cases h2:k=j
     ·subst h2; simp
     ·have h3:¬ (k:Int)=j:=by omega
      have h4:¬ k<j+1:=by omega
      simp [h1,h3,h4]
   rw [jX,hr,if_neg (by omega),hdn,DY hd n (j+1) _ (by omega),upN,List.append_assoc]
   rfl
theorem YN {S:List Tb} (hd:VR S):mM S=false:=by
 cases hm:mM S with
 | false=>rfl
 | true =>
   exfalso
   unfold mM at hm
   obtain ⟨x,hx,hm1⟩:=List.any_eq_true.1 hm
   obtain ⟨g,hg,hm2⟩:=List.any_eq_true.1 hm1
   obtain ⟨k,hk,rfl⟩:=List.getElem_of_mem hx
   have ht:aV S k=S[k]:=by unfold aV; rw [List.getElem?_eq_getElem hk]; rfl
   have:=(hd k hk g (by rw [ht]; exact hg)).1
   have h2:iB S g<0:=by simpa using hm2
   omega
theorem KR {S:List Tb} (hd:VR S):eX S=(upN 0 S.length,0):=by
 rw [uK,YN hd,if_neg (by simp)]
 have:=DY hd S.length 0 [] (by omega)
 simpa using this
theorem nP {α:Type} {f:Nat→α→Int}:∀ {l:List α} {k:Nat},(∀ i x,l[i]?=some x→f (k+i) x=0)→bC f l k=0
 | [],k,h=>rfl
 | y::l,k,h=>by
   have h0:=h 0 y (by simp)
   rw [bC,if_neg (by simpa using h0)]
   exact nP fun i x hi=>by
    have:=h (i+1) x (by simpa using hi)
    rw [← this]
    congr 1
    omega
theorem ZP:∀ i,i<6→∀ k,k<6→rD 116 i=rD 116 k→i=k:=by decide
theorem aFG:∀ k,k<6→fN (rD 116 k)=true:=by decide +kernel
theorem KY (L:List Int) (a k:Nat):(CJ L a k).t=1∨(CJ L a k).t=2∨(CJ L a k).t=3:=by
 have:=bG L (a+2*k) (n:=3) (by omega)
 simp only [CJ]
 omega
theorem aEd (n:List UInt8) (c0 c1:Col) (h0:c0.n=rD 99 0) (h1:c1.n=rD 99 1) (t0:c0.t=1∨c0.t=2∨c0.t=3) (t1:c1.t=1∨c1.t=2∨c1.t=3) (f0 f1:List UInt8) (x:Tb)
  (hx:x=⟨n,[idC,c0],[0],[],[],[]⟩∨x=⟨n,[idC,c0,UL 0],[0],[],[⟨[2],f0⟩],[]⟩∨x=⟨n,[idC,c0,UL 0,UL 1],[0],[],[⟨[2],f0⟩,⟨[3],f1⟩],[]⟩
   ∨ x=⟨n,[idC,c0,c1],[0],[],[],[]⟩∨x=⟨n,[idC,c0,c1,UL 0],[0],[],[⟨[3],f0⟩],[]⟩∨x=⟨n,[idC,c0,c1,UL 0,UL 1],[0],[],[⟨[3],f0⟩,⟨[4],f1⟩],[]⟩) :
  eT fN VX x=0∧eY x=true∧dE x 0=1∧∀ f∈x.fk,∃ c,f.cols=[c]∧dE x c=1:=by
 rcases c0 with ⟨n0,t0',b0⟩
 rcases c1 with ⟨n1,t1',b1⟩
 simp only at h0 h1 t0 t1
 subst h0 h1
 rcases hx with rfl | rfl | rfl | rfl | rfl | rfl
 ·rcases t0 with rfl | rfl | rfl <;> exact ⟨by kernel_rfl,by kernel_rfl,by kernel_rfl,by simp⟩
 ·rcases t0 with rfl | rfl | rfl <;> exact ⟨by kernel_rfl,by kernel_rfl,by kernel_rfl,by simp [dE,UL]⟩
 ·rcases t0 with rfl | rfl | rfl <;> exact ⟨by kernel_rfl,by kernel_rfl,by kernel_rfl,by simp [dE,UL]⟩
 ·rcases t0 with rfl | rfl | rfl <;> rcases t1 with rfl | rfl | rfl <;> exact ⟨by kernel_rfl,by kernel_rfl,by kernel_rfl,by simp⟩
 ·rcases t0 with rfl | rfl | rfl <;> rcases t1 with rfl | rfl | rfl <;> exact ⟨by kernel_rfl,by kernel_rfl,by kernel_rfl,by simp [dE,UL]⟩
 ·rcases t0 with rfl | rfl | rfl <;> rcases t1 with rfl | rfl | rfl <;> exact ⟨by kernel_rfl,by kernel_rfl,by kernel_rfl,by simp [dE,UL]⟩
theorem aCq (L:List Int) (j a:Nat):eT fN VX (kN L j a)=0∧eY (kN L j a)=true∧dE (kN L j a) 0=1∧∀ f∈(kN L j a).fk,∃ c,f.cols=[c]∧dE (kN L j a) c=1:=by
 have h1:=qH L a
 have h2:=GY L (a+1+2*eD L a) j
 refine aEd (rD 116 j) (CJ L (a+1) 0) (CJ L (a+1) 1) rfl rfl (KY ..) (KY ..) (fkP L (a+1+2*eD L a) j (eD L a+1) 0).t (fkP L (a+1+2*eD L a) j (eD L a+1) 1).t _ ?_
 unfold kN
 generalize a+1+2*eD L a=B at *
 generalize eD L a=m at *
 generalize AY L B j=z at *
 have hm:m=1∨m=2:=by omega
 have hz:z=0∨z=1∨z=2:=by omega
 rcases hm with rfl | rfl <;> rcases hz with rfl | rfl | rfl <;> simp [iR,PF,AX,fkP]
def aDe (x:Tb) (c:Nat) (v:V):Prop:=v.valid=true∧(v.k=(vO x c).t∨((vO x c).b=true∧v=nulV))
theorem LD {x:Tb} {c:Nat} (h:c<x.cols.length):dE x c=(vO x c).t:=by
 unfold dE vO
 rw [Int.toNat_natCast,List.getElem?_eq_getElem h]
 rfl
theorem UW (L:List Int) (i:Nat) (k:Int) (hk:k=1∨k=2∨k=3) (b:Bool):(lR L i k b).valid=true∧((lR L i k b).k=k∨(b=true∧lR L i k b=nulV)):=by
 unfold lR
 cases b with
 | false =>
   rw [if_neg (by decide)]
   obtain ⟨h1,h2,_⟩:=uF L i k hk
   exact ⟨h2,.inl h1⟩
 | true =>
   have all:∀ v∈bB k,v.valid=true∧(v.k=k∨v=nulV):=by
    rcases hk with rfl | rfl | rfl <;> decide
   have hl3:3≤(bB k).length:=by rcases hk with rfl | rfl | rfl <;> decide
   rw [if_pos rfl]
   obtain ⟨m,hm⟩:∃ m,m=min (bB k).length 4:=⟨_,rfl⟩
   rw [← hm]
   have hn:=bG L i (n:=(m:Int)) (by omega)
   have hlt:(aU L i (m:Int)).toNat<(bB k).length:=by omega
   rw [List.getElem?_eq_getElem hlt,Option.getD_some]
   obtain ⟨h1,h2⟩:=all _ (List.getElem_mem hlt)
   exact ⟨h1,h2.imp id fun h=>⟨rfl,h⟩⟩
structure uN (x:Tb):Prop where
 pr:∃ p:Nat,x.pr=[(p:Int)]∧p<x.cols.length
 fk:∀ f∈x.fk,∃ c:Nat,f.cols=[(c:Int)]∧c<x.cols.length∧fU x.pr ≠ c
 dis:(x.fk.map fun f=>fU f.cols).Nodup
 ty:∀ c,c<x.cols.length→(vO x c).t=1∨(vO x c).t=2∨(vO x c).t=3
theorem BG {x:Tb}:∀ {l:List Fk} {pre:List Int},kK x pre l=true→(∀ f∈l,PC x f=true∧fU f.cols ∉ pre)∧(l.map fun f=>fU f.cols).Nodup
 | [],pre,_=>⟨by simp,.nil⟩
 | f::l,pre,h=>by
   rw [kK,Bool.and_eq_true,Bool.and_eq_true] at h
   obtain ⟨⟨h1,h2⟩,h3⟩:=h
   obtain ⟨g1,g2⟩:=BG h3
   have hn:fU f.cols ∉ pre:=by simpa using h2
   refine ⟨fun g hg=>?_,?_⟩
   ·rcases List.mem_cons.1 hg with rfl | hg
    ·exact ⟨h1,hn⟩
    ·exact ⟨(g1 g hg).1,fun hm=>(g1 g hg).2 (List.mem_append_left _ hm)⟩
   ·rw [List.map_cons,List.nodup_cons]
    refine ⟨fun hm=>?_,g2⟩
    obtain ⟨g,hg,e⟩:=List.mem_map.1 hm
    exact (g1 g hg).2 (List.mem_append_right _ (by rw [e]; simp))
theorem aEg {S:List Tb} (h:oQ S) (hp:lT S=true) {x:Tb} (hx:x∈S):uN x:=by
 unfold lT KX at hp
 rw [Bool.and_eq_true] at hp
 have hpl:=List.all_eq_true.1 hp.2 x hx
 unfold eY at hpl
 rw [Bool.and_eq_true,Bool.and_eq_true] at hpl
 obtain ⟨hpr,hfk,_⟩:=hpl
 obtain ⟨g1,g2⟩:=BG hfk
 obtain ⟨p1,p2,p3⟩:=h.pr x hx
 obtain ⟨_,f1⟩:=h.fk x hx
 refine ⟨?_,fun f hf=>?_,g2,fun c hc=>?_⟩
 ·obtain ⟨p,hpe⟩:=kL p1
  rw [hpe] at p2 p3
  simp only [fU,List.headD_cons] at p2 p3
  exact ⟨p.toNat,by rw [hpe,Int.toNat_of_nonneg p2],by omega⟩
 ·obtain ⟨c1,c2,c3⟩:=f1 f hf
  obtain ⟨c,hce⟩:=kL c1
  have hb:=(g1 f hf).1
  unfold PC at hb
  simp only [Bool.and_eq_true,Bool.not_eq_true',beq_eq_false_iff_ne] at hb
  have hne:=hb.2.2.2
  rw [hce] at c2 c3 hne
  simp only [fU,List.headD_cons] at c2 c3 hne
  refine ⟨c.toNat,by rw [hce,Int.toNat_of_nonneg c2],by omega,?_⟩
  rw [Int.toNat_of_nonneg c2]
  exact fun e=>hne e.symm
 ·unfold vO
  rw [List.getElem?_eq_getElem hc]
  exact h.ty x hx _ (List.getElem_mem hc)
structure EJ (S:List Tb) (T:Nat→List (List V)) (x:Tb) (n:Nat) (row:List V):Prop where
 len:row.length=x.cols.length
 pr:row[(fU x.pr).toNat]?=some (kJ (n+1))
 fk:∀ f∈x.fk,∃ q:Nat,row[(fU f.cols).toNat]?=some (kJ (1+q))∧q<(T (lG S f)).length
 val:∀ c,c<x.cols.length→dJ x c=false→∀ v,row[c]?=some v→aDe x c v
theorem aAf {x:Tb} {c:Int}:dJ x c=false→c ∉ x.pr∧∀ f∈x.fk,c ∉ f.cols:=by
 intro h
 unfold dJ at h
 rw [Bool.or_eq_false_iff] at h
 refine ⟨by simpa using h.1,fun f hf hm=>?_⟩
 have:=h.2
 rw [List.any_eq_false] at this
 exact this f hf (by simpa using hm)
def RX (S:List Tb) (T:Nat→List (List V)) (j:Nat):Prop:=∀ k,k<j→∀ n row,(T k)[n]?=some row→EJ S T (aV S k) n row
theorem aAg {S:List Tb} {T U:Nat→List (List V)} {x:Tb} {n:Nat} {row:List V} (h:EJ S T x n row) (he:∀ f∈x.fk,U (lG S f)=T (lG S f)):EJ S U x n row :=
 ⟨h.len,h.pr,fun f hf=>by rw [he f hf]; exact h.fk f hf,h.val⟩
theorem V.beq_g {u v:V} (h:V.beq u v=false):(u.k==v.k&&(u.n==v.n&&u.t==v.t))=false:=h
@[simp] theorem aFS {E:dZ} {fn:Func} {y:AV} {st:St} {b1 b2 b3:Blk}:Ab.Ends E fn 3 y [b1,b2,b3] st=zA 3 (pF E fn st) st.b y [b1,b2,b3]:=kP (B':=[b1,b2,b3])
theorem qY {b0 b1 b2:Blk} {bl:Nat→Blk} (h0:((bl 1000000).live=true∨bl 1000000=.dead)∧(iH (aB (rZ [b0,b1,b2])) bl true (bl 1000000)).1=b0)
  (h1:((bl 1000001).live=true∨bl 1000001=.dead)∧(iH (aB (rZ [b0,b1,b2])) bl true (bl 1000001)).1=b1)
  (h2:((bl 1000002).live=true∨bl 1000002=.dead)∧(iH (aB (rZ [b0,b1,b2])) bl true (bl 1000002)).1=b2):KeptOk 3 bl (rZ [b0,b1,b2]):=by
 have:=@tG [b0,b1,b2] bl
 simp only [List.length_cons,List.length_nil,Nat.zero_add,Nat.reduceAdd] at this
 rw [this]
 intro i c hc
 match i,hc with
 | 0,hc=>cases hc; exact h0
 | 1,hc=>cases hc; exact h1
 | 2,hc=>cases hc; exact h2
theorem aDa {l:iW} {b0 b1 b2:Blk}:∀ j,j<3→∃ p∈((1000000,1000000,b0)::(1000001,1000001,b1)::(1000002,1000002,b2)::l),p.1=aF+j∧p.2.1=aF+j:=fun j hj=>by
 rcases (by omega:j=0∨j=1∨j=2) with rfl | rfl | rfl
 ·exact ⟨_,List.mem_cons_self,rfl,rfl⟩
 ·exact ⟨_,List.mem_cons_of_mem _ List.mem_cons_self,rfl,rfl⟩
 ·exact ⟨_,List.mem_cons_of_mem _ (List.mem_cons_of_mem _ List.mem_cons_self),rfl,rfl⟩
theorem RH {α:Type} {P:α→Prop} {a b c:α} (ha:P a) (hb:P b) (hc:P c):∀ x∈[a,b,c],P x:=fun x hx=>by
 rcases List.mem_cons.1 hx with rfl | hx
 ·exact ha
 ·rcases List.mem_cons.1 hx with rfl | hx
  ·exact hb
  ·rw [List.mem_singleton] at hx; subst hx; exact hc
def xI (p c:Nat) (row r:List V):Bool:=decide (p<r.length)&&(V.beq ((r[p]?).getD nulV) ((row[c]?).getD nulV)&&!(((row[c]?).getD nulV).k==0))
theorem aFt (o:Tb) (f:Fk) (p c:Nat) (hp:o.pr=[(p:Int)]) (hc:f.cols=[(c:Int)]) (row r:List V) (hcl:c<row.length) :
  Cf En 197 [.d (.sl (r.map V.c)),.ptr 1000000 0 0,.ptr 1000001 0 0,.ptr 1000002 0 0] [.var (o.c.map AV.d),.var [.d (.sl (row.map V.c))],.var (f.c.map AV.d)] (.d (.bool (xI p c row r))) [.var (o.c.map AV.d),.var [.d (.sl (row.map V.c))],.var (f.c.map AV.d)]:=by
 refine aD aW (fn:=Tryz.f197) (by kernel_rfl) rfl (by kernel_rfl) (by decide) (by simp) ?_
 have hip:aG o.pr=[[.int .i64 p]]:=by rw [hp]; rfl
 have hic:aG f.cols=[[.int .i64 c]]:=by rw [hc]; rfl
 obtain ⟨v,hv⟩:∃ v,v=row[c]:=⟨_,rfl⟩
 have hgv:∀ h,row[c]'h=v:=fun _=>hv.symm
 have hH:xI p c row r=(decide (p<r.length)&&(V.beq ((r[p]?).getD nulV) v&&!(v.k==0))):=by unfold xI; rw [List.getElem?_eq_getElem hcl,← hv]; rfl
 rw [hH]
 by_cases hpl:p<r.length
 ·have hpi:(p:Int)<r.length:=by omega
  obtain ⟨w,hw⟩:∃ v,v=r[p]:=⟨_,rfl⟩
  have hgw:∀ h,r[p]'h=w:=fun _=>hw.symm
  have hg2:(r[p]?).getD nulV=w:=by rw [List.getElem?_eq_getElem hpl,← hw]; rfl
  rw [hg2]
  cases hb:V.beq w v with
  | true =>
    rw [V.beq_iff] at hb
    subst hb
    by_cases hk:w.k=0
    ·simp [Tb.c,Fk.c,hip,hic,hpl,hpi,hgw,hgv,hcl,V.c,hk]
     (repeat' first|contradiction|exact .ok|apply And.intro|intro _|(apply gc<;>simp+contextual[hpl,hpi,hgw,hgv,hcl,V.c,hk]))
     all_goals first | (refine qY ?_ ?_ ?_ <;> simp [Tb.c,Fk.c,hip,hic]; done) | (simp [Tb.c,Fk.c,hip,hic]; done) | skip
    ·simp [Tb.c,Fk.c,hip,hic,hpl,hpi,hgw,hgv,hcl,V.c,hk]
     (repeat' first|contradiction|exact .ok|apply And.intro|intro _|(apply gc<;>simp+contextual[hpl,hpi,hgw,hgv,hcl,V.c,hk]))
     all_goals first | (refine qY ?_ ?_ ?_ <;> simp [Tb.c,Fk.c,hip,hic]; done) | (simp [Tb.c,Fk.c,hip,hic]; done) | skip
  | false =>
    have hne:=V.beq_g hb
    simp [Tb.c,Fk.c,hip,hic,hpl,hpi,hgw,hgv,hcl,V.c,hne]
    (repeat' first|contradiction|exact .ok|apply And.intro|intro _|(apply gc<;>simp+contextual[hpl,hpi,hgw,hgv,hcl,V.c,hne]))
    all_goals first | (refine qY ?_ ?_ ?_ <;> simp [Tb.c,Fk.c,hip,hic]; done) | (simp [Tb.c,Fk.c,hip,hic]; done) | skip
 ·have hpi:¬ (p:Int)<r.length:=by omega
  simp [Tb.c,Fk.c,hip,hic,hpl,hpi]
  (repeat' first|contradiction|exact .ok|apply And.intro|intro _|(apply gc<;>simp+contextual[hpl,hpi]))
  all_goals first | (refine qY ?_ ?_ ?_ <;> simp [Tb.c,Fk.c,hip,hic]; done) | (simp [Tb.c,Fk.c,hip,hic]; done) | skip
def OW (p c:Nat) (rows:List (List V)) (row:List V):Int:=if c<row.length then aY (xI p c row) rows 0 else -1
theorem aDT (o:Tb) (f:Fk) (p c:Nat) (hp:o.pr=[(p:Int)]) (hc:f.cols=[(c:Int)]) (row:List V) (rows:List (List V)) (hcl:c<row.length) (hl:rows.length≤1000) :
  Cf En 196 [.d (.sl (rows.map cC)),.clo 197 [.ptr 1000000 0 0,.ptr 1000001 0 0,.ptr 1000002 0 0]] [.var (o.c.map AV.d),.var [.d (.sl (row.map V.c))],.var (f.c.map AV.d)] (.d (.int .i64 (aY (xI p c row) rows 0))) [.var (o.c.map AV.d),.var [.d (.sl (row.map V.c))],.var (f.c.map AV.d)]:=by
 refine aD aW (fn:=Tryz.f196) (by kernel_rfl) rfl (by kernel_rfl) (by decide) (by simp) ?_
 simp
 (repeat' first|contradiction|exact .ok|apply And.intro|intro _|(apply gc<;>simp+contextual))
 refine aL aW (by decide) (fun i:Nat=>{ s:=cG [(0,.d (.sl (rows.map cC))),(1,.clo 197 [.ptr 1000000 0 0,.ptr 1000001 0 0,.ptr 1000002 0 0]),(7,.d (.int .i64 rows.length)),(8,.d (.int .i64 i))],b:=cE [(1000000,1000000,.var (o.c.map AV.d)),(1000001,1000001,.var [.d (.sl (row.map V.c))]),(1000002,1000002,.var (f.c.map AV.d))] }) (fun i=>i≤rows.length∧aY (xI p c row) (rows.drop i) i=aY (xI p c row) rows 0) (fun i=>rows.length - i) 0 (by simp)
  (aE _ [(1000000,1000000,_),(1000001,1000001,_),(1000002,1000002,_)] ⟨by simp,by simp,by refine RH ?_ ?_ ?_ <;> simp [aB,Blk.live,Tb.c,Fk.c],aDa⟩ (by simp [aB])) ?_
 rintro i ⟨hi,hf⟩
 by_cases hlt:i<rows.length
 ·rw [dX hlt] at hf
  obtain ⟨r,hr⟩:∃ u,u=rows[i]:=⟨_,rfl⟩
  have hgi:∀ h,rows[i]'h=r:=fun _=>hr.symm
  rw [← hr] at hf
  have hh:=aFt o f p c hp hc row r hcl
  generalize xI p c row r=B at *
  have hw:=aH (n:=(i:Int)+1) (by omega) (by omega)
  simp [hlt,hgi,cC]
  (repeat' first|contradiction|exact .ok|apply And.intro|intro _|(apply gc<;>simp+contextual))
  refine aK [1000000,1000001,1000002] hh (by simp) (by simp) (by simp) (by simp [Tb.c,Fk.c]) (by simp [kQ]) ?_
  cases B with
  | false =>
    simp
    (repeat' first|contradiction|exact .ok|apply And.intro|intro _|(apply gc<;>simp+contextual))
    refine ⟨i+1,⟨by omega,by simpa using hf⟩,?_,by simp; omega⟩
    exact aE _ [(1000000,1000000,_),(1000001,1000001,_),(1000002,1000002,_)] ⟨by simp,by simp,by refine RH ?_ ?_ ?_ <;> simp [aB,Blk.live,Tb.c,Fk.c],aDa⟩ (by simp [aB,hw])
  | true =>
    simp only [if_true] at hf
    simp [← hf]
    (repeat' first|contradiction|exact .ok|apply And.intro|intro _|(apply gc<;>simp+contextual))
    all_goals first | (refine qY ?_ ?_ ?_ <;> simp [Tb.c,Fk.c]; done) | (simp [Tb.c,Fk.c]; done) | skip
 obtain rfl:i=rows.length:=by omega
 rw [List.drop_length,aY] at hf
 simp [← hf]
 (repeat' first|contradiction|exact .ok|apply And.intro|intro _|(apply gc<;>simp+contextual))
 all_goals first | (refine qY ?_ ?_ ?_ <;> simp [Tb.c,Fk.c]; done) | (simp [Tb.c,Fk.c]; done) | skip
def YO (z:Int):AV:=.tup [.d (.int .i64 (max z 0)),.d (.bool (decide (0≤z)))]
theorem aDU (o:Tb) (f:Fk) (p c:Nat) (hp:o.pr=[(p:Int)]) (hc:f.cols=[(c:Int)]) (row:List V) (rows:List (List V)) (hl:rows.length≤1000) :
  Cf En 123 [o.a,.d (.sl (rows.map cC)),f.a,.d (.sl (row.map V.c))] [] (YO (OW p c rows row)) []:=by
 refine aD aW (fn:=Tryz.f123) (by kernel_rfl) rfl (by kernel_rfl) (by decide) (by simp) ?_
 have hip:aG o.pr=[[.int .i64 p]]:=by rw [hp]; rfl
 have hic:aG f.cols=[[.int .i64 c]]:=by rw [hc]; rfl
 have l1:o.pr.length=1:=by rw [hp]; rfl
 have l2:f.cols.length=1:=by rw [hc]; rfl
 have n1:¬ (p:Int)<0:=by omega
 have n2:¬ (c:Int)<0:=by omega
 unfold OW YO
 by_cases hcl:c<row.length
 ·have hci:¬ (row.length:Int)≤c:=by omega
  have hh:=aDT o f p c hp hc row rows hcl hl
  rw [if_pos hcl]
  generalize aY (xI p c row) rows 0=F at *
  simp [Tb.a,Tb.c,Fk.a,Fk.c,hip,hic,l1,l2,n1,n2,hci,hcl]
  (repeat' first|contradiction|exact .ok|apply And.intro|intro _|(apply gc<;>simp+contextual[hip,hic,l1,l2,n1,n2,hci,hcl,Tb.c,Fk.c]))
  refine aK [4,7,6] hh (by simp) (by simp) (by simp) (by simp [Tb.c,Fk.c,hip,hic]) (by simp [kQ]) ?_
  simp
  (repeat' first|contradiction|exact .ok|apply And.intro|intro _|(apply gc<;>simp+contextual))
  all_goals (split <;> omega)
 ·have hci:(row.length:Int)≤c:=by omega
  rw [if_neg hcl]
  simp [Tb.a,Tb.c,Fk.a,Fk.c,hip,hic,l1,l2,n1,n2,hci,hcl]
  (repeat' first|contradiction|exact .ok|apply And.intro|intro _|(apply gc<;>simp+contextual[hip,hic,l1,l2,n1,n2,hci,hcl,Tb.c,Fk.c]))
  all_goals omega
end Go.Proofs.Tryz
namespace Go.Proofs.YthbnleoonldffaaGreatDoor
open Go.ChangeShapes Go.WideShapes Go.ChangeAt Go.RowKit Go.Ab Go.Proofs.Tryz
set_option maxRecDepth 100000
theorem own:ownKnob Tryz.prog.godebug=none:=by kernel_rfl
theorem aBM:laidOutB Tryz.prog=true:=by kernel_rfl
theorem XZ : Tryz.prog.globalNamed "querylab/value.null" = some 2 := by kernel_rfl
theorem aFj:(Tryz.prog.globals[2]?).map (·.type)=some 111:=by kernel_rfl
theorem aDF : Tryz.prog.globalNamed "querylab/expression.operations" = some 1 := by kernel_rfl
theorem aGB:(Tryz.prog.globals[1]?).map (·.type)=some 350:=by kernel_rfl
theorem KE {W:World} (hs:W.ShapedOpen Tryz.prog):dC (tR W) 3 0 [.any XP]∧∃ a ety z,W.heap[3]?=some (.cells a ety z)∧a.size=1:=by
 obtain ⟨m,hm⟩:=Go.Proofs.cell_of_shapedOpen_int (g:=3) (zero:=#[.int .i64 0]) (t:=3) hs (of_decide_eq_true (by kernel_rfl)) (by kernel_rfl) rfl (by kernel_rfl) (by kernel_rfl) Tryz.underlying3
 obtain ⟨cs,hh,hz,_⟩:=hs.1 3 #[.int .i64 0] 3 (of_decide_eq_true (by kernel_rfl)) (by kernel_rfl)
 refine ⟨?_,cs,3,(0,0),hh,hz⟩
 simp only [dC,aX]
 exact ⟨⟨.int .i64 m,hm,⟨m,rfl⟩,rfl⟩,trivial⟩
def KF : List (String × DataW Unit) := [("querylab/value.null", Rows.laid_querylab_value_null), ("querylab/expression.operations", Rows.laid_querylab_expression_operations)]
theorem YA {W:World} (h:laidMetH Tryz.prog KF W) (hs:W.ShapedOpen Tryz.prog):∀ g cs,Es.G g=some cs→dC (tR W) g 0 cs∧∃ a ety z,W.heap[g]?=some (.cells a ety z)∧a.size=cs.length:=by
 rw [MakeChecks.laidMetH_plain _ _ _ (by kernel_rfl)] at h
 obtain ⟨ps,⟨g0,t0,cs0,f0,p0,q0,hg0,ht0,hv0,hd0,⟨g1,t1,cs1,f1,p1,q1,hg1,ht1,hv1,hd1,_,_⟩,_⟩,_,_⟩:=h
 obtain rfl:=Option.some.inj (XZ.symm.trans hg0)
 obtain rfl:=Option.some.inj (aFj.symm.trans ht0)
 obtain rfl:=Option.some.inj (aDF.symm.trans hg1)
 obtain rfl:=Option.some.inj (aGB.symm.trans ht1)
 intro g cs hg
 rw [aFc,esG] at hg
 split at hg
 ·rename_i e
  subst e
  cases hg
  exact ⟨IN (m:=3) XZ hv0 hd0 (by kernel_rfl),CX (m:=3) XZ hv0 hd0 (by kernel_rfl)⟩
 ·split at hg
  ·rename_i e
   subst e
   cases hg
   exact ⟨IN (m:=4) aDF hv1 hd1 (by kernel_rfl),CX (m:=4) aDF hv1 hd1 (by kernel_rfl)⟩
  ·split at hg
   ·rename_i e
    subst e
    cases hg
    exact KE hs
   ·cases hg
theorem aFk (os:Os) (args:Array Value):laidMetH Tryz.prog KF ((World.doorLaid Tryz.prog 400 os).forCall (fun _ _=>0) ⟨#[],args,[]⟩).memory :=
 laidMetH_of_parts3 (fuel:=8) (laidMet_of_run' 8 (by kernel_rfl) (by kernel_rfl)) (by kernel_rfl) (by kernel_rfl)
theorem CG {H:Type} {enc:TypeId×Value→H} {a:Assume} {C:Checked} {os:Os} {f:FuncId} {fn:Func} {s:ChangeSpec} {conds:List PathCond} {apart fresh handsOn again:Bool} {X:World→Array Value→Prop}
  (hX:∀ (w w':World) (args:Array Value),w.heap=w'.heap→X w args→X w' args)
  (own:ownKnob C.prog.godebug=none) (started:os.Started) (noInit:C.prog.inits.idxOf? f=none) (hfn:C.prog.funcs[f]?=some fn)
  (witness:∃ (w:World) (tape:Tape) (i:Input),w.os=os∧(w.forCall tape i).Shaped C.prog∧i.vars=[]∧Input.okWide C.prog (w.forCall tape i) .any w.heap.size f i ∧
   ((s.pre enc C.prog fn conds apart (w.forCall tape i).memory i.args∧X (w.forCall tape i).memory i.args)∧sizedMet enc C.prog fn (OpenSpec.ofChange s) apart (w.forCall tape i).memory i.args)∧a.holds C.prog (lone (Frame.enter C.prog f i.args .normal) [] (w.forCall tape i)))
  (contract:∀ (W:World) (base:Nat) (args:Array Value) (ds gs:List (DataW H)) (before:List MemPlace),
   (∀ (j:Nat) t v,fn.params[j]?=some t→args[j]?=some v→Value.okWide C.prog W .any base t v) →
   DataW.Whole enc C.prog fn.params.toList s.vars apart W args.toList ds gs before →
   W.ShapedOpen C.prog→X W args →
   Calls C.prog f args W fun e W'=>∃ v,e=.returned v∧s.post enc C.prog fn apart fresh handsOn again W args v W') :
  ReturnsInHanded a C os f .any (fun w args=>(s.pre enc C.prog fn conds apart w args∧X w args)∧sizedMet enc C.prog fn (OpenSpec.ofChange s) apart w args) (s.post enc C.prog fn apart fresh handsOn again):=by
 refine returnsInHanded_of_calls own started noInit witness ?_
 intro w tape i _ hsh _ hok hpre hholds
 obtain ⟨_,_,_,fn',hfn',_,_,_,_,hval⟩:=hok
 have e:fn'=fn:=Option.some.inj (hfn'.symm.trans hfn)
 subst e
 obtain ⟨⟨⟨ds,gs,before,hw,hc⟩,hx⟩,hz⟩:=hpre
 have hw':=DataW.Whole.of_heap (w':=w.forCall tape i) (by rfl) hw
 refine (contract (w.forCall tape i) w.heap.size i.args ds gs before hval hw' hsh (hX _ _ _ (by rfl) hx)).mono fun e W' ⟨v,he,hp⟩=>?_
 subst he
 exact ChangeSpec.post_blind hp
theorem aBN {H:Type} {enc:TypeId×Value→H} {W:World} {base:Nat} {spare:Nat→Bool} {held:Bool} {r:Reach} {b0:Nat} {v:Value} {d:DataW H} {p:List MemPlace}
  (hv:Value.okWide Tryz.prog W r b0 22 v) (h:DataW.Trod enc Tryz.prog W base spare held 22 v d p) :
  ∃ l:List Int,aX (tR W) v (.sl (aG l)):=by
 obtain ⟨a,len,cap,rfl⟩:=okWide_slice (e:=3) (by kernel_rfl) hv
 obtain ⟨fuel,h⟩:=h
 rcases Go.Deep.open_slice (e:=3) (by kernel_rfl) h with ⟨hc,_⟩ | ⟨a',len',cap',m,n,D,Pl,hc,_,hl,_,hm,_,hi⟩
 ·simp only [Value.cells,List.cons.injEq,and_true] at hc
  simp at hc
  obtain ⟨rfl,rfl,rfl⟩:=hc
  exact ⟨[],by simp only [aX]; exact ⟨none,0,rfl,Nat.le_refl _,.inl rfl⟩⟩
 ·simp [Value.cells] at hc
  obtain ⟨rfl,rfl,rfl⟩:=hc
  have hsz:Tryz.prog.cellsOf 3=1:=by
   have:(Tryz.prog.cellsOf 3==1)=true:=by kernel_rfl
   simpa using this
  obtain ⟨l,_,hr⟩:=aDk (w:=W) (a:=a') (len:=len) (cap:=cap) (sz:=1) (fun n:Int=>[Go.Ab.D.int .i64 n]) hl (fun _=>rfl) (by decide) fun i hlt=>by
   obtain ⟨cs,hc,ht⟩:=hi i (by rw [hm]; split <;> omega)
   rw [hsz] at hc
   obtain ⟨_,hcl,hat⟩:=World.cells?_some hc
   obtain ⟨k,e0,_,_⟩:=DataW.trod_int (k:=.i64) (by kernel_rfl) ht
   subst e0
   refine ⟨k,fun j c hj=>?_⟩
   have hj0:j=0:=by
    have:=(List.getElem?_eq_some_iff.1 hj).1
    simpa using this
   subst hj0
   cases hj
   refine ⟨.int .i64 k,?_,by simp only [aX]⟩
   rw [← Go.Deep.add_add,hat 0 (by decide)]; rfl
  exact ⟨l,hr⟩
end Go.Proofs.YthbnleoonldffaaGreatDoor
