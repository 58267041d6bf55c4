import Derived.Test.YtkkbepgccddjoaaGreatDoorAGud
import Derived.Test.YtkkbepgccddjoaaGreatDoorARsm
set_option linter.all false
namespace Go.Proofs.Tryz
open Go.Ab
set_option maxRecDepth 100000
set_option maxHeartbeats 1000000
structure TabIs (L:List Int) (x:Tb):Prop where
 pr:x.pr=[0]
 un:x.un=[]
 cols:2≤x.cols.length∧x.cols.length≤5
 fk:x.fk.length≤2
 fkc:∀ f∈x.fk,∃ c:Nat,f.cols=[(c:Int)]∧1≤c∧c<x.cols.length
 ty:∀ c∈x.cols,c.t=1∨c.t=2∨c.t=3
theorem tab0_is (L:List Int) (j a:Nat):TabIs L (tab0 L j a):=by
 have h1:=freeP_in L a
 have h2:=pkN_le L (a+1+2*freeP L a) j
 have hty:=(tab0_made L j a).ty
 unfold tab0 at *
 generalize freeP L a=m at *
 generalize pkN L (a+1+2*m) j=z at *
 refine ⟨rfl,rfl,by simp only [colsP_len]; omega,by simp only [fksP_len]; omega,fun f hf=>?_,hty⟩
 obtain ⟨k,hk,rfl⟩:=upL_mem hf
 refine ⟨m+1+k,rfl,by omega,?_⟩
 simp only [colsP_len]
 omega
theorem tabs_is {L:List Int} {a n:Nat} {x:Tb} (h:x∈(tabsP L a n).1):TabIs L x:=by
 obtain ⟨j,b,rfl⟩:=tabsP_mem h
 obtain ⟨p1,p2,p3,p4,p5,_⟩:=ck_parts L (tab0 L j b) (pkE L (b+1+2*freeP L b) j)
 have h0:=tab0_is L j b
 unfold tabP
 refine ⟨by rw [p4]; exact h0.pr,by rw [p1]; exact h0.un,by rw [p3]; exact h0.cols,by rw [p5]; exact h0.fk,fun f hf=>?_,by rw [p3]; exact h0.ty⟩
 rw [p5] at hf
 rw [p3]
 exact h0.fkc f hf
theorem fill_of {L:List Int} {S:List Tb} (h:SOk S) (hl:S.length≤10) (ht:∀ x∈S,TabIs L x):FillOk S:=by
 refine ⟨h,hl,fun x hx=>?_,fun x hx=>?_,fun x hx=>(ht x hx).ty,fun x hx=>by have:=(ht x hx).cols; omega⟩
 ·have t:=ht x hx
  have c:=t.cols
  rw [t.pr]
  exact ⟨rfl,by simp [hdI],by simp [hdI]; omega⟩
 ·have t:=ht x hx
  refine ⟨by have:=t.fk; omega,fun f hf=>?_⟩
  obtain ⟨c,e,c1,c2⟩:=t.fkc f hf
  rw [e]
  exact ⟨rfl,by simp [hdI],by simp [hdI]; omega⟩
theorem free_is {L:List Int} {x:Tb} (t:TabIs L x):TabIs L x.free:=⟨t.pr,t.un,t.cols,t.fk,t.fkc,t.ty⟩
theorem fill_free (L:List Int) (a n:Nat) (hn:n≤10):FillOk (freS (tabsP L a n).1) :=
 fill_of (sok_free (sok_made L a n hn)) (by rw [freS_len,tabsP_len]; exact hn) fun x hx=>by
  obtain ⟨y,hy,rfl⟩:=List.mem_map.1 hx
  exact free_is (tabs_is hy)
end Go.Proofs.Tryz
namespace Go.Proofs.Tryz
open Go.Ab
set_option maxRecDepth 100000
set_option maxHeartbeats 1000000
def Dec (S:List Tb):Prop:=∀ k,k<S.length→∀ g∈(tabO S k).fk,0≤tgt S g∧tgN S g<k
end Go.Proofs.Tryz
namespace Go.Proofs.Tryz
open Go.Ab
set_option maxRecDepth 100000
set_option maxHeartbeats 1000000
theorem fidx_first {α:Type} {p:α→Bool}:∀ {l:List α} {m k:Nat} {x:α},l[m]?=some x→p x=true→(k:Int)≤fidx p l k∧fidx p l k≤(k:Int)+m
 | [],m,k,x,h,_=>by simp at h
 | y::l,0,k,x,h,hp=>by
   simp only [List.getElem?_cons_zero,Option.some.injEq] at h
   subst h
   rw [fidx,if_pos hp]; omega
 | y::l,m+1,k,x,h,hp=>by
   rw [List.getElem?_cons_succ] at h
   rw [fidx]
   split
   ·omega
   ·have:=fidx_first (k:=k+1) h hp
    omega
def DecN (S:List Tb):Prop:=∀ k x,S[k]?=some x→x.n=nmG 116 k∧∀ g∈x.fk,∃ m,m<k∧g.t=nmG 116 m
theorem tabP_dec (L:List Int) (j a:Nat):(tabP L j a).1.n=nmG 116 j∧∀ g∈(tabP L j a).1.fk,∃ m,m<j∧g.t=nmG 116 m:=by
 obtain ⟨_,p2,_,_,p5,_⟩:=ck_parts L (tab0 L j a) (pkE L (a+1+2*freeP L a) j)
 unfold tabP
 rw [p2,p5]
 refine ⟨rfl,fun g hg=>?_⟩
 obtain ⟨k,hk,rfl⟩:=upL_mem hg
 have hj:0<j:=by
  rcases Nat.eq_zero_or_pos j with rfl | h
  ·simp [pkN] at hk
  ·exact h
 have:=nextV_in L (a+1+2*freeP L a+2*k+1) (n:=(j:Int)) (by omega)
 exact ⟨_,by omega,rfl⟩
theorem dec_made (L:List Int) (a:Nat):∀ n,DecN (tabsP L a n).1
 | 0=>fun k x h=>by simp [tabsP] at h
 | n+1=>fun k x h=>by
   simp only [tabsP] at h
   rw [List.getElem?_append,tabsP_len] at h
   split at h
   ·exact dec_made L a n k x h
   ·rename_i hk
    have h0:k=n:=by
     have:=(List.getElem?_eq_some_iff.1 h).1
     simp at this; omega
    subst h0
    rw [Nat.sub_self,List.getElem?_cons_zero,Option.some.injEq] at h
    subst h
    exact tabP_dec L k _
theorem dec_free {S:List Tb} (h:DecN S):DecN (freS S):=fun k x hx=>by
 unfold freS at hx
 rw [List.getElem?_map] at hx
 cases hs:S[k]? with
 | none=>rw [hs] at hx; cases hx
 | some y =>
   rw [hs] at hx
   simp only [Option.map_some,Option.some.injEq] at hx
   subst hx
   exact h k y hs
theorem dec_of {S:List Tb} (h:DecN S):Dec S:=fun k hk g hg=>by
 have hx:S[k]?=some S[k]:=List.getElem?_eq_getElem hk
 unfold tabO at hg
 rw [hx] at hg
 obtain ⟨m,hm,e⟩:=(h k _ hx).2 g hg
 have hy:S[m]?=some (S[m]'(by omega)):=List.getElem?_eq_getElem (by omega)
 have:=fidx_first (p:=fun x:Tb=>x.n==g.t) (k:=0) hy (by rw [(h m _ hy).1,e]; exact beq_self_eq_true _)
 unfold tgN tgt
 omega
end Go.Proofs.Tryz
namespace Go.Proofs.Tryz
open Go.Ab
set_option maxRecDepth 100000
set_option maxHeartbeats 1000000
theorem fidx_at {α:Type} {p:α→Bool}:∀ {l:List α} {m k:Nat} {x:α},l[m]?=some x→p x=true→(∀ i y,i<m→l[i]?=some y→p y=false)→fidx p l k=(k:Int)+m
 | [],m,k,x,h,_,_=>by simp at h
 | y::l,0,k,x,h,hp,_=>by
   simp only [List.getElem?_cons_zero,Option.some.injEq] at h
   subst h
   rw [fidx,if_pos hp]; simp
 | y::l,m+1,k,x,h,hp,hn=>by
   rw [List.getElem?_cons_succ] at h
   rw [fidx,if_neg (by rw [hn 0 y (by omega) (by simp)]; simp),fidx_at (k:=k+1) h hp fun i z hi hz=>hn (i+1) z (by omega) (by simpa using hz)]
   omega
def upN (j:Nat):Nat→List Int
 | 0=>[]
 | n+1=>(j:Int)::upN (j+1) n
theorem upN_len:∀ (n j:Nat),(upN j n).length=n
 | 0,j=>rfl
 | n+1,j=>by rw [upN,List.length_cons,upN_len n]
theorem fkO_tab {S:List Tb} {j:Nat}:fkO S j=(tabO S j).fk:=by
 unfold fkO tabO
 cases S[j]? <;> rfl
theorem loopR_dec {S:List Tb} (hd:Dec S):∀ (n j:Nat) (out:List Int),j+n=S.length→loopR S n (fun k=>decide (k<j)) out=(out++upN j n,0)
 | 0,j,out,h=>by simp [loopR,upN]
 | n+1,j,out,h=>by
   have hr:nextR S (fun k=>decide (k<j))=j:=by
    unfold nextR
    have:=fidx_at (p:=rdyO S fun k=>decide (k<j)) (l:=seqF (fun k=>k) S.length) (m:=j) (k:=0) (x:=j) (by rw [seqF_get,if_pos (by omega)])
     (by
      unfold rdyO
      rw [fkO_tab]
      simp only [Nat.lt_irrefl,decide_false,Bool.not_false,Bool.true_and,List.all_eq_true,decide_eq_true_eq]
      intro g hg
      exact (hd j (by omega) g hg).2)
     (fun i y hi hy=>by
      rw [seqF_get,if_pos (by omega),Option.some.injEq] at hy
      subst hy
      unfold rdyO
      simp [hi])
    rw [this]; omega
   have hdn:dnO (fun k=>decide (k<j)) (j:Int)=fun k=>decide (k<j+1):=by
    funext k
    unfold dnO
    by_cases h1:k<j
    ·have h2:k<j+1:=by omega
     simp [h1,h2]
    ·by_cases h2:k=j
     ·subst h2; simp
     ·have h3:¬ (k:Int)=j:=by omega
      have h4:¬ k<j+1:=by omega
      simp [h1,h3,h4]
   rw [loopR,hr,if_neg (by omega),hdn,loopR_dec hd n (j+1) _ (by omega),upN,List.append_assoc]
   rfl
theorem miss_dec {S:List Tb} (hd:Dec S):missT S=false:=by
 cases hm:missT S with
 | false=>rfl
 | true =>
   exfalso
   unfold missT at hm
   obtain ⟨x,hx,hm1⟩:=List.any_eq_true.1 hm
   obtain ⟨g,hg,hm2⟩:=List.any_eq_true.1 hm1
   obtain ⟨k,hk,rfl⟩:=List.getElem_of_mem hx
   have ht:tabO S k=S[k]:=by unfold tabO; rw [List.getElem?_eq_getElem hk]; rfl
   have:=(hd k hk g (by rw [ht]; exact hg)).1
   have h2:tgt S g<0:=by simpa using hm2
   omega
theorem ordS_dec {S:List Tb} (hd:Dec S):ordS S=(upN 0 S.length,0):=by
 rw [ordS_ref,miss_dec hd,if_neg (by simp)]
 have:=loopR_dec hd S.length 0 [] (by omega)
 simpa using this
end Go.Proofs.Tryz
namespace Go.Proofs.Tryz
open Go.Ab
set_option maxRecDepth 100000
set_option maxHeartbeats 1000000
theorem scan_zero {α:Type} {f:Nat→α→Int}:∀ {l:List α} {k:Nat},(∀ i x,l[i]?=some x→f (k+i) x=0)→scanE f l k=0
 | [],k,h=>rfl
 | y::l,k,h=>by
   have h0:=h 0 y (by simp)
   rw [scanE,if_neg (by simpa using h0)]
   exact scan_zero fun i x hi=>by
    have:=h (i+1) x (by simpa using hi)
    rw [← this]
    congr 1
    omega
theorem tabsP_at {L:List Int} {a:Nat}:∀ {n k:Nat} {x:Tb},(tabsP L a n).1[k]?=some x→∃ b,x=(tabP L k b).1
 | 0,k,x,h=>by simp [tabsP] at h
 | n+1,k,x,h=>by
   simp only [tabsP] at h
   rw [List.getElem?_append,tabsP_len] at h
   split at h
   ·exact tabsP_at h
   ·rename_i hk
    have h0:k=n:=by
     have:=(List.getElem?_eq_some_iff.1 h).1
     simp at this; omega
    subst h0
    rw [Nat.sub_self,List.getElem?_cons_zero,Option.some.injEq] at h
    exact ⟨_,h.symm⟩
theorem free_tab {L:List Int} {j a:Nat}:(tabP L j a).1.free=tab0 L j a:=by
 unfold tabP ckP
 split <;> rfl
theorem fre_at {L:List Int} {a n k:Nat} {x:Tb} (h:(freS (tabsP L a n).1)[k]?=some x):∃ b,x=tab0 L k b:=by
 unfold freS at h
 rw [List.getElem?_map] at h
 cases hs:(tabsP L a n).1[k]? with
 | none=>rw [hs] at h; cases h
 | some y =>
   rw [hs] at h
   simp only [Option.map_some,Option.some.injEq] at h
   obtain ⟨b,rfl⟩:=tabsP_at hs
   exact ⟨b,by rw [← h,free_tab]⟩
theorem nm_inj:∀ i,i<6→∀ k,k<6→nmG 116 i=nmG 116 k→i=k:=by decide
theorem nm_ok:∀ k,k<6→nm3 (nmG 116 k)=true:=by decide +kernel
theorem col_type (L:List Int) (a k:Nat):(colP L a k).t=1∨(colP L a k).t=2∨(colP L a k).t=3:=by
 have:=nextV_in L (a+2*k) (n:=3) (by omega)
 simp only [colP]
 omega
theorem tab_ok (n:List UInt8) (c0 c1:Col) (h0:c0.n=nmG 99 0) (h1:c1.n=nmG 99 1) (t0:c0.t=1∨c0.t=2∨c0.t=3) (t1:c1.t=1∨c1.t=2∨c1.t=3) (f0 f1:List UInt8) (x:Tb)
  (hx:x=⟨n,[idC,c0],[0],[],[],[]⟩∨x=⟨n,[idC,c0,fcP 0],[0],[],[⟨[2],f0⟩],[]⟩∨x=⟨n,[idC,c0,fcP 0,fcP 1],[0],[],[⟨[2],f0⟩,⟨[3],f1⟩],[]⟩
   ∨ x=⟨n,[idC,c0,c1],[0],[],[],[]⟩∨x=⟨n,[idC,c0,c1,fcP 0],[0],[],[⟨[3],f0⟩],[]⟩∨x=⟨n,[idC,c0,c1,fcP 0,fcP 1],[0],[],[⟨[3],f0⟩,⟨[4],f1⟩],[]⟩) :
  tableE nm3 tyT x=0∧plnT x=true∧typT x 0=1∧∀ f∈x.fk,∃ c,f.cols=[c]∧typT x c=1:=by
 rcases c0 with ⟨n0,t0',b0⟩
 rcases c1 with ⟨n1,t1',b1⟩
 simp only at h0 h1 t0 t1
 subst h0 h1
 rcases hx with rfl | rfl | rfl | rfl | rfl | rfl
 ·rcases t0 with rfl | rfl | rfl <;> exact ⟨by kernel_rfl,by kernel_rfl,by kernel_rfl,by simp⟩
 ·rcases t0 with rfl | rfl | rfl <;> exact ⟨by kernel_rfl,by kernel_rfl,by kernel_rfl,by simp [typT,fcP]⟩
 ·rcases t0 with rfl | rfl | rfl <;> exact ⟨by kernel_rfl,by kernel_rfl,by kernel_rfl,by simp [typT,fcP]⟩
 ·rcases t0 with rfl | rfl | rfl <;> rcases t1 with rfl | rfl | rfl <;> exact ⟨by kernel_rfl,by kernel_rfl,by kernel_rfl,by simp⟩
 ·rcases t0 with rfl | rfl | rfl <;> rcases t1 with rfl | rfl | rfl <;> exact ⟨by kernel_rfl,by kernel_rfl,by kernel_rfl,by simp [typT,fcP]⟩
 ·rcases t0 with rfl | rfl | rfl <;> rcases t1 with rfl | rfl | rfl <;> exact ⟨by kernel_rfl,by kernel_rfl,by kernel_rfl,by simp [typT,fcP]⟩
theorem tab0_ok (L:List Int) (j a:Nat):tableE nm3 tyT (tab0 L j a)=0∧plnT (tab0 L j a)=true∧typT (tab0 L j a) 0=1∧∀ f∈(tab0 L j a).fk,∃ c,f.cols=[c]∧typT (tab0 L j a) c=1:=by
 have h1:=freeP_in L a
 have h2:=pkN_le L (a+1+2*freeP L a) j
 refine tab_ok (nmG 116 j) (colP L (a+1) 0) (colP L (a+1) 1) rfl rfl (col_type ..) (col_type ..) (fkP L (a+1+2*freeP L a) j (freeP L a+1) 0).t (fkP L (a+1+2*freeP L a) j (freeP L a+1) 1).t _ ?_
 unfold tab0
 generalize a+1+2*freeP L a=B at *
 generalize freeP L a=m at *
 generalize pkN L B j=z at *
 have hm:m=1∨m=2:=by omega
 have hz:z=0∨z=1∨z=2:=by omega
 rcases hm with rfl | rfl <;> rcases hz with rfl | rfl | rfl <;> simp [colsP,upL,fksP,fkP]
theorem plain_free (L:List Int) (a n:Nat) (hn:n≤6):plainS (freS (tabsP L a n).1)=true:=by
 have hD:DecN (freS (tabsP L a n).1):=dec_free (dec_made L a n)
 have hd:=dec_of hD
 have hl:(freS (tabsP L a n).1).length=n:=by rw [freS_len,tabsP_len]
 have hat:∀ {k:Nat} {x:Tb},(freS (tabsP L a n).1)[k]?=some x→∃ b,x=tab0 L k b:=fun h=>fre_at h
 generalize freS (tabsP L a n).1=S at *
 have hlt:∀ {k:Nat} {x:Tb},S[k]?=some x→k<6:=fun h=>by
  have:=(List.getElem?_eq_some_iff.1 h).1
  omega
 have hfi:∀ {k:Nat} {x:Tb},S[k]?=some x→fidx (fun y:Tb=>y.n==nmG 116 k) S 0=k:=fun {k x} h=>by
  have:=fidx_at (p:=fun y:Tb=>y.n==nmG 116 k) (k:=0) h (by simp [(hD k x h).1]) (fun i y hi hy=>by
   simp only [beq_eq_false_iff_ne]
   intro e
   rw [(hD i y hy).1] at e
   have:=nm_inj i (hlt hy) k (hlt h) e
   omega)
  rw [this]; omega
 unfold plainS plnS validS validE
 rw [Bool.and_eq_true,beq_iff_eq,if_neg (by omega),ordS_dec hd]
 refine ⟨?_,List.all_eq_true.2 fun x hx=>?_⟩
 ·rw [scan_zero (f:=tabE nm3 tyT S),scan_zero]
  ·rfl
  ·intro i x hx
   refine scan_zero fun q f hf=>?_
   obtain ⟨b,rfl⟩:=hat hx
   have hfm:f∈(tab0 L i b).fk:=List.mem_of_getElem? hf
   obtain ⟨c,e1,e2⟩:=(tab0_ok L i b).2.2.2 f hfm
   obtain ⟨m,hm,em⟩:=(hD i _ hx).2 f hfm
   have hiS:=(List.getElem?_eq_some_iff.1 hx).1
   have hSm:S[m]?=some (S[m]'(by omega)):=List.getElem?_eq_getElem (by omega)
   obtain ⟨b',eb⟩:=hat hSm
   rw [eb] at hSm
   have ht:tgt S f=m:=by unfold tgt; rw [em]; exact hfi hSm
   unfold refE
   rw [ht,Int.toNat_natCast,hSm]
   simp only
   rw [if_neg (by omega),if_pos]
   have h0:=(tab0_ok L m b').2.2.1
   unfold pairE
   rw [e1]
   have hp:(tab0 L m b').pr=[0]:=rfl
   rw [hp]
   simp [e2,h0]
  ·intro i x hx
   obtain ⟨b,rfl⟩:=hat hx
   have hn:(tab0 L i b).n=nmG 116 i:=rfl
   unfold tabE
   rw [hn,nm_ok i (hlt hx),if_neg (by simp),hfi hx,if_neg (by omega)]
   exact (tab0_ok L i b).1
 ·obtain ⟨i,hi,rfl⟩:=List.getElem_of_mem hx
  obtain ⟨b,e⟩:=hat (List.getElem?_eq_getElem hi)
  rw [e]
  exact (tab0_ok L i b).2.1
end Go.Proofs.Tryz
namespace Go.Proofs.Tryz
open Go.Ab
set_option maxRecDepth 100000
set_option maxHeartbeats 1000000
def ValOk (x:Tb) (c:Nat) (v:V):Prop:=v.valid=true∧(v.k=(colO x c).t∨((colO x c).b=true∧v=nulV))
theorem typT_col {x:Tb} {c:Nat} (h:c<x.cols.length):typT x c=(colO x c).t:=by
 unfold typT colO
 rw [Int.toNat_natCast,List.getElem?_eq_getElem h]
 rfl
theorem smallB_ok (L:List Int) (i:Nat) (k:Int) (hk:k=1∨k=2∨k=3) (b:Bool):(smallB L i k b).valid=true∧((smallB L i k b).k=k∨(b=true∧smallB L i k b=nulV)):=by
 unfold smallB
 cases b with
 | false =>
   rw [if_neg (by decide)]
   obtain ⟨h1,h2,_⟩:=small_in L i k hk
   exact ⟨h2,.inl h1⟩
 | true =>
   have all:∀ v∈valuesOf k,v.valid=true∧(v.k=k∨v=nulV):=by
    rcases hk with rfl | rfl | rfl <;> decide
   have hl3:3≤(valuesOf k).length:=by rcases hk with rfl | rfl | rfl <;> decide
   rw [if_pos rfl]
   obtain ⟨m,hm⟩:∃ m,m=min (valuesOf k).length 4:=⟨_,rfl⟩
   rw [← hm]
   have hn:=nextV_in L i (n:=(m:Int)) (by omega)
   have hlt:(nextV L i (m:Int)).toNat<(valuesOf k).length:=by omega
   rw [List.getElem?_eq_getElem hlt,Option.getD_some]
   obtain ⟨h1,h2⟩:=all _ (List.getElem_mem hlt)
   exact ⟨h1,h2.imp id fun h=>⟨rfl,h⟩⟩
structure KeyOk (x:Tb):Prop where
 pr:∃ p:Nat,x.pr=[(p:Int)]∧p<x.cols.length
 fk:∀ f∈x.fk,∃ c:Nat,f.cols=[(c:Int)]∧c<x.cols.length∧hdI x.pr ≠ c
 dis:(x.fk.map fun f=>hdI f.cols).Nodup
 ty:∀ c,c<x.cols.length→(colO x c).t=1∨(colO x c).t=2∨(colO x c).t=3
theorem fksB_dis {x:Tb}:∀ {l:List Fk} {pre:List Int},fksB x pre l=true→(∀ f∈l,fkB x f=true∧hdI f.cols ∉ pre)∧(l.map fun f=>hdI f.cols).Nodup
 | [],pre,_=>⟨by simp,.nil⟩
 | f::l,pre,h=>by
   rw [fksB,Bool.and_eq_true,Bool.and_eq_true] at h
   obtain ⟨⟨h1,h2⟩,h3⟩:=h
   obtain ⟨g1,g2⟩:=fksB_dis h3
   have hn:hdI f.cols ∉ pre:=by simpa using h2
   refine ⟨fun g hg=>?_,?_⟩
   ·rcases List.mem_cons.1 hg with rfl | hg
    ·exact ⟨h1,hn⟩
    ·exact ⟨(g1 g hg).1,fun hm=>(g1 g hg).2 (List.mem_append_left _ hm)⟩
   ·rw [List.map_cons,List.nodup_cons]
    refine ⟨fun hm=>?_,g2⟩
    obtain ⟨g,hg,e⟩:=List.mem_map.1 hm
    exact (g1 g hg).2 (List.mem_append_right _ (by rw [e]; simp))
theorem key_ok {S:List Tb} (h:FillOk S) (hp:plainS S=true) {x:Tb} (hx:x∈S):KeyOk x:=by
 unfold plainS plnS at hp
 rw [Bool.and_eq_true] at hp
 have hpl:=List.all_eq_true.1 hp.2 x hx
 unfold plnT at hpl
 rw [Bool.and_eq_true,Bool.and_eq_true] at hpl
 obtain ⟨hpr,hfk,_⟩:=hpl
 obtain ⟨g1,g2⟩:=fksB_dis hfk
 obtain ⟨p1,p2,p3⟩:=h.pr x hx
 obtain ⟨_,f1⟩:=h.fk x hx
 refine ⟨?_,fun f hf=>?_,g2,fun c hc=>?_⟩
 ·obtain ⟨p,hpe⟩:=len_one p1
  rw [hpe] at p2 p3
  simp only [hdI,List.headD_cons] at p2 p3
  exact ⟨p.toNat,by rw [hpe,Int.toNat_of_nonneg p2],by omega⟩
 ·obtain ⟨c1,c2,c3⟩:=f1 f hf
  obtain ⟨c,hce⟩:=len_one c1
  have hb:=(g1 f hf).1
  unfold fkB at hb
  simp only [Bool.and_eq_true,Bool.not_eq_true',beq_eq_false_iff_ne] at hb
  have hne:=hb.2.2.2
  rw [hce] at c2 c3 hne
  simp only [hdI,List.headD_cons] at c2 c3 hne
  refine ⟨c.toNat,by rw [hce,Int.toNat_of_nonneg c2],by omega,?_⟩
  rw [Int.toNat_of_nonneg c2]
  exact fun e=>hne e.symm
 ·unfold colO
  rw [List.getElem?_eq_getElem hc]
  exact h.ty x hx _ (List.getElem_mem hc)
structure RowOk (S:List Tb) (T:Nat→List (List V)) (x:Tb) (n:Nat) (row:List V):Prop where
 len:row.length=x.cols.length
 pr:row[(hdI x.pr).toNat]?=some (numV (n+1))
 fk:∀ f∈x.fk,∃ q:Nat,row[(hdI f.cols).toNat]?=some (numV (1+q))∧q<(T (tgN S f)).length
 val:∀ c,c<x.cols.length→keyT x c=false→∀ v,row[c]?=some v→ValOk x c v
theorem keyT_iff {x:Tb} {c:Int}:keyT x c=false→c ∉ x.pr∧∀ f∈x.fk,c ∉ f.cols:=by
 intro h
 unfold keyT at h
 rw [Bool.or_eq_false_iff] at h
 refine ⟨by simpa using h.1,fun f hf hm=>?_⟩
 have:=h.2
 rw [List.any_eq_false] at this
 exact this f hf (by simpa using hm)
def InsOk (S:List Tb) (T:Nat→List (List V)) (j:Nat):Prop:=∀ k,k<j→∀ n row,(T k)[n]?=some row→RowOk S T (tabO S k) n row
end Go.Proofs.Tryz
