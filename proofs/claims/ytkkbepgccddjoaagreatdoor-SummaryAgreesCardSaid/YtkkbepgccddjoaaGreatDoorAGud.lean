import Derived.Test.YtkkbepgccddjoaaGreatDoorPlw
import Derived.Test.YtkkbepgccddjoaaGreatDoorARsm
set_option linter.all false
namespace Go.Proofs.Tryz
open Go.Ab
set_option maxRecDepth 100000
set_option maxHeartbeats 2000000
theorem ck_made {L:List Int} {x:Tb} (h:Made x) (e:Nat):Made (ckP L x e).1:=by
 unfold ckP
 split
 ·refine ⟨⟨h.ok.cols,h.ok.pr,h.ok.un,h.ok.fk,by simp,h.ok.fkc⟩,?_,h.ty⟩
  have:=h.free
  exact this
 ·exact h
theorem tabsP_mem {L:List Int} {a:Nat}:∀ {n:Nat} {x:Tb},x∈(tabsP L a n).1→∃ j b,x=(tabP L j b).1
 | 0,x,h=>by simp [tabsP] at h
 | n+1,x,h=>by
   simp only [tabsP] at h
   rcases List.mem_append.1 h with h | h
   ·exact tabsP_mem h
   ·exact ⟨n,_,by simpa using h⟩
theorem tabs_made {L:List Int} {a n:Nat} {x:Tb} (h:x∈(tabsP L a n).1):Made x:=by
 obtain ⟨j,b,rfl⟩:=tabsP_mem h
 exact ck_made (tab0_made L j b) _
structure AtOk (x:Tb) (a:At):Prop where
 col:0≤a.col∧a.col<x.cols.length
 key:keyT x a.col=false
 kind:(a.op=21∧a.v=nulV)∨(typT x a.col=1∧14≤a.op∧a.op≤19∧a.v.k=1)∨(typT x a.col=2∧a.op=5∧a.v=nulV)∨(typT x a.col=2∧(a.op=14∨a.op=15)∧a.v.k=2)∨(typT x a.col=3∧(a.op=14∨a.op=15)∧a.v.k=3)
 val:a.v.valid=true
 len:a.v.t.length≤1
 no0:a.v.t ≠ [48]
 num:0≤a.v.n∧a.v.n≤2
theorem atom_ok (L:List Int) {x:Tb} (h:Made x) (i:Nat):AtOk x (atomG L x i).1:=by
 have hf:=h.free
 have hfm:∀ c∈freeL x x.cols.length,0≤c∧c<x.cols.length∧keyT x c=false:=fun c h=>freeL_mem h
 unfold atomG
 generalize freeL x x.cols.length=Z at *
 have hnx:=nextV_in L i (n:=Z.length) (by omega)
 have hzl:(nextV L i Z.length).toNat<Z.length:=by omega
 obtain ⟨c,hc⟩:∃ c,c=Z[(nextV L i Z.length).toNat]:=⟨_,rfl⟩
 have hcm:=hfm c (by rw [hc]; exact List.getElem_mem hzl)
 rw [List.getElem?_eq_getElem hzl,← hc]
 simp only [Option.getD_some]
 obtain ⟨h0,h1,h2⟩:=hcm
 have v1:=nextV_in L (i+2) (n:=6) (by omega)
 have v2:=nextV_in L (i+2) (n:=2) (by omega)
 have v3:=nextV_in L (i+3) (n:=2) (by omega)
 have nv:nulV.valid=true∧nulV.t.length≤1∧nulV.t ≠ [48]∧0≤nulV.n∧nulV.n≤2:=by decide
 have hty:typT x c=1∨typT x c=2∨typT x c=3:=by
  have hl:c.toNat<x.cols.length:=by omega
  have:=h.ty x.cols[c.toNat] (List.getElem_mem hl)
  unfold typT
  rw [List.getElem?_eq_getElem hl]
  exact this
 split
 ·exact ⟨⟨h0,h1⟩,h2,.inl ⟨rfl,rfl⟩,nv.1,nv.2.1,nv.2.2.1,nv.2.2.2⟩
 split
 ·rename_i ht
  obtain ⟨s1,s2,s3,s4,s5⟩:=small_in L (i+3) 1 (by omega)
  exact ⟨⟨h0,h1⟩,h2,.inr (.inl ⟨ht,by simp only; omega,by simp only; omega,s1⟩),s2,s3,s4,s5⟩
 split
 ·rename_i ht
  split
  ·exact ⟨⟨h0,h1⟩,h2,.inr (.inr (.inl ⟨ht,rfl,rfl⟩)),nv.1,nv.2.1,nv.2.2.1,nv.2.2.2⟩
  ·obtain ⟨s1,s2,s3,s4,s5⟩:=small_in L (i+4) 2 (by omega)
   exact ⟨⟨h0,h1⟩,h2,.inr (.inr (.inr (.inl ⟨ht,by simp only; omega,s1⟩))),s2,s3,s4,s5⟩
 ·have ht:typT x c=3:=by omega
  obtain ⟨s1,s2,s3,s4,s5⟩:=small_in L (i+3) 3 (by omega)
  exact ⟨⟨h0,h1⟩,h2,.inr (.inr (.inr (.inr ⟨ht,by simp only; omega,s1⟩))),s2,s3,s4,s5⟩
end Go.Proofs.Tryz
namespace Go.Proofs.Tryz
open Go.Ab
set_option maxRecDepth 100000
set_option maxHeartbeats 2000000
theorem at_nodes (a:At):a.ex.nodes≤3:=by
 unfold At.ex colX constOf
 repeat' split
 all_goals simp [Ex.nodes,nodesAll]
theorem ck_parts (L:List Int) (x:Tb) (e:Nat):(ckP L x e).1.un=x.un∧(ckP L x e).1.n=x.n∧(ckP L x e).1.cols=x.cols∧(ckP L x e).1.pr=x.pr∧(ckP L x e).1.fk=x.fk∧((ckP L x e).1.ch=x.ch∨∃ a,(ckP L x e).1.ch=[(atomG L x a).1.ex]):=by
 unfold ckP
 split
 ·exact ⟨rfl,rfl,rfl,rfl,rfl,.inr ⟨_,rfl⟩⟩
 ·exact ⟨rfl,rfl,rfl,rfl,rfl,.inl rfl⟩
theorem sok_made (L:List Int) (a n:Nat) (hn:n≤10):SOk (tabsP L a n).1:=by
 refine ⟨by rw [tabsP_len]; omega,fun x hx=>(tabs_made hx).ok,fun x hx l hl=>?_,fun x hx e he=>?_⟩
 ·obtain ⟨j,b,rfl⟩:=tabsP_mem hx
  have h:=(ck_parts L (tab0 L j b) (pkE L (b+1+2*freeP L b) j)).1
  unfold tabP at hl
  rw [h] at hl
  cases hl
 ·obtain ⟨j,b,rfl⟩:=tabsP_mem hx
  have h:=(ck_parts L (tab0 L j b) (pkE L (b+1+2*freeP L b) j)).2.2.2.2.2
  unfold tabP at he
  rcases h with h | ⟨c,h⟩
  ·rw [h] at he
   cases he
  ·rw [h] at he
   obtain rfl:=List.mem_singleton.1 he
   exact ⟨few_ex (by have:=(atom_ok L (tab0_made L j b) c).len; omega) 0 (by omega),by have:=at_nodes (atomG L (tab0 L j b) c).1; omega⟩
def Tb.free (x:Tb):Tb:=⟨x.n,x.cols,x.pr,x.un,x.fk,[]⟩
def freS (S:List Tb):List Tb:=S.map Tb.free
@[simp] theorem freS_len (S:List Tb):(freS S).length=S.length:=List.length_map _
theorem sok_free {S:List Tb} (h:SOk S):SOk (freS S):=by
 refine ⟨by rw [freS_len]; exact h.len,fun x hx=>?_,fun x hx l hl=>?_,fun x hx e he=>?_⟩
 ·obtain ⟨y,hy,rfl⟩:=List.mem_map.1 hx
  have o:=h.ok y hy
  exact ⟨o.cols,o.pr,o.un,o.fk,by simp [Tb.free],o.fkc⟩
 ·obtain ⟨y,hy,rfl⟩:=List.mem_map.1 hx
  exact h.un y hy l hl
 ·obtain ⟨y,hy,rfl⟩:=List.mem_map.1 hx
  cases he
def freT (S:List Tb) (i:Nat):List Tb:=(S.take i).map Tb.free
theorem freT_len {S:List Tb} {i:Nat} (h:i≤S.length):(freT S i).length=i:=by unfold freT; simp; omega
theorem freT_succ {S:List Tb} {i:Nat} (h:i<S.length):freT S (i+1)=freT S i++[S[i].free]:=by unfold freT; rw [take_snoc h,List.map_append]; rfl
theorem freT_full (S:List Tb):freT S S.length=freS S:=by simp [freT,freS]
theorem t_free (S:List Tb) (hl:S.length≤1000):Cf En 8 [schA S] [] (schA (freS S)) []:=by
 refine cf_intro mix (fn:=Tryz.f8) (by kernel_rfl) rfl (by kernel_rfl) (by decide) (by simp) ?_
 simp [schA]
 (repeat' (first|contradiction|exact .ok|apply And.intro|intro _|(refine gc (fun h=>?_) (fun h=>?_)<;>(have h':=h;(try simp at h');first|done|simp[h,h']|simp))))
 refine aloopT mix (by decide) (fun i:Nat=>{ s:=mkS [(1,.ptr 1 0 0),(2,.ptr 2 0 0),(3,.ptr 3 0 0),(4,.d (.int .i64 i))],b:=mkB [(1,1,.var [.d (.sl (S.map Tb.c))]),(2,2,.var [.nils]),(3,3,.var [.ref 901 0 i 6]),(901,901,.arr 82 6 ((freT S i).map Tb.c) false)] }) (fun i=>i≤S.length) (fun i=>S.length - i) 0 (by simp)
  ((sub_nilc 3 901 82 6 0 (cells:=[.nils]) (by simp) rfl (by simp) (by decide) (by decide)).trans (sub_mk _ [(1,1,_),(2,2,_),(3,3,_),(901,901,_)] ⟨by simp,by simp,by simp [renOf,Blk.live,freT,upd],by simp⟩ (by simp [renOf]))) ?_
 intro i hi
 have hFl:=freT_len hi
 by_cases hlt:i<S.length
 ·obtain ⟨x,hx⟩:∃ u,u=S[i]:=⟨_,rfl⟩
  have hgi:∀ h,S[i]'h=x:=fun _=>hx.symm
  have hw:=wrap_in (n:=(i:Int)+1) (by omega) (by omega)
  have hnx:=freT_succ hlt
  rw [← hx] at hnx
  generalize hF:freT S i=F at *
  have htk:(F.map Tb.c).take i=F.map Tb.c:=List.take_of_length_le (by simp [hFl])
  simp [hlt,hgi,Tb.c,hFl,htk,szs i (by omega) 136 (by decide),szs (i+1) (by omega) 136 (by decide)]
  (repeat' (first|contradiction|exact .ok|apply And.intro|intro _|(refine gc (fun h=>?_) (fun h=>?_)<;>(have h':=h;(try simp at h');first|done|simp[h,h']|simp))))
  refine ⟨i+1,by omega,?_,by simp; omega⟩
  exact sub_mk _ [(1,1,_),(2,2,_),(3,3,_),(901,23,_)] ⟨by simp,by simp,by simp [renOf,Blk.live,hnx,Tb.c,Tb.free],by simp⟩ (by simp [renOf,hw])
 obtain rfl:i=S.length:=by omega
 rw [freT_full] at *
 have htk:((freS S).map Tb.c).take S.length=(freS S).map Tb.c:=List.take_of_length_le (by simp)
 simp [htk]
 all_goals exact gz
end Go.Proofs.Tryz
namespace Go.Proofs.Tryz
open Go.Ab
set_option maxRecDepth 100000
set_option maxHeartbeats 2000000
def rowD (r:List V):List D:=[.sl (r.map V.c)]
def tabD (R:List (List V)):List D:=[.sl (R.map rowD)]
def instA (I:List (List (List V))):AV:=.agg [.d (.sl (I.map tabD))]
def colO (x:Tb) (j:Nat):Col:=(x.cols[j]?).getD ⟨[],1,false⟩
def smC (L:List Int) (x:Tb) (a j:Nat):V:=smallB L (a+j) (colO x j).t (colO x j).b
def numV (n:Int):V:=⟨1,n,[]⟩
def tgN (S:List Tb) (f:Fk):Nat:=(tgt S f).toNat
def tabO (S:List Tb) (i:Nat):Tb:=(S[i]?).getD ⟨[],[],[],[],[],[]⟩
structure FillOk (S:List Tb):Prop where
 ok:SOk S
 few:S.length≤10
 pr:∀ x∈S,x.pr.length=1∧0≤hdI x.pr∧hdI x.pr<x.cols.length
 fk:∀ x∈S,x.fk.length≤8∧∀ f∈x.fk,f.cols.length=1∧0≤hdI f.cols∧hdI f.cols<x.cols.length
 ty:∀ x∈S,∀ c∈x.cols,c.t=1∨c.t=2∨c.t=3
 cols:∀ x∈S,x.cols.length≤20
end Go.Proofs.Tryz
