import Derived.Test.YtklnfckiabhceaaGreatDoorPlw
import Derived.Test.YtklnfckiabhceaaGreatDoorKTye
import Derived.Test.YtklnfckiabhceaaGreatDoorPlc
import Derived.Test.YtklnfckiabhceaaGreatDoorSve
import Derived.Test.YtklnfckiabhceaaGreatDoorKPln
set_option linter.all false
namespace Go.Proofs.Tryz
open Go.Ab
set_option maxRecDepth 100000
set_option maxHeartbeats 2000000
theorem ck_made {L:List Int} {x:Tb} (h:Made x) (e:Nat):Made (ckP L x e).1:=by
 unfold ckP
 split
 ·refine ⟨⟨h.ok.cols,h.ok.pr,h.ok.un,h.ok.fk,by simp,h.ok.fkc⟩,?_,h.ty⟩
  have:=h.free
  exact this
 ·exact h
theorem tabsP_mem {L:List Int} {a:Nat}:∀ {n:Nat} {x:Tb},x∈(tabsP L a n).1→∃ j b,x=(tabP L j b).1
 | 0,x,h=>by simp [tabsP] at h
 | n+1,x,h=>by
   simp only [tabsP] at h
   rcases List.mem_append.1 h with h | h
   ·exact tabsP_mem h
   ·exact ⟨n,_,by simpa using h⟩
theorem tabs_made {L:List Int} {a n:Nat} {x:Tb} (h:x∈(tabsP L a n).1):Made x:=by
 obtain ⟨j,b,rfl⟩:=tabsP_mem h
 exact ck_made (tab0_made L j b) _
structure AtOk (x:Tb) (a:At):Prop where
 col:0≤a.col∧a.col<x.cols.length
 key:keyT x a.col=false
 kind:(a.op=21∧a.v=nulV)∨(typT x a.col=1∧14≤a.op∧a.op≤19∧a.v.k=1)∨(typT x a.col=2∧a.op=5∧a.v=nulV)∨(typT x a.col=2∧(a.op=14∨a.op=15)∧a.v.k=2)∨(typT x a.col=3∧(a.op=14∨a.op=15)∧a.v.k=3)
 val:a.v.valid=true
 len:a.v.t.length≤1
 no0:a.v.t ≠ [48]
 num:0≤a.v.n∧a.v.n≤2
theorem atom_ok (L:List Int) {x:Tb} (h:Made x) (i:Nat):AtOk x (atomG L x i).1:=by
 have hf:=h.free
 have hfm:∀ c∈freeL x x.cols.length,0≤c∧c<x.cols.length∧keyT x c=false:=fun c h=>freeL_mem h
 unfold atomG
 generalize freeL x x.cols.length=Z at *
 have hnx:=nextV_in L i (n:=Z.length) (by omega)
 have hzl:(nextV L i Z.length).toNat<Z.length:=by omega
 obtain ⟨c,hc⟩:∃ c,c=Z[(nextV L i Z.length).toNat]:=⟨_,rfl⟩
 have hcm:=hfm c (by rw [hc]; exact List.getElem_mem hzl)
 rw [List.getElem?_eq_getElem hzl,← hc]
 simp only [Option.getD_some]
 obtain ⟨h0,h1,h2⟩:=hcm
 have v1:=nextV_in L (i+2) (n:=6) (by omega)
 have v2:=nextV_in L (i+2) (n:=2) (by omega)
 have v3:=nextV_in L (i+3) (n:=2) (by omega)
 have nv:nulV.valid=true∧nulV.t.length≤1∧nulV.t ≠ [48]∧0≤nulV.n∧nulV.n≤2:=by decide
 have hty:typT x c=1∨typT x c=2∨typT x c=3:=by
  have hl:c.toNat<x.cols.length:=by omega
  have:=h.ty x.cols[c.toNat] (List.getElem_mem hl)
  unfold typT
  rw [List.getElem?_eq_getElem hl]
  exact this
 split
 ·exact ⟨⟨h0,h1⟩,h2,.inl ⟨rfl,rfl⟩,nv.1,nv.2.1,nv.2.2.1,nv.2.2.2⟩
 split
 ·rename_i ht
  obtain ⟨s1,s2,s3,s4,s5⟩:=small_in L (i+3) 1 (by omega)
  exact ⟨⟨h0,h1⟩,h2,.inr (.inl ⟨ht,by simp only; omega,by simp only; omega,s1⟩),s2,s3,s4,s5⟩
 split
 ·rename_i ht
  split
  ·exact ⟨⟨h0,h1⟩,h2,.inr (.inr (.inl ⟨ht,rfl,rfl⟩)),nv.1,nv.2.1,nv.2.2.1,nv.2.2.2⟩
  ·obtain ⟨s1,s2,s3,s4,s5⟩:=small_in L (i+4) 2 (by omega)
   exact ⟨⟨h0,h1⟩,h2,.inr (.inr (.inr (.inl ⟨ht,by simp only; omega,s1⟩))),s2,s3,s4,s5⟩
 ·have ht:typT x c=3:=by omega
  obtain ⟨s1,s2,s3,s4,s5⟩:=small_in L (i+3) 3 (by omega)
  exact ⟨⟨h0,h1⟩,h2,.inr (.inr (.inr (.inr ⟨ht,by simp only; omega,s1⟩))),s2,s3,s4,s5⟩
def atsG (L:List Int) (x:Tb):Nat→Nat→List At×Nat
 | 0,i=>([],i)
 | n+1,i=>(insA (atsG L x n i).1 (atomG L x (atsG L x n i).2).1,(atomG L x (atsG L x n i).2).2)
theorem atsG_le (L:List Int) (x:Tb):∀ n i,(atsG L x n i).2≤i+5*n
 | 0,i=>by simp [atsG]
 | n+1,i=>by
   have h1:=atsG_le L x n i
   have h2:=atom_le L x (atsG L x n i).2
   simp only [atsG]; omega
theorem atsG_len (L:List Int) (x:Tb):∀ n i,(atsG L x n i).1.length≤n
 | 0,i=>by simp [atsG]
 | n+1,i=>by
   have h1:=atsG_len L x n i
   have h2:=insA_len (atsG L x n i).1 (atomG L x (atsG L x n i).2).1
   simp only [atsG]; omega
theorem atsG_ok (L:List Int) {x:Tb} (h:Made x):∀ n i,∀ a∈(atsG L x n i).1,AtOk x a
 | 0,i,a,ha=>by simp [atsG] at ha
 | n+1,i,a,ha=>by
   simp only [atsG] at ha
   rcases insA_mem ha with rfl | ha
   ·exact atom_ok L h _
   ·exact atsG_ok L h n i a ha
theorem t_atoms (L:List Int) (i:Nat) (hi:i≤800000) (x:Tb) (hx:Made x) (most:Nat) (hm:most≤100) :
  Cf En 22 [.ptr 1000000 0 0,x.a,.d (.int .i64 most)] [tapB L i] (.d (.sl ((atsG L x (nextV L i (most+1)).toNat (i+1)).1.map At.c))) [tapB L (atsG L x (nextV L i (most+1)).toNat (i+1)).2]:=by
 have hn:=nextV_in L i (n:=(most:Int)+1) (by omega)
 have ht:=t_next1 L i (by omega) ((most:Int)+1) (by omega) (by omega)
 have hw:=wrap_in (n:=(most:Int)+1) (by omega) (by omega)
 obtain ⟨M,hM⟩:∃ M:Nat,M=(nextV L i (most+1)).toNat:=⟨_,rfl⟩
 have hM2:nextV L i (most+1)=(M:Int):=by omega
 rw [← hM]
 rw [hM2] at ht hn
 refine cf_intro mix (fn:=Tryz.f22) (by kernel_rfl) rfl (by kernel_rfl) (by decide) (by simp) ?_
 simp [tapB,Tb.a,Tb.c,hw]
 (repeat' (first|contradiction|exact .ok|apply And.intro|intro _|(refine gc (fun h=>?_) (fun h=>?_)<;>(have h':=h;(try simp at h');first|done|simp[h,h']|simp))))
 refine acallT_hand [1000000] ht (by simp) (by simp) (by simp) (by simp [tapB]) (by simp [hw]) ?_
 simp [tapB]
 (repeat' (first|contradiction|exact .ok|apply And.intro|intro _|(refine gc (fun h=>?_) (fun h=>?_)<;>(have h':=h;(try simp at h');first|done|simp[h,h']|simp))))
 refine aloopT mix (by decide) (fun n:Nat=>{ s:=mkS [(0,.ptr 1000000 0 0),(4,.ptr 4 0 0),(7,.d (.sl ((atsG L x n (i+1)).1.map At.c))),(8,.d (.int .i64 ((M:Int) - n)))],b:=mkB [(1000000,1000000,tapB L (atsG L x n (i+1)).2),(4,4,.var (x.c.map AV.d))] }) (fun n=>n≤M) (fun n=>M - n) 0 (by simp)
  (sub_mkn 7 900 81 5 (by simp) (by simp) (by decide) (by decide) _ [(1000000,1000000,_),(4,4,_)] ⟨by simp,by simp,by simp [renOf,Blk.live,tapB,Tb.c,atsG],base1⟩ (by simp [renOf,atsG])) ?_
 intro n hnM
 have h1:=atsG_le L x n (i+1)
 have h2:=atsG_len L x n (i+1)
 by_cases hlt:n<M
 ·have hp:(0:Int)<(M:Int) - n:=by omega
  have hs:atsG L x (n+1) (i+1)=(insA (atsG L x n (i+1)).1 (atomG L x (atsG L x n (i+1)).2).1,(atomG L x (atsG L x n (i+1)).2).2):=rfl
  generalize (atsG L x n (i+1)).1=A at *
  generalize (atsG L x n (i+1)).2=e at *
  have hat:=t_atom L e (by omega) x hx.ok hx.free hx.ty
  generalize atomG L x e=q at *
  obtain ⟨at1,e1⟩:=q
  simp only at hat hs
  have hwn:=wrap_in (n:=(M:Int) - n - 1) (by omega) (by omega)
  have hnlt:n<M:=hlt
  simp [tapB,Tb.c,hp,hnlt]
  (repeat' (first|contradiction|exact .ok|apply And.intro|intro _|(refine gc (fun h=>?_) (fun h=>?_)<;>(have h':=h;(try simp at h');first|done|simp[h,h',hp]|simp[hp]))))
  refine acallT_hand [1000000] hat (by simp) (by simp) (by simp) (by simp [tapB]) (by simp [Tb.a,Tb.c]) ?_
  simp [tapB,At.a,At.c]
  refine acallT_plain (r13_insert A (by omega) at1) (by simp [At.a,At.c]) ?_
  simp
  (repeat' (first|contradiction|exact .ok|apply And.intro|intro _|(refine gc (fun h=>?_) (fun h=>?_)<;>(have h':=h;(try simp at h');first|done|simp[h,h']|simp))))
  refine ⟨n+1,by omega,?_,by simp; omega⟩
  exact sub_mk _ [(1000000,1000000,_),(4,4,_)] ⟨by simp,by simp,by simp [renOf,Blk.live,tapB,Tb.c,hs],base1⟩ (by simp [renOf,hs,hwn]; omega)
 ·have hne:n=M:=by omega
  subst hne
  simp [tapB]
  all_goals exact gz
theorem r_rows_same (l:List V) (hl:l.length≤1000000):Cf En 56 [.d (.sl (l.map V.c)),.d (.sl (l.map V.c))] [] (.d (.int .i64 0)) []:=by
 refine cf_intro mix (fn:=Tryz.f56) (by kernel_rfl) rfl (by kernel_rfl) (by decide) (by simp) ?_
 simp
 (repeat' (first|contradiction|exact .ok|apply And.intro|intro _|(refine gc (fun h=>?_) (fun h=>?_)<;>(have h':=h;(try simp at h');first|done|simp[h,h']|simp))))
 refine aloopT mix (by decide) (fun i:Nat=>{ s:=mkS [(0,.d (.sl (l.map V.c))),(1,.d (.sl (l.map V.c))),(5,.d (.int .i64 i))],b:=mkB [] }) (fun i=>i≤l.length) (fun i=>l.length - i) 0 (by simp) (sub_mk _ [] .nil (by simp)) ?_
 intro i hi
 by_cases hlt:i<l.length
 ·have hw:=wrap_in (n:=(i:Int)+1) (by omega) (by omega)
  have h0:=V.cmp_self l[i]
  simp [hlt,V.c]
  (repeat' (first|contradiction|exact .ok|apply And.intro|intro _|(refine gc (fun h=>?_) (fun h=>?_)<;>(have h':=h;(try simp at h');first|done|simp[h,h']|simp))))
  refine acallT_plain (r_compare l[i] l[i]) (by simp [V.a]) ?_
  simp [h0]
  (repeat' (first|contradiction|exact .ok|apply And.intro|intro _|(refine gc (fun h=>?_) (fun h=>?_)<;>(have h':=h;(try simp at h');first|done|simp[h,h']|simp))))
  refine ⟨i+1,by omega,?_,by simp; omega⟩
  exact sub_mk _ [] .nil (by simp [hw])
 have hie:i=l.length:=by omega
 subst hie
 simp
 all_goals exact gz
end Go.Proofs.Tryz
namespace Go.Proofs.Tryz
open Go.Ab
set_option maxRecDepth 100000
set_option maxHeartbeats 1000000
structure SOk (S:List Tb):Prop where
 len:S.length≤1000
 ok:∀ x∈S,x.ok
 un:∀ x∈S,∀ l∈x.un,l.length≤1000
 ch:∀ x∈S,∀ e∈x.ch,ChOk e
def tyT (x:Tb) (e:Ex):Int×Int:=typeA (x.cols.map Col.t) e
def validS (S:List Tb):Int:=validE nm3 tyT S
def plainS (S:List Tb):Bool:=plnS (validS S) S
theorem s_validA {S:List Tb} (h:SOk S):Cf Es 28 [schA S] [] (.d (.int .i64 (validS S))) [] :=
 s_valid S h.len h.ok h.un tyT fun x hx e he=>x_typeA (by rw [List.length_map]; exact (h.ok x hx).cols) (h.ch x hx e he).few
theorem r_validA {S:List Tb} (h:SOk S):Cf Es 32 [schA S] [] (.d (.int .i64 (validS S))) [] :=
 r3_valid S h.len h.ok h.un tyT fun x hx e he=>ups (r_typeA (by rw [List.length_map]; exact (h.ok x hx).cols) (h.ch x hx e he).few)
theorem p_PlainA {S:List Tb} (h:SOk S):Cf Es 9 [schA S] [] (.d (.bool (plainS S))) []:=p_Plain S h.len h.ok h.ch tyT (s_validA h)
theorem r_PlainA {S:List Tb} (h:SOk S):Cf Es 10 [schA S] [] (.d (.bool (plainS S))) []:=r_Plain S h.len h.ok h.ch tyT (r_validA h)
end Go.Proofs.Tryz
namespace Go.Proofs.Tryz
open Go.Ab
set_option maxRecDepth 100000
set_option maxHeartbeats 2000000
def smallB (L:List Int) (i:Nat) (k:Int) (b:Bool):V:=if b=true then ((valuesOf k)[(nextV L i (min (valuesOf k).length 4:Nat)).toNat]?).getD nulV else smallV L i k
theorem t_smallB (L:List Int) (i:Nat) (hi:i≤1000000) (k:Int) (hk:k=1∨k=2∨k=3) (b:Bool) :
  Cf En 40 [.ptr 1000000 0 0,.d (.int .i64 k),.d (.bool b)] [tapB L i] (smallB L i k b).a [tapB L (i+1)]:=by
 cases b with
 | false=>exact t_small L i hi k hk
 | true =>
 have hl:(valuesOf k).length=13∨(valuesOf k).length=3∨(valuesOf k).length=8:=by
  rcases hk with rfl | rfl | rfl <;> decide
 obtain ⟨m,hm⟩:∃ m:Nat,m=min (valuesOf k).length 4:=⟨_,rfl⟩
 have hm4:3≤m∧m≤4∧m≤(valuesOf k).length:=by omega
 have hmin:(if (4:Int)<((valuesOf k).length:Int) then (4:Int) else ((valuesOf k).length:Int))=m:=by split <;> omega
 have e0:smallB L i k true=((valuesOf k)[(nextV L i (m:Nat)).toNat]?).getD nulV:=by unfold smallB; rw [if_pos rfl,hm]
 have hn:=nextV_in L i (n:=(m:Int)) (by omega)
 have hlt:(nextV L i (m:Nat)).toNat<(valuesOf k).length:=by omega
 have hg:(valuesOf k)[(nextV L i (m:Nat)).toNat]?=some (valuesOf k)[(nextV L i (m:Nat)).toNat]:=List.getElem?_eq_getElem hlt
 have ht:=t_next1 L i (by omega) (m:Nat) (by omega) (by omega)
 have e1:smallB L i k true=(valuesOf k)[(nextV L i (m:Nat)).toNat]:=by rw [e0,hg]; rfl
 have h0:0≤nextV L i (m:Int):=hn.1
 rw [e1]
 refine cf_intro mix (fn:=Tryz.f40) (by kernel_rfl) rfl (by kernel_rfl) (by decide) (by simp) ?_
 simp [tapB]
 (repeat' (first|contradiction|exact .ok|apply And.intro|intro _|(refine gc (fun h=>?_) (fun h=>?_)<;>(have h':=h;(try simp at h');first|done|simp[h,h']|simp))))
 refine acallT_plain (t_values k) (by simp [V.a]) ?_
 simp [hmin]
 (repeat' (first|contradiction|exact .ok|apply And.intro|intro _|(refine gc (fun h=>?_) (fun h=>?_)<;>(have h':=h;(try simp at h');first|done|simp[h,h']|simp))))
 try simp [hmin]
 refine acallT_hand [1000000] ht (by simp) (by simp) (by simp) (by simp [tapB]) (by simp) ?_
 simp [tapB,h0,hlt,V.c]
 (repeat' (first|contradiction|exact .ok|apply And.intro|intro _|(refine gc (fun h=>?_) (fun h=>?_)<;>(have h':=h;(try simp at h');first|done|simp[h,h']|simp))))
 all_goals simp [V.a]
end Go.Proofs.Tryz
