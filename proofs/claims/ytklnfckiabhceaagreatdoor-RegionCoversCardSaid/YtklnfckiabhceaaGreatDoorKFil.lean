import Derived.Test.YtklnfckiabhceaaGreatDoorKSml
import Derived.Test.YtklnfckiabhceaaGreatDoorKOrd2
import Derived.Test.YtklnfckiabhceaaGreatDoorKSrt
set_option linter.all false
namespace Go.Proofs.Tryz
open Go.Ab
set_option maxRecDepth 100000
set_option maxHeartbeats 2000000
theorem at_nodes (a:At):a.ex.nodes≤3:=by
 unfold At.ex colX constOf
 repeat' split
 all_goals simp [Ex.nodes,nodesAll]
theorem ck_parts (L:List Int) (x:Tb) (e:Nat):(ckP L x e).1.un=x.un∧(ckP L x e).1.n=x.n∧(ckP L x e).1.cols=x.cols∧(ckP L x e).1.pr=x.pr∧(ckP L x e).1.fk=x.fk∧((ckP L x e).1.ch=x.ch∨∃ a,(ckP L x e).1.ch=[(atomG L x a).1.ex]):=by
 unfold ckP
 split
 ·exact ⟨rfl,rfl,rfl,rfl,rfl,.inr ⟨_,rfl⟩⟩
 ·exact ⟨rfl,rfl,rfl,rfl,rfl,.inl rfl⟩
theorem sok_made (L:List Int) (a n:Nat) (hn:n≤10):SOk (tabsP L a n).1:=by
 refine ⟨by rw [tabsP_len]; omega,fun x hx=>(tabs_made hx).ok,fun x hx l hl=>?_,fun x hx e he=>?_⟩
 ·obtain ⟨j,b,rfl⟩:=tabsP_mem hx
  have h:=(ck_parts L (tab0 L j b) (pkE L (b+1+2*freeP L b) j)).1
  unfold tabP at hl
  rw [h] at hl
  cases hl
 ·obtain ⟨j,b,rfl⟩:=tabsP_mem hx
  have h:=(ck_parts L (tab0 L j b) (pkE L (b+1+2*freeP L b) j)).2.2.2.2.2
  unfold tabP at he
  rcases h with h | ⟨c,h⟩
  ·rw [h] at he
   cases he
  ·rw [h] at he
   obtain rfl:=List.mem_singleton.1 he
   exact ⟨few_ex (by have:=(atom_ok L (tab0_made L j b) c).len; omega) 0 (by omega),by have:=at_nodes (atomG L (tab0 L j b) c).1; omega⟩
def Tb.free (x:Tb):Tb:=⟨x.n,x.cols,x.pr,x.un,x.fk,[]⟩
def freS (S:List Tb):List Tb:=S.map Tb.free
@[simp] theorem freS_len (S:List Tb):(freS S).length=S.length:=List.length_map _
theorem sok_free {S:List Tb} (h:SOk S):SOk (freS S):=by
 refine ⟨by rw [freS_len]; exact h.len,fun x hx=>?_,fun x hx l hl=>?_,fun x hx e he=>?_⟩
 ·obtain ⟨y,hy,rfl⟩:=List.mem_map.1 hx
  have o:=h.ok y hy
  exact ⟨o.cols,o.pr,o.un,o.fk,by simp [Tb.free],o.fkc⟩
 ·obtain ⟨y,hy,rfl⟩:=List.mem_map.1 hx
  exact h.un y hy l hl
 ·obtain ⟨y,hy,rfl⟩:=List.mem_map.1 hx
  cases he
def freT (S:List Tb) (i:Nat):List Tb:=(S.take i).map Tb.free
theorem freT_len {S:List Tb} {i:Nat} (h:i≤S.length):(freT S i).length=i:=by unfold freT; simp; omega
theorem freT_succ {S:List Tb} {i:Nat} (h:i<S.length):freT S (i+1)=freT S i++[S[i].free]:=by unfold freT; rw [take_snoc h,List.map_append]; rfl
theorem freT_full (S:List Tb):freT S S.length=freS S:=by simp [freT,freS]
theorem t_free (S:List Tb) (hl:S.length≤1000):Cf En 15 [schA S] [] (schA (freS S)) []:=by
 refine cf_intro mix (fn:=Tryz.f15) (by kernel_rfl) rfl (by kernel_rfl) (by decide) (by simp) ?_
 simp [schA]
 (repeat' (first|contradiction|exact .ok|apply And.intro|intro _|(refine gc (fun h=>?_) (fun h=>?_)<;>(have h':=h;(try simp at h');first|done|simp[h,h']|simp))))
 refine aloopT mix (by decide) (fun i:Nat=>{ s:=mkS [(1,.ptr 1 0 0),(2,.ptr 2 0 0),(3,.ptr 3 0 0),(4,.d (.int .i64 i))],b:=mkB [(1,1,.var [.d (.sl (S.map Tb.c))]),(2,2,.var [.nils]),(3,3,.var [.ref 901 0 i 6]),(901,901,.arr 37 6 ((freT S i).map Tb.c) false)] }) (fun i=>i≤S.length) (fun i=>S.length - i) 0 (by simp)
  ((sub_nilc 3 901 37 6 0 (cells:=[.nils]) (by simp) rfl (by simp) (by decide) (by decide)).trans (sub_mk _ [(1,1,_),(2,2,_),(3,3,_),(901,901,_)] ⟨by simp,by simp,by simp [renOf,Blk.live,freT,upd],by simp⟩ (by simp [renOf]))) ?_
 intro i hi
 have hFl:=freT_len hi
 by_cases hlt:i<S.length
 ·obtain ⟨x,hx⟩:∃ u,u=S[i]:=⟨_,rfl⟩
  have hgi:∀ h,S[i]'h=x:=fun _=>hx.symm
  have hw:=wrap_in (n:=(i:Int)+1) (by omega) (by omega)
  have hnx:=freT_succ hlt
  rw [← hx] at hnx
  generalize hF:freT S i=F at *
  have htk:(F.map Tb.c).take i=F.map Tb.c:=List.take_of_length_le (by simp [hFl])
  simp [hlt,hgi,Tb.c,hFl,htk,szs i (by omega) 136 (by decide),szs (i+1) (by omega) 136 (by decide)]
  (repeat' (first|contradiction|exact .ok|apply And.intro|intro _|(refine gc (fun h=>?_) (fun h=>?_)<;>(have h':=h;(try simp at h');first|done|simp[h,h']|simp))))
  refine ⟨i+1,by omega,?_,by simp; omega⟩
  exact sub_mk _ [(1,1,_),(2,2,_),(3,3,_),(901,23,_)] ⟨by simp,by simp,by simp [renOf,Blk.live,hnx,Tb.c,Tb.free],by simp⟩ (by simp [renOf,hw])
 obtain rfl:i=S.length:=by omega
 rw [freT_full] at *
 have htk:((freS S).map Tb.c).take S.length=(freS S).map Tb.c:=List.take_of_length_le (by simp)
 simp [htk]
 all_goals exact gz
end Go.Proofs.Tryz
namespace Go.Proofs.Tryz
open Go.Ab
set_option maxRecDepth 100000
set_option maxHeartbeats 2000000
def rowD (r:List V):List D:=[.sl (r.map V.c)]
def tabD (R:List (List V)):List D:=[.sl (R.map rowD)]
def instA (I:List (List (List V))):AV:=.agg [.d (.sl (I.map tabD))]
def colO (x:Tb) (j:Nat):Col:=(x.cols[j]?).getD ⟨[],1,false⟩
def smC (L:List Int) (x:Tb) (a j:Nat):V:=smallB L (a+j) (colO x j).t (colO x j).b
def rowS (L:List Int) (x:Tb) (a n:Nat):List V:=seqF (fun j=>if j<n then smC L x a j else nulV) x.cols.length
def numV (n:Int):V:=⟨1,n,[]⟩
def tgN (S:List Tb) (f:Fk):Nat:=(tgt S f).toNat
def fkS (L:List Int) (S:List Tb) (x:Tb) (T:Nat→List (List V)) (b:Nat):Nat→List V→List V
 | 0,r=>r
 | z+1,r=>match x.fk[z]? with
   | some f=>(fkS L S x T b z r).set (hdI f.cols).toNat (numV (1+nextV L (b+z) (T (tgN S f)).length))
   | none=>fkS L S x T b z r
def rowP (L:List Int) (x:Tb) (a k:Nat):List V:=(rowS L x a x.cols.length).set (hdI x.pr).toNat (numV (k+1))
def rowG (L:List Int) (S:List Tb) (x:Tb) (T:Nat→List (List V)) (a k:Nat):List V:=fkS L S x T (a+x.cols.length) x.fk.length (rowP L x a k)
def rowW (x:Tb):Nat:=x.cols.length+x.fk.length
def rowsG (L:List Int) (S:List Tb) (x:Tb) (T:Nat→List (List V)) (a:Nat):Nat→List (List V)
 | 0=>[]
 | k+1=>rowsG L S x T a k++[rowG L S x T (a+k*rowW x) k]
theorem rowS_len (L:List Int) (x:Tb) (a n:Nat):(rowS L x a n).length=x.cols.length:=seqF_len _ _
theorem fkS_len (L:List Int) (S:List Tb) (x:Tb) (T:Nat→List (List V)) (b:Nat):∀ (z:Nat) (r:List V),(fkS L S x T b z r).length=r.length
 | 0,r=>rfl
 | z+1,r=>by
   rw [fkS]
   split
   ·rw [List.length_set]; exact fkS_len L S x T b z r
   ·exact fkS_len L S x T b z r
theorem rowP_len (L:List Int) (x:Tb) (a k:Nat):(rowP L x a k).length=x.cols.length:=by unfold rowP; rw [List.length_set,rowS_len]
theorem rowG_len (L:List Int) (S:List Tb) (x:Tb) (T:Nat→List (List V)) (a k:Nat):(rowG L S x T a k).length=x.cols.length:=by unfold rowG; rw [fkS_len,rowP_len]
theorem rowsG_len (L:List Int) (S:List Tb) (x:Tb) (T:Nat→List (List V)) (a:Nat):∀ k,(rowsG L S x T a k).length=k
 | 0=>rfl
 | k+1=>by rw [rowsG,List.length_append,rowsG_len L S x T a k]; rfl
theorem rowS_succ {L:List Int} {x:Tb} {a n:Nat} (h:n<x.cols.length):rowS L x a (n+1)=(rowS L x a n).set n (smC L x a n):=by
 unfold rowS
 rw [seqF_set]
 refine seqF_congr fun j _=>?_
 by_cases hj:j=n
 ·subst hj; simp
 ·by_cases h2:j<n
  ·simp [hj,h2,show j<n+1 from by omega]
  ·simp [hj,h2,show ¬ j<n+1 from by omega]
theorem rowS_zero (L:List Int) (x:Tb) (a:Nat):rowS L x a 0=List.replicate x.cols.length nulV:=by
 rw [seqF_rep]
 unfold rowS
 exact seqF_congr fun j _=>by simp
def numR (S:List Tb) (x:Tb) (T:Nat→List (List V)) (n f:Nat):Nat:=if (x.fk.take f).any (fun g=>(T (tgN S g)).length==0)=true then 0 else n
def nextN (L:List Int) (a:Nat) (n:Int):Nat:=(nextV L a n).toNat
def tabO (S:List Tb) (i:Nat):Tb:=(S[i]?).getD ⟨[],[],[],[],[],[]⟩
def stepG (L:List Int) (S:List Tb) (most:Nat) (i:Nat) (y:(Nat→List (List V))×Nat):(Nat→List (List V))×Nat :=
 let n:=numR S (tabO S i) y.1 (nextN L y.2 ((most:Int)+1)) (tabO S i).fk.length
 (upd y.1 i (rowsG L S (tabO S i) y.1 (y.2+1) n),y.2+1+n*rowW (tabO S i))
def fillG (L:List Int) (S:List Tb) (most:Nat):List Int→(Nat→List (List V))×Nat→(Nat→List (List V))×Nat
 | [],y=>y
 | z::r,y=>fillG L S most r (stepG L S most z.toNat y)
theorem fillG_snoc (L:List Int) (S:List Tb) (most:Nat) (z:Int):∀ (r:List Int) (y:(Nat→List (List V))×Nat),fillG L S most (r++[z]) y=stepG L S most z.toNat (fillG L S most r y)
 | [],y=>rfl
 | q::r,y=>by rw [List.cons_append,fillG,fillG,fillG_snoc L S most z r]
def fillT (L:List Int) (S:List Tb) (most a o:Nat):(Nat→List (List V))×Nat:=fillG L S most ((ordS S).1.take o) (fun _=>[],a)
theorem fillT_succ {L:List Int} {S:List Tb} {most a o i:Nat} (h:o<(ordS S).1.length) (hi:(ordS S).1[o]=i):fillT L S most a (o+1)=stepG L S most i (fillT L S most a o):=by
 unfold fillT
 rw [take_snoc h,fillG_snoc,hi,Int.toNat_natCast]
def goodG (L:List Int) (S:List Tb) (most a:Nat):List (List (List V))×Nat:=(seqF (fillT L S most a (ordS S).1.length).1 S.length,(fillT L S most a (ordS S).1.length).2)
theorem numR_le (S:List Tb) (x:Tb) (T:Nat→List (List V)) (n f:Nat):numR S x T n f≤n:=by unfold numR; split <;> omega
theorem numR_succ {S:List Tb} {x:Tb} {T:Nat→List (List V)} {n f:Nat} (h:f<x.fk.length):numR S x T n (f+1)=if (T (tgN S x.fk[f])).length=0 then 0 else numR S x T n f:=by
 unfold numR
 rw [any_take h]
 by_cases h1:(T (tgN S x.fk[f])).length=0
 ·rw [if_pos h1]; simp [h1]
 ·rw [if_neg h1]
  have:((T (tgN S x.fk[f])).length==0)=false:=by simpa using h1
  rw [this,Bool.or_false]
theorem numR_pos {S:List Tb} {x:Tb} {T:Nat→List (List V)} {n k:Nat} (h:k<numR S x T n x.fk.length):∀ f∈x.fk,0<(T (tgN S f)).length:=by
 intro f hf
 unfold numR at h
 rw [List.take_length] at h
 split at h
 ·omega
 ·rename_i hn
  rw [List.any_eq_true] at hn
  rcases Nat.eq_zero_or_pos (T (tgN S f)).length with h0 | h0
  ·exact absurd ⟨f,hf,by simpa using h0⟩ hn
  ·exact h0
theorem nextN_in (L:List Int) (a:Nat) {n:Int} (h:1≤n):(nextN L a n:Int)=nextV L a n∧(nextN L a n:Int)<n:=by
 have:=nextV_in L a (n:=n) h
 unfold nextN
 omega
structure FillOk (S:List Tb):Prop where
 ok:SOk S
 few:S.length≤10
 pr:∀ x∈S,x.pr.length=1∧0≤hdI x.pr∧hdI x.pr<x.cols.length
 fk:∀ x∈S,x.fk.length≤8∧∀ f∈x.fk,f.cols.length=1∧0≤hdI f.cols∧hdI f.cols<x.cols.length
 ty:∀ x∈S,∀ c∈x.cols,c.t=1∨c.t=2∨c.t=3
 cols:∀ x∈S,x.cols.length≤20
theorem step_le {L:List Int} {S:List Tb} (h:FillOk S) {most i:Nat} (hm:most≤100) (hi:i<S.length) (y:(Nat→List (List V))×Nat):(stepG L S most i y).2≤y.2+1+100*28:=by
 have hx:tabO S i∈S:=by unfold tabO; rw [List.getElem?_eq_getElem hi,Option.getD_some]; exact List.getElem_mem hi
 have h1:=h.cols _ hx
 have h2:=(h.fk _ hx).1
 have h3:=numR_le S (tabO S i) y.1 (nextN L y.2 ((most:Int)+1)) (tabO S i).fk.length
 have h4:=nextN_in L y.2 (n:=(most:Int)+1) (by omega)
 unfold stepG rowW
 simp only
 have h5:numR S (tabO S i) y.1 (nextN L y.2 ((most:Int)+1)) (tabO S i).fk.length*((tabO S i).cols.length+(tabO S i).fk.length)≤100*28:=Nat.mul_le_mul (by omega) (by omega)
 omega
theorem fillG_le {L:List Int} {S:List Tb} (h:FillOk S) {most:Nat} (hm:most≤100):∀ (r:List Int) (y:(Nat→List (List V))×Nat),(∀ z∈r,0≤z∧z<S.length)→(fillG L S most r y).2≤y.2+r.length*2801
 | [],y,_=>by simp [fillG]
 | z::r,y,hr=>by
   have hz:=hr z List.mem_cons_self
   have h1:=step_le (L:=L) h hm (i:=z.toNat) (by omega) y
   have h2:=fillG_le (L:=L) h hm r (stepG L S most z.toNat y) fun q hq=>hr q (List.mem_cons_of_mem _ hq)
   rw [fillG,List.length_cons]
   omega
theorem fillG_out {L:List Int} {S:List Tb} {most j:Nat}:∀ (r:List Int) (y:(Nat→List (List V))×Nat),(∀ z∈r,0≤z)→(j:Int) ∉ r→(fillG L S most r y).1 j=y.1 j
 | [],y,_,_=>rfl
 | z::r,y,h0,h=>by
   rw [fillG,fillG_out r _ (fun q hq=>h0 q (List.mem_cons_of_mem _ hq)) fun hm=>h (List.mem_cons_of_mem _ hm)]
   unfold stepG upd
   simp only
   rw [if_neg]
   intro e
   have hz:=h0 z List.mem_cons_self
   exact h (by rw [e,Int.toNat_of_nonneg hz]; exact List.mem_cons_self)
theorem fillG_rows {L:List Int} {S:List Tb} {most:Nat}:∀ (r:List Int) (y:(Nat→List (List V))×Nat),(∀ j,(y.1 j).length≤most)→∀ j,((fillG L S most r y).1 j).length≤most
 | [],y,h=>h
 | z::r,y,h=>by
   rw [fillG]
   refine fillG_rows r _ fun j=>?_
   have h3:=numR_le S (tabO S z.toNat) y.1 (nextN L y.2 ((most:Int)+1)) (tabO S z.toNat).fk.length
   have h4:=nextN_in L y.2 (n:=(most:Int)+1) (by omega)
   unfold stepG upd
   simp only
   split
   ·rw [rowsG_len]; omega
   ·exact h j
end Go.Proofs.Tryz
namespace Go.Proofs.Tryz
open Go.Ab
set_option maxRecDepth 100000
set_option maxHeartbeats 2000000
def lenB (n:Nat):Int:=if n=0 then 0 else if n=1 then 1 else if n≤3 then 2 else if n≤7 then 3 else 4
theorem bits_len64 (n:Nat) (h:n≤12):Cf En 200 [.d (.int .u64 n)] [] (.d (.int .i64 (lenB n))) []:=by
 refine cf_intro mix (fn:=Tryz.f200) (by kernel_rfl) rfl (by kernel_rfl) (by decide) (by simp) ?_
 rcases (by omega:n=0∨n=1∨n=2∨n=3∨n=4∨n=5∨n=6∨n=7∨n=8∨n=9∨n=10∨n=11∨n=12) with rfl | rfl | rfl | rfl | rfl | rfl | rfl | rfl | rfl | rfl | rfl | rfl | rfl
 all_goals
  simp [show ∀ k:Nat,k≤12→IntKind.u8.wrap k=k from by decide,show IntKind.u8.wrap 0=0 from by decide,show IntKind.u8.wrap 1=1 from by decide,show IntKind.u8.wrap 2=2 from by decide,show IntKind.u8.wrap 3=3 from by decide,show IntKind.u8.wrap 4=4 from by decide,show IntKind.u8.wrap 5=5 from by decide,show IntKind.u8.wrap 6=6 from by decide,show IntKind.u8.wrap 7=7 from by decide,show IntKind.u8.wrap 8=8 from by decide,show IntKind.u8.wrap 9=9 from by decide,show IntKind.u8.wrap 10=10 from by decide,show IntKind.u8.wrap 11=11 from by decide,show IntKind.u8.wrap 12=12 from by decide,show IntKind.i64.wrap 0=0 from by decide,show IntKind.i64.wrap 1=1 from by decide,show IntKind.i64.wrap 2=2 from by decide,show IntKind.i64.wrap 3=3 from by decide,show IntKind.i64.wrap 4=4 from by decide]
  (repeat' (first|contradiction|exact .ok|apply And.intro|intro _|(refine gc (fun h=>?_) (fun h=>?_)<;>(have h':=h;(try simp at h');first|done|simp[h,h']|simp))))
  all_goals (first | rfl | decide)
theorem bits_len (n:Nat) (h:n≤12):Cf En 170 [.d (.int .u64 n)] [] (.d (.int .i64 (lenB n))) []:=by
 refine cf_intro mix (fn:=Tryz.f170) (by kernel_rfl) rfl (by kernel_rfl) (by decide) (by simp) ?_
 simp
 (repeat' (first|contradiction|exact .ok|apply And.intro|intro _|(refine gc (fun h=>?_) (fun h=>?_)<;>(have h':=h;(try simp at h');first|done|simp[h,h']|simp))))
 refine acallT_plain (bits_len64 n h) (by simp) ?_
 simp
 all_goals exact gz
theorem pdq (l:List V) (hl:l.length≤12) (lim:Int):Cf En 207 [.ref 1000000 0 l.length 3,.d (.int .i64 0),.d (.int .i64 l.length),.d (.int .i64 lim),.clo 141 []] [.arr 79 3 (l.map V.c) false] (.tup []) [.arr 79 3 ((isort l).map V.c) false]:=by
 refine cf_intro mix (fn:=Tryz.f207) (by kernel_rfl) rfl (by kernel_rfl) (by decide) (by simp) ?_
 have hw:=wrap_in (n:=(l.length:Int)) (by omega) (by omega)
 have h12:(l.length:Int)≤12:=by omega
 simp
 (repeat' (first|contradiction|exact .ok|apply And.intro|intro _|(refine gc (fun h=>?_) (fun h=>?_)<;>(have h':=h;(try simp at h');first|done|simp[h,h']|simp))))
 refine aloopT mix (by decide) (fun _:Unit=>{ s:=mkS [(0,.ref 1000000 0 l.length 3),(1,.d (.int .i64 0)),(2,.d (.int .i64 l.length)),(4,.clo 141 [])],b:=mkB [(1000000,1000000,.arr 79 3 (l.map V.c) false)] }) (fun _=>True) (fun _=>0) () trivial (sub_mk _ [(1000000,1000000,_)] ⟨by simp,by simp,by simp [renOf,Blk.live],base1⟩ (by simp [renOf])) ?_
 intro _ _
 simp [hw,hl,h12]
 (repeat' (first|contradiction|exact .ok|apply And.intro|intro _|(refine gc (fun h=>?_) (fun h=>?_)<;>(have h':=h;(try simp at h');first|done|simp[h,h']|simp))))
 refine acallT_hand [1000000] (ins_sort l (by omega)) (by simp) (by simp) (by simp) (by simp) (by simp) ?_
 simp
 all_goals exact gz
theorem sort_func (l:List V) (hl:l.length≤12):Cf En 178 [.ref 1000000 0 l.length 3,.clo 141 []] [.arr 79 3 (l.map V.c) false] (.tup []) [.arr 79 3 ((isort l).map V.c) false]:=by
 refine cf_intro mix (fn:=Tryz.f178) (by kernel_rfl) rfl (by kernel_rfl) (by decide) (by simp) ?_
 have hw:IntKind.u64.wrap (l.length:Int)=l.length:=by rw [IntKind.wrap_u64]; omega
 simp [hw]
 (repeat' (first|contradiction|exact .ok|apply And.intro|intro _|(refine gc (fun h=>?_) (fun h=>?_)<;>(have h':=h;(try simp at h');first|done|simp[h,h']|simp))))
 refine acallT_plain (bits_len l.length hl) (by simp) ?_
 simp
 refine acallT_hand [1000000] (pdq l hl (lenB l.length)) (by simp) (by simp) (by simp) (by simp) (by simp) ?_
 simp
 all_goals exact gz
theorem compV_tail {l:List V} {i:Nat} (h:i+1<l.length):(compV (l.drop i)).tail=if V.beq l[i] l[i+1]=true then (compV (l.drop (i+1))).tail else l[i+1]::(compV (l.drop (i+1))).tail:=by
 rw [List.drop_eq_getElem_cons (show i<l.length by omega),List.drop_eq_getElem_cons h]
 obtain ⟨m,hm⟩:=compV_head l[i+1] (l.drop (i+1+1))
 rw [compV,hm]
 split <;> simp
theorem compV_take {l:List V} {i:Nat} (h:i+1<l.length) (he:V.beq l[i] l[i+1]=false):compV (l.drop i)=l[i]::compV (l.drop (i+1)):=by
 rw [List.drop_eq_getElem_cons (show i<l.length by omega),List.drop_eq_getElem_cons h,compV,if_neg (by rw [he]; decide)]
def cpF (n k0:Nat) (x:Nat×Nat×List V):St :=
 { s:=mkS [(0,.ref 1000000 0 n 3),(3,.d (.int .i64 x.1)),(4,.ref 1000000 k0 (n - k0) 3),(5,.d (.int .i64 x.2.1))],b:=mkB [(1000000,1000000,.arr 79 3 (x.2.2.map V.c) false)] }
end Go.Proofs.Tryz
namespace Go.Proofs.Tryz
open Go.Ab
set_option maxRecDepth 100000
set_option maxHeartbeats 2000000
theorem V.beq_f {u v:V} (h:V.beq u v=false):(u.k==v.k&&(u.n==v.n&&u.t==v.t))=false:=h
theorem compact (l:List V) (hl:l.length≤1000):Cf En 179 [.ref 1000000 0 l.length 3] [.arr 79 3 (l.map V.c) false]
  (.ref 1000000 0 (compV l).length 3) [.arr 79 3 ((compV l++List.replicate (l.length - (compV l).length) nulV).map V.c) false]:=by
 refine cf_intro mix (fn:=Tryz.f179) (by kernel_rfl) rfl (by kernel_rfl) (by decide) (by simp) ?_
 by_cases h2:l.length<2
 ·have h2':(l.length:Int)<2:=by omega
  have hc:compV l=l:=by
   match l,h2 with
   | [],_=>rfl
   | [_],_=>rfl
  simp [h2,h2',hc]
  (repeat' (first|contradiction|exact .ok|apply And.intro|intro _|(refine gc (fun h=>?_) (fun h=>?_)<;>(have h':=h;(try simp at h');first|done|simp[h,h',h2,h2']|simp[h2,h2']))))
 have h2':¬ (l.length:Int)<2:=by omega
 simp [h2,h2']
 (repeat' (first|contradiction|exact .ok|apply And.intro|intro _|(refine gc (fun h=>?_) (fun h=>?_)<;>(have h':=h;(try simp at h');first|done|simp[h,h',h2,h2']|simp[h2,h2']))))
 refine aloopT mix (by decide) (fun p:Nat=>{ s:=mkS [(0,.ref 1000000 0 l.length 3),(3,.d (.int .i64 ((p:Int)+1)))],b:=mkB [(1000000,1000000,.arr 79 3 (l.map V.c) false)] }) (fun p=>p+1≤l.length∧compV l=l.take p++compV (l.drop p)) (fun p=>l.length - p) 0 ⟨by omega,by simp⟩ (sub_mk _ [(1000000,1000000,_)] ⟨by simp,by simp,by simp [renOf,Blk.live],base1⟩ (by simp [renOf])) ?_
 rintro p ⟨hp,hC⟩
 by_cases hlt:p+1<l.length
 ·have hlt':(p:Int)+1<l.length:=by omega
  have h0:(0:Int)≤(p:Int)+1:=by omega
  have hp0:p<l.length:=by omega
  have hwp:IntKind.i64.wrap (p:Int)=p:=wrap_in (by omega) (by omega)
  have hwp1:IntKind.i64.wrap ((p:Int)+1)=p+1:=wrap_in (by omega) (by omega)
  have hwp2:IntKind.i64.wrap ((p:Int)+1+1)=p+1+1:=wrap_in (by omega) (by omega)
  obtain ⟨v,hv⟩:∃ v,v=l[p]:=⟨_,rfl⟩
  obtain ⟨u,hu⟩:∃ u,u=l[p+1]:=⟨_,rfl⟩
  have hgv:∀ h,l[p]'h=v:=fun _=>hv.symm
  have hgu:∀ h,l[p+1]'h=u:=fun _=>hu.symm
  cases hb:V.beq u v with
  | false =>
    have hb2:V.beq l[p] l[p+1]=false:=by
     cases e:V.beq l[p] l[p+1] with
     | false=>rfl
     | true =>
       have:=(V.beq_iff _ _).1 e
       rw [hgv,hgu] at this
       subst this
       rw [(V.beq_iff _ _).2 rfl] at hb; cases hb
    have hs:=compV_take hlt hb2
    have hf:=V.beq_f hb
    simp [hlt,hlt',h0,hp0,hwp,hgv,hgu,V.c,hf]
    (repeat' (first|contradiction|exact .ok|apply And.intro|intro _|(refine gc (fun h=>?_) (fun h=>?_)<;>(have h':=h;(try simp at h');first|done|simp[h,h',hf]|simp[hf]))))
    refine ⟨p+1,⟨by omega,by rw [hC,hs,take_snoc hp0,List.append_assoc]; rfl⟩,?_,by simp; omega⟩
    exact sub_mk _ [(1000000,1000000,_)] ⟨by simp,by simp,by simp [renOf,Blk.live],base1⟩ (by simp [renOf,hwp2])
  | true =>
    have huv:=(V.beq_iff _ _).1 hb
    subst huv
    have hinit:l.take (p+1)++(compV (l.drop (p+1))).tail=compV l:=by
     rw [hC,take_snoc hp0,hgv,List.append_assoc]
     congr 1
     obtain ⟨m,hm⟩:=compV_head u (l.drop (p+1+1))
     rw [List.drop_eq_getElem_cons hp0,List.drop_eq_getElem_cons hlt,hgv,hgu,compV,if_pos ((V.beq_iff _ _).2 rfl),hm]
     rfl
    have hle':(p:Int)+1≤l.length:=by omega
    simp [hlt,hlt',hle',h0,hp0,hwp,hgv,hgu,V.c]
    (repeat' (first|contradiction|exact .ok|apply And.intro|intro _|(refine gc (fun h=>?_) (fun h=>?_)<;>(have h':=h;(try simp at h');first|done|simp[h,h']|simp))))
    refine aloopT mix (by decide) (cpF l.length (p+1)) (fun x=>1≤x.2.1∧p+1+x.2.1≤l.length∧1≤x.1∧x.1≤p+x.2.1∧x.2.2.length=l.length∧x.2.2.drop (p+x.2.1)=l.drop (p+x.2.1)∧x.2.2.take x.1++(compV (l.drop (p+x.2.1))).tail=compV l) (fun x=>l.length - x.2.1) (p+1,1,l) ⟨by simp,by simp only; omega,by simp,by simp,rfl,rfl,hinit⟩
     (sub_mk _ [(1000000,1000000,_)] ⟨by simp,by simp,by simp [renOf,Blk.live],base1⟩ (by simp [renOf])) ?_
    rintro ⟨k,k2,A⟩ ⟨i1,i2,i3,i4,i5,i6,i7⟩
    simp only at i1 i2 i3 i4 i5 i6 i7
    obtain ⟨j,rfl⟩:∃ j,k2=j+1:=⟨k2 - 1,by omega⟩
    have hAg:∀ i,p+(j+1)≤i→A[i]?=l[i]?:=fun i hi=>by
     have:=congrArg (·[i - (p+(j+1))]?) i6
     simp only [List.getElem?_drop] at this
     rwa [show p+(j+1)+(i - (p+(j+1)))=i from by omega] at this
    have hsub:(l.length - (p+1):Nat)=l.length - (p+1):=rfl
    by_cases hj:j+1<l.length - (p+1)
    ·have hj':(j:Int)+1<((l.length - (p+1):Nat):Int):=by omega
     have hq1:p+(j+1)+1<l.length:=by omega
     obtain ⟨b,hbq⟩:∃ b,b=l[p+(j+1)]:=⟨_,rfl⟩
     obtain ⟨a,haq⟩:∃ a,a=l[p+(j+1)+1]:=⟨_,rfl⟩
     have htl:=compV_tail hq1
     rw [← hbq,← haq] at htl
     have c1:A[p+1+(j+1)]?=some a:=by rw [hAg _ (by omega),List.getElem?_eq_getElem (by omega),haq]; congr 2; omega
     have c2:A[p+1+j]?=some b:=by rw [hAg _ (by omega),List.getElem?_eq_getElem (by omega),hbq]; congr 2; omega
     have hl1:p+1+(j+1)<A.length:=by omega
     have hl2:p+1+j<A.length:=by omega
     have d1:∀ h,A[p+1+(j+1)]'h=a:=fun h=>by rw [List.getElem?_eq_getElem h] at c1; exact Option.some.inj c1
     have d2:∀ h,A[p+1+j]'h=b:=fun h=>by rw [List.getElem?_eq_getElem h] at c2; exact Option.some.inj c2
     have hj0:(0:Int)≤(j:Int)+1:=by omega
     have hjl:j<l.length - (p+1):=by omega
     have hwj:IntKind.i64.wrap (j:Int)=j:=wrap_in (by omega) (by omega)
     have hwj2:IntKind.i64.wrap ((j:Int)+1+1)=j+1+1:=wrap_in (by omega) (by omega)
     have hkl:k<l.length:=by omega
     have hkA:k<A.length:=by omega
     have hwk:IntKind.i64.wrap ((k:Int)+1)=k+1:=wrap_in (by omega) (by omega)
     cases hbe:V.beq a b with
     | true =>
       have hab:=(V.beq_iff _ _).1 hbe
       subst hab
       rw [if_pos ((V.beq_iff _ _).2 rfl)] at htl
       simp [cpF,hj,hj',hj0,hjl,hwj,c1,c2,hl1,hl2,d1,d2,V.c]
       (repeat' (first|contradiction|exact .ok|apply And.intro|intro _|(refine gc (fun h=>?_) (fun h=>?_)<;>(have h':=h;(try simp at h');first|done|simp[h,h']|simp))))
       refine ⟨(k,j+1+1,A),⟨by simp,by simp only; omega,i3,by simp only; omega,i5,?_,?_⟩,?_,by simp only; omega⟩
       ·have:=congrArg (List.drop 1) i6
        simpa only [List.drop_drop,Nat.add_assoc] using this
       ·have e:p+(j+1+1)=p+(j+1)+1:=by omega
        simp only [e]; rw [← htl]; exact i7
       ·exact sub_mk _ [(1000000,1000000,_)] ⟨by simp,by simp,by simp [renOf,Blk.live],base1⟩ (by simp [renOf,hwj2])
     | false =>
       have hf:=V.beq_f hbe
       have hbe2:V.beq b a=false:=by
        cases e:V.beq b a with
        | false=>rfl
        | true =>
          have:=(V.beq_iff _ _).1 e
          subst this
          rw [(V.beq_iff _ _).2 rfl] at hbe; cases hbe
       rw [if_neg (by rw [hbe2]; decide)] at htl
       simp [cpF,hj,hj',hj0,hjl,hwj,c1,c2,hl1,hl2,d1,d2,V.c,hf,hkl,hkA]
       (repeat' (first|contradiction|exact .ok|apply And.intro|intro _|(refine gc (fun h=>?_) (fun h=>?_)<;>(have h':=h;(try simp at h');first|done|simp[h,h',hf]|simp[hf]))))
       refine ⟨(k+1,j+1+1,A.set k a),⟨by simp,by simp only; omega,by simp,by simp only; omega,by simpa using i5,?_,?_⟩,?_,by simp only; omega⟩
       ·have:=congrArg (List.drop 1) i6
        simp only [List.drop_drop,Nat.add_assoc] at this
        simp only
        rw [List.drop_set_of_lt (by omega)]
        exact this
       ·have e:p+(j+1+1)=p+(j+1)+1:=by omega
        simp only [e]
        have e2:(A.set k a).take (k+1)=A.take k++[a]:=by
         rw [take_snoc (by simpa using hkA),List.take_set_of_le (Nat.le_refl k),List.getElem_set_self]
        rw [e2,List.append_assoc,← i7,htl]
        rfl
       ·exact sub_mk _ [(1000000,1000000,_)] ⟨by simp,by simp,by simp [renOf,Blk.live,List.map_set,V.c],base1⟩ (by simp [renOf,hwj2,hwk])
    ·have hjn:¬ (j:Int)+1<((l.length - (p+1):Nat):Int):=by omega
     have hq:p+(j+1)=l.length - 1:=by omega
     have htl:(compV (l.drop (p+(j+1)))).tail=[]:=by
      rw [List.drop_eq_getElem_cons (by omega),List.drop_of_length_le (by omega),compV]; rfl
     rw [htl,List.append_nil] at i7
     have hkC:(compV l).length=k:=by rw [← i7]; simp; omega
     have hk1:k<l.length:=by omega
     have hk1':(k:Int)≤l.length:=by omega
     have hk2:k+(l.length - k)=l.length:=by omega
     have hk3:0<l.length - k:=by omega
     have hdl:List.drop l.length (A.map V.c)=[]:=List.drop_of_length_le (by simp; omega)
     have hk4:k≤A.length:=by omega
     have hk5:k≤l.length:=by omega
     have hfin:List.take k (A.map V.c)=(compV l).map V.c:=by rw [← List.map_take,i7]
     rw [hkC]
     simp [cpF,hj,hjn,hk1,hk1',hk2,hk3,i5,hdl,hk4,hk5,hfin,V.c,nulV]
     all_goals exact gz
 have hpe:p+1=l.length:=by omega
 have hcl:compV l=l:=by
  rw [hC,List.drop_eq_getElem_cons (by omega),List.drop_of_length_le (by omega),compV]
  conv=>rhs; rw [← List.take_length (l:=l),← hpe,take_snoc (by omega)]
 have hpe':(p:Int)+1=l.length:=by omega
 simp [hpe',hcl]
 all_goals exact gz
end Go.Proofs.Tryz
namespace Go.Proofs.Tryz
open Go.Ab
set_option maxRecDepth 100000
set_option maxHeartbeats 1000000
structure TabIs (L:List Int) (x:Tb):Prop where
 pr:x.pr=[0]
 un:x.un=[]
 cols:2≤x.cols.length∧x.cols.length≤5
 fk:x.fk.length≤2
 fkc:∀ f∈x.fk,∃ c:Nat,f.cols=[(c:Int)]∧1≤c∧c<x.cols.length
 ty:∀ c∈x.cols,c.t=1∨c.t=2∨c.t=3
theorem tab0_is (L:List Int) (j a:Nat):TabIs L (tab0 L j a):=by
 have h1:=freeP_in L a
 have h2:=pkN_le L (a+1+2*freeP L a) j
 have hty:=(tab0_made L j a).ty
 unfold tab0 at *
 generalize freeP L a=m at *
 generalize pkN L (a+1+2*m) j=z at *
 refine ⟨rfl,rfl,by simp only [colsP_len]; omega,by simp only [fksP_len]; omega,fun f hf=>?_,hty⟩
 obtain ⟨k,hk,rfl⟩:=upL_mem hf
 refine ⟨m+1+k,rfl,by omega,?_⟩
 simp only [colsP_len]
 omega
theorem tabs_is {L:List Int} {a n:Nat} {x:Tb} (h:x∈(tabsP L a n).1):TabIs L x:=by
 obtain ⟨j,b,rfl⟩:=tabsP_mem h
 obtain ⟨p1,p2,p3,p4,p5,_⟩:=ck_parts L (tab0 L j b) (pkE L (b+1+2*freeP L b) j)
 have h0:=tab0_is L j b
 unfold tabP
 refine ⟨by rw [p4]; exact h0.pr,by rw [p1]; exact h0.un,by rw [p3]; exact h0.cols,by rw [p5]; exact h0.fk,fun f hf=>?_,by rw [p3]; exact h0.ty⟩
 rw [p5] at hf
 rw [p3]
 exact h0.fkc f hf
theorem fill_of {L:List Int} {S:List Tb} (h:SOk S) (hl:S.length≤10) (ht:∀ x∈S,TabIs L x):FillOk S:=by
 refine ⟨h,hl,fun x hx=>?_,fun x hx=>?_,fun x hx=>(ht x hx).ty,fun x hx=>by have:=(ht x hx).cols; omega⟩
 ·have t:=ht x hx
  have c:=t.cols
  rw [t.pr]
  exact ⟨rfl,by simp [hdI],by simp [hdI]; omega⟩
 ·have t:=ht x hx
  refine ⟨by have:=t.fk; omega,fun f hf=>?_⟩
  obtain ⟨c,e,c1,c2⟩:=t.fkc f hf
  rw [e]
  exact ⟨rfl,by simp [hdI],by simp [hdI]; omega⟩
theorem free_is {L:List Int} {x:Tb} (t:TabIs L x):TabIs L x.free:=⟨t.pr,t.un,t.cols,t.fk,t.fkc,t.ty⟩
theorem fill_made (L:List Int) (a n:Nat) (hn:n≤10):FillOk (tabsP L a n).1:=fill_of (sok_made L a n hn) (by rw [tabsP_len]; exact hn) fun x hx=>tabs_is hx
theorem fill_free (L:List Int) (a n:Nat) (hn:n≤10):FillOk (freS (tabsP L a n).1) :=
 fill_of (sok_free (sok_made L a n hn)) (by rw [freS_len,tabsP_len]; exact hn) fun x hx=>by
  obtain ⟨y,hy,rfl⟩:=List.mem_map.1 hx
  exact free_is (tabs_is hy)
end Go.Proofs.Tryz
