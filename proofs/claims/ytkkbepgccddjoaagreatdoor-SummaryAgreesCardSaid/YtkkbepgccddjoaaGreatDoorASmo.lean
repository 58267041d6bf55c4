import Derived.Test.YtkkbepgccddjoaaGreatDoorARko
import Derived.Test.YtkkbepgccddjoaaGreatDoorARsm
import Derived.Test.YtkkbepgccddjoaaGreatDoorAPln
import Derived.Test.YtkkbepgccddjoaaGreatDoorAHRow
import Derived.Test.YtkkbepgccddjoaaGreatDoorPlw
set_option linter.all false
namespace Go.Proofs.Tryz
open Go.Ab
set_option maxRecDepth 100000
set_option maxHeartbeats 1000000
def fkB2 (S:List Tb) (X:Nat→List Bk) (b:Bk) (j:Nat):List Fk→Nat→List V→List V
 | [],_,r=>r
 | g::gs,f,r=>fkB2 S X b j gs (f+1) (r.set (hdI g.cols).toNat (numV (tgtN (cntB (X (tgN S g))) ((b.p[f]?).getD 0).toNat j+1:Nat)))
def rowB (S:List Tb) (X:Nat→List Bk) (x:Tb) (b:Bk) (j n:Nat):List V:=fkB2 S X b j x.fk 0 (b.v.set (hdI x.pr).toNat (numV (n+1:Nat)))
def rowN (S:List Tb) (X:Nat→List Bk) (x:Tb) (l:List Bk) (n:Nat):List V:=match l[(fndN (cntB l) n).1]? with
 | some b=>rowB S X x b (fndN (cntB l) n).2 n
 | none=>[]
def rowsN (S:List Tb) (X:Nat→List Bk) (x:Tb) (l:List Bk) (from_ to:Nat):List (List V):=seqF (fun i=>rowN S X x l (from_+i)) (to - from_)
def parB (L:List Int) (S:List Tb) (x:Tb) (T:Nat→List Bk) (b:Nat):Nat→List Int×Nat
 | 0=>([],b)
 | f+1=>match x.fk[f]? with
   | some g=>((parB L S x T b f).1++[nextV L (parB L S x T b f).2 (T (tgN S g)).length],nextI (parB L S x T b f).2 (T (tgN S g)).length)
   | none=>parB L S x T b f
def valB2 (L:List Int) (x:Tb) (a n:Nat):List V:=seqF (fun j=>smC L x a j) n
def fineB (S:List Tb) (x:Tb) (T:Nat→List Bk) (f:Nat):Bool:=(x.fk.take f).all fun g=>decide (0<(T (tgN S g)).length)
def blkG (L:List Int) (S:List Tb) (x:Tb) (T:Nat→List Bk) (most a:Nat):Bk×Nat :=
 (⟨(1+nextV L a most).toNat,valB2 L x (a+1) x.cols.length,(parB L S x T (a+1+x.cols.length) x.fk.length).1⟩,(parB L S x T (a+1+x.cols.length) x.fk.length).2)
def blksG (L:List Int) (S:List Tb) (x:Tb) (T:Nat→List Bk) (most:Nat):Nat→List Bk×Nat→List Bk×Nat
 | 0,y=>y
 | k+1,y=>blksG L S x T most k (if fineB S x T x.fk.length=true then y.1++[(blkG L S x T most y.2).1] else y.1,(blkG L S x T most y.2).2)
def smyS (L:List Int) (S:List Tb) (blocks most i:Nat) (y:(Nat→List Bk)×Nat):(Nat→List Bk)×Nat :=
 (upd y.1 i (blksG L S (tabO S i) y.1 most (nextV L y.2 (blocks+1)).toNat ([],y.2+1)).1,(blksG L S (tabO S i) y.1 most (nextV L y.2 (blocks+1)).toNat ([],y.2+1)).2)
def smyG (L:List Int) (S:List Tb) (blocks most:Nat):List Int→(Nat→List Bk)×Nat→(Nat→List Bk)×Nat
 | [],y=>y
 | z::r,y=>smyG L S blocks most r (smyS L S blocks most z.toNat y)
structure BkOk (S:List Tb) (X:Nat→List Bk) (most:Nat) (x:Tb) (b:Bk):Prop where
 n:1≤b.n∧b.n≤most
 len:b.v.length=x.cols.length
 val:∀ c v,b.v[c]?=some v→ValOk x c v
 par:b.p.length=x.fk.length
 tgt:∀ (f:Nat) (g:Fk) (z:Int),x.fk[f]?=some g→b.p[f]?=some z→0≤z∧z<(X (tgN S g)).length
theorem parB_ok {L:List Int} {S:List Tb} {x:Tb} {T:Nat→List Bk} {b:Nat} (hT:∀ g∈x.fk,0<(T (tgN S g)).length):∀ {f:Nat},f≤x.fk.length→(parB L S x T b f).1.length=f∧∀ (i:Nat) (g:Fk) (z:Int),x.fk[i]?=some g→(parB L S x T b f).1[i]?=some z→0≤z∧z<(T (tgN S g)).length
 | 0,_=>⟨rfl,fun i g z _ h=>by simp [parB] at h⟩
 | f+1,hf=>by
   have hl:f<x.fk.length:=by omega
   obtain ⟨h1,h2⟩:=parB_ok (L:=L) (S:=S) (T:=T) (b:=b) hT (f:=f) (by omega)
   rw [parB,List.getElem?_eq_getElem hl]
   simp only
   refine ⟨by simp [h1],fun i g z hg hz=>?_⟩
   rw [List.getElem?_append,h1] at hz
   split at hz
   ·exact h2 i g z hg hz
   ·rename_i hi
    have hif:i=f:=by
     have:=(List.getElem?_eq_some_iff.1 hz).1
     simp at this; omega
    subst hif
    rw [Nat.sub_self,List.getElem?_cons_zero,Option.some.injEq] at hz
    rw [List.getElem?_eq_getElem hl,Option.some.injEq] at hg
    subst hg hz
    have hp:=hT _ (List.getElem_mem hl)
    exact nextV_in L _ (n:=((T (tgN S x.fk[i])).length:Int)) (by omega)
theorem fineB_all {S:List Tb} {x:Tb} {T:Nat→List Bk} (h:fineB S x T x.fk.length=true):∀ g∈x.fk,0<(T (tgN S g)).length:=by
 unfold fineB at h
 rw [List.take_length] at h
 intro g hg
 simpa using List.all_eq_true.1 h g hg
theorem blkG_ok (L:List Int) {S:List Tb} {x:Tb} {T:Nat→List Bk} {most:Nat} (hm:1≤most) (ht:∀ c,c<x.cols.length→(colO x c).t=1∨(colO x c).t=2∨(colO x c).t=3) (hT:∀ g∈x.fk,0<(T (tgN S g)).length) (a:Nat):BkOk S T most x (blkG L S x T most a).1:=by
 unfold blkG
 have hn:=nextV_in L a (n:=(most:Int)) (by omega)
 obtain ⟨h1,h2⟩:=parB_ok (L:=L) (b:=a+1+x.cols.length) hT (Nat.le_refl _)
 refine ⟨by simp only; omega,by simp [valB2],fun c v hv=>?_,h1,h2⟩
 simp only [valB2] at hv
 rw [seqF_get] at hv
 split at hv
 ·rename_i hc
  rw [Option.some.injEq] at hv
  subst hv
  unfold smC
  exact smallB_ok L _ _ (ht c hc) _
 ·cases hv
theorem blksG_ok (L:List Int) {S:List Tb} {x:Tb} {T:Nat→List Bk} {most:Nat} (hm:1≤most) (ht:∀ c,c<x.cols.length→(colO x c).t=1∨(colO x c).t=2∨(colO x c).t=3):∀ (k:Nat) (y:List Bk×Nat),(∀ b∈y.1,BkOk S T most x b)→(blksG L S x T most k y).1.length≤y.1.length+k∧∀ b∈(blksG L S x T most k y).1,BkOk S T most x b
 | 0,y,h=>⟨by simp [blksG],h⟩
 | k+1,y,h=>by
   rw [blksG]
   by_cases hf:fineB S x T x.fk.length=true
   ·rw [if_pos hf]
    have:=blksG_ok L hm ht k (y.1++[(blkG L S x T most y.2).1],(blkG L S x T most y.2).2) (fun b hb=>by
     rcases List.mem_append.1 hb with hb | hb
     ·exact h b hb
     ·rw [List.mem_singleton] at hb; subst hb; exact blkG_ok L hm ht (fineB_all hf) _)
    refine ⟨?_,this.2⟩
    have:=this.1
    simp at this ⊢
    omega
   ·rw [if_neg hf]
    have:=blksG_ok L hm ht k (y.1,(blkG L S x T most y.2).2) h
    exact ⟨by have:=this.1; simp at this; omega,this.2⟩
def SmyOk (S:List Tb) (X:Nat→List Bk) (blocks most j:Nat):Prop:=∀ k,k<j→(X k).length≤blocks∧∀ b∈X k,BkOk S X most (tabO S k) b
theorem bk_mono {S:List Tb} {X Y:Nat→List Bk} {most:Nat} {x:Tb} {b:Bk} (h:BkOk S X most x b) (he:∀ g∈x.fk,Y (tgN S g)=X (tgN S g)):BkOk S Y most x b :=
 ⟨h.n,h.len,h.val,h.par,fun f g z hg hz=>by rw [he g (List.mem_of_getElem? hg)]; exact h.tgt f g z hg hz⟩
theorem smyG_ok (L:List Int) {S:List Tb} (hd:Dec S) (ht:∀ k,k<S.length→∀ c,c<(tabO S k).cols.length→(colO (tabO S k) c).t=1∨(colO (tabO S k) c).t=2∨(colO (tabO S k) c).t=3) {blocks most:Nat} (hm:1≤most):∀ (n j:Nat) (y:(Nat→List Bk)×Nat),j+n=S.length→SmyOk S y.1 blocks most j→SmyOk S (smyG L S blocks most (upN j n) y).1 blocks most S.length
 | 0,j,y,h,w=>by
   have:j=S.length:=by omega
   subst this
   exact w
 | n+1,j,y,h,w=>by
   rw [upN,smyG,Int.toNat_natCast]
   have hj:j<S.length:=by omega
   refine smyG_ok L hd ht hm n (j+1) _ (by omega) fun k hk=>?_
   have hT:∀ m,m<j→(smyS L S blocks most j y).1 m=y.1 m:=fun m hm=>by
    unfold smyS
    simp only [upd]
    rw [if_neg (by omega)]
   have hup:∀ g∈(tabO S k).fk,(smyS L S blocks most j y).1 (tgN S g)=y.1 (tgN S g):=fun g hg=>hT _ (by have:=(hd k (by omega) g hg).2; omega)
   by_cases hkj:k=j
   ·subst hkj
    have hv:=nextV_in L y.2 (n:=((blocks:Int)+1)) (by omega)
    have:=blksG_ok L (S:=S) (T:=y.1) hm (ht k hj) (nextV L y.2 (blocks+1)).toNat ([],y.2+1) (by simp)
    have he:(smyS L S blocks most k y).1 k=(blksG L S (tabO S k) y.1 most (nextV L y.2 (blocks+1)).toNat ([],y.2+1)).1:=by
     unfold smyS
     simp only [upd,if_true]
    rw [he]
    refine ⟨by have:=this.1; simp at this; omega,fun b hb=>bk_mono (this.2 b hb) hup⟩
   ·rw [hT k (by omega)]
    obtain ⟨w1,w2⟩:=w k (by omega)
    exact ⟨w1,fun b hb=>bk_mono (w2 b hb) hup⟩
end Go.Proofs.Tryz
namespace Go.Proofs.Tryz
open Go.Ab
set_option maxRecDepth 100000
set_option maxHeartbeats 1000000
theorem fkB2_len {S:List Tb} {X:Nat→List Bk} {b:Bk} {j:Nat}:∀ (gs:List Fk) (f:Nat) (r:List V),(fkB2 S X b j gs f r).length=r.length
 | [],_,r=>rfl
 | g::gs,f,r=>by rw [fkB2,fkB2_len gs,List.length_set]
theorem fkB2_out {S:List Tb} {X:Nat→List Bk} {b:Bk} {j c:Nat}:∀ {gs:List Fk} {f:Nat} {r:List V},(∀ g∈gs,(hdI g.cols).toNat ≠ c)→(fkB2 S X b j gs f r)[c]?=r[c]?
 | [],_,r,_=>rfl
 | g::gs,f,r,h=>by
   rw [fkB2,fkB2_out fun q hq=>h q (List.mem_cons_of_mem _ hq),List.getElem?_set_ne (h g (List.mem_cons_self ..))]
theorem fkB2_at {S:List Tb} {X:Nat→List Bk} {b:Bk} {j:Nat}:∀ {gs:List Fk} {f i:Nat} {g:Fk} {r:List V},(gs.map fun g=>(hdI g.cols).toNat).Nodup→gs[i]?=some g→(hdI g.cols).toNat<r.length →
  (fkB2 S X b j gs f r)[(hdI g.cols).toNat]?=some (numV (tgtN (cntB (X (tgN S g))) ((b.p[f+i]?).getD 0).toNat j+1:Nat))
 | [],_,i,g,r,_,h,_=>by simp at h
 | q::gs,f,0,g,r,hn,h,hl=>by
   simp only [List.getElem?_cons_zero,Option.some.injEq] at h
   subst h
   rw [List.map_cons,List.nodup_cons] at hn
   rw [fkB2,fkB2_out (fun p hp e=>hn.1 (List.mem_map.2 ⟨p,hp,e⟩)),List.getElem?_set_self hl]
   rfl
 | q::gs,f,i+1,g,r,hn,h,hl=>by
   rw [List.map_cons,List.nodup_cons] at hn
   rw [List.getElem?_cons_succ] at h
   rw [fkB2,fkB2_at hn.2 h (by rw [List.length_set]; exact hl)]
   rw [show f+1+i=f+(i+1) from by omega]
theorem key_nodup {x:Tb} (h:KeyOk x):(x.fk.map fun g=>(hdI g.cols).toNat).Nodup:=by
 have hd:=h.dis
 unfold List.Nodup at hd ⊢
 rw [List.pairwise_map] at hd ⊢
 refine List.Pairwise.imp_of_mem (fun {a b} ha hb hab e=>?_) hd
 obtain ⟨c,c1,_,_⟩:=h.fk a ha
 obtain ⟨d,d1,_,_⟩:=h.fk b hb
 rw [c1,d1] at hab e
 simp only [hdI,List.headD_cons,Int.toNat_natCast] at hab e
 exact hab (by rw [e])
def insY (S:List Tb) (X:Nat→List Bk) (k:Nat):List (List V):=rowsN S X (tabO S k) (X k) 0 (sumN (cntB (X k)))
theorem insY_len (S:List Tb) (X:Nat→List Bk) (k:Nat):(insY S X k).length=sumN (cntB (X k)):=by
 unfold insY rowsN
 rw [seqF_len]; omega
theorem cnt_pos {l:List Bk} (h:∀ q∈l,1≤q.n) {i:Nat} (hi:i<(cntB l).length):0<(cntB l)[i]:=by
 have hm:(cntB l)[i]∈l.map Bk.n:=List.getElem_mem hi
 obtain ⟨q,hq,e⟩:=List.mem_map.1 hm
 rw [← e]
 exact h q hq
theorem rowB_ok {S:List Tb} {X:Nat→List Bk} {most:Nat} {x:Tb} (hx:KeyOk x) {b:Bk} (hb:BkOk S X most x b) (hX:∀ g∈x.fk,∀ q∈X (tgN S g),1≤q.n) (j n:Nat):RowOk S (insY S X) x n (rowB S X x b j n):=by
 obtain ⟨p,hp,hpl⟩:=hx.pr
 have hpc:(hdI x.pr).toNat=p:=by rw [hp]; simp [hdI]
 refine ⟨by unfold rowB; rw [fkB2_len,List.length_set]; exact hb.len,?_,fun f hf=>?_,fun c hc hk v hv=>?_⟩
 ·unfold rowB
  rw [fkB2_out]
  ·rw [List.getElem?_set_self (by rw [hb.len,hpc]; exact hpl)]
   rw [show ((n+1:Nat):Int)=(n:Int)+1 from by omega]
  ·intro f hf
   obtain ⟨c,e1,_,c2⟩:=hx.fk f hf
   rw [e1,hpc]
   rw [hp] at c2
   simp [hdI] at c2 ⊢
   omega
 ·obtain ⟨i,hi,rfl⟩:=List.getElem_of_mem hf
  obtain ⟨c,e1,c1,_⟩:=hx.fk _ hf
  have hfc:(hdI x.fk[i].cols).toNat=c:=by rw [e1]; simp [hdI]
  have hpi:i<b.p.length:=by rw [hb.par]; exact hi
  obtain ⟨z0,z1⟩:=hb.tgt i x.fk[i] b.p[i] (List.getElem?_eq_getElem hi) (List.getElem?_eq_getElem hpi)
  refine ⟨tgtN (cntB (X (tgN S x.fk[i]))) (b.p[i]).toNat j,?_,?_⟩
  ·unfold rowB
   rw [fkB2_at (key_nodup hx) (List.getElem?_eq_getElem hi) (by rw [List.length_set,hb.len,hfc]; exact c1),Nat.zero_add,List.getElem?_eq_getElem hpi,Option.getD_some]
   congr 2
   omega
  ·rw [insY_len]
   have hz:(b.p[i]).toNat<(cntB (X (tgN S x.fk[i]))).length:=by unfold cntB; rw [List.length_map]; omega
   exact tgtN_lt hz (cnt_pos (hX _ hf) hz)
 ·obtain ⟨k1,k2⟩:=keyT_iff hk
  unfold rowB at hv
  rw [fkB2_out] at hv
  ·rw [List.getElem?_set_ne (by
    rw [hpc]
    intro e
    subst e
    exact k1 (by rw [hp]; simp))] at hv
   exact hb.val c v hv
  ·intro f hf e
   obtain ⟨d,e1,_,_⟩:=hx.fk f hf
   have:=k2 f hf
   rw [e1] at this e
   simp [hdI] at this e
   omega
theorem ins_ok {S:List Tb} (hd:Dec S) (hK:∀ x∈S,KeyOk x) {X:Nat→List Bk} {blocks most:Nat} (h:SmyOk S X blocks most S.length):InsOk S (insY S X) S.length:=fun k hk n row hr=>by
 have hx:tabO S k∈S:=by unfold tabO; rw [List.getElem?_eq_getElem hk]; exact List.getElem_mem hk
 obtain ⟨_,hb⟩:=h k hk
 unfold insY rowsN at hr
 rw [seqF_get] at hr
 split at hr
 ·rename_i hn
  rw [Option.some.injEq,Nat.zero_add] at hr
  subst hr
  obtain ⟨h1,h2,h3⟩:=fndN_spec (l:=cntB (X k)) (n:=n) (by omega)
  unfold rowN
  have hl:(fndN (cntB (X k)) n).1<(X k).length:=by unfold cntB at h1 ⊢; rwa [List.length_map] at h1
  rw [List.getElem?_eq_getElem hl]
  exact rowB_ok (hK _ hx) (hb _ (List.getElem_mem hl)) (fun g hg q hq=>((h (tgN S g) (by have:=(hd k hk g hg).2; omega)).2 q hq).n.1) _ n
 ·cases hr
theorem pln_types {x:Tb} (h:plnT x=true):typT x (hdI x.pr)=1∧x.un=[]∧∀ f∈x.fk,typT x (hdI f.cols)=1:=by
 unfold plnT prB at h
 simp only [Bool.and_eq_true,beq_iff_eq] at h
 obtain ⟨⟨_,h1,h2⟩,h3,_⟩:=h
 refine ⟨h1,by simpa using h2,fun f hf=>?_⟩
 have:=((fksB_dis h3).1 f hf).1
 unfold fkB at this
 simp only [Bool.and_eq_true,beq_iff_eq] at this
 exact this.2.1
theorem numV_valid {n:Int} (h:-1000000000000≤n∧n≤1000000000000):(numV n).valid=true:=by
 unfold numV V.valid
 simp [h.1,h.2]
theorem row_vals {S:List Tb} {T:Nat→List (List V)} {x:Tb} (hK:KeyOk x) (hp:plnT x=true) {n:Nat} {row:List V} (h:RowOk S T x n row) (hn:n<1000000) (hT:∀ f∈x.fk,(T (tgN S f)).length≤1000000) :
  ∀ c v,row[c]?=some v→ValOk x c v:=fun c v hv=>by
 have hc:c<x.cols.length:=by
  have:=(List.getElem?_eq_some_iff.1 hv).1
  rwa [h.len] at this
 obtain ⟨t1,_,t2⟩:=pln_types hp
 cases hk:keyT x c with
 | false=>exact h.val c hc hk v hv
 | true =>
   unfold keyT at hk
   rw [Bool.or_eq_true] at hk
   rcases hk with hk | hk
   ·obtain ⟨p,hpe,hpl⟩:=hK.pr
    rw [hpe] at hk t1
    have hcp:c=p:=by
     have:(c:Int)=p:=by simpa using hk
     omega
    subst hcp
    have hr:=h.pr
    rw [hpe] at hr
    simp only [hdI,List.headD_cons,Int.toNat_natCast] at hr t1
    rw [hv,Option.some.injEq] at hr
    subst hr
    exact ⟨numV_valid (by omega),.inl (by rw [← typT_col hc,t1]; rfl)⟩
   ·obtain ⟨f,hf,hk⟩:=List.any_eq_true.1 hk
    obtain ⟨d,hde,hdl,_⟩:=hK.fk f hf
    have ht:=t2 f hf
    obtain ⟨q,hq,hql⟩:=h.fk f hf
    rw [hde] at hk ht hq
    have hcd:c=d:=by
     have:(c:Int)=d:=by simpa using hk
     omega
    subst hcd
    simp only [hdI,List.headD_cons,Int.toNat_natCast] at hq ht
    rw [hv,Option.some.injEq] at hq
    subst hq
    have:=hT f hf
    exact ⟨numV_valid (by omega),.inl (by rw [← typT_col hc,ht]; rfl)⟩
end Go.Proofs.Tryz
namespace Go.Proofs.Tryz
open Go.Ab
set_option maxRecDepth 100000
set_option maxHeartbeats 8000000
theorem m_number (n:Int):Cf En 87 [.d (.int .i64 n)] [] (V.a ⟨1,n,[]⟩) []:=by
 refine cf_intro mix (fn:=Tryz.f87) (by kernel_rfl) rfl (by kernel_rfl) (by decide) (by simp) ?_
 simp [V.a]
 all_goals exact gz
def fnX (X:List (List Bk)) (i:Nat):List Bk:=(X[i]?).getD []
def parX (S:List Tb) (X:List (List Bk)) (l:List Fk):List (List Nat):=l.map fun g=>cntB (fnX X (tgN S g))
def natD (c:List Nat):List D:=[.sl (ints (natI c))]
def rdrA (S:List Tb) (X:List (List Bk)) (x:Tb) (l:List Bk):AV:=.agg (x.c.map AV.d++[.d (.sl (l.map Bk.c)),.d (.sl (ints (natI (cntB l)))),.d (.sl ((parX S X x.fk).map natD))])
theorem q_open {S:List Tb} {X:List (List Bk)} (h:SumOk S X) (ht:∀ x∈S,∀ g∈x.fk,0≤tgt S g∧tgN S g<S.length) {k:Nat} {x:Tb} {l:List Bk} (hk:S[k]?=some x) (hl:X[k]?=some l) :
  Cf En 48 [schA S,smyA X,.d (.int .i64 k)] [] (rdrA S X x l) []:=by
 refine cf_intro mix (fn:=Tryz.f48) (by kernel_rfl) rfl (by kernel_rfl) (by decide) (by simp) ?_
 obtain ⟨hkl,hgx0⟩:=List.getElem?_eq_some_iff.1 hk
 obtain ⟨hkX,hgl0⟩:=List.getElem?_eq_some_iff.1 hl
 have hgx:∀ h,S[k]'h=x:=fun _=>hgx0
 have hgl:∀ h,X[k]'h=l:=fun _=>hgl0
 have hxm:x∈S:=by rw [← hgx0]; exact List.getElem_mem hkl
 have hlm:l∈X:=by rw [← hgl0]; exact List.getElem_mem hkX
 have hxo:=h.ok x hxm
 have hfl:=hxo.fk
 have hfew:=h.few
 have hXl:=h.len
 obtain ⟨hl1,hl2⟩:=h.bl l hlm
 have hc:=m_counts l hl1
 have hxf:=ht x hxm
 simp [schA,smyA,hkl,hgx,hkX,hgl,Tb.c,bkD]
 (repeat' (first|contradiction|exact .ok|apply And.intro|intro _|(refine gc (fun h=>?_) (fun h=>?_)<;>(have h':=h;(try simp at h');first|done|simp[h,h',hkl,hgx,hkX,hgl,Tb.c,bkD]|simp[hkl,hgx,hkX,hgl,Tb.c,bkD]))))
 refine acallT_plain hc (by simp) ?_
 simp [Tb.c]
 (repeat' (first|contradiction|exact .ok|apply And.intro|intro _|(refine gc (fun h=>?_) (fun h=>?_)<;>(have h':=h;(try simp at h');first|done|simp[h,h']|simp))))
 refine aloopT mix (by decide) (fun f:Nat=>{ s:=mkS [(2,.d (.int .i64 k)),(3,.ptr 3 0 0),(4,.ptr 4 0 0),(6,.ptr 6 0 0),(7,.ptr 7 0 0),(31,.d (.int .i64 x.fk.length)),(32,.d (.int .i64 f))],b:=mkB [(3,3,.var [.d (.sl (S.map Tb.c))]),(4,4,.var [.d (.sl (X.map bkD))]),(6,6,.var [.d (.str []),.nils,.nils,.nils,.nils,.nils,.nils,.nils,.nils]),(7,7,.var (x.c.map AV.d++[.d (.sl (l.map Bk.c)),.d (.sl (ints (natI (cntB l)))),.ref 903 0 f 1])),(903,903,.arr 22 1 ((parX S X (x.fk.take f)).map natD) false)] }) (fun f=>f≤x.fk.length) (fun f=>x.fk.length - f) 0 (by simp)
  ((sub_nilc 7 903 22 1 8 (cells:=x.c.map AV.d++[.d (.sl (l.map Bk.c)),.d (.sl (ints (natI (cntB l)))),.nils]) (by simp [Tb.c]) rfl (by simp) (by decide) (by decide)).trans (sub_mk _ [(3,3,_),(4,4,_),(6,6,_),(7,7,_),(903,903,_)] ⟨by simp,by simp,by simp [renOf,Blk.live,Tb.c,parX,upd],by simp⟩ (by simp [renOf]))) ?_
 intro f hf
 have hPl:(parX S X (x.fk.take f)).length=f:=by unfold parX; rw [List.length_map,List.length_take]; omega
 by_cases hlf:f<x.fk.length
 ·obtain ⟨g,hg⟩:∃ g,g=x.fk[f]:=⟨_,rfl⟩
  have hgm:g∈x.fk:=by rw [hg]; exact List.getElem_mem hlf
  obtain ⟨t0,t1⟩:=hxf g hgm
  obtain ⟨to,hto⟩:∃ t:Nat,tgt S g=t:=⟨(tgt S g).toNat,by omega⟩
  have htN:tgN S g=to:=by unfold tgN; rw [hto]; rfl
  have htX:to<X.length:=by omega
  obtain ⟨q,hq⟩:∃ q,q=X[to]:=⟨_,rfl⟩
  have hgq:∀ h,X[to]'h=q:=fun _=>hq.symm
  obtain ⟨hq1,hq2⟩:=h.bl q (by rw [hq]; exact List.getElem_mem htX)
  have hqc:=m_counts q hq1
  have hpar:parX S X (x.fk.take (f+1))=parX S X (x.fk.take f)++[cntB q]:=by
   unfold parX
   rw [take_snoc hlf,List.map_append,← hg,List.map_cons,List.map_nil,htN]
   unfold fnX
   rw [List.getElem?_eq_getElem htX,← hq]
   rfl
  have hw:=wrap_in (n:=(f:Int)+1) (by omega) (by omega)
  have hta:=s_target S hfew h.ok hkl hgx0 hlf rfl
  rw [← hg,place_at (show fidx (fun y:Tb=>y.n==g.t) S 0=to from hto)] at hta
  have htk:((parX S X (x.fk.take f)).map natD).take f=(parX S X (x.fk.take f)).map natD:=List.take_of_length_le (by simp [hPl])
  generalize parX S X (x.fk.take f)=P at *
  simp [hlf,Tb.c]
  (repeat' (first|contradiction|exact .ok|apply And.intro|intro _|(refine gc (fun h=>?_) (fun h=>?_)<;>(have h':=h;(try simp at h');first|done|simp[h,h']|simp))))
  refine acallT_plain hta (by simp [schA]) ?_
  simp [htX,hgq,bkD,Tb.c]
  (repeat' (first|contradiction|exact .ok|apply And.intro|intro _|(refine gc (fun h=>?_) (fun h=>?_)<;>(have h':=h;(try simp at h');first|done|simp[h,h',htX,hgq,bkD,Tb.c]|simp[htX,hgq,bkD,Tb.c]))))
  refine acallT_plain hqc (by simp) ?_
  simp [hPl,htk,Tb.c,szs f (by omega) 24 (by decide),szs (f+1) (by omega) 24 (by decide)]
  (repeat' (first|contradiction|exact .ok|apply And.intro|intro _|(refine gc (fun h=>?_) (fun h=>?_)<;>(have h':=h;(try simp at h');first|done|simp[h,h']|simp))))
  refine ⟨f+1,by omega,?_,by simp; omega⟩
  simp only [hpar]
  exact sub_mk _ [(3,3,_),(4,4,_),(6,6,_),(7,7,_),(903,51,_)] ⟨by simp,by simp,by simp [renOf,Blk.live,Tb.c,natD],by simp⟩ (by simp [renOf,hw])
 obtain rfl:f=x.fk.length:=by omega
 rw [List.take_length] at *
 have htk:((parX S X x.fk).map natD).take x.fk.length=(parX S X x.fk).map natD:=List.take_of_length_le (by simp [hPl])
 simp [Tb.c,hPl,htk,rdrA]
 all_goals exact gz
end Go.Proofs.Tryz
