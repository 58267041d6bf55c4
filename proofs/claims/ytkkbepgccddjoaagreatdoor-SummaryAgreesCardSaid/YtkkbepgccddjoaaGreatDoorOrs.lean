import Derived.Test.YtkkbepgccddjoaaGreatDoorANamp
set_option linter.all false
namespace Go.Proofs.Tryz
open Go.Ab
set_option maxRecDepth 100000
set_option maxHeartbeats 4000000
def nilMp:AV:=.d (.val (.map none))
def bfC (i k:Nat):List AV:=if k<i then [.mref (2000+k)] else [nilMp]
def keyO (S:List Tb) (k:Nat):List Int:=match S[k]? with | some x=>keysT S x.fk [] | none=>[]
def bfB (S:List Tb) (N i:Nat):Nat→Blk:=mkB ([(1,1,.var [.d (.sl (S.map Tb.c))]),(900,900,.varr 221 1 (seqF (bfC i) N))]++famI 2000 (fun k=>.mp (kM (keyO S k))) i)
def bfC2 (i k:Nat):List AV:=if k<i then [.mref (2000+k)] else if k=i then [.mref 902] else [nilMp]
def bfB2 (S:List Tb) (N i:Nat) (es:List Int):Nat→Blk:=mkB ([(1,1,.var [.d (.sl (S.map Tb.c))]),(900,900,.varr 221 1 (seqF (bfC2 i) N)),(902,902,.mp (kM es))]++famI 2000 (fun k=>.mp (kM (keyO S k))) i)
theorem bfB1 (S:List Tb) (N i:Nat):bfB S N i 1=.var [.d (.sl (S.map Tb.c))]:=by
 unfold bfB; rw [mkB_fam]; simp
theorem bfB900 (S:List Tb) (N i:Nat):bfB S N i 900=.varr 221 1 (seqF (bfC i) N):=by
 unfold bfB; rw [mkB_fam]; simp
theorem bfBf (S:List Tb) (N i n:Nat) (h:n<900) (h1:n ≠ 1):bfB S N i n=.free:=by
 unfold bfB
 rw [mkB_fam,if_neg (by omega)]
 have:n ≠ 900:=by omega
 simp [h1,this]
def l2 (S:List Tb) (N i m:Nat) (es:List Int):Kept:=[(1,1,.var [.d (.sl (S.map Tb.c))]),(900,900,.varr 221 1 (seqF (bfC2 i) N)),(902,m,.mp (kM es))]
theorem kept2 {b:Nat→Blk} {S:List Tb} {N i:Nat} {es:List Int} (m:Nat) (hm:m<2000) (hm1:m ≠ 1∧m ≠ 900) (b1:b 1=.var [.d (.sl (S.map Tb.c))])
  (b900:b 900=.varr 221 1 (seqF (fun k=>if k<i then [.mref (2000+k)] else if k=i then [.mref m] else [nilMp]) N)) (bm:b m=.mp (kM es))
  (bf:∀ k,k<i→b (2000+k)=.mp (kM (keyO S k))):KeptOk 0 b (l2 S N i m es++famI 2000 (fun k=>.mp (kM (keyO S k))) i):=by
 have hr:∀ n,renOf (l2 S N i m es++famI 2000 (fun k=>.mp (kM (keyO S k))) i) n=(renOf (l2 S N i m es) n).or (if 2000≤n∧n<2000+i then some n else none):=renOf_fam _ _ _ _
 obtain ⟨hm2,hm3⟩:=hm1
 refine kept_fam (by simp [l2]) (by simp [l2,Ne.symm hm2,Ne.symm hm3]) ?_ ?_ ?_ (by simp)
 ·intro p hp
  simp only [l2,List.mem_cons,List.not_mem_nil,or_false] at hp
  rcases hp with rfl | rfl | rfl <;> constructor <;> simp <;> omega
 ·intro p hp
  simp only [l2,List.mem_cons,List.not_mem_nil,or_false] at hp
  rcases hp with rfl | rfl | rfl
  ·simp [b1,Blk.live]
  ·simp only [b900]
   refine ⟨.inl rfl,?_⟩
   simp only [cvB,seqF_map]
   congr 1
   refine seqF_congr fun k hk=>?_
   unfold bfC2
   by_cases h1:k<i
   ·simp only [h1,if_true,cvAs,cvA,hr]
    have e1:2000+k ≠ 1:=by omega
    have e2:2000+k ≠ 900:=by omega
    have e3:2000+k ≠ m:=by omega
    simp [l2,renOf,e1,e2,e3,h1]
   ·by_cases h2:k=i
    ·subst h2
     simp [cvAs,cvA,hr,l2,renOf,hm2,hm3]
    ·simp [h1,h2,cvAs,cvA,nilMp]
  ·simp [bm,Blk.live]
 ·intro k hk
  rw [bf k hk]
  exact ⟨.inl rfl,rfl⟩
theorem mkB_l2 (S:List Tb) (N i m:Nat) (es:List Int):bfB2 S N i es=mkB (l2 S N i m es++famI 2000 (fun k=>.mp (kM (keyO S k))) i):=by
 unfold bfB2 mkB l2
 simp only [List.map_append,List.map_cons,List.map_nil]
theorem bfBm (S:List Tb) (N i k:Nat) (h:k<i):bfB S N i (2000+k)=.mp (kM (keyO S k)):=by
 unfold bfB
 rw [mkB_fam,if_pos (by omega),Nat.add_sub_cancel_left]
def l3 (S:List Tb) (N i:Nat):Kept:=[(1,1,.var [.d (.sl (S.map Tb.c))]),(900,900,.varr 221 1 (seqF (bfC (i+1)) N)),(2000+i,902,.mp (kM (keyO S i)))]
theorem mkB_l3 (S:List Tb) (N i:Nat):bfB S N (i+1)=mkB (l3 S N i++famI 2000 (fun k=>.mp (kM (keyO S k))) i):=by
 funext n
 unfold bfB
 rw [mkB_fam,mkB_fam]
 by_cases h:2000≤n∧n<2000+i
 ·rw [if_pos h,if_pos (by omega)]
 ·rw [if_neg h]
  by_cases h2:n=2000+i
  ·subst h2
   rw [if_pos (by omega),Nat.add_sub_cancel_left]
   simp [l3]
  ·rw [if_neg (by omega)]
   simp [l3,h2]
theorem kept3 {b:Nat→Blk} {S:List Tb} {N i:Nat} (b1:b 1=.var [.d (.sl (S.map Tb.c))])
  (b900:b 900=.varr 221 1 (seqF (bfC2 i) N)) (bm:b 902=.mp (kM (keyO S i)))
  (bf:∀ k,k<i→b (2000+k)=.mp (kM (keyO S k))):KeptOk 0 b (l3 S N i++famI 2000 (fun k=>.mp (kM (keyO S k))) i):=by
 have hr:∀ n,renOf (l3 S N i++famI 2000 (fun k=>.mp (kM (keyO S k))) i) n=(renOf (l3 S N i) n).or (if 2000≤n∧n<2000+i then some n else none):=renOf_fam _ _ _ _
 have n1:2000+i ≠ 1:=by omega
 have n2:2000+i ≠ 900:=by omega
 refine kept_fam (by simp [l3]; omega) (by simp [l3]) ?_ ?_ ?_ (by simp)
 ·intro p hp
  simp only [l3,List.mem_cons,List.not_mem_nil,or_false] at hp
  rcases hp with rfl | rfl | rfl <;> constructor <;> simp <;> omega
 ·intro p hp
  simp only [l3,List.mem_cons,List.not_mem_nil,or_false] at hp
  rcases hp with rfl | rfl | rfl
  ·simp [b1,Blk.live]
  ·simp only [b900]
   refine ⟨.inl rfl,?_⟩
   simp only [cvB,seqF_map]
   congr 1
   refine seqF_congr fun k hk=>?_
   unfold bfC2 bfC
   by_cases h1:k<i
   ·have e4:k<i+1:=by omega
    simp only [h1,e4,if_true,cvAs,cvA,hr]
    have e1:2000+k ≠ 1:=by omega
    have e2:2000+k ≠ 900:=by omega
    have e3:2000+k ≠ 902:=by omega
    simp [l3,renOf,e1,e2,e3,h1]
   ·by_cases h2:k=i
    ·subst h2
     simp [cvAs,cvA,hr,l3,renOf]
    ·have e4:¬ k<i+1:=by omega
     simp [h1,h2,e4,cvAs,cvA,nilMp]
  ·simp [bm,Blk.live]
 ·intro k hk
  rw [bf k hk]
  exact ⟨.inl rfl,rfl⟩
theorem obB901x (S:List Tb) (i:Nat):bfB S i i 901=.free:=by
 unfold bfB
 rw [mkB_fam,if_neg (by omega)]
 simp
theorem bfC0 (N:Nat):seqF (bfC 0) N=List.replicate N [nilMp]:=by
 rw [seqF_rep]
 exact seqF_congr fun k _=>by simp [bfC]
theorem fidx_neg {α:Type} {p:α→Bool}:∀ {l:List α} {i:Nat},¬ 0≤fidx p l i→fidx p l i=-1
 | [],_,_=>rfl
 | x::l,i,h=>by
   rw [fidx] at h ⊢
   split at h
   ·exact absurd (Int.natCast_nonneg i) h
   ·rename_i hx
    rw [if_neg hx]
    exact fidx_neg h
def missT (S:List Tb):Bool:=S.any fun x=>x.fk.any fun f=>decide (tgt S f<0)
theorem keyOk_int (z:Int):keyOk (.int .i64) (.int .i64 z)=true:=rfl
theorem keysT_snoc (S:List Tb) (f:Fk):∀ (r:List Fk) (l:List Int),keysT S (r++[f]) l=insK (tgt S f) (keysT S r l)
 | [],_=>rfl
 | g::r,l=>by rw [List.cons_append,keysT,keysT_snoc S f r,keysT]
def nextO (N:Nat) (al:Nat→Bool) (es:Nat→List Int):Int:=fidx (fun k=>al k&&(es k).length==0) (seqF (fun k=>k) N) 0
def alO (al:Nat→Bool) (z:Int) (k:Nat):Bool:=al k&&(k:Int) != z
def esO (al:Nat→Bool) (es:Nat→List Int) (z:Int) (k:Nat):List Int:=if alO al z k=true then (es k).erase z else es k
def loopO (N:Nat):Nat→(Nat→Bool)→(Nat→List Int)→List Int→List Int×Int
 | 0,_,_,out=>(out,0)
 | n+1,al,es,out=>if nextO N al es<0 then ([],7) else loopO N n (alO al (nextO N al es)) (esO al es (nextO N al es)) (out++[nextO N al es])
def ordS (S:List Tb):List Int×Int:=if missT S=true then ([],11) else loopO S.length S.length (fun _=>true) (keyO S) []
def obB (N:Nat) (al:Nat→Bool) (es:Nat→List Int) (out:List Int):Nat→Blk :=
 mkB ([(900,900,.varr 221 1 (seqF (fun k=>[mAV al 2000 k]) N)),(901,901,.arr 3 1 (ints out) false)]++famI 2000 (fun k=>.mp (kM (es k))) N)
theorem obB900 (N:Nat) (al:Nat→Bool) (es:Nat→List Int) (out:List Int):obB N al es out 900=.varr 221 1 (seqF (fun k=>[mAV al 2000 k]) N):=by
 unfold obB; rw [mkB_fam]; simp
theorem obB901 (N:Nat) (al:Nat→Bool) (es:Nat→List Int) (out:List Int):obB N al es out 901=.arr 3 1 (ints out) false:=by
 unfold obB; rw [mkB_fam]; simp
theorem obBm (N:Nat) (al:Nat→Bool) (es:Nat→List Int) (out:List Int) (k:Nat) (h:k<N):obB N al es out (2000+k)=.mp (kM (es k)):=by
 unfold obB
 rw [mkB_fam,if_pos (by omega),Nat.add_sub_cancel_left]
theorem obBf (N:Nat) (al:Nat→Bool) (es:Nat→List Int) (out:List Int) (n:Nat) (h:n<900):obB N al es out n=.free:=by
 unfold obB
 rw [mkB_fam,if_neg (by omega)]
 have h1:n ≠ 900:=by omega
 have h2:n ≠ 901:=by omega
 simp [h1,h2]
def l4 (N m:Nat) (al:Nat→Bool) (out:List Int):Kept:=[(900,900,.varr 221 1 (seqF (fun k=>[mAV al 2000 k]) N)),(901,m,.arr 3 1 (ints out) false)]
theorem mkB_l4 (N m:Nat) (al:Nat→Bool) (es:Nat→List Int) (out:List Int):obB N al es out=mkB (l4 N m al out++famI 2000 (fun k=>.mp (kM (es k))) N):=by
 unfold obB mkB l4
 simp only [List.map_append,List.map_cons,List.map_nil]
theorem kept4 {b:Nat→Blk} {N:Nat} {al:Nat→Bool} {es:Nat→List Int} {out:List Int} (m:Nat) (hm:m<2000) (hm1:m ≠ 900)
  (b900:b 900=.varr 221 1 (seqF (fun k=>[mAV al 2000 k]) N)) (bm:b m=.arr 3 1 (ints out) false)
  (bf:∀ k,k<N→b (2000+k)=.mp (kM (es k))):KeptOk 0 b (l4 N m al out++famI 2000 (fun k=>.mp (kM (es k))) N):=by
 have hr:∀ n,renOf (l4 N m al out++famI 2000 (fun k=>.mp (kM (es k))) N) n=(renOf (l4 N m al out) n).or (if 2000≤n∧n<2000+N then some n else none):=renOf_fam _ _ _ _
 refine kept_fam (by simp [l4]) (by simp [l4,Ne.symm hm1]) ?_ ?_ ?_ (by simp)
 ·intro p hp
  simp only [l4,List.mem_cons,List.not_mem_nil,or_false] at hp
  rcases hp with rfl | rfl <;> constructor <;> simp <;> omega
 ·intro p hp
  simp only [l4,List.mem_cons,List.not_mem_nil,or_false] at hp
  rcases hp with rfl | rfl
  ·simp only [b900]
   refine ⟨.inl rfl,?_⟩
   simp only [cvB,seqF_map]
   congr 1
   refine seqF_congr fun k hk=>?_
   unfold mAV
   split
   ·have e2:2000+k ≠ 900:=by omega
    have e3:2000+k ≠ m:=by omega
    simp only [cvAs,cvA,hr]
    simp [l4,renOf,e2,e3,hk]
   ·simp [cvAs,cvA]
  ·simp [bm,Blk.live]
 ·intro k hk
  rw [bf k hk]
  exact ⟨.inl rfl,rfl⟩
theorem insK_len (z:Int) (l:List Int):(insK z l).length≤l.length+1:=by
 unfold insK; split <;> simp
theorem keysT_len (S:List Tb):∀ (r:List Fk) (l:List Int),(keysT S r l).length≤l.length+r.length
 | [],_=>Nat.le_refl _
 | f::r,l=>by
   rw [keysT,List.length_cons]
   have h1:=keysT_len S r (insK (tgt S f) l)
   have h2:=insK_len (tgt S f) l
   omega
theorem keyO_len (S:List Tb) (hS:∀ x∈S,x.ok) (k:Nat) (h:k<S.length):(keyO S k).length≤1000:=by
 unfold keyO
 rw [List.getElem?_eq_getElem h]
 have h1:=keysT_len S S[k].fk []
 have h2:=(hS S[k] (List.getElem_mem h)).fk
 simp at h1 ⊢
 omega
theorem mk8 (n:Nat) (h:n≤1000):(n:Int)≤9223372036854775807∧8*(n:Int)≤281474976710656:=by omega
theorem pass_m {al:Nat→Bool} {o k:Nat} {r:Nat→Option Nat} {b:Nat→Blk} {kn:Bool} {o':Nat} (h:r (o+k)=some (o'+k)):cvA r b kn (mAV al o k)=(mAV al o' k,[]):=by
 unfold mAV
 split
 ·simp only [cvA,h]
 ·simp only [cvA]
theorem pass_ms {al:Nat→Bool} {o o' N:Nat} {r:Nat→Option Nat} {b:Nat→Blk} {kn:Bool} (h:∀ k,k<N→r (o+k)=some (o'+k)) :
  cvB r b kn (.varr 221 1 (seqF (fun k=>[mAV al o k]) N))=(.varr 221 1 (seqF (fun k=>[mAV al o' k]) N),[]):=by
 have h1:∀ x∈seqF (fun k=>[mAV al o k]) N,(cvAs r b kn x).2=[]:=fun x hx=>by
  obtain ⟨j,hj,rfl⟩:=seqF_mem.1 hx
  simp [cvAs,pass_m (h j hj)]
 rw [cvB]
 refine Prod.ext ?_ ?_
 ·simp only [seqF_map]
  congr 1
  exact seqF_congr fun k hk=>by simp [cvAs,pass_m (h k hk)]
 ·simp only [List.flatMap_eq_nil_iff]
  exact h1
theorem m_call {N:Nat} {al:Nat→Bool} {es:Nat→List Int} (hN:N≤1000) (hes:∀ k,k<N→(es k).length≤1000) {st:St}
  (b900:st.b 900=.varr 221 1 (seqF (fun k=>[mAV al 2000 k]) N)) (bm:∀ k,k<N→st.b (2000+k)=.mp (kM (es k)))
  {dst:Option Tmp} {K:St→List Nat→List Nat→Prop} {t:Tok K} (hK:∀ tl wn,K { s:=updO st.s dst (.d (.int .i64 (nextO N al es))),b:=st.b } tl wn) :
  acallT En 213 [.ref 900 0 N 1,.clo 214 []] dst st K t:=by
 have hm:=m_idx al (fun k=>kM (es k)) N hN (fun k hk=>by rw [kM_len]; exact hes k hk)
 have hf:∀ k,k<N→fwdR (900::seqF (fun k=>2000+k) N) (2000+k)=some (1000001+k):=fun k hk=>by
  rw [fwdR_fam (by omega),if_neg (by omega),if_pos (by omega),Nat.add_sub_cancel_left]
 have hb9:∀ kn,cvB (fwdR (900::seqF (fun k=>2000+k) N)) st.b kn (st.b 900)=(.varr 221 1 (seqF (fun k=>[mAV al 1000001 k]) N),[]):=fun kn=>by
  rw [b900]; exact pass_ms hf
 have hbm:∀ kn k,k<N→cvB (fwdR (900::seqF (fun k=>2000+k) N)) st.b kn (st.b (2000+k))=(.mp (kM (es k)),[]):=fun kn k hk=>by
  rw [bm k hk]; rfl
 have ha:callArgs (900::seqF (fun k=>2000+k) N) st.b [.ref 900 0 N 1,.clo 214 []]=([.ref 1000000 0 N 1,.clo 214 []],[]):=by
  have h9:fwdR (900::seqF (fun k=>2000+k) N) 900=some 1000000:=by rw [fwdR_fam (by omega),if_pos rfl]
  simp [callArgs,cvAs,cvA,h9]
 refine acallT_keep (900::seqF (fun k=>2000+k) N) hm (fam_nodup (by omega)) ?_ ?_ ?_ ?_ ?_ ?_
 ·intro n hn
  rcases List.mem_cons.1 hn with rfl | hn
  ·rw [b900]; rfl
  ·obtain ⟨k,hk,rfl⟩:=seqF_mem.1 hn
   rw [bm k hk]; rfl
 ·unfold callBlks mB
  rw [List.map_cons,List.map_cons,hb9,seqF_map,seqF_map]
  congr 1
  exact seqF_congr fun k hk=>by rw [hbm true k hk]
 ·rw [ha]
 ·unfold callFrz
  rw [ha]
  simp only [List.nil_append,List.flatMap_eq_nil_iff]
  unfold callBlks
  intro x hx
  obtain ⟨n,hn,rfl⟩:=List.mem_map.1 hx
  rcases List.mem_cons.1 hn with rfl | hn
  ·rw [hb9]
  ·obtain ⟨k,hk,rfl⟩:=seqF_mem.1 hn
   rw [hbm true k hk]
 ·intro n hn
  rcases List.mem_cons.1 hn with rfl | hn
  ·rw [hb9,b900]
   exact congrArg Prod.fst (pass_ms (o:=1000001) (o':=2000) fun k hk=>backR_fam 900 2000 N k hk)
  ·obtain ⟨k,hk,rfl⟩:=seqF_mem.1 hn
   rw [hbm true k hk,bm k hk]; rfl
 ·intro tl wn
  have:callRes (900::seqF (fun k=>2000+k) N) 0 (.d (.int .i64 (fidx (fun k=>al k&&(kM (es k)).length==0) (seqF (fun k=>k) N) 0)))=.d (.int .i64 (nextO N al es)):=by
   simp only [kM_len]
   rfl
  rw [this]
  exact hK tl wn
def esD (al:Nat→Bool) (es:Nat→List Int) (z:Int) (i k:Nat):List Int:=if k<i then esO al es z k else es k
theorem esD_full (al:Nat→Bool) (es:Nat→List Int) (z:Int) (N:Nat) (out:List Int) (al':Nat→Bool):obB N al' (esD al es z N) out=obB N al' (esO al es z) out:=by
 unfold obB
 congr 2
 unfold famI
 exact seqF_congr fun k hk=>by simp [esD,hk]
theorem esD_zero (al:Nat→Bool) (es:Nat→List Int) (z:Int):esD al es z 0=es:=by
 funext k; simp [esD]
theorem esD_off {al:Nat→Bool} {es:Nat→List Int} {z:Int} {j:Nat} (h:alO al z j=false):esD al es z (j+1)=esD al es z j:=by
 funext k
 unfold esD
 by_cases hk:k<j
 ·rw [if_pos hk,if_pos (by omega)]
 ·rw [if_neg hk]
  by_cases hkj:k=j
  ·subst hkj
   rw [if_pos (by omega)]
   unfold esO
   rw [if_neg (by simp [h])]
  ·rw [if_neg (by omega)]
theorem obB_del {N:Nat} {al al':Nat→Bool} {es:Nat→List Int} {z:Int} {out:List Int} {j:Nat} (hj:j<N) (h:alO al z j=true) :
  upd (obB N al' (esD al es z j) out) (2000+j) (.mp (kM ((es j).erase z)))=obB N al' (esD al es z (j+1)) out:=by
 funext n
 unfold upd
 by_cases hn:n=2000+j
 ·subst hn
  rw [if_pos rfl,obB,mkB_fam,if_pos (by omega),Nat.add_sub_cancel_left]
  unfold esD esO
  rw [if_pos (by omega),if_pos h]
 ·rw [if_neg hn]
  unfold obB
  rw [mkB_fam,mkB_fam]
  by_cases hf:2000≤n∧n<2000+N
  ·rw [if_pos hf,if_pos hf]
   unfold esD
   by_cases hk:n - 2000<j
   ·rw [if_pos hk,if_pos (by omega)]
   ·rw [if_neg hk,if_neg (by omega)]
  ·rw [if_neg hf,if_neg hf]
theorem fidx_ub {α:Type} {p:α→Bool}:∀ {l:List α} {i:Nat},fidx p l i<(i:Int)+l.length
 | [],i=>by rw [fidx]; simp; omega
 | x::l,i=>by
   rw [fidx,List.length_cons]
   split
   ·omega
   ·have:=fidx_ub (p:=p) (l:=l) (i:=i+1)
    push_cast at this ⊢
    omega
theorem nextO_lt (N:Nat) (al:Nat→Bool) (es:Nat→List Int):nextO N al es<N:=by
 have:=fidx_ub (p:=fun k=>al k&&(es k).length==0) (l:=seqF (fun k=>k) N) (i:=0)
 unfold nextO
 simpa using this
theorem loopO_step (N n:Nat) (al:Nat→Bool) (es:Nat→List Int) (out:List Int):loopO N (n+1) al es out=if nextO N al es<0 then ([],7) else loopO N n (alO al (nextO N al es)) (esO al es (nextO N al es)) (out++[nextO N al es]):=rfl
theorem esO_len {al:Nat→Bool} {es:Nat→List Int} {z:Int} {k:Nat} (h:(es k).length≤1000):(esO al es z k).length≤1000:=by
 unfold esO
 split
 ·exact Nat.le_trans (List.length_erase_le) h
 ·exact h
theorem s_order (S:List Tb) (hl:S.length≤1000) (hS:∀ x∈S,x.ok):Cf En 160 [schA S] [] (.tup [.d (.sl (ints (ordS S).1)),.d (.int .i64 (ordS S).2)]) []:=by
 refine cf_intro mix (fn:=Tryz.f160) (by kernel_rfl) rfl (by kernel_rfl) (by decide) (by simp) ?_
 simp [schA]
 (repeat' (first|contradiction|exact .ok|apply And.intro|intro _|(refine gc (fun h=>?_) (fun h=>?_)<;>(have h':=h;(try simp at h');first|done|simp[h,h']|simp))))
 simp [mk8 S.length hl]
 (repeat' (first|contradiction|exact .ok|apply And.intro|intro _|(refine gc (fun h=>?_) (fun h=>?_)<;>(have h':=h;(try simp at h');first|done|simp[h,h']|simp))))
 refine aloopT mix (by decide) (fun i:Nat=>{ s:=mkS [(1,.ptr 1 0 0),(4,.ref 900 0 S.length 1),(20,.d (.sl (S.map Tb.c))),(21,.d (.int .i64 S.length)),(22,.d (.int .i64 i))],b:=bfB S S.length i }) (fun i=>i≤S.length∧∀ x∈S.take i,∀ f∈x.fk,0≤tgt S f) (fun i=>S.length - i) 0 (by simp) ?_ ?_
 ·refine (sub_varr 18 (by simp [upd]; exact ⟨rfl,rfl,rfl⟩)).trans ?_
  refine sub_mk _ [(1,1,_),(900,18,_)] ⟨by simp,by simp,?_,by simp⟩ (by simp [renOf])
  rw [bfC0]
  simp [renOf,Blk.live,nilMp]
 ·rintro i ⟨hi,hall⟩
  have a1:=bfB1 S S.length i
  have a2:=bfB900 S S.length i
  have a3:∀ n,n<900→n ≠ 1→bfB S S.length i n=.free:=bfBf S S.length i
  by_cases hlt:i<S.length
  ·obtain ⟨u,hu⟩:∃ u,u=S[i]:=⟨_,rfl⟩
   have hgi:∀ h,S[i]'h=u:=fun _=>hu.symm
   have hw:=wrap_in (n:=(i:Int)+1) (by omega) (by omega)
   have f6:=a3 6 (by omega) (by omega)
   have f29:=a3 29 (by omega) (by omega)
   have f8:=a3 8 (by omega) (by omega)
   simp [hlt,hgi,a1,a2,f6,Tb.c]
   (repeat' (first|contradiction|exact .ok|apply And.intro|intro _|(refine gc (fun h=>?_) (fun h=>?_)<;>(have h':=h;(try simp at h');first|done|simp[h,h']|simp))))
   have hbc:∀ h,(seqF (bfC i) S.length)[i]'h=[nilMp]:=fun h=>by
    have:=seqF_get (bfC i) S.length i
    rw [List.getElem?_eq_getElem h,if_pos hlt] at this
    rw [Option.some.inj this]; simp [bfC]
   simp [f29,hlt,a2,hbc]
   (repeat' (first|contradiction|exact .ok|apply And.intro|intro _|(refine gc (fun h=>?_) (fun h=>?_)<;>(have h':=h;(try simp at h');first|done|simp[h,h']|simp))))
   have hok:=hS u (by rw [hu]; exact List.getElem_mem hlt)
   have hfk:=hok.fk
   refine aloopT mix (by decide) (fun j:Nat=>{ s:=mkS [(1,.ptr 1 0 0),(4,.ref 900 0 S.length 1),(5,.d (.int .i64 i)),(20,.d (.sl (S.map Tb.c))),(21,.d (.int .i64 S.length)),(22,.d (.int .i64 i)),(32,.d (.sl (u.fk.map Fk.c))),(33,.d (.int .i64 u.fk.length)),(34,.d (.int .i64 j))],b:=bfB2 S S.length i (keysT S (u.fk.take j) []) })
    (fun j=>j≤u.fk.length∧∀ f∈u.fk.take j,0≤tgt S f) (fun j=>u.fk.length - j) 0 (by simp) ?_ ?_
   ·rw [mkB_l2 S S.length i 29]
    refine sub_mk _ _ (kept2 29 (by omega) (by omega) ?_ ?_ ?_ ?_) (by simp [renOf_fam,l2,renOf])
    ·simp [a1]
    ·simp [seqF_set,bfC]
     exact seqF_congr fun k _=>by
      by_cases h1:k<i
      ·have h2:k ≠ i:=by omega
       simp [h1,h2]
      ·simp [h1]
    ·simp [keysT,kM]
    ·intro k hk
     have e1:2000+k ≠ 6:=by omega
     have e2:2000+k ≠ 29:=by omega
     have e3:2000+k ≠ 900:=by omega
     simp [bfBm S S.length i k hk,e1,e2,e3]
   ·rintro j ⟨hj,ha⟩
    have d1:bfB2 S S.length i (keysT S (u.fk.take j) []) 1=.var [.d (.sl (S.map Tb.c))]:=by unfold bfB2; rw [mkB_fam]; simp
    have d2:bfB2 S S.length i (keysT S (u.fk.take j) []) 900=.varr 221 1 (seqF (bfC2 i) S.length):=by unfold bfB2; rw [mkB_fam]; simp
    have d3:bfB2 S S.length i (keysT S (u.fk.take j) []) 902=.mp (kM (keysT S (u.fk.take j) [])):=by unfold bfB2; rw [mkB_fam]; simp
    have d4:bfB2 S S.length i (keysT S (u.fk.take j) []) 8=.free:=by unfold bfB2; rw [mkB_fam]; simp
    have hb2:∀ h,(seqF (bfC2 i) S.length)[i]'h=[.mref 902]:=fun h=>by
     have:=seqF_get (bfC2 i) S.length i
     rw [List.getElem?_eq_getElem h,if_pos hlt] at this
     rw [Option.some.inj this]; simp [bfC2]
    by_cases hjl:j<u.fk.length
    ·obtain ⟨f,hf⟩:∃ f,f=u.fk[j]:=⟨_,rfl⟩
     have hgf:∀ h,u.fk[j]'h=f:=fun _=>hf.symm
     have hwj:=wrap_in (n:=(j:Int)+1) (by omega) (by omega)
     simp [hjl,hgf,d4,Fk.c]
     (repeat' (first|contradiction|exact .ok|apply And.intro|intro _|(refine gc (fun h=>?_) (fun h=>?_)<;>(have h':=h;(try simp at h');first|done|simp[h,h']|simp))))
     simp [d1]
     (repeat' (first|contradiction|exact .ok|apply And.intro|intro _|(refine gc (fun h=>?_) (fun h=>?_)<;>(have h':=h;(try simp at h');first|done|simp[h,h']|simp))))
     refine acallT_plain (s_find S hl f.t) (by simp [schA]) ?_
     by_cases hz:0≤tgt S f
     ·obtain ⟨k,hk⟩:∃ k:Nat,tgt S f=k:=⟨(tgt S f).toNat,by omega⟩
      rw [place_at (show fidx (fun x:Tb=>x.n==f.t) S 0=k from hk)]
      simp
      (repeat' (first|contradiction|exact .ok|apply And.intro|intro _|(refine gc (fun h=>?_) (fun h=>?_)<;>(have h':=h;(try simp at h');first|done|simp[h,h']|simp))))
      simp [hlt,d2,hb2,d3,keyOk_int,kM_set]
      (repeat' (first|contradiction|exact .ok|apply And.intro|intro _|(refine gc (fun h=>?_) (fun h=>?_)<;>(have h':=h;(try simp at h');first|done|simp[h,h']|simp))))
      have htk:u.fk.take (j+1)=u.fk.take j++[f]:=by rw [List.take_add_one,List.getElem?_eq_getElem hjl,hf]; rfl
      refine ⟨j+1,⟨by omega,fun g hg=>?_⟩,?_,by simp; omega⟩
      ·rw [htk] at hg
       rcases List.mem_append.1 hg with hg | hg
       ·exact ha g hg
       ·simp at hg; subst hg; exact hz
      ·simp only [htk,keysT_snoc,hk]
       rw [mkB_l2 S S.length i 902 (insK k (keysT S (u.fk.take j) []))]
       refine sub_mk _ _ (kept2 902 (by omega) (by omega) ?_ ?_ ?_ ?_) (by simp [renOf_fam,l2,renOf,hwj])
       ·simp [d1]
       ·simp only [upd]
        simp [d2]
        rfl
       ·simp
       ·intro q hq
        have e1:2000+q ≠ 8:=by omega
        have e3:2000+q ≠ 902:=by omega
        have:bfB2 S S.length i (keysT S (u.fk.take j) []) (2000+q)=.mp (kM (keyO S q)):=by
         unfold bfB2
         rw [mkB_fam,if_pos (by omega),Nat.add_sub_cancel_left]
        simp [this,e1,e3]
     ·have hm:ordS S=([],11):=by
       unfold ordS
       rw [if_pos]
       unfold missT
       rw [List.any_eq_true]
       refine ⟨u,by rw [hu]; exact List.getElem_mem hlt,?_⟩
       rw [List.any_eq_true]
       exact ⟨f,by rw [hf]; exact List.getElem_mem hjl,by simp; omega⟩
      rw [place_no (fidx_neg hz),hm]
      simp
      (repeat' (first|contradiction|exact .ok|apply And.intro|intro _|(refine gc (fun h=>?_) (fun h=>?_)<;>(have h':=h;(try simp at h');first|done|simp[h,h']|simp))))
      rfl
    ·have hje:j=u.fk.length:=by omega
     subst hje
     have hko:keyO S i=keysT S u.fk []:=by
      unfold keyO
      rw [List.getElem?_eq_getElem hlt,← hu]
     rw [List.take_length] at d1 d2 d3 ⊢
     simp
     (repeat' (first|contradiction|exact .ok|apply And.intro|intro _|(refine gc (fun h=>?_) (fun h=>?_)<;>(have h':=h;(try simp at h');first|done|simp[h,h']|simp))))
     refine ⟨i+1,⟨by omega,fun x hx=>?_⟩,?_,by simp; omega⟩
     ·rw [List.take_add_one,List.getElem?_eq_getElem hlt,← hu] at hx
      rcases List.mem_append.1 hx with hx | hx
      ·exact hall x hx
      ·simp at hx
       subst hx
       rw [List.take_length] at ha
       exact ha
     simp only [mkB_l3]
     refine sub_mk _ _ (kept3 ?_ ?_ ?_ ?_) (by simp [renOf_fam,l3,renOf,hw])
     ·simp [d1]
     ·simp [d2]
     ·simp [d3,hko]
     ·intro q hq
      show bfB2 S S.length i (keysT S u.fk []) (2000+q)=_
      unfold bfB2
      rw [mkB_fam,if_pos (by omega),Nat.add_sub_cancel_left]
  ·have hie:i=S.length:=by omega
   subst hie
   have f900:∀ n,n<900→n ≠ 1→bfB S S.length S.length n=.free:=bfBf S S.length S.length
   have hms:missT S=false:=by
    rw [List.take_length] at hall
    unfold missT
    rw [List.any_eq_false]
    intro x hx
    rw [List.any_eq_true]
    rintro ⟨f,hf,h0⟩
    have:=hall x hx f hf
    simp at h0
    omega
   have hor:loopO S.length (S.length - 0) (fun _=>true) (keyO S) []=ordS S:=by
    unfold ordS
    rw [hms]; rfl
   simp [a1]
   (repeat' (first|contradiction|exact .ok|apply And.intro|intro _|(refine gc (fun h=>?_) (fun h=>?_)<;>(have h':=h;(try simp at h');first|done|simp[h,h']|simp))))
   refine aloopT mix (by decide) (fun x:Nat×(Nat→Bool)×(Nat→List Int)×List Int=>{ s:=mkS [(4,.ref 900 0 S.length 1),(11,.ref 901 0 x.1 1),(56,.d (.int .i64 S.length)),(57,.d (.int .i64 x.1))],b:=obB S.length x.2.1 x.2.2.1 x.2.2.2 })
    (fun x=>x.1≤S.length∧x.2.2.2.length=x.1∧loopO S.length (S.length - x.1) x.2.1 x.2.2.1 x.2.2.2=ordS S∧∀ k,k<S.length→(x.2.2.1 k).length≤1000) (fun x=>S.length - x.1) (0,fun _=>true,keyO S,[]) ?_ ?_ ?_
   ·exact ⟨by simp,by simp,hor,fun k hk=>keyO_len S hS k hk⟩
   ·refine (sub_nil (i:=11) (m:=901) (ety:=3) (sz:=1) (by simp) ?_ (by decide) (by decide)).trans ?_
    ·simp; exact obB901x S S.length
    ·simp only [mkB_l4 S.length 901 (fun _=>true) (keyO S) []]
     refine sub_mk _ _ (kept4 901 (by omega) (by omega) ?_ ?_ ?_) (by simp [renOf_fam,l4,renOf])
     ·simp [a2]
      exact seqF_congr fun k hk=>by simp [bfC,mAV,hk]
     ·simp [ints]
     ·intro k hk
      have e1:2000+k ≠ 901:=by omega
      simp [bfBm S S.length S.length k hk,e1]
   ·rintro ⟨i,al,es,out⟩ ⟨hi,hlo,hL,hes⟩
    simp only at hi hlo hL hes ⊢
    have b9:=obB900 S.length al es out
    have b91:=obB901 S.length al es out
    have bm:=obBm S.length al es out
    by_cases hlt:i<S.length
    ·have hw:=wrap_in (n:=(i:Int)+1) (by omega) (by omega)
     rw [show S.length - i=(S.length - (i+1))+1 from by omega,loopO_step] at hL
     have hzl:=nextO_lt S.length al es
     simp [hlt]
     (repeat' (first|contradiction|exact .ok|apply And.intro|intro _|(refine gc (fun h=>?_) (fun h=>?_)<;>(have h':=h;(try simp at h');first|done|simp[h,h']|simp))))
     refine m_call (al:=al) (es:=es) hl hes (by simp [b9]) (fun k hk=>by simp [bm k hk]) (fun tl wn=>?_)
     generalize nextO S.length al es=z at *
     by_cases hz:z<0
     ·rw [if_pos hz] at hL
      rw [← hL]
      simp [hz]
      (repeat' (first|contradiction|exact .ok|apply And.intro|intro _|(refine gc (fun h=>?_) (fun h=>?_)<;>(have h':=h;(try simp at h');first|done|simp[h,h',hz]|simp[hz]))))
      try rfl
     ·rw [if_neg hz] at hL
      obtain ⟨q,rfl⟩:∃ q:Nat,z=q:=⟨z.toNat,by omega⟩
      have hq:q<S.length:=by omega
      have hb2:out.length≤1000:=by omega
      have f65:=obBf S.length al es out 65 (by omega)
      have f66:=obBf S.length al es out 66 (by omega)
      have hz1:(ints out).take i=ints out:=List.take_of_length_le (by simp [hlo])
      simp [hz,b91,f65,f66,szs (i+1) (by omega) 8 (by decide),szs i (by omega) 8 (by decide),hlo,hz1]
      (repeat' (first|contradiction|exact .ok|apply And.intro|intro _|(refine gc (fun h=>?_) (fun h=>?_)<;>(have h':=h;(try simp at h');first|done|simp[h,h']|simp))))
      have hgq:∀ h,(seqF (fun k=>[mAV al 2000 k]) S.length)[q]'h=[mAV al 2000 q]:=fun h=>by
       have:=seqF_get (fun k=>[mAV al 2000 k]) S.length q
       rw [List.getElem?_eq_getElem h,if_pos hq] at this
       exact Option.some.inj this
      simp [b9,hq,hgq]
      (repeat' (first|contradiction|exact .ok|apply And.intro|intro _|(refine gc (fun h=>?_) (fun h=>?_)<;>(have h':=h;(try simp at h');first|done|simp[h,h']|simp))))
      have hset:(seqF (fun k=>[mAV al 2000 k]) S.length).set q [.d (.val (.map none))]=seqF (fun k=>[mAV (alO al q) 2000 k]) S.length:=by
       rw [seqF_set]
       refine seqF_congr fun k _=>?_
       by_cases hk:k=q
       ·subst hk
        simp [mAV,alO]
       ·have hk':¬ (k:Int)=q:=by omega
        simp [mAV,alO,hk,hk']
      have hio:ints (out++[(q:Int)])=ints out++[[.int .i64 q]]:=by simp [ints]
      refine aloopT mix (by decide) (fun j:Nat=>{ s:=mkS [(4,.ref 900 0 S.length 1),(11,.ref 901 0 (i+1) 1),(12,.d (.int .i64 q)),(56,.d (.int .i64 S.length)),(57,.d (.int .i64 i)),(70,.ref 900 0 S.length 1),(71,.d (.int .i64 S.length)),(72,.d (.int .i64 j))],b:=obB S.length (alO al q) (esD al es q j) (out++[(q:Int)]) })
       (fun j=>j≤S.length) (fun j=>S.length - j) 0 (by simp) ?_ ?_
      ·rw [esD_zero,mkB_l4 S.length 66 (alO al q) es (out++[(q:Int)])]
       refine sub_mk _ _ (kept4 66 (by omega) (by omega) ?_ ?_ ?_) (by simp [renOf_fam,l4,renOf])
       ·simp [hset]
       ·simp [hio]
       ·intro k hk
        have e1:2000+k ≠ 901:=by omega
        have e2:2000+k ≠ 65:=by omega
        have e3:2000+k ≠ 66:=by omega
        have e4:2000+k ≠ 900:=by omega
        simp [bm k hk,e1,e2,e3,e4]
      ·intro j hj
       have c9:=obB900 S.length (alO al q) (esD al es q j) (out++[(q:Int)])
       have c91:=obB901 S.length (alO al q) (esD al es q j) (out++[(q:Int)])
       have cm:=obBm S.length (alO al q) (esD al es q j) (out++[(q:Int)])
       by_cases hjl:j<S.length
       ·have hwj:=wrap_in (n:=(j:Int)+1) (by omega) (by omega)
        have hgj:∀ h,(seqF (fun k=>[mAV (alO al q) 2000 k]) S.length)[j]'h=[mAV (alO al q) 2000 j]:=fun h=>by
         have:=seqF_get (fun k=>[mAV (alO al q) 2000 k]) S.length j
         rw [List.getElem?_eq_getElem h,if_pos hjl] at this
         exact Option.some.inj this
        cases hal:alO al q j
        ·have hgj2:∀ h,(seqF (fun k=>[mAV (alO al q) 2000 k]) S.length)[j]'h=[.d (.val (.map none))]:=fun h=>by rw [hgj,mAV,hal]; rfl
         simp [hjl,c9,hgj2,keyOk_int]
         (repeat' (first|contradiction|exact .ok|apply And.intro|intro _|(refine gc (fun h=>?_) (fun h=>?_)<;>(have h':=h;(try simp at h');first|done|simp[h,h']|simp))))
         refine ⟨j+1,by omega,?_,by simp; omega⟩
         refine sub_sb ?_ _ (by simp [hwj])
         simp only [esD_off hal]
        ·have hgj2:∀ h,(seqF (fun k=>[mAV (alO al q) 2000 k]) S.length)[j]'h=[.mref (2000+j)]:=fun h=>by rw [hgj,mAV,hal]; rfl
         have cmj:=cm j hjl
         have he:esD al es q j j=es j:=by simp [esD]
         rw [he] at cmj
         simp [hjl,c9,hgj2,keyOk_int,cmj,kM_del]
         (repeat' (first|contradiction|exact .ok|apply And.intro|intro _|(refine gc (fun h=>?_) (fun h=>?_)<;>(have h':=h;(try simp at h');first|done|simp[h,h']|simp))))
         refine ⟨j+1,by omega,?_,by simp; omega⟩
         exact sub_sb (obB_del hjl hal) _ (by simp [hwj])
       ·obtain rfl:j=S.length:=by omega
        simp
        (repeat' (first|contradiction|exact .ok|apply And.intro|intro _|(refine gc (fun h=>?_) (fun h=>?_)<;>(have h':=h;(try simp at h');first|done|simp[h,h']|simp))))
        refine ⟨⟨i+1,alO al q,esO al es q,out++[(q:Int)]⟩,⟨by simp; omega,by simp [hlo],hL,fun k hk=>esO_len (hes k hk)⟩,?_,by simp; omega⟩
        simp only [← esD_full al es q S.length (out++[(q:Int)]) (alO al q)]
        exact sub_sb rfl _ (by simp [hw])
    ·obtain rfl:i=S.length:=by omega
     rw [Nat.sub_self,show loopO S.length 0 al es out=(out,0) from rfl] at hL
     rw [← hL]
     have ht:(ints out).take S.length=ints out:=List.take_of_length_le (by simp [hlo])
     simp [b91,hlo,ht]
     all_goals exact gz
end Go.Proofs.Tryz
