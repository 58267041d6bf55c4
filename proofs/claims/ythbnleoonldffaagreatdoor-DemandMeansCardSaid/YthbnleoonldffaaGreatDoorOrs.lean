import Derived.Test.YthbnleoonldffaaGreatDoorQR8c
set_option linter.all false
namespace Go.Proofs.Tryz
open Go.Ab
set_option maxRecDepth 100000
set_option maxHeartbeats 4000000
def xB:AV:=.d (.val (.map none))
def YX (i k:Nat):List AV:=if k<i then [.mref (2000+k)] else [xB]
def jO (S:List Tb) (k:Nat):List Int:=match S[k]? with | some x=>fR S x.fk [] | none=>[]
def OZ (S:List Tb) (N i:Nat):Nat→Blk:=cE ([(1,1,.var [.d (.sl (S.map Tb.c))]),(900,900,.varr 195 1 (bE (YX i) N))]++jK 2000 (fun k=>.mp (kM (jO S k))) i)
def GW (i k:Nat):List AV:=if k<i then [.mref (2000+k)] else if k=i then [.mref 902] else [xB]
def sL (S:List Tb) (N i:Nat) (es:List Int):Nat→Blk:=cE ([(1,1,.var [.d (.sl (S.map Tb.c))]),(900,900,.varr 195 1 (bE (GW i) N)),(902,902,.mp (kM es))]++jK 2000 (fun k=>.mp (kM (jO S k))) i)
theorem aGH (S:List Tb) (N i:Nat):OZ S N i 1=.var [.d (.sl (S.map Tb.c))]:=by
 unfold OZ; rw [dQ]; simp
theorem aDV (S:List Tb) (N i:Nat):OZ S N i 900=.varr 195 1 (bE (YX i) N):=by
 unfold OZ; rw [dQ]; simp
theorem aFx (S:List Tb) (N i n:Nat) (h:n<900) (h1:n ≠ 1):OZ S N i n=.free:=by
 unfold OZ
 rw [dQ,if_neg (by omega)]
 have:n ≠ 900:=by omega
 simp [h1,this]
def l2 (S:List Tb) (N i m:Nat) (es:List Int):iW:=[(1,1,.var [.d (.sl (S.map Tb.c))]),(900,900,.varr 195 1 (bE (GW i) N)),(902,m,.mp (kM es))]
theorem aDb {b:Nat→Blk} {S:List Tb} {N i:Nat} {es:List Int} (m:Nat) (hm:m<2000) (hm1:m ≠ 1∧m ≠ 900) (b1:b 1=.var [.d (.sl (S.map Tb.c))])
  (b900:b 900=.varr 195 1 (bE (fun k=>if k<i then [.mref (2000+k)] else if k=i then [.mref m] else [xB]) N)) (bm:b m=.mp (kM es))
  (bf:∀ k,k<i→b (2000+k)=.mp (kM (jO S k))):KeptOk 0 b (l2 S N i m es++jK 2000 (fun k=>.mp (kM (jO S k))) i):=by
 have hr:∀ n,aB (l2 S N i m es++jK 2000 (fun k=>.mp (kM (jO S k))) i) n=(aB (l2 S N i m es) n).or (if 2000≤n∧n<2000+i then some n else none):=gY _ _ _ _
 obtain ⟨hm2,hm3⟩:=hm1
 refine yU (by simp [l2]) (by simp [l2,Ne.symm hm2,Ne.symm hm3]) ?_ ?_ ?_ (by simp)
 ·intro p hp
  simp only [l2,List.mem_cons,List.not_mem_nil,or_false] at hp
  rcases hp with rfl | rfl | rfl <;> constructor <;> simp <;> omega
 ·intro p hp
  simp only [l2,List.mem_cons,List.not_mem_nil,or_false] at hp
  rcases hp with rfl | rfl | rfl
  ·simp [b1,Blk.live]
  ·simp only [b900]
   refine ⟨.inl rfl,?_⟩
   simp only [iH,eB]
   congr 1
   refine cJ fun k hk=>?_
   unfold GW
   by_cases h1:k<i
   ·simp only [h1,if_true,cQ,dU,hr]
    have e1:2000+k ≠ 1:=by omega
    have e2:2000+k ≠ 900:=by omega
    have e3:2000+k ≠ m:=by omega
    simp [l2,aB,e1,e2,e3,h1]
   ·by_cases h2:k=i
    ·subst h2
     simp [cQ,dU,hr,l2,aB,hm2,hm3]
    ·simp [h1,h2,cQ,dU,xB]
  ·simp [bm,Blk.live]
 ·intro k hk
  rw [bf k hk]
  exact ⟨.inl rfl,rfl⟩
theorem YY (S:List Tb) (N i m:Nat) (es:List Int):sL S N i es=cE (l2 S N i m es++jK 2000 (fun k=>.mp (kM (jO S k))) i):=by
 unfold sL cE l2
 simp only [List.map_append,List.map_cons,List.map_nil]
theorem aFy (S:List Tb) (N i k:Nat) (h:k<i):OZ S N i (2000+k)=.mp (kM (jO S k)):=by
 unfold OZ
 rw [dQ,if_pos (by omega),Nat.add_sub_cancel_left]
def l3 (S:List Tb) (N i:Nat):iW:=[(1,1,.var [.d (.sl (S.map Tb.c))]),(900,900,.varr 195 1 (bE (YX (i+1)) N)),(2000+i,902,.mp (kM (jO S i)))]
theorem aDW (S:List Tb) (N i:Nat):OZ S N (i+1)=cE (l3 S N i++jK 2000 (fun k=>.mp (kM (jO S k))) i):=by
 funext n
 unfold OZ
 rw [dQ,dQ]
 by_cases h:2000≤n∧n<2000+i
 ·rw [if_pos h,if_pos (by omega)]
 ·rw [if_neg h]
  by_cases h2:n=2000+i
  ·subst h2
   rw [if_pos (by omega),Nat.add_sub_cancel_left]
   simp [l3]
  ·rw [if_neg (by omega)]
   simp [l3,h2]
theorem aFz {b:Nat→Blk} {S:List Tb} {N i:Nat} (b1:b 1=.var [.d (.sl (S.map Tb.c))])
  (b900:b 900=.varr 195 1 (bE (GW i) N)) (bm:b 902=.mp (kM (jO S i)))
  (bf:∀ k,k<i→b (2000+k)=.mp (kM (jO S k))):KeptOk 0 b (l3 S N i++jK 2000 (fun k=>.mp (kM (jO S k))) i):=by
 have hr:∀ n,aB (l3 S N i++jK 2000 (fun k=>.mp (kM (jO S k))) i) n=(aB (l3 S N i) n).or (if 2000≤n∧n<2000+i then some n else none):=gY _ _ _ _
 have n1:2000+i ≠ 1:=by omega
 have n2:2000+i ≠ 900:=by omega
 refine yU (by simp [l3]; omega) (by simp [l3]) ?_ ?_ ?_ (by simp)
 ·intro p hp
  simp only [l3,List.mem_cons,List.not_mem_nil,or_false] at hp
  rcases hp with rfl | rfl | rfl <;> constructor <;> simp <;> omega
 ·intro p hp
  simp only [l3,List.mem_cons,List.not_mem_nil,or_false] at hp
  rcases hp with rfl | rfl | rfl
  ·simp [b1,Blk.live]
  ·simp only [b900]
   refine ⟨.inl rfl,?_⟩
   simp only [iH,eB]
   congr 1
   refine cJ fun k hk=>?_
   unfold GW YX
   by_cases h1:k<i
   ·have e4:k<i+1:=by omega
    simp only [h1,e4,if_true,cQ,dU,hr]
    have e1:2000+k ≠ 1:=by omega
    have e2:2000+k ≠ 900:=by omega
    have e3:2000+k ≠ 902:=by omega
    simp [l3,aB,e1,e2,e3,h1]
   ·by_cases h2:k=i
    ·subst h2
     simp [cQ,dU,hr,l3,aB]
    ·have e4:¬ k<i+1:=by omega
     simp [h1,h2,e4,cQ,dU,xB]
  ·simp [bm,Blk.live]
 ·intro k hk
  rw [bf k hk]
  exact ⟨.inl rfl,rfl⟩
theorem aCa (S:List Tb) (i:Nat):OZ S i i 901=.free:=by
 unfold OZ
 rw [dQ,if_neg (by omega)]
 simp
theorem aGI (N:Nat):bE (YX 0) N=List.replicate N [xB]:=by
 rw [nD]
 exact cJ fun k _=>by simp [YX]
theorem nO {α:Type} {p:α→Bool}:∀ {l:List α} {i:Nat},¬ 0≤aY p l i→aY p l i=-1
 | [],_,_=>rfl
 | x::l,i,h=>by
   rw [aY] at h ⊢
   split at h
   ·exact absurd (Int.natCast_nonneg i) h
   ·rename_i hx
    rw [if_neg hx]
    exact nO h
def mM (S:List Tb):Bool:=S.any fun x=>x.fk.any fun f=>decide (iB S f<0)
theorem vU (z:Int):nB (.int .i64) (.int .i64 z)=true:=rfl
theorem AU (S:List Tb) (f:Fk):∀ (r:List Fk) (l:List Int),fR S (r++[f]) l=vS (iB S f) (fR S r l)
 | [],_=>rfl
 | g::r,l=>by rw [List.cons_append,fR,AU S f r,fR]
def lM (N:Nat) (al:Nat→Bool) (es:Nat→List Int):Int:=aY (fun k=>al k&&(es k).length==0) (bE (fun k=>k) N) 0
def xX (al:Nat→Bool) (z:Int) (k:Nat):Bool:=al k&&(k:Int) != z
def VV (al:Nat→Bool) (es:Nat→List Int) (z:Int) (k:Nat):List Int:=if xX al z k=true then (es k).erase z else es k
def uL (N:Nat):Nat→(Nat→Bool)→(Nat→List Int)→List Int→List Int×Int
 | 0,_,_,out=>(out,0)
 | n+1,al,es,out=>if lM N al es<0 then ([],7) else uL N n (xX al (lM N al es)) (VV al es (lM N al es)) (out++[lM N al es])
def eX (S:List Tb):List Int×Int:=if mM S=true then ([],11) else uL S.length S.length (fun _=>true) (jO S) []
def GX (N:Nat) (al:Nat→Bool) (es:Nat→List Int) (out:List Int):Nat→Blk :=
 cE ([(900,900,.varr 195 1 (bE (fun k=>[oU al 2000 k]) N)),(901,901,.arr 3 1 (aG out) false)]++jK 2000 (fun k=>.mp (kM (es k))) N)
theorem YZ (N:Nat) (al:Nat→Bool) (es:Nat→List Int) (out:List Int):GX N al es out 900=.varr 195 1 (bE (fun k=>[oU al 2000 k]) N):=by
 unfold GX; rw [dQ]; simp
theorem ZA (N:Nat) (al:Nat→Bool) (es:Nat→List Int) (out:List Int):GX N al es out 901=.arr 3 1 (aG out) false:=by
 unfold GX; rw [dQ]; simp
theorem aFA (N:Nat) (al:Nat→Bool) (es:Nat→List Int) (out:List Int) (k:Nat) (h:k<N):GX N al es out (2000+k)=.mp (kM (es k)):=by
 unfold GX
 rw [dQ,if_pos (by omega),Nat.add_sub_cancel_left]
theorem aFB (N:Nat) (al:Nat→Bool) (es:Nat→List Int) (out:List Int) (n:Nat) (h:n<900):GX N al es out n=.free:=by
 unfold GX
 rw [dQ,if_neg (by omega)]
 have h1:n ≠ 900:=by omega
 have h2:n ≠ 901:=by omega
 simp [h1,h2]
def l4 (N m:Nat) (al:Nat→Bool) (out:List Int):iW:=[(900,900,.varr 195 1 (bE (fun k=>[oU al 2000 k]) N)),(901,m,.arr 3 1 (aG out) false)]
theorem ZB (N m:Nat) (al:Nat→Bool) (es:Nat→List Int) (out:List Int):GX N al es out=cE (l4 N m al out++jK 2000 (fun k=>.mp (kM (es k))) N):=by
 unfold GX cE l4
 simp only [List.map_append,List.map_cons,List.map_nil]
theorem QI {b:Nat→Blk} {N:Nat} {al:Nat→Bool} {es:Nat→List Int} {out:List Int} (m:Nat) (hm:m<2000) (hm1:m ≠ 900)
  (b900:b 900=.varr 195 1 (bE (fun k=>[oU al 2000 k]) N)) (bm:b m=.arr 3 1 (aG out) false)
  (bf:∀ k,k<N→b (2000+k)=.mp (kM (es k))):KeptOk 0 b (l4 N m al out++jK 2000 (fun k=>.mp (kM (es k))) N):=by
 have hr:∀ n,aB (l4 N m al out++jK 2000 (fun k=>.mp (kM (es k))) N) n=(aB (l4 N m al out) n).or (if 2000≤n∧n<2000+N then some n else none):=gY _ _ _ _
 refine yU (by simp [l4]) (by simp [l4,Ne.symm hm1]) ?_ ?_ ?_ (by simp)
 ·intro p hp
  simp only [l4,List.mem_cons,List.not_mem_nil,or_false] at hp
  rcases hp with rfl | rfl <;> constructor <;> simp <;> omega
 ·intro p hp
  simp only [l4,List.mem_cons,List.not_mem_nil,or_false] at hp
  rcases hp with rfl | rfl
  ·simp only [b900]
   refine ⟨.inl rfl,?_⟩
   simp only [iH,eB]
   congr 1
   refine cJ fun k hk=>?_
   unfold oU
   split
   ·have e2:2000+k ≠ 900:=by omega
    have e3:2000+k ≠ m:=by omega
    simp only [cQ,dU,hr]
    simp [l4,aB,e2,e3,hk]
   ·simp [cQ,dU]
  ·simp [bm,Blk.live]
 ·intro k hk
  rw [bf k hk]
  exact ⟨.inl rfl,rfl⟩
theorem ZC (z:Int) (l:List Int):(vS z l).length≤l.length+1:=by
 unfold vS; split <;> simp
theorem EB (S:List Tb):∀ (r:List Fk) (l:List Int),(fR S r l).length≤l.length+r.length
 | [],_=>Nat.le_refl _
 | f::r,l=>by
   rw [fR,List.length_cons]
   have h1:=EB S r (vS (iB S f) l)
   have h2:=ZC (iB S f) l
   omega
theorem ZD (S:List Tb) (hS:∀ x∈S,x.ok) (k:Nat) (h:k<S.length):(jO S k).length≤1000:=by
 unfold jO
 rw [List.getElem?_eq_getElem h]
 have h1:=EB S S[k].fk []
 have h2:=(hS S[k] (List.getElem_mem h)).fk
 simp at h1 ⊢
 omega
theorem mk8 (n:Nat) (h:n≤1000):(n:Int)≤9223372036854775807∧8*(n:Int)≤281474976710656:=by omega
theorem ZE {al:Nat→Bool} {o k:Nat} {r:Nat→Option Nat} {b:Nat→Blk} {kn:Bool} {o':Nat} (h:r (o+k)=some (o'+k)):dU r b kn (oU al o k)=(oU al o' k,[]):=by
 unfold oU
 split
 ·simp only [dU,h]
 ·simp only [dU]
theorem RO {al:Nat→Bool} {o o' N:Nat} {r:Nat→Option Nat} {b:Nat→Blk} {kn:Bool} (h:∀ k,k<N→r (o+k)=some (o'+k)) :
  iH r b kn (.varr 195 1 (bE (fun k=>[oU al o k]) N))=(.varr 195 1 (bE (fun k=>[oU al o' k]) N),[]):=by
 have h1:∀ x∈bE (fun k=>[oU al o k]) N,(cQ r b kn x).2=[]:=fun x hx=>by
  obtain ⟨j,hj,rfl⟩:=iJ.1 hx
  simp [cQ,ZE (h j hj)]
 rw [iH]
 refine Prod.ext ?_ ?_
 ·simp only [eB]
  congr 1
  exact cJ fun k hk=>by simp [cQ,ZE (h k hk)]
 ·simp only [List.flatMap_eq_nil_iff]
  exact h1
theorem aDX {N:Nat} {al:Nat→Bool} {es:Nat→List Int} (hN:N≤1000) (hes:∀ k,k<N→(es k).length≤1000) {st:St}
  (b900:st.b 900=.varr 195 1 (bE (fun k=>[oU al 2000 k]) N)) (bm:∀ k,k<N→st.b (2000+k)=.mp (kM (es k)))
  {dst:Option Tmp} {K:St→List Nat→List Nat→Prop} {t:pS K} (hK:∀ tl wn,K { s:=qC st.s dst (.d (.int .i64 (lM N al es))),b:=st.b } tl wn) :
  iM En 144 [.ref 900 0 N 1,.clo 145 []] dst st K t:=by
 have hm:=aFw al (fun k=>kM (es k)) N hN (fun k hk=>by rw [YP]; exact hes k hk)
 have hf:∀ k,k<N→iE (900::bE (fun k=>2000+k) N) (2000+k)=some (1000001+k):=fun k hk=>by
  rw [IJ (by omega),if_neg (by omega),if_pos (by omega),Nat.add_sub_cancel_left]
 have hb9:∀ kn,iH (iE (900::bE (fun k=>2000+k) N)) st.b kn (st.b 900)=(.varr 195 1 (bE (fun k=>[oU al 1000001 k]) N),[]):=fun kn=>by
  rw [b900]; exact RO hf
 have hbm:∀ kn k,k<N→iH (iE (900::bE (fun k=>2000+k) N)) st.b kn (st.b (2000+k))=(.mp (kM (es k)),[]):=fun kn k hk=>by
  rw [bm k hk]; rfl
 have ha:fO (900::bE (fun k=>2000+k) N) st.b [.ref 900 0 N 1,.clo 145 []]=([.ref 1000000 0 N 1,.clo 145 []],[]):=by
  have h9:iE (900::bE (fun k=>2000+k) N) 900=some 1000000:=by rw [IJ (by omega),if_pos rfl]
  simp [fO,cQ,dU,h9]
 refine II (900::bE (fun k=>2000+k) N) hm (uY (by omega)) ?_ ?_ ?_ ?_ ?_ ?_
 ·intro n hn
  rcases List.mem_cons.1 hn with rfl | hn
  ·rw [b900]; rfl
  ·obtain ⟨k,hk,rfl⟩:=iJ.1 hn
   rw [bm k hk]; rfl
 ·unfold bY mB
  rw [List.map_cons,List.map_cons,hb9,eB,eB]
  congr 1
  exact cJ fun k hk=>by rw [hbm true k hk]
 ·rw [ha]
 ·unfold bF
  rw [ha]
  simp only [List.nil_append,List.flatMap_eq_nil_iff]
  unfold bY
  intro x hx
  obtain ⟨n,hn,rfl⟩:=List.mem_map.1 hx
  rcases List.mem_cons.1 hn with rfl | hn
  ·rw [hb9]
  ·obtain ⟨k,hk,rfl⟩:=iJ.1 hn
   rw [hbm true k hk]
 ·intro n hn
  rcases List.mem_cons.1 hn with rfl | hn
  ·rw [hb9,b900]
   exact congrArg Prod.fst (RO (o:=1000001) (o':=2000) fun k hk=>TC 900 2000 N k hk)
  ·obtain ⟨k,hk,rfl⟩:=iJ.1 hn
   rw [hbm true k hk,bm k hk]; rfl
 ·intro tl wn
  have:fE (900::bE (fun k=>2000+k) N) 0 (.d (.int .i64 (aY (fun k=>al k&&(kM (es k)).length==0) (bE (fun k=>k) N) 0)))=.d (.int .i64 (lM N al es)):=by
   simp only [YP]
   rfl
  rw [this]
  exact hK tl wn
def KU (al:Nat→Bool) (es:Nat→List Int) (z:Int) (i k:Nat):List Int:=if k<i then VV al es z k else es k
theorem ZF (al:Nat→Bool) (es:Nat→List Int) (z:Int) (N:Nat) (out:List Int) (al':Nat→Bool):GX N al' (KU al es z N) out=GX N al' (VV al es z) out:=by
 unfold GX
 congr 2
 unfold jK
 exact cJ fun k hk=>by simp [KU,hk]
theorem ZG (al:Nat→Bool) (es:Nat→List Int) (z:Int):KU al es z 0=es:=by
 funext k; simp [KU]
theorem aCb {al:Nat→Bool} {es:Nat→List Int} {z:Int} {j:Nat} (h:xX al z j=false):KU al es z (j+1)=KU al es z j:=by
 funext k
 unfold KU
 by_cases hk:k<j
 ·rw [if_pos hk,if_pos (by omega)]
 ·rw [if_neg hk]
  by_cases hkj:k=j
  ·subst hkj
   rw [if_pos (by omega)]
   unfold VV
   rw [if_neg (by simp [h])]
  ·rw [if_neg (by omega)]
theorem aCc {N:Nat} {al al':Nat→Bool} {es:Nat→List Int} {z:Int} {out:List Int} {j:Nat} (hj:j<N) (h:xX al z j=true) :
  bM (GX N al' (KU al es z j) out) (2000+j) (.mp (kM ((es j).erase z)))=GX N al' (KU al es z (j+1)) out:=by
 funext n
 unfold bM
 by_cases hn:n=2000+j
 ·subst hn
  rw [if_pos rfl,GX,dQ,if_pos (by omega),Nat.add_sub_cancel_left]
  unfold KU VV
  rw [if_pos (by omega),if_pos h]
 ·rw [if_neg hn]
  unfold GX
  rw [dQ,dQ]
  by_cases hf:2000≤n∧n<2000+N
  ·rw [if_pos hf,if_pos hf]
   unfold KU
   by_cases hk:n - 2000<j
   ·rw [if_pos hk,if_pos (by omega)]
   ·rw [if_neg hk,if_neg (by omega)]
  ·rw [if_neg hf,if_neg hf]
theorem rC {α:Type} {p:α→Bool}:∀ {l:List α} {i:Nat},aY p l i<(i:Int)+l.length
 | [],i=>by rw [aY]; simp; omega
 | x::l,i=>by
   rw [aY,List.length_cons]
   split
   ·omega
   ·have:=rC (p:=p) (l:=l) (i:=i+1)
    push_cast at this ⊢
    omega
theorem ZH (N:Nat) (al:Nat→Bool) (es:Nat→List Int):lM N al es<N:=by
 have:=rC (p:=fun k=>al k&&(es k).length==0) (l:=bE (fun k=>k) N) (i:=0)
 unfold lM
 simpa using this
theorem PA (N n:Nat) (al:Nat→Bool) (es:Nat→List Int) (out:List Int):uL N (n+1) al es out=if lM N al es<0 then ([],7) else uL N n (xX al (lM N al es)) (VV al es (lM N al es)) (out++[lM N al es]):=rfl
theorem aCd {al:Nat→Bool} {es:Nat→List Int} {z:Int} {k:Nat} (h:(es k).length≤1000):(VV al es z k).length≤1000:=by
 unfold VV
 split
 ·exact Nat.le_trans (List.length_erase_le) h
 ·exact h
theorem aCe (S:List Tb) (hl:S.length≤1000) (hS:∀ x∈S,x.ok):Cf En 73 [aR S] [] (.tup [.d (.sl (aG (eX S).1)),.d (.int .i64 (eX S).2)]) []:=by
 refine aD aW (fn:=Tryz.f73) (by kernel_rfl) rfl (by kernel_rfl) (by decide) (by simp) ?_
 simp [aR]
 (repeat' first|contradiction|exact .ok|apply And.intro|intro _|(apply gc<;>simp+contextual))
 simp [mk8 S.length hl]
 (repeat' first|contradiction|exact .ok|apply And.intro|intro _|(apply gc<;>simp+contextual))
 refine aL aW (by decide) (fun i:Nat=>{ s:=cG [(1,.ptr 1 0 0),(4,.ref 900 0 S.length 1),(20,.d (.sl (S.map Tb.c))),(21,.d (.int .i64 S.length)),(22,.d (.int .i64 i))],b:=OZ S S.length i }) (fun i=>i≤S.length∧∀ x∈S.take i,∀ f∈x.fk,0≤iB S f) (fun i=>S.length - i) 0 (by simp) ?_ ?_
 ·refine (WT 18 (by simp [bM]; exact ⟨rfl,rfl,rfl⟩)).trans ?_
  refine aE _ [(1,1,_),(900,18,_)] ⟨by simp,by simp,?_,by simp⟩ (by simp [aB])
  rw [aGI]
  simp [aB,Blk.live,xB]
 ·rintro i ⟨hi,hall⟩
  have a1:=aGH S S.length i
  have a2:=aDV S S.length i
  have a3:∀ n,n<900→n ≠ 1→OZ S S.length i n=.free:=aFx S S.length i
  by_cases hlt:i<S.length
  ·obtain ⟨u,hu⟩:∃ u,u=S[i]:=⟨_,rfl⟩
   have hgi:∀ h,S[i]'h=u:=fun _=>hu.symm
   have hw:=aH (n:=(i:Int)+1) (by omega) (by omega)
   have f6:=a3 6 (by omega) (by omega)
   have f29:=a3 29 (by omega) (by omega)
   have f8:=a3 8 (by omega) (by omega)
   simp [hlt,hgi,a1,a2,f6,Tb.c]
   (repeat' first|contradiction|exact .ok|apply And.intro|intro _|(apply gc<;>simp+contextual))
   have hbc:∀ h,(bE (YX i) S.length)[i]'h=[xB]:=fun h=>by
    have:=bR (YX i) S.length i
    rw [List.getElem?_eq_getElem h,if_pos hlt] at this
    rw [Option.some.inj this]; simp [YX]
   simp [f29,hlt,a2,hbc]
   (repeat' first|contradiction|exact .ok|apply And.intro|intro _|(apply gc<;>simp+contextual))
   have hok:=hS u (by rw [hu]; exact List.getElem_mem hlt)
   have hfk:=hok.fk
   refine aL aW (by decide) (fun j:Nat=>{ s:=cG [(1,.ptr 1 0 0),(4,.ref 900 0 S.length 1),(5,.d (.int .i64 i)),(20,.d (.sl (S.map Tb.c))),(21,.d (.int .i64 S.length)),(22,.d (.int .i64 i)),(32,.d (.sl (u.fk.map Fk.c))),(33,.d (.int .i64 u.fk.length)),(34,.d (.int .i64 j))],b:=sL S S.length i (fR S (u.fk.take j) []) })
    (fun j=>j≤u.fk.length∧∀ f∈u.fk.take j,0≤iB S f) (fun j=>u.fk.length - j) 0 (by simp) ?_ ?_
   ·rw [YY S S.length i 29]
    refine aE _ _ (aDb 29 (by omega) (by omega) ?_ ?_ ?_ ?_) (by simp [gY,l2,aB])
    ·simp [a1]
    ·simp [nC,YX]
     exact cJ fun k _=>by
      by_cases h1:k<i
      ·have h2:k ≠ i:=by omega
       simp [h1,h2]
      ·simp [h1]
    ·simp [fR,kM]
    ·intro k hk
     have e1:2000+k ≠ 6:=by omega
     have e2:2000+k ≠ 29:=by omega
     have e3:2000+k ≠ 900:=by omega
     simp [aFy S S.length i k hk,e1,e2,e3]
   ·rintro j ⟨hj,ha⟩
    have d1:sL S S.length i (fR S (u.fk.take j) []) 1=.var [.d (.sl (S.map Tb.c))]:=by unfold sL; rw [dQ]; simp
    have d2:sL S S.length i (fR S (u.fk.take j) []) 900=.varr 195 1 (bE (GW i) S.length):=by unfold sL; rw [dQ]; simp
    have d3:sL S S.length i (fR S (u.fk.take j) []) 902=.mp (kM (fR S (u.fk.take j) [])):=by unfold sL; rw [dQ]; simp
    have d4:sL S S.length i (fR S (u.fk.take j) []) 8=.free:=by unfold sL; rw [dQ]; simp
    have hb2:∀ h,(bE (GW i) S.length)[i]'h=[.mref 902]:=fun h=>by
     have:=bR (GW i) S.length i
     rw [List.getElem?_eq_getElem h,if_pos hlt] at this
     rw [Option.some.inj this]; simp [GW]
    by_cases hjl:j<u.fk.length
    ·obtain ⟨f,hf⟩:∃ f,f=u.fk[j]:=⟨_,rfl⟩
     have hgf:∀ h,u.fk[j]'h=f:=fun _=>hf.symm
     have hwj:=aH (n:=(j:Int)+1) (by omega) (by omega)
     simp [hjl,hgf,d4,Fk.c]
     (repeat' first|contradiction|exact .ok|apply And.intro|intro _|(apply gc<;>simp+contextual))
     simp [d1]
     (repeat' first|contradiction|exact .ok|apply And.intro|intro _|(apply gc<;>simp+contextual))
     refine aA (wA S hl f.t) (by simp [aR]) ?_
     by_cases hz:0≤iB S f
     ·obtain ⟨k,hk⟩:∃ k:Nat,iB S f=k:=⟨(iB S f).toNat,by omega⟩
      rw [cW (show aY (fun x:Tb=>x.n==f.t) S 0=k from hk)]
      simp
      (repeat' first|contradiction|exact .ok|apply And.intro|intro _|(apply gc<;>simp+contextual))
      simp [hlt,d2,hb2,d3,vU,YQ]
      (repeat' first|contradiction|exact .ok|apply And.intro|intro _|(apply gc<;>simp+contextual))
      have htk:u.fk.take (j+1)=u.fk.take j++[f]:=by rw [List.take_add_one,List.getElem?_eq_getElem hjl,hf]; rfl
      refine ⟨j+1,⟨by omega,fun g hg=>?_⟩,?_,by simp; omega⟩
      ·rw [htk] at hg
       rcases List.mem_append.1 hg with hg | hg
       ·exact ha g hg
       ·simp at hg; subst hg; exact hz
      ·simp only [htk,AU,hk]
       rw [YY S S.length i 902 (vS k (fR S (u.fk.take j) []))]
       refine aE _ _ (aDb 902 (by omega) (by omega) ?_ ?_ ?_ ?_) (by simp [gY,l2,aB,hwj])
       ·simp [d1]
       ·simp only [bM]
        simp [d2]
        rfl
       ·simp
       ·intro q hq
        have e1:2000+q ≠ 8:=by omega
        have e3:2000+q ≠ 902:=by omega
        have:sL S S.length i (fR S (u.fk.take j) []) (2000+q)=.mp (kM (jO S q)):=by
         unfold sL
         rw [dQ,if_pos (by omega),Nat.add_sub_cancel_left]
        simp [this,e1,e3]
     ·have hm:eX S=([],11):=by
       unfold eX
       rw [if_pos]
       unfold mM
       rw [List.any_eq_true]
       refine ⟨u,by rw [hu]; exact List.getElem_mem hlt,?_⟩
       rw [List.any_eq_true]
       exact ⟨f,by rw [hf]; exact List.getElem_mem hjl,by simp; omega⟩
      rw [lQ (nO hz),hm]
      simp
      (repeat' first|contradiction|exact .ok|apply And.intro|intro _|(apply gc<;>simp+contextual))
      rfl
    ·have hje:j=u.fk.length:=by omega
     subst hje
     have hko:jO S i=fR S u.fk []:=by
      unfold jO
      rw [List.getElem?_eq_getElem hlt,← hu]
     rw [List.take_length] at d1 d2 d3 ⊢
     simp
     (repeat' first|contradiction|exact .ok|apply And.intro|intro _|(apply gc<;>simp+contextual))
     refine ⟨i+1,⟨by omega,fun x hx=>?_⟩,?_,by simp; omega⟩
     ·rw [List.take_add_one,List.getElem?_eq_getElem hlt,← hu] at hx
      rcases List.mem_append.1 hx with hx | hx
      ·exact hall x hx
      ·simp at hx
       subst hx
       rw [List.take_length] at ha
       exact ha
     simp only [aDW]
     refine aE _ _ (aFz ?_ ?_ ?_ ?_) (by simp [gY,l3,aB,hw])
     ·simp [d1]
     ·simp [d2]
     ·simp [d3,hko]
     ·intro q hq
      show sL S S.length i (fR S u.fk []) (2000+q)=_
      unfold sL
      rw [dQ,if_pos (by omega),Nat.add_sub_cancel_left]
  ·have hie:i=S.length:=by omega
   subst hie
   have f900:∀ n,n<900→n ≠ 1→OZ S S.length S.length n=.free:=aFx S S.length S.length
   have hms:mM S=false:=by
    rw [List.take_length] at hall
    unfold mM
    rw [List.any_eq_false]
    intro x hx
    rw [List.any_eq_true]
    rintro ⟨f,hf,h0⟩
    have:=hall x hx f hf
    simp at h0
    omega
   have hor:uL S.length (S.length - 0) (fun _=>true) (jO S) []=eX S:=by
    unfold eX
    rw [hms]; rfl
   simp [a1]
   (repeat' first|contradiction|exact .ok|apply And.intro|intro _|(apply gc<;>simp+contextual))
   refine aL aW (by decide) (fun x:Nat×(Nat→Bool)×(Nat→List Int)×List Int=>{ s:=cG [(4,.ref 900 0 S.length 1),(11,.ref 901 0 x.1 1),(56,.d (.int .i64 S.length)),(57,.d (.int .i64 x.1))],b:=GX S.length x.2.1 x.2.2.1 x.2.2.2 })
    (fun x=>x.1≤S.length∧x.2.2.2.length=x.1∧uL S.length (S.length - x.1) x.2.1 x.2.2.1 x.2.2.2=eX S∧∀ k,k<S.length→(x.2.2.1 k).length≤1000) (fun x=>S.length - x.1) (0,fun _=>true,jO S,[]) ?_ ?_ ?_
   ·exact ⟨by simp,by simp,hor,fun k hk=>ZD S hS k hk⟩
   ·refine (tE (i:=11) (m:=901) (ety:=3) (sz:=1) (by simp) ?_ (by decide) (by decide)).trans ?_
    ·simp; exact aCa S S.length
    ·simp only [ZB S.length 901 (fun _=>true) (jO S) []]
     refine aE _ _ (QI 901 (by omega) (by omega) ?_ ?_ ?_) (by simp [gY,l4,aB])
     ·simp [a2]
      exact cJ fun k hk=>by simp [YX,oU,hk]
     ·simp [aG]
     ·intro k hk
      have e1:2000+k ≠ 901:=by omega
      simp [aFy S S.length S.length k hk,e1]
   ·rintro ⟨i,al,es,out⟩ ⟨hi,hlo,hL,hes⟩
    simp only at hi hlo hL hes ⊢
    have b9:=YZ S.length al es out
    have b91:=ZA S.length al es out
    have bm:=aFA S.length al es out
    by_cases hlt:i<S.length
    ·have hw:=aH (n:=(i:Int)+1) (by omega) (by omega)
     rw [show S.length - i=(S.length - (i+1))+1 from by omega,PA] at hL
     have hzl:=ZH S.length al es
     simp [hlt]
     (repeat' first|contradiction|exact .ok|apply And.intro|intro _|(apply gc<;>simp+contextual))
     refine aDX (al:=al) (es:=es) hl hes (by simp [b9]) (fun k hk=>by simp [bm k hk]) (fun tl wn=>?_)
     generalize lM S.length al es=z at *
     by_cases hz:z<0
     ·rw [if_pos hz] at hL
      rw [← hL]
      simp [hz]
      (repeat' first|contradiction|exact .ok|apply And.intro|intro _|(apply gc<;>simp+contextual[hz]))
      try rfl
     ·rw [if_neg hz] at hL
      obtain ⟨q,rfl⟩:∃ q:Nat,z=q:=⟨z.toNat,by omega⟩
      have hq:q<S.length:=by omega
      have hb2:out.length≤1000:=by omega
      have f65:=aFB S.length al es out 65 (by omega)
      have f66:=aFB S.length al es out 66 (by omega)
      have hz1:(aG out).take i=aG out:=List.take_of_length_le (by simp [hlo])
      simp [hz,b91,f65,f66,eI (i+1) (by omega) 8 (by decide),eI i (by omega) 8 (by decide),hlo,hz1]
      (repeat' first|contradiction|exact .ok|apply And.intro|intro _|(apply gc<;>simp+contextual))
      have hgq:∀ h,(bE (fun k=>[oU al 2000 k]) S.length)[q]'h=[oU al 2000 q]:=fun h=>by
       have:=bR (fun k=>[oU al 2000 k]) S.length q
       rw [List.getElem?_eq_getElem h,if_pos hq] at this
       exact Option.some.inj this
      simp [b9,hq,hgq]
      (repeat' first|contradiction|exact .ok|apply And.intro|intro _|(apply gc<;>simp+contextual))
      have hset:(bE (fun k=>[oU al 2000 k]) S.length).set q [.d (.val (.map none))]=bE (fun k=>[oU (xX al q) 2000 k]) S.length:=by
       rw [nC]
       refine cJ fun k _=>?_
       by_cases hk:k=q
       ·subst hk
        simp [oU,xX]
       ·have hk':¬ (k:Int)=q:=by omega
        simp [oU,xX,hk,hk']
      have hio:aG (out++[(q:Int)])=aG out++[[.int .i64 q]]:=by simp [aG]
      refine aL aW (by decide) (fun j:Nat=>{ s:=cG [(4,.ref 900 0 S.length 1),(11,.ref 901 0 (i+1) 1),(12,.d (.int .i64 q)),(56,.d (.int .i64 S.length)),(57,.d (.int .i64 i)),(70,.ref 900 0 S.length 1),(71,.d (.int .i64 S.length)),(72,.d (.int .i64 j))],b:=GX S.length (xX al q) (KU al es q j) (out++[(q:Int)]) })
       (fun j=>j≤S.length) (fun j=>S.length - j) 0 (by simp) ?_ ?_
      ·rw [ZG,ZB S.length 66 (xX al q) es (out++[(q:Int)])]
       refine aE _ _ (QI 66 (by omega) (by omega) ?_ ?_ ?_) (by simp [gY,l4,aB])
       ·simp [hset]
       ·simp [hio]
       ·intro k hk
        have e1:2000+k ≠ 901:=by omega
        have e2:2000+k ≠ 65:=by omega
        have e3:2000+k ≠ 66:=by omega
        have e4:2000+k ≠ 900:=by omega
        simp [bm k hk,e1,e2,e3,e4]
      ·intro j hj
       have c9:=YZ S.length (xX al q) (KU al es q j) (out++[(q:Int)])
       have c91:=ZA S.length (xX al q) (KU al es q j) (out++[(q:Int)])
       have cm:=aFA S.length (xX al q) (KU al es q j) (out++[(q:Int)])
       by_cases hjl:j<S.length
       ·have hwj:=aH (n:=(j:Int)+1) (by omega) (by omega)
        have hgj:∀ h,(bE (fun k=>[oU (xX al q) 2000 k]) S.length)[j]'h=[oU (xX al q) 2000 j]:=fun h=>by
         have:=bR (fun k=>[oU (xX al q) 2000 k]) S.length j
         rw [List.getElem?_eq_getElem h,if_pos hjl] at this
         exact Option.some.inj this
        cases hal:xX al q j
        ·have hgj2:∀ h,(bE (fun k=>[oU (xX al q) 2000 k]) S.length)[j]'h=[.d (.val (.map none))]:=fun h=>by rw [hgj,oU,hal]; rfl
         simp [hjl,c9,hgj2,vU]
         (repeat' first|contradiction|exact .ok|apply And.intro|intro _|(apply gc<;>simp+contextual))
         refine ⟨j+1,by omega,?_,by simp; omega⟩
         refine uZ ?_ _ (by simp [hwj])
         simp only [aCb hal]
        ·have hgj2:∀ h,(bE (fun k=>[oU (xX al q) 2000 k]) S.length)[j]'h=[.mref (2000+j)]:=fun h=>by rw [hgj,oU,hal]; rfl
         have cmj:=cm j hjl
         have he:KU al es q j j=es j:=by simp [KU]
         rw [he] at cmj
         simp [hjl,c9,hgj2,vU,cmj,YR]
         (repeat' first|contradiction|exact .ok|apply And.intro|intro _|(apply gc<;>simp+contextual))
         refine ⟨j+1,by omega,?_,by simp; omega⟩
         exact uZ (aCc hjl hal) _ (by simp [hwj])
       ·obtain rfl:j=S.length:=by omega
        simp
        (repeat' first|contradiction|exact .ok|apply And.intro|intro _|(apply gc<;>simp+contextual))
        refine ⟨⟨i+1,xX al q,VV al es q,out++[(q:Int)]⟩,⟨by simp; omega,by simp [hlo],hL,fun k hk=>aCd (hes k hk)⟩,?_,by simp; omega⟩
        simp only [← ZF al es q S.length (out++[(q:Int)]) (xX al q)]
        exact uZ rfl _ (by simp [hw])
    ·obtain rfl:i=S.length:=by omega
     rw [Nat.sub_self,show uL S.length 0 al es out=(out,0) from rfl] at hL
     rw [← hL]
     have ht:(aG out).take S.length=aG out:=List.take_of_length_le (by simp [hlo])
     simp [b91,hlo,ht]
     all_goals exact gz
end Go.Proofs.Tryz
