import Derived.Test.YtkkbepgccddjoaaGreatDoorDa1
import Derived.Test.YtkkbepgccddjoaaGreatDoorDa2
import Derived.Test.YtkkbepgccddjoaaGreatDoorDa3
import Derived.Test.YtkkbepgccddjoaaGreatDoorCSmR
import Derived.Test.YtkkbepgccddjoaaGreatDoorMvw
import Derived.Test.YtkkbepgccddjoaaGreatDoorCSmc
set_option linter.all false
namespace Go.Proofs.Tryz
open Go.Ab
set_option maxRecDepth 100000
set_option maxHeartbeats 8000000
structure JN (S:List Tb) (v:Vw) (l:List Nat):Prop where
 ch:dW S v=some l
 len:l.length≤3
 one:v.cond.length≤1
 few:∀ e∈v.cond,e.few 0=true∧∀ z∈e.cols,z<9223372036854775807
 n12:aU v.cond≤12
 ty:∀ e∈v.cond,tO ((cA S l).map Col.t) e=(2,0)
 ok:(dE S l v.cond (fun _=>[])).1=true
theorem SE {S:List Tb} (hl:S.length≤1000) (hS:∀ x∈S,x.ok) (hty:∀ x∈S,∀ u∈x.cols,u.t=1∨u.t=2∨u.t=3) {v:Vw} {l:List Nat} (h:JN S v l):Cf Es 93 [aN S,v.a] [] (.tup [.un,.d (.bool true)]) []:=by
 obtain ⟨hlt,hll⟩:=cK h.ch
 have h3:=h.len
 have hch:=h.ch
 have hok:=h.ok
 match l,hch,hll,h3,hok with
 | [],_,hll,_,_=>simp at hll
 | [k0],hch,hll,_,hok =>
   have:=aAP S hl hS hty v (by simp at hll; omega) k0 hch h.one h.few h.n12
   rwa [if_pos hok] at this
 | [k0,k1],hch,hll,_,hok =>
   have:=aAQ S hl hS hty v (by simp at hll; omega) k0 k1 hch h.one h.few h.n12
   rwa [if_pos hok] at this
 | [k0,k1,k2],hch,hll,_,hok =>
   have:=aAR S hl hS hty v (by simp at hll; omega) k0 k1 k2 hch h.one h.few h.n12
   rwa [if_pos hok] at this
 | _::_::_::_::_,_,_,h3,_=>simp at h3
theorem xL {S:List Tb} (hS:∀ x∈S,x.cols.length≤300):∀ {l:List Nat},(∀ k∈l,k<S.length)→(cA S l).length≤300*l.length
 | [],_=>by simp [cA]
 | k::r,h=>by
   have h1:=xL hS (l:=r) fun m hm=>h m (List.mem_cons_of_mem _ hm)
   have hk:=h k (List.mem_cons_self ..)
   have h2:(aR S k).cols.length≤300:=by unfold aR; rw [gE hk]; exact hS _ (List.getElem_mem hk)
   have e:cA S (k::r)=(aR S k).cols++cA S r:=rfl
   rw [e,List.length_append,List.length_cons]
   omega
theorem CP {S:List Tb} (hl:S.length≤1000) (hS:∀ x∈S,x.ok) (hc:∀ x∈S,x.cols.length≤300) (hty:∀ x∈S,∀ u∈x.cols,u.t=1∨u.t=2∨u.t=3) (hpl:Cf Es 59 [aN S] [] (.d (.bool true)) []) {v:Vw} {l:List Nat} (h:JN S v l) :
  Cf Es 52 [aN S,v.a] [] (.d (.int .i64 0)) []:=by
 obtain ⟨hlt,hll⟩:=cK h.ch
 have h3:=h.len
 have hat:=SE hl hS hty h
 have hta:=eG (fX S hl hS v (by omega))
 have hco:=eG (QA S hl hS v (by omega))
 have hfi:=eG (xT S hl v.tb)
 have hcv:WO S v=cA S l:=by unfold WO; rw [h.ch]
 rw [hcv] at hco
 rw [h.ch] at hta
 unfold lP at hta
 simp only at hta
 have h0:0≤mV S v.tb:=by
  have:=h.ch
  unfold dW at this
  split at this
  ·rename_i e; exact e
  ·cases this
 obtain ⟨k,hk⟩:∃ k:Nat,aV (fun x:Tb=>x.n==v.tb) S 0=k:=⟨(mV S v.tb).toNat,by unfold mV at *; omega⟩
 rw [cN hk] at hfi
 have hCl:=xL hc hlt
 have htyp:=fun e he=>WM (ts:=(cA S l).map Col.t) (by rw [List.length_map]; omega) (e:=e) (h.few e he).1
 have hty2:=h.ty
 have hone:=h.one
 generalize cA S l=C at *
 have p6:¬ (6:Int)≤v.path.length:=by omega
 have p6n:¬ 6≤v.path.length:=by omega
 have c1:¬ (1:Int)<v.cond.length:=by omega
 have c1n:¬ 1<v.cond.length:=by omega
 refine cI bM (fn:=Tryz.f52) rfl ?_
 simp [aN,Vw.a,Vw.c] at hta hat hco ⊢
 (repeat' first|contradiction|exact .ok|apply And.intro|intro _|(apply gc<;>simp+contextual))
 refine aA hpl (by simp [aN]) ?_
 simp
 (repeat' first|contradiction|exact .ok|apply And.intro|intro _|(apply gc<;>simp+contextual))
 refine aA hfi (by simp [aN]) ?_
 simp
 (repeat' first|contradiction|exact .ok|apply And.intro|intro _|(apply gc<;>simp+contextual))
 refine aP hta ?_
 simp [p6,c1]
 (repeat' first|contradiction|exact .ok|apply And.intro|intro _|(apply gc<;>simp+contextual[p6,p6n,c1,c1n]))
 match hcd:v.cond,hone with
 | [],_ =>
   simp
   all_goals exact gz
 | [e],_ =>
   have hte:=htyp e (by rw [hcd]; simp)
   rw [hty2 e (by rw [hcd]; simp)] at hte
   simp [hcd] at hat hco ⊢
   (repeat' first|contradiction|exact .ok|apply And.intro|intro _|(apply gc<;>simp+contextual))
   refine aP hco ?_
   simp
   (repeat' first|contradiction|exact .ok|apply And.intro|intro _|(apply gc<;>simp+contextual))
   refine aL bM (fun i:Nat=>{ s:=cE [(2,.ptr 2 0 0),(3,.ptr 3 0 0),(9,.ref 909 0 i 1),(52,.d (.sl (C.map Col.c))),(53,.d (.int .i64 C.length)),(54,.d (.int .i64 i))],b:=cC [(2,2,.var [.d (.sl (S.map Tb.c))]),(3,3,.var [.d (.str v.tb),.d (.sl (aD v.path)),.d (.sl [e.c])]),(909,909,.arr 3 1 (aD ((C.map Col.t).take i)) false)] }) (fun i=>i≤C.length) (fun i=>C.length - i) 0 (by simp)
    (fD 9 909 3 1 (by simp) (by simp) (by decide) (by decide) _ [(2,2,_),(3,3,_),(909,909,_)] ⟨by simp,by simp,by simp [aB,Blk.live,aD],by simp⟩ (by simp [aB])) ?_
   intro i hi
   by_cases hlti:i<C.length
   ·have hw:=wI (n:=(i:Int)+1)
    obtain ⟨u,hu⟩:∃ u,u=C[i]:=⟨_,rfl⟩
    have hgu:∀ h,C[i]'h=u:=fun _=>hu.symm
    have hsu:aD ((C.map Col.t).take (i+1))=aD ((C.map Col.t).take i)++[[.int .i64 u.t]]:=by
     rw [bI (by simpa using hlti)]
     simp [aD,hgu]
    have hZl:(aD ((C.map Col.t).take i)).length=i:=by simp [aD]; omega
    generalize aD ((C.map Col.t).take i)=Z at *
    have htk:Z.take i=Z:=List.take_of_length_le (by omega)
    simp [hlti,hgu,Col.c,hZl,gF (i+1) (by omega) 8 (by decide)]
    (repeat' first|contradiction|exact .ok|apply And.intro|intro _|(apply gc<;>simp+contextual))
    refine ⟨i+1,by omega,?_,by simp; omega⟩
    simp only [hsu]
    exact sM _ [(2,2,_),(3,3,_),(909,62,_)] (by simp [aB,Blk.live]) (by simp [aB,hw])
   obtain rfl:i=C.length:=by omega
   have hCt:(C.map Col.t).take C.length=C.map Col.t:=List.take_of_length_le (by simp)
   have htk:(aD (C.map Col.t)).take C.length=aD (C.map Col.t):=List.take_of_length_le (by simp [aD])
   have hZl:(aD (C.map Col.t)).length=C.length:=by simp [aD]
   have hel:=Ex.clen e
   have het:=Ex.ctake e
   rw [hCt]
   generalize aD (C.map Col.t)=Z at *
   simp [hel,het]
   (repeat' first|contradiction|exact .ok|apply And.intro|intro _|(apply gc<;>simp+contextual))
   refine aA hte (by simp [Ex.a,hZl,htk]) ?_
   simp [hZl,htk]
   (repeat' first|contradiction|exact .ok|apply And.intro|intro _|(apply gc<;>simp+contextual))
   refine aP hat ?_
   simp
   all_goals exact gz
def YQ (o:Int):Prop:=o=5∨o=21∨14≤o∧o≤19
theorem aHP {x:Tb} {a:At} (h:vJ x a):YQ a.op:=by
 unfold YQ
 rcases h.kind with ⟨e,_⟩ | ⟨_,e1,e2,_⟩ | ⟨_,e,_⟩ | ⟨_,e,_⟩ | ⟨_,e,_⟩ <;> omega
def At.mv (a:At) (d:Int):At:=⟨a.col+d,a.op,a.v⟩
theorem NV (v:V) (d:Int):(bT v 0).shift d=bT v 0:=by
 unfold bT
 split
 ·simp [Ex.shift,eJ]
 split
 ·simp [Ex.shift,eJ]
 split
 ·simp [Ex.shift,eJ]
 ·simp [Ex.shift,eJ]
theorem oQ {a:At} {d:Int} (h:-1000000000≤a.col+d∧a.col+d≤1000000000):a.ex.shift d=(a.mv d).ex:=by
 have hw:=wI (n:=a.col+d)
 unfold At.ex At.mv fH
 simp only
 split
 ·simp [Ex.shift,eJ,hw]
 split
 ·simp [Ex.shift,eJ,hw]
 ·rename_i h5 _
  simp [Ex.shift,eJ,hw,h5,NV]
theorem aDX {x:Tb} {a:At} (h:vJ x a):eH a.ex=a:=by
 obtain ⟨c,o,v⟩:=a
 have hv:=h.val
 have hc:∀ k:Int,v.k=k→k=1∨k=2∨k=3→vlE (bT v 0)=v:=fun k e hk=>by
  have hk':v.k=1∨v.k=2∨v.k=3:=by omega
  have he:=GD hv hk'
  unfold vlE
  rw [he,if_pos]
  unfold bT
  rcases hk' with e | e | e <;> simp [e,SU]
 rcases h.kind with ⟨e,w⟩ | ⟨_,e1,e2,w⟩ | ⟨_,e,w⟩ | ⟨_,e,w⟩ | ⟨_,e,w⟩ <;> simp only at *
 ·subst e w; simp [At.ex,eH,fH,OG]
 ·have n5:¬ o=5:=by omega
  have n21:¬ o=21:=by omega
  simp [At.ex,eH,fH,OG,n5,n21,hc 1 w (by omega)]
 ·subst e w; simp [At.ex,eH,fH]
 ·have n5:¬ o=5:=by omega
  have n21:¬ o=21:=by omega
  simp [At.ex,eH,fH,OG,n5,n21,hc 2 w (by omega)]
 ·have n5:¬ o=5:=by omega
  have n21:¬ o=21:=by omega
  simp [At.ex,eH,fH,OG,n5,n21,hc 3 w (by omega)]
theorem aGe {x:Tb} {a:At} (h:vJ x a):mM x a.ex=true:=by
 unfold mM
 rw [aDX h,MR h,Ex.eq_self]
 rfl
theorem aGf (c:Int):vL [c]=[c]:=by simp [vL]
theorem aJa:vL []=[]:=by simp [vL]
theorem aGg (c:Int):Go.Lib.compact [c]=[c]:=rfl
theorem aJb:Go.Lib.compact ([]:List Int)=[]:=rfl
theorem SL (v:V):(bT v 0).cols=[]:=by
 unfold bT
 repeat' split
 all_goals simp [Ex.cols,bH,aJa,aJb]
theorem vY (a:At):a.ex.cols=[a.col]:=by
 unfold At.ex fH
 split
 ·simp [Ex.cols,bH,aGf,aGg]
 split
 ·simp [Ex.cols,bH,aGf,aGg]
 ·rename_i h5 _
  simp [Ex.cols,bH,aGf,aGg,h5,SL]
theorem zX (S:List Tb):∀ (l:List Nat) (i z:Nat) (c:Int) (h:z<l.length),0≤c→c<(aR S l[z]).cols.length→iF S i l (c+cG S l z)=(((i+z:Nat):Int),c,true)
 | [],_,_,_,h,_,_=>absurd h (by simp)
 | k::r,i,0,c,h,h0,h1=>by
   have e:cG S (k::r) 0=0:=by simp [cG,cA]
   rw [iF,e]
   simp only [List.getElem_cons_zero] at h1
   have hc:c+((0:Nat):Int)=c:=by omega
   rw [hc,if_pos h1]
   simp [h0]
 | k::r,i,z+1,c,h,h0,h1=>by
   have e:cG S (k::r) (z+1)=(aR S k).cols.length+cG S r z:=by simp [cG,cA]
   have hz:z<r.length:=by simpa using h
   simp only [List.getElem_cons_succ] at h1
   have ih:=zX S r (i+1) z c hz h0 h1
   rw [iF,e,if_neg (by omega)]
   have e2:c+(((aR S k).cols.length+cG S r z:Nat):Int) - (aR S k).cols.length=c+cG S r z:=by omega
   rw [e2,ih]
   congr 2
   omega
theorem YR (S:List Tb) (l:List Nat) {a:At} (h:YQ a.op) (A:Nat→List At):bY S l a.ex A=nI S l a.ex A:=by
 unfold YQ at h
 have hs:∀ n,qR a.op n=false:=fun n=>by
  unfold qR
  have h1:¬ a.op=22:=by omega
  have h2:¬ a.op=23:=by omega
  have h3:¬ a.op=24:=by omega
  simp [h1,h2,h3]
 unfold At.ex
 split
 ·rename_i e
  rw [e] at hs
  unfold fH
  rw [bY,hs]; simp
 split
 ·rename_i e
  rw [e] at hs
  rw [bY,hs]; simp
 ·rw [bY,hs]; simp
theorem aDY (S:List Tb) (l:List Nat) (hS:(cA S l).length≤1000000) {z:Nat} (hz:z<l.length) {a:At} (h:vJ (aR S l[z]) a) (hoff:cG S l z≤1000000) (hcl:(aR S l[z]).cols.length≤1000000) (A:Nat→List At):(bY S l (a.ex.shift (cG S l z)) A).1=true:=by
 obtain ⟨c0,c1⟩:=h.col
 have hop:YQ (a.mv (cG S l z)).op:=show YQ a.op from aHP h
 rw [oQ (by omega),YR S l hop A]
 unfold nI qN
 rw [vY]
 have hm:(a.mv (cG S l z)).col=a.col+cG S l z:=rfl
 rw [hm]
 simp only
 rw [zX S l 0 z a.col hz c0 c1]
 have hb:(a.mv (cG S l z)).ex.shift (a.col - (a.col+cG S l z))=a.ex:=by
  rw [oQ (by rw [hm]; omega)]
  congr 1
  obtain ⟨c,o,v⟩:=a
  simp only [At.mv]
  congr 1
  omega
 simp only [if_true,Nat.zero_add,Int.toNat_natCast]
 rw [hb,gE hz,Option.getD_some,aGe h]
 rfl
theorem uC {ts:List Int} {o c n g:Int} {t:List UInt8} {ks:List Ex} (kts:List Int) (hk:∀ x∈ks,(iC ts x).2=0) (he:ks.map (fun z=>(iC ts z).1)=kts) (h1:(bR o&&hY o c n g t)=true) (h2:bN o kts.length=true) (h5:¬ o=5) (h4:fL (bQ o).2.2.1 kts=true):iC ts (.mk o c n t g ks)=(iW ts o c g kts,0):=by
 rw [sJ ts _ _ _ _ _ _ hk,pA,he]
 unfold qI dK
 rw [if_neg (by rw [h1]; simp),if_neg (by rw [h2]; simp),if_neg (fun e=>h5 e.1),if_neg h5,if_pos h4]
theorem aGk {ts:List Int} {g:Int} (h0:0≤g) (h1:g<ts.length) (ht:1≤(ts[g.toNat]?).getD 0∧(ts[g.toNat]?).getD 0≤3):iC ts (fH g)=((ts[g.toNat]?).getD 0,0):=by
 unfold fH
 rw [sJ ts _ _ _ _ _ _ (fun x hx=>by simp at hx),pA]
 unfold qI dK
 rw [if_neg (by simp [bR,hY,cT]),if_neg (by simp [bN,bR,bQ,ops]),if_neg (by simp; omega),if_pos rfl,if_pos ht]
theorem DD {ts:List Int} {v:V} (h:v.valid=true) (hk:v.k=1∨v.k=2∨v.k=3):iC ts (bT v 0)=(v.k,0):=by
 obtain ⟨k,n,t⟩:=v
 simp only at hk
 rcases hk with e | e | e <;> subst e
 ·obtain rfl:t=[]:=by unfold V.valid at h; simp at h; simpa using h.2.2
  have e:bT ⟨1,n,[]⟩ 0=.mk 2 0 n [] 0 []:=by simp [bT]
  rw [e,uC [] (fun x hx=>by simp at hx) rfl (by simp [bR,hY,cT,h]) (by simp [bN,bR,bQ,ops]) (by simp) (by simp [fL,bQ,ops])]
  simp [iW,bQ,ops]
 ·obtain rfl:t=[]:=by unfold V.valid at h; simp at h; simpa using h.2
  have e:bT ⟨2,n,[]⟩ 0=.mk 3 0 n [] 0 []:=by simp [bT]
  rw [e,uC [] (fun x hx=>by simp at hx) rfl (by simp [bR,hY,cT,h]) (by simp [bN,bR,bQ,ops]) (by simp) (by simp [fL,bQ,ops])]
  simp [iW,bQ,ops]
 ·obtain rfl:n=0:=by unfold V.valid at h; simp at h; simpa using h.1
  have e:bT ⟨3,0,t⟩ 0=.mk 4 0 0 t 0 []:=by simp [bT]
  rw [e,uC [] (fun x hx=>by simp at hx) rfl (by simp [bR,hY,cT,h]) (by simp [bN,bR,bQ,ops]) (by simp) (by simp [fL,bQ,ops])]
  simp [iW,bQ,ops]
theorem SN {ts:List Int} {o u:Int} {x y:Ex} (ho:14≤o∧o≤19) (hx:iC ts x=(u,0)) (hy:iC ts y=(u,0)):iC ts (.mk o 0 0 [] 0 [x,y])=(2,0):=by
 rw [uC [u,u] (fun z hz=>by simp at hz; rcases hz with rfl | rfl <;> simp [hx,hy]) (by simp [hx,hy]) ?_ ?_ (by omega) ?_]
 ·rcases (by omega:o=14∨o=15∨o=16∨o=17∨o=18∨o=19) with rfl | rfl | rfl | rfl | rfl | rfl <;> simp [iW,bQ,ops]
 ·rcases (by omega:o=14∨o=15∨o=16∨o=17∨o=18∨o=19) with rfl | rfl | rfl | rfl | rfl | rfl <;> simp [bR,hY,cT]
 ·rcases (by omega:o=14∨o=15∨o=16∨o=17∨o=18∨o=19) with rfl | rfl | rfl | rfl | rfl | rfl <;> simp [bN,bR,bQ,ops]
 ·rcases (by omega:o=14∨o=15∨o=16∨o=17∨o=18∨o=19) with rfl | rfl | rfl | rfl | rfl | rfl <;> simp [fL,bQ,ops]
theorem aEb {ts:List Int} {u:Int} {x:Ex} (hx:iC ts x=(u,0)):iC ts (.mk 21 0 0 [] 0 [x])=(2,0):=by
 rw [uC [u] (fun z hz=>by rw [List.mem_singleton] at hz; rw [hz,hx]) (by simp [hx]) (by simp [bR,hY,cT]) (by simp [bN,bR,bQ,ops]) (by simp) (by simp [fL,bQ,ops])]
 simp [iW,bQ,ops]
theorem aGl {ts:List Int} {x:Ex} (hx:iC ts x=(2,0)):iC ts (.mk 24 0 0 [] 0 [x])=(2,0):=by
 rw [uC [2] (fun z hz=>by rw [List.mem_singleton] at hz; rw [hz,hx]) (by simp [hx]) (by simp [bR,hY,cT]) (by simp [bN,bR,bQ,ops]) (by simp) (by simp [fL,bQ,ops])]
 simp [iW,bQ,ops]
theorem aGm {ts:List Int} {o:Int} {x y:Ex} (ho:o=22∨o=23) (hx:iC ts x=(2,0)) (hy:iC ts y=(2,0)):iC ts (.mk o 0 0 [] 0 [x,y])=(2,0):=by
 rw [uC [2,2] (fun z hz=>by simp at hz; rcases hz with rfl | rfl <;> simp [hx,hy]) (by simp [hx,hy]) ?_ ?_ (by omega) ?_]
 ·rcases ho with rfl | rfl <;> simp [iW,bQ,ops]
 ·rcases ho with rfl | rfl <;> simp [bR,hY,cT]
 ·rcases ho with rfl | rfl <;> simp [bN,bR,bQ,ops]
 ·rcases ho with rfl | rfl <;> simp [fL,bQ,ops]
theorem aFp {ts:List Int} {x:Tb} {a:At} (h:vJ x a) (hty:∀ c∈x.cols,c.t=1∨c.t=2∨c.t=3) {d:Int} (h0:0≤a.col+d) (h1:a.col+d<ts.length) (ht:(ts[(a.col+d).toNat]?).getD 0=dO x a.col):iC ts (a.mv d).ex=(2,0):=by
 have htt:1≤dO x a.col∧dO x a.col≤3:=by
  obtain ⟨c0,c1⟩:=h.col
  have hlt:a.col.toNat<x.cols.length:=by omega
  have:=hty _ (List.getElem_mem hlt)
  unfold dO
  rw [gE hlt]
  simp only [Option.map_some,Option.getD_some]
  omega
 have hc:iC ts (fH (a.col+d))=(dO x a.col,0):=by
  rw [aGk h0 h1 (by rw [ht]; exact htt),ht]
 have hv:=h.val
 obtain ⟨c,o,v⟩:=a
 simp only at *
 rcases h.kind with ⟨e,w⟩ | ⟨u,e1,e2,w⟩ | ⟨u,e,w⟩ | ⟨u,e,w⟩ | ⟨u,e,w⟩ <;> simp only at *
 ·subst e
  have:(At.mv ⟨c,21,v⟩ d).ex=.mk 21 0 0 [] 0 [fH (c+d)]:=by simp [At.ex,At.mv]
  rw [this]; exact aEb hc
 ·have n5:¬ o=5:=by omega
  have n21:¬ o=21:=by omega
  have:(At.mv ⟨c,o,v⟩ d).ex=.mk o 0 0 [] 0 [fH (c+d),bT v 0]:=by simp [At.ex,At.mv,n5,n21]
  rw [this]; exact SN (by omega) hc (by rw [DD hv (by omega),w,u])
 ·subst e
  have:(At.mv ⟨c,5,v⟩ d).ex=fH (c+d):=by simp [At.ex,At.mv]
  rw [this,hc,u]
 ·have n5:¬ o=5:=by omega
  have n21:¬ o=21:=by omega
  have:(At.mv ⟨c,o,v⟩ d).ex=.mk o 0 0 [] 0 [fH (c+d),bT v 0]:=by simp [At.ex,At.mv,n5,n21]
  rw [this]; exact SN (by omega) hc (by rw [DD hv (by omega),w,u])
 ·have n5:¬ o=5:=by omega
  have n21:¬ o=21:=by omega
  have:(At.mv ⟨c,o,v⟩ d).ex=.mk o 0 0 [] 0 [fH (c+d),bT v 0]:=by simp [At.ex,At.mv,n5,n21]
  rw [this]; exact SN (by omega) hc (by rw [DD hv (by omega),w,u])
theorem aDZ (S:List Tb) {l:List Nat} {z c:Nat} (hz:z<l.length) (hc:c<(aR S l[z]).cols.length):cG S l z+c<(cA S l).length∧(cA S l)[cG S l z+c]?=(aR S l[z]).cols[c]?:=by
 have e:cA S l=cA S (l.take z)++((aR S l[z]).cols++cA S (l.drop (z+1))):=by
  have h:=List.take_append_drop z l
  rw [List.drop_eq_getElem_cons hz] at h
  have e2:cA S (l[z]::l.drop (z+1))=(aR S l[z]).cols++cA S (l.drop (z+1)):=rfl
  have e3:cA S (l.take z++l[z]::l.drop (z+1))=cA S (l.take z)++cA S (l[z]::l.drop (z+1)):=by unfold cA; rw [List.flatMap_append]
  rw [← e2,← e3,h]
 have eo:cG S l z=(cA S (l.take z)).length:=rfl
 rw [e,eo]
 refine ⟨by rw [List.length_append,List.length_append]; omega,?_⟩
 rw [List.getElem?_append_right (by omega),Nat.add_sub_cancel_left,List.getElem?_append_left hc]
structure CdOk (S:List Tb) (l:List Nat) (e:Ex) (n d:Nat):Prop where
 walk:∀ A,(bY S l e A).1=true
 nodes:e.nodes≤n
 few:∀ q,q+d≤50→e.few q=true
 ty:iC ((cA S l).map Col.t) e=(2,0)
 size:1≤e.size∧e.size≤n
 dep:e.dep≤d
 has:∀ z,e.has z→z<9223372036854775807
theorem aBr (c:Int):(fH c).size=1∧(fH c).dep=1∧(fH c).nodes=1:=by
 unfold fH
 refine ⟨by rw [Ex.size,dS],by rw [Ex.dep,eO],by rw [Ex.nodes,aU]⟩
theorem SM (v:V):(bT v 0).size=1∧(bT v 0).dep=1∧(bT v 0).nodes=1:=by
 unfold bT
 repeat' split
 all_goals exact ⟨by rw [Ex.size,dS],by rw [Ex.dep,eO],by rw [Ex.nodes,aU]⟩
theorem NW (a:At):a.ex.nodes≤3∧1≤a.ex.size∧a.ex.size≤3∧a.ex.dep≤2:=by
 obtain ⟨s1,d1,n1⟩:=aBr a.col
 obtain ⟨s2,d2,n2⟩:=SM a.v
 have w2:=wI (n:=(1:Int)+1)
 have w3:=wI (n:=(1:Int)+1+1)
 unfold At.ex
 split
 ·omega
 split
 ·rw [Ex.nodes,aU,aU,Ex.size,dS,dS,Ex.dep,eO,eO,s1,d1,n1,w2]
  simp
 ·rw [Ex.nodes,aU,aU,aU,Ex.size,dS,dS,dS,Ex.dep,eO,eO,eO,s1,d1,n1,s2,d2,n2,w2,w3]
  simp
theorem aHQ (S:List Tb) (l:List Nat) (hS:(cA S l).length≤1000000) {z:Nat} (hz:z<l.length) (hm:qE (aR S l[z])) {a:At} (h:vJ (aR S l[z]) a) (hoff:cG S l z≤1000000):CdOk S l (a.ex.shift (cG S l z)) 3 2:=by
 obtain ⟨c0,c1⟩:=h.col
 have hcl:=hm.ok.cols
 have hsh:=oQ (a:=a) (d:=cG S l z) (by omega)
 obtain ⟨p1,p2,p3,p4⟩:=NW (a.mv (cG S l z))
 obtain ⟨q1,q2⟩:=aDZ S (c:=a.col.toNat) hz (by omega)
 have hi:(a.col+cG S l z).toNat=cG S l z+a.col.toNat:=by omega
 have hw:=aDY S l hS hz h hoff (by omega)
 rw [hsh] at hw ⊢
 refine ⟨hw,p1,fun q hq=>RZ (by have:=h.len; have e:(a.mv (cG S l z)).v=a.v:=rfl; rw [e]; omega) q (by omega),?_,⟨p2,p3⟩,p4,fun y hy=>?_⟩
 ·refine aFp h hm.ty (by omega) (by rw [List.length_map]; omega) ?_
  rw [hi,List.getElem?_map,q2]
  rfl
 ·rw [← mF,vY,List.mem_singleton] at hy
  rw [hy]
  show a.col+cG S l z<_
  omega
theorem aGh {S:List Tb} {l:List Nat} {e:Ex} {n d:Nat} (h:CdOk S l e n d) (hn:n≤100) (hd:d≤20):CdOk S l (.mk 24 0 0 [] 0 [e]) (n+1) (d+1):=by
 obtain ⟨s1,s2⟩:=h.size
 have hw:=wI (n:=1+e.size)
 refine ⟨fun A=>?_,?_,fun q hq=>?_,aGl h.ty,?_,?_,fun z hz=>?_⟩
 ·rw [bY,if_pos (by simp [qR]),if_pos (by simp),dE,if_pos (h.walk A),dE]
 ·have:=h.nodes; rw [Ex.nodes,aU,aU]; omega
 ·rw [Ex.few,if_neg (by omega),if_neg (by simp),if_neg (by simp)]
  simp [gN,h.few (q+1) (by omega)]
 ·rw [Ex.size,dS,dS,hw]; omega
 ·have:=h.dep; rw [Ex.dep,eO,eO]; omega
 ·rw [Ex.has] at hz
  rcases hz with hz | hz
  ·exact absurd hz.1 (by simp)
  ·rw [eN] at hz
   rcases hz with hz | hz
   ·exact h.has z hz
   ·exact absurd hz (by simp [eN])
theorem aGi {S:List Tb} {l:List Nat} {o:Int} {e f:Ex} {n m d:Nat} (ho:o=22∨o=23) (h:CdOk S l e n d) (k:CdOk S l f m d) (hn:n≤100) (hm:m≤100) (hd:d≤20):CdOk S l (.mk o 0 0 [] 0 [e,f]) (n+m+1) (d+1):=by
 obtain ⟨s1,s2⟩:=h.size
 obtain ⟨r1,r2⟩:=k.size
 have hw:=wI (n:=1+e.size)
 have hw2:=wI (n:=1+e.size+f.size)
 refine ⟨fun A=>?_,?_,fun q hq=>?_,aGm ho h.ty k.ty,?_,?_,fun z hz=>?_⟩
 ·rw [bY,if_pos (by rcases ho with rfl | rfl <;> simp [qR]),if_pos (by simp),dE,if_pos (h.walk A),dE,if_pos (k.walk _),dE]
 ·have:=h.nodes; have:=k.nodes; rw [Ex.nodes,aU,aU,aU]; omega
 ·rw [Ex.few,if_neg (by omega),if_neg (by simp),if_neg (by simp)]
  simp [gN,h.few (q+1) (by omega),k.few (q+1) (by omega)]
 ·rw [Ex.size,dS,dS,dS,hw,hw2]; omega
 ·have:=h.dep; have:=k.dep; rw [Ex.dep,eO,eO,eO]; omega
 ·rw [Ex.has] at hz
  rcases hz with hz | hz
  ·exact absurd hz.1 (by rcases ho with rfl | rfl <;> simp)
  ·rw [eN,eN] at hz
   rcases hz with hz | hz | hz
   ·exact h.has z hz
   ·exact k.has z hz
   ·exact absurd hz (by simp [eN])
theorem aEc (L:List Int) {S:List Tb} (hS:∀ x∈S,qE x) {l:List Nat} (hl:∀ k∈l,k<S.length) (h0:0<l.length) (h3:l.length≤100) (i:Nat):∃ n,n≤4∧CdOk S l (dV L S l i).1 n 3∨n≤4∧CdOk S l (dV L S l i).1 n 2:=by
 have hcols:∀ x∈S,x.cols.length≤1000:=fun x hx=>(hS x hx).ok.cols
 have hcl:∀ m:List Nat,(∀ k∈m,k<S.length)→(cA S m).length≤1000*m.length:=by
  intro m
  induction m with
  | nil=>intro _; simp [cA]
  | cons k r ih =>
    intro hm
    have h1:=ih fun j hj=>hm j (List.mem_cons_of_mem _ hj)
    have hk:=hm k (List.mem_cons_self ..)
    have h2:(aR S k).cols.length≤1000:=by unfold aR; rw [gE hk]; exact hcols _ (List.getElem_mem hk)
    have e:cA S (k::r)=(aR S k).cols++cA S r:=rfl
    rw [e,List.length_append,List.length_cons]
    omega
 have hnx:=bB L i (n:=l.length) (by omega)
 obtain ⟨z,hz⟩:∃ z,z=(aS L i l.length).toNat:=⟨_,rfl⟩
 have hzl:z<l.length:=by omega
 have hk:=hl l[z] (List.getElem_mem hzl)
 have hm:qE (aR S l[z]):=by unfold aR; rw [gE hk]; exact hS _ (List.getElem_mem hk)
 have hat:=vK L hm (i+1)
 have hof:cG S l z≤1000000:=by
  have:=hcl (l.take z) fun k hk=>hl k (List.mem_of_mem_take hk)
  rw [List.length_take] at this
  unfold cG
  omega
 have hc:=aHQ S l (by have:=hcl l hl; omega) hzl hm hat hof
 unfold dV
 simp only
 rw [← hz,gE hzl,Option.getD_some]
 split
 ·exact ⟨4,.inl ⟨by omega,aGh hc (by omega) (by omega)⟩⟩
 ·exact ⟨3,.inr ⟨by omega,hc⟩⟩
theorem CdOk.up {S:List Tb} {l:List Nat} {e:Ex} {n d n' d':Nat} (h:CdOk S l e n d) (hn:n≤n') (hd:d≤d'):CdOk S l e n' d' :=
 ⟨h.walk,by have:=h.nodes; omega,fun q hq=>h.few q (by omega),h.ty,⟨h.size.1,by have:=h.size.2; omega⟩,by have:=h.dep; omega,h.has⟩
theorem aBs (L:List Int) {S:List Tb} (hS:∀ x∈S,qE x) {l:List Nat} (hl:∀ k∈l,k<S.length) (h0:0<l.length) (h3:l.length≤100) (i:Nat):CdOk S l (dV L S l i).1 4 3:=by
 obtain ⟨n,⟨h1,h2⟩ | ⟨h1,h2⟩⟩:=aEc L hS hl h0 h3 i
 ·exact h2.up h1 (by omega)
 ·exact h2.up h1 (by omega)
theorem KA (L:List Int) (a:Nat) {S:List Tb} (hS3:S.length≤3) (h0:0<S.length) (hS:∀ x∈S,qE x) (hd:NJ S) (hnm:∀ k,k<S.length→mV S (FD S k)=k):∃ l,JN S (rU L S a).1 l:=by
 have hnx:=bB L a (n:=S.length) (by omega)
 unfold rU
 simp only
 obtain ⟨k0,hk0⟩:∃ k0,k0=(aS L a S.length).toNat:=⟨_,rfl⟩
 rw [← hk0]
 have hk:k0<S.length:=by omega
 obtain ⟨⟨lc,hlc⟩,hpl,hpi⟩:=pX L hd S.length k0 (a+1) hk hk
 obtain ⟨P,i1,hP⟩:∃ P i1,nM L S S.length k0 (a+1)=(P,i1):=⟨_,_,rfl⟩
 rw [hP] at hlc hpl hpi ⊢
 simp only at hlc hpl hpi ⊢
 have hch:∀ K,dW S ⟨FD S k0,P,K⟩=some (k0::lc):=fun K=>by
  unfold dW
  have h1:(0:Int)≤mV S (FD S k0):=by rw [hnm k0 hk]; omega
  simp only
  rw [if_pos h1,hnm k0 hk,Int.toNat_natCast,hlc]
  rfl
 rw [hch,Option.getD_some]
 obtain ⟨hlt,hll⟩:=cK (hch [])
 simp only at hll
 have v3:=bB L i1 (n:=3) (by omega)
 have hcn2:NY L P i1≤2:=by unfold NY; split <;> omega
 have hq:=aBs L hS hlt (by omega) (by omega)
 have hC:∀ n,0<n→n≤2→CdOk S (k0::lc) (mK L S (k0::lc) (i1+1) n).1 9 4:=fun n h1 h2=>by
  rcases (by omega:n=1∨n=2) with rfl | rfl
  ·rw [mK]; exact (hq _).up (by omega) (by omega)
  ·have v2:=bB L (dV L S (k0::lc) (dV L S (k0::lc) (i1+1)).2).2 (n:=2) (by omega)
   have hC2:mK L S (k0::lc) (i1+1) 2=(.mk (22+aS L (dV L S (k0::lc) (dV L S (k0::lc) (i1+1)).2).2 2) 0 0 [] 0 [(dV L S (k0::lc) (i1+1)).1,(dV L S (k0::lc) (dV L S (k0::lc) (i1+1)).2).1],(dV L S (k0::lc) (dV L S (k0::lc) (i1+1)).2).2+1):=rfl
   rw [hC2]
   generalize aS L (dV L S (k0::lc) (dV L S (k0::lc) (i1+1)).2).2 2=w at *
   exact (aGi (o:=22+w) (by omega) (hq (i1+1)) (hq _) (by omega) (by omega) (by omega)).up (by omega) (by omega)
 refine ⟨k0::lc,hch _,by omega,?_,?_,?_,?_,?_⟩
 ·simp only; split <;> simp
 ·simp only
  split
  ·rename_i h
   intro e he
   rw [List.mem_singleton] at he
   have:=hC _ h hcn2
   rw [← he] at this
   exact ⟨this.few 0 (by omega),fun z hz=>this.has z ((mF e z).1 hz)⟩
  ·intro e he; simp at he
 ·simp only
  split
  ·rename_i h
   have:=(hC _ h hcn2).nodes
   rw [aU,aU]; omega
  ·rw [aU]; omega
 ·simp only
  split
  ·rename_i h
   intro e he
   rw [List.mem_singleton] at he
   have:=hC _ h hcn2
   rw [← he] at this
   unfold tO
   rw [if_neg (by have:=this.size; omega),if_neg (by have:=this.dep; omega),this.ty]
  ·intro e he; simp at he
 ·simp only
  split
  ·rename_i h
   rw [dE,if_pos ((hC _ h hcn2).walk _),dE]
  ·rw [dE]
end Go.Proofs.Tryz
