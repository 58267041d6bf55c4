import Derived.Test.YthbnleoonldffaaGreatDoorDa1
import Derived.Test.YthbnleoonldffaaGreatDoorDa2
import Derived.Test.YthbnleoonldffaaGreatDoorDa3
import Derived.Test.YthbnleoonldffaaGreatDoorTye
import Derived.Test.YthbnleoonldffaaGreatDoorMvw
import Derived.Test.YthbnleoonldffaaGreatDoorQRwc
import Derived.Test.YthbnleoonldffaaGreatDoorQVwp
import Derived.Test.YthbnleoonldffaaGreatDoorQSmR
set_option linter.all false
namespace Go.Proofs.Tryz
open Go.Ab
set_option maxRecDepth 100000
set_option maxHeartbeats 8000000
structure OF (S:List Tb) (v:Vw) (l:List Nat):Prop where
 ch:dY S v=some l
 len:l.length≤3
 one:v.cond.length≤1
 few:∀ e∈v.cond,e.few 0=true∧∀ z∈e.cols,z<9223372036854775807
 n12:aT v.cond≤12
 ty:∀ e∈v.cond,mP ((bU S l).map Col.t) e=(2,0)
 ok:(cY S l v.cond (fun _=>[])).1=true
theorem OG {S:List Tb} (hl:S.length≤1000) (hS:∀ x∈S,x.ok) (hty:∀ x∈S,∀ u∈x.cols,u.t=1∨u.t=2∨u.t=3) {v:Vw} {l:List Nat} (h:OF S v l):Cf Es 121 [aR S,v.a] [] (.tup [.un,.d (.bool true)]) []:=by
 obtain ⟨hlt,hll⟩:=dI h.ch
 have h3:=h.len
 have hch:=h.ch
 have hok:=h.ok
 match l,hch,hll,h3,hok with
 | [],_,hll,_,_=>simp at hll
 | [k0],hch,hll,_,hok =>
   have:=XH S hl hS hty v (by simp at hll; omega) k0 hch h.one h.few h.n12
   rwa [if_pos hok] at this
 | [k0,k1],hch,hll,_,hok =>
   have:=XI S hl hS hty v (by simp at hll; omega) k0 k1 hch h.one h.few h.n12
   rwa [if_pos hok] at this
 | [k0,k1,k2],hch,hll,_,hok =>
   have:=XJ S hl hS hty v (by simp at hll; omega) k0 k1 k2 hch h.one h.few h.n12
   rwa [if_pos hok] at this
 | _::_::_::_::_,_,_,h3,_=>simp at h3
theorem vM {S:List Tb} (hS:∀ x∈S,x.cols.length≤300):∀ {l:List Nat},(∀ k∈l,k<S.length)→(bU S l).length≤300*l.length
 | [],_=>by simp [bU]
 | k::r,h=>by
   have h1:=vM hS (l:=r) fun m hm=>h m (List.mem_cons_of_mem _ hm)
   have hk:=h k (List.mem_cons_self ..)
   have h2:(aV S k).cols.length≤300:=by unfold aV; rw [List.getElem?_eq_getElem hk]; exact hS _ (List.getElem_mem hk)
   have e:bU S (k::r)=(aV S k).cols++bU S r:=rfl
   rw [e,List.length_append,List.length_cons]
   omega
theorem OH {S:List Tb} (hl:S.length≤1000) (hS:∀ x∈S,x.ok) (hc:∀ x∈S,x.cols.length≤300) (hty:∀ x∈S,∀ u∈x.cols,u.t=1∨u.t=2∨u.t=3) (hpl:Cf Es 118 [aR S] [] (.d (.bool true)) []) {v:Vw} {l:List Nat} (h:OF S v l) :
  Cf Es 56 [aR S,v.a] [] (.d (.int .i64 0)) []:=by
 obtain ⟨hlt,hll⟩:=dI h.ch
 have h3:=h.len
 have hat:=OG hl hS hty h
 have hta:=gL (gW S hl hS v (by omega))
 have hco:=gL (MA S hl hS v (by omega))
 have hfi:=gL (wA S hl v.tb)
 have hcv:SE S v=bU S l:=by unfold SE; rw [h.ch]
 rw [hcv] at hco
 rw [h.ch] at hta
 unfold mZ at hta
 simp only at hta
 have h0:0≤lW S v.tb:=by
  have:=h.ch
  unfold dY at this
  split at this
  ·rename_i e; exact e
  ·cases this
 obtain ⟨k,hk⟩:∃ k:Nat,aY (fun x:Tb=>x.n==v.tb) S 0=k:=⟨(lW S v.tb).toNat,by unfold lW at *; omega⟩
 rw [cW hk] at hfi
 have hCl:=vM hc hlt
 have htyp:=fun e he=>SD (ts:=(bU S l).map Col.t) (by rw [List.length_map]; omega) (e:=e) (h.few e he).1
 have hty2:=h.ty
 have hone:=h.one
 generalize bU S l=C at *
 have p6:¬ (6:Int)≤v.path.length:=by omega
 have p6n:¬ 6≤v.path.length:=by omega
 have c1:¬ (1:Int)<v.cond.length:=by omega
 have c1n:¬ 1<v.cond.length:=by omega
 refine aD cF (fn:=Tryz.f56) (by kernel_rfl) rfl (by kernel_rfl) (by decide) (by simp) ?_
 simp [aR,Vw.a,Vw.c] at hta hat hco ⊢
 (repeat' first|contradiction|exact .ok|apply And.intro|intro _|(apply gc<;>simp+contextual))
 refine aA hpl (by simp [aR]) ?_
 simp
 (repeat' first|contradiction|exact .ok|apply And.intro|intro _|(apply gc<;>simp+contextual))
 refine aA hfi (by simp [aR]) ?_
 simp
 (repeat' first|contradiction|exact .ok|apply And.intro|intro _|(apply gc<;>simp+contextual))
 refine aA hta (by simp) ?_
 simp [p6,p6n,c1,c1n]
 (repeat' first|contradiction|exact .ok|apply And.intro|intro _|(apply gc<;>simp+contextual[p6,p6n,c1,c1n]))
 match hcd:v.cond,hone with
 | [],_ =>
   simp
   all_goals exact gz
 | [e],_ =>
   have hte:=htyp e (by rw [hcd]; simp)
   rw [hty2 e (by rw [hcd]; simp)] at hte
   simp [hcd] at hat hco ⊢
   (repeat' first|contradiction|exact .ok|apply And.intro|intro _|(apply gc<;>simp+contextual))
   refine aA hco (by simp) ?_
   simp
   (repeat' first|contradiction|exact .ok|apply And.intro|intro _|(apply gc<;>simp+contextual))
   refine aL cF (by decide) (fun i:Nat=>{ s:=cG [(2,.ptr 2 0 0),(3,.ptr 3 0 0),(9,.ref 909 0 i 1),(52,.d (.sl (C.map Col.c))),(53,.d (.int .i64 C.length)),(54,.d (.int .i64 i))],b:=cE [(2,2,.var [.d (.sl (S.map Tb.c))]),(3,3,.var [.d (.str v.tb),.d (.sl (aG v.path)),.d (.sl [e.c])]),(909,909,.arr 3 1 (aG ((C.map Col.t).take i)) false)] }) (fun i=>i≤C.length) (fun i=>C.length - i) 0 (by simp)
    (dW 9 909 3 1 (by simp) (by simp) (by decide) (by decide) _ [(2,2,_),(3,3,_),(909,909,_)] ⟨by simp,by simp,by simp [aB,Blk.live,aG],by simp⟩ (by simp [aB])) ?_
   intro i hi
   by_cases hlti:i<C.length
   ·have hw:=aH (n:=(i:Int)+1) (by omega) (by omega)
    obtain ⟨u,hu⟩:∃ u,u=C[i]:=⟨_,rfl⟩
    have hgu:∀ h,C[i]'h=u:=fun _=>hu.symm
    have hsu:aG ((C.map Col.t).take (i+1))=aG ((C.map Col.t).take i)++[[.int .i64 u.t]]:=by
     rw [bV (by simpa using hlti)]
     simp [aG,hgu]
    have hZl:(aG ((C.map Col.t).take i)).length=i:=by simp [aG]; omega
    generalize aG ((C.map Col.t).take i)=Z at *
    have htk:Z.take i=Z:=List.take_of_length_le (by omega)
    simp [hlti,hgu,Col.c,hZl,htk,eI i (by omega) 8 (by decide),eI (i+1) (by omega) 8 (by decide)]
    (repeat' first|contradiction|exact .ok|apply And.intro|intro _|(apply gc<;>simp+contextual))
    refine ⟨i+1,by omega,?_,by simp; omega⟩
    simp only [hsu]
    exact aE _ [(2,2,_),(3,3,_),(909,62,_)] ⟨by simp,by simp,by simp [aB,Blk.live],by simp⟩ (by simp [aB,hw])
   obtain rfl:i=C.length:=by omega
   have hCt:(C.map Col.t).take C.length=C.map Col.t:=List.take_of_length_le (by simp)
   have htk:(aG (C.map Col.t)).take C.length=aG (C.map Col.t):=List.take_of_length_le (by simp [aG])
   have hZl:(aG (C.map Col.t)).length=C.length:=by simp [aG]
   have hel:=Ex.clen e
   have het:=Ex.ctake e
   rw [hCt]
   generalize aG (C.map Col.t)=Z at *
   simp [hel,het]
   (repeat' first|contradiction|exact .ok|apply And.intro|intro _|(apply gc<;>simp+contextual))
   refine aA hte (by simp [Ex.a,hZl,htk]) ?_
   simp [hZl,htk]
   (repeat' first|contradiction|exact .ok|apply And.intro|intro _|(apply gc<;>simp+contextual))
   refine aA hat (by simp) ?_
   simp
   all_goals exact gz
def UG (o:Int):Prop:=o=5∨o=21∨14≤o∧o≤19
theorem aFr {x:Tb} {a:At} (h:tS x a):UG a.op:=by
 unfold UG
 rcases h.kind with ⟨e,_⟩ | ⟨_,e1,e2,_⟩ | ⟨_,e,_⟩ | ⟨_,e,_⟩ | ⟨_,e,_⟩ <;> omega
def At.mv (a:At) (d:Int):At:=⟨a.col+d,a.op,a.v⟩
theorem KJ (v:V) (d:Int):(bO v 0).shift d=bO v 0:=by
 unfold bO
 split
 ·simp [Ex.shift,eE]
 split
 ·simp [Ex.shift,eE]
 split
 ·simp [Ex.shift,eE]
 ·simp [Ex.shift,eE]
theorem nN {a:At} {d:Int} (h:-1000000000≤a.col+d∧a.col+d≤1000000000):a.ex.shift d=(a.mv d).ex:=by
 have hw:=aH (n:=a.col+d) (by omega) (by omega)
 unfold At.ex At.mv eA
 simp only
 split
 ·simp [Ex.shift,eE,hw]
 split
 ·simp [Ex.shift,eE,hw]
 ·rename_i h5 _
  simp [Ex.shift,eE,hw,h5,KJ]
theorem aBQ {x:Tb} {a:At} (h:tS x a):eC a.ex=a:=by
 obtain ⟨c,o,v⟩:=a
 have hv:=h.val
 have hc:∀ k:Int,v.k=k→k=1∨k=2∨k=3→vlE (bO v 0)=v:=fun k e hk=>by
  have hk':v.k=1∨v.k=2∨v.k=3:=by omega
  have he:=DJ hv hk'
  unfold vlE
  rw [he,if_pos]
  unfold bO
  rcases hk' with e | e | e <;> simp [e,MC]
 rcases h.kind with ⟨e,w⟩ | ⟨_,e1,e2,w⟩ | ⟨_,e,w⟩ | ⟨_,e,w⟩ | ⟨_,e,w⟩ <;> simp only at *
 ·subst e w; simp [At.ex,eC,eA,KW]
 ·have n5:¬ o=5:=by omega
  have n21:¬ o=21:=by omega
  simp [At.ex,eC,eA,KW,n5,n21,hc 1 w (by omega)]
 ·subst e w; simp [At.ex,eC,eA]
 ·have n5:¬ o=5:=by omega
  have n21:¬ o=21:=by omega
  simp [At.ex,eC,eA,KW,n5,n21,hc 2 w (by omega)]
 ·have n5:¬ o=5:=by omega
  have n21:¬ o=21:=by omega
  simp [At.ex,eC,eA,KW,n5,n21,hc 3 w (by omega)]
theorem aDI {x:Tb} {a:At} (h:tS x a):lN x a.ex=true:=by
 unfold lN
 rw [aBQ h,JI h,Ex.eq_self]
 rfl
theorem aDJ (c:Int):tU [c]=[c]:=by simp [tU]
theorem aGF:tU []=[]:=by simp [tU]
theorem aDK (c:Int):Go.Lib.compact [c]=[c]:=rfl
theorem aGG:Go.Lib.compact ([]:List Int)=[]:=rfl
theorem OS (v:V):(bO v 0).cols=[]:=by
 unfold bO
 repeat' split
 all_goals simp [Ex.cols,bD,aGF,aGG]
theorem uG (a:At):a.ex.cols=[a.col]:=by
 unfold At.ex eA
 split
 ·simp [Ex.cols,bD,aDJ,aDK]
 split
 ·simp [Ex.cols,bD,aDJ,aDK]
 ·rename_i h5 _
  simp [Ex.cols,bD,aDJ,aDK,h5,OS]
theorem xW (S:List Tb):∀ (l:List Nat) (i z:Nat) (c:Int) (h:z<l.length),0≤c→c<(aV S l[z]).cols.length→gP S i l (c+bQ S l z)=(((i+z:Nat):Int),c,true)
 | [],_,_,_,h,_,_=>absurd h (by simp)
 | k::r,i,0,c,h,h0,h1=>by
   have e:bQ S (k::r) 0=0:=by simp [bQ,bU]
   rw [gP,e]
   simp only [List.getElem_cons_zero] at h1
   have hc:c+((0:Nat):Int)=c:=by omega
   rw [hc,if_pos h1]
   simp [h0]
 | k::r,i,z+1,c,h,h0,h1=>by
   have e:bQ S (k::r) (z+1)=(aV S k).cols.length+bQ S r z:=by simp [bQ,bU]
   have hz:z<r.length:=by simpa using h
   simp only [List.getElem_cons_succ] at h1
   have ih:=xW S r (i+1) z c hz h0 h1
   rw [gP,e,if_neg (by omega)]
   have e2:c+(((aV S k).cols.length+bQ S r z:Nat):Int) - (aV S k).cols.length=c+bQ S r z:=by omega
   rw [e2,ih]
   congr 2
   omega
theorem UH (S:List Tb) (l:List Nat) {a:At} (h:UG a.op) (A:Nat→List At):bW S l a.ex A=mH S l a.ex A:=by
 unfold UG at h
 have hs:∀ n,pH a.op n=false:=fun n=>by
  unfold pH
  have h1:¬ a.op=22:=by omega
  have h2:¬ a.op=23:=by omega
  have h3:¬ a.op=24:=by omega
  simp [h1,h2,h3]
 unfold At.ex
 split
 ·rename_i e
  rw [e] at hs
  unfold eA
  rw [bW,hs]; simp
 split
 ·rename_i e
  rw [e] at hs
  rw [bW,hs]; simp
 ·rw [bW,hs]; simp
theorem aBR (S:List Tb) (l:List Nat) (hS:(bU S l).length≤1000000) {z:Nat} (hz:z<l.length) {a:At} (h:tS (aV S l[z]) a) (hoff:bQ S l z≤1000000) (hcl:(aV S l[z]).cols.length≤1000000) (A:Nat→List At):(bW S l (a.ex.shift (bQ S l z)) A).1=true:=by
 obtain ⟨c0,c1⟩:=h.col
 have hop:UG (a.mv (bQ S l z)).op:=show UG a.op from aFr h
 rw [nN (by omega),UH S l hop A]
 unfold mH pB
 rw [uG]
 have hm:(a.mv (bQ S l z)).col=a.col+bQ S l z:=rfl
 rw [hm]
 simp only
 rw [xW S l 0 z a.col hz c0 c1]
 have hb:(a.mv (bQ S l z)).ex.shift (a.col - (a.col+bQ S l z))=a.ex:=by
  rw [nN (by rw [hm]; omega)]
  congr 1
  obtain ⟨c,o,v⟩:=a
  simp only [At.mv]
  congr 1
  omega
 simp only [if_true,Nat.zero_add,Int.toNat_natCast]
 rw [hb,List.getElem?_eq_getElem hz,Option.getD_some,aDI h]
 rfl
theorem sJ {ts:List Int} {o c n g:Int} {t:List UInt8} {ks:List Ex} (kts:List Int) (hk:∀ x∈ks,(gO ts x).2=0) (he:ks.map (fun z=>(gO ts z).1)=kts) (h1:(bL o&&gJ o c n g t)=true) (h2:bI o kts.length=true) (h5:¬ o=5) (h4:fC (bK o).2.2.1 kts=true):gO ts (.mk o c n t g ks)=(iD ts o c g kts,0):=by
 rw [qR ts _ _ _ _ _ _ hk,nX,he]
 unfold oX dG
 rw [if_neg (by rw [h1]; simp),if_neg (by rw [h2]; simp),if_neg (fun e=>h5 e.1),if_neg h5,if_pos h4]
theorem aDO {ts:List Int} {g:Int} (h0:0≤g) (h1:g<ts.length) (ht:1≤(ts[g.toNat]?).getD 0∧(ts[g.toNat]?).getD 0≤3):gO ts (eA g)=((ts[g.toNat]?).getD 0,0):=by
 unfold eA
 rw [qR ts _ _ _ _ _ _ (fun x hx=>by simp at hx),nX]
 unfold oX dG
 rw [if_neg (by simp [bL,gJ,cN]),if_neg (by simp [bI,bL,bK,ops]),if_neg (by simp; omega),if_pos rfl,if_pos ht]
theorem AQ {ts:List Int} {v:V} (h:v.valid=true) (hk:v.k=1∨v.k=2∨v.k=3):gO ts (bO v 0)=(v.k,0):=by
 obtain ⟨k,n,t⟩:=v
 simp only at hk
 rcases hk with e | e | e <;> subst e
 ·obtain rfl:t=[]:=by unfold V.valid at h; simp at h; simpa using h.2.2
  have e:bO ⟨1,n,[]⟩ 0=.mk 2 0 n [] 0 []:=by simp [bO]
  rw [e,sJ [] (fun x hx=>by simp at hx) rfl (by simp [bL,gJ,cN,h]) (by simp [bI,bL,bK,ops]) (by simp) (by simp [fC,bK,ops])]
  simp [iD,bK,ops]
 ·obtain rfl:t=[]:=by unfold V.valid at h; simp at h; simpa using h.2
  have e:bO ⟨2,n,[]⟩ 0=.mk 3 0 n [] 0 []:=by simp [bO]
  rw [e,sJ [] (fun x hx=>by simp at hx) rfl (by simp [bL,gJ,cN,h]) (by simp [bI,bL,bK,ops]) (by simp) (by simp [fC,bK,ops])]
  simp [iD,bK,ops]
 ·obtain rfl:n=0:=by unfold V.valid at h; simp at h; simpa using h.1
  have e:bO ⟨3,0,t⟩ 0=.mk 4 0 0 t 0 []:=by simp [bO]
  rw [e,sJ [] (fun x hx=>by simp at hx) rfl (by simp [bL,gJ,cN,h]) (by simp [bI,bL,bK,ops]) (by simp) (by simp [fC,bK,ops])]
  simp [iD,bK,ops]
theorem OU {ts:List Int} {o u:Int} {x y:Ex} (ho:14≤o∧o≤19) (hx:gO ts x=(u,0)) (hy:gO ts y=(u,0)):gO ts (.mk o 0 0 [] 0 [x,y])=(2,0):=by
 rw [sJ [u,u] (fun z hz=>by simp at hz; rcases hz with rfl | rfl <;> simp [hx,hy]) (by simp [hx,hy]) ?_ ?_ (by omega) ?_]
 ·rcases (by omega:o=14∨o=15∨o=16∨o=17∨o=18∨o=19) with rfl | rfl | rfl | rfl | rfl | rfl <;> simp [iD,bK,ops]
 ·rcases (by omega:o=14∨o=15∨o=16∨o=17∨o=18∨o=19) with rfl | rfl | rfl | rfl | rfl | rfl <;> simp [bL,gJ,cN]
 ·rcases (by omega:o=14∨o=15∨o=16∨o=17∨o=18∨o=19) with rfl | rfl | rfl | rfl | rfl | rfl <;> simp [bI,bL,bK,ops]
 ·rcases (by omega:o=14∨o=15∨o=16∨o=17∨o=18∨o=19) with rfl | rfl | rfl | rfl | rfl | rfl <;> simp [fC,bK,ops]
theorem aBU {ts:List Int} {u:Int} {x:Ex} (hx:gO ts x=(u,0)):gO ts (.mk 21 0 0 [] 0 [x])=(2,0):=by
 rw [sJ [u] (fun z hz=>by rw [List.mem_singleton] at hz; rw [hz,hx]) (by simp [hx]) (by simp [bL,gJ,cN]) (by simp [bI,bL,bK,ops]) (by simp) (by simp [fC,bK,ops])]
 simp [iD,bK,ops]
theorem aDP {ts:List Int} {x:Ex} (hx:gO ts x=(2,0)):gO ts (.mk 24 0 0 [] 0 [x])=(2,0):=by
 rw [sJ [2] (fun z hz=>by rw [List.mem_singleton] at hz; rw [hz,hx]) (by simp [hx]) (by simp [bL,gJ,cN]) (by simp [bI,bL,bK,ops]) (by simp) (by simp [fC,bK,ops])]
 simp [iD,bK,ops]
theorem aDQ {ts:List Int} {o:Int} {x y:Ex} (ho:o=22∨o=23) (hx:gO ts x=(2,0)) (hy:gO ts y=(2,0)):gO ts (.mk o 0 0 [] 0 [x,y])=(2,0):=by
 rw [sJ [2,2] (fun z hz=>by simp at hz; rcases hz with rfl | rfl <;> simp [hx,hy]) (by simp [hx,hy]) ?_ ?_ (by omega) ?_]
 ·rcases ho with rfl | rfl <;> simp [iD,bK,ops]
 ·rcases ho with rfl | rfl <;> simp [bL,gJ,cN]
 ·rcases ho with rfl | rfl <;> simp [bI,bL,bK,ops]
 ·rcases ho with rfl | rfl <;> simp [fC,bK,ops]
theorem aCZ {ts:List Int} {x:Tb} {a:At} (h:tS x a) (hty:∀ c∈x.cols,c.t=1∨c.t=2∨c.t=3) {d:Int} (h0:0≤a.col+d) (h1:a.col+d<ts.length) (ht:(ts[(a.col+d).toNat]?).getD 0=dE x a.col):gO ts (a.mv d).ex=(2,0):=by
 have htt:1≤dE x a.col∧dE x a.col≤3:=by
  obtain ⟨c0,c1⟩:=h.col
  have hlt:a.col.toNat<x.cols.length:=by omega
  have:=hty _ (List.getElem_mem hlt)
  unfold dE
  rw [List.getElem?_eq_getElem hlt]
  simp only [Option.map_some,Option.getD_some]
  omega
 have hc:gO ts (eA (a.col+d))=(dE x a.col,0):=by
  rw [aDO h0 h1 (by rw [ht]; exact htt),ht]
 have hv:=h.val
 obtain ⟨c,o,v⟩:=a
 simp only at *
 rcases h.kind with ⟨e,w⟩ | ⟨u,e1,e2,w⟩ | ⟨u,e,w⟩ | ⟨u,e,w⟩ | ⟨u,e,w⟩ <;> simp only at *
 ·subst e
  have:(At.mv ⟨c,21,v⟩ d).ex=.mk 21 0 0 [] 0 [eA (c+d)]:=by simp [At.ex,At.mv]
  rw [this]; exact aBU hc
 ·have n5:¬ o=5:=by omega
  have n21:¬ o=21:=by omega
  have:(At.mv ⟨c,o,v⟩ d).ex=.mk o 0 0 [] 0 [eA (c+d),bO v 0]:=by simp [At.ex,At.mv,n5,n21]
  rw [this]; exact OU (by omega) hc (by rw [AQ hv (by omega),w,u])
 ·subst e
  have:(At.mv ⟨c,5,v⟩ d).ex=eA (c+d):=by simp [At.ex,At.mv]
  rw [this,hc,u]
 ·have n5:¬ o=5:=by omega
  have n21:¬ o=21:=by omega
  have:(At.mv ⟨c,o,v⟩ d).ex=.mk o 0 0 [] 0 [eA (c+d),bO v 0]:=by simp [At.ex,At.mv,n5,n21]
  rw [this]; exact OU (by omega) hc (by rw [AQ hv (by omega),w,u])
 ·have n5:¬ o=5:=by omega
  have n21:¬ o=21:=by omega
  have:(At.mv ⟨c,o,v⟩ d).ex=.mk o 0 0 [] 0 [eA (c+d),bO v 0]:=by simp [At.ex,At.mv,n5,n21]
  rw [this]; exact OU (by omega) hc (by rw [AQ hv (by omega),w,u])
theorem aBS (S:List Tb) {l:List Nat} {z c:Nat} (hz:z<l.length) (hc:c<(aV S l[z]).cols.length):bQ S l z+c<(bU S l).length∧(bU S l)[bQ S l z+c]?=(aV S l[z]).cols[c]?:=by
 have e:bU S l=bU S (l.take z)++((aV S l[z]).cols++bU S (l.drop (z+1))):=by
  have h:=List.take_append_drop z l
  rw [List.drop_eq_getElem_cons hz] at h
  have e2:bU S (l[z]::l.drop (z+1))=(aV S l[z]).cols++bU S (l.drop (z+1)):=rfl
  have e3:bU S (l.take z++l[z]::l.drop (z+1))=bU S (l.take z)++bU S (l[z]::l.drop (z+1)):=by unfold bU; rw [List.flatMap_append]
  rw [← e2,← e3,h]
 have eo:bQ S l z=(bU S (l.take z)).length:=rfl
 rw [e,eo]
 refine ⟨by rw [List.length_append,List.length_append]; omega,?_⟩
 rw [List.getElem?_append_right (by omega),Nat.add_sub_cancel_left,List.getElem?_append_left hc]
structure CdOk (S:List Tb) (l:List Nat) (e:Ex) (n d:Nat):Prop where
 walk:∀ A,(bW S l e A).1=true
 nodes:e.nodes≤n
 few:∀ q,q+d≤50→e.few q=true
 ty:gO ((bU S l).map Col.t) e=(2,0)
 size:1≤e.size∧e.size≤n
 dep:e.dep≤d
 has:∀ z,e.has z→z<9223372036854775807
theorem YJ (c:Int):(eA c).size=1∧(eA c).dep=1∧(eA c).nodes=1:=by
 unfold eA
 refine ⟨by rw [Ex.size,dL],by rw [Ex.dep,eH],by rw [Ex.nodes,aT]⟩
theorem OT (v:V):(bO v 0).size=1∧(bO v 0).dep=1∧(bO v 0).nodes=1:=by
 unfold bO
 repeat' split
 all_goals exact ⟨by rw [Ex.size,dL],by rw [Ex.dep,eH],by rw [Ex.nodes,aT]⟩
theorem KK (a:At):a.ex.nodes≤3∧1≤a.ex.size∧a.ex.size≤3∧a.ex.dep≤2:=by
 obtain ⟨s1,d1,n1⟩:=YJ a.col
 obtain ⟨s2,d2,n2⟩:=OT a.v
 have w2:=aH (n:=(1:Int)+1) (by omega) (by omega)
 have w3:=aH (n:=(1:Int)+1+1) (by omega) (by omega)
 unfold At.ex
 split
 ·omega
 split
 ·rw [Ex.nodes,aT,aT,Ex.size,dL,dL,Ex.dep,eH,eH,s1,d1,n1,w2]
  simp
 ·rw [Ex.nodes,aT,aT,aT,Ex.size,dL,dL,dL,Ex.dep,eH,eH,eH,s1,d1,n1,s2,d2,n2,w2,w3]
  simp
theorem aFs (S:List Tb) (l:List Nat) (hS:(bU S l).length≤1000000) {z:Nat} (hz:z<l.length) (hm:pG (aV S l[z])) {a:At} (h:tS (aV S l[z]) a) (hoff:bQ S l z≤1000000):CdOk S l (a.ex.shift (bQ S l z)) 3 2:=by
 obtain ⟨c0,c1⟩:=h.col
 have hcl:=hm.ok.cols
 have hsh:=nN (a:=a) (d:=bQ S l z) (by omega)
 obtain ⟨p1,p2,p3,p4⟩:=KK (a.mv (bQ S l z))
 obtain ⟨q1,q2⟩:=aBS S (c:=a.col.toNat) hz (by omega)
 have hi:(a.col+bQ S l z).toNat=bQ S l z+a.col.toNat:=by omega
 have hw:=aBR S l hS hz h hoff (by omega)
 rw [hsh] at hw ⊢
 refine ⟨hw,p1,fun q hq=>NZ (by have:=h.len; have e:(a.mv (bQ S l z)).v=a.v:=rfl; rw [e]; omega) q (by omega),?_,⟨p2,p3⟩,p4,fun y hy=>?_⟩
 ·refine aCZ h hm.ty (by omega) (by rw [List.length_map]; omega) ?_
  rw [hi,List.getElem?_map,q2]
  rfl
 ·rw [← lE,uG,List.mem_singleton] at hy
  rw [hy]
  show a.col+bQ S l z<_
  omega
theorem aDL {S:List Tb} {l:List Nat} {e:Ex} {n d:Nat} (h:CdOk S l e n d) (hn:n≤100) (hd:d≤20):CdOk S l (.mk 24 0 0 [] 0 [e]) (n+1) (d+1):=by
 obtain ⟨s1,s2⟩:=h.size
 have hw:=aH (n:=1+e.size) (by omega) (by omega)
 refine ⟨fun A=>?_,?_,fun q hq=>?_,aDP h.ty,?_,?_,fun z hz=>?_⟩
 ·rw [bW,if_pos (by simp [pH]),if_pos (by simp),cY,if_pos (h.walk A),cY]
 ·have:=h.nodes; rw [Ex.nodes,aT,aT]; omega
 ·rw [Ex.few,if_neg (by omega),if_neg (by simp),if_neg (by simp)]
  simp [fL,h.few (q+1) (by omega)]
 ·rw [Ex.size,dL,dL,hw]; omega
 ·have:=h.dep; rw [Ex.dep,eH,eH]; omega
 ·rw [Ex.has] at hz
  rcases hz with hz | hz
  ·exact absurd hz.1 (by simp)
  ·rw [eW] at hz
   rcases hz with hz | hz
   ·exact h.has z hz
   ·exact absurd hz (by simp [eW])
theorem aDM {S:List Tb} {l:List Nat} {o:Int} {e f:Ex} {n m d:Nat} (ho:o=22∨o=23) (h:CdOk S l e n d) (k:CdOk S l f m d) (hn:n≤100) (hm:m≤100) (hd:d≤20):CdOk S l (.mk o 0 0 [] 0 [e,f]) (n+m+1) (d+1):=by
 obtain ⟨s1,s2⟩:=h.size
 obtain ⟨r1,r2⟩:=k.size
 have hw:=aH (n:=1+e.size) (by omega) (by omega)
 have hw2:=aH (n:=1+e.size+f.size) (by omega) (by omega)
 refine ⟨fun A=>?_,?_,fun q hq=>?_,aDQ ho h.ty k.ty,?_,?_,fun z hz=>?_⟩
 ·rw [bW,if_pos (by rcases ho with rfl | rfl <;> simp [pH]),if_pos (by simp),cY,if_pos (h.walk A),cY,if_pos (k.walk _),cY]
 ·have:=h.nodes; have:=k.nodes; rw [Ex.nodes,aT,aT,aT]; omega
 ·rw [Ex.few,if_neg (by omega),if_neg (by simp),if_neg (by simp)]
  simp [fL,h.few (q+1) (by omega),k.few (q+1) (by omega)]
 ·rw [Ex.size,dL,dL,dL,hw,hw2]; omega
 ·have:=h.dep; have:=k.dep; rw [Ex.dep,eH,eH,eH]; omega
 ·rw [Ex.has] at hz
  rcases hz with hz | hz
  ·exact absurd hz.1 (by rcases ho with rfl | rfl <;> simp)
  ·rw [eW,eW] at hz
   rcases hz with hz | hz | hz
   ·exact h.has z hz
   ·exact k.has z hz
   ·exact absurd hz (by simp [eW])
theorem aBV (L:List Int) {S:List Tb} (hS:∀ x∈S,pG x) {l:List Nat} (hl:∀ k∈l,k<S.length) (h0:0<l.length) (h3:l.length≤100) (i:Nat):∃ n,n≤4∧CdOk S l (dN L S l i).1 n 3∨n≤4∧CdOk S l (dN L S l i).1 n 2:=by
 have hcols:∀ x∈S,x.cols.length≤1000:=fun x hx=>(hS x hx).ok.cols
 have hcl:∀ m:List Nat,(∀ k∈m,k<S.length)→(bU S m).length≤1000*m.length:=by
  intro m
  induction m with
  | nil=>intro _; simp [bU]
  | cons k r ih =>
    intro hm
    have h1:=ih fun j hj=>hm j (List.mem_cons_of_mem _ hj)
    have hk:=hm k (List.mem_cons_self ..)
    have h2:(aV S k).cols.length≤1000:=by unfold aV; rw [List.getElem?_eq_getElem hk]; exact hcols _ (List.getElem_mem hk)
    have e:bU S (k::r)=(aV S k).cols++bU S r:=rfl
    rw [e,List.length_append,List.length_cons]
    omega
 have hnx:=bG L i (n:=l.length) (by omega)
 obtain ⟨z,hz⟩:∃ z,z=(aU L i l.length).toNat:=⟨_,rfl⟩
 have hzl:z<l.length:=by omega
 have hk:=hl l[z] (List.getElem_mem hzl)
 have hm:pG (aV S l[z]):=by unfold aV; rw [List.getElem?_eq_getElem hk]; exact hS _ (List.getElem_mem hk)
 have hat:=tT L hm (i+1)
 have hof:bQ S l z≤1000000:=by
  have:=hcl (l.take z) fun k hk=>hl k (List.mem_of_mem_take hk)
  rw [List.length_take] at this
  unfold bQ
  omega
 have hc:=aFs S l (by have:=hcl l hl; omega) hzl hm hat hof
 unfold dN
 simp only
 rw [← hz,List.getElem?_eq_getElem hzl,Option.getD_some]
 split
 ·exact ⟨4,.inl ⟨by omega,aDL hc (by omega) (by omega)⟩⟩
 ·exact ⟨3,.inr ⟨by omega,hc⟩⟩
theorem CdOk.up {S:List Tb} {l:List Nat} {e:Ex} {n d n' d':Nat} (h:CdOk S l e n d) (hn:n≤n') (hd:d≤d'):CdOk S l e n' d' :=
 ⟨h.walk,by have:=h.nodes; omega,fun q hq=>h.few q (by omega),h.ty,⟨h.size.1,by have:=h.size.2; omega⟩,by have:=h.dep; omega,h.has⟩
theorem YK (L:List Int) {S:List Tb} (hS:∀ x∈S,pG x) {l:List Nat} (hl:∀ k∈l,k<S.length) (h0:0<l.length) (h3:l.length≤100) (i:Nat):CdOk S l (dN L S l i).1 4 3:=by
 obtain ⟨n,⟨h1,h2⟩ | ⟨h1,h2⟩⟩:=aBV L hS hl h0 h3 i
 ·exact h2.up h1 (by omega)
 ·exact h2.up h1 (by omega)
theorem aBW (L:List Int) (a:Nat) {S:List Tb} (hS3:S.length≤3) (h0:0<S.length) (hS:∀ x∈S,pG x) (hd:VR S) (hnm:∀ k,k<S.length→lW S (DX S k)=k):∃ l,OF S (uH L S a).1 l:=by
 have hnx:=bG L a (n:=S.length) (by omega)
 unfold uH
 simp only
 obtain ⟨k0,hk0⟩:∃ k0,k0=(aU L a S.length).toNat:=⟨_,rfl⟩
 rw [← hk0]
 have hk:k0<S.length:=by omega
 obtain ⟨⟨lc,hlc⟩,hpl,hpi⟩:=oS L hd S.length k0 (a+1) hk hk
 obtain ⟨P,i1,hP⟩:∃ P i1,mL L S S.length k0 (a+1)=(P,i1):=⟨_,_,rfl⟩
 rw [hP] at hlc hpl hpi ⊢
 simp only at hlc hpl hpi ⊢
 have hch:∀ K,dY S ⟨DX S k0,P,K⟩=some (k0::lc):=fun K=>by
  unfold dY
  have h1:(0:Int)≤lW S (DX S k0):=by rw [hnm k0 hk]; omega
  simp only
  rw [if_pos h1,hnm k0 hk,Int.toNat_natCast,hlc]
  rfl
 rw [hch,Option.getD_some]
 obtain ⟨hlt,hll⟩:=dI (hch [])
 simp only at hll
 have v3:=bG L i1 (n:=3) (by omega)
 have hcn2:KM L P i1≤2:=by unfold KM; split <;> omega
 have hq:=YK L hS hlt (by omega) (by omega)
 have hC:∀ n,0<n→n≤2→CdOk S (k0::lc) (lL L S (k0::lc) (i1+1) n).1 9 4:=fun n h1 h2=>by
  rcases (by omega:n=1∨n=2) with rfl | rfl
  ·rw [lL]; exact (hq _).up (by omega) (by omega)
  ·have v2:=bG L (dN L S (k0::lc) (dN L S (k0::lc) (i1+1)).2).2 (n:=2) (by omega)
   have hC2:lL L S (k0::lc) (i1+1) 2=(.mk (22+aU L (dN L S (k0::lc) (dN L S (k0::lc) (i1+1)).2).2 2) 0 0 [] 0 [(dN L S (k0::lc) (i1+1)).1,(dN L S (k0::lc) (dN L S (k0::lc) (i1+1)).2).1],(dN L S (k0::lc) (dN L S (k0::lc) (i1+1)).2).2+1):=rfl
   rw [hC2]
   generalize aU L (dN L S (k0::lc) (dN L S (k0::lc) (i1+1)).2).2 2=w at *
   exact (aDM (o:=22+w) (by omega) (hq (i1+1)) (hq _) (by omega) (by omega) (by omega)).up (by omega) (by omega)
 refine ⟨k0::lc,hch _,by omega,?_,?_,?_,?_,?_⟩
 ·simp only; split <;> simp
 ·simp only
  split
  ·rename_i h
   intro e he
   rw [List.mem_singleton] at he
   have:=hC _ h hcn2
   rw [← he] at this
   exact ⟨this.few 0 (by omega),fun z hz=>this.has z ((lE e z).1 hz)⟩
  ·intro e he; simp at he
 ·simp only
  split
  ·rename_i h
   have:=(hC _ h hcn2).nodes
   rw [aT,aT]; omega
  ·rw [aT]; omega
 ·simp only
  split
  ·rename_i h
   intro e he
   rw [List.mem_singleton] at he
   have:=hC _ h hcn2
   rw [← he] at this
   unfold mP
   rw [if_neg (by have:=this.size; omega),if_neg (by have:=this.dep; omega),this.ty]
  ·intro e he; simp at he
 ·simp only
  split
  ·rename_i h
   rw [cY,if_pos ((hC _ h hcn2).walk _),cY]
  ·rw [cY]
inductive QO (S:List Tb) (l:List Nat):Ex→Prop
 | atom (z:Nat) (a:At) (hz:z<l.length) (h:tS (aV S l[z]) a):QO S l (a.ex.shift (bQ S l z))
 | no (x:Ex) (h:QO S l x):QO S l (.mk 24 0 0 [] 0 [x])
 | both (o:Int) (x y:Ex) (ho:o=22∨o=23) (hx:QO S l x) (hy:QO S l y):QO S l (.mk o 0 0 [] 0 [x,y])
theorem JJ (L:List Int) {S:List Tb} (hS:∀ x∈S,pG x) {l:List Nat} (hl:∀ k∈l,k<S.length) (h0:0<l.length) (i:Nat):QO S l (dN L S l i).1:=by
 have hnx:=bG L i (n:=l.length) (by omega)
 obtain ⟨z,hz⟩:∃ z,z=(aU L i l.length).toNat:=⟨_,rfl⟩
 have hzl:z<l.length:=by omega
 have hk:=hl l[z] (List.getElem_mem hzl)
 have hm:pG (aV S l[z]):=by unfold aV; rw [List.getElem?_eq_getElem hk]; exact hS _ (List.getElem_mem hk)
 have hat:=tT L hm (i+1)
 unfold dN
 simp only
 rw [← hz,List.getElem?_eq_getElem hzl,Option.getD_some]
 split
 ·exact .no _ (.atom z _ hzl hat)
 ·exact .atom z _ hzl hat
theorem JK (L:List Int) {S:List Tb} (hS:∀ x∈S,pG x) {l:List Nat} (hl:∀ k∈l,k<S.length) (h0:0<l.length) (i:Nat):∀ n,0<n→QO S l (lL L S l i n).1
 | 0,h=>absurd h (by omega)
 | 1,_=>JJ L hS hl h0 i
 | n+2,_=>by
   have h1:=JK L hS hl h0 i (n+1) (by omega)
   have v2:=bG L (dN L S l (lL L S l i (n+1)).2).2 (n:=2) (by omega)
   rw [lL]
   exact .both _ _ _ (by omega) h1 (JJ L hS hl h0 _)
theorem XC (L:List Int) (a:Nat) {S:List Tb} (h0:0<S.length) (hS:∀ x∈S,pG x) (hd:VR S) (hnm:∀ k,k<S.length→lW S (DX S k)=k) {l:List Nat} (hl:dY S (uH L S a).1=some l):∀ e∈(uH L S a).1.cond,QO S l e:=by
 have hnx:=bG L a (n:=S.length) (by omega)
 revert hl
 unfold uH
 simp only
 obtain ⟨k0,hk0⟩:∃ k0,k0=(aU L a S.length).toNat:=⟨_,rfl⟩
 rw [← hk0]
 have hk:k0<S.length:=by omega
 obtain ⟨⟨lc,hlc⟩,hpl,hpi⟩:=oS L hd S.length k0 (a+1) hk hk
 generalize mL L S S.length k0 (a+1)=P at *
 have hch:∀ K,dY S ⟨DX S k0,P.1,K⟩=some (k0::lc):=fun K=>by
  unfold dY
  have h1:(0:Int)≤lW S (DX S k0):=by rw [hnm k0 hk]; omega
  simp only
  rw [if_pos h1,hnm k0 hk,Int.toNat_natCast,hlc]
  rfl
 rw [hch,hch,Option.getD_some]
 rintro ⟨⟩
 obtain ⟨hlt,hll⟩:=dI (hch [])
 split
 ·rename_i hn
  intro e he
  rw [List.mem_singleton] at he
  subst he
  exact JK L hS hlt (by simp) _ _ hn
 ·intro e he; simp at he
theorem aDm {a:At} {d c:Int} (h:-1000000000≤a.col+d∧a.col+d≤1000000000) (hc:(a.ex.shift d).has c):c=a.col+d:=by
 rw [nN h] at hc
 have h1:=(lE _ _).2 hc
 rw [uG,List.mem_singleton] at h1
 exact h1
theorem aBp {S:List Tb} {l:List Nat} (hS:∀ z,z<l.length→bQ S l z≤1000000∧(aV S ((l[z]?).getD 0)).cols.length≤1000) {e:Ex} (h:QO S l e):∀ c,e.has c→∃ (z q:Nat) (hz:z<l.length),c=((bQ S l z+q:Nat):Int)∧q<(aV S l[z]).cols.length∧dJ (aV S l[z]) q=false:=by
 induction h with
 | atom z a hz ha =>
   intro c hc
   obtain ⟨h1,h2⟩:=hS z hz
   obtain ⟨c0,c1⟩:=ha.col
   rw [List.getElem?_eq_getElem hz,Option.getD_some] at h2
   have:=aDm (by omega) hc
   refine ⟨z,a.col.toNat,hz,by omega,by omega,?_⟩
   rw [Int.toNat_of_nonneg c0]
   exact ha.key
 | no x _ ih =>
   intro c hc
   rw [Ex.has,eW,eW] at hc
   rcases hc with ⟨h,_⟩ | h | h
   ·cases h
   ·exact ih c h
   ·cases h
 | both o x y ho _ _ ihx ihy =>
   intro c hc
   rw [Ex.has,eW,eW,eW] at hc
   rcases hc with ⟨h,_⟩ | h | h | h
   ·omega
   ·exact ihx c h
   ·exact ihy c h
   ·cases h
theorem EL (S:List Tb) (hS:∀ x∈S,x.ok) (l:List Nat) (hl:l.length≤100000) (hr:∀ k∈l,k<S.length) (c:Int) (h0:0≤c) (hc:c<9223372036854775807) :
  Cf En 204 [aR S,.d (.sl (aG (aO l))),.d (.int .i64 c)] [] (.tup [.d (.int .i64 (gP S 0 l c).1),.d (.int .i64 (gP S 0 l c).2.1),.d (.bool (gP S 0 l c).2.2)]) []:=by
 refine aD aW (fn:=Tryz.f204) (by kernel_rfl) rfl (by kernel_rfl) (by decide) (by simp) ?_
 have hnl:=cV l
 have hga:∀ i (h:i<l.length),∀ h',(aG (aO l))[i]'h'=[.int .i64 (l[i]:Int)]:=fun i h h'=>by simp [aG,aO]
 generalize hZ:aG (aO l)=Z at *
 simp [aR,hnl]
 (repeat' first|contradiction|exact .ok|apply And.intro|intro _|(apply gc<;>simp+contextual))
 refine aL aW (by decide) (fun y:Nat×Int=>{ s:=cG [(1,.d (.sl Z)),(2,.d (.int .i64 y.2)),(3,.ptr 3 0 0),(9,.d (.int .i64 y.1))],b:=cE [(3,3,.var [.d (.sl (S.map Tb.c))])] })
  (fun y=>y.1≤l.length∧(0≤y.2∧y.2<9223372036854775807)∧gP S 0 l c=gP S y.1 (l.drop y.1) y.2) (fun y=>l.length - y.1) (0,c) ⟨by simp,⟨h0,hc⟩,by simp⟩
  (aE _ [(3,3,_)] ⟨by simp,by simp,by simp [aB,Blk.live],by simp⟩ (by simp [aB,hnl])) ?_
 rintro ⟨i,d⟩ ⟨hi,⟨hd0,hd⟩,hp⟩
 simp only at hi hd hp hd0
 by_cases hlt:i<l.length
 ·have hw:=aH (n:=(i:Int)+1) (by omega) (by omega)
  have hk:=hr l[i] (List.getElem_mem hlt)
  rw [List.drop_eq_getElem_cons hlt,gP] at hp
  have htab:aV S l[i]=S[l[i]]:=by unfold aV; rw [List.getElem?_eq_getElem hk]; rfl
  rw [htab] at hp
  have hcl:=(hS _ (List.getElem_mem hk)).cols
  have hgl:=hga i hlt
  have hiZ:i<Z.length:=by omega
  generalize hkk:l[i]=k at *
  obtain ⟨x,hx⟩:∃ x,x=S[k]:=⟨_,rfl⟩
  have hgx:∀ h,S[k]'h=x:=fun _=>hx.symm
  rw [← hx] at hp hcl
  by_cases hdc:d<x.cols.length
  ·have hdt:decide (0≤d)=true:=by simpa using hd0
   rw [if_pos hdc,hdt] at hp
   rw [hp]
   simp [hnl,hlt,hd0,hiZ,hgl,hk,hgx,Tb.c,hdc]
   (repeat' first|contradiction|exact .ok|apply And.intro|intro _|(apply gc<;>simp+contextual[hdc]))
  ·rw [if_neg hdc] at hp
   have hwd:=aH (n:=d - x.cols.length) (by omega) (by omega)
   simp [hnl,hlt,hd0,hiZ,hgl,hk,hgx,Tb.c,hdc]
   (repeat' first|contradiction|exact .ok|apply And.intro|intro _|(apply gc<;>simp+contextual[hdc]))
   refine ⟨(i+1,d - x.cols.length),⟨by simp only; omega,⟨by simp only; omega,by simp only; omega⟩,hp⟩,?_,by simp; omega⟩
   exact aE _ [(3,3,_)] ⟨by simp,by simp,by simp [aB,Blk.live],by simp⟩ (by simp [aB,hw,hwd])
 obtain rfl:i=l.length:=by omega
 rw [List.drop_length,gP] at hp
 rw [hp]
 simp [hnl,hd0]
 all_goals exact gz
def VC:AV:=.tup [(At.mk 0 0 nulV).a,.d (.bool false)]
theorem LG (x:Tb) {o:Int} (ho:o=22∨o=23∨o=24) (c:Int) (v:V):mW x ⟨c,o,v⟩=false:=by
 unfold mW
 rcases ho with rfl | rfl | rfl <;> simp
theorem aAq (x:Tb) (hx:x.ok) (k:Ex):Cf En 205 [x.a,(Ex.mk 24 0 0 [] 0 [k]).a] [] VC []:=by
 have hs:=wE x hx ⟨KW k,24,nulV⟩
 rw [LG x (by omega)] at hs
 refine aD aW (fn:=Tryz.f205) (by kernel_rfl) rfl (by kernel_rfl) (by decide) (by simp) ?_
 obtain ⟨ko,kc,kn,kt,kg,kk⟩:=k
 simp [KW,Ex.a,Ex.c,cA,At.a,At.c,nulV,Tb.a,Tb.c,VC] at hs ⊢
 (repeat' first|contradiction|exact .ok|apply And.intro|intro _|(apply gc<;>simp+contextual))
 refine aA hs (by simp) ?_
 simp
 all_goals exact gz
theorem aAr (x:Tb) (hx:x.ok) (o:Int) (ho:o=22∨o=23) (k u:Ex) (q:Nat) (hq:u.few q=true):Cf En 205 [x.a,(Ex.mk o 0 0 [] 0 [k,u]).a] [] VC []:=by
 have hs:=wE x hx ⟨KW k,o,vlR u⟩
 rw [LG x (by omega)] at hs
 have hv:=PB u q hq
 generalize vlR u=W at *
 have n5:¬ o=5:=by omega
 refine aD aW (fn:=Tryz.f205) (by kernel_rfl) rfl (by kernel_rfl) (by decide) (by simp) ?_
 obtain ⟨ko,kc,kn,kt,kg,kk⟩:=k
 have hul:=Ex.clen u
 have hut:=Ex.ctake u
 simp [KW,Ex.a,Ex.c,cA,At.a,At.c,V.a,Tb.a,Tb.c,VC,nulV,n5,hul,hut] at hs hv ⊢
 (repeat' first|contradiction|exact .ok|apply And.intro|intro _|(apply gc<;>simp+contextual[n5]))
 refine aA hv (by simp [hut]) ?_
 simp
 (repeat' first|contradiction|exact .ok|apply And.intro|intro _|(apply gc<;>simp+contextual))
 refine aA hs (by simp) ?_
 simp
 all_goals exact gz
end Go.Proofs.Tryz
