import Derived.Test.YthpmjipkofbeiaaGreatDoorUSlb
import Derived.Test.YthpmjipkofbeiaaGreatDoorURut
set_option linter.all false
namespace Go.Proofs.Tryz
open Go.Ab
set_option maxRecDepth 100000
set_option maxHeartbeats 2000000
def nmI:List (List UInt8):=[[97],[98],[99,48]]
def nmJ:List (List UInt8):=[[121],[122],[120]]
def nmS:List (List UInt8):=[[116,48],[116,49],[116,50]]
def WZ (l:List (List UInt8)) (z:Int):List UInt8:=(l[z.toNat]?).getD []
abbrev SoG:=List UInt8×List Sm×List UInt8
def qK (L:List Int) (nm:List UInt8) (i:Nat):SoG×Nat:=((WZ nmS (aQ L i 3),[],if 0<aQ L (i+1) 3 then nm else []),i+2)
def nE (L:List Int) (st:Nat→Sm×Nat) (deep:Bool) (nm:List UInt8) (i:Nat):SoG×Nat :=
 if deep=true then (if aQ L i 3=0 then (([],[(st (i+1)).1],nm),(st (i+1)).2) else qK L nm (i+1)) else qK L nm i
def JQ (L:List Int) (i:Nat):It×Nat :=
 if aQ L (eA L 3 i).2 2=0 then (⟨(eA L 3 i).1,WZ nmI (aQ L ((eA L 3 i).2+1) 3)⟩,(eA L 3 i).2+2) else (⟨(eA L 3 i).1,[]⟩,(eA L 3 i).2+1)
def uJ (L:List Int):Nat→Bool→Nat→List It→Nat→List It×Nat
 | 0,_,_,is,i=>(is,i)
 | f+1,s,k,is,i=>if (k:Int)<1+aQ L i 3∧s=false then uJ L f s (k+1) (is++[(JQ L (i+1)).1]) (JQ L (i+1)).2 else (is,i+1)
def ET (L:List Int) (st:Nat→Sm×Nat) (deep:Bool) (i:Nat):Jo×Nat :=
 let s:=nE L st deep (WZ nmJ (aQ L (i+1) 3)) (i+2)
 if 0<aQ L i 7 then (.mk (aQ L i 7) s.1.1 s.1.2.1 s.1.2.2 [(eA L 3 s.2).1],(eA L 3 s.2).2) else (.mk (aQ L i 7) s.1.1 s.1.2.1 s.1.2.2 [],s.2)
def oI (L:List Int) (st:Nat→Sm×Nat) (deep:Bool):Nat→List Jo→Nat→List Jo×Nat
 | 0,js,i=>(js,i)
 | n+1,js,i=>oI L st deep n (js++[(ET L st deep i).1]) (ET L st deep i).2
def vW (L:List Int):Nat→List Tm→Nat→List Tm×Nat
 | 0,g,i=>(g,i)
 | n+1,g,i=>vW L n (g++[(eA L 2 i).1]) (eA L 2 i).2
def xF (L:List Int) (n:Int) (i:Nat):List Tm×Nat:=if aQ L i n=0 then ([(eA L 3 (i+1)).1],(eA L 3 (i+1)).2) else ([],i+1)
def sU (L:List Int) (st:Nat→Sm×Nat) (deep:Bool) (j:Nat):Sm×Nat :=
 let I:=uJ L 4 (aQ L (j+1) 3==0) 0 [] (j+2)
 let S:=nE L st deep [120] I.2
 let J:=oI L st deep (aQ L S.2 3).toNat [] (S.2+1)
 let W:=xF L 3 J.2
 let G:=vW L (aQ L W.2 4 - 1).toNat [] (W.2+1)
 let H:=xF L 6 G.2
 (.mk 1 false (aQ L j 4==0) (aQ L (j+1) 3==0) I.1 S.1.1 S.1.2.1 S.1.2.2 J.1 W.1 G.1 H.1 [],H.2)
def QM (L:List Int) (st:Nat→Sm×Nat) (i:Nat):Sm×Nat :=
 (.mk (2+aQ L i 3) (aQ L (i+1) 2==1) false false [] [] [] [] [] [] [] [] [(st (i+2)).1,(st (st (i+2)).2).1],(st (st (i+2)).2).2)
def AZ (L:List Int):Nat→Nat→Sm×Nat
 | 0,i=>sU L (fun _=>(zeS,0)) false i
 | d+1,i=>if d=0 then sU L (fun _=>(zeS,0)) false i else if aQ L i 4=0 then QM L (AZ L d) (i+1) else sU L (AZ L d) true (i+1)
def aGj (K:Nat) (x:Sm):Prop:=sG x∧x.wgt≤K
def MkG (st:Nat→Sm×Nat) (B K:Nat):Prop:=∀ j:Nat,j+B≤1000000→j≤(st j).2∧(st j).2≤j+B∧aGj K (st j).1
theorem JR (L:List Int):∀ (d i:Nat),i≤(eA L d i).2
 | 0,i=>by unfold eA eW; repeat' split
           all_goals simp
 | d+1,i=>by
   have hl:∀ i,i≤(eW L i).2:=fun i=>by unfold eW; repeat' split
                                       all_goals simp
   have hk:∀ n s,s≤(gF (eA L d) n s).2:=by
    intro n
    induction n with
    | zero=>intro s; simp [gF]
    | succ n ih=>intro s; have h1:=ih s; have h2:=JR L d (gF (eA L d) n s).2; simp only [gF]; omega
   have h1:=hl i
   have h2:=hl (i+1)
   rw [eA]
   split
   ·exact h1
   split
   ·omega
   unfold sW
   split
   ·split
    ·simp only; omega
    ·have:=JR L d (i+1+2); simp only; omega
   split
   ·have:=hk 1 (i+1+2); simp only [DD]; omega
   split
   ·have:=hk 3 (i+1+2); simp only [DD]; omega
   split
   ·have:=hk (2+aQ L (i+1+2) 3).toNat (i+1+3); simp only [DD]; omega
   ·have:=hk 2 (i+1+2); simp only [DD]; omega
structure TmG (L:List Int) (d i B:Nat):Prop where
 ge:i≤(eA L d i).2
 le:i+B≤1000000→(eA L d i).2≤i+B
 fit:(eA L d i).1.fits
 wgt:(eA L d i).1.wgt≤30000
theorem tmG (L:List Int) {d:Nat} (hd:d≤3) (i:Nat):TmG L d i 685 where
 ge:=JR L d i
 le h:=by
  have hb:tb d≤685:=by
   have:d=0∨d=1∨d=2∨d=3:=by omega
   rcases this with rfl | rfl | rfl | rfl <;> decide
  have:=vZ L d i (by omega)
  omega
 fit:=EJ _ _ (Nat.lt_succ_self _) 0 (DF L d i 0 (by omega))
 wgt:=by
  have hb:wbT d≤30000:=by
   have:d=0∨d=1∨d=2∨d=3:=by omega
   rcases this with rfl | rfl | rfl | rfl <;> decide
  exact Nat.le_trans (DH L d i) hb
theorem FU {l:List (List UInt8)} (h:∀ x∈l,x.length≤2) (z:Int):(WZ l z).length≤2:=by
 unfold WZ
 cases hg:l[z.toNat]? with
 | none=>simp
 | some x=>exact h x (List.mem_of_getElem? hg)
structure aNq (K:Nat) (s:SoG):Prop where
 good:aFl s
 wgt:s.1.length+(jK s.2.1+s.2.2.length)≤K+10
theorem BA (L:List Int) {st:Nat→Sm×Nat} {B K:Nat} (hst:MkG st B K) (deep:Bool) {nm:List UInt8} (hn:nm.length≤2) {i:Nat} (hi:i+(B+5)≤1000000) :
  i≤(nE L st deep nm i).2∧(nE L st deep nm i).2≤i+(B+5)∧aNq K (nE L st deep nm i).1:=by
 have ht:∀ i,i≤(qK L nm i).2∧(qK L nm i).2≤i+2∧aNq K (qK L nm i).1:=fun i=>by
  have h1:=FU (l:=nmS) (by decide) (aQ L i 3)
  refine ⟨by simp [qK],by simp [qK],⟨⟨by simp [qK],trivial,trivial⟩,?_⟩⟩
  simp only [qK,jK]
  split
  ·omega
  ·simp; omega
 unfold nE
 split
 ·split
  ·obtain ⟨h1,h2,⟨h3,h4⟩,h5⟩:=hst (i+1) (by omega)
   refine ⟨by simp only; omega,by simp only; omega,⟨⟨by simp,⟨h3,trivial⟩,h4,trivial⟩,?_⟩⟩
   simp only [jK,List.length_nil]
   omega
  ·obtain ⟨h1,h2,h3⟩:=ht (i+1)
   exact ⟨by omega,by omega,h3⟩
 ·obtain ⟨h1,h2,h3⟩:=ht i
  exact ⟨by omega,by omega,h3⟩
theorem JU:∀ (a b:List It),fU (a++b)=fU a+fU b
 | [],b=>by rw [List.nil_append,fU]; omega
 | x::a,b=>by rw [List.cons_append,fU,fU,JU a b]; omega
theorem JV:∀ (a b:List Jo),gG (a++b)=gG a+gG b
 | [],b=>by rw [List.nil_append,gG]; omega
 | x::a,b=>by rw [List.cons_append,gG,gG,JV a b]; omega
theorem aBF (L:List Int) {i:Nat} (hi:i+700≤1000000):i≤(JQ L i).2∧(JQ L i).2≤i+690∧(JQ L i).1.t.fits∧(JQ L i).1.t.wgt+(JQ L i).1.n.length≤30010:=by
 have ht:=tmG L (d:=3) (by omega) i
 have h1:=ht.ge
 have h2:=ht.le (by omega)
 have h3:=ht.wgt
 have h4:=FU (l:=nmI) (by decide) (aQ L ((eA L 3 i).2+1) 3)
 unfold JQ
 split
 ·exact ⟨by simp only; omega,by simp only; omega,ht.fit,by simp only; omega⟩
 ·exact ⟨by simp only; omega,by simp only; omega,ht.fit,by simp only [List.length_nil]; omega⟩
theorem QN (L:List Int) (s:Bool):∀ (f k:Nat) (is:List It) (i:Nat),i+700*(f+1)≤1000000→cC (is.map It.t)→is.length+f≤10 →
  i≤(uJ L f s k is i).2∧(uJ L f s k is i).2≤i+700*f∧(uJ L f s k is i).1.length≤10∧cC ((uJ L f s k is i).1.map It.t)∧fU (uJ L f s k is i).1≤fU is+30020*f
 | 0,k,is,i,hi,hf,hl=>⟨by simp [uJ],by simp [uJ],by simp [uJ]; omega,by simpa [uJ] using hf,by simp [uJ]⟩
 | f+1,k,is,i,hi,hf,hl=>by
   obtain ⟨h1,h2,h3,h4⟩:=aBF L (i:=i+1) (by omega)
   rw [uJ]
   split
   ·obtain ⟨g1,g2,g3,g4,g5⟩:=QN L s f (k+1) (is++[(JQ L (i+1)).1]) (JQ L (i+1)).2 (by omega) (by rw [List.map_append]; exact eT _ _ hf ⟨h3,trivial⟩) (by simp; omega)
    rw [JU,fU,fU] at g5
    exact ⟨by omega,by omega,g3,g4,by omega⟩
   ·exact ⟨by simp,by simp only; omega,by simp only; omega,hf,by simp only; omega⟩
theorem aBG (L:List Int) {st:Nat→Sm×Nat} {B K:Nat} (hst:MkG st B K) (deep:Bool) {i:Nat} (hi:i+(B+800)≤1000000) :
  i≤(ET L st deep i).2∧(ET L st deep i).2≤i+(B+700)∧aJN (ET L st deep i).1∧(ET L st deep i).1.wgt≤K+30100:=by
 obtain ⟨h1,h2,⟨h3,h6,h7⟩,h5⟩:=BA L hst deep (nm:=WZ nmJ (aQ L (i+1) 3)) (FU (by decide) _) (i:=i+2) (by omega)
 unfold ET
 simp only
 generalize nE L st deep (WZ nmJ (aQ L (i+1) 3)) (i+2)=s at *
 have ht:=tmG L (d:=3) (by omega) s.2
 have t1:=ht.ge
 have t2:=ht.le (by omega)
 have t3:=ht.wgt
 split
 ·refine ⟨by simp only; omega,by simp only; omega,⟨?_,?_⟩,?_⟩
  ·rw [Jo.fits]; exact ⟨⟨by omega,h6⟩,by simp,ht.fit,trivial⟩
  ·rw [Jo.small]; exact ⟨by simp,h7⟩
  ·simp only [Jo.wgt,cH]; omega
 ·refine ⟨by simp only; omega,by simp only; omega,⟨?_,?_⟩,?_⟩
  ·rw [Jo.fits]; exact ⟨⟨by omega,h6⟩,by simp,trivial⟩
  ·rw [Jo.small]; exact ⟨by simp,h7⟩
  ·simp only [Jo.wgt,cH]; omega
theorem QO (L:List Int) {st:Nat→Sm×Nat} {B K:Nat} (hst:MkG st B K) (deep:Bool):∀ (n:Nat) (js:List Jo) (i:Nat),n≤2→i+(B+800)*(n+1)≤1000000→iI js∧gX js→js.length+n≤10 →
  i≤(oI L st deep n js i).2∧(oI L st deep n js i).2≤i+(B+800)*n∧aFm (oI L st deep n js i).1∧gG (oI L st deep n js i).1≤gG js+(K+30100)*n
 | 0,js,i,_,hi,hf,hl=>⟨by simp [oI],by simp [oI],⟨by simp [oI]; omega,hf⟩,by simp [oI]⟩
 | n+1,js,i,hn,hi,hf,hl=>by
   have e1:(B+800)*(n+1+1)=(B+800)*n+(B+800)+(B+800):=by rw [Nat.mul_succ,Nat.mul_succ]
   have e2:(B+800)*(n+1)=(B+800)*n+(B+800):=Nat.mul_succ _ _
   have e3:(K+30100)*(n+1)=(K+30100)*n+(K+30100):=Nat.mul_succ _ _
   obtain ⟨h1,h2,h3,h4⟩:=aBG L hst deep (i:=i) (by omega)
   rw [oI]
   obtain ⟨g1,g2,g3,g4⟩:=QO L hst deep n (js++[(ET L st deep i).1]) (ET L st deep i).2 (by omega) (by omega) ⟨qY _ _ hf.1 ⟨h3.1,trivial⟩,oV _ _ hf.2 ⟨h3.2,trivial⟩⟩ (by simp; omega)
   rw [JV,gG,gG] at g4
   exact ⟨by omega,by omega,g3,by omega⟩
theorem QP (L:List Int):∀ (n:Nat) (g:List Tm) (i:Nat),i+700*(n+1)≤1000000→cC g→g.length+n≤10 →
  i≤(vW L n g i).2∧(vW L n g i).2≤i+700*n∧xZ (vW L n g i).1∧cH (vW L n g i).1≤cH g+30000*n
 | 0,g,i,hi,hf,hl=>⟨by simp [vW],by simp [vW],⟨by simp [vW]; omega,hf⟩,by simp [vW]⟩
 | n+1,g,i,hi,hf,hl=>by
   have ht:=tmG L (d:=2) (by omega) i
   have t1:=ht.ge
   have t2:=ht.le (by omega)
   have t3:=ht.wgt
   rw [vW]
   obtain ⟨g1,g2,g3,g4⟩:=QP L n (g++[(eA L 2 i).1]) (eA L 2 i).2 (by omega) (eT _ _ hf ⟨ht.fit,trivial⟩) (by simp; omega)
   rw [yP,cH,cH] at g4
   exact ⟨by omega,by omega,g3,by omega⟩
theorem QQ (L:List Int) (n:Int) {i:Nat} (hi:i+700≤1000000):i≤(xF L n i).2∧(xF L n i).2≤i+690∧xZ (xF L n i).1∧cH (xF L n i).1≤30000∧(xF L n i).1.length≤1:=by
 have ht:=tmG L (d:=3) (by omega) (i+1)
 have t1:=ht.ge
 have t2:=ht.le (by omega)
 have t3:=ht.wgt
 unfold xF
 split
 ·exact ⟨by simp only; omega,by simp only; omega,aML ht.fit,by simp only [cH]; omega,by simp⟩
 ·exact ⟨by simp,by simp,aKI,by simp [cH],by simp⟩
def BI (B:Nat):Nat:=4*(B+800)+9000
def kbM (K:Nat):Nat:=3*K+500000
theorem QR (L:List Int) {st:Nat→Sm×Nat} {B K:Nat} (hst:MkG st B K) (deep:Bool) {j:Nat} (hj:j+BI B≤1000000):j≤(sU L st deep j).2∧(sU L st deep j).2≤j+BI B∧aGj (kbM K) (sU L st deep j).1:=by
 unfold BI at hj ⊢
 obtain ⟨a1,a2,a3,a4,a5⟩:=QN L (aQ L (j+1) 3==0) 4 0 [] (j+2) (by omega) trivial (by simp)
 unfold sU
 simp only
 generalize uJ L 4 (aQ L (j+1) 3==0) 0 [] (j+2)=I at *
 obtain ⟨b1,b2,⟨b3,b6,b7⟩,b5⟩:=BA L hst deep (nm:=[120]) (by simp) (i:=I.2) (by omega)
 generalize nE L st deep [120] I.2=S at *
 have n3:=cT L S.2 (n:=3) (by omega)
 have hm:(aQ L S.2 3).toNat≤2:=by omega
 have hmul:(B+800)*(aQ L S.2 3).toNat≤(B+800)*2:=Nat.mul_le_mul_left _ hm
 have hmul3:(B+800)*((aQ L S.2 3).toNat+1)=(B+800)*(aQ L S.2 3).toNat+(B+800):=Nat.mul_succ _ _
 have hmul2:(K+30100)*(aQ L S.2 3).toNat≤(K+30100)*2:=Nat.mul_le_mul_left _ hm
 obtain ⟨c1,c2,⟨c3,c4,c5⟩,c6⟩:=QO L hst deep (aQ L S.2 3).toNat [] (S.2+1) hm (by omega) ⟨trivial,trivial⟩ (by simp; omega)
 generalize oI L st deep (aQ L S.2 3).toNat [] (S.2+1)=J at *
 obtain ⟨d1,d2,⟨d3,d4⟩,d5,d6⟩:=QQ L 3 (i:=J.2) (by omega)
 generalize xF L 3 J.2=W at *
 have n4:=cT L W.2 (n:=4) (by omega)
 obtain ⟨e1,e2,⟨e3,e4⟩,e5⟩:=QP L (aQ L W.2 4 - 1).toNat [] (W.2+1) (by omega) trivial (by simp; omega)
 generalize hG:vW L (aQ L W.2 4 - 1).toNat [] (W.2+1)=G at *
 obtain ⟨f1,f2,⟨f3,f4⟩,f5,f6⟩:=QQ L 6 (i:=G.2) (by omega)
 generalize xF L 6 G.2=H at *
 refine ⟨by omega,by omega,⟨⟨?_,?_⟩,?_⟩⟩
 ·rw [Sm.fits]
  exact ⟨⟨by omega,a4⟩,⟨by omega,b6⟩,⟨by omega,c4⟩,⟨by omega,d4⟩,⟨by omega,e4⟩,⟨by omega,f4⟩,by simp,trivial⟩
 ·rw [Sm.small]
  exact ⟨by omega,c3,by omega,e3,by omega,b7,c5,trivial⟩
 ·simp only [fU,gG,cH] at a5 c6 e5
  simp only [Sm.wgt,kbM,jK]
  omega
theorem aLJ (L:List Int):MkG (AZ L 1) (BI 0) (kbM 100)∧MkG (AZ L 2) (BI (BI 0)+10) (kbM (kbM 100))∧MkG (AZ L 3) (BI (BI (BI 0)+10)+10) (kbM (kbM (kbM 100))):=by
 have hset:∀ {st:Nat→Sm×Nat} {B K:Nat},MkG st B K→∀ i:Nat,i+(2*B+4)≤1000000→i≤(QM L st i).2∧(QM L st i).2≤i+(2*B+4)∧aGj (kbM K) (QM L st i).1:=fun {st B K} hst i hi=>by
  obtain ⟨h1,h2,⟨h3,h4⟩,h5⟩:=hst (i+2) (by omega)
  unfold QM
  generalize st (i+2)=x at *
  obtain ⟨g1,g2,⟨g3,g4⟩,g5⟩:=hst x.2 (by omega)
  generalize st x.2=y at *
  refine ⟨by simp only; omega,by simp only; omega,⟨⟨?_,?_⟩,?_⟩⟩
  ·rw [Sm.fits]
   exact ⟨⟨by simp,trivial⟩,⟨by simp,trivial⟩,⟨by simp,trivial⟩,⟨by simp,trivial⟩,⟨by simp,trivial⟩,⟨by simp,trivial⟩,by simp,h3,g3,trivial⟩
  ·rw [Sm.small]
   exact ⟨by simp,by simp,by simp,by simp,by simp,trivial,trivial,h4,g4,trivial⟩
  ·simp only [Sm.wgt,kbM,jK,fU,gG,cH,List.length_nil]
   omega
 have h1:MkG (AZ L 1) (BI 0) (kbM 100):=fun j hj=>by
  have hz:AZ L 1 j=sU L (fun _=>(zeS,0)) false j:=by rw [AZ,if_pos rfl]
  rw [hz]
  have hs:∀ (st:Nat→Sm×Nat) (i:Nat) (nm:List UInt8),nE L st false nm i=qK L nm i:=fun st i nm=>by unfold nE; rw [if_neg (by simp)]
  have hzg:MkG (fun j:Nat=>(zeS,j)) 0 100:=fun j _=>⟨Nat.le_refl _,by simp,⟨⟨by rw [zeS,Sm.fits]; exact ⟨⟨by simp,trivial⟩,⟨by simp,trivial⟩,⟨by simp,trivial⟩,⟨by simp,trivial⟩,⟨by simp,trivial⟩,⟨by simp,trivial⟩,by simp,trivial⟩,by rw [zeS,Sm.small]; exact ⟨by simp,by simp,by simp,by simp,by simp,trivial,trivial,trivial⟩⟩,by simp [zeS,Sm.wgt,fU,gG,cH,jK]⟩⟩
  have he:sU L (fun _=>(zeS,0)) false j=sU L (fun j:Nat=>(zeS,j)) false j:=by
   have hj:∀ (n:Nat) (js:List Jo) (i:Nat),oI L (fun _=>(zeS,0)) false n js i=oI L (fun j:Nat=>(zeS,j)) false n js i:=by
    intro n
    induction n with
    | zero=>intro js i; rfl
    | succ n ih=>intro js i; rw [oI,oI,ih]; simp only [ET,hs]
   unfold sU
   simp only [hs,hj]
  rw [he]
  exact QR L hzg false hj
 have h2:MkG (AZ L 2) (BI (BI 0)+10) (kbM (kbM 100)):=fun j hj=>by
  rw [AZ,if_neg (by decide)]
  split
  ·obtain ⟨a,b,c⟩:=hset h1 (j+1) (by unfold BI at *; omega)
   exact ⟨by omega,by unfold BI at *; omega,c⟩
  ·obtain ⟨a,b,c⟩:=QR L h1 true (j:=j+1) (by unfold BI at *; omega)
   exact ⟨by omega,by unfold BI at *; omega,c⟩
 refine ⟨h1,h2,fun j hj=>?_⟩
 rw [AZ,if_neg (by decide)]
 split
 ·obtain ⟨a,b,c⟩:=hset h2 (j+1) (by unfold BI at *; omega)
  exact ⟨by omega,by unfold BI at *; omega,c⟩
 ·obtain ⟨a,b,c⟩:=QR L h2 true (j:=j+1) (by unfold BI at *; omega)
  exact ⟨by omega,by unfold BI at *; omega,c⟩
end Go.Proofs.Tryz
