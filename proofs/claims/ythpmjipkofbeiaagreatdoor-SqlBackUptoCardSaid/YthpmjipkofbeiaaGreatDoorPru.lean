import Derived.Test.YthpmjipkofbeiaaGreatDoorUSqyRow
set_option linter.all false
namespace Go.Proofs.Tryz
open Go.Ab
set_option maxRecDepth 100000
set_option maxHeartbeats 4000000
def EF {α:Type} (r:cY α) (q:α×RS):Prop:=match r with
 | .ok (t,l)=>q=(t,(l,-1))
 | .error p=>q.2.2=(p:Int)
theorem pW {α β:Type} {r:cY α} {q:α×RS} (h:EF r q) {f:α→List Tk→cY β} {g:α×RS→β×RS} (hf:∀ t l,r=.ok (t,l)→EF (f t l) (g (t,(l,-1)))) (hb:∀ q:α×RS,0≤q.2.2→(g q).2=q.2):EF (aR r f) (g q):=by
 cases r with
 | error p =>
   have h':q.2.2=(p:Int):=h
   show (g q).2.2=(p:Int)
   rw [hb q (by omega),h']
 | ok x =>
   obtain ⟨t,l⟩:=x
   have h':q=(t,(l,-1)):=h
   rw [h']
   exact hf t l rfl
theorem UZ {β:Type} {w:List UInt8} {l:List Tk} {f:List Tk→cY β} {g:RS→β×RS} (hf:isW w l=true→EF (f l.tail) (g (l.tail,-1))) (hb:∀ s:RS,0≤s.2→(g s).2=s):EF (cR (cQ [w] l) f) (g (aN w (l,-1))):=by
 rw [IK]
 simp only [cQ]
 split
 ·rename_i h
  exact hf h
 ·show (g (l,(lN l:Int))).2.2=(lN l:Int)
  rw [hb _ (by simp only; omega)]
theorem aOu {β:Type} {w:List UInt8} {l:List Tk} (t:β):EF (cR (cQ [w] l) fun l'=>.ok (t,l')) (t,aN w (l,-1)) :=
 UZ (g:=fun s=>(t,s)) (fun _=>rfl) fun s _=>rfl
theorem aKQ {r:cY Tm} {q:Tm×RS} (h:PU r q):EF r q:=by
 cases r with
 | error p=>exact h
 | ok x=>exact h
theorem aIg {r:cY (List Tm)} {q:List Tm×RS} (h:aKO r q):EF r q:=by
 cases r with
 | error p=>exact h
 | ok x=>exact h
theorem IT {l:List Tk} (hl:okL l):EF (gJ l) (fK (l,-1)):=by
 cases l with
 | nil =>
   have e:fK (([],-1):RS)=([],([],0)):=by simp [fK,jV,jC,eU,lN]
   rw [e]
   rfl
 | cons t r =>
   have ht:=hl t List.mem_cons_self
   unfold fK
   rw [yF ht]
   unfold gJ
   simp only
   by_cases hk:t.kd=1∧bP jZ t.rw=true
   ·rw [if_pos hk]
    have e:(t.kd==1&&bP jZ t.rw)=true:=by simp [hk]
    rw [e,if_pos rfl,cO]
    simp only [eU,List.tail_cons]
    rw [ht.tx (.inl hk.1)]
    rfl
   ·rw [if_neg hk]
    have e:¬ (t.kd==1&&bP jZ t.rw)=true:=by simpa using hk
    rw [if_neg e,kF]
    rfl
theorem aMS (w:List UInt8) (l:List Tk):gZ w (l,-1)=((fB w l).1,((fB w l).2,-1)):=by
 unfold gZ fB
 rw [fP,cO]
 split <;> rfl
theorem aBj {s:RS} (h:0≤s.2) (w:List UInt8):gZ w s=(false,s):=by unfold gZ; rw [iT h]; simp
theorem nQ (w:List UInt8) (l:List Tk):(fB w l).2 <:+ l:=by
 unfold fB
 split
 ·exact bU l
 ·exact List.suffix_refl _
section
variable {tm:List Tk→cY Tm} {st:List Tk→cY Sm} {rt:RS→Tm×RS} {rs:RS→Sm×RS}
variable (hT:∀ l,okL l→EF (tm l) (rt (l,-1))) (hTb:∀ s:RS,0≤s.2→(rt s).2=s) (hTs:∀ l,SfxOk (tm l) l)
variable (hS:∀ l,okL l→EF (st l) (rs (l,-1))) (hSb:∀ s:RS,0≤s.2→(rs s).2=s) (hSs:∀ l,SfxOk (st l) l)
theorem PX {s:RS} (h:0≤s.2):(WY s).2=s:=by unfold WY; rw [iT h]; rfl
theorem aFz {l:List Tk} (hl:okL l):EF (ZY l) (WY (l,-1)):=by
 unfold ZY WY
 rw [fP,cO]
 split
 ·exact IT hl.tl
 ·rfl
theorem PY (l:List Tk):SfxOk (ZY l) l:=by
 unfold ZY
 split
 ·exact (kH _).up (bU l)
 ·exact .ok (List.suffix_refl _)
include hTb in
theorem aFA {s:RS} (h:0≤s.2):(jX rt s).2=s:=by
 unfold jX
 simp only
 rw [hTb s h,PX h]
include hT hTs in
theorem VA {l:List Tk} (hl:okL l):EF (pV tm l) (jX rt (l,-1)):=by
 unfold pV jX
 refine pW (g:=fun x=>(It.mk x.1 (WY x.2).1,(WY x.2).2)) (hT l hl) (fun t l1 h1=>?_) fun x hx=>PX hx
 exact pW (g:=fun x=>(It.mk t x.1,x.2)) (aFz (hl.sfx (hTs _ _ _ h1))) (fun n l2 _=>rfl) fun x _=>rfl
include hTs in
theorem oB (l:List Tk):SfxOk (pV tm l) l:=gS (hTs l) fun t l1 _=>gS (PY l1) fun n l2 _=>.ok (List.suffix_refl _)
theorem CM {s:RS} (h:0≤s.2):∀ (k:Nat) (is:List It),iX rt k is s=(is,s)
 | 0,is=>rfl
 | k+1,is=>by rw [iX,iT h]; simp
include hT hTs in
theorem NA:∀ (k:Nat) (is:List It) (l:List Tk),okL l→EF (gY tm k is l) (iX rt k is (l,-1))
 | 0,is,l,hl=>rfl
 | k+1,is,l,hl=>by
   rw [gY,iX,fP,cO]
   split
   ·exact pW (g:=fun x=>iX rt k (is++[x.1]) x.2) (VA hT hTs hl.tl) (fun i l' h1=>NA k _ l' (hl.tl.sfx (oB hTs _ _ _ h1))) fun x hx=>by rw [CM hx]
   ·rfl
include hTs in
theorem NB:∀ (k:Nat) (is:List It) (l:List Tk),SfxOk (gY tm k is l) l
 | 0,is,l=>.ok (List.suffix_refl _)
 | k+1,is,l=>by
   rw [gY]
   split
   ·exact (gS (oB hTs _) fun i l' _=>NB k _ l').up (bU l)
   ·exact .ok (List.suffix_refl _)
include hSb in
theorem nB {s:RS} (h:0≤s.2):(bC rs s).2=s:=by
 unfold bC
 rw [iT h]
 simp only [Bool.false_eq_true,if_false]
 rw [wO h]
 exact PX h
include hS hSs in
theorem IU {l:List Tk} (hl:okL l):EF (fF st l) (bC rs (l,-1)):=by
 unfold fF bC
 rw [fP,cO]
 split
 ·refine pW (g:=fun x=>(([],[x.1],(fK (aN rV (aN aY x.2))).1),(fK (aN rV (aN aY x.2))).2)) (hS _ hl.tl) (fun x l1 h1=>?_) fun x hx=>by simp only; rw [fI hx,fI hx,wO hx]
  have hl1:=hl.tl.sfx (hSs _ _ _ h1)
  have e:∀ f:List Tk→cY So,cR (cQ [aY,rV] l1) f=cR (cQ [aY] l1) fun l2=>cR (cQ [rV] l2) f:=fun f=>by
   simp only [cQ]
   split <;> rfl
  rw [e]
  refine UZ (g:=fun s=>(([],[x],(fK (aN rV s)).1),(fK (aN rV s)).2)) (fun _=>?_) fun s hs=>by simp only; rw [fI hs,wO hs]
  refine UZ (g:=fun s=>(([],[x],(fK s).1),(fK s).2)) (fun _=>?_) fun s hs=>by simp only; rw [wO hs]
  exact pW (g:=fun n=>(([],[x],n.1),n.2)) (IT hl1.tl.tl) (fun n l3 _=>rfl) fun x _=>rfl
 ·refine pW (g:=fun t=>((t.1,[],(WY t.2).1),(WY t.2).2)) (IT hl) (fun t l1 h1=>?_) fun x hx=>PX hx
  exact pW (g:=fun x=>((t,[],x.1),x.2)) (aFz (hl.sfx (kH _ _ _ h1))) (fun n l2 _=>rfl) fun x _=>rfl
include hSs in
theorem kI (l:List Tk):SfxOk (fF st l) l:=by
 unfold fF
 split
 ·exact (gS (hSs _) fun x l1 _=>rR fun l2=>gS (kH l2) fun n l3 _=>.ok (List.suffix_refl _)).up (bU l)
 ·exact gS (kH l) fun t l1 _=>gS (PY l1) fun n l2 _=>.ok (List.suffix_refl _)
include hTb hSb in
def rB (k:Nat):Nat:=if 6<k then 0 else max k 1
include hT hTb hS hSs hSb in
theorem VB (k:Nat) {l:List Tk} (hl:okL l):EF (lC tm st k l) (oN rt rs (rB k) (l,-1)):=by
 unfold lC oN
 refine UZ (g:=fun s=>if rB k=0 then (Jo.mk 0 (bC rs s).1.1 (bC rs s).1.2.1 (bC rs s).1.2.2 [],(bC rs s).2) else (Jo.mk (rB k:Nat) (bC rs s).1.1 (bC rs s).1.2.1 (bC rs s).1.2.2 [(rt (aN yG (bC rs s).2)).1],(rt (aN yG (bC rs s).2)).2)) (fun _=>?_) fun s hs=>?_
 ·refine pW (g:=fun x=>if rB k=0 then (Jo.mk 0 x.1.1 x.1.2.1 x.1.2.2 [],x.2) else (Jo.mk (rB k:Nat) x.1.1 x.1.2.1 x.1.2.2 [(rt (aN yG x.2)).1],(rt (aN yG x.2)).2)) (IU hS hSs hl.tl) (fun s l2 h2=>?_) fun x hx=>?_
  ·have hl2:=hl.tl.sfx (kI hSs _ _ _ h2)
   by_cases hk:6<k
   ·have e:rB k=0:=by unfold rB; rw [if_pos hk]
    rw [if_pos hk]
    simp only [e,if_true]
    rfl
   ·have e:rB k=max k 1:=by unfold rB; rw [if_neg hk]
    have e0:¬ rB k=0:=by omega
    rw [if_neg hk]
    simp only [e0,if_false]
    refine UZ (g:=fun x=>(Jo.mk (rB k:Nat) s.1 s.2.1 s.2.2 [(rt x).1],(rt x).2)) (fun _=>?_) fun x hx=>hTb x hx
    exact pW (g:=fun x=>(Jo.mk (rB k:Nat) s.1 s.2.1 s.2.2 [x.1],x.2)) (hT _ hl2.tl) (fun t l4 _=>by rw [e]; rfl) fun x _=>rfl
  ·split
   ·rfl
   ·rw [fI hx,hTb _ hx]
 ·split
  ·exact nB hSb hs
  ·rw [nB hSb hs,fI hs,hTb _ hs]
include hTs hSs in
theorem oC (k:Nat) (l:List Tk):SfxOk (lC tm st k l) l:=by
 unfold lC
 refine rR fun l1=>gS (kI hSs l1) fun s l2 _=>?_
 split
 ·exact .ok (List.suffix_refl _)
 ·exact rR fun l3=>gS (hTs l3) fun t l4 _=>.ok (List.suffix_refl _)
theorem nC {s:RS} (h:0≤s.2):∀ (k:Nat) (js:List Jo),dO rt rs k js s=(js,s)
 | 0,js=>rfl
 | k+1,js=>by rw [dO,if_pos h]
theorem aDt (l:List Tk):(bN LM l).map (fun i=>i)=(bN joiW l).map fun i=>rB (i+1):=by
 cases l with
 | nil=>rw [mL,mL]; rfl
 | cons t r =>
   unfold bN LM joiW isW
   cases hk:(t.kd==1||t.kd==4) with
   | false=>simp only [hk,Bool.false_and,List.findIdx?_cons,List.findIdx?_nil]; rfl
   | true =>
     simp only [hk,Bool.true_and,List.findIdx?_cons,List.findIdx?_nil,beq_iff_eq]
     by_cases a1:t.rw=[99,114,111,115,115]
     ·rw [a1]; decide
     by_cases a2:t.rw=[105,110,110,101,114]
     ·rw [a2]; decide
     by_cases a3:t.rw=[108,101,102,116]
     ·rw [a3]; decide
     by_cases a4:t.rw=[114,105,103,104,116]
     ·rw [a4]; decide
     by_cases a5:t.rw=[102,117,108,108]
     ·rw [a5]; decide
     by_cases a6:t.rw=[115,101,109,105]
     ·rw [a6]; decide
     by_cases a7:t.rw=[97,110,116,105]
     ·rw [a7]; decide
     simp [a1,a2,a3,a4,a5,a6,a7]
include hT hTb hTs hS hSb hSs in
theorem CN:∀ (k:Nat) (js:List Jo) (l:List Tk),okL l→EF (fS tm st k js l) (dO rt rs k js (l,-1))
 | 0,js,l,hl=>rfl
 | k+1,js,l,hl=>by
   rw [fS,dO,if_neg (show ¬ (0:Int)≤((l,-1):RS).2 by simp),lV]
   have ho:=aDt l
   cases h1:bN joiW l with
   | none =>
     rw [h1] at ho
     have h2:bN LM l=none:=by simpa using ho
     rw [h2]
     simp only
     rw [fP]
     split
     ·exact pW (g:=fun x=>dO rt rs k (js++[x.1]) x.2) (VB hT hTb hS hSb hSs 0 hl) (fun j l' h=>CN k _ l' (hl.sfx (oC hTs hSs 0 _ _ _ h))) fun x hx=>by rw [nC hx]
     ·rfl
   | some i =>
     rw [h1] at ho
     have h2:bN LM l=some (rB (i+1)):=by simpa using ho
     rw [h2]
     simp only [cO]
     exact pW (g:=fun x=>dO rt rs k (js++[x.1]) x.2) (VB hT hTb hS hSb hSs (i+1) hl.tl) (fun j l' h=>CN k _ l' (hl.tl.sfx (oC hTs hSs _ _ _ _ h))) fun x hx=>by rw [nC hx]
include hTs hSs in
theorem sO:∀ (k:Nat) (js:List Jo) (l:List Tk),SfxOk (fS tm st k js l) l
 | 0,js,l=>.ok (List.suffix_refl _)
 | k+1,js,l=>by
   rw [fS]
   split
   ·exact (gS (oC hTs hSs _ _) fun j l' _=>sO k _ l').up (bU l)
   ·split
    ·exact gS (oC hTs hSs _ _) fun j l' _=>sO k _ l'
    ·exact .ok (List.suffix_refl _)
theorem rC (w:List UInt8) {s:RS} (h:0≤s.2):gT rt w s=([],s):=by unfold gT; rw [iT h]; simp
include hT in
theorem aBk (w:List UInt8) {l:List Tk} (hl:okL l):EF (vK tm w l) (gT rt w (l,-1)):=by
 unfold vK gT
 rw [fP,cO]
 split
 ·exact pW (g:=fun x=>([x.1],x.2)) (hT _ hl.tl) (fun t l' _=>rfl) fun x _=>rfl
 ·rfl
include hTs in
theorem AI (w:List UInt8) (l:List Tk):SfxOk (vK tm w l) l:=by
 unfold vK
 split
 ·exact (gS (hTs _) fun t l' _=>.ok (List.suffix_refl _)).up (bU l)
 ·exact .ok (List.suffix_refl _)
theorem nD {s:RS} (h:0≤s.2):fM rt s=([],s):=by unfold fM; rw [iT h]; simp
include hT hTb hTs in
theorem aDu {l:List Tk} (hl:okL l):EF (mN tm l) (fM rt (l,-1)):=by
 unfold mN fM
 rw [fP,cO]
 split
 ·refine UZ (g:=fun s=>gK rt (rt s).2.1.length [(rt s).1] (rt s).2) (fun _=>?_) fun s hs=>by simp only [hTb s hs]; rw [vJ hs]
  refine pW (g:=fun x=>gK rt x.2.1.length [x.1] x.2) (hT _ hl.tl.tl) (fun t l2 h2=>?_) fun x hx=>by rw [vJ hx]
  exact aIg (IL (fun l hl=>by
   have:=hT l hl
   cases hr:tm l with
   | error p=>rw [hr] at this; exact this
   | ok x=>rw [hr] at this; exact this) hTs _ _ l2 (hl.tl.tl.sfx (hTs _ _ _ h2)))
 ·rfl
include hTs in
theorem CO (l:List Tk):SfxOk (mN tm l) l:=by
 unfold mN
 split
 ·exact (rR fun l1=>gS (hTs l1) fun t l2 _=>AG hTs _ _ l2).up (bU l)
 ·exact .ok (List.suffix_refl _)
include hTb in
theorem VC {s:RS} (h:0≤s.2):(kW rt s).2=s:=by
 unfold kW
 rw [iT h]
 simp only [Bool.false_eq_true,if_false]
 rw [aFA hTb h,CM h]
include hT hTs in
theorem aFB {l:List Tk} (hl:okL l):EF (rA tm l) (kW rt (l,-1)):=by
 unfold rA kW
 rw [fP,cO]
 split
 ·rfl
 ·exact pW (g:=fun x=>iX rt x.2.1.length [x.1] x.2) (VA hT hTs hl) (fun i l' h=>NA hT hTs _ _ l' (hl.sfx (oB hTs _ _ _ h))) fun x hx=>by rw [CM hx]
include hTs in
theorem IV (l:List Tk):SfxOk (rA tm l) l:=by
 unfold rA
 split
 ·exact .ok (bU l)
 ·exact gS (oB hTs l) fun i l' _=>NB hTs _ _ l'
include hTb hSb in
theorem aIh {s:RS} (h:0≤s.2):(IS rt rs s).2=s:=by
 unfold IS
 simp only [fI h,aBj h,VC hTb h,nB hSb h,nC h,rC _ h,nD h]
include hT hTb hTs hS hSb hSs in
theorem aIi {l:List Tk} (hl:okL l):EF (vL tm st l) (IS rt rs (l,-1)):=by
 unfold vL IS
 refine UZ (g:=fun s0 =>
  (Sm.mk 1 false (gZ aO s0).1 (dJ fV (gZ aO s0).2) (kW rt (gZ aO s0).2).1 (bC rs (aN wFrom (kW rt (gZ aO s0).2).2)).1.1 (bC rs (aN wFrom (kW rt (gZ aO s0).2).2)).1.2.1 (bC rs (aN wFrom (kW rt (gZ aO s0).2).2)).1.2.2
   (dO rt rs (bC rs (aN wFrom (kW rt (gZ aO s0).2).2)).2.1.length [] (bC rs (aN wFrom (kW rt (gZ aO s0).2).2)).2).1
   (gT rt wWhere (dO rt rs (bC rs (aN wFrom (kW rt (gZ aO s0).2).2)).2.1.length [] (bC rs (aN wFrom (kW rt (gZ aO s0).2).2)).2).2).1
   (fM rt (gT rt wWhere (dO rt rs (bC rs (aN wFrom (kW rt (gZ aO s0).2).2)).2.1.length [] (bC rs (aN wFrom (kW rt (gZ aO s0).2).2)).2).2).2).1
   (gT rt wHaving (fM rt (gT rt wWhere (dO rt rs (bC rs (aN wFrom (kW rt (gZ aO s0).2).2)).2.1.length [] (bC rs (aN wFrom (kW rt (gZ aO s0).2).2)).2).2).2).2).1 [],
  (gT rt wHaving (fM rt (gT rt wWhere (dO rt rs (bC rs (aN wFrom (kW rt (gZ aO s0).2).2)).2.1.length [] (bC rs (aN wFrom (kW rt (gZ aO s0).2).2)).2).2).2).2).2)) (fun _=>?_) fun s hs=>by
   simp only [fI hs,aBj hs,VC hTb hs,nB hSb hs,nC hs,rC _ hs,nD hs]
 simp only [aMS,fP]
 have hl1:=hl.tl.sfx (nQ aO l.tail)
 generalize hd:(fB aO l.tail).1=dd
 generalize hm:(fB aO l.tail).2=m at *
 generalize hst:isW fV m=sb
 refine pW (g:=fun x=>(Sm.mk 1 false dd sb x.1 (bC rs (aN wFrom x.2)).1.1 (bC rs (aN wFrom x.2)).1.2.1 (bC rs (aN wFrom x.2)).1.2.2
   (dO rt rs (bC rs (aN wFrom x.2)).2.1.length [] (bC rs (aN wFrom x.2)).2).1
   (gT rt wWhere (dO rt rs (bC rs (aN wFrom x.2)).2.1.length [] (bC rs (aN wFrom x.2)).2).2).1
   (fM rt (gT rt wWhere (dO rt rs (bC rs (aN wFrom x.2)).2.1.length [] (bC rs (aN wFrom x.2)).2).2).2).1
   (gT rt wHaving (fM rt (gT rt wWhere (dO rt rs (bC rs (aN wFrom x.2)).2.1.length [] (bC rs (aN wFrom x.2)).2).2).2).2).1 [],
  (gT rt wHaving (fM rt (gT rt wWhere (dO rt rs (bC rs (aN wFrom x.2)).2.1.length [] (bC rs (aN wFrom x.2)).2).2).2).2).2)) (aFB hT hTs hl1) (fun is l2 h2=>?_) fun x hx=>by
   simp only [fI hx,nB hSb hx,nC hx,rC _ hx,nD hx]
 have hl2:=hl1.sfx (IV hTs _ _ _ h2)
 refine UZ (g:=fun s=>(Sm.mk 1 false dd sb is (bC rs s).1.1 (bC rs s).1.2.1 (bC rs s).1.2.2
   (dO rt rs (bC rs s).2.1.length [] (bC rs s).2).1
   (gT rt wWhere (dO rt rs (bC rs s).2.1.length [] (bC rs s).2).2).1
   (fM rt (gT rt wWhere (dO rt rs (bC rs s).2.1.length [] (bC rs s).2).2).2).1
   (gT rt wHaving (fM rt (gT rt wWhere (dO rt rs (bC rs s).2.1.length [] (bC rs s).2).2).2).2).1 [],
  (gT rt wHaving (fM rt (gT rt wWhere (dO rt rs (bC rs s).2.1.length [] (bC rs s).2).2).2).2).2)) (fun _=>?_) fun s hs=>by
   simp only [nB hSb hs,nC hs,rC _ hs,nD hs]
 refine pW (g:=fun x:So×RS=>(Sm.mk 1 false dd sb is x.1.1 x.1.2.1 x.1.2.2
   (dO rt rs x.2.1.length [] x.2).1
   (gT rt wWhere (dO rt rs x.2.1.length [] x.2).2).1
   (fM rt (gT rt wWhere (dO rt rs x.2.1.length [] x.2).2).2).1
   (gT rt wHaving (fM rt (gT rt wWhere (dO rt rs x.2.1.length [] x.2).2).2).2).1 [],
  (gT rt wHaving (fM rt (gT rt wWhere (dO rt rs x.2.1.length [] x.2).2).2).2).2)) (IU hS hSs hl2.tl) (fun s l4 h4=>?_) fun x hx=>by
   simp only [nC hx,rC _ hx,nD hx]
 have hl4:=hl2.tl.sfx (kI hSs _ _ _ h4)
 refine pW (g:=fun x=>(Sm.mk 1 false dd sb is s.1 s.2.1 s.2.2 x.1 (gT rt wWhere x.2).1 (fM rt (gT rt wWhere x.2).2).1 (gT rt wHaving (fM rt (gT rt wWhere x.2).2).2).1 [],
  (gT rt wHaving (fM rt (gT rt wWhere x.2).2).2).2)) (CN hT hTb hTs hS hSb hSs _ _ l4 hl4) (fun js l5 h5=>?_) fun x hx=>by
   simp only [rC _ hx,nD hx]
 have hl5:=hl4.sfx (sO hTs hSs _ _ _ _ _ h5)
 refine pW (g:=fun x=>(Sm.mk 1 false dd sb is s.1 s.2.1 s.2.2 js x.1 (fM rt x.2).1 (gT rt wHaving (fM rt x.2).2).1 [],(gT rt wHaving (fM rt x.2).2).2)) (aBk hT wWhere hl5) (fun w l6 h6=>?_) fun x hx=>by
   simp only [rC _ hx,nD hx]
 have hl6:=hl5.sfx (AI hTs wWhere _ _ _ h6)
 refine pW (g:=fun x=>(Sm.mk 1 false dd sb is s.1 s.2.1 s.2.2 js w x.1 (gT rt wHaving x.2).1 [],(gT rt wHaving x.2).2)) (aDu hT hTb hTs hl6) (fun g l7 h7=>?_) fun x hx=>by
   simp only [rC _ hx]
 have hl7:=hl6.sfx (CO hTs _ _ _ h7)
 exact pW (g:=fun x=>(Sm.mk 1 false dd sb is s.1 s.2.1 s.2.2 js w g x.1 [],x.2)) (aBk hT wHaving hl7) (fun h l8 _=>rfl) fun x _=>rfl
include hTs hSs in
theorem aIj (l:List Tk):SfxOk (vL tm st l) l:=by
 unfold vL
 refine rR fun l1=>(gS (IV hTs _) fun is l2 _=>rR fun l3=>gS (kI hSs l3) fun s l4 _=>gS (sO hTs hSs _ _ l4) fun js l5 _=>gS (AI hTs _ l5) fun w l6 _=>gS (CO hTs l6) fun g l7 _=>gS (AI hTs _ l7) fun h l8 _=>.ok (List.suffix_refl _)).up (nQ _ _)
include hTb hSb in
theorem aFC {s:RS} (h:0≤s.2):(hU rt rs s).2=s:=by
 unfold hU
 rw [iT h]
 simp only [Bool.false_eq_true,if_false]
 exact aIh hTb hSb h
include hT hTb hTs hS hSb hSs in
theorem VD {l:List Tk} (hl:okL l):EF (jQ tm st l) (hU rt rs (l,-1)):=by
 unfold jQ hU
 rw [fP,cO]
 split
 ·exact pW (g:=fun x=>(x.1,aN aY x.2)) (hS _ hl.tl) (fun x l1 _=>aOu _) fun x hx=>fI hx _
 ·exact aIi hT hTb hTs hS hSb hSs hl
include hTs hSs in
theorem lD (l:List Tk):SfxOk (jQ tm st l) l:=by
 unfold jQ
 split
 ·exact (gS (hSs _) fun x l1 _=>rR fun l2=>.ok (List.suffix_refl _)).up (bU l)
 ·exact aIj hTs hSs l
theorem IW {s:RS} (h:0≤s.2):∀ (k:Nat) (x:Sm),lX rt rs k x s=(x,s)
 | 0,x=>rfl
 | k+1,x=>by rw [lX,vI h]
include hT hTb hTs hS hSb hSs in
theorem VE:∀ (k:Nat) (x:Sm) (l:List Tk),okL l→EF (fW tm st k x l) (lX rt rs k x (l,-1))
 | 0,x,l,hl=>rfl
 | k+1,x,l,hl=>by
   rw [fW,lX,lV]
   cases h1:bN setW l with
   | none=>rfl
   | some i =>
     simp only [cO,aMS]
     have hl1:=hl.tl.sfx (nQ gM l.tail)
     exact pW (g:=fun y=>lX rt rs k (uI i (fB gM l.tail).1 x y.1) y.2) (VD hT hTb hTs hS hSb hSs hl1) (fun y l' h=>VE k _ l' (hl1.sfx (lD hTs hSs _ _ _ h))) fun y hy=>by rw [IW hy]
include hTs hSs in
theorem VF:∀ (k:Nat) (x:Sm) (l:List Tk),SfxOk (fW tm st k x l) l
 | 0,x,l=>.ok (List.suffix_refl _)
 | k+1,x,l=>by
   rw [fW]
   split
   ·exact .ok (List.suffix_refl _)
   ·exact (gS (lD hTs hSs _) fun y l' _=>VF k _ l').up ((nQ _ _).trans (bU l))
end
theorem aMT (N:Nat):∀ l,okL l→EF (bA N 0 l) (bK N 0 (l,-1)):=fun l hl=>aKQ (fX N 0 l hl)
theorem CP (N:Nat):∀ (n:Nat) (s:RS),0≤s.2→(kX N n s).2=s
 | 0,s,h=>by rw [kX,sL h]
 | n+1,s,h=>by
   rw [kX]
   have e:=aFC (rt:=bK N 0) (rs:=kX N n) (iC N 0) (CP N n) h
   rw [e,IW h]
theorem iY (N:Nat):∀ (n:Nat) (l:List Tk),SfxOk (eV N n l) l
 | 0,l=>.err _
 | n+1,l=>by
   rw [eV]
   exact gS (lD (aV N 0) (iY N n) l) fun x l' _=>VF (aV N 0) (iY N n) _ _ l'
theorem IX (N:Nat):∀ (n:Nat) (l:List Tk),okL l→EF (eV N n l) (kX N n (l,-1))
 | 0,l,hl=>by rw [eV,kX]; rfl
 | n+1,l,hl=>by
   rw [eV,kX]
   exact pW (g:=fun x=>lX (bK N 0) (kX N n) x.2.1.length x.1 x.2) (VD (aMT N) (iC N 0) (aV N 0) (IX N n) (CP N n) (iY N n) hl) (fun x l' h=>VE (aMT N) (iC N 0) (aV N 0) (IX N n) (CP N n) (iY N n) _ _ l' (hl.sfx (lD (aV N 0) (iY N n) _ _ _ h))) fun x hx=>by rw [IW hx]
end Go.Proofs.Tryz
