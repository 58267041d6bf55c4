import Derived.Test.YthpmjipkofbeiaaGreatDoorURlv
import Derived.Test.YthpmjipkofbeiaaGreatDoorUSWow
set_option linter.all false
namespace Go.Proofs.Tryz
open Go.Ab
set_option maxRecDepth 100000
set_option maxHeartbeats 16000000
def Fit {α:Type} (P:α→Prop) (r:cY α):Prop:=∀ t m,r=.ok (t,m)→P t
theorem Fit.ok {α:Type} {P:α→Prop} {t:α} {m:List Tk} (h:P t):Fit P (.ok (t,m)):=fun _ _ e=>by cases e; exact h
theorem oU {α β:Type} {P:α→Prop} {Q:β→Prop} {r:cY α} {l:List Tk} (hs:SfxOk r l) (hr:Fit P r) {f:α→List Tk→cY β} (h:∀ t m,P t→m.length≤l.length→Fit Q (f t m)):Fit Q (aR r f):=by
 cases hr':r with
 | error p=>exact fun _ _ e=>by cases e
 | ok x=>obtain ⟨t,m⟩:=x; exact h t m (hr t m hr') (qZ hs hr')
theorem ZR {β:Type} {Q:β→Prop} {ws:List (List UInt8)} {l:List Tk} {f:List Tk→cY β} (h:∀ m,m.length≤l.length→Fit Q (f m)):Fit Q (cR (cQ ws l) f):=by
 cases hr:cQ ws l with
 | error p=>exact fun _ _ e=>by cases e
 | ok m=>exact h m (AC hr)
def sG (x:Sm):Prop:=x.fits∧x.small
def aFl (s:So):Prop:=s.2.1.length≤1∧mJ s.2.1∧lB s.2.1
def aJN (j:Jo):Prop:=j.fits∧j.small
def aFm (l:List Jo):Prop:=l.length≤10000∧iI l∧gX l
def xZ (l:List Tm):Prop:=l.length≤10000∧cC l
def aFn (l:List It):Prop:=l.length≤10000∧cC (l.map It.t)
theorem qY:∀ (a b:List Jo),iI a→iI b→iI (a++b)
 | [],b,_,hb=>hb
 | x::a,b,ha,hb=>by
   rw [iI] at ha
   rw [List.cons_append,iI]
   exact ⟨ha.1,qY a b ha.2 hb⟩
theorem oV:∀ (a b:List Jo),gX a→gX b→gX (a++b)
 | [],b,_,hb=>hb
 | x::a,b,ha,hb=>by
   rw [gX] at ha
   rw [List.cons_append,gX]
   exact ⟨ha.1,oV a b ha.2 hb⟩
theorem aKI:xZ []:=⟨by decide,trivial⟩
theorem aML {t:Tm} (h:t.fits):xZ [t]:=⟨by simp,h,trivial⟩
theorem MR (l:List Tk):Fit (fun _=>True) (gJ l):=fun _ _ _=>trivial
theorem aAZ (l:List Tk):Fit (fun _=>True) (ZY l):=fun _ _ _=>trivial
theorem vF (l:List Tk):l.tail.length≤l.length:=by simp
section
variable {tm:List Tk→cY Tm} {st:List Tk→cY Sm} (hT:∀ l,SfxOk (tm l) l) (hS:∀ l,SfxOk (st l) l)
variable (hf:∀ l,l.length≤9000→Fit Tm.fits (tm l)) (hg:∀ l,l.length≤9000→Fit sG (st l))
include hT hf in
theorem TW {l:List Tk} (hl:l.length≤9000):Fit (fun i:It=>i.t.fits) (pV tm l) :=
 oU (hT l) (hf l hl) fun t l1 ht _=>oU (PY l1) (aAZ l1) fun n l2 _ _=>.ok ht
include hT hf in
theorem MS:∀ (k:Nat) (is:List It) (l:List Tk),l.length≤9000→cC (is.map It.t)→is.length+k≤10000→Fit aFn (gY tm k is l)
 | 0,is,l,_,h,hk=>.ok ⟨by omega,h⟩
 | k+1,is,l,hl,h,hk=>by
   rw [gY]
   split
   ·have h1:=vF l
    refine oU (oB hT _) (TW hT hf (by omega)) fun i l' hi hl'=>MS k _ _ (by omega) ?_ (by simp; omega)
    rw [List.map_append]
    exact eT _ _ h ⟨hi,trivial⟩
   ·exact .ok ⟨by omega,h⟩
include hS hg in
theorem IC {l:List Tk} (hl:l.length≤9000):Fit aFl (fF st l):=by
 unfold fF
 have h1:=vF l
 split
 ·exact oU (hS _) (hg _ (by omega)) fun x l1 hx _=>ZR fun l2 _=>oU (kH l2) (MR l2) fun n l3 _ _=>.ok ⟨by simp,⟨hx.1,trivial⟩,hx.2,trivial⟩
 ·exact oU (kH l) (MR l) fun t l1 _ _=>oU (PY l1) (aAZ l1) fun n l2 _ _=>.ok ⟨by simp,trivial,trivial⟩
include hT hS hf hg in
theorem TX (k:Nat) {l:List Tk} (hl:l.length≤9000):Fit aJN (lC tm st k l):=by
 unfold lC
 refine ZR fun l1 h1=>oU (kI hS l1) (IC hS hg (by omega)) fun s l2 hs h2=>?_
 have hq:s.2.1.length≤9223372036854775807:=by have:=hs.1; omega
 split
 ·refine .ok ⟨?_,?_⟩
  ·rw [Jo.fits]; exact ⟨⟨hq,hs.2.1⟩,by decide,trivial⟩
  ·rw [Jo.small]; exact ⟨by decide,hs.2.2⟩
 ·refine ZR fun l3 h3=>oU (hT l3) (hf l3 (by omega)) fun t l4 ht h4=>.ok ⟨?_,?_⟩
  ·rw [Jo.fits]; exact ⟨⟨hq,hs.2.1⟩,by simp,ht,trivial⟩
  ·rw [Jo.small]; exact ⟨by simp,hs.2.2⟩
include hT hS hf hg in
theorem CG:∀ (k:Nat) (js:List Jo) (l:List Tk),l.length≤9000→iI js∧gX js→js.length+k≤10000→Fit aFm (fS tm st k js l)
 | 0,js,l,_,h,hk=>.ok ⟨by omega,h⟩
 | k+1,js,l,hl,h,hk=>by
   have h1:=vF l
   rw [fS]
   split
   ·exact oU (oC hT hS _ _) (TX hT hS hf hg _ (by omega)) fun j l' hj hl'=>CG k _ _ (by omega) ⟨qY _ _ h.1 ⟨hj.1,trivial⟩,oV _ _ h.2 ⟨hj.2,trivial⟩⟩ (by simp; omega)
   ·split
    ·exact oU (oC hT hS _ _) (TX hT hS hf hg _ (by omega)) fun j l' hj hl'=>CG k _ _ (by omega) ⟨qY _ _ h.1 ⟨hj.1,trivial⟩,oV _ _ h.2 ⟨hj.2,trivial⟩⟩ (by simp; omega)
    ·exact .ok ⟨by omega,h⟩
include hT hf in
theorem aBa (w:List UInt8) {l:List Tk} (hl:l.length≤9000):Fit xZ (vK tm w l):=by
 have h1:=vF l
 unfold vK
 split
 ·exact oU (hT _) (hf _ (by omega)) fun t l' ht _=>.ok (aML ht)
 ·exact .ok aKI
include hT hf in
theorem MT:∀ (k:Nat) (ks:List Tm) (l:List Tk),l.length≤9000→cC ks→ks.length+k≤10000→Fit xZ (fA tm k ks l)
 | 0,ks,l,_,h,hk=>.ok ⟨by omega,h⟩
 | k+1,ks,l,hl,h,hk=>by
   have h1:=vF l
   rw [fA]
   split
   ·exact oU (hT _) (hf _ (by omega)) fun t l' ht hl'=>MT k _ _ (by omega) (eT _ _ h ⟨ht,trivial⟩) (by simp; omega)
   ·exact .ok ⟨by omega,h⟩
include hT hf in
theorem aDm {l:List Tk} (hl:l.length≤9000):Fit xZ (mN tm l):=by
 have h1:=vF l
 unfold mN
 split
 ·exact ZR fun l1 hl1=>oU (hT _) (hf _ (by omega)) fun t l2 ht hl2=>MT hT hf _ _ _ (by omega) ⟨ht,trivial⟩ (by simp; omega)
 ·exact .ok aKI
include hT hf in
theorem aFo {l:List Tk} (hl:l.length≤9000):Fit aFn (rA tm l):=by
 unfold rA
 split
 ·exact .ok ⟨by decide,trivial⟩
 ·exact oU (oB hT _) (TW hT hf hl) fun i l' hi hl'=>MS hT hf _ _ _ (by omega) ⟨hi,trivial⟩ (by simp; omega)
include hT hS hf hg in
theorem aHV {l:List Tk} (hl:l.length≤9000):Fit sG (vL tm st l):=by
 unfold vL
 refine ZR fun l1 h1=>?_
 have hd:=nP aO l1
 refine oU (IV hT _) (aFo hT hf (by omega)) fun is l2 hi h2=>ZR fun l3 h3=>oU (kI hS l3) (IC hS hg (by omega)) fun s l4 hs h4=>?_
 refine oU (sO hT hS _ _ l4) (CG hT hS hf hg l4.length [] l4 (by omega) ⟨trivial,trivial⟩ (by simp; omega)) fun js l5 hj h5=>?_
 refine oU (AI hT _ l5) (aBa hT hf _ (by omega)) fun w l6 hw h6=>oU (CO hT l6) (aDm hT hf (by omega)) fun g l7 hgr h7=>?_
 refine oU (AI hT _ l7) (aBa hT hf _ (by omega)) fun h l8 hh h8=>.ok ⟨?_,?_⟩
 ·rw [Sm.fits]
  have e1:=hi.1
  have e2:=hs.1
  have e3:=hj.1
  have e4:=hw.1
  have e5:=hgr.1
  have e6:=hh.1
  exact ⟨⟨by omega,hi.2⟩,⟨by omega,hs.2.1⟩,⟨by omega,hj.2.1⟩,⟨by omega,hw.2⟩,⟨by omega,hgr.2⟩,⟨by omega,hh.2⟩,by decide,trivial⟩
 ·rw [Sm.small]
  exact ⟨hi.1,hj.1,hw.1,hgr.1,hh.1,hs.2.2,hj.2.2,trivial⟩
include hT hS hf hg in
theorem TY {l:List Tk} (hl:l.length≤9000):Fit sG (jQ tm st l):=by
 have h1:=vF l
 unfold jQ
 split
 ·exact oU (hS _) (hg _ (by omega)) fun x l1 hx _=>ZR fun l2 _=>.ok hx
 ·exact aHV hT hS hf hg hl
theorem aFp (i:Nat) (a:Bool) {x y:Sm} (hx:sG x) (hy:sG y):sG (uI i a x y):=by
 unfold uI
 refine ⟨?_,?_⟩
 ·rw [Sm.fits]
  exact ⟨⟨by decide,trivial⟩,⟨by decide,trivial⟩,⟨by decide,trivial⟩,⟨by decide,trivial⟩,⟨by decide,trivial⟩,⟨by decide,trivial⟩,by simp,hx.1,hy.1,trivial⟩
 ·rw [Sm.small]
  exact ⟨by decide,by decide,by decide,by decide,by decide,trivial,trivial,hx.2,hy.2,trivial⟩
include hT hS hf hg in
theorem TZ:∀ (k:Nat) (x:Sm) (l:List Tk),l.length≤9000→sG x→Fit sG (fW tm st k x l)
 | 0,x,l,_,h=>.ok h
 | k+1,x,l,hl,h=>by
   have h1:=vF l
   have h2:=nP gM l.tail
   rw [fW]
   split
   ·exact .ok h
   ·exact oU (lD hT hS _) (TY hT hS hf hg (by omega)) fun y l' hy hl'=>TZ k _ _ (by omega) (aFp _ _ h hy)
end
theorem wK (N:Nat):∀ (n:Nat) (l:List Tk),l.length≤9000→Fit sG (eV N n l)
 | 0,l,_=>fun _ _ e=>by cases e
 | n+1,l,hl=>by
   have hf:∀ l:List Tk,l.length≤9000→Fit Tm.fits (bA N 0 l):=fun l hl=>iB N 0 l (by omega)
   rw [eV]
   exact oU (lD (aV N 0) (iY N n) l) (TY (aV N 0) (iY N n) hf (wK N n) hl) fun x l' hx hl'=>TZ (aV N 0) (iY N n) hf (wK N n) _ _ _ (by omega) hx
noncomputable def QL:Code:=(Tryz.f116.body).getD .skip
abbrev AX:Nat:=108
@[simp] def xM:List AV:=[.d (.int .i64 0),.d (.bool false),.d (.bool false),.d (.bool false),.nils,.d (.str []),.nils,.d (.str []),.nils,.nils,.nils,.nils,.nils]
section
variable (tm:List Tk→cY Tm) (st:List Tk→cY Sm)
def AY (d sb:Bool) (is:List It) (so:So) (js:List Jo) (w g:List Tm) (l:List Tk):cY Sm:=aR (vK tm wHaving l) fun h l8=>.ok (.mk 1 false d sb is so.1 so.2.1 so.2.2 js w g h [],l8)
def WA (d sb:Bool) (is:List It) (so:So) (js:List Jo) (w:List Tm) (l:List Tk):cY Sm:=aR (mN tm l) fun g l7=>AY tm d sb is so js w g l7
def NM (d sb:Bool) (is:List It) (so:So) (js:List Jo) (l:List Tk):cY Sm:=aR (vK tm wWhere l) fun w l6=>WA tm d sb is so js w l6
def aJY (d sb:Bool) (is:List It) (so:So) (l:List Tk):cY Sm:=aR (joC tm st [] l) fun js l5=>NM tm d sb is so js l5
def vU (d sb:Bool) (is:List It) (l:List Tk):cY Sm:=cR (cQ [wFrom] l) fun l3=>aR (fF st l3) fun so l4=>aJY tm st d sb is so l4
theorem aIQ (l:List Tk):vL tm st l=cR (cQ [wSelect] l) fun l1 =>
  if isW fV (fB aO l1).2=true then vU tm st (fB aO l1).1 true [] (fB aO l1).2.tail
  else aR (pV tm (fB aO l1).2) fun i l'=>aR (itC tm [i] l') fun is l2=>vU tm st (fB aO l1).1 false is l2:=by
 unfold vL
 congr 1
 funext l1
 unfold rA
 cases hw:isW fV (fB aO l1).2 with
 | true=>rw [if_pos rfl,if_pos rfl]; rfl
 | false =>
   rw [if_neg (by simp),if_neg (by simp),yD]
   rfl
end
theorem vV {T l:List Tk} (ha:At T l) (hT:T.length≤10000) (w:List UInt8):Cf Es 78 [.ptr 1000000 0 0,.d (.str w)] [dE T l] (.d (.bool (fB w l).1)) [dE T (fB w l).2]:=by
 unfold fB
 cases h:isW w l with
 | true=>exact dK ha hT h
 | false=>exact eE ha hT h
structure YA where
 d:Bool
 sb:Bool
 is:List It
 l:List Tk
@[simp] def z5 (d sb:Bool) (items:AV):List AV:=[.d (.int .i64 1),.d (.bool false),.d (.bool d),.d (.bool sb),items,.d (.str []),.nils,.d (.str []),.nils,.nils,.nils,.nils,.nils]
def FA (T:List Tk) (y:YA):St:={ s:=eP [(0,.ptr 1000000 0 0),(2,.ptr 2 0 0),(3,.ptr 3 0 0)],b:=eG [(1000000,1000000,dE T y.l),(2,2,.var xM),(3,3,.var (z5 y.d y.sb (.d (.sl (y.is.map It.c)))))] }
@[simp] theorem aPn (t:It) (l:List D):List.take 7 (t.c++l)=t.c:=by rw [List.take_append_of_le_length (by rw [It.clen]; omega)]; exact List.take_of_length_le (by rw [It.clen]; omega)
attribute [simp] It.clen
@[simp] theorem aOB (t:Tm) (x:AV):List.take 7 (t.c.map AV.d++[x])=t.c.map AV.d++[x]:=List.take_of_length_le (by simp)
@[simp] theorem aOC (t:Tm) (x:D):List.take 7 (t.c++[x])=t.c++[x]:=List.take_of_length_le (by simp)
@[simp] theorem aOD (t:Tm) (x:AV):List.drop 7 (t.c.map AV.d++[x])=[]:=List.drop_of_length_le (by simp)
@[simp] theorem aPo (t:Tm) (x y:AV):(t.c.map AV.d++[x]).set 6 y=t.c.map AV.d++[y]:=by
  rw [List.set_append_right _ _ (by simp)]
  simp
@[simp] theorem aMs (bl:Nat→Blk) (a:List D) (x:D):qH bl (a.map AV.d++[.d x])=some (a++[x],[]):=by
  have:=aFt bl a [x]
  exact this
@[simp] theorem aMt {α β:Type} (f:α→β) (l:List α):List.take l.length (l.map f)=l.map f:=List.take_of_length_le (by simp)
section
variable {fD:Nat→D} {T l:List Tk} {L:Nat} {tm:List Tk→cY Tm} {st:List Tk→cY Sm}
theorem aLD (hF:iN fD) (ht:Rule Es fD T L 31 tm) (hT:T.length≤10000) (ha:At T l) (hl:l.length≤L) {o:Out} (ho:iZ Sm.a fD T (vL tm st l)=o) :
  bY Es AX 1 o.po (jN 5 QL).1 (Go.Ab.begin [.ptr 1000000 0 0] [dE T l]) fun e s=>match e with
   | .normal=>∃ y:YA,(At T y.l∧y.l.length≤l.length∧iZ Sm.a fD T (vU tm st y.d y.sb y.is y.l)=o)∧Sub Es AX 1 s (FA T y)
   | _=>False:=by
 rw [aIQ] at ho
 simp only [QL,AX,Tryz.f116,Option.getD_some,fH,eS]
 refine gs ?_
 rcases dX hF ha hT [wSelect] (by decide) with ⟨e,he,hc⟩ | ⟨l1,he,h1,hl1,hc⟩
 ·rw [he] at ho
  subst ho
  exact pZ (hc)
 rw [he,dW] at ho
 refine hZ (hc) ?_
 refine gs ?_
 have hto:=vV h1 hT aO
 have h2:At T (fB aO l1).2:=h1.to (nQ _ _) (yB h1.ok)
 have hl2:=nP aO l1
 generalize fB aO l1=x at *
 obtain ⟨d,l2⟩:=x
 simp only at ho hto h2 hl2
 refine hZ (hto) ?_
 refine gs ?_
 cases hw:isW fV l2 with
 | true =>
   rw [hw,if_pos rfl] at ho
   have hlen:=eF hw
   refine hZ (dK h2 hT hw) ?_
   refine gs ?_
   refine ⟨⟨d,true,[],l2.tail⟩,⟨h2.tl hw,by simp only; omega,ho⟩,?_⟩
   refine (gV 3 900 72 7 4 (cells:=z5 d true .nils) (by simp [z5]) rfl (by simp) (by decide) (by decide)).trans ?_
   exact sZ _ [(2,2,_),(3,3,_)] (by simp [aD,Blk.live,xM,z5]) (by simp [aD,z5])
 | false =>
   rw [hw,if_neg (by simp)] at ho
   refine hZ (eE h2 hT hw) ?_
   refine gs ?_
   have hTl:=ha.sfx.length_le
   refine iR bI (by decide) (fun y:Bool×List It×List Tk=>{ s:=eP [(0,.ptr 1000000 0 0),(2,.ptr 2 0 0),(3,.ptr 3 0 0),(4,.d (.bool y.1))],b:=eG [(1000000,1000000,dE T y.2.2),(2,2,.var xM),(3,3,.var (z5 d false (.ref 900 0 y.2.1.length 7))),(900,900,.arr 72 7 (y.2.1.map It.c) false)] })
    (fun y=>At T y.2.2∧y.2.2.length≤l2.length∧y.2.1.length+y.2.2.length+(if y.1=true then 1 else 0)≤10001∧iZ Sm.a fD T (if y.1=true then aR (pV tm y.2.2) fun i l'=>aR (itC tm (y.2.1++[i]) l') fun is l3=>vU tm st d false is l3 else vU tm st d false y.2.1 y.2.2)=o) (fun y=>y.2.2.length+if y.1=true then 1 else 0) (true,[],l2) ⟨h2,Nat.le_refl _,by simp only [List.length_nil,if_true]; omega,ho⟩
    ((gV 3 900 72 7 4 (cells:=z5 d false .nils) (by simp [z5]) rfl (by simp) (by decide) (by decide)).trans (sZ _ [(2,2,_),(3,3,_),(900,900,_)] (by simp [aD,Blk.live,xM,z5]) (by simp [aD,z5]))) ?_
   rintro ⟨more,is,l3⟩ ⟨h3,hl3,hk,ho3⟩
   simp only at h3 hl3 hk ho3
   cases more with
   | false =>
     rw [if_neg (by simp)] at ho3 hk
     refine gs ?_
     refine ⟨⟨d,false,is,l3⟩,⟨h3,by simp only; omega,ho3⟩,?_⟩
     exact sZ _ [(2,2,_),(3,3,_)] (by simp [aD,Blk.live,xM,z5]) (by simp [aD])
   | true =>
     rw [if_pos rfl] at ho3 hk
     unfold pV ZY at ho3
     refine gs ?_
     rcases ht.step h3 (by omega) with ⟨e,he4,hc4⟩ | ⟨t,l4,he4,h4,hl4,hc4⟩
     ·rw [he4] at ho3
      simp only [bT] at ho3
      subst ho3
      exact pZ (hc4)
     rw [he4,bJ] at ho3
     have hb:(is.length+1)*96≤140737488355328∧is.length≤9223372036854775806:=by omega
     refine hZ (hc4) ?_
     refine gs ?_
     have fin:∀ (n:List UInt8) (l5:List Tk),At T l5→l5.length≤l4.length→iZ Sm.a fD T (aR (itC tm (is++[⟨t,n⟩]) l5) fun is l3=>vU tm st d false is l3)=o →
       iZ Sm.a fD T (if (fB bQ l5).1=true then aR (pV tm (fB bQ l5).2) fun i l'=>aR (itC tm (is++[⟨t,n⟩]++[i]) l') fun is l3=>vU tm st d false is l3 else vU tm st d false (is++[⟨t,n⟩]) (fB bQ l5).2)=o∧(fB bQ l5).2.length+(if (fB bQ l5).1=true then 1 else 0)≤l5.length:=by
      intro n l5 h5 hl5 ho5
      rw [aKE ht.sfx] at ho5
      unfold fB
      cases hc:isW bQ l5 with
      | true =>
        have hlen:=eF hc
        rw [hc,if_pos rfl,yD] at ho5
        simp only [if_true]
        exact ⟨ho5,by omega⟩
      | false =>
        rw [hc,if_neg (by simp),bJ] at ho5
        simp only [Bool.false_eq_true,if_false]
        exact ⟨ho5,by omega⟩
     cases DJ:isW rV l4 with
     | false =>
       rw [DJ,if_neg (by simp),bJ,bJ] at ho3
       obtain ⟨f1,f2⟩:=fin _ l4 h4 (Nat.le_refl _) ho3
       have hto:=vV h4 hT bQ
       have h6:At T (fB bQ l4).2:=h4.to (nQ _ _) (yB h4.ok)
       have h6len:=nP bQ l4
       generalize fB bQ l4=x at *
       obtain ⟨more,l6⟩:=x
       simp only at f1 f2 hto h6 h6len
       refine hZ (eE h4 hT DJ) ?_
       simp [hb]
       refine gw ?_
       refine hZ (hto) ?_
       refine gs ?_
       refine ⟨(more,is++[⟨t,[]⟩],l6),⟨h6,by simp only; omega,by simp only [List.length_append,List.length_singleton]; omega,f1⟩,?_,by simp only [if_true]; omega⟩
       exact sZ _ [(2,2,_),(3,3,_),(900,37,_)] (by simp [aD,Blk.live,It.c]) (by simp [aD])
     | true =>
       rw [DJ,if_pos rfl] at ho3
       have hlen:=eF DJ
       refine hZ (dK h4 hT DJ) ?_
       refine gs ?_
       rcases pG hF (h4.tl DJ) hT with ⟨e,he5,hc5⟩ | ⟨n,l5,he5,h5,hl5,hc5⟩
       ·rw [he5] at ho3
        simp only [bT] at ho3
        subst ho3
        exact pZ (hc5)
       rw [he5,bJ,bJ] at ho3
       obtain ⟨f1,f2⟩:=fin n l5 h5 (by omega) ho3
       have hto:=vV h5 hT bQ
       have h6:At T (fB bQ l5).2:=h5.to (nQ _ _) (yB h5.ok)
       have h6len:=nP bQ l5
       generalize fB bQ l5=x at *
       obtain ⟨more,l6⟩:=x
       simp only at f1 f2 hto h6 h6len
       refine hZ (hc5) ?_
       simp [hb]
       refine gw ?_
       refine hZ (hto) ?_
       refine gs ?_
       refine ⟨(more,is++[⟨t,n⟩],l6),⟨h6,by simp only; omega,by simp only [List.length_append,List.length_singleton]; omega,f1⟩,?_,by simp only [if_true]; omega⟩
       exact sZ _ [(2,2,_),(3,3,_),(900,37,_)] (by simp [aD,Blk.live,It.c]) (by simp [aD])
end
structure YB where
 d:Bool
 sb:Bool
 is:List It
 so:So
 js:List Jo
 l:List Tk
@[simp] def c3 (d sb:Bool) (is:List It) (so:So) (joins w g:AV):List AV:=[.d (.int .i64 1),.d (.bool false),.d (.bool d),.d (.bool sb),.d (.sl (is.map It.c)),.d (.str so.1),.d (.sl (so.2.1.map Sm.c)),.d (.str so.2.2),joins,w,g,.nils,.nils]
def FB (T:List Tk) (y:YB):St:={ s:=eP [(0,.ptr 1000000 0 0),(2,.ptr 2 0 0),(3,.ptr 3 0 0)],b:=eG [(1000000,1000000,dE T y.l),(2,2,.var xM),(3,3,.var (c3 y.d y.sb y.is y.so (.d (.sl (y.js.map Jo.c))) .nils .nils))] }
@[simp] theorem aPp (t:Jo) (l:List D):List.take 5 (t.c++l)=t.c:=by rw [List.take_append_of_le_length (by rw [Jo.clen]; omega)]; exact List.take_of_length_le (by rw [Jo.clen]; omega)
attribute [simp] Jo.clen
theorem aGi {w:List UInt8} {l m:List Tk} (h:cQ [w] l=.ok m):m.length<l.length:=by
 cases hw:isW w l with
 | false =>
   have e:cQ [w] l=.error (lN l):=by rw [cQ,hw,if_neg (by simp)]
   rw [e] at h; cases h
 | true =>
   have hlen:=eF hw
   have e:cQ [w] l=.ok l.tail:=by rw [cQ,hw,if_pos rfl]; rfl
   rw [e] at h
   cases h
   omega
section
variable {fD:Nat→D} {T:List Tk} {L:Nat} {tm:List Tk→cY Tm} {st:List Tk→cY Sm}
theorem aLE (hF:iN fD) (ht:Rule Es fD T L 31 tm) (hs:RuleX So.a Es fD T L 158 (fF st)) (hSs:∀ l,SfxOk (st l) l) (hT:T.length≤10000) {y:YA} (ha:At T y.l) (hl:y.l.length≤L) {o:Out} (ho:iZ Sm.a fD T (vU tm st y.d y.sb y.is y.l)=o) :
  bY Es AX 1 o.po (jN 3 (jN 5 QL).2).1 (FA T y) fun e s=>match e with
   | .normal=>∃ z:YB,(At T z.l∧z.l.length≤y.l.length∧iZ Sm.a fD T (NM tm z.d z.sb z.is z.so z.js z.l)=o)∧Sub Es AX 1 s (FB T z)
   | _=>False:=by
 obtain ⟨d,sb,is,l⟩:=y
 simp only at ha hl ho ⊢
 unfold vU at ho
 simp only [QL,AX,Tryz.f116,Option.getD_some,fH,eS,FA]
 refine gs ?_
 rcases dX hF ha hT [wFrom] (by decide) with ⟨e,he,hc⟩ | ⟨l1,he,h1,hl1,hc⟩
 ·rw [he] at ho
  subst ho
  exact pZ (hc)
 rw [he,dW] at ho
 refine hZ (hc) ?_
 refine gs ?_
 rcases hs.step h1 (by omega) with ⟨e,he2,hc2⟩ | ⟨so,l2,he2,h2,hl2,hc2⟩
 ·rw [he2,bT] at ho
  subst ho
  exact pZ (hc2)
 rw [he2,bJ] at ho
 obtain ⟨ta,qs,na⟩:=so
 simp only [So.a,jJ,kK,aE] at hc2
 refine hZ (hc2) ?_
 refine gs ?_
 unfold aJY at ho
 have hTl:=ha.sfx.length_le
 refine iR bI (by decide) (fun y:List Jo×List Tk=>{ s:=eP [(0,.ptr 1000000 0 0),(2,.ptr 2 0 0),(3,.ptr 3 0 0)],b:=eG [(1000000,1000000,dE T y.2),(2,2,.var xM),(3,3,.var (c3 d sb is (ta,qs,na) (.ref 901 0 y.1.length 5) .nils .nils)),(901,901,.arr 75 5 (y.1.map Jo.c) false)] })
  (fun y=>At T y.2∧y.2.length≤l.length∧y.1.length+y.2.length≤10000∧iZ Sm.a fD T (aR (joC tm st y.1 y.2) fun js l5=>NM tm d sb is (ta,qs,na) js l5)=o) (fun y=>y.2.length) ([],l2) ⟨h2,by simp only; omega,by simp only [List.length_nil]; omega,ho⟩
  ((gV 3 901 75 5 8 (cells:=c3 d sb is (ta,qs,na) .nils .nils .nils) (by simp) rfl (by simp) (by decide) (by decide)).trans (sZ _ [(2,2,_),(3,3,_),(901,901,_)] (by simp [aD,Blk.live]) (by simp [aD]))) ?_
 rintro ⟨js,l3⟩ ⟨h3,hl3,hk,ho3⟩
 simp only at h3 hl3 hk ho3
 rw [aKG ht.sfx hSs] at ho3
 have hb:(js.length+1)*88≤140737488355328∧js.length≤9223372036854775806:=by omega
 refine gs ?_
 cases hi:bN joiW l3 with
 | some i =>
   rw [hi] at ho3
   simp only at ho3
   have hlen:=lI hi
   have hil:i<7:=by
    unfold bN at hi
    exact (List.findIdx?_eq_some_iff_getElem.1 hi).1
   have hwr:=wI (n:=(i:Int)+1)
   have hne:((i:Int)+1==0)=false:=by rw [beq_eq_false_iff_ne]; omega
   have hnl:¬ (i:Int)+1<1:=by omega
   have hj:=h3.tl1 hi
   refine hZ (zZ h3 hT (by decide) hi) ?_
   simp [hwr,hne]
   refine gw ?_
   unfold lC at ho3
   rcases dX hF hj hT [wJoin] (by decide) with ⟨e,he4,hc4⟩ | ⟨l4,he4,h4,hl4,hc4⟩
   ·rw [he4,pF,bT] at ho3
    subst ho3
    exact pZ (hc4)
   have hlj:=aGi he4
   rw [he4,dW] at ho3
   refine hZ (hc4) ?_
   simp [hnl]
   refine gw ?_
   rcases hs.step h4 (by omega) with ⟨e,he5,hc5⟩ | ⟨⟨ta5,qs5,na5⟩,l5,he5,h5,hl5,hc5⟩
   ·rw [he5,bT,bT] at ho3
    subst ho3
    exact pZ (hc5)
   rw [he5,bJ] at ho3
   simp only [So.a,jJ,kK,aE] at hc5
   refine hZ (hc5) ?_
   by_cases h6:i=6
   ·have hgt:(6:Int)<(i:Int)+1:=by omega
    rw [if_pos (by omega),bJ] at ho3
    simp [hgt,hb]
    refine gw ?_
    refine ⟨(js++[.mk 0 ta5 qs5 na5 []],l5),⟨h5,by simp only; omega,by simp only [List.length_append,List.length_singleton]; omega,ho3⟩,?_,by simp only; omega⟩
    exact sZ _ [(2,2,_),(3,3,_),(901,78,_)] (by simp [aD,Blk.live,Jo.c]) (by simp [aD])
   ·have hgt:¬ (6:Int)<(i:Int)+1:=by omega
    have hmx:((max (i+1) 1:Nat):Int)=(i:Int)+1:=by omega
    simp [hgt]
    refine gw ?_
    rw [if_neg (by omega)] at ho3
    rw [hmx] at ho3
    rcases dX hF h5 hT [yG] (by decide) with ⟨e,he6,hc6⟩ | ⟨l6,he6,h6,hl6,hc6⟩
    ·rw [he6,pF,bT] at ho3
     subst ho3
     exact pZ (hc6)
    rw [he6,dW] at ho3
    refine hZ (hc6) ?_
    refine gs ?_
    rcases ht.step h6 (by omega) with ⟨e,he7,hc7⟩ | ⟨t,l7,he7,h7,hl7,hc7⟩
    ·rw [he7,bT,bT] at ho3
     subst ho3
     exact pZ (hc7)
    rw [he7,bJ,bJ] at ho3
    refine hZ (hc7) ?_
    simp [hb]
    refine gw ?_
    refine ⟨(js++[.mk ((i:Int)+1) ta5 qs5 na5 [t]],l7),⟨h7,by simp only; omega,by simp only [List.length_append,List.length_singleton]; omega,ho3⟩,?_,by simp only; omega⟩
    exact sZ _ [(2,2,_),(3,3,_),(901,78,_)] (by simp [aD,Blk.live,Jo.c]) (by simp [aD])
 | none =>
   rw [hi] at ho3
   simp only at ho3
   have hw0:IntKind.i64.wrap 0=0:=by decide
   refine hZ (HZ h3 hT (by decide) hi) ?_
   simp [hw0]
   refine gw ?_
   cases hw:isW wJoin l3 with
   | false =>
     rw [hw,if_neg (by simp),bJ] at ho3
     have his:=iQ (aKV h3.sfx h3.ne hT wJoin)
     rw [hw] at his
     refine hZ (his) ?_
     refine gs ?_
     all_goals
      refine ⟨⟨d,sb,is,(ta,qs,na),js,l3⟩,⟨h3,by simp only; omega,ho3⟩,?_⟩
      exact sZ _ [(2,2,_),(3,3,_)] (by simp [aD,Blk.live]) (by simp [aD])
   | true =>
     rw [hw,if_pos rfl] at ho3
     have hlen:=eF hw
     have his:=iQ (aKV h3.sfx h3.ne hT wJoin)
     rw [hw] at his
     have hj:=h3
     refine hZ (his) ?_
     refine gs ?_
     unfold lC at ho3
     rcases dX hF hj hT [wJoin] (by decide) with ⟨e,he4,hc4⟩ | ⟨l4,he4,h4,hl4,hc4⟩
     ·rw [he4,pF,bT] at ho3
      subst ho3
      exact pZ (hc4)
     have hlj:=aGi he4
     rw [he4,dW] at ho3
     refine hZ (hc4) ?_
     refine gs ?_
     rcases hs.step h4 (by omega) with ⟨e,he5,hc5⟩ | ⟨⟨ta5,qs5,na5⟩,l5,he5,h5,hl5,hc5⟩
     ·rw [he5,bT,bT] at ho3
      subst ho3
      exact pZ (hc5)
     rw [he5,bJ] at ho3
     simp only [So.a,jJ,kK,aE] at hc5
     refine hZ (hc5) ?_
     refine gs ?_
     rw [if_neg (by omega)] at ho3
     rcases dX hF h5 hT [yG] (by decide) with ⟨e,he6,hc6⟩ | ⟨l6,he6,h6,hl6,hc6⟩
     ·rw [he6,pF,bT] at ho3
      subst ho3
      exact pZ (hc6)
     rw [he6,dW] at ho3
     refine hZ (hc6) ?_
     refine gs ?_
     rcases ht.step h6 (by omega) with ⟨e,he7,hc7⟩ | ⟨t,l7,he7,h7,hl7,hc7⟩
     ·rw [he7,bT,bT] at ho3
      subst ho3
      exact pZ (hc7)
     rw [he7,bJ,bJ] at ho3
     refine hZ (hc7) ?_
     simp [hb]
     refine gw ?_
     refine ⟨(js++[.mk 1 ta5 qs5 na5 [t]],l7),⟨h7,by simp only; omega,by simp only [List.length_append,List.length_singleton]; omega,ho3⟩,?_,by simp only; omega⟩
     exact sZ _ [(2,2,_),(3,3,_),(901,78,_)] (by simp [aD,Blk.live,Jo.c]) (by simp [aD])
end
end Go.Proofs.Tryz
