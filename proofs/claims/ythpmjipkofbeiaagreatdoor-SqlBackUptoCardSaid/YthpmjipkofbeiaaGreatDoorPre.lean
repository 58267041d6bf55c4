import Derived.Test.YthpmjipkofbeiaaGreatDoorPrs
set_option linter.all false
namespace Go.Proofs.Tryz
open Go.Ab
set_option maxRecDepth 100000
set_option maxHeartbeats 4000000
theorem ZU {α β:Type} (a:Except Nat (List Tk)) (f:List Tk→cY α) (g:α→List Tk→cY β):aR (cR a f) g=cR a fun l=>aR (f l) g:=by cases a <;> rfl
theorem yD {α β γ:Type} (a:cY α) (f:α→List Tk→cY β) (g:β→List Tk→cY γ):aR (aR a f) g=aR a fun t l=>aR (f t l) g:=by cases a <;> rfl
theorem bJ {α β:Type} (t:α) (l:List Tk) (f:α→List Tk→cY β):aR (.ok (t,l)) f=f t l:=rfl
structure aKN (t:Tk):Prop where
 tx:t.kd=1∨t.kd=4→t.tx=t.rw
 num:t.kd=2→(t.n=0↔t.rw=[48])
def okL (l:List Tk):Prop:=∀ t∈l,aKN t
theorem okL.sfx {l l':List Tk} (h:okL l) (hs:l' <:+ l):okL l':=fun t ht=>h t (hs.subset ht)
theorem okL.tl {l:List Tk} (h:okL l):okL l.tail:=h.sfx (bU l)
def PU (r:cY Tm) (q:Tm×RS):Prop:=match r with
 | .ok (t,l)=>q=(t,(l,-1))
 | .error p=>q.2.2=(p:Int)
theorem mL (ws:List (List UInt8)):bN ws []=none:=by
 unfold bN
 rw [List.findIdx?_eq_none_iff]
 intro x _
 rfl
theorem fP (w:List UInt8) (l:List Tk):dJ w (l,-1)=isW w l:=by simp [dJ]
theorem cO (l:List Tk):aK (l,-1)=(l.tail,-1):=by simp [aK]
theorem kF (l:List Tk):jC (l,-1)=(l,(lN l:Int)):=by simp [jC]
theorem lV (ws:List (List UInt8)) (l:List Tk):fR ws (l,-1)=bN ws l:=by simp [fR]
theorem IK (w:List UInt8) (l:List Tk):aN w (l,-1)=if isW w l=true then (l.tail,-1) else (l,(lN l:Int)):=by
 unfold aN
 rw [fP,cO,kF]
section
variable {s:RS} (h:0≤s.2)
include h
theorem iT (w:List UInt8):dJ w s=false:=by unfold dJ; simp; omega
theorem sL:jC s=s:=by unfold jC; rw [if_neg (by omega)]
theorem vI (ws:List (List UInt8)):fR ws s=none:=by unfold fR; rw [if_neg (by omega)]
theorem fI (w:List UInt8):aN w s=s:=by unfold aN; rw [iT h,sL h]; simp
theorem ZV:jV s=false:=by unfold jV; simp; omega
theorem wO:fK s=([],s):=by unfold fK; rw [ZV h,sL h]; simp
theorem lW (part:RS→Tm×RS) (sg:List (List UInt8)) (ops:List Int):∀ (k:Nat) (out:Tm),cX part sg ops k out s=(out,s)
 | 0,out=>rfl
 | k+1,out=>by rw [cX,vI h]
theorem vJ (part:RS→Tm×RS):∀ (k:Nat) (ks:List Tm),gK part k ks s=(ks,s)
 | 0,ks=>rfl
 | k+1,ks=>by rw [gK,iT h]; simp
end
theorem iC:∀ (n lvl:Nat) (s:RS),0≤s.2→(bK n lvl s).2=s
 | 0,lvl,s,h=>by rw [bK,sL h]
 | n+1,0,s,h=>by
   have e:=iC n 1 s h
   rw [bK,e,lW h]
 | n+1,1,s,h=>by
   have e:=iC n 2 s h
   rw [bK,e,lW h]
 | n+1,2,s,h=>by
   rw [bK,iT h]
   exact iC n 3 s h
 | n+1,3,s,h=>by
   have e:=iC n 4 s h
   rw [bK]
   simp only [e,vI h,iT h]
   exact e
 | n+1,4,s,h=>by
   have e:=iC n 5 s h
   rw [bK,e,lW h]
 | n+1,5,s,h=>by
   have e:=iC n 6 s h
   rw [bK,e,lW h]
 | n+1,6,s,h=>by
   rw [bK,iT h]
   exact iC n 7 s h
 | n+1,m+7,s,h=>by rw [bK,if_pos h]
theorem yE {r:cY Tm} {q:Tm×RS} (h:PU r q) {f:Tm→List Tk→cY Tm} {g:Tm×RS→Tm×RS} (hf:∀ t l,r=.ok (t,l)→PU (f t l) (g (t,(l,-1)))) (hb:∀ q:Tm×RS,0≤q.2.2→(g q).2.2=q.2.2):PU (aR r f) (g q):=by
 cases r with
 | error p =>
   have h':q.2.2=(p:Int):=h
   show (g q).2.2=(p:Int)
   rw [hb q (by omega),h']
 | ok x =>
   obtain ⟨t,l⟩:=x
   have h':q=(t,(l,-1)):=h
   rw [h']
   exact hf t l rfl
theorem PV {w:List UInt8} {l:List Tk} {f:List Tk→cY Tm} {g:RS→Tm×RS} (hf:isW w l=true→PU (f l.tail) (g (l.tail,-1))) (hb:∀ s:RS,0≤s.2→(g s).2.2=s.2):PU (cR (cQ [w] l) f) (g (aN w (l,-1))):=by
 rw [IK]
 simp only [cQ]
 split
 ·rename_i h
  exact hf h
 ·show (g (l,(lN l:Int))).2.2=(lN l:Int)
  rw [hb _ (by simp only; omega)]
theorem PW {w:List UInt8} {l:List Tk} (t:Tm):PU (cR (cQ [w] l) fun l'=>.ok (t,l')) (t,aN w (l,-1)) :=
 PV (g:=fun s=>(t,s)) (fun _=>rfl) fun s _=>rfl
theorem gR (w:List UInt8) {s:RS} (h:0≤s.2):(aN w s).2=s.2:=by rw [fI h]
theorem MY {p:List Tk→cY Tm} {q:RS→Tm×RS} (hG:∀ l,okL l→PU (p l) (q (l,-1))) (hs:∀ l,SfxOk (p l) l) (sg:List (List UInt8)) (ops:List Int):∀ (k:Nat) (out:Tm) (l:List Tk),okL l→PU (cW p sg ops k out l) (cX q sg ops k out (l,-1))
 | 0,out,l,hl=>rfl
 | k+1,out,l,hl=>by
   rw [cW,cX,lV]
   cases h:bN sg l with
   | none=>rfl
   | some i =>
     simp only [cO]
     have e:=hG l.tail hl.tl
     cases hr:p l.tail with
     | error pp =>
       rw [hr] at e
       have e':(q (l.tail,-1)).2.2=(pp:Int):=e
       show (cX q sg ops k _ (q (l.tail,-1)).2).2.2=(pp:Int)
       rw [lW (by omega)]
       exact e'
     | ok x =>
       obtain ⟨t,l'⟩:=x
       rw [hr] at e
       have e':q (l.tail,-1)=(t,(l',-1)):=e
       rw [e']
       exact MY hG hs sg ops k _ l' (hl.tl.sfx (hs _ _ _ hr))
theorem wP {p:List Tk→cY Tm} {q:RS→Tm×RS} (hG:∀ l,okL l→PU (p l) (q (l,-1))) (hs:∀ l,SfxOk (p l) l) (sg:List (List UInt8)) (ops:List Int) (l:List Tk) (hl:okL l) :
  PU (aR (p l) fun t l'=>cW p sg ops l'.length t l') (cX q sg ops (q (l,-1)).2.1.length (q (l,-1)).1 (q (l,-1)).2) :=
 yE (g:=fun x=>cX q sg ops x.2.1.length x.1 x.2) (hG l hl) (fun t l' h=>MY hG hs sg ops _ t l' (hl.sfx (hs _ _ _ h))) fun x hx=>by rw [lW hx]
def aKO (r:cY (List Tm)) (q:List Tm×RS):Prop:=match r with
 | .ok (t,l)=>q=(t,(l,-1))
 | .error p=>q.2.2=(p:Int)
theorem IL {p:List Tk→cY Tm} {q:RS→Tm×RS} (hG:∀ l,okL l→PU (p l) (q (l,-1))) (hs:∀ l,SfxOk (p l) l):∀ (k:Nat) (ks:List Tm) (l:List Tk),okL l→aKO (fA p k ks l) (gK q k ks (l,-1))
 | 0,ks,l,hl=>rfl
 | k+1,ks,l,hl=>by
   rw [fA,gK,fP]
   split
   ·simp only [cO]
    have e:=hG l.tail hl.tl
    cases hr:p l.tail with
    | error pp =>
      rw [hr] at e
      have e':(q (l.tail,-1)).2.2=(pp:Int):=e
      show (gK q k _ (q (l.tail,-1)).2).2.2=(pp:Int)
      rw [vJ (by omega)]
      exact e'
    | ok x =>
      obtain ⟨t,l'⟩:=x
      rw [hr] at e
      have e':q (l.tail,-1)=(t,(l',-1)):=e
      rw [e']
      exact IL hG hs k _ l' (hl.tl.sfx (hs _ _ _ hr))
   ·rfl
theorem aOt {r:cY (List Tm)} {q:List Tm×RS} (h:aKO r q) {f:List Tm→List Tk→cY Tm} {g:List Tm×RS→Tm×RS} (hf:∀ t l,r=.ok (t,l)→PU (f t l) (g (t,(l,-1)))) (hb:∀ q:List Tm×RS,0≤q.2.2→(g q).2.2=q.2.2):PU (aR r f) (g q):=by
 cases r with
 | error p =>
   have h':q.2.2=(p:Int):=h
   show (g q).2.2=(p:Int)
   rw [hb q (by omega),h']
 | ok x =>
   obtain ⟨t,l⟩:=x
   have h':q=(t,(l,-1)):=h
   rw [h']
   exact hf t l rfl
theorem UV {w:List UInt8} (hw:bP jZ w=false) {l:List Tk} (h:bP jZ (eU l).rw=true):isW w l=false:=by
 cases l with
 | nil=>rfl
 | cons t r =>
   cases hh:isW w (t::r) with
   | false=>rfl
   | true =>
     simp only [isW,Bool.and_eq_true,beq_iff_eq] at hh
     simp only [eU] at h
     rw [hh.2,hw] at h
     cases h
theorem aId {p:List Tk→cY Tm} {q:RS→Tm×RS} (hG:∀ l,okL l→PU (p l) (q (l,-1))) (l:List Tk) (hl:okL l) (i:Nat) (hi:bN aggW l=some i) (hqb:∀ s:RS,0≤s.2→(q s).2=s):PU (oA p i l.tail) (LL q (l,-1)):=by
 unfold oA LL
 rw [lV,hi,cO]
 simp only
 refine PV (g:=fun s1=>if i=0∧dJ fV s1=true then (.mk 41 0 1 [] [] [],aN aY (aK s1)) else if i=0∧dJ aO s1=true then (.mk 41 0 3 [] [] [(q (aK s1)).1],aN aY (q (aK s1)).2) else (.mk 41 0 (AF i) [] [] [(q s1).1],aN aY (q s1).2)) (fun h=>?_) fun s hs=>?_
 ·simp only [fP,cO]
  have hl2:=hl.tl.tl
  split
  ·exact PW _
  ·split
   ·exact yE (g:=fun x=>(.mk 41 0 3 [] [] [x.1],aN aY x.2)) (hG _ hl2.tl) (fun t l' _=>PW _) fun x hx=>gR _ hx
   ·exact yE (g:=fun x=>(.mk 41 0 (AF i) [] [] [x.1],aN aY x.2)) (hG _ hl2) (fun t l' _=>PW _) fun x hx=>gR _ hx
 ·simp only [iT hs]
  simp only [Bool.false_eq_true,and_false,if_false]
  rw [hqb s hs,gR _ hs]
theorem yF {t:Tk} {r:List Tk} (h:aKN t):jV (t::r,-1)=(t.kd==1&&bP jZ t.rw):=by
 unfold jV
 simp only [eU]
 rw [show decide ((-1:Int)<0)=true from rfl,Bool.true_and]
 by_cases hk:t.kd=1
 ·rw [h.tx (.inl hk)]
 ·rw [show (t.kd==1)=false from by simpa using hk,Bool.false_and,Bool.false_and]
theorem UW {l:List Tk} (hl:okL l) {f:List UInt8→List Tk→cY Tm} {g:List UInt8×RS→Tm×RS} (hf:∀ t l',gJ l=.ok (t,l')→PU (f t l') (g (t,(l',-1)))) (hb:∀ q:List UInt8×RS,0≤q.2.2→(g q).2.2=q.2.2):PU (aR (gJ l) f) (g (fK (l,-1))):=by
 cases l with
 | nil =>
   show (g (fK ([],-1))).2.2=((0:Nat):Int)
   have e:fK (([],-1):RS)=([],([],0)):=by simp [fK,jV,jC,eU,lN]
   rw [e,hb _ (by simp)]
   rfl
 | cons t r =>
   have ht:=hl t List.mem_cons_self
   unfold fK
   rw [yF ht]
   unfold gJ at hf ⊢
   simp only at hf ⊢
   by_cases hk:t.kd=1∧bP jZ t.rw=true
   ·rw [if_pos hk] at hf ⊢
    have e:(t.kd==1&&bP jZ t.rw)=true:=by simp [hk]
    rw [e,if_pos rfl,cO]
    simp only [eU,List.tail_cons]
    rw [ht.tx (.inl hk.1)]
    exact hf _ _ rfl
   ·rw [if_neg hk]
    have e:¬ (t.kd==1&&bP jZ t.rw)=true:=by simpa using hk
    rw [if_neg e,kF]
    show (g ([],(t::r,(lN (t::r):Int)))).2.2=(t.fr:Int)
    rw [hb _ (by simp only; omega)]
    rfl
theorem fX:∀ (n lvl:Nat) (l:List Tk),okL l→PU (bA n lvl l) (bK n lvl (l,-1))
 | 0,lvl,l,hl=>by rw [bA,bK]; rfl
 | n+1,0,l,hl=>by rw [bA,bK]; exact wP (fX n 1) (aV n 1) _ _ l hl
 | n+1,1,l,hl=>by rw [bA,bK]; exact wP (fX n 2) (aV n 2) _ _ l hl
 | n+1,2,l,hl=>by
   rw [bA,bK,fP,cO]
   split
   ·exact yE (g:=fun x=>(cD 24 [x.1],x.2)) (fX n 2 _ hl.tl) (fun t l' _=>rfl) fun x _=>rfl
   ·exact fX n 3 l hl
 | n+1,3,l,hl=>by
   rw [bA,bK]
   refine yE (g:=fun a=>match fR cmpW a.2 with
    | some i=>(cD (14+i) [a.1,(bK n 4 (aK a.2)).1],(bK n 4 (aK a.2)).2)
    | none =>
      if dJ wIn a.2=true then
       (cD 28 (gK (bK n 0) (bK n 0 (aN bF (aK a.2))).2.1.length [a.1,(bK n 0 (aN bF (aK a.2))).1] (bK n 0 (aN bF (aK a.2))).2).1,aN aY (gK (bK n 0) (bK n 0 (aN bF (aK a.2))).2.1.length [a.1,(bK n 0 (aN bF (aK a.2))).1] (bK n 0 (aN bF (aK a.2))).2).2)
      else if dJ wIs a.2=true then
       if dJ wNull (aK a.2)=true then (cD 21 [a.1],aK (aK a.2))
       else if dJ wTrue (aK a.2)=true then (cD 25 [a.1],aK (aK a.2))
       else if dJ wNot (aK a.2)=true then (cD 24 [cD 21 [a.1]],aN wNull (aK (aK a.2)))
       else (a.1,jC (aK a.2))
      else a) (fX n 4 l hl) (fun a l' ha=>?_) fun a ha=>?_
   ·have hl':=hl.sfx (aV n 4 _ _ _ ha)
    simp only [lV,cO,fP,kF]
    cases hc:bN cmpW l' with
    | some i=>exact yE (g:=fun x=>(cD (14+i) [a,x.1],x.2)) (fX n 4 _ hl'.tl) (fun t l' _=>rfl) fun x _=>rfl
    | none =>
      simp only
      by_cases h1:isW wIs l'=true
      ·have h2:isW wIn l'=false:=by
        cases l' with
        | nil=>rfl
        | cons t r =>
          simp only [isW,Bool.and_eq_true,beq_iff_eq] at h1
          simp only [isW,h1.2]
          simp [wIs,wIn]
       rw [if_pos h1,if_neg (show ¬ isW wIn l'=true by rw [h2]; simp),if_pos h1]
       by_cases n1:isW wNull l'.tail=true
       ·rw [if_pos n1,if_pos n1]; rfl
       ·rw [if_neg n1,if_neg n1]
        by_cases n2:isW wTrue l'.tail=true
        ·rw [if_pos n2,if_pos n2]; rfl
        ·rw [if_neg n2,if_neg n2]
         by_cases h3:isW wNot l'.tail=true
         ·have e:cQ [wNot,wNull] l'.tail=cQ [wNull] l'.tail.tail:=by rw [cQ,if_pos h3]
          rw [e,if_pos h3]
          exact PW _
         ·have e:cQ [wNot,wNull] l'.tail=.error (lN l'.tail):=by rw [cQ,if_neg h3]
          rw [e,if_neg h3]
          rfl
      ·rw [if_neg h1,if_neg h1]
       split
       ·refine PV (g:=fun s=>(cD 28 (gK (bK n 0) (bK n 0 s).2.1.length [a,(bK n 0 s).1] (bK n 0 s).2).1,aN aY (gK (bK n 0) (bK n 0 s).2.1.length [a,(bK n 0 s).1] (bK n 0 s).2).2)) (fun _=>?_) fun s hs=>?_
        ·refine yE (g:=fun x=>(cD 28 (gK (bK n 0) x.2.1.length [a,x.1] x.2).1,aN aY (gK (bK n 0) x.2.1.length [a,x.1] x.2).2)) (fX n 0 _ hl'.tl.tl) (fun b l3 hb=>?_) fun x hx=>?_
         ·have hl3:=hl'.tl.tl.sfx (aV n 0 _ _ _ hb)
          exact aOt (g:=fun x=>(cD 28 x.1,aN aY x.2)) (IL (fX n 0) (aV n 0) _ _ l3 hl3) (fun ks l4 _=>PW _) fun x hx=>gR _ hx
         ·rw [vJ hx]
          exact gR _ hx
        ·have e:=iC n 0 s hs
         simp only [e]
         rw [vJ hs]
         exact gR _ hs
       ·rfl
   ·simp only [vI ha,iT ha]
    rfl
 | n+1,4,l,hl=>by rw [bA,bK]; exact wP (fX n 5) (aV n 5) _ _ l hl
 | n+1,5,l,hl=>by rw [bA,bK]; exact wP (fX n 6) (aV n 6) _ _ l hl
 | n+1,6,l,hl=>by
   rw [bA,bK,fP,cO]
   split
   ·have e:oM l.tail=true↔((-1:Int)<0∧(eU l.tail).kd=2∧(eU l.tail).n ≠ 0):=by
     have hk:=hl.tl
     revert hk
     cases l.tail with
     | nil=>intro _; simp [oM,eU]
     | cons t r =>
       intro hk
       have ht:=hk t List.mem_cons_self
       simp only [oM,eU,Bool.and_eq_true,beq_iff_eq,bne_iff_ne]
       constructor
       ·rintro ⟨h1,h2⟩
        exact ⟨by decide,h1,fun h=>h2 ((ht.num h1).1 h)⟩
       ·rintro ⟨_,h1,h2⟩
        exact ⟨h1,fun h=>h2 ((ht.num h1).2 h)⟩
    simp only
    by_cases hn:oM l.tail=true
    ·rw [if_pos hn,if_pos (e.1 hn),cO]
     rfl
    ·rw [if_neg hn,if_neg (fun h=>hn (e.2 h))]
     exact yE (g:=fun x=>(cD 11 [x.1],x.2)) (fX n 6 _ hl.tl) (fun t l' _=>rfl) fun x _=>rfl
   ·exact fX n 7 l hl
 | n+1,m+7,[],hl=>by
   rw [bA,bK]
   have e:∀ w,dJ w ([],-1)=false:=fun w=>rfl
   have e2:jV (([],-1):RS)=false:=rfl
   rw [if_neg (show ¬ (0:Int)≤(([],-1):RS).2 by simp)]
   simp only [eU,e,e2]
   rw [if_neg (by decide),if_neg (by decide),if_neg (by decide),if_neg (by decide),if_neg (by decide),if_neg (by decide),if_neg (by decide),if_neg (by decide),if_neg (by decide)]
   unfold LL
   rw [lV,mL,kF]
   rfl
 | n+1,m+7,t::r,hl=>by
   have ht:=hl t List.mem_cons_self
   have hr:okL r:=hl.sfx (List.suffix_cons _ _)
   rw [bA,bK,if_neg (show ¬ (0:Int)≤((t::r,-1):RS).2 by simp)]
   simp only [eU,cO,List.tail_cons]
   by_cases k2:t.kd=2
   ·rw [if_pos k2,if_pos k2]; rfl
   rw [if_neg k2,if_neg k2]
   by_cases k3:t.kd=3
   ·rw [if_pos k3,if_pos k3]; rfl
   rw [if_neg k3,if_neg k3,yF ht]
   simp only [fP]
   by_cases hn:(t.kd==1&&bP jZ t.rw)=true
   ·rw [if_pos hn]
    have hn':bP jZ (eU (t::r)).rw=true:=by simp only [Bool.and_eq_true] at hn; exact hn.2
    have q:=fun w hw=>UV (w:=w) hw hn'
    rw [if_neg (by rw [q wTrue (by decide)]; simp),if_neg (by rw [q wFalse (by decide)]; simp),if_neg (by rw [q wNull (by decide)]; simp),if_neg (by rw [q bF (by decide)]; simp),if_neg (by rw [q wLength (by decide)]; simp),if_neg (by rw [q wCoalesce (by decide)]; simp),if_neg (by rw [q wCase (by decide)]; simp)]
    have ha:bN aggW (t::r)=none:=by
     unfold bN aggW
     simp [List.findIdx?_cons,q wCount (by decide),q IM (by decide),q IN (by decide),q IO (by decide)]
    rw [ha]
    refine UW (g:=fun a=>if dJ qJ a.2=true then (.mk 40 0 0 (fK (aK a.2)).1 a.1 [],(fK (aK a.2)).2) else (.mk 40 0 0 a.1 [] [],a.2)) hl (fun a l1 h1=>?_) fun a ha=>?_
    ·have hl1:=hl.sfx (kH _ _ _ h1)
     simp only [fP,cO]
     split
     ·exact UW (g:=fun b=>(.mk 40 0 0 b.1 a [],b.2)) hl1.tl (fun b l2 _=>rfl) fun b _=>rfl
     ·rfl
    ·simp only [iT ha]
     rfl
   ·rw [if_neg hn]
    by_cases c1:isW wTrue (t::r)=true
    ·have c2:isW bF (t::r)=false:=by
      simp only [isW,Bool.and_eq_true,beq_iff_eq] at c1
      simp only [isW,c1.2]
      simp [wTrue,bF]
     rw [if_pos c1,if_neg (by rw [c2]; simp),if_pos c1]; rfl
    rw [if_neg c1,if_neg c1]
    by_cases c2:isW wFalse (t::r)=true
    ·have c3:isW bF (t::r)=false:=by
      simp only [isW,Bool.and_eq_true,beq_iff_eq] at c2
      simp only [isW,c2.2]
      simp [wFalse,bF]
     rw [if_pos c2,if_neg (by rw [c3]; simp),if_pos c2]; rfl
    rw [if_neg c2,if_neg c2]
    by_cases c3:isW wNull (t::r)=true
    ·have c4:isW bF (t::r)=false:=by
      simp only [isW,Bool.and_eq_true,beq_iff_eq] at c3
      simp only [isW,c3.2]
      simp [wNull,bF]
     rw [if_pos c3,if_neg (by rw [c4]; simp),if_pos c3]
     unfold IP
     rw [lV,kF,cO]
     cases bN [EQ,uD,uE] r with
     | none=>rfl
     | some i=>rfl
    rw [if_neg c3,if_neg c3]
    by_cases c4:isW bF (t::r)=true
    ·rw [if_pos c4,if_pos c4]
     exact yE (g:=fun x=>(x.1,aN aY x.2)) (fX n 0 r hr) (fun t l2 _=>PW _) fun x hx=>gR _ hx
    rw [if_neg c4,if_neg c4]
    by_cases c5:isW wLength (t::r)=true
    ·rw [if_pos c5,if_pos c5]
     simp only [kG,kV,ZU,yD,bJ]
     exact PV (g:=fun s=>(cD 13 [(bK n 0 s).1],aN aY (bK n 0 s).2)) (fun _=>yE (g:=fun x=>(cD 13 [x.1],aN aY x.2)) (fX n 0 _ hr.tl) (fun t l2 _=>PW _) fun x hx=>gR _ hx) fun s hs=>by
      simp only [iC n 0 s hs]
      exact gR _ hs
    rw [if_neg c5,if_neg c5]
    by_cases c6:isW wCoalesce (t::r)=true
    ·rw [if_pos c6,if_pos c6]
     simp only [kG,kV,ZU,yD,bJ]
     have b4:∀ (t:Tm) (q:Tm×RS),0≤q.2.2→((fun b:Tm×RS=>(cD 27 [t,b.1],aN aY b.2)) q).2.2=q.2.2:=fun t q hq=>gR _ hq
     have b3:∀ (t:Tm) (s:RS),0≤s.2→((fun s:RS=>(cD 27 [t,(bK n 0 s).1],aN aY (bK n 0 s).2)) s).2.2=s.2:=fun t s hs=>by
      simp only [iC n 0 s hs]
      exact gR _ hs
     have b2:∀ q:Tm×RS,0≤q.2.2→((fun a:Tm×RS=>(cD 27 [a.1,(bK n 0 (aN bQ a.2)).1],aN aY (bK n 0 (aN bQ a.2)).2)) q).2.2=q.2.2:=fun q hq=>by
      simp only [fI hq]
      exact b3 q.1 q.2 hq
     exact PV (g:=fun s=>(cD 27 [(bK n 0 s).1,(bK n 0 (aN bQ (bK n 0 s).2)).1],aN aY (bK n 0 (aN bQ (bK n 0 s).2)).2))
      (fun _=>yE (g:=fun a=>(cD 27 [a.1,(bK n 0 (aN bQ a.2)).1],aN aY (bK n 0 (aN bQ a.2)).2)) (fX n 0 _ hr.tl)
       (fun t l2 ht=>PV (g:=fun s=>(cD 27 [t,(bK n 0 s).1],aN aY (bK n 0 s).2))
        (fun _=>yE (g:=fun b=>(cD 27 [t,b.1],aN aY b.2)) (fX n 0 _ ((hr.tl.sfx (aV n 0 _ t l2 ht)).tl)) (fun t' l4 _=>PW _) (b4 t)) (b3 t)) b2)
      fun s hs=>by
       simp only [iC n 0 s hs,fI hs]
    rw [if_neg c6,if_neg c6]
    by_cases c7:isW wCase (t::r)=true
    ·rw [if_pos c7,if_pos c7]
     simp only [jP,ZU,yD,bJ]
     have b6:∀ (t u:Tm) (q:Tm×RS),0≤q.2.2→((fun c:Tm×RS=>(cD 26 [t,u,c.1],aN wEnd c.2)) q).2.2=q.2.2:=fun t u q hq=>gR _ hq
     have b5:∀ (t u:Tm) (s:RS),0≤s.2→((fun s:RS=>(cD 26 [t,u,(bK n 0 s).1],aN wEnd (bK n 0 s).2)) s).2.2=s.2:=fun t u s hs=>by
      simp only [iC n 0 s hs]
      exact gR _ hs
     have b4:∀ (t:Tm) (q:Tm×RS),0≤q.2.2→((fun b:Tm×RS=>(cD 26 [t,b.1,(bK n 0 (aN wElse b.2)).1],aN wEnd (bK n 0 (aN wElse b.2)).2)) q).2.2=q.2.2:=fun t q hq=>by
      simp only [fI hq]
      exact b5 t q.1 q.2 hq
     have b3:∀ (t:Tm) (s:RS),0≤s.2→((fun s:RS=>(cD 26 [t,(bK n 0 s).1,(bK n 0 (aN wElse (bK n 0 s).2)).1],aN wEnd (bK n 0 (aN wElse (bK n 0 s).2)).2)) s).2.2=s.2:=fun t s hs=>by
      simp only [iC n 0 s hs,fI hs]
     have b2:∀ q:Tm×RS,0≤q.2.2→((fun a:Tm×RS=>(cD 26 [a.1,(bK n 0 (aN wThen a.2)).1,(bK n 0 (aN wElse (bK n 0 (aN wThen a.2)).2)).1],aN wEnd (bK n 0 (aN wElse (bK n 0 (aN wThen a.2)).2)).2)) q).2.2=q.2.2:=fun q hq=>by
      simp only [fI hq]
      exact b3 q.1 q.2 hq
     exact PV (g:=fun s=>(cD 26 [(bK n 0 s).1,(bK n 0 (aN wThen (bK n 0 s).2)).1,(bK n 0 (aN wElse (bK n 0 (aN wThen (bK n 0 s).2)).2)).1],aN wEnd (bK n 0 (aN wElse (bK n 0 (aN wThen (bK n 0 s).2)).2)).2))
      (fun _=>yE (g:=fun a=>(cD 26 [a.1,(bK n 0 (aN wThen a.2)).1,(bK n 0 (aN wElse (bK n 0 (aN wThen a.2)).2)).1],aN wEnd (bK n 0 (aN wElse (bK n 0 (aN wThen a.2)).2)).2)) (fX n 0 _ hr.tl)
       (fun t l2 ht=>PV (g:=fun s=>(cD 26 [t,(bK n 0 s).1,(bK n 0 (aN wElse (bK n 0 s).2)).1],aN wEnd (bK n 0 (aN wElse (bK n 0 s).2)).2))
        (fun _=>yE (g:=fun b=>(cD 26 [t,b.1,(bK n 0 (aN wElse b.2)).1],aN wEnd (bK n 0 (aN wElse b.2)).2)) (fX n 0 _ ((hr.tl.sfx (aV n 0 _ t l2 ht)).tl))
         (fun u l4 hu=>PV (g:=fun s=>(cD 26 [t,u,(bK n 0 s).1],aN wEnd (bK n 0 s).2))
          (fun _=>yE (g:=fun c=>(cD 26 [t,u,c.1],aN wEnd c.2)) (fX n 0 _ (((((hr.tl.sfx (aV n 0 _ t l2 ht)).tl).sfx (aV n 0 _ u l4 hu))).tl)) (fun v l6 _=>PW _) (b6 t u)) (b5 t u)) (b4 t)) (b3 t)) b2)
      fun s hs=>by
       simp only [iC n 0 s hs,fI hs]
    rw [if_neg c7,if_neg c7]
    cases hi:bN aggW (t::r) with
    | some i=>exact aId (fX n 0) (t::r) hl i hi (iC n 0)
    | none =>
      have e:gJ (t::r)=.error t.fr:=by
       unfold gJ
       simp only
       rw [if_neg (by simpa using hn)]
      rw [e]
      unfold LL
      rw [lV,hi,kF]
      rfl
end Go.Proofs.Tryz
