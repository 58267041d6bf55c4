import Derived.Test.YthpmjipkofbeiaaGreatDoorRsn
import Derived.Test.YthpmjipkofbeiaaGreatDoorUUna
set_option linter.all false
namespace Go.Proofs.Tryz
open Go.Ab
set_option maxRecDepth 100000
set_option maxHeartbeats 4000000
def FitT (r:cY Tm):Prop:=∀ t m,r=.ok (t,m)→t.fits
def FitL (r:cY (List Tm)):Prop:=∀ ks m,r=.ok (ks,m)→cC ks∧ks.length≤2000000
theorem FitT.ok {t:Tm} {m:List Tk} (h:t.fits):FitT (.ok (t,m)):=fun _ _ e=>by cases e; exact h
theorem FitT.err (p:Nat):FitT (.error p):=fun _ _ e=>by cases e
theorem FitL.ok {t:List Tm} {m:List Tk} (h:cC t∧t.length≤2000000):FitL (.ok (t,m)):=fun _ _ e=>by cases e; exact h
theorem CH {α:Type} {r:cY α} {l:List Tk} (hs:SfxOk r l) {f:α→List Tk→cY Tm} (h:∀ t m,r=.ok (t,m)→m.length≤l.length→FitT (f t m)):FitT (aR r f):=by
 cases hr:r with
 | error p=>exact .err p
 | ok x=>obtain ⟨t,m⟩:=x; exact h t m hr (qZ hs hr)
theorem UA {α:Type} {r:cY α} {l:List Tk} (hs:SfxOk r l) {f:α→List Tk→cY (List Tm)} (h:∀ t m,r=.ok (t,m)→m.length≤l.length→FitL (f t m)):FitL (aR r f):=by
 cases hr:r with
 | error p=>exact fun _ _ e=>by cases e
 | ok x=>obtain ⟨t,m⟩:=x; exact h t m hr (qZ hs hr)
theorem PS {ws:List (List UInt8)} {l:List Tk} {f:List Tk→cY Tm} (h:∀ m,m.length≤l.length→FitT (f m)):FitT (cR (cQ ws l) f):=by
 cases hr:cQ ws l with
 | error p=>exact .err p
 | ok m=>exact h m (AC hr)
theorem aBb {ws:List (List UInt8)} {l:List Tk} {f:List Tk→cY (List Tm)} (h:∀ m,m.length≤l.length→FitL (f m)):FitL (cR (cQ ws l) f):=by
 cases hr:cQ ws l with
 | error p=>exact fun _ _ e=>by cases e
 | ok m=>exact h m (AC hr)
theorem mK {o y n:Int} {t q:List UInt8} {ks:List Tm} (h:cC ks∧ks.length≤2000000):(Tm.mk o y n t q ks).fits:=by
 rw [Tm.fits]
 exact ⟨by omega,h.1⟩
theorem iV {o:Int} {ks:List Tm} (h:cC ks∧ks.length≤2000000):(cD o ks).fits:=mK h
theorem AB:cC []∧([]:List Tm).length≤2000000:=⟨trivial,by decide⟩
theorem EB {a:Tm} (ha:a.fits):cC [a]∧[a].length≤2000000:=⟨⟨ha,trivial⟩,by simp⟩
theorem aFq {a b:Tm} (ha:a.fits) (hb:b.fits):cC [a,b]∧[a,b].length≤2000000:=⟨⟨ha,hb,trivial⟩,by simp⟩
section
variable {p:List Tk→cY Tm} (hs:∀ l,SfxOk (p l) l) (hp:∀ l,l.length≤1000000→FitT (p l))
include hs hp
theorem MU (sg:List (List UInt8)) (ops:List Int):∀ (k:Nat) (out:Tm) (l:List Tk),l.length≤1000000→out.fits→FitT (cW p sg ops k out l)
 | 0,out,l,_,ho=>.ok ho
 | k+1,out,l,hl,ho=>by
   rw [cW]
   split
   ·exact .ok ho
   ·split
    ·exact .err _
    ·rename_i t l' h
     have h1:=qZ (hs l.tail) h
     have h2:l.tail.length≤l.length:=(bU l).length_le
     exact MU sg ops k _ l' (by omega) (iV (aFq ho (hp _ (by omega) t l' h)))
theorem UB:∀ (k:Nat) (ks:List Tm) (l:List Tk),l.length≤1000000→cC ks→ks.length+k≤2000000→FitL (fA p k ks l)
 | 0,ks,l,_,hk,hn=>.ok ⟨hk,by omega⟩
 | k+1,ks,l,hl,hk,hn=>by
   rw [fA]
   have h2:l.tail.length≤l.length:=(bU l).length_le
   split
   ·exact UA (hs _) fun t m ht hm=>UB k _ m (by omega) (eT _ _ hk ⟨hp _ (by omega) t m ht,trivial⟩) (by simp; omega)
   ·exact .ok ⟨hk,by omega⟩
theorem UC:∀ (k:Nat) (ks:List Tm) (l:List Tk),l.length≤1000000→cC ks→ks.length+k≤2000000→FitL (kV p k ks l)
 | 0,ks,l,_,hk,hn=>.ok ⟨hk,by omega⟩
 | k+1,ks,l,hl,hk,hn=>by
   rw [kV]
   exact aBb fun l1 h1=>UA (hs l1) fun t m ht hm=>UC k _ m (by omega) (eT _ _ hk ⟨hp _ (by omega) t m ht,trivial⟩) (by simp; omega)
theorem UD (k:Nat) (hk:k≤10) (l:List Tk) (hl:l.length≤1000000):FitL (kG p k l) :=
 aBb fun l1 h1=>UA (hs l1) fun t l2 ht h2=>UA (IQ hs k [t] l2) fun ks l3 hk3 h3=>aBb fun l4 h4=>.ok (UC hs hp k [t] l2 (by omega) ⟨hp _ (by omega) t l2 ht,trivial⟩ (by simp; omega) ks l3 hk3)
theorem UE:∀ (ws:List (List UInt8)) (ks:List Tm) (l:List Tk),l.length≤1000000→cC ks→ks.length+ws.length≤2000000→FitL (jP p ws ks l)
 | [],ks,l,_,hk,hn=>.ok ⟨hk,by simpa using hn⟩
 | w::ws,ks,l,hl,hk,hn=>by
   rw [jP]
   exact aBb fun l1 h1=>UA (hs l1) fun t m ht hm=>UE ws _ m (by omega) (eT _ _ hk ⟨hp _ (by omega) t m ht,trivial⟩) (by simp at hn ⊢; omega)
theorem aHW (i:Nat) (l:List Tk) (hl:l.length≤1000000):FitT (oA p i l):=by
 unfold oA
 refine PS fun l1 h1=>?_
 have h2:l1.tail.length≤l1.length:=(bU l1).length_le
 split
 ·exact PS fun l2 _=>.ok (mK AB)
 ·split
  ·exact CH (hs _) fun t l2 ht _=>PS fun l3 _=>.ok (mK (EB (hp _ (by omega) t l2 ht)))
  ·exact CH (hs _) fun t l2 ht _=>PS fun l3 _=>.ok (mK (EB (hp _ (by omega) t l2 ht)))
theorem wL (sg:List (List UInt8)) (ops:List Int) (l:List Tk) (hl:l.length≤1000000):FitT (aR (p l) fun t l'=>cW p sg ops l'.length t l') :=
 CH (hs l) fun t m ht hm=>MU hs hp sg ops _ t m (by omega) (hp l hl t m ht)
theorem ID {g:Tm→Tm} (hg:∀ t:Tm,t.fits→(g t).fits) (l:List Tk) (hl:l.length≤1000000):FitT (tP g (p l)) :=
 CH (hs l) fun t m ht _=>.ok (hg t (hp l hl t m ht))
end
theorem iB:∀ (n lvl:Nat) (l:List Tk),l.length≤1000000→FitT (bA n lvl l)
 | 0,lvl,l,_=>.err _
 | n+1,0,l,hl=>by rw [bA]; exact wL (aV n 1) (iB n 1) _ _ l hl
 | n+1,1,l,hl=>by rw [bA]; exact wL (aV n 2) (iB n 2) _ _ l hl
 | n+1,2,l,hl=>by
   rw [bA]
   have h2:l.tail.length≤l.length:=(bU l).length_le
   split
   ·exact ID (aV n 2) (iB n 2) (fun t ht=>iV (EB ht)) _ (by omega)
   ·exact iB n 3 l hl
 | n+1,3,l,hl=>by
   rw [bA]
   refine CH (aV n 4 l) fun a l' ha hl'=>?_
   have fa:=iB n 4 l hl a l' ha
   have h2:l'.tail.length≤l'.length:=(bU l').length_le
   split
   ·exact ID (aV n 4) (iB n 4) (fun t ht=>iV (aFq fa ht)) _ (by omega)
   ·split
    ·split
     ·exact .ok (iV (EB fa))
     ·split
      ·exact .ok (iV (EB fa))
      ·exact PS fun l2 _=>.ok (iV (EB (iV (EB fa))))
    ·split
     ·exact PS fun l2 h2'=>CH (aV n 0 l2) fun b l3 hb h3=>CH (AG (aV n 0) _ _ l3) fun ks l4 hk h4=>PS fun l5 _ =>
       .ok (iV (UB (aV n 0) (iB n 0) _ [a,b] l3 (by omega) (aFq fa (iB n 0 l2 (by omega) b l3 hb)).1 (by simp; omega) ks l4 hk))
     ·exact .ok fa
 | n+1,4,l,hl=>by rw [bA]; exact wL (aV n 5) (iB n 5) _ _ l hl
 | n+1,5,l,hl=>by rw [bA]; exact wL (aV n 6) (iB n 6) _ _ l hl
 | n+1,6,l,hl=>by
   rw [bA]
   have h2:l.tail.length≤l.length:=(bU l).length_le
   split
   ·split
    ·exact .ok (mK AB)
    ·exact ID (aV n 6) (iB n 6) (fun t ht=>iV (EB ht)) _ (by omega)
   ·exact iB n 7 l hl
 | n+1,m+7,[],_=>by rw [bA]; exact .err _
 | n+1,m+7,t::r,hl=>by
   have hr:r.length≤1000000:=by simp only [List.length_cons] at hl; omega
   have h2:r.tail.length≤r.length:=(bU r).length_le
   rw [bA]
   split
   ·exact .ok (mK AB)
   split
   ·exact .ok (mK AB)
   split
   ·exact .ok (mK AB)
   split
   ·exact .ok (iV AB)
   split
   ·split
    ·exact .ok (mK AB)
    ·exact .err _
   split
   ·exact CH (aV n 0 r) fun x l2 hx _=>PS fun l3 _=>.ok (iB n 0 r hr x l2 hx)
   split
   ·exact CH (AH (aV n 0) 0 r) fun ks l2 hk _=>.ok (iV (UD (aV n 0) (iB n 0) 0 (by decide) r hr ks l2 hk))
   split
   ·exact CH (AH (aV n 0) 1 r) fun ks l2 hk _=>.ok (iV (UD (aV n 0) (iB n 0) 1 (by decide) r hr ks l2 hk))
   split
   ·exact CH (IR (aV n 0) _ _ r) fun ks l2 hk _=>PS fun l3 _=>.ok (iV (UE (aV n 0) (iB n 0) _ [] r hr trivial (by simp) ks l2 hk))
   split
   ·exact aHW (aV n 0) (iB n 0) _ r hr
   ·refine CH (kH (t::r)) fun a l1 _ _=>?_
    split
    ·exact CH (kH _) fun b l2 _ _=>.ok (mK AB)
    ·exact .ok (mK AB)
def iP (s:List UInt8) (st:RS):Blk:=.var [.d (.str s),.d (.int .i64 (eU st.1).kd),.d (.str (eU st.1).tx),.d (.int .i64 (eU st.1).n),.d (.int .i64 (eU st.1).fr),.d (.int .i64 (eU st.1).to),.d (.int .i64 st.2)]
@[simp] theorem aFH (s:List UInt8) (st:RS):iP s st=.var [.d (.str s),.d (.int .i64 (eU st.1).kd),.d (.str (eU st.1).tx),.d (.int .i64 (eU st.1).n),.d (.int .i64 (eU st.1).fr),.d (.int .i64 (eU st.1).to),.d (.int .i64 st.2)]:=rfl
theorem aBp (s:List UInt8):∀ (k a:Nat) (t:Tk),a≤s.length→t∈sI s k a→t.to≤s.length
 | 0,a,t,_,h=>by cases h
 | k+1,a,t,ha,h=>by
   rw [sI] at h
   split at h
   ·rw [List.mem_singleton.1 h]; exact (wM ha).2.1
   ·rcases List.mem_cons.1 h with e | h
    ·rw [e]; exact (wM ha).2.1
    ·exact aBp s k _ t (wM ha).2.1 h
theorem aFI {s:List UInt8} {l:List Tk} (ha:At (bX s) l) (he:(eU l).ends=false):eU l.tail=dP s (eU l).to∧(eU l).to≤s.length∧At (bX s) l.tail:=by
 have hc:=IG (IF s) ha.sfx ha.ne
 match l,hc,ha,he with
 | [t],hc,ha,he=>rw [IE] at hc; have he':t.ends=false:=he; rw [hc] at he'; cases he'
 | t::u::r,hc,ha,he=>exact ⟨hc.2.1,aBp s _ 0 t (Nat.zero_le _) (ha.sfx.subset List.mem_cons_self),ha.to (bU _) (ha.ok.cons he)⟩
theorem aKY {s:List UInt8} {l:List Tk} (ha:At (bX s) l) (w:List UInt8):isW w l=(((eU l).kd==1||(eU l).kd==4)&&(eU l).tx==w):=by
 have hok:=aBO s
 cases l with
 | nil=>exact absurd rfl ha.ne
 | cons t r =>
   have h:=(hok t (ha.sfx.subset List.mem_cons_self)).tx
   show ((t.kd==1||t.kd==4)&&t.rw==w)=((t.kd==1||t.kd==4)&&t.tx==w)
   by_cases h1:t.kd=1
   ·rw [h (.inl h1)]
   ·by_cases h4:t.kd=4
    ·rw [h (.inr h4)]
    ·have e1:(t.kd==1)=false:=by rw [beq_eq_false_iff_ne]; exact h1
     have e4:(t.kd==4)=false:=by rw [beq_eq_false_iff_ne]; exact h4
     rw [e1,e4]; rfl
theorem aKZ {w:List UInt8} {l:List Tk} (h:isW w l=true):(eU l).ends=false:=by
 cases l with
 | nil=>cases h
 | cons t r =>
   simp only [isW,Bool.and_eq_true,Bool.or_eq_true,beq_iff_eq] at h
   exact iS (by simp only [eU]; omega) (by simp only [eU]; omega)
section
variable {s:List UInt8} (hs:s.length≤5000) {st:RS}
include hs
theorem CT (ha:At (bX s) st.1):Cf Es 28 [.ptr 1000000 0 0] [iP s st] (.tup []) [iP s (jC st)]:=by
 have hp:lN st.1=(eU st.1).fr:=by
  cases h:st.1 with
  | nil=>exact absurd h ha.ne
  | cons t r=>rfl
 refine cI bI (fn:=Tryz.f28) rfl ?_
 unfold jC
 by_cases h:st.2<0
 ·rw [if_pos h]
  simp [h,hp] <;> exact gz
 ·rw [if_neg h]
  have h':0≤st.2:=by omega
  simp [h] <;> exact gz
theorem JE (ha:At (bX s) st.1) (he:(eU st.1).ends=false):Cf Es 96 [.ptr 1000000 0 0] [iP s st] (.tup []) [iP s (aK st)]:=by
 obtain ⟨h1,h2,_⟩:=aFI ha he
 have hsc:=aFR s hs _ h2
 rw [← h1] at hsc
 refine cI bI (fn:=Tryz.f96) rfl ?_
 unfold aK
 by_cases h:st.2<0
 ·rw [if_pos h]
  simp [h]
  refine gw ?_
  refine aP hsc ?_
  simp [RL,RK] <;> exact gz
 ·rw [if_neg h]
  have h':0≤st.2:=by omega
  simp [h] <;> exact gz
theorem aMW (ha:At (bX s) st.1) (w:List UInt8):Cf Es 95 [.ptr 1000000 0 0,.d (.str w)] [iP s st] (.d (.bool (dJ w st))) [iP s st]:=by
 have hw:=aKY ha w
 refine cI bI (fn:=Tryz.f95) rfl ?_
 unfold dJ
 rw [hw]
 rw [aFH]
 generalize eU st.1=t at *
 generalize st.2=b at *
 by_cases h:b<0
 ·by_cases k1:t.kd=1
  ·simp [h,k1] <;> exact gz
  ·by_cases k4:t.kd=4
   ·simp [h,k4] <;> exact gz
   ·simp [h] <;> exact gz
 ·have h':0≤b:=by omega
  simp [h] <;> exact gz
theorem aAg (ha:At (bX s) st.1) (w:List UInt8):Cf Es 57 [.ptr 1000000 0 0,.d (.str w)] [iP s st] (.d (.bool (dJ w st))) [iP s (if dJ w st=true then aK st else st)]:=by
 have h1:=aMW hs ha w
 refine cI bI (fn:=Tryz.f57) rfl ?_
 cases hb:dJ w st with
 | true =>
   rw [hb] at h1
   have hw:isW w st.1=true:=by
    unfold dJ at hb
    exact (Bool.and_eq_true_iff.1 hb).2
   have h2:=JE hs ha (aKZ hw)
   simp only [if_true]
   refine gs ?_
   refine kZ h1 ?_
   refine gs ?_
   refine kZ h2 ?_
   exact gq
 | false =>
   rw [hb] at h1
   simp only [Bool.false_eq_true,if_false]
   refine gs ?_
   refine kZ h1 ?_
   exact gq
theorem dY (ha:At (bX s) st.1) (w:List UInt8):Cf Es 111 [.ptr 1000000 0 0,.d (.str w)] [iP s st] (.tup []) [iP s (aN w st)]:=by
 have h1:=aAg hs ha w
 have h2:=CT hs ha
 refine cI bI (fn:=Tryz.f111) rfl ?_
 unfold aN
 cases hb:dJ w st with
 | true =>
   rw [hb] at h1
   simp only [if_true] at h1 ⊢
   refine gs ?_
   refine kZ h1 ?_
   exact gq
 | false =>
   rw [hb] at h1
   simp only [Bool.false_eq_true,if_false] at h1 ⊢
   refine gs ?_
   refine kZ h1 ?_
   refine gs ?_
   refine kZ h2 ?_
   exact gq
theorem aBq (ha:At (bX s) st.1):Cf Es 182 [.ptr 1000000 0 0] [iP s st] (.d (.bool (jV st))) [iP s st]:=by
 have hn:=CL (eU st.1).tx
 rw [← MO] at hn
 refine cI bI (fn:=Tryz.f182) rfl ?_
 unfold jV
 rw [aFH]
 generalize eU st.1=t at *
 generalize st.2=b at *
 by_cases h:b<0
 ·by_cases k1:t.kd=1
  ·simp [h,k1]
   refine gw ?_
   refine aP hn ?_
   simp [h,k1] <;> exact gz
  ·simp [h] <;> exact gz
 ·have h':0≤b:=by omega
  simp [h] <;> exact gz
theorem wS (ha:At (bX s) st.1):Cf Es 156 [.ptr 1000000 0 0] [iP s st] (.d (.str (fK st).1)) [iP s (fK st).2]:=by
 have h1:=aBq hs ha
 have h2:=CT hs ha
 refine cI bI (fn:=Tryz.f156) rfl ?_
 unfold fK
 cases hb:jV st with
 | true =>
   rw [hb] at h1
   have hk:(eU st.1).kd=1:=by
    unfold jV at hb
    simp only [Bool.and_eq_true,beq_iff_eq] at hb
    exact hb.2.1
   have h3:=JE hs ha (iS (by omega) (by omega))
   simp only [if_true]
   refine gs ?_
   refine kZ h1 ?_
   refine gs ?_
   refine kZ h3 ?_
   exact gq
 | false =>
   rw [hb] at h1
   simp only [Bool.false_eq_true,if_false]
   refine gs ?_
   refine kZ h1 ?_
   refine gs ?_
   refine kZ h2 ?_
   exact gq
end
structure LO (s:List UInt8) (L:Nat) (f:FuncId) (q:RS→Tm×RS):Prop where
 run:∀ st:RS,At (bX s) st.1→st.1.length≤L→Cf Es f [.ptr 1000000 0 0] [iP s st] (q st).1.a [iP s (q st).2]
 kp:∀ st,Kp st (q st).2
theorem At.kp {T:List Tk} {st st':RS} (h:At T st.1) (k:Kp st st'):At T st'.1:=⟨k.1.trans h.sfx,k.2 h.ok⟩
theorem Kp.le {st st':RS} (k:Kp st st'):st'.1.length≤st.1.length:=k.1.length_le
theorem fT {w:List UInt8} {st:RS} (h:dJ w st=true):(aK st).1.length+1=st.1.length:=by
 obtain ⟨h1,h2⟩:=aBu h
 unfold aK
 rw [if_pos h1]
 exact eF h2
theorem aBw (a:List UInt8) (st:RS):fR [a] st=if dJ a st=true then some 0 else none:=by
 unfold fR dJ bN
 by_cases h:st.2<0
 ·rw [if_pos h]
  simp [h,List.findIdx?_cons]
 ·rw [if_neg h]
  simp [h]
theorem AP (a b c:List UInt8) (st:RS):fR [a,b,c] st=if dJ a st=true then some 0 else if dJ b st=true then some 1 else if dJ c st=true then some 2 else none:=by
 unfold fR dJ bN
 by_cases h:st.2<0
 ·rw [if_pos h]
  simp only [h,decide_true,Bool.true_and,List.findIdx?_cons,List.findIdx?_nil]
  cases isW a st.1 <;> cases isW b st.1 <;> cases isW c st.1 <;> rfl
 ·rw [if_neg h]
  simp [h]
theorem xL (o:Int) (a b:Tm):Cf En 58 [.d (.int .i64 o),a.a,b.a] [] (cD o [a,b]).a []:=by
 refine cI fQ (fn:=Tryz.f58) rfl ?_
 refine gs ?_
 all_goals simp [cD,Tm.c,dC]
theorem AQ (o:Int) (a:Tm):Cf En 135 [.d (.int .i64 o),a.a] [] (cD o [a]).a []:=by
 refine cI fQ (fn:=Tryz.f135) rfl ?_
 refine gs ?_
 all_goals simp [cD,Tm.c,dC]
section
variable {s:List UInt8} (hs:s.length≤5000) {L:Nat} {q:RS→Tm×RS} {st:RS}
include hs
theorem bG (ha:At (bX s) st.1) {w:List UInt8} (h:dJ w st=true):Cf Es 57 [.ptr 1000000 0 0,.d (.str w)] [iP s st] (.d (.bool true)) [iP s (aK st)]:=by
 have h1:=aAg hs ha w
 rw [h,if_pos rfl] at h1
 exact h1
theorem aX (ha:At (bX s) st.1) {w:List UInt8} (h:dJ w st=false):Cf Es 57 [.ptr 1000000 0 0,.d (.str w)] [iP s st] (.d (.bool false)) [iP s st]:=by
 have h1:=aAg hs ha w
 rw [h,if_neg (by simp)] at h1
 exact h1
theorem aLg (hq:LO s L 56 q) (ha:At (bX s) st.1) (hl:st.1.length≤L) :
  Cf Es 27 [.ptr 1000000 0 0] [iP s st] (cX q [RI] [23] (q st).2.1.length (q st).1 (q st).2).1.a [iP s (cX q [RI] [23] (q st).2.1.length (q st).1 (q st).2).2]:=by
 have h1:=hq.run st ha hl
 have k1:=hq.kp st
 generalize hres:cX q [RI] [23] (q st).2.1.length (q st).1 (q st).2=res
 refine cI bI (fn:=Tryz.f27) rfl ?_
 refine gs ?_
 refine kZ (h1) ?_
 refine gs ?_
 refine aL bI (fun y:Tm×RS=>{ s:=eP [(0,.ptr 1000000 0 0),(2,.ptr 2 0 0),(3,.ptr 3 0 0)],b:=eG [(1000000,1000000,iP s y.2),(2,2,.var zTm),(3,3,.var (y.1.c.map AV.d))] })
  (fun y=>At (bX s) y.2.1∧y.2.1.length≤L∧∃ k,y.2.1.length≤k∧cX q [RI] [23] k y.1 y.2=res) (fun y=>y.2.1.length) (q st) ⟨ha.kp k1,by have:=k1.le; omega,_,Nat.le_refl _,hres⟩
  (sZ _ [(2,2,_),(3,3,_)] (by simp [aD,Blk.live]) (by simp [aD])) ?_
 rintro ⟨t,st1⟩ ⟨h2,hL,k,hk,hr⟩
 simp only at h2 hL hk hr
 cases hw:dJ RI st1 with
 | true =>
   have hlen:=fT hw
   obtain ⟨k,rfl⟩:∃ z,k=z+1:=⟨k - 1,by omega⟩
   rw [cX,aBw,if_pos hw] at hr
   simp only at hr
   have h3:=h2.kp (cG hw)
   have h4:=hq.run (aK st1) h3 (by omega)
   have k4:=hq.kp (aK st1)
   have hto:=bG hs h2 hw
   obtain ⟨st2,hst2⟩:∃ st2,st2=aK st1:=⟨_,rfl⟩
   rw [← hst2] at hr h3 h4 k4 hto hlen
   refine gs ?_
   refine kZ (hto) ?_
   refine gs ?_
   refine kZ (h4) ?_
   refine gs ?_
   refine aA (iQ (xL 23 t (q st2).1)) (by simp) ?_
   refine gs ?_
   refine ⟨(cD 23 [t,(q st2).1],(q st2).2),⟨h3.kp k4,by have:=k4.le; simp only; omega,k,by have:=k4.le; simp only; omega,hr⟩,?_,by have:=k4.le; simp only; omega⟩
   exact sZ _ [(2,2,_),(3,3,_)] (by simp [aD,Blk.live]) (by simp [aD])
 | false =>
   have hc:cX q [RI] [23] k t st1=(t,st1):=by
    cases k with
    | zero=>rfl
    | succ k=>rw [cX,aBw,hw]; rfl
   rw [hc] at hr
   subst hr
   refine gs ?_
   refine kZ (aX hs h2 hw) ?_
   exact gq
theorem aNb (hq:LO s L 94 q) (ha:At (bX s) st.1) (hl:st.1.length≤L) :
  Cf Es 56 [.ptr 1000000 0 0] [iP s st] (cX q [tQ] [22] (q st).2.1.length (q st).1 (q st).2).1.a [iP s (cX q [tQ] [22] (q st).2.1.length (q st).1 (q st).2).2]:=by
 have h1:=hq.run st ha hl
 have k1:=hq.kp st
 generalize hres:cX q [tQ] [22] (q st).2.1.length (q st).1 (q st).2=res
 refine cI bI (fn:=Tryz.f56) rfl ?_
 refine gs ?_
 refine kZ (h1) ?_
 refine gs ?_
 refine aL bI (fun y:Tm×RS=>{ s:=eP [(0,.ptr 1000000 0 0),(2,.ptr 2 0 0),(3,.ptr 3 0 0)],b:=eG [(1000000,1000000,iP s y.2),(2,2,.var zTm),(3,3,.var (y.1.c.map AV.d))] })
  (fun y=>At (bX s) y.2.1∧y.2.1.length≤L∧∃ k,y.2.1.length≤k∧cX q [tQ] [22] k y.1 y.2=res) (fun y=>y.2.1.length) (q st) ⟨ha.kp k1,by have:=k1.le; omega,_,Nat.le_refl _,hres⟩
  (sZ _ [(2,2,_),(3,3,_)] (by simp [aD,Blk.live]) (by simp [aD])) ?_
 rintro ⟨t,st1⟩ ⟨h2,hL,k,hk,hr⟩
 simp only at h2 hL hk hr
 cases hw:dJ tQ st1 with
 | true =>
   have hlen:=fT hw
   obtain ⟨k,rfl⟩:∃ z,k=z+1:=⟨k - 1,by omega⟩
   rw [cX,aBw,if_pos hw] at hr
   simp only at hr
   have h3:=h2.kp (cG hw)
   have h4:=hq.run (aK st1) h3 (by omega)
   have k4:=hq.kp (aK st1)
   have hto:=bG hs h2 hw
   obtain ⟨st2,hst2⟩:∃ st2,st2=aK st1:=⟨_,rfl⟩
   rw [← hst2] at hr h3 h4 k4 hto hlen
   refine gs ?_
   refine kZ (hto) ?_
   refine gs ?_
   refine kZ (h4) ?_
   refine gs ?_
   refine aA (iQ (xL 22 t (q st2).1)) (by simp) ?_
   refine gs ?_
   refine ⟨(cD 22 [t,(q st2).1],(q st2).2),⟨h3.kp k4,by have:=k4.le; simp only; omega,k,by have:=k4.le; simp only; omega,hr⟩,?_,by have:=k4.le; simp only; omega⟩
   exact sZ _ [(2,2,_),(3,3,_)] (by simp [aD,Blk.live]) (by simp [aD])
 | false =>
   have hc:cX q [tQ] [22] k t st1=(t,st1):=by
    cases k with
    | zero=>rfl
    | succ k=>rw [cX,aBw,hw]; rfl
   rw [hc] at hr
   subst hr
   refine gs ?_
   refine kZ (aX hs h2 hw) ?_
   exact gq
theorem aNc (hq:LO s L 189 q) (ha:At (bX s) st.1) (hl:st.1.length≤L) :
  Cf Es 170 [.ptr 1000000 0 0] [iP s st] (cX q mM [6,7,12] (q st).2.1.length (q st).1 (q st).2).1.a [iP s (cX q mM [6,7,12] (q st).2.1.length (q st).1 (q st).2).2]:=by
 have h1:=hq.run st ha hl
 have k1:=hq.kp st
 generalize hres:cX q mM [6,7,12] (q st).2.1.length (q st).1 (q st).2=res
 refine cI bI (fn:=Tryz.f170) rfl ?_
 refine gs ?_
 refine kZ (h1) ?_
 refine gs ?_
 refine aL bI (fun y:Tm×RS=>{ s:=eP [(0,.ptr 1000000 0 0),(2,.ptr 2 0 0),(3,.ptr 3 0 0)],b:=eG [(1000000,1000000,iP s y.2),(2,2,.var zTm),(3,3,.var (y.1.c.map AV.d))] })
  (fun y=>At (bX s) y.2.1∧y.2.1.length≤L∧∃ k,y.2.1.length≤k∧cX q mM [6,7,12] k y.1 y.2=res) (fun y=>y.2.1.length) (q st) ⟨ha.kp k1,by have:=k1.le; omega,_,Nat.le_refl _,hres⟩
  (sZ _ [(2,2,_),(3,3,_)] (by simp [aD,Blk.live]) (by simp [aD])) ?_
 rintro ⟨t,st1⟩ ⟨h2,hL,k,hk,hr⟩
 simp only at h2 hL hk hr
 by_cases hbad:st1.2<0
 ·have hst:∀ (i:Nat) (op:Int) (w:List UInt8),dJ w st1=true→fR mM st1=some i→(([6,7,12]:List Int)[i]?).getD 0=op →
    ∃ k',k=k'+1∧cX q mM [6,7,12] k' (cD op [t,(q (aK st1)).1]) (q (aK st1)).2=res:=fun i op w hw ho hop=>by
   have hlen:=fT hw
   obtain ⟨k,rfl⟩:∃ z,k=z+1:=⟨k - 1,by omega⟩
   rw [cX,ho] at hr
   simp only [hop] at hr
   exact ⟨k,rfl,hr⟩
  cases hw0:dJ [43] st1 with
  | true =>
    have ho:fR mM st1=some 0:=by show fR [[43],[45],[124,124]] st1=_; rw [AP,if_pos hw0]
    obtain ⟨k',hk',hr'⟩:=hst 0 6 _ hw0 ho rfl
    have hlen:=fT hw0
    have h3:=h2.kp (cG hw0)
    have h4:=hq.run (aK st1) h3 (by omega)
    have k4:=hq.kp (aK st1)
    have hto:=bG hs h2 hw0
    obtain ⟨st2,hst2⟩:∃ st2,st2=aK st1:=⟨_,rfl⟩
    rw [← hst2] at hr' h3 h4 k4 hto hlen
    simp [hbad]
    refine gw ?_
    refine kZ (hto) ?_
    refine gs ?_
    refine kZ (h4) ?_
    refine gs ?_
    refine aA (iQ (xL 6 t (q st2).1)) (by simp) ?_
    refine gs ?_
    refine ⟨(cD 6 [t,(q st2).1],(q st2).2),⟨h3.kp k4,by have:=k4.le; simp only; omega,k',by have:=k4.le; simp only; omega,hr'⟩,?_,by have:=k4.le; simp only; omega⟩
    exact sZ _ [(2,2,_),(3,3,_)] (by simp [aD,Blk.live]) (by simp [aD])
  | false =>
  cases hw1:dJ [45] st1 with
  | true =>
    have ho:fR mM st1=some 1:=by show fR [[43],[45],[124,124]] st1=_; rw [AP,if_neg (by simp [hw0]),if_pos hw1]
    obtain ⟨k',hk',hr'⟩:=hst 1 7 _ hw1 ho rfl
    have hlen:=fT hw1
    have h3:=h2.kp (cG hw1)
    have h4:=hq.run (aK st1) h3 (by omega)
    have k4:=hq.kp (aK st1)
    have hto:=bG hs h2 hw1
    obtain ⟨st2,hst2⟩:∃ st2,st2=aK st1:=⟨_,rfl⟩
    rw [← hst2] at hr' h3 h4 k4 hto hlen
    simp [hbad]
    refine gw ?_
    refine kZ (aX hs h2 hw0) ?_
    refine gs ?_
    refine kZ (hto) ?_
    refine gs ?_
    refine kZ (h4) ?_
    refine gs ?_
    refine aA (iQ (xL 7 t (q st2).1)) (by simp) ?_
    refine gs ?_
    refine ⟨(cD 7 [t,(q st2).1],(q st2).2),⟨h3.kp k4,by have:=k4.le; simp only; omega,k',by have:=k4.le; simp only; omega,hr'⟩,?_,by have:=k4.le; simp only; omega⟩
    exact sZ _ [(2,2,_),(3,3,_)] (by simp [aD,Blk.live]) (by simp [aD])
  | false =>
  cases hw2:dJ [124,124] st1 with
  | true =>
    have ho:fR mM st1=some 2:=by show fR [[43],[45],[124,124]] st1=_; rw [AP,if_neg (by simp [hw0]),if_neg (by simp [hw1]),if_pos hw2]
    obtain ⟨k',hk',hr'⟩:=hst 2 12 _ hw2 ho rfl
    have hlen:=fT hw2
    have h3:=h2.kp (cG hw2)
    have h4:=hq.run (aK st1) h3 (by omega)
    have k4:=hq.kp (aK st1)
    have hto:=bG hs h2 hw2
    obtain ⟨st2,hst2⟩:∃ st2,st2=aK st1:=⟨_,rfl⟩
    rw [← hst2] at hr' h3 h4 k4 hto hlen
    simp [hbad]
    refine gw ?_
    refine kZ (aX hs h2 hw0) ?_
    refine gs ?_
    refine kZ (aX hs h2 hw1) ?_
    refine gs ?_
    refine kZ (hto) ?_
    refine gs ?_
    refine kZ (h4) ?_
    refine gs ?_
    refine aA (iQ (xL 12 t (q st2).1)) (by simp) ?_
    refine gs ?_
    refine ⟨(cD 12 [t,(q st2).1],(q st2).2),⟨h3.kp k4,by have:=k4.le; simp only; omega,k',by have:=k4.le; simp only; omega,hr'⟩,?_,by have:=k4.le; simp only; omega⟩
    exact sZ _ [(2,2,_),(3,3,_)] (by simp [aD,Blk.live]) (by simp [aD])
  | false =>
  have ho:fR mM st1=none:=by show fR [[43],[45],[124,124]] st1=_; rw [AP,if_neg (by simp [hw0]),if_neg (by simp [hw1]),if_neg (by simp [hw2])]
  have hc:cX q mM [6,7,12] k t st1=(t,st1):=by
   cases k with
   | zero=>rfl
   | succ k=>rw [cX,ho]
  rw [hc] at hr
  subst hr
  simp [hbad]
  refine gw ?_
  refine kZ (aX hs h2 hw0) ?_
  refine gs ?_
  refine kZ (aX hs h2 hw1) ?_
  refine gs ?_
  refine kZ (aX hs h2 hw2) ?_
  exact gq
 ·have hc:cX q mM [6,7,12] k t st1=(t,st1):=lW (by omega) q _ _ k t
  rw [hc] at hr
  subst hr
  have hbad':0≤st1.2:=by omega
  simp [hbad] <;> exact gz
theorem aDB (hq:LO s L 199 q) (ha:At (bX s) st.1) (hl:st.1.length≤L) :
  Cf Es 189 [.ptr 1000000 0 0] [iP s st] (cX q mC [8,9,10] (q st).2.1.length (q st).1 (q st).2).1.a [iP s (cX q mC [8,9,10] (q st).2.1.length (q st).1 (q st).2).2]:=by
 have h1:=hq.run st ha hl
 have k1:=hq.kp st
 generalize hres:cX q mC [8,9,10] (q st).2.1.length (q st).1 (q st).2=res
 refine cI bI (fn:=Tryz.f189) rfl ?_
 refine gs ?_
 refine kZ (h1) ?_
 refine gs ?_
 refine aL bI (fun y:Tm×RS=>{ s:=eP [(0,.ptr 1000000 0 0),(2,.ptr 2 0 0),(3,.ptr 3 0 0)],b:=eG [(1000000,1000000,iP s y.2),(2,2,.var zTm),(3,3,.var (y.1.c.map AV.d))] })
  (fun y=>At (bX s) y.2.1∧y.2.1.length≤L∧∃ k,y.2.1.length≤k∧cX q mC [8,9,10] k y.1 y.2=res) (fun y=>y.2.1.length) (q st) ⟨ha.kp k1,by have:=k1.le; omega,_,Nat.le_refl _,hres⟩
  (sZ _ [(2,2,_),(3,3,_)] (by simp [aD,Blk.live]) (by simp [aD])) ?_
 rintro ⟨t,st1⟩ ⟨h2,hL,k,hk,hr⟩
 simp only at h2 hL hk hr
 by_cases hbad:st1.2<0
 ·have hst:∀ (i:Nat) (op:Int) (w:List UInt8),dJ w st1=true→fR mC st1=some i→(([8,9,10]:List Int)[i]?).getD 0=op →
    ∃ k',k=k'+1∧cX q mC [8,9,10] k' (cD op [t,(q (aK st1)).1]) (q (aK st1)).2=res:=fun i op w hw ho hop=>by
   have hlen:=fT hw
   obtain ⟨k,rfl⟩:∃ z,k=z+1:=⟨k - 1,by omega⟩
   rw [cX,ho] at hr
   simp only [hop] at hr
   exact ⟨k,rfl,hr⟩
  cases hw0:dJ [42] st1 with
  | true =>
    have ho:fR mC st1=some 0:=by show fR [[42],[47],[109,111,100]] st1=_; rw [AP,if_pos hw0]
    obtain ⟨k',hk',hr'⟩:=hst 0 8 _ hw0 ho rfl
    have hlen:=fT hw0
    have h3:=h2.kp (cG hw0)
    have h4:=hq.run (aK st1) h3 (by omega)
    have k4:=hq.kp (aK st1)
    have hto:=bG hs h2 hw0
    obtain ⟨st2,hst2⟩:∃ st2,st2=aK st1:=⟨_,rfl⟩
    rw [← hst2] at hr' h3 h4 k4 hto hlen
    simp [hbad]
    refine gw ?_
    refine kZ (hto) ?_
    refine gs ?_
    refine kZ (h4) ?_
    refine gs ?_
    refine aA (iQ (xL 8 t (q st2).1)) (by simp) ?_
    refine gs ?_
    refine ⟨(cD 8 [t,(q st2).1],(q st2).2),⟨h3.kp k4,by have:=k4.le; simp only; omega,k',by have:=k4.le; simp only; omega,hr'⟩,?_,by have:=k4.le; simp only; omega⟩
    exact sZ _ [(2,2,_),(3,3,_)] (by simp [aD,Blk.live]) (by simp [aD])
  | false =>
  cases hw1:dJ [47] st1 with
  | true =>
    have ho:fR mC st1=some 1:=by show fR [[42],[47],[109,111,100]] st1=_; rw [AP,if_neg (by simp [hw0]),if_pos hw1]
    obtain ⟨k',hk',hr'⟩:=hst 1 9 _ hw1 ho rfl
    have hlen:=fT hw1
    have h3:=h2.kp (cG hw1)
    have h4:=hq.run (aK st1) h3 (by omega)
    have k4:=hq.kp (aK st1)
    have hto:=bG hs h2 hw1
    obtain ⟨st2,hst2⟩:∃ st2,st2=aK st1:=⟨_,rfl⟩
    rw [← hst2] at hr' h3 h4 k4 hto hlen
    simp [hbad]
    refine gw ?_
    refine kZ (aX hs h2 hw0) ?_
    refine gs ?_
    refine kZ (hto) ?_
    refine gs ?_
    refine kZ (h4) ?_
    refine gs ?_
    refine aA (iQ (xL 9 t (q st2).1)) (by simp) ?_
    refine gs ?_
    refine ⟨(cD 9 [t,(q st2).1],(q st2).2),⟨h3.kp k4,by have:=k4.le; simp only; omega,k',by have:=k4.le; simp only; omega,hr'⟩,?_,by have:=k4.le; simp only; omega⟩
    exact sZ _ [(2,2,_),(3,3,_)] (by simp [aD,Blk.live]) (by simp [aD])
  | false =>
  cases hw2:dJ [109,111,100] st1 with
  | true =>
    have ho:fR mC st1=some 2:=by show fR [[42],[47],[109,111,100]] st1=_; rw [AP,if_neg (by simp [hw0]),if_neg (by simp [hw1]),if_pos hw2]
    obtain ⟨k',hk',hr'⟩:=hst 2 10 _ hw2 ho rfl
    have hlen:=fT hw2
    have h3:=h2.kp (cG hw2)
    have h4:=hq.run (aK st1) h3 (by omega)
    have k4:=hq.kp (aK st1)
    have hto:=bG hs h2 hw2
    obtain ⟨st2,hst2⟩:∃ st2,st2=aK st1:=⟨_,rfl⟩
    rw [← hst2] at hr' h3 h4 k4 hto hlen
    simp [hbad]
    refine gw ?_
    refine kZ (aX hs h2 hw0) ?_
    refine gs ?_
    refine kZ (aX hs h2 hw1) ?_
    refine gs ?_
    refine kZ (hto) ?_
    refine gs ?_
    refine kZ (h4) ?_
    refine gs ?_
    refine aA (iQ (xL 10 t (q st2).1)) (by simp) ?_
    refine gs ?_
    refine ⟨(cD 10 [t,(q st2).1],(q st2).2),⟨h3.kp k4,by have:=k4.le; simp only; omega,k',by have:=k4.le; simp only; omega,hr'⟩,?_,by have:=k4.le; simp only; omega⟩
    exact sZ _ [(2,2,_),(3,3,_)] (by simp [aD,Blk.live]) (by simp [aD])
  | false =>
  have ho:fR mC st1=none:=by show fR [[42],[47],[109,111,100]] st1=_; rw [AP,if_neg (by simp [hw0]),if_neg (by simp [hw1]),if_neg (by simp [hw2])]
  have hc:cX q mC [8,9,10] k t st1=(t,st1):=by
   cases k with
   | zero=>rfl
   | succ k=>rw [cX,ho]
  rw [hc] at hr
  subst hr
  simp [hbad]
  refine gw ?_
  refine kZ (aX hs h2 hw0) ?_
  refine gs ?_
  refine kZ (aX hs h2 hw1) ?_
  refine gs ?_
  refine kZ (aX hs h2 hw2) ?_
  exact gq
 ·have hc:cX q mC [8,9,10] k t st1=(t,st1):=lW (by omega) q _ _ k t
  rw [hc] at hr
  subst hr
  have hbad':0≤st1.2:=by omega
  simp [hbad] <;> exact gz
theorem aNd {q':RS→Tm×RS} (hq:LO s L 94 q) (hq':LO s (L+1) 136 q') (ha:At (bX s) st.1) (hl:st.1.length≤L+1) :
  Cf Es 94 [.ptr 1000000 0 0] [iP s st] (if dJ wNot st=true then (cD 24 [(q (aK st)).1],(q (aK st)).2) else q' st).1.a [iP s (if dJ wNot st=true then (cD 24 [(q (aK st)).1],(q (aK st)).2) else q' st).2]:=by
 refine cI bI (fn:=Tryz.f94) rfl ?_
 cases hw:dJ wNot st with
 | true =>
   have hlen:=fT hw
   have h4:=hq.run (aK st) (ha.kp (cG hw)) (by omega)
   simp only [if_true]
   refine gs ?_
   refine kZ (bG hs ha hw) ?_
   refine gs ?_
   refine kZ (h4) ?_
   refine gs ?_
   refine aA (iQ (AQ 24 (q (aK st)).1)) (by simp) ?_
   exact gq
 | false =>
   have h4:=hq'.run st ha hl
   simp only [Bool.false_eq_true,if_false]
   refine gs ?_
   refine kZ (aX hs ha hw) ?_
   refine gs ?_
   refine kZ (h4) ?_
   exact gq
end
end Go.Proofs.Tryz
