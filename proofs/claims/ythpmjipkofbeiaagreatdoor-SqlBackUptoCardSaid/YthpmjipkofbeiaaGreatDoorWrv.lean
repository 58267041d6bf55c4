import Derived.Test.YthpmjipkofbeiaaGreatDoorUScn
set_option linter.all false
namespace Go.Proofs.Tryz
open Go.Ab
set_option maxRecDepth 100000
set_option maxHeartbeats 8000000
def sgB (o:Int):Option (List UInt8×Nat×Nat×Nat) :=
 if o=23 then some (RI,0,0,1) else if o=22 then some (tQ,1,1,2)
 else if 14≤o∧o≤20 then some ((cmpW[(o - 14).toNat]?).getD [],3,4,4)
 else if o=6 then some ([43],4,4,5) else if o=7 then some ([45],4,4,5) else if o=12 then some ([124,124],4,4,5)
 else if o=8 then some ([42],5,5,6) else if o=9 then some ([47],5,5,6) else if o=10 then some ([109,111,100],5,5,6)
 else none
def rkO (o n:Int):Nat:=match sgB o with
 | some x=>x.2.1
 | none=>if o=24 then 2 else if o=21∨o=25∨o=28 then 3 else if o=11∨(o=2∧n<0) then 6 else 7
def tA:Tm→Nat
 | .mk o _ n _ _ _=>rkO o n
def yT (want r:Nat) (s:List UInt8):List UInt8:=if r<want then 40::(s++[41]) else s
def eH:List (List UInt8)→List UInt8
 | []=>[]
 | [s]=>s
 | s::r=>s++44::32::eH r
def LQ (n:Int):List UInt8:=if n=2 then wCount++[40] else if n=3 then wCount++40::(aO++[32]) else if n=4 then IM++[40] else if n=5 then IN++[40] else IO++[40]
def qL {α:Type} (l:List α) (d:α) (i:Nat):α:=(l[i]?).getD d
def wrO (o y n:Int) (t q:List UInt8) (ks:List Tm) (W:List (List UInt8)):List UInt8:=match sgB o with
 | some x=>yT x.2.2.1 (qL (ks.map tA) 0 0) (qL W [] 0)++32::(x.1++32::yT x.2.2.2 (qL (ks.map tA) 0 1) (qL W [] 1))
 | none =>
   if o=1 then wNull++32::TR y
   else if o=2 then Lib.itoa n
   else if o=3 then (if n=1 then wTrue else wFalse)
   else if o=4 then 39::(t++[39])
   else if o=24 then wNot++32::yT 2 (qL (ks.map tA) 0 0) (qL W [] 0)
   else if o=21 then yT 4 (qL (ks.map tA) 0 0) (qL W [] 0)++32::(wIs++32::wNull)
   else if o=25 then yT 4 (qL (ks.map tA) 0 0) (qL W [] 0)++32::(wIs++32::wTrue)
   else if o=28 then yT 4 (qL (ks.map tA) 0 0) (qL W [] 0)++32::(wIn++32::(40::(eH (W.drop 1)++[41])))
   else if o=11 then (if PL (qL ks zeT 0)=true then 45::40::(qL W [] 0++[41]) else 45::yT 6 (qL (ks.map tA) 0 0) (qL W [] 0))
   else if o=13 then wLength++40::(qL W [] 0++[41])
   else if o=27 then wCoalesce++40::(eH W++[41])
   else if o=26 then wCase++32::(wWhen++32::(qL W [] 0++32::(wThen++32::(qL W [] 1++32::(wElse++32::(qL W [] 2++32::wEnd))))))
   else if o=41 then (if n=1 then wCount++[40,42,41] else LQ n++(qL W [] 0++[41]))
   else if q=[] then t else q++46::t
mutual
def wr:Tm→List UInt8
 | .mk o y n t q ks=>wrO o y n t q ks (qD ks)
def qD:List Tm→List (List UInt8)
 | []=>[]
 | k::ks=>wr k::qD ks
end
theorem pD:∀ l:List Tm,qD l=l.map wr
 | []=>rfl
 | k::ks=>by rw [qD,pD ks]; rfl
mutual
/-- Terms that are as they have to be. -/
inductive qM:Tm→Prop
 | chn {r i:Nat} {a b:Tm} (hr:r=0∨r=1∨r=4∨r=5) (hi:i<(DY r).length) (ha:qM a) (hb:qM b):qM (cD (((lvO r)[i]?).getD 0) [a,b])
 | cmp {i:Nat} {a b:Tm} (hi:i<7) (ha:qM a) (hb:qM b):qM (cD (14+i) [a,b])
 | no {a:Tm} (ha:qM a):qM (cD 24 [a])
 | isNull {a:Tm} (ha:qM a):qM (cD 21 [a])
 | isTrue {a:Tm} (ha:qM a):qM (cD 25 [a])
 | isIn {a:Tm} {ks:List Tm} (ha:qM a) (hk:RD ks) (hn:ks ≠ []):qM (cD 28 (a::ks))
 | neg {a:Tm} (ha:qM a):qM (cD 11 [a])
 | len {a:Tm} (ha:qM a):qM (cD 13 [a])
 | coal {a b:Tm} (ha:qM a) (hb:qM b):qM (cD 27 [a,b])
 | case {a b c:Tm} (ha:qM a) (hb:qM b) (hc:qM c):qM (cD 26 [a,b,c])
 | rows:qM (.mk 41 0 1 [] [] [])
 | agg {n:Int} {a:Tm} (hn:2≤n∧n≤6) (ha:qM a):qM (.mk 41 0 n [] [] [a])
 | null {y:Int} (hy:1≤y∧y≤3):qM (.mk 1 y 0 [] [] [])
 | int {n:Int} (h0:-1000000000000≤n) (h1:n≤1000000000000):qM (.mk 2 0 n [] [] [])
 | tru:qM (.mk 3 0 1 [] [] [])
 | fls:qM (cD 3 [])
 | text {t:List UInt8} (ht:oK t=true):qM (.mk 4 0 0 t [] [])
 | name {t:List UInt8} (ht:bP jZ t=true):qM (.mk 40 0 0 t [] [])
 | qual {t q:List UInt8} (ht:bP jZ t=true) (hq:bP jZ q=true):qM (.mk 40 0 0 t q [])
inductive RD:List Tm→Prop
 | nil:RD []
 | cons {a:Tm} {ks:List Tm} (ha:qM a) (hk:RD ks):RD (a::ks)
end
def Has (t:Tm):Prop:=∃ w,WT t (tA t) w∧cL (wr t) w∧w ≠ []
theorem oD {t:Tm} {r:Nat} {w:List Tz} (h:WT t r w):w ≠ []:=by
 obtain ⟨z,w',e,_⟩:=(back h).hd
 rw [e]; simp
theorem tZ {a:Tm} {w:List Tz} (h:cL (wr a) w) (want:Nat):cL (yT want (tA a) (wr a)) (uB want (tA a) w):=by
 unfold yT uB
 split
 ·exact pK h
 ·exact h
theorem aHb {want r:Nat} {w:List Tz} (h:w ≠ []):uB want r w ≠ []:=by
 unfold uB
 split
 ·simp
 ·exact h
theorem mQ {x:List UInt8} (hx:tY x=true):cL x [wd x]:=by
 unfold tY at hx
 cases x with
 | nil=>cases hx
 | cons c q =>
   simp only [Bool.and_eq_true,List.all_eq_true,decide_eq_true_eq] at hx
   exact yR hx.1 hx.2.1 hx.2.2
theorem dH {x:List UInt8} (hx:tY x=true) {s:List UInt8} {w:List Tz} (h:cL s w) (hw:w ≠ []):cL (x++32::s) (wd x::w):=gH (mQ hx) h hw
theorem qE {x:List UInt8} (hx:tY x=true) {s:List UInt8} {w:List Tz} (h:cL s w):cL (x++40::(s++[41])) (wd x::sg bF::(w++[sg aY])) :=
 aDw (mQ hx) (pK h) fun rest _=>sY (by decide) _
theorem aHc {r i:Nat} (hr:r=0∨r=1∨r=4∨r=5) (hi:i<(DY r).length):sgB (((lvO r)[i]?).getD 0)=some (((DY r)[i]?).getD [],r,r,r+1)∧((DY r)[i]?).getD []∈aHa:=by
 rcases hr with rfl | rfl | rfl | rfl
 ·have:i=0:=by simp [DY] at hi; omega
  subst this; decide
 ·have:i=0:=by simp [DY] at hi; omega
  subst this; decide
 ·have:i=0∨i=1∨i=2:=by simp [DY,mM] at hi; omega
  rcases this with rfl | rfl | rfl <;> decide
 ·have:i=0∨i=1∨i=2:=by simp [DY,mC] at hi; omega
  rcases this with rfl | rfl | rfl <;> decide
theorem aHd {i:Nat} (hi:i<7):sgB (14+i)=some ((cmpW[i]?).getD [],3,4,4)∧(cmpW[i]?).getD []∈aHa:=by
 have:i=0∨i=1∨i=2∨i=3∨i=4∨i=5∨i=6:=by omega
 rcases this with rfl | rfl | rfl | rfl | rfl | rfl | rfl <;> decide
theorem aCe {o:Int} {a b:Tm} {x:List UInt8} {r lf rg:Nat} (ho:sgB o=some (x,r,lf,rg)) (hx:x∈aHa) {wa wb:List Tz} (ha:cL (wr a) wa) (hb:cL (wr b) wb) (nb:wb ≠ []) :
  tA (cD o [a,b])=r∧cL (wr (cD o [a,b])) (uB lf (tA a) wa++(tz x::uB rg (tA b) wb)):=by
 refine ⟨?_,?_⟩
 ·show (match sgB o with
   | some x=>x.2.1
   | none=>_)=r
  rw [ho]
 ·unfold cD
  rw [wr,wrO,ho]
  exact gH (tZ ha lf) (aEe hx (tZ hb rg) (aHb nb)) (by simp)
def aJu:List Tm→Prop
 | []=>True
 | a::ks=>Has a∧aJu ks
theorem KN:∀ (ks:List Tm),aJu ks→ks ≠ []→∃ ws,WTs ks ws∧cL (eH (qD ks)) (rN ws)∧rN ws ≠ []
 | [],_,h=>absurd rfl h
 | [a],⟨⟨w,h1,h2,h3⟩,_⟩,_=>⟨[w],.cons h1 .nil,h2,h3⟩
 | a::b::ks,⟨⟨w,h1,h2,h3⟩,hk⟩,_=>by
   obtain ⟨ws,g1,g2,g3⟩:=KN (b::ks) hk (by simp)
   have hne:ws ≠ []:=fun e=>by subst e; cases g1
   refine ⟨w::ws,.cons h1 g1,?_,?_⟩
   ·rw [qX hne]
    exact wE h2 g2 g3
   ·rw [qX hne]; simp
theorem wr1 {o:Int} {a:Tm} {P:List UInt8→Prop} (h:P (wrO o 0 0 [] [] [a] [wr a])):P (wr (cD o [a])):=by
 unfold cD
 rw [wr,qD,qD]
 exact h
mutual
theorem DJ:∀ {t:Tm},qM t→Has t
 | _,.chn hr hi ha hb=>by
   obtain ⟨wa,a1,a2,a3⟩:=DJ ha
   obtain ⟨wb,b1,b2,b3⟩:=DJ hb
   obtain ⟨o1,o2⟩:=aHc hr hi
   obtain ⟨q1,q2⟩:=aCe o1 o2 a2 b2 b3
   rw [Has,q1]
   have hw:=WT.chn hr hi a1 b1
   exact ⟨_,hw,q2,oD hw⟩
 | _,.cmp hi ha hb=>by
   obtain ⟨wa,a1,a2,a3⟩:=DJ ha
   obtain ⟨wb,b1,b2,b3⟩:=DJ hb
   obtain ⟨o1,o2⟩:=aHd hi
   obtain ⟨q1,q2⟩:=aCe o1 o2 a2 b2 b3
   rw [Has,q1]
   have hw:=WT.cmp hi a1 b1
   exact ⟨_,hw,q2,oD hw⟩
 | _,.no ha=>by
   obtain ⟨wa,a1,a2,a3⟩:=DJ ha
   have hw:=WT.no a1
   exact ⟨_,hw,wr1 (P:=fun s=>cL s _) (dH (x:=wNot) (by decide) (tZ a2 2) (aHb a3)),oD hw⟩
 | _,.isNull ha=>by
   obtain ⟨wa,a1,a2,a3⟩:=DJ ha
   have hw:=WT.isNull a1
   exact ⟨_,hw,wr1 (P:=fun s=>cL s _) (gH (tZ a2 4) (dH (x:=wIs) (by decide) (mQ (x:=wNull) (by decide)) (by simp)) (by simp)),oD hw⟩
 | _,.isTrue ha=>by
   obtain ⟨wa,a1,a2,a3⟩:=DJ ha
   have hw:=WT.isTrue a1
   exact ⟨_,hw,wr1 (P:=fun s=>cL s _) (gH (tZ a2 4) (dH (x:=wIs) (by decide) (mQ (x:=wTrue) (by decide)) (by simp)) (by simp)),oD hw⟩
 | _,.isIn (a:=a) (ks:=ks) ha hk hn=>by
   obtain ⟨wa,a1,a2,a3⟩:=DJ ha
   obtain ⟨ws,g1,g2,g3⟩:=KN _ (aMa hk) hn
   have hw:=WT.isIn a1 g1 hn
   refine ⟨_,hw,?_,oD hw⟩
   unfold cD
   rw [wr,qD]
   exact gH (tZ a2 4) (dH (x:=wIn) (by decide) (pK g2) (by simp)) (by simp)
 | _,.neg (a:=a) ha=>by
   obtain ⟨wa,a1,a2,a3⟩:=DJ ha
   by_cases hp:PL a=true
   ·have hw:=WT.negP a1
    refine ⟨_,hw,wr1 (P:=fun s=>cL s _) ?_,oD hw⟩
    show cL (if PL a=true then _ else _) _
    rw [if_pos hp]
    exact wD (pK a2)
   ·have hw:=WT.neg a1 (by simpa using hp)
    refine ⟨_,hw,wr1 (P:=fun s=>cL s _) ?_,oD hw⟩
    show cL (if PL a=true then _ else _) _
    rw [if_neg hp]
    exact wD (tZ a2 6)
 | _,.len ha=>by
   obtain ⟨wa,a1,a2,a3⟩:=DJ ha
   have hw:=WT.len a1
   exact ⟨_,hw,wr1 (P:=fun s=>cL s _) (qE (x:=wLength) (by decide) a2),oD hw⟩
 | _,.coal ha hb=>by
   obtain ⟨wa,a1,a2,a3⟩:=DJ ha
   obtain ⟨wb,b1,b2,b3⟩:=DJ hb
   have hw:=WT.coal a1 b1
   refine ⟨_,hw,?_,oD hw⟩
   unfold cD
   rw [wr,qD,qD,qD]
   have:=qE (x:=wCoalesce) (by decide) (wE a2 b2 b3)
   rw [List.append_assoc wa] at this
   exact this
 | _,.case ha hb hc=>by
   obtain ⟨wa,a1,a2,a3⟩:=DJ ha
   obtain ⟨wb,b1,b2,b3⟩:=DJ hb
   obtain ⟨wc,c1,c2,c3⟩:=DJ hc
   have hw:=WT.case a1 b1 c1
   refine ⟨_,hw,?_,oD hw⟩
   unfold cD
   rw [wr,qD,qD,qD,qD]
   exact dH (x:=wCase) (by decide) (dH (x:=wWhen) (by decide) (gH a2 (dH (x:=wThen) (by decide) (gH b2 (dH (x:=wElse) (by decide) (gH c2 (mQ (x:=wEnd) (by decide)) (by simp)) (by simp)) (by simp)) (by simp)) (by simp)) (by simp)) (by simp)
 | _,.rows=>by
   have hw:=WT.rows
   refine ⟨_,hw,?_,oD hw⟩
   rw [wr,qD]
   show cL (wCount++[40,42,41]) ([wd wCount]++[sg bF,sg fV,sg aY])
   refine aDw (mQ (x:=wCount) (by decide)) (fun rest k hr=>?_) fun rest _=>sY (by decide) _
   show pC (k+3) (40::42::41::rest)=_
   rw [mP 40 (by decide),mP 42 (by decide),mP 41 (by decide)]
   rfl
 | _,.agg (n:=n) (a:=a) hn ha=>by
   obtain ⟨wa,a1,a2,a3⟩:=DJ ha
   have hw:=WT.agg hn a1
   refine ⟨_,?_,?_,oD hw⟩
   ·exact hw
   ·rw [wr,qD,qD]
    show cL (if n=1 then _ else LQ n++(wr a++[41])) _
    rw [if_neg (by omega)]
    have:n=2∨n=3∨n=4∨n=5∨n=6:=by omega
    rcases this with rfl | rfl | rfl | rfl | rfl
    ·exact qE (x:=wCount) (by decide) a2
    ·have h1:cL (aO++32::wr a) (wd aO::wa):=dH (by decide) a2 a3
     have:=qE (x:=wCount) (by decide) h1
     simpa [LQ,aET] using this
    ·exact qE (x:=IM) (by decide) a2
    ·exact qE (x:=IN) (by decide) a2
    ·exact qE (x:=IO) (by decide) a2
 | _,.null (y:=y) hy=>by
   have hw:=WT.null hy
   refine ⟨_,hw,?_,oD hw⟩
   rw [wr,qD]
   show cL (wNull++32::TR y) _
   have:y=1∨y=2∨y=3:=by omega
   rcases this with rfl | rfl | rfl
   ·exact dH (x:=wNull) (by decide) (mQ (x:=EQ) (by decide)) (by simp)
   ·exact dH (x:=wNull) (by decide) (mQ (x:=uD) (by decide)) (by simp)
   ·exact dH (x:=wNull) (by decide) (mQ (x:=uE) (by decide)) (by simp)
 | _,.int (n:=n) h0 h1=>by
   by_cases hn:n<0
   ·obtain ⟨u,rfl⟩:∃ u:Nat,n=-(u:Int):=⟨n.natAbs,by omega⟩
    have hne:Lib.decDigits u ≠ [48]:=fun e=>by
     have:=rD u
     rw [e] at this
     simp [JA] at this
     omega
    have hw:=WT.intN (n:=-(u:Int)) (w:=Lib.decDigits u) hn h0 hne
    have hr:tA (.mk 2 0 (-(u:Int)) [] [] [])=6:=by
     show (if (2:Int)=24 then 2 else if (2:Int)=21∨(2:Int)=25∨(2:Int)=28 then 3 else if (2:Int)=11∨((2:Int)=2∧-(u:Int)<0) then 6 else 7)=6
     rw [if_neg (by decide),if_neg (by decide),if_pos (.inr ⟨rfl,hn⟩)]
    rw [Has,hr]
    refine ⟨_,hw,?_,oD hw⟩
    rw [wr,qD]
    show cL (Lib.itoa (-(u:Int))) _
    rw [Lib.itoa_neg u (by omega),Int.neg_neg]
    exact wD (NV (by omega))
   ·obtain ⟨u,rfl⟩:∃ u:Nat,n=(u:Int):=⟨n.toNat,by omega⟩
    have hw:=WT.int (n:=(u:Int)) (w:=Lib.decDigits u) (by omega) (fun h=>by
     have:u=0:=by omega
     subst this
     unfold Lib.decDigits
     decide)
    have hr:tA (.mk 2 0 (u:Int) [] [] [])=7:=by
     show (if (2:Int)=24 then 2 else if (2:Int)=21∨(2:Int)=25∨(2:Int)=28 then 3 else if (2:Int)=11∨((2:Int)=2∧(u:Int)<0) then 6 else 7)=7
     rw [if_neg (by decide),if_neg (by decide),if_neg (by omega)]
    rw [Has,hr]
    refine ⟨_,hw,?_,oD hw⟩
    rw [wr,qD]
    show cL (Lib.itoa (u:Int)) _
    rw [Lib.itoa_nonneg]
    exact NV (by omega)
 | _,.tru=>⟨_,WT.tru,mQ (x:=wTrue) (by decide),by simp⟩
 | _,.fls=>⟨_,WT.fls,mQ (x:=wFalse) (by decide),by simp⟩
 | _,.text ht=>⟨_,WT.text,aAI ht,by simp⟩
 | _,.name ht=>⟨_,WT.name ht,qC ht,by simp⟩
 | _,.qual (t:=t) (q:=q) ht hq=>by
   have hw:=WT.qual ht hq
   refine ⟨_,hw,?_,oD hw⟩
   rw [wr,qD]
   show cL (if q=[] then t else q++46::t) _
   rw [if_neg (fun e=>by subst e; revert hq; decide)]
   refine aDw (qC hq) (fun rest k hr=>?_) fun rest _=>sY (by decide) _
   show pC (k+1+1) (46::(t++rest))=_
   have:=qC ht rest k hr
   rw [List.length_singleton] at this
   rw [mP 46 (by decide),this]
   rfl
theorem aMa:∀ {ks:List Tm},RD ks→aJu ks
 | _,.nil=>trivial
 | _,.cons ha hk=>⟨DJ ha,aMa hk⟩
end
theorem NW:∀ (k m:Nat) (s:List UInt8),s.length<k→s.length<m→pC k s=pC m s
 | 0,m,s,h,_=>by omega
 | k+1,0,s,_,h=>by omega
 | k+1,m+1,s,h1,h2=>by
   rw [pC,pC]
   by_cases he:(cP (s.dropWhile dU)).1=0∨(cP (s.dropWhile dU)).1=5
   ·rw [if_pos he,if_pos he]
   ·rw [if_neg he,if_neg he]
    obtain ⟨g1,g2⟩:=aBd (s.dropWhile dU)
    have g3:=(List.dropWhile_sublist (l:=s) dU).length_le
    have g4:1≤(cP (s.dropWhile dU)).2.1:=by
     rcases g2 with g | g | g
     ·exact absurd (.inl g) he
     ·exact absurd (.inr g) he
     ·exact g
    rw [NW k m _ (by rw [List.length_drop]; omega) (by rw [List.length_drop]; omega)]
theorem aJv {s:List UInt8} {w:List Tz} (h:cL s w):∃ l e,bX s=l++[e]∧er l=w∧e.kd=5:=by
 have h1:er (bX s)=pC (s.length+1) s:=aCd s (s.length+1) 0
 have h2:=h [] (s.length+1) aJs
 rw [List.append_nil] at h2
 rw [NW (s.length+1) (s.length+1+w.length) s (by omega) (by omega),h2] at h1
 obtain ⟨l,l2,e1,e2,e3⟩:=eI h1
 have h3:pC (s.length+1) []=[(5,[],[],0)]:=rfl
 rw [h3] at e3
 obtain ⟨e,l3,rfl,e4,e5⟩:=aW e3
 rw [eO e5] at e1
 exact ⟨l,e,e1,e2,congrArg (·.1) e4⟩
end Go.Proofs.Tryz
