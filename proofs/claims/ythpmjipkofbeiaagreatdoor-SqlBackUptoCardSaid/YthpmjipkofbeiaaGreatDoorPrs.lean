import Derived.Test.YthpmjipkofbeiaaGreatDoorUShn
import Derived.Test.YthpmjipkofbeiaaGreatDoorPtx
set_option linter.all false
namespace Go.Proofs.Tryz
open Go.Ab
set_option maxRecDepth 100000
set_option maxHeartbeats 2000000
def jZ:List (List UInt8):=[[115,101,108,101,99,116],[100,105,115,116,105,110,99,116],[97,108,108],[102,114,111,109],[119,104,101,114,101],[103,114,111,117,112],[98,121],[104,97,118,105,110,103],[97,115],[111,110],[117,110,105,111,110],[101,120,99,101,112,116],[105,110,116,101,114,115,101,99,116],[106,111,105,110],[105,110,110,101,114],[108,101,102,116],[114,105,103,104,116],[102,117,108,108],[99,114,111,115,115],[115,101,109,105],[97,110,116,105],[97,110,100],[111,114],[110,111,116],[105,115],[110,117,108,108],[116,114,117,101],[102,97,108,115,101],[105,110],[99,97,115,101],[119,104,101,110],[116,104,101,110],[101,108,115,101],[101,110,100],[118,97,108,117,101,115],[116,97,98,108,101],[112,114,105,109,97,114,121],[117,110,105,113,117,101],[102,111,114,101,105,103,110],[114,101,102,101,114,101,110,99,101,115],[99,104,101,99,107],[105,110,116],[98,111,111,108],[116,101,120,116],[99,111,117,110,116],[115,117,109],[109,105,110],[109,97,120],[99,111,97,108,101,115,99,101],[108,101,110,103,116,104],[115,97,109,101],[109,111,100]]
structure Tk where
 kd:Int
 rw:List UInt8
 tx:List UInt8
 n:Int
 fr:Nat
 to:Nat
abbrev cY (α:Type):=Except Nat (α×List Tk)
def isW (w:List UInt8):List Tk→Bool
 | []=>false
 | t::_=>(t.kd==1||t.kd==4)&&t.rw==w
def lN:List Tk→Nat
 | []=>0
 | t::_=>t.fr
def bN (ws:List (List UInt8)) (l:List Tk):Option Nat:=ws.findIdx? fun w=>isW w l
def cD (o:Int) (ks:List Tm):Tm:=.mk o 0 0 [] [] ks
def cW (part:List Tk→cY Tm) (sg:List (List UInt8)) (ops:List Int):Nat→Tm→List Tk→cY Tm
 | 0,out,l=>.ok (out,l)
 | k+1,out,l=>match bN sg l with
   | none=>.ok (out,l)
   | some i=>match part l.tail with
     | .error p=>.error p
     | .ok (t,l')=>cW part sg ops k (cD ((ops[i]?).getD 0) [out,t]) l'
def cQ:List (List UInt8)→List Tk→Except Nat (List Tk)
 | [],l=>.ok l
 | w::ws,l=>if isW w l=true then cQ ws l.tail else .error (lN l)
def aR {α β:Type} (r:Except Nat (α×List Tk)) (f:α→List Tk→cY β):cY β:=match r with
 | .error p=>.error p
 | .ok (t,l)=>f t l
def cR {β:Type} (r:Except Nat (List Tk)) (f:List Tk→cY β):cY β:=match r with
 | .error p=>.error p
 | .ok l=>f l
def tP (f:Tm→Tm) (r:cY Tm):cY Tm:=aR r fun t l=>.ok (f t,l)
def RI:List UInt8:=[111,114]
def tQ:List UInt8:=[97,110,100]
def wNot:List UInt8:=[110,111,116]
def wIs:List UInt8:=[105,115]
def wNull:List UInt8:=[110,117,108,108]
def wTrue:List UInt8:=[116,114,117,101]
def wFalse:List UInt8:=[102,97,108,115,101]
def wIn:List UInt8:=[105,110]
def bF:List UInt8:=[40]
def aY:List UInt8:=[41]
def bQ:List UInt8:=[44]
def qJ:List UInt8:=[46]
def fV:List UInt8:=[42]
def gB:List UInt8:=[45]
def wLength:List UInt8:=[108,101,110,103,116,104]
def wCoalesce:List UInt8:=[99,111,97,108,101,115,99,101]
def wCase:List UInt8:=[99,97,115,101]
def wWhen:List UInt8:=[119,104,101,110]
def wThen:List UInt8:=[116,104,101,110]
def wElse:List UInt8:=[101,108,115,101]
def wEnd:List UInt8:=[101,110,100]
def wCount:List UInt8:=[99,111,117,110,116]
def IM:List UInt8:=[115,117,109]
def IN:List UInt8:=[109,105,110]
def IO:List UInt8:=[109,97,120]
def aO:List UInt8:=[100,105,115,116,105,110,99,116]
def EQ:List UInt8:=[105,110,116]
def uD:List UInt8:=[98,111,111,108]
def uE:List UInt8:=[116,101,120,116]
def cmpW:List (List UInt8):=[[61],[60,62],[60],[60,61],[62],[62,61],[115,97,109,101]]
def mM:List (List UInt8):=[[43],[45],[124,124]]
def mC:List (List UInt8):=[[42],[47],[109,111,100]]
def fA (part:List Tk→cY Tm):Nat→List Tm→List Tk→cY (List Tm)
 | 0,ks,l=>.ok (ks,l)
 | k+1,ks,l=>if isW bQ l=true then aR (part l.tail) fun t l'=>fA part k (ks++[t]) l' else .ok (ks,l)
def kV (part:List Tk→cY Tm):Nat→List Tm→List Tk→cY (List Tm)
 | 0,ks,l=>.ok (ks,l)
 | k+1,ks,l=>cR (cQ [bQ] l) fun l1=>aR (part l1) fun t l2=>kV part k (ks++[t]) l2
def kG (part:List Tk→cY Tm) (m:Nat) (l:List Tk):cY (List Tm) :=
 cR (cQ [bF] l) fun l1=>aR (part l1) fun t l2=>aR (kV part m [t] l2) fun ks l3=>cR (cQ [aY] l3) fun l4=>.ok (ks,l4)
def jP (part:List Tk→cY Tm):List (List UInt8)→List Tm→List Tk→cY (List Tm)
 | [],ks,l=>.ok (ks,l)
 | w::ws,ks,l=>cR (cQ [w] l) fun l1=>aR (part l1) fun t l2=>jP part ws (ks++[t]) l2
def gJ (l:List Tk):cY (List UInt8):=match l with
 | []=>.error 0
 | t::r=>if t.kd=1∧bP jZ t.rw=true then .ok (t.rw,r) else .error t.fr
def aggW:List (List UInt8):=[wCount,IM,IN,IO]
def AF (i:Nat):Int:=(([2,4,5,6]:List Int)[i]?).getD 0
def oA (part:List Tk→cY Tm) (i:Nat) (l:List Tk):cY Tm :=
 cR (cQ [bF] l) fun l1 =>
  if i=0∧isW fV l1=true then cR (cQ [aY] l1.tail) fun l2=>.ok (.mk 41 0 1 [] [] [],l2)
  else if i=0∧isW aO l1=true then aR (part l1.tail) fun t l2=>cR (cQ [aY] l2) fun l3=>.ok (.mk 41 0 3 [] [] [t],l3)
  else aR (part l1) fun t l2=>cR (cQ [aY] l2) fun l3=>.ok (.mk 41 0 (AF i) [] [] [t],l3)
def eU:List Tk→Tk
 | []=>⟨0,[],[],0,0,0⟩
 | t::_=>t
def oM:List Tk→Bool
 | []=>false
 | t::_=>t.kd==2&&t.rw != [48]
def bA:Nat→Nat→List Tk→cY Tm
 | 0,_,l=>.error (lN l)
 | n+1,0,l=>aR (bA n 1 l) fun t l'=>cW (bA n 1) [RI] [23] l'.length t l'
 | n+1,1,l=>aR (bA n 2 l) fun t l'=>cW (bA n 2) [tQ] [22] l'.length t l'
 | n+1,2,l=>if isW wNot l=true then tP (fun t=>cD 24 [t]) (bA n 2 l.tail) else bA n 3 l
 | n+1,3,l=>aR (bA n 4 l) fun a l'=>match bN cmpW l' with
   | some i=>tP (fun b=>cD (14+i) [a,b]) (bA n 4 l'.tail)
   | none =>
     if isW wIs l'=true then
      if isW wNull l'.tail=true then .ok (cD 21 [a],l'.tail.tail)
      else if isW wTrue l'.tail=true then .ok (cD 25 [a],l'.tail.tail)
      else cR (cQ [wNot,wNull] l'.tail) fun l2=>.ok (cD 24 [cD 21 [a]],l2)
     else if isW wIn l'=true then
      cR (cQ [bF] l'.tail) fun l2=>aR (bA n 0 l2) fun b l3=>aR (fA (bA n 0) l3.length [a,b] l3) fun ks l4=>cR (cQ [aY] l4) fun l5=>.ok (cD 28 ks,l5)
     else .ok (a,l')
 | n+1,4,l=>aR (bA n 5 l) fun t l'=>cW (bA n 5) mM [6,7,12] l'.length t l'
 | n+1,5,l=>aR (bA n 6 l) fun t l'=>cW (bA n 6) mC [8,9,10] l'.length t l'
 | n+1,6,l =>
   if isW gB l=true then (if oM l.tail=true then .ok (.mk 2 0 (IntKind.i64.wrap (-(eU l.tail).n)) [] [] [],l.tail.tail) else tP (fun t=>cD 11 [t]) (bA n 6 l.tail)) else bA n 7 l
 | _+1,_+7,[]=>.error 0
 | n+1,_+7,t::r =>
   if t.kd=2 then .ok (.mk 2 0 t.n [] [] [],r)
   else if t.kd=3 then .ok (.mk 4 0 0 t.tx [] [],r)
   else if isW wTrue (t::r)=true then .ok (.mk 3 0 1 [] [] [],r)
   else if isW wFalse (t::r)=true then .ok (cD 3 [],r)
   else if isW wNull (t::r)=true then (match bN [EQ,uD,uE] r with
    | some i=>.ok (.mk 1 (1+i) 0 [] [] [],r.tail)
    | none=>.error (lN r))
   else if isW bF (t::r)=true then aR (bA n 0 r) fun t l2=>cR (cQ [aY] l2) fun l3=>.ok (t,l3)
   else if isW wLength (t::r)=true then aR (kG (bA n 0) 0 r) fun ks l2=>.ok (cD 13 ks,l2)
   else if isW wCoalesce (t::r)=true then aR (kG (bA n 0) 1 r) fun ks l2=>.ok (cD 27 ks,l2)
   else if isW wCase (t::r)=true then aR (jP (bA n 0) [wWhen,wThen,wElse] [] r) fun ks l2=>cR (cQ [wEnd] l2) fun l3=>.ok (cD 26 ks,l3)
   else match bN aggW (t::r) with
    | some i=>oA (bA n 0) i r
    | none=>aR (gJ (t::r)) fun a l1 =>
      if isW qJ l1=true then aR (gJ l1.tail) fun b l2=>.ok (.mk 40 0 0 b a [],l2) else .ok (.mk 40 0 0 a [] [],l1)
abbrev RS:=List Tk×Int
def dJ (w:List UInt8) (s:RS):Bool:=decide (s.2<0)&&isW w s.1
def aK (s:RS):RS:=if s.2<0 then (s.1.tail,s.2) else s
def jC (s:RS):RS:=if s.2<0 then (s.1,(lN s.1:Int)) else s
def aN (w:List UInt8) (s:RS):RS:=if dJ w s=true then aK s else jC s
def fR (ws:List (List UInt8)) (s:RS):Option Nat:=if s.2<0 then bN ws s.1 else none
def jV (s:RS):Bool:=decide (s.2<0)&&((eU s.1).kd==1&&bP jZ (eU s.1).tx)
def fK (s:RS):List UInt8×RS:=if jV s=true then ((eU s.1).tx,aK s) else ([],jC s)
def cX (part:RS→Tm×RS) (sg:List (List UInt8)) (ops:List Int):Nat→Tm→RS→Tm×RS
 | 0,out,s=>(out,s)
 | k+1,out,s=>match fR sg s with
   | none=>(out,s)
   | some i=>cX part sg ops k (cD ((ops[i]?).getD 0) [out,(part (aK s)).1]) (part (aK s)).2
def gK (part:RS→Tm×RS):Nat→List Tm→RS→List Tm×RS
 | 0,ks,s=>(ks,s)
 | k+1,ks,s=>if dJ bQ s=true then gK part k (ks++[(part (aK s)).1]) (part (aK s)).2 else (ks,s)
def zeT:Tm:=cD 0 []
def LL (part:RS→Tm×RS) (s:RS):Tm×RS:=match fR aggW s with
 | none=>(zeT,jC s)
 | some i =>
   let s1:=aN bF (aK s)
   if i=0∧dJ fV s1=true then (.mk 41 0 1 [] [] [],aN aY (aK s1))
   else if i=0∧dJ aO s1=true then (.mk 41 0 3 [] [] [(part (aK s1)).1],aN aY (part (aK s1)).2)
   else (.mk 41 0 (AF i) [] [] [(part s1).1],aN aY (part s1).2)
def IP (s:RS):Tm×RS:=match fR [EQ,uD,uE] s with
 | some i=>(.mk 1 (1+i) 0 [] [] [],aK s)
 | none=>(zeT,jC s)
def UY (part:RS→Tm×RS) (s:RS):Tm×RS :=
 let a:=part (aN wWhen s)
 let b:=part (aN wThen a.2)
 let c:=part (aN wElse b.2)
 (cD 26 [a.1,b.1,c.1],aN wEnd c.2)
def bK:Nat→Nat→RS→Tm×RS
 | 0,_,s=>(zeT,jC s)
 | n+1,0,s=>cX (bK n 1) [RI] [23] (bK n 1 s).2.1.length (bK n 1 s).1 (bK n 1 s).2
 | n+1,1,s=>cX (bK n 2) [tQ] [22] (bK n 2 s).2.1.length (bK n 2 s).1 (bK n 2 s).2
 | n+1,2,s=>if dJ wNot s=true then (cD 24 [(bK n 2 (aK s)).1],(bK n 2 (aK s)).2) else bK n 3 s
 | n+1,3,s =>
   let a:=bK n 4 s
   match fR cmpW a.2 with
   | some i=>(cD (14+i) [a.1,(bK n 4 (aK a.2)).1],(bK n 4 (aK a.2)).2)
   | none =>
     if dJ wIn a.2=true then
      let b:=bK n 0 (aN bF (aK a.2))
      let m:=gK (bK n 0) b.2.1.length [a.1,b.1] b.2
      (cD 28 m.1,aN aY m.2)
     else if dJ wIs a.2=true then
      let s2:=aK a.2
      if dJ wNull s2=true then (cD 21 [a.1],aK s2)
      else if dJ wTrue s2=true then (cD 25 [a.1],aK s2)
      else if dJ wNot s2=true then (cD 24 [cD 21 [a.1]],aN wNull (aK s2))
      else (a.1,jC s2)
     else a
 | n+1,4,s=>cX (bK n 5) mM [6,7,12] (bK n 5 s).2.1.length (bK n 5 s).1 (bK n 5 s).2
 | n+1,5,s=>cX (bK n 6) mC [8,9,10] (bK n 6 s).2.1.length (bK n 6 s).1 (bK n 6 s).2
 | n+1,6,s =>
   if dJ gB s=true then
    let s1:=aK s
    if s1.2<0∧(eU s1.1).kd=2∧(eU s1.1).n ≠ 0 then (.mk 2 0 (IntKind.i64.wrap (-(eU s1.1).n)) [] [] [],aK s1)
    else (cD 11 [(bK n 6 s1).1],(bK n 6 s1).2)
   else bK n 7 s
 | n+1,_+7,s =>
   if 0≤s.2 then (zeT,s)
   else if (eU s.1).kd=2 then (.mk 2 0 (eU s.1).n [] [] [],aK s)
   else if (eU s.1).kd=3 then (.mk 4 0 0 (eU s.1).tx [] [],aK s)
   else if jV s=true then
    let a:=fK s
    if dJ qJ a.2=true then (.mk 40 0 0 (fK (aK a.2)).1 a.1 [],(fK (aK a.2)).2) else (.mk 40 0 0 a.1 [] [],a.2)
   else if dJ bF s=true then ((bK n 0 (aK s)).1,aN aY (bK n 0 (aK s)).2)
   else if dJ wTrue s=true then (.mk 3 0 1 [] [] [],aK s)
   else if dJ wFalse s=true then (cD 3 [],aK s)
   else if dJ wNull s=true then IP (aK s)
   else if dJ wLength s=true then
    let a:=bK n 0 (aN bF (aK s))
    (cD 13 [a.1],aN aY a.2)
   else if dJ wCoalesce s=true then
    let a:=bK n 0 (aN bF (aK s))
    let b:=bK n 0 (aN bQ a.2)
    (cD 27 [a.1,b.1],aN aY b.2)
   else if dJ wCase s=true then UY (bK n 0) (aK s)
   else LL (bK n 0) s
theorem bU {α:Type} (l:List α):l.tail <:+ l:=List.tail_suffix l
def SfxOk {α:Type} (r:cY α) (l:List Tk):Prop:=∀ t l',r=.ok (t,l')→l' <:+ l
theorem SfxOk.err {α:Type} {l:List Tk} (p:Nat):SfxOk (.error p:cY α) l:=fun _ _ h=>by cases h
theorem SfxOk.ok {α:Type} {l l':List Tk} {t:α} (h:l' <:+ l):SfxOk (.ok (t,l'):cY α) l:=fun _ _ e=>by cases e; exact h
theorem SfxOk.up {α:Type} {r:cY α} {l l':List Tk} (h:SfxOk r l') (hl:l' <:+ l):SfxOk r l:=fun t m e=>(h t m e).trans hl
theorem gS {α β:Type} {r:cY α} {l:List Tk} {f:α→List Tk→cY β} (h:SfxOk r l) (hf:∀ t l',r=.ok (t,l')→SfxOk (f t l') l'):SfxOk (aR r f) l:=by
 cases hr:r with
 | error p=>exact .err p
 | ok x=>obtain ⟨t,l'⟩:=x; exact (hf t l' hr).up (h t l' hr)
theorem FL:∀ (ws:List (List UInt8)) (l l':List Tk),cQ ws l=.ok l'→l' <:+ l
 | [],l,l',h=>by cases h; exact List.suffix_refl _
 | w::ws,l,l',h=>by
   rw [cQ] at h
   split at h
   ·exact (FL ws _ _ h).trans (bU l)
   ·cases h
theorem rR {β:Type} {ws:List (List UInt8)} {l:List Tk} {f:List Tk→cY β} (hf:∀ l',SfxOk (f l') l'):SfxOk (cR (cQ ws l) f) l:=by
 cases hr:cQ ws l with
 | error p=>exact .err p
 | ok l'=>exact (hf l').up (FL _ _ _ hr)
theorem sN {part:List Tk→cY Tm} (hp:∀ l,SfxOk (part l) l) (sg:List (List UInt8)) (ops:List Int):∀ (k:Nat) (out:Tm) (l:List Tk),SfxOk (cW part sg ops k out l) l
 | 0,out,l=>.ok (List.suffix_refl _)
 | k+1,out,l=>by
   rw [cW]
   split
   ·exact .ok (List.suffix_refl _)
   ·split
    ·exact .err _
    ·rename_i t l' h
     exact (sN hp sg ops k _ l').up ((hp _ _ _ h).trans (bU l))
theorem AG {part:List Tk→cY Tm} (hp:∀ l,SfxOk (part l) l):∀ (k:Nat) (ks:List Tm) (l:List Tk),SfxOk (fA part k ks l) l
 | 0,ks,l=>.ok (List.suffix_refl _)
 | k+1,ks,l=>by
   rw [fA]
   split
   ·exact (gS (hp _) fun t l' _=>AG hp k _ l').up (bU l)
   ·exact .ok (List.suffix_refl _)
theorem IQ {part:List Tk→cY Tm} (hp:∀ l,SfxOk (part l) l):∀ (k:Nat) (ks:List Tm) (l:List Tk),SfxOk (kV part k ks l) l
 | 0,ks,l=>.ok (List.suffix_refl _)
 | k+1,ks,l=>by
   rw [kV]
   exact rR fun l1=>gS (hp l1) fun t l' _=>IQ hp k _ l'
theorem AH {part:List Tk→cY Tm} (hp:∀ l,SfxOk (part l) l) (m:Nat) (l:List Tk):SfxOk (kG part m l) l :=
 rR fun l1=>gS (hp l1) fun t l2 _=>gS (IQ hp m _ l2) fun ks l3 _=>rR fun l4=>.ok (List.suffix_refl _)
theorem IR {part:List Tk→cY Tm} (hp:∀ l,SfxOk (part l) l):∀ (ws:List (List UInt8)) (ks:List Tm) (l:List Tk),SfxOk (jP part ws ks l) l
 | [],ks,l=>.ok (List.suffix_refl _)
 | w::ws,ks,l=>by
   rw [jP]
   exact rR fun l1=>gS (hp l1) fun t l' _=>IR hp ws _ l'
theorem kH (l:List Tk):SfxOk (gJ l) l:=by
 unfold gJ
 split
 ·exact .err _
 ·split
  ·exact .ok (List.suffix_cons _ _)
  ·exact .err _
theorem aIf {part:List Tk→cY Tm} (hp:∀ l,SfxOk (part l) l) (i:Nat) (l:List Tk):SfxOk (oA part i l) l:=by
 unfold oA
 refine rR fun l1=>?_
 split
 ·exact (rR fun l2=>.ok (List.suffix_refl _)).up (bU l1)
 ·split
  ·exact (gS (hp _) fun t l2 _=>rR fun l3=>.ok (List.suffix_refl _)).up (bU l1)
  ·exact gS (hp _) fun t l2 _=>rR fun l3=>.ok (List.suffix_refl _)
theorem aV:∀ (n lvl:Nat) (l:List Tk),SfxOk (bA n lvl l) l
 | 0,lvl,l=>.err _
 | n+1,0,l=>by rw [bA]; exact gS (aV n 1 l) fun t l' _=>sN (aV n 1) _ _ _ _ l'
 | n+1,1,l=>by rw [bA]; exact gS (aV n 2 l) fun t l' _=>sN (aV n 2) _ _ _ _ l'
 | n+1,2,l=>by
   rw [bA]
   split
   ·exact (gS (aV n 2 _) fun t l' _=>.ok (List.suffix_refl _)).up (bU l)
   ·exact aV n 3 l
 | n+1,3,l=>by
   rw [bA]
   refine gS (aV n 4 l) fun a l' _=>?_
   split
   ·exact (gS (aV n 4 _) fun t l' _=>.ok (List.suffix_refl _)).up (bU l')
   ·split
    ·split
     ·exact .ok ((bU _).trans (bU l'))
     ·split
      ·exact .ok ((bU _).trans (bU l'))
      ·exact (rR fun l2=>.ok (List.suffix_refl _)).up (bU l')
    ·split
     ·exact (rR fun l2=>gS (aV n 0 l2) fun b l3 _=>gS (AG (aV n 0) _ _ l3) fun ks l4 _=>rR fun l5=>.ok (List.suffix_refl _)).up (bU l')
     ·exact .ok (List.suffix_refl _)
 | n+1,4,l=>by rw [bA]; exact gS (aV n 5 l) fun t l' _=>sN (aV n 5) _ _ _ _ l'
 | n+1,5,l=>by rw [bA]; exact gS (aV n 6 l) fun t l' _=>sN (aV n 6) _ _ _ _ l'
 | n+1,6,l=>by
   rw [bA]
   split
   ·split
    ·exact .ok ((bU _).trans (bU l))
    ·exact (gS (aV n 6 _) fun t l' _=>.ok (List.suffix_refl _)).up (bU l)
   ·exact aV n 7 l
 | n+1,m+7,[]=>by rw [bA]; exact .err _
 | n+1,m+7,t::r=>by
   have hr:r <:+ t::r:=List.suffix_cons _ _
   rw [bA]
   split
   ·exact .ok hr
   split
   ·exact .ok hr
   split
   ·exact .ok hr
   split
   ·exact .ok hr
   split
   ·split
    ·exact .ok ((bU r).trans hr)
    ·exact .err _
   split
   ·exact (gS (aV n 0 r) fun t l2 _=>rR fun l3=>.ok (List.suffix_refl _)).up hr
   split
   ·exact (gS (AH (aV n 0) _ r) fun t l2 _=>.ok (List.suffix_refl _)).up hr
   split
   ·exact (gS (AH (aV n 0) _ r) fun t l2 _=>.ok (List.suffix_refl _)).up hr
   split
   ·exact (gS (IR (aV n 0) _ _ r) fun t l2 _=>rR fun l3=>.ok (List.suffix_refl _)).up hr
   split
   ·exact (aIf (aV n 0) _ r).up hr
   ·refine gS (kH _) fun a l1 _=>?_
    split
    ·exact (gS (kH _) fun b l2 _=>.ok (List.suffix_refl _)).up (bU l1)
    ·exact .ok (List.suffix_refl _)
end Go.Proofs.Tryz
