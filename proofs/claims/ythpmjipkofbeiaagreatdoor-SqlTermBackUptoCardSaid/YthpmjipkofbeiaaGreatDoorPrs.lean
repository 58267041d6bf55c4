import Derived.Test.YthpmjipkofbeiaaGreatDoorTShy
import Derived.Test.YthpmjipkofbeiaaGreatDoorPtx
set_option linter.all false
namespace Go.Proofs.Tryz
open Go.Ab
set_option maxRecDepth 100000
set_option maxHeartbeats 2000000
def rsv:List (List UInt8):=[[115,101,108,101,99,116],[100,105,115,116,105,110,99,116],[97,108,108],[102,114,111,109],[119,104,101,114,101],[103,114,111,117,112],[98,121],[104,97,118,105,110,103],[97,115],[111,110],[117,110,105,111,110],[101,120,99,101,112,116],[105,110,116,101,114,115,101,99,116],[106,111,105,110],[105,110,110,101,114],[108,101,102,116],[114,105,103,104,116],[102,117,108,108],[99,114,111,115,115],[115,101,109,105],[97,110,116,105],[97,110,100],[111,114],[110,111,116],[105,115],[110,117,108,108],[116,114,117,101],[102,97,108,115,101],[105,110],[99,97,115,101],[119,104,101,110],[116,104,101,110],[101,108,115,101],[101,110,100],[118,97,108,117,101,115],[116,97,98,108,101],[112,114,105,109,97,114,121],[117,110,105,113,117,101],[102,111,114,101,105,103,110],[114,101,102,101,114,101,110,99,101,115],[99,104,101,99,107],[105,110,116],[98,111,111,108],[116,101,120,116],[99,111,117,110,116],[115,117,109],[109,105,110],[109,97,120],[99,111,97,108,101,115,99,101],[108,101,110,103,116,104],[115,97,109,101],[109,111,100]]
structure Tk where
 kd:Int
 rw:List UInt8
 tx:List UInt8
 n:Int
 fr:Nat
 to:Nat
abbrev Res (α:Type):=Except Nat (α×List Tk)
def isW (w:List UInt8):List Tk→Bool
 | []=>false
 | t::_=>(t.kd==1||t.kd==4)&&t.rw==w
def posT:List Tk→Nat
 | []=>0
 | t::_=>t.fr
def oneOf (ws:List (List UInt8)) (l:List Tk):Option Nat:=ws.findIdx? fun w=>isW w l
def mkT (o:Int) (ks:List Tm):Tm:=.mk o 0 0 [] [] ks
def chainS (part:List Tk→Res Tm) (sg:List (List UInt8)) (ops:List Int):Nat→Tm→List Tk→Res Tm
 | 0,out,l=>.ok (out,l)
 | k+1,out,l=>match oneOf sg l with
   | none=>.ok (out,l)
   | some i=>match part l.tail with
     | .error p=>.error p
     | .ok (t,l')=>chainS part sg ops k (mkT ((ops[i]?).getD 0) [out,t]) l'
def expS:List (List UInt8)→List Tk→Except Nat (List Tk)
 | [],l=>.ok l
 | w::ws,l=>if isW w l=true then expS ws l.tail else .error (posT l)
def bind2 {α β:Type} (r:Except Nat (α×List Tk)) (f:α→List Tk→Res β):Res β:=match r with
 | .error p=>.error p
 | .ok (t,l)=>f t l
def bind1 {β:Type} (r:Except Nat (List Tk)) (f:List Tk→Res β):Res β:=match r with
 | .error p=>.error p
 | .ok l=>f l
def mapT (f:Tm→Tm) (r:Res Tm):Res Tm:=bind2 r fun t l=>.ok (f t,l)
def wOr:List UInt8:=[111,114]
def wAnd:List UInt8:=[97,110,100]
def wNot:List UInt8:=[110,111,116]
def wIs:List UInt8:=[105,115]
def wNull:List UInt8:=[110,117,108,108]
def wTrue:List UInt8:=[116,114,117,101]
def wFalse:List UInt8:=[102,97,108,115,101]
def wIn:List UInt8:=[105,110]
def wOpen:List UInt8:=[40]
def wShut:List UInt8:=[41]
def wComma:List UInt8:=[44]
def wDot:List UInt8:=[46]
def wStar:List UInt8:=[42]
def wMinus:List UInt8:=[45]
def wLength:List UInt8:=[108,101,110,103,116,104]
def wCoalesce:List UInt8:=[99,111,97,108,101,115,99,101]
def wCase:List UInt8:=[99,97,115,101]
def wWhen:List UInt8:=[119,104,101,110]
def wThen:List UInt8:=[116,104,101,110]
def wElse:List UInt8:=[101,108,115,101]
def wEnd:List UInt8:=[101,110,100]
def wCount:List UInt8:=[99,111,117,110,116]
def wSum:List UInt8:=[115,117,109]
def wMin:List UInt8:=[109,105,110]
def wMax:List UInt8:=[109,97,120]
def wDistinct:List UInt8:=[100,105,115,116,105,110,99,116]
def wInt:List UInt8:=[105,110,116]
def wBool:List UInt8:=[98,111,111,108]
def wText:List UInt8:=[116,101,120,116]
def cmpW:List (List UInt8):=[[61],[60,62],[60],[60,61],[62],[62,61],[115,97,109,101]]
def addW:List (List UInt8):=[[43],[45],[124,124]]
def mulW:List (List UInt8):=[[42],[47],[109,111,100]]
def moreS (part:List Tk→Res Tm):Nat→List Tm→List Tk→Res (List Tm)
 | 0,ks,l=>.ok (ks,l)
 | k+1,ks,l=>if isW wComma l=true then bind2 (part l.tail) fun t l'=>moreS part k (ks++[t]) l' else .ok (ks,l)
def restS (part:List Tk→Res Tm):Nat→List Tm→List Tk→Res (List Tm)
 | 0,ks,l=>.ok (ks,l)
 | k+1,ks,l=>bind1 (expS [wComma] l) fun l1=>bind2 (part l1) fun t l2=>restS part k (ks++[t]) l2
def listS (part:List Tk→Res Tm) (m:Nat) (l:List Tk):Res (List Tm) :=
 bind1 (expS [wOpen] l) fun l1=>bind2 (part l1) fun t l2=>bind2 (restS part m [t] l2) fun ks l3=>bind1 (expS [wShut] l3) fun l4=>.ok (ks,l4)
def caseS (part:List Tk→Res Tm):List (List UInt8)→List Tm→List Tk→Res (List Tm)
 | [],ks,l=>.ok (ks,l)
 | w::ws,ks,l=>bind1 (expS [w] l) fun l1=>bind2 (part l1) fun t l2=>caseS part ws (ks++[t]) l2
def nameS (l:List Tk):Res (List UInt8):=match l with
 | []=>.error 0
 | t::r=>if t.kd=1∧nameOk rsv t.rw=true then .ok (t.rw,r) else .error t.fr
def aggW:List (List UInt8):=[wCount,wSum,wMin,wMax]
def aggF (i:Nat):Int:=(([2,4,5,6]:List Int)[i]?).getD 0
def aggS (part:List Tk→Res Tm) (i:Nat) (l:List Tk):Res Tm :=
 bind1 (expS [wOpen] l) fun l1 =>
  if i=0∧isW wStar l1=true then bind1 (expS [wShut] l1.tail) fun l2=>.ok (.mk 41 0 1 [] [] [],l2)
  else if i=0∧isW wDistinct l1=true then bind2 (part l1.tail) fun t l2=>bind1 (expS [wShut] l2) fun l3=>.ok (.mk 41 0 3 [] [] [t],l3)
  else bind2 (part l1) fun t l2=>bind1 (expS [wShut] l2) fun l3=>.ok (.mk 41 0 (aggF i) [] [] [t],l3)
def hdT:List Tk→Tk
 | []=>⟨0,[],[],0,0,0⟩
 | t::_=>t
def isNum:List Tk→Bool
 | []=>false
 | t::_=>t.kd==2&&t.rw != [48]
def parP:Nat→Nat→List Tk→Res Tm
 | 0,_,l=>.error (posT l)
 | n+1,0,l=>bind2 (parP n 1 l) fun t l'=>chainS (parP n 1) [wOr] [23] l'.length t l'
 | n+1,1,l=>bind2 (parP n 2 l) fun t l'=>chainS (parP n 2) [wAnd] [22] l'.length t l'
 | n+1,2,l=>if isW wNot l=true then mapT (fun t=>mkT 24 [t]) (parP n 2 l.tail) else parP n 3 l
 | n+1,3,l=>bind2 (parP n 4 l) fun a l'=>match oneOf cmpW l' with
   | some i=>mapT (fun b=>mkT (14+i) [a,b]) (parP n 4 l'.tail)
   | none =>
     if isW wIs l'=true then
      if isW wNull l'.tail=true then .ok (mkT 21 [a],l'.tail.tail)
      else if isW wTrue l'.tail=true then .ok (mkT 25 [a],l'.tail.tail)
      else bind1 (expS [wNot,wNull] l'.tail) fun l2=>.ok (mkT 24 [mkT 21 [a]],l2)
     else if isW wIn l'=true then
      bind1 (expS [wOpen] l'.tail) fun l2=>bind2 (parP n 0 l2) fun b l3=>bind2 (moreS (parP n 0) l3.length [a,b] l3) fun ks l4=>bind1 (expS [wShut] l4) fun l5=>.ok (mkT 28 ks,l5)
     else .ok (a,l')
 | n+1,4,l=>bind2 (parP n 5 l) fun t l'=>chainS (parP n 5) addW [6,7,12] l'.length t l'
 | n+1,5,l=>bind2 (parP n 6 l) fun t l'=>chainS (parP n 6) mulW [8,9,10] l'.length t l'
 | n+1,6,l =>
   if isW wMinus l=true then (if isNum l.tail=true then .ok (.mk 2 0 (IntKind.i64.wrap (-(hdT l.tail).n)) [] [] [],l.tail.tail) else mapT (fun t=>mkT 11 [t]) (parP n 6 l.tail)) else parP n 7 l
 | _+1,_+7,[]=>.error 0
 | n+1,_+7,t::r =>
   if t.kd=2 then .ok (.mk 2 0 t.n [] [] [],r)
   else if t.kd=3 then .ok (.mk 4 0 0 t.tx [] [],r)
   else if isW wTrue (t::r)=true then .ok (.mk 3 0 1 [] [] [],r)
   else if isW wFalse (t::r)=true then .ok (mkT 3 [],r)
   else if isW wNull (t::r)=true then (match oneOf [wInt,wBool,wText] r with
    | some i=>.ok (.mk 1 (1+i) 0 [] [] [],r.tail)
    | none=>.error (posT r))
   else if isW wOpen (t::r)=true then bind2 (parP n 0 r) fun t l2=>bind1 (expS [wShut] l2) fun l3=>.ok (t,l3)
   else if isW wLength (t::r)=true then bind2 (listS (parP n 0) 0 r) fun ks l2=>.ok (mkT 13 ks,l2)
   else if isW wCoalesce (t::r)=true then bind2 (listS (parP n 0) 1 r) fun ks l2=>.ok (mkT 27 ks,l2)
   else if isW wCase (t::r)=true then bind2 (caseS (parP n 0) [wWhen,wThen,wElse] [] r) fun ks l2=>bind1 (expS [wEnd] l2) fun l3=>.ok (mkT 26 ks,l3)
   else match oneOf aggW (t::r) with
    | some i=>aggS (parP n 0) i r
    | none=>bind2 (nameS (t::r)) fun a l1 =>
      if isW wDot l1=true then bind2 (nameS l1.tail) fun b l2=>.ok (.mk 40 0 0 b a [],l2) else .ok (.mk 40 0 0 a [] [],l1)
abbrev RS:=List Tk×Int
def rIs (w:List UInt8) (s:RS):Bool:=decide (s.2<0)&&isW w s.1
def rNext (s:RS):RS:=if s.2<0 then (s.1.tail,s.2) else s
def rFail (s:RS):RS:=if s.2<0 then (s.1,(posT s.1:Int)) else s
def rWant (w:List UInt8) (s:RS):RS:=if rIs w s=true then rNext s else rFail s
def rOne (ws:List (List UInt8)) (s:RS):Option Nat:=if s.2<0 then oneOf ws s.1 else none
def rNamed (s:RS):Bool:=decide (s.2<0)&&((hdT s.1).kd==1&&nameOk rsv (hdT s.1).tx)
def rName (s:RS):List UInt8×RS:=if rNamed s=true then ((hdT s.1).tx,rNext s) else ([],rFail s)
def chainR (part:RS→Tm×RS) (sg:List (List UInt8)) (ops:List Int):Nat→Tm→RS→Tm×RS
 | 0,out,s=>(out,s)
 | k+1,out,s=>match rOne sg s with
   | none=>(out,s)
   | some i=>chainR part sg ops k (mkT ((ops[i]?).getD 0) [out,(part (rNext s)).1]) (part (rNext s)).2
def moreR (part:RS→Tm×RS):Nat→List Tm→RS→List Tm×RS
 | 0,ks,s=>(ks,s)
 | k+1,ks,s=>if rIs wComma s=true then moreR part k (ks++[(part (rNext s)).1]) (part (rNext s)).2 else (ks,s)
def zeT:Tm:=mkT 0 []
def aggR (part:RS→Tm×RS) (s:RS):Tm×RS:=match rOne aggW s with
 | none=>(zeT,rFail s)
 | some i =>
   let s1:=rWant wOpen (rNext s)
   if i=0∧rIs wStar s1=true then (.mk 41 0 1 [] [] [],rWant wShut (rNext s1))
   else if i=0∧rIs wDistinct s1=true then (.mk 41 0 3 [] [] [(part (rNext s1)).1],rWant wShut (part (rNext s1)).2)
   else (.mk 41 0 (aggF i) [] [] [(part s1).1],rWant wShut (part s1).2)
def nullR (s:RS):Tm×RS:=match rOne [wInt,wBool,wText] s with
 | some i=>(.mk 1 (1+i) 0 [] [] [],rNext s)
 | none=>(zeT,rFail s)
def caseR (part:RS→Tm×RS) (s:RS):Tm×RS :=
 let a:=part (rWant wWhen s)
 let b:=part (rWant wThen a.2)
 let c:=part (rWant wElse b.2)
 (mkT 26 [a.1,b.1,c.1],rWant wEnd c.2)
def parR:Nat→Nat→RS→Tm×RS
 | 0,_,s=>(zeT,rFail s)
 | n+1,0,s=>chainR (parR n 1) [wOr] [23] (parR n 1 s).2.1.length (parR n 1 s).1 (parR n 1 s).2
 | n+1,1,s=>chainR (parR n 2) [wAnd] [22] (parR n 2 s).2.1.length (parR n 2 s).1 (parR n 2 s).2
 | n+1,2,s=>if rIs wNot s=true then (mkT 24 [(parR n 2 (rNext s)).1],(parR n 2 (rNext s)).2) else parR n 3 s
 | n+1,3,s =>
   let a:=parR n 4 s
   match rOne cmpW a.2 with
   | some i=>(mkT (14+i) [a.1,(parR n 4 (rNext a.2)).1],(parR n 4 (rNext a.2)).2)
   | none =>
     if rIs wIn a.2=true then
      let b:=parR n 0 (rWant wOpen (rNext a.2))
      let m:=moreR (parR n 0) b.2.1.length [a.1,b.1] b.2
      (mkT 28 m.1,rWant wShut m.2)
     else if rIs wIs a.2=true then
      let s2:=rNext a.2
      if rIs wNull s2=true then (mkT 21 [a.1],rNext s2)
      else if rIs wTrue s2=true then (mkT 25 [a.1],rNext s2)
      else if rIs wNot s2=true then (mkT 24 [mkT 21 [a.1]],rWant wNull (rNext s2))
      else (a.1,rFail s2)
     else a
 | n+1,4,s=>chainR (parR n 5) addW [6,7,12] (parR n 5 s).2.1.length (parR n 5 s).1 (parR n 5 s).2
 | n+1,5,s=>chainR (parR n 6) mulW [8,9,10] (parR n 6 s).2.1.length (parR n 6 s).1 (parR n 6 s).2
 | n+1,6,s =>
   if rIs wMinus s=true then
    let s1:=rNext s
    if s1.2<0∧(hdT s1.1).kd=2∧(hdT s1.1).n ≠ 0 then (.mk 2 0 (IntKind.i64.wrap (-(hdT s1.1).n)) [] [] [],rNext s1)
    else (mkT 11 [(parR n 6 s1).1],(parR n 6 s1).2)
   else parR n 7 s
 | n+1,_+7,s =>
   if 0≤s.2 then (zeT,s)
   else if (hdT s.1).kd=2 then (.mk 2 0 (hdT s.1).n [] [] [],rNext s)
   else if (hdT s.1).kd=3 then (.mk 4 0 0 (hdT s.1).tx [] [],rNext s)
   else if rNamed s=true then
    let a:=rName s
    if rIs wDot a.2=true then (.mk 40 0 0 (rName (rNext a.2)).1 a.1 [],(rName (rNext a.2)).2) else (.mk 40 0 0 a.1 [] [],a.2)
   else if rIs wOpen s=true then ((parR n 0 (rNext s)).1,rWant wShut (parR n 0 (rNext s)).2)
   else if rIs wTrue s=true then (.mk 3 0 1 [] [] [],rNext s)
   else if rIs wFalse s=true then (mkT 3 [],rNext s)
   else if rIs wNull s=true then nullR (rNext s)
   else if rIs wLength s=true then
    let a:=parR n 0 (rWant wOpen (rNext s))
    (mkT 13 [a.1],rWant wShut a.2)
   else if rIs wCoalesce s=true then
    let a:=parR n 0 (rWant wOpen (rNext s))
    let b:=parR n 0 (rWant wComma a.2)
    (mkT 27 [a.1,b.1],rWant wShut b.2)
   else if rIs wCase s=true then caseR (parR n 0) (rNext s)
   else aggR (parR n 0) s
theorem tail_sfx {α:Type} (l:List α):l.tail <:+ l:=List.tail_suffix l
def SfxOk {α:Type} (r:Res α) (l:List Tk):Prop:=∀ t l',r=.ok (t,l')→l' <:+ l
theorem SfxOk.err {α:Type} {l:List Tk} (p:Nat):SfxOk (.error p:Res α) l:=fun _ _ h=>by cases h
theorem SfxOk.ok {α:Type} {l l':List Tk} {t:α} (h:l' <:+ l):SfxOk (.ok (t,l'):Res α) l:=fun _ _ e=>by cases e; exact h
theorem SfxOk.up {α:Type} {r:Res α} {l l':List Tk} (h:SfxOk r l') (hl:l' <:+ l):SfxOk r l:=fun t m e=>(h t m e).trans hl
theorem sfx2 {α β:Type} {r:Res α} {l:List Tk} {f:α→List Tk→Res β} (h:SfxOk r l) (hf:∀ t l',r=.ok (t,l')→SfxOk (f t l') l'):SfxOk (bind2 r f) l:=by
 cases hr:r with
 | error p=>exact .err p
 | ok x=>obtain ⟨t,l'⟩:=x; exact (hf t l' hr).up (h t l' hr)
theorem exp_sfx:∀ (ws:List (List UInt8)) (l l':List Tk),expS ws l=.ok l'→l' <:+ l
 | [],l,l',h=>by cases h; exact List.suffix_refl _
 | w::ws,l,l',h=>by
   rw [expS] at h
   split at h
   ·exact (exp_sfx ws _ _ h).trans (tail_sfx l)
   ·cases h
theorem sfx1 {β:Type} {ws:List (List UInt8)} {l:List Tk} {f:List Tk→Res β} (hf:∀ l',SfxOk (f l') l'):SfxOk (bind1 (expS ws l) f) l:=by
 cases hr:expS ws l with
 | error p=>exact .err p
 | ok l'=>exact (hf l').up (exp_sfx _ _ _ hr)
theorem chain_sfx {part:List Tk→Res Tm} (hp:∀ l,SfxOk (part l) l) (sg:List (List UInt8)) (ops:List Int):∀ (k:Nat) (out:Tm) (l:List Tk),SfxOk (chainS part sg ops k out l) l
 | 0,out,l=>.ok (List.suffix_refl _)
 | k+1,out,l=>by
   rw [chainS]
   split
   ·exact .ok (List.suffix_refl _)
   ·split
    ·exact .err _
    ·rename_i t l' h
     exact (chain_sfx hp sg ops k _ l').up ((hp _ _ _ h).trans (tail_sfx l))
theorem more_sfx {part:List Tk→Res Tm} (hp:∀ l,SfxOk (part l) l):∀ (k:Nat) (ks:List Tm) (l:List Tk),SfxOk (moreS part k ks l) l
 | 0,ks,l=>.ok (List.suffix_refl _)
 | k+1,ks,l=>by
   rw [moreS]
   split
   ·exact (sfx2 (hp _) fun t l' _=>more_sfx hp k _ l').up (tail_sfx l)
   ·exact .ok (List.suffix_refl _)
theorem rest_sfx {part:List Tk→Res Tm} (hp:∀ l,SfxOk (part l) l):∀ (k:Nat) (ks:List Tm) (l:List Tk),SfxOk (restS part k ks l) l
 | 0,ks,l=>.ok (List.suffix_refl _)
 | k+1,ks,l=>by
   rw [restS]
   exact sfx1 fun l1=>sfx2 (hp l1) fun t l' _=>rest_sfx hp k _ l'
theorem list_sfx {part:List Tk→Res Tm} (hp:∀ l,SfxOk (part l) l) (m:Nat) (l:List Tk):SfxOk (listS part m l) l :=
 sfx1 fun l1=>sfx2 (hp l1) fun t l2 _=>sfx2 (rest_sfx hp m _ l2) fun ks l3 _=>sfx1 fun l4=>.ok (List.suffix_refl _)
theorem case_sfx {part:List Tk→Res Tm} (hp:∀ l,SfxOk (part l) l):∀ (ws:List (List UInt8)) (ks:List Tm) (l:List Tk),SfxOk (caseS part ws ks l) l
 | [],ks,l=>.ok (List.suffix_refl _)
 | w::ws,ks,l=>by
   rw [caseS]
   exact sfx1 fun l1=>sfx2 (hp l1) fun t l' _=>case_sfx hp ws _ l'
theorem name_sfx (l:List Tk):SfxOk (nameS l) l:=by
 unfold nameS
 split
 ·exact .err _
 ·split
  ·exact .ok (List.suffix_cons _ _)
  ·exact .err _
theorem agg_sfx {part:List Tk→Res Tm} (hp:∀ l,SfxOk (part l) l) (i:Nat) (l:List Tk):SfxOk (aggS part i l) l:=by
 unfold aggS
 refine sfx1 fun l1=>?_
 split
 ·exact (sfx1 fun l2=>.ok (List.suffix_refl _)).up (tail_sfx l1)
 ·split
  ·exact (sfx2 (hp _) fun t l2 _=>sfx1 fun l3=>.ok (List.suffix_refl _)).up (tail_sfx l1)
  ·exact sfx2 (hp _) fun t l2 _=>sfx1 fun l3=>.ok (List.suffix_refl _)
theorem par_sfx:∀ (n lvl:Nat) (l:List Tk),SfxOk (parP n lvl l) l
 | 0,lvl,l=>.err _
 | n+1,0,l=>by rw [parP]; exact sfx2 (par_sfx n 1 l) fun t l' _=>chain_sfx (par_sfx n 1) _ _ _ _ l'
 | n+1,1,l=>by rw [parP]; exact sfx2 (par_sfx n 2 l) fun t l' _=>chain_sfx (par_sfx n 2) _ _ _ _ l'
 | n+1,2,l=>by
   rw [parP]
   split
   ·exact (sfx2 (par_sfx n 2 _) fun t l' _=>.ok (List.suffix_refl _)).up (tail_sfx l)
   ·exact par_sfx n 3 l
 | n+1,3,l=>by
   rw [parP]
   refine sfx2 (par_sfx n 4 l) fun a l' _=>?_
   split
   ·exact (sfx2 (par_sfx n 4 _) fun t l' _=>.ok (List.suffix_refl _)).up (tail_sfx l')
   ·split
    ·split
     ·exact .ok ((tail_sfx _).trans (tail_sfx l'))
     ·split
      ·exact .ok ((tail_sfx _).trans (tail_sfx l'))
      ·exact (sfx1 fun l2=>.ok (List.suffix_refl _)).up (tail_sfx l')
    ·split
     ·exact (sfx1 fun l2=>sfx2 (par_sfx n 0 l2) fun b l3 _=>sfx2 (more_sfx (par_sfx n 0) _ _ l3) fun ks l4 _=>sfx1 fun l5=>.ok (List.suffix_refl _)).up (tail_sfx l')
     ·exact .ok (List.suffix_refl _)
 | n+1,4,l=>by rw [parP]; exact sfx2 (par_sfx n 5 l) fun t l' _=>chain_sfx (par_sfx n 5) _ _ _ _ l'
 | n+1,5,l=>by rw [parP]; exact sfx2 (par_sfx n 6 l) fun t l' _=>chain_sfx (par_sfx n 6) _ _ _ _ l'
 | n+1,6,l=>by
   rw [parP]
   split
   ·split
    ·exact .ok ((tail_sfx _).trans (tail_sfx l))
    ·exact (sfx2 (par_sfx n 6 _) fun t l' _=>.ok (List.suffix_refl _)).up (tail_sfx l)
   ·exact par_sfx n 7 l
 | n+1,m+7,[]=>by rw [parP]; exact .err _
 | n+1,m+7,t::r=>by
   have hr:r <:+ t::r:=List.suffix_cons _ _
   rw [parP]
   split
   ·exact .ok hr
   split
   ·exact .ok hr
   split
   ·exact .ok hr
   split
   ·exact .ok hr
   split
   ·split
    ·exact .ok ((tail_sfx r).trans hr)
    ·exact .err _
   split
   ·exact (sfx2 (par_sfx n 0 r) fun t l2 _=>sfx1 fun l3=>.ok (List.suffix_refl _)).up hr
   split
   ·exact (sfx2 (list_sfx (par_sfx n 0) _ r) fun t l2 _=>.ok (List.suffix_refl _)).up hr
   split
   ·exact (sfx2 (list_sfx (par_sfx n 0) _ r) fun t l2 _=>.ok (List.suffix_refl _)).up hr
   split
   ·exact (sfx2 (case_sfx (par_sfx n 0) _ _ r) fun t l2 _=>sfx1 fun l3=>.ok (List.suffix_refl _)).up hr
   split
   ·exact (agg_sfx (par_sfx n 0) _ r).up hr
   ·refine sfx2 (name_sfx _) fun a l1 _=>?_
    split
    ·exact (sfx2 (name_sfx _) fun b l2 _=>.ok (List.suffix_refl _)).up (tail_sfx l1)
    ·exact .ok (List.suffix_refl _)
end Go.Proofs.Tryz
