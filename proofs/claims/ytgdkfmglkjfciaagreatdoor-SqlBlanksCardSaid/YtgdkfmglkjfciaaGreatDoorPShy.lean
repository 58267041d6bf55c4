import Derived.Test.YtgdkfmglkjfciaaGreatDoorPShb
import Derived.Test.YtgdkfmglkjfciaaGreatDoorPPtx
import Derived.Shelf.Strings.Search3
import Derived.Test.YtgdkfmglkjfciaaGreatDoorProg
set_option linter.all false
namespace Go.Proofs.Tryz
open Go.Ab
set_option maxRecDepth 100000
set_option maxHeartbeats 4000000
def rsv:List (List UInt8):=[[115,101,108,101,99,116],[100,105,115,116,105,110,99,116],[97,108,108],[102,114,111,109],[119,104,101,114,101],[103,114,111,117,112],[98,121],[104,97,118,105,110,103],[97,115],[111,110],[117,110,105,111,110],[101,120,99,101,112,116],[105,110,116,101,114,115,101,99,116],[106,111,105,110],[105,110,110,101,114],[108,101,102,116],[114,105,103,104,116],[102,117,108,108],[99,114,111,115,115],[115,101,109,105],[97,110,116,105],[97,110,100],[111,114],[110,111,116],[105,115],[110,117,108,108],[116,114,117,101],[102,97,108,115,101],[105,110],[99,97,115,101],[119,104,101,110],[116,104,101,110],[101,108,115,101],[101,110,100],[118,97,108,117,101,115],[116,97,98,108,101],[112,114,105,109,97,114,121],[117,110,105,113,117,101],[102,111,114,101,105,103,110],[114,101,102,101,114,101,110,99,101,115],[99,104,101,99,107],[105,110,116],[98,111,111,108],[116,101,120,116],[99,111,117,110,116],[115,117,109],[109,105,110],[109,97,120],[99,111,97,108,101,115,99,101],[108,101,110,103,116,104],[115,97,109,101],[109,111,100]]
structure Tk where
 kd:Int
 rw:List UInt8
 tx:List UInt8
 n:Int
 fr:Nat
 to:Nat
abbrev Res (α:Type):=Except Nat (α×List Tk)
def isW (w:List UInt8):List Tk→Bool
 | []=>false
 | t::_=>(t.kd==1||t.kd==4)&&t.rw==w
def posT:List Tk→Nat
 | []=>0
 | t::_=>t.fr
def oneOf (ws:List (List UInt8)) (l:List Tk):Option Nat:=ws.findIdx? fun w=>isW w l
def mkT (o:Int) (ks:List Tm):Tm:=.mk o 0 0 [] [] ks
def chainS (part:List Tk→Res Tm) (sg:List (List UInt8)) (ops:List Int):Nat→Tm→List Tk→Res Tm
 | 0,out,l=>.ok (out,l)
 | k+1,out,l=>match oneOf sg l with
   | none=>.ok (out,l)
   | some i=>match part l.tail with
     | .error p=>.error p
     | .ok (t,l')=>chainS part sg ops k (mkT ((ops[i]?).getD 0) [out,t]) l'
def expS:List (List UInt8)→List Tk→Except Nat (List Tk)
 | [],l=>.ok l
 | w::ws,l=>if isW w l=true then expS ws l.tail else .error (posT l)
def bind2 {α β:Type} (r:Except Nat (α×List Tk)) (f:α→List Tk→Res β):Res β:=match r with
 | .error p=>.error p
 | .ok (t,l)=>f t l
def bind1 {β:Type} (r:Except Nat (List Tk)) (f:List Tk→Res β):Res β:=match r with
 | .error p=>.error p
 | .ok l=>f l
def mapT (f:Tm→Tm) (r:Res Tm):Res Tm:=bind2 r fun t l=>.ok (f t,l)
def wOr:List UInt8:=[111,114]
def wAnd:List UInt8:=[97,110,100]
def wNot:List UInt8:=[110,111,116]
def wIs:List UInt8:=[105,115]
def wNull:List UInt8:=[110,117,108,108]
def wTrue:List UInt8:=[116,114,117,101]
def wFalse:List UInt8:=[102,97,108,115,101]
def wIn:List UInt8:=[105,110]
def wOpen:List UInt8:=[40]
def wShut:List UInt8:=[41]
def wComma:List UInt8:=[44]
def wDot:List UInt8:=[46]
def wStar:List UInt8:=[42]
def wMinus:List UInt8:=[45]
def wLength:List UInt8:=[108,101,110,103,116,104]
def wCoalesce:List UInt8:=[99,111,97,108,101,115,99,101]
def wCase:List UInt8:=[99,97,115,101]
def wWhen:List UInt8:=[119,104,101,110]
def wThen:List UInt8:=[116,104,101,110]
def wElse:List UInt8:=[101,108,115,101]
def wEnd:List UInt8:=[101,110,100]
def wCount:List UInt8:=[99,111,117,110,116]
def wSum:List UInt8:=[115,117,109]
def wMin:List UInt8:=[109,105,110]
def wMax:List UInt8:=[109,97,120]
def wDistinct:List UInt8:=[100,105,115,116,105,110,99,116]
def wInt:List UInt8:=[105,110,116]
def wBool:List UInt8:=[98,111,111,108]
def wText:List UInt8:=[116,101,120,116]
def cmpW:List (List UInt8):=[[61],[60,62],[60],[60,61],[62],[62,61],[115,97,109,101]]
def addW:List (List UInt8):=[[43],[45],[124,124]]
def mulW:List (List UInt8):=[[42],[47],[109,111,100]]
def moreS (part:List Tk→Res Tm):Nat→List Tm→List Tk→Res (List Tm)
 | 0,ks,l=>.ok (ks,l)
 | k+1,ks,l=>if isW wComma l=true then bind2 (part l.tail) fun t l'=>moreS part k (ks++[t]) l' else .ok (ks,l)
def restS (part:List Tk→Res Tm):Nat→List Tm→List Tk→Res (List Tm)
 | 0,ks,l=>.ok (ks,l)
 | k+1,ks,l=>bind1 (expS [wComma] l) fun l1=>bind2 (part l1) fun t l2=>restS part k (ks++[t]) l2
def listS (part:List Tk→Res Tm) (m:Nat) (l:List Tk):Res (List Tm) :=
 bind1 (expS [wOpen] l) fun l1=>bind2 (part l1) fun t l2=>bind2 (restS part m [t] l2) fun ks l3=>bind1 (expS [wShut] l3) fun l4=>.ok (ks,l4)
def caseS (part:List Tk→Res Tm):List (List UInt8)→List Tm→List Tk→Res (List Tm)
 | [],ks,l=>.ok (ks,l)
 | w::ws,ks,l=>bind1 (expS [w] l) fun l1=>bind2 (part l1) fun t l2=>caseS part ws (ks++[t]) l2
def nameS (l:List Tk):Res (List UInt8):=match l with
 | []=>.error 0
 | t::r=>if t.kd=1∧nameOk rsv t.rw=true then .ok (t.rw,r) else .error t.fr
def aggW:List (List UInt8):=[wCount,wSum,wMin,wMax]
def aggF (i:Nat):Int:=(([2,4,5,6]:List Int)[i]?).getD 0
def aggS (part:List Tk→Res Tm) (i:Nat) (l:List Tk):Res Tm :=
 bind1 (expS [wOpen] l) fun l1 =>
  if i=0∧isW wStar l1=true then bind1 (expS [wShut] l1.tail) fun l2=>.ok (.mk 41 0 1 [] [] [],l2)
  else if i=0∧isW wDistinct l1=true then bind2 (part l1.tail) fun t l2=>bind1 (expS [wShut] l2) fun l3=>.ok (.mk 41 0 3 [] [] [t],l3)
  else bind2 (part l1) fun t l2=>bind1 (expS [wShut] l2) fun l3=>.ok (.mk 41 0 (aggF i) [] [] [t],l3)
def hdT:List Tk→Tk
 | []=>⟨0,[],[],0,0,0⟩
 | t::_=>t
def isNum:List Tk→Bool
 | []=>false
 | t::_=>t.kd==2&&t.rw != [48]
def parP:Nat→Nat→List Tk→Res Tm
 | 0,_,l=>.error (posT l)
 | n+1,0,l=>bind2 (parP n 1 l) fun t l'=>chainS (parP n 1) [wOr] [23] l'.length t l'
 | n+1,1,l=>bind2 (parP n 2 l) fun t l'=>chainS (parP n 2) [wAnd] [22] l'.length t l'
 | n+1,2,l=>if isW wNot l=true then mapT (fun t=>mkT 24 [t]) (parP n 2 l.tail) else parP n 3 l
 | n+1,3,l=>bind2 (parP n 4 l) fun a l'=>match oneOf cmpW l' with
   | some i=>mapT (fun b=>mkT (14+i) [a,b]) (parP n 4 l'.tail)
   | none =>
     if isW wIs l'=true then
      if isW wNull l'.tail=true then .ok (mkT 21 [a],l'.tail.tail)
      else if isW wTrue l'.tail=true then .ok (mkT 25 [a],l'.tail.tail)
      else bind1 (expS [wNot,wNull] l'.tail) fun l2=>.ok (mkT 24 [mkT 21 [a]],l2)
     else if isW wIn l'=true then
      bind1 (expS [wOpen] l'.tail) fun l2=>bind2 (parP n 0 l2) fun b l3=>bind2 (moreS (parP n 0) l3.length [a,b] l3) fun ks l4=>bind1 (expS [wShut] l4) fun l5=>.ok (mkT 28 ks,l5)
     else .ok (a,l')
 | n+1,4,l=>bind2 (parP n 5 l) fun t l'=>chainS (parP n 5) addW [6,7,12] l'.length t l'
 | n+1,5,l=>bind2 (parP n 6 l) fun t l'=>chainS (parP n 6) mulW [8,9,10] l'.length t l'
 | n+1,6,l =>
   if isW wMinus l=true then (if isNum l.tail=true then .ok (.mk 2 0 (IntKind.i64.wrap (-(hdT l.tail).n)) [] [] [],l.tail.tail) else mapT (fun t=>mkT 11 [t]) (parP n 6 l.tail)) else parP n 7 l
 | _+1,_+7,[]=>.error 0
 | n+1,_+7,t::r =>
   if t.kd=2 then .ok (.mk 2 0 t.n [] [] [],r)
   else if t.kd=3 then .ok (.mk 4 0 0 t.tx [] [],r)
   else if isW wTrue (t::r)=true then .ok (.mk 3 0 1 [] [] [],r)
   else if isW wFalse (t::r)=true then .ok (mkT 3 [],r)
   else if isW wNull (t::r)=true then (match oneOf [wInt,wBool,wText] r with
    | some i=>.ok (.mk 1 (1+i) 0 [] [] [],r.tail)
    | none=>.error (posT r))
   else if isW wOpen (t::r)=true then bind2 (parP n 0 r) fun t l2=>bind1 (expS [wShut] l2) fun l3=>.ok (t,l3)
   else if isW wLength (t::r)=true then bind2 (listS (parP n 0) 0 r) fun ks l2=>.ok (mkT 13 ks,l2)
   else if isW wCoalesce (t::r)=true then bind2 (listS (parP n 0) 1 r) fun ks l2=>.ok (mkT 27 ks,l2)
   else if isW wCase (t::r)=true then bind2 (caseS (parP n 0) [wWhen,wThen,wElse] [] r) fun ks l2=>bind1 (expS [wEnd] l2) fun l3=>.ok (mkT 26 ks,l3)
   else match oneOf aggW (t::r) with
    | some i=>aggS (parP n 0) i r
    | none=>bind2 (nameS (t::r)) fun a l1 =>
      if isW wDot l1=true then bind2 (nameS l1.tail) fun b l2=>.ok (.mk 40 0 0 b a [],l2) else .ok (.mk 40 0 0 a [] [],l1)
abbrev RS:=List Tk×Int
def rIs (w:List UInt8) (s:RS):Bool:=decide (s.2<0)&&isW w s.1
def rNext (s:RS):RS:=if s.2<0 then (s.1.tail,s.2) else s
def rFail (s:RS):RS:=if s.2<0 then (s.1,(posT s.1:Int)) else s
def rWant (w:List UInt8) (s:RS):RS:=if rIs w s=true then rNext s else rFail s
def rOne (ws:List (List UInt8)) (s:RS):Option Nat:=if s.2<0 then oneOf ws s.1 else none
def rNamed (s:RS):Bool:=decide (s.2<0)&&((hdT s.1).kd==1&&nameOk rsv (hdT s.1).tx)
def rName (s:RS):List UInt8×RS:=if rNamed s=true then ((hdT s.1).tx,rNext s) else ([],rFail s)
def chainR (part:RS→Tm×RS) (sg:List (List UInt8)) (ops:List Int):Nat→Tm→RS→Tm×RS
 | 0,out,s=>(out,s)
 | k+1,out,s=>match rOne sg s with
   | none=>(out,s)
   | some i=>chainR part sg ops k (mkT ((ops[i]?).getD 0) [out,(part (rNext s)).1]) (part (rNext s)).2
def moreR (part:RS→Tm×RS):Nat→List Tm→RS→List Tm×RS
 | 0,ks,s=>(ks,s)
 | k+1,ks,s=>if rIs wComma s=true then moreR part k (ks++[(part (rNext s)).1]) (part (rNext s)).2 else (ks,s)
def zeT:Tm:=mkT 0 []
def aggR (part:RS→Tm×RS) (s:RS):Tm×RS:=match rOne aggW s with
 | none=>(zeT,rFail s)
 | some i =>
   let s1:=rWant wOpen (rNext s)
   if i=0∧rIs wStar s1=true then (.mk 41 0 1 [] [] [],rWant wShut (rNext s1))
   else if i=0∧rIs wDistinct s1=true then (.mk 41 0 3 [] [] [(part (rNext s1)).1],rWant wShut (part (rNext s1)).2)
   else (.mk 41 0 (aggF i) [] [] [(part s1).1],rWant wShut (part s1).2)
def nullR (s:RS):Tm×RS:=match rOne [wInt,wBool,wText] s with
 | some i=>(.mk 1 (1+i) 0 [] [] [],rNext s)
 | none=>(zeT,rFail s)
def caseR (part:RS→Tm×RS) (s:RS):Tm×RS :=
 let a:=part (rWant wWhen s)
 let b:=part (rWant wThen a.2)
 let c:=part (rWant wElse b.2)
 (mkT 26 [a.1,b.1,c.1],rWant wEnd c.2)
def parR:Nat→Nat→RS→Tm×RS
 | 0,_,s=>(zeT,rFail s)
 | n+1,0,s=>chainR (parR n 1) [wOr] [23] (parR n 1 s).2.1.length (parR n 1 s).1 (parR n 1 s).2
 | n+1,1,s=>chainR (parR n 2) [wAnd] [22] (parR n 2 s).2.1.length (parR n 2 s).1 (parR n 2 s).2
 | n+1,2,s=>if rIs wNot s=true then (mkT 24 [(parR n 2 (rNext s)).1],(parR n 2 (rNext s)).2) else parR n 3 s
 | n+1,3,s =>
   let a:=parR n 4 s
   match rOne cmpW a.2 with
   | some i=>(mkT (14+i) [a.1,(parR n 4 (rNext a.2)).1],(parR n 4 (rNext a.2)).2)
   | none =>
     if rIs wIn a.2=true then
      let b:=parR n 0 (rWant wOpen (rNext a.2))
      let m:=moreR (parR n 0) b.2.1.length [a.1,b.1] b.2
      (mkT 28 m.1,rWant wShut m.2)
     else if rIs wIs a.2=true then
      let s2:=rNext a.2
      if rIs wNull s2=true then (mkT 21 [a.1],rNext s2)
      else if rIs wTrue s2=true then (mkT 25 [a.1],rNext s2)
      else if rIs wNot s2=true then (mkT 24 [mkT 21 [a.1]],rWant wNull (rNext s2))
      else (a.1,rFail s2)
     else a
 | n+1,4,s=>chainR (parR n 5) addW [6,7,12] (parR n 5 s).2.1.length (parR n 5 s).1 (parR n 5 s).2
 | n+1,5,s=>chainR (parR n 6) mulW [8,9,10] (parR n 6 s).2.1.length (parR n 6 s).1 (parR n 6 s).2
 | n+1,6,s =>
   if rIs wMinus s=true then
    let s1:=rNext s
    if s1.2<0∧(hdT s1.1).kd=2∧(hdT s1.1).n ≠ 0 then (.mk 2 0 (IntKind.i64.wrap (-(hdT s1.1).n)) [] [] [],rNext s1)
    else (mkT 11 [(parR n 6 s1).1],(parR n 6 s1).2)
   else parR n 7 s
 | n+1,_+7,s =>
   if 0≤s.2 then (zeT,s)
   else if (hdT s.1).kd=2 then (.mk 2 0 (hdT s.1).n [] [] [],rNext s)
   else if (hdT s.1).kd=3 then (.mk 4 0 0 (hdT s.1).tx [] [],rNext s)
   else if rNamed s=true then
    let a:=rName s
    if rIs wDot a.2=true then (.mk 40 0 0 (rName (rNext a.2)).1 a.1 [],(rName (rNext a.2)).2) else (.mk 40 0 0 a.1 [] [],a.2)
   else if rIs wOpen s=true then ((parR n 0 (rNext s)).1,rWant wShut (parR n 0 (rNext s)).2)
   else if rIs wTrue s=true then (.mk 3 0 1 [] [] [],rNext s)
   else if rIs wFalse s=true then (mkT 3 [],rNext s)
   else if rIs wNull s=true then nullR (rNext s)
   else if rIs wLength s=true then
    let a:=parR n 0 (rWant wOpen (rNext s))
    (mkT 13 [a.1],rWant wShut a.2)
   else if rIs wCoalesce s=true then
    let a:=parR n 0 (rWant wOpen (rNext s))
    let b:=parR n 0 (rWant wComma a.2)
    (mkT 27 [a.1,b.1],rWant wShut b.2)
   else if rIs wCase s=true then caseR (parR n 0) (rNext s)
   else aggR (parR n 0) s
theorem tail_sfx {α:Type} (l:List α):l.tail <:+ l:=List.tail_suffix l
def SfxOk {α:Type} (r:Res α) (l:List Tk):Prop:=∀ t l',r=.ok (t,l')→l' <:+ l
theorem SfxOk.err {α:Type} {l:List Tk} (p:Nat):SfxOk (.error p:Res α) l:=fun _ _ h=>by cases h
theorem SfxOk.ok {α:Type} {l l':List Tk} {t:α} (h:l' <:+ l):SfxOk (.ok (t,l'):Res α) l:=fun _ _ e=>by cases e; exact h
theorem SfxOk.up {α:Type} {r:Res α} {l l':List Tk} (h:SfxOk r l') (hl:l' <:+ l):SfxOk r l:=fun t m e=>(h t m e).trans hl
theorem sfx2 {α β:Type} {r:Res α} {l:List Tk} {f:α→List Tk→Res β} (h:SfxOk r l) (hf:∀ t l',r=.ok (t,l')→SfxOk (f t l') l'):SfxOk (bind2 r f) l:=by
 cases hr:r with
 | error p=>exact .err p
 | ok x=>obtain ⟨t,l'⟩:=x; exact (hf t l' hr).up (h t l' hr)
theorem exp_sfx:∀ (ws:List (List UInt8)) (l l':List Tk),expS ws l=.ok l'→l' <:+ l
 | [],l,l',h=>by cases h; exact List.suffix_refl _
 | w::ws,l,l',h=>by
   rw [expS] at h
   split at h
   ·exact (exp_sfx ws _ _ h).trans (tail_sfx l)
   ·cases h
theorem sfx1 {β:Type} {ws:List (List UInt8)} {l:List Tk} {f:List Tk→Res β} (hf:∀ l',SfxOk (f l') l'):SfxOk (bind1 (expS ws l) f) l:=by
 cases hr:expS ws l with
 | error p=>exact .err p
 | ok l'=>exact (hf l').up (exp_sfx _ _ _ hr)
theorem chain_sfx {part:List Tk→Res Tm} (hp:∀ l,SfxOk (part l) l) (sg:List (List UInt8)) (ops:List Int):∀ (k:Nat) (out:Tm) (l:List Tk),SfxOk (chainS part sg ops k out l) l
 | 0,out,l=>.ok (List.suffix_refl _)
 | k+1,out,l=>by
   rw [chainS]
   split
   ·exact .ok (List.suffix_refl _)
   ·split
    ·exact .err _
    ·rename_i t l' h
     exact (chain_sfx hp sg ops k _ l').up ((hp _ _ _ h).trans (tail_sfx l))
theorem more_sfx {part:List Tk→Res Tm} (hp:∀ l,SfxOk (part l) l):∀ (k:Nat) (ks:List Tm) (l:List Tk),SfxOk (moreS part k ks l) l
 | 0,ks,l=>.ok (List.suffix_refl _)
 | k+1,ks,l=>by
   rw [moreS]
   split
   ·exact (sfx2 (hp _) fun t l' _=>more_sfx hp k _ l').up (tail_sfx l)
   ·exact .ok (List.suffix_refl _)
theorem rest_sfx {part:List Tk→Res Tm} (hp:∀ l,SfxOk (part l) l):∀ (k:Nat) (ks:List Tm) (l:List Tk),SfxOk (restS part k ks l) l
 | 0,ks,l=>.ok (List.suffix_refl _)
 | k+1,ks,l=>by
   rw [restS]
   exact sfx1 fun l1=>sfx2 (hp l1) fun t l' _=>rest_sfx hp k _ l'
theorem list_sfx {part:List Tk→Res Tm} (hp:∀ l,SfxOk (part l) l) (m:Nat) (l:List Tk):SfxOk (listS part m l) l :=
 sfx1 fun l1=>sfx2 (hp l1) fun t l2 _=>sfx2 (rest_sfx hp m _ l2) fun ks l3 _=>sfx1 fun l4=>.ok (List.suffix_refl _)
theorem case_sfx {part:List Tk→Res Tm} (hp:∀ l,SfxOk (part l) l):∀ (ws:List (List UInt8)) (ks:List Tm) (l:List Tk),SfxOk (caseS part ws ks l) l
 | [],ks,l=>.ok (List.suffix_refl _)
 | w::ws,ks,l=>by
   rw [caseS]
   exact sfx1 fun l1=>sfx2 (hp l1) fun t l' _=>case_sfx hp ws _ l'
theorem name_sfx (l:List Tk):SfxOk (nameS l) l:=by
 unfold nameS
 split
 ·exact .err _
 ·split
  ·exact .ok (List.suffix_cons _ _)
  ·exact .err _
theorem agg_sfx {part:List Tk→Res Tm} (hp:∀ l,SfxOk (part l) l) (i:Nat) (l:List Tk):SfxOk (aggS part i l) l:=by
 unfold aggS
 refine sfx1 fun l1=>?_
 split
 ·exact (sfx1 fun l2=>.ok (List.suffix_refl _)).up (tail_sfx l1)
 ·split
  ·exact (sfx2 (hp _) fun t l2 _=>sfx1 fun l3=>.ok (List.suffix_refl _)).up (tail_sfx l1)
  ·exact sfx2 (hp _) fun t l2 _=>sfx1 fun l3=>.ok (List.suffix_refl _)
theorem par_sfx:∀ (n lvl:Nat) (l:List Tk),SfxOk (parP n lvl l) l
 | 0,lvl,l=>.err _
 | n+1,0,l=>by rw [parP]; exact sfx2 (par_sfx n 1 l) fun t l' _=>chain_sfx (par_sfx n 1) _ _ _ _ l'
 | n+1,1,l=>by rw [parP]; exact sfx2 (par_sfx n 2 l) fun t l' _=>chain_sfx (par_sfx n 2) _ _ _ _ l'
 | n+1,2,l=>by
   rw [parP]
   split
   ·exact (sfx2 (par_sfx n 2 _) fun t l' _=>.ok (List.suffix_refl _)).up (tail_sfx l)
   ·exact par_sfx n 3 l
 | n+1,3,l=>by
   rw [parP]
   refine sfx2 (par_sfx n 4 l) fun a l' _=>?_
   split
   ·exact (sfx2 (par_sfx n 4 _) fun t l' _=>.ok (List.suffix_refl _)).up (tail_sfx l')
   ·split
    ·split
     ·exact .ok ((tail_sfx _).trans (tail_sfx l'))
     ·split
      ·exact .ok ((tail_sfx _).trans (tail_sfx l'))
      ·exact (sfx1 fun l2=>.ok (List.suffix_refl _)).up (tail_sfx l')
    ·split
     ·exact (sfx1 fun l2=>sfx2 (par_sfx n 0 l2) fun b l3 _=>sfx2 (more_sfx (par_sfx n 0) _ _ l3) fun ks l4 _=>sfx1 fun l5=>.ok (List.suffix_refl _)).up (tail_sfx l')
     ·exact .ok (List.suffix_refl _)
 | n+1,4,l=>by rw [parP]; exact sfx2 (par_sfx n 5 l) fun t l' _=>chain_sfx (par_sfx n 5) _ _ _ _ l'
 | n+1,5,l=>by rw [parP]; exact sfx2 (par_sfx n 6 l) fun t l' _=>chain_sfx (par_sfx n 6) _ _ _ _ l'
 | n+1,6,l=>by
   rw [parP]
   split
   ·split
    ·exact .ok ((tail_sfx _).trans (tail_sfx l))
    ·exact (sfx2 (par_sfx n 6 _) fun t l' _=>.ok (List.suffix_refl _)).up (tail_sfx l)
   ·exact par_sfx n 7 l
 | n+1,m+7,[]=>by rw [parP]; exact .err _
 | n+1,m+7,t::r=>by
   have hr:r <:+ t::r:=List.suffix_cons _ _
   rw [parP]
   split
   ·exact .ok hr
   split
   ·exact .ok hr
   split
   ·exact .ok hr
   split
   ·exact .ok hr
   split
   ·split
    ·exact .ok ((tail_sfx r).trans hr)
    ·exact .err _
   split
   ·exact (sfx2 (par_sfx n 0 r) fun t l2 _=>sfx1 fun l3=>.ok (List.suffix_refl _)).up hr
   split
   ·exact (sfx2 (list_sfx (par_sfx n 0) _ r) fun t l2 _=>.ok (List.suffix_refl _)).up hr
   split
   ·exact (sfx2 (list_sfx (par_sfx n 0) _ r) fun t l2 _=>.ok (List.suffix_refl _)).up hr
   split
   ·exact (sfx2 (case_sfx (par_sfx n 0) _ _ r) fun t l2 _=>sfx1 fun l3=>.ok (List.suffix_refl _)).up hr
   split
   ·exact (agg_sfx (par_sfx n 0) _ r).up hr
   ·refine sfx2 (name_sfx _) fun a l1 _=>?_
    split
    ·exact (sfx2 (name_sfx _) fun b l2 _=>.ok (List.suffix_refl _)).up (tail_sfx l1)
    ·exact .ok (List.suffix_refl _)
theorem bind21 {α β:Type} (a:Except Nat (List Tk)) (f:List Tk→Res α) (g:α→List Tk→Res β):bind2 (bind1 a f) g=bind1 a fun l=>bind2 (f l) g:=by cases a <;> rfl
theorem bind22 {α β γ:Type} (a:Res α) (f:α→List Tk→Res β) (g:β→List Tk→Res γ):bind2 (bind2 a f) g=bind2 a fun t l=>bind2 (f t l) g:=by cases a <;> rfl
theorem bind2_ok {α β:Type} (t:α) (l:List Tk) (f:α→List Tk→Res β):bind2 (.ok (t,l)) f=f t l:=rfl
structure TkOk (t:Tk):Prop where
 tx:t.kd=1∨t.kd=4→t.tx=t.rw
 num:t.kd=2→(t.n=0↔t.rw=[48])
def okL (l:List Tk):Prop:=∀ t∈l,TkOk t
theorem okL.sfx {l l':List Tk} (h:okL l) (hs:l' <:+ l):okL l':=fun t ht=>h t (hs.subset ht)
theorem okL.tl {l:List Tk} (h:okL l):okL l.tail:=h.sfx (tail_sfx l)
def Eqv (r:Res Tm) (q:Tm×RS):Prop:=match r with
 | .ok (t,l)=>q=(t,(l,-1))
 | .error p=>q.2.2=(p:Int)
theorem one_nil (ws:List (List UInt8)):oneOf ws []=none:=by
 unfold oneOf
 rw [List.findIdx?_eq_none_iff]
 intro x _
 rfl
theorem rIs_good (w:List UInt8) (l:List Tk):rIs w (l,-1)=isW w l:=by simp [rIs]
theorem rNext_good (l:List Tk):rNext (l,-1)=(l.tail,-1):=by simp [rNext]
theorem rFail_good (l:List Tk):rFail (l,-1)=(l,(posT l:Int)):=by simp [rFail]
theorem rOne_good (ws:List (List UInt8)) (l:List Tk):rOne ws (l,-1)=oneOf ws l:=by simp [rOne]
theorem rWant_good (w:List UInt8) (l:List Tk):rWant w (l,-1)=if isW w l=true then (l.tail,-1) else (l,(posT l:Int)):=by
 unfold rWant
 rw [rIs_good,rNext_good,rFail_good]
section
variable {s:RS} (h:0≤s.2)
include h
theorem rIs_bad (w:List UInt8):rIs w s=false:=by unfold rIs; simp; omega
theorem rFail_bad:rFail s=s:=by unfold rFail; rw [if_neg (by omega)]
theorem rOne_bad (ws:List (List UInt8)):rOne ws s=none:=by unfold rOne; rw [if_neg (by omega)]
theorem rWant_bad (w:List UInt8):rWant w s=s:=by unfold rWant; rw [rIs_bad h,rFail_bad h]; simp
theorem rNamed_bad:rNamed s=false:=by unfold rNamed; simp; omega
theorem rName_bad:rName s=([],s):=by unfold rName; rw [rNamed_bad h,rFail_bad h]; simp
theorem chain_bad (part:RS→Tm×RS) (sg:List (List UInt8)) (ops:List Int):∀ (k:Nat) (out:Tm),chainR part sg ops k out s=(out,s)
 | 0,out=>rfl
 | k+1,out=>by rw [chainR,rOne_bad h]
theorem more_bad (part:RS→Tm×RS):∀ (k:Nat) (ks:List Tm),moreR part k ks s=(ks,s)
 | 0,ks=>rfl
 | k+1,ks=>by rw [moreR,rIs_bad h]; simp
end
theorem par_bad:∀ (n lvl:Nat) (s:RS),0≤s.2→(parR n lvl s).2=s
 | 0,lvl,s,h=>by rw [parR,rFail_bad h]
 | n+1,0,s,h=>by
   have e:=par_bad n 1 s h
   rw [parR,e,chain_bad h]
 | n+1,1,s,h=>by
   have e:=par_bad n 2 s h
   rw [parR,e,chain_bad h]
 | n+1,2,s,h=>by
   rw [parR,rIs_bad h]
   exact par_bad n 3 s h
 | n+1,3,s,h=>by
   have e:=par_bad n 4 s h
   rw [parR]
   simp only [e,rOne_bad h,rIs_bad h]
   exact e
 | n+1,4,s,h=>by
   have e:=par_bad n 5 s h
   rw [parR,e,chain_bad h]
 | n+1,5,s,h=>by
   have e:=par_bad n 6 s h
   rw [parR,e,chain_bad h]
 | n+1,6,s,h=>by
   rw [parR,rIs_bad h]
   exact par_bad n 7 s h
 | n+1,m+7,s,h=>by rw [parR,if_pos h]
theorem eqv2 {r:Res Tm} {q:Tm×RS} (h:Eqv r q) {f:Tm→List Tk→Res Tm} {g:Tm×RS→Tm×RS} (hf:∀ t l,r=.ok (t,l)→Eqv (f t l) (g (t,(l,-1)))) (hb:∀ q:Tm×RS,0≤q.2.2→(g q).2.2=q.2.2):Eqv (bind2 r f) (g q):=by
 cases r with
 | error p =>
   have h':q.2.2=(p:Int):=h
   show (g q).2.2=(p:Int)
   rw [hb q (by omega),h']
 | ok x =>
   obtain ⟨t,l⟩:=x
   have h':q=(t,(l,-1)):=h
   rw [h']
   exact hf t l rfl
theorem eqvW {w:List UInt8} {l:List Tk} {f:List Tk→Res Tm} {g:RS→Tm×RS} (hf:isW w l=true→Eqv (f l.tail) (g (l.tail,-1))) (hb:∀ s:RS,0≤s.2→(g s).2.2=s.2):Eqv (bind1 (expS [w] l) f) (g (rWant w (l,-1))):=by
 rw [rWant_good]
 simp only [expS]
 split
 ·rename_i h
  exact hf h
 ·show (g (l,(posT l:Int))).2.2=(posT l:Int)
  rw [hb _ (by simp only; omega)]
theorem eqvE {w:List UInt8} {l:List Tk} (t:Tm):Eqv (bind1 (expS [w] l) fun l'=>.ok (t,l')) (t,rWant w (l,-1)) :=
 eqvW (g:=fun s=>(t,s)) (fun _=>rfl) fun s _=>rfl
theorem want_bad2 (w:List UInt8) {s:RS} (h:0≤s.2):(rWant w s).2=s.2:=by rw [rWant_bad h]
theorem chain_eqv {p:List Tk→Res Tm} {q:RS→Tm×RS} (hG:∀ l,okL l→Eqv (p l) (q (l,-1))) (hs:∀ l,SfxOk (p l) l) (sg:List (List UInt8)) (ops:List Int):∀ (k:Nat) (out:Tm) (l:List Tk),okL l→Eqv (chainS p sg ops k out l) (chainR q sg ops k out (l,-1))
 | 0,out,l,hl=>rfl
 | k+1,out,l,hl=>by
   rw [chainS,chainR,rOne_good]
   cases h:oneOf sg l with
   | none=>rfl
   | some i =>
     simp only [rNext_good]
     have e:=hG l.tail hl.tl
     cases hr:p l.tail with
     | error pp =>
       rw [hr] at e
       have e':(q (l.tail,-1)).2.2=(pp:Int):=e
       show (chainR q sg ops k _ (q (l.tail,-1)).2).2.2=(pp:Int)
       rw [chain_bad (by omega)]
       exact e'
     | ok x =>
       obtain ⟨t,l'⟩:=x
       rw [hr] at e
       have e':q (l.tail,-1)=(t,(l',-1)):=e
       rw [e']
       exact chain_eqv hG hs sg ops k _ l' (hl.tl.sfx (hs _ _ _ hr))
theorem level_eqv {p:List Tk→Res Tm} {q:RS→Tm×RS} (hG:∀ l,okL l→Eqv (p l) (q (l,-1))) (hs:∀ l,SfxOk (p l) l) (sg:List (List UInt8)) (ops:List Int) (l:List Tk) (hl:okL l) :
  Eqv (bind2 (p l) fun t l'=>chainS p sg ops l'.length t l') (chainR q sg ops (q (l,-1)).2.1.length (q (l,-1)).1 (q (l,-1)).2) :=
 eqv2 (g:=fun x=>chainR q sg ops x.2.1.length x.1 x.2) (hG l hl) (fun t l' h=>chain_eqv hG hs sg ops _ t l' (hl.sfx (hs _ _ _ h))) fun x hx=>by rw [chain_bad hx]
def EqvL (r:Res (List Tm)) (q:List Tm×RS):Prop:=match r with
 | .ok (t,l)=>q=(t,(l,-1))
 | .error p=>q.2.2=(p:Int)
theorem more_eqv {p:List Tk→Res Tm} {q:RS→Tm×RS} (hG:∀ l,okL l→Eqv (p l) (q (l,-1))) (hs:∀ l,SfxOk (p l) l):∀ (k:Nat) (ks:List Tm) (l:List Tk),okL l→EqvL (moreS p k ks l) (moreR q k ks (l,-1))
 | 0,ks,l,hl=>rfl
 | k+1,ks,l,hl=>by
   rw [moreS,moreR,rIs_good]
   split
   ·simp only [rNext_good]
    have e:=hG l.tail hl.tl
    cases hr:p l.tail with
    | error pp =>
      rw [hr] at e
      have e':(q (l.tail,-1)).2.2=(pp:Int):=e
      show (moreR q k _ (q (l.tail,-1)).2).2.2=(pp:Int)
      rw [more_bad (by omega)]
      exact e'
    | ok x =>
      obtain ⟨t,l'⟩:=x
      rw [hr] at e
      have e':q (l.tail,-1)=(t,(l',-1)):=e
      rw [e']
      exact more_eqv hG hs k _ l' (hl.tl.sfx (hs _ _ _ hr))
   ·rfl
theorem eqvM {r:Res (List Tm)} {q:List Tm×RS} (h:EqvL r q) {f:List Tm→List Tk→Res Tm} {g:List Tm×RS→Tm×RS} (hf:∀ t l,r=.ok (t,l)→Eqv (f t l) (g (t,(l,-1)))) (hb:∀ q:List Tm×RS,0≤q.2.2→(g q).2.2=q.2.2):Eqv (bind2 r f) (g q):=by
 cases r with
 | error p =>
   have h':q.2.2=(p:Int):=h
   show (g q).2.2=(p:Int)
   rw [hb q (by omega),h']
 | ok x =>
   obtain ⟨t,l⟩:=x
   have h':q=(t,(l,-1)):=h
   rw [h']
   exact hf t l rfl
theorem not_name {w:List UInt8} (hw:nameOk rsv w=false) {l:List Tk} (h:nameOk rsv (hdT l).rw=true):isW w l=false:=by
 cases l with
 | nil=>rfl
 | cons t r =>
   cases hh:isW w (t::r) with
   | false=>rfl
   | true =>
     simp only [isW,Bool.and_eq_true,beq_iff_eq] at hh
     simp only [hdT] at h
     rw [hh.2,hw] at h
     cases h
theorem agg_eqv {p:List Tk→Res Tm} {q:RS→Tm×RS} (hG:∀ l,okL l→Eqv (p l) (q (l,-1))) (l:List Tk) (hl:okL l) (i:Nat) (hi:oneOf aggW l=some i) (hqb:∀ s:RS,0≤s.2→(q s).2=s):Eqv (aggS p i l.tail) (aggR q (l,-1)):=by
 unfold aggS aggR
 rw [rOne_good,hi,rNext_good]
 simp only
 refine eqvW (g:=fun s1=>if i=0∧rIs wStar s1=true then (.mk 41 0 1 [] [] [],rWant wShut (rNext s1)) else if i=0∧rIs wDistinct s1=true then (.mk 41 0 3 [] [] [(q (rNext s1)).1],rWant wShut (q (rNext s1)).2) else (.mk 41 0 (aggF i) [] [] [(q s1).1],rWant wShut (q s1).2)) (fun h=>?_) fun s hs=>?_
 ·simp only [rIs_good,rNext_good]
  have hl2:=hl.tl.tl
  split
  ·exact eqvE _
  ·split
   ·exact eqv2 (g:=fun x=>(.mk 41 0 3 [] [] [x.1],rWant wShut x.2)) (hG _ hl2.tl) (fun t l' _=>eqvE _) fun x hx=>want_bad2 _ hx
   ·exact eqv2 (g:=fun x=>(.mk 41 0 (aggF i) [] [] [x.1],rWant wShut x.2)) (hG _ hl2) (fun t l' _=>eqvE _) fun x hx=>want_bad2 _ hx
 ·simp only [rIs_bad hs]
  simp only [Bool.false_eq_true,and_false,if_false]
  rw [hqb s hs,want_bad2 _ hs]
theorem named_good {t:Tk} {r:List Tk} (h:TkOk t):rNamed (t::r,-1)=(t.kd==1&&nameOk rsv t.rw):=by
 unfold rNamed
 simp only [hdT]
 rw [show decide ((-1:Int)<0)=true from rfl,Bool.true_and]
 by_cases hk:t.kd=1
 ·rw [h.tx (.inl hk)]
 ·rw [show (t.kd==1)=false from by simpa using hk,Bool.false_and,Bool.false_and]
theorem name_eqv {l:List Tk} (hl:okL l) {f:List UInt8→List Tk→Res Tm} {g:List UInt8×RS→Tm×RS} (hf:∀ t l',nameS l=.ok (t,l')→Eqv (f t l') (g (t,(l',-1)))) (hb:∀ q:List UInt8×RS,0≤q.2.2→(g q).2.2=q.2.2):Eqv (bind2 (nameS l) f) (g (rName (l,-1))):=by
 cases l with
 | nil =>
   show (g (rName ([],-1))).2.2=((0:Nat):Int)
   have e:rName (([],-1):RS)=([],([],0)):=by simp [rName,rNamed,rFail,hdT,posT]
   rw [e,hb _ (by simp)]
   rfl
 | cons t r =>
   have ht:=hl t List.mem_cons_self
   unfold rName
   rw [named_good ht]
   unfold nameS at hf ⊢
   simp only at hf ⊢
   by_cases hk:t.kd=1∧nameOk rsv t.rw=true
   ·rw [if_pos hk] at hf ⊢
    have e:(t.kd==1&&nameOk rsv t.rw)=true:=by simp [hk]
    rw [e,if_pos rfl,rNext_good]
    simp only [hdT,List.tail_cons]
    rw [ht.tx (.inl hk.1)]
    exact hf _ _ rfl
   ·rw [if_neg hk]
    have e:¬ (t.kd==1&&nameOk rsv t.rw)=true:=by simpa using hk
    rw [if_neg e,rFail_good]
    show (g ([],(t::r,(posT (t::r):Int)))).2.2=(t.fr:Int)
    rw [hb _ (by simp only; omega)]
    rfl
theorem par_eqv:∀ (n lvl:Nat) (l:List Tk),okL l→Eqv (parP n lvl l) (parR n lvl (l,-1))
 | 0,lvl,l,hl=>by rw [parP,parR]; rfl
 | n+1,0,l,hl=>by rw [parP,parR]; exact level_eqv (par_eqv n 1) (par_sfx n 1) _ _ l hl
 | n+1,1,l,hl=>by rw [parP,parR]; exact level_eqv (par_eqv n 2) (par_sfx n 2) _ _ l hl
 | n+1,2,l,hl=>by
   rw [parP,parR,rIs_good,rNext_good]
   split
   ·exact eqv2 (g:=fun x=>(mkT 24 [x.1],x.2)) (par_eqv n 2 _ hl.tl) (fun t l' _=>rfl) fun x _=>rfl
   ·exact par_eqv n 3 l hl
 | n+1,3,l,hl=>by
   rw [parP,parR]
   refine eqv2 (g:=fun a=>match rOne cmpW a.2 with
    | some i=>(mkT (14+i) [a.1,(parR n 4 (rNext a.2)).1],(parR n 4 (rNext a.2)).2)
    | none =>
      if rIs wIn a.2=true then
       (mkT 28 (moreR (parR n 0) (parR n 0 (rWant wOpen (rNext a.2))).2.1.length [a.1,(parR n 0 (rWant wOpen (rNext a.2))).1] (parR n 0 (rWant wOpen (rNext a.2))).2).1,rWant wShut (moreR (parR n 0) (parR n 0 (rWant wOpen (rNext a.2))).2.1.length [a.1,(parR n 0 (rWant wOpen (rNext a.2))).1] (parR n 0 (rWant wOpen (rNext a.2))).2).2)
      else if rIs wIs a.2=true then
       if rIs wNull (rNext a.2)=true then (mkT 21 [a.1],rNext (rNext a.2))
       else if rIs wTrue (rNext a.2)=true then (mkT 25 [a.1],rNext (rNext a.2))
       else if rIs wNot (rNext a.2)=true then (mkT 24 [mkT 21 [a.1]],rWant wNull (rNext (rNext a.2)))
       else (a.1,rFail (rNext a.2))
      else a) (par_eqv n 4 l hl) (fun a l' ha=>?_) fun a ha=>?_
   ·have hl':=hl.sfx (par_sfx n 4 _ _ _ ha)
    simp only [rOne_good,rNext_good,rIs_good,rFail_good]
    cases hc:oneOf cmpW l' with
    | some i=>exact eqv2 (g:=fun x=>(mkT (14+i) [a,x.1],x.2)) (par_eqv n 4 _ hl'.tl) (fun t l' _=>rfl) fun x _=>rfl
    | none =>
      simp only
      by_cases h1:isW wIs l'=true
      ·have h2:isW wIn l'=false:=by
        cases l' with
        | nil=>rfl
        | cons t r =>
          simp only [isW,Bool.and_eq_true,beq_iff_eq] at h1
          simp only [isW,h1.2]
          simp [wIs,wIn]
       rw [if_pos h1,if_neg (show ¬ isW wIn l'=true by rw [h2]; simp),if_pos h1]
       by_cases n1:isW wNull l'.tail=true
       ·rw [if_pos n1,if_pos n1]; rfl
       ·rw [if_neg n1,if_neg n1]
        by_cases n2:isW wTrue l'.tail=true
        ·rw [if_pos n2,if_pos n2]; rfl
        ·rw [if_neg n2,if_neg n2]
         by_cases h3:isW wNot l'.tail=true
         ·have e:expS [wNot,wNull] l'.tail=expS [wNull] l'.tail.tail:=by rw [expS,if_pos h3]
          rw [e,if_pos h3]
          exact eqvE _
         ·have e:expS [wNot,wNull] l'.tail=.error (posT l'.tail):=by rw [expS,if_neg h3]
          rw [e,if_neg h3]
          rfl
      ·rw [if_neg h1,if_neg h1]
       split
       ·refine eqvW (g:=fun s=>(mkT 28 (moreR (parR n 0) (parR n 0 s).2.1.length [a,(parR n 0 s).1] (parR n 0 s).2).1,rWant wShut (moreR (parR n 0) (parR n 0 s).2.1.length [a,(parR n 0 s).1] (parR n 0 s).2).2)) (fun _=>?_) fun s hs=>?_
        ·refine eqv2 (g:=fun x=>(mkT 28 (moreR (parR n 0) x.2.1.length [a,x.1] x.2).1,rWant wShut (moreR (parR n 0) x.2.1.length [a,x.1] x.2).2)) (par_eqv n 0 _ hl'.tl.tl) (fun b l3 hb=>?_) fun x hx=>?_
         ·have hl3:=hl'.tl.tl.sfx (par_sfx n 0 _ _ _ hb)
          exact eqvM (g:=fun x=>(mkT 28 x.1,rWant wShut x.2)) (more_eqv (par_eqv n 0) (par_sfx n 0) _ _ l3 hl3) (fun ks l4 _=>eqvE _) fun x hx=>want_bad2 _ hx
         ·rw [more_bad hx]
          exact want_bad2 _ hx
        ·have e:=par_bad n 0 s hs
         simp only [e]
         rw [more_bad hs]
         exact want_bad2 _ hs
       ·rfl
   ·simp only [rOne_bad ha,rIs_bad ha]
    rfl
 | n+1,4,l,hl=>by rw [parP,parR]; exact level_eqv (par_eqv n 5) (par_sfx n 5) _ _ l hl
 | n+1,5,l,hl=>by rw [parP,parR]; exact level_eqv (par_eqv n 6) (par_sfx n 6) _ _ l hl
 | n+1,6,l,hl=>by
   rw [parP,parR,rIs_good,rNext_good]
   split
   ·have e:isNum l.tail=true↔((-1:Int)<0∧(hdT l.tail).kd=2∧(hdT l.tail).n ≠ 0):=by
     have hk:=hl.tl
     revert hk
     cases l.tail with
     | nil=>intro _; simp [isNum,hdT]
     | cons t r =>
       intro hk
       have ht:=hk t List.mem_cons_self
       simp only [isNum,hdT,Bool.and_eq_true,beq_iff_eq,bne_iff_ne]
       constructor
       ·rintro ⟨h1,h2⟩
        exact ⟨by decide,h1,fun h=>h2 ((ht.num h1).1 h)⟩
       ·rintro ⟨_,h1,h2⟩
        exact ⟨h1,fun h=>h2 ((ht.num h1).2 h)⟩
    simp only
    by_cases hn:isNum l.tail=true
    ·rw [if_pos hn,if_pos (e.1 hn),rNext_good]
     rfl
    ·rw [if_neg hn,if_neg (fun h=>hn (e.2 h))]
     exact eqv2 (g:=fun x=>(mkT 11 [x.1],x.2)) (par_eqv n 6 _ hl.tl) (fun t l' _=>rfl) fun x _=>rfl
   ·exact par_eqv n 7 l hl
 | n+1,m+7,[],hl=>by
   rw [parP,parR]
   have e:∀ w,rIs w ([],-1)=false:=fun w=>rfl
   have e2:rNamed (([],-1):RS)=false:=rfl
   rw [if_neg (show ¬ (0:Int)≤(([],-1):RS).2 by simp)]
   simp only [hdT,e,e2]
   rw [if_neg (by decide),if_neg (by decide),if_neg (by decide),if_neg (by decide),if_neg (by decide),if_neg (by decide),if_neg (by decide),if_neg (by decide),if_neg (by decide)]
   unfold aggR
   rw [rOne_good,one_nil,rFail_good]
   rfl
 | n+1,m+7,t::r,hl=>by
   have ht:=hl t List.mem_cons_self
   have hr:okL r:=hl.sfx (List.suffix_cons _ _)
   rw [parP,parR,if_neg (show ¬ (0:Int)≤((t::r,-1):RS).2 by simp)]
   simp only [hdT,rNext_good,List.tail_cons]
   by_cases k2:t.kd=2
   ·rw [if_pos k2,if_pos k2]; rfl
   rw [if_neg k2,if_neg k2]
   by_cases k3:t.kd=3
   ·rw [if_pos k3,if_pos k3]; rfl
   rw [if_neg k3,if_neg k3,named_good ht]
   simp only [rIs_good]
   by_cases hn:(t.kd==1&&nameOk rsv t.rw)=true
   ·rw [if_pos hn]
    have hn':nameOk rsv (hdT (t::r)).rw=true:=by simp only [Bool.and_eq_true] at hn; exact hn.2
    have q:=fun w hw=>not_name (w:=w) hw hn'
    rw [if_neg (by rw [q wTrue (by decide)]; simp),if_neg (by rw [q wFalse (by decide)]; simp),if_neg (by rw [q wNull (by decide)]; simp),if_neg (by rw [q wOpen (by decide)]; simp),if_neg (by rw [q wLength (by decide)]; simp),if_neg (by rw [q wCoalesce (by decide)]; simp),if_neg (by rw [q wCase (by decide)]; simp)]
    have ha:oneOf aggW (t::r)=none:=by
     unfold oneOf aggW
     simp [List.findIdx?_cons,q wCount (by decide),q wSum (by decide),q wMin (by decide),q wMax (by decide)]
    rw [ha]
    refine name_eqv (g:=fun a=>if rIs wDot a.2=true then (.mk 40 0 0 (rName (rNext a.2)).1 a.1 [],(rName (rNext a.2)).2) else (.mk 40 0 0 a.1 [] [],a.2)) hl (fun a l1 h1=>?_) fun a ha=>?_
    ·have hl1:=hl.sfx (name_sfx _ _ _ h1)
     simp only [rIs_good,rNext_good]
     split
     ·exact name_eqv (g:=fun b=>(.mk 40 0 0 b.1 a [],b.2)) hl1.tl (fun b l2 _=>rfl) fun b _=>rfl
     ·rfl
    ·simp only [rIs_bad ha]
     rfl
   ·rw [if_neg hn]
    by_cases c1:isW wTrue (t::r)=true
    ·have c2:isW wOpen (t::r)=false:=by
      simp only [isW,Bool.and_eq_true,beq_iff_eq] at c1
      simp only [isW,c1.2]
      simp [wTrue,wOpen]
     rw [if_pos c1,if_neg (by rw [c2]; simp),if_pos c1]; rfl
    rw [if_neg c1,if_neg c1]
    by_cases c2:isW wFalse (t::r)=true
    ·have c3:isW wOpen (t::r)=false:=by
      simp only [isW,Bool.and_eq_true,beq_iff_eq] at c2
      simp only [isW,c2.2]
      simp [wFalse,wOpen]
     rw [if_pos c2,if_neg (by rw [c3]; simp),if_pos c2]; rfl
    rw [if_neg c2,if_neg c2]
    by_cases c3:isW wNull (t::r)=true
    ·have c4:isW wOpen (t::r)=false:=by
      simp only [isW,Bool.and_eq_true,beq_iff_eq] at c3
      simp only [isW,c3.2]
      simp [wNull,wOpen]
     rw [if_pos c3,if_neg (by rw [c4]; simp),if_pos c3]
     unfold nullR
     rw [rOne_good,rFail_good,rNext_good]
     cases oneOf [wInt,wBool,wText] r with
     | none=>rfl
     | some i=>rfl
    rw [if_neg c3,if_neg c3]
    by_cases c4:isW wOpen (t::r)=true
    ·rw [if_pos c4,if_pos c4]
     exact eqv2 (g:=fun x=>(x.1,rWant wShut x.2)) (par_eqv n 0 r hr) (fun t l2 _=>eqvE _) fun x hx=>want_bad2 _ hx
    rw [if_neg c4,if_neg c4]
    by_cases c5:isW wLength (t::r)=true
    ·rw [if_pos c5,if_pos c5]
     simp only [listS,restS,bind21,bind22,bind2_ok]
     exact eqvW (g:=fun s=>(mkT 13 [(parR n 0 s).1],rWant wShut (parR n 0 s).2)) (fun _=>eqv2 (g:=fun x=>(mkT 13 [x.1],rWant wShut x.2)) (par_eqv n 0 _ hr.tl) (fun t l2 _=>eqvE _) fun x hx=>want_bad2 _ hx) fun s hs=>by
      simp only [par_bad n 0 s hs]
      exact want_bad2 _ hs
    rw [if_neg c5,if_neg c5]
    by_cases c6:isW wCoalesce (t::r)=true
    ·rw [if_pos c6,if_pos c6]
     simp only [listS,restS,bind21,bind22,bind2_ok]
     have b4:∀ (t:Tm) (q:Tm×RS),0≤q.2.2→((fun b:Tm×RS=>(mkT 27 [t,b.1],rWant wShut b.2)) q).2.2=q.2.2:=fun t q hq=>want_bad2 _ hq
     have b3:∀ (t:Tm) (s:RS),0≤s.2→((fun s:RS=>(mkT 27 [t,(parR n 0 s).1],rWant wShut (parR n 0 s).2)) s).2.2=s.2:=fun t s hs=>by
      simp only [par_bad n 0 s hs]
      exact want_bad2 _ hs
     have b2:∀ q:Tm×RS,0≤q.2.2→((fun a:Tm×RS=>(mkT 27 [a.1,(parR n 0 (rWant wComma a.2)).1],rWant wShut (parR n 0 (rWant wComma a.2)).2)) q).2.2=q.2.2:=fun q hq=>by
      simp only [rWant_bad hq]
      exact b3 q.1 q.2 hq
     exact eqvW (g:=fun s=>(mkT 27 [(parR n 0 s).1,(parR n 0 (rWant wComma (parR n 0 s).2)).1],rWant wShut (parR n 0 (rWant wComma (parR n 0 s).2)).2))
      (fun _=>eqv2 (g:=fun a=>(mkT 27 [a.1,(parR n 0 (rWant wComma a.2)).1],rWant wShut (parR n 0 (rWant wComma a.2)).2)) (par_eqv n 0 _ hr.tl)
       (fun t l2 ht=>eqvW (g:=fun s=>(mkT 27 [t,(parR n 0 s).1],rWant wShut (parR n 0 s).2))
        (fun _=>eqv2 (g:=fun b=>(mkT 27 [t,b.1],rWant wShut b.2)) (par_eqv n 0 _ ((hr.tl.sfx (par_sfx n 0 _ t l2 ht)).tl)) (fun t' l4 _=>eqvE _) (b4 t)) (b3 t)) b2)
      fun s hs=>by
       simp only [par_bad n 0 s hs,rWant_bad hs]
    rw [if_neg c6,if_neg c6]
    by_cases c7:isW wCase (t::r)=true
    ·rw [if_pos c7,if_pos c7]
     simp only [caseS,bind21,bind22,bind2_ok]
     have b6:∀ (t u:Tm) (q:Tm×RS),0≤q.2.2→((fun c:Tm×RS=>(mkT 26 [t,u,c.1],rWant wEnd c.2)) q).2.2=q.2.2:=fun t u q hq=>want_bad2 _ hq
     have b5:∀ (t u:Tm) (s:RS),0≤s.2→((fun s:RS=>(mkT 26 [t,u,(parR n 0 s).1],rWant wEnd (parR n 0 s).2)) s).2.2=s.2:=fun t u s hs=>by
      simp only [par_bad n 0 s hs]
      exact want_bad2 _ hs
     have b4:∀ (t:Tm) (q:Tm×RS),0≤q.2.2→((fun b:Tm×RS=>(mkT 26 [t,b.1,(parR n 0 (rWant wElse b.2)).1],rWant wEnd (parR n 0 (rWant wElse b.2)).2)) q).2.2=q.2.2:=fun t q hq=>by
      simp only [rWant_bad hq]
      exact b5 t q.1 q.2 hq
     have b3:∀ (t:Tm) (s:RS),0≤s.2→((fun s:RS=>(mkT 26 [t,(parR n 0 s).1,(parR n 0 (rWant wElse (parR n 0 s).2)).1],rWant wEnd (parR n 0 (rWant wElse (parR n 0 s).2)).2)) s).2.2=s.2:=fun t s hs=>by
      simp only [par_bad n 0 s hs,rWant_bad hs]
     have b2:∀ q:Tm×RS,0≤q.2.2→((fun a:Tm×RS=>(mkT 26 [a.1,(parR n 0 (rWant wThen a.2)).1,(parR n 0 (rWant wElse (parR n 0 (rWant wThen a.2)).2)).1],rWant wEnd (parR n 0 (rWant wElse (parR n 0 (rWant wThen a.2)).2)).2)) q).2.2=q.2.2:=fun q hq=>by
      simp only [rWant_bad hq]
      exact b3 q.1 q.2 hq
     exact eqvW (g:=fun s=>(mkT 26 [(parR n 0 s).1,(parR n 0 (rWant wThen (parR n 0 s).2)).1,(parR n 0 (rWant wElse (parR n 0 (rWant wThen (parR n 0 s).2)).2)).1],rWant wEnd (parR n 0 (rWant wElse (parR n 0 (rWant wThen (parR n 0 s).2)).2)).2))
      (fun _=>eqv2 (g:=fun a=>(mkT 26 [a.1,(parR n 0 (rWant wThen a.2)).1,(parR n 0 (rWant wElse (parR n 0 (rWant wThen a.2)).2)).1],rWant wEnd (parR n 0 (rWant wElse (parR n 0 (rWant wThen a.2)).2)).2)) (par_eqv n 0 _ hr.tl)
       (fun t l2 ht=>eqvW (g:=fun s=>(mkT 26 [t,(parR n 0 s).1,(parR n 0 (rWant wElse (parR n 0 s).2)).1],rWant wEnd (parR n 0 (rWant wElse (parR n 0 s).2)).2))
        (fun _=>eqv2 (g:=fun b=>(mkT 26 [t,b.1,(parR n 0 (rWant wElse b.2)).1],rWant wEnd (parR n 0 (rWant wElse b.2)).2)) (par_eqv n 0 _ ((hr.tl.sfx (par_sfx n 0 _ t l2 ht)).tl))
         (fun u l4 hu=>eqvW (g:=fun s=>(mkT 26 [t,u,(parR n 0 s).1],rWant wEnd (parR n 0 s).2))
          (fun _=>eqv2 (g:=fun c=>(mkT 26 [t,u,c.1],rWant wEnd c.2)) (par_eqv n 0 _ (((((hr.tl.sfx (par_sfx n 0 _ t l2 ht)).tl).sfx (par_sfx n 0 _ u l4 hu))).tl)) (fun v l6 _=>eqvE _) (b6 t u)) (b5 t u)) (b4 t)) (b3 t)) b2)
      fun s hs=>by
       simp only [par_bad n 0 s hs,rWant_bad hs]
    rw [if_neg c7,if_neg c7]
    cases hi:oneOf aggW (t::r) with
    | some i=>exact agg_eqv (par_eqv n 0) (t::r) hl i hi (par_bad n 0)
    | none =>
      have e:nameS (t::r)=.error t.fr:=by
       unfold nameS
       simp only
       rw [if_neg (by simpa using hn)]
      rw [e]
      unfold aggR
      rw [rOne_good,hi,rFail_good]
      rfl
def need (lvl:Nat) (l:List Tk):Nat:=9*l.length+8 - lvl
theorem isW_len {w:List UInt8} {l:List Tk} (h:isW w l=true):l.tail.length+1=l.length:=by
 cases l with
 | nil=>cases h
 | cons t r=>simp
theorem one_len {ws:List (List UInt8)} {l:List Tk} {i:Nat} (h:oneOf ws l=some i):l.tail.length+1=l.length:=by
 cases l with
 | nil=>rw [one_nil] at h; cases h
 | cons t r=>simp
theorem sfx_len {α:Type} {r:Res α} {l l':List Tk} {t:α} (hs:SfxOk r l) (h:r=.ok (t,l')):l'.length≤l.length:=(hs t l' h).length_le
theorem exp_len {ws:List (List UInt8)} {l l':List Tk} (h:expS ws l=.ok l'):l'.length≤l.length:=(exp_sfx _ _ _ h).length_le
def Agr (L:Nat) (p q:List Tk→Res Tm):Prop:=∀ l,l.length≤L→p l=q l
section
variable {L:Nat} {p q:List Tk→Res Tm} (h:Agr L p q) (hs:∀ l,SfxOk (p l) l)
include h hs
theorem bind_agr {β:Type} {l:List Tk} (hl:l.length≤L) {f g:Tm→List Tk→Res β} (hf:∀ t l',l'.length≤l.length→f t l'=g t l'):bind2 (p l) f=bind2 (q l) g:=by
 rw [← h l hl]
 cases hr:p l with
 | error e=>rfl
 | ok x=>exact hf x.1 x.2 (sfx_len (hs l) hr)
theorem chain_agr' (sg:List (List UInt8)) (ops:List Int):∀ (k:Nat) (out:Tm) (l:List Tk),l.length≤L→chainS p sg ops k out l=chainS q sg ops k out l
 | 0,out,l,hl=>rfl
 | k+1,out,l,hl=>by
   rw [chainS,chainS]
   cases ho:oneOf sg l with
   | none=>rfl
   | some i =>
     have h1:=one_len ho
     simp only
     rw [← h l.tail (by omega)]
     cases hr:p l.tail with
     | error e=>rfl
     | ok x =>
       obtain ⟨t,l'⟩:=x
       have:=sfx_len (hs _) hr
       exact chain_agr' sg ops k _ l' (by omega)
theorem more_agr:∀ (k:Nat) (ks:List Tm) (l:List Tk),l.length≤L→moreS p k ks l=moreS q k ks l
 | 0,ks,l,hl=>rfl
 | k+1,ks,l,hl=>by
   rw [moreS,moreS]
   split
   ·rename_i hw
    have h1:=isW_len hw
    exact bind_agr h hs (by omega) fun t l' h2=>more_agr k _ l' (by omega)
   ·rfl
omit h hs in
theorem bind1_agr {β:Type} {ws:List (List UInt8)} {l:List Tk} {f g:List Tk→Res β} (hf:∀ l',l'.length≤l.length→f l'=g l'):bind1 (expS ws l) f=bind1 (expS ws l) g:=by
 cases hr:expS ws l with
 | error e=>rfl
 | ok l'=>exact hf l' (exp_len hr)
theorem rest_agr:∀ (k:Nat) (ks:List Tm) (l:List Tk),l.length≤L→restS p k ks l=restS q k ks l
 | 0,ks,l,hl=>rfl
 | k+1,ks,l,hl=>by
   rw [restS,restS]
   exact bind1_agr fun l1 h1=>bind_agr h hs (by omega) fun t l2 h2=>rest_agr k _ l2 (by omega)
theorem list_agr (m:Nat) (l:List Tk) (hl:l.length≤L):listS p m l=listS q m l:=by
 unfold listS
 exact bind1_agr fun l1 h1=>bind_agr h hs (by omega) fun t l2 h2=>by rw [rest_agr h hs m _ l2 (by omega)]
theorem case_agr:∀ (ws:List (List UInt8)) (ks:List Tm) (l:List Tk),l.length≤L→caseS p ws ks l=caseS q ws ks l
 | [],ks,l,hl=>rfl
 | w::ws,ks,l,hl=>by
   rw [caseS,caseS]
   exact bind1_agr fun l1 h1=>bind_agr h hs (by omega) fun t l2 h2=>case_agr ws _ l2 (by omega)
theorem agg_agr (i:Nat) (l:List Tk) (hl:l.length≤L):aggS p i l=aggS q i l:=by
 unfold aggS
 refine bind1_agr fun l1 h1=>?_
 split
 ·rfl
 ·split
  ·rename_i hw
   have h2:=isW_len hw.2
   exact bind_agr h hs (by omega) fun t l2 _=>rfl
  ·exact bind_agr h hs (by omega) fun t l2 _=>rfl
end
theorem par_fuel:∀ (n m lvl:Nat) (l:List Tk),lvl≤7→need lvl l≤n→need lvl l≤m→parP n lvl l=parP m lvl l
 | 0,m,lvl,l,hv,hn,hm=>by unfold need at hn; omega
 | n+1,0,lvl,l,hv,hn,hm=>by unfold need at hm; omega
 | n+1,m+1,lvl,l,hv,hn,hm=>by
   unfold need at hn hm
   have ih:∀ lv,lv≤7→∀ l',9*l'.length+8 - lv≤n→9*l'.length+8 - lv≤m→parP n lv l'=parP m lv l':=fun lv h7 l' h1 h2=>par_fuel n m lv l' h7 h1 h2
   have ag:∀ lv,lv≤7→lvl<lv→Agr l.length (parP n lv) (parP m lv):=fun lv h7 hl l' hl'=>ih lv h7 l' (by omega) (by omega)
   have a0:1≤l.length→Agr (l.length - 1) (parP n 0) (parP m 0):=fun h1 l' hl'=>ih 0 (by omega) l' (by omega) (by omega)
   match lvl,hv with
   | 0,_ =>
     rw [parP,parP]
     exact bind_agr (ag 1 (by omega) (by omega)) (par_sfx n 1) (Nat.le_refl _) fun t l' h=>chain_agr' (ag 1 (by omega) (by omega)) (par_sfx n 1) _ _ _ t l' h
   | 1,_ =>
     rw [parP,parP]
     exact bind_agr (ag 2 (by omega) (by omega)) (par_sfx n 2) (Nat.le_refl _) fun t l' h=>chain_agr' (ag 2 (by omega) (by omega)) (par_sfx n 2) _ _ _ t l' h
   | 2,_ =>
     rw [parP,parP]
     split
     ·rename_i hw
      have:=isW_len hw
      unfold mapT
      rw [ih 2 (by omega) l.tail (by omega) (by omega)]
     ·exact ag 3 (by omega) (by omega) l (Nat.le_refl _)
   | 3,_ =>
     rw [parP,parP]
     refine bind_agr (ag 4 (by omega) (by omega)) (par_sfx n 4) (Nat.le_refl _) fun a l' hl'=>?_
     cases ho:oneOf cmpW l' with
     | some i =>
       have:=one_len ho
       simp only
       unfold mapT
       rw [ih 4 (by omega) l'.tail (by omega) (by omega)]
     | none =>
       simp only
       split
       ·rfl
       ·split
        ·rename_i hw
         have:=isW_len hw
         have a1:=a0 (by omega)
         exact bind1_agr fun l2 h2=>bind_agr a1 (par_sfx n 0) (by omega) fun b l3 h3=>by rw [more_agr a1 (par_sfx n 0) _ _ l3 (by omega)]
        ·rfl
   | 4,_ =>
     rw [parP,parP]
     exact bind_agr (ag 5 (by omega) (by omega)) (par_sfx n 5) (Nat.le_refl _) fun t l' h=>chain_agr' (ag 5 (by omega) (by omega)) (par_sfx n 5) _ _ _ t l' h
   | 5,_ =>
     rw [parP,parP]
     exact bind_agr (ag 6 (by omega) (by omega)) (par_sfx n 6) (Nat.le_refl _) fun t l' h=>chain_agr' (ag 6 (by omega) (by omega)) (par_sfx n 6) _ _ _ t l' h
   | 6,_ =>
     rw [parP,parP]
     split
     ·rename_i hw
      have:=isW_len hw
      split
      ·rfl
      ·unfold mapT
       rw [ih 6 (by omega) l.tail (by omega) (by omega)]
     ·exact ag 7 (by omega) (by omega) l (Nat.le_refl _)
   | 7,_ =>
     cases l with
     | nil=>rw [parP,parP]
     | cons t r =>
       have a1:=a0 (by simp)
       simp only [List.length_cons,Nat.add_sub_cancel] at a1
       rw [parP,parP]
       rw [bind_agr a1 (par_sfx n 0) (l:=r) (Nat.le_refl _) (fun t l2 _=>rfl),list_agr a1 (par_sfx n 0) 0 r (Nat.le_refl _),list_agr a1 (par_sfx n 0) 1 r (Nat.le_refl _),case_agr a1 (par_sfx n 0) _ _ r (Nat.le_refl _)]
       cases ho:oneOf aggW (t::r) with
       | none=>rfl
       | some i =>
         simp only
         rw [agg_agr a1 (par_sfx n 0) i r (Nat.le_refl _)]
def Reads (lvl:Nat) (l:List Tk) (t:Tm) (rest:List Tk):Prop:=∃ n0,∀ n,n0≤n→parP n lvl l=.ok (t,rest)
theorem Reads.at {lvl:Nat} {l rest:List Tk} {t:Tm} (h:Reads lvl l t rest) (hv:lvl≤7) {n:Nat} (hn:need lvl l≤n):parP n lvl l=.ok (t,rest):=by
 obtain ⟨n0,h⟩:=h
 rw [par_fuel n (max n0 n) lvl l hv hn (by omega)]
 exact h _ (by omega)
def blankB (c:UInt8):Bool:=c==32||c==10
def twoW:List (List UInt8):=[[60,62],[60,61],[62,61],[124,124]]
def oneB:List UInt8:=[61,60,62,43,45,42,47,40,41,44,46,59]
def lexR (r:List UInt8):Int×Nat×List UInt8×Int:=match r with
 | []=>(5,0,[],0)
 | c::q =>
   if lowr c=true then (if 1+(q.takeWhile nameB).length≤16 then (1,1+(q.takeWhile nameB).length,r.take (1+(q.takeWhile nameB).length),0) else (0,0,[],0))
   else if isDig c=true then (if (resP (r.take (1+(q.takeWhile isDig).length))).2=0∧(resP (r.take (1+(q.takeWhile isDig).length))).1.k=1 then
    (2,1+(q.takeWhile isDig).length,r.take (1+(q.takeWhile isDig).length),(resP (r.take (1+(q.takeWhile isDig).length))).1.n) else (0,0,[],0))
   else if c=39 then (match q.findIdx? (·==39) with
    | some i=>if (resP (r.take (i+2))).2=0 then (3,i+2,(resP (r.take (i+2))).1.t,0) else (0,0,[],0)
    | none=>(0,0,[],0))
   else if q ≠ []∧twoW.contains (r.take 2)=true then (4,2,r.take 2,0)
   else if oneB.contains c=true then (4,1,[c],0)
   else (0,0,[],0)
def skipB (s:List UInt8) (a:Nat):Nat:=a+((s.drop a).takeWhile blankB).length
def scanT (s:List UInt8) (at':Nat):Tk :=
 ⟨(lexR (s.drop (skipB s at'))).1,(s.drop (skipB s at')).take (lexR (s.drop (skipB s at'))).2.1,(lexR (s.drop (skipB s at'))).2.2.1,(lexR (s.drop (skipB s at'))).2.2.2,skipB s at',skipB s at'+(lexR (s.drop (skipB s at'))).2.1⟩
def Tk.ends (t:Tk):Bool:=t.kd==0||t.kd==5
def tokF (s:List UInt8):Nat→Nat→List Tk
 | 0,_=>[]
 | k+1,a=>if (scanT s a).ends=true then [scanT s a] else scanT s a::tokF s k (scanT s a).to
def toks (s:List UInt8):List Tk:=tokF s (s.length+1) 0
theorem lex_len (r:List UInt8):(lexR r).2.1≤r.length∧((lexR r).1=0∨(lexR r).1=5∨1≤(lexR r).2.1):=by
 unfold lexR
 split
 ·exact ⟨Nat.le_refl _,.inr (.inl rfl)⟩
 ·rename_i c q
  have tw:=fun p:UInt8→Bool=>(List.takeWhile_sublist (l:=q) p).length_le
  have t1:=tw nameB
  have t2:=tw isDig
  split
  ·split
   ·exact ⟨by simp only [List.length_cons]; omega,.inr (.inr (by simp only; omega))⟩
   ·exact ⟨Nat.zero_le _,.inl rfl⟩
  ·split
   ·split
    ·exact ⟨by simp only [List.length_cons]; omega,.inr (.inr (by simp only; omega))⟩
    ·exact ⟨Nat.zero_le _,.inl rfl⟩
   ·split
    ·split
     ·rename_i i hi
      have hl:=(List.findIdx?_eq_some_iff_getElem.1 hi).1
      split
      ·exact ⟨by simp only [List.length_cons]; omega,.inr (.inr (by simp only; omega))⟩
      ·exact ⟨Nat.zero_le _,.inl rfl⟩
     ·exact ⟨Nat.zero_le _,.inl rfl⟩
    ·split
     ·rename_i h
      have:q.length ≠ 0:=fun e=>h.1 (List.length_eq_zero_iff.1 e)
      exact ⟨by simp only [List.length_cons]; omega,.inr (.inr (by simp only; omega))⟩
     ·split
      ·exact ⟨by simp only [List.length_cons]; omega,.inr (.inr (by simp only; omega))⟩
      ·exact ⟨Nat.zero_le _,.inl rfl⟩
theorem skip_le {s:List UInt8} {a:Nat} (h:a≤s.length):a≤skipB s a∧skipB s a≤s.length:=by
 unfold skipB
 have:=(List.takeWhile_sublist (l:=s.drop a) blankB).length_le
 rw [List.length_drop] at this
 omega
theorem scan_to {s:List UInt8} {a:Nat} (h:a≤s.length):(scanT s a).fr≤(scanT s a).to∧(scanT s a).to≤s.length∧a≤(scanT s a).fr∧((scanT s a).ends=false→a<(scanT s a).to):=by
 have h1:=skip_le h
 have h2:=lex_len (s.drop (skipB s a))
 rw [List.length_drop] at h2
 unfold Tk.ends scanT
 simp only
 refine ⟨by omega,by omega,by omega,fun he=>?_⟩
 simp only [Bool.or_eq_false_iff,beq_eq_false_iff_ne] at he
 rcases h2.2 with h | h | h
 ·exact absurd h he.1
 ·exact absurd h he.2
 ·omega
def Chain (s:List UInt8):List Tk→Prop
 | []=>False
 | [t]=>t.ends=true
 | t::u::r=>t.ends=false∧u=scanT s t.to∧Chain s (u::r)
theorem tokF_chain {s:List UInt8}:∀ (k a:Nat),a≤s.length→s.length+1≤k+a→Chain s (tokF s k a)∧(tokF s k a).head?=some (scanT s a)
 | 0,a,h,hk=>by omega
 | k+1,a,h,hk=>by
   obtain ⟨h1,h2,h3,h4⟩:=scan_to h
   rw [tokF]
   split
   ·rename_i he
    exact ⟨he,rfl⟩
   ·rename_i he
    have he':(scanT s a).ends=false:=by simpa using he
    have:=h4 he'
    obtain ⟨c1,c2⟩:=tokF_chain k (scanT s a).to h2 (by omega)
    refine ⟨?_,rfl⟩
    cases ht:tokF s k (scanT s a).to with
    | nil=>rw [ht] at c2; cases c2
    | cons u r =>
      rw [ht] at c1 c2
      simp only [List.head?_cons,Option.some.injEq] at c2
      exact ⟨he',c2,c1⟩
theorem toks_chain (s:List UInt8):Chain s (toks s):=(tokF_chain (s.length+1) 0 (Nat.zero_le _) (by omega)).1
theorem chain_sfx2 {s:List UInt8}:∀ {l l':List Tk},Chain s l→l' <:+ l→l' ≠ []→Chain s l'
 | [],l',h,_,_=>h.elim
 | t::r,l',h,hs,hn=>by
   rcases List.suffix_cons_iff.1 hs with e | hs
   ·rw [e]; exact h
   ·cases r with
    | nil=>exact absurd (List.suffix_nil.1 hs) hn
    | cons u r=>exact chain_sfx2 h.2.2 hs hn
def wSelect:List UInt8:=[115,101,108,101,99,116]
def wFrom:List UInt8:=[102,114,111,109]
def wAs:List UInt8:=[97,115]
def wAll:List UInt8:=[97,108,108]
def wJoin:List UInt8:=[106,111,105,110]
def wOn:List UInt8:=[111,110]
def wWhere:List UInt8:=[119,104,101,114,101]
def wGroup:List UInt8:=[103,114,111,117,112]
def wBy:List UInt8:=[98,121]
def wHaving:List UInt8:=[104,97,118,105,110,103]
def setW:List (List UInt8):=[[117,110,105,111,110],[101,120,99,101,112,116],[105,110,116,101,114,115,101,99,116]]
def joiW:List (List UInt8):=[[105,110,110,101,114],[108,101,102,116],[114,105,103,104,116],[102,117,108,108],[115,101,109,105],[97,110,116,105],[99,114,111,115,115]]
abbrev So:=List UInt8×List Sm×List UInt8
section
variable (tm:List Tk→Res Tm) (st:List Tk→Res Sm)
def optW (w:List UInt8) (l:List Tk):Bool×List Tk:=if isW w l=true then (true,l.tail) else (false,l)
def asS (l:List Tk):Res (List UInt8):=if isW wAs l=true then nameS l.tail else .ok ([],l)
def itemS (l:List Tk):Res It:=bind2 (tm l) fun t l1=>bind2 (asS l1) fun n l2=>.ok (⟨t,n⟩,l2)
def itemsS:Nat→List It→List Tk→Res (List It)
 | 0,is,l=>.ok (is,l)
 | k+1,is,l=>if isW wComma l=true then bind2 (itemS tm l.tail) fun i l'=>itemsS k (is++[i]) l' else .ok (is,l)
def sourceS (l:List Tk):Res So :=
 if isW wOpen l=true then bind2 (st l.tail) fun x l1=>bind1 (expS [wShut,wAs] l1) fun l2=>bind2 (nameS l2) fun n l3=>.ok (([],[x],n),l3)
 else bind2 (nameS l) fun t l1=>bind2 (asS l1) fun n l2=>.ok ((t,[],n),l2)
def joinS (kind:Nat) (l:List Tk):Res Jo:=bind1 (expS [wJoin] l) fun l1=>bind2 (sourceS st l1) fun s l2 =>
 if 6<kind then .ok (.mk 0 s.1 s.2.1 s.2.2 [],l2) else bind1 (expS [wOn] l2) fun l3=>bind2 (tm l3) fun t l4=>.ok (.mk (max kind 1:Nat) s.1 s.2.1 s.2.2 [t],l4)
def joinsS:Nat→List Jo→List Tk→Res (List Jo)
 | 0,js,l=>.ok (js,l)
 | k+1,js,l=>match oneOf joiW l with
   | some i=>bind2 (joinS tm st (i+1) l.tail) fun j l'=>joinsS k (js++[j]) l'
   | none=>if isW wJoin l=true then bind2 (joinS tm st 0 l) fun j l'=>joinsS k (js++[j]) l' else .ok (js,l)
def oneS (w:List UInt8) (l:List Tk):Res (List Tm):=if isW w l=true then bind2 (tm l.tail) fun t l'=>.ok ([t],l') else .ok ([],l)
def groupS (l:List Tk):Res (List Tm):=if isW wGroup l=true then bind1 (expS [wBy] l.tail) fun l1=>bind2 (tm l1) fun t l2=>moreS tm l2.length [t] l2 else .ok ([],l)
def starS (l:List Tk):Res (List It):=if isW wStar l=true then .ok ([],l.tail) else bind2 (itemS tm l) fun i l'=>itemsS tm l'.length [i] l'
def selS (l:List Tk):Res Sm:=bind1 (expS [wSelect] l) fun l1 =>
 bind2 (starS tm (optW wDistinct l1).2) fun is l2=>bind1 (expS [wFrom] l2) fun l3=>bind2 (sourceS st l3) fun s l4=>bind2 (joinsS tm st l4.length [] l4) fun js l5 =>
 bind2 (oneS tm wWhere l5) fun w l6=>bind2 (groupS tm l6) fun g l7=>bind2 (oneS tm wHaving l7) fun h l8 =>
 .ok (.mk 1 false (optW wDistinct l1).1 (isW wStar (optW wDistinct l1).2) is s.1 s.2.1 s.2.2 js w g h [],l8)
def coreS (l:List Tk):Res Sm:=if isW wOpen l=true then bind2 (st l.tail) fun x l1=>bind1 (expS [wShut] l1) fun l2=>.ok (x,l2) else selS tm st l
def setS (i:Nat) (a:Bool) (x y:Sm):Sm:=.mk (2+i) a false false [] [] [] [] [] [] [] [] [x,y]
def stmtS:Nat→Sm→List Tk→Res Sm
 | 0,x,l=>.ok (x,l)
 | k+1,x,l=>match oneOf setW l with
   | none=>.ok (x,l)
   | some i=>bind2 (coreS tm st (optW wAll l.tail).2) fun y l'=>stmtS k (setS i (optW wAll l.tail).1 x y) l'
end
def stmtP (N:Nat):Nat→List Tk→Res Sm
 | 0,l=>.error (posT l)
 | n+1,l=>bind2 (coreS (parP N 0) (stmtP N n) l) fun x l'=>stmtS (parP N 0) (stmtP N n) l'.length x l'
def rOpt (w:List UInt8) (s:RS):Bool×RS:=if rIs w s=true then (true,rNext s) else (false,s)
def zeS:Sm:=.mk 0 false false false [] [] [] [] [] [] [] [] []
section
variable (tm:RS→Tm×RS) (st:RS→Sm×RS)
def asR (s:RS):List UInt8×RS:=if rIs wAs s=true then rName (rNext s) else ([],s)
def itemR (s:RS):It×RS:=(⟨(tm s).1,(asR (tm s).2).1⟩,(asR (tm s).2).2)
def itemsR:Nat→List It→RS→List It×RS
 | 0,is,s=>(is,s)
 | k+1,is,s=>if rIs wComma s=true then itemsR k (is++[(itemR tm (rNext s)).1]) (itemR tm (rNext s)).2 else (is,s)
def sourceR (s:RS):So×RS :=
 if rIs wOpen s=true then
  let x:=st (rNext s)
  let n:=rName (rWant wAs (rWant wShut x.2))
  (([],[x.1],n.1),n.2)
 else
  let t:=rName s
  ((t.1,[],(asR t.2).1),(asR t.2).2)
def joinR (kind:Nat) (s:RS):Jo×RS :=
 let x:=sourceR st (rWant wJoin s)
 if kind=0 then (.mk 0 x.1.1 x.1.2.1 x.1.2.2 [],x.2) else
  let t:=tm (rWant wOn x.2)
  (.mk kind x.1.1 x.1.2.1 x.1.2.2 [t.1],t.2)
def joiR:List (List UInt8):=[[99,114,111,115,115],[105,110,110,101,114],[108,101,102,116],[114,105,103,104,116],[102,117,108,108],[115,101,109,105],[97,110,116,105]]
def joinsR:Nat→List Jo→RS→List Jo×RS
 | 0,js,s=>(js,s)
 | k+1,js,s=>if 0≤s.2 then (js,s) else match rOne joiR s with
   | some i=>joinsR k (js++[(joinR tm st i (rNext s)).1]) (joinR tm st i (rNext s)).2
   | none=>if rIs wJoin s=true then joinsR k (js++[(joinR tm st 1 s).1]) (joinR tm st 1 s).2 else (js,s)
def oneR (w:List UInt8) (s:RS):List Tm×RS:=if rIs w s=true then ([(tm (rNext s)).1],(tm (rNext s)).2) else ([],s)
def groupR (s:RS):List Tm×RS:=if rIs wGroup s=true then
    let t:=tm (rWant wBy (rNext s))
    moreR tm t.2.1.length [t.1] t.2
 else ([],s)
def starR (s:RS):List It×RS:=if rIs wStar s=true then ([],rNext s) else itemsR tm (itemR tm s).2.1.length [(itemR tm s).1] (itemR tm s).2
def selR (s:RS):Sm×RS :=
 let d:=rOpt wDistinct (rWant wSelect s)
 let is:=starR tm d.2
 let f:=sourceR st (rWant wFrom is.2)
 let js:=joinsR tm st f.2.1.length [] f.2
 let w:=oneR tm wWhere js.2
 let g:=groupR tm w.2
 let h:=oneR tm wHaving g.2
 (.mk 1 false d.1 (rIs wStar d.2) is.1 f.1.1 f.1.2.1 f.1.2.2 js.1 w.1 g.1 h.1 [],h.2)
def coreR (s:RS):Sm×RS:=if rIs wOpen s=true then ((st (rNext s)).1,rWant wShut (st (rNext s)).2) else selR tm st s
def stmtR:Nat→Sm→RS→Sm×RS
 | 0,x,s=>(x,s)
 | k+1,x,s=>match rOne setW s with
   | none=>(x,s)
   | some i=>stmtR k (setS i (rOpt wAll (rNext s)).1 x (coreR tm st (rOpt wAll (rNext s)).2).1) (coreR tm st (rOpt wAll (rNext s)).2).2
end
def stmtQ (N:Nat):Nat→RS→Sm×RS
 | 0,s=>(zeS,rFail s)
 | n+1,s=>stmtR (parR N 0) (stmtQ N n) (coreR (parR N 0) (stmtQ N n) s).2.1.length (coreR (parR N 0) (stmtQ N n) s).1 (coreR (parR N 0) (stmtQ N n) s).2
end Go.Proofs.Tryz
namespace Go.Proofs
open Go.Shelf
def Tryz.lays144_ren:Go.Shelf.Ren:=⟨fun | 144=>95 | 143=>109 | 219=>123 | 217=>77 | 225=>132 | 224=>133 | 267=>134 | 266=>91 | 314=>139 | n=>n,fun | 9=>9 | 4=>4 | 3=>3 | 5=>5 | 46=>126 | 146=>157 | 51=>148 | n=>n,fun | 1=>1 | n=>n⟩
theorem Tryz.lays144:Go.Proofs.Lays.n144 Tryz.prog Tryz.lays144_ren:={
 mixed:=by kernel_rfl
 f143:=Tryz.func109.trans (congrArg some (by kernel_rfl))
 f144:=Tryz.func95.trans (congrArg some (by kernel_rfl))
 f217:=Tryz.func77.trans (congrArg some (by kernel_rfl))
 f219:=Tryz.func123.trans (congrArg some (by kernel_rfl))
 f224:=Tryz.func133.trans (congrArg some (by kernel_rfl))
 f225:=Tryz.func132.trans (congrArg some (by kernel_rfl))
 f266:=Tryz.func91.trans (congrArg some (by kernel_rfl))
 f267:=Tryz.func134.trans (congrArg some (by kernel_rfl))
 f314:=Tryz.func139.trans (congrArg some (by kernel_rfl))
 t3:=Tryz.underlying3
 a3:=Tryz.isAgg3
 z3:=Tryz.sizeOf3
 v3:=Tryz.zeroValue3
 t4:=Tryz.underlying4
 a4:=Tryz.isAgg4
 z4:=Tryz.sizeOf4
 v4:=Tryz.zeroValue4
 t5:=Tryz.underlying5
 a5:=Tryz.isAgg5
 z5:=Tryz.sizeOf5
 v5:=Tryz.zeroValue5
 t9:=Tryz.underlying9
 a9:=Tryz.isAgg9
 z9:=Tryz.sizeOf9
 v9:=Tryz.zeroValue9
 t46:=Tryz.underlying126
 a46:=Tryz.isAgg126
 z46:=Tryz.sizeOf126
 v46:=Tryz.zeroValue126
 t51:=Tryz.underlying148
 a51:=Tryz.isAgg148
 z51:=Tryz.sizeOf148
 v51:=Tryz.zeroValue148
 t146:=Tryz.underlying157
 a146:=Tryz.isAgg157
 z146:=Tryz.sizeOf157
 v146:=Tryz.zeroValue157
 g1:=by kernel_rfl }
open Go.RowKit Go.Lib in
theorem Tryz.strings_Contains (s sub:ByteArray) (m:Int) (w:World) (hs:s.size<4294967281) (hm:w.cell? ⟨1,0,none⟩=some (.int .i64 m)) :
  Calls Tryz.prog 95 #[.string s,.string sub] w fun e w'=>e=.returned (.bool (Lib.contains s.data.toList sub.data.toList))∧w'=w:=Any.strings_Contains Tryz.lays144 s sub m w hs hm
end Go.Proofs
