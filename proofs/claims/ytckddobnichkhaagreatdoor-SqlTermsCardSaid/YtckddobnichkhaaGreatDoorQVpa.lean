import Derived.Test.YtckddobnichkhaaGreatDoorPre
import Derived.Test.YtckddobnichkhaaGreatDoorVtx
import Derived.Test.YtckddobnichkhaaGreatDoorShn
set_option linter.all false
/- Statements of a row of tokens: what the program reads, and what the reference reads. No program in sight. -/
namespace Go.Proofs.Tryz
open Go.Ab
set_option maxRecDepth 100000
set_option maxHeartbeats 4000000
def wSelect:List UInt8:=[115,101,108,101,99,116]
def wFrom:List UInt8:=[102,114,111,109]
def wAs:List UInt8:=[97,115]
def wAll:List UInt8:=[97,108,108]
def wJoin:List UInt8:=[106,111,105,110]
def wOn:List UInt8:=[111,110]
def wWhere:List UInt8:=[119,104,101,114,101]
def wGroup:List UInt8:=[103,114,111,117,112]
def wBy:List UInt8:=[98,121]
def wHaving:List UInt8:=[104,97,118,105,110,103]
def setW:List (List UInt8):=[[117,110,105,111,110],[101,120,99,101,112,116],[105,110,116,101,114,115,101,99,116]]
/-- inner left right full semi anti cross -/
def joiW:List (List UInt8):=[[105,110,110,101,114],[108,101,102,116],[114,105,103,104,116],[102,117,108,108],[115,101,109,105],[97,110,116,105],[99,114,111,115,115]]
abbrev So:=List UInt8×List Sm×List UInt8
section
variable (tm:List Tk→Res Tm) (st:List Tk→Res Sm)
/-- A word that may stand there. -/
def optW (w:List UInt8) (l:List Tk):Bool×List Tk:=if isW w l=true then (true,l.tail) else (false,l)
def asS (l:List Tk):Res (List UInt8):=if isW wAs l=true then nameS l.tail else .ok ([],l)
def itemS (l:List Tk):Res It:=bind2 (tm l) fun t l1=>bind2 (asS l1) fun n l2=>.ok (⟨t,n⟩,l2)
def itemsS:Nat→List It→List Tk→Res (List It)
 | 0,is,l=>.ok (is,l)
 | k+1,is,l=>if isW wComma l=true then bind2 (itemS tm l.tail) fun i l'=>itemsS k (is++[i]) l' else .ok (is,l)
def sourceS (l:List Tk):Res So :=
 if isW wOpen l=true then bind2 (st l.tail) fun x l1=>bind1 (expS [wShut,wAs] l1) fun l2=>bind2 (nameS l2) fun n l3=>.ok (([],[x],n),l3)
 else bind2 (nameS l) fun t l1=>bind2 (asS l1) fun n l2=>.ok ((t,[],n),l2)
def joinS (kind:Nat) (l:List Tk):Res Jo:=bind1 (expS [wJoin] l) fun l1=>bind2 (sourceS st l1) fun s l2 =>
 if 6<kind then .ok (.mk 0 s.1 s.2.1 s.2.2 [],l2) else bind1 (expS [wOn] l2) fun l3=>bind2 (tm l3) fun t l4=>.ok (.mk (max kind 1:Nat) s.1 s.2.1 s.2.2 [t],l4)
def joinsS:Nat→List Jo→List Tk→Res (List Jo)
 | 0,js,l=>.ok (js,l)
 | k+1,js,l=>match oneOf joiW l with
   | some i=>bind2 (joinS tm st (i+1) l.tail) fun j l'=>joinsS k (js++[j]) l'
   | none=>if isW wJoin l=true then bind2 (joinS tm st 0 l) fun j l'=>joinsS k (js++[j]) l' else .ok (js,l)
def oneS (w:List UInt8) (l:List Tk):Res (List Tm):=if isW w l=true then bind2 (tm l.tail) fun t l'=>.ok ([t],l') else .ok ([],l)
def groupS (l:List Tk):Res (List Tm):=if isW wGroup l=true then bind1 (expS [wBy] l.tail) fun l1=>bind2 (tm l1) fun t l2=>moreS tm l2.length [t] l2 else .ok ([],l)
def starS (l:List Tk):Res (List It):=if isW wStar l=true then .ok ([],l.tail) else bind2 (itemS tm l) fun i l'=>itemsS tm l'.length [i] l'
def selS (l:List Tk):Res Sm:=bind1 (expS [wSelect] l) fun l1 =>
 bind2 (starS tm (optW wDistinct l1).2) fun is l2=>bind1 (expS [wFrom] l2) fun l3=>bind2 (sourceS st l3) fun s l4=>bind2 (joinsS tm st l4.length [] l4) fun js l5 =>
 bind2 (oneS tm wWhere l5) fun w l6=>bind2 (groupS tm l6) fun g l7=>bind2 (oneS tm wHaving l7) fun h l8 =>
 .ok (.mk 1 false (optW wDistinct l1).1 (isW wStar (optW wDistinct l1).2) is s.1 s.2.1 s.2.2 js w g h [],l8)
def coreS (l:List Tk):Res Sm:=if isW wOpen l=true then bind2 (st l.tail) fun x l1=>bind1 (expS [wShut] l1) fun l2=>.ok (x,l2) else selS tm st l
def setS (i:Nat) (a:Bool) (x y:Sm):Sm:=.mk (2+i) a false false [] [] [] [] [] [] [] [] [x,y]
def stmtS:Nat→Sm→List Tk→Res Sm
 | 0,x,l=>.ok (x,l)
 | k+1,x,l=>match oneOf setW l with
   | none=>.ok (x,l)
   | some i=>bind2 (coreS tm st (optW wAll l.tail).2) fun y l'=>stmtS k (setS i (optW wAll l.tail).1 x y) l'
end
def stmtP (N:Nat):Nat→List Tk→Res Sm
 | 0,l=>.error (posT l)
 | n+1,l=>bind2 (coreS (parP N 0) (stmtP N n) l) fun x l'=>stmtS (parP N 0) (stmtP N n) l'.length x l'
/-! The reference. -/
def rOpt (w:List UInt8) (s:RS):Bool×RS:=if rIs w s=true then (true,rNext s) else (false,s)
def zeS:Sm:=.mk 0 false false false [] [] [] [] [] [] [] [] []
section
variable (tm:RS→Tm×RS) (st:RS→Sm×RS)
def asR (s:RS):List UInt8×RS:=if rIs wAs s=true then rName (rNext s) else ([],s)
def itemR (s:RS):It×RS:=(⟨(tm s).1,(asR (tm s).2).1⟩,(asR (tm s).2).2)
def itemsR:Nat→List It→RS→List It×RS
 | 0,is,s=>(is,s)
 | k+1,is,s=>if rIs wComma s=true then itemsR k (is++[(itemR tm (rNext s)).1]) (itemR tm (rNext s)).2 else (is,s)
def sourceR (s:RS):So×RS :=
 if rIs wOpen s=true then
  let x:=st (rNext s)
  let n:=rName (rWant wAs (rWant wShut x.2))
  (([],[x.1],n.1),n.2)
 else
  let t:=rName s
  ((t.1,[],(asR t.2).1),(asR t.2).2)
def joinR (kind:Nat) (s:RS):Jo×RS :=
 let x:=sourceR st (rWant wJoin s)
 if kind=0 then (.mk 0 x.1.1 x.1.2.1 x.1.2.2 [],x.2) else
  let t:=tm (rWant wOn x.2)
  (.mk kind x.1.1 x.1.2.1 x.1.2.2 [t.1],t.2)
/-- cross inner left right full semi anti -/
def joiR:List (List UInt8):=[[99,114,111,115,115],[105,110,110,101,114],[108,101,102,116],[114,105,103,104,116],[102,117,108,108],[115,101,109,105],[97,110,116,105]]
def joinsR:Nat→List Jo→RS→List Jo×RS
 | 0,js,s=>(js,s)
 | k+1,js,s=>if 0≤s.2 then (js,s) else match rOne joiR s with
   | some i=>joinsR k (js++[(joinR tm st i (rNext s)).1]) (joinR tm st i (rNext s)).2
   | none=>if rIs wJoin s=true then joinsR k (js++[(joinR tm st 1 s).1]) (joinR tm st 1 s).2 else (js,s)
def oneR (w:List UInt8) (s:RS):List Tm×RS:=if rIs w s=true then ([(tm (rNext s)).1],(tm (rNext s)).2) else ([],s)
def groupR (s:RS):List Tm×RS:=if rIs wGroup s=true then
    let t:=tm (rWant wBy (rNext s))
    moreR tm t.2.1.length [t.1] t.2
 else ([],s)
def starR (s:RS):List It×RS:=if rIs wStar s=true then ([],rNext s) else itemsR tm (itemR tm s).2.1.length [(itemR tm s).1] (itemR tm s).2
def selR (s:RS):Sm×RS :=
 let d:=rOpt wDistinct (rWant wSelect s)
 let is:=starR tm d.2
 let f:=sourceR st (rWant wFrom is.2)
 let js:=joinsR tm st f.2.1.length [] f.2
 let w:=oneR tm wWhere js.2
 let g:=groupR tm w.2
 let h:=oneR tm wHaving g.2
 (.mk 1 false d.1 (rIs wStar d.2) is.1 f.1.1 f.1.2.1 f.1.2.2 js.1 w.1 g.1 h.1 [],h.2)
def coreR (s:RS):Sm×RS:=if rIs wOpen s=true then ((st (rNext s)).1,rWant wShut (st (rNext s)).2) else selR tm st s
def stmtR:Nat→Sm→RS→Sm×RS
 | 0,x,s=>(x,s)
 | k+1,x,s=>match rOne setW s with
   | none=>(x,s)
   | some i=>stmtR k (setS i (rOpt wAll (rNext s)).1 x (coreR tm st (rOpt wAll (rNext s)).2).1) (coreR tm st (rOpt wAll (rNext s)).2).2
end
def stmtQ (N:Nat):Nat→RS→Sm×RS
 | 0,s=>(zeS,rFail s)
 | n+1,s=>stmtR (parR N 0) (stmtQ N n) (coreR (parR N 0) (stmtQ N n) s).2.1.length (coreR (parR N 0) (stmtQ N n) s).1 (coreR (parR N 0) (stmtQ N n) s).2
end Go.Proofs.Tryz
/- Values of texts: the program's Parse. -/
namespace Go.Proofs.Tryz
open Go.Ab Go.RowKit
set_option maxRecDepth 100000
set_option maxHeartbeats 1000000
@[simp] theorem isIface_error:isIface Tryz.prog 84=true:=by kernel_rfl
theorem err_cell {w:World} {g:Gh} {B:List Blk} {bl:Nat→Blk} (m:Mem (ctxOf Ev w g B) bl w g) {i:Nat} (hi:i=2∨i=3):∃ v t x,w.cell? ⟨i,0,none⟩=some v∧v=.iface t x:=by
 have hc:=m.glob i [.any isErr] (by rcases hi with rfl | rfl <;> simp [ctxOf])
 simp only [RepCells,RepD] at hc
 obtain ⟨⟨v,hv,⟨t,x,rfl⟩,_⟩,_⟩:=hc
 exact ⟨_,t,x,m.con _ _ _ hv,rfl⟩
/-- What parsing a number says. -/
def numE (s:List UInt8):Int×Go.Ab.D:=match Lib.parseIntB 64 s with
 | .ok v=>(v,.val .nilIface)
 | .«syntax»=>(0,.ifn)
 | .range=>(Lib.intSat 64 s,.ifn)
theorem f_parseInt (s:List UInt8) (hs:s.length≤1000000):Cf Ev 58 [.d (.str s),.d (.int .i64 10),.d (.int .i64 64)] [] (.tup [.d (.int .i64 (numE s).1),.d (numE s).2]) []:=by
 refine cf_of_calls (by kernel_rfl) fun w g vs hr m=>?_
 simp only [RepAs,RepA,RepD] at hr
 obtain ⟨u,us,rfl,rfl,u2,us2,rfl,rfl,u3,us3,rfl,rfl,rfl⟩:=hr
 unfold numE
 cases hp:Lib.parseIntB 64 s with
 | ok v =>
   refine (Tryz.strconv_ParseInt_10_at64_ok ⟨s.toArray⟩ (by simp [ByteArray.size_mk']; omega) v hp w).mono ?_
   rintro e w' ⟨rfl,hw⟩
   refine ⟨_,rfl,?_,?_⟩
   ·simp only [RepA,RepAs,RepD]
    exact ⟨[.int .i64 v,.nilIface],rfl,.int .i64 v,[.nilIface],rfl,rfl,.nilIface,[],rfl,⟨rfl,rfl⟩,rfl⟩
   ·rcases hw with rfl | ⟨t,rfl⟩
    ·exact Below.refl _ _
    ·exact Lib.bytesWorld_below _ _ _
 | «syntax» =>
   obtain ⟨ev,t,x,h1,h2⟩:=err_cell m (i:=2) (.inl rfl)
   refine (Tryz.strconv_ParseInt_10_at64_syntax ⟨s.toArray⟩ (by simp [ByteArray.size_mk']; omega) hp ev w h1 (.inr ⟨t,x,h2⟩)).mono ?_
   rintro e w' ⟨N,rfl,_,_,hb⟩
   refine ⟨_,rfl,?_,hb⟩
   simp only [RepA,RepAs,RepD]
   exact ⟨[_,_],rfl,_,[_],rfl,rfl,_,[],rfl,⟨_,_,rfl⟩,rfl⟩
 | range =>
   obtain ⟨ev,t,x,h1,h2⟩:=err_cell m (i:=3) (.inr rfl)
   refine (Tryz.strconv_ParseInt_10_at64_range ⟨s.toArray⟩ (by simp [ByteArray.size_mk']; omega) hp ev w h1 (.inr ⟨t,x,h2⟩)).mono ?_
   rintro e w' ⟨N,rfl,_,_,hb⟩
   refine ⟨_,rfl,?_,hb⟩
   simp only [RepA,RepAs,RepD]
   exact ⟨[_,_],rfl,_,[_],rfl,rfl,_,[],rfl,⟨_,_,rfl⟩,rfl⟩
theorem v_bool (n:Int) (h:n=0∨n=1):Cf Ev 55 [.d (.int .i64 n)] [] (V.mk 2 n []).a []:=by
 refine cf_intro mixv (fn:=Tryz.f55) (by kernel_rfl) rfl (by kernel_rfl) (by decide) (by simp) ?_
 rcases h with rfl | rfl <;> simp [V.a] <;> ((repeat' (first | contradiction | exact .of (by kernel_rfl) | refine And.intro ?_ ?_ | intro _ | (refine agrd_cases (fun h=>?_) (fun h=>?_) <;> (have h':=h; (try simp at h'); first | done | simp [h,h'] | simp)))))
theorem r_bool (n:Int) (h:n=0∨n=1):Cf Ev 50 [.d (.int .i64 n)] [] (V.mk 2 n []).a []:=by
 refine cf_intro mixv (fn:=Tryz.f50) (by kernel_rfl) rfl (by kernel_rfl) (by decide) (by simp) ?_
 rcases h with rfl | rfl <;> simp [V.a] <;> ((repeat' (first | contradiction | exact .of (by kernel_rfl) | refine And.intro ?_ ?_ | intro _ | (refine agrd_cases (fun h=>?_) (fun h=>?_) <;> (have h':=h; (try simp at h'); first | done | simp [h,h'] | simp)))))
theorem take_head (s:List UInt8) (h:1≤s.length):(s.take 1==[39])=decide (s.head?=some 39):=by
 cases s with
 | nil=>simp at h
 | cons c s=>simp; rw [Bool.eq_iff_iff]; simp
theorem f_prefix (s:List UInt8) (hs:s.length≤1000000):Cf Ev 56 [.d (.str s),.d (.str [39])] [] (.d (.bool (decide (s.head?=some 39)))) []:=by
 have h0:Cf Ev 69 [.d (.str s),.d (.str [39])] [] (.d (.bool (decide (s.head?=some 39)))) []:=by
  refine cf_intro mixv (fn:=Tryz.f69) (by kernel_rfl) rfl (by kernel_rfl) (by decide) (by simp) ?_
  by_cases h:1≤s.length
  ·have h':(1:Int)≤s.length:=by omega
   have ht:=take_head s h
   simp [h,h',ht]
   (repeat' (first | contradiction | exact .of (by kernel_rfl) | refine And.intro ?_ ?_ | intro _ | (refine agrd_cases (fun h=>?_) (fun h=>?_) <;> (have h':=h; (try simp at h'); first | done | simp [h,h',h,h',ht] | simp [h,h',ht]))))
  ·have:s=[]:=List.eq_nil_of_length_eq_zero (by omega)
   subst this
   simp
   (repeat' (first | contradiction | exact .of (by kernel_rfl) | refine And.intro ?_ ?_ | intro _ | (refine agrd_cases (fun h=>?_) (fun h=>?_) <;> (have h':=h; (try simp at h'); first | done | simp [h,h'] | simp))))
 refine cf_intro mixv (fn:=Tryz.f56) (by kernel_rfl) rfl (by kernel_rfl) (by decide) (by simp) ?_
 simp
 (repeat refine ⟨.of (by kernel_rfl),?_⟩)
 refine acallT_plain h0 (by simp) ?_
 simp
 (repeat' (first | contradiction | exact .of (by kernel_rfl) | refine And.intro ?_ ?_ | intro _ | (refine agrd_cases (fun h=>?_) (fun h=>?_) <;> (have h':=h; (try simp at h'); first | done | simp [h,h'] | simp))))
theorem drop_last (s:List UInt8) (h:1≤s.length):(s.drop (s.length - 1)==[39])=decide (s.getLast?=some 39):=by
 obtain ⟨c,t,rfl⟩:∃ c t,s=t++[c]:=by
  have hne:s ≠ []:=fun e=>by rw [e] at h; simp at h
  exact ⟨s.getLast hne,s.dropLast,(List.dropLast_concat_getLast hne).symm⟩
 rw [List.getLast?_append]
 simp
 rw [Bool.eq_iff_iff]; simp
theorem f_suffix (s:List UInt8) (hs:s.length≤1000000):Cf Ev 57 [.d (.str s),.d (.str [39])] [] (.d (.bool (decide (s.getLast?=some 39)))) []:=by
 have h0:Cf Ev 70 [.d (.str s),.d (.str [39])] [] (.d (.bool (decide (s.getLast?=some 39)))) []:=by
  refine cf_intro mixv (fn:=Tryz.f70) (by kernel_rfl) rfl (by kernel_rfl) (by decide) (by simp) ?_
  by_cases h:1≤s.length
  ·have h':(1:Int)≤s.length:=by omega
   have hw:IntKind.i64.wrap ((s.length:Int) - 1)=(s.length:Int) - 1:=wrap_in (by omega) (by omega)
   have h2:(0:Int)≤(s.length:Int) - 1:=by omega
   have h3:(s.length:Int) - 1≤s.length:=by omega
   have ht:=drop_last s h
   have hn:((s.length:Int) - 1).toNat=s.length - 1:=by omega
   simp [h,h',hw,h2,h3,hn,ht]
   (repeat' (first | contradiction | exact .of (by kernel_rfl) | refine And.intro ?_ ?_ | intro _ | (refine agrd_cases (fun h=>?_) (fun h=>?_) <;> (have h':=h; (try simp at h'); first | done | simp [h,h',h,h',hw,h2,h3,hn,ht] | simp [h,h',hw,h2,h3,hn,ht]))))
  ·have:s=[]:=List.eq_nil_of_length_eq_zero (by omega)
   subst this
   simp
   (repeat' (first | contradiction | exact .of (by kernel_rfl) | refine And.intro ?_ ?_ | intro _ | (refine agrd_cases (fun h=>?_) (fun h=>?_) <;> (have h':=h; (try simp at h'); first | done | simp [h,h'] | simp))))
 refine cf_intro mixv (fn:=Tryz.f57) (by kernel_rfl) rfl (by kernel_rfl) (by decide) (by simp) ?_
 simp
 (repeat refine ⟨.of (by kernel_rfl),?_⟩)
 refine acallT_plain h0 (by simp) ?_
 simp
 (repeat' (first | contradiction | exact .of (by kernel_rfl) | refine And.intro ?_ ?_ | intro _ | (refine agrd_cases (fun h=>?_) (fun h=>?_) <;> (have h':=h; (try simp at h'); first | done | simp [h,h'] | simp))))
end Go.Proofs.Tryz
