import Derived.Test.YthpmjipkofbeiaaGreatDoorUScn
set_option linter.all false
namespace Go.Proofs.Tryz
open Go.Ab
set_option maxRecDepth 100000
set_option maxHeartbeats 4000000
def iN (fD:Nat→D):Prop:=∀ (T l:List Tk),l <:+ T→l ≠ []→T.length≤10000→CfX sC En 62 [.ptr 1000000 0 0] [dE T l] (.d (fD (lN l))) (gN 1)
def aKA (fD:Nat→D) (T:List Tk) (r:Except Nat (List Tk)):Out:=match r with
 | .error p=>.pan (fD p)
 | .ok m=>.ret (.tup []) [dE T m]
theorem aFj {fD:Nat→D} (hF:iN fD) {T l:List Tk} (hs:l <:+ T) (ho:okE l) (hT:T.length≤10000) (ws:List (List UInt8)) (hw:ws.length≤1000) :
  CfO En 115 [.ptr 1000000 0 0,.d (.sl (ws.map fun w=>[.str w]))] [dE T l] (aKA fD T (cQ ws l)):=by
 cases hr:cQ ws l with
 | ok m =>
   unfold aKA
   refine eM fQ (fn:=Tryz.f115) (by kernel_rfl) rfl (by kernel_rfl) (by decide) _ (by simp) (by simp [dE]) ?_
   refine gs ?_
   refine iR fQ (by decide) (fun i:Nat×List Tk=>{ s:=eP [(0,.ptr 1000000 0 0),(1,.d (.sl (ws.map fun w=>[.str w]))),(6,.d (.sl (ws.map fun w=>[.str w]))),(7,.d (.int .i64 ws.length)),(8,.d (.int .i64 i.1))],b:=eG [(1000000,1000000,dE T i.2)] }) (fun i=>i.1≤ws.length∧i.2 <:+ T∧okE i.2∧cQ (ws.drop i.1) i.2=.ok m) (fun i=>ws.length - i.1) (0,l) ⟨by simp,hs,ho,by simpa using hr⟩
    (sZ _ [] (by simp [aD,Blk.live,dE]) (by simp [aD])) ?_
   rintro ⟨i,l1⟩ ⟨hi,hs1,ho1,he⟩
   simp only at hi hs1 ho1 he
   by_cases hlt:i<ws.length
   ·have h1:=JD hs1 ho1.ne hT ws[i]
    have h2:=hF T l1 hs1 ho1.ne hT
    have hwr:=wI (n:=(i:Int)+1)
    rw [List.drop_eq_getElem_cons hlt,cQ] at he
    obtain ⟨e,hee⟩:∃ e,e=ws[i]:=⟨_,rfl⟩
    have hge:∀ h,ws[i]'h=e:=fun _=>hee.symm
    rw [hge] at h1 he
    cases hb:isW e l1 with
    | true =>
      rw [hb] at h1 he
      simp only [if_true] at h1 he
      simp [hlt,hge]
      refine gw ?_
      refine aC (bD [1000000] h1 (by simp [dE]) (by simp) (by simp [dE]) (by simp [dE]) (by simp) ?_)
      refine gs ?_
      refine ⟨(i+1,l1.tail),⟨by simp only; omega,(bU l1).trans hs1,ho1.tl hb,he⟩,?_,by simp only; omega⟩
      exact sZ _ [] (by simp [aD,Blk.live,dE]) (by simp [aD,hwr])
    | false =>
      rw [hb] at h1 he
      simp only [Bool.false_eq_true,if_false] at h1 he
      cases he
   ·obtain rfl:i=ws.length:=by omega
    rw [List.drop_length,cQ] at he
    cases he
    simp<;>(repeat' first|contradiction|exact .ok|apply And.intro|intro _|(apply gc<;>simp+contextual))
    all_goals first | (rw [kept_b1]; simp [dE]; done) | (simp [dE]; done) | skip
 | error p =>
   unfold aKA
   refine eM fQ (fn:=Tryz.f115) (by kernel_rfl) rfl (by kernel_rfl) (by decide) _ (by simp) (by simp [dE]) ?_
   refine gs ?_
   refine iR fQ (by decide) (fun i:Nat×List Tk=>{ s:=eP [(0,.ptr 1000000 0 0),(1,.d (.sl (ws.map fun w=>[.str w]))),(6,.d (.sl (ws.map fun w=>[.str w]))),(7,.d (.int .i64 ws.length)),(8,.d (.int .i64 i.1))],b:=eG [(1000000,1000000,dE T i.2)] }) (fun i=>i.1≤ws.length∧i.2 <:+ T∧okE i.2∧cQ (ws.drop i.1) i.2=.error p) (fun i=>ws.length - i.1) (0,l) ⟨by simp,hs,ho,by simpa using hr⟩
    (sZ _ [] (by simp [aD,Blk.live,dE]) (by simp [aD])) ?_
   rintro ⟨i,l1⟩ ⟨hi,hs1,ho1,he⟩
   simp only at hi hs1 ho1 he
   by_cases hlt:i<ws.length
   ·have h1:=JD hs1 ho1.ne hT ws[i]
    have h2:=hF T l1 hs1 ho1.ne hT
    have hwr:=wI (n:=(i:Int)+1)
    rw [List.drop_eq_getElem_cons hlt,cQ] at he
    obtain ⟨e,hee⟩:∃ e,e=ws[i]:=⟨_,rfl⟩
    have hge:∀ h,ws[i]'h=e:=fun _=>hee.symm
    rw [hge] at h1 he
    cases hb:isW e l1 with
    | true =>
      rw [hb] at h1 he
      simp only [if_true] at h1 he
      simp [hlt,hge]
      refine gw ?_
      refine aC (bD [1000000] h1 (by simp [dE]) (by simp) (by simp [dE]) (by simp [dE]) (by simp) ?_)
      refine gs ?_
      refine ⟨(i+1,l1.tail),⟨by simp only; omega,(bU l1).trans hs1,ho1.tl hb,he⟩,?_,by simp only; omega⟩
      exact sZ _ [] (by simp [aD,Blk.live,dE]) (by simp [aD,hwr])
    | false =>
      rw [hb] at h1 he
      simp only [Bool.false_eq_true,if_false] at h1 he
      cases he
      simp [hlt,hge]
      refine gw ?_
      refine aC (bD [1000000] h1 (by simp [dE]) (by simp) (by simp [dE]) (by simp [dE]) (by simp) ?_)
      refine gs ?_
      refine aM [1000000] h2 (by simp) (by simp [dE]) (by simp [dE]) (by simp) (by kernel_rfl)
   ·obtain rfl:i=ws.length:=by omega
    rw [List.drop_length,cQ] at he
    cases he
def IJ (ws:List (List UInt8)) (l:List Tk):Int:=uH (fun w=>isW w l) ws 0
theorem MX {α:Type} (p:α→Bool):∀ (l:List α) (k:Nat),uH p l k=match l.findIdx? p with
  | some i=>((k+i:Nat):Int)
  | none=>-1
 | [],k=>rfl
 | x::l,k=>by
   rw [uH,List.findIdx?_cons]
   split
   ·simp
   ·rw [MX p l (k+1)]
    cases l.findIdx? p with
    | none=>rfl
    | some i=>simp only [Option.map_some]; congr 1; omega
theorem PT (ws:List (List UInt8)) (l:List Tk):IJ ws l=match bN ws l with
  | some i=>(i:Int)
  | none=>-1:=by
 unfold IJ bN
 rw [MX]
 cases List.findIdx? (fun w=>isW w l) ws with
 | none=>rfl
 | some i=>simp
theorem aMQ {T l:List Tk} (hs:l <:+ T) (hn:l ≠ []) (hT:T.length≤10000) (ws:List (List UInt8)) (hw:ws.length≤1000) :
  Cf En 117 [.d (.sl (ws.map fun w=>[.str w])),.bnd 78 [.ptr 1000000 0 0]] [dE T l] (.d (.int .i64 (IJ ws l))) [dE T (if 0≤IJ ws l then l.tail else l)]:=by
 unfold IJ
 refine cI fQ (fn:=Tryz.f117) rfl ?_
 refine gs ?_
 refine aL fQ (fun i:Nat=>{ s:=eP [(0,.d (.sl (ws.map fun w=>[.str w]))),(1,.bnd 78 [.ptr 1000000 0 0]),(7,.d (.int .i64 ws.length)),(8,.d (.int .i64 i))],b:=eG [(1000000,1000000,dE T l)] }) (fun i=>i≤ws.length∧uH (fun w=>isW w l) ws 0=uH (fun w=>isW w l) (ws.drop i) i) (fun i=>ws.length - i) 0 ⟨by simp,by simp⟩
  (sZ _ [] (by simp [aD,Blk.live,dE]) (by simp [aD])) ?_
 rintro i ⟨hi,hfx⟩
 by_cases hlt:i<ws.length
 ·have hd:=MP (p:=fun w=>isW w l) (k:=i) hlt
  have h1:=JD hs hn hT ws[i]
  have hwr:=wI (n:=(i:Int)+1)
  obtain ⟨e,he⟩:∃ e,e=ws[i]:=⟨_,rfl⟩
  have hge:∀ h,ws[i]'h=e:=fun _=>he.symm
  rw [hge] at h1 hd
  rw [hd] at hfx
  cases hb:isW e l with
  | true =>
    rw [hb] at h1 hfx
    simp only [if_true] at h1 hfx
    rw [hfx,if_pos (by omega)]
    simp [hlt,hge]
    refine gw ?_
    refine bD [1000000] h1 (by simp [dE]) (by simp) (by simp [dE]) (by simp [dE]) (by simp) ?_
    simp<;>(repeat' first|contradiction|exact .ok|apply And.intro|intro _|(apply gc<;>simp+contextual))
    all_goals first | (rw [kept_b1]; simp [dE]; done) | (simp [dE]; done) | skip
  | false =>
    rw [hb] at h1 hfx
    simp only [Bool.false_eq_true,if_false] at h1 hfx
    simp [hlt,hge]
    refine gw ?_
    refine bD [1000000] h1 (by simp [dE]) (by simp) (by simp [dE]) (by simp [dE]) (by simp) ?_
    refine gs ?_
    refine ⟨i+1,⟨by omega,hfx⟩,?_,by simp; omega⟩
    exact sZ _ [] (by simp [aD,Blk.live,dE]) (by simp [aD,hwr])
 ·obtain rfl:i=ws.length:=by omega
  rw [List.drop_length,uH] at hfx
  rw [hfx,if_neg (by omega)]
  simp<;>(repeat' first|contradiction|exact .ok|apply And.intro|intro _|(apply gc<;>simp+contextual))
  all_goals first | (rw [kept_b1]; simp [dE]; done) | (simp [dE]; done) | skip
theorem aBh {T l:List Tk} (hs:l <:+ T) (hn:l ≠ []) (hT:T.length≤10000) (ws:List (List UInt8)) (hw:ws.length≤1000) :
  Cf En 77 [.ptr 1000000 0 0,.d (.sl (ws.map fun w=>[.str w]))] [dE T l] (.d (.int .i64 (IJ ws l))) [dE T (if 0≤IJ ws l then l.tail else l)]:=by
 have h:=aMQ hs hn hT ws hw
 generalize (if 0≤IJ ws l then l.tail else l)=m at *
 generalize IJ ws l=z at *
 unfold dE at *
 generalize T.length - l.length=i at *
 generalize T.length - m.length=j at *
 refine cI fQ (fn:=Tryz.f77) rfl ?_
 refine gs ?_
 refine kZ h ?_
 simp
 all_goals exact gz
def rdD (T l:List Tk):D:=.int .i64 ((T.length - l.length:Nat):Int)
theorem aKW (T l:List Tk):dE T l=.var [.d (.sl (T.map rS)),.d (rdD T l)]:=rfl
def eZ (fD:Nat→D) (T:List Tk) (r:cY Tm):Out:=match r with
 | .error p=>.pan (fD p)
 | .ok (t,m)=>.ret t.a [dE T m]
def aIq (fD:Nat→D) (T:List Tk) (r:cY (List Tm)):Out:=match r with
 | .error p=>.pan (fD p)
 | .ok (ks,m)=>.ret (.d (.sl (ks.map Tm.c))) [dE T m]
def aFG (fD:Nat→D) (T:List Tk) (r:cY (List UInt8)):Out:=match r with
 | .error p=>.pan (fD p)
 | .ok (s,m)=>.ret (.d (.str s)) [dE T m]
structure At (T l:List Tk):Prop where
 sfx:l <:+ T
 ok:okE l
theorem At.to {T l m:List Tk} (h:At T l) (hs:m <:+ l) (ho:okE m):At T m:=⟨hs.trans h.sfx,ho⟩
theorem At.tl {T l:List Tk} (h:At T l) {w:List UInt8} (hw:isW w l=true):At T l.tail:=h.to (bU l) (h.ok.tl hw)
theorem At.tl1 {T l:List Tk} (h:At T l) {ws:List (List UInt8)} {i:Nat} (ho:bN ws l=some i):At T l.tail:=h.to (bU l) (h.ok.tl1 ho)
theorem At.ne {T l:List Tk} (h:At T l):l ≠ []:=h.ok.ne
structure Rule (E:dA) (fD:Nat→D) (T:List Tk) (L:Nat) (f:FuncId) (p:List Tk→cY Tm):Prop where
 run:∀ l,At T l→l.length≤L→CfO E f [.ptr 1000000 0 0] [dE T l] (eZ fD T (p l))
 sfx:∀ l,SfxOk (p l) l
 ok:∀ l t m,okE l→p l=.ok (t,m)→okE m
section
variable {E:dA} {fD:Nat→D} {T:List Tk} {L:Nat} {f:FuncId} {p:List Tk→cY Tm}
theorem Rule.step (h:Rule E fD T L f p) {l:List Tk} (ha:At T l) (hl:l.length≤L) :
  (∃ e,p l=.error e∧CfX sC E f [.ptr 1000000 0 0] [dE T l] (.d (fD e)) (gN 1)) ∨
  (∃ t m,p l=.ok (t,m)∧At T m∧m.length≤l.length∧Cf E f [.ptr 1000000 0 0] [dE T l] t.a [dE T m]):=by
 have h1:=h.run l ha hl
 cases hp:p l with
 | error e=>rw [hp] at h1; exact .inl ⟨e,rfl,h1⟩
 | ok x =>
   obtain ⟨t,m⟩:=x
   rw [hp] at h1
   exact .inr ⟨t,m,rfl,ha.to (h.sfx l t m hp) (h.ok l t m ha.ok hp),(h.sfx l t m hp).length_le,h1⟩
end
theorem aKX {α:Type} {r:cY α} {f:Tk→Tk} {g:Nat→Nat} {r':cY α} (h:Sim f g r r') {t:α} {m:List Tk} (hr:r=.ok (t,m)):okE m:=by
 subst hr
 exact h.1
theorem aBn (n lvl:Nat) {l m:List Tk} {t:Tm} (h:okE l) (hp:bA n lvl l=.ok (t,m)):okE m :=
 aKX (f:=id) (g:=id) (eQ (f:=id) (g:=id) (fun _=>⟨rfl,rfl,rfl,rfl,rfl⟩) n lvl l h) hp
theorem aBo:∀ (ws:List (List UInt8)) {l m:List Tk},okE l→cQ ws l=.ok m→okE m
 | [],l,m,h,he=>by cases he; exact h
 | w::ws,l,m,h,he=>by
   rw [cQ] at he
   split at he
   ·rename_i hw; exact aBo ws (h.tl hw) he
   ·cases he
theorem CfX.more {en:Value→Ending} {E E':dA} (hP:E'.P=E.P) (hG:∀ g cs,E.G g=some cs→E'.G g=some cs) {f:FuncId} {xs:List AV} {B:List Blk} {y:AV} {B':List Blk} (h:CfX en E f xs B y B'):CfX en E' f xs B y B':=by
 refine ⟨by rw [hP]; exact h.1,fun w g vs hr m=>?_⟩
 rw [hP]
 have m0:Mem (cK E w g B) (bL B) w g :=
  ⟨m.blks,m.con,fun k cs e=>m.glob k cs (hG k cs e),m.apart,m.own,m.size,m.frame,m.mext,m.mold,m.lkeep,m.os,m.tape,m.output,fun k cs e=>m.know k cs (hG k cs e)⟩
 refine (h.2 w g vs hr m0).mono ?_
 rintro e w' ⟨v,h',rfl,ry,m'⟩
 exact ⟨v,h',rfl,ry,⟨m'.blks,m'.con,fun k cs e=>gO m'.mext cs k 0 (m.glob k cs e),m'.apart,m'.own,m'.size,m'.frame,m'.mext,m'.mold,m'.lkeep,m'.os,m'.tape,m'.output,m.know⟩⟩
theorem CfO.more {E E':dA} (hP:E'.P=E.P) (hG:∀ g cs,E.G g=some cs→E'.G g=some cs) {f:FuncId} {xs:List AV} {B:List Blk} {o:Out} (h:CfO E f xs B o):CfO E' f xs B o:=by
 cases o with
 | ret y B'=>exact Cf.more hP hG h
 | pan v=>exact CfX.more hP hG h
@[simp] theorem aFt (bl:Nat→Blk) (a b:List D):qH bl (a.map AV.d++b.map AV.d)=some (a++b,[]):=by rw [← List.map_append,ZQ]
@[simp] theorem aPf (t:Tm) (l:List D):List.take 6 (t.c++l)=t.c:=by rw [List.take_append_of_le_length (by rw [Tm.clen]; omega)]; exact List.take_of_length_le (by rw [Tm.clen]; omega)
@[simp] theorem aMP (t:Tm) (l:List D):List.drop 6 (t.c++l)=l:=by rw [List.drop_append_of_le_length (by rw [Tm.clen]; omega),List.drop_of_length_le (by rw [Tm.clen]; omega)]; rfl
@[simp] theorem aOr (t:Tm):List.drop 6 (t.c.map AV.d)=[]:=List.drop_of_length_le (by simp [Tm.clen])
attribute [simp] Tm.clen Tm.ctake Tm.ctake' aKW Tm.a
theorem gL (o:Int) (ks:List Tm):Cf En 100 [.d (.int .i64 o),.d (.sl (ks.map Tm.c))] [] (cD o ks).a []:=by
 refine cI fQ (fn:=Tryz.f100) rfl ?_
 refine gs ?_
 all_goals simp [cD,Tm.c,aS]
@[simp] def zTm:List AV:=[.d (.int .i64 0),.d (.int .i64 0),.d (.int .i64 0),.d (.str []),.d (.str []),.nils]
theorem FI {fD:Nat→D} {T:List Tk} {L:Nat} {f:FuncId} {p:List Tk→cY Tm} (hp:Rule Es fD T L f p) (hT:T.length≤10000) (sg:List (List UInt8)) (ops:List Int) (hg:sg.length≤100) (hog:ops.length=sg.length) {l:List Tk} (ha:At T l) (hl:l.length≤L) :
  CfO Es 63 [.ptr 1000000 0 0,.bnd f [.ptr 1000000 0 0],.d (.sl (sg.map fun w=>[.str w])),.d (.sl (ops.map fun o=>[.int .i64 o]))] [dE T l] (eZ fD T (aR (p l) fun t l'=>cW p sg ops l'.length t l')):=by
 generalize ho:eZ fD T (aR (p l) fun t l'=>cW p sg ops l'.length t l')=o
 refine eM bI (fn:=Tryz.f63) (by kernel_rfl) rfl (by kernel_rfl) (by decide) o (by simp) (by simp) ?_
 refine gs ?_
 rcases hp.step ha hl with ⟨e,he,hc⟩ | ⟨t,m,he,hm,hlm,hc⟩
 ·rw [he] at ho
  subst ho
  exact pZ hc
 rw [he,bJ] at ho
 refine hZ hc ?_
 refine gs ?_
 refine hZ (iQ (aBh hm.sfx hm.ne hT sg (by omega))) ?_
 refine gs ?_
 refine iR bI (by decide) (fun y:Tm×List Tk=>{ s:=eP [(0,.ptr 1000000 0 0),(1,.bnd f [.ptr 1000000 0 0]),(2,.d (.sl (sg.map fun w=>[.str w]))),(3,.d (.sl (ops.map fun o=>[.int .i64 o]))),(8,.ptr 8 0 0),(9,.ptr 9 0 0),(10,.d (.int .i64 (IJ sg y.2)))],b:=eG [(1000000,1000000,dE T (if 0≤IJ sg y.2 then y.2.tail else y.2)),(8,8,.var zTm),(9,9,.var (y.1.c.map AV.d))] })
  (fun y=>At T y.2∧y.2.length≤L∧∃ k,y.2.length≤k∧eZ fD T (cW p sg ops k y.1 y.2)=o) (fun y=>y.2.length) (t,m) ⟨hm,by simp only; omega,_,Nat.le_refl _,ho⟩
  (sZ _ [(8,8,_),(9,9,_)] (by simp [aD,Blk.live,zTm]) (by simp [aD])) ?_
 rintro ⟨t1,l1⟩ ⟨h1,hL,k,hk,ho1⟩
 simp only at h1 hL hk ho1
 have hone:=PT sg l1
 cases hi:bN sg l1 with
 | none =>
   rw [hi] at hone
   simp only at hone
   have hr:cW p sg ops k t1 l1=.ok (t1,l1):=by cases k with | zero=>rfl | succ k=>rw [cW,hi]
   rw [hr] at ho1
   subst ho1
   rw [hone]
   simp [eZ]
   all_goals exact gz
 | some i =>
   rw [hi] at hone
   simp only at hone
   have hlen:=lI hi
   obtain ⟨k,rfl⟩:∃ q,k=q+1:=⟨k - 1,by omega⟩
   rw [cW,hi] at ho1
   simp only at ho1
   have hil:i<sg.length:=by
    unfold bN at hi
    exact (List.findIdx?_eq_some_iff_getElem.1 hi).1
   have h2:=h1.tl1 hi
   have hop:ops[i]?=some ops[i]:=gE (by omega)
   rw [hone,if_pos (by omega)]
   obtain ⟨op,hope⟩:∃ op,op=ops[i]:=⟨_,rfl⟩
   have hge:∀ h,ops[i]'h=op:=fun _=>hope.symm
   have hio:i<ops.length:=by omega
   rw [hop,← hope] at ho1
   simp only [Option.getD_some] at ho1
   obtain ⟨l2,hl2⟩:∃ l2,l2=l1.tail:=⟨_,rfl⟩
   rw [← hl2] at h2 ho1 hlen ⊢
   simp [hge,hio]
   refine gw ?_
   rcases hp.step h2 (by omega) with ⟨e,he',hc'⟩ | ⟨t',m',he',hm',hlm',hc'⟩
   ·rw [he'] at ho1
    subst ho1
    exact pZ hc'
   rw [he'] at ho1
   simp only at ho1
   refine hZ hc' ?_
   refine gs ?_
   refine aC (aA (iQ (gL op [t1,t'])) (by simp) ?_)
   refine gs ?_
   refine hZ (iQ (aBh hm'.sfx hm'.ne hT sg (by omega))) ?_
   refine gs ?_
   refine ⟨(cD op [t1,t'],m'),⟨hm',by simp only; omega,k,by simp only; omega,ho1⟩,?_,by simp only; omega⟩
   exact sZ _ [(8,8,_),(9,9,_)] (by simp [aD,Blk.live]) (by simp [aD])
def ixB (s:List UInt8) (c:UInt8):Int:=match s.findIdx? (·==c) with
 | some i=>(i:Int)
 | none=>-1
theorem aFw:∀ (s:List UInt8) (c:UInt8),Lib.indexByte s c=ixB s c
 | [],c=>rfl
 | b::l,c=>by
   have ih:=aFw l c
   unfold ixB at *
   rw [Lib.indexByte,List.findIdx?_cons]
   cases hb:b==c with
   | true=>simp
   | false =>
     simp only [Bool.false_eq_true,if_false]
     cases hl:l.findIdx? (·==c) with
     | none=>rw [hl] at ih; simp only at ih; rw [ih]; simp
     | some i =>
       rw [hl] at ih
       simp only at ih
       rw [ih,if_neg (by simp; try omega)]
       simp
theorem EE (s:List UInt8) (c:UInt8):Cf En 141 [.d (.str s),.d (.int .u8 c.toNat)] [] (.d (.int .i64 (ixB s c))) []:=by
 refine nZ (by kernel_rfl) fun w g vs hr m=>?_
 obtain ⟨_,_,rfl,r1,_,_,rfl,r2,r3⟩:=hr
 simp only [bB] at r3
 subst r3
 simp only [aG,aU] at r1 r2
 subst r1 r2
 refine (Tryz.strings_IndexByte _ _ w).mono ?_
 rintro e w' ⟨rfl,rfl⟩
 refine ⟨_,rfl,?_,.refl _ _⟩
 simp only [aG,aU,aFw]
 congr 2
 try simp
theorem aIc (ws:List (List UInt8)) (w:List UInt8) (hw:ws.length≤1000) :
  Cf En 177 [.d (.sl (ws.map fun w=>[.str w])),.d (.str w)] [] (.d (.int .i64 (uH (fun x=>x==w) ws 0))) []:=by
 refine cI fQ (fn:=Tryz.f177) rfl ?_
 refine gs ?_
 refine aL fQ (fun i:Nat=>{ s:=eP [(0,.d (.sl (ws.map fun w=>[.str w]))),(1,.d (.str w)),(7,.d (.int .i64 ws.length)),(8,.d (.int .i64 i))],b:=eG [] }) (fun i=>i≤ws.length∧uH (fun x=>x==w) ws 0=uH (fun x=>x==w) (ws.drop i) i) (fun i=>ws.length - i) 0 ⟨by simp,by simp⟩ (aJ _ [] .nil (by simp)) ?_
 rintro i ⟨hi,hfx⟩
 by_cases hlt:i<ws.length
 ·have hd:=MP (p:=fun x=>x==w) (k:=i) hlt
  have hwr:=wI (n:=(i:Int)+1)
  obtain ⟨e,he⟩:∃ e,e=ws[i]:=⟨_,rfl⟩
  have hge:∀ h,ws[i]'h=e:=fun _=>he.symm
  rw [hge] at hd
  rw [hd] at hfx
  have hcm:(w==e)=(e==w):=by rw [Bool.eq_iff_iff,beq_iff_eq,beq_iff_eq]; exact eq_comm
  cases hb:e==w with
  | true =>
    rw [hb] at hfx hcm
    simp only [if_true] at hfx
    rw [hfx]
    have hcm':w=e:=by simpa using hcm
    simp [hlt,hge,hcm'] <;> exact gz
  | false =>
    rw [hb] at hfx hcm
    simp only [Bool.false_eq_true,if_false] at hfx
    have hcm':¬ w=e:=by simpa using hcm
    simp [hlt,hge,hcm']
    refine gw ?_
    refine ⟨i+1,⟨by omega,hfx⟩,?_,by simp; omega⟩
    exact aJ _ [] .nil (by simp [hwr])
 ·obtain rfl:i=ws.length:=by omega
  rw [List.drop_length,uH] at hfx
  rw [hfx]
  exact gq
theorem UU (w:List UInt8):∀ (ws:List (List UInt8)) (k:Nat),decide (0≤uH (fun x=>x==w) ws k)=ws.contains w
 | [],k=>by simp [uH]
 | x::ws,k=>by
   rw [uH,List.contains_cons]
   cases hb:x==w with
   | true =>
     have:(w==x)=true:=by simp at hb; simp [hb]
     rw [this]
     simp
   | false =>
     have:(w==x)=false:=by simp at hb; simp; exact fun e=>hb e.symm
     rw [this,Bool.false_or,← UU w ws (k+1)]
     simp
theorem ZT (ws:List (List UInt8)) (w:List UInt8) (hw:ws.length≤1000) :
  Cf En 142 [.d (.sl (ws.map fun w=>[.str w])),.d (.str w)] [] (.d (.bool (ws.contains w))) []:=by
 have h:=aIc ws w hw
 rw [← UU w ws 0]
 generalize uH (fun x=>x==w) ws 0=z at *
 refine cI fQ (fn:=Tryz.f142) rfl ?_
 refine gs ?_
 refine aP h ?_
 exact gq
theorem aBg {p:UInt8→Bool} {c:UInt8} {q:List UInt8} (h:p c=true):((c::q).takeWhile p).length=1+(q.takeWhile p).length:=by
 rw [List.takeWhile_cons,h,if_pos rfl,List.length_cons]
 omega
theorem aFu (p:UInt8→Bool) (q:List UInt8):(q.takeWhile p).length≤q.length:=(List.takeWhile_sublist (l:=q) p).length_le
theorem aIb (c:UInt8):∀ s:List UInt8,decide (0≤ixB s c)=s.contains c:=by
 intro s
 unfold ixB
 cases h:s.findIdx? (·==c) with
 | none =>
   rw [List.findIdx?_eq_none_iff] at h
   have:s.contains c=false:=by
    cases hc:s.contains c with
    | false=>rfl
    | true =>
      have:=List.contains_iff_mem.1 hc
      have:=h c this
      simp at this
   rw [this]
   simp
 | some i =>
   obtain ⟨h1,h2,_⟩:=List.findIdx?_eq_some_iff_getElem.1 h
   have:s.contains c=true:=by
    refine List.contains_iff_mem.2 ?_
    rw [← (beq_iff_eq.1 h2)]
    exact List.getElem_mem h1
   rw [this]
   simp
def nxA (r:List UInt8):AV:=.tup [.d (.int .i64 (cP r).1),.d (.int .i64 (cP r).2.1)]
theorem aKM (c:UInt8) (q:List UInt8) (hs:(c::q).length≤5000):Cf Es 99 [.d (.str (c::q))] [] (nxA (c::q)) []:=by
 have hql:q.length+1≤5000:=hs
 have hc1:=iQ (VY c)
 have hc2:=iQ (QI c)
 unfold nxA
 refine cI bI (fn:=Tryz.f99) rfl ?_
 cases h1:jO c with
 | true =>
   rw [h1] at hc1
   have hn:dR c=true:=by unfold dR; rw [h1]; rfl
   have hr:=iQ (aGc 138 dR aIH (c::q) (by omega))
   have ht:=aFu dR q
   rw [aBg hn] at hr
   have hl:cP (c::q)=if 1+(q.takeWhile dR).length≤16 then (1,1+(q.takeWhile dR).length,(c::q).take (1+(q.takeWhile dR).length),0) else (0,0,[],0):=by
    rw [cP,if_pos h1]
   rw [hl]
   generalize 1+(q.takeWhile dR).length=n at *
   refine gs ?_
   refine aP hc1 ?_
   refine gs ?_
   refine aP hr ?_
   by_cases h16:n≤16
   ·have h16':(n:Int)≤16:=by omega
    simp [h16,h16'] <;> exact gz
   ·have h16':¬ (n:Int)≤16:=by omega
    simp [h16,h16'] <;> exact gz
 | false =>
   rw [h1] at hc1
   refine gs ?_
   refine aP hc1 ?_
   refine gs ?_
   cases h2:cU c with
   | true =>
     rw [h2] at hc2
     have hr:=iQ (aGc 139 cU QI (c::q) (by omega))
     have ht:=aFu cU q
     rw [aBg h2] at hr
     have hl:cP (c::q)=if (dD ((c::q).take (1+(q.takeWhile cU).length))).2=0∧(dD ((c::q).take (1+(q.takeWhile cU).length))).1.k=1 then
       (2,1+(q.takeWhile cU).length,(c::q).take (1+(q.takeWhile cU).length),(dD ((c::q).take (1+(q.takeWhile cU).length))).1.n) else (0,0,[],0):=by
      rw [cP,if_neg (by simp [h1]),if_pos h2]
     rw [hl]
     refine aP hc2 ?_
     refine gs ?_
     refine aP hr ?_
     have hn1:1+(q.takeWhile cU).length≤q.length+1:=by omega
     generalize 1+(q.takeWhile cU).length=n at *
     have hpar:=upw (FY ((c::q).take n) (by simp; omega))
     obtain ⟨cq,hcq⟩:∃ cq,cq=c::q:=⟨_,rfl⟩
     have hcl:cq.length=q.length+1:=by rw [hcq]; rfl
     rw [← hcq] at hpar ⊢
     generalize dD (cq.take n)=res at *
     obtain ⟨⟨rk,rn,rt⟩,re⟩:=res
     simp [V.a] at hpar
     have hnl:(n:Int)≤(q.length:Int)+1:=by omega
     simp [hcl,hnl]
     refine gw ?_
     refine aP hpar ?_
     by_cases e0:re=0
     ·by_cases k1:rk=1
      ·simp [e0,k1] <;> exact gz
      ·simp [e0,k1] <;> exact gz
     ·simp [e0] <;> exact gz
   | false =>
     rw [h2] at hc2
     refine aP hc2 ?_
     by_cases h39:c=39
     ·subst h39
      have hix:=iQ (EE q 39)
      have hq1:(1:Int)≤(q.length:Int)+1:=by omega
      cases hf:q.findIdx? (·==39) with
      | none =>
        have hl:cP (39::q)=(0,0,[],0):=by rw [cP,if_neg (by simp [h1]),if_neg (by simp [h2]),if_pos rfl,hf]
        rw [hl]
        have hz:ixB q 39=-1:=by unfold ixB; rw [hf]
        rw [hz] at hix
        simp [hq1]
        refine gw ?_
        refine aP hix ?_
        exact gq
      | some i =>
        have hi:=(List.findIdx?_eq_some_iff_getElem.1 hf).1
        have hl:cP (39::q)=if (dD ((39::q).take (i+2))).2=0 then (3,i+2,(dD ((39::q).take (i+2))).1.t,0) else (0,0,[],0):=by
         rw [cP,if_neg (by simp [h1]),if_neg (by simp [h2]),if_pos rfl,hf]
        have hz:ixB q 39=i:=by unfold ixB; rw [hf]
        rw [hz] at hix
        have hwr0:=wI (n:=(i:Int)+2)
        obtain ⟨n,hn⟩:∃ n,n=i+2:=⟨_,rfl⟩
        obtain ⟨cq,hcq⟩:∃ cq,cq=(39:UInt8)::q:=⟨_,rfl⟩
        have hcl:cq.length=q.length+1:=by rw [hcq]; rfl
        have hpar:=upw (FY (cq.take n) (by simp; omega))
        rw [← hn,← hcq] at hl
        rw [show cP (39::q)=_ from (congrArg cP hcq.symm).trans hl]
        have hn2:(i:Int)+2=n:=by omega
        have hwr:IntKind.i64.wrap ((i:Int)+2)=n:=by rw [hwr0,hn2]
        have hgt:(1:Int)<n:=by omega
        generalize dD (cq.take n)=res at *
        obtain ⟨⟨rk,rn,rt⟩,re⟩:=res
        simp [V.a] at hpar
        have hnl:(n:Int)≤(q.length:Int)+1:=by omega
        have hnl2:n≤q.length+1:=by omega
        simp [hq1]
        refine gw ?_
        refine aP hix ?_
        rw [← hcq]
        simp [hwr,hgt,hcl,hnl]
        refine gw ?_
        refine aP hpar ?_
        by_cases e0:re=0
        ·simp [e0] <;> exact gz
        ·simp [e0] <;> exact gz
     ·have hc39:((c.toNat:Int)==39)=false:=by
       rw [beq_eq_false_iff_ne]
       intro h
       exact h39 (UInt8.toNat_inj.1 (by simpa using (by omega:c.toNat=39)))
      have hix:=iQ (EE oneB c)
      have hxc:=aIb c oneB
      have hl:cP (c::q)=if q ≠ []∧twoW.contains ((c::q).take 2)=true then (4,2,(c::q).take 2,0) else if oneB.contains c=true then (4,1,[c],0) else (0,0,[],0):=by
       rw [cP,if_neg (by simp [h1]),if_neg (by simp [h2]),if_neg h39]
      rw [hl]
      have hend:∀ b:Bool,oneB.contains c=b→(0≤ixB oneB c↔b=true):=fun b hb=>by
       rw [← hb,← hxc]; simp
      generalize oneB.contains c=ob at *
      generalize ixB oneB c=z at *
      have hzb:=hend ob rfl
      cases q with
      | nil =>
        rw [if_neg (by simp)]
        simp [hc39]
        refine gw ?_
        refine aA hix (by simp [oneB]) ?_
        cases ob with
        | true =>
          have hz0:0≤z:=hzb.2 rfl
          simp [hz0] <;> exact gz
        | false =>
          have hz0:¬ 0≤z:=fun h=>by cases hzb.1 h
          simp [hz0] <;> exact gz
      | cons d q =>
        have hct:=iQ (ZT twoW [c,d] (by decide))
        have htk:(c::d::q).take 2=[c,d]:=rfl
        rw [htk]
        have hq2:(2:Int)≤(q.length:Int)+1+1:=by omega
        have hq3:(1:Int)<(q.length:Int)+1+1:=by omega
        cases hb:twoW.contains [c,d] with
        | true =>
          rw [hb] at hct
          rw [if_pos ⟨by simp,rfl⟩]
          simp [hc39,hq2,hq3]
          refine gw ?_
          refine aA hct (by simp [twoW]) ?_
          exact gq
        | false =>
          rw [hb] at hct
          rw [if_neg (by simp)]
          simp [hc39,hq2,hq3]
          refine gw ?_
          refine aA hct (by simp [twoW]) ?_
          refine gs ?_
          refine aA hix (by simp [oneB]) ?_
          cases ob with
          | true =>
            have hz0:0≤z:=hzb.2 rfl
            simp [hz0] <;> exact gz
          | false =>
            have hz0:¬ 0≤z:=fun h=>by cases hzb.1 h
            simp [hz0] <;> exact gz
def flD (p:Nat):D:=.val (.iface 97 (.agg #[.int .i64 p]))
theorem aFk:iN flD:=by
 intro T l hs hn hT
 have hp:=tR hs hn hT
 refine ⟨by kernel_rfl,fun w h vs hr m=>?_⟩
 obtain ⟨v0,_,rfl,r0,r1⟩:=hr
 simp only [bB] at r1
 subst r1
 have hc:=hp.2 w h [v0] ⟨v0,[],rfl,r0,rfl⟩ m
 refine calls_of_wp (fn:=Tryz.f62) (by kernel_rfl) rfl (wp_region ?_)
 have he:=wH hp.1 (⟨[v0]⟩:Array Value) w
 refine .inl ?_
 refine .inl ?_
 unfold Oper.wp
 have hrun:∀ (a:Act) (o:Oper),o.op=.call { callee:=.value (.func 61),args:=#[.tmp 2],argTypes:=#[67] }→a.eval (.tmp 2)=v0→(execOp a.eval o).run En.P w=.ok (.enter 61 ⟨[v0]⟩) w:=by
  intro a o ho hv
  rw [← he]
  obtain ⟨dst,op,type,pos,after,guard⟩:=o
  simp only at ho
  subst ho
  have hf:a.eval (.func 61)=.func (.func 61) #[] #[]:=rfl
  simp only [execOp,resolve,hf,Deferred.ofValue,Sem.run_bind,Sem.run_pure,Result.andThen_ok,invoke]
  congr 2
  apply Array.ext'
  simp [hv]
 rw [hrun _ _ rfl rfl]
 simp only [Oper.upon]
 refine hc.mono ?_
 rintro e w' ⟨v,h',rfl,hv,m'⟩
 simp [tkA,rS,aG,bB,aU] at hv
 subst hv
 simp only
 have hb:∀ (a:Act) (o:Oper) (z:Int),o.op=.build 97 #[(0,.tmp 4)]→a.eval (.tmp 4)=.int .i64 z→(execOp a.eval o).run En.P w'=.ok (.value (.agg #[.int .i64 z])) w':=by
  intro a o z ho hv
  obtain ⟨dst,op,type,pos,after,guard⟩:=o
  simp only at ho
  subst ho
  simp only [execOp]
  have e:Array.map (fun x:Nat×Operand=>(x.fst,a.eval x.snd)) #[(0,Operand.tmp 4)]=#[(0,.int .i64 z)]:=by simp [hv]
  rw [e]
  first | done | rfl | (show _=_; kernel_rfl)
 have hm:∀ (a:Act) (o:Oper) (z:Int),o.op=.makeInterface 97 (.tmp 5)→a.eval (.tmp 5)=.agg #[.int .i64 z]→(execOp a.eval o).run En.P w'=.ok (.value (.iface 97 (.agg #[.int .i64 z]))) w':=by
  intro a o z ho hv
  obtain ⟨dst,op,type,pos,after,guard⟩:=o
  simp only at ho
  subst ho
  simp only [execOp,hv]
  first | done | rfl | (show _=_; kernel_rfl)
 have hq:∀ (a:Act) (o:Oper) (z:Int),o.op=.panic (.tmp 6)→a.eval (.tmp 6)=.iface 97 (.agg #[.int .i64 z])→(execOp a.eval o).run En.P w'=.halt (.panic (.iface 97 (.agg #[.int .i64 z]))) w':=by
  intro a o z ho hv
  obtain ⟨dst,op,type,pos,after,guard⟩:=o
  simp only at ho
  subst ho
  simp only [execOp,hv]
  first | done | rfl | (show _=_; kernel_rfl)
 have hpos:lN l=(eU l).fr:=by
  cases l with
  | nil=>exact absurd rfl hn
  | cons t r=>rfl
 have hhi:∀ n q,aB≤n→(cK En w h [dE T l]).h0.L n=some q→n<aB+1:=fun n q hn hq=>by
  rcases Nat.lt_or_ge n (aB+1) with h1 | h1
  ·exact h1
  ·have hb:=m.blks n
   have e:bL [dE T l] n=.free:=by
    unfold bL
    rw [if_pos hn,List.getElem?_eq_none (by rw [List.length_singleton]; omega)]
    rfl
   rw [e] at hb
   simp only [lL] at hb
   have hq':h.L n=some q:=hq
   rw [hb] at hq'
   cases hq'
 have hin:∀ j,j<1→∃ q,(cK En w h [dE T l]).h0.L (aB+j)=some q:=fun j hj=>by
  obtain rfl:j=0:=by omega
  have hb:=m.blks (aB+0)
  have e:bL [dE T l] (aB+0)=dE T l:=by simp [bL]
  rw [e] at hb
  unfold dE at hb
  simp only [lL] at hb
  obtain ⟨q,_,_,h1,_⟩:=hb
  exact ⟨q,h1⟩
 refine .inl ?_
 refine .inl ?_
 unfold Oper.wp
 rw [hb _ _ _ rfl rfl]
 simp only [Oper.upon]
 refine .inl ?_
 unfold Oper.wp
 rw [hm _ _ _ rfl rfl]
 simp only [Oper.upon]
 refine .inl ?_
 unfold Oper.wp
 rw [hq _ _ _ rfl rfl]
 simp only [Oper.upon]
 refine ⟨rfl,_,_,rfl,?_,HD hhi hin m'⟩
 rw [hpos]
 exact ⟨rfl,rfl⟩
end Go.Proofs.Tryz
