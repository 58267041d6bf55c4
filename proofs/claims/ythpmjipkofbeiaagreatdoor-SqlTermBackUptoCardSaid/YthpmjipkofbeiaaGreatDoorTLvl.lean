import Derived.Test.YthpmjipkofbeiaaGreatDoorTFus
import Derived.Test.YthpmjipkofbeiaaGreatDoorWrv
import Derived.Test.YthpmjipkofbeiaaGreatDoorAbB
import Derived.Test.YthpmjipkofbeiaaGreatDoorTShy
import Derived.Lib.Join
import Derived.Test.YthpmjipkofbeiaaGreatDoorTFlq
import Derived.Test.YthpmjipkofbeiaaGreatDoorTFdx
import Derived.Test.YthpmjipkofbeiaaGreatDoorNamS
set_option linter.all false
namespace Go.Proofs.Tryz
open Go.Ab Go.RowKit Go.Sort
set_option maxRecDepth 100000
set_option maxHeartbeats 4000000
theorem f_join (l:List (List UInt8)) (sep:List UInt8) (hN:l.length≤140737488355328) (hlen:(Lib.join l sep).length≤140737488355328) :
  Cf Es 89 [.d (.sl (l.map fun s=>[.str s])),.d (.str sep)] [] (.d (.str (Lib.join l sep))) []:=by
 refine cf_of_calls (by kernel_rfl) fun w g vs hr m=>?_
 simp only [RepAs,RepA,RepD] at hr
 obtain ⟨u,us,rfl,⟨a,cap,rfl,hcap,hr⟩,u2,us2,rfl,rfl,rfl⟩:=hr
 simp only [List.length_map] at hcap hr ⊢
 by_cases h0:l=[]
 ·subst h0
  refine (Tryz.strings_Join_none a cap ⟨sep.toArray⟩ w).mono ?_
  rintro e w' ⟨rfl,rfl⟩
  exact ⟨_,rfl,by simp [RepA,RepD,Lib.join],Below.refl _ _⟩
 ·rcases hr with hr | ⟨b,o,sz,rfl,hels⟩
  ·simp at hr; exact absurd hr h0
  ·have hget:=RepEls_iff.1 hels
   have hsz:sz=1:=by
    have hpos:0<l.length:=List.length_pos_iff.2 h0
    have:=(hget 0 [.str l[0]] (by rw [List.getElem?_map,List.getElem?_eq_getElem hpos]; rfl)).1
    simpa using this.symm
   subst hsz
   have hc:∀ (j:Nat) x,(l.map fun s=>(⟨s.toArray⟩:ByteArray))[j]?=some x→w.cell? ⟨b,o+j,none⟩=some (.string x):=fun j x hx=>by
    rw [List.getElem?_map,Option.map_eq_some_iff] at hx
    obtain ⟨s,hs,rfl⟩:=hx
    obtain ⟨_,hr⟩:=hget j [.str s] (by rw [List.getElem?_map,hs]; rfl)
    obtain ⟨v,hv,hrv⟩:=hr.1
    have:=m.con _ _ _ hv
    simp only [RepD] at hrv
    subst hrv
    rw [← this]
    congr 2
    omega
   have hbk:b<w.heap.size:=by
    have hpos:0<l.length:=List.length_pos_iff.2 h0
    have:=hc 0 ⟨l[0].toArray⟩ (by rw [List.getElem?_map,List.getElem?_eq_getElem hpos]; rfl)
    unfold World.cell? at this
    rcases Nat.lt_or_ge b w.heap.size with c | c
    ·exact c
    ·rw [show w.heap[b]?=none from Array.getElem?_eq_none c] at this
     cases this
   have hmm:(l.map fun s=>(⟨s.toArray⟩:ByteArray)).map (fun x=>x.data.toList)=l:=by
    rw [List.map_map]
    exact List.map_id' l
   have:=Tryz.strings_Join b o cap (l.map fun s=>(⟨s.toArray⟩:ByteArray)) ⟨sep.toArray⟩ w hc hbk (by simpa using hN) (by simpa using hcap) (by rw [hmm]; exact hlen)
   rw [hmm] at this
   simp only [List.length_map] at this
   refine this.mono ?_
   rintro e w' ⟨rfl,hb⟩
   exact ⟨_,rfl,by simp only [RepA,RepD],hb⟩
theorem joinB_lib:∀ l:List (List UInt8),joinB l=Lib.join l [44,32]
 | []=>by simp [joinB,Lib.join,List.intercalate]
 | [a]=>by simp [joinB,Lib.join,List.intercalate]
 | a::b::r=>by
   rw [show joinB (a::b::r)=a++44::32::joinB (b::r) from rfl,joinB_lib (b::r)]
   simp [Lib.join,List.intercalate]
theorem f_joinB (l:List (List UInt8)) (hN:l.length≤140737488355328) (hlen:(joinB l).length≤140737488355328) :
  Cf Es 89 [.d (.sl (l.map fun s=>[.str s])),.d (.str [44,32])] [] (.d (.str (joinB l))) []:=by
 rw [joinB_lib] at hlen ⊢
 exact f_join l [44,32] hN hlen
end Go.Proofs.Tryz
namespace Go.Proofs.Tryz
open Go.Ab
set_option maxRecDepth 100000
set_option maxHeartbeats 4000000
def rdD (T l:List Tk):D:=.int .i64 ((T.length - l.length:Nat):Int)
theorem rdB_eq (T l:List Tk):rdB T l=.var [.d (.sl (T.map tokC)),.d (rdD T l)]:=rfl
def outS (fD:Nat→D) (T:List Tk) (r:Res Tm):Out:=match r with
 | .error p=>.pan (fD p)
 | .ok (t,m)=>.ret t.a [rdB T m]
def outL (fD:Nat→D) (T:List Tk) (r:Res (List Tm)):Out:=match r with
 | .error p=>.pan (fD p)
 | .ok (ks,m)=>.ret (.d (.sl (ks.map Tm.c))) [rdB T m]
def outN (fD:Nat→D) (T:List Tk) (r:Res (List UInt8)):Out:=match r with
 | .error p=>.pan (fD p)
 | .ok (s,m)=>.ret (.d (.str s)) [rdB T m]
structure At (T l:List Tk):Prop where
 sfx:l <:+ T
 ok:okE l
theorem At.to {T l m:List Tk} (h:At T l) (hs:m <:+ l) (ho:okE m):At T m:=⟨hs.trans h.sfx,ho⟩
theorem At.tl {T l:List Tk} (h:At T l) {w:List UInt8} (hw:isW w l=true):At T l.tail:=h.to (tail_sfx l) (h.ok.tl hw)
theorem At.tl1 {T l:List Tk} (h:At T l) {ws:List (List UInt8)} {i:Nat} (ho:oneOf ws l=some i):At T l.tail:=h.to (tail_sfx l) (h.ok.tl1 ho)
theorem At.ne {T l:List Tk} (h:At T l):l ≠ []:=h.ok.ne
structure Rule (E:Env) (fD:Nat→D) (T:List Tk) (L:Nat) (f:FuncId) (p:List Tk→Res Tm):Prop where
 run:∀ l,At T l→l.length≤L→CfO E f [.ptr 1000000 0 0] [rdB T l] (outS fD T (p l))
 sfx:∀ l,SfxOk (p l) l
 ok:∀ l t m,okE l→p l=.ok (t,m)→okE m
section
variable {E:Env} {fD:Nat→D} {T:List Tk} {L:Nat} {f:FuncId} {p:List Tk→Res Tm}
theorem Rule.step (h:Rule E fD T L f p) {l:List Tk} (ha:At T l) (hl:l.length≤L) :
  (∃ e,p l=.error e∧CfX panE E f [.ptr 1000000 0 0] [rdB T l] (.d (fD e)) (deadB 1)) ∨
  (∃ t m,p l=.ok (t,m)∧At T m∧m.length≤l.length∧Cf E f [.ptr 1000000 0 0] [rdB T l] t.a [rdB T m]):=by
 have h1:=h.run l ha hl
 cases hp:p l with
 | error e=>rw [hp] at h1; exact .inl ⟨e,rfl,h1⟩
 | ok x =>
   obtain ⟨t,m⟩:=x
   rw [hp] at h1
   exact .inr ⟨t,m,rfl,ha.to (h.sfx l t m hp) (h.ok l t m ha.ok hp),(h.sfx l t m hp).length_le,h1⟩
end
theorem sim_id {α:Type} {r:Res α} {f:Tk→Tk} {g:Nat→Nat} {r':Res α} (h:Sim f g r r') {t:α} {m:List Tk} (hr:r=.ok (t,m)):okE m:=by
 subst hr
 exact h.1
theorem par_okE (n lvl:Nat) {l m:List Tk} {t:Tm} (h:okE l) (hp:parP n lvl l=.ok (t,m)):okE m :=
 sim_id (f:=id) (g:=id) (par_sim (f:=id) (g:=id) (fun _=>⟨rfl,rfl,rfl,rfl,rfl⟩) n lvl l h) hp
theorem exp_okE:∀ (ws:List (List UInt8)) {l m:List Tk},okE l→expS ws l=.ok m→okE m
 | [],l,m,h,he=>by cases he; exact h
 | w::ws,l,m,h,he=>by
   rw [expS] at he
   split at he
   ·rename_i hw; exact exp_okE ws (h.tl hw) he
   ·cases he
theorem CfX.more {en:Value→Ending} {E E':Env} (hP:E'.P=E.P) (hG:∀ g cs,E.G g=some cs→E'.G g=some cs) {f:FuncId} {xs:List AV} {B:List Blk} {y:AV} {B':List Blk} (h:CfX en E f xs B y B'):CfX en E' f xs B y B':=by
 refine ⟨by rw [hP]; exact h.1,fun w g vs hr m=>?_⟩
 rw [hP]
 have m0:Mem (ctxOf E w g B) (blkOf B) w g :=
  ⟨m.blks,m.con,fun k cs e=>m.glob k cs (hG k cs e),m.apart,m.own,m.size,m.frame,m.mext,m.mold,m.lkeep,m.os,m.tape,m.output,fun k cs e=>m.know k cs (hG k cs e)⟩
 refine (h.2 w g vs hr m0).mono ?_
 rintro e w' ⟨v,h',rfl,ry,m'⟩
 exact ⟨v,h',rfl,ry,⟨m'.blks,m'.con,fun k cs e=>RepCells_mono m'.mext cs k 0 (m.glob k cs e),m'.apart,m'.own,m'.size,m'.frame,m'.mext,m'.mold,m'.lkeep,m'.os,m'.tape,m'.output,m.know⟩⟩
theorem CfO.more {E E':Env} (hP:E'.P=E.P) (hG:∀ g cs,E.G g=some cs→E'.G g=some cs) {f:FuncId} {xs:List AV} {B:List Blk} {o:Out} (h:CfO E f xs B o):CfO E' f xs B o:=by
 cases o with
 | ret y B'=>exact Cf.more hP hG h
 | pan v=>exact CfX.more hP hG h
@[simp] theorem toDs_two (bl:Nat→Blk) (a b:List D):toDs bl (a.map AV.d++b.map AV.d)=some (a++b,[]):=by rw [← List.map_append,toDs_d]
@[simp] theorem take6 (t:Tm) (l:List D):List.take 6 (t.c++l)=t.c:=by rw [List.take_append_of_le_length (by rw [Tm.clen]; omega)]; exact List.take_of_length_le (by rw [Tm.clen]; omega)
@[simp] theorem drop6 (t:Tm) (l:List D):List.drop 6 (t.c++l)=l:=by rw [List.drop_append_of_le_length (by rw [Tm.clen]; omega),List.drop_of_length_le (by rw [Tm.clen]; omega)]; rfl
@[simp] theorem drop6m (t:Tm):List.drop 6 (t.c.map AV.d)=[]:=List.drop_of_length_le (by simp [Tm.clen])
attribute [simp] Tm.clen Tm.ctake Tm.ctake' rdB_eq Tm.a
theorem p_made (o:Int) (ks:List Tm):Cf En 100 [.d (.int .i64 o),.d (.sl (ks.map Tm.c))] [] (mkT o ks).a []:=by
 refine cf_intro mix (fn:=Tryz.f100) (by kernel_rfl) rfl (by kernel_rfl) (by decide) (by simp) ?_
 simp
 (repeat' (first|contradiction|exact .ok|apply And.intro|intro _|(refine gc (fun h=>?_) (fun h=>?_)<;>(have h':=h;(try simp at h');first|done|simp[h,h']|simp))))
 all_goals simp [mkT,Tm.a,Tm.c,tmsC_map]
@[simp] def zTm:List AV:=[.d (.int .i64 0),.d (.int .i64 0),.d (.int .i64 0),.d (.str []),.d (.str []),.nils]
theorem p_chain {fD:Nat→D} {T:List Tk} {L:Nat} {f:FuncId} {p:List Tk→Res Tm} (hp:Rule Es fD T L f p) (hT:T.length≤10000) (sg:List (List UInt8)) (ops:List Int) (hg:sg.length≤100) (hog:ops.length=sg.length) {l:List Tk} (ha:At T l) (hl:l.length≤L) :
  CfO Es 63 [.ptr 1000000 0 0,.bnd f [.ptr 1000000 0 0],.d (.sl (sg.map fun w=>[.str w])),.d (.sl (ops.map fun o=>[.int .i64 o]))] [rdB T l] (outS fD T (bind2 (p l) fun t l'=>chainS p sg ops l'.length t l')):=by
 generalize ho:outS fD T (bind2 (p l) fun t l'=>chainS p sg ops l'.length t l')=o
 refine cfO_intro mixs (fn:=Tryz.f63) (by kernel_rfl) rfl (by kernel_rfl) (by decide) o (by simp) (by simp) ?_
 simp
 (repeat' (first|contradiction|exact .ok|apply And.intro|intro _|(refine gc (fun h=>?_) (fun h=>?_)<;>(have h':=h;(try simp at h');first|done|simp[h,h']|simp))))
 rcases hp.step ha hl with ⟨e,he,hc⟩ | ⟨t,m,he,hm,hlm,hc⟩
 ·rw [he] at ho
  subst ho
  exact acallP_pan [1000000] hc (by simp) (by simp) (by simp) (by simp) (by kernel_rfl)
 rw [he,bind2_ok] at ho
 refine acallP_of (acallT_hand [1000000] hc (by simp) (by simp) (by simp) (by simp) (by simp) ?_)
 simp
 (repeat' (first|contradiction|exact .ok|apply And.intro|intro _|(refine gc (fun h=>?_) (fun h=>?_)<;>(have h':=h;(try simp at h');first|done|simp[h,h']|simp))))
 refine acallP_of (acallT_hand [1000000] (ups (p_one hm.sfx hm.ne hT sg (by omega))) (by simp) (by simp) (by simp) (by simp) (by simp) ?_)
 simp
 (repeat' (first|contradiction|exact .ok|apply And.intro|intro _|(refine gc (fun h=>?_) (fun h=>?_)<;>(have h':=h;(try simp at h');first|done|simp[h,h']|simp))))
 refine aloopPT mixs (by decide) (fun y:Tm×List Tk=>{ s:=mkS [(0,.ptr 1000000 0 0),(1,.bnd f [.ptr 1000000 0 0]),(2,.d (.sl (sg.map fun w=>[.str w]))),(3,.d (.sl (ops.map fun o=>[.int .i64 o]))),(8,.ptr 8 0 0),(9,.ptr 9 0 0),(10,.d (.int .i64 (oneI sg y.2)))],b:=mkB [(1000000,1000000,rdB T (if 0≤oneI sg y.2 then y.2.tail else y.2)),(8,8,.var zTm),(9,9,.var (y.1.c.map AV.d))] })
  (fun y=>At T y.2∧y.2.length≤L∧∃ k,y.2.length≤k∧outS fD T (chainS p sg ops k y.1 y.2)=o) (fun y=>y.2.length) (t,m) ⟨hm,by simp only; omega,_,Nat.le_refl _,ho⟩
  (sub_mk _ [(1000000,1000000,_),(8,8,_),(9,9,_)] ⟨by simp,by simp,by simp [renOf,Blk.live,zTm],base1⟩ (by simp [renOf])) ?_
 rintro ⟨t1,l1⟩ ⟨h1,hL,k,hk,ho1⟩
 simp only at h1 hL hk ho1
 have hone:=oneI_of sg l1
 cases hi:oneOf sg l1 with
 | none =>
   rw [hi] at hone
   simp only at hone
   have hr:chainS p sg ops k t1 l1=.ok (t1,l1):=by cases k with | zero=>rfl | succ k=>rw [chainS,hi]
   rw [hr] at ho1
   subst ho1
   rw [hone]
   simp [outS]
   all_goals exact gz
 | some i =>
   rw [hi] at hone
   simp only at hone
   have hlen:=one_len hi
   obtain ⟨k,rfl⟩:∃ q,k=q+1:=⟨k - 1,by omega⟩
   rw [chainS,hi] at ho1
   simp only at ho1
   have hil:i<sg.length:=by
    unfold oneOf at hi
    exact (List.findIdx?_eq_some_iff_getElem.1 hi).1
   have h2:=h1.tl1 hi
   have hop:ops[i]?=some ops[i]:=List.getElem?_eq_getElem (by omega)
   rw [hone,if_pos (by omega)]
   obtain ⟨op,hope⟩:∃ op,op=ops[i]:=⟨_,rfl⟩
   have hge:∀ h,ops[i]'h=op:=fun _=>hope.symm
   have hio:i<ops.length:=by omega
   rw [hop,← hope] at ho1
   simp only [Option.getD_some] at ho1
   obtain ⟨l2,hl2⟩:∃ l2,l2=l1.tail:=⟨_,rfl⟩
   rw [← hl2] at h2 ho1 hlen ⊢
   simp [hge,hio]
   (repeat' (first|contradiction|exact .ok|apply And.intro|intro _|(refine gc (fun h=>?_) (fun h=>?_)<;>(have h':=h;(try simp at h');first|done|simp[h,h',hge,hio]|simp[hge,hio]))))
   rcases hp.step h2 (by omega) with ⟨e,he',hc'⟩ | ⟨t',m',he',hm',hlm',hc'⟩
   ·rw [he'] at ho1
    subst ho1
    refine acallP_pan [1000000] hc' (by simp) (by simp) (by simp) (by simp) (by kernel_rfl)
   rw [he'] at ho1
   simp only at ho1
   refine acallP_of (acallT_hand [1000000] hc' (by simp) (by simp) (by simp) (by simp) (by simp) ?_)
   simp
   (repeat' (first|contradiction|exact .ok|apply And.intro|intro _|(refine gc (fun h=>?_) (fun h=>?_)<;>(have h':=h;(try simp at h');first|done|simp[h,h']|simp))))
   refine acallP_of (acallT_plain (ups (p_made op [t1,t'])) (by simp) ?_)
   simp
   (repeat' (first|contradiction|exact .ok|apply And.intro|intro _|(refine gc (fun h=>?_) (fun h=>?_)<;>(have h':=h;(try simp at h');first|done|simp[h,h']|simp))))
   refine acallP_of (acallT_hand [1000000] (ups (p_one hm'.sfx hm'.ne hT sg (by omega))) (by simp) (by simp) (by simp) (by simp) (by simp) ?_)
   simp
   (repeat' (first|contradiction|exact .ok|apply And.intro|intro _|(refine gc (fun h=>?_) (fun h=>?_)<;>(have h':=h;(try simp at h');first|done|simp[h,h']|simp))))
   refine ⟨(mkT op [t1,t'],m'),⟨hm',by simp only; omega,k,by simp only; omega,ho1⟩,?_,by simp only; omega⟩
   exact sub_mk _ [(1000000,1000000,_),(8,8,_),(9,9,_)] ⟨by simp,by simp,by simp [renOf,Blk.live,zTm],base1⟩ (by simp [renOf])
attribute [simp] wOr wAnd wNot wIs wNull wTrue wFalse wIn wOpen wShut wComma wDot wStar wMinus wLength wCoalesce wCase wWhen wThen wElse wEnd wCount wSum wMin wMax wDistinct wInt wBool wText cmpW addW mulW aggW
@[simp] theorem take_map (ks:List Tm):List.take ks.length (ks.map Tm.c)=ks.map Tm.c:=List.take_of_length_le (by simp)
theorem bind1_ok {β:Type} (l:List Tk) (f:List Tk→Res β):bind1 (.ok l) f=f l:=rfl
theorem bind1_err {β:Type} (e:Nat) (f:List Tk→Res β):bind1 (.error e) f=.error e:=rfl
theorem bind2_err {α β:Type} (e:Nat) (f:α→List Tk→Res β):bind2 (.error e) f=.error e:=rfl
theorem upO {f:FuncId} {xs:List AV} {B:List Blk} {o:Out} (h:CfO En f xs B o):CfO Es f xs B o:=CfO.more (E:=En) (E':=Es) rfl ups_g h
theorem upX {en:Value→Ending} {f:FuncId} {xs:List AV} {B:List Blk} {y:AV} {B':List Blk} (h:CfX en En f xs B y B'):CfX en Es f xs B y B':=CfX.more (E:=En) (E':=Es) rfl ups_g h
section
variable {fD:Nat→D} {T l:List Tk}
theorem take_yes (ha:At T l) (hT:T.length≤10000) {w:List UInt8} (h:isW w l=true):Cf Es 78 [.ptr 1000000 0 0,.d (.str w)] [rdB T l] (.d (.bool true)) [rdB T l.tail]:=by
 have h1:=ups (p_take ha.sfx ha.ne hT w)
 rw [h,if_pos rfl] at h1
 exact h1
theorem take_no (ha:At T l) (hT:T.length≤10000) {w:List UInt8} (h:isW w l=false):Cf Es 78 [.ptr 1000000 0 0,.d (.str w)] [rdB T l] (.d (.bool false)) [rdB T l]:=by
 have h1:=ups (p_take ha.sfx ha.ne hT w)
 rw [h,if_neg (by simp)] at h1
 exact h1
theorem one_yes (ha:At T l) (hT:T.length≤10000) {ws:List (List UInt8)} (hw:ws.length≤100) {i:Nat} (h:oneOf ws l=some i) :
  Cf Es 77 [.ptr 1000000 0 0,.d (.sl (ws.map fun w=>[.str w]))] [rdB T l] (.d (.int .i64 i)) [rdB T l.tail]:=by
 have h1:=ups (p_one ha.sfx ha.ne hT ws (by omega))
 rw [oneI_of,h] at h1
 simp only at h1
 rw [if_pos (by omega)] at h1
 exact h1
theorem one_no (ha:At T l) (hT:T.length≤10000) {ws:List (List UInt8)} (hw:ws.length≤100) (h:oneOf ws l=none) :
  Cf Es 77 [.ptr 1000000 0 0,.d (.sl (ws.map fun w=>[.str w]))] [rdB T l] (.d (.int .i64 (-1))) [rdB T l]:=by
 have h1:=ups (p_one ha.sfx ha.ne hT ws (by omega))
 rw [oneI_of,h] at h1
 simp only at h1
 rw [if_neg (by omega)] at h1
 exact h1
theorem exp_step (hF:FailOk fD) (ha:At T l) (hT:T.length≤10000) (ws:List (List UInt8)) (hw:ws.length≤100) :
  (∃ e,expS ws l=.error e∧CfX panE Es 115 [.ptr 1000000 0 0,.d (.sl (ws.map fun w=>[.str w]))] [rdB T l] (.d (fD e)) (deadB 1)) ∨
  (∃ m,expS ws l=.ok m∧At T m∧m.length≤l.length∧Cf Es 115 [.ptr 1000000 0 0,.d (.sl (ws.map fun w=>[.str w]))] [rdB T l] (.tup []) [rdB T m]):=by
 have h1:=upO (p_expect hF ha.sfx ha.ok hT ws (by omega))
 cases hp:expS ws l with
 | error e=>rw [hp] at h1; exact .inl ⟨e,rfl,h1⟩
 | ok m =>
   rw [hp] at h1
   exact .inr ⟨m,rfl,ha.to (exp_sfx _ _ _ hp) (exp_okE ws ha.ok hp),exp_len hp,h1⟩
theorem fail_at (hF:FailOk fD) (ha:At T l) (hT:T.length≤10000):CfX panE Es 62 [.ptr 1000000 0 0] [rdB T l] (.d (fD (posT l))) (deadB 1):=upX (hF T l ha.sfx ha.ne hT)
end
theorem rsv_words:rsv=words:=rfl
theorem p_name {fD:Nat→D} (hF:FailOk fD) {T l:List Tk} (ha:At T l) (hT:T.length≤10000) :
  CfO Es 157 [.ptr 1000000 0 0] [rdB T l] (outN fD T (nameS l)):=by
 have hp:=ups (p_peek ha.sfx ha.ne hT)
 have hf:=fail_at hF ha hT
 have hlen:=ha.sfx.length_le
 cases l with
 | nil=>exact absurd rfl ha.ne
 | cons t r =>
 generalize ho:outN fD T (nameS (t::r))=o
 simp only [posT] at hf
 have hn:=s_name t.rw
 rw [← rsv_words] at hn
 refine cfO_intro mixs (fn:=Tryz.f157) (by kernel_rfl) rfl (by kernel_rfl) (by decide) o (by simp) (by simp [rdB]) ?_
 simp only [hdT,tkA,tokC] at hp
 have hns:nameS (t::r)=if t.kd=1∧nameOk rsv t.rw=true then .ok (t.rw,r) else .error t.fr:=rfl
 by_cases h1:t.kd=1
 ·simp only [h1,show ((1:Int)=5)=False from by decide,if_false] at hp
  cases h2:nameOk rsv t.rw with
  | true =>
    rw [hns.trans (if_pos ⟨h1,h2⟩)] at ho
    rw [h2] at hn
    subst ho
    simp only [outN]
    have hi:T.length - r.length=T.length - (t::r).length+1:=by simp only [List.length_cons] at *; omega
    have hb:T.length - (t::r).length≤10000:=by omega
    unfold rdB at *
    rw [hi]
    generalize T.length - (t::r).length=i at *
    have hwr:=wrap_in (n:=(i:Int)+1) (by omega) (by omega)
    simp<;>(repeat' first|contradiction|exact .ok|apply And.intro|intro _|(refine gc (fun h=>?_) (fun h=>?_)<;>(have h':=h;(try simp at h');first|done|simp[h,h']|simp)))
    refine acallP_of (acallT_hand [1000000] (hp) (by simp) (by simp) (by simp) (by simp) (by simp) ?_)
    simp<;>(repeat' first|contradiction|exact .ok|apply And.intro|intro _|(refine gc (fun h=>?_) (fun h=>?_)<;>(have h':=h;(try simp at h');first|done|simp[h,h']|simp)))
    refine acallP_of (acallT_plain (hn) (by simp) ?_)
    simp [hwr]<;>(repeat' first|contradiction|exact .ok|apply And.intro|intro _|(refine gc (fun h=>?_) (fun h=>?_)<;>(have h':=h;(try simp at h');first|done|simp[h,h',hwr]|simp[hwr])))
  | false =>
    rw [hns.trans (if_neg (by simp [h2]))] at ho
    rw [h2] at hn
    subst ho
    simp only [outN]
    simp<;>(repeat' first|contradiction|exact .ok|apply And.intro|intro _|(refine gc (fun h=>?_) (fun h=>?_)<;>(have h':=h;(try simp at h');first|done|simp[h,h']|simp)))
    refine acallP_of (acallT_hand [1000000] (hp) (by simp) (by simp) (by simp) (by simp) (by simp) ?_)
    simp<;>(repeat' first|contradiction|exact .ok|apply And.intro|intro _|(refine gc (fun h=>?_) (fun h=>?_)<;>(have h':=h;(try simp at h');first|done|simp[h,h']|simp)))
    refine acallP_of (acallT_plain (hn) (by simp) ?_)
    simp<;>(repeat' first|contradiction|exact .ok|apply And.intro|intro _|(refine gc (fun h=>?_) (fun h=>?_)<;>(have h':=h;(try simp at h');first|done|simp[h,h']|simp)))
    exact acallP_pan [1000000] (hf) (by simp) (by simp) (by simp) (by simp) (by kernel_rfl)
 ·rw [hns.trans (if_neg (by simp [h1]))] at ho
  subst ho
  simp only [outN]
  by_cases h5:t.kd=5
  ·simp only [h5,if_true] at hp
   simp<;>(repeat' first|contradiction|exact .ok|apply And.intro|intro _|(refine gc (fun h=>?_) (fun h=>?_)<;>(have h':=h;(try simp at h');first|done|simp[h,h']|simp)))
   refine acallP_of (acallT_hand [1000000] (hp) (by simp) (by simp) (by simp) (by simp) (by simp) ?_)
   simp<;>(repeat' first|contradiction|exact .ok|apply And.intro|intro _|(refine gc (fun h=>?_) (fun h=>?_)<;>(have h':=h;(try simp at h');first|done|simp[h,h']|simp)))
   exact acallP_pan [1000000] (hf) (by simp) (by simp) (by simp) (by simp) (by kernel_rfl)
  ·simp only [h5,if_false] at hp
   simp<;>(repeat' first|contradiction|exact .ok|apply And.intro|intro _|(refine gc (fun h=>?_) (fun h=>?_)<;>(have h':=h;(try simp at h');first|done|simp[h,h']|simp)))
   refine acallP_of (acallT_hand [1000000] (hp) (by simp) (by simp) (by simp) (by simp) (by simp) ?_)
   simp [h1]<;>(repeat' first|contradiction|exact .ok|apply And.intro|intro _|(refine gc (fun h=>?_) (fun h=>?_)<;>(have h':=h;(try simp at h');first|done|simp[h,h',h1]|simp[h1])))
   exact acallP_pan [1000000] (hf) (by simp) (by simp) (by simp) (by simp) (by kernel_rfl)
section
variable {fD:Nat→D} {T l:List Tk} {L:Nat} {p:List Tk→Res Tm}
theorem p_term (hp:Rule Es fD T L 64 p) (hT:T.length≤10000) (ha:At T l) (hl:l.length≤L) :
  CfO Es 31 [.ptr 1000000 0 0] [rdB T l] (outS fD T (bind2 (p l) fun t l'=>chainS p [wOr] [23] l'.length t l')):=by
 have hc:=p_chain hp hT [wOr] [23] (by decide) rfl ha hl
 generalize ho:outS fD T (bind2 (p l) fun t l'=>chainS p [wOr] [23] l'.length t l')=o at hc ⊢
 refine cfO_intro mixs (fn:=Tryz.f31) (by kernel_rfl) rfl (by kernel_rfl) (by decide) o (by simp) (by simp [rdB]) ?_
 cases hr:bind2 (p l) fun t l'=>chainS p [wOr] [23] l'.length t l' with
 | error e =>
   rw [hr] at ho
   subst ho
   simp only [outS] at *
   simp<;>(repeat' first|contradiction|exact .ok|apply And.intro|intro _|(refine gc (fun h=>?_) (fun h=>?_)<;>(have h':=h;(try simp at h');first|done|simp[h,h']|simp)))
   exact acallP_pan [1000000] (hc) (by simp) (by simp) (by simp) (by simp) (by kernel_rfl)
 | ok x =>
   obtain ⟨t,m⟩:=x
   rw [hr] at ho
   subst ho
   simp only [outS] at *
   simp<;>(repeat' first|contradiction|exact .ok|apply And.intro|intro _|(refine gc (fun h=>?_) (fun h=>?_)<;>(have h':=h;(try simp at h');first|done|simp[h,h']|simp)))
   refine acallP_of (acallT_hand [1000000] (hc) (by simp) (by simp) (by simp) (by simp) (by simp) ?_)
   simp<;>(repeat' first|contradiction|exact .ok|apply And.intro|intro _|(refine gc (fun h=>?_) (fun h=>?_)<;>(have h':=h;(try simp at h');first|done|simp[h,h']|simp)))
theorem p_and (hp:Rule Es fD T L 101 p) (hT:T.length≤10000) (ha:At T l) (hl:l.length≤L) :
  CfO Es 64 [.ptr 1000000 0 0] [rdB T l] (outS fD T (bind2 (p l) fun t l'=>chainS p [wAnd] [22] l'.length t l')):=by
 have hc:=p_chain hp hT [wAnd] [22] (by decide) rfl ha hl
 generalize ho:outS fD T (bind2 (p l) fun t l'=>chainS p [wAnd] [22] l'.length t l')=o at hc ⊢
 refine cfO_intro mixs (fn:=Tryz.f64) (by kernel_rfl) rfl (by kernel_rfl) (by decide) o (by simp) (by simp [rdB]) ?_
 cases hr:bind2 (p l) fun t l'=>chainS p [wAnd] [22] l'.length t l' with
 | error e =>
   rw [hr] at ho
   subst ho
   simp only [outS] at *
   simp<;>(repeat' first|contradiction|exact .ok|apply And.intro|intro _|(refine gc (fun h=>?_) (fun h=>?_)<;>(have h':=h;(try simp at h');first|done|simp[h,h']|simp)))
   exact acallP_pan [1000000] (hc) (by simp) (by simp) (by simp) (by simp) (by kernel_rfl)
 | ok x =>
   obtain ⟨t,m⟩:=x
   rw [hr] at ho
   subst ho
   simp only [outS] at *
   simp<;>(repeat' first|contradiction|exact .ok|apply And.intro|intro _|(refine gc (fun h=>?_) (fun h=>?_)<;>(have h':=h;(try simp at h');first|done|simp[h,h']|simp)))
   refine acallP_of (acallT_hand [1000000] (hc) (by simp) (by simp) (by simp) (by simp) (by simp) ?_)
   simp<;>(repeat' first|contradiction|exact .ok|apply And.intro|intro _|(refine gc (fun h=>?_) (fun h=>?_)<;>(have h':=h;(try simp at h');first|done|simp[h,h']|simp)))
theorem p_sum (hp:Rule Es fD T L 195 p) (hT:T.length≤10000) (ha:At T l) (hl:l.length≤L) :
  CfO Es 178 [.ptr 1000000 0 0] [rdB T l] (outS fD T (bind2 (p l) fun t l'=>chainS p addW [6,7,12] l'.length t l')):=by
 have hc:=p_chain hp hT addW [6,7,12] (by decide) rfl ha hl
 generalize ho:outS fD T (bind2 (p l) fun t l'=>chainS p addW [6,7,12] l'.length t l')=o at hc ⊢
 refine cfO_intro mixs (fn:=Tryz.f178) (by kernel_rfl) rfl (by kernel_rfl) (by decide) o (by simp) (by simp [rdB]) ?_
 cases hr:bind2 (p l) fun t l'=>chainS p addW [6,7,12] l'.length t l' with
 | error e =>
   rw [hr] at ho
   subst ho
   simp only [outS] at *
   simp<;>(repeat' first|contradiction|exact .ok|apply And.intro|intro _|(refine gc (fun h=>?_) (fun h=>?_)<;>(have h':=h;(try simp at h');first|done|simp[h,h']|simp)))
   exact acallP_pan [1000000] (hc) (by simp) (by simp) (by simp) (by simp) (by kernel_rfl)
 | ok x =>
   obtain ⟨t,m⟩:=x
   rw [hr] at ho
   subst ho
   simp only [outS] at *
   simp<;>(repeat' first|contradiction|exact .ok|apply And.intro|intro _|(refine gc (fun h=>?_) (fun h=>?_)<;>(have h':=h;(try simp at h');first|done|simp[h,h']|simp)))
   refine acallP_of (acallT_hand [1000000] (hc) (by simp) (by simp) (by simp) (by simp) (by simp) ?_)
   simp<;>(repeat' first|contradiction|exact .ok|apply And.intro|intro _|(refine gc (fun h=>?_) (fun h=>?_)<;>(have h':=h;(try simp at h');first|done|simp[h,h']|simp)))
theorem p_product (hp:Rule Es fD T L 205 p) (hT:T.length≤10000) (ha:At T l) (hl:l.length≤L) :
  CfO Es 195 [.ptr 1000000 0 0] [rdB T l] (outS fD T (bind2 (p l) fun t l'=>chainS p mulW [8,9,10] l'.length t l')):=by
 have hc:=p_chain hp hT mulW [8,9,10] (by decide) rfl ha hl
 generalize ho:outS fD T (bind2 (p l) fun t l'=>chainS p mulW [8,9,10] l'.length t l')=o at hc ⊢
 refine cfO_intro mixs (fn:=Tryz.f195) (by kernel_rfl) rfl (by kernel_rfl) (by decide) o (by simp) (by simp [rdB]) ?_
 cases hr:bind2 (p l) fun t l'=>chainS p mulW [8,9,10] l'.length t l' with
 | error e =>
   rw [hr] at ho
   subst ho
   simp only [outS] at *
   simp<;>(repeat' first|contradiction|exact .ok|apply And.intro|intro _|(refine gc (fun h=>?_) (fun h=>?_)<;>(have h':=h;(try simp at h');first|done|simp[h,h']|simp)))
   exact acallP_pan [1000000] (hc) (by simp) (by simp) (by simp) (by simp) (by kernel_rfl)
 | ok x =>
   obtain ⟨t,m⟩:=x
   rw [hr] at ho
   subst ho
   simp only [outS] at *
   simp<;>(repeat' first|contradiction|exact .ok|apply And.intro|intro _|(refine gc (fun h=>?_) (fun h=>?_)<;>(have h':=h;(try simp at h');first|done|simp[h,h']|simp)))
   refine acallP_of (acallT_hand [1000000] (hc) (by simp) (by simp) (by simp) (by simp) (by simp) ?_)
   simp<;>(repeat' first|contradiction|exact .ok|apply And.intro|intro _|(refine gc (fun h=>?_) (fun h=>?_)<;>(have h':=h;(try simp at h');first|done|simp[h,h']|simp)))
theorem p_not {q:List Tk→Res Tm} (hp:Rule Es fD T L 101 p) (hq:Rule Es fD T (L+1) 143 q) (hT:T.length≤10000) (ha:At T l) (hl:l.length≤L+1) :
  CfO Es 101 [.ptr 1000000 0 0] [rdB T l] (outS fD T (if isW wNot l=true then mapT (fun t=>mkT 24 [t]) (p l.tail) else q l)):=by
 generalize ho:outS fD T (if isW wNot l=true then mapT (fun t=>mkT 24 [t]) (p l.tail) else q l)=o
 refine cfO_intro mixs (fn:=Tryz.f101) (by kernel_rfl) rfl (by kernel_rfl) (by decide) o (by simp) (by simp [rdB]) ?_
 cases hw:isW wNot l with
 | true =>
   rw [hw,if_pos rfl] at ho
   have hlen:=isW_len hw
   simp<;>(repeat' first|contradiction|exact .ok|apply And.intro|intro _|(refine gc (fun h=>?_) (fun h=>?_)<;>(have h':=h;(try simp at h');first|done|simp[h,h']|simp)))
   refine acallP_of (acallT_hand [1000000] (take_yes ha hT hw) (by simp) (by simp) (by simp) (by simp) (by simp) ?_)
   simp<;>(repeat' first|contradiction|exact .ok|apply And.intro|intro _|(refine gc (fun h=>?_) (fun h=>?_)<;>(have h':=h;(try simp at h');first|done|simp[h,h']|simp)))
   rcases hp.step (ha.tl hw) (by omega) with ⟨e,he,hc⟩ | ⟨t,m,he,hm,hlm,hc⟩
   ·rw [he] at ho
    subst ho
    exact acallP_pan [1000000] (hc) (by simp) (by simp) (by simp) (by simp) (by kernel_rfl)
   rw [he] at ho
   subst ho
   refine acallP_of (acallT_hand [1000000] (hc) (by simp) (by simp) (by simp) (by simp) (by simp) ?_)
   simp<;>(repeat' first|contradiction|exact .ok|apply And.intro|intro _|(refine gc (fun h=>?_) (fun h=>?_)<;>(have h':=h;(try simp at h');first|done|simp[h,h']|simp)))
   refine acallP_of (acallT_plain (ups (p_made 24 [t])) (by simp) ?_)
   simp only [mapT,bind2,outS]
   simp<;>(repeat' first|contradiction|exact .ok|apply And.intro|intro _|(refine gc (fun h=>?_) (fun h=>?_)<;>(have h':=h;(try simp at h');first|done|simp[h,h']|simp)))
 | false =>
   rw [hw,if_neg (by simp)] at ho
   simp<;>(repeat' first|contradiction|exact .ok|apply And.intro|intro _|(refine gc (fun h=>?_) (fun h=>?_)<;>(have h':=h;(try simp at h');first|done|simp[h,h']|simp)))
   refine acallP_of (acallT_hand [1000000] (take_no ha hT hw) (by simp) (by simp) (by simp) (by simp) (by simp) ?_)
   simp<;>(repeat' first|contradiction|exact .ok|apply And.intro|intro _|(refine gc (fun h=>?_) (fun h=>?_)<;>(have h':=h;(try simp at h');first|done|simp[h,h']|simp)))
   rcases hq.step ha hl with ⟨e,he,hc⟩ | ⟨t,m,he,hm,hlm,hc⟩
   ·rw [he] at ho
    subst ho
    exact acallP_pan [1000000] (hc) (by simp) (by simp) (by simp) (by simp) (by kernel_rfl)
   rw [he] at ho
   subst ho
   refine acallP_of (acallT_hand [1000000] (hc) (by simp) (by simp) (by simp) (by simp) (by simp) ?_)
   simp only [outS]
   simp<;>(repeat' first|contradiction|exact .ok|apply And.intro|intro _|(refine gc (fun h=>?_) (fun h=>?_)<;>(have h':=h;(try simp at h');first|done|simp[h,h']|simp)))
end
end Go.Proofs.Tryz
