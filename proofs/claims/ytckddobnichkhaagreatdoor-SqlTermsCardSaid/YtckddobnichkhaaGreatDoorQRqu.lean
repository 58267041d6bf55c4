import Derived.Test.YtckddobnichkhaaGreatDoorQFlq
import Derived.Test.YtckddobnichkhaaGreatDoorQExc0
import Derived.Test.YtckddobnichkhaaGreatDoorQRkp
import Derived.Test.YtckddobnichkhaaGreatDoorNamS
import Derived.Test.YtckddobnichkhaaGreatDoorStm
import Derived.Test.YtckddobnichkhaaGreatDoorTy
import Derived.Test.YtckddobnichkhaaGreatDoorAbB
set_option linter.all false
/- Made terms, and terms with operators between them. -/
namespace Go.Proofs.Tryz
open Go.Ab
set_option maxRecDepth 100000
set_option maxHeartbeats 4000000
@[simp] theorem toDs_two (bl:Nat→Blk) (a b:List D):toDs bl (a.map AV.d++b.map AV.d)=some (a++b,[]):=by rw [← List.map_append,toDs_d]
@[simp] theorem take6 (t:Tm) (l:List D):List.take 6 (t.c++l)=t.c:=by rw [List.take_append_of_le_length (by rw [Tm.clen]; omega)]; exact List.take_of_length_le (by rw [Tm.clen]; omega)
@[simp] theorem drop6 (t:Tm) (l:List D):List.drop 6 (t.c++l)=l:=by rw [List.drop_append_of_le_length (by rw [Tm.clen]; omega),List.drop_of_length_le (by rw [Tm.clen]; omega)]; rfl
@[simp] theorem drop6m (t:Tm):List.drop 6 (t.c.map AV.d)=[]:=List.drop_of_length_le (by simp [Tm.clen])
attribute [simp] Tm.clen Tm.ctake Tm.ctake' rdB_eq Tm.a
theorem p_made (o:Int) (ks:List Tm):Cf En 33 [.d (.int .i64 o),.d (.sl (ks.map Tm.c))] [] (mkT o ks).a []:=by
 refine cf_intro mix (fn:=Tryz.f33) (by kernel_rfl) rfl (by kernel_rfl) (by decide) (by simp) ?_
 simp
 (repeat' (first | contradiction | exact .of (by kernel_rfl) | refine And.intro ?_ ?_ | intro _ | (refine agrd_cases (fun h=>?_) (fun h=>?_) <;> (have h':=h; (try simp at h'); first | done | simp [h,h'] | simp))))
 all_goals simp [mkT,Tm.a,Tm.c,tmsC_map]
end Go.Proofs.Tryz
/- Terms with operators between them. -/
namespace Go.Proofs.Tryz
open Go.Ab
set_option maxRecDepth 100000
set_option maxHeartbeats 4000000
@[simp] def zTm:List AV:=[.d (.int .i64 0),.d (.int .i64 0),.d (.int .i64 0),.d (.str []),.d (.str []),.nils]
theorem p_chain {fD:Nat→D} {T:List Tk} {L:Nat} {f:FuncId} {p:List Tk→Res Tm} (hp:Rule Es fD T L f p) (hT:T.length≤10000) (sg:List (List UInt8)) (ops:List Int) (hg:sg.length≤100) (hog:ops.length=sg.length) {l:List Tk} (ha:At T l) (hl:l.length≤L) :
  CfO Es 23 [.ptr 1000000 0 0,.bnd f [.ptr 1000000 0 0],.d (.sl (sg.map fun w=>[.str w])),.d (.sl (ops.map fun o=>[.int .i64 o]))] [rdB T l] (outS fD T (bind2 (p l) fun t l'=>chainS p sg ops l'.length t l')):=by
 generalize ho:outS fD T (bind2 (p l) fun t l'=>chainS p sg ops l'.length t l')=o
 refine cfO_intro mixs (fn:=Tryz.f23) (by kernel_rfl) rfl (by kernel_rfl) (by decide) o (by simp) (by simp) ?_
 simp
 (repeat' (first | contradiction | exact .of (by kernel_rfl) | refine And.intro ?_ ?_ | intro _ | (refine agrd_cases (fun h=>?_) (fun h=>?_) <;> (have h':=h; (try simp at h'); first | done | simp [h,h'] | simp))))
 rcases hp.step ha hl with ⟨e,he,hc⟩ | ⟨t,m,he,hm,hlm,hc⟩
 ·rw [he] at ho
  subst ho
  exact acallP_pan [1000000] hc (by simp) (by simp) (by simp) (by simp) (by kernel_rfl)
 rw [he,bind2_ok] at ho
 refine acallP_of (acallT_hand [1000000] hc (by simp) (by simp) (by simp) (by simp) (by simp) ?_)
 simp
 (repeat' (first | contradiction | exact .of (by kernel_rfl) | refine And.intro ?_ ?_ | intro _ | (refine agrd_cases (fun h=>?_) (fun h=>?_) <;> (have h':=h; (try simp at h'); first | done | simp [h,h'] | simp))))
 refine acallP_of (acallT_hand [1000000] (ups (p_one hm.sfx hm.ne hT sg (by omega))) (by simp) (by simp) (by simp) (by simp) (by simp) ?_)
 simp
 (repeat' (first | contradiction | exact .of (by kernel_rfl) | refine And.intro ?_ ?_ | intro _ | (refine agrd_cases (fun h=>?_) (fun h=>?_) <;> (have h':=h; (try simp at h'); first | done | simp [h,h'] | simp))))
 refine aloopPT mixs (by decide) (fun y:Tm×List Tk=>{ s:=mkS [(0,.ptr 1000000 0 0),(1,.bnd f [.ptr 1000000 0 0]),(2,.d (.sl (sg.map fun w=>[.str w]))),(3,.d (.sl (ops.map fun o=>[.int .i64 o]))),(8,.ptr 8 0 0),(9,.ptr 9 0 0),(10,.d (.int .i64 (oneI sg y.2)))],b:=mkB [(1000000,1000000,rdB T (if 0≤oneI sg y.2 then y.2.tail else y.2)),(8,8,.var zTm),(9,9,.var (y.1.c.map AV.d))] })
  (fun y=>At T y.2∧y.2.length≤L∧∃ k,y.2.length≤k∧outS fD T (chainS p sg ops k y.1 y.2)=o) (fun y=>y.2.length) (t,m) ⟨hm,by simp only; omega,_,Nat.le_refl _,ho⟩
  (sub_mk _ [(1000000,1000000,_),(8,8,_),(9,9,_)] ⟨by simp,by simp,by simp [renOf,Blk.live,zTm],base1⟩ (by simp [renOf])) ?_
 rintro ⟨t1,l1⟩ ⟨h1,hL,k,hk,ho1⟩
 simp only at h1 hL hk ho1
 have hone:=oneI_of sg l1
 cases hi:oneOf sg l1 with
 | none =>
   rw [hi] at hone
   simp only at hone
   have hr:chainS p sg ops k t1 l1=.ok (t1,l1):=by cases k with | zero=>rfl | succ k=>rw [chainS,hi]
   rw [hr] at ho1
   subst ho1
   rw [hone]
   simp [outS]
   (repeat' (first | contradiction | exact .of (by kernel_rfl) | refine And.intro ?_ ?_ | intro _ | (refine agrd_cases (fun h=>?_) (fun h=>?_) <;> (have h':=h; (try simp at h'); first | done | simp [h,h'] | simp))))
 | some i =>
   rw [hi] at hone
   simp only at hone
   have hlen:=one_len hi
   obtain ⟨k,rfl⟩:∃ q,k=q+1:=⟨k - 1,by omega⟩
   rw [chainS,hi] at ho1
   simp only at ho1
   have hil:i<sg.length:=by
    unfold oneOf at hi
    exact (List.findIdx?_eq_some_iff_getElem.1 hi).1
   have h2:=h1.tl1 hi
   have hop:ops[i]?=some ops[i]:=List.getElem?_eq_getElem (by omega)
   rw [hone,if_pos (by omega)]
   obtain ⟨op,hope⟩:∃ op,op=ops[i]:=⟨_,rfl⟩
   have hge:∀ h,ops[i]'h=op:=fun _=>hope.symm
   have hio:i<ops.length:=by omega
   rw [hop,← hope] at ho1
   simp only [Option.getD_some] at ho1
   obtain ⟨l2,hl2⟩:∃ l2,l2=l1.tail:=⟨_,rfl⟩
   rw [← hl2] at h2 ho1 hlen ⊢
   simp [hge,hio]
   (repeat' (first | contradiction | exact .of (by kernel_rfl) | refine And.intro ?_ ?_ | intro _ | (refine agrd_cases (fun h=>?_) (fun h=>?_) <;> (have h':=h; (try simp at h'); first | done | simp [h,h',hge,hio] | simp [hge,hio]))))
   rcases hp.step h2 (by omega) with ⟨e,he',hc'⟩ | ⟨t',m',he',hm',hlm',hc'⟩
   ·rw [he'] at ho1
    subst ho1
    refine acallP_pan [1000000] hc' (by simp) (by simp) (by simp) (by simp) (by kernel_rfl)
   rw [he'] at ho1
   simp only at ho1
   refine acallP_of (acallT_hand [1000000] hc' (by simp) (by simp) (by simp) (by simp) (by simp) ?_)
   simp
   (repeat' (first | contradiction | exact .of (by kernel_rfl) | refine And.intro ?_ ?_ | intro _ | (refine agrd_cases (fun h=>?_) (fun h=>?_) <;> (have h':=h; (try simp at h'); first | done | simp [h,h'] | simp))))
   refine acallP_of (acallT_plain (ups (p_made op [t1,t'])) (by simp) ?_)
   simp
   (repeat' (first | contradiction | exact .of (by kernel_rfl) | refine And.intro ?_ ?_ | intro _ | (refine agrd_cases (fun h=>?_) (fun h=>?_) <;> (have h':=h; (try simp at h'); first | done | simp [h,h'] | simp))))
   refine acallP_of (acallT_hand [1000000] (ups (p_one hm'.sfx hm'.ne hT sg (by omega))) (by simp) (by simp) (by simp) (by simp) (by simp) ?_)
   simp
   (repeat' (first | contradiction | exact .of (by kernel_rfl) | refine And.intro ?_ ?_ | intro _ | (refine agrd_cases (fun h=>?_) (fun h=>?_) <;> (have h':=h; (try simp at h'); first | done | simp [h,h'] | simp))))
   refine ⟨(mkT op [t1,t'],m'),⟨hm',by simp only; omega,k,by simp only; omega,ho1⟩,?_,by simp only; omega⟩
   exact sub_mk _ [(1000000,1000000,_),(8,8,_),(9,9,_)] ⟨by simp,by simp,by simp [renOf,Blk.live,zTm],base1⟩ (by simp [renOf])
end Go.Proofs.Tryz
/- The steps of the reader's rules: words taken, words expected, names. -/
namespace Go.Proofs.Tryz
open Go.Ab
set_option maxRecDepth 100000
set_option maxHeartbeats 4000000
attribute [simp] wOr wAnd wNot wIs wNull wTrue wFalse wIn wOpen wShut wComma wDot wStar wMinus wLength wCoalesce wCase wWhen wThen wElse wEnd wCount wSum wMin wMax wDistinct wInt wBool wText cmpW addW mulW aggW
@[simp] theorem take_map (ks:List Tm):List.take ks.length (ks.map Tm.c)=ks.map Tm.c:=List.take_of_length_le (by simp)
theorem bind1_ok {β:Type} (l:List Tk) (f:List Tk→Res β):bind1 (.ok l) f=f l:=rfl
theorem bind1_err {β:Type} (e:Nat) (f:List Tk→Res β):bind1 (.error e) f=.error e:=rfl
theorem bind2_err {α β:Type} (e:Nat) (f:α→List Tk→Res β):bind2 (.error e) f=.error e:=rfl
theorem upO {f:FuncId} {xs:List AV} {B:List Blk} {o:Out} (h:CfO En f xs B o):CfO Es f xs B o:=CfO.more (E:=En) (E':=Es) rfl ups_g h
theorem upX {en:Value→Ending} {f:FuncId} {xs:List AV} {B:List Blk} {y:AV} {B':List Blk} (h:CfX en En f xs B y B'):CfX en Es f xs B y B':=CfX.more (E:=En) (E':=Es) rfl ups_g h
section
variable {fD:Nat→D} {T l:List Tk}
theorem take_yes (ha:At T l) (hT:T.length≤10000) {w:List UInt8} (h:isW w l=true):Cf Es 48 [.ptr 1000000 0 0,.d (.str w)] [rdB T l] (.d (.bool true)) [rdB T l.tail]:=by
 have h1:=ups (p_take ha.sfx ha.ne hT w)
 rw [h,if_pos rfl] at h1
 exact h1
theorem take_no (ha:At T l) (hT:T.length≤10000) {w:List UInt8} (h:isW w l=false):Cf Es 48 [.ptr 1000000 0 0,.d (.str w)] [rdB T l] (.d (.bool false)) [rdB T l]:=by
 have h1:=ups (p_take ha.sfx ha.ne hT w)
 rw [h,if_neg (by simp)] at h1
 exact h1
theorem one_yes (ha:At T l) (hT:T.length≤10000) {ws:List (List UInt8)} (hw:ws.length≤100) {i:Nat} (h:oneOf ws l=some i) :
  Cf Es 32 [.ptr 1000000 0 0,.d (.sl (ws.map fun w=>[.str w]))] [rdB T l] (.d (.int .i64 i)) [rdB T l.tail]:=by
 have h1:=ups (p_one ha.sfx ha.ne hT ws (by omega))
 rw [oneI_of,h] at h1
 simp only at h1
 rw [if_pos (by omega)] at h1
 exact h1
theorem one_no (ha:At T l) (hT:T.length≤10000) {ws:List (List UInt8)} (hw:ws.length≤100) (h:oneOf ws l=none) :
  Cf Es 32 [.ptr 1000000 0 0,.d (.sl (ws.map fun w=>[.str w]))] [rdB T l] (.d (.int .i64 (-1))) [rdB T l]:=by
 have h1:=ups (p_one ha.sfx ha.ne hT ws (by omega))
 rw [oneI_of,h] at h1
 simp only at h1
 rw [if_neg (by omega)] at h1
 exact h1
theorem exp_step (hF:FailOk fD) (ha:At T l) (hT:T.length≤10000) (ws:List (List UInt8)) (hw:ws.length≤100) :
  (∃ e,expS ws l=.error e∧CfX panE Es 65 [.ptr 1000000 0 0,.d (.sl (ws.map fun w=>[.str w]))] [rdB T l] (.d (fD e)) (deadB 1)) ∨
  (∃ m,expS ws l=.ok m∧At T m∧m.length≤l.length∧Cf Es 65 [.ptr 1000000 0 0,.d (.sl (ws.map fun w=>[.str w]))] [rdB T l] (.tup []) [rdB T m]):=by
 have h1:=upO (p_expect hF ha.sfx ha.ok hT ws (by omega))
 cases hp:expS ws l with
 | error e=>rw [hp] at h1; exact .inl ⟨e,rfl,h1⟩
 | ok m =>
   rw [hp] at h1
   exact .inr ⟨m,rfl,ha.to (exp_sfx _ _ _ hp) (exp_okE ws ha.ok hp),exp_len hp,h1⟩
theorem fail_at (hF:FailOk fD) (ha:At T l) (hT:T.length≤10000):CfX panE Es 22 [.ptr 1000000 0 0] [rdB T l] (.d (fD (posT l))) (deadB 1):=upX (hF T l ha.sfx ha.ne hT)
end
theorem rsv_words:rsv=words:=rfl
theorem p_name {fD:Nat→D} (hF:FailOk fD) {T l:List Tk} (ha:At T l) (hT:T.length≤10000) :
  CfO Es 109 [.ptr 1000000 0 0] [rdB T l] (outN fD T (nameS l)):=by
 have hp:=ups (p_peek ha.sfx ha.ne hT)
 have hf:=fail_at hF ha hT
 have hlen:=ha.sfx.length_le
 cases l with
 | nil=>exact absurd rfl ha.ne
 | cons t r =>
 generalize ho:outN fD T (nameS (t::r))=o
 simp only [posT] at hf
 have hn:=s_name t.rw
 rw [← rsv_words] at hn
 refine cfO_intro mixs (fn:=Tryz.f109) (by kernel_rfl) rfl (by kernel_rfl) (by decide) o (by simp) (by simp [rdB]) ?_
 simp only [hdT,tkA,tokC] at hp
 have hns:nameS (t::r)=if t.kd=1∧nameOk rsv t.rw=true then .ok (t.rw,r) else .error t.fr:=rfl
 by_cases h1:t.kd=1
 ·simp only [h1,show ((1:Int)=5)=False from by decide,if_false] at hp
  cases h2:nameOk rsv t.rw with
  | true =>
    rw [hns.trans (if_pos ⟨h1,h2⟩)] at ho
    rw [h2] at hn
    subst ho
    simp only [outN]
    have hi:T.length - r.length=T.length - (t::r).length+1:=by simp only [List.length_cons] at *; omega
    have hb:T.length - (t::r).length≤10000:=by omega
    unfold rdB at *
    rw [hi]
    generalize T.length - (t::r).length=i at *
    have hwr:=wrap_in (n:=(i:Int)+1) (by omega) (by omega)
    simp <;> (repeat' (first | contradiction | exact .of (by kernel_rfl) | refine And.intro ?_ ?_ | intro _ | (refine agrd_cases (fun h=>?_) (fun h=>?_) <;> (have h':=h; (try simp at h'); first | done | simp [h,h'] | simp))))
    refine acallP_of (acallT_hand [1000000] (hp) (by simp) (by simp) (by simp) (by simp) (by simp) ?_)
    simp <;> (repeat' (first | contradiction | exact .of (by kernel_rfl) | refine And.intro ?_ ?_ | intro _ | (refine agrd_cases (fun h=>?_) (fun h=>?_) <;> (have h':=h; (try simp at h'); first | done | simp [h,h'] | simp))))
    refine acallP_of (acallT_plain (hn) (by simp) ?_)
    simp [hwr] <;> (repeat' (first | contradiction | exact .of (by kernel_rfl) | refine And.intro ?_ ?_ | intro _ | (refine agrd_cases (fun h=>?_) (fun h=>?_) <;> (have h':=h; (try simp at h'); first | done | simp [h,h',hwr] | simp [hwr]))))
  | false =>
    rw [hns.trans (if_neg (by simp [h2]))] at ho
    rw [h2] at hn
    subst ho
    simp only [outN]
    simp <;> (repeat' (first | contradiction | exact .of (by kernel_rfl) | refine And.intro ?_ ?_ | intro _ | (refine agrd_cases (fun h=>?_) (fun h=>?_) <;> (have h':=h; (try simp at h'); first | done | simp [h,h'] | simp))))
    refine acallP_of (acallT_hand [1000000] (hp) (by simp) (by simp) (by simp) (by simp) (by simp) ?_)
    simp <;> (repeat' (first | contradiction | exact .of (by kernel_rfl) | refine And.intro ?_ ?_ | intro _ | (refine agrd_cases (fun h=>?_) (fun h=>?_) <;> (have h':=h; (try simp at h'); first | done | simp [h,h'] | simp))))
    refine acallP_of (acallT_plain (hn) (by simp) ?_)
    simp <;> (repeat' (first | contradiction | exact .of (by kernel_rfl) | refine And.intro ?_ ?_ | intro _ | (refine agrd_cases (fun h=>?_) (fun h=>?_) <;> (have h':=h; (try simp at h'); first | done | simp [h,h'] | simp))))
    exact acallP_pan [1000000] (hf) (by simp) (by simp) (by simp) (by simp) (by kernel_rfl)
 ·rw [hns.trans (if_neg (by simp [h1]))] at ho
  subst ho
  simp only [outN]
  by_cases h5:t.kd=5
  ·simp only [h5,if_true] at hp
   simp <;> (repeat' (first | contradiction | exact .of (by kernel_rfl) | refine And.intro ?_ ?_ | intro _ | (refine agrd_cases (fun h=>?_) (fun h=>?_) <;> (have h':=h; (try simp at h'); first | done | simp [h,h'] | simp))))
   refine acallP_of (acallT_hand [1000000] (hp) (by simp) (by simp) (by simp) (by simp) (by simp) ?_)
   simp <;> (repeat' (first | contradiction | exact .of (by kernel_rfl) | refine And.intro ?_ ?_ | intro _ | (refine agrd_cases (fun h=>?_) (fun h=>?_) <;> (have h':=h; (try simp at h'); first | done | simp [h,h'] | simp))))
   exact acallP_pan [1000000] (hf) (by simp) (by simp) (by simp) (by simp) (by kernel_rfl)
  ·simp only [h5,if_false] at hp
   simp <;> (repeat' (first | contradiction | exact .of (by kernel_rfl) | refine And.intro ?_ ?_ | intro _ | (refine agrd_cases (fun h=>?_) (fun h=>?_) <;> (have h':=h; (try simp at h'); first | done | simp [h,h'] | simp))))
   refine acallP_of (acallT_hand [1000000] (hp) (by simp) (by simp) (by simp) (by simp) (by simp) ?_)
   simp [h1] <;> (repeat' (first | contradiction | exact .of (by kernel_rfl) | refine And.intro ?_ ?_ | intro _ | (refine agrd_cases (fun h=>?_) (fun h=>?_) <;> (have h':=h; (try simp at h'); first | done | simp [h,h',h1] | simp [h1]))))
   exact acallP_pan [1000000] (hf) (by simp) (by simp) (by simp) (by simp) (by kernel_rfl)
end Go.Proofs.Tryz
/- Terms that a program can hold. -/
namespace Go.Proofs.Tryz
open Go.Ab
mutual
/-- Lists that a program can hold. -/
def Tm.fits:Tm→Prop
 | .mk _ _ _ _ _ ks=>ks.length≤9223372036854775807∧tmsFits ks
def tmsFits:List Tm→Prop
 | []=>True
 | e::es=>e.fits∧tmsFits es
end
theorem tmsFits_get:∀ l:List Tm,tmsFits l→∀ e∈l,e.fits
 | x::xs,h,e,he=>by
   rw [tmsFits] at h
   rcases List.mem_cons.1 he with rfl | he
   ·exact h.1
   ·exact tmsFits_get xs h.2 e he
end Go.Proofs.Tryz
/- The tape of numbers: its block, Next. -/
namespace Go.Proofs.Tryz
open Go.Ab
/-- The tape as a block. -/
def tapB (L:List Int) (i:Int):Blk:=.var [.d (.sl (L.map fun n=>[.int .i64 n])),.d (.int .i64 i)]
def nextV (L:List Int) (i:Nat) (n:Int):Int :=
 if n<1 then 0 else
  let x:=match L[i]? with
   | some z=>z.tmod n
   | none=>0
  if x<0 then x+n else x
def nextI (i:Nat) (n:Int):Nat:=if n<1 then i else i+1
theorem nextV_in (L:List Int) (i:Nat) {n:Int} (h:1≤n):0≤nextV L i n∧nextV L i n<n:=by
 unfold nextV
 rw [if_neg (by omega)]
 cases L[i]? with
 | none=>simp; omega
 | some z =>
   have h1:=Int.natAbs_tmod z n
   have h2:=Nat.mod_lt z.natAbs (show 0<n.natAbs by omega)
   simp only
   split <;> omega
theorem t_next (L:List Int) (i:Nat) (hi:i≤1000000000) (n:Int) (hn:n≤1000000) :
  Cf En 9 [.ptr 1000000 0 0,.d (.int .i64 n)] [tapB L i] (.d (.int .i64 (nextV L i n))) [tapB L (nextI i n)]:=by
 refine cf_intro mix (fn:=Tryz.f9) (by kernel_rfl) rfl (by kernel_rfl) (by decide) (by simp) ?_
 simp [tapB]
 (repeat' (first | contradiction | exact .of (by kernel_rfl) | refine And.intro ?_ ?_ | intro _ | (refine agrd_cases (fun h=>?_) (fun h=>?_) <;> (have h':=h; (try simp at h'); first | done | simp [h,h'] | simp))))
 ·rename_i h
  simp [nextI,h]
 ·rename_i h
  simp [nextV,h]
 ·rename_i h1 h2
  have hg:L[i]?=some L[i]:=List.getElem?_eq_getElem h2
  have hn0:¬ n<1:=by omega
  have hz:¬ n=0:=by omega
  have hw:=wrap_in (n:=(i:Int)+1) (by omega) (by omega)
  have e1:=Int.natAbs_tmod L[i] n
  have e2:=Nat.mod_lt L[i].natAbs (show 0<n.natAbs by omega)
  have hw2:=wrap_in (n:=L[i].tmod n+n) (by omega) (by omega)
  have hV:nextV L i n=if L[i].tmod n<0 then L[i].tmod n+n else L[i].tmod n:=by simp [nextV,hn0,hg]
  have hI:nextI i n=i+1:=by simp [nextI,hn0]
  rw [hV,hI]
  clear hV hI
  by_cases hneg:L[i].tmod n<0
  ·simp [hg,hz,hneg,hw,hw2]
   (repeat' (first | contradiction | exact .of (by kernel_rfl) | refine And.intro ?_ ?_ | intro _ | (refine agrd_cases (fun h=>?_) (fun h=>?_) <;> (have h':=h; (try simp at h'); first | done | simp [h,h'] | simp))))
  ·simp [hg,hz,hneg,hw]
   (repeat' (first | contradiction | exact .of (by kernel_rfl) | refine And.intro ?_ ?_ | intro _ | (refine agrd_cases (fun h=>?_) (fun h=>?_) <;> (have h':=h; (try simp at h'); first | done | simp [h,h'] | simp))))
 ·rename_i h1 h2
  simp [nextI,show ¬ n<1 by omega]
  exact wrap_in (by omega) (by omega)
 ·rename_i h1 h2
  simp [nextV,show ¬ n<1 by omega,List.getElem?_eq_none h2]
end Go.Proofs.Tryz
/- Terms: the reference's SameTerm. -/
namespace Go.Proofs.Tryz
open Go.Ab
theorem r_sameTerms (a b:List Tm) (hn:a.length≤9223372036854775807) (h:∀ x∈a,∀ y∈b,Cf En 7 [x.a,y.a] [] (.d (.bool (x.eq y))) []) :
  Cf En 18 [.d (.sl (a.map Tm.c)),.d (.sl (b.map Tm.c))] [] (.d (.bool (agree Tm.eq a b))) []:=by
 refine cf_intro mix (fn:=Tryz.f18) (by kernel_rfl) rfl (by kernel_rfl) (by decide) (by simp) ?_
 by_cases hl:a.length=b.length
 ·have hl':(a.length:Int)=b.length:=by omega
  generalize hres:agree Tm.eq a b=res
  simp [hl,hl']
  refine ⟨.of (by kernel_rfl),.of (by kernel_rfl),.of (by kernel_rfl),?_⟩
  refine aloopT mix (by decide) (fun i:Nat=>{ s:=mkS [(0,.d (.sl (a.map Tm.c))),(1,.d (.sl (b.map Tm.c))),(5,.d (.int .i64 i))],b:=mkB [] }) (fun i:Nat=>i≤b.length∧agree Tm.eq (a.drop i) (b.drop i)=res) (fun i=>b.length - i) 0 (by simp [hres]) (sub_mk _ [] .nil (by simp)) ?_
  rintro i ⟨hi,ho⟩
  by_cases hlt:i<b.length
  ·have hlt':(i:Int)<b.length:=by omega
   have hla:i<a.length:=by omega
   have hg:a[i]?=some a[i]:=List.getElem?_eq_getElem hla
   have hg2:b[i]?=some b[i]:=List.getElem?_eq_getElem hlt
   have hd:=agree_drop (f:=Tm.eq) hg hg2
   have c1:=Tm.clen a[i]
   have c2:=Tm.clen b[i]
   have k1:=Tm.ctake a[i]
   have k2:=Tm.ctake b[i]
   simp [hl,hlt,hlt',hla,hg,hg2,c1,c2,k1,k2]
   refine ⟨.of (by kernel_rfl),?_⟩
   refine acallT_plain (h a[i] (List.getElem_mem hla) b[i] (List.getElem_mem hlt)) (by simp [Tm.a]) ?_
   simp
   refine ⟨.of (by kernel_rfl),fun h=>⟨.of (by kernel_rfl),?_⟩,fun h=>⟨.of (by kernel_rfl),i+1,⟨hlt,?_⟩,?_,?_⟩⟩
   ·rw [← ho,hd,h]; rfl
   ·rw [← ho,hd,h]; rfl
   ·refine sub_mk _ [] .nil ?_
    simp
    exact wrap_in (by omega) (by omega)
   ·simp; omega
  ·have hlt':¬ (i:Int)<b.length:=by omega
   simp [hl,hlt,hlt']
   refine ⟨.of (by kernel_rfl),.of (by kernel_rfl),?_⟩
   rw [← ho,agree_end (by omega) (by omega)]
 ·have hl':¬ (a.length:Int)=b.length:=by omega
  rw [agree_len a b hl]
  simp [hl,hl']
  exact ⟨.of (by kernel_rfl),.of (by kernel_rfl),.of (by kernel_rfl)⟩
theorem r_sameTerm:∀ (m:Nat) (x y:Tm),SizeOf.sizeOf x<m→x.fits→Cf En 7 [x.a,y.a] [] (.d (.bool (x.eq y))) []
 | 0,_,_,h,_=>absurd h (by omega)
 | m+1,.mk o y n t q ks,.mk o' y' n' t' q' ks',hm,hfit=>by
   refine cf_intro mix (fn:=Tryz.f7) (by kernel_rfl) rfl (by kernel_rfl) (by decide) (by simp) ?_
   rw [Tm.fits] at hfit
   have hq:=r_sameTerms ks ks' hfit.1 fun x hx z _=>r_sameTerm m x z (by
    have:=Tm.kid_lt (e:=.mk o y n t q ks) (k:=x) hx
    omega) (tmsFits_get ks hfit.2 x hx)
   rw [Tm.eq,tmsEq_agree]
   simp [Tm.a,Tm.c,tmsC_map]
   (repeat' (first | contradiction | exact .of (by kernel_rfl) | refine And.intro ?_ ?_ | intro _ | (refine agrd_cases (fun h=>?_) (fun h=>?_) <;> (have h':=h; (try simp at h'); first | done | simp [h,h'] | simp))))
   all_goals first | (refine acallT_plain hq (by simp) ?_; simp; (repeat' (first | contradiction | exact .of (by kernel_rfl) | refine And.intro ?_ ?_ | intro _ | (refine agrd_cases (fun h=>?_) (fun h=>?_) <;> (have h':=h; (try simp at h'); first | done | simp [h,h'] | simp))))) | skip
   all_goals simp_all
theorem r_sameTs (a b:List Tm) (hn:a.length≤9223372036854775807) (h:tmsFits a):Cf En 18 [.d (.sl (a.map Tm.c)),.d (.sl (b.map Tm.c))] [] (.d (.bool (agree Tm.eq a b))) [] :=
 r_sameTerms a b hn fun x hx y _=>r_sameTerm _ x y (Nat.lt_succ_self _) (tmsFits_get a h x hx)
end Go.Proofs.Tryz
