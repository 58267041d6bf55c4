import Derived.Test.YtgdkfmglkjfciaaGreatDoorPRqs
import Derived.Test.YtgdkfmglkjfciaaGreatDoorNamS
import Derived.Test.YtgdkfmglkjfciaaGreatDoorNxs
set_option linter.all false
namespace Go.Proofs.Tryz
open Go.Ab
set_option maxRecDepth 100000
set_option maxHeartbeats 4000000
@[simp] def zTm:List AV:=[.d (.int .i64 0),.d (.int .i64 0),.d (.int .i64 0),.d (.str []),.d (.str []),.nils]
theorem p_chain {fD:Nat→D} {T:List Tk} {L:Nat} {f:FuncId} {p:List Tk→Res Tm} (hp:Rule Es fD T L f p) (hT:T.length≤10000) (sg:List (List UInt8)) (ops:List Int) (hg:sg.length≤100) (hog:ops.length=sg.length) {l:List Tk} (ha:At T l) (hl:l.length≤L) :
  CfO Es 79 [.ptr 1000000 0 0,.bnd f [.ptr 1000000 0 0],.d (.sl (sg.map fun w=>[.str w])),.d (.sl (ops.map fun o=>[.int .i64 o]))] [rdB T l] (outS fD T (bind2 (p l) fun t l'=>chainS p sg ops l'.length t l')):=by
 generalize ho:outS fD T (bind2 (p l) fun t l'=>chainS p sg ops l'.length t l')=o
 refine cfO_intro mixs (fn:=Tryz.f79) (by kernel_rfl) rfl (by kernel_rfl) (by decide) o (by simp) (by simp) ?_
 simp
 (repeat' (first|contradiction|exact .ok|apply And.intro|intro _|(refine gc (fun h=>?_) (fun h=>?_)<;>(have h':=h;(try simp at h');first|done|simp[h,h']|simp))))
 rcases hp.step ha hl with ⟨e,he,hc⟩ | ⟨t,m,he,hm,hlm,hc⟩
 ·rw [he] at ho
  subst ho
  exact acallP_pan [1000000] hc (by simp) (by simp) (by simp) (by simp) (by kernel_rfl)
 rw [he,bind2_ok] at ho
 refine acallP_of (acallT_hand [1000000] hc (by simp) (by simp) (by simp) (by simp) (by simp) ?_)
 simp
 (repeat' (first|contradiction|exact .ok|apply And.intro|intro _|(refine gc (fun h=>?_) (fun h=>?_)<;>(have h':=h;(try simp at h');first|done|simp[h,h']|simp))))
 refine acallP_of (acallT_hand [1000000] (ups (p_one hm.sfx hm.ne hT sg (by omega))) (by simp) (by simp) (by simp) (by simp) (by simp) ?_)
 simp
 (repeat' (first|contradiction|exact .ok|apply And.intro|intro _|(refine gc (fun h=>?_) (fun h=>?_)<;>(have h':=h;(try simp at h');first|done|simp[h,h']|simp))))
 refine aloopPT mixs (by decide) (fun y:Tm×List Tk=>{ s:=mkS [(0,.ptr 1000000 0 0),(1,.bnd f [.ptr 1000000 0 0]),(2,.d (.sl (sg.map fun w=>[.str w]))),(3,.d (.sl (ops.map fun o=>[.int .i64 o]))),(8,.ptr 8 0 0),(9,.ptr 9 0 0),(10,.d (.int .i64 (oneI sg y.2)))],b:=mkB [(1000000,1000000,rdB T (if 0≤oneI sg y.2 then y.2.tail else y.2)),(8,8,.var zTm),(9,9,.var (y.1.c.map AV.d))] })
  (fun y=>At T y.2∧y.2.length≤L∧∃ k,y.2.length≤k∧outS fD T (chainS p sg ops k y.1 y.2)=o) (fun y=>y.2.length) (t,m) ⟨hm,by simp only; omega,_,Nat.le_refl _,ho⟩
  (sub_mk _ [(1000000,1000000,_),(8,8,_),(9,9,_)] ⟨by simp,by simp,by simp [renOf,Blk.live,zTm],base1⟩ (by simp [renOf])) ?_
 rintro ⟨t1,l1⟩ ⟨h1,hL,k,hk,ho1⟩
 simp only at h1 hL hk ho1
 have hone:=oneI_of sg l1
 cases hi:oneOf sg l1 with
 | none =>
   rw [hi] at hone
   simp only at hone
   have hr:chainS p sg ops k t1 l1=.ok (t1,l1):=by cases k with | zero=>rfl | succ k=>rw [chainS,hi]
   rw [hr] at ho1
   subst ho1
   rw [hone]
   simp [outS]
   all_goals exact gz
 | some i =>
   rw [hi] at hone
   simp only at hone
   have hlen:=one_len hi
   obtain ⟨k,rfl⟩:∃ q,k=q+1:=⟨k - 1,by omega⟩
   rw [chainS,hi] at ho1
   simp only at ho1
   have hil:i<sg.length:=by
    unfold oneOf at hi
    exact (List.findIdx?_eq_some_iff_getElem.1 hi).1
   have h2:=h1.tl1 hi
   have hop:ops[i]?=some ops[i]:=List.getElem?_eq_getElem (by omega)
   rw [hone,if_pos (by omega)]
   obtain ⟨op,hope⟩:∃ op,op=ops[i]:=⟨_,rfl⟩
   have hge:∀ h,ops[i]'h=op:=fun _=>hope.symm
   have hio:i<ops.length:=by omega
   rw [hop,← hope] at ho1
   simp only [Option.getD_some] at ho1
   obtain ⟨l2,hl2⟩:∃ l2,l2=l1.tail:=⟨_,rfl⟩
   rw [← hl2] at h2 ho1 hlen ⊢
   simp [hge,hio]
   (repeat' (first|contradiction|exact .ok|apply And.intro|intro _|(refine gc (fun h=>?_) (fun h=>?_)<;>(have h':=h;(try simp at h');first|done|simp[h,h',hge,hio]|simp[hge,hio]))))
   rcases hp.step h2 (by omega) with ⟨e,he',hc'⟩ | ⟨t',m',he',hm',hlm',hc'⟩
   ·rw [he'] at ho1
    subst ho1
    refine acallP_pan [1000000] hc' (by simp) (by simp) (by simp) (by simp) (by kernel_rfl)
   rw [he'] at ho1
   simp only at ho1
   refine acallP_of (acallT_hand [1000000] hc' (by simp) (by simp) (by simp) (by simp) (by simp) ?_)
   simp
   (repeat' (first|contradiction|exact .ok|apply And.intro|intro _|(refine gc (fun h=>?_) (fun h=>?_)<;>(have h':=h;(try simp at h');first|done|simp[h,h']|simp))))
   refine acallP_of (acallT_plain (ups (p_made op [t1,t'])) (by simp) ?_)
   simp
   (repeat' (first|contradiction|exact .ok|apply And.intro|intro _|(refine gc (fun h=>?_) (fun h=>?_)<;>(have h':=h;(try simp at h');first|done|simp[h,h']|simp))))
   refine acallP_of (acallT_hand [1000000] (ups (p_one hm'.sfx hm'.ne hT sg (by omega))) (by simp) (by simp) (by simp) (by simp) (by simp) ?_)
   simp
   (repeat' (first|contradiction|exact .ok|apply And.intro|intro _|(refine gc (fun h=>?_) (fun h=>?_)<;>(have h':=h;(try simp at h');first|done|simp[h,h']|simp))))
   refine ⟨(mkT op [t1,t'],m'),⟨hm',by simp only; omega,k,by simp only; omega,ho1⟩,?_,by simp only; omega⟩
   exact sub_mk _ [(1000000,1000000,_),(8,8,_),(9,9,_)] ⟨by simp,by simp,by simp [renOf,Blk.live,zTm],base1⟩ (by simp [renOf])
attribute [simp] wOr wAnd wNot wIs wNull wTrue wFalse wIn wOpen wShut wComma wDot wStar wMinus wLength wCoalesce wCase wWhen wThen wElse wEnd wCount wSum wMin wMax wDistinct wInt wBool wText cmpW addW mulW aggW
@[simp] theorem take_map (ks:List Tm):List.take ks.length (ks.map Tm.c)=ks.map Tm.c:=List.take_of_length_le (by simp)
theorem bind1_ok {β:Type} (l:List Tk) (f:List Tk→Res β):bind1 (.ok l) f=f l:=rfl
theorem bind1_err {β:Type} (e:Nat) (f:List Tk→Res β):bind1 (.error e) f=.error e:=rfl
theorem bind2_err {α β:Type} (e:Nat) (f:α→List Tk→Res β):bind2 (.error e) f=.error e:=rfl
theorem upO {f:FuncId} {xs:List AV} {B:List Blk} {o:Out} (h:CfO En f xs B o):CfO Es f xs B o:=CfO.more (E:=En) (E':=Es) rfl ups_g h
theorem upX {en:Value→Ending} {f:FuncId} {xs:List AV} {B:List Blk} {y:AV} {B':List Blk} (h:CfX en En f xs B y B'):CfX en Es f xs B y B':=CfX.more (E:=En) (E':=Es) rfl ups_g h
section
variable {fD:Nat→D} {T l:List Tk}
theorem take_yes (ha:At T l) (hT:T.length≤10000) {w:List UInt8} (h:isW w l=true):Cf Es 29 [.ptr 1000000 0 0,.d (.str w)] [rdB T l] (.d (.bool true)) [rdB T l.tail]:=by
 have h1:=ups (p_take ha.sfx ha.ne hT w)
 rw [h,if_pos rfl] at h1
 exact h1
theorem take_no (ha:At T l) (hT:T.length≤10000) {w:List UInt8} (h:isW w l=false):Cf Es 29 [.ptr 1000000 0 0,.d (.str w)] [rdB T l] (.d (.bool false)) [rdB T l]:=by
 have h1:=ups (p_take ha.sfx ha.ne hT w)
 rw [h,if_neg (by simp)] at h1
 exact h1
theorem one_yes (ha:At T l) (hT:T.length≤10000) {ws:List (List UInt8)} (hw:ws.length≤100) {i:Nat} (h:oneOf ws l=some i) :
  Cf Es 28 [.ptr 1000000 0 0,.d (.sl (ws.map fun w=>[.str w]))] [rdB T l] (.d (.int .i64 i)) [rdB T l.tail]:=by
 have h1:=ups (p_one ha.sfx ha.ne hT ws (by omega))
 rw [oneI_of,h] at h1
 simp only at h1
 rw [if_pos (by omega)] at h1
 exact h1
theorem one_no (ha:At T l) (hT:T.length≤10000) {ws:List (List UInt8)} (hw:ws.length≤100) (h:oneOf ws l=none) :
  Cf Es 28 [.ptr 1000000 0 0,.d (.sl (ws.map fun w=>[.str w]))] [rdB T l] (.d (.int .i64 (-1))) [rdB T l]:=by
 have h1:=ups (p_one ha.sfx ha.ne hT ws (by omega))
 rw [oneI_of,h] at h1
 simp only at h1
 rw [if_neg (by omega)] at h1
 exact h1
theorem exp_step (hF:FailOk fD) (ha:At T l) (hT:T.length≤10000) (ws:List (List UInt8)) (hw:ws.length≤100) :
  (∃ e,expS ws l=.error e∧CfX panE Es 41 [.ptr 1000000 0 0,.d (.sl (ws.map fun w=>[.str w]))] [rdB T l] (.d (fD e)) (deadB 1)) ∨
  (∃ m,expS ws l=.ok m∧At T m∧m.length≤l.length∧Cf Es 41 [.ptr 1000000 0 0,.d (.sl (ws.map fun w=>[.str w]))] [rdB T l] (.tup []) [rdB T m]):=by
 have h1:=upO (p_expect hF ha.sfx ha.ok hT ws (by omega))
 cases hp:expS ws l with
 | error e=>rw [hp] at h1; exact .inl ⟨e,rfl,h1⟩
 | ok m =>
   rw [hp] at h1
   exact .inr ⟨m,rfl,ha.to (exp_sfx _ _ _ hp) (exp_okE ws ha.ok hp),exp_len hp,h1⟩
theorem fail_at (hF:FailOk fD) (ha:At T l) (hT:T.length≤10000):CfX panE Es 26 [.ptr 1000000 0 0] [rdB T l] (.d (fD (posT l))) (deadB 1):=upX (hF T l ha.sfx ha.ne hT)
end
theorem rsv_words:rsv=words:=rfl
theorem p_name {fD:Nat→D} (hF:FailOk fD) {T l:List Tk} (ha:At T l) (hT:T.length≤10000) :
  CfO Es 63 [.ptr 1000000 0 0] [rdB T l] (outN fD T (nameS l)):=by
 have hp:=ups (p_peek ha.sfx ha.ne hT)
 have hf:=fail_at hF ha hT
 have hlen:=ha.sfx.length_le
 cases l with
 | nil=>exact absurd rfl ha.ne
 | cons t r =>
 generalize ho:outN fD T (nameS (t::r))=o
 simp only [posT] at hf
 have hn:=s_name t.rw
 rw [← rsv_words] at hn
 refine cfO_intro mixs (fn:=Tryz.f63) (by kernel_rfl) rfl (by kernel_rfl) (by decide) o (by simp) (by simp [rdB]) ?_
 simp only [hdT,tkA,tokC] at hp
 have hns:nameS (t::r)=if t.kd=1∧nameOk rsv t.rw=true then .ok (t.rw,r) else .error t.fr:=rfl
 by_cases h1:t.kd=1
 ·simp only [h1,show ((1:Int)=5)=False from by decide,if_false] at hp
  cases h2:nameOk rsv t.rw with
  | true =>
    rw [hns.trans (if_pos ⟨h1,h2⟩)] at ho
    rw [h2] at hn
    subst ho
    simp only [outN]
    have hi:T.length - r.length=T.length - (t::r).length+1:=by simp only [List.length_cons] at *; omega
    have hb:T.length - (t::r).length≤10000:=by omega
    unfold rdB at *
    rw [hi]
    generalize T.length - (t::r).length=i at *
    have hwr:=wrap_in (n:=(i:Int)+1) (by omega) (by omega)
    simp<;>(repeat' first|contradiction|exact .ok|apply And.intro|intro _|(refine gc (fun h=>?_) (fun h=>?_)<;>(have h':=h;(try simp at h');first|done|simp[h,h']|simp)))
    refine acallP_of (acallT_hand [1000000] (hp) (by simp) (by simp) (by simp) (by simp) (by simp) ?_)
    simp<;>(repeat' first|contradiction|exact .ok|apply And.intro|intro _|(refine gc (fun h=>?_) (fun h=>?_)<;>(have h':=h;(try simp at h');first|done|simp[h,h']|simp)))
    refine acallP_of (acallT_plain (hn) (by simp) ?_)
    simp [hwr]<;>(repeat' first|contradiction|exact .ok|apply And.intro|intro _|(refine gc (fun h=>?_) (fun h=>?_)<;>(have h':=h;(try simp at h');first|done|simp[h,h',hwr]|simp[hwr])))
  | false =>
    rw [hns.trans (if_neg (by simp [h2]))] at ho
    rw [h2] at hn
    subst ho
    simp only [outN]
    simp<;>(repeat' first|contradiction|exact .ok|apply And.intro|intro _|(refine gc (fun h=>?_) (fun h=>?_)<;>(have h':=h;(try simp at h');first|done|simp[h,h']|simp)))
    refine acallP_of (acallT_hand [1000000] (hp) (by simp) (by simp) (by simp) (by simp) (by simp) ?_)
    simp<;>(repeat' first|contradiction|exact .ok|apply And.intro|intro _|(refine gc (fun h=>?_) (fun h=>?_)<;>(have h':=h;(try simp at h');first|done|simp[h,h']|simp)))
    refine acallP_of (acallT_plain (hn) (by simp) ?_)
    simp<;>(repeat' first|contradiction|exact .ok|apply And.intro|intro _|(refine gc (fun h=>?_) (fun h=>?_)<;>(have h':=h;(try simp at h');first|done|simp[h,h']|simp)))
    exact acallP_pan [1000000] (hf) (by simp) (by simp) (by simp) (by simp) (by kernel_rfl)
 ·rw [hns.trans (if_neg (by simp [h1]))] at ho
  subst ho
  simp only [outN]
  by_cases h5:t.kd=5
  ·simp only [h5,if_true] at hp
   simp<;>(repeat' first|contradiction|exact .ok|apply And.intro|intro _|(refine gc (fun h=>?_) (fun h=>?_)<;>(have h':=h;(try simp at h');first|done|simp[h,h']|simp)))
   refine acallP_of (acallT_hand [1000000] (hp) (by simp) (by simp) (by simp) (by simp) (by simp) ?_)
   simp<;>(repeat' first|contradiction|exact .ok|apply And.intro|intro _|(refine gc (fun h=>?_) (fun h=>?_)<;>(have h':=h;(try simp at h');first|done|simp[h,h']|simp)))
   exact acallP_pan [1000000] (hf) (by simp) (by simp) (by simp) (by simp) (by kernel_rfl)
  ·simp only [h5,if_false] at hp
   simp<;>(repeat' first|contradiction|exact .ok|apply And.intro|intro _|(refine gc (fun h=>?_) (fun h=>?_)<;>(have h':=h;(try simp at h');first|done|simp[h,h']|simp)))
   refine acallP_of (acallT_hand [1000000] (hp) (by simp) (by simp) (by simp) (by simp) (by simp) ?_)
   simp [h1]<;>(repeat' first|contradiction|exact .ok|apply And.intro|intro _|(refine gc (fun h=>?_) (fun h=>?_)<;>(have h':=h;(try simp at h');first|done|simp[h,h',h1]|simp[h1])))
   exact acallP_pan [1000000] (hf) (by simp) (by simp) (by simp) (by simp) (by kernel_rfl)
theorem scan_end {s:List UInt8} {a:Nat} (h:skipB s a=s.length):(scanT s a).kd=5∧(scanT s a).rw=[]∧(scanT s a).fr=s.length∧(scanT s a).ends=true:=by
 have hd:s.drop s.length=[]:=List.drop_length
 refine ⟨?_,?_,h,?_⟩
 ·show (lexR (s.drop (skipB s a))).1=5
  rw [h,hd]; rfl
 ·show (s.drop (skipB s a)).take _=[]
  rw [h,hd]; rfl
 ·show ((lexR (s.drop (skipB s a))).1==0||(lexR (s.drop (skipB s a))).1==5)=true
  rw [h,hd]; rfl
theorem p_scan (s:List UInt8) (hs:s.length≤5000):Cf Es 24 [.d (.str s)] [] (.d (.sl ((toks s).map tokC))) []:=by
 refine cf_intro mixs (fn:=Tryz.f24) (by kernel_rfl) rfl (by kernel_rfl) (by decide) (by simp) ?_
 simp<;>(repeat' first|contradiction|exact .ok|apply And.intro|intro _|(refine gc (fun h=>?_) (fun h=>?_)<;>(have h':=h;(try simp at h');first|done|simp[h,h']|simp)))
 refine aloopT mixs (by decide) (fun y:Nat×List Tk=>{ s:=mkS [(0,.d (.str s)),(3,.ref 900 0 y.2.length 3),(4,.d (.int .i64 y.1))],b:=mkB [(900,900,.arr 73 3 (y.2.map tokC) false)] })
  (fun y=>y.1≤s.length∧y.2.length≤y.1∧∃ k,s.length+1≤k+y.1∧toks s=y.2++tokF s k y.1) (fun y=>s.length - y.1) (0,[]) ⟨by simp,by simp,s.length+1,by simp,rfl⟩
  (sub_mkn 3 900 73 3 (by simp) (by simp) (by decide) (by decide) _ [(900,900,_)] ⟨by simp,by simp,by simp [renOf,Blk.live,upd],by simp⟩ (by simp [renOf,upd])) ?_
 rintro ⟨a,L⟩ ⟨ha,hL,k,hk,hto⟩
 simp only at ha hL hk hto
 obtain ⟨k,rfl⟩:∃ z,k=z+1:=⟨k - 1,by omega⟩
 have hrun:=ups (p_run 39 blankB p_space (s.drop a) (by simp; omega))
 have hsk:=skip_le ha
 have hskd:skipB s a=a+((s.drop a).takeWhile blankB).length:=rfl
 generalize ((s.drop a).takeWhile blankB).length=n at *
 have hwr:=wrap_in (n:=(a:Int)+(n:Int)) (by omega) (by omega)
 have hal:(a:Int)≤(s.length:Int):=by omega
 have hbb:(L.length+1)*32≤140737488355328:=by omega
 have hb2:L.length≤9223372036854775806:=by omega
 simp [hal,ha]<;>(repeat' first|contradiction|exact .ok|apply And.intro|intro _|(refine gc (fun h=>?_) (fun h=>?_)<;>(have h':=h;(try simp at h');first|done|simp[h,h',hal,ha]|simp[hal,ha])))
 refine acallT_plain hrun (by simp) ?_
 obtain ⟨a',ha'⟩:∃ a',a'=skipB s a:=⟨_,rfl⟩
 have hz:(a:Int)+(n:Int)=a':=by omega
 have hz':a+n=a':=by omega
 rw [hz] at hwr
 rw [tokF] at hto
 by_cases he:a'=s.length
 ·obtain ⟨k5,rw5,fr5,e5⟩:=scan_end (ha' ▸ he)
  rw [if_pos e5] at hto
  have heI:(a:Int)+(n:Int)=(s.length:Int):=by omega
  have hwr2:IntKind.i64.wrap (s.length:Int)=(s.length:Int):=wrap_in (by omega) (by omega)
  simp [heI,hwr2,hbb,hb2]<;>(repeat' first|contradiction|exact .ok|apply And.intro|intro _|(refine gc (fun h=>?_) (fun h=>?_)<;>(have h':=h;(try simp at h');first|done|simp[h,h',heI,hwr2,hbb,hb2]|simp[heI,hwr2,hbb,hb2])))
  all_goals (rw [hto,List.take_of_length_le (by simp)]; simp [tokC,k5,rw5,fr5])
 ·have heI:¬ (a':Int)=(s.length:Int):=by omega
  obtain ⟨c,q,hcq⟩:∃ c q,s.drop a'=c::q:=by
   cases hd:s.drop a' with
   | nil=>have:=List.drop_eq_nil_iff.1 hd; omega
   | cons c q=>exact ⟨c,q,rfl⟩
  have hnx:=p_next c q (by rw [← hcq]; simp; omega)
  have hal':(a':Int)≤(s.length:Int):=by omega
  have hal2:a'≤s.length:=by omega
  simp [hz,hwr,heI,hal',hal2]<;>(repeat' first|contradiction|exact .ok|apply And.intro|intro _|(refine gc (fun h=>?_) (fun h=>?_)<;>(have h':=h;(try simp at h');first|done|simp[h,h',hz,hwr,heI,hal',hal2]|simp[hz,hwr,heI,hal',hal2])))
  refine acallT_plain hnx (by simp [hcq]) ?_
  have hto2:=scan_to ha
  have hk5:(lexR (c::q)).1 ≠ 5:=lex_kd
  have htk:scanT s a=⟨(lexR (c::q)).1,(c::q).take (lexR (c::q)).2.1,(lexR (c::q)).2.2.1,(lexR (c::q)).2.2.2,a',a'+(lexR (c::q)).2.1⟩:=by
   unfold scanT
   rw [← ha',hcq]
  rw [htk] at hto hto2
  unfold nxA
  generalize lexR (c::q)=x at *
  obtain ⟨kd,n2,tx,nn⟩:=x
  simp only at hto hto2 hk5 htk
  have hwr3:=wrap_in (n:=(a':Int)+(n2:Int)) (by omega) (by omega)
  obtain ⟨z,hz2⟩:∃ z,z=a'+n2:=⟨_,rfl⟩
  have hz3:(a':Int)+(n2:Int)=z:=by omega
  rw [hz3] at hwr3
  have hlo:(a':Int)≤(z:Int):=by omega
  have hhi:(z:Int)≤(s.length:Int):=by omega
  have htx:List.drop a' (List.take z s)=List.take n2 (c::q):=by rw [hz2,← hcq,List.drop_take,Nat.add_sub_cancel_left]
  by_cases h0:kd=0
  ·have hen:Tk.ends ⟨kd,(c::q).take n2,tx,nn,a',a'+n2⟩=true:=by simp [Tk.ends,h0]
   rw [if_pos hen] at hto
   simp [hz3,hwr3,hlo,hhi,hbb,hb2,h0]<;>(repeat' first|contradiction|exact .ok|apply And.intro|intro _|(refine gc (fun h=>?_) (fun h=>?_)<;>(have h':=h;(try simp at h');first|done|simp[h,h',hz3,hwr3,hlo,hhi,hbb,hb2,h0]|simp[hz3,hwr3,hlo,hhi,hbb,hb2,h0])))
   all_goals (rw [hto,List.take_of_length_le (by simp)]; simp [tokC,h0,htx])
  ·have hen:Tk.ends ⟨kd,(c::q).take n2,tx,nn,a',a'+n2⟩=false:=by simp [Tk.ends,h0,hk5]
   rw [if_neg (by simp [hen])] at hto
   simp [hz3,hwr3,hlo,hhi,hbb,hb2,h0]<;>(repeat' first|contradiction|exact .ok|apply And.intro|intro _|(refine gc (fun h=>?_) (fun h=>?_)<;>(have h':=h;(try simp at h');first|done|simp[h,h',hz3,hwr3,hlo,hhi,hbb,hb2,h0]|simp[hz3,hwr3,hlo,hhi,hbb,hb2,h0])))
   obtain ⟨h21,h22,h23,h24⟩:=hto2
   have h25:=h24 hen
   refine ⟨(z,L++[⟨kd,(c::q).take n2,tx,nn,a',a'+n2⟩]),⟨by simp only; omega,by simp; omega,k,by simp only; omega,by rw [hto,hz2]; simp⟩,?_,by simp only; omega⟩
   exact sub_mk _ [(900,40,_)] ⟨by simp,by simp,by simp [renOf,Blk.live,tokC,hk5,htx],by simp⟩ (by simp [renOf])
end Go.Proofs.Tryz
