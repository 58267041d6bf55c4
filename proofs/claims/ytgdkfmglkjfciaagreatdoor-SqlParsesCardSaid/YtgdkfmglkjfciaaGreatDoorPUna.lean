import Derived.Test.YtgdkfmglkjfciaaGreatDoorLvl
import Derived.Test.YtgdkfmglkjfciaaGreatDoorAgq
import Derived.Test.YtgdkfmglkjfciaaGreatDoorVpp
set_option linter.all false
namespace Go.Proofs.Tryz
open Go.Ab
set_option maxRecDepth 100000
set_option maxHeartbeats 8000000
section
variable {fD:Nat→D} {T l:List Tk} {L:Nat} {p:List Tk→Res Tm}
theorem p_list (hF:FailOk fD) (hp:Rule Es fD T L 62 p) (hT:T.length≤10000) (ha:At T l) (hl:l.length≤L) (m:Nat) (hm:m≤10) :
  CfO Es 145 [.ptr 1000000 0 0,.d (.int .i64 ((m+1:Nat):Int))] [rdB T l] (outL fD T (listS p m l)):=by
 generalize ho:outL fD T (listS p m l)=o
 unfold listS at ho
 refine cfO_intro mixs (fn:=Tryz.f145) (by kernel_rfl) rfl (by kernel_rfl) (by decide) o (by simp) (by simp [rdB]) ?_
 simp<;>(repeat' first|contradiction|exact .ok|apply And.intro|intro _|(refine gc (fun h=>?_) (fun h=>?_)<;>(have h':=h;(try simp at h');first|done|simp[h,h']|simp)))
 rcases exp_step hF ha hT [wOpen] (by decide) with ⟨e,he,hc⟩ | ⟨l1,he,h1,hl1,hc⟩
 ·rw [he] at ho
  subst ho
  exact acallP_pan [1000000] (hc) (by simp) (by simp) (by simp) (by simp) (by kernel_rfl)
 rw [he,bind1_ok] at ho
 refine acallP_of (acallT_hand [1000000] (hc) (by simp) (by simp) (by simp) (by simp) (by simp) ?_)
 simp<;>(repeat' first|contradiction|exact .ok|apply And.intro|intro _|(refine gc (fun h=>?_) (fun h=>?_)<;>(have h':=h;(try simp at h');first|done|simp[h,h']|simp)))
 rcases hp.step h1 (by omega) with ⟨e,he2,hc2⟩ | ⟨t,l2,he2,h2,hl2,hc2⟩
 ·rw [he2] at ho
  subst ho
  exact acallP_pan [1000000] (hc2) (by simp) (by simp) (by simp) (by simp) (by kernel_rfl)
 rw [he2,bind2_ok] at ho
 refine acallP_of (acallT_hand [1000000] (hc2) (by simp) (by simp) (by simp) (by simp) (by simp) ?_)
 simp<;>(repeat' first|contradiction|exact .ok|apply And.intro|intro _|(refine gc (fun h=>?_) (fun h=>?_)<;>(have h':=h;(try simp at h');first|done|simp[h,h']|simp)))
 refine aloopPT mixs (by decide) (fun y:List Tm×List Tk=>{ s:=mkS [(0,.ptr 1000000 0 0),(1,.d (.int .i64 ((m+1:Nat):Int))),(5,.ref 900 0 y.1.length 6)],b:=mkB [(1000000,1000000,rdB T y.2),(900,900,.arr 57 6 (y.1.map Tm.c) false)] })
  (fun y=>At T y.2∧y.2.length≤L∧1≤y.1.length∧y.1.length≤m+1∧outL fD T (bind2 (restS p (m+1 - y.1.length) y.1 y.2) fun ks l3=>bind1 (expS [wShut] l3) fun l4=>.ok (ks,l4))=o) (fun y=>m+1 - y.1.length) ([t],l2) ⟨h2,by simp only; omega,by simp,by simp,by simpa using ho⟩
  (sub_mk _ [(1000000,1000000,_),(900,11,_)] ⟨by simp,by simp,by simp [renOf,Blk.live],base1⟩ (by simp [renOf])) ?_
 rintro ⟨ks,l3⟩ ⟨h3,hl3,hk1,hk2,ho3⟩
 simp only at h3 hl3 hk1 hk2 ho3
 by_cases hlt:ks.length<m+1
 ·have hlt':(ks.length:Int)<(m:Int)+1:=by omega
  obtain ⟨q,hq⟩:∃ q,m+1 - ks.length=q+1:=⟨m - ks.length,by omega⟩
  rw [hq,restS] at ho3
  simp [hlt,hlt']<;>(repeat' first|contradiction|exact .ok|apply And.intro|intro _|(refine gc (fun h=>?_) (fun h=>?_)<;>(have h':=h;(try simp at h');first|done|simp[h,h',hlt,hlt']|simp[hlt,hlt'])))
  rcases exp_step hF h3 hT [wComma] (by decide) with ⟨e,he3,hc3⟩ | ⟨l4,he3,h4,hl4,hc3⟩
  ·rw [he3,bind1_err,bind2_err] at ho3
   subst ho3
   exact acallP_pan [1000000] (hc3) (by simp) (by simp) (by simp) (by simp) (by kernel_rfl)
  rw [he3,bind1_ok] at ho3
  refine acallP_of (acallT_hand [1000000] (hc3) (by simp) (by simp) (by simp) (by simp) (by simp) ?_)
  simp<;>(repeat' first|contradiction|exact .ok|apply And.intro|intro _|(refine gc (fun h=>?_) (fun h=>?_)<;>(have h':=h;(try simp at h');first|done|simp[h,h']|simp)))
  rcases hp.step h4 (by omega) with ⟨e,he4,hc4⟩ | ⟨t4,l5,he4,h5,hl5,hc4⟩
  ·rw [he4,bind2_err,bind2_err] at ho3
   subst ho3
   exact acallP_pan [1000000] (hc4) (by simp) (by simp) (by simp) (by simp) (by kernel_rfl)
  rw [he4,bind2_ok] at ho3
  have hb:(ks.length+1)*80≤140737488355328∧ks.length≤9223372036854775806:=by omega
  refine acallP_of (acallT_hand [1000000] (hc4) (by simp) (by simp) (by simp) (by simp) (by simp) ?_)
  simp [hb]<;>(repeat' first|contradiction|exact .ok|apply And.intro|intro _|(refine gc (fun h=>?_) (fun h=>?_)<;>(have h':=h;(try simp at h');first|done|simp[h,h',hb]|simp[hb])))
  refine ⟨(ks++[t4],l5),⟨h5,by simp only; omega,by simp,by simp; omega,?_⟩,?_,by simp; omega⟩
  ·simp only [List.length_append,List.length_singleton]
   rw [show m+1 - (ks.length+1)=q from by omega]
   exact ho3
  exact sub_mk _ [(1000000,1000000,_),(900,23,_)] ⟨by simp,by simp,by simp [renOf,Blk.live],base1⟩ (by simp [renOf])
 ·obtain hkm:ks.length=m+1:=by omega
  rw [hkm,Nat.sub_self,restS,bind2_ok] at ho3
  simp [hkm]<;>(repeat' first|contradiction|exact .ok|apply And.intro|intro _|(refine gc (fun h=>?_) (fun h=>?_)<;>(have h':=h;(try simp at h');first|done|simp[h,h',hkm]|simp[hkm])))
  rcases exp_step hF h3 hT [wShut] (by decide) with ⟨e,he3,hc3⟩ | ⟨l4,he3,h4,hl4,hc3⟩
  ·rw [he3,bind1_err] at ho3
   subst ho3
   exact acallP_pan [1000000] (hc3) (by simp) (by simp) (by simp) (by simp) (by kernel_rfl)
  rw [he3,bind1_ok] at ho3
  subst ho3
  refine acallP_of (acallT_hand [1000000] (hc3) (by simp) (by simp) (by simp) (by simp) (by simp) ?_)
  simp only [outL]
  simp [hkm]<;>(repeat' first|contradiction|exact .ok|apply And.intro|intro _|(refine gc (fun h=>?_) (fun h=>?_)<;>(have h':=h;(try simp at h');first|done|simp[h,h',hkm]|simp[hkm])))
  all_goals exact List.take_of_length_le (by simp; omega)
end
structure TkV (t:Tk):Prop where
 num:t.kd=2→resP t.rw=(V.mk 1 t.n [],0)
 txt:t.kd=3→resP t.rw=(V.mk 3 0 t.tx,0)
 len:t.rw.length≤10000
def okT (T:List Tk):Prop:=∀ t∈T,TkV t
def priS (q:List Tk→Res Tm):List Tk→Res Tm
 | []=>.error 0
 | t::r =>
   if t.kd=2 then .ok (.mk 2 0 t.n [] [] [],r)
   else if t.kd=3 then .ok (.mk 4 0 0 t.tx [] [],r)
   else if isW wTrue (t::r)=true then .ok (.mk 3 0 1 [] [] [],r)
   else if isW wFalse (t::r)=true then .ok (mkT 3 [],r)
   else if isW wNull (t::r)=true then (match oneOf [wInt,wBool,wText] r with
    | some i=>.ok (.mk 1 (1+i) 0 [] [] [],r.tail)
    | none=>.error (posT r))
   else if isW wOpen (t::r)=true then bind2 (q r) fun t l2=>bind1 (expS [wShut] l2) fun l3=>.ok (t,l3)
   else if isW wLength (t::r)=true then bind2 (listS q 0 r) fun ks l2=>.ok (mkT 13 ks,l2)
   else if isW wCoalesce (t::r)=true then bind2 (listS q 1 r) fun ks l2=>.ok (mkT 27 ks,l2)
   else if isW wCase (t::r)=true then bind2 (caseS q [wWhen,wThen,wElse] [] r) fun ks l2=>bind1 (expS [wEnd] l2) fun l3=>.ok (mkT 26 ks,l3)
   else match oneOf aggW (t::r) with
    | some i=>aggS q i r
    | none=>bind2 (nameS (t::r)) fun a l1 =>
      if isW wDot l1=true then bind2 (nameS l1.tail) fun b l2=>.ok (.mk 40 0 0 b a [],l2) else .ok (.mk 40 0 0 a [] [],l1)
section
variable {fD:Nat→D} {T:List Tk} {L:Nat} {q:List Tk→Res Tm}
theorem p_prim_num {t:Tk} {r:List Tk} (hV:okT T) (hT:T.length≤10000) (ha:At T (t::r)) (hk:t.kd=2) :
  Cf Es 141 [.ptr 1000000 0 0] [rdB T (t::r)] (Tm.mk 2 0 t.n [] [] []).a [rdB T r]:=by
 have hp:=ups (p_peek ha.sfx ha.ne hT)
 have hv:=hV t (ha.sfx.subset List.mem_cons_self)
 have hlen:=ha.sfx.length_le
 have hpar:=upw (v_parse t.rw (by have:=hv.len; omega))
 rw [hv.num hk] at hpar
 refine cf_intro mixs (fn:=Tryz.f141) (by kernel_rfl) rfl (by kernel_rfl) (by decide) (by simp [rdB]) ?_
 simp only [hdT,tkA,tokC,hk,show ((2:Int)=5)=False from by decide,if_false] at hp
 have hi:T.length - r.length=T.length - (t::r).length+1:=by simp only [List.length_cons] at *; omega
 have hb:T.length - (t::r).length≤10000:=by omega
 unfold rdB at *
 rw [hi]
 generalize T.length - (t::r).length=i at *
 have hwr:=wrap_in (n:=(i:Int)+1) (by omega) (by omega)
 simp [V.a,V.c] at hp hpar ⊢
 (repeat' (first|contradiction|exact .ok|apply And.intro|intro _|(refine gc (fun h=>?_) (fun h=>?_)<;>(have h':=h;(try simp at h');first|done|simp[h,h']|simp))))
 refine acallT_hand [1000000] (hp) (by simp) (by simp) (by simp) (by simp) (by simp) ?_
 simp [hwr]<;>(repeat' first|contradiction|exact .ok|apply And.intro|intro _|(refine gc (fun h=>?_) (fun h=>?_)<;>(have h':=h;(try simp at h');first|done|simp[h,h',hwr]|simp[hwr])))
 refine acallT_plain hpar (by simp) ?_
 simp<;>(repeat' first|contradiction|exact .ok|apply And.intro|intro _|(refine gc (fun h=>?_) (fun h=>?_)<;>(have h':=h;(try simp at h');first|done|simp[h,h']|simp)))
 refine acallT_plain (ups (p_made 2 [])) (by simp) ?_
 simp [mkT,Tm.c,tmsC,hwr]<;>(repeat' first|contradiction|exact .ok|apply And.intro|intro _|(refine gc (fun h=>?_) (fun h=>?_)<;>(have h':=h;(try simp at h');first|done|simp[h,h',mkT,Tm.c,tmsC,hwr]|simp[mkT,Tm.c,tmsC,hwr])))
theorem p_prim_txt {t:Tk} {r:List Tk} (hV:okT T) (hT:T.length≤10000) (ha:At T (t::r)) (hk:t.kd=3) :
  Cf Es 141 [.ptr 1000000 0 0] [rdB T (t::r)] (Tm.mk 4 0 0 t.tx [] []).a [rdB T r]:=by
 have hp:=ups (p_peek ha.sfx ha.ne hT)
 have hv:=hV t (ha.sfx.subset List.mem_cons_self)
 have hlen:=ha.sfx.length_le
 have hpar:=upw (v_parse t.rw (by have:=hv.len; omega))
 rw [hv.txt hk] at hpar
 refine cf_intro mixs (fn:=Tryz.f141) (by kernel_rfl) rfl (by kernel_rfl) (by decide) (by simp [rdB]) ?_
 simp only [hdT,tkA,tokC,hk,show ((3:Int)=5)=False from by decide,if_false] at hp
 have hi:T.length - r.length=T.length - (t::r).length+1:=by simp only [List.length_cons] at *; omega
 have hb:T.length - (t::r).length≤10000:=by omega
 unfold rdB at *
 rw [hi]
 generalize T.length - (t::r).length=i at *
 have hwr:=wrap_in (n:=(i:Int)+1) (by omega) (by omega)
 simp [V.a,V.c] at hp hpar ⊢
 (repeat' (first|contradiction|exact .ok|apply And.intro|intro _|(refine gc (fun h=>?_) (fun h=>?_)<;>(have h':=h;(try simp at h');first|done|simp[h,h']|simp))))
 refine acallT_hand [1000000] (hp) (by simp) (by simp) (by simp) (by simp) (by simp) ?_
 simp [hwr]<;>(repeat' first|contradiction|exact .ok|apply And.intro|intro _|(refine gc (fun h=>?_) (fun h=>?_)<;>(have h':=h;(try simp at h');first|done|simp[h,h',hwr]|simp[hwr])))
 refine acallT_plain hpar (by simp) ?_
 simp<;>(repeat' first|contradiction|exact .ok|apply And.intro|intro _|(refine gc (fun h=>?_) (fun h=>?_)<;>(have h':=h;(try simp at h');first|done|simp[h,h']|simp)))
 refine acallT_plain (ups (p_made 2 [])) (by simp) ?_
 simp [mkT,Tm.c,tmsC,hwr]<;>(repeat' first|contradiction|exact .ok|apply And.intro|intro _|(refine gc (fun h=>?_) (fun h=>?_)<;>(have h':=h;(try simp at h');first|done|simp[h,h',mkT,Tm.c,tmsC,hwr]|simp[mkT,Tm.c,tmsC,hwr])))
 refine acallT_plain (ups (p_made 4 [])) (by simp) ?_
 simp [mkT,Tm.c,tmsC,hwr]<;>(repeat' first|contradiction|exact .ok|apply And.intro|intro _|(refine gc (fun h=>?_) (fun h=>?_)<;>(have h':=h;(try simp at h');first|done|simp[h,h',mkT,Tm.c,tmsC,hwr]|simp[mkT,Tm.c,tmsC,hwr])))
end
section
variable {fD:Nat→D} {T l:List Tk} {L:Nat} {p q:List Tk→Res Tm}
theorem isNum_hd {l:List Tk} (hn:l ≠ []):isNum l=((hdT l).kd==2&&(hdT l).rw != [48]):=by
 cases l with
 | nil=>exact absurd rfl hn
 | cons t r=>rfl
theorem p_unary (hp:Rule Es fD T L 138 p) (hq:Rule Es fD T (L+1) 141 q) (hqn:∀ l,At T l→l.length≤L→isNum l=true→q l=.ok (.mk 2 0 (hdT l).n [] [] [],l.tail)) (hT:T.length≤10000) (ha:At T l) (hl:l.length≤L+1) :
  CfO Es 138 [.ptr 1000000 0 0] [rdB T l] (outS fD T (if isW wMinus l=true then (if isNum l.tail=true then .ok (.mk 2 0 (IntKind.i64.wrap (-(hdT l.tail).n)) [] [] [],l.tail.tail) else mapT (fun t=>mkT 11 [t]) (p l.tail)) else q l)):=by
 generalize ho:outS fD T (if isW wMinus l=true then (if isNum l.tail=true then .ok (.mk 2 0 (IntKind.i64.wrap (-(hdT l.tail).n)) [] [] [],l.tail.tail) else mapT (fun t=>mkT 11 [t]) (p l.tail)) else q l)=o
 refine cfO_intro mixs (fn:=Tryz.f138) (by kernel_rfl) rfl (by kernel_rfl) (by decide) o (by simp) (by simp [rdB]) ?_
 cases hw:isW wMinus l with
 | true =>
   rw [hw,if_pos rfl] at ho
   have hlen:=isW_len hw
   have h1:=ha.tl hw
   have hk:=ups (p_peek h1.sfx h1.ne hT)
   have hnm:=isNum_hd h1.ne
   have hq1:=hqn l.tail h1 (by omega)
   have ht:=take_yes ha hT hw
   obtain ⟨l1,hl1⟩:∃ l1,l1=l.tail:=⟨_,rfl⟩
   rw [← hl1] at ho h1 hk hnm hq1 hlen ht
   simp<;>(repeat' first|contradiction|exact .ok|apply And.intro|intro _|(refine gc (fun h=>?_) (fun h=>?_)<;>(have h':=h;(try simp at h');first|done|simp[h,h']|simp)))
   refine acallP_of (acallT_hand [1000000] (ht) (by simp) (by simp) (by simp) (by simp) (by simp) ?_)
   simp [tkA,tokC]<;>(repeat' first|contradiction|exact .ok|apply And.intro|intro _|(refine gc (fun h=>?_) (fun h=>?_)<;>(have h':=h;(try simp at h');first|done|simp[h,h',tkA,tokC]|simp[tkA,tokC])))
   refine acallP_of (acallT_hand [1000000] (hk) (by simp) (by simp) (by simp) (by simp) (by simp) ?_)
   cases hb:isNum l1 with
   | true =>
     rw [hb,if_pos rfl] at ho
     rw [hb] at hnm
     subst ho
     have hk2:(hdT l1).kd=2∧((hdT l1).rw != [48])=true:=by simpa using hnm.symm
     rcases hq.step h1 (by omega) with ⟨e,he,hc⟩ | ⟨t,m,he,hm,hlm,hc⟩
     ·rw [hq1 hb] at he; cases he
     rw [hq1 hb] at he
     simp only [Except.ok.injEq,Prod.mk.injEq] at he
     obtain ⟨rfl,rfl⟩:=he
     generalize hdT l1=tk at *
     have hk3:¬ tk.rw=[48]:=by simpa using hk2.2
     simp [tkA,tokC,hk2.1,hk3]<;>(repeat' first|contradiction|exact .ok|apply And.intro|intro _|(refine gc (fun h=>?_) (fun h=>?_)<;>(have h':=h;(try simp at h');first|done|simp[h,h',tkA,tokC,hk2.1,hk3]|simp[tkA,tokC,hk2.1,hk3])))
     refine acallP_of (acallT_hand [1000000] (hc) (by simp) (by simp) (by simp) (by simp) (by simp) ?_)
     simp only [outS]
     simp [Tm.c,tmsC]<;>(repeat' first|contradiction|exact .ok|apply And.intro|intro _|(refine gc (fun h=>?_) (fun h=>?_)<;>(have h':=h;(try simp at h');first|done|simp[h,h',Tm.c,tmsC]|simp[Tm.c,tmsC])))
   | false =>
     rw [hb,if_neg (by simp)] at ho
     rw [hb] at hnm
     have hstep:=hp.step h1 (by omega)
     generalize hdT l1=tk at *
     have hk2:tk.kd=2→tk.rw=[48]:=fun h=>by simpa [h] using hnm.symm
     by_cases k2:tk.kd=2
     ·have hk3:=hk2 k2
      simp [tkA,tokC,k2,hk3]<;>(repeat' first|contradiction|exact .ok|apply And.intro|intro _|(refine gc (fun h=>?_) (fun h=>?_)<;>(have h':=h;(try simp at h');first|done|simp[h,h',tkA,tokC,k2,hk3]|simp[tkA,tokC,k2,hk3])))
      rcases hstep with ⟨e,he,hc⟩ | ⟨t,m,he,hm,hlm,hc⟩
      ·rw [he] at ho
       subst ho
       exact acallP_pan [1000000] (hc) (by simp) (by simp) (by simp) (by simp) (by kernel_rfl)
      rw [he] at ho
      subst ho
      refine acallP_of (acallT_hand [1000000] (hc) (by simp) (by simp) (by simp) (by simp) (by simp) ?_)
      simp<;>(repeat' first|contradiction|exact .ok|apply And.intro|intro _|(refine gc (fun h=>?_) (fun h=>?_)<;>(have h':=h;(try simp at h');first|done|simp[h,h']|simp)))
      refine acallP_of (acallT_plain (ups (p_made 11 [t])) (by simp) ?_)
      simp only [mapT,bind2,outS]
      simp<;>(repeat' first|contradiction|exact .ok|apply And.intro|intro _|(refine gc (fun h=>?_) (fun h=>?_)<;>(have h':=h;(try simp at h');first|done|simp[h,h']|simp)))
     ·by_cases k5:tk.kd=5
      ·simp [tkA,tokC,k5]<;>(repeat' first|contradiction|exact .ok|apply And.intro|intro _|(refine gc (fun h=>?_) (fun h=>?_)<;>(have h':=h;(try simp at h');first|done|simp[h,h',tkA,tokC,k5]|simp[tkA,tokC,k5])))
       rcases hstep with ⟨e,he,hc⟩ | ⟨t,m,he,hm,hlm,hc⟩
       ·rw [he] at ho
        subst ho
        exact acallP_pan [1000000] (hc) (by simp) (by simp) (by simp) (by simp) (by kernel_rfl)
       rw [he] at ho
       subst ho
       refine acallP_of (acallT_hand [1000000] (hc) (by simp) (by simp) (by simp) (by simp) (by simp) ?_)
       simp<;>(repeat' first|contradiction|exact .ok|apply And.intro|intro _|(refine gc (fun h=>?_) (fun h=>?_)<;>(have h':=h;(try simp at h');first|done|simp[h,h']|simp)))
       refine acallP_of (acallT_plain (ups (p_made 11 [t])) (by simp) ?_)
       simp only [mapT,bind2,outS]
       simp<;>(repeat' first|contradiction|exact .ok|apply And.intro|intro _|(refine gc (fun h=>?_) (fun h=>?_)<;>(have h':=h;(try simp at h');first|done|simp[h,h']|simp)))
      ·simp [tkA,tokC,k2,k5]<;>(repeat' first|contradiction|exact .ok|apply And.intro|intro _|(refine gc (fun h=>?_) (fun h=>?_)<;>(have h':=h;(try simp at h');first|done|simp[h,h',tkA,tokC,k2,k5]|simp[tkA,tokC,k2,k5])))
       rcases hstep with ⟨e,he,hc⟩ | ⟨t,m,he,hm,hlm,hc⟩
       ·rw [he] at ho
        subst ho
        exact acallP_pan [1000000] (hc) (by simp) (by simp) (by simp) (by simp) (by kernel_rfl)
       rw [he] at ho
       subst ho
       refine acallP_of (acallT_hand [1000000] (hc) (by simp) (by simp) (by simp) (by simp) (by simp) ?_)
       simp<;>(repeat' first|contradiction|exact .ok|apply And.intro|intro _|(refine gc (fun h=>?_) (fun h=>?_)<;>(have h':=h;(try simp at h');first|done|simp[h,h']|simp)))
       refine acallP_of (acallT_plain (ups (p_made 11 [t])) (by simp) ?_)
       simp only [mapT,bind2,outS]
       simp<;>(repeat' first|contradiction|exact .ok|apply And.intro|intro _|(refine gc (fun h=>?_) (fun h=>?_)<;>(have h':=h;(try simp at h');first|done|simp[h,h']|simp)))
 | false =>
   rw [hw,if_neg (by simp)] at ho
   simp<;>(repeat' first|contradiction|exact .ok|apply And.intro|intro _|(refine gc (fun h=>?_) (fun h=>?_)<;>(have h':=h;(try simp at h');first|done|simp[h,h']|simp)))
   refine acallP_of (acallT_hand [1000000] (take_no ha hT hw) (by simp) (by simp) (by simp) (by simp) (by simp) ?_)
   simp<;>(repeat' first|contradiction|exact .ok|apply And.intro|intro _|(refine gc (fun h=>?_) (fun h=>?_)<;>(have h':=h;(try simp at h');first|done|simp[h,h']|simp)))
   rcases hq.step ha hl with ⟨e,he,hc⟩ | ⟨t,m,he,hm,hlm,hc⟩
   ·rw [he] at ho
    subst ho
    exact acallP_pan [1000000] (hc) (by simp) (by simp) (by simp) (by simp) (by kernel_rfl)
   rw [he] at ho
   subst ho
   refine acallP_of (acallT_hand [1000000] (hc) (by simp) (by simp) (by simp) (by simp) (by simp) ?_)
   simp only [outS]
   simp<;>(repeat' first|contradiction|exact .ok|apply And.intro|intro _|(refine gc (fun h=>?_) (fun h=>?_)<;>(have h':=h;(try simp at h');first|done|simp[h,h']|simp)))
end
end Go.Proofs.Tryz
