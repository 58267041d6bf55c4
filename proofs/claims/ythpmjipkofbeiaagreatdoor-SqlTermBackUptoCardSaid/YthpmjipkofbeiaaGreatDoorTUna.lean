import Derived.Test.YthpmjipkofbeiaaGreatDoorTVall
import Derived.Test.YthpmjipkofbeiaaGreatDoorTLvl
set_option linter.all false
namespace Go.Proofs.Tryz
open Go.Ab
set_option maxRecDepth 100000
set_option maxHeartbeats 4000000
mutual
def Tm.wgt:Tm→Nat
 | .mk _ _ _ t q ks=>60+(t.length+(q.length+tmsWgt ks))
def tmsWgt:List Tm→Nat
 | []=>0
 | k::ks=>k.wgt+tmsWgt ks
end
def lensB:List (List UInt8)→Nat
 | []=>0
 | s::r=>s.length+lensB r
theorem at1_len (W:List (List UInt8)):(at1 W [] 0).length+((at1 W [] 1).length+(at1 W [] 2).length)≤lensB W:=by
 match W with
 | []=>simp [at1,lensB]
 | [a]=>simp [at1,lensB]
 | [a,b]=>simp [at1,lensB]
 | a::b::c::r=>simp [at1,lensB]
theorem joinB_len:∀ W:List (List UInt8),(joinB W).length≤lensB W+2*W.length
 | []=>by simp [joinB,lensB]
 | [a]=>by simp [joinB,lensB]
 | a::b::r=>by
   have:=joinB_len (b::r)
   rw [show joinB (a::b::r)=a++44::32::joinB (b::r) from rfl,lensB]
   simp only [List.length_append,List.length_cons] at this ⊢
   omega
theorem join1_len (W:List (List UInt8)):(at1 W [] 0).length+(joinB (W.drop 1)).length≤lensB W+2*W.length:=by
 cases W with
 | nil=>simp [at1,joinB,lensB]
 | cons a r =>
   have:=joinB_len r
   simp only [at1,List.drop_succ_cons,List.drop_zero,List.getElem?_cons_zero,Option.getD_some,lensB,List.length_cons]
   omega
theorem plB_len (want r:Nat) (s:List UInt8):(plB want r s).length≤s.length+2∧s.length≤(plB want r s).length:=by
 unfold plB
 split
 ·simp; omega
 ·simp
theorem ite_len {c:Prop} [Decidable c] {a b:List UInt8} {n:Nat} (h1:a.length≤n) (h2:b.length≤n):(if c then a else b).length≤n:=by split <;> assumption
theorem sgB_len {o:Int} {x:List UInt8×Nat×Nat×Nat} (h:sgB o=some x):x.1.length≤4:=by
 unfold sgB at h
 repeat' split at h
 all_goals first | (cases h; decide) | (cases h; rename_i hc; have:o=14∨o=15∨o=16∨o=17∨o=18∨o=19∨o=20:=(by omega); rcases this with rfl | rfl | rfl | rfl | rfl | rfl | rfl <;> decide) | cases h
theorem itoa_le {n:Int} (h0:-9223372036854775808≤n) (h1:n≤9223372036854775807):(Lib.itoa n).length≤21:=by
 have key:∀ u:Nat,u≤9223372036854775808→Lib.nDigits u≤20:=fun u hu=>by
  rcases Nat.eq_zero_or_pos u with h | h
  ·subst h; rw [Lib.nDigits_small (by decide)]; decide
  ·have:=Lib.numDigits_eq u h (by omega)
   split at this <;> omega
 unfold Lib.itoa
 split
 ·have:=key n.natAbs (by omega)
  rw [List.length_cons,Lib.decDigits_length]; omega
 ·have:=key n.toNat (by omega)
  rw [Lib.decDigits_length]; omega
theorem typW_len (y:Int):(typW y).length≤10:=by
 unfold typW
 repeat' split
 all_goals decide
theorem aggB_len (n:Int):(aggB n).length≤20:=by
 unfold aggB
 repeat' split
 all_goals decide
theorem wrO_len {o y n:Int} {t q:List UInt8} {ks:List Tm} {W:List (List UInt8)} (h0:-9223372036854775808≤n) (h1:n≤9223372036854775807) :
  (wrO o y n t q ks W).length≤50+(t.length+(q.length+(lensB W+2*W.length))):=by
 have a1:=at1_len W
 have a2:=joinB_len W
 have a3:=join1_len W
 have p:=fun w r s=>(plB_len w r s).1
 unfold wrO
 split
 ·rename_i x hx
  have:=sgB_len hx
  have p1:=p x.2.2.1 (at1 (ks.map rkT) 0 0) (at1 W [] 0)
  have p2:=p x.2.2.2 (at1 (ks.map rkT) 0 1) (at1 W [] 1)
  simp only [List.length_append,List.length_cons]
  omega
 ·have p0:=fun w=>p w (at1 (ks.map rkT) 0 0) (at1 W [] 0)
  have p2:=p0 2
  have p4:=p0 4
  have p6:=p0 6
  have ht:=typW_len y
  have ha:=aggB_len n
  have hi:=itoa_le h0 h1
  have k1:wNull.length=4:=rfl
  have k2:wNot.length=3:=rfl
  have k3:wIs.length=2:=rfl
  have k4:wTrue.length=4:=rfl
  have k5:wIn.length=2:=rfl
  have k6:wLength.length=6:=rfl
  have k7:wCoalesce.length=8:=rfl
  have k8:wCase.length=4:=rfl
  have k9:wWhen.length=4:=rfl
  have k10:wThen.length=4:=rfl
  have k11:wElse.length=4:=rfl
  have k12:wEnd.length=3:=rfl
  have k13:wCount.length=5:=rfl
  have k14:wFalse.length=5:=rfl
  repeat' (with_reducible refine ite_len ?_ ?_)
  all_goals (first | omega | (simp only [List.length_append,List.length_cons,List.length_nil]; omega))
mutual
theorem wr_len:∀ (t:Tm) (ws:List (List UInt8)),rgT ws t=true→(wr t).length+4≤t.wgt
 | .mk o y n t q ks,ws,h=>by
   rw [rgT,Bool.and_eq_true] at h
   have hk:=wrs_len ks ws h.2
   have hl:(wrs ks).length=ks.length:=by rw [wrs_map,List.length_map]
   have hn:-9223372036854775808≤n∧n≤9223372036854775807:=by
    have h:=h.1
    unfold okN at h
    repeat' split at h
    all_goals (simp only [Bool.and_eq_true,decide_eq_true_eq,beq_iff_eq,Bool.or_eq_true] at h)
    all_goals first | omega | skip
    rcases valid_cases h.1 with hv | ⟨_,_,a,b⟩ | hv | hv | ⟨hv,_⟩
    ·cases hv
    ·simp only at a b; omega
    ·cases hv
    ·cases hv
    ·cases hv
   have:=wrO_len (o:=o) (y:=y) (t:=t) (q:=q) (ks:=ks) (W:=wrs ks) hn.1 hn.2
   rw [wr,Tm.wgt]
   omega
theorem wrs_len:∀ (l:List Tm) (ws:List (List UInt8)),rgTs ws l=true→lensB (wrs l)+4*l.length≤tmsWgt l
 | [],_,_=>by simp [wrs,lensB,tmsWgt]
 | k::ks,ws,h=>by
   rw [rgTs,Bool.and_eq_true] at h
   have h1:=wr_len k ws h.1
   have h2:=wrs_len ks ws h.2
   rw [wrs,lensB,tmsWgt,List.length_cons]
   omega
end
theorem tmsWgt_mem:∀ {l:List Tm} {k:Tm},k∈l→k.wgt≤tmsWgt l
 | x::l,k,h=>by
   rw [tmsWgt]
   rcases List.mem_cons.1 h with rfl | h
   ·omega
   ·have:=tmsWgt_mem h; omega
section
variable {fD:Nat→D} {T l:List Tk} {L:Nat} {p:List Tk→Res Tm}
theorem p_list (hF:FailOk fD) (hp:Rule Es fD T L 31 p) (hT:T.length≤10000) (ha:At T l) (hl:l.length≤L) (m:Nat) (hm:m≤10) :
  CfO Es 218 [.ptr 1000000 0 0,.d (.int .i64 ((m+1:Nat):Int))] [rdB T l] (outL fD T (listS p m l)):=by
 generalize ho:outL fD T (listS p m l)=o
 unfold listS at ho
 refine cfO_intro mixs (fn:=Tryz.f218) (by kernel_rfl) rfl (by kernel_rfl) (by decide) o (by simp) (by simp [rdB]) ?_
 simp<;>(repeat' first|contradiction|exact .ok|apply And.intro|intro _|(refine gc (fun h=>?_) (fun h=>?_)<;>(have h':=h;(try simp at h');first|done|simp[h,h']|simp)))
 rcases exp_step hF ha hT [wOpen] (by decide) with ⟨e,he,hc⟩ | ⟨l1,he,h1,hl1,hc⟩
 ·rw [he] at ho
  subst ho
  exact acallP_pan [1000000] (hc) (by simp) (by simp) (by simp) (by simp) (by kernel_rfl)
 rw [he,bind1_ok] at ho
 refine acallP_of (acallT_hand [1000000] (hc) (by simp) (by simp) (by simp) (by simp) (by simp) ?_)
 simp<;>(repeat' first|contradiction|exact .ok|apply And.intro|intro _|(refine gc (fun h=>?_) (fun h=>?_)<;>(have h':=h;(try simp at h');first|done|simp[h,h']|simp)))
 rcases hp.step h1 (by omega) with ⟨e,he2,hc2⟩ | ⟨t,l2,he2,h2,hl2,hc2⟩
 ·rw [he2] at ho
  subst ho
  exact acallP_pan [1000000] (hc2) (by simp) (by simp) (by simp) (by simp) (by kernel_rfl)
 rw [he2,bind2_ok] at ho
 refine acallP_of (acallT_hand [1000000] (hc2) (by simp) (by simp) (by simp) (by simp) (by simp) ?_)
 simp<;>(repeat' first|contradiction|exact .ok|apply And.intro|intro _|(refine gc (fun h=>?_) (fun h=>?_)<;>(have h':=h;(try simp at h');first|done|simp[h,h']|simp)))
 refine aloopPT mixs (by decide) (fun y:List Tm×List Tk=>{ s:=mkS [(0,.ptr 1000000 0 0),(1,.d (.int .i64 ((m+1:Nat):Int))),(5,.ref 900 0 y.1.length 6)],b:=mkB [(1000000,1000000,rdB T y.2),(900,900,.arr 25 6 (y.1.map Tm.c) false)] })
  (fun y=>At T y.2∧y.2.length≤L∧1≤y.1.length∧y.1.length≤m+1∧outL fD T (bind2 (restS p (m+1 - y.1.length) y.1 y.2) fun ks l3=>bind1 (expS [wShut] l3) fun l4=>.ok (ks,l4))=o) (fun y=>m+1 - y.1.length) ([t],l2) ⟨h2,by simp only; omega,by simp,by simp,by simpa using ho⟩
  (sub_mk _ [(1000000,1000000,_),(900,11,_)] ⟨by simp,by simp,by simp [renOf,Blk.live],base1⟩ (by simp [renOf])) ?_
 rintro ⟨ks,l3⟩ ⟨h3,hl3,hk1,hk2,ho3⟩
 simp only at h3 hl3 hk1 hk2 ho3
 by_cases hlt:ks.length<m+1
 ·have hlt':(ks.length:Int)<(m:Int)+1:=by omega
  obtain ⟨q,hq⟩:∃ q,m+1 - ks.length=q+1:=⟨m - ks.length,by omega⟩
  rw [hq,restS] at ho3
  simp [hlt,hlt']<;>(repeat' first|contradiction|exact .ok|apply And.intro|intro _|(refine gc (fun h=>?_) (fun h=>?_)<;>(have h':=h;(try simp at h');first|done|simp[h,h',hlt,hlt']|simp[hlt,hlt'])))
  rcases exp_step hF h3 hT [wComma] (by decide) with ⟨e,he3,hc3⟩ | ⟨l4,he3,h4,hl4,hc3⟩
  ·rw [he3,bind1_err,bind2_err] at ho3
   subst ho3
   exact acallP_pan [1000000] (hc3) (by simp) (by simp) (by simp) (by simp) (by kernel_rfl)
  rw [he3,bind1_ok] at ho3
  refine acallP_of (acallT_hand [1000000] (hc3) (by simp) (by simp) (by simp) (by simp) (by simp) ?_)
  simp<;>(repeat' first|contradiction|exact .ok|apply And.intro|intro _|(refine gc (fun h=>?_) (fun h=>?_)<;>(have h':=h;(try simp at h');first|done|simp[h,h']|simp)))
  rcases hp.step h4 (by omega) with ⟨e,he4,hc4⟩ | ⟨t4,l5,he4,h5,hl5,hc4⟩
  ·rw [he4,bind2_err,bind2_err] at ho3
   subst ho3
   exact acallP_pan [1000000] (hc4) (by simp) (by simp) (by simp) (by simp) (by kernel_rfl)
  rw [he4,bind2_ok] at ho3
  have hb:(ks.length+1)*80≤140737488355328∧ks.length≤9223372036854775806:=by omega
  refine acallP_of (acallT_hand [1000000] (hc4) (by simp) (by simp) (by simp) (by simp) (by simp) ?_)
  simp [hb]<;>(repeat' first|contradiction|exact .ok|apply And.intro|intro _|(refine gc (fun h=>?_) (fun h=>?_)<;>(have h':=h;(try simp at h');first|done|simp[h,h',hb]|simp[hb])))
  refine ⟨(ks++[t4],l5),⟨h5,by simp only; omega,by simp,by simp; omega,?_⟩,?_,by simp; omega⟩
  ·simp only [List.length_append,List.length_singleton]
   rw [show m+1 - (ks.length+1)=q from by omega]
   exact ho3
  exact sub_mk _ [(1000000,1000000,_),(900,23,_)] ⟨by simp,by simp,by simp [renOf,Blk.live],base1⟩ (by simp [renOf])
 ·obtain hkm:ks.length=m+1:=by omega
  rw [hkm,Nat.sub_self,restS,bind2_ok] at ho3
  simp [hkm]<;>(repeat' first|contradiction|exact .ok|apply And.intro|intro _|(refine gc (fun h=>?_) (fun h=>?_)<;>(have h':=h;(try simp at h');first|done|simp[h,h',hkm]|simp[hkm])))
  rcases exp_step hF h3 hT [wShut] (by decide) with ⟨e,he3,hc3⟩ | ⟨l4,he3,h4,hl4,hc3⟩
  ·rw [he3,bind1_err] at ho3
   subst ho3
   exact acallP_pan [1000000] (hc3) (by simp) (by simp) (by simp) (by simp) (by kernel_rfl)
  rw [he3,bind1_ok] at ho3
  subst ho3
  refine acallP_of (acallT_hand [1000000] (hc3) (by simp) (by simp) (by simp) (by simp) (by simp) ?_)
  simp only [outL]
  simp [hkm]<;>(repeat' first|contradiction|exact .ok|apply And.intro|intro _|(refine gc (fun h=>?_) (fun h=>?_)<;>(have h':=h;(try simp at h');first|done|simp[h,h',hkm]|simp[hkm])))
  all_goals exact List.take_of_length_le (by simp; omega)
end
section
variable {fD:Nat→D} {T l:List Tk} {L:Nat} {p q:List Tk→Res Tm}
theorem isNum_hd {l:List Tk} (hn:l ≠ []):isNum l=((hdT l).kd==2&&(hdT l).rw != [48]):=by
 cases l with
 | nil=>exact absurd rfl hn
 | cons t r=>rfl
theorem p_unary (hp:Rule Es fD T L 205 p) (hq:Rule Es fD T (L+1) 213 q) (hqn:∀ l,At T l→l.length≤L→isNum l=true→q l=.ok (.mk 2 0 (hdT l).n [] [] [],l.tail)) (hT:T.length≤10000) (ha:At T l) (hl:l.length≤L+1) :
  CfO Es 205 [.ptr 1000000 0 0] [rdB T l] (outS fD T (if isW wMinus l=true then (if isNum l.tail=true then .ok (.mk 2 0 (IntKind.i64.wrap (-(hdT l.tail).n)) [] [] [],l.tail.tail) else mapT (fun t=>mkT 11 [t]) (p l.tail)) else q l)):=by
 generalize ho:outS fD T (if isW wMinus l=true then (if isNum l.tail=true then .ok (.mk 2 0 (IntKind.i64.wrap (-(hdT l.tail).n)) [] [] [],l.tail.tail) else mapT (fun t=>mkT 11 [t]) (p l.tail)) else q l)=o
 refine cfO_intro mixs (fn:=Tryz.f205) (by kernel_rfl) rfl (by kernel_rfl) (by decide) o (by simp) (by simp [rdB]) ?_
 cases hw:isW wMinus l with
 | true =>
   rw [hw,if_pos rfl] at ho
   have hlen:=isW_len hw
   have h1:=ha.tl hw
   have hk:=ups (p_peek h1.sfx h1.ne hT)
   have hnm:=isNum_hd h1.ne
   have hq1:=hqn l.tail h1 (by omega)
   have ht:=take_yes ha hT hw
   obtain ⟨l1,hl1⟩:∃ l1,l1=l.tail:=⟨_,rfl⟩
   rw [← hl1] at ho h1 hk hnm hq1 hlen ht
   simp<;>(repeat' first|contradiction|exact .ok|apply And.intro|intro _|(refine gc (fun h=>?_) (fun h=>?_)<;>(have h':=h;(try simp at h');first|done|simp[h,h']|simp)))
   refine acallP_of (acallT_hand [1000000] (ht) (by simp) (by simp) (by simp) (by simp) (by simp) ?_)
   simp [tkA,tokC]<;>(repeat' first|contradiction|exact .ok|apply And.intro|intro _|(refine gc (fun h=>?_) (fun h=>?_)<;>(have h':=h;(try simp at h');first|done|simp[h,h',tkA,tokC]|simp[tkA,tokC])))
   refine acallP_of (acallT_hand [1000000] (hk) (by simp) (by simp) (by simp) (by simp) (by simp) ?_)
   cases hb:isNum l1 with
   | true =>
     rw [hb,if_pos rfl] at ho
     rw [hb] at hnm
     subst ho
     have hk2:(hdT l1).kd=2∧((hdT l1).rw != [48])=true:=by simpa using hnm.symm
     rcases hq.step h1 (by omega) with ⟨e,he,hc⟩ | ⟨t,m,he,hm,hlm,hc⟩
     ·rw [hq1 hb] at he; cases he
     rw [hq1 hb] at he
     simp only [Except.ok.injEq,Prod.mk.injEq] at he
     obtain ⟨rfl,rfl⟩:=he
     generalize hdT l1=tk at *
     have hk3:¬ tk.rw=[48]:=by simpa using hk2.2
     simp [tkA,tokC,hk2.1,hk3]<;>(repeat' first|contradiction|exact .ok|apply And.intro|intro _|(refine gc (fun h=>?_) (fun h=>?_)<;>(have h':=h;(try simp at h');first|done|simp[h,h',tkA,tokC,hk2.1,hk3]|simp[tkA,tokC,hk2.1,hk3])))
     refine acallP_of (acallT_hand [1000000] (hc) (by simp) (by simp) (by simp) (by simp) (by simp) ?_)
     simp only [outS]
     simp [Tm.c,tmsC]<;>(repeat' first|contradiction|exact .ok|apply And.intro|intro _|(refine gc (fun h=>?_) (fun h=>?_)<;>(have h':=h;(try simp at h');first|done|simp[h,h',Tm.c,tmsC]|simp[Tm.c,tmsC])))
   | false =>
     rw [hb,if_neg (by simp)] at ho
     rw [hb] at hnm
     have hstep:=hp.step h1 (by omega)
     generalize hdT l1=tk at *
     have hk2:tk.kd=2→tk.rw=[48]:=fun h=>by simpa [h] using hnm.symm
     by_cases k2:tk.kd=2
     ·have hk3:=hk2 k2
      simp [tkA,tokC,k2,hk3]<;>(repeat' first|contradiction|exact .ok|apply And.intro|intro _|(refine gc (fun h=>?_) (fun h=>?_)<;>(have h':=h;(try simp at h');first|done|simp[h,h',tkA,tokC,k2,hk3]|simp[tkA,tokC,k2,hk3])))
      rcases hstep with ⟨e,he,hc⟩ | ⟨t,m,he,hm,hlm,hc⟩
      ·rw [he] at ho
       subst ho
       exact acallP_pan [1000000] (hc) (by simp) (by simp) (by simp) (by simp) (by kernel_rfl)
      rw [he] at ho
      subst ho
      refine acallP_of (acallT_hand [1000000] (hc) (by simp) (by simp) (by simp) (by simp) (by simp) ?_)
      simp<;>(repeat' first|contradiction|exact .ok|apply And.intro|intro _|(refine gc (fun h=>?_) (fun h=>?_)<;>(have h':=h;(try simp at h');first|done|simp[h,h']|simp)))
      refine acallP_of (acallT_plain (ups (p_made 11 [t])) (by simp) ?_)
      simp only [mapT,bind2,outS]
      simp<;>(repeat' first|contradiction|exact .ok|apply And.intro|intro _|(refine gc (fun h=>?_) (fun h=>?_)<;>(have h':=h;(try simp at h');first|done|simp[h,h']|simp)))
     ·by_cases k5:tk.kd=5
      ·simp [tkA,tokC,k5]<;>(repeat' first|contradiction|exact .ok|apply And.intro|intro _|(refine gc (fun h=>?_) (fun h=>?_)<;>(have h':=h;(try simp at h');first|done|simp[h,h',tkA,tokC,k5]|simp[tkA,tokC,k5])))
       rcases hstep with ⟨e,he,hc⟩ | ⟨t,m,he,hm,hlm,hc⟩
       ·rw [he] at ho
        subst ho
        exact acallP_pan [1000000] (hc) (by simp) (by simp) (by simp) (by simp) (by kernel_rfl)
       rw [he] at ho
       subst ho
       refine acallP_of (acallT_hand [1000000] (hc) (by simp) (by simp) (by simp) (by simp) (by simp) ?_)
       simp<;>(repeat' first|contradiction|exact .ok|apply And.intro|intro _|(refine gc (fun h=>?_) (fun h=>?_)<;>(have h':=h;(try simp at h');first|done|simp[h,h']|simp)))
       refine acallP_of (acallT_plain (ups (p_made 11 [t])) (by simp) ?_)
       simp only [mapT,bind2,outS]
       simp<;>(repeat' first|contradiction|exact .ok|apply And.intro|intro _|(refine gc (fun h=>?_) (fun h=>?_)<;>(have h':=h;(try simp at h');first|done|simp[h,h']|simp)))
      ·simp [tkA,tokC,k2,k5]<;>(repeat' first|contradiction|exact .ok|apply And.intro|intro _|(refine gc (fun h=>?_) (fun h=>?_)<;>(have h':=h;(try simp at h');first|done|simp[h,h',tkA,tokC,k2,k5]|simp[tkA,tokC,k2,k5])))
       rcases hstep with ⟨e,he,hc⟩ | ⟨t,m,he,hm,hlm,hc⟩
       ·rw [he] at ho
        subst ho
        exact acallP_pan [1000000] (hc) (by simp) (by simp) (by simp) (by simp) (by kernel_rfl)
       rw [he] at ho
       subst ho
       refine acallP_of (acallT_hand [1000000] (hc) (by simp) (by simp) (by simp) (by simp) (by simp) ?_)
       simp<;>(repeat' first|contradiction|exact .ok|apply And.intro|intro _|(refine gc (fun h=>?_) (fun h=>?_)<;>(have h':=h;(try simp at h');first|done|simp[h,h']|simp)))
       refine acallP_of (acallT_plain (ups (p_made 11 [t])) (by simp) ?_)
       simp only [mapT,bind2,outS]
       simp<;>(repeat' first|contradiction|exact .ok|apply And.intro|intro _|(refine gc (fun h=>?_) (fun h=>?_)<;>(have h':=h;(try simp at h');first|done|simp[h,h']|simp)))
 | false =>
   rw [hw,if_neg (by simp)] at ho
   simp<;>(repeat' first|contradiction|exact .ok|apply And.intro|intro _|(refine gc (fun h=>?_) (fun h=>?_)<;>(have h':=h;(try simp at h');first|done|simp[h,h']|simp)))
   refine acallP_of (acallT_hand [1000000] (take_no ha hT hw) (by simp) (by simp) (by simp) (by simp) (by simp) ?_)
   simp<;>(repeat' first|contradiction|exact .ok|apply And.intro|intro _|(refine gc (fun h=>?_) (fun h=>?_)<;>(have h':=h;(try simp at h');first|done|simp[h,h']|simp)))
   rcases hq.step ha hl with ⟨e,he,hc⟩ | ⟨t,m,he,hm,hlm,hc⟩
   ·rw [he] at ho
    subst ho
    exact acallP_pan [1000000] (hc) (by simp) (by simp) (by simp) (by simp) (by kernel_rfl)
   rw [he] at ho
   subst ho
   refine acallP_of (acallT_hand [1000000] (hc) (by simp) (by simp) (by simp) (by simp) (by simp) ?_)
   simp only [outS]
   simp<;>(repeat' first|contradiction|exact .ok|apply And.intro|intro _|(refine gc (fun h=>?_) (fun h=>?_)<;>(have h':=h;(try simp at h');first|done|simp[h,h']|simp)))
end
end Go.Proofs.Tryz
