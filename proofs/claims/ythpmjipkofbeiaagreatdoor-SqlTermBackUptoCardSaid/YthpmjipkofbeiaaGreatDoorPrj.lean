import Derived.Test.YthpmjipkofbeiaaGreatDoorTPri
set_option linter.all false
namespace Go.Proofs.Tryz
open Go.Ab
set_option maxRecDepth 100000
set_option maxHeartbeats 8000000
section
variable {fD:Nat→D} {T:List Tk} {L:Nat} {q:List Tk→Res Tm}
theorem name_at {l m:List Tk} {s:List UInt8} (ha:At T l) (h:nameS l=.ok (s,m)):At T m∧m.length+1=l.length:=by
 cases l with
 | nil=>cases h
 | cons t r =>
   have hns:nameS (t::r)=if t.kd=1∧nameOk rsv t.rw=true then .ok (t.rw,r) else .error t.fr:=rfl
   rw [hns] at h
   split at h
   ·rename_i hk
    cases h
    exact ⟨ha.to (tail_sfx (t::m)) (ha.ok.cons (ends_kd (by omega) (by omega))),rfl⟩
   ·cases h
theorem name_step (hF:FailOk fD) {l:List Tk} (ha:At T l) (hT:T.length≤10000) :
  (∃ e,nameS l=.error e∧CfX panE Es 157 [.ptr 1000000 0 0] [rdB T l] (.d (fD e)) (deadB 1)) ∨
  (∃ s m,nameS l=.ok (s,m)∧At T m∧m.length+1=l.length∧Cf Es 157 [.ptr 1000000 0 0] [rdB T l] (.d (.str s)) [rdB T m]):=by
 have h1:=p_name hF ha hT
 cases hp:nameS l with
 | error e=>rw [hp] at h1; exact .inl ⟨e,rfl,h1⟩
 | ok x =>
   obtain ⟨s,m⟩:=x
   rw [hp] at h1
   exact .inr ⟨s,m,rfl,(name_at ha hp).1,(name_at ha hp).2,h1⟩
theorem list_step (hF:FailOk fD) (hq:Rule Es fD T L 31 q) {l:List Tk} (ha:At T l) (hl:l.length≤L) (hT:T.length≤10000) (k:Nat) (hk:k≤10) :
  (∃ e,listS q k l=.error e∧CfX panE Es 218 [.ptr 1000000 0 0,.d (.int .i64 ((k+1:Nat):Int))] [rdB T l] (.d (fD e)) (deadB 1)) ∨
  (∃ ks m,listS q k l=.ok (ks,m)∧Cf Es 218 [.ptr 1000000 0 0,.d (.int .i64 ((k+1:Nat):Int))] [rdB T l] (.d (.sl (ks.map Tm.c))) [rdB T m]):=by
 have h1:=p_list hF hq hT ha hl k hk
 cases hp:listS q k l with
 | error e=>rw [hp] at h1; exact .inl ⟨e,rfl,h1⟩
 | ok x =>
   obtain ⟨s,m⟩:=x
   rw [hp] at h1
   exact .inr ⟨s,m,rfl,h1⟩
theorem agg_step (hF:FailOk fD) (hq:Rule Es fD T L 31 q) {l:List Tk} (ha:At T l) (hl:l.length≤L) (hT:T.length≤10000) (i:Nat) (hi:i<4) :
  (∃ e,aggS q i l=.error e∧CfX panE Es 219 [.ptr 1000000 0 0,.d (.int .i64 i)] [rdB T l] (.d (fD e)) (deadB 1)) ∨
  (∃ t m,aggS q i l=.ok (t,m)∧Cf Es 219 [.ptr 1000000 0 0,.d (.int .i64 i)] [rdB T l] t.a [rdB T m]):=by
 have h1:=p_aggregate hF hq hT ha hl i hi
 cases hp:aggS q i l with
 | error e=>rw [hp] at h1; exact .inl ⟨e,rfl,h1⟩
 | ok x =>
   obtain ⟨s,m⟩:=x
   rw [hp] at h1
   exact .inr ⟨s,m,rfl,h1⟩
theorem peek_z {l:List Tk} (ha:At T l) (hT:T.length≤10000) (k2:¬ (hdT l).kd=2) (k3:¬ (hdT l).kd=3):∃ z:Int,¬ z=2∧¬ z=3 ∧
  Cf Es 61 [.ptr 1000000 0 0] [rdB T l] (.agg [.d (.int .i64 z),.d (.str (hdT l).rw),.d (.int .i64 (hdT l).fr)]) [rdB T l]:=by
 have hp:=ups (p_peek ha.sfx ha.ne hT)
 refine ⟨_,?_,?_,hp⟩
 ·split <;> omega
 ·split <;> omega
theorem p_prim_rest (hF:FailOk fD) (hq:Rule Es fD T L 31 q) (hT:T.length≤10000) {t:Tk} {r:List Tk} (ha:At T (t::r)) (hl:r.length≤L) (k2:¬ t.kd=2) (k3:¬ t.kd=3) :
  CfO Es 213 [.ptr 1000000 0 0] [rdB T (t::r)] (outS fD T (priS q (t::r))):=by
 obtain ⟨z,z2,z3,hp⟩:=peek_z ha hT k2 k3
 simp only [hdT] at hp
 have hTl:=ha.sfx.length_le
 generalize ho:outS fD T (priS q (t::r))=o
 rw [priS,if_neg k2,if_neg k3] at ho
 refine cfO_intro mixs (fn:=Tryz.f213) (by kernel_rfl) rfl (by kernel_rfl) (by decide) o (by simp) (by simp [rdB]) ?_
 simp<;>(repeat' first|contradiction|exact .ok|apply And.intro|intro _|(refine gc (fun h=>?_) (fun h=>?_)<;>(have h':=h;(try simp at h');first|done|simp[h,h']|simp)))
 refine acallP_of (acallT_hand [1000000] (hp) (by simp) (by simp) (by simp) (by simp) (by simp) ?_)
 simp [z2,z3]<;>(repeat' first|contradiction|exact .ok|apply And.intro|intro _|(refine gc (fun h=>?_) (fun h=>?_)<;>(have h':=h;(try simp at h');first|done|simp[h,h',z2,z3]|simp[z2,z3])))
 cases hw1:isW wTrue (t::r) with
 | true =>
   rw [hw1,if_pos rfl] at ho
   have ht:Cf Es _ _ _ _ [rdB T r]:=take_yes ha hT hw1
   subst ho
   refine acallP_of (acallT_hand [1000000] (ht) (by simp) (by simp) (by simp) (by simp) (by simp) ?_)
   simp<;>(repeat' first|contradiction|exact .ok|apply And.intro|intro _|(refine gc (fun h=>?_) (fun h=>?_)<;>(have h':=h;(try simp at h');first|done|simp[h,h']|simp)))
   refine acallP_of (acallT_plain (ups (p_made 3 [])) (by simp) ?_)
   simp only [outS]
   simp [mkT,Tm.c,tmsC]<;>(repeat' first|contradiction|exact .ok|apply And.intro|intro _|(refine gc (fun h=>?_) (fun h=>?_)<;>(have h':=h;(try simp at h');first|done|simp[h,h',mkT,Tm.c,tmsC]|simp[mkT,Tm.c,tmsC])))
 | false =>
 rw [hw1,if_neg (by simp)] at ho
 refine acallP_of (acallT_hand [1000000] (take_no ha hT hw1) (by simp) (by simp) (by simp) (by simp) (by simp) ?_)
 simp<;>(repeat' first|contradiction|exact .ok|apply And.intro|intro _|(refine gc (fun h=>?_) (fun h=>?_)<;>(have h':=h;(try simp at h');first|done|simp[h,h']|simp)))
 cases hw2:isW wFalse (t::r) with
 | true =>
   rw [hw2,if_pos rfl] at ho
   have ht:Cf Es _ _ _ _ [rdB T r]:=take_yes ha hT hw2
   subst ho
   refine acallP_of (acallT_hand [1000000] (ht) (by simp) (by simp) (by simp) (by simp) (by simp) ?_)
   simp<;>(repeat' first|contradiction|exact .ok|apply And.intro|intro _|(refine gc (fun h=>?_) (fun h=>?_)<;>(have h':=h;(try simp at h');first|done|simp[h,h']|simp)))
   refine acallP_of (acallT_plain (ups (p_made 3 [])) (by simp) ?_)
   simp only [outS]
   simp [mkT,Tm.c,tmsC]<;>(repeat' first|contradiction|exact .ok|apply And.intro|intro _|(refine gc (fun h=>?_) (fun h=>?_)<;>(have h':=h;(try simp at h');first|done|simp[h,h',mkT,Tm.c,tmsC]|simp[mkT,Tm.c,tmsC])))
 | false =>
 rw [hw2,if_neg (by simp)] at ho
 refine acallP_of (acallT_hand [1000000] (take_no ha hT hw2) (by simp) (by simp) (by simp) (by simp) (by simp) ?_)
 simp<;>(repeat' first|contradiction|exact .ok|apply And.intro|intro _|(refine gc (fun h=>?_) (fun h=>?_)<;>(have h':=h;(try simp at h');first|done|simp[h,h']|simp)))
 cases hw3:isW wNull (t::r) with
 | true =>
   rw [hw3,if_pos rfl] at ho
   have ht:Cf Es _ _ _ _ [rdB T r]:=take_yes ha hT hw3
   have ha1:At T r:=ha.tl hw3
   refine acallP_of (acallT_hand [1000000] (ht) (by simp) (by simp) (by simp) (by simp) (by simp) ?_)
   simp<;>(repeat' first|contradiction|exact .ok|apply And.intro|intro _|(refine gc (fun h=>?_) (fun h=>?_)<;>(have h':=h;(try simp at h');first|done|simp[h,h']|simp)))
   refine acallP_of (acallT_plain (ups (p_made 1 [])) (by simp) ?_)
   simp [mkT,Tm.c,tmsC]<;>(repeat' first|contradiction|exact .ok|apply And.intro|intro _|(refine gc (fun h=>?_) (fun h=>?_)<;>(have h':=h;(try simp at h');first|done|simp[h,h',mkT,Tm.c,tmsC]|simp[mkT,Tm.c,tmsC])))
   cases hi:oneOf [wInt,wBool,wText] r with
   | some i =>
     rw [hi] at ho
     simp only at ho
     subst ho
     have hil:i<3:=by
      unfold oneOf at hi
      exact (List.findIdx?_eq_some_iff_getElem.1 hi).1
     have hwr:=wrap_in (n:=(i:Int)+1) (by omega) (by omega)
     have hn1:¬ (i:Int)+1<1:=by omega
     have hcm:(i:Int)+1=1+i:=Int.add_comm _ _
     refine acallP_of (acallT_hand [1000000] (one_yes ha1 hT (by decide) hi) (by simp) (by simp) (by simp) (by simp) (by simp) ?_)
     simp only [outS]
     simp [hwr,hn1,Tm.c,tmsC]<;>(repeat' first|contradiction|exact .ok|apply And.intro|intro _|(refine gc (fun h=>?_) (fun h=>?_)<;>(have h':=h;(try simp at h');first|done|simp[h,h',hwr,hn1,Tm.c,tmsC]|simp[hwr,hn1,Tm.c,tmsC])))
     all_goals (try exact hcm)
   | none =>
     rw [hi] at ho
     simp only at ho
     subst ho
     have hf:=fail_at hF ha1 hT
     refine acallP_of (acallT_hand [1000000] (one_no ha1 hT (by decide) hi) (by simp) (by simp) (by simp) (by simp) (by simp) ?_)
     simp<;>(repeat' first|contradiction|exact .ok|apply And.intro|intro _|(refine gc (fun h=>?_) (fun h=>?_)<;>(have h':=h;(try simp at h');first|done|simp[h,h']|simp)))
     exact acallP_pan [1000000] (hf) (by simp) (by simp) (by simp) (by simp) (by kernel_rfl)
 | false =>
 rw [hw3,if_neg (by simp)] at ho
 refine acallP_of (acallT_hand [1000000] (take_no ha hT hw3) (by simp) (by simp) (by simp) (by simp) (by simp) ?_)
 simp<;>(repeat' first|contradiction|exact .ok|apply And.intro|intro _|(refine gc (fun h=>?_) (fun h=>?_)<;>(have h':=h;(try simp at h');first|done|simp[h,h']|simp)))
 cases hw4:isW wOpen (t::r) with
 | true =>
   rw [hw4,if_pos rfl] at ho
   have ht:Cf Es _ _ _ _ [rdB T r]:=take_yes ha hT hw4
   have ha1:At T r:=ha.tl hw4
   refine acallP_of (acallT_hand [1000000] (ht) (by simp) (by simp) (by simp) (by simp) (by simp) ?_)
   simp<;>(repeat' first|contradiction|exact .ok|apply And.intro|intro _|(refine gc (fun h=>?_) (fun h=>?_)<;>(have h':=h;(try simp at h');first|done|simp[h,h']|simp)))
   rcases hq.step ha1 hl with ⟨e,he2,hc2⟩ | ⟨x,l2,he2,h2,hl2,hc2⟩
   ·rw [he2] at ho
    subst ho
    exact acallP_pan [1000000] (hc2) (by simp) (by simp) (by simp) (by simp) (by kernel_rfl)
   rw [he2,bind2_ok] at ho
   refine acallP_of (acallT_hand [1000000] (hc2) (by simp) (by simp) (by simp) (by simp) (by simp) ?_)
   simp<;>(repeat' first|contradiction|exact .ok|apply And.intro|intro _|(refine gc (fun h=>?_) (fun h=>?_)<;>(have h':=h;(try simp at h');first|done|simp[h,h']|simp)))
   rcases exp_step hF h2 hT [wShut] (by decide) with ⟨e,he3,hc3⟩ | ⟨l3,he3,h3,hl3,hc3⟩
   ·rw [he3] at ho
    subst ho
    exact acallP_pan [1000000] (hc3) (by simp) (by simp) (by simp) (by simp) (by kernel_rfl)
   rw [he3,bind1_ok] at ho
   subst ho
   refine acallP_of (acallT_hand [1000000] (hc3) (by simp) (by simp) (by simp) (by simp) (by simp) ?_)
   simp only [outS]
   simp<;>(repeat' first|contradiction|exact .ok|apply And.intro|intro _|(refine gc (fun h=>?_) (fun h=>?_)<;>(have h':=h;(try simp at h');first|done|simp[h,h']|simp)))
 | false =>
 rw [hw4,if_neg (by simp)] at ho
 refine acallP_of (acallT_hand [1000000] (take_no ha hT hw4) (by simp) (by simp) (by simp) (by simp) (by simp) ?_)
 simp<;>(repeat' first|contradiction|exact .ok|apply And.intro|intro _|(refine gc (fun h=>?_) (fun h=>?_)<;>(have h':=h;(try simp at h');first|done|simp[h,h']|simp)))
 cases hw5:isW wLength (t::r) with
 | true =>
   rw [hw5,if_pos rfl] at ho
   have ht:Cf Es _ _ _ _ [rdB T r]:=take_yes ha hT hw5
   have ha1:At T r:=ha.tl hw5
   refine acallP_of (acallT_hand [1000000] (ht) (by simp) (by simp) (by simp) (by simp) (by simp) ?_)
   simp<;>(repeat' first|contradiction|exact .ok|apply And.intro|intro _|(refine gc (fun h=>?_) (fun h=>?_)<;>(have h':=h;(try simp at h');first|done|simp[h,h']|simp)))
   rcases list_step hF hq ha1 hl hT 0 (by decide) with ⟨e,he2,hc2⟩ | ⟨ks,l2,he2,hc2⟩
   ·rw [he2] at ho
    subst ho
    exact acallP_pan [1000000] (hc2) (by simp) (by simp) (by simp) (by simp) (by kernel_rfl)
   rw [he2,bind2_ok] at ho
   subst ho
   refine acallP_of (acallT_hand [1000000] (hc2) (by simp) (by simp) (by simp) (by simp) (by simp) ?_)
   simp<;>(repeat' first|contradiction|exact .ok|apply And.intro|intro _|(refine gc (fun h=>?_) (fun h=>?_)<;>(have h':=h;(try simp at h');first|done|simp[h,h']|simp)))
   refine acallP_of (acallT_plain (ups (p_made 13 ks)) (by simp) ?_)
   simp only [outS]
   simp<;>(repeat' first|contradiction|exact .ok|apply And.intro|intro _|(refine gc (fun h=>?_) (fun h=>?_)<;>(have h':=h;(try simp at h');first|done|simp[h,h']|simp)))
 | false =>
 rw [hw5,if_neg (by simp)] at ho
 refine acallP_of (acallT_hand [1000000] (take_no ha hT hw5) (by simp) (by simp) (by simp) (by simp) (by simp) ?_)
 simp<;>(repeat' first|contradiction|exact .ok|apply And.intro|intro _|(refine gc (fun h=>?_) (fun h=>?_)<;>(have h':=h;(try simp at h');first|done|simp[h,h']|simp)))
 cases hw6:isW wCoalesce (t::r) with
 | true =>
   rw [hw6,if_pos rfl] at ho
   have ht:Cf Es _ _ _ _ [rdB T r]:=take_yes ha hT hw6
   have ha1:At T r:=ha.tl hw6
   refine acallP_of (acallT_hand [1000000] (ht) (by simp) (by simp) (by simp) (by simp) (by simp) ?_)
   simp<;>(repeat' first|contradiction|exact .ok|apply And.intro|intro _|(refine gc (fun h=>?_) (fun h=>?_)<;>(have h':=h;(try simp at h');first|done|simp[h,h']|simp)))
   rcases list_step hF hq ha1 hl hT 1 (by decide) with ⟨e,he2,hc2⟩ | ⟨ks,l2,he2,hc2⟩
   ·rw [he2] at ho
    subst ho
    exact acallP_pan [1000000] (hc2) (by simp) (by simp) (by simp) (by simp) (by kernel_rfl)
   rw [he2,bind2_ok] at ho
   subst ho
   refine acallP_of (acallT_hand [1000000] (hc2) (by simp) (by simp) (by simp) (by simp) (by simp) ?_)
   simp<;>(repeat' first|contradiction|exact .ok|apply And.intro|intro _|(refine gc (fun h=>?_) (fun h=>?_)<;>(have h':=h;(try simp at h');first|done|simp[h,h']|simp)))
   refine acallP_of (acallT_plain (ups (p_made 27 ks)) (by simp) ?_)
   simp only [outS]
   simp<;>(repeat' first|contradiction|exact .ok|apply And.intro|intro _|(refine gc (fun h=>?_) (fun h=>?_)<;>(have h':=h;(try simp at h');first|done|simp[h,h']|simp)))
 | false =>
 rw [hw6,if_neg (by simp)] at ho
 refine acallP_of (acallT_hand [1000000] (take_no ha hT hw6) (by simp) (by simp) (by simp) (by simp) (by simp) ?_)
 simp<;>(repeat' first|contradiction|exact .ok|apply And.intro|intro _|(refine gc (fun h=>?_) (fun h=>?_)<;>(have h':=h;(try simp at h');first|done|simp[h,h']|simp)))
 cases hw7:isW wCase (t::r) with
 | true =>
   rw [hw7,if_pos rfl] at ho
   have ht:Cf Es _ _ _ _ [rdB T r]:=take_yes ha hT hw7
   have ha1:At T r:=ha.tl hw7
   refine acallP_of (acallT_hand [1000000] (ht) (by simp) (by simp) (by simp) (by simp) (by simp) ?_)
   simp<;>(repeat' first|contradiction|exact .ok|apply And.intro|intro _|(refine gc (fun h=>?_) (fun h=>?_)<;>(have h':=h;(try simp at h');first|done|simp[h,h']|simp)))
   obtain ⟨ws,hws⟩:∃ ws,ws=[wWhen,wThen,wElse]:=⟨_,rfl⟩
   rw [← hws] at ho
   have hwl:ws.length=3:=by rw [hws]; rfl
   have hwm:ws.map (fun w=>[D.str w])=[[.str wWhen],[.str wThen],[.str wElse]]:=by rw [hws]; rfl
   simp at hwm
   refine aloopPT mixs (by decide) (fun y:Nat×List Tm×List Tk=>{ s:=mkS [(0,.ptr 1000000 0 0),(2,.ptr 2 0 0),(10,.ref 900 0 y.2.1.length 6),(99,.d (.sl (ws.map fun w=>[.str w]))),(100,.d (.int .i64 3)),(101,.d (.int .i64 y.1))],b:=mkB [(1000000,1000000,rdB T y.2.2),(2,2,.var zTm),(900,900,.arr 25 6 (y.2.1.map Tm.c) false)] })
    (fun y=>y.1≤3∧y.2.1.length=y.1∧At T y.2.2∧y.2.2.length≤L∧outS fD T (bind2 (caseS q (ws.drop y.1) y.2.1 y.2.2) fun ks l2=>bind1 (expS [wEnd] l2) fun l3=>.ok (mkT 26 ks,l3))=o) (fun y=>3 - y.1) (0,[],r) ⟨by simp,rfl,ha1,hl,by simpa using ho⟩
    (sub_mkn 10 900 25 6 (by simp) (by simp) (by decide) (by decide) _ [(1000000,1000000,_),(2,2,_),(900,900,_)] ⟨by simp,by simp,by simp [renOf,Blk.live,upd],base1⟩ (by simp [renOf,upd,hwm])) ?_
   rintro ⟨i,ks,l5⟩ ⟨hi3,hkl,h5,hl5,ho3⟩
   simp only at hi3 hkl h5 hl5 ho3
   by_cases hlt:i<3
   ·have hlt':(i:Int)<3:=by omega
    have hiw:i<ws.length:=by omega
    obtain ⟨e0,hee⟩:∃ e,e=ws[i]:=⟨_,rfl⟩
    have hge:∀ h,ws[i]'h=e0:=fun _=>hee.symm
    rw [List.drop_eq_getElem_cons hiw,← hee,caseS] at ho3
    simp [hlt,hlt',hwl,hge]<;>(repeat' first|contradiction|exact .ok|apply And.intro|intro _|(refine gc (fun h=>?_) (fun h=>?_)<;>(have h':=h;(try simp at h');first|done|simp[h,h',hlt,hlt',hwl,hge]|simp[hlt,hlt',hwl,hge])))
    rcases exp_step hF h5 hT [e0] (by simp) with ⟨e,he3,hc3⟩ | ⟨l6,he3,h6,hl6,hc3⟩
    ·rw [he3] at ho3
     subst ho3
     exact acallP_pan [1000000] (hc3) (by simp) (by simp) (by simp) (by simp) (by kernel_rfl)
    rw [he3,bind1_ok] at ho3
    refine acallP_of (acallT_hand [1000000] (hc3) (by simp) (by simp) (by simp) (by simp) (by simp) ?_)
    simp<;>(repeat' first|contradiction|exact .ok|apply And.intro|intro _|(refine gc (fun h=>?_) (fun h=>?_)<;>(have h':=h;(try simp at h');first|done|simp[h,h']|simp)))
    rcases hq.step h6 (by omega) with ⟨e,he4,hc4⟩ | ⟨x,l7,he4,h7,hl7,hc4⟩
    ·rw [he4,bind2_err,bind2_err] at ho3
     subst ho3
     exact acallP_pan [1000000] (hc4) (by simp) (by simp) (by simp) (by simp) (by kernel_rfl)
    rw [he4,bind2_ok] at ho3
    have hb:(ks.length+1)*80≤140737488355328∧ks.length≤9223372036854775806:=by omega
    have hwr:=wrap_in (n:=(i:Int)+1) (by omega) (by omega)
    refine acallP_of (acallT_hand [1000000] (hc4) (by simp) (by simp) (by simp) (by simp) (by simp) ?_)
    simp [hb,hwr]<;>(repeat' first|contradiction|exact .ok|apply And.intro|intro _|(refine gc (fun h=>?_) (fun h=>?_)<;>(have h':=h;(try simp at h');first|done|simp[h,h',hb,hwr]|simp[hb,hwr])))
    refine ⟨(i+1,ks++[x],l7),⟨by simp only; omega,by simp [hkl],h7,by simp only; omega,ho3⟩,?_,by simp only; omega⟩
    exact sub_mk _ [(1000000,1000000,_),(2,2,_),(900,113,_)] ⟨by simp,by simp,by simp [renOf,Blk.live],base1⟩ (by simp [renOf])
   ·obtain rfl:i=3:=by omega
    have hdr:ws.drop 3=[]:=List.drop_of_length_le (by omega)
    rw [hdr,caseS,bind2_ok] at ho3
    simp<;>(repeat' first|contradiction|exact .ok|apply And.intro|intro _|(refine gc (fun h=>?_) (fun h=>?_)<;>(have h':=h;(try simp at h');first|done|simp[h,h']|simp)))
    rcases exp_step hF h5 hT [wEnd] (by decide) with ⟨e,he3,hc3⟩ | ⟨l6,he3,h6,hl6,hc3⟩
    ·rw [he3] at ho3
     subst ho3
     exact acallP_pan [1000000] (hc3) (by simp) (by simp) (by simp) (by simp) (by kernel_rfl)
    rw [he3,bind1_ok] at ho3
    subst ho3
    refine acallP_of (acallT_hand [1000000] (hc3) (by simp) (by simp) (by simp) (by simp) (by simp) ?_)
    simp<;>(repeat' first|contradiction|exact .ok|apply And.intro|intro _|(refine gc (fun h=>?_) (fun h=>?_)<;>(have h':=h;(try simp at h');first|done|simp[h,h']|simp)))
    refine acallP_of (acallT_plain (ups (p_made 26 ks)) (by simp) ?_)
    simp only [outS]
    simp<;>(repeat' first|contradiction|exact .ok|apply And.intro|intro _|(refine gc (fun h=>?_) (fun h=>?_)<;>(have h':=h;(try simp at h');first|done|simp[h,h']|simp)))
 | false =>
 rw [hw7,if_neg (by simp)] at ho
 refine acallP_of (acallT_hand [1000000] (take_no ha hT hw7) (by simp) (by simp) (by simp) (by simp) (by simp) ?_)
 simp<;>(repeat' first|contradiction|exact .ok|apply And.intro|intro _|(refine gc (fun h=>?_) (fun h=>?_)<;>(have h':=h;(try simp at h');first|done|simp[h,h']|simp)))
 cases hi:oneOf aggW (t::r) with
 | some i =>
   rw [hi] at ho
   simp only at ho
   have hil:i<4:=by
    unfold oneOf at hi
    exact (List.findIdx?_eq_some_iff_getElem.1 hi).1
   have ht:Cf Es _ _ _ _ [rdB T r]:=one_yes ha hT (by decide) hi
   have ha1:At T r:=ha.tl1 hi
   refine acallP_of (acallT_hand [1000000] (ht) (by simp) (by simp) (by simp) (by simp) (by simp) ?_)
   simp<;>(repeat' first|contradiction|exact .ok|apply And.intro|intro _|(refine gc (fun h=>?_) (fun h=>?_)<;>(have h':=h;(try simp at h');first|done|simp[h,h']|simp)))
   rcases agg_step hF hq ha1 hl hT i hil with ⟨e,he2,hc2⟩ | ⟨x,l2,he2,hc2⟩
   ·rw [he2] at ho
    subst ho
    exact acallP_pan [1000000] (hc2) (by simp) (by simp) (by simp) (by simp) (by kernel_rfl)
   rw [he2] at ho
   subst ho
   refine acallP_of (acallT_hand [1000000] (hc2) (by simp) (by simp) (by simp) (by simp) (by simp) ?_)
   simp only [outS]
   simp<;>(repeat' first|contradiction|exact .ok|apply And.intro|intro _|(refine gc (fun h=>?_) (fun h=>?_)<;>(have h':=h;(try simp at h');first|done|simp[h,h']|simp)))
 | none =>
   rw [hi] at ho
   simp only at ho
   refine acallP_of (acallT_hand [1000000] (one_no ha hT (by decide) hi) (by simp) (by simp) (by simp) (by simp) (by simp) ?_)
   simp<;>(repeat' first|contradiction|exact .ok|apply And.intro|intro _|(refine gc (fun h=>?_) (fun h=>?_)<;>(have h':=h;(try simp at h');first|done|simp[h,h']|simp)))
   refine acallP_of (acallT_plain (ups (p_made 40 [])) (by simp) ?_)
   simp [mkT,Tm.c,tmsC]<;>(repeat' first|contradiction|exact .ok|apply And.intro|intro _|(refine gc (fun h=>?_) (fun h=>?_)<;>(have h':=h;(try simp at h');first|done|simp[h,h',mkT,Tm.c,tmsC]|simp[mkT,Tm.c,tmsC])))
   rcases name_step hF ha hT with ⟨e,he2,hc2⟩ | ⟨a,l1,he2,h1,hl1,hc2⟩
   ·rw [he2] at ho
    subst ho
    exact acallP_pan [1000000] (hc2) (by simp) (by simp) (by simp) (by simp) (by kernel_rfl)
   rw [he2,bind2_ok] at ho
   refine acallP_of (acallT_hand [1000000] (hc2) (by simp) (by simp) (by simp) (by simp) (by simp) ?_)
   simp<;>(repeat' first|contradiction|exact .ok|apply And.intro|intro _|(refine gc (fun h=>?_) (fun h=>?_)<;>(have h':=h;(try simp at h');first|done|simp[h,h']|simp)))
   cases hd:isW wDot l1 with
   | false =>
     rw [hd,if_neg (by simp)] at ho
     subst ho
     refine acallP_of (acallT_hand [1000000] (take_no h1 hT hd) (by simp) (by simp) (by simp) (by simp) (by simp) ?_)
     simp only [outS]
     simp [Tm.c,tmsC]<;>(repeat' first|contradiction|exact .ok|apply And.intro|intro _|(refine gc (fun h=>?_) (fun h=>?_)<;>(have h':=h;(try simp at h');first|done|simp[h,h',Tm.c,tmsC]|simp[Tm.c,tmsC])))
   | true =>
     rw [hd,if_pos rfl] at ho
     refine acallP_of (acallT_hand [1000000] (take_yes h1 hT hd) (by simp) (by simp) (by simp) (by simp) (by simp) ?_)
     simp<;>(repeat' first|contradiction|exact .ok|apply And.intro|intro _|(refine gc (fun h=>?_) (fun h=>?_)<;>(have h':=h;(try simp at h');first|done|simp[h,h']|simp)))
     rcases name_step hF (h1.tl hd) hT with ⟨e,he3,hc3⟩ | ⟨b,l2,he3,h2,hl2,hc3⟩
     ·rw [he3] at ho
      subst ho
      exact acallP_panJ [1000000] 4 hc3 (by simp) (by simp) (by simp) (by simp) rfl rfl rfl (by kernel_rfl)
     rw [he3,bind2_ok] at ho
     subst ho
     refine acallP_of (acallT_hand [1000000] (hc3) (by simp) (by simp) (by simp) (by simp) (by simp) ?_)
     simp only [outS]
     simp [Tm.c,tmsC]<;>(repeat' first|contradiction|exact .ok|apply And.intro|intro _|(refine gc (fun h=>?_) (fun h=>?_)<;>(have h':=h;(try simp at h');first|done|simp[h,h',Tm.c,tmsC]|simp[Tm.c,tmsC])))
end
end Go.Proofs.Tryz
