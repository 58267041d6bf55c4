import Derived.Test.YthpmjipkofbeiaaGreatDoorTFtt
import Derived.Test.YthpmjipkofbeiaaGreatDoorTNxt
import Derived.Test.YthpmjipkofbeiaaGreatDoorTFdx
set_option linter.all false
namespace Go.Proofs.Tryz
open Go.Ab
set_option maxRecDepth 100000
set_option maxHeartbeats 4000000
def cntOk (o n:Int) (k:Nat):Bool :=
 if isSop o=true then k==2
 else if o=28 then decide (1<k)
 else if o=41∧n=1 then k==0
 else if o=41 then k==1
 else (kidsN o).2&&(k:Int)==(kidsN o).1
theorem s_counted (o y n:Int) (t q:List UInt8) (ks:List Tm):Cf Es 81 [(Tm.mk o y n t q ks).a] [] (.d (.bool (cntOk o n ks.length))) []:=by
 refine cf_intro mixs (fn:=Tryz.f81) (by kernel_rfl) rfl (by kernel_rfl) (by decide) (by simp) ?_
 unfold cntOk
 generalize hk:ks.length=k
 simp [Tm.a,Tm.c,tmsC_map]
 refine ⟨.of (by kernel_rfl),?_⟩
 refine acallT_plain (s_operatorOf o) (by simp) ?_
 simp [sopA,hk]
 (repeat' (first|contradiction|exact .ok|apply And.intro|intro _|(refine gc (fun h=>?_) (fun h=>?_)<;>(have h':=h;(try simp at h');first|done|simp[h,h',hk]|simp[hk]))))
 all_goals first | (refine acallT_plain (s_kids o) (by simp) ?_; simp [hk]; (repeat' (first | contradiction | exact .of (by kernel_rfl) | refine And.intro ?_ ?_ | intro _ | (refine agrd_cases (fun h=>?_) (fun h=>?_) <;> (have h':=h; (try simp at h'); first | done | simp [h,h',hk] | simp [hk]))))) | skip
 all_goals simp_all
 all_goals first | (rw [Bool.eq_iff_iff]; simp only [beq_iff_eq]; omega) | omega
def okS (o y n:Int) (t q:List UInt8):Bool :=
 if o=1 then (decide (1≤y)&&decide (y≤3))&&(n==0&&(t==[]&&q==[]))
 else if o=2 then (V.mk 1 n []).valid&&(y==0&&(t==[]&&q==[]))
 else if o=3 then (n==0||n==1)&&(y==0&&(t==[]&&q==[]))
 else if o=4 then (V.mk 3 0 t).valid&&(y==0&&(n==0&&q==[]))
 else if o=40 then (nameOk words t&&(q==[]||nameOk words q))&&(y==0&&n==0)
 else if o=41 then (decide (1≤n)&&decide (n≤6))&&(y==0&&(t==[]&&q==[]))
 else y==0&&(n==0&&(t==[]&&q==[]))
theorem isSop_eq (o:Int):isSop o=(decide (6≤o)&&(decide (o<24)&&!(o==11||(o==13||o==21)))):=by
 by_cases h1:o<0
 ·unfold isSop
  rw [Bool.eq_iff_iff]; simp; omega
 by_cases h2:24≤o
 ·unfold isSop
  rw [Bool.eq_iff_iff]; simp; omega
 obtain ⟨n,rfl⟩:∃ n:Nat,o=n:=⟨o.toNat,by omega⟩
 rw [isSop_iff n (by omega),Bool.eq_iff_iff]
 simp
 omega
theorem cnt_arity (o n:Int) (k:Nat) (h1:o ≠ 1) (h2:o ≠ 2) (h3:o ≠ 3) (h4:o ≠ 4) (h5:o ≠ 40) (h6:o ≠ 41):cntOk o n k=arity o k:=by
 unfold cntOk
 rw [isSop_eq]
 have e1:((k:Int)==1)=(k==1):=by rw [Bool.eq_iff_iff]; simp only [beq_iff_eq]; omega
 have e2:((k:Int)==2)=(k==2):=by rw [Bool.eq_iff_iff]; simp only [beq_iff_eq]; omega
 have e3:((k:Int)==3)=(k==3):=by rw [Bool.eq_iff_iff]; simp only [beq_iff_eq]; omega
 unfold arity kidsN
 simp only [h1,h2,h3,h4,h5,h6,false_or,false_and,if_false,Bool.and_eq_true,decide_eq_true_eq,Bool.not_eq_true',Bool.or_eq_false_iff,beq_eq_false_iff_ne,ne_eq]
 by_cases c11:o=11
 ·subst c11; simp [e1]
 by_cases c13:o=13
 ·subst c13; simp [e1]
 by_cases c21:o=21
 ·subst c21; simp [e1]
 by_cases c24:o=24
 ·subst c24; simp [e1]
 by_cases c25:o=25
 ·subst c25; simp [e1]
 by_cases c26:o=26
 ·subst c26; simp [e3]
 by_cases c27:o=27
 ·subst c27; simp [e2]
 by_cases c28:o=28
 ·subst c28
  simp
  omega
 by_cases c6:6≤o
 ·by_cases c24':o<24
  ·have:o≤28:=by omega
   simp [c11,c13,c21,c24,c25,c26,c27,c28,c6,c24',this]
  ·have:¬ o≤28:=by omega
   simp [c11,c13,c21,c24,c25,c26,c27,c28,c6,c24',this]
 ·simp [c11,c13,c21,c24,c25,c26,c27,c28,c6]
theorem okK_eq (o y n:Int) (t q:List UInt8) (k:Nat):okK o y n t q k=(cntOk o n k&&okS o y n t q):=by
 by_cases h1:o=1
 ·subst h1
  unfold okK okS cntOk
  rw [isSop_eq]
  simp [kidsN]
  rw [Bool.eq_iff_iff]; simp; grind
 by_cases h2:o=2
 ·subst h2
  unfold okK okS cntOk
  rw [isSop_eq]
  simp [kidsN]
  rw [Bool.eq_iff_iff]; simp; grind
 by_cases h3:o=3
 ·subst h3
  unfold okK okS cntOk
  rw [isSop_eq]
  simp [kidsN]
  rw [Bool.eq_iff_iff]; simp; grind
 by_cases h4:o=4
 ·subst h4
  unfold okK okS cntOk
  rw [isSop_eq]
  simp [kidsN]
  rw [Bool.eq_iff_iff]; simp; grind
 by_cases h5:o=40
 ·subst h5
  unfold okK okS cntOk
  rw [isSop_eq]
  simp [kidsN]
  rw [Bool.eq_iff_iff]; simp; grind
 by_cases h6:o=41
 ·subst h6
  unfold okK okS cntOk
  rw [isSop_eq]
  simp
  rw [Bool.eq_iff_iff]
  split <;> simp <;> grind
 rw [cnt_arity o n k h1 h2 h3 h4 h5 h6]
 unfold okK okS
 rw [if_neg h1,if_neg h2,if_neg h3,if_neg h4,if_neg h5,if_neg h6,if_neg h1,if_neg h2,if_neg h3,if_neg h4,if_neg h5,if_neg h6]
def FailOk (fD:Nat→D):Prop:=∀ (T l:List Tk),l <:+ T→l ≠ []→T.length≤10000→CfX panE En 62 [.ptr 1000000 0 0] [rdB T l] (.d (fD (posT l))) (deadB 1)
def outE (fD:Nat→D) (T:List Tk) (r:Except Nat (List Tk)):Out:=match r with
 | .error p=>.pan (fD p)
 | .ok m=>.ret (.tup []) [rdB T m]
theorem p_expect {fD:Nat→D} (hF:FailOk fD) {T l:List Tk} (hs:l <:+ T) (ho:okE l) (hT:T.length≤10000) (ws:List (List UInt8)) (hw:ws.length≤1000) :
  CfO En 115 [.ptr 1000000 0 0,.d (.sl (ws.map fun w=>[.str w]))] [rdB T l] (outE fD T (expS ws l)):=by
 cases hr:expS ws l with
 | ok m =>
   unfold outE
   refine cfO_intro mix (fn:=Tryz.f115) (by kernel_rfl) rfl (by kernel_rfl) (by decide) _ (by simp) (by simp [rdB]) ?_
   simp
   (repeat' (first|contradiction|exact .ok|apply And.intro|intro _|(refine gc (fun h=>?_) (fun h=>?_)<;>(have h':=h;(try simp at h');first|done|simp[h,h']|simp))))
   refine aloopPT mix (by decide) (fun i:Nat×List Tk=>{ s:=mkS [(0,.ptr 1000000 0 0),(1,.d (.sl (ws.map fun w=>[.str w]))),(6,.d (.sl (ws.map fun w=>[.str w]))),(7,.d (.int .i64 ws.length)),(8,.d (.int .i64 i.1))],b:=mkB [(1000000,1000000,rdB T i.2)] }) (fun i=>i.1≤ws.length∧i.2 <:+ T∧okE i.2∧expS (ws.drop i.1) i.2=.ok m) (fun i=>ws.length - i.1) (0,l) ⟨by simp,hs,ho,by simpa using hr⟩
    (sub_mk _ [(1000000,1000000,_)] ⟨by simp,by simp,by simp [renOf,Blk.live,rdB],base1⟩ (by simp [renOf])) ?_
   rintro ⟨i,l1⟩ ⟨hi,hs1,ho1,he⟩
   simp only at hi hs1 ho1 he
   by_cases hlt:i<ws.length
   ·have h1:=p_take hs1 ho1.ne hT ws[i]
    have h2:=hF T l1 hs1 ho1.ne hT
    have hwr:=wrap_in (n:=(i:Int)+1) (by omega) (by omega)
    rw [List.drop_eq_getElem_cons hlt,expS] at he
    obtain ⟨e,hee⟩:∃ e,e=ws[i]:=⟨_,rfl⟩
    have hge:∀ h,ws[i]'h=e:=fun _=>hee.symm
    rw [hge] at h1 he
    cases hb:isW e l1 with
    | true =>
      rw [hb] at h1 he
      simp only [if_true] at h1 he
      simp [hlt,hge]
      (repeat' (first|contradiction|exact .ok|apply And.intro|intro _|(refine gc (fun h=>?_) (fun h=>?_)<;>(have h':=h;(try simp at h');first|done|simp[h,h',hlt,hge]|simp[hlt,hge]))))
      refine acallP_of (acallT_hand [1000000] h1 (by simp [rdB]) (by simp) (by simp [rdB]) (by simp [rdB]) (by simp) ?_)
      simp
      (repeat' (first|contradiction|exact .ok|apply And.intro|intro _|(refine gc (fun h=>?_) (fun h=>?_)<;>(have h':=h;(try simp at h');first|done|simp[h,h']|simp))))
      refine ⟨(i+1,l1.tail),⟨by simp only; omega,(tail_sfx l1).trans hs1,ho1.tl hb,he⟩,?_,by simp only; omega⟩
      exact sub_mk _ [(1000000,1000000,_)] ⟨by simp,by simp,by simp [renOf,Blk.live,rdB],base1⟩ (by simp [renOf,hwr])
    | false =>
      rw [hb] at h1 he
      simp only [Bool.false_eq_true,if_false] at h1 he
      cases he
   ·obtain rfl:i=ws.length:=by omega
    rw [List.drop_length,expS] at he
    cases he
    simp
    (repeat' (first|contradiction|exact .ok|apply And.intro|intro _|(refine gc (fun h=>?_) (fun h=>?_)<;>(have h':=h;(try simp at h');first|done|simp[h,h']|simp))))
    all_goals first | (rw [kept_b1]; simp [rdB]; done) | (simp [rdB]; done) | skip
 | error p =>
   unfold outE
   refine cfO_intro mix (fn:=Tryz.f115) (by kernel_rfl) rfl (by kernel_rfl) (by decide) _ (by simp) (by simp [rdB]) ?_
   simp
   (repeat' (first|contradiction|exact .ok|apply And.intro|intro _|(refine gc (fun h=>?_) (fun h=>?_)<;>(have h':=h;(try simp at h');first|done|simp[h,h']|simp))))
   refine aloopPT mix (by decide) (fun i:Nat×List Tk=>{ s:=mkS [(0,.ptr 1000000 0 0),(1,.d (.sl (ws.map fun w=>[.str w]))),(6,.d (.sl (ws.map fun w=>[.str w]))),(7,.d (.int .i64 ws.length)),(8,.d (.int .i64 i.1))],b:=mkB [(1000000,1000000,rdB T i.2)] }) (fun i=>i.1≤ws.length∧i.2 <:+ T∧okE i.2∧expS (ws.drop i.1) i.2=.error p) (fun i=>ws.length - i.1) (0,l) ⟨by simp,hs,ho,by simpa using hr⟩
    (sub_mk _ [(1000000,1000000,_)] ⟨by simp,by simp,by simp [renOf,Blk.live,rdB],base1⟩ (by simp [renOf])) ?_
   rintro ⟨i,l1⟩ ⟨hi,hs1,ho1,he⟩
   simp only at hi hs1 ho1 he
   by_cases hlt:i<ws.length
   ·have h1:=p_take hs1 ho1.ne hT ws[i]
    have h2:=hF T l1 hs1 ho1.ne hT
    have hwr:=wrap_in (n:=(i:Int)+1) (by omega) (by omega)
    rw [List.drop_eq_getElem_cons hlt,expS] at he
    obtain ⟨e,hee⟩:∃ e,e=ws[i]:=⟨_,rfl⟩
    have hge:∀ h,ws[i]'h=e:=fun _=>hee.symm
    rw [hge] at h1 he
    cases hb:isW e l1 with
    | true =>
      rw [hb] at h1 he
      simp only [if_true] at h1 he
      simp [hlt,hge]
      (repeat' (first|contradiction|exact .ok|apply And.intro|intro _|(refine gc (fun h=>?_) (fun h=>?_)<;>(have h':=h;(try simp at h');first|done|simp[h,h',hlt,hge]|simp[hlt,hge]))))
      refine acallP_of (acallT_hand [1000000] h1 (by simp [rdB]) (by simp) (by simp [rdB]) (by simp [rdB]) (by simp) ?_)
      simp
      (repeat' (first|contradiction|exact .ok|apply And.intro|intro _|(refine gc (fun h=>?_) (fun h=>?_)<;>(have h':=h;(try simp at h');first|done|simp[h,h']|simp))))
      refine ⟨(i+1,l1.tail),⟨by simp only; omega,(tail_sfx l1).trans hs1,ho1.tl hb,he⟩,?_,by simp only; omega⟩
      exact sub_mk _ [(1000000,1000000,_)] ⟨by simp,by simp,by simp [renOf,Blk.live,rdB],base1⟩ (by simp [renOf,hwr])
    | false =>
      rw [hb] at h1 he
      simp only [Bool.false_eq_true,if_false] at h1 he
      cases he
      simp [hlt,hge]
      (repeat' (first|contradiction|exact .ok|apply And.intro|intro _|(refine gc (fun h=>?_) (fun h=>?_)<;>(have h':=h;(try simp at h');first|done|simp[h,h',hlt,hge]|simp[hlt,hge]))))
      refine acallP_of (acallT_hand [1000000] h1 (by simp [rdB]) (by simp) (by simp [rdB]) (by simp [rdB]) (by simp) ?_)
      simp
      (repeat' (first|contradiction|exact .ok|apply And.intro|intro _|(refine gc (fun h=>?_) (fun h=>?_)<;>(have h':=h;(try simp at h');first|done|simp[h,h']|simp))))
      refine acallP_pan [1000000] h2 (by simp) (by simp [rdB]) (by simp [rdB]) (by simp) (by kernel_rfl)
   ·obtain rfl:i=ws.length:=by omega
    rw [List.drop_length,expS] at he
    cases he
def oneI (ws:List (List UInt8)) (l:List Tk):Int:=fidx (fun w=>isW w l) ws 0
theorem fidx_find {α:Type} (p:α→Bool):∀ (l:List α) (k:Nat),fidx p l k=match l.findIdx? p with
  | some i=>((k+i:Nat):Int)
  | none=>-1
 | [],k=>rfl
 | x::l,k=>by
   rw [fidx,List.findIdx?_cons]
   split
   ·simp
   ·rw [fidx_find p l (k+1)]
    cases l.findIdx? p with
    | none=>rfl
    | some i=>simp only [Option.map_some]; congr 1; omega
theorem oneI_of (ws:List (List UInt8)) (l:List Tk):oneI ws l=match oneOf ws l with
  | some i=>(i:Int)
  | none=>-1:=by
 unfold oneI oneOf
 rw [fidx_find]
 cases List.findIdx? (fun w=>isW w l) ws with
 | none=>rfl
 | some i=>simp
theorem p_idx {T l:List Tk} (hs:l <:+ T) (hn:l ≠ []) (hT:T.length≤10000) (ws:List (List UInt8)) (hw:ws.length≤1000) :
  Cf En 117 [.d (.sl (ws.map fun w=>[.str w])),.bnd 78 [.ptr 1000000 0 0]] [rdB T l] (.d (.int .i64 (oneI ws l))) [rdB T (if 0≤oneI ws l then l.tail else l)]:=by
 unfold oneI
 refine cf_intro mix (fn:=Tryz.f117) (by kernel_rfl) rfl (by kernel_rfl) (by decide) (by simp [rdB]) ?_
 simp
 (repeat' (first|contradiction|exact .ok|apply And.intro|intro _|(refine gc (fun h=>?_) (fun h=>?_)<;>(have h':=h;(try simp at h');first|done|simp[h,h']|simp))))
 refine aloopT mix (by decide) (fun i:Nat=>{ s:=mkS [(0,.d (.sl (ws.map fun w=>[.str w]))),(1,.bnd 78 [.ptr 1000000 0 0]),(7,.d (.int .i64 ws.length)),(8,.d (.int .i64 i))],b:=mkB [(1000000,1000000,rdB T l)] }) (fun i=>i≤ws.length∧fidx (fun w=>isW w l) ws 0=fidx (fun w=>isW w l) (ws.drop i) i) (fun i=>ws.length - i) 0 ⟨by simp,by simp⟩
  (sub_mk _ [(1000000,1000000,_)] ⟨by simp,by simp,by simp [renOf,Blk.live,rdB],base1⟩ (by simp [renOf])) ?_
 rintro i ⟨hi,hfx⟩
 by_cases hlt:i<ws.length
 ·have hd:=fidx_drop (p:=fun w=>isW w l) (k:=i) hlt
  have h1:=p_take hs hn hT ws[i]
  have hwr:=wrap_in (n:=(i:Int)+1) (by omega) (by omega)
  obtain ⟨e,he⟩:∃ e,e=ws[i]:=⟨_,rfl⟩
  have hge:∀ h,ws[i]'h=e:=fun _=>he.symm
  rw [hge] at h1 hd
  rw [hd] at hfx
  cases hb:isW e l with
  | true =>
    rw [hb] at h1 hfx
    simp only [if_true] at h1 hfx
    rw [hfx,if_pos (by omega)]
    simp [hlt,hge]
    (repeat' (first|contradiction|exact .ok|apply And.intro|intro _|(refine gc (fun h=>?_) (fun h=>?_)<;>(have h':=h;(try simp at h');first|done|simp[h,h',hlt,hge]|simp[hlt,hge]))))
    refine acallT_hand [1000000] h1 (by simp [rdB]) (by simp) (by simp [rdB]) (by simp [rdB]) (by simp) ?_
    simp
    (repeat' (first|contradiction|exact .ok|apply And.intro|intro _|(refine gc (fun h=>?_) (fun h=>?_)<;>(have h':=h;(try simp at h');first|done|simp[h,h']|simp))))
    all_goals first | (rw [kept_b1]; simp [rdB]; done) | (simp [rdB]; done) | skip
  | false =>
    rw [hb] at h1 hfx
    simp only [Bool.false_eq_true,if_false] at h1 hfx
    simp [hlt,hge]
    (repeat' (first|contradiction|exact .ok|apply And.intro|intro _|(refine gc (fun h=>?_) (fun h=>?_)<;>(have h':=h;(try simp at h');first|done|simp[h,h',hlt,hge]|simp[hlt,hge]))))
    refine acallT_hand [1000000] h1 (by simp [rdB]) (by simp) (by simp [rdB]) (by simp [rdB]) (by simp) ?_
    simp
    (repeat' (first|contradiction|exact .ok|apply And.intro|intro _|(refine gc (fun h=>?_) (fun h=>?_)<;>(have h':=h;(try simp at h');first|done|simp[h,h']|simp))))
    refine ⟨i+1,⟨by omega,hfx⟩,?_,by simp; omega⟩
    exact sub_mk _ [(1000000,1000000,_)] ⟨by simp,by simp,by simp [renOf,Blk.live,rdB],base1⟩ (by simp [renOf,hwr])
 ·obtain rfl:i=ws.length:=by omega
  rw [List.drop_length,fidx] at hfx
  rw [hfx,if_neg (by omega)]
  simp
  (repeat' (first|contradiction|exact .ok|apply And.intro|intro _|(refine gc (fun h=>?_) (fun h=>?_)<;>(have h':=h;(try simp at h');first|done|simp[h,h']|simp))))
  all_goals first | (rw [kept_b1]; simp [rdB]; done) | (simp [rdB]; done) | skip
theorem p_one {T l:List Tk} (hs:l <:+ T) (hn:l ≠ []) (hT:T.length≤10000) (ws:List (List UInt8)) (hw:ws.length≤1000) :
  Cf En 77 [.ptr 1000000 0 0,.d (.sl (ws.map fun w=>[.str w]))] [rdB T l] (.d (.int .i64 (oneI ws l))) [rdB T (if 0≤oneI ws l then l.tail else l)]:=by
 have h:=p_idx hs hn hT ws hw
 generalize (if 0≤oneI ws l then l.tail else l)=m at *
 generalize oneI ws l=z at *
 unfold rdB at *
 generalize T.length - l.length=i at *
 generalize T.length - m.length=j at *
 refine cf_intro mix (fn:=Tryz.f77) (by kernel_rfl) rfl (by kernel_rfl) (by decide) (by simp) ?_
 simp
 (repeat' (first|contradiction|exact .ok|apply And.intro|intro _|(refine gc (fun h=>?_) (fun h=>?_)<;>(have h':=h;(try simp at h');first|done|simp[h,h']|simp))))
 refine acallT_hand [1000000] h (by simp) (by simp) (by simp) (by simp) (by simp) ?_
 simp
 all_goals exact gz
def flD (p:Nat):D:=.val (.iface 97 (.agg #[.int .i64 p]))
theorem p_fail:FailOk flD:=by
 intro T l hs hn hT
 have hp:=p_peek hs hn hT
 refine ⟨by kernel_rfl,fun w h vs hr m=>?_⟩
 obtain ⟨v0,_,rfl,r0,r1⟩:=hr
 simp only [RepAs] at r1
 subst r1
 have hc:=hp.2 w h [v0] ⟨v0,[],rfl,r0,rfl⟩ m
 refine calls_of_wp (fn:=Tryz.f62) (by kernel_rfl) rfl (wp_region ?_)
 have he:=run_enter hp.1 (⟨[v0]⟩:Array Value) w
 refine .inl ?_
 refine .inl ?_
 unfold Oper.wp
 have hrun:∀ (a:Act) (o:Oper),o.op=.call { callee:=.value (.func 61),args:=#[.tmp 2],argTypes:=#[67] }→a.eval (.tmp 2)=v0→(execOp a.eval o).run En.P w=.ok (.enter 61 ⟨[v0]⟩) w:=by
  intro a o ho hv
  rw [← he]
  obtain ⟨dst,op,type,pos,after,guard⟩:=o
  simp only at ho
  subst ho
  have hf:a.eval (.func 61)=.func (.func 61) #[] #[]:=rfl
  simp only [execOp,resolve,hf,Deferred.ofValue,Sem.run_bind,Sem.run_pure,Result.andThen_ok,invoke]
  congr 2
  apply Array.ext'
  simp [hv]
 rw [hrun _ _ rfl rfl]
 simp only [Oper.upon]
 refine hc.mono ?_
 rintro e w' ⟨v,h',rfl,hv,m'⟩
 simp [tkA,tokC,RepA,RepAs,RepD] at hv
 subst hv
 simp only
 have hb:∀ (a:Act) (o:Oper) (z:Int),o.op=.build 97 #[(0,.tmp 4)]→a.eval (.tmp 4)=.int .i64 z→(execOp a.eval o).run En.P w'=.ok (.value (.agg #[.int .i64 z])) w':=by
  intro a o z ho hv
  obtain ⟨dst,op,type,pos,after,guard⟩:=o
  simp only at ho
  subst ho
  simp only [execOp]
  have e:Array.map (fun x:Nat×Operand=>(x.fst,a.eval x.snd)) #[(0,Operand.tmp 4)]=#[(0,.int .i64 z)]:=by simp [hv]
  rw [e]
  first | done | rfl | (show _=_; kernel_rfl)
 have hm:∀ (a:Act) (o:Oper) (z:Int),o.op=.makeInterface 97 (.tmp 5)→a.eval (.tmp 5)=.agg #[.int .i64 z]→(execOp a.eval o).run En.P w'=.ok (.value (.iface 97 (.agg #[.int .i64 z]))) w':=by
  intro a o z ho hv
  obtain ⟨dst,op,type,pos,after,guard⟩:=o
  simp only at ho
  subst ho
  simp only [execOp,hv]
  first | done | rfl | (show _=_; kernel_rfl)
 have hq:∀ (a:Act) (o:Oper) (z:Int),o.op=.panic (.tmp 6)→a.eval (.tmp 6)=.iface 97 (.agg #[.int .i64 z])→(execOp a.eval o).run En.P w'=.halt (.panic (.iface 97 (.agg #[.int .i64 z]))) w':=by
  intro a o z ho hv
  obtain ⟨dst,op,type,pos,after,guard⟩:=o
  simp only at ho
  subst ho
  simp only [execOp,hv]
  first | done | rfl | (show _=_; kernel_rfl)
 have hpos:posT l=(hdT l).fr:=by
  cases l with
  | nil=>exact absurd rfl hn
  | cons t r=>rfl
 have hhi:∀ n q,firstName≤n→(ctxOf En w h [rdB T l]).h0.L n=some q→n<firstName+1:=fun n q hn hq=>by
  rcases Nat.lt_or_ge n (firstName+1) with h1 | h1
  ·exact h1
  ·have hb:=m.blks n
   have e:blkOf [rdB T l] n=.free:=by
    unfold blkOf
    rw [if_pos hn,List.getElem?_eq_none (by rw [List.length_singleton]; omega)]
    rfl
   rw [e] at hb
   simp only [RepB] at hb
   have hq':h.L n=some q:=hq
   rw [hb] at hq'
   cases hq'
 have hin:∀ j,j<1→∃ q,(ctxOf En w h [rdB T l]).h0.L (firstName+j)=some q:=fun j hj=>by
  obtain rfl:j=0:=by omega
  have hb:=m.blks (firstName+0)
  have e:blkOf [rdB T l] (firstName+0)=rdB T l:=by simp [blkOf]
  rw [e] at hb
  unfold rdB at hb
  simp only [RepB] at hb
  obtain ⟨q,_,_,h1,_⟩:=hb
  exact ⟨q,h1⟩
 refine .inl ?_
 refine .inl ?_
 unfold Oper.wp
 rw [hb _ _ _ rfl rfl]
 simp only [Oper.upon]
 refine .inl ?_
 unfold Oper.wp
 rw [hm _ _ _ rfl rfl]
 simp only [Oper.upon]
 refine .inl ?_
 unfold Oper.wp
 rw [hq _ _ _ rfl rfl]
 simp only [Oper.upon]
 refine ⟨rfl,_,_,rfl,?_,mem_dead hhi hin m'⟩
 rw [hpos]
 exact ⟨rfl,rfl⟩
end Go.Proofs.Tryz
