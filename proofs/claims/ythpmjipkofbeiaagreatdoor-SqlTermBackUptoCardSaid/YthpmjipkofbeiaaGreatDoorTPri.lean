import Derived.Test.YthpmjipkofbeiaaGreatDoorTFlq
import Derived.Test.YthpmjipkofbeiaaGreatDoorTVall
import Derived.Test.YthpmjipkofbeiaaGreatDoorNxs
import Derived.Test.YthpmjipkofbeiaaGreatDoorTUna
import Derived.Test.YthpmjipkofbeiaaGreatDoorAgq
import Derived.Test.YthpmjipkofbeiaaGreatDoorVpp
set_option linter.all false
namespace Go.Proofs.Tryz
open Go.Ab
set_option maxRecDepth 100000
set_option maxHeartbeats 8000000
theorem okS_rest (o y n:Int) (t q:List UInt8):okS o y n t q =
  ((if o=1 then decide (1≤y)&&decide (y≤3) else if o=2 then (V.mk 1 n []).valid else if o=3 then n==0||n==1 else if o=4 then (V.mk 3 0 t).valid else if o=40 then nameOk words t&&(q==[]||nameOk words q) else if o=41 then decide (1≤n)&&decide (n≤6) else true)
    && (Tm.mk 0 (if o=1 then 0 else y) (if o=2∨o=3∨o=41 then 0 else n) (if o=4∨o=40 then [] else t) (if o=40 then [] else q) []).eq (.mk 0 0 0 [] [] [])):=by
 unfold okS
 rw [Tm.eq,tmsEq]
 by_cases h1:o=1
 ·subst h1; simp
 by_cases h2:o=2
 ·subst h2; simp
 by_cases h3:o=3
 ·subst h3; simp
 by_cases h4:o=4
 ·subst h4; simp
 by_cases h40:o=40
 ·subst h40; simp
 by_cases h41:o=41
 ·subst h41; simp
 simp [h1,h2,h3,h4,h40,h41]
theorem fits0v (o y n:Int) (t q:List UInt8):(Tm.mk o y n t q []).fits:=by rw [Tm.fits,tmsFits]; simp
theorem s_formed:∀ (m:Nat) (x:Tm),SizeOf.sizeOf x<m→x.fits→Cf Es 47 [x.a] [] (.d (.bool x.right)) []
 | 0,_,h,_=>absurd h (by omega)
 | m+1,.mk o y n t q ks,hm,hfit=>by
   refine cf_intro mixs (fn:=Tryz.f47) (by kernel_rfl) rfl (by kernel_rfl) (by decide) (by simp) ?_
   rw [Tm.fits] at hfit
   have hall:=all_T 47 Tm.right ks hfit.1 fun x hx=>s_formed m x (by
    have:=Tm.kid_lt (e:=.mk o y n t q ks) (k:=x) hx
    omega) (tmsFits_get ks hfit.2 x hx)
   have hcn:=s_counted o y n t q ks
   have hv1:=ups (v_valid ⟨1,n,[]⟩)
   have hv3:=ups (v_valid ⟨3,0,t⟩)
   have hn1:=s_name t
   have hn2:=s_name q
   have hsame:=fun (y n:Int) (t q:List UInt8)=>ups (s_sameTerm _ (.mk 0 y n t q []) (.mk 0 0 0 [] [] []) (Nat.lt_succ_self _) (fits0v 0 y n t q))
   rw [Tm.right,okK_eq,tmsRight_all,okS_rest]
   generalize hC:cntOk o n ks.length=C at *
   generalize hK:ks.all Tm.right=K at *
   simp [Tm.a,Tm.c,tmsC_map]
   refine ⟨.of (by kernel_rfl),?_⟩
   refine acallT_plain hcn (by simp [Tm.a,Tm.c,tmsC_map]) ?_
   simp
   refine agrd_cases (fun h=>?_) (fun h=>?_)
   ·obtain rfl:C=true:=by simpa using h
    simp
    refine acallT_plain hall (by simp) ?_
    cases K with
    | false =>
      simp
      all_goals exact gz
    | true =>
      clear hall hcn hC hK hm hfit
      simp [Tm.c,tmsC_map]
      refine ⟨.of (by kernel_rfl),.of (by kernel_rfl),.of (by kernel_rfl),.of (by kernel_rfl),?_⟩
      by_cases h1:o=1
      ·subst h1
       simp [Tm.c,tmsC_map]
       (repeat' (first|contradiction|exact .ok|apply And.intro|intro _|(refine gc (fun h=>?_) (fun h=>?_)<;>(have h':=h;(try simp at h');first|done|simp[h,h',Tm.c,tmsC_map]|simp[Tm.c,tmsC_map]))))
       all_goals first | done | (refine acallT_plain (hsame 0 n t q) (by simp [Tm.a,Tm.c,tmsC_map]) ?_; simp; (repeat' (first | contradiction | exact .of (by kernel_rfl) | refine And.intro ?_ ?_ | intro _ | (refine agrd_cases (fun h=>?_) (fun h=>?_) <;> (have h':=h; (try simp at h'); first | done | simp [h,h'] | simp))))) | skip
       all_goals first | done | (simp_all; done) | (simp_all; omega)
      by_cases h2:o=2
      ·subst h2
       simp [Tm.c,tmsC_map]
       (repeat' (first|contradiction|exact .ok|apply And.intro|intro _|(refine gc (fun h=>?_) (fun h=>?_)<;>(have h':=h;(try simp at h');first|done|simp[h,h',Tm.c,tmsC_map]|simp[Tm.c,tmsC_map]))))
       all_goals first | (refine acallT_plain hv1 (by simp [V.a]) ?_; simp [Tm.c,tmsC_map]; (repeat' (first | contradiction | exact .of (by kernel_rfl) | refine And.intro ?_ ?_ | intro _ | (refine agrd_cases (fun h=>?_) (fun h=>?_) <;> (have h':=h; (try simp at h'); first | done | simp [h,h',Tm.c,tmsC_map] | simp [Tm.c,tmsC_map]))))) | skip
       all_goals first | done | (refine acallT_plain (hsame y 0 t q) (by simp [Tm.a,Tm.c,tmsC_map]) ?_; simp; (repeat' (first | contradiction | exact .of (by kernel_rfl) | refine And.intro ?_ ?_ | intro _ | (refine agrd_cases (fun h=>?_) (fun h=>?_) <;> (have h':=h; (try simp at h'); first | done | simp [h,h'] | simp))))) | skip
       all_goals first | done | (simp_all; done) | (simp_all; omega)
      by_cases h3:o=3
      ·subst h3
       simp [Tm.c,tmsC_map]
       (repeat' (first|contradiction|exact .ok|apply And.intro|intro _|(refine gc (fun h=>?_) (fun h=>?_)<;>(have h':=h;(try simp at h');first|done|simp[h,h',Tm.c,tmsC_map]|simp[Tm.c,tmsC_map]))))
       all_goals first | done | (refine acallT_plain (hsame y 0 t q) (by simp [Tm.a,Tm.c,tmsC_map]) ?_; simp; (repeat' (first | contradiction | exact .of (by kernel_rfl) | refine And.intro ?_ ?_ | intro _ | (refine agrd_cases (fun h=>?_) (fun h=>?_) <;> (have h':=h; (try simp at h'); first | done | simp [h,h'] | simp))))) | skip
       all_goals first | done | (simp_all; done) | (simp_all; omega)
      by_cases h4:o=4
      ·subst h4
       simp [Tm.c,tmsC_map]
       (repeat' (first|contradiction|exact .ok|apply And.intro|intro _|(refine gc (fun h=>?_) (fun h=>?_)<;>(have h':=h;(try simp at h');first|done|simp[h,h',Tm.c,tmsC_map]|simp[Tm.c,tmsC_map]))))
       all_goals first | (refine acallT_plain hv3 (by simp [V.a]) ?_; simp [Tm.c,tmsC_map]; (repeat' (first | contradiction | exact .of (by kernel_rfl) | refine And.intro ?_ ?_ | intro _ | (refine agrd_cases (fun h=>?_) (fun h=>?_) <;> (have h':=h; (try simp at h'); first | done | simp [h,h',Tm.c,tmsC_map] | simp [Tm.c,tmsC_map]))))) | skip
       all_goals first | done | (refine acallT_plain (hsame y n [] q) (by simp [Tm.a,Tm.c,tmsC_map]) ?_; simp; (repeat' (first | contradiction | exact .of (by kernel_rfl) | refine And.intro ?_ ?_ | intro _ | (refine agrd_cases (fun h=>?_) (fun h=>?_) <;> (have h':=h; (try simp at h'); first | done | simp [h,h'] | simp))))) | skip
       all_goals first | done | (simp_all; done) | (simp_all; omega)
      by_cases h40:o=40
      ·subst h40
       simp [Tm.c,tmsC_map]
       (repeat' (first|contradiction|exact .ok|apply And.intro|intro _|(refine gc (fun h=>?_) (fun h=>?_)<;>(have h':=h;(try simp at h');first|done|simp[h,h',Tm.c,tmsC_map]|simp[Tm.c,tmsC_map]))))
       all_goals first | (refine acallT_plain hn1 (by simp [V.a]) ?_; simp [Tm.c,tmsC_map]; (repeat' (first | contradiction | exact .of (by kernel_rfl) | refine And.intro ?_ ?_ | intro _ | (refine agrd_cases (fun h=>?_) (fun h=>?_) <;> (have h':=h; (try simp at h'); first | done | simp [h,h',Tm.c,tmsC_map] | simp [Tm.c,tmsC_map]))))) | skip
       all_goals first | (refine acallT_plain hn2 (by simp [V.a]) ?_; simp [Tm.c,tmsC_map]; (repeat' (first | contradiction | exact .of (by kernel_rfl) | refine And.intro ?_ ?_ | intro _ | (refine agrd_cases (fun h=>?_) (fun h=>?_) <;> (have h':=h; (try simp at h'); first | done | simp [h,h',Tm.c,tmsC_map] | simp [Tm.c,tmsC_map]))))) | skip
       all_goals first | done | (refine acallT_plain (hsame y n [] []) (by simp [Tm.a,Tm.c,tmsC_map]) ?_; simp; (repeat' (first | contradiction | exact .of (by kernel_rfl) | refine And.intro ?_ ?_ | intro _ | (refine agrd_cases (fun h=>?_) (fun h=>?_) <;> (have h':=h; (try simp at h'); first | done | simp [h,h'] | simp))))) | skip
       all_goals first | done | (simp_all; done) | (simp_all; omega)
      by_cases h41:o=41
      ·subst h41
       simp [Tm.c,tmsC_map]
       (repeat' (first|contradiction|exact .ok|apply And.intro|intro _|(refine gc (fun h=>?_) (fun h=>?_)<;>(have h':=h;(try simp at h');first|done|simp[h,h',Tm.c,tmsC_map]|simp[Tm.c,tmsC_map]))))
       all_goals first | done | (refine acallT_plain (hsame y 0 t q) (by simp [Tm.a,Tm.c,tmsC_map]) ?_; simp; (repeat' (first | contradiction | exact .of (by kernel_rfl) | refine And.intro ?_ ?_ | intro _ | (refine agrd_cases (fun h=>?_) (fun h=>?_) <;> (have h':=h; (try simp at h'); first | done | simp [h,h'] | simp))))) | skip
       all_goals first | done | (simp_all; done) | (simp_all; omega)
      simp [h1,h2,h3,h4,h40,h41,Tm.c,tmsC_map]
      (repeat' (first|contradiction|exact .ok|apply And.intro|intro _|(refine gc (fun h=>?_) (fun h=>?_)<;>(have h':=h;(try simp at h');first|done|simp[h,h',h1,h2,h3,h4,h40,h41,Tm.c,tmsC_map]|simp[h1,h2,h3,h4,h40,h41,Tm.c,tmsC_map]))))
      all_goals first | done | (refine acallT_plain (hsame y n t q) (by simp [Tm.a,Tm.c,tmsC_map]) ?_; simp; (repeat' (first | contradiction | exact .of (by kernel_rfl) | refine And.intro ?_ ?_ | intro _ | (refine agrd_cases (fun h=>?_) (fun h=>?_) <;> (have h':=h; (try simp at h'); first | done | simp [h,h'] | simp))))) | skip
      all_goals first | done | (simp_all; done) | (simp_all; omega)
   ·obtain rfl:C=false:=by simpa using h
    simp
    all_goals exact gz
theorem scan_end {s:List UInt8} {a:Nat} (h:skipB s a=s.length):(scanT s a).kd=5∧(scanT s a).rw=[]∧(scanT s a).fr=s.length∧(scanT s a).ends=true:=by
 have hd:s.drop s.length=[]:=List.drop_length
 refine ⟨?_,?_,h,?_⟩
 ·show (lexR (s.drop (skipB s a))).1=5
  rw [h,hd]; rfl
 ·show (s.drop (skipB s a)).take _=[]
  rw [h,hd]; rfl
 ·show ((lexR (s.drop (skipB s a))).1==0||(lexR (s.drop (skipB s a))).1==5)=true
  rw [h,hd]; rfl
theorem p_scan (s:List UInt8) (hs:s.length≤5000):Cf Es 60 [.d (.str s)] [] (.d (.sl ((toks s).map tokC))) []:=by
 refine cf_intro mixs (fn:=Tryz.f60) (by kernel_rfl) rfl (by kernel_rfl) (by decide) (by simp) ?_
 simp<;>(repeat' first|contradiction|exact .ok|apply And.intro|intro _|(refine gc (fun h=>?_) (fun h=>?_)<;>(have h':=h;(try simp at h');first|done|simp[h,h']|simp)))
 refine aloopT mixs (by decide) (fun y:Nat×List Tk=>{ s:=mkS [(0,.d (.str s)),(3,.ref 900 0 y.2.length 3),(4,.d (.int .i64 y.1))],b:=mkB [(900,900,.arr 103 3 (y.2.map tokC) false)] })
  (fun y=>y.1≤s.length∧y.2.length≤y.1∧∃ k,s.length+1≤k+y.1∧toks s=y.2++tokF s k y.1) (fun y=>s.length - y.1) (0,[]) ⟨by simp,by simp,s.length+1,by simp,rfl⟩
  (sub_mkn 3 900 103 3 (by simp) (by simp) (by decide) (by decide) _ [(900,900,_)] ⟨by simp,by simp,by simp [renOf,Blk.live,upd],by simp⟩ (by simp [renOf,upd])) ?_
 rintro ⟨a,L⟩ ⟨ha,hL,k,hk,hto⟩
 simp only at ha hL hk hto
 obtain ⟨k,rfl⟩:∃ z,k=z+1:=⟨k - 1,by omega⟩
 have hrun:=ups (p_run 98 blankB p_space (s.drop a) (by simp; omega))
 have hsk:=skip_le ha
 have hskd:skipB s a=a+((s.drop a).takeWhile blankB).length:=rfl
 generalize ((s.drop a).takeWhile blankB).length=n at *
 have hwr:=wrap_in (n:=(a:Int)+(n:Int)) (by omega) (by omega)
 have hal:(a:Int)≤(s.length:Int):=by omega
 have hbb:(L.length+1)*32≤140737488355328:=by omega
 have hb2:L.length≤9223372036854775806:=by omega
 simp [hal,ha]<;>(repeat' first|contradiction|exact .ok|apply And.intro|intro _|(refine gc (fun h=>?_) (fun h=>?_)<;>(have h':=h;(try simp at h');first|done|simp[h,h',hal,ha]|simp[hal,ha])))
 refine acallT_plain hrun (by simp) ?_
 obtain ⟨a',ha'⟩:∃ a',a'=skipB s a:=⟨_,rfl⟩
 have hz:(a:Int)+(n:Int)=a':=by omega
 have hz':a+n=a':=by omega
 rw [hz] at hwr
 rw [tokF] at hto
 by_cases he:a'=s.length
 ·obtain ⟨k5,rw5,fr5,e5⟩:=scan_end (ha' ▸ he)
  rw [if_pos e5] at hto
  have heI:(a:Int)+(n:Int)=(s.length:Int):=by omega
  have hwr2:IntKind.i64.wrap (s.length:Int)=(s.length:Int):=wrap_in (by omega) (by omega)
  simp [heI,hwr2,hbb,hb2]<;>(repeat' first|contradiction|exact .ok|apply And.intro|intro _|(refine gc (fun h=>?_) (fun h=>?_)<;>(have h':=h;(try simp at h');first|done|simp[h,h',heI,hwr2,hbb,hb2]|simp[heI,hwr2,hbb,hb2])))
  all_goals (rw [hto,List.take_of_length_le (by simp)]; simp [tokC,k5,rw5,fr5])
 ·have heI:¬ (a':Int)=(s.length:Int):=by omega
  obtain ⟨c,q,hcq⟩:∃ c q,s.drop a'=c::q:=by
   cases hd:s.drop a' with
   | nil=>have:=List.drop_eq_nil_iff.1 hd; omega
   | cons c q=>exact ⟨c,q,rfl⟩
  have hnx:=p_next c q (by rw [← hcq]; simp; omega)
  have hal':(a':Int)≤(s.length:Int):=by omega
  have hal2:a'≤s.length:=by omega
  simp [hz,hwr,heI,hal',hal2]<;>(repeat' first|contradiction|exact .ok|apply And.intro|intro _|(refine gc (fun h=>?_) (fun h=>?_)<;>(have h':=h;(try simp at h');first|done|simp[h,h',hz,hwr,heI,hal',hal2]|simp[hz,hwr,heI,hal',hal2])))
  refine acallT_plain hnx (by simp [hcq]) ?_
  have hto2:=scan_to ha
  have hk5:(lexR (c::q)).1 ≠ 5:=lex_kd
  have htk:scanT s a=⟨(lexR (c::q)).1,(c::q).take (lexR (c::q)).2.1,(lexR (c::q)).2.2.1,(lexR (c::q)).2.2.2,a',a'+(lexR (c::q)).2.1⟩:=by
   unfold scanT
   rw [← ha',hcq]
  rw [htk] at hto hto2
  unfold nxA
  generalize lexR (c::q)=x at *
  obtain ⟨kd,n2,tx,nn⟩:=x
  simp only at hto hto2 hk5 htk
  have hwr3:=wrap_in (n:=(a':Int)+(n2:Int)) (by omega) (by omega)
  obtain ⟨z,hz2⟩:∃ z,z=a'+n2:=⟨_,rfl⟩
  have hz3:(a':Int)+(n2:Int)=z:=by omega
  rw [hz3] at hwr3
  have hlo:(a':Int)≤(z:Int):=by omega
  have hhi:(z:Int)≤(s.length:Int):=by omega
  have htx:List.drop a' (List.take z s)=List.take n2 (c::q):=by rw [hz2,← hcq,List.drop_take,Nat.add_sub_cancel_left]
  by_cases h0:kd=0
  ·have hen:Tk.ends ⟨kd,(c::q).take n2,tx,nn,a',a'+n2⟩=true:=by simp [Tk.ends,h0]
   rw [if_pos hen] at hto
   simp [hz3,hwr3,hlo,hhi,hbb,hb2,h0]<;>(repeat' first|contradiction|exact .ok|apply And.intro|intro _|(refine gc (fun h=>?_) (fun h=>?_)<;>(have h':=h;(try simp at h');first|done|simp[h,h',hz3,hwr3,hlo,hhi,hbb,hb2,h0]|simp[hz3,hwr3,hlo,hhi,hbb,hb2,h0])))
   all_goals (rw [hto,List.take_of_length_le (by simp)]; simp [tokC,h0,htx])
  ·have hen:Tk.ends ⟨kd,(c::q).take n2,tx,nn,a',a'+n2⟩=false:=by simp [Tk.ends,h0,hk5]
   rw [if_neg (by simp [hen])] at hto
   simp [hz3,hwr3,hlo,hhi,hbb,hb2,h0]<;>(repeat' first|contradiction|exact .ok|apply And.intro|intro _|(refine gc (fun h=>?_) (fun h=>?_)<;>(have h':=h;(try simp at h');first|done|simp[h,h',hz3,hwr3,hlo,hhi,hbb,hb2,h0]|simp[hz3,hwr3,hlo,hhi,hbb,hb2,h0])))
   obtain ⟨h21,h22,h23,h24⟩:=hto2
   have h25:=h24 hen
   refine ⟨(z,L++[⟨kd,(c::q).take n2,tx,nn,a',a'+n2⟩]),⟨by simp only; omega,by simp; omega,k,by simp only; omega,by rw [hto,hz2]; simp⟩,?_,by simp only; omega⟩
   exact sub_mk _ [(900,40,_)] ⟨by simp,by simp,by simp [renOf,Blk.live,tokC,hk5,htx],by simp⟩ (by simp [renOf])
structure TkV (t:Tk):Prop where
 num:t.kd=2→resP t.rw=(V.mk 1 t.n [],0)
 txt:t.kd=3→resP t.rw=(V.mk 3 0 t.tx,0)
 len:t.rw.length≤10000
def okT (T:List Tk):Prop:=∀ t∈T,TkV t
def priS (q:List Tk→Res Tm):List Tk→Res Tm
 | []=>.error 0
 | t::r =>
   if t.kd=2 then .ok (.mk 2 0 t.n [] [] [],r)
   else if t.kd=3 then .ok (.mk 4 0 0 t.tx [] [],r)
   else if isW wTrue (t::r)=true then .ok (.mk 3 0 1 [] [] [],r)
   else if isW wFalse (t::r)=true then .ok (mkT 3 [],r)
   else if isW wNull (t::r)=true then (match oneOf [wInt,wBool,wText] r with
    | some i=>.ok (.mk 1 (1+i) 0 [] [] [],r.tail)
    | none=>.error (posT r))
   else if isW wOpen (t::r)=true then bind2 (q r) fun t l2=>bind1 (expS [wShut] l2) fun l3=>.ok (t,l3)
   else if isW wLength (t::r)=true then bind2 (listS q 0 r) fun ks l2=>.ok (mkT 13 ks,l2)
   else if isW wCoalesce (t::r)=true then bind2 (listS q 1 r) fun ks l2=>.ok (mkT 27 ks,l2)
   else if isW wCase (t::r)=true then bind2 (caseS q [wWhen,wThen,wElse] [] r) fun ks l2=>bind1 (expS [wEnd] l2) fun l3=>.ok (mkT 26 ks,l3)
   else match oneOf aggW (t::r) with
    | some i=>aggS q i r
    | none=>bind2 (nameS (t::r)) fun a l1 =>
      if isW wDot l1=true then bind2 (nameS l1.tail) fun b l2=>.ok (.mk 40 0 0 b a [],l2) else .ok (.mk 40 0 0 a [] [],l1)
section
variable {fD:Nat→D} {T:List Tk} {L:Nat} {q:List Tk→Res Tm}
theorem p_prim_num {t:Tk} {r:List Tk} (hV:okT T) (hT:T.length≤10000) (ha:At T (t::r)) (hk:t.kd=2) :
  Cf Es 213 [.ptr 1000000 0 0] [rdB T (t::r)] (Tm.mk 2 0 t.n [] [] []).a [rdB T r]:=by
 have hp:=ups (p_peek ha.sfx ha.ne hT)
 have hv:=hV t (ha.sfx.subset List.mem_cons_self)
 have hlen:=ha.sfx.length_le
 have hpar:=upw (v_parse t.rw (by have:=hv.len; omega))
 rw [hv.num hk] at hpar
 refine cf_intro mixs (fn:=Tryz.f213) (by kernel_rfl) rfl (by kernel_rfl) (by decide) (by simp [rdB]) ?_
 simp only [hdT,tkA,tokC,hk,show ((2:Int)=5)=False from by decide,if_false] at hp
 have hi:T.length - r.length=T.length - (t::r).length+1:=by simp only [List.length_cons] at *; omega
 have hb:T.length - (t::r).length≤10000:=by omega
 unfold rdB at *
 rw [hi]
 generalize T.length - (t::r).length=i at *
 have hwr:=wrap_in (n:=(i:Int)+1) (by omega) (by omega)
 simp [V.a,V.c] at hp hpar ⊢
 (repeat' (first|contradiction|exact .ok|apply And.intro|intro _|(refine gc (fun h=>?_) (fun h=>?_)<;>(have h':=h;(try simp at h');first|done|simp[h,h']|simp))))
 refine acallT_hand [1000000] (hp) (by simp) (by simp) (by simp) (by simp) (by simp) ?_
 simp [hwr]<;>(repeat' first|contradiction|exact .ok|apply And.intro|intro _|(refine gc (fun h=>?_) (fun h=>?_)<;>(have h':=h;(try simp at h');first|done|simp[h,h',hwr]|simp[hwr])))
 refine acallT_plain hpar (by simp) ?_
 simp<;>(repeat' first|contradiction|exact .ok|apply And.intro|intro _|(refine gc (fun h=>?_) (fun h=>?_)<;>(have h':=h;(try simp at h');first|done|simp[h,h']|simp)))
 refine acallT_plain (ups (p_made 2 [])) (by simp) ?_
 simp [mkT,Tm.c,tmsC,hwr]<;>(repeat' first|contradiction|exact .ok|apply And.intro|intro _|(refine gc (fun h=>?_) (fun h=>?_)<;>(have h':=h;(try simp at h');first|done|simp[h,h',mkT,Tm.c,tmsC,hwr]|simp[mkT,Tm.c,tmsC,hwr])))
theorem p_prim_txt {t:Tk} {r:List Tk} (hV:okT T) (hT:T.length≤10000) (ha:At T (t::r)) (hk:t.kd=3) :
  Cf Es 213 [.ptr 1000000 0 0] [rdB T (t::r)] (Tm.mk 4 0 0 t.tx [] []).a [rdB T r]:=by
 have hp:=ups (p_peek ha.sfx ha.ne hT)
 have hv:=hV t (ha.sfx.subset List.mem_cons_self)
 have hlen:=ha.sfx.length_le
 have hpar:=upw (v_parse t.rw (by have:=hv.len; omega))
 rw [hv.txt hk] at hpar
 refine cf_intro mixs (fn:=Tryz.f213) (by kernel_rfl) rfl (by kernel_rfl) (by decide) (by simp [rdB]) ?_
 simp only [hdT,tkA,tokC,hk,show ((3:Int)=5)=False from by decide,if_false] at hp
 have hi:T.length - r.length=T.length - (t::r).length+1:=by simp only [List.length_cons] at *; omega
 have hb:T.length - (t::r).length≤10000:=by omega
 unfold rdB at *
 rw [hi]
 generalize T.length - (t::r).length=i at *
 have hwr:=wrap_in (n:=(i:Int)+1) (by omega) (by omega)
 simp [V.a,V.c] at hp hpar ⊢
 (repeat' (first|contradiction|exact .ok|apply And.intro|intro _|(refine gc (fun h=>?_) (fun h=>?_)<;>(have h':=h;(try simp at h');first|done|simp[h,h']|simp))))
 refine acallT_hand [1000000] (hp) (by simp) (by simp) (by simp) (by simp) (by simp) ?_
 simp [hwr]<;>(repeat' first|contradiction|exact .ok|apply And.intro|intro _|(refine gc (fun h=>?_) (fun h=>?_)<;>(have h':=h;(try simp at h');first|done|simp[h,h',hwr]|simp[hwr])))
 refine acallT_plain hpar (by simp) ?_
 simp<;>(repeat' first|contradiction|exact .ok|apply And.intro|intro _|(refine gc (fun h=>?_) (fun h=>?_)<;>(have h':=h;(try simp at h');first|done|simp[h,h']|simp)))
 refine acallT_plain (ups (p_made 2 [])) (by simp) ?_
 simp [mkT,Tm.c,tmsC,hwr]<;>(repeat' first|contradiction|exact .ok|apply And.intro|intro _|(refine gc (fun h=>?_) (fun h=>?_)<;>(have h':=h;(try simp at h');first|done|simp[h,h',mkT,Tm.c,tmsC,hwr]|simp[mkT,Tm.c,tmsC,hwr])))
 refine acallT_plain (ups (p_made 4 [])) (by simp) ?_
 simp [mkT,Tm.c,tmsC,hwr]<;>(repeat' first|contradiction|exact .ok|apply And.intro|intro _|(refine gc (fun h=>?_) (fun h=>?_)<;>(have h':=h;(try simp at h');first|done|simp[h,h',mkT,Tm.c,tmsC,hwr]|simp[mkT,Tm.c,tmsC,hwr])))
end
end Go.Proofs.Tryz
