import Derived.Test.YtgdkfmglkjfciaaGreatDoorPNxt
import Derived.Test.YtgdkfmglkjfciaaGreatDoorPShy
import Derived.Test.YtgdkfmglkjfciaaGreatDoorLif
set_option linter.all false
namespace Go.Proofs.Tryz
open Go.Ab
set_option maxRecDepth 100000
set_option maxHeartbeats 4000000
def FailOk (fD:Nat→D):Prop:=∀ (T l:List Tk),l <:+ T→l ≠ []→T.length≤10000→CfX panE En 26 [.ptr 1000000 0 0] [rdB T l] (.d (fD (posT l))) (deadB 1)
def outE (fD:Nat→D) (T:List Tk) (r:Except Nat (List Tk)):Out:=match r with
 | .error p=>.pan (fD p)
 | .ok m=>.ret (.tup []) [rdB T m]
theorem p_expect {fD:Nat→D} (hF:FailOk fD) {T l:List Tk} (hs:l <:+ T) (ho:okE l) (hT:T.length≤10000) (ws:List (List UInt8)) (hw:ws.length≤1000) :
  CfO En 41 [.ptr 1000000 0 0,.d (.sl (ws.map fun w=>[.str w]))] [rdB T l] (outE fD T (expS ws l)):=by
 cases hr:expS ws l with
 | ok m =>
   unfold outE
   refine cfO_intro mix (fn:=Tryz.f41) (by kernel_rfl) rfl (by kernel_rfl) (by decide) _ (by simp) (by simp [rdB]) ?_
   simp
   (repeat' (first|contradiction|exact .ok|apply And.intro|intro _|(refine gc (fun h=>?_) (fun h=>?_)<;>(have h':=h;(try simp at h');first|done|simp[h,h']|simp))))
   refine aloopPT mix (by decide) (fun i:Nat×List Tk=>{ s:=mkS [(0,.ptr 1000000 0 0),(1,.d (.sl (ws.map fun w=>[.str w]))),(6,.d (.sl (ws.map fun w=>[.str w]))),(7,.d (.int .i64 ws.length)),(8,.d (.int .i64 i.1))],b:=mkB [(1000000,1000000,rdB T i.2)] }) (fun i=>i.1≤ws.length∧i.2 <:+ T∧okE i.2∧expS (ws.drop i.1) i.2=.ok m) (fun i=>ws.length - i.1) (0,l) ⟨by simp,hs,ho,by simpa using hr⟩
    (sub_mk _ [(1000000,1000000,_)] ⟨by simp,by simp,by simp [renOf,Blk.live,rdB],base1⟩ (by simp [renOf])) ?_
   rintro ⟨i,l1⟩ ⟨hi,hs1,ho1,he⟩
   simp only at hi hs1 ho1 he
   by_cases hlt:i<ws.length
   ·have h1:=p_take hs1 ho1.ne hT ws[i]
    have h2:=hF T l1 hs1 ho1.ne hT
    have hwr:=wrap_in (n:=(i:Int)+1) (by omega) (by omega)
    rw [List.drop_eq_getElem_cons hlt,expS] at he
    obtain ⟨e,hee⟩:∃ e,e=ws[i]:=⟨_,rfl⟩
    have hge:∀ h,ws[i]'h=e:=fun _=>hee.symm
    rw [hge] at h1 he
    cases hb:isW e l1 with
    | true =>
      rw [hb] at h1 he
      simp only [if_true] at h1 he
      simp [hlt,hge]
      (repeat' (first|contradiction|exact .ok|apply And.intro|intro _|(refine gc (fun h=>?_) (fun h=>?_)<;>(have h':=h;(try simp at h');first|done|simp[h,h',hlt,hge]|simp[hlt,hge]))))
      refine acallP_of (acallT_hand [1000000] h1 (by simp [rdB]) (by simp) (by simp [rdB]) (by simp [rdB]) (by simp) ?_)
      simp
      (repeat' (first|contradiction|exact .ok|apply And.intro|intro _|(refine gc (fun h=>?_) (fun h=>?_)<;>(have h':=h;(try simp at h');first|done|simp[h,h']|simp))))
      refine ⟨(i+1,l1.tail),⟨by simp only; omega,(tail_sfx l1).trans hs1,ho1.tl hb,he⟩,?_,by simp only; omega⟩
      exact sub_mk _ [(1000000,1000000,_)] ⟨by simp,by simp,by simp [renOf,Blk.live,rdB],base1⟩ (by simp [renOf,hwr])
    | false =>
      rw [hb] at h1 he
      simp only [Bool.false_eq_true,if_false] at h1 he
      cases he
   ·obtain rfl:i=ws.length:=by omega
    rw [List.drop_length,expS] at he
    cases he
    simp
    (repeat' (first|contradiction|exact .ok|apply And.intro|intro _|(refine gc (fun h=>?_) (fun h=>?_)<;>(have h':=h;(try simp at h');first|done|simp[h,h']|simp))))
    all_goals first | (rw [kept_b1]; simp [rdB]; done) | (simp [rdB]; done) | skip
 | error p =>
   unfold outE
   refine cfO_intro mix (fn:=Tryz.f41) (by kernel_rfl) rfl (by kernel_rfl) (by decide) _ (by simp) (by simp [rdB]) ?_
   simp
   (repeat' (first|contradiction|exact .ok|apply And.intro|intro _|(refine gc (fun h=>?_) (fun h=>?_)<;>(have h':=h;(try simp at h');first|done|simp[h,h']|simp))))
   refine aloopPT mix (by decide) (fun i:Nat×List Tk=>{ s:=mkS [(0,.ptr 1000000 0 0),(1,.d (.sl (ws.map fun w=>[.str w]))),(6,.d (.sl (ws.map fun w=>[.str w]))),(7,.d (.int .i64 ws.length)),(8,.d (.int .i64 i.1))],b:=mkB [(1000000,1000000,rdB T i.2)] }) (fun i=>i.1≤ws.length∧i.2 <:+ T∧okE i.2∧expS (ws.drop i.1) i.2=.error p) (fun i=>ws.length - i.1) (0,l) ⟨by simp,hs,ho,by simpa using hr⟩
    (sub_mk _ [(1000000,1000000,_)] ⟨by simp,by simp,by simp [renOf,Blk.live,rdB],base1⟩ (by simp [renOf])) ?_
   rintro ⟨i,l1⟩ ⟨hi,hs1,ho1,he⟩
   simp only at hi hs1 ho1 he
   by_cases hlt:i<ws.length
   ·have h1:=p_take hs1 ho1.ne hT ws[i]
    have h2:=hF T l1 hs1 ho1.ne hT
    have hwr:=wrap_in (n:=(i:Int)+1) (by omega) (by omega)
    rw [List.drop_eq_getElem_cons hlt,expS] at he
    obtain ⟨e,hee⟩:∃ e,e=ws[i]:=⟨_,rfl⟩
    have hge:∀ h,ws[i]'h=e:=fun _=>hee.symm
    rw [hge] at h1 he
    cases hb:isW e l1 with
    | true =>
      rw [hb] at h1 he
      simp only [if_true] at h1 he
      simp [hlt,hge]
      (repeat' (first|contradiction|exact .ok|apply And.intro|intro _|(refine gc (fun h=>?_) (fun h=>?_)<;>(have h':=h;(try simp at h');first|done|simp[h,h',hlt,hge]|simp[hlt,hge]))))
      refine acallP_of (acallT_hand [1000000] h1 (by simp [rdB]) (by simp) (by simp [rdB]) (by simp [rdB]) (by simp) ?_)
      simp
      (repeat' (first|contradiction|exact .ok|apply And.intro|intro _|(refine gc (fun h=>?_) (fun h=>?_)<;>(have h':=h;(try simp at h');first|done|simp[h,h']|simp))))
      refine ⟨(i+1,l1.tail),⟨by simp only; omega,(tail_sfx l1).trans hs1,ho1.tl hb,he⟩,?_,by simp only; omega⟩
      exact sub_mk _ [(1000000,1000000,_)] ⟨by simp,by simp,by simp [renOf,Blk.live,rdB],base1⟩ (by simp [renOf,hwr])
    | false =>
      rw [hb] at h1 he
      simp only [Bool.false_eq_true,if_false] at h1 he
      cases he
      simp [hlt,hge]
      (repeat' (first|contradiction|exact .ok|apply And.intro|intro _|(refine gc (fun h=>?_) (fun h=>?_)<;>(have h':=h;(try simp at h');first|done|simp[h,h',hlt,hge]|simp[hlt,hge]))))
      refine acallP_of (acallT_hand [1000000] h1 (by simp [rdB]) (by simp) (by simp [rdB]) (by simp [rdB]) (by simp) ?_)
      simp
      (repeat' (first|contradiction|exact .ok|apply And.intro|intro _|(refine gc (fun h=>?_) (fun h=>?_)<;>(have h':=h;(try simp at h');first|done|simp[h,h']|simp))))
      refine acallP_pan [1000000] h2 (by simp) (by simp [rdB]) (by simp [rdB]) (by simp) (by kernel_rfl)
   ·obtain rfl:i=ws.length:=by omega
    rw [List.drop_length,expS] at he
    cases he
def Kp (st st':RS):Prop:=st'.1 <:+ st.1∧(okE st.1→okE st'.1)
theorem Kp.refl (st:RS):Kp st st:=⟨List.suffix_refl _,id⟩
theorem Kp.trans {a b c:RS} (h:Kp a b) (h':Kp b c):Kp a c:=⟨h'.1.trans h.1,fun e=>h'.2 (h.2 e)⟩
theorem okE.tlE {l:List Tk} (h:okE l) (he:(hdT l).ends=false):okE l.tail:=by
 cases l with
 | nil=>exact absurd rfl h.ne
 | cons t r=>exact h.cons he
theorem kp_next {st:RS} (he:(hdT st.1).ends=false):Kp st (rNext st):=by
 unfold rNext
 split
 ·exact ⟨tail_sfx _,fun h=>h.tlE he⟩
 ·exact .refl st
theorem kp_fail (st:RS):Kp st (rFail st):=by
 unfold rFail
 split <;> exact .refl _
theorem isW_end {w:List UInt8} {l:List Tk} (h:isW w l=true):(hdT l).ends=false:=by
 cases l with
 | nil=>cases h
 | cons t r =>
   simp only [isW,Bool.and_eq_true,Bool.or_eq_true,beq_iff_eq] at h
   exact ends_kd (by simp only [hdT]; omega) (by simp only [hdT]; omega)
theorem rIs_W {w:List UInt8} {st:RS} (h:rIs w st=true):st.2<0∧isW w st.1=true:=by
 unfold rIs at h
 simpa using h
theorem kp_is {w:List UInt8} {st:RS} (h:rIs w st=true):Kp st (rNext st):=kp_next (isW_end (rIs_W h).2)
theorem kp_want (w:List UInt8) (st:RS):Kp st (rWant w st):=by
 unfold rWant
 split
 ·rename_i h; exact kp_is h
 ·exact kp_fail st
theorem rOne_W {ws:List (List UInt8)} {st:RS} {i:Nat} (h:rOne ws st=some i):st.2<0∧oneOf ws st.1=some i:=by
 unfold rOne at h
 split at h
 ·rename_i hb; exact ⟨hb,h⟩
 ·cases h
theorem kp_one {ws:List (List UInt8)} {st:RS} {i:Nat} (h:rOne ws st=some i):Kp st (rNext st):=by
 obtain ⟨w,hw⟩:=one_w (rOne_W h).2
 exact kp_next (isW_end hw)
theorem rNamed_kd {st:RS} (h:rNamed st=true):st.2<0∧(hdT st.1).kd=1:=by
 unfold rNamed at h
 simp only [Bool.and_eq_true,decide_eq_true_eq,beq_iff_eq] at h
 exact ⟨h.1,h.2.1⟩
theorem kp_name (st:RS):Kp st (rName st).2:=by
 unfold rName
 split
 ·rename_i h
  have:=(rNamed_kd h).2
  exact kp_next (ends_kd (by omega) (by omega))
 ·exact kp_fail st
theorem kp_chain {q:RS→Tm×RS} (hq:∀ st,Kp st (q st).2) (sg:List (List UInt8)) (ops:List Int):∀ (k:Nat) (out:Tm) (st:RS),Kp st (chainR q sg ops k out st).2
 | 0,out,st=>.refl st
 | k+1,out,st=>by
   rw [chainR]
   split
   ·exact .refl st
   ·rename_i h
    exact (kp_one h).trans ((hq _).trans (kp_chain hq sg ops k _ _))
theorem kp_more {q:RS→Tm×RS} (hq:∀ st,Kp st (q st).2):∀ (k:Nat) (ks:List Tm) (st:RS),Kp st (moreR q k ks st).2
 | 0,ks,st=>.refl st
 | k+1,ks,st=>by
   rw [moreR]
   split
   ·rename_i h
    exact (kp_is h).trans ((hq _).trans (kp_more hq k _ _))
   ·exact .refl st
theorem kp_agg {q:RS→Tm×RS} (hq:∀ st,Kp st (q st).2) (st:RS):Kp st (aggR q st).2:=by
 unfold aggR
 split
 ·exact kp_fail st
 ·rename_i h
  have h1:=(kp_one h).trans (kp_want wOpen _)
  simp only
  split
  ·rename_i h2; exact h1.trans ((kp_is h2.2).trans (kp_want _ _))
  ·split
   ·rename_i h2; exact h1.trans ((kp_is h2.2).trans ((hq _).trans (kp_want _ _)))
   ·exact h1.trans ((hq _).trans (kp_want _ _))
theorem kp_null (st:RS):Kp st (nullR st).2:=by
 unfold nullR
 split
 ·rename_i h; exact kp_one h
 ·exact kp_fail st
theorem kp_case {q:RS→Tm×RS} (hq:∀ st,Kp st (q st).2) (st:RS):Kp st (caseR q st).2 :=
 (kp_want _ _).trans ((hq _).trans ((kp_want _ _).trans ((hq _).trans ((kp_want _ _).trans ((hq _).trans (kp_want _ _))))))
theorem kp_par:∀ (n lvl:Nat) (st:RS),Kp st (parR n lvl st).2
 | 0,lvl,st=>kp_fail st
 | n+1,0,st=>by rw [parR]; exact (kp_par n 1 st).trans (kp_chain (kp_par n 1) _ _ _ _ _)
 | n+1,1,st=>by rw [parR]; exact (kp_par n 2 st).trans (kp_chain (kp_par n 2) _ _ _ _ _)
 | n+1,2,st=>by
   rw [parR]
   split
   ·rename_i h; exact (kp_is h).trans (kp_par n 2 _)
   ·exact kp_par n 3 st
 | n+1,3,st=>by
   rw [parR]
   have h1:=kp_par n 4 st
   simp only
   split
   ·rename_i h; exact h1.trans ((kp_one h).trans (kp_par n 4 _))
   ·split
    ·rename_i h; exact h1.trans ((kp_is h).trans ((kp_want _ _).trans ((kp_par n 0 _).trans ((kp_more (kp_par n 0) _ _ _).trans (kp_want _ _)))))
    ·split
     ·rename_i h
      have h2:=h1.trans (kp_is h)
      split
      ·rename_i h3; exact h2.trans (kp_is h3)
      ·split
       ·rename_i h3; exact h2.trans (kp_is h3)
       ·split
        ·rename_i h3; exact h2.trans ((kp_is h3).trans (kp_want _ _))
        ·exact h2.trans (kp_fail _)
     ·exact h1
 | n+1,4,st=>by rw [parR]; exact (kp_par n 5 st).trans (kp_chain (kp_par n 5) _ _ _ _ _)
 | n+1,5,st=>by rw [parR]; exact (kp_par n 6 st).trans (kp_chain (kp_par n 6) _ _ _ _ _)
 | n+1,6,st=>by
   rw [parR]
   split
   ·rename_i h
    simp only
    split
    ·rename_i h2; exact (kp_is h).trans (kp_next (ends_kd (by omega) (by omega)))
    ·exact (kp_is h).trans (kp_par n 6 _)
   ·exact kp_par n 7 st
 | n+1,m+7,st=>by
   rw [parR]
   by_cases h:0≤st.2
   ·rw [if_pos h]; exact .refl st
   rw [if_neg h]
   by_cases h:(hdT st.1).kd=2
   ·rw [if_pos h]; exact kp_next (ends_kd (by omega) (by omega))
   rw [if_neg h]
   by_cases h:(hdT st.1).kd=3
   ·rw [if_pos h]; exact kp_next (ends_kd (by omega) (by omega))
   rw [if_neg h]
   by_cases h:rNamed st=true
   ·rw [if_pos h]
    by_cases h:rIs wDot (rName st).2=true
    ·simp only [h,if_true]; exact (kp_name st).trans ((kp_is h).trans (kp_name _))
    ·simp only [h,if_false]; exact kp_name st
   rw [if_neg h]
   by_cases h:rIs wOpen st=true
   ·rw [if_pos h]; exact (kp_is h).trans ((kp_par n 0 _).trans (kp_want _ _))
   rw [if_neg h]
   by_cases h:rIs wTrue st=true
   ·rw [if_pos h]; exact kp_is h
   rw [if_neg h]
   by_cases h:rIs wFalse st=true
   ·rw [if_pos h]; exact kp_is h
   rw [if_neg h]
   by_cases h:rIs wNull st=true
   ·rw [if_pos h]; exact (kp_is h).trans (kp_null _)
   rw [if_neg h]
   by_cases h:rIs wLength st=true
   ·rw [if_pos h]; exact (kp_is h).trans ((kp_want _ _).trans ((kp_par n 0 _).trans (kp_want _ _)))
   rw [if_neg h]
   by_cases h:rIs wCoalesce st=true
   ·rw [if_pos h]; exact (kp_is h).trans ((kp_want _ _).trans ((kp_par n 0 _).trans ((kp_want _ _).trans ((kp_par n 0 _).trans (kp_want _ _)))))
   rw [if_neg h]
   by_cases h:rIs wCase st=true
   ·rw [if_pos h]; exact (kp_is h).trans (kp_case (kp_par n 0) _)
   rw [if_neg h]
   exact kp_agg (kp_par n 0) st
end Go.Proofs.Tryz
