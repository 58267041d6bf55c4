import Derived.Test.YthpmjipkofbeiaaGreatDoorTFlq
import Derived.Test.YthpmjipkofbeiaaGreatDoorTSqyRow
import Derived.Test.YthpmjipkofbeiaaGreatDoorRsn
import Derived.Test.YthpmjipkofbeiaaGreatDoorTLvl
set_option linter.all false
namespace Go.Proofs.Tryz
open Go.Ab
set_option maxRecDepth 100000
set_option maxHeartbeats 4000000
theorem okS_rest (o y n:Int) (t q:List UInt8):okS o y n t q =
  ((if o=1 then decide (1≤y)&&decide (y≤3) else if o=2 then (V.mk 1 n []).valid else if o=3 then n==0||n==1 else if o=4 then (V.mk 3 0 t).valid else if o=40 then nameOk words t&&(q==[]||nameOk words q) else if o=41 then decide (1≤n)&&decide (n≤6) else true)
    && (Tm.mk 0 (if o=1 then 0 else y) (if o=2∨o=3∨o=41 then 0 else n) (if o=4∨o=40 then [] else t) (if o=40 then [] else q) []).eq (.mk 0 0 0 [] [] [])):=by
 unfold okS
 rw [Tm.eq,tmsEq]
 by_cases h1:o=1
 ·subst h1; simp
 by_cases h2:o=2
 ·subst h2; simp
 by_cases h3:o=3
 ·subst h3; simp
 by_cases h4:o=4
 ·subst h4; simp
 by_cases h40:o=40
 ·subst h40; simp
 by_cases h41:o=41
 ·subst h41; simp
 simp [h1,h2,h3,h4,h40,h41]
theorem fits0v (o y n:Int) (t q:List UInt8):(Tm.mk o y n t q []).fits:=by rw [Tm.fits,tmsFits]; simp
theorem s_formed:∀ (m:Nat) (x:Tm),SizeOf.sizeOf x<m→x.fits→Cf Es 47 [x.a] [] (.d (.bool x.right)) []
 | 0,_,h,_=>absurd h (by omega)
 | m+1,.mk o y n t q ks,hm,hfit=>by
   refine cf_intro mixs (fn:=Tryz.f47) (by kernel_rfl) rfl (by kernel_rfl) (by decide) (by simp) ?_
   rw [Tm.fits] at hfit
   have hall:=all_T 47 Tm.right ks hfit.1 fun x hx=>s_formed m x (by
    have:=Tm.kid_lt (e:=.mk o y n t q ks) (k:=x) hx
    omega) (tmsFits_get ks hfit.2 x hx)
   have hcn:=s_counted o y n t q ks
   have hv1:=ups (v_valid ⟨1,n,[]⟩)
   have hv3:=ups (v_valid ⟨3,0,t⟩)
   have hn1:=s_name t
   have hn2:=s_name q
   have hsame:=fun (y n:Int) (t q:List UInt8)=>ups (s_sameTerm _ (.mk 0 y n t q []) (.mk 0 0 0 [] [] []) (Nat.lt_succ_self _) (fits0v 0 y n t q))
   rw [Tm.right,okK_eq,tmsRight_all,okS_rest]
   generalize hC:cntOk o n ks.length=C at *
   generalize hK:ks.all Tm.right=K at *
   simp [Tm.a,Tm.c,tmsC_map]
   refine ⟨.of (by kernel_rfl),?_⟩
   refine acallT_plain hcn (by simp [Tm.a,Tm.c,tmsC_map]) ?_
   simp
   refine agrd_cases (fun h=>?_) (fun h=>?_)
   ·obtain rfl:C=true:=by simpa using h
    simp
    refine acallT_plain hall (by simp) ?_
    cases K with
    | false =>
      simp
      all_goals exact gz
    | true =>
      clear hall hcn hC hK hm hfit
      simp [Tm.c,tmsC_map]
      refine ⟨.of (by kernel_rfl),.of (by kernel_rfl),.of (by kernel_rfl),.of (by kernel_rfl),?_⟩
      by_cases h1:o=1
      ·subst h1
       simp [Tm.c,tmsC_map]
       (repeat' (first|contradiction|exact .ok|apply And.intro|intro _|(refine gc (fun h=>?_) (fun h=>?_)<;>(have h':=h;(try simp at h');first|done|simp[h,h',Tm.c,tmsC_map]|simp[Tm.c,tmsC_map]))))
       all_goals first | done | (refine acallT_plain (hsame 0 n t q) (by simp [Tm.a,Tm.c,tmsC_map]) ?_; simp; (repeat' (first | contradiction | exact .of (by kernel_rfl) | refine And.intro ?_ ?_ | intro _ | (refine agrd_cases (fun h=>?_) (fun h=>?_) <;> (have h':=h; (try simp at h'); first | done | simp [h,h'] | simp))))) | skip
       all_goals first | done | (simp_all; done) | (simp_all; omega)
      by_cases h2:o=2
      ·subst h2
       simp [Tm.c,tmsC_map]
       (repeat' (first|contradiction|exact .ok|apply And.intro|intro _|(refine gc (fun h=>?_) (fun h=>?_)<;>(have h':=h;(try simp at h');first|done|simp[h,h',Tm.c,tmsC_map]|simp[Tm.c,tmsC_map]))))
       all_goals first | (refine acallT_plain hv1 (by simp [V.a]) ?_; simp [Tm.c,tmsC_map]; (repeat' (first | contradiction | exact .of (by kernel_rfl) | refine And.intro ?_ ?_ | intro _ | (refine agrd_cases (fun h=>?_) (fun h=>?_) <;> (have h':=h; (try simp at h'); first | done | simp [h,h',Tm.c,tmsC_map] | simp [Tm.c,tmsC_map]))))) | skip
       all_goals first | done | (refine acallT_plain (hsame y 0 t q) (by simp [Tm.a,Tm.c,tmsC_map]) ?_; simp; (repeat' (first | contradiction | exact .of (by kernel_rfl) | refine And.intro ?_ ?_ | intro _ | (refine agrd_cases (fun h=>?_) (fun h=>?_) <;> (have h':=h; (try simp at h'); first | done | simp [h,h'] | simp))))) | skip
       all_goals first | done | (simp_all; done) | (simp_all; omega)
      by_cases h3:o=3
      ·subst h3
       simp [Tm.c,tmsC_map]
       (repeat' (first|contradiction|exact .ok|apply And.intro|intro _|(refine gc (fun h=>?_) (fun h=>?_)<;>(have h':=h;(try simp at h');first|done|simp[h,h',Tm.c,tmsC_map]|simp[Tm.c,tmsC_map]))))
       all_goals first | done | (refine acallT_plain (hsame y 0 t q) (by simp [Tm.a,Tm.c,tmsC_map]) ?_; simp; (repeat' (first | contradiction | exact .of (by kernel_rfl) | refine And.intro ?_ ?_ | intro _ | (refine agrd_cases (fun h=>?_) (fun h=>?_) <;> (have h':=h; (try simp at h'); first | done | simp [h,h'] | simp))))) | skip
       all_goals first | done | (simp_all; done) | (simp_all; omega)
      by_cases h4:o=4
      ·subst h4
       simp [Tm.c,tmsC_map]
       (repeat' (first|contradiction|exact .ok|apply And.intro|intro _|(refine gc (fun h=>?_) (fun h=>?_)<;>(have h':=h;(try simp at h');first|done|simp[h,h',Tm.c,tmsC_map]|simp[Tm.c,tmsC_map]))))
       all_goals first | (refine acallT_plain hv3 (by simp [V.a]) ?_; simp [Tm.c,tmsC_map]; (repeat' (first | contradiction | exact .of (by kernel_rfl) | refine And.intro ?_ ?_ | intro _ | (refine agrd_cases (fun h=>?_) (fun h=>?_) <;> (have h':=h; (try simp at h'); first | done | simp [h,h',Tm.c,tmsC_map] | simp [Tm.c,tmsC_map]))))) | skip
       all_goals first | done | (refine acallT_plain (hsame y n [] q) (by simp [Tm.a,Tm.c,tmsC_map]) ?_; simp; (repeat' (first | contradiction | exact .of (by kernel_rfl) | refine And.intro ?_ ?_ | intro _ | (refine agrd_cases (fun h=>?_) (fun h=>?_) <;> (have h':=h; (try simp at h'); first | done | simp [h,h'] | simp))))) | skip
       all_goals first | done | (simp_all; done) | (simp_all; omega)
      by_cases h40:o=40
      ·subst h40
       simp [Tm.c,tmsC_map]
       (repeat' (first|contradiction|exact .ok|apply And.intro|intro _|(refine gc (fun h=>?_) (fun h=>?_)<;>(have h':=h;(try simp at h');first|done|simp[h,h',Tm.c,tmsC_map]|simp[Tm.c,tmsC_map]))))
       all_goals first | (refine acallT_plain hn1 (by simp [V.a]) ?_; simp [Tm.c,tmsC_map]; (repeat' (first | contradiction | exact .of (by kernel_rfl) | refine And.intro ?_ ?_ | intro _ | (refine agrd_cases (fun h=>?_) (fun h=>?_) <;> (have h':=h; (try simp at h'); first | done | simp [h,h',Tm.c,tmsC_map] | simp [Tm.c,tmsC_map]))))) | skip
       all_goals first | (refine acallT_plain hn2 (by simp [V.a]) ?_; simp [Tm.c,tmsC_map]; (repeat' (first | contradiction | exact .of (by kernel_rfl) | refine And.intro ?_ ?_ | intro _ | (refine agrd_cases (fun h=>?_) (fun h=>?_) <;> (have h':=h; (try simp at h'); first | done | simp [h,h',Tm.c,tmsC_map] | simp [Tm.c,tmsC_map]))))) | skip
       all_goals first | done | (refine acallT_plain (hsame y n [] []) (by simp [Tm.a,Tm.c,tmsC_map]) ?_; simp; (repeat' (first | contradiction | exact .of (by kernel_rfl) | refine And.intro ?_ ?_ | intro _ | (refine agrd_cases (fun h=>?_) (fun h=>?_) <;> (have h':=h; (try simp at h'); first | done | simp [h,h'] | simp))))) | skip
       all_goals first | done | (simp_all; done) | (simp_all; omega)
      by_cases h41:o=41
      ·subst h41
       simp [Tm.c,tmsC_map]
       (repeat' (first|contradiction|exact .ok|apply And.intro|intro _|(refine gc (fun h=>?_) (fun h=>?_)<;>(have h':=h;(try simp at h');first|done|simp[h,h',Tm.c,tmsC_map]|simp[Tm.c,tmsC_map]))))
       all_goals first | done | (refine acallT_plain (hsame y 0 t q) (by simp [Tm.a,Tm.c,tmsC_map]) ?_; simp; (repeat' (first | contradiction | exact .of (by kernel_rfl) | refine And.intro ?_ ?_ | intro _ | (refine agrd_cases (fun h=>?_) (fun h=>?_) <;> (have h':=h; (try simp at h'); first | done | simp [h,h'] | simp))))) | skip
       all_goals first | done | (simp_all; done) | (simp_all; omega)
      simp [h1,h2,h3,h4,h40,h41,Tm.c,tmsC_map]
      (repeat' (first|contradiction|exact .ok|apply And.intro|intro _|(refine gc (fun h=>?_) (fun h=>?_)<;>(have h':=h;(try simp at h');first|done|simp[h,h',h1,h2,h3,h4,h40,h41,Tm.c,tmsC_map]|simp[h1,h2,h3,h4,h40,h41,Tm.c,tmsC_map]))))
      all_goals first | done | (refine acallT_plain (hsame y n t q) (by simp [Tm.a,Tm.c,tmsC_map]) ?_; simp; (repeat' (first | contradiction | exact .of (by kernel_rfl) | refine And.intro ?_ ?_ | intro _ | (refine agrd_cases (fun h=>?_) (fun h=>?_) <;> (have h':=h; (try simp at h'); first | done | simp [h,h'] | simp))))) | skip
      all_goals first | done | (simp_all; done) | (simp_all; omega)
   ·obtain rfl:C=false:=by simpa using h
    simp
    all_goals exact gz
def rrB (s:List UInt8) (st:RS):Blk:=.var [.d (.str s),.d (.int .i64 (hdT st.1).kd),.d (.str (hdT st.1).tx),.d (.int .i64 (hdT st.1).n),.d (.int .i64 (hdT st.1).fr),.d (.int .i64 (hdT st.1).to),.d (.int .i64 st.2)]
@[simp] theorem rrB_eq (s:List UInt8) (st:RS):rrB s st=.var [.d (.str s),.d (.int .i64 (hdT st.1).kd),.d (.str (hdT st.1).tx),.d (.int .i64 (hdT st.1).n),.d (.int .i64 (hdT st.1).fr),.d (.int .i64 (hdT st.1).to),.d (.int .i64 st.2)]:=rfl
theorem tokF_to (s:List UInt8):∀ (k a:Nat) (t:Tk),a≤s.length→t∈tokF s k a→t.to≤s.length
 | 0,a,t,_,h=>by cases h
 | k+1,a,t,ha,h=>by
   rw [tokF] at h
   split at h
   ·rw [List.mem_singleton.1 h]; exact (scan_to ha).2.1
   ·rcases List.mem_cons.1 h with e | h
    ·rw [e]; exact (scan_to ha).2.1
    ·exact tokF_to s k _ t (scan_to ha).2.1 h
theorem next_tok {s:List UInt8} {l:List Tk} (ha:At (toks s) l) (he:(hdT l).ends=false):hdT l.tail=scanT s (hdT l).to∧(hdT l).to≤s.length∧At (toks s) l.tail:=by
 have hc:=chain_sfx2 (toks_chain s) ha.sfx ha.ne
 match l,hc,ha,he with
 | [t],hc,ha,he=>rw [Chain] at hc; have he':t.ends=false:=he; rw [hc] at he'; cases he'
 | t::u::r,hc,ha,he=>exact ⟨hc.2.1,tokF_to s _ 0 t (Nat.zero_le _) (ha.sfx.subset List.mem_cons_self),ha.to (tail_sfx _) (ha.ok.cons he)⟩
theorem isW_tx {s:List UInt8} {l:List Tk} (ha:At (toks s) l) (w:List UInt8):isW w l=(((hdT l).kd==1||(hdT l).kd==4)&&(hdT l).tx==w):=by
 have hok:=toks_ok s
 cases l with
 | nil=>exact absurd rfl ha.ne
 | cons t r =>
   have h:=(hok t (ha.sfx.subset List.mem_cons_self)).tx
   show ((t.kd==1||t.kd==4)&&t.rw==w)=((t.kd==1||t.kd==4)&&t.tx==w)
   by_cases h1:t.kd=1
   ·rw [h (.inl h1)]
   ·by_cases h4:t.kd=4
    ·rw [h (.inr h4)]
    ·have e1:(t.kd==1)=false:=by rw [beq_eq_false_iff_ne]; exact h1
     have e4:(t.kd==4)=false:=by rw [beq_eq_false_iff_ne]; exact h4
     rw [e1,e4]; rfl
theorem isW_kd {w:List UInt8} {l:List Tk} (h:isW w l=true):(hdT l).ends=false:=by
 cases l with
 | nil=>cases h
 | cons t r =>
   simp only [isW,Bool.and_eq_true,Bool.or_eq_true,beq_iff_eq] at h
   exact ends_kd (by simp only [hdT]; omega) (by simp only [hdT]; omega)
section
variable {s:List UInt8} (hs:s.length≤5000) {st:RS}
include hs
theorem r_fail (ha:At (toks s) st.1):Cf Es 28 [.ptr 1000000 0 0] [rrB s st] (.tup []) [rrB s (rFail st)]:=by
 have hp:posT st.1=(hdT st.1).fr:=by
  cases h:st.1 with
  | nil=>exact absurd h ha.ne
  | cons t r=>rfl
 refine cf_intro mixs (fn:=Tryz.f28) (by kernel_rfl) rfl (by kernel_rfl) (by decide) (by simp) ?_
 unfold rFail
 by_cases h:st.2<0
 ·rw [if_pos h]
  simp [h,hp]<;>(repeat' first|contradiction|exact .ok|apply And.intro|intro _|(refine gc (fun h=>?_) (fun h=>?_)<;>(have h':=h;(try simp at h');first|done|simp[h,h',h,hp]|simp[h,hp])))
 ·rw [if_neg h]
  have h':0≤st.2:=by omega
  simp [h,h']<;>(repeat' first|contradiction|exact .ok|apply And.intro|intro _|(refine gc (fun h=>?_) (fun h=>?_)<;>(have h':=h;(try simp at h');first|done|simp[h,h',h,h']|simp[h,h'])))
theorem r_next (ha:At (toks s) st.1) (he:(hdT st.1).ends=false):Cf Es 96 [.ptr 1000000 0 0] [rrB s st] (.tup []) [rrB s (rNext st)]:=by
 obtain ⟨h1,h2,_⟩:=next_tok ha he
 have hsc:=r_scan s hs _ h2
 rw [← h1] at hsc
 refine cf_intro mixs (fn:=Tryz.f96) (by kernel_rfl) rfl (by kernel_rfl) (by decide) (by simp) ?_
 unfold rNext
 by_cases h:st.2<0
 ·rw [if_pos h]
  simp [h]<;>(repeat' first|contradiction|exact .ok|apply And.intro|intro _|(refine gc (fun h=>?_) (fun h=>?_)<;>(have h':=h;(try simp at h');first|done|simp[h,h',h]|simp[h])))
  refine acallT_plain hsc (by simp) ?_
  simp [rtA,rtC]<;>(repeat' first|contradiction|exact .ok|apply And.intro|intro _|(refine gc (fun h=>?_) (fun h=>?_)<;>(have h':=h;(try simp at h');first|done|simp[h,h',rtA,rtC]|simp[rtA,rtC])))
 ·rw [if_neg h]
  have h':0≤st.2:=by omega
  simp [h,h']<;>(repeat' first|contradiction|exact .ok|apply And.intro|intro _|(refine gc (fun h=>?_) (fun h=>?_)<;>(have h':=h;(try simp at h');first|done|simp[h,h',h,h']|simp[h,h'])))
theorem r_is (ha:At (toks s) st.1) (w:List UInt8):Cf Es 95 [.ptr 1000000 0 0,.d (.str w)] [rrB s st] (.d (.bool (rIs w st))) [rrB s st]:=by
 have hw:=isW_tx ha w
 refine cf_intro mixs (fn:=Tryz.f95) (by kernel_rfl) rfl (by kernel_rfl) (by decide) (by simp) ?_
 unfold rIs
 rw [hw]
 rw [rrB_eq]
 generalize hdT st.1=t at *
 generalize st.2=b at *
 by_cases h:b<0
 ·by_cases k1:t.kd=1
  ·simp [h,k1]<;>(repeat' first|contradiction|exact .ok|apply And.intro|intro _|(refine gc (fun h=>?_) (fun h=>?_)<;>(have h':=h;(try simp at h');first|done|simp[h,h',h,k1]|simp[h,k1])))
  ·by_cases k4:t.kd=4
   ·simp [h,k1,k4]<;>(repeat' first|contradiction|exact .ok|apply And.intro|intro _|(refine gc (fun h=>?_) (fun h=>?_)<;>(have h':=h;(try simp at h');first|done|simp[h,h',h,k1,k4]|simp[h,k1,k4])))
   ·simp [h,k1,k4]<;>(repeat' first|contradiction|exact .ok|apply And.intro|intro _|(refine gc (fun h=>?_) (fun h=>?_)<;>(have h':=h;(try simp at h');first|done|simp[h,h',h,k1,k4]|simp[h,k1,k4])))
 ·have h':0≤b:=by omega
  simp [h,h']<;>(repeat' first|contradiction|exact .ok|apply And.intro|intro _|(refine gc (fun h=>?_) (fun h=>?_)<;>(have h':=h;(try simp at h');first|done|simp[h,h',h,h']|simp[h,h'])))
theorem r_take (ha:At (toks s) st.1) (w:List UInt8):Cf Es 57 [.ptr 1000000 0 0,.d (.str w)] [rrB s st] (.d (.bool (rIs w st))) [rrB s (if rIs w st=true then rNext st else st)]:=by
 have h1:=r_is hs ha w
 refine cf_intro mixs (fn:=Tryz.f57) (by kernel_rfl) rfl (by kernel_rfl) (by decide) (by simp) ?_
 cases hb:rIs w st with
 | true =>
   rw [hb] at h1
   have hw:isW w st.1=true:=by
    unfold rIs at hb
    exact (Bool.and_eq_true_iff.1 hb).2
   have h2:=r_next hs ha (isW_kd hw)
   simp only [if_true]
   simp<;>(repeat' first|contradiction|exact .ok|apply And.intro|intro _|(refine gc (fun h=>?_) (fun h=>?_)<;>(have h':=h;(try simp at h');first|done|simp[h,h']|simp)))
   refine acallT_hand [1000000] h1 (by simp) (by simp) (by simp) (by simp) (by simp) ?_
   simp<;>(repeat' first|contradiction|exact .ok|apply And.intro|intro _|(refine gc (fun h=>?_) (fun h=>?_)<;>(have h':=h;(try simp at h');first|done|simp[h,h']|simp)))
   refine acallT_hand [1000000] h2 (by simp) (by simp) (by simp) (by simp) (by simp) ?_
   simp<;>(repeat' first|contradiction|exact .ok|apply And.intro|intro _|(refine gc (fun h=>?_) (fun h=>?_)<;>(have h':=h;(try simp at h');first|done|simp[h,h']|simp)))
 | false =>
   rw [hb] at h1
   simp only [Bool.false_eq_true,if_false]
   simp<;>(repeat' first|contradiction|exact .ok|apply And.intro|intro _|(refine gc (fun h=>?_) (fun h=>?_)<;>(have h':=h;(try simp at h');first|done|simp[h,h']|simp)))
   refine acallT_hand [1000000] h1 (by simp) (by simp) (by simp) (by simp) (by simp) ?_
   simp<;>(repeat' first|contradiction|exact .ok|apply And.intro|intro _|(refine gc (fun h=>?_) (fun h=>?_)<;>(have h':=h;(try simp at h');first|done|simp[h,h']|simp)))
theorem r_want (ha:At (toks s) st.1) (w:List UInt8):Cf Es 111 [.ptr 1000000 0 0,.d (.str w)] [rrB s st] (.tup []) [rrB s (rWant w st)]:=by
 have h1:=r_take hs ha w
 have h2:=r_fail hs ha
 refine cf_intro mixs (fn:=Tryz.f111) (by kernel_rfl) rfl (by kernel_rfl) (by decide) (by simp) ?_
 unfold rWant
 cases hb:rIs w st with
 | true =>
   rw [hb] at h1
   simp only [if_true] at h1 ⊢
   simp<;>(repeat' first|contradiction|exact .ok|apply And.intro|intro _|(refine gc (fun h=>?_) (fun h=>?_)<;>(have h':=h;(try simp at h');first|done|simp[h,h']|simp)))
   refine acallT_hand [1000000] h1 (by simp) (by simp) (by simp) (by simp) (by simp) ?_
   simp<;>(repeat' first|contradiction|exact .ok|apply And.intro|intro _|(refine gc (fun h=>?_) (fun h=>?_)<;>(have h':=h;(try simp at h');first|done|simp[h,h']|simp)))
 | false =>
   rw [hb] at h1
   simp only [Bool.false_eq_true,if_false] at h1 ⊢
   simp<;>(repeat' first|contradiction|exact .ok|apply And.intro|intro _|(refine gc (fun h=>?_) (fun h=>?_)<;>(have h':=h;(try simp at h');first|done|simp[h,h']|simp)))
   refine acallT_hand [1000000] h1 (by simp) (by simp) (by simp) (by simp) (by simp) ?_
   simp<;>(repeat' first|contradiction|exact .ok|apply And.intro|intro _|(refine gc (fun h=>?_) (fun h=>?_)<;>(have h':=h;(try simp at h');first|done|simp[h,h']|simp)))
   refine acallT_hand [1000000] h2 (by simp) (by simp) (by simp) (by simp) (by simp) ?_
   simp<;>(repeat' first|contradiction|exact .ok|apply And.intro|intro _|(refine gc (fun h=>?_) (fun h=>?_)<;>(have h':=h;(try simp at h');first|done|simp[h,h']|simp)))
theorem r_named (ha:At (toks s) st.1):Cf Es 182 [.ptr 1000000 0 0] [rrB s st] (.d (.bool (rNamed st))) [rrB s st]:=by
 have hn:=r_name (hdT st.1).tx
 rw [← rsv_words] at hn
 refine cf_intro mixs (fn:=Tryz.f182) (by kernel_rfl) rfl (by kernel_rfl) (by decide) (by simp) ?_
 unfold rNamed
 rw [rrB_eq]
 generalize hdT st.1=t at *
 generalize st.2=b at *
 by_cases h:b<0
 ·by_cases k1:t.kd=1
  ·simp [h,k1]<;>(repeat' first|contradiction|exact .ok|apply And.intro|intro _|(refine gc (fun h=>?_) (fun h=>?_)<;>(have h':=h;(try simp at h');first|done|simp[h,h',h,k1]|simp[h,k1])))
   refine acallT_plain hn (by simp) ?_
   simp [h,k1]<;>(repeat' first|contradiction|exact .ok|apply And.intro|intro _|(refine gc (fun h=>?_) (fun h=>?_)<;>(have h':=h;(try simp at h');first|done|simp[h,h',h,k1]|simp[h,k1])))
  ·simp [h,k1]<;>(repeat' first|contradiction|exact .ok|apply And.intro|intro _|(refine gc (fun h=>?_) (fun h=>?_)<;>(have h':=h;(try simp at h');first|done|simp[h,h',h,k1]|simp[h,k1])))
 ·have h':0≤b:=by omega
  simp [h,h']<;>(repeat' first|contradiction|exact .ok|apply And.intro|intro _|(refine gc (fun h=>?_) (fun h=>?_)<;>(have h':=h;(try simp at h');first|done|simp[h,h',h,h']|simp[h,h'])))
theorem r_nameR (ha:At (toks s) st.1):Cf Es 156 [.ptr 1000000 0 0] [rrB s st] (.d (.str (rName st).1)) [rrB s (rName st).2]:=by
 have h1:=r_named hs ha
 have h2:=r_fail hs ha
 refine cf_intro mixs (fn:=Tryz.f156) (by kernel_rfl) rfl (by kernel_rfl) (by decide) (by simp) ?_
 unfold rName
 cases hb:rNamed st with
 | true =>
   rw [hb] at h1
   have hk:(hdT st.1).kd=1:=by
    unfold rNamed at hb
    simp only [Bool.and_eq_true,beq_iff_eq] at hb
    exact hb.2.1
   have h3:=r_next hs ha (ends_kd (by omega) (by omega))
   simp only [if_true]
   simp<;>(repeat' first|contradiction|exact .ok|apply And.intro|intro _|(refine gc (fun h=>?_) (fun h=>?_)<;>(have h':=h;(try simp at h');first|done|simp[h,h']|simp)))
   refine acallT_hand [1000000] h1 (by simp) (by simp) (by simp) (by simp) (by simp) ?_
   simp<;>(repeat' first|contradiction|exact .ok|apply And.intro|intro _|(refine gc (fun h=>?_) (fun h=>?_)<;>(have h':=h;(try simp at h');first|done|simp[h,h']|simp)))
   refine acallT_hand [1000000] h3 (by simp) (by simp) (by simp) (by simp) (by simp) ?_
   simp<;>(repeat' first|contradiction|exact .ok|apply And.intro|intro _|(refine gc (fun h=>?_) (fun h=>?_)<;>(have h':=h;(try simp at h');first|done|simp[h,h']|simp)))
 | false =>
   rw [hb] at h1
   simp only [Bool.false_eq_true,if_false]
   simp<;>(repeat' first|contradiction|exact .ok|apply And.intro|intro _|(refine gc (fun h=>?_) (fun h=>?_)<;>(have h':=h;(try simp at h');first|done|simp[h,h']|simp)))
   refine acallT_hand [1000000] h1 (by simp) (by simp) (by simp) (by simp) (by simp) ?_
   simp<;>(repeat' first|contradiction|exact .ok|apply And.intro|intro _|(refine gc (fun h=>?_) (fun h=>?_)<;>(have h':=h;(try simp at h');first|done|simp[h,h']|simp)))
   refine acallT_hand [1000000] h2 (by simp) (by simp) (by simp) (by simp) (by simp) ?_
   simp<;>(repeat' first|contradiction|exact .ok|apply And.intro|intro _|(refine gc (fun h=>?_) (fun h=>?_)<;>(have h':=h;(try simp at h');first|done|simp[h,h']|simp)))
end
end Go.Proofs.Tryz
