import Derived.Test.YthpmjipkofbeiaaGreatDoorRsn
import Derived.Test.YthpmjipkofbeiaaGreatDoorTLvl
set_option linter.all false
namespace Go.Proofs.Tryz
open Go.Ab
set_option maxRecDepth 100000
set_option maxHeartbeats 4000000
def rrB (s:List UInt8) (st:RS):Blk:=.var [.d (.str s),.d (.int .i64 (hdT st.1).kd),.d (.str (hdT st.1).tx),.d (.int .i64 (hdT st.1).n),.d (.int .i64 (hdT st.1).fr),.d (.int .i64 (hdT st.1).to),.d (.int .i64 st.2)]
@[simp] theorem rrB_eq (s:List UInt8) (st:RS):rrB s st=.var [.d (.str s),.d (.int .i64 (hdT st.1).kd),.d (.str (hdT st.1).tx),.d (.int .i64 (hdT st.1).n),.d (.int .i64 (hdT st.1).fr),.d (.int .i64 (hdT st.1).to),.d (.int .i64 st.2)]:=rfl
theorem tokF_to (s:List UInt8):∀ (k a:Nat) (t:Tk),a≤s.length→t∈tokF s k a→t.to≤s.length
 | 0,a,t,_,h=>by cases h
 | k+1,a,t,ha,h=>by
   rw [tokF] at h
   split at h
   ·rw [List.mem_singleton.1 h]; exact (scan_to ha).2.1
   ·rcases List.mem_cons.1 h with e | h
    ·rw [e]; exact (scan_to ha).2.1
    ·exact tokF_to s k _ t (scan_to ha).2.1 h
theorem next_tok {s:List UInt8} {l:List Tk} (ha:At (toks s) l) (he:(hdT l).ends=false):hdT l.tail=scanT s (hdT l).to∧(hdT l).to≤s.length∧At (toks s) l.tail:=by
 have hc:=chain_sfx2 (toks_chain s) ha.sfx ha.ne
 match l,hc,ha,he with
 | [t],hc,ha,he=>rw [Chain] at hc; have he':t.ends=false:=he; rw [hc] at he'; cases he'
 | t::u::r,hc,ha,he=>exact ⟨hc.2.1,tokF_to s _ 0 t (Nat.zero_le _) (ha.sfx.subset List.mem_cons_self),ha.to (tail_sfx _) (ha.ok.cons he)⟩
theorem isW_tx {s:List UInt8} {l:List Tk} (ha:At (toks s) l) (w:List UInt8):isW w l=(((hdT l).kd==1||(hdT l).kd==4)&&(hdT l).tx==w):=by
 have hok:=toks_ok s
 cases l with
 | nil=>exact absurd rfl ha.ne
 | cons t r =>
   have h:=(hok t (ha.sfx.subset List.mem_cons_self)).tx
   show ((t.kd==1||t.kd==4)&&t.rw==w)=((t.kd==1||t.kd==4)&&t.tx==w)
   by_cases h1:t.kd=1
   ·rw [h (.inl h1)]
   ·by_cases h4:t.kd=4
    ·rw [h (.inr h4)]
    ·have e1:(t.kd==1)=false:=by rw [beq_eq_false_iff_ne]; exact h1
     have e4:(t.kd==4)=false:=by rw [beq_eq_false_iff_ne]; exact h4
     rw [e1,e4]; rfl
theorem isW_kd {w:List UInt8} {l:List Tk} (h:isW w l=true):(hdT l).ends=false:=by
 cases l with
 | nil=>cases h
 | cons t r =>
   simp only [isW,Bool.and_eq_true,Bool.or_eq_true,beq_iff_eq] at h
   exact ends_kd (by simp only [hdT]; omega) (by simp only [hdT]; omega)
section
variable {s:List UInt8} (hs:s.length≤5000) {st:RS}
include hs
theorem r_fail (ha:At (toks s) st.1):Cf Es 28 [.ptr 1000000 0 0] [rrB s st] (.tup []) [rrB s (rFail st)]:=by
 have hp:posT st.1=(hdT st.1).fr:=by
  cases h:st.1 with
  | nil=>exact absurd h ha.ne
  | cons t r=>rfl
 refine cf_intro mixs (fn:=Tryz.f28) (by kernel_rfl) rfl (by kernel_rfl) (by decide) (by simp) ?_
 unfold rFail
 by_cases h:st.2<0
 ·rw [if_pos h]
  simp [h,hp]<;>(repeat' first|contradiction|exact .ok|apply And.intro|intro _|(refine gc (fun h=>?_) (fun h=>?_)<;>(have h':=h;(try simp at h');first|done|simp[h,h',h,hp]|simp[h,hp])))
 ·rw [if_neg h]
  have h':0≤st.2:=by omega
  simp [h,h']<;>(repeat' first|contradiction|exact .ok|apply And.intro|intro _|(refine gc (fun h=>?_) (fun h=>?_)<;>(have h':=h;(try simp at h');first|done|simp[h,h',h,h']|simp[h,h'])))
theorem r_next (ha:At (toks s) st.1) (he:(hdT st.1).ends=false):Cf Es 96 [.ptr 1000000 0 0] [rrB s st] (.tup []) [rrB s (rNext st)]:=by
 obtain ⟨h1,h2,_⟩:=next_tok ha he
 have hsc:=r_scan s hs _ h2
 rw [← h1] at hsc
 refine cf_intro mixs (fn:=Tryz.f96) (by kernel_rfl) rfl (by kernel_rfl) (by decide) (by simp) ?_
 unfold rNext
 by_cases h:st.2<0
 ·rw [if_pos h]
  simp [h]<;>(repeat' first|contradiction|exact .ok|apply And.intro|intro _|(refine gc (fun h=>?_) (fun h=>?_)<;>(have h':=h;(try simp at h');first|done|simp[h,h',h]|simp[h])))
  refine acallT_plain hsc (by simp) ?_
  simp [rtA,rtC]<;>(repeat' first|contradiction|exact .ok|apply And.intro|intro _|(refine gc (fun h=>?_) (fun h=>?_)<;>(have h':=h;(try simp at h');first|done|simp[h,h',rtA,rtC]|simp[rtA,rtC])))
 ·rw [if_neg h]
  have h':0≤st.2:=by omega
  simp [h,h']<;>(repeat' first|contradiction|exact .ok|apply And.intro|intro _|(refine gc (fun h=>?_) (fun h=>?_)<;>(have h':=h;(try simp at h');first|done|simp[h,h',h,h']|simp[h,h'])))
theorem r_is (ha:At (toks s) st.1) (w:List UInt8):Cf Es 95 [.ptr 1000000 0 0,.d (.str w)] [rrB s st] (.d (.bool (rIs w st))) [rrB s st]:=by
 have hw:=isW_tx ha w
 refine cf_intro mixs (fn:=Tryz.f95) (by kernel_rfl) rfl (by kernel_rfl) (by decide) (by simp) ?_
 unfold rIs
 rw [hw]
 rw [rrB_eq]
 generalize hdT st.1=t at *
 generalize st.2=b at *
 by_cases h:b<0
 ·by_cases k1:t.kd=1
  ·simp [h,k1]<;>(repeat' first|contradiction|exact .ok|apply And.intro|intro _|(refine gc (fun h=>?_) (fun h=>?_)<;>(have h':=h;(try simp at h');first|done|simp[h,h',h,k1]|simp[h,k1])))
  ·by_cases k4:t.kd=4
   ·simp [h,k1,k4]<;>(repeat' first|contradiction|exact .ok|apply And.intro|intro _|(refine gc (fun h=>?_) (fun h=>?_)<;>(have h':=h;(try simp at h');first|done|simp[h,h',h,k1,k4]|simp[h,k1,k4])))
   ·simp [h,k1,k4]<;>(repeat' first|contradiction|exact .ok|apply And.intro|intro _|(refine gc (fun h=>?_) (fun h=>?_)<;>(have h':=h;(try simp at h');first|done|simp[h,h',h,k1,k4]|simp[h,k1,k4])))
 ·have h':0≤b:=by omega
  simp [h,h']<;>(repeat' first|contradiction|exact .ok|apply And.intro|intro _|(refine gc (fun h=>?_) (fun h=>?_)<;>(have h':=h;(try simp at h');first|done|simp[h,h',h,h']|simp[h,h'])))
theorem r_take (ha:At (toks s) st.1) (w:List UInt8):Cf Es 57 [.ptr 1000000 0 0,.d (.str w)] [rrB s st] (.d (.bool (rIs w st))) [rrB s (if rIs w st=true then rNext st else st)]:=by
 have h1:=r_is hs ha w
 refine cf_intro mixs (fn:=Tryz.f57) (by kernel_rfl) rfl (by kernel_rfl) (by decide) (by simp) ?_
 cases hb:rIs w st with
 | true =>
   rw [hb] at h1
   have hw:isW w st.1=true:=by
    unfold rIs at hb
    exact (Bool.and_eq_true_iff.1 hb).2
   have h2:=r_next hs ha (isW_kd hw)
   simp only [if_true]
   simp<;>(repeat' first|contradiction|exact .ok|apply And.intro|intro _|(refine gc (fun h=>?_) (fun h=>?_)<;>(have h':=h;(try simp at h');first|done|simp[h,h']|simp)))
   refine acallT_hand [1000000] h1 (by simp) (by simp) (by simp) (by simp) (by simp) ?_
   simp<;>(repeat' first|contradiction|exact .ok|apply And.intro|intro _|(refine gc (fun h=>?_) (fun h=>?_)<;>(have h':=h;(try simp at h');first|done|simp[h,h']|simp)))
   refine acallT_hand [1000000] h2 (by simp) (by simp) (by simp) (by simp) (by simp) ?_
   simp<;>(repeat' first|contradiction|exact .ok|apply And.intro|intro _|(refine gc (fun h=>?_) (fun h=>?_)<;>(have h':=h;(try simp at h');first|done|simp[h,h']|simp)))
 | false =>
   rw [hb] at h1
   simp only [Bool.false_eq_true,if_false]
   simp<;>(repeat' first|contradiction|exact .ok|apply And.intro|intro _|(refine gc (fun h=>?_) (fun h=>?_)<;>(have h':=h;(try simp at h');first|done|simp[h,h']|simp)))
   refine acallT_hand [1000000] h1 (by simp) (by simp) (by simp) (by simp) (by simp) ?_
   simp<;>(repeat' first|contradiction|exact .ok|apply And.intro|intro _|(refine gc (fun h=>?_) (fun h=>?_)<;>(have h':=h;(try simp at h');first|done|simp[h,h']|simp)))
theorem r_want (ha:At (toks s) st.1) (w:List UInt8):Cf Es 111 [.ptr 1000000 0 0,.d (.str w)] [rrB s st] (.tup []) [rrB s (rWant w st)]:=by
 have h1:=r_take hs ha w
 have h2:=r_fail hs ha
 refine cf_intro mixs (fn:=Tryz.f111) (by kernel_rfl) rfl (by kernel_rfl) (by decide) (by simp) ?_
 unfold rWant
 cases hb:rIs w st with
 | true =>
   rw [hb] at h1
   simp only [if_true] at h1 ⊢
   simp<;>(repeat' first|contradiction|exact .ok|apply And.intro|intro _|(refine gc (fun h=>?_) (fun h=>?_)<;>(have h':=h;(try simp at h');first|done|simp[h,h']|simp)))
   refine acallT_hand [1000000] h1 (by simp) (by simp) (by simp) (by simp) (by simp) ?_
   simp<;>(repeat' first|contradiction|exact .ok|apply And.intro|intro _|(refine gc (fun h=>?_) (fun h=>?_)<;>(have h':=h;(try simp at h');first|done|simp[h,h']|simp)))
 | false =>
   rw [hb] at h1
   simp only [Bool.false_eq_true,if_false] at h1 ⊢
   simp<;>(repeat' first|contradiction|exact .ok|apply And.intro|intro _|(refine gc (fun h=>?_) (fun h=>?_)<;>(have h':=h;(try simp at h');first|done|simp[h,h']|simp)))
   refine acallT_hand [1000000] h1 (by simp) (by simp) (by simp) (by simp) (by simp) ?_
   simp<;>(repeat' first|contradiction|exact .ok|apply And.intro|intro _|(refine gc (fun h=>?_) (fun h=>?_)<;>(have h':=h;(try simp at h');first|done|simp[h,h']|simp)))
   refine acallT_hand [1000000] h2 (by simp) (by simp) (by simp) (by simp) (by simp) ?_
   simp<;>(repeat' first|contradiction|exact .ok|apply And.intro|intro _|(refine gc (fun h=>?_) (fun h=>?_)<;>(have h':=h;(try simp at h');first|done|simp[h,h']|simp)))
theorem r_named (ha:At (toks s) st.1):Cf Es 182 [.ptr 1000000 0 0] [rrB s st] (.d (.bool (rNamed st))) [rrB s st]:=by
 have hn:=r_name (hdT st.1).tx
 rw [← rsv_words] at hn
 refine cf_intro mixs (fn:=Tryz.f182) (by kernel_rfl) rfl (by kernel_rfl) (by decide) (by simp) ?_
 unfold rNamed
 rw [rrB_eq]
 generalize hdT st.1=t at *
 generalize st.2=b at *
 by_cases h:b<0
 ·by_cases k1:t.kd=1
  ·simp [h,k1]<;>(repeat' first|contradiction|exact .ok|apply And.intro|intro _|(refine gc (fun h=>?_) (fun h=>?_)<;>(have h':=h;(try simp at h');first|done|simp[h,h',h,k1]|simp[h,k1])))
   refine acallT_plain hn (by simp) ?_
   simp [h,k1]<;>(repeat' first|contradiction|exact .ok|apply And.intro|intro _|(refine gc (fun h=>?_) (fun h=>?_)<;>(have h':=h;(try simp at h');first|done|simp[h,h',h,k1]|simp[h,k1])))
  ·simp [h,k1]<;>(repeat' first|contradiction|exact .ok|apply And.intro|intro _|(refine gc (fun h=>?_) (fun h=>?_)<;>(have h':=h;(try simp at h');first|done|simp[h,h',h,k1]|simp[h,k1])))
 ·have h':0≤b:=by omega
  simp [h,h']<;>(repeat' first|contradiction|exact .ok|apply And.intro|intro _|(refine gc (fun h=>?_) (fun h=>?_)<;>(have h':=h;(try simp at h');first|done|simp[h,h',h,h']|simp[h,h'])))
theorem r_nameR (ha:At (toks s) st.1):Cf Es 156 [.ptr 1000000 0 0] [rrB s st] (.d (.str (rName st).1)) [rrB s (rName st).2]:=by
 have h1:=r_named hs ha
 have h2:=r_fail hs ha
 refine cf_intro mixs (fn:=Tryz.f156) (by kernel_rfl) rfl (by kernel_rfl) (by decide) (by simp) ?_
 unfold rName
 cases hb:rNamed st with
 | true =>
   rw [hb] at h1
   have hk:(hdT st.1).kd=1:=by
    unfold rNamed at hb
    simp only [Bool.and_eq_true,beq_iff_eq] at hb
    exact hb.2.1
   have h3:=r_next hs ha (ends_kd (by omega) (by omega))
   simp only [if_true]
   simp<;>(repeat' first|contradiction|exact .ok|apply And.intro|intro _|(refine gc (fun h=>?_) (fun h=>?_)<;>(have h':=h;(try simp at h');first|done|simp[h,h']|simp)))
   refine acallT_hand [1000000] h1 (by simp) (by simp) (by simp) (by simp) (by simp) ?_
   simp<;>(repeat' first|contradiction|exact .ok|apply And.intro|intro _|(refine gc (fun h=>?_) (fun h=>?_)<;>(have h':=h;(try simp at h');first|done|simp[h,h']|simp)))
   refine acallT_hand [1000000] h3 (by simp) (by simp) (by simp) (by simp) (by simp) ?_
   simp<;>(repeat' first|contradiction|exact .ok|apply And.intro|intro _|(refine gc (fun h=>?_) (fun h=>?_)<;>(have h':=h;(try simp at h');first|done|simp[h,h']|simp)))
 | false =>
   rw [hb] at h1
   simp only [Bool.false_eq_true,if_false]
   simp<;>(repeat' first|contradiction|exact .ok|apply And.intro|intro _|(refine gc (fun h=>?_) (fun h=>?_)<;>(have h':=h;(try simp at h');first|done|simp[h,h']|simp)))
   refine acallT_hand [1000000] h1 (by simp) (by simp) (by simp) (by simp) (by simp) ?_
   simp<;>(repeat' first|contradiction|exact .ok|apply And.intro|intro _|(refine gc (fun h=>?_) (fun h=>?_)<;>(have h':=h;(try simp at h');first|done|simp[h,h']|simp)))
   refine acallT_hand [1000000] h2 (by simp) (by simp) (by simp) (by simp) (by simp) ?_
   simp<;>(repeat' first|contradiction|exact .ok|apply And.intro|intro _|(refine gc (fun h=>?_) (fun h=>?_)<;>(have h':=h;(try simp at h');first|done|simp[h,h']|simp)))
end
end Go.Proofs.Tryz
