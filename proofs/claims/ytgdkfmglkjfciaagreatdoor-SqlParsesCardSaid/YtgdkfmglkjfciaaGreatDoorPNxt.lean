import Derived.Test.YtgdkfmglkjfciaaGreatDoorPFdx
import Derived.Test.YtgdkfmglkjfciaaGreatDoorPExc0
import Derived.Test.YtgdkfmglkjfciaaGreatDoorAbD
import Derived.Test.YtgdkfmglkjfciaaGreatDoorNamS
import Derived.Test.YtgdkfmglkjfciaaGreatDoorVpp
import Derived.Test.YtgdkfmglkjfciaaGreatDoorPShb
set_option linter.all false
namespace Go.Proofs.Tryz
open Go.Ab
set_option maxRecDepth 100000
set_option maxHeartbeats 4000000
theorem resP_inv {s:List UInt8} (h:(resP s).2=0):(resP s).1.valid=true∧vText (resP s).1=s:=by
 unfold resP at *
 cases hc:candP s with
 | none=>simp [hc] at h
 | some v =>
   rw [hc] at h
   simp only at h ⊢
   by_cases hg:goodB s v=true
   ·rw [if_pos hg]
    unfold goodB at hg
    simp only [Bool.and_eq_true,beq_iff_eq] at hg
    exact hg
   ·rw [if_neg hg] at h
    exact absurd (h:(2:Int)=0) (by decide)
theorem zero_text:vText (V.mk 1 0 [])=[48]:=by
 unfold vText
 rw [if_pos (by decide),if_pos rfl]
 show Lib.itoa ((0:Nat):Int)=[48]
 rw [Lib.itoa_nonneg]
 unfold Lib.decDigits
 decide
theorem num_zero {s:List UInt8} (h:(resP s).2=0) (hk:(resP s).1.k=1):(resP s).1.n=0↔s=[48]:=by
 obtain ⟨h1,h2⟩:=resP_inv h
 constructor
 ·intro h0
  generalize (resP s).1=v at *
  obtain ⟨k,n,t⟩:=v
  simp only at hk h0
  subst hk h0
  have ht:t=[]:=by
   unfold V.valid at h1
   simpa using h1
  subst ht
  rw [← h2,zero_text]
 ·rintro rfl
  have:=resP_text (v:=V.mk 1 0 []) (by decide)
  rw [zero_text] at this
  rw [this]
theorem scan_tk (s:List UInt8) (a:Nat):TkOk (scanT s a):=by
 unfold scanT
 generalize s.drop (skipB s a)=r
 generalize skipB s a=z
 suffices h:((lexR r).1=1∨(lexR r).1=4→(lexR r).2.2.1=r.take (lexR r).2.1)∧((lexR r).1=2→((lexR r).2.2.2=0↔r.take (lexR r).2.1=[48])) from { tx:=h.1,num:=h.2 }
 cases r with
 | nil=>exact ⟨fun h=>by simp [lexR] at h,fun h=>by simp [lexR] at h⟩
 | cons c q =>
   unfold lexR
   simp only
   by_cases h1:lowr c=true
   ·rw [if_pos h1]
    split
    ·exact ⟨fun _=>rfl,fun h=>by simp at h⟩
    ·exact ⟨fun h=>by simp at h,fun h=>by simp at h⟩
   rw [if_neg h1]
   by_cases h2:isDig c=true
   ·rw [if_pos h2]
    split
    ·rename_i hr
     exact ⟨fun h=>by simp at h,fun _=>num_zero hr.1 hr.2⟩
    ·exact ⟨fun h=>by simp at h,fun h=>by simp at h⟩
   rw [if_neg h2]
   by_cases h3:c=39
   ·rw [if_pos h3]
    cases q.findIdx? (·==39) with
    | none=>exact ⟨fun h=>by simp at h,fun h=>by simp at h⟩
    | some i =>
      simp only
      split
      ·exact ⟨fun h=>by simp at h,fun h=>by simp at h⟩
      ·exact ⟨fun h=>by simp at h,fun h=>by simp at h⟩
   rw [if_neg h3]
   split
   ·exact ⟨fun _=>rfl,fun h=>by simp at h⟩
   ·split
    ·exact ⟨fun _=>rfl,fun h=>by simp at h⟩
    ·exact ⟨fun h=>by simp at h,fun h=>by simp at h⟩
theorem tokF_mem (s:List UInt8):∀ (k a:Nat) (t:Tk),t∈tokF s k a→∃ b,t=scanT s b
 | 0,a,t,h=>by cases h
 | k+1,a,t,h=>by
   rw [tokF] at h
   split at h
   ·exact ⟨a,List.mem_singleton.1 h⟩
   ·rcases List.mem_cons.1 h with e | h
    ·exact ⟨a,e⟩
    ·exact tokF_mem s k _ t h
theorem toks_ok (s:List UInt8):okL (toks s):=fun t ht=>by
 obtain ⟨b,rfl⟩:=tokF_mem s _ _ t ht
 exact scan_tk s b
def fullR {α:Type} (rule:RS→α×RS) (s:List UInt8):Except Nat α :=
 let x:=rule (toks s,-1)
 let y:=if (hdT x.2.1).kd=5 then x.2 else rFail x.2
 if 0≤y.2 then .error y.2.toNat else .ok x.1
theorem full_eq {α:Type} {rp:List Tk→Res α} {rr:RS→α×RS} {s:List UInt8} (h:EqG (rp (toks s)) (rr (toks s,-1))):fullR rr s=full rp s:=by
 unfold fullR full
 cases hp:rp (toks s) with
 | error p =>
   rw [hp] at h
   have h':(rr (toks s,-1)).2.2=(p:Int):=h
   simp only
   have e:(if (hdT (rr (toks s,-1)).2.1).kd=5 then (rr (toks s,-1)).2 else rFail (rr (toks s,-1)).2).2=(p:Int):=by
    split
    ·exact h'
    ·rw [rFail_bad (by omega)]; exact h'
   rw [e,if_pos (by omega)]
   rfl
 | ok y =>
   obtain ⟨x,m⟩:=y
   rw [hp] at h
   have h':rr (toks s,-1)=(x,(m,-1)):=h
   rw [h']
   simp only
   by_cases h5:(hdT m).kd=5
   ·rw [if_pos h5,if_pos h5]
    rfl
   ·rw [if_neg h5,if_neg h5,rFail_good]
    simp
theorem full_sm (N n:Nat) (s:List UInt8):fullR (stmtQ N n) s=full (stmtP N n) s:=full_eq (stmt_eqv N n _ (toks_ok s))
def tokC (t:Tk):List D:=[.int .i64 (if t.kd=5 then 0 else t.kd),.str t.rw,.int .i64 t.fr]
def tkA (t:Tk):AV:=.agg ((tokC t).map AV.d)
def rdB (T l:List Tk):Blk:=.var [.d (.sl (T.map tokC)),.d (.int .i64 ((T.length - l.length:Nat):Int))]
theorem sfx_at {T l:List Tk} (hs:l <:+ T) (hn:l ≠ []):T.length - l.length<T.length∧∀ h,T[T.length - l.length]'h=hdT l:=by
 obtain ⟨p,rfl⟩:=hs
 have hl:=List.length_pos_iff.2 hn
 refine ⟨by simp; omega,fun h=>?_⟩
 cases l with
 | nil=>exact absurd rfl hn
 | cons t r =>
   rw [List.getElem_append_right (by simp)]
   simp [hdT]
theorem p_peek {T l:List Tk} (hs:l <:+ T) (hn:l ≠ []) (hT:T.length≤10000):Cf En 25 [.ptr 1000000 0 0] [rdB T l] (tkA (hdT l)) [rdB T l]:=by
 obtain ⟨h1,h2⟩:=sfx_at hs hn
 refine cf_intro mix (fn:=Tryz.f25) (by kernel_rfl) rfl (by kernel_rfl) (by decide) (by simp [rdB]) ?_
 unfold rdB tkA
 generalize T.length - l.length=i at *
 have hw:=wrap_in (n:=(T.length:Int) - 1) (by omega) (by omega)
 have hm:¬ ((T.length:Int) - 1<(i:Int)):=by omega
 generalize hdT l=e at *
 simp [hw,hm,h1,h2,tokC]
 all_goals exact gz
theorem p_is {T l:List Tk} (hs:l <:+ T) (hn:l ≠ []) (hT:T.length≤10000) (w:List UInt8):Cf En 44 [.ptr 1000000 0 0,.d (.str w)] [rdB T l] (.d (.bool (isW w l))) [rdB T l]:=by
 have hp:=p_peek hs hn hT
 have hw:isW w l=(((hdT l).kd==1||(hdT l).kd==4)&&(hdT l).rw==w):=by
  cases l with
  | nil=>exact absurd rfl hn
  | cons t r=>rfl
 rw [hw]
 refine cf_intro mix (fn:=Tryz.f44) (by kernel_rfl) rfl (by kernel_rfl) (by decide) (by simp [rdB]) ?_
 unfold rdB tkA at *
 generalize T.length - l.length=i at *
 generalize hdT l=e at *
 simp [tokC] at hp ⊢
 (repeat' (first|contradiction|exact .ok|apply And.intro|intro _|(refine gc (fun h=>?_) (fun h=>?_)<;>(have h':=h;(try simp at h');first|done|simp[h,h',tokC]|simp[tokC]))))
 refine acallT_hand [1000000] hp (by simp) (by simp) (by simp) (by simp) (by simp) ?_
 simp [tokC]
 (repeat' (first|contradiction|exact .ok|apply And.intro|intro _|(refine gc (fun h=>?_) (fun h=>?_)<;>(have h':=h;(try simp at h');first|done|simp[h,h',tokC]|simp[tokC]))))
 all_goals (by_cases k5:e.kd=5 <;> simp_all)
theorem p_take {T l:List Tk} (hs:l <:+ T) (hn:l ≠ []) (hT:T.length≤10000) (w:List UInt8):Cf En 29 [.ptr 1000000 0 0,.d (.str w)] [rdB T l] (.d (.bool (isW w l))) [rdB T (if isW w l=true then l.tail else l)]:=by
 have hp:=p_is hs hn hT w
 have hlen:=hs.length_le
 have hpos:=List.length_pos_iff.2 hn
 refine cf_intro mix (fn:=Tryz.f29) (by kernel_rfl) rfl (by kernel_rfl) (by decide) (by simp [rdB]) ?_
 cases hw:isW w l with
 | false =>
   rw [hw] at hp
   simp only [Bool.false_eq_true,if_false]
   unfold rdB at *
   generalize T.length - l.length=i at *
   simp at hp ⊢
   (repeat' (first|contradiction|exact .ok|apply And.intro|intro _|(refine gc (fun h=>?_) (fun h=>?_)<;>(have h':=h;(try simp at h');first|done|simp[h,h']|simp))))
   refine acallT_hand [1000000] hp (by simp) (by simp) (by simp) (by simp) (by simp) ?_
   simp
   all_goals exact gz
 | true =>
   rw [hw] at hp
   have hi:T.length - l.tail.length=T.length - l.length+1:=by rw [List.length_tail]; omega
   have hb:T.length - l.length≤10000:=by omega
   simp only [if_true]
   unfold rdB at *
   rw [hi]
   generalize T.length - l.length=i at *
   have hwr:=wrap_in (n:=(i:Int)+1) (by omega) (by omega)
   simp at hp ⊢
   (repeat' (first|contradiction|exact .ok|apply And.intro|intro _|(refine gc (fun h=>?_) (fun h=>?_)<;>(have h':=h;(try simp at h');first|done|simp[h,h']|simp))))
   refine acallT_hand [1000000] hp (by simp) (by simp) (by simp) (by simp) (by simp) ?_
   simp [hwr]
   (repeat' (first|contradiction|exact .ok|apply And.intro|intro _|(refine gc (fun h=>?_) (fun h=>?_)<;>(have h':=h;(try simp at h');first|done|simp[h,h',hwr]|simp[hwr]))))
theorem p_letter (c:UInt8):Cf En 56 [.d (.int .u8 c.toNat)] [] (.d (.bool (lowr c))) []:=by
 refine cf_intro mix (fn:=Tryz.f56) (by kernel_rfl) rfl (by kernel_rfl) (by decide) (by simp) ?_
 unfold lowr
 simp
 (repeat' (first|contradiction|exact .ok|apply And.intro|intro _|(refine gc (fun h=>?_) (fun h=>?_)<;>(have h':=h;(try simp at h');first|done|simp[h,h']|simp))))
 all_goals first | done | omega | (rw [Bool.eq_iff_iff]; simp; omega) | (simp_all; done) | (simp_all; omega)
theorem p_digit (c:UInt8):Cf En 58 [.d (.int .u8 c.toNat)] [] (.d (.bool (isDig c))) []:=by
 refine cf_intro mix (fn:=Tryz.f58) (by kernel_rfl) rfl (by kernel_rfl) (by decide) (by simp) ?_
 unfold isDig
 simp
 (repeat' (first|contradiction|exact .ok|apply And.intro|intro _|(refine gc (fun h=>?_) (fun h=>?_)<;>(have h':=h;(try simp at h');first|done|simp[h,h']|simp))))
 all_goals first | done | omega | (rw [Bool.eq_iff_iff]; simp; omega) | (simp_all; done) | (simp_all; omega)
theorem blank_iff (c:UInt8):blankB c=((c.toNat:Int)==32||(c.toNat:Int)==10):=by
 unfold blankB
 rw [Bool.eq_iff_iff]
 simp
 constructor
 ·rintro (rfl | rfl) <;> simp
 ·rintro (h | h)
  ·exact .inl (UInt8.toNat_inj.1 (by simpa using (by omega:c.toNat=32)))
  ·exact .inr (UInt8.toNat_inj.1 (by simpa using (by omega:c.toNat=10)))
theorem p_space (c:UInt8):Cf En 39 [.d (.int .u8 c.toNat)] [] (.d (.bool (blankB c))) []:=by
 refine cf_intro mix (fn:=Tryz.f39) (by kernel_rfl) rfl (by kernel_rfl) (by decide) (by simp) ?_
 rw [blank_iff]
 simp
 (repeat' (first|contradiction|exact .ok|apply And.intro|intro _|(refine gc (fun h=>?_) (fun h=>?_)<;>(have h':=h;(try simp at h');first|done|simp[h,h']|simp))))
 all_goals first | done | omega | (rw [Bool.eq_iff_iff]; simp; omega) | (simp_all; done) | (simp_all; omega)
theorem p_next1 (c:UInt8):Cf En 57 [.d (.int .u8 c.toNat)] [] (.d (.bool (nameB c))) []:=by
 have h1:=p_letter c
 have h2:=p_digit c
 have hn:nameB c=(lowr c||(isDig c||c.toNat==95)):=rfl
 rw [hn]
 generalize lowr c=L at *
 generalize isDig c=D at *
 refine cf_intro mix (fn:=Tryz.f57) (by kernel_rfl) rfl (by kernel_rfl) (by decide) (by simp) ?_
 simp
 (repeat' (first|contradiction|exact .ok|apply And.intro|intro _|(refine gc (fun h=>?_) (fun h=>?_)<;>(have h':=h;(try simp at h');first|done|simp[h,h']|simp))))
 refine acallT_plain h1 (by simp) ?_
 simp
 (repeat' (first|contradiction|exact .ok|apply And.intro|intro _|(refine gc (fun h=>?_) (fun h=>?_)<;>(have h':=h;(try simp at h');first|done|simp[h,h']|simp))))
 all_goals first | (refine acallT_plain h2 (by simp) ?_; simp; (repeat' (first | contradiction | exact .of (by kernel_rfl) | refine And.intro ?_ ?_ | intro _ | (refine agrd_cases (fun h=>?_) (fun h=>?_) <;> (have h':=h; (try simp at h'); first | done | simp [h,h'] | simp))))) | skip
 all_goals first | (simp_all; done) | (simp only [*,Bool.false_or]; rw [Bool.eq_iff_iff]; simp; omega)
theorem p_run (fc:Nat) (p:UInt8→Bool) (hc:∀ c:UInt8,Cf En fc [.d (.int .u8 c.toNat)] [] (.d (.bool (p c))) []) (s:List UInt8) (hs:s.length≤10000) :
  Cf En 38 [.d (.str s),.clo fc []] [] (.d (.int .i64 (s.takeWhile p).length)) []:=by
 refine cf_intro mix (fn:=Tryz.f38) (by kernel_rfl) rfl (by kernel_rfl) (by decide) (by simp) ?_
 simp
 (repeat' (first|contradiction|exact .ok|apply And.intro|intro _|(refine gc (fun h=>?_) (fun h=>?_)<;>(have h':=h;(try simp at h');first|done|simp[h,h']|simp))))
 refine aloopT mix (by decide) (fun i:Nat=>{ s:=mkS [(0,.d (.str s)),(1,.clo fc []),(5,.d (.int .i64 i))],b:=mkB [] }) (fun i=>i≤s.length∧(s.takeWhile p).length=i+((s.drop i).takeWhile p).length) (fun i=>s.length - i) 0 ⟨by simp,by simp⟩ (sub_mk _ [] .nil (by simp)) ?_
 rintro i ⟨hi,hl⟩
 by_cases hlt:i<s.length
 ·have h1:=hc s[i]
  have hw:=wrap_in (n:=(i:Int)+1) (by omega) (by omega)
  rw [List.drop_eq_getElem_cons hlt,List.takeWhile_cons] at hl
  obtain ⟨e,he⟩:∃ e,e=s[i]:=⟨_,rfl⟩
  have hge:∀ h,s[i]'h=e:=fun _=>he.symm
  rw [hge] at h1 hl
  cases hp:p e with
  | true =>
    rw [hp,if_pos rfl,List.length_cons] at hl
    rw [hp] at h1
    simp [hlt,hge]
    (repeat' (first|contradiction|exact .ok|apply And.intro|intro _|(refine gc (fun h=>?_) (fun h=>?_)<;>(have h':=h;(try simp at h');first|done|simp[h,h',hlt,hge]|simp[hlt,hge]))))
    refine acallT_plain h1 (by simp) ?_
    simp [hw]
    (repeat' (first|contradiction|exact .ok|apply And.intro|intro _|(refine gc (fun h=>?_) (fun h=>?_)<;>(have h':=h;(try simp at h');first|done|simp[h,h',hw]|simp[hw]))))
    refine ⟨i+1,⟨by omega,by omega⟩,?_,by simp; omega⟩
    exact sub_mk _ [] .nil (by simp [hw])
  | false =>
    rw [hp,if_neg (by simp)] at hl
    rw [hp] at h1
    simp at hl
    rw [hl]
    simp [hlt,hge]
    (repeat' (first|contradiction|exact .ok|apply And.intro|intro _|(refine gc (fun h=>?_) (fun h=>?_)<;>(have h':=h;(try simp at h');first|done|simp[h,h',hlt,hge]|simp[hlt,hge]))))
    refine acallT_plain h1 (by simp) ?_
    simp
    all_goals exact gz
 ·obtain rfl:i=s.length:=by omega
  simp at hl
  rw [hl]
  simp
  all_goals exact gz
def ixB (s:List UInt8) (c:UInt8):Int:=match s.findIdx? (·==c) with
 | some i=>(i:Int)
 | none=>-1
theorem lib_ix:∀ (s:List UInt8) (c:UInt8),Lib.indexByte s c=ixB s c
 | [],c=>rfl
 | b::l,c=>by
   have ih:=lib_ix l c
   unfold ixB at *
   rw [Lib.indexByte,List.findIdx?_cons]
   cases hb:b==c with
   | true=>simp
   | false =>
     simp only [Bool.false_eq_true,if_false]
     cases hl:l.findIdx? (·==c) with
     | none=>rw [hl] at ih; simp only at ih; rw [ih]; simp
     | some i =>
       rw [hl] at ih
       simp only at ih
       rw [ih,if_neg (by simp; try omega)]
       simp
theorem f_indexByte (s:List UInt8) (c:UInt8):Cf En 60 [.d (.str s),.d (.int .u8 c.toNat)] [] (.d (.int .i64 (ixB s c))) []:=by
 refine cf_of_calls (by kernel_rfl) fun w g vs hr m=>?_
 obtain ⟨_,_,rfl,r1,_,_,rfl,r2,r3⟩:=hr
 simp only [RepAs] at r3
 subst r3
 simp only [RepA,RepD] at r1 r2
 subst r1 r2
 refine (Tryz.strings_IndexByte _ _ w).mono ?_
 rintro e w' ⟨rfl,rfl⟩
 refine ⟨_,rfl,?_,.refl _ _⟩
 simp only [RepA,RepD,lib_ix]
 congr 2
 try simp
theorem f_index (ws:List (List UInt8)) (w:List UInt8) (hw:ws.length≤1000) :
  Cf En 78 [.d (.sl (ws.map fun w=>[.str w])),.d (.str w)] [] (.d (.int .i64 (fidx (fun x=>x==w) ws 0))) []:=by
 refine cf_intro mix (fn:=Tryz.f78) (by kernel_rfl) rfl (by kernel_rfl) (by decide) (by simp) ?_
 simp<;>(repeat' first|contradiction|exact .ok|apply And.intro|intro _|(refine gc (fun h=>?_) (fun h=>?_)<;>(have h':=h;(try simp at h');first|done|simp[h,h']|simp)))
 refine aloopT mix (by decide) (fun i:Nat=>{ s:=mkS [(0,.d (.sl (ws.map fun w=>[.str w]))),(1,.d (.str w)),(7,.d (.int .i64 ws.length)),(8,.d (.int .i64 i))],b:=mkB [] }) (fun i=>i≤ws.length∧fidx (fun x=>x==w) ws 0=fidx (fun x=>x==w) (ws.drop i) i) (fun i=>ws.length - i) 0 ⟨by simp,by simp⟩ (sub_mk _ [] .nil (by simp)) ?_
 rintro i ⟨hi,hfx⟩
 by_cases hlt:i<ws.length
 ·have hd:=fidx_drop (p:=fun x=>x==w) (k:=i) hlt
  have hwr:=wrap_in (n:=(i:Int)+1) (by omega) (by omega)
  obtain ⟨e,he⟩:∃ e,e=ws[i]:=⟨_,rfl⟩
  have hge:∀ h,ws[i]'h=e:=fun _=>he.symm
  rw [hge] at hd
  rw [hd] at hfx
  have hcm:(w==e)=(e==w):=by rw [Bool.eq_iff_iff,beq_iff_eq,beq_iff_eq]; exact eq_comm
  cases hb:e==w with
  | true =>
    rw [hb] at hfx hcm
    simp only [if_true] at hfx
    rw [hfx]
    have hcm':w=e:=by simpa using hcm
    simp [hlt,hge,hcm']<;>(repeat' first|contradiction|exact .ok|apply And.intro|intro _|(refine gc (fun h=>?_) (fun h=>?_)<;>(have h':=h;(try simp at h');first|done|simp[h,h',hlt,hge,hcm']|simp[hlt,hge,hcm'])))
  | false =>
    rw [hb] at hfx hcm
    simp only [Bool.false_eq_true,if_false] at hfx
    have hcm':¬ w=e:=by simpa using hcm
    simp [hlt,hge,hcm']<;>(repeat' first|contradiction|exact .ok|apply And.intro|intro _|(refine gc (fun h=>?_) (fun h=>?_)<;>(have h':=h;(try simp at h');first|done|simp[h,h',hlt,hge,hcm']|simp[hlt,hge,hcm'])))
    refine ⟨i+1,⟨by omega,hfx⟩,?_,by simp; omega⟩
    exact sub_mk _ [] .nil (by simp [hwr])
 ·obtain rfl:i=ws.length:=by omega
  rw [List.drop_length,fidx] at hfx
  rw [hfx]
  simp<;>(repeat' first|contradiction|exact .ok|apply And.intro|intro _|(refine gc (fun h=>?_) (fun h=>?_)<;>(have h':=h;(try simp at h');first|done|simp[h,h']|simp)))
theorem fidx_con (w:List UInt8):∀ (ws:List (List UInt8)) (k:Nat),decide (0≤fidx (fun x=>x==w) ws k)=ws.contains w
 | [],k=>by simp [fidx]
 | x::ws,k=>by
   rw [fidx,List.contains_cons]
   cases hb:x==w with
   | true =>
     have:(w==x)=true:=by simp at hb; simp [hb]
     rw [this]
     simp
   | false =>
     have:(w==x)=false:=by simp at hb; simp; exact fun e=>hb e.symm
     rw [this,Bool.false_or,← fidx_con w ws (k+1)]
     simp
theorem f_contains (ws:List (List UInt8)) (w:List UInt8) (hw:ws.length≤1000) :
  Cf En 61 [.d (.sl (ws.map fun w=>[.str w])),.d (.str w)] [] (.d (.bool (ws.contains w))) []:=by
 have h:=f_index ws w hw
 rw [← fidx_con w ws 0]
 generalize fidx (fun x=>x==w) ws 0=z at *
 refine cf_intro mix (fn:=Tryz.f61) (by kernel_rfl) rfl (by kernel_rfl) (by decide) (by simp) ?_
 simp<;>(repeat' first|contradiction|exact .ok|apply And.intro|intro _|(refine gc (fun h=>?_) (fun h=>?_)<;>(have h':=h;(try simp at h');first|done|simp[h,h']|simp)))
 refine acallT_plain h (by simp) ?_
 simp<;>(repeat' first|contradiction|exact .ok|apply And.intro|intro _|(refine gc (fun h=>?_) (fun h=>?_)<;>(have h':=h;(try simp at h');first|done|simp[h,h']|simp)))
end Go.Proofs.Tryz
