import Derived.Test.YthpmjipkofbeiaaGreatDoorTFtt
import Derived.Test.YthpmjipkofbeiaaGreatDoorTVall
import Derived.Test.YthpmjipkofbeiaaGreatDoorRlv
import Derived.Test.YthpmjipkofbeiaaGreatDoorRed
import Derived.Test.YthpmjipkofbeiaaGreatDoorTSqyRow
set_option linter.all false
namespace Go.Proofs.Tryz
open Go.Ab
set_option maxRecDepth 100000
set_option maxHeartbeats 4000000
theorem words_rsv:words=rsv:=by decide
mutual
theorem tm_rg:∀ t:Tm,t.right=rgT words t
 | .mk o y n t q ks=>by rw [Tm.right,rgT,tms_rg ks]; rfl
theorem tms_rg:∀ l:List Tm,tmsRight l=rgTs words l
 | []=>rfl
 | e::es=>by rw [tmsRight,rgTs,tm_rg e,tms_rg es]
end
section
variable {s:List UInt8} (hs:s.length≤5000) {L:Nat} {p q:RS→Tm×RS} {st:RS}
include hs
theorem r_unary (hp:RuR s L 199 p) (hq:RuR s (L+1) 207 q) (ha:At (toks s) st.1) (hl:st.1.length≤L+1)
  {res:Tm×RS} (hres:(if rIs wMinus st=true then
   (if (rNext st).2<0∧(hdT (rNext st).1).kd=2∧(hdT (rNext st).1).n ≠ 0 then (Tm.mk 2 0 (IntKind.i64.wrap (-(hdT (rNext st).1).n)) [] [] [],rNext (rNext st))
   else (mkT 11 [(p (rNext st)).1],(p (rNext st)).2)) else q st)=res) :
  Cf Es 199 [.ptr 1000000 0 0] [rrB s st] res.1.a [rrB s res.2]:=by
 refine cf_intro mixs (fn:=Tryz.f199) (by kernel_rfl) rfl (by kernel_rfl) (by decide) (by simp) ?_
 cases hw:rIs wMinus st with
 | true =>
   rw [if_pos hw] at hres
   have hlen:=is_len hw
   have h3:=ha.kp (kp_is hw)
   have hto:=take_yesR hs ha hw
   generalize rNext st=st2 at *
   have h4:=hp.run st2 h3 (by omega)
   simp<;>(repeat' first|contradiction|exact .ok|apply And.intro|intro _|(refine gc (fun h=>?_) (fun h=>?_)<;>(have h':=h;(try simp at h');first|done|simp[h,h']|simp)))
   refine acallT_hand [1000000] (hto) (by simp) (by simp) (by simp) (by simp) (by simp) ?_
   by_cases hc:st2.2<0∧(hdT st2.1).kd=2∧(hdT st2.1).n ≠ 0
   ·rw [if_pos hc] at hres
    subst hres
    obtain ⟨c1,c2,c3⟩:=hc
    have hnx:=r_next hs h3 (ends_kd (by omega) (by omega))
    simp [c1,c2,c3]<;>(repeat' first|contradiction|exact .ok|apply And.intro|intro _|(refine gc (fun h=>?_) (fun h=>?_)<;>(have h':=h;(try simp at h');first|done|simp[h,h',c1,c2,c3]|simp[c1,c2,c3])))
    refine acallT_hand [1000000] (hnx) (by simp) (by simp) (by simp) (by simp [c2]) (by simp) ?_
    simp [Tm.c,tmsC]<;>(repeat' first|contradiction|exact .ok|apply And.intro|intro _|(refine gc (fun h=>?_) (fun h=>?_)<;>(have h':=h;(try simp at h');first|done|simp[h,h',Tm.c,tmsC]|simp[Tm.c,tmsC])))
   ·rw [if_neg hc] at hres
    subst hres
    by_cases c1:st2.2<0
    ·by_cases c2:(hdT st2.1).kd=2
     ·have c3:(hdT st2.1).n=0:=by
       by_cases c3:(hdT st2.1).n=0
       ·exact c3
       ·exact absurd ⟨c1,c2,c3⟩ hc
      simp [c1,c2,c3]<;>(repeat' first|contradiction|exact .ok|apply And.intro|intro _|(refine gc (fun h=>?_) (fun h=>?_)<;>(have h':=h;(try simp at h');first|done|simp[h,h',c1,c2,c3]|simp[c1,c2,c3])))
      refine acallT_hand [1000000] (h4) (by simp) (by simp) (by simp) (by simp [c2,c3]) (by simp) ?_
      simp<;>(repeat' first|contradiction|exact .ok|apply And.intro|intro _|(refine gc (fun h=>?_) (fun h=>?_)<;>(have h':=h;(try simp at h');first|done|simp[h,h']|simp)))
      refine acallT_plain (ups (r_one 11 (p st2).1)) (by simp) ?_
      simp<;>(repeat' first|contradiction|exact .ok|apply And.intro|intro _|(refine gc (fun h=>?_) (fun h=>?_)<;>(have h':=h;(try simp at h');first|done|simp[h,h']|simp)))
     ·simp [c1,c2]<;>(repeat' first|contradiction|exact .ok|apply And.intro|intro _|(refine gc (fun h=>?_) (fun h=>?_)<;>(have h':=h;(try simp at h');first|done|simp[h,h',c1,c2]|simp[c1,c2])))
      refine acallT_hand [1000000] (h4) (by simp) (by simp) (by simp) (by simp) (by simp) ?_
      simp<;>(repeat' first|contradiction|exact .ok|apply And.intro|intro _|(refine gc (fun h=>?_) (fun h=>?_)<;>(have h':=h;(try simp at h');first|done|simp[h,h']|simp)))
      refine acallT_plain (ups (r_one 11 (p st2).1)) (by simp) ?_
      simp<;>(repeat' first|contradiction|exact .ok|apply And.intro|intro _|(refine gc (fun h=>?_) (fun h=>?_)<;>(have h':=h;(try simp at h');first|done|simp[h,h']|simp)))
    ·have c1':0≤st2.2:=by omega
     simp [c1,c1']<;>(repeat' first|contradiction|exact .ok|apply And.intro|intro _|(refine gc (fun h=>?_) (fun h=>?_)<;>(have h':=h;(try simp at h');first|done|simp[h,h',c1,c1']|simp[c1,c1'])))
     refine acallT_hand [1000000] (h4) (by simp) (by simp) (by simp) (by simp) (by simp) ?_
     simp<;>(repeat' first|contradiction|exact .ok|apply And.intro|intro _|(refine gc (fun h=>?_) (fun h=>?_)<;>(have h':=h;(try simp at h');first|done|simp[h,h']|simp)))
     refine acallT_plain (ups (r_one 11 (p st2).1)) (by simp) ?_
     simp<;>(repeat' first|contradiction|exact .ok|apply And.intro|intro _|(refine gc (fun h=>?_) (fun h=>?_)<;>(have h':=h;(try simp at h');first|done|simp[h,h']|simp)))
 | false =>
   rw [if_neg (by rw [hw]; exact Bool.false_ne_true)] at hres
   subst hres
   have h4:=hq.run st ha hl
   simp<;>(repeat' first|contradiction|exact .ok|apply And.intro|intro _|(refine gc (fun h=>?_) (fun h=>?_)<;>(have h':=h;(try simp at h');first|done|simp[h,h']|simp)))
   refine acallT_hand [1000000] (take_noR hs ha hw) (by simp) (by simp) (by simp) (by simp) (by simp) ?_
   simp<;>(repeat' first|contradiction|exact .ok|apply And.intro|intro _|(refine gc (fun h=>?_) (fun h=>?_)<;>(have h':=h;(try simp at h');first|done|simp[h,h']|simp)))
   refine acallT_hand [1000000] (h4) (by simp) (by simp) (by simp) (by simp) (by simp) ?_
   simp<;>(repeat' first|contradiction|exact .ok|apply And.intro|intro _|(refine gc (fun h=>?_) (fun h=>?_)<;>(have h':=h;(try simp at h');first|done|simp[h,h']|simp)))
end
def fuelN:Nat:=50000
theorem resP_num {s:List UInt8} (h:(resP s).2=0) (hk:(resP s).1.k=1):resP s=(V.mk 1 (resP s).1.n [],0):=by
 obtain ⟨h1,_⟩:=resP_inv h
 generalize resP s=x at *
 obtain ⟨⟨k,n,t⟩,e⟩:=x
 simp only at h hk h1
 subst h hk
 rcases valid_cases h1 with h | h | h | h | h
 ·cases h
 ·obtain ⟨_,ht,_⟩:=h
  simp only at ht
  subst ht
  rfl
 ·cases h
 ·cases h
 ·exact absurd h.1 (by show ¬ (1:Int)=3; decide)
theorem resP_txt {s:List UInt8} (h:(resP s).2=0) (hh:s.head?=some 39):resP s=(V.mk 3 0 (resP s).1.t,0):=by
 obtain ⟨h1,h2⟩:=resP_inv h
 generalize resP s=x at *
 obtain ⟨⟨k,n,t⟩,e⟩:=x
 simp only at h h1 h2
 subst h
 rw [← h2] at hh
 rcases valid_cases h1 with hv | hv | hv | hv | hv
 ·rw [hv] at hh; exact absurd hh (by decide)
 ·obtain ⟨hk,ht,_⟩:=hv
  simp only at hk ht
  subst hk ht
  unfold vText at hh
  rw [if_pos h1,if_pos rfl] at hh
  obtain ⟨c,r,hi,hc⟩:=itoa_head n
  rw [hi] at hh
  simp only [List.head?_cons,Option.some.injEq] at hh
  subst hh
  have:(39:UInt8).toNat=39:=rfl
  omega
 ·rw [hv] at hh; exact absurd hh (by decide)
 ·rw [hv] at hh; exact absurd hh (by decide)
 ·obtain ⟨hk,hn⟩:=hv
  simp only at hk hn
  subst hk hn
  rfl
theorem scan_tv {s:List UInt8} (hs:s.length≤5000) (a:Nat):TkV (scanT s a):=by
 have hl:(scanT s a).rw.length≤10000:=by
  show ((s.drop (skipB s a)).take _).length≤_
  simp only [List.length_take,List.length_drop]
  omega
 unfold scanT at *
 generalize s.drop (skipB s a)=r at *
 generalize skipB s a=z at *
 suffices h:((lexR r).1=2→resP (r.take (lexR r).2.1)=(V.mk 1 (lexR r).2.2.2 [],0))∧((lexR r).1=3→resP (r.take (lexR r).2.1)=(V.mk 3 0 (lexR r).2.2.1,0)) from ⟨h.1,h.2,hl⟩
 clear hl
 cases r with
 | nil=>exact ⟨fun h=>by simp [lexR] at h,fun h=>by simp [lexR] at h⟩
 | cons c q =>
   unfold lexR
   simp only
   by_cases h1:lowr c=true
   ·rw [if_pos h1]
    split
    ·exact ⟨fun h=>by simp at h,fun h=>by simp at h⟩
    ·exact ⟨fun h=>by simp at h,fun h=>by simp at h⟩
   rw [if_neg h1]
   by_cases h2:isDig c=true
   ·rw [if_pos h2]
    split
    ·rename_i hr
     exact ⟨fun _=>resP_num hr.1 hr.2,fun h=>by simp at h⟩
    ·exact ⟨fun h=>by simp at h,fun h=>by simp at h⟩
   rw [if_neg h2]
   by_cases h3:c=39
   ·rw [if_pos h3]
    cases q.findIdx? (·==39) with
    | none=>exact ⟨fun h=>by simp at h,fun h=>by simp at h⟩
    | some i =>
      simp only
      split
      ·rename_i hr
       exact ⟨fun h=>by simp at h,fun _=>resP_txt hr (by rw [h3]; rfl)⟩
      ·exact ⟨fun h=>by simp at h,fun h=>by simp at h⟩
   rw [if_neg h3]
   split
   ·exact ⟨fun h=>by simp at h,fun h=>by simp at h⟩
   ·split
    ·exact ⟨fun h=>by simp at h,fun h=>by simp at h⟩
    ·exact ⟨fun h=>by simp at h,fun h=>by simp at h⟩
theorem toks_v {s:List UInt8} (hs:s.length≤5000):okT (toks s):=fun t ht=>by
 obtain ⟨b,rfl⟩:=tokF_mem s _ _ t ht
 exact scan_tv hs b
theorem scan_place {s:List UInt8} {a:Nat} (ha:a≤s.length):((scanT s a).kd=5→(scanT s a).fr=s.length)∧((scanT s a).kd=0→(scanT s a).fr<s.length):=by
 have h:=skip_le ha
 have hf:(scanT s a).fr=skipB s a:=rfl
 have hk:(scanT s a).kd=(lexR (s.drop (skipB s a))).1:=rfl
 rw [hf,hk]
 rcases Nat.lt_or_ge (skipB s a) s.length with c | c
 ·refine ⟨fun h5=>?_,fun _=>c⟩
  cases hd:s.drop (skipB s a) with
  | nil=>have:=List.drop_eq_nil_iff.1 hd; omega
  | cons x q=>rw [hd] at h5; exact absurd h5 lex_kd
 ·refine ⟨fun _=>by omega,fun h0=>?_⟩
  rw [show skipB s a=s.length from by omega,List.drop_length] at h0
  cases h0
theorem tokF_place (s:List UInt8):∀ (k a:Nat) (t:Tk),a≤s.length→t∈tokF s k a→(t.kd=5→t.fr=s.length)∧(t.kd=0→t.fr<s.length)
 | 0,a,t,_,h=>by cases h
 | k+1,a,t,ha,h=>by
   rw [tokF] at h
   split at h
   ·rw [List.mem_singleton.1 h]; exact scan_place ha
   ·rcases List.mem_cons.1 h with e | h
    ·rw [e]; exact scan_place ha
    ·exact tokF_place s k _ t (scan_to ha).2.1 h
theorem toks_place {s:List UInt8} {m:List Tk} (h:At (toks s) m):((hdT m).kd=5→(hdT m).fr=s.length)∧((hdT m).kd=0→(hdT m).fr<s.length):=by
 cases m with
 | nil=>exact absurd rfl h.ne
 | cons t r=>exact tokF_place s _ 0 t (Nat.zero_le _) (h.sfx.subset List.mem_cons_self)
@[simp] theorem ends_p2 {E:Env} {fn:Func} {y:AV} {st:St} {b1 b2:Blk}:Ab.Ends E fn 2 y [b1,b2] st=aendH 2 (resV E fn st) st.b y [b1,b2]:=ends_hand (B':=[b1,b2])
theorem kept_p2 {b0 b1:Blk} {bl:Nat→Blk}:KeptOk 2 bl (idK [b0,b1]) =
  ((((bl 1000000).live=true∨bl 1000000=.dead)∧(cvB (renOf (idK [b0,b1])) bl true (bl 1000000)).1=b0) ∧
  (((bl 1000001).live=true∨bl 1000001=.dead)∧(cvB (renOf (idK [b0,b1])) bl true (bl 1000001)).1=b1)):=by
 have:=@kept_idK [b0,b1] bl
 simp only [List.length_cons,List.length_nil,Nat.zero_add,Nat.reduceAdd] at this
 rw [this]
 apply propext
 constructor
 ·intro h; exact ⟨h 0 b0 rfl,h 1 b1 rfl⟩
 ·rintro ⟨h0,h1⟩ i c hc
  match i,hc with
  | 0,hc=>cases hc; exact h0
  | 1,hc=>cases hc; exact h1
def ptR (s:List UInt8):Tm×Int×Int :=
 if s.length≤4000 then (match full (parP fuelN 0) s with
  | .error p=>(zeT,(p:Int),2)
  | .ok t=>if t.dep≤24 then (t,0,0) else (zeT,0,13)) else (zeT,0,8)
theorem p_rule {s:List UInt8} (hs:s.length≤5000) :
  CfO Es 30 [.ptr 1000000 0 0,.ptr 1000001 0 0] [rdB (toks s) (toks s),.var zTm] (match parP fuelN 0 (toks s) with
   | .error p=>.pan (flD p)
   | .ok (t,m)=>.ret (.tup []) [rdB (toks s) m,.var (t.c.map AV.d)]):=by
 have hlen:=toks_len s
 have ha:At (toks s) (toks s):=⟨List.suffix_refl _,toks_okE s⟩
 have h:=p_par p_fail (toks_v hs) (by omega) fuelN 0 (toks s) (by decide) ha (by unfold need fuelN; omega)
 generalize ho:(match parP fuelN 0 (toks s) with
   | .error p=>Out.pan (flD p)
   | .ok (t,m)=>.ret (.tup []) [rdB (toks s) m,.var (t.c.map AV.d)])=o
 refine cfO_intro mixs (fn:=Tryz.f30) (by kernel_rfl) rfl (by kernel_rfl) (by decide) o (by simp) (by simp [rdB]) ?_
 cases hp:parP fuelN 0 (toks s) with
 | error e =>
   rw [hp] at h ho
   subst ho
   simp<;>(repeat' first|contradiction|exact .ok|apply And.intro|intro _|(refine gc (fun h=>?_) (fun h=>?_)<;>(have h':=h;(try simp at h');first|done|simp[h,h']|simp)))
   exact acallP_pan [1000000] (h) (by simp) (by simp) (by simp) (by simp) (by kernel_rfl)
 | ok x =>
   obtain ⟨t,m⟩:=x
   rw [hp] at h ho
   subst ho
   simp<;>(repeat' first|contradiction|exact .ok|apply And.intro|intro _|(refine gc (fun h=>?_) (fun h=>?_)<;>(have h':=h;(try simp at h');first|done|simp[h,h']|simp)))
   refine acallP_of (acallT_hand [1000000] (h) (by simp) (by simp) (by simp) (by simp) (by simp) ?_)
   simp<;>(repeat' first|contradiction|exact .ok|apply And.intro|intro _|(refine gc (fun h=>?_) (fun h=>?_)<;>(have h':=h;(try simp at h');first|done|simp[h,h']|simp)))
   all_goals (rw [kept_p2]; simp [renOf,idK,idKF])
theorem own_z:Own zTm:=fun r bl=>by simp
theorem own_t (t:Tm):Own (t.c.map AV.d):=fun r bl=>cvAs_d r bl true t.c
theorem p_read {s:List UInt8} (hs:s.length≤1000000):∃ pos e:Int,∃ Y:Blk,
  Cf Es 29 [.d (.str s),.clo 30 [.ptr 1000000 0 0]] [.var zTm] (.tup [.d (.int .i64 pos),.d (.int .i64 e)]) [Y] ∧
  ((¬ e=0∧ptR s=(zeT,pos,e)∧(Y=.dead∨Y=.var zTm))∨(∃ t:Tm,e=0∧pos=0∧Y=.var (t.c.map AV.d)∧t.fits∧ptR s=if t.dep≤24 then (t,0,0) else (zeT,0,13))):=by
 by_cases hl:s.length≤4000
 ·have hr:=p_rule (s:=s) (by omega)
  have ha:At (toks s) (toks s):=⟨List.suffix_refl _,toks_okE s⟩
  have hlen:=toks_len s
  cases hp:parP fuelN 0 (toks s) with
  | error e =>
    rw [hp] at hr
    refine ⟨e,2,.dead,p_read_err hl own_z hr,.inl ⟨by decide,?_,.inl rfl⟩⟩
    unfold ptR full
    rw [if_pos hl,hp]
  | ok x =>
    obtain ⟨t,m⟩:=x
    rw [hp] at hr
    have hm:At (toks s) m:=ha.to (par_sfx _ _ _ t m hp) (par_okE _ _ ha.ok hp)
    have hpl:=toks_place hm
    by_cases hk:(hdT m).kd=5
    ·refine ⟨0,0,_,p_read_ok (α:=Unit) hl own_z (own_t t) hm hk (hpl.1 hk) hr,.inr ⟨t,rfl,rfl,rfl,par_fit _ _ _ (by omega) t m hp,?_⟩⟩
     unfold ptR full
     rw [if_pos hl,hp]
     simp only [hk,if_true]
    ·refine ⟨posT m,2,.dead,p_read_rest hl own_z (own_t t) hm hk hpl.2 hr,.inl ⟨by decide,?_,.inl rfl⟩⟩
     unfold ptR full
     rw [if_pos hl,hp]
     simp only [hk,if_false]
 ·refine ⟨0,8,.var zTm,p_read_long hl hs,.inl ⟨by decide,?_,.inr rfl⟩⟩
  unfold ptR
  rw [if_neg hl]
def ptA (s:List UInt8):AV:=.tup [(ptR s).1.a,.d (.int .i64 (ptR s).2.1),.d (.int .i64 (ptR s).2.2)]
theorem p_parseTerm {s:List UInt8} (hs:s.length≤1000000):Cf Es 10 [.d (.str s)] [] (ptA s) []:=by
 obtain ⟨pos,e,Y,hr,h⟩:=p_read hs
 unfold ptA
 refine cf_intro mixs (fn:=Tryz.f10) (by kernel_rfl) rfl (by kernel_rfl) (by decide) (by simp) ?_
 rcases h with ⟨he,hp,hY⟩ | ⟨t,he,hpos,hY,hf,hp⟩
 ·rw [hp]
  simp<;>(repeat' first|contradiction|exact .ok|apply And.intro|intro _|(refine gc (fun h=>?_) (fun h=>?_)<;>(have h':=h;(try simp at h');first|done|simp[h,h']|simp)))
  rcases hY with rfl | rfl
  ·refine acallT_hand [5] hr (by simp) (by simp) (by simp) (by simp) (by simp) ?_
   simp [he]<;>(repeat' first|contradiction|exact .ok|apply And.intro|intro _|(refine gc (fun h=>?_) (fun h=>?_)<;>(have h':=h;(try simp at h');first|done|simp[h,h',he]|simp[he])))
   all_goals simp [zeT,mkT,Tm.c,tmsC]
  ·refine acallT_hand [5] hr (by simp) (by simp) (by simp) (by simp) (by simp) ?_
   simp [he]<;>(repeat' first|contradiction|exact .ok|apply And.intro|intro _|(refine gc (fun h=>?_) (fun h=>?_)<;>(have h':=h;(try simp at h');first|done|simp[h,h',he]|simp[he])))
   all_goals simp [zeT,mkT,Tm.c,tmsC]
 ·subst he hpos hY
  have hd:=ups (s_termDepth _ t (Nat.lt_succ_self _) hf)
  rw [hp]
  simp<;>(repeat' first|contradiction|exact .ok|apply And.intro|intro _|(refine gc (fun h=>?_) (fun h=>?_)<;>(have h':=h;(try simp at h');first|done|simp[h,h']|simp)))
  refine acallT_hand [5] hr (by simp) (by simp) (by simp) (by simp) (by simp) ?_
  simp<;>(repeat' first|contradiction|exact .ok|apply And.intro|intro _|(refine gc (fun h=>?_) (fun h=>?_)<;>(have h':=h;(try simp at h');first|done|simp[h,h']|simp)))
  refine acallT_plain hd (by simp) ?_
  by_cases h24:t.dep≤24
  ·have h24':¬ (24:Int)<t.dep:=by omega
   rw [if_pos h24]
   simp [h24']<;>(repeat' first|contradiction|exact .ok|apply And.intro|intro _|(refine gc (fun h=>?_) (fun h=>?_)<;>(have h':=h;(try simp at h');first|done|simp[h,h',h24']|simp[h24'])))
  ·have h24':(24:Int)<t.dep:=by omega
   rw [if_neg h24]
   simp [h24']<;>(repeat' first|contradiction|exact .ok|apply And.intro|intro _|(refine gc (fun h=>?_) (fun h=>?_)<;>(have h':=h;(try simp at h');first|done|simp[h,h',h24']|simp[h24'])))
   all_goals simp [zeT,mkT,Tm.c,tmsC]
end Go.Proofs.Tryz
