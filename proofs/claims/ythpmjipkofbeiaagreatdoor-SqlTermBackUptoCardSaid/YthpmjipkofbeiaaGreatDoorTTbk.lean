import Derived.Test.YthpmjipkofbeiaaGreatDoorWrx
import Derived.Test.YthpmjipkofbeiaaGreatDoorVst
import Derived.Test.YthpmjipkofbeiaaGreatDoorTPtm
import Derived.Test.YthpmjipkofbeiaaGreatDoorRpm
import Derived.Test.YthpmjipkofbeiaaGreatDoorTPru
import Derived.Test.YthpmjipkofbeiaaGreatDoorTrm
import Derived.Test.YthpmjipkofbeiaaGreatDoorTSWow
import Derived.Test.YthpmjipkofbeiaaGreatDoorVrt
import Derived.Test.YthpmjipkofbeiaaGreatDoorTFwl
set_option linter.all false
namespace Go.Proofs.Tryz
open Go.Ab
set_option maxRecDepth 100000
set_option maxHeartbeats 4000000
theorem sop_of {o:Int} {z:List UInt8×Nat×Nat×Nat} (h:sgB o=some z):isSop o=true:=by
 cases hs:isSop o with
 | true=>rfl
 | false=>rw [sgB_none hs] at h; cases h
theorem rgTs_mem {ws:List (List UInt8)}:∀ {l:List Tm},rgTs ws l=true→∀ x∈l,rgT ws x=true
 | e::es,h,x,hx=>by
   rw [rgTs,Bool.and_eq_true] at h
   rcases List.mem_cons.1 hx with rfl | hx
   ·exact h.1
   ·exact rgTs_mem h.2 x hx
theorem rgT_kids {ws:List (List UInt8)} {x:Tm} (h:rgT ws x=true):rgTs ws x.kids=true:=by
 obtain ⟨o,y,n,t,q,ks⟩:=x
 rw [rgT,Bool.and_eq_true] at h
 exact h.2
theorem wgt_kids (x:Tm):tmsWgt x.kids+60≤x.wgt:=by
 obtain ⟨o,y,n,t,q,ks⟩:=x
 rw [Tm.wgt,Tm.kids]
 omega
theorem wgt_len:∀ l:List Tm,60*l.length≤tmsWgt l
 | []=>by simp [tmsWgt]
 | x::l=>by
   have h1:=wgt_len l
   have h2:=wgt_kids x
   rw [tmsWgt,List.length_cons]
   omega
theorem join_ok {l:List Tm} (h:rgTs rsv l=true) (hw:tmsWgt l≤1099511627776):l.length≤1000000000000∧(joinB (l.map wr)).length≤1099511627776:=by
 have h1:=wrs_len l rsv h
 have h2:=joinB_len (wrs l)
 have h3:(wrs l).length=l.length:=by rw [wrs_map,List.length_map]
 have h4:=wgt_len l
 rw [← wrs_map]
 omega
theorem p_wr:∀ (m:Nat) (x:Tm),SizeOf.sizeOf x<m→rgT rsv x=true→x.wgt≤1099511627776→WrK x
 | 0,_,h,_,_=>absurd h (by omega)
 | m+1,x,hm,hr,hw=>by
   have hlen:=wr_len x rsv hr
   refine ⟨?_,by omega⟩
   have hkw:=wgt_kids x
   have hkr:=rgT_kids hr
   have hk:∀ k∈x.kids,WrK k:=fun k hk=>p_wr m k (by have:=Tm.kid_lt hk; omega) (rgTs_mem hkr k hk) (by have:=tmsWgt_mem hk; omega)
   cases wf_of x hr with
   | chn hq hi ha hb=>exact w_two (sop_of (chn_op hq hi).1) _ _ (hk _ (by simp [mkT,Tm.kids])) (hk _ (by simp [mkT,Tm.kids]))
   | cmp hi ha hb=>exact w_two (sop_of (cmp_op hi).1) _ _ (hk _ (by simp [mkT,Tm.kids])) (hk _ (by simp [mkT,Tm.kids]))
   | no ha=>exact w_not _ (hk _ (by simp [mkT,Tm.kids]))
   | isNull ha=>exact w_isNull _ (hk _ (by simp [mkT,Tm.kids]))
   | isTrue ha=>exact w_isTrue _ (hk _ (by simp [mkT,Tm.kids]))
   | isIn ha hks hn =>
     simp only [mkT,Tm.kids] at hkr hkw hk hw
     rw [rgTs,Bool.and_eq_true] at hkr
     rw [tmsWgt] at hkw
     have hj:=join_ok hkr.2 (by omega)
     exact w_isIn _ _ (hk _ (by simp)) (fun x hx=>hk x (by simp [hx])) hj.1 hj.2
   | neg ha=>exact w_neg _ (hk _ (by simp [mkT,Tm.kids]))
   | len ha=>exact w_len _ (hk _ (by simp [mkT,Tm.kids]))
   | coal ha hb =>
     simp only [mkT,Tm.kids] at hkr hkw hk hw
     have hj:=join_ok hkr (by omega)
     exact w_coal _ hk hj.1 hj.2
   | case ha hb hc=>exact w_case _ _ _ (hk _ (by simp [mkT,Tm.kids])) (hk _ (by simp [mkT,Tm.kids])) (hk _ (by simp [mkT,Tm.kids]))
   | rows=>exact w_rows
   | agg hn ha=>exact w_agg hn _ (hk _ (by simp [Tm.kids]))
   | null hy=>exact w_null hy
   | int h0 h1=>exact w_int h0 h1
   | tru=>exact w_bool (.inr rfl)
   | fls=>exact w_bool (.inl rfl)
   | text ht=>exact w_text (by rw [Tm.wgt] at hw; omega)
   | name ht=>exact w_name (by rw [Tm.wgt] at hw; omega) (by simp)
   | qual ht hq=>exact w_name (by rw [Tm.wgt] at hw; omega) (by rw [Tm.wgt] at hw; omega)
def ttx (x:Tm):List UInt8:=if (decide (x.dep≤24)&&x.right)=true then wr x else []
theorem p_termText (x:Tm) (hf:x.fits) (hw:x.wgt≤1099511627776):Cf Es 7 [x.a] [] (.d (.str (ttx x))) []:=by
 refine cf_intro mixs (fn:=Tryz.f7) (by kernel_rfl) rfl (by kernel_rfl) (by decide) (by simp) ?_
 have h1:=s_validTerm x hf
 have c1:=x.clen
 have k1:=x.ctake
 unfold ttx
 cases hv:(decide (x.dep≤24)&&x.right) with
 | false =>
   rw [hv] at h1
   simp [Tm.a,c1,k1]
   (repeat refine ⟨.of (by kernel_rfl),?_⟩)
   refine acallT_plain h1 (by simp [Tm.a]) ?_
   simp
   all_goals exact gz
 | true =>
   rw [hv] at h1
   have hr:rgT rsv x=true:=by
    rw [← words_rsv,← tm_rg]
    simp only [Bool.and_eq_true] at hv
    exact hv.2
   have h2:=(p_wr _ x (Nat.lt_succ_self _) hr hw).1
   simp [Tm.a,c1,k1]
   (repeat refine ⟨.of (by kernel_rfl),?_⟩)
   refine acallT_plain h1 (by simp [Tm.a]) ?_
   simp [c1,k1]
   (repeat' (first|contradiction|exact .ok|apply And.intro|intro _|(refine gc (fun h=>?_) (fun h=>?_)<;>(have h':=h;(try simp at h');first|done|simp[h,h',c1,k1]|simp[c1,k1]))))
   refine acallT_plain h2 (by simp [Tm.a]) ?_
   simp
   all_goals exact gz
def fnR:Nat→FuncId
 | 0=>27
 | 1=>56
 | 2=>94
 | 3=>136
 | 4=>170
 | 5=>189
 | 6=>199
 | _=>207
theorem r_par {s:List UInt8} (hs:s.length≤5000):∀ (n lvl:Nat) (st:RS),lvl≤7→At (toks s) st.1→need lvl st.1≤n→Cf Es (fnR lvl) [.ptr 1000000 0 0] [rrB s st] (parR n lvl st).1.a [rrB s (parR n lvl st).2]
 | 0,lvl,st,hv,ha,hn=>by
   have:=List.length_pos_iff.2 ha.ne
   unfold need at hn
   omega
 | n+1,lvl,st,hv,ha,hn=>by
   have hpos:=List.length_pos_iff.2 ha.ne
   have hT:=ha.sfx.length_le
   have hT2:=toks_len s
   have rl:∀ (k L:Nat),k≤7→9*L+8 - k≤n→RuR s L (fnR k) (parR n k):=fun k L hk hL =>
    ⟨fun st' ha' hl'=>r_par hs n k st' hk ha' (by unfold need; omega),kp_par n k⟩
   unfold need at hn
   match lvl,hv,hn with
   | 0,_,hn=>rw [parR]; exact r_term hs (rl 1 st.1.length (by omega) (by omega)) ha (Nat.le_refl _)
   | 1,_,hn=>rw [parR]; exact r_and hs (rl 2 st.1.length (by omega) (by omega)) ha (Nat.le_refl _)
   | 2,_,hn=>rw [parR]; exact r_not hs (L:=st.1.length - 1) (rl 2 _ (by omega) (by omega)) (rl 3 _ (by omega) (by omega)) ha (by omega)
   | 3,_,hn =>
     have e:parR (n+1) 3 st=cprR (parR n 4) (parR n 0) st:=by rw [parR]; rfl
     rw [e]
     exact r_comparison hs (L:=st.1.length - 1) (rl 4 _ (by omega) (by omega)) (rl 0 _ (by omega) (by omega)) (by omega) ha (by omega)
   | 4,_,hn=>rw [parR]; exact r_sum hs (rl 5 st.1.length (by omega) (by omega)) ha (Nat.le_refl _)
   | 5,_,hn=>rw [parR]; exact r_product hs (rl 6 st.1.length (by omega) (by omega)) ha (Nat.le_refl _)
   | 6,_,hn=>exact r_unary hs (L:=st.1.length - 1) (rl 6 _ (by omega) (by omega)) (rl 7 _ (by omega) (by omega)) ha (by omega) (by rw [parR])
   | 7,_,hn =>
     have e:parR (n+1) 7 st=priR (parR n 0) st:=by rw [parR]; rfl
     exact r_primary hs (L:=st.1.length - 1) (rl 0 _ (by omega) (by omega)) ha (by omega) e.symm
   | k+8,hv,_=>omega
theorem toks_head (s:List UInt8):hdT (toks s)=scanT s 0:=by
 have h:=(tokF_chain (s:=s) (s.length+1) 0 (Nat.zero_le _) (by omega)).2
 unfold toks
 cases ht:tokF s (s.length+1) 0 with
 | nil=>rw [ht] at h; cases h
 | cons t r=>rw [ht] at h; exact Option.some.inj h
theorem r_read {s:List UInt8} (hs:s.length≤5000):Cf Es 26 [.d (.str s)] [] (.ptr 1000000 0 0) [rrB s (toks s,-1)]:=by
 have hsc:=r_scan s hs 0 (Nat.zero_le _)
 refine cf_introS mixs (fn:=Tryz.f26) (by kernel_rfl) rfl (by kernel_rfl) (by decide) (by simp) ?_
 simp only [rrB,toks_head]
 generalize scanT s 0=t at *
 simp<;>(repeat' first|contradiction|exact .ok|apply And.intro|intro _|(refine gc (fun h=>?_) (fun h=>?_)<;>(have h':=h;(try simp at h');first|done|simp[h,h']|simp)))
 refine acallT_plain hsc (by simp) ?_
 simp [rtA,rtC]
 (repeat refine ⟨.of (by kernel_rfl),?_⟩)
 exact EndsS.of [7] _ rfl (by simp; rfl) (by decide) rfl (by refine all_cons ?_ all_nil <;> simp [renOf,Blk.live]) (by simp [renOf])
theorem full_fits {s:List UInt8} (hs:s.length≤5000) {t:Tm} (h:full (parP fuelN 0) s=.ok t):t.fits:=by
 have hl:=toks_len s
 unfold full at h
 cases hp:parP fuelN 0 (toks s) with
 | error p=>rw [hp] at h; cases h
 | ok x =>
   obtain ⟨u,m⟩:=x
   rw [hp] at h
   simp only at h
   split at h
   ·cases h; exact par_fit _ _ _ (by omega) _ m hp
   ·cases h
theorem r_parseTerm {s:List UInt8} (hs:s.length≤1000000):Cf Es 9 [.d (.str s)] [] (ptA s) []:=by
 unfold ptA
 generalize hres:ptR s=res
 unfold ptR at hres
 refine cf_intro mixs (fn:=Tryz.f9) (by kernel_rfl) rfl (by kernel_rfl) (by decide) (by simp) ?_
 by_cases hl:s.length≤4000
 ·rw [if_pos hl,← full_tm] at hres
  have hl':¬ (4000:Int)<(s.length:Int):=by omega
  have hrd:=r_read (s:=s) (by omega)
  have ha:At (toks s) (toks s):=⟨List.suffix_refl _,toks_okE s⟩
  have hlen:=toks_len s
  have hpr:=r_par (s:=s) (by omega) fuelN 0 (toks s,-1) (by decide) ha (by unfold need fuelN; simp only; omega)
  have hkp:=kp_par fuelN 0 (toks s,-1)
  have hft:=fun t=>full_fits (s:=s) (t:=t) (by omega)
  rw [← full_tm] at hft
  unfold fullR at hres hft
  have ha1:=At.kp (T:=toks s) (st:=(toks s,-1)) ha hkp
  generalize parR fuelN 0 (toks s,-1)=x at *
  obtain ⟨t,st1⟩:=x
  simp only at hres hpr hkp ha1 hft
  simp [hl']<;>(repeat' first|contradiction|exact .ok|apply And.intro|intro _|(refine gc (fun h=>?_) (fun h=>?_)<;>(have h':=h;(try simp at h');first|done|simp[h,h',hl']|simp[hl'])))
  refine acallT_new [] hrd (by simp) (by simp) (by simp) (by simp) (by simp) (by simp) (by simp) ?_
  simp
  (repeat refine ⟨.of (by kernel_rfl),?_⟩)
  refine acallT_hand [13000] hpr (by simp) (by simp) (by simp) (by simp) (by simp) ?_
  simp
  (repeat refine ⟨.of (by kernel_rfl),?_⟩)
  by_cases h5:(hdT st1.1).kd=5
  ·simp only [h5,if_true] at hres hft
   by_cases hb:0≤st1.2
   ·have hb':¬ st1.2<0:=by omega
    rw [if_pos hb] at hres
    simp only at hres
    have htn:((st1.2.toNat:Nat):Int)=st1.2:=by omega
    rw [htn] at hres
    subst hres
    simp [h5,hb,hb']<;>(repeat' first|contradiction|exact .ok|apply And.intro|intro _|(refine gc (fun h=>?_) (fun h=>?_)<;>(have h':=h;(try simp at h');first|done|simp[h,h',h5,hb,hb']|simp[h5,hb,hb'])))
    all_goals simp [zeT,mkT,Tm.c,tmsC]
   ·rw [if_neg hb] at hres
    have hf:=hft t (by rw [if_neg hb])
    have hd:=ups (r_termDepth _ t (Nat.lt_succ_self _) hf)
    simp only at hres
    simp [h5,hb]<;>(repeat' first|contradiction|exact .ok|apply And.intro|intro _|(refine gc (fun h=>?_) (fun h=>?_)<;>(have h':=h;(try simp at h');first|done|simp[h,h',h5,hb]|simp[h5,hb])))
    refine acallT_plain hd (by simp) ?_
    by_cases h24:t.dep≤24
    ·have h24':¬ (24:Int)<t.dep:=by omega
     rw [if_pos h24] at hres
     subst hres
     simp [h24']<;>(repeat' first|contradiction|exact .ok|apply And.intro|intro _|(refine gc (fun h=>?_) (fun h=>?_)<;>(have h':=h;(try simp at h');first|done|simp[h,h',h24']|simp[h24'])))
    ·have h24':(24:Int)<t.dep:=by omega
     rw [if_neg h24] at hres
     subst hres
     simp [h24']<;>(repeat' first|contradiction|exact .ok|apply And.intro|intro _|(refine gc (fun h=>?_) (fun h=>?_)<;>(have h':=h;(try simp at h');first|done|simp[h,h',h24']|simp[h24'])))
     all_goals simp [zeT,mkT,Tm.c,tmsC]
  ·simp only [h5,if_false] at hres hft
   have hfl:=r_fail (s:=s) (by omega) ha1
   have hb2:0≤(rFail st1).2:=by
    unfold rFail
    split
    ·exact Int.natCast_nonneg _
    ·omega
   have k5:(hdT (rFail st1).1).kd=(hdT st1.1).kd:=by unfold rFail; split <;> rfl
   rw [if_pos hb2] at hres
   simp only at hres
   generalize rFail st1=st2 at *
   have htn:((st2.2.toNat:Nat):Int)=st2.2:=by omega
   rw [htn] at hres
   subst hres
   simp only [h5,not_false_eq_true,true_implies,not_true_eq_false,false_implies,and_true]
   refine acallT_hand [13000] hfl (by simp) (by simp) (by simp) (by simp) (by simp) ?_
   simp [hb2]<;>(repeat' first|contradiction|exact .ok|apply And.intro|intro _|(refine gc (fun h=>?_) (fun h=>?_)<;>(have h':=h;(try simp at h');first|done|simp[h,h',hb2]|simp[hb2])))
   all_goals simp [zeT,mkT,Tm.c,tmsC]
 ·rw [if_neg hl] at hres
  have hl':(4000:Int)<(s.length:Int):=by omega
  subst hres
  simp [hl']<;>(repeat' first|contradiction|exact .ok|apply And.intro|intro _|(refine gc (fun h=>?_) (fun h=>?_)<;>(have h':=h;(try simp at h');first|done|simp[h,h',hl']|simp[hl'])))
  all_goals simp [zeT,mkT,Tm.c,tmsC]
theorem ptR_back {x:Tm} (hv:(decide (x.dep≤24)&&x.right)=true) (hl:(wr x).length≤4000):ptR (wr x)=(x,0,0):=by
 simp only [Bool.and_eq_true,decide_eq_true_eq] at hv
 have hr:rgT rsv x=true:=by rw [← words_rsv,← tm_rg]; exact hv.2
 have ht:=toks_len (wr x)
 obtain ⟨e,h1,h2⟩:=wt_back hr (n:=fuelN) (by unfold fuelN; omega)
 unfold ptR full
 rw [if_pos hl,h1]
 simp [hdT,h2,hv.1]
theorem sql_termBack (L:List Int) (x:Tm) (hf:x.fits) (hw:x.wgt≤1099511627776):Cf Es 3 [.d (.sl (L.map fun n=>[.int .i64 n])),x.a] [] (.d (.bool true)) []:=by
 refine cf_intro mixs (fn:=Tryz.f3) (by kernel_rfl) rfl (by kernel_rfl) (by decide) (by simp) ?_
 have hfew:=l_FewTerm x
 have c1:=x.clen
 have k1:=x.ctake
 have k2:=x.ctake'
 cases hq:x.few 0 with
 | false =>
   rw [hq] at hfew
   simp [Tm.a,c1,k1]
   (repeat refine ⟨.of (by kernel_rfl),?_⟩)
   refine acallT_plain hfew (by simp [Tm.a]) ?_
   simp<;>(repeat' first|contradiction|exact .ok|apply And.intro|intro _|(refine gc (fun h=>?_) (fun h=>?_)<;>(have h':=h;(try simp at h');first|done|simp[h,h']|simp)))
 | true =>
 rw [hq] at hfew
 obtain ⟨_,hmk⟩:=t_term L 5 (by omega) 0 (by decide)
 have hmf:=fits_of_few _ (termG L 5 0).1 (Nat.lt_succ_self _) 0 (termG_few L 5 0 0 (by omega))
 have hmw:(termG L 5 0).1.wgt≤1099511627776:=Nat.le_trans (termG_wgt L 5 0) (by decide)
 replace hmk:=ups hmk
 generalize (termG L 5 0).1=z at *
 generalize (termG L 5 0).2=zi at *
 have d1:=z.clen
 have d2:=z.ctake
 have d3:=z.ctake'
 simp [tapB] at hmk
 simp [Tm.a,c1,k1]
 (repeat refine ⟨.of (by kernel_rfl),?_⟩)
 refine acallT_plain hfew (by simp [Tm.a]) ?_
 simp [c1,k1]
 (repeat' (first|contradiction|exact .ok|apply And.intro|intro _|(refine gc (fun h=>?_) (fun h=>?_)<;>(have h':=h;(try simp at h');first|done|simp[h,h',c1,k1]|simp[c1,k1]))))
 refine acallT_hand [20] hmk (by simp) (by simp) (by simp) (by simp) (by simp) ?_
 obtain ⟨two,htwo⟩:∃ two,two=[x,z]:=⟨_,rfl⟩
 have htl:two.length=2:=by rw [htwo]; rfl
 have htm:two.map Tm.c=[x.c,z.c]:=by rw [htwo]; rfl
 have hall:∀ e∈two,e.fits∧e.wgt≤1099511627776:=by
  rw [htwo]
  intro e he
  rcases List.mem_cons.1 he with rfl | he
  ·exact ⟨hf,hw⟩
  ·rw [List.mem_singleton.1 he]; exact ⟨hmf,hmw⟩
 simp [Tm.a,c1,k1,k2,d1,d2,d3]
 (repeat refine ⟨.of (by kernel_rfl),?_⟩)
 refine aloopT mixs (by decide) (fun i:Nat=>{ s:=mkS [(5,.d (.sl (two.map Tm.c))),(6,.d (.int .i64 i))],b:=mkB [] }) (fun i=>i≤2) (fun i=>2 - i) 0 (by simp)
  (sub_mk _ [] .nil (by simp [renOf,htm])) ?_
 rintro i hi
 by_cases hlt:i<2
 ·have hlt':(i:Int)<2:=by omega
  have hwr:=wrap_in (n:=(i:Int)+1) (by omega) (by omega)
  obtain ⟨e,he⟩:∃ e,e=two[i]:=⟨_,rfl⟩
  have hgo:two[i]?=some e:=by rw [he]; exact List.getElem?_eq_getElem (by omega)
  have hge:∀ h,two[i]'h=e:=fun _=>he.symm
  obtain ⟨fe,we⟩:=hall e (by rw [he]; exact List.getElem_mem _)
  have hp:=p_termText e fe we
  have hr:=r_validTerm e fe
  have e1:=e.clen
  have e2:=e.ctake
  have hs:=ups (r_sameTerm _ e e (Nat.lt_succ_self _) fe)
  rw [Tm.eq_self] at hs
  cases hv:(decide (e.dep≤24)&&e.right) with
  | false =>
    rw [hv] at hr
    rw [show ttx e=[] from by unfold ttx; rw [hv]; rfl] at hp
    simp [hlt',hgo,hge,htl,e1,e2]<;>(repeat' first|contradiction|exact .ok|apply And.intro|intro _|(refine gc (fun h=>?_) (fun h=>?_)<;>(have h':=h;(try simp at h');first|done|simp[h,h',hlt',hgo,hge,htl,e1,e2]|simp[hlt',hgo,hge,htl,e1,e2])))
    refine acallT_plain hp (by simp [Tm.a]) ?_
    simp [hlt',hgo,hge,htl,e1,e2]<;>(repeat' first|contradiction|exact .ok|apply And.intro|intro _|(refine gc (fun h=>?_) (fun h=>?_)<;>(have h':=h;(try simp at h');first|done|simp[h,h',hlt',hgo,hge,htl,e1,e2]|simp[hlt',hgo,hge,htl,e1,e2])))
    refine acallT_plain hr (by simp [Tm.a]) ?_
    simp<;>(repeat' first|contradiction|exact .ok|apply And.intro|intro _|(refine gc (fun h=>?_) (fun h=>?_)<;>(have h':=h;(try simp at h');first|done|simp[h,h']|simp)))
    refine ⟨i+1,by omega,?_,by simp only; omega⟩
    exact sub_mk _ [] .nil (by simp [hwr])
  | true =>
    rw [hv] at hr
    rw [show ttx e=wr e from by unfold ttx; rw [hv]; rfl] at hp
    have hb:=@ptR_back e hv
    by_cases hl:(wr e).length≤4000
    ·have hl':¬ (4000:Int)<((wr e).length:Int):=by omega
     have hp1:=p_parseTerm (s:=wr e) (by omega)
     have hr1:=r_parseTerm (s:=wr e) (by omega)
     unfold ptA at hp1 hr1
     rw [hb hl] at hp1 hr1
     simp only at hp1 hr1
     generalize wr e=T at *
     simp [hlt',hgo,hge,htl,e1,e2]<;>(repeat' first|contradiction|exact .ok|apply And.intro|intro _|(refine gc (fun h=>?_) (fun h=>?_)<;>(have h':=h;(try simp at h');first|done|simp[h,h',hlt',hgo,hge,htl,e1,e2]|simp[hlt',hgo,hge,htl,e1,e2])))
     refine acallT_plain hp (by simp [Tm.a]) ?_
     simp [hlt',hgo,hge,htl,e1,e2]<;>(repeat' first|contradiction|exact .ok|apply And.intro|intro _|(refine gc (fun h=>?_) (fun h=>?_)<;>(have h':=h;(try simp at h');first|done|simp[h,h',hlt',hgo,hge,htl,e1,e2]|simp[hlt',hgo,hge,htl,e1,e2])))
     refine acallT_plain hr (by simp [Tm.a]) ?_
     simp [hl']<;>(repeat' first|contradiction|exact .ok|apply And.intro|intro _|(refine gc (fun h=>?_) (fun h=>?_)<;>(have h':=h;(try simp at h');first|done|simp[h,h',hl']|simp[hl'])))
     refine acallT_plain hr1 (by simp) ?_
     simp [e1,e2,Tm.a]<;>(repeat' first|contradiction|exact .ok|apply And.intro|intro _|(refine gc (fun h=>?_) (fun h=>?_)<;>(have h':=h;(try simp at h');first|done|simp[h,h',e1,e2,Tm.a]|simp[e1,e2,Tm.a])))
     refine acallT_plain hp1 (by simp) ?_
     simp [hlt',hgo,hge,htl,e1,e2,Tm.a]<;>(repeat' first|contradiction|exact .ok|apply And.intro|intro _|(refine gc (fun h=>?_) (fun h=>?_)<;>(have h':=h;(try simp at h');first|done|simp[h,h',hlt',hgo,hge,htl,e1,e2,Tm.a]|simp[hlt',hgo,hge,htl,e1,e2,Tm.a])))
     refine acallT_plain hs (by simp [Tm.a]) ?_
     simp [hlt',hgo,hge,htl,e1,e2]<;>(repeat' first|contradiction|exact .ok|apply And.intro|intro _|(refine gc (fun h=>?_) (fun h=>?_)<;>(have h':=h;(try simp at h');first|done|simp[h,h',hlt',hgo,hge,htl,e1,e2]|simp[hlt',hgo,hge,htl,e1,e2])))
     refine acallT_plain hs (by simp [Tm.a]) ?_
     simp<;>(repeat' first|contradiction|exact .ok|apply And.intro|intro _|(refine gc (fun h=>?_) (fun h=>?_)<;>(have h':=h;(try simp at h');first|done|simp[h,h']|simp)))
     refine ⟨i+1,by omega,?_,by simp only; omega⟩
     exact sub_mk _ [] .nil (by simp [hwr])
    ·have hl':(4000:Int)<((wr e).length:Int):=by omega
     generalize wr e=T at *
     simp [hlt',hgo,hge,htl,e1,e2]<;>(repeat' first|contradiction|exact .ok|apply And.intro|intro _|(refine gc (fun h=>?_) (fun h=>?_)<;>(have h':=h;(try simp at h');first|done|simp[h,h',hlt',hgo,hge,htl,e1,e2]|simp[hlt',hgo,hge,htl,e1,e2])))
     refine acallT_plain hp (by simp [Tm.a]) ?_
     simp [hlt',hgo,hge,htl,e1,e2]<;>(repeat' first|contradiction|exact .ok|apply And.intro|intro _|(refine gc (fun h=>?_) (fun h=>?_)<;>(have h':=h;(try simp at h');first|done|simp[h,h',hlt',hgo,hge,htl,e1,e2]|simp[hlt',hgo,hge,htl,e1,e2])))
     refine acallT_plain hr (by simp [Tm.a]) ?_
     simp [hl']<;>(repeat' first|contradiction|exact .ok|apply And.intro|intro _|(refine gc (fun h=>?_) (fun h=>?_)<;>(have h':=h;(try simp at h');first|done|simp[h,h',hl']|simp[hl'])))
     refine ⟨i+1,by omega,?_,by simp only; omega⟩
     exact sub_mk _ [] .nil (by simp [hwr])
 ·obtain rfl:i=2:=by omega
  simp [htl]<;>(repeat' first|contradiction|exact .ok|apply And.intro|intro _|(refine gc (fun h=>?_) (fun h=>?_)<;>(have h':=h;(try simp at h');first|done|simp[h,h',htl]|simp[htl])))
end Go.Proofs.Tryz
