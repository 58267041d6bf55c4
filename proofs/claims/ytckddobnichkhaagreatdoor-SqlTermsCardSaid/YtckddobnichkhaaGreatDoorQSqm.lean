import Derived.Test.YtckddobnichkhaaGreatDoorRpm
import Derived.Test.YtckddobnichkhaaGreatDoorFue
import Derived.Test.YtckddobnichkhaaGreatDoorQPtm
import Derived.Test.YtckddobnichkhaaGreatDoorQRqu
set_option linter.all false
/- The reference reads terms as the plain reader does; its ParseTerm. -/
namespace Go.Proofs.Tryz
open Go.Ab
set_option maxRecDepth 100000
set_option maxHeartbeats 4000000
def fnR:Nat→FuncId
 | 0=>15
 | 1=>26
 | 2=>38
 | 3=>54
 | 4=>67
 | 5=>78
 | 6=>92
 | _=>105
theorem r_par {s:List UInt8} (hs:s.length≤5000):∀ (n lvl:Nat) (st:RS),lvl≤7→At (toks s) st.1→need lvl st.1≤n→Cf Es (fnR lvl) [.ptr 1000000 0 0] [rrB s st] (parR n lvl st).1.a [rrB s (parR n lvl st).2]
 | 0,lvl,st,hv,ha,hn=>by
   have:=List.length_pos_iff.2 ha.ne
   unfold need at hn
   omega
 | n+1,lvl,st,hv,ha,hn=>by
   have hpos:=List.length_pos_iff.2 ha.ne
   have hT:=ha.sfx.length_le
   have hT2:=toks_len s
   have rl:∀ (k L:Nat),k≤7→9*L+8 - k≤n→RuR s L (fnR k) (parR n k):=fun k L hk hL =>
    ⟨fun st' ha' hl'=>r_par hs n k st' hk ha' (by unfold need; omega),kp_par n k⟩
   unfold need at hn
   match lvl,hv,hn with
   | 0,_,hn=>rw [parR]; exact r_term hs (rl 1 st.1.length (by omega) (by omega)) ha (Nat.le_refl _)
   | 1,_,hn=>rw [parR]; exact r_and hs (rl 2 st.1.length (by omega) (by omega)) ha (Nat.le_refl _)
   | 2,_,hn=>rw [parR]; exact r_not hs (L:=st.1.length - 1) (rl 2 _ (by omega) (by omega)) (rl 3 _ (by omega) (by omega)) ha (by omega)
   | 3,_,hn =>
     have e:parR (n+1) 3 st=cprR (parR n 4) (parR n 0) st:=by rw [parR]; rfl
     rw [e]
     exact r_comparison hs (L:=st.1.length - 1) (rl 4 _ (by omega) (by omega)) (rl 0 _ (by omega) (by omega)) (by omega) ha (by omega)
   | 4,_,hn=>rw [parR]; exact r_sum hs (rl 5 st.1.length (by omega) (by omega)) ha (Nat.le_refl _)
   | 5,_,hn=>rw [parR]; exact r_product hs (rl 6 st.1.length (by omega) (by omega)) ha (Nat.le_refl _)
   | 6,_,hn=>exact r_unary hs (L:=st.1.length - 1) (rl 6 _ (by omega) (by omega)) (rl 7 _ (by omega) (by omega)) ha (by omega) (by rw [parR])
   | 7,_,hn =>
     have e:parR (n+1) 7 st=priR (parR n 0) st:=by rw [parR]; rfl
     exact r_primary hs (L:=st.1.length - 1) (rl 0 _ (by omega) (by omega)) ha (by omega) e.symm
   | k+8,hv,_=>omega
theorem toks_head (s:List UInt8):hdT (toks s)=scanT s 0:=by
 have h:=(tokF_chain (s:=s) (s.length+1) 0 (Nat.zero_le _) (by omega)).2
 unfold toks
 cases ht:tokF s (s.length+1) 0 with
 | nil=>rw [ht] at h; cases h
 | cons t r=>rw [ht] at h; exact Option.some.inj h
theorem r_read {s:List UInt8} (hs:s.length≤5000):Cf Es 14 [.d (.str s)] [] (.ptr 1000000 0 0) [rrB s (toks s,-1)]:=by
 have hsc:=r_scan s hs 0 (Nat.zero_le _)
 refine cf_introS mixs (fn:=Tryz.f14) (by kernel_rfl) rfl (by kernel_rfl) (by decide) (by simp) ?_
 simp only [rrB,toks_head]
 generalize scanT s 0=t at *
 simp <;> (repeat' (first | contradiction | exact .of (by kernel_rfl) | refine And.intro ?_ ?_ | intro _ | (refine agrd_cases (fun h=>?_) (fun h=>?_) <;> (have h':=h; (try simp at h'); first | done | simp [h,h'] | simp))))
 refine acallT_plain hsc (by simp) ?_
 simp [rtA,rtC]
 (repeat refine ⟨.of (by kernel_rfl),?_⟩)
 exact EndsS.of [7] _ rfl (by simp; rfl) (by decide) rfl (by refine all_cons ?_ all_nil <;> simp [renOf,Blk.live]) (by simp [renOf])
theorem full_fits {s:List UInt8} (hs:s.length≤5000) {t:Tm} (h:full (parP fuelN 0) s=.ok t):t.fits:=by
 have hl:=toks_len s
 unfold full at h
 cases hp:parP fuelN 0 (toks s) with
 | error p=>rw [hp] at h; cases h
 | ok x =>
   obtain ⟨u,m⟩:=x
   rw [hp] at h
   simp only at h
   split at h
   ·cases h; exact par_fit _ _ _ (by omega) _ m hp
   ·cases h
theorem r_parseTerm {s:List UInt8} (hs:s.length≤1000000):Cf Es 6 [.d (.str s)] [] (ptA s) []:=by
 unfold ptA
 generalize hres:ptR s=res
 unfold ptR at hres
 refine cf_intro mixs (fn:=Tryz.f6) (by kernel_rfl) rfl (by kernel_rfl) (by decide) (by simp) ?_
 by_cases hl:s.length≤4000
 ·rw [if_pos hl,← full_tm] at hres
  have hl':¬ (4000:Int)<(s.length:Int):=by omega
  have hrd:=r_read (s:=s) (by omega)
  have ha:At (toks s) (toks s):=⟨List.suffix_refl _,toks_okE s⟩
  have hlen:=toks_len s
  have hpr:=r_par (s:=s) (by omega) fuelN 0 (toks s,-1) (by decide) ha (by unfold need fuelN; simp only; omega)
  have hkp:=kp_par fuelN 0 (toks s,-1)
  have hft:=fun t=>full_fits (s:=s) (t:=t) (by omega)
  rw [← full_tm] at hft
  unfold fullR at hres hft
  have ha1:=At.kp (T:=toks s) (st:=(toks s,-1)) ha hkp
  generalize parR fuelN 0 (toks s,-1)=x at *
  obtain ⟨t,st1⟩:=x
  simp only at hres hpr hkp ha1 hft
  simp [hl'] <;> (repeat' (first | contradiction | exact .of (by kernel_rfl) | refine And.intro ?_ ?_ | intro _ | (refine agrd_cases (fun h=>?_) (fun h=>?_) <;> (have h':=h; (try simp at h'); first | done | simp [h,h',hl'] | simp [hl']))))
  refine acallT_new [] hrd (by simp) (by simp) (by simp) (by simp) (by simp) (by simp) (by simp) ?_
  simp
  (repeat refine ⟨.of (by kernel_rfl),?_⟩)
  refine acallT_hand [13000] hpr (by simp) (by simp) (by simp) (by simp) (by simp) ?_
  simp
  (repeat refine ⟨.of (by kernel_rfl),?_⟩)
  by_cases h5:(hdT st1.1).kd=5
  ·simp only [h5,if_true] at hres hft
   by_cases hb:0≤st1.2
   ·have hb':¬ st1.2<0:=by omega
    rw [if_pos hb] at hres
    simp only at hres
    have htn:((st1.2.toNat:Nat):Int)=st1.2:=by omega
    rw [htn] at hres
    subst hres
    simp [h5,hb,hb'] <;> (repeat' (first | contradiction | exact .of (by kernel_rfl) | refine And.intro ?_ ?_ | intro _ | (refine agrd_cases (fun h=>?_) (fun h=>?_) <;> (have h':=h; (try simp at h'); first | done | simp [h,h',h5,hb,hb'] | simp [h5,hb,hb']))))
    all_goals simp [zeT,mkT,Tm.c,tmsC]
   ·rw [if_neg hb] at hres
    have hf:=hft t (by rw [if_neg hb])
    have hd:=ups (r_termDepth _ t (Nat.lt_succ_self _) hf)
    simp only at hres
    simp [h5,hb] <;> (repeat' (first | contradiction | exact .of (by kernel_rfl) | refine And.intro ?_ ?_ | intro _ | (refine agrd_cases (fun h=>?_) (fun h=>?_) <;> (have h':=h; (try simp at h'); first | done | simp [h,h',h5,hb] | simp [h5,hb]))))
    refine acallT_plain hd (by simp) ?_
    by_cases h24:t.dep≤24
    ·have h24':¬ (24:Int)<t.dep:=by omega
     rw [if_pos h24] at hres
     subst hres
     simp [h24'] <;> (repeat' (first | contradiction | exact .of (by kernel_rfl) | refine And.intro ?_ ?_ | intro _ | (refine agrd_cases (fun h=>?_) (fun h=>?_) <;> (have h':=h; (try simp at h'); first | done | simp [h,h',h24'] | simp [h24']))))
    ·have h24':(24:Int)<t.dep:=by omega
     rw [if_neg h24] at hres
     subst hres
     simp [h24'] <;> (repeat' (first | contradiction | exact .of (by kernel_rfl) | refine And.intro ?_ ?_ | intro _ | (refine agrd_cases (fun h=>?_) (fun h=>?_) <;> (have h':=h; (try simp at h'); first | done | simp [h,h',h24'] | simp [h24']))))
     all_goals simp [zeT,mkT,Tm.c,tmsC]
  ·simp only [h5,if_false] at hres hft
   have hfl:=r_fail (s:=s) (by omega) ha1
   have hb2:0≤(rFail st1).2:=by
    unfold rFail
    split
    ·exact Int.natCast_nonneg _
    ·omega
   have k5:(hdT (rFail st1).1).kd=(hdT st1.1).kd:=by unfold rFail; split <;> rfl
   rw [if_pos hb2] at hres
   simp only at hres
   generalize rFail st1=st2 at *
   have htn:((st2.2.toNat:Nat):Int)=st2.2:=by omega
   rw [htn] at hres
   subst hres
   simp only [h5,not_false_eq_true,true_implies,not_true_eq_false,false_implies,and_true]
   refine acallT_hand [13000] hfl (by simp) (by simp) (by simp) (by simp) (by simp) ?_
   simp [hb2] <;> (repeat' (first | contradiction | exact .of (by kernel_rfl) | refine And.intro ?_ ?_ | intro _ | (refine agrd_cases (fun h=>?_) (fun h=>?_) <;> (have h':=h; (try simp at h'); first | done | simp [h,h',hb2] | simp [hb2]))))
   all_goals simp [zeT,mkT,Tm.c,tmsC]
 ·rw [if_neg hl] at hres
  have hl':(4000:Int)<(s.length:Int):=by omega
  subst hres
  simp [hl'] <;> (repeat' (first | contradiction | exact .of (by kernel_rfl) | refine And.intro ?_ ?_ | intro _ | (refine agrd_cases (fun h=>?_) (fun h=>?_) <;> (have h':=h; (try simp at h'); first | done | simp [h,h',hl'] | simp [hl']))))
  all_goals simp [zeT,mkT,Tm.c,tmsC]
end Go.Proofs.Tryz
/- SqlTerms: the words, the text that is made of them, the law. -/
namespace Go.Proofs.Tryz
open Go.Ab
set_option maxRecDepth 100000
set_option maxHeartbeats 4000000
def mdW:List (List UInt8):=[[115,101,108,101,99,116],[97],[102,114,111,109],[116],[119,104,101,114,101],[49],[61],[40],[41],[44],[42],[97,115],[97,110,100],[111,114],[110,111,116],[105,115],[110,117,108,108],[116,114,117,101],[106,111,105,110],[111,110],[108,101,102,116],[99,114,111,115,115],[103,114,111,117,112],[98,121],[104,97,118,105,110,103],[99,111,117,110,116],[115,117,109],[100,105,115,116,105,110,99,116],[117,110,105,111,110],[97,108,108],[101,120,99,101,112,116],[39,120,39],[45],[43],[48],[105,110],[99,97,115,101],[119,104,101,110],[116,104,101,110],[101,108,115,101],[101,110,100],[46],[124,124],[60,62],[60,61],[108,101,110,103,116,104],[99,111,97,108,101,115,99,101],[105,110,116],[109,111,100],[115,97,109,101],[98],[39,39],[115,101,109,105],[105,110,116,101,114,115,101,99,116],[102,97,108,115,101],[47],[60],[109,105,110],[48,48,55],[39],[63],[65],[97,98,99,100,101,102,103,104,105,106,107,108,109,110,111,112,113],[49,48,48,48,48,48,48,48,48,48,48,48,49]]
theorem p_words:Cf En 8 [] [] (.d (.sl (mdW.map fun w=>[.str w]))) []:=by
 refine cf_intro mix (fn:=Tryz.f8) (by kernel_rfl) rfl (by kernel_rfl) (by decide) (by simp) ?_
 simp
 (repeat' (first | contradiction | exact .of (by kernel_rfl) | refine And.intro ?_ ?_ | intro _ | (refine agrd_cases (fun h=>?_) (fun h=>?_) <;> (have h':=h; (try simp at h'); first | done | simp [h,h'] | simp))))
 all_goals simp [mdW]
def mdS (L:List Int):Nat→Nat→List UInt8→List UInt8
 | 0,_,out=>out
 | k+1,j,out=>mdS L k (j+2) (out++(mdW[(nextV L j 64).toNat]?).getD []++(if 0<nextV L (j+1) 4 then [32] else []))
theorem mdW_len:∀ w∈mdW,w.length≤20:=by decide
theorem mdW_get (n:Nat):((mdW[n]?).getD []).length≤20:=by
 cases h:mdW[n]? with
 | none=>simp
 | some w=>exact mdW_len w (List.mem_of_getElem? h)
theorem mdS_len (L:List Int):∀ (k j:Nat) (out:List UInt8),(mdS L k j out).length≤out.length+21*k
 | 0,_,out=>by simp [mdS]
 | k+1,j,out=>by
   rw [mdS]
   have h:=mdS_len L k (j+2) (out++(mdW[(nextV L j 64).toNat]?).getD []++(if 0<nextV L (j+1) 4 then [32] else []))
   have h1:=mdW_get (nextV L j 64).toNat
   have h2:(if 0<nextV L (j+1) 4 then [32] else ([]:List UInt8)).length≤1:=by split <;> simp
   simp only [List.length_append] at h
   omega
def mdT (L:List Int):List UInt8:=mdS L (min L.length 60) 0 []
theorem p_made5 (L:List Int):Cf En 4 [.d (.sl (L.map fun n=>[.int .i64 n]))] [] (.d (.str (mdT L))) []:=by
 generalize hres:mdT L=res
 unfold mdT at hres
 refine cf_intro mix (fn:=Tryz.f4) (by kernel_rfl) rfl (by kernel_rfl) (by decide) (by simp) ?_
 simp
 (repeat refine ⟨.of (by kernel_rfl),?_⟩)
 refine acallT_plain p_words (by simp) ?_
 obtain ⟨W,hW⟩:∃ W,W=mdW:=⟨_,rfl⟩
 have hWl:W.length=64:=by rw [hW]; rfl
 rw [← hW]
 simp
 (repeat refine ⟨.of (by kernel_rfl),?_⟩)
 refine aloopT mix (by decide) (fun y:Nat×List UInt8=>{ s:=mkS [(0,.d (.sl (L.map fun n=>[.int .i64 n]))),(3,.ptr 9 0 0),(4,.d (.sl (W.map fun w=>[.str w]))),(5,.d (.str y.2)),(6,.d (.int .i64 y.1))],b:=mkB [(9,9,tapB L ((2*y.1:Nat):Int))] })
  (fun y=>y.1≤L.length∧y.1≤60∧y.2.length≤21*y.1∧mdS L (min L.length 60 - y.1) (2*y.1) y.2=res) (fun y=>60 - y.1) (0,[]) ⟨by simp,by simp,by simp,by simpa using hres⟩
  (sub_mk _ [(9,9,_)] ⟨by simp,by simp,by simp [renOf,Blk.live,tapB],by simp⟩ (by simp [renOf])) ?_
 rintro ⟨i,out⟩ ⟨hi,hi60,hol,hr⟩
 simp only at hi hi60 hol hr
 by_cases hlt:i<min L.length 60
 ·have h1:(i:Int)<(L.length:Int):=by omega
  have h2:(i:Int)<60:=by omega
  obtain ⟨k,hk⟩:∃ k,min L.length 60 - i=k+1:=⟨min L.length 60 - i - 1,by omega⟩
  rw [hk,mdS] at hr
  have n1:=t_next L (2*i) (by omega) 64 (by decide)
  have n2:=t_next L (2*i+1) (by omega) 4 (by decide)
  have v1:=nextV_in L (2*i) (n:=64) (by decide)
  rw [show nextI (2*i) 64=2*i+1 from rfl] at n1
  rw [show nextI (2*i+1) 4=2*(i+1) from rfl] at n2
  obtain ⟨z,hz⟩:∃ z:Nat,nextV L (2*i) 64=z:=⟨(nextV L (2*i) 64).toNat,by omega⟩
  rw [hz] at n1 v1 hr
  simp only [Int.toNat_natCast] at hr
  have hzW:z<W.length:=by omega
  obtain ⟨wd,hwd⟩:∃ wd,wd=W[z]:=⟨_,rfl⟩
  have hge:∀ h,W[z]'h=wd:=fun _=>hwd.symm
  have hgz:(mdW[z]?).getD []=wd:=by rw [← hW,List.getElem?_eq_getElem hzW,← hwd]; rfl
  have hwl:wd.length≤20:=by rw [hwd]; exact mdW_len _ (by rw [← hW]; exact List.getElem_mem hzW)
  have hzI:(z:Int)<64:=by omega
  rw [hgz] at hr
  have hwr:=wrap_in (n:=(i:Int)+1) (by omega) (by omega)
  have a1:out.length+wd.length≤9223372036854775807:=by omega
  have a2:out.length+wd.length+1≤9223372036854775807:=by omega
  simp [tapB] at n1 n2
  simp [h1,h2,hWl,tapB]
  (repeat refine ⟨.of (by kernel_rfl),?_⟩)
  refine acallT_hand [9] n1 (by simp) (by simp) (by simp) (by simp) (by simp) ?_
  have hgo:W[z]?=some wd:=by rw [List.getElem?_eq_getElem hzW,← hwd]
  simp [hgo,a1,hWl,hzI,v1.1]
  (repeat refine ⟨.of (by kernel_rfl),?_⟩)
  refine acallT_hand [9] n2 (by simp) (by simp) (by simp) (by simp) (by simp) ?_
  by_cases hp:0<nextV L (2*i+1) 4
  ·rw [if_pos hp] at hr
   simp [hp,a2]
   (repeat refine ⟨.of (by kernel_rfl),?_⟩)
   refine ⟨(i+1,out++wd++[32]),⟨by simp only; omega,by simp only; omega,by simp; omega,?_⟩,?_,by simp only; omega⟩
   ·simp only
    rw [show min L.length 60 - (i+1)=k from by omega]
    exact hr
   exact sub_mk _ [(9,9,_)] ⟨by simp,by simp,by simp [renOf,Blk.live,tapB],by simp⟩ (by simp [renOf,hwr])
  ·rw [if_neg hp,List.append_nil] at hr
   simp [hp]
   (repeat refine ⟨.of (by kernel_rfl),?_⟩)
   refine ⟨(i+1,out++wd),⟨by simp only; omega,by simp only; omega,by simp; omega,?_⟩,?_,by simp only; omega⟩
   ·simp only
    rw [show min L.length 60 - (i+1)=k from by omega]
    exact hr
   exact sub_mk _ [(9,9,_)] ⟨by simp,by simp,by simp [renOf,Blk.live,tapB],by simp⟩ (by simp [renOf,hwr])
 ·have hkn:min L.length 60 - i=0:=by omega
  rw [hkn,mdS] at hr
  subst hr
  by_cases h1:(i:Int)<(L.length:Int)
  ·have h2:¬ (i:Int)<60:=by omega
   simp [h1,h2] <;> (repeat' (first | contradiction | exact .of (by kernel_rfl) | refine And.intro ?_ ?_ | intro _ | (refine agrd_cases (fun h=>?_) (fun h=>?_) <;> (have h':=h; (try simp at h'); first | done | simp [h,h',h1,h2] | simp [h1,h2]))))
  ·simp [h1] <;> (repeat' (first | contradiction | exact .of (by kernel_rfl) | refine And.intro ?_ ?_ | intro _ | (refine agrd_cases (fun h=>?_) (fun h=>?_) <;> (have h':=h; (try simp at h'); first | done | simp [h,h',h1] | simp [h1]))))
theorem ptR_fits {s:List UInt8}:(ptR s).1.fits:=by
 have hz:zeT.fits:=fits_mkT fits0
 unfold ptR
 by_cases hl:s.length≤4000
 ·rw [if_pos hl]
  cases hf:full (parP fuelN 0) s with
  | error p=>exact hz
  | ok t =>
    simp only
    split
    ·exact full_fits (by omega) hf
    ·exact hz
 ·rw [if_neg hl]; exact hz
theorem sql_terms (L:List Int) (text:List UInt8):Cf Es 3 [.d (.sl (L.map fun n=>[.int .i64 n])),.d (.str text)] [] (.d (.bool true)) []:=by
 refine cf_intro mixs (fn:=Tryz.f3) (by kernel_rfl) rfl (by kernel_rfl) (by decide) (by simp) ?_
 by_cases hl:text.length≤5000
 ·have hl':¬ (5000:Int)<(text.length:Int):=by omega
  have hmd:=ups (p_made5 L)
  have hml:=mdS_len L (min L.length 60) 0 []
  have hml2:(mdT L).length≤5000:=by
   show (mdS L (min L.length 60) 0 []).length≤5000
   simp only [List.length_nil] at hml
   omega
  obtain ⟨two,htwo⟩:∃ two,two=[text,mdT L]:=⟨_,rfl⟩
  have htl:two.length=2:=by rw [htwo]; rfl
  have htm:two.map (fun w=>[D.str w])=[[.str text],[.str (mdT L)]]:=by rw [htwo]; rfl
  have hlen:∀ x∈two,x.length≤5000:=by
   rw [htwo]
   intro x hx
   rcases List.mem_cons.1 hx with rfl | hx
   ·exact hl
   ·rw [List.mem_singleton.1 hx]; exact hml2
  simp [hl'] <;> (repeat' (first | contradiction | exact .of (by kernel_rfl) | refine And.intro ?_ ?_ | intro _ | (refine agrd_cases (fun h=>?_) (fun h=>?_) <;> (have h':=h; (try simp at h'); first | done | simp [h,h',hl'] | simp [hl']))))
  refine acallT_plain hmd (by simp) ?_
  generalize mdT L=M at *
  simp
  (repeat refine ⟨.of (by kernel_rfl),?_⟩)
  refine aloopT mixs (by decide) (fun i:Nat=>{ s:=mkS [(5,.d (.sl (two.map fun w=>[.str w]))),(6,.d (.int .i64 i))],b:=mkB [] }) (fun i=>i≤2) (fun i=>2 - i) 0 (by simp)
   (sub_mk _ [] .nil (by simp [renOf,htm])) ?_
  rintro i hi
  by_cases hlt:i<2
  ·have hlt':(i:Int)<2:=by omega
   have hwr:=wrap_in (n:=(i:Int)+1) (by omega) (by omega)
   obtain ⟨e,he⟩:∃ e,e=two[i]:=⟨_,rfl⟩
   have hgo:two[i]?=some e:=by rw [he]; exact List.getElem?_eq_getElem (by omega)
   have hel:e.length≤5000:=hlen e (by rw [he]; exact List.getElem_mem _)
   have hp:=p_parseTerm (s:=e) (by omega)
   have hr:=r_parseTerm (s:=e) (by omega)
   have hs:=ups (r_sameTerm _ (ptR e).1 (ptR e).1 (Nat.lt_succ_self _) ptR_fits)
   rw [Tm.eq_self] at hs
   unfold ptA at hp hr
   generalize ptR e=R at *
   obtain ⟨t,n,er⟩:=R
   simp only at hp hr hs
   simp [hlt',hgo,htl] <;> (repeat' (first | contradiction | exact .of (by kernel_rfl) | refine And.intro ?_ ?_ | intro _ | (refine agrd_cases (fun h=>?_) (fun h=>?_) <;> (have h':=h; (try simp at h'); first | done | simp [h,h',hlt',hgo,htl] | simp [hlt',hgo,htl]))))
   refine acallT_plain hp (by simp) ?_
   simp [hlt',hgo,htl] <;> (repeat' (first | contradiction | exact .of (by kernel_rfl) | refine And.intro ?_ ?_ | intro _ | (refine agrd_cases (fun h=>?_) (fun h=>?_) <;> (have h':=h; (try simp at h'); first | done | simp [h,h',hlt',hgo,htl] | simp [hlt',hgo,htl]))))
   refine acallT_plain hr (by simp) ?_
   simp <;> (repeat' (first | contradiction | exact .of (by kernel_rfl) | refine And.intro ?_ ?_ | intro _ | (refine agrd_cases (fun h=>?_) (fun h=>?_) <;> (have h':=h; (try simp at h'); first | done | simp [h,h'] | simp))))
   refine acallT_plain hs (by simp) ?_
   simp <;> (repeat' (first | contradiction | exact .of (by kernel_rfl) | refine And.intro ?_ ?_ | intro _ | (refine agrd_cases (fun h=>?_) (fun h=>?_) <;> (have h':=h; (try simp at h'); first | done | simp [h,h'] | simp))))
   refine ⟨i+1,by omega,?_,by simp only; omega⟩
   exact sub_mk _ [] .nil (by simp [hwr])
  ·obtain rfl:i=2:=by omega
   simp [htl] <;> (repeat' (first | contradiction | exact .of (by kernel_rfl) | refine And.intro ?_ ?_ | intro _ | (refine agrd_cases (fun h=>?_) (fun h=>?_) <;> (have h':=h; (try simp at h'); first | done | simp [h,h',htl] | simp [htl]))))
 ·have hl':(5000:Int)<(text.length:Int):=by omega
  simp [hl'] <;> (repeat' (first | contradiction | exact .of (by kernel_rfl) | refine And.intro ?_ ?_ | intro _ | (refine agrd_cases (fun h=>?_) (fun h=>?_) <;> (have h':=h; (try simp at h'); first | done | simp [h,h',hl'] | simp [hl']))))
end Go.Proofs.Tryz
