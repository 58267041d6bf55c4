import Derived.Test.YthpmjipkofbeiaaGreatDoorTFdx
import Derived.Test.YthpmjipkofbeiaaGreatDoorPre
import Derived.Test.YthpmjipkofbeiaaGreatDoorLif
import Derived.Test.YthpmjipkofbeiaaGreatDoorTFus
import Derived.Test.YthpmjipkofbeiaaGreatDoorAbB
import Derived.Lib.SmallJoins
import Derived.LaidMore
import Derived.ChangeMaps5
import Derived.Stop.Joined
import Derived.HandedShaped
import Derived.Shelf.Vars
import Derived.SevenTiedAt
import Derived.Test.YthpmjipkofbeiaaGreatDoorRows
import Derived.Test.YthpmjipkofbeiaaGreatDoorChecked
import Derived.Test.YthpmjipkofbeiaaGreatDoorTie
import Derived.Test.YthpmjipkofbeiaaGreatDoorCards
set_option linter.all false
namespace Go.Proofs.Tryz
open Go.Ab
set_option maxRecDepth 100000
theorem most_step {l:List Int} {i:Nat} {x:Int} (h:l[i]?=some x):(if most (l.take i)<x then x else most (l.take i))=most (l.take (i+1)):=by
 rw [most_take h]
 split <;> omega
theorem most_all {l:List Int} {i:Nat} (h:l.length≤i):most (l.take i)=most l:=by rw [List.take_of_length_le h]
theorem s_termDepth:∀ (m:Nat) (x:Tm),SizeOf.sizeOf x<m→x.fits→Cf En 32 [x.a] [] (.d (.int .i64 x.dep)) []
 | 0,_,h,_=>absurd h (by omega)
 | m+1,.mk o y n t q ks,hm,hfit=>by
   refine cf_intro mix (fn:=Tryz.f32) (by kernel_rfl) rfl (by kernel_rfl) (by decide) (by simp) ?_
   rw [Tm.fits] at hfit
   have hq:=fun (x:Tm) (hx:x∈ks)=>s_termDepth m x (by
    have:=Tm.kid_lt (e:=.mk o y n t q ks) (k:=x) hx
    omega) (tmsFits_get ks hfit.2 x hx)
   have hl:=hfit.1
   rw [Tm.dep,tmsDep_most]
   simp [Tm.a,Tm.c,tmsC_map]
   refine ⟨.of (by kernel_rfl),.of (by kernel_rfl),.of (by kernel_rfl),?_⟩
   refine aloopT mix (by decide) (fun i:Nat=>{ s:=mkS [(1,.ptr 1 0 0),(3,.d (.int .i64 (most ((ks.map Tm.dep).take i)))),(7,.d (.sl (ks.map Tm.c))),(8,.d (.int .i64 ks.length)),(9,.d (.int .i64 i))],b:=mkB [(1,1,.var (Tm.a (.mk o y n t q ks)).cells)] }) (fun i:Nat=>i≤ks.length) (fun i=>ks.length - i) 0 (by simp) (sub_mk _ _ ⟨by simp,by simp,by simp [renOf,Blk.live,Tm.a,Tm.c,tmsC_map],by simp⟩ (by simp [renOf,most])) ?_
   rintro i hi
   by_cases hlt:i<ks.length
   ·have hlt':(i:Int)<ks.length:=by omega
    have hg:ks[i]?=some ks[i]:=List.getElem?_eq_getElem hlt
    have hk:=most_step (l:=ks.map Tm.dep) (i:=i) (x:=ks[i].dep) (by rw [List.getElem?_map,hg]; rfl)
    have c1:=Tm.clen ks[i]
    have k1:=Tm.ctake ks[i]
    simp [Tm.a,Tm.c,tmsC_map,hlt,hlt',hg,c1,k1]
    refine ⟨.of (by kernel_rfl),.of (by kernel_rfl),?_⟩
    refine acallT_plain (hq ks[i] (List.getElem_mem hlt)) (by simp [Tm.a]) ?_
    simp
    refine ⟨.of (by kernel_rfl),.of (by kernel_rfl),i+1,hlt,?_,?_⟩
    ·refine sub_mk _ [(1,1,_)] ⟨by simp,by simp,by simp [renOf,Blk.live,Tm.a,Tm.c,tmsC_map],by simp⟩ ?_
     simp [renOf]
     exact ⟨hk,wrap_in (by omega) (by omega)⟩
    ·simp; omega
   ·have hlt':¬ (i:Int)<ks.length:=by omega
    have hall:=most_all (l:=ks.map Tm.dep) (i:=i) (by simp; omega)
    simp [Tm.a,Tm.c,tmsC_map,hlt,hlt',up1,hall]
    exact ⟨.of (by kernel_rfl),.of (by kernel_rfl)⟩
theorem r_termDepth:∀ (m:Nat) (x:Tm),SizeOf.sizeOf x<m→x.fits→Cf En 25 [x.a] [] (.d (.int .i64 x.dep)) []
 | 0,_,h,_=>absurd h (by omega)
 | m+1,.mk o y n t q ks,hm,hfit=>by
   refine cf_intro mix (fn:=Tryz.f25) (by kernel_rfl) rfl (by kernel_rfl) (by decide) (by simp) ?_
   rw [Tm.fits] at hfit
   have hq:=fun (x:Tm) (hx:x∈ks)=>r_termDepth m x (by
    have:=Tm.kid_lt (e:=.mk o y n t q ks) (k:=x) hx
    omega) (tmsFits_get ks hfit.2 x hx)
   have hl:=hfit.1
   rw [Tm.dep,tmsDep_most]
   simp [Tm.a,Tm.c,tmsC_map]
   refine ⟨.of (by kernel_rfl),.of (by kernel_rfl),.of (by kernel_rfl),?_⟩
   refine aloopT mix (by decide) (fun i:Nat=>{ s:=mkS [(1,.ptr 1 0 0),(3,.d (.int .i64 (most ((ks.map Tm.dep).take i)))),(4,.d (.int .i64 i))],b:=mkB [(1,1,.var (Tm.a (.mk o y n t q ks)).cells)] }) (fun i:Nat=>i≤ks.length) (fun i=>ks.length - i) 0 (by simp) (sub_mk _ _ ⟨by simp,by simp,by simp [renOf,Blk.live,Tm.a,Tm.c,tmsC_map],by simp⟩ (by simp [renOf,most])) ?_
   rintro i hi
   by_cases hlt:i<ks.length
   ·have hlt':(i:Int)<ks.length:=by omega
    have hg:ks[i]?=some ks[i]:=List.getElem?_eq_getElem hlt
    have hk:=most_step (l:=ks.map Tm.dep) (i:=i) (x:=ks[i].dep) (by rw [List.getElem?_map,hg]; rfl)
    have c1:=Tm.clen ks[i]
    have k1:=Tm.ctake ks[i]
    simp [Tm.a,Tm.c,tmsC_map,hlt,hlt',hg,c1,k1]
    refine ⟨.of (by kernel_rfl),?_⟩
    refine acallT_plain (hq ks[i] (List.getElem_mem hlt)) (by simp [Tm.a]) ?_
    simp
    refine ⟨.of (by kernel_rfl),.of (by kernel_rfl),i+1,hlt,?_,?_⟩
    ·refine sub_mk _ [(1,1,_)] ⟨by simp,by simp,by simp [renOf,Blk.live,Tm.a,Tm.c,tmsC_map],by simp⟩ ?_
     simp [renOf]
     exact ⟨hk,wrap_in (by omega) (by omega)⟩
    ·simp; omega
   ·have hlt':¬ (i:Int)<ks.length:=by omega
    have hall:=most_all (l:=ks.map Tm.dep) (i:=i) (by simp; omega)
    simp [Tm.a,Tm.c,tmsC_map,hlt,hlt',up1,hall]
    exact ⟨.of (by kernel_rfl),.of (by kernel_rfl)⟩

theorem r_sameTerms (a b:List Tm) (hn:a.length≤9223372036854775807) (h:∀ x∈a,∀ y∈b,Cf En 11 [x.a,y.a] [] (.d (.bool (x.eq y))) []) :
  Cf En 33 [.d (.sl (a.map Tm.c)),.d (.sl (b.map Tm.c))] [] (.d (.bool (agree Tm.eq a b))) []:=by
 refine cf_intro mix (fn:=Tryz.f33) (by kernel_rfl) rfl (by kernel_rfl) (by decide) (by simp) ?_
 by_cases hl:a.length=b.length
 ·have hl':(a.length:Int)=b.length:=by omega
  generalize hres:agree Tm.eq a b=res
  simp [hl,hl']
  refine ⟨.of (by kernel_rfl),.of (by kernel_rfl),.of (by kernel_rfl),?_⟩
  refine aloopT mix (by decide) (fun i:Nat=>{ s:=mkS [(0,.d (.sl (a.map Tm.c))),(1,.d (.sl (b.map Tm.c))),(5,.d (.int .i64 i))],b:=mkB [] }) (fun i:Nat=>i≤b.length∧agree Tm.eq (a.drop i) (b.drop i)=res) (fun i=>b.length - i) 0 (by simp [hres]) (sub_mk _ [] .nil (by simp)) ?_
  rintro i ⟨hi,ho⟩
  by_cases hlt:i<b.length
  ·have hlt':(i:Int)<b.length:=by omega
   have hla:i<a.length:=by omega
   have hg:a[i]?=some a[i]:=List.getElem?_eq_getElem hla
   have hg2:b[i]?=some b[i]:=List.getElem?_eq_getElem hlt
   have hd:=agree_drop (f:=Tm.eq) hg hg2
   have c1:=Tm.clen a[i]
   have c2:=Tm.clen b[i]
   have k1:=Tm.ctake a[i]
   have k2:=Tm.ctake b[i]
   simp [hl,hlt,hlt',hla,hg,hg2,c1,c2,k1,k2]
   refine ⟨.of (by kernel_rfl),?_⟩
   refine acallT_plain (h a[i] (List.getElem_mem hla) b[i] (List.getElem_mem hlt)) (by simp [Tm.a]) ?_
   simp
   refine ⟨.of (by kernel_rfl),fun h=>⟨.of (by kernel_rfl),?_⟩,fun h=>⟨.of (by kernel_rfl),i+1,⟨hlt,?_⟩,?_,?_⟩⟩
   ·rw [← ho,hd,h]; rfl
   ·rw [← ho,hd,h]; rfl
   ·refine sub_mk _ [] .nil ?_
    simp
    exact wrap_in (by omega) (by omega)
   ·simp; omega
  ·have hlt':¬ (i:Int)<b.length:=by omega
   simp [hl,hlt,hlt']
   refine ⟨.of (by kernel_rfl),.of (by kernel_rfl),?_⟩
   rw [← ho,agree_end (by omega) (by omega)]
 ·have hl':¬ (a.length:Int)=b.length:=by omega
  rw [agree_len a b hl]
  simp [hl,hl']
  exact ⟨.of (by kernel_rfl),.of (by kernel_rfl),.of (by kernel_rfl)⟩
theorem r_sameTerm:∀ (m:Nat) (x y:Tm),SizeOf.sizeOf x<m→x.fits→Cf En 11 [x.a,y.a] [] (.d (.bool (x.eq y))) []
 | 0,_,_,h,_=>absurd h (by omega)
 | m+1,.mk o y n t q ks,.mk o' y' n' t' q' ks',hm,hfit=>by
   refine cf_intro mix (fn:=Tryz.f11) (by kernel_rfl) rfl (by kernel_rfl) (by decide) (by simp) ?_
   rw [Tm.fits] at hfit
   have hq:=r_sameTerms ks ks' hfit.1 fun x hx z _=>r_sameTerm m x z (by
    have:=Tm.kid_lt (e:=.mk o y n t q ks) (k:=x) hx
    omega) (tmsFits_get ks hfit.2 x hx)
   rw [Tm.eq,tmsEq_agree]
   simp [Tm.a,Tm.c,tmsC_map]
   (repeat' (first|contradiction|exact .ok|apply And.intro|intro _|(refine gc (fun h=>?_) (fun h=>?_)<;>(have h':=h;(try simp at h');first|done|simp[h,h']|simp))))
   all_goals first | (refine acallT_plain hq (by simp) ?_; simp; (repeat' (first | contradiction | exact .of (by kernel_rfl) | refine And.intro ?_ ?_ | intro _ | (refine agrd_cases (fun h=>?_) (fun h=>?_) <;> (have h':=h; (try simp at h'); first | done | simp [h,h'] | simp))))) | skip
   all_goals simp_all
def Kp (st st':RS):Prop:=st'.1 <:+ st.1∧(okE st.1→okE st'.1)
theorem Kp.refl (st:RS):Kp st st:=⟨List.suffix_refl _,id⟩
theorem Kp.trans {a b c:RS} (h:Kp a b) (h':Kp b c):Kp a c:=⟨h'.1.trans h.1,fun e=>h'.2 (h.2 e)⟩
theorem okE.tlE {l:List Tk} (h:okE l) (he:(hdT l).ends=false):okE l.tail:=by
 cases l with
 | nil=>exact absurd rfl h.ne
 | cons t r=>exact h.cons he
theorem kp_next {st:RS} (he:(hdT st.1).ends=false):Kp st (rNext st):=by
 unfold rNext
 split
 ·exact ⟨tail_sfx _,fun h=>h.tlE he⟩
 ·exact .refl st
theorem kp_fail (st:RS):Kp st (rFail st):=by
 unfold rFail
 split <;> exact .refl _
theorem isW_end {w:List UInt8} {l:List Tk} (h:isW w l=true):(hdT l).ends=false:=by
 cases l with
 | nil=>cases h
 | cons t r =>
   simp only [isW,Bool.and_eq_true,Bool.or_eq_true,beq_iff_eq] at h
   exact ends_kd (by simp only [hdT]; omega) (by simp only [hdT]; omega)
theorem rIs_W {w:List UInt8} {st:RS} (h:rIs w st=true):st.2<0∧isW w st.1=true:=by
 unfold rIs at h
 simpa using h
theorem kp_is {w:List UInt8} {st:RS} (h:rIs w st=true):Kp st (rNext st):=kp_next (isW_end (rIs_W h).2)
theorem kp_want (w:List UInt8) (st:RS):Kp st (rWant w st):=by
 unfold rWant
 split
 ·rename_i h; exact kp_is h
 ·exact kp_fail st
theorem rOne_W {ws:List (List UInt8)} {st:RS} {i:Nat} (h:rOne ws st=some i):st.2<0∧oneOf ws st.1=some i:=by
 unfold rOne at h
 split at h
 ·rename_i hb; exact ⟨hb,h⟩
 ·cases h
theorem kp_one {ws:List (List UInt8)} {st:RS} {i:Nat} (h:rOne ws st=some i):Kp st (rNext st):=by
 obtain ⟨w,hw⟩:=one_w (rOne_W h).2
 exact kp_next (isW_end hw)
theorem rNamed_kd {st:RS} (h:rNamed st=true):st.2<0∧(hdT st.1).kd=1:=by
 unfold rNamed at h
 simp only [Bool.and_eq_true,decide_eq_true_eq,beq_iff_eq] at h
 exact ⟨h.1,h.2.1⟩
theorem kp_name (st:RS):Kp st (rName st).2:=by
 unfold rName
 split
 ·rename_i h
  have:=(rNamed_kd h).2
  exact kp_next (ends_kd (by omega) (by omega))
 ·exact kp_fail st
theorem kp_chain {q:RS→Tm×RS} (hq:∀ st,Kp st (q st).2) (sg:List (List UInt8)) (ops:List Int):∀ (k:Nat) (out:Tm) (st:RS),Kp st (chainR q sg ops k out st).2
 | 0,out,st=>.refl st
 | k+1,out,st=>by
   rw [chainR]
   split
   ·exact .refl st
   ·rename_i h
    exact (kp_one h).trans ((hq _).trans (kp_chain hq sg ops k _ _))
theorem kp_more {q:RS→Tm×RS} (hq:∀ st,Kp st (q st).2):∀ (k:Nat) (ks:List Tm) (st:RS),Kp st (moreR q k ks st).2
 | 0,ks,st=>.refl st
 | k+1,ks,st=>by
   rw [moreR]
   split
   ·rename_i h
    exact (kp_is h).trans ((hq _).trans (kp_more hq k _ _))
   ·exact .refl st
theorem kp_agg {q:RS→Tm×RS} (hq:∀ st,Kp st (q st).2) (st:RS):Kp st (aggR q st).2:=by
 unfold aggR
 split
 ·exact kp_fail st
 ·rename_i h
  have h1:=(kp_one h).trans (kp_want wOpen _)
  simp only
  split
  ·rename_i h2; exact h1.trans ((kp_is h2.2).trans (kp_want _ _))
  ·split
   ·rename_i h2; exact h1.trans ((kp_is h2.2).trans ((hq _).trans (kp_want _ _)))
   ·exact h1.trans ((hq _).trans (kp_want _ _))
theorem kp_null (st:RS):Kp st (nullR st).2:=by
 unfold nullR
 split
 ·rename_i h; exact kp_one h
 ·exact kp_fail st
theorem kp_case {q:RS→Tm×RS} (hq:∀ st,Kp st (q st).2) (st:RS):Kp st (caseR q st).2 :=
 (kp_want _ _).trans ((hq _).trans ((kp_want _ _).trans ((hq _).trans ((kp_want _ _).trans ((hq _).trans (kp_want _ _))))))
theorem kp_par:∀ (n lvl:Nat) (st:RS),Kp st (parR n lvl st).2
 | 0,lvl,st=>kp_fail st
 | n+1,0,st=>by rw [parR]; exact (kp_par n 1 st).trans (kp_chain (kp_par n 1) _ _ _ _ _)
 | n+1,1,st=>by rw [parR]; exact (kp_par n 2 st).trans (kp_chain (kp_par n 2) _ _ _ _ _)
 | n+1,2,st=>by
   rw [parR]
   split
   ·rename_i h; exact (kp_is h).trans (kp_par n 2 _)
   ·exact kp_par n 3 st
 | n+1,3,st=>by
   rw [parR]
   have h1:=kp_par n 4 st
   simp only
   split
   ·rename_i h; exact h1.trans ((kp_one h).trans (kp_par n 4 _))
   ·split
    ·rename_i h; exact h1.trans ((kp_is h).trans ((kp_want _ _).trans ((kp_par n 0 _).trans ((kp_more (kp_par n 0) _ _ _).trans (kp_want _ _)))))
    ·split
     ·rename_i h
      have h2:=h1.trans (kp_is h)
      split
      ·rename_i h3; exact h2.trans (kp_is h3)
      ·split
       ·rename_i h3; exact h2.trans (kp_is h3)
       ·split
        ·rename_i h3; exact h2.trans ((kp_is h3).trans (kp_want _ _))
        ·exact h2.trans (kp_fail _)
     ·exact h1
 | n+1,4,st=>by rw [parR]; exact (kp_par n 5 st).trans (kp_chain (kp_par n 5) _ _ _ _ _)
 | n+1,5,st=>by rw [parR]; exact (kp_par n 6 st).trans (kp_chain (kp_par n 6) _ _ _ _ _)
 | n+1,6,st=>by
   rw [parR]
   split
   ·rename_i h
    simp only
    split
    ·rename_i h2; exact (kp_is h).trans (kp_next (ends_kd (by omega) (by omega)))
    ·exact (kp_is h).trans (kp_par n 6 _)
   ·exact kp_par n 7 st
 | n+1,m+7,st=>by
   rw [parR]
   by_cases h:0≤st.2
   ·rw [if_pos h]; exact .refl st
   rw [if_neg h]
   by_cases h:(hdT st.1).kd=2
   ·rw [if_pos h]; exact kp_next (ends_kd (by omega) (by omega))
   rw [if_neg h]
   by_cases h:(hdT st.1).kd=3
   ·rw [if_pos h]; exact kp_next (ends_kd (by omega) (by omega))
   rw [if_neg h]
   by_cases h:rNamed st=true
   ·rw [if_pos h]
    by_cases h:rIs wDot (rName st).2=true
    ·simp only [h,if_true]; exact (kp_name st).trans ((kp_is h).trans (kp_name _))
    ·simp only [h,if_false]; exact kp_name st
   rw [if_neg h]
   by_cases h:rIs wOpen st=true
   ·rw [if_pos h]; exact (kp_is h).trans ((kp_par n 0 _).trans (kp_want _ _))
   rw [if_neg h]
   by_cases h:rIs wTrue st=true
   ·rw [if_pos h]; exact kp_is h
   rw [if_neg h]
   by_cases h:rIs wFalse st=true
   ·rw [if_pos h]; exact kp_is h
   rw [if_neg h]
   by_cases h:rIs wNull st=true
   ·rw [if_pos h]; exact (kp_is h).trans (kp_null _)
   rw [if_neg h]
   by_cases h:rIs wLength st=true
   ·rw [if_pos h]; exact (kp_is h).trans ((kp_want _ _).trans ((kp_par n 0 _).trans (kp_want _ _)))
   rw [if_neg h]
   by_cases h:rIs wCoalesce st=true
   ·rw [if_pos h]; exact (kp_is h).trans ((kp_want _ _).trans ((kp_par n 0 _).trans ((kp_want _ _).trans ((kp_par n 0 _).trans (kp_want _ _)))))
   rw [if_neg h]
   by_cases h:rIs wCase st=true
   ·rw [if_pos h]; exact (kp_is h).trans (kp_case (kp_par n 0) _)
   rw [if_neg h]
   exact kp_agg (kp_par n 0) st
end Go.Proofs.Tryz
namespace Go.Proofs.YthpmjipkofbeiaaGreatDoor
open Go Go.ChangeMaps Go.ChangeShapes Go.WideShapes Go.ChangeAt Go.RowKit Go.Ab Go.Proofs.Tryz
set_option maxRecDepth 100000
theorem trod_iface {H:Type} {enc:TypeId×Value→H} {P:Program} {w:World} {base:Nat} {spare:Nat→Bool} {f:Nat} {t:TypeId} {cs:List Value} {n:String} {d:DataW H} {p:List MemPlace}
  (h:DataW.trod enc P w base spare false f t cs=some (.iface n d,p)):∃ u v,cs=[.iface u v]:=by
 cases f with
 | zero=>simp [DataW.trod] at h
 | succ f =>
   unfold DataW.trod at h
   split at h <;> first
    | exact ⟨_,_,rfl⟩
    | (simp [Option.bind_eq_some_iff,Option.map_eq_some_iff] at h; done)
    | (split at h <;> simp [Option.bind_eq_some_iff,Option.map_eq_some_iff] at h; done)
    | (exfalso; split at h
       ·split at h
        ·rw [Option.bind_eq_some_iff] at h
         obtain ⟨_,_,h⟩:=h
         simp only at h
         split at h <;> simp at h
        ·cases h
       ·cases h)
theorem laid_iface {P:Program} {w:World} {name:String} {g f:Nat} {t:TypeId} {cs:Array Value} {d:DataW Unit} {p:List MemPlace} {n:String} {en:TypeId×Value→Unit} {base:Nat} {spare:Nat→Bool}
  (hg:P.globalNamed name=some g) (hv:w.var? P name=some cs) (hd:DataW.trod en P w base spare false f t cs.toList=some (.iface n d,p)) :
  RepCells (memOf w) g 0 [.any isErrS]∧∃ a ety z,w.heap[g]?=some (.cells a ety z)∧a.size=1:=by
 obtain ⟨u,v,e⟩:=trod_iface hd
 have hs:cs.size=1:=by rw [← Array.length_toList,e]; rfl
 refine ⟨RepL_cells (l:=[.iface u v]) ⟨?_,trivial⟩ fun i x hi=>?_,?_⟩
 ·simp [RepD,isErrS,Value.oneCell']
 ·unfold memOf
  rw [World.var?_cell hg hv,Nat.zero_add,← Array.getElem?_toList,e]
  exact hi
 ·simp only [World.var?,hg,Option.bind_some] at hv
  split at hv
  ·rename_i a ety z h
   simp only [Option.some.injEq] at hv
   subst hv
   exact ⟨_,_,_,h,by simpa using hs⟩
  ·cases hv
theorem own:ownKnob Tryz.prog.godebug=none:=by kernel_rfl
theorem laidOut:laidOutB Tryz.prog=true:=by kernel_rfl
theorem gNull : Tryz.prog.globalNamed "querylab/value.null" = some 5 := by kernel_rfl
theorem tNull:(Tryz.prog.globals[5]?).map (·.type)=some 55:=by kernel_rfl
theorem gSyn : Tryz.prog.globalNamed "strconv.ErrSyntax" = some 9 := by kernel_rfl
theorem gRan : Tryz.prog.globalNamed "strconv.ErrRange" = some 10 := by kernel_rfl
theorem tPow:(Tryz.prog.globals[4]?).map (·.type)=some 181:=by kernel_rfl
theorem gSops : Tryz.prog.globalNamed "querylab/sql.operators" = some 3 := by kernel_rfl
theorem tSops:(Tryz.prog.globals[3]?).map (·.type)=some 122:=by kernel_rfl
theorem gTyp : Tryz.prog.globalNamed "querylab/sql.types" = some 0 := by kernel_rfl
theorem tTyp:(Tryz.prog.globals[0]?).map (·.type)=some 87:=by kernel_rfl
theorem gAgg : Tryz.prog.globalNamed "querylab/sql.aggregates" = some 1 := by kernel_rfl
theorem tAgg:(Tryz.prog.globals[1]?).map (·.type)=some 91:=by kernel_rfl
theorem maxLen_cell {W:World} (hs:W.ShapedOpen Tryz.prog):RepCells (memOf W) 6 0 [.any isI64]∧∃ a ety z,W.heap[6]?=some (.cells a ety z)∧a.size=1:=by
 obtain ⟨m,hm⟩:=Go.Proofs.cell_of_shapedOpen_int (g:=6) (zero:=#[.int .i64 0]) (t:=3) hs (of_decide_eq_true (by kernel_rfl)) (by kernel_rfl) rfl (by kernel_rfl) (by kernel_rfl) Tryz.underlying3
 obtain ⟨cs,hh,hz,_⟩:=hs.1 6 #[.int .i64 0] 3 (of_decide_eq_true (by kernel_rfl)) (by kernel_rfl)
 refine ⟨?_,cs,3,(0,0),hh,hz⟩
 simp only [RepCells,RepD]
 exact ⟨⟨.int .i64 m,hm,⟨m,rfl⟩,rfl⟩,trivial⟩
theorem is_open {H:Type} {enc:TypeId×Value→H} {W:World} {base:Nat} {spare:Nat→Bool} {held:Bool} {r:Reach} {b0:Nat} {v:Value} {d:DataW H} {p:List MemPlace}
  (hv:Value.okWide Tryz.prog W r b0 22 v) (h:DataW.Trod enc Tryz.prog W base spare held 22 v d p) :
  ∃ l:List Int,RepD (memOf W) v (.sl (l.map fun n=>[.int .i64 n])):=by
 obtain ⟨a,len,cap,rfl⟩:=okWide_slice (e:=3) (by kernel_rfl) hv
 obtain ⟨fuel,h⟩:=h
 rcases Go.Deep.open_slice (e:=3) (by kernel_rfl) h with ⟨hc,_⟩ | ⟨a',len',cap',m,n,D,Pl,hc,_,hl,_,hm,_,hi⟩
 ·simp only [Value.cells,List.cons.injEq,and_true] at hc
  simp at hc
  obtain ⟨rfl,rfl,rfl⟩:=hc
  exact ⟨[],by simp only [RepD]; exact ⟨none,0,rfl,Nat.le_refl _,.inl rfl⟩⟩
 ·simp [Value.cells] at hc
  obtain ⟨rfl,rfl,rfl⟩:=hc
  have hsz:Tryz.prog.cellsOf 3=1:=by
   have:(Tryz.prog.cellsOf 3==1)=true:=by kernel_rfl
   simpa using this
  obtain ⟨l,_,hr⟩:=sl_rep (w:=W) (a:=a') (len:=len) (cap:=cap) (sz:=1) (fun n:Int=>[Go.Ab.D.int .i64 n]) hl (fun _=>rfl) (by decide) fun i hlt=>by
   obtain ⟨cs,hc,ht⟩:=hi i (by rw [hm]; split <;> omega)
   rw [hsz] at hc
   obtain ⟨_,hcl,hat⟩:=World.cells?_some hc
   obtain ⟨k,e0,_,_⟩:=DataW.trod_int (k:=.i64) (by kernel_rfl) ht
   subst e0
   refine ⟨k,fun j c hj=>?_⟩
   have hj0:j=0:=by
    have:=(List.getElem?_eq_some_iff.1 hj).1
    simpa using this
   subst hj0
   cases hj
   refine ⟨.int .i64 k,?_,by simp only [RepD]⟩
   rw [← Go.Deep.add_add,hat 0 (by decide)]; rfl
  exact ⟨l,hr⟩
def laid9 : List (String × DataW Unit) := [("math/bits.deBruijn32tab", Rows.laid_math_bits_deBruijn32tab), ("math/bits.deBruijn64tab", Rows.laid_math_bits_deBruijn64tab), ("internal/strconv.uint64pow10", Rows.laid_internal_strconv_uint64pow10), ("strconv.ErrRange", Rows.laid_strconv_ErrRange), ("strconv.ErrSyntax", Rows.laid_strconv_ErrSyntax), ("querylab/value.null", Rows.laid_querylab_value_null), ("querylab/sql.operators", Rows.laid_querylab_sql_operators), ("querylab/sql.types", Rows.laid_querylab_sql_types), ("querylab/sql.aggregates", Rows.laid_querylab_sql_aggregates)]
theorem of_laid9 {W:World} (h:laidMetH Tryz.prog laid9 W) (hs:W.ShapedOpen Tryz.prog):∀ g cs,Es.G g=some cs→RepCells (memOf W) g 0 cs∧∃ a ety z,W.heap[g]?=some (.cells a ety z)∧a.size=cs.length:=by
 rw [MakeChecks.laidMetH_plain _ _ _ (by kernel_rfl)] at h
 obtain ⟨ps,⟨_,_,_,_,_,_,_,_,_,_,⟨_,_,_,_,_,_,_,_,_,_,⟨g2,t2,cs2,f2,p2,q2,hg2,ht2,hv2,hd2,⟨g3,t3,cs3,f3,p3,q3,hg3,ht3,hv3,hd3,⟨g4,t4,cs4,f4,p4,q4,hg4,ht4,hv4,hd4,⟨g5,t5,cs5,f5,p5,q5,hg5,ht5,hv5,hd5,⟨g6,t6,cs6,f6,p6,q6,hg6,ht6,hv6,hd6,⟨g7,t7,cs7,f7,p7,q7,hg7,ht7,hv7,hd7,⟨g8,t8,cs8,f8,p8,q8,hg8,ht8,hv8,hd8,_,_⟩,_⟩,_⟩,_⟩,_⟩,_⟩,_⟩,_⟩,_⟩,_,_⟩:=h
 obtain rfl:=Option.some.inj (gPow.symm.trans hg2)
 obtain rfl:=Option.some.inj (tPow.symm.trans ht2)
 obtain rfl:=Option.some.inj (gRan.symm.trans hg3)
 obtain rfl:=Option.some.inj (gSyn.symm.trans hg4)
 obtain rfl:=Option.some.inj (gNull.symm.trans hg5)
 obtain rfl:=Option.some.inj (tNull.symm.trans ht5)
 obtain rfl:=Option.some.inj (gSops.symm.trans hg6)
 obtain rfl:=Option.some.inj (tSops.symm.trans ht6)
 obtain rfl:=Option.some.inj (gTyp.symm.trans hg7)
 obtain rfl:=Option.some.inj (tTyp.symm.trans ht7)
 obtain rfl:=Option.some.inj (gAgg.symm.trans hg8)
 obtain rfl:=Option.some.inj (tAgg.symm.trans ht8)
 intro g cs hg
 rw [Es_G,esG] at hg
 split at hg
 ·rename_i e
  subst e
  cases hg
  exact ⟨laid_rep (m:=3) gNull hv5 hd5 (by kernel_rfl),laid_size (m:=3) gNull hv5 hd5 (by kernel_rfl)⟩
 split at hg
 ·rename_i e
  cases hg
  rcases e with rfl | rfl
  ·exact laid_iface gSyn hv4 hd4
  ·exact laid_iface gRan hv3 hd3
 split at hg
 ·rename_i e
  subst e
  cases hg
  exact ⟨laid_rep (m:=3) gPow hv2 hd2 (by kernel_rfl),laid_size (m:=3) gPow hv2 hd2 (by kernel_rfl)⟩
 split at hg
 ·rename_i e
  subst e
  cases hg
  exact maxLen_cell hs
 split at hg
 ·rename_i e
  subst e
  cases hg
  exact ⟨laid_rep (m:=4) gSops hv6 hd6 (by kernel_rfl),laid_size (m:=4) gSops hv6 hd6 (by kernel_rfl)⟩
 split at hg
 ·rename_i e
  subst e
  cases hg
  exact ⟨laid_rep (m:=3) gTyp hv7 hd7 (by kernel_rfl),laid_size (m:=3) gTyp hv7 hd7 (by kernel_rfl)⟩
 split at hg
 ·rename_i e
  subst e
  cases hg
  exact ⟨laid_rep (m:=3) gAgg hv8 hd8 (by kernel_rfl),laid_size (m:=3) gAgg hv8 hd8 (by kernel_rfl)⟩
 cases hg
theorem door9 (os:Os) (args:Array Value):laidMetH Tryz.prog laid9 ((World.doorLaid Tryz.prog 400 os).forCall (fun _ _=>0) ⟨#[],args,[]⟩).memory :=
 laidMetH_of_parts3 (fuel:=8) (laidMet_of_run' 8 (by kernel_rfl) (by kernel_rfl)) (by kernel_rfl) (by kernel_rfl)
end Go.Proofs.YthpmjipkofbeiaaGreatDoor
