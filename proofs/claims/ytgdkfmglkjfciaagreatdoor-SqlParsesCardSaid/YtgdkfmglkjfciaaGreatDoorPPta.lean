import Derived.Test.YtgdkfmglkjfciaaGreatDoorRlv
import Derived.Test.YtgdkfmglkjfciaaGreatDoorPShy
import Derived.Test.YtgdkfmglkjfciaaGreatDoorPRqs
import Derived.Test.YtgdkfmglkjfciaaGreatDoorRed
set_option linter.all false
namespace Go.Proofs.Tryz
open Go.Ab
set_option maxRecDepth 100000
set_option maxHeartbeats 4000000
section
variable {s:List UInt8} (hs:s.length≤5000) {L:Nat} {p q:RS→Tm×RS} {st:RS}
include hs
theorem r_unary (hp:RuR s L 137 p) (hq:RuR s (L+1) 140 q) (ha:At (toks s) st.1) (hl:st.1.length≤L+1)
  {res:Tm×RS} (hres:(if rIs wMinus st=true then
   (if (rNext st).2<0∧(hdT (rNext st).1).kd=2∧(hdT (rNext st).1).n ≠ 0 then (Tm.mk 2 0 (IntKind.i64.wrap (-(hdT (rNext st).1).n)) [] [] [],rNext (rNext st))
   else (mkT 11 [(p (rNext st)).1],(p (rNext st)).2)) else q st)=res) :
  Cf Es 137 [.ptr 1000000 0 0] [rrB s st] res.1.a [rrB s res.2]:=by
 refine cf_intro mixs (fn:=Tryz.f137) (by kernel_rfl) rfl (by kernel_rfl) (by decide) (by simp) ?_
 cases hw:rIs wMinus st with
 | true =>
   rw [if_pos hw] at hres
   have hlen:=is_len hw
   have h3:=ha.kp (kp_is hw)
   have hto:=take_yesR hs ha hw
   generalize rNext st=st2 at *
   have h4:=hp.run st2 h3 (by omega)
   simp<;>(repeat' first|contradiction|exact .ok|apply And.intro|intro _|(refine gc (fun h=>?_) (fun h=>?_)<;>(have h':=h;(try simp at h');first|done|simp[h,h']|simp)))
   refine acallT_hand [1000000] (hto) (by simp) (by simp) (by simp) (by simp) (by simp) ?_
   by_cases hc:st2.2<0∧(hdT st2.1).kd=2∧(hdT st2.1).n ≠ 0
   ·rw [if_pos hc] at hres
    subst hres
    obtain ⟨c1,c2,c3⟩:=hc
    have hnx:=r_next hs h3 (ends_kd (by omega) (by omega))
    simp [c1,c2,c3]<;>(repeat' first|contradiction|exact .ok|apply And.intro|intro _|(refine gc (fun h=>?_) (fun h=>?_)<;>(have h':=h;(try simp at h');first|done|simp[h,h',c1,c2,c3]|simp[c1,c2,c3])))
    refine acallT_hand [1000000] (hnx) (by simp) (by simp) (by simp) (by simp [c2]) (by simp) ?_
    simp [Tm.c,tmsC]<;>(repeat' first|contradiction|exact .ok|apply And.intro|intro _|(refine gc (fun h=>?_) (fun h=>?_)<;>(have h':=h;(try simp at h');first|done|simp[h,h',Tm.c,tmsC]|simp[Tm.c,tmsC])))
   ·rw [if_neg hc] at hres
    subst hres
    by_cases c1:st2.2<0
    ·by_cases c2:(hdT st2.1).kd=2
     ·have c3:(hdT st2.1).n=0:=by
       by_cases c3:(hdT st2.1).n=0
       ·exact c3
       ·exact absurd ⟨c1,c2,c3⟩ hc
      simp [c1,c2,c3]<;>(repeat' first|contradiction|exact .ok|apply And.intro|intro _|(refine gc (fun h=>?_) (fun h=>?_)<;>(have h':=h;(try simp at h');first|done|simp[h,h',c1,c2,c3]|simp[c1,c2,c3])))
      refine acallT_hand [1000000] (h4) (by simp) (by simp) (by simp) (by simp [c2,c3]) (by simp) ?_
      simp<;>(repeat' first|contradiction|exact .ok|apply And.intro|intro _|(refine gc (fun h=>?_) (fun h=>?_)<;>(have h':=h;(try simp at h');first|done|simp[h,h']|simp)))
      refine acallT_plain (ups (r_one 11 (p st2).1)) (by simp) ?_
      simp<;>(repeat' first|contradiction|exact .ok|apply And.intro|intro _|(refine gc (fun h=>?_) (fun h=>?_)<;>(have h':=h;(try simp at h');first|done|simp[h,h']|simp)))
     ·simp [c1,c2]<;>(repeat' first|contradiction|exact .ok|apply And.intro|intro _|(refine gc (fun h=>?_) (fun h=>?_)<;>(have h':=h;(try simp at h');first|done|simp[h,h',c1,c2]|simp[c1,c2])))
      refine acallT_hand [1000000] (h4) (by simp) (by simp) (by simp) (by simp) (by simp) ?_
      simp<;>(repeat' first|contradiction|exact .ok|apply And.intro|intro _|(refine gc (fun h=>?_) (fun h=>?_)<;>(have h':=h;(try simp at h');first|done|simp[h,h']|simp)))
      refine acallT_plain (ups (r_one 11 (p st2).1)) (by simp) ?_
      simp<;>(repeat' first|contradiction|exact .ok|apply And.intro|intro _|(refine gc (fun h=>?_) (fun h=>?_)<;>(have h':=h;(try simp at h');first|done|simp[h,h']|simp)))
    ·have c1':0≤st2.2:=by omega
     simp [c1,c1']<;>(repeat' first|contradiction|exact .ok|apply And.intro|intro _|(refine gc (fun h=>?_) (fun h=>?_)<;>(have h':=h;(try simp at h');first|done|simp[h,h',c1,c1']|simp[c1,c1'])))
     refine acallT_hand [1000000] (h4) (by simp) (by simp) (by simp) (by simp) (by simp) ?_
     simp<;>(repeat' first|contradiction|exact .ok|apply And.intro|intro _|(refine gc (fun h=>?_) (fun h=>?_)<;>(have h':=h;(try simp at h');first|done|simp[h,h']|simp)))
     refine acallT_plain (ups (r_one 11 (p st2).1)) (by simp) ?_
     simp<;>(repeat' first|contradiction|exact .ok|apply And.intro|intro _|(refine gc (fun h=>?_) (fun h=>?_)<;>(have h':=h;(try simp at h');first|done|simp[h,h']|simp)))
 | false =>
   rw [if_neg (by rw [hw]; exact Bool.false_ne_true)] at hres
   subst hres
   have h4:=hq.run st ha hl
   simp<;>(repeat' first|contradiction|exact .ok|apply And.intro|intro _|(refine gc (fun h=>?_) (fun h=>?_)<;>(have h':=h;(try simp at h');first|done|simp[h,h']|simp)))
   refine acallT_hand [1000000] (take_noR hs ha hw) (by simp) (by simp) (by simp) (by simp) (by simp) ?_
   simp<;>(repeat' first|contradiction|exact .ok|apply And.intro|intro _|(refine gc (fun h=>?_) (fun h=>?_)<;>(have h':=h;(try simp at h');first|done|simp[h,h']|simp)))
   refine acallT_hand [1000000] (h4) (by simp) (by simp) (by simp) (by simp) (by simp) ?_
   simp<;>(repeat' first|contradiction|exact .ok|apply And.intro|intro _|(refine gc (fun h=>?_) (fun h=>?_)<;>(have h':=h;(try simp at h');first|done|simp[h,h']|simp)))
end
def FitT (r:Res Tm):Prop:=∀ t m,r=.ok (t,m)→t.fits
def FitL (r:Res (List Tm)):Prop:=∀ ks m,r=.ok (ks,m)→tmsFits ks∧ks.length≤2000000
theorem FitT.ok {t:Tm} {m:List Tk} (h:t.fits):FitT (.ok (t,m)):=fun _ _ e=>by cases e; exact h
theorem FitT.err (p:Nat):FitT (.error p):=fun _ _ e=>by cases e
theorem FitL.ok {t:List Tm} {m:List Tk} (h:tmsFits t∧t.length≤2000000):FitL (.ok (t,m)):=fun _ _ e=>by cases e; exact h
theorem fit2 {α:Type} {r:Res α} {l:List Tk} (hs:SfxOk r l) {f:α→List Tk→Res Tm} (h:∀ t m,r=.ok (t,m)→m.length≤l.length→FitT (f t m)):FitT (bind2 r f):=by
 cases hr:r with
 | error p=>exact .err p
 | ok x=>obtain ⟨t,m⟩:=x; exact h t m hr (sfx_len hs hr)
theorem fitL2 {α:Type} {r:Res α} {l:List Tk} (hs:SfxOk r l) {f:α→List Tk→Res (List Tm)} (h:∀ t m,r=.ok (t,m)→m.length≤l.length→FitL (f t m)):FitL (bind2 r f):=by
 cases hr:r with
 | error p=>exact fun _ _ e=>by cases e
 | ok x=>obtain ⟨t,m⟩:=x; exact h t m hr (sfx_len hs hr)
theorem fit1 {ws:List (List UInt8)} {l:List Tk} {f:List Tk→Res Tm} (h:∀ m,m.length≤l.length→FitT (f m)):FitT (bind1 (expS ws l) f):=by
 cases hr:expS ws l with
 | error p=>exact .err p
 | ok m=>exact h m (exp_len hr)
theorem fitL1 {ws:List (List UInt8)} {l:List Tk} {f:List Tk→Res (List Tm)} (h:∀ m,m.length≤l.length→FitL (f m)):FitL (bind1 (expS ws l) f):=by
 cases hr:expS ws l with
 | error p=>exact fun _ _ e=>by cases e
 | ok m=>exact h m (exp_len hr)
theorem fits_mk {o y n:Int} {t q:List UInt8} {ks:List Tm} (h:tmsFits ks∧ks.length≤2000000):(Tm.mk o y n t q ks).fits:=by
 rw [Tm.fits]
 exact ⟨by omega,h.1⟩
theorem fits_mkT {o:Int} {ks:List Tm} (h:tmsFits ks∧ks.length≤2000000):(mkT o ks).fits:=fits_mk h
theorem fits0:tmsFits []∧([]:List Tm).length≤2000000:=⟨trivial,by decide⟩
theorem fitsS {a:Tm} (ha:a.fits):tmsFits [a]∧[a].length≤2000000:=⟨⟨ha,trivial⟩,by simp⟩
theorem fitsP {a b:Tm} (ha:a.fits) (hb:b.fits):tmsFits [a,b]∧[a,b].length≤2000000:=⟨⟨ha,hb,trivial⟩,by simp⟩
section
variable {p:List Tk→Res Tm} (hs:∀ l,SfxOk (p l) l) (hp:∀ l,l.length≤1000000→FitT (p l))
include hs hp
theorem chain_fit (sg:List (List UInt8)) (ops:List Int):∀ (k:Nat) (out:Tm) (l:List Tk),l.length≤1000000→out.fits→FitT (chainS p sg ops k out l)
 | 0,out,l,_,ho=>.ok ho
 | k+1,out,l,hl,ho=>by
   rw [chainS]
   split
   ·exact .ok ho
   ·split
    ·exact .err _
    ·rename_i t l' h
     have h1:=sfx_len (hs l.tail) h
     have h2:l.tail.length≤l.length:=(tail_sfx l).length_le
     exact chain_fit sg ops k _ l' (by omega) (fits_mkT (fitsP ho (hp _ (by omega) t l' h)))
theorem more_fit:∀ (k:Nat) (ks:List Tm) (l:List Tk),l.length≤1000000→tmsFits ks→ks.length+k≤2000000→FitL (moreS p k ks l)
 | 0,ks,l,_,hk,hn=>.ok ⟨hk,by omega⟩
 | k+1,ks,l,hl,hk,hn=>by
   rw [moreS]
   have h2:l.tail.length≤l.length:=(tail_sfx l).length_le
   split
   ·exact fitL2 (hs _) fun t m ht hm=>more_fit k _ m (by omega) (tmsFits_app _ _ hk ⟨hp _ (by omega) t m ht,trivial⟩) (by simp; omega)
   ·exact .ok ⟨hk,by omega⟩
theorem rest_fit:∀ (k:Nat) (ks:List Tm) (l:List Tk),l.length≤1000000→tmsFits ks→ks.length+k≤2000000→FitL (restS p k ks l)
 | 0,ks,l,_,hk,hn=>.ok ⟨hk,by omega⟩
 | k+1,ks,l,hl,hk,hn=>by
   rw [restS]
   exact fitL1 fun l1 h1=>fitL2 (hs l1) fun t m ht hm=>rest_fit k _ m (by omega) (tmsFits_app _ _ hk ⟨hp _ (by omega) t m ht,trivial⟩) (by simp; omega)
theorem list_fit (k:Nat) (hk:k≤10) (l:List Tk) (hl:l.length≤1000000):FitL (listS p k l) :=
 fitL1 fun l1 h1=>fitL2 (hs l1) fun t l2 ht h2=>fitL2 (rest_sfx hs k [t] l2) fun ks l3 hk3 h3=>fitL1 fun l4 h4=>.ok (rest_fit hs hp k [t] l2 (by omega) ⟨hp _ (by omega) t l2 ht,trivial⟩ (by simp; omega) ks l3 hk3)
theorem case_fit:∀ (ws:List (List UInt8)) (ks:List Tm) (l:List Tk),l.length≤1000000→tmsFits ks→ks.length+ws.length≤2000000→FitL (caseS p ws ks l)
 | [],ks,l,_,hk,hn=>.ok ⟨hk,by simpa using hn⟩
 | w::ws,ks,l,hl,hk,hn=>by
   rw [caseS]
   exact fitL1 fun l1 h1=>fitL2 (hs l1) fun t m ht hm=>case_fit ws _ m (by omega) (tmsFits_app _ _ hk ⟨hp _ (by omega) t m ht,trivial⟩) (by simp at hn ⊢; omega)
theorem agg_fit (i:Nat) (l:List Tk) (hl:l.length≤1000000):FitT (aggS p i l):=by
 unfold aggS
 refine fit1 fun l1 h1=>?_
 have h2:l1.tail.length≤l1.length:=(tail_sfx l1).length_le
 split
 ·exact fit1 fun l2 _=>.ok (fits_mk fits0)
 ·split
  ·exact fit2 (hs _) fun t l2 ht _=>fit1 fun l3 _=>.ok (fits_mk (fitsS (hp _ (by omega) t l2 ht)))
  ·exact fit2 (hs _) fun t l2 ht _=>fit1 fun l3 _=>.ok (fits_mk (fitsS (hp _ (by omega) t l2 ht)))
theorem level_fit (sg:List (List UInt8)) (ops:List Int) (l:List Tk) (hl:l.length≤1000000):FitT (bind2 (p l) fun t l'=>chainS p sg ops l'.length t l') :=
 fit2 (hs l) fun t m ht hm=>chain_fit hs hp sg ops _ t m (by omega) (hp l hl t m ht)
theorem mapT_fit {g:Tm→Tm} (hg:∀ t:Tm,t.fits→(g t).fits) (l:List Tk) (hl:l.length≤1000000):FitT (mapT g (p l)) :=
 fit2 (hs l) fun t m ht _=>.ok (hg t (hp l hl t m ht))
end
theorem par_fit:∀ (n lvl:Nat) (l:List Tk),l.length≤1000000→FitT (parP n lvl l)
 | 0,lvl,l,_=>.err _
 | n+1,0,l,hl=>by rw [parP]; exact level_fit (par_sfx n 1) (par_fit n 1) _ _ l hl
 | n+1,1,l,hl=>by rw [parP]; exact level_fit (par_sfx n 2) (par_fit n 2) _ _ l hl
 | n+1,2,l,hl=>by
   rw [parP]
   have h2:l.tail.length≤l.length:=(tail_sfx l).length_le
   split
   ·exact mapT_fit (par_sfx n 2) (par_fit n 2) (fun t ht=>fits_mkT (fitsS ht)) _ (by omega)
   ·exact par_fit n 3 l hl
 | n+1,3,l,hl=>by
   rw [parP]
   refine fit2 (par_sfx n 4 l) fun a l' ha hl'=>?_
   have fa:=par_fit n 4 l hl a l' ha
   have h2:l'.tail.length≤l'.length:=(tail_sfx l').length_le
   split
   ·exact mapT_fit (par_sfx n 4) (par_fit n 4) (fun t ht=>fits_mkT (fitsP fa ht)) _ (by omega)
   ·split
    ·split
     ·exact .ok (fits_mkT (fitsS fa))
     ·split
      ·exact .ok (fits_mkT (fitsS fa))
      ·exact fit1 fun l2 _=>.ok (fits_mkT (fitsS (fits_mkT (fitsS fa))))
    ·split
     ·exact fit1 fun l2 h2'=>fit2 (par_sfx n 0 l2) fun b l3 hb h3=>fit2 (more_sfx (par_sfx n 0) _ _ l3) fun ks l4 hk h4=>fit1 fun l5 _ =>
       .ok (fits_mkT (more_fit (par_sfx n 0) (par_fit n 0) _ [a,b] l3 (by omega) (fitsP fa (par_fit n 0 l2 (by omega) b l3 hb)).1 (by simp; omega) ks l4 hk))
     ·exact .ok fa
 | n+1,4,l,hl=>by rw [parP]; exact level_fit (par_sfx n 5) (par_fit n 5) _ _ l hl
 | n+1,5,l,hl=>by rw [parP]; exact level_fit (par_sfx n 6) (par_fit n 6) _ _ l hl
 | n+1,6,l,hl=>by
   rw [parP]
   have h2:l.tail.length≤l.length:=(tail_sfx l).length_le
   split
   ·split
    ·exact .ok (fits_mk fits0)
    ·exact mapT_fit (par_sfx n 6) (par_fit n 6) (fun t ht=>fits_mkT (fitsS ht)) _ (by omega)
   ·exact par_fit n 7 l hl
 | n+1,m+7,[],_=>by rw [parP]; exact .err _
 | n+1,m+7,t::r,hl=>by
   have hr:r.length≤1000000:=by simp only [List.length_cons] at hl; omega
   have h2:r.tail.length≤r.length:=(tail_sfx r).length_le
   rw [parP]
   split
   ·exact .ok (fits_mk fits0)
   split
   ·exact .ok (fits_mk fits0)
   split
   ·exact .ok (fits_mk fits0)
   split
   ·exact .ok (fits_mkT fits0)
   split
   ·split
    ·exact .ok (fits_mk fits0)
    ·exact .err _
   split
   ·exact fit2 (par_sfx n 0 r) fun x l2 hx _=>fit1 fun l3 _=>.ok (par_fit n 0 r hr x l2 hx)
   split
   ·exact fit2 (list_sfx (par_sfx n 0) 0 r) fun ks l2 hk _=>.ok (fits_mkT (list_fit (par_sfx n 0) (par_fit n 0) 0 (by decide) r hr ks l2 hk))
   split
   ·exact fit2 (list_sfx (par_sfx n 0) 1 r) fun ks l2 hk _=>.ok (fits_mkT (list_fit (par_sfx n 0) (par_fit n 0) 1 (by decide) r hr ks l2 hk))
   split
   ·exact fit2 (case_sfx (par_sfx n 0) _ _ r) fun ks l2 hk _=>fit1 fun l3 _=>.ok (fits_mkT (case_fit (par_sfx n 0) (par_fit n 0) _ [] r hr trivial (by simp) ks l2 hk))
   split
   ·exact agg_fit (par_sfx n 0) (par_fit n 0) _ r hr
   ·refine fit2 (name_sfx (t::r)) fun a l1 _ _=>?_
    split
    ·exact fit2 (name_sfx _) fun b l2 _ _=>.ok (fits_mk fits0)
    ·exact .ok (fits_mk fits0)
def fuelN:Nat:=50000
theorem resP_num {s:List UInt8} (h:(resP s).2=0) (hk:(resP s).1.k=1):resP s=(V.mk 1 (resP s).1.n [],0):=by
 obtain ⟨h1,_⟩:=resP_inv h
 generalize resP s=x at *
 obtain ⟨⟨k,n,t⟩,e⟩:=x
 simp only at h hk h1
 subst h hk
 rcases valid_cases h1 with h | h | h | h | h
 ·cases h
 ·obtain ⟨_,ht,_⟩:=h
  simp only at ht
  subst ht
  rfl
 ·cases h
 ·cases h
 ·exact absurd h.1 (by show ¬ (1:Int)=3; decide)
theorem resP_txt {s:List UInt8} (h:(resP s).2=0) (hh:s.head?=some 39):resP s=(V.mk 3 0 (resP s).1.t,0):=by
 obtain ⟨h1,h2⟩:=resP_inv h
 generalize resP s=x at *
 obtain ⟨⟨k,n,t⟩,e⟩:=x
 simp only at h h1 h2
 subst h
 rw [← h2] at hh
 rcases valid_cases h1 with hv | hv | hv | hv | hv
 ·rw [hv] at hh; exact absurd hh (by decide)
 ·obtain ⟨hk,ht,_⟩:=hv
  simp only at hk ht
  subst hk ht
  unfold vText at hh
  rw [if_pos h1,if_pos rfl] at hh
  obtain ⟨c,r,hi,hc⟩:=itoa_head n
  rw [hi] at hh
  simp only [List.head?_cons,Option.some.injEq] at hh
  subst hh
  have:(39:UInt8).toNat=39:=rfl
  omega
 ·rw [hv] at hh; exact absurd hh (by decide)
 ·rw [hv] at hh; exact absurd hh (by decide)
 ·obtain ⟨hk,hn⟩:=hv
  simp only at hk hn
  subst hk hn
  rfl
theorem scan_tv {s:List UInt8} (hs:s.length≤5000) (a:Nat):TkV (scanT s a):=by
 have hl:(scanT s a).rw.length≤10000:=by
  show ((s.drop (skipB s a)).take _).length≤_
  simp only [List.length_take,List.length_drop]
  omega
 unfold scanT at *
 generalize s.drop (skipB s a)=r at *
 generalize skipB s a=z at *
 suffices h:((lexR r).1=2→resP (r.take (lexR r).2.1)=(V.mk 1 (lexR r).2.2.2 [],0))∧((lexR r).1=3→resP (r.take (lexR r).2.1)=(V.mk 3 0 (lexR r).2.2.1,0)) from ⟨h.1,h.2,hl⟩
 clear hl
 cases r with
 | nil=>exact ⟨fun h=>by simp [lexR] at h,fun h=>by simp [lexR] at h⟩
 | cons c q =>
   unfold lexR
   simp only
   by_cases h1:lowr c=true
   ·rw [if_pos h1]
    split
    ·exact ⟨fun h=>by simp at h,fun h=>by simp at h⟩
    ·exact ⟨fun h=>by simp at h,fun h=>by simp at h⟩
   rw [if_neg h1]
   by_cases h2:isDig c=true
   ·rw [if_pos h2]
    split
    ·rename_i hr
     exact ⟨fun _=>resP_num hr.1 hr.2,fun h=>by simp at h⟩
    ·exact ⟨fun h=>by simp at h,fun h=>by simp at h⟩
   rw [if_neg h2]
   by_cases h3:c=39
   ·rw [if_pos h3]
    cases q.findIdx? (·==39) with
    | none=>exact ⟨fun h=>by simp at h,fun h=>by simp at h⟩
    | some i =>
      simp only
      split
      ·rename_i hr
       exact ⟨fun h=>by simp at h,fun _=>resP_txt hr (by rw [h3]; rfl)⟩
      ·exact ⟨fun h=>by simp at h,fun h=>by simp at h⟩
   rw [if_neg h3]
   split
   ·exact ⟨fun h=>by simp at h,fun h=>by simp at h⟩
   ·split
    ·exact ⟨fun h=>by simp at h,fun h=>by simp at h⟩
    ·exact ⟨fun h=>by simp at h,fun h=>by simp at h⟩
theorem toks_v {s:List UInt8} (hs:s.length≤5000):okT (toks s):=fun t ht=>by
 obtain ⟨b,rfl⟩:=tokF_mem s _ _ t ht
 exact scan_tv hs b
theorem scan_place {s:List UInt8} {a:Nat} (ha:a≤s.length):((scanT s a).kd=5→(scanT s a).fr=s.length)∧((scanT s a).kd=0→(scanT s a).fr<s.length):=by
 have h:=skip_le ha
 have hf:(scanT s a).fr=skipB s a:=rfl
 have hk:(scanT s a).kd=(lexR (s.drop (skipB s a))).1:=rfl
 rw [hf,hk]
 rcases Nat.lt_or_ge (skipB s a) s.length with c | c
 ·refine ⟨fun h5=>?_,fun _=>c⟩
  cases hd:s.drop (skipB s a) with
  | nil=>have:=List.drop_eq_nil_iff.1 hd; omega
  | cons x q=>rw [hd] at h5; exact absurd h5 lex_kd
 ·refine ⟨fun _=>by omega,fun h0=>?_⟩
  rw [show skipB s a=s.length from by omega,List.drop_length] at h0
  cases h0
theorem tokF_place (s:List UInt8):∀ (k a:Nat) (t:Tk),a≤s.length→t∈tokF s k a→(t.kd=5→t.fr=s.length)∧(t.kd=0→t.fr<s.length)
 | 0,a,t,_,h=>by cases h
 | k+1,a,t,ha,h=>by
   rw [tokF] at h
   split at h
   ·rw [List.mem_singleton.1 h]; exact scan_place ha
   ·rcases List.mem_cons.1 h with e | h
    ·rw [e]; exact scan_place ha
    ·exact tokF_place s k _ t (scan_to ha).2.1 h
theorem toks_place {s:List UInt8} {m:List Tk} (h:At (toks s) m):((hdT m).kd=5→(hdT m).fr=s.length)∧((hdT m).kd=0→(hdT m).fr<s.length):=by
 cases m with
 | nil=>exact absurd rfl h.ne
 | cons t r=>exact tokF_place s _ 0 t (Nat.zero_le _) (h.sfx.subset List.mem_cons_self)
@[simp] theorem ends_p2 {E:Env} {fn:Func} {y:AV} {st:St} {b1 b2:Blk}:Ab.Ends E fn 2 y [b1,b2] st=aendH 2 (resV E fn st) st.b y [b1,b2]:=ends_hand (B':=[b1,b2])
theorem kept_p2 {b0 b1:Blk} {bl:Nat→Blk}:KeptOk 2 bl (idK [b0,b1]) =
  ((((bl 1000000).live=true∨bl 1000000=.dead)∧(cvB (renOf (idK [b0,b1])) bl true (bl 1000000)).1=b0) ∧
  (((bl 1000001).live=true∨bl 1000001=.dead)∧(cvB (renOf (idK [b0,b1])) bl true (bl 1000001)).1=b1)):=by
 have:=@kept_idK [b0,b1] bl
 simp only [List.length_cons,List.length_nil,Nat.zero_add,Nat.reduceAdd] at this
 rw [this]
 apply propext
 constructor
 ·intro h; exact ⟨h 0 b0 rfl,h 1 b1 rfl⟩
 ·rintro ⟨h0,h1⟩ i c hc
  match i,hc with
  | 0,hc=>cases hc; exact h0
  | 1,hc=>cases hc; exact h1
end Go.Proofs.Tryz
