import Derived.Test.YthpmjipkofbeiaaGreatDoorUPsm
import Derived.Test.YthpmjipkofbeiaaGreatDoorWss
set_option linter.all false
namespace Go.Proofs.Tryz
open Go.Ab
set_option maxRecDepth 100000
set_option maxHeartbeats 16000000
theorem KP:∀ {l:List It} {i:It},i∈l→i.t.wgt+i.n.length+10≤fU l
 | x::l,i,h=>by
   rw [fU]
   rcases List.mem_cons.1 h with rfl | h
   ·omega
   ·have:=KP h; omega
theorem qF:∀ {l:List Sm} {x:Sm},x∈l→x.wgt≤jK l
 | y::l,x,h=>by
   rw [jK]
   rcases List.mem_cons.1 h with rfl | h
   ·omega
   ·have:=qF h; omega
theorem KQ:∀ {l:List Jo} {x:Jo},x∈l→x.wgt≤gG l
 | y::l,x,h=>by
   rw [gG]
   rcases List.mem_cons.1 h with rfl | h
   ·omega
   ·have:=KQ h; omega
theorem KR:∀ l:List It,10*l.length≤fU l
 | []=>by simp [fU]
 | x::l=>by
   have h1:=KR l
   rw [fU,List.length_cons]
   omega
theorem KS:∀ l:List Jo,40*l.length≤gG l
 | []=>by simp [gG]
 | .mk k t q n o::l=>by
   have h1:=KS l
   rw [gG,Jo.wgt,List.length_cons]
   omega
theorem wF {ws:List (List UInt8)}:∀ {l:List Sm},yH ws l=true→∀ x∈l,rgS ws x=true
 | e::es,h,x,hx=>by
   rw [yH,Bool.and_eq_true] at h
   rcases List.mem_cons.1 hx with rfl | hx
   ·exact h.1
   ·exact wF h.2 x hx
theorem WX {ws:List (List UInt8)}:∀ {l:List Jo},LN ws l=true→∀ x∈l,rgJ ws x=true
 | e::es,h,x,hx=>by
   rw [LN,Bool.and_eq_true] at h
   rcases List.mem_cons.1 hx with rfl | hx
   ·exact h.1
   ·exact WX h.2 x hx
theorem aAL {t:Tm} (h:rgT jZ t=true) (hw:t.wgt≤1099511627776):WrK t:=aNL _ t (Nat.lt_succ_self _) h hw
theorem aHp {l:List Tm} (h:mD jZ l=true) (hw:cH l≤1099511627776):Cf Ej 52 [.d (.sl (l.map Tm.c)),.clo 23 []] [] (.d (.str (eH (l.map wr)))) []:=by
 obtain ⟨h1,h2⟩:=RE h hw
 exact upj (CI _ wr l h1 (by omega) fun x hx=>(aAL (KO h x hx) (by have:=yQ hx; omega)).1)
theorem aNQ {l:List It} (h:l.all (rgI jZ)=true) (hw:fU l≤1099511627776):Cf Ej 68 [.d (.sl (l.map It.c)),.clo 69 []] [] (.d (.str (eH (l.map RF)))) []:=by
 have h1:=QU l jZ h
 have h2:=nH (l.map RF)
 have h3:=KR l
 rw [List.length_map] at h2
 refine upj (aDn _ RF l (by omega) (by omega) fun i hi=>?_)
 have hm:=KP hi
 have hr:=List.all_eq_true.1 h i hi
 unfold rgI at hr
 rw [Bool.and_eq_true] at hr
 exact aAK i (aAL hr.1 (by omega)) (by omega)
theorem aHq:∀ (m:Nat) (x:Sm),SizeOf.sizeOf x<m→rgS jZ x=true→x.wgt≤1099511627776→StK x
 | 0,_,h,_,_=>absurd h (by omega)
 | m+1,.mk f a d s is ft fq fn js w g h ks,hm,hr,hw=>by
   have hlen:=aAz _ jZ hr
   refine ⟨?_,by omega⟩
   have hq:∀ y∈fq,SizeOf.sizeOf y<m:=fun y hy=>by
    have:=Sm.q_lt (e:=.mk f a d s is ft fq fn js w g h ks) hy
    omega
   have hks:∀ y∈ks,SizeOf.sizeOf y<m:=fun y hy=>by
    have:=Sm.kid_lt (e:=.mk f a d s is ft fq fn js w g h ks) hy
    omega
   have hjs:∀ j∈js,∀ y∈j.qs,SizeOf.sizeOf y<m:=fun j hj y hy=>by
    have:=Sm.j_lt (e:=.mk f a d s is ft fq fn js w g h ks) hj
    have:=Jo.q_lt hy
    omega
   have hw':=hw
   rw [Sm.wgt] at hw'
   have hr':=hr
   rw [rgS] at hr'
   split at hr'
   ·rename_i hf
    subst hf
    simp only [Bool.and_eq_true,decide_eq_true_eq,Bool.not_eq_true'] at hr'
    obtain ⟨rfl,hk,_,_,_,hso,hi,hj,hwr,hg,hh⟩:=hr'
    obtain rfl:=List.length_eq_zero_iff.1 (by simpa using hk:ks.length=0)
    have e1:oL (.mk 1 false d s is ft fq fn js w g h [])=aEg d s is (KT ft (jR fq) fn) (yS js) w g h:=by rw [oL,if_pos rfl]
    rw [e1] at hlen ⊢
    refine aNP d s is ft fq fn js w g h (eH (is.map RF)) (KT ft (jR fq) fn) _ (aNQ hi (by omega)) (BH ft fq fn (by omega) (by omega) fun y hy=>aHq m y (hq y hy) (wF (QV hso) y hy) (by have:=qF hy; omega)) ?_ ?_ (by have:=KS js; omega) (aJG _ _ _ _ _ _ _ _).symm (by omega)
    ·rintro ⟨k,t,q,n,o⟩ hjm
     have hjr:=WX hj _ hjm
     have hjw:=KQ hjm
     have hjq:=hjs _ hjm
     simp only [Jo.qs] at hjq
     rw [Jo.wgt] at hjw
     rw [rgJ] at hjr
     simp only [Bool.and_eq_true,decide_eq_true_eq] at hjr
     obtain ⟨k0,k6,ho,hor,hjs2⟩:=hjr
     refine ⟨KT t (jR q) n,o,k,⟨k0,k6⟩,⟨t,q,n,rfl,rfl,BH t q n (by omega) (by omega) fun y hy=>aHq m y (hjq y hy) (wF (QV hjs2) y hy) (by have:=qF hy; omega)⟩,?_⟩
     match o,ho,hor with
     | [],_,_=>exact .inl rfl
     | [c],_,hor =>
       rw [mD,Bool.and_eq_true] at hor
       rw [cH] at hjw
       exact .inr ⟨c,rfl,aAL hor.1 (by omega)⟩
     | _::_::_,ho,_=>simp at ho; split at ho <;> omega
    ·intro p hp
     unfold aEj at hp
     simp only [List.mem_cons,List.not_mem_nil,or_false] at hp
     rcases hp with rfl | rfl | rfl
     ·exact aHp hwr (show cH w≤_ from by omega)
     ·exact aHp hg (show cH g≤_ from by omega)
     ·exact aHp hh (show cH h≤_ from by omega)
   ·rename_i hf
    split at hr'
    ·rename_i hf2
     simp only [Bool.and_eq_true,Bool.not_eq_true',beq_iff_eq] at hr'
     obtain ⟨hk,hkr,rfl,rfl,his,rfl,hfq,rfl,hjs0,hw0,hg0,hh0⟩:=hr'
     obtain rfl:=List.length_eq_zero_iff.1 his
     obtain rfl:=List.length_eq_zero_iff.1 hfq
     obtain rfl:=List.length_eq_zero_iff.1 hjs0
     obtain rfl:=List.length_eq_zero_iff.1 hw0
     obtain rfl:=List.length_eq_zero_iff.1 hg0
     obtain rfl:=List.length_eq_zero_iff.1 hh0
     obtain ⟨x,y,rfl⟩:=aLc hk
     have hx:=aHq m x (hks x (by simp)) (wF hkr x (by simp)) (by have:=qF (l:=[x,y]) (x:=x) (by simp); omega)
     have hy:=aHq m y (hks y (by simp)) (wF hkr y (by simp)) (by have:=qF (l:=[x,y]) (x:=y) (by simp); omega)
     have e1:oL (.mk f a false false [] [] [] [] [] [] [] [] [x,y])=aEh f a [x.form,y.form] [oL x,oL y]:=by rw [oL,if_neg hf,jR,jR,jR]; rfl
     rw [e1]
     exact aNO hf2 a x y hx hy
    ·cases hr'
def stx (x:Sm):List UInt8:=if (decide (x.dep≤24)&&x.right)=true then oL x else []
theorem aJH (x:Sm) (hf:x.fits) (hs:x.small) (hw:x.wgt≤1099511627776):Cf Ej 14 [x.a] [] (.d (.str (stx x))) []:=by
 refine cI EP (fn:=Tryz.f14) rfl ?_
 have h1:=upj (aJo x hf hs)
 have c1:=x.clen
 have k1:=x.ctake
 unfold stx
 cases hv:(decide (x.dep≤24)&&x.right) with
 | false =>
   rw [hv] at h1
   simp [Sm.a,c1,k1]
   refine gr ?_
   refine aA h1 (by simp [Sm.a]) ?_
   simp
   all_goals exact gz
 | true =>
   rw [hv] at h1
   have hr:rgS jZ x=true:=by
    rw [← CV,← aBr]
    simp only [Bool.and_eq_true] at hv
    exact hv.2
   have h2:=(aHq _ x (Nat.lt_succ_self _) hr hw).1
   simp [Sm.a,c1,k1]
   refine gr ?_
   refine aA h1 (by simp [Sm.a]) ?_
   simp [c1,k1]
   refine gw ?_
   refine aA h2 (by simp [Sm.a]) ?_
   simp
   all_goals exact gz
theorem aLx (L:List Int) (dp:Int) (d sb:Bool) (is:List It) (so:SoG) (js:List Jo) (i:Nat) (hi:i≤800000) (w:List Tm) (p:Nat) (hr:xF L 3 i=(w,p)) :
  bY En VZ 1 none (jN 1 aGf).1 (FM L dp i (cM d sb (.d (.sl (is.map It.c))) so (.d (.sl (js.map Jo.c))) .nils .nils .nils)) fun e s=>match e with
   | .normal=>∃ q:Nat,Ix q p∧Sub En VZ 1 s (FM L dp q (cM d sb (.d (.sl (is.map It.c))) so (.d (.sl (js.map Jo.c))) (.d (.sl (w.map Tm.c))) .nils .nils))
   | _=>False:=by
 simp only [aGf,aDJ,aAs,mkC,VZ,Tryz.f13,Option.getD_some,fH,eS,FM]
 obtain ⟨t,q,n⟩:=so
 have tn:=jA L i (by omega) 3 (by omega) (by omega)
 have htm:=AW L 3 (i+1) (by omega) (by omega)
 unfold xF at hr
 by_cases h0:aQ L i 3=0
 ·rw [if_pos h0] at hr
  generalize eA L 3 (i+1)=x at *
  obtain ⟨x,e⟩:=x
  simp only at hr htm
  cases hr
  have c1:=x.clen
  have k1:=x.ctake
  have k2:=x.ctake'
  refine gs ?_
  refine hZ (tn) ?_
  simp [h0]
  refine gw ?_
  refine hZ (htm) ?_
  simp [c1,k2,Tm.a]
  refine gw ?_
  refine ⟨_,rfl,?_⟩
  exact sZ _ [(4,4,_),(7,7,_)] (by simp [aD,Blk.live]) (by simp [aD])
 ·rw [if_neg h0] at hr
  cases hr
  refine gs ?_
  refine hZ (tn) ?_
  simp [h0]
  refine gw ?_
  refine ⟨_,rfl,?_⟩
  refine (gV 7 904 25 6 9 (cells:=cM d sb (.d (.sl (is.map It.c))) (t,q,n) (.d (.sl (js.map Jo.c))) .nils .nils .nils) (by simp) rfl (by simp) (by decide) (by decide)).trans ?_
  exact sZ _ [(4,4,_),(7,7,_)] (by simp [aD,Blk.live]) (by simp [aD])
theorem aLy (L:List Int) (dp:Int) (d sb:Bool) (is:List It) (so:SoG) (js:List Jo) (w:List Tm) (i:Nat) (hi:i≤800000) (g:List Tm) (p:Nat) (hr:vW L (aQ L i 4 - 1).toNat [] (i+1)=(g,p)) :
  bY En VZ 1 none (jN 1 aIL).1 (FM L dp i (cM d sb (.d (.sl (is.map It.c))) so (.d (.sl (js.map Jo.c))) (.d (.sl (w.map Tm.c))) .nils .nils)) fun e s=>match e with
   | .normal=>∃ q:Nat,Ix q p∧Sub En VZ 1 s (FM L dp q (cM d sb (.d (.sl (is.map It.c))) so (.d (.sl (js.map Jo.c))) (.d (.sl (w.map Tm.c))) (.d (.sl (g.map Tm.c))) .nils))
   | _=>False:=by
 simp only [aIL,aGf,aDJ,aAs,mkC,VZ,Tryz.f13,Option.getD_some,fH,eS,FM]
 obtain ⟨t,q,n⟩:=so
 have tn:=jA L i (by omega) 4 (by omega) (by omega)
 have n4:=cT L i (n:=4) (by omega)
 have hw:=wI (n:=aQ L i 4 - 1)
 replace hr:QK _:=⟨hr⟩
 refine gs ?_
 refine hZ (tn) ?_
 simp [hw]
 refine gw ?_
 refine iR fQ (by decide) (fun y:Int×List Tm×Nat=>{ s:=eP [(0,.ptr 1000000 0 0),(1,.d (.int .i64 dp)),(4,.ptr 4 0 0),(7,.ptr 7 0 0),(12,.d (.int .i64 y.1))],b:=eG [(1000000,1000000,bR L y.2.2),(4,4,.var xM),(7,7,.var (cM d sb (.d (.sl (is.map It.c))) (t,q,n) (.d (.sl (js.map Jo.c))) (.d (.sl (w.map Tm.c))) (.ref 905 0 y.2.1.length 6) .nils)),(905,905,.arr 25 6 (y.2.1.map Tm.c) false)] })
  (fun y=>(-1≤y.1∧y.1≤2)∧y.2.1.length+y.1.toNat≤2∧y.2.2+y.1.toNat*1000≤803000∧vW L y.1.toNat y.2.1 y.2.2=(g,p)) (fun y=>y.1.toNat) (aQ L i 4 - 1,[],i+1) ⟨by simp only; omega,by simp only [List.length_nil]; omega,by simp only; omega,hr.out⟩
  ((gV 7 905 25 6 10 (cells:=cM d sb (.d (.sl (is.map It.c))) (t,q,n) (.d (.sl (js.map Jo.c))) (.d (.sl (w.map Tm.c))) .nils .nils) (by simp) rfl (by simp) (by decide) (by decide)).trans (sZ _ [(4,4,_),(7,7,_),(905,905,_)] (by simp [aD,Blk.live]) (by simp [aD]))) ?_
 clear hr tn n4 hw
 rintro ⟨k,l,j⟩ ⟨hk,hl,hj,hr⟩
 simp only at hk hl hj hr
 by_cases hp:0<k
 ·obtain ⟨m,hm⟩:∃ m,k.toNat=m+1:=⟨k.toNat - 1,by omega⟩
  rw [hm,vW] at hr
  have htm:=AW L 2 j (by omega) (by omega)
  have htg:=(tmG L (d:=2) (by omega) j)
  have htl:=htg.le (by omega)
  generalize eA L 2 j=x at *
  obtain ⟨x,e⟩:=x
  simp only at hr htm htl
  have hfin:e+(k - 1).toNat*1000≤803000:=by omega
  have hwk:=wI (n:=k - 1)
  have c1:=x.clen
  have k1:=x.ctake
  have k2:=x.ctake'
  have hb:(l.length+1)*80≤140737488355328∧l.length≤9223372036854775806:=by omega
  replace hr:QK _:=⟨hr⟩
  replace hfin:QK _:=⟨hfin⟩
  replace hj:QK _:=⟨hj⟩
  replace hl:QK _:=⟨hl⟩
  clear htl htg
  simp [hp]
  refine gw ?_
  refine hZ (htm) ?_
  simp [c1,k2,Tm.a,hb,hwk]
  refine gw ?_
  refine ⟨(k - 1,l++[x],e),⟨by simp only; omega,by have:=hl.out; simp only [List.length_append,List.length_singleton]; omega,hfin.out,?_⟩,?_,by simp only; omega⟩
  ·rw [show (k - 1).toNat=m from by omega]; exact hr.out
  exact sZ _ [(4,4,_),(7,7,_),(905,129,_)] (by simp [aD,Blk.live]; try omega) (by simp [aD])
 ·rw [show k.toNat=0 from by omega,vW] at hr
  cases hr
  clear hj hl
  simp [hp]
  refine gw ?_
  refine ⟨_,rfl,?_⟩
  exact sZ _ [(4,4,_),(7,7,_)] (by simp [aD,Blk.live]) (by simp [aD])
theorem aLz (L:List Int) (dp:Int) (d sb:Bool) (is:List It) (so:SoG) (js:List Jo) (w g:List Tm) (i:Nat) (hi:i≤800000) (h:List Tm) (p:Nat) (hr:xF L 6 i=(h,p)) :
  bY En VZ 1 none aNk (FM L dp i (cM d sb (.d (.sl (is.map It.c))) so (.d (.sl (js.map Jo.c))) (.d (.sl (w.map Tm.c))) (.d (.sl (g.map Tm.c))) .nils)) fun e s=>match e with
   | .exit _=>False
   | _=>EndsO En Tryz.f13 1 (.ret (Sm.mk 1 false d sb is so.1 so.2.1 so.2.2 js w g h []).a [bR L p]) s:=by
 simp only [aNk,aIL,aGf,aDJ,aAs,mkC,VZ,Tryz.f13,Option.getD_some,fH,eS,FM]
 obtain ⟨t,q,n⟩:=so
 have tn:=jA L i (by omega) 6 (by omega) (by omega)
 have htm:=AW L 3 (i+1) (by omega) (by omega)
 unfold xF at hr
 by_cases h0:aQ L i 6=0
 ·rw [if_pos h0] at hr
  generalize eA L 3 (i+1)=x at *
  obtain ⟨x,e⟩:=x
  simp only at hr htm
  cases hr
  have c1:=x.clen
  have k1:=x.ctake
  have k2:=x.ctake'
  refine gs ?_
  refine hZ (tn) ?_
  simp [h0]
  refine gw ?_
  refine hZ (htm) ?_
  simp [c1,k2,Tm.a]
  refine gw ?_
  all_goals (first | (simp [Sm.c,aE,aF]; done) | skip)
 ·rw [if_neg h0] at hr
  cases hr
  refine gs ?_
  refine hZ (tn) ?_
  simp [h0]
  refine gw ?_
  all_goals (first | (simp [Sm.c,aE,aF]; done) | skip)
end Go.Proofs.Tryz
