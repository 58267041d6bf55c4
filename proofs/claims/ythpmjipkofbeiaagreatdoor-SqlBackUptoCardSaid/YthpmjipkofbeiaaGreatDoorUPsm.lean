import Derived.Test.YthpmjipkofbeiaaGreatDoorURxr
set_option linter.all false
namespace Go.Proofs.Tryz
open Go.Ab
set_option maxRecDepth 100000
set_option maxHeartbeats 16000000
theorem aNO {f:Int} (hf:f=2∨f=3∨f=4) (a:Bool) (x y:Sm) (hx:StK x) (hy:StK y) :
  Cf Ej 37 [(Sm.mk f a false false [] [] [] [] [] [] [] [] [x,y]).a] [] (.d (.str (aEh f a [x.form,y.form] [oL x,oL y]))) []:=by
 refine cI EP (fn:=Tryz.f37) rfl ?_
 obtain ⟨px,lx⟩:=hx
 obtain ⟨py,ly⟩:=hy
 have c1:=x.clen
 have k1:=x.ctake
 rw [show aEh f a [x.form,y.form] [oL x,oL y]=oL x++32::(((setW[(f - 2).toNat]?).getD [])++((if a=true then 32::gM else [])++32::(if y.form=1 then oL y else 40::(oL y++[41])))) from rfl]
 generalize oL x=A at *
 generalize oL y=B at *
 obtain ⟨T,hT⟩:∃ T,T=if y.form=1 then B else 40::(B++[41]):=⟨_,rfl⟩
 have lT:T.length≤B.length+2:=by rw [hT]; split <;> simp
 rw [← hT]
 obtain ⟨f2,a2,d2,s2,is2,ft2,fq2,fn2,js2,w2,g2,h2,ks2⟩:=y
 simp [Sm.a,Sm.c,aE,aF] at py
 simp only [Sm.form] at hT
 have w0:IntKind.i64.wrap 0=0:=rfl
 have w1:IntKind.i64.wrap 1=1:=rfl
 have w2:IntKind.i64.wrap 2=2:=rfl
 have zF:(A.length≤9223372036854775806)∧(A.length≤9223372036854775801)∧(A.length≤9223372036854775800)∧(A.length≤9223372036854775797)∧(A.length≤9223372036854775796)∧(A.length≤9223372036854775799)∧(A.length≤9223372036854775793)∧(A.length+7+T.length≤9223372036854775807)∧(A.length≤9223372036854775795)∧(A.length≤9223372036854775798)∧(A.length≤9223372036854775792)∧(A.length+11+T.length≤9223372036854775807)∧(A.length+8+T.length≤9223372036854775807)∧(A.length+12+T.length≤9223372036854775807)∧(A.length≤9223372036854775794)∧(A.length≤9223372036854775791)∧(A.length+8+B.length≤9223372036854775807)∧(A.length+12+B.length≤9223372036854775807)∧(A.length+9+B.length≤9223372036854775807)∧(A.length+15+T.length≤9223372036854775807)∧(A.length+(B.length+1+1+1+1+1+1+1+1)≤9223372036854775806)∧(A.length+(B.length+1+1+1+1+1+1+1+1+1+1+1+1)≤9223372036854775806)∧(A.length+(B.length+1+1+1+1+1+1+1+1+1)≤9223372036854775806)∧(A.length+13+B.length≤9223372036854775807)∧(A.length+16+B.length≤9223372036854775807)∧(A.length+(B.length+1+1+1+1+1+1+1+1+1+1+1+1+1)≤9223372036854775806)∧(A.length+(B.length+1+1+1+1+1+1+1+1+1+1+1+1+1+1+1+1)≤9223372036854775806)∧True:=⟨by omega,by omega,by omega,by omega,by omega,by omega,by omega,by omega,by omega,by omega,by omega,by omega,by omega,by omega,by omega,by omega,by omega,by omega,by omega,by omega,by omega,by omega,by omega,by omega,by omega,by omega,by omega,trivial⟩ --Z
 by_cases hfo:f2=1
 ·replace hT:=hT.trans (if_pos hfo)
  subst hfo hT
  rcases hf with rfl | rfl | rfl <;> cases a
  all_goals
   simp [Sm.a,Sm.c,aE,aF,c1,k1]<;>(repeat' first|contradiction|exact .ok|apply And.intro|intro _|(apply gc<;>simp+contextual[c1,k1]))
   refine aA px (by simp [Sm.a]) ?_
   simp [zF,w0,w1,w2]<;>(repeat' first|contradiction|exact .ok|apply And.intro|intro _|(apply gc<;>simp+contextual[zF,w0,w1,w2]))
   refine aP py ?_
   simp [zF]<;>(repeat' first|contradiction|exact .ok|apply And.intro|intro _|(apply gc<;>simp+contextual[zF,w0,w1,w2]))
  all_goals (first | rfl | simp [setW,gM])
 ·replace hT:=hT.trans (if_neg hfo)
  subst hT
  rcases hf with rfl | rfl | rfl <;> cases a
  all_goals
   simp [Sm.a,Sm.c,aE,aF,c1,k1]<;>(repeat' first|contradiction|exact .ok|apply And.intro|intro _|(apply gc<;>simp+contextual[c1,k1]))
   refine aA px (by simp [Sm.a]) ?_
   simp [zF,hfo,w0,w1,w2]<;>(repeat' first|contradiction|exact .ok|apply And.intro|intro _|(apply gc<;>simp+contextual[zF,hfo,w0,w1,w2]))
   refine aP py ?_
   simp [zF]<;>(repeat' first|contradiction|exact .ok|apply And.intro|intro _|(apply gc<;>simp+contextual[zF,w0,w1,w2]))
  all_goals (first | rfl | simp [setW,gM])
noncomputable def aAs:Code:=(jN 3 mkC).2
noncomputable def aDJ:Code:=(jN 1 aAs).2
noncomputable def aGf:Code:=(jN 2 aDJ).2
noncomputable def aIL:Code:=(jN 1 aGf).2
noncomputable def aNk:Code:=(jN 1 aIL).2
theorem AW (L:List Int) (d i:Nat) (hd:d≤3) (hi:i≤900000):Cf En 6 [.ptr 1000000 0 0,.d (.int .i64 d)] [bR L i] (eA L d i).1.a [bR L (eA L d i).2] :=
 (aGD L d (by omega) i (by
  have hb:tb d≤685:=by
   have:d=0∨d=1∨d=2∨d=3:=by omega
   rcases this with rfl | rfl | rfl | rfl <;> decide
  omega)).2
theorem aLv (L:List Int) (dp:Int) (d sb:Bool) (i:Nat) (hi:i≤800000) (is:List It) (p:Nat) (hr:uJ L 4 sb 0 [] i=(is,p)) :
  bY En VZ 1 none (jN 1 aAs).1 (FM L dp i (cZ d sb .nils)) fun e s=>match e with
   | .normal=>∃ q:Nat,Ix q p∧Sub En VZ 1 s (FM L dp q (cZ d sb (.d (.sl (is.map It.c)))))
   | _=>False:=by
 simp only [aAs,mkC,VZ,Tryz.f13,Option.getD_some,fH,eS,FM]
 refine gs ?_
 refine iR fQ (by decide) (fun y:Nat×List It×Nat=>{ s:=eP [(0,.ptr 1000000 0 0),(1,.d (.int .i64 dp)),(4,.ptr 4 0 0),(7,.ptr 7 0 0),(8,.d (.int .i64 y.1))],b:=eG [(1000000,1000000,bR L y.2.2),(4,4,.var xM),(7,7,.var (cZ d sb (.ref 902 0 y.2.1.length 7))),(902,902,.arr 72 7 (y.2.1.map It.c) false)] })
  (fun y=>y.1≤3∧y.2.1.length=y.1∧y.2.2≤800000+1000*y.1∧uJ L (4 - y.1) sb y.1 y.2.1 y.2.2=(is,p)) (fun y=>4 - y.1) (0,[],i) ⟨by simp,by simp,by simp only; omega,hr⟩
  ((gV 7 902 72 7 4 (cells:=cZ d sb .nils) (by simp) rfl (by simp) (by decide) (by decide)).trans (sZ _ [(4,4,_),(7,7,_),(902,902,_)] (by simp [aD,Blk.live]) (by simp [aD]))) ?_
 rintro ⟨k,l,j⟩ ⟨hk,hl,hj,hr2⟩
 simp only at hk hl hj hr2
 obtain ⟨f,hf⟩:∃ f,4 - k=f+1:=⟨3 - k,by omega⟩
 rw [hf,uJ] at hr2
 have n3:=cT L j (n:=3) (by omega)
 have hw1:=wI (n:=1+aQ L j 3)
 have hwk:=wI (n:=(k:Int)+1)
 have hb:(l.length+1)*96≤140737488355328∧l.length≤9223372036854775806:=by omega
 refine gs ?_
 refine hZ (jA L j (by omega) 3 (by omega) (by omega)) ?_
 by_cases hc:(k:Int)<1+aQ L j 3
 ·cases sb with
  | true =>
    rw [if_neg (by simp)] at hr2
    cases hr2
    simp [hc,hw1]
    refine gw ?_
    refine ⟨_,rfl,?_⟩
    exact sZ _ [(4,4,_),(7,7,_)] (by simp [aD,Blk.live]) (by simp [aD])
  | false =>
    rw [if_pos ⟨hc,rfl⟩] at hr2
    have hit:=aBF L (i:=j+1) (by omega)
    have htm:=AW L 3 (j+1) (by omega) (by omega)
    have htg:=(tmG L (d:=3) (by omega) (j+1))
    have htl:=htg.le (by omega)
    unfold JQ at hr2 hit
    generalize eA L 3 (j+1)=x at *
    obtain ⟨x,q⟩:=x
    simp only at hr2 hit htm htl
    have c1:=x.clen
    have k1:=x.ctake
    have k2:=x.ctake'
    have n2:=jA L q (by omega) 2 (by omega) (by omega)
    simp [hc,hw1]
    refine gw ?_
    refine hZ (htm) ?_
    simp [c1,Tm.a]
    refine gw ?_
    refine hZ (n2) ?_
    by_cases h2:aQ L q 2=0
    ·rw [if_pos h2] at hr2 hit
     have n33:=cT L (q+1) (n:=3) (by omega)
     have hw:=aIO (l:=nmI) rfl n33
     have h00:=n33.1
     have h22:=n33.2
     have t3:=jA L (q+1) (by omega) 3 (by omega) (by omega)
     generalize WZ nmI (aQ L (q+1) 3)=w at *
     generalize aQ L (q+1) 3=u at *
     simp [nmI] at hw
     have hnk:∀ h,[[D.str [97]],[D.str [98]],[D.str [99,48]]][u.toNat]'h=[D.str w]:=fun h=>(List.getElem?_eq_some_iff.1 hw).2
     simp [h2]
     refine gw ?_
     refine hZ (t3) ?_
     simp [h00,h22,hnk,hb]
     refine gw ?_
     refine ⟨(k+1,l++[⟨x,w⟩],q+2),⟨by simp only; omega,by simp [hl],by simp only at hit ⊢; omega,?_⟩,?_,by simp only; omega⟩
     ·rw [show 4 - (k+1)=f from by omega]; exact hr2
     exact sZ _ [(4,4,_),(7,7,_),(902,74,_)] (by simp [aD,Blk.live,It.c]; try omega) (by simp [aD,hwk])
    ·rw [if_neg h2] at hr2 hit
     simp [h2,hb]
     refine gw ?_
     refine ⟨(k+1,l++[⟨x,[]⟩],q+1),⟨by simp only; omega,by simp [hl],by simp only at hit ⊢; omega,?_⟩,?_,by simp only; omega⟩
     ·rw [show 4 - (k+1)=f from by omega]; exact hr2
     exact sZ _ [(4,4,_),(7,7,_),(902,74,_)] (by simp [aD,Blk.live,It.c]; try omega) (by simp [aD,hwk])
 ·rw [if_neg (fun h=>hc h.1)] at hr2
  cases hr2
  simp [hc,hw1]
  refine gw ?_
  refine ⟨_,rfl,?_⟩
  exact sZ _ [(4,4,_),(7,7,_)] (by simp [aD,Blk.live]) (by simp [aD])
structure QK (p:Prop):Prop where
 out:p
def aNl (L:List Int) (dp:Int) (st:Nat→Sm×Nat) (deep:Bool) (B:Nat):Prop:=∀ (nm:List UInt8) (i:Nat),i+(B+5)≤700000 →
    Cf En 35 [.ptr 1000000 0 0,.d (.int .i64 dp),.d (.str nm)] [bR L i] (jJ (nE L st deep nm i).1.1 (nE L st deep nm i).1.2.1 (nE L st deep nm i).1.2.2) [bR L (nE L st deep nm i).2]
theorem aLw (L:List Int) (dp:Int) {st:Nat→Sm×Nat} {deep:Bool} {B K:Nat} (hm:MkG st B K) (hs:aNl L dp st deep B) (d sb:Bool) (is:List It) (i:Nat) (hi:i+4*(B+1000)≤700000) (so:SoG) (js:List Jo) (p0 p:Nat)
  (hso:nE L st deep [120] i=(so,p0)) (hr:oI L st deep (aQ L p0 3).toNat [] (p0+1)=(js,p)) :
  bY En VZ 1 none (jN 2 aDJ).1 (FM L dp i (cZ d sb (.d (.sl (is.map It.c))))) fun e s=>match e with
   | .normal=>∃ q:Nat,Ix q p∧Sub En VZ 1 s (FM L dp q (cM d sb (.d (.sl (is.map It.c))) so (.d (.sl (js.map Jo.c))) .nils .nils .nils))
   | _=>False:=by
 simp only [aDJ,aAs,mkC,VZ,Tryz.f13,Option.getD_some,fH,eS,FM]
 have hc:=hs [120] i (by omega)
 have hok:=BA L hm deep (nm:=[120]) (by simp) (i:=i) (by omega)
 rw [hso] at hc hok
 clear hso
 replace hr:QK _:=⟨hr⟩
 obtain ⟨t,q,n⟩:=so
 simp only [jJ,kK,aE] at hc hok
 have n3:=cT L p0 (n:=3) (by omega)
 have hp0:p0+3*(B+1000)≤800000∧p0≤i+(B+5):=by omega
 have hpl:p0≤800000:=by omega
 have tn:=jA L p0 (by omega) 3 (by omega) (by omega)
 have hp0i:p0+1+2*(B+1000)≤i+3*(B+1000):=by omega
 replace hp0i:QK _:=⟨hp0i⟩
 replace hi:QK _:=⟨hi⟩
 clear hp0 hok
 refine gs ?_
 refine hZ (hc) ?_
 refine gs ?_
 refine hZ (tn) ?_
 obtain ⟨m,hmz⟩:∃ m:Nat,aQ L p0 3=m:=⟨(aQ L p0 3).toNat,by omega⟩
 replace hr:=hr.out
 rw [hmz] at n3 hr ⊢
 simp only [Int.toNat_natCast] at hr
 replace hr:QK _:=⟨hr⟩
 refine gs ?_
 refine iR fQ (by decide) (fun y:Nat×List Jo×Nat=>{ s:=eP [(0,.ptr 1000000 0 0),(1,.d (.int .i64 dp)),(4,.ptr 4 0 0),(7,.ptr 7 0 0),(10,.d (.int .i64 y.1))],b:=eG [(1000000,1000000,bR L y.2.2),(4,4,.var xM),(7,7,.var (cM d sb (.d (.sl (is.map It.c))) (t,q,n) (.ref 903 0 y.2.1.length 5) .nils .nils .nils)),(903,903,.arr 75 5 (y.2.1.map Jo.c) false)] })
  (fun y=>y.1≤2∧y.2.1.length+y.1≤2∧y.2.2+y.1*(B+1000)≤i+3*(B+1000)∧oI L st deep y.1 y.2.1 y.2.2=(js,p)) (fun y=>y.1) (m,[],p0+1) ⟨by simp only; omega,by simp only [List.length_nil]; omega,by simp only; have:m*(B+1000)≤2*(B+1000):=Nat.mul_le_mul_right _ (by omega); have:=hp0i.out; omega,hr.out⟩
  ((gV 7 903 75 5 8 (cells:=cM d sb (.d (.sl (is.map It.c))) (t,q,n) .nils .nils .nils .nils) (by simp) rfl (by simp) (by decide) (by decide)).trans (sZ _ [(4,4,_),(7,7,_),(903,903,_)] (by simp [aD,Blk.live]) (by simp [aD]))) ?_
 clear hc hr hmz n3 hp0i tn hpl
 rintro ⟨k,l,j⟩ ⟨hk,hl,hj,hr⟩
 simp only at hk hl hj hr
 cases k with
 | zero =>
   rw [oI] at hr
   cases hr
   clear hj
   refine gs ?_
   refine ⟨_,rfl,?_⟩
   exact sZ _ [(4,4,_),(7,7,_)] (by simp [aD,Blk.live]) (by simp [aD])
 | succ k =>
   rw [oI] at hr
   rw [Nat.succ_mul] at hj
   replace hi:=hi.out
   have hjb:j≤800000:=by omega
   have hpos:(0:Int)<(k:Int)+1:=by omega
   have n7:=cT L j (n:=7) (by omega)
   have n3:=cT L (j+1) (n:=3) (by omega)
   have hw:=aIO (l:=nmJ) rfl n3
   have hpl:=FU (l:=nmJ) (by decide) (aQ L (j+1) 3)
   have h00:=n3.1
   have h22:=n3.2
   have t7:=jA L j (by omega) 7 (by omega) (by omega)
   have t3:=jA L (j+1) (by omega) 3 (by omega) (by omega)
   have hjo:=aBG L hm deep (i:=j) (by omega)
   have hwk:=wI (n:=(k:Int))
   have hb:(l.length+1)*88≤140737488355328∧l.length≤9223372036854775806:=by omega
   have hc:=hs (WZ nmJ (aQ L (j+1) 3)) (j+2) (by omega)
   have hok:=BA L hm deep hpl (i:=j+2) (by omega)
   rw [show ((j+2:Nat):Int)=((j+1+1:Nat):Int) from rfl] at hc
   unfold ET at hr hjo
   simp only at hr hjo
   generalize nE L st deep (WZ nmJ (aQ L (j+1) 3)) (j+2)=z at *
   obtain ⟨⟨t2,q2,n2⟩,e⟩:=z
   simp only [jJ,kK,aE] at hr hc hok hjo
   generalize WZ nmJ (aQ L (j+1) 3)=w at *
   generalize aQ L (j+1) 3=u at *
   simp [nmJ] at hw
   have hnk:∀ h,[[D.str [121]],[D.str [122]],[D.str [120]]][u.toNat]'h=[D.str w]:=fun h=>(List.getElem?_eq_some_iff.1 hw).2
   replace hr:QK _:=⟨hr⟩
   replace hi:QK _:=⟨hi⟩
   replace hj:QK _:=⟨hj⟩
   replace hok:QK _:=⟨hok⟩
   replace hjo:QK _:=⟨hjo⟩
   simp [hpos]
   refine gw ?_
   refine hZ (t7) ?_
   generalize aQ L j 7=kd at *
   refine gs ?_
   refine hZ (t3) ?_
   simp [h00,h22,hnk]
   refine gw ?_
   refine hZ (hc) ?_
   by_cases hkd:0<kd
   ·replace hr:=hr.out
    replace hjo:=hjo.out
    have hie:=hi.out
    have hje:=hj.out
    have hoke:=hok.out
    rw [if_pos hkd] at hr hjo
    have htm:=AW L 3 e (by omega) (by omega)
    have htg:=(tmG L (d:=3) (by omega) e)
    have htl:=htg.le (by omega)
    generalize eA L 3 e=x at *
    obtain ⟨x,e2⟩:=x
    simp only at hr htm htl hjo
    have hfin:e2+k*(B+1000)≤i+3*(B+1000):=by omega
    replace hfin:QK _:=⟨hfin⟩
    replace hr:QK _:=⟨hr⟩
    clear hie hje hoke hjo htl htg
    have c1:=x.clen
    have k1:=x.ctake
    have k2:=x.ctake'
    simp [hkd]
    refine gw ?_
    refine hZ (htm) ?_
    simp [c1,k2,Tm.a,hb,hwk]
    refine gw ?_
    refine ⟨(k,l++[.mk kd t2 q2 n2 [x]],e2),⟨by simp only; omega,by simp only [List.length_append,List.length_singleton]; omega,hfin.out,hr.out⟩,?_,by simp only; omega⟩
    exact sZ _ [(4,4,_),(7,7,_),(903,108,_)] (by simp [aD,Blk.live,Jo.c,aE]; try omega) (by simp [aD])
   ·replace hr:=hr.out
    replace hjo:=hjo.out
    have hie:=hi.out
    have hje:=hj.out
    rw [if_neg hkd] at hr hjo
    simp only at hr hjo
    have hfin:e+k*(B+1000)≤i+3*(B+1000):=by omega
    replace hfin:QK _:=⟨hfin⟩
    replace hr:QK _:=⟨hr⟩
    clear hie hje hjo
    simp [hkd,hb,hwk]
    refine gw ?_
    refine ⟨(k,l++[.mk kd t2 q2 n2 []],e),⟨by simp only; omega,by simp only [List.length_append,List.length_singleton]; omega,hfin.out,hr.out⟩,?_,by simp only; omega⟩
    exact sZ _ [(4,4,_),(7,7,_),(903,108,_)] (by simp [aD,Blk.live,Jo.c,aE]; try omega) (by simp [aD])
theorem FV {α:Type} {r r':cY α} (h:Sim id id r r') {t:α} {m:List Tk} (hr:r=.ok (t,m)):okE m:=by
 subst hr
 exact h.1
def aDN (o:Option Nat):Int:=match o with | some i=>(i:Int) | none=>-1
def BC (ws:List (List UInt8)) (l:List Tk):List Tk:=match bN ws l with | some _=>l.tail | none=>l
theorem aBM {T l:List Tk} (ha:At T l) (hT:T.length≤10000) {ws:List (List UInt8)} (hw:ws.length≤100) :
  Cf Es 77 [.ptr 1000000 0 0,.d (.sl (ws.map fun w=>[.str w]))] [dE T l] (.d (.int .i64 (aDN (bN ws l)))) [dE T (BC ws l)]:=by
 unfold BC
 cases h:bN ws l with
 | some i=>exact zZ ha hT hw h
 | none=>exact HZ ha hT hw h
theorem aGt {T l:List Tk} (ha:At T l) (ws:List (List UInt8)):At T (BC ws l)∧(BC ws l).length+(if (bN ws l).isSome=true then 1 else 0)≤l.length:=by
 unfold BC
 cases h:bN ws l with
 | some i =>
   have hlen:=lI h
   exact ⟨ha.tl1 h,by simp only [Option.isSome_some,if_true]; omega⟩
 | none=>exact ⟨ha,by simp⟩
def stK (tm:List Tk→cY Tm) (st:List Tk→cY Sm) (x:Sm) (l:List Tk):Option Nat→cY Sm
 | none=>.ok (x,l)
 | some i=>aR (jQ tm st (fB gM l).2) fun y l'=>stC tm st (uI i (fB gM l).1 x y) l'
theorem aKc {tm:List Tk→cY Tm} {st:List Tk→cY Sm} (hT:∀ l,SfxOk (tm l) l) (hS:∀ l,SfxOk (st l) l) (x:Sm) (l:List Tk):stC tm st x l=stK tm st x (BC setW l) (bN setW l):=by
 rw [aKH hT hS]
 unfold BC
 cases bN setW l <;> rfl
section
variable {fD:Nat→D} {T:List Tk} {L:Nat} {tm:List Tk→cY Tm} {st:List Tk→cY Sm}
theorem aLN {l:List Tk} (hF:iN fD) (ht:Rule Es fD T (L+1) 31 tm) (hs:RuleX So.a Es fD T (L+1) 158 (fF st)) (hst:RuleX Sm.a Es fD T L 44 st) (hT:T.length≤10000) (ha:At T l) (hl:l.length≤L+1) :
  CfO Es 76 [.ptr 1000000 0 0] [dE T l] (iZ Sm.a fD T (jQ tm st l)):=by
 have hsel:=WC hF ht hs hst.sfx hT ha hl
 generalize ho:iZ Sm.a fD T (jQ tm st l)=o
 unfold jQ at ho
 refine eM bI (fn:=Tryz.f76) (by kernel_rfl) rfl (by kernel_rfl) (by decide) o (by simp) (by simp [dE]) ?_
 refine gs ?_
 cases hw:isW bF l with
 | true =>
   rw [hw,if_pos rfl] at ho
   have hlen:=eF hw
   refine hZ (dK ha hT hw) ?_
   refine gs ?_
   rcases hst.step (ha.tl hw) (by omega) with ⟨e,he,hc⟩ | ⟨x,l1,he,h1,hl1,hc⟩
   ·rw [he,bT] at ho
    subst ho
    exact pZ (hc)
   rw [he,bJ] at ho
   refine hZ (hc) ?_
   refine gs ?_
   rcases dX hF h1 hT [aY] (by decide) with ⟨e,he2,hc2⟩ | ⟨l2,he2,h2,hl2,hc2⟩
   ·rw [he2] at ho
    subst ho
    exact pZ (hc2)
   rw [he2,dW] at ho
   subst ho
   refine hZ (hc2) ?_
   simp only [iZ]
   exact gq
 | false =>
   rw [hw,if_neg (by simp)] at ho
   rw [ho] at hsel
   refine hZ (eE ha hT hw) ?_
   refine gs ?_
   cases hp:vL tm st l with
   | error e =>
     rw [hp] at ho
     subst ho
     exact pZ (hsel)
   | ok x =>
     obtain ⟨x,m⟩:=x
     rw [hp] at ho
     subst ho
     simp only [iZ] at hsel
     refine hZ (hsel) ?_
     simp only [iZ]
     exact gq
@[simp] def zSd:List D:=[.int .i64 0,.bool false,.bool false,.bool false,.sl [],.str [],.sl [],.str [],.sl [],.sl [],.sl [],.sl [],.sl []]
theorem WF {l:List Tk} (hF:iN fD) (hTs:∀ l,SfxOk (tm l) l) (hSs:∀ l,SfxOk (st l) l) (hc:RuleX Sm.a Es fD T L 76 (jQ tm st)) (hT:T.length≤10000) (ha:At T l) (hl:l.length≤L) :
  CfO Es 44 [.ptr 1000000 0 0] [dE T l] (iZ Sm.a fD T (aR (jQ tm st l) fun x l'=>stC tm st x l')):=by
 generalize ho:iZ Sm.a fD T (aR (jQ tm st l) fun x l'=>stC tm st x l')=o
 refine eM bI (fn:=Tryz.f44) (by kernel_rfl) rfl (by kernel_rfl) (by decide) o (by simp) (by simp [dE]) ?_
 refine gs ?_
 rcases hc.step ha hl with ⟨e,he,hc1⟩ | ⟨x,l1,he,h1,hl1,hc1⟩
 ·rw [he,bT] at ho
  subst ho
  exact pZ (hc1)
 rw [he,bJ,aKc hTs hSs] at ho
 refine hZ (hc1) ?_
 refine gs ?_
 have ho1:=aBM h1 hT (ws:=setW) (by decide)
 obtain ⟨h2,hl2⟩:=aGt h1 setW
 have hlt:∀ l i,bN setW l=some i→i<3:=fun l i hi=>by
  unfold bN at hi
  exact (List.findIdx?_eq_some_iff_getElem.1 hi).1
 have hi1:=hlt l1
 generalize bN setW l1=k1 at *
 generalize BC setW l1=l2 at *
 refine hZ (ho1) ?_
 refine gs ?_
 refine iR bI (by decide) (fun y:Option Nat×Sm×List Tk=>{ s:=eP [(0,.ptr 1000000 0 0),(2,.ptr 2 0 0),(3,.ptr 3 0 0),(4,.d (.int .i64 (aDN y.1)))],b:=eG [(1000000,1000000,dE T y.2.2),(2,2,.var xM),(3,3,.var (y.2.1.c.map AV.d))] })
  (fun y=>At T y.2.2∧y.2.2.length≤L∧(∀ i,y.1=some i→i<3)∧iZ Sm.a fD T (stK tm st y.2.1 y.2.2 y.1)=o) (fun y=>y.2.2.length+if y.1.isSome=true then 1 else 0) (k1,x,l2) ⟨h2,by simp only; omega,hi1,ho⟩
  (sZ _ [(2,2,_),(3,3,_)] (by simp [aD,Blk.live]) (by simp [aD])) ?_
 clear h1 hl1 hc1 he h2 hl2 ho hi1 ho1 hl
 rintro ⟨k,x,l⟩ ⟨h3,hl3,hk,ho3⟩
 simp only at h3 hl3 hk ho3
 cases k with
 | none =>
   simp only [stK] at ho3
   subst ho3
   simp only [iZ,aDN]
   exact gq
 | some i =>
   have hi:=hk i rfl
   simp only [stK] at ho3
   have hge:(0:Int)≤(i:Int):=by omega
   have hwr:=wI (n:=2+(i:Int))
   have hto:=vV h3 hT gM
   have h4:At T (fB gM l).2:=h3.to (nQ _ _) (yB h3.ok)
   have hl4:=nP gM l
   generalize fB gM l=z at *
   obtain ⟨al,l4⟩:=z
   simp only at ho3 hto h4 hl4
   simp only [aDN]
   simp [hge]
   refine gw ?_
   refine hZ (hto) ?_
   refine gs ?_
   rcases hc.step h4 (by omega) with ⟨e,he5,hc5⟩ | ⟨y,l5,he5,h5,hl5,hc5⟩
   ·rw [he5,bT] at ho3
    subst ho3
    exact pZ (hc5)
   rw [he5,bJ,aKc hTs hSs] at ho3
   have ho6:=aBM h5 hT (ws:=setW) (by decide)
   obtain ⟨h6,hl6⟩:=aGt h5 setW
   have hi6:=hlt l5
   generalize bN setW l5=k6 at *
   generalize BC setW l5=l6 at *
   refine hZ (hc5) ?_
   simp [hwr]
   refine gw ?_
   refine hZ (ho6) ?_
   refine gs ?_
   refine ⟨(k6,uI i al x y,l6),⟨h6,by simp only; omega,hi6,ho3⟩,?_,by simp only [Option.isSome_some,if_true]; omega⟩
   refine (show Ab.Sub Es 29 1 _ { s:=eP [(0,.ptr 1000000 0 0),(2,.ptr 2 0 0),(3,.ptr 3 0 0),(4,.d (.int .i64 (aDN k6)))],b:=eG [(1000000,1000000,dE T l6),(2,2,.var xM),(3,3,.var [.d (.int .i64 (2+(i:Int))),.d (.bool al),.d (.bool false),.d (.bool false),.nils,.d (.str []),.nils,.d (.str []),.nils,.nils,.nils,.nils,.d (.sl [x.c,y.c])])] } from
    sZ _ [(2,2,_),(3,3,_)] (by simp [aD,Blk.live]) (by simp [aD])).trans ?_
   refine (zB 3 (cells:=[.d (.int .i64 (2+(i:Int))),.d (.bool al),.d (.bool false),.d (.bool false),.nils,.d (.str []),.nils,.d (.str []),.nils,.nils,.nils,.nils,.d (.sl [x.c,y.c])]) [.int .i64 (2+(i:Int)),.bool al,.bool false,.bool false,.sl [],.str [],.sl [],.str [],.sl [],.sl [],.sl [],.sl [],.sl [x.c,y.c]] (by simp) rfl ?_).trans ?_
   ·intro k c d hc hd
    match k,hc,hd with
    | 0,hc,hd=>cases hc; cases hd; rfl
    | 1,hc,hd=>cases hc; cases hd; rfl
    | 2,hc,hd=>cases hc; cases hd; rfl
    | 3,hc,hd=>cases hc; cases hd; rfl
    | 4,hc,hd=>cases hc; cases hd; rfl
    | 5,hc,hd=>cases hc; cases hd; rfl
    | 6,hc,hd=>cases hc; cases hd; rfl
    | 7,hc,hd=>cases hc; cases hd; rfl
    | 8,hc,hd=>cases hc; cases hd; rfl
    | 9,hc,hd=>cases hc; cases hd; rfl
    | 10,hc,hd=>cases hc; cases hd; rfl
    | 11,hc,hd=>cases hc; cases hd; rfl
    | 12,hc,hd=>cases hc; cases hd; rfl
    | k+13,hc,hd=>simp at hc
   exact sZ _ [(2,2,_),(3,3,_)] (by simp [aD,Blk.live,uI,Sm.c]) (by simp [aD,aDN])
end
theorem aGu {fD:Nat→D} (hF:iN fD) {T:List Tk} (hV:okT T) (hT:T.length≤10000) {N:Nat} (hN:9*T.length+8≤N):∀ (n:Nat) (l:List Tk),At T l→l.length<n→CfO Es 44 [.ptr 1000000 0 0] [dE T l] (iZ Sm.a fD T (eV N n l))
 | 0,l,ha,hn=>by omega
 | n+1,l,ha,hn=>by
   have hlT:=ha.sfx.length_le
   have hpos:=List.length_pos_iff.2 ha.ne
   have ht:Rule Es fD T l.length 31 (bA N 0) :=
    ⟨fun l' ha' hl'=>aJP hF hV hT N 0 l' (by omega) ha' (by unfold vG; omega),fun l'=>aV N 0 l',fun l' t m ho hp=>aBn N 0 ho hp⟩
   have hst:RuleX Sm.a Es fD T (l.length - 1) 44 (eV N n) :=
    ⟨fun l' ha' hl'=>aGu hF hV hT hN n l' ha' (by omega),fun l'=>iY N n l',fun l' t m ho hp=>FV (sK (f:=id) (g:=id) (fun _=>⟨rfl,rfl,rfl,rfl,rfl⟩) N n l' ho) hp⟩
   obtain ⟨L,hL⟩:∃ L,l.length=L+1:=⟨l.length - 1,by omega⟩
   rw [hL] at ht hst
   have tmS:∀ l,okE l→Sim id id (bA N 0 l) (bA N 0 (l.map id)):=fun l hl=>eQ (f:=id) (g:=id) (fun _=>⟨rfl,rfl,rfl,rfl,rfl⟩) N 0 l hl
   have stS:∀ l,okE l→Sim id id (eV N n l) (eV N n (l.map id)):=fun l hl=>sK (f:=id) (g:=id) (fun _=>⟨rfl,rfl,rfl,rfl,rfl⟩) N n l hl
   have hso:RuleX So.a Es fD T (L+1) 158 (fF (eV N n)) :=
    ⟨fun l' ha' hl'=>aFQ hF hst hT ha' hl',fun l'=>kI hst.sfx l',fun l' t m ho hp=>FV (yC (f:=id) (g:=id) (fun _=>⟨rfl,rfl,rfl,rfl,rfl⟩) stS ho) hp⟩
   have hco:RuleX Sm.a Es fD T (L+1) 76 (jQ (bA N 0) (eV N n)) :=
    ⟨fun l' ha' hl'=>aLN hF ht hso hst hT ha' hl',fun l'=>lD ht.sfx hst.sfx l',fun l' t m ho hp=>FV (II (f:=id) (g:=id) (fun _=>⟨rfl,rfl,rfl,rfl,rfl⟩) tmS stS ho) hp⟩
   rw [eV]
   exact WF hF ht.sfx hst.sfx hco hT ha (by omega)
def ZZ (s:List UInt8):Sm×Int×Int :=
 if s.length≤4000 then (match LI (eV pX 6000) s with
  | .error p=>(zeS,(p:Int),2)
  | .ok x=>if x.dep≤24 then (x,0,0) else (zeS,0,13)) else (zeS,0,8)
theorem aIk {s:List UInt8} (hs:s.length≤4000) :
  CfO Es 43 [.ptr 1000000 0 0,.ptr 1000001 0 0] [dE (bX s) (bX s),.var xM] (match eV pX 6000 (bX s) with
   | .error p=>.pan (flD p)
   | .ok (x,m)=>.ret (.tup []) [dE (bX s) m,.var (x.c.map AV.d)]):=by
 have hlen:=kJ s
 have ha:At (bX s) (bX s):=⟨List.suffix_refl _,HY s⟩
 have h:=aGu aFk (aKR (s:=s) (by omega)) (by omega) (N:=pX) (by unfold pX; omega) 6000 (bX s) ha (by omega)
 generalize ho:(match eV pX 6000 (bX s) with
   | .error p=>Out.pan (flD p)
   | .ok (x,m)=>.ret (.tup []) [dE (bX s) m,.var (x.c.map AV.d)])=o
 refine eM bI (fn:=Tryz.f43) (by kernel_rfl) rfl (by kernel_rfl) (by decide) o (by simp) (by simp [dE]) ?_
 cases hp:eV pX 6000 (bX s) with
 | error e =>
   rw [hp] at h ho
   subst ho
   refine gs ?_
   exact pZ (h)
 | ok x =>
   obtain ⟨x,m⟩:=x
   rw [hp] at h ho
   subst ho
   simp only [iZ] at h
   refine gs ?_
   refine hZ (h) ?_
   refine gs ?_
   all_goals (rw [aIo]; simp [aD,BR,zN])
theorem aAa:Own xM:=fun r bl=>by simp
theorem aJQ (x:Sm):Own (x.c.map AV.d):=fun r bl=>ZP r bl true x.c
theorem aIl {s:List UInt8} (hs:s.length≤1000000):∃ pos e:Int,∃ Y:Blk,
  Cf Es 29 [.d (.str s),.clo 43 [.ptr 1000000 0 0]] [.var xM] (.tup [.d (.int .i64 pos),.d (.int .i64 e)]) [Y] ∧
  ((¬ e=0∧ZZ s=(zeS,pos,e)∧(Y=.dead∨Y=.var xM))∨(∃ x:Sm,e=0∧pos=0∧Y=.var (x.c.map AV.d)∧sG x∧ZZ s=if x.dep≤24 then (x,0,0) else (zeS,0,13))):=by
 by_cases hl:s.length≤4000
 ·have hr:=aIk (s:=s) (by omega)
  have ha:At (bX s) (bX s):=⟨List.suffix_refl _,HY s⟩
  have hlen:=kJ s
  cases hp:eV pX 6000 (bX s) with
  | error e =>
    rw [hp] at hr
    refine ⟨e,2,.dead,aAi hl aAa hr,.inl ⟨by decide,?_,.inl rfl⟩⟩
    unfold ZZ LI
    rw [if_pos hl,hp]
  | ok x =>
    obtain ⟨x,m⟩:=x
    rw [hp] at hr
    have hm:At (bX s) m:=ha.to (iY _ _ _ x m hp) (FV (sK (f:=id) (g:=id) (fun _=>⟨rfl,rfl,rfl,rfl,rfl⟩) _ _ _ ha.ok) hp)
    have hpl:=aAb hm
    by_cases hk:(eU m).kd=5
    ·refine ⟨0,0,_,aDx (α:=Unit) hl aAa (aJQ x) hm hk (hpl.1 hk) hr,.inr ⟨x,rfl,rfl,rfl,wK _ _ _ (by omega) x m hp,?_⟩⟩
     unfold ZZ LI
     rw [if_pos hl,hp]
     simp only [hk,if_true]
    ·refine ⟨lN m,2,.dead,VK hl aAa (aJQ x) hm hk hpl.2 hr,.inl ⟨by decide,?_,.inl rfl⟩⟩
     unfold ZZ LI
     rw [if_pos hl,hp]
     simp only [hk,if_false]
 ·refine ⟨0,8,.var xM,VL hl hs,.inl ⟨by decide,?_,.inr rfl⟩⟩
  unfold ZZ
  rw [if_neg hl]
def psA (s:List UInt8):AV:=.tup [(ZZ s).1.a,.d (.int .i64 (ZZ s).2.1),.d (.int .i64 (ZZ s).2.2)]
theorem aIm {s:List UInt8} (hs:s.length≤1000000):Cf Es 18 [.d (.str s)] [] (psA s) []:=by
 obtain ⟨pos,e,Y,hr,h⟩:=aIl hs
 unfold psA
 refine cI bI (fn:=Tryz.f18) rfl ?_
 rcases h with ⟨he,hp,hY⟩ | ⟨x,he,hpos,hY,hf,hp⟩
 ·rw [hp]
  refine gs ?_
  rcases hY with rfl | rfl
  ·refine aH [5] hr (by simp) (by simp) ?_
   simp [he]
   refine gw ?_
   all_goals simp [zeS,Sm.c]
  ·refine aH [5] hr (by simp) (by simp) ?_
   simp [he]
   refine gw ?_
   all_goals simp [zeS,Sm.c]
 ·subst he hpos hY
  have hd:=iQ (QJ _ x (Nat.lt_succ_self _) hf.1 hf.2)
  rw [hp]
  refine gs ?_
  refine aH [5] hr (by simp) (by simp) ?_
  refine gs ?_
  refine aP hd ?_
  by_cases h24:x.dep≤24
  ·have h24':¬ (24:Int)<x.dep:=by omega
   rw [if_pos h24]
   simp [h24'] <;> exact gz
  ·have h24':(24:Int)<x.dep:=by omega
   rw [if_neg h24]
   simp [h24']
   refine gw ?_
   all_goals simp [zeS,Sm.c]
end Go.Proofs.Tryz
