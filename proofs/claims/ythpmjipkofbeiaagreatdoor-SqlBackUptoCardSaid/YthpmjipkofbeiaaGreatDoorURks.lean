import Derived.Test.YthpmjipkofbeiaaGreatDoorURlv
set_option linter.all false
namespace Go.Proofs.Tryz
open Go.Ab
set_option maxRecDepth 100000
set_option maxHeartbeats 4000000
def aFF (p q:RS→Tm×RS) (st:RS):Tm×RS :=
    let a:=p st
    match fR cmpW a.2 with
    | some i=>(cD (14+i) [a.1,(p (aK a.2)).1],(p (aK a.2)).2)
    | none =>
      if dJ wIn a.2=true then
       let b:=q (aN bF (aK a.2))
       let m:=gK q b.2.1.length [a.1,b.1] b.2
       (cD 28 m.1,aN aY m.2)
      else if dJ wIs a.2=true then
       let s2:=aK a.2
       if dJ wNull s2=true then (cD 21 [a.1],aK s2)
       else if dJ wTrue s2=true then (cD 25 [a.1],aK s2)
       else if dJ wNot s2=true then (cD 24 [cD 21 [a.1]],aN wNull (aK s2))
       else (a.1,jC s2)
      else a
theorem CR {ws:List (List UInt8)} {st:RS} {i:Nat} (hi:i<ws.length) (h0:∀ j (h:j<ws.length),j<i→dJ ws[j] st=false) (h1:dJ ws[i] st=true):fR ws st=some i:=by
 obtain ⟨hb,hw⟩:=aBu h1
 unfold fR bN
 rw [if_pos hb,List.findIdx?_eq_some_iff_getElem]
 refine ⟨hi,hw,fun j hj=>?_⟩
 have:=h0 j (by omega) hj
 unfold dJ at this
 simp only [hb,decide_true,Bool.true_and] at this
 rw [this]; simp
theorem CS {ws:List (List UInt8)} {st:RS} (h0:∀ j (h:j<ws.length),dJ ws[j] st=false):fR ws st=none:=by
 unfold fR bN
 split
 ·rename_i hb
  rw [List.findIdx?_eq_none_iff]
  intro w hw
  obtain ⟨j,hj,rfl⟩:=List.getElem_of_mem hw
  have:=h0 j hj
  unfold dJ at this
  simpa [hb] using this
 ·rfl
section
variable {s:List UInt8} (hs:s.length≤5000) {L:Nat} {p q:RS→Tm×RS} {st:RS}
include hs
theorem PZ (hp:LO s (L+1) 170 p) (hq:LO s L 27 q) (hL:L≤10000) (ha:At (bX s) st.1) (hl:st.1.length≤L+1) :
  Cf Es 136 [.ptr 1000000 0 0] [iP s st] (aFF p q st).1.a [iP s (aFF p q st).2]:=by
 have h1:=hp.run st ha hl
 have k1:=hp.kp st
 have ha1:=ha.kp k1
 have hl1:=k1.le
 generalize hres:aFF p q st=res
 unfold aFF at hres
 refine cI bI (fn:=Tryz.f136) rfl ?_
 generalize p st=a at *
 obtain ⟨t,st1⟩:=a
 simp only at hres h1 k1 ha1 hl1
 refine gs ?_
 refine kZ (h1) ?_
 refine gs ?_
 obtain ⟨ws,hws⟩:∃ ws,ws=cmpW:=⟨_,rfl⟩
 rw [← hws] at hres
 have hwl:ws.length=7:=by rw [hws]; rfl
 have hwm:ws.map (fun w=>[D.str w])=[[.str [61]],[.str [60,62]],[.str [60]],[.str [60,61]],[.str [62]],[.str [62,61]],[.str [115,97,109,101]]]:=by rw [hws]; rfl
 refine aL bI (fun i:Nat=>{ s:=eP [(0,.ptr 1000000 0 0),(2,.ptr 2 0 0),(3,.ptr 3 0 0),(4,.d (.sl (ws.map fun w=>[.str w]))),(5,.d (.int .i64 i))],b:=eG [(1000000,1000000,iP s st1),(2,2,.var zTm),(3,3,.var (t.c.map AV.d))] })
  (fun i=>i≤7∧∀ j (h:j<ws.length),j<i→dJ ws[j] st1=false) (fun i=>7 - i) 0 ⟨by simp,fun j h hj=>by omega⟩
  (sZ _ [(2,2,_),(3,3,_)] (by simp [aD,Blk.live]) (by simp [aD,hwm])) ?_
 rintro i ⟨hi,h0⟩
 by_cases hlt:i<7
 ·have hlt':(i:Int)<7:=by omega
  have hiw:i<ws.length:=by omega
  have hwr:=wI (n:=(i:Int)+1)
  have hwr2:=wI (n:=14+(i:Int))
  obtain ⟨e,hee⟩:∃ e,e=ws[i]:=⟨_,rfl⟩
  have hge:∀ h,ws[i]'h=e:=fun _=>hee.symm
  cases hw:dJ e st1 with
  | true =>
    have ho:=CR hiw (fun j h hj=>h0 j h hj) (by rw [← hee]; exact hw)
    rw [ho] at hres
    simp only at hres
    have hlen:=fT hw
    have h3:=ha1.kp (cG hw)
    have h4:=hp.run (aK st1) h3 (by omega)
    have hto:=bG hs ha1 hw
    subst hres
    generalize aK st1=st2 at *
    simp [hlt,hlt',hwl,hge]
    refine gw ?_
    refine kZ (hto) ?_
    simp [hwr2]
    refine gw ?_
    refine kZ (h4) ?_
    refine gs ?_
    refine aA (iQ (xL (14+i) t (p st2).1)) (by simp) ?_
    exact gq
  | false =>
    have hto:=aX hs ha1 hw
    simp [hlt,hlt',hwl,hge]
    refine gw ?_
    refine kZ (hto) ?_
    refine gs ?_
    refine ⟨i+1,⟨by omega,fun j h hj=>?_⟩,?_,by simp only; omega⟩
    ·rcases Nat.lt_or_ge j i with c | c
     ·exact h0 j h c
     ·obtain rfl:j=i:=by omega
      rw [← hee]; exact hw
    exact sZ _ [(2,2,_),(3,3,_)] (by simp [aD,Blk.live]) (by simp [aD,hwr])
 ·obtain rfl:i=7:=by omega
  have ho:=CS (ws:=ws) (st:=st1) fun j h=>h0 j h (by omega)
  rw [ho] at hres
  simp only at hres
  simp [hwl]
  refine gw ?_
  cases hin:dJ wIn st1 with
  | true =>
    rw [if_pos hin] at hres
    have hlen:=fT hin
    have h3:=ha1.kp (cG hin)
    have hto:=bG hs ha1 hin
    generalize aK st1=st2 at *
    refine kZ (hto) ?_
    refine gs ?_
    have hwn:=dY hs h3 bF
    have k3:=bS bF st2
    have h5:=h3.kp k3
    have hl5:=k3.le
    generalize aN bF st2=st3 at *
    refine kZ (hwn) ?_
    refine gs ?_
    have h6:=hq.run st3 h5 (by omega)
    have k6:=hq.kp st3
    have h7:=h5.kp k6
    have hl7:=k6.le
    generalize q st3=b at *
    obtain ⟨b,st4⟩:=b
    simp only at hres h6 k6 h7 hl7
    refine kZ (h6) ?_
    refine gs ?_
    refine aL bI (fun y:List Tm×RS=>{ s:=eP [(0,.ptr 1000000 0 0),(2,.ptr 2 0 0),(3,.ptr 3 0 0),(6,.ref 900 0 y.1.length 6)],b:=eG [(1000000,1000000,iP s y.2),(2,2,.var zTm),(3,3,.var (t.c.map AV.d)),(900,900,.arr 25 6 (y.1.map Tm.c) false)] })
     (fun y=>At (bX s) y.2.1∧y.2.1.length≤L∧y.1.length+y.2.1.length≤10002∧∃ k,y.2.1.length≤k∧(cD 28 (gK q k y.1 y.2).1,aN aY (gK q k y.1 y.2).2)=res) (fun y=>y.2.1.length) ([t,b],st4) ⟨h7,by simp only; omega,by simp; omega,_,Nat.le_refl _,hres⟩
     (sZ _ [(2,2,_),(3,3,_),(900,35,_)] (by simp [aD,Blk.live]) (by simp [aD])) ?_
    rintro ⟨ks,st5⟩ ⟨h8,hl8,hk2,k,hk,hr⟩
    simp only at h8 hl8 hk2 hk hr
    cases hcm:dJ bQ st5 with
    | true =>
      have hlen5:=fT hcm
      obtain ⟨k,rfl⟩:∃ z,k=z+1:=⟨k - 1,by omega⟩
      rw [gK,if_pos hcm] at hr
      have h9:=h8.kp (cG hcm)
      have hto5:=bG hs h8 hcm
      generalize aK st5=st6 at *
      have h10:=hq.run st6 h9 (by omega)
      have k10:=hq.kp st6
      have h11:=h9.kp k10
      have hl11:=k10.le
      generalize q st6=x at *
      obtain ⟨x,st7⟩:=x
      simp only at hr h10 k10 h11 hl11
      have hb:(ks.length+1)*80≤140737488355328∧ks.length≤9223372036854775806:=by omega
      refine gs ?_
      refine kZ (hto5) ?_
      refine gs ?_
      refine kZ (h10) ?_
      simp [hb]
      refine gw ?_
      refine ⟨(ks++[x],st7),⟨h11,by simp only; omega,by simp; omega,k,by simp only; omega,hr⟩,?_,by simp only; omega⟩
      exact sZ _ [(2,2,_),(3,3,_),(900,42,_)] (by simp [aD,Blk.live]) (by simp [aD])
    | false =>
      have hmr:gK q k ks st5=(ks,st5):=by
       cases k with
       | zero=>rfl
       | succ k=>rw [gK,if_neg (by rw [hcm]; exact Bool.false_ne_true)]
      rw [hmr] at hr
      simp only at hr
      subst hr
      have hwn2:=dY hs h8 aY
      refine gs ?_
      refine kZ (aX hs h8 hcm) ?_
      refine gs ?_
      refine kZ (hwn2) ?_
      refine gs ?_
      all_goals simp [cD,Tm.c,aS]
  | false =>
    rw [if_neg (by rw [hin]; exact Bool.false_ne_true)] at hres
    refine kZ (aX hs ha1 hin) ?_
    refine gs ?_
    cases his:dJ wIs st1 with
    | false =>
      rw [if_neg (by rw [his]; exact Bool.false_ne_true)] at hres
      subst hres
      refine kZ (aX hs ha1 his) ?_
      exact gq
    | true =>
      rw [if_pos his] at hres
      have h3:=ha1.kp (cG his)
      have hto:=bG hs ha1 his
      generalize aK st1=st2 at *
      refine kZ (hto) ?_
      refine gs ?_
      cases hn:dJ wNull st2 with
      | true =>
        rw [if_pos hn] at hres
        subst hres
        refine kZ (bG hs h3 hn) ?_
        refine gs ?_
        refine aA (iQ (AQ 21 t)) (by simp) ?_
        exact gq
      | false =>
        rw [if_neg (by rw [hn]; exact Bool.false_ne_true)] at hres
        refine kZ (aX hs h3 hn) ?_
        refine gs ?_
        cases htr:dJ wTrue st2 with
        | true =>
          rw [if_pos htr] at hres
          subst hres
          refine kZ (bG hs h3 htr) ?_
          refine gs ?_
          refine aA (iQ (AQ 25 t)) (by simp) ?_
          exact gq
        | false =>
          rw [if_neg (by rw [htr]; exact Bool.false_ne_true)] at hres
          refine kZ (aX hs h3 htr) ?_
          refine gs ?_
          cases hno:dJ wNot st2 with
          | true =>
            rw [if_pos hno] at hres
            subst hres
            have h4:=h3.kp (cG hno)
            have hwn:=dY hs h4 wNull
            refine kZ (bG hs h3 hno) ?_
            refine gs ?_
            refine kZ (hwn) ?_
            refine gs ?_
            refine aA (iQ (AQ 21 t)) (by simp) ?_
            refine gs ?_
            refine aA (iQ (AQ 24 (cD 21 [t]))) (by simp) ?_
            exact gq
          | false =>
            rw [if_neg (by rw [hno]; exact Bool.false_ne_true)] at hres
            subst hres
            have hfl:=CT hs h3
            refine kZ (aX hs h3 hno) ?_
            refine gs ?_
            refine kZ (hfl) ?_
            exact gq
end
theorem Kp.len {st st':RS} (k:Kp st st'):st'.1.length≤st.1.length:=k.1.length_le
theorem oO {w:List UInt8} {st:RS} (h:dJ w st=true):(aK st).1.length<st.1.length:=by
 obtain ⟨h1,h2⟩:=aBu h
 unfold aK
 rw [if_pos h1]
 have:=eF h2
 simp only
 omega
theorem QD {ws:List (List UInt8)} {st:RS} {i:Nat} (h:fR ws st=some i):(aK st).1.length<st.1.length:=by
 obtain ⟨h1,h2⟩:=aFM h
 unfold aK
 rw [if_pos h1]
 have:=lI h2
 simp only
 omega
theorem AK {w:List UInt8} {b:Int}:dJ w ([],b)=false:=by unfold dJ; simp [isW]
theorem JG {ws:List (List UInt8)} {b:Int}:fR ws ([],b)=none:=by
 unfold fR
 split
 ·exact mL ws
 ·rfl
theorem yJ {s:RS} (h:s.1.length≤0):s=([],s.2):=by
 obtain ⟨l,b⟩:=s
 obtain rfl:l=[]:=List.length_eq_zero_iff.1 (by simp only at h; omega)
 rfl
theorem aJT (s:RS):Kp s (WY s).2:=by
 unfold WY
 split
 ·rename_i h; exact (cG h).trans (rE _)
 ·exact .refl s
theorem oG (w:List UInt8) (s:RS):Kp s (gZ w s).2:=by
 unfold gZ
 split
 ·rename_i h; exact cG h
 ·exact .refl s
section
variable {tm:RS→Tm×RS} {st:RS→Sm×RS} (hT:∀ s,Kp s (tm s).2) (hS:∀ s,Kp s (st s).2)
include hT in
theorem AL (s:RS):Kp s (jX tm s).2:=(hT s).trans (aJT _)
include hT in
theorem VN:∀ (k:Nat) (is:List It) (s:RS),Kp s (iX tm k is s).2
 | 0,is,s=>.refl s
 | k+1,is,s=>by
   rw [iX]
   split
   ·rename_i h; exact (cG h).trans ((AL hT _).trans (VN k _ _))
   ·exact .refl s
include hS in
theorem sP (s:RS):Kp s (bC st s).2:=by
 unfold bC
 split
 ·rename_i h; exact (cG h).trans ((hS _).trans ((bS _ _).trans ((bS _ _).trans (rE _))))
 ·exact (rE s).trans (aJT _)
include hT hS in
theorem AM (k:Nat) (s:RS):Kp s (oN tm st k s).2:=by
 unfold oN
 simp only
 split
 ·exact (bS _ _).trans (sP hS _)
 ·exact (bS _ _).trans ((sP hS _).trans ((bS _ _).trans (hT _)))
include hT hS in
theorem JH:∀ (k:Nat) (js:List Jo) (s:RS),Kp s (dO tm st k js s).2
 | 0,js,s=>.refl s
 | k+1,js,s=>by
   rw [dO]
   split
   ·exact .refl s
   ·split
    ·rename_i h; exact (vM h).trans ((AM hT hS _ _).trans (JH k _ _))
    ·split
     ·exact (AM hT hS _ _).trans (JH k _ _)
     ·exact .refl s
include hT in
theorem aBv (w:List UInt8) (s:RS):Kp s (gT tm w s).2:=by
 unfold gT
 split
 ·rename_i h; exact (cG h).trans (hT _)
 ·exact .refl s
include hT in
theorem aFN (s:RS):Kp s (fM tm s).2:=by
 unfold fM
 split
 ·rename_i h; exact (cG h).trans ((bS _ _).trans ((hT _).trans (QC hT _ _ _)))
 ·exact .refl s
include hT in
theorem aIv (s:RS):Kp s (kW tm s).2:=by
 unfold kW
 split
 ·rename_i h; exact cG h
 ·exact (AL hT s).trans (VN hT _ _ _)
include hT hS in
theorem aLf (s:RS):Kp s (IS tm st s).2 :=
 (bS _ s).trans ((oG _ _).trans ((aIv hT _).trans ((bS _ _).trans ((sP hS _).trans ((JH hT hS _ _ _).trans ((aBv hT _ _).trans ((aFN hT _).trans (aBv hT _ _))))))))
include hT hS in
theorem AN (s:RS):Kp s (hU tm st s).2:=by
 unfold hU
 split
 ·rename_i h; exact (cG h).trans ((hS _).trans (bS _ _))
 ·exact aLf hT hS s
include hT hS in
theorem VO:∀ (k:Nat) (x:Sm) (s:RS),Kp s (lX tm st k x s).2
 | 0,x,s=>.refl s
 | k+1,x,s=>by
   rw [lX]
   split
   ·exact .refl s
   ·rename_i h; exact (vM h).trans ((oG _ _).trans ((AN hT hS _).trans (VO k _ _)))
def aAk (tm:RS→Tm×RS) (is:List It) (s:RS):List It×RS:=iX tm s.1.length is s
def aFO (tm:RS→Tm×RS) (ks:List Tm) (s:RS):List Tm×RS:=gK tm s.1.length ks s
def aAl (tm:RS→Tm×RS) (st:RS→Sm×RS) (js:List Jo) (s:RS):List Jo×RS:=dO tm st s.1.length js s
def aAm (tm:RS→Tm×RS) (st:RS→Sm×RS) (x:Sm) (s:RS):Sm×RS:=lX tm st s.1.length x s
include hT in
theorem CX:∀ (k m:Nat) (is:List It) (s:RS),s.1.length≤k→s.1.length≤m→iX tm k is s=iX tm m is s
 | 0,m,is,s,h,_=>by
   rw [yJ h]
   cases m with
   | zero=>rfl
   | succ m=>rw [iX,iX,AK,if_neg (by simp)]
 | k+1,0,is,s,_,h=>by
   rw [yJ h,iX,iX,AK,if_neg (by simp)]
 | k+1,m+1,is,s,h,h'=>by
   rw [iX,iX]
   split
   ·rename_i hw
    have hlen:=oO hw
    have hk:=(AL hT (aK s)).len
    exact CX k m _ _ (by omega) (by omega)
   ·rfl
include hT in
theorem aIw (is:List It) (s:RS):aAk tm is s=if dJ bQ s=true then aAk tm (is++[(jX tm (aK s)).1]) (jX tm (aK s)).2 else (is,s):=by
 unfold aAk
 rw [CX hT s.1.length (s.1.length+1) is s (Nat.le_refl _) (by omega),iX]
 split
 ·rename_i hw
  have hlen:=oO hw
  have hk:=(AL hT (aK s)).len
  exact CX hT _ _ _ _ (by omega) (Nat.le_refl _)
 ·rfl
include hT in
theorem JI:∀ (k m:Nat) (is:List Tm) (s:RS),s.1.length≤k→s.1.length≤m→gK tm k is s=gK tm m is s
 | 0,m,is,s,h,_=>by
   rw [yJ h]
   cases m with
   | zero=>rfl
   | succ m=>rw [gK,gK,AK,if_neg (by simp)]
 | k+1,0,is,s,_,h=>by
   rw [yJ h,gK,gK,AK,if_neg (by simp)]
 | k+1,m+1,is,s,h,h'=>by
   rw [gK,gK]
   split
   ·rename_i hw
    have hlen:=oO hw
    have hk:=(hT (aK s)).len
    exact JI k m _ _ (by omega) (by omega)
   ·rfl
include hT in
theorem aIx (is:List Tm) (s:RS):aFO tm is s=if dJ bQ s=true then aFO tm (is++[(tm (aK s)).1]) (tm (aK s)).2 else (is,s):=by
 unfold aFO
 rw [JI hT s.1.length (s.1.length+1) is s (Nat.le_refl _) (by omega),gK]
 split
 ·rename_i hw
  have hlen:=oO hw
  have hk:=(hT (aK s)).len
  exact JI hT _ _ _ _ (by omega) (Nat.le_refl _)
 ·rfl
def FQ (tm:RS→Tm×RS) (st:RS→Sm×RS) (s:RS):Jo×Bool×RS:=match fR LM s with
 | some i=>((oN tm st i (aK s)).1,true,(oN tm st i (aK s)).2)
 | none=>if dJ wJoin s=true then ((oN tm st 1 s).1,true,(oN tm st 1 s).2) else (.mk 1 [] [] [] [],false,s)
include hT hS in
theorem aFP {s:RS} (h:(FQ tm st s).2.1=true):(FQ tm st s).2.2.1.length<s.1.length:=by
 unfold FQ at *
 cases ho:fR LM s with
 | some i =>
   simp only
   have:=(AM hT hS i (aK s)).len
   have:=QD ho
   omega
 | none =>
   rw [ho] at h
   simp only at h ⊢
   cases hw:dJ wJoin s with
   | false=>rw [hw] at h; simp at h
   | true =>
     simp only [if_true]
     have h1:=oO hw
     unfold oN
     have e:aN wJoin s=aK s:=by unfold aN; rw [if_pos hw]
     simp only [e]
     split
     ·rename_i h0; exact absurd h0 (by decide)
     ·have:=((sP hS (aK s)).trans ((bS yG _).trans (hT _))).len
      simp only
      omega
theorem aNa {s:RS} (h:(FQ tm st s).2.1=false):(FQ tm st s).2.2=s:=by
 unfold FQ at *
 cases ho:fR LM s with
 | some i=>rw [ho] at h; simp at h
 | none =>
   rw [ho] at h
   simp only at h ⊢
   split at h
   ·simp at h
   ·rename_i hw; rw [if_neg hw]
theorem vO (k:Nat) (js:List Jo) (s:RS):dO tm st (k+1) js s=if 0≤s.2 then (js,s) else if (FQ tm st s).2.1=true then dO tm st k (js++[(FQ tm st s).1]) (FQ tm st s).2.2 else (js,s):=by
 rw [dO]
 unfold FQ
 split
 ·rfl
 ·cases ho:fR LM s with
  | some i=>simp
  | none =>
    simp only
    split
    ·simp
    ·simp
include hT hS in
theorem NG:∀ (k m:Nat) (js:List Jo) (s:RS),s.1.length≤k→s.1.length≤m→dO tm st k js s=dO tm st m js s:=by
 have z:∀ (m:Nat) (js:List Jo) (s:RS),s.1.length≤0→dO tm st m js s=(js,s):=fun m js s h=>by
  rw [yJ h]
  cases m with
  | zero=>rfl
  | succ m =>
    rw [dO,JG]
    simp only [AK]
    split <;> rfl
 intro k
 induction k with
 | zero=>intro m js s h _; rw [z _ _ _ h,z _ _ _ h]
 | succ k ih =>
   intro m js s h h'
   cases m with
   | zero=>rw [z _ _ _ h',z _ _ _ h']
   | succ m =>
     rw [vO,vO]
     split
     ·rfl
     ·split
      ·rename_i hj
       have:=aFP hT hS hj
       exact ih m _ _ (by omega) (by omega)
      ·rfl
include hT hS in
theorem aIy (js:List Jo) (s:RS):aAl tm st js s=if 0≤s.2 then (js,s) else if (FQ tm st s).2.1=true then aAl tm st (js++[(FQ tm st s).1]) (FQ tm st s).2.2 else (js,s):=by
 unfold aAl
 rw [NG hT hS s.1.length (s.1.length+1) js s (Nat.le_refl _) (by omega),vO]
 split
 ·rfl
 ·split
  ·rename_i hj
   have:=aFP hT hS hj
   exact NG hT hS _ _ _ _ (by omega) (Nat.le_refl _)
  ·rfl
include hT hS in
theorem JJ:∀ (k m:Nat) (x:Sm) (s:RS),s.1.length≤k→s.1.length≤m→lX tm st k x s=lX tm st m x s
 | 0,m,x,s,h,_=>by
   rw [yJ h]
   cases m with
   | zero=>rfl
   | succ m=>rw [lX,lX,JG]
 | k+1,0,x,s,_,h=>by
   rw [yJ h,lX,lX,JG]
 | k+1,m+1,x,s,h,h'=>by
   rw [lX,lX]
   split
   ·rfl
   ·rename_i i ho
    have hlen:=QD ho
    have h2:=(oG gM (aK s)).len
    have h3:=(AN hT hS (gZ gM (aK s)).2).len
    exact JJ k m _ _ (by omega) (by omega)
include hT hS in
theorem aIz (x:Sm) (s:RS):aAm tm st x s=match fR setW s with
  | none=>(x,s)
  | some i=>aAm tm st (uI i (gZ gM (aK s)).1 x (hU tm st (gZ gM (aK s)).2).1) (hU tm st (gZ gM (aK s)).2).2:=by
 unfold aAm
 rw [JJ hT hS s.1.length (s.1.length+1) x s (Nat.le_refl _) (by omega),lX]
 cases ho:fR setW s with
 | none=>rfl
 | some i =>
   have hlen:=QD ho
   have h2:=(oG gM (aK s)).len
   have h3:=(AN hT hS (gZ gM (aK s)).2).len
   exact JJ hT hS _ _ _ _ (by omega) (Nat.le_refl _)
end
theorem AO (N:Nat):∀ (n:Nat) (s:RS),Kp s (kX N n s).2
 | 0,s=>tS s
 | n+1,s=>by
   rw [kX]
   exact (AN (gD N 0) (AO N n) s).trans (VO (gD N 0) (AO N n) _ _ _)
end Go.Proofs.Tryz
