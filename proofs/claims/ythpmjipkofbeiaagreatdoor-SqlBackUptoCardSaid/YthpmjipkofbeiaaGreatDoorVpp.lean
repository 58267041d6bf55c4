import Derived.Test.YthpmjipkofbeiaaGreatDoorUShb
set_option linter.all false
namespace Go.Proofs.Tryz
open Go.Ab
set_option maxRecDepth 100000
set_option maxHeartbeats 1000000
theorem aGM (s:List UInt8) (hs:s.length≤1000000) (h1:s=tru):Cf Ev 140 [.d (.str s)] [] (.tup [(dD s).1.a,.d (.int .i64 (dD s).2)]) []:=by
 refine cI mS (fn:=Tryz.f140) rfl ?_
 have hpre:=aBs s hs
 have hsuf:=qA s hs
 have hpi:=lP s hs
 have hres:∀ v,jD s=some v→dD s=if cA s v=true then (v,0) else (cF,2):=fun v hv=>by unfold dD; rw [hv]
 have fin:=fun v=>upv (nR v)
 have ftx:=fun v=>tX v
 have hb1:(s==[116,114,117,101])=true:=by rw [h1]; rfl
 have hr:=hres ⟨2,1,[]⟩ (by unfold jD; rw [if_pos h1])
 have e1:=fin ⟨2,1,[]⟩
 have e2:=ftx ⟨2,1,[]⟩
 cases hW:(⟨2,1,[]⟩:V).valid with
 | false =>
   rw [hW] at e1
   rw [hr,if_neg (by unfold cA; rw [hW]; simp)]
   clear hr hres fin ftx
   simp [hb1,V.a,cF]
   refine gr ?_
   refine aA (DI 1 (.inr rfl)) (by simp) ?_
   simp [V.a]
   refine gr ?_
   refine aA e1 (by simp [V.a]) ?_
   simp
   all_goals exact gz
 | true =>
   rw [hW] at e1
   generalize hT:gC ⟨2,1,[]⟩=T at *
   by_cases hTs:T=s
   ·rw [hr,if_pos (by unfold cA; rw [hW,hT,hTs]; simp)]
    clear hr hres fin ftx
    simp [hb1,V.a]
    refine gr ?_
    refine aA (DI 1 (.inr rfl)) (by simp) ?_
    simp [V.a]
    refine gr ?_
    refine aA e1 (by simp [V.a]) ?_
    simp
    refine aA e2 (by simp [V.a]) ?_
    simp [hTs]
    all_goals exact gz
   ·rw [hr,if_neg (by unfold cA; rw [hT]; simp [hTs])]
    clear hr hres fin ftx
    simp [hb1,V.a,cF]
    refine gr ?_
    refine aA (DI 1 (.inr rfl)) (by simp) ?_
    simp [V.a]
    refine gr ?_
    refine aA e1 (by simp [V.a]) ?_
    simp
    refine aA e2 (by simp [V.a]) ?_
    simp [hTs]
    all_goals exact gz
theorem aGN (s:List UInt8) (hs:s.length≤1000000) (h1:¬ s=tru) (h2:s=fls):Cf Ev 140 [.d (.str s)] [] (.tup [(dD s).1.a,.d (.int .i64 (dD s).2)]) []:=by
 refine cI mS (fn:=Tryz.f140) rfl ?_
 have hpre:=aBs s hs
 have hsuf:=qA s hs
 have hpi:=lP s hs
 have hres:∀ v,jD s=some v→dD s=if cA s v=true then (v,0) else (cF,2):=fun v hv=>by unfold dD; rw [hv]
 have fin:=fun v=>upv (nR v)
 have ftx:=fun v=>tX v
 have hb1:(s==[116,114,117,101])=false:=by simpa [tru] using h1
 have hp1:¬ s=[116,114,117,101]:=h1
 have hb2:(s==[102,97,108,115,101])=true:=by rw [h2]; rfl
 have hr:=hres ⟨2,0,[]⟩ (by unfold jD; rw [if_neg h1,if_pos h2])
 have e1:=fin ⟨2,0,[]⟩
 have e2:=ftx ⟨2,0,[]⟩
 cases hW:(⟨2,0,[]⟩:V).valid with
 | false =>
   rw [hW] at e1
   rw [hr,if_neg (by unfold cA; rw [hW]; simp)]
   clear hr hres fin ftx
   simp [hb1,hb2,V.a,cF]
   refine gr ?_
   refine aA (DI 0 (.inl rfl)) (by simp) ?_
   simp [V.a]
   refine gr ?_
   refine aA e1 (by simp [V.a]) ?_
   simp
   all_goals exact gz
 | true =>
   rw [hW] at e1
   generalize hT:gC ⟨2,0,[]⟩=T at *
   by_cases hTs:T=s
   ·rw [hr,if_pos (by unfold cA; rw [hW,hT,hTs]; simp)]
    clear hr hres fin ftx
    simp [hb1,hb2,V.a]
    refine gr ?_
    refine aA (DI 0 (.inl rfl)) (by simp) ?_
    simp [V.a]
    refine gr ?_
    refine aA e1 (by simp [V.a]) ?_
    simp
    refine aA e2 (by simp [V.a]) ?_
    simp [hTs]
    all_goals exact gz
   ·rw [hr,if_neg (by unfold cA; rw [hT]; simp [hTs])]
    clear hr hres fin ftx
    simp [hb1,hb2,V.a,cF]
    refine gr ?_
    refine aA (DI 0 (.inl rfl)) (by simp) ?_
    simp [V.a]
    refine gr ?_
    refine aA e1 (by simp [V.a]) ?_
    simp
    refine aA e2 (by simp [V.a]) ?_
    simp [hTs]
    all_goals exact gz
theorem aGO (s:List UInt8) (hs:s.length≤1000000) (h1:¬ s=tru) (h2:¬ s=fls) (h3:s.head?=some 39∧s.getLast?=some 39∧2≤s.length):Cf Ev 140 [.d (.str s)] [] (.tup [(dD s).1.a,.d (.int .i64 (dD s).2)]) []:=by
 refine cI mS (fn:=Tryz.f140) rfl ?_
 have hpre:=aBs s hs
 have hsuf:=qA s hs
 have hpi:=lP s hs
 have hres:∀ v,jD s=some v→dD s=if cA s v=true then (v,0) else (cF,2):=fun v hv=>by unfold dD; rw [hv]
 have fin:=fun v=>upv (nR v)
 have ftx:=fun v=>tX v
 have hb1:(s==[116,114,117,101])=false:=by simpa [tru] using h1
 have hp1:¬ s=[116,114,117,101]:=h1
 have hb2:(s==[102,97,108,115,101])=false:=by simpa [fls] using h2
 have hp2:¬ s=[102,97,108,115,101]:=h2
 obtain ⟨q1,q2,q3⟩:=h3
 have q4:(2:Int)≤s.length:=by omega
 have hw:IntKind.i64.wrap ((s.length:Int) - 1)=(s.length:Int) - 1:=aZ (by omega) (by omega)
 have q5:(1:Int)≤(s.length:Int) - 1:=by omega
 have q6:(s.length:Int) - 1≤s.length:=by omega
 have hn:((s.length:Int) - 1).toNat=s.length - 1:=by omega
 have hmid:(s.take (s.length - 1)).drop 1=mid s:=rfl
 rw [q1] at hpre
 rw [q2] at hsuf
 have hr:=hres ⟨3,0,mid s⟩ (by unfold jD; rw [if_neg h1,if_neg h2,if_pos ⟨q1,q2,q3⟩])
 have e1:=fin ⟨3,0,mid s⟩
 have e2:=ftx ⟨3,0,mid s⟩
 cases hW:(⟨3,0,mid s⟩:V).valid with
 | false =>
   rw [hW] at e1
   rw [hr,if_neg (by unfold cA; rw [hW]; simp)]
   clear hr hres fin ftx
   simp [hb1,hb2,V.a,cF]
   refine gr ?_
   refine aP hpre ?_
   simp
   refine aP hsuf ?_
   simp [q4,hw,q5,q6,hn,hmid]
   refine gr ?_
   refine aA e1 (by simp [V.a]) ?_
   simp
   all_goals exact gz
 | true =>
   rw [hW] at e1
   generalize hT:gC ⟨3,0,mid s⟩=T at *
   by_cases hTs:T=s
   ·rw [hr,if_pos (by unfold cA; rw [hW,hT,hTs]; simp)]
    clear hr hres fin ftx
    simp [hb1,hb2,V.a]
    refine gr ?_
    refine aP hpre ?_
    simp
    refine aP hsuf ?_
    simp [q4,hw,q5,q6,hn,hmid]
    refine gr ?_
    refine aA e1 (by simp [V.a]) ?_
    simp
    refine aA e2 (by simp [V.a]) ?_
    simp [hTs]
    all_goals exact gz
   ·rw [hr,if_neg (by unfold cA; rw [hT]; simp [hTs])]
    clear hr hres fin ftx
    simp [hb1,hb2,V.a,cF]
    refine gr ?_
    refine aP hpre ?_
    simp
    refine aP hsuf ?_
    simp [q4,hw,q5,q6,hn,hmid]
    refine gr ?_
    refine aA e1 (by simp [V.a]) ?_
    simp
    refine aA e2 (by simp [V.a]) ?_
    simp [hTs]
    all_goals exact gz
theorem aGP (s:List UInt8) (hs:s.length≤1000000) (h1:¬ s=tru) (h2:¬ s=fls) (h3:¬ (s.head?=some 39∧s.getLast?=some 39∧2≤s.length)) (h4:s=nul):Cf Ev 140 [.d (.str s)] [] (.tup [(dD s).1.a,.d (.int .i64 (dD s).2)]) []:=by
 refine cI mS (fn:=Tryz.f140) rfl ?_
 have hpre:=aBs s hs
 have hsuf:=qA s hs
 have hpi:=lP s hs
 have hres:∀ v,jD s=some v→dD s=if cA s v=true then (v,0) else (cF,2):=fun v hv=>by unfold dD; rw [hv]
 have fin:=fun v=>upv (nR v)
 have ftx:=fun v=>tX v
 have hb1:(s==[116,114,117,101])=false:=by simpa [tru] using h1
 have hp1:¬ s=[116,114,117,101]:=h1
 have hb2:(s==[102,97,108,115,101])=false:=by simpa [fls] using h2
 have hp2:¬ s=[102,97,108,115,101]:=h2
 have hb4:(s==[110,117,108,108])=true:=by rw [h4]; rfl
 have hh:s.head?=some 110:=by rw [h4]; rfl
 rw [hh] at hpre
 have hb5:(s != [110,117,108,108])=false:=by rw [h4]; rfl
 have hp4:s=[110,117,108,108]:=h4
 have hr:=hres ⟨0,0,[]⟩ (by unfold jD; rw [if_neg h1,if_neg h2,if_neg h3,if_pos h4]; rfl)
 have e1:=fin ⟨0,0,[]⟩
 have e2:=ftx ⟨0,0,[]⟩
 cases hW:(⟨0,0,[]⟩:V).valid with
 | false =>
   rw [hW] at e1
   rw [hr,if_neg (by unfold cA; rw [hW]; simp)]
   clear hr hres fin ftx
   simp [hb1,hb2,V.a,cF]
   refine gr ?_
   refine aP hpre ?_
   simp [hp4]
   refine gr ?_
   refine aA e1 (by simp [V.a]) ?_
   simp
   all_goals exact gz
 | true =>
   rw [hW] at e1
   generalize hT:gC ⟨0,0,[]⟩=T at *
   by_cases hTs:T=s
   ·rw [hr,if_pos (by unfold cA; rw [hW,hT,hTs]; simp)]
    clear hr hres fin ftx
    simp [hb1,hb2,V.a]
    refine gr ?_
    refine aP hpre ?_
    simp [hp4]
    refine gr ?_
    refine aA e1 (by simp [V.a]) ?_
    simp
    refine aA e2 (by simp [V.a]) ?_
    simp [hTs,hp4]
    all_goals exact gz
   ·rw [hr,if_neg (by unfold cA; rw [hT]; simp [hTs])]
    clear hr hres fin ftx
    simp [hb1,hb2,V.a,cF]
    refine gr ?_
    refine aP hpre ?_
    simp [hp4]
    refine gr ?_
    refine aA e1 (by simp [V.a]) ?_
    simp
    refine aA e2 (by simp [V.a]) ?_
    simp [show ¬ T=[110,117,108,108] from fun e=>hTs (e.trans hp4.symm)]
    all_goals exact gz
theorem aDU (s:List UInt8) (hs:s.length≤1000000) (h1:¬ s=tru) (h2:¬ s=fls) (h4:¬ s=nul) (q1:¬ s.head?=some 39):Cf Ev 140 [.d (.str s)] [] (.tup [(dD s).1.a,.d (.int .i64 (dD s).2)]) []:=by
 refine cI mS (fn:=Tryz.f140) rfl ?_
 have hpre:=aBs s hs
 have hsuf:=qA s hs
 have hpi:=lP s hs
 have hres:∀ v,jD s=some v→dD s=if cA s v=true then (v,0) else (cF,2):=fun v hv=>by unfold dD; rw [hv]
 have fin:=fun v=>upv (nR v)
 have ftx:=fun v=>tX v
 have hb1:(s==[116,114,117,101])=false:=by simpa [tru] using h1
 have hp1:¬ s=[116,114,117,101]:=h1
 have hb2:(s==[102,97,108,115,101])=false:=by simpa [fls] using h2
 have hp2:¬ s=[102,97,108,115,101]:=h2
 have hb4:(s==[110,117,108,108])=false:=by simpa [nul] using h4
 have hp4:¬ s=[110,117,108,108]:=h4
 rw [show decide (s.head?=some 39)=false by simpa using q1] at hpre
 have h3:¬ (s.head?=some 39∧s.getLast?=some 39∧2≤s.length):=fun e=>q1 e.1
 have hcp:jD s=match Lib.parseIntB 64 s with
   | .ok n=>some ⟨1,n,[]⟩
   | _=>none:=by unfold jD; rw [if_neg h1,if_neg h2,if_neg h3,if_neg h4]; cases Lib.parseIntB 64 s <;> rfl
 cases hp:Lib.parseIntB 64 s with
 | ok n =>
   rw [hp] at hcp
   simp only at hcp
   have hE:nI s=(n,.val .nilIface):=by unfold nI; rw [hp]
   rw [hE] at hpi
   simp only at hpi
   have hr:=hres ⟨1,n,[]⟩ (by exact hcp)
   have e1:=fin ⟨1,n,[]⟩
   have e2:=ftx ⟨1,n,[]⟩
   cases hW:(⟨1,n,[]⟩:V).valid with
   | false =>
     rw [hW] at e1
     rw [hr,if_neg (by unfold cA; rw [hW]; simp)]
     clear hr hres fin ftx
     simp [hb1,hb2,V.a,cF]
     refine gr ?_
     refine aP hpre ?_
     simp [hb4]
     refine gr ?_
     refine aP hpi ?_
     simp
     refine gr ?_
     refine aA e1 (by simp [V.a]) ?_
     simp
     all_goals exact gz
   | true =>
     rw [hW] at e1
     generalize hT:gC ⟨1,n,[]⟩=T at *
     by_cases hTs:T=s
     ·rw [hr,if_pos (by unfold cA; rw [hW,hT,hTs]; simp)]
      clear hr hres fin ftx
      simp [hb1,hb2,V.a]
      refine gr ?_
      refine aP hpre ?_
      simp [hb4]
      refine gr ?_
      refine aP hpi ?_
      simp
      refine gr ?_
      refine aA e1 (by simp [V.a]) ?_
      simp
      refine aA e2 (by simp [V.a]) ?_
      simp [hTs]
      all_goals exact gz
     ·rw [hr,if_neg (by unfold cA; rw [hT]; simp [hTs])]
      clear hr hres fin ftx
      simp [hb1,hb2,V.a,cF]
      refine gr ?_
      refine aP hpre ?_
      simp [hb4]
      refine gr ?_
      refine aP hpi ?_
      simp
      refine gr ?_
      refine aA e1 (by simp [V.a]) ?_
      simp
      refine aA e2 (by simp [V.a]) ?_
      simp [hTs]
      all_goals exact gz
 | «syntax» =>
   rw [hp] at hcp
   simp only at hcp
   have hE:(nI s).2=.ifn:=by unfold nI; rw [hp]
   generalize (nI s).1=n0 at hpi
   rw [hE] at hpi
   have hr:dD s=(cF,2):=by unfold dD; rw [hcp]
   rw [hr]
   clear hr hres fin ftx hE hcp
   simp [hb1,hb2,V.a,cF]
   refine gr ?_
   refine aP hpre ?_
   simp [hb4]
   refine gr ?_
   refine aP hpi ?_
   simp
   all_goals exact gz
 | range =>
   rw [hp] at hcp
   simp only at hcp
   have hE:(nI s).2=.ifn:=by unfold nI; rw [hp]
   generalize (nI s).1=n0 at hpi
   rw [hE] at hpi
   have hr:dD s=(cF,2):=by unfold dD; rw [hcp]
   rw [hr]
   clear hr hres fin ftx hE hcp
   simp [hb1,hb2,V.a,cF]
   refine gr ?_
   refine aP hpre ?_
   simp [hb4]
   refine gr ?_
   refine aP hpi ?_
   simp
   all_goals exact gz
theorem aDV (s:List UInt8) (hs:s.length≤1000000) (h1:¬ s=tru) (h2:¬ s=fls) (h4:¬ s=nul) (q1:s.head?=some 39) (q2:¬ s.getLast?=some 39):Cf Ev 140 [.d (.str s)] [] (.tup [(dD s).1.a,.d (.int .i64 (dD s).2)]) []:=by
 refine cI mS (fn:=Tryz.f140) rfl ?_
 have hpre:=aBs s hs
 have hsuf:=qA s hs
 have hpi:=lP s hs
 have hres:∀ v,jD s=some v→dD s=if cA s v=true then (v,0) else (cF,2):=fun v hv=>by unfold dD; rw [hv]
 have fin:=fun v=>upv (nR v)
 have ftx:=fun v=>tX v
 have hb1:(s==[116,114,117,101])=false:=by simpa [tru] using h1
 have hp1:¬ s=[116,114,117,101]:=h1
 have hb2:(s==[102,97,108,115,101])=false:=by simpa [fls] using h2
 have hp2:¬ s=[102,97,108,115,101]:=h2
 have hb4:(s==[110,117,108,108])=false:=by simpa [nul] using h4
 have hp4:¬ s=[110,117,108,108]:=h4
 rw [q1] at hpre
 rw [show decide (s.getLast?=some 39)=false by simpa using q2] at hsuf
 have h3:¬ (s.head?=some 39∧s.getLast?=some 39∧2≤s.length):=fun e=>q2 e.2.1
 have hcp:jD s=match Lib.parseIntB 64 s with
   | .ok n=>some ⟨1,n,[]⟩
   | _=>none:=by unfold jD; rw [if_neg h1,if_neg h2,if_neg h3,if_neg h4]; cases Lib.parseIntB 64 s <;> rfl
 cases hp:Lib.parseIntB 64 s with
 | ok n =>
   rw [hp] at hcp
   simp only at hcp
   have hE:nI s=(n,.val .nilIface):=by unfold nI; rw [hp]
   rw [hE] at hpi
   simp only at hpi
   have hr:=hres ⟨1,n,[]⟩ (by exact hcp)
   have e1:=fin ⟨1,n,[]⟩
   have e2:=ftx ⟨1,n,[]⟩
   cases hW:(⟨1,n,[]⟩:V).valid with
   | false =>
     rw [hW] at e1
     rw [hr,if_neg (by unfold cA; rw [hW]; simp)]
     clear hr hres fin ftx
     simp [hb1,hb2,V.a,cF]
     refine gr ?_
     refine aP hpre ?_
     simp
     refine aP hsuf ?_
     simp [hb4]
     refine gr ?_
     refine aP hpi ?_
     simp
     refine gr ?_
     refine aA e1 (by simp [V.a]) ?_
     simp
     all_goals exact gz
   | true =>
     rw [hW] at e1
     generalize hT:gC ⟨1,n,[]⟩=T at *
     by_cases hTs:T=s
     ·rw [hr,if_pos (by unfold cA; rw [hW,hT,hTs]; simp)]
      clear hr hres fin ftx
      simp [hb1,hb2,V.a]
      refine gr ?_
      refine aP hpre ?_
      simp
      refine aP hsuf ?_
      simp [hb4]
      refine gr ?_
      refine aP hpi ?_
      simp
      refine gr ?_
      refine aA e1 (by simp [V.a]) ?_
      simp
      refine aA e2 (by simp [V.a]) ?_
      simp [hTs]
      all_goals exact gz
     ·rw [hr,if_neg (by unfold cA; rw [hT]; simp [hTs])]
      clear hr hres fin ftx
      simp [hb1,hb2,V.a,cF]
      refine gr ?_
      refine aP hpre ?_
      simp
      refine aP hsuf ?_
      simp [hb4]
      refine gr ?_
      refine aP hpi ?_
      simp
      refine gr ?_
      refine aA e1 (by simp [V.a]) ?_
      simp
      refine aA e2 (by simp [V.a]) ?_
      simp [hTs]
      all_goals exact gz
 | «syntax» =>
   rw [hp] at hcp
   simp only at hcp
   have hE:(nI s).2=.ifn:=by unfold nI; rw [hp]
   generalize (nI s).1=n0 at hpi
   rw [hE] at hpi
   have hr:dD s=(cF,2):=by unfold dD; rw [hcp]
   rw [hr]
   clear hr hres fin ftx hE hcp
   simp [hb1,hb2,V.a,cF]
   refine gr ?_
   refine aP hpre ?_
   simp
   refine aP hsuf ?_
   simp [hb4]
   refine gr ?_
   refine aP hpi ?_
   simp
   all_goals exact gz
 | range =>
   rw [hp] at hcp
   simp only at hcp
   have hE:(nI s).2=.ifn:=by unfold nI; rw [hp]
   generalize (nI s).1=n0 at hpi
   rw [hE] at hpi
   have hr:dD s=(cF,2):=by unfold dD; rw [hcp]
   rw [hr]
   clear hr hres fin ftx hE hcp
   simp [hb1,hb2,V.a,cF]
   refine gr ?_
   refine aP hpre ?_
   simp
   refine aP hsuf ?_
   simp [hb4]
   refine gr ?_
   refine aP hpi ?_
   simp
   all_goals exact gz
theorem aDW (s:List UInt8) (hs:s.length≤1000000) (h1:¬ s=tru) (h2:¬ s=fls) (h4:¬ s=nul) (q1:s.head?=some 39) (q2:s.getLast?=some 39) (q3:¬ 2≤s.length):Cf Ev 140 [.d (.str s)] [] (.tup [(dD s).1.a,.d (.int .i64 (dD s).2)]) []:=by
 refine cI mS (fn:=Tryz.f140) rfl ?_
 have hpre:=aBs s hs
 have hsuf:=qA s hs
 have hpi:=lP s hs
 have hres:∀ v,jD s=some v→dD s=if cA s v=true then (v,0) else (cF,2):=fun v hv=>by unfold dD; rw [hv]
 have fin:=fun v=>upv (nR v)
 have ftx:=fun v=>tX v
 have hb1:(s==[116,114,117,101])=false:=by simpa [tru] using h1
 have hp1:¬ s=[116,114,117,101]:=h1
 have hb2:(s==[102,97,108,115,101])=false:=by simpa [fls] using h2
 have hp2:¬ s=[102,97,108,115,101]:=h2
 have hb4:(s==[110,117,108,108])=false:=by simpa [nul] using h4
 have hp4:¬ s=[110,117,108,108]:=h4
 rw [q1] at hpre
 rw [q2] at hsuf
 have h3:¬ (s.head?=some 39∧s.getLast?=some 39∧2≤s.length):=fun e=>q3 e.2.2
 have q4:¬ (2:Int)≤s.length:=by omega
 have hcp:jD s=match Lib.parseIntB 64 s with
   | .ok n=>some ⟨1,n,[]⟩
   | _=>none:=by unfold jD; rw [if_neg h1,if_neg h2,if_neg h3,if_neg h4]; cases Lib.parseIntB 64 s <;> rfl
 cases hp:Lib.parseIntB 64 s with
 | ok n =>
   rw [hp] at hcp
   simp only at hcp
   have hE:nI s=(n,.val .nilIface):=by unfold nI; rw [hp]
   rw [hE] at hpi
   simp only at hpi
   have hr:=hres ⟨1,n,[]⟩ (by exact hcp)
   have e1:=fin ⟨1,n,[]⟩
   have e2:=ftx ⟨1,n,[]⟩
   cases hW:(⟨1,n,[]⟩:V).valid with
   | false =>
     rw [hW] at e1
     rw [hr,if_neg (by unfold cA; rw [hW]; simp)]
     clear hr hres fin ftx
     simp [hb1,hb2,V.a,cF]
     refine gr ?_
     refine aP hpre ?_
     simp
     refine aP hsuf ?_
     simp [hb4,q4]
     refine gr ?_
     refine aP hpi ?_
     simp
     refine gr ?_
     refine aA e1 (by simp [V.a]) ?_
     simp
     all_goals exact gz
   | true =>
     rw [hW] at e1
     generalize hT:gC ⟨1,n,[]⟩=T at *
     by_cases hTs:T=s
     ·rw [hr,if_pos (by unfold cA; rw [hW,hT,hTs]; simp)]
      clear hr hres fin ftx
      simp [hb1,hb2,V.a]
      refine gr ?_
      refine aP hpre ?_
      simp
      refine aP hsuf ?_
      simp [hb4,q4]
      refine gr ?_
      refine aP hpi ?_
      simp
      refine gr ?_
      refine aA e1 (by simp [V.a]) ?_
      simp
      refine aA e2 (by simp [V.a]) ?_
      simp [hTs]
      all_goals exact gz
     ·rw [hr,if_neg (by unfold cA; rw [hT]; simp [hTs])]
      clear hr hres fin ftx
      simp [hb1,hb2,V.a,cF]
      refine gr ?_
      refine aP hpre ?_
      simp
      refine aP hsuf ?_
      simp [hb4,q4]
      refine gr ?_
      refine aP hpi ?_
      simp
      refine gr ?_
      refine aA e1 (by simp [V.a]) ?_
      simp
      refine aA e2 (by simp [V.a]) ?_
      simp [hTs]
      all_goals exact gz
 | «syntax» =>
   rw [hp] at hcp
   simp only at hcp
   have hE:(nI s).2=.ifn:=by unfold nI; rw [hp]
   generalize (nI s).1=n0 at hpi
   rw [hE] at hpi
   have hr:dD s=(cF,2):=by unfold dD; rw [hcp]
   rw [hr]
   clear hr hres fin ftx hE hcp
   simp [hb1,hb2,V.a,cF]
   refine gr ?_
   refine aP hpre ?_
   simp
   refine aP hsuf ?_
   simp [hb4,q4]
   refine gr ?_
   refine aP hpi ?_
   simp
   all_goals exact gz
 | range =>
   rw [hp] at hcp
   simp only at hcp
   have hE:(nI s).2=.ifn:=by unfold nI; rw [hp]
   generalize (nI s).1=n0 at hpi
   rw [hE] at hpi
   have hr:dD s=(cF,2):=by unfold dD; rw [hcp]
   rw [hr]
   clear hr hres fin ftx hE hcp
   simp [hb1,hb2,V.a,cF]
   refine gr ?_
   refine aP hpre ?_
   simp
   refine aP hsuf ?_
   simp [hb4,q4]
   refine gr ?_
   refine aP hpi ?_
   simp
   all_goals exact gz
theorem FY (s:List UInt8) (hs:s.length≤1000000):Cf Ev 140 [.d (.str s)] [] (.tup [(dD s).1.a,.d (.int .i64 (dD s).2)]) []:=by
 by_cases h1:s=tru
 ·exact aGM s hs h1
 by_cases h2:s=fls
 ·exact aGN s hs h1 h2
 by_cases h3:s.head?=some 39∧s.getLast?=some 39∧2≤s.length
 ·exact aGO s hs h1 h2 h3
 by_cases h4:s=nul
 ·exact aGP s hs h1 h2 h3 h4
 by_cases q1:s.head?=some 39
 ·by_cases q2:s.getLast?=some 39
  ·exact aDW s hs h1 h2 h4 q1 q2 fun q3=>h3 ⟨q1,q2,q3⟩
  ·exact aDV s hs h1 h2 h4 q1 q2
 ·exact aDU s hs h1 h2 h4 q1
end Go.Proofs.Tryz
