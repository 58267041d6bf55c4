import Derived.Test.YthpmjipkofbeiaaGreatDoorUSgk
import Derived.Test.YthpmjipkofbeiaaGreatDoorURwh
import Derived.Test.YthpmjipkofbeiaaGreatDoorVrt
set_option linter.all false
namespace Go.Proofs.Tryz
open Go.Ab
set_option maxRecDepth 100000
set_option maxHeartbeats 16000000
theorem aJX (L:List Int) (dp:Int) {st:Nat→Sm×Nat} {deep:Bool} {B K:Nat} (hm:MkG st B K) (hs:aNl L dp st deep B) (hd:deep=decide (1<dp)) (i:Nat) (hi:i+BI B+10≤700000) (h0:deep=true→¬ aQ L i 4=0) :
  Cf En 13 [.ptr 1000000 0 0,.d (.int .i64 dp)] [bR L i] (sU L st deep (oH deep i)).1.a [bR L (sU L st deep (oH deep i)).2]:=by
 have hsb:BI B=4*(B+800)+9000:=rfl
 have hp1:oH deep i≤i+1:=by unfold oH; split <;> omega
 obtain ⟨a1,a2,a3,a4,a5⟩:=QN L (aQ L (oH deep i+1) 3==0) 4 0 [] (oH deep i+2) (by omega) trivial (by simp)
 cases hI:uJ L 4 (aQ L (oH deep i+1) 3==0) 0 [] (oH deep i+2) with | mk is p1 =>
 rw [hI] at a1 a2 a3
 simp only at a1 a2 a3
 obtain ⟨b1,b2,b3⟩:=BA L hm deep (nm:=[120]) (by simp) (i:=p1) (by omega)
 cases hS:nE L st deep [120] p1 with | mk so p2 =>
 rw [hS] at b1 b2
 simp only at b1 b2
 have n3:=cT L p2 (n:=3) (by omega)
 have hmm:(aQ L p2 3).toNat≤2:=by omega
 have hmul:(B+800)*(aQ L p2 3).toNat≤(B+800)*2:=Nat.mul_le_mul_left _ hmm
 have hmul3:(B+800)*((aQ L p2 3).toNat+1)=(B+800)*(aQ L p2 3).toNat+(B+800):=Nat.mul_succ _ _
 obtain ⟨c1,c2,c3,c4⟩:=QO L hm deep (aQ L p2 3).toNat [] (p2+1) hmm (by omega) ⟨trivial,trivial⟩ (by simp; omega)
 cases hJ:oI L st deep (aQ L p2 3).toNat [] (p2+1) with | mk js p3 =>
 rw [hJ] at c1 c2
 simp only at c1 c2
 obtain ⟨d1,d2,_⟩:=QQ L 3 (i:=p3) (by omega)
 cases hW:xF L 3 p3 with | mk w p4 =>
 rw [hW] at d1 d2
 simp only at d1 d2
 have n4:=cT L p4 (n:=4) (by omega)
 obtain ⟨e1,e2,_⟩:=QP L (aQ L p4 4 - 1).toNat [] (p4+1) (by omega) trivial (by simp; omega)
 cases hG:vW L (aQ L p4 4 - 1).toNat [] (p4+1) with | mk g p5 =>
 rw [hG] at e1 e2
 simp only at e1 e2
 cases hH:xF L 6 p5 with | mk h p6 =>
 have he:sU L st deep (oH deep i)=(.mk 1 false (aQ L (oH deep i) 4==0) (aQ L (oH deep i+1) 3==0) is so.1 so.2.1 so.2.2 js w g h [],p6):=by
  unfold sU
  simp only [hI,hS,hJ,hW,hG,hH]
 rw [he]
 show CfO En _ _ _ (.ret _ _)
 refine xQ fQ (fn:=Tryz.f13) (c:=mkC) (by kernel_rfl) rfl (by kernel_rfl) (by decide) _ (by simp) (by simp) ?_
 refine kQ fQ (by decide) (fun p=>FM L dp p (cZ (aQ L (oH deep i) 4==0) (aQ L (oH deep i+1) 3==0) .nils)) (fun p=>Ix p (oH deep i+2)) 3 (aLC L dp deep hd i (by omega) h0) fun p hp=>?_
 cases hp
 refine kQ fQ (by decide) (fun p=>FM L dp p (cZ _ _ (.d (.sl (is.map It.c))))) (fun p=>Ix p p1) 1 (aLv L dp _ _ _ (by omega) is p1 hI) fun p hp=>?_
 cases hp
 refine kQ fQ (by decide) (fun p=>FM L dp p (cM _ _ (.d (.sl (is.map It.c))) so (.d (.sl (js.map Jo.c))) .nils .nils .nils)) (fun p=>Ix p p3) 2 (aLw L dp hm hs _ _ is p1 (by omega) so js p2 p3 hS hJ) fun p hp=>?_
 cases hp
 refine kQ fQ (by decide) (fun p=>FM L dp p (cM _ _ (.d (.sl (is.map It.c))) so (.d (.sl (js.map Jo.c))) (.d (.sl (w.map Tm.c))) .nils .nils)) (fun p=>Ix p p4) 1 (aLx L dp _ _ is so js p3 (by omega) w p4 hW) fun p hp=>?_
 cases hp
 refine kQ fQ (by decide) (fun p=>FM L dp p (cM _ _ (.d (.sl (is.map It.c))) so (.d (.sl (js.map Jo.c))) (.d (.sl (w.map Tm.c))) (.d (.sl (g.map Tm.c))) .nils)) (fun p=>Ix p p5) 1 (aLy L dp _ _ is so js w p4 (by omega) g p5 hG) fun p hp=>?_
 cases hp
 exact dN fQ (by decide) _ _ _ (aLz L dp _ _ is so js w g p5 (by omega) h p6 hH)
theorem aNm (L:List Int) {st:Nat→Sm×Nat} {d B K:Nat} (hd:1≤d∧d≤5) (hm:MkG st B K) (hst:aGh L d st B) (i:Nat) (hi:i+2*B+20≤700000) (h0:aQ L i 4=0) :
  Cf En 13 [.ptr 1000000 0 0,.d (.int .i64 (d+1:Nat))] [bR L i] (QM L st (i+1)).1.a [bR L (QM L st (i+1)).2]:=by
 have h1:(1:Int)<(d:Int)+1:=by omega
 have hw:IntKind.i64.wrap (d:Int)=d:=aZ (by omega) (by omega)
 have t0:=jA L i (by omega) 4 (by omega) (by omega)
 have t1:=jA L (i+1) (by omega) 3 (by omega) (by omega)
 have t2:=jA L (i+1+1) (by omega) 2 (by omega) (by omega)
 have n3:=cT L (i+1) (n:=3) (by omega)
 have hw2:=wI (n:=2+aQ L (i+1) 3)
 have ha:=hst (i+1+2) (by omega)
 have hga:=hm (i+1+2) (by omega)
 rw [show ((i+1+2:Nat):Int)=((i+1+1+1:Nat):Int) from rfl] at ha
 unfold QM
 generalize st (i+1+2)=x at *
 obtain ⟨x,p⟩:=x
 simp only at ha hga ⊢
 have hb:=hst p (by omega)
 generalize st p=y at *
 obtain ⟨y,q⟩:=y
 simp only at hb ⊢
 have c1:=x.clen
 have k1:=x.ctake
 have k2:List.take 13 x.c=x.c:=List.take_of_length_le (by rw [c1]; exact Nat.le_refl _)
 have c2:=y.clen
 have k3:=y.ctake
 have k4:List.take 13 y.c=y.c:=List.take_of_length_le (by rw [c2]; exact Nat.le_refl _)
 clear hga hm hst
 replace hi:QK _:=⟨hi⟩
 refine cI fQ (fn:=Tryz.f13) rfl ?_
 simp [h1]
 refine gw ?_
 refine kZ t0 ?_
 simp [h0]
 refine gw ?_
 refine kZ t1 ?_
 simp [hw2]
 refine gw ?_
 refine kZ t2 ?_
 simp [hw]
 refine gw ?_
 refine kZ ha ?_
 simp [Sm.a,c1,k1,hw]
 refine gw ?_
 refine kZ hb ?_
 simp [Sm.a,c1,c2,k4]
 refine gw ?_
 all_goals (first | (simp [Sm.c,aE,aF]; done) | omega | skip)
theorem MkG.mono {st:Nat→Sm×Nat} {B B' K:Nat} (h:MkG st B K) (hb:B≤B'):MkG st B' K:=fun j hj=>by
 obtain ⟨h1,h2,h3⟩:=h j (by omega)
 exact ⟨h1,by omega,h3⟩
theorem aAt (L:List Int) (st:Nat→Sm×Nat) (i:Nat) (nm:List UInt8):nE L st false nm i=qK L nm i:=by unfold nE; rw [if_neg (by simp)]
theorem aIM (L:List Int) (st st':Nat→Sm×Nat) (j:Nat):sU L st false j=sU L st' false j:=by
 have hj:∀ (n:Nat) (js:List Jo) (i:Nat),oI L st false n js i=oI L st' false n js i:=by
  intro n
  induction n with
  | zero=>intro js i; rfl
  | succ n ih=>intro js i; rw [oI,oI,ih]; simp only [ET,aAt]
 unfold sU
 simp only [aAt,hj]
theorem zeG:MkG (fun j:Nat=>(zeS,j)) 0 100:=fun j _=>⟨Nat.le_refl _,by simp,⟨⟨by rw [zeS,Sm.fits]; exact ⟨⟨by simp,trivial⟩,⟨by simp,trivial⟩,⟨by simp,trivial⟩,⟨by simp,trivial⟩,⟨by simp,trivial⟩,⟨by simp,trivial⟩,by simp,trivial⟩,by rw [zeS,Sm.small]; exact ⟨by simp,by simp,by simp,by simp,by simp,trivial,trivial,trivial⟩⟩,by simp [zeS,Sm.wgt,fU,gG,cH,jK]⟩⟩
theorem aNn (L:List Int):aGh L 1 (AZ L 1) (BI 0+10):=fun i hi=>by
 have h:=aJX L 1 (deep:=false) zeG (fun nm i hi=>by rw [aAt]; exact aLA L nm 1 i (by omega) (by decide)) (by decide) i (by omega) (fun h=>by cases h)
 have e:AZ L 1 i=sU L (fun j:Nat=>(zeS,j)) false (oH false i):=by rw [AZ,if_pos rfl]; exact aIM L _ _ _
 rw [e]
 exact h
theorem aGg (L:List Int) {d B K:Nat} (hd:1≤d∧d≤5) (hm:MkG (AZ L d) B K) (hw:aGh L d (AZ L d) B):aGh L (d+1) (AZ L (d+1)) (BI B+10):=fun i hi=>by
 have hsb:BI B=4*(B+800)+9000:=rfl
 by_cases h0:aQ L i 4=0
 ·have e:AZ L (d+1) i=QM L (AZ L d) (i+1):=by rw [AZ,if_neg (by omega),if_pos h0]
  rw [e]
  exact aNm L hd hm hw i (by omega) h0
 ·have e:AZ L (d+1) i=sU L (AZ L d) true (oH true i):=by rw [AZ,if_neg (by omega),if_neg h0]; rfl
  rw [e]
  exact aJX L _ hm (fun nm i hi=>aNo L hd hw nm i hi) (by simp; omega) i (by omega) (fun _=>h0)
theorem aIN (L:List Int):Cf En 13 [.ptr 1000000 0 0,.d (.int .i64 3)] [bR L 0] (AZ L 3 0).1.a [bR L (AZ L 3 0).2]∧sG (AZ L 3 0).1∧(AZ L 3 0).1.wgt≤1099511627776:=by
 obtain ⟨m1,m2,m3⟩:=aLJ L
 have w1:=aNn L
 have w2:=aGg L (by omega) (m1.mono (by omega)) w1
 have w3:=aGg L (d:=2) (by omega) (m2.mono (by unfold BI; omega)) w2
 obtain ⟨_,_,h3,h4⟩:=m3 0 (by unfold BI; omega)
 exact ⟨w3 0 (by unfold BI; omega),h3,Nat.le_trans h4 (by decide)⟩
theorem aFW (n:Int) (a:Bool) (k:D):∀ (i:Nat) (c:AV) (d:D),([.d (.int .i64 n),.d (.bool a),.d (.bool false),.d (.bool false),.nils,.d (.str []),.nils,.d (.str []),.nils,.nils,.nils,.nils,.d k]:List AV)[i]?=some c →
  ([.int .i64 n,.bool a,.bool false,.bool false,.sl [],.str [],.sl [],.str [],.sl [],.sl [],.sl [],.sl [],k]:List D)[i]?=some d→aEp c d
 | 0,_,_,hc,hd=>by cases hc; cases hd; rfl
 | 1,_,_,hc,hd=>by cases hc; cases hd; rfl
 | 2,_,_,hc,hd=>by cases hc; cases hd; rfl
 | 3,_,_,hc,hd=>by cases hc; cases hd; rfl
 | 4,_,_,hc,hd=>by cases hc; cases hd; rfl
 | 5,_,_,hc,hd=>by cases hc; cases hd; rfl
 | 6,_,_,hc,hd=>by cases hc; cases hd; rfl
 | 7,_,_,hc,hd=>by cases hc; cases hd; rfl
 | 8,_,_,hc,hd=>by cases hc; cases hd; rfl
 | 9,_,_,hc,hd=>by cases hc; cases hd; rfl
 | 10,_,_,hc,hd=>by cases hc; cases hd; rfl
 | 11,_,_,hc,hd=>by cases hc; cases hd; rfl
 | 12,_,_,hc,hd=>by cases hc; cases hd; rfl
 | k+13,_,_,hc,hd=>by simp at hc
section
variable {s:List UInt8} (hs:s.length≤5000) {L:Nat} {tm:RS→Tm×RS} {st:RS→Sm×RS}
include hs
theorem VR {r:RS} (hTk:∀ r,Kp r (tm r).2) (hSk:∀ r,Kp r (st r).2) (hc:RuX Sm.a s L 75 (hU tm st)) (ha:At (bX s) r.1) (hl:r.1.length≤L) :
  Cf Es 40 [.ptr 1000000 0 0] [iP s r] (aAm tm st (hU tm st r).1 (hU tm st r).2).1.a [iP s (aAm tm st (hU tm st r).1 (hU tm st r).2).2]:=by
 have h1:=hc.run r ha hl
 have a1:=ha.kp (hc.kp r)
 have l1:=(hc.kp r).len
 generalize hres:aAm tm st (hU tm st r).1 (hU tm st r).2=res
 generalize hU tm st r=x at *
 obtain ⟨x,r1⟩:=x
 simp only at hres h1 a1 l1
 refine cI bI (fn:=Tryz.f40) rfl ?_
 refine gs ?_
 refine kZ (h1) ?_
 refine gs ?_
 refine aL bI (fun y:Sm×RS=>{ s:=eP [(0,.ptr 1000000 0 0),(2,.ptr 2 0 0),(3,.ptr 3 0 0)],b:=eG [(1000000,1000000,iP s y.2),(2,2,.var xM),(3,3,.var (y.1.c.map AV.d))] })
  (fun y=>At (bX s) y.2.1∧y.2.1.length≤L∧aAm tm st y.1 y.2=res) (fun y=>y.2.1.length) (x,r1) ⟨a1,by simp only; omega,hres⟩
  (sZ _ [(2,2,_),(3,3,_)] (by simp [aD,Blk.live]) (by simp [aD])) ?_
 clear hres h1 a1 l1 ha hl
 rintro ⟨x,r2⟩ ⟨a2,l2,hr2⟩
 simp only at a2 l2 hr2
 rw [aIz hTk hSk] at hr2
 by_cases hbad:0≤r2.2
 ·have hbad':¬ r2.2<0:=by omega
  have ho:fR setW r2=none:=vI hbad setW
  rw [ho] at hr2
  simp only at hr2
  subst hr2
  simp [hbad'] <;> exact gz
 ·have hbad':r2.2<0:=by omega
  have h3:fR setW r2=if dJ [117,110,105,111,110] r2=true then some 0 else if dJ [101,120,99,101,112,116] r2=true then some 1 else if dJ [105,110,116,101,114,115,101,99,116] r2=true then some 2 else none:=AP _ _ _ _
  rw [h3] at hr2
  cases hw0:dJ [117,110,105,111,110] r2 with
  | true =>
    rw [if_pos hw0] at hr2
    have hlen:=oO hw0
    have a3:=a2.kp (cG hw0)
    have h3:=bG hs a2 hw0
    simp only at hr2
    generalize aK r2=r3 at *
    have h4:=wX hs a3 gM
    have a4:=a3.kp (oG gM r3)
    have l4:=(oG gM r3).len
    generalize gZ gM r3=z at *
    obtain ⟨al,r4⟩:=z
    simp only at hr2 h4 a4 l4
    have h5:=hc.run r4 a4 (by omega)
    have a5:=a4.kp (hc.kp r4)
    have l5:=(hc.kp r4).len
    generalize hU tm st r4=w at *
    obtain ⟨y,r5⟩:=w
    simp only at hr2 h5 a5 l5
    simp [hbad']
    refine gw ?_
    refine kZ (h3) ?_
    refine gs ?_
    refine kZ (h4) ?_
    refine gs ?_
    refine kZ (h5) ?_
    refine gs ?_
    refine ⟨(uI 0 al x y,r5),⟨a5,by simp only; omega,hr2⟩,?_,by simp only; omega⟩
    refine (show Ab.Sub Es 36 1 _ { s:=eP [(0,.ptr 1000000 0 0),(2,.ptr 2 0 0),(3,.ptr 3 0 0)],b:=eG [(1000000,1000000,iP s r5),(2,2,.var xM),(3,3,.var [.d (.int .i64 2),.d (.bool al),.d (.bool false),.d (.bool false),.nils,.d (.str []),.nils,.d (.str []),.nils,.nils,.nils,.nils,.d (.sl [x.c,y.c])])] } from
     sZ _ [(2,2,_),(3,3,_)] (by simp [aD,Blk.live]) (by simp [aD])).trans ?_
    refine (zB 3 (cells:=[.d (.int .i64 2),.d (.bool al),.d (.bool false),.d (.bool false),.nils,.d (.str []),.nils,.d (.str []),.nils,.nils,.nils,.nils,.d (.sl [x.c,y.c])]) [.int .i64 2,.bool al,.bool false,.bool false,.sl [],.str [],.sl [],.str [],.sl [],.sl [],.sl [],.sl [],.sl [x.c,y.c]] (by simp) rfl (fun i c d hc hd=>aFW _ _ _ i c d hc hd)).trans ?_
    exact sZ _ [(2,2,_),(3,3,_)] (by simp [aD,Blk.live,uI,Sm.c]) (by simp [aD])
  | false =>
    rw [if_neg (by rw [hw0]; exact Bool.false_ne_true)] at hr2
    cases hw1:dJ [101,120,99,101,112,116] r2 with
    | true =>
      rw [if_pos hw1] at hr2
      have hlen:=oO hw1
      have a3:=a2.kp (cG hw1)
      have h3:=bG hs a2 hw1
      simp only at hr2
      generalize aK r2=r3 at *
      have h4:=wX hs a3 gM
      have a4:=a3.kp (oG gM r3)
      have l4:=(oG gM r3).len
      generalize gZ gM r3=z at *
      obtain ⟨al,r4⟩:=z
      simp only at hr2 h4 a4 l4
      have h5:=hc.run r4 a4 (by omega)
      have a5:=a4.kp (hc.kp r4)
      have l5:=(hc.kp r4).len
      generalize hU tm st r4=w at *
      obtain ⟨y,r5⟩:=w
      simp only at hr2 h5 a5 l5
      simp [hbad']
      refine gw ?_
      refine kZ (aX hs a2 hw0) ?_
      refine gs ?_
      refine kZ (h3) ?_
      refine gs ?_
      refine kZ (h4) ?_
      refine gs ?_
      refine kZ (h5) ?_
      refine gs ?_
      refine ⟨(uI 1 al x y,r5),⟨a5,by simp only; omega,hr2⟩,?_,by simp only; omega⟩
      refine (show Ab.Sub Es 36 1 _ { s:=eP [(0,.ptr 1000000 0 0),(2,.ptr 2 0 0),(3,.ptr 3 0 0)],b:=eG [(1000000,1000000,iP s r5),(2,2,.var xM),(3,3,.var [.d (.int .i64 3),.d (.bool al),.d (.bool false),.d (.bool false),.nils,.d (.str []),.nils,.d (.str []),.nils,.nils,.nils,.nils,.d (.sl [x.c,y.c])])] } from
       sZ _ [(2,2,_),(3,3,_)] (by simp [aD,Blk.live]) (by simp [aD])).trans ?_
      refine (zB 3 (cells:=[.d (.int .i64 3),.d (.bool al),.d (.bool false),.d (.bool false),.nils,.d (.str []),.nils,.d (.str []),.nils,.nils,.nils,.nils,.d (.sl [x.c,y.c])]) [.int .i64 3,.bool al,.bool false,.bool false,.sl [],.str [],.sl [],.str [],.sl [],.sl [],.sl [],.sl [],.sl [x.c,y.c]] (by simp) rfl (fun i c d hc hd=>aFW _ _ _ i c d hc hd)).trans ?_
      exact sZ _ [(2,2,_),(3,3,_)] (by simp [aD,Blk.live,uI,Sm.c]) (by simp [aD])
    | false =>
      rw [if_neg (by rw [hw1]; exact Bool.false_ne_true)] at hr2
      cases hw2:dJ [105,110,116,101,114,115,101,99,116] r2 with
      | true =>
        rw [if_pos hw2] at hr2
        have hlen:=oO hw2
        have a3:=a2.kp (cG hw2)
        have h3:=bG hs a2 hw2
        simp only at hr2
        generalize aK r2=r3 at *
        have h4:=wX hs a3 gM
        have a4:=a3.kp (oG gM r3)
        have l4:=(oG gM r3).len
        generalize gZ gM r3=z at *
        obtain ⟨al,r4⟩:=z
        simp only at hr2 h4 a4 l4
        have h5:=hc.run r4 a4 (by omega)
        have a5:=a4.kp (hc.kp r4)
        have l5:=(hc.kp r4).len
        generalize hU tm st r4=w at *
        obtain ⟨y,r5⟩:=w
        simp only at hr2 h5 a5 l5
        simp [hbad']
        refine gw ?_
        refine kZ (aX hs a2 hw0) ?_
        refine gs ?_
        refine kZ (aX hs a2 hw1) ?_
        refine gs ?_
        refine kZ (h3) ?_
        refine gs ?_
        refine kZ (h4) ?_
        refine gs ?_
        refine kZ (h5) ?_
        refine gs ?_
        refine ⟨(uI 2 al x y,r5),⟨a5,by simp only; omega,hr2⟩,?_,by simp only; omega⟩
        refine (show Ab.Sub Es 36 1 _ { s:=eP [(0,.ptr 1000000 0 0),(2,.ptr 2 0 0),(3,.ptr 3 0 0)],b:=eG [(1000000,1000000,iP s r5),(2,2,.var xM),(3,3,.var [.d (.int .i64 4),.d (.bool al),.d (.bool false),.d (.bool false),.nils,.d (.str []),.nils,.d (.str []),.nils,.nils,.nils,.nils,.d (.sl [x.c,y.c])])] } from
         sZ _ [(2,2,_),(3,3,_)] (by simp [aD,Blk.live]) (by simp [aD])).trans ?_
        refine (zB 3 (cells:=[.d (.int .i64 4),.d (.bool al),.d (.bool false),.d (.bool false),.nils,.d (.str []),.nils,.d (.str []),.nils,.nils,.nils,.nils,.d (.sl [x.c,y.c])]) [.int .i64 4,.bool al,.bool false,.bool false,.sl [],.str [],.sl [],.str [],.sl [],.sl [],.sl [],.sl [],.sl [x.c,y.c]] (by simp) rfl (fun i c d hc hd=>aFW _ _ _ i c d hc hd)).trans ?_
        exact sZ _ [(2,2,_),(3,3,_)] (by simp [aD,Blk.live,uI,Sm.c]) (by simp [aD])
      | false =>
        rw [if_neg (by rw [hw2]; exact Bool.false_ne_true)] at hr2
        simp only at hr2
        subst hr2
        simp [hbad']
        refine gw ?_
        refine kZ (aX hs a2 hw0) ?_
        refine gs ?_
        refine kZ (aX hs a2 hw1) ?_
        refine gs ?_
        refine kZ (aX hs a2 hw2) ?_
        exact gq
end
theorem aFX {s:List UInt8} (hs:s.length≤5000) {N:Nat} (hN:9*(bX s).length+8≤N):∀ (n:Nat) (r:RS),At (bX s) r.1→r.1.length<n→Cf Es 40 [.ptr 1000000 0 0] [iP s r] (kX N n r).1.a [iP s (kX N n r).2]
 | 0,r,ha,hn=>by omega
 | n+1,r,ha,hn=>by
   have hlT:=ha.sfx.length_le
   have hpos:=List.length_pos_iff.2 ha.ne
   obtain ⟨L,hL⟩:∃ L,r.1.length=L+1:=⟨r.1.length - 1,by omega⟩
   have ht:LO s (L+1) 27 (bK N 0):=⟨fun r' ha' hl'=>aJV hs N 0 r' (by decide) ha' (by unfold vG; omega),gD N 0⟩
   have hst:RuX Sm.a s L 40 (kX N n):=⟨fun r' ha' hl'=>aFX hs hN n r' ha' (by omega),AO N n⟩
   have hso:RuX So.a s (L+1) 113 (bC (kX N n)):=⟨fun r' ha' hl'=>aFU hs hst ha' hl',sP hst.kp⟩
   have hco:RuX Sm.a s (L+1) 75 (hU (bK N 0) (kX N n)):=⟨fun r' ha' hl'=>aLo hs ht hso hst ha' hl',AN ht.kp hst.kp⟩
   rw [kX]
   exact VR hs ht.kp hst.kp hco ha (by omega)
theorem aDF {s:List UInt8} (hs:s.length≤5000) {x:Sm} (h:LI (eV pX 6000) s=.ok x):sG x:=by
 have hl:=kJ s
 unfold LI at h
 cases hp:eV pX 6000 (bX s) with
 | error p=>rw [hp] at h; cases h
 | ok z =>
   obtain ⟨u,m⟩:=z
   rw [hp] at h
   simp only at h
   split at h
   ·cases h; exact wK _ _ _ (by omega) _ m hp
   ·cases h
theorem aDG {s:List UInt8} (hs:s.length≤1099511627776):Cf Es 16 [.d (.str s)] [] (psA s) []:=by
 unfold psA
 generalize hres:ZZ s=res
 unfold ZZ at hres
 refine cI bI (fn:=Tryz.f16) rfl ?_
 by_cases hl:s.length≤4000
 ·rw [if_pos hl,← aBQ] at hres
  have hl':¬ (4000:Int)<(s.length:Int):=by omega
  have hrd:=aLq (s:=s) (by omega)
  have ha:At (bX s) (bX s):=⟨List.suffix_refl _,HY s⟩
  have hlen:=kJ s
  have hpr:=aFX (s:=s) (by omega) (N:=pX) (by unfold pX; omega) 6000 (bX s,-1) ha (by simp only; omega)
  have hkp:=AO pX 6000 (bX s,-1)
  have hft:=fun x=>aDF (s:=s) (x:=x) (by omega)
  rw [← aBQ] at hft
  unfold aBP at hres hft
  have ha1:=At.kp (T:=bX s) (st:=(bX s,-1)) ha hkp
  generalize kX pX 6000 (bX s,-1)=x at *
  obtain ⟨x,st1⟩:=x
  simp only at hres hpr hkp ha1 hft
  simp [hl']
  refine gw ?_
  refine GW [] hrd (by simp) (by simp) (by simp) (by simp) (by simp) (by simp) (by simp) ?_
  simp
  refine gr ?_
  refine aH [13000] hpr (by simp) (by simp) ?_
  simp
  refine gr ?_
  by_cases h5:(eU st1.1).kd=5
  ·simp only [h5,if_true] at hres hft
   by_cases hb:0≤st1.2
   ·have hb':¬ st1.2<0:=by omega
    rw [if_pos hb] at hres
    simp only at hres
    have htn:((st1.2.toNat:Nat):Int)=st1.2:=by omega
    rw [htn] at hres
    subst hres
    simp [h5,hb,hb']
    refine gw ?_
    all_goals simp [zeS,Sm.c]
   ·rw [if_neg hb] at hres
    have hf:=hft x (by rw [if_neg hb])
    have hd:=iQ (QA _ x (Nat.lt_succ_self _) hf.1)
    simp only at hres
    simp [h5,hb]
    refine gw ?_
    refine aP hd ?_
    by_cases h24:x.dep≤24
    ·have h24':¬ (24:Int)<x.dep:=by omega
     rw [if_pos h24] at hres
     subst hres
     simp [h24'] <;> exact gz
    ·have h24':(24:Int)<x.dep:=by omega
     rw [if_neg h24] at hres
     subst hres
     simp [h24']
     refine gw ?_
     all_goals simp [zeS,Sm.c]
  ·simp only [h5,if_false] at hres hft
   have hfl:=CT (s:=s) (by omega) ha1
   have hb2:0≤(jC st1).2:=by
    unfold jC
    split
    ·exact Int.natCast_nonneg _
    ·omega
   have k5:(eU (jC st1).1).kd=(eU st1.1).kd:=by unfold jC; split <;> rfl
   rw [if_pos hb2] at hres
   simp only at hres
   generalize jC st1=st2 at *
   have htn:((st2.2.toNat:Nat):Int)=st2.2:=by omega
   rw [htn] at hres
   subst hres
   simp only [h5,not_false_eq_true,true_implies,false_implies,and_true]
   refine aH [13000] hfl (by simp) (by simp) ?_
   simp [hb2]
   refine gw ?_
   all_goals simp [zeS,Sm.c]
 ·rw [if_neg hl] at hres
  have hl':(4000:Int)<(s.length:Int):=by omega
  subst hres
  simp [hl']
  refine gw ?_
  all_goals simp [zeS,Sm.c]
theorem aLt (x:Sm):Cf Ej 12 [x.a] [] (.d (.bool (x.few 0))) []:=by
 refine cI EP (fn:=Tryz.f12) rfl ?_
 have c1:=x.clen
 have k1:=x.ctake
 have h1:=upj (iQ (aJL _ x 0 (Nat.lt_succ_self _)))
 simp [Sm.a,c1,k1]
 refine gr ?_
 refine aA h1 (by simp [Sm.a]) ?_
 simp
 all_goals exact gz
theorem aGa {x:Sm} (hv:(decide (x.dep≤24)&&x.right)=true) (hl:(oL x).length≤4000):ZZ (oL x)=(x,0,0):=by
 simp only [Bool.and_eq_true,decide_eq_true_eq] at hv
 have hr:rgS jZ x=true:=by rw [← CV,← aBr]; exact hv.2
 have ht:=kJ (oL x)
 obtain ⟨e,h1,h2⟩:=aJz hr (N:=pX) (n:=5999) (by unfold pX; omega) (by omega)
 unfold ZZ LI
 rw [if_pos hl,h1]
 simp [eU,h2,hv.1]
theorem aGb (L:List Int) (x:Sm) (hf:x.fits) (hw:x.wgt≤1099511627776):Cf Ej 4 [.d (.sl (L.map fun n=>[.int .i64 n])),x.a] [] (.d (.bool true)) []:=by
 refine cI EP (fn:=Tryz.f4) rfl ?_
 have hfew:=aLt x
 have c1:=x.clen
 have k1:=x.ctake
 have k2:List.take 13 x.c=x.c:=List.take_of_length_le (by rw [c1]; exact Nat.le_refl _)
 cases hq:x.few 0 with
 | false =>
   rw [hq] at hfew
   simp [Sm.a,c1,k1]
   refine gr ?_
   refine aA hfew (by simp [Sm.a]) ?_
   exact gq
 | true =>
 rw [hq] at hfew
 have hsm:=AA 0 x hq
 obtain ⟨hmk,⟨hmf,hms⟩,hmw⟩:=aIN L
 replace hmk:=upj (iQ hmk)
 generalize (AZ L 3 0).1=z at *
 generalize (AZ L 3 0).2=zi at *
 have d1:=z.clen
 have d2:=z.ctake
 have d3:List.take 13 z.c=z.c:=List.take_of_length_le (by rw [d1]; exact Nat.le_refl _)
 simp [bR] at hmk
 simp [Sm.a,c1,k1]
 refine gr ?_
 refine aA hfew (by simp [Sm.a]) ?_
 simp [c1,k1]
 refine gw ?_
 refine aH [18] hmk (by simp) (by simp) ?_
 obtain ⟨two,htwo⟩:∃ two,two=[x,z]:=⟨_,rfl⟩
 have htl:two.length=2:=by rw [htwo]; rfl
 have htm:two.map Sm.c=[x.c,z.c]:=by rw [htwo]; rfl
 have hall:∀ e∈two,e.fits∧e.small∧e.wgt≤1099511627776:=by
  rw [htwo]
  intro e he
  rcases List.mem_cons.1 he with rfl | he
  ·exact ⟨hf,hsm,hw⟩
  ·rw [List.mem_singleton.1 he]; exact ⟨hmf,hms,hmw⟩
 simp [c1,d1,d3]
 refine gr ?_
 refine aL EP (fun i:Nat=>{ s:=eP [(5,.d (.sl (two.map Sm.c))),(6,.d (.int .i64 i))],b:=eG [] }) (fun i=>i≤2) (fun i=>2 - i) 0 (by simp)
  (aJ _ [] .nil (by simp [aD,htm])) ?_
 rintro i hi
 by_cases hlt:i<2
 ·have hlt':(i:Int)<2:=by omega
  have hwr:=wI (n:=(i:Int)+1)
  obtain ⟨e,he⟩:∃ e,e=two[i]:=⟨_,rfl⟩
  have hgo:two[i]?=some e:=by rw [he]; exact gE (by omega)
  have hge:∀ h,two[i]'h=e:=fun _=>he.symm
  obtain ⟨fe,se,we⟩:=hall e (by rw [he]; exact List.getElem_mem _)
  have hp:=aJH e fe se we
  have hr:=upj (aGQ e fe)
  have e1:=e.clen
  have e2:=e.ctake
  have hs:=upj (iQ (aAn _ e e (Nat.lt_succ_self _) fe))
  rw [Sm.eq_self] at hs
  cases hv:(decide (e.dep≤24)&&e.right) with
  | false =>
    rw [hv] at hr
    rw [show stx e=[] from by unfold stx; rw [hv]; rfl] at hp
    simp [hlt',hgo,htl,e1,e2]
    refine gw ?_
    refine aA hp (by simp [Sm.a]) ?_
    simp [hgo,e1,e2]
    refine gw ?_
    refine aA hr (by simp [Sm.a]) ?_
    refine gs ?_
    refine ⟨i+1,by omega,?_,by simp only; omega⟩
    exact aJ _ [] .nil (by simp [hwr])
  | true =>
    rw [hv] at hr
    rw [show stx e=oL e from by unfold stx; rw [hv]; rfl] at hp
    have hb:=@aGa e hv
    have hrg:rgS jZ e=true:=by
     simp only [Bool.and_eq_true] at hv
     rw [← CV,← aBr]; exact hv.2
    have hwl:=aAz e jZ hrg
    have hr1:=upj (aDG (s:=oL e) (by omega))
    by_cases hl:(oL e).length≤4000
    ·have hl':¬ (4000:Int)<((oL e).length:Int):=by omega
     have hp1:=upj (aIm (s:=oL e) (by omega))
     unfold psA at hp1 hr1
     rw [hb hl] at hp1 hr1
     simp only at hp1 hr1
     clear hwl hb
     generalize oL e=T at *
     simp [hlt',hgo,htl,e1,e2]
     refine gw ?_
     refine aA hp (by simp [Sm.a]) ?_
     simp [hgo,e1,e2]
     refine gw ?_
     refine aA hr (by simp [Sm.a]) ?_
     refine gs ?_
     refine aP hr1 ?_
     simp [hl',hgo,e1,e2,Sm.a]
     refine gw ?_
     refine aA hs (by simp [Sm.a]) ?_
     refine gs ?_
     refine aP hp1 ?_
     simp [hgo,e1,e2,Sm.a]
     refine gw ?_
     refine aA hs (by simp [Sm.a]) ?_
     refine gs ?_
     refine ⟨i+1,by omega,?_,by simp only; omega⟩
     exact aJ _ [] .nil (by simp [hwr])
    ·have hl':(4000:Int)<((oL e).length:Int):=by omega
     have hz:ZZ (oL e)=(zeS,0,8):=by unfold ZZ; rw [if_neg hl]
     unfold psA at hr1
     rw [hz] at hr1
     simp only at hr1
     clear hwl hb hz
     generalize oL e=T at *
     have z1:=zeS.clen
     have z2:=zeS.ctake
     simp [hlt',hgo,htl,e1,e2]
     refine gw ?_
     refine aA hp (by simp [Sm.a]) ?_
     simp [hgo,e1,e2]
     refine gw ?_
     refine aA hr (by simp [Sm.a]) ?_
     refine gs ?_
     refine aP hr1 ?_
     simp [hl',Sm.a,z1]
     refine gw ?_
     refine ⟨i+1,by omega,?_,by simp only; omega⟩
     exact aJ _ [] .nil (by simp [hwr])
 ·obtain rfl:i=2:=by omega
  simp [htl] <;> exact gz
end Go.Proofs.Tryz
