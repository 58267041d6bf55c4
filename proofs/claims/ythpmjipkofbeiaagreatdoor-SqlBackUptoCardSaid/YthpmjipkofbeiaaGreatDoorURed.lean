import Derived.Test.YthpmjipkofbeiaaGreatDoorUSlb
set_option linter.all false
namespace Go.Proofs.Tryz
open Go.Ab
set_option maxRecDepth 100000
set_option maxHeartbeats 16000000
structure YC where
 y:YB
 w:List Tm
 l:List Tk
structure YD where
 y:YB
 w:List Tm
 g:List Tm
 l:List Tk
noncomputable def WB:Code:=(jN 3 (jN 5 QL).2).2
noncomputable def aBE:Code:=(jN 1 WB).2
noncomputable def aJZ:Code:=(jN 1 aBE).2
def FC (T:List Tk) (y:YC):St:={ s:=eP [(0,.ptr 1000000 0 0),(2,.ptr 2 0 0),(3,.ptr 3 0 0)],b:=eG [(1000000,1000000,dE T y.l),(2,2,.var xM),(3,3,.var (c3 y.y.d y.y.sb y.y.is y.y.so (.d (.sl (y.y.js.map Jo.c))) (.d (.sl (y.w.map Tm.c))) .nils))] }
def FD (T:List Tk) (y:YD):St:={ s:=eP [(0,.ptr 1000000 0 0),(2,.ptr 2 0 0),(3,.ptr 3 0 0)],b:=eG [(1000000,1000000,dE T y.l),(2,2,.var xM),(3,3,.var (c3 y.y.d y.y.sb y.y.is y.y.so (.d (.sl (y.y.js.map Jo.c))) (.d (.sl (y.w.map Tm.c))) (.d (.sl (y.g.map Tm.c)))))] }
section
variable {fD:Nat→D} {T:List Tk} {L:Nat} {tm:List Tk→cY Tm}
theorem aLF (ht:Rule Es fD T L 31 tm) (hT:T.length≤10000) {y:YB} (ha:At T y.l) (hl:y.l.length≤L) {o:Out} (ho:iZ Sm.a fD T (NM tm y.d y.sb y.is y.so y.js y.l)=o) :
  bY Es AX 1 o.po (jN 1 WB).1 (FB T y) fun e s=>match e with
   | .normal=>∃ z:YC,(At T z.l∧z.l.length≤y.l.length∧iZ Sm.a fD T (WA tm z.y.d z.y.sb z.y.is z.y.so z.y.js z.w z.l)=o)∧Sub Es AX 1 s (FC T z)
   | _=>False:=by
 obtain ⟨d,sb,is,so,js,l⟩:=y
 simp only at ha hl ho ⊢
 unfold NM vK at ho
 simp only [WB,QL,AX,Tryz.f116,Option.getD_some,fH,eS,FB]
 refine gs ?_
 cases hw:isW wWhere l with
 | false =>
   rw [hw,if_neg (by simp),bJ] at ho
   refine hZ (eE ha hT hw) ?_
   refine gs ?_
   refine ⟨⟨⟨d,sb,is,so,js,l⟩,[],l⟩,⟨ha,Nat.le_refl _,ho⟩,?_⟩
   refine (gV 3 902 25 6 9 (cells:=c3 d sb is so (.d (.sl (js.map Jo.c))) .nils .nils) (by simp) rfl (by simp) (by decide) (by decide)).trans ?_
   exact sZ _ [(2,2,_),(3,3,_)] (by simp [aD,Blk.live]) (by simp [aD])
 | true =>
   rw [hw,if_pos rfl] at ho
   have hlen:=eF hw
   refine hZ (dK ha hT hw) ?_
   refine gs ?_
   rcases ht.step (ha.tl hw) (by omega) with ⟨e,he2,hc2⟩ | ⟨t,l2,he2,h2,hl2,hc2⟩
   ·rw [he2,bT,bT] at ho
    subst ho
    exact pZ (hc2)
   rw [he2,bJ,bJ] at ho
   refine hZ (hc2) ?_
   refine gs ?_
   refine ⟨⟨⟨d,sb,is,so,js,l⟩,[t],l2⟩,⟨h2,by simp only; omega,ho⟩,?_⟩
   exact sZ _ [(2,2,_),(3,3,_)] (by simp [aD,Blk.live]) (by simp [aD])
theorem aLG (hF:iN fD) (ht:Rule Es fD T L 31 tm) (hT:T.length≤10000) {y:YC} (ha:At T y.l) (hl:y.l.length≤L) {o:Out} (ho:iZ Sm.a fD T (WA tm y.y.d y.y.sb y.y.is y.y.so y.y.js y.w y.l)=o) :
  bY Es AX 1 o.po (jN 1 aBE).1 (FC T y) fun e s=>match e with
   | .normal=>∃ z:YD,(At T z.l∧z.l.length≤y.l.length∧iZ Sm.a fD T (AY tm z.y.d z.y.sb z.y.is z.y.so z.y.js z.w z.g z.l)=o)∧Sub Es AX 1 s (FD T z)
   | _=>False:=by
 obtain ⟨⟨d,sb,is,so,js,l0⟩,w,l⟩:=y
 simp only at ha hl ho ⊢
 unfold WA mN at ho
 simp only [aBE,WB,QL,AX,Tryz.f116,Option.getD_some,fH,eS,FC]
 refine gs ?_
 cases hw:isW iO l with
 | false =>
   rw [hw,if_neg (by simp),bJ] at ho
   refine hZ (eE ha hT hw) ?_
   refine gs ?_
   refine ⟨⟨⟨d,sb,is,so,js,l0⟩,w,[],l⟩,⟨ha,Nat.le_refl _,ho⟩,?_⟩
   refine (gV 3 902 25 6 10 (cells:=c3 d sb is so (.d (.sl (js.map Jo.c))) (.d (.sl (w.map Tm.c))) .nils) (by simp) rfl (by simp) (by decide) (by decide)).trans ?_
   exact sZ _ [(2,2,_),(3,3,_)] (by simp [aD,Blk.live]) (by simp [aD])
 | true =>
   rw [hw,if_pos rfl] at ho
   have hlen:=eF hw
   have hTl:=ha.sfx.length_le
   refine hZ (dK ha hT hw) ?_
   refine gs ?_
   rcases dX hF (ha.tl hw) hT [RJ] (by decide) with ⟨e,he,hc⟩ | ⟨l1,he,h1,hl1,hc⟩
   ·rw [he] at ho
    subst ho
    exact pZ (hc)
   rw [he,dW,yD] at ho
   refine hZ (hc) ?_
   refine gs ?_
   refine iR bI (by decide) (fun y:Bool×List Tm×List Tk=>{ s:=eP [(0,.ptr 1000000 0 0),(2,.ptr 2 0 0),(3,.ptr 3 0 0),(8,.d (.bool y.1))],b:=eG [(1000000,1000000,dE T y.2.2),(2,2,.var xM),(3,3,.var (c3 d sb is so (.d (.sl (js.map Jo.c))) (.d (.sl (w.map Tm.c))) (.ref 902 0 y.2.1.length 6))),(902,902,.arr 25 6 (y.2.1.map Tm.c) false)] })
    (fun y=>At T y.2.2∧y.2.2.length≤l1.length∧y.2.1.length+y.2.2.length+(if y.1=true then 1 else 0)≤10001∧iZ Sm.a fD T (if y.1=true then aR (tm y.2.2) fun i l'=>aR (moC tm (y.2.1++[i]) l') fun g l3=>AY tm d sb is so js w g l3 else AY tm d sb is so js w y.2.1 y.2.2)=o) (fun y=>y.2.2.length+if y.1=true then 1 else 0) (true,[],l1) ⟨h1,Nat.le_refl _,by simp only [List.length_nil,if_true]; omega,ho⟩
    ((gV 3 902 25 6 10 (cells:=c3 d sb is so (.d (.sl (js.map Jo.c))) (.d (.sl (w.map Tm.c))) .nils) (by simp) rfl (by simp) (by decide) (by decide)).trans (sZ _ [(2,2,_),(3,3,_),(902,902,_)] (by simp [aD,Blk.live]) (by simp [aD]))) ?_
   rintro ⟨more,g,l3⟩ ⟨h3,hl3,hk,ho3⟩
   simp only at h3 hl3 hk ho3
   cases more with
   | false =>
     rw [if_neg (by simp)] at ho3 hk
     refine gs ?_
     refine ⟨⟨⟨d,sb,is,so,js,l0⟩,w,g,l3⟩,⟨h3,by simp only; omega,ho3⟩,?_⟩
     exact sZ _ [(2,2,_),(3,3,_)] (by simp [aD,Blk.live]) (by simp [aD])
   | true =>
     rw [if_pos rfl] at ho3 hk
     have hb:(g.length+1)*80≤140737488355328∧g.length≤9223372036854775806:=by omega
     refine gs ?_
     rcases ht.step h3 (by omega) with ⟨e,he4,hc4⟩ | ⟨t,l4,he4,h4,hl4,hc4⟩
     ·rw [he4,bT] at ho3
      subst ho3
      exact pZ (hc4)
     rw [he4,bJ,aKF ht.sfx] at ho3
     refine hZ (hc4) ?_
     simp [hb]
     refine gw ?_
     have f12:iZ Sm.a fD T (if (fB bQ l4).1=true then aR (tm (fB bQ l4).2) fun i l'=>aR (moC tm (g++[t]++[i]) l') fun g l3=>AY tm d sb is so js w g l3 else AY tm d sb is so js w (g++[t]) (fB bQ l4).2)=o∧(fB bQ l4).2.length+(if (fB bQ l4).1=true then 1 else 0)≤l4.length:=by
      unfold fB
      cases hc:isW bQ l4 with
      | true =>
        have hlen:=eF hc
        rw [hc,if_pos rfl,yD] at ho3
        simp only [if_true]
        exact ⟨ho3,by omega⟩
      | false =>
        rw [hc,if_neg (by simp),bJ] at ho3
        simp only [Bool.false_eq_true,if_false]
        exact ⟨ho3,by omega⟩
     obtain ⟨f1,f2⟩:=f12
     have hto:=vV h4 hT bQ
     have h6:At T (fB bQ l4).2:=h4.to (nQ _ _) (yB h4.ok)
     have h6len:=nP bQ l4
     generalize fB bQ l4=x at *
     obtain ⟨more,l6⟩:=x
     simp only at f1 f2 hto h6 h6len
     refine hZ (hto) ?_
     refine gs ?_
     refine ⟨(more,g++[t],l6),⟨h6,by simp only; omega,by simp only [List.length_append,List.length_singleton]; omega,f1⟩,?_,by simp only [if_true]; omega⟩
     exact sZ _ [(2,2,_),(3,3,_),(902,99,_)] (by simp [aD,Blk.live]) (by simp [aD])
theorem aLH (ht:Rule Es fD T L 31 tm) (hT:T.length≤10000) {y:YD} (ha:At T y.l) (hl:y.l.length≤L) {o:Out} (ho:iZ Sm.a fD T (AY tm y.y.d y.y.sb y.y.is y.y.so y.y.js y.w y.g y.l)=o) :
  bY Es AX 1 o.po aJZ (FD T y) fun e s=>match e with
   | .exit _=>False
   | _=>EndsO Es Tryz.f116 1 o s:=by
 obtain ⟨⟨d,sb,is,so,js,l0⟩,w,g,l⟩:=y
 simp only at ha hl ho ⊢
 unfold AY vK at ho
 simp only [aJZ,aBE,WB,QL,AX,Tryz.f116,Option.getD_some,fH,eS,FD]
 refine gs ?_
 cases hw:isW wHaving l with
 | false =>
   rw [hw,if_neg (by simp),bJ] at ho
   subst ho
   refine hZ (eE ha hT hw) ?_
   simp only [iZ]
   simp [Sm.c] <;> exact gz
 | true =>
   rw [hw,if_pos rfl] at ho
   have hlen:=eF hw
   refine hZ (dK ha hT hw) ?_
   refine gs ?_
   rcases ht.step (ha.tl hw) (by omega) with ⟨e,he2,hc2⟩ | ⟨t,l2,he2,h2,hl2,hc2⟩
   ·rw [he2,bT,bT] at ho
    subst ho
    exact pZ (hc2)
   rw [he2,bJ,bJ] at ho
   subst ho
   refine hZ (hc2) ?_
   simp only [iZ]
   simp [Sm.c] <;> exact gz
theorem WC {st:List Tk→cY Sm} {l:List Tk} (hF:iN fD) (ht:Rule Es fD T L 31 tm) (hs:RuleX So.a Es fD T L 158 (fF st)) (hSs:∀ l,SfxOk (st l) l) (hT:T.length≤10000) (ha:At T l) (hl:l.length≤L) :
  CfO Es 116 [.ptr 1000000 0 0] [dE T l] (iZ Sm.a fD T (vL tm st l)):=by
 generalize ho:iZ Sm.a fD T (vL tm st l)=o
 refine xQ bI (fn:=Tryz.f116) (c:=QL) (by kernel_rfl) rfl (by kernel_rfl) (by decide) o (by simp) (by simp [dE]) ?_
 refine kQ bI (by decide) (FA T) (fun y=>At T y.l∧y.l.length≤l.length∧iZ Sm.a fD T (vU tm st y.d y.sb y.is y.l)=o) 5 (aLD hF ht hT ha hl ho) fun y hy=>?_
 refine kQ bI (by decide) (FB T) (fun z=>At T z.l∧z.l.length≤y.l.length∧iZ Sm.a fD T (NM tm z.d z.sb z.is z.so z.js z.l)=o) 3 (aLE hF ht hs hSs hT hy.1 (by omega) hy.2.2) fun z hz=>?_
 refine kQ bI (by decide) (FC T) (fun z'=>At T z'.l∧z'.l.length≤z.l.length∧iZ Sm.a fD T (WA tm z'.y.d z'.y.sb z'.y.is z'.y.so z'.y.js z'.w z'.l)=o) 1 (aLF ht hT hz.1 (by omega) hz.2.2) fun u hu=>?_
 refine kQ bI (by decide) (FD T) (fun z'=>At T z'.l∧z'.l.length≤u.l.length∧iZ Sm.a fD T (AY tm z'.y.d z'.y.sb z'.y.is z'.y.so z'.y.js z'.w z'.g z'.l)=o) 1 (aLG hF ht hT hu.1 (by omega) hu.2.2) fun v hv=>?_
 exact dN bI (by decide) _ _ _ (aLH ht hT hv.1 (by omega) hv.2.2)
end
end Go.Proofs.Tryz
namespace Go.Proofs.Tryz
open Go.Ab Go.RowKit
set_option maxRecDepth 100000
set_option maxHeartbeats 4000000
def Own (c:List AV):Prop:=∀ r bl,fL r bl true c=(c,[])
theorem CU {h:Gh} {v u:Value} (hr:aG h v (.d (.val u))):v=u:=by
 simp only [aG,aU] at hr
 exact hr.1
def ES (s:List UInt8) (w:World) (f:FuncId):List (Nat×AV):=[(0,.d (.str s)),(1,.clo f [.ptr 1000000 0 0]),(4,.d (.val (.pointer (some (P4 w))))),(5,.d (.val (.pointer (some (P5 w)))))]
theorem VJ (s:List UInt8):∀ (k a:Nat),(sI s k a).length≤k
 | 0,a=>Nat.le_refl _
 | k+1,a=>by
   rw [sI]
   split
   ·simp
   ·have:=VJ s k (dP s a).to
    simp only [List.length_cons]
    omega
theorem kJ (s:List UInt8):(bX s).length≤s.length+1:=VJ s _ 0
theorem aIr (X:Blk):eG [(1000000,1000000,X)]=bL [X]:=by
 funext n
 simp only [eG,List.map_cons,List.map_nil,bW,dQ,bL]
 by_cases h:n=1000000
 ·subst h; simp [aB]
 ·rw [if_neg h]
  split
  ·rename_i hn
   rw [List.getElem?_eq_none (by simp only [List.length_singleton,aB] at *; omega)]
   rfl
  ·rfl
theorem FP {h:Gh} {x y:Int}:aG h (.tuple #[.int .i64 x,.int .i64 y]) (.tup [.d (.int .i64 x),.d (.int .i64 y)]):=by
 simp only [aG,bB,aU]
 exact ⟨[_,_],rfl,_,[_],rfl,rfl,_,[],rfl,rfl,rfl⟩
theorem aDx {α:Type} {s:List UInt8} (hs:s.length≤4000) {c d:List AV} (hcc:Own c) (hdd:Own d) {f:FuncId} {m:List Tk} (hm:At (bX s) m) (hk:(eU m).kd=5) (hfr:(eU m).fr=s.length)
  (hrule:Cf Es f [.ptr 1000000 0 0,.ptr 1000001 0 0] [dE (bX s) (bX s),.var c] (.tup []) [dE (bX s) m,.var d]) :
  Cf Es 29 [.d (.str s),.clo f [.ptr 1000000 0 0]] [.var c] (.tup [.d (.int .i64 0),.d (.int .i64 0)]) [.var d]:=by
 refine ⟨by kernel_rfl,fun w h vs hr mm=>?_⟩
 obtain ⟨v0,_,rfl,r0,v1,_,rfl,r1,r2⟩:=hr
 simp only [bB] at r2
 subst r2
 have r0':=r0
 simp only [aG,aU] at r0
 subst r0
 have hmf:∀ (fn:Fn) (first cap:Array Value) (w:World),(Instr.makeFunc fn first cap).run Tryz.prog w=.ok (.func fn first cap) w:=fun _ _ _ _=>rfl
 have hX:(Blk.var c).live=true:=rfl
 have hin:=FO hX mm
 have hcc':=hcc
 have hdd':=hdd
 unfold Own at hcc' hdd'
 show Calls Tryz.prog 29 #[.string ⟨s.toArray⟩,v1] w _
 go_enter_defers Tryz.func29,Tryz.ntmps29
 apply wp_seq
 apply wp_region
 simp [wpOps,go_sem,Exit.then]
 repeat (refine Or.inl ?_)
 apply wp_seq
 apply wp_seq
 apply wp_region
 simp [wpOps,go_sem,Exit.then]
 repeat (refine Or.inl ?_)
 refine wp_cond (t:=false) (by simp [Act.eval]; omega) ?_
 simp only [Bool.false_eq_true,if_false]
 refine wp_skip ?_
 apply wp_seq
 apply wp_region
 simp [wpOps,go_sem,Exit.then]
 repeat (refine Or.inl ?_)
 apply wp_seq
 refine ZG (E:=Es) bI (by decide) (N:=32) (nb:=1) (po:=none) (st:={ s:=eP (ES s w f),b:=bL [.var c] }) (st':={ s:=eP ((6,.ptr 14 0 0)::ES s w f),b:=eG [(1000000,1000000,.var c),(14,14,dE (bX s) (bX s))] }) ?_ (C:=C1 w h (.var c)) rfl rfl hin
  (JF hX mm r1 rfl rfl rfl rfl rfl) (fun a1 w2 inv1=>?_) (fun pv e=>by cases e)
 ·have hsc:=aAr s (by omega)
  simp [ES]
  refine aC (aA hsc (by simp) ?_)
  simp
  refine gr ?_
  exact sZ _ [(14,14,_)] (by simp [aD,Blk.live,rdD,hcc']) (by simp [aD])
 simp only [Exit.then]
 apply wp_seq
 refine ZG (E:=Es) bI (by decide) (N:=32) (nb:=1) (po:=none) (st':={ s:=eP ((6,.ptr 14 0 0)::ES s w f),b:=eG [(1000000,1000000,.var d),(14,14,dE (bX s) m)] }) ?_ (C:=C1 w h (.var c)) rfl rfl hin inv1 (fun a2 w3 inv2=>?_) (fun pv e=>by cases e)
 ·simp [ES]
  refine aC (aH [14,1000000] hrule (by simp [hcc']) (by simp) ?_)
  simp [hcc',hdd']
  refine gr ?_
  exact sZ _ [(14,14,_)] (by simp [aD,Blk.live,hdd']) (by simp [aD])
 simp only [Exit.then]
 apply wp_seq
 refine ZG (E:=Es) bI (by decide) (N:=32) (nb:=1) (po:=none) (st':={ s:=eP (ES s w f),b:=eG [(1000000,1000000,.var d)] }) ?_ (C:=C1 w h (.var c)) rfl rfl hin inv2 (fun a3 w4 inv3=>?_) (fun pv e=>by cases e)
 ·have hTl:(bX s).length≤10000:=by have:=kJ s; omega
  have hp:=iQ (tR hm.sfx hm.ne hTl)
  simp only [tkA,rS,hk,if_true,hfr] at hp
  simp [ES]
  refine aC (aH [14] hp (by simp) (by simp) ?_)
  simp
  refine aC (aH [14] hp (by simp) (by simp) ?_)
  simp
  refine gr ?_
  exact sZ _ [] (by simp [aD,Blk.live,hdd']) (by simp [aD])
 simp only [Exit.then]
 obtain ⟨_,hdf,hsz,h3,hsl,m3⟩:=inv3
 have e4:a3.tmps[4]?.getD undef=.pointer (some (P4 w)):=by rw [← Array.getD_eq_getD_getElem?]; exact CU (hsl 4)
 have e5:a3.tmps[5]?.getD undef=.pointer (some (P5 w)):=by rw [← Array.getD_eq_getD_getElem?]; exact CU (hsl 5)
 obtain ⟨rd,mf⟩:=AJ hX mm m3 0 0
 apply wp_seq
 apply wp_region
 simp [wpOps,go_sem,Exit.then,e4,e5,rd.c4,rd.f4,rd.c5',rd.f5']
 repeat (refine Or.inl ?_)
 refine wp_ret ?_
 simp only [bodyPostD]
 rw [show a3.defers=[dcl w] from hdf]
 unfold dcl
 refine leaves_cons (f:=59) (args:=#[.pointer (some (P4 w)),.pointer (some (P5 w))]) (by simp) (by simp [go_sem]) ?_
 refine (aAf _ _ _).mono ?_
 rintro e u' w'' ⟨rfl,rfl,rfl⟩
 simp [Leaves,settle,results,Tryz.results29,go_sem,e4,e5,rd.e4,rd.e5]
 exact ⟨h3,FP,aIr (.var d) ▸ mf⟩
theorem aAi {s:List UInt8} (hs:s.length≤4000) {c:List AV} (hcc:Own c) {f:FuncId} {e:Nat}
  (hrule:CfX sC Es f [.ptr 1000000 0 0,.ptr 1000001 0 0] [dE (bX s) (bX s),.var c] (.d (flD e)) (gN 2)) :
  Cf Es 29 [.d (.str s),.clo f [.ptr 1000000 0 0]] [.var c] (.tup [.d (.int .i64 e),.d (.int .i64 2)]) [.dead]:=by
 refine ⟨by kernel_rfl,fun w h vs hr mm=>?_⟩
 obtain ⟨v0,_,rfl,r0,v1,_,rfl,r1,r2⟩:=hr
 simp only [bB] at r2
 subst r2
 have r0':=r0
 simp only [aG,aU] at r0
 subst r0
 have hmf:∀ (fn:Fn) (first cap:Array Value) (w:World),(Instr.makeFunc fn first cap).run Tryz.prog w=.ok (.func fn first cap) w:=fun _ _ _ _=>rfl
 have hX:(Blk.var c).live=true:=rfl
 have hin:=FO hX mm
 have hcc':=hcc
 unfold Own at hcc'
 show Calls Tryz.prog 29 #[.string ⟨s.toArray⟩,v1] w _
 go_enter_defers Tryz.func29,Tryz.ntmps29
 apply wp_seq
 apply wp_region
 simp [wpOps,go_sem,Exit.then]
 repeat (refine Or.inl ?_)
 apply wp_seq
 apply wp_seq
 apply wp_region
 simp [wpOps,go_sem,Exit.then]
 repeat (refine Or.inl ?_)
 refine wp_cond (t:=false) (by simp [Act.eval]; omega) ?_
 simp only [Bool.false_eq_true,if_false]
 refine wp_skip ?_
 apply wp_seq
 apply wp_region
 simp [wpOps,go_sem,Exit.then]
 repeat (refine Or.inl ?_)
 apply wp_seq
 refine ZG (E:=Es) bI (by decide) (N:=32) (nb:=1) (po:=none) (st:={ s:=eP (ES s w f),b:=bL [.var c] }) (st':={ s:=eP ((6,.ptr 14 0 0)::ES s w f),b:=eG [(1000000,1000000,.var c),(14,14,dE (bX s) (bX s))] }) ?_ (C:=C1 w h (.var c)) rfl rfl hin
  (JF hX mm r1 rfl rfl rfl rfl rfl) (fun a1 w2 inv1=>?_) (fun pv e=>by cases e)
 ·have hsc:=aAr s (by omega)
  simp [ES]
  refine aC (aA hsc (by simp) ?_)
  simp
  refine gr ?_
  exact sZ _ [(14,14,_)] (by simp [aD,Blk.live,rdD,hcc']) (by simp [aD])
 simp only [Exit.then]
 apply wp_seq
 refine HQ (E:=Es) (by decide) (N:=32) (nb:=1) (pv:=flD e) (K:=fun st=>st.s 4=.d (.val (.pointer (some (P4 w))))∧st.s 5=.d (.val (.pointer (some (P5 w))))) ?_ (by decide) (C:=C1 w h (.var c)) rfl rfl hin inv1 (fun a v w3 h3 h0 sp hK hs4 hdf hv m3=>?_)
 ·refine xU rfl ?_
  simp
  refine xU rfl ?_
  simp
  refine HR ⟨by simp [ES],by simp [ES]⟩ (by simp [ES,tB]; rfl) [14,1000000] hrule (by simp) (by simp) (by simp [hcc']) (by simp)
 obtain ⟨hK4,hK5⟩:=hK
 have e4:a.tmps[4]?.getD undef=.pointer (some (P4 w)):=by rw [← Array.getD_eq_getD_getElem?]; exact CU (hK4 ▸ hs4 4)
 have e5:a.tmps[5]?.getD undef=.pointer (some (P5 w)):=by rw [← Array.getD_eq_getD_getElem?]; exact CU (hK5 ▸ hs4 5)
 obtain rfl:v=.iface 97 (.agg #[.int .i64 e]):=by simp only [flD,aU] at hv; exact hv.1
 obtain ⟨rd,mf⟩:=AJ hX mm m3 e 2
 simp only [Exit.then,bodyPostD]
 rw [show a.defers=[dcl w] from hdf]
 unfold dcl
 refine leaves_cons (f:=59) (args:=#[.pointer (some (P4 w)),.pointer (some (P5 w))]) (by simp) (by simp [go_sem]) ?_
 refine (NF _ _ _ 0 0 _ _ rd.c4 rd.c5 rd.f4 rd.f5 rd.c5' rd.f5').mono ?_
 rintro e' u' w'' ⟨rfl,rfl,rfl⟩
 simp [Leaves,settle,results,Tryz.results29,go_sem,e4,e5,rd.e4,rd.e5]
 exact ⟨_,FP,mf⟩
theorem VK {s:List UInt8} (hs:s.length≤4000) {c d:List AV} (hcc:Own c) (hdd:Own d) {f:FuncId} {m:List Tk} (hm:At (bX s) m) (hk:¬ (eU m).kd=5) (hfr:(eU m).kd=0→(eU m).fr<s.length)
  (hrule:Cf Es f [.ptr 1000000 0 0,.ptr 1000001 0 0] [dE (bX s) (bX s),.var c] (.tup []) [dE (bX s) m,.var d]) :
  Cf Es 29 [.d (.str s),.clo f [.ptr 1000000 0 0]] [.var c] (.tup [.d (.int .i64 (lN m)),.d (.int .i64 2)]) [.dead]:=by
 refine ⟨by kernel_rfl,fun w h vs hr mm=>?_⟩
 obtain ⟨v0,_,rfl,r0,v1,_,rfl,r1,r2⟩:=hr
 simp only [bB] at r2
 subst r2
 have r0':=r0
 simp only [aG,aU] at r0
 subst r0
 have hmf:∀ (fn:Fn) (first cap:Array Value) (w:World),(Instr.makeFunc fn first cap).run Tryz.prog w=.ok (.func fn first cap) w:=fun _ _ _ _=>rfl
 have hX:(Blk.var c).live=true:=rfl
 have hin:=FO hX mm
 have hcc':=hcc
 have hdd':=hdd
 unfold Own at hcc' hdd'
 show Calls Tryz.prog 29 #[.string ⟨s.toArray⟩,v1] w _
 go_enter_defers Tryz.func29,Tryz.ntmps29
 apply wp_seq
 apply wp_region
 simp [wpOps,go_sem,Exit.then]
 repeat (refine Or.inl ?_)
 apply wp_seq
 apply wp_seq
 apply wp_region
 simp [wpOps,go_sem,Exit.then]
 repeat (refine Or.inl ?_)
 refine wp_cond (t:=false) (by simp [Act.eval]; omega) ?_
 simp only [Bool.false_eq_true,if_false]
 refine wp_skip ?_
 apply wp_seq
 apply wp_region
 simp [wpOps,go_sem,Exit.then]
 repeat (refine Or.inl ?_)
 apply wp_seq
 refine ZG (E:=Es) bI (by decide) (N:=32) (nb:=1) (po:=none) (st:={ s:=eP (ES s w f),b:=bL [.var c] }) (st':={ s:=eP ((6,.ptr 14 0 0)::ES s w f),b:=eG [(1000000,1000000,.var c),(14,14,dE (bX s) (bX s))] }) ?_ (C:=C1 w h (.var c)) rfl rfl hin
  (JF hX mm r1 rfl rfl rfl rfl rfl) (fun a1 w2 inv1=>?_) (fun pv e=>by cases e)
 ·have hsc:=aAr s (by omega)
  simp [ES]
  refine aC (aA hsc (by simp) ?_)
  simp
  refine gr ?_
  exact sZ _ [(14,14,_)] (by simp [aD,Blk.live,rdD,hcc']) (by simp [aD])
 simp only [Exit.then]
 apply wp_seq
 refine ZG (E:=Es) bI (by decide) (N:=32) (nb:=1) (po:=none) (st':={ s:=eP ((6,.ptr 14 0 0)::ES s w f),b:=eG [(1000000,1000000,.var d),(14,14,dE (bX s) m)] }) ?_ (C:=C1 w h (.var c)) rfl rfl hin inv1 (fun a2 w3 inv2=>?_) (fun pv e=>by cases e)
 ·simp [ES]
  refine aC (aH [14,1000000] hrule (by simp [hcc']) (by simp) ?_)
  simp [hcc',hdd']
  refine gr ?_
  exact sZ _ [(14,14,_)] (by simp [aD,Blk.live,hdd']) (by simp [aD])
 simp only [Exit.then]
 apply wp_seq
 apply wp_seq
 have hTl:(bX s).length≤10000:=by have:=kJ s; omega
 refine ZG (E:=Es) bI (by decide) (N:=32) (nb:=1) (po:=none) (st':={ s:=eP ((29,.d (.bool true))::(6,.ptr 14 0 0)::ES s w f),b:=eG [(1000000,1000000,.var d),(14,14,dE (bX s) m)] }) ?_ (C:=C1 w h (.var c)) rfl rfl hin inv2 (fun a3 w4 inv3=>?_) (fun pv e=>by cases e)
 ·have hp:=iQ (tR hm.sfx hm.ne hTl)
  simp only [tkA,rS,hk,if_false] at hp
  by_cases k0:(eU m).kd=0
  ·have hlt:((eU m).fr:Int)<(s.length:Int):=by have:=hfr k0; omega
   simp [ES]
   refine aC (aH [14] hp (by simp) (by simp) ?_)
   simp [k0]
   refine aC (aH [14] hp (by simp) (by simp) ?_)
   simp [hlt]
   refine gr ?_
   exact sZ _ [(14,14,_)] (by simp [aD,Blk.live,hdd']) (by simp [aD])
  ·simp [ES]
   refine aC (aH [14] hp (by simp) (by simp) ?_)
   have hkb:((eU m).kd != 0)=true:=by simp [k0]
   simp [hkb]
   refine gr ?_
   exact sZ _ [(14,14,_)] (by simp [aD,Blk.live,hdd']) (by simp [aD])
 simp only [Exit.then]
 refine wp_cond_true (by
  obtain ⟨_,_,_,h3,hsl,_⟩:=inv3
  have:=hsl 29
  simp only [eP,bW,dQ,ES] at this
  simpa [aG,aU,Act.eval] using this) ?_
 have hfl:=PP aFk hm hTl
 generalize lN m=e at *
 refine HQ (E:=Es) (by decide) (N:=32) (nb:=1) (pv:=flD e) (K:=fun st=>st.s 4=.d (.val (.pointer (some (P4 w))))∧st.s 5=.d (.val (.pointer (some (P5 w))))) ?_ (by decide) (C:=C1 w h (.var c)) rfl rfl hin inv3 (fun a v w3 h3 h0 sp hK hs4 hdf hv m3=>?_)
 ·refine xU rfl ?_
  simp
  refine HR ⟨by simp [ES],by simp [ES]⟩ (by simp [ES,tB]; rfl) [14] hfl (by simp) (by simp) (by simp) (by simp)
 obtain ⟨hK4,hK5⟩:=hK
 have e4:a.tmps[4]?.getD undef=.pointer (some (P4 w)):=by rw [← Array.getD_eq_getD_getElem?]; exact CU (hK4 ▸ hs4 4)
 have e5:a.tmps[5]?.getD undef=.pointer (some (P5 w)):=by rw [← Array.getD_eq_getD_getElem?]; exact CU (hK5 ▸ hs4 5)
 obtain rfl:v=.iface 97 (.agg #[.int .i64 e]):=by simp only [flD,aU] at hv; exact hv.1
 obtain ⟨rd,mf⟩:=AJ hX mm m3 e 2
 simp only [Exit.then,bodyPostD]
 rw [show a.defers=[dcl w] from hdf]
 unfold dcl
 refine leaves_cons (f:=59) (args:=#[.pointer (some (P4 w)),.pointer (some (P5 w))]) (by simp) (by simp [go_sem]) ?_
 refine (NF _ _ _ 0 0 _ _ rd.c4 rd.c5 rd.f4 rd.f5 rd.c5' rd.f5').mono ?_
 rintro e' u' w'' ⟨rfl,rfl,rfl⟩
 simp [Leaves,settle,results,Tryz.results29,go_sem,e4,e5,rd.e4,rd.e5]
 exact ⟨_,FP,mf⟩
theorem VL {s:List UInt8} (hs:¬ s.length≤4000) (hs2:s.length≤1000000) {c:List AV} {f:FuncId} :
  Cf Es 29 [.d (.str s),.clo f [.ptr 1000000 0 0]] [.var c] (.tup [.d (.int .i64 0),.d (.int .i64 8)]) [.var c]:=by
 refine ⟨by kernel_rfl,fun w h vs hr mm=>?_⟩
 obtain ⟨v0,_,rfl,r0,v1,_,rfl,r1,r2⟩:=hr
 simp only [bB] at r2
 subst r2
 simp only [aG,aU] at r0
 subst r0
 have hX:(Blk.var c).live=true:=rfl
 have hin:=FO hX mm
 show Calls Tryz.prog 29 #[.string ⟨s.toArray⟩,v1] w _
 go_enter_defers Tryz.func29,Tryz.ntmps29
 apply wp_seq
 apply wp_region
 simp [wpOps,go_sem,Exit.then]
 repeat (refine Or.inl ?_)
 apply wp_seq
 apply wp_seq
 apply wp_region
 simp [wpOps,go_sem,Exit.then]
 repeat (refine Or.inl ?_)
 refine wp_cond (t:=true) (by simp [Act.eval]; omega) ?_
 simp only [if_true]
 obtain ⟨rd,mf⟩:=AJ hX mm (mm.shift (w1:=W1 w) (by rw [wT]; omega) (aAh w) [dcl w]) 0 8
 have c4:=rd.c4
 have f4:=rd.f4
 have c5:=rd.c5'
 have f5:=rd.f5'
 have z4:=rd.e4
 have z5:=rd.e5
 change Code.wp _ _ _ _ (W1 w)
 unfold P4 P5 at *
 generalize W1 w=W at *
 apply wp_seq
 apply wp_region
 simp [wpOps,go_sem,Exit.then,c4,f4,c5,f5]
 repeat (refine Or.inl ?_)
 refine wp_ret ?_
 simp only [Exit.then,bodyPostD,Leaves,results,Tryz.results29]
 simp [go_sem,z4,z5]
 exact ⟨h,FP,mf⟩
end Go.Proofs.Tryz
