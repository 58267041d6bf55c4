import Derived.Test.YthpmjipkofbeiaaGreatDoorUFlq
set_option linter.all false
namespace Go.Proofs.Tryz
open Go.Ab
set_option maxRecDepth 100000
set_option maxHeartbeats 8000000
attribute [simp] RI tQ wNot wIs wNull wTrue wFalse wIn bF aY bQ qJ fV gB wLength wCoalesce wCase wWhen wThen wElse wEnd wCount IM IN IO aO EQ uD uE cmpW mM mC aggW
@[simp] theorem aMJ (ks:List Tm):List.take ks.length (ks.map Tm.c)=ks.map Tm.c:=List.take_of_length_le (by simp)
theorem dW {β:Type} (l:List Tk) (f:List Tk→cY β):cR (.ok l) f=f l:=rfl
theorem pF {β:Type} (e:Nat) (f:List Tk→cY β):cR (.error e) f=.error e:=rfl
theorem bT {α β:Type} (e:Nat) (f:α→List Tk→cY β):aR (.error e) f=.error e:=rfl
theorem upO {f:FuncId} {xs:List AV} {B:List Blk} {o:Out} (h:CfO En f xs B o):CfO Es f xs B o:=CfO.more (E:=En) (E':=Es) rfl aFi h
theorem upX {en:Value→Ending} {f:FuncId} {xs:List AV} {B:List Blk} {y:AV} {B':List Blk} (h:CfX en En f xs B y B'):CfX en Es f xs B y B':=CfX.more (E:=En) (E':=Es) rfl aFi h
section
variable {fD:Nat→D} {T l:List Tk}
theorem dK (ha:At T l) (hT:T.length≤10000) {w:List UInt8} (h:isW w l=true):Cf Es 78 [.ptr 1000000 0 0,.d (.str w)] [dE T l] (.d (.bool true)) [dE T l.tail]:=by
 have h1:=iQ (JD ha.sfx ha.ne hT w)
 rw [h,if_pos rfl] at h1
 exact h1
theorem eE (ha:At T l) (hT:T.length≤10000) {w:List UInt8} (h:isW w l=false):Cf Es 78 [.ptr 1000000 0 0,.d (.str w)] [dE T l] (.d (.bool false)) [dE T l]:=by
 have h1:=iQ (JD ha.sfx ha.ne hT w)
 rw [h,if_neg (by simp)] at h1
 exact h1
theorem zZ (ha:At T l) (hT:T.length≤10000) {ws:List (List UInt8)} (hw:ws.length≤100) {i:Nat} (h:bN ws l=some i) :
  Cf Es 77 [.ptr 1000000 0 0,.d (.sl (ws.map fun w=>[.str w]))] [dE T l] (.d (.int .i64 i)) [dE T l.tail]:=by
 have h1:=iQ (aBh ha.sfx ha.ne hT ws (by omega))
 rw [PT,h] at h1
 simp only at h1
 rw [if_pos (by omega)] at h1
 exact h1
theorem HZ (ha:At T l) (hT:T.length≤10000) {ws:List (List UInt8)} (hw:ws.length≤100) (h:bN ws l=none) :
  Cf Es 77 [.ptr 1000000 0 0,.d (.sl (ws.map fun w=>[.str w]))] [dE T l] (.d (.int .i64 (-1))) [dE T l]:=by
 have h1:=iQ (aBh ha.sfx ha.ne hT ws (by omega))
 rw [PT,h] at h1
 simp only at h1
 rw [if_neg (by omega)] at h1
 exact h1
theorem dX (hF:iN fD) (ha:At T l) (hT:T.length≤10000) (ws:List (List UInt8)) (hw:ws.length≤100) :
  (∃ e,cQ ws l=.error e∧CfX sC Es 115 [.ptr 1000000 0 0,.d (.sl (ws.map fun w=>[.str w]))] [dE T l] (.d (fD e)) (gN 1)) ∨
  (∃ m,cQ ws l=.ok m∧At T m∧m.length≤l.length∧Cf Es 115 [.ptr 1000000 0 0,.d (.sl (ws.map fun w=>[.str w]))] [dE T l] (.tup []) [dE T m]):=by
 have h1:=upO (aFj hF ha.sfx ha.ok hT ws (by omega))
 cases hp:cQ ws l with
 | error e=>rw [hp] at h1; exact .inl ⟨e,rfl,h1⟩
 | ok m =>
   rw [hp] at h1
   exact .inr ⟨m,rfl,ha.to (FL _ _ _ hp) (aBo ws ha.ok hp),AC hp,h1⟩
theorem PP (hF:iN fD) (ha:At T l) (hT:T.length≤10000):CfX sC Es 62 [.ptr 1000000 0 0] [dE T l] (.d (fD (lN l))) (gN 1):=upX (hF T l ha.sfx ha.ne hT)
end
theorem MO:jZ=words:=rfl
theorem aKB {fD:Nat→D} (hF:iN fD) {T l:List Tk} (ha:At T l) (hT:T.length≤10000) :
  CfO Es 157 [.ptr 1000000 0 0] [dE T l] (aFG fD T (gJ l)):=by
 have hp:=iQ (tR ha.sfx ha.ne hT)
 have hf:=PP hF ha hT
 have hlen:=ha.sfx.length_le
 cases l with
 | nil=>exact absurd rfl ha.ne
 | cons t r =>
 generalize ho:aFG fD T (gJ (t::r))=o
 simp only [lN] at hf
 have hn:=CK t.rw
 rw [← MO] at hn
 refine eM bI (fn:=Tryz.f157) (by kernel_rfl) rfl (by kernel_rfl) (by decide) o (by simp) (by simp [dE]) ?_
 simp only [eU,tkA,rS] at hp
 have hns:gJ (t::r)=if t.kd=1∧bP jZ t.rw=true then .ok (t.rw,r) else .error t.fr:=rfl
 by_cases h1:t.kd=1
 ·simp only [h1,show ((1:Int)=5)=False from by decide,if_false] at hp
  cases h2:bP jZ t.rw with
  | true =>
    rw [hns.trans (if_pos ⟨h1,h2⟩)] at ho
    rw [h2] at hn
    subst ho
    simp only [aFG]
    have hi:T.length - r.length=T.length - (t::r).length+1:=by simp only [List.length_cons] at *; omega
    have hb:T.length - (t::r).length≤10000:=by omega
    unfold dE at *
    rw [hi]
    generalize T.length - (t::r).length=i at *
    have hwr:=wI (n:=(i:Int)+1)
    refine gs ?_
    refine hZ (hp) ?_
    refine gs ?_
    refine aC (aA (hn) (by simp) ?_)
    simp [hwr] <;> exact gz
  | false =>
    rw [hns.trans (if_neg (by simp [h2]))] at ho
    rw [h2] at hn
    subst ho
    simp only [aFG]
    refine gs ?_
    refine hZ (hp) ?_
    refine gs ?_
    refine aC (aA (hn) (by simp) ?_)
    refine gs ?_
    exact pZ (hf)
 ·rw [hns.trans (if_neg (by simp [h1]))] at ho
  subst ho
  simp only [aFG]
  by_cases h5:t.kd=5
  ·simp only [h5,if_true] at hp
   refine gs ?_
   refine hZ (hp) ?_
   refine gs ?_
   exact pZ (hf)
  ·simp only [h5,if_false] at hp
   refine gs ?_
   refine hZ (hp) ?_
   refine gs ?_
   exact pZ (hf)
section
variable {fD:Nat→D} {T l:List Tk} {L:Nat} {p:List Tk→cY Tm}
theorem aKL (hp:Rule Es fD T L 64 p) (hT:T.length≤10000) (ha:At T l) (hl:l.length≤L) :
  CfO Es 31 [.ptr 1000000 0 0] [dE T l] (eZ fD T (aR (p l) fun t l'=>cW p [RI] [23] l'.length t l')):=by
 have hc:=FI hp hT [RI] [23] (by decide) rfl ha hl
 generalize ho:eZ fD T (aR (p l) fun t l'=>cW p [RI] [23] l'.length t l')=o at hc ⊢
 refine eM bI (fn:=Tryz.f31) (by kernel_rfl) rfl (by kernel_rfl) (by decide) o (by simp) (by simp [dE]) ?_
 cases hr:aR (p l) fun t l'=>cW p [RI] [23] l'.length t l' with
 | error e =>
   rw [hr] at ho
   subst ho
   simp only [eZ] at *
   refine gs ?_
   exact pZ (hc)
 | ok x =>
   obtain ⟨t,m⟩:=x
   rw [hr] at ho
   subst ho
   simp only [eZ] at *
   refine gs ?_
   refine hZ (hc) ?_
   exact gq
theorem aMM (hp:Rule Es fD T L 101 p) (hT:T.length≤10000) (ha:At T l) (hl:l.length≤L) :
  CfO Es 64 [.ptr 1000000 0 0] [dE T l] (eZ fD T (aR (p l) fun t l'=>cW p [tQ] [22] l'.length t l')):=by
 have hc:=FI hp hT [tQ] [22] (by decide) rfl ha hl
 generalize ho:eZ fD T (aR (p l) fun t l'=>cW p [tQ] [22] l'.length t l')=o at hc ⊢
 refine eM bI (fn:=Tryz.f64) (by kernel_rfl) rfl (by kernel_rfl) (by decide) o (by simp) (by simp [dE]) ?_
 cases hr:aR (p l) fun t l'=>cW p [tQ] [22] l'.length t l' with
 | error e =>
   rw [hr] at ho
   subst ho
   simp only [eZ] at *
   refine gs ?_
   exact pZ (hc)
 | ok x =>
   obtain ⟨t,m⟩:=x
   rw [hr] at ho
   subst ho
   simp only [eZ] at *
   refine gs ?_
   refine hZ (hc) ?_
   exact gq
theorem aMN (hp:Rule Es fD T L 195 p) (hT:T.length≤10000) (ha:At T l) (hl:l.length≤L) :
  CfO Es 178 [.ptr 1000000 0 0] [dE T l] (eZ fD T (aR (p l) fun t l'=>cW p mM [6,7,12] l'.length t l')):=by
 have hc:=FI hp hT mM [6,7,12] (by decide) rfl ha hl
 generalize ho:eZ fD T (aR (p l) fun t l'=>cW p mM [6,7,12] l'.length t l')=o at hc ⊢
 refine eM bI (fn:=Tryz.f178) (by kernel_rfl) rfl (by kernel_rfl) (by decide) o (by simp) (by simp [dE]) ?_
 cases hr:aR (p l) fun t l'=>cW p mM [6,7,12] l'.length t l' with
 | error e =>
   rw [hr] at ho
   subst ho
   simp only [eZ] at *
   refine gs ?_
   exact pZ (hc)
 | ok x =>
   obtain ⟨t,m⟩:=x
   rw [hr] at ho
   subst ho
   simp only [eZ] at *
   refine gs ?_
   refine hZ (hc) ?_
   exact gq
theorem aDq (hp:Rule Es fD T L 205 p) (hT:T.length≤10000) (ha:At T l) (hl:l.length≤L) :
  CfO Es 195 [.ptr 1000000 0 0] [dE T l] (eZ fD T (aR (p l) fun t l'=>cW p mC [8,9,10] l'.length t l')):=by
 have hc:=FI hp hT mC [8,9,10] (by decide) rfl ha hl
 generalize ho:eZ fD T (aR (p l) fun t l'=>cW p mC [8,9,10] l'.length t l')=o at hc ⊢
 refine eM bI (fn:=Tryz.f195) (by kernel_rfl) rfl (by kernel_rfl) (by decide) o (by simp) (by simp [dE]) ?_
 cases hr:aR (p l) fun t l'=>cW p mC [8,9,10] l'.length t l' with
 | error e =>
   rw [hr] at ho
   subst ho
   simp only [eZ] at *
   refine gs ?_
   exact pZ (hc)
 | ok x =>
   obtain ⟨t,m⟩:=x
   rw [hr] at ho
   subst ho
   simp only [eZ] at *
   refine gs ?_
   refine hZ (hc) ?_
   exact gq
theorem aMO {q:List Tk→cY Tm} (hp:Rule Es fD T L 101 p) (hq:Rule Es fD T (L+1) 143 q) (hT:T.length≤10000) (ha:At T l) (hl:l.length≤L+1) :
  CfO Es 101 [.ptr 1000000 0 0] [dE T l] (eZ fD T (if isW wNot l=true then tP (fun t=>cD 24 [t]) (p l.tail) else q l)):=by
 generalize ho:eZ fD T (if isW wNot l=true then tP (fun t=>cD 24 [t]) (p l.tail) else q l)=o
 refine eM bI (fn:=Tryz.f101) (by kernel_rfl) rfl (by kernel_rfl) (by decide) o (by simp) (by simp [dE]) ?_
 cases hw:isW wNot l with
 | true =>
   rw [hw,if_pos rfl] at ho
   have hlen:=eF hw
   refine gs ?_
   refine hZ (dK ha hT hw) ?_
   refine gs ?_
   rcases hp.step (ha.tl hw) (by omega) with ⟨e,he,hc⟩ | ⟨t,m,he,hm,hlm,hc⟩
   ·rw [he] at ho
    subst ho
    exact pZ (hc)
   rw [he] at ho
   subst ho
   refine hZ (hc) ?_
   refine gs ?_
   refine aC (aA (iQ (gL 24 [t])) (by simp) ?_)
   simp only [tP,aR,eZ]
   exact gq
 | false =>
   rw [hw,if_neg (by simp)] at ho
   refine gs ?_
   refine hZ (eE ha hT hw) ?_
   refine gs ?_
   rcases hq.step ha hl with ⟨e,he,hc⟩ | ⟨t,m,he,hm,hlm,hc⟩
   ·rw [he] at ho
    subst ho
    exact pZ (hc)
   rw [he] at ho
   subst ho
   refine hZ (hc) ?_
   simp only [eZ]
   exact gq
end
section
variable {fD:Nat→D} {T l:List Tk} {L:Nat} {p:List Tk→cY Tm}
theorem aKK (hF:iN fD) (hp:Rule Es fD T L 31 p) (hT:T.length≤10000) (ha:At T l) (hl:l.length≤L) (m:Nat) (hm:m≤10) :
  CfO Es 218 [.ptr 1000000 0 0,.d (.int .i64 ((m+1:Nat):Int))] [dE T l] (aIq fD T (kG p m l)):=by
 generalize ho:aIq fD T (kG p m l)=o
 unfold kG at ho
 refine eM bI (fn:=Tryz.f218) (by kernel_rfl) rfl (by kernel_rfl) (by decide) o (by simp) (by simp [dE]) ?_
 refine gs ?_
 rcases dX hF ha hT [bF] (by decide) with ⟨e,he,hc⟩ | ⟨l1,he,h1,hl1,hc⟩
 ·rw [he] at ho
  subst ho
  exact pZ (hc)
 rw [he,dW] at ho
 refine hZ (hc) ?_
 refine gs ?_
 rcases hp.step h1 (by omega) with ⟨e,he2,hc2⟩ | ⟨t,l2,he2,h2,hl2,hc2⟩
 ·rw [he2] at ho
  subst ho
  exact pZ (hc2)
 rw [he2,bJ] at ho
 refine hZ (hc2) ?_
 refine gs ?_
 refine iR bI (by decide) (fun y:List Tm×List Tk=>{ s:=eP [(0,.ptr 1000000 0 0),(1,.d (.int .i64 ((m+1:Nat):Int))),(5,.ref 900 0 y.1.length 6)],b:=eG [(1000000,1000000,dE T y.2),(900,900,.arr 25 6 (y.1.map Tm.c) false)] })
  (fun y=>At T y.2∧y.2.length≤L∧1≤y.1.length∧y.1.length≤m+1∧aIq fD T (aR (kV p (m+1 - y.1.length) y.1 y.2) fun ks l3=>cR (cQ [aY] l3) fun l4=>.ok (ks,l4))=o) (fun y=>m+1 - y.1.length) ([t],l2) ⟨h2,by simp only; omega,by simp,by simp,by simpa using ho⟩
  (sZ _ [(900,11,_)] (by simp [aD,Blk.live]) (by simp [aD])) ?_
 rintro ⟨ks,l3⟩ ⟨h3,hl3,hk1,hk2,ho3⟩
 simp only at h3 hl3 hk1 hk2 ho3
 by_cases hlt:ks.length<m+1
 ·have hlt':(ks.length:Int)<(m:Int)+1:=by omega
  obtain ⟨q,hq⟩:∃ q,m+1 - ks.length=q+1:=⟨m - ks.length,by omega⟩
  rw [hq,kV] at ho3
  simp [hlt']
  refine gw ?_
  rcases dX hF h3 hT [bQ] (by decide) with ⟨e,he3,hc3⟩ | ⟨l4,he3,h4,hl4,hc3⟩
  ·rw [he3,pF,bT] at ho3
   subst ho3
   exact pZ (hc3)
  rw [he3,dW] at ho3
  refine hZ (hc3) ?_
  refine gs ?_
  rcases hp.step h4 (by omega) with ⟨e,he4,hc4⟩ | ⟨t4,l5,he4,h5,hl5,hc4⟩
  ·rw [he4,bT,bT] at ho3
   subst ho3
   exact pZ (hc4)
  rw [he4,bJ] at ho3
  have hb:(ks.length+1)*80≤140737488355328∧ks.length≤9223372036854775806:=by omega
  refine hZ (hc4) ?_
  simp [hb]
  refine gw ?_
  refine ⟨(ks++[t4],l5),⟨h5,by simp only; omega,by simp,by simp; omega,?_⟩,?_,by simp; omega⟩
  ·simp only [List.length_append,List.length_singleton]
   rw [show m+1 - (ks.length+1)=q from by omega]
   exact ho3
  exact sZ _ [(900,23,_)] (by simp [aD,Blk.live]) (by simp [aD])
 ·obtain hkm:ks.length=m+1:=by omega
  rw [hkm,Nat.sub_self,kV,bJ] at ho3
  simp [hkm]
  refine gw ?_
  rcases dX hF h3 hT [aY] (by decide) with ⟨e,he3,hc3⟩ | ⟨l4,he3,h4,hl4,hc3⟩
  ·rw [he3,pF] at ho3
   subst ho3
   exact pZ (hc3)
  rw [he3,dW] at ho3
  subst ho3
  refine hZ (hc3) ?_
  simp only [aIq]
  simp [hkm]
  refine gw ?_
  all_goals exact List.take_of_length_le (by simp; omega)
end
section
variable {fD:Nat→D} {T l:List Tk} {L:Nat} {p:List Tk→cY Tm}
theorem TQ (hF:iN fD) (hp:Rule Es fD T L 31 p) (hT:T.length≤10000) (ha:At T l) (hl:l.length≤L) (i:Nat) (hi:i<4) :
  CfO Es 219 [.ptr 1000000 0 0,.d (.int .i64 i)] [dE T l] (eZ fD T (oA p i l)):=by
 generalize ho:eZ fD T (oA p i l)=o
 unfold oA at ho
 refine eM bI (fn:=Tryz.f219) (by kernel_rfl) rfl (by kernel_rfl) (by decide) o (by simp) (by simp [dE]) ?_
 rcases dX hF ha hT [bF] (by decide) with ⟨e,he,hc⟩ | ⟨l1,he,h1,hl1,hc⟩
 ·rw [he] at ho
  subst ho
  rcases (show i=0∨i=1∨i=2∨i=3 by omega) with rfl | rfl | rfl | rfl
  all_goals
   simp<;>(repeat' first|contradiction|exact .ok|apply And.intro|intro _|(apply gc<;>simp+contextual))
   exact pZ (hc)
 rw [he,dW] at ho
 by_cases hi0:i=0
 ·subst hi0
  simp only [true_and] at ho
  cases hs:isW fV l1 with
  | true =>
    rw [hs,if_pos rfl] at ho
    refine gs ?_
    refine hZ (hc) ?_
    refine gs ?_
    refine hZ (dK h1 hT hs) ?_
    refine gs ?_
    rcases dX hF (h1.tl hs) hT [aY] (by decide) with ⟨e,he3,hc3⟩ | ⟨l4,he3,h4,hl4,hc3⟩
    ·rw [he3] at ho
     subst ho
     exact pZ (hc3)
    rw [he3,dW] at ho
    subst ho
    refine hZ (hc3) ?_
    refine gs ?_
    refine aC (aA (iQ (gL 41 [])) (by simp) ?_)
    simp only [eZ]
    simp [cD,Tm.c,dC] <;> exact gz
  | false =>
    rw [hs,if_neg (by simp)] at ho
    cases hd:isW aO l1 with
    | true =>
      rw [hd,if_pos rfl] at ho
      refine gs ?_
      refine hZ (hc) ?_
      refine gs ?_
      refine hZ (eE h1 hT hs) ?_
      refine gs ?_
      refine hZ (dK h1 hT hd) ?_
      refine gs ?_
      rcases hp.step (h1.tl hd) (by simp; omega) with ⟨e,he2,hc2⟩ | ⟨t,l2,he2,h2,hl2,hc2⟩
      ·rw [he2,bT] at ho
       subst ho
       exact pZ (hc2)
      rw [he2,bJ] at ho
      refine hZ (hc2) ?_
      refine gs ?_
      refine aC (aA (iQ (gL 41 [t])) (by simp) ?_)
      simp [cD,Tm.c,dC]
      refine gw ?_
      rcases dX hF h2 hT [aY] (by decide) with ⟨e,he3,hc3⟩ | ⟨l4,he3,h4,hl4,hc3⟩
      ·rw [he3] at ho
       subst ho
       exact pZ (hc3)
      rw [he3,dW] at ho
      subst ho
      refine hZ (hc3) ?_
      simp only [eZ]
      simp [Tm.c,dC] <;> exact gz
    | false =>
      rw [hd,if_neg (by simp)] at ho
      refine gs ?_
      refine hZ (hc) ?_
      refine gs ?_
      refine hZ (eE h1 hT hs) ?_
      refine gs ?_
      refine hZ (eE h1 hT hd) ?_
      refine gs ?_
      rcases hp.step h1 (by omega) with ⟨e,he2,hc2⟩ | ⟨t,l2,he2,h2,hl2,hc2⟩
      ·rw [he2,bT] at ho
       subst ho
       exact pZ (hc2)
      rw [he2,bJ] at ho
      refine hZ (hc2) ?_
      refine gs ?_
      refine aC (aA (iQ (gL 41 [t])) (by simp) ?_)
      simp [cD,Tm.c,dC]
      refine gw ?_
      rcases dX hF h2 hT [aY] (by decide) with ⟨e,he3,hc3⟩ | ⟨l4,he3,h4,hl4,hc3⟩
      ·rw [he3] at ho
       subst ho
       exact pZ (hc3)
      rw [he3,dW] at ho
      subst ho
      refine hZ (hc3) ?_
      simp only [eZ]
      simp [Tm.c,dC,AF] <;> exact gz
 ·rw [if_neg (by simp [hi0]),if_neg (by simp [hi0])] at ho
  rcases (show i=1∨i=2∨i=3 by omega) with rfl | rfl | rfl
  all_goals
   simp<;>(repeat' first|contradiction|exact .ok|apply And.intro|intro _|(apply gc<;>simp+contextual))
   refine hZ (hc) ?_
   simp<;>(repeat' first|contradiction|exact .ok|apply And.intro|intro _|(apply gc<;>simp+contextual))
   rcases hp.step h1 (by omega) with ⟨e,he2,hc2⟩ | ⟨t,l2,he2,h2,hl2,hc2⟩
   ·rw [he2,bT] at ho
    subst ho
    exact pZ (hc2)
   rw [he2,bJ] at ho
   refine hZ (hc2) ?_
   simp<;>(repeat' first|contradiction|exact .ok|apply And.intro|intro _|(apply gc<;>simp+contextual))
   refine aC (aA (iQ (gL 41 [t])) (by simp) ?_)
   simp [cD,Tm.c,dC]<;>(repeat' first|contradiction|exact .ok|apply And.intro|intro _|(apply gc<;>simp+contextual[cD,Tm.c,dC]))
   rcases dX hF h2 hT [aY] (by decide) with ⟨e,he3,hc3⟩ | ⟨l4,he3,h4,hl4,hc3⟩
   ·rw [he3] at ho
    subst ho
    exact pZ (hc3)
   rw [he3,dW] at ho
   subst ho
   refine hZ (hc3) ?_
   simp only [eZ]
   simp [Tm.c,dC,AF] <;> exact gz
end
structure TkV (t:Tk):Prop where
 num:t.kd=2→dD t.rw=(V.mk 1 t.n [],0)
 txt:t.kd=3→dD t.rw=(V.mk 3 0 t.tx,0)
 len:t.rw.length≤10000
def okT (T:List Tk):Prop:=∀ t∈T,TkV t
def aDs (q:List Tk→cY Tm):List Tk→cY Tm
 | []=>.error 0
 | t::r =>
   if t.kd=2 then .ok (.mk 2 0 t.n [] [] [],r)
   else if t.kd=3 then .ok (.mk 4 0 0 t.tx [] [],r)
   else if isW wTrue (t::r)=true then .ok (.mk 3 0 1 [] [] [],r)
   else if isW wFalse (t::r)=true then .ok (cD 3 [],r)
   else if isW wNull (t::r)=true then (match bN [EQ,uD,uE] r with
    | some i=>.ok (.mk 1 (1+i) 0 [] [] [],r.tail)
    | none=>.error (lN r))
   else if isW bF (t::r)=true then aR (q r) fun t l2=>cR (cQ [aY] l2) fun l3=>.ok (t,l3)
   else if isW wLength (t::r)=true then aR (kG q 0 r) fun ks l2=>.ok (cD 13 ks,l2)
   else if isW wCoalesce (t::r)=true then aR (kG q 1 r) fun ks l2=>.ok (cD 27 ks,l2)
   else if isW wCase (t::r)=true then aR (jP q [wWhen,wThen,wElse] [] r) fun ks l2=>cR (cQ [wEnd] l2) fun l3=>.ok (cD 26 ks,l3)
   else match bN aggW (t::r) with
    | some i=>oA q i r
    | none=>aR (gJ (t::r)) fun a l1 =>
      if isW qJ l1=true then aR (gJ l1.tail) fun b l2=>.ok (.mk 40 0 0 b a [],l2) else .ok (.mk 40 0 0 a [] [],l1)
section
variable {fD:Nat→D} {T:List Tk} {L:Nat} {q:List Tk→cY Tm}
theorem ZW {t:Tk} {r:List Tk} (hV:okT T) (hT:T.length≤10000) (ha:At T (t::r)) (hk:t.kd=2) :
  Cf Es 213 [.ptr 1000000 0 0] [dE T (t::r)] (Tm.mk 2 0 t.n [] [] []).a [dE T r]:=by
 have hp:=iQ (tR ha.sfx ha.ne hT)
 have hv:=hV t (ha.sfx.subset List.mem_cons_self)
 have hlen:=ha.sfx.length_le
 have hpar:=upw (FY t.rw (by have:=hv.len; omega))
 rw [hv.num hk] at hpar
 refine cI bI (fn:=Tryz.f213) rfl ?_
 simp only [eU,tkA,rS,hk,show ((2:Int)=5)=False from by decide,if_false] at hp
 have hi:T.length - r.length=T.length - (t::r).length+1:=by simp only [List.length_cons] at *; omega
 have hb:T.length - (t::r).length≤10000:=by omega
 unfold dE at *
 rw [hi]
 generalize T.length - (t::r).length=i at *
 have hwr:=wI (n:=(i:Int)+1)
 simp [V.a] at hp hpar ⊢
 (repeat' first|contradiction|exact .ok|apply And.intro|intro _|(apply gc<;>simp+contextual))
 refine kZ (hp) ?_
 simp [hwr]
 refine gw ?_
 refine aP hpar ?_
 refine gs ?_
 refine aA (iQ (gL 2 [])) (by simp) ?_
 simp [cD,Tm.c,dC] <;> exact gz
theorem ZX {t:Tk} {r:List Tk} (hV:okT T) (hT:T.length≤10000) (ha:At T (t::r)) (hk:t.kd=3) :
  Cf Es 213 [.ptr 1000000 0 0] [dE T (t::r)] (Tm.mk 4 0 0 t.tx [] []).a [dE T r]:=by
 have hp:=iQ (tR ha.sfx ha.ne hT)
 have hv:=hV t (ha.sfx.subset List.mem_cons_self)
 have hlen:=ha.sfx.length_le
 have hpar:=upw (FY t.rw (by have:=hv.len; omega))
 rw [hv.txt hk] at hpar
 refine cI bI (fn:=Tryz.f213) rfl ?_
 simp only [eU,tkA,rS,hk,show ((3:Int)=5)=False from by decide,if_false] at hp
 have hi:T.length - r.length=T.length - (t::r).length+1:=by simp only [List.length_cons] at *; omega
 have hb:T.length - (t::r).length≤10000:=by omega
 unfold dE at *
 rw [hi]
 generalize T.length - (t::r).length=i at *
 have hwr:=wI (n:=(i:Int)+1)
 simp [V.a] at hp hpar ⊢
 (repeat' first|contradiction|exact .ok|apply And.intro|intro _|(apply gc<;>simp+contextual))
 refine kZ (hp) ?_
 simp [hwr]
 refine gw ?_
 refine aP hpar ?_
 refine gs ?_
 refine aA (iQ (gL 2 [])) (by simp) ?_
 simp [cD,Tm.c,dC]
 refine gw ?_
 refine aA (iQ (gL 4 [])) (by simp) ?_
 simp [cD,Tm.c,dC] <;> exact gz
end
theorem aGd {s:List UInt8} {a:Nat} (h:gI s a=s.length):(dP s a).kd=5∧(dP s a).rw=[]∧(dP s a).fr=s.length∧(dP s a).ends=true:=by
 have hd:s.drop s.length=[]:=List.drop_length
 refine ⟨?_,?_,h,?_⟩
 ·show (cP (s.drop (gI s a))).1=5
  rw [h,hd]; rfl
 ·show (s.drop (gI s a)).take _=[]
  rw [h,hd]; rfl
 ·show ((cP (s.drop (gI s a))).1==0||(cP (s.drop (gI s a))).1==5)=true
  rw [h,hd]; rfl
theorem aAr (s:List UInt8) (hs:s.length≤5000):Cf Es 60 [.d (.str s)] [] (.d (.sl ((bX s).map rS))) []:=by
 refine cI bI (fn:=Tryz.f60) rfl ?_
 refine gs ?_
 refine aL bI (fun y:Nat×List Tk=>{ s:=eP [(0,.d (.str s)),(3,.ref 900 0 y.2.length 3),(4,.d (.int .i64 y.1))],b:=eG [(900,900,.arr 103 3 (y.2.map rS) false)] })
  (fun y=>y.1≤s.length∧y.2.length≤y.1∧∃ k,s.length+1≤k+y.1∧bX s=y.2++sI s k y.1) (fun y=>s.length - y.1) (0,[]) ⟨by simp,by simp,s.length+1,by simp,rfl⟩
  (FF 3 900 103 3 (by simp) (by simp) (by decide) (by decide) _ [(900,900,_)] ⟨by simp,by simp,by simp [aD,Blk.live,dQ],by simp⟩ (by simp [aD,dQ])) ?_
 rintro ⟨a,L⟩ ⟨ha,hL,k,hk,hto⟩
 simp only at ha hL hk hto
 obtain ⟨k,rfl⟩:∃ z,k=z+1:=⟨k - 1,by omega⟩
 have hrun:=iQ (aGc 98 dU aIG (s.drop a) (by simp; omega))
 have hsk:=FJ ha
 have hskd:gI s a=a+((s.drop a).takeWhile dU).length:=rfl
 generalize ((s.drop a).takeWhile dU).length=n at *
 have hwr:=wI (n:=(a:Int)+(n:Int))
 have hal:(a:Int)≤(s.length:Int):=by omega
 have hbb:(L.length+1)*32≤140737488355328:=by omega
 have hb2:L.length≤9223372036854775806:=by omega
 simp [hal]
 refine gw ?_
 refine aP hrun ?_
 obtain ⟨a',ha'⟩:∃ a',a'=gI s a:=⟨_,rfl⟩
 have hz:(a:Int)+(n:Int)=a':=by omega
 have hz':a+n=a':=by omega
 rw [hz] at hwr
 rw [sI] at hto
 by_cases he:a'=s.length
 ·obtain ⟨k5,rw5,fr5,e5⟩:=aGd (ha' ▸ he)
  rw [if_pos e5] at hto
  have heI:(a:Int)+(n:Int)=(s.length:Int):=by omega
  have hwr2:IntKind.i64.wrap (s.length:Int)=(s.length:Int):=aZ (by omega) (by omega)
  simp [heI,hwr2,hbb,hb2]
  refine gw ?_
  all_goals (rw [hto,List.take_of_length_le (by simp)]; simp [rS,k5,rw5,fr5])
 ·have heI:¬ (a':Int)=(s.length:Int):=by omega
  obtain ⟨c,q,hcq⟩:∃ c q,s.drop a'=c::q:=by
   cases hd:s.drop a' with
   | nil=>have:=List.drop_eq_nil_iff.1 hd; omega
   | cons c q=>exact ⟨c,q,rfl⟩
  have hnx:=aKM c q (by rw [← hcq]; simp; omega)
  have hal':(a':Int)≤(s.length:Int):=by omega
  have hal2:a'≤s.length:=by omega
  simp [hz,hwr,heI,hal']
  refine gw ?_
  refine aA hnx (by simp [hcq]) ?_
  have hto2:=wM ha
  have hk5:(cP (c::q)).1 ≠ 5:=aFf
  have htk:dP s a=⟨(cP (c::q)).1,(c::q).take (cP (c::q)).2.1,(cP (c::q)).2.2.1,(cP (c::q)).2.2.2,a',a'+(cP (c::q)).2.1⟩:=by
   unfold dP
   rw [← ha',hcq]
  rw [htk] at hto hto2
  unfold nxA
  generalize cP (c::q)=x at *
  obtain ⟨kd,n2,tx,nn⟩:=x
  simp only at hto hto2 hk5 htk
  have hwr3:=wI (n:=(a':Int)+(n2:Int))
  obtain ⟨z,hz2⟩:∃ z,z=a'+n2:=⟨_,rfl⟩
  have hz3:(a':Int)+(n2:Int)=z:=by omega
  rw [hz3] at hwr3
  have hlo:(a':Int)≤(z:Int):=by omega
  have hhi:(z:Int)≤(s.length:Int):=by omega
  have htx:List.drop a' (List.take z s)=List.take n2 (c::q):=by rw [hz2,← hcq,List.drop_take,Nat.add_sub_cancel_left]
  by_cases h0:kd=0
  ·have hen:Tk.ends ⟨kd,(c::q).take n2,tx,nn,a',a'+n2⟩=true:=by simp [Tk.ends,h0]
   rw [if_pos hen] at hto
   simp [hz3,hwr3,hlo,hhi,hbb,hb2,h0]
   refine gw ?_
   all_goals (rw [hto,List.take_of_length_le (by simp)]; simp [rS,h0,htx])
  ·have hen:Tk.ends ⟨kd,(c::q).take n2,tx,nn,a',a'+n2⟩=false:=by simp [Tk.ends,h0,hk5]
   rw [if_neg (by simp [hen])] at hto
   simp [hz3,hwr3,hlo,hhi,hbb,hb2,h0]
   refine gw ?_
   obtain ⟨h21,h22,h23,h24⟩:=hto2
   have h25:=h24 hen
   refine ⟨(z,L++[⟨kd,(c::q).take n2,tx,nn,a',a'+n2⟩]),⟨by simp only; omega,by simp; omega,k,by simp only; omega,by rw [hto,hz2]; simp⟩,?_,by simp only; omega⟩
   exact sM _ [(900,40,_)] (by simp [aD,Blk.live,rS,hk5,htx]) (by simp [aD])
end Go.Proofs.Tryz
namespace Go.Proofs.Tryz
open Go.RowKit
set_option maxRecDepth 100000
set_option maxHeartbeats 4000000
theorem aAf (p q:Addr) (w:World) :
  CallsD Tryz.prog 59 #[.pointer (some p),.pointer (some q)] .returning w fun e u' w'=>e=.returned (.tuple #[])∧u'=.returning∧w'=w:=by
 refine callsD_of_wpS Tryz.func59 rfl fun c₀ cs hu=>?_
 simp only [Tryz.ntmps59,List.size_toArray,List.length_cons,List.length_nil,Nat.reduceAdd,Nat.reduceSub,Array.replicate_succ,Array.replicate_zero,List.push_toArray,List.append_toArray,List.nil_append,List.cons_append]
 apply wpS_seq
 apply wpS_region
 simp [wpOpsS,go_sem,recoverD,hu,Exit.thenS]
 apply wpS_seq
 apply wpS_region
 simp [wpOpsS,go_sem,Exit.thenS]
 refine wpS_cond (t:=false) (by simp [Act.eval]) ?_
 simp only [Bool.false_eq_true,if_false]
 refine wpS_of_wp (wp_skip ?_)
 cases c₀
 simp_all [bodyPostS,results,Tryz.results59]
theorem NF (p q:Addr) (n x y:Int) (older:List PanicEntry) (w:World) (hp:w.cell? p=some (.int .i64 x)) (hq:w.cell? q=some (.int .i64 y)) (zp:w.frozen? p=false) (zq:w.frozen? q=false) (hq2:(w.setCell p (.int .i64 n)).cell? q=some (.int .i64 y)) (zq2:(w.setCell p (.int .i64 n)).frozen? q=false) :
  CallsD Tryz.prog 59 #[.pointer (some p),.pointer (some q)] (.panicking ({ v:=.iface 97 (.agg #[.int .i64 n]),recovered:=false }::older)) w fun e u' w' =>
   e=.returned (.tuple #[])∧u'=.panicking ({ v:=.iface 97 (.agg #[.int .i64 n]),recovered:=true }::older)∧w'=(w.setCell p (.int .i64 n)).setCell q (.int .i64 2):=by
 refine callsD_of_wpS Tryz.func59 rfl fun c₀ cs hu=>?_
 simp only [Tryz.ntmps59,List.size_toArray,List.length_cons,List.length_nil,Nat.reduceAdd,Nat.reduceSub,Array.replicate_succ,Array.replicate_zero,List.push_toArray,List.append_toArray,List.nil_append,List.cons_append]
 apply wpS_seq
 apply wpS_region
 simp [wpOpsS,go_sem,recoverD,hu,Exit.thenS]
 apply wpS_seq
 apply wpS_region
 simp [wpOpsS,go_sem,Exit.thenS]
 refine wpS_cond (t:=true) (by simp [Act.eval]) ?_
 simp only [if_true]
 apply wpS_region
 have hta:∀ w':World,(Instr.typeAssert (.iface 97 (.agg #[.int .i64 n])) 20 97 false).run Tryz.prog w'=.ok (.agg #[.int .i64 n]) w':=fun w'=>by kernel_rfl
 have hfd:∀ w':World,(Instr.field 97 (.agg #[.int .i64 n]) 0).run Tryz.prog w'=.ok (.int .i64 n) w':=fun w'=>by kernel_rfl
 simp [wpOpsS,go_sem,hp,zp,hta,hfd,hq2,zq2,bodyPostS,results,Tryz.results59]
end Go.Proofs.Tryz
namespace Go.Proofs.Tryz
open Go.Ab
set_option maxRecDepth 100000
set_option maxHeartbeats 4000000
section
variable {fD:Nat→D} {T l:List Tk} {L:Nat} {p q:List Tk→cY Tm}
theorem aGK {l:List Tk} (hn:l ≠ []):oM l=((eU l).kd==2&&(eU l).rw != [48]):=by
 cases l with
 | nil=>exact absurd rfl hn
 | cons t r=>rfl
theorem aJi (hp:Rule Es fD T L 205 p) (hq:Rule Es fD T (L+1) 213 q) (hqn:∀ l,At T l→l.length≤L→oM l=true→q l=.ok (.mk 2 0 (eU l).n [] [] [],l.tail)) (hT:T.length≤10000) (ha:At T l) (hl:l.length≤L+1) :
  CfO Es 205 [.ptr 1000000 0 0] [dE T l] (eZ fD T (if isW gB l=true then (if oM l.tail=true then .ok (.mk 2 0 (IntKind.i64.wrap (-(eU l.tail).n)) [] [] [],l.tail.tail) else tP (fun t=>cD 11 [t]) (p l.tail)) else q l)):=by
 generalize ho:eZ fD T (if isW gB l=true then (if oM l.tail=true then .ok (.mk 2 0 (IntKind.i64.wrap (-(eU l.tail).n)) [] [] [],l.tail.tail) else tP (fun t=>cD 11 [t]) (p l.tail)) else q l)=o
 refine eM bI (fn:=Tryz.f205) (by kernel_rfl) rfl (by kernel_rfl) (by decide) o (by simp) (by simp [dE]) ?_
 cases hw:isW gB l with
 | true =>
   rw [hw,if_pos rfl] at ho
   have hlen:=eF hw
   have h1:=ha.tl hw
   have hk:=iQ (tR h1.sfx h1.ne hT)
   have hnm:=aGK h1.ne
   have hq1:=hqn l.tail h1 (by omega)
   have ht:=dK ha hT hw
   obtain ⟨l1,hl1⟩:∃ l1,l1=l.tail:=⟨_,rfl⟩
   rw [← hl1] at ho h1 hk hnm hq1 hlen ht
   refine gs ?_
   refine hZ (ht) ?_
   refine gs ?_
   refine hZ (hk) ?_
   cases hb:oM l1 with
   | true =>
     rw [hb,if_pos rfl] at ho
     rw [hb] at hnm
     subst ho
     have hk2:(eU l1).kd=2∧((eU l1).rw != [48])=true:=by simpa using hnm.symm
     rcases hq.step h1 (by omega) with ⟨e,he,hc⟩ | ⟨t,m,he,hm,hlm,hc⟩
     ·rw [hq1 hb] at he; cases he
     rw [hq1 hb] at he
     simp only [Except.ok.injEq,Prod.mk.injEq] at he
     obtain ⟨rfl,rfl⟩:=he
     generalize eU l1=tk at *
     have hk3:¬ tk.rw=[48]:=by simpa using hk2.2
     simp [tkA,rS,hk2.1,hk3]
     refine gw ?_
     refine hZ (hc) ?_
     simp only [eZ]
     simp [Tm.c,dC] <;> exact gz
   | false =>
     rw [hb,if_neg (by simp)] at ho
     rw [hb] at hnm
     have hstep:=hp.step h1 (by omega)
     generalize eU l1=tk at *
     have hk2:tk.kd=2→tk.rw=[48]:=fun h=>by simpa [h] using hnm.symm
     by_cases k2:tk.kd=2
     ·have hk3:=hk2 k2
      simp [tkA,rS,k2,hk3]
      refine gw ?_
      rcases hstep with ⟨e,he,hc⟩ | ⟨t,m,he,hm,hlm,hc⟩
      ·rw [he] at ho
       subst ho
       exact pZ (hc)
      rw [he] at ho
      subst ho
      refine hZ (hc) ?_
      refine gs ?_
      refine aC (aA (iQ (gL 11 [t])) (by simp) ?_)
      simp only [tP,aR,eZ]
      exact gq
     ·by_cases k5:tk.kd=5
      ·simp [tkA,rS,k5]
       refine gw ?_
       rcases hstep with ⟨e,he,hc⟩ | ⟨t,m,he,hm,hlm,hc⟩
       ·rw [he] at ho
        subst ho
        exact pZ (hc)
       rw [he] at ho
       subst ho
       refine hZ (hc) ?_
       refine gs ?_
       refine aC (aA (iQ (gL 11 [t])) (by simp) ?_)
       simp only [tP,aR,eZ]
       exact gq
      ·simp [tkA,rS,k5]
       refine gw ?_
       rcases hstep with ⟨e,he,hc⟩ | ⟨t,m,he,hm,hlm,hc⟩
       ·rw [he] at ho
        subst ho
        exact pZ (hc)
       rw [he] at ho
       subst ho
       refine hZ (hc) ?_
       refine gs ?_
       refine aC (aA (iQ (gL 11 [t])) (by simp) ?_)
       simp only [tP,aR,eZ]
       exact gq
 | false =>
   rw [hw,if_neg (by simp)] at ho
   refine gs ?_
   refine hZ (eE ha hT hw) ?_
   refine gs ?_
   rcases hq.step ha hl with ⟨e,he,hc⟩ | ⟨t,m,he,hm,hlm,hc⟩
   ·rw [he] at ho
    subst ho
    exact pZ (hc)
   rw [he] at ho
   subst ho
   refine hZ (hc) ?_
   simp only [eZ]
   exact gq
end
end Go.Proofs.Tryz
