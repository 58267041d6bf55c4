import Derived.Test.YthpmjipkofbeiaaGreatDoorSmg
import Derived.Test.YthpmjipkofbeiaaGreatDoorTrm
import Derived.Test.YthpmjipkofbeiaaGreatDoorURpm
import Derived.Test.YthpmjipkofbeiaaGreatDoorURed
set_option linter.all false
namespace Go.Proofs.Tryz
open Go.Ab
set_option maxRecDepth 100000
set_option maxHeartbeats 16000000
def StK (x:Sm):Prop:=Cf Ej 37 [x.a] [] (.d (.str (oL x))) []∧(oL x).length≤1099511627776
theorem aJA (t:Tm) (h:WrK t):Cf Es 69 [(It.mk t []).a] [] (.d (.str (wr t))) []:=by
 refine cI bI (fn:=Tryz.f69) rfl ?_
 obtain ⟨o,y,m,t,q,ks⟩:=t
 obtain ⟨pa,la⟩:=h
 generalize wr (.mk o y m t q ks)=A at *
 simp [Tm.a,Tm.c,aS] at pa
 simp [It.a,It.c,Tm.c,aS]
 refine gw ?_
 refine aP pa ?_
 simp
 all_goals exact gz
theorem aJB (t:Tm) (h:WrK t) (n:List UInt8) (hn:n.length≤1099511627776) (h0:¬ n=[]):Cf Es 69 [(It.mk t n).a] [] (.d (.str (wr t++32::97::115::32::n))) []:=by
 refine cI bI (fn:=Tryz.f69) rfl ?_
 obtain ⟨o,y,m,t,q,ks⟩:=t
 obtain ⟨pa,la⟩:=h
 generalize wr (.mk o y m t q ks)=A at *
 have zF:(A.length≤9223372036854775803)∧(A.length+4+n.length≤9223372036854775807)∧True:=⟨by omega,by omega,trivial⟩ --Z
 simp [Tm.a,Tm.c,aS] at pa
 simp [It.a,It.c,Tm.c,aS,h0]
 refine gw ?_
 refine aP pa ?_
 simp [zF] <;> exact gz
theorem aAK (i:It) (h:WrK i.t) (hn:i.n.length≤1099511627776):Cf Es 69 [i.a] [] (.d (.str (RF i))) []:=by
 obtain ⟨t,n⟩:=i
 by_cases h0:n=[]
 ·subst h0
  rw [show RF ⟨t,[]⟩=wr t from by unfold RF asB; rw [if_pos rfl,List.append_nil]]
  exact aJA t h
 ·rw [show RF ⟨t,n⟩=wr t++32::97::115::32::n from by unfold RF asB; rw [if_neg h0]; rfl]
  exact aJB t h n hn h0
theorem aJC (t:List UInt8):Cf Ej 70 [jJ t [] []] [] (.d (.str t)) []:=by
 refine cI EP (fn:=Tryz.f70) rfl ?_
 simp [jJ,kK,oJ]
 all_goals exact gz
theorem aJD (t n:List UInt8) (ht:t.length≤1099511627776) (hn:n.length≤1099511627776) (h0:¬ n=[]):Cf Ej 70 [jJ t [] n] [] (.d (.str (t++32::97::115::32::n))) []:=by
 refine cI EP (fn:=Tryz.f70) rfl ?_
 have zF:(4+n.length≤9223372036854775807)∧(t.length+(n.length+1+1+1+1)≤9223372036854775807)∧True:=⟨by omega,by omega,trivial⟩ --Z
 simp [jJ,kK,oJ,h0,zF] <;> exact gz
theorem aJE (t:List UInt8) (x:Sm) (q:List Sm) (hx:StK x):Cf Ej 70 [jJ t (x::q) []] [] (.d (.str (40::(oL x++[41])))) []:=by
 refine cI EP (fn:=Tryz.f70) rfl ?_
 obtain ⟨px,lx⟩:=hx
 have c1:=x.clen
 have k1:=x.ctake
 generalize oL x=A at *
 have hl:(0:Int)<(q.length:Int)+1:=by omega
 have zF:(1+A.length≤9223372036854775807)∧(A.length≤9223372036854775805)∧True:=⟨by omega,by omega,trivial⟩ --Z
 simp [jJ,kK,aE,c1,k1,hl]
 refine gw ?_
 refine aA px (by simp [Sm.a]) ?_
 simp [zF] <;> exact gz
theorem aJF (t n:List UInt8) (hn:n.length≤1099511627776) (x:Sm) (q:List Sm) (hx:StK x) (h0:¬ n=[]):Cf Ej 70 [jJ t (x::q) n] [] (.d (.str (40::(oL x++41::32::97::115::32::n)))) []:=by
 refine cI EP (fn:=Tryz.f70) rfl ?_
 obtain ⟨px,lx⟩:=hx
 have c1:=x.clen
 have k1:=x.ctake
 generalize oL x=A at *
 have hl:(0:Int)<(q.length:Int)+1:=by omega
 have zF:(1+A.length≤9223372036854775807)∧(A.length≤9223372036854775805)∧(4+n.length≤9223372036854775807)∧(A.length+1+1+(n.length+1+1+1+1)≤9223372036854775807)∧True:=⟨by omega,by omega,by omega,by omega,trivial⟩ --Z
 simp [jJ,kK,aE,c1,k1,hl,h0]
 refine gw ?_
 refine aA px (by simp [Sm.a]) ?_
 simp [zF,h0] <;> exact gz
theorem BH (t:List UInt8) (q:List Sm) (n:List UInt8) (ht:t.length≤1099511627776) (hn:n.length≤1099511627776) (hq:∀ x∈q,StK x):Cf Ej 70 [jJ t q n] [] (.d (.str (KT t (jR q) n))) []:=by
 cases q with
 | nil =>
   by_cases h0:n=[]
   ·subst h0
    rw [show KT t (jR []) []=t from by unfold KT asB; rw [jR,if_pos rfl,List.append_nil]]
    exact aJC t
   ·rw [show KT t (jR []) n=t++32::97::115::32::n from by unfold KT asB; rw [jR,if_neg h0]; rfl]
    exact aJD t n ht hn h0
 | cons x q =>
   have hx:=hq x List.mem_cons_self
   by_cases h0:n=[]
   ·subst h0
    rw [show KT t (jR (x::q)) []=40::(oL x++[41]) from by unfold KT asB; rw [jR,if_pos rfl,List.append_nil]]
    exact aJE t x q hx
   ·rw [show KT t (jR (x::q)) n=40::(oL x++41::32::97::115::32::n) from by unfold KT asB; rw [jR,if_neg h0]; simp [rV]]
    exact aJF t n hn x q hx h0
theorem pk3 {l:List (List UInt8)} (hl:l.length=3) {z:Int} (h:0≤z∧z<3):l[z.toNat]?=some (WZ l z):=by
 unfold WZ
 rw [gE (by omega)]; rfl
theorem aIO {l:List (List UInt8)} (hl:l.length=3) {z:Int} (h:0≤z∧z<3):(l.map fun w=>[D.str w])[z.toNat]?=some [D.str (WZ l z)]:=by
 rw [List.getElem?_map,pk3 hl h]; rfl
theorem aLA (L:List Int) (nm:List UInt8) (d:Int) (i:Nat) (hi:i≤900000) (h:d≤1) :
  Cf En 35 [.ptr 1000000 0 0,.d (.int .i64 d),.d (.str nm)] [bR L i] (jJ (qK L nm i).1.1 (qK L nm i).1.2.1 (qK L nm i).1.2.2) [bR L (qK L nm i).2]:=by
 have n3:=cT L i (n:=3) (by omega)
 have hw:=aIO (l:=nmS) rfl n3
 have h0:=n3.1
 have h2:=n3.2
 have t1:=jA L i (by omega) 3 (by omega) (by omega)
 have t2:=jA L (i+1) (by omega) 3 (by omega) (by omega)
 unfold qK
 generalize WZ nmS (aQ L i 3)=w at *
 generalize aQ L i 3=u at *
 simp [nmS] at hw
 have hnk:∀ h,[[D.str [116,48]],[D.str [116,49]],[D.str [116,50]]][u.toNat]'h=[D.str w]:=fun h=>(List.getElem?_eq_some_iff.1 hw).2
 have hd:¬ 1<d:=by omega
 refine cI fQ (fn:=Tryz.f35) rfl ?_
 simp [bR,hd]
 refine gw ?_
 refine aH [1000000] t1 (by simp [bR]) (by simp) ?_
 simp [bR,h0,h2,hnk]
 refine gw ?_
 refine aH [1000000] t2 (by simp [bR]) (by simp) ?_
 by_cases hp:0<aQ L (i+1) 3
 ·simp [bR,hp]<;>(repeat' first|contradiction|exact .ok|apply And.intro|intro _|(apply gc<;>simp+contextual[hp]))
  all_goals (first | omega | (simp [jJ,kK,oJ]; done) | (simp [jJ,kK,oJ]; omega))
 ·simp [bR,hp]<;>(repeat' first|contradiction|exact .ok|apply And.intro|intro _|(apply gc<;>simp+contextual[hp]))
  all_goals (first | omega | (simp [jJ,kK,oJ]; done) | (simp [jJ,kK,oJ]; omega))
theorem aLB (L:List Int) (nm:List UInt8) (d:Int) (i:Nat) (hi:i≤900000) (h:1<d) (h3:¬ aQ L i 3=0) :
  Cf En 35 [.ptr 1000000 0 0,.d (.int .i64 d),.d (.str nm)] [bR L i] (jJ (qK L nm (i+1)).1.1 (qK L nm (i+1)).1.2.1 (qK L nm (i+1)).1.2.2) [bR L (qK L nm (i+1)).2]:=by
 have n3:=cT L (i+1) (n:=3) (by omega)
 have hw:=aIO (l:=nmS) rfl n3
 have h0:=n3.1
 have h2:=n3.2
 have t0:=jA L i (by omega) 3 (by omega) (by omega)
 have t1:=jA L (i+1) (by omega) 3 (by omega) (by omega)
 have t2:=jA L (i+1+1) (by omega) 3 (by omega) (by omega)
 unfold qK
 generalize WZ nmS (aQ L (i+1) 3)=w at *
 generalize aQ L (i+1) 3=u at *
 simp [nmS] at hw
 have hnk:∀ h,[[D.str [116,48]],[D.str [116,49]],[D.str [116,50]]][u.toNat]'h=[D.str w]:=fun h=>(List.getElem?_eq_some_iff.1 hw).2
 refine cI fQ (fn:=Tryz.f35) rfl ?_
 simp [bR,h]
 refine gw ?_
 refine aH [1000000] t0 (by simp [bR]) (by simp) ?_
 simp [bR,h3]
 refine gw ?_
 refine aH [1000000] t1 (by simp [bR]) (by simp) ?_
 simp [bR,h0,h2,hnk]
 refine gw ?_
 refine aH [1000000] t2 (by simp [bR]) (by simp) ?_
 by_cases hp:0<aQ L (i+1+1) 3
 ·simp [bR,hp]<;>(repeat' first|contradiction|exact .ok|apply And.intro|intro _|(apply gc<;>simp+contextual[hp]))
  all_goals (first | omega | (simp [jJ,kK,oJ]; done) | (simp [jJ,kK,oJ]; omega))
 ·simp [bR,hp]<;>(repeat' first|contradiction|exact .ok|apply And.intro|intro _|(apply gc<;>simp+contextual[hp]))
  all_goals (first | omega | (simp [jJ,kK,oJ]; done) | (simp [jJ,kK,oJ]; omega))
def aGh (L:List Int) (d:Nat) (st:Nat→Sm×Nat) (B:Nat):Prop:=∀ i:Nat,i+B≤700000→Cf En 13 [.ptr 1000000 0 0,.d (.int .i64 d)] [bR L i] (st i).1.a [bR L (st i).2]
theorem aNo (L:List Int) {st:Nat→Sm×Nat} {d B:Nat} (hd:1≤d∧d≤5) (hst:aGh L d st B) (nm:List UInt8) (i:Nat) (hi:i+(B+5)≤700000) :
  Cf En 35 [.ptr 1000000 0 0,.d (.int .i64 (d+1:Nat)),.d (.str nm)] [bR L i] (jJ (nE L st true nm i).1.1 (nE L st true nm i).1.2.1 (nE L st true nm i).1.2.2) [bR L (nE L st true nm i).2]:=by
 have h1:(1:Int)<((d+1:Nat):Int):=by omega
 by_cases h3:aQ L i 3=0
 ·have hs:nE L st true nm i=(([],[(st (i+1)).1],nm),(st (i+1)).2):=by unfold nE; rw [if_pos rfl,if_pos h3]
  rw [hs]
  have hc:=hst (i+1) (by omega)
  generalize st (i+1)=x at *
  obtain ⟨x,p⟩:=x
  simp only at hc ⊢
  have c1:=x.clen
  have k1:=x.ctake
  have k2:List.take 13 x.c=x.c:=List.take_of_length_le (by rw [c1]; exact Nat.le_refl _)
  have t0:=jA L i (by omega) 3 (by omega) (by omega)
  have hw:IntKind.i64.wrap (d:Int)=d:=aZ (by omega) (by omega)
  refine cI fQ (fn:=Tryz.f35) rfl ?_
  have h1':(1:Int)<(d:Int)+1:=by omega
  simp [bR,h1']
  refine gw ?_
  refine aH [1000000] t0 (by simp [bR]) (by simp) ?_
  simp [bR,h3,hw]
  refine gw ?_
  refine aH [1000000] hc (by simp [bR]) (by simp) ?_
  simp [bR,Sm.a,c1,k2]
  refine gw ?_
  all_goals (first | omega | (simp [jJ,kK,oJ]; done) | (simp [jJ,kK,oJ]; omega))
 ·have hs:nE L st true nm i=qK L nm (i+1):=by unfold nE; rw [if_pos rfl,if_neg h3]
  rw [hs]
  exact aLB L nm _ i (by omega) h1 h3
attribute [simp] bR
noncomputable def mkC:Code:=(Tryz.f13.body).getD .skip
abbrev VZ:Nat:=139
@[simp] def cM (d sb:Bool) (items:AV) (so:SoG) (js w g h:AV):List AV:=[.d (.int .i64 1),.d (.bool false),.d (.bool d),.d (.bool sb),items,.d (.str so.1),.d (.sl (so.2.1.map Sm.c)),.d (.str so.2.2),js,w,g,h,.nils]
@[simp] def cZ (d sb:Bool) (items:AV):List AV:=[.d (.int .i64 1),.d (.bool false),.d (.bool d),.d (.bool sb),items,.d (.str []),.nils,.d (.str []),.nils,.nils,.nils,.nils,.nils]
def FM (L:List Int) (dp:Int) (i:Nat) (c:List AV):St:={ s:=eP [(0,.ptr 1000000 0 0),(1,.d (.int .i64 dp)),(4,.ptr 4 0 0),(7,.ptr 7 0 0)],b:=eG [(1000000,1000000,bR L i),(4,4,.var xM),(7,7,.var c)] }
def Ix (i v:Nat):Prop:=i=v
def oH (deep:Bool) (i:Nat):Nat:=if deep=true then i+1 else i
theorem aLC (L:List Int) (dp:Int) (deep:Bool) (hd:deep=decide (1<dp)) (i:Nat) (hi:i≤900000) (h0:deep=true→¬ aQ L i 4=0) :
  bY En VZ 1 none (jN 3 mkC).1 (Go.Ab.begin [.ptr 1000000 0 0,.d (.int .i64 dp)] [bR L i]) fun e s=>match e with
   | .normal=>∃ p:Nat,Ix p (oH deep i+2)∧Sub En VZ 1 s (FM L dp p (cZ (aQ L (oH deep i) 4==0) (aQ L (oH deep i+1) 3==0) .nils))
   | _=>False:=by
 simp only [mkC,VZ,Tryz.f13,Option.getD_some,fH,eS]
 have t0:=jA L i (by omega) 4 (by omega) (by omega)
 have t1:=jA L (oH deep i) (by unfold oH; split <;> omega) 4 (by omega) (by omega)
 have t2:=jA L (oH deep i+1) (by unfold oH; split <;> omega) 3 (by omega) (by omega)
 by_cases h1:1<dp
 ·have hde:deep=true:=by rw [hd]; simpa using h1
  subst hde
  have h0':=h0 rfl
  simp only [oH,if_true] at t1 t2 ⊢
  simp [h1]
  refine gw ?_
  refine hZ (t0) ?_
  simp [h0']
  refine gw ?_
  refine hZ (t1) ?_
  refine gs ?_
  refine hZ (t2) ?_
  refine gs ?_
  refine ⟨_,rfl,?_⟩
  exact sZ _ [(4,4,_),(7,7,_)] (by simp [aD,Blk.live]; try omega) (by simp [aD])
 ·have hde:deep=false:=by rw [hd]; simpa using h1
  subst hde
  simp only [oH,Bool.false_eq_true,if_false] at t1 t2 ⊢
  simp [h1]
  refine gw ?_
  refine hZ (t1) ?_
  refine gs ?_
  refine hZ (t2) ?_
  refine gs ?_
  refine ⟨_,rfl,?_⟩
  exact sZ _ [(4,4,_),(7,7,_)] (by simp [aD,Blk.live]; try omega) (by simp [aD])
@[simp] theorem aMo (r:Nat→Option Nat) (bl:Nat→Blk) (kn:Bool) (a:List D) (x:D):fL r bl kn (a.map AV.d++[.d x])=(a.map AV.d++[.d x],[]):=by
  have:=ZP r bl kn (a++[x])
  simpa using this
structure RuX {α:Type} (en:α→AV) (s:List UInt8) (L:Nat) (f:FuncId) (q:RS→α×RS):Prop where
 run:∀ st:RS,At (bX s) st.1→st.1.length≤L→Cf Es f [.ptr 1000000 0 0] [iP s st] (en (q st).1) [iP s (q st).2]
 kp:∀ st,Kp st (q st).2
section
variable {s:List UInt8} (hs:s.length≤5000) {L:Nat} {tm:RS→Tm×RS} {st:RS→Sm×RS} {r:RS}
include hs
theorem wX (ha:At (bX s) r.1) (w:List UInt8):Cf Es 57 [.ptr 1000000 0 0,.d (.str w)] [iP s r] (.d (.bool (gZ w r).1)) [iP s (gZ w r).2]:=by
 unfold gZ
 cases h:dJ w r with
 | true=>exact bG hs ha h
 | false=>exact aX hs ha h
theorem aLi (ht:LO s L 27 tm) (ha:At (bX s) r.1) (hl:r.1.length≤L) :
  Cf Es 112 [.ptr 1000000 0 0] [iP s r] (jX tm r).1.a [iP s (jX tm r).2]:=by
 have h1:=ht.run r ha hl
 have k1:=ht.kp r
 have ha1:=ha.kp k1
 generalize hres:jX tm r=res
 unfold jX WY at hres
 refine cI bI (fn:=Tryz.f112) rfl ?_
 generalize tm r=x at *
 obtain ⟨t,r1⟩:=x
 simp only at hres h1 k1 ha1
 refine gs ?_
 refine kZ (h1) ?_
 refine gs ?_
 cases hw:dJ rV r1 with
 | true =>
   rw [if_pos hw] at hres
   have ha2:=ha1.kp (cG hw)
   have hn:=wS hs ha2
   subst hres
   refine kZ (bG hs ha1 hw) ?_
   refine gs ?_
   refine kZ (hn) ?_
   simp [It.a,It.c] <;> exact gz
 | false =>
   rw [if_neg (by rw [hw]; exact Bool.false_ne_true)] at hres
   subst hres
   refine kZ (aX hs ha1 hw) ?_
   simp [It.a,It.c] <;> exact gz
theorem aFU (hst:RuX Sm.a s L 40 st) (ha:At (bX s) r.1) (hl:r.1.length≤L+1) :
  Cf Es 113 [.ptr 1000000 0 0] [iP s r] (So.a (bC st r).1) [iP s (bC st r).2]:=by
 generalize hres:bC st r=res
 unfold bC at hres
 refine cI bI (fn:=Tryz.f113) rfl ?_
 cases hw:dJ bF r with
 | true =>
   rw [if_pos hw] at hres
   have hlen:=oO hw
   have ha1:=ha.kp (cG hw)
   have hto:=bG hs ha hw
   generalize aK r=r1 at *
   have h1:=hst.run r1 ha1 (by omega)
   have ha2:=ha1.kp (hst.kp r1)
   generalize st r1=x at *
   obtain ⟨x,r2⟩:=x
   simp only at hres h1 ha2
   have w2:=dY hs ha2 aY
   have ha3:=ha2.kp (bS aY r2)
   generalize aN aY r2=r3 at *
   have w3:=dY hs ha3 rV
   have ha4:=ha3.kp (bS rV r3)
   generalize aN rV r3=r4 at *
   have hn:=wS hs ha4
   generalize fK r4=y at *
   obtain ⟨n,r5⟩:=y
   simp only at hres hn
   subst hres
   refine gs ?_
   refine kZ (hto) ?_
   refine gs ?_
   refine kZ (h1) ?_
   refine gs ?_
   refine kZ (w2) ?_
   refine gs ?_
   refine kZ (w3) ?_
   refine gs ?_
   refine kZ (hn) ?_
   simp [So.a,jJ,kK] <;> exact gz
 | false =>
   rw [if_neg (by rw [hw]; exact Bool.false_ne_true)] at hres
   have hn:=wS hs ha
   have ha1:=ha.kp (rE r)
   generalize fK r=y at *
   obtain ⟨n,r1⟩:=y
   simp only at hres hn ha1
   unfold WY at hres
   refine gs ?_
   refine kZ (aX hs ha hw) ?_
   refine gs ?_
   refine kZ (hn) ?_
   refine gs ?_
   cases hw2:dJ rV r1 with
   | true =>
     rw [if_pos hw2] at hres
     have ha2:=ha1.kp (cG hw2)
     have hn2:=wS hs ha2
     subst hres
     refine kZ (bG hs ha1 hw2) ?_
     refine gs ?_
     refine kZ (hn2) ?_
     simp [So.a,jJ,kK] <;> exact gz
   | false =>
     rw [if_neg (by rw [hw2]; exact Bool.false_ne_true)] at hres
     subst hres
     refine kZ (aX hs ha1 hw2) ?_
     simp [So.a,jJ,kK] <;> exact gz
end
def pX:Nat:=50000
theorem aFD {s:List UInt8} (h:(dD s).2=0) (hk:(dD s).1.k=1):dD s=(V.mk 1 (dD s).1.n [],0):=by
 obtain ⟨h1,_⟩:=KC h
 generalize dD s=x at *
 obtain ⟨⟨k,n,t⟩,e⟩:=x
 simp only at h hk h1
 subst h hk
 rcases jE h1 with h | h | h | h | h
 ·cases h
 ·obtain ⟨_,ht,_⟩:=h
  simp only at ht
  subst ht
  rfl
 ·cases h
 ·cases h
 ·exact absurd h.1 (by show ¬ (1:Int)=3; decide)
theorem aFE {s:List UInt8} (h:(dD s).2=0) (hh:s.head?=some 39):dD s=(V.mk 3 0 (dD s).1.t,0):=by
 obtain ⟨h1,h2⟩:=KC h
 generalize dD s=x at *
 obtain ⟨⟨k,n,t⟩,e⟩:=x
 simp only at h h1 h2
 subst h
 rw [← h2] at hh
 rcases jE h1 with hv | hv | hv | hv | hv
 ·rw [hv] at hh; exact absurd hh (by decide)
 ·obtain ⟨hk,ht,_⟩:=hv
  simp only at hk ht
  subst hk ht
  unfold gC at hh
  rw [if_pos h1,if_pos rfl] at hh
  obtain ⟨c,r,hi,hc⟩:=NC n
  rw [hi] at hh
  simp only [List.head?_cons,Option.some.injEq] at hh
  subst hh
  have:(39:UInt8).toNat=39:=rfl
  omega
 ·rw [hv] at hh; exact absurd hh (by decide)
 ·rw [hv] at hh; exact absurd hh (by decide)
 ·obtain ⟨hk,hn⟩:=hv
  simp only at hk hn
  subst hk hn
  rfl
theorem aIn {s:List UInt8} (hs:s.length≤5000) (a:Nat):TkV (dP s a):=by
 have hl:(dP s a).rw.length≤10000:=by
  show ((s.drop (gI s a)).take _).length≤_
  simp only [List.length_take,List.length_drop]
  omega
 unfold dP at *
 generalize s.drop (gI s a)=r at *
 generalize gI s a=z at *
 suffices h:((cP r).1=2→dD (r.take (cP r).2.1)=(V.mk 1 (cP r).2.2.2 [],0))∧((cP r).1=3→dD (r.take (cP r).2.1)=(V.mk 3 0 (cP r).2.2.1,0)) from ⟨h.1,h.2,hl⟩
 clear hl
 cases r with
 | nil=>exact ⟨fun h=>by simp [cP] at h,fun h=>by simp [cP] at h⟩
 | cons c q =>
   unfold cP
   simp only
   by_cases h1:jO c=true
   ·rw [if_pos h1]
    split
    ·exact ⟨fun h=>by simp at h,fun h=>by simp at h⟩
    ·exact ⟨fun h=>by simp at h,fun h=>by simp at h⟩
   rw [if_neg h1]
   by_cases h2:cU c=true
   ·rw [if_pos h2]
    split
    ·rename_i hr
     exact ⟨fun _=>aFD hr.1 hr.2,fun h=>by simp at h⟩
    ·exact ⟨fun h=>by simp at h,fun h=>by simp at h⟩
   rw [if_neg h2]
   by_cases h3:c=39
   ·rw [if_pos h3]
    cases q.findIdx? (·==39) with
    | none=>exact ⟨fun h=>by simp at h,fun h=>by simp at h⟩
    | some i =>
      simp only
      split
      ·rename_i hr
       exact ⟨fun h=>by simp at h,fun _=>aFE hr (by rw [h3]; rfl)⟩
      ·exact ⟨fun h=>by simp at h,fun h=>by simp at h⟩
   rw [if_neg h3]
   split
   ·exact ⟨fun h=>by simp at h,fun h=>by simp at h⟩
   ·split
    ·exact ⟨fun h=>by simp at h,fun h=>by simp at h⟩
    ·exact ⟨fun h=>by simp at h,fun h=>by simp at h⟩
theorem aKR {s:List UInt8} (hs:s.length≤5000):okT (bX s):=fun t ht=>by
 obtain ⟨b,rfl⟩:=KD s _ _ t ht
 exact aIn hs b
theorem IY {s:List UInt8} {a:Nat} (ha:a≤s.length):((dP s a).kd=5→(dP s a).fr=s.length)∧((dP s a).kd=0→(dP s a).fr<s.length):=by
 have h:=FJ ha
 have hf:(dP s a).fr=gI s a:=rfl
 have hk:(dP s a).kd=(cP (s.drop (gI s a))).1:=rfl
 rw [hf,hk]
 rcases Nat.lt_or_ge (gI s a) s.length with c | c
 ·refine ⟨fun h5=>?_,fun _=>c⟩
  cases hd:s.drop (gI s a) with
  | nil=>have:=List.drop_eq_nil_iff.1 hd; omega
  | cons x q=>rw [hd] at h5; exact absurd h5 aFf
 ·refine ⟨fun _=>by omega,fun h0=>?_⟩
  rw [show gI s a=s.length from by omega,List.drop_length] at h0
  cases h0
theorem IZ (s:List UInt8):∀ (k a:Nat) (t:Tk),a≤s.length→t∈sI s k a→(t.kd=5→t.fr=s.length)∧(t.kd=0→t.fr<s.length)
 | 0,a,t,_,h=>by cases h
 | k+1,a,t,ha,h=>by
   rw [sI] at h
   split at h
   ·rw [List.mem_singleton.1 h]; exact IY ha
   ·rcases List.mem_cons.1 h with e | h
    ·rw [e]; exact IY ha
    ·exact IZ s k _ t (wM ha).2.1 h
theorem aAb {s:List UInt8} {m:List Tk} (h:At (bX s) m):((eU m).kd=5→(eU m).fr=s.length)∧((eU m).kd=0→(eU m).fr<s.length):=by
 cases m with
 | nil=>exact absurd rfl h.ne
 | cons t r=>exact IZ s _ 0 t (Nat.zero_le _) (h.sfx.subset List.mem_cons_self)
@[simp] theorem aNY {E:dA} {fn:Func} {y:AV} {st:St} {b1 b2:Blk}:Ab.Ends E fn 2 y [b1,b2] st=LW 2 (uR E fn st) st.b y [b1,b2]:=BS (B':=[b1,b2])
theorem aIo {b0 b1:Blk} {bl:Nat→Blk}:KeptOk 2 bl (BR [b0,b1]) =
  ((((bl 1000000).live=true∨bl 1000000=.dead)∧(qG (aD (BR [b0,b1])) bl true (bl 1000000)).1=b0) ∧
  (((bl 1000001).live=true∨bl 1000001=.dead)∧(qG (aD (BR [b0,b1])) bl true (bl 1000001)).1=b1)):=by
 have:=@GV [b0,b1] bl
 simp only [List.length_cons,List.length_nil,Nat.zero_add,Nat.reduceAdd] at this
 rw [this]
 apply propext
 constructor
 ·intro h; exact ⟨h 0 b0 rfl,h 1 b1 rfl⟩
 ·rintro ⟨h0,h1⟩ i c hc
  match i,hc with
  | 0,hc=>cases hc; exact h0
  | 1,hc=>cases hc; exact h1
def fnR:Nat→FuncId
 | 0=>27
 | 1=>56
 | 2=>94
 | 3=>136
 | 4=>170
 | 5=>189
 | 6=>199
 | _=>207
theorem aJV {s:List UInt8} (hs:s.length≤5000):∀ (n lvl:Nat) (st:RS),lvl≤7→At (bX s) st.1→vG lvl st.1≤n→Cf Es (fnR lvl) [.ptr 1000000 0 0] [iP s st] (bK n lvl st).1.a [iP s (bK n lvl st).2]
 | 0,lvl,st,hv,ha,hn=>by
   have:=List.length_pos_iff.2 ha.ne
   unfold vG at hn
   omega
 | n+1,lvl,st,hv,ha,hn=>by
   have hpos:=List.length_pos_iff.2 ha.ne
   have hT:=ha.sfx.length_le
   have hT2:=kJ s
   have rl:∀ (k L:Nat),k≤7→9*L+8 - k≤n→LO s L (fnR k) (bK n k):=fun k L hk hL =>
    ⟨fun st' ha' hl'=>aJV hs n k st' hk ha' (by unfold vG; omega),gD n k⟩
   unfold vG at hn
   match lvl,hv,hn with
   | 0,_,hn=>rw [bK]; exact aLg hs (rl 1 st.1.length (by omega) (by omega)) ha (Nat.le_refl _)
   | 1,_,hn=>rw [bK]; exact aNb hs (rl 2 st.1.length (by omega) (by omega)) ha (Nat.le_refl _)
   | 2,_,hn=>rw [bK]; exact aNd hs (L:=st.1.length - 1) (rl 2 _ (by omega) (by omega)) (rl 3 _ (by omega) (by omega)) ha (by omega)
   | 3,_,hn =>
     have e:bK (n+1) 3 st=aFF (bK n 4) (bK n 0) st:=by rw [bK]; rfl
     rw [e]
     exact PZ hs (L:=st.1.length - 1) (rl 4 _ (by omega) (by omega)) (rl 0 _ (by omega) (by omega)) (by omega) ha (by omega)
   | 4,_,hn=>rw [bK]; exact aNc hs (rl 5 st.1.length (by omega) (by omega)) ha (Nat.le_refl _)
   | 5,_,hn=>rw [bK]; exact aDB hs (rl 6 st.1.length (by omega) (by omega)) ha (Nat.le_refl _)
   | 6,_,hn=>exact aIA hs (L:=st.1.length - 1) (rl 6 _ (by omega) (by omega)) (rl 7 _ (by omega) (by omega)) ha (by omega) (by rw [bK])
   | 7,_,hn =>
     have e:bK (n+1) 7 st=aLh (bK n 0) st:=by rw [bK]; rfl
     exact aDC hs (L:=st.1.length - 1) (rl 0 _ (by omega) (by omega)) ha (by omega) e.symm
   | k+8,hv,_=>omega
theorem aDE (s:List UInt8):eU (bX s)=dP s 0:=by
 have h:=(yA (s:=s) (s.length+1) 0 (Nat.zero_le _) (by omega)).2
 unfold bX
 cases ht:sI s (s.length+1) 0 with
 | nil=>rw [ht] at h; cases h
 | cons t r=>rw [ht] at h; exact Option.some.inj h
theorem aLq {s:List UInt8} (hs:s.length≤5000):Cf Es 26 [.d (.str s)] [] (.ptr 1000000 0 0) [iP s (bX s,-1)]:=by
 have hsc:=aFR s hs 0 (Nat.zero_le _)
 refine cJ bI (fn:=Tryz.f26) rfl ?_
 simp only [iP,aDE]
 generalize dP s 0=t at *
 refine gs ?_
 refine aP hsc ?_
 simp [RL,RK]
 refine gr ?_
 exact EndsS.of [7] _ rfl (by simp; rfl) (by decide) rfl (by apply aOn<;>simp [Blk.live]) (by simp [aD])
end Go.Proofs.Tryz
